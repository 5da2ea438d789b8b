/- Contracts of the small functions of package config. -/
import Derived.Test.YtiedmigdgelhkaaTypes
import Derived.Test.YtiedmigdgelhkaaPlanData
namespace Go.Proofs.Ytiedmigdgelhkaa
open Go Go.RowKit Bx Go.Proofs

theorem cwithin_c (w : World) (n a b : Int) : Calls Try.prog 49 #[.int .i64 n, .int .i64 a, .int .i64 b] w (Ret fun v w' => Kp0 w w' ∧ v = .bool (decide (a ≤ n ∧ n ≤ b))) := by
  have T : Kp0 w w := Kp.refl _ _
  refine calls_start Try.func49 rfl (n := 15) rfl rfl rfl ?_
  refine CW_seq ?_
  refine CW_reg rfl ?_
  refine OW_ev (Ev_c (.inr rfl)) rfl ?_
  refine OW_nil ?_
  refine CW_seq ?_
  refine CW_reg rfl ?_
  refine OW_ev (Ev_mvi (.inl rfl) rfl) rfl ?_
  refine OW_ev (Ev_mvi (.inl rfl) rfl) rfl ?_
  refine OW_ev (Ev_geq rfl rfl rfl) rfl ?_
  refine OW_ev (Ev_mvb (.inl rfl) rfl) rfl ?_
  refine OW_split (d := .tmp 10) rfl (fun c1 => ?_) (fun c1 => ?_)
  · have d1 := c1
    first | (with_reducible replace d1 := of_decide_eq_true d1) | (with_reducible replace d1 := bnt d1; try (with_reducible replace d1 := of_decide_eq_false d1)) | skip
    refine OW_yes rfl rfl rfl rfl c1 (Ev.stp (Ev_mvi (.inl rfl) rfl) ?_)
    refine OW_yes rfl rfl rfl rfl c1 (Ev.stp (Ev_mvi (.inl rfl) rfl) ?_)
    refine OW_yes rfl rfl rfl rfl c1 (Ev.stp (Ev_leq rfl rfl rfl) ?_)
    refine OW_ev (Ev_pickb_t rfl rfl c1 rfl) rfl ?_
    refine OW_ev (Ev_mvb (.inr rfl) rfl) rfl ?_
    refine OW_nil ?_
    refine CW_ret ?_
    refine ⟨rfl, _, (.tmp rfl .nil), ?_⟩
    exact ⟨T, vb rfl (by first | rfl | exact decide_eq_decide.2 (by omega) | exact (decide_eq_false (by omega)).symm | exact (decide_eq_true (by omega)).symm)⟩
  · have d1 := c1
    first | (with_reducible replace d1 := of_decide_eq_false d1) | (with_reducible replace d1 := bnf d1; try (with_reducible replace d1 := of_decide_eq_true d1)) | skip
    refine OW_no rfl rfl rfl rfl c1 ?_
    refine OW_no rfl rfl rfl rfl c1 ?_
    refine OW_no rfl rfl rfl rfl c1 ?_
    refine OW_ev (Ev_pickb_f rfl rfl c1 rfl) rfl ?_
    refine OW_ev (Ev_mvb (.inr rfl) rfl) rfl ?_
    refine OW_nil ?_
    refine CW_ret ?_
    refine ⟨rfl, _, (.tmp rfl .nil), ?_⟩
    exact ⟨T, vb rfl (by first | rfl | exact decide_eq_decide.2 (by omega) | exact (decide_eq_false (by omega)).symm | exact (decide_eq_true (by omega)).symm)⟩

theorem beyond_c (w : World) (n a b : Int) (hn : i64r n) (ha : i64r a) (hb : 1 ≤ b ∧ b ≤ 9223372036854775807) : Calls Try.prog 64 #[.int .i64 n, .int .i64 a, .int .i64 b] w (Ret fun v w' => Kp0 w w' ∧ v = .bool (decide (a + b ≤ n))) := by
  unfold i64r at hn ha
  have T : Kp0 w w := Kp.refl _ _
  refine calls_start Try.func64 rfl (n := 18) rfl rfl rfl ?_
  refine CW_seq ?_
  refine CW_reg rfl ?_
  refine OW_ev (Ev_c (.inr rfl)) rfl ?_
  refine OW_nil ?_
  refine CW_seq ?_
  refine CW_reg rfl ?_
  refine OW_ev (Ev_mvi (.inl rfl) rfl) rfl ?_
  refine OW_ev (Ev_mvi (.inl rfl) rfl) rfl ?_
  refine OW_ev (Ev_sub rfl rfl rfl (by first | (apply IntWalk.i64_in; omega) | (apply IntWalk.u64_in; omega) | (apply IntWalk.u32_in; omega) | (apply IntWalk.u8_in; omega) | (apply IntWalk.i32_in; omega) | rfl)) rfl ?_
  refine OW_ev (Ev_leq rfl rfl rfl) rfl ?_
  refine OW_ev (Ev_mvb (.inl rfl) rfl) rfl ?_
  refine OW_split (d := .tmp 11) rfl (fun c1 => ?_) (fun c1 => ?_)
  · have d1 := c1
    first | (with_reducible replace d1 := of_decide_eq_true d1) | (with_reducible replace d1 := bnt d1; try (with_reducible replace d1 := of_decide_eq_false d1)) | skip
    have hs : a ≤ 9223372036854775807 - b := d1
    refine OW_yes rfl rfl rfl rfl c1 (Ev.stp (Ev_mvi (.inl rfl) rfl) ?_)
    refine OW_yes rfl rfl rfl rfl c1 (Ev.stp (Ev_mvi (.inl rfl) rfl) ?_)
    refine OW_yes rfl rfl rfl rfl c1 (Ev.stp (Ev_mvi (.inl rfl) rfl) ?_)
    refine OW_yes rfl rfl rfl rfl c1 (Ev.stp (Ev_add rfl rfl rfl (by first | (apply IntWalk.i64_in; omega) | (apply IntWalk.u64_in; omega) | (apply IntWalk.u32_in; omega) | (apply IntWalk.u8_in; omega) | (apply IntWalk.i32_in; omega) | rfl)) ?_)
    refine OW_yes rfl rfl rfl rfl c1 (Ev.stp (Ev_geq rfl rfl rfl) ?_)
    refine OW_ev (Ev_pickb_t rfl rfl c1 rfl) rfl ?_
    refine OW_ev (Ev_mvb (.inr rfl) rfl) rfl ?_
    refine OW_nil ?_
    refine CW_ret ?_
    refine ⟨rfl, _, (.tmp rfl .nil), ?_⟩
    exact ⟨T, vb rfl (by first | rfl | exact decide_eq_decide.2 (by omega) | exact (decide_eq_false (by omega)).symm | exact (decide_eq_true (by omega)).symm)⟩
  · have d1 := c1
    first | (with_reducible replace d1 := of_decide_eq_false d1) | (with_reducible replace d1 := bnf d1; try (with_reducible replace d1 := of_decide_eq_true d1)) | skip
    have hs : ¬ a ≤ 9223372036854775807 - b := d1
    refine OW_no rfl rfl rfl rfl c1 ?_
    refine OW_no rfl rfl rfl rfl c1 ?_
    refine OW_no rfl rfl rfl rfl c1 ?_
    refine OW_no rfl rfl rfl rfl c1 ?_
    refine OW_no rfl rfl rfl rfl c1 ?_
    refine OW_ev (Ev_pickb_f rfl rfl c1 rfl) rfl ?_
    refine OW_ev (Ev_mvb (.inr rfl) rfl) rfl ?_
    refine OW_nil ?_
    refine CW_ret ?_
    refine ⟨rfl, _, (.tmp rfl .nil), ?_⟩
    exact ⟨T, vb rfl (by first | rfl | exact decide_eq_decide.2 (by omega) | exact (decide_eq_false (by omega)).symm | exact (decide_eq_true (by omega)).symm)⟩

set_option maxRecDepth 10000 in
set_option maxHeartbeats 2000000 in
theorem apart_c (w : World) (x y : PrtM) (hx : x.r.ok) (hy : y.r.ok) : Calls Try.prog 52 #[.agg x.cl.toArray, .agg y.cl.toArray] w (Ret fun v w' => Kp0 w w' ∧ v = .bool (apart x.r y.r)) := by
  have T : Kp0 w w := Kp.refl _ _
  refine calls_start Try.func52 rfl (n := 29) rfl rfl rfl ?_
  refine CW_seq ?_
  refine CW_reg rfl ?_
  refine OW_st rfl (Stp_box (l := [.int _ _, .int _ _, .int _ _, .slice _ _ _, .int _ _, .int _ _]) rfl rfl rfl ?_)
  intro b1 w1 hb1 hz1 E1 B1
  have L1 : _ ≤ b1 := Nat.le_trans T.size (Nat.le_of_eq hb1.symm)
  have T := T.keep0 E1
  replace B1 : Blk w1 b1 65 (x.cl) := B1
  refine OW_st rfl (Stp_box (l := [.int _ _, .int _ _, .int _ _, .slice _ _ _, .int _ _, .int _ _]) rfl rfl rfl ?_)
  intro b2 w2 hb2 hz2 E2 B2
  have L2 : _ ≤ b2 := Nat.le_trans T.size (Nat.le_of_eq hb2.symm)
  have T := T.keep0 E2
  have B1 := B1.keep0 E2
  replace B2 : Blk w2 b2 65 (y.cl) := B2
  refine OW_ev (Ev_c (.inr rfl)) rfl ?_
  refine OW_nil ?_
  refine CW_seq ?_
  refine CW_seq ?_
  refine CW_reg rfl ?_
  refine OW_ev (Ev_fieldAddr fld_65_1 rfl rfl) rfl ?_
  refine OW_ev (Ev_load one_3 rfl rfl (B1.ld (q := 1) rfl)) rfl ?_
  refine OW_ev (Ev_lss rfl rfl rfl) rfl ?_
  refine OW_ev (Ev_mvb (.inl rfl) rfl) rfl ?_
  refine OW_split (d := .tmp 8) rfl (fun c3 => ?_) (fun c3 => ?_)
  · have d3 := c3
    first | (with_reducible replace d3 := of_decide_eq_true d3) | (with_reducible replace d3 := bnt d3; try (with_reducible replace d3 := of_decide_eq_false d3)) | skip
    have h1 := d3
    refine OW_no rfl rfl rfl rfl c3 ?_
    refine OW_no rfl rfl rfl rfl c3 ?_
    refine OW_no rfl rfl rfl rfl c3 ?_
    refine OW_ev (Ev_pickb_t rfl rfl c3 rfl) rfl ?_
    refine OW_nil ?_
    refine CW_cond_t rfl rfl ?_
    refine CW_seq ?_
    refine CW_reg rfl ?_
    refine OW_ev (Ev_c (.inr rfl)) rfl ?_
    refine OW_nil ?_
    refine CW_ret ?_
    refine ⟨rfl, _, (.tmp rfl .nil), ?_⟩
    exact ⟨T, vb rfl (by unfold apart; first | (exact (decide_eq_true (by omega)).symm) | (exact decide_eq_decide.2 (by omega)))⟩
  · have d3 := c3
    first | (with_reducible replace d3 := of_decide_eq_false d3) | (with_reducible replace d3 := bnf d3; try (with_reducible replace d3 := of_decide_eq_true d3)) | skip
    have h1 := d3
    refine OW_yes rfl rfl rfl rfl c3 (Ev.stp (Ev_fieldAddr fld_65_1 rfl rfl) ?_)
    refine OW_yes rfl rfl rfl rfl c3 (Ev.stp (Ev_load one_3 rfl rfl (B2.ld (q := 1) rfl)) ?_)
    refine OW_yes rfl rfl rfl rfl c3 (Ev.stp (Ev_lss rfl rfl rfl) ?_)
    refine OW_ev (Ev_pickb_f rfl rfl c3 rfl) rfl ?_
    refine OW_nil ?_
    refine CW_cond rfl (fun c4 => ?_) (fun c4 => ?_)
    · have d4 := c4
      first | (with_reducible replace d4 := of_decide_eq_true d4) | (with_reducible replace d4 := bnt d4; try (with_reducible replace d4 := of_decide_eq_false d4)) | skip
      have h2 := d4
      refine CW_seq ?_
      refine CW_reg rfl ?_
      refine OW_ev (Ev_c (.inr rfl)) rfl ?_
      refine OW_nil ?_
      refine CW_ret ?_
      refine ⟨rfl, _, (.tmp rfl .nil), ?_⟩
      exact ⟨T, vb rfl (by unfold apart; first | (exact (decide_eq_true (by omega)).symm) | (exact decide_eq_decide.2 (by omega)))⟩
    · have d4 := c4
      first | (with_reducible replace d4 := of_decide_eq_false d4) | (with_reducible replace d4 := bnf d4; try (with_reducible replace d4 := of_decide_eq_true d4)) | skip
      have h2 := d4
      refine CW_skip ?_
      refine CW_seq ?_
      refine CW_reg rfl ?_
      refine OW_ev (Ev_fieldAddr fld_65_0 rfl rfl) rfl ?_
      refine OW_ev (Ev_load one_3 rfl rfl (B1.ld (q := 0) rfl)) rfl ?_
      refine OW_ev (Ev_fieldAddr fld_65_0 rfl rfl) rfl ?_
      refine OW_ev (Ev_load one_3 rfl rfl (B2.ld (q := 0) rfl)) rfl ?_
      refine OW_ev (Ev_fieldAddr fld_65_1 rfl rfl) rfl ?_
      refine OW_ev (Ev_load one_3 rfl rfl (B2.ld (q := 1) rfl)) rfl ?_
      refine OW_st rfl (Stp_call ent_64 rfl rfl rfl (beyond_c _ _ _ _ hx.1 hy.1 ⟨by omega, hy.2.1.2⟩) ?_)
      rintro _ w5 ⟨E5, rfl⟩
      have Z5 := E5.size
      have T := T.keep0 E5
      have B1 := B1.keep0 E5
      have B2 := B2.keep0 E5
      refine OW_ev (Ev_mvb (.inl rfl) rfl) rfl ?_
      refine OW_split (d := .tmp 20) rfl (fun c6 => ?_) (fun c6 => ?_)
      · have d6 := c6
        first | (with_reducible replace d6 := of_decide_eq_true d6) | (with_reducible replace d6 := bnt d6; try (with_reducible replace d6 := of_decide_eq_false d6)) | skip
        have h3 := d6
        refine OW_no rfl rfl rfl rfl c6 ?_
        refine OW_no rfl rfl rfl rfl c6 ?_
        refine OW_no rfl rfl rfl rfl c6 ?_
        refine OW_no rfl rfl rfl rfl c6 ?_
        refine OW_no rfl rfl rfl rfl c6 ?_
        refine OW_no rfl rfl rfl rfl c6 ?_
        refine OW_no rfl rfl rfl rfl c6 ?_
        refine OW_ev (Ev_pickb_t rfl rfl c6 rfl) rfl ?_
        refine OW_ev (Ev_mvb (.inr rfl) rfl) rfl ?_
        refine OW_nil ?_
        refine CW_ret ?_
        refine ⟨rfl, _, (.tmp rfl .nil), ?_⟩
        exact ⟨T, vb rfl (by unfold apart; first | (exact (decide_eq_true (by omega)).symm) | (exact decide_eq_decide.2 (by omega)))⟩
      · have d6 := c6
        first | (with_reducible replace d6 := of_decide_eq_false d6) | (with_reducible replace d6 := bnf d6; try (with_reducible replace d6 := of_decide_eq_true d6)) | skip
        have h3 := d6
        refine OW_yes rfl rfl rfl rfl c6 (Ev.stp (Ev_fieldAddr fld_65_0 rfl rfl) ?_)
        refine OW_yes rfl rfl rfl rfl c6 (Ev.stp (Ev_load one_3 rfl rfl (B2.ld (q := 0) rfl)) ?_)
        refine OW_yes rfl rfl rfl rfl c6 (Ev.stp (Ev_fieldAddr fld_65_0 rfl rfl) ?_)
        refine OW_yes rfl rfl rfl rfl c6 (Ev.stp (Ev_load one_3 rfl rfl (B1.ld (q := 0) rfl)) ?_)
        refine OW_yes rfl rfl rfl rfl c6 (Ev.stp (Ev_fieldAddr fld_65_1 rfl rfl) ?_)
        refine OW_yes rfl rfl rfl rfl c6 (Ev.stp (Ev_load one_3 rfl rfl (B1.ld (q := 1) rfl)) ?_)
        refine OW_yes rfl rfl rfl rfl c6 (Stp_call ent_64 rfl rfl rfl (beyond_c _ _ _ _ hy.1 hx.1 ⟨by omega, hx.2.1.2⟩) ?_)
        rintro _ w7 ⟨E7, rfl⟩
        have Z7 := E7.size
        have T := T.keep0 E7
        have B1 := B1.keep0 E7
        have B2 := B2.keep0 E7
        refine OW_ev (Ev_pickb_f rfl rfl c6 rfl) rfl ?_
        refine OW_ev (Ev_mvb (.inr rfl) rfl) rfl ?_
        refine OW_nil ?_
        refine CW_ret ?_
        refine ⟨rfl, _, (.tmp rfl .nil), ?_⟩
        exact ⟨T, vb rfl (by unfold apart; first | (exact (decide_eq_true (by omega)).symm) | (exact decide_eq_decide.2 (by omega)))⟩

set_option maxRecDepth 10000 in
set_option maxHeartbeats 2000000 in
theorem drains1_c (w : World) (x : Int × Int) : Calls Try.prog 66 #[.agg (I2 x).toArray] w (Ret fun v w' => Kp0 w w' ∧ v = .bool (decide (x.1 = -1))) := by
  have T : Kp0 w w := Kp.refl _ _
  refine calls_start Try.func66 rfl (n := 6) rfl rfl rfl ?_
  refine CW_seq ?_
  refine CW_reg rfl ?_
  refine OW_st rfl (Stp_box (l := [.int _ _, .int _ _]) rfl rfl rfl ?_)
  intro b1 w1 hb1 hz1 E1 B1
  have L1 : _ ≤ b1 := Nat.le_trans T.size (Nat.le_of_eq hb1.symm)
  have T := T.keep0 E1
  replace B1 : Blk w1 b1 88 (I2 x) := B1
  refine OW_ev (Ev_c (.inr rfl)) rfl ?_
  refine OW_nil ?_
  refine CW_seq ?_
  refine CW_reg rfl ?_
  refine OW_ev (Ev_fieldAddr fld_88_0 rfl rfl) rfl ?_
  refine OW_ev (Ev_load one_3 rfl rfl (B1.ld (q := 0) rfl)) rfl ?_
  refine OW_ev (Ev_eql rfl rfl rfl) rfl ?_
  refine OW_ev (Ev_mvb (.inr rfl) rfl) rfl ?_
  refine OW_nil ?_
  refine CW_ret ?_
  refine ⟨rfl, _, (.tmp rfl .nil), ?_⟩
  exact ⟨T, rfl⟩

set_option maxRecDepth 10000 in
set_option maxHeartbeats 2000000 in
theorem ticks_c {F : Nat → Prop} {w : World} {p : PlnM} {fk : Nat} {q : Int × Int → Bool} (hP : PlnS F w p) (hl : p.ws.length ≤ 1000000) (hent : ∀ args w, (callFunc fk args).run Try.prog w = .ok (.enter fk args) w) (hq : ∀ (w : World) (x : Int × Int), Calls Try.prog fk #[.agg (I2 x).toArray] w (Ret fun v w' => Kp0 w w' ∧ v = .bool (q x))) : Calls Try.prog 65 #[.agg p.cl.toArray, .func (.func fk) #[] #[]] w (Ret fun v w' => Kp0 w w' ∧ v = .int .i64 (ticksOf q p.ws)) := by
  have hP := hP.old
  have T : Kp0 w w := Kp.refl _ _
  refine calls_start Try.func65 rfl (n := 30) rfl rfl rfl ?_
  refine CW_seq ?_
  refine CW_reg rfl ?_
  refine OW_st rfl (Stp_box (l := [.int _ _, .slice _ _ _, .slice _ _ _, .slice _ _ _]) rfl rfl rfl ?_)
  intro b1 w1 hb1 hz1 E1 B1
  have L1 : _ ≤ b1 := Nat.le_trans T.size (Nat.le_of_eq hb1.symm)
  have T := T.keep0 E1
  replace B1 : Blk w1 b1 51 (p.cl) := B1
  refine OW_ev (Ev_c (.inr rfl)) rfl ?_
  refine OW_nil ?_
  refine CW_seq ?_
  refine CW_reg rfl ?_
  refine OW_ev (Ev_c (.inr rfl)) rfl ?_
  refine OW_nil ?_
  refine CW_seq ?_
  refine CW_seq ?_
  refine CW_reg rfl ?_
  refine OW_ev (Ev_fieldAddr fld_51_2 rfl rfl) rfl ?_
  refine OW_ev (Ev_load one_48 rfl rfl (B1.ld (q := 2) rfl)) rfl ?_
  refine OW_ev (Ev_len und_48 rfl rfl) rfl ?_
  refine OW_ev (Ev_c (.inl rfl)) rfl ?_
  refine OW_nil ?_
  refine CW_block ?_
  refine CW_loop (α := Nat) (fun (k : Nat) f wr => AllEq f [(1, .func (.func fk) #[] #[]), (5, .int .i64 (ticksOf q (p.ws.take k))), (9, .slice p.wa p.ws.length p.wc), (10, .int .i64 (p.ws.length : Int)), (11, .int .i64 (k : Int))] ∧ (k ≤ p.ws.length) ∧ (Kp0 w wr)) (fun k => p.ws.length - k) 0 ?_ ?_
  ·
    exact ⟨⟨rfl, rfl, rfl, rfl, rfl, trivial⟩, Nat.zero_le _, T⟩
  ·
    rintro k f wr ⟨hf, hk, T⟩
    obtain ⟨g, rfl⟩ : ∃ g, f = upl g [(1, .func (.func fk) #[] #[]), (5, .int .i64 (ticksOf q (p.ws.take k))), (9, .slice p.wa p.ws.length p.wc), (10, .int .i64 (p.ws.length : Int)), (11, .int .i64 (k : Int))] := ⟨f, upl_self hf⟩
    clear hf
    have hP := hP.keep0 T
    have hx := hP.2.1
    have hbd := ticksOf_take_bd q p.ws k
    refine CW_seq ?_
    refine CW_reg rfl ?_
    refine OW_ev (Ev_lss rfl rfl rfl) rfl ?_
    refine OW_nil ?_
    refine CW_seq ?_
    refine CW_cond rfl (fun c2 => ?_) (fun c2 => ?_)
    · have d2 := c2
      first | (with_reducible replace d2 := of_decide_eq_true d2) | (with_reducible replace d2 := bnt d2; try (with_reducible replace d2 := of_decide_eq_false d2)) | skip
      have hk2 : k < p.ws.length := by omega
      obtain ⟨x, hxj, hgx, hmem⟩ := getW (ws := p.ws) (j := k) (by omega)
      have hst := ticksOf_take (q := q) hxj
      have hr := hP.2.2.2.2.2.1 x hmem
      have K := hP.2.1.at_ hgx
      refine CW_skip ?_
      refine CW_seq ?_
      refine CW_block ?_
      refine CW_seq ?_
      refine CW_reg rfl ?_
      refine OW_ev (Ev_idx k (hP.2.1.ad hgx) sl_48 rfl rfl rfl rfl (by omega)) rfl ?_
      refine OW_ev (Ev_loadAgg (l := [.int _ _, .int _ _]) agg_88 rfl rfl (K.sub 0 rfl) rfl) rfl ?_
      refine OW_st rfl (Stp_alloc zero_88 rfl ?_)
      intro b3 w3 hb3 hz3 E3 B3
      have L3 : _ ≤ b3 := Nat.le_trans T.size (Nat.le_of_eq hb3.symm)
      have T := T.keep0 E3
      have hP := hP.keep0 E3
      have K := K.keep0 E3
      refine OW_st rfl (Stp_store (q := 0) (vs := [.int _ _, .int _ _]) B3 siz_88 rfl rfl rfl rfl (Nat.le_of_ble_eq_true rfl) rfl ?_)
      intro w4 hz4 E4 B4
      have Z4 := E4.size
      have T := T.transb E4 (by omega)
      have hP := hP.keepb E4 (by show ¬ _ < _; omega)
      clear B3
      have B3 : Blk _ _ _ [_, _] := B4
      clear B4
      refine OW_nil ?_
      refine CW_seq ?_
      refine CW_reg rfl ?_
      refine OW_ev (Ev_fieldAddr fld_88_1 rfl rfl) rfl ?_
      refine OW_ev (Ev_load one_3 rfl rfl (B3.ld (q := 1) rfl)) rfl ?_
      refine OW_ev (Ev_gtr rfl rfl rfl) rfl ?_
      refine OW_ev (Ev_mvb (.inl rfl) rfl) rfl ?_
      refine OW_split (d := .tmp 18) rfl (fun c5 => ?_) (fun c5 => ?_)
      · have d5 := c5
        first | (with_reducible replace d5 := of_decide_eq_true d5) | (with_reducible replace d5 := bnt d5; try (with_reducible replace d5 := of_decide_eq_false d5)) | skip
        have hpos : 0 < x.2 := by omega
        refine OW_yes rfl rfl rfl rfl c5 (Ev.stp (Ev_mvf (.inl rfl) rfl) ?_)
        refine OW_yes rfl rfl rfl rfl c5 (Ev.stp (Ev_loadAgg (l := [.int _ _, .int _ _]) agg_88 rfl rfl (B3.sub 0 2 (Nat.le_of_ble_eq_true rfl)) rfl) ?_)
        refine OW_yes rfl rfl rfl rfl c5 (Stp_call (cap := []) hent rfl rfl rfl (hq _ x) ?_)
        rintro _ w6 ⟨E6, rfl⟩
        have Z6 := E6.size
        have T := T.keep0 E6
        have hP := hP.keep0 E6
        have B3 := B3.keep0 E6
        refine OW_ev (Ev_pickb_t rfl rfl c5 rfl) rfl ?_
        refine OW_nil ?_
        refine CW_cond rfl (fun c7 => ?_) (fun c7 => ?_)
        · have d7 := c7
          first | (with_reducible replace d7 := of_decide_eq_true d7) | (with_reducible replace d7 := bnt d7; try (with_reducible replace d7 := of_decide_eq_false d7)) | skip
          have hqx : q x = true := c7
          have htk : tk x.2 = min x.2 1000 := by unfold tk; omega
          refine CW_re [(1, .func _ _ _), (5, .int _ _), (7, .pointer _), (9, .slice _ _ _), (10, .int _ _), (11, .int _ _)] ⟨rfl, rfl, rfl, rfl, rfl, rfl, trivial⟩ (fun g => ?_)
          refine CW_reg rfl ?_
          refine OW_ev (Ev_mvi (.inl rfl) rfl) rfl ?_
          refine OW_ev (Ev_fieldAddr fld_88_1 rfl rfl) rfl ?_
          refine OW_ev (Ev_load one_3 rfl rfl (B3.ld (q := 1) rfl)) rfl ?_
          refine OW_ev (Ev_min2 rfl rfl rfl) rfl ?_
          refine OW_ev (Ev_add rfl rfl rfl (by first | (apply IntWalk.i64_in; omega) | (apply IntWalk.u64_in; omega) | (apply IntWalk.u32_in; omega) | (apply IntWalk.u8_in; omega) | (apply IntWalk.i32_in; omega) | rfl)) rfl ?_
          refine OW_ev (Ev_mvi (.inr rfl) rfl) rfl ?_
          refine OW_nil ?_
          refine CW_reg rfl ?_
          refine OW_ev (Ev_add rfl rfl rfl (by first | (apply IntWalk.i64_in; omega) | (apply IntWalk.u64_in; omega) | (apply IntWalk.u32_in; omega) | (apply IntWalk.u8_in; omega) | (apply IntWalk.i32_in; omega) | rfl)) rfl ?_
          refine OW_ev (Ev_mvi (.inl rfl) rfl) rfl ?_
          refine OW_nil ?_
          refine ⟨k + 1, by omega, ⟨rfl, ?_, rfl, rfl, congrArg (Value.int .i64) (by omega), trivial⟩, by omega, T⟩
          refine vi rfl ?_
          rw [hst]
          first | (rw [htk, ite_self]; omega) | (rw [if_pos hqx]; omega) | (rw [if_neg (by simp [hqx])]; omega) | (rw [htk]; split <;> omega)
        · have d7 := c7
          first | (with_reducible replace d7 := of_decide_eq_false d7) | (with_reducible replace d7 := bnf d7; try (with_reducible replace d7 := of_decide_eq_true d7)) | skip
          have hqx : q x = false := c7
          refine CW_skip ?_
          refine CW_re [(1, .func _ _ _), (5, .int _ _), (9, .slice _ _ _), (10, .int _ _), (11, .int _ _)] ⟨rfl, rfl, rfl, rfl, rfl, trivial⟩ (fun g => ?_)
          refine CW_reg rfl ?_
          refine OW_ev (Ev_add rfl rfl rfl (by first | (apply IntWalk.i64_in; omega) | (apply IntWalk.u64_in; omega) | (apply IntWalk.u32_in; omega) | (apply IntWalk.u8_in; omega) | (apply IntWalk.i32_in; omega) | rfl)) rfl ?_
          refine OW_ev (Ev_mvi (.inl rfl) rfl) rfl ?_
          refine OW_nil ?_
          refine ⟨k + 1, by omega, ⟨rfl, ?_, rfl, rfl, congrArg (Value.int .i64) (by omega), trivial⟩, by omega, T⟩
          refine vi rfl ?_
          rw [hst]
          first | (rw [htk, ite_self]; omega) | (rw [if_pos hqx]; omega) | (rw [if_neg (by simp [hqx])]; omega) | (rw [htk]; split <;> omega)
      · have d5 := c5
        first | (with_reducible replace d5 := of_decide_eq_false d5) | (with_reducible replace d5 := bnf d5; try (with_reducible replace d5 := of_decide_eq_true d5)) | skip
        have hpos : ¬ 0 < x.2 := by omega
        have htk : tk x.2 = 0 := by unfold tk; omega
        refine OW_no rfl rfl rfl rfl c5 ?_
        refine OW_no rfl rfl rfl rfl c5 ?_
        refine OW_no rfl rfl rfl rfl c5 ?_
        refine OW_ev (Ev_pickb_f rfl rfl c5 rfl) rfl ?_
        refine OW_nil ?_
        refine CW_cond_f rfl rfl ?_
        refine CW_skip ?_
        refine CW_re [(1, .func _ _ _), (5, .int _ _), (9, .slice _ _ _), (10, .int _ _), (11, .int _ _)] ⟨rfl, rfl, rfl, rfl, rfl, trivial⟩ (fun g => ?_)
        refine CW_reg rfl ?_
        refine OW_ev (Ev_add rfl rfl rfl (by first | (apply IntWalk.i64_in; omega) | (apply IntWalk.u64_in; omega) | (apply IntWalk.u32_in; omega) | (apply IntWalk.u8_in; omega) | (apply IntWalk.i32_in; omega) | rfl)) rfl ?_
        refine OW_ev (Ev_mvi (.inl rfl) rfl) rfl ?_
        refine OW_nil ?_
        refine ⟨k + 1, by omega, ⟨rfl, ?_, rfl, rfl, congrArg (Value.int .i64) (by omega), trivial⟩, by omega, T⟩
        refine vi rfl ?_
        rw [hst]
        first | (rw [htk, ite_self]; omega) | (rw [if_pos hqx]; omega) | (rw [if_neg (by simp [hqx])]; omega) | (rw [htk]; split <;> omega)
    · have d2 := c2
      first | (with_reducible replace d2 := of_decide_eq_false d2) | (with_reducible replace d2 := bnf d2; try (with_reducible replace d2 := of_decide_eq_true d2)) | skip
      have hk2 : k = p.ws.length := by omega
      refine CW_exit ?_
      refine blk_same ?_
      refine CW_seq ?_
      refine CW_reg rfl ?_
      refine OW_ev (Ev_mvi (.inl rfl) rfl) rfl ?_
      refine OW_ev (Ev_mvi (.inr rfl) rfl) rfl ?_
      refine OW_nil ?_
      refine CW_ret ?_
      refine ⟨rfl, _, (.tmp rfl .nil), ?_⟩
      exact ⟨T, vi rfl (by rw [hk2, List.take_length])⟩

set_option maxRecDepth 10000 in
set_option maxHeartbeats 2000000 in
theorem cdrains_c {F : Nat → Prop} {w : World} {p : PlnM} (hP : PlnS F w p) (hl : p.ws.length ≤ 1000000) : Calls Try.prog 58 #[.agg p.cl.toArray] w (Ret fun v w' => Kp0 w w' ∧ v = .int .i64 (p.r.drains)) := by
  have T : Kp0 w w := Kp.refl _ _
  refine calls_start Try.func58 rfl (n := 5) rfl rfl rfl ?_
  refine CW_seq ?_
  refine CW_reg rfl ?_
  refine OW_st rfl (Stp_box (l := [.int _ _, .slice _ _ _, .slice _ _ _, .slice _ _ _]) rfl rfl rfl ?_)
  intro b1 w1 hb1 hz1 E1 B1
  have L1 : _ ≤ b1 := Nat.le_trans T.size (Nat.le_of_eq hb1.symm)
  have hP := hP.keep0 E1
  have T := T.keep0 E1
  replace B1 : Blk w1 b1 51 (p.cl) := B1
  refine OW_ev (Ev_c (.inr rfl)) rfl ?_
  refine OW_nil ?_
  refine CW_seq ?_
  refine CW_reg rfl ?_
  refine OW_ev (Ev_loadAgg (l := [.int _ _, .slice _ _ _, .slice _ _ _, .slice _ _ _]) agg_51 rfl rfl (B1.sub 0 4 (Nat.le_of_ble_eq_true rfl)) rfl) rfl ?_
  refine OW_st rfl (Stp_call ent_65 rfl rfl rfl (ticks_c (q := fun x => decide (x.1 = -1)) hP hl (ent_66) (fun w x => drains1_c w x)) ?_)
  rintro _ w2 ⟨E2, rfl⟩
  have Z2 := E2.size
  have hP := hP.keep0 E2
  have T := T.keep0 E2
  have B1 := B1.keep0 E2
  refine OW_ev (Ev_mvi (.inr rfl) rfl) rfl ?_
  refine OW_nil ?_
  refine CW_ret ?_
  refine ⟨rfl, _, (.tmp rfl .nil), ?_⟩
  exact ⟨T, rfl⟩

end Go.Proofs.Ytiedmigdgelhkaa