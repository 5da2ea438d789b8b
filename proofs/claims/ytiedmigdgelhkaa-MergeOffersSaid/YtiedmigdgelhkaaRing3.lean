/- Contracts of the other functions of packages ring, slices, and of merge, that read or copy rings. -/
import Derived.Test.YtiedmigdgelhkaaTypes
import Derived.Test.YtiedmigdgelhkaaRing2
namespace Go.Proofs.Ytiedmigdgelhkaa
open Go Go.RowKit Bx Go.Proofs

set_option maxRecDepth 10000 in
set_option maxHeartbeats 2000000 in
theorem head_c {F : Nat → Prop} {w : World} {ao : Option Addr} {c : Nat} {r : Rg} (hx : Sl F w 7 ao (r.l.map Ent.cells)) : Calls Try.prog 30 #[.agg (r.cl ao c).toArray] w (Ret fun v w' => Kp0 w w' ∧ v = .tuple #[.int .u64 r.head.1, .bool r.head.2]) := by
  have hx := hx.old
  have T : Kp0 w w := Kp.refl _ _
  refine calls_start Try.func30 rfl (n := 24) rfl rfl rfl ?_
  refine CW_seq ?_
  refine CW_reg rfl ?_
  refine OW_st rfl (Stp_box (l := [.int _ _, .slice _ _ _, .int _ _, .int _ _, .int _ _, .int _ _, .int _ _, .int _ _, .int _ _]) rfl rfl rfl ?_)
  intro b1 w1 hb1 hz1 E1 B1
  have L1 : _ ≤ b1 := Nat.le_trans T.size (Nat.le_of_eq hb1.symm)
  have hx := hx.keep0 E1
  have T := T.keep0 E1
  replace B1 : Blk w1 b1 33 (r.cl ao c) := B1
  refine OW_ev (Ev_c (.inr rfl)) rfl ?_
  refine OW_ev (Ev_c (.inr rfl)) rfl ?_
  refine OW_nil ?_
  refine CW_seq ?_
  refine CW_block ?_
  refine CW_seq ?_
  refine CW_reg rfl ?_
  refine OW_ev (Ev_loadAgg (l := [.int _ _, .slice _ _ _, .int _ _, .int _ _, .int _ _, .int _ _, .int _ _, .int _ _, .int _ _]) agg_33 rfl rfl (B1.sub 0 9 (Nat.le_of_ble_eq_true rfl)) rfl) rfl ?_
  refine OW_st rfl (Stp_call ent_22 rfl rfl rfl (ringIs_c _ r ao c) ?_)
  rintro _ w2 ⟨E2, rfl⟩
  have Z2 := E2.size
  have hx := hx.keep0 E2
  have T := T.keep0 E2
  have B1 := B1.keep0 E2
  refine OW_ev (Ev_not rfl rfl) rfl ?_
  refine OW_ev (Ev_mvb (.inr rfl) rfl) rfl ?_
  refine OW_nil ?_
  refine CW_cond rfl (fun c3 => ?_) (fun c3 => ?_)
  · have d3 := c3
    first | (with_reducible replace d3 := of_decide_eq_true d3) | (with_reducible replace d3 := bnt d3; try (with_reducible replace d3 := of_decide_eq_false d3)) | skip
    have hp : r.head = (0, false) := if_neg (by simp [d3])
    refine CW_seq ?_
    refine CW_reg rfl ?_
    refine OW_ev (Ev_c (.inr rfl)) rfl ?_
    refine OW_ev (Ev_c (.inr rfl)) rfl ?_
    refine OW_nil ?_
    refine CW_ret ?_
    refine blk_ret ?_
    refine ⟨rfl, _, (.tmp rfl (.tmp rfl .nil)), ?_⟩
    rw [hp]
    exact ⟨T, rfl⟩
  · have d3 := c3
    first | (with_reducible replace d3 := of_decide_eq_false d3) | (with_reducible replace d3 := bnf d3; try (with_reducible replace d3 := of_decide_eq_true d3)) | skip
    have hris : r.is = true := d3
    refine CW_seq ?_
    refine CW_reg rfl ?_
    refine OW_ev (Ev_fieldAddr fld_33_1 rfl rfl) rfl ?_
    refine OW_ev (Ev_load one_26 rfl rfl (B1.ld (q := 1) rfl)) rfl ?_
    refine OW_ev (Ev_len und_26 rfl rfl) rfl ?_
    refine OW_ev (Ev_gtr rfl rfl rfl) rfl ?_
    refine OW_ev (Ev_mvb (.inr rfl) rfl) rfl ?_
    refine OW_nil ?_
    refine CW_cond rfl (fun c4 => ?_) (fun c4 => ?_)
    · have d4 := c4
      first | (with_reducible replace d4 := of_decide_eq_true d4) | (with_reducible replace d4 := bnt d4; try (with_reducible replace d4 := of_decide_eq_false d4)) | skip
      obtain ⟨x, xs, hxs⟩ : ∃ x xs, r.l = x :: xs := List.exists_cons_of_length_pos (by omega)
      have hp : r.head = (x.stamp, true) := by simp [Rg.head, hris, hxs]
      have hget : (r.l.map Ent.cells)[0]? = some x.cells := by simp [hxs]
      refine CW_seq ?_
      refine CW_reg rfl ?_
      refine OW_ev (Ev_fieldAddr fld_33_1 rfl rfl) rfl ?_
      refine OW_ev (Ev_load one_26 rfl rfl (B1.ld (q := 1) rfl)) rfl ?_
      refine OW_ev (Ev_idx 0 (hx.ad hget) sl_26 rfl rfl rfl rfl (by omega)) rfl ?_
      have K := hx.at_ hget
      refine OW_ev (Ev_fieldAddr fld_31_0 rfl rfl) rfl ?_
      refine OW_ev (Ev_load one_27 rfl rfl (K.one 0 rfl)) rfl ?_
      refine OW_ev (Ev_mvi (.inr rfl) rfl) rfl ?_
      refine OW_ev (Ev_c (.inr rfl)) rfl ?_
      refine OW_nil ?_
      refine CW_ret ?_
      refine blk_ret ?_
      refine ⟨rfl, _, (.tmp rfl (.tmp rfl .nil)), ?_⟩
      rw [hp]
      exact ⟨T, rfl⟩
    · have d4 := c4
      first | (with_reducible replace d4 := of_decide_eq_false d4) | (with_reducible replace d4 := bnf d4; try (with_reducible replace d4 := of_decide_eq_true d4)) | skip
      have hxs : r.l = [] := List.eq_nil_of_length_eq_zero (by omega)
      refine CW_seq ?_
      refine CW_reg rfl ?_
      refine OW_ev (Ev_loadAgg (l := [.int _ _, .slice _ _ _, .int _ _, .int _ _, .int _ _, .int _ _, .int _ _, .int _ _, .int _ _]) agg_33 rfl rfl (B1.sub 0 9 (Nat.le_of_ble_eq_true rfl)) rfl) rfl ?_
      refine OW_st rfl (Stp_call ent_32 rfl rfl rfl (hasGap_c _ r ao c) ?_)
      rintro _ w5 ⟨E5, rfl⟩
      have Z5 := E5.size
      have hx := hx.keep0 E5
      have T := T.keep0 E5
      have B1 := B1.keep0 E5
      refine OW_ev (Ev_mvb (.inr rfl) rfl) rfl ?_
      refine OW_nil ?_
      refine CW_cond rfl (fun c6 => ?_) (fun c6 => ?_)
      · have d6 := c6
        first | (with_reducible replace d6 := of_decide_eq_true d6) | (with_reducible replace d6 := bnt d6; try (with_reducible replace d6 := of_decide_eq_false d6)) | skip
        have hp : r.head = (r.gap.stamp, true) := by simp [Rg.head, hris, hxs, d6]
        refine CW_seq ?_
        refine CW_reg rfl ?_
        refine OW_ev (Ev_fieldAddr fld_33_2 rfl rfl) rfl ?_
        refine OW_ev (Ev_fieldAddr fld_31_0 rfl rfl) rfl ?_
        refine OW_ev (Ev_load one_27 rfl rfl (B1.ld (q := 2) rfl)) rfl ?_
        refine OW_ev (Ev_mvi (.inr rfl) rfl) rfl ?_
        refine OW_ev (Ev_c (.inr rfl)) rfl ?_
        refine OW_nil ?_
        refine CW_ret ?_
        refine blk_ret ?_
        refine ⟨rfl, _, (.tmp rfl (.tmp rfl .nil)), ?_⟩
        rw [hp]
        exact ⟨T, rfl⟩
      · have d6 := c6
        first | (with_reducible replace d6 := of_decide_eq_false d6) | (with_reducible replace d6 := bnf d6; try (with_reducible replace d6 := of_decide_eq_true d6)) | skip
        have hp : r.head = (0, false) := by simp [Rg.head, hris, hxs, d6]
        refine CW_skip ?_
        refine CW_seq ?_
        refine CW_reg rfl ?_
        refine OW_ev (Ev_c (.inr rfl)) rfl ?_
        refine OW_ev (Ev_c (.inr rfl)) rfl ?_
        refine OW_nil ?_
        refine CW_ret ?_
        refine ⟨rfl, _, (.tmp rfl (.tmp rfl .nil)), ?_⟩
        rw [hp]
        exact ⟨T, rfl⟩

set_option maxRecDepth 10000 in
set_option maxHeartbeats 2000000 in
theorem take_c {F : Nat → Prop} {w : World} {ao : Option Addr} {c : Nat} {r : Rg} (hlc : r.l.length ≤ c) (hx : Sl F w 7 ao (r.l.map Ent.cells)) (hlen : r.l.length ≤ 1000000) : Calls Try.prog 21 #[.agg (r.cl ao c).toArray] w (Ret fun v w' => Kp0 w w' ∧ ∃ zo z, v = .tuple #[.agg r.take.1.cells.toArray, .agg (r.take.2.1.cl zo z).toArray, .bool r.take.2.2] ∧ RgS (fun b => w.heap.size ≤ b) w' r.take.2.1 zo z) := by
  have hx := hx.old
  have T : Kp0 w w := Kp.refl _ _
  refine calls_start Try.func21 rfl (n := 45) rfl rfl rfl ?_
  refine CW_seq ?_
  refine CW_reg rfl ?_
  refine OW_st rfl (Stp_box (l := [.int _ _, .slice _ _ _, .int _ _, .int _ _, .int _ _, .int _ _, .int _ _, .int _ _, .int _ _]) rfl rfl rfl ?_)
  intro b1 w1 hb1 hz1 E1 B1
  have L1 : _ ≤ b1 := Nat.le_trans T.size (Nat.le_of_eq hb1.symm)
  have hx := hx.keep0 E1
  have T := T.keep0 E1
  replace B1 : Blk w1 b1 33 (r.cl ao c) := B1
  refine OW_st rfl (Stp_alloc zero_31 rfl ?_)
  intro b2 w2 hb2 hz2 E2 B2
  have L2 : _ ≤ b2 := Nat.le_trans T.size (Nat.le_of_eq hb2.symm)
  have hx := hx.keep0 E2
  have T := T.keep0 E2
  have B1 := B1.keep0 E2
  refine OW_st rfl (Stp_alloc zero_33 rfl ?_)
  intro b3 w3 hb3 hz3 E3 B3
  have L3 : _ ≤ b3 := Nat.le_trans T.size (Nat.le_of_eq hb3.symm)
  have hx := hx.keep0 E3
  have T := T.keep0 E3
  have B1 := B1.keep0 E3
  have B2 := B2.keep0 E3
  refine OW_ev (Ev_c (.inr rfl)) rfl ?_
  refine OW_nil ?_
  refine CW_seq ?_
  refine CW_seq ?_
  refine CW_reg rfl ?_
  refine OW_ev (Ev_loadAgg (l := [.int _ _, .slice _ _ _, .int _ _, .int _ _, .int _ _, .int _ _, .int _ _, .int _ _, .int _ _]) agg_33 rfl rfl (B1.sub 0 9 (Nat.le_of_ble_eq_true rfl)) rfl) rfl ?_
  refine OW_st rfl (Stp_call ent_30 rfl rfl rfl (head_c hx) ?_)
  rintro _ w4 ⟨E4, rfl⟩
  have Z4 := E4.size
  have hx := hx.keep0 E4
  have T := T.keep0 E4
  have B1 := B1.keep0 E4
  have B2 := B2.keep0 E4
  have B3 := B3.keep0 E4
  refine OW_ev (Ev_mvt (.inl rfl) rfl) rfl ?_
  refine OW_ev (Ev_extract (vs := _) rfl rfl rfl) rfl ?_
  refine OW_ev (Ev_extract (vs := _) rfl rfl rfl) rfl ?_
  refine OW_ev (Ev_mvi (.inr rfl) rfl) rfl ?_
  refine OW_ev (Ev_mvb (.inr rfl) rfl) rfl ?_
  refine OW_nil ?_
  refine CW_seq ?_
  refine CW_reg rfl ?_
  refine OW_ev (Ev_mvb (.inl rfl) rfl) rfl ?_
  refine OW_ev (Ev_not rfl rfl) rfl ?_
  refine OW_nil ?_
  refine CW_cond rfl (fun c5 => ?_) (fun c5 => ?_)
  · have d5 := c5
    first | (with_reducible replace d5 := of_decide_eq_true d5) | (with_reducible replace d5 := bnt d5; try (with_reducible replace d5 := of_decide_eq_false d5)) | skip
    have hh : r.head.2 = false := d5
    have hp : r.take = (Ent.zero, r, false) := Rg.take_no hh
    refine CW_seq ?_
    refine CW_draw (fun W => hx.here W ∧ B1.here W) mixed rfl (fun _ _ _ h => nomatch h.1) ?_
    have E6 : Kp0 _ _ := Kp.drew w4 nob
    have Z6 : (World.drew w4).heap.size = w4.heap.size := rfl
    generalize World.drew w4 = w6 at E6 Z6 ⊢
    have hx := hx.keep0 E6
    have T := T.keep0 E6
    have B1 := B1.keep0 E6
    have B2 := B2.keep0 E6
    have B3 := B3.keep0 E6
    refine AW_take 0 rfl rfl (by decide +kernel) (by decide +kernel) (by decide +kernel) (fun w ⟨hx, B1⟩ => Ev_build (l := [.int _ _, .int _ _, .int _ _, .int _ _, .int _ _, .int _ _, .int _ _]) plc_31 zero_31 rfl rfl rfl) ⟨hx, B1⟩ ?_
    refine AW_take 1 rfl rfl (by decide +kernel) (by decide +kernel) (by decide +kernel) (fun w ⟨hx, B1⟩ => Ev_fieldAddr fld_33_0 rfl rfl) ⟨hx, B1⟩ ?_
    refine AW_take 2 rfl rfl (by decide +kernel) (by decide +kernel) (by decide +kernel) (fun w ⟨hx, B1⟩ => Ev_load one_3 rfl rfl (B1.ld (q := 0) rfl)) ⟨hx, B1⟩ ?_
    refine AW_take 3 rfl rfl (by decide +kernel) (by decide +kernel) (by decide +kernel) (fun w ⟨hx, B1⟩ => Ev_fieldAddr fld_33_1 rfl rfl) ⟨hx, B1⟩ ?_
    refine AW_take 4 rfl rfl (by decide +kernel) (by decide +kernel) (by decide +kernel) (fun w ⟨hx, B1⟩ => Ev_load one_26 rfl rfl (B1.ld (q := 1) rfl)) ⟨hx, B1⟩ ?_
    refine AW_take 6 rfl rfl (by decide +kernel) (by decide +kernel) (by decide +kernel) (fun w ⟨hx, B1⟩ => Ev_fieldAddr fld_33_2 rfl rfl) ⟨hx, B1⟩ ?_
    refine AW_take 7 rfl rfl (by decide +kernel) (by decide +kernel) (by decide +kernel) (fun w ⟨hx, B1⟩ => Ev_loadAgg (l := [.int _ _, .int _ _, .int _ _, .int _ _, .int _ _, .int _ _, .int _ _]) agg_31 rfl rfl (B1.sub 2 7 (Nat.le_of_ble_eq_true rfl)) rfl) ⟨hx, B1⟩ ?_
    refine AW_one 5 (by decide +kernel) (Next.mk rfl rfl ?_)
    refine Stp_call ent_33 rfl rfl rfl (grown1_c rfl hx hlen) ?_
    rintro _ w7 ⟨E7, HZ, HY, rfl, HL, HM, HS⟩
    have Z7 := E7.size
    have hx := hx.keep0 E7
    have T := T.keep0 E7
    have B1 := B1.keep0 E7
    have B2 := B2.keep0 E7
    have B3 := B3.keep0 E7
    refine ⟨⟨hx, B1⟩, ?_⟩
    refine AW_take 8 rfl rfl (by decide +kernel) (by decide +kernel) (by decide +kernel) (fun w ⟨hx, B1⟩ => Ev_build (l := [.int _ _, .slice _ _ _, .int _ _, .int _ _, .int _ _, .int _ _, .int _ _, .int _ _, .int _ _]) plc_33 zero_33 rfl rfl rfl) ⟨hx, B1⟩ ?_
    refine AW_one 9 (by decide +kernel) (Next.mk rfl rfl ?_)
    refine Stp_store (q := 0) (vs := [.int _ _, .int _ _, .int _ _, .int _ _, .int _ _, .int _ _, .int _ _]) B2 siz_31 rfl rfl rfl rfl (Nat.le_of_ble_eq_true rfl) rfl ?_
    intro w8 hz8 E8 B8
    have Z8 := E8.size
    have hx := hx.keepb E8 (by show ¬ _ < _; omega)
    have T := T.transb E8 (by omega)
    have B1 := B1.keepb E8 (by intro h; first | omega | (change _ < _ at h; omega) | (change _ ≤ _ at h; omega) | (have h1 := h.1; have h2 := h.2; first | omega | (change _ ≤ _ at h1; omega) | (change _ < _ at h1; omega)))
    have B3 := B3.keepb E8 (by intro h; first | omega | (change _ < _ at h; omega) | (change _ ≤ _ at h; omega) | (have h1 := h.1; have h2 := h.2; first | omega | (change _ ≤ _ at h1; omega) | (change _ < _ at h1; omega)))
    have HS := HS.keepb E8 (by show ¬ _ ≤ _; omega)
    clear B2
    have B2 : Blk _ _ _ [_, _, _, _, _, _, _] := B8
    clear B8
    refine ⟨⟨hx, B1⟩, ?_⟩
    refine AW_one 10 (by decide +kernel) (Next.mk rfl rfl ?_)
    refine Stp_store (q := 0) (vs := [.int _ _, .slice _ _ _, .int _ _, .int _ _, .int _ _, .int _ _, .int _ _, .int _ _, .int _ _]) B3 siz_33 rfl rfl rfl rfl (Nat.le_of_ble_eq_true rfl) rfl ?_
    intro w9 hz9 E9 B9
    have Z9 := E9.size
    have hx := hx.keepb E9 (by show ¬ _ < _; omega)
    have T := T.transb E9 (by omega)
    have B1 := B1.keepb E9 (by intro h; first | omega | (change _ < _ at h; omega) | (change _ ≤ _ at h; omega) | (have h1 := h.1; have h2 := h.2; first | omega | (change _ ≤ _ at h1; omega) | (change _ < _ at h1; omega)))
    have B2 := B2.keepb E9 (by intro h; first | omega | (change _ < _ at h; omega) | (change _ ≤ _ at h; omega) | (have h1 := h.1; have h2 := h.2; first | omega | (change _ ≤ _ at h1; omega) | (change _ < _ at h1; omega)))
    have HS := HS.keepb E9 (by show ¬ _ ≤ _; omega)
    clear B3
    have B3 : Blk _ _ _ [_, _, _, _, _, _, _, _, _] := B9
    clear B9
    refine ⟨⟨hx, B1⟩, ?_⟩
    refine AW_take 11 rfl rfl (by decide +kernel) (by decide +kernel) (by decide +kernel) (fun w ⟨hx, B1⟩ => Ev_c (.inr rfl)) ⟨hx, B1⟩ ?_
    refine AW_done (by decide +kernel) ?_
    refine CW_ret ?_
    refine ⟨rfl, _, (.cell rfl (ld_agg agg_31 (B2.sub 0 7 (Nat.le_of_ble_eq_true rfl)) rfl) (.cell rfl (ld_agg agg_33 (B3.sub 0 9 (Nat.le_of_ble_eq_true rfl)) rfl) (.tmp rfl .nil))), ?_⟩
    rw [hp]
    first | exact ⟨T, _, _, rfl, Nat.zero_le _, Nat.zero_le _, Sl.nil _ _ _ _⟩ | exact ⟨T, _, _, rfl, HL, HM, HS.mono (fun b _ h => Nat.le_trans (by omega) h)⟩
  · have d5 := c5
    first | (with_reducible replace d5 := of_decide_eq_false d5) | (with_reducible replace d5 := bnf d5; try (with_reducible replace d5 := of_decide_eq_true d5)) | skip
    have hh : r.head.2 = true := d5
    have hris : r.is = true := Rg.head_is hh
    refine CW_skip ?_
    refine CW_seq ?_
    refine CW_seq ?_
    refine CW_reg rfl ?_
    refine OW_ev (Ev_fieldAddr fld_33_1 rfl rfl) rfl ?_
    refine OW_ev (Ev_load one_26 rfl rfl (B1.ld (q := 1) rfl)) rfl ?_
    refine OW_ev (Ev_len und_26 rfl rfl) rfl ?_
    refine OW_ev (Ev_eql rfl rfl rfl) rfl ?_
    refine OW_nil ?_
    refine CW_cond rfl (fun c10 => ?_) (fun c10 => ?_)
    · have d10 := c10
      first | (with_reducible replace d10 := of_decide_eq_true d10) | (with_reducible replace d10 := bnt d10; try (with_reducible replace d10 := of_decide_eq_false d10)) | skip
      have hxs : r.l = [] := List.eq_nil_of_length_eq_zero (by omega)
      have hp : r.take = (r.gap, ⟨r.room, [], Ent.zero⟩, true) := Rg.take_gap hh hxs
      refine CW_seq ?_
      refine CW_re [(1, .pointer _), (2, .pointer _), (3, .pointer _), (4, .bool _)] ⟨rfl, rfl, rfl, rfl, trivial⟩ (fun g => ?_)
      refine CW_draw (fun W => hx.here W ∧ B1.here W) mixed rfl (fun _ _ _ h => nomatch h.1) ?_
      have E11 : Kp0 _ _ := Kp.drew w4 nob
      have Z11 : (World.drew w4).heap.size = w4.heap.size := rfl
      generalize World.drew w4 = w11 at E11 Z11 ⊢
      have hx := hx.keep0 E11
      have T := T.keep0 E11
      have B1 := B1.keep0 E11
      have B2 := B2.keep0 E11
      have B3 := B3.keep0 E11
      refine AW_take 0 rfl rfl (by decide +kernel) (by decide +kernel) (by decide +kernel) (fun w ⟨hx, B1⟩ => Ev_fieldAddr fld_33_2 rfl rfl) ⟨hx, B1⟩ ?_
      refine AW_take 1 rfl rfl (by decide +kernel) (by decide +kernel) (by decide +kernel) (fun w ⟨hx, B1⟩ => Ev_loadAgg (l := [.int _ _, .int _ _, .int _ _, .int _ _, .int _ _, .int _ _, .int _ _]) agg_31 rfl rfl (B1.sub 2 7 (Nat.le_of_ble_eq_true rfl)) rfl) ⟨hx, B1⟩ ?_
      refine AW_take 2 rfl rfl (by decide +kernel) (by decide +kernel) (by decide +kernel) (fun w ⟨hx, B1⟩ => Ev_fieldAddr fld_33_0 rfl rfl) ⟨hx, B1⟩ ?_
      refine AW_take 3 rfl rfl (by decide +kernel) (by decide +kernel) (by decide +kernel) (fun w ⟨hx, B1⟩ => Ev_load one_3 rfl rfl (B1.ld (q := 0) rfl)) ⟨hx, B1⟩ ?_
      refine AW_take 4 rfl rfl (by decide +kernel) (by decide +kernel) (by decide +kernel) (fun w ⟨hx, B1⟩ => Ev_build (l := [.int _ _, .slice _ _ _, .int _ _, .int _ _, .int _ _, .int _ _, .int _ _, .int _ _, .int _ _]) plc_33 zero_33 rfl rfl rfl) ⟨hx, B1⟩ ?_
      refine AW_one 5 (by decide +kernel) (Next.mk rfl rfl ?_)
      refine Stp_store (q := 0) (vs := [.int _ _, .int _ _, .int _ _, .int _ _, .int _ _, .int _ _, .int _ _]) B2 siz_31 rfl rfl rfl rfl (Nat.le_of_ble_eq_true rfl) rfl ?_
      intro w12 hz12 E12 B12
      have Z12 := E12.size
      have hx := hx.keepb E12 (by show ¬ _ < _; omega)
      have T := T.transb E12 (by omega)
      have B1 := B1.keepb E12 (by intro h; first | omega | (change _ < _ at h; omega) | (change _ ≤ _ at h; omega) | (have h1 := h.1; have h2 := h.2; first | omega | (change _ ≤ _ at h1; omega) | (change _ < _ at h1; omega)))
      have B3 := B3.keepb E12 (by intro h; first | omega | (change _ < _ at h; omega) | (change _ ≤ _ at h; omega) | (have h1 := h.1; have h2 := h.2; first | omega | (change _ ≤ _ at h1; omega) | (change _ < _ at h1; omega)))
      clear B2
      have B2 : Blk _ _ _ [_, _, _, _, _, _, _] := B12
      clear B12
      refine ⟨⟨hx, B1⟩, ?_⟩
      refine AW_one 6 (by decide +kernel) (Next.mk rfl rfl ?_)
      refine Stp_store (q := 0) (vs := [.int _ _, .slice _ _ _, .int _ _, .int _ _, .int _ _, .int _ _, .int _ _, .int _ _, .int _ _]) B3 siz_33 rfl rfl rfl rfl (Nat.le_of_ble_eq_true rfl) rfl ?_
      intro w13 hz13 E13 B13
      have Z13 := E13.size
      have hx := hx.keepb E13 (by show ¬ _ < _; omega)
      have T := T.transb E13 (by omega)
      have B1 := B1.keepb E13 (by intro h; first | omega | (change _ < _ at h; omega) | (change _ ≤ _ at h; omega) | (have h1 := h.1; have h2 := h.2; first | omega | (change _ ≤ _ at h1; omega) | (change _ < _ at h1; omega)))
      have B2 := B2.keepb E13 (by intro h; first | omega | (change _ < _ at h; omega) | (change _ ≤ _ at h; omega) | (have h1 := h.1; have h2 := h.2; first | omega | (change _ ≤ _ at h1; omega) | (change _ < _ at h1; omega)))
      clear B3
      have B3 : Blk _ _ _ [_, _, _, _, _, _, _, _, _] := B13
      clear B13
      refine ⟨⟨hx, B1⟩, ?_⟩
      refine AW_take 7 rfl rfl (by decide +kernel) (by decide +kernel) (by decide +kernel) (fun w ⟨hx, B1⟩ => Ev_c (.inr rfl)) ⟨hx, B1⟩ ?_
      refine AW_done (by decide +kernel) ?_
      refine CW_ret ?_
      refine ⟨rfl, _, (.cell rfl (ld_agg agg_31 (B2.sub 0 7 (Nat.le_of_ble_eq_true rfl)) rfl) (.cell rfl (ld_agg agg_33 (B3.sub 0 9 (Nat.le_of_ble_eq_true rfl)) rfl) (.tmp rfl .nil))), ?_⟩
      rw [hp]
      first | exact ⟨T, _, _, rfl, Nat.zero_le _, Nat.zero_le _, Sl.nil _ _ _ _⟩ | exact ⟨T, _, _, rfl, HL, HM, HS.mono (fun b _ h => Nat.le_trans (by omega) h)⟩
    · have d10 := c10
      first | (with_reducible replace d10 := of_decide_eq_false d10) | (with_reducible replace d10 := bnf d10; try (with_reducible replace d10 := of_decide_eq_true d10)) | skip
      obtain ⟨x, xs, hxs⟩ : ∃ x xs, r.l = x :: xs := List.exists_cons_of_length_pos (by omega)
      have hp : r.take = (x, ⟨r.room, xs, r.gap⟩, true) := Rg.take_cons hris hxs
      have hget : (r.l.map Ent.cells)[0]? = some x.cells := by simp [hxs]
      have K := hx.at_ hget
      have hd := hx.drop 1 c (by simp; omega) (by simpa using hlc)
      rw [show (r.l.map Ent.cells).drop 1 = xs.map Ent.cells from by rw [hxs]; rfl] at hd
      have hxl : xs.length = r.l.length - 1 := by rw [hxs]; simp
      refine CW_skip ?_
      refine CW_seq ?_
      refine CW_re [(1, .pointer _), (2, .pointer _), (3, .pointer _), (4, .bool _)] ⟨rfl, rfl, rfl, rfl, trivial⟩ (fun g => ?_)
      refine CW_draw (fun W => hx.here W ∧ B1.here W ∧ K.here W ∧ hd.here W) mixed rfl (fun _ _ _ h => nomatch h.1) ?_
      have E14 : Kp0 _ _ := Kp.drew w4 nob
      have Z14 : (World.drew w4).heap.size = w4.heap.size := rfl
      generalize World.drew w4 = w14 at E14 Z14 ⊢
      have hx := hx.keep0 E14
      have T := T.keep0 E14
      have B1 := B1.keep0 E14
      have B2 := B2.keep0 E14
      have B3 := B3.keep0 E14
      have K := K.keep0 E14
      have hd := hd.keep0 E14
      refine AW_take 0 rfl rfl (by decide +kernel) (by decide +kernel) (by decide +kernel) (fun w ⟨hx, B1, K, hd⟩ => Ev_fieldAddr fld_33_1 rfl rfl) ⟨hx, B1, K, hd⟩ ?_
      refine AW_take 1 rfl rfl (by decide +kernel) (by decide +kernel) (by decide +kernel) (fun w ⟨hx, B1, K, hd⟩ => Ev_load one_26 rfl rfl (B1.ld (q := 1) rfl)) ⟨hx, B1, K, hd⟩ ?_
      refine AW_take 2 rfl rfl (by decide +kernel) (by decide +kernel) (by decide +kernel) (fun w ⟨hx, B1, K, hd⟩ => Ev_idx 0 (hx.ad hget) sl_26 rfl rfl rfl rfl (by omega)) ⟨hx, B1, K, hd⟩ ?_
      refine AW_take 3 rfl rfl (by decide +kernel) (by decide +kernel) (by decide +kernel) (fun w ⟨hx, B1, K, hd⟩ => Ev_loadAgg (l := [.int _ _, .int _ _, .int _ _, .int _ _, .int _ _, .int _ _, .int _ _]) agg_31 rfl rfl (K.sub 0 rfl) rfl) ⟨hx, B1, K, hd⟩ ?_
      refine AW_take 4 rfl rfl (by decide +kernel) (by decide +kernel) (by decide +kernel) (fun w ⟨hx, B1, K, hd⟩ => Ev_fieldAddr fld_33_0 rfl rfl) ⟨hx, B1, K, hd⟩ ?_
      refine AW_take 5 rfl rfl (by decide +kernel) (by decide +kernel) (by decide +kernel) (fun w ⟨hx, B1, K, hd⟩ => Ev_load one_3 rfl rfl (B1.ld (q := 0) rfl)) ⟨hx, B1, K, hd⟩ ?_
      refine AW_take 6 rfl rfl (by decide +kernel) (by decide +kernel) (by decide +kernel) (fun w ⟨hx, B1, K, hd⟩ => Ev_fieldAddr fld_33_1 rfl rfl) ⟨hx, B1, K, hd⟩ ?_
      refine AW_take 7 rfl rfl (by decide +kernel) (by decide +kernel) (by decide +kernel) (fun w ⟨hx, B1, K, hd⟩ => Ev_load one_26 rfl rfl (B1.ld (q := 1) rfl)) ⟨hx, B1, K, hd⟩ ?_
      refine AW_take 8 rfl rfl (by decide +kernel) (by decide +kernel) (by decide +kernel) (fun w ⟨hx, B1, K, hd⟩ => Ev_slice_l 1 sl_26 rfl rfl rfl rfl (by omega)) ⟨hx, B1, K, hd⟩ ?_
      refine AW_take 10 rfl rfl (by decide +kernel) (by decide +kernel) (by decide +kernel) (fun w ⟨hx, B1, K, hd⟩ => Ev_fieldAddr fld_33_2 rfl rfl) ⟨hx, B1, K, hd⟩ ?_
      refine AW_take 11 rfl rfl (by decide +kernel) (by decide +kernel) (by decide +kernel) (fun w ⟨hx, B1, K, hd⟩ => Ev_loadAgg (l := [.int _ _, .int _ _, .int _ _, .int _ _, .int _ _, .int _ _, .int _ _]) agg_31 rfl rfl (B1.sub 2 7 (Nat.le_of_ble_eq_true rfl)) rfl) ⟨hx, B1, K, hd⟩ ?_
      refine AW_one 9 (by decide +kernel) (Next.mk rfl rfl ?_)
      refine Stp_call ent_33 rfl rfl rfl (grown1_c hxl hd (by omega)) ?_
      rintro _ w15 ⟨E15, HZ, HY, rfl, HL, HM, HS⟩
      have Z15 := E15.size
      have hx := hx.keep0 E15
      have T := T.keep0 E15
      have B1 := B1.keep0 E15
      have B2 := B2.keep0 E15
      have B3 := B3.keep0 E15
      have K := K.keep0 E15
      have hd := hd.keep0 E15
      refine ⟨⟨hx, B1, K, hd⟩, ?_⟩
      refine AW_take 12 rfl rfl (by decide +kernel) (by decide +kernel) (by decide +kernel) (fun w ⟨hx, B1, K, hd⟩ => Ev_build (l := [.int _ _, .slice _ _ _, .int _ _, .int _ _, .int _ _, .int _ _, .int _ _, .int _ _, .int _ _]) plc_33 zero_33 rfl rfl rfl) ⟨hx, B1, K, hd⟩ ?_
      refine AW_one 13 (by decide +kernel) (Next.mk rfl rfl ?_)
      refine Stp_store (q := 0) (vs := [.int _ _, .int _ _, .int _ _, .int _ _, .int _ _, .int _ _, .int _ _]) B2 siz_31 rfl rfl rfl rfl (Nat.le_of_ble_eq_true rfl) rfl ?_
      intro w16 hz16 E16 B16
      have Z16 := E16.size
      have hx := hx.keepb E16 (by show ¬ _ < _; omega)
      have T := T.transb E16 (by omega)
      have B1 := B1.keepb E16 (by intro h; first | omega | (change _ < _ at h; omega) | (change _ ≤ _ at h; omega) | (have h1 := h.1; have h2 := h.2; first | omega | (change _ ≤ _ at h1; omega) | (change _ < _ at h1; omega)))
      have B3 := B3.keepb E16 (by intro h; first | omega | (change _ < _ at h; omega) | (change _ ≤ _ at h; omega) | (have h1 := h.1; have h2 := h.2; first | omega | (change _ ≤ _ at h1; omega) | (change _ < _ at h1; omega)))
      have K := K.keepb E16 (by have := hx.2 (Sl.ne hget); have h := this.2.1; change _ < _ at h; omega)
      have hd := hd.keepb E16 (by show ¬ _ < _; omega)
      have HS := HS.keepb E16 (by show ¬ _ ≤ _; omega)
      clear B2
      have B2 : Blk _ _ _ [_, _, _, _, _, _, _] := B16
      clear B16
      refine ⟨⟨hx, B1, K, hd⟩, ?_⟩
      refine AW_one 14 (by decide +kernel) (Next.mk rfl rfl ?_)
      refine Stp_store (q := 0) (vs := [.int _ _, .slice _ _ _, .int _ _, .int _ _, .int _ _, .int _ _, .int _ _, .int _ _, .int _ _]) B3 siz_33 rfl rfl rfl rfl (Nat.le_of_ble_eq_true rfl) rfl ?_
      intro w17 hz17 E17 B17
      have Z17 := E17.size
      have hx := hx.keepb E17 (by show ¬ _ < _; omega)
      have T := T.transb E17 (by omega)
      have B1 := B1.keepb E17 (by intro h; first | omega | (change _ < _ at h; omega) | (change _ ≤ _ at h; omega) | (have h1 := h.1; have h2 := h.2; first | omega | (change _ ≤ _ at h1; omega) | (change _ < _ at h1; omega)))
      have B2 := B2.keepb E17 (by intro h; first | omega | (change _ < _ at h; omega) | (change _ ≤ _ at h; omega) | (have h1 := h.1; have h2 := h.2; first | omega | (change _ ≤ _ at h1; omega) | (change _ < _ at h1; omega)))
      have K := K.keepb E17 (by have := hx.2 (Sl.ne hget); have h := this.2.1; change _ < _ at h; omega)
      have hd := hd.keepb E17 (by show ¬ _ < _; omega)
      have HS := HS.keepb E17 (by show ¬ _ ≤ _; omega)
      clear B3
      have B3 : Blk _ _ _ [_, _, _, _, _, _, _, _, _] := B17
      clear B17
      refine ⟨⟨hx, B1, K, hd⟩, ?_⟩
      refine AW_take 15 rfl rfl (by decide +kernel) (by decide +kernel) (by decide +kernel) (fun w ⟨hx, B1, K, hd⟩ => Ev_c (.inr rfl)) ⟨hx, B1, K, hd⟩ ?_
      refine AW_done (by decide +kernel) ?_
      refine CW_ret ?_
      refine ⟨rfl, _, (.cell rfl (ld_agg agg_31 (B2.sub 0 7 (Nat.le_of_ble_eq_true rfl)) rfl) (.cell rfl (ld_agg agg_33 (B3.sub 0 9 (Nat.le_of_ble_eq_true rfl)) rfl) (.tmp rfl .nil))), ?_⟩
      rw [hp]
      first | exact ⟨T, _, _, rfl, Nat.zero_le _, Nat.zero_le _, Sl.nil _ _ _ _⟩ | exact ⟨T, _, _, rfl, HL, HM, HS.mono (fun b _ h => Nat.le_trans (by omega) h)⟩

end Go.Proofs.Ytiedmigdgelhkaa