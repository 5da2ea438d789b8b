/- Contracts of the functions of packages ring, slices and merge that make memory. -/
import Derived.Test.YtiedmigdgelhkaaTypes
import Derived.Test.YtiedmigdgelhkaaRing1
namespace Go.Proofs.Ytiedmigdgelhkaa
open Go Go.RowKit Bx Go.Proofs

theorem grown_c {F G : Nat → Prop} {w : World} {ao bo : Option Addr} {c d : Nat} {xs ys : List Ent} {n m : Nat} (hn : xs.length = n) (hm : ys.length = m) (hx : Sl F w 7 ao (xs.map Ent.cells)) (hy : Sl G w 7 bo (ys.map Ent.cells)) (h1 : xs.length ≤ 1000000) (h2 : ys.length ≤ 1000000) : Calls Try.prog 33 #[.slice ao n c, .slice bo m d] w (Ret fun v w' => Kp0 w w' ∧ ∃ zo z, v = .slice zo (xs ++ ys).length z ∧ (xs ++ ys).length ≤ z ∧ z ≤ maxLen ∧ Sl (fun b => w.heap.size ≤ b) w' 7 zo ((xs ++ ys).map Ent.cells)) := by
  subst hn
  subst hm
  have T : Kp0 w w := Kp.refl _ _
  refine calls_start Try.func33 rfl (n := 13) rfl rfl rfl ?_
  refine CW_seq ?_
  refine CW_reg rfl ?_
  refine OW_ev (Ev_c (.inr rfl)) rfl ?_
  refine OW_nil ?_
  refine CW_seq ?_
  refine CW_reg rfl ?_
  refine OW_ev (Ev_mvs (.inl rfl) rfl) rfl ?_
  refine OW_ev (Ev_slice_hm 0 0 sl_26 rfl rfl rfl rfl rfl rfl (by decide) (Nat.zero_le _)) rfl ?_
  refine OW_ev (Ev_mvs (.inl rfl) rfl) rfl ?_
  refine OW_st rfl (Stp_append (Own.none_ w.heap.size _ 31 7 ao) hx el_26 rfl rfl rfl rfl (by simp) (Ent.one _) (by simp [maxLen]; omega) (by simp; omega) (by omega) ?_)
  intro v1 w1 O1 E1 X1
  have Z1 := E1.size
  have hx := hx.keepo E1 (fun b hb hl he => by first | omega | (have := hsp b he; omega) | (change b < _ at hb; omega) | (change _ ≤ b at hb; omega) | (have h1 := hb.1; have h2 := hb.2; first | omega | (change _ ≤ _ at h1; omega) | (change _ < _ at h1; omega)))
  have hy := hy.keepo E1 (fun b hb hl he => by first | omega | (have := hsp b he; omega) | (change b < _ at hb; omega) | (change _ ≤ b at hb; omega) | (have h1 := hb.1; have h2 := hb.2; first | omega | (change _ ≤ _ at h1; omega) | (change _ < _ at h1; omega)))
  have T := T.transo E1 (Nat.le_refl _)
  obtain ⟨a1, q1, rfl, l1, m1, S1⟩ := O1.sl
  refine OW_ev (Ev_mvs (.inr rfl) rfl) rfl ?_
  refine OW_nil ?_
  refine CW_seq ?_
  refine CW_reg rfl ?_
  refine OW_ev (Ev_mvs (.inl rfl) rfl) rfl ?_
  refine OW_ev (Ev_mvs (.inl rfl) rfl) rfl ?_
  refine OW_st rfl (Stp_append O1 hy el_26 rfl rfl rfl rfl (by simp) (Ent.one _) (by simp [maxLen]; omega) (by simp; omega) T.size ?_)
  intro v2 w2 O2 E2 X2
  have Z2 := E2.size
  have T := T.transo E2 (Nat.le_refl _)
  obtain ⟨a2, q2, rfl, l2, m2, S2⟩ := O2.sl
  refine OW_ev (Ev_mvs (.inr rfl) rfl) rfl ?_
  refine OW_nil ?_
  refine CW_ret ?_
  refine ⟨rfl, _, (.tmp rfl .nil), ?_⟩
  exact ⟨T, _, _, congrArg (fun n => Value.slice a2 n q2) (by simp), by simpa using l2, m2, by simpa using S2⟩

theorem grown1_c {F : Nat → Prop} {w : World} {ao : Option Addr} {c : Nat} {xs : List Ent} {n : Nat} (hn : xs.length = n) (hx : Sl F w 7 ao (xs.map Ent.cells)) (h1 : xs.length ≤ 1000000) :
    Calls Try.prog 33 #[.slice ao n c, .slice none 0 0] w (Ret fun v w' => Kp0 w w' ∧ ∃ zo z, v = .slice zo xs.length z ∧ xs.length ≤ z ∧ z ≤ maxLen ∧ Sl (fun b => w.heap.size ≤ b) w' 7 zo (xs.map Ent.cells)) := by
  have h := grown_c (c := c) (d := 0) (ys := []) (m := 0) hn rfl hx (Sl.nil (fun _ => True) w 7 none) h1 (by simp)
  simpa only [List.append_nil] using h

set_option maxRecDepth 10000 in
set_option maxHeartbeats 2000000 in
theorem put_c {F : Nat → Prop} {w : World} {ao : Option Addr} {c : Nat} {r : Rg} {x : Ent} (hx : Sl F w 7 ao (r.l.map Ent.cells)) : Calls Try.prog 19 #[.agg (r.cl ao c).toArray, .agg x.cells.toArray] w (Ret fun v w' => Kp0 w w' ∧ ∃ zo z, v = .tuple #[.agg ((r.put x).1.cl zo z).toArray, .int .i64 (r.put x).2] ∧ RgS (fun b => w.heap.size ≤ b) w' (r.put x).1 zo z) := by
  have hx := hx.old
  have T : Kp0 w w := Kp.refl _ _
  refine calls_start Try.func19 rfl (n := 87) rfl rfl rfl ?_
  refine CW_seq ?_
  refine CW_reg rfl ?_
  refine OW_st rfl (Stp_box (l := [.int _ _, .slice _ _ _, .int _ _, .int _ _, .int _ _, .int _ _, .int _ _, .int _ _, .int _ _]) rfl rfl rfl ?_)
  intro b1 w1 hb1 hz1 E1 B1
  have L1 : _ ≤ b1 := Nat.le_trans T.size (Nat.le_of_eq hb1.symm)
  have hx := hx.keep0 E1
  have T := T.keep0 E1
  replace B1 : Blk w1 b1 33 (r.cl ao c) := B1
  refine OW_st rfl (Stp_box (l := [.int _ _, .int _ _, .int _ _, .int _ _, .int _ _, .int _ _, .int _ _]) rfl rfl rfl ?_)
  intro b2 w2 hb2 hz2 E2 B2
  have L2 : _ ≤ b2 := Nat.le_trans T.size (Nat.le_of_eq hb2.symm)
  have hx := hx.keep0 E2
  have T := T.keep0 E2
  have B1 := B1.keep0 E2
  replace B2 : Blk w2 b2 31 (x.cells) := B2
  refine OW_st rfl (Stp_alloc zero_33 rfl ?_)
  intro b3 w3 hb3 hz3 E3 B3
  have L3 : _ ≤ b3 := Nat.le_trans T.size (Nat.le_of_eq hb3.symm)
  have hx := hx.keep0 E3
  have T := T.keep0 E3
  have B1 := B1.keep0 E3
  have B2 := B2.keep0 E3
  refine OW_ev (Ev_c (.inr rfl)) rfl ?_
  refine OW_nil ?_
  refine CW_seq ?_
  refine CW_seq ?_
  refine CW_reg rfl ?_
  refine OW_ev (Ev_loadAgg (l := [.int _ _, .slice _ _ _, .int _ _, .int _ _, .int _ _, .int _ _, .int _ _, .int _ _, .int _ _]) agg_33 rfl rfl (B1.sub 0 9 (Nat.le_of_ble_eq_true rfl)) rfl) rfl ?_
  refine OW_st rfl (Stp_call ent_22 rfl rfl rfl (ringIs_c _ r ao c) ?_)
  rintro _ w4 ⟨E4, rfl⟩
  have Z4 := E4.size
  have hx := hx.keep0 E4
  have T := T.keep0 E4
  have B1 := B1.keep0 E4
  have B2 := B2.keep0 E4
  have B3 := B3.keep0 E4
  refine OW_ev (Ev_not rfl rfl) rfl ?_
  refine OW_ev (Ev_mvb (.inl rfl) rfl) rfl ?_
  refine OW_split (d := .tmp 11) rfl (fun c5 => ?_) (fun c5 => ?_)
  · have d5 := c5
    first | (with_reducible replace d5 := of_decide_eq_true d5) | (with_reducible replace d5 := bnt d5; try (with_reducible replace d5 := of_decide_eq_false d5)) | skip
    have hp : r.put x = (Rg.zero, 1) := if_neg (by simp [d5])
    refine OW_no rfl rfl rfl rfl c5 ?_
    refine OW_no rfl rfl rfl rfl c5 ?_
    refine OW_no rfl rfl rfl rfl c5 ?_
    refine OW_no rfl rfl rfl rfl c5 ?_
    refine OW_ev (Ev_pickb_t rfl rfl c5 rfl) rfl ?_
    refine OW_nil ?_
    refine CW_cond_t rfl rfl ?_
    refine CW_seq ?_
    refine CW_reg rfl ?_
    refine OW_ev (Ev_build (l := [.int _ _, .slice _ _ _, .int _ _, .int _ _, .int _ _, .int _ _, .int _ _, .int _ _, .int _ _]) plc_33 zero_33 rfl rfl rfl) rfl ?_
    refine OW_st rfl (Stp_store (q := 0) (vs := [.int _ _, .slice _ _ _, .int _ _, .int _ _, .int _ _, .int _ _, .int _ _, .int _ _, .int _ _]) B3 siz_33 rfl rfl rfl rfl (Nat.le_of_ble_eq_true rfl) rfl ?_)
    intro w6 hz6 E6 B6
    have Z6 := E6.size
    have hx := hx.keepb E6 (by show ¬ _ < _; omega)
    have T := T.transb E6 (by omega)
    have B1 := B1.keepb E6 (by intro h; first | omega | (change _ < _ at h; omega) | (change _ ≤ _ at h; omega) | (have h1 := h.1; have h2 := h.2; first | omega | (change _ ≤ _ at h1; omega) | (change _ < _ at h1; omega)))
    have B2 := B2.keepb E6 (by intro h; first | omega | (change _ < _ at h; omega) | (change _ ≤ _ at h; omega) | (have h1 := h.1; have h2 := h.2; first | omega | (change _ ≤ _ at h1; omega) | (change _ < _ at h1; omega)))
    clear B3
    have B3 : Blk _ _ _ [_, _, _, _, _, _, _, _, _] := B6
    clear B6
    refine OW_ev (Ev_c (.inr rfl)) rfl ?_
    refine OW_nil ?_
    refine CW_ret ?_
    refine ⟨rfl, _, (.cell rfl (ld_agg agg_33 (B3.sub 0 9 (Nat.le_of_ble_eq_true rfl)) rfl) (.tmp rfl .nil)), ?_⟩
    rw [hp]
    first | exact ⟨T, _, _, rfl, Nat.zero_le _, Nat.zero_le _, Sl.nil _ _ _ _⟩ | exact ⟨T, _, _, rfl, HL, HM, HS.mono (fun b _ h => Nat.le_trans (by omega) h)⟩
  · have d5 := c5
    first | (with_reducible replace d5 := of_decide_eq_false d5) | (with_reducible replace d5 := bnf d5; try (with_reducible replace d5 := of_decide_eq_true d5)) | skip
    have hris : r.is = true := d5
    refine OW_yes rfl rfl rfl rfl c5 (Ev.stp (Ev_fieldAddr fld_31_1 rfl rfl) ?_)
    refine OW_yes rfl rfl rfl rfl c5 (Ev.stp (Ev_loadAgg (l := [.int _ _, .int _ _, .int _ _, .int _ _, .int _ _, .int _ _]) agg_29 rfl rfl (B2.sub 1 6 (Nat.le_of_ble_eq_true rfl)) rfl) ?_)
    refine OW_yes rfl rfl rfl rfl c5 (Stp_call ent_31 rfl rfl rfl (eventIs_c _ x.e) ?_)
    rintro _ w7 ⟨E7, rfl⟩
    have Z7 := E7.size
    have hx := hx.keep0 E7
    have T := T.keep0 E7
    have B1 := B1.keep0 E7
    have B2 := B2.keep0 E7
    have B3 := B3.keep0 E7
    refine OW_yes rfl rfl rfl rfl c5 (Ev.stp (Ev_not rfl rfl) ?_)
    refine OW_ev (Ev_pickb_f rfl rfl c5 rfl) rfl ?_
    refine OW_nil ?_
    refine CW_cond rfl (fun c8 => ?_) (fun c8 => ?_)
    · have d8 := c8
      first | (with_reducible replace d8 := of_decide_eq_true d8) | (with_reducible replace d8 := bnt d8; try (with_reducible replace d8 := of_decide_eq_false d8)) | skip
      have hp : r.put x = (Rg.zero, 1) := if_neg (by simp [d8])
      refine CW_seq ?_
      refine CW_reg rfl ?_
      refine OW_ev (Ev_build (l := [.int _ _, .slice _ _ _, .int _ _, .int _ _, .int _ _, .int _ _, .int _ _, .int _ _, .int _ _]) plc_33 zero_33 rfl rfl rfl) rfl ?_
      refine OW_st rfl (Stp_store (q := 0) (vs := [.int _ _, .slice _ _ _, .int _ _, .int _ _, .int _ _, .int _ _, .int _ _, .int _ _, .int _ _]) B3 siz_33 rfl rfl rfl rfl (Nat.le_of_ble_eq_true rfl) rfl ?_)
      intro w9 hz9 E9 B9
      have Z9 := E9.size
      have hx := hx.keepb E9 (by show ¬ _ < _; omega)
      have T := T.transb E9 (by omega)
      have B1 := B1.keepb E9 (by intro h; first | omega | (change _ < _ at h; omega) | (change _ ≤ _ at h; omega) | (have h1 := h.1; have h2 := h.2; first | omega | (change _ ≤ _ at h1; omega) | (change _ < _ at h1; omega)))
      have B2 := B2.keepb E9 (by intro h; first | omega | (change _ < _ at h; omega) | (change _ ≤ _ at h; omega) | (have h1 := h.1; have h2 := h.2; first | omega | (change _ ≤ _ at h1; omega) | (change _ < _ at h1; omega)))
      clear B3
      have B3 : Blk _ _ _ [_, _, _, _, _, _, _, _, _] := B9
      clear B9
      refine OW_ev (Ev_c (.inr rfl)) rfl ?_
      refine OW_nil ?_
      refine CW_ret ?_
      refine ⟨rfl, _, (.cell rfl (ld_agg agg_33 (B3.sub 0 9 (Nat.le_of_ble_eq_true rfl)) rfl) (.tmp rfl .nil)), ?_⟩
      rw [hp]
      first | exact ⟨T, _, _, rfl, Nat.zero_le _, Nat.zero_le _, Sl.nil _ _ _ _⟩ | exact ⟨T, _, _, rfl, HL, HM, HS.mono (fun b _ h => Nat.le_trans (by omega) h)⟩
    · have d8 := c8
      first | (with_reducible replace d8 := of_decide_eq_false d8) | (with_reducible replace d8 := bnf d8; try (with_reducible replace d8 := of_decide_eq_true d8)) | skip
      have hxis : x.e.is = true := d8
      have hp0 : r.put x = (r.put1 x, 0) := if_pos ⟨hris, hxis⟩
      have hlen := Rg.is_len hris
      refine CW_skip ?_
      refine CW_seq ?_
      refine CW_reg rfl ?_
      refine OW_ev (Ev_fieldAddr fld_33_0 rfl rfl) rfl ?_
      refine OW_ev (Ev_load one_3 rfl rfl (B1.ld (q := 0) rfl)) rfl ?_
      refine OW_ev (Ev_fieldAddr fld_33_2 rfl rfl) rfl ?_
      refine OW_ev (Ev_loadAgg (l := [.int _ _, .int _ _, .int _ _, .int _ _, .int _ _, .int _ _, .int _ _]) agg_31 rfl rfl (B1.sub 2 7 (Nat.le_of_ble_eq_true rfl)) rfl) rfl ?_
      refine OW_ev (Ev_build (l := [.int _ _, .slice _ _ _, .int _ _, .int _ _, .int _ _, .int _ _, .int _ _, .int _ _, .int _ _]) plc_33 zero_33 rfl rfl rfl) rfl ?_
      refine OW_st rfl (Stp_alloc zero_33 rfl ?_)
      intro b10 w10 hb10 hz10 E10 B10
      have L10 : _ ≤ b10 := Nat.le_trans T.size (Nat.le_of_eq hb10.symm)
      have hx := hx.keep0 E10
      have T := T.keep0 E10
      have B1 := B1.keep0 E10
      have B2 := B2.keep0 E10
      have B3 := B3.keep0 E10
      refine OW_st rfl (Stp_store (q := 0) (vs := [.int _ _, .slice _ _ _, .int _ _, .int _ _, .int _ _, .int _ _, .int _ _, .int _ _, .int _ _]) B10 siz_33 rfl rfl rfl rfl (Nat.le_of_ble_eq_true rfl) rfl ?_)
      intro w11 hz11 E11 B11
      have Z11 := E11.size
      have hx := hx.keepb E11 (by show ¬ _ < _; omega)
      have T := T.transb E11 (by omega)
      have B1 := B1.keepb E11 (by intro h; first | omega | (change _ < _ at h; omega) | (change _ ≤ _ at h; omega) | (have h1 := h.1; have h2 := h.2; first | omega | (change _ ≤ _ at h1; omega) | (change _ < _ at h1; omega)))
      have B2 := B2.keepb E11 (by intro h; first | omega | (change _ < _ at h; omega) | (change _ ≤ _ at h; omega) | (have h1 := h.1; have h2 := h.2; first | omega | (change _ ≤ _ at h1; omega) | (change _ < _ at h1; omega)))
      have B3 := B3.keepb E11 (by intro h; first | omega | (change _ < _ at h; omega) | (change _ ≤ _ at h; omega) | (have h1 := h.1; have h2 := h.2; first | omega | (change _ ≤ _ at h1; omega) | (change _ < _ at h1; omega)))
      clear B10
      have B10 : Blk _ _ _ [_, _, _, _, _, _, _, _, _] := B11
      clear B11
      refine OW_nil ?_
      refine CW_seq ?_
      refine CW_re [(2, .pointer _), (3, .pointer _), (4, .pointer _), (5, .int _ _), (6, .pointer _)] ⟨rfl, rfl, rfl, rfl, rfl, trivial⟩ (fun g => ?_)
      refine CW_reg rfl ?_
      refine OW_ev (Ev_fieldAddr fld_33_0 rfl rfl) rfl ?_
      refine OW_ev (Ev_load one_3 rfl rfl (B1.ld (q := 0) rfl)) rfl ?_
      refine OW_ev (Ev_fieldAddr fld_33_1 rfl rfl) rfl ?_
      refine OW_ev (Ev_load one_26 rfl rfl (B1.ld (q := 1) rfl)) rfl ?_
      refine OW_ev (Ev_len und_26 rfl rfl) rfl ?_
      refine OW_ev (Ev_sub rfl rfl rfl (by first | (apply IntWalk.i64_in; omega) | (apply IntWalk.u64_in; omega) | (apply IntWalk.u32_in; omega) | (apply IntWalk.u8_in; omega) | (apply IntWalk.i32_in; omega) | rfl)) rfl ?_
      refine OW_ev (Ev_mvi (.inr rfl) rfl) rfl ?_
      refine OW_nil ?_
      refine CW_seq ?_
      refine CW_block ?_
      refine CW_seq ?_
      refine CW_reg rfl ?_
      refine OW_ev (Ev_loadAgg (l := [.int _ _, .slice _ _ _, .int _ _, .int _ _, .int _ _, .int _ _, .int _ _, .int _ _, .int _ _]) agg_33 rfl rfl (B1.sub 0 9 (Nat.le_of_ble_eq_true rfl)) rfl) rfl ?_
      refine OW_st rfl (Stp_call ent_32 rfl rfl rfl (hasGap_c _ r ao c) ?_)
      rintro _ w12 ⟨E12, rfl⟩
      have Z12 := E12.size
      have hx := hx.keep0 E12
      have T := T.keep0 E12
      have B1 := B1.keep0 E12
      have B2 := B2.keep0 E12
      have B3 := B3.keep0 E12
      have B10 := B10.keep0 E12
      refine OW_ev (Ev_mvb (.inl rfl) rfl) rfl ?_
      refine OW_split (d := .tmp 47) rfl (fun c13 => ?_) (fun c13 => ?_)
      · have d13 := c13
        first | (with_reducible replace d13 := of_decide_eq_true d13) | (with_reducible replace d13 := bnt d13; try (with_reducible replace d13 := of_decide_eq_false d13)) | skip
        have hg : r.hasGap = true := d13
        have hga := Rg.is_gap hris hg
        refine OW_yes rfl rfl rfl rfl c13 (Ev.stp (Ev_mvi (.inl rfl) rfl) ?_)
        refine OW_yes rfl rfl rfl rfl c13 (Ev.stp (Ev_geq rfl rfl rfl) ?_)
        refine OW_ev (Ev_pickb_t rfl rfl c13 rfl) rfl ?_
        refine OW_ev (Ev_mvb (.inr rfl) rfl) rfl ?_
        refine OW_nil ?_
        refine CW_cond rfl (fun c14 => ?_) (fun c14 => ?_)
        · have d14 := c14
          first | (with_reducible replace d14 := of_decide_eq_true d14) | (with_reducible replace d14 := bnt d14; try (with_reducible replace d14 := of_decide_eq_false d14)) | skip
          have hp : r.put x = (⟨r.room, r.l ++ [r.gap, x], Ent.zero⟩, 0) := by rw [hp0, Rg.put1, if_pos hg, if_pos (by omega)]
          refine CW_seq ?_
          refine CW_re [(2, .pointer _), (3, .pointer _), (4, .pointer _), (5, .int _ _), (6, .pointer _)] ⟨rfl, rfl, rfl, rfl, rfl, trivial⟩ (fun g => ?_)
          refine CW_reg rfl ?_
          refine OW_ev (Ev_fieldAddr fld_33_1 rfl rfl) rfl ?_
          refine OW_ev (Ev_load one_26 rfl rfl (B1.ld (q := 1) rfl)) rfl ?_
          refine OW_ev (Ev_fieldAddr fld_33_2 rfl rfl) rfl ?_
          refine OW_ev (Ev_loadAgg (l := [.int _ _, .int _ _, .int _ _, .int _ _, .int _ _, .int _ _, .int _ _]) agg_31 rfl rfl (B1.sub 2 7 (Nat.le_of_ble_eq_true rfl)) rfl) rfl ?_
          refine OW_ev (Ev_loadAgg (l := [.int _ _, .int _ _, .int _ _, .int _ _, .int _ _, .int _ _, .int _ _]) agg_31 rfl rfl (B2.sub 0 7 (Nat.le_of_ble_eq_true rfl)) rfl) rfl ?_
          refine OW_st rfl (Stp_buildSlice (l := [_, _, _, _, _, _, _, _, _, _, _, _, _, _]) el_26 zero_31 rfl rfl rfl rfl ?_)
          intro b15 w15 hb15 hz15 E15 B15
          have L15 : _ ≤ b15 := Nat.le_trans T.size (Nat.le_of_eq hb15.symm)
          have hx := hx.keep0 E15
          have T := T.keep0 E15
          have B1 := B1.keep0 E15
          have B2 := B2.keep0 E15
          have B3 := B3.keep0 E15
          have B10 := B10.keep0 E15
          have hy : Sl (· = b15) w15 7 (some ⟨b15, 0, none⟩) ([r.gap, x].map Ent.cells) := Sl.ofBlk B15 (by simp [Ent.cells_length])
          refine OW_st rfl (Stp_call ent_33 rfl rfl rfl (grown_c rfl rfl hx hy (by have := Rg.is_len hris; omega) (by simp)) ?_)
          rintro _ w16 ⟨E16, HZ, HY, rfl, HL, HM, HS⟩
          have Z16 := E16.size
          have hx := hx.keep0 E16
          have T := T.keep0 E16
          have B1 := B1.keep0 E16
          have B2 := B2.keep0 E16
          have B3 := B3.keep0 E16
          have B10 := B10.keep0 E16
          have B15 := B15.keep0 E16
          refine OW_ev (Ev_fieldAddr fld_33_1 rfl rfl) rfl ?_
          refine OW_st rfl (Stp_store (q := 1) (vs := [.slice _ _ _]) B10 siz_26 rfl rfl rfl rfl (Nat.le_of_ble_eq_true rfl) rfl ?_)
          intro w17 hz17 E17 B17
          have Z17 := E17.size
          have hx := hx.keepb E17 (by show ¬ _ < _; omega)
          have T := T.transb E17 (by omega)
          have B1 := B1.keepb E17 (by intro h; first | omega | (change _ < _ at h; omega) | (change _ ≤ _ at h; omega) | (have h1 := h.1; have h2 := h.2; first | omega | (change _ ≤ _ at h1; omega) | (change _ < _ at h1; omega)))
          have B2 := B2.keepb E17 (by intro h; first | omega | (change _ < _ at h; omega) | (change _ ≤ _ at h; omega) | (have h1 := h.1; have h2 := h.2; first | omega | (change _ ≤ _ at h1; omega) | (change _ < _ at h1; omega)))
          have B3 := B3.keepb E17 (by intro h; first | omega | (change _ < _ at h; omega) | (change _ ≤ _ at h; omega) | (have h1 := h.1; have h2 := h.2; first | omega | (change _ ≤ _ at h1; omega) | (change _ < _ at h1; omega)))
          have B15 := B15.keepb E17 (by intro h; first | omega | (change _ < _ at h; omega) | (change _ ≤ _ at h; omega) | (have h1 := h.1; have h2 := h.2; first | omega | (change _ ≤ _ at h1; omega) | (change _ < _ at h1; omega)))
          have HS := HS.keepb E17 (by show ¬ _ ≤ _; omega)
          clear B10
          have B10 : Blk _ _ _ [_, _, _, _, _, _, _, _, _] := B17
          clear B17
          refine OW_nil ?_
          refine CW_reg rfl ?_
          refine OW_ev (Ev_build (l := [.int _ _, .int _ _, .int _ _, .int _ _, .int _ _, .int _ _, .int _ _]) plc_31 zero_31 rfl rfl rfl) rfl ?_
          refine OW_ev (Ev_fieldAddr fld_33_2 rfl rfl) rfl ?_
          refine OW_st rfl (Stp_store (q := 2) (vs := [.int _ _, .int _ _, .int _ _, .int _ _, .int _ _, .int _ _, .int _ _]) B10 siz_31 rfl rfl rfl rfl (Nat.le_of_ble_eq_true rfl) rfl ?_)
          intro w18 hz18 E18 B18
          have Z18 := E18.size
          have hx := hx.keepb E18 (by show ¬ _ < _; omega)
          have T := T.transb E18 (by omega)
          have B1 := B1.keepb E18 (by intro h; first | omega | (change _ < _ at h; omega) | (change _ ≤ _ at h; omega) | (have h1 := h.1; have h2 := h.2; first | omega | (change _ ≤ _ at h1; omega) | (change _ < _ at h1; omega)))
          have B2 := B2.keepb E18 (by intro h; first | omega | (change _ < _ at h; omega) | (change _ ≤ _ at h; omega) | (have h1 := h.1; have h2 := h.2; first | omega | (change _ ≤ _ at h1; omega) | (change _ < _ at h1; omega)))
          have B3 := B3.keepb E18 (by intro h; first | omega | (change _ < _ at h; omega) | (change _ ≤ _ at h; omega) | (have h1 := h.1; have h2 := h.2; first | omega | (change _ ≤ _ at h1; omega) | (change _ < _ at h1; omega)))
          have B15 := B15.keepb E18 (by intro h; first | omega | (change _ < _ at h; omega) | (change _ ≤ _ at h; omega) | (have h1 := h.1; have h2 := h.2; first | omega | (change _ ≤ _ at h1; omega) | (change _ < _ at h1; omega)))
          have HS := HS.keepb E18 (by show ¬ _ ≤ _; omega)
          clear B10
          have B10 : Blk _ _ _ [_, _, _, _, _, _, _, _, _] := B18
          clear B18
          refine OW_nil ?_
          refine CW_seq ?_
          refine CW_reg rfl ?_
          refine OW_ev (Ev_loadAgg (l := [.int _ _, .slice _ _ _, .int _ _, .int _ _, .int _ _, .int _ _, .int _ _, .int _ _, .int _ _]) agg_33 rfl rfl (B10.sub 0 9 (Nat.le_of_ble_eq_true rfl)) rfl) rfl ?_
          refine OW_st rfl (Stp_store (q := 0) (vs := [.int _ _, .slice _ _ _, .int _ _, .int _ _, .int _ _, .int _ _, .int _ _, .int _ _, .int _ _]) B3 siz_33 rfl rfl rfl rfl (Nat.le_of_ble_eq_true rfl) rfl ?_)
          intro w19 hz19 E19 B19
          have Z19 := E19.size
          have hx := hx.keepb E19 (by show ¬ _ < _; omega)
          have T := T.transb E19 (by omega)
          have B1 := B1.keepb E19 (by intro h; first | omega | (change _ < _ at h; omega) | (change _ ≤ _ at h; omega) | (have h1 := h.1; have h2 := h.2; first | omega | (change _ ≤ _ at h1; omega) | (change _ < _ at h1; omega)))
          have B2 := B2.keepb E19 (by intro h; first | omega | (change _ < _ at h; omega) | (change _ ≤ _ at h; omega) | (have h1 := h.1; have h2 := h.2; first | omega | (change _ ≤ _ at h1; omega) | (change _ < _ at h1; omega)))
          have B10 := B10.keepb E19 (by intro h; first | omega | (change _ < _ at h; omega) | (change _ ≤ _ at h; omega) | (have h1 := h.1; have h2 := h.2; first | omega | (change _ ≤ _ at h1; omega) | (change _ < _ at h1; omega)))
          have B15 := B15.keepb E19 (by intro h; first | omega | (change _ < _ at h; omega) | (change _ ≤ _ at h; omega) | (have h1 := h.1; have h2 := h.2; first | omega | (change _ ≤ _ at h1; omega) | (change _ < _ at h1; omega)))
          have HS := HS.keepb E19 (by show ¬ _ ≤ _; omega)
          clear B3
          have B3 : Blk _ _ _ [_, _, _, _, _, _, _, _, _] := B19
          clear B19
          refine OW_ev (Ev_c (.inr rfl)) rfl ?_
          refine OW_nil ?_
          refine CW_ret ?_
          refine ⟨rfl, _, (.cell rfl (ld_agg agg_33 (B3.sub 0 9 (Nat.le_of_ble_eq_true rfl)) rfl) (.tmp rfl .nil)), ?_⟩
          rw [hp]
          first | exact ⟨T, _, _, rfl, Nat.zero_le _, Nat.zero_le _, Sl.nil _ _ _ _⟩ | exact ⟨T, _, _, rfl, HL, HM, HS.mono (fun b _ h => Nat.le_trans (by omega) h)⟩
        · have d14 := c14
          first | (with_reducible replace d14 := of_decide_eq_false d14) | (with_reducible replace d14 := bnf d14; try (with_reducible replace d14 := of_decide_eq_true d14)) | skip
          have hp : r.put x = (⟨r.room, r.l, { r.gap with e := { r.gap.e with a := min (r.gap.e.a + 1) 4294967295 } }⟩, 0) := by rw [hp0, Rg.put1, if_pos hg, if_neg (by omega)]
          refine CW_seq ?_
          refine CW_re [(2, .pointer _), (3, .pointer _), (4, .pointer _), (5, .int _ _), (6, .pointer _), (7, .int _ _)] ⟨rfl, rfl, rfl, rfl, rfl, rfl, trivial⟩ (fun g => ?_)
          refine CW_reg rfl ?_
          refine OW_ev (Ev_loadAgg (l := [.int _ _, .slice _ _ _, .int _ _, .int _ _, .int _ _, .int _ _, .int _ _, .int _ _, .int _ _]) agg_33 rfl rfl (B1.sub 0 9 (Nat.le_of_ble_eq_true rfl)) rfl) rfl ?_
          refine OW_st rfl (Stp_call ent_32 rfl rfl rfl (hasGap_c _ r ao c) ?_)
          rintro _ w20 ⟨E20, rfl⟩
          have Z20 := E20.size
          have hx := hx.keep0 E20
          have T := T.keep0 E20
          have B1 := B1.keep0 E20
          have B2 := B2.keep0 E20
          have B3 := B3.keep0 E20
          have B10 := B10.keep0 E20
          refine OW_ev (Ev_mvb (.inr rfl) rfl) rfl ?_
          refine OW_nil ?_
          refine CW_cond rfl (fun c21 => ?_) (fun c21 => ?_)
          · have d21 := c21
            first | (with_reducible replace d21 := of_decide_eq_true d21) | (with_reducible replace d21 := bnt d21; try (with_reducible replace d21 := of_decide_eq_false d21)) | skip
            refine CW_seq ?_
            refine CW_reg rfl ?_
            refine OW_ev (Ev_fieldAddr fld_33_1 rfl rfl) rfl ?_
            refine OW_ev (Ev_load one_26 rfl rfl (B1.ld (q := 1) rfl)) rfl ?_
            refine OW_st rfl (Stp_call ent_33 rfl rfl rfl (grown1_c rfl hx (by have := Rg.is_len hris; omega)) ?_)
            rintro _ w22 ⟨E22, HZ, HY, rfl, HL, HM, HS⟩
            have Z22 := E22.size
            have hx := hx.keep0 E22
            have T := T.keep0 E22
            have B1 := B1.keep0 E22
            have B2 := B2.keep0 E22
            have B3 := B3.keep0 E22
            have B10 := B10.keep0 E22
            refine OW_ev (Ev_fieldAddr fld_33_1 rfl rfl) rfl ?_
            refine OW_st rfl (Stp_store (q := 1) (vs := [.slice _ _ _]) B10 siz_26 rfl rfl rfl rfl (Nat.le_of_ble_eq_true rfl) rfl ?_)
            intro w23 hz23 E23 B23
            have Z23 := E23.size
            have hx := hx.keepb E23 (by show ¬ _ < _; omega)
            have T := T.transb E23 (by omega)
            have B1 := B1.keepb E23 (by intro h; first | omega | (change _ < _ at h; omega) | (change _ ≤ _ at h; omega) | (have h1 := h.1; have h2 := h.2; first | omega | (change _ ≤ _ at h1; omega) | (change _ < _ at h1; omega)))
            have B2 := B2.keepb E23 (by intro h; first | omega | (change _ < _ at h; omega) | (change _ ≤ _ at h; omega) | (have h1 := h.1; have h2 := h.2; first | omega | (change _ ≤ _ at h1; omega) | (change _ < _ at h1; omega)))
            have B3 := B3.keepb E23 (by intro h; first | omega | (change _ < _ at h; omega) | (change _ ≤ _ at h; omega) | (have h1 := h.1; have h2 := h.2; first | omega | (change _ ≤ _ at h1; omega) | (change _ < _ at h1; omega)))
            have HS := HS.keepb E23 (by show ¬ _ ≤ _; omega)
            clear B10
            have B10 : Blk _ _ _ [_, _, _, _, _, _, _, _, _] := B23
            clear B23
            refine OW_nil ?_
            refine CW_reg rfl ?_
            refine OW_ev (Ev_fieldAddr fld_33_2 rfl rfl) rfl ?_
            refine OW_ev (Ev_fieldAddr fld_31_1 rfl rfl) rfl ?_
            refine OW_ev (Ev_fieldAddr fld_29_4 rfl rfl) rfl ?_
            refine OW_ev (Ev_load one_3 rfl rfl (B1.ld (q := 7) rfl)) rfl ?_
            refine OW_ev (Ev_add rfl rfl rfl (by first | (apply IntWalk.i64_in; omega) | (apply IntWalk.u64_in; omega) | (apply IntWalk.u32_in; omega) | (apply IntWalk.u8_in; omega) | (apply IntWalk.i32_in; omega) | rfl)) rfl ?_
            refine OW_ev (Ev_min2 rfl rfl rfl) rfl ?_
            refine OW_ev (Ev_fieldAddr fld_33_2 rfl rfl) rfl ?_
            refine OW_ev (Ev_fieldAddr fld_31_1 rfl rfl) rfl ?_
            refine OW_ev (Ev_fieldAddr fld_29_4 rfl rfl) rfl ?_
            refine OW_st rfl (Stp_store (q := 7) (vs := [.int _ _]) B10 siz_3 rfl rfl rfl rfl (Nat.le_of_ble_eq_true rfl) rfl ?_)
            intro w24 hz24 E24 B24
            have Z24 := E24.size
            have hx := hx.keepb E24 (by show ¬ _ < _; omega)
            have T := T.transb E24 (by omega)
            have B1 := B1.keepb E24 (by intro h; first | omega | (change _ < _ at h; omega) | (change _ ≤ _ at h; omega) | (have h1 := h.1; have h2 := h.2; first | omega | (change _ ≤ _ at h1; omega) | (change _ < _ at h1; omega)))
            have B2 := B2.keepb E24 (by intro h; first | omega | (change _ < _ at h; omega) | (change _ ≤ _ at h; omega) | (have h1 := h.1; have h2 := h.2; first | omega | (change _ ≤ _ at h1; omega) | (change _ < _ at h1; omega)))
            have B3 := B3.keepb E24 (by intro h; first | omega | (change _ < _ at h; omega) | (change _ ≤ _ at h; omega) | (have h1 := h.1; have h2 := h.2; first | omega | (change _ ≤ _ at h1; omega) | (change _ < _ at h1; omega)))
            have HS := HS.keepb E24 (by show ¬ _ ≤ _; omega)
            clear B10
            have B10 : Blk _ _ _ [_, _, _, _, _, _, _, _, _] := B24
            clear B24
            refine OW_nil ?_
            refine CW_seq ?_
            refine CW_re [(4, .pointer _), (5, .int _ _), (6, .pointer _)] ⟨rfl, rfl, rfl, trivial⟩ (fun g => ?_)
            refine CW_reg rfl ?_
            refine OW_ev (Ev_loadAgg (l := [.int _ _, .slice _ _ _, .int _ _, .int _ _, .int _ _, .int _ _, .int _ _, .int _ _, .int _ _]) agg_33 rfl rfl (B10.sub 0 9 (Nat.le_of_ble_eq_true rfl)) rfl) rfl ?_
            refine OW_st rfl (Stp_store (q := 0) (vs := [.int _ _, .slice _ _ _, .int _ _, .int _ _, .int _ _, .int _ _, .int _ _, .int _ _, .int _ _]) B3 siz_33 rfl rfl rfl rfl (Nat.le_of_ble_eq_true rfl) rfl ?_)
            intro w25 hz25 E25 B25
            have Z25 := E25.size
            have hx := hx.keepb E25 (by show ¬ _ < _; omega)
            have T := T.transb E25 (by omega)
            have B1 := B1.keepb E25 (by intro h; first | omega | (change _ < _ at h; omega) | (change _ ≤ _ at h; omega) | (have h1 := h.1; have h2 := h.2; first | omega | (change _ ≤ _ at h1; omega) | (change _ < _ at h1; omega)))
            have B2 := B2.keepb E25 (by intro h; first | omega | (change _ < _ at h; omega) | (change _ ≤ _ at h; omega) | (have h1 := h.1; have h2 := h.2; first | omega | (change _ ≤ _ at h1; omega) | (change _ < _ at h1; omega)))
            have B10 := B10.keepb E25 (by intro h; first | omega | (change _ < _ at h; omega) | (change _ ≤ _ at h; omega) | (have h1 := h.1; have h2 := h.2; first | omega | (change _ ≤ _ at h1; omega) | (change _ < _ at h1; omega)))
            have HS := HS.keepb E25 (by show ¬ _ ≤ _; omega)
            clear B3
            have B3 : Blk _ _ _ [_, _, _, _, _, _, _, _, _] := B25
            clear B25
            refine OW_ev (Ev_c (.inr rfl)) rfl ?_
            refine OW_nil ?_
            refine CW_ret ?_
            refine ⟨rfl, _, (.cell rfl (ld_agg agg_33 (B3.sub 0 9 (Nat.le_of_ble_eq_true rfl)) rfl) (.tmp rfl .nil)), ?_⟩
            rw [hp]
            first | exact ⟨T, _, _, rfl, Nat.zero_le _, Nat.zero_le _, Sl.nil _ _ _ _⟩ | exact ⟨T, _, _, rfl, HL, HM, HS.mono (fun b _ h => Nat.le_trans (by omega) h)⟩
          · have d21 := c21
            first | (with_reducible replace d21 := of_decide_eq_false d21) | (with_reducible replace d21 := bnf d21; try (with_reducible replace d21 := of_decide_eq_true d21)) | skip
            exact absurd hg (by simp [c21])
      · have d13 := c13
        first | (with_reducible replace d13 := of_decide_eq_false d13) | (with_reducible replace d13 := bnf d13; try (with_reducible replace d13 := of_decide_eq_true d13)) | skip
        have hg : r.hasGap = false := d13
        refine OW_no rfl rfl rfl rfl c13 ?_
        refine OW_no rfl rfl rfl rfl c13 ?_
        refine OW_ev (Ev_pickb_f rfl rfl c13 rfl) rfl ?_
        refine OW_ev (Ev_mvb (.inr rfl) rfl) rfl ?_
        refine OW_nil ?_
        refine CW_cond_f rfl rfl ?_
        refine CW_seq ?_
        refine CW_re [(2, .pointer _), (3, .pointer _), (4, .pointer _), (5, .int _ _), (6, .pointer _), (7, .int _ _)] ⟨rfl, rfl, rfl, rfl, rfl, rfl, trivial⟩ (fun g => ?_)
        refine CW_reg rfl ?_
        refine OW_ev (Ev_loadAgg (l := [.int _ _, .slice _ _ _, .int _ _, .int _ _, .int _ _, .int _ _, .int _ _, .int _ _, .int _ _]) agg_33 rfl rfl (B1.sub 0 9 (Nat.le_of_ble_eq_true rfl)) rfl) rfl ?_
        refine OW_st rfl (Stp_call ent_32 rfl rfl rfl (hasGap_c _ r ao c) ?_)
        rintro _ w26 ⟨E26, rfl⟩
        have Z26 := E26.size
        have hx := hx.keep0 E26
        have T := T.keep0 E26
        have B1 := B1.keep0 E26
        have B2 := B2.keep0 E26
        have B3 := B3.keep0 E26
        have B10 := B10.keep0 E26
        refine OW_ev (Ev_mvb (.inr rfl) rfl) rfl ?_
        refine OW_nil ?_
        refine CW_cond rfl (fun c27 => ?_) (fun c27 => ?_)
        · have d27 := c27
          first | (with_reducible replace d27 := of_decide_eq_true d27) | (with_reducible replace d27 := bnt d27; try (with_reducible replace d27 := of_decide_eq_false d27)) | skip
          exact absurd hg (by simp [c27])
        · have d27 := c27
          first | (with_reducible replace d27 := of_decide_eq_false d27) | (with_reducible replace d27 := bnf d27; try (with_reducible replace d27 := of_decide_eq_true d27)) | skip
          refine CW_seq ?_
          refine CW_reg rfl ?_
          refine OW_ev (Ev_mvi (.inl rfl) rfl) rfl ?_
          refine OW_ev (Ev_geq rfl rfl rfl) rfl ?_
          refine OW_ev (Ev_mvb (.inr rfl) rfl) rfl ?_
          refine OW_nil ?_
          refine CW_cond rfl (fun c28 => ?_) (fun c28 => ?_)
          · have d28 := c28
            first | (with_reducible replace d28 := of_decide_eq_true d28) | (with_reducible replace d28 := bnt d28; try (with_reducible replace d28 := of_decide_eq_false d28)) | skip
            have hp : r.put x = (⟨r.room, r.l ++ [x], r.gap⟩, 0) := by rw [hp0, Rg.put1, if_neg (by simp [hg]), if_pos (by omega)]
            refine CW_reg rfl ?_
            refine OW_ev (Ev_fieldAddr fld_33_1 rfl rfl) rfl ?_
            refine OW_ev (Ev_load one_26 rfl rfl (B1.ld (q := 1) rfl)) rfl ?_
            refine OW_ev (Ev_loadAgg (l := [.int _ _, .int _ _, .int _ _, .int _ _, .int _ _, .int _ _, .int _ _]) agg_31 rfl rfl (B2.sub 0 7 (Nat.le_of_ble_eq_true rfl)) rfl) rfl ?_
            refine OW_st rfl (Stp_buildSlice (l := [_, _, _, _, _, _, _]) el_26 zero_31 rfl rfl rfl rfl ?_)
            intro b29 w29 hb29 hz29 E29 B29
            have L29 : _ ≤ b29 := Nat.le_trans T.size (Nat.le_of_eq hb29.symm)
            have hx := hx.keep0 E29
            have T := T.keep0 E29
            have B1 := B1.keep0 E29
            have B2 := B2.keep0 E29
            have B3 := B3.keep0 E29
            have B10 := B10.keep0 E29
            have hy : Sl (· = b29) w29 7 (some ⟨b29, 0, none⟩) ([x].map Ent.cells) := Sl.ofBlk B29 (by simp [Ent.cells_length])
            refine OW_st rfl (Stp_call ent_33 rfl rfl rfl (grown_c rfl rfl hx hy (by have := Rg.is_len hris; omega) (by simp)) ?_)
            rintro _ w30 ⟨E30, HZ, HY, rfl, HL, HM, HS⟩
            have Z30 := E30.size
            have hx := hx.keep0 E30
            have T := T.keep0 E30
            have B1 := B1.keep0 E30
            have B2 := B2.keep0 E30
            have B3 := B3.keep0 E30
            have B10 := B10.keep0 E30
            have B29 := B29.keep0 E30
            refine OW_ev (Ev_fieldAddr fld_33_1 rfl rfl) rfl ?_
            refine OW_st rfl (Stp_store (q := 1) (vs := [.slice _ _ _]) B10 siz_26 rfl rfl rfl rfl (Nat.le_of_ble_eq_true rfl) rfl ?_)
            intro w31 hz31 E31 B31
            have Z31 := E31.size
            have hx := hx.keepb E31 (by show ¬ _ < _; omega)
            have T := T.transb E31 (by omega)
            have B1 := B1.keepb E31 (by intro h; first | omega | (change _ < _ at h; omega) | (change _ ≤ _ at h; omega) | (have h1 := h.1; have h2 := h.2; first | omega | (change _ ≤ _ at h1; omega) | (change _ < _ at h1; omega)))
            have B2 := B2.keepb E31 (by intro h; first | omega | (change _ < _ at h; omega) | (change _ ≤ _ at h; omega) | (have h1 := h.1; have h2 := h.2; first | omega | (change _ ≤ _ at h1; omega) | (change _ < _ at h1; omega)))
            have B3 := B3.keepb E31 (by intro h; first | omega | (change _ < _ at h; omega) | (change _ ≤ _ at h; omega) | (have h1 := h.1; have h2 := h.2; first | omega | (change _ ≤ _ at h1; omega) | (change _ < _ at h1; omega)))
            have B29 := B29.keepb E31 (by intro h; first | omega | (change _ < _ at h; omega) | (change _ ≤ _ at h; omega) | (have h1 := h.1; have h2 := h.2; first | omega | (change _ ≤ _ at h1; omega) | (change _ < _ at h1; omega)))
            have HS := HS.keepb E31 (by show ¬ _ ≤ _; omega)
            clear B10
            have B10 : Blk _ _ _ [_, _, _, _, _, _, _, _, _] := B31
            clear B31
            refine OW_nil ?_
            refine CW_seq ?_
            refine CW_re [(4, .pointer _), (5, .int _ _), (6, .pointer _)] ⟨rfl, rfl, rfl, trivial⟩ (fun g => ?_)
            refine CW_reg rfl ?_
            refine OW_ev (Ev_loadAgg (l := [.int _ _, .slice _ _ _, .int _ _, .int _ _, .int _ _, .int _ _, .int _ _, .int _ _, .int _ _]) agg_33 rfl rfl (B10.sub 0 9 (Nat.le_of_ble_eq_true rfl)) rfl) rfl ?_
            refine OW_st rfl (Stp_store (q := 0) (vs := [.int _ _, .slice _ _ _, .int _ _, .int _ _, .int _ _, .int _ _, .int _ _, .int _ _, .int _ _]) B3 siz_33 rfl rfl rfl rfl (Nat.le_of_ble_eq_true rfl) rfl ?_)
            intro w32 hz32 E32 B32
            have Z32 := E32.size
            have hx := hx.keepb E32 (by show ¬ _ < _; omega)
            have T := T.transb E32 (by omega)
            have B1 := B1.keepb E32 (by intro h; first | omega | (change _ < _ at h; omega) | (change _ ≤ _ at h; omega) | (have h1 := h.1; have h2 := h.2; first | omega | (change _ ≤ _ at h1; omega) | (change _ < _ at h1; omega)))
            have B2 := B2.keepb E32 (by intro h; first | omega | (change _ < _ at h; omega) | (change _ ≤ _ at h; omega) | (have h1 := h.1; have h2 := h.2; first | omega | (change _ ≤ _ at h1; omega) | (change _ < _ at h1; omega)))
            have B10 := B10.keepb E32 (by intro h; first | omega | (change _ < _ at h; omega) | (change _ ≤ _ at h; omega) | (have h1 := h.1; have h2 := h.2; first | omega | (change _ ≤ _ at h1; omega) | (change _ < _ at h1; omega)))
            have B29 := B29.keepb E32 (by intro h; first | omega | (change _ < _ at h; omega) | (change _ ≤ _ at h; omega) | (have h1 := h.1; have h2 := h.2; first | omega | (change _ ≤ _ at h1; omega) | (change _ < _ at h1; omega)))
            have HS := HS.keepb E32 (by show ¬ _ ≤ _; omega)
            clear B3
            have B3 : Blk _ _ _ [_, _, _, _, _, _, _, _, _] := B32
            clear B32
            refine OW_ev (Ev_c (.inr rfl)) rfl ?_
            refine OW_nil ?_
            refine CW_ret ?_
            refine ⟨rfl, _, (.cell rfl (ld_agg agg_33 (B3.sub 0 9 (Nat.le_of_ble_eq_true rfl)) rfl) (.tmp rfl .nil)), ?_⟩
            rw [hp]
            first | exact ⟨T, _, _, rfl, Nat.zero_le _, Nat.zero_le _, Sl.nil _ _ _ _⟩ | exact ⟨T, _, _, rfl, HL, HM, HS.mono (fun b _ h => Nat.le_trans (by omega) h)⟩
          · have d28 := c28
            first | (with_reducible replace d28 := of_decide_eq_false d28) | (with_reducible replace d28 := bnf d28; try (with_reducible replace d28 := of_decide_eq_true d28)) | skip
            have hp : r.put x = (⟨r.room, r.l, x.gapOf⟩, 0) := by rw [hp0, Rg.put1, if_neg (by simp [hg]), if_neg (by omega)]
            refine CW_seq ?_
            refine CW_reg rfl ?_
            refine OW_ev (Ev_fieldAddr fld_33_1 rfl rfl) rfl ?_
            refine OW_ev (Ev_load one_26 rfl rfl (B1.ld (q := 1) rfl)) rfl ?_
            refine OW_st rfl (Stp_call ent_33 rfl rfl rfl (grown1_c rfl hx (by have := Rg.is_len hris; omega)) ?_)
            rintro _ w33 ⟨E33, HZ, HY, rfl, HL, HM, HS⟩
            have Z33 := E33.size
            have hx := hx.keep0 E33
            have T := T.keep0 E33
            have B1 := B1.keep0 E33
            have B2 := B2.keep0 E33
            have B3 := B3.keep0 E33
            have B10 := B10.keep0 E33
            refine OW_ev (Ev_fieldAddr fld_33_1 rfl rfl) rfl ?_
            refine OW_st rfl (Stp_store (q := 1) (vs := [.slice _ _ _]) B10 siz_26 rfl rfl rfl rfl (Nat.le_of_ble_eq_true rfl) rfl ?_)
            intro w34 hz34 E34 B34
            have Z34 := E34.size
            have hx := hx.keepb E34 (by show ¬ _ < _; omega)
            have T := T.transb E34 (by omega)
            have B1 := B1.keepb E34 (by intro h; first | omega | (change _ < _ at h; omega) | (change _ ≤ _ at h; omega) | (have h1 := h.1; have h2 := h.2; first | omega | (change _ ≤ _ at h1; omega) | (change _ < _ at h1; omega)))
            have B2 := B2.keepb E34 (by intro h; first | omega | (change _ < _ at h; omega) | (change _ ≤ _ at h; omega) | (have h1 := h.1; have h2 := h.2; first | omega | (change _ ≤ _ at h1; omega) | (change _ < _ at h1; omega)))
            have B3 := B3.keepb E34 (by intro h; first | omega | (change _ < _ at h; omega) | (change _ ≤ _ at h; omega) | (have h1 := h.1; have h2 := h.2; first | omega | (change _ ≤ _ at h1; omega) | (change _ < _ at h1; omega)))
            have HS := HS.keepb E34 (by show ¬ _ ≤ _; omega)
            clear B10
            have B10 : Blk _ _ _ [_, _, _, _, _, _, _, _, _] := B34
            clear B34
            refine OW_nil ?_
            refine CW_reg rfl ?_
            refine OW_ev (Ev_fieldAddr fld_31_0 rfl rfl) rfl ?_
            refine OW_ev (Ev_load one_27 rfl rfl (B2.ld (q := 0) rfl)) rfl ?_
            refine OW_ev (Ev_fieldAddr fld_31_1 rfl rfl) rfl ?_
            refine OW_ev (Ev_fieldAddr fld_29_1 rfl rfl) rfl ?_
            refine OW_ev (Ev_load one_3 rfl rfl (B2.ld (q := 2) rfl)) rfl ?_
            refine OW_ev (Ev_fieldAddr fld_31_1 rfl rfl) rfl ?_
            refine OW_ev (Ev_fieldAddr fld_29_2 rfl rfl) rfl ?_
            refine OW_ev (Ev_load one_3 rfl rfl (B2.ld (q := 3) rfl)) rfl ?_
            refine OW_ev (Ev_build (l := [.int _ _, .int _ _, .int _ _, .int _ _, .int _ _, .int _ _]) plc_29 zero_29 rfl rfl rfl) rfl ?_
            refine OW_ev (Ev_build (l := [.int _ _, .int _ _, .int _ _, .int _ _, .int _ _, .int _ _, .int _ _]) plc_31 zero_31 rfl rfl rfl) rfl ?_
            refine OW_ev (Ev_fieldAddr fld_33_2 rfl rfl) rfl ?_
            refine OW_st rfl (Stp_store (q := 2) (vs := [.int _ _, .int _ _, .int _ _, .int _ _, .int _ _, .int _ _, .int _ _]) B10 siz_31 rfl rfl rfl rfl (Nat.le_of_ble_eq_true rfl) rfl ?_)
            intro w35 hz35 E35 B35
            have Z35 := E35.size
            have hx := hx.keepb E35 (by show ¬ _ < _; omega)
            have T := T.transb E35 (by omega)
            have B1 := B1.keepb E35 (by intro h; first | omega | (change _ < _ at h; omega) | (change _ ≤ _ at h; omega) | (have h1 := h.1; have h2 := h.2; first | omega | (change _ ≤ _ at h1; omega) | (change _ < _ at h1; omega)))
            have B2 := B2.keepb E35 (by intro h; first | omega | (change _ < _ at h; omega) | (change _ ≤ _ at h; omega) | (have h1 := h.1; have h2 := h.2; first | omega | (change _ ≤ _ at h1; omega) | (change _ < _ at h1; omega)))
            have B3 := B3.keepb E35 (by intro h; first | omega | (change _ < _ at h; omega) | (change _ ≤ _ at h; omega) | (have h1 := h.1; have h2 := h.2; first | omega | (change _ ≤ _ at h1; omega) | (change _ < _ at h1; omega)))
            have HS := HS.keepb E35 (by show ¬ _ ≤ _; omega)
            clear B10
            have B10 : Blk _ _ _ [_, _, _, _, _, _, _, _, _] := B35
            clear B35
            refine OW_nil ?_
            refine CW_seq ?_
            refine CW_re [(4, .pointer _), (5, .int _ _), (6, .pointer _)] ⟨rfl, rfl, rfl, trivial⟩ (fun g => ?_)
            refine CW_reg rfl ?_
            refine OW_ev (Ev_loadAgg (l := [.int _ _, .slice _ _ _, .int _ _, .int _ _, .int _ _, .int _ _, .int _ _, .int _ _, .int _ _]) agg_33 rfl rfl (B10.sub 0 9 (Nat.le_of_ble_eq_true rfl)) rfl) rfl ?_
            refine OW_st rfl (Stp_store (q := 0) (vs := [.int _ _, .slice _ _ _, .int _ _, .int _ _, .int _ _, .int _ _, .int _ _, .int _ _, .int _ _]) B3 siz_33 rfl rfl rfl rfl (Nat.le_of_ble_eq_true rfl) rfl ?_)
            intro w36 hz36 E36 B36
            have Z36 := E36.size
            have hx := hx.keepb E36 (by show ¬ _ < _; omega)
            have T := T.transb E36 (by omega)
            have B1 := B1.keepb E36 (by intro h; first | omega | (change _ < _ at h; omega) | (change _ ≤ _ at h; omega) | (have h1 := h.1; have h2 := h.2; first | omega | (change _ ≤ _ at h1; omega) | (change _ < _ at h1; omega)))
            have B2 := B2.keepb E36 (by intro h; first | omega | (change _ < _ at h; omega) | (change _ ≤ _ at h; omega) | (have h1 := h.1; have h2 := h.2; first | omega | (change _ ≤ _ at h1; omega) | (change _ < _ at h1; omega)))
            have B10 := B10.keepb E36 (by intro h; first | omega | (change _ < _ at h; omega) | (change _ ≤ _ at h; omega) | (have h1 := h.1; have h2 := h.2; first | omega | (change _ ≤ _ at h1; omega) | (change _ < _ at h1; omega)))
            have HS := HS.keepb E36 (by show ¬ _ ≤ _; omega)
            clear B3
            have B3 : Blk _ _ _ [_, _, _, _, _, _, _, _, _] := B36
            clear B36
            refine OW_ev (Ev_c (.inr rfl)) rfl ?_
            refine OW_nil ?_
            refine CW_ret ?_
            refine ⟨rfl, _, (.cell rfl (ld_agg agg_33 (B3.sub 0 9 (Nat.le_of_ble_eq_true rfl)) rfl) (.tmp rfl .nil)), ?_⟩
            rw [hp]
            first | exact ⟨T, _, _, rfl, Nat.zero_le _, Nat.zero_le _, Sl.nil _ _ _ _⟩ | exact ⟨T, _, _, rfl, HL, HM, HS.mono (fun b _ h => Nat.le_trans (by omega) h)⟩

end Go.Proofs.Ytiedmigdgelhkaa