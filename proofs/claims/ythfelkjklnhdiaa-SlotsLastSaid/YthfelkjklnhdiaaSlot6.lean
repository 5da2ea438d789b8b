/- The example of chapter 11. -/
import Derived.Test.YthfelkjklnhdiaaSlot5
namespace Go.Proofs.Ythfelkjklnhdiaa
open Go Go.RowKit Bx Go.Proofs

def smk (ep tail next : Nat) : SupM := ⟨ep, tail, 0, List.replicate 32 0, 0, 0, next, List.replicate 32 0⟩
theorem smk_ok {ep tail next : Nat} (h1 : ep < 18446744073709551616) (h2 : tail < 18446744073709551616) (h3 : next < 18446744073709551616) : (smk ep tail next).Ok := ⟨h1, h2, (by decide : (0 : Nat) < 18446744073709551616), (by decide : (0 : Nat) < 18446744073709551616), (by decide : (0 : Nat) < 18446744073709551616), h3, rfl, rfl⟩
theorem step_first (A : List UInt8) : stepS (SupM.zero, false) A = if (getS A).2 = 0 then ((getS A).1, true) else (SupM.zero, false) := rfl
theorem readS_none {A B : List UInt8} (hA : (getS A).2 ≠ 0) (hB : (getS B).2 ≠ 0) : readS A B = (SupM.zero, 7) := by
  have h : chs A B 2 = (SupM.zero, false) := by
    show stepS (stepS (SupM.zero, false) A) B = _
    rw [step_first, if_neg hA, step_first, if_neg hB]
  unfold readS; rw [h]; rfl
theorem readS_a {A B : List UInt8} {s : SupM} (hA : getS A = (s, 0)) (hB : (getS B).2 ≠ 0 ∨ (getS B).1.ep < s.ep) : readS A B = (s, 0) := by
  have h : chs A B 2 = (s, true) := by
    show stepS (stepS (SupM.zero, false) A) B = _
    rw [step_first, hA, if_pos rfl]
    unfold stepS
    by_cases h0 : (getS B).2 = 0
    · rw [if_pos h0, if_neg]
      have := hB.resolve_left (fun h => h h0)
      show ¬ (!true || decide ((s.ep : Int) < ((getS B).1.ep : Int))) = true
      rw [decide_eq_false (by omega)]; decide
    · rw [if_neg h0]
  unfold readS; rw [h]; rfl
theorem readS_b {A B : List UInt8} {s : SupM} (hB : getS B = (s, 0)) (hA : (getS A).2 ≠ 0 ∨ (getS A).1.ep < s.ep) : readS A B = (s, 0) := by
  have h : chs A B 2 = (s, true) := by
    show stepS (stepS (SupM.zero, false) A) B = _
    rw [step_first]
    by_cases h0 : (getS A).2 = 0
    · rw [if_pos h0]
      unfold stepS
      rw [hB, if_pos rfl, if_pos]
      have := hA.resolve_left (fun h => h h0)
      show (!true || decide (((getS A).1.ep : Int) < (s.ep : Int))) = true
      rw [decide_eq_true (by omega)]; rfl
    · rw [if_neg h0, step_first, hB, if_pos rfl]
  unfold readS; rw [h]; rfl
theorem getS_blank {n : Nat} (h : 256 ≤ n) : (getS (pad n [])).2 ≠ 0 := by rw [getS_none (by omega)]; decide
theorem new_two {m s bl bm : Nat} (hm : 2 ≤ m) (hs : 256 ≤ s) : TwoS (DkM.new m s bl bm) (pad s []) (pad s []) := by
  have h2 : ∀ k, k < 2 → secL s (List.replicate (m * s) (0 : UInt8)) k = pad s [] := by
    intro k hk
    have := mul_room (size := s) (show k < m by omega)
    unfold secL pad
    rw [List.drop_replicate, List.take_replicate, List.nil_append]
    congr 1
    show min s (m * s - k * s) = s - 0
    omega
  refine ⟨new_calm _ _ _ _, ?_, rfl, h2 0 (by decide), h2 1 (by decide)⟩
  show (if m < 2 ∨ s < 256 then (1 : Int) else 0) = 0
  rw [if_neg (by omega)]

set_option maxRecDepth 10000 in
set_option maxHeartbeats 2000000 in
theorem slotted_c (w : World) : Calls Try.prog 20 #[] w (Ret fun v w' => Kp0 w w' ∧ v = .bool (true)) := by
  obtain ⟨NW, hNW⟩ : ∃ x, x = w.heap.size := ⟨_, rfl⟩
  have ok5 : (smk 5 0 10).Ok := smk_ok (by decide) (by decide) (by decide)
  have T : Kp0 w w := Kp.refl _ _
  refine calls_start Try.func20 rfl (n := 89) rfl rfl rfl ?_
  refine CW_seq ?_
  refine CW_reg rfl ?_
  refine OW_ev (Ev_c (.inr rfl)) rfl ?_
  refine OW_nil ?_
  refine CW_seq ?_
  refine CW_reg rfl ?_
  refine OW_st rfl (Stp_call ent_8 rfl rfl rfl (snew_ok (m := 2) (s := 256) (by unfold newOk; decide)) ?_)
  rintro _ w1 ⟨E1, bd, bl, bm, rfl, hbd, HS0⟩
  have Z1 := E1.size
  have T := T.keep0 E1
  have hbn := HS0.kd.lt
  have hS : DkS (fun b => NW ≤ b) w1 bd (DkM.new 2 256 bl bm) := HS0.mono (fun b h => by omega)
  have two := new_two (m := 2) (s := 256) (bl := bl) (bm := bm) (by decide) (by decide)
  refine OW_ev (Ev_mvt (.inl rfl) rfl) rfl ?_
  refine OW_ev (Ev_extract (vs := _) rfl rfl rfl) rfl ?_
  refine OW_ev (Ev_extract (vs := _) rfl rfl rfl) rfl ?_
  refine OW_ev (Ev_mvp (.inr rfl) rfl) rfl ?_
  refine OW_ev (Ev_mvi (.inr rfl) rfl) rfl ?_
  refine OW_nil ?_
  refine CW_seq ?_
  refine CW_reg rfl ?_
  refine OW_ev (Ev_mvp (.inl rfl) rfl) rfl ?_
  have hrd := rd2_c hS two
  rw [readS_none (getS_blank (by decide)) (getS_blank (by decide))] at hrd
  dsimp only at hrd
  refine OW_st rfl (Stp_call ent_22 rfl rfl rfl (hrd) ?_)
  rintro _ w2 ⟨E2, HS2, rfl⟩
  have Z2 := E2.size
  have T := T.trans' E2 (fun i hi h => by have h : i = bd := h; omega)
  have hS := HS2
  refine OW_ev (Ev_mvt (.inl rfl) rfl) rfl ?_
  refine OW_ev (Ev_extract (vs := _) rfl rfl rfl) rfl ?_
  refine OW_ev (Ev_extract (vs := _) rfl rfl rfl) rfl ?_
  have hS := hS.bound
  refine OW_st rfl (Stp_alloc zero_48 rfl ?_)
  intro b3 w3 hb3 hz3 E3 B3
  have L3 : _ ≤ b3 := Nat.le_trans T.size (Nat.le_of_eq hb3.symm)
  have T := T.keep0 E3
  have hS := hS.keep0 E3
  obtain ⟨b3, rfl⟩ : ∃ b, b = b3 := ⟨_, rfl⟩
  have HB3 : Blk w3 b3 48 SupM.zero.cells := B3
  have hl_b3 : NW ≤ b3 := by omega
  refine OW_st rfl (Stp_store (q := 0) (vs := SupM.zero.cells) HB3 siz_48 rfl rfl rfl zero_ok.len (by rw [zero_ok.len]; exact Nat.le_refl _) (SupM.one _) ?_)
  intro w4 hz4 E4 B4
  have Z4 := E4.size
  have T := T.trans' E4 (fun i hi h => by have h : i = b3 := h; omega)
  have hS := hS.keepb E4 (by intro h; first | omega | (change _ < _ at h; omega) | (change _ ≤ _ at h; omega) | (have h1 := h.1; have h2 := h.2; first | omega | (change _ ≤ _ at h1; omega) | (change _ < _ at h1; omega)))
  clear HB3
  have HB3 := B4
  clear B4
  have HB3 : Blk w4 b3 48 SupM.zero.cells := by rw [← putAt_all (l := SupM.zero.cells) (vs := SupM.zero.cells) (zero_ok.len.trans rfl)]; exact HB3
  refine OW_ev (Ev_mvi (.inr rfl) rfl) rfl ?_
  refine OW_nil ?_
  refine CW_seq ?_
  refine CW_reg rfl ?_
  refine OW_ev (Ev_mvp (.inl rfl) rfl) rfl ?_
  refine OW_ev (Ev_build (l := (smk 4 0 9).cells) plc_48 zero_48 rfl rfl rfl) rfl ?_
  refine OW_st rfl (Stp_call ent_21 rfl rfl rfl (wr2_c hS two (smk 4 0 9) (smk_ok (by decide) (by decide) (by decide))) ?_)
  rintro _ w5 ⟨dN5, rfl, E5, HS2, em5, es5, tw5⟩
  have Z5 := E5.size
  have T := T.trans' E5 (fun i hi h => by first | (have := h.1; omega) | omega)
  have hS : DkS (fun b => NW ≤ b) w5 bd dN5 := HS2.mono (fun b h => h.elim (fun h => h.1) (fun h => by omega))
  have two : TwoS dN5 (pad 256 (smk 4 0 9).str) (pad 256 []) := tw5
  have es1 : dN5.size = 256 := es5
  clear tw5 em5 es5
  refine OW_ev (Ev_mvi (.inr rfl) rfl) rfl ?_
  refine OW_nil ?_
  refine CW_seq ?_
  refine CW_re [(0, .bool _), (1, .pointer _), (2, .int _ _), (4, .int _ _), (5, .int _ _)] ⟨rfl, rfl, rfl, rfl, rfl, trivial⟩ (fun g => ?_)
  refine CW_reg rfl ?_
  refine OW_ev (Ev_mvp (.inl rfl) rfl) rfl ?_
  refine OW_ev (Ev_build (l := (smk 5 0 10).cells) plc_48 zero_48 rfl rfl rfl) rfl ?_
  refine OW_st rfl (Stp_call ent_21 rfl rfl rfl (wr2_c hS two (smk 5 0 10) (smk_ok (by decide) (by decide) (by decide))) ?_)
  rintro _ w6 ⟨dN6, rfl, E6, HS2, em6, es6, tw6⟩
  have Z6 := E6.size
  have T := T.trans' E6 (fun i hi h => by first | (have := h.1; omega) | omega)
  have hS : DkS (fun b => NW ≤ b) w6 bd dN6 := HS2.mono (fun b h => h.elim id (fun h => by omega))
  have two : TwoS dN6 (pad 256 (smk 4 0 9).str) (pad 256 (smk 5 0 10).str) := by rw [es1] at tw6; exact tw6
  have es2 : dN6.size = 256 := es6.trans es1
  refine OW_ev (Ev_mvi (.inr rfl) rfl) rfl ?_
  refine OW_nil ?_
  refine CW_seq ?_
  refine CW_reg rfl ?_
  refine OW_ev (Ev_mvp (.inl rfl) rfl) rfl ?_
  have hrd := rd2_c hS two
  rw [readS_b (getS_pad (smk_ok (by decide) (by decide) (by decide)) 256) (.inr (by rw [getS_pad (smk_ok (by decide) (by decide) (by decide)) 256]; first | done | decide))] at hrd
  dsimp only at hrd
  refine OW_st rfl (Stp_call ent_22 rfl rfl rfl (hrd) ?_)
  rintro _ w7 ⟨E7, HS2, rfl⟩
  have Z7 := E7.size
  have T := T.trans' E7 (fun i hi h => by have h : i = bd := h; omega)
  have hS := HS2
  refine OW_ev (Ev_mvt (.inl rfl) rfl) rfl ?_
  refine OW_ev (Ev_extract (vs := _) rfl rfl rfl) rfl ?_
  refine OW_ev (Ev_extract (vs := _) rfl rfl rfl) rfl ?_
  have hS := hS.bound
  refine OW_st rfl (Stp_alloc zero_48 rfl ?_)
  intro b8 w8 hb8 hz8 E8 B8
  have L8 : _ ≤ b8 := Nat.le_trans T.size (Nat.le_of_eq hb8.symm)
  have T := T.keep0 E8
  have hS := hS.keep0 E8
  obtain ⟨b7, rfl⟩ : ∃ b, b = b8 := ⟨_, rfl⟩
  have HB7 : Blk w8 b7 48 SupM.zero.cells := B8
  have hl_b7 : NW ≤ b7 := by omega
  refine OW_st rfl (Stp_store (q := 0) (vs := (smk 5 0 10).cells) HB7 siz_48 rfl rfl rfl ok5.len (by rw [ok5.len]; exact Nat.le_refl _) (SupM.one _) ?_)
  intro w9 hz9 E9 B9
  have Z9 := E9.size
  have T := T.trans' E9 (fun i hi h => by have h : i = b7 := h; omega)
  have hS := hS.keepb E9 (by intro h; first | omega | (change _ < _ at h; omega) | (change _ ≤ _ at h; omega) | (have h1 := h.1; have h2 := h.2; first | omega | (change _ ≤ _ at h1; omega) | (change _ < _ at h1; omega)))
  clear HB7
  have HB7 := B9
  clear B9
  have HB7 : Blk w9 b7 48 (smk 5 0 10).cells := by rw [← putAt_all (l := SupM.zero.cells) (vs := (smk 5 0 10).cells) (ok5.len.trans rfl)]; exact HB7
  refine OW_ev (Ev_mvi (.inr rfl) rfl) rfl ?_
  refine OW_nil ?_
  refine CW_seq ?_
  refine CW_reg rfl ?_
  refine OW_ev (Ev_mvp (.inl rfl) rfl) rfl ?_
  refine OW_st rfl (Stp_call ent_37 rfl rfl rfl (cl2_c hS two) ?_)
  rintro _ w10 ⟨dC, rfl, E10, HS2, em10, es10, tw10⟩
  have Z10 := E10.size
  have T := T.trans' E10 (fun i hi h => by have := h.1; omega)
  have HB7 := HB7.keep E10 (fun h => by have := h.2; omega)
  have hb7l := HB7.lt
  have hS : DkS (fun b => NW ≤ b ∧ b ≠ b7) w10 bd dC := HS2.mono (fun b h => h.elim (fun h => ⟨h.1, by have := h.2; omega⟩) (fun h => ⟨by omega, by omega⟩))
  have two : TwoS dC (pad 256 []) (pad 256 []) := by rw [es2] at tw10; exact tw10
  refine OW_ev (Ev_mvi (.inr rfl) rfl) rfl ?_
  refine OW_nil ?_
  refine CW_seq ?_
  refine CW_re [(0, .bool _), (1, .pointer _), (2, .int _ _), (4, .int _ _), (5, .int _ _), (6, .int _ _), (7, .pointer _), (8, .int _ _), (9, .int _ _)] ⟨rfl, rfl, rfl, rfl, rfl, rfl, rfl, rfl, rfl, trivial⟩ (fun g => ?_)
  refine CW_reg rfl ?_
  refine OW_ev (Ev_mvp (.inl rfl) rfl) rfl ?_
  have hrd := rd2_c hS two
  rw [readS_none (getS_blank (by decide)) (getS_blank (by decide))] at hrd
  dsimp only at hrd
  refine OW_st rfl (Stp_call ent_22 rfl rfl rfl (hrd) ?_)
  rintro _ w11 ⟨E11, HS2, rfl⟩
  have Z11 := E11.size
  have T := T.trans' E11 (fun i hi h => by have h : i = bd := h; omega)
  have HB7 := HB7.keepb E11 (by have := hS.sep.d1.2; exact fun e => this e.symm)
  have hS := HS2
  refine OW_ev (Ev_mvt (.inl rfl) rfl) rfl ?_
  refine OW_ev (Ev_extract (vs := _) rfl rfl rfl) rfl ?_
  refine OW_ev (Ev_extract (vs := _) rfl rfl rfl) rfl ?_
  have hS := hS.bound
  refine OW_st rfl (Stp_alloc zero_48 rfl ?_)
  intro b12 w12 hb12 hz12 E12 B12
  have L12 : _ ≤ b12 := Nat.le_trans T.size (Nat.le_of_eq hb12.symm)
  have T := T.keep0 E12
  have HB7 := HB7.keep0 E12
  have hS := hS.keep0 E12
  obtain ⟨b10, rfl⟩ : ∃ b, b = b12 := ⟨_, rfl⟩
  have HB10 : Blk w12 b10 48 SupM.zero.cells := B12
  have hl_b10 : NW ≤ b10 := by omega
  refine OW_st rfl (Stp_store (q := 0) (vs := SupM.zero.cells) HB10 siz_48 rfl rfl rfl zero_ok.len (by rw [zero_ok.len]; exact Nat.le_refl _) (SupM.one _) ?_)
  intro w13 hz13 E13 B13
  have Z13 := E13.size
  have T := T.trans' E13 (fun i hi h => by have h : i = b10 := h; omega)
  have HB7 := HB7.keepb E13 (by intro h; first | omega | (change _ < _ at h; omega) | (change _ ≤ _ at h; omega) | (have h1 := h.1; have h2 := h.2; first | omega | (change _ ≤ _ at h1; omega) | (change _ < _ at h1; omega)))
  have hS := hS.keepb E13 (by intro h; first | omega | (change _ < _ at h; omega) | (change _ ≤ _ at h; omega) | (have h1 := h.1; have h2 := h.2; first | omega | (change _ ≤ _ at h1; omega) | (change _ < _ at h1; omega)))
  clear HB10
  have HB10 := B13
  clear B13
  have HB10 : Blk w13 b10 48 SupM.zero.cells := by rw [← putAt_all (l := SupM.zero.cells) (vs := SupM.zero.cells) (zero_ok.len.trans rfl)]; exact HB10
  refine OW_ev (Ev_mvi (.inr rfl) rfl) rfl ?_
  refine OW_nil ?_
  refine CW_seq ?_
  refine CW_reg rfl ?_
  refine OW_st rfl (Stp_call ent_8 rfl rfl rfl (snew_ok (m := 2) (s := 255) (by unfold newOk; decide)) ?_)
  rintro _ w14 ⟨E14, bd9, bl9, bm9, rfl, hbd9, HS9⟩
  have Z14 := E14.size
  have T := T.keep0 E14
  have HB7 := HB7.keep0 E14
  have hS := hS.keep0 E14
  have HB10 := HB10.keep0 E14
  refine OW_ev (Ev_mvt (.inl rfl) rfl) rfl ?_
  refine OW_ev (Ev_extract (vs := _) rfl rfl rfl) rfl ?_
  refine OW_ev (Ev_extract (vs := _) rfl rfl rfl) rfl ?_
  refine OW_ev (Ev_mvp (.inr rfl) rfl) rfl ?_
  refine OW_ev (Ev_mvi (.inr rfl) rfl) rfl ?_
  refine OW_nil ?_
  refine CW_seq ?_
  refine CW_re [(0, .bool _), (2, .int _ _), (4, .int _ _), (5, .int _ _), (6, .int _ _), (7, .pointer _), (8, .int _ _), (9, .int _ _), (11, .int _ _), (12, .pointer _)] ⟨rfl, rfl, rfl, rfl, rfl, rfl, rfl, rfl, rfl, rfl, trivial⟩ (fun g => ?_)
  refine CW_reg rfl ?_
  refine OW_ev (Ev_mvi (.inl rfl) rfl) rfl ?_
  refine OW_ev (Ev_eql rfl rfl rfl) rfl ?_
  refine OW_ev (Ev_mvb (.inl rfl) rfl) rfl ?_
  refine OW_split (d := .tmp 47) rfl (fun c15 => ?_) (fun c15 => ?_)
  · have d15 := c15
    first | (with_reducible replace d15 := of_decide_eq_true d15) | (with_reducible replace d15 := bnt d15; try (with_reducible replace d15 := of_decide_eq_false d15)) | skip
    refine OW_yes rfl rfl rfl rfl c15 (Ev.stp (Ev_mvi (.inl rfl) rfl) ?_)
    refine OW_yes rfl rfl rfl rfl c15 (Ev.stp (Ev_eql rfl rfl rfl) ?_)
    refine OW_ev (Ev_pickb_t rfl rfl c15 rfl) rfl ?_
    refine OW_ev (Ev_mvb (.inl rfl) rfl) rfl ?_
    refine OW_split (d := .tmp 51) rfl (fun c16 => ?_) (fun c16 => ?_)
    · have d16 := c16
      first | (with_reducible replace d16 := of_decide_eq_true d16) | (with_reducible replace d16 := bnt d16; try (with_reducible replace d16 := of_decide_eq_false d16)) | skip
      refine OW_yes rfl rfl rfl rfl c16 (Ev.stp (Ev_mvi (.inl rfl) rfl) ?_)
      refine OW_yes rfl rfl rfl rfl c16 (Ev.stp (Ev_mvi (.inl rfl) rfl) ?_)
      refine OW_yes rfl rfl rfl rfl c16 (Ev.stp (Ev_eql rfl rfl rfl) ?_)
      refine OW_ev (Ev_pickb_t rfl rfl c16 rfl) rfl ?_
      refine OW_ev (Ev_mvb (.inl rfl) rfl) rfl ?_
      refine OW_split (d := .tmp 56) rfl (fun c17 => ?_) (fun c17 => ?_)
      · have d17 := c17
        first | (with_reducible replace d17 := of_decide_eq_true d17) | (with_reducible replace d17 := bnt d17; try (with_reducible replace d17 := of_decide_eq_false d17)) | skip
        refine OW_yes rfl rfl rfl rfl c17 (Ev.stp (Ev_mvi (.inl rfl) rfl) ?_)
        refine OW_yes rfl rfl rfl rfl c17 (Ev.stp (Ev_mvi (.inl rfl) rfl) ?_)
        refine OW_yes rfl rfl rfl rfl c17 (Ev.stp (Ev_eql rfl rfl rfl) ?_)
        refine OW_ev (Ev_pickb_t rfl rfl c17 rfl) rfl ?_
        refine OW_ev (Ev_mvb (.inl rfl) rfl) rfl ?_
        refine OW_split (d := .tmp 61) rfl (fun c18 => ?_) (fun c18 => ?_)
        · have d18 := c18
          first | (with_reducible replace d18 := of_decide_eq_true d18) | (with_reducible replace d18 := bnt d18; try (with_reducible replace d18 := of_decide_eq_false d18)) | skip
          refine OW_yes rfl rfl rfl rfl c18 (Ev.stp (Ev_mvi (.inl rfl) rfl) ?_)
          refine OW_yes rfl rfl rfl rfl c18 (Ev.stp (Ev_mvi (.inl rfl) rfl) ?_)
          refine OW_yes rfl rfl rfl rfl c18 (Ev.stp (Ev_eql rfl rfl rfl) ?_)
          refine OW_ev (Ev_pickb_t rfl rfl c18 rfl) rfl ?_
          refine OW_ev (Ev_mvb (.inl rfl) rfl) rfl ?_
          refine OW_split (d := .tmp 66) rfl (fun c19 => ?_) (fun c19 => ?_)
          · have d19 := c19
            first | (with_reducible replace d19 := of_decide_eq_true d19) | (with_reducible replace d19 := bnt d19; try (with_reducible replace d19 := of_decide_eq_false d19)) | skip
            refine OW_yes rfl rfl rfl rfl c19 (Ev.stp (Ev_loadAgg (l := (smk 5 0 10).cells) agg_48 rfl rfl (HB7.cells (by rw [List.drop_zero, List.take_length])) ok5.len) ?_)
            refine OW_yes rfl rfl rfl rfl c19 (Ev.stp (Ev_build (l := (smk 5 0 10).cells) plc_48 zero_48 rfl rfl rfl) ?_)
            refine OW_yes rfl rfl rfl rfl c19 (Ev.stp (Ev_eqS flat_48 rfl rfl rfl ok5.len (sup_ke ok5 ok5) ((sup_eq ok5 ok5).trans (decide_eq_true rfl))) ?_)
            refine OW_ev (Ev_pickb_t rfl rfl c19 rfl) rfl ?_
            refine OW_ev (Ev_mvb (.inl rfl) rfl) rfl ?_
            refine OW_split (d := .tmp 71) rfl (fun c20 => ?_) (fun c20 => ?_)
            · have d20 := c20
              first | (with_reducible replace d20 := of_decide_eq_true d20) | (with_reducible replace d20 := bnt d20; try (with_reducible replace d20 := of_decide_eq_false d20)) | skip
              refine OW_yes rfl rfl rfl rfl c20 (Ev.stp (Ev_mvi (.inl rfl) rfl) ?_)
              refine OW_yes rfl rfl rfl rfl c20 (Ev.stp (Ev_mvi (.inl rfl) rfl) ?_)
              refine OW_yes rfl rfl rfl rfl c20 (Ev.stp (Ev_eql rfl rfl rfl) ?_)
              refine OW_ev (Ev_pickb_t rfl rfl c20 rfl) rfl ?_
              refine OW_ev (Ev_mvb (.inl rfl) rfl) rfl ?_
              refine OW_split (d := .tmp 76) rfl (fun c21 => ?_) (fun c21 => ?_)
              · have d21 := c21
                first | (with_reducible replace d21 := of_decide_eq_true d21) | (with_reducible replace d21 := bnt d21; try (with_reducible replace d21 := of_decide_eq_false d21)) | skip
                refine OW_yes rfl rfl rfl rfl c21 (Ev.stp (Ev_mvi (.inl rfl) rfl) ?_)
                refine OW_yes rfl rfl rfl rfl c21 (Ev.stp (Ev_eql rfl rfl rfl) ?_)
                refine OW_ev (Ev_pickb_t rfl rfl c21 rfl) rfl ?_
                refine OW_ev (Ev_mvb (.inl rfl) rfl) rfl ?_
                refine OW_split (d := .tmp 80) rfl (fun c22 => ?_) (fun c22 => ?_)
                · have d22 := c22
                  first | (with_reducible replace d22 := of_decide_eq_true d22) | (with_reducible replace d22 := bnt d22; try (with_reducible replace d22 := of_decide_eq_false d22)) | skip
                  refine OW_yes rfl rfl rfl rfl c22 (Ev.stp (Ev_mvp (.inl rfl) rfl) ?_)
                  refine OW_yes rfl rfl rfl rfl c22 (Stp_call ent_19 rfl rfl rfl (fit_c HS9) ?_)
                  rintro _ w23 ⟨E23, rfl⟩
                  have Z23 := E23.size
                  have T := T.keep0 E23
                  have HB7 := HB7.keep0 E23
                  have hS := hS.keep0 E23
                  have HB10 := HB10.keep0 E23
                  have HS9 := HS9.keep0 E23
                  refine OW_yes rfl rfl rfl rfl c22 (Ev.stp (Ev_eql rfl rfl rfl) ?_)
                  refine OW_ev (Ev_pickb_t rfl rfl c22 rfl) rfl ?_
                  refine OW_ev (Ev_mvb (.inl rfl) rfl) rfl ?_
                  refine OW_split (d := .tmp 85) rfl (fun c24 => ?_) (fun c24 => ?_)
                  · have d24 := c24
                    first | (with_reducible replace d24 := of_decide_eq_true d24) | (with_reducible replace d24 := bnt d24; try (with_reducible replace d24 := of_decide_eq_false d24)) | skip
                    refine OW_yes rfl rfl rfl rfl c24 (Stp_call ent_19 rfl rfl rfl (fit_nil _) ?_)
                    rintro _ w25 ⟨E25, rfl⟩
                    have Z25 := E25.size
                    have T := T.keep0 E25
                    have HB7 := HB7.keep0 E25
                    have hS := hS.keep0 E25
                    have HB10 := HB10.keep0 E25
                    have HS9 := HS9.keep0 E25
                    refine OW_yes rfl rfl rfl rfl c24 (Ev.stp (Ev_eql rfl rfl rfl) ?_)
                    refine OW_ev (Ev_pickb_t rfl rfl c24 rfl) rfl ?_
                    refine OW_ev (Ev_mvb (.inr rfl) rfl) rfl ?_
                    refine OW_nil ?_
                    refine CW_ret ?_
                    refine ⟨rfl, _, (.tmp rfl .nil), ?_⟩
                    exact ⟨T, rfl⟩
                  · have d24 := c24
                    first | (with_reducible replace d24 := of_decide_eq_false d24) | (with_reducible replace d24 := bnf d24; try (with_reducible replace d24 := of_decide_eq_true d24)) | skip
                    exact absurd rfl d24
                · have d22 := c22
                  first | (with_reducible replace d22 := of_decide_eq_false d22) | (with_reducible replace d22 := bnf d22; try (with_reducible replace d22 := of_decide_eq_true d22)) | skip
                  exact absurd rfl d22
              · have d21 := c21
                first | (with_reducible replace d21 := of_decide_eq_false d21) | (with_reducible replace d21 := bnf d21; try (with_reducible replace d21 := of_decide_eq_true d21)) | skip
                exact absurd rfl d21
            · have d20 := c20
              first | (with_reducible replace d20 := of_decide_eq_false d20) | (with_reducible replace d20 := bnf d20; try (with_reducible replace d20 := of_decide_eq_true d20)) | skip
              cases c20
          · have d19 := c19
            first | (with_reducible replace d19 := of_decide_eq_false d19) | (with_reducible replace d19 := bnf d19; try (with_reducible replace d19 := of_decide_eq_true d19)) | skip
            exact absurd rfl d19
        · have d18 := c18
          first | (with_reducible replace d18 := of_decide_eq_false d18) | (with_reducible replace d18 := bnf d18; try (with_reducible replace d18 := of_decide_eq_true d18)) | skip
          exact absurd rfl d18
      · have d17 := c17
        first | (with_reducible replace d17 := of_decide_eq_false d17) | (with_reducible replace d17 := bnf d17; try (with_reducible replace d17 := of_decide_eq_true d17)) | skip
        exact absurd rfl d17
    · have d16 := c16
      first | (with_reducible replace d16 := of_decide_eq_false d16) | (with_reducible replace d16 := bnf d16; try (with_reducible replace d16 := of_decide_eq_true d16)) | skip
      exact absurd rfl d16
  · have d15 := c15
    first | (with_reducible replace d15 := of_decide_eq_false d15) | (with_reducible replace d15 := bnf d15; try (with_reducible replace d15 := of_decide_eq_true d15)) | skip
    exact absurd rfl d15

end Go.Proofs.Ythfelkjklnhdiaa