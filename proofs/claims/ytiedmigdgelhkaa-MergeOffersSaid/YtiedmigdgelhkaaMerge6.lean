/- Contract of merged, the example of chapter 29. -/
import Derived.Test.YtiedmigdgelhkaaTypes
import Derived.Test.YtiedmigdgelhkaaMerge5
namespace Go.Proofs.Ytiedmigdgelhkaa
open Go Go.RowKit Bx Go.Proofs

def entOf (s p : Int) : Ent := ⟨s, ⟨0, 5, p, 3, 0, 0⟩⟩
def mg : Nat → List Rg
  | 0 => [⟨2, [], Ent.zero⟩, ⟨2, [], Ent.zero⟩]
  | k + 1 => (offer (mg k) (entOf (5 + k) ((k : Int) % 2 - 1))).1
theorem mg_step {k : Nat} (h : k < 3) : (offer (mg k) (entOf (5 + k) ((k : Int) % 2 - 1))).2 = 0 := by
  match k, h with
  | 0, _ => decide
  | 1, _ => decide
  | 2, _ => decide
theorem mg_len {k : Nat} (h : k ≤ 3) : (mg k).length = 2 ∧ ∀ r ∈ mg k, r.l.length ≤ 2 := by
  match k, h with
  | 0, _ => decide
  | 1, _ => decide
  | 2, _ => decide
  | 3, _ => decide
theorem mg_len' {k : Nat} {ms : List RgM} (h : k ≤ 3) (hr : ms.map RgM.r = mg k) : ms.length = 2 ∧ ∀ m ∈ ms, m.r.l.length ≤ 1000000 := by
  have h1 := mg_len h
  rw [← hr] at h1
  exact ⟨by simpa using h1.1, fun m hm => Nat.le_trans (h1.2 _ (List.mem_map_of_mem hm)) (by decide)⟩
theorem mg_end : (offer (mg 3) (entOf 9 1)).2 = 1 ∧ firstOf (mg 3) = 1 ∧ heldOf (mg 3) = 3 ∧ drainN (drainRoom (mg 3) 2) (mg 3) = ([entOf 5 (-1), entOf 6 0], (drainN (drainRoom (mg 3) 2) (mg 3)).2) ∧ heldOf (drainN (drainRoom (mg 3) 2) (mg 3)).2 = 1 ∧ (drainN (drainRoom (mg 3) 2) (mg 3)).2.length = 2 ∧ firstOf [] = -1 := by decide

set_option maxRecDepth 10000 in
set_option maxHeartbeats 2000000 in
theorem merged_c (w : World) : Calls Try.prog 6 #[] w (Ret fun v w' => Kp0 w w' ∧ v = .bool (true)) := by
  have T : Kp0 w w := Kp.refl _ _
  refine calls_start Try.func6 rfl (n := 82) rfl rfl rfl ?_
  refine CW_seq ?_
  refine CW_reg rfl ?_
  refine OW_ev (Ev_c (.inr rfl)) rfl ?_
  refine OW_nil ?_
  refine CW_seq ?_
  refine CW_reg rfl ?_
  refine OW_ev (Ev_build (l := [.int _ _, .slice _ _ _, .int _ _, .int _ _, .int _ _, .int _ _, .int _ _, .int _ _, .int _ _]) plc_33 zero_33 rfl rfl rfl) rfl ?_
  refine OW_ev (Ev_build (l := [.int _ _, .slice _ _ _, .int _ _, .int _ _, .int _ _, .int _ _, .int _ _, .int _ _, .int _ _]) plc_33 zero_33 rfl rfl rfl) rfl ?_
  refine OW_st rfl (Stp_buildSlice (l := [_, _, _, _, _, _, _, _, _, _, _, _, _, _, _, _, _, _]) el_24 zero_33 rfl rfl rfl rfl ?_)
  intro b1 w1 hb1 hz1 E1 B1
  have L1 : _ ≤ b1 := Nat.le_trans T.size (Nat.le_of_eq hb1.symm)
  have T := T.keep0 E1
  have hS : RgsS (fun _ => True) w1 (some ⟨b1, 0, none⟩) [⟨⟨2, [], Ent.zero⟩, none, 0⟩, ⟨⟨2, [], Ent.zero⟩, none, 0⟩] := ⟨(Sl.ofBlk B1 (by decide)).mono (fun _ _ _ => trivial), fun m hm => by simp at hm; subst hm; exact ⟨Nat.le_refl _, Nat.zero_le _, Sl.nil _ _ _ _⟩⟩
  refine OW_ev (Ev_mvs (.inr rfl) rfl) rfl ?_
  refine OW_nil ?_
  refine CW_seq ?_
  refine CW_reg rfl ?_
  refine OW_ev (Ev_c (.inr rfl)) rfl ?_
  refine OW_nil ?_
  refine CW_seq ?_
  refine CW_seq ?_
  refine CW_reg rfl ?_
  refine OW_ev (Ev_c (.inr rfl)) rfl ?_
  refine OW_nil ?_
  refine CW_block ?_
  refine CW_loop (α := Nat) (fun (k : Nat) f wr => ∃ (ms : List RgM) (a : Option Addr) (q : Nat), k ≤ 3 ∧ f 1 = .slice a 2 q ∧ f 2 = .int .i64 0 ∧ f 3 = .int .i64 (k : Int) ∧ ms.map RgM.r = mg k ∧ RgsS (fun _ => True) wr a ms ∧ Kp0 w wr) (fun k => 3 - k) 0 ?_ ?_
  ·
    exact ⟨_, _, _, Nat.zero_le _, rfl, rfl, rfl, rfl, hS, T⟩
  ·
    rintro k f wr ⟨ms, a, q, hk, h1, h2, h3, hr, hS, T⟩
    obtain ⟨g, rfl⟩ := re3 h1 h2 h3
    clear h1 h2 h3
    have hml := mg_len' hk hr
    refine CW_seq ?_
    refine CW_seq ?_
    refine CW_reg rfl ?_
    refine OW_ev (Ev_mvi (.inl rfl) rfl) rfl ?_
    refine OW_ev (Ev_lss rfl rfl rfl) rfl ?_
    refine OW_ev (Ev_mvb (.inl rfl) rfl) rfl ?_
    refine OW_split (d := .tmp 17) rfl (fun c2 => ?_) (fun c2 => ?_)
    · have d2 := c2
      first | (with_reducible replace d2 := of_decide_eq_true d2) | (with_reducible replace d2 := bnt d2; try (with_reducible replace d2 := of_decide_eq_false d2)) | skip
      have hk3 : k < 3 := by omega
      refine OW_yes rfl rfl rfl rfl c2 (Ev.stp (Ev_mvi (.inl rfl) rfl) ?_)
      refine OW_yes rfl rfl rfl rfl c2 (Ev.stp (Ev_eql rfl rfl rfl) ?_)
      refine OW_ev (Ev_pickb_t rfl rfl c2 rfl) rfl ?_
      refine OW_nil ?_
      refine CW_cond rfl (fun c3 => ?_) (fun c3 => ?_)
      · have d3 := c3
        first | (with_reducible replace d3 := of_decide_eq_true d3) | (with_reducible replace d3 := bnt d3; try (with_reducible replace d3 := of_decide_eq_false d3)) | skip
        refine CW_skip ?_
        refine CW_seq ?_
        refine CW_block ?_
        refine CW_seq ?_
        refine CW_reg rfl ?_
        refine OW_ev (Ev_mvs (.inl rfl) rfl) rfl ?_
        refine OW_ev (Ev_mvi (.inl rfl) rfl) rfl ?_
        refine OW_ev (Ev_add rfl rfl rfl (by first | (apply IntWalk.i64_in; omega) | (apply IntWalk.u64_in; omega) | (apply IntWalk.u32_in; omega) | (apply IntWalk.u8_in; omega) | (apply IntWalk.i32_in; omega) | rfl)) rfl ?_
        refine OW_ev (Ev_conv (kd := .u64) (by kernel_rfl) rfl rfl (by first | (apply IntWalk.i64_in; omega) | (apply IntWalk.u64_in; omega) | (apply IntWalk.u32_in; omega) | (apply IntWalk.u8_in; omega) | (apply IntWalk.i32_in; omega) | rfl)) rfl ?_
        refine OW_ev (Ev_mvi (.inl rfl) rfl) rfl ?_
        refine OW_ev (Ev_rem rfl rfl rfl (by omega) (by omega)) rfl ?_
        refine OW_ev (Ev_sub rfl rfl rfl (by first | (apply IntWalk.i64_in; omega) | (apply IntWalk.u64_in; omega) | (apply IntWalk.u32_in; omega) | (apply IntWalk.u8_in; omega) | (apply IntWalk.i32_in; omega) | rfl)) rfl ?_
        refine OW_st rfl (Stp_call ent_8 rfl rfl rfl (entry_c _ _ _) ?_)
        rintro _ w4 ⟨E4, rfl⟩
        have Z4 := E4.size
        have T := T.keep0 E4
        have hS := hS.keep0 E4
        refine OW_st rfl (Stp_call ent_7 rfl rfl rfl (offer_c (x := entOf (5 + k) ((k : Int) % 2 - 1)) hml.1 hS (by omega) hml.2) ?_)
        rintro _ w5 ⟨E5, a2, q2, ms2, rfl, hr2, hl2, hq2, hS2⟩
        have Z5 := E5.size
        have T := T.keep0 E5
        have hS := hS.keep0 E5
        rw [hr] at hr2
        refine OW_ev (Ev_mvt (.inl rfl) rfl) rfl ?_
        refine OW_ev (Ev_extract (vs := _) rfl rfl rfl) rfl ?_
        refine OW_ev (Ev_extract (vs := _) rfl rfl rfl) rfl ?_
        refine OW_ev (Ev_mvs (.inr rfl) rfl) rfl ?_
        refine OW_ev (Ev_mvi (.inr rfl) rfl) rfl ?_
        refine OW_nil ?_
        refine CW_seq ?_
        refine CW_re [(1, .slice _ _ _), (2, .int _ _), (3, .int _ _), (4, .slice _ _ _), (5, .int _ _)] ⟨rfl, rfl, rfl, rfl, rfl, trivial⟩ (fun g => ?_)
        refine CW_reg rfl ?_
        refine OW_ev (Ev_mvs (.inl rfl) rfl) rfl ?_
        refine OW_ev (Ev_mvs (.inr rfl) rfl) rfl ?_
        refine OW_nil ?_
        refine CW_reg rfl ?_
        refine OW_ev (Ev_mvi (.inl rfl) rfl) rfl ?_
        refine OW_ev (Ev_mvi (.inr rfl) rfl) rfl ?_
        refine OW_nil ?_
        refine CW_reg rfl ?_
        refine OW_ev (Ev_mvi (.inl rfl) rfl) rfl ?_
        refine OW_ev (Ev_add rfl rfl rfl (by first | (apply IntWalk.i64_in; omega) | (apply IntWalk.u64_in; omega) | (apply IntWalk.u32_in; omega) | (apply IntWalk.u8_in; omega) | (apply IntWalk.i32_in; omega) | rfl)) rfl ?_
        refine OW_ev (Ev_mvi (.inr rfl) rfl) rfl ?_
        refine OW_nil ?_
        have hml2 := mg_len' (by omega : k + 1 ≤ 3) hr2
        exact ⟨k + 1, by omega, ms2, a2, q2, by omega, congrArg (fun n => Value.slice a2 n q2) hml2.1, congrArg (Value.int .i64) (by rw [hr]; exact mg_step hk3), congrArg (Value.int .i64) (by omega), hr2, hS2.any, T⟩
      · have d3 := c3
        first | (with_reducible replace d3 := of_decide_eq_false d3) | (with_reducible replace d3 := bnf d3; try (with_reducible replace d3 := of_decide_eq_true d3)) | skip
        exact absurd rfl d3
    · have d2 := c2
      first | (with_reducible replace d2 := of_decide_eq_false d2) | (with_reducible replace d2 := bnf d2; try (with_reducible replace d2 := of_decide_eq_true d2)) | skip
      have hk3 : k = 3 := by omega
      subst hk3
      refine OW_no rfl rfl rfl rfl c2 ?_
      refine OW_no rfl rfl rfl rfl c2 ?_
      refine OW_ev (Ev_pickb_f rfl rfl c2 rfl) rfl ?_
      refine OW_nil ?_
      refine CW_cond_f rfl rfl ?_
      refine CW_exit ?_
      refine blk_same ?_
      refine CW_seq ?_
      refine CW_reg rfl ?_
      refine OW_ev (Ev_mvs (.inl rfl) rfl) rfl ?_
      refine OW_st rfl (Stp_call ent_8 rfl rfl rfl (entry_c _ _ _) ?_)
      rintro _ w6 ⟨E6, rfl⟩
      have Z6 := E6.size
      have T := T.keep0 E6
      have hS := hS.keep0 E6
      refine OW_st rfl (Stp_call ent_7 rfl rfl rfl (offer_c (x := entOf 9 1) hml.1 hS (by omega) hml.2) ?_)
      rintro _ w7 ⟨E7, a3, q3, ms3, rfl, hr3, hl3, hq3, hS3⟩
      have Z7 := E7.size
      have T := T.keep0 E7
      have hS := hS.keep0 E7
      refine OW_ev (Ev_mvt (.inl rfl) rfl) rfl ?_
      refine OW_ev (Ev_extract (vs := _) rfl rfl rfl) rfl ?_
      refine OW_ev (Ev_extract (vs := _) rfl rfl rfl) rfl ?_
      refine OW_ev (Ev_mvs (.inr rfl) rfl) rfl ?_
      refine OW_ev (Ev_mvi (.inr rfl) rfl) rfl ?_
      refine OW_nil ?_
      refine CW_seq ?_
      refine CW_reg rfl ?_
      refine OW_ev (Ev_mvs (.inl rfl) rfl) rfl ?_
      refine OW_st rfl (Stp_call ent_17 rfl rfl rfl (first_c hml.1 (by omega) hS) ?_)
      rintro _ w8 ⟨E8, rfl⟩
      have Z8 := E8.size
      have T := T.keep0 E8
      have hS := hS.keep0 E8
      refine OW_ev (Ev_mvi (.inr rfl) rfl) rfl ?_
      refine OW_nil ?_
      refine CW_seq ?_
      refine CW_re [(1, .slice _ _ _), (2, .int _ _), (7, .int _ _), (8, .int _ _)] ⟨rfl, rfl, rfl, rfl, trivial⟩ (fun g => ?_)
      refine CW_reg rfl ?_
      refine OW_ev (Ev_mvs (.inl rfl) rfl) rfl ?_
      refine OW_st rfl (Stp_call ent_10 rfl rfl rfl (held_c hml.1 (by omega) hS) ?_)
      rintro _ w9 ⟨E9, rfl⟩
      have Z9 := E9.size
      have T := T.keep0 E9
      have hS := hS.keep0 E9
      refine OW_ev (Ev_mvi (.inr rfl) rfl) rfl ?_
      refine OW_nil ?_
      refine CW_seq ?_
      refine CW_reg rfl ?_
      refine OW_ev (Ev_mvs (.inl rfl) rfl) rfl ?_
      refine OW_st rfl (Stp_call ent_9 rfl rfl rfl (drain_c hml.1 hS (by omega) hml.2) ?_)
      rintro _ w10 ⟨E10, a4, q4, a5, q5, xs, ms5, rfl, hxs, hr5, hl4, hq4, hl5, hq5, hS4, hS5⟩
      have Z10 := E10.size
      have T := T.keep0 E10
      have hS := hS.keep0 E10
      rw [hr] at hxs hr5
      rw [mg_end.2.2.2.1] at hxs
      refine OW_ev (Ev_mvt (.inl rfl) rfl) rfl ?_
      refine OW_ev (Ev_extract (vs := _) rfl rfl rfl) rfl ?_
      refine OW_ev (Ev_extract (vs := _) rfl rfl rfl) rfl ?_
      refine OW_ev (Ev_mvs (.inr rfl) rfl) rfl ?_
      refine OW_ev (Ev_mvs (.inr rfl) rfl) rfl ?_
      refine OW_nil ?_
      refine CW_seq ?_
      refine CW_reg rfl ?_
      refine OW_ev (Ev_mvi (.inl rfl) rfl) rfl ?_
      refine OW_ev (Ev_eql rfl rfl rfl) rfl ?_
      refine OW_ev (Ev_mvb (.inl rfl) rfl) rfl ?_
      refine OW_split (d := .tmp 54) rfl (fun c11 => ?_) (fun c11 => ?_)
      · have d11 := c11
        first | (with_reducible replace d11 := of_decide_eq_true d11) | (with_reducible replace d11 := bnt d11; try (with_reducible replace d11 := of_decide_eq_false d11)) | skip
        refine OW_yes rfl rfl rfl rfl c11 (Ev.stp (Ev_mvi (.inl rfl) rfl) ?_)
        refine OW_yes rfl rfl rfl rfl c11 (Ev.stp (Ev_eql rfl rfl rfl) ?_)
        refine OW_ev (Ev_pickb_t rfl rfl c11 rfl) rfl ?_
        refine OW_ev (Ev_mvb (.inl rfl) rfl) rfl ?_
        refine OW_split (d := .tmp 58) rfl (fun c12 => ?_) (fun c12 => ?_)
        · have d12 := c12
          first | (with_reducible replace d12 := of_decide_eq_true d12) | (with_reducible replace d12 := bnt d12; try (with_reducible replace d12 := of_decide_eq_false d12)) | skip
          refine OW_yes rfl rfl rfl rfl c12 (Ev.stp (Ev_mvi (.inl rfl) rfl) ?_)
          refine OW_yes rfl rfl rfl rfl c12 (Ev.stp (Ev_eql rfl rfl rfl) ?_)
          refine OW_ev (Ev_pickb_t rfl rfl c12 rfl) rfl ?_
          refine OW_ev (Ev_mvb (.inl rfl) rfl) rfl ?_
          refine OW_split (d := .tmp 62) rfl (fun c13 => ?_) (fun c13 => ?_)
          · have d13 := c13
            first | (with_reducible replace d13 := of_decide_eq_true d13) | (with_reducible replace d13 := bnt d13; try (with_reducible replace d13 := of_decide_eq_false d13)) | skip
            refine OW_yes rfl rfl rfl rfl c13 (Ev.stp (Ev_mvi (.inl rfl) rfl) ?_)
            refine OW_yes rfl rfl rfl rfl c13 (Ev.stp (Ev_eql rfl rfl rfl) ?_)
            refine OW_ev (Ev_pickb_t rfl rfl c13 rfl) rfl ?_
            refine OW_ev (Ev_mvb (.inl rfl) rfl) rfl ?_
            refine OW_split (d := .tmp 66) rfl (fun c14 => ?_) (fun c14 => ?_)
            · have d14 := c14
              first | (with_reducible replace d14 := of_decide_eq_true d14) | (with_reducible replace d14 := bnt d14; try (with_reducible replace d14 := of_decide_eq_false d14)) | skip
              have hml5 : ms5.length = 2 := by have := congrArg List.length hr5; rw [mg_end.2.2.2.2.2.1] at this; simpa using this
              refine OW_yes rfl rfl rfl rfl c14 (Ev.stp (Ev_mvs (.inl rfl) rfl) ?_)
              refine OW_yes rfl rfl rfl rfl c14 (Stp_call ent_10 rfl rfl rfl (held_c rfl (by omega) hS5) ?_)
              rintro _ w15 ⟨E15, rfl⟩
              have Z15 := E15.size
              have T := T.keep0 E15
              have hS := hS.keep0 E15
              have hS4 := hS4.keep0 E15
              have hS5 := hS5.keep0 E15
              refine OW_yes rfl rfl rfl rfl c14 (Ev.stp (Ev_eql rfl rfl rfl) ?_)
              refine OW_ev (Ev_pickb_t rfl rfl c14 rfl) rfl ?_
              refine OW_ev (Ev_mvb (.inl rfl) rfl) rfl ?_
              refine OW_split (d := .tmp 71) rfl (fun c16 => ?_) (fun c16 => ?_)
              · have d16 := c16
                first | (with_reducible replace d16 := of_decide_eq_true d16) | (with_reducible replace d16 := bnt d16; try (with_reducible replace d16 := of_decide_eq_false d16)) | skip
                refine OW_yes rfl rfl rfl rfl c16 (Ev.stp (Ev_mvs (.inl rfl) rfl) ?_)
                refine OW_yes rfl rfl rfl rfl c16 (Stp_call ent_8 rfl rfl rfl (entry_c _ _ _) ?_)
                rintro _ w17 ⟨E17, rfl⟩
                have Z17 := E17.size
                have T := T.keep0 E17
                have hS := hS.keep0 E17
                have hS4 := hS4.keep0 E17
                have hS5 := hS5.keep0 E17
                refine OW_yes rfl rfl rfl rfl c16 (Stp_call ent_8 rfl rfl rfl (entry_c _ _ _) ?_)
                rintro _ w18 ⟨E18, rfl⟩
                have Z18 := E18.size
                have T := T.keep0 E18
                have hS := hS.keep0 E18
                have hS4 := hS4.keep0 E18
                have hS5 := hS5.keep0 E18
                refine OW_yes rfl rfl rfl rfl c16 (Stp_buildSlice (l := [_, _, _, _, _, _, _, _, _, _, _, _, _, _]) el_26 zero_31 rfl rfl rfl rfl ?_)
                intro b19 w19 hb19 hz19 E19 B19
                have L19 : _ ≤ b19 := Nat.le_trans T.size (Nat.le_of_eq hb19.symm)
                have T := T.keep0 E19
                have hS := hS.keep0 E19
                have hS4 := hS4.keep0 E19
                have hS5 := hS5.keep0 E19
                have hys : Sl (· = b19) w19 7 (some ⟨b19, 0, none⟩) ([entOf 5 (-1), entOf 6 0].map Ent.cells) := Sl.ofBlk B19 (by decide)
                refine OW_yes rfl rfl rfl rfl c16 (Stp_call ent_18 rfl rfl rfl (entries_c (xs := xs) (ys := [entOf 5 (-1), entOf 6 0]) rfl rfl hS4 hys (by rw [hxs]; decide)) ?_)
                rintro _ w20 ⟨E20, rfl⟩
                have Z20 := E20.size
                have T := T.keep0 E20
                have hS := hS.keep0 E20
                have hS4 := hS4.keep0 E20
                have hS5 := hS5.keep0 E20
                have B19 := B19.keep0 E20
                refine OW_ev (Ev_pickb_t rfl rfl c16 rfl) rfl ?_
                refine OW_ev (Ev_mvb (.inl rfl) rfl) rfl ?_
                refine OW_split (d := .tmp 78) rfl (fun c21 => ?_) (fun c21 => ?_)
                · have d21 := c21
                  first | (with_reducible replace d21 := of_decide_eq_true d21) | (with_reducible replace d21 := bnt d21; try (with_reducible replace d21 := of_decide_eq_false d21)) | skip
                  refine OW_yes rfl rfl rfl rfl c21 (Stp_call ent_17 rfl rfl rfl (first_c (ms := []) (F := fun _ => True) rfl (by omega) ⟨Sl.nil _ _ _ _, fun _ h => nomatch h⟩) ?_)
                  rintro _ w22 ⟨E22, rfl⟩
                  have Z22 := E22.size
                  have T := T.keep0 E22
                  have hS := hS.keep0 E22
                  have hS4 := hS4.keep0 E22
                  have hS5 := hS5.keep0 E22
                  have B19 := B19.keep0 E22
                  refine OW_yes rfl rfl rfl rfl c21 (Ev.stp (Ev_eql rfl rfl rfl) ?_)
                  refine OW_ev (Ev_pickb_t rfl rfl c21 rfl) rfl ?_
                  refine OW_ev (Ev_mvb (.inr rfl) rfl) rfl ?_
                  refine OW_nil ?_
                  refine CW_ret ?_
                  refine ⟨rfl, _, (.tmp rfl .nil), ?_⟩
                  exact ⟨T, vb rfl (by decide)⟩
                · have d21 := c21
                  first | (with_reducible replace d21 := of_decide_eq_false d21) | (with_reducible replace d21 := bnf d21; try (with_reducible replace d21 := of_decide_eq_true d21)) | skip
                  exact absurd hxs d21
              · have d16 := c16
                first | (with_reducible replace d16 := of_decide_eq_false d16) | (with_reducible replace d16 := bnf d16; try (with_reducible replace d16 := of_decide_eq_true d16)) | skip
                exact absurd (by rw [hr5]; exact mg_end.2.2.2.2.1) d16
            · have d14 := c14
              first | (with_reducible replace d14 := of_decide_eq_false d14) | (with_reducible replace d14 := bnf d14; try (with_reducible replace d14 := of_decide_eq_true d14)) | skip
              exact absurd (by rw [hr]; exact mg_end.2.2.1) d14
          · have d13 := c13
            first | (with_reducible replace d13 := of_decide_eq_false d13) | (with_reducible replace d13 := bnf d13; try (with_reducible replace d13 := of_decide_eq_true d13)) | skip
            exact absurd (by rw [hr]; exact mg_end.2.1) d13
        · have d12 := c12
          first | (with_reducible replace d12 := of_decide_eq_false d12) | (with_reducible replace d12 := bnf d12; try (with_reducible replace d12 := of_decide_eq_true d12)) | skip
          exact absurd (by rw [hr]; exact mg_end.1) d12
      · have d11 := c11
        first | (with_reducible replace d11 := of_decide_eq_false d11) | (with_reducible replace d11 := bnf d11; try (with_reducible replace d11 := of_decide_eq_true d11)) | skip
        exact absurd rfl d11

end Go.Proofs.Ytiedmigdgelhkaa