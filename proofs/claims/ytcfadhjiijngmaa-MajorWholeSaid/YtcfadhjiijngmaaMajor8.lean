/- The law MajorWhole. -/
import Derived.Test.YtcfadhjiijngmaaTypes
import Derived.Test.YtcfadhjiijngmaaMajorData
import Derived.Test.YtcfadhjiijngmaaWholeData
import Derived.Test.YtcfadhjiijngmaaMajor7
namespace Go.Proofs.Ytcfadhjiijngmaa
open Go Go.RowKit Bx Go.Proofs

set_option maxRecDepth 10000 in
set_option maxHeartbeats 2000000 in
theorem whole_c {F : Nat → Prop} {w : World} {p : PlnM} {n : Int} (hP : PlnS F w p) : Calls Try.prog 5 #[.agg p.cl.toArray, .int .i64 n] w (Ret fun v w' => Kp0 w w' ∧ v = .bool (true)) := by
  have hP := hP.old
  obtain ⟨NW, hNW⟩ : ∃ x, x = w.heap.size := ⟨_, rfl⟩
  rw [← hNW] at hP
  have T : Kp0 w w := Kp.refl _ _
  refine calls_start Try.func5 rfl (n := 100) rfl rfl rfl ?_
  refine CW_seq ?_
  refine CW_reg rfl ?_
  refine OW_st rfl (Stp_box (l := [.int _ _, .slice _ _ _, .slice _ _ _, .slice _ _ _]) rfl rfl rfl ?_)
  intro b1 w1 hb1 hz1 E1 B1
  have L1 : _ ≤ b1 := Nat.le_trans T.size (Nat.le_of_eq hb1.symm)
  have hP := hP.keep0 E1
  have T := T.keep0 E1
  replace B1 : Blk w1 b1 26 (p.cl) := B1
  refine OW_ev (Ev_c (.inr rfl)) rfl ?_
  refine OW_nil ?_
  refine CW_seq ?_
  refine CW_seq ?_
  refine CW_reg rfl ?_
  refine OW_ev (Ev_loadAgg (l := [.int _ _, .slice _ _ _, .slice _ _ _, .slice _ _ _]) agg_26 rfl rfl (B1.sub 0 4 (Nat.le_of_ble_eq_true rfl)) rfl) rfl ?_
  refine OW_st rfl (Stp_call ent_10 rfl rfl rfl (rbig_c hP) ?_)
  rintro _ w2 ⟨E2, rfl⟩
  have Z2 := E2.size
  have hP := hP.keep0 E2
  have T := T.keep0 E2
  have B1 := B1.keep0 E2
  refine OW_ev (Ev_mvb (.inl rfl) rfl) rfl ?_
  refine OW_split (d := .tmp 11) rfl (fun c3 => ?_) (fun c3 => ?_)
  · have d3 := c3
    first | (with_reducible replace d3 := of_decide_eq_true d3) | (with_reducible replace d3 := bnt d3; try (with_reducible replace d3 := of_decide_eq_false d3)) | skip
    refine OW_no rfl rfl rfl rfl c3 ?_
    refine OW_no rfl rfl rfl rfl c3 ?_
    refine OW_no rfl rfl rfl rfl c3 ?_
    refine OW_ev (Ev_pickb_t rfl rfl c3 rfl) rfl ?_
    refine OW_ev (Ev_mvb (.inl rfl) rfl) rfl ?_
    refine OW_no rfl rfl rfl rfl rfl ?_
    refine OW_no rfl rfl rfl rfl rfl ?_
    refine OW_ev (Ev_pickb_t rfl rfl rfl rfl) rfl ?_
    refine OW_ev (Ev_mvb (.inl rfl) rfl) rfl ?_
    refine OW_no rfl rfl rfl rfl rfl ?_
    refine OW_no rfl rfl rfl rfl rfl ?_
    refine OW_ev (Ev_pickb_t rfl rfl rfl rfl) rfl ?_
    refine OW_nil ?_
    refine CW_cond_t rfl rfl ?_
    refine CW_seq ?_
    refine CW_re [(1, .int _ _), (2, .pointer _), (4, .bool _)] ⟨rfl, rfl, rfl, trivial⟩ (fun g => ?_)
    refine CW_reg rfl ?_
    refine OW_st rfl (Stp_call ent_15 rfl rfl rfl (framed_c _) ?_)
    rintro _ w4 ⟨E4, rfl⟩
    have Z4 := E4.size
    have hP := hP.keep0 E4
    have T := T.keep0 E4
    have B1 := B1.keep0 E4
    refine OW_ev (Ev_mvb (.inr rfl) rfl) rfl ?_
    refine OW_nil ?_
    refine CW_ret ?_
    refine ⟨rfl, _, (.tmp rfl .nil), ?_⟩
    exact ⟨T, rfl⟩
  · have d3 := c3
    first | (with_reducible replace d3 := of_decide_eq_false d3) | (with_reducible replace d3 := bnf d3; try (with_reducible replace d3 := of_decide_eq_true d3)) | skip
    have hsm := big_no c3
    refine OW_yes rfl rfl rfl rfl c3 (Ev.stp (Ev_loadAgg (l := [.int _ _, .slice _ _ _, .slice _ _ _, .slice _ _ _]) agg_26 rfl rfl (B1.sub 0 4 (Nat.le_of_ble_eq_true rfl)) rfl) ?_)
    refine OW_yes rfl rfl rfl rfl c3 (Stp_call ent_17 rfl rfl rfl (check_c hP hsm) ?_)
    rintro _ w5 ⟨E5, rfl⟩
    have Z5 := E5.size
    have hP := hP.keep0 E5
    have T := T.keep0 E5
    have B1 := B1.keep0 E5
    refine OW_yes rfl rfl rfl rfl c3 (Ev.stp (Ev_neq rfl rfl rfl) ?_)
    refine OW_ev (Ev_pickb_f rfl rfl c3 rfl) rfl ?_
    refine OW_ev (Ev_mvb (.inl rfl) rfl) rfl ?_
    refine OW_split (d := .tmp 16) rfl (fun c6 => ?_) (fun c6 => ?_)
    · have d6 := c6
      first | (with_reducible replace d6 := of_decide_eq_true d6) | (with_reducible replace d6 := bnt d6; try (with_reducible replace d6 := of_decide_eq_false d6)) | skip
      refine OW_no rfl rfl rfl rfl c6 ?_
      refine OW_no rfl rfl rfl rfl c6 ?_
      refine OW_ev (Ev_pickb_t rfl rfl c6 rfl) rfl ?_
      refine OW_ev (Ev_mvb (.inl rfl) rfl) rfl ?_
      refine OW_no rfl rfl rfl rfl rfl ?_
      refine OW_no rfl rfl rfl rfl rfl ?_
      refine OW_ev (Ev_pickb_t rfl rfl rfl rfl) rfl ?_
      refine OW_nil ?_
      refine CW_cond_t rfl rfl ?_
      refine CW_seq ?_
      refine CW_re [(1, .int _ _), (2, .pointer _), (4, .bool _)] ⟨rfl, rfl, rfl, trivial⟩ (fun g => ?_)
      refine CW_reg rfl ?_
      refine OW_st rfl (Stp_call ent_15 rfl rfl rfl (framed_c _) ?_)
      rintro _ w7 ⟨E7, rfl⟩
      have Z7 := E7.size
      have hP := hP.keep0 E7
      have T := T.keep0 E7
      have B1 := B1.keep0 E7
      refine OW_ev (Ev_mvb (.inr rfl) rfl) rfl ?_
      refine OW_nil ?_
      refine CW_ret ?_
      refine ⟨rfl, _, (.tmp rfl .nil), ?_⟩
      exact ⟨T, rfl⟩
    · have d6 := c6
      first | (with_reducible replace d6 := of_decide_eq_false d6) | (with_reducible replace d6 := bnf d6; try (with_reducible replace d6 := of_decide_eq_true d6)) | skip
      have he : p.r.err = 0 := by omega
      refine OW_yes rfl rfl rfl rfl c6 (Ev.stp (Ev_mvi (.inl rfl) rfl) ?_)
      refine OW_yes rfl rfl rfl rfl c6 (Ev.stp (Ev_lss rfl rfl rfl) ?_)
      refine OW_ev (Ev_pickb_f rfl rfl c6 rfl) rfl ?_
      refine OW_ev (Ev_mvb (.inl rfl) rfl) rfl ?_
      refine OW_split (d := .tmp 20) rfl (fun c8 => ?_) (fun c8 => ?_)
      · have d8 := c8
        first | (with_reducible replace d8 := of_decide_eq_true d8) | (with_reducible replace d8 := bnt d8; try (with_reducible replace d8 := of_decide_eq_false d8)) | skip
        refine OW_no rfl rfl rfl rfl c8 ?_
        refine OW_no rfl rfl rfl rfl c8 ?_
        refine OW_ev (Ev_pickb_t rfl rfl c8 rfl) rfl ?_
        refine OW_nil ?_
        refine CW_cond_t rfl rfl ?_
        refine CW_seq ?_
        refine CW_re [(1, .int _ _), (2, .pointer _), (4, .bool _)] ⟨rfl, rfl, rfl, trivial⟩ (fun g => ?_)
        refine CW_reg rfl ?_
        refine OW_st rfl (Stp_call ent_15 rfl rfl rfl (framed_c _) ?_)
        rintro _ w9 ⟨E9, rfl⟩
        have Z9 := E9.size
        have hP := hP.keep0 E9
        have T := T.keep0 E9
        have B1 := B1.keep0 E9
        refine OW_ev (Ev_mvb (.inr rfl) rfl) rfl ?_
        refine OW_nil ?_
        refine CW_ret ?_
        refine ⟨rfl, _, (.tmp rfl .nil), ?_⟩
        exact ⟨T, rfl⟩
      · have d8 := c8
        first | (with_reducible replace d8 := of_decide_eq_false d8) | (with_reducible replace d8 := bnf d8; try (with_reducible replace d8 := of_decide_eq_true d8)) | skip
        have hn0 : 0 ≤ n := by omega
        refine OW_yes rfl rfl rfl rfl c8 (Ev.stp (Ev_mvi (.inl rfl) rfl) ?_)
        refine OW_yes rfl rfl rfl rfl c8 (Ev.stp (Ev_gtr rfl rfl rfl) ?_)
        refine OW_ev (Ev_pickb_f rfl rfl c8 rfl) rfl ?_
        refine OW_nil ?_
        refine CW_cond rfl (fun c10 => ?_) (fun c10 => ?_)
        · have d10 := c10
          first | (with_reducible replace d10 := of_decide_eq_true d10) | (with_reducible replace d10 := bnt d10; try (with_reducible replace d10 := of_decide_eq_false d10)) | skip
          refine CW_seq ?_
          refine CW_re [(1, .int _ _), (2, .pointer _), (4, .bool _)] ⟨rfl, rfl, rfl, trivial⟩ (fun g => ?_)
          refine CW_reg rfl ?_
          refine OW_st rfl (Stp_call ent_15 rfl rfl rfl (framed_c _) ?_)
          rintro _ w11 ⟨E11, rfl⟩
          have Z11 := E11.size
          have hP := hP.keep0 E11
          have T := T.keep0 E11
          have B1 := B1.keep0 E11
          refine OW_ev (Ev_mvb (.inr rfl) rfl) rfl ?_
          refine OW_nil ?_
          refine CW_ret ?_
          refine ⟨rfl, _, (.tmp rfl .nil), ?_⟩
          exact ⟨T, rfl⟩
        · have d10 := c10
          first | (with_reducible replace d10 := of_decide_eq_false d10) | (with_reducible replace d10 := bnf d10; try (with_reducible replace d10 := of_decide_eq_true d10)) | skip
          have hn1 : 0 ≤ n ∧ n ≤ 549755813888 := by omega
          have hok := Pln.ok_of he
          have hfb := hok.frame_bd
          have hwl : 1 ≤ p.ws.length ∧ p.ws.length ≤ 32 := hok.wsl
          obtain ⟨N, hbeg, hall⟩ := Pln.whole he hn1
          have hlen : (p.r.begins n (n + p.r.frame)).length = p.ws.length := by rw [hbeg, List.length_map, List.length_range]; rfl
          refine CW_skip ?_
          refine CW_seq ?_
          refine CW_re [(1, .int _ _), (2, .pointer _), (4, .bool _)] ⟨rfl, rfl, rfl, trivial⟩ (fun g => ?_)
          refine CW_draw (fun W => hP.here W ∧ B1.here W) mixed rfl (fun _ _ _ h => nomatch h.1) ?_
          have E12 : Kp0 _ _ := Kp.drew w5 nob
          have Z12 : (World.drew w5).heap.size = w5.heap.size := rfl
          generalize World.drew w5 = w12 at E12 Z12 ⊢
          have hP := hP.keep0 E12
          have T := T.keep0 E12
          have B1 := B1.keep0 E12
          refine AW_take 0 rfl rfl (by decide +kernel) (by decide +kernel) (by decide +kernel) (fun w ⟨hP, B1⟩ => Ev_loadAgg (l := [.int _ _, .slice _ _ _, .slice _ _ _, .slice _ _ _]) agg_26 rfl rfl (B1.sub 0 4 (Nat.le_of_ble_eq_true rfl)) rfl) ⟨hP, B1⟩ ?_
          refine AW_take 1 rfl rfl (by decide +kernel) (by decide +kernel) (by decide +kernel) (fun w ⟨hP, B1⟩ => Ev_mvi (.inl rfl) rfl) ⟨hP, B1⟩ ?_
          refine AW_take 2 rfl rfl (by decide +kernel) (by decide +kernel) (by decide +kernel) (fun w ⟨hP, B1⟩ => Ev_mvi (.inl rfl) rfl) ⟨hP, B1⟩ ?_
          refine AW_take 3 rfl rfl (by decide +kernel) (by decide +kernel) (by decide +kernel) (fun w ⟨hP, B1⟩ => Ev_loadAgg (l := [.int _ _, .slice _ _ _, .slice _ _ _, .slice _ _ _]) agg_26 rfl rfl (B1.sub 0 4 (Nat.le_of_ble_eq_true rfl)) rfl) ⟨hP, B1⟩ ?_
          refine AW_one 4 (by decide +kernel) (Next.mk rfl rfl ?_)
          refine Stp_call ent_19 rfl rfl rfl (cframe_c hP (by omega)) ?_
          rintro _ w13 ⟨E13, rfl⟩
          have Z13 := E13.size
          have hP := hP.keep0 E13
          have T := T.keep0 E13
          have B1 := B1.keep0 E13
          refine ⟨⟨hP, B1⟩, ?_⟩
          refine AW_take 5 rfl rfl (by decide +kernel) (by decide +kernel) (by decide +kernel) (fun w ⟨hP, B1⟩ => Ev_add rfl rfl rfl (by first | (apply IntWalk.i64_in; omega) | (apply IntWalk.u64_in; omega) | (apply IntWalk.u32_in; omega) | (apply IntWalk.u8_in; omega) | (apply IntWalk.i32_in; omega) | rfl)) ⟨hP, B1⟩ ?_
          refine AW_one 6 (by decide +kernel) (Next.mk rfl rfl ?_)
          have hcb := begins_c (n := n) (to := n + p.r.frame) hP hsm
          rw [hlen] at hcb
          refine Stp_call ent_18 rfl rfl rfl (hcb) ?_
          rintro _ w14 ⟨E14, a, q, rfl, hq1, hq2, SB⟩
          have Z14 := E14.size
          have hP := hP.keep0 E14
          have T := T.keep0 E14
          have B1 := B1.keep0 E14
          rw [hbeg] at SB
          have SB := SB.mono (G := fun b => w.heap.size ≤ b) (fun b _ h => by have := T.size; omega)
          refine ⟨⟨hP, B1⟩, ?_⟩
          refine AW_take 7 rfl rfl (by decide +kernel) (by decide +kernel) (by decide +kernel) (fun w ⟨hP, B1⟩ => Ev_mvs (.inr rfl) rfl) ⟨hP, B1⟩ ?_
          refine AW_done (by decide +kernel) ?_
          refine CW_seq ?_
          refine CW_seq ?_
          refine CW_reg rfl ?_
          refine OW_ev (Ev_mvs (.inl rfl) rfl) rfl ?_
          refine OW_ev (Ev_len und_40 rfl rfl) rfl ?_
          refine OW_ev (Ev_fieldAddr fld_26_2 rfl rfl) rfl ?_
          refine OW_ev (Ev_load one_23 rfl rfl (B1.ld (q := 2) rfl)) rfl ?_
          refine OW_ev (Ev_len und_23 rfl rfl) rfl ?_
          refine OW_ev (Ev_neq rfl rfl rfl) rfl ?_
          refine OW_nil ?_
          refine CW_cond rfl (fun c15 => ?_) (fun c15 => ?_)
          · have d15 := c15
            first | (with_reducible replace d15 := of_decide_eq_true d15) | (with_reducible replace d15 := bnt d15; try (with_reducible replace d15 := of_decide_eq_false d15)) | skip
            exact absurd rfl d15
          · have d15 := c15
            first | (with_reducible replace d15 := of_decide_eq_false d15) | (with_reducible replace d15 := bnf d15; try (with_reducible replace d15 := of_decide_eq_true d15)) | skip
            refine CW_skip ?_
            refine CW_seq ?_
            refine CW_seq ?_
            refine CW_reg rfl ?_
            refine OW_ev (Ev_c (.inr rfl)) rfl ?_
            refine OW_nil ?_
            refine CW_block ?_
            refine CW_loop (α := Nat) (fun (k : Nat) f wr => AllEq f [(1, .int .i64 n), (2, .pointer (some ⟨b1, 0, none⟩)), (5, .slice a p.ws.length q), (6, .int .i64 (k : Int))] ∧ (k ≤ p.ws.length) ∧ (Blk wr b1 26 p.cl) ∧ (Sl (fun b => w.heap.size ≤ b) wr 3 a (((List.range p.r.ws.length).map fun i => p.r.so (N + i)).map Slt.cells)) ∧ (PlnS (fun b => b < NW) wr p) ∧ (Kp0 w wr)) (fun k => p.ws.length - k) 0 ?_ ?_
            ·
              exact ⟨⟨rfl, rfl, rfl, rfl, trivial⟩, Nat.zero_le _, B1, SB, hP, T⟩
            ·
              rintro k f wr ⟨hf, hk, B1, SB, hP, T⟩
              obtain ⟨g, rfl⟩ : ∃ g, f = upl g [(1, .int .i64 n), (2, .pointer (some ⟨b1, 0, none⟩)), (5, .slice a p.ws.length q), (6, .int .i64 (k : Int))] := ⟨f, upl_self hf⟩
              clear hf
              refine CW_seq ?_
              refine CW_seq ?_
              refine CW_reg rfl ?_
              refine OW_ev (Ev_mvi (.inl rfl) rfl) rfl ?_
              refine OW_ev (Ev_mvs (.inl rfl) rfl) rfl ?_
              refine OW_ev (Ev_len und_40 rfl rfl) rfl ?_
              refine OW_ev (Ev_lss rfl rfl rfl) rfl ?_
              refine OW_nil ?_
              refine CW_cond rfl (fun c16 => ?_) (fun c16 => ?_)
              · have d16 := c16
                first | (with_reducible replace d16 := of_decide_eq_true d16) | (with_reducible replace d16 := bnt d16; try (with_reducible replace d16 := of_decide_eq_false d16)) | skip
                have hk2 : k < p.ws.length := by omega
                have hgk : (((List.range p.r.ws.length).map fun i => p.r.so (N + i)).map Slt.cells)[k]? = some (p.r.so (N + k)).cells := by rw [List.getElem?_map, Pln.so_get (p := p.r) (N := N) hk2]; rfl
                have K := SB.at_ hgk
                have hak := hall k hk2
                have hlk : k < (((List.range p.r.ws.length).map fun i => p.r.so (N + i)).map Slt.cells).length := by rw [List.length_map, List.length_map, List.length_range]; exact hk2
                refine CW_skip ?_
                refine CW_seq ?_
                refine CW_block ?_
                refine CW_seq ?_
                refine CW_draw (fun W => B1.here W ∧ SB.here W ∧ hP.here W ∧ K.here W) mixed rfl (fun _ _ _ h => nomatch h.1) ?_
                have E17 : Kp0 _ _ := Kp.drew wr nob
                have Z17 : (World.drew wr).heap.size = wr.heap.size := rfl
                generalize World.drew wr = w17 at E17 Z17 ⊢
                have T := T.keep0 E17
                have B1 := B1.keep0 E17
                have SB := SB.keep0 E17
                have hP := hP.keep0 E17
                have K := K.keep0 E17
                refine AW_take 0 rfl rfl (by decide +kernel) (by decide +kernel) (by decide +kernel) (fun w ⟨B1, SB, hP, K⟩ => Ev_loadAgg (l := [.int _ _, .slice _ _ _, .slice _ _ _, .slice _ _ _]) agg_26 rfl rfl (B1.sub 0 4 (Nat.le_of_ble_eq_true rfl)) rfl) ⟨B1, SB, hP, K⟩ ?_
                refine AW_take 1 rfl rfl (by decide +kernel) (by decide +kernel) (by decide +kernel) (fun w ⟨B1, SB, hP, K⟩ => Ev_mvs (.inl rfl) rfl) ⟨B1, SB, hP, K⟩ ?_
                refine AW_take 2 rfl rfl (by decide +kernel) (by decide +kernel) (by decide +kernel) (fun w ⟨B1, SB, hP, K⟩ => Ev_mvi (.inl rfl) rfl) ⟨B1, SB, hP, K⟩ ?_
                refine AW_take 3 rfl rfl (by decide +kernel) (by decide +kernel) (by decide +kernel) (fun w ⟨B1, SB, hP, K⟩ => Ev_idx k (SB.ad hgk) sl_40 rfl rfl rfl rfl hk2) ⟨B1, SB, hP, K⟩ ?_
                refine AW_take 4 rfl rfl (by decide +kernel) (by decide +kernel) (by decide +kernel) (fun w ⟨B1, SB, hP, K⟩ => Ev_loadAgg (l := (p.r.so (N + k)).cells) agg_29 rfl rfl (K.sub 0 rfl) rfl) ⟨B1, SB, hP, K⟩ ?_
                refine AW_one 5 (by decide +kernel) (Next.mk rfl rfl ?_)
                have hct := tickS_c (s := (p.r.so (N + k))) hP hsm
                rw [hak.1] at hct
                refine Stp_call ent_16 rfl rfl rfl (hct) ?_
                rintro _ w18 ⟨E18, rfl⟩
                have Z18 := E18.size
                have T := T.keep0 E18
                have B1 := B1.keep0 E18
                have SB := SB.keep0 E18
                have hP := hP.keep0 E18
                have K := K.keep0 E18
                refine ⟨⟨B1, SB, hP, K⟩, ?_⟩
                refine AW_take 6 rfl rfl (by decide +kernel) (by decide +kernel) (by decide +kernel) (fun w ⟨B1, SB, hP, K⟩ => Ev_mvt (.inl rfl) rfl) ⟨B1, SB, hP, K⟩ ?_
                refine AW_take 7 rfl rfl (by decide +kernel) (by decide +kernel) (by decide +kernel) (fun w ⟨B1, SB, hP, K⟩ => Ev_extract (vs := _) rfl rfl rfl) ⟨B1, SB, hP, K⟩ ?_
                refine AW_take 8 rfl rfl (by decide +kernel) (by decide +kernel) (by decide +kernel) (fun w ⟨B1, SB, hP, K⟩ => Ev_extract (vs := _) rfl rfl rfl) ⟨B1, SB, hP, K⟩ ?_
                refine AW_take 9 rfl rfl (by decide +kernel) (by decide +kernel) (by decide +kernel) (fun w ⟨B1, SB, hP, K⟩ => Ev_mvi (.inr rfl) rfl) ⟨B1, SB, hP, K⟩ ?_
                refine AW_take 10 rfl rfl (by decide +kernel) (by decide +kernel) (by decide +kernel) (fun w ⟨B1, SB, hP, K⟩ => Ev_mvi (.inr rfl) rfl) ⟨B1, SB, hP, K⟩ ?_
                refine AW_done (by decide +kernel) ?_
                refine CW_seq ?_
                refine CW_re [(1, .int _ _), (2, .pointer _), (5, .slice _ _ _), (6, .int _ _), (7, .int _ _), (8, .int _ _)] ⟨rfl, rfl, rfl, rfl, rfl, rfl, trivial⟩ (fun g => ?_)
                refine CW_draw (fun W => B1.here W ∧ SB.here W ∧ hP.here W ∧ K.here W) mixed rfl (fun _ _ _ h => nomatch h.1) ?_
                have E19 : Kp0 _ _ := Kp.drew w18 nob
                have Z19 : (World.drew w18).heap.size = w18.heap.size := rfl
                generalize World.drew w18 = w19 at E19 Z19 ⊢
                have T := T.keep0 E19
                have B1 := B1.keep0 E19
                have SB := SB.keep0 E19
                have hP := hP.keep0 E19
                have K := K.keep0 E19
                refine AW_take 0 rfl rfl (by decide +kernel) (by decide +kernel) (by decide +kernel) (fun w ⟨B1, SB, hP, K⟩ => Ev_mvi (.inl rfl) rfl) ⟨B1, SB, hP, K⟩ ?_
                refine AW_take 1 rfl rfl (by decide +kernel) (by decide +kernel) (by decide +kernel) (fun w ⟨B1, SB, hP, K⟩ => Ev_neq rfl rfl rfl) ⟨B1, SB, hP, K⟩ ?_
                refine AW_take 2 rfl rfl (by decide +kernel) (by decide +kernel) (by decide +kernel) (fun w ⟨B1, SB, hP, K⟩ => Ev_mvb (.inl rfl) rfl) ⟨B1, SB, hP, K⟩ ?_
                refine AW_split (d := .tmp 55) rfl (fun c20 => ?_) (fun c20 => ?_)
                · have d20 := c20
                  first | (with_reducible replace d20 := of_decide_eq_true d20) | (with_reducible replace d20 := bnt d20; try (with_reducible replace d20 := of_decide_eq_false d20)) | skip
                  exact absurd rfl d20
                · have d20 := c20
                  first | (with_reducible replace d20 := of_decide_eq_false d20) | (with_reducible replace d20 := bnf d20; try (with_reducible replace d20 := of_decide_eq_true d20)) | skip
                  refine AW_take_yes 3 rfl rfl rfl rfl rfl c20 (by decide +kernel) (by decide +kernel) (by decide +kernel) (fun w ⟨B1, SB, hP, K⟩ => Ev_mvi (.inl rfl) rfl) ⟨B1, SB, hP, K⟩ ?_
                  refine AW_take_yes 4 rfl rfl rfl rfl rfl c20 (by decide +kernel) (by decide +kernel) (by decide +kernel) (fun w ⟨B1, SB, hP, K⟩ => Ev_mvi (.inl rfl) rfl) ⟨B1, SB, hP, K⟩ ?_
                  refine AW_take_yes 5 rfl rfl rfl rfl rfl c20 (by decide +kernel) (by decide +kernel) (by decide +kernel) (fun w ⟨B1, SB, hP, K⟩ => Ev_lss rfl rfl rfl) ⟨B1, SB, hP, K⟩ ?_
                  refine AW_take 6 rfl rfl (by decide +kernel) (by decide +kernel) (by decide +kernel) (fun w ⟨B1, SB, hP, K⟩ => Ev_pickb_f rfl rfl c20 rfl) ⟨B1, SB, hP, K⟩ ?_
                  refine AW_take 7 rfl rfl (by decide +kernel) (by decide +kernel) (by decide +kernel) (fun w ⟨B1, SB, hP, K⟩ => Ev_mvb (.inl rfl) rfl) ⟨B1, SB, hP, K⟩ ?_
                  refine AW_split (d := .tmp 60) rfl (fun c21 => ?_) (fun c21 => ?_)
                  · have d21 := c21
                    first | (with_reducible replace d21 := of_decide_eq_true d21) | (with_reducible replace d21 := bnt d21; try (with_reducible replace d21 := of_decide_eq_false d21)) | skip
                    exfalso; omega
                  · have d21 := c21
                    first | (with_reducible replace d21 := of_decide_eq_false d21) | (with_reducible replace d21 := bnf d21; try (with_reducible replace d21 := of_decide_eq_true d21)) | skip
                    refine AW_take_yes 8 rfl rfl rfl rfl rfl c21 (by decide +kernel) (by decide +kernel) (by decide +kernel) (fun w ⟨B1, SB, hP, K⟩ => Ev_mvi (.inl rfl) rfl) ⟨B1, SB, hP, K⟩ ?_
                    refine AW_take_yes 9 rfl rfl rfl rfl rfl c21 (by decide +kernel) (by decide +kernel) (by decide +kernel) (fun w ⟨B1, SB, hP, K⟩ => Ev_mvi (.inl rfl) rfl) ⟨B1, SB, hP, K⟩ ?_
                    refine AW_take_yes 10 rfl rfl rfl rfl rfl c21 (by decide +kernel) (by decide +kernel) (by decide +kernel) (fun w ⟨B1, SB, hP, K⟩ => Ev_loadAgg (l := [.int _ _, .slice _ _ _, .slice _ _ _, .slice _ _ _]) agg_26 rfl rfl (B1.sub 0 4 (Nat.le_of_ble_eq_true rfl)) rfl) ⟨B1, SB, hP, K⟩ ?_
                    refine AW_one 11 (by decide +kernel) (Next.yes rfl rfl rfl rfl rfl c21 ?_)
                    refine Stp_call ent_19 rfl rfl rfl (cframe_c hP (by omega)) ?_
                    rintro _ w22 ⟨E22, rfl⟩
                    have Z22 := E22.size
                    have T := T.keep0 E22
                    have B1 := B1.keep0 E22
                    have SB := SB.keep0 E22
                    have hP := hP.keep0 E22
                    have K := K.keep0 E22
                    refine ⟨⟨B1, SB, hP, K⟩, ?_⟩
                    refine AW_take_yes 12 rfl rfl rfl rfl rfl c21 (by decide +kernel) (by decide +kernel) (by decide +kernel) (fun w ⟨B1, SB, hP, K⟩ => Ev_add rfl rfl rfl (by first | (apply IntWalk.i64_in; omega) | (apply IntWalk.u64_in; omega) | (apply IntWalk.u32_in; omega) | (apply IntWalk.u8_in; omega) | (apply IntWalk.i32_in; omega) | rfl)) ⟨B1, SB, hP, K⟩ ?_
                    refine AW_take_yes 13 rfl rfl rfl rfl rfl c21 (by decide +kernel) (by decide +kernel) (by decide +kernel) (fun w ⟨B1, SB, hP, K⟩ => Ev_geq rfl rfl rfl) ⟨B1, SB, hP, K⟩ ?_
                    refine AW_take 14 rfl rfl (by decide +kernel) (by decide +kernel) (by decide +kernel) (fun w ⟨B1, SB, hP, K⟩ => Ev_pickb_f rfl rfl c21 rfl) ⟨B1, SB, hP, K⟩ ?_
                    refine AW_take 15 rfl rfl (by decide +kernel) (by decide +kernel) (by decide +kernel) (fun w ⟨B1, SB, hP, K⟩ => Ev_mvb (.inl rfl) rfl) ⟨B1, SB, hP, K⟩ ?_
                    refine AW_split (d := .tmp 68) rfl (fun c23 => ?_) (fun c23 => ?_)
                    · have d23 := c23
                      first | (with_reducible replace d23 := of_decide_eq_true d23) | (with_reducible replace d23 := bnt d23; try (with_reducible replace d23 := of_decide_eq_false d23)) | skip
                      exfalso; omega
                    · have d23 := c23
                      first | (with_reducible replace d23 := of_decide_eq_false d23) | (with_reducible replace d23 := bnf d23; try (with_reducible replace d23 := of_decide_eq_true d23)) | skip
                      refine AW_take_yes 16 rfl rfl rfl rfl rfl c23 (by decide +kernel) (by decide +kernel) (by decide +kernel) (fun w ⟨B1, SB, hP, K⟩ => Ev_mvs (.inl rfl) rfl) ⟨B1, SB, hP, K⟩ ?_
                      refine AW_take_yes 17 rfl rfl rfl rfl rfl c23 (by decide +kernel) (by decide +kernel) (by decide +kernel) (fun w ⟨B1, SB, hP, K⟩ => Ev_mvi (.inl rfl) rfl) ⟨B1, SB, hP, K⟩ ?_
                      refine AW_take_yes 18 rfl rfl rfl rfl rfl c23 (by decide +kernel) (by decide +kernel) (by decide +kernel) (fun w ⟨B1, SB, hP, K⟩ => Ev_idx k (SB.ad hgk) sl_40 rfl rfl rfl rfl hk2) ⟨B1, SB, hP, K⟩ ?_
                      refine AW_take_yes 19 rfl rfl rfl rfl rfl c23 (by decide +kernel) (by decide +kernel) (by decide +kernel) (fun w ⟨B1, SB, hP, K⟩ => Ev_fieldAddr fld_29_2 rfl rfl) ⟨B1, SB, hP, K⟩ ?_
                      refine AW_take_yes 20 rfl rfl rfl rfl rfl c23 (by decide +kernel) (by decide +kernel) (by decide +kernel) (fun w ⟨B1, SB, hP, K⟩ => Ev_load one_3 rfl rfl (K.one 2 rfl)) ⟨B1, SB, hP, K⟩ ?_
                      refine AW_take_yes 21 rfl rfl rfl rfl rfl c23 (by decide +kernel) (by decide +kernel) (by decide +kernel) (fun w ⟨B1, SB, hP, K⟩ => Ev_neq rfl rfl rfl) ⟨B1, SB, hP, K⟩ ?_
                      refine AW_take 22 rfl rfl (by decide +kernel) (by decide +kernel) (by decide +kernel) (fun w ⟨B1, SB, hP, K⟩ => Ev_pickb_f rfl rfl c23 rfl) ⟨B1, SB, hP, K⟩ ?_
                      refine AW_take 23 rfl rfl (by decide +kernel) (by decide +kernel) (by decide +kernel) (fun w ⟨B1, SB, hP, K⟩ => Ev_mvb (.inl rfl) rfl) ⟨B1, SB, hP, K⟩ ?_
                      refine AW_split (d := .tmp 76) rfl (fun c24 => ?_) (fun c24 => ?_)
                      · have d24 := c24
                        first | (with_reducible replace d24 := of_decide_eq_true d24) | (with_reducible replace d24 := bnt d24; try (with_reducible replace d24 := of_decide_eq_false d24)) | skip
                        exact absurd rfl d24
                      · have d24 := c24
                        first | (with_reducible replace d24 := of_decide_eq_false d24) | (with_reducible replace d24 := bnf d24; try (with_reducible replace d24 := of_decide_eq_true d24)) | skip
                        refine AW_take_yes 24 rfl rfl rfl rfl rfl c24 (by decide +kernel) (by decide +kernel) (by decide +kernel) (fun w ⟨B1, SB, hP, K⟩ => Ev_mvi (.inl rfl) rfl) ⟨B1, SB, hP, K⟩ ?_
                        refine AW_take_yes 25 rfl rfl rfl rfl rfl c24 (by decide +kernel) (by decide +kernel) (by decide +kernel) (fun w ⟨B1, SB, hP, K⟩ => Ev_gtr rfl rfl rfl) ⟨B1, SB, hP, K⟩ ?_
                        refine AW_take_yes 26 rfl rfl rfl rfl rfl c24 (by decide +kernel) (by decide +kernel) (by decide +kernel) (fun w ⟨B1, SB, hP, K⟩ => Ev_mvb (.inl rfl) rfl) ⟨B1, SB, hP, K⟩ ?_
                        refine AW_split (d := .tmp 79) rfl (fun c25 => ?_) (fun c25 => ?_)
                        · have d25 := c25
                          first | (with_reducible replace d25 := of_decide_eq_true d25) | (with_reducible replace d25 := bnt d25; try (with_reducible replace d25 := of_decide_eq_false d25)) | skip
                          have hk0 : 0 < k := by omega
                          obtain ⟨j, rfl⟩ : ∃ j, k = j + 1 := ⟨k - 1, by omega⟩
                          have hgj : (((List.range p.r.ws.length).map fun i => p.r.so (N + i)).map Slt.cells)[j]? = some (p.r.so (N + j)).cells := by rw [List.getElem?_map, Pln.so_get (p := p.r) (N := N) (by show j < p.ws.length; omega)]; rfl
                          have K2 := SB.at_ hgj
                          have hnx := Pln.so_next hok (N + j)
                          have hwj : 0 ≤ (p.r.so (N + j)).window ∧ (p.r.so (N + j)).window < (p.ws.length : Int) := by
                            have hm := Nat.mod_lt (N + j) hok.pos
                            have hm : (N + j) % p.ws.length < p.ws.length := hm
                            show 0 ≤ (((N + j) % p.ws.length : Nat) : Int) ∧ (((N + j) % p.ws.length : Nat) : Int) < (p.ws.length : Int)
                            omega
                          refine AW_take_yes 27 rfl rfl rfl rfl rfl c25 (by decide +kernel) (by decide +kernel) (by decide +kernel) (fun w ⟨B1, SB, hP, K⟩ => Ev_mvs (.inl rfl) rfl) ⟨B1, SB, hP, K⟩ ?_
                          refine AW_take_yes 28 rfl rfl rfl rfl rfl c25 (by decide +kernel) (by decide +kernel) (by decide +kernel) (fun w ⟨B1, SB, hP, K⟩ => Ev_mvi (.inl rfl) rfl) ⟨B1, SB, hP, K⟩ ?_
                          refine AW_take_yes 29 rfl rfl rfl rfl rfl c25 (by decide +kernel) (by decide +kernel) (by decide +kernel) (fun w ⟨B1, SB, hP, K⟩ => Ev_idx (j + 1) (SB.ad hgk) sl_40 rfl rfl rfl rfl hk2) ⟨B1, SB, hP, K⟩ ?_
                          refine AW_take_yes 30 rfl rfl rfl rfl rfl c25 (by decide +kernel) (by decide +kernel) (by decide +kernel) (fun w ⟨B1, SB, hP, K⟩ => Ev_fieldAddr fld_29_1 rfl rfl) ⟨B1, SB, hP, K⟩ ?_
                          refine AW_take_yes 31 rfl rfl rfl rfl rfl c25 (by decide +kernel) (by decide +kernel) (by decide +kernel) (fun w ⟨B1, SB, hP, K⟩ => Ev_load (v := .int .i64 (p.r.so (N + (j + 1))).window) one_3 rfl rfl (K.one 1 rfl)) ⟨B1, SB, hP, K⟩ ?_
                          refine AW_take_yes 32 rfl rfl rfl rfl rfl c25 (by decide +kernel) (by decide +kernel) (by decide +kernel) (fun w ⟨B1, SB, hP, K⟩ => Ev_mvs (.inl rfl) rfl) ⟨B1, SB, hP, K⟩ ?_
                          refine AW_take_yes 33 rfl rfl rfl rfl rfl c25 (by decide +kernel) (by decide +kernel) (by decide +kernel) (fun w ⟨B1, SB, hP, K⟩ => Ev_mvi (.inl rfl) rfl) ⟨B1, SB, hP, K⟩ ?_
                          refine AW_take_yes 34 rfl rfl rfl rfl rfl c25 (by decide +kernel) (by decide +kernel) (by decide +kernel) (fun w ⟨B1, SB, hP, K⟩ => Ev_sub rfl rfl rfl (by first | (apply IntWalk.i64_in; omega) | (apply IntWalk.u64_in; omega) | (apply IntWalk.u32_in; omega) | (apply IntWalk.u8_in; omega) | (apply IntWalk.i32_in; omega) | rfl)) ⟨B1, SB, hP, K⟩ ?_
                          refine AW_take_yes 35 rfl rfl rfl rfl rfl c25 (by decide +kernel) (by decide +kernel) (by decide +kernel) (fun w ⟨B1, SB, hP, K⟩ => Ev_idx j (SB.ad hgk) sl_40 rfl rfl rfl (by omega) (by omega)) ⟨B1, SB, hP, K⟩ ?_
                          refine AW_take_yes 36 rfl rfl rfl rfl rfl c25 (by decide +kernel) (by decide +kernel) (by decide +kernel) (fun w ⟨B1, SB, hP, K⟩ => Ev_fieldAddr fld_29_1 rfl rfl) ⟨B1, SB, hP, K⟩ ?_
                          refine AW_take_yes 37 rfl rfl rfl rfl rfl c25 (by decide +kernel) (by decide +kernel) (by decide +kernel) (fun w ⟨B1, SB, hP, K⟩ => Ev_load (v := .int .i64 (p.r.so (N + j)).window) one_3 rfl rfl ((SB.at_ hgj).one 1 rfl)) ⟨B1, SB, hP, K⟩ ?_
                          refine AW_take_yes 38 rfl rfl rfl rfl rfl c25 (by decide +kernel) (by decide +kernel) (by decide +kernel) (fun w ⟨B1, SB, hP, K⟩ => Ev_add rfl rfl rfl (by apply IntWalk.i64_in; omega)) ⟨B1, SB, hP, K⟩ ?_
                          refine AW_take_yes 39 rfl rfl rfl rfl rfl c25 (by decide +kernel) (by decide +kernel) (by decide +kernel) (fun w ⟨B1, SB, hP, K⟩ => Ev_fieldAddr fld_26_2 rfl rfl) ⟨B1, SB, hP, K⟩ ?_
                          refine AW_take_yes 40 rfl rfl rfl rfl rfl c25 (by decide +kernel) (by decide +kernel) (by decide +kernel) (fun w ⟨B1, SB, hP, K⟩ => Ev_load one_23 rfl rfl (B1.ld (q := 2) rfl)) ⟨B1, SB, hP, K⟩ ?_
                          refine AW_take_yes 41 rfl rfl rfl rfl rfl c25 (by decide +kernel) (by decide +kernel) (by decide +kernel) (fun w ⟨B1, SB, hP, K⟩ => Ev_len und_23 rfl rfl) ⟨B1, SB, hP, K⟩ ?_
                          refine AW_take_yes 42 rfl rfl rfl rfl rfl c25 (by decide +kernel) (by decide +kernel) (by decide +kernel) (fun w ⟨B1, SB, hP, K⟩ => Ev_rem rfl rfl rfl (by omega) (by omega)) ⟨B1, SB, hP, K⟩ ?_
                          refine AW_take_yes 43 rfl rfl rfl rfl rfl c25 (by decide +kernel) (by decide +kernel) (by decide +kernel) (fun w ⟨B1, SB, hP, K⟩ => Ev_neq rfl rfl rfl) ⟨B1, SB, hP, K⟩ ?_
                          refine AW_take_yes 44 rfl rfl rfl rfl rfl c24 (by decide +kernel) (by decide +kernel) (by decide +kernel) (fun w ⟨B1, SB, hP, K⟩ => Ev_pickb_t rfl rfl c25 rfl) ⟨B1, SB, hP, K⟩ ?_
                          refine AW_take 45 rfl rfl (by decide +kernel) (by decide +kernel) (by decide +kernel) (fun w ⟨B1, SB, hP, K⟩ => Ev_pickb_f rfl rfl c24 rfl) ⟨B1, SB, hP, K⟩ ?_
                          refine AW_done (by decide +kernel) ?_
                          refine CW_cond rfl (fun c26 => ?_) (fun c26 => ?_)
                          · have d26 := c26
                            first | (with_reducible replace d26 := of_decide_eq_true d26) | (with_reducible replace d26 := bnt d26; try (with_reducible replace d26 := of_decide_eq_false d26)) | skip
                            exact absurd hnx d26
                          · have d26 := c26
                            first | (with_reducible replace d26 := of_decide_eq_false d26) | (with_reducible replace d26 := bnf d26; try (with_reducible replace d26 := of_decide_eq_true d26)) | skip
                            refine CW_skip ?_
                            refine CW_re [(1, .int _ _), (2, .pointer _), (5, .slice _ _ _), (6, .int _ _)] ⟨rfl, rfl, rfl, rfl, trivial⟩ (fun g => ?_)
                            refine CW_reg rfl ?_
                            refine OW_ev (Ev_mvi (.inl rfl) rfl) rfl ?_
                            refine OW_ev (Ev_add rfl rfl rfl (by first | (apply IntWalk.i64_in; omega) | (apply IntWalk.u64_in; omega) | (apply IntWalk.u32_in; omega) | (apply IntWalk.u8_in; omega) | (apply IntWalk.i32_in; omega) | rfl)) rfl ?_
                            refine OW_ev (Ev_mvi (.inr rfl) rfl) rfl ?_
                            refine OW_nil ?_
                            exact ⟨j + 1 + 1, by omega, ⟨rfl, rfl, rfl, congrArg (Value.int .i64) (by omega), trivial⟩, by omega, B1, SB, hP, T⟩
                        · have d25 := c25
                          first | (with_reducible replace d25 := of_decide_eq_false d25) | (with_reducible replace d25 := bnf d25; try (with_reducible replace d25 := of_decide_eq_true d25)) | skip
                          refine AW_take_no 27 rfl rfl rfl rfl rfl c25 (by decide +kernel) (by decide +kernel) (by decide +kernel) ⟨B1, SB, hP, K⟩ ?_
                          refine AW_take_no 28 rfl rfl rfl rfl rfl c25 (by decide +kernel) (by decide +kernel) (by decide +kernel) ⟨B1, SB, hP, K⟩ ?_
                          refine AW_take_no 29 rfl rfl rfl rfl rfl c25 (by decide +kernel) (by decide +kernel) (by decide +kernel) ⟨B1, SB, hP, K⟩ ?_
                          refine AW_take_no 30 rfl rfl rfl rfl rfl c25 (by decide +kernel) (by decide +kernel) (by decide +kernel) ⟨B1, SB, hP, K⟩ ?_
                          refine AW_take_no 31 rfl rfl rfl rfl rfl c25 (by decide +kernel) (by decide +kernel) (by decide +kernel) ⟨B1, SB, hP, K⟩ ?_
                          refine AW_take_no 32 rfl rfl rfl rfl rfl c25 (by decide +kernel) (by decide +kernel) (by decide +kernel) ⟨B1, SB, hP, K⟩ ?_
                          refine AW_take_no 33 rfl rfl rfl rfl rfl c25 (by decide +kernel) (by decide +kernel) (by decide +kernel) ⟨B1, SB, hP, K⟩ ?_
                          refine AW_take_no 34 rfl rfl rfl rfl rfl c25 (by decide +kernel) (by decide +kernel) (by decide +kernel) ⟨B1, SB, hP, K⟩ ?_
                          refine AW_take_no 35 rfl rfl rfl rfl rfl c25 (by decide +kernel) (by decide +kernel) (by decide +kernel) ⟨B1, SB, hP, K⟩ ?_
                          refine AW_take_no 36 rfl rfl rfl rfl rfl c25 (by decide +kernel) (by decide +kernel) (by decide +kernel) ⟨B1, SB, hP, K⟩ ?_
                          refine AW_take_no 37 rfl rfl rfl rfl rfl c25 (by decide +kernel) (by decide +kernel) (by decide +kernel) ⟨B1, SB, hP, K⟩ ?_
                          refine AW_take_no 38 rfl rfl rfl rfl rfl c25 (by decide +kernel) (by decide +kernel) (by decide +kernel) ⟨B1, SB, hP, K⟩ ?_
                          refine AW_take_no 39 rfl rfl rfl rfl rfl c25 (by decide +kernel) (by decide +kernel) (by decide +kernel) ⟨B1, SB, hP, K⟩ ?_
                          refine AW_take_no 40 rfl rfl rfl rfl rfl c25 (by decide +kernel) (by decide +kernel) (by decide +kernel) ⟨B1, SB, hP, K⟩ ?_
                          refine AW_take_no 41 rfl rfl rfl rfl rfl c25 (by decide +kernel) (by decide +kernel) (by decide +kernel) ⟨B1, SB, hP, K⟩ ?_
                          refine AW_take_no 42 rfl rfl rfl rfl rfl c25 (by decide +kernel) (by decide +kernel) (by decide +kernel) ⟨B1, SB, hP, K⟩ ?_
                          refine AW_take_no 43 rfl rfl rfl rfl rfl c25 (by decide +kernel) (by decide +kernel) (by decide +kernel) ⟨B1, SB, hP, K⟩ ?_
                          refine AW_take_yes 44 rfl rfl rfl rfl rfl c24 (by decide +kernel) (by decide +kernel) (by decide +kernel) (fun w ⟨B1, SB, hP, K⟩ => Ev_pickb_f rfl rfl c25 rfl) ⟨B1, SB, hP, K⟩ ?_
                          refine AW_take 45 rfl rfl (by decide +kernel) (by decide +kernel) (by decide +kernel) (fun w ⟨B1, SB, hP, K⟩ => Ev_pickb_f rfl rfl c24 rfl) ⟨B1, SB, hP, K⟩ ?_
                          refine AW_done (by decide +kernel) ?_
                          refine CW_cond_f rfl rfl ?_
                          refine CW_skip ?_
                          refine CW_re [(1, .int _ _), (2, .pointer _), (5, .slice _ _ _), (6, .int _ _)] ⟨rfl, rfl, rfl, rfl, trivial⟩ (fun g => ?_)
                          refine CW_reg rfl ?_
                          refine OW_ev (Ev_mvi (.inl rfl) rfl) rfl ?_
                          refine OW_ev (Ev_add rfl rfl rfl (by first | (apply IntWalk.i64_in; omega) | (apply IntWalk.u64_in; omega) | (apply IntWalk.u32_in; omega) | (apply IntWalk.u8_in; omega) | (apply IntWalk.i32_in; omega) | rfl)) rfl ?_
                          refine OW_ev (Ev_mvi (.inr rfl) rfl) rfl ?_
                          refine OW_nil ?_
                          exact ⟨k + 1, by omega, ⟨rfl, rfl, rfl, congrArg (Value.int .i64) (by omega), trivial⟩, by omega, B1, SB, hP, T⟩
              · have d16 := c16
                first | (with_reducible replace d16 := of_decide_eq_false d16) | (with_reducible replace d16 := bnf d16; try (with_reducible replace d16 := of_decide_eq_true d16)) | skip
                refine CW_exit ?_
                refine blk_same ?_
                refine CW_seq ?_
                refine CW_reg rfl ?_
                refine OW_st rfl (Stp_call ent_15 rfl rfl rfl (framed_c _) ?_)
                rintro _ w27 ⟨E27, rfl⟩
                have Z27 := E27.size
                have T := T.keep0 E27
                have B1 := B1.keep0 E27
                have SB := SB.keep0 E27
                have hP := hP.keep0 E27
                refine OW_ev (Ev_mvb (.inr rfl) rfl) rfl ?_
                refine OW_nil ?_
                refine CW_ret ?_
                refine ⟨rfl, _, (.tmp rfl .nil), ?_⟩
                exact ⟨T, rfl⟩

end Go.Proofs.Ytcfadhjiijngmaa