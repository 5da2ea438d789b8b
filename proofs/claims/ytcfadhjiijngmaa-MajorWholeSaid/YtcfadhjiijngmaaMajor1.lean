/- Contracts of package major: the slot of a tick. -/
import Derived.Test.YtcfadhjiijngmaaTypes
import Derived.Test.YtcfadhjiijngmaaMajorData
import Derived.Test.YtcfadhjiijngmaaConf5
namespace Go.Proofs.Ytcfadhjiijngmaa
open Go Go.RowKit Bx Go.Proofs

theorem mtick_c (w : World) (n : Int) : Calls Try.prog 36 #[.int .i64 n] w (Ret fun v w' => Kp0 w w' ∧ v = .bool (isTick n)) := by
  have T : Kp0 w w := Kp.refl _ _
  refine calls_start Try.func36 rfl (n := 9) rfl rfl rfl ?_
  refine CW_seq ?_
  refine CW_reg rfl ?_
  refine OW_ev (Ev_c (.inr rfl)) rfl ?_
  refine OW_nil ?_
  refine CW_seq ?_
  refine CW_reg rfl ?_
  refine OW_ev (Ev_mvi (.inl rfl) rfl) rfl ?_
  refine OW_ev (Ev_geq rfl rfl rfl) rfl ?_
  refine OW_ev (Ev_mvb (.inl rfl) rfl) rfl ?_
  refine OW_split (d := .tmp 5) rfl (fun c1 => ?_) (fun c1 => ?_)
  · have d1 := c1
    first | (with_reducible replace d1 := of_decide_eq_true d1) | (with_reducible replace d1 := bnt d1; try (with_reducible replace d1 := of_decide_eq_false d1)) | skip
    refine OW_yes rfl rfl rfl rfl c1 (Ev.stp (Ev_mvi (.inl rfl) rfl) ?_)
    refine OW_yes rfl rfl rfl rfl c1 (Ev.stp (Ev_leq rfl rfl rfl) ?_)
    refine OW_ev (Ev_pickb_t rfl rfl c1 rfl) rfl ?_
    refine OW_ev (Ev_mvb (.inr rfl) rfl) rfl ?_
    refine OW_nil ?_
    refine CW_ret ?_
    refine ⟨rfl, _, (.tmp rfl .nil), ?_⟩
    exact ⟨T, vb rfl (by unfold isTick; first | rfl | exact decide_eq_decide.2 (by omega) | exact (decide_eq_false (by omega)).symm | exact (decide_eq_true (by omega)).symm)⟩
  · have d1 := c1
    first | (with_reducible replace d1 := of_decide_eq_false d1) | (with_reducible replace d1 := bnf d1; try (with_reducible replace d1 := of_decide_eq_true d1)) | skip
    refine OW_no rfl rfl rfl rfl c1 ?_
    refine OW_no rfl rfl rfl rfl c1 ?_
    refine OW_ev (Ev_pickb_f rfl rfl c1 rfl) rfl ?_
    refine OW_ev (Ev_mvb (.inr rfl) rfl) rfl ?_
    refine OW_nil ?_
    refine CW_ret ?_
    refine ⟨rfl, _, (.tmp rfl .nil), ?_⟩
    exact ⟨T, vb rfl (by unfold isTick; first | rfl | exact decide_eq_decide.2 (by omega) | exact (decide_eq_false (by omega)).symm | exact (decide_eq_true (by omega)).symm)⟩

set_option maxRecDepth 10000 in
set_option maxHeartbeats 2000000 in
theorem place_c {F : Nat → Prop} {w : World} {p : PlnM} {n : Int} (hP : PlnS F w p) (hsm : p.ps.length ≤ 1000 ∧ p.ws.length ≤ 1000 ∧ p.cs.length ≤ 1000) (hok : p.r.Ok) (hn : 0 ≤ n ∧ n ≤ 9223372036854775807) : Calls Try.prog 37 #[.agg p.cl.toArray, .int .i64 n] w (Ret fun v w' => Kp0 w w' ∧ v = .agg (p.r.slot n).cells.toArray) := by
  have hP := hP.old
  obtain ⟨NW, hNW⟩ : ∃ x, x = w.heap.size := ⟨_, rfl⟩
  rw [← hNW] at hP
  have hfb := hok.frame_bd
  have hwl := hok.wsl
  have hm0 := Int.emod_nonneg n (show p.r.frame ≠ 0 by omega)
  have hm1 := Int.emod_lt_of_pos n (show 0 < p.r.frame by omega)
  have hfe : p.r.frame = aheadT p.ws p.ws.length := (Pln.Ok.frame_eq (p := p.r))
  have hq0 : 0 ≤ n / p.r.frame := Int.ediv_nonneg hn.1 (by omega)
  have hq1 : n / p.r.frame ≤ n := Int.ediv_le_self _ hn.1
  have hwl2 : 1 ≤ p.ws.length ∧ p.ws.length ≤ 32 := hwl
  have T : Kp0 w w := Kp.refl _ _
  refine calls_start Try.func37 rfl (n := 42) rfl rfl rfl ?_
  refine CW_seq ?_
  refine CW_reg rfl ?_
  refine OW_st rfl (Stp_box (l := [.int _ _, .slice _ _ _, .slice _ _ _, .slice _ _ _]) rfl rfl rfl ?_)
  intro b1 w1 hb1 hz1 E1 B1
  have L1 : _ ≤ b1 := Nat.le_trans T.size (Nat.le_of_eq hb1.symm)
  have hP := hP.keep0 E1
  have T := T.keep0 E1
  replace B1 : Blk w1 b1 26 (p.cl) := B1
  refine OW_st rfl (Stp_alloc zero_29 rfl ?_)
  intro b2 w2 hb2 hz2 E2 B2
  have L2 : _ ≤ b2 := Nat.le_trans T.size (Nat.le_of_eq hb2.symm)
  have hP := hP.keep0 E2
  have T := T.keep0 E2
  have B1 := B1.keep0 E2
  refine OW_nil ?_
  refine CW_scope (α := Nat) 0 (fun (k : Nat) f wr => ∃ (bs : Nat), AllEq f [(2, .pointer (some ⟨b1, 0, none⟩)), (4, .pointer (some ⟨b2, 0, none⟩)), (6, .pointer (some ⟨bs, 0, none⟩))] ∧ (k < p.ws.length) ∧ (aheadT p.ws k ≤ n % p.r.frame) ∧ (Blk wr b1 26 p.cl) ∧ (Blk wr b2 29 [.int .i64 0, .int .i64 0, .int .i64 0]) ∧ (Blk wr bs 29 [.int .i64 (n / p.r.frame), .int .i64 (k : Int), .int .i64 (n % p.r.frame - aheadT p.ws k)]) ∧ (PlnS (fun b => b < NW) wr p) ∧ (Kp0 w wr) ∧ (NW ≤ bs ∧ b1 < bs ∧ b2 < bs)) (fun k => p.ws.length - k) rfl ?_ ?_
  ·
    rintro k f wr ⟨bs, hf, hk, hlo, B1, B2, BS, hP, T, hbs⟩
    obtain ⟨g, rfl⟩ : ∃ g, f = upl g [(2, .pointer (some ⟨b1, 0, none⟩)), (4, .pointer (some ⟨b2, 0, none⟩)), (6, .pointer (some ⟨bs, 0, none⟩))] := ⟨f, upl_self hf⟩
    clear hf
    obtain ⟨x, hxj, hgx, hmem⟩ := getW (ws := p.ws) (j := k) (by omega)
    have K := hP.2.1.at_ hgx
    have htx := hok.ticks x hmem
    have hah := aheadT_succ hxj htx
    have habd := aheadT_bd (ws := p.ws) k
    have hKb := (hP.2.1.2 (Sl.ne hgx)).2.1
    change _ < _ at hKb
    refine CW_seq ?_
    refine CW_seq ?_
    refine CW_draw (fun W => B1.here W ∧ B2.here W ∧ BS.here W ∧ hP.here W ∧ K.here W) mixed rfl (fun _ _ _ h => nomatch h.1) ?_
    have E3 : Kp0 _ _ := Kp.drew wr nob
    have Z3 : (World.drew wr).heap.size = wr.heap.size := rfl
    generalize World.drew wr = w3 at E3 Z3 ⊢
    have T := T.keep0 E3
    have B1 := B1.keep0 E3
    have B2 := B2.keep0 E3
    have BS := BS.keep0 E3
    have hP := hP.keep0 E3
    have K := K.keep0 E3
    refine AW_take 0 rfl rfl (by decide +kernel) (by decide +kernel) (by decide +kernel) (fun w ⟨B1, B2, BS, hP, K⟩ => Ev_fieldAddr fld_29_2 rfl rfl) ⟨B1, B2, BS, hP, K⟩ ?_
    refine AW_take 1 rfl rfl (by decide +kernel) (by decide +kernel) (by decide +kernel) (fun w ⟨B1, B2, BS, hP, K⟩ => Ev_load one_3 rfl rfl (BS.ld (q := 2) rfl)) ⟨B1, B2, BS, hP, K⟩ ?_
    refine AW_take 2 rfl rfl (by decide +kernel) (by decide +kernel) (by decide +kernel) (fun w ⟨B1, B2, BS, hP, K⟩ => Ev_fieldAddr fld_26_2 rfl rfl) ⟨B1, B2, BS, hP, K⟩ ?_
    refine AW_take 3 rfl rfl (by decide +kernel) (by decide +kernel) (by decide +kernel) (fun w ⟨B1, B2, BS, hP, K⟩ => Ev_load one_23 rfl rfl (B1.ld (q := 2) rfl)) ⟨B1, B2, BS, hP, K⟩ ?_
    refine AW_take 4 rfl rfl (by decide +kernel) (by decide +kernel) (by decide +kernel) (fun w ⟨B1, B2, BS, hP, K⟩ => Ev_fieldAddr fld_29_1 rfl rfl) ⟨B1, B2, BS, hP, K⟩ ?_
    refine AW_take 5 rfl rfl (by decide +kernel) (by decide +kernel) (by decide +kernel) (fun w ⟨B1, B2, BS, hP, K⟩ => Ev_load one_3 rfl rfl (BS.ld (q := 1) rfl)) ⟨B1, B2, BS, hP, K⟩ ?_
    refine AW_take 6 rfl rfl (by decide +kernel) (by decide +kernel) (by decide +kernel) (fun w ⟨B1, B2, BS, hP, K⟩ => Ev_idx k (hP.2.1.ad hgx) sl_23 rfl rfl rfl rfl (by omega)) ⟨B1, B2, BS, hP, K⟩ ?_
    refine AW_take 7 rfl rfl (by decide +kernel) (by decide +kernel) (by decide +kernel) (fun w ⟨B1, B2, BS, hP, K⟩ => Ev_fieldAddr fld_88_1 rfl rfl) ⟨B1, B2, BS, hP, K⟩ ?_
    refine AW_take 8 rfl rfl (by decide +kernel) (by decide +kernel) (by decide +kernel) (fun w ⟨B1, B2, BS, hP, K⟩ => Ev_load one_3 rfl rfl (K.one 1 rfl)) ⟨B1, B2, BS, hP, K⟩ ?_
    refine AW_take 9 rfl rfl (by decide +kernel) (by decide +kernel) (by decide +kernel) (fun w ⟨B1, B2, BS, hP, K⟩ => Ev_geq rfl rfl rfl) ⟨B1, B2, BS, hP, K⟩ ?_
    refine AW_done (by decide +kernel) ?_
    refine CW_cond rfl (fun c4 => ?_) (fun c4 => ?_)
    · have d4 := c4
      first | (with_reducible replace d4 := of_decide_eq_true d4) | (with_reducible replace d4 := bnt d4; try (with_reducible replace d4 := of_decide_eq_false d4)) | skip
      have hge : aheadT p.ws (k + 1) ≤ n % p.r.frame := by omega
      have hk1 : k + 1 < p.ws.length := by
        by_cases e : k + 1 < p.ws.length
        · exact e
        · have e2 : k + 1 = p.ws.length := by omega
          rw [e2, ← hfe] at hge; omega
      refine CW_seq ?_
      refine CW_draw (fun W => B1.here W ∧ B2.here W ∧ hP.here W ∧ K.here W) mixed rfl (fun _ _ _ h => nomatch h.1) ?_
      have E5 : Kp0 _ _ := Kp.drew w3 nob
      have Z5 : (World.drew w3).heap.size = w3.heap.size := rfl
      generalize World.drew w3 = w5 at E5 Z5 ⊢
      have T := T.keep0 E5
      have B1 := B1.keep0 E5
      have B2 := B2.keep0 E5
      have BS := BS.keep0 E5
      have hP := hP.keep0 E5
      have K := K.keep0 E5
      refine AW_take 0 rfl rfl (by decide +kernel) (by decide +kernel) (by decide +kernel) (fun w ⟨B1, B2, hP, K⟩ => Ev_fieldAddr fld_29_2 rfl rfl) ⟨B1, B2, hP, K⟩ ?_
      refine AW_take 2 rfl rfl (by decide +kernel) (by decide +kernel) (by decide +kernel) (fun w ⟨B1, B2, hP, K⟩ => Ev_fieldAddr fld_26_2 rfl rfl) ⟨B1, B2, hP, K⟩ ?_
      refine AW_take 3 rfl rfl (by decide +kernel) (by decide +kernel) (by decide +kernel) (fun w ⟨B1, B2, hP, K⟩ => Ev_load one_23 rfl rfl (B1.ld (q := 2) rfl)) ⟨B1, B2, hP, K⟩ ?_
      refine AW_take 4 rfl rfl (by decide +kernel) (by decide +kernel) (by decide +kernel) (fun w ⟨B1, B2, hP, K⟩ => Ev_fieldAddr fld_29_1 rfl rfl) ⟨B1, B2, hP, K⟩ ?_
      refine AW_two 1 5 (by decide +kernel) (Next.mk rfl rfl ?_) (Next.mk rfl rfl ?_)
      ·
        refine Ev.stp (Ev_load one_3 rfl rfl (BS.ld (q := 2) rfl)) ?_
        refine ⟨⟨B1, B2, hP, K⟩, ?_⟩
        refine AW_one 5 (by decide +kernel) (Next.mk rfl rfl ?_)
        refine Ev.stp (Ev_load one_3 rfl rfl (BS.ld (q := 1) rfl)) ?_
        refine ⟨⟨B1, B2, hP, K⟩, ?_⟩
        refine AW_take 6 rfl rfl (by decide +kernel) (by decide +kernel) (by decide +kernel) (fun w ⟨B1, B2, hP, K⟩ => Ev_idx k (hP.2.1.ad hgx) sl_23 rfl rfl rfl rfl (by omega)) ⟨B1, B2, hP, K⟩ ?_
        refine AW_take 7 rfl rfl (by decide +kernel) (by decide +kernel) (by decide +kernel) (fun w ⟨B1, B2, hP, K⟩ => Ev_fieldAddr fld_88_1 rfl rfl) ⟨B1, B2, hP, K⟩ ?_
        refine AW_take 8 rfl rfl (by decide +kernel) (by decide +kernel) (by decide +kernel) (fun w ⟨B1, B2, hP, K⟩ => Ev_load one_3 rfl rfl (K.one 1 rfl)) ⟨B1, B2, hP, K⟩ ?_
        refine AW_take 9 rfl rfl (by decide +kernel) (by decide +kernel) (by decide +kernel) (fun w ⟨B1, B2, hP, K⟩ => Ev_sub rfl rfl rfl (by first | (apply IntWalk.i64_in; omega) | (apply IntWalk.u64_in; omega) | (apply IntWalk.u32_in; omega) | (apply IntWalk.u8_in; omega) | (apply IntWalk.i32_in; omega) | rfl)) ⟨B1, B2, hP, K⟩ ?_
        refine AW_take 10 rfl rfl (by decide +kernel) (by decide +kernel) (by decide +kernel) (fun w ⟨B1, B2, hP, K⟩ => Ev_fieldAddr fld_29_2 rfl rfl) ⟨B1, B2, hP, K⟩ ?_
        refine AW_one 11 (by decide +kernel) (Next.mk rfl rfl ?_)
        refine Stp_store (q := 2) (vs := [.int _ _]) BS siz_3 rfl rfl rfl rfl (Nat.le_of_ble_eq_true rfl) rfl ?_
        intro w6 hz6 E6 B6
        have Z6 := E6.size
        have T := T.transb E6 (by omega)
        have B1 := B1.keepb E6 (by intro h; first | omega | (change _ < _ at h; omega) | (change _ ≤ _ at h; omega) | (have h1 := h.1; have h2 := h.2; first | omega | (change _ ≤ _ at h1; omega) | (change _ < _ at h1; omega)))
        have B2 := B2.keepb E6 (by intro h; first | omega | (change _ < _ at h; omega) | (change _ ≤ _ at h; omega) | (have h1 := h.1; have h2 := h.2; first | omega | (change _ ≤ _ at h1; omega) | (change _ < _ at h1; omega)))
        have hP := hP.keepb E6 (fun h => by change _ < _ at h; omega)
        have K := K.keepb E6 (by omega)
        clear BS
        have BS := B6
        clear B6
        refine ⟨⟨B1, B2, hP, K⟩, ?_⟩
        refine AW_done (by decide +kernel) ?_
        refine CW_seq ?_
        refine CW_re [(2, .pointer _), (4, .pointer _), (6, .pointer _)] ⟨rfl, rfl, rfl, trivial⟩ (fun g => ?_)
        refine CW_reg rfl ?_
        refine OW_ev (Ev_fieldAddr fld_29_1 rfl rfl) rfl ?_
        refine OW_ev (Ev_load one_3 rfl rfl (BS.ld (q := 1) rfl)) rfl ?_
        refine OW_ev (Ev_add rfl rfl rfl (by first | (apply IntWalk.i64_in; omega) | (apply IntWalk.u64_in; omega) | (apply IntWalk.u32_in; omega) | (apply IntWalk.u8_in; omega) | (apply IntWalk.i32_in; omega) | rfl)) rfl ?_
        refine OW_ev (Ev_fieldAddr fld_29_1 rfl rfl) rfl ?_
        refine OW_st rfl (Stp_store (q := 1) (vs := [.int _ _]) BS siz_3 rfl rfl rfl rfl (Nat.le_of_ble_eq_true rfl) rfl ?_)
        intro w7 hz7 E7 B7
        have Z7 := E7.size
        have T := T.transb E7 (by omega)
        have B1 := B1.keepb E7 (by intro h; first | omega | (change _ < _ at h; omega) | (change _ ≤ _ at h; omega) | (have h1 := h.1; have h2 := h.2; first | omega | (change _ ≤ _ at h1; omega) | (change _ < _ at h1; omega)))
        have B2 := B2.keepb E7 (by intro h; first | omega | (change _ < _ at h; omega) | (change _ ≤ _ at h; omega) | (have h1 := h.1; have h2 := h.2; first | omega | (change _ ≤ _ at h1; omega) | (change _ < _ at h1; omega)))
        have hP := hP.keepb E7 (fun h => by change _ < _ at h; omega)
        clear BS
        have BS := B7
        clear B7
        refine OW_nil ?_
        refine CW_goto ?_
        refine ⟨rfl, k + 1, by omega, bs, ⟨rfl, rfl, rfl, trivial⟩, hk1, hge, B1, B2, ?_, hP, T, hbs⟩
        rw [hah, show n % p.r.frame - (aheadT p.ws k + x.2) = n % p.r.frame - aheadT p.ws k - x.2 by omega]
        exact BS
      ·
        refine Ev.stp (Ev_load one_3 rfl rfl (BS.ld (q := 1) rfl)) ?_
        refine ⟨⟨B1, B2, hP, K⟩, ?_⟩
        refine AW_take 6 rfl rfl (by decide +kernel) (by decide +kernel) (by decide +kernel) (fun w ⟨B1, B2, hP, K⟩ => Ev_idx k (hP.2.1.ad hgx) sl_23 rfl rfl rfl rfl (by omega)) ⟨B1, B2, hP, K⟩ ?_
        refine AW_take 7 rfl rfl (by decide +kernel) (by decide +kernel) (by decide +kernel) (fun w ⟨B1, B2, hP, K⟩ => Ev_fieldAddr fld_88_1 rfl rfl) ⟨B1, B2, hP, K⟩ ?_
        refine AW_take 8 rfl rfl (by decide +kernel) (by decide +kernel) (by decide +kernel) (fun w ⟨B1, B2, hP, K⟩ => Ev_load one_3 rfl rfl (K.one 1 rfl)) ⟨B1, B2, hP, K⟩ ?_
        refine AW_one 1 (by decide +kernel) (Next.mk rfl rfl ?_)
        refine Ev.stp (Ev_load one_3 rfl rfl (BS.ld (q := 2) rfl)) ?_
        refine ⟨⟨B1, B2, hP, K⟩, ?_⟩
        refine AW_take 9 rfl rfl (by decide +kernel) (by decide +kernel) (by decide +kernel) (fun w ⟨B1, B2, hP, K⟩ => Ev_sub rfl rfl rfl (by first | (apply IntWalk.i64_in; omega) | (apply IntWalk.u64_in; omega) | (apply IntWalk.u32_in; omega) | (apply IntWalk.u8_in; omega) | (apply IntWalk.i32_in; omega) | rfl)) ⟨B1, B2, hP, K⟩ ?_
        refine AW_take 10 rfl rfl (by decide +kernel) (by decide +kernel) (by decide +kernel) (fun w ⟨B1, B2, hP, K⟩ => Ev_fieldAddr fld_29_2 rfl rfl) ⟨B1, B2, hP, K⟩ ?_
        refine AW_one 11 (by decide +kernel) (Next.mk rfl rfl ?_)
        refine Stp_store (q := 2) (vs := [.int _ _]) BS siz_3 rfl rfl rfl rfl (Nat.le_of_ble_eq_true rfl) rfl ?_
        intro w8 hz8 E8 B8
        have Z8 := E8.size
        have T := T.transb E8 (by omega)
        have B1 := B1.keepb E8 (by intro h; first | omega | (change _ < _ at h; omega) | (change _ ≤ _ at h; omega) | (have h1 := h.1; have h2 := h.2; first | omega | (change _ ≤ _ at h1; omega) | (change _ < _ at h1; omega)))
        have B2 := B2.keepb E8 (by intro h; first | omega | (change _ < _ at h; omega) | (change _ ≤ _ at h; omega) | (have h1 := h.1; have h2 := h.2; first | omega | (change _ ≤ _ at h1; omega) | (change _ < _ at h1; omega)))
        have hP := hP.keepb E8 (fun h => by change _ < _ at h; omega)
        have K := K.keepb E8 (by omega)
        clear BS
        have BS := B8
        clear B8
        refine ⟨⟨B1, B2, hP, K⟩, ?_⟩
        refine AW_done (by decide +kernel) ?_
        refine CW_seq ?_
        refine CW_re [(2, .pointer _), (4, .pointer _), (6, .pointer _)] ⟨rfl, rfl, rfl, trivial⟩ (fun g => ?_)
        refine CW_reg rfl ?_
        refine OW_ev (Ev_fieldAddr fld_29_1 rfl rfl) rfl ?_
        refine OW_ev (Ev_load one_3 rfl rfl (BS.ld (q := 1) rfl)) rfl ?_
        refine OW_ev (Ev_add rfl rfl rfl (by first | (apply IntWalk.i64_in; omega) | (apply IntWalk.u64_in; omega) | (apply IntWalk.u32_in; omega) | (apply IntWalk.u8_in; omega) | (apply IntWalk.i32_in; omega) | rfl)) rfl ?_
        refine OW_ev (Ev_fieldAddr fld_29_1 rfl rfl) rfl ?_
        refine OW_st rfl (Stp_store (q := 1) (vs := [.int _ _]) BS siz_3 rfl rfl rfl rfl (Nat.le_of_ble_eq_true rfl) rfl ?_)
        intro w9 hz9 E9 B9
        have Z9 := E9.size
        have T := T.transb E9 (by omega)
        have B1 := B1.keepb E9 (by intro h; first | omega | (change _ < _ at h; omega) | (change _ ≤ _ at h; omega) | (have h1 := h.1; have h2 := h.2; first | omega | (change _ ≤ _ at h1; omega) | (change _ < _ at h1; omega)))
        have B2 := B2.keepb E9 (by intro h; first | omega | (change _ < _ at h; omega) | (change _ ≤ _ at h; omega) | (have h1 := h.1; have h2 := h.2; first | omega | (change _ ≤ _ at h1; omega) | (change _ < _ at h1; omega)))
        have hP := hP.keepb E9 (fun h => by change _ < _ at h; omega)
        clear BS
        have BS := B9
        clear B9
        refine OW_nil ?_
        refine CW_goto ?_
        refine ⟨rfl, k + 1, by omega, bs, ⟨rfl, rfl, rfl, trivial⟩, hk1, hge, B1, B2, ?_, hP, T, hbs⟩
        rw [hah, show n % p.r.frame - (aheadT p.ws k + x.2) = n % p.r.frame - aheadT p.ws k - x.2 by omega]
        exact BS
    · have d4 := c4
      first | (with_reducible replace d4 := of_decide_eq_false d4) | (with_reducible replace d4 := bnf d4; try (with_reducible replace d4 := of_decide_eq_true d4)) | skip
      have hlt : n % p.r.frame < aheadT p.ws (k + 1) := by omega
      have hsl := hok.slot_eq (n := n) (k := k) hlo hlt
      refine CW_skip ?_
      refine CW_seq ?_
      refine CW_reg rfl ?_
      refine OW_ev (Ev_loadAgg (l := [.int _ _, .int _ _, .int _ _]) agg_29 rfl rfl (BS.sub 0 3 (Nat.le_of_ble_eq_true rfl)) rfl) rfl ?_
      refine OW_st rfl (Stp_store (q := 0) (vs := [.int _ _, .int _ _, .int _ _]) B2 siz_29 rfl rfl rfl rfl (Nat.le_of_ble_eq_true rfl) rfl ?_)
      intro w10 hz10 E10 B10
      have Z10 := E10.size
      have T := T.transb E10 (by omega)
      have B1 := B1.keepb E10 (by intro h; first | omega | (change _ < _ at h; omega) | (change _ ≤ _ at h; omega) | (have h1 := h.1; have h2 := h.2; first | omega | (change _ ≤ _ at h1; omega) | (change _ < _ at h1; omega)))
      have BS := BS.keepb E10 (by intro h; first | omega | (change _ < _ at h; omega) | (change _ ≤ _ at h; omega) | (have h1 := h.1; have h2 := h.2; first | omega | (change _ ≤ _ at h1; omega) | (change _ < _ at h1; omega)))
      have hP := hP.keepb E10 (by intro h; first | omega | (change _ < _ at h; omega) | (change _ ≤ _ at h; omega) | (have h1 := h.1; have h2 := h.2; first | omega | (change _ ≤ _ at h1; omega) | (change _ < _ at h1; omega)))
      clear B2
      have B2 : Blk _ _ _ [_, _, _] := B10
      clear B10
      refine OW_nil ?_
      refine CW_ret ?_
      refine qj_ret ?_
      refine ⟨rfl, _, (.cell rfl (ld_agg agg_29 (B2.sub 0 3 (Nat.le_of_ble_eq_true rfl)) rfl) .nil), ?_⟩
      exact ⟨T, by rw [hsl]; rfl⟩
  ·
    intro hB
    refine CW_seq ?_
    refine CW_reg rfl ?_
    refine OW_ev (Ev_loadAgg (l := [.int _ _, .slice _ _ _, .slice _ _ _, .slice _ _ _]) agg_26 rfl rfl (B1.sub 0 4 (Nat.le_of_ble_eq_true rfl)) rfl) rfl ?_
    refine OW_st rfl (Stp_call ent_19 rfl rfl rfl (cframe_c hP (by omega)) ?_)
    rintro _ w11 ⟨E11, rfl⟩
    have Z11 := E11.size
    have hP := hP.keep0 E11
    have T := T.keep0 E11
    have B1 := B1.keep0 E11
    have B2 := B2.keep0 E11
    refine OW_ev (Ev_mvi (.inr rfl) rfl) rfl ?_
    refine OW_nil ?_
    refine CW_seq ?_
    refine CW_draw (fun W => hP.here W ∧ B1.here W ∧ B2.here W) mixed rfl (fun _ _ _ h => nomatch h.1) ?_
    have E12 : Kp0 _ _ := Kp.drew w11 nob
    have Z12 : (World.drew w11).heap.size = w11.heap.size := rfl
    generalize World.drew w11 = w12 at E12 Z12 ⊢
    have hP := hP.keep0 E12
    have T := T.keep0 E12
    have B1 := B1.keep0 E12
    have B2 := B2.keep0 E12
    refine AW_take 0 rfl rfl (by decide +kernel) (by decide +kernel) (by decide +kernel) (fun w ⟨hP, B1, B2⟩ => Ev_mvi (.inl rfl) rfl) ⟨hP, B1, B2⟩ ?_
    refine AW_take 1 rfl rfl (by decide +kernel) (by decide +kernel) (by decide +kernel) (fun w ⟨hP, B1, B2⟩ => Ev_mvi (.inl rfl) rfl) ⟨hP, B1, B2⟩ ?_
    refine AW_take 2 rfl rfl (by decide +kernel) (by decide +kernel) (by decide +kernel) (fun w ⟨hP, B1, B2⟩ => Ev_quo rfl rfl rfl (by omega) (by omega) (by apply IntWalk.i64_in; omega)) ⟨hP, B1, B2⟩ ?_
    refine AW_take 3 rfl rfl (by decide +kernel) (by decide +kernel) (by decide +kernel) (fun w ⟨hP, B1, B2⟩ => Ev_mvi (.inl rfl) rfl) ⟨hP, B1, B2⟩ ?_
    refine AW_take 4 rfl rfl (by decide +kernel) (by decide +kernel) (by decide +kernel) (fun w ⟨hP, B1, B2⟩ => Ev_mvi (.inl rfl) rfl) ⟨hP, B1, B2⟩ ?_
    refine AW_take 5 rfl rfl (by decide +kernel) (by decide +kernel) (by decide +kernel) (fun w ⟨hP, B1, B2⟩ => Ev_rem rfl rfl rfl (by omega) (by omega)) ⟨hP, B1, B2⟩ ?_
    refine AW_take 6 rfl rfl (by decide +kernel) (by decide +kernel) (by decide +kernel) (fun w ⟨hP, B1, B2⟩ => Ev_build (l := [.int _ _, .int _ _, .int _ _]) plc_29 zero_29 rfl rfl rfl) ⟨hP, B1, B2⟩ ?_
    refine AW_one 7 (by decide +kernel) (Next.mk rfl rfl ?_)
    refine Stp_alloc zero_29 rfl ?_
    intro b13 w13 hb13 hz13 E13 B13
    have L13 : _ ≤ b13 := Nat.le_trans T.size (Nat.le_of_eq hb13.symm)
    have hP := hP.keep0 E13
    have T := T.keep0 E13
    have B1 := B1.keep0 E13
    have B2 := B2.keep0 E13
    obtain ⟨bs, rfl⟩ : ∃ b, b = b13 := ⟨_, rfl⟩
    have BS := B13
    refine ⟨⟨hP, B1, B2⟩, ?_⟩
    refine AW_one 8 (by decide +kernel) (Next.mk rfl rfl ?_)
    refine Stp_store (q := 0) (vs := [.int _ _, .int _ _, .int _ _]) BS siz_29 rfl rfl rfl rfl (Nat.le_of_ble_eq_true rfl) rfl ?_
    intro w14 hz14 E14 B14
    have Z14 := E14.size
    have hP := hP.keepb E14 (by intro h; first | omega | (change _ < _ at h; omega) | (change _ ≤ _ at h; omega) | (have h1 := h.1; have h2 := h.2; first | omega | (change _ ≤ _ at h1; omega) | (change _ < _ at h1; omega)))
    have T := T.transb E14 (by omega)
    have B1 := B1.keepb E14 (by intro h; first | omega | (change _ < _ at h; omega) | (change _ ≤ _ at h; omega) | (have h1 := h.1; have h2 := h.2; first | omega | (change _ ≤ _ at h1; omega) | (change _ < _ at h1; omega)))
    have B2 := B2.keepb E14 (by intro h; first | omega | (change _ < _ at h; omega) | (change _ ≤ _ at h; omega) | (have h1 := h.1; have h2 := h.2; first | omega | (change _ ≤ _ at h1; omega) | (change _ < _ at h1; omega)))
    clear BS
    have BS := B14
    clear B14
    have BS : Blk w14 bs 29 [.int .i64 (n / p.r.frame), .int .i64 0, .int .i64 (n % p.r.frame)] := BS
    refine ⟨⟨hP, B1, B2⟩, ?_⟩
    refine AW_done (by decide +kernel) ?_
    refine CW_seq ?_
    refine CW_label ?_
    refine hB (0) _ _ ?_
    have h0 : aheadT p.ws 0 = 0 := by unfold aheadT; simp [ticksOf]
    refine ⟨bs, ⟨rfl, rfl, rfl, trivial⟩, by omega, by rw [h0]; exact hm0, B1, B2, ?_, hP, T, by omega⟩
    rw [h0, Int.sub_zero]
    exact BS

end Go.Proofs.Ytcfadhjiijngmaa