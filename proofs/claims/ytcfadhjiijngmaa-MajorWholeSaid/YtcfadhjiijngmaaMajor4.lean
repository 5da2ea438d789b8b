/- Contracts of package major: Next, Begins; blackboxref18.Same. -/
import Derived.Test.YtcfadhjiijngmaaTypes
import Derived.Test.YtcfadhjiijngmaaMajorData
import Derived.Test.YtcfadhjiijngmaaMajor3
namespace Go.Proofs.Ytcfadhjiijngmaa
open Go Go.RowKit Bx Go.Proofs

theorem at_slot {p : Pln} {n : Int} (h : p.Ok) (hn : 0 ≤ n ∧ n ≤ 1099511627776) : (p.slot n).frame = n / p.frame ∧ 0 ≤ n / p.frame ∧ n / p.frame ≤ n ∧ 0 ≤ (p.slot n).off ∧ (p.slot n).off ≤ 32000 ∧ (p.slot n).window = (p.win n : Int) := by
  obtain ⟨h1, h2, h3⟩ := h.win_spec n
  have hf := h.frame_bd
  have hl := Int.emod_lt_of_pos n (show 0 < p.frame by omega)
  have ha := aheadT_bd (ws := p.ws) (p.win n)
  refine ⟨rfl, Int.ediv_nonneg hn.1 (by omega), Int.ediv_le_self _ hn.1, ?_, ?_, rfl⟩
  · show 0 ≤ n % p.frame - aheadT p.ws (p.win n); omega
  · show n % p.frame - aheadT p.ws (p.win n) ≤ 32000; omega

set_option maxRecDepth 10000 in
set_option maxHeartbeats 2000000 in
theorem next_c {F : Nat → Prop} {w : World} {p : PlnM} {n : Int} (hP : PlnS F w p) (hsm : p.ps.length ≤ 1000 ∧ p.ws.length ≤ 1000 ∧ p.cs.length ≤ 1000) : Calls Try.prog 40 #[.agg p.cl.toArray, .int .i64 n] w (Ret fun v w' => Kp0 w w' ∧ v = .tuple #[.int .i64 (p.r.next n).1, .int .i64 (p.r.next n).2]) := by
  have hP := hP.old
  obtain ⟨NW, hNW⟩ : ∃ x, x = w.heap.size := ⟨_, rfl⟩
  rw [← hNW] at hP
  have T : Kp0 w w := Kp.refl _ _
  refine calls_start Try.func40 rfl (n := 29) rfl rfl rfl ?_
  refine CW_seq ?_
  refine CW_reg rfl ?_
  refine OW_st rfl (Stp_box (l := [.int _ _, .slice _ _ _, .slice _ _ _, .slice _ _ _]) rfl rfl rfl ?_)
  intro b1 w1 hb1 hz1 E1 B1
  have L1 : _ ≤ b1 := Nat.le_trans T.size (Nat.le_of_eq hb1.symm)
  have hP := hP.keep0 E1
  have T := T.keep0 E1
  replace B1 : Blk w1 b1 26 (p.cl) := B1
  refine OW_ev (Ev_c (.inr rfl)) rfl ?_
  refine OW_ev (Ev_c (.inr rfl)) rfl ?_
  refine OW_nil ?_
  refine CW_seq ?_
  refine CW_reg rfl ?_
  refine OW_ev (Ev_loadAgg (l := [.int _ _, .slice _ _ _, .slice _ _ _, .slice _ _ _]) agg_26 rfl rfl (B1.sub 0 4 (Nat.le_of_ble_eq_true rfl)) rfl) rfl ?_
  refine OW_ev (Ev_mvi (.inl rfl) rfl) rfl ?_
  refine OW_st rfl (Stp_call ent_11 rfl rfl rfl (at_c hP hsm) ?_)
  rintro _ w2 ⟨E2, rfl⟩
  have Z2 := E2.size
  have hP := hP.keep0 E2
  have T := T.keep0 E2
  have B1 := B1.keep0 E2
  refine OW_ev (Ev_mvt (.inl rfl) rfl) rfl ?_
  refine OW_ev (Ev_extract (vs := _) rfl rfl rfl) rfl ?_
  refine OW_ev (Ev_extract (vs := _) rfl rfl rfl) rfl ?_
  refine OW_st rfl (Stp_alloc zero_29 rfl ?_)
  intro b3 w3 hb3 hz3 E3 B3
  have L3 : _ ≤ b3 := Nat.le_trans T.size (Nat.le_of_eq hb3.symm)
  have hP := hP.keep0 E3
  have T := T.keep0 E3
  have B1 := B1.keep0 E3
  obtain ⟨bs, rfl⟩ : ∃ b, b = b3 := ⟨_, rfl⟩
  have BS := B3
  refine OW_st rfl (Stp_store (q := 0) BS siz_29 rfl rfl rfl rfl (Nat.le_of_ble_eq_true rfl) rfl ?_)
  intro w4 hz4 E4 B4
  have Z4 := E4.size
  have hP := hP.keepb E4 (fun h => by change _ < _ at h; omega)
  have T := T.transb E4 (by omega)
  have B1 := B1.keepb E4 (by intro h; first | omega | (change _ < _ at h; omega) | (change _ ≤ _ at h; omega) | (have h1 := h.1; have h2 := h.2; first | omega | (change _ ≤ _ at h1; omega) | (change _ < _ at h1; omega)))
  clear BS
  have BS := B4
  clear B4
  have BS : Blk w4 bs 29 (p.r.at_ n).1.cells := BS
  refine OW_ev (Ev_mvi (.inr rfl) rfl) rfl ?_
  refine OW_nil ?_
  refine CW_seq ?_
  refine CW_seq ?_
  refine CW_reg rfl ?_
  refine OW_ev (Ev_mvi (.inl rfl) rfl) rfl ?_
  refine OW_ev (Ev_neq rfl rfl rfl) rfl ?_
  refine OW_nil ?_
  refine CW_cond rfl (fun c5 => ?_) (fun c5 => ?_)
  · have d5 := c5
    first | (with_reducible replace d5 := of_decide_eq_true d5) | (with_reducible replace d5 := bnt d5; try (with_reducible replace d5 := of_decide_eq_false d5)) | skip
    have he := d5
    have how : p.r.next n = (0, (p.r.at_ n).2) := if_pos he
    refine CW_seq ?_
    refine CW_reg rfl ?_
    refine OW_ev (Ev_mvi (.inl rfl) rfl) rfl ?_
    refine OW_ev (Ev_c (.inr rfl)) rfl ?_
    refine OW_ev (Ev_mvi (.inr rfl) rfl) rfl ?_
    refine OW_nil ?_
    refine CW_ret ?_
    refine ⟨rfl, _, (.tmp rfl (.tmp rfl .nil)), ?_⟩
    exact ⟨T, by rw [how]; first | rfl | (show Value.tuple #[.int .i64 (n - (p.r.slot n).off + x.2), .int .i64 0] = Value.tuple #[.int .i64 (n - (p.r.slot n).off + p.r.wint (p.r.win n : Int)), .int .i64 0]; rw [hwp])⟩
  · have d5 := c5
    first | (with_reducible replace d5 := of_decide_eq_false d5) | (with_reducible replace d5 := bnf d5; try (with_reducible replace d5 := of_decide_eq_true d5)) | skip
    have he : (p.r.at_ n).2 = 0 := by omega
    have how : p.r.next n = (n - (p.r.at_ n).1.off + p.r.wint (p.r.at_ n).1.window, 0) := if_neg (by simp [he])
    obtain ⟨hok, hn0, hat⟩ := at_ok he
    have hwin := (hok.win_spec n).1
    simp only [hat] at BS how
    obtain ⟨x, hxj, hgx, hmem⟩ := getW (ws := p.ws) (j := p.r.win n) hwin
    have K := hP.2.1.at_ hgx
    have hwp := Pln.wint_eq (p := p.r) (k := p.r.win n) hxj
    have htx := hok.ticks x hmem
    have hsl := at_slot hok hn0
    refine CW_skip ?_
    refine CW_seq ?_
    refine CW_draw (fun W => hP.here W ∧ B1.here W ∧ BS.here W ∧ K.here W) mixed rfl (fun _ _ _ h => nomatch h.1) ?_
    have E6 : Kp0 _ _ := Kp.drew w4 nob
    have Z6 : (World.drew w4).heap.size = w4.heap.size := rfl
    generalize World.drew w4 = w6 at E6 Z6 ⊢
    have hP := hP.keep0 E6
    have T := T.keep0 E6
    have B1 := B1.keep0 E6
    have BS := BS.keep0 E6
    have K := K.keep0 E6
    refine AW_take 0 rfl rfl (by decide +kernel) (by decide +kernel) (by decide +kernel) (fun w ⟨hP, B1, BS, K⟩ => Ev_mvi (.inl rfl) rfl) ⟨hP, B1, BS, K⟩ ?_
    refine AW_take 1 rfl rfl (by decide +kernel) (by decide +kernel) (by decide +kernel) (fun w ⟨hP, B1, BS, K⟩ => Ev_fieldAddr fld_29_2 rfl rfl) ⟨hP, B1, BS, K⟩ ?_
    refine AW_take 2 rfl rfl (by decide +kernel) (by decide +kernel) (by decide +kernel) (fun w ⟨hP, B1, BS, K⟩ => Ev_load one_3 rfl rfl (BS.ld (q := 2) rfl)) ⟨hP, B1, BS, K⟩ ?_
    refine AW_take 3 rfl rfl (by decide +kernel) (by decide +kernel) (by decide +kernel) (fun w ⟨hP, B1, BS, K⟩ => Ev_sub rfl rfl rfl (by first | (apply IntWalk.i64_in; omega) | (apply IntWalk.u64_in; omega) | (apply IntWalk.u32_in; omega) | (apply IntWalk.u8_in; omega) | (apply IntWalk.i32_in; omega) | rfl)) ⟨hP, B1, BS, K⟩ ?_
    refine AW_take 4 rfl rfl (by decide +kernel) (by decide +kernel) (by decide +kernel) (fun w ⟨hP, B1, BS, K⟩ => Ev_fieldAddr fld_26_2 rfl rfl) ⟨hP, B1, BS, K⟩ ?_
    refine AW_take 5 rfl rfl (by decide +kernel) (by decide +kernel) (by decide +kernel) (fun w ⟨hP, B1, BS, K⟩ => Ev_load one_23 rfl rfl (B1.ld (q := 2) rfl)) ⟨hP, B1, BS, K⟩ ?_
    refine AW_take 6 rfl rfl (by decide +kernel) (by decide +kernel) (by decide +kernel) (fun w ⟨hP, B1, BS, K⟩ => Ev_fieldAddr fld_29_1 rfl rfl) ⟨hP, B1, BS, K⟩ ?_
    refine AW_take 7 rfl rfl (by decide +kernel) (by decide +kernel) (by decide +kernel) (fun w ⟨hP, B1, BS, K⟩ => Ev_load one_3 rfl rfl (BS.ld (q := 1) rfl)) ⟨hP, B1, BS, K⟩ ?_
    refine AW_take 8 rfl rfl (by decide +kernel) (by decide +kernel) (by decide +kernel) (fun w ⟨hP, B1, BS, K⟩ => Ev_idx (p.r.win n) (hP.2.1.ad hgx) sl_23 rfl rfl rfl rfl hwin) ⟨hP, B1, BS, K⟩ ?_
    refine AW_take 9 rfl rfl (by decide +kernel) (by decide +kernel) (by decide +kernel) (fun w ⟨hP, B1, BS, K⟩ => Ev_fieldAddr fld_88_1 rfl rfl) ⟨hP, B1, BS, K⟩ ?_
    refine AW_take 10 rfl rfl (by decide +kernel) (by decide +kernel) (by decide +kernel) (fun w ⟨hP, B1, BS, K⟩ => Ev_load one_3 rfl rfl (K.one 1 rfl)) ⟨hP, B1, BS, K⟩ ?_
    refine AW_take 11 rfl rfl (by decide +kernel) (by decide +kernel) (by decide +kernel) (fun w ⟨hP, B1, BS, K⟩ => Ev_add rfl rfl rfl (by first | (apply IntWalk.i64_in; omega) | (apply IntWalk.u64_in; omega) | (apply IntWalk.u32_in; omega) | (apply IntWalk.u8_in; omega) | (apply IntWalk.i32_in; omega) | rfl)) ⟨hP, B1, BS, K⟩ ?_
    refine AW_take 12 rfl rfl (by decide +kernel) (by decide +kernel) (by decide +kernel) (fun w ⟨hP, B1, BS, K⟩ => Ev_mvi (.inr rfl) rfl) ⟨hP, B1, BS, K⟩ ?_
    refine AW_take 13 rfl rfl (by decide +kernel) (by decide +kernel) (by decide +kernel) (fun w ⟨hP, B1, BS, K⟩ => Ev_c (.inr rfl)) ⟨hP, B1, BS, K⟩ ?_
    refine AW_done (by decide +kernel) ?_
    refine CW_ret ?_
    refine ⟨rfl, _, (.tmp rfl (.tmp rfl .nil)), ?_⟩
    exact ⟨T, by rw [how]; first | rfl | (show Value.tuple #[.int .i64 (n - (p.r.slot n).off + x.2), .int .i64 0] = Value.tuple #[.int .i64 (n - (p.r.slot n).off + p.r.wint (p.r.win n : Int)), .int .i64 0]; rw [hwp])⟩

set_option maxRecDepth 10000 in
set_option maxHeartbeats 2000000 in
theorem sameS_c {F G : Nat → Prop} {w : World} {ao bo : Option Addr} {c d n m : Nat} {xs ys : List Slt} (hn : xs.length = n) (hm : ys.length = m) (hx : Sl F w 3 ao (xs.map Slt.cells)) (hy : Sl G w 3 bo (ys.map Slt.cells)) (hnl : n ≤ 1000000) : Calls Try.prog 41 #[.slice ao n c, .slice bo m d] w (Ret fun v w' => Kp0 w w' ∧ v = .bool (decide (xs = ys))) := by
  have T : Kp0 w w := Kp.refl _ _
  refine calls_start Try.func41 rfl (n := 26) rfl rfl rfl ?_
  refine CW_seq ?_
  refine CW_reg rfl ?_
  refine OW_ev (Ev_c (.inr rfl)) rfl ?_
  refine OW_nil ?_
  refine CW_seq ?_
  refine CW_seq ?_
  refine CW_reg rfl ?_
  refine OW_ev (Ev_mvs (.inl rfl) rfl) rfl ?_
  refine OW_ev (Ev_len und_40 rfl rfl) rfl ?_
  refine OW_ev (Ev_mvs (.inl rfl) rfl) rfl ?_
  refine OW_ev (Ev_len und_40 rfl rfl) rfl ?_
  refine OW_ev (Ev_neq rfl rfl rfl) rfl ?_
  refine OW_nil ?_
  refine CW_cond rfl (fun c1 => ?_) (fun c1 => ?_)
  · have d1 := c1
    first | (with_reducible replace d1 := of_decide_eq_true d1) | (with_reducible replace d1 := bnt d1; try (with_reducible replace d1 := of_decide_eq_false d1)) | skip
    have hne : ¬ xs = ys := fun e => by rw [e] at hn; omega
    refine CW_seq ?_
    refine CW_reg rfl ?_
    refine OW_ev (Ev_c (.inr rfl)) rfl ?_
    refine OW_nil ?_
    refine CW_ret ?_
    refine ⟨rfl, _, (.tmp rfl .nil), ?_⟩
    exact ⟨T, vb rfl (decide_eq_false hne).symm⟩
  · have d1 := c1
    first | (with_reducible replace d1 := of_decide_eq_false d1) | (with_reducible replace d1 := bnf d1; try (with_reducible replace d1 := of_decide_eq_true d1)) | skip
    have hnm : n = m := by omega
    refine CW_skip ?_
    refine CW_seq ?_
    refine CW_seq ?_
    refine CW_reg rfl ?_
    refine OW_ev (Ev_c (.inr rfl)) rfl ?_
    refine OW_nil ?_
    refine CW_block ?_
    refine CW_loop (α := Nat) (fun (k : Nat) f wr => AllEq f [(0, .slice ao n c), (1, .slice bo m d), (5, .int .i64 (k : Int))] ∧ (k ≤ n) ∧ (∀ i, i < k → xs[i]? = ys[i]?) ∧ (Sl F wr 3 ao (xs.map Slt.cells)) ∧ (Sl G wr 3 bo (ys.map Slt.cells)) ∧ (Kp0 w wr)) (fun k => n - k) 0 ?_ ?_
    ·
      exact ⟨⟨rfl, rfl, rfl, trivial⟩, Nat.zero_le _, fun i h => absurd h (by omega), hx, hy, T⟩
    ·
      rintro k f wr ⟨hf, hk, heq, hx, hy, T⟩
      obtain ⟨g, rfl⟩ : ∃ g, f = upl g [(0, .slice ao n c), (1, .slice bo m d), (5, .int .i64 (k : Int))] := ⟨f, upl_self hf⟩
      clear hf
      refine CW_seq ?_
      refine CW_seq ?_
      refine CW_reg rfl ?_
      refine OW_ev (Ev_mvi (.inl rfl) rfl) rfl ?_
      refine OW_ev (Ev_mvs (.inl rfl) rfl) rfl ?_
      refine OW_ev (Ev_len und_40 rfl rfl) rfl ?_
      refine OW_ev (Ev_lss rfl rfl rfl) rfl ?_
      refine OW_nil ?_
      refine CW_cond rfl (fun c2 => ?_) (fun c2 => ?_)
      · have d2 := c2
        first | (with_reducible replace d2 := of_decide_eq_true d2) | (with_reducible replace d2 := bnt d2; try (with_reducible replace d2 := of_decide_eq_false d2)) | skip
        have hk2 : k < n := by omega
        obtain ⟨x, hxx⟩ : ∃ x, xs[k]? = some x := ⟨xs[k], List.getElem?_eq_getElem (by omega)⟩
        have hgx : (xs.map Slt.cells)[k]? = some (Slt.cells x) := by rw [List.getElem?_map, hxx]; rfl
        obtain ⟨y, hyx⟩ : ∃ x, ys[k]? = some x := ⟨ys[k], List.getElem?_eq_getElem (by omega)⟩
        have hgy : (ys.map Slt.cells)[k]? = some (Slt.cells y) := by rw [List.getElem?_map, hyx]; rfl
        have K1 := hx.at_ hgx
        have K2 := hy.at_ hgy
        refine CW_skip ?_
        refine CW_seq ?_
        refine CW_block ?_
        refine CW_seq ?_
        refine CW_draw (fun W => hx.here W ∧ hy.here W ∧ K1.here W ∧ K2.here W) mixed rfl (fun _ _ _ h => nomatch h.1) ?_
        have E3 : Kp0 _ _ := Kp.drew wr nob
        have Z3 : (World.drew wr).heap.size = wr.heap.size := rfl
        generalize World.drew wr = w3 at E3 Z3 ⊢
        have hx := hx.keep0 E3
        have hy := hy.keep0 E3
        have T := T.keep0 E3
        have K1 := K1.keep0 E3
        have K2 := K2.keep0 E3
        refine AW_take 0 rfl rfl (by decide +kernel) (by decide +kernel) (by decide +kernel) (fun w ⟨hx, hy, K1, K2⟩ => Ev_mvs (.inl rfl) rfl) ⟨hx, hy, K1, K2⟩ ?_
        refine AW_take 1 rfl rfl (by decide +kernel) (by decide +kernel) (by decide +kernel) (fun w ⟨hx, hy, K1, K2⟩ => Ev_mvi (.inl rfl) rfl) ⟨hx, hy, K1, K2⟩ ?_
        refine AW_take 2 rfl rfl (by decide +kernel) (by decide +kernel) (by decide +kernel) (fun w ⟨hx, hy, K1, K2⟩ => Ev_idx k (hx.ad hgx) sl_40 rfl rfl rfl rfl (by omega)) ⟨hx, hy, K1, K2⟩ ?_
        refine AW_take 3 rfl rfl (by decide +kernel) (by decide +kernel) (by decide +kernel) (fun w ⟨hx, hy, K1, K2⟩ => Ev_loadAgg (l := [.int _ _, .int _ _, .int _ _]) agg_29 rfl rfl (K1.sub 0 rfl) rfl) ⟨hx, hy, K1, K2⟩ ?_
        refine AW_take 4 rfl rfl (by decide +kernel) (by decide +kernel) (by decide +kernel) (fun w ⟨hx, hy, K1, K2⟩ => Ev_mvs (.inl rfl) rfl) ⟨hx, hy, K1, K2⟩ ?_
        refine AW_take 5 rfl rfl (by decide +kernel) (by decide +kernel) (by decide +kernel) (fun w ⟨hx, hy, K1, K2⟩ => Ev_mvi (.inl rfl) rfl) ⟨hx, hy, K1, K2⟩ ?_
        refine AW_take 6 rfl rfl (by decide +kernel) (by decide +kernel) (by decide +kernel) (fun w ⟨hx, hy, K1, K2⟩ => Ev_idx k (hy.ad hgy) sl_40 rfl rfl rfl rfl (by omega)) ⟨hx, hy, K1, K2⟩ ?_
        refine AW_take 7 rfl rfl (by decide +kernel) (by decide +kernel) (by decide +kernel) (fun w ⟨hx, hy, K1, K2⟩ => Ev_loadAgg (l := [.int _ _, .int _ _, .int _ _]) agg_29 rfl rfl (K2.sub 0 rfl) rfl) ⟨hx, hy, K1, K2⟩ ?_
        refine AW_take 8 rfl rfl (by decide +kernel) (by decide +kernel) (by decide +kernel) (fun w ⟨hx, hy, K1, K2⟩ => Ev_neS flat_29 rfl rfl rfl rfl rfl (Slt.neL x y)) ⟨hx, hy, K1, K2⟩ ?_
        refine AW_done (by decide +kernel) ?_
        refine CW_cond rfl (fun c4 => ?_) (fun c4 => ?_)
        · have d4 := c4
          first | (with_reducible replace d4 := of_decide_eq_true d4) | (with_reducible replace d4 := bnt d4; try (with_reducible replace d4 := of_decide_eq_false d4)) | skip
          have hne : ¬ xs = ys := fun e => by rw [e] at hxx; rw [hxx] at hyx; cases hyx; exact d4 rfl
          refine CW_seq ?_
          refine CW_reg rfl ?_
          refine OW_ev (Ev_c (.inr rfl)) rfl ?_
          refine OW_nil ?_
          refine CW_ret ?_
          refine blk_ret ?_
          refine blk_ret ?_
          refine ⟨rfl, _, (.tmp rfl .nil), ?_⟩
          exact ⟨T, vb rfl (decide_eq_false hne).symm⟩
        · have d4 := c4
          first | (with_reducible replace d4 := of_decide_eq_false d4) | (with_reducible replace d4 := bnf d4; try (with_reducible replace d4 := of_decide_eq_true d4)) | skip
          have hxy : x = y := Classical.byContradiction d4
          refine CW_skip ?_
          refine CW_reg rfl ?_
          refine OW_ev (Ev_mvi (.inl rfl) rfl) rfl ?_
          refine OW_ev (Ev_add rfl rfl rfl (by first | (apply IntWalk.i64_in; omega) | (apply IntWalk.u64_in; omega) | (apply IntWalk.u32_in; omega) | (apply IntWalk.u8_in; omega) | (apply IntWalk.i32_in; omega) | rfl)) rfl ?_
          refine OW_ev (Ev_mvi (.inr rfl) rfl) rfl ?_
          refine OW_nil ?_
          exact ⟨k + 1, by omega, ⟨rfl, rfl, congrArg (Value.int .i64) (by omega), trivial⟩, by omega, fun i hi => by by_cases e : i = k; (subst e; rw [hxx, hyx, hxy]); exact heq i (by omega), hx, hy, T⟩
      · have d2 := c2
        first | (with_reducible replace d2 := of_decide_eq_false d2) | (with_reducible replace d2 := bnf d2; try (with_reducible replace d2 := of_decide_eq_true d2)) | skip
        have hkn : k = n := by omega
        refine CW_exit ?_
        refine blk_same ?_
        refine CW_seq ?_
        refine CW_reg rfl ?_
        refine OW_ev (Ev_c (.inr rfl)) rfl ?_
        refine OW_nil ?_
        refine CW_ret ?_
        refine ⟨rfl, _, (.tmp rfl .nil), ?_⟩
        exact ⟨T, vb rfl (decide_eq_true (List.ext_getElem? fun i => by by_cases h : i < n; exact heq i (by omega); rw [List.getElem?_eq_none (by omega), List.getElem?_eq_none (by omega)])).symm⟩

end Go.Proofs.Ytcfadhjiijngmaa