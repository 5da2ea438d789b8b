/- Contracts of the comparisons of layers 26 and 29, and of Big. -/
import Derived.Test.YtiedmigdgelhkaaTypes
import Derived.Test.YtiedmigdgelhkaaMerge4
namespace Go.Proofs.Ytiedmigdgelhkaa
open Go Go.RowKit Bx Go.Proofs

set_option maxRecDepth 10000 in
set_option maxHeartbeats 2000000 in
theorem entries_c {F G : Nat → Prop} {w : World} {ao bo : Option Addr} {c d n m : Nat} {xs ys : List Ent} (hn : xs.length = n) (hm : ys.length = m) (hx : Sl F w 7 ao (xs.map Ent.cells)) (hy : Sl G w 7 bo (ys.map Ent.cells)) (hnl : n ≤ 1000000) : Calls Try.prog 18 #[.slice ao n c, .slice bo m d] w (Ret fun v w' => Kp0 w w' ∧ v = .bool (decide (xs = ys))) := by
  have T : Kp0 w w := Kp.refl _ _
  refine calls_start Try.func18 rfl (n := 26) rfl rfl rfl ?_
  refine CW_seq ?_
  refine CW_reg rfl ?_
  refine OW_ev (Ev_c (.inr rfl)) rfl ?_
  refine OW_nil ?_
  refine CW_seq ?_
  refine CW_seq ?_
  refine CW_reg rfl ?_
  refine OW_ev (Ev_mvs (.inl rfl) rfl) rfl ?_
  refine OW_ev (Ev_len und_26 rfl rfl) rfl ?_
  refine OW_ev (Ev_mvs (.inl rfl) rfl) rfl ?_
  refine OW_ev (Ev_len und_26 rfl rfl) rfl ?_
  refine OW_ev (Ev_neq rfl rfl rfl) rfl ?_
  refine OW_nil ?_
  refine CW_cond rfl (fun c1 => ?_) (fun c1 => ?_)
  · have d1 := c1
    first | (with_reducible replace d1 := of_decide_eq_true d1) | (with_reducible replace d1 := bnt d1; try (with_reducible replace d1 := of_decide_eq_false d1)) | skip
    have hne : ¬ xs = ys := fun e => by rw [e] at hn; omega
    refine CW_seq ?_
    refine CW_reg rfl ?_
    refine OW_ev (Ev_c (.inr rfl)) rfl ?_
    refine OW_nil ?_
    refine CW_ret ?_
    refine ⟨rfl, _, (.tmp rfl .nil), ?_⟩
    exact ⟨T, vb rfl (decide_eq_false hne).symm⟩
  · have d1 := c1
    first | (with_reducible replace d1 := of_decide_eq_false d1) | (with_reducible replace d1 := bnf d1; try (with_reducible replace d1 := of_decide_eq_true d1)) | skip
    have hnm : n = m := by omega
    refine CW_skip ?_
    refine CW_seq ?_
    refine CW_seq ?_
    refine CW_reg rfl ?_
    refine OW_ev (Ev_c (.inr rfl)) rfl ?_
    refine OW_nil ?_
    refine CW_block ?_
    refine CW_loop (α := Nat) (fun (k : Nat) f wr => k ≤ n ∧ f 0 = .slice ao n c ∧ f 1 = .slice bo m d ∧ f 5 = .int .i64 (k : Int) ∧ (∀ i, i < k → xs[i]? = ys[i]?) ∧ Kp0 w wr) (fun k => n - k) 0 ?_ ?_
    ·
      exact ⟨Nat.zero_le _, rfl, rfl, rfl, fun i h => absurd h (by omega), T⟩
    ·
      rintro k f wr ⟨hk, h0, h1, h5, heq, T⟩
      obtain ⟨g, rfl⟩ := re3 h0 h1 h5
      clear h0 h1 h5
      have hx := hx.keep0 T
      have hy := hy.keep0 T
      refine CW_seq ?_
      refine CW_seq ?_
      refine CW_reg rfl ?_
      refine OW_ev (Ev_mvi (.inl rfl) rfl) rfl ?_
      refine OW_ev (Ev_mvs (.inl rfl) rfl) rfl ?_
      refine OW_ev (Ev_len und_26 rfl rfl) rfl ?_
      refine OW_ev (Ev_lss rfl rfl rfl) rfl ?_
      refine OW_nil ?_
      refine CW_cond rfl (fun c2 => ?_) (fun c2 => ?_)
      · have d2 := c2
        first | (with_reducible replace d2 := of_decide_eq_true d2) | (with_reducible replace d2 := bnt d2; try (with_reducible replace d2 := of_decide_eq_false d2)) | skip
        have hk2 : k < n := by omega
        obtain ⟨x, hxx⟩ : ∃ x, xs[k]? = some x := ⟨xs[k], List.getElem?_eq_getElem (by omega)⟩
        have hgx : (xs.map Ent.cells)[k]? = some (Ent.cells x) := by rw [List.getElem?_map, hxx]; rfl
        obtain ⟨y, hyy⟩ : ∃ x, ys[k]? = some x := ⟨ys[k], List.getElem?_eq_getElem (by omega)⟩
        have hgy : (ys.map Ent.cells)[k]? = some (Ent.cells y) := by rw [List.getElem?_map, hyy]; rfl
        have K1 := hx.at_ hgx
        have K2 := hy.at_ hgy
        refine CW_skip ?_
        refine CW_seq ?_
        refine CW_block ?_
        refine CW_seq ?_
        refine CW_draw (fun W => hx.here W ∧ hy.here W ∧ K1.here W ∧ K2.here W) mixed rfl (fun _ _ _ h => nomatch h.1) ?_
        have E3 : Kp0 _ _ := Kp.drew wr nob
        have Z3 : (World.drew wr).heap.size = wr.heap.size := rfl
        generalize World.drew wr = w3 at E3 Z3 ⊢
        have hx := hx.keep0 E3
        have hy := hy.keep0 E3
        have T := T.keep0 E3
        have K1 := K1.keep0 E3
        have K2 := K2.keep0 E3
        refine AW_take 0 rfl rfl (by decide +kernel) (by decide +kernel) (by decide +kernel) (fun w ⟨hx, hy, K1, K2⟩ => Ev_mvs (.inl rfl) rfl) ⟨hx, hy, K1, K2⟩ ?_
        refine AW_take 1 rfl rfl (by decide +kernel) (by decide +kernel) (by decide +kernel) (fun w ⟨hx, hy, K1, K2⟩ => Ev_mvi (.inl rfl) rfl) ⟨hx, hy, K1, K2⟩ ?_
        refine AW_take 2 rfl rfl (by decide +kernel) (by decide +kernel) (by decide +kernel) (fun w ⟨hx, hy, K1, K2⟩ => Ev_idx k (hx.ad hgx) sl_26 rfl rfl rfl rfl (by omega)) ⟨hx, hy, K1, K2⟩ ?_
        refine AW_take 3 rfl rfl (by decide +kernel) (by decide +kernel) (by decide +kernel) (fun w ⟨hx, hy, K1, K2⟩ => Ev_loadAgg (l := [.int _ _, .int _ _, .int _ _, .int _ _, .int _ _, .int _ _, .int _ _]) agg_31 rfl rfl (K1.sub 0 rfl) rfl) ⟨hx, hy, K1, K2⟩ ?_
        refine AW_take 4 rfl rfl (by decide +kernel) (by decide +kernel) (by decide +kernel) (fun w ⟨hx, hy, K1, K2⟩ => Ev_mvs (.inl rfl) rfl) ⟨hx, hy, K1, K2⟩ ?_
        refine AW_take 5 rfl rfl (by decide +kernel) (by decide +kernel) (by decide +kernel) (fun w ⟨hx, hy, K1, K2⟩ => Ev_mvi (.inl rfl) rfl) ⟨hx, hy, K1, K2⟩ ?_
        refine AW_take 6 rfl rfl (by decide +kernel) (by decide +kernel) (by decide +kernel) (fun w ⟨hx, hy, K1, K2⟩ => Ev_idx k (hy.ad hgy) sl_26 rfl rfl rfl rfl (by omega)) ⟨hx, hy, K1, K2⟩ ?_
        refine AW_take 7 rfl rfl (by decide +kernel) (by decide +kernel) (by decide +kernel) (fun w ⟨hx, hy, K1, K2⟩ => Ev_loadAgg (l := [.int _ _, .int _ _, .int _ _, .int _ _, .int _ _, .int _ _, .int _ _]) agg_31 rfl rfl (K2.sub 0 rfl) rfl) ⟨hx, hy, K1, K2⟩ ?_
        refine AW_take 8 rfl rfl (by decide +kernel) (by decide +kernel) (by decide +kernel) (fun w ⟨hx, hy, K1, K2⟩ => Ev_neS flat_31 rfl rfl rfl rfl rfl (Ent.neL x y)) ⟨hx, hy, K1, K2⟩ ?_
        refine AW_done (by decide +kernel) ?_
        refine CW_cond rfl (fun c4 => ?_) (fun c4 => ?_)
        · have d4 := c4
          first | (with_reducible replace d4 := of_decide_eq_true d4) | (with_reducible replace d4 := bnt d4; try (with_reducible replace d4 := of_decide_eq_false d4)) | skip
          have hne : ¬ xs = ys := fun e => by rw [e] at hxx; rw [hxx] at hyy; cases hyy; exact d4 rfl
          refine CW_seq ?_
          refine CW_reg rfl ?_
          refine OW_ev (Ev_c (.inr rfl)) rfl ?_
          refine OW_nil ?_
          refine CW_ret ?_
          refine blk_ret ?_
          refine blk_ret ?_
          refine ⟨rfl, _, (.tmp rfl .nil), ?_⟩
          exact ⟨T, vb rfl (decide_eq_false hne).symm⟩
        · have d4 := c4
          first | (with_reducible replace d4 := of_decide_eq_false d4) | (with_reducible replace d4 := bnf d4; try (with_reducible replace d4 := of_decide_eq_true d4)) | skip
          have hxy : x = y := Classical.byContradiction d4
          refine CW_skip ?_
          refine CW_reg rfl ?_
          refine OW_ev (Ev_mvi (.inl rfl) rfl) rfl ?_
          refine OW_ev (Ev_add rfl rfl rfl (by first | (apply IntWalk.i64_in; omega) | (apply IntWalk.u64_in; omega) | (apply IntWalk.u32_in; omega) | (apply IntWalk.u8_in; omega) | (apply IntWalk.i32_in; omega) | rfl)) rfl ?_
          refine OW_ev (Ev_mvi (.inr rfl) rfl) rfl ?_
          refine OW_nil ?_
          exact ⟨k + 1, by omega, by omega, rfl, rfl, congrArg (Value.int .i64) (by omega), fun i hi => by by_cases e : i = k; (subst e; rw [hxx, hyy, hxy]); exact heq i (by omega), T⟩
      · have d2 := c2
        first | (with_reducible replace d2 := of_decide_eq_false d2) | (with_reducible replace d2 := bnf d2; try (with_reducible replace d2 := of_decide_eq_true d2)) | skip
        have hkn : k = n := by omega
        refine CW_exit ?_
        refine blk_same ?_
        refine CW_seq ?_
        refine CW_reg rfl ?_
        refine OW_ev (Ev_c (.inr rfl)) rfl ?_
        refine OW_nil ?_
        refine CW_ret ?_
        refine ⟨rfl, _, (.tmp rfl .nil), ?_⟩
        exact ⟨T, vb rfl (decide_eq_true (List.ext_getElem? fun i => by by_cases h : i < n; exact heq i (by omega); rw [List.getElem?_eq_none (by omega), List.getElem?_eq_none (by omega)])).symm⟩

set_option maxRecDepth 10000 in
set_option maxHeartbeats 2000000 in
theorem sameR_c {F G : Nat → Prop} {w : World} {ao bo : Option Addr} {c d : Nat} {r s : Rg} (hx : Sl F w 7 ao (r.l.map Ent.cells)) (hy : Sl G w 7 bo (s.l.map Ent.cells)) (hnl : r.l.length ≤ 1000000) : Calls Try.prog 23 #[.agg (r.cl ao c).toArray, .agg (s.cl bo d).toArray] w (Ret fun v w' => Kp0 w w' ∧ v = .bool (decide (r = s))) := by
  have T : Kp0 w w := Kp.refl _ _
  refine calls_start Try.func23 rfl (n := 24) rfl rfl rfl ?_
  refine CW_seq ?_
  refine CW_reg rfl ?_
  refine OW_st rfl (Stp_box (l := [.int _ _, .slice _ _ _, .int _ _, .int _ _, .int _ _, .int _ _, .int _ _, .int _ _, .int _ _]) rfl rfl rfl ?_)
  intro b1 w1 hb1 hz1 E1 B1
  have L1 : _ ≤ b1 := Nat.le_trans T.size (Nat.le_of_eq hb1.symm)
  have hx := hx.keep0 E1
  have hy := hy.keep0 E1
  have T := T.keep0 E1
  replace B1 : Blk w1 b1 33 (r.cl ao c) := B1
  refine OW_st rfl (Stp_box (l := [.int _ _, .slice _ _ _, .int _ _, .int _ _, .int _ _, .int _ _, .int _ _, .int _ _, .int _ _]) rfl rfl rfl ?_)
  intro b2 w2 hb2 hz2 E2 B2
  have L2 : _ ≤ b2 := Nat.le_trans T.size (Nat.le_of_eq hb2.symm)
  have hx := hx.keep0 E2
  have hy := hy.keep0 E2
  have T := T.keep0 E2
  have B1 := B1.keep0 E2
  replace B2 : Blk w2 b2 33 (s.cl bo d) := B2
  refine OW_ev (Ev_c (.inr rfl)) rfl ?_
  refine OW_nil ?_
  refine CW_seq ?_
  refine CW_reg rfl ?_
  refine OW_ev (Ev_fieldAddr fld_33_0 rfl rfl) rfl ?_
  refine OW_ev (Ev_load one_3 rfl rfl (B1.ld (q := 0) rfl)) rfl ?_
  refine OW_ev (Ev_fieldAddr fld_33_0 rfl rfl) rfl ?_
  refine OW_ev (Ev_load one_3 rfl rfl (B2.ld (q := 0) rfl)) rfl ?_
  refine OW_ev (Ev_eql rfl rfl rfl) rfl ?_
  refine OW_ev (Ev_mvb (.inl rfl) rfl) rfl ?_
  refine OW_split (d := .tmp 10) rfl (fun c3 => ?_) (fun c3 => ?_)
  · have d3 := c3
    first | (with_reducible replace d3 := of_decide_eq_true d3) | (with_reducible replace d3 := bnt d3; try (with_reducible replace d3 := of_decide_eq_false d3)) | skip
    have hroom := d3
    refine OW_yes rfl rfl rfl rfl c3 (Ev.stp (Ev_fieldAddr fld_33_2 rfl rfl) ?_)
    refine OW_yes rfl rfl rfl rfl c3 (Ev.stp (Ev_loadAgg (l := [.int _ _, .int _ _, .int _ _, .int _ _, .int _ _, .int _ _, .int _ _]) agg_31 rfl rfl (B1.sub 2 7 (Nat.le_of_ble_eq_true rfl)) rfl) ?_)
    refine OW_yes rfl rfl rfl rfl c3 (Ev.stp (Ev_fieldAddr fld_33_2 rfl rfl) ?_)
    refine OW_yes rfl rfl rfl rfl c3 (Ev.stp (Ev_loadAgg (l := [.int _ _, .int _ _, .int _ _, .int _ _, .int _ _, .int _ _, .int _ _]) agg_31 rfl rfl (B2.sub 2 7 (Nat.le_of_ble_eq_true rfl)) rfl) ?_)
    refine OW_yes rfl rfl rfl rfl c3 (Ev.stp (Ev_eqS flat_31 rfl rfl rfl rfl rfl (Ent.eqL r.gap s.gap)) ?_)
    refine OW_ev (Ev_pickb_t rfl rfl c3 rfl) rfl ?_
    refine OW_ev (Ev_mvb (.inl rfl) rfl) rfl ?_
    refine OW_split (d := .tmp 17) rfl (fun c4 => ?_) (fun c4 => ?_)
    · have d4 := c4
      first | (with_reducible replace d4 := of_decide_eq_true d4) | (with_reducible replace d4 := bnt d4; try (with_reducible replace d4 := of_decide_eq_false d4)) | skip
      have hgap := d4
      refine OW_yes rfl rfl rfl rfl c4 (Ev.stp (Ev_fieldAddr fld_33_1 rfl rfl) ?_)
      refine OW_yes rfl rfl rfl rfl c4 (Ev.stp (Ev_load one_26 rfl rfl (B1.ld (q := 1) rfl)) ?_)
      refine OW_yes rfl rfl rfl rfl c4 (Ev.stp (Ev_fieldAddr fld_33_1 rfl rfl) ?_)
      refine OW_yes rfl rfl rfl rfl c4 (Ev.stp (Ev_load one_26 rfl rfl (B2.ld (q := 1) rfl)) ?_)
      refine OW_yes rfl rfl rfl rfl c4 (Stp_call ent_18 rfl rfl rfl (entries_c rfl rfl hx hy hnl) ?_)
      rintro _ w5 ⟨E5, rfl⟩
      have Z5 := E5.size
      have hx := hx.keep0 E5
      have hy := hy.keep0 E5
      have T := T.keep0 E5
      have B1 := B1.keep0 E5
      have B2 := B2.keep0 E5
      refine OW_ev (Ev_pickb_t rfl rfl c4 rfl) rfl ?_
      refine OW_ev (Ev_mvb (.inr rfl) rfl) rfl ?_
      refine OW_nil ?_
      refine CW_ret ?_
      refine ⟨rfl, _, (.tmp rfl .nil), ?_⟩
      exact ⟨T, vb rfl (decide_eq_decide.2 ⟨fun h => Rg.ext' hroom h hgap, fun h => h ▸ rfl⟩)⟩
    · have d4 := c4
      first | (with_reducible replace d4 := of_decide_eq_false d4) | (with_reducible replace d4 := bnf d4; try (with_reducible replace d4 := of_decide_eq_true d4)) | skip
      have hne : ¬ r = s := fun e => d4 (e ▸ rfl)
      refine OW_no rfl rfl rfl rfl c4 ?_
      refine OW_no rfl rfl rfl rfl c4 ?_
      refine OW_no rfl rfl rfl rfl c4 ?_
      refine OW_no rfl rfl rfl rfl c4 ?_
      refine OW_no rfl rfl rfl rfl c4 ?_
      refine OW_ev (Ev_pickb_f rfl rfl c4 rfl) rfl ?_
      refine OW_ev (Ev_mvb (.inr rfl) rfl) rfl ?_
      refine OW_nil ?_
      refine CW_ret ?_
      refine ⟨rfl, _, (.tmp rfl .nil), ?_⟩
      exact ⟨T, vb rfl (decide_eq_false hne).symm⟩
  · have d3 := c3
    first | (with_reducible replace d3 := of_decide_eq_false d3) | (with_reducible replace d3 := bnf d3; try (with_reducible replace d3 := of_decide_eq_true d3)) | skip
    have hne : ¬ r = s := fun e => d3 (e ▸ rfl)
    refine OW_no rfl rfl rfl rfl c3 ?_
    refine OW_no rfl rfl rfl rfl c3 ?_
    refine OW_no rfl rfl rfl rfl c3 ?_
    refine OW_no rfl rfl rfl rfl c3 ?_
    refine OW_no rfl rfl rfl rfl c3 ?_
    refine OW_ev (Ev_pickb_f rfl rfl c3 rfl) rfl ?_
    refine OW_ev (Ev_mvb (.inl rfl) rfl) rfl ?_
    refine OW_no rfl rfl rfl rfl rfl ?_
    refine OW_no rfl rfl rfl rfl rfl ?_
    refine OW_no rfl rfl rfl rfl rfl ?_
    refine OW_no rfl rfl rfl rfl rfl ?_
    refine OW_no rfl rfl rfl rfl rfl ?_
    refine OW_ev (Ev_pickb_f rfl rfl rfl rfl) rfl ?_
    refine OW_ev (Ev_mvb (.inr rfl) rfl) rfl ?_
    refine OW_nil ?_
    refine CW_ret ?_
    refine ⟨rfl, _, (.tmp rfl .nil), ?_⟩
    exact ⟨T, vb rfl (decide_eq_false hne).symm⟩

set_option maxRecDepth 10000 in
set_option maxHeartbeats 2000000 in
theorem sameRs_c {F G : Nat → Prop} {w : World} {ao bo : Option Addr} {c d n m : Nat} {xs ys : List RgM} (hn : xs.length = n) (hm : ys.length = m) (h1 : RgsS F w ao xs) (h2 : RgsS G w bo ys) (hnl : n ≤ 1000000) (hlen : ∀ m ∈ xs, m.r.l.length ≤ 1000000) : Calls Try.prog 12 #[.slice ao n c, .slice bo m d] w (Ret fun v w' => Kp0 w w' ∧ v = .bool (decide (xs.map RgM.r = ys.map RgM.r))) := by
  obtain ⟨hx, hl1⟩ := h1
  obtain ⟨hy, hl2⟩ := h2
  have T : Kp0 w w := Kp.refl _ _
  refine calls_start Try.func12 rfl (n := 27) rfl rfl rfl ?_
  refine CW_seq ?_
  refine CW_reg rfl ?_
  refine OW_ev (Ev_c (.inr rfl)) rfl ?_
  refine OW_nil ?_
  refine CW_seq ?_
  refine CW_seq ?_
  refine CW_reg rfl ?_
  refine OW_ev (Ev_mvs (.inl rfl) rfl) rfl ?_
  refine OW_ev (Ev_len und_24 rfl rfl) rfl ?_
  refine OW_ev (Ev_mvs (.inl rfl) rfl) rfl ?_
  refine OW_ev (Ev_len und_24 rfl rfl) rfl ?_
  refine OW_ev (Ev_neq rfl rfl rfl) rfl ?_
  refine OW_nil ?_
  refine CW_cond rfl (fun c1 => ?_) (fun c1 => ?_)
  · have d1 := c1
    first | (with_reducible replace d1 := of_decide_eq_true d1) | (with_reducible replace d1 := bnt d1; try (with_reducible replace d1 := of_decide_eq_false d1)) | skip
    have hne : ¬ xs.map RgM.r = ys.map RgM.r := fun e => by have := congrArg List.length e; simp at this; omega
    refine CW_seq ?_
    refine CW_reg rfl ?_
    refine OW_ev (Ev_c (.inr rfl)) rfl ?_
    refine OW_nil ?_
    refine CW_ret ?_
    refine ⟨rfl, _, (.tmp rfl .nil), ?_⟩
    exact ⟨T, vb rfl (decide_eq_false hne).symm⟩
  · have d1 := c1
    first | (with_reducible replace d1 := of_decide_eq_false d1) | (with_reducible replace d1 := bnf d1; try (with_reducible replace d1 := of_decide_eq_true d1)) | skip
    have hnm : n = m := by omega
    refine CW_skip ?_
    refine CW_seq ?_
    refine CW_seq ?_
    refine CW_reg rfl ?_
    refine OW_ev (Ev_c (.inr rfl)) rfl ?_
    refine OW_nil ?_
    refine CW_block ?_
    refine CW_loop (α := Nat) (fun (k : Nat) f wr => k ≤ n ∧ f 0 = .slice ao n c ∧ f 1 = .slice bo m d ∧ f 5 = .int .i64 (k : Int) ∧ (∀ i, i < k → (xs.map RgM.r)[i]? = (ys.map RgM.r)[i]?) ∧ Kp0 w wr) (fun k => n - k) 0 ?_ ?_
    ·
      exact ⟨Nat.zero_le _, rfl, rfl, rfl, fun i h => absurd h (by omega), T⟩
    ·
      rintro k f wr ⟨hk, h0, h1, h5, heq, T⟩
      obtain ⟨g, rfl⟩ := re3 h0 h1 h5
      clear h0 h1 h5
      have hx := hx.keep0 T
      have hy := hy.keep0 T
      refine CW_seq ?_
      refine CW_seq ?_
      refine CW_reg rfl ?_
      refine OW_ev (Ev_mvi (.inl rfl) rfl) rfl ?_
      refine OW_ev (Ev_mvs (.inl rfl) rfl) rfl ?_
      refine OW_ev (Ev_len und_24 rfl rfl) rfl ?_
      refine OW_ev (Ev_lss rfl rfl rfl) rfl ?_
      refine OW_nil ?_
      refine CW_cond rfl (fun c2 => ?_) (fun c2 => ?_)
      · have d2 := c2
        first | (with_reducible replace d2 := of_decide_eq_true d2) | (with_reducible replace d2 := bnt d2; try (with_reducible replace d2 := of_decide_eq_false d2)) | skip
        have hk2 : k < n := by omega
        obtain ⟨x, hxx⟩ : ∃ x, xs[k]? = some x := ⟨xs[k], List.getElem?_eq_getElem (by omega)⟩
        have hgx : (xs.map RgM.cl)[k]? = some (RgM.cl x) := by rw [List.getElem?_map, hxx]; rfl
        obtain ⟨y, hyy⟩ : ∃ x, ys[k]? = some x := ⟨ys[k], List.getElem?_eq_getElem (by omega)⟩
        have hgy : (ys.map RgM.cl)[k]? = some (RgM.cl y) := by rw [List.getElem?_map, hyy]; rfl
        have K1 := hx.at_ hgx
        have K2 := hy.at_ hgy
        have L1 := (hl1 x (List.mem_of_getElem? hxx)).2.2.keep0 T
        have L2 := (hl2 y (List.mem_of_getElem? hyy)).2.2.keep0 T
        refine CW_skip ?_
        refine CW_seq ?_
        refine CW_block ?_
        refine CW_seq ?_
        refine CW_draw (fun W => hx.here W ∧ hy.here W ∧ K1.here W ∧ K2.here W ∧ L1.here W ∧ L2.here W) mixed rfl (fun _ _ _ h => nomatch h.1) ?_
        have E3 : Kp0 _ _ := Kp.drew wr nob
        have Z3 : (World.drew wr).heap.size = wr.heap.size := rfl
        generalize World.drew wr = w3 at E3 Z3 ⊢
        have hx := hx.keep0 E3
        have hy := hy.keep0 E3
        have T := T.keep0 E3
        have K1 := K1.keep0 E3
        have K2 := K2.keep0 E3
        have L1 := L1.keep0 E3
        have L2 := L2.keep0 E3
        refine AW_take 0 rfl rfl (by decide +kernel) (by decide +kernel) (by decide +kernel) (fun w ⟨hx, hy, K1, K2, L1, L2⟩ => Ev_mvs (.inl rfl) rfl) ⟨hx, hy, K1, K2, L1, L2⟩ ?_
        refine AW_take 1 rfl rfl (by decide +kernel) (by decide +kernel) (by decide +kernel) (fun w ⟨hx, hy, K1, K2, L1, L2⟩ => Ev_mvi (.inl rfl) rfl) ⟨hx, hy, K1, K2, L1, L2⟩ ?_
        refine AW_take 2 rfl rfl (by decide +kernel) (by decide +kernel) (by decide +kernel) (fun w ⟨hx, hy, K1, K2, L1, L2⟩ => Ev_idx k (hx.ad hgx) sl_24 rfl rfl rfl rfl (by omega)) ⟨hx, hy, K1, K2, L1, L2⟩ ?_
        refine AW_take 3 rfl rfl (by decide +kernel) (by decide +kernel) (by decide +kernel) (fun w ⟨hx, hy, K1, K2, L1, L2⟩ => Ev_loadAgg (l := [.int _ _, .slice _ _ _, .int _ _, .int _ _, .int _ _, .int _ _, .int _ _, .int _ _, .int _ _]) agg_33 rfl rfl (K1.sub 0 rfl) rfl) ⟨hx, hy, K1, K2, L1, L2⟩ ?_
        refine AW_take 4 rfl rfl (by decide +kernel) (by decide +kernel) (by decide +kernel) (fun w ⟨hx, hy, K1, K2, L1, L2⟩ => Ev_mvs (.inl rfl) rfl) ⟨hx, hy, K1, K2, L1, L2⟩ ?_
        refine AW_take 5 rfl rfl (by decide +kernel) (by decide +kernel) (by decide +kernel) (fun w ⟨hx, hy, K1, K2, L1, L2⟩ => Ev_mvi (.inl rfl) rfl) ⟨hx, hy, K1, K2, L1, L2⟩ ?_
        refine AW_take 6 rfl rfl (by decide +kernel) (by decide +kernel) (by decide +kernel) (fun w ⟨hx, hy, K1, K2, L1, L2⟩ => Ev_idx k (hy.ad hgy) sl_24 rfl rfl rfl rfl (by omega)) ⟨hx, hy, K1, K2, L1, L2⟩ ?_
        refine AW_take 7 rfl rfl (by decide +kernel) (by decide +kernel) (by decide +kernel) (fun w ⟨hx, hy, K1, K2, L1, L2⟩ => Ev_loadAgg (l := [.int _ _, .slice _ _ _, .int _ _, .int _ _, .int _ _, .int _ _, .int _ _, .int _ _, .int _ _]) agg_33 rfl rfl (K2.sub 0 rfl) rfl) ⟨hx, hy, K1, K2, L1, L2⟩ ?_
        refine AW_one 8 (by decide +kernel) (Next.mk rfl rfl ?_)
        refine Stp_call ent_23 rfl rfl rfl (sameR_c (r := x.r) (s := y.r) (c := x.c) (d := y.c) L1 L2 (hlen x (List.mem_of_getElem? hxx))) ?_
        rintro _ w4 ⟨E4, rfl⟩
        have Z4 := E4.size
        have hx := hx.keep0 E4
        have hy := hy.keep0 E4
        have T := T.keep0 E4
        have K1 := K1.keep0 E4
        have K2 := K2.keep0 E4
        have L1 := L1.keep0 E4
        have L2 := L2.keep0 E4
        refine ⟨⟨hx, hy, K1, K2, L1, L2⟩, ?_⟩
        refine AW_take 9 rfl rfl (by decide +kernel) (by decide +kernel) (by decide +kernel) (fun w ⟨hx, hy, K1, K2, L1, L2⟩ => Ev_not rfl rfl) ⟨hx, hy, K1, K2, L1, L2⟩ ?_
        refine AW_done (by decide +kernel) ?_
        refine CW_cond rfl (fun c5 => ?_) (fun c5 => ?_)
        · have d5 := c5
          first | (with_reducible replace d5 := of_decide_eq_true d5) | (with_reducible replace d5 := bnt d5; try (with_reducible replace d5 := of_decide_eq_false d5)) | skip
          have hne : ¬ xs.map RgM.r = ys.map RgM.r := fun e => by have := congrArg (fun l => l[k]?) e; simp only [List.getElem?_map, hxx, hyy, Option.map_some, Option.some.injEq] at this; exact d5 this
          refine CW_seq ?_
          refine CW_reg rfl ?_
          refine OW_ev (Ev_c (.inr rfl)) rfl ?_
          refine OW_nil ?_
          refine CW_ret ?_
          refine blk_ret ?_
          refine blk_ret ?_
          refine ⟨rfl, _, (.tmp rfl .nil), ?_⟩
          exact ⟨T, vb rfl (decide_eq_false hne).symm⟩
        · have d5 := c5
          first | (with_reducible replace d5 := of_decide_eq_false d5) | (with_reducible replace d5 := bnf d5; try (with_reducible replace d5 := of_decide_eq_true d5)) | skip
          have hxy : x.r = y.r := d5
          refine CW_skip ?_
          refine CW_reg rfl ?_
          refine OW_ev (Ev_mvi (.inl rfl) rfl) rfl ?_
          refine OW_ev (Ev_add rfl rfl rfl (by first | (apply IntWalk.i64_in; omega) | (apply IntWalk.u64_in; omega) | (apply IntWalk.u32_in; omega) | (apply IntWalk.u8_in; omega) | (apply IntWalk.i32_in; omega) | rfl)) rfl ?_
          refine OW_ev (Ev_mvi (.inr rfl) rfl) rfl ?_
          refine OW_nil ?_
          exact ⟨k + 1, by omega, by omega, rfl, rfl, congrArg (Value.int .i64) (by omega), fun i hi => by by_cases e : i = k; (subst e; rw [List.getElem?_map, List.getElem?_map, hxx, hyy]; simp [hxy]); exact heq i (by omega), T⟩
      · have d2 := c2
        first | (with_reducible replace d2 := of_decide_eq_false d2) | (with_reducible replace d2 := bnf d2; try (with_reducible replace d2 := of_decide_eq_true d2)) | skip
        have hkn : k = n := by omega
        refine CW_exit ?_
        refine blk_same ?_
        refine CW_seq ?_
        refine CW_reg rfl ?_
        refine OW_ev (Ev_c (.inr rfl)) rfl ?_
        refine OW_nil ?_
        refine CW_ret ?_
        refine ⟨rfl, _, (.tmp rfl .nil), ?_⟩
        exact ⟨T, vb rfl (decide_eq_true (List.ext_getElem? fun i => by by_cases h : i < n; exact heq i (by omega); rw [List.getElem?_eq_none (by simp; omega), List.getElem?_eq_none (by simp; omega)])).symm⟩

set_option maxRecDepth 10000 in
set_option maxHeartbeats 2000000 in
theorem bigRs_c {F : Nat → Prop} {w : World} {ao : Option Addr} {c n : Nat} {xs : List RgM} (hn : xs.length = n) (h1 : RgsS F w ao xs) : Calls Try.prog 11 #[.slice ao n c] w (Ret fun v w' => Kp0 w w' ∧ v = .bool (bigRs (xs.map RgM.r))) := by
  obtain ⟨hx, hl1⟩ := h1
  have T : Kp0 w w := Kp.refl _ _
  refine calls_start Try.func11 rfl (n := 25) rfl rfl rfl ?_
  refine CW_seq ?_
  refine CW_reg rfl ?_
  refine OW_ev (Ev_c (.inr rfl)) rfl ?_
  refine OW_nil ?_
  refine CW_seq ?_
  refine CW_seq ?_
  refine CW_reg rfl ?_
  refine OW_ev (Ev_c (.inr rfl)) rfl ?_
  refine OW_nil ?_
  refine CW_block ?_
  refine CW_loop (α := Nat) (fun (k : Nat) f wr => k ≤ n ∧ f 0 = .slice ao n c ∧ f 3 = .int .i64 (k : Int) ∧ (∀ i r, i < k → (xs.map RgM.r)[i]? = some r → r.l.length ≤ 200) ∧ Kp0 w wr) (fun k => n - k) 0 ?_ ?_
  ·
    exact ⟨Nat.zero_le _, rfl, rfl, fun i r h => absurd h (by omega), T⟩
  ·
    rintro k f wr ⟨hk, h0, h3, heq, T⟩
    obtain ⟨g, rfl⟩ := re2 h0 h3
    clear h0 h3
    have hx := hx.keep0 T
    refine CW_seq ?_
    refine CW_seq ?_
    refine CW_reg rfl ?_
    refine OW_ev (Ev_mvi (.inl rfl) rfl) rfl ?_
    refine OW_ev (Ev_mvs (.inl rfl) rfl) rfl ?_
    refine OW_ev (Ev_len und_24 rfl rfl) rfl ?_
    refine OW_ev (Ev_lss rfl rfl rfl) rfl ?_
    refine OW_ev (Ev_mvb (.inl rfl) rfl) rfl ?_
    refine OW_split (d := .tmp 8) rfl (fun c1 => ?_) (fun c1 => ?_)
    · have d1 := c1
      first | (with_reducible replace d1 := of_decide_eq_true d1) | (with_reducible replace d1 := bnt d1; try (with_reducible replace d1 := of_decide_eq_false d1)) | skip
      have hkn : k < n := by omega
      refine OW_yes rfl rfl rfl rfl c1 (Ev.stp (Ev_mvs (.inl rfl) rfl) ?_)
      refine OW_yes rfl rfl rfl rfl c1 (Ev.stp (Ev_len und_24 rfl rfl) ?_)
      refine OW_yes rfl rfl rfl rfl c1 (Ev.stp (Ev_leq rfl rfl rfl) ?_)
      refine OW_ev (Ev_pickb_t rfl rfl c1 rfl) rfl ?_
      refine OW_nil ?_
      refine CW_cond rfl (fun c2 => ?_) (fun c2 => ?_)
      · have d2 := c2
        first | (with_reducible replace d2 := of_decide_eq_true d2) | (with_reducible replace d2 := bnt d2; try (with_reducible replace d2 := of_decide_eq_false d2)) | skip
        have hn40 : n ≤ 40 := by omega
        obtain ⟨x, hxx⟩ : ∃ x, xs[k]? = some x := ⟨xs[k], List.getElem?_eq_getElem (by omega)⟩
        have hgx : (xs.map RgM.cl)[k]? = some (RgM.cl x) := by rw [List.getElem?_map, hxx]; rfl
        have K1 := hx.at_ hgx
        refine CW_skip ?_
        refine CW_seq ?_
        refine CW_block ?_
        refine CW_seq ?_
        refine CW_reg rfl ?_
        refine OW_ev (Ev_mvs (.inl rfl) rfl) rfl ?_
        refine OW_ev (Ev_mvi (.inl rfl) rfl) rfl ?_
        refine OW_ev (Ev_idx k (hx.ad hgx) sl_24 rfl rfl rfl rfl (by omega)) rfl ?_
        refine OW_ev (Ev_fieldAddr fld_33_1 rfl rfl) rfl ?_
        refine OW_ev (Ev_load one_26 rfl rfl (K1.one 1 rfl)) rfl ?_
        refine OW_ev (Ev_len und_26 rfl rfl) rfl ?_
        refine OW_ev (Ev_gtr rfl rfl rfl) rfl ?_
        refine OW_nil ?_
        refine CW_cond rfl (fun c3 => ?_) (fun c3 => ?_)
        · have d3 := c3
          first | (with_reducible replace d3 := of_decide_eq_true d3) | (with_reducible replace d3 := bnt d3; try (with_reducible replace d3 := of_decide_eq_false d3)) | skip
          have hb : bigRs (xs.map RgM.r) = true := bigRs_yes (.inr ⟨x.r, List.mem_map_of_mem (List.mem_of_getElem? hxx), by omega⟩)
          refine CW_seq ?_
          refine CW_re [(0, .slice _ _ _), (3, .int _ _)] ⟨rfl, rfl, trivial⟩ (fun g => ?_)
          refine CW_reg rfl ?_
          refine OW_ev (Ev_c (.inr rfl)) rfl ?_
          refine OW_nil ?_
          refine CW_ret ?_
          refine blk_ret ?_
          refine blk_ret ?_
          refine ⟨rfl, _, (.tmp rfl .nil), ?_⟩
          exact ⟨T, vb rfl hb.symm⟩
        · have d3 := c3
          first | (with_reducible replace d3 := of_decide_eq_false d3) | (with_reducible replace d3 := bnf d3; try (with_reducible replace d3 := of_decide_eq_true d3)) | skip
          have hle : x.r.l.length ≤ 200 := by omega
          refine CW_skip ?_
          refine CW_re [(0, .slice _ _ _), (3, .int _ _)] ⟨rfl, rfl, trivial⟩ (fun g => ?_)
          refine CW_reg rfl ?_
          refine OW_ev (Ev_mvi (.inl rfl) rfl) rfl ?_
          refine OW_ev (Ev_add rfl rfl rfl (by first | (apply IntWalk.i64_in; omega) | (apply IntWalk.u64_in; omega) | (apply IntWalk.u32_in; omega) | (apply IntWalk.u8_in; omega) | (apply IntWalk.i32_in; omega) | rfl)) rfl ?_
          refine OW_ev (Ev_mvi (.inr rfl) rfl) rfl ?_
          refine OW_nil ?_
          exact ⟨k + 1, by omega, by omega, rfl, congrArg (Value.int .i64) (by omega), fun i r hi hr => by by_cases e : i = k; (subst e; rw [List.getElem?_map, hxx] at hr; cases hr; exact hle); exact heq i r (by omega) hr, T⟩
      · have d2 := c2
        first | (with_reducible replace d2 := of_decide_eq_false d2) | (with_reducible replace d2 := bnf d2; try (with_reducible replace d2 := of_decide_eq_true d2)) | skip
        have hn40 : 40 < n := by omega
        refine CW_exit ?_
        refine blk_same ?_
        refine CW_seq ?_
        refine CW_reg rfl ?_
        refine OW_ev (Ev_mvs (.inl rfl) rfl) rfl ?_
        refine OW_ev (Ev_len und_24 rfl rfl) rfl ?_
        refine OW_ev (Ev_gtr rfl rfl rfl) rfl ?_
        refine OW_ev (Ev_mvb (.inr rfl) rfl) rfl ?_
        refine OW_nil ?_
        refine CW_ret ?_
        refine ⟨rfl, _, (.tmp rfl .nil), ?_⟩
        exact ⟨T, vb rfl (by rw [bigRs_yes (.inl (by simpa [hn] using hn40))]; exact decide_eq_true (by omega))⟩
    · have d1 := c1
      first | (with_reducible replace d1 := of_decide_eq_false d1) | (with_reducible replace d1 := bnf d1; try (with_reducible replace d1 := of_decide_eq_true d1)) | skip
      have hkn : k = n := by omega
      refine OW_no rfl rfl rfl rfl c1 ?_
      refine OW_no rfl rfl rfl rfl c1 ?_
      refine OW_no rfl rfl rfl rfl c1 ?_
      refine OW_ev (Ev_pickb_f rfl rfl c1 rfl) rfl ?_
      refine OW_nil ?_
      refine CW_cond_f rfl rfl ?_
      refine CW_exit ?_
      refine blk_same ?_
      refine CW_seq ?_
      refine CW_reg rfl ?_
      refine OW_ev (Ev_mvs (.inl rfl) rfl) rfl ?_
      refine OW_ev (Ev_len und_24 rfl rfl) rfl ?_
      refine OW_ev (Ev_gtr rfl rfl rfl) rfl ?_
      refine OW_ev (Ev_mvb (.inr rfl) rfl) rfl ?_
      refine OW_nil ?_
      refine CW_ret ?_
      refine ⟨rfl, _, (.tmp rfl .nil), ?_⟩
      exact ⟨T, vb rfl (by unfold bigRs; rw [Bool.eq_iff_iff]; simp only [Bool.or_eq_true, decide_eq_true_eq, List.any_eq_true, List.length_map, hn]; constructor; (intro h; exact .inl (by omega)); (rintro (h | ⟨r, hr, h⟩); omega; (obtain ⟨i, hi⟩ := List.mem_iff_getElem?.1 hr; have := (List.getElem?_eq_some_iff.1 hi).1; simp at this; exact absurd (heq i r (by omega) hi) (by omega))))⟩

end Go.Proofs.Ytiedmigdgelhkaa