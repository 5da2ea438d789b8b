/- Contracts of merge.First and merge.Held. -/
import Derived.Test.YtiedmigdgelhkaaTypes
import Derived.Test.YtiedmigdgelhkaaMerge2
namespace Go.Proofs.Ytiedmigdgelhkaa
open Go Go.RowKit Bx Go.Proofs

set_option maxRecDepth 10000 in
set_option maxHeartbeats 2000000 in
theorem firstat_c {F : Nat → Prop} {w : World} {b : Nat} {ao : Option Addr} {c n : Nat} {ms : List RgM} {i : Nat} {z : Int} {m : RgM} (hz : z = (i : Int)) (hm : ms[i]? = some m) (hn : ms.length = n) (Bl : Blk w b 24 [.slice ao n c]) (hx : Sl F w 9 ao (ms.map RgM.cl)) (hL : Sl F w 7 m.ao (m.r.l.map Ent.cells)) : Calls Try.prog 29 #[.int .i64 z, .pointer (some ⟨b, 0, none⟩)] w (Ret fun v w' => Kp0 w w' ∧ v = .tuple #[.int .u64 m.r.head.1, .bool m.r.head.2]) := by
  have hget : (ms.map RgM.cl)[i]? = some m.cl := by rw [List.getElem?_map, hm]; rfl
  have T : Kp0 w w := Kp.refl _ _
  refine calls_start Try.func29 rfl (n := 12) rfl rfl rfl ?_
  refine CW_seq ?_
  refine CW_reg rfl ?_
  refine OW_ev (Ev_c (.inr rfl)) rfl ?_
  refine OW_ev (Ev_c (.inr rfl)) rfl ?_
  refine OW_nil ?_
  refine CW_seq ?_
  refine CW_reg rfl ?_
  refine OW_ev (Ev_load one_24 rfl rfl (Bl.ld (q := 0) rfl)) rfl ?_
  refine OW_ev (Ev_mvi (.inl rfl) rfl) rfl ?_
  refine OW_ev (Ev_idx i (hx.ad hget) sl_24 rfl rfl rfl hz (by have := (List.getElem?_eq_some_iff.1 hm).1; omega)) rfl ?_
  have K := hx.at_ hget
  refine OW_ev (Ev_loadAgg (l := [.int _ _, .slice _ _ _, .int _ _, .int _ _, .int _ _, .int _ _, .int _ _, .int _ _, .int _ _]) agg_33 rfl rfl (K.sub 0 rfl) rfl) rfl ?_
  refine OW_st rfl (Stp_call ent_30 rfl rfl rfl (head_c (c := m.c) hL) ?_)
  rintro _ w1 ⟨E1, rfl⟩
  have Z1 := E1.size
  have hx := hx.keep0 E1
  have Bl := Bl.keep0 E1
  have hL := hL.keep0 E1
  have T := T.keep0 E1
  refine OW_ev (Ev_extract (vs := _) rfl rfl rfl) rfl ?_
  refine OW_ev (Ev_extract (vs := _) rfl rfl rfl) rfl ?_
  refine OW_ev (Ev_mvi (.inr rfl) rfl) rfl ?_
  refine OW_ev (Ev_mvb (.inr rfl) rfl) rfl ?_
  refine OW_nil ?_
  refine CW_ret ?_
  refine ⟨rfl, _, (.tmp rfl (.tmp rfl .nil)), ?_⟩
  exact ⟨T, rfl⟩

set_option maxRecDepth 10000 in
set_option maxHeartbeats 2000000 in
theorem least_c {F : Nat → Prop} {w : World} {b : Nat} {ao : Option Addr} {c n : Nat} {ms : List RgM} (hn : ms.length = n) (hnl : n ≤ 1000000) (Bl : Blk w b 24 [.slice ao n c]) (h : RgsS F w ao ms) : Calls Try.prog 28 #[.int .i64 (n : Int), .func (.func 29) #[] #[.pointer (some ⟨b, 0, none⟩)]] w (Ret fun v w' => Kp0 w w' ∧ v = .int .i64 (leastUp (ms.map RgM.r) n).1) := by
  obtain ⟨hx, hl⟩ := h
  have T : Kp0 w w := Kp.refl _ _
  refine calls_start Try.func28 rfl (n := 34) rfl rfl rfl ?_
  refine CW_seq ?_
  refine CW_reg rfl ?_
  refine OW_ev (Ev_c (.inr rfl)) rfl ?_
  refine OW_nil ?_
  refine CW_seq ?_
  refine CW_reg rfl ?_
  refine OW_ev (Ev_c (.inr rfl)) rfl ?_
  refine OW_nil ?_
  refine CW_seq ?_
  refine CW_reg rfl ?_
  refine OW_ev (Ev_c (.inr rfl)) rfl ?_
  refine OW_nil ?_
  refine CW_seq ?_
  refine CW_seq ?_
  refine CW_reg rfl ?_
  refine OW_ev (Ev_mvi (.inl rfl) rfl) rfl ?_
  refine OW_ev (Ev_c (.inl rfl)) rfl ?_
  refine OW_nil ?_
  refine CW_block ?_
  refine CW_loop (α := Nat) (fun (k : Nat) f wr => k ≤ n ∧ f 1 = (.func (.func 29) #[] #[.pointer (some ⟨b, 0, none⟩)]) ∧ f 5 = .int .i64 (leastUp (ms.map RgM.r) k).1 ∧ f 6 = .int .u64 (leastUp (ms.map RgM.r) k).2 ∧ f 10 = .int .i64 (n : Int) ∧ f 11 = .int .i64 (k : Int) ∧ Kp0 w wr) (fun k => n - k) 0 ?_ ?_
  ·
    exact ⟨Nat.zero_le _, rfl, rfl, rfl, rfl, rfl, T⟩
  ·
    rintro k f wr ⟨hkn, h1, h5, h6, h10, h11, T⟩
    obtain ⟨g, rfl⟩ := re5 h1 h5 h6 h10 h11
    clear h1 h5 h6 h10 h11
    have Bl := Bl.keep0 T
    have hx := hx.keep0 T
    have hbd := leastUp_bd (ms.map RgM.r) k
    refine CW_seq ?_
    refine CW_reg rfl ?_
    refine OW_ev (Ev_lss rfl rfl rfl) rfl ?_
    refine OW_nil ?_
    refine CW_seq ?_
    refine CW_cond rfl (fun c1 => ?_) (fun c1 => ?_)
    · have d1 := c1
      first | (with_reducible replace d1 := of_decide_eq_true d1) | (with_reducible replace d1 := bnt d1; try (with_reducible replace d1 := of_decide_eq_false d1)) | skip
      obtain ⟨m, hm⟩ : ∃ m, ms[k]? = some m := ⟨ms[k], List.getElem?_eq_getElem (by omega)⟩
      have hget : (ms.map RgM.cl)[k]? = some m.cl := by rw [List.getElem?_map, hm]; rfl
      have hgr : (ms.map RgM.r)[k]? = some m.r := by rw [List.getElem?_map, hm]; rfl
      have hL := (hl m (List.mem_of_getElem? hm)).2.2.keep0 T
      have hst := leastUp_succ hgr
      refine CW_skip ?_
      refine CW_seq ?_
      refine CW_block ?_
      refine CW_seq ?_
      refine CW_reg rfl ?_
      refine OW_ev (Ev_mvi (.inl rfl) rfl) rfl ?_
      refine OW_ev (Ev_mvi (.inr rfl) rfl) rfl ?_
      refine OW_nil ?_
      refine CW_seq ?_
      refine CW_reg rfl ?_
      refine OW_ev (Ev_mvf (.inl rfl) rfl) rfl ?_
      refine OW_ev (Ev_mvi (.inl rfl) rfl) rfl ?_
      refine OW_st rfl (Stp_call (cap := [.pointer (some ⟨b, 0, none⟩)]) ent_29 rfl rfl rfl (firstat_c rfl hm hn Bl hx hL) ?_)
      rintro _ w2 ⟨E2, rfl⟩
      have Z2 := E2.size
      have Bl := Bl.keep0 E2
      have hx := hx.keep0 E2
      have T := T.keep0 E2
      refine OW_ev (Ev_mvt (.inl rfl) rfl) rfl ?_
      refine OW_ev (Ev_extract (vs := _) rfl rfl rfl) rfl ?_
      refine OW_ev (Ev_extract (vs := _) rfl rfl rfl) rfl ?_
      refine OW_ev (Ev_mvi (.inr rfl) rfl) rfl ?_
      refine OW_ev (Ev_mvb (.inr rfl) rfl) rfl ?_
      refine OW_nil ?_
      refine CW_seq ?_
      refine CW_reg rfl ?_
      refine OW_ev (Ev_mvb (.inl rfl) rfl) rfl ?_
      refine OW_ev (Ev_mvb (.inl rfl) rfl) rfl ?_
      refine OW_split (d := .tmp 21) rfl (fun c3 => ?_) (fun c3 => ?_)
      · have d3 := c3
        first | (with_reducible replace d3 := of_decide_eq_true d3) | (with_reducible replace d3 := bnt d3; try (with_reducible replace d3 := of_decide_eq_false d3)) | skip
        have hh : m.r.head.2 = true := c3
        refine OW_yes rfl rfl rfl rfl c3 (Ev.stp (Ev_mvi (.inl rfl) rfl) ?_)
        refine OW_yes rfl rfl rfl rfl c3 (Ev.stp (Ev_lss rfl rfl rfl) ?_)
        refine OW_yes rfl rfl rfl rfl c3 (Ev.stp (Ev_mvb (.inl rfl) rfl) ?_)
        refine OW_split (d := .tmp 24) rfl (fun c4 => ?_) (fun c4 => ?_)
        · have d4 := c4
          first | (with_reducible replace d4 := of_decide_eq_true d4) | (with_reducible replace d4 := bnt d4; try (with_reducible replace d4 := of_decide_eq_false d4)) | skip
          have hs2 := hst
          rw [if_pos ⟨hh, .inl d4⟩] at hs2
          refine OW_no rfl rfl rfl rfl c4 ?_
          refine OW_no rfl rfl rfl rfl c4 ?_
          refine OW_no rfl rfl rfl rfl c4 ?_
          refine OW_yes rfl rfl rfl rfl c3 (Ev.stp (Ev_pickb_t rfl rfl c4 rfl) ?_)
          refine OW_ev (Ev_pickb_t rfl rfl c3 rfl) rfl ?_
          refine OW_nil ?_
          refine CW_cond_t rfl rfl ?_
          refine CW_re [(1, .func _ _ _), (5, .int _ _), (6, .int _ _), (7, .int _ _), (8, .int _ _), (10, .int _ _), (11, .int _ _)] ⟨rfl, rfl, rfl, rfl, rfl, rfl, rfl, trivial⟩ (fun g => ?_)
          refine CW_reg rfl ?_
          refine OW_ev (Ev_mvi (.inl rfl) rfl) rfl ?_
          refine OW_ev (Ev_mvi (.inl rfl) rfl) rfl ?_
          refine OW_ev (Ev_mvi (.inr rfl) rfl) rfl ?_
          refine OW_ev (Ev_mvi (.inr rfl) rfl) rfl ?_
          refine OW_nil ?_
          refine CW_reg rfl ?_
          refine OW_ev (Ev_add rfl rfl rfl (by first | (apply IntWalk.i64_in; omega) | (apply IntWalk.u64_in; omega) | (apply IntWalk.u32_in; omega) | (apply IntWalk.u8_in; omega) | (apply IntWalk.i32_in; omega) | rfl)) rfl ?_
          refine OW_ev (Ev_mvi (.inl rfl) rfl) rfl ?_
          refine OW_nil ?_
          refine ⟨k + 1, by omega, by omega, rfl, ?_, ?_, rfl, congrArg (Value.int .i64) (by omega), T⟩
          · rw [hs2]; rfl
          · rw [hs2]; rfl
        · have d4 := c4
          first | (with_reducible replace d4 := of_decide_eq_false d4) | (with_reducible replace d4 := bnf d4; try (with_reducible replace d4 := of_decide_eq_true d4)) | skip
          have hge := d4
          refine OW_yes rfl rfl rfl rfl c4 (Ev.stp (Ev_mvi (.inl rfl) rfl) ?_)
          refine OW_yes rfl rfl rfl rfl c4 (Ev.stp (Ev_mvi (.inl rfl) rfl) ?_)
          refine OW_yes rfl rfl rfl rfl c4 (Ev.stp (Ev_lss rfl rfl rfl) ?_)
          refine OW_yes rfl rfl rfl rfl c3 (Ev.stp (Ev_pickb_f rfl rfl c4 rfl) ?_)
          refine OW_ev (Ev_pickb_t rfl rfl c3 rfl) rfl ?_
          refine OW_nil ?_
          refine CW_cond rfl (fun c5 => ?_) (fun c5 => ?_)
          · have d5 := c5
            first | (with_reducible replace d5 := of_decide_eq_true d5) | (with_reducible replace d5 := bnt d5; try (with_reducible replace d5 := of_decide_eq_false d5)) | skip
            have hs2 := hst
            rw [if_pos ⟨hh, .inr d5⟩] at hs2
            refine CW_re [(1, .func _ _ _), (5, .int _ _), (6, .int _ _), (7, .int _ _), (8, .int _ _), (10, .int _ _), (11, .int _ _)] ⟨rfl, rfl, rfl, rfl, rfl, rfl, rfl, trivial⟩ (fun g => ?_)
            refine CW_reg rfl ?_
            refine OW_ev (Ev_mvi (.inl rfl) rfl) rfl ?_
            refine OW_ev (Ev_mvi (.inl rfl) rfl) rfl ?_
            refine OW_ev (Ev_mvi (.inr rfl) rfl) rfl ?_
            refine OW_ev (Ev_mvi (.inr rfl) rfl) rfl ?_
            refine OW_nil ?_
            refine CW_reg rfl ?_
            refine OW_ev (Ev_add rfl rfl rfl (by first | (apply IntWalk.i64_in; omega) | (apply IntWalk.u64_in; omega) | (apply IntWalk.u32_in; omega) | (apply IntWalk.u8_in; omega) | (apply IntWalk.i32_in; omega) | rfl)) rfl ?_
            refine OW_ev (Ev_mvi (.inl rfl) rfl) rfl ?_
            refine OW_nil ?_
            refine ⟨k + 1, by omega, by omega, rfl, ?_, ?_, rfl, congrArg (Value.int .i64) (by omega), T⟩
            · rw [hs2]; rfl
            · rw [hs2]; rfl
          · have d5 := c5
            first | (with_reducible replace d5 := of_decide_eq_false d5) | (with_reducible replace d5 := bnf d5; try (with_reducible replace d5 := of_decide_eq_true d5)) | skip
            have hs2 := hst
            rw [if_neg (by intro h; rcases h.2 with h | h; exact hge h; exact d5 h)] at hs2
            refine CW_skip ?_
            refine CW_re [(1, .func _ _ _), (5, .int _ _), (6, .int _ _), (10, .int _ _), (11, .int _ _)] ⟨rfl, rfl, rfl, rfl, rfl, trivial⟩ (fun g => ?_)
            refine CW_reg rfl ?_
            refine OW_ev (Ev_add rfl rfl rfl (by first | (apply IntWalk.i64_in; omega) | (apply IntWalk.u64_in; omega) | (apply IntWalk.u32_in; omega) | (apply IntWalk.u8_in; omega) | (apply IntWalk.i32_in; omega) | rfl)) rfl ?_
            refine OW_ev (Ev_mvi (.inl rfl) rfl) rfl ?_
            refine OW_nil ?_
            refine ⟨k + 1, by omega, by omega, rfl, ?_, ?_, rfl, congrArg (Value.int .i64) (by omega), T⟩
            · rw [hs2]; rfl
            · rw [hs2]; rfl
      · have d3 := c3
        first | (with_reducible replace d3 := of_decide_eq_false d3) | (with_reducible replace d3 := bnf d3; try (with_reducible replace d3 := of_decide_eq_true d3)) | skip
        have hs2 := hst
        rw [if_neg (by simp [c3])] at hs2
        refine OW_no rfl rfl rfl rfl c3 ?_
        refine OW_no rfl rfl rfl rfl c3 ?_
        refine OW_no rfl rfl rfl rfl c3 ?_
        refine OW_noU rfl rfl rfl ?_
        refine OW_noU rfl rfl rfl ?_
        refine OW_noU rfl rfl rfl ?_
        refine OW_no rfl rfl rfl rfl c3 ?_
        refine OW_ev (Ev_pickb_f rfl rfl c3 rfl) rfl ?_
        refine OW_nil ?_
        refine CW_cond_f rfl rfl ?_
        refine CW_skip ?_
        refine CW_re [(1, .func _ _ _), (5, .int _ _), (6, .int _ _), (10, .int _ _), (11, .int _ _)] ⟨rfl, rfl, rfl, rfl, rfl, trivial⟩ (fun g => ?_)
        refine CW_reg rfl ?_
        refine OW_ev (Ev_add rfl rfl rfl (by first | (apply IntWalk.i64_in; omega) | (apply IntWalk.u64_in; omega) | (apply IntWalk.u32_in; omega) | (apply IntWalk.u8_in; omega) | (apply IntWalk.i32_in; omega) | rfl)) rfl ?_
        refine OW_ev (Ev_mvi (.inl rfl) rfl) rfl ?_
        refine OW_nil ?_
        refine ⟨k + 1, by omega, by omega, rfl, ?_, ?_, rfl, congrArg (Value.int .i64) (by omega), T⟩
        · rw [hs2]; rfl
        · rw [hs2]; rfl
    · have d1 := c1
      first | (with_reducible replace d1 := of_decide_eq_false d1) | (with_reducible replace d1 := bnf d1; try (with_reducible replace d1 := of_decide_eq_true d1)) | skip
      have hk : k = n := by omega
      subst hk
      refine CW_exit ?_
      refine blk_same ?_
      refine CW_seq ?_
      refine CW_reg rfl ?_
      refine OW_ev (Ev_mvi (.inl rfl) rfl) rfl ?_
      refine OW_ev (Ev_mvi (.inr rfl) rfl) rfl ?_
      refine OW_nil ?_
      refine CW_ret ?_
      refine ⟨rfl, _, (.tmp rfl .nil), ?_⟩
      exact ⟨T, rfl⟩

set_option maxRecDepth 10000 in
set_option maxHeartbeats 2000000 in
theorem first_c {F : Nat → Prop} {w : World} {ao : Option Addr} {c n : Nat} {ms : List RgM} (hn : ms.length = n) (hnl : n ≤ 1000000) (h : RgsS F w ao ms) : Calls Try.prog 17 #[.slice ao n c] w (Ret fun v w' => Kp0 w w' ∧ v = .int .i64 (firstOf (ms.map RgM.r))) := by
  obtain ⟨hx, hl⟩ := h
  have T : Kp0 w w := Kp.refl _ _
  refine calls_start Try.func17 rfl (n := 7) rfl rfl rfl ?_
  refine CW_seq ?_
  refine CW_reg rfl ?_
  refine OW_st rfl (Stp_box (l := [.slice _ _ _]) rfl rfl rfl ?_)
  intro b1 w1 hb1 hz1 E1 B1
  have L1 : _ ≤ b1 := Nat.le_trans T.size (Nat.le_of_eq hb1.symm)
  have hx := hx.keep0 E1
  have T := T.keep0 E1
  replace B1 : Blk w1 b1 24 ([.slice ao n c]) := B1
  refine OW_ev (Ev_c (.inr rfl)) rfl ?_
  refine OW_nil ?_
  refine CW_seq ?_
  refine CW_reg rfl ?_
  refine OW_ev (Ev_load one_24 rfl rfl (B1.ld (q := 0) rfl)) rfl ?_
  refine OW_ev (Ev_len und_24 rfl rfl) rfl ?_
  refine OW_ev (Ev_makeFunc rfl rfl rfl) rfl ?_
  refine OW_st rfl (Stp_call ent_28 rfl rfl rfl (least_c hn hnl B1 ⟨hx, fun m hm => ⟨(hl m hm).1, (hl m hm).2.1, (hl m hm).2.2.keep0 T⟩⟩) ?_)
  rintro _ w2 ⟨E2, rfl⟩
  have Z2 := E2.size
  have hx := hx.keep0 E2
  have T := T.keep0 E2
  have B1 := B1.keep0 E2
  refine OW_ev (Ev_mvi (.inr rfl) rfl) rfl ?_
  refine OW_nil ?_
  refine CW_ret ?_
  refine ⟨rfl, _, (.tmp rfl .nil), ?_⟩
  exact ⟨T, by unfold firstOf; rw [List.length_map, hn]; rfl⟩

set_option maxRecDepth 10000 in
set_option maxHeartbeats 2000000 in
theorem held_c {F : Nat → Prop} {w : World} {ao : Option Addr} {c n : Nat} {ms : List RgM} (hn : ms.length = n) (hnl : n ≤ 1000000) (h : RgsS F w ao ms) : Calls Try.prog 10 #[.slice ao n c] w (Ret fun v w' => Kp0 w w' ∧ v = .int .i64 (heldOf (ms.map RgM.r))) := by
  obtain ⟨hx, hl⟩ := h
  have hx := hx.old
  have T : Kp0 w w := Kp.refl _ _
  refine calls_start Try.func10 rfl (n := 29) rfl rfl rfl ?_
  refine CW_seq ?_
  refine CW_reg rfl ?_
  refine OW_ev (Ev_c (.inr rfl)) rfl ?_
  refine OW_nil ?_
  refine CW_seq ?_
  refine CW_reg rfl ?_
  refine OW_ev (Ev_c (.inr rfl)) rfl ?_
  refine OW_nil ?_
  refine CW_seq ?_
  refine CW_seq ?_
  refine CW_reg rfl ?_
  refine OW_ev (Ev_mvs (.inl rfl) rfl) rfl ?_
  refine OW_ev (Ev_len und_24 rfl rfl) rfl ?_
  refine OW_ev (Ev_c (.inl rfl)) rfl ?_
  refine OW_nil ?_
  refine CW_block ?_
  refine CW_loop (α := Nat) (fun (k : Nat) f wr => k ≤ n ∧ f 3 = .int .i64 (heldUp (ms.map RgM.r) k) ∧ f 6 = .slice ao n c ∧ f 7 = .int .i64 (n : Int) ∧ f 8 = .int .i64 (k : Int) ∧ Kp0 w wr) (fun k => n - k) 0 ?_ ?_
  ·
    exact ⟨Nat.zero_le _, rfl, rfl, rfl, rfl, T⟩
  ·
    rintro k f wr ⟨hkn, h3, h6, h7, h8, T⟩
    obtain ⟨g, rfl⟩ := re4 h3 h6 h7 h8
    clear h3 h6 h7 h8
    have hx := hx.keep0 T
    have hbd := heldUp_bd (ms.map RgM.r) k
    refine CW_seq ?_
    refine CW_reg rfl ?_
    refine OW_ev (Ev_lss rfl rfl rfl) rfl ?_
    refine OW_nil ?_
    refine CW_seq ?_
    refine CW_cond rfl (fun c1 => ?_) (fun c1 => ?_)
    · have d1 := c1
      first | (with_reducible replace d1 := of_decide_eq_true d1) | (with_reducible replace d1 := bnt d1; try (with_reducible replace d1 := of_decide_eq_false d1)) | skip
      obtain ⟨m, hm⟩ : ∃ m, ms[k]? = some m := ⟨ms[k], List.getElem?_eq_getElem (by omega)⟩
      have hget : (ms.map RgM.cl)[k]? = some m.cl := by rw [List.getElem?_map, hm]; rfl
      have hgr : (ms.map RgM.r)[k]? = some m.r := by rw [List.getElem?_map, hm]; rfl
      have hst := heldUp_succ hgr
      have K := hx.at_ hget
      have hmb := m.r.held_bd
      have hKb : ablk ao < wr.heap.size := (hx.2 (Sl.ne hget)).2.2.1
      refine CW_skip ?_
      refine CW_seq ?_
      refine CW_block ?_
      refine CW_seq ?_
      refine CW_reg rfl ?_
      refine OW_ev (Ev_idx k (hx.ad hget) sl_24 rfl rfl rfl rfl (by omega)) rfl ?_
      refine OW_ev (Ev_loadAgg (l := [.int _ _, .slice _ _ _, .int _ _, .int _ _, .int _ _, .int _ _, .int _ _, .int _ _, .int _ _]) agg_33 rfl rfl (K.sub 0 rfl) rfl) rfl ?_
      refine OW_st rfl (Stp_alloc zero_33 rfl ?_)
      intro b2 w2 hb2 hz2 E2 B2
      have L2 : _ ≤ b2 := Nat.le_trans T.size (Nat.le_of_eq hb2.symm)
      have hx := hx.keep0 E2
      have T := T.keep0 E2
      have K := K.keep0 E2
      refine OW_st rfl (Stp_store (q := 0) (vs := [.int _ _, .slice _ _ _, .int _ _, .int _ _, .int _ _, .int _ _, .int _ _, .int _ _, .int _ _]) B2 siz_33 rfl rfl rfl rfl (Nat.le_of_ble_eq_true rfl) rfl ?_)
      intro w3 hz3 E3 B3
      have Z3 := E3.size
      have hx := hx.keepb E3 (by intro h; first | omega | (change _ < _ at h; omega) | (change _ ≤ _ at h; omega) | (have h1 := h.1; have h2 := h.2; first | omega | (change _ ≤ _ at h1; omega) | (change _ < _ at h1; omega)))
      have T := T.transb E3 (by omega)
      have K := K.keepb E3 (by intro h; first | omega | (change _ < _ at h; omega) | (change _ ≤ _ at h; omega) | (have h1 := h.1; have h2 := h.2; first | omega | (change _ ≤ _ at h1; omega) | (change _ < _ at h1; omega)))
      clear B2
      have B2 : Blk _ _ _ [_, _, _, _, _, _, _, _, _] := B3
      clear B3
      refine OW_nil ?_
      refine CW_seq ?_
      refine CW_seq ?_
      refine CW_reg rfl ?_
      refine OW_ev (Ev_loadAgg (l := [.int _ _, .slice _ _ _, .int _ _, .int _ _, .int _ _, .int _ _, .int _ _, .int _ _, .int _ _]) agg_33 rfl rfl (B2.sub 0 9 (Nat.le_of_ble_eq_true rfl)) rfl) rfl ?_
      refine OW_st rfl (Stp_call ent_22 rfl rfl rfl (ringIs_c _ m.r m.ao m.c) ?_)
      rintro _ w4 ⟨E4, rfl⟩
      have Z4 := E4.size
      have hx := hx.keep0 E4
      have T := T.keep0 E4
      have K := K.keep0 E4
      have B2 := B2.keep0 E4
      refine OW_ev (Ev_not rfl rfl) rfl ?_
      refine OW_nil ?_
      refine CW_cond rfl (fun c5 => ?_) (fun c5 => ?_)
      · have d5 := c5
        first | (with_reducible replace d5 := of_decide_eq_true d5) | (with_reducible replace d5 := bnt d5; try (with_reducible replace d5 := of_decide_eq_false d5)) | skip
        have hh : m.r.held = 0 := by unfold Rg.held; rw [if_neg (by simp [d5])]
        refine CW_exit ?_
        refine blk_same ?_
        refine CW_reg rfl ?_
        refine OW_ev (Ev_add rfl rfl rfl (by first | (apply IntWalk.i64_in; omega) | (apply IntWalk.u64_in; omega) | (apply IntWalk.u32_in; omega) | (apply IntWalk.u8_in; omega) | (apply IntWalk.i32_in; omega) | rfl)) rfl ?_
        refine OW_ev (Ev_mvi (.inl rfl) rfl) rfl ?_
        refine OW_nil ?_
        refine ⟨k + 1, by omega, by omega, vi rfl (by omega), rfl, rfl, congrArg (Value.int .i64) (by omega), T⟩
      · have d5 := c5
        first | (with_reducible replace d5 := of_decide_eq_false d5) | (with_reducible replace d5 := bnf d5; try (with_reducible replace d5 := of_decide_eq_true d5)) | skip
        have his : m.r.is = true := d5
        have hlen := Rg.is_len his
        refine CW_skip ?_
        refine CW_seq ?_
        refine CW_reg rfl ?_
        refine OW_ev (Ev_mvi (.inl rfl) rfl) rfl ?_
        refine OW_ev (Ev_fieldAddr fld_33_1 rfl rfl) rfl ?_
        refine OW_ev (Ev_load one_26 rfl rfl (B2.ld (q := 1) rfl)) rfl ?_
        refine OW_ev (Ev_len und_26 rfl rfl) rfl ?_
        refine OW_ev (Ev_add rfl rfl rfl (by first | (apply IntWalk.i64_in; omega) | (apply IntWalk.u64_in; omega) | (apply IntWalk.u32_in; omega) | (apply IntWalk.u8_in; omega) | (apply IntWalk.i32_in; omega) | rfl)) rfl ?_
        refine OW_ev (Ev_mvi (.inr rfl) rfl) rfl ?_
        refine OW_nil ?_
        refine CW_seq ?_
        refine CW_re [(3, .int _ _), (5, .pointer _), (6, .slice _ _ _), (7, .int _ _), (8, .int _ _)] ⟨rfl, rfl, rfl, rfl, rfl, trivial⟩ (fun g => ?_)
        refine CW_reg rfl ?_
        refine OW_ev (Ev_fieldAddr fld_33_2 rfl rfl) rfl ?_
        refine OW_ev (Ev_fieldAddr fld_31_1 rfl rfl) rfl ?_
        refine OW_ev (Ev_fieldAddr fld_29_4 rfl rfl) rfl ?_
        refine OW_ev (Ev_load one_3 rfl rfl (B2.ld (q := 7) rfl)) rfl ?_
        refine OW_ev (Ev_neq rfl rfl rfl) rfl ?_
        refine OW_nil ?_
        refine CW_cond rfl (fun c6 => ?_) (fun c6 => ?_)
        · have d6 := c6
          first | (with_reducible replace d6 := of_decide_eq_true d6) | (with_reducible replace d6 := bnt d6; try (with_reducible replace d6 := of_decide_eq_false d6)) | skip
          have hh : m.r.held = (m.r.l.length : Int) + 1 := by unfold Rg.held; rw [if_pos his, if_pos (by unfold Rg.hasGap; simp [d6])]
          refine CW_reg rfl ?_
          refine OW_ev (Ev_mvi (.inl rfl) rfl) rfl ?_
          refine OW_ev (Ev_add rfl rfl rfl (by first | (apply IntWalk.i64_in; omega) | (apply IntWalk.u64_in; omega) | (apply IntWalk.u32_in; omega) | (apply IntWalk.u8_in; omega) | (apply IntWalk.i32_in; omega) | rfl)) rfl ?_
          refine OW_ev (Ev_mvi (.inr rfl) rfl) rfl ?_
          refine OW_nil ?_
          refine CW_reg rfl ?_
          refine OW_ev (Ev_add rfl rfl rfl (by first | (apply IntWalk.i64_in; omega) | (apply IntWalk.u64_in; omega) | (apply IntWalk.u32_in; omega) | (apply IntWalk.u8_in; omega) | (apply IntWalk.i32_in; omega) | rfl)) rfl ?_
          refine OW_ev (Ev_mvi (.inl rfl) rfl) rfl ?_
          refine OW_nil ?_
          refine ⟨k + 1, by omega, by omega, vi rfl (by omega), rfl, rfl, congrArg (Value.int .i64) (by omega), T⟩
        · have d6 := c6
          first | (with_reducible replace d6 := of_decide_eq_false d6) | (with_reducible replace d6 := bnf d6; try (with_reducible replace d6 := of_decide_eq_true d6)) | skip
          have hh : m.r.held = (m.r.l.length : Int) := by unfold Rg.held; rw [if_pos his, if_neg (by unfold Rg.hasGap; simp; omega)]; omega
          refine CW_skip ?_
          refine CW_reg rfl ?_
          refine OW_ev (Ev_add rfl rfl rfl (by first | (apply IntWalk.i64_in; omega) | (apply IntWalk.u64_in; omega) | (apply IntWalk.u32_in; omega) | (apply IntWalk.u8_in; omega) | (apply IntWalk.i32_in; omega) | rfl)) rfl ?_
          refine OW_ev (Ev_mvi (.inl rfl) rfl) rfl ?_
          refine OW_nil ?_
          refine ⟨k + 1, by omega, by omega, vi rfl (by omega), rfl, rfl, congrArg (Value.int .i64) (by omega), T⟩
    · have d1 := c1
      first | (with_reducible replace d1 := of_decide_eq_false d1) | (with_reducible replace d1 := bnf d1; try (with_reducible replace d1 := of_decide_eq_true d1)) | skip
      have hk : k = n := by omega
      subst hk
      refine CW_exit ?_
      refine blk_same ?_
      refine CW_seq ?_
      refine CW_reg rfl ?_
      refine OW_ev (Ev_mvi (.inl rfl) rfl) rfl ?_
      refine OW_ev (Ev_mvi (.inr rfl) rfl) rfl ?_
      refine OW_nil ?_
      refine CW_ret ?_
      refine ⟨rfl, _, (.tmp rfl .nil), ?_⟩
      exact ⟨T, by unfold heldOf; rw [List.length_map, hn]; rfl⟩

end Go.Proofs.Ytiedmigdgelhkaa