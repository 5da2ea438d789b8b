/- Contract of merge.Offer. -/
import Derived.Test.YtiedmigdgelhkaaTypes
import Derived.Test.YtiedmigdgelhkaaMerge1
namespace Go.Proofs.Ytiedmigdgelhkaa
open Go Go.RowKit Bx Go.Proofs

set_option maxRecDepth 10000 in
set_option maxHeartbeats 2000000 in
theorem offer_c {F : Nat → Prop} {w : World} {ao : Option Addr} {c n : Nat} {ms : List RgM} {x : Ent} (hms : ms.length = n) (h : RgsS F w ao ms) (hnl : ms.length ≤ 1000000) (hlen : ∀ m ∈ ms, m.r.l.length ≤ 1000000) : Calls Try.prog 7 #[.slice ao n c, .agg x.cells.toArray] w (Ret fun v w' => Kp0 w w' ∧ ∃ (a : Option Addr) (q : Nat) (ms' : List RgM), v = .tuple #[.slice a ms'.length q, .int .i64 (offer (ms.map RgM.r) x).2] ∧ ms'.map RgM.r = (offer (ms.map RgM.r) x).1 ∧ ms'.length ≤ q ∧ q ≤ maxLen ∧ RgsS (fun b => w.heap.size ≤ b) w' a ms') := by
  obtain ⟨hx, hl⟩ := h
  have hx := hx.old
  have hw0 : ms.length = n := hms
  have T : Kp0 w w := Kp.refl _ _
  refine calls_start Try.func7 rfl (n := 44) rfl rfl rfl ?_
  refine CW_seq ?_
  refine CW_reg rfl ?_
  refine OW_st rfl (Stp_box (l := [.int _ _, .int _ _, .int _ _, .int _ _, .int _ _, .int _ _, .int _ _]) rfl rfl rfl ?_)
  intro b1 w1 hb1 hz1 E1 B1
  have L1 : _ ≤ b1 := Nat.le_trans T.size (Nat.le_of_eq hb1.symm)
  have hx := hx.keep0 E1
  have T := T.keep0 E1
  replace B1 : Blk w1 b1 31 (x.cells) := B1
  refine OW_ev (Ev_c (.inr rfl)) rfl ?_
  refine OW_ev (Ev_c (.inr rfl)) rfl ?_
  refine OW_nil ?_
  refine CW_seq ?_
  refine CW_reg rfl ?_
  refine OW_ev (Ev_fieldAddr fld_31_1 rfl rfl) rfl ?_
  refine OW_ev (Ev_fieldAddr fld_29_2 rfl rfl) rfl ?_
  refine OW_ev (Ev_load one_3 rfl rfl (B1.ld (q := 3) rfl)) rfl ?_
  refine OW_ev (Ev_mvi (.inr rfl) rfl) rfl ?_
  refine OW_nil ?_
  refine CW_seq ?_
  refine CW_seq ?_
  refine CW_reg rfl ?_
  refine OW_ev (Ev_mvi (.inl rfl) rfl) rfl ?_
  refine OW_ev (Ev_eql rfl rfl rfl) rfl ?_
  refine OW_nil ?_
  refine CW_cond rfl (fun c2 => ?_) (fun c2 => ?_)
  · have d2 := c2
    first | (with_reducible replace d2 := of_decide_eq_true d2) | (with_reducible replace d2 := bnt d2; try (with_reducible replace d2 := of_decide_eq_false d2)) | skip
    have hpt : x.e.part = -1 := d2
    refine CW_reg rfl ?_
    refine OW_ev (Ev_mvs (.inl rfl) rfl) rfl ?_
    refine OW_ev (Ev_len und_24 rfl rfl) rfl ?_
    refine OW_ev (Ev_sub rfl rfl rfl (by first | (apply IntWalk.i64_in; omega) | (apply IntWalk.u64_in; omega) | (apply IntWalk.u32_in; omega) | (apply IntWalk.u8_in; omega) | (apply IntWalk.i32_in; omega) | rfl)) rfl ?_
    refine OW_ev (Ev_mvi (.inr rfl) rfl) rfl ?_
    refine OW_nil ?_
    refine CW_seq ?_
    refine CW_seq ?_
    refine CW_reg rfl ?_
    refine OW_ev (Ev_mvi (.inl rfl) rfl) rfl ?_
    refine OW_ev (Ev_lss rfl rfl rfl) rfl ?_
    refine OW_nil ?_
    refine CW_cond rfl (fun c3 => ?_) (fun c3 => ?_)
    · have d3 := c3
      first | (with_reducible replace d3 := of_decide_eq_true d3) | (with_reducible replace d3 := bnt d3; try (with_reducible replace d3 := of_decide_eq_false d3)) | skip
      have hp : offer (ms.map RgM.r) x = ([], 1) := offer_no (.inr (by unfold offerAt; simp; omega))
      refine CW_seq ?_
      refine CW_reg rfl ?_
      refine OW_ev (Ev_c (.inr rfl)) rfl ?_
      refine OW_ev (Ev_c (.inr rfl)) rfl ?_
      refine OW_nil ?_
      refine CW_ret ?_
      refine ⟨rfl, _, (.tmp rfl (.tmp rfl .nil)), ?_⟩
      rw [hp]
      exact ⟨T, none, 0, [], rfl, rfl, Nat.le_refl _, Nat.zero_le _, Sl.nil _ _ _ _, fun _ h => (nomatch h)⟩
    · have d3 := c3
      first | (with_reducible replace d3 := of_decide_eq_false d3) | (with_reducible replace d3 := bnf d3; try (with_reducible replace d3 := of_decide_eq_true d3)) | skip
      obtain ⟨i, hi, hin⟩ : ∃ i : Nat, ((n : Int) - 1) = (i : Int) ∧ i < n := ⟨(((n : Int) - 1)).toNat, by omega, by omega⟩
      obtain ⟨m, hm⟩ : ∃ m, ms[i]? = some m := ⟨ms[i], List.getElem?_eq_getElem (by omega)⟩
      have hat : offerAt (ms.map RgM.r).length x = (i : Int) := by unfold offerAt; simp; omega
      have hp0 := offer_at (l := ms.map RgM.r) (x := x) (i := i) (r := m.r) (by simp; omega) hat (by rw [List.getElem?_map, hm]; rfl)
      have hget : (ms.map RgM.cl)[i]? = some m.cl := by rw [List.getElem?_map, hm]; rfl
      have hmin : m ∈ ms := List.mem_of_getElem? hm
      have hL := (hl m hmin).2.2.keep0 T
      have hL := hL.old
      have K := hx.at_ hget
      have hKb : ablk ao < w.heap.size := (hx.2 (Sl.ne hget)).2.1
      refine CW_skip ?_
      refine CW_seq ?_
      refine CW_draw (fun W => hx.here W ∧ B1.here W ∧ hL.here W ∧ K.here W) mixed rfl (fun _ _ _ h => nomatch h.1) ?_
      have E4 : Kp0 _ _ := Kp.drew w1 nob
      have Z4 : (World.drew w1).heap.size = w1.heap.size := rfl
      generalize World.drew w1 = w4 at E4 Z4 ⊢
      have hx := hx.keep0 E4
      have T := T.keep0 E4
      have B1 := B1.keep0 E4
      have hL := hL.keep0 E4
      have K := K.keep0 E4
      refine AW_take 0 rfl rfl (by decide +kernel) (by decide +kernel) (by decide +kernel) (fun w ⟨hx, B1, hL, K⟩ => Ev_mvs (.inl rfl) rfl) ⟨hx, B1, hL, K⟩ ?_
      refine AW_take 1 rfl rfl (by decide +kernel) (by decide +kernel) (by decide +kernel) (fun w ⟨hx, B1, hL, K⟩ => Ev_mvi (.inl rfl) rfl) ⟨hx, B1, hL, K⟩ ?_
      refine AW_take 2 rfl rfl (by decide +kernel) (by decide +kernel) (by decide +kernel) (fun w ⟨hx, B1, hL, K⟩ => Ev_idx i (hx.ad hget) sl_24 rfl rfl rfl hi hin) ⟨hx, B1, hL, K⟩ ?_
      refine AW_take 3 rfl rfl (by decide +kernel) (by decide +kernel) (by decide +kernel) (fun w ⟨hx, B1, hL, K⟩ => Ev_loadAgg (l := [.int _ _, .slice _ _ _, .int _ _, .int _ _, .int _ _, .int _ _, .int _ _, .int _ _, .int _ _]) agg_33 rfl rfl (K.sub 0 rfl) rfl) ⟨hx, B1, hL, K⟩ ?_
      refine AW_take 4 rfl rfl (by decide +kernel) (by decide +kernel) (by decide +kernel) (fun w ⟨hx, B1, hL, K⟩ => Ev_loadAgg (l := [.int _ _, .int _ _, .int _ _, .int _ _, .int _ _, .int _ _, .int _ _]) agg_31 rfl rfl (B1.sub 0 7 (Nat.le_of_ble_eq_true rfl)) rfl) ⟨hx, B1, hL, K⟩ ?_
      refine AW_two 5 9 (by decide +kernel) (Next.mk rfl rfl ?_) (Next.mk rfl rfl ?_)
      ·
        refine Stp_call ent_19 rfl rfl rfl (put_c (c := m.c) (x := x) hL) ?_
        rintro _ w5 ⟨E5, HZ, HY, rfl, HL, HM, HS⟩
        have Z5 := E5.size
        have hx := hx.keep0 E5
        have T := T.keep0 E5
        have B1 := B1.keep0 E5
        have hL := hL.keep0 E5
        have K := K.keep0 E5
        have HS := HS.bd
        refine ⟨⟨hx, B1, hL, K⟩, ?_⟩
        refine AW_take 6 rfl rfl (by decide +kernel) (by decide +kernel) (by decide +kernel) (fun w ⟨hx, B1, hL, K⟩ => Ev_mvt (.inl rfl) rfl) ⟨hx, B1, hL, K⟩ ?_
        refine AW_take 7 rfl rfl (by decide +kernel) (by decide +kernel) (by decide +kernel) (fun w ⟨hx, B1, hL, K⟩ => Ev_extract (vs := _) rfl rfl rfl) ⟨hx, B1, hL, K⟩ ?_
        refine AW_take 8 rfl rfl (by decide +kernel) (by decide +kernel) (by decide +kernel) (fun w ⟨hx, B1, hL, K⟩ => Ev_extract (vs := _) rfl rfl rfl) ⟨hx, B1, hL, K⟩ ?_
        refine AW_one 9 (by decide +kernel) (Next.mk rfl rfl ?_)
        refine Stp_alloc zero_33 rfl ?_
        intro b6 w6 hb6 hz6 E6 B6
        have L6 : _ ≤ b6 := Nat.le_trans T.size (Nat.le_of_eq hb6.symm)
        have hx := hx.keep0 E6
        have T := T.keep0 E6
        have B1 := B1.keep0 E6
        have hL := hL.keep0 E6
        have K := K.keep0 E6
        have HS := HS.keep0 E6
        refine ⟨⟨hx, B1, hL, K⟩, ?_⟩
        refine AW_one 10 (by decide +kernel) (Next.mk rfl rfl ?_)
        refine Stp_store (q := 0) (vs := [.int _ _, .slice _ _ _, .int _ _, .int _ _, .int _ _, .int _ _, .int _ _, .int _ _, .int _ _]) B6 siz_33 rfl rfl rfl rfl (Nat.le_of_ble_eq_true rfl) rfl ?_
        intro w7 hz7 E7 B7
        have Z7 := E7.size
        have hx := hx.keepb E7 (by intro h; first | omega | (change _ < _ at h; omega) | (change _ ≤ _ at h; omega) | (have h1 := h.1; have h2 := h.2; first | omega | (change _ ≤ _ at h1; omega) | (change _ < _ at h1; omega)))
        have T := T.transb E7 (by omega)
        have B1 := B1.keepb E7 (by intro h; first | omega | (change _ < _ at h; omega) | (change _ ≤ _ at h; omega) | (have h1 := h.1; have h2 := h.2; first | omega | (change _ ≤ _ at h1; omega) | (change _ < _ at h1; omega)))
        have hL := hL.keepb E7 (by intro h; first | omega | (change _ < _ at h; omega) | (change _ ≤ _ at h; omega) | (have h1 := h.1; have h2 := h.2; first | omega | (change _ ≤ _ at h1; omega) | (change _ < _ at h1; omega)))
        have K := K.keepb E7 (by intro h; first | omega | (change _ < _ at h; omega) | (change _ ≤ _ at h; omega) | (have h1 := h.1; have h2 := h.2; first | omega | (change _ ≤ _ at h1; omega) | (change _ < _ at h1; omega)))
        have HS := HS.keepb E7 (by intro h; first | omega | (change _ < _ at h; omega) | (change _ ≤ _ at h; omega) | (have h1 := h.1; have h2 := h.2; first | omega | (change _ ≤ _ at h1; omega) | (change _ < _ at h1; omega)))
        clear B6
        have B6 : Blk _ _ _ [_, _, _, _, _, _, _, _, _] := B7
        clear B7
        refine ⟨⟨hx, B1, hL, K⟩, ?_⟩
        refine AW_take 11 rfl rfl (by decide +kernel) (by decide +kernel) (by decide +kernel) (fun w ⟨hx, B1, hL, K⟩ => Ev_mvi (.inr rfl) rfl) ⟨hx, B1, hL, K⟩ ?_
        refine AW_done (by decide +kernel) ?_
        refine CW_seq ?_
        refine CW_seq ?_
        refine CW_re [(0, .slice _ _ _), (4, .slice _ _ _), (5, .int _ _), (6, .int _ _), (7, .pointer _), (8, .int _ _)] ⟨rfl, rfl, rfl, rfl, rfl, rfl, trivial⟩ (fun g => ?_)
        refine CW_reg rfl ?_
        refine OW_ev (Ev_mvi (.inl rfl) rfl) rfl ?_
        refine OW_ev (Ev_neq rfl rfl rfl) rfl ?_
        refine OW_nil ?_
        refine CW_cond rfl (fun c8 => ?_) (fun c8 => ?_)
        · have d8 := c8
          first | (with_reducible replace d8 := of_decide_eq_true d8) | (with_reducible replace d8 := bnt d8; try (with_reducible replace d8 := of_decide_eq_false d8)) | skip
          have hp : offer (ms.map RgM.r) x = ([], (m.r.put x).2) := by rw [hp0, if_pos d8]
          refine CW_seq ?_
          refine CW_reg rfl ?_
          refine OW_ev (Ev_mvi (.inl rfl) rfl) rfl ?_
          refine OW_ev (Ev_c (.inr rfl)) rfl ?_
          refine OW_ev (Ev_mvi (.inr rfl) rfl) rfl ?_
          refine OW_nil ?_
          refine CW_ret ?_
          refine ⟨rfl, _, (.tmp rfl (.tmp rfl .nil)), ?_⟩
          rw [hp]
          exact ⟨T, none, 0, [], rfl, rfl, Nat.le_refl _, Nat.zero_le _, Sl.nil _ _ _ _, fun _ h => (nomatch h)⟩
        · have d8 := c8
          first | (with_reducible replace d8 := of_decide_eq_false d8) | (with_reducible replace d8 := bnf d8; try (with_reducible replace d8 := of_decide_eq_true d8)) | skip
          have hput : (m.r.put x).2 = 0 := by omega
          have hp : offer (ms.map RgM.r) x = ((ms.map RgM.r).set i (m.r.put x).1, 0) := by rw [hp0, if_neg (by simp [hput])]
          have hl2 : ∀ m ∈ ms, RgS (fun b => b < w.heap.size) _ m.r m.ao m.c := fun m hm => ⟨(hl m hm).1, (hl m hm).2.1, (hl m hm).2.2.old.keep0 T⟩
          refine CW_skip ?_
          refine CW_seq ?_
          refine CW_reg rfl ?_
          refine OW_ev (Ev_mvs (.inl rfl) rfl) rfl ?_
          refine OW_st rfl (Stp_call ent_20 rfl rfl rfl (copied_c hms ⟨hx, hl2⟩ hnl hlen) ?_)
          rintro _ w9 ⟨E9, ms', hr, O, HD⟩
          have Z9 := E9.size
          have hx := hx.keep0 E9
          have T := T.keep0 E9
          have B1 := B1.keep0 E9
          have hL := hL.keep0 E9
          have K := K.keep0 E9
          have HS := HS.keep0 E9
          have B6 := B6.keep0 E9
          have hlen2 : ms'.length = n := by have := congrArg List.length hr; simpa [hms] using this
          obtain ⟨m', hm'⟩ : ∃ m', ms'[i]? = some m' := ⟨ms'[i], List.getElem?_eq_getElem (by omega)⟩
          have hget' : (ms'.map RgM.cl)[i]? = some m'.cl := by rw [List.getElem?_map, hm']; rfl
          obtain ⟨a3, q3, rfl, l3, m3, S3⟩ := O.sl
          have hgl := O.blk (Sl.ne hget')
          refine OW_ev (Ev_mvs (.inr rfl) rfl) rfl ?_
          refine OW_nil ?_
          refine CW_seq ?_
          refine CW_reg rfl ?_
          refine OW_ev (Ev_mvs (.inl rfl) rfl) rfl ?_
          refine OW_ev (Ev_mvi (.inl rfl) rfl) rfl ?_
          refine OW_ev (Ev_loadAgg (l := [.int _ _, .slice _ _ _, .int _ _, .int _ _, .int _ _, .int _ _, .int _ _, .int _ _, .int _ _]) agg_33 rfl rfl (B6.sub 0 9 (Nat.le_of_ble_eq_true rfl)) rfl) rfl ?_
          refine OW_ev (Ev_idx i (S3.ad hget') sl_24 rfl rfl rfl hi (by simp; omega)) rfl ?_
          refine OW_st rfl (Stp_storeOwn (vs := [.int _ _, .slice _ _ _, .int _ _, .int _ _, .int _ _, .int _ _, .int _ _, .int _ _, .int _ _]) (i) 0 O rfl hget' siz_33 rfl rfl rfl rfl (Nat.le_of_ble_eq_true rfl) rfl ?_)
          intro w10 hz10 E10 O10
          have Z10 := E10.size
          have hx := hx.keepo E10 (fun b hb hl he => by first | omega | (have := hsp b he; omega) | (change b < _ at hb; omega) | (change _ ≤ b at hb; omega) | (have h1 := hb.1; have h2 := hb.2; first | omega | (change _ ≤ _ at h1; omega) | (change _ < _ at h1; omega)))
          have T := T.transo E10 (by omega)
          have B1 := B1.keepo E10 (fun b hb hl he => by first | omega | (have := hsp b he; omega) | (change b < _ at hb; omega) | (change _ ≤ b at hb; omega) | (have h1 := hb.1; have h2 := hb.2; first | omega | (change _ ≤ _ at h1; omega) | (change _ < _ at h1; omega)))
          have HS := HS.keepo E10 (fun b hb _ he => absurd (hgl b he).2 (by have := hb.2; omega))
          have B6 := B6.keepo E10 (fun b hb hl he => by first | omega | (have := hsp b he; omega) | (change b < _ at hb; omega) | (change _ ≤ b at hb; omega) | (have h1 := hb.1; have h2 := hb.2; first | omega | (change _ ≤ _ at h1; omega) | (change _ < _ at h1; omega)))
          have O := O10
          clear O10
          have EE := E10
          refine OW_nil ?_
          refine CW_seq ?_
          refine CW_reg rfl ?_
          refine OW_ev (Ev_mvs (.inl rfl) rfl) rfl ?_
          refine OW_ev (Ev_mvs (.inr rfl) rfl) rfl ?_
          refine OW_ev (Ev_c (.inr rfl)) rfl ?_
          refine OW_nil ?_
          refine CW_ret ?_
          refine ⟨rfl, _, (.tmp rfl (.tmp rfl .nil)), ?_⟩
          rw [hp]
          refine ⟨T, a3, q3, ms'.set i ⟨(m.r.put x).1, HZ, HY⟩, ?_, ?_, ?_, m3, ?_, ?_⟩
          · show Value.tuple #[.slice a3 (ms'.map RgM.cl).length q3, .int .i64 0] = _; simp
          · rw [List.map_set, hr]
          · simpa using l3
          · have hO : Own _ _ _ _ _ ((ms'.map RgM.cl).set i (RgM.mk (m.r.put x).1 HZ HY).cl) := O
            rw [List.map_set]; exact hO.sls.mono (fun b _ hb => by change _ ≤ b at hb; omega)
          · intro m2 hm2
            rcases List.mem_or_eq_of_mem_set hm2 with hm2 | rfl
            · obtain ⟨h1, h2, h3⟩ := HD m2 hm2
              exact ⟨h1, h2, (h3.keep (EE.fix fun b hb _ hm => hb.2 hm.1)).mono (fun b _ hb => by have := hb.1; omega)⟩
            · exact ⟨HL, HM, HS.mono (fun b _ hb => by have := hb.1; change _ ≤ b at this; omega)⟩
      ·
        refine Stp_alloc zero_33 rfl ?_
        intro b11 w11 hb11 hz11 E11 B11
        have L11 : _ ≤ b11 := Nat.le_trans T.size (Nat.le_of_eq hb11.symm)
        have hx := hx.keep0 E11
        have T := T.keep0 E11
        have B1 := B1.keep0 E11
        have hL := hL.keep0 E11
        have K := K.keep0 E11
        refine ⟨⟨hx, B1, hL, K⟩, ?_⟩
        refine AW_one 5 (by decide +kernel) (Next.mk rfl rfl ?_)
        refine Stp_call ent_19 rfl rfl rfl (put_c (c := m.c) (x := x) hL) ?_
        rintro _ w12 ⟨E12, HZ, HY, rfl, HL, HM, HS⟩
        have Z12 := E12.size
        have hx := hx.keep0 E12
        have T := T.keep0 E12
        have B1 := B1.keep0 E12
        have hL := hL.keep0 E12
        have K := K.keep0 E12
        have B11 := B11.keep0 E12
        have HS := HS.bd
        refine ⟨⟨hx, B1, hL, K⟩, ?_⟩
        refine AW_take 6 rfl rfl (by decide +kernel) (by decide +kernel) (by decide +kernel) (fun w ⟨hx, B1, hL, K⟩ => Ev_mvt (.inl rfl) rfl) ⟨hx, B1, hL, K⟩ ?_
        refine AW_take 7 rfl rfl (by decide +kernel) (by decide +kernel) (by decide +kernel) (fun w ⟨hx, B1, hL, K⟩ => Ev_extract (vs := _) rfl rfl rfl) ⟨hx, B1, hL, K⟩ ?_
        refine AW_take 8 rfl rfl (by decide +kernel) (by decide +kernel) (by decide +kernel) (fun w ⟨hx, B1, hL, K⟩ => Ev_extract (vs := _) rfl rfl rfl) ⟨hx, B1, hL, K⟩ ?_
        refine AW_one 10 (by decide +kernel) (Next.mk rfl rfl ?_)
        refine Stp_store (q := 0) (vs := [.int _ _, .slice _ _ _, .int _ _, .int _ _, .int _ _, .int _ _, .int _ _, .int _ _, .int _ _]) B11 siz_33 rfl rfl rfl rfl (Nat.le_of_ble_eq_true rfl) rfl ?_
        intro w13 hz13 E13 B13
        have Z13 := E13.size
        have hx := hx.keepb E13 (by intro h; first | omega | (change _ < _ at h; omega) | (change _ ≤ _ at h; omega) | (have h1 := h.1; have h2 := h.2; first | omega | (change _ ≤ _ at h1; omega) | (change _ < _ at h1; omega)))
        have T := T.transb E13 (by omega)
        have B1 := B1.keepb E13 (by intro h; first | omega | (change _ < _ at h; omega) | (change _ ≤ _ at h; omega) | (have h1 := h.1; have h2 := h.2; first | omega | (change _ ≤ _ at h1; omega) | (change _ < _ at h1; omega)))
        have hL := hL.keepb E13 (by intro h; first | omega | (change _ < _ at h; omega) | (change _ ≤ _ at h; omega) | (have h1 := h.1; have h2 := h.2; first | omega | (change _ ≤ _ at h1; omega) | (change _ < _ at h1; omega)))
        have K := K.keepb E13 (by intro h; first | omega | (change _ < _ at h; omega) | (change _ ≤ _ at h; omega) | (have h1 := h.1; have h2 := h.2; first | omega | (change _ ≤ _ at h1; omega) | (change _ < _ at h1; omega)))
        have HS := HS.keepb E13 (by intro h; first | omega | (change _ < _ at h; omega) | (change _ ≤ _ at h; omega) | (have h1 := h.1; have h2 := h.2; first | omega | (change _ ≤ _ at h1; omega) | (change _ < _ at h1; omega)))
        clear B11
        have B11 : Blk _ _ _ [_, _, _, _, _, _, _, _, _] := B13
        clear B13
        refine ⟨⟨hx, B1, hL, K⟩, ?_⟩
        refine AW_take 11 rfl rfl (by decide +kernel) (by decide +kernel) (by decide +kernel) (fun w ⟨hx, B1, hL, K⟩ => Ev_mvi (.inr rfl) rfl) ⟨hx, B1, hL, K⟩ ?_
        refine AW_done (by decide +kernel) ?_
        refine CW_seq ?_
        refine CW_seq ?_
        refine CW_re [(0, .slice _ _ _), (4, .slice _ _ _), (5, .int _ _), (6, .int _ _), (7, .pointer _), (8, .int _ _)] ⟨rfl, rfl, rfl, rfl, rfl, rfl, trivial⟩ (fun g => ?_)
        refine CW_reg rfl ?_
        refine OW_ev (Ev_mvi (.inl rfl) rfl) rfl ?_
        refine OW_ev (Ev_neq rfl rfl rfl) rfl ?_
        refine OW_nil ?_
        refine CW_cond rfl (fun c14 => ?_) (fun c14 => ?_)
        · have d14 := c14
          first | (with_reducible replace d14 := of_decide_eq_true d14) | (with_reducible replace d14 := bnt d14; try (with_reducible replace d14 := of_decide_eq_false d14)) | skip
          have hp : offer (ms.map RgM.r) x = ([], (m.r.put x).2) := by rw [hp0, if_pos d14]
          refine CW_seq ?_
          refine CW_reg rfl ?_
          refine OW_ev (Ev_mvi (.inl rfl) rfl) rfl ?_
          refine OW_ev (Ev_c (.inr rfl)) rfl ?_
          refine OW_ev (Ev_mvi (.inr rfl) rfl) rfl ?_
          refine OW_nil ?_
          refine CW_ret ?_
          refine ⟨rfl, _, (.tmp rfl (.tmp rfl .nil)), ?_⟩
          rw [hp]
          exact ⟨T, none, 0, [], rfl, rfl, Nat.le_refl _, Nat.zero_le _, Sl.nil _ _ _ _, fun _ h => (nomatch h)⟩
        · have d14 := c14
          first | (with_reducible replace d14 := of_decide_eq_false d14) | (with_reducible replace d14 := bnf d14; try (with_reducible replace d14 := of_decide_eq_true d14)) | skip
          have hput : (m.r.put x).2 = 0 := by omega
          have hp : offer (ms.map RgM.r) x = ((ms.map RgM.r).set i (m.r.put x).1, 0) := by rw [hp0, if_neg (by simp [hput])]
          have hl2 : ∀ m ∈ ms, RgS (fun b => b < w.heap.size) _ m.r m.ao m.c := fun m hm => ⟨(hl m hm).1, (hl m hm).2.1, (hl m hm).2.2.old.keep0 T⟩
          refine CW_skip ?_
          refine CW_seq ?_
          refine CW_reg rfl ?_
          refine OW_ev (Ev_mvs (.inl rfl) rfl) rfl ?_
          refine OW_st rfl (Stp_call ent_20 rfl rfl rfl (copied_c hms ⟨hx, hl2⟩ hnl hlen) ?_)
          rintro _ w15 ⟨E15, ms', hr, O, HD⟩
          have Z15 := E15.size
          have hx := hx.keep0 E15
          have T := T.keep0 E15
          have B1 := B1.keep0 E15
          have hL := hL.keep0 E15
          have K := K.keep0 E15
          have B11 := B11.keep0 E15
          have HS := HS.keep0 E15
          have hlen2 : ms'.length = n := by have := congrArg List.length hr; simpa [hms] using this
          obtain ⟨m', hm'⟩ : ∃ m', ms'[i]? = some m' := ⟨ms'[i], List.getElem?_eq_getElem (by omega)⟩
          have hget' : (ms'.map RgM.cl)[i]? = some m'.cl := by rw [List.getElem?_map, hm']; rfl
          obtain ⟨a3, q3, rfl, l3, m3, S3⟩ := O.sl
          have hgl := O.blk (Sl.ne hget')
          refine OW_ev (Ev_mvs (.inr rfl) rfl) rfl ?_
          refine OW_nil ?_
          refine CW_seq ?_
          refine CW_reg rfl ?_
          refine OW_ev (Ev_mvs (.inl rfl) rfl) rfl ?_
          refine OW_ev (Ev_mvi (.inl rfl) rfl) rfl ?_
          refine OW_ev (Ev_loadAgg (l := [.int _ _, .slice _ _ _, .int _ _, .int _ _, .int _ _, .int _ _, .int _ _, .int _ _, .int _ _]) agg_33 rfl rfl (B11.sub 0 9 (Nat.le_of_ble_eq_true rfl)) rfl) rfl ?_
          refine OW_ev (Ev_idx i (S3.ad hget') sl_24 rfl rfl rfl hi (by simp; omega)) rfl ?_
          refine OW_st rfl (Stp_storeOwn (vs := [.int _ _, .slice _ _ _, .int _ _, .int _ _, .int _ _, .int _ _, .int _ _, .int _ _, .int _ _]) (i) 0 O rfl hget' siz_33 rfl rfl rfl rfl (Nat.le_of_ble_eq_true rfl) rfl ?_)
          intro w16 hz16 E16 O16
          have Z16 := E16.size
          have hx := hx.keepo E16 (fun b hb hl he => by first | omega | (have := hsp b he; omega) | (change b < _ at hb; omega) | (change _ ≤ b at hb; omega) | (have h1 := hb.1; have h2 := hb.2; first | omega | (change _ ≤ _ at h1; omega) | (change _ < _ at h1; omega)))
          have T := T.transo E16 (by omega)
          have B1 := B1.keepo E16 (fun b hb hl he => by first | omega | (have := hsp b he; omega) | (change b < _ at hb; omega) | (change _ ≤ b at hb; omega) | (have h1 := hb.1; have h2 := hb.2; first | omega | (change _ ≤ _ at h1; omega) | (change _ < _ at h1; omega)))
          have B11 := B11.keepo E16 (fun b hb hl he => by first | omega | (have := hsp b he; omega) | (change b < _ at hb; omega) | (change _ ≤ b at hb; omega) | (have h1 := hb.1; have h2 := hb.2; first | omega | (change _ ≤ _ at h1; omega) | (change _ < _ at h1; omega)))
          have HS := HS.keepo E16 (fun b hb _ he => absurd (hgl b he).2 (by have := hb.2; omega))
          have O := O16
          clear O16
          have EE := E16
          refine OW_nil ?_
          refine CW_seq ?_
          refine CW_reg rfl ?_
          refine OW_ev (Ev_mvs (.inl rfl) rfl) rfl ?_
          refine OW_ev (Ev_mvs (.inr rfl) rfl) rfl ?_
          refine OW_ev (Ev_c (.inr rfl)) rfl ?_
          refine OW_nil ?_
          refine CW_ret ?_
          refine ⟨rfl, _, (.tmp rfl (.tmp rfl .nil)), ?_⟩
          rw [hp]
          refine ⟨T, a3, q3, ms'.set i ⟨(m.r.put x).1, HZ, HY⟩, ?_, ?_, ?_, m3, ?_, ?_⟩
          · show Value.tuple #[.slice a3 (ms'.map RgM.cl).length q3, .int .i64 0] = _; simp
          · rw [List.map_set, hr]
          · simpa using l3
          · have hO : Own _ _ _ _ _ ((ms'.map RgM.cl).set i (RgM.mk (m.r.put x).1 HZ HY).cl) := O
            rw [List.map_set]; exact hO.sls.mono (fun b _ hb => by change _ ≤ b at hb; omega)
          · intro m2 hm2
            rcases List.mem_or_eq_of_mem_set hm2 with hm2 | rfl
            · obtain ⟨h1, h2, h3⟩ := HD m2 hm2
              exact ⟨h1, h2, (h3.keep (EE.fix fun b hb _ hm => hb.2 hm.1)).mono (fun b _ hb => by have := hb.1; omega)⟩
            · exact ⟨HL, HM, HS.mono (fun b _ hb => by have := hb.1; change _ ≤ b at this; omega)⟩
  · have d2 := c2
    first | (with_reducible replace d2 := of_decide_eq_false d2) | (with_reducible replace d2 := bnf d2; try (with_reducible replace d2 := of_decide_eq_true d2)) | skip
    have hpt : ¬ x.e.part = -1 := d2
    refine CW_seq ?_
    refine CW_reg rfl ?_
    refine OW_ev (Ev_mvi (.inl rfl) rfl) rfl ?_
    refine OW_ev (Ev_mvs (.inl rfl) rfl) rfl ?_
    refine OW_ev (Ev_len und_24 rfl rfl) rfl ?_
    refine OW_ev (Ev_sub rfl rfl rfl (by first | (apply IntWalk.i64_in; omega) | (apply IntWalk.u64_in; omega) | (apply IntWalk.u32_in; omega) | (apply IntWalk.u8_in; omega) | (apply IntWalk.i32_in; omega) | rfl)) rfl ?_
    refine OW_ev (Ev_geq rfl rfl rfl) rfl ?_
    refine OW_nil ?_
    refine CW_cond rfl (fun c17 => ?_) (fun c17 => ?_)
    · have d17 := c17
      first | (with_reducible replace d17 := of_decide_eq_true d17) | (with_reducible replace d17 := bnt d17; try (with_reducible replace d17 := of_decide_eq_false d17)) | skip
      have hp : offer (ms.map RgM.r) x = ([], 1) := offer_no (.inl ⟨hpt, by simp; omega⟩)
      refine CW_seq ?_
      refine CW_reg rfl ?_
      refine OW_ev (Ev_c (.inr rfl)) rfl ?_
      refine OW_ev (Ev_c (.inr rfl)) rfl ?_
      refine OW_nil ?_
      refine CW_ret ?_
      refine ⟨rfl, _, (.tmp rfl (.tmp rfl .nil)), ?_⟩
      rw [hp]
      exact ⟨T, none, 0, [], rfl, rfl, Nat.le_refl _, Nat.zero_le _, Sl.nil _ _ _ _, fun _ h => (nomatch h)⟩
    · have d17 := c17
      first | (with_reducible replace d17 := of_decide_eq_false d17) | (with_reducible replace d17 := bnf d17; try (with_reducible replace d17 := of_decide_eq_true d17)) | skip
      refine CW_skip ?_
      refine CW_seq ?_
      refine CW_seq ?_
      refine CW_reg rfl ?_
      refine OW_ev (Ev_mvi (.inl rfl) rfl) rfl ?_
      refine OW_ev (Ev_lss rfl rfl rfl) rfl ?_
      refine OW_nil ?_
      refine CW_cond rfl (fun c18 => ?_) (fun c18 => ?_)
      · have d18 := c18
        first | (with_reducible replace d18 := of_decide_eq_true d18) | (with_reducible replace d18 := bnt d18; try (with_reducible replace d18 := of_decide_eq_false d18)) | skip
        have hp : offer (ms.map RgM.r) x = ([], 1) := offer_no (.inr (by unfold offerAt; simp; omega))
        refine CW_seq ?_
        refine CW_re [(0, .slice _ _ _), (3, .pointer _), (4, .slice _ _ _), (5, .int _ _), (6, .int _ _)] ⟨rfl, rfl, rfl, rfl, rfl, trivial⟩ (fun g => ?_)
        refine CW_reg rfl ?_
        refine OW_ev (Ev_c (.inr rfl)) rfl ?_
        refine OW_ev (Ev_c (.inr rfl)) rfl ?_
        refine OW_nil ?_
        refine CW_ret ?_
        refine ⟨rfl, _, (.tmp rfl (.tmp rfl .nil)), ?_⟩
        rw [hp]
        exact ⟨T, none, 0, [], rfl, rfl, Nat.le_refl _, Nat.zero_le _, Sl.nil _ _ _ _, fun _ h => (nomatch h)⟩
      · have d18 := c18
        first | (with_reducible replace d18 := of_decide_eq_false d18) | (with_reducible replace d18 := bnf d18; try (with_reducible replace d18 := of_decide_eq_true d18)) | skip
        obtain ⟨i, hi, hin⟩ : ∃ i : Nat, x.e.part = (i : Int) ∧ i < n := ⟨(x.e.part).toNat, by omega, by omega⟩
        obtain ⟨m, hm⟩ : ∃ m, ms[i]? = some m := ⟨ms[i], List.getElem?_eq_getElem (by omega)⟩
        have hat : offerAt (ms.map RgM.r).length x = (i : Int) := by unfold offerAt; simp; omega
        have hp0 := offer_at (l := ms.map RgM.r) (x := x) (i := i) (r := m.r) (by simp; omega) hat (by rw [List.getElem?_map, hm]; rfl)
        have hget : (ms.map RgM.cl)[i]? = some m.cl := by rw [List.getElem?_map, hm]; rfl
        have hmin : m ∈ ms := List.mem_of_getElem? hm
        have hL := (hl m hmin).2.2.keep0 T
        have hL := hL.old
        have K := hx.at_ hget
        have hKb : ablk ao < w.heap.size := (hx.2 (Sl.ne hget)).2.1
        refine CW_skip ?_
        refine CW_seq ?_
        refine CW_re [(0, .slice _ _ _), (3, .pointer _), (4, .slice _ _ _), (5, .int _ _), (6, .int _ _)] ⟨rfl, rfl, rfl, rfl, rfl, trivial⟩ (fun g => ?_)
        refine CW_draw (fun W => hx.here W ∧ B1.here W ∧ hL.here W ∧ K.here W) mixed rfl (fun _ _ _ h => nomatch h.1) ?_
        have E19 : Kp0 _ _ := Kp.drew w1 nob
        have Z19 : (World.drew w1).heap.size = w1.heap.size := rfl
        generalize World.drew w1 = w19 at E19 Z19 ⊢
        have hx := hx.keep0 E19
        have T := T.keep0 E19
        have B1 := B1.keep0 E19
        have hL := hL.keep0 E19
        have K := K.keep0 E19
        refine AW_take 0 rfl rfl (by decide +kernel) (by decide +kernel) (by decide +kernel) (fun w ⟨hx, B1, hL, K⟩ => Ev_mvs (.inl rfl) rfl) ⟨hx, B1, hL, K⟩ ?_
        refine AW_take 1 rfl rfl (by decide +kernel) (by decide +kernel) (by decide +kernel) (fun w ⟨hx, B1, hL, K⟩ => Ev_mvi (.inl rfl) rfl) ⟨hx, B1, hL, K⟩ ?_
        refine AW_take 2 rfl rfl (by decide +kernel) (by decide +kernel) (by decide +kernel) (fun w ⟨hx, B1, hL, K⟩ => Ev_idx i (hx.ad hget) sl_24 rfl rfl rfl hi hin) ⟨hx, B1, hL, K⟩ ?_
        refine AW_take 3 rfl rfl (by decide +kernel) (by decide +kernel) (by decide +kernel) (fun w ⟨hx, B1, hL, K⟩ => Ev_loadAgg (l := [.int _ _, .slice _ _ _, .int _ _, .int _ _, .int _ _, .int _ _, .int _ _, .int _ _, .int _ _]) agg_33 rfl rfl (K.sub 0 rfl) rfl) ⟨hx, B1, hL, K⟩ ?_
        refine AW_take 4 rfl rfl (by decide +kernel) (by decide +kernel) (by decide +kernel) (fun w ⟨hx, B1, hL, K⟩ => Ev_loadAgg (l := [.int _ _, .int _ _, .int _ _, .int _ _, .int _ _, .int _ _, .int _ _]) agg_31 rfl rfl (B1.sub 0 7 (Nat.le_of_ble_eq_true rfl)) rfl) ⟨hx, B1, hL, K⟩ ?_
        refine AW_two 5 9 (by decide +kernel) (Next.mk rfl rfl ?_) (Next.mk rfl rfl ?_)
        ·
          refine Stp_call ent_19 rfl rfl rfl (put_c (c := m.c) (x := x) hL) ?_
          rintro _ w20 ⟨E20, HZ, HY, rfl, HL, HM, HS⟩
          have Z20 := E20.size
          have hx := hx.keep0 E20
          have T := T.keep0 E20
          have B1 := B1.keep0 E20
          have hL := hL.keep0 E20
          have K := K.keep0 E20
          have HS := HS.bd
          refine ⟨⟨hx, B1, hL, K⟩, ?_⟩
          refine AW_take 6 rfl rfl (by decide +kernel) (by decide +kernel) (by decide +kernel) (fun w ⟨hx, B1, hL, K⟩ => Ev_mvt (.inl rfl) rfl) ⟨hx, B1, hL, K⟩ ?_
          refine AW_take 7 rfl rfl (by decide +kernel) (by decide +kernel) (by decide +kernel) (fun w ⟨hx, B1, hL, K⟩ => Ev_extract (vs := _) rfl rfl rfl) ⟨hx, B1, hL, K⟩ ?_
          refine AW_take 8 rfl rfl (by decide +kernel) (by decide +kernel) (by decide +kernel) (fun w ⟨hx, B1, hL, K⟩ => Ev_extract (vs := _) rfl rfl rfl) ⟨hx, B1, hL, K⟩ ?_
          refine AW_one 9 (by decide +kernel) (Next.mk rfl rfl ?_)
          refine Stp_alloc zero_33 rfl ?_
          intro b21 w21 hb21 hz21 E21 B21
          have L21 : _ ≤ b21 := Nat.le_trans T.size (Nat.le_of_eq hb21.symm)
          have hx := hx.keep0 E21
          have T := T.keep0 E21
          have B1 := B1.keep0 E21
          have hL := hL.keep0 E21
          have K := K.keep0 E21
          have HS := HS.keep0 E21
          refine ⟨⟨hx, B1, hL, K⟩, ?_⟩
          refine AW_one 10 (by decide +kernel) (Next.mk rfl rfl ?_)
          refine Stp_store (q := 0) (vs := [.int _ _, .slice _ _ _, .int _ _, .int _ _, .int _ _, .int _ _, .int _ _, .int _ _, .int _ _]) B21 siz_33 rfl rfl rfl rfl (Nat.le_of_ble_eq_true rfl) rfl ?_
          intro w22 hz22 E22 B22
          have Z22 := E22.size
          have hx := hx.keepb E22 (by intro h; first | omega | (change _ < _ at h; omega) | (change _ ≤ _ at h; omega) | (have h1 := h.1; have h2 := h.2; first | omega | (change _ ≤ _ at h1; omega) | (change _ < _ at h1; omega)))
          have T := T.transb E22 (by omega)
          have B1 := B1.keepb E22 (by intro h; first | omega | (change _ < _ at h; omega) | (change _ ≤ _ at h; omega) | (have h1 := h.1; have h2 := h.2; first | omega | (change _ ≤ _ at h1; omega) | (change _ < _ at h1; omega)))
          have hL := hL.keepb E22 (by intro h; first | omega | (change _ < _ at h; omega) | (change _ ≤ _ at h; omega) | (have h1 := h.1; have h2 := h.2; first | omega | (change _ ≤ _ at h1; omega) | (change _ < _ at h1; omega)))
          have K := K.keepb E22 (by intro h; first | omega | (change _ < _ at h; omega) | (change _ ≤ _ at h; omega) | (have h1 := h.1; have h2 := h.2; first | omega | (change _ ≤ _ at h1; omega) | (change _ < _ at h1; omega)))
          have HS := HS.keepb E22 (by intro h; first | omega | (change _ < _ at h; omega) | (change _ ≤ _ at h; omega) | (have h1 := h.1; have h2 := h.2; first | omega | (change _ ≤ _ at h1; omega) | (change _ < _ at h1; omega)))
          clear B21
          have B21 : Blk _ _ _ [_, _, _, _, _, _, _, _, _] := B22
          clear B22
          refine ⟨⟨hx, B1, hL, K⟩, ?_⟩
          refine AW_take 11 rfl rfl (by decide +kernel) (by decide +kernel) (by decide +kernel) (fun w ⟨hx, B1, hL, K⟩ => Ev_mvi (.inr rfl) rfl) ⟨hx, B1, hL, K⟩ ?_
          refine AW_done (by decide +kernel) ?_
          refine CW_seq ?_
          refine CW_seq ?_
          refine CW_reg rfl ?_
          refine OW_ev (Ev_mvi (.inl rfl) rfl) rfl ?_
          refine OW_ev (Ev_neq rfl rfl rfl) rfl ?_
          refine OW_nil ?_
          refine CW_cond rfl (fun c23 => ?_) (fun c23 => ?_)
          · have d23 := c23
            first | (with_reducible replace d23 := of_decide_eq_true d23) | (with_reducible replace d23 := bnt d23; try (with_reducible replace d23 := of_decide_eq_false d23)) | skip
            have hp : offer (ms.map RgM.r) x = ([], (m.r.put x).2) := by rw [hp0, if_pos d23]
            refine CW_seq ?_
            refine CW_re [(0, .slice _ _ _), (4, .slice _ _ _), (5, .int _ _), (6, .int _ _), (7, .pointer _), (8, .int _ _)] ⟨rfl, rfl, rfl, rfl, rfl, rfl, trivial⟩ (fun g => ?_)
            refine CW_reg rfl ?_
            refine OW_ev (Ev_mvi (.inl rfl) rfl) rfl ?_
            refine OW_ev (Ev_c (.inr rfl)) rfl ?_
            refine OW_ev (Ev_mvi (.inr rfl) rfl) rfl ?_
            refine OW_nil ?_
            refine CW_ret ?_
            refine ⟨rfl, _, (.tmp rfl (.tmp rfl .nil)), ?_⟩
            rw [hp]
            exact ⟨T, none, 0, [], rfl, rfl, Nat.le_refl _, Nat.zero_le _, Sl.nil _ _ _ _, fun _ h => (nomatch h)⟩
          · have d23 := c23
            first | (with_reducible replace d23 := of_decide_eq_false d23) | (with_reducible replace d23 := bnf d23; try (with_reducible replace d23 := of_decide_eq_true d23)) | skip
            have hput : (m.r.put x).2 = 0 := by omega
            have hp : offer (ms.map RgM.r) x = ((ms.map RgM.r).set i (m.r.put x).1, 0) := by rw [hp0, if_neg (by simp [hput])]
            have hl2 : ∀ m ∈ ms, RgS (fun b => b < w.heap.size) _ m.r m.ao m.c := fun m hm => ⟨(hl m hm).1, (hl m hm).2.1, (hl m hm).2.2.old.keep0 T⟩
            refine CW_skip ?_
            refine CW_seq ?_
            refine CW_re [(0, .slice _ _ _), (4, .slice _ _ _), (5, .int _ _), (6, .int _ _), (7, .pointer _)] ⟨rfl, rfl, rfl, rfl, rfl, trivial⟩ (fun g => ?_)
            refine CW_reg rfl ?_
            refine OW_ev (Ev_mvs (.inl rfl) rfl) rfl ?_
            refine OW_st rfl (Stp_call ent_20 rfl rfl rfl (copied_c hms ⟨hx, hl2⟩ hnl hlen) ?_)
            rintro _ w24 ⟨E24, ms', hr, O, HD⟩
            have Z24 := E24.size
            have hx := hx.keep0 E24
            have T := T.keep0 E24
            have B1 := B1.keep0 E24
            have hL := hL.keep0 E24
            have K := K.keep0 E24
            have HS := HS.keep0 E24
            have B21 := B21.keep0 E24
            have hlen2 : ms'.length = n := by have := congrArg List.length hr; simpa [hms] using this
            obtain ⟨m', hm'⟩ : ∃ m', ms'[i]? = some m' := ⟨ms'[i], List.getElem?_eq_getElem (by omega)⟩
            have hget' : (ms'.map RgM.cl)[i]? = some m'.cl := by rw [List.getElem?_map, hm']; rfl
            obtain ⟨a3, q3, rfl, l3, m3, S3⟩ := O.sl
            have hgl := O.blk (Sl.ne hget')
            refine OW_ev (Ev_mvs (.inr rfl) rfl) rfl ?_
            refine OW_nil ?_
            refine CW_seq ?_
            refine CW_reg rfl ?_
            refine OW_ev (Ev_mvs (.inl rfl) rfl) rfl ?_
            refine OW_ev (Ev_mvi (.inl rfl) rfl) rfl ?_
            refine OW_ev (Ev_loadAgg (l := [.int _ _, .slice _ _ _, .int _ _, .int _ _, .int _ _, .int _ _, .int _ _, .int _ _, .int _ _]) agg_33 rfl rfl (B21.sub 0 9 (Nat.le_of_ble_eq_true rfl)) rfl) rfl ?_
            refine OW_ev (Ev_idx i (S3.ad hget') sl_24 rfl rfl rfl hi (by simp; omega)) rfl ?_
            refine OW_st rfl (Stp_storeOwn (vs := [.int _ _, .slice _ _ _, .int _ _, .int _ _, .int _ _, .int _ _, .int _ _, .int _ _, .int _ _]) (i) 0 O rfl hget' siz_33 rfl rfl rfl rfl (Nat.le_of_ble_eq_true rfl) rfl ?_)
            intro w25 hz25 E25 O25
            have Z25 := E25.size
            have hx := hx.keepo E25 (fun b hb hl he => by first | omega | (have := hsp b he; omega) | (change b < _ at hb; omega) | (change _ ≤ b at hb; omega) | (have h1 := hb.1; have h2 := hb.2; first | omega | (change _ ≤ _ at h1; omega) | (change _ < _ at h1; omega)))
            have T := T.transo E25 (by omega)
            have B1 := B1.keepo E25 (fun b hb hl he => by first | omega | (have := hsp b he; omega) | (change b < _ at hb; omega) | (change _ ≤ b at hb; omega) | (have h1 := hb.1; have h2 := hb.2; first | omega | (change _ ≤ _ at h1; omega) | (change _ < _ at h1; omega)))
            have HS := HS.keepo E25 (fun b hb _ he => absurd (hgl b he).2 (by have := hb.2; omega))
            have B21 := B21.keepo E25 (fun b hb hl he => by first | omega | (have := hsp b he; omega) | (change b < _ at hb; omega) | (change _ ≤ b at hb; omega) | (have h1 := hb.1; have h2 := hb.2; first | omega | (change _ ≤ _ at h1; omega) | (change _ < _ at h1; omega)))
            have O := O25
            clear O25
            have EE := E25
            refine OW_nil ?_
            refine CW_seq ?_
            refine CW_reg rfl ?_
            refine OW_ev (Ev_mvs (.inl rfl) rfl) rfl ?_
            refine OW_ev (Ev_mvs (.inr rfl) rfl) rfl ?_
            refine OW_ev (Ev_c (.inr rfl)) rfl ?_
            refine OW_nil ?_
            refine CW_ret ?_
            refine ⟨rfl, _, (.tmp rfl (.tmp rfl .nil)), ?_⟩
            rw [hp]
            refine ⟨T, a3, q3, ms'.set i ⟨(m.r.put x).1, HZ, HY⟩, ?_, ?_, ?_, m3, ?_, ?_⟩
            · show Value.tuple #[.slice a3 (ms'.map RgM.cl).length q3, .int .i64 0] = _; simp
            · rw [List.map_set, hr]
            · simpa using l3
            · have hO : Own _ _ _ _ _ ((ms'.map RgM.cl).set i (RgM.mk (m.r.put x).1 HZ HY).cl) := O
              rw [List.map_set]; exact hO.sls.mono (fun b _ hb => by change _ ≤ b at hb; omega)
            · intro m2 hm2
              rcases List.mem_or_eq_of_mem_set hm2 with hm2 | rfl
              · obtain ⟨h1, h2, h3⟩ := HD m2 hm2
                exact ⟨h1, h2, (h3.keep (EE.fix fun b hb _ hm => hb.2 hm.1)).mono (fun b _ hb => by have := hb.1; omega)⟩
              · exact ⟨HL, HM, HS.mono (fun b _ hb => by have := hb.1; change _ ≤ b at this; omega)⟩
        ·
          refine Stp_alloc zero_33 rfl ?_
          intro b26 w26 hb26 hz26 E26 B26
          have L26 : _ ≤ b26 := Nat.le_trans T.size (Nat.le_of_eq hb26.symm)
          have hx := hx.keep0 E26
          have T := T.keep0 E26
          have B1 := B1.keep0 E26
          have hL := hL.keep0 E26
          have K := K.keep0 E26
          refine ⟨⟨hx, B1, hL, K⟩, ?_⟩
          refine AW_one 5 (by decide +kernel) (Next.mk rfl rfl ?_)
          refine Stp_call ent_19 rfl rfl rfl (put_c (c := m.c) (x := x) hL) ?_
          rintro _ w27 ⟨E27, HZ, HY, rfl, HL, HM, HS⟩
          have Z27 := E27.size
          have hx := hx.keep0 E27
          have T := T.keep0 E27
          have B1 := B1.keep0 E27
          have hL := hL.keep0 E27
          have K := K.keep0 E27
          have B26 := B26.keep0 E27
          have HS := HS.bd
          refine ⟨⟨hx, B1, hL, K⟩, ?_⟩
          refine AW_take 6 rfl rfl (by decide +kernel) (by decide +kernel) (by decide +kernel) (fun w ⟨hx, B1, hL, K⟩ => Ev_mvt (.inl rfl) rfl) ⟨hx, B1, hL, K⟩ ?_
          refine AW_take 7 rfl rfl (by decide +kernel) (by decide +kernel) (by decide +kernel) (fun w ⟨hx, B1, hL, K⟩ => Ev_extract (vs := _) rfl rfl rfl) ⟨hx, B1, hL, K⟩ ?_
          refine AW_take 8 rfl rfl (by decide +kernel) (by decide +kernel) (by decide +kernel) (fun w ⟨hx, B1, hL, K⟩ => Ev_extract (vs := _) rfl rfl rfl) ⟨hx, B1, hL, K⟩ ?_
          refine AW_one 10 (by decide +kernel) (Next.mk rfl rfl ?_)
          refine Stp_store (q := 0) (vs := [.int _ _, .slice _ _ _, .int _ _, .int _ _, .int _ _, .int _ _, .int _ _, .int _ _, .int _ _]) B26 siz_33 rfl rfl rfl rfl (Nat.le_of_ble_eq_true rfl) rfl ?_
          intro w28 hz28 E28 B28
          have Z28 := E28.size
          have hx := hx.keepb E28 (by intro h; first | omega | (change _ < _ at h; omega) | (change _ ≤ _ at h; omega) | (have h1 := h.1; have h2 := h.2; first | omega | (change _ ≤ _ at h1; omega) | (change _ < _ at h1; omega)))
          have T := T.transb E28 (by omega)
          have B1 := B1.keepb E28 (by intro h; first | omega | (change _ < _ at h; omega) | (change _ ≤ _ at h; omega) | (have h1 := h.1; have h2 := h.2; first | omega | (change _ ≤ _ at h1; omega) | (change _ < _ at h1; omega)))
          have hL := hL.keepb E28 (by intro h; first | omega | (change _ < _ at h; omega) | (change _ ≤ _ at h; omega) | (have h1 := h.1; have h2 := h.2; first | omega | (change _ ≤ _ at h1; omega) | (change _ < _ at h1; omega)))
          have K := K.keepb E28 (by intro h; first | omega | (change _ < _ at h; omega) | (change _ ≤ _ at h; omega) | (have h1 := h.1; have h2 := h.2; first | omega | (change _ ≤ _ at h1; omega) | (change _ < _ at h1; omega)))
          have HS := HS.keepb E28 (by intro h; first | omega | (change _ < _ at h; omega) | (change _ ≤ _ at h; omega) | (have h1 := h.1; have h2 := h.2; first | omega | (change _ ≤ _ at h1; omega) | (change _ < _ at h1; omega)))
          clear B26
          have B26 : Blk _ _ _ [_, _, _, _, _, _, _, _, _] := B28
          clear B28
          refine ⟨⟨hx, B1, hL, K⟩, ?_⟩
          refine AW_take 11 rfl rfl (by decide +kernel) (by decide +kernel) (by decide +kernel) (fun w ⟨hx, B1, hL, K⟩ => Ev_mvi (.inr rfl) rfl) ⟨hx, B1, hL, K⟩ ?_
          refine AW_done (by decide +kernel) ?_
          refine CW_seq ?_
          refine CW_seq ?_
          refine CW_reg rfl ?_
          refine OW_ev (Ev_mvi (.inl rfl) rfl) rfl ?_
          refine OW_ev (Ev_neq rfl rfl rfl) rfl ?_
          refine OW_nil ?_
          refine CW_cond rfl (fun c29 => ?_) (fun c29 => ?_)
          · have d29 := c29
            first | (with_reducible replace d29 := of_decide_eq_true d29) | (with_reducible replace d29 := bnt d29; try (with_reducible replace d29 := of_decide_eq_false d29)) | skip
            have hp : offer (ms.map RgM.r) x = ([], (m.r.put x).2) := by rw [hp0, if_pos d29]
            refine CW_seq ?_
            refine CW_re [(0, .slice _ _ _), (4, .slice _ _ _), (5, .int _ _), (6, .int _ _), (7, .pointer _), (8, .int _ _)] ⟨rfl, rfl, rfl, rfl, rfl, rfl, trivial⟩ (fun g => ?_)
            refine CW_reg rfl ?_
            refine OW_ev (Ev_mvi (.inl rfl) rfl) rfl ?_
            refine OW_ev (Ev_c (.inr rfl)) rfl ?_
            refine OW_ev (Ev_mvi (.inr rfl) rfl) rfl ?_
            refine OW_nil ?_
            refine CW_ret ?_
            refine ⟨rfl, _, (.tmp rfl (.tmp rfl .nil)), ?_⟩
            rw [hp]
            exact ⟨T, none, 0, [], rfl, rfl, Nat.le_refl _, Nat.zero_le _, Sl.nil _ _ _ _, fun _ h => (nomatch h)⟩
          · have d29 := c29
            first | (with_reducible replace d29 := of_decide_eq_false d29) | (with_reducible replace d29 := bnf d29; try (with_reducible replace d29 := of_decide_eq_true d29)) | skip
            have hput : (m.r.put x).2 = 0 := by omega
            have hp : offer (ms.map RgM.r) x = ((ms.map RgM.r).set i (m.r.put x).1, 0) := by rw [hp0, if_neg (by simp [hput])]
            have hl2 : ∀ m ∈ ms, RgS (fun b => b < w.heap.size) _ m.r m.ao m.c := fun m hm => ⟨(hl m hm).1, (hl m hm).2.1, (hl m hm).2.2.old.keep0 T⟩
            refine CW_skip ?_
            refine CW_seq ?_
            refine CW_re [(0, .slice _ _ _), (4, .slice _ _ _), (5, .int _ _), (6, .int _ _), (7, .pointer _)] ⟨rfl, rfl, rfl, rfl, rfl, trivial⟩ (fun g => ?_)
            refine CW_reg rfl ?_
            refine OW_ev (Ev_mvs (.inl rfl) rfl) rfl ?_
            refine OW_st rfl (Stp_call ent_20 rfl rfl rfl (copied_c hms ⟨hx, hl2⟩ hnl hlen) ?_)
            rintro _ w30 ⟨E30, ms', hr, O, HD⟩
            have Z30 := E30.size
            have hx := hx.keep0 E30
            have T := T.keep0 E30
            have B1 := B1.keep0 E30
            have hL := hL.keep0 E30
            have K := K.keep0 E30
            have B26 := B26.keep0 E30
            have HS := HS.keep0 E30
            have hlen2 : ms'.length = n := by have := congrArg List.length hr; simpa [hms] using this
            obtain ⟨m', hm'⟩ : ∃ m', ms'[i]? = some m' := ⟨ms'[i], List.getElem?_eq_getElem (by omega)⟩
            have hget' : (ms'.map RgM.cl)[i]? = some m'.cl := by rw [List.getElem?_map, hm']; rfl
            obtain ⟨a3, q3, rfl, l3, m3, S3⟩ := O.sl
            have hgl := O.blk (Sl.ne hget')
            refine OW_ev (Ev_mvs (.inr rfl) rfl) rfl ?_
            refine OW_nil ?_
            refine CW_seq ?_
            refine CW_reg rfl ?_
            refine OW_ev (Ev_mvs (.inl rfl) rfl) rfl ?_
            refine OW_ev (Ev_mvi (.inl rfl) rfl) rfl ?_
            refine OW_ev (Ev_loadAgg (l := [.int _ _, .slice _ _ _, .int _ _, .int _ _, .int _ _, .int _ _, .int _ _, .int _ _, .int _ _]) agg_33 rfl rfl (B26.sub 0 9 (Nat.le_of_ble_eq_true rfl)) rfl) rfl ?_
            refine OW_ev (Ev_idx i (S3.ad hget') sl_24 rfl rfl rfl hi (by simp; omega)) rfl ?_
            refine OW_st rfl (Stp_storeOwn (vs := [.int _ _, .slice _ _ _, .int _ _, .int _ _, .int _ _, .int _ _, .int _ _, .int _ _, .int _ _]) (i) 0 O rfl hget' siz_33 rfl rfl rfl rfl (Nat.le_of_ble_eq_true rfl) rfl ?_)
            intro w31 hz31 E31 O31
            have Z31 := E31.size
            have hx := hx.keepo E31 (fun b hb hl he => by first | omega | (have := hsp b he; omega) | (change b < _ at hb; omega) | (change _ ≤ b at hb; omega) | (have h1 := hb.1; have h2 := hb.2; first | omega | (change _ ≤ _ at h1; omega) | (change _ < _ at h1; omega)))
            have T := T.transo E31 (by omega)
            have B1 := B1.keepo E31 (fun b hb hl he => by first | omega | (have := hsp b he; omega) | (change b < _ at hb; omega) | (change _ ≤ b at hb; omega) | (have h1 := hb.1; have h2 := hb.2; first | omega | (change _ ≤ _ at h1; omega) | (change _ < _ at h1; omega)))
            have B26 := B26.keepo E31 (fun b hb hl he => by first | omega | (have := hsp b he; omega) | (change b < _ at hb; omega) | (change _ ≤ b at hb; omega) | (have h1 := hb.1; have h2 := hb.2; first | omega | (change _ ≤ _ at h1; omega) | (change _ < _ at h1; omega)))
            have HS := HS.keepo E31 (fun b hb _ he => absurd (hgl b he).2 (by have := hb.2; omega))
            have O := O31
            clear O31
            have EE := E31
            refine OW_nil ?_
            refine CW_seq ?_
            refine CW_reg rfl ?_
            refine OW_ev (Ev_mvs (.inl rfl) rfl) rfl ?_
            refine OW_ev (Ev_mvs (.inr rfl) rfl) rfl ?_
            refine OW_ev (Ev_c (.inr rfl)) rfl ?_
            refine OW_nil ?_
            refine CW_ret ?_
            refine ⟨rfl, _, (.tmp rfl (.tmp rfl .nil)), ?_⟩
            rw [hp]
            refine ⟨T, a3, q3, ms'.set i ⟨(m.r.put x).1, HZ, HY⟩, ?_, ?_, ?_, m3, ?_, ?_⟩
            · show Value.tuple #[.slice a3 (ms'.map RgM.cl).length q3, .int .i64 0] = _; simp
            · rw [List.map_set, hr]
            · simpa using l3
            · have hO : Own _ _ _ _ _ ((ms'.map RgM.cl).set i (RgM.mk (m.r.put x).1 HZ HY).cl) := O
              rw [List.map_set]; exact hO.sls.mono (fun b _ hb => by change _ ≤ b at hb; omega)
            · intro m2 hm2
              rcases List.mem_or_eq_of_mem_set hm2 with hm2 | rfl
              · obtain ⟨h1, h2, h3⟩ := HD m2 hm2
                exact ⟨h1, h2, (h3.keep (EE.fix fun b hb _ hm => hb.2 hm.1)).mono (fun b _ hb => by have := hb.1; omega)⟩
              · exact ⟨HL, HM, HS.mono (fun b _ hb => by have := hb.1; change _ ≤ b at this; omega)⟩

end Go.Proofs.Ytiedmigdgelhkaa