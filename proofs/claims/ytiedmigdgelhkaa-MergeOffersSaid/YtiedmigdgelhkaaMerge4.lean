/- Contract of merge.Drain. -/
import Derived.Test.YtiedmigdgelhkaaTypes
import Derived.Test.YtiedmigdgelhkaaMerge3
namespace Go.Proofs.Ytiedmigdgelhkaa
open Go Go.RowKit Bx Go.Proofs

set_option maxRecDepth 10000 in
set_option maxHeartbeats 2000000 in
theorem drain_c {F : Nat → Prop} {w : World} {ao : Option Addr} {c n : Nat} {ms : List RgM} {most : Int} (hms : ms.length = n) (h : RgsS F w ao ms) (hnl : ms.length ≤ 1000000) (hlen : ∀ m ∈ ms, m.r.l.length ≤ 1000000) : Calls Try.prog 9 #[.slice ao n c, .int .i64 most] w (Ret fun v w' => Kp0 w w' ∧ ∃ (a : Option Addr) (q : Nat) (a2 : Option Addr) (q2 : Nat) (xs : List Ent) (ms' : List RgM), v = .tuple #[.slice a xs.length q, .slice a2 ms'.length q2] ∧ xs = (drainN (drainRoom (ms.map RgM.r) most) (ms.map RgM.r)).1 ∧ ms'.map RgM.r = (drainN (drainRoom (ms.map RgM.r) most) (ms.map RgM.r)).2 ∧ xs.length ≤ q ∧ q ≤ maxLen ∧ ms'.length ≤ q2 ∧ q2 ≤ maxLen ∧ Sl (fun b => w.heap.size ≤ b) w' 7 a (xs.map Ent.cells) ∧ RgsS (fun b => w.heap.size ≤ b) w' a2 ms') := by
  obtain ⟨hx, hl⟩ := h
  have T : Kp0 w w := Kp.refl _ _
  refine calls_start Try.func9 rfl (n := 53) rfl rfl rfl ?_
  refine CW_seq ?_
  refine CW_reg rfl ?_
  refine OW_ev (Ev_c (.inr rfl)) rfl ?_
  refine OW_ev (Ev_c (.inr rfl)) rfl ?_
  refine OW_nil ?_
  refine CW_seq ?_
  refine CW_reg rfl ?_
  refine OW_ev (Ev_mvs (.inl rfl) rfl) rfl ?_
  refine OW_st rfl (Stp_call ent_20 rfl rfl rfl (copied_c hms ⟨hx, hl⟩ hnl hlen) ?_)
  rintro _ w1 ⟨E1, ms1, hr1, O, HD1⟩
  have Z1 := E1.size
  have hx := hx.keep0 E1
  have T := T.keep0 E1
  have hml1 : ms1.length = n := by have := congrArg List.length hr1; simpa [hms] using this
  obtain ⟨a3, c3, hv3, lc3, mc3, _⟩ := O.sl
  rw [List.length_map, hml1] at hv3 lc3
  subst hv3
  have hspl : 0 < n → ∀ b, (Value.slice a3 n c3).ownBlock = some b → b < w1.heap.size := fun h0 b hb => (O.blk (by intro e; simp at e; subst e; simp at hml1; omega) b hb).1
  have Hcp : Kp0 w w1 := T
  have hlc : ∀ m ∈ ms, RgS F w1 m.r m.ao m.c := fun m hm => ⟨(hl m hm).1, (hl m hm).2.1, (hl m hm).2.2.keep0 T⟩
  have R0 : Kp0 w1 w1 := Kp.refl _ _
  have wcpz : w1.heap.size = w1.heap.size := rfl
  obtain ⟨cz, hcz⟩ : ∃ cz, w1.heap.size = cz := ⟨_, rfl⟩
  have hspl : 0 < n → ∀ b, (Value.slice a3 n c3).ownBlock = some b → b < cz := fun h0 b hb => hcz ▸ hspl h0 b hb
  have hwcz : w.heap.size ≤ cz := hcz ▸ T.size
  refine OW_ev (Ev_mvs (.inr rfl) rfl) rfl ?_
  refine OW_nil ?_
  refine CW_seq ?_
  refine CW_reg rfl ?_
  refine OW_ev (Ev_mvi (.inl rfl) rfl) rfl ?_
  refine OW_ev (Ev_mvs (.inl rfl) rfl) rfl ?_
  refine OW_st rfl (Stp_call ent_10 rfl rfl rfl (held_c hms (by omega) ⟨hx, hlc⟩) ?_)
  rintro _ w2 ⟨E2, rfl⟩
  have Z2 := E2.size
  have hx := hx.keep0 E2
  have T := T.keep0 E2
  have O := O.keep0 E2
  have R0 := R0.keep0 E2
  refine OW_ev (Ev_min3 rfl rfl rfl rfl) rfl ?_
  refine OW_ev (Ev_max2 rfl rfl rfl) rfl ?_
  obtain ⟨rm, hrm⟩ : ∃ rm : Nat, max 0 (min (min most 1000) (heldOf (ms.map RgM.r))) = (rm : Int) := ⟨drainRoom (ms.map RgM.r) most, by unfold drainRoom; omega⟩
  have hrd : drainRoom (ms.map RgM.r) most = rm := by unfold drainRoom; omega
  have hrmle : rm ≤ 1000 := by omega
  have hrmx : rm ≤ maxLen := by simp only [maxLen]; omega
  refine OW_ev (Ev_mvi (.inr rfl) rfl) rfl ?_
  refine OW_nil ?_
  refine CW_seq ?_
  refine CW_reg rfl ?_
  refine OW_ev (Ev_mvi (.inl rfl) rfl) rfl ?_
  refine OW_st rfl (Stp_makeSlice el_26 rfl rfl rfl hrm hrm (Nat.le_refl _) (by omega) (by simp only [maxLen]; omega) zero_31 ?_)
  intro b3 w3 hb3 hz3 E3 B3
  have L3 : _ ≤ b3 := Nat.le_trans T.size (Nat.le_of_eq hb3.symm)
  have L3 : _ ≤ b3 := Nat.le_trans R0.size (Nat.le_of_eq hb3.symm)
  have hx := hx.keep0 E3
  have T := T.keep0 E3
  have O := O.keep0 E3
  have R0 := R0.keep0 E3
  obtain ⟨br, rfl⟩ : ∃ br, br = b3 := ⟨_, rfl⟩
  have P : Own w.heap.size w3 31 7 (.slice (some ⟨br, 0, none⟩) 0 rm) [] := Own.made B3 rfl (by omega) hrmx
  have hbrl : br < w3.heap.size := by omega
  have hczb : cz ≤ br := by omega
  refine OW_ev (Ev_mvi (.inl rfl) rfl) rfl ?_
  refine OW_ev (Ev_slice_zhm 0 rm sl_26 rfl rfl rfl rfl rfl rfl hrm (Nat.zero_le _) (Nat.le_refl _)) rfl ?_
  refine OW_ev (Ev_mvs (.inr rfl) rfl) rfl ?_
  refine OW_nil ?_
  refine CW_seq ?_
  refine CW_block ?_
  refine CW_loop (α := Nat) (fun (k : Nat) f wr => ∃ (xs : List Ent) (ms' : List RgM), xs.length = k ∧ k ≤ rm ∧ ms'.length = n ∧ drainN rm (ms.map RgM.r) = (xs ++ (drainN (rm - k) (ms'.map RgM.r)).1, (drainN (rm - k) (ms'.map RgM.r)).2) ∧ f 6 = .slice a3 n c3 ∧ f 7 = .int .i64 (rm : Int) ∧ f 8 = .slice (some ⟨br, 0, none⟩) k rm ∧ Own w.heap.size wr 33 9 (.slice a3 n c3) (ms'.map RgM.cl) ∧ (∀ m ∈ ms', RgS (fun b => w.heap.size ≤ b ∧ (Value.slice a3 n c3).ownBlock ≠ some b ∧ b ≠ br) wr m.r m.ao m.c) ∧ (∀ m ∈ ms', m.r.l.length ≤ 1000000) ∧ Own w.heap.size wr 31 7 (.slice (some ⟨br, 0, none⟩) k rm) (xs.map Ent.cells) ∧ Kp0 w wr ∧ br < wr.heap.size) (fun k => rm - k) 0 ?_ ?_
  ·
    refine ⟨[], ms1, rfl, Nat.zero_le _, hml1, by rw [hr1]; simp, rfl, congrArg (Value.int .i64) hrm, rfl, O, fun m hm => ?_, ?_, P, T, hbrl⟩
    · have hn0 : 0 < n := by have := List.length_pos_of_mem hm; omega
      exact ⟨(HD1 m hm).1, (HD1 m hm).2.1, ((HD1 m hm).2.2.bd.keep0 R0).mono fun b _ hb => ⟨hb.1.1, hb.1.2, by have := hb.2; omega⟩⟩
    · intro m hm
      have : m.r ∈ ms.map RgM.r := hr1 ▸ List.mem_map_of_mem hm
      obtain ⟨m0, h0, h1⟩ := List.mem_map.1 this
      rw [← h1]; exact hlen m0 h0
  ·
    rintro k f wr ⟨xs, ms', hxl, hkr, hml, hdr, h6, h7, h8, O, HD, hlen', P, T, hbrl⟩
    obtain ⟨g, rfl⟩ := re3 h6 h7 h8
    clear h6 h7 h8
    have R : Kp (fun b => (Value.slice a3 n c3).ownBlock = some b ∨ b = br) wr wr := Kp.refl _ _
    refine CW_seq ?_
    refine CW_seq ?_
    refine CW_reg rfl ?_
    refine OW_ev (Ev_mvs (.inl rfl) rfl) rfl ?_
    refine OW_ev (Ev_len und_26 rfl rfl) rfl ?_
    refine OW_ev (Ev_mvi (.inl rfl) rfl) rfl ?_
    refine OW_ev (Ev_lss rfl rfl rfl) rfl ?_
    refine OW_nil ?_
    refine CW_cond rfl (fun c4 => ?_) (fun c4 => ?_)
    · have d4 := c4
      first | (with_reducible replace d4 := of_decide_eq_true d4) | (with_reducible replace d4 := bnt d4; try (with_reducible replace d4 := of_decide_eq_false d4)) | skip
      have hk : k < rm := by omega
      obtain ⟨j, hj⟩ : ∃ j, rm - k = j + 1 := ⟨rm - k - 1, by omega⟩
      have hj2 : rm - (k + 1) = j := by omega
      refine CW_skip ?_
      refine CW_block ?_
      refine CW_seq ?_
      refine CW_reg rfl ?_
      refine OW_ev (Ev_mvs (.inl rfl) rfl) rfl ?_
      refine OW_st rfl (Stp_call ent_17 rfl rfl rfl (first_c hml (by omega) ⟨O.sls, fun m hm => ⟨(HD m hm).1, (HD m hm).2.1, (HD m hm).2.2.mono (fun b _ hb => hb.1)⟩⟩) ?_)
      rintro _ w5 ⟨E5, rfl⟩
      have Z5 := E5.size
      have O := O.keep0 E5
      have P := P.keep0 E5
      have T := T.keep0 E5
      have R := R.keep0 E5
      refine OW_ev (Ev_mvi (.inr rfl) rfl) rfl ?_
      refine OW_nil ?_
      refine CW_seq ?_
      refine CW_seq ?_
      refine CW_reg rfl ?_
      refine OW_ev (Ev_mvi (.inl rfl) rfl) rfl ?_
      refine OW_ev (Ev_lss rfl rfl rfl) rfl ?_
      refine OW_nil ?_
      refine CW_cond rfl (fun c6 => ?_) (fun c6 => ?_)
      · have d6 := c6
        first | (with_reducible replace d6 := of_decide_eq_true d6) | (with_reducible replace d6 := bnt d6; try (with_reducible replace d6 := of_decide_eq_false d6)) | skip
        have hfin : drainN rm (ms.map RgM.r) = (xs, ms'.map RgM.r) := by rw [hdr, drainN_neg d6]; simp
        refine CW_exit ?_
        refine blk_other rfl ?_
        refine blk_same ?_
        refine CW_seq ?_
        refine CW_reg rfl ?_
        refine OW_ev (Ev_mvs (.inl rfl) rfl) rfl ?_
        refine OW_ev (Ev_mvs (.inl rfl) rfl) rfl ?_
        refine OW_ev (Ev_mvs (.inr rfl) rfl) rfl ?_
        refine OW_ev (Ev_mvs (.inr rfl) rfl) rfl ?_
        refine OW_nil ?_
        refine CW_ret ?_
        refine ⟨rfl, _, (.tmp rfl (.tmp rfl .nil)), ?_⟩
        refine ⟨T, some ⟨br, 0, none⟩, rm, a3, c3, xs, ms', ?_, ?_, ?_, ?_, ?_, ?_, ?_, ?_, ?_⟩
        · show Value.tuple #[.slice (some ⟨br, 0, none⟩) k rm, .slice a3 n c3] = _; rw [hxl, hml]
        · rw [hrd, hfin]
        · rw [hrd, hfin]
        · exact hxl ▸ hkr
        · exact hrmx
        · exact hml ▸ lc3
        · exact mc3
        · exact P.sls
        · exact ⟨O.sls, fun m hm => ⟨(HD m hm).1, (HD m hm).2.1, ((HD m hm).2.2.keep (R.fix fun b hb hl hm => by rcases hm with h | h; exact hb.2.1 h; exact hb.2.2 h)).mono (fun b _ hb => hb.1)⟩⟩
      · have d6 := c6
        first | (with_reducible replace d6 := of_decide_eq_false d6) | (with_reducible replace d6 := bnf d6; try (with_reducible replace d6 := of_decide_eq_true d6)) | skip
        have hfb := firstOf_bd (ms'.map RgM.r)
        rw [List.length_map, hml] at hfb
        obtain ⟨i, hi⟩ : ∃ i : Nat, firstOf (ms'.map RgM.r) = (i : Int) := ⟨(firstOf (ms'.map RgM.r)).toNat, by omega⟩
        have hin : i < n := by omega
        obtain ⟨m, hm⟩ : ∃ m, ms'[i]? = some m := ⟨ms'[i], List.getElem?_eq_getElem (by omega)⟩
        have hget : (ms'.map RgM.cl)[i]? = some m.cl := by rw [List.getElem?_map, hm]; rfl
        have hgr : (ms'.map RgM.r)[i]? = some m.r := by rw [List.getElem?_map, hm]; rfl
        have hmin := List.mem_of_getElem? hm
        have S := O.sls
        have K := S.at_ hget
        have hL := (HD m hmin).2.2.keep (R.fix fun b hb hl hm => by rcases hm with h | h; exact hb.2.1 h; exact hb.2.2 h)
        have hsp := fun b hb => hspl (by omega) b hb
        refine CW_skip ?_
        refine CW_seq ?_
        refine CW_reg rfl ?_
        refine OW_ev (Ev_mvs (.inl rfl) rfl) rfl ?_
        refine OW_ev (Ev_mvi (.inl rfl) rfl) rfl ?_
        refine OW_ev (Ev_idx i (S.ad hget) sl_24 rfl rfl rfl hi hin) rfl ?_
        refine OW_ev (Ev_loadAgg (l := [.int _ _, .slice _ _ _, .int _ _, .int _ _, .int _ _, .int _ _, .int _ _, .int _ _, .int _ _]) agg_33 rfl rfl (K.sub 0 rfl) rfl) rfl ?_
        refine OW_st rfl (Stp_call ent_21 rfl rfl rfl (take_c (HD m hmin).1 hL (hlen' m hmin)) ?_)
        rintro _ w7 ⟨E7, HZ, HY, rfl, HL, HM, HS⟩
        have Z7 := E7.size
        have O := O.keep0 E7
        have P := P.keep0 E7
        have T := T.keep0 E7
        have R := R.keep0 E7
        have HS := HS.bd
        have hwc : br < w7.heap.size ∧ wr.heap.size ≤ w7.heap.size := ⟨Nat.lt_of_lt_of_le hbrl R.size, R.size⟩
        refine OW_ev (Ev_mvt (.inl rfl) rfl) rfl ?_
        refine OW_ev (Ev_extract (vs := _) rfl rfl rfl) rfl ?_
        refine OW_ev (Ev_extract (vs := _) rfl rfl rfl) rfl ?_
        refine OW_ev (Ev_extract (vs := _) rfl rfl rfl) rfl ?_
        refine OW_st rfl (Stp_alloc zero_31 rfl ?_)
        intro b8 w8 hb8 hz8 E8 B8
        have L8 : _ ≤ b8 := Nat.le_trans T.size (Nat.le_of_eq hb8.symm)
        have L8 : _ ≤ b8 := Nat.le_trans R.size (Nat.le_of_eq hb8.symm)
        have O := O.keep0 E8
        have P := P.keep0 E8
        have T := T.keep0 E8
        have R := R.keep0 E8
        have HS := HS.keep0 E8
        refine OW_st rfl (Stp_alloc zero_33 rfl ?_)
        intro b9 w9 hb9 hz9 E9 B9
        have L9 : _ ≤ b9 := Nat.le_trans T.size (Nat.le_of_eq hb9.symm)
        have L9 : _ ≤ b9 := Nat.le_trans R.size (Nat.le_of_eq hb9.symm)
        have O := O.keep0 E9
        have P := P.keep0 E9
        have T := T.keep0 E9
        have R := R.keep0 E9
        have HS := HS.keep0 E9
        have B8 := B8.keep0 E9
        refine OW_st rfl (Stp_store (q := 0) (vs := [.int _ _, .int _ _, .int _ _, .int _ _, .int _ _, .int _ _, .int _ _]) B8 siz_31 rfl rfl rfl rfl (Nat.le_of_ble_eq_true rfl) rfl ?_)
        intro w10 hz10 E10 B10
        have Z10 := E10.size
        have O := O.keepb E10 (fun b hb he => by have := hsp b he; omega)
        have P := P.keepb E10 (fun b _ hv => by have h1 : br = b := (by simpa [Value.ownBlock] using hv); omega)
        have T := T.transb E10 (by omega)
        have R := R.transb E10 (by omega)
        have HS := HS.keepb E10 (by intro h; first | omega | (change _ < _ at h; omega) | (change _ ≤ _ at h; omega) | (have h1 := h.1; have h2 := h.2; first | omega | (change _ ≤ _ at h1; omega) | (change _ < _ at h1; omega)))
        have B9 := B9.keepb E10 (by intro h; first | omega | (change _ < _ at h; omega) | (change _ ≤ _ at h; omega) | (have h1 := h.1; have h2 := h.2; first | omega | (change _ ≤ _ at h1; omega) | (change _ < _ at h1; omega)))
        clear B8
        have B8 : Blk _ _ _ [_, _, _, _, _, _, _] := B10
        clear B10
        refine OW_st rfl (Stp_store (q := 0) (vs := [.int _ _, .slice _ _ _, .int _ _, .int _ _, .int _ _, .int _ _, .int _ _, .int _ _, .int _ _]) B9 siz_33 rfl rfl rfl rfl (Nat.le_of_ble_eq_true rfl) rfl ?_)
        intro w11 hz11 E11 B11
        have Z11 := E11.size
        have O := O.keepb E11 (fun b hb he => by have := hsp b he; omega)
        have P := P.keepb E11 (fun b _ hv => by have h1 : br = b := (by simpa [Value.ownBlock] using hv); omega)
        have T := T.transb E11 (by omega)
        have R := R.transb E11 (by omega)
        have HS := HS.keepb E11 (by intro h; first | omega | (change _ < _ at h; omega) | (change _ ≤ _ at h; omega) | (have h1 := h.1; have h2 := h.2; first | omega | (change _ ≤ _ at h1; omega) | (change _ < _ at h1; omega)))
        have B8 := B8.keepb E11 (by intro h; first | omega | (change _ < _ at h; omega) | (change _ ≤ _ at h; omega) | (have h1 := h.1; have h2 := h.2; first | omega | (change _ ≤ _ at h1; omega) | (change _ < _ at h1; omega)))
        clear B9
        have B9 : Blk _ _ _ [_, _, _, _, _, _, _, _, _] := B11
        clear B11
        refine OW_ev (Ev_mvb (.inr rfl) rfl) rfl ?_
        refine OW_nil ?_
        refine CW_seq ?_
        refine CW_seq ?_
        refine CW_re [(6, .slice _ _ _), (7, .int _ _), (8, .slice _ _ _), (9, .int _ _), (10, .pointer _), (11, .pointer _), (12, .bool _)] ⟨rfl, rfl, rfl, rfl, rfl, rfl, rfl, trivial⟩ (fun g => ?_)
        refine CW_reg rfl ?_
        refine OW_ev (Ev_mvb (.inl rfl) rfl) rfl ?_
        refine OW_ev (Ev_not rfl rfl) rfl ?_
        refine OW_nil ?_
        refine CW_cond rfl (fun c12 => ?_) (fun c12 => ?_)
        · have d12 := c12
          first | (with_reducible replace d12 := of_decide_eq_true d12) | (with_reducible replace d12 := bnt d12; try (with_reducible replace d12 := of_decide_eq_false d12)) | skip
          have hfin : drainN rm (ms.map RgM.r) = (xs, ms'.map RgM.r) := by rw [hdr, drainN_no hi hgr d12]; simp
          refine CW_exit ?_
          refine blk_other rfl ?_
          refine blk_same ?_
          refine CW_seq ?_
          refine CW_reg rfl ?_
          refine OW_ev (Ev_mvs (.inl rfl) rfl) rfl ?_
          refine OW_ev (Ev_mvs (.inl rfl) rfl) rfl ?_
          refine OW_ev (Ev_mvs (.inr rfl) rfl) rfl ?_
          refine OW_ev (Ev_mvs (.inr rfl) rfl) rfl ?_
          refine OW_nil ?_
          refine CW_ret ?_
          refine ⟨rfl, _, (.tmp rfl (.tmp rfl .nil)), ?_⟩
          refine ⟨T, some ⟨br, 0, none⟩, rm, a3, c3, xs, ms', ?_, ?_, ?_, ?_, ?_, ?_, ?_, ?_, ?_⟩
          · show Value.tuple #[.slice (some ⟨br, 0, none⟩) k rm, .slice a3 n c3] = _; rw [hxl, hml]
          · rw [hrd, hfin]
          · rw [hrd, hfin]
          · exact hxl ▸ hkr
          · exact hrmx
          · exact hml ▸ lc3
          · exact mc3
          · exact P.sls
          · exact ⟨O.sls, fun m hm => ⟨(HD m hm).1, (HD m hm).2.1, ((HD m hm).2.2.keep (R.fix fun b hb hl hm => by rcases hm with h | h; exact hb.2.1 h; exact hb.2.2 h)).mono (fun b _ hb => hb.1)⟩⟩
        · have d12 := c12
          first | (with_reducible replace d12 := of_decide_eq_false d12) | (with_reducible replace d12 := bnf d12; try (with_reducible replace d12 := of_decide_eq_true d12)) | skip
          have htk : m.r.take.2.2 = true := d12
          refine CW_skip ?_
          refine CW_seq ?_
          refine CW_reg rfl ?_
          refine OW_ev (Ev_mvs (.inl rfl) rfl) rfl ?_
          refine OW_ev (Ev_mvi (.inl rfl) rfl) rfl ?_
          refine OW_ev (Ev_loadAgg (l := [.int _ _, .slice _ _ _, .int _ _, .int _ _, .int _ _, .int _ _, .int _ _, .int _ _, .int _ _]) agg_33 rfl rfl (B9.sub 0 9 (Nat.le_of_ble_eq_true rfl)) rfl) rfl ?_
          refine OW_ev (Ev_idx i (S.ad hget) sl_24 rfl rfl rfl hi hin) rfl ?_
          refine OW_st rfl (Stp_storeOwn (vs := [.int _ _, .slice _ _ _, .int _ _, .int _ _, .int _ _, .int _ _, .int _ _, .int _ _, .int _ _]) (i) 0 O rfl hget siz_33 rfl rfl rfl rfl (Nat.le_of_ble_eq_true rfl) rfl ?_)
          intro w13 hz13 E13 O13
          have Z13 := E13.size
          have P := P.keepo E13 (fun b _ hv he => by have h1 : br = b := (by simpa [Value.ownBlock] using hv); have := hsp b he; omega)
          have T := T.transo E13 (Nat.le_refl _)
          have R := R.trans (E13.mono fun _ _ h => .inl h.1)
          have HS := HS.keepo E13 (fun b hb _ he => absurd (hsp b he) (by have := hb.1; change _ ≤ b at this; omega))
          have B8 := B8.keepo E13 (fun b hb hl he => by first | omega | (have := hsp b he; omega) | (change b < _ at hb; omega) | (change _ ≤ b at hb; omega) | (have h1 := hb.1; have h2 := hb.2; first | omega | (change _ ≤ _ at h1; omega) | (change _ < _ at h1; omega)))
          have B9 := B9.keepo E13 (fun b hb hl he => by first | omega | (have := hsp b he; omega) | (change b < _ at hb; omega) | (change _ ≤ b at hb; omega) | (have h1 := hb.1; have h2 := hb.2; first | omega | (change _ ≤ _ at h1; omega) | (change _ < _ at h1; omega)))
          have O := O13
          clear O13
          refine OW_nil ?_
          refine CW_reg rfl ?_
          refine OW_ev (Ev_mvs (.inl rfl) rfl) rfl ?_
          refine OW_ev (Ev_loadAgg (l := [.int _ _, .int _ _, .int _ _, .int _ _, .int _ _, .int _ _, .int _ _]) agg_31 rfl rfl (B8.sub 0 7 (Nat.le_of_ble_eq_true rfl)) rfl) rfl ?_
          refine OW_st rfl (Stp_buildSlice (l := [_, _, _, _, _, _, _]) el_26 zero_31 rfl rfl rfl rfl ?_)
          intro b14 w14 hb14 hz14 E14 B14
          have L14 : _ ≤ b14 := Nat.le_trans T.size (Nat.le_of_eq hb14.symm)
          have L14 : _ ≤ b14 := Nat.le_trans R.size (Nat.le_of_eq hb14.symm)
          have O := O.keep0 E14
          have P := P.keep0 E14
          have T := T.keep0 E14
          have R := R.keep0 E14
          have HS := HS.keep0 E14
          have B8 := B8.keep0 E14
          have B9 := B9.keep0 E14
          have hy : Sl (· = b14) w14 7 (some ⟨b14, 0, none⟩) ([m.r.take.1].map Ent.cells) := Sl.ofBlk B14 (by simp [Ent.cells_length])
          refine OW_st rfl (Stp_appendIn P hy el_26 rfl rfl rfl rfl (by simp [hxl]) rfl rfl (by simp [hxl]; omega) ?_)
          intro w15 hz15 O15 E15
          have Z15 := E15.size
          have O := O.keepb E15 (fun b hb he => by have := hsp b he; omega)
          have T := T.transb E15 (by omega)
          have R := R.trans (E15.mono fun _ _ h => .inr h)
          have HS := HS.keepb E15 (by intro h; first | omega | (change _ < _ at h; omega) | (change _ ≤ _ at h; omega) | (have h1 := h.1; have h2 := h.2; first | omega | (change _ ≤ _ at h1; omega) | (change _ < _ at h1; omega)))
          have B8 := B8.keepb E15 (by intro h; first | omega | (change _ < _ at h; omega) | (change _ ≤ _ at h; omega) | (have h1 := h.1; have h2 := h.2; first | omega | (change _ ≤ _ at h1; omega) | (change _ < _ at h1; omega)))
          have B9 := B9.keepb E15 (by intro h; first | omega | (change _ < _ at h; omega) | (change _ ≤ _ at h; omega) | (have h1 := h.1; have h2 := h.2; first | omega | (change _ ≤ _ at h1; omega) | (change _ < _ at h1; omega)))
          have B14 := B14.keepb E15 (by intro h; first | omega | (change _ < _ at h; omega) | (change _ ≤ _ at h; omega) | (have h1 := h.1; have h2 := h.2; first | omega | (change _ ≤ _ at h1; omega) | (change _ < _ at h1; omega)))
          have P := O15
          clear O15
          refine OW_ev (Ev_mvs (.inr rfl) rfl) rfl ?_
          refine OW_nil ?_
          refine ⟨k + 1, by omega, xs ++ [m.r.take.1], ms'.set i ⟨m.r.take.2.1, HZ, HY⟩, by simp [hxl], by omega, by simpa using hml, ?_, rfl, rfl, ?_, ?_, ?_, ?_, ?_, T, ?_⟩
          · rw [hdr, hj, drainN_yes hi hgr htk, hj2, List.map_set]; simp
          · show Value.slice _ _ _ = _; simp [hxl]
          · have hO : Own _ _ _ _ _ ((ms'.map RgM.cl).set i (RgM.mk m.r.take.2.1 HZ HY).cl) := O
            rw [List.map_set]; exact hO
          · intro m2 hm2
            rcases List.mem_or_eq_of_mem_set hm2 with hm2 | rfl
            · obtain ⟨h1, h2, h3⟩ := HD m2 hm2
              exact ⟨h1, h2, h3.keep (R.fix fun b hb hl hm => by rcases hm with h | h; exact hb.2.1 h; exact hb.2.2 h)⟩
            · exact ⟨HL, HM, HS.mono (fun b _ hb => ⟨by have := hb.1; change _ ≤ b at this; omega, fun he => absurd (hsp b he) (by have := hb.1; change _ ≤ b at this; omega), by have := hb.1; change _ ≤ b at this; omega⟩)⟩
          · intro m2 hm2
            rcases List.mem_or_eq_of_mem_set hm2 with hm2 | rfl
            · exact hlen' m2 hm2
            · exact Nat.le_trans (Rg.take_len _) (hlen' m hmin)
          · simpa [hxl] using P
          · exact Nat.lt_of_lt_of_le hbrl R.size
    · have d4 := c4
      first | (with_reducible replace d4 := of_decide_eq_false d4) | (with_reducible replace d4 := bnf d4; try (with_reducible replace d4 := of_decide_eq_true d4)) | skip
      have hk : k = rm := by omega
      have hfin : drainN rm (ms.map RgM.r) = (xs, ms'.map RgM.r) := by rw [hdr, hk, Nat.sub_self]; simp [drainN]
      refine CW_exit ?_
      refine blk_same ?_
      refine CW_seq ?_
      refine CW_reg rfl ?_
      refine OW_ev (Ev_mvs (.inl rfl) rfl) rfl ?_
      refine OW_ev (Ev_mvs (.inl rfl) rfl) rfl ?_
      refine OW_ev (Ev_mvs (.inr rfl) rfl) rfl ?_
      refine OW_ev (Ev_mvs (.inr rfl) rfl) rfl ?_
      refine OW_nil ?_
      refine CW_ret ?_
      refine ⟨rfl, _, (.tmp rfl (.tmp rfl .nil)), ?_⟩
      refine ⟨T, some ⟨br, 0, none⟩, rm, a3, c3, xs, ms', ?_, ?_, ?_, ?_, ?_, ?_, ?_, ?_, ?_⟩
      · show Value.tuple #[.slice (some ⟨br, 0, none⟩) k rm, .slice a3 n c3] = _; rw [hxl, hml]
      · rw [hrd, hfin]
      · rw [hrd, hfin]
      · exact hxl ▸ hkr
      · exact hrmx
      · exact hml ▸ lc3
      · exact mc3
      · exact P.sls
      · exact ⟨O.sls, fun m hm => ⟨(HD m hm).1, (HD m hm).2.1, ((HD m hm).2.2.keep (R.fix fun b hb hl hm => by rcases hm with h | h; exact hb.2.1 h; exact hb.2.2 h)).mono (fun b _ hb => hb.1)⟩⟩

end Go.Proofs.Ytiedmigdgelhkaa