/- Contracts of slices.Clone, and of package merge: copied, Offer. -/
import Derived.Test.YtiedmigdgelhkaaTypes
import Derived.Test.YtiedmigdgelhkaaRing3
namespace Go.Proofs.Ytiedmigdgelhkaa
open Go Go.RowKit Bx Go.Proofs

set_option maxRecDepth 10000 in
set_option maxHeartbeats 2000000 in
theorem cloneR_c {F : Nat → Prop} {w : World} {ao : Option Addr} {c n : Nat} {es : List (List Value)} (hn : es.length = n) (hx : Sl F w 9 ao es) (h1 : es.flatten.all Value.oneCell' = true) (hlen : es.length ≤ 1000000) : Calls Try.prog 34 #[.slice ao n c] w (Ret fun v w' => Kp0 w w' ∧ Own w.heap.size w' 33 9 v es ∧ ∃ a q, v = .slice a n q ∧ n ≤ q ∧ q ≤ maxLen) := by
  subst hn
  have hx := hx.old
  have T : Kp0 w w := Kp.refl _ _
  refine calls_start Try.func34 rfl (n := 8) rfl rfl rfl ?_
  refine CW_seq ?_
  refine CW_reg rfl ?_
  refine OW_ev (Ev_c (.inr rfl)) rfl ?_
  refine OW_nil ?_
  refine CW_seq ?_
  refine CW_seq ?_
  refine CW_reg rfl ?_
  refine OW_ev (Ev_mvs (.inl rfl) rfl) rfl ?_
  refine OW_ev (Ev_slice_nil und_24 rfl rfl) rfl ?_
  refine OW_nil ?_
  refine CW_cond rfl (fun c1 => ?_) (fun c1 => ?_)
  · have d1 := c1
    first | (with_reducible replace d1 := of_decide_eq_true d1) | (with_reducible replace d1 := bnt d1; try (with_reducible replace d1 := of_decide_eq_false d1)) | skip
    have hes : es = [] := Sl.isNone hx d1
    refine CW_seq ?_
    refine CW_reg rfl ?_
    refine OW_ev (Ev_c (.inr rfl)) rfl ?_
    refine OW_nil ?_
    refine CW_ret ?_
    refine ⟨rfl, _, (.tmp rfl .nil), ?_⟩
    subst hes
    exact ⟨T, Own.none_ _ _ _ _ _, none, 0, rfl, Nat.le_refl _, Nat.zero_le _⟩
  · have d1 := c1
    first | (with_reducible replace d1 := of_decide_eq_false d1) | (with_reducible replace d1 := bnf d1; try (with_reducible replace d1 := of_decide_eq_true d1)) | skip
    refine CW_skip ?_
    refine CW_seq ?_
    refine CW_reg rfl ?_
    refine OW_st rfl (Stp_buildSlice (l := []) el_24 zero_33 rfl rfl rfl rfl ?_)
    intro b2 w2 hb2 hz2 E2 B2
    have L2 : _ ≤ b2 := Nat.le_trans T.size (Nat.le_of_eq hb2.symm)
    have hx := hx.keep0 E2
    have T := T.keep0 E2
    refine OW_ev (Ev_mvs (.inl rfl) rfl) rfl ?_
    refine OW_st rfl (Stp_append (Own.none_ w.heap.size _ 33 9 _) hx el_24 rfl rfl rfl rfl rfl h1 (by simp [maxLen]; omega) (by simp; omega) T.size ?_)
    intro v3 w3 O3 E3 X3
    have Z3 := E3.size
    have hx := hx.keepo E3 (fun b hb hl he => by first | omega | (have := hsp b he; omega) | (change b < _ at hb; omega) | (change _ ≤ b at hb; omega) | (have h1 := hb.1; have h2 := hb.2; first | omega | (change _ ≤ _ at h1; omega) | (change _ < _ at h1; omega)))
    have T := T.transo E3 (Nat.le_refl _)
    obtain ⟨a3, q3, rfl, l3, m3, S3⟩ := O3.sl
    have HO := O3
    refine OW_ev (Ev_mvs (.inr rfl) rfl) rfl ?_
    refine OW_nil ?_
    refine CW_ret ?_
    refine ⟨rfl, _, (.tmp rfl .nil), ?_⟩
    obtain ⟨a, q, hv, h2, h3, _⟩ := HO.sl
    exact ⟨T, HO, a, q, hv, h2, h3⟩

set_option maxRecDepth 10000 in
set_option maxHeartbeats 2000000 in
theorem cloneE_c {F : Nat → Prop} {w : World} {ao : Option Addr} {c n : Nat} {es : List (List Value)} (hn : es.length = n) (hx : Sl F w 7 ao es) (h1 : es.flatten.all Value.oneCell' = true) (hlen : es.length ≤ 1000000) : Calls Try.prog 35 #[.slice ao n c] w (Ret fun v w' => Kp0 w w' ∧ Own w.heap.size w' 31 7 v es ∧ ∃ a q, v = .slice a n q ∧ n ≤ q ∧ q ≤ maxLen) := by
  subst hn
  have hx := hx.old
  have T : Kp0 w w := Kp.refl _ _
  refine calls_start Try.func35 rfl (n := 8) rfl rfl rfl ?_
  refine CW_seq ?_
  refine CW_reg rfl ?_
  refine OW_ev (Ev_c (.inr rfl)) rfl ?_
  refine OW_nil ?_
  refine CW_seq ?_
  refine CW_seq ?_
  refine CW_reg rfl ?_
  refine OW_ev (Ev_mvs (.inl rfl) rfl) rfl ?_
  refine OW_ev (Ev_slice_nil und_26 rfl rfl) rfl ?_
  refine OW_nil ?_
  refine CW_cond rfl (fun c1 => ?_) (fun c1 => ?_)
  · have d1 := c1
    first | (with_reducible replace d1 := of_decide_eq_true d1) | (with_reducible replace d1 := bnt d1; try (with_reducible replace d1 := of_decide_eq_false d1)) | skip
    have hes : es = [] := Sl.isNone hx d1
    refine CW_seq ?_
    refine CW_reg rfl ?_
    refine OW_ev (Ev_c (.inr rfl)) rfl ?_
    refine OW_nil ?_
    refine CW_ret ?_
    refine ⟨rfl, _, (.tmp rfl .nil), ?_⟩
    subst hes
    exact ⟨T, Own.none_ _ _ _ _ _, none, 0, rfl, Nat.le_refl _, Nat.zero_le _⟩
  · have d1 := c1
    first | (with_reducible replace d1 := of_decide_eq_false d1) | (with_reducible replace d1 := bnf d1; try (with_reducible replace d1 := of_decide_eq_true d1)) | skip
    refine CW_skip ?_
    refine CW_seq ?_
    refine CW_reg rfl ?_
    refine OW_st rfl (Stp_buildSlice (l := []) el_26 zero_31 rfl rfl rfl rfl ?_)
    intro b2 w2 hb2 hz2 E2 B2
    have L2 : _ ≤ b2 := Nat.le_trans T.size (Nat.le_of_eq hb2.symm)
    have hx := hx.keep0 E2
    have T := T.keep0 E2
    refine OW_ev (Ev_mvs (.inl rfl) rfl) rfl ?_
    refine OW_st rfl (Stp_append (Own.none_ w.heap.size _ 31 7 _) hx el_26 rfl rfl rfl rfl rfl h1 (by simp [maxLen]; omega) (by simp; omega) T.size ?_)
    intro v3 w3 O3 E3 X3
    have Z3 := E3.size
    have hx := hx.keepo E3 (fun b hb hl he => by first | omega | (have := hsp b he; omega) | (change b < _ at hb; omega) | (change _ ≤ b at hb; omega) | (have h1 := hb.1; have h2 := hb.2; first | omega | (change _ ≤ _ at h1; omega) | (change _ < _ at h1; omega)))
    have T := T.transo E3 (Nat.le_refl _)
    obtain ⟨a3, q3, rfl, l3, m3, S3⟩ := O3.sl
    have HO := O3
    refine OW_ev (Ev_mvs (.inr rfl) rfl) rfl ?_
    refine OW_nil ?_
    refine CW_ret ?_
    refine ⟨rfl, _, (.tmp rfl .nil), ?_⟩
    obtain ⟨a, q, hv, h2, h3, _⟩ := HO.sl
    exact ⟨T, HO, a, q, hv, h2, h3⟩

set_option maxRecDepth 10000 in
set_option maxHeartbeats 2000000 in
theorem copied_c {F : Nat → Prop} {w : World} {ao : Option Addr} {c n : Nat} {ms : List RgM} (hn0 : ms.length = n) (h : RgsS F w ao ms) (hnl : ms.length ≤ 1000000) (hlen : ∀ m ∈ ms, m.r.l.length ≤ 1000000) : Calls Try.prog 20 #[.slice ao n c] w (Ret fun v w' => Kp0 w w' ∧ ∃ ms', ms'.map RgM.r = ms.map RgM.r ∧ RgsO 33 w.heap.size w' v ms') := by
  have hn : (ms.map RgM.cl).length = n := by simpa using hn0
  obtain ⟨hx, hl⟩ := h
  have T : Kp0 w w := Kp.refl _ _
  refine calls_start Try.func20 rfl (n := 24) rfl rfl rfl ?_
  refine CW_seq ?_
  refine CW_reg rfl ?_
  refine OW_ev (Ev_c (.inr rfl)) rfl ?_
  refine OW_nil ?_
  refine CW_seq ?_
  refine CW_reg rfl ?_
  refine OW_ev (Ev_mvs (.inl rfl) rfl) rfl ?_
  refine OW_st rfl (Stp_call ent_34 rfl rfl rfl (cloneR_c hn hx (RgM.one ms) (by simpa using hnl)) ?_)
  rintro _ w1 ⟨E1, O, a3, c3, rfl, lc3, mc3⟩
  have Z1 := E1.size
  have hx := hx.keep0 E1
  have T := T.keep0 E1
  refine OW_ev (Ev_mvs (.inr rfl) rfl) rfl ?_
  refine OW_nil ?_
  refine CW_seq ?_
  refine CW_seq ?_
  refine CW_reg rfl ?_
  refine OW_ev (Ev_mvs (.inl rfl) rfl) rfl ?_
  refine OW_ev (Ev_len und_24 rfl rfl) rfl ?_
  refine OW_ev (Ev_c (.inl rfl)) rfl ?_
  refine OW_nil ?_
  refine CW_block ?_
  refine CW_loop (α := Nat) (fun (k : Nat) f wr => ∃ ms' : List RgM, k ≤ n ∧ f 3 = .slice a3 n c3 ∧ f 8 = .int .i64 (n : Int) ∧ f 9 = .int .i64 (k : Int) ∧ ms'.map RgM.r = ms.map RgM.r ∧ (∀ i, k ≤ i → ms'[i]? = ms[i]?) ∧ Own w.heap.size wr 33 9 (.slice a3 n c3) (ms'.map RgM.cl) ∧ (∀ i m, i < k → ms'[i]? = some m → RgS (fun b => w.heap.size ≤ b ∧ (Value.slice a3 n c3).ownBlock ≠ some b) wr m.r m.ao m.c) ∧ Kp0 w wr) (fun k => n - k) 0 ?_ ?_
  ·
    exact ⟨ms, Nat.zero_le _, rfl, rfl, rfl, rfl, fun _ _ => rfl, O, fun i m h => absurd h (by omega), T⟩
  ·
    rintro k f wr ⟨ms', hkn, h3, h8, h9, hr, hrest, O, HD, T⟩
    obtain ⟨g, rfl⟩ := re3 h3 h8 h9
    clear h3 h8 h9
    have hTw := T.size
    have R : Kp (fun b => (Value.slice a3 n c3).ownBlock = some b ∧ w.heap.size ≤ b) wr wr := Kp.refl _ _
    refine CW_seq ?_
    refine CW_reg rfl ?_
    refine OW_ev (Ev_lss rfl rfl rfl) rfl ?_
    refine OW_nil ?_
    refine CW_seq ?_
    refine CW_cond rfl (fun c2 => ?_) (fun c2 => ?_)
    · have d2 := c2
      first | (with_reducible replace d2 := of_decide_eq_true d2) | (with_reducible replace d2 := bnt d2; try (with_reducible replace d2 := of_decide_eq_false d2)) | skip
      have hk : k < n := by omega
      obtain ⟨m, hm⟩ : ∃ m, ms[k]? = some m := ⟨ms[k], List.getElem?_eq_getElem (by omega)⟩
      have hm' : ms'[k]? = some m := (hrest k (Nat.le_refl _)).trans hm
      have hget : (ms'.map RgM.cl)[k]? = some m.cl := by rw [List.getElem?_map, hm']; rfl
      have S := O.sls
      have hgl := O.blk (Sl.ne hget)
      have K := S.at_ hget
      have hin : m ∈ ms := List.mem_of_getElem? hm
      have hL := ((hl m hin).2.2.keep0 T)
      refine CW_skip ?_
      refine CW_seq ?_
      refine CW_block ?_
      refine CW_seq ?_
      refine CW_reg rfl ?_
      refine OW_ev (Ev_mvi (.inl rfl) rfl) rfl ?_
      refine OW_ev (Ev_mvi (.inr rfl) rfl) rfl ?_
      refine OW_nil ?_
      refine CW_reg rfl ?_
      refine OW_ev (Ev_mvs (.inl rfl) rfl) rfl ?_
      refine OW_ev (Ev_mvi (.inl rfl) rfl) rfl ?_
      refine OW_ev (Ev_mvs (.inl rfl) rfl) rfl ?_
      refine OW_ev (Ev_mvi (.inl rfl) rfl) rfl ?_
      refine OW_ev (Ev_idx k (S.ad hget) sl_24 rfl rfl rfl rfl (by omega)) rfl ?_
      refine OW_ev (Ev_fieldAddr fld_33_1 rfl rfl) rfl ?_
      refine OW_ev (Ev_load one_26 rfl rfl (K.one 1 rfl)) rfl ?_
      refine OW_st rfl (Stp_call ent_35 rfl rfl rfl (cloneE_c (n := m.r.l.length) (by simp) hL (Ent.one _) (by simpa using hlen m hin)) ?_)
      rintro _ w3 ⟨E3, O2, a4, c4, rfl, lc4, mc4⟩
      have Z3 := E3.size
      have O := O.keep0 E3
      have T := T.keep0 E3
      have R := R.keep0 E3
      have K := K.keep0 E3
      have hL := hL.keep0 E3
      have S4 := O2.sls
      refine OW_ev (Ev_idx k (S.ad hget) sl_24 rfl rfl rfl rfl (by omega)) rfl ?_
      refine OW_ev (Ev_fieldAddr fld_33_1 rfl rfl) rfl ?_
      refine OW_st rfl (Stp_storeOwn (vs := [.slice _ _ _]) (k) 1 O rfl hget siz_26 rfl rfl rfl rfl (Nat.le_of_ble_eq_true rfl) rfl ?_)
      intro w4 hz4 E4 O4
      have Z4 := E4.size
      have T := T.transo E4 (Nat.le_refl _)
      have R := R.trans E4
      have S4 := S4.keepo E4 (fun b hb _ he => absurd (hgl b he).1 (by change _ ≤ b at hb; omega))
      have O := O4
      clear O4
      refine OW_nil ?_
      refine CW_reg rfl ?_
      refine OW_ev (Ev_add rfl rfl rfl (by first | (apply IntWalk.i64_in; omega) | (apply IntWalk.u64_in; omega) | (apply IntWalk.u32_in; omega) | (apply IntWalk.u8_in; omega) | (apply IntWalk.i32_in; omega) | rfl)) rfl ?_
      refine OW_ev (Ev_mvi (.inl rfl) rfl) rfl ?_
      refine OW_nil ?_
      refine ⟨k + 1, by omega, ms'.set k ⟨m.r, a4, c4⟩, by omega, rfl, rfl, congrArg (Value.int .i64) (by omega), ?_, ?_, ?_, ?_, T⟩
      · rw [List.map_set, hr, RgM.set_r hm]
      · intro i hi; rw [List.getElem?_set_ne (by omega)]; exact hrest i (by omega)
      · have hO : Own _ _ _ _ _ ((ms'.map RgM.cl).set k (RgM.mk m.r a4 c4).cl) := O
        rw [List.map_set]; exact hO
      · intro i m' hi hm2
        by_cases hik : i = k
        · subst hik
          rw [List.getElem?_set_self (by have := (List.getElem?_eq_some_iff.1 hm').1; exact this)] at hm2
          cases hm2
          exact ⟨by simpa using lc4, mc4, S4.mono fun b _ hb => ⟨by change _ ≤ b at hb; omega, fun he => absurd (hgl b he).1 (by change _ ≤ b at hb; omega)⟩⟩
        · rw [List.getElem?_set_ne (Ne.symm hik)] at hm2
          obtain ⟨h1, h2, h3⟩ := HD i m' (by omega) hm2
          exact ⟨h1, h2, h3.keep (R.fix fun b hb _ hm => hb.2 hm.1)⟩
    · have d2 := c2
      first | (with_reducible replace d2 := of_decide_eq_false d2) | (with_reducible replace d2 := bnf d2; try (with_reducible replace d2 := of_decide_eq_true d2)) | skip
      have hk : k = n := by omega
      subst hk
      refine CW_exit ?_
      refine blk_same ?_
      refine CW_seq ?_
      refine CW_reg rfl ?_
      refine OW_ev (Ev_mvs (.inl rfl) rfl) rfl ?_
      refine OW_ev (Ev_mvs (.inr rfl) rfl) rfl ?_
      refine OW_nil ?_
      refine CW_ret ?_
      refine ⟨rfl, _, (.tmp rfl .nil), ?_⟩
      exact ⟨T, ms', hr, O, fun m hm => by obtain ⟨i, hi⟩ := List.mem_iff_getElem?.1 hm; exact HD i m (by have := (List.getElem?_eq_some_iff.1 hi).1; have h2 := congrArg List.length hr; simp at h2; omega) hi⟩

set_option maxRecDepth 10000 in
set_option maxHeartbeats 2000000 in
theorem entry_c (w : World) (s p : Int) : Calls Try.prog 8 #[.int .u64 s, .int .i64 p] w (Ret fun v w' => Kp0 w w' ∧ v = .agg (Ent.mk s ⟨0, 5, p, 3, 0, 0⟩).cells.toArray) := by
  have T : Kp0 w w := Kp.refl _ _
  refine calls_start Try.func8 rfl (n := 9) rfl rfl rfl ?_
  refine CW_seq ?_
  refine CW_reg rfl ?_
  refine OW_st rfl (Stp_alloc zero_31 rfl ?_)
  intro b1 w1 hb1 hz1 E1 B1
  have L1 : _ ≤ b1 := Nat.le_trans T.size (Nat.le_of_eq hb1.symm)
  have T := T.keep0 E1
  refine OW_nil ?_
  refine CW_seq ?_
  refine CW_reg rfl ?_
  refine OW_ev (Ev_mvi (.inl rfl) rfl) rfl ?_
  refine OW_ev (Ev_mvi (.inl rfl) rfl) rfl ?_
  refine OW_ev (Ev_build (l := [.int _ _, .int _ _, .int _ _, .int _ _, .int _ _, .int _ _]) plc_29 zero_29 rfl rfl rfl) rfl ?_
  refine OW_ev (Ev_build (l := [.int _ _, .int _ _, .int _ _, .int _ _, .int _ _, .int _ _, .int _ _]) plc_31 zero_31 rfl rfl rfl) rfl ?_
  refine OW_st rfl (Stp_store (q := 0) (vs := [.int _ _, .int _ _, .int _ _, .int _ _, .int _ _, .int _ _, .int _ _]) B1 siz_31 rfl rfl rfl rfl (Nat.le_of_ble_eq_true rfl) rfl ?_)
  intro w2 hz2 E2 B2
  have Z2 := E2.size
  have T := T.transb E2 (by omega)
  clear B1
  have B1 : Blk _ _ _ [_, _, _, _, _, _, _] := B2
  clear B2
  refine OW_nil ?_
  refine CW_ret ?_
  refine ⟨rfl, _, (.cell rfl (ld_agg agg_31 (B1.sub 0 7 (Nat.le_of_ble_eq_true rfl)) rfl) .nil), ?_⟩
  exact ⟨T, rfl⟩

end Go.Proofs.Ytiedmigdgelhkaa