/- Contracts of blackboxref29.with and blackboxref29.Offer; the law MergeOffers. -/
import Derived.Test.YtiedmigdgelhkaaMerge10
namespace Go.Proofs.Ytiedmigdgelhkaa
open Go Go.RowKit Bx Go.Proofs

theorem set_take {ms : List RgM} {i k : Nat} {m' x : RgM} (hx : (ms.set i m')[k]? = some x) : ((ms.set i m').take (k + 1)).map RgM.cl = ((ms.set i m').take k).map RgM.cl ++ [x].map RgM.cl := by
  rw [List.take_add_one, hx]; simp
theorem set_at {ms : List RgM} {i : Nat} {m' : RgM} (h : i < ms.length) : (ms.set i m')[i]? = some m' := by
  rw [List.getElem?_set_self h]
theorem set_ne {ms : List RgM} {i k : Nat} {m' : RgM} (h : i ≠ k) : (ms.set i m')[k]? = ms[k]? := List.getElem?_set_ne h

set_option maxRecDepth 10000 in
set_option maxHeartbeats 2000000 in
theorem with_c {F : Nat → Prop} {w : World} {ao : Option Addr} {c n i : Nat} {z : Int} {ms : List RgM} {m' : RgM} (hz : z = (i : Int)) (hms : ms.length = n) (hx : Sl F w 9 ao (ms.map RgM.cl)) (hnl : n ≤ 1000000) (hi : i < n) : Calls Try.prog 27 #[.slice ao n c, .int .i64 z, .agg m'.cl.toArray] w (Ret fun v w' => Kp0 w w' ∧ ∃ (a : Option Addr) (q : Nat), v = .slice a n q ∧ Own w.heap.size w' 33 9 v ((ms.set i m').map RgM.cl)) := by
  subst hz
  have hx := hx.old
  obtain ⟨NW, hNW⟩ : ∃ x, x = w.heap.size := ⟨_, rfl⟩
  rw [← hNW] at hx
  have T : Kp0 w w := Kp.refl _ _
  refine calls_start Try.func27 rfl (n := 30) rfl rfl rfl ?_
  refine CW_seq ?_
  refine CW_reg rfl ?_
  refine OW_st rfl (Stp_box (l := [.int _ _, .slice _ _ _, .int _ _, .int _ _, .int _ _, .int _ _, .int _ _, .int _ _, .int _ _]) rfl rfl rfl ?_)
  intro b1 w1 hb1 hz1 E1 B1
  have L1 : _ ≤ b1 := Nat.le_trans T.size (Nat.le_of_eq hb1.symm)
  have hx := hx.keep0 E1
  have T := T.keep0 E1
  replace B1 : Blk w1 b1 33 (m'.cl) := B1
  refine OW_ev (Ev_c (.inr rfl)) rfl ?_
  refine OW_nil ?_
  refine CW_seq ?_
  refine CW_reg rfl ?_
  refine OW_ev (Ev_c (.inr rfl)) rfl ?_
  obtain ⟨NB, hNB⟩ : ∃ x, x = w1.heap.size := ⟨_, rfl⟩
  refine OW_nil ?_
  refine CW_seq ?_
  refine CW_seq ?_
  refine CW_reg rfl ?_
  refine OW_ev (Ev_c (.inr rfl)) rfl ?_
  refine OW_nil ?_
  refine CW_block ?_
  refine CW_loop (α := Nat) (fun (k : Nat) f wr => ∃ (a : Option Addr) (q : Nat), AllEq f [(0, .slice ao n c), (1, .int .i64 (i : Int)), (5, .pointer (some ⟨b1, 0, none⟩)), (7, .slice a k q), (8, .int .i64 (k : Int))] ∧ (k ≤ n) ∧ (Blk wr b1 33 m'.cl) ∧ (Own NB wr 33 9 (.slice a k q) (((ms.set i m').take k).map RgM.cl)) ∧ (Sl (fun b => b < NW) wr 9 ao (ms.map RgM.cl)) ∧ (NB ≤ wr.heap.size) ∧ (Kp0 w wr)) (fun k => n - k) 0 ?_ ?_
  ·
    exact ⟨none, 0, ⟨rfl, rfl, rfl, rfl, rfl, trivial⟩, Nat.zero_le _, B1, by simpa using Own.none_ _ _ _ _ _, hx, by omega, T⟩
  ·
    rintro k f wr ⟨a, q, hf, hk, B1, O, hx, hnb, T⟩
    obtain ⟨g, rfl⟩ : ∃ g, f = upl g [(0, .slice ao n c), (1, .int .i64 (i : Int)), (5, .pointer (some ⟨b1, 0, none⟩)), (7, .slice a k q), (8, .int .i64 (k : Int))] := ⟨f, upl_self hf⟩
    clear hf
    refine CW_seq ?_
    refine CW_seq ?_
    refine CW_reg rfl ?_
    refine OW_ev (Ev_mvi (.inl rfl) rfl) rfl ?_
    refine OW_ev (Ev_mvs (.inl rfl) rfl) rfl ?_
    refine OW_ev (Ev_len und_24 rfl rfl) rfl ?_
    refine OW_ev (Ev_lss rfl rfl rfl) rfl ?_
    refine OW_nil ?_
    refine CW_cond rfl (fun c2 => ?_) (fun c2 => ?_)
    · have d2 := c2
      first | (with_reducible replace d2 := of_decide_eq_true d2) | (with_reducible replace d2 := bnt d2; try (with_reducible replace d2 := of_decide_eq_false d2)) | skip
      have hk2 : k < n := by omega
      refine CW_skip ?_
      refine CW_seq ?_
      refine CW_block ?_
      refine CW_seq ?_
      refine CW_reg rfl ?_
      refine OW_ev (Ev_mvi (.inl rfl) rfl) rfl ?_
      refine OW_ev (Ev_mvi (.inl rfl) rfl) rfl ?_
      refine OW_ev (Ev_eql rfl rfl rfl) rfl ?_
      refine OW_nil ?_
      refine CW_cond rfl (fun c3 => ?_) (fun c3 => ?_)
      · have d3 := c3
        first | (with_reducible replace d3 := of_decide_eq_true d3) | (with_reducible replace d3 := bnt d3; try (with_reducible replace d3 := of_decide_eq_false d3)) | skip
        have hik : k = i := by omega
        have hgx : (ms.set i m')[k]? = some m' := by rw [hik]; exact set_at (by omega)
        have htk := set_take hgx
        refine CW_reg rfl ?_
        refine OW_ev (Ev_mvs (.inl rfl) rfl) rfl ?_
        refine OW_ev (Ev_loadAgg (l := [.int _ _, .slice _ _ _, .int _ _, .int _ _, .int _ _, .int _ _, .int _ _, .int _ _, .int _ _]) agg_33 rfl rfl (B1.sub 0 9 (Nat.le_of_ble_eq_true rfl)) rfl) rfl ?_
        refine OW_st rfl (Stp_buildSlice (l := [_, _, _, _, _, _, _, _, _]) el_24 zero_33 rfl rfl rfl rfl ?_)
        intro b4 w4 hb4 hz4 E4 B4
        have L4 : _ ≤ b4 := Nat.le_trans T.size (Nat.le_of_eq hb4.symm)
        have T := T.keep0 E4
        have B1 := B1.keep0 E4
        have O := O.keep0 E4
        have hx := hx.keep0 E4
        have hY : Sl (· = b4) w4 9 (some ⟨b4, 0, none⟩) ([m'].map RgM.cl) := Sl.ofBlk B4 (by intro e he; simp at he; subst he; rfl)
        have hbw : b4 < w4.heap.size := by omega
        refine OW_st rfl (Stp_append O hY el_24 rfl rfl rfl rfl (by simp) (RgM.one _) (by simp [maxLen]; omega) (by simp; omega) (by omega) ?_)
        intro v5 w5 O5 E5 X5
        have Z5 := E5.size
        have T := T.transo E5 (by omega)
        have B1 := B1.keepo E5 (fun b hb hl he => by first | omega | (have := hsp b he; omega) | (change b < _ at hb; omega) | (change _ ≤ b at hb; omega) | (have h1 := hb.1; have h2 := hb.2; first | omega | (change _ ≤ _ at h1; omega) | (change _ < _ at h1; omega)))
        have hx := hx.keepo E5 (fun b hb hl he => by first | omega | (have := hsp b he; omega) | (change b < _ at hb; omega) | (change _ ≤ b at hb; omega) | (have h1 := hb.1; have h2 := hb.2; first | omega | (change _ ≤ _ at h1; omega) | (change _ < _ at h1; omega)))
        obtain ⟨a5, q5, rfl, l5, m5, S5⟩ := O5.sl
        obtain ⟨aN, rfl⟩ : ∃ x, x = a5 := ⟨_, rfl⟩
        obtain ⟨qN, rfl⟩ : ∃ x, x = q5 := ⟨_, rfl⟩
        have ON := O5
        have hX := X5
        have SN := S5
        have lN := l5
        have mN := m5
        rw [← htk] at ON
        have hlN : (((ms.set i m').take (k + 1)).map RgM.cl).length = k + 1 := by simp; omega
        rw [hlN] at ON
        refine OW_ev (Ev_mvs (.inr rfl) rfl) rfl ?_
        refine OW_nil ?_
        refine CW_reg rfl ?_
        refine OW_ev (Ev_mvi (.inl rfl) rfl) rfl ?_
        refine OW_ev (Ev_add rfl rfl rfl (by first | (apply IntWalk.i64_in; omega) | (apply IntWalk.u64_in; omega) | (apply IntWalk.u32_in; omega) | (apply IntWalk.u8_in; omega) | (apply IntWalk.i32_in; omega) | rfl)) rfl ?_
        refine OW_ev (Ev_mvi (.inr rfl) rfl) rfl ?_
        refine OW_nil ?_
        exact ⟨k + 1, by omega, aN, qN, ⟨rfl, rfl, rfl, congrArg (fun n => Value.slice aN n qN) (by rw [← hlN, htk]), congrArg (Value.int .i64) (by omega), trivial⟩, by omega, B1, ON, hx, by omega, T⟩
      · have d3 := c3
        first | (with_reducible replace d3 := of_decide_eq_false d3) | (with_reducible replace d3 := bnf d3; try (with_reducible replace d3 := of_decide_eq_true d3)) | skip
        have hik : i ≠ k := by omega
        obtain ⟨m, hm⟩ : ∃ m, ms[k]? = some m := ⟨ms[k], List.getElem?_eq_getElem (by omega)⟩
        have hget : (ms.map RgM.cl)[k]? = some m.cl := by rw [List.getElem?_map, hm]; rfl
        have K := hx.at_ hget
        have hKb := (hx.2 (Sl.ne hget)).2.1
        change _ < _ at hKb
        have hgx : (ms.set i m')[k]? = some m := by rw [set_ne hik]; exact hm
        have htk := set_take hgx
        refine CW_reg rfl ?_
        refine OW_ev (Ev_mvs (.inl rfl) rfl) rfl ?_
        refine OW_ev (Ev_mvs (.inl rfl) rfl) rfl ?_
        refine OW_ev (Ev_mvi (.inl rfl) rfl) rfl ?_
        refine OW_ev (Ev_idx k (hx.ad hget) sl_24 rfl rfl rfl rfl (by omega)) rfl ?_
        refine OW_ev (Ev_loadAgg (l := m.cl) agg_33 rfl rfl (K.sub 0 rfl) rfl) rfl ?_
        refine OW_st rfl (Stp_buildSlice (l := [_, _, _, _, _, _, _, _, _]) el_24 zero_33 rfl rfl rfl rfl ?_)
        intro b6 w6 hb6 hz6 E6 B6
        have L6 : _ ≤ b6 := Nat.le_trans T.size (Nat.le_of_eq hb6.symm)
        have T := T.keep0 E6
        have B1 := B1.keep0 E6
        have O := O.keep0 E6
        have hx := hx.keep0 E6
        have K := K.keep0 E6
        have hY : Sl (· = b6) w6 9 (some ⟨b6, 0, none⟩) ([m].map RgM.cl) := Sl.ofBlk B6 (by intro e he; simp at he; subst he; rfl)
        have hbw : b6 < w6.heap.size := by omega
        refine OW_st rfl (Stp_append O hY el_24 rfl rfl rfl rfl (by simp) (RgM.one _) (by simp [maxLen]; omega) (by simp; omega) (by omega) ?_)
        intro v7 w7 O7 E7 X7
        have Z7 := E7.size
        have T := T.transo E7 (by omega)
        have B1 := B1.keepo E7 (fun b hb hl he => by first | omega | (have := hsp b he; omega) | (change b < _ at hb; omega) | (change _ ≤ b at hb; omega) | (have h1 := hb.1; have h2 := hb.2; first | omega | (change _ ≤ _ at h1; omega) | (change _ < _ at h1; omega)))
        have hx := hx.keepo E7 (fun b hb hl he => by first | omega | (have := hsp b he; omega) | (change b < _ at hb; omega) | (change _ ≤ b at hb; omega) | (have h1 := hb.1; have h2 := hb.2; first | omega | (change _ ≤ _ at h1; omega) | (change _ < _ at h1; omega)))
        obtain ⟨a7, q7, rfl, l7, m7, S7⟩ := O7.sl
        obtain ⟨aN, rfl⟩ : ∃ x, x = a7 := ⟨_, rfl⟩
        obtain ⟨qN, rfl⟩ : ∃ x, x = q7 := ⟨_, rfl⟩
        have ON := O7
        have hX := X7
        have SN := S7
        have lN := l7
        have mN := m7
        rw [← htk] at ON
        have hlN : (((ms.set i m').take (k + 1)).map RgM.cl).length = k + 1 := by simp; omega
        rw [hlN] at ON
        refine OW_ev (Ev_mvs (.inr rfl) rfl) rfl ?_
        refine OW_nil ?_
        refine CW_re [(0, .slice _ _ _), (1, .int _ _), (5, .pointer _), (7, .slice _ _ _), (8, .int _ _)] ⟨rfl, rfl, rfl, rfl, rfl, trivial⟩ (fun g => ?_)
        refine CW_reg rfl ?_
        refine OW_ev (Ev_mvi (.inl rfl) rfl) rfl ?_
        refine OW_ev (Ev_add rfl rfl rfl (by first | (apply IntWalk.i64_in; omega) | (apply IntWalk.u64_in; omega) | (apply IntWalk.u32_in; omega) | (apply IntWalk.u8_in; omega) | (apply IntWalk.i32_in; omega) | rfl)) rfl ?_
        refine OW_ev (Ev_mvi (.inr rfl) rfl) rfl ?_
        refine OW_nil ?_
        exact ⟨k + 1, by omega, aN, qN, ⟨rfl, rfl, rfl, congrArg (fun n => Value.slice aN n qN) (by rw [← hlN, htk]), congrArg (Value.int .i64) (by omega), trivial⟩, by omega, B1, ON, hx, by omega, T⟩
    · have d2 := c2
      first | (with_reducible replace d2 := of_decide_eq_false d2) | (with_reducible replace d2 := bnf d2; try (with_reducible replace d2 := of_decide_eq_true d2)) | skip
      have hk2 : k = n := by omega
      have htk : (ms.set i m').take k = ms.set i m' := List.take_of_length_le (by simp; omega)
      rw [htk] at O
      refine CW_exit ?_
      refine blk_same ?_
      refine CW_seq ?_
      refine CW_reg rfl ?_
      refine OW_ev (Ev_mvs (.inl rfl) rfl) rfl ?_
      refine OW_ev (Ev_mvs (.inr rfl) rfl) rfl ?_
      refine OW_nil ?_
      refine CW_ret ?_
      refine ⟨rfl, _, (.tmp rfl .nil), ?_⟩
      have hln : ((ms.set i m').map RgM.cl).length = n := by simp; omega
      subst hk2
      exact ⟨T, a, q, rfl, O.mono (by omega)⟩

set_option maxRecDepth 10000 in
set_option maxHeartbeats 2000000 in
theorem offerR_c {F : Nat → Prop} {w : World} {ao : Option Addr} {c n : Nat} {ms : List RgM} {x : Ent} (hms : ms.length = n) (h : RgsS F w ao ms) (hnl : n ≤ 1000000) : Calls Try.prog 16 #[.slice ao n c, .agg x.cells.toArray] w (Ret fun v w' => Kp0 w w' ∧ ∃ (a : Option Addr) (q : Nat) (ms' : List RgM), v = .tuple #[.slice a ms'.length q, .int .i64 (offer (ms.map RgM.r) x).2] ∧ ms'.map RgM.r = (offer (ms.map RgM.r) x).1 ∧ RgsS (fun _ => True) w' a ms') := by
  obtain ⟨hx, hl⟩ := h
  have hx := hx.old
  obtain ⟨NW, hNW⟩ : ∃ x, x = w.heap.size := ⟨_, rfl⟩
  rw [← hNW] at hx
  have T : Kp0 w w := Kp.refl _ _
  refine calls_start Try.func16 rfl (n := 44) rfl rfl rfl ?_
  refine CW_seq ?_
  refine CW_reg rfl ?_
  refine OW_st rfl (Stp_box (l := [.int _ _, .int _ _, .int _ _, .int _ _, .int _ _, .int _ _, .int _ _]) rfl rfl rfl ?_)
  intro b1 w1 hb1 hz1 E1 B1
  have L1 : _ ≤ b1 := Nat.le_trans T.size (Nat.le_of_eq hb1.symm)
  have hx := hx.keep0 E1
  have T := T.keep0 E1
  replace B1 : Blk w1 b1 31 (x.cells) := B1
  refine OW_ev (Ev_c (.inr rfl)) rfl ?_
  refine OW_ev (Ev_c (.inr rfl)) rfl ?_
  refine OW_nil ?_
  refine CW_seq ?_
  refine CW_reg rfl ?_
  refine OW_ev (Ev_fieldAddr fld_31_1 rfl rfl) rfl ?_
  refine OW_ev (Ev_fieldAddr fld_29_2 rfl rfl) rfl ?_
  refine OW_ev (Ev_load one_3 rfl rfl (B1.ld (q := 3) rfl)) rfl ?_
  refine OW_ev (Ev_mvi (.inr rfl) rfl) rfl ?_
  refine OW_nil ?_
  refine CW_seq ?_
  refine CW_seq ?_
  refine CW_reg rfl ?_
  refine OW_ev (Ev_mvi (.inl rfl) rfl) rfl ?_
  refine OW_ev (Ev_eql rfl rfl rfl) rfl ?_
  refine OW_nil ?_
  refine CW_cond rfl (fun c2 => ?_) (fun c2 => ?_)
  · have d2 := c2
    first | (with_reducible replace d2 := of_decide_eq_true d2) | (with_reducible replace d2 := bnt d2; try (with_reducible replace d2 := of_decide_eq_false d2)) | skip
    have hpt : x.e.part = -1 := d2
    refine CW_reg rfl ?_
    refine OW_ev (Ev_mvs (.inl rfl) rfl) rfl ?_
    refine OW_ev (Ev_len und_24 rfl rfl) rfl ?_
    refine OW_ev (Ev_sub rfl rfl rfl (by first | (apply IntWalk.i64_in; omega) | (apply IntWalk.u64_in; omega) | (apply IntWalk.u32_in; omega) | (apply IntWalk.u8_in; omega) | (apply IntWalk.i32_in; omega) | rfl)) rfl ?_
    refine OW_ev (Ev_mvi (.inr rfl) rfl) rfl ?_
    refine OW_nil ?_
    refine CW_seq ?_
    refine CW_seq ?_
    refine CW_reg rfl ?_
    refine OW_ev (Ev_mvi (.inl rfl) rfl) rfl ?_
    refine OW_ev (Ev_lss rfl rfl rfl) rfl ?_
    refine OW_nil ?_
    refine CW_cond rfl (fun c3 => ?_) (fun c3 => ?_)
    · have d3 := c3
      first | (with_reducible replace d3 := of_decide_eq_true d3) | (with_reducible replace d3 := bnt d3; try (with_reducible replace d3 := of_decide_eq_false d3)) | skip
      have hp : offer (ms.map RgM.r) x = ([], 1) := offer_no (.inr (by unfold offerAt; simp; omega))
      refine CW_seq ?_
      refine CW_reg rfl ?_
      refine OW_ev (Ev_c (.inr rfl)) rfl ?_
      refine OW_ev (Ev_c (.inr rfl)) rfl ?_
      refine OW_nil ?_
      refine CW_ret ?_
      refine ⟨rfl, _, (.tmp rfl (.tmp rfl .nil)), ?_⟩
      rw [hp]
      exact ⟨T, none, 0, [], rfl, rfl, Sl.nil _ _ _ _, fun _ h => (nomatch h)⟩
    · have d3 := c3
      first | (with_reducible replace d3 := of_decide_eq_false d3) | (with_reducible replace d3 := bnf d3; try (with_reducible replace d3 := of_decide_eq_true d3)) | skip
      obtain ⟨i, hi, hin⟩ : ∃ i : Nat, ((n : Int) - 1) = (i : Int) ∧ i < n := ⟨(((n : Int) - 1)).toNat, by omega, by omega⟩
      obtain ⟨m, hm⟩ : ∃ m, ms[i]? = some m := ⟨ms[i], List.getElem?_eq_getElem (by omega)⟩
      have hat : offerAt (ms.map RgM.r).length x = (i : Int) := by unfold offerAt; simp; omega
      have hp0 := offer_at (l := ms.map RgM.r) (x := x) (i := i) (r := m.r) (by simp; omega) hat (by rw [List.getElem?_map, hm]; rfl)
      have hget : (ms.map RgM.cl)[i]? = some m.cl := by rw [List.getElem?_map, hm]; rfl
      have hmin : m ∈ ms := List.mem_of_getElem? hm
      have hL := (hl m hmin).2.2.keep0 T
      have hL := hL.old
      have K := hx.at_ hget
      have hKb : ablk ao < NW := (hx.2 (Sl.ne hget)).2.1
      refine CW_skip ?_
      refine CW_seq ?_
      refine CW_draw (fun W => hx.here W ∧ B1.here W ∧ hL.here W ∧ K.here W) mixed rfl (fun _ _ _ h => nomatch h.1) ?_
      have E4 : Kp0 _ _ := Kp.drew w1 nob
      have Z4 : (World.drew w1).heap.size = w1.heap.size := rfl
      generalize World.drew w1 = w4 at E4 Z4 ⊢
      have hx := hx.keep0 E4
      have T := T.keep0 E4
      have B1 := B1.keep0 E4
      have hL := hL.keep0 E4
      have K := K.keep0 E4
      refine AW_take 0 rfl rfl (by decide +kernel) (by decide +kernel) (by decide +kernel) (fun w ⟨hx, B1, hL, K⟩ => Ev_mvs (.inl rfl) rfl) ⟨hx, B1, hL, K⟩ ?_
      refine AW_take 1 rfl rfl (by decide +kernel) (by decide +kernel) (by decide +kernel) (fun w ⟨hx, B1, hL, K⟩ => Ev_mvi (.inl rfl) rfl) ⟨hx, B1, hL, K⟩ ?_
      refine AW_take 2 rfl rfl (by decide +kernel) (by decide +kernel) (by decide +kernel) (fun w ⟨hx, B1, hL, K⟩ => Ev_idx i (hx.ad hget) sl_24 rfl rfl rfl hi hin) ⟨hx, B1, hL, K⟩ ?_
      refine AW_take 3 rfl rfl (by decide +kernel) (by decide +kernel) (by decide +kernel) (fun w ⟨hx, B1, hL, K⟩ => Ev_loadAgg (l := m.cl) agg_33 rfl rfl (K.sub 0 rfl) rfl) ⟨hx, B1, hL, K⟩ ?_
      refine AW_take 4 rfl rfl (by decide +kernel) (by decide +kernel) (by decide +kernel) (fun w ⟨hx, B1, hL, K⟩ => Ev_loadAgg (l := [.int _ _, .int _ _, .int _ _, .int _ _, .int _ _, .int _ _, .int _ _]) agg_31 rfl rfl (B1.sub 0 7 (Nat.le_of_ble_eq_true rfl)) rfl) ⟨hx, B1, hL, K⟩ ?_
      refine AW_two 5 9 (by decide +kernel) (Next.mk rfl rfl ?_) (Next.mk rfl rfl ?_)
      ·
        refine Stp_call ent_26 rfl rfl rfl (putR_c (c := m.c) (x := x) hL) ?_
        rintro _ w5 ⟨E5, HZ, HY, rfl, HL, HM, HS⟩
        have Z5 := E5.size
        have hx := hx.keep0 E5
        have T := T.keep0 E5
        have B1 := B1.keep0 E5
        have hL := hL.keep0 E5
        have K := K.keep0 E5
        have HS := HS.bd
        refine ⟨⟨hx, B1, hL, K⟩, ?_⟩
        refine AW_take 6 rfl rfl (by decide +kernel) (by decide +kernel) (by decide +kernel) (fun w ⟨hx, B1, hL, K⟩ => Ev_mvt (.inl rfl) rfl) ⟨hx, B1, hL, K⟩ ?_
        refine AW_take 7 rfl rfl (by decide +kernel) (by decide +kernel) (by decide +kernel) (fun w ⟨hx, B1, hL, K⟩ => Ev_extract (vs := _) rfl rfl rfl) ⟨hx, B1, hL, K⟩ ?_
        refine AW_take 8 rfl rfl (by decide +kernel) (by decide +kernel) (by decide +kernel) (fun w ⟨hx, B1, hL, K⟩ => Ev_extract (vs := _) rfl rfl rfl) ⟨hx, B1, hL, K⟩ ?_
        refine AW_one 9 (by decide +kernel) (Next.mk rfl rfl ?_)
        refine Stp_alloc zero_33 rfl ?_
        intro b6 w6 hb6 hz6 E6 B6
        have L6 : _ ≤ b6 := Nat.le_trans T.size (Nat.le_of_eq hb6.symm)
        have hx := hx.keep0 E6
        have T := T.keep0 E6
        have B1 := B1.keep0 E6
        have hL := hL.keep0 E6
        have K := K.keep0 E6
        have HS := HS.keep0 E6
        obtain ⟨bu, rfl⟩ : ∃ b, b = b6 := ⟨_, rfl⟩
        have BU := B6
        refine ⟨⟨hx, B1, hL, K⟩, ?_⟩
        refine AW_one 10 (by decide +kernel) (Next.mk rfl rfl ?_)
        refine Stp_store (q := 0) BU siz_33 rfl rfl rfl rfl (Nat.le_of_ble_eq_true rfl) rfl ?_
        intro w7 hz7 E7 B7
        have Z7 := E7.size
        have hx := hx.keepb E7 (by show ¬ _ < _; omega)
        have T := T.transb E7 (by omega)
        have B1 := B1.keepb E7 (by intro h; first | omega | (change _ < _ at h; omega) | (change _ ≤ _ at h; omega) | (have h1 := h.1; have h2 := h.2; first | omega | (change _ ≤ _ at h1; omega) | (change _ < _ at h1; omega)))
        have hL := hL.keepb E7 (by show ¬ _ < _; omega)
        have K := K.keepb E7 (by intro h; first | omega | (change _ < _ at h; omega) | (change _ ≤ _ at h; omega) | (have h1 := h.1; have h2 := h.2; first | omega | (change _ ≤ _ at h1; omega) | (change _ < _ at h1; omega)))
        have HS := HS.keepb E7 (fun h => by have h1 := h.1; have h2 := h.2; change _ ≤ _ at h1; omega)
        clear BU
        have BU := B7
        clear B7
        have BU : Blk w7 bu 33 (RgM.cl ⟨(m.r.put x).1, HZ, HY⟩) := BU
        refine ⟨⟨hx, B1, hL, K⟩, ?_⟩
        refine AW_take 11 rfl rfl (by decide +kernel) (by decide +kernel) (by decide +kernel) (fun w ⟨hx, B1, hL, K⟩ => Ev_mvi (.inr rfl) rfl) ⟨hx, B1, hL, K⟩ ?_
        refine AW_done (by decide +kernel) ?_
        refine CW_seq ?_
        refine CW_seq ?_
        refine CW_re [(0, .slice _ _ _), (4, .slice _ _ _), (5, .int _ _), (6, .int _ _), (7, .pointer _), (8, .int _ _)] ⟨rfl, rfl, rfl, rfl, rfl, rfl, trivial⟩ (fun g => ?_)
        refine CW_reg rfl ?_
        refine OW_ev (Ev_mvi (.inl rfl) rfl) rfl ?_
        refine OW_ev (Ev_neq rfl rfl rfl) rfl ?_
        refine OW_nil ?_
        refine CW_cond rfl (fun c8 => ?_) (fun c8 => ?_)
        · have d8 := c8
          first | (with_reducible replace d8 := of_decide_eq_true d8) | (with_reducible replace d8 := bnt d8; try (with_reducible replace d8 := of_decide_eq_false d8)) | skip
          have hp : offer (ms.map RgM.r) x = ([], (m.r.put x).2) := by rw [hp0, if_pos d8]
          refine CW_seq ?_
          refine CW_reg rfl ?_
          refine OW_ev (Ev_mvi (.inl rfl) rfl) rfl ?_
          refine OW_ev (Ev_c (.inr rfl)) rfl ?_
          refine OW_ev (Ev_mvi (.inr rfl) rfl) rfl ?_
          refine OW_nil ?_
          refine CW_ret ?_
          refine ⟨rfl, _, (.tmp rfl (.tmp rfl .nil)), ?_⟩
          rw [hp]
          exact ⟨T, none, 0, [], rfl, rfl, Sl.nil _ _ _ _, fun _ h => (nomatch h)⟩
        · have d8 := c8
          first | (with_reducible replace d8 := of_decide_eq_false d8) | (with_reducible replace d8 := bnf d8; try (with_reducible replace d8 := of_decide_eq_true d8)) | skip
          have hput : (m.r.put x).2 = 0 := by omega
          have hp : offer (ms.map RgM.r) x = ((ms.map RgM.r).set i (m.r.put x).1, 0) := by rw [hp0, if_neg (by simp [hput])]
          refine CW_skip ?_
          refine CW_seq ?_
          refine CW_reg rfl ?_
          refine OW_ev (Ev_mvs (.inl rfl) rfl) rfl ?_
          refine OW_ev (Ev_mvi (.inl rfl) rfl) rfl ?_
          refine OW_ev (Ev_loadAgg agg_33 rfl rfl (BU.sub 0 9 (Nat.le_of_ble_eq_true rfl)) rfl) rfl ?_
          refine OW_st rfl (Stp_call ent_27 rfl rfl rfl (with_c (c := c) (i := i) (m' := ⟨(m.r.put x).1, HZ, HY⟩) hi hms hx hnl hin) ?_)
          rintro _ w9 ⟨E9, a3, q3, rfl, O⟩
          have Z9 := E9.size
          have hx := hx.keep0 E9
          have T := T.keep0 E9
          have B1 := B1.keep0 E9
          have hL := hL.keep0 E9
          have K := K.keep0 E9
          have HS := HS.keep0 E9
          have BU := BU.keep0 E9
          refine OW_ev (Ev_mvs (.inr rfl) rfl) rfl ?_
          refine OW_ev (Ev_c (.inr rfl)) rfl ?_
          refine OW_nil ?_
          refine CW_ret ?_
          refine ⟨rfl, _, (.tmp rfl (.tmp rfl .nil)), ?_⟩
          rw [hp]
          refine ⟨T, a3, q3, ms.set i ⟨(m.r.put x).1, HZ, HY⟩, ?_, ?_, ?_, ?_⟩
          · show Value.tuple #[.slice a3 n q3, .int .i64 0] = _; simp [hms]
          · rw [List.map_set]
          · exact O.sls.mono (fun b _ _ => trivial)
          · intro m2 hm2
            rcases List.mem_or_eq_of_mem_set hm2 with hm2 | rfl
            · exact ⟨(hl m2 hm2).1, (hl m2 hm2).2.1, ((hl m2 hm2).2.2.keep0 T).mono (fun b _ _ => trivial)⟩
            · exact ⟨HL, HM, HS.mono (fun b _ _ => trivial)⟩
      ·
        refine Stp_alloc zero_33 rfl ?_
        intro b10 w10 hb10 hz10 E10 B10
        have L10 : _ ≤ b10 := Nat.le_trans T.size (Nat.le_of_eq hb10.symm)
        have hx := hx.keep0 E10
        have T := T.keep0 E10
        have B1 := B1.keep0 E10
        have hL := hL.keep0 E10
        have K := K.keep0 E10
        obtain ⟨bu, rfl⟩ : ∃ b, b = b10 := ⟨_, rfl⟩
        have BU := B10
        refine ⟨⟨hx, B1, hL, K⟩, ?_⟩
        refine AW_one 5 (by decide +kernel) (Next.mk rfl rfl ?_)
        refine Stp_call ent_26 rfl rfl rfl (putR_c (c := m.c) (x := x) hL) ?_
        rintro _ w11 ⟨E11, HZ, HY, rfl, HL, HM, HS⟩
        have Z11 := E11.size
        have hx := hx.keep0 E11
        have T := T.keep0 E11
        have B1 := B1.keep0 E11
        have hL := hL.keep0 E11
        have K := K.keep0 E11
        have BU := BU.keep0 E11
        have HS := HS.bd
        refine ⟨⟨hx, B1, hL, K⟩, ?_⟩
        refine AW_take 6 rfl rfl (by decide +kernel) (by decide +kernel) (by decide +kernel) (fun w ⟨hx, B1, hL, K⟩ => Ev_mvt (.inl rfl) rfl) ⟨hx, B1, hL, K⟩ ?_
        refine AW_take 7 rfl rfl (by decide +kernel) (by decide +kernel) (by decide +kernel) (fun w ⟨hx, B1, hL, K⟩ => Ev_extract (vs := _) rfl rfl rfl) ⟨hx, B1, hL, K⟩ ?_
        refine AW_take 8 rfl rfl (by decide +kernel) (by decide +kernel) (by decide +kernel) (fun w ⟨hx, B1, hL, K⟩ => Ev_extract (vs := _) rfl rfl rfl) ⟨hx, B1, hL, K⟩ ?_
        refine AW_one 10 (by decide +kernel) (Next.mk rfl rfl ?_)
        refine Stp_store (q := 0) BU siz_33 rfl rfl rfl rfl (Nat.le_of_ble_eq_true rfl) rfl ?_
        intro w12 hz12 E12 B12
        have Z12 := E12.size
        have hx := hx.keepb E12 (by show ¬ _ < _; omega)
        have T := T.transb E12 (by omega)
        have B1 := B1.keepb E12 (by intro h; first | omega | (change _ < _ at h; omega) | (change _ ≤ _ at h; omega) | (have h1 := h.1; have h2 := h.2; first | omega | (change _ ≤ _ at h1; omega) | (change _ < _ at h1; omega)))
        have hL := hL.keepb E12 (by show ¬ _ < _; omega)
        have K := K.keepb E12 (by intro h; first | omega | (change _ < _ at h; omega) | (change _ ≤ _ at h; omega) | (have h1 := h.1; have h2 := h.2; first | omega | (change _ ≤ _ at h1; omega) | (change _ < _ at h1; omega)))
        have HS := HS.keepb E12 (fun h => by have h1 := h.1; have h2 := h.2; change _ ≤ _ at h1; omega)
        clear BU
        have BU := B12
        clear B12
        have BU : Blk w12 bu 33 (RgM.cl ⟨(m.r.put x).1, HZ, HY⟩) := BU
        refine ⟨⟨hx, B1, hL, K⟩, ?_⟩
        refine AW_take 11 rfl rfl (by decide +kernel) (by decide +kernel) (by decide +kernel) (fun w ⟨hx, B1, hL, K⟩ => Ev_mvi (.inr rfl) rfl) ⟨hx, B1, hL, K⟩ ?_
        refine AW_done (by decide +kernel) ?_
        refine CW_seq ?_
        refine CW_seq ?_
        refine CW_re [(0, .slice _ _ _), (4, .slice _ _ _), (5, .int _ _), (6, .int _ _), (7, .pointer _), (8, .int _ _)] ⟨rfl, rfl, rfl, rfl, rfl, rfl, trivial⟩ (fun g => ?_)
        refine CW_reg rfl ?_
        refine OW_ev (Ev_mvi (.inl rfl) rfl) rfl ?_
        refine OW_ev (Ev_neq rfl rfl rfl) rfl ?_
        refine OW_nil ?_
        refine CW_cond rfl (fun c13 => ?_) (fun c13 => ?_)
        · have d13 := c13
          first | (with_reducible replace d13 := of_decide_eq_true d13) | (with_reducible replace d13 := bnt d13; try (with_reducible replace d13 := of_decide_eq_false d13)) | skip
          have hp : offer (ms.map RgM.r) x = ([], (m.r.put x).2) := by rw [hp0, if_pos d13]
          refine CW_seq ?_
          refine CW_reg rfl ?_
          refine OW_ev (Ev_mvi (.inl rfl) rfl) rfl ?_
          refine OW_ev (Ev_c (.inr rfl)) rfl ?_
          refine OW_ev (Ev_mvi (.inr rfl) rfl) rfl ?_
          refine OW_nil ?_
          refine CW_ret ?_
          refine ⟨rfl, _, (.tmp rfl (.tmp rfl .nil)), ?_⟩
          rw [hp]
          exact ⟨T, none, 0, [], rfl, rfl, Sl.nil _ _ _ _, fun _ h => (nomatch h)⟩
        · have d13 := c13
          first | (with_reducible replace d13 := of_decide_eq_false d13) | (with_reducible replace d13 := bnf d13; try (with_reducible replace d13 := of_decide_eq_true d13)) | skip
          have hput : (m.r.put x).2 = 0 := by omega
          have hp : offer (ms.map RgM.r) x = ((ms.map RgM.r).set i (m.r.put x).1, 0) := by rw [hp0, if_neg (by simp [hput])]
          refine CW_skip ?_
          refine CW_seq ?_
          refine CW_reg rfl ?_
          refine OW_ev (Ev_mvs (.inl rfl) rfl) rfl ?_
          refine OW_ev (Ev_mvi (.inl rfl) rfl) rfl ?_
          refine OW_ev (Ev_loadAgg agg_33 rfl rfl (BU.sub 0 9 (Nat.le_of_ble_eq_true rfl)) rfl) rfl ?_
          refine OW_st rfl (Stp_call ent_27 rfl rfl rfl (with_c (c := c) (i := i) (m' := ⟨(m.r.put x).1, HZ, HY⟩) hi hms hx hnl hin) ?_)
          rintro _ w14 ⟨E14, a3, q3, rfl, O⟩
          have Z14 := E14.size
          have hx := hx.keep0 E14
          have T := T.keep0 E14
          have B1 := B1.keep0 E14
          have hL := hL.keep0 E14
          have K := K.keep0 E14
          have BU := BU.keep0 E14
          have HS := HS.keep0 E14
          refine OW_ev (Ev_mvs (.inr rfl) rfl) rfl ?_
          refine OW_ev (Ev_c (.inr rfl)) rfl ?_
          refine OW_nil ?_
          refine CW_ret ?_
          refine ⟨rfl, _, (.tmp rfl (.tmp rfl .nil)), ?_⟩
          rw [hp]
          refine ⟨T, a3, q3, ms.set i ⟨(m.r.put x).1, HZ, HY⟩, ?_, ?_, ?_, ?_⟩
          · show Value.tuple #[.slice a3 n q3, .int .i64 0] = _; simp [hms]
          · rw [List.map_set]
          · exact O.sls.mono (fun b _ _ => trivial)
          · intro m2 hm2
            rcases List.mem_or_eq_of_mem_set hm2 with hm2 | rfl
            · exact ⟨(hl m2 hm2).1, (hl m2 hm2).2.1, ((hl m2 hm2).2.2.keep0 T).mono (fun b _ _ => trivial)⟩
            · exact ⟨HL, HM, HS.mono (fun b _ _ => trivial)⟩
  · have d2 := c2
    first | (with_reducible replace d2 := of_decide_eq_false d2) | (with_reducible replace d2 := bnf d2; try (with_reducible replace d2 := of_decide_eq_true d2)) | skip
    have hpt : ¬ x.e.part = -1 := d2
    refine CW_seq ?_
    refine CW_reg rfl ?_
    refine OW_ev (Ev_mvi (.inl rfl) rfl) rfl ?_
    refine OW_ev (Ev_lss rfl rfl rfl) rfl ?_
    refine OW_ev (Ev_mvb (.inl rfl) rfl) rfl ?_
    refine OW_split (d := .tmp 19) rfl (fun c15 => ?_) (fun c15 => ?_)
    · have d15 := c15
      first | (with_reducible replace d15 := of_decide_eq_true d15) | (with_reducible replace d15 := bnt d15; try (with_reducible replace d15 := of_decide_eq_false d15)) | skip
      have hp : offer (ms.map RgM.r) x = ([], 1) := offer_no (.inr (by unfold offerAt; rw [if_neg hpt]; omega))
      refine OW_no rfl rfl rfl rfl c15 ?_
      refine OW_no rfl rfl rfl rfl c15 ?_
      refine OW_no rfl rfl rfl rfl c15 ?_
      refine OW_no rfl rfl rfl rfl c15 ?_
      refine OW_no rfl rfl rfl rfl c15 ?_
      refine OW_ev (Ev_pickb_t rfl rfl c15 rfl) rfl ?_
      refine OW_nil ?_
      refine CW_cond_t rfl rfl ?_
      refine CW_seq ?_
      refine CW_re [(0, .slice _ _ _), (3, .pointer _), (4, .slice _ _ _), (5, .int _ _), (6, .int _ _)] ⟨rfl, rfl, rfl, rfl, rfl, trivial⟩ (fun g => ?_)
      refine CW_reg rfl ?_
      refine OW_ev (Ev_c (.inr rfl)) rfl ?_
      refine OW_ev (Ev_c (.inr rfl)) rfl ?_
      refine OW_nil ?_
      refine CW_ret ?_
      refine ⟨rfl, _, (.tmp rfl (.tmp rfl .nil)), ?_⟩
      rw [hp]
      exact ⟨T, none, 0, [], rfl, rfl, Sl.nil _ _ _ _, fun _ h => (nomatch h)⟩
    · have d15 := c15
      first | (with_reducible replace d15 := of_decide_eq_false d15) | (with_reducible replace d15 := bnf d15; try (with_reducible replace d15 := of_decide_eq_true d15)) | skip
      refine OW_yes rfl rfl rfl rfl c15 (Ev.stp (Ev_mvi (.inl rfl) rfl) ?_)
      refine OW_yes rfl rfl rfl rfl c15 (Ev.stp (Ev_mvs (.inl rfl) rfl) ?_)
      refine OW_yes rfl rfl rfl rfl c15 (Ev.stp (Ev_len und_24 rfl rfl) ?_)
      refine OW_yes rfl rfl rfl rfl c15 (Ev.stp (Ev_sub rfl rfl rfl (by first | (apply IntWalk.i64_in; omega) | (apply IntWalk.u64_in; omega) | (apply IntWalk.u32_in; omega) | (apply IntWalk.u8_in; omega) | (apply IntWalk.i32_in; omega) | rfl)) ?_)
      refine OW_yes rfl rfl rfl rfl c15 (Ev.stp (Ev_gtr rfl rfl rfl) ?_)
      refine OW_ev (Ev_pickb_f rfl rfl c15 rfl) rfl ?_
      refine OW_nil ?_
      refine CW_cond rfl (fun c16 => ?_) (fun c16 => ?_)
      · have d16 := c16
        first | (with_reducible replace d16 := of_decide_eq_true d16) | (with_reducible replace d16 := bnt d16; try (with_reducible replace d16 := of_decide_eq_false d16)) | skip
        have hp : offer (ms.map RgM.r) x = ([], 1) := offer_no (by first | exact .inl ⟨hpt, by simp; omega⟩ | exact .inr (by unfold offerAt; rw [if_neg hpt]; omega))
        refine CW_seq ?_
        refine CW_re [(0, .slice _ _ _), (3, .pointer _), (4, .slice _ _ _), (5, .int _ _), (6, .int _ _)] ⟨rfl, rfl, rfl, rfl, rfl, trivial⟩ (fun g => ?_)
        refine CW_reg rfl ?_
        refine OW_ev (Ev_c (.inr rfl)) rfl ?_
        refine OW_ev (Ev_c (.inr rfl)) rfl ?_
        refine OW_nil ?_
        refine CW_ret ?_
        refine ⟨rfl, _, (.tmp rfl (.tmp rfl .nil)), ?_⟩
        rw [hp]
        exact ⟨T, none, 0, [], rfl, rfl, Sl.nil _ _ _ _, fun _ h => (nomatch h)⟩
      · have d16 := c16
        first | (with_reducible replace d16 := of_decide_eq_false d16) | (with_reducible replace d16 := bnf d16; try (with_reducible replace d16 := of_decide_eq_true d16)) | skip
        refine CW_skip ?_
        refine CW_seq ?_
        refine CW_seq ?_
        refine CW_re [(0, .slice _ _ _), (3, .pointer _), (4, .slice _ _ _), (5, .int _ _), (6, .int _ _)] ⟨rfl, rfl, rfl, rfl, rfl, trivial⟩ (fun g => ?_)
        refine CW_reg rfl ?_
        refine OW_ev (Ev_mvi (.inl rfl) rfl) rfl ?_
        refine OW_ev (Ev_lss rfl rfl rfl) rfl ?_
        refine OW_nil ?_
        refine CW_cond rfl (fun c17 => ?_) (fun c17 => ?_)
        · have d17 := c17
          first | (with_reducible replace d17 := of_decide_eq_true d17) | (with_reducible replace d17 := bnt d17; try (with_reducible replace d17 := of_decide_eq_false d17)) | skip
          have hp : offer (ms.map RgM.r) x = ([], 1) := offer_no (.inr (by unfold offerAt; simp; omega))
          refine CW_seq ?_
          refine CW_reg rfl ?_
          refine OW_ev (Ev_c (.inr rfl)) rfl ?_
          refine OW_ev (Ev_c (.inr rfl)) rfl ?_
          refine OW_nil ?_
          refine CW_ret ?_
          refine ⟨rfl, _, (.tmp rfl (.tmp rfl .nil)), ?_⟩
          rw [hp]
          exact ⟨T, none, 0, [], rfl, rfl, Sl.nil _ _ _ _, fun _ h => (nomatch h)⟩
        · have d17 := c17
          first | (with_reducible replace d17 := of_decide_eq_false d17) | (with_reducible replace d17 := bnf d17; try (with_reducible replace d17 := of_decide_eq_true d17)) | skip
          obtain ⟨i, hi, hin⟩ : ∃ i : Nat, x.e.part = (i : Int) ∧ i < n := ⟨(x.e.part).toNat, by omega, by omega⟩
          obtain ⟨m, hm⟩ : ∃ m, ms[i]? = some m := ⟨ms[i], List.getElem?_eq_getElem (by omega)⟩
          have hat : offerAt (ms.map RgM.r).length x = (i : Int) := by unfold offerAt; simp; omega
          have hp0 := offer_at (l := ms.map RgM.r) (x := x) (i := i) (r := m.r) (by simp; omega) hat (by rw [List.getElem?_map, hm]; rfl)
          have hget : (ms.map RgM.cl)[i]? = some m.cl := by rw [List.getElem?_map, hm]; rfl
          have hmin : m ∈ ms := List.mem_of_getElem? hm
          have hL := (hl m hmin).2.2.keep0 T
          have hL := hL.old
          have K := hx.at_ hget
          have hKb : ablk ao < NW := (hx.2 (Sl.ne hget)).2.1
          refine CW_skip ?_
          refine CW_seq ?_
          refine CW_draw (fun W => hx.here W ∧ B1.here W ∧ hL.here W ∧ K.here W) mixed rfl (fun _ _ _ h => nomatch h.1) ?_
          have E18 : Kp0 _ _ := Kp.drew w1 nob
          have Z18 : (World.drew w1).heap.size = w1.heap.size := rfl
          generalize World.drew w1 = w18 at E18 Z18 ⊢
          have hx := hx.keep0 E18
          have T := T.keep0 E18
          have B1 := B1.keep0 E18
          have hL := hL.keep0 E18
          have K := K.keep0 E18
          refine AW_take 0 rfl rfl (by decide +kernel) (by decide +kernel) (by decide +kernel) (fun w ⟨hx, B1, hL, K⟩ => Ev_mvs (.inl rfl) rfl) ⟨hx, B1, hL, K⟩ ?_
          refine AW_take 1 rfl rfl (by decide +kernel) (by decide +kernel) (by decide +kernel) (fun w ⟨hx, B1, hL, K⟩ => Ev_mvi (.inl rfl) rfl) ⟨hx, B1, hL, K⟩ ?_
          refine AW_take 2 rfl rfl (by decide +kernel) (by decide +kernel) (by decide +kernel) (fun w ⟨hx, B1, hL, K⟩ => Ev_idx i (hx.ad hget) sl_24 rfl rfl rfl hi hin) ⟨hx, B1, hL, K⟩ ?_
          refine AW_take 3 rfl rfl (by decide +kernel) (by decide +kernel) (by decide +kernel) (fun w ⟨hx, B1, hL, K⟩ => Ev_loadAgg (l := m.cl) agg_33 rfl rfl (K.sub 0 rfl) rfl) ⟨hx, B1, hL, K⟩ ?_
          refine AW_take 4 rfl rfl (by decide +kernel) (by decide +kernel) (by decide +kernel) (fun w ⟨hx, B1, hL, K⟩ => Ev_loadAgg (l := [.int _ _, .int _ _, .int _ _, .int _ _, .int _ _, .int _ _, .int _ _]) agg_31 rfl rfl (B1.sub 0 7 (Nat.le_of_ble_eq_true rfl)) rfl) ⟨hx, B1, hL, K⟩ ?_
          refine AW_two 5 9 (by decide +kernel) (Next.mk rfl rfl ?_) (Next.mk rfl rfl ?_)
          ·
            refine Stp_call ent_26 rfl rfl rfl (putR_c (c := m.c) (x := x) hL) ?_
            rintro _ w19 ⟨E19, HZ, HY, rfl, HL, HM, HS⟩
            have Z19 := E19.size
            have hx := hx.keep0 E19
            have T := T.keep0 E19
            have B1 := B1.keep0 E19
            have hL := hL.keep0 E19
            have K := K.keep0 E19
            have HS := HS.bd
            refine ⟨⟨hx, B1, hL, K⟩, ?_⟩
            refine AW_take 6 rfl rfl (by decide +kernel) (by decide +kernel) (by decide +kernel) (fun w ⟨hx, B1, hL, K⟩ => Ev_mvt (.inl rfl) rfl) ⟨hx, B1, hL, K⟩ ?_
            refine AW_take 7 rfl rfl (by decide +kernel) (by decide +kernel) (by decide +kernel) (fun w ⟨hx, B1, hL, K⟩ => Ev_extract (vs := _) rfl rfl rfl) ⟨hx, B1, hL, K⟩ ?_
            refine AW_take 8 rfl rfl (by decide +kernel) (by decide +kernel) (by decide +kernel) (fun w ⟨hx, B1, hL, K⟩ => Ev_extract (vs := _) rfl rfl rfl) ⟨hx, B1, hL, K⟩ ?_
            refine AW_one 9 (by decide +kernel) (Next.mk rfl rfl ?_)
            refine Stp_alloc zero_33 rfl ?_
            intro b20 w20 hb20 hz20 E20 B20
            have L20 : _ ≤ b20 := Nat.le_trans T.size (Nat.le_of_eq hb20.symm)
            have hx := hx.keep0 E20
            have T := T.keep0 E20
            have B1 := B1.keep0 E20
            have hL := hL.keep0 E20
            have K := K.keep0 E20
            have HS := HS.keep0 E20
            obtain ⟨bu, rfl⟩ : ∃ b, b = b20 := ⟨_, rfl⟩
            have BU := B20
            refine ⟨⟨hx, B1, hL, K⟩, ?_⟩
            refine AW_one 10 (by decide +kernel) (Next.mk rfl rfl ?_)
            refine Stp_store (q := 0) BU siz_33 rfl rfl rfl rfl (Nat.le_of_ble_eq_true rfl) rfl ?_
            intro w21 hz21 E21 B21
            have Z21 := E21.size
            have hx := hx.keepb E21 (by show ¬ _ < _; omega)
            have T := T.transb E21 (by omega)
            have B1 := B1.keepb E21 (by intro h; first | omega | (change _ < _ at h; omega) | (change _ ≤ _ at h; omega) | (have h1 := h.1; have h2 := h.2; first | omega | (change _ ≤ _ at h1; omega) | (change _ < _ at h1; omega)))
            have hL := hL.keepb E21 (by show ¬ _ < _; omega)
            have K := K.keepb E21 (by intro h; first | omega | (change _ < _ at h; omega) | (change _ ≤ _ at h; omega) | (have h1 := h.1; have h2 := h.2; first | omega | (change _ ≤ _ at h1; omega) | (change _ < _ at h1; omega)))
            have HS := HS.keepb E21 (fun h => by have h1 := h.1; have h2 := h.2; change _ ≤ _ at h1; omega)
            clear BU
            have BU := B21
            clear B21
            have BU : Blk w21 bu 33 (RgM.cl ⟨(m.r.put x).1, HZ, HY⟩) := BU
            refine ⟨⟨hx, B1, hL, K⟩, ?_⟩
            refine AW_take 11 rfl rfl (by decide +kernel) (by decide +kernel) (by decide +kernel) (fun w ⟨hx, B1, hL, K⟩ => Ev_mvi (.inr rfl) rfl) ⟨hx, B1, hL, K⟩ ?_
            refine AW_done (by decide +kernel) ?_
            refine CW_seq ?_
            refine CW_seq ?_
            refine CW_re [(0, .slice _ _ _), (4, .slice _ _ _), (5, .int _ _), (6, .int _ _), (7, .pointer _), (8, .int _ _)] ⟨rfl, rfl, rfl, rfl, rfl, rfl, trivial⟩ (fun g => ?_)
            refine CW_reg rfl ?_
            refine OW_ev (Ev_mvi (.inl rfl) rfl) rfl ?_
            refine OW_ev (Ev_neq rfl rfl rfl) rfl ?_
            refine OW_nil ?_
            refine CW_cond rfl (fun c22 => ?_) (fun c22 => ?_)
            · have d22 := c22
              first | (with_reducible replace d22 := of_decide_eq_true d22) | (with_reducible replace d22 := bnt d22; try (with_reducible replace d22 := of_decide_eq_false d22)) | skip
              have hp : offer (ms.map RgM.r) x = ([], (m.r.put x).2) := by rw [hp0, if_pos d22]
              refine CW_seq ?_
              refine CW_reg rfl ?_
              refine OW_ev (Ev_mvi (.inl rfl) rfl) rfl ?_
              refine OW_ev (Ev_c (.inr rfl)) rfl ?_
              refine OW_ev (Ev_mvi (.inr rfl) rfl) rfl ?_
              refine OW_nil ?_
              refine CW_ret ?_
              refine ⟨rfl, _, (.tmp rfl (.tmp rfl .nil)), ?_⟩
              rw [hp]
              exact ⟨T, none, 0, [], rfl, rfl, Sl.nil _ _ _ _, fun _ h => (nomatch h)⟩
            · have d22 := c22
              first | (with_reducible replace d22 := of_decide_eq_false d22) | (with_reducible replace d22 := bnf d22; try (with_reducible replace d22 := of_decide_eq_true d22)) | skip
              have hput : (m.r.put x).2 = 0 := by omega
              have hp : offer (ms.map RgM.r) x = ((ms.map RgM.r).set i (m.r.put x).1, 0) := by rw [hp0, if_neg (by simp [hput])]
              refine CW_skip ?_
              refine CW_seq ?_
              refine CW_reg rfl ?_
              refine OW_ev (Ev_mvs (.inl rfl) rfl) rfl ?_
              refine OW_ev (Ev_mvi (.inl rfl) rfl) rfl ?_
              refine OW_ev (Ev_loadAgg agg_33 rfl rfl (BU.sub 0 9 (Nat.le_of_ble_eq_true rfl)) rfl) rfl ?_
              refine OW_st rfl (Stp_call ent_27 rfl rfl rfl (with_c (c := c) (i := i) (m' := ⟨(m.r.put x).1, HZ, HY⟩) hi hms hx hnl hin) ?_)
              rintro _ w23 ⟨E23, a3, q3, rfl, O⟩
              have Z23 := E23.size
              have hx := hx.keep0 E23
              have T := T.keep0 E23
              have B1 := B1.keep0 E23
              have hL := hL.keep0 E23
              have K := K.keep0 E23
              have HS := HS.keep0 E23
              have BU := BU.keep0 E23
              refine OW_ev (Ev_mvs (.inr rfl) rfl) rfl ?_
              refine OW_ev (Ev_c (.inr rfl)) rfl ?_
              refine OW_nil ?_
              refine CW_ret ?_
              refine ⟨rfl, _, (.tmp rfl (.tmp rfl .nil)), ?_⟩
              rw [hp]
              refine ⟨T, a3, q3, ms.set i ⟨(m.r.put x).1, HZ, HY⟩, ?_, ?_, ?_, ?_⟩
              · show Value.tuple #[.slice a3 n q3, .int .i64 0] = _; simp [hms]
              · rw [List.map_set]
              · exact O.sls.mono (fun b _ _ => trivial)
              · intro m2 hm2
                rcases List.mem_or_eq_of_mem_set hm2 with hm2 | rfl
                · exact ⟨(hl m2 hm2).1, (hl m2 hm2).2.1, ((hl m2 hm2).2.2.keep0 T).mono (fun b _ _ => trivial)⟩
                · exact ⟨HL, HM, HS.mono (fun b _ _ => trivial)⟩
          ·
            refine Stp_alloc zero_33 rfl ?_
            intro b24 w24 hb24 hz24 E24 B24
            have L24 : _ ≤ b24 := Nat.le_trans T.size (Nat.le_of_eq hb24.symm)
            have hx := hx.keep0 E24
            have T := T.keep0 E24
            have B1 := B1.keep0 E24
            have hL := hL.keep0 E24
            have K := K.keep0 E24
            obtain ⟨bu, rfl⟩ : ∃ b, b = b24 := ⟨_, rfl⟩
            have BU := B24
            refine ⟨⟨hx, B1, hL, K⟩, ?_⟩
            refine AW_one 5 (by decide +kernel) (Next.mk rfl rfl ?_)
            refine Stp_call ent_26 rfl rfl rfl (putR_c (c := m.c) (x := x) hL) ?_
            rintro _ w25 ⟨E25, HZ, HY, rfl, HL, HM, HS⟩
            have Z25 := E25.size
            have hx := hx.keep0 E25
            have T := T.keep0 E25
            have B1 := B1.keep0 E25
            have hL := hL.keep0 E25
            have K := K.keep0 E25
            have BU := BU.keep0 E25
            have HS := HS.bd
            refine ⟨⟨hx, B1, hL, K⟩, ?_⟩
            refine AW_take 6 rfl rfl (by decide +kernel) (by decide +kernel) (by decide +kernel) (fun w ⟨hx, B1, hL, K⟩ => Ev_mvt (.inl rfl) rfl) ⟨hx, B1, hL, K⟩ ?_
            refine AW_take 7 rfl rfl (by decide +kernel) (by decide +kernel) (by decide +kernel) (fun w ⟨hx, B1, hL, K⟩ => Ev_extract (vs := _) rfl rfl rfl) ⟨hx, B1, hL, K⟩ ?_
            refine AW_take 8 rfl rfl (by decide +kernel) (by decide +kernel) (by decide +kernel) (fun w ⟨hx, B1, hL, K⟩ => Ev_extract (vs := _) rfl rfl rfl) ⟨hx, B1, hL, K⟩ ?_
            refine AW_one 10 (by decide +kernel) (Next.mk rfl rfl ?_)
            refine Stp_store (q := 0) BU siz_33 rfl rfl rfl rfl (Nat.le_of_ble_eq_true rfl) rfl ?_
            intro w26 hz26 E26 B26
            have Z26 := E26.size
            have hx := hx.keepb E26 (by show ¬ _ < _; omega)
            have T := T.transb E26 (by omega)
            have B1 := B1.keepb E26 (by intro h; first | omega | (change _ < _ at h; omega) | (change _ ≤ _ at h; omega) | (have h1 := h.1; have h2 := h.2; first | omega | (change _ ≤ _ at h1; omega) | (change _ < _ at h1; omega)))
            have hL := hL.keepb E26 (by show ¬ _ < _; omega)
            have K := K.keepb E26 (by intro h; first | omega | (change _ < _ at h; omega) | (change _ ≤ _ at h; omega) | (have h1 := h.1; have h2 := h.2; first | omega | (change _ ≤ _ at h1; omega) | (change _ < _ at h1; omega)))
            have HS := HS.keepb E26 (fun h => by have h1 := h.1; have h2 := h.2; change _ ≤ _ at h1; omega)
            clear BU
            have BU := B26
            clear B26
            have BU : Blk w26 bu 33 (RgM.cl ⟨(m.r.put x).1, HZ, HY⟩) := BU
            refine ⟨⟨hx, B1, hL, K⟩, ?_⟩
            refine AW_take 11 rfl rfl (by decide +kernel) (by decide +kernel) (by decide +kernel) (fun w ⟨hx, B1, hL, K⟩ => Ev_mvi (.inr rfl) rfl) ⟨hx, B1, hL, K⟩ ?_
            refine AW_done (by decide +kernel) ?_
            refine CW_seq ?_
            refine CW_seq ?_
            refine CW_re [(0, .slice _ _ _), (4, .slice _ _ _), (5, .int _ _), (6, .int _ _), (7, .pointer _), (8, .int _ _)] ⟨rfl, rfl, rfl, rfl, rfl, rfl, trivial⟩ (fun g => ?_)
            refine CW_reg rfl ?_
            refine OW_ev (Ev_mvi (.inl rfl) rfl) rfl ?_
            refine OW_ev (Ev_neq rfl rfl rfl) rfl ?_
            refine OW_nil ?_
            refine CW_cond rfl (fun c27 => ?_) (fun c27 => ?_)
            · have d27 := c27
              first | (with_reducible replace d27 := of_decide_eq_true d27) | (with_reducible replace d27 := bnt d27; try (with_reducible replace d27 := of_decide_eq_false d27)) | skip
              have hp : offer (ms.map RgM.r) x = ([], (m.r.put x).2) := by rw [hp0, if_pos d27]
              refine CW_seq ?_
              refine CW_reg rfl ?_
              refine OW_ev (Ev_mvi (.inl rfl) rfl) rfl ?_
              refine OW_ev (Ev_c (.inr rfl)) rfl ?_
              refine OW_ev (Ev_mvi (.inr rfl) rfl) rfl ?_
              refine OW_nil ?_
              refine CW_ret ?_
              refine ⟨rfl, _, (.tmp rfl (.tmp rfl .nil)), ?_⟩
              rw [hp]
              exact ⟨T, none, 0, [], rfl, rfl, Sl.nil _ _ _ _, fun _ h => (nomatch h)⟩
            · have d27 := c27
              first | (with_reducible replace d27 := of_decide_eq_false d27) | (with_reducible replace d27 := bnf d27; try (with_reducible replace d27 := of_decide_eq_true d27)) | skip
              have hput : (m.r.put x).2 = 0 := by omega
              have hp : offer (ms.map RgM.r) x = ((ms.map RgM.r).set i (m.r.put x).1, 0) := by rw [hp0, if_neg (by simp [hput])]
              refine CW_skip ?_
              refine CW_seq ?_
              refine CW_reg rfl ?_
              refine OW_ev (Ev_mvs (.inl rfl) rfl) rfl ?_
              refine OW_ev (Ev_mvi (.inl rfl) rfl) rfl ?_
              refine OW_ev (Ev_loadAgg agg_33 rfl rfl (BU.sub 0 9 (Nat.le_of_ble_eq_true rfl)) rfl) rfl ?_
              refine OW_st rfl (Stp_call ent_27 rfl rfl rfl (with_c (c := c) (i := i) (m' := ⟨(m.r.put x).1, HZ, HY⟩) hi hms hx hnl hin) ?_)
              rintro _ w28 ⟨E28, a3, q3, rfl, O⟩
              have Z28 := E28.size
              have hx := hx.keep0 E28
              have T := T.keep0 E28
              have B1 := B1.keep0 E28
              have hL := hL.keep0 E28
              have K := K.keep0 E28
              have BU := BU.keep0 E28
              have HS := HS.keep0 E28
              refine OW_ev (Ev_mvs (.inr rfl) rfl) rfl ?_
              refine OW_ev (Ev_c (.inr rfl)) rfl ?_
              refine OW_nil ?_
              refine CW_ret ?_
              refine ⟨rfl, _, (.tmp rfl (.tmp rfl .nil)), ?_⟩
              rw [hp]
              refine ⟨T, a3, q3, ms.set i ⟨(m.r.put x).1, HZ, HY⟩, ?_, ?_, ?_, ?_⟩
              · show Value.tuple #[.slice a3 n q3, .int .i64 0] = _; simp [hms]
              · rw [List.map_set]
              · exact O.sls.mono (fun b _ _ => trivial)
              · intro m2 hm2
                rcases List.mem_or_eq_of_mem_set hm2 with hm2 | rfl
                · exact ⟨(hl m2 hm2).1, (hl m2 hm2).2.1, ((hl m2 hm2).2.2.keep0 T).mono (fun b _ _ => trivial)⟩
                · exact ⟨HL, HM, HS.mono (fun b _ _ => trivial)⟩

end Go.Proofs.Ytiedmigdgelhkaa