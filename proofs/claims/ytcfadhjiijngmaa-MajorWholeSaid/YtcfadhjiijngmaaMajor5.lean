/- Contract of major.Begins. -/
import Derived.Test.YtcfadhjiijngmaaTypes
import Derived.Test.YtcfadhjiijngmaaMajorData
import Derived.Test.YtcfadhjiijngmaaMajor4
namespace Go.Proofs.Ytcfadhjiijngmaa
open Go Go.RowKit Bx Go.Proofs

theorem follow_win {p : Pln} {s : Slt} {j : Nat} (hj : s.window = (j : Int)) (hl : j < p.ws.length) : ∃ i : Nat, (p.follow s).window = (i : Int) ∧ i < p.ws.length ∧ (p.follow s).frame ≤ s.frame + 1 ∧ s.frame ≤ (p.follow s).frame := by
  unfold Pln.follow
  split
  · exact ⟨j + 1, by show s.window + 1 = _; omega, by omega, by show s.frame ≤ s.frame + 1; omega, Int.le_refl _⟩
  · exact ⟨0, rfl, by omega, Int.le_refl _, by show s.frame ≤ s.frame + 1; omega⟩
theorem go_yes {p : Pln} {to n : Int} {s : Slt} {k : Nat} (h : n < to ∧ isTick n = true) (hk : k < 1000) : p.go to (1000 - k) n s = s :: p.go to (1000 - (k + 1)) (n + p.wint s.window) (p.follow s) := by
  rw [show 1000 - k = (1000 - (k + 1)) + 1 by omega]
  show (if _ then _ else _) = _
  rw [if_pos h]
theorem go_no {p : Pln} {to n : Int} {s : Slt} {k : Nat} (h : ¬ (n < to ∧ isTick n = true) ∨ k = 0) : p.go to k n s = [] := by
  cases k with
  | zero => rfl
  | succ k => show (if _ then _ else _) = _; rw [if_neg (by rcases h with h | h; exact h; cases h)]

set_option maxRecDepth 10000 in
set_option maxHeartbeats 2000000 in
theorem begins_c {F : Nat → Prop} {w : World} {p : PlnM} {n to : Int} (hP : PlnS F w p) (hsm : p.ps.length ≤ 1000 ∧ p.ws.length ≤ 1000 ∧ p.cs.length ≤ 1000) : Calls Try.prog 18 #[.agg p.cl.toArray, .int .i64 n, .int .i64 to] w (Ret fun v w' => Kp0 w w' ∧ ∃ (a : Option Addr) (q : Nat), v = .slice a (p.r.begins n to).length q ∧ (p.r.begins n to).length ≤ q ∧ q ≤ maxLen ∧ Sl (fun b => w.heap.size ≤ b) w' 3 a ((p.r.begins n to).map Slt.cells)) := by
  have hP := hP.old
  obtain ⟨NW, hNW⟩ : ∃ x, x = w.heap.size := ⟨_, rfl⟩
  rw [← hNW] at hP
  have T : Kp0 w w := Kp.refl _ _
  refine calls_start Try.func18 rfl (n := 67) rfl rfl rfl ?_
  refine CW_seq ?_
  refine CW_reg rfl ?_
  refine OW_st rfl (Stp_box (l := [.int _ _, .slice _ _ _, .slice _ _ _, .slice _ _ _]) rfl rfl rfl ?_)
  intro b1 w1 hb1 hz1 E1 B1
  have L1 : _ ≤ b1 := Nat.le_trans T.size (Nat.le_of_eq hb1.symm)
  have hP := hP.keep0 E1
  have T := T.keep0 E1
  replace B1 : Blk w1 b1 26 (p.cl) := B1
  refine OW_ev (Ev_c (.inr rfl)) rfl ?_
  refine OW_nil ?_
  refine CW_scope (α := Nat) 0 (fun (k : Nat) f wr => ∃ (o : List Slt) (m : Int) (s : Slt) (j : Nat) (bs : Nat) (a : Option Addr) (q : Nat), AllEq f [(2, .int .i64 to), (3, .pointer (some ⟨b1, 0, none⟩)), (7, .pointer (some ⟨bs, 0, none⟩)), (9, .slice a k q), (10, .int .i64 m)] ∧ (o.length = k) ∧ (k ≤ 1000) ∧ (p.r.begins n to = o ++ p.r.go to (1000 - k) m s) ∧ (s.window = (j : Int)) ∧ (j < p.ws.length) ∧ (0 ≤ s.frame ∧ s.frame ≤ 1099511700000 + (k : Int)) ∧ (0 ≤ m ∧ m ≤ 1099512000000) ∧ (NW ≤ bs ∧ w.heap.size ≤ bs ∧ b1 < bs) ∧ (Blk wr b1 26 p.cl) ∧ (Blk wr bs 29 s.cells) ∧ (Own w.heap.size wr 29 3 (.slice a k q) (o.map Slt.cells)) ∧ (∀ b, (Value.slice a k q).ownBlock = some b → b ≠ bs ∧ b ≠ b1) ∧ (PlnS (fun b => b < NW) wr p) ∧ (Kp0 w wr) ∧ (p.r.Ok)) (fun k => 1000 - k) rfl ?_ ?_
  ·
    rintro k f wr ⟨o, m, s, j, bs, a, q, hf, hol, hk, hgo, hjw, hjl, hfr, hmb, hbs, B1, BS, O, hob, hP, T, hok⟩
    obtain ⟨g, rfl⟩ : ∃ g, f = upl g [(2, .int .i64 to), (3, .pointer (some ⟨b1, 0, none⟩)), (7, .pointer (some ⟨bs, 0, none⟩)), (9, .slice a k q), (10, .int .i64 m)] := ⟨f, upl_self hf⟩
    clear hf
    refine CW_seq ?_
    refine CW_seq ?_
    refine CW_reg rfl ?_
    refine OW_ev (Ev_mvi (.inl rfl) rfl) rfl ?_
    refine OW_ev (Ev_mvi (.inl rfl) rfl) rfl ?_
    refine OW_ev (Ev_lss rfl rfl rfl) rfl ?_
    refine OW_ev (Ev_mvb (.inl rfl) rfl) rfl ?_
    refine OW_split (d := .tmp 41) rfl (fun c2 => ?_) (fun c2 => ?_)
    · have d2 := c2
      first | (with_reducible replace d2 := of_decide_eq_true d2) | (with_reducible replace d2 := bnt d2; try (with_reducible replace d2 := of_decide_eq_false d2)) | skip
      have g1 : m < to := d2
      refine OW_yes rfl rfl rfl rfl c2 (Ev.stp (Ev_mvi (.inl rfl) rfl) ?_)
      refine OW_yes rfl rfl rfl rfl c2 (Stp_call ent_36 rfl rfl rfl (mtick_c _ _) ?_)
      rintro _ w3 ⟨E3, rfl⟩
      have Z3 := E3.size
      have T := T.keep0 E3
      have B1 := B1.keep0 E3
      have BS := BS.keep0 E3
      have O := O.keep0 E3
      have hP := hP.keep0 E3
      refine OW_ev (Ev_pickb_t rfl rfl c2 rfl) rfl ?_
      refine OW_ev (Ev_mvb (.inl rfl) rfl) rfl ?_
      refine OW_split (d := .tmp 45) rfl (fun c4 => ?_) (fun c4 => ?_)
      · have d4 := c4
        first | (with_reducible replace d4 := of_decide_eq_true d4) | (with_reducible replace d4 := bnt d4; try (with_reducible replace d4 := of_decide_eq_false d4)) | skip
        have g2 : isTick m = true := c4
        have g3 := isTick_iff.1 g2
        refine OW_yes rfl rfl rfl rfl c4 (Ev.stp (Ev_mvs (.inl rfl) rfl) ?_)
        refine OW_yes rfl rfl rfl rfl c4 (Ev.stp (Ev_len und_40 rfl rfl) ?_)
        refine OW_yes rfl rfl rfl rfl c4 (Ev.stp (Ev_lss rfl rfl rfl) ?_)
        refine OW_ev (Ev_pickb_t rfl rfl c4 rfl) rfl ?_
        refine OW_nil ?_
        refine CW_cond rfl (fun c5 => ?_) (fun c5 => ?_)
        · have d5 := c5
          first | (with_reducible replace d5 := of_decide_eq_true d5) | (with_reducible replace d5 := bnt d5; try (with_reducible replace d5 := of_decide_eq_false d5)) | skip
          have hk2 : k < 1000 := by omega
          have hgy := go_yes (p := p.r) (s := s) ⟨g1, g2⟩ hk2
          obtain ⟨x, hxj, hgx, hmem⟩ := getW (ws := p.ws) (j := j) hjl
          have K := hP.2.1.at_ hgx
          have hwt := Pln.wint_eq (p := p.r) (k := j) hxj
          have htx := hok.ticks x hmem
          have hKb := (hP.2.1.2 (Sl.ne hgx)).2.1
          change _ < _ at hKb
          have hbsl := BS.lt
          refine CW_seq ?_
          refine CW_reg rfl ?_
          refine OW_ev (Ev_mvs (.inl rfl) rfl) rfl ?_
          refine OW_ev (Ev_loadAgg (l := [.int _ _, .int _ _, .int _ _]) agg_29 rfl rfl (BS.sub 0 3 (Nat.le_of_ble_eq_true rfl)) rfl) rfl ?_
          refine OW_st rfl (Stp_buildSlice (l := [_, _, _]) el_40 zero_29 rfl rfl rfl rfl ?_)
          intro b6 w6 hb6 hz6 E6 B6
          have L6 : _ ≤ b6 := Nat.le_trans T.size (Nat.le_of_eq hb6.symm)
          have T := T.keep0 E6
          have B1 := B1.keep0 E6
          have BS := BS.keep0 E6
          have O := O.keep0 E6
          have hP := hP.keep0 E6
          have K := K.keep0 E6
          have hY : Sl (· = b6) w6 3 (some ⟨b6, 0, none⟩) ([s].map Slt.cells) := Sl.ofBlk B6 (by simp [Slt.cells])
          have hwpre : w6.heap.size = w6.heap.size := rfl
          obtain ⟨wq, hwq⟩ : ∃ x, x = w6.heap.size := ⟨_, rfl⟩
          refine OW_st rfl (Stp_append O hY el_40 rfl rfl rfl rfl (by simp) (Slt.one _) (by simp [maxLen]; omega) (by simp; omega) (by have := T.size; omega) ?_)
          intro v7 w7 O7 E7 X7
          have Z7 := E7.size
          have T := T.transo E7 (Nat.le_refl _)
          have B1 := B1.keepo E7 (fun b hb _ he => by have := hob b he; omega)
          have BS := BS.keepo E7 (fun b hb _ he => by have := hob b he; omega)
          have hP := hP.keepo E7 (fun b hb hl he => by first | omega | (have := hsp b he; omega) | (change b < _ at hb; omega) | (change _ ≤ b at hb; omega) | (have h1 := hb.1; have h2 := hb.2; first | omega | (change _ ≤ _ at h1; omega) | (change _ < _ at h1; omega)))
          have K := K.keepo E7 (fun b hb hl he => by first | omega | (have := hsp b he; omega) | (change b < _ at hb; omega) | (change _ ≤ b at hb; omega) | (have h1 := hb.1; have h2 := hb.2; first | omega | (change _ ≤ _ at h1; omega) | (change _ < _ at h1; omega)))
          obtain ⟨a7, q7, rfl, l7, m7, S7⟩ := O7.sl
          obtain ⟨aN, rfl⟩ : ∃ x, x = a7 := ⟨_, rfl⟩
          obtain ⟨qN, rfl⟩ : ∃ x, x = q7 := ⟨_, rfl⟩
          have ON := O7
          have hX := X7
          have hobN : ∀ b, (Value.slice aN (List.map Slt.cells o ++ List.map Slt.cells [s]).length qN).ownBlock = some b → b ≠ bs ∧ b ≠ b1 := fun b hb => by
            rcases hX with h | h | h
            · exact absurd h.2.2 (by simp)
            · rw [h] at hb; exact hob b hb
            · rw [h] at hb; injection hb with e; omega
          refine OW_ev (Ev_mvs (.inr rfl) rfl) rfl ?_
          refine OW_nil ?_
          refine CW_seq ?_
          refine CW_re [(2, .int _ _), (3, .pointer _), (7, .pointer _), (9, .slice _ _ _), (10, .int _ _)] ⟨rfl, rfl, rfl, rfl, rfl, trivial⟩ (fun g => ?_)
          refine CW_reg rfl ?_
          refine OW_ev (Ev_mvi (.inl rfl) rfl) rfl ?_
          refine OW_ev (Ev_fieldAddr fld_26_2 rfl rfl) rfl ?_
          refine OW_ev (Ev_load one_23 rfl rfl (B1.ld (q := 2) rfl)) rfl ?_
          refine OW_ev (Ev_fieldAddr fld_29_1 rfl rfl) rfl ?_
          refine OW_ev (Ev_load one_3 rfl rfl (BS.ld (q := 1) rfl)) rfl ?_
          refine OW_ev (Ev_idx j (hP.2.1.ad hgx) sl_23 rfl rfl rfl hjw hjl) rfl ?_
          refine OW_ev (Ev_fieldAddr fld_88_1 rfl rfl) rfl ?_
          refine OW_ev (Ev_load one_3 rfl rfl (K.one 1 rfl)) rfl ?_
          refine OW_ev (Ev_add rfl rfl rfl (by first | (apply IntWalk.i64_in; omega) | (apply IntWalk.u64_in; omega) | (apply IntWalk.u32_in; omega) | (apply IntWalk.u8_in; omega) | (apply IntWalk.i32_in; omega) | rfl)) rfl ?_
          refine OW_ev (Ev_mvi (.inr rfl) rfl) rfl ?_
          refine OW_nil ?_
          refine CW_seq ?_
          refine CW_reg rfl ?_
          refine OW_ev (Ev_loadAgg (l := [.int _ _, .slice _ _ _, .slice _ _ _, .slice _ _ _]) agg_26 rfl rfl (B1.sub 0 4 (Nat.le_of_ble_eq_true rfl)) rfl) rfl ?_
          refine OW_ev (Ev_loadAgg (l := [.int _ _, .int _ _, .int _ _]) agg_29 rfl rfl (BS.sub 0 3 (Nat.le_of_ble_eq_true rfl)) rfl) rfl ?_
          refine OW_st rfl (Stp_call ent_47 rfl rfl rfl (follow_c _ p s ⟨by omega, by omega⟩ ⟨by omega, by omega⟩) ?_)
          rintro _ w8 ⟨E8, rfl⟩
          have Z8 := E8.size
          have T := T.keep0 E8
          have B1 := B1.keep0 E8
          have BS := BS.keep0 E8
          have hP := hP.keep0 E8
          have K := K.keep0 E8
          have ON := ON.keep0 E8
          refine OW_st rfl (Stp_store (q := 0) BS siz_29 rfl rfl rfl rfl (Nat.le_of_ble_eq_true rfl) rfl ?_)
          intro w9 hz9 E9 B9
          have Z9 := E9.size
          have T := T.transb E9 (by omega)
          have B1 := B1.keepb E9 (by intro h; first | omega | (change _ < _ at h; omega) | (change _ ≤ _ at h; omega) | (have h1 := h.1; have h2 := h.2; first | omega | (change _ ≤ _ at h1; omega) | (change _ < _ at h1; omega)))
          have hP := hP.keepb E9 (by intro h; first | omega | (change _ < _ at h; omega) | (change _ ≤ _ at h; omega) | (have h1 := h.1; have h2 := h.2; first | omega | (change _ ≤ _ at h1; omega) | (change _ < _ at h1; omega)))
          have ON := ON.keepb E9 (fun b _ hv => (hobN b hv).1)
          clear BS
          have BS := B9
          clear B9
          have BS : Blk w9 bs 29 (p.r.follow s).cells := BS
          refine OW_nil ?_
          refine CW_goto ?_
          obtain ⟨j2, hj1, hj2, hj3, hj4⟩ := follow_win (p := p.r) (s := s) hjw hjl
          rw [hjw, hwt] at hgy
          have hlm : (List.map Slt.cells o ++ List.map Slt.cells [s]).length = k + 1 := by simp [hol]
          rw [← List.map_append] at ON
          have hlm2 : (List.map Slt.cells (o ++ [s])).length = k + 1 := by simp [hol]
          rw [hlm2] at ON
          refine ⟨rfl, k + 1, by omega, o ++ [s], m + x.2, p.r.follow s, j2, bs, aN, qN, ⟨rfl, rfl, rfl, congrArg (fun n => Value.slice aN n qN) hlm, rfl, trivial⟩, by simp [hol], by omega, by rw [hgo, hgy]; simp, hj1, hj2, ⟨by omega, by omega⟩, ⟨by omega, by omega⟩, hbs, B1, BS, ON, ?_, hP, T, hok⟩
          rw [hlm] at hobN
          exact hobN
        · have d5 := c5
          first | (with_reducible replace d5 := of_decide_eq_false d5) | (with_reducible replace d5 := bnf d5; try (with_reducible replace d5 := of_decide_eq_true d5)) | skip
          have g0 : ¬ (m < to ∧ isTick m = true) ∨ 1000 - k = 0 := .inr (by omega)
          refine CW_skip ?_
          refine CW_seq ?_
          refine CW_reg rfl ?_
          refine OW_ev (Ev_mvs (.inl rfl) rfl) rfl ?_
          refine OW_ev (Ev_mvs (.inr rfl) rfl) rfl ?_
          refine OW_nil ?_
          refine CW_ret ?_
          refine qj_ret ?_
          refine ⟨rfl, _, (.tmp rfl .nil), ?_⟩
          have hres : p.r.begins n to = o := by rw [hgo, go_no g0, List.append_nil]
          obtain ⟨a2, q2, hv2, l2, m2, S2⟩ := O.sl
          rw [List.length_map, hol] at hv2
          injection hv2 with e1 e2 e3
          subst e1; subst e3
          exact ⟨T, a, q, by rw [hres, hol]; rfl, by rw [hres]; simpa using l2, m2, by rw [hres]; exact S2⟩
      · have d4 := c4
        first | (with_reducible replace d4 := of_decide_eq_false d4) | (with_reducible replace d4 := bnf d4; try (with_reducible replace d4 := of_decide_eq_true d4)) | skip
        have g0 : ¬ (m < to ∧ isTick m = true) ∨ 1000 - k = 0 := .inl (fun h => by rw [h.2] at c4; cases c4)
        refine OW_no rfl rfl rfl rfl c4 ?_
        refine OW_no rfl rfl rfl rfl c4 ?_
        refine OW_no rfl rfl rfl rfl c4 ?_
        refine OW_ev (Ev_pickb_f rfl rfl c4 rfl) rfl ?_
        refine OW_nil ?_
        refine CW_cond_f rfl rfl ?_
        refine CW_skip ?_
        refine CW_seq ?_
        refine CW_reg rfl ?_
        refine OW_ev (Ev_mvs (.inl rfl) rfl) rfl ?_
        refine OW_ev (Ev_mvs (.inr rfl) rfl) rfl ?_
        refine OW_nil ?_
        refine CW_ret ?_
        refine qj_ret ?_
        refine ⟨rfl, _, (.tmp rfl .nil), ?_⟩
        have hres : p.r.begins n to = o := by rw [hgo, go_no g0, List.append_nil]
        obtain ⟨a2, q2, hv2, l2, m2, S2⟩ := O.sl
        rw [List.length_map, hol] at hv2
        injection hv2 with e1 e2 e3
        subst e1; subst e3
        exact ⟨T, a, q, by rw [hres, hol]; rfl, by rw [hres]; simpa using l2, m2, by rw [hres]; exact S2⟩
    · have d2 := c2
      first | (with_reducible replace d2 := of_decide_eq_false d2) | (with_reducible replace d2 := bnf d2; try (with_reducible replace d2 := of_decide_eq_true d2)) | skip
      have g0 : ¬ (m < to ∧ isTick m = true) ∨ 1000 - k = 0 := .inl (fun h => d2 h.1)
      refine OW_no rfl rfl rfl rfl c2 ?_
      refine OW_no rfl rfl rfl rfl c2 ?_
      refine OW_ev (Ev_pickb_f rfl rfl c2 rfl) rfl ?_
      refine OW_ev (Ev_mvb (.inl rfl) rfl) rfl ?_
      refine OW_no rfl rfl rfl rfl rfl ?_
      refine OW_no rfl rfl rfl rfl rfl ?_
      refine OW_no rfl rfl rfl rfl rfl ?_
      refine OW_ev (Ev_pickb_f rfl rfl rfl rfl) rfl ?_
      refine OW_nil ?_
      refine CW_cond_f rfl rfl ?_
      refine CW_skip ?_
      refine CW_seq ?_
      refine CW_reg rfl ?_
      refine OW_ev (Ev_mvs (.inl rfl) rfl) rfl ?_
      refine OW_ev (Ev_mvs (.inr rfl) rfl) rfl ?_
      refine OW_nil ?_
      refine CW_ret ?_
      refine qj_ret ?_
      refine ⟨rfl, _, (.tmp rfl .nil), ?_⟩
      have hres : p.r.begins n to = o := by rw [hgo, go_no g0, List.append_nil]
      obtain ⟨a2, q2, hv2, l2, m2, S2⟩ := O.sl
      rw [List.length_map, hol] at hv2
      injection hv2 with e1 e2 e3
      subst e1; subst e3
      exact ⟨T, a, q, by rw [hres, hol]; rfl, by rw [hres]; simpa using l2, m2, by rw [hres]; exact S2⟩
  ·
    intro hB
    refine CW_seq ?_
    refine CW_reg rfl ?_
    refine OW_ev (Ev_loadAgg (l := [.int _ _, .slice _ _ _, .slice _ _ _, .slice _ _ _]) agg_26 rfl rfl (B1.sub 0 4 (Nat.le_of_ble_eq_true rfl)) rfl) rfl ?_
    refine OW_ev (Ev_mvi (.inl rfl) rfl) rfl ?_
    refine OW_st rfl (Stp_call ent_11 rfl rfl rfl (at_c hP hsm) ?_)
    rintro _ w10 ⟨E10, rfl⟩
    have Z10 := E10.size
    have hP := hP.keep0 E10
    have T := T.keep0 E10
    have B1 := B1.keep0 E10
    refine OW_ev (Ev_mvt (.inl rfl) rfl) rfl ?_
    refine OW_ev (Ev_extract (vs := _) rfl rfl rfl) rfl ?_
    refine OW_ev (Ev_extract (vs := _) rfl rfl rfl) rfl ?_
    refine OW_st rfl (Stp_alloc zero_29 rfl ?_)
    intro b11 w11 hb11 hz11 E11 B11
    have L11 : _ ≤ b11 := Nat.le_trans T.size (Nat.le_of_eq hb11.symm)
    have hP := hP.keep0 E11
    have T := T.keep0 E11
    have B1 := B1.keep0 E11
    obtain ⟨bs, rfl⟩ : ∃ b, b = b11 := ⟨_, rfl⟩
    have BS := B11
    have hbs0 : NW ≤ bs ∧ w.heap.size ≤ bs ∧ b1 < bs := ⟨by omega, by omega, by omega⟩
    refine OW_st rfl (Stp_store (q := 0) BS siz_29 rfl rfl rfl rfl (Nat.le_of_ble_eq_true rfl) rfl ?_)
    intro w12 hz12 E12 B12
    have Z12 := E12.size
    have hP := hP.keepb E12 (fun h => by change _ < _ at h; omega)
    have T := T.transb E12 (by omega)
    have B1 := B1.keepb E12 (by intro h; first | omega | (change _ < _ at h; omega) | (change _ ≤ _ at h; omega) | (have h1 := h.1; have h2 := h.2; first | omega | (change _ ≤ _ at h1; omega) | (change _ < _ at h1; omega)))
    clear BS
    have BS := B12
    clear B12
    have BS : Blk w12 bs 29 (p.r.at_ n).1.cells := BS
    refine OW_ev (Ev_mvi (.inr rfl) rfl) rfl ?_
    refine OW_nil ?_
    refine CW_seq ?_
    refine CW_seq ?_
    refine CW_reg rfl ?_
    refine OW_ev (Ev_mvi (.inl rfl) rfl) rfl ?_
    refine OW_ev (Ev_neq rfl rfl rfl) rfl ?_
    refine OW_nil ?_
    refine CW_cond rfl (fun c13 => ?_) (fun c13 => ?_)
    · have d13 := c13
      first | (with_reducible replace d13 := of_decide_eq_true d13) | (with_reducible replace d13 := bnt d13; try (with_reducible replace d13 := of_decide_eq_false d13)) | skip
      have he := d13
      have hbg : p.r.begins n to = [] := if_pos he
      refine CW_seq ?_
      refine CW_reg rfl ?_
      refine OW_ev (Ev_c (.inr rfl)) rfl ?_
      refine OW_nil ?_
      refine CW_ret ?_
      refine qj_ret ?_
      refine ⟨rfl, _, (.tmp rfl .nil), ?_⟩
      exact ⟨T, none, 0, by rw [hbg]; rfl, by rw [hbg]; exact Nat.zero_le _, Nat.zero_le _, by rw [hbg]; exact Sl.nil _ _ _ _⟩
    · have d13 := c13
      first | (with_reducible replace d13 := of_decide_eq_false d13) | (with_reducible replace d13 := bnf d13; try (with_reducible replace d13 := of_decide_eq_true d13)) | skip
      have he : (p.r.at_ n).2 = 0 := by omega
      obtain ⟨hok, hn0, hat⟩ := at_ok he
      have hsl := at_slot hok hn0
      have hwin := (hok.win_spec n).1
      have hwl : 1 ≤ p.ws.length ∧ p.ws.length ≤ 32 := hok.wsl
      simp only [hat] at BS
      obtain ⟨x, hxj, hgx, hmem⟩ := getW (ws := p.ws) (j := p.r.win n) hwin
      have K := hP.2.1.at_ hgx
      have htx := hok.ticks x hmem
      have hwt := Pln.wint_eq (p := p.r) (k := p.r.win n) hxj
      have hqb : n / p.r.frame ≤ 1099511627776 := by omega
      have hwin2 : p.r.win n < p.ws.length := hwin
      have hoff : (p.r.slot n).off < x.2 := by
        have h1 := (hok.win_spec n).2.2
        have h2 := aheadT_succ (ws := p.r.ws) hxj htx
        show n % p.r.frame - aheadT p.r.ws (p.r.win n) < x.2
        omega
      refine CW_skip ?_
      refine CW_seq ?_
      refine CW_reg rfl ?_
      refine OW_ev (Ev_c (.inr rfl)) rfl ?_
      refine OW_nil ?_
      refine CW_seq ?_
      refine CW_reg rfl ?_
      refine OW_ev (Ev_mvi (.inl rfl) rfl) rfl ?_
      refine OW_ev (Ev_mvi (.inr rfl) rfl) rfl ?_
      refine OW_nil ?_
      refine CW_seq ?_
      refine CW_seq ?_
      refine CW_re [(2, .int _ _), (3, .pointer _), (6, .slice _ _ _), (7, .pointer _), (9, .slice _ _ _), (10, .int _ _)] ⟨rfl, rfl, rfl, rfl, rfl, rfl, trivial⟩ (fun g => ?_)
      refine CW_reg rfl ?_
      refine OW_ev (Ev_fieldAddr fld_29_2 rfl rfl) rfl ?_
      refine OW_ev (Ev_load one_3 rfl rfl (BS.ld (q := 2) rfl)) rfl ?_
      refine OW_ev (Ev_gtr rfl rfl rfl) rfl ?_
      refine OW_nil ?_
      refine CW_cond rfl (fun c14 => ?_) (fun c14 => ?_)
      · have d14 := c14
        first | (with_reducible replace d14 := of_decide_eq_true d14) | (with_reducible replace d14 := bnt d14; try (with_reducible replace d14 := of_decide_eq_false d14)) | skip
        have hpos : 0 < (p.r.slot n).off := d14
        refine CW_seq ?_
        refine CW_draw (fun W => hP.here W ∧ B1.here W ∧ BS.here W ∧ K.here W) mixed rfl (fun _ _ _ h => nomatch h.1) ?_
        have E15 : Kp0 _ _ := Kp.drew w12 nob
        have Z15 : (World.drew w12).heap.size = w12.heap.size := rfl
        generalize World.drew w12 = w15 at E15 Z15 ⊢
        have hP := hP.keep0 E15
        have T := T.keep0 E15
        have B1 := B1.keep0 E15
        have BS := BS.keep0 E15
        have K := K.keep0 E15
        refine AW_take 0 rfl rfl (by decide +kernel) (by decide +kernel) (by decide +kernel) (fun w ⟨hP, B1, BS, K⟩ => Ev_mvi (.inl rfl) rfl) ⟨hP, B1, BS, K⟩ ?_
        refine AW_take 1 rfl rfl (by decide +kernel) (by decide +kernel) (by decide +kernel) (fun w ⟨hP, B1, BS, K⟩ => Ev_fieldAddr fld_26_2 rfl rfl) ⟨hP, B1, BS, K⟩ ?_
        refine AW_take 2 rfl rfl (by decide +kernel) (by decide +kernel) (by decide +kernel) (fun w ⟨hP, B1, BS, K⟩ => Ev_load one_23 rfl rfl (B1.ld (q := 2) rfl)) ⟨hP, B1, BS, K⟩ ?_
        refine AW_take 3 rfl rfl (by decide +kernel) (by decide +kernel) (by decide +kernel) (fun w ⟨hP, B1, BS, K⟩ => Ev_fieldAddr fld_29_1 rfl rfl) ⟨hP, B1, BS, K⟩ ?_
        refine AW_take 4 rfl rfl (by decide +kernel) (by decide +kernel) (by decide +kernel) (fun w ⟨hP, B1, BS, K⟩ => Ev_load one_3 rfl rfl (BS.ld (q := 1) rfl)) ⟨hP, B1, BS, K⟩ ?_
        refine AW_take 5 rfl rfl (by decide +kernel) (by decide +kernel) (by decide +kernel) (fun w ⟨hP, B1, BS, K⟩ => Ev_idx (p.r.win n) (hP.2.1.ad hgx) sl_23 rfl rfl rfl rfl hwin) ⟨hP, B1, BS, K⟩ ?_
        refine AW_take 6 rfl rfl (by decide +kernel) (by decide +kernel) (by decide +kernel) (fun w ⟨hP, B1, BS, K⟩ => Ev_fieldAddr fld_88_1 rfl rfl) ⟨hP, B1, BS, K⟩ ?_
        refine AW_take 7 rfl rfl (by decide +kernel) (by decide +kernel) (by decide +kernel) (fun w ⟨hP, B1, BS, K⟩ => Ev_load one_3 rfl rfl (K.one 1 rfl)) ⟨hP, B1, BS, K⟩ ?_
        refine AW_take 8 rfl rfl (by decide +kernel) (by decide +kernel) (by decide +kernel) (fun w ⟨hP, B1, BS, K⟩ => Ev_fieldAddr fld_29_2 rfl rfl) ⟨hP, B1, BS, K⟩ ?_
        refine AW_take 9 rfl rfl (by decide +kernel) (by decide +kernel) (by decide +kernel) (fun w ⟨hP, B1, BS, K⟩ => Ev_load one_3 rfl rfl (BS.ld (q := 2) rfl)) ⟨hP, B1, BS, K⟩ ?_
        refine AW_take 10 rfl rfl (by decide +kernel) (by decide +kernel) (by decide +kernel) (fun w ⟨hP, B1, BS, K⟩ => Ev_sub rfl rfl rfl (by first | (apply IntWalk.i64_in; omega) | (apply IntWalk.u64_in; omega) | (apply IntWalk.u32_in; omega) | (apply IntWalk.u8_in; omega) | (apply IntWalk.i32_in; omega) | rfl)) ⟨hP, B1, BS, K⟩ ?_
        refine AW_take 11 rfl rfl (by decide +kernel) (by decide +kernel) (by decide +kernel) (fun w ⟨hP, B1, BS, K⟩ => Ev_add rfl rfl rfl (by first | (apply IntWalk.i64_in; omega) | (apply IntWalk.u64_in; omega) | (apply IntWalk.u32_in; omega) | (apply IntWalk.u8_in; omega) | (apply IntWalk.i32_in; omega) | rfl)) ⟨hP, B1, BS, K⟩ ?_
        refine AW_take 12 rfl rfl (by decide +kernel) (by decide +kernel) (by decide +kernel) (fun w ⟨hP, B1, BS, K⟩ => Ev_mvi (.inr rfl) rfl) ⟨hP, B1, BS, K⟩ ?_
        refine AW_done (by decide +kernel) ?_
        refine CW_re [(2, .int _ _), (3, .pointer _), (6, .slice _ _ _), (7, .pointer _), (9, .slice _ _ _), (10, .int _ _)] ⟨rfl, rfl, rfl, rfl, rfl, rfl, trivial⟩ (fun g => ?_)
        refine CW_reg rfl ?_
        refine OW_ev (Ev_loadAgg (l := [.int _ _, .slice _ _ _, .slice _ _ _, .slice _ _ _]) agg_26 rfl rfl (B1.sub 0 4 (Nat.le_of_ble_eq_true rfl)) rfl) rfl ?_
        refine OW_ev (Ev_loadAgg (l := [.int _ _, .int _ _, .int _ _]) agg_29 rfl rfl (BS.sub 0 3 (Nat.le_of_ble_eq_true rfl)) rfl) rfl ?_
        refine OW_st rfl (Stp_call ent_47 rfl rfl rfl (follow_c _ p (p.r.slot n) ⟨by rw [hsl.1]; omega, by rw [hsl.1]; omega⟩ ⟨by rw [hsl.2.2.2.2.2]; omega, by rw [hsl.2.2.2.2.2]; omega⟩) ?_)
        rintro _ w16 ⟨E16, rfl⟩
        have Z16 := E16.size
        have hP := hP.keep0 E16
        have T := T.keep0 E16
        have B1 := B1.keep0 E16
        have BS := BS.keep0 E16
        have K := K.keep0 E16
        refine OW_st rfl (Stp_store (q := 0) BS siz_29 rfl rfl rfl rfl (Nat.le_of_ble_eq_true rfl) rfl ?_)
        intro w17 hz17 E17 B17
        have Z17 := E17.size
        have hP := hP.keepb E17 (fun h => by change _ < _ at h; omega)
        have T := T.transb E17 (by omega)
        have B1 := B1.keepb E17 (by intro h; first | omega | (change _ < _ at h; omega) | (change _ ≤ _ at h; omega) | (have h1 := h.1; have h2 := h.2; first | omega | (change _ ≤ _ at h1; omega) | (change _ < _ at h1; omega)))
        clear BS
        have BS := B17
        clear B17
        have BS : Blk w17 bs 29 (p.r.follow (p.r.slot n)).cells := BS
        refine OW_nil ?_
        refine CW_seq ?_
        refine CW_label ?_
        refine hB (0) _ _ ?_
        obtain ⟨j, hj1, hj2, hj3, hj4⟩ := follow_win (p := p.r) (s := p.r.slot n) hsl.2.2.2.2.2 hwin
        rw [hsl.1] at hj3 hj4
        have hbg : p.r.begins n to = [] ++ p.r.go to (1000 - 0) (n + (x.2 - (p.r.slot n).off)) (p.r.follow (p.r.slot n)) := by
          unfold Pln.begins; rw [if_neg (by simp [he]), hat]; simp only; rw [if_pos hpos, hsl.2.2.2.2.2, hwt]; rfl
        exact ⟨[], _, _, j, bs, none, 0, ⟨rfl, rfl, rfl, rfl, rfl, trivial⟩, rfl, Nat.zero_le _, hbg, hj1, hj2, ⟨by omega, by omega⟩, ⟨by omega, by omega⟩, hbs0, B1, BS, Own.none_ _ _ _ _ _, fun b h => by simp [Value.ownBlock] at h, hP, T, hok⟩
      · have d14 := c14
        first | (with_reducible replace d14 := of_decide_eq_false d14) | (with_reducible replace d14 := bnf d14; try (with_reducible replace d14 := of_decide_eq_true d14)) | skip
        have hpos : ¬ 0 < (p.r.slot n).off := d14
        refine CW_skip ?_
        refine CW_seq ?_
        refine CW_label ?_
        refine hB (0) _ _ ?_
        have hbg : p.r.begins n to = [] ++ p.r.go to (1000 - 0) n (p.r.slot n) := by
          unfold Pln.begins; rw [if_neg (by simp [he]), hat]; simp only; rw [if_neg hpos]; rfl
        exact ⟨[], _, _, p.r.win n, bs, none, 0, ⟨rfl, rfl, rfl, rfl, rfl, trivial⟩, rfl, Nat.zero_le _, hbg, hsl.2.2.2.2.2, hwin, ⟨by rw [hsl.1]; omega, by rw [hsl.1]; omega⟩, ⟨by omega, by omega⟩, hbs0, B1, BS, Own.none_ _ _ _ _ _, fun b h => by simp [Value.ownBlock] at h, hP, T, hok⟩

end Go.Proofs.Ytcfadhjiijngmaa