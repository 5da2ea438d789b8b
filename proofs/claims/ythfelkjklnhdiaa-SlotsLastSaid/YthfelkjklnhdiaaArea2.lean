/- Contract of through: each piece that is told is done, up to the first error. -/
import Derived.Test.YthfelkjklnhdiaaArea1
namespace Go.Proofs.Ythfelkjklnhdiaa
open Go Go.RowKit Bx Go.Proofs

/-- What holds when the place a is reached: in blocks of D; a change elsewhere leaves it alone. -/
structure Core where
  C : Nat → (Nat → Prop) → World → Prop
  keep : ∀ {a D w w' M}, C a D w → Kp M w w' → (∀ b, D b → ¬ M b) → C a D w'
def CoreAt (c : Core) (a : Nat) (D : Nat → Prop) (w : World) : Prop := c.C a D w
section
variable {c c' : Core} {a : Nat} {D : Nat → Prop} {w w' : World} {s e : Nat} {z1 z2 z3 : Int}
@[reducible] def CoreAt.here (_h : CoreAt c a D w) (W : World) : Prop := CoreAt c a D W
theorem CoreAt.keepM {M : Nat → Prop} (h : CoreAt c a D w) (k : Kp M w w') (hn : ∀ b, D b → ¬ M b) : CoreAt c a D w' := c.keep h k hn
theorem CoreAt.keep0 (h : CoreAt c a D w) (k : Kp0 w w') : CoreAt c a D w' := c.keep h k fun _ _ h => h
theorem CoreAt.keepb {b : Nat} (h : CoreAt c a D w) (k : Kp (· = b) w w') (hn : ¬ D b) : CoreAt c a D w' := c.keep h k fun b' hb e => hn (e ▸ hb)
/-- Behind the telling of the piece at a: the piece, or that there is none. -/
def MidAt (c c' : Core) (s e a : Nat) (D : Nat → Prop) (z1 z2 z3 : Int) (w : World) : Prop :=
  (a < e → z1 = ((a / s : Nat) : Int) ∧ z2 = ((a % s : Nat) : Int) ∧ z3 = ((pEnd s a e : Nat) : Int) ∧ CoreAt c' a D w) ∧ (¬ a < e → CoreAt c a D w)
@[reducible] def MidAt.here (_h : MidAt c c' s e a D z1 z2 z3 w) (W : World) : Prop := MidAt c c' s e a D z1 z2 z3 W
theorem MidAt.keepM {M : Nat → Prop} (h : MidAt c c' s e a D z1 z2 z3 w) (k : Kp M w w') (hn : ∀ b, D b → ¬ M b) : MidAt c c' s e a D z1 z2 z3 w' :=
  ⟨fun hl => ⟨(h.1 hl).1, (h.1 hl).2.1, (h.1 hl).2.2.1, (h.1 hl).2.2.2.keepM k hn⟩, fun hl => (h.2 hl).keepM k hn⟩
theorem MidAt.keep0 (h : MidAt c c' s e a D z1 z2 z3 w) (k : Kp0 w w') : MidAt c c' s e a D z1 z2 z3 w' := h.keepM k fun _ _ h => h
theorem MidAt.keepb {b : Nat} (h : MidAt c c' s e a D z1 z2 z3 w) (k : Kp (· = b) w w') (hn : ¬ D b) : MidAt c c' s e a D z1 z2 z3 w' := h.keepM k fun b' hb e => hn (e ▸ hb)
end
def NextR (c c' : Core) (s e a : Nat) (D : Nat → Prop) (w : World) (v : Value) (w' : World) : Prop :=
  Kp D w w' ∧ ∃ z1 z2 z3, v = .tuple #[.agg #[.int .i64 z1, .int .i64 z2, .int .i64 z3], .bool (decide (a < e))] ∧ MidAt c c' s e a D z1 z2 z3 w'
def DoR (c : Core) (X : Nat → Int → (Nat → Prop) → World → Prop) (s e a : Nat) (D : Nat → Prop) (w : World) (v : Value) (w' : World) : Prop :=
  Kp D w w' ∧ ∃ D' : Nat → Prop, (∀ b, D' b → (D b ∨ w.heap.size ≤ b) ∧ b < w'.heap.size) ∧ ∃ er, v = .int .i64 er ∧ (er = 0 → CoreAt c (nxt s e a) D' w') ∧ (er ≠ 0 → X a er D' w')

set_option maxRecDepth 10000 in
set_option maxHeartbeats 2000000 in
theorem through_c {w : World} {D0 : Nat → Prop} {bs e s fD a0 : Nat} {cap : List Value} {c c' : Core} {X : Nat → Int → (Nat → Prop) → World → Prop}
    (hent : ∀ args w, (callFunc fD args).run Try.prog w = .ok (.enter fD args) w) (hs : 0 < s) (hN : ∀ a D w, a ≤ e → CoreAt c a D w → Calls Try.prog 28 #[.pointer (some ⟨bs, 0, none⟩)] w (Ret (NextR c c' s e a D w)))
    (hD : ∀ a D w, a < e → (∀ b, D b → b < w.heap.size) → CoreAt c' a D w → Calls Try.prog fD ([Value.agg #[.int .i64 ((a / s : Nat) : Int), .int .i64 ((a % s : Nat) : Int), .int .i64 ((pEnd s a e : Nat) : Int)]] ++ cap).toArray w (Ret (DoR c X s e a D w)))
    (hC : CoreAt c a0 D0 w) (hb0 : ∀ b, D0 b → b < w.heap.size) (ha0 : a0 ≤ e) : Calls Try.prog 27 #[.func (.func 28) #[.pointer (some ⟨bs, 0, none⟩)] #[], .func (.func fD) #[] cap.toArray] w (Ret fun v w' => Kp D0 w w' ∧ ∃ D' : Nat → Prop, (∀ b, D' b → (D0 b ∨ w.heap.size ≤ b) ∧ b < w'.heap.size) ∧ ∃ er, v = .int .i64 er ∧ (er = 0 → CoreAt c e D' w') ∧ (er ≠ 0 → ∃ a, a0 ≤ a ∧ a < e ∧ X a er D' w')) := by
  have T : Kp D0 w w := Kp.refl _ _
  refine calls_start Try.func27 rfl (n := 26) rfl rfl rfl ?_
  refine CW_seq ?_
  refine CW_reg rfl ?_
  refine OW_ev (Ev_c (.inr rfl)) rfl ?_
  refine OW_nil ?_
  refine CW_seq ?_
  refine CW_seq ?_
  refine CW_reg rfl ?_
  refine OW_ev (Ev_mvf (.inl rfl) rfl) rfl ?_
  refine OW_st rfl (Stp_callM (first := [.pointer (some ⟨bs, 0, none⟩)]) (cap := []) ent_28 rfl rfl rfl (hN a0 D0 _ ha0 hC) ?_)
  rintro _ w1 ⟨E1, z1, z2, z3, rfl, hM⟩
  have Z1 := E1.size
  have T := T.trans' E1 (fun i _ h => h)
  obtain ⟨SQ, hSQ⟩ : ∃ x, x = w1.heap.size := ⟨_, rfl⟩
  refine OW_ev (Ev_mvt (.inl rfl) rfl) rfl ?_
  refine OW_ev (Ev_extract (vs := _) rfl rfl rfl) rfl ?_
  refine OW_ev (Ev_extract (vs := _) rfl rfl rfl) rfl ?_
  refine OW_st rfl (Stp_alloc zero_71 rfl ?_)
  intro b2 w2 hb2 hz2 E2 B2
  have L2 : _ ≤ b2 := Nat.le_trans T.size (Nat.le_of_eq hb2.symm)
  have T := T.keep0 E2
  have hM := hM.keep0 E2
  obtain ⟨bq, rfl⟩ : ∃ b, b = b2 := ⟨_, rfl⟩
  have BQ := B2
  have hqD : ¬ D0 bq := fun h => by have := hb0 _ h; omega
  have hqb : w.heap.size ≤ bq ∧ bq < w2.heap.size := ⟨by omega, by omega⟩
  refine OW_st rfl (Stp_store (q := 0) (vs := [.int _ _, .int _ _, .int _ _]) BQ siz_71 rfl rfl rfl rfl (Nat.le_of_ble_eq_true rfl) rfl ?_)
  intro w3 hz3 E3 B3
  have Z3 := E3.size
  have T := T.transb E3 (by omega)
  have hM := hM.keepb E3 (fun h => by first | exact hqD h | exact hqD2 h)
  clear BQ
  have BQ := B3
  clear B3
  have BQ : Blk w3 bq 71 [.int .i64 z1, .int .i64 z2, .int .i64 z3] := BQ
  refine OW_ev (Ev_mvb (.inr rfl) rfl) rfl ?_
  refine OW_nil ?_
  refine CW_block ?_
  refine CW_loop (α := Nat) (fun (a : Nat) f wr => ∃ (D : Nat → Prop) (bq : Nat) (z1 : Int) (z2 : Int) (z3 : Int), AllEq f [(0, .func (.func 28) #[.pointer (some ⟨bs, 0, none⟩)] #[]), (1, .func (.func fD) #[] cap.toArray), (5, .pointer (some ⟨bq, 0, none⟩)), (6, .bool (decide (a < e)))] ∧ (a0 ≤ a ∧ a ≤ e) ∧ (∀ b, D b → (D0 b ∨ w.heap.size ≤ b) ∧ b < wr.heap.size) ∧ (¬ D bq) ∧ (w.heap.size ≤ bq ∧ bq < wr.heap.size) ∧ (Blk wr bq 71 [.int .i64 z1, .int .i64 z2, .int .i64 z3]) ∧ (MidAt c c' s e a D z1 z2 z3 wr) ∧ (Kp D0 w wr)) (fun a => e - a) a0 ?_ ?_
  ·
    exact ⟨D0, bq, z1, z2, z3, ⟨rfl, rfl, rfl, rfl, trivial⟩, ⟨Nat.le_refl _, ha0⟩, fun b hb => ⟨.inl hb, by have := hb0 b hb; omega⟩, hqD, by omega, BQ, hM, T⟩
  ·
    rintro a f wr ⟨D, bq, z1, z2, z3, hf, hae, hDb, hqD, hqb, BQ, hM, T⟩
    obtain ⟨g, rfl⟩ : ∃ g, f = upl g [(0, .func (.func 28) #[.pointer (some ⟨bs, 0, none⟩)] #[]), (1, .func (.func fD) #[] cap.toArray), (5, .pointer (some ⟨bq, 0, none⟩)), (6, .bool (decide (a < e)))] := ⟨f, upl_self hf⟩
    clear hf
    refine CW_seq ?_
    refine CW_seq ?_
    refine CW_reg rfl ?_
    refine OW_ev (Ev_mvb (.inl rfl) rfl) rfl ?_
    refine OW_nil ?_
    refine CW_cond rfl (fun c4 => ?_) (fun c4 => ?_)
    · have d4 := c4
      first | (with_reducible replace d4 := of_decide_eq_true d4) | (with_reducible replace d4 := bnt d4; try (with_reducible replace d4 := of_decide_eq_false d4)) | skip
      have hlt : a < e := by omega
      obtain ⟨rfl, rfl, rfl, hC⟩ := hM.1 hlt
      have hnx := nxt_bd (e := e) hs hlt
      refine CW_skip ?_
      refine CW_seq ?_
      refine CW_block ?_
      refine CW_seq ?_
      refine CW_reg rfl ?_
      refine OW_ev (Ev_mvf (.inl rfl) rfl) rfl ?_
      refine OW_ev (Ev_loadAgg (l := [.int _ _, .int _ _, .int _ _]) agg_71 rfl rfl (BQ.sub 0 3 (Nat.le_of_ble_eq_true rfl)) rfl) rfl ?_
      refine OW_st rfl (Stp_call (cap := cap) hent rfl rfl rfl (hD a D _ hlt (fun b hb => (hDb b hb).2) hC) ?_)
      rintro _ w5 ⟨E5, D2, hD2, er, rfl, hc0, hx⟩
      have Z5 := E5.size
      have T := T.trans' E5 (fun i hi h => ((hDb i h).1).resolve_right (by omega))
      have BQ := BQ.keep E5 hqD
      have hqD2 : ¬ D2 bq := fun h => by
        rcases (hD2 bq h).1 with h | h
        · exact hqD h
        · omega
      have hD3 : ∀ b, D2 b → (D0 b ∨ w.heap.size ≤ b) ∧ b < w5.heap.size := fun b hb => ⟨by
        rcases (hD2 b hb).1 with h | h
        · exact (hDb b h).1
        · right; omega, (hD2 b hb).2⟩
      obtain ⟨SD, hSD⟩ : ∃ x, x = w5.heap.size := ⟨_, rfl⟩
      refine OW_ev (Ev_mvi (.inr rfl) rfl) rfl ?_
      refine OW_nil ?_
      refine CW_seq ?_
      refine CW_reg rfl ?_
      refine OW_ev (Ev_mvi (.inl rfl) rfl) rfl ?_
      refine OW_ev (Ev_neq rfl rfl rfl) rfl ?_
      refine OW_nil ?_
      refine CW_cond rfl (fun c6 => ?_) (fun c6 => ?_)
      · have d6 := c6
        first | (with_reducible replace d6 := of_decide_eq_true d6) | (with_reducible replace d6 := bnt d6; try (with_reducible replace d6 := of_decide_eq_false d6)) | skip
        have hne : er ≠ 0 := d6
        refine CW_seq ?_
        refine CW_reg rfl ?_
        refine OW_ev (Ev_mvi (.inl rfl) rfl) rfl ?_
        refine OW_ev (Ev_mvi (.inr rfl) rfl) rfl ?_
        refine OW_nil ?_
        refine CW_ret ?_
        refine blk_ret ?_
        refine blk_ret ?_
        refine ⟨rfl, _, (.tmp rfl .nil), ?_⟩
        exact ⟨T, D2, hD3, er, rfl, fun h => absurd h hne, fun _ => ⟨a, hae.1, hlt, hx hne⟩⟩
      · have d6 := c6
        first | (with_reducible replace d6 := of_decide_eq_false d6) | (with_reducible replace d6 := bnf d6; try (with_reducible replace d6 := of_decide_eq_true d6)) | skip
        have hez : er = 0 := by omega
        have hC := hc0 hez
        refine CW_skip ?_
        refine CW_seq ?_
        refine CW_seq ?_
        refine CW_reg rfl ?_
        refine OW_ev (Ev_loadAgg (l := [.int _ _, .int _ _, .int _ _]) agg_71 rfl rfl (BQ.sub 0 3 (Nat.le_of_ble_eq_true rfl)) rfl) rfl ?_
        refine OW_nil ?_
        refine CW_reg rfl ?_
        refine OW_st rfl (Stp_alloc zero_71 rfl ?_)
        intro b7 w7 hb7 hz7 E7 B7
        have L7 : _ ≤ b7 := Nat.le_trans T.size (Nat.le_of_eq hb7.symm)
        have T := T.keep0 E7
        have BQ := BQ.keep0 E7
        have hC := hC.keep0 E7
        obtain ⟨bp, rfl⟩ : ∃ b, b = b7 := ⟨_, rfl⟩
        have BP_ := B7
        have hqD2 : ¬ D2 bp := fun h => by have := (hD2 _ h).2; omega
        have hqb : w.heap.size ≤ bp ∧ bp < w7.heap.size := ⟨by omega, by omega⟩
        refine OW_st rfl (Stp_store (q := 0) (vs := [.int _ _, .int _ _, .int _ _]) BP_ siz_71 rfl rfl rfl rfl (Nat.le_of_ble_eq_true rfl) rfl ?_)
        intro w8 hz8 E8 B8
        have Z8 := E8.size
        have T := T.transb E8 (by omega)
        have BQ := BQ.keepb E8 (by intro h; first | omega | (change _ < _ at h; omega) | (change _ ≤ _ at h; omega) | (have h1 := h.1; have h2 := h.2; first | omega | (change _ ≤ _ at h1; omega) | (change _ < _ at h1; omega)))
        have hC := hC.keepb E8 (fun h => by have := (hD2 _ h).2; omega)
        clear BP_
        have BP_ := B8
        clear B8
        refine OW_nil ?_
        refine CW_reg rfl ?_
        refine OW_ev (Ev_mvf (.inl rfl) rfl) rfl ?_
        refine OW_st rfl (Stp_callM (first := [.pointer (some ⟨bs, 0, none⟩)]) (cap := []) ent_28 rfl rfl rfl (hN (nxt s e a) D2 _ hnx.2 hC) ?_)
        rintro _ w9 ⟨E9, y1, y2, y3, rfl, hM⟩
        have Z9 := E9.size
        have T := T.trans' E9 (fun i hi h => ((hD3 i h).1).resolve_right (by omega))
        have BP_ := BP_.keep E9 hqD2
        refine OW_ev (Ev_mvt (.inl rfl) rfl) rfl ?_
        refine OW_ev (Ev_extract (vs := _) rfl rfl rfl) rfl ?_
        refine OW_ev (Ev_extract (vs := _) rfl rfl rfl) rfl ?_
        refine OW_st rfl (Stp_store (q := 0) (vs := [.int _ _, .int _ _, .int _ _]) BP_ siz_71 rfl rfl rfl rfl (Nat.le_of_ble_eq_true rfl) rfl ?_)
        intro w10 hz10 E10 B10
        have Z10 := E10.size
        have T := T.transb E10 (by omega)
        have hM := hM.keepb E10 (fun h => by first | exact hqD h | exact hqD2 h)
        clear BP_
        have BP_ := B10
        clear B10
        have BP_ : Blk w10 bp 71 [.int .i64 y1, .int .i64 y2, .int .i64 y3] := BP_
        refine OW_ev (Ev_mvb (.inr rfl) rfl) rfl ?_
        refine OW_nil ?_
        exact ⟨nxt s e a, by omega, D2, bp, y1, y2, y3, ⟨rfl, rfl, rfl, rfl, trivial⟩, ⟨by omega, hnx.2⟩, fun b hb => ⟨(hD3 b hb).1, by have := (hD3 b hb).2; omega⟩, hqD2, by omega, BP_, hM, T⟩
    · have d4 := c4
      first | (with_reducible replace d4 := of_decide_eq_false d4) | (with_reducible replace d4 := bnf d4; try (with_reducible replace d4 := of_decide_eq_true d4)) | skip
      have hge : ¬ a < e := by omega
      have hea : a = e := by omega
      have hC := hM.2 hge
      rw [hea] at hC
      refine CW_exit ?_
      refine blk_same ?_
      refine CW_seq ?_
      refine CW_reg rfl ?_
      refine OW_ev (Ev_c (.inr rfl)) rfl ?_
      refine OW_nil ?_
      refine CW_ret ?_
      refine ⟨rfl, _, (.tmp rfl .nil), ?_⟩
      exact ⟨T, D, hDb, 0, rfl, fun _ => hC, fun h => absurd rfl h⟩

end Go.Proofs.Ythfelkjklnhdiaa