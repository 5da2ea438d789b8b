/- The contract of slots.Clear; the example of chapter 11. -/
import Derived.Test.YthfelkjklnhdiaaSlot4
namespace Go.Proofs.Ythfelkjklnhdiaa
open Go Go.RowKit Bx Go.Proofs

/-- The first i of two slots, cleared. -/
structure CL (d e : DkM) (i : Nat) : Prop where
  many : e.many = d.many
  size : e.size = d.size
  g : e.g = d.g
  ps : e.ps.length ≤ i
  sec : ∀ j, j < i → secL d.size e.V j = pad d.size []
theorem CL.wrE {d e : DkM} {i : Nat} (h : CL d e i) (hi : i < d.many) (hg : calm d.g) : e.wrE (i : Int) (pad e.size []) = 0 := by
  unfold DkM.wrE
  rw [if_neg (by rw [h.g]; simp [hg.1]), if_neg (by rw [h.many]; omega), if_neg (by rw [pad_len (Nat.zero_le _)]; simp)]
theorem CL.step {d e e2 : DkM} {i : Nat} (h : CL d e i) (hok : e.Ok) (hi : i < d.many) (hg : calm d.g) (W : e.Wrote e2 (i : Int) (pad e.size [])) : CL d e2 (i + 1) := by
  obtain ⟨⟨box, hps⟩, hgg⟩ := W.yes (h.wrE hi hg)
  have hv := hok.vlen
  have hr := mul_room (size := e.size) (show i < e.many by rw [h.many]; exact hi)
  have hpl : (pad e.size []).length = e.size := pad_len (Nat.zero_le _)
  have hV : e2.V = putL e.V (i * e.size) (pad e.size []) := by
    unfold DkM.V
    rw [hps, W.size, W.last, allP_push]
    show putL _ (((i : Int)).toNat * e.size) _ = _
    rw [Int.toNat_natCast]
  refine ⟨W.many.trans h.many, W.size.trans h.size, ?_, ?_, fun j hj => ?_⟩
  · rw [hgg, h.g]; exact calm_cnt hg
  · rw [hps, List.length_append]; have := h.ps; show e.ps.length + 1 ≤ i + 1; omega
  · rw [hV, ← h.size]
    by_cases hji : j = i
    · subst hji; exact secL_same hpl (by omega)
    · rw [secL_other hpl (by omega) hji, h.size]; exact h.sec j (by omega)

set_option maxRecDepth 10000 in
set_option maxHeartbeats 2000000 in
theorem cl2_c {D : Nat → Prop} {w : World} {bd : Nat} {d : DkM} {A B : List UInt8} (hS : DkS D w bd d) (h2 : TwoS d A B) : Calls Try.prog 37 #[.pointer (some ⟨bd, 0, none⟩)] w (Ret fun v w' => ∃ d', v = .int .i64 0 ∧ Kp D w w' ∧ DkS (fun b => D b ∨ w.heap.size ≤ b) w' bd d' ∧ d'.many = d.many ∧ d'.size = d.size ∧ TwoS d' (pad d.size []) (pad d.size [])) := by
  obtain ⟨NW, hNW⟩ : ∃ x, x = w.heap.size := ⟨_, rfl⟩
  obtain ⟨hmny, hszz⟩ := fitE_zero h2.fit
  have T : Kp D w w := Kp.refl _ _
  refine calls_start Try.func37 rfl (n := 25) rfl rfl rfl ?_
  refine CW_seq ?_
  refine CW_reg rfl ?_
  refine OW_ev (Ev_c (.inr rfl)) rfl ?_
  refine OW_nil ?_
  refine CW_seq ?_
  refine CW_seq ?_
  refine CW_reg rfl ?_
  refine OW_ev (Ev_mvp (.inl rfl) rfl) rfl ?_
  refine OW_st rfl (Stp_call ent_19 rfl rfl rfl (fit_c hS) ?_)
  rintro _ w1 ⟨E1, rfl⟩
  have Z1 := E1.size
  have hS := hS.keep0 E1
  have T := T.keep0 E1
  refine OW_ev (Ev_mvi (.inr rfl) rfl) rfl ?_
  refine OW_nil ?_
  refine CW_seq ?_
  refine CW_reg rfl ?_
  refine OW_ev (Ev_mvi (.inl rfl) rfl) rfl ?_
  refine OW_ev (Ev_neq rfl rfl rfl) rfl ?_
  refine OW_nil ?_
  refine CW_cond rfl (fun c2 => ?_) (fun c2 => ?_)
  · have d2 := c2
    first | (with_reducible replace d2 := of_decide_eq_true d2) | (with_reducible replace d2 := bnt d2; try (with_reducible replace d2 := of_decide_eq_false d2)) | skip
    exact absurd h2.fit d2
  · have d2 := c2
    first | (with_reducible replace d2 := of_decide_eq_false d2) | (with_reducible replace d2 := bnf d2; try (with_reducible replace d2 := of_decide_eq_true d2)) | skip
    have hc0 : CL d d 0 := ⟨rfl, rfl, rfl, by rw [h2.ps]; exact Nat.zero_le _, fun j hj => absurd hj (Nat.not_lt_zero _)⟩
    have hS : DkS (fun b => D b ∨ NW ≤ b) w1 bd d := hS.mono (fun b h => .inl h)
    refine CW_skip ?_
    refine CW_seq ?_
    refine CW_seq ?_
    refine CW_reg rfl ?_
    refine OW_ev (Ev_buildArr (l := [.int _ _, .int _ _]) arr_96 zero_96 rfl rfl rfl) rfl ?_
    refine OW_ev (Ev_c (.inl rfl)) rfl ?_
    refine OW_nil ?_
    refine CW_block ?_
    refine CW_loop (α := Nat) (fun (i : Nat) f wr => ∃ (e : DkM), AllEq f [(0, .pointer (some ⟨bd, 0, none⟩)), (12, .agg #[.int .i64 0, .int .i64 1]), (13, .int .i64 (i : Int))] ∧ (i ≤ 2) ∧ (DkS (fun b => D b ∨ NW ≤ b) wr bd e) ∧ (Kp D w wr) ∧ (CL d e i)) (fun i => 2 - i) 0 ?_ ?_
    ·
      exact ⟨d, ⟨rfl, rfl, rfl, trivial⟩, Nat.zero_le _, hS, T, hc0⟩
    ·
      rintro i f wr ⟨e, hf, hi, hS, T, hc⟩
      obtain ⟨g, rfl⟩ : ∃ g, f = upl g [(0, .pointer (some ⟨bd, 0, none⟩)), (12, .agg #[.int .i64 0, .int .i64 1]), (13, .int .i64 (i : Int))] := ⟨f, upl_self hf⟩
      clear hf
      refine CW_seq ?_
      refine CW_reg rfl ?_
      refine OW_ev (Ev_lss rfl rfl rfl) rfl ?_
      refine OW_nil ?_
      refine CW_seq ?_
      refine CW_cond rfl (fun c3 => ?_) (fun c3 => ?_)
      · have d3 := c3
        first | (with_reducible replace d3 := of_decide_eq_true d3) | (with_reducible replace d3 := bnt d3; try (with_reducible replace d3 := of_decide_eq_false d3)) | skip
        have hi2 : i < 2 := by omega
        have hw := hc.wrE (by omega) h2.g
        have hcp := hc.ps
        have hl2 : [Value.int .i64 0, Value.int .i64 1][i]? = some (.int .i64 (i : Int)) := by
          rcases (show i = 0 ∨ i = 1 by omega) with h | h
          · subst h; rfl
          · subst h; rfl
        have hok := hS.ok
        have T_ := T.size
        refine CW_skip ?_
        refine CW_seq ?_
        refine CW_block ?_
        refine CW_seq ?_
        refine CW_reg rfl ?_
        refine OW_ev (Ev_idxAgg i arr_96 one_3 rfl rfl rfl rfl hi2 hl2) rfl ?_
        refine OW_ev (Ev_mvi (.inr rfl) rfl) rfl ?_
        refine OW_nil ?_
        refine CW_seq ?_
        refine CW_reg rfl ?_
        refine OW_ev (Ev_mvp (.inl rfl) rfl) rfl ?_
        refine OW_ev (Ev_mvi (.inl rfl) rfl) rfl ?_
        refine OW_st rfl (Stp_call ent_38 rfl rfl rfl (fill_c hS (i : Int) [] (Nat.zero_le _) (by omega)) ?_)
        rintro _ w4 ⟨e2, E4, HS2, rfl, W2⟩
        have Z4 := E4.size
        have T := T.trans' E4 (fun j hj h => h.elim id (fun h => by omega))
        have hS : DkS (fun b => D b ∨ NW ≤ b) w4 bd e2 := HS2.mono (fun b h => h.elim id (fun h => .inr (by have := T_; omega)))
        refine OW_ev (Ev_mvi (.inr rfl) rfl) rfl ?_
        refine OW_nil ?_
        refine CW_seq ?_
        refine CW_reg rfl ?_
        refine OW_ev (Ev_mvi (.inl rfl) rfl) rfl ?_
        refine OW_ev (Ev_neq rfl rfl rfl) rfl ?_
        refine OW_nil ?_
        refine CW_cond rfl (fun c5 => ?_) (fun c5 => ?_)
        · have d5 := c5
          first | (with_reducible replace d5 := of_decide_eq_true d5) | (with_reducible replace d5 := bnt d5; try (with_reducible replace d5 := of_decide_eq_false d5)) | skip
          exact absurd hw d5
        · have d5 := c5
          first | (with_reducible replace d5 := of_decide_eq_false d5) | (with_reducible replace d5 := bnf d5; try (with_reducible replace d5 := of_decide_eq_true d5)) | skip
          have hc2 := hc.step hok (by omega) h2.g W2
          refine CW_skip ?_
          refine CW_reg rfl ?_
          refine OW_ev (Ev_add rfl rfl rfl (by first | (apply IntWalk.i64_in; omega) | (apply IntWalk.u64_in; omega) | (apply IntWalk.u32_in; omega) | (apply IntWalk.u8_in; omega) | (apply IntWalk.i32_in; omega) | rfl)) rfl ?_
          refine OW_ev (Ev_mvi (.inl rfl) rfl) rfl ?_
          refine OW_nil ?_
          exact ⟨i + 1, by omega, e2, ⟨rfl, rfl, congrArg (Value.int .i64) (by omega), trivial⟩, by omega, hS, T, hc2⟩
      · have d3 := c3
        first | (with_reducible replace d3 := of_decide_eq_false d3) | (with_reducible replace d3 := bnf d3; try (with_reducible replace d3 := of_decide_eq_true d3)) | skip
        have hi2 : i = 2 := by omega
        subst hi2
        have hcp := hc.ps
        refine CW_exit ?_
        refine blk_same ?_
        refine CW_seq ?_
        refine CW_reg rfl ?_
        refine OW_ev (Ev_mvp (.inl rfl) rfl) rfl ?_
        refine OW_st rfl (Stp_call ent_17 rfl rfl rfl (flush_c hS (by omega)) ?_)
        rintro _ w6 ⟨rfl, E6, HS3⟩
        have Z6 := E6.size
        have T := T.trans' E6 (fun j hj h => h.elim id (fun h => by omega))
        refine OW_ev (Ev_mvi (.inr rfl) rfl) rfl ?_
        refine OW_nil ?_
        refine CW_ret ?_
        refine ⟨rfl, _, (.tmp rfl .nil), ?_⟩
        have hdn : ¬ e.g.down = true := by rw [hc.g, h2.g.1]; simp
        rw [if_neg hdn] at HS3 ⊢
        have hce : calm e.g := by rw [hc.g]; exact h2.g
        have hse := hc.size
        have hme := hc.many
        refine ⟨e.flushed, rfl, T, by rw [← hNW]; exact HS3, hc.many, hc.size, ⟨by rw [flushed_g hce]; exact hce, ?_, rfl, ?_, ?_⟩⟩
        · have h3 := h2.fit; unfold fitE at h3 ⊢; show (if e.many < 2 ∨ e.size < 256 then (1 : Int) else 0) = 0; rw [hme, hse]; exact h3
        · show secL e.size e.V 0 = _; rw [hse]; exact hc.sec 0 (by decide)
        · show secL e.size e.V 1 = _; rw [hse]; exact hc.sec 1 (by decide)

end Go.Proofs.Ythfelkjklnhdiaa