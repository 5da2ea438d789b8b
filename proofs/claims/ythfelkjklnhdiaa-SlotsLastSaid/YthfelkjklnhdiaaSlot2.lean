/- Contracts of package slots: fill, Write. -/
import Derived.Test.YthfelkjklnhdiaaSlot1
import Derived.Test.YthfelkjklnhdiaaRep
import Derived.Test.YthfelkjklnhdiaaArea3
namespace Go.Proofs.Ythfelkjklnhdiaa
open Go Go.RowKit Bx Go.Proofs

/-- m, and zeros up to a sector's size. -/
def pad (n : Nat) (m : List UInt8) : List UInt8 := m ++ List.replicate (n - m.length) 0
theorem pad_len {n : Nat} {m : List UInt8} (h : m.length ≤ n) : (pad n m).length = n := by
  unfold pad; rw [List.length_append, List.length_replicate]; omega

set_option maxRecDepth 10000 in
set_option maxHeartbeats 2000000 in
theorem fill_c {D : Nat → Prop} {w : World} {bd : Nat} {d : DkM} (hS : DkS D w bd d) (n : Int) (m : List UInt8) (hm : m.length ≤ d.size) (hpn : d.ps.length ≤ 100000000) : Calls Try.prog 38 #[.pointer (some ⟨bd, 0, none⟩), .int .i64 n, St m] w (Ret fun v w' => ∃ d' : DkM, Kp D w w' ∧ DkS (fun b => D b ∨ w.heap.size ≤ b) w' bd d' ∧ v = .int .i64 (d.wrE n (pad d.size m)) ∧ d.Wrote d' n (pad d.size m)) := by
  have hsz := hS.ok.size
  have T : Kp D w w := Kp.refl _ _
  refine calls_start Try.func38 rfl (n := 24) rfl rfl rfl ?_
  refine CW_seq ?_
  refine CW_reg rfl ?_
  refine OW_ev (Ev_c (.inr rfl)) rfl ?_
  refine OW_nil ?_
  refine CW_seq ?_
  refine CW_reg rfl ?_
  refine OW_ev (Ev_mvp (.inl rfl) rfl) rfl ?_
  refine OW_st rfl (Stp_call ent_24 rfl rfl rfl (size_c hS) ?_)
  rintro _ w1 ⟨E1, rfl⟩
  have Z1 := E1.size
  have hS := hS.keep0 E1
  have T := T.keep0 E1
  refine OW_ev (Ev_mvt (.inl rfl) rfl) rfl ?_
  refine OW_ev (Ev_extract (vs := _) rfl rfl rfl) rfl ?_
  refine OW_ev (Ev_extract (vs := _) rfl rfl rfl) rfl ?_
  refine OW_ev (Ev_mvi (.inr rfl) rfl) rfl ?_
  refine OW_ev (Ev_mvi (.inr rfl) rfl) rfl ?_
  refine OW_nil ?_
  refine CW_seq ?_
  refine CW_reg rfl ?_
  refine OW_ev (Ev_mvp (.inl rfl) rfl) rfl ?_
  refine OW_ev (Ev_mvi (.inl rfl) rfl) rfl ?_
  refine OW_ev (Ev_mvst (.inl rfl) rfl) rfl ?_
  refine OW_ev (Ev_mvi (.inl rfl) rfl) rfl ?_
  refine OW_ev (Ev_mvst (.inl rfl) rfl) rfl ?_
  refine OW_ev (Ev_lenSt und_9 rfl rfl) rfl ?_
  refine OW_ev (Ev_sub rfl rfl rfl (by first | (apply IntWalk.i64_in; omega) | (apply IntWalk.u64_in; omega) | (apply IntWalk.u32_in; omega) | (apply IntWalk.u8_in; omega) | (apply IntWalk.i32_in; omega) | rfl)) rfl ?_
  have hrc := repeat_c w1 (d.size - m.length) (by omega)
  rw [show ((d.size - m.length : Nat) : Int) = (d.size : Int) - (m.length : Int) by omega] at hrc
  refine OW_st rfl (Stp_call ent_46 rfl rfl rfl (hrc) ?_)
  rintro _ w2 ⟨E2, rfl⟩
  have Z2 := E2.size
  have hS := hS.keep0 E2
  have T := T.keep0 E2
  refine OW_ev (Ev_strAdd rfl rfl rfl (by rw [List.length_replicate]; omega)) rfl ?_
  refine OW_st rfl (Stp_call ent_30 rfl rfl rfl (write_c hS n (pad d.size m) hpn) ?_)
  rintro _ w3 ⟨d', E3, HS2, rfl, W2⟩
  have Z3 := E3.size
  have T := T.trans E3
  refine OW_ev (Ev_mvi (.inr rfl) rfl) rfl ?_
  refine OW_nil ?_
  refine CW_ret ?_
  refine ⟨rfl, _, (.tmp rfl .nil), ?_⟩
  exact ⟨d', T, HS2.mono (fun b h => h.imp id (fun h => by have := Z1; have := Z2; omega)), rfl, W2⟩

/-- What Write yields, and what the disk holds behind it. -/
def SWr (d d' : DkM) (s : SupM) (er : Int) : Prop := ∃ d1, d.Wrote d1 ((s.ep : Int) % 2) (pad d.size s.str) ∧ ((d.wrE ((s.ep : Int) % 2) (pad d.size s.str) ≠ 0 ∧ er = d.wrE ((s.ep : Int) % 2) (pad d.size s.str) ∧ d' = d1) ∨ (d.wrE ((s.ep : Int) % 2) (pad d.size s.str) = 0 ∧ ((d1.g.down = true ∧ er = 9 ∧ d' = d1) ∨ (d1.g.down = false ∧ er = 0 ∧ d' = d1.flushed))))

set_option maxRecDepth 10000 in
set_option maxHeartbeats 2000000 in
theorem swrite_c {D : Nat → Prop} {w : World} {bd : Nat} {d : DkM} (hS : DkS D w bd d) (s : SupM) (hs : s.Ok) (hfit : fitE d = 0) (hpn : d.ps.length ≤ 10000000) : Calls Try.prog 21 #[.pointer (some ⟨bd, 0, none⟩), .agg s.cells.toArray] w (Ret fun v w' => ∃ er d', v = .int .i64 er ∧ Kp D w w' ∧ DkS (fun b => D b ∨ w.heap.size ≤ b) w' bd d' ∧ SWr d d' s er) := by
  have hS := hS.bound
  obtain ⟨NW, hNW⟩ : ∃ x, x = w.heap.size := ⟨_, rfl⟩
  rw [← hNW] at hS
  have hsz : 256 ≤ d.size := by unfold fitE at hfit; split at hfit <;> omega
  have hep := hs.ep
  have T : Kp D w w := Kp.refl _ _
  refine calls_start Try.func21 rfl (n := 25) rfl rfl rfl ?_
  refine CW_seq ?_
  refine CW_reg rfl ?_
  refine OW_st rfl (Stp_box rfl rfl rfl ?_)
  intro b1 w1 hb1 hz1 E1 B1
  have L1 : _ ≤ b1 := Nat.le_trans T.size (Nat.le_of_eq hb1.symm)
  have hS := hS.keep0 E1
  have T := T.keep0 E1
  replace B1 : Blk w1 b1 48 (s.cells) := B1
  have HB := B1
  refine OW_ev (Ev_c (.inr rfl)) rfl ?_
  refine OW_nil ?_
  refine CW_seq ?_
  refine CW_seq ?_
  refine CW_reg rfl ?_
  refine OW_ev (Ev_mvp (.inl rfl) rfl) rfl ?_
  refine OW_st rfl (Stp_call ent_19 rfl rfl rfl (fit_c hS) ?_)
  rintro _ w2 ⟨E2, rfl⟩
  have Z2 := E2.size
  have hS := hS.keep0 E2
  have T := T.keep0 E2
  have HB := HB.keep0 E2
  refine OW_ev (Ev_mvi (.inr rfl) rfl) rfl ?_
  refine OW_nil ?_
  refine CW_seq ?_
  refine CW_reg rfl ?_
  refine OW_ev (Ev_mvi (.inl rfl) rfl) rfl ?_
  refine OW_ev (Ev_neq rfl rfl rfl) rfl ?_
  refine OW_nil ?_
  refine CW_cond rfl (fun c3 => ?_) (fun c3 => ?_)
  · have d3 := c3
    first | (with_reducible replace d3 := of_decide_eq_true d3) | (with_reducible replace d3 := bnt d3; try (with_reducible replace d3 := of_decide_eq_false d3)) | skip
    exact absurd hfit d3
  · have d3 := c3
    first | (with_reducible replace d3 := of_decide_eq_false d3) | (with_reducible replace d3 := bnf d3; try (with_reducible replace d3 := of_decide_eq_true d3)) | skip
    refine CW_skip ?_
    refine CW_seq ?_
    refine CW_seq ?_
    refine CW_draw (fun W => HB.here W) mixed rfl (fun _ _ _ h => nomatch h.1) ?_
    have E4 : Kp0 _ _ := Kp.drew w2 nob
    have Z4 : (World.drew w2).heap.size = w2.heap.size := rfl
    generalize World.drew w2 = w4 at E4 Z4 ⊢
    have hS := hS.keep0 E4
    have T := T.keep0 E4
    have HB := HB.keep0 E4
    refine AW_take 0 rfl rfl (by decide +kernel) (by decide +kernel) (by decide +kernel) (fun w HB => Ev_mvp (.inl rfl) rfl) HB ?_
    refine AW_take 1 rfl rfl (by decide +kernel) (by decide +kernel) (by decide +kernel) (fun w HB => Ev_fieldAddr fld_48_0 rfl rfl) HB ?_
    refine AW_take 2 rfl rfl (by decide +kernel) (by decide +kernel) (by decide +kernel) (fun w HB => Ev_load one_42 rfl rfl (HB.ld (q := 0) rfl)) HB ?_
    refine AW_take 3 rfl rfl (by decide +kernel) (by decide +kernel) (by decide +kernel) (fun w HB => Ev_rem rfl rfl rfl (by omega) (by omega)) HB ?_
    refine AW_take 4 rfl rfl (by decide +kernel) (by decide +kernel) (by decide +kernel) (fun w HB => Ev_conv (kd := .i64) (by kernel_rfl) rfl rfl (by first | (apply IntWalk.i64_in; omega) | (apply IntWalk.u64_in; omega) | (apply IntWalk.u32_in; omega) | (apply IntWalk.u8_in; omega) | (apply IntWalk.i32_in; omega) | rfl)) HB ?_
    refine AW_take 5 rfl rfl (by decide +kernel) (by decide +kernel) (by decide +kernel) (fun w HB => Ev_loadAgg (l := s.cells) agg_48 rfl rfl (HB.cells (by rw [List.drop_zero, List.take_length])) hs.len) HB ?_
    refine AW_one 6 (by decide +kernel) (Next.mk rfl rfl ?_)
    refine Stp_call ent_39 rfl rfl rfl (puts_c _ s hs) ?_
    rintro _ w5 ⟨E5, rfl⟩
    have Z5 := E5.size
    have hS := hS.keep0 E5
    have T := T.keep0 E5
    have HB := HB.keep0 E5
    refine ⟨HB, ?_⟩
    refine AW_one 7 (by decide +kernel) (Next.mk rfl rfl ?_)
    refine Stp_call ent_38 rfl rfl rfl (fill_c hS ((s.ep : Int) % 2) s.str (by rw [hs.str_len]; omega) (by omega)) ?_
    rintro _ w6 ⟨d1, E6, HS2, rfl, W1⟩
    have Z6 := E6.size
    have T := T.trans' E6 (fun i _ h => h.1)
    have HB := HB.keep E6 (fun h => by have := h.2; omega)
    refine ⟨HB, ?_⟩
    refine AW_take 8 rfl rfl (by decide +kernel) (by decide +kernel) (by decide +kernel) (fun w HB => Ev_mvi (.inr rfl) rfl) HB ?_
    refine AW_done (by decide +kernel) ?_
    refine CW_seq ?_
    refine CW_re [(0, .pointer _), (4, .int _ _), (6, .int _ _)] ⟨rfl, rfl, rfl, trivial⟩ (fun g => ?_)
    refine CW_reg rfl ?_
    refine OW_ev (Ev_mvi (.inl rfl) rfl) rfl ?_
    refine OW_ev (Ev_neq rfl rfl rfl) rfl ?_
    refine OW_nil ?_
    refine CW_cond rfl (fun c7 => ?_) (fun c7 => ?_)
    · have d7 := c7
      first | (with_reducible replace d7 := of_decide_eq_true d7) | (with_reducible replace d7 := bnt d7; try (with_reducible replace d7 := of_decide_eq_false d7)) | skip
      have hwe : d.wrE ((s.ep : Int) % 2) (pad d.size s.str) ≠ 0 := d7
      refine CW_seq ?_
      refine CW_reg rfl ?_
      refine OW_ev (Ev_mvi (.inl rfl) rfl) rfl ?_
      refine OW_ev (Ev_mvi (.inr rfl) rfl) rfl ?_
      refine OW_nil ?_
      refine CW_ret ?_
      refine ⟨rfl, _, (.tmp rfl .nil), ?_⟩
      exact ⟨_, d1, rfl, T, HS2.mono (fun b h => h.imp (fun h => h.1) (fun h => by omega)), d1, W1, .inl ⟨hwe, rfl, rfl⟩⟩
    · have d7 := c7
      first | (with_reducible replace d7 := of_decide_eq_false d7) | (with_reducible replace d7 := bnf d7; try (with_reducible replace d7 := of_decide_eq_true d7)) | skip
      have hwe : d.wrE ((s.ep : Int) % 2) (pad d.size s.str) = 0 := by omega
      have hp1 : d1.ps.length ≤ 100000000 := by
        obtain ⟨⟨bx, e⟩, _⟩ := W1.yes hwe
        rw [e, List.length_append]; show d.ps.length + 1 ≤ _; omega
      refine CW_skip ?_
      refine CW_seq ?_
      refine CW_reg rfl ?_
      refine OW_ev (Ev_mvp (.inl rfl) rfl) rfl ?_
      refine OW_st rfl (Stp_call ent_17 rfl rfl rfl (flush_c HS2 hp1) ?_)
      rintro _ w8 ⟨rfl, E8, HS3⟩
      have Z8 := E8.size
      have T := T.trans' E8 (fun i hi h => h.elim (fun h => h.1) (fun h => by have := T.size; omega))
      refine OW_ev (Ev_mvi (.inr rfl) rfl) rfl ?_
      refine OW_nil ?_
      refine CW_ret ?_
      refine ⟨rfl, _, (.tmp rfl .nil), ?_⟩
      by_cases hd : d1.g.down = true
      · rw [if_pos hd] at HS3 ⊢
        exact ⟨9, d1, rfl, T, HS3.mono (fun b h => h.imp (fun h => h.1) (fun h => by omega)), d1, W1, .inr ⟨hwe, .inl ⟨hd, rfl, rfl⟩⟩⟩
      · rw [if_neg hd] at HS3 ⊢
        exact ⟨0, _, rfl, T, HS3.mono (fun b h => h.imp (fun h => h.1) (fun h => by omega)), d1, W1, .inr ⟨hwe, .inr ⟨by simpa using hd, rfl, rfl⟩⟩⟩

end Go.Proofs.Ythfelkjklnhdiaa