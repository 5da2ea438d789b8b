/- Contracts of package sector: the small functions. -/
import Derived.Test.YthfelkjklnhdiaaDisk0
namespace Go.Proofs.Ythfelkjklnhdiaa
open Go Go.RowKit Bx Go.Proofs

set_option maxRecDepth 10000 in
set_option maxHeartbeats 2000000 in
theorem size_c {D : Nat → Prop} {w : World} {bd : Nat} {d : DkM} (hS : DkS D w bd d) : Calls Try.prog 24 #[.pointer (some ⟨bd, 0, none⟩)] w (Ret fun v w' => Kp0 w w' ∧ v = .tuple #[.int .i64 (d.many : Int), .int .i64 (d.size : Int)]) := by
  have hS := hS.bound
  obtain ⟨NW, hNW⟩ : ∃ x, x = w.heap.size := ⟨_, rfl⟩
  rw [← hNW] at hS
  have hs := hS.sep
  have hok := hS.ok
  obtain ⟨kd, kl, mp, pv, wv, bx, -, -⟩ := hS
  have hm := hok.many
  have hz := hok.size
  have hg := hok.g
  have kd : Blk w bd 59 [.int .i64 (d.many : Int), .int .i64 (d.size : Int), .slice (some ⟨d.bl, 0, none⟩) (d.many * d.size) (d.many * d.size), .slice d.pa d.ps.length d.pc, .slice d.wa d.ps.length d.wc, .map (some d.bm), .bool d.g.down, .bool d.g.breaks, .int .i64 d.g.left] := kd
  have T : Kp0 w w := Kp.refl _ _
  refine calls_start Try.func24 rfl (n := 14) rfl rfl rfl ?_
  refine CW_seq ?_
  refine CW_reg rfl ?_
  refine OW_ev (Ev_c (.inr rfl)) rfl ?_
  refine OW_ev (Ev_c (.inr rfl)) rfl ?_
  refine OW_nil ?_
  refine CW_seq ?_
  refine CW_seq ?_
  refine CW_reg rfl ?_
  refine OW_ev (Ev_mvp (.inl rfl) rfl) rfl ?_
  refine OW_ev (Ev_ptrNil und_22 rfl rfl) rfl ?_
  refine OW_nil ?_
  refine CW_cond_f rfl rfl ?_
  refine CW_skip ?_
  refine CW_seq ?_
  refine CW_draw (fun W => kd.here W ∧ kl.here W ∧ mp.here W ∧ pv.here W ∧ wv.here W ∧ bx.here W) mixed rfl (fun _ _ _ h => nomatch h.1) ?_
  have E1 : Kp0 _ _ := Kp.drew w nob
  have Z1 : (World.drew w).heap.size = w.heap.size := rfl
  generalize World.drew w = w1 at E1 Z1 ⊢
  have kd := kd.keep0 E1
  have kl := kl.keep0 E1
  have mp := mp.keep0 E1
  have pv := pv.keep0 E1
  have wv := wv.keep0 E1
  have bx := bx.keep0 E1
  have T := T.keep0 E1
  refine AW_take 0 rfl rfl (by decide +kernel) (by decide +kernel) (by decide +kernel) (fun w ⟨kd, kl, mp, pv, wv, bx⟩ => Ev_mvp (.inl rfl) rfl) ⟨kd, kl, mp, pv, wv, bx⟩ ?_
  refine AW_take 1 rfl rfl (by decide +kernel) (by decide +kernel) (by decide +kernel) (fun w ⟨kd, kl, mp, pv, wv, bx⟩ => Ev_nilCheck rfl rfl) ⟨kd, kl, mp, pv, wv, bx⟩ ?_
  refine AW_take 2 rfl rfl (by decide +kernel) (by decide +kernel) (by decide +kernel) (fun w ⟨kd, kl, mp, pv, wv, bx⟩ => Ev_fieldAddr fld_59_0 rfl rfl) ⟨kd, kl, mp, pv, wv, bx⟩ ?_
  refine AW_take 3 rfl rfl (by decide +kernel) (by decide +kernel) (by decide +kernel) (fun w ⟨kd, kl, mp, pv, wv, bx⟩ => Ev_load one_3 rfl rfl (kd.ld (q := 0) rfl)) ⟨kd, kl, mp, pv, wv, bx⟩ ?_
  refine AW_take 4 rfl rfl (by decide +kernel) (by decide +kernel) (by decide +kernel) (fun w ⟨kd, kl, mp, pv, wv, bx⟩ => Ev_mvp (.inl rfl) rfl) ⟨kd, kl, mp, pv, wv, bx⟩ ?_
  refine AW_take 5 rfl rfl (by decide +kernel) (by decide +kernel) (by decide +kernel) (fun w ⟨kd, kl, mp, pv, wv, bx⟩ => Ev_nilCheck rfl rfl) ⟨kd, kl, mp, pv, wv, bx⟩ ?_
  refine AW_take 6 rfl rfl (by decide +kernel) (by decide +kernel) (by decide +kernel) (fun w ⟨kd, kl, mp, pv, wv, bx⟩ => Ev_fieldAddr fld_59_1 rfl rfl) ⟨kd, kl, mp, pv, wv, bx⟩ ?_
  refine AW_take 7 rfl rfl (by decide +kernel) (by decide +kernel) (by decide +kernel) (fun w ⟨kd, kl, mp, pv, wv, bx⟩ => Ev_load one_3 rfl rfl (kd.ld (q := 1) rfl)) ⟨kd, kl, mp, pv, wv, bx⟩ ?_
  refine AW_take 8 rfl rfl (by decide +kernel) (by decide +kernel) (by decide +kernel) (fun w ⟨kd, kl, mp, pv, wv, bx⟩ => Ev_mvi (.inr rfl) rfl) ⟨kd, kl, mp, pv, wv, bx⟩ ?_
  refine AW_take 9 rfl rfl (by decide +kernel) (by decide +kernel) (by decide +kernel) (fun w ⟨kd, kl, mp, pv, wv, bx⟩ => Ev_mvi (.inr rfl) rfl) ⟨kd, kl, mp, pv, wv, bx⟩ ?_
  refine AW_done (by decide +kernel) ?_
  refine CW_ret ?_
  refine ⟨rfl, _, (.tmp rfl (.tmp rfl .nil)), ?_⟩
  exact ⟨T, rfl⟩

set_option maxRecDepth 10000 in
set_option maxHeartbeats 2000000 in
theorem refuse_c {D : Nat → Prop} {w : World} {bd : Nat} {d : DkM} (hS : DkS D w bd d) (at_ : Int) : Calls Try.prog 43 #[.pointer (some ⟨bd, 0, none⟩), .int .i64 at_] w (Ret fun v w' => Kp0 w w' ∧ v = .int .i64 (if d.g.down = true then 9 else if at_ < 0 ∨ (d.many : Int) ≤ at_ then 6 else 0)) := by
  have hS := hS.bound
  obtain ⟨NW, hNW⟩ : ∃ x, x = w.heap.size := ⟨_, rfl⟩
  rw [← hNW] at hS
  have hs := hS.sep
  have hok := hS.ok
  obtain ⟨kd, kl, mp, pv, wv, bx, -, -⟩ := hS
  have hm := hok.many
  have hz := hok.size
  have hg := hok.g
  have kd : Blk w bd 59 [.int .i64 (d.many : Int), .int .i64 (d.size : Int), .slice (some ⟨d.bl, 0, none⟩) (d.many * d.size) (d.many * d.size), .slice d.pa d.ps.length d.pc, .slice d.wa d.ps.length d.wc, .map (some d.bm), .bool d.g.down, .bool d.g.breaks, .int .i64 d.g.left] := kd
  have T : Kp0 w w := Kp.refl _ _
  refine calls_start Try.func43 rfl (n := 24) rfl rfl rfl ?_
  refine CW_seq ?_
  refine CW_reg rfl ?_
  refine OW_ev (Ev_c (.inr rfl)) rfl ?_
  refine OW_nil ?_
  refine CW_seq ?_
  refine CW_block ?_
  refine CW_seq ?_
  refine CW_reg rfl ?_
  refine OW_ev (Ev_mvp (.inl rfl) rfl) rfl ?_
  refine OW_ev (Ev_ptrNil und_22 rfl rfl) rfl ?_
  refine OW_ev (Ev_mvb (.inr rfl) rfl) rfl ?_
  refine OW_nil ?_
  refine CW_cond_f rfl rfl ?_
  refine CW_seq ?_
  refine CW_reg rfl ?_
  refine OW_ev (Ev_mvp (.inl rfl) rfl) rfl ?_
  refine OW_ev (Ev_nilCheck rfl rfl) rfl ?_
  refine OW_ev (Ev_fieldAddr fld_59_6 rfl rfl) rfl ?_
  refine OW_ev (Ev_load one_4 rfl rfl (kd.ld (q := 6) rfl)) rfl ?_
  refine OW_ev (Ev_mvb (.inr rfl) rfl) rfl ?_
  refine OW_nil ?_
  refine CW_cond rfl (fun c1 => ?_) (fun c1 => ?_)
  · have d1 := c1
    first | (with_reducible replace d1 := of_decide_eq_true d1) | (with_reducible replace d1 := bnt d1; try (with_reducible replace d1 := of_decide_eq_false d1)) | skip
    have hd : d.g.down = true := c1
    refine CW_seq ?_
    refine CW_reg rfl ?_
    refine OW_ev (Ev_c (.inr rfl)) rfl ?_
    refine OW_nil ?_
    refine CW_ret ?_
    refine blk_ret ?_
    refine ⟨rfl, _, (.tmp rfl .nil), ?_⟩
    first | exact ⟨T, vi rfl (by rw [if_pos hd])⟩ | exact ⟨T, vi rfl (by rw [if_neg (by simp [hd]), if_pos hr])⟩ | exact ⟨T, vi rfl (by rw [if_neg (by simp [hd]), if_neg hr])⟩
  · have d1 := c1
    first | (with_reducible replace d1 := of_decide_eq_false d1) | (with_reducible replace d1 := bnf d1; try (with_reducible replace d1 := of_decide_eq_true d1)) | skip
    have hd : d.g.down = false := c1
    refine CW_seq ?_
    refine CW_reg rfl ?_
    refine OW_ev (Ev_mvi (.inl rfl) rfl) rfl ?_
    refine OW_ev (Ev_lss rfl rfl rfl) rfl ?_
    refine OW_ev (Ev_mvb (.inl rfl) rfl) rfl ?_
    refine OW_split (d := .tmp 16) rfl (fun c2 => ?_) (fun c2 => ?_)
    · have d2 := c2
      first | (with_reducible replace d2 := of_decide_eq_true d2) | (with_reducible replace d2 := bnt d2; try (with_reducible replace d2 := of_decide_eq_false d2)) | skip
      have hr : at_ < 0 ∨ (d.many : Int) ≤ at_ := by omega
      refine OW_no rfl rfl rfl rfl c2 ?_
      refine OW_no rfl rfl rfl rfl c2 ?_
      refine OW_no rfl rfl rfl rfl c2 ?_
      refine OW_no rfl rfl rfl rfl c2 ?_
      refine OW_no rfl rfl rfl rfl c2 ?_
      refine OW_no rfl rfl rfl rfl c2 ?_
      refine OW_ev (Ev_pickb_t rfl rfl c2 rfl) rfl ?_
      refine OW_ev (Ev_mvb (.inr rfl) rfl) rfl ?_
      refine OW_nil ?_
      refine CW_cond_t rfl rfl ?_
      refine CW_seq ?_
      refine CW_re [(4, .int _ _)] ⟨rfl, trivial⟩ (fun g => ?_)
      refine CW_reg rfl ?_
      refine OW_ev (Ev_c (.inr rfl)) rfl ?_
      refine OW_nil ?_
      refine CW_ret ?_
      refine blk_ret ?_
      refine ⟨rfl, _, (.tmp rfl .nil), ?_⟩
      first | exact ⟨T, vi rfl (by rw [if_pos hd])⟩ | exact ⟨T, vi rfl (by rw [if_neg (by simp [hd]), if_pos hr])⟩ | exact ⟨T, vi rfl (by rw [if_neg (by simp [hd]), if_neg hr])⟩
    · have d2 := c2
      first | (with_reducible replace d2 := of_decide_eq_false d2) | (with_reducible replace d2 := bnf d2; try (with_reducible replace d2 := of_decide_eq_true d2)) | skip
      refine OW_yes rfl rfl rfl rfl c2 (Ev.stp (Ev_mvi (.inl rfl) rfl) ?_)
      refine OW_yes rfl rfl rfl rfl c2 (Ev.stp (Ev_mvp (.inl rfl) rfl) ?_)
      refine OW_yes rfl rfl rfl rfl c2 (Ev.stp (Ev_nilCheck rfl rfl) ?_)
      refine OW_yes rfl rfl rfl rfl c2 (Ev.stp (Ev_fieldAddr fld_59_0 rfl rfl) ?_)
      refine OW_yes rfl rfl rfl rfl c2 (Ev.stp (Ev_load one_3 rfl rfl (kd.ld (q := 0) rfl)) ?_)
      refine OW_yes rfl rfl rfl rfl c2 (Ev.stp (Ev_geq rfl rfl rfl) ?_)
      refine OW_ev (Ev_pickb_f rfl rfl c2 rfl) rfl ?_
      refine OW_ev (Ev_mvb (.inr rfl) rfl) rfl ?_
      refine OW_nil ?_
      refine CW_cond rfl (fun c3 => ?_) (fun c3 => ?_)
      · have d3 := c3
        first | (with_reducible replace d3 := of_decide_eq_true d3) | (with_reducible replace d3 := bnt d3; try (with_reducible replace d3 := of_decide_eq_false d3)) | skip
        have hr : at_ < 0 ∨ (d.many : Int) ≤ at_ := by omega
        refine CW_seq ?_
        refine CW_re [(4, .int _ _)] ⟨rfl, trivial⟩ (fun g => ?_)
        refine CW_reg rfl ?_
        refine OW_ev (Ev_c (.inr rfl)) rfl ?_
        refine OW_nil ?_
        refine CW_ret ?_
        refine blk_ret ?_
        refine ⟨rfl, _, (.tmp rfl .nil), ?_⟩
        first | exact ⟨T, vi rfl (by rw [if_pos hd])⟩ | exact ⟨T, vi rfl (by rw [if_neg (by simp [hd]), if_pos hr])⟩ | exact ⟨T, vi rfl (by rw [if_neg (by simp [hd]), if_neg hr])⟩
      · have d3 := c3
        first | (with_reducible replace d3 := of_decide_eq_false d3) | (with_reducible replace d3 := bnf d3; try (with_reducible replace d3 := of_decide_eq_true d3)) | skip
        have hr : ¬ (at_ < 0 ∨ (d.many : Int) ≤ at_) := by omega
        refine CW_skip ?_
        refine CW_seq ?_
        refine CW_re [(4, .int _ _)] ⟨rfl, trivial⟩ (fun g => ?_)
        refine CW_reg rfl ?_
        refine OW_ev (Ev_c (.inr rfl)) rfl ?_
        refine OW_nil ?_
        refine CW_ret ?_
        refine ⟨rfl, _, (.tmp rfl .nil), ?_⟩
        first | exact ⟨T, vi rfl (by rw [if_pos hd])⟩ | exact ⟨T, vi rfl (by rw [if_neg (by simp [hd]), if_pos hr])⟩ | exact ⟨T, vi rfl (by rw [if_neg (by simp [hd]), if_neg hr])⟩

set_option maxRecDepth 10000 in
set_option maxHeartbeats 2000000 in
theorem sector_c {D : Nat → Prop} {w : World} {bd : Nat} {d : DkM} (hS : DkS D w bd d) {a : Nat} (ha : a < d.many) : Calls Try.prog 34 #[.pointer (some ⟨bd, 0, none⟩), .int .i64 (a : Int)] w (Ret fun v w' => Kp0 w w' ∧ v = .slice (some ⟨d.bl, a * d.size, none⟩) d.size (d.many * d.size - a * d.size)) := by
  have hS := hS.bound
  obtain ⟨NW, hNW⟩ : ∃ x, x = w.heap.size := ⟨_, rfl⟩
  rw [← hNW] at hS
  have hs := hS.sep
  have hok := hS.ok
  obtain ⟨kd, kl, mp, pv, wv, bx, -, -⟩ := hS
  have hm := hok.many
  have hz := hok.size
  have hg := hok.g
  have kd : Blk w bd 59 [.int .i64 (d.many : Int), .int .i64 (d.size : Int), .slice (some ⟨d.bl, 0, none⟩) (d.many * d.size) (d.many * d.size), .slice d.pa d.ps.length d.pc, .slice d.wa d.ps.length d.wc, .map (some d.bm), .bool d.g.down, .bool d.g.breaks, .int .i64 d.g.left] := kd
  have hroom := mul_room (size := d.size) ha
  have hbig : d.many * d.size ≤ 4096 * 1024 := Nat.mul_le_mul hm.2 hz.2
  have hai : 0 ≤ (a : Int) * (d.size : Int) ∧ (a : Int) * (d.size : Int) + (d.size : Int) ≤ 4194304 := by
    have h1 : ((a * d.size : Nat) : Int) + (d.size : Int) ≤ 4194304 := by omega
    push_cast at h1
    exact ⟨Int.mul_nonneg (by omega) (by omega), h1⟩
  have hai2 : ((a : Int) + 1) * (d.size : Int) = (a : Int) * (d.size : Int) + (d.size : Int) := by rw [Int.add_mul]; omega
  have T : Kp0 w w := Kp.refl _ _
  refine calls_start Try.func34 rfl (n := 23) rfl rfl rfl ?_
  refine CW_seq ?_
  refine CW_reg rfl ?_
  refine OW_ev (Ev_c (.inr rfl)) rfl ?_
  refine OW_nil ?_
  refine CW_seq ?_
  refine CW_draw (fun W => kd.here W ∧ kl.here W ∧ mp.here W ∧ pv.here W ∧ wv.here W ∧ bx.here W) mixed rfl (fun _ _ _ h => nomatch h.1) ?_
  have E1 : Kp0 _ _ := Kp.drew w nob
  have Z1 : (World.drew w).heap.size = w.heap.size := rfl
  generalize World.drew w = w1 at E1 Z1 ⊢
  have kd := kd.keep0 E1
  have kl := kl.keep0 E1
  have mp := mp.keep0 E1
  have pv := pv.keep0 E1
  have wv := wv.keep0 E1
  have bx := bx.keep0 E1
  have T := T.keep0 E1
  refine AW_take 0 rfl rfl (by decide +kernel) (by decide +kernel) (by decide +kernel) (fun w ⟨kd, kl, mp, pv, wv, bx⟩ => Ev_mvp (.inl rfl) rfl) ⟨kd, kl, mp, pv, wv, bx⟩ ?_
  refine AW_take 1 rfl rfl (by decide +kernel) (by decide +kernel) (by decide +kernel) (fun w ⟨kd, kl, mp, pv, wv, bx⟩ => Ev_nilCheck rfl rfl) ⟨kd, kl, mp, pv, wv, bx⟩ ?_
  refine AW_take 2 rfl rfl (by decide +kernel) (by decide +kernel) (by decide +kernel) (fun w ⟨kd, kl, mp, pv, wv, bx⟩ => Ev_fieldAddr fld_59_2 rfl rfl) ⟨kd, kl, mp, pv, wv, bx⟩ ?_
  refine AW_take 3 rfl rfl (by decide +kernel) (by decide +kernel) (by decide +kernel) (fun w ⟨kd, kl, mp, pv, wv, bx⟩ => Ev_load one_38 rfl rfl (kd.ld (q := 2) rfl)) ⟨kd, kl, mp, pv, wv, bx⟩ ?_
  refine AW_take 4 rfl rfl (by decide +kernel) (by decide +kernel) (by decide +kernel) (fun w ⟨kd, kl, mp, pv, wv, bx⟩ => Ev_mvi (.inl rfl) rfl) ⟨kd, kl, mp, pv, wv, bx⟩ ?_
  refine AW_take 5 rfl rfl (by decide +kernel) (by decide +kernel) (by decide +kernel) (fun w ⟨kd, kl, mp, pv, wv, bx⟩ => Ev_mvp (.inl rfl) rfl) ⟨kd, kl, mp, pv, wv, bx⟩ ?_
  refine AW_take 6 rfl rfl (by decide +kernel) (by decide +kernel) (by decide +kernel) (fun w ⟨kd, kl, mp, pv, wv, bx⟩ => Ev_nilCheck rfl rfl) ⟨kd, kl, mp, pv, wv, bx⟩ ?_
  refine AW_take 7 rfl rfl (by decide +kernel) (by decide +kernel) (by decide +kernel) (fun w ⟨kd, kl, mp, pv, wv, bx⟩ => Ev_fieldAddr fld_59_1 rfl rfl) ⟨kd, kl, mp, pv, wv, bx⟩ ?_
  refine AW_take 8 rfl rfl (by decide +kernel) (by decide +kernel) (by decide +kernel) (fun w ⟨kd, kl, mp, pv, wv, bx⟩ => Ev_load one_3 rfl rfl (kd.ld (q := 1) rfl)) ⟨kd, kl, mp, pv, wv, bx⟩ ?_
  refine AW_take 9 rfl rfl (by decide +kernel) (by decide +kernel) (by decide +kernel) (fun w ⟨kd, kl, mp, pv, wv, bx⟩ => Ev_mul rfl rfl rfl (by apply IntWalk.i64_in; omega)) ⟨kd, kl, mp, pv, wv, bx⟩ ?_
  refine AW_take 10 rfl rfl (by decide +kernel) (by decide +kernel) (by decide +kernel) (fun w ⟨kd, kl, mp, pv, wv, bx⟩ => Ev_mvi (.inl rfl) rfl) ⟨kd, kl, mp, pv, wv, bx⟩ ?_
  refine AW_take 11 rfl rfl (by decide +kernel) (by decide +kernel) (by decide +kernel) (fun w ⟨kd, kl, mp, pv, wv, bx⟩ => Ev_add rfl rfl rfl (by apply IntWalk.i64_in; omega)) ⟨kd, kl, mp, pv, wv, bx⟩ ?_
  refine AW_take 12 rfl rfl (by decide +kernel) (by decide +kernel) (by decide +kernel) (fun w ⟨kd, kl, mp, pv, wv, bx⟩ => Ev_mvp (.inl rfl) rfl) ⟨kd, kl, mp, pv, wv, bx⟩ ?_
  refine AW_take 13 rfl rfl (by decide +kernel) (by decide +kernel) (by decide +kernel) (fun w ⟨kd, kl, mp, pv, wv, bx⟩ => Ev_nilCheck rfl rfl) ⟨kd, kl, mp, pv, wv, bx⟩ ?_
  refine AW_take 14 rfl rfl (by decide +kernel) (by decide +kernel) (by decide +kernel) (fun w ⟨kd, kl, mp, pv, wv, bx⟩ => Ev_fieldAddr fld_59_1 rfl rfl) ⟨kd, kl, mp, pv, wv, bx⟩ ?_
  refine AW_take 15 rfl rfl (by decide +kernel) (by decide +kernel) (by decide +kernel) (fun w ⟨kd, kl, mp, pv, wv, bx⟩ => Ev_load one_3 rfl rfl (kd.ld (q := 1) rfl)) ⟨kd, kl, mp, pv, wv, bx⟩ ?_
  refine AW_take 16 rfl rfl (by decide +kernel) (by decide +kernel) (by decide +kernel) (fun w ⟨kd, kl, mp, pv, wv, bx⟩ => Ev_mul rfl rfl rfl (by apply IntWalk.i64_in; omega)) ⟨kd, kl, mp, pv, wv, bx⟩ ?_
  refine AW_take 17 rfl rfl (by decide +kernel) (by decide +kernel) (by decide +kernel) (fun w ⟨kd, kl, mp, pv, wv, bx⟩ => Ev_slice_lh (a * d.size) ((a + 1) * d.size) sl_38 rfl rfl rfl rfl (by push_cast; rfl) (by push_cast; rfl) (by rw [Nat.add_mul]; omega) (by rw [Nat.add_mul]; omega)) ⟨kd, kl, mp, pv, wv, bx⟩ ?_
  refine AW_take 18 rfl rfl (by decide +kernel) (by decide +kernel) (by decide +kernel) (fun w ⟨kd, kl, mp, pv, wv, bx⟩ => Ev_mvs (.inr rfl) rfl) ⟨kd, kl, mp, pv, wv, bx⟩ ?_
  refine AW_done (by decide +kernel) ?_
  refine CW_ret ?_
  refine ⟨rfl, _, (.tmp rfl .nil), ?_⟩
  refine ⟨T, ?_⟩
  show Value.slice (cutAt _ _ _ _) _ _ = _
  rw [show (a + 1) * d.size - a * d.size = d.size by rw [Nat.add_mul]; omega]
  unfold cutAt
  rw [if_neg (by omega)]
  simp [Addr.add_lit]

set_option maxRecDepth 10000 in
set_option maxHeartbeats 2000000 in
theorem count_c {D : Nat → Prop} {w : World} {bd : Nat} {d : DkM} (hS : DkS D w bd d) : Calls Try.prog 36 #[.pointer (some ⟨bd, 0, none⟩)] w (Ret fun v w' => v = .tuple #[] ∧ Kp (fun b => b = bd) w w' ∧ DkS D w' bd { d with g := d.g.cnt }) := by
  have hS := hS.bound
  obtain ⟨NW, hNW⟩ : ∃ x, x = w.heap.size := ⟨_, rfl⟩
  rw [← hNW] at hS
  have hs := hS.sep
  have hok := hS.ok
  obtain ⟨kd, kl, mp, pv, wv, bx, -, -⟩ := hS
  have hm := hok.many
  have hz := hok.size
  have hg := hok.g
  have kd : Blk w bd 59 [.int .i64 (d.many : Int), .int .i64 (d.size : Int), .slice (some ⟨d.bl, 0, none⟩) (d.many * d.size) (d.many * d.size), .slice d.pa d.ps.length d.pc, .slice d.wa d.ps.length d.wc, .map (some d.bm), .bool d.g.down, .bool d.g.breaks, .int .i64 d.g.left] := kd
  have T : Kp (fun b => b = bd) w w := Kp.refl _ _
  refine calls_start Try.func36 rfl (n := 25) rfl rfl rfl ?_
  refine CW_seq ?_
  refine CW_seq ?_
  refine CW_reg rfl ?_
  refine OW_ev (Ev_mvp (.inl rfl) rfl) rfl ?_
  refine OW_ev (Ev_nilCheck rfl rfl) rfl ?_
  refine OW_ev (Ev_fieldAddr fld_59_7 rfl rfl) rfl ?_
  refine OW_ev (Ev_load one_4 rfl rfl (kd.ld (q := 7) rfl)) rfl ?_
  refine OW_ev (Ev_not rfl rfl) rfl ?_
  refine OW_nil ?_
  refine CW_cond rfl (fun c1 => ?_) (fun c1 => ?_)
  · have d1 := c1
    first | (with_reducible replace d1 := of_decide_eq_true d1) | (with_reducible replace d1 := bnt d1; try (with_reducible replace d1 := of_decide_eq_false d1)) | skip
    have hb : d.g.breaks = false := d1
    have hc : d.g.cnt = d.g := if_pos hb
    refine CW_ret ?_
    refine ⟨rfl, _, .nil, ?_⟩
    have hco := Flg.cnt_ok hg
    rw [hc] at hco ⊢
    refine ⟨rfl, T, ?_⟩
    refine DkS.mono (D := fun b => D b ∧ b < NW) ⟨?_, kl, mp, pv, wv, bx, ⟨hs.d1, hs.d2, hs.d3, hs.n1, hs.n2, hs.n3, hs.pv, hs.wv, hs.bx, hs.e0⟩, ⟨hok.many, hok.size, hok.last, hok.ps, hco⟩⟩ (fun b h => h.1)
    first | exact kd | (rw [hb] at kd; exact kd)
  · have d1 := c1
    first | (with_reducible replace d1 := of_decide_eq_false d1) | (with_reducible replace d1 := bnf d1; try (with_reducible replace d1 := of_decide_eq_true d1)) | skip
    have hb : d.g.breaks = true := d1
    have hg1 := hg.2.2 hb
    have hgl := hg.2.1
    refine CW_skip ?_
    refine CW_seq ?_
    refine CW_reg rfl ?_
    refine OW_ev (Ev_mvp (.inl rfl) rfl) rfl ?_
    refine OW_ev (Ev_nilCheck rfl rfl) rfl ?_
    refine OW_ev (Ev_fieldAddr fld_59_8 rfl rfl) rfl ?_
    refine OW_ev (Ev_load one_3 rfl rfl (kd.ld (q := 8) rfl)) rfl ?_
    refine OW_ev (Ev_sub rfl rfl rfl (by apply IntWalk.i64_in; have := hg.2.2 hb; have := hg.1; have := hg.2.1; omega)) rfl ?_
    refine OW_ev (Ev_nilCheck rfl rfl) rfl ?_
    refine OW_ev (Ev_fieldAddr fld_59_8 rfl rfl) rfl ?_
    refine OW_st rfl (Stp_store (q := 8) kd siz_3 rfl rfl rfl rfl (Nat.le_of_ble_eq_true rfl) rfl ?_)
    intro w2 hz2 E2 B2
    have Z2 := E2.size
    have kl := kl.keepb E2 hs.n1
    have mp := mp.keepb E2 hs.n2
    have pv := pv.keepb E2 (fun b _ hb => (hs.pv b _ _ hb).2.1)
    have wv := wv.keepb E2 (fun b _ hb => (hs.wv b _ _ hb).2.1)
    have bx := bx.keepb E2 (fun p hp => (hs.bx p hp).2.1)
    have T := T.trans' E2 (fun i _ h => h)
    clear kd
    have kd := B2
    clear B2
    have kd : Blk w2 bd 59 [.int .i64 (d.many : Int), .int .i64 (d.size : Int), .slice (some ⟨d.bl, 0, none⟩) (d.many * d.size) (d.many * d.size), .slice d.pa d.ps.length d.pc, .slice d.wa d.ps.length d.wc, .map (some d.bm), .bool d.g.down, .bool d.g.breaks, .int .i64 (d.g.left - 1)] := kd
    refine OW_nil ?_
    refine CW_seq ?_
    refine CW_reg rfl ?_
    refine OW_ev (Ev_mvp (.inl rfl) rfl) rfl ?_
    refine OW_ev (Ev_nilCheck rfl rfl) rfl ?_
    refine OW_ev (Ev_fieldAddr fld_59_8 rfl rfl) rfl ?_
    refine OW_ev (Ev_load one_3 rfl rfl (kd.ld (q := 8) rfl)) rfl ?_
    refine OW_ev (Ev_eql rfl rfl rfl) rfl ?_
    refine OW_nil ?_
    refine CW_cond rfl (fun c3 => ?_) (fun c3 => ?_)
    · have d3 := c3
      first | (with_reducible replace d3 := of_decide_eq_true d3) | (with_reducible replace d3 := bnt d3; try (with_reducible replace d3 := of_decide_eq_false d3)) | skip
      have hl : d.g.left - 1 = 0 := d3
      have hc : d.g.cnt = ⟨true, false, d.g.left - 1⟩ := by unfold Flg.cnt; rw [if_neg (by simp [hb]), if_pos hl]
      refine CW_re [(0, .pointer _)] ⟨rfl, trivial⟩ (fun g => ?_)
      refine CW_reg rfl ?_
      refine OW_ev (Ev_mvp (.inl rfl) rfl) rfl ?_
      refine OW_ev (Ev_mvp (.inl rfl) rfl) rfl ?_
      refine OW_ev (Ev_nilCheck rfl rfl) rfl ?_
      refine OW_ev (Ev_fieldAddr fld_59_7 rfl rfl) rfl ?_
      refine OW_st rfl (Stp_store (q := 7) kd siz_4 rfl rfl rfl rfl (Nat.le_of_ble_eq_true rfl) rfl ?_)
      intro w4 hz4 E4 B4
      have Z4 := E4.size
      have kl := kl.keepb E4 hs.n1
      have mp := mp.keepb E4 hs.n2
      have pv := pv.keepb E4 (fun b _ hb => (hs.pv b _ _ hb).2.1)
      have wv := wv.keepb E4 (fun b _ hb => (hs.wv b _ _ hb).2.1)
      have bx := bx.keepb E4 (fun p hp => (hs.bx p hp).2.1)
      have T := T.trans' E4 (fun i _ h => h)
      clear kd
      have kd := B4
      clear B4
      have kd : Blk w4 bd 59 [.int .i64 (d.many : Int), .int .i64 (d.size : Int), .slice (some ⟨d.bl, 0, none⟩) (d.many * d.size) (d.many * d.size), .slice d.pa d.ps.length d.pc, .slice d.wa d.ps.length d.wc, .map (some d.bm), .bool d.g.down, .bool false, .int .i64 (d.g.left - 1)] := kd
      refine OW_ev (Ev_nilCheck rfl rfl) rfl ?_
      refine OW_ev (Ev_fieldAddr fld_59_6 rfl rfl) rfl ?_
      refine OW_st rfl (Stp_store (q := 6) kd siz_4 rfl rfl rfl rfl (Nat.le_of_ble_eq_true rfl) rfl ?_)
      intro w5 hz5 E5 B5
      have Z5 := E5.size
      have kl := kl.keepb E5 hs.n1
      have mp := mp.keepb E5 hs.n2
      have pv := pv.keepb E5 (fun b _ hb => (hs.pv b _ _ hb).2.1)
      have wv := wv.keepb E5 (fun b _ hb => (hs.wv b _ _ hb).2.1)
      have bx := bx.keepb E5 (fun p hp => (hs.bx p hp).2.1)
      have T := T.trans' E5 (fun i _ h => h)
      clear kd
      have kd := B5
      clear B5
      have kd : Blk w5 bd 59 [.int .i64 (d.many : Int), .int .i64 (d.size : Int), .slice (some ⟨d.bl, 0, none⟩) (d.many * d.size) (d.many * d.size), .slice d.pa d.ps.length d.pc, .slice d.wa d.ps.length d.wc, .map (some d.bm), .bool true, .bool false, .int .i64 (d.g.left - 1)] := kd
      refine OW_nil ?_
      refine ⟨_, .nil, ?_⟩
      have hco := Flg.cnt_ok hg
      rw [hc] at hco ⊢
      refine ⟨rfl, T, ?_⟩
      refine DkS.mono (D := fun b => D b ∧ b < NW) ⟨?_, kl, mp, pv, wv, bx, ⟨hs.d1, hs.d2, hs.d3, hs.n1, hs.n2, hs.n3, hs.pv, hs.wv, hs.bx, hs.e0⟩, ⟨hok.many, hok.size, hok.last, hok.ps, hco⟩⟩ (fun b h => h.1)
      first | exact kd | (rw [hb] at kd; exact kd)
    · have d3 := c3
      first | (with_reducible replace d3 := of_decide_eq_false d3) | (with_reducible replace d3 := bnf d3; try (with_reducible replace d3 := of_decide_eq_true d3)) | skip
      have hl : ¬ d.g.left - 1 = 0 := d3
      have hc : d.g.cnt = ⟨d.g.down, true, d.g.left - 1⟩ := by unfold Flg.cnt; rw [if_neg (by simp [hb]), if_neg hl]
      refine CW_skip ?_
      refine ⟨_, .nil, ?_⟩
      have hco := Flg.cnt_ok hg
      rw [hc] at hco ⊢
      refine ⟨rfl, T, ?_⟩
      refine DkS.mono (D := fun b => D b ∧ b < NW) ⟨?_, kl, mp, pv, wv, bx, ⟨hs.d1, hs.d2, hs.d3, hs.n1, hs.n2, hs.n3, hs.pv, hs.wv, hs.bx, hs.e0⟩, ⟨hok.many, hok.size, hok.last, hok.ps, hco⟩⟩ (fun b h => h.1)
      first | exact kd | (rw [hb] at kd; exact kd)

set_option maxRecDepth 10000 in
set_option maxHeartbeats 2000000 in
theorem wr1_c {w : World} {g e off n c most box : Nat} {L : List Value} {m : List UInt8} (hb : Blk w g e L) (hx : Blk w box 9 [St m]) (hne : box ≠ g) (hc : most ≤ c) (hq : off + min m.length most ≤ L.length) : Calls Try.prog 44 #[.slice (some ⟨g, off, none⟩) n c, .int .i64 (most : Int), .pointer (some ⟨box, 0, none⟩)] w (Ret fun v w' => v = .tuple #[] ∧ Kp (fun b => b = g) w w' ∧ w'.heap.size = w.heap.size ∧ Blk w' g e (putAt L off ((m.take most).map By).flatten)) := by
  have T : Kp (fun b => b = g) w w := Kp.refl _ _
  refine calls_start Try.func44 rfl (n := 10) rfl rfl rfl ?_
  refine CW_draw (fun W => hx.here W) mixed rfl (fun _ _ _ h => nomatch h.1) ?_
  have E1 : Kp0 _ _ := Kp.drew w nob
  have Z1 : (World.drew w).heap.size = w.heap.size := rfl
  generalize World.drew w = w1 at E1 Z1 ⊢
  have hb := hb.keep0 E1
  have hx := hx.keep0 E1
  have T := T.keep0 E1
  refine AW_take 0 rfl rfl (by decide +kernel) (by decide +kernel) (by decide +kernel) (fun w hx => Ev_mvs (.inl rfl) rfl) hx ?_
  refine AW_take 1 rfl rfl (by decide +kernel) (by decide +kernel) (by decide +kernel) (fun w hx => Ev_mvi (.inl rfl) rfl) hx ?_
  refine AW_take 2 rfl rfl (by decide +kernel) (by decide +kernel) (by decide +kernel) (fun w hx => Ev_slice_h most sl_38 rfl rfl rfl rfl hc) hx ?_
  refine AW_take 3 rfl rfl (by decide +kernel) (by decide +kernel) (by decide +kernel) (fun w hx => Ev_load one_9 rfl rfl (hx.ld (q := 0) rfl)) hx ?_
  refine AW_one 4 (by decide +kernel) (Next.mk rfl rfl ?_)
  refine Stp_copySt hb sl_38 rfl rfl rfl hq ?_
  intro w2 hz2 E2 B2
  have Z2 := E2.size
  have hx := hx.keepb E2 hne
  have T := T.trans' E2 (fun i _ h => h)
  clear hb
  have hb := B2
  clear B2
  have hzz := hz2.trans (by assumption)
  refine ⟨hx, ?_⟩
  refine AW_done (by decide +kernel) ?_
  refine ⟨_, .nil, ?_⟩
  exact ⟨rfl, T, by omega, hb⟩

end Go.Proofs.Ythfelkjklnhdiaa