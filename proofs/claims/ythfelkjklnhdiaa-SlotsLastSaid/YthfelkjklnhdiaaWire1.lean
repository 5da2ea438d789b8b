/- Contracts of package wire: fits, Fixed. -/
import Derived.Test.YthfelkjklnhdiaaBld
import Derived.Test.YthfelkjklnhdiaaDisk2
import Derived.Test.YthfelkjklnhdiaaOps5
namespace Go.Proofs.Ythfelkjklnhdiaa
open Go Go.RowKit Bx Go.Proofs

set_option maxRecDepth 10000 in
set_option maxHeartbeats 2000000 in
theorem fits_c (w : World) (k : Nat) (hk : 1 ≤ k ∧ k ≤ 8) : Calls Try.prog 62 #[.int .i64 (k : Int)] w (Ret fun v w' => Kp0 w w' ∧ v = .bool (true)) := by
  have T : Kp0 w w := Kp.refl _ _
  refine calls_start Try.func62 rfl (n := 9) rfl rfl rfl ?_
  refine CW_seq ?_
  refine CW_reg rfl ?_
  refine OW_ev (Ev_c (.inr rfl)) rfl ?_
  refine OW_nil ?_
  refine CW_seq ?_
  refine CW_reg rfl ?_
  refine OW_ev (Ev_mvi (.inl rfl) rfl) rfl ?_
  refine OW_ev (Ev_geq rfl rfl rfl) rfl ?_
  refine OW_ev (Ev_mvb (.inl rfl) rfl) rfl ?_
  refine OW_split (d := .tmp 5) rfl (fun c1 => ?_) (fun c1 => ?_)
  · have d1 := c1
    first | (with_reducible replace d1 := of_decide_eq_true d1) | (with_reducible replace d1 := bnt d1; try (with_reducible replace d1 := of_decide_eq_false d1)) | skip
    refine OW_yes rfl rfl rfl rfl c1 (Ev.stp (Ev_mvi (.inl rfl) rfl) ?_)
    refine OW_yes rfl rfl rfl rfl c1 (Ev.stp (Ev_leq rfl rfl rfl) ?_)
    refine OW_ev (Ev_pickb_t rfl rfl c1 rfl) rfl ?_
    refine OW_ev (Ev_mvb (.inr rfl) rfl) rfl ?_
    refine OW_nil ?_
    refine CW_ret ?_
    refine ⟨rfl, _, (.tmp rfl .nil), ?_⟩
    exact ⟨T, vb rfl (decide_eq_true (show (k : Int) ≤ 8 by omega))⟩
  · have d1 := c1
    first | (with_reducible replace d1 := of_decide_eq_false d1) | (with_reducible replace d1 := bnf d1; try (with_reducible replace d1 := of_decide_eq_true d1)) | skip
    exact absurd (show (1 : Int) ≤ (k : Int) by omega) d1

set_option maxRecDepth 10000 in
set_option maxHeartbeats 2000000 in
theorem fixed_c (w : World) (n k : Nat) (hk : 1 ≤ k ∧ k ≤ 8) : Calls Try.prog 56 #[.int .u64 (n : Int), .int .i64 (k : Int)] w (Ret fun v w' => Kp0 w w' ∧ v = St (fixL n k)) := by
  have T : Kp0 w w := Kp.refl _ _
  refine calls_start Try.func56 rfl (n := 31) rfl rfl rfl ?_
  refine CW_seq ?_
  refine CW_reg rfl ?_
  refine OW_ev (Ev_c (.inr rfl)) rfl ?_
  refine OW_nil ?_
  refine CW_seq ?_
  refine CW_seq ?_
  refine CW_reg rfl ?_
  refine OW_ev (Ev_mvi (.inl rfl) rfl) rfl ?_
  refine OW_st rfl (Stp_call ent_62 rfl rfl rfl (fits_c _ k hk) ?_)
  rintro _ w1 ⟨E1, rfl⟩
  have Z1 := E1.size
  have T := T.keep0 E1
  refine OW_ev (Ev_not rfl rfl) rfl ?_
  refine OW_nil ?_
  refine CW_cond_f rfl rfl ?_
  refine CW_skip ?_
  refine CW_seq ?_
  refine CW_reg rfl ?_
  refine OW_ev (Ev_mvi (.inl rfl) rfl) rfl ?_
  refine OW_st rfl (Stp_makeSlice el_38 rfl rfl rfl rfl rfl (Nat.le_refl _) (by omega) (by simp only [maxLen]; omega) zero_5 ?_)
  intro b2 w2 hb2 hz2 E2 B2
  have L2 : _ ≤ b2 := Nat.le_trans T.size (Nat.le_of_eq hb2.symm)
  have T := T.keep0 E2
  rw [zerosBy, ← fixA_zero n] at B2
  obtain ⟨bb, rfl⟩ : ∃ b, b = b2 := ⟨_, rfl⟩
  have hB := B2
  have hbn : w.heap.size ≤ bb := by have := T.size; omega
  refine OW_ev (Ev_mvs (.inr rfl) rfl) rfl ?_
  refine OW_nil ?_
  refine CW_seq ?_
  refine CW_seq ?_
  refine CW_reg rfl ?_
  refine OW_ev (Ev_mvs (.inl rfl) rfl) rfl ?_
  refine OW_ev (Ev_len und_38 rfl rfl) rfl ?_
  refine OW_ev (Ev_c (.inl rfl)) rfl ?_
  refine OW_nil ?_
  refine CW_block ?_
  refine CW_loop (α := Nat) (fun (i : Nat) f wr => AllEq f [(0, .int .u64 (n : Int)), (1, .int .i64 (k : Int)), (5, .slice (some ⟨bb, 0, none⟩) k k), (13, .int .i64 (k : Int)), (14, .int .i64 (i : Int))] ∧ (i ≤ k) ∧ (Blk wr bb 5 ((fixA n k i).map By).flatten) ∧ (Kp0 w wr)) (fun i => k - i) 0 ?_ ?_
  ·
    exact ⟨⟨rfl, rfl, rfl, rfl, rfl, trivial⟩, Nat.zero_le _, hB, T⟩
  ·
    rintro i f wr ⟨hf, hi, hB, T⟩
    obtain ⟨g, rfl⟩ : ∃ g, f = upl g [(0, .int .u64 (n : Int)), (1, .int .i64 (k : Int)), (5, .slice (some ⟨bb, 0, none⟩) k k), (13, .int .i64 (k : Int)), (14, .int .i64 (i : Int))] := ⟨f, upl_self hf⟩
    clear hf
    refine CW_seq ?_
    refine CW_reg rfl ?_
    refine OW_ev (Ev_lss rfl rfl rfl) rfl ?_
    refine OW_nil ?_
    refine CW_seq ?_
    refine CW_cond rfl (fun c3 => ?_) (fun c3 => ?_)
    · have d3 := c3
      first | (with_reducible replace d3 := of_decide_eq_true d3) | (with_reducible replace d3 := bnt d3; try (with_reducible replace d3 := of_decide_eq_false d3)) | skip
      have hik : i < k := by omega
      have hval : IntKind.u8.wrap ((n : Int) / 2 ^ (8 * ((k : Int) - 1 - (i : Int))).toNat) = ((fixB n k i).toNat : Int) := by
        rw [show (8 * ((k : Int) - 1 - (i : Int))).toNat = 8 * (k - 1 - i) by omega]
        have e : (n : Int) / 2 ^ (8 * (k - 1 - i)) = ((n / 2 ^ (8 * (k - 1 - i)) : Nat) : Int) := by push_cast; rfl
        rw [e, wrap_u8]; rfl
      refine CW_skip ?_
      refine CW_seq ?_
      refine CW_block ?_
      refine CW_seq ?_
      refine CW_reg rfl ?_
      refine OW_ev (Ev_mvi (.inl rfl) rfl) rfl ?_
      refine OW_ev (Ev_mvi (.inr rfl) rfl) rfl ?_
      refine OW_nil ?_
      refine CW_reg rfl ?_
      refine OW_ev (Ev_mvs (.inl rfl) rfl) rfl ?_
      refine OW_ev (Ev_mvi (.inl rfl) rfl) rfl ?_
      refine OW_ev (Ev_mvi (.inl rfl) rfl) rfl ?_
      refine OW_ev (Ev_mvi (.inl rfl) rfl) rfl ?_
      refine OW_ev (Ev_sub rfl rfl rfl (by first | (apply IntWalk.i64_in; omega) | (apply IntWalk.u64_in; omega) | (apply IntWalk.u32_in; omega) | (apply IntWalk.u8_in; omega) | (apply IntWalk.i32_in; omega) | rfl)) rfl ?_
      refine OW_ev (Ev_mvi (.inl rfl) rfl) rfl ?_
      refine OW_ev (Ev_sub rfl rfl rfl (by first | (apply IntWalk.i64_in; omega) | (apply IntWalk.u64_in; omega) | (apply IntWalk.u32_in; omega) | (apply IntWalk.u8_in; omega) | (apply IntWalk.i32_in; omega) | rfl)) rfl ?_
      refine OW_ev (Ev_mul rfl rfl rfl (by first | (apply IntWalk.i64_in; omega) | (apply IntWalk.u64_in; omega) | (apply IntWalk.u32_in; omega) | (apply IntWalk.u8_in; omega) | (apply IntWalk.i32_in; omega) | rfl)) rfl ?_
      refine OW_ev (Ev_shr rfl rfl rfl (by omega) (by change _ ≤ ((64 : Nat) : Int); omega)) rfl ?_
      refine OW_ev (Ev_convw (kd := .u8) (by kernel_rfl) rfl rfl) rfl ?_
      refine OW_ev (Ev_idx i (show Ad (some ⟨bb, 0, none⟩) from rfl) sl_38 rfl rfl rfl rfl hik) rfl ?_
      refine OW_st rfl (Stp_store (q := (0 + i * 1)) (vs := [.int _ _]) hB siz_5 rfl rfl rfl rfl (by rw [By_flat_len, fixA_length]; simp; omega) rfl ?_)
      intro w4 hz4 E4 B4
      have Z4 := E4.size
      have T := T.transb E4 (by omega)
      clear hB
      have hB := B4
      clear B4
      rw [hval, Nat.mul_one, Nat.zero_add] at hB
      have hB : Blk w4 bb 5 ((fixA n k (i + 1)).map By).flatten := by
        rw [← fixA_put hik, ← putAt_By (by rw [fixA_length]; exact hik)]; exact hB
      refine OW_nil ?_
      refine CW_re [(0, .int _ _), (1, .int _ _), (5, .slice _ _ _), (13, .int _ _), (14, .int _ _)] ⟨rfl, rfl, rfl, rfl, rfl, trivial⟩ (fun g => ?_)
      refine CW_reg rfl ?_
      refine OW_ev (Ev_add rfl rfl rfl (by first | (apply IntWalk.i64_in; omega) | (apply IntWalk.u64_in; omega) | (apply IntWalk.u32_in; omega) | (apply IntWalk.u8_in; omega) | (apply IntWalk.i32_in; omega) | rfl)) rfl ?_
      refine OW_ev (Ev_mvi (.inl rfl) rfl) rfl ?_
      refine OW_nil ?_
      exact ⟨i + 1, by omega, ⟨rfl, rfl, rfl, rfl, congrArg (Value.int .i64) (by omega), trivial⟩, by omega, hB, T⟩
    · have d3 := c3
      first | (with_reducible replace d3 := of_decide_eq_false d3) | (with_reducible replace d3 := bnf d3; try (with_reducible replace d3 := of_decide_eq_true d3)) | skip
      have hik : i = k := by omega
      subst hik
      rw [fixA_all] at hB
      refine CW_exit ?_
      refine blk_same ?_
      refine CW_seq ?_
      refine CW_reg rfl ?_
      refine OW_ev (Ev_mvs (.inl rfl) rfl) rfl ?_
      refine OW_ev (Ev_bytesSt byt_38_9 rfl rfl (bytesAt (l := fixL n i) (rest := []) (by rw [List.append_nil]; exact hB)) (fixL_length _ _).symm) rfl ?_
      refine OW_ev (Ev_mvst (.inr rfl) rfl) rfl ?_
      refine OW_nil ?_
      refine CW_ret ?_
      refine ⟨rfl, _, (.tmp rfl .nil), ?_⟩
      exact ⟨T, rfl⟩

end Go.Proofs.Ythfelkjklnhdiaa