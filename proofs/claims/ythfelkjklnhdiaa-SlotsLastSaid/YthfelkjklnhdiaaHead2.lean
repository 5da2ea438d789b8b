/- Contracts of wire.TakeFixed and header.GetSuper. -/
import Derived.Test.YthfelkjklnhdiaaHead1
namespace Go.Proofs.Ythfelkjklnhdiaa
open Go Go.RowKit Bx Go.Proofs

theorem p64 : 18446744073709551616 ≤ (2 : Nat) ^ 64 := by decide
set_option maxRecDepth 10000 in
theorem or_byte {x b : Nat} (hb : b < 256) (hx : x * 256 + b < 18446744073709551616) : bits .or .u64 ((x * 256 : Nat) : Int) (b : Int) = ((x * 256 + b : Nat) : Int) := by
  have q1 : x * 256 < 18446744073709551616 := by omega
  have q2 : b < 18446744073709551616 := by omega
  have q3 : 2 ^ 8 * x + b = x * 256 + b := by omega
  have := Nat.two_pow_add_eq_or_of_lt (i := 8) (b := b) hb x
  rw [q3, show 2 ^ 8 * x = x * 256 by omega] at this
  have e1 : BitVec.ofInt 64 ((x * 256 : Nat) : Int) = BitVec.ofNat 64 (x * 256) := BitVec.ofInt_natCast ..
  have e2 : BitVec.ofInt 64 ((b : Nat) : Int) = BitVec.ofNat 64 b := BitVec.ofInt_natCast ..
  have e3 : (BitVec.ofNat 64 (x * 256) ||| BitVec.ofNat 64 b).toNat = x * 256 + b := by
    rw [BitVec.toNat_or, BitVec.toNat_ofNat, BitVec.toNat_ofNat, Nat.mod_eq_of_lt (Nat.lt_of_lt_of_le q1 p64), Nat.mod_eq_of_lt (Nat.lt_of_lt_of_le q2 p64)]
    exact this.symm
  show IntKind.u64.wrap ((BitVec.ofInt 64 ((x * 256 : Nat) : Int) ||| BitVec.ofInt 64 (b : Int)).toNat : Int) = _
  rw [e1, e2, e3]
  apply IntWalk.u64_in; omega
/-- The number that bytes tell, the greatest first. -/
def numL (l : List UInt8) : Nat := l.foldl (fun n b => n * 256 + b.toNat) 0
theorem numL_push (l : List UInt8) (b : UInt8) : numL (l ++ [b]) = numL l * 256 + b.toNat := by simp [numL, List.foldl_append]
theorem numL_lt (l : List UInt8) : numL l < 256 ^ l.length := by
  suffices h : ∀ r : List UInt8, numL r.reverse < 256 ^ r.length by
    have := h l.reverse
    rwa [List.reverse_reverse, List.length_reverse] at this
  intro r
  induction r with
  | nil => exact Nat.one_pos
  | cons b r ih =>
    rw [List.reverse_cons, numL_push, List.length_cons, Nat.pow_succ]
    have := b.toNat_lt
    omega
theorem numL_lt8 {l : List UInt8} (h : l.length ≤ 8) : numL l < 18446744073709551616 :=
  Nat.lt_of_lt_of_le (numL_lt l) (Nat.le_trans (Nat.pow_le_pow_right (by decide) h) (by decide))
theorem numL_lt7 {l : List UInt8} (h : l.length ≤ 7) : numL l < 72057594037927936 :=
  Nat.lt_of_lt_of_le (numL_lt l) (Nat.le_trans (Nat.pow_le_pow_right (by decide) h) (by decide))

set_option maxRecDepth 10000 in
set_option maxHeartbeats 2000000 in
theorem cut_c (w : World) (l : List UInt8) (k : Nat) (hk : k ≤ l.length) : Calls Try.prog 63 #[St l, .int .i64 (k : Int)] w (Ret fun v w' => Kp0 w w' ∧ v = .tuple #[St (l.take k), St (l.drop k)]) := by
  have T : Kp0 w w := Kp.refl _ _
  refine calls_start Try.func63 rfl (n := 12) rfl rfl rfl ?_
  refine CW_seq ?_
  refine CW_reg rfl ?_
  refine OW_ev (Ev_c (.inr rfl)) rfl ?_
  refine OW_ev (Ev_c (.inr rfl)) rfl ?_
  refine OW_nil ?_
  refine CW_seq ?_
  refine CW_draw (fun W => True) mixed rfl (fun _ _ _ h => nomatch h.1) ?_
  have E1 : Kp0 _ _ := Kp.drew w nob
  have Z1 : (World.drew w).heap.size = w.heap.size := rfl
  generalize World.drew w = w1 at E1 Z1 ⊢
  have T := T.keep0 E1
  refine AW_take 0 rfl rfl (by decide +kernel) (by decide +kernel) (by decide +kernel) (fun w _ => Ev_mvst (.inl rfl) rfl) trivial ?_
  refine AW_take 1 rfl rfl (by decide +kernel) (by decide +kernel) (by decide +kernel) (fun w _ => Ev_mvi (.inl rfl) rfl) trivial ?_
  refine AW_take 2 rfl rfl (by decide +kernel) (by decide +kernel) (by decide +kernel) (fun w _ => Ev_strH k und_9 rfl rfl rfl rfl hk) trivial ?_
  refine AW_take 3 rfl rfl (by decide +kernel) (by decide +kernel) (by decide +kernel) (fun w _ => Ev_mvst (.inl rfl) rfl) trivial ?_
  refine AW_take 4 rfl rfl (by decide +kernel) (by decide +kernel) (by decide +kernel) (fun w _ => Ev_mvi (.inl rfl) rfl) trivial ?_
  refine AW_take 5 rfl rfl (by decide +kernel) (by decide +kernel) (by decide +kernel) (fun w _ => Ev_strL k und_9 rfl rfl rfl rfl hk) trivial ?_
  refine AW_take 6 rfl rfl (by decide +kernel) (by decide +kernel) (by decide +kernel) (fun w _ => Ev_mvst (.inr rfl) rfl) trivial ?_
  refine AW_take 7 rfl rfl (by decide +kernel) (by decide +kernel) (by decide +kernel) (fun w _ => Ev_mvst (.inr rfl) rfl) trivial ?_
  refine AW_done (by decide +kernel) ?_
  refine CW_ret ?_
  refine ⟨rfl, _, (.tmp rfl (.tmp rfl .nil)), ?_⟩
  exact ⟨T, rfl⟩

theorem tob_38_9 : toBytesOk Try.prog 9 38 5 = true := by kernel_rfl
set_option maxRecDepth 10000 in
set_option maxHeartbeats 2000000 in
theorem take_c (w : World) (l : List UInt8) (k : Nat) (hk : 1 ≤ k ∧ k ≤ 8) (hl : k ≤ l.length) : Calls Try.prog 57 #[St l, .int .i64 (k : Int)] w (Ret fun v w' => Kp0 w w' ∧ v = .tuple #[.int .u64 ((numL (l.take k) : Nat) : Int), St (l.drop k), .int .i64 0]) := by
  have T : Kp0 w w := Kp.refl _ _
  refine calls_start Try.func57 rfl (n := 40) rfl rfl rfl ?_
  refine CW_seq ?_
  refine CW_reg rfl ?_
  refine OW_ev (Ev_c (.inr rfl)) rfl ?_
  refine OW_ev (Ev_c (.inr rfl)) rfl ?_
  refine OW_ev (Ev_c (.inr rfl)) rfl ?_
  refine OW_nil ?_
  refine CW_seq ?_
  refine CW_seq ?_
  refine CW_reg rfl ?_
  refine OW_ev (Ev_mvi (.inl rfl) rfl) rfl ?_
  refine OW_st rfl (Stp_call ent_62 rfl rfl rfl (fits_c _ k hk) ?_)
  rintro _ w1 ⟨E1, rfl⟩
  have Z1 := E1.size
  have T := T.keep0 E1
  refine OW_ev (Ev_not rfl rfl) rfl ?_
  refine OW_nil ?_
  refine CW_cond_f rfl rfl ?_
  refine CW_skip ?_
  refine CW_seq ?_
  refine CW_seq ?_
  refine CW_reg rfl ?_
  refine OW_ev (Ev_mvst (.inl rfl) rfl) rfl ?_
  refine OW_ev (Ev_lenSt und_9 rfl rfl) rfl ?_
  refine OW_ev (Ev_mvi (.inl rfl) rfl) rfl ?_
  refine OW_ev (Ev_lss rfl rfl rfl) rfl ?_
  refine OW_nil ?_
  refine CW_cond rfl (fun c2 => ?_) (fun c2 => ?_)
  · have d2 := c2
    first | (with_reducible replace d2 := of_decide_eq_true d2) | (with_reducible replace d2 := bnt d2; try (with_reducible replace d2 := of_decide_eq_false d2)) | skip
    exact absurd (show (k : Int) ≤ (l.length : Int) by omega) (by omega)
  · have d2 := c2
    first | (with_reducible replace d2 := of_decide_eq_false d2) | (with_reducible replace d2 := bnf d2; try (with_reducible replace d2 := of_decide_eq_true d2)) | skip
    refine CW_skip ?_
    refine CW_seq ?_
    refine CW_reg rfl ?_
    refine OW_ev (Ev_mvst (.inl rfl) rfl) rfl ?_
    refine OW_ev (Ev_mvi (.inl rfl) rfl) rfl ?_
    refine OW_st rfl (Stp_call ent_63 rfl rfl rfl (cut_c _ l k hl) ?_)
    rintro _ w3 ⟨E3, rfl⟩
    have Z3 := E3.size
    have T := T.keep0 E3
    refine OW_ev (Ev_mvt (.inl rfl) rfl) rfl ?_
    refine OW_ev (Ev_extract (vs := _) rfl rfl rfl) rfl ?_
    refine OW_ev (Ev_extract (vs := _) rfl rfl rfl) rfl ?_
    refine OW_ev (Ev_mvst (.inr rfl) rfl) rfl ?_
    refine OW_ev (Ev_mvst (.inr rfl) rfl) rfl ?_
    refine OW_nil ?_
    refine CW_seq ?_
    refine CW_re [(4, .int _ _), (5, .string _), (6, .int _ _), (7, .string _), (8, .string _)] ⟨rfl, rfl, rfl, rfl, rfl, trivial⟩ (fun g => ?_)
    refine CW_reg rfl ?_
    refine OW_ev (Ev_c (.inr rfl)) rfl ?_
    refine OW_nil ?_
    refine CW_seq ?_
    refine CW_seq ?_
    refine CW_reg rfl ?_
    refine OW_ev (Ev_mvst (.inl rfl) rfl) rfl ?_
    refine OW_st rfl (Stp_stBytes tob_38_9 rfl rfl ?_)
    intro g4 cc w4 hg4 hz4 E4 SB
    have T := T.keep0 E4
    obtain ⟨gb, rfl⟩ : ∃ x, x = g4 := ⟨_, rfl⟩
    have htl : (l.take k).length = k := by rw [List.length_take]; omega
    refine OW_ev (Ev_len und_38 rfl rfl) rfl ?_
    refine OW_ev (Ev_c (.inl rfl)) rfl ?_
    refine OW_nil ?_
    refine CW_block ?_
    refine CW_loop (α := Nat) (fun (i : Nat) f wr => AllEq f [(8, St (l.drop k)), (9, .int .u64 ((numL ((l.take k).take i) : Nat) : Int)), (26, .slice (some ⟨gb, 0, none⟩) (l.take k).length cc), (27, .int .i64 ((l.take k).length : Int)), (28, .int .i64 (i : Int))] ∧ (i ≤ k) ∧ (Sl (· = gb) wr 1 (some ⟨gb, 0, none⟩) ((l.take k).map By)) ∧ (Kp0 w wr)) (fun i => k - i) 0 ?_ ?_
    ·
      exact ⟨⟨rfl, rfl, rfl, rfl, rfl, trivial⟩, Nat.zero_le _, SB, T⟩
    ·
      rintro i f wr ⟨hf, hi, SB, T⟩
      obtain ⟨g, rfl⟩ : ∃ g, f = upl g [(8, St (l.drop k)), (9, .int .u64 ((numL ((l.take k).take i) : Nat) : Int)), (26, .slice (some ⟨gb, 0, none⟩) (l.take k).length cc), (27, .int .i64 ((l.take k).length : Int)), (28, .int .i64 (i : Int))] := ⟨f, upl_self hf⟩
      clear hf
      refine CW_seq ?_
      refine CW_reg rfl ?_
      refine OW_ev (Ev_lss rfl rfl rfl) rfl ?_
      refine OW_nil ?_
      refine CW_seq ?_
      refine CW_cond rfl (fun c5 => ?_) (fun c5 => ?_)
      · have d5 := c5
        first | (with_reducible replace d5 := of_decide_eq_true d5) | (with_reducible replace d5 := bnt d5; try (with_reducible replace d5 := of_decide_eq_false d5)) | skip
        have hik : i < k := by omega
        obtain ⟨x, hx⟩ : ∃ x, (l.take k)[i]? = some x := ⟨(l.take k)[i], List.getElem?_eq_getElem (by omega)⟩
        have hg : ((l.take k).map By)[i]? = some (By x) := by rw [List.getElem?_map, hx]; rfl
        have h7 := numL_lt7 (l := (l.take k).take i) (by rw [List.length_take]; omega)
        have hxb := x.toNat_lt
        have hs8 : IntKind.u64.wrap (((numL ((l.take k).take i) : Nat) : Int) * 2 ^ (8 : Int).toNat) = ((numL ((l.take k).take i) * 256 : Nat) : Int) := by
          rw [show (2 : Int) ^ (8 : Int).toNat = 256 from rfl]
          push_cast
          apply IntWalk.u64_in; omega
        have hor : bits .or .u64 (((numL ((l.take k).take i) * 256 : Nat)) : Int) (x.toNat : Int) = ((numL ((l.take k).take (i + 1)) : Nat) : Int) := by
          rw [or_byte (by omega) (by omega), List.take_add_one, hx, Option.toList_some, numL_push]
        refine CW_skip ?_
        refine CW_seq ?_
        refine CW_block ?_
        refine CW_seq ?_
        refine CW_reg rfl ?_
        refine OW_ev (Ev_idx i (SB.ad hg) sl_38 rfl rfl rfl rfl (by omega)) rfl ?_
        refine OW_ev (Ev_load (v := .int .u8 (x.toNat : Int)) one_5 rfl rfl ((SB.at_ hg).one 0 rfl)) rfl ?_
        refine OW_ev (Ev_mvi (.inr rfl) rfl) rfl ?_
        refine OW_nil ?_
        refine CW_reg rfl ?_
        refine OW_ev (Ev_mvi (.inl rfl) rfl) rfl ?_
        refine OW_ev (Ev_shl rfl rfl rfl (by omega) (by change _ ≤ ((64 : Nat) : Int); omega)) rfl ?_
        refine OW_ev (Ev_mvi (.inl rfl) rfl) rfl ?_
        refine OW_ev (Ev_conv (kd := .u64) (by kernel_rfl) rfl rfl (by first | (apply IntWalk.i64_in; omega) | (apply IntWalk.u64_in; omega) | (apply IntWalk.u32_in; omega) | (apply IntWalk.u8_in; omega) | (apply IntWalk.i32_in; omega) | rfl)) rfl ?_
        refine OW_ev (Ev_bits (by simp) rfl rfl rfl) rfl ?_
        refine OW_ev (Ev_mvi (.inr rfl) rfl) rfl ?_
        refine OW_nil ?_
        refine CW_reg rfl ?_
        refine OW_ev (Ev_add rfl rfl rfl (by first | (apply IntWalk.i64_in; omega) | (apply IntWalk.u64_in; omega) | (apply IntWalk.u32_in; omega) | (apply IntWalk.u8_in; omega) | (apply IntWalk.i32_in; omega) | rfl)) rfl ?_
        refine OW_ev (Ev_mvi (.inl rfl) rfl) rfl ?_
        refine OW_nil ?_
        exact ⟨i + 1, by omega, ⟨rfl, congrArg (Value.int .u64) (by rw [hs8]; exact hor), rfl, rfl, congrArg (Value.int .i64) (by omega), trivial⟩, by omega, SB, T⟩
      · have d5 := c5
        first | (with_reducible replace d5 := of_decide_eq_false d5) | (with_reducible replace d5 := bnf d5; try (with_reducible replace d5 := of_decide_eq_true d5)) | skip
        have hik : i = k := by omega
        subst hik
        refine CW_exit ?_
        refine blk_same ?_
        refine CW_seq ?_
        refine CW_reg rfl ?_
        refine OW_ev (Ev_mvi (.inl rfl) rfl) rfl ?_
        refine OW_ev (Ev_mvst (.inl rfl) rfl) rfl ?_
        refine OW_ev (Ev_mvi (.inr rfl) rfl) rfl ?_
        refine OW_ev (Ev_mvst (.inr rfl) rfl) rfl ?_
        refine OW_ev (Ev_c (.inr rfl)) rfl ?_
        refine OW_nil ?_
        refine CW_ret ?_
        refine ⟨rfl, _, (.tmp rfl (.tmp rfl (.tmp rfl .nil))), ?_⟩
        refine ⟨T, ?_⟩
        show Value.tuple #[.int .u64 ((numL ((l.take i).take i) : Nat) : Int), St (l.drop i), .int .i64 0] = _
        rw [List.take_take, Nat.min_self]

set_option maxRecDepth 10000 in
set_option maxHeartbeats 2000000 in
theorem number_c {w : World} {br : Nat} {l : List UInt8} (hB : Blk w br 101 [St l]) (hl : 8 ≤ l.length) : Calls Try.prog 49 #[.pointer (some ⟨br, 0, none⟩)] w (Ret fun v w' => v = .int .u64 ((numL (l.take 8) : Nat) : Int) ∧ Kp (fun b => b = br) w w' ∧ Blk w' br 101 [St (l.drop 8)]) := by
  have hbl := hB.lt
  have T : Kp (fun b => b = br) w w := Kp.refl _ _
  refine calls_start Try.func49 rfl (n := 20) rfl rfl rfl ?_
  refine CW_seq ?_
  refine CW_reg rfl ?_
  refine OW_ev (Ev_c (.inr rfl)) rfl ?_
  refine OW_nil ?_
  refine CW_seq ?_
  refine CW_reg rfl ?_
  refine OW_ev (Ev_mvp (.inl rfl) rfl) rfl ?_
  refine OW_ev (Ev_nilCheck rfl rfl) rfl ?_
  refine OW_ev (Ev_fieldAddr fld_101_0 rfl rfl) rfl ?_
  refine OW_ev (Ev_load one_9 rfl rfl (hB.ld (q := 0) rfl)) rfl ?_
  refine OW_st rfl (Stp_call ent_57 rfl rfl rfl (take_c _ l 8 (by omega) hl) ?_)
  rintro _ w1 ⟨E1, rfl⟩
  have Z1 := E1.size
  have hB := hB.keep0 E1
  have T := T.keep0 E1
  refine OW_ev (Ev_mvt (.inl rfl) rfl) rfl ?_
  refine OW_ev (Ev_extract (vs := _) rfl rfl rfl) rfl ?_
  refine OW_ev (Ev_extract (vs := _) rfl rfl rfl) rfl ?_
  refine OW_ev (Ev_extract (vs := _) rfl rfl rfl) rfl ?_
  refine OW_ev (Ev_mvi (.inr rfl) rfl) rfl ?_
  refine OW_ev (Ev_mvst (.inr rfl) rfl) rfl ?_
  refine OW_ev (Ev_mvi (.inr rfl) rfl) rfl ?_
  refine OW_nil ?_
  refine CW_seq ?_
  refine CW_reg rfl ?_
  refine OW_ev (Ev_mvp (.inl rfl) rfl) rfl ?_
  refine OW_ev (Ev_mvst (.inl rfl) rfl) rfl ?_
  refine OW_ev (Ev_nilCheck rfl rfl) rfl ?_
  refine OW_ev (Ev_fieldAddr fld_101_0 rfl rfl) rfl ?_
  refine OW_st rfl (Stp_store (q := 0) (vs := [.string _]) hB siz_9 rfl rfl rfl rfl (Nat.le_of_ble_eq_true rfl) rfl ?_)
  intro w2 hz2 E2 B2
  have Z2 := E2.size
  have T := T.trans' E2 (fun i _ h => h)
  clear hB
  have hB := B2
  clear B2
  have hB : Blk w2 br 101 [St (l.drop 8)] := hB
  refine OW_nil ?_
  refine CW_seq ?_
  refine CW_re [(2, .int _ _), (3, .int _ _)] ⟨rfl, rfl, trivial⟩ (fun g => ?_)
  refine CW_reg rfl ?_
  refine OW_ev (Ev_mvi (.inl rfl) rfl) rfl ?_
  refine OW_ev (Ev_mvi (.inr rfl) rfl) rfl ?_
  refine OW_nil ?_
  refine CW_ret ?_
  refine ⟨rfl, _, (.tmp rfl .nil), ?_⟩
  exact ⟨rfl, T, hB⟩

end Go.Proofs.Ythfelkjklnhdiaa