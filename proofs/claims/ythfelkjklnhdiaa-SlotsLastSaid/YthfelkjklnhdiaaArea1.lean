/- Contracts of package area: New, Len, span, next, through. -/
import Derived.Test.YthfelkjklnhdiaaDisk5
import Derived.Test.YthfelkjklnhdiaaBld
namespace Go.Proofs.Ythfelkjklnhdiaa
open Go Go.RowKit Bx Go.Proofs

def fit (d : DkM) (fr many : Int) : Prop := 1 ≤ many ∧ many ≤ (d.many : Int) ∧ 0 ≤ fr ∧ fr + many ≤ (d.many : Int)
def arC (bd f m s : Nat) : List Value := [.pointer (some ⟨bd, 0, none⟩), .int .i64 (f : Int), .int .i64 (m : Int), .int .i64 (s : Int)]

set_option maxRecDepth 10000 in
set_option maxHeartbeats 2000000 in
theorem anew_nil (w : World) (fr many : Int) : Calls Try.prog 9 #[.pointer none, .int .i64 fr, .int .i64 many] w (Ret fun v w' => Kp0 w w' ∧ v = .tuple #[.pointer none, .int .i64 5]) := by
  have T : Kp0 w w := Kp.refl _ _
  refine calls_start Try.func9 rfl (n := 41) rfl rfl rfl ?_
  refine CW_seq ?_
  refine CW_reg rfl ?_
  refine OW_ev (Ev_c (.inr rfl)) rfl ?_
  refine OW_ev (Ev_c (.inr rfl)) rfl ?_
  refine OW_nil ?_
  refine CW_seq ?_
  refine CW_seq ?_
  refine CW_reg rfl ?_
  refine OW_ev (Ev_mvp (.inl rfl) rfl) rfl ?_
  refine OW_ev (Ev_ptrNil und_22 rfl rfl) rfl ?_
  refine OW_nil ?_
  refine CW_cond_t rfl rfl ?_
  refine CW_seq ?_
  refine CW_reg rfl ?_
  refine OW_ev (Ev_c (.inr rfl)) rfl ?_
  refine OW_ev (Ev_c (.inr rfl)) rfl ?_
  refine OW_nil ?_
  refine CW_ret ?_
  refine ⟨rfl, _, (.tmp rfl (.tmp rfl .nil)), ?_⟩
  exact ⟨T, rfl⟩

set_option maxRecDepth 10000 in
set_option maxHeartbeats 2000000 in
theorem anew_c {D : Nat → Prop} {w : World} {bd : Nat} {d : DkM} (hS : DkS D w bd d) (fr many : Int) : Calls Try.prog 9 #[.pointer (some ⟨bd, 0, none⟩), .int .i64 fr, .int .i64 many] w (Ret fun v w' => Kp0 w w' ∧ ((¬ fit d fr many ∧ v = .tuple #[.pointer none, .int .i64 1]) ∨ (fit d fr many ∧ ∃ (f m ba : Nat), fr = (f : Int) ∧ many = (m : Int) ∧ v = .tuple #[.pointer (some ⟨ba, 0, none⟩), .int .i64 0] ∧ w.heap.size ≤ ba ∧ Blk w' ba 63 (arC bd f m d.size)))) := by
  have hok := hS.ok
  have hm := hok.many
  have T : Kp0 w w := Kp.refl _ _
  refine calls_start Try.func9 rfl (n := 41) rfl rfl rfl ?_
  refine CW_seq ?_
  refine CW_reg rfl ?_
  refine OW_ev (Ev_c (.inr rfl)) rfl ?_
  refine OW_ev (Ev_c (.inr rfl)) rfl ?_
  refine OW_nil ?_
  refine CW_seq ?_
  refine CW_seq ?_
  refine CW_reg rfl ?_
  refine OW_ev (Ev_mvp (.inl rfl) rfl) rfl ?_
  refine OW_ev (Ev_ptrNil und_22 rfl rfl) rfl ?_
  refine OW_nil ?_
  refine CW_cond_f rfl rfl ?_
  refine CW_skip ?_
  refine CW_seq ?_
  refine CW_reg rfl ?_
  refine OW_ev (Ev_mvp (.inl rfl) rfl) rfl ?_
  refine OW_st rfl (Stp_call ent_24 rfl rfl rfl (size_c hS) ?_)
  rintro _ w1 ⟨E1, rfl⟩
  have Z1 := E1.size
  have T := T.keep0 E1
  refine OW_ev (Ev_mvt (.inl rfl) rfl) rfl ?_
  refine OW_ev (Ev_extract (vs := _) rfl rfl rfl) rfl ?_
  refine OW_ev (Ev_extract (vs := _) rfl rfl rfl) rfl ?_
  refine OW_ev (Ev_mvi (.inr rfl) rfl) rfl ?_
  refine OW_ev (Ev_mvi (.inr rfl) rfl) rfl ?_
  refine OW_nil ?_
  refine CW_seq ?_
  refine CW_seq ?_
  refine CW_reg rfl ?_
  refine OW_ev (Ev_mvi (.inl rfl) rfl) rfl ?_
  refine OW_ev (Ev_lss rfl rfl rfl) rfl ?_
  refine OW_ev (Ev_mvb (.inl rfl) rfl) rfl ?_
  refine OW_split (d := .tmp 19) rfl (fun c2 => ?_) (fun c2 => ?_)
  · have d2 := c2
    first | (with_reducible replace d2 := of_decide_eq_true d2) | (with_reducible replace d2 := bnt d2; try (with_reducible replace d2 := of_decide_eq_false d2)) | skip
    have hbad : ¬ fit d fr many := by unfold fit; omega
    refine OW_no rfl rfl rfl rfl c2 ?_
    refine OW_no rfl rfl rfl rfl c2 ?_
    refine OW_no rfl rfl rfl rfl c2 ?_
    refine OW_ev (Ev_pickb_t rfl rfl c2 rfl) rfl ?_
    refine OW_ev (Ev_mvb (.inl rfl) rfl) rfl ?_
    refine OW_no rfl rfl rfl rfl rfl ?_
    refine OW_no rfl rfl rfl rfl rfl ?_
    refine OW_ev (Ev_pickb_t rfl rfl rfl rfl) rfl ?_
    refine OW_ev (Ev_mvb (.inl rfl) rfl) rfl ?_
    refine OW_no rfl rfl rfl rfl rfl ?_
    refine OW_no rfl rfl rfl rfl rfl ?_
    refine OW_no rfl rfl rfl rfl rfl ?_
    refine OW_no rfl rfl rfl rfl rfl ?_
    refine OW_no rfl rfl rfl rfl rfl ?_
    refine OW_ev (Ev_pickb_t rfl rfl rfl rfl) rfl ?_
    refine OW_nil ?_
    refine CW_cond_t rfl rfl ?_
    refine CW_seq ?_
    refine CW_re [(0, .pointer _), (1, .int _ _), (2, .int _ _), (6, .pointer _), (7, .int _ _), (9, .int _ _)] ⟨rfl, rfl, rfl, rfl, rfl, rfl, trivial⟩ (fun g => ?_)
    refine CW_reg rfl ?_
    refine OW_ev (Ev_c (.inr rfl)) rfl ?_
    refine OW_ev (Ev_c (.inr rfl)) rfl ?_
    refine OW_nil ?_
    refine CW_ret ?_
    refine ⟨rfl, _, (.tmp rfl (.tmp rfl .nil)), ?_⟩
    exact ⟨T, .inl ⟨hbad, rfl⟩⟩
  · have d2 := c2
    first | (with_reducible replace d2 := of_decide_eq_false d2) | (with_reducible replace d2 := bnf d2; try (with_reducible replace d2 := of_decide_eq_true d2)) | skip
    refine OW_yes rfl rfl rfl rfl c2 (Ev.stp (Ev_mvi (.inl rfl) rfl) ?_)
    refine OW_yes rfl rfl rfl rfl c2 (Ev.stp (Ev_mvi (.inl rfl) rfl) ?_)
    refine OW_yes rfl rfl rfl rfl c2 (Ev.stp (Ev_gtr rfl rfl rfl) ?_)
    refine OW_ev (Ev_pickb_f rfl rfl c2 rfl) rfl ?_
    refine OW_ev (Ev_mvb (.inl rfl) rfl) rfl ?_
    refine OW_split (d := .tmp 24) rfl (fun c3 => ?_) (fun c3 => ?_)
    · have d3 := c3
      first | (with_reducible replace d3 := of_decide_eq_true d3) | (with_reducible replace d3 := bnt d3; try (with_reducible replace d3 := of_decide_eq_false d3)) | skip
      have hbad : ¬ fit d fr many := by unfold fit; omega
      refine OW_no rfl rfl rfl rfl c3 ?_
      refine OW_no rfl rfl rfl rfl c3 ?_
      refine OW_ev (Ev_pickb_t rfl rfl c3 rfl) rfl ?_
      refine OW_ev (Ev_mvb (.inl rfl) rfl) rfl ?_
      refine OW_no rfl rfl rfl rfl rfl ?_
      refine OW_no rfl rfl rfl rfl rfl ?_
      refine OW_no rfl rfl rfl rfl rfl ?_
      refine OW_no rfl rfl rfl rfl rfl ?_
      refine OW_no rfl rfl rfl rfl rfl ?_
      refine OW_ev (Ev_pickb_t rfl rfl rfl rfl) rfl ?_
      refine OW_nil ?_
      refine CW_cond_t rfl rfl ?_
      refine CW_seq ?_
      refine CW_re [(0, .pointer _), (1, .int _ _), (2, .int _ _), (6, .pointer _), (7, .int _ _), (9, .int _ _)] ⟨rfl, rfl, rfl, rfl, rfl, rfl, trivial⟩ (fun g => ?_)
      refine CW_reg rfl ?_
      refine OW_ev (Ev_c (.inr rfl)) rfl ?_
      refine OW_ev (Ev_c (.inr rfl)) rfl ?_
      refine OW_nil ?_
      refine CW_ret ?_
      refine ⟨rfl, _, (.tmp rfl (.tmp rfl .nil)), ?_⟩
      exact ⟨T, .inl ⟨hbad, rfl⟩⟩
    · have d3 := c3
      first | (with_reducible replace d3 := of_decide_eq_false d3) | (with_reducible replace d3 := bnf d3; try (with_reducible replace d3 := of_decide_eq_true d3)) | skip
      refine OW_yes rfl rfl rfl rfl c3 (Ev.stp (Ev_mvi (.inl rfl) rfl) ?_)
      refine OW_yes rfl rfl rfl rfl c3 (Ev.stp (Ev_lss rfl rfl rfl) ?_)
      refine OW_ev (Ev_pickb_f rfl rfl c3 rfl) rfl ?_
      refine OW_ev (Ev_mvb (.inl rfl) rfl) rfl ?_
      refine OW_split (d := .tmp 28) rfl (fun c4 => ?_) (fun c4 => ?_)
      · have d4 := c4
        first | (with_reducible replace d4 := of_decide_eq_true d4) | (with_reducible replace d4 := bnt d4; try (with_reducible replace d4 := of_decide_eq_false d4)) | skip
        have hbad : ¬ fit d fr many := by unfold fit; omega
        refine OW_no rfl rfl rfl rfl c4 ?_
        refine OW_no rfl rfl rfl rfl c4 ?_
        refine OW_no rfl rfl rfl rfl c4 ?_
        refine OW_no rfl rfl rfl rfl c4 ?_
        refine OW_no rfl rfl rfl rfl c4 ?_
        refine OW_ev (Ev_pickb_t rfl rfl c4 rfl) rfl ?_
        refine OW_nil ?_
        refine CW_cond_t rfl rfl ?_
        refine CW_seq ?_
        refine CW_re [(0, .pointer _), (1, .int _ _), (2, .int _ _), (6, .pointer _), (7, .int _ _), (9, .int _ _)] ⟨rfl, rfl, rfl, rfl, rfl, rfl, trivial⟩ (fun g => ?_)
        refine CW_reg rfl ?_
        refine OW_ev (Ev_c (.inr rfl)) rfl ?_
        refine OW_ev (Ev_c (.inr rfl)) rfl ?_
        refine OW_nil ?_
        refine CW_ret ?_
        refine ⟨rfl, _, (.tmp rfl (.tmp rfl .nil)), ?_⟩
        exact ⟨T, .inl ⟨hbad, rfl⟩⟩
      · have d4 := c4
        first | (with_reducible replace d4 := of_decide_eq_false d4) | (with_reducible replace d4 := bnf d4; try (with_reducible replace d4 := of_decide_eq_true d4)) | skip
        refine OW_yes rfl rfl rfl rfl c4 (Ev.stp (Ev_mvi (.inl rfl) rfl) ?_)
        refine OW_yes rfl rfl rfl rfl c4 (Ev.stp (Ev_mvi (.inl rfl) rfl) ?_)
        refine OW_yes rfl rfl rfl rfl c4 (Ev.stp (Ev_mvi (.inl rfl) rfl) ?_)
        refine OW_yes rfl rfl rfl rfl c4 (Ev.stp (Ev_sub rfl rfl rfl (by apply IntWalk.i64_in; omega)) ?_)
        refine OW_yes rfl rfl rfl rfl c4 (Ev.stp (Ev_gtr rfl rfl rfl) ?_)
        refine OW_ev (Ev_pickb_f rfl rfl c4 rfl) rfl ?_
        refine OW_nil ?_
        refine CW_cond rfl (fun c5 => ?_) (fun c5 => ?_)
        · have d5 := c5
          first | (with_reducible replace d5 := of_decide_eq_true d5) | (with_reducible replace d5 := bnt d5; try (with_reducible replace d5 := of_decide_eq_false d5)) | skip
          have hbad : ¬ fit d fr many := by unfold fit; omega
          refine CW_seq ?_
          refine CW_re [(0, .pointer _), (1, .int _ _), (2, .int _ _), (6, .pointer _), (7, .int _ _), (9, .int _ _)] ⟨rfl, rfl, rfl, rfl, rfl, rfl, trivial⟩ (fun g => ?_)
          refine CW_reg rfl ?_
          refine OW_ev (Ev_c (.inr rfl)) rfl ?_
          refine OW_ev (Ev_c (.inr rfl)) rfl ?_
          refine OW_nil ?_
          refine CW_ret ?_
          refine ⟨rfl, _, (.tmp rfl (.tmp rfl .nil)), ?_⟩
          exact ⟨T, .inl ⟨hbad, rfl⟩⟩
        · have d5 := c5
          first | (with_reducible replace d5 := of_decide_eq_false d5) | (with_reducible replace d5 := bnf d5; try (with_reducible replace d5 := of_decide_eq_true d5)) | skip
          have hfit : fit d fr many := by unfold fit; omega
          have hf2 := hfit
          unfold fit at hf2
          obtain ⟨f, rfl⟩ : ∃ f : Nat, fr = (f : Int) := ⟨fr.toNat, by omega⟩
          obtain ⟨m, rfl⟩ : ∃ m : Nat, many = (m : Int) := ⟨many.toNat, by omega⟩
          refine CW_skip ?_
          refine CW_seq ?_
          refine CW_re [(0, .pointer _), (1, .int _ _), (2, .int _ _), (6, .pointer _), (7, .int _ _), (9, .int _ _)] ⟨rfl, rfl, rfl, rfl, rfl, rfl, trivial⟩ (fun g => ?_)
          refine CW_reg rfl ?_
          refine OW_ev (Ev_mvp (.inl rfl) rfl) rfl ?_
          refine OW_ev (Ev_mvi (.inl rfl) rfl) rfl ?_
          refine OW_ev (Ev_mvi (.inl rfl) rfl) rfl ?_
          refine OW_ev (Ev_mvi (.inl rfl) rfl) rfl ?_
          refine OW_ev (Ev_build (l := [.pointer _, .int _ _, .int _ _, .int _ _]) plc_63 zero_63 rfl rfl rfl) rfl ?_
          refine OW_st rfl (Stp_box (l := [.pointer _, .int _ _, .int _ _, .int _ _]) rfl rfl rfl ?_)
          intro b6 w6 hb6 hz6 E6 B6
          have L6 : _ ≤ b6 := Nat.le_trans T.size (Nat.le_of_eq hb6.symm)
          have T := T.keep0 E6
          obtain ⟨ba, rfl⟩ : ∃ b, b = b6 := ⟨_, rfl⟩
          have BA := B6
          refine OW_ev (Ev_mvp (.inr rfl) rfl) rfl ?_
          refine OW_ev (Ev_c (.inr rfl)) rfl ?_
          refine OW_nil ?_
          refine CW_ret ?_
          refine ⟨rfl, _, (.tmp rfl (.tmp rfl .nil)), ?_⟩
          exact ⟨T, .inr ⟨hfit, f, m, ba, rfl, rfl, rfl, by omega, BA⟩⟩

set_option maxRecDepth 10000 in
set_option maxHeartbeats 2000000 in
theorem alen_c {w : World} {ba bd f m s : Nat} (hA : Blk w ba 63 (arC bd f m s)) (hm : m ≤ 4096) (hs : s ≤ 1024) : Calls Try.prog 15 #[.pointer (some ⟨ba, 0, none⟩)] w (Ret fun v w' => Kp0 w w' ∧ v = .int .i64 ((m : Int) * (s : Int))) := by
  have hms : m * s ≤ 4096 * 1024 := Nat.mul_le_mul hm hs
  have hmi : ((m * s : Nat) : Int) ≤ 4194304 := by omega
  push_cast at hmi
  have hmi0 : 0 ≤ (m : Int) * (s : Int) := Int.mul_nonneg (by omega) (by omega)
  have T : Kp0 w w := Kp.refl _ _
  refine calls_start Try.func15 rfl (n := 14) rfl rfl rfl ?_
  refine CW_seq ?_
  refine CW_reg rfl ?_
  refine OW_ev (Ev_c (.inr rfl)) rfl ?_
  refine OW_nil ?_
  refine CW_seq ?_
  refine CW_seq ?_
  refine CW_reg rfl ?_
  refine OW_ev (Ev_mvp (.inl rfl) rfl) rfl ?_
  refine OW_ev (Ev_ptrNil und_26 rfl rfl) rfl ?_
  refine OW_nil ?_
  refine CW_cond_f rfl rfl ?_
  refine CW_skip ?_
  refine CW_seq ?_
  refine CW_draw (fun W => hA.here W) mixed rfl (fun _ _ _ h => nomatch h.1) ?_
  have E1 : Kp0 _ _ := Kp.drew w nob
  have Z1 : (World.drew w).heap.size = w.heap.size := rfl
  generalize World.drew w = w1 at E1 Z1 ⊢
  have hA := hA.keep0 E1
  have T := T.keep0 E1
  refine AW_take 0 rfl rfl (by decide +kernel) (by decide +kernel) (by decide +kernel) (fun w hA => Ev_mvp (.inl rfl) rfl) hA ?_
  refine AW_take 1 rfl rfl (by decide +kernel) (by decide +kernel) (by decide +kernel) (fun w hA => Ev_nilCheck rfl rfl) hA ?_
  refine AW_take 2 rfl rfl (by decide +kernel) (by decide +kernel) (by decide +kernel) (fun w hA => Ev_fieldAddr fld_63_2 rfl rfl) hA ?_
  refine AW_take 3 rfl rfl (by decide +kernel) (by decide +kernel) (by decide +kernel) (fun w hA => Ev_load one_3 rfl rfl (hA.ld (q := 2) rfl)) hA ?_
  refine AW_take 4 rfl rfl (by decide +kernel) (by decide +kernel) (by decide +kernel) (fun w hA => Ev_mvp (.inl rfl) rfl) hA ?_
  refine AW_take 5 rfl rfl (by decide +kernel) (by decide +kernel) (by decide +kernel) (fun w hA => Ev_nilCheck rfl rfl) hA ?_
  refine AW_take 6 rfl rfl (by decide +kernel) (by decide +kernel) (by decide +kernel) (fun w hA => Ev_fieldAddr fld_63_3 rfl rfl) hA ?_
  refine AW_take 7 rfl rfl (by decide +kernel) (by decide +kernel) (by decide +kernel) (fun w hA => Ev_load one_3 rfl rfl (hA.ld (q := 3) rfl)) hA ?_
  refine AW_take 8 rfl rfl (by decide +kernel) (by decide +kernel) (by decide +kernel) (fun w hA => Ev_mul rfl rfl rfl (by apply IntWalk.i64_in; omega)) hA ?_
  refine AW_take 9 rfl rfl (by decide +kernel) (by decide +kernel) (by decide +kernel) (fun w hA => Ev_mvi (.inr rfl) rfl) hA ?_
  refine AW_done (by decide +kernel) ?_
  refine CW_ret ?_
  refine ⟨rfl, _, (.tmp rfl .nil), ?_⟩
  exact ⟨T, rfl⟩

def inside (m s : Nat) (a n : Int) : Prop := 0 ≤ a ∧ 0 ≤ n ∧ a + n ≤ (m : Int) * (s : Int)
set_option maxRecDepth 10000 in
set_option maxHeartbeats 2000000 in
theorem span_c {w : World} {ba bd f m s : Nat} (hA : Blk w ba 63 (arC bd f m s)) (hm : m ≤ 4096) (hs : s ≤ 1024) (a n : Int) (hn : n ≤ 9223372036854775807) : Calls Try.prog 26 #[.pointer (some ⟨ba, 0, none⟩), .int .i64 a, .int .i64 n] w (Ret fun v w' => Kp0 w w' ∧ ((¬ inside m s a n ∧ v = .tuple #[.pointer none, .int .i64 6]) ∨ (inside m s a n ∧ ∃ bs, v = .tuple #[.pointer (some ⟨bs, 0, none⟩), .int .i64 0] ∧ w.heap.size ≤ bs ∧ bs < w'.heap.size ∧ Blk w' bs 93 [.int .i64 a, .int .i64 (a + n), .int .i64 (s : Int)]))) := by
  have hms : m * s ≤ 4096 * 1024 := Nat.mul_le_mul hm hs
  have hmi : ((m * s : Nat) : Int) ≤ 4194304 := by omega
  push_cast at hmi
  have hmi0 : 0 ≤ (m : Int) * (s : Int) := Int.mul_nonneg (by omega) (by omega)
  have T : Kp0 w w := Kp.refl _ _
  refine calls_start Try.func26 rfl (n := 40) rfl rfl rfl ?_
  refine CW_seq ?_
  refine CW_reg rfl ?_
  refine OW_ev (Ev_c (.inr rfl)) rfl ?_
  refine OW_ev (Ev_c (.inr rfl)) rfl ?_
  refine OW_nil ?_
  refine CW_seq ?_
  refine CW_seq ?_
  refine CW_reg rfl ?_
  refine OW_ev (Ev_mvp (.inl rfl) rfl) rfl ?_
  refine OW_ev (Ev_ptrNil und_26 rfl rfl) rfl ?_
  refine OW_nil ?_
  refine CW_cond_f rfl rfl ?_
  refine CW_skip ?_
  refine CW_seq ?_
  refine CW_seq ?_
  refine CW_reg rfl ?_
  refine OW_ev (Ev_mvi (.inl rfl) rfl) rfl ?_
  refine OW_ev (Ev_lss rfl rfl rfl) rfl ?_
  refine OW_ev (Ev_mvb (.inl rfl) rfl) rfl ?_
  refine OW_split (d := .tmp 12) rfl (fun c1 => ?_) (fun c1 => ?_)
  · have d1 := c1
    first | (with_reducible replace d1 := of_decide_eq_true d1) | (with_reducible replace d1 := bnt d1; try (with_reducible replace d1 := of_decide_eq_false d1)) | skip
    have hbad : ¬ inside m s a n := by unfold inside; omega
    refine OW_no rfl rfl rfl rfl c1 ?_
    refine OW_no rfl rfl rfl rfl c1 ?_
    refine OW_ev (Ev_pickb_t rfl rfl c1 rfl) rfl ?_
    refine OW_ev (Ev_mvb (.inl rfl) rfl) rfl ?_
    refine OW_no rfl rfl rfl rfl rfl ?_
    refine OW_no rfl rfl rfl rfl rfl ?_
    refine OW_no rfl rfl rfl rfl rfl ?_
    refine OW_no rfl rfl rfl rfl rfl ?_
    refine OW_ev (Ev_pickb_t rfl rfl rfl rfl) rfl ?_
    refine OW_ev (Ev_mvb (.inl rfl) rfl) rfl ?_
    refine OW_no rfl rfl rfl rfl rfl ?_
    refine OW_no rfl rfl rfl rfl rfl ?_
    refine OW_no rfl rfl rfl rfl rfl ?_
    refine OW_no rfl rfl rfl rfl rfl ?_
    refine OW_no rfl rfl rfl rfl rfl ?_
    refine OW_no rfl rfl rfl rfl rfl ?_
    refine OW_ev (Ev_pickb_t rfl rfl rfl rfl) rfl ?_
    refine OW_nil ?_
    refine CW_cond_t rfl rfl ?_
    refine CW_seq ?_
    refine CW_re [(0, .pointer _), (1, .int _ _), (2, .int _ _), (6, .pointer _), (7, .int _ _)] ⟨rfl, rfl, rfl, rfl, rfl, trivial⟩ (fun g => ?_)
    refine CW_reg rfl ?_
    refine OW_ev (Ev_c (.inr rfl)) rfl ?_
    refine OW_ev (Ev_c (.inr rfl)) rfl ?_
    refine OW_nil ?_
    refine CW_ret ?_
    refine ⟨rfl, _, (.tmp rfl (.tmp rfl .nil)), ?_⟩
    exact ⟨T, .inl ⟨hbad, rfl⟩⟩
  · have d1 := c1
    first | (with_reducible replace d1 := of_decide_eq_false d1) | (with_reducible replace d1 := bnf d1; try (with_reducible replace d1 := of_decide_eq_true d1)) | skip
    refine OW_yes rfl rfl rfl rfl c1 (Ev.stp (Ev_mvi (.inl rfl) rfl) ?_)
    refine OW_yes rfl rfl rfl rfl c1 (Ev.stp (Ev_lss rfl rfl rfl) ?_)
    refine OW_ev (Ev_pickb_f rfl rfl c1 rfl) rfl ?_
    refine OW_ev (Ev_mvb (.inl rfl) rfl) rfl ?_
    refine OW_split (d := .tmp 16) rfl (fun c2 => ?_) (fun c2 => ?_)
    · have d2 := c2
      first | (with_reducible replace d2 := of_decide_eq_true d2) | (with_reducible replace d2 := bnt d2; try (with_reducible replace d2 := of_decide_eq_false d2)) | skip
      have hbad : ¬ inside m s a n := by unfold inside; omega
      refine OW_no rfl rfl rfl rfl c2 ?_
      refine OW_no rfl rfl rfl rfl c2 ?_
      refine OW_no rfl rfl rfl rfl c2 ?_
      refine OW_no rfl rfl rfl rfl c2 ?_
      refine OW_ev (Ev_pickb_t rfl rfl c2 rfl) rfl ?_
      refine OW_ev (Ev_mvb (.inl rfl) rfl) rfl ?_
      refine OW_no rfl rfl rfl rfl rfl ?_
      refine OW_no rfl rfl rfl rfl rfl ?_
      refine OW_no rfl rfl rfl rfl rfl ?_
      refine OW_no rfl rfl rfl rfl rfl ?_
      refine OW_no rfl rfl rfl rfl rfl ?_
      refine OW_no rfl rfl rfl rfl rfl ?_
      refine OW_ev (Ev_pickb_t rfl rfl rfl rfl) rfl ?_
      refine OW_nil ?_
      refine CW_cond_t rfl rfl ?_
      refine CW_seq ?_
      refine CW_re [(0, .pointer _), (1, .int _ _), (2, .int _ _), (6, .pointer _), (7, .int _ _)] ⟨rfl, rfl, rfl, rfl, rfl, trivial⟩ (fun g => ?_)
      refine CW_reg rfl ?_
      refine OW_ev (Ev_c (.inr rfl)) rfl ?_
      refine OW_ev (Ev_c (.inr rfl)) rfl ?_
      refine OW_nil ?_
      refine CW_ret ?_
      refine ⟨rfl, _, (.tmp rfl (.tmp rfl .nil)), ?_⟩
      exact ⟨T, .inl ⟨hbad, rfl⟩⟩
    · have d2 := c2
      first | (with_reducible replace d2 := of_decide_eq_false d2) | (with_reducible replace d2 := bnf d2; try (with_reducible replace d2 := of_decide_eq_true d2)) | skip
      refine OW_yes rfl rfl rfl rfl c2 (Ev.stp (Ev_mvi (.inl rfl) rfl) ?_)
      refine OW_yes rfl rfl rfl rfl c2 (Ev.stp (Ev_mvp (.inl rfl) rfl) ?_)
      refine OW_yes rfl rfl rfl rfl c2 (Stp_call ent_15 rfl rfl rfl (alen_c hA hm hs) ?_)
      rintro _ w3 ⟨E3, rfl⟩
      have Z3 := E3.size
      have hA := hA.keep0 E3
      have T := T.keep0 E3
      refine OW_yes rfl rfl rfl rfl c2 (Ev.stp (Ev_gtr rfl rfl rfl) ?_)
      refine OW_ev (Ev_pickb_f rfl rfl c2 rfl) rfl ?_
      refine OW_ev (Ev_mvb (.inl rfl) rfl) rfl ?_
      refine OW_split (d := .tmp 22) rfl (fun c4 => ?_) (fun c4 => ?_)
      · have d4 := c4
        first | (with_reducible replace d4 := of_decide_eq_true d4) | (with_reducible replace d4 := bnt d4; try (with_reducible replace d4 := of_decide_eq_false d4)) | skip
        have hbad : ¬ inside m s a n := by unfold inside; omega
        refine OW_no rfl rfl rfl rfl c4 ?_
        refine OW_no rfl rfl rfl rfl c4 ?_
        refine OW_no rfl rfl rfl rfl c4 ?_
        refine OW_no rfl rfl rfl rfl c4 ?_
        refine OW_no rfl rfl rfl rfl c4 ?_
        refine OW_no rfl rfl rfl rfl c4 ?_
        refine OW_ev (Ev_pickb_t rfl rfl c4 rfl) rfl ?_
        refine OW_nil ?_
        refine CW_cond_t rfl rfl ?_
        refine CW_seq ?_
        refine CW_re [(0, .pointer _), (1, .int _ _), (2, .int _ _), (6, .pointer _), (7, .int _ _)] ⟨rfl, rfl, rfl, rfl, rfl, trivial⟩ (fun g => ?_)
        refine CW_reg rfl ?_
        refine OW_ev (Ev_c (.inr rfl)) rfl ?_
        refine OW_ev (Ev_c (.inr rfl)) rfl ?_
        refine OW_nil ?_
        refine CW_ret ?_
        refine ⟨rfl, _, (.tmp rfl (.tmp rfl .nil)), ?_⟩
        exact ⟨T, .inl ⟨hbad, rfl⟩⟩
      · have d4 := c4
        first | (with_reducible replace d4 := of_decide_eq_false d4) | (with_reducible replace d4 := bnf d4; try (with_reducible replace d4 := of_decide_eq_true d4)) | skip
        refine OW_yes rfl rfl rfl rfl c4 (Ev.stp (Ev_mvi (.inl rfl) rfl) ?_)
        refine OW_yes rfl rfl rfl rfl c4 (Ev.stp (Ev_mvp (.inl rfl) rfl) ?_)
        refine OW_yes rfl rfl rfl rfl c4 (Stp_call ent_15 rfl rfl rfl (alen_c hA hm hs) ?_)
        rintro _ w5 ⟨E5, rfl⟩
        have Z5 := E5.size
        have hA := hA.keep0 E5
        have T := T.keep0 E5
        refine OW_yes rfl rfl rfl rfl c4 (Ev.stp (Ev_mvi (.inl rfl) rfl) ?_)
        refine OW_yes rfl rfl rfl rfl c4 (Ev.stp (Ev_sub rfl rfl rfl (by apply IntWalk.i64_in; omega)) ?_)
        refine OW_yes rfl rfl rfl rfl c4 (Ev.stp (Ev_gtr rfl rfl rfl) ?_)
        refine OW_ev (Ev_pickb_f rfl rfl c4 rfl) rfl ?_
        refine OW_nil ?_
        refine CW_cond rfl (fun c6 => ?_) (fun c6 => ?_)
        · have d6 := c6
          first | (with_reducible replace d6 := of_decide_eq_true d6) | (with_reducible replace d6 := bnt d6; try (with_reducible replace d6 := of_decide_eq_false d6)) | skip
          have hbad : ¬ inside m s a n := by unfold inside; omega
          refine CW_seq ?_
          refine CW_re [(0, .pointer _), (1, .int _ _), (2, .int _ _), (6, .pointer _), (7, .int _ _)] ⟨rfl, rfl, rfl, rfl, rfl, trivial⟩ (fun g => ?_)
          refine CW_reg rfl ?_
          refine OW_ev (Ev_c (.inr rfl)) rfl ?_
          refine OW_ev (Ev_c (.inr rfl)) rfl ?_
          refine OW_nil ?_
          refine CW_ret ?_
          refine ⟨rfl, _, (.tmp rfl (.tmp rfl .nil)), ?_⟩
          exact ⟨T, .inl ⟨hbad, rfl⟩⟩
        · have d6 := c6
          first | (with_reducible replace d6 := of_decide_eq_false d6) | (with_reducible replace d6 := bnf d6; try (with_reducible replace d6 := of_decide_eq_true d6)) | skip
          have hin : inside m s a n := by unfold inside; omega
          refine CW_skip ?_
          refine CW_seq ?_
          refine CW_re [(0, .pointer _), (1, .int _ _), (2, .int _ _), (6, .pointer _), (7, .int _ _)] ⟨rfl, rfl, rfl, rfl, rfl, trivial⟩ (fun g => ?_)
          refine CW_reg rfl ?_
          refine OW_ev (Ev_mvi (.inl rfl) rfl) rfl ?_
          refine OW_ev (Ev_mvi (.inl rfl) rfl) rfl ?_
          refine OW_ev (Ev_mvi (.inl rfl) rfl) rfl ?_
          refine OW_ev (Ev_add rfl rfl rfl (by apply IntWalk.i64_in; omega)) rfl ?_
          refine OW_ev (Ev_mvp (.inl rfl) rfl) rfl ?_
          refine OW_ev (Ev_nilCheck rfl rfl) rfl ?_
          refine OW_ev (Ev_fieldAddr fld_63_3 rfl rfl) rfl ?_
          refine OW_ev (Ev_load one_3 rfl rfl (hA.ld (q := 3) rfl)) rfl ?_
          refine OW_ev (Ev_build (l := [.int _ _, .int _ _, .int _ _]) plc_93 zero_93 rfl rfl rfl) rfl ?_
          refine OW_st rfl (Stp_box (l := [.int _ _, .int _ _, .int _ _]) rfl rfl rfl ?_)
          intro b7 w7 hb7 hz7 E7 B7
          have L7 : _ ≤ b7 := Nat.le_trans T.size (Nat.le_of_eq hb7.symm)
          have hA := hA.keep0 E7
          have T := T.keep0 E7
          obtain ⟨bs, rfl⟩ : ∃ b, b = b7 := ⟨_, rfl⟩
          have BS := B7
          have hbs : bs < w7.heap.size := by omega
          refine OW_ev (Ev_mvp (.inr rfl) rfl) rfl ?_
          refine OW_ev (Ev_c (.inr rfl)) rfl ?_
          refine OW_nil ?_
          refine CW_ret ?_
          refine ⟨rfl, _, (.tmp rfl (.tmp rfl .nil)), ?_⟩
          exact ⟨T, .inr ⟨hin, bs, rfl, by omega, hbs, BS⟩⟩

/-- The piece of a sector that begins at a: its end, and the cells that tell it. -/
def pEnd (s a e : Nat) : Nat := min s (a % s + e - a)
def nxt (s e a : Nat) : Nat := a + (pEnd s a e - a % s)
def pcs (s e a : Nat) : List Value := [.int .i64 ((a / s : Nat) : Int), .int .i64 ((a % s : Nat) : Int), .int .i64 ((pEnd s a e : Nat) : Int)]
def spC (a e s : Nat) : List Value := [.int .i64 (a : Int), .int .i64 (e : Int), .int .i64 (s : Int)]
theorem pEnd_bd {s a e : Nat} (hs : 0 < s) (ha : a < e) : a % s < pEnd s a e ∧ pEnd s a e ≤ s ∧ pEnd s a e - a % s ≤ e - a := by
  have := Nat.mod_lt a hs
  unfold pEnd; omega
theorem nxt_bd {s a e : Nat} (hs : 0 < s) (ha : a < e) : a < nxt s e a ∧ nxt s e a ≤ e := by
  have := pEnd_bd hs ha
  unfold nxt; omega
theorem nxt_end {s a e : Nat} (hs : 0 < s) (ha : a < e) : nxt s e a = e ∨ nxt s e a % s = 0 := by
  have h1 := Nat.mod_lt a hs
  have h2 := Nat.div_add_mod a s
  unfold nxt pEnd
  by_cases h : s ≤ a % s + e - a
  · right
    rw [Nat.min_eq_left h, show a + (s - a % s) = s * (a / s + 1) by rw [Nat.mul_add]; omega, Nat.mul_mod_right]
  · left
    rw [Nat.min_eq_right (by omega)]; omega

set_option maxRecDepth 10000 in
set_option maxHeartbeats 2000000 in
theorem next_c {w : World} {bs a e s : Nat} (hB : Blk w bs 93 (spC a e s)) (hs0 : 0 < s) (hs1 : s ≤ 1024) (ha : a ≤ 4194304) (he : e ≤ 4194304) : Calls Try.prog 28 #[.pointer (some ⟨bs, 0, none⟩)] w (Ret fun v w' => Kp (fun b => b = bs) w w' ∧ ((a < e ∧ v = .tuple #[.agg (pcs s e a).toArray, .bool true] ∧ Blk w' bs 93 (spC (nxt s e a) e s)) ∨ (¬ a < e ∧ v = .tuple #[.agg #[.int .i64 0, .int .i64 0, .int .i64 0], .bool false] ∧ Blk w' bs 93 (spC a e s)))) := by
  have hbl := hB.lt
  have hB : Blk w bs 93 [.int .i64 (a : Int), .int .i64 (e : Int), .int .i64 (s : Int)] := hB
  have T : Kp (fun b => b = bs) w w := Kp.refl _ _
  refine calls_start Try.func28 rfl (n := 65) rfl rfl rfl ?_
  refine CW_seq ?_
  refine CW_reg rfl ?_
  refine OW_st rfl (Stp_alloc zero_71 rfl ?_)
  intro b1 w1 hb1 hz1 E1 B1
  have L1 : _ ≤ b1 := Nat.le_trans T.size (Nat.le_of_eq hb1.symm)
  have hB := hB.keep0 E1
  have T := T.keep0 E1
  refine OW_ev (Ev_c (.inr rfl)) rfl ?_
  refine OW_nil ?_
  refine CW_seq ?_
  refine CW_seq ?_
  refine CW_draw (fun W => hB.here W ∧ B1.here W) mixed rfl (fun _ _ _ h => nomatch h.1) ?_
  have E2 : Kp0 _ _ := Kp.drew w1 nob
  have Z2 : (World.drew w1).heap.size = w1.heap.size := rfl
  generalize World.drew w1 = w2 at E2 Z2 ⊢
  have hB := hB.keep0 E2
  have T := T.keep0 E2
  have B1 := B1.keep0 E2
  refine AW_take 0 rfl rfl (by decide +kernel) (by decide +kernel) (by decide +kernel) (fun w ⟨hB, B1⟩ => Ev_mvp (.inl rfl) rfl) ⟨hB, B1⟩ ?_
  refine AW_take 1 rfl rfl (by decide +kernel) (by decide +kernel) (by decide +kernel) (fun w ⟨hB, B1⟩ => Ev_nilCheck rfl rfl) ⟨hB, B1⟩ ?_
  refine AW_take 2 rfl rfl (by decide +kernel) (by decide +kernel) (by decide +kernel) (fun w ⟨hB, B1⟩ => Ev_fieldAddr fld_93_0 rfl rfl) ⟨hB, B1⟩ ?_
  refine AW_take 3 rfl rfl (by decide +kernel) (by decide +kernel) (by decide +kernel) (fun w ⟨hB, B1⟩ => Ev_load one_3 rfl rfl (hB.ld (q := 0) rfl)) ⟨hB, B1⟩ ?_
  refine AW_take 4 rfl rfl (by decide +kernel) (by decide +kernel) (by decide +kernel) (fun w ⟨hB, B1⟩ => Ev_mvp (.inl rfl) rfl) ⟨hB, B1⟩ ?_
  refine AW_take 5 rfl rfl (by decide +kernel) (by decide +kernel) (by decide +kernel) (fun w ⟨hB, B1⟩ => Ev_nilCheck rfl rfl) ⟨hB, B1⟩ ?_
  refine AW_take 6 rfl rfl (by decide +kernel) (by decide +kernel) (by decide +kernel) (fun w ⟨hB, B1⟩ => Ev_fieldAddr fld_93_1 rfl rfl) ⟨hB, B1⟩ ?_
  refine AW_take 7 rfl rfl (by decide +kernel) (by decide +kernel) (by decide +kernel) (fun w ⟨hB, B1⟩ => Ev_load one_3 rfl rfl (hB.ld (q := 1) rfl)) ⟨hB, B1⟩ ?_
  refine AW_take 8 rfl rfl (by decide +kernel) (by decide +kernel) (by decide +kernel) (fun w ⟨hB, B1⟩ => Ev_geq rfl rfl rfl) ⟨hB, B1⟩ ?_
  refine AW_done (by decide +kernel) ?_
  refine CW_cond rfl (fun c3 => ?_) (fun c3 => ?_)
  · have d3 := c3
    first | (with_reducible replace d3 := of_decide_eq_true d3) | (with_reducible replace d3 := bnt d3; try (with_reducible replace d3 := of_decide_eq_false d3)) | skip
    have hge : ¬ a < e := by omega
    refine CW_seq ?_
    refine CW_reg rfl ?_
    refine OW_ev (Ev_build (l := [.int _ _, .int _ _, .int _ _]) plc_71 zero_71 rfl rfl rfl) rfl ?_
    refine OW_st rfl (Stp_store (q := 0) (vs := [.int _ _, .int _ _, .int _ _]) B1 siz_71 rfl rfl rfl rfl (Nat.le_of_ble_eq_true rfl) rfl ?_)
    intro w4 hz4 E4 B4
    have Z4 := E4.size
    have hB := hB.keepb E4 (by intro h; first | omega | (change _ < _ at h; omega) | (change _ ≤ _ at h; omega) | (have h1 := h.1; have h2 := h.2; first | omega | (change _ ≤ _ at h1; omega) | (change _ < _ at h1; omega)))
    have T := T.transb E4 (by omega)
    clear B1
    have B1 : Blk _ _ _ [_, _, _] := B4
    clear B4
    refine OW_ev (Ev_c (.inr rfl)) rfl ?_
    refine OW_nil ?_
    refine CW_ret ?_
    refine ⟨rfl, _, (.cell rfl (ld_agg agg_71 (B1.sub 0 3 (Nat.le_of_ble_eq_true rfl)) rfl) (.tmp rfl .nil)), ?_⟩
    first | exact ⟨T, .inr ⟨hge, rfl, hB⟩⟩ | exact ⟨T, .inl ⟨hlt, hB⟩⟩
  · have d3 := c3
    first | (with_reducible replace d3 := of_decide_eq_false d3) | (with_reducible replace d3 := bnf d3; try (with_reducible replace d3 := of_decide_eq_true d3)) | skip
    have hlt : a < e := by omega
    have hpb := pEnd_bd (e := e) hs0 hlt
    have hmd := Nat.mod_lt a hs0
    refine CW_skip ?_
    refine CW_seq ?_
    refine CW_draw (fun W => hB.here W ∧ B1.here W) mixed rfl (fun _ _ _ h => nomatch h.1) ?_
    have E5 : Kp0 _ _ := Kp.drew w2 nob
    have Z5 : (World.drew w2).heap.size = w2.heap.size := rfl
    generalize World.drew w2 = w5 at E5 Z5 ⊢
    have hB := hB.keep0 E5
    have T := T.keep0 E5
    have B1 := B1.keep0 E5
    refine AW_take 0 rfl rfl (by decide +kernel) (by decide +kernel) (by decide +kernel) (fun w ⟨hB, B1⟩ => Ev_mvp (.inl rfl) rfl) ⟨hB, B1⟩ ?_
    refine AW_take 1 rfl rfl (by decide +kernel) (by decide +kernel) (by decide +kernel) (fun w ⟨hB, B1⟩ => Ev_nilCheck rfl rfl) ⟨hB, B1⟩ ?_
    refine AW_take 2 rfl rfl (by decide +kernel) (by decide +kernel) (by decide +kernel) (fun w ⟨hB, B1⟩ => Ev_fieldAddr fld_93_0 rfl rfl) ⟨hB, B1⟩ ?_
    refine AW_take 3 rfl rfl (by decide +kernel) (by decide +kernel) (by decide +kernel) (fun w ⟨hB, B1⟩ => Ev_load one_3 rfl rfl (hB.ld (q := 0) rfl)) ⟨hB, B1⟩ ?_
    refine AW_take 4 rfl rfl (by decide +kernel) (by decide +kernel) (by decide +kernel) (fun w ⟨hB, B1⟩ => Ev_mvp (.inl rfl) rfl) ⟨hB, B1⟩ ?_
    refine AW_take 5 rfl rfl (by decide +kernel) (by decide +kernel) (by decide +kernel) (fun w ⟨hB, B1⟩ => Ev_nilCheck rfl rfl) ⟨hB, B1⟩ ?_
    refine AW_take 6 rfl rfl (by decide +kernel) (by decide +kernel) (by decide +kernel) (fun w ⟨hB, B1⟩ => Ev_fieldAddr fld_93_2 rfl rfl) ⟨hB, B1⟩ ?_
    refine AW_take 7 rfl rfl (by decide +kernel) (by decide +kernel) (by decide +kernel) (fun w ⟨hB, B1⟩ => Ev_load one_3 rfl rfl (hB.ld (q := 2) rfl)) ⟨hB, B1⟩ ?_
    refine AW_take 8 rfl rfl (by decide +kernel) (by decide +kernel) (by decide +kernel) (fun w ⟨hB, B1⟩ => Ev_quo rfl rfl rfl (by omega) (by omega) (by apply IntWalk.i64_in; have h1 := Int.ediv_le_self (s : Int) (show (0 : Int) ≤ (a : Int) by omega); have h2 := Int.ediv_nonneg (show (0 : Int) ≤ (a : Int) by omega) (show (0 : Int) ≤ (s : Int) by omega); omega)) ⟨hB, B1⟩ ?_
    refine AW_take 9 rfl rfl (by decide +kernel) (by decide +kernel) (by decide +kernel) (fun w ⟨hB, B1⟩ => Ev_mvp (.inl rfl) rfl) ⟨hB, B1⟩ ?_
    refine AW_take 10 rfl rfl (by decide +kernel) (by decide +kernel) (by decide +kernel) (fun w ⟨hB, B1⟩ => Ev_nilCheck rfl rfl) ⟨hB, B1⟩ ?_
    refine AW_take 11 rfl rfl (by decide +kernel) (by decide +kernel) (by decide +kernel) (fun w ⟨hB, B1⟩ => Ev_fieldAddr fld_93_0 rfl rfl) ⟨hB, B1⟩ ?_
    refine AW_take 12 rfl rfl (by decide +kernel) (by decide +kernel) (by decide +kernel) (fun w ⟨hB, B1⟩ => Ev_load one_3 rfl rfl (hB.ld (q := 0) rfl)) ⟨hB, B1⟩ ?_
    refine AW_take 13 rfl rfl (by decide +kernel) (by decide +kernel) (by decide +kernel) (fun w ⟨hB, B1⟩ => Ev_mvp (.inl rfl) rfl) ⟨hB, B1⟩ ?_
    refine AW_take 14 rfl rfl (by decide +kernel) (by decide +kernel) (by decide +kernel) (fun w ⟨hB, B1⟩ => Ev_nilCheck rfl rfl) ⟨hB, B1⟩ ?_
    refine AW_take 15 rfl rfl (by decide +kernel) (by decide +kernel) (by decide +kernel) (fun w ⟨hB, B1⟩ => Ev_fieldAddr fld_93_2 rfl rfl) ⟨hB, B1⟩ ?_
    refine AW_take 16 rfl rfl (by decide +kernel) (by decide +kernel) (by decide +kernel) (fun w ⟨hB, B1⟩ => Ev_load one_3 rfl rfl (hB.ld (q := 2) rfl)) ⟨hB, B1⟩ ?_
    refine AW_take 17 rfl rfl (by decide +kernel) (by decide +kernel) (by decide +kernel) (fun w ⟨hB, B1⟩ => Ev_rem rfl rfl rfl (by omega) (by omega)) ⟨hB, B1⟩ ?_
    refine AW_take 18 rfl rfl (by decide +kernel) (by decide +kernel) (by decide +kernel) (fun w ⟨hB, B1⟩ => Ev_build (l := [.int _ _, .int _ _, .int _ _]) plc_71 zero_71 rfl rfl rfl) ⟨hB, B1⟩ ?_
    refine AW_one 19 (by decide +kernel) (Next.mk rfl rfl ?_)
    refine Stp_alloc zero_71 rfl ?_
    intro b6 w6 hb6 hz6 E6 B6
    have L6 : _ ≤ b6 := Nat.le_trans T.size (Nat.le_of_eq hb6.symm)
    have hB := hB.keep0 E6
    have T := T.keep0 E6
    have B1 := B1.keep0 E6
    refine ⟨⟨hB, B1⟩, ?_⟩
    refine AW_one 20 (by decide +kernel) (Next.mk rfl rfl ?_)
    refine Stp_store (q := 0) (vs := [.int _ _, .int _ _, .int _ _]) B6 siz_71 rfl rfl rfl rfl (Nat.le_of_ble_eq_true rfl) rfl ?_
    intro w7 hz7 E7 B7
    have Z7 := E7.size
    have hB := hB.keepb E7 (by intro h; first | omega | (change _ < _ at h; omega) | (change _ ≤ _ at h; omega) | (have h1 := h.1; have h2 := h.2; first | omega | (change _ ≤ _ at h1; omega) | (change _ < _ at h1; omega)))
    have T := T.transb E7 (by omega)
    have B1 := B1.keepb E7 (by intro h; first | omega | (change _ < _ at h; omega) | (change _ ≤ _ at h; omega) | (have h1 := h.1; have h2 := h.2; first | omega | (change _ ≤ _ at h1; omega) | (change _ < _ at h1; omega)))
    clear B6
    have B6 : Blk _ _ _ [_, _, _] := B7
    clear B7
    refine ⟨⟨hB, B1⟩, ?_⟩
    refine AW_done (by decide +kernel) ?_
    refine CW_seq ?_
    refine CW_re [(0, .pointer _), (2, .pointer _), (3, .bool _), (4, .pointer _)] ⟨rfl, rfl, rfl, rfl, trivial⟩ (fun g => ?_)
    refine CW_draw (fun W => hB.here W ∧ B1.here W) mixed rfl (fun _ _ _ h => nomatch h.1) ?_
    have E8 : Kp0 _ _ := Kp.drew w7 nob
    have Z8 : (World.drew w7).heap.size = w7.heap.size := rfl
    generalize World.drew w7 = w8 at E8 Z8 ⊢
    have hB := hB.keep0 E8
    have T := T.keep0 E8
    have B1 := B1.keep0 E8
    have B6 := B6.keep0 E8
    refine AW_take 0 rfl rfl (by decide +kernel) (by decide +kernel) (by decide +kernel) (fun w ⟨hB, B1⟩ => Ev_mvp (.inl rfl) rfl) ⟨hB, B1⟩ ?_
    refine AW_take 1 rfl rfl (by decide +kernel) (by decide +kernel) (by decide +kernel) (fun w ⟨hB, B1⟩ => Ev_nilCheck rfl rfl) ⟨hB, B1⟩ ?_
    refine AW_take 2 rfl rfl (by decide +kernel) (by decide +kernel) (by decide +kernel) (fun w ⟨hB, B1⟩ => Ev_fieldAddr fld_93_2 rfl rfl) ⟨hB, B1⟩ ?_
    refine AW_take 3 rfl rfl (by decide +kernel) (by decide +kernel) (by decide +kernel) (fun w ⟨hB, B1⟩ => Ev_load one_3 rfl rfl (hB.ld (q := 2) rfl)) ⟨hB, B1⟩ ?_
    refine AW_take 4 rfl rfl (by decide +kernel) (by decide +kernel) (by decide +kernel) (fun w ⟨hB, B1⟩ => Ev_fieldAddr fld_71_1 rfl rfl) ⟨hB, B1⟩ ?_
    refine AW_take 6 rfl rfl (by decide +kernel) (by decide +kernel) (by decide +kernel) (fun w ⟨hB, B1⟩ => Ev_mvp (.inl rfl) rfl) ⟨hB, B1⟩ ?_
    refine AW_take 7 rfl rfl (by decide +kernel) (by decide +kernel) (by decide +kernel) (fun w ⟨hB, B1⟩ => Ev_nilCheck rfl rfl) ⟨hB, B1⟩ ?_
    refine AW_take 8 rfl rfl (by decide +kernel) (by decide +kernel) (by decide +kernel) (fun w ⟨hB, B1⟩ => Ev_fieldAddr fld_93_1 rfl rfl) ⟨hB, B1⟩ ?_
    refine AW_take 9 rfl rfl (by decide +kernel) (by decide +kernel) (by decide +kernel) (fun w ⟨hB, B1⟩ => Ev_load one_3 rfl rfl (hB.ld (q := 1) rfl)) ⟨hB, B1⟩ ?_
    refine AW_take 11 rfl rfl (by decide +kernel) (by decide +kernel) (by decide +kernel) (fun w ⟨hB, B1⟩ => Ev_mvp (.inl rfl) rfl) ⟨hB, B1⟩ ?_
    refine AW_take 12 rfl rfl (by decide +kernel) (by decide +kernel) (by decide +kernel) (fun w ⟨hB, B1⟩ => Ev_nilCheck rfl rfl) ⟨hB, B1⟩ ?_
    refine AW_take 13 rfl rfl (by decide +kernel) (by decide +kernel) (by decide +kernel) (fun w ⟨hB, B1⟩ => Ev_fieldAddr fld_93_0 rfl rfl) ⟨hB, B1⟩ ?_
    refine AW_take 14 rfl rfl (by decide +kernel) (by decide +kernel) (by decide +kernel) (fun w ⟨hB, B1⟩ => Ev_load one_3 rfl rfl (hB.ld (q := 0) rfl)) ⟨hB, B1⟩ ?_
    refine AW_one 5 (by decide +kernel) (Next.mk rfl rfl ?_)
    refine Ev.stp (Ev_load one_3 rfl rfl (B6.ld (q := 1) rfl)) ?_
    refine ⟨⟨hB, B1⟩, ?_⟩
    refine AW_take 10 rfl rfl (by decide +kernel) (by decide +kernel) (by decide +kernel) (fun w ⟨hB, B1⟩ => Ev_add rfl rfl rfl (by first | (apply IntWalk.i64_in; omega) | (apply IntWalk.u64_in; omega) | (apply IntWalk.u32_in; omega) | (apply IntWalk.u8_in; omega) | (apply IntWalk.i32_in; omega) | rfl)) ⟨hB, B1⟩ ?_
    refine AW_take 15 rfl rfl (by decide +kernel) (by decide +kernel) (by decide +kernel) (fun w ⟨hB, B1⟩ => Ev_sub rfl rfl rfl (by first | (apply IntWalk.i64_in; omega) | (apply IntWalk.u64_in; omega) | (apply IntWalk.u32_in; omega) | (apply IntWalk.u8_in; omega) | (apply IntWalk.i32_in; omega) | rfl)) ⟨hB, B1⟩ ?_
    refine AW_take 16 rfl rfl (by decide +kernel) (by decide +kernel) (by decide +kernel) (fun w ⟨hB, B1⟩ => Ev_min2 rfl rfl rfl) ⟨hB, B1⟩ ?_
    refine AW_take 17 rfl rfl (by decide +kernel) (by decide +kernel) (by decide +kernel) (fun w ⟨hB, B1⟩ => Ev_fieldAddr fld_71_2 rfl rfl) ⟨hB, B1⟩ ?_
    refine AW_one 18 (by decide +kernel) (Next.mk rfl rfl ?_)
    refine Stp_store (q := 2) (vs := [.int _ _]) B6 siz_3 rfl rfl rfl rfl (Nat.le_of_ble_eq_true rfl) rfl ?_
    intro w9 hz9 E9 B9
    have Z9 := E9.size
    have hB := hB.keepb E9 (by intro h; first | omega | (change _ < _ at h; omega) | (change _ ≤ _ at h; omega) | (have h1 := h.1; have h2 := h.2; first | omega | (change _ ≤ _ at h1; omega) | (change _ < _ at h1; omega)))
    have T := T.transb E9 (by omega)
    have B1 := B1.keepb E9 (by intro h; first | omega | (change _ < _ at h; omega) | (change _ ≤ _ at h; omega) | (have h1 := h.1; have h2 := h.2; first | omega | (change _ ≤ _ at h1; omega) | (change _ < _ at h1; omega)))
    clear B6
    have B6 : Blk _ _ _ [_, _, _] := B9
    clear B9
    refine ⟨⟨hB, B1⟩, ?_⟩
    refine AW_done (by decide +kernel) ?_
    refine CW_seq ?_
    refine CW_re [(0, .pointer _), (2, .pointer _), (3, .bool _), (4, .pointer _)] ⟨rfl, rfl, rfl, rfl, trivial⟩ (fun g => ?_)
    refine CW_draw (fun W => B1.here W ∧ B6.here W) mixed rfl (fun _ _ _ h => nomatch h.1) ?_
    have E10 : Kp0 _ _ := Kp.drew w9 nob
    have Z10 : (World.drew w9).heap.size = w9.heap.size := rfl
    generalize World.drew w9 = w10 at E10 Z10 ⊢
    have hB := hB.keep0 E10
    have T := T.keep0 E10
    have B1 := B1.keep0 E10
    have B6 := B6.keep0 E10
    refine AW_take 0 rfl rfl (by decide +kernel) (by decide +kernel) (by decide +kernel) (fun w ⟨B1, B6⟩ => Ev_mvp (.inl rfl) rfl) ⟨B1, B6⟩ ?_
    refine AW_take 1 rfl rfl (by decide +kernel) (by decide +kernel) (by decide +kernel) (fun w ⟨B1, B6⟩ => Ev_nilCheck rfl rfl) ⟨B1, B6⟩ ?_
    refine AW_take 2 rfl rfl (by decide +kernel) (by decide +kernel) (by decide +kernel) (fun w ⟨B1, B6⟩ => Ev_fieldAddr fld_93_0 rfl rfl) ⟨B1, B6⟩ ?_
    refine AW_take 4 rfl rfl (by decide +kernel) (by decide +kernel) (by decide +kernel) (fun w ⟨B1, B6⟩ => Ev_fieldAddr fld_71_2 rfl rfl) ⟨B1, B6⟩ ?_
    refine AW_take 5 rfl rfl (by decide +kernel) (by decide +kernel) (by decide +kernel) (fun w ⟨B1, B6⟩ => Ev_load one_3 rfl rfl (B6.ld (q := 2) rfl)) ⟨B1, B6⟩ ?_
    refine AW_take 6 rfl rfl (by decide +kernel) (by decide +kernel) (by decide +kernel) (fun w ⟨B1, B6⟩ => Ev_fieldAddr fld_71_1 rfl rfl) ⟨B1, B6⟩ ?_
    refine AW_take 7 rfl rfl (by decide +kernel) (by decide +kernel) (by decide +kernel) (fun w ⟨B1, B6⟩ => Ev_load one_3 rfl rfl (B6.ld (q := 1) rfl)) ⟨B1, B6⟩ ?_
    refine AW_take 8 rfl rfl (by decide +kernel) (by decide +kernel) (by decide +kernel) (fun w ⟨B1, B6⟩ => Ev_sub rfl rfl rfl (by first | (apply IntWalk.i64_in; omega) | (apply IntWalk.u64_in; omega) | (apply IntWalk.u32_in; omega) | (apply IntWalk.u8_in; omega) | (apply IntWalk.i32_in; omega) | rfl)) ⟨B1, B6⟩ ?_
    refine AW_one 3 (by decide +kernel) (Next.mk rfl rfl ?_)
    refine Ev.stp (Ev_load one_3 rfl rfl (hB.ld (q := 0) rfl)) ?_
    refine ⟨⟨B1, B6⟩, ?_⟩
    refine AW_take 9 rfl rfl (by decide +kernel) (by decide +kernel) (by decide +kernel) (fun w ⟨B1, B6⟩ => Ev_add rfl rfl rfl (by first | (apply IntWalk.i64_in; omega) | (apply IntWalk.u64_in; omega) | (apply IntWalk.u32_in; omega) | (apply IntWalk.u8_in; omega) | (apply IntWalk.i32_in; omega) | rfl)) ⟨B1, B6⟩ ?_
    refine AW_take 10 rfl rfl (by decide +kernel) (by decide +kernel) (by decide +kernel) (fun w ⟨B1, B6⟩ => Ev_nilCheck rfl rfl) ⟨B1, B6⟩ ?_
    refine AW_take 11 rfl rfl (by decide +kernel) (by decide +kernel) (by decide +kernel) (fun w ⟨B1, B6⟩ => Ev_fieldAddr fld_93_0 rfl rfl) ⟨B1, B6⟩ ?_
    refine AW_one 12 (by decide +kernel) (Next.mk rfl rfl ?_)
    refine Stp_store (q := 0) hB siz_3 rfl rfl rfl rfl (Nat.le_of_ble_eq_true rfl) rfl ?_
    intro w11 hz11 E11 B11
    have Z11 := E11.size
    have T := T.trans' E11 (fun i _ h => h)
    have B1 := B1.keepb E11 (by intro h; first | omega | (change _ < _ at h; omega) | (change _ ≤ _ at h; omega) | (have h1 := h.1; have h2 := h.2; first | omega | (change _ ≤ _ at h1; omega) | (change _ < _ at h1; omega)))
    have B6 := B6.keepb E11 (by intro h; first | omega | (change _ < _ at h; omega) | (change _ ≤ _ at h; omega) | (have h1 := h.1; have h2 := h.2; first | omega | (change _ ≤ _ at h1; omega) | (change _ < _ at h1; omega)))
    clear hB
    have hB := B11
    clear B11
    have hB : Blk w11 bs 93 (spC (nxt s e a) e s) := by
      have e1 : ((nxt s e a : Nat) : Int) = (a : Int) + (min (s : Int) ((a : Int) % (s : Int) + (e : Int) - (a : Int)) - (a : Int) % (s : Int)) := by unfold nxt pEnd at *; omega
      unfold spC; rw [e1]; exact hB
    refine ⟨⟨B1, B6⟩, ?_⟩
    refine AW_done (by decide +kernel) ?_
    refine CW_seq ?_
    refine CW_reg rfl ?_
    refine OW_ev (Ev_loadAgg (l := [.int _ _, .int _ _, .int _ _]) agg_71 rfl rfl (B6.sub 0 3 (Nat.le_of_ble_eq_true rfl)) rfl) rfl ?_
    refine OW_st rfl (Stp_store (q := 0) (vs := [.int _ _, .int _ _, .int _ _]) B1 siz_71 rfl rfl rfl rfl (Nat.le_of_ble_eq_true rfl) rfl ?_)
    intro w12 hz12 E12 B12
    have Z12 := E12.size
    have hB := hB.keepb E12 (by intro h; first | omega | (change _ < _ at h; omega) | (change _ ≤ _ at h; omega) | (have h1 := h.1; have h2 := h.2; first | omega | (change _ ≤ _ at h1; omega) | (change _ < _ at h1; omega)))
    have T := T.transb E12 (by omega)
    have B6 := B6.keepb E12 (by intro h; first | omega | (change _ < _ at h; omega) | (change _ ≤ _ at h; omega) | (have h1 := h.1; have h2 := h.2; first | omega | (change _ ≤ _ at h1; omega) | (change _ < _ at h1; omega)))
    clear B1
    have B1 : Blk _ _ _ [_, _, _] := B12
    clear B12
    refine OW_ev (Ev_c (.inr rfl)) rfl ?_
    refine OW_nil ?_
    refine CW_ret ?_
    refine ⟨rfl, _, (.cell rfl (ld_agg agg_71 (B1.sub 0 3 (Nat.le_of_ble_eq_true rfl)) rfl) (.tmp rfl .nil)), ?_⟩
    refine ⟨T, .inl ⟨hlt, ?_, hB⟩⟩
    have e1 : ((pEnd s a e : Nat) : Int) = min (s : Int) ((a : Int) % (s : Int) + (e : Int) - (a : Int)) := by unfold pEnd at *; omega
    unfold pcs; rw [e1]; rfl

end Go.Proofs.Ythfelkjklnhdiaa