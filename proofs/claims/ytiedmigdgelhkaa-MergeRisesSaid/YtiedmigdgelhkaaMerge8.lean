/- The law MergeRises: what is drained rises, and is told or counted. -/
import Derived.Test.YtiedmigdgelhkaaTypes
import Derived.Test.YtiedmigdgelhkaaRises
import Derived.Test.YtiedmigdgelhkaaIntRow
namespace Go.Proofs.Ytiedmigdgelhkaa
open Go Go.RowKit Bx Go.Proofs

theorem _root_.Bx.LI.more {n : Nat} {lo hi : Int} {l : List Rg} (h : LI n lo hi l) : LI n lo (hi + 1) l :=
  ⟨h.len, fun i r hr => ⟨(h.ri i r hr).is, fun x hx => by have hX := (h.ri i r hr).all x hx; exact ⟨hX.lb, by have := hX.ub; omega, hX.part, hX.a0, by have := hX.a1; omega⟩, (h.ri i r hr).up⟩, h.ne⟩
theorem rise_lt {hi : Int} : ∀ {xs : List Ent} {lo lo' : Int}, Rise lo xs lo' → lo < hi → (∀ x ∈ xs, x.stamp < hi) → lo' < hi
  | [], _, _, h, hl, _ => by cases h; exact hl
  | x :: _, _, _, h, _, hx => rise_lt h.2 (hx x (List.mem_cons_self ..)) fun y hy => hx y (List.mem_cons_of_mem _ hy)
theorem _root_.Bx.RgsS.keepo {F : Nat → Prop} {w w' : World} {ao : Option Addr} {ms : List RgM} {B : Nat} {u : Value} (h : RgsS F w ao ms) (k : Kp (fun b => u.ownBlock = some b ∧ B ≤ b) w w') (hn : ∀ b, F b → b < w.heap.size → u.ownBlock = some b → ¬ B ≤ b) : RgsS F w' ao ms :=
  ⟨h.1.keepo k hn, fun m hm => ⟨(h.2 m hm).1, (h.2 m hm).2.1, (h.2 m hm).2.2.keepo k hn⟩⟩
theorem drop_get {α : Type} {xs : List α} {j : Nat} {x : α} (h : xs[j]? = some x) : xs.drop j = x :: xs.drop (j + 1) := by
  obtain ⟨h1, h2⟩ := List.getElem?_eq_some_iff.1 h
  rw [List.drop_eq_getElem_cons h1, h2]

set_option maxRecDepth 10000 in
set_option maxHeartbeats 2000000 in
theorem rises_c {F G : Nat → Prop} {w : World} {ao bo : Option Addr} {c d n m : Nat} {rooms : List Int} {row : List (Int × Int)} (hn : rooms.length = n) (hm : row.length = m) (hx : Sl F w 1 ao (rooms.map I1)) (hy : Sl G w 2 bo (row.map I2)) : Calls Try.prog 3 #[.slice ao n c, .slice bo m d] w (Ret fun v w' => Kp0 w w' ∧ v = .bool (true)) := by
  have hx := hx.old
  have hy := hy.old
  have T : Kp0 w w := Kp.refl _ _
  refine calls_start Try.func3 rfl (n := 241) rfl rfl rfl ?_
  refine CW_seq ?_
  refine CW_reg rfl ?_
  refine OW_ev (Ev_c (.inr rfl)) rfl ?_
  refine OW_nil ?_
  refine CW_seq ?_
  refine CW_reg rfl ?_
  refine OW_ev (Ev_c (.inr rfl)) rfl ?_
  refine OW_nil ?_
  refine CW_seq ?_
  refine CW_seq ?_
  refine CW_reg rfl ?_
  refine OW_ev (Ev_c (.inr rfl)) rfl ?_
  refine OW_nil ?_
  refine CW_join (fun f w0 => ∃ (ms : List RgM) (a : Option Addr) (q : Nat) (nr : Nat), AllEq f [(1, .slice bo m d), (5, .slice a nr q)] ∧ (nr ≤ 9) ∧ (ms.length = nr) ∧ (∀ y ∈ ms, ∃ r : Int, y = ⟨⟨r, [], Ent.zero⟩, none, 0⟩ ∧ 2 ≤ r ∧ r ≤ 64) ∧ (Own w.heap.size w0 33 9 (.slice a nr q) (ms.map RgM.cl)) ∧ (Kp0 w w0)) ?_ ?_
  ·
    refine CW_block ?_
    refine CW_loop (α := Nat) (fun (k : Nat) f wr => ∃ (ms : List RgM) (a : Option Addr) (q : Nat), AllEq f [(0, .slice ao n c), (1, .slice bo m d), (5, .slice a k q), (6, .int .i64 (k : Int))] ∧ (k ≤ 9) ∧ (k ≤ n) ∧ (ms.length = k) ∧ (∀ y ∈ ms, ∃ r : Int, y = ⟨⟨r, [], Ent.zero⟩, none, 0⟩ ∧ 2 ≤ r ∧ r ≤ 64) ∧ (Own w.heap.size wr 33 9 (.slice a k q) (ms.map RgM.cl)) ∧ (Kp0 w wr)) (fun k => n - k) 0 ?_ ?_
    ·
      exact ⟨[], none, 0, ⟨rfl, rfl, rfl, rfl, trivial⟩, by omega, by omega, rfl, fun y h => (nomatch h), Own.none_ _ _ _ _ _, T⟩
    ·
      rintro k f wr ⟨ms, a, q, hf, hk9, hkn, hml, hfresh, O, T⟩
      obtain ⟨g, rfl⟩ : ∃ g, f = upl g [(0, .slice ao n c), (1, .slice bo m d), (5, .slice a k q), (6, .int .i64 (k : Int))] := ⟨f, upl_self hf⟩
      clear hf
      have hx := hx.keep0 T
      refine CW_seq ?_
      refine CW_seq ?_
      refine CW_reg rfl ?_
      refine OW_ev (Ev_mvi (.inl rfl) rfl) rfl ?_
      refine OW_ev (Ev_mvs (.inl rfl) rfl) rfl ?_
      refine OW_ev (Ev_len und_22 rfl rfl) rfl ?_
      refine OW_ev (Ev_lss rfl rfl rfl) rfl ?_
      refine OW_ev (Ev_mvb (.inl rfl) rfl) rfl ?_
      refine OW_split (d := .tmp 23) rfl (fun c1 => ?_) (fun c1 => ?_)
      · have d1 := c1
        first | (with_reducible replace d1 := of_decide_eq_true d1) | (with_reducible replace d1 := bnt d1; try (with_reducible replace d1 := of_decide_eq_false d1)) | skip
        have hkn2 : k < n := by omega
        obtain ⟨rm, hrm, hgx⟩ := get1 (rooms := rooms) (k := k) (by omega)
        have K := hx.at_ hgx
        refine OW_yes rfl rfl rfl rfl c1 (Ev.stp (Ev_mvi (.inl rfl) rfl) ?_)
        refine OW_yes rfl rfl rfl rfl c1 (Ev.stp (Ev_lss rfl rfl rfl) ?_)
        refine OW_ev (Ev_pickb_t rfl rfl c1 rfl) rfl ?_
        refine OW_nil ?_
        refine CW_cond rfl (fun c2 => ?_) (fun c2 => ?_)
        · have d2 := c2
          first | (with_reducible replace d2 := of_decide_eq_true d2) | (with_reducible replace d2 := bnt d2; try (with_reducible replace d2 := of_decide_eq_false d2)) | skip
          refine CW_skip ?_
          refine CW_seq ?_
          refine CW_block ?_
          refine CW_seq ?_
          refine CW_seq ?_
          refine CW_reg rfl ?_
          refine OW_ev (Ev_mvs (.inl rfl) rfl) rfl ?_
          refine OW_ev (Ev_mvi (.inl rfl) rfl) rfl ?_
          refine OW_ev (Ev_idx k (hx.ad hgx) sl_22 rfl rfl rfl rfl (by omega)) rfl ?_
          refine OW_ev (Ev_load one_3 rfl rfl (K.one 0 rfl)) rfl ?_
          refine OW_ev (Ev_lss rfl rfl rfl) rfl ?_
          refine OW_ev (Ev_mvb (.inl rfl) rfl) rfl ?_
          refine OW_split (d := .tmp 34) rfl (fun c3 => ?_) (fun c3 => ?_)
          · have d3 := c3
            first | (with_reducible replace d3 := of_decide_eq_true d3) | (with_reducible replace d3 := bnt d3; try (with_reducible replace d3 := of_decide_eq_false d3)) | skip
            refine OW_no rfl rfl rfl rfl c3 ?_
            refine OW_no rfl rfl rfl rfl c3 ?_
            refine OW_no rfl rfl rfl rfl c3 ?_
            refine OW_no rfl rfl rfl rfl c3 ?_
            refine OW_no rfl rfl rfl rfl c3 ?_
            refine OW_ev (Ev_pickb_t rfl rfl c3 rfl) rfl ?_
            refine OW_nil ?_
            refine CW_cond_t rfl rfl ?_
            refine CW_seq ?_
            refine CW_reg rfl ?_
            refine OW_st rfl (Stp_call ent_6 rfl rfl rfl (merged_c _) ?_)
            rintro _ w4 ⟨E4, rfl⟩
            have Z4 := E4.size
            have T := T.keep0 E4
            have hx := hx.keep0 E4
            have O := O.keep0 E4
            have K := K.keep0 E4
            refine OW_ev (Ev_mvb (.inr rfl) rfl) rfl ?_
            refine OW_nil ?_
            refine CW_ret ?_
            refine blk_ret ?_
            refine blk_ret ?_
            refine ⟨rfl, _, (.tmp rfl .nil), ?_⟩
            first | exact ⟨T, vb rfl (decide_eq_true (by rw [hL.held, hend him1]; rfl))⟩ | exact ⟨T, rfl⟩
          · have d3 := c3
            first | (with_reducible replace d3 := of_decide_eq_false d3) | (with_reducible replace d3 := bnf d3; try (with_reducible replace d3 := of_decide_eq_true d3)) | skip
            have hr2 : 2 ≤ rm := by omega
            refine OW_yes rfl rfl rfl rfl c3 (Ev.stp (Ev_mvs (.inl rfl) rfl) ?_)
            refine OW_yes rfl rfl rfl rfl c3 (Ev.stp (Ev_mvi (.inl rfl) rfl) ?_)
            refine OW_yes rfl rfl rfl rfl c3 (Ev.stp (Ev_idx k (hx.ad hgx) sl_22 rfl rfl rfl rfl (by omega)) ?_)
            refine OW_yes rfl rfl rfl rfl c3 (Ev.stp (Ev_load one_3 rfl rfl (K.one 0 rfl)) ?_)
            refine OW_yes rfl rfl rfl rfl c3 (Ev.stp (Ev_gtr rfl rfl rfl) ?_)
            refine OW_ev (Ev_pickb_f rfl rfl c3 rfl) rfl ?_
            refine OW_nil ?_
            refine CW_cond rfl (fun c5 => ?_) (fun c5 => ?_)
            · have d5 := c5
              first | (with_reducible replace d5 := of_decide_eq_true d5) | (with_reducible replace d5 := bnt d5; try (with_reducible replace d5 := of_decide_eq_false d5)) | skip
              refine CW_seq ?_
              refine CW_reg rfl ?_
              refine OW_st rfl (Stp_call ent_6 rfl rfl rfl (merged_c _) ?_)
              rintro _ w6 ⟨E6, rfl⟩
              have Z6 := E6.size
              have T := T.keep0 E6
              have hx := hx.keep0 E6
              have O := O.keep0 E6
              have K := K.keep0 E6
              refine OW_ev (Ev_mvb (.inr rfl) rfl) rfl ?_
              refine OW_nil ?_
              refine CW_ret ?_
              refine blk_ret ?_
              refine blk_ret ?_
              refine ⟨rfl, _, (.tmp rfl .nil), ?_⟩
              first | exact ⟨T, vb rfl (decide_eq_true (by rw [hL.held, hend him1]; rfl))⟩ | exact ⟨T, rfl⟩
            · have d5 := c5
              first | (with_reducible replace d5 := of_decide_eq_false d5) | (with_reducible replace d5 := bnf d5; try (with_reducible replace d5 := of_decide_eq_true d5)) | skip
              have hr64 : rm ≤ 64 := by omega
              refine CW_skip ?_
              refine CW_reg rfl ?_
              refine OW_ev (Ev_mvs (.inl rfl) rfl) rfl ?_
              refine OW_ev (Ev_mvs (.inl rfl) rfl) rfl ?_
              refine OW_ev (Ev_mvi (.inl rfl) rfl) rfl ?_
              refine OW_ev (Ev_idx k (hx.ad hgx) sl_22 rfl rfl rfl rfl (by omega)) rfl ?_
              refine OW_ev (Ev_load one_3 rfl rfl (K.one 0 rfl)) rfl ?_
              refine OW_ev (Ev_build (l := [.int _ _, .slice _ _ _, .int _ _, .int _ _, .int _ _, .int _ _, .int _ _, .int _ _, .int _ _]) plc_33 zero_33 rfl rfl rfl) rfl ?_
              refine OW_st rfl (Stp_buildSlice (l := [_, _, _, _, _, _, _, _, _]) el_24 zero_33 rfl rfl rfl rfl ?_)
              intro b7 w7 hb7 hz7 E7 B7
              have L7 : _ ≤ b7 := Nat.le_trans T.size (Nat.le_of_eq hb7.symm)
              have T := T.keep0 E7
              have hx := hx.keep0 E7
              have O := O.keep0 E7
              have K := K.keep0 E7
              have hY : Sl (· = b7) w7 9 (some ⟨b7, 0, none⟩) ([(⟨⟨rm, [], Ent.zero⟩, none, 0⟩ : RgM)].map RgM.cl) := Sl.ofBlk B7 (by simp [RgM.cl, Rg.cl])
              refine OW_st rfl (Stp_append O hY el_24 rfl rfl rfl rfl (by simp) (RgM.one _) (by simp [maxLen]; omega) (by simp; omega) (by have := T.size; omega) ?_)
              intro v8 w8 O8 E8 X8
              have Z8 := E8.size
              have T := T.transo E8 (Nat.le_refl _)
              obtain ⟨a8, q8, rfl, l8, m8, S8⟩ := O8.sl
              obtain ⟨aN, rfl⟩ : ∃ x, x = a8 := ⟨_, rfl⟩
              obtain ⟨qN, rfl⟩ : ∃ x, x = q8 := ⟨_, rfl⟩
              have ON := O8
              have AN := l8
              refine OW_ev (Ev_mvs (.inr rfl) rfl) rfl ?_
              refine OW_nil ?_
              refine CW_re [(0, .slice _ _ _), (1, .slice _ _ _), (5, .slice _ _ _), (6, .int _ _)] ⟨rfl, rfl, rfl, rfl, trivial⟩ (fun g => ?_)
              refine CW_reg rfl ?_
              refine OW_ev (Ev_mvi (.inl rfl) rfl) rfl ?_
              refine OW_ev (Ev_add rfl rfl rfl (by first | (apply IntWalk.i64_in; omega) | (apply IntWalk.u64_in; omega) | (apply IntWalk.u32_in; omega) | (apply IntWalk.u8_in; omega) | (apply IntWalk.i32_in; omega) | rfl)) rfl ?_
              refine OW_ev (Ev_mvi (.inr rfl) rfl) rfl ?_
              refine OW_nil ?_
              have hlm : (List.map RgM.cl (ms ++ [(⟨⟨rm, [], Ent.zero⟩, none, 0⟩ : RgM)])).length = k + 1 := by simp [hml]
              rw [← List.map_append, hlm] at ON
              refine ⟨k + 1, by omega, ms ++ [⟨⟨rm, [], Ent.zero⟩, none, 0⟩], aN, qN, ⟨rfl, rfl, congrArg (fun n => Value.slice aN n qN) (by simp [hml]), congrArg (Value.int .i64) (by omega), trivial⟩, by omega, by omega, by simp [hml], fun y hy => ?_, ON, T⟩
              rcases List.mem_append.1 hy with hy | hy
              · exact hfresh y hy
              · rw [List.mem_singleton.1 hy]; exact ⟨rm, rfl, hr2, hr64⟩
        · have d2 := c2
          first | (with_reducible replace d2 := of_decide_eq_false d2) | (with_reducible replace d2 := bnf d2; try (with_reducible replace d2 := of_decide_eq_true d2)) | skip
          refine CW_exit ?_
          refine blk_same ?_
          exact ⟨ms, a, q, k, ⟨rfl, rfl, trivial⟩, hk9, hml, hfresh, O, T⟩
      · have d1 := c1
        first | (with_reducible replace d1 := of_decide_eq_false d1) | (with_reducible replace d1 := bnf d1; try (with_reducible replace d1 := of_decide_eq_true d1)) | skip
        refine OW_no rfl rfl rfl rfl c1 ?_
        refine OW_no rfl rfl rfl rfl c1 ?_
        refine OW_ev (Ev_pickb_f rfl rfl c1 rfl) rfl ?_
        refine OW_nil ?_
        refine CW_cond_f rfl rfl ?_
        refine CW_exit ?_
        refine blk_same ?_
        exact ⟨ms, a, q, k, ⟨rfl, rfl, trivial⟩, hk9, hml, hfresh, O, T⟩
  ·
    rintro f w0 ⟨ms, a, q, nr, hf, hnr9, hml, hfresh, O, T⟩
    obtain ⟨g, rfl⟩ : ∃ g, f = upl g [(1, .slice bo m d), (5, .slice a nr q)] := ⟨f, upl_self hf⟩
    clear hf
    have hS : RgsS (fun b => b < w0.heap.size) w0 a ms := ⟨O.sls.old, fun y hy => by obtain ⟨r, rfl, _⟩ := hfresh y hy; exact ⟨Nat.le_refl _, Nat.zero_le _, Sl.nil _ _ _ _⟩⟩
    refine CW_seq ?_
    refine CW_seq ?_
    refine CW_reg rfl ?_
    refine OW_ev (Ev_mvs (.inl rfl) rfl) rfl ?_
    refine OW_ev (Ev_len und_23 rfl rfl) rfl ?_
    refine OW_ev (Ev_gtr rfl rfl rfl) rfl ?_
    refine OW_ev (Ev_mvb (.inl rfl) rfl) rfl ?_
    refine OW_split (d := .tmp 53) rfl (fun c9 => ?_) (fun c9 => ?_)
    · have d9 := c9
      first | (with_reducible replace d9 := of_decide_eq_true d9) | (with_reducible replace d9 := bnt d9; try (with_reducible replace d9 := of_decide_eq_false d9)) | skip
      refine OW_no rfl rfl rfl rfl c9 ?_
      refine OW_no rfl rfl rfl rfl c9 ?_
      refine OW_no rfl rfl rfl rfl c9 ?_
      refine OW_ev (Ev_pickb_t rfl rfl c9 rfl) rfl ?_
      refine OW_nil ?_
      refine CW_cond_t rfl rfl ?_
      refine CW_seq ?_
      refine CW_reg rfl ?_
      refine OW_st rfl (Stp_call ent_6 rfl rfl rfl (merged_c _) ?_)
      rintro _ w10 ⟨E10, rfl⟩
      have Z10 := E10.size
      have T := T.keep0 E10
      have O := O.keep0 E10
      refine OW_ev (Ev_mvb (.inr rfl) rfl) rfl ?_
      refine OW_nil ?_
      refine CW_ret ?_
      refine ⟨rfl, _, (.tmp rfl .nil), ?_⟩
      first | exact ⟨T, vb rfl (decide_eq_true (by rw [hL.held, hend him1]; rfl))⟩ | exact ⟨T, rfl⟩
    · have d9 := c9
      first | (with_reducible replace d9 := of_decide_eq_false d9) | (with_reducible replace d9 := bnf d9; try (with_reducible replace d9 := of_decide_eq_true d9)) | skip
      have hm200 : m ≤ 200 := by omega
      refine OW_yes rfl rfl rfl rfl c9 (Ev.stp (Ev_mvs (.inl rfl) rfl) ?_)
      refine OW_yes rfl rfl rfl rfl c9 (Ev.stp (Ev_len und_24 rfl rfl) ?_)
      refine OW_yes rfl rfl rfl rfl c9 (Ev.stp (Ev_eql rfl rfl rfl) ?_)
      refine OW_ev (Ev_pickb_f rfl rfl c9 rfl) rfl ?_
      refine OW_nil ?_
      refine CW_cond rfl (fun c11 => ?_) (fun c11 => ?_)
      · have d11 := c11
        first | (with_reducible replace d11 := of_decide_eq_true d11) | (with_reducible replace d11 := bnt d11; try (with_reducible replace d11 := of_decide_eq_false d11)) | skip
        refine CW_seq ?_
        refine CW_reg rfl ?_
        refine OW_st rfl (Stp_call ent_6 rfl rfl rfl (merged_c _) ?_)
        rintro _ w12 ⟨E12, rfl⟩
        have Z12 := E12.size
        have T := T.keep0 E12
        have O := O.keep0 E12
        refine OW_ev (Ev_mvb (.inr rfl) rfl) rfl ?_
        refine OW_nil ?_
        refine CW_ret ?_
        refine ⟨rfl, _, (.tmp rfl .nil), ?_⟩
        first | exact ⟨T, vb rfl (decide_eq_true (by rw [hL.held, hend him1]; rfl))⟩ | exact ⟨T, rfl⟩
      · have d11 := c11
        first | (with_reducible replace d11 := of_decide_eq_false d11) | (with_reducible replace d11 := bnf d11; try (with_reducible replace d11 := of_decide_eq_true d11)) | skip
        have hk1 : 1 ≤ nr := by omega
        have hst : LI nr 0 1 (ms.map RgM.r) ∧ cnt (ms.map RgM.r) = 0 := LI.start (by simpa using hml) (fun r hr => by obtain ⟨y, hy, rfl⟩ := List.mem_map.1 hr; obtain ⟨z, rfl, h⟩ := hfresh y hy; exact ⟨z, rfl, h⟩)
        refine CW_skip ?_
        refine CW_seq ?_
        refine CW_reg rfl ?_
        refine OW_ev (Ev_mvs (.inl rfl) rfl) rfl ?_
        refine OW_ev (Ev_len und_24 rfl rfl) rfl ?_
        refine OW_ev (Ev_add rfl rfl rfl (by first | (apply IntWalk.i64_in; omega) | (apply IntWalk.u64_in; omega) | (apply IntWalk.u32_in; omega) | (apply IntWalk.u8_in; omega) | (apply IntWalk.i32_in; omega) | rfl)) rfl ?_
        refine OW_st rfl (Stp_makeSlice el_22 rfl rfl rfl (show ((nr : Int) + 1) = ((nr + 1 : Nat) : Int) by omega) (show ((nr : Int) + 1) = ((nr + 1 : Nat) : Int) by omega) (Nat.le_refl _) (by omega) (by simp only [maxLen]; omega) zero_3 ?_)
        intro b13 w13 hb13 hz13 E13 B13
        have L13 : _ ≤ b13 := Nat.le_trans T.size (Nat.le_of_eq hb13.symm)
        have T := T.keep0 E13
        have O := O.keep0 E13
        have hS := hS.keep0 E13
        obtain ⟨b7, rfl⟩ : ∃ b, b = b13 := ⟨_, rfl⟩
        have O7 := Own.zeros (base := w.heap.size) B13 (by omega) (by simp only [maxLen]; omega)
        have e7 : b7 = w0.heap.size ∧ w13.heap.size = b7 + 1 := ⟨hb13, hz13⟩
        refine OW_ev (Ev_mvs (.inr rfl) rfl) rfl ?_
        refine OW_nil ?_
        refine CW_seq ?_
        refine CW_reg rfl ?_
        refine OW_ev (Ev_mvs (.inl rfl) rfl) rfl ?_
        refine OW_ev (Ev_len und_24 rfl rfl) rfl ?_
        refine OW_ev (Ev_add rfl rfl rfl (by first | (apply IntWalk.i64_in; omega) | (apply IntWalk.u64_in; omega) | (apply IntWalk.u32_in; omega) | (apply IntWalk.u8_in; omega) | (apply IntWalk.i32_in; omega) | rfl)) rfl ?_
        refine OW_st rfl (Stp_makeSlice el_22 rfl rfl rfl (show ((nr : Int) + 1) = ((nr + 1 : Nat) : Int) by omega) (show ((nr : Int) + 1) = ((nr + 1 : Nat) : Int) by omega) (Nat.le_refl _) (by omega) (by simp only [maxLen]; omega) zero_3 ?_)
        intro b14 w14 hb14 hz14 E14 B14
        have L14 : _ ≤ b14 := Nat.le_trans T.size (Nat.le_of_eq hb14.symm)
        have T := T.keep0 E14
        have O := O.keep0 E14
        have hS := hS.keep0 E14
        have O7 := O7.keep0 E14
        obtain ⟨b8, rfl⟩ : ∃ b, b = b14 := ⟨_, rfl⟩
        have O8 := Own.zeros (base := w.heap.size) B14 (by omega) (by simp only [maxLen]; omega)
        have e8 : b8 = b7 + 1 ∧ w14.heap.size = b8 + 1 := ⟨hb14.trans e7.2, hz14⟩
        have hS := hS.mono (G := (fun b => b ≠ b7 ∧ b ≠ b8)) (fun b _ hb => ⟨by omega, by omega⟩)
        refine OW_ev (Ev_mvs (.inr rfl) rfl) rfl ?_
        refine OW_nil ?_
        refine CW_seq ?_
        refine CW_reg rfl ?_
        refine OW_ev (Ev_c (.inr rfl)) rfl ?_
        refine OW_nil ?_
        refine CW_seq ?_
        refine CW_reg rfl ?_
        refine OW_ev (Ev_c (.inr rfl)) rfl ?_
        refine OW_nil ?_
        refine CW_seq ?_
        refine CW_seq ?_
        refine CW_reg rfl ?_
        refine OW_ev (Ev_c (.inr rfl)) rfl ?_
        refine OW_nil ?_
        refine CW_block ?_
        refine CW_loop (α := Nat) (fun (i : Nat) f wr => ∃ (ms : List RgM) (a : Option Addr) (q : Nat) (lo : Int) (st : Int) (Of : Nat → Int) (Tf : Nat → Int), AllEq f [(1, .slice bo m d), (5, .slice a nr q), (7, .slice (some ⟨b7, 0, none⟩) (nr + 1) (nr + 1)), (8, .slice (some ⟨b8, 0, none⟩) (nr + 1) (nr + 1)), (9, .int .u64 st), (10, .int .u64 lo), (11, .int .i64 (i : Int))] ∧ (i ≤ m + 1) ∧ (1 ≤ st) ∧ (st ≤ (i : Int) + 1) ∧ (0 ≤ lo) ∧ (lo < st) ∧ (LI nr lo st (ms.map RgM.r)) ∧ (RgsS (fun b => b ≠ b7 ∧ b ≠ b8) wr a ms) ∧ (Own w.heap.size wr 3 1 (.slice (some ⟨b7, 0, none⟩) (nr + 1) (nr + 1)) (rowOf (nr + 1) Of)) ∧ (Own w.heap.size wr 3 1 (.slice (some ⟨b8, 0, none⟩) (nr + 1) (nr + 1)) (rowOf (nr + 1) Tf)) ∧ (∀ q : Nat, q < nr + 1 → 0 ≤ Tf q ∧ Tf q + wall ((q : Int) - 1) (ms.map RgM.r) = Of q ∧ Of q ≤ (i : Int)) ∧ (i = m + 1 → cnt (ms.map RgM.r) = 0) ∧ (Kp0 w wr) ∧ (b7 < wr.heap.size) ∧ (b8 < wr.heap.size)) (fun i => m + 1 - i) 0 ?_ ?_
        ·
          exact ⟨ms, a, q, 0, 1, fun _ => 0, fun _ => 0, ⟨rfl, rfl, rfl, rfl, rfl, rfl, rfl, trivial⟩, by omega, by omega, by omega, by omega, by omega, hst.1, hS, O7, O8, fun q _ => ⟨Int.le_refl 0, by show (0 : Int) + wall _ _ = 0; rw [wall_zero hst.2]; rfl, Int.le_refl 0⟩, fun _ => hst.2, T, by omega, by omega⟩
        ·
          rintro i f wr ⟨ms, a, q, lo, st, Of, Tf, hf, hi, h1, h2, hlo0, hls, hL, hS, O7, O8, hot, hend, T, hb7, hb8⟩
          obtain ⟨g, rfl⟩ : ∃ g, f = upl g [(1, .slice bo m d), (5, .slice a nr q), (7, .slice (some ⟨b7, 0, none⟩) (nr + 1) (nr + 1)), (8, .slice (some ⟨b8, 0, none⟩) (nr + 1) (nr + 1)), (9, .int .u64 st), (10, .int .u64 lo), (11, .int .i64 (i : Int))] := ⟨f, upl_self hf⟩
          clear hf
          have hy := hy.keep0 T
          have hml : ms.length = nr := by simpa using hL.len
          have hlen := lenR.2 hL.lens
          refine CW_seq ?_
          refine CW_seq ?_
          refine CW_reg rfl ?_
          refine OW_ev (Ev_mvi (.inl rfl) rfl) rfl ?_
          refine OW_ev (Ev_mvs (.inl rfl) rfl) rfl ?_
          refine OW_ev (Ev_len und_23 rfl rfl) rfl ?_
          refine OW_ev (Ev_add rfl rfl rfl (by first | (apply IntWalk.i64_in; omega) | (apply IntWalk.u64_in; omega) | (apply IntWalk.u32_in; omega) | (apply IntWalk.u8_in; omega) | (apply IntWalk.i32_in; omega) | rfl)) rfl ?_
          refine OW_ev (Ev_lss rfl rfl rfl) rfl ?_
          refine OW_nil ?_
          refine CW_cond rfl (fun c15 => ?_) (fun c15 => ?_)
          · have d15 := c15
            first | (with_reducible replace d15 := of_decide_eq_true d15) | (with_reducible replace d15 := bnt d15; try (with_reducible replace d15 := of_decide_eq_false d15)) | skip
            have him1 : i < m + 1 := by omega
            refine CW_skip ?_
            refine CW_seq ?_
            refine CW_block ?_
            refine CW_seq ?_
            refine CW_reg rfl ?_
            refine OW_ev (Ev_c (.inr rfl)) rfl ?_
            refine OW_nil ?_
            refine CW_seq ?_
            refine CW_seq ?_
            refine CW_reg rfl ?_
            refine OW_ev (Ev_mvi (.inl rfl) rfl) rfl ?_
            refine OW_ev (Ev_mvs (.inl rfl) rfl) rfl ?_
            refine OW_ev (Ev_len und_23 rfl rfl) rfl ?_
            refine OW_ev (Ev_lss rfl rfl rfl) rfl ?_
            refine OW_nil ?_
            refine CW_join (fun f wj => ∃ (N : Int), AllEq f [(1, .slice bo m d), (5, .slice a nr q), (7, .slice (some ⟨b7, 0, none⟩) (nr + 1) (nr + 1)), (8, .slice (some ⟨b8, 0, none⟩) (nr + 1) (nr + 1)), (9, .int .u64 st), (10, .int .u64 lo), (11, .int .i64 (i : Int)), (12, .int .i64 N)] ∧ ((i < m ∧ ∃ s, row[i]? = some s ∧ (row.map I2)[i]? = some (I2 s) ∧ N = s.2) ∨ (i = m ∧ N = 1000)) ∧ (wj = wr)) ?_ ?_
            ·
              refine CW_cond rfl (fun c16 => ?_) (fun c16 => ?_)
              · have d16 := c16
                first | (with_reducible replace d16 := of_decide_eq_true d16) | (with_reducible replace d16 := bnt d16; try (with_reducible replace d16 := of_decide_eq_false d16)) | skip
                have him : i < m := by omega
                obtain ⟨sy, hsy, hgy⟩ := get2 (rooms := row) (k := i) (by omega)
                have Ky := hy.at_ hgy
                refine CW_reg rfl ?_
                refine OW_ev (Ev_mvs (.inl rfl) rfl) rfl ?_
                refine OW_ev (Ev_mvi (.inl rfl) rfl) rfl ?_
                refine OW_ev (Ev_idx i (hy.ad hgy) sl_23 rfl rfl rfl rfl (by omega)) rfl ?_
                refine OW_ev (Ev_fieldAddr fld_35_1 rfl rfl) rfl ?_
                refine OW_ev (Ev_load one_3 rfl rfl (Ky.one 1 rfl)) rfl ?_
                refine OW_ev (Ev_mvi (.inr rfl) rfl) rfl ?_
                refine OW_nil ?_
                exact ⟨sy.2, ⟨rfl, rfl, rfl, rfl, rfl, rfl, rfl, rfl, trivial⟩, .inl ⟨him, sy, hsy, hgy, rfl⟩, rfl⟩
              · have d16 := c16
                first | (with_reducible replace d16 := of_decide_eq_false d16) | (with_reducible replace d16 := bnf d16; try (with_reducible replace d16 := of_decide_eq_true d16)) | skip
                refine CW_skip ?_
                exact ⟨1000, ⟨rfl, rfl, rfl, rfl, rfl, rfl, rfl, rfl, trivial⟩, .inr ⟨by omega, rfl⟩, rfl⟩
            ·
              rintro f _ ⟨N, hf, hN, rfl⟩
              obtain ⟨g, rfl⟩ : ∃ g, f = upl g [(1, .slice bo m d), (5, .slice a nr q), (7, .slice (some ⟨b7, 0, none⟩) (nr + 1) (nr + 1)), (8, .slice (some ⟨b8, 0, none⟩) (nr + 1) (nr + 1)), (9, .int .u64 st), (10, .int .u64 lo), (11, .int .i64 (i : Int)), (12, .int .i64 N)] := ⟨f, upl_self hf⟩
              clear hf
              refine CW_seq ?_
              refine CW_seq ?_
              refine CW_reg rfl ?_
              refine OW_ev (Ev_mvi (.inl rfl) rfl) rfl ?_
              refine OW_ev (Ev_leq rfl rfl rfl) rfl ?_
              refine OW_nil ?_
              refine CW_cond rfl (fun c17 => ?_) (fun c17 => ?_)
              · have d17 := c17
                first | (with_reducible replace d17 := of_decide_eq_true d17) | (with_reducible replace d17 := bnt d17; try (with_reducible replace d17 := of_decide_eq_false d17)) | skip
                obtain ⟨him, sy, hsy, hgy, rfl⟩ : i < m ∧ ∃ s, row[i]? = some s ∧ (row.map I2)[i]? = some (I2 s) ∧ N = s.2 := by rcases hN with h | h; exact h; omega
                have Ky := hy.at_ hgy
                refine CW_seq ?_
                refine CW_reg rfl ?_
                refine OW_ev (Ev_mvs (.inl rfl) rfl) rfl ?_
                refine OW_ev (Ev_mvi (.inl rfl) rfl) rfl ?_
                refine OW_ev (Ev_mvs (.inl rfl) rfl) rfl ?_
                refine OW_ev (Ev_mvi (.inl rfl) rfl) rfl ?_
                refine OW_ev (Ev_idx i (hy.ad hgy) sl_23 rfl rfl rfl rfl (by omega)) rfl ?_
                refine OW_ev (Ev_fieldAddr fld_35_0 rfl rfl) rfl ?_
                refine OW_ev (Ev_load one_3 rfl rfl (Ky.one 0 rfl)) rfl ?_
                refine OW_st rfl (Stp_call ent_8 rfl rfl rfl (entry_c _ _ _) ?_)
                rintro _ w18 ⟨E18, rfl⟩
                have Z18 := E18.size
                have T := T.keep0 E18
                have hy := hy.keep0 E18
                have hS := hS.keep0 E18
                have O7 := O7.keep0 E18
                have O8 := O8.keep0 E18
                have Ky := Ky.keep0 E18
                refine OW_st rfl (Stp_call ent_7 rfl rfl rfl (offer_c (x := entOf st sy.1) hml hS (by omega) hlen) ?_)
                rintro _ w19 ⟨E19, a13, q13, ms13, rfl, hr13, hl13, hq13, hS13⟩
                have Z19 := E19.size
                have T := T.keep0 E19
                have hy := hy.keep0 E19
                have hS := hS.keep0 E19
                have O7 := O7.keep0 E19
                have O8 := O8.keep0 E19
                have Ky := Ky.keep0 E19
                have hS13 := hS13.mono (G := (fun b => b ≠ b7 ∧ b ≠ b8)) (fun b _ hb => by change _ ≤ b at hb; exact ⟨by omega, by omega⟩)
                refine OW_ev (Ev_mvt (.inl rfl) rfl) rfl ?_
                refine OW_ev (Ev_extract (vs := _) rfl rfl rfl) rfl ?_
                refine OW_ev (Ev_extract (vs := _) rfl rfl rfl) rfl ?_
                refine OW_ev (Ev_mvs (.inr rfl) rfl) rfl ?_
                refine OW_ev (Ev_mvi (.inr rfl) rfl) rfl ?_
                refine OW_nil ?_
                refine CW_seq ?_
                refine CW_seq ?_
                refine CW_reg rfl ?_
                refine OW_ev (Ev_mvi (.inl rfl) rfl) rfl ?_
                refine OW_ev (Ev_eql rfl rfl rfl) rfl ?_
                refine OW_nil ?_
                refine CW_cond rfl (fun c20 => ?_) (fun c20 => ?_)
                · have d20 := c20
                  first | (with_reducible replace d20 := of_decide_eq_true d20) | (with_reducible replace d20 := bnt d20; try (with_reducible replace d20 := of_decide_eq_false d20)) | skip
                  have hof := offer_fits d20
                  rw [List.length_map, hml] at hof
                  change -1 ≤ sy.1 ∧ sy.1 < (nr : Int) - 1 at hof
                  obtain ⟨jj, hjz, hjn⟩ : ∃ jj : Nat, sy.1 + 1 = (jj : Int) ∧ jj < nr + 1 := ⟨(sy.1 + 1).toNat, by omega, by omega⟩
                  have hgo := rowOf_get (T := Of) hjn
                  obtain ⟨-, hL2, hw2⟩ := offer_law hL hls h1 (by omega) (by omega) hof.1 hof.2
                  rw [← hr13] at hL2 hw2
                  have hm13 : ms13.length = nr := by simpa using hL2.len
                  have hoj := hot jj hjn
                  have hnj := hL.nn ((jj : Int) - 1)
                  refine CW_seq ?_
                  refine CW_reg rfl ?_
                  refine OW_ev (Ev_mvs (.inl rfl) rfl) rfl ?_
                  refine OW_ev (Ev_mvs (.inr rfl) rfl) rfl ?_
                  refine OW_nil ?_
                  refine CW_reg rfl ?_
                  refine OW_ev (Ev_mvs (.inl rfl) rfl) rfl ?_
                  refine OW_ev (Ev_mvs (.inl rfl) rfl) rfl ?_
                  refine OW_ev (Ev_mvi (.inl rfl) rfl) rfl ?_
                  refine OW_ev (Ev_idx i (hy.ad hgy) sl_23 rfl rfl rfl rfl (by omega)) rfl ?_
                  refine OW_ev (Ev_fieldAddr fld_35_0 rfl rfl) rfl ?_
                  refine OW_ev (Ev_load one_3 rfl rfl (Ky.one 0 rfl)) rfl ?_
                  refine OW_ev (Ev_add rfl rfl rfl (by first | (apply IntWalk.i64_in; omega) | (apply IntWalk.u64_in; omega) | (apply IntWalk.u32_in; omega) | (apply IntWalk.u8_in; omega) | (apply IntWalk.i32_in; omega) | rfl)) rfl ?_
                  refine OW_ev (Ev_idx jj (rfl : Ad (some ⟨b7, 0, none⟩)) sl_22 rfl rfl rfl hjz (by omega)) rfl ?_
                  refine OW_ev (Ev_load one_3 rfl rfl ((O7.sls.ld (j := 0) hgo rfl))) rfl ?_
                  refine OW_ev (Ev_add rfl rfl rfl (by first | (apply IntWalk.i64_in; omega) | (apply IntWalk.u64_in; omega) | (apply IntWalk.u32_in; omega) | (apply IntWalk.u8_in; omega) | (apply IntWalk.i32_in; omega) | rfl)) rfl ?_
                  refine OW_ev (Ev_idx jj (rfl : Ad (some ⟨b7, 0, none⟩)) sl_22 rfl rfl rfl hjz (by omega)) rfl ?_
                  refine OW_st rfl (Stp_storeOwn (vs := [.int _ _]) (jj) 0 O7 rfl hgo siz_3 rfl rfl rfl rfl (Nat.le_of_ble_eq_true rfl) rfl ?_)
                  intro w21 hz21 E21 O21
                  have Z21 := E21.size
                  have T := T.transo E21 (by omega)
                  have hy := hy.keepo E21 (fun b hb hl he => by first | omega | (have := hsp b he; omega) | (change b < _ at hb; omega) | (change _ ≤ b at hb; omega) | (have h1 := hb.1; have h2 := hb.2; first | omega | (change _ ≤ _ at h1; omega) | (change _ < _ at h1; omega)))
                  have hS := hS.keepo E21 (fun b hb _ he => by have h1 : b7 = b := (by simpa [Value.ownBlock] using he); exact absurd h1.symm hb.1)
                  have O8 := O8.keepo E21 (fun b _ h1 h2 => by have e1 : b8 = b := (by simpa [Value.ownBlock] using h1); have e2 : b7 = b := (by simpa [Value.ownBlock] using h2); omega)
                  have hS13 := hS13.keepo E21 (fun b hb _ he => by have h1 : b7 = b := (by simpa [Value.ownBlock] using he); exact absurd h1.symm hb.1)
                  have O7 := O21
                  clear O21
                  have O7 : Own w.heap.size w21 3 1 (.slice (some ⟨b7, 0, none⟩) (nr + 1) (nr + 1)) (rowOf (nr + 1) (fun q => if q = jj then Of jj + 1 else Of q)) := by rw [← rowOf_set hjn]; exact O7
                  refine OW_nil ?_
                  refine CW_seq ?_
                  refine CW_re [(1, .slice _ _ _), (5, .slice _ _ _), (7, .slice _ _ _), (8, .slice _ _ _), (9, .int _ _), (10, .int _ _), (11, .int _ _), (12, .int _ _)] ⟨rfl, rfl, rfl, rfl, rfl, rfl, rfl, rfl, trivial⟩ (fun g => ?_)
                  refine CW_reg rfl ?_
                  refine OW_ev (Ev_mvi (.inl rfl) rfl) rfl ?_
                  refine OW_ev (Ev_add rfl rfl rfl (by first | (apply IntWalk.i64_in; omega) | (apply IntWalk.u64_in; omega) | (apply IntWalk.u32_in; omega) | (apply IntWalk.u8_in; omega) | (apply IntWalk.i32_in; omega) | rfl)) rfl ?_
                  refine OW_ev (Ev_mvi (.inr rfl) rfl) rfl ?_
                  refine OW_nil ?_
                  refine CW_exit ?_
                  refine blk_same ?_
                  refine CW_reg rfl ?_
                  refine OW_ev (Ev_mvi (.inl rfl) rfl) rfl ?_
                  refine OW_ev (Ev_add rfl rfl rfl (by first | (apply IntWalk.i64_in; omega) | (apply IntWalk.u64_in; omega) | (apply IntWalk.u32_in; omega) | (apply IntWalk.u8_in; omega) | (apply IntWalk.i32_in; omega) | rfl)) rfl ?_
                  refine OW_ev (Ev_mvi (.inr rfl) rfl) rfl ?_
                  refine OW_nil ?_
                  refine ⟨i + 1, by omega, ms13, a13, q13, lo, st + 1, _, Tf, ⟨rfl, congrArg (fun n => Value.slice a13 n q13) hm13, rfl, rfl, rfl, rfl, congrArg (Value.int .i64) (by omega), trivial⟩, by omega, by omega, by omega, by omega, by omega, hL2, hS13, O7, O8, fun q hq => ?_, fun h => by omega, T, by omega, by omega⟩
                  have h0 := hot q hq
                  have h3 := hw2 ((q : Int) - 1)
                  by_cases e : q = jj
                  · rw [if_pos (by omega)] at h3; subst e; simp only [if_pos]; omega
                  · rw [if_neg (by omega)] at h3; simp only [if_neg e]; omega
                · have d20 := c20
                  first | (with_reducible replace d20 := of_decide_eq_false d20) | (with_reducible replace d20 := bnf d20; try (with_reducible replace d20 := of_decide_eq_true d20)) | skip
                  have hbad : ¬ (-1 ≤ sy.1 ∧ sy.1 < (nr : Int) - 1) := fun h => d20 (offer_law hL hls h1 (by omega) (by omega) h.1 h.2).1
                  refine CW_seq ?_
                  refine CW_reg rfl ?_
                  refine OW_ev (Ev_mvs (.inl rfl) rfl) rfl ?_
                  refine OW_ev (Ev_mvi (.inl rfl) rfl) rfl ?_
                  refine OW_ev (Ev_idx i (hy.ad hgy) sl_23 rfl rfl rfl rfl (by omega)) rfl ?_
                  refine OW_ev (Ev_fieldAddr fld_35_0 rfl rfl) rfl ?_
                  refine OW_ev (Ev_load one_3 rfl rfl (Ky.one 0 rfl)) rfl ?_
                  refine OW_ev (Ev_geq rfl rfl rfl) rfl ?_
                  refine OW_ev (Ev_mvb (.inl rfl) rfl) rfl ?_
                  refine OW_split (d := .tmp 117) rfl (fun c22 => ?_) (fun c22 => ?_)
                  · have d22 := c22
                    first | (with_reducible replace d22 := of_decide_eq_true d22) | (with_reducible replace d22 := bnt d22; try (with_reducible replace d22 := of_decide_eq_false d22)) | skip
                    refine OW_yes rfl rfl rfl rfl c22 (Ev.stp (Ev_mvs (.inl rfl) rfl) ?_)
                    refine OW_yes rfl rfl rfl rfl c22 (Ev.stp (Ev_mvi (.inl rfl) rfl) ?_)
                    refine OW_yes rfl rfl rfl rfl c22 (Ev.stp (Ev_idx i (hy.ad hgy) sl_23 rfl rfl rfl rfl (by omega)) ?_)
                    refine OW_yes rfl rfl rfl rfl c22 (Ev.stp (Ev_fieldAddr fld_35_0 rfl rfl) ?_)
                    refine OW_yes rfl rfl rfl rfl c22 (Ev.stp (Ev_load one_3 rfl rfl (Ky.one 0 rfl)) ?_)
                    refine OW_yes rfl rfl rfl rfl c22 (Ev.stp (Ev_mvs (.inl rfl) rfl) ?_)
                    refine OW_yes rfl rfl rfl rfl c22 (Ev.stp (Ev_len und_24 rfl rfl) ?_)
                    refine OW_yes rfl rfl rfl rfl c22 (Ev.stp (Ev_sub rfl rfl rfl (by first | (apply IntWalk.i64_in; omega) | (apply IntWalk.u64_in; omega) | (apply IntWalk.u32_in; omega) | (apply IntWalk.u8_in; omega) | (apply IntWalk.i32_in; omega) | rfl)) ?_)
                    refine OW_yes rfl rfl rfl rfl c22 (Ev.stp (Ev_lss rfl rfl rfl) ?_)
                    refine OW_ev (Ev_pickb_t rfl rfl c22 rfl) rfl ?_
                    refine OW_nil ?_
                    refine CW_cond rfl (fun c23 => ?_) (fun c23 => ?_)
                    · have d23 := c23
                      first | (with_reducible replace d23 := of_decide_eq_true d23) | (with_reducible replace d23 := bnt d23; try (with_reducible replace d23 := of_decide_eq_false d23)) | skip
                      exact absurd ⟨by omega, by omega⟩ hbad
                    · have d23 := c23
                      first | (with_reducible replace d23 := of_decide_eq_false d23) | (with_reducible replace d23 := bnf d23; try (with_reducible replace d23 := of_decide_eq_true d23)) | skip
                      refine CW_skip ?_
                      refine CW_seq ?_
                      refine CW_re [(1, .slice _ _ _), (5, .slice _ _ _), (7, .slice _ _ _), (8, .slice _ _ _), (9, .int _ _), (10, .int _ _), (11, .int _ _), (12, .int _ _)] ⟨rfl, rfl, rfl, rfl, rfl, rfl, rfl, rfl, trivial⟩ (fun g => ?_)
                      refine CW_reg rfl ?_
                      refine OW_ev (Ev_mvi (.inl rfl) rfl) rfl ?_
                      refine OW_ev (Ev_add rfl rfl rfl (by first | (apply IntWalk.i64_in; omega) | (apply IntWalk.u64_in; omega) | (apply IntWalk.u32_in; omega) | (apply IntWalk.u8_in; omega) | (apply IntWalk.i32_in; omega) | rfl)) rfl ?_
                      refine OW_ev (Ev_mvi (.inr rfl) rfl) rfl ?_
                      refine OW_nil ?_
                      refine CW_exit ?_
                      refine blk_same ?_
                      refine CW_reg rfl ?_
                      refine OW_ev (Ev_mvi (.inl rfl) rfl) rfl ?_
                      refine OW_ev (Ev_add rfl rfl rfl (by first | (apply IntWalk.i64_in; omega) | (apply IntWalk.u64_in; omega) | (apply IntWalk.u32_in; omega) | (apply IntWalk.u8_in; omega) | (apply IntWalk.i32_in; omega) | rfl)) rfl ?_
                      refine OW_ev (Ev_mvi (.inr rfl) rfl) rfl ?_
                      refine OW_nil ?_
                      refine ⟨i + 1, by omega, ms, a, q, lo, st + 1, Of, Tf, ⟨rfl, rfl, rfl, rfl, rfl, rfl, congrArg (Value.int .i64) (by omega), trivial⟩, by omega, by omega, by omega, by omega, by omega, hL.more, hS, O7, O8, fun q hq => ?_, fun h => by omega, T, by omega, by omega⟩
                      have h0 := hot q hq
                      exact ⟨h0.1, h0.2.1, by omega⟩
                  · have d22 := c22
                    first | (with_reducible replace d22 := of_decide_eq_false d22) | (with_reducible replace d22 := bnf d22; try (with_reducible replace d22 := of_decide_eq_true d22)) | skip
                    refine OW_no rfl rfl rfl rfl c22 ?_
                    refine OW_no rfl rfl rfl rfl c22 ?_
                    refine OW_no rfl rfl rfl rfl c22 ?_
                    refine OW_no rfl rfl rfl rfl c22 ?_
                    refine OW_no rfl rfl rfl rfl c22 ?_
                    refine OW_no rfl rfl rfl rfl c22 ?_
                    refine OW_no rfl rfl rfl rfl c22 ?_
                    refine OW_no rfl rfl rfl rfl c22 ?_
                    refine OW_no rfl rfl rfl rfl c22 ?_
                    refine OW_ev (Ev_pickb_f rfl rfl c22 rfl) rfl ?_
                    refine OW_nil ?_
                    refine CW_cond_f rfl rfl ?_
                    refine CW_skip ?_
                    refine CW_seq ?_
                    refine CW_re [(1, .slice _ _ _), (5, .slice _ _ _), (7, .slice _ _ _), (8, .slice _ _ _), (9, .int _ _), (10, .int _ _), (11, .int _ _), (12, .int _ _)] ⟨rfl, rfl, rfl, rfl, rfl, rfl, rfl, rfl, trivial⟩ (fun g => ?_)
                    refine CW_reg rfl ?_
                    refine OW_ev (Ev_mvi (.inl rfl) rfl) rfl ?_
                    refine OW_ev (Ev_add rfl rfl rfl (by first | (apply IntWalk.i64_in; omega) | (apply IntWalk.u64_in; omega) | (apply IntWalk.u32_in; omega) | (apply IntWalk.u8_in; omega) | (apply IntWalk.i32_in; omega) | rfl)) rfl ?_
                    refine OW_ev (Ev_mvi (.inr rfl) rfl) rfl ?_
                    refine OW_nil ?_
                    refine CW_exit ?_
                    refine blk_same ?_
                    refine CW_reg rfl ?_
                    refine OW_ev (Ev_mvi (.inl rfl) rfl) rfl ?_
                    refine OW_ev (Ev_add rfl rfl rfl (by first | (apply IntWalk.i64_in; omega) | (apply IntWalk.u64_in; omega) | (apply IntWalk.u32_in; omega) | (apply IntWalk.u8_in; omega) | (apply IntWalk.i32_in; omega) | rfl)) rfl ?_
                    refine OW_ev (Ev_mvi (.inr rfl) rfl) rfl ?_
                    refine OW_nil ?_
                    refine ⟨i + 1, by omega, ms, a, q, lo, st + 1, Of, Tf, ⟨rfl, rfl, rfl, rfl, rfl, rfl, congrArg (Value.int .i64) (by omega), trivial⟩, by omega, by omega, by omega, by omega, by omega, hL.more, hS, O7, O8, fun q hq => ?_, fun h => by omega, T, by omega, by omega⟩
                    have h0 := hot q hq
                    exact ⟨h0.1, h0.2.1, by omega⟩
              · have d17 := c17
                first | (with_reducible replace d17 := of_decide_eq_false d17) | (with_reducible replace d17 := bnf d17; try (with_reducible replace d17 := of_decide_eq_true d17)) | skip
                refine CW_skip ?_
                refine CW_seq ?_
                refine CW_reg rfl ?_
                refine OW_ev (Ev_mvs (.inl rfl) rfl) rfl ?_
                refine OW_ev (Ev_mvi (.inl rfl) rfl) rfl ?_
                refine OW_st rfl (Stp_call ent_9 rfl rfl rfl (drain_c hml hS (by omega) hlen) ?_)
                rintro _ w24 ⟨E24, a4, q4, a5, q5, xs, ms5, rfl, hxs, hr5, hl4, hq4, hl5, hq5, hx2, hS5⟩
                have Z24 := E24.size
                have T := T.keep0 E24
                have hy := hy.keep0 E24
                have hS := hS.keep0 E24
                have O7 := O7.keep0 E24
                have O8 := O8.keep0 E24
                have hx2 := hx2.mono (G := (fun b => b ≠ b7 ∧ b ≠ b8)) (fun b _ hb => by change _ ≤ b at hb; exact ⟨by omega, by omega⟩)
                have hS5 := hS5.mono (G := (fun b => b ≠ b7 ∧ b ≠ b8)) (fun b _ hb => by change _ ≤ b at hb; exact ⟨by omega, by omega⟩)
                have hxl : xs.length ≤ 9223372036854775807 := by have h2 := hq4; simp only [maxLen] at h2; omega
                obtain ⟨lo2, hL5, hrise0, hxi, hwall, hcnt⟩ := drain_law (drainRoom (ms.map RgM.r) N) hL
                rw [← hxs] at hrise0 hxi hwall
                rw [← hr5] at hL5
                have hm5 : ms5.length = nr := by simpa using hL5.len
                have hlo2 := rise_lt hrise0 hls (fun x hx => by obtain ⟨_, _, h⟩ := hxi x hx; exact h.ub)
                have hfin : i = m → cnt (ms5.map RgM.r) = 0 := fun e => by rw [hr5]; refine hcnt ?_; have h0 := hL.held; have h3 := hL.cnt_le; rcases hN with h | ⟨_, rfl⟩; omega; unfold drainRoom; omega
                refine OW_ev (Ev_mvt (.inl rfl) rfl) rfl ?_
                refine OW_ev (Ev_extract (vs := _) rfl rfl rfl) rfl ?_
                refine OW_ev (Ev_extract (vs := _) rfl rfl rfl) rfl ?_
                refine OW_ev (Ev_mvs (.inr rfl) rfl) rfl ?_
                refine OW_ev (Ev_mvs (.inr rfl) rfl) rfl ?_
                refine OW_nil ?_
                refine CW_seq ?_
                refine CW_seq ?_
                refine CW_reg rfl ?_
                refine OW_ev (Ev_c (.inr rfl)) rfl ?_
                refine OW_nil ?_
                refine CW_block ?_
                refine CW_loop (α := Nat) (fun (j : Nat) f wr2 => ∃ (L : Int) (Uf : Nat → Int), AllEq f [(1, .slice bo m d), (7, .slice (some ⟨b7, 0, none⟩) (nr + 1) (nr + 1)), (8, .slice (some ⟨b8, 0, none⟩) (nr + 1) (nr + 1)), (9, .int .u64 st), (10, .int .u64 L), (11, .int .i64 (i : Int)), (15, .slice a4 xs.length q4), (16, .slice a5 ms5.length q5), (17, .int .i64 (j : Int)), (5, .slice a nr q)] ∧ (j ≤ xs.length) ∧ (0 ≤ L) ∧ (L < st) ∧ (Rise L (xs.drop j) lo2) ∧ (RgsS (fun b => b ≠ b7 ∧ b ≠ b8) wr2 a5 ms5) ∧ (Sl (fun b => b ≠ b7 ∧ b ≠ b8) wr2 7 a4 (xs.map Ent.cells)) ∧ (Own w.heap.size wr2 3 1 (.slice (some ⟨b7, 0, none⟩) (nr + 1) (nr + 1)) (rowOf (nr + 1) Of)) ∧ (Own w.heap.size wr2 3 1 (.slice (some ⟨b8, 0, none⟩) (nr + 1) (nr + 1)) (rowOf (nr + 1) Uf)) ∧ (∀ q : Nat, q < nr + 1 → 0 ≤ Uf q ∧ Uf q + wsum ((q : Int) - 1) (xs.drop j) + wall ((q : Int) - 1) (ms5.map RgM.r) = Of q) ∧ (Kp0 w wr2) ∧ (b7 < wr2.heap.size) ∧ (b8 < wr2.heap.size)) (fun j => xs.length - j) 0 ?_ ?_
                ·
                  exact ⟨lo, Tf, ⟨rfl, rfl, rfl, rfl, rfl, rfl, rfl, rfl, rfl, rfl, trivial⟩, Nat.zero_le _, hlo0, hls, hrise0, hS5, hx2, O7, O8, fun q hq => ⟨(hot q hq).1, by have h0 := (hot q hq).2.1; have := hwall ((q : Int) - 1); rw [List.drop_zero, hr5]; omega⟩, T, by omega, by omega⟩
                ·
                  rintro j f wr2 ⟨L, Uf, hf, hj, hL0, hLs, hrise, hS5, hx2, O7, O8, hut, T, hb7, hb8⟩
                  obtain ⟨g, rfl⟩ : ∃ g, f = upl g [(1, .slice bo m d), (7, .slice (some ⟨b7, 0, none⟩) (nr + 1) (nr + 1)), (8, .slice (some ⟨b8, 0, none⟩) (nr + 1) (nr + 1)), (9, .int .u64 st), (10, .int .u64 L), (11, .int .i64 (i : Int)), (15, .slice a4 xs.length q4), (16, .slice a5 ms5.length q5), (17, .int .i64 (j : Int)), (5, .slice a nr q)] := ⟨f, upl_self hf⟩
                  clear hf
                  refine CW_seq ?_
                  refine CW_seq ?_
                  refine CW_reg rfl ?_
                  refine OW_ev (Ev_mvi (.inl rfl) rfl) rfl ?_
                  refine OW_ev (Ev_mvs (.inl rfl) rfl) rfl ?_
                  refine OW_ev (Ev_len und_26 rfl rfl) rfl ?_
                  refine OW_ev (Ev_lss rfl rfl rfl) rfl ?_
                  refine OW_nil ?_
                  refine CW_cond rfl (fun c25 => ?_) (fun c25 => ?_)
                  · have d25 := c25
                    first | (with_reducible replace d25 := of_decide_eq_true d25) | (with_reducible replace d25 := bnt d25; try (with_reducible replace d25 := of_decide_eq_false d25)) | skip
                    have hjx : j < xs.length := by omega
                    obtain ⟨x, hxj⟩ : ∃ x, xs[j]? = some x := ⟨xs[j], List.getElem?_eq_getElem hjx⟩
                    have hgx2 : (xs.map Ent.cells)[j]? = some x.cells := by rw [List.getElem?_map, hxj]; rfl
                    have K := hx2.at_ hgx2
                    obtain ⟨i0, hi0, hX⟩ := hxi x (List.mem_of_getElem? hxj)
                    have hup : L < x.stamp := by rw [drop_get hxj] at hrise; exact hrise.1
                    have hprt : -1 ≤ x.e.part ∧ x.e.part < (nr : Int) := by rw [hX.part]; unfold pt; split <;> omega
                    obtain ⟨jj, hjz, hjn⟩ : ∃ jj : Nat, x.e.part + 1 = (jj : Int) ∧ jj < nr + 1 := ⟨(x.e.part + 1).toNat, by omega, by omega⟩
                    have hgo := rowOf_get (T := Uf) hjn
                    have huj := hut jj hjn
                    have hX0 := hX.a0
                    have hX1 := hX.a1
                    have hnj := hL5.nn ((jj : Int) - 1)
                    have hnw : 0 ≤ wsum ((jj : Int) - 1) (xs.drop j) := wsum_nn fun y hy => by obtain ⟨_, _, h⟩ := hxi y (List.mem_of_mem_drop hy); exact h.a0
                    have hoj := (hot jj hjn).2.2
                    refine CW_skip ?_
                    refine CW_seq ?_
                    refine CW_block ?_
                    refine CW_seq ?_
                    refine CW_seq ?_
                    refine CW_reg rfl ?_
                    refine OW_ev (Ev_mvs (.inl rfl) rfl) rfl ?_
                    refine OW_ev (Ev_mvi (.inl rfl) rfl) rfl ?_
                    refine OW_ev (Ev_idx j (hx2.ad hgx2) sl_26 rfl rfl rfl rfl (by omega)) rfl ?_
                    refine OW_ev (Ev_fieldAddr fld_31_0 rfl rfl) rfl ?_
                    refine OW_ev (Ev_load one_27 rfl rfl (K.one 0 rfl)) rfl ?_
                    refine OW_ev (Ev_mvi (.inl rfl) rfl) rfl ?_
                    refine OW_ev (Ev_leq rfl rfl rfl) rfl ?_
                    refine OW_ev (Ev_mvb (.inl rfl) rfl) rfl ?_
                    refine OW_split (d := .tmp 149) rfl (fun c26 => ?_) (fun c26 => ?_)
                    · have d26 := c26
                      first | (with_reducible replace d26 := of_decide_eq_true d26) | (with_reducible replace d26 := bnt d26; try (with_reducible replace d26 := of_decide_eq_false d26)) | skip
                      omega
                    · have d26 := c26
                      first | (with_reducible replace d26 := of_decide_eq_false d26) | (with_reducible replace d26 := bnf d26; try (with_reducible replace d26 := of_decide_eq_true d26)) | skip
                      refine OW_yes rfl rfl rfl rfl c26 (Ev.stp (Ev_mvs (.inl rfl) rfl) ?_)
                      refine OW_yes rfl rfl rfl rfl c26 (Ev.stp (Ev_mvi (.inl rfl) rfl) ?_)
                      refine OW_yes rfl rfl rfl rfl c26 (Ev.stp (Ev_idx j (hx2.ad hgx2) sl_26 rfl rfl rfl rfl (by omega)) ?_)
                      refine OW_yes rfl rfl rfl rfl c26 (Ev.stp (Ev_fieldAddr fld_31_1 rfl rfl) ?_)
                      refine OW_yes rfl rfl rfl rfl c26 (Ev.stp (Ev_fieldAddr fld_29_2 rfl rfl) ?_)
                      refine OW_yes rfl rfl rfl rfl c26 (Ev.stp (Ev_load one_3 rfl rfl (K.one 3 rfl)) ?_)
                      refine OW_yes rfl rfl rfl rfl c26 (Ev.stp (Ev_lss rfl rfl rfl) ?_)
                      refine OW_ev (Ev_pickb_f rfl rfl c26 rfl) rfl ?_
                      refine OW_ev (Ev_mvb (.inl rfl) rfl) rfl ?_
                      refine OW_split (d := .tmp 158) rfl (fun c27 => ?_) (fun c27 => ?_)
                      · have d27 := c27
                        first | (with_reducible replace d27 := of_decide_eq_true d27) | (with_reducible replace d27 := bnt d27; try (with_reducible replace d27 := of_decide_eq_false d27)) | skip
                        omega
                      · have d27 := c27
                        first | (with_reducible replace d27 := of_decide_eq_false d27) | (with_reducible replace d27 := bnf d27; try (with_reducible replace d27 := of_decide_eq_true d27)) | skip
                        refine OW_yes rfl rfl rfl rfl c27 (Ev.stp (Ev_mvs (.inl rfl) rfl) ?_)
                        refine OW_yes rfl rfl rfl rfl c27 (Ev.stp (Ev_mvi (.inl rfl) rfl) ?_)
                        refine OW_yes rfl rfl rfl rfl c27 (Ev.stp (Ev_idx j (hx2.ad hgx2) sl_26 rfl rfl rfl rfl (by omega)) ?_)
                        refine OW_yes rfl rfl rfl rfl c27 (Ev.stp (Ev_fieldAddr fld_31_1 rfl rfl) ?_)
                        refine OW_yes rfl rfl rfl rfl c27 (Ev.stp (Ev_fieldAddr fld_29_2 rfl rfl) ?_)
                        refine OW_yes rfl rfl rfl rfl c27 (Ev.stp (Ev_load one_3 rfl rfl (K.one 3 rfl)) ?_)
                        refine OW_yes rfl rfl rfl rfl c27 (Ev.stp (Ev_mvs (.inl rfl) rfl) ?_)
                        refine OW_yes rfl rfl rfl rfl c27 (Ev.stp (Ev_len und_24 rfl rfl) ?_)
                        refine OW_yes rfl rfl rfl rfl c27 (Ev.stp (Ev_geq rfl rfl rfl) ?_)
                        refine OW_ev (Ev_pickb_f rfl rfl c27 rfl) rfl ?_
                        refine OW_nil ?_
                        refine CW_cond rfl (fun c28 => ?_) (fun c28 => ?_)
                        · have d28 := c28
                          first | (with_reducible replace d28 := of_decide_eq_true d28) | (with_reducible replace d28 := bnt d28; try (with_reducible replace d28 := of_decide_eq_false d28)) | skip
                          omega
                        · have d28 := c28
                          first | (with_reducible replace d28 := of_decide_eq_false d28) | (with_reducible replace d28 := bnf d28; try (with_reducible replace d28 := of_decide_eq_true d28)) | skip
                          refine CW_skip ?_
                          refine CW_seq ?_
                          refine CW_re [(1, .slice _ _ _), (5, .slice _ _ _), (7, .slice _ _ _), (8, .slice _ _ _), (9, .int _ _), (10, .int _ _), (11, .int _ _), (15, .slice _ _ _), (16, .slice _ _ _), (17, .int _ _)] ⟨rfl, rfl, rfl, rfl, rfl, rfl, rfl, rfl, rfl, rfl, trivial⟩ (fun g => ?_)
                          refine CW_reg rfl ?_
                          refine OW_ev (Ev_mvs (.inl rfl) rfl) rfl ?_
                          refine OW_ev (Ev_mvi (.inl rfl) rfl) rfl ?_
                          refine OW_ev (Ev_idx j (hx2.ad hgx2) sl_26 rfl rfl rfl rfl (by omega)) rfl ?_
                          refine OW_ev (Ev_fieldAddr fld_31_0 rfl rfl) rfl ?_
                          refine OW_ev (Ev_load one_27 rfl rfl (K.one 0 rfl)) rfl ?_
                          refine OW_ev (Ev_mvi (.inr rfl) rfl) rfl ?_
                          refine OW_nil ?_
                          refine CW_seq ?_
                          refine CW_reg rfl ?_
                          refine OW_ev (Ev_mvs (.inl rfl) rfl) rfl ?_
                          refine OW_ev (Ev_mvi (.inl rfl) rfl) rfl ?_
                          refine OW_ev (Ev_idx j (hx2.ad hgx2) sl_26 rfl rfl rfl rfl (by omega)) rfl ?_
                          refine OW_ev (Ev_fieldAddr fld_31_1 rfl rfl) rfl ?_
                          refine OW_ev (Ev_fieldAddr fld_29_3 rfl rfl) rfl ?_
                          refine OW_ev (Ev_load one_3 rfl rfl (K.one 4 rfl)) rfl ?_
                          refine OW_ev (Ev_eql rfl rfl rfl) rfl ?_
                          refine OW_nil ?_
                          refine CW_cond rfl (fun c29 => ?_) (fun c29 => ?_)
                          · have d29 := c29
                            first | (with_reducible replace d29 := of_decide_eq_true d29) | (with_reducible replace d29 := bnt d29; try (with_reducible replace d29 := of_decide_eq_false d29)) | skip
                            have hk7 : x.e.kind = 7 := d29
                            have hwt : wt x = x.e.a := by unfold wt; rw [if_pos hk7]
                            refine CW_draw (fun W => hS5.here W ∧ hx2.here W ∧ O7.here W ∧ K.here W) mixed rfl (fun _ _ _ h => nomatch h.1) ?_
                            have E30 : Kp0 _ _ := Kp.drew wr2 nob
                            have Z30 : (World.drew wr2).heap.size = wr2.heap.size := rfl
                            generalize World.drew wr2 = w30 at E30 Z30 ⊢
                            have T := T.keep0 E30
                            have hS5 := hS5.keep0 E30
                            have hx2 := hx2.keep0 E30
                            have O7 := O7.keep0 E30
                            have O8 := O8.keep0 E30
                            have K := K.keep0 E30
                            refine AW_take 0 rfl rfl (by decide +kernel) (by decide +kernel) (by decide +kernel) (fun w ⟨hS5, hx2, O7, K⟩ => Ev_mvs (.inl rfl) rfl) ⟨hS5, hx2, O7, K⟩ ?_
                            refine AW_take 1 rfl rfl (by decide +kernel) (by decide +kernel) (by decide +kernel) (fun w ⟨hS5, hx2, O7, K⟩ => Ev_mvs (.inl rfl) rfl) ⟨hS5, hx2, O7, K⟩ ?_
                            refine AW_take 2 rfl rfl (by decide +kernel) (by decide +kernel) (by decide +kernel) (fun w ⟨hS5, hx2, O7, K⟩ => Ev_mvi (.inl rfl) rfl) ⟨hS5, hx2, O7, K⟩ ?_
                            refine AW_take 3 rfl rfl (by decide +kernel) (by decide +kernel) (by decide +kernel) (fun w ⟨hS5, hx2, O7, K⟩ => Ev_idx j (hx2.ad hgx2) sl_26 rfl rfl rfl rfl (by omega)) ⟨hS5, hx2, O7, K⟩ ?_
                            refine AW_take 4 rfl rfl (by decide +kernel) (by decide +kernel) (by decide +kernel) (fun w ⟨hS5, hx2, O7, K⟩ => Ev_fieldAddr fld_31_1 rfl rfl) ⟨hS5, hx2, O7, K⟩ ?_
                            refine AW_take 5 rfl rfl (by decide +kernel) (by decide +kernel) (by decide +kernel) (fun w ⟨hS5, hx2, O7, K⟩ => Ev_fieldAddr fld_29_2 rfl rfl) ⟨hS5, hx2, O7, K⟩ ?_
                            refine AW_take 6 rfl rfl (by decide +kernel) (by decide +kernel) (by decide +kernel) (fun w ⟨hS5, hx2, O7, K⟩ => Ev_load one_3 rfl rfl (K.one 3 rfl)) ⟨hS5, hx2, O7, K⟩ ?_
                            refine AW_take 7 rfl rfl (by decide +kernel) (by decide +kernel) (by decide +kernel) (fun w ⟨hS5, hx2, O7, K⟩ => Ev_add rfl rfl rfl (by first | (apply IntWalk.i64_in; omega) | (apply IntWalk.u64_in; omega) | (apply IntWalk.u32_in; omega) | (apply IntWalk.u8_in; omega) | (apply IntWalk.i32_in; omega) | rfl)) ⟨hS5, hx2, O7, K⟩ ?_
                            refine AW_take 8 rfl rfl (by decide +kernel) (by decide +kernel) (by decide +kernel) (fun w ⟨hS5, hx2, O7, K⟩ => Ev_mvs (.inl rfl) rfl) ⟨hS5, hx2, O7, K⟩ ?_
                            refine AW_take 9 rfl rfl (by decide +kernel) (by decide +kernel) (by decide +kernel) (fun w ⟨hS5, hx2, O7, K⟩ => Ev_mvs (.inl rfl) rfl) ⟨hS5, hx2, O7, K⟩ ?_
                            refine AW_take 10 rfl rfl (by decide +kernel) (by decide +kernel) (by decide +kernel) (fun w ⟨hS5, hx2, O7, K⟩ => Ev_mvi (.inl rfl) rfl) ⟨hS5, hx2, O7, K⟩ ?_
                            refine AW_take 11 rfl rfl (by decide +kernel) (by decide +kernel) (by decide +kernel) (fun w ⟨hS5, hx2, O7, K⟩ => Ev_idx j (hx2.ad hgx2) sl_26 rfl rfl rfl rfl (by omega)) ⟨hS5, hx2, O7, K⟩ ?_
                            refine AW_take 12 rfl rfl (by decide +kernel) (by decide +kernel) (by decide +kernel) (fun w ⟨hS5, hx2, O7, K⟩ => Ev_fieldAddr fld_31_1 rfl rfl) ⟨hS5, hx2, O7, K⟩ ?_
                            refine AW_take 13 rfl rfl (by decide +kernel) (by decide +kernel) (by decide +kernel) (fun w ⟨hS5, hx2, O7, K⟩ => Ev_fieldAddr fld_29_2 rfl rfl) ⟨hS5, hx2, O7, K⟩ ?_
                            refine AW_take 14 rfl rfl (by decide +kernel) (by decide +kernel) (by decide +kernel) (fun w ⟨hS5, hx2, O7, K⟩ => Ev_load one_3 rfl rfl (K.one 3 rfl)) ⟨hS5, hx2, O7, K⟩ ?_
                            refine AW_take 15 rfl rfl (by decide +kernel) (by decide +kernel) (by decide +kernel) (fun w ⟨hS5, hx2, O7, K⟩ => Ev_add rfl rfl rfl (by first | (apply IntWalk.i64_in; omega) | (apply IntWalk.u64_in; omega) | (apply IntWalk.u32_in; omega) | (apply IntWalk.u8_in; omega) | (apply IntWalk.i32_in; omega) | rfl)) ⟨hS5, hx2, O7, K⟩ ?_
                            refine AW_take 16 rfl rfl (by decide +kernel) (by decide +kernel) (by decide +kernel) (fun w ⟨hS5, hx2, O7, K⟩ => Ev_idx jj (rfl : Ad (some ⟨b8, 0, none⟩)) sl_22 rfl rfl rfl hjz (by omega)) ⟨hS5, hx2, O7, K⟩ ?_
                            refine AW_take 18 rfl rfl (by decide +kernel) (by decide +kernel) (by decide +kernel) (fun w ⟨hS5, hx2, O7, K⟩ => Ev_mvs (.inl rfl) rfl) ⟨hS5, hx2, O7, K⟩ ?_
                            refine AW_take 19 rfl rfl (by decide +kernel) (by decide +kernel) (by decide +kernel) (fun w ⟨hS5, hx2, O7, K⟩ => Ev_mvi (.inl rfl) rfl) ⟨hS5, hx2, O7, K⟩ ?_
                            refine AW_take 20 rfl rfl (by decide +kernel) (by decide +kernel) (by decide +kernel) (fun w ⟨hS5, hx2, O7, K⟩ => Ev_idx j (hx2.ad hgx2) sl_26 rfl rfl rfl rfl (by omega)) ⟨hS5, hx2, O7, K⟩ ?_
                            refine AW_take 21 rfl rfl (by decide +kernel) (by decide +kernel) (by decide +kernel) (fun w ⟨hS5, hx2, O7, K⟩ => Ev_fieldAddr fld_31_1 rfl rfl) ⟨hS5, hx2, O7, K⟩ ?_
                            refine AW_take 22 rfl rfl (by decide +kernel) (by decide +kernel) (by decide +kernel) (fun w ⟨hS5, hx2, O7, K⟩ => Ev_fieldAddr fld_29_4 rfl rfl) ⟨hS5, hx2, O7, K⟩ ?_
                            refine AW_take 23 rfl rfl (by decide +kernel) (by decide +kernel) (by decide +kernel) (fun w ⟨hS5, hx2, O7, K⟩ => Ev_load one_3 rfl rfl (K.one 5 rfl)) ⟨hS5, hx2, O7, K⟩ ?_
                            refine AW_one 17 (by decide +kernel) (Next.mk rfl rfl ?_)
                            refine Ev.stp (Ev_load one_3 rfl rfl ((O8.sls.ld (j := 0) hgo rfl))) ?_
                            refine ⟨⟨hS5, hx2, O7, K⟩, ?_⟩
                            refine AW_take 24 rfl rfl (by decide +kernel) (by decide +kernel) (by decide +kernel) (fun w ⟨hS5, hx2, O7, K⟩ => Ev_add rfl rfl rfl (by first | (apply IntWalk.i64_in; omega) | (apply IntWalk.u64_in; omega) | (apply IntWalk.u32_in; omega) | (apply IntWalk.u8_in; omega) | (apply IntWalk.i32_in; omega) | rfl)) ⟨hS5, hx2, O7, K⟩ ?_
                            refine AW_take 25 rfl rfl (by decide +kernel) (by decide +kernel) (by decide +kernel) (fun w ⟨hS5, hx2, O7, K⟩ => Ev_idx jj (rfl : Ad (some ⟨b8, 0, none⟩)) sl_22 rfl rfl rfl hjz (by omega)) ⟨hS5, hx2, O7, K⟩ ?_
                            refine AW_one 26 (by decide +kernel) (Next.mk rfl rfl ?_)
                            refine Stp_storeOwn (vs := [.int _ _]) (jj) 0 O8 rfl hgo siz_3 rfl rfl rfl rfl (Nat.le_of_ble_eq_true rfl) rfl ?_
                            intro w31 hz31 E31 O31
                            have Z31 := E31.size
                            have T := T.transo E31 (by omega)
                            have hS5 := hS5.keepo E31 (fun b hb _ he => by have h1 : b8 = b := (by simpa [Value.ownBlock] using he); exact absurd h1.symm hb.2)
                            have hx2 := hx2.keepo E31 (fun b hb _ he => by have h1 : b8 = b := (by simpa [Value.ownBlock] using he); exact absurd h1.symm hb.2)
                            have O7 := O7.keepo E31 (fun b _ h1 h2 => by have e1 : b7 = b := (by simpa [Value.ownBlock] using h1); have e2 : b8 = b := (by simpa [Value.ownBlock] using h2); omega)
                            have K := K.keepo E31 (fun b hb _ he => by have h1 : b8 = b := (by simpa [Value.ownBlock] using he); have h2 := (hx2.2 (Sl.ne hgx2)).2.1; exact absurd (h1.trans hb).symm h2.2)
                            have O8 := O31
                            clear O31
                            have O8 : Own w.heap.size w31 3 1 (.slice (some ⟨b8, 0, none⟩) (nr + 1) (nr + 1)) (rowOf (nr + 1) (fun q => if q = jj then Uf jj + x.e.a else Uf q)) := by rw [← rowOf_set hjn]; exact O8
                            refine ⟨⟨hS5, hx2, O7, K⟩, ?_⟩
                            refine AW_done (by decide +kernel) ?_
                            refine CW_re [(1, .slice _ _ _), (5, .slice _ _ _), (7, .slice _ _ _), (8, .slice _ _ _), (9, .int _ _), (10, .int _ _), (11, .int _ _), (15, .slice _ _ _), (16, .slice _ _ _), (17, .int _ _)] ⟨rfl, rfl, rfl, rfl, rfl, rfl, rfl, rfl, rfl, rfl, trivial⟩ (fun g => ?_)
                            refine CW_reg rfl ?_
                            refine OW_ev (Ev_mvi (.inl rfl) rfl) rfl ?_
                            refine OW_ev (Ev_add rfl rfl rfl (by first | (apply IntWalk.i64_in; omega) | (apply IntWalk.u64_in; omega) | (apply IntWalk.u32_in; omega) | (apply IntWalk.u8_in; omega) | (apply IntWalk.i32_in; omega) | rfl)) rfl ?_
                            refine OW_ev (Ev_mvi (.inr rfl) rfl) rfl ?_
                            refine OW_nil ?_
                            have hdj := drop_get hxj
                            rw [hdj] at hrise
                            refine ⟨j + 1, by omega, x.stamp, (fun q => if q = jj then Uf jj + x.e.a else Uf q), ⟨rfl, rfl, rfl, rfl, rfl, rfl, rfl, rfl, congrArg (Value.int .i64) (by omega), rfl, trivial⟩, by omega, by omega, hX.ub, hrise.2, hS5, hx2, O7, O8, fun q hq => ?_, T, by omega, by omega⟩
                            have h0 := hut q hq
                            rw [hdj] at h0
                            simp only [wsum] at h0
                            by_cases e : q = jj
                            · subst e; rw [if_pos (by omega)] at h0; simp only [if_pos]; omega
                            · rw [if_neg (by omega)] at h0; simp only [if_neg e]; omega
                          · have d29 := c29
                            first | (with_reducible replace d29 := of_decide_eq_false d29) | (with_reducible replace d29 := bnf d29; try (with_reducible replace d29 := of_decide_eq_true d29)) | skip
                            have hk7 : ¬ x.e.kind = 7 := d29
                            have hwt : wt x = 1 := by unfold wt; rw [if_neg hk7]
                            refine CW_reg rfl ?_
                            refine OW_ev (Ev_mvs (.inl rfl) rfl) rfl ?_
                            refine OW_ev (Ev_mvs (.inl rfl) rfl) rfl ?_
                            refine OW_ev (Ev_mvi (.inl rfl) rfl) rfl ?_
                            refine OW_ev (Ev_idx j (hx2.ad hgx2) sl_26 rfl rfl rfl rfl (by omega)) rfl ?_
                            refine OW_ev (Ev_fieldAddr fld_31_1 rfl rfl) rfl ?_
                            refine OW_ev (Ev_fieldAddr fld_29_2 rfl rfl) rfl ?_
                            refine OW_ev (Ev_load one_3 rfl rfl (K.one 3 rfl)) rfl ?_
                            refine OW_ev (Ev_add rfl rfl rfl (by first | (apply IntWalk.i64_in; omega) | (apply IntWalk.u64_in; omega) | (apply IntWalk.u32_in; omega) | (apply IntWalk.u8_in; omega) | (apply IntWalk.i32_in; omega) | rfl)) rfl ?_
                            refine OW_ev (Ev_idx jj (rfl : Ad (some ⟨b8, 0, none⟩)) sl_22 rfl rfl rfl hjz (by omega)) rfl ?_
                            refine OW_ev (Ev_load one_3 rfl rfl ((O8.sls.ld (j := 0) hgo rfl))) rfl ?_
                            refine OW_ev (Ev_add rfl rfl rfl (by first | (apply IntWalk.i64_in; omega) | (apply IntWalk.u64_in; omega) | (apply IntWalk.u32_in; omega) | (apply IntWalk.u8_in; omega) | (apply IntWalk.i32_in; omega) | rfl)) rfl ?_
                            refine OW_ev (Ev_idx jj (rfl : Ad (some ⟨b8, 0, none⟩)) sl_22 rfl rfl rfl hjz (by omega)) rfl ?_
                            refine OW_st rfl (Stp_storeOwn (vs := [.int _ _]) (jj) 0 O8 rfl hgo siz_3 rfl rfl rfl rfl (Nat.le_of_ble_eq_true rfl) rfl ?_)
                            intro w32 hz32 E32 O32
                            have Z32 := E32.size
                            have T := T.transo E32 (by omega)
                            have hS5 := hS5.keepo E32 (fun b hb _ he => by have h1 : b8 = b := (by simpa [Value.ownBlock] using he); exact absurd h1.symm hb.2)
                            have hx2 := hx2.keepo E32 (fun b hb _ he => by have h1 : b8 = b := (by simpa [Value.ownBlock] using he); exact absurd h1.symm hb.2)
                            have O7 := O7.keepo E32 (fun b _ h1 h2 => by have e1 : b7 = b := (by simpa [Value.ownBlock] using h1); have e2 : b8 = b := (by simpa [Value.ownBlock] using h2); omega)
                            have O8 := O32
                            clear O32
                            have O8 : Own w.heap.size w32 3 1 (.slice (some ⟨b8, 0, none⟩) (nr + 1) (nr + 1)) (rowOf (nr + 1) (fun q => if q = jj then Uf jj + 1 else Uf q)) := by rw [← rowOf_set hjn]; exact O8
                            refine OW_nil ?_
                            refine CW_re [(1, .slice _ _ _), (5, .slice _ _ _), (7, .slice _ _ _), (8, .slice _ _ _), (9, .int _ _), (10, .int _ _), (11, .int _ _), (15, .slice _ _ _), (16, .slice _ _ _), (17, .int _ _)] ⟨rfl, rfl, rfl, rfl, rfl, rfl, rfl, rfl, rfl, rfl, trivial⟩ (fun g => ?_)
                            refine CW_reg rfl ?_
                            refine OW_ev (Ev_mvi (.inl rfl) rfl) rfl ?_
                            refine OW_ev (Ev_add rfl rfl rfl (by first | (apply IntWalk.i64_in; omega) | (apply IntWalk.u64_in; omega) | (apply IntWalk.u32_in; omega) | (apply IntWalk.u8_in; omega) | (apply IntWalk.i32_in; omega) | rfl)) rfl ?_
                            refine OW_ev (Ev_mvi (.inr rfl) rfl) rfl ?_
                            refine OW_nil ?_
                            have hdj := drop_get hxj
                            rw [hdj] at hrise
                            refine ⟨j + 1, by omega, x.stamp, (fun q => if q = jj then Uf jj + 1 else Uf q), ⟨rfl, rfl, rfl, rfl, rfl, rfl, rfl, rfl, congrArg (Value.int .i64) (by omega), rfl, trivial⟩, by omega, by omega, hX.ub, hrise.2, hS5, hx2, O7, O8, fun q hq => ?_, T, by omega, by omega⟩
                            have h0 := hut q hq
                            rw [hdj] at h0
                            simp only [wsum] at h0
                            by_cases e : q = jj
                            · subst e; rw [if_pos (by omega)] at h0; simp only [if_pos]; omega
                            · rw [if_neg (by omega)] at h0; simp only [if_neg e]; omega
                  · have d25 := c25
                    first | (with_reducible replace d25 := of_decide_eq_false d25) | (with_reducible replace d25 := bnf d25; try (with_reducible replace d25 := of_decide_eq_true d25)) | skip
                    have hjx : j = xs.length := by omega
                    rw [hjx, List.drop_length] at hrise hut
                    refine CW_exit ?_
                    refine blk_same ?_
                    refine CW_reg rfl ?_
                    refine OW_ev (Ev_mvs (.inl rfl) rfl) rfl ?_
                    refine OW_ev (Ev_mvs (.inr rfl) rfl) rfl ?_
                    refine OW_nil ?_
                    refine CW_reg rfl ?_
                    refine OW_ev (Ev_mvi (.inl rfl) rfl) rfl ?_
                    refine OW_ev (Ev_add rfl rfl rfl (by first | (apply IntWalk.i64_in; omega) | (apply IntWalk.u64_in; omega) | (apply IntWalk.u32_in; omega) | (apply IntWalk.u8_in; omega) | (apply IntWalk.i32_in; omega) | rfl)) rfl ?_
                    refine OW_ev (Ev_mvi (.inr rfl) rfl) rfl ?_
                    refine OW_nil ?_
                    refine ⟨i + 1, by omega, ms5, a5, q5, L, st, Of, Uf, ⟨rfl, congrArg (fun n => Value.slice a5 n q5) hm5, rfl, rfl, rfl, rfl, congrArg (Value.int .i64) (by omega), trivial⟩, by omega, by omega, by omega, by omega, by omega, ?_, hS5, O7, O8, fun q hq => ?_, fun h => hfin (by omega), T, by omega, by omega⟩
                    · cases hrise; exact hL5
                    · have h0 := hut q hq; have h3 := (hot q hq).2.2; simp only [wsum] at h0; exact ⟨h0.1, by omega, by omega⟩
          · have d15 := c15
            first | (with_reducible replace d15 := of_decide_eq_false d15) | (with_reducible replace d15 := bnf d15; try (with_reducible replace d15 := of_decide_eq_true d15)) | skip
            have him1 : i = m + 1 := by omega
            have heq : ∀ q : Nat, q < nr + 1 → Tf q = Of q := fun q hq => by have h0 := hot q hq; rw [wall_zero (hend him1)] at h0; omega
            refine CW_exit ?_
            refine blk_same ?_
            refine CW_seq ?_
            refine CW_seq ?_
            refine CW_reg rfl ?_
            refine OW_ev (Ev_c (.inr rfl)) rfl ?_
            refine OW_nil ?_
            refine CW_block ?_
            refine CW_loop (α := Nat) (fun (j : Nat) f wr2 => AllEq f [(5, .slice a nr q), (7, .slice (some ⟨b7, 0, none⟩) (nr + 1) (nr + 1)), (8, .slice (some ⟨b8, 0, none⟩) (nr + 1) (nr + 1)), (18, .int .i64 (j : Int))] ∧ (j ≤ nr + 1) ∧ (RgsS (fun b => b ≠ b7 ∧ b ≠ b8) wr2 a ms) ∧ (Own w.heap.size wr2 3 1 (.slice (some ⟨b7, 0, none⟩) (nr + 1) (nr + 1)) (rowOf (nr + 1) Of)) ∧ (Own w.heap.size wr2 3 1 (.slice (some ⟨b8, 0, none⟩) (nr + 1) (nr + 1)) (rowOf (nr + 1) Tf)) ∧ (Kp0 w wr2)) (fun j => nr + 1 - j) 0 ?_ ?_
            ·
              exact ⟨⟨rfl, rfl, rfl, rfl, trivial⟩, Nat.zero_le _, hS, O7, O8, T⟩
            ·
              rintro j f wr2 ⟨hf, hj, hS, O7, O8, T⟩
              obtain ⟨g, rfl⟩ : ∃ g, f = upl g [(5, .slice a nr q), (7, .slice (some ⟨b7, 0, none⟩) (nr + 1) (nr + 1)), (8, .slice (some ⟨b8, 0, none⟩) (nr + 1) (nr + 1)), (18, .int .i64 (j : Int))] := ⟨f, upl_self hf⟩
              clear hf
              refine CW_seq ?_
              refine CW_seq ?_
              refine CW_reg rfl ?_
              refine OW_ev (Ev_mvi (.inl rfl) rfl) rfl ?_
              refine OW_ev (Ev_mvs (.inl rfl) rfl) rfl ?_
              refine OW_ev (Ev_len und_22 rfl rfl) rfl ?_
              refine OW_ev (Ev_lss rfl rfl rfl) rfl ?_
              refine OW_nil ?_
              refine CW_cond rfl (fun c33 => ?_) (fun c33 => ?_)
              · have d33 := c33
                first | (with_reducible replace d33 := of_decide_eq_true d33) | (with_reducible replace d33 := bnt d33; try (with_reducible replace d33 := of_decide_eq_false d33)) | skip
                have hjn : j < nr + 1 := by omega
                have hg7 := rowOf_get (T := Of) hjn
                have hg8 := rowOf_get (T := Tf) hjn
                refine CW_skip ?_
                refine CW_seq ?_
                refine CW_block ?_
                refine CW_seq ?_
                refine CW_draw (fun W => hS.here W ∧ O7.here W ∧ O8.here W) mixed rfl (fun _ _ _ h => nomatch h.1) ?_
                have E34 : Kp0 _ _ := Kp.drew wr2 nob
                have Z34 : (World.drew wr2).heap.size = wr2.heap.size := rfl
                generalize World.drew wr2 = w34 at E34 Z34 ⊢
                have T := T.keep0 E34
                have hS := hS.keep0 E34
                have O7 := O7.keep0 E34
                have O8 := O8.keep0 E34
                refine AW_take 0 rfl rfl (by decide +kernel) (by decide +kernel) (by decide +kernel) (fun w ⟨hS, O7, O8⟩ => Ev_mvs (.inl rfl) rfl) ⟨hS, O7, O8⟩ ?_
                refine AW_take 1 rfl rfl (by decide +kernel) (by decide +kernel) (by decide +kernel) (fun w ⟨hS, O7, O8⟩ => Ev_mvi (.inl rfl) rfl) ⟨hS, O7, O8⟩ ?_
                refine AW_take 2 rfl rfl (by decide +kernel) (by decide +kernel) (by decide +kernel) (fun w ⟨hS, O7, O8⟩ => Ev_idx j (rfl : Ad (some ⟨b8, 0, none⟩)) sl_22 rfl rfl rfl rfl hjn) ⟨hS, O7, O8⟩ ?_
                refine AW_take 3 rfl rfl (by decide +kernel) (by decide +kernel) (by decide +kernel) (fun w ⟨hS, O7, O8⟩ => Ev_load one_3 rfl rfl ((O8.sls.ld (j := 0) hg8 rfl))) ⟨hS, O7, O8⟩ ?_
                refine AW_take 4 rfl rfl (by decide +kernel) (by decide +kernel) (by decide +kernel) (fun w ⟨hS, O7, O8⟩ => Ev_mvs (.inl rfl) rfl) ⟨hS, O7, O8⟩ ?_
                refine AW_take 5 rfl rfl (by decide +kernel) (by decide +kernel) (by decide +kernel) (fun w ⟨hS, O7, O8⟩ => Ev_mvi (.inl rfl) rfl) ⟨hS, O7, O8⟩ ?_
                refine AW_take 6 rfl rfl (by decide +kernel) (by decide +kernel) (by decide +kernel) (fun w ⟨hS, O7, O8⟩ => Ev_idx j (rfl : Ad (some ⟨b7, 0, none⟩)) sl_22 rfl rfl rfl rfl hjn) ⟨hS, O7, O8⟩ ?_
                refine AW_take 7 rfl rfl (by decide +kernel) (by decide +kernel) (by decide +kernel) (fun w ⟨hS, O7, O8⟩ => Ev_load one_3 rfl rfl ((O7.sls.ld (j := 0) hg7 rfl))) ⟨hS, O7, O8⟩ ?_
                refine AW_take 8 rfl rfl (by decide +kernel) (by decide +kernel) (by decide +kernel) (fun w ⟨hS, O7, O8⟩ => Ev_neq rfl rfl rfl) ⟨hS, O7, O8⟩ ?_
                refine AW_done (by decide +kernel) ?_
                refine CW_cond rfl (fun c35 => ?_) (fun c35 => ?_)
                · have d35 := c35
                  first | (with_reducible replace d35 := of_decide_eq_true d35) | (with_reducible replace d35 := bnt d35; try (with_reducible replace d35 := of_decide_eq_false d35)) | skip
                  exact absurd (heq j hjn) d35
                · have d35 := c35
                  first | (with_reducible replace d35 := of_decide_eq_false d35) | (with_reducible replace d35 := bnf d35; try (with_reducible replace d35 := of_decide_eq_true d35)) | skip
                  refine CW_skip ?_
                  refine CW_reg rfl ?_
                  refine OW_ev (Ev_mvi (.inl rfl) rfl) rfl ?_
                  refine OW_ev (Ev_add rfl rfl rfl (by first | (apply IntWalk.i64_in; omega) | (apply IntWalk.u64_in; omega) | (apply IntWalk.u32_in; omega) | (apply IntWalk.u8_in; omega) | (apply IntWalk.i32_in; omega) | rfl)) rfl ?_
                  refine OW_ev (Ev_mvi (.inr rfl) rfl) rfl ?_
                  refine OW_nil ?_
                  exact ⟨j + 1, by omega, ⟨rfl, rfl, rfl, congrArg (Value.int .i64) (by omega), trivial⟩, by omega, hS, O7, O8, T⟩
              · have d33 := c33
                first | (with_reducible replace d33 := of_decide_eq_false d33) | (with_reducible replace d33 := bnf d33; try (with_reducible replace d33 := of_decide_eq_true d33)) | skip
                refine CW_exit ?_
                refine blk_same ?_
                refine CW_seq ?_
                refine CW_reg rfl ?_
                refine OW_st rfl (Stp_call ent_6 rfl rfl rfl (merged_c _) ?_)
                rintro _ w36 ⟨E36, rfl⟩
                have Z36 := E36.size
                have T := T.keep0 E36
                have hS := hS.keep0 E36
                have O7 := O7.keep0 E36
                have O8 := O8.keep0 E36
                refine OW_ev (Ev_mvb (.inl rfl) rfl) rfl ?_
                refine OW_split (d := .tmp 236) rfl (fun c37 => ?_) (fun c37 => ?_)
                · have d37 := c37
                  first | (with_reducible replace d37 := of_decide_eq_true d37) | (with_reducible replace d37 := bnt d37; try (with_reducible replace d37 := of_decide_eq_false d37)) | skip
                  refine OW_yes rfl rfl rfl rfl c37 (Ev.stp (Ev_mvs (.inl rfl) rfl) ?_)
                  refine OW_yes rfl rfl rfl rfl c37 (Stp_call ent_10 rfl rfl rfl (held_c hml (by omega) hS) ?_)
                  rintro _ w38 ⟨E38, rfl⟩
                  have Z38 := E38.size
                  have T := T.keep0 E38
                  have hS := hS.keep0 E38
                  have O7 := O7.keep0 E38
                  have O8 := O8.keep0 E38
                  refine OW_yes rfl rfl rfl rfl c37 (Ev.stp (Ev_eql rfl rfl rfl) ?_)
                  refine OW_ev (Ev_pickb_t rfl rfl c37 rfl) rfl ?_
                  refine OW_ev (Ev_mvb (.inr rfl) rfl) rfl ?_
                  refine OW_nil ?_
                  refine CW_ret ?_
                  refine ⟨rfl, _, (.tmp rfl .nil), ?_⟩
                  first | exact ⟨T, vb rfl (decide_eq_true (by rw [hL.held, hend him1]; rfl))⟩ | exact ⟨T, rfl⟩
                · have d37 := c37
                  first | (with_reducible replace d37 := of_decide_eq_false d37) | (with_reducible replace d37 := bnf d37; try (with_reducible replace d37 := of_decide_eq_true d37)) | skip
                  cases c37

end Go.Proofs.Ytiedmigdgelhkaa