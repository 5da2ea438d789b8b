/- The contract of slots.Read, of a disk that does not go down. -/
import Derived.Test.YthfelkjklnhdiaaSlot2
namespace Go.Proofs.Ythfelkjklnhdiaa
open Go Go.RowKit Bx Go.Proofs

theorem read_calm {D : Nat → Prop} {w : World} {bd i : Nat} {d : DkM} (hS : DkS D w bd d) (hg : calm d.g) (hi : i < d.many) :
    Calls Try.prog 25 #[.pointer (some ⟨bd, 0, none⟩), .int .i64 (i : Int)] w (Ret fun v w' => Kp (fun b => b = bd) w w' ∧ DkS D w' bd d ∧ v = .tuple #[St (secL d.size d.V i), .int .i64 0]) := by
  have hrc := read_c hS (i : Int)
  have hrd : d.rd (i : Int) = (secL d.size d.V i, 0, d.g) := by unfold DkM.rd; rw [if_neg (by simp [hg.1]), if_neg (by omega), Int.toNat_natCast, calm_cnt hg]
  rw [hrd] at hrc
  exact hrc
/-- One slot more, looked at. -/
def stepS (c : SupM × Bool) (l : List UInt8) : SupM × Bool := if (getS l).2 = 0 then (if (!c.2 || decide ((c.1.ep : Int) < ((getS l).1.ep : Int))) = true then ((getS l).1, true) else c) else c
def chs (A B : List UInt8) : Nat → SupM × Bool
  | 0 => (SupM.zero, false)
  | 1 => stepS (SupM.zero, false) A
  | _ => stepS (stepS (SupM.zero, false) A) B
theorem stepS_ok {c : SupM × Bool} (h : c.1.Ok) (l : List UInt8) : (stepS c l).1.Ok := by
  unfold stepS
  split
  · split
    · exact getS_ok l
    · exact h
  · exact h
theorem chs_ok (A B : List UInt8) (i : Nat) : (chs A B i).1.Ok := by
  unfold chs
  split
  · exact zero_ok
  · exact stepS_ok zero_ok A
  · exact stepS_ok (stepS_ok zero_ok A) B
theorem chs_step {A B l : List UInt8} {i : Nat} (h : [A, B][i]? = some l) : chs A B (i + 1) = stepS (chs A B i) l := by
  match i, h with
  | 0, h => injection h with h; subst h; rfl
  | 1, h => injection h with h; subst h; rfl
  | _ + 2, h => cases h
/-- What Read yields of what both slots hold. -/
def readS (A B : List UInt8) : SupM × Int := if (chs A B 2).2 = false then (SupM.zero, 7) else ((chs A B 2).1, 0)
theorem readS_ok (A B : List UInt8) : (readS A B).1.Ok := by
  unfold readS
  split
  · exact zero_ok
  · exact chs_ok A B 2

set_option maxRecDepth 10000 in
set_option maxHeartbeats 2000000 in
theorem sread_c {D : Nat → Prop} {w : World} {bd : Nat} {d : DkM} {A B : List UInt8} (hS : DkS D w bd d) (hfit : fitE d = 0) (hg : calm d.g) (hA : A = secL d.size d.V 0) (hB : B = secL d.size d.V 1) : Calls Try.prog 22 #[.pointer (some ⟨bd, 0, none⟩)] w (Ret fun v w' => Kp (fun b => b = bd) w w' ∧ DkS D w' bd d ∧ v = .tuple #[.agg (readS A B).1.cells.toArray, .int .i64 (readS A B).2]) := by
  have hS := hS.bound
  obtain ⟨NW, hNW⟩ : ∃ x, x = w.heap.size := ⟨_, rfl⟩
  rw [← hNW] at hS
  have hbd := hS.sep.d1.2
  have hmny : 2 ≤ d.many := by unfold fitE at hfit; split at hfit <;> omega
  have T : Kp (fun b => b = bd) w w := Kp.refl _ _
  refine calls_start Try.func22 rfl (n := 64) rfl rfl rfl ?_
  refine CW_seq ?_
  refine CW_reg rfl ?_
  refine OW_st rfl (Stp_alloc zero_48 rfl ?_)
  intro b1 w1 hb1 hz1 E1 B1
  have L1 : _ ≤ b1 := Nat.le_trans T.size (Nat.le_of_eq hb1.symm)
  have hS := hS.keep0 E1
  have T := T.keep0 E1
  obtain ⟨bR, rfl⟩ : ∃ b, b = b1 := ⟨_, rfl⟩
  have HR : Blk w1 bR 48 SupM.zero.cells := B1
  have hRl := HR.lt
  have hRw : NW ≤ bR := by omega
  refine OW_ev (Ev_c (.inr rfl)) rfl ?_
  refine OW_nil ?_
  refine CW_seq ?_
  refine CW_seq ?_
  refine CW_reg rfl ?_
  refine OW_ev (Ev_mvp (.inl rfl) rfl) rfl ?_
  refine OW_st rfl (Stp_call ent_19 rfl rfl rfl (fit_c hS) ?_)
  rintro _ w2 ⟨E2, rfl⟩
  have Z2 := E2.size
  have hS := hS.keep0 E2
  have T := T.keep0 E2
  have HR := HR.keep0 E2
  refine OW_ev (Ev_mvi (.inr rfl) rfl) rfl ?_
  refine OW_nil ?_
  refine CW_seq ?_
  refine CW_reg rfl ?_
  refine OW_ev (Ev_mvi (.inl rfl) rfl) rfl ?_
  refine OW_ev (Ev_neq rfl rfl rfl) rfl ?_
  refine OW_nil ?_
  refine CW_cond rfl (fun c3 => ?_) (fun c3 => ?_)
  · have d3 := c3
    first | (with_reducible replace d3 := of_decide_eq_true d3) | (with_reducible replace d3 := bnt d3; try (with_reducible replace d3 := of_decide_eq_false d3)) | skip
    exact absurd hfit d3
  · have d3 := c3
    first | (with_reducible replace d3 := of_decide_eq_false d3) | (with_reducible replace d3 := bnf d3; try (with_reducible replace d3 := of_decide_eq_true d3)) | skip
    refine CW_skip ?_
    refine CW_seq ?_
    refine CW_reg rfl ?_
    refine OW_st rfl (Stp_alloc zero_84 rfl ?_)
    intro b4 w4 hb4 hz4 E4 B4
    have L4 : _ ≤ b4 := Nat.le_trans T.size (Nat.le_of_eq hb4.symm)
    have hS := hS.keep0 E4
    have T := T.keep0 E4
    have HR := HR.keep0 E4
    obtain ⟨bA, rfl⟩ : ∃ b, b = b4 := ⟨_, rfl⟩
    have HA : Blk w4 bA 84 [St [], St []] := B4
    have hAR : bR < bA := by omega
    refine OW_nil ?_
    refine CW_seq ?_
    refine CW_seq ?_
    refine CW_reg rfl ?_
    refine OW_ev (Ev_c (.inl rfl)) rfl ?_
    refine OW_nil ?_
    refine CW_block ?_
    refine CW_loop (α := Nat) (fun (i : Nat) f wr => AllEq f [(0, .pointer (some ⟨bd, 0, none⟩)), (2, .pointer (some ⟨bR, 0, none⟩)), (3, .int .i64 0), (5, .pointer (some ⟨bA, 0, none⟩)), (20, .int .i64 (i : Int))] ∧ (i ≤ 2) ∧ (Blk wr bR 48 SupM.zero.cells) ∧ (Blk wr bA 84 [St (if 0 < i then A else []), St (if 1 < i then B else [])]) ∧ (DkS (fun b => D b ∧ b < NW) wr bd d) ∧ (Kp (fun b => b = bd) w wr)) (fun i => 2 - i) 0 ?_ ?_
    ·
      exact ⟨⟨rfl, rfl, rfl, rfl, rfl, trivial⟩, Nat.zero_le _, HR, HA, hS, T⟩
    ·
      rintro i f wr ⟨hf, hi, HR, HA, hS, T⟩
      obtain ⟨g, rfl⟩ : ∃ g, f = upl g [(0, .pointer (some ⟨bd, 0, none⟩)), (2, .pointer (some ⟨bR, 0, none⟩)), (3, .int .i64 0), (5, .pointer (some ⟨bA, 0, none⟩)), (20, .int .i64 (i : Int))] := ⟨f, upl_self hf⟩
      clear hf
      refine CW_seq ?_
      refine CW_reg rfl ?_
      refine OW_ev (Ev_lss rfl rfl rfl) rfl ?_
      refine OW_nil ?_
      refine CW_seq ?_
      refine CW_cond rfl (fun c5 => ?_) (fun c5 => ?_)
      · have d5 := c5
        first | (with_reducible replace d5 := of_decide_eq_true d5) | (with_reducible replace d5 := bnt d5; try (with_reducible replace d5 := of_decide_eq_false d5)) | skip
        have hi2 : i < 2 := by omega
        refine CW_skip ?_
        refine CW_seq ?_
        refine CW_block ?_
        refine CW_seq ?_
        refine CW_reg rfl ?_
        refine OW_ev (Ev_mvi (.inl rfl) rfl) rfl ?_
        refine OW_ev (Ev_mvi (.inr rfl) rfl) rfl ?_
        refine OW_nil ?_
        refine CW_seq ?_
        refine CW_reg rfl ?_
        refine OW_ev (Ev_mvp (.inl rfl) rfl) rfl ?_
        refine OW_ev (Ev_mvi (.inl rfl) rfl) rfl ?_
        refine OW_st rfl (Stp_call ent_25 rfl rfl rfl (read_calm hS hg (i := i) (by omega)) ?_)
        rintro _ w6 ⟨E6, HS2, rfl⟩
        have Z6 := E6.size
        have HR := HR.keepb E6 (by omega)
        have HA := HA.keepb E6 (by omega)
        have T := T.trans' E6 (fun i _ h => h)
        have hS := HS2
        refine OW_ev (Ev_mvt (.inl rfl) rfl) rfl ?_
        refine OW_ev (Ev_extract (vs := _) rfl rfl rfl) rfl ?_
        refine OW_ev (Ev_extract (vs := _) rfl rfl rfl) rfl ?_
        refine OW_ev (Ev_mvst (.inr rfl) rfl) rfl ?_
        refine OW_ev (Ev_mvi (.inr rfl) rfl) rfl ?_
        refine OW_nil ?_
        refine CW_seq ?_
        refine CW_seq ?_
        refine CW_reg rfl ?_
        refine OW_ev (Ev_mvi (.inl rfl) rfl) rfl ?_
        refine OW_ev (Ev_neq rfl rfl rfl) rfl ?_
        refine OW_nil ?_
        refine CW_cond_f rfl rfl ?_
        refine CW_skip ?_
        refine CW_re [(0, .pointer _), (2, .pointer _), (3, .int _ _), (5, .pointer _), (6, .int _ _), (7, .string _), (20, .int _ _)] ⟨rfl, rfl, rfl, rfl, rfl, rfl, rfl, trivial⟩ (fun g => ?_)
        refine CW_reg rfl ?_
        refine OW_ev (Ev_mvi (.inl rfl) rfl) rfl ?_
        refine OW_ev (Ev_mvst (.inl rfl) rfl) rfl ?_
        refine OW_ev (Ev_idxArr i arr_84 rfl rfl rfl rfl hi2) rfl ?_
        refine OW_st rfl (Stp_store (q := (0 + i * 1)) (vs := [St (secL d.size d.V i)]) HA siz_9 rfl rfl rfl rfl (by show 0 + i * 1 + 1 ≤ 2; omega) rfl ?_)
        intro w7 hz7 E7 B7
        have Z7 := E7.size
        have HR := HR.keepb E7 (by omega)
        have T := T.trans' E7 (fun i hi h => by have h : i = bA := h; omega)
        have hS := hS.keepb E7 (fun h => by have := h.2; omega)
        clear HA
        have HA := B7
        clear B7
        have HA : Blk w7 bA 84 [St (if 0 < i + 1 then A else []), St (if 1 < i + 1 then B else [])] := by
          rcases (show i = 0 ∨ i = 1 by omega) with h | h
          · subst h; rw [hA]; exact HA
          · subst h; rw [hB]; exact HA
        refine OW_nil ?_
        refine CW_reg rfl ?_
        refine OW_ev (Ev_add rfl rfl rfl (by first | (apply IntWalk.i64_in; omega) | (apply IntWalk.u64_in; omega) | (apply IntWalk.u32_in; omega) | (apply IntWalk.u8_in; omega) | (apply IntWalk.i32_in; omega) | rfl)) rfl ?_
        refine OW_ev (Ev_mvi (.inl rfl) rfl) rfl ?_
        refine OW_nil ?_
        exact ⟨i + 1, by omega, ⟨rfl, rfl, rfl, rfl, congrArg (Value.int .i64) (by omega), trivial⟩, by omega, HR, HA, hS, T⟩
      · have d5 := c5
        first | (with_reducible replace d5 := of_decide_eq_false d5) | (with_reducible replace d5 := bnf d5; try (with_reducible replace d5 := of_decide_eq_true d5)) | skip
        have hi2 : i = 2 := by omega
        subst hi2
        have HA : Blk _ bA 84 [St A, St B] := HA
        have hAl := HA.lt
        refine CW_exit ?_
        refine blk_same ?_
        refine CW_seq ?_
        refine CW_reg rfl ?_
        refine OW_ev (Ev_build (l := choC SupM.zero false) plc_88 zero_88 rfl rfl rfl) rfl ?_
        refine OW_st rfl (Stp_box rfl rfl rfl ?_)
        intro b8 w8 hb8 hz8 E8 B8
        have L8 : _ ≤ b8 := Nat.le_trans T.size (Nat.le_of_eq hb8.symm)
        have HR := HR.keep0 E8
        have HA := HA.keep0 E8
        have hS := hS.keep0 E8
        have T := T.keep0 E8
        replace B8 : Blk w8 b8 88 (choC SupM.zero false) := B8
        obtain ⟨bc, rfl⟩ : ∃ b, b = b8 := ⟨_, rfl⟩
        have HC := B8
        have hcl : bA < bc := by omega
        refine OW_ev (Ev_mvp (.inr rfl) rfl) rfl ?_
        refine OW_nil ?_
        refine CW_seq ?_
        refine CW_seq ?_
        refine CW_reg rfl ?_
        refine OW_ev (Ev_loadAgg (l := [St A, St B]) agg_84 rfl rfl (HA.cells rfl) rfl) rfl ?_
        refine OW_ev (Ev_c (.inl rfl)) rfl ?_
        refine OW_nil ?_
        refine CW_block ?_
        refine CW_loop (α := Nat) (fun (i : Nat) f wr => AllEq f [(0, .pointer (some ⟨bd, 0, none⟩)), (2, .pointer (some ⟨bR, 0, none⟩)), (3, .int .i64 0), (9, .pointer (some ⟨bc, 0, none⟩)), (39, .agg #[St A, St B]), (40, .int .i64 (i : Int))] ∧ (i ≤ 2) ∧ (Blk wr bR 48 SupM.zero.cells) ∧ (Blk wr bc 88 (choC (chs A B i).1 (chs A B i).2)) ∧ (DkS (fun b => D b ∧ b < NW) wr bd d) ∧ (Kp (fun b => b = bd) w wr)) (fun i => 2 - i) 0 ?_ ?_
        ·
          exact ⟨⟨rfl, rfl, rfl, rfl, rfl, rfl, trivial⟩, Nat.zero_le _, HR, HC, hS, T⟩
        ·
          rintro i f wr ⟨hf, hi, HR, HC, hS, T⟩
          obtain ⟨g, rfl⟩ : ∃ g, f = upl g [(0, .pointer (some ⟨bd, 0, none⟩)), (2, .pointer (some ⟨bR, 0, none⟩)), (3, .int .i64 0), (9, .pointer (some ⟨bc, 0, none⟩)), (39, .agg #[St A, St B]), (40, .int .i64 (i : Int))] := ⟨f, upl_self hf⟩
          clear hf
          refine CW_seq ?_
          refine CW_reg rfl ?_
          refine OW_ev (Ev_lss rfl rfl rfl) rfl ?_
          refine OW_nil ?_
          refine CW_seq ?_
          refine CW_cond rfl (fun c9 => ?_) (fun c9 => ?_)
          · have d9 := c9
            first | (with_reducible replace d9 := of_decide_eq_true d9) | (with_reducible replace d9 := bnt d9; try (with_reducible replace d9 := of_decide_eq_false d9)) | skip
            have hi2 : i < 2 := by omega
            obtain ⟨l, hl⟩ : ∃ l, [A, B][i]? = some l := ⟨[A, B][i]'hi2, List.getElem?_eq_getElem hi2⟩
            have hl2 : [St A, St B][i]? = some (St l) := by rw [show [St A, St B] = [A, B].map St from rfl, List.getElem?_map, hl]; rfl
            have hst := chs_step hl
            have hCl := HC.lt
            have hok := chs_ok A B i
            refine CW_skip ?_
            refine CW_seq ?_
            refine CW_block ?_
            refine CW_seq ?_
            refine CW_reg rfl ?_
            refine OW_ev (Ev_idxAgg i arr_84 one_9 rfl rfl rfl rfl hi2 hl2) rfl ?_
            refine OW_ev (Ev_mvst (.inr rfl) rfl) rfl ?_
            refine OW_nil ?_
            refine CW_seq ?_
            refine CW_reg rfl ?_
            refine OW_ev (Ev_mvst (.inl rfl) rfl) rfl ?_
            refine OW_st rfl (Stp_call ent_41 rfl rfl rfl (gets_c _ l) ?_)
            rintro _ w10 ⟨E10, rfl⟩
            have Z10 := E10.size
            have HR := HR.keep0 E10
            have HC := HC.keep0 E10
            have hS := hS.keep0 E10
            have T := T.keep0 E10
            refine OW_ev (Ev_mvt (.inl rfl) rfl) rfl ?_
            refine OW_ev (Ev_extract (vs := _) rfl rfl rfl) rfl ?_
            refine OW_ev (Ev_extract (vs := _) rfl rfl rfl) rfl ?_
            refine OW_st rfl (Stp_alloc zero_48 rfl ?_)
            intro b11 w11 hb11 hz11 E11 B11
            have L11 : _ ≤ b11 := Nat.le_trans T.size (Nat.le_of_eq hb11.symm)
            have HR := HR.keep0 E11
            have HC := HC.keep0 E11
            have hS := hS.keep0 E11
            have T := T.keep0 E11
            obtain ⟨bt, rfl⟩ : ∃ b, b = b11 := ⟨_, rfl⟩
            have HT : Blk w11 bt 48 SupM.zero.cells := B11
            have htl : bc < bt := by omega
            refine OW_st rfl (Stp_store (q := 0) (vs := (getS l).1.cells) HT siz_48 rfl rfl rfl (getS_ok l).len (by rw [(getS_ok l).len]; exact Nat.le_refl _) (SupM.one _) ?_)
            intro w12 hz12 E12 B12
            have Z12 := E12.size
            have HR := HR.keepb E12 (by omega)
            have HC := HC.keepb E12 (by omega)
            have hS := hS.keepb E12 (fun h => by have := h.2; omega)
            have T := T.trans' E12 (fun i hi h => by have h : i = bt := h; omega)
            clear HT
            have HT := B12
            clear B12
            have HT : Blk w12 bt 48 (getS l).1.cells := by rw [← putAt_all (l := SupM.zero.cells) (vs := (getS l).1.cells) (by rw [(getS_ok l).len]; rfl)]; exact HT
            refine OW_ev (Ev_mvi (.inr rfl) rfl) rfl ?_
            refine OW_nil ?_
            refine CW_seq ?_
            refine CW_reg rfl ?_
            refine OW_ev (Ev_mvi (.inl rfl) rfl) rfl ?_
            refine OW_ev (Ev_eql rfl rfl rfl) rfl ?_
            refine OW_nil ?_
            refine CW_cond rfl (fun c13 => ?_) (fun c13 => ?_)
            · have d13 := c13
              first | (with_reducible replace d13 := of_decide_eq_true d13) | (with_reducible replace d13 := bnt d13; try (with_reducible replace d13 := of_decide_eq_false d13)) | skip
              have hg0 : (getS l).2 = 0 := d13
              have hcs : chs A B (i + 1) = if (!(chs A B i).2 || decide (((chs A B i).1.ep : Int) < ((getS l).1.ep : Int))) = true then ((getS l).1, true) else chs A B i := by rw [hst]; exact if_pos hg0
              refine CW_re [(0, .pointer _), (2, .pointer _), (3, .int _ _), (9, .pointer _), (12, .pointer _), (39, .agg _), (40, .int _ _)] ⟨rfl, rfl, rfl, rfl, rfl, rfl, rfl, trivial⟩ (fun g => ?_)
              refine CW_reg rfl ?_
              refine OW_ev (Ev_mvp (.inl rfl) rfl) rfl ?_
              refine OW_ev (Ev_loadAgg (l := (getS l).1.cells) agg_48 rfl rfl (HT.cells (by rw [List.drop_zero, List.take_length])) (getS_ok l).len) rfl ?_
              refine OW_st rfl (Stp_call ent_42 rfl rfl rfl (off_c HC hok (getS_ok l)) ?_)
              rintro _ w14 ⟨rfl, E14, HC2⟩
              have Z14 := E14.size
              have HR := HR.keepb E14 (by omega)
              have hS := hS.keepb E14 (fun h => by have := h.2; omega)
              have T := T.trans' E14 (fun i hi h => by have h : i = bc := h; omega)
              have HC : Blk w14 bc 88 (choC (chs A B (i + 1)).1 (chs A B (i + 1)).2) := by
                rw [hcs]
                split
                · rename_i h; rw [if_pos h] at HC2; exact HC2
                · rename_i h; rw [if_neg h] at HC2; exact HC2
              refine OW_nil ?_
              refine CW_reg rfl ?_
              refine OW_ev (Ev_add rfl rfl rfl (by first | (apply IntWalk.i64_in; omega) | (apply IntWalk.u64_in; omega) | (apply IntWalk.u32_in; omega) | (apply IntWalk.u8_in; omega) | (apply IntWalk.i32_in; omega) | rfl)) rfl ?_
              refine OW_ev (Ev_mvi (.inl rfl) rfl) rfl ?_
              refine OW_nil ?_
              exact ⟨i + 1, by omega, ⟨rfl, rfl, rfl, rfl, rfl, congrArg (Value.int .i64) (by omega), trivial⟩, by omega, HR, (by first | exact HC | (rw [hcs]; exact HC)), hS, T⟩
            · have d13 := c13
              first | (with_reducible replace d13 := of_decide_eq_false d13) | (with_reducible replace d13 := bnf d13; try (with_reducible replace d13 := of_decide_eq_true d13)) | skip
              have hg0 : ¬ (getS l).2 = 0 := d13
              have hcs : chs A B (i + 1) = chs A B i := by rw [hst]; exact if_neg hg0
              refine CW_skip ?_
              refine CW_re [(0, .pointer _), (2, .pointer _), (3, .int _ _), (9, .pointer _), (39, .agg _), (40, .int _ _)] ⟨rfl, rfl, rfl, rfl, rfl, rfl, trivial⟩ (fun g => ?_)
              refine CW_reg rfl ?_
              refine OW_ev (Ev_add rfl rfl rfl (by first | (apply IntWalk.i64_in; omega) | (apply IntWalk.u64_in; omega) | (apply IntWalk.u32_in; omega) | (apply IntWalk.u8_in; omega) | (apply IntWalk.i32_in; omega) | rfl)) rfl ?_
              refine OW_ev (Ev_mvi (.inl rfl) rfl) rfl ?_
              refine OW_nil ?_
              exact ⟨i + 1, by omega, ⟨rfl, rfl, rfl, rfl, rfl, congrArg (Value.int .i64) (by omega), trivial⟩, by omega, HR, (by first | exact HC | (rw [hcs]; exact HC)), hS, T⟩
          · have d9 := c9
            first | (with_reducible replace d9 := of_decide_eq_false d9) | (with_reducible replace d9 := bnf d9; try (with_reducible replace d9 := of_decide_eq_true d9)) | skip
            have hi2 : i = 2 := by omega
            subst hi2
            have hok := chs_ok A B 2
            refine CW_exit ?_
            refine blk_same ?_
            refine CW_seq ?_
            refine CW_seq ?_
            refine CW_reg rfl ?_
            refine OW_ev (Ev_mvp (.inl rfl) rfl) rfl ?_
            refine OW_ev (Ev_nilCheck rfl rfl) rfl ?_
            refine OW_ev (Ev_fieldAddr fld_88_2 rfl rfl) rfl ?_
            refine OW_ev (Ev_load (v := .bool (chs A B 2).2) one_4 rfl rfl (HC.ld (q := 71) (hok.choC_some _))) rfl ?_
            refine OW_ev (Ev_not rfl rfl) rfl ?_
            refine OW_nil ?_
            refine CW_cond rfl (fun c15 => ?_) (fun c15 => ?_)
            · have d15 := c15
              first | (with_reducible replace d15 := of_decide_eq_true d15) | (with_reducible replace d15 := bnt d15; try (with_reducible replace d15 := of_decide_eq_false d15)) | skip
              have hrs : readS A B = (SupM.zero, 7) := if_pos (by cases h : (chs A B 2).2 with | false => rfl | true => rw [h] at c15; cases c15)
              refine CW_seq ?_
              refine CW_reg rfl ?_
              refine OW_ev (Ev_build (l := SupM.zero.cells) plc_48 zero_48 rfl rfl rfl) rfl ?_
              refine OW_st rfl (Stp_store (q := 0) (vs := SupM.zero.cells) HR siz_48 rfl rfl rfl rfl (by show 0 + _ ≤ _; first | exact Nat.le_refl _ | (rw [Nat.zero_add, rfl]; exact Nat.le_refl _)) (SupM.one _) ?_)
              intro w16 hz16 E16 B16
              have Z16 := E16.size
              have HC := HC.keepb E16 (by intro h; first | omega | (change _ < _ at h; omega) | (change _ ≤ _ at h; omega) | (have h1 := h.1; have h2 := h.2; first | omega | (change _ ≤ _ at h1; omega) | (change _ < _ at h1; omega)))
              have hS := hS.keepb E16 (by intro h; first | omega | (change _ < _ at h; omega) | (change _ ≤ _ at h; omega) | (have h1 := h.1; have h2 := h.2; first | omega | (change _ ≤ _ at h1; omega) | (change _ < _ at h1; omega)))
              have T := T.trans' E16 (fun i hi h => by have h : i = bR := h; omega)
              clear HR
              have HR := B16
              clear B16
              have HR : Blk w16 bR 48 SupM.zero.cells := by rw [← putAt_all (l := SupM.zero.cells) (vs := SupM.zero.cells) rfl]; exact HR
              refine OW_ev (Ev_c (.inr rfl)) rfl ?_
              refine OW_nil ?_
              refine CW_ret ?_
              refine ⟨rfl, _, (.cell rfl (ld_agg (l := SupM.zero.cells) agg_48 (HR.cells (by rw [List.drop_zero, List.take_length])) rfl) (.tmp rfl .nil)), ?_⟩
              rw [hrs]
              exact ⟨T, hS.mono (fun b h => h.1), rfl⟩
            · have d15 := c15
              first | (with_reducible replace d15 := of_decide_eq_false d15) | (with_reducible replace d15 := bnf d15; try (with_reducible replace d15 := of_decide_eq_true d15)) | skip
              have hrs : readS A B = ((chs A B 2).1, 0) := if_neg (by intro h; rw [h] at c15; cases c15)
              refine CW_skip ?_
              refine CW_seq ?_
              refine CW_reg rfl ?_
              refine OW_ev (Ev_mvp (.inl rfl) rfl) rfl ?_
              refine OW_ev (Ev_nilCheck rfl rfl) rfl ?_
              refine OW_ev (Ev_fieldAddr fld_88_1 rfl rfl) rfl ?_
              refine OW_ev (Ev_loadAgg (l := (chs A B 2).1.cells) agg_48 rfl rfl (HC.cells (q := 1) (choC_best _ _)) hok.len) rfl ?_
              refine OW_st rfl (Stp_store (q := 0) (vs := (chs A B 2).1.cells) HR siz_48 rfl rfl rfl hok.len (by show 0 + _ ≤ _; first | exact Nat.le_refl _ | (rw [Nat.zero_add, hok.len]; exact Nat.le_refl _)) (SupM.one _) ?_)
              intro w17 hz17 E17 B17
              have Z17 := E17.size
              have HC := HC.keepb E17 (by intro h; first | omega | (change _ < _ at h; omega) | (change _ ≤ _ at h; omega) | (have h1 := h.1; have h2 := h.2; first | omega | (change _ ≤ _ at h1; omega) | (change _ < _ at h1; omega)))
              have hS := hS.keepb E17 (by intro h; first | omega | (change _ < _ at h; omega) | (change _ ≤ _ at h; omega) | (have h1 := h.1; have h2 := h.2; first | omega | (change _ ≤ _ at h1; omega) | (change _ < _ at h1; omega)))
              have T := T.trans' E17 (fun i hi h => by have h : i = bR := h; omega)
              clear HR
              have HR := B17
              clear B17
              have HR : Blk w17 bR 48 (chs A B 2).1.cells := by rw [← putAt_all (l := SupM.zero.cells) (vs := (chs A B 2).1.cells) (by rw [hok.len]; rfl)]; exact HR
              refine OW_ev (Ev_c (.inr rfl)) rfl ?_
              refine OW_nil ?_
              refine CW_ret ?_
              refine ⟨rfl, _, (.cell rfl (ld_agg (l := (chs A B 2).1.cells) agg_48 (HR.cells (by rw [List.drop_zero, List.take_length])) hok.len) (.tmp rfl .nil)), ?_⟩
              rw [hrs]
              exact ⟨T, hS.mono (fun b h => h.1), rfl⟩

end Go.Proofs.Ythfelkjklnhdiaa