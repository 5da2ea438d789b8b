/- The contract of header.GetSuper: what each string tells. -/
import Derived.Test.YthfelkjklnhdiaaHead3
namespace Go.Proofs.Ythfelkjklnhdiaa
open Go Go.RowKit Bx Go.Proofs

/-- The super that 112 bytes tell. -/
def decS (r : List UInt8) : SupM := { SupM.zero.upd r 6 with anchor := (r.drop 48).take 32, sum := ((r.drop 48).drop 32).take 32 }
/-- What GetSuper yields of a string. -/
def getS (l : List UInt8) : SupM × Int :=
  if l.length < 226 then (SupM.zero, 4) else if l[0]? ≠ some 83 then (SupM.zero, 3) else if l.take 113 ≠ (l.drop 113).take 113 then (SupM.zero, 10) else (decS ((l.drop 1).take 112), 0)
theorem zero_ok : SupM.zero.Ok := ⟨by decide, by decide, by decide, by decide, by decide, by decide, rfl, rfl⟩
theorem decS_ok {r : List UInt8} (h : r.length = 112) : (decS r).Ok :=
  ⟨numAt_lt r 0, numAt_lt r 1, numAt_lt r 2, numAt_lt r 3, numAt_lt r 4, numAt_lt r 5, by show ((r.drop 48).take 32).length = 32; rw [List.length_take, List.length_drop, h]; rfl, by show (((r.drop 48).drop 32).take 32).length = 32; rw [List.length_take, List.length_drop, List.length_drop, h]; rfl⟩
theorem getS_ok (l : List UInt8) : (getS l).1.Ok := by
  unfold getS
  split
  · exact zero_ok
  · split
    · exact zero_ok
    · split
      · exact zero_ok
      · exact decS_ok (by rw [List.length_take, List.length_drop]; omega)

set_option maxRecDepth 10000 in
set_option maxHeartbeats 2000000 in
theorem gets_c (w : World) (l : List UInt8) : Calls Try.prog 41 #[St l] w (Ret fun v w' => Kp0 w w' ∧ v = .tuple #[.agg (getS l).1.cells.toArray, .int .i64 (getS l).2]) := by
  have T : Kp0 w w := Kp.refl _ _
  refine calls_start Try.func41 rfl (n := 40) rfl rfl rfl ?_
  refine CW_seq ?_
  refine CW_reg rfl ?_
  refine OW_st rfl (Stp_alloc zero_48 rfl ?_)
  intro b1 w1 hb1 hz1 E1 B1
  have L1 : _ ≤ b1 := Nat.le_trans T.size (Nat.le_of_eq hb1.symm)
  have T := T.keep0 E1
  obtain ⟨bR, rfl⟩ : ∃ b, b = b1 := ⟨_, rfl⟩
  have HR : Blk w1 bR 48 SupM.zero.cells := B1
  have hRl := HR.lt
  have hRw : w.heap.size ≤ bR := by omega
  refine OW_ev (Ev_c (.inr rfl)) rfl ?_
  refine OW_nil ?_
  refine CW_seq ?_
  refine CW_seq ?_
  refine CW_reg rfl ?_
  refine OW_ev (Ev_mvst (.inl rfl) rfl) rfl ?_
  refine OW_ev (Ev_lenSt und_9 rfl rfl) rfl ?_
  refine OW_ev (Ev_lss rfl rfl rfl) rfl ?_
  refine OW_nil ?_
  refine CW_cond rfl (fun c2 => ?_) (fun c2 => ?_)
  · have d2 := c2
    first | (with_reducible replace d2 := of_decide_eq_true d2) | (with_reducible replace d2 := bnt d2; try (with_reducible replace d2 := of_decide_eq_false d2)) | skip
    have hg : getS l = (SupM.zero, 4) := if_pos (show l.length < 226 by omega)
    refine CW_seq ?_
    refine CW_reg rfl ?_
    refine OW_ev (Ev_build (l := SupM.zero.cells) plc_48 zero_48 rfl rfl rfl) rfl ?_
    refine OW_st rfl (Stp_store (q := 0) (vs := SupM.zero.cells) HR siz_48 rfl rfl rfl rfl (by show 0 + _ ≤ _; first | exact Nat.le_refl _ | (rw [Nat.zero_add, rfl]; exact Nat.le_refl _)) (SupM.one _) ?_)
    intro w3 hz3 E3 B3
    have Z3 := E3.size
    have T := T.trans' E3 (fun i hi h => by have h : i = bR := h; omega)
    clear HR
    have HR := B3
    clear B3
    have HR : Blk w3 bR 48 SupM.zero.cells := by rw [← putAt_all (l := SupM.zero.cells) (vs := SupM.zero.cells) rfl]; exact HR
    refine OW_ev (Ev_c (.inr rfl)) rfl ?_
    refine OW_nil ?_
    refine CW_ret ?_
    refine ⟨rfl, _, (.cell rfl (ld_agg (l := SupM.zero.cells) agg_48 (HR.cells (by rw [List.drop_zero, List.take_length])) rfl) (.tmp rfl .nil)), ?_⟩
    rw [hg]
    exact ⟨T, rfl⟩
  · have d2 := c2
    first | (with_reducible replace d2 := of_decide_eq_false d2) | (with_reducible replace d2 := bnf d2; try (with_reducible replace d2 := of_decide_eq_true d2)) | skip
    have hlen : ¬ l.length < 226 := by omega
    obtain ⟨x, hx⟩ : ∃ x, l[0]? = some x := ⟨l[0], List.getElem?_eq_getElem (by omega)⟩
    refine CW_skip ?_
    refine CW_seq ?_
    refine CW_seq ?_
    refine CW_reg rfl ?_
    refine OW_ev (Ev_mvst (.inl rfl) rfl) rfl ?_
    refine OW_ev (Ev_strIdx 0 und_9 rfl rfl rfl rfl hx) rfl ?_
    refine OW_ev (Ev_neq rfl rfl rfl) rfl ?_
    refine OW_nil ?_
    refine CW_cond rfl (fun c4 => ?_) (fun c4 => ?_)
    · have d4 := c4
      first | (with_reducible replace d4 := of_decide_eq_true d4) | (with_reducible replace d4 := bnt d4; try (with_reducible replace d4 := of_decide_eq_false d4)) | skip
      have hne : ¬ l[0]? = some 83 := by
        rw [hx]; intro e; injection e with e; subst e; exact d4 rfl
      have hg : getS l = (SupM.zero, 3) := by unfold getS; rw [if_neg hlen, if_pos hne]
      refine CW_seq ?_
      refine CW_reg rfl ?_
      refine OW_ev (Ev_build (l := SupM.zero.cells) plc_48 zero_48 rfl rfl rfl) rfl ?_
      refine OW_st rfl (Stp_store (q := 0) (vs := SupM.zero.cells) HR siz_48 rfl rfl rfl rfl (by show 0 + _ ≤ _; first | exact Nat.le_refl _ | (rw [Nat.zero_add, rfl]; exact Nat.le_refl _)) (SupM.one _) ?_)
      intro w5 hz5 E5 B5
      have Z5 := E5.size
      have T := T.trans' E5 (fun i hi h => by have h : i = bR := h; omega)
      clear HR
      have HR := B5
      clear B5
      have HR : Blk w5 bR 48 SupM.zero.cells := by rw [← putAt_all (l := SupM.zero.cells) (vs := SupM.zero.cells) rfl]; exact HR
      refine OW_ev (Ev_c (.inr rfl)) rfl ?_
      refine OW_nil ?_
      refine CW_ret ?_
      refine ⟨rfl, _, (.cell rfl (ld_agg (l := SupM.zero.cells) agg_48 (HR.cells (by rw [List.drop_zero, List.take_length])) rfl) (.tmp rfl .nil)), ?_⟩
      rw [hg]
      exact ⟨T, rfl⟩
    · have d4 := c4
      first | (with_reducible replace d4 := of_decide_eq_false d4) | (with_reducible replace d4 := bnf d4; try (with_reducible replace d4 := of_decide_eq_true d4)) | skip
      have h83 : l[0]? = some 83 := by
        rw [hx]; congr 1; apply UInt8.toNat_inj.1; have e : (x.toNat : Int) = 83 := by omega
        have e2 : (83 : UInt8).toNat = 83 := rfl
        omega
      refine CW_skip ?_
      refine CW_seq ?_
      refine CW_seq ?_
      refine CW_draw (fun W => HR.here W) mixed rfl (fun _ _ _ h => nomatch h.1) ?_
      have E6 : Kp0 _ _ := Kp.drew w1 nob
      have Z6 : (World.drew w1).heap.size = w1.heap.size := rfl
      generalize World.drew w1 = w6 at E6 Z6 ⊢
      have T := T.keep0 E6
      have HR := HR.keep0 E6
      refine AW_take 0 rfl rfl (by decide +kernel) (by decide +kernel) (by decide +kernel) (fun w HR => Ev_mvst (.inl rfl) rfl) HR ?_
      refine AW_take 1 rfl rfl (by decide +kernel) (by decide +kernel) (by decide +kernel) (fun w HR => Ev_strH 113 und_9 rfl rfl rfl rfl (by omega)) HR ?_
      refine AW_take 2 rfl rfl (by decide +kernel) (by decide +kernel) (by decide +kernel) (fun w HR => Ev_mvst (.inl rfl) rfl) HR ?_
      refine AW_take 3 rfl rfl (by decide +kernel) (by decide +kernel) (by decide +kernel) (fun w HR => Ev_strLH 113 226 und_9 rfl rfl rfl rfl rfl rfl (by omega) (by omega)) HR ?_
      refine AW_take 4 rfl rfl (by decide +kernel) (by decide +kernel) (by decide +kernel) (fun w HR => Ev_strNeq rfl rfl rfl) HR ?_
      refine AW_done (by decide +kernel) ?_
      refine CW_cond rfl (fun c7 => ?_) (fun c7 => ?_)
      · have d7 := c7
        first | (with_reducible replace d7 := of_decide_eq_true d7) | (with_reducible replace d7 := bnt d7; try (with_reducible replace d7 := of_decide_eq_false d7)) | skip
        have hg : getS l = (SupM.zero, 10) := by unfold getS; rw [if_neg hlen, if_neg (fun h => h h83), if_pos d7]
        refine CW_seq ?_
        refine CW_reg rfl ?_
        refine OW_ev (Ev_build (l := SupM.zero.cells) plc_48 zero_48 rfl rfl rfl) rfl ?_
        refine OW_st rfl (Stp_store (q := 0) (vs := SupM.zero.cells) HR siz_48 rfl rfl rfl rfl (by show 0 + _ ≤ _; first | exact Nat.le_refl _ | (rw [Nat.zero_add, rfl]; exact Nat.le_refl _)) (SupM.one _) ?_)
        intro w8 hz8 E8 B8
        have Z8 := E8.size
        have T := T.trans' E8 (fun i hi h => by have h : i = bR := h; omega)
        clear HR
        have HR := B8
        clear B8
        have HR : Blk w8 bR 48 SupM.zero.cells := by rw [← putAt_all (l := SupM.zero.cells) (vs := SupM.zero.cells) rfl]; exact HR
        refine OW_ev (Ev_c (.inr rfl)) rfl ?_
        refine OW_nil ?_
        refine CW_ret ?_
        refine ⟨rfl, _, (.cell rfl (ld_agg (l := SupM.zero.cells) agg_48 (HR.cells (by rw [List.drop_zero, List.take_length])) rfl) (.tmp rfl .nil)), ?_⟩
        rw [hg]
        exact ⟨T, rfl⟩
      · have d7 := c7
        first | (with_reducible replace d7 := of_decide_eq_false d7) | (with_reducible replace d7 := bnf d7; try (with_reducible replace d7 := of_decide_eq_true d7)) | skip
        have hq : l.take 113 = (l.drop 113).take 113 := Classical.not_not.1 d7
        have hg : getS l = (decS ((l.drop 1).take 112), 0) := by unfold getS; rw [if_neg hlen, if_neg (fun h => h h83), if_neg (fun h => h hq)]
        have hrl : ((l.drop 1).take 112).length = 112 := by rw [List.length_take, List.length_drop]; omega
        have hok := decS_ok hrl
        refine CW_skip ?_
        refine CW_seq ?_
        refine CW_reg rfl ?_
        refine OW_st rfl (Stp_alloc zero_48 rfl ?_)
        intro b9 w9 hb9 hz9 E9 B9
        have L9 : _ ≤ b9 := Nat.le_trans T.size (Nat.le_of_eq hb9.symm)
        have T := T.keep0 E9
        have HR := HR.keep0 E9
        obtain ⟨bs, rfl⟩ : ∃ b, b = b9 := ⟨_, rfl⟩
        have HS : Blk w9 bs 48 SupM.zero.cells := B9
        have hsl := HS.lt
        have hRs : bR < bs := by omega
        refine OW_nil ?_
        refine CW_seq ?_
        refine CW_reg rfl ?_
        refine OW_ev (Ev_mvst (.inl rfl) rfl) rfl ?_
        refine OW_ev (Ev_strLH 1 113 und_9 rfl rfl rfl rfl rfl rfl (by omega) (by omega)) rfl ?_
        refine OW_ev (Ev_build (l := [.string _]) plc_101 zero_101 rfl rfl rfl) rfl ?_
        refine OW_st rfl (Stp_box (l := [.string _]) rfl rfl rfl ?_)
        intro b10 w10 hb10 hz10 E10 B10
        have L10 : _ ≤ b10 := Nat.le_trans T.size (Nat.le_of_eq hb10.symm)
        have T := T.keep0 E10
        have HR := HR.keep0 E10
        have HS := HS.keep0 E10
        obtain ⟨br, rfl⟩ : ∃ b, b = b10 := ⟨_, rfl⟩
        have HB : Blk w10 br 101 [St ((l.drop 1).take 112)] := B10
        have hbl := HB.lt
        have hsr : bs < br := by omega
        refine OW_ev (Ev_mvp (.inr rfl) rfl) rfl ?_
        refine OW_nil ?_
        refine CW_seq ?_
        refine CW_re [(2, .pointer _), (3, .int _ _), (4, .pointer _), (5, .pointer _)] ⟨rfl, rfl, rfl, rfl, trivial⟩ (fun g => ?_)
        refine CW_reg rfl ?_
        refine OW_ev (Ev_mvp (.inl rfl) rfl) rfl ?_
        refine OW_ev (Ev_fieldAddr fld_48_0 rfl rfl) rfl ?_
        refine OW_ev (Ev_fieldAddr fld_48_1 rfl rfl) rfl ?_
        refine OW_ev (Ev_fieldAddr fld_48_2 rfl rfl) rfl ?_
        refine OW_ev (Ev_fieldAddr fld_48_4 rfl rfl) rfl ?_
        refine OW_ev (Ev_fieldAddr fld_48_5 rfl rfl) rfl ?_
        refine OW_ev (Ev_fieldAddr fld_48_6 rfl rfl) rfl ?_
        refine OW_st rfl (Stp_buildSlice (l := [_, _, _, _, _, _]) el_115 zero_105 rfl rfl rfl rfl ?_)
        intro b11 w11 hb11 hz11 E11 B11
        have L11 : _ ≤ b11 := Nat.le_trans T.size (Nat.le_of_eq hb11.symm)
        have T := T.keep0 E11
        have HR := HR.keep0 E11
        have HS := HS.keep0 E11
        have HB := HB.keep0 E11
        obtain ⟨bp, rfl⟩ : ∃ b, b = b11 := ⟨_, rfl⟩
        have HP := Sl.ofBlk (sz := 1) (es := (offs.map fun q => [Value.pointer (some ⟨bs, q, none⟩)])) B11 (by simp)
        have hpr : br < bp := by omega
        have LC : Calls Try.prog 48 #[.pointer (some ⟨br, 0, none⟩), .func (.func 49) #[] #[], .slice (some ⟨bp, 0, none⟩) 6 6] w11 (Ret fun v w' => v = .tuple #[] ∧ Kp (fun b => b = br ∨ b = bs) w11 w' ∧ Blk w' br 101 [St (((l.drop 1).take 112).drop 48)] ∧ Blk w' bs 48 (SupM.zero.upd ((l.drop 1).take 112) 6).cells) := each_c HB HS HP (by omega) (fun b h => by have h : b = bp := h; omega) rfl rfl (by omega)
        refine OW_st rfl (Stp_call ent_48 rfl rfl rfl (LC) ?_)
        rintro _ w12 ⟨rfl, E12, HB2, HS2⟩
        have Z12 := E12.size
        have T := T.trans' E12 (fun i hi h => h.elim (fun h => by omega) (fun h => by omega))
        have HR := HR.keep E12 (fun h => h.elim (fun h => by omega) (fun h => by omega))
        have hul := (upd_anchor SupM.zero ((l.drop 1).take 112) 6)
        refine OW_nil ?_
        refine CW_seq ?_
        refine CW_reg rfl ?_
        refine OW_ev (Ev_mvp (.inl rfl) rfl) rfl ?_
        refine OW_st rfl (Stp_call ent_50 rfl rfl rfl (digest_c HB2 (by rw [List.length_drop]; omega)) ?_)
        rintro _ w13 ⟨rfl, E13, HB3⟩
        have Z13 := E13.size
        have T := T.trans' E13 (fun i hi h => by have h : i = br := h; omega)
        have HR := HR.keepb E13 (by omega)
        have HS2 := HS2.keepb E13 (by omega)
        have ha1 : ((((l.drop 1).take 112).drop 48).take 32).length = 32 := hok.anchor
        refine OW_ev (Ev_fieldAddr fld_48_3 rfl rfl) rfl ?_
        refine OW_st rfl (Stp_store (q := 3) (vs := (((((l.drop 1).take 112).drop 48).take 32).map By).flatten) HS2 siz_46 rfl rfl rfl (by rw [By_flat_len]; exact ha1) (by rw [By_flat_len, ha1]; simp only [SupM.cells, List.length_append, By_flat_len, hul.1, hul.2, List.length_cons, List.length_nil]; decide) (By_one _) ?_)
        intro w14 hz14 E14 B14
        have Z14 := E14.size
        have T := T.trans' E14 (fun i hi h => by have h : i = bs := h; omega)
        have HR := HR.keepb E14 (by omega)
        have HB3 := HB3.keepb E14 (by omega)
        clear HS2
        have HS2 := B14
        clear B14
        obtain ⟨sA, hsA⟩ : ∃ s : SupM, s = { SupM.zero.upd ((l.drop 1).take 112) 6 with anchor := (((l.drop 1).take 112).drop 48).take 32 } := ⟨_, rfl⟩
        have hA1 : sA.anchor.length = 32 := by rw [hsA]; exact ha1
        have hA2 : sA.sum.length = 32 := by rw [hsA]; show (SupM.upd SupM.zero ((l.drop 1).take 112) 6).sum.length = 32; rw [hul.2]; rfl
        have HS2 : Blk w14 bs 48 sA.cells := by rw [hsA, ← put_anchor (by rw [hul.1]; rfl) ha1]; exact HS2
        refine OW_nil ?_
        refine CW_seq ?_
        refine CW_reg rfl ?_
        refine OW_ev (Ev_mvp (.inl rfl) rfl) rfl ?_
        refine OW_st rfl (Stp_call ent_50 rfl rfl rfl (digest_c HB3 (by rw [List.length_drop, List.length_drop]; omega)) ?_)
        rintro _ w15 ⟨rfl, E15, HB4⟩
        have Z15 := E15.size
        have T := T.trans' E15 (fun i hi h => by have h : i = br := h; omega)
        have HR := HR.keepb E15 (by omega)
        have HS2 := HS2.keepb E15 (by omega)
        have ha2 : (((((l.drop 1).take 112).drop 48).drop 32).take 32).length = 32 := hok.sum
        refine OW_ev (Ev_fieldAddr fld_48_7 rfl rfl) rfl ?_
        refine OW_st rfl (Stp_store (q := 38) (vs := ((((((l.drop 1).take 112).drop 48).drop 32).take 32).map By).flatten) HS2 siz_46 rfl rfl rfl (by rw [By_flat_len]; exact ha2) (by rw [By_flat_len, ha2]; simp only [SupM.cells, List.length_append, By_flat_len, hA1, hA2, List.length_cons, List.length_nil]; decide) (By_one _) ?_)
        intro w16 hz16 E16 B16
        have Z16 := E16.size
        have T := T.trans' E16 (fun i hi h => by have h : i = bs := h; omega)
        have HR := HR.keepb E16 (by omega)
        have HB4 := HB4.keepb E16 (by omega)
        clear HS2
        have HS2 := B16
        clear B16
        have hdS : decS ((l.drop 1).take 112) = { sA with sum := ((((l.drop 1).take 112).drop 48).drop 32).take 32 } := by rw [hsA]; rfl
        have HS2 : Blk w16 bs 48 (decS ((l.drop 1).take 112)).cells := by rw [hdS, ← put_sum hA1 hA2 ha2]; exact HS2
        refine OW_nil ?_
        refine CW_seq ?_
        refine CW_re [(2, .pointer _), (3, .int _ _), (4, .pointer _)] ⟨rfl, rfl, rfl, trivial⟩ (fun g => ?_)
        refine CW_reg rfl ?_
        refine OW_ev (Ev_loadAgg (l := (decS ((l.drop 1).take 112)).cells) agg_48 rfl rfl (HS2.cells (by rw [List.drop_zero, List.take_length])) hok.len) rfl ?_
        refine OW_st rfl (Stp_store (q := 0) (vs := (decS ((l.drop 1).take 112)).cells) HR siz_48 rfl rfl rfl hok.len (by show 0 + _ ≤ _; first | exact Nat.le_refl _ | (rw [Nat.zero_add, hok.len]; exact Nat.le_refl _)) (SupM.one _) ?_)
        intro w17 hz17 E17 B17
        have Z17 := E17.size
        have T := T.trans' E17 (fun i hi h => by have h : i = bR := h; omega)
        have HS2 := HS2.keepb E17 (by omega)
        have HB4 := HB4.keepb E17 (by omega)
        clear HR
        have HR := B17
        clear B17
        have HR : Blk w17 bR 48 (decS ((l.drop 1).take 112)).cells := by rw [← putAt_all (l := SupM.zero.cells) (vs := (decS ((l.drop 1).take 112)).cells) (by rw [hok.len]; rfl)]; exact HR
        refine OW_ev (Ev_c (.inr rfl)) rfl ?_
        refine OW_nil ?_
        refine CW_ret ?_
        refine ⟨rfl, _, (.cell rfl (ld_agg (l := (decS ((l.drop 1).take 112)).cells) agg_48 (HR.cells (by rw [List.drop_zero, List.take_length])) hok.len) (.tmp rfl .nil)), ?_⟩
        rw [hg]
        exact ⟨T, rfl⟩

end Go.Proofs.Ythfelkjklnhdiaa