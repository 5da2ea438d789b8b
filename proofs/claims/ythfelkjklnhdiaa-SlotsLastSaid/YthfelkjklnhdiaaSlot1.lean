/- Contracts of package slots: Fit, offer. -/
import Derived.Test.YthfelkjklnhdiaaHead4
import Derived.Test.YthfelkjklnhdiaaDisk5
namespace Go.Proofs.Ythfelkjklnhdiaa
open Go Go.RowKit Bx Go.Proofs

/-- What Fit yields of a disk. -/
def fitE (d : DkM) : Int := if d.many < 2 ∨ d.size < 256 then 1 else 0
def choC (s : SupM) (b : Bool) : List Value := [.func (.func 40) #[] #[]] ++ s.cells ++ [.bool b]
theorem choC_best (s : SupM) (b : Bool) : ((choC s b).drop 1).take s.cells.length = s.cells := by
  show (s.cells ++ [Value.bool b]).take s.cells.length = s.cells
  rw [List.take_left]
theorem SupM.Ok.choC_some {s : SupM} (h : s.Ok) (b : Bool) : (choC s b)[71]? = some (.bool b) := by
  unfold choC
  rw [List.getElem?_append_right (by rw [List.length_append, h.len]; decide), List.length_append, h.len]
  rfl
theorem SupM.Ok.choC_len {s : SupM} (h : s.Ok) (b : Bool) : (choC s b).length = 72 := by
  unfold choC
  rw [List.length_append, List.length_append, h.len]; rfl
theorem put_best {s t : SupM} (h : s.Ok) (k : t.Ok) (b : Bool) : putAt (choC s b) 1 t.cells = choC t b := putAt_mid (h.len.trans k.len.symm) rfl
theorem put_some {s : SupM} (h : s.Ok) (b c : Bool) : putAt (choC s b) 71 [.bool c] = choC s c := by
  have := putAt_mid (X := [.func (.func 40) #[] #[]] ++ s.cells) (O := [.bool b]) (Y := []) (N := [.bool c]) (q := 71) rfl (by rw [List.length_append, h.len]; rfl)
  rw [List.append_nil, List.append_nil] at this
  exact this

set_option maxRecDepth 10000 in
set_option maxHeartbeats 2000000 in
theorem fit_nil (w : World) : Calls Try.prog 19 #[.pointer none] w (Ret fun v w' => Kp0 w w' ∧ v = .int .i64 (5)) := by
  have T : Kp0 w w := Kp.refl _ _
  refine calls_start Try.func19 rfl (n := 18) rfl rfl rfl ?_
  refine CW_seq ?_
  refine CW_reg rfl ?_
  refine OW_ev (Ev_c (.inr rfl)) rfl ?_
  refine OW_nil ?_
  refine CW_seq ?_
  refine CW_seq ?_
  refine CW_reg rfl ?_
  refine OW_ev (Ev_mvp (.inl rfl) rfl) rfl ?_
  refine OW_ev (Ev_ptrNil und_22 rfl rfl) rfl ?_
  refine OW_nil ?_
  refine CW_cond_t rfl rfl ?_
  refine CW_seq ?_
  refine CW_reg rfl ?_
  refine OW_ev (Ev_c (.inr rfl)) rfl ?_
  refine OW_nil ?_
  refine CW_ret ?_
  refine ⟨rfl, _, (.tmp rfl .nil), ?_⟩
  exact ⟨T, rfl⟩

set_option maxRecDepth 10000 in
set_option maxHeartbeats 2000000 in
theorem fit_c {D : Nat → Prop} {w : World} {bd : Nat} {d : DkM} (hS : DkS D w bd d) : Calls Try.prog 19 #[.pointer (some ⟨bd, 0, none⟩)] w (Ret fun v w' => Kp0 w w' ∧ v = .int .i64 (fitE d)) := by
  have T : Kp0 w w := Kp.refl _ _
  refine calls_start Try.func19 rfl (n := 18) rfl rfl rfl ?_
  refine CW_seq ?_
  refine CW_reg rfl ?_
  refine OW_ev (Ev_c (.inr rfl)) rfl ?_
  refine OW_nil ?_
  refine CW_seq ?_
  refine CW_seq ?_
  refine CW_reg rfl ?_
  refine OW_ev (Ev_mvp (.inl rfl) rfl) rfl ?_
  refine OW_ev (Ev_ptrNil und_22 rfl rfl) rfl ?_
  refine OW_nil ?_
  refine CW_cond_f rfl rfl ?_
  refine CW_skip ?_
  refine CW_seq ?_
  refine CW_seq ?_
  refine CW_reg rfl ?_
  refine OW_ev (Ev_mvp (.inl rfl) rfl) rfl ?_
  refine OW_st rfl (Stp_call ent_24 rfl rfl rfl (size_c hS) ?_)
  rintro _ w1 ⟨E1, rfl⟩
  have Z1 := E1.size
  have T := T.keep0 E1
  refine OW_ev (Ev_mvt (.inl rfl) rfl) rfl ?_
  refine OW_ev (Ev_extract (vs := _) rfl rfl rfl) rfl ?_
  refine OW_ev (Ev_extract (vs := _) rfl rfl rfl) rfl ?_
  refine OW_ev (Ev_mvi (.inr rfl) rfl) rfl ?_
  refine OW_ev (Ev_mvi (.inr rfl) rfl) rfl ?_
  refine OW_nil ?_
  refine CW_seq ?_
  refine CW_reg rfl ?_
  refine OW_ev (Ev_mvi (.inl rfl) rfl) rfl ?_
  refine OW_ev (Ev_lss rfl rfl rfl) rfl ?_
  refine OW_ev (Ev_mvb (.inl rfl) rfl) rfl ?_
  refine OW_split (d := .tmp 14) rfl (fun c2 => ?_) (fun c2 => ?_)
  · have d2 := c2
    first | (with_reducible replace d2 := of_decide_eq_true d2) | (with_reducible replace d2 := bnt d2; try (with_reducible replace d2 := of_decide_eq_false d2)) | skip
    have he : fitE d = 1 := if_pos (by omega)
    refine OW_no rfl rfl rfl rfl c2 ?_
    refine OW_no rfl rfl rfl rfl c2 ?_
    refine OW_ev (Ev_pickb_t rfl rfl c2 rfl) rfl ?_
    refine OW_nil ?_
    refine CW_cond_t rfl rfl ?_
    refine CW_seq ?_
    refine CW_reg rfl ?_
    refine OW_ev (Ev_c (.inr rfl)) rfl ?_
    refine OW_nil ?_
    refine CW_ret ?_
    refine ⟨rfl, _, (.tmp rfl .nil), ?_⟩
    rw [he]
    exact ⟨T, rfl⟩
  · have d2 := c2
    first | (with_reducible replace d2 := of_decide_eq_false d2) | (with_reducible replace d2 := bnf d2; try (with_reducible replace d2 := of_decide_eq_true d2)) | skip
    refine OW_yes rfl rfl rfl rfl c2 (Ev.stp (Ev_mvi (.inl rfl) rfl) ?_)
    refine OW_yes rfl rfl rfl rfl c2 (Ev.stp (Ev_lss rfl rfl rfl) ?_)
    refine OW_ev (Ev_pickb_f rfl rfl c2 rfl) rfl ?_
    refine OW_nil ?_
    refine CW_cond rfl (fun c3 => ?_) (fun c3 => ?_)
    · have d3 := c3
      first | (with_reducible replace d3 := of_decide_eq_true d3) | (with_reducible replace d3 := bnt d3; try (with_reducible replace d3 := of_decide_eq_false d3)) | skip
      have he : fitE d = 1 := if_pos (by omega)
      refine CW_seq ?_
      refine CW_reg rfl ?_
      refine OW_ev (Ev_c (.inr rfl)) rfl ?_
      refine OW_nil ?_
      refine CW_ret ?_
      refine ⟨rfl, _, (.tmp rfl .nil), ?_⟩
      rw [he]
      exact ⟨T, rfl⟩
    · have d3 := c3
      first | (with_reducible replace d3 := of_decide_eq_false d3) | (with_reducible replace d3 := bnf d3; try (with_reducible replace d3 := of_decide_eq_true d3)) | skip
      have he : fitE d = 0 := if_neg (by omega)
      refine CW_skip ?_
      refine CW_seq ?_
      refine CW_reg rfl ?_
      refine OW_ev (Ev_c (.inr rfl)) rfl ?_
      refine OW_nil ?_
      refine CW_ret ?_
      refine ⟨rfl, _, (.tmp rfl .nil), ?_⟩
      rw [he]
      exact ⟨T, rfl⟩

set_option maxRecDepth 10000 in
set_option maxHeartbeats 2000000 in
theorem off_c {w : World} {bc : Nat} {s t : SupM} {b : Bool} (HC : Blk w bc 88 (choC s b)) (hs : s.Ok) (ht : t.Ok) : Calls Try.prog 42 #[.pointer (some ⟨bc, 0, none⟩), .agg t.cells.toArray] w (Ret fun v w' => v = .tuple #[] ∧ Kp (fun x => x = bc) w w' ∧ Blk w' bc 88 (if (!b || decide ((s.ep : Int) < (t.ep : Int))) = true then choC t true else choC s b)) := by
  have hcl := HC.lt
  have T : Kp (fun x => x = bc) w w := Kp.refl _ _
  refine calls_start Try.func42 rfl (n := 28) rfl rfl rfl ?_
  refine CW_seq ?_
  refine CW_reg rfl ?_
  refine OW_st rfl (Stp_box rfl rfl rfl ?_)
  intro b1 w1 hb1 hz1 E1 B1
  have L1 : _ ≤ b1 := Nat.le_trans T.size (Nat.le_of_eq hb1.symm)
  have HC := HC.keep0 E1
  have T := T.keep0 E1
  replace B1 : Blk w1 b1 48 (t.cells) := B1
  have HT := B1
  have htl : bc < b1 := by have := HC.lt; omega
  refine OW_nil ?_
  refine CW_seq ?_
  refine CW_draw (fun W => HC.here W ∧ HT.here W) mixed rfl (fun _ _ _ h => nomatch h.1) ?_
  have E2 : Kp0 _ _ := Kp.drew w1 nob
  have Z2 : (World.drew w1).heap.size = w1.heap.size := rfl
  generalize World.drew w1 = w2 at E2 Z2 ⊢
  have HC := HC.keep0 E2
  have T := T.keep0 E2
  have HT := HT.keep0 E2
  refine AW_take 0 rfl rfl (by decide +kernel) (by decide +kernel) (by decide +kernel) (fun w ⟨HC, HT⟩ => Ev_mvp (.inl rfl) rfl) ⟨HC, HT⟩ ?_
  refine AW_take 1 rfl rfl (by decide +kernel) (by decide +kernel) (by decide +kernel) (fun w ⟨HC, HT⟩ => Ev_nilCheck rfl rfl) ⟨HC, HT⟩ ?_
  refine AW_take 2 rfl rfl (by decide +kernel) (by decide +kernel) (by decide +kernel) (fun w ⟨HC, HT⟩ => Ev_fieldAddr fld_88_2 rfl rfl) ⟨HC, HT⟩ ?_
  refine AW_take 3 rfl rfl (by decide +kernel) (by decide +kernel) (by decide +kernel) (fun w ⟨HC, HT⟩ => Ev_load (v := .bool b) one_4 rfl rfl (HC.ld (q := 71) (hs.choC_some b))) ⟨HC, HT⟩ ?_
  refine AW_take 4 rfl rfl (by decide +kernel) (by decide +kernel) (by decide +kernel) (fun w ⟨HC, HT⟩ => Ev_not rfl rfl) ⟨HC, HT⟩ ?_
  refine AW_take 5 rfl rfl (by decide +kernel) (by decide +kernel) (by decide +kernel) (fun w ⟨HC, HT⟩ => Ev_mvb (.inl rfl) rfl) ⟨HC, HT⟩ ?_
  refine AW_split (d := .tmp 9) rfl (fun c3 => ?_) (fun c3 => ?_)
  · have d3 := c3
    first | (with_reducible replace d3 := of_decide_eq_true d3) | (with_reducible replace d3 := bnt d3; try (with_reducible replace d3 := of_decide_eq_false d3)) | skip
    have hy : (!b || decide ((s.ep : Int) < (t.ep : Int))) = true := by rw [c3]; rfl
    refine AW_take_no 6 rfl rfl rfl rfl rfl c3 (by decide +kernel) (by decide +kernel) (by decide +kernel) ⟨HC, HT⟩ ?_
    refine AW_take_no 7 rfl rfl rfl rfl rfl c3 (by decide +kernel) (by decide +kernel) (by decide +kernel) ⟨HC, HT⟩ ?_
    refine AW_take_no 8 rfl rfl rfl rfl rfl c3 (by decide +kernel) (by decide +kernel) (by decide +kernel) ⟨HC, HT⟩ ?_
    refine AW_take_no 9 rfl rfl rfl rfl rfl c3 (by decide +kernel) (by decide +kernel) (by decide +kernel) ⟨HC, HT⟩ ?_
    refine AW_take_no 10 rfl rfl rfl rfl rfl c3 (by decide +kernel) (by decide +kernel) (by decide +kernel) ⟨HC, HT⟩ ?_
    refine AW_take_no 11 rfl rfl rfl rfl rfl c3 (by decide +kernel) (by decide +kernel) (by decide +kernel) ⟨HC, HT⟩ ?_
    refine AW_take_no 12 rfl rfl rfl rfl rfl c3 (by decide +kernel) (by decide +kernel) (by decide +kernel) ⟨HC, HT⟩ ?_
    refine AW_take_no 13 rfl rfl rfl rfl rfl c3 (by decide +kernel) (by decide +kernel) (by decide +kernel) ⟨HC, HT⟩ ?_
    refine AW_take_no 14 rfl rfl rfl rfl rfl c3 (by decide +kernel) (by decide +kernel) (by decide +kernel) ⟨HC, HT⟩ ?_
    refine AW_take_no 15 rfl rfl rfl rfl rfl c3 (by decide +kernel) (by decide +kernel) (by decide +kernel) ⟨HC, HT⟩ ?_
    refine AW_take 16 rfl rfl (by decide +kernel) (by decide +kernel) (by decide +kernel) (fun w ⟨HC, HT⟩ => Ev_pickb_t rfl rfl c3 rfl) ⟨HC, HT⟩ ?_
    refine AW_done (by decide +kernel) ?_
    refine CW_cond_t rfl rfl ?_
    refine CW_re [(0, .pointer _), (3, .pointer _)] ⟨rfl, rfl, trivial⟩ (fun g => ?_)
    refine CW_reg rfl ?_
    refine OW_ev (Ev_mvp (.inl rfl) rfl) rfl ?_
    refine OW_ev (Ev_mvp (.inl rfl) rfl) rfl ?_
    refine OW_ev (Ev_loadAgg (l := t.cells) agg_48 rfl rfl (HT.cells (by rw [List.drop_zero, List.take_length])) ht.len) rfl ?_
    refine OW_ev (Ev_nilCheck rfl rfl) rfl ?_
    refine OW_ev (Ev_fieldAddr fld_88_1 rfl rfl) rfl ?_
    refine OW_st rfl (Stp_store (q := 1) (vs := t.cells) HC siz_48 rfl rfl rfl ht.len (by rw [hs.choC_len, ht.len]; decide) (SupM.one _) ?_)
    intro w4 hz4 E4 B4
    have Z4 := E4.size
    have T := T.trans' E4 (fun i _ h => h)
    have HT := HT.keepb E4 (by omega)
    clear HC
    have HC := B4
    clear B4
    have HC : Blk w4 bc 88 (choC t b) := by rw [← put_best hs ht]; exact HC
    refine OW_ev (Ev_nilCheck rfl rfl) rfl ?_
    refine OW_ev (Ev_fieldAddr fld_88_2 rfl rfl) rfl ?_
    refine OW_st rfl (Stp_store (q := 71) (vs := [.bool true]) HC siz_4 rfl rfl rfl rfl (by rw [ht.choC_len]; decide) rfl ?_)
    intro w5 hz5 E5 B5
    have Z5 := E5.size
    have T := T.trans' E5 (fun i _ h => h)
    have HT := HT.keepb E5 (by omega)
    clear HC
    have HC := B5
    clear B5
    have HC : Blk w5 bc 88 (choC t true) := by rw [← put_some ht b]; exact HC
    refine OW_nil ?_
    refine ⟨_, .nil, ?_⟩
    rw [if_pos hy]
    exact ⟨rfl, T, HC⟩
  · have d3 := c3
    first | (with_reducible replace d3 := of_decide_eq_false d3) | (with_reducible replace d3 := bnf d3; try (with_reducible replace d3 := of_decide_eq_true d3)) | skip
    have hbt : b = true := by cases b with | true => rfl | false => cases c3
    refine AW_take_yes 6 rfl rfl rfl rfl rfl c3 (by decide +kernel) (by decide +kernel) (by decide +kernel) (fun w ⟨HC, HT⟩ => Ev_mvp (.inl rfl) rfl) ⟨HC, HT⟩ ?_
    refine AW_take_yes 7 rfl rfl rfl rfl rfl c3 (by decide +kernel) (by decide +kernel) (by decide +kernel) (fun w ⟨HC, HT⟩ => Ev_nilCheck rfl rfl) ⟨HC, HT⟩ ?_
    refine AW_take_yes 8 rfl rfl rfl rfl rfl c3 (by decide +kernel) (by decide +kernel) (by decide +kernel) (fun w ⟨HC, HT⟩ => Ev_fieldAddr fld_88_0 rfl rfl) ⟨HC, HT⟩ ?_
    refine AW_take_yes 9 rfl rfl rfl rfl rfl c3 (by decide +kernel) (by decide +kernel) (by decide +kernel) (fun w ⟨HC, HT⟩ => Ev_load (v := .func (.func 40) #[] #[]) one_86 rfl rfl (HC.ld (q := 0) rfl)) ⟨HC, HT⟩ ?_
    refine AW_take_yes 10 rfl rfl rfl rfl rfl c3 (by decide +kernel) (by decide +kernel) (by decide +kernel) (fun w ⟨HC, HT⟩ => Ev_loadAgg (l := t.cells) agg_48 rfl rfl (HT.cells (by rw [List.drop_zero, List.take_length])) ht.len) ⟨HC, HT⟩ ?_
    refine AW_take_yes 11 rfl rfl rfl rfl rfl c3 (by decide +kernel) (by decide +kernel) (by decide +kernel) (fun w ⟨HC, HT⟩ => Ev_mvp (.inl rfl) rfl) ⟨HC, HT⟩ ?_
    refine AW_take_yes 12 rfl rfl rfl rfl rfl c3 (by decide +kernel) (by decide +kernel) (by decide +kernel) (fun w ⟨HC, HT⟩ => Ev_nilCheck rfl rfl) ⟨HC, HT⟩ ?_
    refine AW_take_yes 13 rfl rfl rfl rfl rfl c3 (by decide +kernel) (by decide +kernel) (by decide +kernel) (fun w ⟨HC, HT⟩ => Ev_fieldAddr fld_88_1 rfl rfl) ⟨HC, HT⟩ ?_
    refine AW_take_yes 14 rfl rfl rfl rfl rfl c3 (by decide +kernel) (by decide +kernel) (by decide +kernel) (fun w ⟨HC, HT⟩ => Ev_loadAgg (l := s.cells) agg_48 rfl rfl (HC.cells (q := 1) (choC_best s b)) hs.len) ⟨HC, HT⟩ ?_
    refine AW_one 15 (by decide +kernel) (Next.yes rfl rfl rfl rfl rfl c3 ?_)
    refine Stp_call ent_40 rfl rfl rfl (newer_c _ t s) ?_
    rintro _ w6 ⟨E6, rfl⟩
    have Z6 := E6.size
    have HC := HC.keep0 E6
    have T := T.keep0 E6
    have HT := HT.keep0 E6
    refine ⟨⟨HC, HT⟩, ?_⟩
    refine AW_take 16 rfl rfl (by decide +kernel) (by decide +kernel) (by decide +kernel) (fun w ⟨HC, HT⟩ => Ev_pickb_f rfl rfl c3 rfl) ⟨HC, HT⟩ ?_
    refine AW_done (by decide +kernel) ?_
    refine CW_cond rfl (fun c7 => ?_) (fun c7 => ?_)
    · have d7 := c7
      first | (with_reducible replace d7 := of_decide_eq_true d7) | (with_reducible replace d7 := bnt d7; try (with_reducible replace d7 := of_decide_eq_false d7)) | skip
      have hy : (!b || decide ((s.ep : Int) < (t.ep : Int))) = true := by rw [hbt]; exact c7
      refine CW_re [(0, .pointer _), (3, .pointer _)] ⟨rfl, rfl, trivial⟩ (fun g => ?_)
      refine CW_reg rfl ?_
      refine OW_ev (Ev_mvp (.inl rfl) rfl) rfl ?_
      refine OW_ev (Ev_mvp (.inl rfl) rfl) rfl ?_
      refine OW_ev (Ev_loadAgg (l := t.cells) agg_48 rfl rfl (HT.cells (by rw [List.drop_zero, List.take_length])) ht.len) rfl ?_
      refine OW_ev (Ev_nilCheck rfl rfl) rfl ?_
      refine OW_ev (Ev_fieldAddr fld_88_1 rfl rfl) rfl ?_
      refine OW_st rfl (Stp_store (q := 1) (vs := t.cells) HC siz_48 rfl rfl rfl ht.len (by rw [hs.choC_len, ht.len]; decide) (SupM.one _) ?_)
      intro w8 hz8 E8 B8
      have Z8 := E8.size
      have T := T.trans' E8 (fun i _ h => h)
      have HT := HT.keepb E8 (by omega)
      clear HC
      have HC := B8
      clear B8
      have HC : Blk w8 bc 88 (choC t b) := by rw [← put_best hs ht]; exact HC
      refine OW_ev (Ev_nilCheck rfl rfl) rfl ?_
      refine OW_ev (Ev_fieldAddr fld_88_2 rfl rfl) rfl ?_
      refine OW_st rfl (Stp_store (q := 71) (vs := [.bool true]) HC siz_4 rfl rfl rfl rfl (by rw [ht.choC_len]; decide) rfl ?_)
      intro w9 hz9 E9 B9
      have Z9 := E9.size
      have T := T.trans' E9 (fun i _ h => h)
      have HT := HT.keepb E9 (by omega)
      clear HC
      have HC := B9
      clear B9
      have HC : Blk w9 bc 88 (choC t true) := by rw [← put_some ht b]; exact HC
      refine OW_nil ?_
      refine ⟨_, .nil, ?_⟩
      rw [if_pos hy]
      exact ⟨rfl, T, HC⟩
    · have d7 := c7
      first | (with_reducible replace d7 := of_decide_eq_false d7) | (with_reducible replace d7 := bnf d7; try (with_reducible replace d7 := of_decide_eq_true d7)) | skip
      have hy : (!b || decide ((s.ep : Int) < (t.ep : Int))) = false := by rw [hbt]; exact c7
      refine CW_skip ?_
      refine ⟨_, .nil, ?_⟩
      rw [if_neg (by rw [hy]; exact Bool.false_ne_true)]
      exact ⟨rfl, T, HC⟩

end Go.Proofs.Ythfelkjklnhdiaa