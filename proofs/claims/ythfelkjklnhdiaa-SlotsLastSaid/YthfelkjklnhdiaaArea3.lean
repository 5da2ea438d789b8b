/- Contract of what Put does with a piece. -/
import Derived.Test.YthfelkjklnhdiaaArea2
namespace Go.Proofs.Ythfelkjklnhdiaa
open Go Go.RowKit Bx Go.Proofs

def calm (g : Flg) : Prop := g.down = false ∧ g.breaks = false
theorem calm_cnt {g : Flg} (h : calm g) : g.cnt = g := if_pos h.2
theorem put_part {V x : List UInt8} {s A lo hi : Nat} (hA : A * s + s ≤ V.length) (h1 : lo < hi) (h2 : hi ≤ s) (hx : x.length = hi - lo) :
    putL V (A * s) ((secL s V A).take lo ++ x ++ (secL s V A).drop hi) = putL V (A * s + lo) x := by
  have hl := secL_length hA
  have hlen : ((secL s V A).take lo ++ x ++ (secL s V A).drop hi).length = s := by simp [hl]; omega
  apply List.ext_getElem?
  intro j
  rw [putL_get (by omega), putL_get (by omega), hlen]
  by_cases hj : A * s ≤ j ∧ j < A * s + s
  · rw [if_pos hj]
    by_cases hj1 : j - A * s < lo
    · rw [if_neg (by omega), List.append_assoc, List.getElem?_append_left (by rw [List.length_take]; omega), List.getElem?_take, if_pos hj1, secL_get, if_pos (by omega)]
      congr 1; omega
    · by_cases hj2 : j - A * s < hi
      · rw [if_pos (by omega), List.append_assoc, List.getElem?_append_right (by rw [List.length_take]; omega), List.length_take, List.getElem?_append_left (by omega)]
        congr 1; omega
      · rw [if_neg (by omega), List.getElem?_append_right (by rw [List.length_append, List.length_take]; omega), List.length_append, List.length_take, List.getElem?_drop, secL_get, if_pos (by omega)]
        congr 1; omega
  · rw [if_neg hj, if_neg (by omega)]
theorem putL_nextto {V x y : List UInt8} {q : Nat} (h : q + x.length + y.length ≤ V.length) : putL (putL V q x) (q + x.length) y = putL V q (x ++ y) := by
  apply List.ext_getElem?
  intro j
  rw [putL_get (by rw [putL_length (by omega)]; exact h), putL_get (by omega), putL_get (by rw [List.length_append]; omega), List.length_append]
  by_cases h1 : q + x.length ≤ j ∧ j < q + x.length + y.length
  · rw [if_pos h1, if_pos (by omega), List.getElem?_append_right (by omega)]; congr 1; omega
  · rw [if_neg h1]
    by_cases h2 : q ≤ j ∧ j < q + x.length
    · rw [if_pos h2, if_pos (by omega), List.getElem?_append_left (by omega)]
    · rw [if_neg h2, if_neg (by omega)]
theorem wrote_V {d d' : DkM} {n : Int} {m : List UInt8} (h : d.Wrote d' n m) : (d.wrE n m = 0 → d'.V = putL d.V (n.toNat * d.size) m) ∧ (d.wrE n m ≠ 0 → d'.V = d.V) := by
  constructor
  · intro he
    obtain ⟨⟨box, hp⟩, _⟩ := h.yes he
    unfold DkM.V
    rw [h.size, h.last, hp, allP_push]; rfl
  · intro he
    unfold DkM.V
    rw [h.size, h.last, (h.no he).1]
/-- A disk behind a piece's put: the error, and what the disk holds. -/
structure Put1 (d d' : DkM) (q : Nat) (x : List UInt8) (er : Int) : Prop where
  many : d'.many = d.many
  size : d'.size = d.size
  last : d'.last = d.last
  yes : er = 0 → d'.V = putL d.V q x ∧ d'.ps.length ≤ d.ps.length + 1
  no : er ≠ 0 → d'.V = d.V ∧ d'.ps.length ≤ d.ps.length ∧ ¬ calm d.g
  calm : calm d.g → d'.g = d.g

set_option maxRecDepth 10000 in
set_option maxHeartbeats 2000000 in
theorem put1_c {D1 : Nat → Prop} {w : World} {bd ba bb bv f mn s sec lo hi : Nat} {d : DkM} {r : List UInt8} (hS : DkS D1 w bd d) (HB : Blk w bb 9 [St r]) (HV : Blk w bv 26 [.pointer (some ⟨ba, 0, none⟩)]) (HA : Blk w ba 63 (arC bd f mn s)) (hsz : d.size = s) (nb : ¬ D1 bb) (nv : ¬ D1 bv) (na : ¬ D1 ba) (nbv : bb ≠ bv) (nba : bb ≠ ba) (hlh : lo < hi) (hhs : hi ≤ s) (hr : hi - lo ≤ r.length) (hsec : f + sec < d.many) (hrl : r.length ≤ 1000000) (hpn : d.ps.length ≤ 100000000) : Calls Try.prog 29 #[.agg #[.int .i64 (sec : Int), .int .i64 (lo : Int), .int .i64 (hi : Int)], .pointer (some ⟨bb, 0, none⟩), .pointer (some ⟨bv, 0, none⟩)] w (Ret fun v w' => ∃ er d', v = .int .i64 er ∧ Kp (fun b => D1 b ∨ b = bb) w w' ∧ DkS (fun b => D1 b ∨ w.heap.size ≤ b) w' bd d' ∧ Blk w' bb 9 [St (r.drop (hi - lo))] ∧ Put1 d d' ((f + sec) * s + lo) (r.take (hi - lo)) er) := by
  have hS := hS.bound
  obtain ⟨NW, hNW⟩ : ∃ x, x = w.heap.size := ⟨_, rfl⟩
  rw [← hNW] at hS
  have hs := hS.sep
  have hbb := HB.lt
  have hmy := hS.ok.many
  have hsy := hS.ok.size
  have hVl : d.V.length = d.many * s := by rw [← hsz]; exact allP_length hS.ok.ps hS.ok.last
  have hroom := mul_room (size := s) hsec
  have T : Kp (fun b => D1 b ∨ b = bb) w w := Kp.refl _ _
  refine calls_start Try.func29 rfl (n := 68) rfl rfl rfl ?_
  refine CW_seq ?_
  refine CW_reg rfl ?_
  refine OW_st rfl (Stp_box (l := [.int _ _, .int _ _, .int _ _]) rfl rfl rfl ?_)
  intro b1 w1 hb1 hz1 E1 B1
  have L1 : _ ≤ b1 := Nat.le_trans T.size (Nat.le_of_eq hb1.symm)
  have hS := hS.keep0 E1
  have HB := HB.keep0 E1
  have HV := HV.keep0 E1
  have HA := HA.keep0 E1
  have T := T.keep0 E1
  obtain ⟨bp, rfl⟩ : ∃ b, b = b1 := ⟨_, rfl⟩
  have PC : Blk w1 bp 71 [.int .i64 (sec : Int), .int .i64 (lo : Int), .int .i64 (hi : Int)] := B1
  refine OW_ev (Ev_c (.inr rfl)) rfl ?_
  refine OW_nil ?_
  refine CW_seq ?_
  refine CW_reg rfl ?_
  refine OW_ev (Ev_fieldAddr fld_71_2 rfl rfl) rfl ?_
  refine OW_ev (Ev_load one_3 rfl rfl (PC.ld (q := 2) rfl)) rfl ?_
  refine OW_ev (Ev_fieldAddr fld_71_1 rfl rfl) rfl ?_
  refine OW_ev (Ev_load one_3 rfl rfl (PC.ld (q := 1) rfl)) rfl ?_
  refine OW_ev (Ev_sub rfl rfl rfl (by apply IntWalk.i64_in; omega)) rfl ?_
  refine OW_ev (Ev_mvi (.inr rfl) rfl) rfl ?_
  refine OW_nil ?_
  refine CW_seq ?_
  refine CW_reg rfl ?_
  refine OW_ev (Ev_load one_9 rfl rfl (HB.ld (q := 0) rfl)) rfl ?_
  refine OW_ev (Ev_mvi (.inl rfl) rfl) rfl ?_
  refine OW_ev (Ev_strH (hi - lo) und_9 rfl rfl rfl (by omega) hr) rfl ?_
  refine OW_ev (Ev_mvst (.inr rfl) rfl) rfl ?_
  refine OW_nil ?_
  refine CW_seq ?_
  refine CW_reg rfl ?_
  refine OW_ev (Ev_load one_9 rfl rfl (HB.ld (q := 0) rfl)) rfl ?_
  refine OW_ev (Ev_mvi (.inl rfl) rfl) rfl ?_
  refine OW_ev (Ev_strL (hi - lo) und_9 rfl rfl rfl (by omega) hr) rfl ?_
  refine OW_st rfl (Stp_store (q := 0) HB siz_9 rfl rfl rfl rfl (Nat.le_of_ble_eq_true rfl) rfl ?_)
  intro w2 hz2 E2 B2
  have Z2 := E2.size
  have hS := hS.keepb E2 (fun h => nb h.1)
  have HV := HV.keepb E2 (fun e => nbv e.symm)
  have HA := HA.keepb E2 (fun e => nba e.symm)
  have T := T.trans' E2 (fun i _ h => .inr h)
  have PC := PC.keepb E2 (by omega)
  clear HB
  have HB := B2
  clear B2
  have HB : Blk w2 bb 9 [St (r.drop (hi - lo))] := HB
  refine OW_nil ?_
  refine CW_seq ?_
  refine CW_seq ?_
  refine CW_reg rfl ?_
  refine OW_ev (Ev_mvi (.inl rfl) rfl) rfl ?_
  refine OW_ev (Ev_load (v := .pointer (some ⟨ba, 0, none⟩)) one_26 rfl rfl (HV.ld (q := 0) rfl)) rfl ?_
  refine OW_ev (Ev_nilCheck rfl rfl) rfl ?_
  refine OW_ev (Ev_fieldAddr fld_63_3 rfl rfl) rfl ?_
  refine OW_ev (Ev_load one_3 rfl rfl (HA.ld (q := 3) rfl)) rfl ?_
  refine OW_ev (Ev_lss rfl rfl rfl) rfl ?_
  refine OW_nil ?_
  refine CW_cond rfl (fun c3 => ?_) (fun c3 => ?_)
  · have d3 := c3
    first | (with_reducible replace d3 := of_decide_eq_true d3) | (with_reducible replace d3 := bnt d3; try (with_reducible replace d3 := of_decide_eq_false d3)) | skip
    have hpart : hi - lo < s := by omega
    refine CW_seq ?_
    refine CW_re [(2, _), (3, .pointer _), (4, .int _ _), (6, .string _)] ⟨rfl, rfl, rfl, rfl, trivial⟩ (fun g => ?_)
    refine CW_draw (fun W => HB.here W ∧ HV.here W ∧ HA.here W ∧ PC.here W) mixed rfl (fun _ _ _ h => nomatch h.1) ?_
    have E4 : Kp0 _ _ := Kp.drew w2 nob
    have Z4 : (World.drew w2).heap.size = w2.heap.size := rfl
    generalize World.drew w2 = w4 at E4 Z4 ⊢
    have hS := hS.keep0 E4
    have HB := HB.keep0 E4
    have HV := HV.keep0 E4
    have HA := HA.keep0 E4
    have T := T.keep0 E4
    have PC := PC.keep0 E4
    refine AW_take 0 rfl rfl (by decide +kernel) (by decide +kernel) (by decide +kernel) (fun w ⟨HB, HV, HA, PC⟩ => Ev_load (v := .pointer (some ⟨ba, 0, none⟩)) one_26 rfl rfl (HV.ld (q := 0) rfl)) ⟨HB, HV, HA, PC⟩ ?_
    refine AW_take 1 rfl rfl (by decide +kernel) (by decide +kernel) (by decide +kernel) (fun w ⟨HB, HV, HA, PC⟩ => Ev_nilCheck rfl rfl) ⟨HB, HV, HA, PC⟩ ?_
    refine AW_take 2 rfl rfl (by decide +kernel) (by decide +kernel) (by decide +kernel) (fun w ⟨HB, HV, HA, PC⟩ => Ev_fieldAddr fld_63_0 rfl rfl) ⟨HB, HV, HA, PC⟩ ?_
    refine AW_take 3 rfl rfl (by decide +kernel) (by decide +kernel) (by decide +kernel) (fun w ⟨HB, HV, HA, PC⟩ => Ev_load one_22 rfl rfl (HA.ld (q := 0) rfl)) ⟨HB, HV, HA, PC⟩ ?_
    refine AW_take 4 rfl rfl (by decide +kernel) (by decide +kernel) (by decide +kernel) (fun w ⟨HB, HV, HA, PC⟩ => Ev_load (v := .pointer (some ⟨ba, 0, none⟩)) one_26 rfl rfl (HV.ld (q := 0) rfl)) ⟨HB, HV, HA, PC⟩ ?_
    refine AW_take 5 rfl rfl (by decide +kernel) (by decide +kernel) (by decide +kernel) (fun w ⟨HB, HV, HA, PC⟩ => Ev_nilCheck rfl rfl) ⟨HB, HV, HA, PC⟩ ?_
    refine AW_take 6 rfl rfl (by decide +kernel) (by decide +kernel) (by decide +kernel) (fun w ⟨HB, HV, HA, PC⟩ => Ev_fieldAddr fld_63_1 rfl rfl) ⟨HB, HV, HA, PC⟩ ?_
    refine AW_take 7 rfl rfl (by decide +kernel) (by decide +kernel) (by decide +kernel) (fun w ⟨HB, HV, HA, PC⟩ => Ev_load one_3 rfl rfl (HA.ld (q := 1) rfl)) ⟨HB, HV, HA, PC⟩ ?_
    refine AW_take 8 rfl rfl (by decide +kernel) (by decide +kernel) (by decide +kernel) (fun w ⟨HB, HV, HA, PC⟩ => Ev_fieldAddr fld_71_0 rfl rfl) ⟨HB, HV, HA, PC⟩ ?_
    refine AW_take 9 rfl rfl (by decide +kernel) (by decide +kernel) (by decide +kernel) (fun w ⟨HB, HV, HA, PC⟩ => Ev_load one_3 rfl rfl (PC.ld (q := 0) rfl)) ⟨HB, HV, HA, PC⟩ ?_
    refine AW_take 10 rfl rfl (by decide +kernel) (by decide +kernel) (by decide +kernel) (fun w ⟨HB, HV, HA, PC⟩ => Ev_add rfl rfl rfl (by apply IntWalk.i64_in; omega)) ⟨HB, HV, HA, PC⟩ ?_
    refine AW_one 11 (by decide +kernel) (Next.mk rfl rfl ?_)
    refine Stp_call ent_25 rfl rfl rfl (read_c hS ((f : Int) + (sec : Int))) ?_
    rintro _ w5 ⟨E5, HS2, rfl⟩
    have Z5 := E5.size
    have HB := HB.keepb E5 (fun e => nb (by rw [e]; exact hs.d1.1))
    have HV := HV.keepb E5 (fun e => nv (by rw [e]; exact hs.d1.1))
    have HA := HA.keepb E5 (fun e => na (by rw [e]; exact hs.d1.1))
    have T := T.trans' E5 (fun i _ h => .inl (by rw [show i = bd from h]; exact hs.d1.1))
    have PC := PC.keepb E5 (by have := hs.d1.2; omega)
    have hS := HS2
    refine ⟨⟨HB, HV, HA, PC⟩, ?_⟩
    refine AW_take 12 rfl rfl (by decide +kernel) (by decide +kernel) (by decide +kernel) (fun w ⟨HB, HV, HA, PC⟩ => Ev_mvt (.inl rfl) rfl) ⟨HB, HV, HA, PC⟩ ?_
    refine AW_take 13 rfl rfl (by decide +kernel) (by decide +kernel) (by decide +kernel) (fun w ⟨HB, HV, HA, PC⟩ => Ev_extract (vs := _) rfl rfl rfl) ⟨HB, HV, HA, PC⟩ ?_
    refine AW_take 14 rfl rfl (by decide +kernel) (by decide +kernel) (by decide +kernel) (fun w ⟨HB, HV, HA, PC⟩ => Ev_extract (vs := _) rfl rfl rfl) ⟨HB, HV, HA, PC⟩ ?_
    refine AW_take 15 rfl rfl (by decide +kernel) (by decide +kernel) (by decide +kernel) (fun w ⟨HB, HV, HA, PC⟩ => Ev_mvst (.inr rfl) rfl) ⟨HB, HV, HA, PC⟩ ?_
    refine AW_take 16 rfl rfl (by decide +kernel) (by decide +kernel) (by decide +kernel) (fun w ⟨HB, HV, HA, PC⟩ => Ev_mvi (.inr rfl) rfl) ⟨HB, HV, HA, PC⟩ ?_
    refine AW_done (by decide +kernel) ?_
    refine CW_seq ?_
    refine CW_seq ?_
    refine CW_re [(2, _), (3, .pointer _), (4, .int _ _), (6, .string _), (7, .string _), (8, .int _ _)] ⟨rfl, rfl, rfl, rfl, rfl, rfl, trivial⟩ (fun g => ?_)
    refine CW_reg rfl ?_
    refine OW_ev (Ev_mvi (.inl rfl) rfl) rfl ?_
    refine OW_ev (Ev_neq rfl rfl rfl) rfl ?_
    refine OW_nil ?_
    refine CW_cond rfl (fun c6 => ?_) (fun c6 => ?_)
    · have d6 := c6
      first | (with_reducible replace d6 := of_decide_eq_true d6) | (with_reducible replace d6 := bnt d6; try (with_reducible replace d6 := of_decide_eq_false d6)) | skip
      have he := d6
      have hdn : d.g.down = true := by
        cases h : d.g.down with
        | true => rfl
        | false => exfalso; apply he; unfold DkM.rd; rw [if_neg (by simp [h]), if_neg (by omega)]
      have hrd : d.rd ((f : Int) + (sec : Int)) = ([], 9, d.g) := if_pos hdn
      rw [hrd] at hS
      refine CW_seq ?_
      refine CW_reg rfl ?_
      refine OW_ev (Ev_mvi (.inl rfl) rfl) rfl ?_
      refine OW_ev (Ev_mvi (.inr rfl) rfl) rfl ?_
      refine OW_nil ?_
      refine CW_ret ?_
      refine ⟨rfl, _, (.tmp rfl .nil), ?_⟩
      refine ⟨_, _, rfl, T, hS.mono (fun b h => .inl h.1), HB, ⟨rfl, rfl, rfl, fun h => absurd h he, fun _ => ⟨rfl, Nat.le_refl _, fun h => by rw [h.1] at hdn; cases hdn⟩, fun _ => rfl⟩⟩
    · have d6 := c6
      first | (with_reducible replace d6 := of_decide_eq_false d6) | (with_reducible replace d6 := bnf d6; try (with_reducible replace d6 := of_decide_eq_true d6)) | skip
      have he := d6
      have hdn : d.g.down = false := by
        cases h : d.g.down with
        | false => rfl
        | true => exfalso; apply he; unfold DkM.rd; rw [if_pos h]; show (9 : Int) ≠ 0; decide
      have hrd : d.rd ((f : Int) + (sec : Int)) = (secL s d.V (f + sec), 0, d.g.cnt) := by unfold DkM.rd; rw [if_neg (by simp [hdn]), if_neg (by omega), hsz, show ((f : Int) + (sec : Int)).toNat = f + sec by omega]
      have hR : (d.rd ((f : Int) + (sec : Int))).1 = secL s d.V (f + sec) := by rw [hrd]
      simp only [hrd] at hS
      have hsl := secL_length (size := s) (a := f + sec) (l := d.V) (by rw [hVl]; omega)
      refine CW_skip ?_
      refine CW_draw (fun W => HB.here W ∧ HV.here W ∧ HA.here W ∧ PC.here W ∧ hS.here W) mixed rfl (fun _ _ _ h => nomatch h.1) ?_
      have E7 : Kp0 _ _ := Kp.drew w5 nob
      have Z7 : (World.drew w5).heap.size = w5.heap.size := rfl
      generalize World.drew w5 = w7 at E7 Z7 ⊢
      have HB := HB.keep0 E7
      have HV := HV.keep0 E7
      have HA := HA.keep0 E7
      have T := T.keep0 E7
      have PC := PC.keep0 E7
      have hS := hS.keep0 E7
      refine AW_take 0 rfl rfl (by decide +kernel) (by decide +kernel) (by decide +kernel) (fun w ⟨HB, HV, HA, PC, hS⟩ => Ev_mvst (.inl rfl) rfl) ⟨HB, HV, HA, PC, hS⟩ ?_
      refine AW_take 1 rfl rfl (by decide +kernel) (by decide +kernel) (by decide +kernel) (fun w ⟨HB, HV, HA, PC, hS⟩ => Ev_fieldAddr fld_71_1 rfl rfl) ⟨HB, HV, HA, PC, hS⟩ ?_
      refine AW_take 2 rfl rfl (by decide +kernel) (by decide +kernel) (by decide +kernel) (fun w ⟨HB, HV, HA, PC, hS⟩ => Ev_load one_3 rfl rfl (PC.ld (q := 1) rfl)) ⟨HB, HV, HA, PC, hS⟩ ?_
      refine AW_take 3 rfl rfl (by decide +kernel) (by decide +kernel) (by decide +kernel) (fun w ⟨HB, HV, HA, PC, hS⟩ => Ev_strH lo und_9 rfl rfl rfl rfl (by rw [hR]; omega)) ⟨HB, HV, HA, PC, hS⟩ ?_
      refine AW_take 4 rfl rfl (by decide +kernel) (by decide +kernel) (by decide +kernel) (fun w ⟨HB, HV, HA, PC, hS⟩ => Ev_mvst (.inl rfl) rfl) ⟨HB, HV, HA, PC, hS⟩ ?_
      refine AW_take 5 rfl rfl (by decide +kernel) (by decide +kernel) (by decide +kernel) (fun w ⟨HB, HV, HA, PC, hS⟩ => Ev_strAdd rfl rfl rfl (by simp only [List.length_take]; omega)) ⟨HB, HV, HA, PC, hS⟩ ?_
      refine AW_take 6 rfl rfl (by decide +kernel) (by decide +kernel) (by decide +kernel) (fun w ⟨HB, HV, HA, PC, hS⟩ => Ev_mvst (.inl rfl) rfl) ⟨HB, HV, HA, PC, hS⟩ ?_
      refine AW_take 7 rfl rfl (by decide +kernel) (by decide +kernel) (by decide +kernel) (fun w ⟨HB, HV, HA, PC, hS⟩ => Ev_fieldAddr fld_71_2 rfl rfl) ⟨HB, HV, HA, PC, hS⟩ ?_
      refine AW_take 8 rfl rfl (by decide +kernel) (by decide +kernel) (by decide +kernel) (fun w ⟨HB, HV, HA, PC, hS⟩ => Ev_load one_3 rfl rfl (PC.ld (q := 2) rfl)) ⟨HB, HV, HA, PC, hS⟩ ?_
      refine AW_take 9 rfl rfl (by decide +kernel) (by decide +kernel) (by decide +kernel) (fun w ⟨HB, HV, HA, PC, hS⟩ => Ev_strL hi und_9 rfl rfl rfl rfl (by rw [hR]; omega)) ⟨HB, HV, HA, PC, hS⟩ ?_
      refine AW_take 10 rfl rfl (by decide +kernel) (by decide +kernel) (by decide +kernel) (fun w ⟨HB, HV, HA, PC, hS⟩ => Ev_strAdd rfl rfl rfl (by simp only [List.length_append, List.length_take, List.length_drop, hR]; omega)) ⟨HB, HV, HA, PC, hS⟩ ?_
      refine AW_take 11 rfl rfl (by decide +kernel) (by decide +kernel) (by decide +kernel) (fun w ⟨HB, HV, HA, PC, hS⟩ => Ev_mvst (.inr rfl) rfl) ⟨HB, HV, HA, PC, hS⟩ ?_
      refine AW_done (by decide +kernel) ?_
      refine CW_seq ?_
      refine CW_re [(2, _), (3, .pointer _), (4, .int _ _), (6, .string _)] ⟨rfl, rfl, rfl, rfl, trivial⟩ (fun g => ?_)
      refine CW_draw (fun W => HB.here W ∧ HV.here W ∧ HA.here W ∧ PC.here W) mixed rfl (fun _ _ _ h => nomatch h.1) ?_
      have E8 : Kp0 _ _ := Kp.drew w7 nob
      have Z8 : (World.drew w7).heap.size = w7.heap.size := rfl
      generalize World.drew w7 = w8 at E8 Z8 ⊢
      have HB := HB.keep0 E8
      have HV := HV.keep0 E8
      have HA := HA.keep0 E8
      have T := T.keep0 E8
      have PC := PC.keep0 E8
      have hS := hS.keep0 E8
      refine AW_take 0 rfl rfl (by decide +kernel) (by decide +kernel) (by decide +kernel) (fun w ⟨HB, HV, HA, PC⟩ => Ev_load (v := .pointer (some ⟨ba, 0, none⟩)) one_26 rfl rfl (HV.ld (q := 0) rfl)) ⟨HB, HV, HA, PC⟩ ?_
      refine AW_take 1 rfl rfl (by decide +kernel) (by decide +kernel) (by decide +kernel) (fun w ⟨HB, HV, HA, PC⟩ => Ev_nilCheck rfl rfl) ⟨HB, HV, HA, PC⟩ ?_
      refine AW_take 2 rfl rfl (by decide +kernel) (by decide +kernel) (by decide +kernel) (fun w ⟨HB, HV, HA, PC⟩ => Ev_fieldAddr fld_63_0 rfl rfl) ⟨HB, HV, HA, PC⟩ ?_
      refine AW_take 3 rfl rfl (by decide +kernel) (by decide +kernel) (by decide +kernel) (fun w ⟨HB, HV, HA, PC⟩ => Ev_load one_22 rfl rfl (HA.ld (q := 0) rfl)) ⟨HB, HV, HA, PC⟩ ?_
      refine AW_take 4 rfl rfl (by decide +kernel) (by decide +kernel) (by decide +kernel) (fun w ⟨HB, HV, HA, PC⟩ => Ev_load (v := .pointer (some ⟨ba, 0, none⟩)) one_26 rfl rfl (HV.ld (q := 0) rfl)) ⟨HB, HV, HA, PC⟩ ?_
      refine AW_take 5 rfl rfl (by decide +kernel) (by decide +kernel) (by decide +kernel) (fun w ⟨HB, HV, HA, PC⟩ => Ev_nilCheck rfl rfl) ⟨HB, HV, HA, PC⟩ ?_
      refine AW_take 6 rfl rfl (by decide +kernel) (by decide +kernel) (by decide +kernel) (fun w ⟨HB, HV, HA, PC⟩ => Ev_fieldAddr fld_63_1 rfl rfl) ⟨HB, HV, HA, PC⟩ ?_
      refine AW_take 7 rfl rfl (by decide +kernel) (by decide +kernel) (by decide +kernel) (fun w ⟨HB, HV, HA, PC⟩ => Ev_load one_3 rfl rfl (HA.ld (q := 1) rfl)) ⟨HB, HV, HA, PC⟩ ?_
      refine AW_take 8 rfl rfl (by decide +kernel) (by decide +kernel) (by decide +kernel) (fun w ⟨HB, HV, HA, PC⟩ => Ev_fieldAddr fld_71_0 rfl rfl) ⟨HB, HV, HA, PC⟩ ?_
      refine AW_take 9 rfl rfl (by decide +kernel) (by decide +kernel) (by decide +kernel) (fun w ⟨HB, HV, HA, PC⟩ => Ev_load one_3 rfl rfl (PC.ld (q := 0) rfl)) ⟨HB, HV, HA, PC⟩ ?_
      refine AW_take 10 rfl rfl (by decide +kernel) (by decide +kernel) (by decide +kernel) (fun w ⟨HB, HV, HA, PC⟩ => Ev_add rfl rfl rfl (by apply IntWalk.i64_in; omega)) ⟨HB, HV, HA, PC⟩ ?_
      refine AW_take 11 rfl rfl (by decide +kernel) (by decide +kernel) (by decide +kernel) (fun w ⟨HB, HV, HA, PC⟩ => Ev_mvst (.inl rfl) rfl) ⟨HB, HV, HA, PC⟩ ?_
      refine AW_one 12 (by decide +kernel) (Next.mk rfl rfl ?_)
      refine Stp_call ent_30 rfl rfl rfl (write_c hS ((f : Int) + (sec : Int)) ((d.rd ((f : Int) + (sec : Int))).1.take lo ++ r.take (hi - lo) ++ (d.rd ((f : Int) + (sec : Int))).1.drop hi) hpn) ?_
      rintro _ w9 ⟨d2, E9, HS2, rfl, hW⟩
      have Z9 := E9.size
      have HB := HB.keep E9 (fun h => nb h.1)
      have HV := HV.keep E9 (fun h => nv h.1)
      have HA := HA.keep E9 (fun h => na h.1)
      have T := T.trans' E9 (fun i _ h => .inl h.1)
      have PC := PC.keep E9 (fun h => by have := h.2; omega)
      have hS := HS2.mono (E := fun b => D1 b ∨ w.heap.size ≤ b) (fun b h => h.imp (fun h => h.1) (fun h => by omega))
      refine ⟨⟨HB, HV, HA, PC⟩, ?_⟩
      refine AW_take 13 rfl rfl (by decide +kernel) (by decide +kernel) (by decide +kernel) (fun w ⟨HB, HV, HA, PC⟩ => Ev_mvi (.inr rfl) rfl) ⟨HB, HV, HA, PC⟩ ?_
      refine AW_done (by decide +kernel) ?_
      refine CW_ret ?_
      refine ⟨rfl, _, (.tmp rfl .nil), ?_⟩
      have hxl : (r.take (hi - lo)).length = hi - lo := by rw [List.length_take]; omega
      have htl : ((d.rd ((f : Int) + (sec : Int))).1.take lo ++ r.take (hi - lo) ++ (d.rd ((f : Int) + (sec : Int))).1.drop hi).length = s := by rw [hR, List.length_append, List.length_append, List.length_take, List.length_drop]; omega
      obtain ⟨hV1, hV2⟩ := wrote_V hW
      have hwe : ({ d with g := d.g.cnt } : DkM).wrE ((f : Int) + (sec : Int)) ((d.rd ((f : Int) + (sec : Int))).1.take lo ++ r.take (hi - lo) ++ (d.rd ((f : Int) + (sec : Int))).1.drop hi) = if d.g.cnt.down = true then 9 else 0 := by
        unfold DkM.wrE
        rw [if_neg (show ¬ ((f : Int) + (sec : Int) < 0 ∨ _) by show ¬ ((f : Int) + (sec : Int) < 0 ∨ (d.many : Int) ≤ (f : Int) + (sec : Int)); omega), if_neg (show ¬ ((d.rd ((f : Int) + (sec : Int))).1.take lo ++ r.take (hi - lo) ++ (d.rd ((f : Int) + (sec : Int))).1.drop hi).length ≠ _ by show ¬ ((d.rd ((f : Int) + (sec : Int))).1.take lo ++ r.take (hi - lo) ++ (d.rd ((f : Int) + (sec : Int))).1.drop hi).length ≠ d.size; omega)]
      refine ⟨_, d2, rfl, T, hS, HB, ⟨hW.many, hW.size, hW.last, fun h => ⟨?_, ?_⟩, fun h => ⟨?_, ?_, ?_⟩, fun h => ?_⟩⟩
      · rw [hV1 h]
        show putL d.V (((f : Int) + (sec : Int)).toNat * d.size) _ = _
        rw [show ((f : Int) + (sec : Int)).toNat = f + sec by omega, hsz]
        rw [hR]; exact put_part (by rw [hVl]; omega) hlh hhs hxl
      · obtain ⟨⟨box, hp⟩, _⟩ := hW.yes h
        rw [hp]; simp
      · exact hV2 h
      · rw [(hW.no h).1]; exact Nat.le_refl _
      · rintro ⟨c1, c2⟩
        apply h; rw [hwe, calm_cnt ⟨c1, c2⟩]; simp [c1]
      · have hc0 : ({ d with g := d.g.cnt } : DkM).wrE ((f : Int) + (sec : Int)) ((d.rd ((f : Int) + (sec : Int))).1.take lo ++ r.take (hi - lo) ++ (d.rd ((f : Int) + (sec : Int))).1.drop hi) = 0 := by rw [hwe, calm_cnt h]; simp [h.1]
        rw [(hW.yes hc0).2]
        show d.g.cnt.cnt = d.g; rw [calm_cnt h, calm_cnt h]
  · have d3 := c3
    first | (with_reducible replace d3 := of_decide_eq_false d3) | (with_reducible replace d3 := bnf d3; try (with_reducible replace d3 := of_decide_eq_true d3)) | skip
    have hfull : lo = 0 ∧ hi = s := by omega
    refine CW_skip ?_
    refine CW_seq ?_
    refine CW_re [(2, _), (3, .pointer _), (4, .int _ _), (6, .string _)] ⟨rfl, rfl, rfl, rfl, trivial⟩ (fun g => ?_)
    refine CW_draw (fun W => HB.here W ∧ HV.here W ∧ HA.here W ∧ PC.here W) mixed rfl (fun _ _ _ h => nomatch h.1) ?_
    have E10 : Kp0 _ _ := Kp.drew w2 nob
    have Z10 : (World.drew w2).heap.size = w2.heap.size := rfl
    generalize World.drew w2 = w10 at E10 Z10 ⊢
    have hS := hS.keep0 E10
    have HB := HB.keep0 E10
    have HV := HV.keep0 E10
    have HA := HA.keep0 E10
    have T := T.keep0 E10
    have PC := PC.keep0 E10
    refine AW_take 0 rfl rfl (by decide +kernel) (by decide +kernel) (by decide +kernel) (fun w ⟨HB, HV, HA, PC⟩ => Ev_load (v := .pointer (some ⟨ba, 0, none⟩)) one_26 rfl rfl (HV.ld (q := 0) rfl)) ⟨HB, HV, HA, PC⟩ ?_
    refine AW_take 1 rfl rfl (by decide +kernel) (by decide +kernel) (by decide +kernel) (fun w ⟨HB, HV, HA, PC⟩ => Ev_nilCheck rfl rfl) ⟨HB, HV, HA, PC⟩ ?_
    refine AW_take 2 rfl rfl (by decide +kernel) (by decide +kernel) (by decide +kernel) (fun w ⟨HB, HV, HA, PC⟩ => Ev_fieldAddr fld_63_0 rfl rfl) ⟨HB, HV, HA, PC⟩ ?_
    refine AW_take 3 rfl rfl (by decide +kernel) (by decide +kernel) (by decide +kernel) (fun w ⟨HB, HV, HA, PC⟩ => Ev_load one_22 rfl rfl (HA.ld (q := 0) rfl)) ⟨HB, HV, HA, PC⟩ ?_
    refine AW_take 4 rfl rfl (by decide +kernel) (by decide +kernel) (by decide +kernel) (fun w ⟨HB, HV, HA, PC⟩ => Ev_load (v := .pointer (some ⟨ba, 0, none⟩)) one_26 rfl rfl (HV.ld (q := 0) rfl)) ⟨HB, HV, HA, PC⟩ ?_
    refine AW_take 5 rfl rfl (by decide +kernel) (by decide +kernel) (by decide +kernel) (fun w ⟨HB, HV, HA, PC⟩ => Ev_nilCheck rfl rfl) ⟨HB, HV, HA, PC⟩ ?_
    refine AW_take 6 rfl rfl (by decide +kernel) (by decide +kernel) (by decide +kernel) (fun w ⟨HB, HV, HA, PC⟩ => Ev_fieldAddr fld_63_1 rfl rfl) ⟨HB, HV, HA, PC⟩ ?_
    refine AW_take 7 rfl rfl (by decide +kernel) (by decide +kernel) (by decide +kernel) (fun w ⟨HB, HV, HA, PC⟩ => Ev_load one_3 rfl rfl (HA.ld (q := 1) rfl)) ⟨HB, HV, HA, PC⟩ ?_
    refine AW_take 8 rfl rfl (by decide +kernel) (by decide +kernel) (by decide +kernel) (fun w ⟨HB, HV, HA, PC⟩ => Ev_fieldAddr fld_71_0 rfl rfl) ⟨HB, HV, HA, PC⟩ ?_
    refine AW_take 9 rfl rfl (by decide +kernel) (by decide +kernel) (by decide +kernel) (fun w ⟨HB, HV, HA, PC⟩ => Ev_load one_3 rfl rfl (PC.ld (q := 0) rfl)) ⟨HB, HV, HA, PC⟩ ?_
    refine AW_take 10 rfl rfl (by decide +kernel) (by decide +kernel) (by decide +kernel) (fun w ⟨HB, HV, HA, PC⟩ => Ev_add rfl rfl rfl (by apply IntWalk.i64_in; omega)) ⟨HB, HV, HA, PC⟩ ?_
    refine AW_take 11 rfl rfl (by decide +kernel) (by decide +kernel) (by decide +kernel) (fun w ⟨HB, HV, HA, PC⟩ => Ev_mvst (.inl rfl) rfl) ⟨HB, HV, HA, PC⟩ ?_
    refine AW_one 12 (by decide +kernel) (Next.mk rfl rfl ?_)
    refine Stp_call ent_30 rfl rfl rfl (write_c hS ((f : Int) + (sec : Int)) (r.take (hi - lo)) hpn) ?_
    rintro _ w11 ⟨d2, E11, HS2, rfl, hW⟩
    have Z11 := E11.size
    have HB := HB.keep E11 (fun h => nb h.1)
    have HV := HV.keep E11 (fun h => nv h.1)
    have HA := HA.keep E11 (fun h => na h.1)
    have T := T.trans' E11 (fun i _ h => .inl h.1)
    have PC := PC.keep E11 (fun h => by have := h.2; omega)
    have hS := HS2.mono (E := fun b => D1 b ∨ w.heap.size ≤ b) (fun b h => h.imp (fun h => h.1) (fun h => by omega))
    refine ⟨⟨HB, HV, HA, PC⟩, ?_⟩
    refine AW_take 13 rfl rfl (by decide +kernel) (by decide +kernel) (by decide +kernel) (fun w ⟨HB, HV, HA, PC⟩ => Ev_mvi (.inr rfl) rfl) ⟨HB, HV, HA, PC⟩ ?_
    refine AW_done (by decide +kernel) ?_
    refine CW_ret ?_
    refine ⟨rfl, _, (.tmp rfl .nil), ?_⟩
    have hxl : (r.take (hi - lo)).length = hi - lo := by rw [List.length_take]; omega
    have htl : (r.take (hi - lo)).length = s := by omega
    obtain ⟨hV1, hV2⟩ := wrote_V hW
    have hwe : d.wrE ((f : Int) + (sec : Int)) (r.take (hi - lo)) = if d.g.down = true then 9 else 0 := by
      unfold DkM.wrE
      rw [if_neg (show ¬ ((f : Int) + (sec : Int) < 0 ∨ _) by show ¬ ((f : Int) + (sec : Int) < 0 ∨ (d.many : Int) ≤ (f : Int) + (sec : Int)); omega), if_neg (show ¬ (r.take (hi - lo)).length ≠ _ by show ¬ (r.take (hi - lo)).length ≠ d.size; omega)]
    refine ⟨_, d2, rfl, T, hS, HB, ⟨hW.many, hW.size, hW.last, fun h => ⟨?_, ?_⟩, fun h => ⟨?_, ?_, ?_⟩, fun h => ?_⟩⟩
    · rw [hV1 h]
      show putL d.V (((f : Int) + (sec : Int)).toNat * d.size) _ = _
      rw [show ((f : Int) + (sec : Int)).toNat = f + sec by omega, hsz]
      rw [hfull.1, Nat.add_zero]
    · obtain ⟨⟨box, hp⟩, _⟩ := hW.yes h
      rw [hp]; simp
    · exact hV2 h
    · rw [(hW.no h).1]; exact Nat.le_refl _
    · rintro ⟨c1, c2⟩
      apply h; rw [hwe]; simp [c1]
    · have hc0 : d.wrE ((f : Int) + (sec : Int)) (r.take (hi - lo)) = 0 := by rw [hwe]; simp [h.1]
      rw [(hW.yes hc0).2]
      exact calm_cnt h

end Go.Proofs.Ythfelkjklnhdiaa