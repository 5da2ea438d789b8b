/- Contract of (*sector.Disk).Read. -/
import Derived.Test.YthfelkjklnhdiaaDisk2
namespace Go.Proofs.Ythfelkjklnhdiaa
open Go Go.RowKit Bx Go.Proofs

def DkM.rd (d : DkM) (n : Int) : List UInt8 × Int × Flg :=
  if d.g.down = true then ([], 9, d.g) else if n < 0 ∨ (d.many : Int) ≤ n then ([], 6, d.g) else (secL d.size d.V n.toNat, 0, d.g.cnt)
theorem own_head {base e : Nat} {w : World} {v : Value} {es : List (List Value)} (h : Own base w e 1 v es) (hn : es ≠ []) : ∃ g cap rest, v = .slice (some ⟨g, 0, none⟩) es.length cap ∧ base ≤ g ∧ Blk w g e (es.flatten ++ rest) ∧ es.length ≤ cap := by
  rcases h.2 with ⟨h0, _⟩ | ⟨g, cap, rest, h1, h2, h3, h4, _⟩
  · exact absurd h0 hn
  · exact ⟨g, cap, rest, h1, h2, h3, h4⟩
theorem By_map_len (l : List UInt8) : (l.map By).length = l.length := by simp

set_option maxRecDepth 10000 in
set_option maxHeartbeats 2000000 in
theorem read_c {D : Nat → Prop} {w : World} {bd : Nat} {d : DkM} (hS : DkS D w bd d) (n : Int) : Calls Try.prog 25 #[.pointer (some ⟨bd, 0, none⟩), .int .i64 n] w (Ret fun v w' => Kp (fun b => b = bd) w w' ∧ DkS D w' bd { d with g := (d.rd n).2.2 } ∧ v = .tuple #[St (d.rd n).1, .int .i64 (d.rd n).2.1]) := by
  have hS := hS.bound
  obtain ⟨NW, hNW⟩ : ∃ x, x = w.heap.size := ⟨_, rfl⟩
  rw [← hNW] at hS
  have hs := hS.sep
  have hok := hS.ok
  obtain ⟨kd, kl, mp, pv, wv, bx, -, -⟩ := hS
  have hm := hok.many
  have hz := hok.size
  have hg := hok.g
  have kd : Blk w bd 59 [.int .i64 (d.many : Int), .int .i64 (d.size : Int), .slice (some ⟨d.bl, 0, none⟩) (d.many * d.size) (d.many * d.size), .slice d.pa d.ps.length d.pc, .slice d.wa d.ps.length d.wc, .map (some d.bm), .bool d.g.down, .bool d.g.breaks, .int .i64 d.g.left] := kd
  have hbig : d.many * d.size ≤ 4096 * 1024 := Nat.mul_le_mul hm.2 hz.2
  have T : Kp (fun b => b = bd) w w := Kp.refl _ _
  refine calls_start Try.func25 rfl (n := 56) rfl rfl rfl ?_
  refine CW_seq ?_
  refine CW_reg rfl ?_
  refine OW_ev (Ev_c (.inr rfl)) rfl ?_
  refine OW_ev (Ev_c (.inr rfl)) rfl ?_
  refine OW_nil ?_
  refine CW_seq ?_
  refine CW_seq ?_
  refine CW_reg rfl ?_
  refine OW_ev (Ev_mvp (.inl rfl) rfl) rfl ?_
  refine OW_ev (Ev_mvi (.inl rfl) rfl) rfl ?_
  refine OW_st rfl (Stp_call ent_43 rfl rfl rfl (refuse_c (⟨kd, kl, mp, pv, wv, bx, hs, hok⟩ : DkS (fun b => D b ∧ b < NW) _ bd d) n) ?_)
  rintro _ w1 ⟨E1, rfl⟩
  have Z1 := E1.size
  have kd := kd.keep0 E1
  have kl := kl.keep0 E1
  have mp := mp.keep0 E1
  have pv := pv.keep0 E1
  have wv := wv.keep0 E1
  have bx := bx.keep0 E1
  have T := T.keep0 E1
  refine OW_ev (Ev_mvi (.inr rfl) rfl) rfl ?_
  refine OW_nil ?_
  refine CW_seq ?_
  refine CW_reg rfl ?_
  refine OW_ev (Ev_mvi (.inl rfl) rfl) rfl ?_
  refine OW_ev (Ev_neq rfl rfl rfl) rfl ?_
  refine OW_nil ?_
  refine CW_cond rfl (fun c2 => ?_) (fun c2 => ?_)
  · have d2 := c2
    first | (with_reducible replace d2 := of_decide_eq_true d2) | (with_reducible replace d2 := bnt d2; try (with_reducible replace d2 := of_decide_eq_false d2)) | skip
    have he := d2
    refine CW_seq ?_
    refine CW_reg rfl ?_
    refine OW_ev (Ev_mvi (.inl rfl) rfl) rfl ?_
    refine OW_ev (Ev_c (.inr rfl)) rfl ?_
    refine OW_ev (Ev_mvi (.inr rfl) rfl) rfl ?_
    refine OW_nil ?_
    refine CW_ret ?_
    refine ⟨rfl, _, (.tmp rfl (.tmp rfl .nil)), ?_⟩
    rcases Bool.eq_false_or_eq_true d.g.down with hd | hd
    · have hrd : d.rd n = ([], 9, d.g) := if_pos hd
      rw [hrd, if_pos hd]
      exact ⟨T, (⟨kd, kl, mp, pv, wv, bx, hs, hok⟩ : DkS (fun b => D b ∧ b < NW) _ bd d).mono fun b h => h.1, rfl⟩
    · have hr : n < 0 ∨ (d.many : Int) ≤ n := by
        rcases Classical.em (n < 0 ∨ (d.many : Int) ≤ n) with h | h
        · exact h
        · rw [if_neg (by simp [hd]), if_neg h] at he; exact absurd rfl he
      have hrd : d.rd n = ([], 6, d.g) := by unfold DkM.rd; rw [if_neg (by simp [hd]), if_pos hr]
      rw [hrd, if_neg (by simp [hd]), if_pos hr]
      exact ⟨T, (⟨kd, kl, mp, pv, wv, bx, hs, hok⟩ : DkS (fun b => D b ∧ b < NW) _ bd d).mono fun b h => h.1, rfl⟩
  · have d2 := c2
    first | (with_reducible replace d2 := of_decide_eq_false d2) | (with_reducible replace d2 := bnf d2; try (with_reducible replace d2 := of_decide_eq_true d2)) | skip
    have he := d2
    have hd : d.g.down = false := by
      cases hdd : d.g.down with
      | false => rfl
      | true => rw [if_pos hdd] at he; omega
    rw [if_neg (by simp [hd])] at he
    have hr : ¬ (n < 0 ∨ (d.many : Int) ≤ n) := fun h => he (by rw [if_pos h]; omega)
    obtain ⟨a, rfl⟩ : ∃ a : Nat, n = (a : Int) := ⟨n.toNat, by omega⟩
    have ham : a < d.many := by omega
    have hroom := mul_room (size := d.size) ham
    have hll := hok.last
    obtain ⟨hsp1, hsp2⟩ := last_spec (a := a) hok.last hok.ps
    have hrd : d.rd (a : Int) = (secL d.size d.V a, 0, d.g.cnt) := by unfold DkM.rd; rw [if_neg (by simp [hd]), if_neg hr, Int.toNat_natCast]
    have hsl := secL_length (size := d.size) (a := a) (l := d.last) (by omega)
    refine CW_skip ?_
    refine CW_seq ?_
    refine CW_reg rfl ?_
    refine OW_ev (Ev_mvp (.inl rfl) rfl) rfl ?_
    refine OW_ev (Ev_mvi (.inl rfl) rfl) rfl ?_
    refine OW_st rfl (Stp_call ent_34 rfl rfl rfl (sector_c (⟨kd, kl, mp, pv, wv, bx, hs, hok⟩ : DkS (fun b => D b ∧ b < NW) _ bd d) ham) ?_)
    rintro _ w3 ⟨E3, rfl⟩
    have Z3 := E3.size
    have kd := kd.keep0 E3
    have kl := kl.keep0 E3
    have mp := mp.keep0 E3
    have pv := pv.keep0 E3
    have wv := wv.keep0 E3
    have bx := bx.keep0 E3
    have T := T.keep0 E3
    have SS := Sl.part (q := a * d.size) (k := d.size) (bytesAt (l := d.last) (rest := []) (by rw [List.append_nil]; exact kl)) (by omega)
    have SS : Sl (· = d.bl) _ 1 (some ⟨d.bl, a * d.size, none⟩) ((secL d.size d.last a).map By) := SS
    refine OW_st rfl (Stp_append (Own.none_ NW _ 5 1 none) SS el_38 rfl rfl rfl rfl (by simp [hsl]) (By_one _) (by simp [maxLen, hsl]; omega) (by simp [hsl]; omega) (by omega) ?_)
    intro v4 w4 O4 E4 X4
    have Z4 := E4.size
    have kd := kd.keepo E4 (fun x _ _ he => by cases he)
    have kl := kl.keepo E4 (fun x _ _ he => by cases he)
    have mp := mp.keepo E4 (fun x _ _ he => by cases he)
    have pv := pv.keepo E4 (fun x _ _ he => by cases he)
    have wv := wv.keepo E4 (fun x _ _ he => by cases he)
    have bx := bx.keepo E4 (fun p _ he => by cases he)
    have T := T.trans' E4 (fun i _ hm => by cases hm.1)
    obtain ⟨a4, q4, rfl, l4, m4, S4⟩ := O4.sl
    have hv4 := own_head O4 (by intro e; have := congrArg List.length e; simp [hsl] at this; omega)
    obtain ⟨g0, cap0, rest0, hvv, hg0, BG, hcap0⟩ := hv4
    injection hvv with e1 e2 e3
    subst e1; subst e3
    rw [List.nil_append] at BG
    have hlen0 : ([] ++ (secL d.size d.last a).map By).length = d.size := by simp [hsl]
    rw [hlen0] at hcap0
    refine OW_ev (Ev_mvs (.inr rfl) rfl) rfl ?_
    refine OW_nil ?_
    refine CW_seq ?_
    refine CW_seq ?_
    refine CW_reg rfl ?_
    refine OW_ev (Ev_mvp (.inl rfl) rfl) rfl ?_
    refine OW_ev (Ev_nilCheck rfl rfl) rfl ?_
    refine OW_ev (Ev_fieldAddr fld_59_5 rfl rfl) rfl ?_
    refine OW_ev (Ev_load (v := .map (some d.bm)) one_55 rfl rfl (kd.ld (q := 5) rfl)) rfl ?_
    refine OW_ev (Ev_mvi (.inl rfl) rfl) rfl ?_
    refine OW_ev (Ev_lookup mp map_55 zv_3 rfl rfl rfl) rfl ?_
    refine OW_ev (Ev_mvt (.inl rfl) rfl) rfl ?_
    refine OW_ev (Ev_extract (vs := _) rfl rfl rfl) rfl ?_
    refine OW_ev (Ev_extract (vs := _) rfl rfl rfl) rfl ?_
    refine OW_ev (Ev_mvi (.inr rfl) rfl) rfl ?_
    refine OW_ev (Ev_mvb (.inr rfl) rfl) rfl ?_
    refine OW_nil ?_
    refine CW_seq ?_
    refine CW_re [(0, .pointer _), (4, .string _), (5, .int _ _), (7, .slice _ _ _), (8, .int _ _), (9, .bool _)] ⟨rfl, rfl, rfl, rfl, rfl, rfl, trivial⟩ (fun g => ?_)
    refine CW_reg rfl ?_
    refine OW_ev (Ev_mvb (.inl rfl) rfl) rfl ?_
    refine OW_ev (Ev_mvb (.inl rfl) rfl) rfl ?_
    refine OW_split (d := .tmp 30) rfl (fun c5 => ?_) (fun c5 => ?_)
    · have d5 := c5
      first | (with_reducible replace d5 := of_decide_eq_true d5) | (with_reducible replace d5 := bnt d5; try (with_reducible replace d5 := of_decide_eq_false d5)) | skip
      obtain ⟨i, hphi⟩ : ∃ i, lastIdx d.ps (a : Int) = some i := Option.isSome_iff_exists.1 c5
      obtain ⟨j, p, rfl, hjp, hsec⟩ := hsp2 i hphi
      have hjl := (List.getElem?_eq_some_iff.1 hjp).1
      have hgd : (lastIdx d.ps (a : Int)).getD 0 = (j : Int) := by rw [hphi]; rfl
      have hpm := List.mem_of_getElem? hjp
      have hpok := hok.ps p hpm
      have hbp := hs.bx p hpm
      have hgj : (d.ps.map cfn)[j]? = some (cfn p) := by rw [List.getElem?_map, hjp]; rfl
      refine OW_yes rfl rfl rfl rfl c5 (Ev.stp (Ev_mvi (.inl rfl) rfl) ?_)
      refine OW_yes rfl rfl rfl rfl c5 (Ev.stp (Ev_mvp (.inl rfl) rfl) ?_)
      refine OW_yes rfl rfl rfl rfl c5 (Ev.stp (Ev_nilCheck rfl rfl) ?_)
      refine OW_yes rfl rfl rfl rfl c5 (Ev.stp (Ev_fieldAddr fld_59_3 rfl rfl) ?_)
      refine OW_yes rfl rfl rfl rfl c5 (Ev.stp (Ev_load one_56 rfl rfl (kd.ld (q := 3) rfl)) ?_)
      refine OW_yes rfl rfl rfl rfl c5 (Ev.stp (Ev_len und_56 rfl rfl) ?_)
      refine OW_yes rfl rfl rfl rfl c5 (Ev.stp (Ev_lss rfl rfl rfl) ?_)
      refine OW_ev (Ev_pickb_t rfl rfl c5 rfl) rfl ?_
      refine OW_nil ?_
      refine CW_cond rfl (fun c6 => ?_) (fun c6 => ?_)
      · have d6 := c6
        first | (with_reducible replace d6 := of_decide_eq_true d6) | (with_reducible replace d6 := bnt d6; try (with_reducible replace d6 := of_decide_eq_false d6)) | skip
        have K := pv.sls.at_ hgj
        have HB := bx p hpm
        have hKb : ablk d.pa < NW := (hs.pv (ablk d.pa) 0 0 (by rw [pv.sls.ad hgj]; rfl)).1.2
        refine CW_draw (fun W => kd.here W ∧ kl.here W ∧ mp.here W ∧ pv.here W ∧ wv.here W ∧ bx.here W ∧ K.here W ∧ HB.here W) mixed rfl (fun _ _ _ h => nomatch h.1) ?_
        have E7 : Kp0 _ _ := Kp.drew w4 nob
        have Z7 : (World.drew w4).heap.size = w4.heap.size := rfl
        generalize World.drew w4 = w7 at E7 Z7 ⊢
        have kd := kd.keep0 E7
        have kl := kl.keep0 E7
        have mp := mp.keep0 E7
        have pv := pv.keep0 E7
        have wv := wv.keep0 E7
        have bx := bx.keep0 E7
        have T := T.keep0 E7
        have BG := BG.keep0 E7
        have K := K.keep0 E7
        have HB := HB.keep0 E7
        refine AW_take 0 rfl rfl (by decide +kernel) (by decide +kernel) (by decide +kernel) (fun w ⟨kd, kl, mp, pv, wv, bx, K, HB⟩ => Ev_mvp (.inl rfl) rfl) ⟨kd, kl, mp, pv, wv, bx, K, HB⟩ ?_
        refine AW_take 1 rfl rfl (by decide +kernel) (by decide +kernel) (by decide +kernel) (fun w ⟨kd, kl, mp, pv, wv, bx, K, HB⟩ => Ev_nilCheck rfl rfl) ⟨kd, kl, mp, pv, wv, bx, K, HB⟩ ?_
        refine AW_take 2 rfl rfl (by decide +kernel) (by decide +kernel) (by decide +kernel) (fun w ⟨kd, kl, mp, pv, wv, bx, K, HB⟩ => Ev_fieldAddr fld_59_3 rfl rfl) ⟨kd, kl, mp, pv, wv, bx, K, HB⟩ ?_
        refine AW_take 3 rfl rfl (by decide +kernel) (by decide +kernel) (by decide +kernel) (fun w ⟨kd, kl, mp, pv, wv, bx, K, HB⟩ => Ev_load one_56 rfl rfl (kd.ld (q := 3) rfl)) ⟨kd, kl, mp, pv, wv, bx, K, HB⟩ ?_
        refine AW_take 4 rfl rfl (by decide +kernel) (by decide +kernel) (by decide +kernel) (fun w ⟨kd, kl, mp, pv, wv, bx, K, HB⟩ => Ev_mvi (.inl rfl) rfl) ⟨kd, kl, mp, pv, wv, bx, K, HB⟩ ?_
        refine AW_take 5 rfl rfl (by decide +kernel) (by decide +kernel) (by decide +kernel) (fun w ⟨kd, kl, mp, pv, wv, bx, K, HB⟩ => Ev_idx j (pv.sls.ad hgj) sl_56 rfl rfl rfl hgd hjl) ⟨kd, kl, mp, pv, wv, bx, K, HB⟩ ?_
        refine AW_take 6 rfl rfl (by decide +kernel) (by decide +kernel) (by decide +kernel) (fun w ⟨kd, kl, mp, pv, wv, bx, K, HB⟩ => Ev_load (v := .func (.func 44) #[] #[.pointer (some ⟨p.box, 0, none⟩)]) one_80 rfl rfl (K.one 0 rfl)) ⟨kd, kl, mp, pv, wv, bx, K, HB⟩ ?_
        refine AW_take 7 rfl rfl (by decide +kernel) (by decide +kernel) (by decide +kernel) (fun w ⟨kd, kl, mp, pv, wv, bx, K, HB⟩ => Ev_mvs (.inl rfl) rfl) ⟨kd, kl, mp, pv, wv, bx, K, HB⟩ ?_
        refine AW_take 8 rfl rfl (by decide +kernel) (by decide +kernel) (by decide +kernel) (fun w ⟨kd, kl, mp, pv, wv, bx, K, HB⟩ => Ev_mvp (.inl rfl) rfl) ⟨kd, kl, mp, pv, wv, bx, K, HB⟩ ?_
        refine AW_take 9 rfl rfl (by decide +kernel) (by decide +kernel) (by decide +kernel) (fun w ⟨kd, kl, mp, pv, wv, bx, K, HB⟩ => Ev_nilCheck rfl rfl) ⟨kd, kl, mp, pv, wv, bx, K, HB⟩ ?_
        refine AW_take 10 rfl rfl (by decide +kernel) (by decide +kernel) (by decide +kernel) (fun w ⟨kd, kl, mp, pv, wv, bx, K, HB⟩ => Ev_fieldAddr fld_59_1 rfl rfl) ⟨kd, kl, mp, pv, wv, bx, K, HB⟩ ?_
        refine AW_take 11 rfl rfl (by decide +kernel) (by decide +kernel) (by decide +kernel) (fun w ⟨kd, kl, mp, pv, wv, bx, K, HB⟩ => Ev_load one_3 rfl rfl (kd.ld (q := 1) rfl)) ⟨kd, kl, mp, pv, wv, bx, K, HB⟩ ?_
        refine AW_one 12 (by decide +kernel) (Next.mk rfl rfl ?_)
        refine Stp_call (cap := [.pointer (some ⟨p.box, 0, none⟩)]) ent_44 rfl rfl rfl (wr1_c (n := _) (off := 0) (most := d.size) (m := p.b) BG HB (by have := hbp.1.2; omega) hcap0 (by rw [List.length_append, By_flat_len, hsl]; omega)) ?_
        rintro _ w8 ⟨rfl, E8, hzz8, BG2⟩
        have Z8 := E8.size
        have kd := kd.keepb E8 (by have := hs.d1.2; omega)
        have kl := kl.keepb E8 (by have := hs.d2.2; omega)
        have mp := mp.keepb E8 (by have := hs.d3.2; omega)
        have pv := pv.keepb E8 (fun b _ hb => by have := (hs.pv b _ _ hb).1.2; omega)
        have wv := wv.keepb E8 (fun b _ hb => by have := (hs.wv b _ _ hb).1.2; omega)
        have bx := bx.keepb E8 (fun p hp => by have := (hs.bx p hp).1.2; omega)
        have T := T.transb E8 (by omega)
        have K := K.keepb E8 (by omega)
        have HB := HB.keepb E8 (by have := hbp.1.2; omega)
        have BG : Blk w8 g0 5 ((p.b.map By).flatten ++ rest0) := by
          rw [List.take_of_length_le (by omega), putAt_head (by rw [By_flat_len, By_flat_len, hsl, hpok.2])] at BG2
          exact BG2
        refine ⟨⟨kd, kl, mp, pv, wv, bx, K, HB⟩, ?_⟩
        refine AW_done (by decide +kernel) ?_
        refine CW_seq ?_
        refine CW_re [(0, .pointer _), (4, .string _), (5, .int _ _), (7, .slice _ _ _)] ⟨rfl, rfl, rfl, rfl, trivial⟩ (fun g => ?_)
        refine CW_reg rfl ?_
        refine OW_ev (Ev_mvp (.inl rfl) rfl) rfl ?_
        refine OW_st rfl (Stp_call ent_36 rfl rfl rfl (count_c (⟨kd, kl, mp, pv, wv, bx, hs, hok⟩ : DkS (fun b => D b ∧ b < NW) _ bd d)) ?_)
        rintro _ w9 ⟨rfl, E9, HS⟩
        have Z9 := E9.size
        have T := T.trans' E9 (fun i _ h => h)
        have BG := BG.keepb E9 (by have := hs.d1.2; omega)
        refine OW_nil ?_
        refine CW_seq ?_
        refine CW_reg rfl ?_
        refine OW_ev (Ev_mvs (.inl rfl) rfl) rfl ?_
        refine OW_ev (Ev_bytesSt byt_38_9 rfl rfl (bytesAt BG) (by simp [hsl, hpok.2])) rfl ?_
        refine OW_ev (Ev_mvst (.inr rfl) rfl) rfl ?_
        refine OW_ev (Ev_c (.inr rfl)) rfl ?_
        refine OW_nil ?_
        refine CW_ret ?_
        refine ⟨rfl, _, (.tmp rfl (.tmp rfl .nil)), ?_⟩
        rw [hrd]
        exact ⟨T, HS.mono fun b h => h.1, by show Value.tuple #[St p.b, .int .i64 0] = _; rw [show secL d.size d.V a = p.b from hsec]⟩
      · have d6 := c6
        first | (with_reducible replace d6 := of_decide_eq_false d6) | (with_reducible replace d6 := bnf d6; try (with_reducible replace d6 := of_decide_eq_true d6)) | skip
        exact absurd (show (lastIdx d.ps (a : Int)).getD 0 < (d.ps.length : Int) by rw [hgd]; omega) d6
    · have d5 := c5
      first | (with_reducible replace d5 := of_decide_eq_false d5) | (with_reducible replace d5 := bnf d5; try (with_reducible replace d5 := of_decide_eq_true d5)) | skip
      have hphi : lastIdx d.ps (a : Int) = none := by
        cases h : lastIdx d.ps (a : Int) with
        | none => rfl
        | some i => rw [h] at c5; cases c5
      have hsec := hsp1 hphi
      refine OW_no rfl rfl rfl rfl c5 ?_
      refine OW_no rfl rfl rfl rfl c5 ?_
      refine OW_no rfl rfl rfl rfl c5 ?_
      refine OW_no rfl rfl rfl rfl c5 ?_
      refine OW_no rfl rfl rfl rfl c5 ?_
      refine OW_no rfl rfl rfl rfl c5 ?_
      refine OW_no rfl rfl rfl rfl c5 ?_
      refine OW_ev (Ev_pickb_f rfl rfl c5 rfl) rfl ?_
      refine OW_nil ?_
      refine CW_cond_f rfl rfl ?_
      refine CW_skip ?_
      refine CW_seq ?_
      refine CW_reg rfl ?_
      refine OW_ev (Ev_mvp (.inl rfl) rfl) rfl ?_
      refine OW_st rfl (Stp_call ent_36 rfl rfl rfl (count_c (⟨kd, kl, mp, pv, wv, bx, hs, hok⟩ : DkS (fun b => D b ∧ b < NW) _ bd d)) ?_)
      rintro _ w10 ⟨rfl, E10, HS⟩
      have Z10 := E10.size
      have T := T.trans' E10 (fun i _ h => h)
      have BG := BG.keepb E10 (by have := hs.d1.2; omega)
      refine OW_nil ?_
      refine CW_seq ?_
      refine CW_re [(4, .string _), (5, .int _ _), (7, .slice _ _ _)] ⟨rfl, rfl, rfl, trivial⟩ (fun g => ?_)
      refine CW_reg rfl ?_
      refine OW_ev (Ev_mvs (.inl rfl) rfl) rfl ?_
      refine OW_ev (Ev_bytesSt byt_38_9 rfl rfl (bytesAt BG) (by simp [hsl])) rfl ?_
      refine OW_ev (Ev_mvst (.inr rfl) rfl) rfl ?_
      refine OW_ev (Ev_c (.inr rfl)) rfl ?_
      refine OW_nil ?_
      refine CW_ret ?_
      refine ⟨rfl, _, (.tmp rfl (.tmp rfl .nil)), ?_⟩
      rw [hrd]
      exact ⟨T, HS.mono fun b h => h.1, by show Value.tuple #[St (secL d.size d.last a), .int .i64 0] = _; rw [show secL d.size d.V a = secL d.size d.last a from hsec]⟩

end Go.Proofs.Ythfelkjklnhdiaa