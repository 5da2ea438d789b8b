/- Contracts of header.GetSuper. -/
import Derived.Test.YthfelkjklnhdiaaHead2
namespace Go.Proofs.Ythfelkjklnhdiaa
open Go Go.RowKit Bx Go.Proofs

theorem putAt_mid {X O Y N : List Value} {q : Nat} (h : O.length = N.length) (hq : X.length = q) : putAt (X ++ O ++ Y) q N = X ++ N ++ Y := by
  unfold putAt
  have h1 : (X ++ O ++ Y).take q = X := by rw [List.append_assoc, ← hq, List.take_left]
  have h2 : (X ++ O ++ Y).drop (q + N.length) = Y := by
    rw [show q + N.length = (X ++ O).length by rw [List.length_append]; omega, List.drop_left]
  rw [h1, h2]
def numAt (rest : List UInt8) (j : Nat) : Nat := numL ((rest.drop (8 * j)).take 8)
theorem numAt_lt (rest : List UInt8) (j : Nat) : numAt rest j < 18446744073709551616 := numL_lt8 (by rw [List.length_take]; omega)
def SupM.zero : SupM := ⟨0, 0, 0, List.replicate 32 0, 0, 0, 0, List.replicate 32 0⟩
/-- The first i of the six numbers read. -/
def SupM.upd (s : SupM) (r : List UInt8) : Nat → SupM
  | 0 => s
  | 1 => { s with ep := numAt r 0 }
  | 2 => { s with ep := numAt r 0, tail := numAt r 1 }
  | 3 => { s with ep := numAt r 0, tail := numAt r 1, first := numAt r 2 }
  | 4 => { s with ep := numAt r 0, tail := numAt r 1, first := numAt r 2, id := numAt r 3 }
  | 5 => { s with ep := numAt r 0, tail := numAt r 1, first := numAt r 2, id := numAt r 3, fin := numAt r 4 }
  | _ => { s with ep := numAt r 0, tail := numAt r 1, first := numAt r 2, id := numAt r 3, fin := numAt r 4, next := numAt r 5 }
def offs : List Nat := [0, 1, 2, 35, 36, 37]
theorem put_id {s : SupM} (h : s.anchor.length = 32) (n : Nat) : putAt s.cells 35 (U64 n) = ({ s with id := n } : SupM).cells := by
  have := putAt_mid (X := [.int .u64 (s.ep : Int), .int .u64 (s.tail : Int), .int .u64 (s.first : Int)] ++ (s.anchor.map By).flatten) (O := [.int .u64 (s.id : Int)]) (Y := [.int .u64 (s.fin : Int), .int .u64 (s.next : Int)] ++ (s.sum.map By).flatten) (N := U64 n) (q := 35) rfl (by rw [List.length_append, By_flat_len, h]; rfl)
  simpa [SupM.cells, U64, List.append_assoc] using this
theorem put_fin {s : SupM} (h : s.anchor.length = 32) (n : Nat) : putAt s.cells 36 (U64 n) = ({ s with fin := n } : SupM).cells := by
  have := putAt_mid (X := [.int .u64 (s.ep : Int), .int .u64 (s.tail : Int), .int .u64 (s.first : Int)] ++ (s.anchor.map By).flatten ++ [.int .u64 (s.id : Int)]) (O := [.int .u64 (s.fin : Int)]) (Y := [.int .u64 (s.next : Int)] ++ (s.sum.map By).flatten) (N := U64 n) (q := 36) rfl (by rw [List.length_append, List.length_append, By_flat_len, h]; rfl)
  simpa [SupM.cells, U64, List.append_assoc] using this
theorem put_next {s : SupM} (h : s.anchor.length = 32) (n : Nat) : putAt s.cells 37 (U64 n) = ({ s with next := n } : SupM).cells := by
  have := putAt_mid (X := [.int .u64 (s.ep : Int), .int .u64 (s.tail : Int), .int .u64 (s.first : Int)] ++ (s.anchor.map By).flatten ++ [.int .u64 (s.id : Int), .int .u64 (s.fin : Int)]) (O := [.int .u64 (s.next : Int)]) (Y := (s.sum.map By).flatten) (N := U64 n) (q := 37) rfl (by rw [List.length_append, List.length_append, By_flat_len, h]; rfl)
  simpa [SupM.cells, U64, List.append_assoc] using this
theorem put_anchor {s : SupM} {a : List UInt8} (h : s.anchor.length = 32) (ha : a.length = 32) : putAt s.cells 3 (a.map By).flatten = ({ s with anchor := a } : SupM).cells := by
  have := putAt_mid (X := [.int .u64 (s.ep : Int), .int .u64 (s.tail : Int), .int .u64 (s.first : Int)]) (O := (s.anchor.map By).flatten) (Y := [.int .u64 (s.id : Int), .int .u64 (s.fin : Int), .int .u64 (s.next : Int)] ++ (s.sum.map By).flatten) (N := (a.map By).flatten) (q := 3) (by rw [By_flat_len, By_flat_len, h, ha]) rfl
  rw [← List.append_assoc, ← List.append_assoc] at this
  exact this
theorem put_sum {s : SupM} {a : List UInt8} (h : s.anchor.length = 32) (hs : s.sum.length = 32) (ha : a.length = 32) : putAt s.cells 38 (a.map By).flatten = ({ s with sum := a } : SupM).cells := by
  have := putAt_mid (X := [.int .u64 (s.ep : Int), .int .u64 (s.tail : Int), .int .u64 (s.first : Int)] ++ (s.anchor.map By).flatten ++ [.int .u64 (s.id : Int), .int .u64 (s.fin : Int), .int .u64 (s.next : Int)]) (O := (s.sum.map By).flatten) (Y := []) (N := (a.map By).flatten) (q := 38) (by rw [By_flat_len, By_flat_len, hs, ha]) (by rw [List.length_append, List.length_append, By_flat_len, h]; rfl)
  rw [List.append_nil, List.append_nil] at this
  exact this
theorem upd_anchor (s : SupM) (r : List UInt8) (i : Nat) : (s.upd r i).anchor = s.anchor ∧ (s.upd r i).sum = s.sum := by
  unfold SupM.upd; split <;> exact ⟨rfl, rfl⟩
theorem upd_step {s : SupM} (h : s.anchor.length = 32) (r : List UInt8) {i q : Nat} (hq : offs[i]? = some q) : putAt (s.upd r i).cells q (U64 (numAt r i)) = (s.upd r (i + 1)).cells := by
  have hi : i < 6 := (List.getElem?_eq_some_iff.1 hq).1
  have ha := (upd_anchor s r i).1
  have h32 : (s.upd r i).anchor.length = 32 := by rw [ha]; exact h
  match i, hi with
  | 0, _ => cases hq; rfl
  | 1, _ => cases hq; rfl
  | 2, _ => cases hq; rfl
  | 3, _ => cases hq; exact put_id h32 _
  | 4, _ => cases hq; exact put_fin h32 _
  | 5, _ => cases hq; exact put_next h32 _

set_option maxRecDepth 10000 in
set_option maxHeartbeats 2000000 in
theorem each_c {F : Nat → Prop} {w : World} {br bs : Nat} {ao : Option Addr} {c : Nat} {s : SupM} {rest : List UInt8} (hB : Blk w br 101 [St rest]) (hS : Blk w bs 48 s.cells) (hP : Sl F w 1 ao (offs.map fun q => [Value.pointer (some ⟨bs, q, none⟩)])) (hne : br ≠ bs) (hF : ∀ b, F b → b ≠ br ∧ b ≠ bs) (ha : s.anchor.length = 32) (hsm : s.sum.length = 32) (hr : 48 ≤ rest.length) : Calls Try.prog 48 #[.pointer (some ⟨br, 0, none⟩), .func (.func 49) #[] #[], .slice ao 6 c] w (Ret fun v w' => v = .tuple #[] ∧ Kp (fun b => b = br ∨ b = bs) w w' ∧ Blk w' br 101 [St (rest.drop 48)] ∧ Blk w' bs 48 (s.upd rest 6).cells) := by
  have T : Kp (fun b => b = br ∨ b = bs) w w := Kp.refl _ _
  refine calls_start Try.func48 rfl (n := 20) rfl rfl rfl ?_
  refine CW_seq ?_
  refine CW_reg rfl ?_
  refine OW_ev (Ev_mvs (.inl rfl) rfl) rfl ?_
  refine OW_ev (Ev_len und_115 rfl rfl) rfl ?_
  refine OW_ev (Ev_c (.inl rfl)) rfl ?_
  refine OW_nil ?_
  refine CW_block ?_
  refine CW_loop (α := Nat) (fun (i : Nat) f wr => AllEq f [(0, .pointer (some ⟨br, 0, none⟩)), (1, .func (.func 49) #[] #[]), (8, .slice ao 6 c), (9, .int .i64 6), (10, .int .i64 (i : Int))] ∧ (i ≤ 6) ∧ (Blk wr br 101 [St (rest.drop (8 * i))]) ∧ (Blk wr bs 48 (s.upd rest i).cells) ∧ (Sl F wr 1 ao (offs.map fun q => [Value.pointer (some ⟨bs, q, none⟩)])) ∧ (Kp (fun b => b = br ∨ b = bs) w wr)) (fun i => 6 - i) 0 ?_ ?_
  ·
    exact ⟨⟨rfl, rfl, rfl, rfl, rfl, trivial⟩, Nat.zero_le _, hB, hS, hP, T⟩
  ·
    rintro i f wr ⟨hf, hi, hB, hS, hP, T⟩
    obtain ⟨g, rfl⟩ : ∃ g, f = upl g [(0, .pointer (some ⟨br, 0, none⟩)), (1, .func (.func 49) #[] #[]), (8, .slice ao 6 c), (9, .int .i64 6), (10, .int .i64 (i : Int))] := ⟨f, upl_self hf⟩
    clear hf
    refine CW_seq ?_
    refine CW_reg rfl ?_
    refine OW_ev (Ev_lss rfl rfl rfl) rfl ?_
    refine OW_nil ?_
    refine CW_seq ?_
    refine CW_cond rfl (fun c1 => ?_) (fun c1 => ?_)
    · have d1 := c1
      first | (with_reducible replace d1 := of_decide_eq_true d1) | (with_reducible replace d1 := bnt d1; try (with_reducible replace d1 := of_decide_eq_false d1)) | skip
      have hi6 : i < 6 := by omega
      obtain ⟨q, hq⟩ : ∃ q, offs[i]? = some q := ⟨offs[i]'hi6, List.getElem?_eq_getElem hi6⟩
      have hg : (offs.map fun q => [Value.pointer (some ⟨bs, q, none⟩)])[i]? = some [Value.pointer (some ⟨bs, q, none⟩)] := by rw [List.getElem?_map, hq]; rfl
      have hul := (upd_anchor s rest i).1
      have hul2 := (upd_anchor s rest i).2
      have hqb : q + 1 ≤ (s.upd rest i).cells.length := by
        simp only [SupM.cells, List.length_append, By_flat_len, hul, hul2, ha, hsm, List.length_cons, List.length_nil]
        have : q ∈ offs := List.mem_of_getElem? hq
        simp [offs] at this
        omega
      refine CW_skip ?_
      refine CW_seq ?_
      refine CW_block ?_
      refine CW_seq ?_
      refine CW_reg rfl ?_
      refine OW_ev (Ev_idx i (hP.ad hg) sl_115 rfl rfl rfl rfl hi6) rfl ?_
      refine OW_ev (Ev_load (v := .pointer (some ⟨bs, q, none⟩)) one_105 rfl rfl ((hP.at_ hg).one 0 rfl)) rfl ?_
      refine OW_ev (Ev_mvp (.inr rfl) rfl) rfl ?_
      refine OW_nil ?_
      refine CW_reg rfl ?_
      refine OW_ev (Ev_mvp (.inl rfl) rfl) rfl ?_
      refine OW_ev (Ev_mvf (.inl rfl) rfl) rfl ?_
      refine OW_ev (Ev_mvp (.inl rfl) rfl) rfl ?_
      refine OW_st rfl (Stp_call ent_49 rfl rfl rfl (number_c hB (by rw [List.length_drop]; omega)) ?_)
      rintro _ w2 ⟨rfl, E2, HB2⟩
      have Z2 := E2.size
      have hS := hS.keepb E2 hne.symm
      have hP := hP.keepb E2 (fun h => (hF _ h).1 rfl)
      have T := T.trans' E2 (fun i _ h => .inl h)
      rw [List.drop_drop] at HB2
      refine OW_ev (Ev_nilCheck rfl rfl) rfl ?_
      refine OW_st rfl (Stp_store (q := q) (vs := [.int _ _]) hS siz_42 rfl rfl rfl rfl hqb rfl ?_)
      intro w3 hz3 E3 B3
      have Z3 := E3.size
      have hP := hP.keepb E3 (fun h => (hF _ h).2 rfl)
      have T := T.trans' E3 (fun i _ h => .inr h)
      have HB2 := HB2.keepb E3 hne
      clear hS
      have hS := B3
      clear B3
      have hS : Blk w3 bs 48 (s.upd rest (i + 1)).cells := by rw [← upd_step ha rest hq]; exact hS
      refine OW_nil ?_
      refine CW_reg rfl ?_
      refine OW_ev (Ev_add rfl rfl rfl (by first | (apply IntWalk.i64_in; omega) | (apply IntWalk.u64_in; omega) | (apply IntWalk.u32_in; omega) | (apply IntWalk.u8_in; omega) | (apply IntWalk.i32_in; omega) | rfl)) rfl ?_
      refine OW_ev (Ev_mvi (.inl rfl) rfl) rfl ?_
      refine OW_nil ?_
      exact ⟨i + 1, by omega, ⟨rfl, rfl, rfl, rfl, congrArg (Value.int .i64) (by omega), trivial⟩, by omega, by rw [show 8 * (i + 1) = 8 * i + 8 by omega]; exact HB2, hS, hP, T⟩
    · have d1 := c1
      first | (with_reducible replace d1 := of_decide_eq_false d1) | (with_reducible replace d1 := bnf d1; try (with_reducible replace d1 := of_decide_eq_true d1)) | skip
      have hi6 : i = 6 := by omega
      subst hi6
      refine CW_exit ?_
      refine blk_same ?_
      refine ⟨_, .nil, ?_⟩
      exact ⟨rfl, T, hB, hS⟩

set_option maxRecDepth 10000 in
set_option maxHeartbeats 2000000 in
theorem digest_c {w : World} {br : Nat} {l : List UInt8} (hB : Blk w br 101 [St l]) (hl : 32 ≤ l.length) : Calls Try.prog 50 #[.pointer (some ⟨br, 0, none⟩)] w (Ret fun v w' => v = .agg ((l.take 32).map By).flatten.toArray ∧ Kp (fun b => b = br) w w' ∧ Blk w' br 101 [St (l.drop 32)]) := by
  have hbl := hB.lt
  have hd32 : ((l.take 32).map By).flatten.length = 32 := by rw [By_flat_len, List.length_take]; omega
  have T : Kp (fun b => b = br) w w := Kp.refl _ _
  refine calls_start Try.func50 rfl (n := 19) rfl rfl rfl ?_
  refine CW_seq ?_
  refine CW_reg rfl ?_
  refine OW_st rfl (Stp_alloc zero_46 rfl ?_)
  intro b1 w1 hb1 hz1 E1 B1
  have L1 : _ ≤ b1 := Nat.le_trans T.size (Nat.le_of_eq hb1.symm)
  have hB := hB.keep0 E1
  have T := T.keep0 E1
  obtain ⟨bR, rfl⟩ : ∃ b, b = b1 := ⟨_, rfl⟩
  have HR := B1
  have hRl := HR.lt
  refine OW_nil ?_
  refine CW_seq ?_
  refine CW_reg rfl ?_
  refine OW_st rfl (Stp_alloc zero_46 rfl ?_)
  intro b2 w2 hb2 hz2 E2 B2
  have L2 : _ ≤ b2 := Nat.le_trans T.size (Nat.le_of_eq hb2.symm)
  have hB := hB.keep0 E2
  have T := T.keep0 E2
  have HR := HR.keep0 E2
  obtain ⟨bX, rfl⟩ : ∃ b, b = b2 := ⟨_, rfl⟩
  have HX := B2
  have hXR : bR < bX := by omega
  have hxb : w.heap.size ≤ bX := by have := T.size; omega
  refine OW_nil ?_
  refine CW_seq ?_
  refine CW_draw (fun W => HR.here W) mixed rfl (fun _ _ _ h => nomatch h.1) ?_
  have E3 : Kp0 _ _ := Kp.drew w2 nob
  have Z3 : (World.drew w2).heap.size = w2.heap.size := rfl
  generalize World.drew w2 = w3 at E3 Z3 ⊢
  have hB := hB.keep0 E3
  have T := T.keep0 E3
  have HR := HR.keep0 E3
  have HX := HX.keep0 E3
  refine AW_take 0 rfl rfl (by decide +kernel) (by decide +kernel) (by decide +kernel) (fun w HR => Ev_mvp (.inl rfl) rfl) HR ?_
  refine AW_take 1 rfl rfl (by decide +kernel) (by decide +kernel) (by decide +kernel) (fun w HR => Ev_mvp (.inl rfl) rfl) HR ?_
  refine AW_take 2 rfl rfl (by decide +kernel) (by decide +kernel) (by decide +kernel) (fun w HR => Ev_nilCheck rfl rfl) HR ?_
  refine AW_take 3 rfl rfl (by decide +kernel) (by decide +kernel) (by decide +kernel) (fun w HR => Ev_fieldAddr fld_101_0 rfl rfl) HR ?_
  refine AW_take 5 rfl rfl (by decide +kernel) (by decide +kernel) (by decide +kernel) (fun w HR => Ev_sliceArr arr_46 rfl rfl) HR ?_
  refine AW_take 6 rfl rfl (by decide +kernel) (by decide +kernel) (by decide +kernel) (fun w HR => Ev_mvp (.inl rfl) rfl) HR ?_
  refine AW_take 7 rfl rfl (by decide +kernel) (by decide +kernel) (by decide +kernel) (fun w HR => Ev_nilCheck rfl rfl) HR ?_
  refine AW_take 8 rfl rfl (by decide +kernel) (by decide +kernel) (by decide +kernel) (fun w HR => Ev_fieldAddr fld_101_0 rfl rfl) HR ?_
  refine AW_two 4 9 (by decide +kernel) (Next.mk rfl rfl ?_) (Next.mk rfl rfl ?_)
  ·
    refine Ev.stp (Ev_load one_9 rfl rfl (hB.ld (q := 0) rfl)) ?_
    refine ⟨HR, ?_⟩
    refine AW_one 9 (by decide +kernel) (Next.mk rfl rfl ?_)
    refine Ev.stp (Ev_load one_9 rfl rfl (hB.ld (q := 0) rfl)) ?_
    refine ⟨HR, ?_⟩
    refine AW_one 10 (by decide +kernel) (Next.mk rfl rfl ?_)
    refine Stp_copySt HX sl_38 rfl rfl rfl (by show 0 + min l.length 32 ≤ 32; omega) ?_
    intro w4 hz4 E4 B4
    have Z4 := E4.size
    have hB := hB.keepb E4 (by omega)
    have T := T.trans' E4 (fun i hi h => by have h : i = bX := h; omega)
    have HR := HR.keepb E4 (by omega)
    clear HX
    have HX := B4
    clear B4
    have hmin : min l.length 32 = 32 := by omega
    have HX : Blk w4 bX 46 ((l.take 32).map By).flatten := by rw [← putAt_all (l := List.replicate 32 (Value.int .u8 0)) (vs := ((l.take 32).map By).flatten) (by rw [hd32]; rfl)]; exact HX
    refine ⟨HR, ?_⟩
    refine AW_take 11 rfl rfl (by decide +kernel) (by decide +kernel) (by decide +kernel) (fun w HR => Ev_strL 32 und_9 rfl rfl rfl (congrArg Int.ofNat hmin) hl) HR ?_
    refine AW_take 12 rfl rfl (by decide +kernel) (by decide +kernel) (by decide +kernel) (fun w HR => Ev_nilCheck rfl rfl) HR ?_
    refine AW_take 13 rfl rfl (by decide +kernel) (by decide +kernel) (by decide +kernel) (fun w HR => Ev_fieldAddr fld_101_0 rfl rfl) HR ?_
    refine AW_one 14 (by decide +kernel) (Next.mk rfl rfl ?_)
    refine Stp_store (q := 0) (vs := [.string _]) hB siz_9 rfl rfl rfl rfl (Nat.le_of_ble_eq_true rfl) rfl ?_
    intro w5 hz5 E5 B5
    have Z5 := E5.size
    have T := T.trans' E5 (fun i _ h => h)
    have HR := HR.keepb E5 (by omega)
    have HX := HX.keepb E5 (by omega)
    clear hB
    have hB := B5
    clear B5
    have hB : Blk w5 br 101 [St (l.drop 32)] := hB
    refine ⟨HR, ?_⟩
    refine AW_done (by decide +kernel) ?_
    refine CW_seq ?_
    refine CW_re [(2, .pointer _), (3, .pointer _)] ⟨rfl, rfl, trivial⟩ (fun g => ?_)
    refine CW_reg rfl ?_
    refine OW_ev (Ev_loadAgg (l := ((l.take 32).map By).flatten) agg_46 rfl rfl (HX.cells (by rw [List.drop_zero, List.take_length])) hd32) rfl ?_
    refine OW_st rfl (Stp_store (q := 0) (vs := ((l.take 32).map By).flatten) HR siz_46 rfl rfl rfl hd32 (by rw [hd32]; exact Nat.le_refl _) (By_one _) ?_)
    intro w6 hz6 E6 B6
    have Z6 := E6.size
    have hB := hB.keepb E6 (by omega)
    have T := T.trans' E6 (fun i hi h => by have h : i = bR := h; omega)
    have HX := HX.keepb E6 (by omega)
    clear HR
    have HR := B6
    clear B6
    have HR : Blk w6 bR 46 ((l.take 32).map By).flatten := by rw [← putAt_all (l := List.replicate 32 (Value.int .u8 0)) (vs := ((l.take 32).map By).flatten) (by rw [hd32]; rfl)]; exact HR
    refine OW_nil ?_
    refine CW_ret ?_
    refine ⟨rfl, _, (.cell rfl (ld_agg (l := ((l.take 32).map By).flatten) agg_46 (HR.cells (by rw [List.drop_zero, List.take_length])) hd32) .nil), ?_⟩
    exact ⟨rfl, T, hB⟩
  ·
    refine Ev.stp (Ev_load one_9 rfl rfl (hB.ld (q := 0) rfl)) ?_
    refine ⟨HR, ?_⟩
    refine AW_two 4 10 (by decide +kernel) (Next.mk rfl rfl ?_) (Next.mk rfl rfl ?_)
    ·
      refine Ev.stp (Ev_load one_9 rfl rfl (hB.ld (q := 0) rfl)) ?_
      refine ⟨HR, ?_⟩
      refine AW_one 10 (by decide +kernel) (Next.mk rfl rfl ?_)
      refine Stp_copySt HX sl_38 rfl rfl rfl (by show 0 + min l.length 32 ≤ 32; omega) ?_
      intro w7 hz7 E7 B7
      have Z7 := E7.size
      have hB := hB.keepb E7 (by omega)
      have T := T.trans' E7 (fun i hi h => by have h : i = bX := h; omega)
      have HR := HR.keepb E7 (by omega)
      clear HX
      have HX := B7
      clear B7
      have hmin : min l.length 32 = 32 := by omega
      have HX : Blk w7 bX 46 ((l.take 32).map By).flatten := by rw [← putAt_all (l := List.replicate 32 (Value.int .u8 0)) (vs := ((l.take 32).map By).flatten) (by rw [hd32]; rfl)]; exact HX
      refine ⟨HR, ?_⟩
      refine AW_take 11 rfl rfl (by decide +kernel) (by decide +kernel) (by decide +kernel) (fun w HR => Ev_strL 32 und_9 rfl rfl rfl (congrArg Int.ofNat hmin) hl) HR ?_
      refine AW_take 12 rfl rfl (by decide +kernel) (by decide +kernel) (by decide +kernel) (fun w HR => Ev_nilCheck rfl rfl) HR ?_
      refine AW_take 13 rfl rfl (by decide +kernel) (by decide +kernel) (by decide +kernel) (fun w HR => Ev_fieldAddr fld_101_0 rfl rfl) HR ?_
      refine AW_one 14 (by decide +kernel) (Next.mk rfl rfl ?_)
      refine Stp_store (q := 0) (vs := [.string _]) hB siz_9 rfl rfl rfl rfl (Nat.le_of_ble_eq_true rfl) rfl ?_
      intro w8 hz8 E8 B8
      have Z8 := E8.size
      have T := T.trans' E8 (fun i _ h => h)
      have HR := HR.keepb E8 (by omega)
      have HX := HX.keepb E8 (by omega)
      clear hB
      have hB := B8
      clear B8
      have hB : Blk w8 br 101 [St (l.drop 32)] := hB
      refine ⟨HR, ?_⟩
      refine AW_done (by decide +kernel) ?_
      refine CW_seq ?_
      refine CW_re [(2, .pointer _), (3, .pointer _)] ⟨rfl, rfl, trivial⟩ (fun g => ?_)
      refine CW_reg rfl ?_
      refine OW_ev (Ev_loadAgg (l := ((l.take 32).map By).flatten) agg_46 rfl rfl (HX.cells (by rw [List.drop_zero, List.take_length])) hd32) rfl ?_
      refine OW_st rfl (Stp_store (q := 0) (vs := ((l.take 32).map By).flatten) HR siz_46 rfl rfl rfl hd32 (by rw [hd32]; exact Nat.le_refl _) (By_one _) ?_)
      intro w9 hz9 E9 B9
      have Z9 := E9.size
      have hB := hB.keepb E9 (by omega)
      have T := T.trans' E9 (fun i hi h => by have h : i = bR := h; omega)
      have HX := HX.keepb E9 (by omega)
      clear HR
      have HR := B9
      clear B9
      have HR : Blk w9 bR 46 ((l.take 32).map By).flatten := by rw [← putAt_all (l := List.replicate 32 (Value.int .u8 0)) (vs := ((l.take 32).map By).flatten) (by rw [hd32]; rfl)]; exact HR
      refine OW_nil ?_
      refine CW_ret ?_
      refine ⟨rfl, _, (.cell rfl (ld_agg (l := ((l.take 32).map By).flatten) agg_46 (HR.cells (by rw [List.drop_zero, List.take_length])) hd32) .nil), ?_⟩
      exact ⟨rfl, T, hB⟩
    ·
      refine Stp_copySt HX sl_38 rfl rfl rfl (by show 0 + min l.length 32 ≤ 32; omega) ?_
      intro w10 hz10 E10 B10
      have Z10 := E10.size
      have hB := hB.keepb E10 (by omega)
      have T := T.trans' E10 (fun i hi h => by have h : i = bX := h; omega)
      have HR := HR.keepb E10 (by omega)
      clear HX
      have HX := B10
      clear B10
      have hmin : min l.length 32 = 32 := by omega
      have HX : Blk w10 bX 46 ((l.take 32).map By).flatten := by rw [← putAt_all (l := List.replicate 32 (Value.int .u8 0)) (vs := ((l.take 32).map By).flatten) (by rw [hd32]; rfl)]; exact HX
      refine ⟨HR, ?_⟩
      refine AW_one 4 (by decide +kernel) (Next.mk rfl rfl ?_)
      refine Ev.stp (Ev_load one_9 rfl rfl (hB.ld (q := 0) rfl)) ?_
      refine ⟨HR, ?_⟩
      refine AW_take 11 rfl rfl (by decide +kernel) (by decide +kernel) (by decide +kernel) (fun w HR => Ev_strL 32 und_9 rfl rfl rfl (congrArg Int.ofNat hmin) hl) HR ?_
      refine AW_take 12 rfl rfl (by decide +kernel) (by decide +kernel) (by decide +kernel) (fun w HR => Ev_nilCheck rfl rfl) HR ?_
      refine AW_take 13 rfl rfl (by decide +kernel) (by decide +kernel) (by decide +kernel) (fun w HR => Ev_fieldAddr fld_101_0 rfl rfl) HR ?_
      refine AW_one 14 (by decide +kernel) (Next.mk rfl rfl ?_)
      refine Stp_store (q := 0) (vs := [.string _]) hB siz_9 rfl rfl rfl rfl (Nat.le_of_ble_eq_true rfl) rfl ?_
      intro w11 hz11 E11 B11
      have Z11 := E11.size
      have T := T.trans' E11 (fun i _ h => h)
      have HR := HR.keepb E11 (by omega)
      have HX := HX.keepb E11 (by omega)
      clear hB
      have hB := B11
      clear B11
      have hB : Blk w11 br 101 [St (l.drop 32)] := hB
      refine ⟨HR, ?_⟩
      refine AW_done (by decide +kernel) ?_
      refine CW_seq ?_
      refine CW_re [(2, .pointer _), (3, .pointer _)] ⟨rfl, rfl, trivial⟩ (fun g => ?_)
      refine CW_reg rfl ?_
      refine OW_ev (Ev_loadAgg (l := ((l.take 32).map By).flatten) agg_46 rfl rfl (HX.cells (by rw [List.drop_zero, List.take_length])) hd32) rfl ?_
      refine OW_st rfl (Stp_store (q := 0) (vs := ((l.take 32).map By).flatten) HR siz_46 rfl rfl rfl hd32 (by rw [hd32]; exact Nat.le_refl _) (By_one _) ?_)
      intro w12 hz12 E12 B12
      have Z12 := E12.size
      have hB := hB.keepb E12 (by omega)
      have T := T.trans' E12 (fun i hi h => by have h : i = bR := h; omega)
      have HX := HX.keepb E12 (by omega)
      clear HR
      have HR := B12
      clear B12
      have HR : Blk w12 bR 46 ((l.take 32).map By).flatten := by rw [← putAt_all (l := List.replicate 32 (Value.int .u8 0)) (vs := ((l.take 32).map By).flatten) (by rw [hd32]; rfl)]; exact HR
      refine OW_nil ?_
      refine CW_ret ?_
      refine ⟨rfl, _, (.cell rfl (ld_agg (l := ((l.take 32).map By).flatten) agg_46 (HR.cells (by rw [List.drop_zero, List.take_length])) hd32) .nil), ?_⟩
      exact ⟨rfl, T, hB⟩

end Go.Proofs.Ythfelkjklnhdiaa