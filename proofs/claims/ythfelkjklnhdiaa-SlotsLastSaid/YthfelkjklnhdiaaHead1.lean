/- Supers as data; contracts of lay, PutSuper and Newer of package header. -/
import Derived.Test.YthfelkjklnhdiaaWire1
namespace Go.Proofs.Ythfelkjklnhdiaa
open Go Go.RowKit Bx Go.Proofs

def U64 (n : Nat) : List Value := [.int .u64 (n : Int)]
def layL (vs : List Nat) : List UInt8 := (vs.map (fixL · 8)).flatten
theorem layL_len (vs : List Nat) : (layL vs).length = 8 * vs.length := by
  induction vs with
  | nil => rfl
  | cons v vs ih =>
    show (fixL v 8 ++ layL vs).length = _
    rw [List.length_append, ih, fixL_length, List.length_cons]; omega
theorem layL_step {vs : List Nat} {i x : Nat} (h : vs[i]? = some x) : layL (vs.take (i + 1)) = layL (vs.take i) ++ fixL x 8 := by
  unfold layL
  rw [List.take_add_one, h, List.map_append, List.flatten_append]
  simp
/-- A Super. -/
structure SupM where
  ep : Nat
  tail : Nat
  first : Nat
  anchor : List UInt8
  id : Nat
  fin : Nat
  next : Nat
  sum : List UInt8
deriving DecidableEq
def SupM.cells (s : SupM) : List Value := [.int .u64 (s.ep : Int), .int .u64 (s.tail : Int), .int .u64 (s.first : Int)] ++ (s.anchor.map By).flatten ++ [.int .u64 (s.id : Int), .int .u64 (s.fin : Int), .int .u64 (s.next : Int)] ++ (s.sum.map By).flatten
structure SupM.Ok (s : SupM) : Prop where
  ep : s.ep < 18446744073709551616
  tail : s.tail < 18446744073709551616
  first : s.first < 18446744073709551616
  id : s.id < 18446744073709551616
  fin : s.fin < 18446744073709551616
  next : s.next < 18446744073709551616
  anchor : s.anchor.length = 32
  sum : s.sum.length = 32
theorem byflat (l : List UInt8) : (l.map By).flatten = l.map fun b => Value.int .u8 b.toNat := by
  induction l with
  | nil => rfl
  | cons b l ih => show By b ++ (l.map By).flatten = _; rw [ih]; rfl
theorem SupM.Ok.len {s : SupM} (h : s.Ok) : s.cells.length = 70 := by
  simp only [SupM.cells, List.length_append, By_flat_len, h.anchor, h.sum, List.length_cons, List.length_nil]
theorem SupM.one (s : SupM) : s.cells.all Value.oneCell' = true := by
  simp only [SupM.cells, List.all_append, By_one, Bool.and_true]
  rfl
theorem SupM.Ok.mid {s : SupM} (h : s.Ok) {j : Nat} {v : Value} (hv : [Value.int .u64 (s.id : Int), .int .u64 (s.fin : Int), .int .u64 (s.next : Int)][j]? = some v) : s.cells[35 + j]? = some v := by
  have hj := (List.getElem?_eq_some_iff.1 hv).1
  have h1 : ([Value.int .u64 (s.ep : Int), .int .u64 (s.tail : Int), .int .u64 (s.first : Int)] ++ (s.anchor.map By).flatten).length = 35 := by rw [List.length_append, By_flat_len, h.anchor]; rfl
  unfold SupM.cells
  rw [List.getElem?_append_left (by rw [List.length_append, h1]; omega), List.getElem?_append_right (by omega), h1, Nat.add_sub_cancel_left]
  exact hv
/-- Bytes in the midst of a block. -/
theorem bytesMid {w : World} {g e q : Nat} {X Y : List Value} {l : List UInt8} (h : Blk w g e (X ++ (l.map By).flatten ++ Y)) (hq : X.length = q) : Sl (· = g) w 1 (some ⟨g, q, none⟩) (l.map By) := by
  refine ⟨By_len l, fun _ => ⟨rfl, rfl, h.lt, fun i e' he j v hv => ?_⟩⟩
  rw [List.getElem?_map] at he
  obtain ⟨b, hb, rfl⟩ := Option.map_eq_some_iff.1 he
  have h0 : j = 0 := by
    rcases Nat.eq_zero_or_pos j with h | h
    · exact h
    · rw [List.getElem?_eq_none (by show 1 ≤ j; exact h)] at hv; cases hv
  subst h0
  have hi := (List.getElem?_eq_some_iff.1 hb).1
  show w.cell? ⟨g, q + i * 1 + 0, none⟩ = _
  refine h.ld ?_
  rw [List.getElem?_append_left (by rw [List.length_append, By_flat_len]; omega), List.getElem?_append_right (by omega), byflat, List.getElem?_map, show q + i * 1 + 0 - X.length = i by omega, hb]
  exact hv
theorem SupM.Ok.anchorAt {s : SupM} (h : s.Ok) {w : World} {g e : Nat} (hb : Blk w g e s.cells) : Sl (· = g) w 1 (some ⟨g, 3, none⟩) (s.anchor.map By) :=
  bytesMid (X := [.int .u64 (s.ep : Int), .int .u64 (s.tail : Int), .int .u64 (s.first : Int)]) (Y := [.int .u64 (s.id : Int), .int .u64 (s.fin : Int), .int .u64 (s.next : Int)] ++ (s.sum.map By).flatten) (by rw [← List.append_assoc]; exact hb) rfl
theorem SupM.Ok.sumAt {s : SupM} (h : s.Ok) {w : World} {g e : Nat} (hb : Blk w g e s.cells) : Sl (· = g) w 1 (some ⟨g, 38, none⟩) (s.sum.map By) :=
  bytesMid (X := [.int .u64 (s.ep : Int), .int .u64 (s.tail : Int), .int .u64 (s.first : Int)] ++ (s.anchor.map By).flatten ++ [.int .u64 (s.id : Int), .int .u64 (s.fin : Int), .int .u64 (s.next : Int)]) (Y := []) (by rw [List.append_nil]; exact hb) (by rw [List.length_append, List.length_append, By_flat_len, h.anchor]; rfl)
theorem eqL_by : ∀ {a b : List UInt8}, a.length = b.length → eqL (a.map By).flatten (b.map By).flatten = decide (a = b)
  | [], [], _ => rfl
  | x :: a, y :: b, h => by
    have ih := eqL_by (a := a) (b := b) (by simpa using h)
    show (decide ((x.toNat : Int) = (y.toNat : Int)) && eqL (a.map By).flatten (b.map By).flatten) = _
    rw [ih]
    by_cases h1 : x = y
    · subst h1; simp
    · have h2 : ¬ (x.toNat : Int) = (y.toNat : Int) := fun e => h1 (UInt8.toNat_inj.1 (by omega))
      rw [decide_eq_false h2, Bool.false_and]; exact (decide_eq_false (fun e => h1 (by injection e))).symm
  | [], _ :: _, h => by simp at h
  | _ :: _, [], h => by simp at h
theorem keL_by : ∀ {a b : List UInt8}, a.length = b.length → keL (a.map By).flatten (b.map By).flatten = true
  | [], [], _ => rfl
  | x :: a, y :: b, h => keL_by (a := a) (b := b) (by simpa using h)
  | [], _ :: _, h => by simp at h
  | _ :: _, [], h => by simp at h
theorem keL_app : ∀ {a c b d : List Value}, keL a c = true → keL b d = true → keL (a ++ b) (c ++ d) = true
  | [], [], _, _, _, h => h
  | x :: a, y :: c, _, _, h, h2 => by
    simp only [keL, Bool.and_eq_true] at h
    simp only [List.cons_append, keL, Bool.and_eq_true]
    exact ⟨h.1, keL_app h.2 h2⟩
  | [], _ :: _, _, _, h, _ => by cases h
  | _ :: _, [], _, _, h, _ => by cases h
theorem sup_ke {s t : SupM} (h : s.Ok) (k : t.Ok) : keL s.cells t.cells = true :=
  keL_app (keL_app (keL_app rfl (keL_by (h.anchor.trans k.anchor.symm))) rfl) (keL_by (h.sum.trans k.sum.symm))
theorem sup_eq {s t : SupM} (h : s.Ok) (k : t.Ok) : eqL s.cells t.cells = decide (s = t) := by
  have e1 : ((s.anchor.map By).flatten).length = ((t.anchor.map By).flatten).length := by rw [By_flat_len, By_flat_len, h.anchor, k.anchor]
  unfold SupM.cells
  rw [eqL_append (by rw [List.length_append, List.length_append, List.length_append, List.length_append, e1]; rfl), eqL_append (by rw [List.length_append, List.length_append, e1]; rfl), eqL_append (by rfl), eqL_by (h.anchor.trans k.anchor.symm), eqL_by (h.sum.trans k.sum.symm)]
  rw [Bool.eq_iff_iff]
  simp only [eqL, eq1, Bool.and_eq_true, decide_eq_true_eq, Bool.and_true]
  constructor
  · rintro ⟨⟨⟨⟨a1, a2, a3⟩, a4⟩, a5, a6, a7⟩, a8⟩
    cases s; cases t
    simp only [SupM.mk.injEq]
    exact ⟨Int.ofNat.inj a1, Int.ofNat.inj a2, Int.ofNat.inj a3, a4, Int.ofNat.inj a5, Int.ofNat.inj a6, Int.ofNat.inj a7, a8⟩
  · rintro rfl
    exact ⟨⟨⟨⟨rfl, rfl, rfl⟩, rfl⟩, rfl, rfl, rfl⟩, rfl⟩
/-- A super, written: one of its two halves; both. -/
def SupM.half (s : SupM) : List UInt8 := [83] ++ layL [s.ep, s.tail, s.first, s.id, s.fin, s.next] ++ (s.anchor ++ s.sum)
def SupM.str (s : SupM) : List UInt8 := s.half ++ s.half
theorem SupM.Ok.half_len {s : SupM} (h : s.Ok) : s.half.length = 113 := by
  simp only [SupM.half, List.length_append, layL_len, h.anchor, h.sum, List.length_cons, List.length_nil]
theorem SupM.Ok.str_len {s : SupM} (h : s.Ok) : s.str.length = 226 := by
  simp only [SupM.str, List.length_append, h.half_len]

set_option maxRecDepth 10000 in
set_option maxHeartbeats 2000000 in
theorem lay_c {F : Nat → Prop} {w : World} {ao : Option Addr} {c : Nat} {vs : List Nat} (hV : Sl F w 1 ao (vs.map U64)) (hvl : vs.length ≤ 100) : Calls Try.prog 47 #[.slice ao vs.length c] w (Ret fun v w' => Kp0 w w' ∧ v = St (layL vs)) := by
  have hV := hV.bd
  obtain ⟨NW, hNW⟩ : ∃ x, x = w.heap.size := ⟨_, rfl⟩
  rw [← hNW] at hV
  have T : Kp0 w w := Kp.refl _ _
  refine calls_start Try.func47 rfl (n := 17) rfl rfl rfl ?_
  refine CW_seq ?_
  refine CW_reg rfl ?_
  refine OW_ev (Ev_c (.inr rfl)) rfl ?_
  refine OW_nil ?_
  refine CW_seq ?_
  refine CW_reg rfl ?_
  refine OW_st rfl (Stp_alloc zero_75 rfl ?_)
  intro b1 w1 hb1 hz1 E1 B1
  have L1 : _ ≤ b1 := Nat.le_trans T.size (Nat.le_of_eq hb1.symm)
  have hV := hV.keep0 E1
  have T := T.keep0 E1
  obtain ⟨bl, rfl⟩ : ∃ b, b = b1 := ⟨_, rfl⟩
  have HP : Blk w1 bl 75 [.pointer none, .slice none 0 0] := B1
  have hbl : NW ≤ bl := by have := T.size; omega
  have HO : OwnB NW w1 5 (.slice none 0 0) (layL (vs.take 0)) := OwnB.nil _ _ _
  have hp : BP (.pointer none) bl := .inl rfl
  refine OW_nil ?_
  refine CW_seq ?_
  refine CW_seq ?_
  refine CW_reg rfl ?_
  refine OW_ev (Ev_mvs (.inl rfl) rfl) rfl ?_
  refine OW_ev (Ev_len und_43 rfl rfl) rfl ?_
  refine OW_ev (Ev_c (.inl rfl)) rfl ?_
  refine OW_nil ?_
  refine CW_block ?_
  refine CW_loop (α := Nat) (fun (i : Nat) f wr => ∃ (p : Value) (v : Value), AllEq f [(3, .pointer (some ⟨bl, 0, none⟩)), (6, .slice ao vs.length c), (7, .int .i64 (vs.length : Int)), (8, .int .i64 (i : Int))] ∧ (i ≤ vs.length) ∧ (BP p bl) ∧ (Blk wr bl 75 [p, v]) ∧ (OwnB NW wr 5 v (layL (vs.take i))) ∧ (Sl (fun b => F b ∧ b < NW) wr 1 ao (vs.map U64)) ∧ (Kp0 w wr)) (fun i => vs.length - i) 0 ?_ ?_
  ·
    exact ⟨_, _, ⟨rfl, rfl, rfl, rfl, trivial⟩, Nat.zero_le _, hp, HP, HO, hV, T⟩
  ·
    rintro i f wr ⟨p, v, hf, hi, hp, HP, HO, hV, T⟩
    obtain ⟨g, rfl⟩ : ∃ g, f = upl g [(3, .pointer (some ⟨bl, 0, none⟩)), (6, .slice ao vs.length c), (7, .int .i64 (vs.length : Int)), (8, .int .i64 (i : Int))] := ⟨f, upl_self hf⟩
    clear hf
    refine CW_seq ?_
    refine CW_reg rfl ?_
    refine OW_ev (Ev_lss rfl rfl rfl) rfl ?_
    refine OW_nil ?_
    refine CW_seq ?_
    refine CW_cond rfl (fun c2 => ?_) (fun c2 => ?_)
    · have d2 := c2
      first | (with_reducible replace d2 := of_decide_eq_true d2) | (with_reducible replace d2 := bnt d2; try (with_reducible replace d2 := of_decide_eq_false d2)) | skip
      have hil : i < vs.length := by omega
      obtain ⟨x, hx⟩ : ∃ x, vs[i]? = some x := ⟨vs[i], List.getElem?_eq_getElem hil⟩
      have hg : (vs.map U64)[i]? = some (U64 x) := by rw [List.getElem?_map, hx]; rfl
      have hll : (layL (vs.take i)).length ≤ 800 := by rw [layL_len, List.length_take]; omega
      refine CW_skip ?_
      refine CW_seq ?_
      refine CW_block ?_
      refine CW_seq ?_
      refine CW_reg rfl ?_
      refine OW_ev (Ev_idx i (hV.ad hg) sl_43 rfl rfl rfl rfl hil) rfl ?_
      refine OW_ev (Ev_load (v := .int .u64 (x : Int)) one_42 rfl rfl ((hV.at_ hg).one 0 rfl)) rfl ?_
      refine OW_ev (Ev_mvi (.inr rfl) rfl) rfl ?_
      refine OW_nil ?_
      refine CW_reg rfl ?_
      refine OW_ev (Ev_mvi (.inl rfl) rfl) rfl ?_
      refine OW_st rfl (Stp_call ent_56 rfl rfl rfl (fixed_c _ x 8 (by omega)) ?_)
      rintro _ w3 ⟨E3, rfl⟩
      have Z3 := E3.size
      have HP := HP.keep0 E3
      have HO := HO.keep0 E3
      have hV := hV.keep0 E3
      have T := T.keep0 E3
      refine OW_st rfl (Stp_call ent_32 rfl rfl rfl (wrstr_c hp HP HO (by have := T.size; omega) (by rw [fixL_length]; omega)) ?_)
      rintro _ w4 ⟨v2, rfl, E4, HP2, HO2, hX2⟩
      have Z4 := E4.size
      have hV := hV.keep (E4.fix fun b hb _ h => h.elim (fun h => by have := hb.2; omega) (fun h => by have := hb.2; have := h.2; omega))
      have T := T.trans' E4 (fun i' hi' h => h.elim (fun h => by omega) (fun h => by have := h.2; omega))
      rw [← layL_step hx] at HO2
      refine OW_nil ?_
      refine CW_reg rfl ?_
      refine OW_ev (Ev_add rfl rfl rfl (by first | (apply IntWalk.i64_in; omega) | (apply IntWalk.u64_in; omega) | (apply IntWalk.u32_in; omega) | (apply IntWalk.u8_in; omega) | (apply IntWalk.i32_in; omega) | rfl)) rfl ?_
      refine OW_ev (Ev_mvi (.inl rfl) rfl) rfl ?_
      refine OW_nil ?_
      exact ⟨i + 1, by omega, _, _, ⟨rfl, rfl, rfl, congrArg (Value.int .i64) (by omega), trivial⟩, by omega, .inr rfl, HP2, HO2, hV, T⟩
    · have d2 := c2
      first | (with_reducible replace d2 := of_decide_eq_false d2) | (with_reducible replace d2 := bnf d2; try (with_reducible replace d2 := of_decide_eq_true d2)) | skip
      have hil : i = vs.length := by omega
      subst hil
      rw [List.take_length] at HO
      refine CW_exit ?_
      refine blk_same ?_
      refine CW_seq ?_
      refine CW_reg rfl ?_
      refine OW_st rfl (Stp_call ent_33 rfl rfl rfl (bstr_c HP HO) ?_)
      rintro _ w5 ⟨rfl, E5⟩
      have Z5 := E5.size
      have T := T.trans' E5 (fun i' hi' h => by obtain ⟨_, _, _, _, _, h2, _⟩ := HO.sl; have := (h2 i' h).1; omega)
      refine OW_ev (Ev_mvst (.inr rfl) rfl) rfl ?_
      refine OW_nil ?_
      refine CW_ret ?_
      refine ⟨rfl, _, (.tmp rfl .nil), ?_⟩
      exact ⟨T, rfl⟩

set_option maxRecDepth 10000 in
set_option maxHeartbeats 2000000 in
theorem newer_c (w : World) (s t : SupM) : Calls Try.prog 40 #[.agg s.cells.toArray, .agg t.cells.toArray] w (Ret fun v w' => Kp0 w w' ∧ v = .bool (decide ((t.ep : Int) < (s.ep : Int)))) := by
  have T : Kp0 w w := Kp.refl _ _
  refine calls_start Try.func40 rfl (n := 10) rfl rfl rfl ?_
  refine CW_seq ?_
  refine CW_reg rfl ?_
  refine OW_st rfl (Stp_box rfl rfl rfl ?_)
  intro b1 w1 hb1 hz1 E1 B1
  have L1 : _ ≤ b1 := Nat.le_trans T.size (Nat.le_of_eq hb1.symm)
  have T := T.keep0 E1
  replace B1 : Blk w1 b1 48 (s.cells) := B1
  refine OW_st rfl (Stp_box rfl rfl rfl ?_)
  intro b2 w2 hb2 hz2 E2 B2
  have L2 : _ ≤ b2 := Nat.le_trans T.size (Nat.le_of_eq hb2.symm)
  have T := T.keep0 E2
  have B1 := B1.keep0 E2
  replace B2 : Blk w2 b2 48 (t.cells) := B2
  refine OW_ev (Ev_c (.inr rfl)) rfl ?_
  refine OW_nil ?_
  refine CW_seq ?_
  refine CW_reg rfl ?_
  refine OW_ev (Ev_fieldAddr fld_48_0 rfl rfl) rfl ?_
  refine OW_ev (Ev_load one_42 rfl rfl (B1.ld (q := 0) rfl)) rfl ?_
  refine OW_ev (Ev_fieldAddr fld_48_0 rfl rfl) rfl ?_
  refine OW_ev (Ev_load one_42 rfl rfl (B2.ld (q := 0) rfl)) rfl ?_
  refine OW_ev (Ev_gtr rfl rfl rfl) rfl ?_
  refine OW_ev (Ev_mvb (.inr rfl) rfl) rfl ?_
  refine OW_nil ?_
  refine CW_ret ?_
  refine ⟨rfl, _, (.tmp rfl .nil), ?_⟩
  exact ⟨T, rfl⟩

set_option maxRecDepth 10000 in
set_option maxHeartbeats 2000000 in
theorem puts_c (w : World) (s : SupM) (hs : s.Ok) : Calls Try.prog 39 #[.agg s.cells.toArray] w (Ret fun v w' => Kp0 w w' ∧ v = St s.str) := by
  have T : Kp0 w w := Kp.refl _ _
  refine calls_start Try.func39 rfl (n := 33) rfl rfl rfl ?_
  refine CW_seq ?_
  refine CW_reg rfl ?_
  refine OW_st rfl (Stp_box rfl rfl rfl ?_)
  intro b1 w1 hb1 hz1 E1 B1
  have L1 : _ ≤ b1 := Nat.le_trans T.size (Nat.le_of_eq hb1.symm)
  have T := T.keep0 E1
  replace B1 : Blk w1 b1 48 (s.cells) := B1
  have HB := B1
  refine OW_ev (Ev_c (.inr rfl)) rfl ?_
  refine OW_nil ?_
  refine CW_seq ?_
  refine CW_draw (fun W => HB.here W) mixed rfl (fun _ _ _ h => nomatch h.1) ?_
  have E2 : Kp0 _ _ := Kp.drew w1 nob
  have Z2 : (World.drew w1).heap.size = w1.heap.size := rfl
  generalize World.drew w1 = w2 at E2 Z2 ⊢
  have T := T.keep0 E2
  have HB := HB.keep0 E2
  refine AW_take 2 rfl rfl (by decide +kernel) (by decide +kernel) (by decide +kernel) (fun w HB => Ev_fieldAddr fld_48_0 rfl rfl) HB ?_
  refine AW_take 3 rfl rfl (by decide +kernel) (by decide +kernel) (by decide +kernel) (fun w HB => Ev_load one_42 rfl rfl (HB.ld (q := 0) rfl)) HB ?_
  refine AW_take 4 rfl rfl (by decide +kernel) (by decide +kernel) (by decide +kernel) (fun w HB => Ev_fieldAddr fld_48_1 rfl rfl) HB ?_
  refine AW_take 5 rfl rfl (by decide +kernel) (by decide +kernel) (by decide +kernel) (fun w HB => Ev_load one_42 rfl rfl (HB.ld (q := 1) rfl)) HB ?_
  refine AW_take 6 rfl rfl (by decide +kernel) (by decide +kernel) (by decide +kernel) (fun w HB => Ev_fieldAddr fld_48_2 rfl rfl) HB ?_
  refine AW_take 7 rfl rfl (by decide +kernel) (by decide +kernel) (by decide +kernel) (fun w HB => Ev_load one_42 rfl rfl (HB.ld (q := 2) rfl)) HB ?_
  refine AW_take 8 rfl rfl (by decide +kernel) (by decide +kernel) (by decide +kernel) (fun w HB => Ev_fieldAddr fld_48_4 rfl rfl) HB ?_
  refine AW_take 9 rfl rfl (by decide +kernel) (by decide +kernel) (by decide +kernel) (fun w HB => Ev_load one_42 rfl rfl (HB.ld (q := 35 + 0) (hs.mid (j := 0) rfl))) HB ?_
  refine AW_take 10 rfl rfl (by decide +kernel) (by decide +kernel) (by decide +kernel) (fun w HB => Ev_fieldAddr fld_48_5 rfl rfl) HB ?_
  refine AW_take 11 rfl rfl (by decide +kernel) (by decide +kernel) (by decide +kernel) (fun w HB => Ev_load one_42 rfl rfl (HB.ld (q := 35 + 1) (hs.mid (j := 1) rfl))) HB ?_
  refine AW_take 12 rfl rfl (by decide +kernel) (by decide +kernel) (by decide +kernel) (fun w HB => Ev_fieldAddr fld_48_6 rfl rfl) HB ?_
  refine AW_take 13 rfl rfl (by decide +kernel) (by decide +kernel) (by decide +kernel) (fun w HB => Ev_load one_42 rfl rfl (HB.ld (q := 35 + 2) (hs.mid (j := 2) rfl))) HB ?_
  refine AW_two 0 14 (by decide +kernel) (Next.mk rfl rfl ?_) (Next.mk rfl rfl ?_)
  ·
    refine Stp_buildSlice (l := [_]) el_38 zero_5 rfl rfl rfl rfl ?_
    intro b3 w3 hb3 hz3 E3 B3
    have L3 : _ ≤ b3 := Nat.le_trans T.size (Nat.le_of_eq hb3.symm)
    have T := T.keep0 E3
    have HB := HB.keep0 E3
    have S0 := bytesAt (l := [83]) (rest := []) B3
    refine ⟨HB, ?_⟩
    refine AW_two 1 14 (by decide +kernel) (Next.mk rfl rfl ?_) (Next.mk rfl rfl ?_)
    ·
      refine Ev.stp (Ev_bytesSt byt_38_9 rfl rfl (S0) rfl) ?_
      refine ⟨HB, ?_⟩
      refine AW_one 14 (by decide +kernel) (Next.mk rfl rfl ?_)
      refine Stp_buildSlice (l := [_, _, _, _, _, _]) el_43 zero_42 rfl rfl rfl rfl ?_
      intro b4 w4 hb4 hz4 E4 B4
      have L4 : _ ≤ b4 := Nat.le_trans T.size (Nat.le_of_eq hb4.symm)
      have T := T.keep0 E4
      have HB := HB.keep0 E4
      have S0 := S0.keep0 E4
      obtain ⟨bV, rfl⟩ : ∃ b, b = b4 := ⟨_, rfl⟩
      have SV := Sl.ofBlk (sz := 1) (es := [s.ep, s.tail, s.first, s.id, s.fin, s.next].map U64) B4 (by simp [U64])
      refine ⟨HB, ?_⟩
      refine AW_one 15 (by decide +kernel) (Next.mk rfl rfl ?_)
      have LC : Calls Try.prog 47 #[.slice (some ⟨bV, 0, none⟩) 6 6] w4 (Ret fun v w' => Kp0 w4 w' ∧ v = St (layL [s.ep, s.tail, s.first, s.id, s.fin, s.next])) := lay_c (vs := [s.ep, s.tail, s.first, s.id, s.fin, s.next]) SV (by simp)
      refine Stp_call ent_47 rfl rfl rfl (LC) ?_
      rintro _ w5 ⟨E5, rfl⟩
      have Z5 := E5.size
      have T := T.keep0 E5
      have HB := HB.keep0 E5
      have S0 := S0.keep0 E5
      have SV := SV.keep0 E5
      refine ⟨HB, ?_⟩
      refine AW_take 16 rfl rfl (by decide +kernel) (by decide +kernel) (by decide +kernel) (fun w HB => Ev_strAdd rfl rfl rfl (by rw [layL_len]; simp)) HB ?_
      refine AW_take 17 rfl rfl (by decide +kernel) (by decide +kernel) (by decide +kernel) (fun w HB => Ev_mvst (.inr rfl) rfl) HB ?_
      refine AW_done (by decide +kernel) ?_
      refine CW_seq ?_
      refine CW_re [(1, .pointer _), (2, .string _), (3, .string _)] ⟨rfl, rfl, rfl, trivial⟩ (fun g => ?_)
      refine CW_draw (fun W => HB.here W ∧ S0.here W ∧ SV.here W) mixed rfl (fun _ _ _ h => nomatch h.1) ?_
      have E6 : Kp0 _ _ := Kp.drew w5 nob
      have Z6 : (World.drew w5).heap.size = w5.heap.size := rfl
      generalize World.drew w5 = w6 at E6 Z6 ⊢
      have T := T.keep0 E6
      have HB := HB.keep0 E6
      have S0 := S0.keep0 E6
      have SV := SV.keep0 E6
      refine AW_take 0 rfl rfl (by decide +kernel) (by decide +kernel) (by decide +kernel) (fun w ⟨HB, S0, SV⟩ => Ev_mvst (.inl rfl) rfl) ⟨HB, S0, SV⟩ ?_
      refine AW_take 1 rfl rfl (by decide +kernel) (by decide +kernel) (by decide +kernel) (fun w ⟨HB, S0, SV⟩ => Ev_fieldAddr fld_48_3 rfl rfl) ⟨HB, S0, SV⟩ ?_
      refine AW_take 2 rfl rfl (by decide +kernel) (by decide +kernel) (by decide +kernel) (fun w ⟨HB, S0, SV⟩ => Ev_sliceArr arr_46 rfl rfl) ⟨HB, S0, SV⟩ ?_
      refine AW_take 3 rfl rfl (by decide +kernel) (by decide +kernel) (by decide +kernel) (fun w ⟨HB, S0, SV⟩ => Ev_bytesSt byt_38_9 rfl rfl (hs.anchorAt HB) hs.anchor.symm) ⟨HB, S0, SV⟩ ?_
      refine AW_take 4 rfl rfl (by decide +kernel) (by decide +kernel) (by decide +kernel) (fun w ⟨HB, S0, SV⟩ => Ev_fieldAddr fld_48_7 rfl rfl) ⟨HB, S0, SV⟩ ?_
      refine AW_take 5 rfl rfl (by decide +kernel) (by decide +kernel) (by decide +kernel) (fun w ⟨HB, S0, SV⟩ => Ev_sliceArr arr_46 rfl rfl) ⟨HB, S0, SV⟩ ?_
      refine AW_take 6 rfl rfl (by decide +kernel) (by decide +kernel) (by decide +kernel) (fun w ⟨HB, S0, SV⟩ => Ev_bytesSt byt_38_9 rfl rfl (hs.sumAt HB) hs.sum.symm) ⟨HB, S0, SV⟩ ?_
      refine AW_take 7 rfl rfl (by decide +kernel) (by decide +kernel) (by decide +kernel) (fun w ⟨HB, S0, SV⟩ => Ev_strAdd rfl rfl rfl (by rw [hs.anchor, hs.sum]; decide)) ⟨HB, S0, SV⟩ ?_
      refine AW_take 8 rfl rfl (by decide +kernel) (by decide +kernel) (by decide +kernel) (fun w ⟨HB, S0, SV⟩ => Ev_strAdd rfl rfl rfl (by have := hs.half_len; unfold SupM.half at this; rw [List.length_append] at this; omega)) ⟨HB, S0, SV⟩ ?_
      refine AW_take 9 rfl rfl (by decide +kernel) (by decide +kernel) (by decide +kernel) (fun w ⟨HB, S0, SV⟩ => Ev_mvst (.inr rfl) rfl) ⟨HB, S0, SV⟩ ?_
      refine AW_done (by decide +kernel) ?_
      refine CW_seq ?_
      refine CW_reg rfl ?_
      refine OW_ev (Ev_mvst (.inl rfl) rfl) rfl ?_
      refine OW_ev (Ev_mvst (.inl rfl) rfl) rfl ?_
      refine OW_ev (Ev_strAdd rfl rfl rfl (by have := hs.half_len; unfold SupM.half at this; omega)) rfl ?_
      refine OW_ev (Ev_mvst (.inr rfl) rfl) rfl ?_
      refine OW_nil ?_
      refine CW_ret ?_
      refine ⟨rfl, _, (.tmp rfl .nil), ?_⟩
      exact ⟨T, rfl⟩
    ·
      refine Stp_buildSlice (l := [_, _, _, _, _, _]) el_43 zero_42 rfl rfl rfl rfl ?_
      intro b7 w7 hb7 hz7 E7 B7
      have L7 : _ ≤ b7 := Nat.le_trans T.size (Nat.le_of_eq hb7.symm)
      have T := T.keep0 E7
      have HB := HB.keep0 E7
      have S0 := S0.keep0 E7
      obtain ⟨bV, rfl⟩ : ∃ b, b = b7 := ⟨_, rfl⟩
      have SV := Sl.ofBlk (sz := 1) (es := [s.ep, s.tail, s.first, s.id, s.fin, s.next].map U64) B7 (by simp [U64])
      refine ⟨HB, ?_⟩
      refine AW_two 1 15 (by decide +kernel) (Next.mk rfl rfl ?_) (Next.mk rfl rfl ?_)
      ·
        refine Ev.stp (Ev_bytesSt byt_38_9 rfl rfl (S0) rfl) ?_
        refine ⟨HB, ?_⟩
        refine AW_one 15 (by decide +kernel) (Next.mk rfl rfl ?_)
        have LC : Calls Try.prog 47 #[.slice (some ⟨bV, 0, none⟩) 6 6] w7 (Ret fun v w' => Kp0 w7 w' ∧ v = St (layL [s.ep, s.tail, s.first, s.id, s.fin, s.next])) := lay_c (vs := [s.ep, s.tail, s.first, s.id, s.fin, s.next]) SV (by simp)
        refine Stp_call ent_47 rfl rfl rfl (LC) ?_
        rintro _ w8 ⟨E8, rfl⟩
        have Z8 := E8.size
        have T := T.keep0 E8
        have HB := HB.keep0 E8
        have S0 := S0.keep0 E8
        have SV := SV.keep0 E8
        refine ⟨HB, ?_⟩
        refine AW_take 16 rfl rfl (by decide +kernel) (by decide +kernel) (by decide +kernel) (fun w HB => Ev_strAdd rfl rfl rfl (by rw [layL_len]; simp)) HB ?_
        refine AW_take 17 rfl rfl (by decide +kernel) (by decide +kernel) (by decide +kernel) (fun w HB => Ev_mvst (.inr rfl) rfl) HB ?_
        refine AW_done (by decide +kernel) ?_
        refine CW_seq ?_
        refine CW_re [(1, .pointer _), (2, .string _), (3, .string _)] ⟨rfl, rfl, rfl, trivial⟩ (fun g => ?_)
        refine CW_draw (fun W => HB.here W ∧ S0.here W ∧ SV.here W) mixed rfl (fun _ _ _ h => nomatch h.1) ?_
        have E9 : Kp0 _ _ := Kp.drew w8 nob
        have Z9 : (World.drew w8).heap.size = w8.heap.size := rfl
        generalize World.drew w8 = w9 at E9 Z9 ⊢
        have T := T.keep0 E9
        have HB := HB.keep0 E9
        have S0 := S0.keep0 E9
        have SV := SV.keep0 E9
        refine AW_take 0 rfl rfl (by decide +kernel) (by decide +kernel) (by decide +kernel) (fun w ⟨HB, S0, SV⟩ => Ev_mvst (.inl rfl) rfl) ⟨HB, S0, SV⟩ ?_
        refine AW_take 1 rfl rfl (by decide +kernel) (by decide +kernel) (by decide +kernel) (fun w ⟨HB, S0, SV⟩ => Ev_fieldAddr fld_48_3 rfl rfl) ⟨HB, S0, SV⟩ ?_
        refine AW_take 2 rfl rfl (by decide +kernel) (by decide +kernel) (by decide +kernel) (fun w ⟨HB, S0, SV⟩ => Ev_sliceArr arr_46 rfl rfl) ⟨HB, S0, SV⟩ ?_
        refine AW_take 3 rfl rfl (by decide +kernel) (by decide +kernel) (by decide +kernel) (fun w ⟨HB, S0, SV⟩ => Ev_bytesSt byt_38_9 rfl rfl (hs.anchorAt HB) hs.anchor.symm) ⟨HB, S0, SV⟩ ?_
        refine AW_take 4 rfl rfl (by decide +kernel) (by decide +kernel) (by decide +kernel) (fun w ⟨HB, S0, SV⟩ => Ev_fieldAddr fld_48_7 rfl rfl) ⟨HB, S0, SV⟩ ?_
        refine AW_take 5 rfl rfl (by decide +kernel) (by decide +kernel) (by decide +kernel) (fun w ⟨HB, S0, SV⟩ => Ev_sliceArr arr_46 rfl rfl) ⟨HB, S0, SV⟩ ?_
        refine AW_take 6 rfl rfl (by decide +kernel) (by decide +kernel) (by decide +kernel) (fun w ⟨HB, S0, SV⟩ => Ev_bytesSt byt_38_9 rfl rfl (hs.sumAt HB) hs.sum.symm) ⟨HB, S0, SV⟩ ?_
        refine AW_take 7 rfl rfl (by decide +kernel) (by decide +kernel) (by decide +kernel) (fun w ⟨HB, S0, SV⟩ => Ev_strAdd rfl rfl rfl (by rw [hs.anchor, hs.sum]; decide)) ⟨HB, S0, SV⟩ ?_
        refine AW_take 8 rfl rfl (by decide +kernel) (by decide +kernel) (by decide +kernel) (fun w ⟨HB, S0, SV⟩ => Ev_strAdd rfl rfl rfl (by have := hs.half_len; unfold SupM.half at this; rw [List.length_append] at this; omega)) ⟨HB, S0, SV⟩ ?_
        refine AW_take 9 rfl rfl (by decide +kernel) (by decide +kernel) (by decide +kernel) (fun w ⟨HB, S0, SV⟩ => Ev_mvst (.inr rfl) rfl) ⟨HB, S0, SV⟩ ?_
        refine AW_done (by decide +kernel) ?_
        refine CW_seq ?_
        refine CW_reg rfl ?_
        refine OW_ev (Ev_mvst (.inl rfl) rfl) rfl ?_
        refine OW_ev (Ev_mvst (.inl rfl) rfl) rfl ?_
        refine OW_ev (Ev_strAdd rfl rfl rfl (by have := hs.half_len; unfold SupM.half at this; omega)) rfl ?_
        refine OW_ev (Ev_mvst (.inr rfl) rfl) rfl ?_
        refine OW_nil ?_
        refine CW_ret ?_
        refine ⟨rfl, _, (.tmp rfl .nil), ?_⟩
        exact ⟨T, rfl⟩
      ·
        have LC : Calls Try.prog 47 #[.slice (some ⟨bV, 0, none⟩) 6 6] w7 (Ret fun v w' => Kp0 w7 w' ∧ v = St (layL [s.ep, s.tail, s.first, s.id, s.fin, s.next])) := lay_c (vs := [s.ep, s.tail, s.first, s.id, s.fin, s.next]) SV (by simp)
        refine Stp_call ent_47 rfl rfl rfl (LC) ?_
        rintro _ w10 ⟨E10, rfl⟩
        have Z10 := E10.size
        have T := T.keep0 E10
        have HB := HB.keep0 E10
        have S0 := S0.keep0 E10
        have SV := SV.keep0 E10
        refine ⟨HB, ?_⟩
        refine AW_one 1 (by decide +kernel) (Next.mk rfl rfl ?_)
        refine Ev.stp (Ev_bytesSt byt_38_9 rfl rfl (S0) rfl) ?_
        refine ⟨HB, ?_⟩
        refine AW_take 16 rfl rfl (by decide +kernel) (by decide +kernel) (by decide +kernel) (fun w HB => Ev_strAdd rfl rfl rfl (by rw [layL_len]; simp)) HB ?_
        refine AW_take 17 rfl rfl (by decide +kernel) (by decide +kernel) (by decide +kernel) (fun w HB => Ev_mvst (.inr rfl) rfl) HB ?_
        refine AW_done (by decide +kernel) ?_
        refine CW_seq ?_
        refine CW_re [(1, .pointer _), (2, .string _), (3, .string _)] ⟨rfl, rfl, rfl, trivial⟩ (fun g => ?_)
        refine CW_draw (fun W => HB.here W ∧ S0.here W ∧ SV.here W) mixed rfl (fun _ _ _ h => nomatch h.1) ?_
        have E11 : Kp0 _ _ := Kp.drew w10 nob
        have Z11 : (World.drew w10).heap.size = w10.heap.size := rfl
        generalize World.drew w10 = w11 at E11 Z11 ⊢
        have T := T.keep0 E11
        have HB := HB.keep0 E11
        have S0 := S0.keep0 E11
        have SV := SV.keep0 E11
        refine AW_take 0 rfl rfl (by decide +kernel) (by decide +kernel) (by decide +kernel) (fun w ⟨HB, S0, SV⟩ => Ev_mvst (.inl rfl) rfl) ⟨HB, S0, SV⟩ ?_
        refine AW_take 1 rfl rfl (by decide +kernel) (by decide +kernel) (by decide +kernel) (fun w ⟨HB, S0, SV⟩ => Ev_fieldAddr fld_48_3 rfl rfl) ⟨HB, S0, SV⟩ ?_
        refine AW_take 2 rfl rfl (by decide +kernel) (by decide +kernel) (by decide +kernel) (fun w ⟨HB, S0, SV⟩ => Ev_sliceArr arr_46 rfl rfl) ⟨HB, S0, SV⟩ ?_
        refine AW_take 3 rfl rfl (by decide +kernel) (by decide +kernel) (by decide +kernel) (fun w ⟨HB, S0, SV⟩ => Ev_bytesSt byt_38_9 rfl rfl (hs.anchorAt HB) hs.anchor.symm) ⟨HB, S0, SV⟩ ?_
        refine AW_take 4 rfl rfl (by decide +kernel) (by decide +kernel) (by decide +kernel) (fun w ⟨HB, S0, SV⟩ => Ev_fieldAddr fld_48_7 rfl rfl) ⟨HB, S0, SV⟩ ?_
        refine AW_take 5 rfl rfl (by decide +kernel) (by decide +kernel) (by decide +kernel) (fun w ⟨HB, S0, SV⟩ => Ev_sliceArr arr_46 rfl rfl) ⟨HB, S0, SV⟩ ?_
        refine AW_take 6 rfl rfl (by decide +kernel) (by decide +kernel) (by decide +kernel) (fun w ⟨HB, S0, SV⟩ => Ev_bytesSt byt_38_9 rfl rfl (hs.sumAt HB) hs.sum.symm) ⟨HB, S0, SV⟩ ?_
        refine AW_take 7 rfl rfl (by decide +kernel) (by decide +kernel) (by decide +kernel) (fun w ⟨HB, S0, SV⟩ => Ev_strAdd rfl rfl rfl (by rw [hs.anchor, hs.sum]; decide)) ⟨HB, S0, SV⟩ ?_
        refine AW_take 8 rfl rfl (by decide +kernel) (by decide +kernel) (by decide +kernel) (fun w ⟨HB, S0, SV⟩ => Ev_strAdd rfl rfl rfl (by have := hs.half_len; unfold SupM.half at this; rw [List.length_append] at this; omega)) ⟨HB, S0, SV⟩ ?_
        refine AW_take 9 rfl rfl (by decide +kernel) (by decide +kernel) (by decide +kernel) (fun w ⟨HB, S0, SV⟩ => Ev_mvst (.inr rfl) rfl) ⟨HB, S0, SV⟩ ?_
        refine AW_done (by decide +kernel) ?_
        refine CW_seq ?_
        refine CW_reg rfl ?_
        refine OW_ev (Ev_mvst (.inl rfl) rfl) rfl ?_
        refine OW_ev (Ev_mvst (.inl rfl) rfl) rfl ?_
        refine OW_ev (Ev_strAdd rfl rfl rfl (by have := hs.half_len; unfold SupM.half at this; omega)) rfl ?_
        refine OW_ev (Ev_mvst (.inr rfl) rfl) rfl ?_
        refine OW_nil ?_
        refine CW_ret ?_
        refine ⟨rfl, _, (.tmp rfl .nil), ?_⟩
        exact ⟨T, rfl⟩
  ·
    refine Stp_buildSlice (l := [_, _, _, _, _, _]) el_43 zero_42 rfl rfl rfl rfl ?_
    intro b12 w12 hb12 hz12 E12 B12
    have L12 : _ ≤ b12 := Nat.le_trans T.size (Nat.le_of_eq hb12.symm)
    have T := T.keep0 E12
    have HB := HB.keep0 E12
    obtain ⟨bV, rfl⟩ : ∃ b, b = b12 := ⟨_, rfl⟩
    have SV := Sl.ofBlk (sz := 1) (es := [s.ep, s.tail, s.first, s.id, s.fin, s.next].map U64) B12 (by simp [U64])
    refine ⟨HB, ?_⟩
    refine AW_two 0 15 (by decide +kernel) (Next.mk rfl rfl ?_) (Next.mk rfl rfl ?_)
    ·
      refine Stp_buildSlice (l := [_]) el_38 zero_5 rfl rfl rfl rfl ?_
      intro b13 w13 hb13 hz13 E13 B13
      have L13 : _ ≤ b13 := Nat.le_trans T.size (Nat.le_of_eq hb13.symm)
      have T := T.keep0 E13
      have HB := HB.keep0 E13
      have SV := SV.keep0 E13
      have S0 := bytesAt (l := [83]) (rest := []) B13
      refine ⟨HB, ?_⟩
      refine AW_two 1 15 (by decide +kernel) (Next.mk rfl rfl ?_) (Next.mk rfl rfl ?_)
      ·
        refine Ev.stp (Ev_bytesSt byt_38_9 rfl rfl (S0) rfl) ?_
        refine ⟨HB, ?_⟩
        refine AW_one 15 (by decide +kernel) (Next.mk rfl rfl ?_)
        have LC : Calls Try.prog 47 #[.slice (some ⟨bV, 0, none⟩) 6 6] w13 (Ret fun v w' => Kp0 w13 w' ∧ v = St (layL [s.ep, s.tail, s.first, s.id, s.fin, s.next])) := lay_c (vs := [s.ep, s.tail, s.first, s.id, s.fin, s.next]) SV (by simp)
        refine Stp_call ent_47 rfl rfl rfl (LC) ?_
        rintro _ w14 ⟨E14, rfl⟩
        have Z14 := E14.size
        have T := T.keep0 E14
        have HB := HB.keep0 E14
        have SV := SV.keep0 E14
        have S0 := S0.keep0 E14
        refine ⟨HB, ?_⟩
        refine AW_take 16 rfl rfl (by decide +kernel) (by decide +kernel) (by decide +kernel) (fun w HB => Ev_strAdd rfl rfl rfl (by rw [layL_len]; simp)) HB ?_
        refine AW_take 17 rfl rfl (by decide +kernel) (by decide +kernel) (by decide +kernel) (fun w HB => Ev_mvst (.inr rfl) rfl) HB ?_
        refine AW_done (by decide +kernel) ?_
        refine CW_seq ?_
        refine CW_re [(1, .pointer _), (2, .string _), (3, .string _)] ⟨rfl, rfl, rfl, trivial⟩ (fun g => ?_)
        refine CW_draw (fun W => HB.here W ∧ SV.here W ∧ S0.here W) mixed rfl (fun _ _ _ h => nomatch h.1) ?_
        have E15 : Kp0 _ _ := Kp.drew w14 nob
        have Z15 : (World.drew w14).heap.size = w14.heap.size := rfl
        generalize World.drew w14 = w15 at E15 Z15 ⊢
        have T := T.keep0 E15
        have HB := HB.keep0 E15
        have SV := SV.keep0 E15
        have S0 := S0.keep0 E15
        refine AW_take 0 rfl rfl (by decide +kernel) (by decide +kernel) (by decide +kernel) (fun w ⟨HB, SV, S0⟩ => Ev_mvst (.inl rfl) rfl) ⟨HB, SV, S0⟩ ?_
        refine AW_take 1 rfl rfl (by decide +kernel) (by decide +kernel) (by decide +kernel) (fun w ⟨HB, SV, S0⟩ => Ev_fieldAddr fld_48_3 rfl rfl) ⟨HB, SV, S0⟩ ?_
        refine AW_take 2 rfl rfl (by decide +kernel) (by decide +kernel) (by decide +kernel) (fun w ⟨HB, SV, S0⟩ => Ev_sliceArr arr_46 rfl rfl) ⟨HB, SV, S0⟩ ?_
        refine AW_take 3 rfl rfl (by decide +kernel) (by decide +kernel) (by decide +kernel) (fun w ⟨HB, SV, S0⟩ => Ev_bytesSt byt_38_9 rfl rfl (hs.anchorAt HB) hs.anchor.symm) ⟨HB, SV, S0⟩ ?_
        refine AW_take 4 rfl rfl (by decide +kernel) (by decide +kernel) (by decide +kernel) (fun w ⟨HB, SV, S0⟩ => Ev_fieldAddr fld_48_7 rfl rfl) ⟨HB, SV, S0⟩ ?_
        refine AW_take 5 rfl rfl (by decide +kernel) (by decide +kernel) (by decide +kernel) (fun w ⟨HB, SV, S0⟩ => Ev_sliceArr arr_46 rfl rfl) ⟨HB, SV, S0⟩ ?_
        refine AW_take 6 rfl rfl (by decide +kernel) (by decide +kernel) (by decide +kernel) (fun w ⟨HB, SV, S0⟩ => Ev_bytesSt byt_38_9 rfl rfl (hs.sumAt HB) hs.sum.symm) ⟨HB, SV, S0⟩ ?_
        refine AW_take 7 rfl rfl (by decide +kernel) (by decide +kernel) (by decide +kernel) (fun w ⟨HB, SV, S0⟩ => Ev_strAdd rfl rfl rfl (by rw [hs.anchor, hs.sum]; decide)) ⟨HB, SV, S0⟩ ?_
        refine AW_take 8 rfl rfl (by decide +kernel) (by decide +kernel) (by decide +kernel) (fun w ⟨HB, SV, S0⟩ => Ev_strAdd rfl rfl rfl (by have := hs.half_len; unfold SupM.half at this; rw [List.length_append] at this; omega)) ⟨HB, SV, S0⟩ ?_
        refine AW_take 9 rfl rfl (by decide +kernel) (by decide +kernel) (by decide +kernel) (fun w ⟨HB, SV, S0⟩ => Ev_mvst (.inr rfl) rfl) ⟨HB, SV, S0⟩ ?_
        refine AW_done (by decide +kernel) ?_
        refine CW_seq ?_
        refine CW_reg rfl ?_
        refine OW_ev (Ev_mvst (.inl rfl) rfl) rfl ?_
        refine OW_ev (Ev_mvst (.inl rfl) rfl) rfl ?_
        refine OW_ev (Ev_strAdd rfl rfl rfl (by have := hs.half_len; unfold SupM.half at this; omega)) rfl ?_
        refine OW_ev (Ev_mvst (.inr rfl) rfl) rfl ?_
        refine OW_nil ?_
        refine CW_ret ?_
        refine ⟨rfl, _, (.tmp rfl .nil), ?_⟩
        exact ⟨T, rfl⟩
      ·
        have LC : Calls Try.prog 47 #[.slice (some ⟨bV, 0, none⟩) 6 6] w13 (Ret fun v w' => Kp0 w13 w' ∧ v = St (layL [s.ep, s.tail, s.first, s.id, s.fin, s.next])) := lay_c (vs := [s.ep, s.tail, s.first, s.id, s.fin, s.next]) SV (by simp)
        refine Stp_call ent_47 rfl rfl rfl (LC) ?_
        rintro _ w16 ⟨E16, rfl⟩
        have Z16 := E16.size
        have T := T.keep0 E16
        have HB := HB.keep0 E16
        have SV := SV.keep0 E16
        have S0 := S0.keep0 E16
        refine ⟨HB, ?_⟩
        refine AW_one 1 (by decide +kernel) (Next.mk rfl rfl ?_)
        refine Ev.stp (Ev_bytesSt byt_38_9 rfl rfl (S0) rfl) ?_
        refine ⟨HB, ?_⟩
        refine AW_take 16 rfl rfl (by decide +kernel) (by decide +kernel) (by decide +kernel) (fun w HB => Ev_strAdd rfl rfl rfl (by rw [layL_len]; simp)) HB ?_
        refine AW_take 17 rfl rfl (by decide +kernel) (by decide +kernel) (by decide +kernel) (fun w HB => Ev_mvst (.inr rfl) rfl) HB ?_
        refine AW_done (by decide +kernel) ?_
        refine CW_seq ?_
        refine CW_re [(1, .pointer _), (2, .string _), (3, .string _)] ⟨rfl, rfl, rfl, trivial⟩ (fun g => ?_)
        refine CW_draw (fun W => HB.here W ∧ SV.here W ∧ S0.here W) mixed rfl (fun _ _ _ h => nomatch h.1) ?_
        have E17 : Kp0 _ _ := Kp.drew w16 nob
        have Z17 : (World.drew w16).heap.size = w16.heap.size := rfl
        generalize World.drew w16 = w17 at E17 Z17 ⊢
        have T := T.keep0 E17
        have HB := HB.keep0 E17
        have SV := SV.keep0 E17
        have S0 := S0.keep0 E17
        refine AW_take 0 rfl rfl (by decide +kernel) (by decide +kernel) (by decide +kernel) (fun w ⟨HB, SV, S0⟩ => Ev_mvst (.inl rfl) rfl) ⟨HB, SV, S0⟩ ?_
        refine AW_take 1 rfl rfl (by decide +kernel) (by decide +kernel) (by decide +kernel) (fun w ⟨HB, SV, S0⟩ => Ev_fieldAddr fld_48_3 rfl rfl) ⟨HB, SV, S0⟩ ?_
        refine AW_take 2 rfl rfl (by decide +kernel) (by decide +kernel) (by decide +kernel) (fun w ⟨HB, SV, S0⟩ => Ev_sliceArr arr_46 rfl rfl) ⟨HB, SV, S0⟩ ?_
        refine AW_take 3 rfl rfl (by decide +kernel) (by decide +kernel) (by decide +kernel) (fun w ⟨HB, SV, S0⟩ => Ev_bytesSt byt_38_9 rfl rfl (hs.anchorAt HB) hs.anchor.symm) ⟨HB, SV, S0⟩ ?_
        refine AW_take 4 rfl rfl (by decide +kernel) (by decide +kernel) (by decide +kernel) (fun w ⟨HB, SV, S0⟩ => Ev_fieldAddr fld_48_7 rfl rfl) ⟨HB, SV, S0⟩ ?_
        refine AW_take 5 rfl rfl (by decide +kernel) (by decide +kernel) (by decide +kernel) (fun w ⟨HB, SV, S0⟩ => Ev_sliceArr arr_46 rfl rfl) ⟨HB, SV, S0⟩ ?_
        refine AW_take 6 rfl rfl (by decide +kernel) (by decide +kernel) (by decide +kernel) (fun w ⟨HB, SV, S0⟩ => Ev_bytesSt byt_38_9 rfl rfl (hs.sumAt HB) hs.sum.symm) ⟨HB, SV, S0⟩ ?_
        refine AW_take 7 rfl rfl (by decide +kernel) (by decide +kernel) (by decide +kernel) (fun w ⟨HB, SV, S0⟩ => Ev_strAdd rfl rfl rfl (by rw [hs.anchor, hs.sum]; decide)) ⟨HB, SV, S0⟩ ?_
        refine AW_take 8 rfl rfl (by decide +kernel) (by decide +kernel) (by decide +kernel) (fun w ⟨HB, SV, S0⟩ => Ev_strAdd rfl rfl rfl (by have := hs.half_len; unfold SupM.half at this; rw [List.length_append] at this; omega)) ⟨HB, SV, S0⟩ ?_
        refine AW_take 9 rfl rfl (by decide +kernel) (by decide +kernel) (by decide +kernel) (fun w ⟨HB, SV, S0⟩ => Ev_mvst (.inr rfl) rfl) ⟨HB, SV, S0⟩ ?_
        refine AW_done (by decide +kernel) ?_
        refine CW_seq ?_
        refine CW_reg rfl ?_
        refine OW_ev (Ev_mvst (.inl rfl) rfl) rfl ?_
        refine OW_ev (Ev_mvst (.inl rfl) rfl) rfl ?_
        refine OW_ev (Ev_strAdd rfl rfl rfl (by have := hs.half_len; unfold SupM.half at this; omega)) rfl ?_
        refine OW_ev (Ev_mvst (.inr rfl) rfl) rfl ?_
        refine OW_nil ?_
        refine CW_ret ?_
        refine ⟨rfl, _, (.tmp rfl .nil), ?_⟩
        exact ⟨T, rfl⟩
    ·
      have LC : Calls Try.prog 47 #[.slice (some ⟨bV, 0, none⟩) 6 6] w12 (Ret fun v w' => Kp0 w12 w' ∧ v = St (layL [s.ep, s.tail, s.first, s.id, s.fin, s.next])) := lay_c (vs := [s.ep, s.tail, s.first, s.id, s.fin, s.next]) SV (by simp)
      refine Stp_call ent_47 rfl rfl rfl (LC) ?_
      rintro _ w18 ⟨E18, rfl⟩
      have Z18 := E18.size
      have T := T.keep0 E18
      have HB := HB.keep0 E18
      have SV := SV.keep0 E18
      refine ⟨HB, ?_⟩
      refine AW_one 0 (by decide +kernel) (Next.mk rfl rfl ?_)
      refine Stp_buildSlice (l := [_]) el_38 zero_5 rfl rfl rfl rfl ?_
      intro b19 w19 hb19 hz19 E19 B19
      have L19 : _ ≤ b19 := Nat.le_trans T.size (Nat.le_of_eq hb19.symm)
      have T := T.keep0 E19
      have HB := HB.keep0 E19
      have SV := SV.keep0 E19
      have S0 := bytesAt (l := [83]) (rest := []) B19
      refine ⟨HB, ?_⟩
      refine AW_one 1 (by decide +kernel) (Next.mk rfl rfl ?_)
      refine Ev.stp (Ev_bytesSt byt_38_9 rfl rfl (S0) rfl) ?_
      refine ⟨HB, ?_⟩
      refine AW_take 16 rfl rfl (by decide +kernel) (by decide +kernel) (by decide +kernel) (fun w HB => Ev_strAdd rfl rfl rfl (by rw [layL_len]; simp)) HB ?_
      refine AW_take 17 rfl rfl (by decide +kernel) (by decide +kernel) (by decide +kernel) (fun w HB => Ev_mvst (.inr rfl) rfl) HB ?_
      refine AW_done (by decide +kernel) ?_
      refine CW_seq ?_
      refine CW_re [(1, .pointer _), (2, .string _), (3, .string _)] ⟨rfl, rfl, rfl, trivial⟩ (fun g => ?_)
      refine CW_draw (fun W => HB.here W ∧ SV.here W ∧ S0.here W) mixed rfl (fun _ _ _ h => nomatch h.1) ?_
      have E20 : Kp0 _ _ := Kp.drew w19 nob
      have Z20 : (World.drew w19).heap.size = w19.heap.size := rfl
      generalize World.drew w19 = w20 at E20 Z20 ⊢
      have T := T.keep0 E20
      have HB := HB.keep0 E20
      have SV := SV.keep0 E20
      have S0 := S0.keep0 E20
      refine AW_take 0 rfl rfl (by decide +kernel) (by decide +kernel) (by decide +kernel) (fun w ⟨HB, SV, S0⟩ => Ev_mvst (.inl rfl) rfl) ⟨HB, SV, S0⟩ ?_
      refine AW_take 1 rfl rfl (by decide +kernel) (by decide +kernel) (by decide +kernel) (fun w ⟨HB, SV, S0⟩ => Ev_fieldAddr fld_48_3 rfl rfl) ⟨HB, SV, S0⟩ ?_
      refine AW_take 2 rfl rfl (by decide +kernel) (by decide +kernel) (by decide +kernel) (fun w ⟨HB, SV, S0⟩ => Ev_sliceArr arr_46 rfl rfl) ⟨HB, SV, S0⟩ ?_
      refine AW_take 3 rfl rfl (by decide +kernel) (by decide +kernel) (by decide +kernel) (fun w ⟨HB, SV, S0⟩ => Ev_bytesSt byt_38_9 rfl rfl (hs.anchorAt HB) hs.anchor.symm) ⟨HB, SV, S0⟩ ?_
      refine AW_take 4 rfl rfl (by decide +kernel) (by decide +kernel) (by decide +kernel) (fun w ⟨HB, SV, S0⟩ => Ev_fieldAddr fld_48_7 rfl rfl) ⟨HB, SV, S0⟩ ?_
      refine AW_take 5 rfl rfl (by decide +kernel) (by decide +kernel) (by decide +kernel) (fun w ⟨HB, SV, S0⟩ => Ev_sliceArr arr_46 rfl rfl) ⟨HB, SV, S0⟩ ?_
      refine AW_take 6 rfl rfl (by decide +kernel) (by decide +kernel) (by decide +kernel) (fun w ⟨HB, SV, S0⟩ => Ev_bytesSt byt_38_9 rfl rfl (hs.sumAt HB) hs.sum.symm) ⟨HB, SV, S0⟩ ?_
      refine AW_take 7 rfl rfl (by decide +kernel) (by decide +kernel) (by decide +kernel) (fun w ⟨HB, SV, S0⟩ => Ev_strAdd rfl rfl rfl (by rw [hs.anchor, hs.sum]; decide)) ⟨HB, SV, S0⟩ ?_
      refine AW_take 8 rfl rfl (by decide +kernel) (by decide +kernel) (by decide +kernel) (fun w ⟨HB, SV, S0⟩ => Ev_strAdd rfl rfl rfl (by have := hs.half_len; unfold SupM.half at this; rw [List.length_append] at this; omega)) ⟨HB, SV, S0⟩ ?_
      refine AW_take 9 rfl rfl (by decide +kernel) (by decide +kernel) (by decide +kernel) (fun w ⟨HB, SV, S0⟩ => Ev_mvst (.inr rfl) rfl) ⟨HB, SV, S0⟩ ?_
      refine AW_done (by decide +kernel) ?_
      refine CW_seq ?_
      refine CW_reg rfl ?_
      refine OW_ev (Ev_mvst (.inl rfl) rfl) rfl ?_
      refine OW_ev (Ev_mvst (.inl rfl) rfl) rfl ?_
      refine OW_ev (Ev_strAdd rfl rfl rfl (by have := hs.half_len; unfold SupM.half at this; omega)) rfl ?_
      refine OW_ev (Ev_mvst (.inr rfl) rfl) rfl ?_
      refine OW_nil ?_
      refine CW_ret ?_
      refine ⟨rfl, _, (.tmp rfl .nil), ?_⟩
      exact ⟨T, rfl⟩

end Go.Proofs.Ythfelkjklnhdiaa