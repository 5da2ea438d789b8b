/- Contracts of package sector: New, Break, settle, Image, Pending, Read. -/
import Derived.Test.YthfelkjklnhdiaaDisk1
namespace Go.Proofs.Ythfelkjklnhdiaa
open Go Go.RowKit Bx Go.Proofs

theorem bytesAt {w : World} {g e : Nat} {l : List UInt8} {rest : List Value} (h : Blk w g e ((l.map By).flatten ++ rest)) : Sl (· = g) w 1 (some ⟨g, 0, none⟩) (l.map By) := by
  refine ⟨By_len l, fun hn => ⟨rfl, rfl, h.lt, fun i x hi => ?_⟩⟩
  obtain ⟨b, hb, rfl⟩ : ∃ b, l[i]? = some b ∧ x = By b := by
    rw [List.getElem?_map] at hi
    cases hl : l[i]? with
    | none => rw [hl] at hi; cases hi
    | some b => rw [hl] at hi; injection hi with hi; exact ⟨b, rfl, hi.symm⟩
  intro j v hj
  have hj0 : j = 0 := by have := (List.getElem?_eq_some_iff.1 hj).1; simp [By] at this; exact this
  subst hj0
  have hv : v = .int .u8 b.toNat := by simp [By] at hj; exact hj.symm
  subst hv
  refine h.ld ?_
  have hil : i < l.length := (List.getElem?_eq_some_iff.1 hb).1
  simp only [aoff, Nat.zero_add, Nat.mul_one, Nat.add_zero]
  rw [List.getElem?_append_left (by rw [By_flat_len]; exact hil), getElem?_flatten (sz := 1) (by decide) (By_len l), Nat.div_one, Nat.mod_one, List.getElem?_map, hb]
  rfl
theorem Sl.part {F : Nat → Prop} {w : World} {b : Nat} {l : List UInt8} {q k : Nat} (h : Sl F w 1 (some ⟨b, 0, none⟩) (l.map By)) (hq : q ≤ l.length) : Sl F w 1 (some ⟨b, q, none⟩) (((l.drop q).take k).map By) := by
  have := (h.drop q (l.length + 1) (by simpa using hq) (by simp)).take k
  rw [if_neg (by omega)] at this
  simp only [Option.map_some, Addr.add_lit, Nat.zero_add, Nat.mul_one] at this
  rw [List.map_take, List.map_drop]
  exact this
theorem putAt_By {l vs : List UInt8} {q : Nat} (h : q + vs.length ≤ l.length) : putAt (l.map By).flatten q (vs.map By).flatten = ((putL l q vs).map By).flatten := by
  have key : ∀ (l : List UInt8) (q : Nat), (l.map By).flatten.take q = ((l.take q).map By).flatten ∧ (l.map By).flatten.drop q = ((l.drop q).map By).flatten := by
    intro l
    induction l with
    | nil => intro q; simp
    | cons b l ih =>
      intro q
      cases q with
      | zero => simp
      | succ q =>
        obtain ⟨h1, h2⟩ := ih q
        simp only [List.map_cons, List.flatten_cons, By, List.cons_append, List.nil_append, List.take_succ_cons, List.drop_succ_cons, h1, h2]
        constructor <;> first | rfl | trivial
  unfold putAt putL
  rw [(key l q).1, By_flat_len, (key l _).2]
  simp
theorem putAt_head {X Y rest : List Value} (h : X.length = Y.length) : putAt (X ++ rest) 0 Y = Y ++ rest := by
  unfold putAt
  rw [List.take_zero, List.nil_append, Nat.zero_add, ← h, List.drop_left]
def DkM.new (m s bl bm : Nat) : DkM := ⟨m, s, List.replicate (m * s) 0, [], ⟨false, false, 0⟩, bl, bm, none, 0, none, 0⟩
def newOk (many size : Int) : Prop := 1 ≤ many ∧ many ≤ 4096 ∧ 64 ≤ size ∧ size ≤ 1024
theorem zerosBy (n : Nat) : (List.replicate n [Value.int .u8 0]).flatten = ((List.replicate n (0 : UInt8)).map By).flatten := by
  rw [List.map_replicate]; rfl
theorem new_S {w : World} {NW bd bl bm m s : Nat} (h1 : 1 ≤ m ∧ m ≤ 4096) (h2 : 64 ≤ s ∧ s ≤ 1024) (kd : Blk w bd 59 (DkM.new m s bl bm).cells) (kl : Blk w bl 5 ((List.replicate (m * s) (0 : UInt8)).map By).flatten) (mp : MpI w bm (fun _ => none))
    (hl : NW ≤ bl) (hlm : bl < bm) (hmd : bm < bd) : DkS (fun b => NW ≤ b) w bd (DkM.new m s bl bm) :=
  ⟨kd, kl, mp.ext fun _ => rfl, Own.none_ _ _ _ _ _, Own.none_ _ _ _ _ _, fun p hp => (nomatch hp),
    ⟨by show NW ≤ bd; omega, hl, by show NW ≤ bm; omega, by show bl ≠ bd; omega, by show bm ≠ bd; omega, by show bl ≠ bm; omega, fun b n c hb => (by cases hb), fun b n c hb => (by cases hb), fun p hp => (nomatch hp), fun _ => ⟨rfl, rfl⟩⟩,
    ⟨h1, h2, by simp [DkM.new], fun p hp => (nomatch hp), ⟨by show (-9223372036854775808 : Int) ≤ 0; omega, by show (0 : Int) ≤ 9223372036854775807; omega, fun h => (nomatch h)⟩⟩⟩

set_option maxRecDepth 10000 in
set_option maxHeartbeats 2000000 in
theorem snew_c (w : World) (many size : Int) : Calls Try.prog 8 #[.int .i64 many, .int .i64 size] w (Ret fun v w' => Kp0 w w' ∧ ((¬ newOk many size ∧ v = .tuple #[.pointer none, .int .i64 1]) ∨ (newOk many size ∧ ∃ (m s bd bl bm : Nat), many = (m : Int) ∧ size = (s : Int) ∧ v = .tuple #[.pointer (some ⟨bd, 0, none⟩), .int .i64 0] ∧ DkS (fun b => w.heap.size ≤ b) w' bd (DkM.new m s bl bm)))) := by
  have T : Kp0 w w := Kp.refl _ _
  refine calls_start Try.func8 rfl (n := 29) rfl rfl rfl ?_
  refine CW_seq ?_
  refine CW_reg rfl ?_
  refine OW_ev (Ev_c (.inr rfl)) rfl ?_
  refine OW_ev (Ev_c (.inr rfl)) rfl ?_
  refine OW_nil ?_
  refine CW_seq ?_
  refine CW_seq ?_
  refine CW_reg rfl ?_
  refine OW_ev (Ev_mvi (.inl rfl) rfl) rfl ?_
  refine OW_ev (Ev_lss rfl rfl rfl) rfl ?_
  refine OW_ev (Ev_mvb (.inl rfl) rfl) rfl ?_
  refine OW_split (d := .tmp 8) rfl (fun c1 => ?_) (fun c1 => ?_)
  · have d1 := c1
    first | (with_reducible replace d1 := of_decide_eq_true d1) | (with_reducible replace d1 := bnt d1; try (with_reducible replace d1 := of_decide_eq_false d1)) | skip
    have hbad : ¬ newOk many size := by unfold newOk; omega
    refine OW_no rfl rfl rfl rfl c1 ?_
    refine OW_no rfl rfl rfl rfl c1 ?_
    refine OW_ev (Ev_pickb_t rfl rfl c1 rfl) rfl ?_
    refine OW_ev (Ev_mvb (.inl rfl) rfl) rfl ?_
    refine OW_no rfl rfl rfl rfl rfl ?_
    refine OW_no rfl rfl rfl rfl rfl ?_
    refine OW_ev (Ev_pickb_t rfl rfl rfl rfl) rfl ?_
    refine OW_ev (Ev_mvb (.inl rfl) rfl) rfl ?_
    refine OW_no rfl rfl rfl rfl rfl ?_
    refine OW_no rfl rfl rfl rfl rfl ?_
    refine OW_ev (Ev_pickb_t rfl rfl rfl rfl) rfl ?_
    refine OW_nil ?_
    refine CW_cond_t rfl rfl ?_
    refine CW_seq ?_
    refine CW_re [(0, .int _ _), (1, .int _ _), (4, .pointer _), (5, .int _ _)] ⟨rfl, rfl, rfl, rfl, trivial⟩ (fun g => ?_)
    refine CW_reg rfl ?_
    refine OW_ev (Ev_c (.inr rfl)) rfl ?_
    refine OW_ev (Ev_c (.inr rfl)) rfl ?_
    refine OW_nil ?_
    refine CW_ret ?_
    refine ⟨rfl, _, (.tmp rfl (.tmp rfl .nil)), ?_⟩
    exact ⟨T, .inl ⟨hbad, rfl⟩⟩
  · have d1 := c1
    first | (with_reducible replace d1 := of_decide_eq_false d1) | (with_reducible replace d1 := bnf d1; try (with_reducible replace d1 := of_decide_eq_true d1)) | skip
    refine OW_yes rfl rfl rfl rfl c1 (Ev.stp (Ev_mvi (.inl rfl) rfl) ?_)
    refine OW_yes rfl rfl rfl rfl c1 (Ev.stp (Ev_gtr rfl rfl rfl) ?_)
    refine OW_ev (Ev_pickb_f rfl rfl c1 rfl) rfl ?_
    refine OW_ev (Ev_mvb (.inl rfl) rfl) rfl ?_
    refine OW_split (d := .tmp 12) rfl (fun c2 => ?_) (fun c2 => ?_)
    · have d2 := c2
      first | (with_reducible replace d2 := of_decide_eq_true d2) | (with_reducible replace d2 := bnt d2; try (with_reducible replace d2 := of_decide_eq_false d2)) | skip
      have hbad : ¬ newOk many size := by unfold newOk; omega
      refine OW_no rfl rfl rfl rfl c2 ?_
      refine OW_no rfl rfl rfl rfl c2 ?_
      refine OW_ev (Ev_pickb_t rfl rfl c2 rfl) rfl ?_
      refine OW_ev (Ev_mvb (.inl rfl) rfl) rfl ?_
      refine OW_no rfl rfl rfl rfl rfl ?_
      refine OW_no rfl rfl rfl rfl rfl ?_
      refine OW_ev (Ev_pickb_t rfl rfl rfl rfl) rfl ?_
      refine OW_nil ?_
      refine CW_cond_t rfl rfl ?_
      refine CW_seq ?_
      refine CW_re [(0, .int _ _), (1, .int _ _), (4, .pointer _), (5, .int _ _)] ⟨rfl, rfl, rfl, rfl, trivial⟩ (fun g => ?_)
      refine CW_reg rfl ?_
      refine OW_ev (Ev_c (.inr rfl)) rfl ?_
      refine OW_ev (Ev_c (.inr rfl)) rfl ?_
      refine OW_nil ?_
      refine CW_ret ?_
      refine ⟨rfl, _, (.tmp rfl (.tmp rfl .nil)), ?_⟩
      exact ⟨T, .inl ⟨hbad, rfl⟩⟩
    · have d2 := c2
      first | (with_reducible replace d2 := of_decide_eq_false d2) | (with_reducible replace d2 := bnf d2; try (with_reducible replace d2 := of_decide_eq_true d2)) | skip
      refine OW_yes rfl rfl rfl rfl c2 (Ev.stp (Ev_mvi (.inl rfl) rfl) ?_)
      refine OW_yes rfl rfl rfl rfl c2 (Ev.stp (Ev_lss rfl rfl rfl) ?_)
      refine OW_ev (Ev_pickb_f rfl rfl c2 rfl) rfl ?_
      refine OW_ev (Ev_mvb (.inl rfl) rfl) rfl ?_
      refine OW_split (d := .tmp 16) rfl (fun c3 => ?_) (fun c3 => ?_)
      · have d3 := c3
        first | (with_reducible replace d3 := of_decide_eq_true d3) | (with_reducible replace d3 := bnt d3; try (with_reducible replace d3 := of_decide_eq_false d3)) | skip
        have hbad : ¬ newOk many size := by unfold newOk; omega
        refine OW_no rfl rfl rfl rfl c3 ?_
        refine OW_no rfl rfl rfl rfl c3 ?_
        refine OW_ev (Ev_pickb_t rfl rfl c3 rfl) rfl ?_
        refine OW_nil ?_
        refine CW_cond_t rfl rfl ?_
        refine CW_seq ?_
        refine CW_re [(0, .int _ _), (1, .int _ _), (4, .pointer _), (5, .int _ _)] ⟨rfl, rfl, rfl, rfl, trivial⟩ (fun g => ?_)
        refine CW_reg rfl ?_
        refine OW_ev (Ev_c (.inr rfl)) rfl ?_
        refine OW_ev (Ev_c (.inr rfl)) rfl ?_
        refine OW_nil ?_
        refine CW_ret ?_
        refine ⟨rfl, _, (.tmp rfl (.tmp rfl .nil)), ?_⟩
        exact ⟨T, .inl ⟨hbad, rfl⟩⟩
      · have d3 := c3
        first | (with_reducible replace d3 := of_decide_eq_false d3) | (with_reducible replace d3 := bnf d3; try (with_reducible replace d3 := of_decide_eq_true d3)) | skip
        refine OW_yes rfl rfl rfl rfl c3 (Ev.stp (Ev_mvi (.inl rfl) rfl) ?_)
        refine OW_yes rfl rfl rfl rfl c3 (Ev.stp (Ev_gtr rfl rfl rfl) ?_)
        refine OW_ev (Ev_pickb_f rfl rfl c3 rfl) rfl ?_
        refine OW_nil ?_
        refine CW_cond rfl (fun c4 => ?_) (fun c4 => ?_)
        · have d4 := c4
          first | (with_reducible replace d4 := of_decide_eq_true d4) | (with_reducible replace d4 := bnt d4; try (with_reducible replace d4 := of_decide_eq_false d4)) | skip
          have hbad : ¬ newOk many size := by unfold newOk; omega
          refine CW_seq ?_
          refine CW_re [(0, .int _ _), (1, .int _ _), (4, .pointer _), (5, .int _ _)] ⟨rfl, rfl, rfl, rfl, trivial⟩ (fun g => ?_)
          refine CW_reg rfl ?_
          refine OW_ev (Ev_c (.inr rfl)) rfl ?_
          refine OW_ev (Ev_c (.inr rfl)) rfl ?_
          refine OW_nil ?_
          refine CW_ret ?_
          refine ⟨rfl, _, (.tmp rfl (.tmp rfl .nil)), ?_⟩
          exact ⟨T, .inl ⟨hbad, rfl⟩⟩
        · have d4 := c4
          first | (with_reducible replace d4 := of_decide_eq_false d4) | (with_reducible replace d4 := bnf d4; try (with_reducible replace d4 := of_decide_eq_true d4)) | skip
          have hok : newOk many size := by unfold newOk; omega
          have hok2 := hok
          unfold newOk at hok2
          obtain ⟨m, rfl⟩ : ∃ m : Nat, many = (m : Int) := ⟨many.toNat, by omega⟩
          obtain ⟨s, rfl⟩ : ∃ s : Nat, size = (s : Int) := ⟨size.toNat, by omega⟩
          have hbig : m * s ≤ 4096 * 1024 := Nat.mul_le_mul (by omega) (by omega)
          have hbi : ((m * s : Nat) : Int) ≤ 4194304 := by omega
          push_cast at hbi
          have hb0 : 0 ≤ (m : Int) * (s : Int) := Int.mul_nonneg (by omega) (by omega)
          refine CW_skip ?_
          refine CW_seq ?_
          refine CW_re [(0, .int _ _), (1, .int _ _), (4, .pointer _), (5, .int _ _)] ⟨rfl, rfl, rfl, rfl, trivial⟩ (fun g => ?_)
          refine CW_reg rfl ?_
          refine OW_ev (Ev_mvi (.inl rfl) rfl) rfl ?_
          refine OW_ev (Ev_mvi (.inl rfl) rfl) rfl ?_
          refine OW_ev (Ev_mvi (.inl rfl) rfl) rfl ?_
          refine OW_ev (Ev_mvi (.inl rfl) rfl) rfl ?_
          refine OW_ev (Ev_mul rfl rfl rfl (by first | (apply IntWalk.i64_in; omega) | (apply IntWalk.u64_in; omega) | (apply IntWalk.u32_in; omega) | (apply IntWalk.u8_in; omega) | (apply IntWalk.i32_in; omega) | rfl)) rfl ?_
          refine OW_st rfl (Stp_makeSlice el_38 rfl rfl rfl (show ((m : Int) * (s : Int)) = ((m * s : Nat) : Int) by push_cast; rfl) (show ((m : Int) * (s : Int)) = ((m * s : Nat) : Int) by push_cast; rfl) (Nat.le_refl _) (by omega) (by simp only [maxLen]; omega) zero_5 ?_)
          intro b5 w5 hb5 hz5 E5 B5
          have L5 : _ ≤ b5 := Nat.le_trans T.size (Nat.le_of_eq hb5.symm)
          have T := T.keep0 E5
          rw [zerosBy] at B5
          obtain ⟨bl, rfl⟩ : ∃ b, b = b5 := ⟨_, rfl⟩
          have kl := B5
          refine OW_st rfl (Stp_makeMap map_55 rfl ?_)
          intro b6 w6 hb6 hz6 E6 B6
          have L6 : _ ≤ b6 := Nat.le_trans T.size (Nat.le_of_eq hb6.symm)
          have T := T.keep0 E6
          have kl := kl.keep0 E6
          obtain ⟨bm, rfl⟩ : ∃ b, b = b6 := ⟨_, rfl⟩
          have mp := B6
          refine OW_ev (Ev_build (l := [.int _ _, .int _ _, .slice _ _ _, .slice _ _ _, .slice _ _ _, .map _, .bool _, .bool _, .int _ _]) plc_59 zero_59 rfl rfl rfl) rfl ?_
          refine OW_st rfl (Stp_box (l := [.int _ _, .int _ _, .slice _ _ _, .slice _ _ _, .slice _ _ _, .map _, .bool _, .bool _, .int _ _]) rfl rfl rfl ?_)
          intro b7 w7 hb7 hz7 E7 B7
          have L7 : _ ≤ b7 := Nat.le_trans T.size (Nat.le_of_eq hb7.symm)
          have T := T.keep0 E7
          have kl := kl.keep0 E7
          have mp := mp.keep0 E7
          obtain ⟨bd, rfl⟩ : ∃ b, b = b7 := ⟨_, rfl⟩
          have kd := B7
          refine OW_ev (Ev_mvp (.inr rfl) rfl) rfl ?_
          refine OW_ev (Ev_c (.inr rfl)) rfl ?_
          refine OW_nil ?_
          refine CW_ret ?_
          refine ⟨rfl, _, (.tmp rfl (.tmp rfl .nil)), ?_⟩
          exact ⟨T, .inr ⟨hok, m, s, bd, bl, bm, rfl, rfl, rfl, new_S (by omega) (by omega) kd kl mp (by omega) (by omega) (by omega)⟩⟩

set_option maxRecDepth 10000 in
set_option maxHeartbeats 2000000 in
theorem settle_c {D : Nat → Prop} {w : World} {bd : Nat} {d : DkM} (hS : DkS D w bd d) : Calls Try.prog 35 #[.pointer (some ⟨bd, 0, none⟩)] w (Ret fun v w' => v = .tuple #[] ∧ Kp D w w' ∧ DkS D w' bd { d with ps := [], pa := none, pc := 0, wa := none, wc := 0 }) := by
  have hS := hS.bound
  obtain ⟨NW, hNW⟩ : ∃ x, x = w.heap.size := ⟨_, rfl⟩
  rw [← hNW] at hS
  have hs := hS.sep
  have hok := hS.ok
  obtain ⟨kd, kl, mp, pv, wv, bx, -, -⟩ := hS
  have hm := hok.many
  have hz := hok.size
  have hg := hok.g
  have kd : Blk w bd 59 [.int .i64 (d.many : Int), .int .i64 (d.size : Int), .slice (some ⟨d.bl, 0, none⟩) (d.many * d.size) (d.many * d.size), .slice d.pa d.ps.length d.pc, .slice d.wa d.ps.length d.wc, .map (some d.bm), .bool d.g.down, .bool d.g.breaks, .int .i64 d.g.left] := kd
  have T : Kp D w w := Kp.refl _ _
  refine calls_start Try.func35 rfl (n := 12) rfl rfl rfl ?_
  refine CW_seq ?_
  refine CW_reg rfl ?_
  refine OW_ev (Ev_mvp (.inl rfl) rfl) rfl ?_
  refine OW_ev (Ev_mvp (.inl rfl) rfl) rfl ?_
  refine OW_ev (Ev_nilCheck rfl rfl) rfl ?_
  refine OW_ev (Ev_fieldAddr fld_59_3 rfl rfl) rfl ?_
  refine OW_st rfl (Stp_store (q := 3) kd siz_56 rfl rfl rfl rfl (Nat.le_of_ble_eq_true rfl) rfl ?_)
  intro w1 hz1 E1 B1
  have Z1 := E1.size
  have kl := kl.keepb E1 hs.n1
  have mp := mp.keepb E1 hs.n2
  have pv := pv.keepb E1 (fun b _ hb => (hs.pv b _ _ hb).2.1)
  have wv := wv.keepb E1 (fun b _ hb => (hs.wv b _ _ hb).2.1)
  have bx := bx.keepb E1 (fun p hp => (hs.bx p hp).2.1)
  have T := T.trans' E1 (fun i _ h => by rw [show i = bd from h]; exact hs.d1.1)
  clear kd
  have kd := B1
  clear B1
  have kd : Blk w1 bd 59 [.int .i64 (d.many : Int), .int .i64 (d.size : Int), .slice (some ⟨d.bl, 0, none⟩) (d.many * d.size) (d.many * d.size), .slice none 0 0, .slice d.wa d.ps.length d.wc, .map (some d.bm), .bool d.g.down, .bool d.g.breaks, .int .i64 d.g.left] := kd
  refine OW_ev (Ev_nilCheck rfl rfl) rfl ?_
  refine OW_ev (Ev_fieldAddr fld_59_4 rfl rfl) rfl ?_
  refine OW_st rfl (Stp_store (q := 4) kd siz_57 rfl rfl rfl rfl (Nat.le_of_ble_eq_true rfl) rfl ?_)
  intro w2 hz2 E2 B2
  have Z2 := E2.size
  have kl := kl.keepb E2 hs.n1
  have mp := mp.keepb E2 hs.n2
  have pv := pv.keepb E2 (fun b _ hb => (hs.pv b _ _ hb).2.1)
  have wv := wv.keepb E2 (fun b _ hb => (hs.wv b _ _ hb).2.1)
  have bx := bx.keepb E2 (fun p hp => (hs.bx p hp).2.1)
  have T := T.trans' E2 (fun i _ h => by rw [show i = bd from h]; exact hs.d1.1)
  clear kd
  have kd := B2
  clear B2
  have kd : Blk w2 bd 59 [.int .i64 (d.many : Int), .int .i64 (d.size : Int), .slice (some ⟨d.bl, 0, none⟩) (d.many * d.size) (d.many * d.size), .slice none 0 0, .slice none 0 0, .map (some d.bm), .bool d.g.down, .bool d.g.breaks, .int .i64 d.g.left] := kd
  refine OW_nil ?_
  refine CW_reg rfl ?_
  refine OW_ev (Ev_mvp (.inl rfl) rfl) rfl ?_
  refine OW_ev (Ev_nilCheck rfl rfl) rfl ?_
  refine OW_ev (Ev_fieldAddr fld_59_5 rfl rfl) rfl ?_
  refine OW_ev (Ev_load (v := .map (some d.bm)) one_55 rfl rfl (kd.ld (q := 5) rfl)) rfl ?_
  refine OW_st rfl (Stp_clearMap mp Try.underlying55 rfl rfl ?_)
  intro w3 hz3 E3 B3
  have Z3 := E3.size
  have kd := kd.keepb E3 (Ne.symm hs.n2)
  have kl := kl.keepb E3 hs.n3
  have pv := pv.keepb E3 (fun b _ hb => (hs.pv b _ _ hb).2.2.2)
  have wv := wv.keepb E3 (fun b _ hb => (hs.wv b _ _ hb).2.2.2.1)
  have bx := bx.keepb E3 (fun p hp => (hs.bx p hp).2.2.2.1)
  have T := T.trans' E3 (fun i _ h => by rw [show i = d.bm from h]; exact hs.d3.1)
  clear mp
  have mp := B3
  clear B3
  refine OW_nil ?_
  refine ⟨_, .nil, ?_⟩
  refine ⟨rfl, T, ?_⟩
  refine DkS.mono (D := fun b => D b ∧ b < NW) ⟨kd, kl, mp.ext (fun _ => rfl), Own.none_ _ _ _ _ _, Own.none_ _ _ _ _ _, fun p hp => (nomatch hp), ⟨hs.d1, hs.d2, hs.d3, hs.n1, hs.n2, hs.n3, fun b n c hb => (by cases hb), fun b n c hb => (by cases hb), fun p hp => (nomatch hp), fun _ => ⟨rfl, rfl⟩⟩, ⟨hok.many, hok.size, hok.last, fun p hp => (nomatch hp), hok.g⟩⟩ (fun b h => h.1)

set_option maxRecDepth 10000 in
set_option maxHeartbeats 2000000 in
theorem break_c {D : Nat → Prop} {w : World} {bd : Nat} {d : DkM} (hS : DkS D w bd d) (n : Int) (hn : n ≤ 9223372036854775807) : Calls Try.prog 16 #[.pointer (some ⟨bd, 0, none⟩), .int .i64 n] w (Ret fun v w' => Kp (fun b => b = bd) w w' ∧ v = .int .i64 (if n < 0 then 1 else 0) ∧ DkS D w' bd { d with g := if n < 0 then d.g else ⟨decide (n = 0), decide (0 < n), n⟩ }) := by
  have hS := hS.bound
  obtain ⟨NW, hNW⟩ : ∃ x, x = w.heap.size := ⟨_, rfl⟩
  rw [← hNW] at hS
  have hs := hS.sep
  have hok := hS.ok
  obtain ⟨kd, kl, mp, pv, wv, bx, -, -⟩ := hS
  have hm := hok.many
  have hz := hok.size
  have hg := hok.g
  have kd : Blk w bd 59 [.int .i64 (d.many : Int), .int .i64 (d.size : Int), .slice (some ⟨d.bl, 0, none⟩) (d.many * d.size) (d.many * d.size), .slice d.pa d.ps.length d.pc, .slice d.wa d.ps.length d.wc, .map (some d.bm), .bool d.g.down, .bool d.g.breaks, .int .i64 d.g.left] := kd
  have T : Kp (fun b => b = bd) w w := Kp.refl _ _
  refine calls_start Try.func16 rfl (n := 23) rfl rfl rfl ?_
  refine CW_seq ?_
  refine CW_reg rfl ?_
  refine OW_ev (Ev_c (.inr rfl)) rfl ?_
  refine OW_nil ?_
  refine CW_seq ?_
  refine CW_seq ?_
  refine CW_reg rfl ?_
  refine OW_ev (Ev_mvp (.inl rfl) rfl) rfl ?_
  refine OW_ev (Ev_ptrNil und_22 rfl rfl) rfl ?_
  refine OW_nil ?_
  refine CW_cond_f rfl rfl ?_
  refine CW_skip ?_
  refine CW_seq ?_
  refine CW_seq ?_
  refine CW_reg rfl ?_
  refine OW_ev (Ev_mvi (.inl rfl) rfl) rfl ?_
  refine OW_ev (Ev_lss rfl rfl rfl) rfl ?_
  refine OW_nil ?_
  refine CW_cond rfl (fun c1 => ?_) (fun c1 => ?_)
  · have d1 := c1
    first | (with_reducible replace d1 := of_decide_eq_true d1) | (with_reducible replace d1 := bnt d1; try (with_reducible replace d1 := of_decide_eq_false d1)) | skip
    have hn0 : n < 0 := d1
    refine CW_seq ?_
    refine CW_reg rfl ?_
    refine OW_ev (Ev_c (.inr rfl)) rfl ?_
    refine OW_nil ?_
    refine CW_ret ?_
    refine ⟨rfl, _, (.tmp rfl .nil), ?_⟩
    rw [if_pos hn0, if_pos hn0]
    exact ⟨T, rfl, DkS.mono (D := fun b => D b ∧ b < NW) ⟨kd, kl, mp, pv, wv, bx, hs, hok⟩ (fun b h => h.1)⟩
  · have d1 := c1
    first | (with_reducible replace d1 := of_decide_eq_false d1) | (with_reducible replace d1 := bnf d1; try (with_reducible replace d1 := of_decide_eq_true d1)) | skip
    have hn0 : ¬ n < 0 := d1
    refine CW_skip ?_
    refine CW_seq ?_
    refine CW_reg rfl ?_
    refine OW_ev (Ev_mvp (.inl rfl) rfl) rfl ?_
    refine OW_ev (Ev_mvp (.inl rfl) rfl) rfl ?_
    refine OW_ev (Ev_mvp (.inl rfl) rfl) rfl ?_
    refine OW_ev (Ev_mvi (.inl rfl) rfl) rfl ?_
    refine OW_ev (Ev_gtr rfl rfl rfl) rfl ?_
    refine OW_ev (Ev_mvi (.inl rfl) rfl) rfl ?_
    refine OW_ev (Ev_mvi (.inl rfl) rfl) rfl ?_
    refine OW_ev (Ev_eql rfl rfl rfl) rfl ?_
    refine OW_ev (Ev_nilCheck rfl rfl) rfl ?_
    refine OW_ev (Ev_fieldAddr fld_59_7 rfl rfl) rfl ?_
    refine OW_st rfl (Stp_store (q := 7) kd siz_4 rfl rfl rfl rfl (Nat.le_of_ble_eq_true rfl) rfl ?_)
    intro w2 hz2 E2 B2
    have Z2 := E2.size
    have kl := kl.keepb E2 hs.n1
    have mp := mp.keepb E2 hs.n2
    have pv := pv.keepb E2 (fun b _ hb => (hs.pv b _ _ hb).2.1)
    have wv := wv.keepb E2 (fun b _ hb => (hs.wv b _ _ hb).2.1)
    have bx := bx.keepb E2 (fun p hp => (hs.bx p hp).2.1)
    have T := T.trans' E2 (fun i _ h => h)
    clear kd
    have kd := B2
    clear B2
    have kd : Blk w2 bd 59 [.int .i64 (d.many : Int), .int .i64 (d.size : Int), .slice (some ⟨d.bl, 0, none⟩) (d.many * d.size) (d.many * d.size), .slice d.pa d.ps.length d.pc, .slice d.wa d.ps.length d.wc, .map (some d.bm), .bool d.g.down, .bool (decide (0 < n)), .int .i64 d.g.left] := kd
    refine OW_ev (Ev_nilCheck rfl rfl) rfl ?_
    refine OW_ev (Ev_fieldAddr fld_59_8 rfl rfl) rfl ?_
    refine OW_st rfl (Stp_store (q := 8) kd siz_3 rfl rfl rfl rfl (Nat.le_of_ble_eq_true rfl) rfl ?_)
    intro w3 hz3 E3 B3
    have Z3 := E3.size
    have kl := kl.keepb E3 hs.n1
    have mp := mp.keepb E3 hs.n2
    have pv := pv.keepb E3 (fun b _ hb => (hs.pv b _ _ hb).2.1)
    have wv := wv.keepb E3 (fun b _ hb => (hs.wv b _ _ hb).2.1)
    have bx := bx.keepb E3 (fun p hp => (hs.bx p hp).2.1)
    have T := T.trans' E3 (fun i _ h => h)
    clear kd
    have kd := B3
    clear B3
    have kd : Blk w3 bd 59 [.int .i64 (d.many : Int), .int .i64 (d.size : Int), .slice (some ⟨d.bl, 0, none⟩) (d.many * d.size) (d.many * d.size), .slice d.pa d.ps.length d.pc, .slice d.wa d.ps.length d.wc, .map (some d.bm), .bool d.g.down, .bool (decide (0 < n)), .int .i64 n] := kd
    refine OW_ev (Ev_nilCheck rfl rfl) rfl ?_
    refine OW_ev (Ev_fieldAddr fld_59_6 rfl rfl) rfl ?_
    refine OW_st rfl (Stp_store (q := 6) kd siz_4 rfl rfl rfl rfl (Nat.le_of_ble_eq_true rfl) rfl ?_)
    intro w4 hz4 E4 B4
    have Z4 := E4.size
    have kl := kl.keepb E4 hs.n1
    have mp := mp.keepb E4 hs.n2
    have pv := pv.keepb E4 (fun b _ hb => (hs.pv b _ _ hb).2.1)
    have wv := wv.keepb E4 (fun b _ hb => (hs.wv b _ _ hb).2.1)
    have bx := bx.keepb E4 (fun p hp => (hs.bx p hp).2.1)
    have T := T.trans' E4 (fun i _ h => h)
    clear kd
    have kd := B4
    clear B4
    have kd : Blk w4 bd 59 [.int .i64 (d.many : Int), .int .i64 (d.size : Int), .slice (some ⟨d.bl, 0, none⟩) (d.many * d.size) (d.many * d.size), .slice d.pa d.ps.length d.pc, .slice d.wa d.ps.length d.wc, .map (some d.bm), .bool (decide (n = 0)), .bool (decide (0 < n)), .int .i64 n] := kd
    refine OW_nil ?_
    refine CW_seq ?_
    refine CW_re [(4, .int _ _)] ⟨rfl, trivial⟩ (fun g => ?_)
    refine CW_reg rfl ?_
    refine OW_ev (Ev_c (.inr rfl)) rfl ?_
    refine OW_nil ?_
    refine CW_ret ?_
    refine ⟨rfl, _, (.tmp rfl .nil), ?_⟩
    rw [if_neg hn0, if_neg hn0]
    refine ⟨T, rfl, ?_⟩
    refine DkS.mono (D := fun b => D b ∧ b < NW) ⟨kd, kl, mp, pv, wv, bx, ⟨hs.d1, hs.d2, hs.d3, hs.n1, hs.n2, hs.n3, hs.pv, hs.wv, hs.bx, hs.e0⟩, ⟨hok.many, hok.size, hok.last, hok.ps, ?_⟩⟩ (fun b h => h.1)
    exact ⟨by show -9223372036854775808 ≤ n; omega, hn, fun h => by have := of_decide_eq_true h; show 1 ≤ n; omega⟩

set_option maxRecDepth 10000 in
set_option maxHeartbeats 2000000 in
theorem image_c {D : Nat → Prop} {w : World} {bd : Nat} {d : DkM} (hS : DkS D w bd d) : Calls Try.prog 13 #[.pointer (some ⟨bd, 0, none⟩)] w (Ret fun v w' => Kp0 w w' ∧ v = .string ⟨d.last.toArray⟩) := by
  have hS := hS.bound
  obtain ⟨NW, hNW⟩ : ∃ x, x = w.heap.size := ⟨_, rfl⟩
  rw [← hNW] at hS
  have hs := hS.sep
  have hok := hS.ok
  obtain ⟨kd, kl, mp, pv, wv, bx, -, -⟩ := hS
  have hm := hok.many
  have hz := hok.size
  have hg := hok.g
  have kd : Blk w bd 59 [.int .i64 (d.many : Int), .int .i64 (d.size : Int), .slice (some ⟨d.bl, 0, none⟩) (d.many * d.size) (d.many * d.size), .slice d.pa d.ps.length d.pc, .slice d.wa d.ps.length d.wc, .map (some d.bm), .bool d.g.down, .bool d.g.breaks, .int .i64 d.g.left] := kd
  have T : Kp0 w w := Kp.refl _ _
  refine calls_start Try.func13 rfl (n := 10) rfl rfl rfl ?_
  refine CW_seq ?_
  refine CW_reg rfl ?_
  refine OW_ev (Ev_c (.inr rfl)) rfl ?_
  refine OW_nil ?_
  refine CW_seq ?_
  refine CW_seq ?_
  refine CW_reg rfl ?_
  refine OW_ev (Ev_mvp (.inl rfl) rfl) rfl ?_
  refine OW_ev (Ev_ptrNil und_22 rfl rfl) rfl ?_
  refine OW_nil ?_
  refine CW_cond_f rfl rfl ?_
  refine CW_skip ?_
  refine CW_seq ?_
  refine CW_reg rfl ?_
  refine OW_ev (Ev_mvp (.inl rfl) rfl) rfl ?_
  refine OW_ev (Ev_nilCheck rfl rfl) rfl ?_
  refine OW_ev (Ev_fieldAddr fld_59_2 rfl rfl) rfl ?_
  refine OW_ev (Ev_load one_38 rfl rfl (kd.ld (q := 2) rfl)) rfl ?_
  refine OW_ev (Ev_bytesSt byt_38_9 rfl rfl (bytesAt (l := d.last) (rest := []) (by rw [List.append_nil]; exact kl)) hok.last.symm) rfl ?_
  refine OW_ev (Ev_mvst (.inr rfl) rfl) rfl ?_
  refine OW_nil ?_
  refine CW_ret ?_
  refine ⟨rfl, _, (.tmp rfl .nil), ?_⟩
  exact ⟨T, rfl⟩

set_option maxRecDepth 10000 in
set_option maxHeartbeats 2000000 in
theorem pending_c {D : Nat → Prop} {w : World} {bd : Nat} {d : DkM} (hS : DkS D w bd d) : Calls Try.prog 23 #[.pointer (some ⟨bd, 0, none⟩)] w (Ret fun v w' => Kp0 w w' ∧ v = .int .i64 ((d.ps.length : Int))) := by
  have hS := hS.bound
  obtain ⟨NW, hNW⟩ : ∃ x, x = w.heap.size := ⟨_, rfl⟩
  rw [← hNW] at hS
  have hs := hS.sep
  have hok := hS.ok
  obtain ⟨kd, kl, mp, pv, wv, bx, -, -⟩ := hS
  have hm := hok.many
  have hz := hok.size
  have hg := hok.g
  have kd : Blk w bd 59 [.int .i64 (d.many : Int), .int .i64 (d.size : Int), .slice (some ⟨d.bl, 0, none⟩) (d.many * d.size) (d.many * d.size), .slice d.pa d.ps.length d.pc, .slice d.wa d.ps.length d.wc, .map (some d.bm), .bool d.g.down, .bool d.g.breaks, .int .i64 d.g.left] := kd
  have T : Kp0 w w := Kp.refl _ _
  refine calls_start Try.func23 rfl (n := 10) rfl rfl rfl ?_
  refine CW_seq ?_
  refine CW_reg rfl ?_
  refine OW_ev (Ev_c (.inr rfl)) rfl ?_
  refine OW_nil ?_
  refine CW_seq ?_
  refine CW_seq ?_
  refine CW_reg rfl ?_
  refine OW_ev (Ev_mvp (.inl rfl) rfl) rfl ?_
  refine OW_ev (Ev_ptrNil und_22 rfl rfl) rfl ?_
  refine OW_nil ?_
  refine CW_cond_f rfl rfl ?_
  refine CW_skip ?_
  refine CW_seq ?_
  refine CW_reg rfl ?_
  refine OW_ev (Ev_mvp (.inl rfl) rfl) rfl ?_
  refine OW_ev (Ev_nilCheck rfl rfl) rfl ?_
  refine OW_ev (Ev_fieldAddr fld_59_3 rfl rfl) rfl ?_
  refine OW_ev (Ev_load one_56 rfl rfl (kd.ld (q := 3) rfl)) rfl ?_
  refine OW_ev (Ev_len und_56 rfl rfl) rfl ?_
  refine OW_ev (Ev_mvi (.inr rfl) rfl) rfl ?_
  refine OW_nil ?_
  refine CW_ret ?_
  refine ⟨rfl, _, (.tmp rfl .nil), ?_⟩
  exact ⟨T, rfl⟩

end Go.Proofs.Ythfelkjklnhdiaa