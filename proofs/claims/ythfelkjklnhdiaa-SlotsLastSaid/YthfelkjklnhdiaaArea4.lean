/- Contract of (*area.Area).Put. -/
import Derived.Test.YthfelkjklnhdiaaArea3
import Derived.Test.YthfelkjklnhdiaaOpen
namespace Go.Proofs.Ythfelkjklnhdiaa
open Go Go.RowKit Bx Go.Proofs

structure PutK where
  bd : Nat
  ba : Nat
  bb : Nat
  bv : Nat
  bs : Nat
  f : Nat
  mn : Nat
  s : Nat
  a0 : Nat
  d0 : DkM
  m : List UInt8
def PutK.e (k : PutK) : Nat := k.a0 + k.m.length
structure PutK.Ok (k : PutK) : Prop where
  s0 : 64 ≤ k.s ∧ k.s ≤ 1024
  mn : k.mn ≤ 4096
  fm : k.f + k.mn ≤ k.d0.many
  hV : k.d0.V.length = k.d0.many * k.s
  hin : k.e ≤ k.mn * k.s
  nsb : k.bs ≠ k.bb
  nsv : k.bs ≠ k.bv
  nsa : k.bs ≠ k.ba
  nbv : k.bb ≠ k.bv
  nba : k.bb ≠ k.ba
  ml : k.m.length ≤ 1000000
  pl : k.d0.ps.length ≤ 10000000
structure PutK.Rel (k : PutK) (d : DkM) (a : Nat) : Prop where
  many : d.many = k.d0.many
  size : d.size = k.s
  last : d.last = k.d0.last
  hV : d.V = putL k.d0.V (k.f * k.s + k.a0) (k.m.take (a - k.a0))
  pl : d.ps.length ≤ k.d0.ps.length + (a - k.a0)
  g : calm k.d0.g → d.g = k.d0.g
def PutK.St (k : PutK) (q a : Nat) (D : Nat → Prop) (w : World) : Prop :=
  ∃ (D1 : Nat → Prop) (d : DkM), DkS D1 w k.bd d ∧ (∀ b, D1 b → D b) ∧ (D k.bs ∧ D k.bb ∧ D k.bv ∧ D k.ba) ∧ (¬ D1 k.bs ∧ ¬ D1 k.bb ∧ ¬ D1 k.bv ∧ ¬ D1 k.ba) ∧ Blk w k.bs 93 (spC q k.e k.s) ∧ Blk w k.bb 9 [Bx.St (k.m.drop (a - k.a0))] ∧
    Blk w k.bv 26 [.pointer (some ⟨k.ba, 0, none⟩)] ∧ Blk w k.ba 63 (arC k.bd k.f k.mn k.s) ∧ k.Rel d a ∧ (a = k.a0 ∨ a % k.s = 0 ∨ a = k.e) ∧ k.a0 ≤ a
theorem PutK.St.keep {k : PutK} {q a : Nat} {D M : Nat → Prop} {w w' : World} (h : k.St q a D w) (kp : Kp M w w') (hn : ∀ b, D b → ¬ M b) : k.St q a D w' := by
  obtain ⟨D1, d, h1, h2, h3, h4, h5, h6, h7, h8, h9⟩ := h
  exact ⟨D1, d, h1.keep kp (fun b hb => hn b (h2 b hb)), h2, h3, h4, h5.keep kp (hn _ h3.1), h6.keep kp (hn _ h3.2.1), h7.keep kp (hn _ h3.2.2.1), h8.keep kp (hn _ h3.2.2.2), h9⟩
def PutK.c (k : PutK) : Core := ⟨fun a D w => k.St a a D w, fun h kp hn => h.keep kp hn⟩
def PutK.c' (k : PutK) : Core := ⟨fun a D w => k.St (nxt k.s k.e a) a D w, fun h kp hn => h.keep kp hn⟩
def PutK.X (k : PutK) (a : Nat) (_er : Int) (D : Nat → Prop) (w : World) : Prop :=
  ∃ (D1 : Nat → Prop) (d : DkM), DkS D1 w k.bd d ∧ (∀ b, D1 b → D b) ∧ (¬ D1 k.ba ∧ Blk w k.ba 63 (arC k.bd k.f k.mn k.s)) ∧ k.Rel d a ∧ ¬ calm k.d0.g ∧ (a = k.a0 ∨ a % k.s = 0) ∧ k.a0 ≤ a
theorem PutK.small {k : PutK} (h : k.Ok) : k.e ≤ 4194304 := by
  have h1 := h.hin
  have h2 : k.mn * k.s ≤ 4096 * 1024 := Nat.mul_le_mul h.mn h.s0.2
  omega
theorem PutK.hN {k : PutK} (h : k.Ok) (a : Nat) (D : Nat → Prop) (w : World) (hae : a ≤ k.e) (hC : CoreAt k.c a D w) : Calls Try.prog 28 #[.pointer (some ⟨k.bs, 0, none⟩)] w (Ret (NextR k.c k.c' k.s k.e a D w)) := by
  obtain ⟨D1, d, h1, h2, h3, h4, h5, h6, h7, h8, h9⟩ := hC
  have hsm := PutK.small h
  refine (next_c h5 (by have := h.s0; omega) h.s0.2 (by omega) hsm).mono fun e W' he => ?_
  obtain ⟨v, rfl, hk, hv⟩ := he.val
  refine ⟨hk.mono fun b _ hb => by rw [show b = k.bs from hb]; exact h3.1, ?_⟩
  have nb : k.bb ≠ k.bs := h.nsb.symm
  have keep : ∀ q, Blk W' k.bs 93 (spC q k.e k.s) → k.St q a D W' := fun q hq =>
    ⟨D1, d, h1.keepb hk h4.1, h2, h3, h4, hq, h6.keepb hk nb, h7.keepb hk h.nsv.symm, h8.keepb hk h.nsa.symm, h9⟩
  rcases hv with ⟨hlt, rfl, hB⟩ | ⟨hge, rfl, hB⟩
  · exact ⟨_, _, _, by rw [decide_eq_true hlt]; rfl, fun _ => ⟨rfl, rfl, rfl, keep _ hB⟩, fun h => absurd hlt h⟩
  · exact ⟨0, 0, 0, by rw [decide_eq_false hge], fun h => absurd h hge, fun _ => keep _ hB⟩
set_option maxHeartbeats 2000000 in
theorem PutK.hD {k : PutK} (h : k.Ok) (a : Nat) (D : Nat → Prop) (w : World) (hae : a < k.e) (_hb : ∀ b, D b → b < w.heap.size) (hC : CoreAt k.c' a D w) :
    Calls Try.prog 29 ([Value.agg #[.int .i64 ((a / k.s : Nat) : Int), .int .i64 ((a % k.s : Nat) : Int), .int .i64 ((pEnd k.s a k.e : Nat) : Int)]] ++ [Value.pointer (some ⟨k.bb, 0, none⟩), Value.pointer (some ⟨k.bv, 0, none⟩)]).toArray w (Ret (DoR k.c k.X k.s k.e a D w)) := by
  obtain ⟨D1, d, h1, h2, h3, h4, h5, h6, h7, h8, hR, hal, ha0⟩ := hC
  have hs0 : 0 < k.s := by have := h.s0; omega
  have hpb := pEnd_bd hs0 hae
  have hmod := Nat.div_add_mod a k.s
  have hke : k.e = k.a0 + k.m.length := rfl
  have hdv : a / k.s < k.mn := by
    rcases Nat.lt_or_ge (a / k.s) k.mn with hl | hl
    · exact hl
    · have := Nat.mul_le_mul_left k.s hl
      rw [Nat.mul_comm k.s k.mn] at this
      have := h.hin; omega
  have hfm := h.fm
  have hpl := h.pl
  have hml := h.ml
  have hRp := hR.pl
  have hsec : k.f + a / k.s < d.many := by rw [hR.many]; omega
  have hpos : (k.f + a / k.s) * k.s + a % k.s = k.f * k.s + a := by rw [Nat.add_mul, Nat.mul_comm (a / k.s)]; omega
  refine (put1_c (sec := a / k.s) (lo := a % k.s) (hi := pEnd k.s a k.e) (r := k.m.drop (a - k.a0)) h1 h6 h7 h8 hR.size h4.2.1 h4.2.2.1 h4.2.2.2 h.nbv h.nba hpb.1 hpb.2.1 (by rw [List.length_drop]; omega) hsec (by rw [List.length_drop]; omega) (by omega)).mono fun e W' he => ?_
  obtain ⟨v, rfl, er, d', rfl, hk, hS, hB, hP⟩ := he.val
  refine ⟨hk.mono fun b _ hb => hb.elim (h2 b) (fun hb => by rw [hb]; exact h3.2.1), fun b => (D b ∨ w.heap.size ≤ b) ∧ b < W'.heap.size, fun b hb => hb, er, rfl, fun he => ?_, fun he => ?_⟩
  · obtain ⟨hV, hps⟩ := hP.yes he
    have hnx := nxt_bd (e := k.e) hs0 hae
    have hne := nxt_end (e := k.e) hs0 hae
    have hnd : nxt k.s k.e a = a + (pEnd k.s a k.e - a % k.s) := rfl
    have lt1 : ∀ b, D b → b < W'.heap.size := fun b hb => Nat.lt_of_lt_of_le (_hb b hb) hk.size
    have nlt : ∀ {b}, D b → ¬ D1 b → ¬ ((D1 b ∨ w.heap.size ≤ b) ∧ b < W'.heap.size) := fun hb hn hh => hh.1.elim hn (fun h => by have := _hb _ hb; omega)
    refine ⟨_, d', hS.bound, fun b hb => ⟨hb.1.imp (h2 b) id, hb.2⟩, ⟨⟨.inl h3.1, lt1 _ h3.1⟩, ⟨.inl h3.2.1, lt1 _ h3.2.1⟩, ⟨.inl h3.2.2.1, lt1 _ h3.2.2.1⟩, ⟨.inl h3.2.2.2, lt1 _ h3.2.2.2⟩⟩, ⟨nlt h3.1 h4.1, nlt h3.2.1 h4.2.1, nlt h3.2.2.1 h4.2.2.1, nlt h3.2.2.2 h4.2.2.2⟩,
      h5.keep hk (fun hh => hh.elim h4.1 h.nsb), ?_, h7.keep hk (fun hh => hh.elim h4.2.2.1 h.nbv.symm), h8.keep hk (fun hh => hh.elim h4.2.2.2 h.nba.symm), ⟨by rw [hP.many, hR.many], by rw [hP.size, hR.size], by rw [hP.last, hR.last], ?_, by omega, fun hg => ?_⟩, by omega, by omega⟩
    · rw [List.drop_drop] at hB
      rw [show nxt k.s k.e a - k.a0 = a - k.a0 + (pEnd k.s a k.e - a % k.s) by omega]
      exact hB
    · have hx : (k.m.take (a - k.a0)).length = a - k.a0 := by rw [List.length_take]; omega
      have hy : ((k.m.drop (a - k.a0)).take (pEnd k.s a k.e - a % k.s)).length = pEnd k.s a k.e - a % k.s := by rw [List.length_take, List.length_drop]; omega
      have hroom := mul_room (size := k.s) (show k.f + a / k.s < k.d0.many by omega)
      have h2e : (k.f + a / k.s) * k.s = k.f * k.s + a - a % k.s := by omega
      rw [hV, hR.hV, hpos, show k.f * k.s + a = k.f * k.s + k.a0 + (k.m.take (a - k.a0)).length by omega, putL_nextto (by rw [hx, hy, h.hV]; omega), show nxt k.s k.e a - k.a0 = a - k.a0 + (pEnd k.s a k.e - a % k.s) by omega, List.take_add]
    · have hgd : calm d.g := by rw [hR.g hg]; exact hg
      rw [hP.calm hgd, hR.g hg]
  · obtain ⟨hV, hps, hnc⟩ := hP.no he
    exact ⟨_, d', hS.bound, fun b hb => ⟨hb.1.imp (h2 b) id, hb.2⟩, ⟨fun hh => hh.1.elim h4.2.2.2 (fun hw => by have := _hb _ h3.2.2.2; omega), h8.keep hk (fun hh => hh.elim h4.2.2.2 h.nba.symm)⟩, ⟨by rw [hP.many, hR.many], by rw [hP.size, hR.size], by rw [hP.last, hR.last], by rw [hV, hR.hV], by omega, fun hg => by
      have hgd : calm d.g := by rw [hR.g hg]; exact hg
      rw [hP.calm hgd, hR.g hg]⟩, fun hg => hnc (by rw [hR.g hg]; exact hg), by omega, ha0⟩
theorem span2_c {w : World} {ba bd f m s : Nat} (hA : Blk w ba 63 (arC bd f m s)) (hm : m ≤ 4096) (hs : s ≤ 1024) (a n : Int) (hn : n ≤ 9223372036854775807) :
    Calls Try.prog 26 #[.pointer (some ⟨ba, 0, none⟩), .int .i64 a, .int .i64 n] w (Ret fun v w' => Kp0 w w' ∧ ∃ p er, v = .tuple #[.pointer p, .int .i64 er] ∧ ((¬ inside m s a n ∧ er = 6) ∨ (er = 0 ∧ inside m s a n ∧ ∃ bs, p = some ⟨bs, 0, none⟩ ∧ w.heap.size ≤ bs ∧ bs < w'.heap.size ∧ Blk w' bs 93 [.int .i64 a, .int .i64 (a + n), .int .i64 (s : Int)]))) := by
  refine (span_c hA hm hs a n hn).mono fun e W' he => ?_
  obtain ⟨v, rfl, hk, hv⟩ := he.val
  rcases hv with ⟨h1, rfl⟩ | ⟨h1, bs, rfl, h2⟩
  · exact ⟨hk, none, 6, rfl, .inl ⟨h1, rfl⟩⟩
  · exact ⟨hk, _, 0, rfl, .inr ⟨rfl, h1, bs, rfl, h2⟩⟩
/-- What Put yields, and what the disk holds behind it. -/
structure PutR (d d' : DkM) (mn s q : Nat) (a : Int) (m : List UInt8) (er : Int) : Prop where
  many : d'.many = d.many
  size : d'.size = d.size
  last : d'.last = d.last
  pl : d'.ps.length ≤ d.ps.length + m.length
  g : calm d.g → d'.g = d.g
  out : ¬ inside mn s a m.length → er = 6 ∧ d'.V = d.V
  hin : inside mn s a m.length → ∃ k, k ≤ m.length ∧ d'.V = putL d.V (q + a.toNat) (m.take k) ∧ (er = 0 → k = m.length) ∧ (er ≠ 0 → ¬ calm d.g ∧ (k = 0 ∨ (a.toNat + k) % s = 0))

set_option maxRecDepth 10000 in
set_option maxHeartbeats 2000000 in
theorem put_c {D1 : Nat → Prop} {w : World} {bd ba f mn s : Nat} {d : DkM} (hS : DkS D1 w bd d) (hA : Blk w ba 63 (arC bd f mn s)) (na : ¬ D1 ba) (hsz : d.size = s) (hfm : f + mn ≤ d.many) (at_ : Int) (m : List UInt8) (hml : m.length ≤ 1000000) (hpl : d.ps.length ≤ 10000000) : Calls Try.prog 11 #[.pointer (some ⟨ba, 0, none⟩), .int .i64 at_, St m] w (Ret fun v w' => ∃ er d', v = .int .i64 er ∧ Kp (fun b => D1 b ∨ b = ba) w w' ∧ DkS (fun b => D1 b ∨ w.heap.size ≤ b) w' bd d' ∧ Blk w' ba 63 (arC bd f mn s) ∧ PutR d d' mn s (f * s) at_ m er) := by
  have hS := hS.bound
  obtain ⟨NW, hNW⟩ : ∃ x, x = w.heap.size := ⟨_, rfl⟩
  rw [← hNW] at hS
  have hal := hA.lt
  have hmy := hS.ok.many
  have hsy := hS.ok.size
  have hmn : mn ≤ 4096 := by omega
  have hs1 : s ≤ 1024 := by omega
  have hVl : d.V.length = d.many * s := by rw [← hsz]; exact allP_length hS.ok.ps hS.ok.last
  have T : Kp (fun b => D1 b ∨ b = ba) w w := Kp.refl _ _
  refine calls_start Try.func11 rfl (n := 24) rfl rfl rfl ?_
  refine CW_seq ?_
  refine CW_reg rfl ?_
  refine OW_st rfl (Stp_box (l := [.pointer _]) rfl rfl rfl ?_)
  intro b1 w1 hb1 hz1 E1 B1
  have L1 : _ ≤ b1 := Nat.le_trans T.size (Nat.le_of_eq hb1.symm)
  have hS := hS.keep0 E1
  have hA := hA.keep0 E1
  have T := T.keep0 E1
  obtain ⟨bv, rfl⟩ : ∃ b, b = b1 := ⟨_, rfl⟩
  have HV := B1
  refine OW_st rfl (Stp_box (l := [.string _]) rfl rfl rfl ?_)
  intro b2 w2 hb2 hz2 E2 B2
  have L2 : _ ≤ b2 := Nat.le_trans T.size (Nat.le_of_eq hb2.symm)
  have hS := hS.keep0 E2
  have hA := hA.keep0 E2
  have T := T.keep0 E2
  have HV := HV.keep0 E2
  obtain ⟨bb, rfl⟩ : ∃ b, b = b2 := ⟨_, rfl⟩
  have HB := B2
  refine OW_ev (Ev_c (.inr rfl)) rfl ?_
  refine OW_nil ?_
  refine CW_seq ?_
  refine CW_reg rfl ?_
  refine OW_ev (Ev_load (v := .pointer (some ⟨ba, 0, none⟩)) one_26 rfl rfl (HV.ld (q := 0) rfl)) rfl ?_
  refine OW_ev (Ev_mvi (.inl rfl) rfl) rfl ?_
  refine OW_ev (Ev_load (v := St m) one_9 rfl rfl (HB.ld (q := 0) rfl)) rfl ?_
  refine OW_ev (Ev_lenSt und_9 rfl rfl) rfl ?_
  refine OW_st rfl (Stp_call ent_26 rfl rfl rfl (span2_c hA hmn hs1 at_ (m.length : Int) (by omega)) ?_)
  rintro _ w3 ⟨E3, pp, er, rfl, hsp⟩
  have Z3 := E3.size
  have hS := hS.keep0 E3
  have hA := hA.keep0 E3
  have T := T.keep0 E3
  have HV := HV.keep0 E3
  have HB := HB.keep0 E3
  have hzz3 := E3.size
  refine OW_ev (Ev_mvt (.inl rfl) rfl) rfl ?_
  refine OW_ev (Ev_extract (vs := _) rfl rfl rfl) rfl ?_
  refine OW_ev (Ev_extract (vs := _) rfl rfl rfl) rfl ?_
  refine OW_ev (Ev_mvp (.inr rfl) rfl) rfl ?_
  refine OW_ev (Ev_mvi (.inr rfl) rfl) rfl ?_
  refine OW_nil ?_
  refine CW_seq ?_
  refine CW_seq ?_
  refine CW_reg rfl ?_
  refine OW_ev (Ev_mvi (.inl rfl) rfl) rfl ?_
  refine OW_ev (Ev_neq rfl rfl rfl) rfl ?_
  refine OW_nil ?_
  refine CW_cond rfl (fun c4 => ?_) (fun c4 => ?_)
  · have d4 := c4
    first | (with_reducible replace d4 := of_decide_eq_true d4) | (with_reducible replace d4 := bnt d4; try (with_reducible replace d4 := of_decide_eq_false d4)) | skip
    have hne : er ≠ 0 := d4
    have hsp2 : ¬ inside mn s at_ m.length ∧ er = 6 := by
      rcases hsp with h | h
      · exact h
      · exact absurd h.1 hne
    refine CW_seq ?_
    refine CW_re [(3, .pointer _), (5, .pointer _), (6, .int _ _), (7, .pointer _), (8, .int _ _)] ⟨rfl, rfl, rfl, rfl, rfl, trivial⟩ (fun g => ?_)
    refine CW_reg rfl ?_
    refine OW_ev (Ev_mvi (.inl rfl) rfl) rfl ?_
    refine OW_ev (Ev_mvi (.inr rfl) rfl) rfl ?_
    refine OW_nil ?_
    refine CW_ret ?_
    refine ⟨rfl, _, (.tmp rfl .nil), ?_⟩
    exact ⟨_, d, rfl, T, hS.mono fun b h => .inl h.1, hA, ⟨rfl, rfl, rfl, Nat.le_add_right _ _, fun _ => rfl, fun _ => ⟨hsp2.2, rfl⟩, fun h => absurd h hsp2.1⟩⟩
  · have d4 := c4
    first | (with_reducible replace d4 := of_decide_eq_false d4) | (with_reducible replace d4 := bnf d4; try (with_reducible replace d4 := of_decide_eq_true d4)) | skip
    have hez : er = 0 := by omega
    have hsp3 := hsp.resolve_left (fun h => by omega)
    obtain ⟨_, hin, bs, rfl, hbs1, hbs2, HS_⟩ := hsp3
    have hin2 := hin
    unfold inside at hin2
    obtain ⟨a0, rfl⟩ : ∃ a0 : Nat, at_ = (a0 : Int) := ⟨at_.toNat, by omega⟩
    refine CW_skip ?_
    refine CW_seq ?_
    refine CW_re [(3, .pointer _), (5, .pointer _), (6, .int _ _), (7, .pointer _)] ⟨rfl, rfl, rfl, rfl, trivial⟩ (fun g => ?_)
    refine CW_reg rfl ?_
    refine OW_ev (Ev_mvp (.inl rfl) rfl) rfl ?_
    refine OW_ev (Ev_makeFunc rfl rfl rfl) rfl ?_
    refine OW_ev (Ev_makeFunc rfl rfl rfl) rfl ?_
    obtain ⟨k, hkk⟩ : ∃ k : PutK, k = ⟨bd, ba, bb, bv, bs, f, mn, s, a0, d, m⟩ := ⟨_, rfl⟩
    have hmi : ((mn * s : Nat) : Int) = (mn : Int) * (s : Int) := by push_cast; rfl
    have hko : k.Ok := by
      subst hkk
      exact ⟨⟨by show 64 ≤ s; omega, hs1⟩, hmn, hfm, hVl, by show a0 + m.length ≤ mn * s; omega, by show bs ≠ bb; omega, by show bs ≠ bv; omega, by show bs ≠ ba; omega, by show bb ≠ bv; omega, by show bb ≠ ba; omega, hml, hpl⟩
    have hC : CoreAt k.c k.a0 (fun b => (D1 b ∧ b < NW) ∨ b = bs ∨ b = bb ∨ b = bv ∨ b = ba) w3 := by
      subst hkk
      refine ⟨fun b => D1 b ∧ b < NW, d, hS, fun b h => .inl h, ⟨.inr (.inl rfl), .inr (.inr (.inl rfl)), .inr (.inr (.inr (.inl rfl))), .inr (.inr (.inr (.inr rfl)))⟩, ⟨fun h => by have h2 : bs < NW := h.2; omega, fun h => by have h2 : bb < NW := h.2; omega, fun h => by have h2 : bv < NW := h.2; omega, fun h => na h.1⟩, HS_, ?_, HV, hA, ⟨rfl, hsz, rfl, ?_, Nat.le_add_right _ _, fun _ => rfl⟩, .inl rfl, Nat.le_refl _⟩
      · show Blk _ bb 9 [Bx.St (m.drop (a0 - a0))]; rw [Nat.sub_self, List.drop_zero]; exact HB
      · show d.V = putL d.V (f * s + a0) (m.take (a0 - a0)); rw [Nat.sub_self, List.take_zero, putL_nil]
    have hbd : ∀ b, (fun b => (D1 b ∧ b < NW) ∨ b = bs ∨ b = bb ∨ b = bv ∨ b = ba) b → b < w3.heap.size := fun b h => by
      rcases h with h | h | h | h | h
      · exact Nat.lt_of_lt_of_le h.2 (by have := T.size; omega)
      · subst h; exact HS_.lt
      · subst h; exact HB.lt
      · subst h; exact HV.lt
      · subst h; exact hA.lt
    have hth := through_c (D0 := (fun b => (D1 b ∧ b < NW) ∨ b = bs ∨ b = bb ∨ b = bv ∨ b = ba)) (c := k.c) (c' := k.c') (X := k.X) (a0 := k.a0) ent_29 (by have := hko.s0; omega) (PutK.hN hko) (PutK.hD hko) hC hbd (Nat.le_add_right _ _)
    have e1 : k.bs = bs := by rw [hkk]
    have e2 : k.bb = bb := by rw [hkk]
    have e3 : k.bv = bv := by rw [hkk]
    rw [e1, e2, e3] at hth
    refine OW_st rfl (Stp_call ent_27 rfl rfl rfl (hth) ?_)
    rintro _ w5 ⟨E5, D2, hD2, er2, rfl, hy, hx⟩
    have Z5 := E5.size
    have T := T.trans' E5 (fun i hi h => by
      rcases h with h | h | h | h | h
      · exact .inl h.1
      · omega
      · omega
      · omega
      · exact .inr h)
    refine OW_ev (Ev_mvi (.inr rfl) rfl) rfl ?_
    refine OW_nil ?_
    refine CW_ret ?_
    refine ⟨rfl, _, (.tmp rfl .nil), ?_⟩
    have ea : k.ba = ba := by rw [hkk]
    have hDD : ∀ (D3 : Nat → Prop), ¬ D3 ba → (∀ b, D3 b → D2 b) → ∀ b, D3 b → D1 b ∨ w.heap.size ≤ b := by
      intro D3 hn h b hb
      rcases (hD2 b (h b hb)).1 with h | h
      · rcases h with h | h | h | h | h
        · exact .inl h.1
        · right; omega
        · right; omega
        · right; omega
        · subst h; exact absurd hb hn
      · right; omega
    have hts : (a0 : Int).toNat = a0 := Int.toNat_natCast _
    by_cases her : er2 = 0
    · obtain ⟨D3, d', g1, g2, g3, g4, g5, g6, g7, g8, gR, _, _⟩ := hy her
      have ee : k.e - k.a0 = m.length := by subst hkk; exact Nat.add_sub_cancel_left _ _
      have gp := gR.pl
      have gV := gR.hV
      rw [ee] at gp gV
      subst hkk
      exact ⟨er2, d', rfl, T, g1.mono (hDD D3 g4.2.2.2 g2), g8, ⟨gR.many, gR.size.trans hsz.symm, gR.last, gp, gR.g, fun h => absurd hin h, fun _ => ⟨m.length, Nat.le_refl _, by rw [hts]; exact gV, fun _ => rfl, fun h => absurd her h⟩⟩⟩
    · obtain ⟨a, h1, h2, D3, d', g1, g2, g4, gR, gc, gm, _⟩ := hx her
      have gp := gR.pl
      have gV := gR.hV
      subst hkk
      have h3 : a < a0 + m.length := h2
      have h4 : a0 ≤ a := h1
      have gm2 : a = a0 ∨ a % s = 0 := gm
      have gp2 : d'.ps.length ≤ d.ps.length + (a - a0) := gp
      exact ⟨er2, d', rfl, T, g1.mono (hDD D3 g4.1 g2), g4.2, ⟨gR.many, gR.size.trans hsz.symm, gR.last, by omega, gR.g, fun h => absurd hin h, fun _ => ⟨a - a0, by omega, by rw [hts]; exact gV, fun h => absurd h her, fun _ => ⟨gc, by
        rw [hts]
        rcases gm2 with h | h
        · left; omega
        · right; rw [show a0 + (a - a0) = a by omega]; exact h⟩⟩⟩⟩

end Go.Proofs.Ythfelkjklnhdiaa