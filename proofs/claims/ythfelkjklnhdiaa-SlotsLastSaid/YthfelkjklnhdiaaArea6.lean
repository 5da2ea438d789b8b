/- Contracts of Get and Sync of package area, of a disk that does not go down. -/
import Derived.Test.YthfelkjklnhdiaaArea5
import Derived.Test.YthfelkjklnhdiaaOpen
namespace Go.Proofs.Ythfelkjklnhdiaa
open Go Go.RowKit Bx Go.Proofs

structure GetK where
  bd : Nat
  ba : Nat
  bl : Nat
  bv : Nat
  bs : Nat
  B0 : Nat
  f : Nat
  mn : Nat
  s : Nat
  a0 : Nat
  n : Nat
  d0 : DkM
def GetK.e (k : GetK) : Nat := k.a0 + k.n
structure GetK.Ok (k : GetK) : Prop where
  s0 : 64 ≤ k.s ∧ k.s ≤ 1024
  sz : k.d0.size = k.s
  mn : k.mn ≤ 4096
  fm : k.f + k.mn ≤ k.d0.many
  g : calm k.d0.g
  hV : k.d0.V.length = k.d0.many * k.s
  hin : k.e ≤ k.mn * k.s
  nl : k.n ≤ 100000
  nsb : k.bs ≠ k.bl
  nsv : k.bs ≠ k.bv
  nsa : k.bs ≠ k.ba
  nbv : k.bv ≠ k.bl
  nba : k.ba ≠ k.bl
def GetK.out (k : GetK) (a : Nat) : List UInt8 := (k.d0.V.drop (k.f * k.s + k.a0)).take (a - k.a0)
def GetK.St (k : GetK) (q a : Nat) (D : Nat → Prop) (w : World) : Prop :=
  ∃ (D1 : Nat → Prop) (p v : Value), DkS D1 w k.bd k.d0 ∧ (∀ b, D1 b → D b) ∧ (D k.bs ∧ D k.bl ∧ D k.bv ∧ D k.ba) ∧ (¬ D1 k.bs ∧ ¬ D1 k.bl ∧ ¬ D1 k.bv ∧ ¬ D1 k.ba) ∧ Blk w k.bs 93 (spC q k.e k.s) ∧ (BP p k.bl ∧ Blk w k.bl 75 [p, v] ∧ OwnB k.B0 w 5 v (k.out a)) ∧
    Blk w k.bv 26 [.pointer (some ⟨k.ba, 0, none⟩)] ∧ Blk w k.ba 63 (arC k.bd k.f k.mn k.s) ∧ (∀ x, v.ownBlock = some x → D x ∧ ¬ D1 x ∧ x ≠ k.bs ∧ x ≠ k.bv ∧ x ≠ k.ba) ∧ k.B0 ≤ w.heap.size ∧ k.a0 ≤ a
theorem GetK.St.keep {k : GetK} {q a : Nat} {D M : Nat → Prop} {w w' : World} (h : k.St q a D w) (kp : Kp M w w') (hn : ∀ b, D b → ¬ M b) : k.St q a D w' := by
  obtain ⟨D1, p, v, h1, h2, h3, h4, h5, h6, h7, h8, h9, h10, h11⟩ := h
  exact ⟨D1, p, v, h1.keep kp (fun b hb => hn b (h2 b hb)), h2, h3, h4, h5.keep kp (hn _ h3.1), ⟨h6.1, h6.2.1.keep kp (hn _ h3.2.1), h6.2.2.keep kp (fun b _ hb => hn b (h9 b hb).1)⟩, h7.keep kp (hn _ h3.2.2.1), h8.keep kp (hn _ h3.2.2.2), h9, Nat.le_trans h10 kp.size, h11⟩
def GetK.c (k : GetK) : Core := ⟨fun a D w => k.St a a D w, fun h kp hn => h.keep kp hn⟩
def GetK.c' (k : GetK) : Core := ⟨fun a D w => k.St (nxt k.s k.e a) a D w, fun h kp hn => h.keep kp hn⟩
def GetK.X (_k : GetK) (_a : Nat) (_er : Int) (_D : Nat → Prop) (_w : World) : Prop := False
theorem GetK.small {k : GetK} (h : k.Ok) : k.e ≤ 4194304 := by
  have h1 := h.hin
  have h2 : k.mn * k.s ≤ 4096 * 1024 := Nat.mul_le_mul h.mn h.s0.2
  omega
theorem GetK.hN {k : GetK} (h : k.Ok) (a : Nat) (D : Nat → Prop) (w : World) (hae : a ≤ k.e) (hC : CoreAt k.c a D w) : Calls Try.prog 28 #[.pointer (some ⟨k.bs, 0, none⟩)] w (Ret (NextR k.c k.c' k.s k.e a D w)) := by
  obtain ⟨D1, p, v, h1, h2, h3, h4, h5, h6, h7, h8, h9, h10, h11⟩ := hC
  have hsm := GetK.small h
  refine (next_c h5 (by have := h.s0; omega) h.s0.2 (by omega) hsm).mono fun e W' he => ?_
  obtain ⟨r, rfl, hk, hv⟩ := he.val
  refine ⟨hk.mono fun b _ hb => by rw [show b = k.bs from hb]; exact h3.1, ?_⟩
  have keep : ∀ q, Blk W' k.bs 93 (spC q k.e k.s) → k.St q a D W' := fun q hq =>
    ⟨D1, p, v, h1.keepb hk h4.1, h2, h3, h4, hq, ⟨h6.1, h6.2.1.keepb hk h.nsb.symm, h6.2.2.keepb hk fun x _ hx => (h9 x hx).2.2.1⟩, h7.keepb hk h.nsv.symm, h8.keepb hk h.nsa.symm, h9, Nat.le_trans h10 hk.size, h11⟩
  rcases hv with ⟨hlt, rfl, hB⟩ | ⟨hge, rfl, hB⟩
  · exact ⟨_, _, _, by rw [decide_eq_true hlt]; rfl, fun _ => ⟨rfl, rfl, rfl, keep _ hB⟩, fun h => absurd hlt h⟩
  · exact ⟨0, 0, 0, by rw [decide_eq_false hge], fun h => absurd h hge, fun _ => keep _ hB⟩
set_option maxHeartbeats 2000000 in
theorem GetK.hD {k : GetK} (h : k.Ok) (a : Nat) (D : Nat → Prop) (w : World) (hae : a < k.e) (_hb : ∀ b, D b → b < w.heap.size) (hC : CoreAt k.c' a D w) :
    Calls Try.prog 31 ([Value.agg #[.int .i64 ((a / k.s : Nat) : Int), .int .i64 ((a % k.s : Nat) : Int), .int .i64 ((pEnd k.s a k.e : Nat) : Int)]] ++ [Value.pointer (some ⟨k.bv, 0, none⟩), Value.pointer (some ⟨k.bl, 0, none⟩)]).toArray w (Ret (DoR k.c k.X k.s k.e a D w)) := by
  obtain ⟨D1, p, v, h1, h2, h3, h4, h5, h6, h7, h8, h9, h10, h11⟩ := hC
  have hs0 : 0 < k.s := by have := h.s0; omega
  have hpb := pEnd_bd hs0 hae
  have hmod := Nat.div_add_mod a k.s
  have hke : k.e = k.a0 + k.n := rfl
  have hdv : a / k.s < k.mn := by
    rcases Nat.lt_or_ge (a / k.s) k.mn with hl | hl
    · exact hl
    · have := Nat.mul_le_mul_left k.s hl
      rw [Nat.mul_comm k.s k.mn] at this
      have := h.hin; omega
  have hfm := h.fm
  have hnl := h.nl
  have hsec : k.f + a / k.s < k.d0.many := by omega
  have hpos : (k.f + a / k.s) * k.s + a % k.s = k.f * k.s + a := by rw [Nat.add_mul, Nat.mul_comm (a / k.s)]; omega
  refine (get1_c (sec := a / k.s) (lo := a % k.s) (hi := pEnd k.s a k.e) h1 h6.1 h6.2.1 h6.2.2 h7 h8 h.sz h.g h4.2.1 h4.2.2.1 h4.2.2.2 h.nbv h.nba (fun x hx => (h9 x hx).2.1) (fun x hx => (h9 x hx).2.2.2) hpb.1 hpb.2.1 hsec (by unfold GetK.out; rw [List.length_take]; omega) h10).mono fun e W' he => ?_
  obtain ⟨r, rfl, v2, rfl, hk, hS, hP, hO, hx2⟩ := he.val
  have hnx := nxt_bd (e := k.e) hs0 hae
  have hnd : nxt k.s k.e a = a + (pEnd k.s a k.e - a % k.s) := rfl
  have lt1 : ∀ b, D b → b < W'.heap.size := fun b hb => Nat.lt_of_lt_of_le (_hb b hb) hk.size
  refine ⟨hk.mono fun b _ hb => ?_, fun b => (D b ∨ w.heap.size ≤ b) ∧ b < W'.heap.size, fun b hb => hb, 0, rfl, fun _ => ?_, fun he => absurd rfl he⟩
  · rcases hb with hb | hb | hb
    · exact h2 b hb
    · rw [hb]; exact h3.2.1
    · exact (h9 b hb.1).1
  · have hxl : ∀ x, v2.ownBlock = some x → x < W'.heap.size := fun x hx => by obtain ⟨_, _, _, _, _, h, _⟩ := hO.sl; exact (h x hx).2
    have hlt1 := h1.bound.sep
    have hS' : DkS (fun b => D1 b ∧ b < w.heap.size) W' k.bd k.d0 := ⟨hS.kd, hS.kl, hS.mp, hS.pv, hS.wv, hS.bx, hlt1, hS.ok⟩
    refine ⟨fun b => D1 b ∧ b < w.heap.size, _, v2, ?_, fun b hb => ⟨.inl (h2 b hb.1), Nat.lt_of_lt_of_le hb.2 hk.size⟩, ⟨⟨.inl h3.1, lt1 _ h3.1⟩, ⟨.inl h3.2.1, lt1 _ h3.2.1⟩, ⟨.inl h3.2.2.1, lt1 _ h3.2.2.1⟩, ⟨.inl h3.2.2.2, lt1 _ h3.2.2.2⟩⟩, ⟨fun h => h4.1 h.1, fun h => h4.2.1 h.1, fun h => h4.2.2.1 h.1, fun h => h4.2.2.2 h.1⟩,
      h5.keep hk ?_, ⟨.inr rfl, hP, ?_⟩, h7.keep hk ?_, h8.keep hk ?_, fun x hx => ?_, Nat.le_trans h10 hk.size, by omega⟩
    · exact hS'
    · rintro (hh | hh | hh)
      · exact h4.1 hh
      · exact h.nsb hh
      · exact (h9 _ hh.1).2.2.1 rfl
    · have : k.out a ++ (k.d0.V.drop ((k.f + a / k.s) * k.s + a % k.s)).take (pEnd k.s a k.e - a % k.s) = k.out (nxt k.s k.e a) := by
        unfold GetK.out
        rw [hpos, show nxt k.s k.e a - k.a0 = (a - k.a0) + (pEnd k.s a k.e - a % k.s) by omega, List.take_add, List.drop_drop, show k.f * k.s + k.a0 + (a - k.a0) = k.f * k.s + a by omega]
      rw [← this]; exact hO
    · rintro (hh | hh | hh)
      · exact h4.2.2.1 hh
      · exact h.nbv hh
      · exact (h9 _ hh.1).2.2.2.1 rfl
    · rintro (hh | hh | hh)
      · exact h4.2.2.2 hh
      · exact h.nba hh
      · exact (h9 _ hh.1).2.2.2.2 rfl
    · rcases hx2 x hx with hy | hy
      · have g := h9 x hy
        exact ⟨⟨.inl g.1, lt1 _ g.1⟩, fun h => g.2.1 h.1, g.2.2⟩
      · have l1 := _hb _ h3.1; have l2 := _hb _ h3.2.2.1; have l3 := _hb _ h3.2.2.2
        exact ⟨⟨.inr hy, hxl x hx⟩, fun h => by have := h.2; omega, by omega, by omega, by omega⟩

set_option maxRecDepth 10000 in
set_option maxHeartbeats 2000000 in
theorem get_c {D1 : Nat → Prop} {w : World} {bd ba f mn s : Nat} {d : DkM} (hS : DkS D1 w bd d) (hA : Blk w ba 63 (arC bd f mn s)) (na : ¬ D1 ba) (hsz : d.size = s) (hfm : f + mn ≤ d.many) (hg : calm d.g) (at_ n : Int) (hn : n ≤ 9223372036854775807) (hnl : ∀ m : Nat, n = (m : Int) → m ≤ 100000) : Calls Try.prog 14 #[.pointer (some ⟨ba, 0, none⟩), .int .i64 at_, .int .i64 n] w (Ret fun v w' => Kp (fun b => D1 b ∨ b = ba) w w' ∧ DkS (fun b => D1 b ∨ w.heap.size ≤ b) w' bd d ∧ Blk w' ba 63 (arC bd f mn s) ∧ ((¬ inside mn s at_ n ∧ v = .tuple #[.string ⟨#[]⟩, .int .i64 6]) ∨ (inside mn s at_ n ∧ v = .tuple #[.string ⟨((d.V.drop (f * s + at_.toNat)).take n.toNat).toArray⟩, .int .i64 0]))) := by
  have hS := hS.bound
  obtain ⟨NW, hNW⟩ : ∃ x, x = w.heap.size := ⟨_, rfl⟩
  rw [← hNW] at hS
  have hal := hA.lt
  have hmy := hS.ok.many
  have hsy := hS.ok.size
  have hmn : mn ≤ 4096 := by omega
  have hs1 : s ≤ 1024 := by omega
  have hVl : d.V.length = d.many * s := by rw [← hsz]; exact allP_length hS.ok.ps hS.ok.last
  have T : Kp (fun b => D1 b ∨ b = ba) w w := Kp.refl _ _
  refine calls_start Try.func14 rfl (n := 29) rfl rfl rfl ?_
  refine CW_seq ?_
  refine CW_reg rfl ?_
  refine OW_st rfl (Stp_box (l := [.pointer _]) rfl rfl rfl ?_)
  intro b1 w1 hb1 hz1 E1 B1
  have L1 : _ ≤ b1 := Nat.le_trans T.size (Nat.le_of_eq hb1.symm)
  have hS := hS.keep0 E1
  have hA := hA.keep0 E1
  have T := T.keep0 E1
  obtain ⟨bv, rfl⟩ : ∃ b, b = b1 := ⟨_, rfl⟩
  have HV := B1
  refine OW_ev (Ev_c (.inr rfl)) rfl ?_
  refine OW_ev (Ev_c (.inr rfl)) rfl ?_
  refine OW_nil ?_
  refine CW_seq ?_
  refine CW_reg rfl ?_
  refine OW_ev (Ev_load (v := .pointer (some ⟨ba, 0, none⟩)) one_26 rfl rfl (HV.ld (q := 0) rfl)) rfl ?_
  refine OW_ev (Ev_mvi (.inl rfl) rfl) rfl ?_
  refine OW_ev (Ev_mvi (.inl rfl) rfl) rfl ?_
  refine OW_st rfl (Stp_call ent_26 rfl rfl rfl (span2_c hA hmn hs1 at_ n hn) ?_)
  rintro _ w2 ⟨E2, pp, er, rfl, hsp⟩
  have Z2 := E2.size
  have hS := hS.keep0 E2
  have hA := hA.keep0 E2
  have T := T.keep0 E2
  have HV := HV.keep0 E2
  have hzz2 := E2.size
  refine OW_ev (Ev_mvt (.inl rfl) rfl) rfl ?_
  refine OW_ev (Ev_extract (vs := _) rfl rfl rfl) rfl ?_
  refine OW_ev (Ev_extract (vs := _) rfl rfl rfl) rfl ?_
  refine OW_ev (Ev_mvp (.inr rfl) rfl) rfl ?_
  refine OW_ev (Ev_mvi (.inr rfl) rfl) rfl ?_
  refine OW_nil ?_
  refine CW_seq ?_
  refine CW_seq ?_
  refine CW_reg rfl ?_
  refine OW_ev (Ev_mvi (.inl rfl) rfl) rfl ?_
  refine OW_ev (Ev_neq rfl rfl rfl) rfl ?_
  refine OW_nil ?_
  refine CW_cond rfl (fun c3 => ?_) (fun c3 => ?_)
  · have d3 := c3
    first | (with_reducible replace d3 := of_decide_eq_true d3) | (with_reducible replace d3 := bnt d3; try (with_reducible replace d3 := of_decide_eq_false d3)) | skip
    have hne : er ≠ 0 := d3
    have hsp2 : ¬ inside mn s at_ n ∧ er = 6 := by
      rcases hsp with h | h
      · exact h
      · exact absurd h.1 hne
    refine CW_seq ?_
    refine CW_reg rfl ?_
    refine OW_ev (Ev_mvi (.inl rfl) rfl) rfl ?_
    refine OW_ev (Ev_c (.inr rfl)) rfl ?_
    refine OW_ev (Ev_mvi (.inr rfl) rfl) rfl ?_
    refine OW_nil ?_
    refine CW_ret ?_
    refine ⟨rfl, _, (.tmp rfl (.tmp rfl .nil)), ?_⟩
    exact ⟨T, hS.mono (fun b h => .inl h.1), hA, .inl ⟨hsp2.1, by rw [hsp2.2]; rfl⟩⟩
  · have d3 := c3
    first | (with_reducible replace d3 := of_decide_eq_false d3) | (with_reducible replace d3 := bnf d3; try (with_reducible replace d3 := of_decide_eq_true d3)) | skip
    have hez : er = 0 := by omega
    have hsp3 := hsp.resolve_left (fun h => by omega)
    obtain ⟨_, hin, bs, rfl, hbs1, hbs2, HS_⟩ := hsp3
    have hin2 := hin
    unfold inside at hin2
    obtain ⟨a0, rfl⟩ : ∃ a0 : Nat, at_ = (a0 : Int) := ⟨at_.toNat, by omega⟩
    obtain ⟨m, rfl⟩ : ∃ m : Nat, n = (m : Int) := ⟨n.toNat, by omega⟩
    refine CW_skip ?_
    refine CW_seq ?_
    refine CW_reg rfl ?_
    refine OW_st rfl (Stp_alloc zero_75 rfl ?_)
    intro b4 w4 hb4 hz4 E4 B4
    have L4 : _ ≤ b4 := Nat.le_trans T.size (Nat.le_of_eq hb4.symm)
    have hS := hS.keep0 E4
    have hA := hA.keep0 E4
    have T := T.keep0 E4
    have HV := HV.keep0 E4
    have HS_ := HS_.keep0 E4
    obtain ⟨bl, rfl⟩ : ∃ b, b = b4 := ⟨_, rfl⟩
    have HP := B4
    obtain ⟨NB, hNB⟩ : ∃ x, x = w4.heap.size := ⟨_, rfl⟩
    have HO := OwnB.nil NB w4 5
    refine OW_nil ?_
    refine CW_seq ?_
    refine CW_re [(3, .pointer _), (6, .string _), (7, .int _ _), (8, .pointer _), (10, .pointer _)] ⟨rfl, rfl, rfl, rfl, rfl, trivial⟩ (fun g => ?_)
    refine CW_reg rfl ?_
    refine OW_ev (Ev_mvp (.inl rfl) rfl) rfl ?_
    refine OW_ev (Ev_makeFunc rfl rfl rfl) rfl ?_
    refine OW_ev (Ev_makeFunc rfl rfl rfl) rfl ?_
    obtain ⟨k, hkk⟩ : ∃ k : GetK, k = ⟨bd, ba, bl, bv, bs, NB, f, mn, s, a0, m, d⟩ := ⟨_, rfl⟩
    have hmi : ((mn * s : Nat) : Int) = (mn : Int) * (s : Int) := by push_cast; rfl
    have hko : k.Ok := by
      subst hkk
      exact ⟨⟨by show 64 ≤ s; omega, hs1⟩, hsz, hmn, hfm, hg, hVl, by show a0 + m ≤ mn * s; omega, hnl m rfl, by show bs ≠ bl; omega, by show bs ≠ bv; omega, by show bs ≠ ba; omega, by show bv ≠ bl; omega, by show ba ≠ bl; omega⟩
    have hC : CoreAt k.c k.a0 (fun b => (D1 b ∧ b < NW) ∨ b = bs ∨ b = bl ∨ b = bv ∨ b = ba) w4 := by
      subst hkk
      refine ⟨fun b => D1 b ∧ b < NW, _, _, hS, fun b h => .inl h, ⟨.inr (.inl rfl), .inr (.inr (.inl rfl)), .inr (.inr (.inr (.inl rfl))), .inr (.inr (.inr (.inr rfl)))⟩, ⟨fun h => by have h2 : bs < NW := h.2; omega, fun h => by have h2 : bl < NW := h.2; omega, fun h => by have h2 : bv < NW := h.2; omega, fun h => na h.1⟩, HS_, ⟨.inl rfl, HP, ?_⟩, HV, hA, fun x hx => (by cases hx), (by show NB ≤ (World.heap w4).size; omega), Nat.le_refl _⟩
      show OwnB NB w4 5 _ ((d.V.drop (f * s + a0)).take (a0 - a0)); rw [Nat.sub_self, List.take_zero]; exact HO
    have hbd : ∀ b, (fun b => (D1 b ∧ b < NW) ∨ b = bs ∨ b = bl ∨ b = bv ∨ b = ba) b → b < (World.heap w4).size := fun b h => by
      rcases h with h | h | h | h | h
      · exact Nat.lt_of_lt_of_le h.2 (by have := T.size; omega)
      · subst h; exact HS_.lt
      · subst h; exact HP.lt
      · subst h; exact HV.lt
      · subst h; exact hA.lt
    have hth := through_c (D0 := (fun b => (D1 b ∧ b < NW) ∨ b = bs ∨ b = bl ∨ b = bv ∨ b = ba)) (c := k.c) (c' := k.c') (X := k.X) (a0 := k.a0) ent_31 (by have := hko.s0; omega) (GetK.hN hko) (GetK.hD hko) hC hbd (Nat.le_add_right _ _)
    have e1 : k.bs = bs := by rw [hkk]
    have e2 : k.bl = bl := by rw [hkk]
    have e3 : k.bv = bv := by rw [hkk]
    rw [e1, e2, e3] at hth
    refine OW_st rfl (Stp_call ent_27 rfl rfl rfl (hth) ?_)
    rintro _ w5 ⟨E5, D2, hD2, er2, rfl, hy, hx⟩
    have Z5 := E5.size
    have T := T.trans' E5 (fun i hi h => by
      rcases h with h | h | h | h | h
      · exact .inl h.1
      · omega
      · omega
      · omega
      · exact .inr h)
    have hz2 : er2 = 0 := by
      rcases Classical.em (er2 = 0) with h | h
      · exact h
      · exact absurd (hx h) (by rintro ⟨_, _, _, h⟩; exact h)
    obtain ⟨D3, p3, v3, g1, g2, g3, g4, g5, g6, g7, g8, g9, _, _⟩ := hy hz2
    have ea : k.ba = ba := by rw [hkk]
    have eb : k.bl = bl := by rw [hkk]
    have ed : k.bd = bd := by rw [hkk]
    have e0 : k.d0 = d := by rw [hkk]
    have eo : k.out k.e = (d.V.drop (f * s + a0)).take m := by subst hkk; show (d.V.drop (f * s + a0)).take (a0 + m - a0) = _; rw [Nat.add_sub_cancel_left]
    have ear : arC k.bd k.f k.mn k.s = arC bd f mn s := by rw [hkk]
    rw [ed, e0] at g1
    rw [eo, eb] at g6
    rw [ea, ear] at g8
    rw [eb, ea] at g4
    rw [ea] at g9
    obtain ⟨hp3, HP, HO⟩ := g6
    have hA := g8
    have hS := g1
    have hD3 : ∀ b, D3 b → D1 b ∨ w.heap.size ≤ b := by
      intro b hb
      rcases (hD2 b (g2 b hb)).1 with h | h
      · rcases h with h | h | h | h | h
        · exact .inl h.1
        · right; omega
        · right; omega
        · right; omega
        · subst h; exact absurd hb g4.2.2.2
      · right; omega
    have hv3 : ∀ x, v3.ownBlock = some x → NB ≤ x ∧ x ≠ ba ∧ ¬ D3 x := fun x hx => by obtain ⟨_, _, _, _, _, h, _⟩ := HO.sl; exact ⟨by have := (h x hx).1; rw [hkk] at this; exact this, (g9 x hx).2.2.2.2, (g9 x hx).2.1⟩
    refine OW_ev (Ev_mvi (.inr rfl) rfl) rfl ?_
    refine OW_nil ?_
    refine CW_seq ?_
    refine CW_seq ?_
    refine CW_reg rfl ?_
    refine OW_ev (Ev_mvi (.inl rfl) rfl) rfl ?_
    refine OW_ev (Ev_neq rfl rfl rfl) rfl ?_
    refine OW_nil ?_
    refine CW_cond rfl (fun c6 => ?_) (fun c6 => ?_)
    · have d6 := c6
      first | (with_reducible replace d6 := of_decide_eq_true d6) | (with_reducible replace d6 := bnt d6; try (with_reducible replace d6 := of_decide_eq_false d6)) | skip
      exact absurd hz2 d6
    · have d6 := c6
      first | (with_reducible replace d6 := of_decide_eq_false d6) | (with_reducible replace d6 := bnf d6; try (with_reducible replace d6 := of_decide_eq_true d6)) | skip
      refine CW_skip ?_
      refine CW_seq ?_
      refine CW_reg rfl ?_
      refine OW_st rfl (Stp_call ent_33 rfl rfl rfl (bstr_c HP HO) ?_)
      rintro _ w7 ⟨rfl, E7⟩
      have Z7 := E7.size
      have T := T.trans' E7 (fun i hi h => by have := (hv3 i h).1; omega)
      have hS := hS.keep E7 (fun b hb h => (hv3 b h).2.2 hb)
      have hA := hA.keep E7 (fun h => (hv3 ba h).2.1 rfl)
      refine OW_ev (Ev_mvst (.inr rfl) rfl) rfl ?_
      refine OW_ev (Ev_c (.inr rfl)) rfl ?_
      refine OW_nil ?_
      refine CW_ret ?_
      refine ⟨rfl, _, (.tmp rfl (.tmp rfl .nil)), ?_⟩
      refine ⟨T, hS.mono hD3, hA, .inr ⟨hin, ?_⟩⟩
      rw [Int.toNat_natCast, Int.toNat_natCast]; rfl

set_option maxRecDepth 10000 in
set_option maxHeartbeats 2000000 in
theorem sync_c {D1 : Nat → Prop} {w : World} {bd ba f mn s : Nat} {d : DkM} (hS : DkS D1 w bd d) (hA : Blk w ba 63 (arC bd f mn s)) (na : ¬ D1 ba) (hpl : d.ps.length ≤ 10000000) : Calls Try.prog 12 #[.pointer (some ⟨ba, 0, none⟩)] w (Ret fun v w' => v = .int .i64 (if d.g.down = true then 9 else 0) ∧ Kp D1 w w' ∧ DkS D1 w' bd (if d.g.down = true then d else d.flushed) ∧ Blk w' ba 63 (arC bd f mn s)) := by
  have T : Kp D1 w w := Kp.refl _ _
  refine calls_start Try.func12 rfl (n := 10) rfl rfl rfl ?_
  refine CW_seq ?_
  refine CW_reg rfl ?_
  refine OW_ev (Ev_c (.inr rfl)) rfl ?_
  refine OW_nil ?_
  refine CW_seq ?_
  refine CW_seq ?_
  refine CW_reg rfl ?_
  refine OW_ev (Ev_mvp (.inl rfl) rfl) rfl ?_
  refine OW_ev (Ev_ptrNil und_26 rfl rfl) rfl ?_
  refine OW_nil ?_
  refine CW_cond_f rfl rfl ?_
  refine CW_skip ?_
  refine CW_seq ?_
  refine CW_reg rfl ?_
  refine OW_ev (Ev_mvp (.inl rfl) rfl) rfl ?_
  refine OW_ev (Ev_nilCheck rfl rfl) rfl ?_
  refine OW_ev (Ev_fieldAddr fld_63_0 rfl rfl) rfl ?_
  refine OW_ev (Ev_load (v := .pointer (some ⟨bd, 0, none⟩)) one_22 rfl rfl (hA.ld (q := 0) rfl)) rfl ?_
  refine OW_st rfl (Stp_call ent_17 rfl rfl rfl (flush_c hS (by omega)) ?_)
  rintro _ w1 ⟨rfl, E1, HS2⟩
  have Z1 := E1.size
  have hA := hA.keep E1 na
  have T := T.trans' E1 (fun i _ h => h)
  refine OW_ev (Ev_mvi (.inr rfl) rfl) rfl ?_
  refine OW_nil ?_
  refine CW_ret ?_
  refine ⟨rfl, _, (.tmp rfl .nil), ?_⟩
  exact ⟨rfl, T, HS2, hA⟩

end Go.Proofs.Ythfelkjklnhdiaa