/- The example of chapter 8, and AreaKeeps. -/
import Derived.Test.YthfelkjklnhdiaaArea6
namespace Go.Proofs.Ythfelkjklnhdiaa
open Go Go.RowKit Bx Go.Proofs

theorem snew_ok {w : World} {m s : Nat} (h : newOk m s) : Calls Try.prog 8 #[.int .i64 (m : Int), .int .i64 (s : Int)] w (Ret fun v w' => Kp0 w w' ∧ ∃ bd bl bm, v = .tuple #[.pointer (some ⟨bd, 0, none⟩), .int .i64 0] ∧ w.heap.size ≤ bd ∧ DkS (fun b => w.heap.size ≤ b) w' bd (DkM.new m s bl bm)) := by
  refine (snew_c w m s).mono fun e W' he => ?_
  obtain ⟨v, rfl, hk, hv⟩ := he.val
  rcases hv with ⟨h1, _⟩ | ⟨_, m', s', bd, bl, bm, e1, e2, rfl, hS⟩
  · exact absurd h h1
  · have e1 : m = m' := by omega
    have e2 : s = s' := by omega
    subst e1; subst e2
    exact ⟨hk, bd, bl, bm, rfl, hS.sep.d1, hS⟩
theorem snew_bad {w : World} {many size : Int} (h : ¬ newOk many size) : Calls Try.prog 8 #[.int .i64 many, .int .i64 size] w (Ret fun v w' => Kp0 w w' ∧ v = .tuple #[.pointer none, .int .i64 1]) := by
  refine (snew_c w many size).mono fun e W' he => ?_
  obtain ⟨v, rfl, hk, hv⟩ := he.val
  rcases hv with ⟨_, h1⟩ | ⟨h1, _⟩
  · exact ⟨hk, h1⟩
  · exact absurd h1 h
theorem anew_ok {D : Nat → Prop} {w : World} {bd f m : Nat} {d : DkM} (hS : DkS D w bd d) (h : fit d f m) : Calls Try.prog 9 #[.pointer (some ⟨bd, 0, none⟩), .int .i64 (f : Int), .int .i64 (m : Int)] w (Ret fun v w' => Kp0 w w' ∧ ∃ ba, v = .tuple #[.pointer (some ⟨ba, 0, none⟩), .int .i64 0] ∧ w.heap.size ≤ ba ∧ Blk w' ba 63 (arC bd f m d.size)) := by
  refine (anew_c hS f m).mono fun e W' he => ?_
  obtain ⟨v, rfl, hk, hv⟩ := he.val
  rcases hv with ⟨h1, _⟩ | ⟨_, f', m', ba, e1, e2, rfl, hb, hB⟩
  · exact absurd h h1
  · have e1 : f = f' := by omega
    have e2 : m = m' := by omega
    subst e1; subst e2
    exact ⟨hk, ba, rfl, hb, hB⟩
theorem anew_bad {D : Nat → Prop} {w : World} {bd : Nat} {fr many : Int} {d : DkM} (hS : DkS D w bd d) (h : ¬ fit d fr many) : Calls Try.prog 9 #[.pointer (some ⟨bd, 0, none⟩), .int .i64 fr, .int .i64 many] w (Ret fun v w' => Kp0 w w' ∧ v = .tuple #[.pointer none, .int .i64 1]) := by
  refine (anew_c hS fr many).mono fun e W' he => ?_
  obtain ⟨v, rfl, hk, hv⟩ := he.val
  rcases hv with ⟨_, h1⟩ | ⟨h1, _⟩
  · exact ⟨hk, h1⟩
  · exact absurd h1 h
/-- A disk behind a put, of a disk that does not go down. -/
structure PutC (d d' : DkM) (q : Nat) (mn s : Nat) (a : Int) (m : List UInt8) (er : Int) : Prop where
  many : d'.many = d.many
  size : d'.size = d.size
  last : d'.last = d.last
  g : d'.g = d.g
  pl : d'.ps.length ≤ d.ps.length + m.length
  yes : inside mn s a m.length → er = 0 ∧ d'.V = putL d.V (q + a.toNat) m
  no : ¬ inside mn s a m.length → er = 6 ∧ d'.V = d.V
theorem putC_c {D1 : Nat → Prop} {w : World} {bd ba f mn s : Nat} {d : DkM} (hS : DkS D1 w bd d) (hA : Blk w ba 63 (arC bd f mn s)) (na : ¬ D1 ba) (hsz : d.size = s) (hfm : f + mn ≤ d.many) (hg : calm d.g) (at_ : Int) (m : List UInt8) (hml : m.length ≤ 1000000) (hpl : d.ps.length ≤ 10000000) :
    Calls Try.prog 11 #[.pointer (some ⟨ba, 0, none⟩), .int .i64 at_, St m] w (Ret fun v w' => ∃ er d', v = .int .i64 er ∧ Kp (fun b => D1 b ∨ b = ba) w w' ∧ DkS (fun b => D1 b ∨ w.heap.size ≤ b) w' bd d' ∧ Blk w' ba 63 (arC bd f mn s) ∧ PutC d d' (f * s) mn s at_ m er) := by
  refine (put_c hS hA na hsz hfm at_ m hml hpl).mono fun e W' he => ?_
  obtain ⟨v, rfl, er, d', rfl, hk, hS', hA', hR⟩ := he.val
  refine ⟨er, d', rfl, hk, hS', hA', ⟨hR.many, hR.size, hR.last, hR.g hg, hR.pl, fun h => ?_, hR.out⟩⟩
  obtain ⟨k, hk1, hk2, hk3, hk4⟩ := hR.hin h
  have h0 : er = 0 := Classical.byContradiction fun hn => (hk4 hn).1 hg
  refine ⟨h0, ?_⟩
  rw [hk2, hk3 h0, List.take_of_length_le (Nat.le_refl _)]
theorem get2_c {D1 : Nat → Prop} {w : World} {bd ba f mn s : Nat} {d : DkM} (hS : DkS D1 w bd d) (hA : Blk w ba 63 (arC bd f mn s)) (na : ¬ D1 ba) (hsz : d.size = s) (hfm : f + mn ≤ d.many) (hg : calm d.g) (at_ n : Int) (hn : n ≤ 9223372036854775807) (hnl : ∀ m : Nat, n = (m : Int) → m ≤ 100000) :
    Calls Try.prog 14 #[.pointer (some ⟨ba, 0, none⟩), .int .i64 at_, .int .i64 n] w (Ret fun v w' => ∃ l er, v = .tuple #[St l, .int .i64 er] ∧ Kp (fun b => D1 b ∨ b = ba) w w' ∧ DkS (fun b => D1 b ∨ w.heap.size ≤ b) w' bd d ∧ Blk w' ba 63 (arC bd f mn s) ∧ (inside mn s at_ n → er = 0 ∧ l = (d.V.drop (f * s + at_.toNat)).take n.toNat) ∧ (¬ inside mn s at_ n → er = 6 ∧ l = [])) := by
  refine (get_c hS hA na hsz hfm hg at_ n hn hnl).mono fun e W' he => ?_
  obtain ⟨v, rfl, hk, hS', hA', hv⟩ := he.val
  rcases hv with ⟨h1, rfl⟩ | ⟨h1, rfl⟩
  · exact ⟨[], 6, rfl, hk, hS', hA', fun h => absurd h h1, fun _ => ⟨rfl, rfl⟩⟩
  · exact ⟨_, 0, rfl, hk, hS', hA', fun _ => ⟨rfl, rfl⟩, fun h => absurd h1 h⟩
theorem new_V (m s bl bm : Nat) : (DkM.new m s bl bm).V = List.replicate (m * s) 0 := rfl
theorem new_calm (m s bl bm : Nat) : calm (DkM.new m s bl bm).g := ⟨rfl, rfl⟩
theorem flushed_V (d : DkM) : d.flushed.V = d.V ∧ d.flushed.last = d.V := ⟨rfl, rfl⟩
theorem flushed_g {d : DkM} (h : calm d.g) : d.flushed.g = d.g := calm_cnt h
theorem putL_take {l vs : List UInt8} {q : Nat} (h : q + vs.length ≤ l.length) : (putL l q vs).take q = l.take q := by
  unfold putL
  rw [List.append_assoc, List.take_append_of_le_length (by rw [List.length_take]; omega), List.take_take, Nat.min_self]
theorem putL_drop {l vs : List UInt8} {q : Nat} (h : q + vs.length ≤ l.length) : (putL l q vs).drop (q + vs.length) = l.drop (q + vs.length) := by
  unfold putL
  rw [List.drop_append_of_le_length (by simp; omega), List.drop_eq_nil_of_le (by simp; omega), List.nil_append]
theorem putL_mid {l vs : List UInt8} {q : Nat} (h : q + vs.length ≤ l.length) : ((putL l q vs).drop q).take vs.length = vs := by
  have hq : (l.take q).length = q := by rw [List.length_take]; omega
  unfold putL
  rw [List.append_assoc, List.drop_append_of_le_length (by omega), List.drop_eq_nil_of_le (by omega), List.nil_append, List.take_left]
theorem inside_room {mn s f many : Nat} {a : Int} {n : Nat} (h : inside mn s a n) (hf : f + mn ≤ many) : f * s + a.toNat + n ≤ many * s := by
  unfold inside at h
  have h1 : ((mn * s : Nat) : Int) = (mn : Int) * (s : Int) := by push_cast; rfl
  have h2 : (f + mn) * s ≤ many * s := Nat.mul_le_mul_right _ hf
  rw [Nat.add_mul] at h2
  omega

set_option maxRecDepth 10000 in
set_option maxHeartbeats 2000000 in
theorem placed_c (w : World) : Calls Try.prog 10 #[] w (Ret fun v w' => Kp0 w w' ∧ v = .bool (true)) := by
  obtain ⟨NW, hNW⟩ : ∃ x, x = w.heap.size := ⟨_, rfl⟩
  have T : Kp0 w w := Kp.refl _ _
  refine calls_start Try.func10 rfl (n := 94) rfl rfl rfl ?_
  refine CW_seq ?_
  refine CW_reg rfl ?_
  refine OW_ev (Ev_c (.inr rfl)) rfl ?_
  refine OW_nil ?_
  refine CW_seq ?_
  refine CW_reg rfl ?_
  refine OW_st rfl (Stp_call ent_8 rfl rfl rfl (snew_ok (m := 4) (s := 64) (by unfold newOk; decide)) ?_)
  rintro _ w1 ⟨E1, bd, bl, bm, rfl, hbd, HS0⟩
  have Z1 := E1.size
  have T := T.keep0 E1
  obtain ⟨d0, hd0⟩ : ∃ x, x = DkM.new 4 64 bl bm := ⟨_, rfl⟩
  rw [← hd0] at HS0
  have em : d0.many = 4 := by rw [hd0]; rfl
  have es : d0.size = 64 := by rw [hd0]; rfl
  have ec : calm d0.g := by rw [hd0]; exact new_calm _ _ _ _
  have ep : d0.ps = [] := by rw [hd0]; rfl
  have eV : d0.V = List.replicate 256 0 := by rw [hd0]; rfl
  obtain ⟨SZ, hSZ⟩ : ∃ x, x = w1.heap.size := ⟨_, rfl⟩
  refine OW_ev (Ev_mvt (.inl rfl) rfl) rfl ?_
  refine OW_ev (Ev_extract (vs := _) rfl rfl rfl) rfl ?_
  refine OW_ev (Ev_extract (vs := _) rfl rfl rfl) rfl ?_
  refine OW_ev (Ev_mvp (.inr rfl) rfl) rfl ?_
  refine OW_ev (Ev_mvi (.inr rfl) rfl) rfl ?_
  refine OW_nil ?_
  refine CW_seq ?_
  refine CW_reg rfl ?_
  refine OW_ev (Ev_mvp (.inl rfl) rfl) rfl ?_
  have HB0 := HS0.bound
  refine OW_st rfl (Stp_call ent_9 rfl rfl rfl (anew_ok (f := 1) (m := 2) HS0 (by unfold fit; rw [em]; decide)) ?_)
  rintro _ w2 ⟨E2, ba, rfl, hba, hA⟩
  have Z2 := E2.size
  have T := T.keep0 E2
  have hS := (HB0.keep0 E2).mono (E := (fun b => NW ≤ b ∧ b ≠ ba)) (fun b h => ⟨by have := h.1; omega, by have := h.2; omega⟩)
  have hal := hA.lt
  rw [es] at hA
  refine OW_ev (Ev_mvt (.inl rfl) rfl) rfl ?_
  refine OW_ev (Ev_extract (vs := _) rfl rfl rfl) rfl ?_
  refine OW_ev (Ev_extract (vs := _) rfl rfl rfl) rfl ?_
  refine OW_ev (Ev_mvp (.inr rfl) rfl) rfl ?_
  refine OW_ev (Ev_mvi (.inr rfl) rfl) rfl ?_
  refine OW_nil ?_
  refine CW_seq ?_
  refine CW_reg rfl ?_
  refine OW_ev (Ev_mvp (.inl rfl) rfl) rfl ?_
  refine OW_st rfl (Stp_call ent_11 rfl rfl rfl (putC_c hS hA (fun h => h.2 rfl) es (by omega) ec 62 [97, 98, 99, 100] (by decide) (by rw [ep]; decide)) ?_)
  rintro _ w3 ⟨er3, d3, rfl, E3, HS2, HA2, P3⟩
  have Z3 := E3.size
  have T := T.trans' E3 (fun i hi h => by
    rcases h with h | h
    · have := h.1; omega
    · omega)
  have hS := HS2.mono (E := (fun b => NW ≤ b ∧ b ≠ ba)) (fun b h => h.elim id (fun h => ⟨by omega, by omega⟩))
  have hA := HA2
  have Z3 := E3.size
  have g1 := P3.g
  have em1 := P3.many
  have es1 := P3.size
  obtain ⟨e0, eV1⟩ := P3.yes (by unfold inside; decide)
  have eV1 : d3.V = putL (List.replicate 256 0) 126 [97, 98, 99, 100] := by rw [eV1, eV]; rfl
  subst e0
  obtain ⟨d1, rfl⟩ : ∃ x, x = d3 := ⟨_, rfl⟩
  refine OW_ev (Ev_mvi (.inr rfl) rfl) rfl ?_
  refine OW_nil ?_
  refine CW_seq ?_
  refine CW_reg rfl ?_
  refine OW_ev (Ev_mvp (.inl rfl) rfl) rfl ?_
  refine OW_st rfl (Stp_call ent_14 rfl rfl rfl (get2_c hS hA (fun h => h.2 rfl) (es1.trans es) (by omega) (by rw [g1]; exact ec) 61 6 (by decide) (fun m h => by omega)) ?_)
  rintro _ w4 ⟨l4, er4, rfl, E4, HS2, HA2, gy4, gn4⟩
  have Z4 := E4.size
  have T := T.trans' E4 (fun i hi h => by
    rcases h with h | h
    · have := h.1; omega
    · omega)
  have hS := HS2.mono (E := (fun b => NW ≤ b ∧ b ≠ ba)) (fun b h => h.elim id (fun h => ⟨by omega, by omega⟩))
  have hA := HA2
  have Z4 := E4.size
  obtain ⟨e0, eL1⟩ := gy4 (by unfold inside; decide)
  subst e0
  rw [eV1] at eL1
  have eL1 : l4 = [0, 97, 98, 99, 100, 0] := by rw [eL1]; decide +kernel
  subst eL1
  refine OW_ev (Ev_mvt (.inl rfl) rfl) rfl ?_
  refine OW_ev (Ev_extract (vs := _) rfl rfl rfl) rfl ?_
  refine OW_ev (Ev_extract (vs := _) rfl rfl rfl) rfl ?_
  refine OW_ev (Ev_mvst (.inr rfl) rfl) rfl ?_
  refine OW_ev (Ev_mvi (.inr rfl) rfl) rfl ?_
  refine OW_nil ?_
  refine CW_seq ?_
  refine CW_re [(0, .bool _), (1, .pointer _), (2, .int _ _), (3, .pointer _), (4, .int _ _), (5, .int _ _), (6, .string _), (7, .int _ _)] ⟨rfl, rfl, rfl, rfl, rfl, rfl, rfl, rfl, trivial⟩ (fun g => ?_)
  refine CW_reg rfl ?_
  refine OW_ev (Ev_mvp (.inl rfl) rfl) rfl ?_
  have hrd : d1.rd 1 = (secL 64 d1.V 1, 0, d1.g) := by unfold DkM.rd; rw [if_neg (by rw [g1]; simp [ec.1]), if_neg (by omega), es1, es, calm_cnt (by rw [g1]; exact ec)]; rfl
  have hrc := read_c hS 1
  rw [hrd] at hrc
  have hsec : secL 64 d1.V 1 = List.replicate 62 0 ++ [97, 98] := by rw [eV1]; decide +kernel
  rw [hsec] at hrc
  dsimp only at hrc
  refine OW_st rfl (Stp_call ent_25 rfl rfl rfl (hrc) ?_)
  rintro _ w5 ⟨E5, HS2, rfl⟩
  have Z5 := E5.size
  have T := T.trans' E5 (fun i hi h => by have := hS.sep.d1.1; rw [show i = bd from h] at hi; omega)
  have hA := hA.keepb E5 (fun e => by have := hS.sep.d1; exact this.2 e.symm)
  have hS := HS2
  refine OW_ev (Ev_mvt (.inl rfl) rfl) rfl ?_
  refine OW_ev (Ev_extract (vs := _) rfl rfl rfl) rfl ?_
  refine OW_ev (Ev_extract (vs := _) rfl rfl rfl) rfl ?_
  refine OW_ev (Ev_mvst (.inr rfl) rfl) rfl ?_
  refine OW_ev (Ev_mvi (.inr rfl) rfl) rfl ?_
  refine OW_nil ?_
  refine CW_seq ?_
  refine CW_reg rfl ?_
  refine OW_ev (Ev_mvp (.inl rfl) rfl) rfl ?_
  refine OW_st rfl (Stp_call ent_14 rfl rfl rfl (get2_c hS hA (fun h => h.2 rfl) (es1.trans es) (by show 1 + 2 ≤ d1.many; omega) (by show calm d1.g; rw [g1]; exact ec) 126 3 (by decide) (fun m h => by omega)) ?_)
  rintro _ w6 ⟨l6, er6, rfl, E6, HS2, HA2, gy6, gn6⟩
  have Z6 := E6.size
  have T := T.trans' E6 (fun i hi h => by
    rcases h with h | h
    · have := h.1; omega
    · omega)
  have hS := HS2.mono (E := (fun b => NW ≤ b ∧ b ≠ ba)) (fun b h => h.elim id (fun h => ⟨by omega, by omega⟩))
  have hA := HA2
  have Z6 := E6.size
  obtain ⟨e0, eL2⟩ := gn6 (by unfold inside; decide)
  subst e0; subst eL2
  refine OW_ev (Ev_mvt (.inl rfl) rfl) rfl ?_
  refine OW_ev (Ev_extract (vs := _) rfl rfl rfl) rfl ?_
  refine OW_ev (Ev_extract (vs := _) rfl rfl rfl) rfl ?_
  refine OW_ev (Ev_mvst (.inr rfl) rfl) rfl ?_
  refine OW_ev (Ev_mvi (.inr rfl) rfl) rfl ?_
  refine OW_nil ?_
  refine CW_seq ?_
  refine CW_re [(0, .bool _), (1, .pointer _), (2, .int _ _), (3, .pointer _), (4, .int _ _), (5, .int _ _), (6, .string _), (7, .int _ _), (8, .string _), (9, .int _ _), (11, .int _ _)] ⟨rfl, rfl, rfl, rfl, rfl, rfl, rfl, rfl, rfl, rfl, rfl, trivial⟩ (fun g => ?_)
  refine CW_reg rfl ?_
  refine OW_ev (Ev_mvp (.inl rfl) rfl) rfl ?_
  refine OW_st rfl (Stp_call ent_9 rfl rfl rfl (anew_bad hS (by unfold fit; show ¬ ((1 : Int) ≤ 2 ∧ (2 : Int) ≤ (d1.many : Int) ∧ (0 : Int) ≤ 3 ∧ (3 : Int) + 2 ≤ (d1.many : Int)); omega)) ?_)
  rintro _ w7 ⟨E7, rfl⟩
  have Z7 := E7.size
  have T := T.keep0 E7
  have hS := hS.keep0 E7
  have hA := hA.keep0 E7
  refine OW_ev (Ev_mvt (.inl rfl) rfl) rfl ?_
  refine OW_ev (Ev_extract (vs := _) rfl rfl rfl) rfl ?_
  refine OW_ev (Ev_extract (vs := _) rfl rfl rfl) rfl ?_
  refine OW_ev (Ev_mvp (.inr rfl) rfl) rfl ?_
  refine OW_ev (Ev_mvi (.inr rfl) rfl) rfl ?_
  refine OW_nil ?_
  refine CW_seq ?_
  refine CW_re [(0, .bool _), (2, .int _ _), (3, .pointer _), (4, .int _ _), (5, .int _ _), (6, .string _), (7, .int _ _), (8, .string _), (9, .int _ _), (11, .int _ _), (13, .int _ _)] ⟨rfl, rfl, rfl, rfl, rfl, rfl, rfl, rfl, rfl, rfl, rfl, trivial⟩ (fun g => ?_)
  refine CW_reg rfl ?_
  refine OW_ev (Ev_mvi (.inl rfl) rfl) rfl ?_
  refine OW_ev (Ev_eql rfl rfl rfl) rfl ?_
  refine OW_ev (Ev_mvb (.inl rfl) rfl) rfl ?_
  refine OW_split (d := .tmp 47) rfl (fun c8 => ?_) (fun c8 => ?_)
  · have d8 := c8
    first | (with_reducible replace d8 := of_decide_eq_true d8) | (with_reducible replace d8 := bnt d8; try (with_reducible replace d8 := of_decide_eq_false d8)) | skip
    refine OW_yes rfl rfl rfl rfl c8 (Ev.stp (Ev_mvi (.inl rfl) rfl) ?_)
    refine OW_yes rfl rfl rfl rfl c8 (Ev.stp (Ev_mvi (.inl rfl) rfl) ?_)
    refine OW_yes rfl rfl rfl rfl c8 (Ev.stp (Ev_eql rfl rfl rfl) ?_)
    refine OW_ev (Ev_pickb_t rfl rfl c8 rfl) rfl ?_
    refine OW_ev (Ev_mvb (.inl rfl) rfl) rfl ?_
    refine OW_split (d := .tmp 52) rfl (fun c9 => ?_) (fun c9 => ?_)
    · have d9 := c9
      first | (with_reducible replace d9 := of_decide_eq_true d9) | (with_reducible replace d9 := bnt d9; try (with_reducible replace d9 := of_decide_eq_false d9)) | skip
      refine OW_yes rfl rfl rfl rfl c9 (Ev.stp (Ev_mvi (.inl rfl) rfl) ?_)
      refine OW_yes rfl rfl rfl rfl c9 (Ev.stp (Ev_mvi (.inl rfl) rfl) ?_)
      refine OW_yes rfl rfl rfl rfl c9 (Ev.stp (Ev_eql rfl rfl rfl) ?_)
      refine OW_ev (Ev_pickb_t rfl rfl c9 rfl) rfl ?_
      refine OW_ev (Ev_mvb (.inl rfl) rfl) rfl ?_
      refine OW_split (d := .tmp 57) rfl (fun c10 => ?_) (fun c10 => ?_)
      · have d10 := c10
        first | (with_reducible replace d10 := of_decide_eq_true d10) | (with_reducible replace d10 := bnt d10; try (with_reducible replace d10 := of_decide_eq_false d10)) | skip
        refine OW_yes rfl rfl rfl rfl c10 (Ev.stp (Ev_mvi (.inl rfl) rfl) ?_)
        refine OW_yes rfl rfl rfl rfl c10 (Ev.stp (Ev_mvi (.inl rfl) rfl) ?_)
        refine OW_yes rfl rfl rfl rfl c10 (Ev.stp (Ev_eql rfl rfl rfl) ?_)
        refine OW_ev (Ev_pickb_t rfl rfl c10 rfl) rfl ?_
        refine OW_ev (Ev_mvb (.inl rfl) rfl) rfl ?_
        refine OW_split (d := .tmp 62) rfl (fun c11 => ?_) (fun c11 => ?_)
        · have d11 := c11
          first | (with_reducible replace d11 := of_decide_eq_true d11) | (with_reducible replace d11 := bnt d11; try (with_reducible replace d11 := of_decide_eq_false d11)) | skip
          refine OW_yes rfl rfl rfl rfl c11 (Ev.stp (Ev_mvst (.inl rfl) rfl) ?_)
          refine OW_yes rfl rfl rfl rfl c11 (Ev.stp (Ev_strEql rfl rfl rfl) ?_)
          refine OW_ev (Ev_pickb_t rfl rfl c11 rfl) rfl ?_
          refine OW_ev (Ev_mvb (.inl rfl) rfl) rfl ?_
          refine OW_split (d := .tmp 66) rfl (fun c12 => ?_) (fun c12 => ?_)
          · have d12 := c12
            first | (with_reducible replace d12 := of_decide_eq_true d12) | (with_reducible replace d12 := bnt d12; try (with_reducible replace d12 := of_decide_eq_false d12)) | skip
            refine OW_yes rfl rfl rfl rfl c12 (Ev.stp (Ev_mvi (.inl rfl) rfl) ?_)
            refine OW_yes rfl rfl rfl rfl c12 (Ev.stp (Ev_mvi (.inl rfl) rfl) ?_)
            refine OW_yes rfl rfl rfl rfl c12 (Ev.stp (Ev_eql rfl rfl rfl) ?_)
            refine OW_ev (Ev_pickb_t rfl rfl c12 rfl) rfl ?_
            refine OW_ev (Ev_mvb (.inl rfl) rfl) rfl ?_
            refine OW_split (d := .tmp 71) rfl (fun c13 => ?_) (fun c13 => ?_)
            · have d13 := c13
              first | (with_reducible replace d13 := of_decide_eq_true d13) | (with_reducible replace d13 := bnt d13; try (with_reducible replace d13 := of_decide_eq_false d13)) | skip
              refine OW_yes rfl rfl rfl rfl c13 (Ev.stp (Ev_mvst (.inl rfl) rfl) ?_)
              refine OW_yes rfl rfl rfl rfl c13 (Ev.stp (Ev_lenSt und_9 rfl rfl) ?_)
              refine OW_yes rfl rfl rfl rfl c13 (Ev.stp (Ev_eql rfl rfl rfl) ?_)
              refine OW_ev (Ev_pickb_t rfl rfl c13 rfl) rfl ?_
              refine OW_ev (Ev_mvb (.inl rfl) rfl) rfl ?_
              refine OW_split (d := .tmp 76) rfl (fun c14 => ?_) (fun c14 => ?_)
              · have d14 := c14
                first | (with_reducible replace d14 := of_decide_eq_true d14) | (with_reducible replace d14 := bnt d14; try (with_reducible replace d14 := of_decide_eq_false d14)) | skip
                refine OW_yes rfl rfl rfl rfl c14 (Ev.stp (Ev_mvst (.inl rfl) rfl) ?_)
                refine OW_yes rfl rfl rfl rfl c14 (Ev.stp (Ev_strL 62 und_9 rfl rfl rfl rfl (by decide)) ?_)
                refine OW_yes rfl rfl rfl rfl c14 (Ev.stp (Ev_strEql rfl rfl rfl) ?_)
                refine OW_ev (Ev_pickb_t rfl rfl c14 rfl) rfl ?_
                refine OW_ev (Ev_mvb (.inl rfl) rfl) rfl ?_
                refine OW_split (d := .tmp 81) rfl (fun c15 => ?_) (fun c15 => ?_)
                · have d15 := c15
                  first | (with_reducible replace d15 := of_decide_eq_true d15) | (with_reducible replace d15 := bnt d15; try (with_reducible replace d15 := of_decide_eq_false d15)) | skip
                  refine OW_yes rfl rfl rfl rfl c15 (Ev.stp (Ev_mvi (.inl rfl) rfl) ?_)
                  refine OW_yes rfl rfl rfl rfl c15 (Ev.stp (Ev_eql rfl rfl rfl) ?_)
                  refine OW_ev (Ev_pickb_t rfl rfl c15 rfl) rfl ?_
                  refine OW_ev (Ev_mvb (.inl rfl) rfl) rfl ?_
                  refine OW_split (d := .tmp 85) rfl (fun c16 => ?_) (fun c16 => ?_)
                  · have d16 := c16
                    first | (with_reducible replace d16 := of_decide_eq_true d16) | (with_reducible replace d16 := bnt d16; try (with_reducible replace d16 := of_decide_eq_false d16)) | skip
                    refine OW_yes rfl rfl rfl rfl c16 (Ev.stp (Ev_mvi (.inl rfl) rfl) ?_)
                    refine OW_yes rfl rfl rfl rfl c16 (Ev.stp (Ev_eql rfl rfl rfl) ?_)
                    refine OW_ev (Ev_pickb_t rfl rfl c16 rfl) rfl ?_
                    refine OW_ev (Ev_mvb (.inl rfl) rfl) rfl ?_
                    refine OW_split (d := .tmp 89) rfl (fun c17 => ?_) (fun c17 => ?_)
                    · have d17 := c17
                      first | (with_reducible replace d17 := of_decide_eq_true d17) | (with_reducible replace d17 := bnt d17; try (with_reducible replace d17 := of_decide_eq_false d17)) | skip
                      refine OW_yes rfl rfl rfl rfl c17 (Ev.stp (Ev_mvp (.inl rfl) rfl) ?_)
                      refine OW_yes rfl rfl rfl rfl c17 (Stp_call ent_15 rfl rfl rfl (alen_c hA (by omega) (by omega)) ?_)
                      rintro _ w18 ⟨E18, rfl⟩
                      have Z18 := E18.size
                      have T := T.keep0 E18
                      have hS := hS.keep0 E18
                      have hA := hA.keep0 E18
                      refine OW_yes rfl rfl rfl rfl c17 (Ev.stp (Ev_eql rfl rfl rfl) ?_)
                      refine OW_ev (Ev_pickb_t rfl rfl c17 rfl) rfl ?_
                      refine OW_ev (Ev_mvb (.inr rfl) rfl) rfl ?_
                      refine OW_nil ?_
                      refine CW_ret ?_
                      refine ⟨rfl, _, (.tmp rfl .nil), ?_⟩
                      exact ⟨T, rfl⟩
                    · have d17 := c17
                      first | (with_reducible replace d17 := of_decide_eq_false d17) | (with_reducible replace d17 := bnf d17; try (with_reducible replace d17 := of_decide_eq_true d17)) | skip
                      exact absurd rfl d17
                  · have d16 := c16
                    first | (with_reducible replace d16 := of_decide_eq_false d16) | (with_reducible replace d16 := bnf d16; try (with_reducible replace d16 := of_decide_eq_true d16)) | skip
                    exact absurd rfl d16
                · have d15 := c15
                  first | (with_reducible replace d15 := of_decide_eq_false d15) | (with_reducible replace d15 := bnf d15; try (with_reducible replace d15 := of_decide_eq_true d15)) | skip
                  exact absurd (by decide +kernel) d15
              · have d14 := c14
                first | (with_reducible replace d14 := of_decide_eq_false d14) | (with_reducible replace d14 := bnf d14; try (with_reducible replace d14 := of_decide_eq_true d14)) | skip
                exact absurd (by decide +kernel) d14
            · have d13 := c13
              first | (with_reducible replace d13 := of_decide_eq_false d13) | (with_reducible replace d13 := bnf d13; try (with_reducible replace d13 := of_decide_eq_true d13)) | skip
              exact absurd rfl d13
          · have d12 := c12
            first | (with_reducible replace d12 := of_decide_eq_false d12) | (with_reducible replace d12 := bnf d12; try (with_reducible replace d12 := of_decide_eq_true d12)) | skip
            exact absurd rfl d12
        · have d11 := c11
          first | (with_reducible replace d11 := of_decide_eq_false d11) | (with_reducible replace d11 := bnf d11; try (with_reducible replace d11 := of_decide_eq_true d11)) | skip
          exact absurd rfl d11
      · have d10 := c10
        first | (with_reducible replace d10 := of_decide_eq_false d10) | (with_reducible replace d10 := bnf d10; try (with_reducible replace d10 := of_decide_eq_true d10)) | skip
        exact absurd rfl d10
    · have d9 := c9
      first | (with_reducible replace d9 := of_decide_eq_false d9) | (with_reducible replace d9 := bnf d9; try (with_reducible replace d9 := of_decide_eq_true d9)) | skip
      exact absurd rfl d9
  · have d8 := c8
    first | (with_reducible replace d8 := of_decide_eq_false d8) | (with_reducible replace d8 := bnf d8; try (with_reducible replace d8 := of_decide_eq_true d8)) | skip
    exact absurd rfl d8

end Go.Proofs.Ythfelkjklnhdiaa