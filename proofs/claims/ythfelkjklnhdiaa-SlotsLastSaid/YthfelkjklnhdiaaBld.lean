/- Contracts of strings.Builder. -/
import Derived.Test.YthfelkjklnhdiaaTypes
import Derived.Test.YthfelkjklnhdiaaOps4
namespace Go.Proofs.Ythfelkjklnhdiaa
open Go Go.RowKit Bx Go.Proofs

theorem ownB_ne {base e t b : Nat} {w : World} {v : Value} {l : List UInt8} {L : List Value} (hO : OwnB base w e v l) (hB : Blk w b t L) (hne : Nat.beq e t = false) : ∀ x, v.ownBlock = some x → x ≠ b := by
  rintro x hx rfl
  rcases hO.2 with ⟨rfl, _⟩ | ⟨g, cap, cur, rfl, hg, hb, _⟩
  · cases hx
  · injection hx with hx
    have hx : g = x := hx
    subst hx
    unfold Blk at hB
    rw [hb] at hB
    injection hB with hB
    injection hB with h1 h2
    subst h2
    rw [Nat.beq_refl] at hne
    cases hne
def BP (p : Value) (b : Nat) : Prop := p = .pointer none ∨ p = .pointer (some ⟨b, 0, none⟩)
theorem lies_bld : liesAt Try.prog Try.prog.depth 75 (2 / Try.prog.cellsOf 75) 0 75 1 = true := by kernel_rfl
theorem info_bld : (Try.prog.info? 75).isSome = true := by kernel_rfl
theorem cells_u8 : Try.prog.cellsOf 5 = 1 := by kernel_rfl

set_option maxRecDepth 10000 in
set_option maxHeartbeats 2000000 in
theorem ccheck_fresh {w : World} {b : Nat} {v : Value} (hb : Blk w b 75 [.pointer none, v]) : Calls Try.prog 45 #[.pointer (some ⟨b, 0, none⟩)] w (Ret fun r w' => r = .tuple #[] ∧ Kp (fun x => x = b) w w' ∧ w'.heap.size = w.heap.size ∧ Blk w' b 75 [.pointer (some ⟨b, 0, none⟩), v]) := by
  have T : Kp (fun x => x = b) w w := Kp.refl _ _
  refine calls_start Try.func45 rfl (n := 20) rfl rfl rfl ?_
  refine CW_seq ?_
  refine CW_reg rfl ?_
  refine OW_ev (Ev_mvp (.inl rfl) rfl) rfl ?_
  refine OW_ev (Ev_nilCheck rfl rfl) rfl ?_
  refine OW_ev (Ev_fieldAddr fld_75_0 rfl rfl) rfl ?_
  refine OW_ev (Ev_load one_73 rfl rfl (hb.ld (q := 0) rfl)) rfl ?_
  refine OW_ev (Ev_ptrNil und_73 rfl rfl) rfl ?_
  refine OW_nil ?_
  refine CW_cond_t rfl rfl ?_
  refine CW_reg rfl ?_
  refine OW_ev (Ev_mvp (.inl rfl) rfl) rfl ?_
  refine OW_ev (Ev_mvp (.inl rfl) rfl) rfl ?_
  refine OW_ev (Ev_toUnsafe hb und_73 Try.underlying107 (d := 1) siz_75 (by simp) rfl rfl) rfl ?_
  refine OW_ev (Ev_extern (k := 51) (fn := _) rfl (by decide) rfl (by kernel_rfl) (e := Extern.AbiNoEscape.same) (by kernel_rfl) rfl rfl rfl rfl) rfl ?_
  refine OW_ev (Ev_fromUnsafe (cells := 2) hb rfl Try.underlying107 und_73 info_bld lies_bld rfl rfl) rfl ?_
  refine OW_ev (Ev_nilCheck rfl rfl) rfl ?_
  refine OW_ev (Ev_fieldAddr fld_75_0 rfl rfl) rfl ?_
  refine OW_st rfl (Stp_store (q := 0) hb siz_73 rfl rfl rfl rfl (Nat.le_of_ble_eq_true rfl) rfl ?_)
  intro w1 hz1 E1 B1
  have Z1 := E1.size
  have T := T.trans' E1 (fun i _ h => h)
  clear hb
  have hb := B1
  clear B1
  have hb : Blk w1 b 75 [.pointer (some ⟨b, 0, none⟩), v] := hb
  have hzz := hz1
  refine OW_nil ?_
  refine ⟨_, .nil, ?_⟩
  exact ⟨rfl, T, by omega, hb⟩

set_option maxRecDepth 10000 in
set_option maxHeartbeats 2000000 in
theorem ccheck_used {w : World} {b : Nat} {v : Value} (hb : Blk w b 75 [.pointer (some ⟨b, 0, none⟩), v]) : Calls Try.prog 45 #[.pointer (some ⟨b, 0, none⟩)] w (Ret fun r w' => r = .tuple #[] ∧ Kp (fun x => x = b) w w' ∧ w'.heap.size = w.heap.size ∧ Blk w' b 75 [.pointer (some ⟨b, 0, none⟩), v]) := by
  have T : Kp (fun x => x = b) w w := Kp.refl _ _
  refine calls_start Try.func45 rfl (n := 20) rfl rfl rfl ?_
  refine CW_seq ?_
  refine CW_reg rfl ?_
  refine OW_ev (Ev_mvp (.inl rfl) rfl) rfl ?_
  refine OW_ev (Ev_nilCheck rfl rfl) rfl ?_
  refine OW_ev (Ev_fieldAddr fld_75_0 rfl rfl) rfl ?_
  refine OW_ev (Ev_load one_73 rfl rfl (hb.ld (q := 0) rfl)) rfl ?_
  refine OW_ev (Ev_ptrNil und_73 rfl rfl) rfl ?_
  refine OW_nil ?_
  refine CW_cond_f rfl rfl ?_
  refine CW_seq ?_
  refine CW_reg rfl ?_
  refine OW_ev (Ev_mvp (.inl rfl) rfl) rfl ?_
  refine OW_ev (Ev_nilCheck rfl rfl) rfl ?_
  refine OW_ev (Ev_fieldAddr fld_75_0 rfl rfl) rfl ?_
  refine OW_ev (Ev_load one_73 rfl rfl (hb.ld (q := 0) rfl)) rfl ?_
  refine OW_ev (Ev_mvp (.inl rfl) rfl) rfl ?_
  refine OW_ev (Ev_ptrNeSame und_73 info_bld rfl rfl rfl) rfl ?_
  refine OW_nil ?_
  refine CW_cond_f rfl rfl ?_
  refine CW_skip ?_
  refine ⟨_, .nil, ?_⟩
  exact ⟨rfl, T, by omega, hb⟩

theorem ccheck_c {w : World} {b : Nat} {p v : Value} (hp : BP p b) (hb : Blk w b 75 [p, v]) : Calls Try.prog 45 #[.pointer (some ⟨b, 0, none⟩)] w (Ret fun r w' => r = .tuple #[] ∧ Kp (fun x => x = b) w w' ∧ w'.heap.size = w.heap.size ∧ Blk w' b 75 [.pointer (some ⟨b, 0, none⟩), v]) := by
  rcases hp with rfl | rfl
  · exact ccheck_fresh hb
  · exact ccheck_used hb

set_option maxRecDepth 10000 in
set_option maxHeartbeats 2000000 in
theorem wrstr_c {w : World} {base b : Nat} {p v : Value} {l m : List UInt8} (hp : BP p b) (hb : Blk w b 75 [p, v]) (hO : OwnB base w 5 v l) (hbase : base ≤ w.heap.size) (hl : l.length + m.length ≤ 100000000) : Calls Try.prog 32 #[.pointer (some ⟨b, 0, none⟩), St m] w (Ret fun r w' => ∃ v', r = .tuple #[.int .i64 (m.length : Int), .nilIface] ∧ Kp (fun x => x = b ∨ (v.ownBlock = some x ∧ base ≤ x)) w w' ∧ Blk w' b 75 [.pointer (some ⟨b, 0, none⟩), v'] ∧ OwnB base w' 5 v' (l ++ m) ∧ ∀ x, v'.ownBlock = some x → v.ownBlock = some x ∨ w.heap.size ≤ x) := by
  have hne := ownB_ne hO hb rfl
  obtain ⟨a1, c1, hv1, -, -, -, -⟩ := hO.sl
  have T : Kp (fun x => x = b ∨ (v.ownBlock = some x ∧ base ≤ x)) w w := Kp.refl _ _
  refine calls_start Try.func32 rfl (n := 19) rfl rfl rfl ?_
  refine CW_seq ?_
  refine CW_reg rfl ?_
  refine OW_ev (Ev_c (.inr rfl)) rfl ?_
  refine OW_ev (Ev_c (.inr rfl)) rfl ?_
  refine OW_nil ?_
  refine CW_seq ?_
  refine CW_reg rfl ?_
  refine OW_ev (Ev_mvp (.inl rfl) rfl) rfl ?_
  refine OW_st rfl (Stp_call ent_45 rfl rfl rfl (ccheck_c hp hb) ?_)
  rintro _ w1 ⟨rfl, E1, hz1, HB1⟩
  have Z1 := E1.size
  have hO := hO.keepb E1 (fun x _ hx => hne x hx)
  have T := T.trans' E1 (fun i _ h => .inl h)
  have hb := HB1
  refine OW_nil ?_
  refine CW_seq ?_
  refine CW_reg rfl ?_
  refine OW_ev (Ev_mvp (.inl rfl) rfl) rfl ?_
  refine OW_ev (Ev_mvp (.inl rfl) rfl) rfl ?_
  refine OW_ev (Ev_nilCheck rfl rfl) rfl ?_
  refine OW_ev (Ev_fieldAddr fld_75_1 rfl rfl) rfl ?_
  refine OW_ev (Ev_load one_38 rfl rfl (hb.ld (q := 1) rfl)) rfl ?_
  refine OW_ev (Ev_mvst (.inl rfl) rfl) rfl ?_
  refine OW_st rfl (Stp_appendSt hO el_38 zv_5 und_9 rfl rfl rfl (by simp only [maxLen]; omega) (by omega) (by omega) ?_)
  intro v2 w2 O2 E2 X2
  have Z2 := E2.size
  have T := T.trans' E2 (fun i _ h => .inr h)
  have hb := hb.keepo E2 (fun x hx _ he => absurd hx (hne x he))
  have O2 := O2
  have hX2 := X2
  have hne2 := ownB_ne O2 hb rfl
  obtain ⟨a2, c2, hv2, -, -, -, -⟩ := O2.sl
  subst hv2
  refine OW_ev (Ev_nilCheck rfl rfl) rfl ?_
  refine OW_ev (Ev_fieldAddr fld_75_1 rfl rfl) rfl ?_
  refine OW_st rfl (Stp_store (q := 1) hb siz_38 rfl rfl rfl rfl (Nat.le_of_ble_eq_true rfl) rfl ?_)
  intro w3 hz3 E3 B3
  have Z3 := E3.size
  have T := T.trans' E3 (fun i _ h => .inl h)
  have O2 := O2.keepb E3 (fun x _ hx => hne2 x hx)
  clear hb
  have hb := B3
  clear B3
  have hb : Blk w3 b 75 [.pointer (some ⟨b, 0, none⟩), _] := hb
  refine OW_nil ?_
  refine CW_seq ?_
  refine CW_reg rfl ?_
  refine OW_ev (Ev_mvst (.inl rfl) rfl) rfl ?_
  refine OW_ev (Ev_lenSt und_9 rfl rfl) rfl ?_
  refine OW_ev (Ev_mvi (.inr rfl) rfl) rfl ?_
  refine OW_ev (Ev_c (.inr rfl)) rfl ?_
  refine OW_nil ?_
  refine CW_ret ?_
  refine ⟨rfl, _, (.tmp rfl (.tmp rfl .nil)), ?_⟩
  exact ⟨_, rfl, T, hb, O2, fun x hx => (hX2 x hx).imp id (fun h => by omega)⟩

set_option maxRecDepth 10000 in
set_option maxHeartbeats 2000000 in
theorem bstr_c {w : World} {base b : Nat} {p v : Value} {l : List UInt8} (hb : Blk w b 75 [p, v]) (hO : OwnB base w 5 v l) : Calls Try.prog 33 #[.pointer (some ⟨b, 0, none⟩)] w (Ret fun r w' => r = .string ⟨l.toArray⟩ ∧ Kp (fun x => v.ownBlock = some x) w w') := by
  have hne := ownB_ne hO hb rfl
  obtain ⟨a1, c1, hv1, -, -, -, -⟩ := hO.sl
  subst hv1
  have T : Kp (fun x => (Value.slice a1 l.length c1).ownBlock = some x) w w := Kp.refl _ _
  refine calls_start Try.func33 rfl (n := 14) rfl rfl rfl ?_
  refine CW_seq ?_
  refine CW_reg rfl ?_
  refine OW_ev (Ev_c (.inr rfl)) rfl ?_
  refine OW_nil ?_
  refine CW_seq ?_
  refine CW_draw (fun W => hb.here W) mixed rfl (fun _ _ _ h => nomatch h.1) ?_
  have E1 : Kp0 _ _ := Kp.drew w nob
  have Z1 : (World.drew w).heap.size = w.heap.size := rfl
  generalize World.drew w = w1 at E1 Z1 ⊢
  have hb := hb.keep0 E1
  have hO := hO.keep0 E1
  have T := T.keep0 E1
  refine AW_take 0 rfl rfl (by decide +kernel) (by decide +kernel) (by decide +kernel) (fun w hb => Ev_mvp (.inl rfl) rfl) hb ?_
  refine AW_take 1 rfl rfl (by decide +kernel) (by decide +kernel) (by decide +kernel) (fun w hb => Ev_nilCheck rfl rfl) hb ?_
  refine AW_take 2 rfl rfl (by decide +kernel) (by decide +kernel) (by decide +kernel) (fun w hb => Ev_fieldAddr fld_75_1 rfl rfl) hb ?_
  refine AW_take 3 rfl rfl (by decide +kernel) (by decide +kernel) (by decide +kernel) (fun w hb => Ev_load one_38 rfl rfl (hb.ld (q := 1) rfl)) hb ?_
  refine AW_take 5 rfl rfl (by decide +kernel) (by decide +kernel) (by decide +kernel) (fun w hb => Ev_mvp (.inl rfl) rfl) hb ?_
  refine AW_take 6 rfl rfl (by decide +kernel) (by decide +kernel) (by decide +kernel) (fun w hb => Ev_nilCheck rfl rfl) hb ?_
  refine AW_take 7 rfl rfl (by decide +kernel) (by decide +kernel) (by decide +kernel) (fun w hb => Ev_fieldAddr fld_75_1 rfl rfl) hb ?_
  refine AW_take 8 rfl rfl (by decide +kernel) (by decide +kernel) (by decide +kernel) (fun w hb => Ev_load one_38 rfl rfl (hb.ld (q := 1) rfl)) hb ?_
  refine AW_take 9 rfl rfl (by decide +kernel) (by decide +kernel) (by decide +kernel) (fun w hb => Ev_len und_38 rfl rfl) hb ?_
  refine AW_one 4 (by decide +kernel) (Next.mk rfl rfl ?_)
  refine Stp_sliceData hO (pt := 5) (by kernel_rfl) rfl rfl ?_
  intro p2 w2 E2 hpb
  have hb := hb.keep0 E2
  have hO := hO.keep0 E2
  have T := T.keep0 E2
  have Z2 := E2.size
  refine ⟨hb, ?_⟩
  refine AW_one 10 (by decide +kernel) (Next.mk rfl rfl ?_)
  refine Stp_unsafeStr hO (by kernel_rfl) cells_u8 rfl hpb rfl rfl rfl ?_
  intro w3 hz3 E3
  have hb := hb.keep E3 (fun h => hne b h rfl)
  have T := T.trans' E3 (fun i _ h => h)
  refine ⟨hb, ?_⟩
  refine AW_take 11 rfl rfl (by decide +kernel) (by decide +kernel) (by decide +kernel) (fun w hb => Ev_mvst (.inr rfl) rfl) hb ?_
  refine AW_done (by decide +kernel) ?_
  refine CW_ret ?_
  refine ⟨rfl, _, (.tmp rfl .nil), ?_⟩
  exact ⟨rfl, T⟩

end Go.Proofs.Ythfelkjklnhdiaa