/- Contracts of Flush and Crash of package sector. -/
import Derived.Test.YthfelkjklnhdiaaDisk4
import Derived.Test.YthfelkjklnhdiaaIntRow
namespace Go.Proofs.Ythfelkjklnhdiaa
open Go Go.RowKit Bx Go.Proofs

theorem _root_.Bx.PsOk.take {m s : Nat} {ps : List Pnd} (h : PsOk m s ps) (k : Nat) : PsOk m s (ps.take k) := fun p hp => h p (List.mem_of_mem_take hp)
theorem sep_last {D : Nat → Prop} {bd : Nat} {d : DkM} (hs : d.Sep D bd) (l : List UInt8) : ({ d with last := l } : DkM).Sep D bd := ⟨hs.d1, hs.d2, hs.d3, hs.n1, hs.n2, hs.n3, hs.pv, hs.wv, hs.bx, hs.e0⟩
theorem ok_last {d : DkM} (h : d.Ok) {l : List UInt8} (hl : l.length = d.many * d.size) : ({ d with last := l } : DkM).Ok := ⟨h.many, h.size, hl, h.ps, h.g⟩
theorem take_p {ps : List Pnd} {k : Nat} {p : Pnd} (h : ps[k]? = some p) : ps.take (k + 1) = ps.take k ++ [p] := by rw [List.take_add_one, h]; rfl
def DkM.flushed (d : DkM) : DkM := { d with last := d.V, ps := [], pa := none, pc := 0, wa := none, wc := 0, g := d.g.cnt }
/-- The place of the last true one of the first k. -/
def lastTrue (ks : List Bool) : Nat → Int
  | 0 => -1
  | k + 1 => if ks[k]? = some true then (k : Int) else lastTrue ks k
/-- What lasts of a pending write: how many bytes. -/
def DkM.most (d : DkM) (ks : List Bool) (torn : Int) (i : Nat) : Nat := if (i : Int) = lastTrue ks ks.length ∧ 0 ≤ torn ∧ torn < (d.size : Int) then torn.toNat else d.size
def DkM.crashUp (d : DkM) (ks : List Bool) (torn : Int) : Nat → List UInt8
  | 0 => d.last
  | i + 1 => match d.ps[i]?, ks[i]? with
    | some p, some true => putL (d.crashUp ks torn i) (p.a * d.size) (p.b.take (d.most ks torn i))
    | _, _ => d.crashUp ks torn i
def DkM.kept (d : DkM) (keep : List Bool) : List Bool := keep.take (min keep.length d.ps.length)
def DkM.crashed (d : DkM) (keep : List Bool) (torn : Int) : DkM := { d with last := d.crashUp (d.kept keep) torn (d.kept keep).length, ps := [], pa := none, pc := 0, wa := none, wc := 0, g := ⟨false, false, 0⟩ }
theorem crashUp_len {d : DkM} (h : d.Ok) (ks : List Bool) (torn : Int) : ∀ k, (d.crashUp ks torn k).length = d.many * d.size
  | 0 => h.last
  | k + 1 => by
    have ih := crashUp_len h ks torn k
    unfold DkM.crashUp
    split
    · rename_i p hp _
      have := h.ps p (List.mem_of_getElem? hp)
      have hr := mul_room (size := d.size) this.1
      rw [putL_length (by rw [List.length_take, this.2]; omega)]; exact ih
    · exact ih
def B1 (b : Bool) : List Value := [.bool b]

set_option maxRecDepth 10000 in
set_option maxHeartbeats 2000000 in
theorem flush_c {D : Nat → Prop} {w : World} {bd : Nat} {d : DkM} (hS : DkS D w bd d) (hpn : d.ps.length ≤ 100000000) : Calls Try.prog 17 #[.pointer (some ⟨bd, 0, none⟩)] w (Ret fun v w' => v = .int .i64 (if d.g.down = true then 9 else 0) ∧ Kp D w w' ∧ DkS D w' bd (if d.g.down = true then d else d.flushed)) := by
  have hS := hS.bound
  obtain ⟨NW, hNW⟩ : ∃ x, x = w.heap.size := ⟨_, rfl⟩
  rw [← hNW] at hS
  have hs := hS.sep
  have hok := hS.ok
  obtain ⟨kd, kl, mp, pv, wv, bx, -, -⟩ := hS
  have hm := hok.many
  have hz := hok.size
  have hg := hok.g
  have kd : Blk w bd 59 [.int .i64 (d.many : Int), .int .i64 (d.size : Int), .slice (some ⟨d.bl, 0, none⟩) (d.many * d.size) (d.many * d.size), .slice d.pa d.ps.length d.pc, .slice d.wa d.ps.length d.wc, .map (some d.bm), .bool d.g.down, .bool d.g.breaks, .int .i64 d.g.left] := kd
  have hbig : d.many * d.size ≤ 4096 * 1024 := Nat.mul_le_mul hm.2 hz.2
  have T : Kp D w w := Kp.refl _ _
  refine calls_start Try.func17 rfl (n := 41) rfl rfl rfl ?_
  refine CW_seq ?_
  refine CW_reg rfl ?_
  refine OW_ev (Ev_c (.inr rfl)) rfl ?_
  refine OW_nil ?_
  refine CW_seq ?_
  refine CW_seq ?_
  refine CW_reg rfl ?_
  refine OW_ev (Ev_mvp (.inl rfl) rfl) rfl ?_
  refine OW_ev (Ev_ptrNil und_22 rfl rfl) rfl ?_
  refine OW_nil ?_
  refine CW_cond_f rfl rfl ?_
  refine CW_skip ?_
  refine CW_seq ?_
  refine CW_seq ?_
  refine CW_reg rfl ?_
  refine OW_ev (Ev_mvp (.inl rfl) rfl) rfl ?_
  refine OW_ev (Ev_nilCheck rfl rfl) rfl ?_
  refine OW_ev (Ev_fieldAddr fld_59_6 rfl rfl) rfl ?_
  refine OW_ev (Ev_load one_4 rfl rfl (kd.ld (q := 6) rfl)) rfl ?_
  refine OW_nil ?_
  refine CW_cond rfl (fun c1 => ?_) (fun c1 => ?_)
  · have d1 := c1
    first | (with_reducible replace d1 := of_decide_eq_true d1) | (with_reducible replace d1 := bnt d1; try (with_reducible replace d1 := of_decide_eq_false d1)) | skip
    have hd : d.g.down = true := c1
    refine CW_seq ?_
    refine CW_reg rfl ?_
    refine OW_ev (Ev_c (.inr rfl)) rfl ?_
    refine OW_nil ?_
    refine CW_ret ?_
    refine ⟨rfl, _, (.tmp rfl .nil), ?_⟩
    rw [if_pos hd, if_pos hd]
    exact ⟨rfl, T, (⟨kd, kl, mp, pv, wv, bx, hs, hok⟩ : DkS (fun b => D b ∧ b < NW) _ bd d).mono fun b h => h.1⟩
  · have d1 := c1
    first | (with_reducible replace d1 := of_decide_eq_false d1) | (with_reducible replace d1 := bnf d1; try (with_reducible replace d1 := of_decide_eq_true d1)) | skip
    have hd : d.g.down = false := c1
    refine CW_skip ?_
    refine CW_seq ?_
    refine CW_seq ?_
    refine CW_reg rfl ?_
    refine OW_ev (Ev_mvp (.inl rfl) rfl) rfl ?_
    refine OW_ev (Ev_nilCheck rfl rfl) rfl ?_
    refine OW_ev (Ev_fieldAddr fld_59_3 rfl rfl) rfl ?_
    refine OW_ev (Ev_load one_56 rfl rfl (kd.ld (q := 3) rfl)) rfl ?_
    refine OW_ev (Ev_len und_56 rfl rfl) rfl ?_
    refine OW_ev (Ev_c (.inl rfl)) rfl ?_
    refine OW_nil ?_
    refine CW_block ?_
    refine CW_loop (α := Nat) (fun (k : Nat) f wr => AllEq f [(0, .pointer (some ⟨bd, 0, none⟩)), (14, .slice d.pa d.ps.length d.pc), (15, .int .i64 (d.ps.length : Int)), (16, .int .i64 (k : Int))] ∧ (k ≤ d.ps.length) ∧ (Blk wr bd 59 [.int .i64 (d.many : Int), .int .i64 (d.size : Int), .slice (some ⟨d.bl, 0, none⟩) (d.many * d.size) (d.many * d.size), .slice d.pa d.ps.length d.pc, .slice d.wa d.ps.length d.wc, .map (some d.bm), .bool d.g.down, .bool d.g.breaks, .int .i64 d.g.left]) ∧ (Blk wr d.bl 5 ((allP d.size d.last (d.ps.take k)).map By).flatten) ∧ (MpI wr d.bm (lastIdx d.ps)) ∧ (Own 0 wr 80 1 (.slice d.pa d.ps.length d.pc) (d.ps.map cfn)) ∧ (Own 0 wr 3 1 (.slice d.wa d.ps.length d.wc) (d.ps.map cat_)) ∧ (BoxS wr d.ps) ∧ (Kp D w wr)) (fun k => d.ps.length - k) 0 ?_ ?_
    ·
      exact ⟨⟨rfl, rfl, rfl, rfl, trivial⟩, Nat.zero_le _, kd, kl, mp, pv, wv, bx, T⟩
    ·
      rintro k f wr ⟨hf, hk, kd, kl, mp, pv, wv, bx, T⟩
      obtain ⟨g, rfl⟩ : ∃ g, f = upl g [(0, .pointer (some ⟨bd, 0, none⟩)), (14, .slice d.pa d.ps.length d.pc), (15, .int .i64 (d.ps.length : Int)), (16, .int .i64 (k : Int))] := ⟨f, upl_self hf⟩
      clear hf
      refine CW_seq ?_
      refine CW_reg rfl ?_
      refine OW_ev (Ev_lss rfl rfl rfl) rfl ?_
      refine OW_nil ?_
      refine CW_seq ?_
      refine CW_cond rfl (fun c2 => ?_) (fun c2 => ?_)
      · have d2 := c2
        first | (with_reducible replace d2 := of_decide_eq_true d2) | (with_reducible replace d2 := bnt d2; try (with_reducible replace d2 := of_decide_eq_false d2)) | skip
        have hk2 : k < d.ps.length := by omega
        obtain ⟨p, hjp⟩ : ∃ p, d.ps[k]? = some p := ⟨d.ps[k], List.getElem?_eq_getElem hk2⟩
        have hpm := List.mem_of_getElem? hjp
        have hpok := hok.ps p hpm
        have hgj : (d.ps.map cfn)[k]? = some (cfn p) := by rw [List.getElem?_map, hjp]; rfl
        have hgw : (d.ps.map cat_)[k]? = some (cat_ p) := by rw [List.getElem?_map, hjp]; rfl
        have K1 := pv.sls.at_ hgj
        have K2 := wv.sls.at_ hgw
        have HB := bx p hpm
        have hk1b : ablk d.pa ≠ d.bl := (hs.pv (ablk d.pa) 0 0 (by rw [pv.sls.ad hgj]; rfl)).2.2.1
        have hk2b : ablk d.wa ≠ d.bl := (hs.wv (ablk d.wa) 0 0 (by rw [wv.sls.ad hgw]; rfl)).2.2.1
        have hroom := mul_room (size := d.size) hpok.1
        have htk := take_p hjp
        have hkl := allP_length (l := d.last) (hok.ps.take k) hok.last
        refine CW_skip ?_
        refine CW_seq ?_
        refine CW_block ?_
        refine CW_seq ?_
        refine CW_reg rfl ?_
        refine OW_ev (Ev_mvi (.inl rfl) rfl) rfl ?_
        refine OW_ev (Ev_idx k (pv.sls.ad hgj) sl_56 rfl rfl rfl rfl hk2) rfl ?_
        refine OW_ev (Ev_load (v := .func (.func 44) #[] #[.pointer (some ⟨p.box, 0, none⟩)]) one_80 rfl rfl (K1.one 0 rfl)) rfl ?_
        refine OW_ev (Ev_mvi (.inr rfl) rfl) rfl ?_
        refine OW_ev (Ev_mvf (.inr rfl) rfl) rfl ?_
        refine OW_nil ?_
        refine CW_draw (fun W => kd.here W ∧ mp.here W ∧ pv.here W ∧ wv.here W ∧ bx.here W ∧ K1.here W ∧ K2.here W ∧ HB.here W) mixed rfl (fun _ _ _ h => nomatch h.1) ?_
        have E3 : Kp0 _ _ := Kp.drew wr nob
        have Z3 : (World.drew wr).heap.size = wr.heap.size := rfl
        generalize World.drew wr = w3 at E3 Z3 ⊢
        have T := T.keep0 E3
        have kd := kd.keep0 E3
        have kl := kl.keep0 E3
        have mp := mp.keep0 E3
        have pv := pv.keep0 E3
        have wv := wv.keep0 E3
        have bx := bx.keep0 E3
        have K1 := K1.keep0 E3
        have K2 := K2.keep0 E3
        have HB := HB.keep0 E3
        refine AW_take 0 rfl rfl (by decide +kernel) (by decide +kernel) (by decide +kernel) (fun w ⟨kd, mp, pv, wv, bx, K1, K2, HB⟩ => Ev_mvf (.inl rfl) rfl) ⟨kd, mp, pv, wv, bx, K1, K2, HB⟩ ?_
        refine AW_take 1 rfl rfl (by decide +kernel) (by decide +kernel) (by decide +kernel) (fun w ⟨kd, mp, pv, wv, bx, K1, K2, HB⟩ => Ev_mvp (.inl rfl) rfl) ⟨kd, mp, pv, wv, bx, K1, K2, HB⟩ ?_
        refine AW_take 2 rfl rfl (by decide +kernel) (by decide +kernel) (by decide +kernel) (fun w ⟨kd, mp, pv, wv, bx, K1, K2, HB⟩ => Ev_mvp (.inl rfl) rfl) ⟨kd, mp, pv, wv, bx, K1, K2, HB⟩ ?_
        refine AW_take 3 rfl rfl (by decide +kernel) (by decide +kernel) (by decide +kernel) (fun w ⟨kd, mp, pv, wv, bx, K1, K2, HB⟩ => Ev_nilCheck rfl rfl) ⟨kd, mp, pv, wv, bx, K1, K2, HB⟩ ?_
        refine AW_take 4 rfl rfl (by decide +kernel) (by decide +kernel) (by decide +kernel) (fun w ⟨kd, mp, pv, wv, bx, K1, K2, HB⟩ => Ev_fieldAddr fld_59_4 rfl rfl) ⟨kd, mp, pv, wv, bx, K1, K2, HB⟩ ?_
        refine AW_take 5 rfl rfl (by decide +kernel) (by decide +kernel) (by decide +kernel) (fun w ⟨kd, mp, pv, wv, bx, K1, K2, HB⟩ => Ev_load one_57 rfl rfl (kd.ld (q := 4) rfl)) ⟨kd, mp, pv, wv, bx, K1, K2, HB⟩ ?_
        refine AW_take 6 rfl rfl (by decide +kernel) (by decide +kernel) (by decide +kernel) (fun w ⟨kd, mp, pv, wv, bx, K1, K2, HB⟩ => Ev_mvi (.inl rfl) rfl) ⟨kd, mp, pv, wv, bx, K1, K2, HB⟩ ?_
        refine AW_take 7 rfl rfl (by decide +kernel) (by decide +kernel) (by decide +kernel) (fun w ⟨kd, mp, pv, wv, bx, K1, K2, HB⟩ => Ev_idx k (wv.sls.ad hgw) sl_57 rfl rfl rfl rfl hk2) ⟨kd, mp, pv, wv, bx, K1, K2, HB⟩ ?_
        refine AW_take 8 rfl rfl (by decide +kernel) (by decide +kernel) (by decide +kernel) (fun w ⟨kd, mp, pv, wv, bx, K1, K2, HB⟩ => Ev_load (v := .int .i64 (p.a : Int)) one_3 rfl rfl (K2.one 0 rfl)) ⟨kd, mp, pv, wv, bx, K1, K2, HB⟩ ?_
        refine AW_take 10 rfl rfl (by decide +kernel) (by decide +kernel) (by decide +kernel) (fun w ⟨kd, mp, pv, wv, bx, K1, K2, HB⟩ => Ev_mvp (.inl rfl) rfl) ⟨kd, mp, pv, wv, bx, K1, K2, HB⟩ ?_
        refine AW_take 11 rfl rfl (by decide +kernel) (by decide +kernel) (by decide +kernel) (fun w ⟨kd, mp, pv, wv, bx, K1, K2, HB⟩ => Ev_nilCheck rfl rfl) ⟨kd, mp, pv, wv, bx, K1, K2, HB⟩ ?_
        refine AW_take 12 rfl rfl (by decide +kernel) (by decide +kernel) (by decide +kernel) (fun w ⟨kd, mp, pv, wv, bx, K1, K2, HB⟩ => Ev_fieldAddr fld_59_1 rfl rfl) ⟨kd, mp, pv, wv, bx, K1, K2, HB⟩ ?_
        refine AW_take 13 rfl rfl (by decide +kernel) (by decide +kernel) (by decide +kernel) (fun w ⟨kd, mp, pv, wv, bx, K1, K2, HB⟩ => Ev_load one_3 rfl rfl (kd.ld (q := 1) rfl)) ⟨kd, mp, pv, wv, bx, K1, K2, HB⟩ ?_
        refine AW_one 9 (by decide +kernel) (Next.mk rfl rfl ?_)
        refine Stp_call ent_34 rfl rfl rfl (sector_c (⟨kd, kl, mp, pv, wv, bx, sep_last hs _, ok_last hok hkl⟩ : DkS (fun b => D b ∧ b < NW) _ bd { d with last := allP d.size d.last (d.ps.take k) }) hpok.1) ?_
        rintro _ w4 ⟨E4, rfl⟩
        have Z4 := E4.size
        have T := T.keep0 E4
        have kd := kd.keep0 E4
        have kl := kl.keep0 E4
        have mp := mp.keep0 E4
        have pv := pv.keep0 E4
        have wv := wv.keep0 E4
        have bx := bx.keep0 E4
        have K1 := K1.keep0 E4
        have K2 := K2.keep0 E4
        have HB := HB.keep0 E4
        refine ⟨⟨kd, mp, pv, wv, bx, K1, K2, HB⟩, ?_⟩
        refine AW_one 14 (by decide +kernel) (Next.mk rfl rfl ?_)
        refine Stp_call (cap := [.pointer (some ⟨p.box, 0, none⟩)]) ent_44 rfl rfl rfl (wr1_c (n := d.size) (off := p.a * d.size) (c := d.many * d.size - p.a * d.size) (most := d.size) (m := p.b) kl HB (hs.bx p hpm).2.2.1 (by omega) (by rw [By_flat_len]; omega)) ?_
        rintro _ w5 ⟨rfl, E5, hzz5, KL2⟩
        have Z5 := E5.size
        have T := T.trans' E5 (fun i _ h => by rw [show i = d.bl from h]; exact hs.d2.1)
        have kd := kd.keepb E5 (Ne.symm hs.n1)
        have mp := mp.keepb E5 (Ne.symm hs.n3)
        have pv := pv.keepb E5 (fun b _ hb => (hs.pv b _ _ hb).2.2.1)
        have wv := wv.keepb E5 (fun b _ hb => (hs.wv b _ _ hb).2.2.1)
        have bx := bx.keepb E5 (fun p hp => (hs.bx p hp).2.2.1)
        have K1 := K1.keepb E5 hk1b
        have K2 := K2.keepb E5 hk2b
        have HB := HB.keepb E5 (hs.bx p hpm).2.2.1
        have kl : Blk w5 d.bl 5 ((allP d.size d.last (d.ps.take (k + 1))).map By).flatten := by
          rw [htk, allP_push]
          rw [show p.b.take d.size = p.b from List.take_of_length_le (by omega), putAt_By (by omega)] at KL2
          exact KL2
        refine ⟨⟨kd, mp, pv, wv, bx, K1, K2, HB⟩, ?_⟩
        refine AW_done (by decide +kernel) ?_
        refine CW_re [(0, .pointer _), (14, .slice _ _ _), (15, .int _ _), (16, .int _ _)] ⟨rfl, rfl, rfl, rfl, trivial⟩ (fun g => ?_)
        refine CW_reg rfl ?_
        refine OW_ev (Ev_add rfl rfl rfl (by first | (apply IntWalk.i64_in; omega) | (apply IntWalk.u64_in; omega) | (apply IntWalk.u32_in; omega) | (apply IntWalk.u8_in; omega) | (apply IntWalk.i32_in; omega) | rfl)) rfl ?_
        refine OW_ev (Ev_mvi (.inl rfl) rfl) rfl ?_
        refine OW_nil ?_
        exact ⟨k + 1, by omega, ⟨rfl, rfl, rfl, congrArg (Value.int .i64) (by omega), trivial⟩, by omega, kd, kl, mp, pv, wv, bx, T⟩
      · have d2 := c2
        first | (with_reducible replace d2 := of_decide_eq_false d2) | (with_reducible replace d2 := bnf d2; try (with_reducible replace d2 := of_decide_eq_true d2)) | skip
        have hk2 : k = d.ps.length := by omega
        rw [hk2, List.take_of_length_le (Nat.le_refl _)] at kl
        have hVl := allP_length (l := d.last) hok.ps hok.last
        refine CW_exit ?_
        refine blk_same ?_
        refine CW_seq ?_
        refine CW_reg rfl ?_
        refine OW_ev (Ev_mvp (.inl rfl) rfl) rfl ?_
        refine OW_st rfl (Stp_call ent_35 rfl rfl rfl (settle_c (⟨kd, kl, mp, pv, wv, bx, sep_last hs _, ok_last hok hVl⟩ : DkS (fun b => D b ∧ b < NW) _ bd { d with last := allP d.size d.last d.ps })) ?_)
        rintro _ w6 ⟨rfl, E6, HS⟩
        have Z6 := E6.size
        have T := T.trans' E6 (fun i _ h => h.1)
        refine OW_nil ?_
        refine CW_seq ?_
        refine CW_reg rfl ?_
        refine OW_ev (Ev_mvp (.inl rfl) rfl) rfl ?_
        refine OW_st rfl (Stp_call ent_36 rfl rfl rfl (count_c HS) ?_)
        rintro _ w7 ⟨rfl, E7, HS2⟩
        have Z7 := E7.size
        have T := T.trans' E7 (fun i _ h => by rw [show i = bd from h]; exact hs.d1.1)
        refine OW_nil ?_
        refine CW_seq ?_
        refine CW_reg rfl ?_
        refine OW_ev (Ev_c (.inr rfl)) rfl ?_
        refine OW_nil ?_
        refine CW_ret ?_
        refine ⟨rfl, _, (.tmp rfl .nil), ?_⟩
        rw [if_neg (by simp [hd]), if_neg (by simp [hd])]
        exact ⟨rfl, T, HS2.mono fun b h => h.1⟩

set_option maxRecDepth 10000 in
set_option maxHeartbeats 2000000 in
theorem crash_c {D : Nat → Prop} {w : World} {bd : Nat} {d : DkM} (hS : DkS D w bd d) {F : Nat → Prop} {ao : Option Addr} {nk kc : Nat} {keep : List Bool} (hn : keep.length = nk) (hc : nk ≤ kc) (hK : Sl F w 1 ao (keep.map B1)) (hFD : ∀ b, F b → ¬ D b) (torn : Int) (hpn : d.ps.length ≤ 100000000) : Calls Try.prog 18 #[.pointer (some ⟨bd, 0, none⟩), .slice ao nk kc, .int .i64 torn] w (Ret fun v w' => v = .int .i64 0 ∧ Kp D w w' ∧ DkS D w' bd (d.crashed keep torn)) := by
  have hS := hS.bound
  obtain ⟨NW, hNW⟩ : ∃ x, x = w.heap.size := ⟨_, rfl⟩
  rw [← hNW] at hS
  have hs := hS.sep
  have hok := hS.ok
  obtain ⟨kd, kl, mp, pv, wv, bx, -, -⟩ := hS
  have hm := hok.many
  have hz := hok.size
  have hg := hok.g
  have kd : Blk w bd 59 [.int .i64 (d.many : Int), .int .i64 (d.size : Int), .slice (some ⟨d.bl, 0, none⟩) (d.many * d.size) (d.many * d.size), .slice d.pa d.ps.length d.pc, .slice d.wa d.ps.length d.wc, .map (some d.bm), .bool d.g.down, .bool d.g.breaks, .int .i64 d.g.left] := kd
  have hbig : d.many * d.size ≤ 4096 * 1024 := Nat.mul_le_mul hm.2 hz.2
  have ks_ := hK.bd
  rw [← hNW] at ks_
  obtain ⟨ks, hks⟩ : ∃ x, x = d.kept keep := ⟨_, rfl⟩
  have hksl : ks.length = min nk d.ps.length := by rw [hks]; unfold DkM.kept; rw [List.length_take]; omega
  have hkeep : ∀ i b, ks[i]? = some b → keep[i]? = some b := fun i b h => by rw [hks] at h; unfold DkM.kept at h; rw [List.getElem?_take] at h; split at h; exact h; cases h
  unfold DkM.crashed
  rw [← hks]
  have T : Kp D w w := Kp.refl _ _
  refine calls_start Try.func18 rfl (n := 97) rfl rfl rfl ?_
  refine CW_seq ?_
  refine CW_reg rfl ?_
  refine OW_ev (Ev_c (.inr rfl)) rfl ?_
  refine OW_nil ?_
  refine CW_seq ?_
  refine CW_seq ?_
  refine CW_reg rfl ?_
  refine OW_ev (Ev_mvp (.inl rfl) rfl) rfl ?_
  refine OW_ev (Ev_ptrNil und_22 rfl rfl) rfl ?_
  refine OW_nil ?_
  refine CW_cond_f rfl rfl ?_
  refine CW_skip ?_
  refine CW_seq ?_
  refine CW_reg rfl ?_
  refine OW_ev (Ev_mvs (.inl rfl) rfl) rfl ?_
  refine OW_ev (Ev_mvs (.inl rfl) rfl) rfl ?_
  refine OW_ev (Ev_len und_53 rfl rfl) rfl ?_
  refine OW_ev (Ev_mvp (.inl rfl) rfl) rfl ?_
  refine OW_ev (Ev_nilCheck rfl rfl) rfl ?_
  refine OW_ev (Ev_fieldAddr fld_59_3 rfl rfl) rfl ?_
  refine OW_ev (Ev_load one_56 rfl rfl (kd.ld (q := 3) rfl)) rfl ?_
  refine OW_ev (Ev_len und_56 rfl rfl) rfl ?_
  refine OW_ev (Ev_min2 rfl rfl rfl) rfl ?_
  refine OW_ev (Ev_slice_h ks.length sl_53 rfl rfl rfl (by rw [hksl]; omega) (by omega)) rfl ?_
  refine OW_ev (Ev_mvs (.inr rfl) rfl) rfl ?_
  refine OW_nil ?_
  refine CW_seq ?_
  refine CW_reg rfl ?_
  refine OW_ev (Ev_mvs (.inl rfl) rfl) rfl ?_
  refine OW_ev (Ev_len und_53 rfl rfl) rfl ?_
  refine OW_ev (Ev_sub rfl rfl rfl (by first | (apply IntWalk.i64_in; omega) | (apply IntWalk.u64_in; omega) | (apply IntWalk.u32_in; omega) | (apply IntWalk.u8_in; omega) | (apply IntWalk.i32_in; omega) | rfl)) rfl ?_
  refine OW_ev (Ev_mvi (.inr rfl) rfl) rfl ?_
  refine OW_nil ?_
  refine CW_seq ?_
  refine CW_join (fun f w2 => AllEq f [(0, .pointer (some ⟨bd, 0, none⟩)), (2, .int .i64 torn), (7, .slice ao ks.length kc), (8, .int .i64 (lastTrue ks ks.length))] ∧ (Blk w2 bd 59 [.int .i64 (d.many : Int), .int .i64 (d.size : Int), .slice (some ⟨d.bl, 0, none⟩) (d.many * d.size) (d.many * d.size), .slice d.pa d.ps.length d.pc, .slice d.wa d.ps.length d.wc, .map (some d.bm), .bool d.g.down, .bool d.g.breaks, .int .i64 d.g.left]) ∧ (Blk w2 d.bl 5 ((d.last).map By).flatten) ∧ (MpI w2 d.bm (lastIdx d.ps)) ∧ (Own 0 w2 80 1 (.slice d.pa d.ps.length d.pc) (d.ps.map cfn)) ∧ (Own 0 w2 3 1 (.slice d.wa d.ps.length d.wc) (d.ps.map cat_)) ∧ (BoxS w2 d.ps) ∧ (Kp D w w2) ∧ (Sl (fun b => F b ∧ b < NW) w2 1 ao (keep.map B1))) ?_ ?_
  ·
    refine CW_block ?_
    refine CW_loop (α := Nat) (fun (j : Nat) f wr => AllEq f [(0, .pointer (some ⟨bd, 0, none⟩)), (2, .int .i64 torn), (7, .slice ao ks.length kc), (8, .int .i64 ((j : Int) - 1))] ∧ (j ≤ ks.length) ∧ (lastTrue ks ks.length = lastTrue ks j) ∧ (Blk wr bd 59 [.int .i64 (d.many : Int), .int .i64 (d.size : Int), .slice (some ⟨d.bl, 0, none⟩) (d.many * d.size) (d.many * d.size), .slice d.pa d.ps.length d.pc, .slice d.wa d.ps.length d.wc, .map (some d.bm), .bool d.g.down, .bool d.g.breaks, .int .i64 d.g.left]) ∧ (Blk wr d.bl 5 ((d.last).map By).flatten) ∧ (MpI wr d.bm (lastIdx d.ps)) ∧ (Own 0 wr 80 1 (.slice d.pa d.ps.length d.pc) (d.ps.map cfn)) ∧ (Own 0 wr 3 1 (.slice d.wa d.ps.length d.wc) (d.ps.map cat_)) ∧ (BoxS wr d.ps) ∧ (Kp D w wr) ∧ (Sl (fun b => F b ∧ b < NW) wr 1 ao (keep.map B1))) (fun j => j) ks.length ?_ ?_
    ·
      exact ⟨⟨rfl, rfl, rfl, rfl, trivial⟩, Nat.le_refl _, rfl, kd, kl, mp, pv, wv, bx, T, ks_⟩
    ·
      rintro j f wr ⟨hf, hj, hlt, kd, kl, mp, pv, wv, bx, T, ks_⟩
      obtain ⟨g, rfl⟩ : ∃ g, f = upl g [(0, .pointer (some ⟨bd, 0, none⟩)), (2, .int .i64 torn), (7, .slice ao ks.length kc), (8, .int .i64 ((j : Int) - 1))] := ⟨f, upl_self hf⟩
      clear hf
      refine CW_seq ?_
      refine CW_seq ?_
      refine CW_reg rfl ?_
      refine OW_ev (Ev_mvi (.inl rfl) rfl) rfl ?_
      refine OW_ev (Ev_geq rfl rfl rfl) rfl ?_
      refine OW_ev (Ev_mvb (.inl rfl) rfl) rfl ?_
      refine OW_split (d := .tmp 29) rfl (fun c1 => ?_) (fun c1 => ?_)
      · have d1 := c1
        first | (with_reducible replace d1 := of_decide_eq_true d1) | (with_reducible replace d1 := bnt d1; try (with_reducible replace d1 := of_decide_eq_false d1)) | skip
        obtain ⟨i, rfl⟩ : ∃ i, j = i + 1 := ⟨j - 1, by omega⟩
        obtain ⟨b, hbk⟩ : ∃ b, ks[i]? = some b := ⟨ks[i], List.getElem?_eq_getElem (by omega)⟩
        have hgb : (keep.map B1)[i]? = some (B1 b) := by rw [List.getElem?_map, hkeep i b hbk]; rfl
        have KB := ks_.at_ hgb
        refine OW_yes rfl rfl rfl rfl c1 (Ev.stp (Ev_mvs (.inl rfl) rfl) ?_)
        refine OW_yes rfl rfl rfl rfl c1 (Ev.stp (Ev_mvi (.inl rfl) rfl) ?_)
        refine OW_yes rfl rfl rfl rfl c1 (Ev.stp (Ev_idx i (ks_.ad hgb) sl_53 rfl rfl rfl (by omega) (by omega)) ?_)
        refine OW_yes rfl rfl rfl rfl c1 (Ev.stp (Ev_load (v := .bool b) one_4 rfl rfl (KB.one 0 rfl)) ?_)
        refine OW_yes rfl rfl rfl rfl c1 (Ev.stp (Ev_not rfl rfl) ?_)
        refine OW_ev (Ev_pickb_t rfl rfl c1 rfl) rfl ?_
        refine OW_nil ?_
        refine CW_cond rfl (fun c2 => ?_) (fun c2 => ?_)
        · have d2 := c2
          first | (with_reducible replace d2 := of_decide_eq_true d2) | (with_reducible replace d2 := bnt d2; try (with_reducible replace d2 := of_decide_eq_false d2)) | skip
          have hbf : b = false := d2
          have hlt2 : lastTrue ks ks.length = lastTrue ks i := by rw [hlt]; show (if ks[i]? = some true then _ else _) = _; rw [if_neg (by rw [hbk, hbf]; simp)]
          refine CW_skip ?_
          refine CW_block ?_
          refine CW_reg rfl ?_
          refine OW_ev (Ev_mvi (.inl rfl) rfl) rfl ?_
          refine OW_ev (Ev_sub rfl rfl rfl (by first | (apply IntWalk.i64_in; omega) | (apply IntWalk.u64_in; omega) | (apply IntWalk.u32_in; omega) | (apply IntWalk.u8_in; omega) | (apply IntWalk.i32_in; omega) | rfl)) rfl ?_
          refine OW_ev (Ev_mvi (.inr rfl) rfl) rfl ?_
          refine OW_nil ?_
          exact ⟨i, by omega, ⟨rfl, rfl, rfl, congrArg (Value.int .i64) (by omega), trivial⟩, by omega, hlt2, kd, kl, mp, pv, wv, bx, T, ks_⟩
        · have d2 := c2
          first | (with_reducible replace d2 := of_decide_eq_false d2) | (with_reducible replace d2 := bnf d2; try (with_reducible replace d2 := of_decide_eq_true d2)) | skip
          have hbt : b = true := by cases b with | true => rfl | false => cases c2
          have hfin : lastTrue ks ks.length = (i : Int) := by rw [hlt]; show (if ks[i]? = some true then _ else _) = _; rw [if_pos (by rw [hbk, hbt])]
          refine CW_exit ?_
          refine blk_same ?_
          refine ⟨⟨rfl, rfl, rfl, ?_, trivial⟩, kd, kl, mp, pv, wv, bx, T, ks_⟩
          exact congrArg (Value.int .i64) (by omega)
      · have d1 := c1
        first | (with_reducible replace d1 := of_decide_eq_false d1) | (with_reducible replace d1 := bnf d1; try (with_reducible replace d1 := of_decide_eq_true d1)) | skip
        have hj0 : j = 0 := by omega
        have hfin : lastTrue ks ks.length = -1 := by rw [hlt, hj0]; rfl
        refine OW_no rfl rfl rfl rfl c1 ?_
        refine OW_no rfl rfl rfl rfl c1 ?_
        refine OW_no rfl rfl rfl rfl c1 ?_
        refine OW_no rfl rfl rfl rfl c1 ?_
        refine OW_no rfl rfl rfl rfl c1 ?_
        refine OW_ev (Ev_pickb_f rfl rfl c1 rfl) rfl ?_
        refine OW_nil ?_
        refine CW_cond_f rfl rfl ?_
        refine CW_exit ?_
        refine blk_same ?_
        refine ⟨⟨rfl, rfl, rfl, ?_, trivial⟩, kd, kl, mp, pv, wv, bx, T, ks_⟩
        exact congrArg (Value.int .i64) (by omega)
  ·
    rintro f w2 ⟨hf, kd, kl, mp, pv, wv, bx, T, ks_⟩
    obtain ⟨g, rfl⟩ : ∃ g, f = upl g [(0, .pointer (some ⟨bd, 0, none⟩)), (2, .int .i64 torn), (7, .slice ao ks.length kc), (8, .int .i64 (lastTrue ks ks.length))] := ⟨f, upl_self hf⟩
    clear hf
    refine CW_seq ?_
    refine CW_seq ?_
    refine CW_reg rfl ?_
    refine OW_ev (Ev_mvs (.inl rfl) rfl) rfl ?_
    refine OW_ev (Ev_len und_53 rfl rfl) rfl ?_
    refine OW_ev (Ev_c (.inl rfl)) rfl ?_
    refine OW_nil ?_
    refine CW_block ?_
    refine CW_loop (α := Nat) (fun (k : Nat) f wr => AllEq f [(0, .pointer (some ⟨bd, 0, none⟩)), (2, .int .i64 torn), (7, .slice ao ks.length kc), (8, .int .i64 (lastTrue ks ks.length)), (38, .slice ao ks.length kc), (39, .int .i64 (ks.length : Int)), (40, .int .i64 (k : Int))] ∧ (k ≤ ks.length) ∧ (Blk wr bd 59 [.int .i64 (d.many : Int), .int .i64 (d.size : Int), .slice (some ⟨d.bl, 0, none⟩) (d.many * d.size) (d.many * d.size), .slice d.pa d.ps.length d.pc, .slice d.wa d.ps.length d.wc, .map (some d.bm), .bool d.g.down, .bool d.g.breaks, .int .i64 d.g.left]) ∧ (Blk wr d.bl 5 ((d.crashUp ks torn k).map By).flatten) ∧ (MpI wr d.bm (lastIdx d.ps)) ∧ (Own 0 wr 80 1 (.slice d.pa d.ps.length d.pc) (d.ps.map cfn)) ∧ (Own 0 wr 3 1 (.slice d.wa d.ps.length d.wc) (d.ps.map cat_)) ∧ (BoxS wr d.ps) ∧ (Kp D w wr) ∧ (Sl (fun b => F b ∧ b < NW) wr 1 ao (keep.map B1))) (fun k => ks.length - k) 0 ?_ ?_
    ·
      exact ⟨⟨rfl, rfl, rfl, rfl, rfl, rfl, rfl, trivial⟩, Nat.zero_le _, kd, kl, mp, pv, wv, bx, T, ks_⟩
    ·
      rintro k f wr ⟨hf, hk, kd, kl, mp, pv, wv, bx, T, ks_⟩
      obtain ⟨g, rfl⟩ : ∃ g, f = upl g [(0, .pointer (some ⟨bd, 0, none⟩)), (2, .int .i64 torn), (7, .slice ao ks.length kc), (8, .int .i64 (lastTrue ks ks.length)), (38, .slice ao ks.length kc), (39, .int .i64 (ks.length : Int)), (40, .int .i64 (k : Int))] := ⟨f, upl_self hf⟩
      clear hf
      refine CW_seq ?_
      refine CW_reg rfl ?_
      refine OW_ev (Ev_lss rfl rfl rfl) rfl ?_
      refine OW_nil ?_
      refine CW_seq ?_
      refine CW_cond rfl (fun c3 => ?_) (fun c3 => ?_)
      · have d3 := c3
        first | (with_reducible replace d3 := of_decide_eq_true d3) | (with_reducible replace d3 := bnt d3; try (with_reducible replace d3 := of_decide_eq_false d3)) | skip
        have hk2 : k < ks.length := by omega
        obtain ⟨b, hbk⟩ : ∃ b, ks[k]? = some b := ⟨ks[k], List.getElem?_eq_getElem (by omega)⟩
        have hgb : (keep.map B1)[k]? = some (B1 b) := by rw [List.getElem?_map, hkeep k b hbk]; rfl
        have KB := ks_.at_ hgb
        have hkb : ablk ao ≠ d.bl := fun e => hFD _ ((ks_.2 (Sl.ne hgb)).2.1).1 (e ▸ hs.d2.1)
        obtain ⟨p, hjp⟩ : ∃ p, d.ps[k]? = some p := ⟨d.ps[k], List.getElem?_eq_getElem (by omega)⟩
        have hpm := List.mem_of_getElem? hjp
        have hpok := hok.ps p hpm
        have hgj : (d.ps.map cfn)[k]? = some (cfn p) := by rw [List.getElem?_map, hjp]; rfl
        have hgw : (d.ps.map cat_)[k]? = some (cat_ p) := by rw [List.getElem?_map, hjp]; rfl
        have K1 := pv.sls.at_ hgj
        have K2 := wv.sls.at_ hgw
        have HB := bx p hpm
        have hk1b : ablk d.pa ≠ d.bl := (hs.pv (ablk d.pa) 0 0 (by rw [pv.sls.ad hgj]; rfl)).2.2.1
        have hk2b : ablk d.wa ≠ d.bl := (hs.wv (ablk d.wa) 0 0 (by rw [wv.sls.ad hgw]; rfl)).2.2.1
        have hroom := mul_room (size := d.size) hpok.1
        have hcl := crashUp_len hok ks torn k
        have hmb : d.most ks torn k ≤ d.size := by unfold DkM.most; split <;> omega
        refine CW_skip ?_
        refine CW_seq ?_
        refine CW_block ?_
        refine CW_seq ?_
        refine CW_reg rfl ?_
        refine OW_ev (Ev_mvi (.inl rfl) rfl) rfl ?_
        refine OW_ev (Ev_idx k (ks_.ad hgb) sl_53 rfl rfl rfl rfl hk2) rfl ?_
        refine OW_ev (Ev_load (v := .bool b) one_4 rfl rfl (KB.one 0 rfl)) rfl ?_
        refine OW_ev (Ev_mvi (.inr rfl) rfl) rfl ?_
        refine OW_ev (Ev_mvb (.inr rfl) rfl) rfl ?_
        refine OW_nil ?_
        refine CW_seq ?_
        refine CW_seq ?_
        refine CW_reg rfl ?_
        refine OW_ev (Ev_mvb (.inl rfl) rfl) rfl ?_
        refine OW_ev (Ev_not rfl rfl) rfl ?_
        refine OW_nil ?_
        refine CW_cond rfl (fun c4 => ?_) (fun c4 => ?_)
        · have d4 := c4
          first | (with_reducible replace d4 := of_decide_eq_true d4) | (with_reducible replace d4 := bnt d4; try (with_reducible replace d4 := of_decide_eq_false d4)) | skip
          have hbf : b = false := d4
          have hck : d.crashUp ks torn (k + 1) = d.crashUp ks torn k := by show (match d.ps[k]?, ks[k]? with | some p, some true => _ | _, _ => _) = _; rw [hjp, hbk, hbf]
          refine CW_exit ?_
          refine blk_same ?_
          refine CW_reg rfl ?_
          refine OW_ev (Ev_add rfl rfl rfl (by first | (apply IntWalk.i64_in; omega) | (apply IntWalk.u64_in; omega) | (apply IntWalk.u32_in; omega) | (apply IntWalk.u8_in; omega) | (apply IntWalk.i32_in; omega) | rfl)) rfl ?_
          refine OW_ev (Ev_mvi (.inl rfl) rfl) rfl ?_
          refine OW_nil ?_
          rw [← hck] at kl
          exact ⟨k + 1, by omega, ⟨rfl, rfl, rfl, rfl, rfl, rfl, congrArg (Value.int .i64) (by omega), trivial⟩, by omega, kd, kl, mp, pv, wv, bx, T, ks_⟩
        · have d4 := c4
          first | (with_reducible replace d4 := of_decide_eq_false d4) | (with_reducible replace d4 := bnf d4; try (with_reducible replace d4 := of_decide_eq_true d4)) | skip
          have hbt : b = true := d4
          have hck : d.crashUp ks torn (k + 1) = putL (d.crashUp ks torn k) (p.a * d.size) (p.b.take (d.most ks torn k)) := by show (match d.ps[k]?, ks[k]? with | some p, some true => _ | _, _ => _) = _; rw [hjp, hbk, hbt]
          refine CW_skip ?_
          refine CW_seq ?_
          refine CW_reg rfl ?_
          refine OW_ev (Ev_mvp (.inl rfl) rfl) rfl ?_
          refine OW_ev (Ev_nilCheck rfl rfl) rfl ?_
          refine OW_ev (Ev_fieldAddr fld_59_1 rfl rfl) rfl ?_
          refine OW_ev (Ev_load one_3 rfl rfl (kd.ld (q := 1) rfl)) rfl ?_
          refine OW_ev (Ev_mvi (.inr rfl) rfl) rfl ?_
          refine OW_nil ?_
          refine CW_seq ?_
          refine CW_seq ?_
          refine CW_re [(0, .pointer _), (2, .int _ _), (7, .slice _ _ _), (8, .int _ _), (9, .int _ _), (11, .int _ _), (38, .slice _ _ _), (39, .int _ _), (40, .int _ _)] ⟨rfl, rfl, rfl, rfl, rfl, rfl, rfl, rfl, rfl, trivial⟩ (fun g => ?_)
          refine CW_reg rfl ?_
          refine OW_ev (Ev_mvi (.inl rfl) rfl) rfl ?_
          refine OW_ev (Ev_mvi (.inl rfl) rfl) rfl ?_
          refine OW_ev (Ev_eql rfl rfl rfl) rfl ?_
          refine OW_ev (Ev_mvb (.inl rfl) rfl) rfl ?_
          refine OW_split (d := .tmp 54) rfl (fun c5 => ?_) (fun c5 => ?_)
          · have d5 := c5
            first | (with_reducible replace d5 := of_decide_eq_true d5) | (with_reducible replace d5 := bnt d5; try (with_reducible replace d5 := of_decide_eq_false d5)) | skip
            have h1 : (k : Int) = lastTrue ks ks.length := d5
            refine OW_yes rfl rfl rfl rfl c5 (Ev.stp (Ev_mvi (.inl rfl) rfl) ?_)
            refine OW_yes rfl rfl rfl rfl c5 (Ev.stp (Ev_geq rfl rfl rfl) ?_)
            refine OW_ev (Ev_pickb_t rfl rfl c5 rfl) rfl ?_
            refine OW_ev (Ev_mvb (.inl rfl) rfl) rfl ?_
            refine OW_split (d := .tmp 58) rfl (fun c6 => ?_) (fun c6 => ?_)
            · have d6 := c6
              first | (with_reducible replace d6 := of_decide_eq_true d6) | (with_reducible replace d6 := bnt d6; try (with_reducible replace d6 := of_decide_eq_false d6)) | skip
              have h2 : 0 ≤ torn := by omega
              refine OW_yes rfl rfl rfl rfl c6 (Ev.stp (Ev_mvi (.inl rfl) rfl) ?_)
              refine OW_yes rfl rfl rfl rfl c6 (Ev.stp (Ev_mvp (.inl rfl) rfl) ?_)
              refine OW_yes rfl rfl rfl rfl c6 (Ev.stp (Ev_nilCheck rfl rfl) ?_)
              refine OW_yes rfl rfl rfl rfl c6 (Ev.stp (Ev_fieldAddr fld_59_1 rfl rfl) ?_)
              refine OW_yes rfl rfl rfl rfl c6 (Ev.stp (Ev_load one_3 rfl rfl (kd.ld (q := 1) rfl)) ?_)
              refine OW_yes rfl rfl rfl rfl c6 (Ev.stp (Ev_lss rfl rfl rfl) ?_)
              refine OW_ev (Ev_pickb_t rfl rfl c6 rfl) rfl ?_
              refine OW_nil ?_
              refine CW_join (fun f wj => AllEq f [(0, .pointer (some ⟨bd, 0, none⟩)), (2, .int .i64 torn), (7, .slice ao ks.length kc), (8, .int .i64 (lastTrue ks ks.length)), (9, .int .i64 (k : Int)), (11, .int .i64 ((d.most ks torn k : Nat) : Int)), (38, .slice ao ks.length kc), (39, .int .i64 (ks.length : Int)), (40, .int .i64 (k : Int))] ∧ (wr = wj)) ?_ ?_
              ·
                refine CW_cond rfl (fun c7 => ?_) (fun c7 => ?_)
                · have d7 := c7
                  first | (with_reducible replace d7 := of_decide_eq_true d7) | (with_reducible replace d7 := bnt d7; try (with_reducible replace d7 := of_decide_eq_false d7)) | skip
                  have hmo : ((d.most ks torn k : Nat) : Int) = torn := by unfold DkM.most; rw [if_pos ⟨h1, h2, by omega⟩]; omega
                  refine CW_re [(0, .pointer _), (2, .int _ _), (7, .slice _ _ _), (8, .int _ _), (9, .int _ _), (38, .slice _ _ _), (39, .int _ _), (40, .int _ _)] ⟨rfl, rfl, rfl, rfl, rfl, rfl, rfl, rfl, trivial⟩ (fun g => ?_)
                  refine CW_reg rfl ?_
                  refine OW_ev (Ev_mvi (.inl rfl) rfl) rfl ?_
                  refine OW_ev (Ev_mvi (.inr rfl) rfl) rfl ?_
                  refine OW_nil ?_
                  exact ⟨⟨rfl, rfl, rfl, rfl, rfl, by first | exact congrArg (Value.int .i64) hmo.symm | (rw [hmo]; rfl), rfl, rfl, rfl, trivial⟩, rfl⟩
                · have d7 := c7
                  first | (with_reducible replace d7 := of_decide_eq_false d7) | (with_reducible replace d7 := bnf d7; try (with_reducible replace d7 := of_decide_eq_true d7)) | skip
                  have hmo : d.most ks torn k = d.size := if_neg (fun h => by have := h.2.2; omega)
                  refine CW_skip ?_
                  exact ⟨⟨rfl, rfl, rfl, rfl, rfl, by first | exact congrArg (Value.int .i64) hmo.symm | (rw [hmo]; rfl), rfl, rfl, rfl, trivial⟩, rfl⟩
              ·
                rintro f _ ⟨hf, rfl⟩
                obtain ⟨g, rfl⟩ : ∃ g, f = upl g [(0, .pointer (some ⟨bd, 0, none⟩)), (2, .int .i64 torn), (7, .slice ao ks.length kc), (8, .int .i64 (lastTrue ks ks.length)), (9, .int .i64 (k : Int)), (11, .int .i64 ((d.most ks torn k : Nat) : Int)), (38, .slice ao ks.length kc), (39, .int .i64 (ks.length : Int)), (40, .int .i64 (k : Int))] := ⟨f, upl_self hf⟩
                clear hf
                refine CW_draw (fun W => kd.here W ∧ mp.here W ∧ pv.here W ∧ wv.here W ∧ bx.here W ∧ ks_.here W ∧ K1.here W ∧ K2.here W ∧ HB.here W ∧ KB.here W) mixed rfl (fun _ _ _ h => nomatch h.1) ?_
                have E8 : Kp0 _ _ := Kp.drew wr nob
                have Z8 : (World.drew wr).heap.size = wr.heap.size := rfl
                generalize World.drew wr = w8 at E8 Z8 ⊢
                have T := T.keep0 E8
                have kd := kd.keep0 E8
                have kl := kl.keep0 E8
                have mp := mp.keep0 E8
                have pv := pv.keep0 E8
                have wv := wv.keep0 E8
                have bx := bx.keep0 E8
                have ks_ := ks_.keep0 E8
                have K1 := K1.keep0 E8
                have K2 := K2.keep0 E8
                have HB := HB.keep0 E8
                have KB := KB.keep0 E8
                refine AW_take 0 rfl rfl (by decide +kernel) (by decide +kernel) (by decide +kernel) (fun w ⟨kd, mp, pv, wv, bx, ks_, K1, K2, HB, KB⟩ => Ev_mvp (.inl rfl) rfl) ⟨kd, mp, pv, wv, bx, ks_, K1, K2, HB, KB⟩ ?_
                refine AW_take 1 rfl rfl (by decide +kernel) (by decide +kernel) (by decide +kernel) (fun w ⟨kd, mp, pv, wv, bx, ks_, K1, K2, HB, KB⟩ => Ev_nilCheck rfl rfl) ⟨kd, mp, pv, wv, bx, ks_, K1, K2, HB, KB⟩ ?_
                refine AW_take 2 rfl rfl (by decide +kernel) (by decide +kernel) (by decide +kernel) (fun w ⟨kd, mp, pv, wv, bx, ks_, K1, K2, HB, KB⟩ => Ev_fieldAddr fld_59_3 rfl rfl) ⟨kd, mp, pv, wv, bx, ks_, K1, K2, HB, KB⟩ ?_
                refine AW_take 3 rfl rfl (by decide +kernel) (by decide +kernel) (by decide +kernel) (fun w ⟨kd, mp, pv, wv, bx, ks_, K1, K2, HB, KB⟩ => Ev_load one_56 rfl rfl (kd.ld (q := 3) rfl)) ⟨kd, mp, pv, wv, bx, ks_, K1, K2, HB, KB⟩ ?_
                refine AW_take 4 rfl rfl (by decide +kernel) (by decide +kernel) (by decide +kernel) (fun w ⟨kd, mp, pv, wv, bx, ks_, K1, K2, HB, KB⟩ => Ev_mvi (.inl rfl) rfl) ⟨kd, mp, pv, wv, bx, ks_, K1, K2, HB, KB⟩ ?_
                refine AW_take 5 rfl rfl (by decide +kernel) (by decide +kernel) (by decide +kernel) (fun w ⟨kd, mp, pv, wv, bx, ks_, K1, K2, HB, KB⟩ => Ev_idx k (pv.sls.ad hgj) sl_56 rfl rfl rfl rfl (by omega)) ⟨kd, mp, pv, wv, bx, ks_, K1, K2, HB, KB⟩ ?_
                refine AW_take 6 rfl rfl (by decide +kernel) (by decide +kernel) (by decide +kernel) (fun w ⟨kd, mp, pv, wv, bx, ks_, K1, K2, HB, KB⟩ => Ev_load (v := .func (.func 44) #[] #[.pointer (some ⟨p.box, 0, none⟩)]) one_80 rfl rfl (K1.one 0 rfl)) ⟨kd, mp, pv, wv, bx, ks_, K1, K2, HB, KB⟩ ?_
                refine AW_take 7 rfl rfl (by decide +kernel) (by decide +kernel) (by decide +kernel) (fun w ⟨kd, mp, pv, wv, bx, ks_, K1, K2, HB, KB⟩ => Ev_mvp (.inl rfl) rfl) ⟨kd, mp, pv, wv, bx, ks_, K1, K2, HB, KB⟩ ?_
                refine AW_take 8 rfl rfl (by decide +kernel) (by decide +kernel) (by decide +kernel) (fun w ⟨kd, mp, pv, wv, bx, ks_, K1, K2, HB, KB⟩ => Ev_mvp (.inl rfl) rfl) ⟨kd, mp, pv, wv, bx, ks_, K1, K2, HB, KB⟩ ?_
                refine AW_take 9 rfl rfl (by decide +kernel) (by decide +kernel) (by decide +kernel) (fun w ⟨kd, mp, pv, wv, bx, ks_, K1, K2, HB, KB⟩ => Ev_nilCheck rfl rfl) ⟨kd, mp, pv, wv, bx, ks_, K1, K2, HB, KB⟩ ?_
                refine AW_take 10 rfl rfl (by decide +kernel) (by decide +kernel) (by decide +kernel) (fun w ⟨kd, mp, pv, wv, bx, ks_, K1, K2, HB, KB⟩ => Ev_fieldAddr fld_59_4 rfl rfl) ⟨kd, mp, pv, wv, bx, ks_, K1, K2, HB, KB⟩ ?_
                refine AW_take 11 rfl rfl (by decide +kernel) (by decide +kernel) (by decide +kernel) (fun w ⟨kd, mp, pv, wv, bx, ks_, K1, K2, HB, KB⟩ => Ev_load one_57 rfl rfl (kd.ld (q := 4) rfl)) ⟨kd, mp, pv, wv, bx, ks_, K1, K2, HB, KB⟩ ?_
                refine AW_take 12 rfl rfl (by decide +kernel) (by decide +kernel) (by decide +kernel) (fun w ⟨kd, mp, pv, wv, bx, ks_, K1, K2, HB, KB⟩ => Ev_mvi (.inl rfl) rfl) ⟨kd, mp, pv, wv, bx, ks_, K1, K2, HB, KB⟩ ?_
                refine AW_take 13 rfl rfl (by decide +kernel) (by decide +kernel) (by decide +kernel) (fun w ⟨kd, mp, pv, wv, bx, ks_, K1, K2, HB, KB⟩ => Ev_idx k (wv.sls.ad hgw) sl_57 rfl rfl rfl rfl (by omega)) ⟨kd, mp, pv, wv, bx, ks_, K1, K2, HB, KB⟩ ?_
                refine AW_take 14 rfl rfl (by decide +kernel) (by decide +kernel) (by decide +kernel) (fun w ⟨kd, mp, pv, wv, bx, ks_, K1, K2, HB, KB⟩ => Ev_load (v := .int .i64 (p.a : Int)) one_3 rfl rfl (K2.one 0 rfl)) ⟨kd, mp, pv, wv, bx, ks_, K1, K2, HB, KB⟩ ?_
                refine AW_take 16 rfl rfl (by decide +kernel) (by decide +kernel) (by decide +kernel) (fun w ⟨kd, mp, pv, wv, bx, ks_, K1, K2, HB, KB⟩ => Ev_mvi (.inl rfl) rfl) ⟨kd, mp, pv, wv, bx, ks_, K1, K2, HB, KB⟩ ?_
                refine AW_one 15 (by decide +kernel) (Next.mk rfl rfl ?_)
                refine Stp_call ent_34 rfl rfl rfl (sector_c (⟨kd, kl, mp, pv, wv, bx, sep_last hs _, ok_last hok hcl⟩ : DkS (fun b => D b ∧ b < NW) _ bd { d with last := d.crashUp ks torn k }) hpok.1) ?_
                rintro _ w9 ⟨E9, rfl⟩
                have Z9 := E9.size
                have T := T.keep0 E9
                have kd := kd.keep0 E9
                have kl := kl.keep0 E9
                have mp := mp.keep0 E9
                have pv := pv.keep0 E9
                have wv := wv.keep0 E9
                have bx := bx.keep0 E9
                have ks_ := ks_.keep0 E9
                have K1 := K1.keep0 E9
                have K2 := K2.keep0 E9
                have HB := HB.keep0 E9
                have KB := KB.keep0 E9
                refine ⟨⟨kd, mp, pv, wv, bx, ks_, K1, K2, HB, KB⟩, ?_⟩
                refine AW_one 17 (by decide +kernel) (Next.mk rfl rfl ?_)
                refine Stp_call (cap := [.pointer (some ⟨p.box, 0, none⟩)]) ent_44 rfl rfl rfl (wr1_c (n := d.size) (off := p.a * d.size) (c := d.many * d.size - p.a * d.size) (most := d.most ks torn k) (m := p.b) kl HB (hs.bx p hpm).2.2.1 (by omega) (by rw [By_flat_len]; omega)) ?_
                rintro _ w10 ⟨rfl, E10, hzz10, KL2⟩
                have Z10 := E10.size
                have T := T.trans' E10 (fun i _ h => by rw [show i = d.bl from h]; exact hs.d2.1)
                have kd := kd.keepb E10 (Ne.symm hs.n1)
                have mp := mp.keepb E10 (Ne.symm hs.n3)
                have pv := pv.keepb E10 (fun b _ hb => (hs.pv b _ _ hb).2.2.1)
                have wv := wv.keepb E10 (fun b _ hb => (hs.wv b _ _ hb).2.2.1)
                have bx := bx.keepb E10 (fun p hp => (hs.bx p hp).2.2.1)
                have ks_ := ks_.keepb E10 (fun h => hFD _ h.1 hs.d2.1)
                have K1 := K1.keepb E10 hk1b
                have K2 := K2.keepb E10 hk2b
                have HB := HB.keepb E10 (hs.bx p hpm).2.2.1
                have KB := KB.keepb E10 hkb
                have kl : Blk w10 d.bl 5 ((d.crashUp ks torn (k + 1)).map By).flatten := by
                  rw [hck]
                  rw [putAt_By (by rw [List.length_take]; omega)] at KL2
                  exact KL2
                refine ⟨⟨kd, mp, pv, wv, bx, ks_, K1, K2, HB, KB⟩, ?_⟩
                refine AW_done (by decide +kernel) ?_
                refine CW_re [(0, .pointer _), (2, .int _ _), (7, .slice _ _ _), (8, .int _ _), (38, .slice _ _ _), (39, .int _ _), (40, .int _ _)] ⟨rfl, rfl, rfl, rfl, rfl, rfl, rfl, trivial⟩ (fun g => ?_)
                refine CW_reg rfl ?_
                refine OW_ev (Ev_add rfl rfl rfl (by first | (apply IntWalk.i64_in; omega) | (apply IntWalk.u64_in; omega) | (apply IntWalk.u32_in; omega) | (apply IntWalk.u8_in; omega) | (apply IntWalk.i32_in; omega) | rfl)) rfl ?_
                refine OW_ev (Ev_mvi (.inl rfl) rfl) rfl ?_
                refine OW_nil ?_
                exact ⟨k + 1, by omega, ⟨rfl, rfl, rfl, rfl, rfl, rfl, congrArg (Value.int .i64) (by omega), trivial⟩, by omega, kd, kl, mp, pv, wv, bx, T, ks_⟩
            · have d6 := c6
              first | (with_reducible replace d6 := of_decide_eq_false d6) | (with_reducible replace d6 := bnf d6; try (with_reducible replace d6 := of_decide_eq_true d6)) | skip
              have h2 : ¬ 0 ≤ torn := by omega
              have hmo : d.most ks torn k = d.size := if_neg (fun h => h2 h.2.1)
              refine OW_no rfl rfl rfl rfl c6 ?_
              refine OW_no rfl rfl rfl rfl c6 ?_
              refine OW_no rfl rfl rfl rfl c6 ?_
              refine OW_no rfl rfl rfl rfl c6 ?_
              refine OW_no rfl rfl rfl rfl c6 ?_
              refine OW_no rfl rfl rfl rfl c6 ?_
              refine OW_ev (Ev_pickb_f rfl rfl c6 rfl) rfl ?_
              refine OW_nil ?_
              refine CW_join (fun f wj => AllEq f [(0, .pointer (some ⟨bd, 0, none⟩)), (2, .int .i64 torn), (7, .slice ao ks.length kc), (8, .int .i64 (lastTrue ks ks.length)), (9, .int .i64 (k : Int)), (11, .int .i64 ((d.most ks torn k : Nat) : Int)), (38, .slice ao ks.length kc), (39, .int .i64 (ks.length : Int)), (40, .int .i64 (k : Int))] ∧ (wr = wj)) ?_ ?_
              ·
                refine CW_cond_f rfl rfl ?_
                refine CW_skip ?_
                exact ⟨⟨rfl, rfl, rfl, rfl, rfl, by first | exact congrArg (Value.int .i64) hmo.symm | (rw [hmo]; rfl), rfl, rfl, rfl, trivial⟩, rfl⟩
              ·
                rintro f _ ⟨hf, rfl⟩
                obtain ⟨g, rfl⟩ : ∃ g, f = upl g [(0, .pointer (some ⟨bd, 0, none⟩)), (2, .int .i64 torn), (7, .slice ao ks.length kc), (8, .int .i64 (lastTrue ks ks.length)), (9, .int .i64 (k : Int)), (11, .int .i64 ((d.most ks torn k : Nat) : Int)), (38, .slice ao ks.length kc), (39, .int .i64 (ks.length : Int)), (40, .int .i64 (k : Int))] := ⟨f, upl_self hf⟩
                clear hf
                refine CW_draw (fun W => kd.here W ∧ mp.here W ∧ pv.here W ∧ wv.here W ∧ bx.here W ∧ ks_.here W ∧ K1.here W ∧ K2.here W ∧ HB.here W ∧ KB.here W) mixed rfl (fun _ _ _ h => nomatch h.1) ?_
                have E11 : Kp0 _ _ := Kp.drew wr nob
                have Z11 : (World.drew wr).heap.size = wr.heap.size := rfl
                generalize World.drew wr = w11 at E11 Z11 ⊢
                have T := T.keep0 E11
                have kd := kd.keep0 E11
                have kl := kl.keep0 E11
                have mp := mp.keep0 E11
                have pv := pv.keep0 E11
                have wv := wv.keep0 E11
                have bx := bx.keep0 E11
                have ks_ := ks_.keep0 E11
                have K1 := K1.keep0 E11
                have K2 := K2.keep0 E11
                have HB := HB.keep0 E11
                have KB := KB.keep0 E11
                refine AW_take 0 rfl rfl (by decide +kernel) (by decide +kernel) (by decide +kernel) (fun w ⟨kd, mp, pv, wv, bx, ks_, K1, K2, HB, KB⟩ => Ev_mvp (.inl rfl) rfl) ⟨kd, mp, pv, wv, bx, ks_, K1, K2, HB, KB⟩ ?_
                refine AW_take 1 rfl rfl (by decide +kernel) (by decide +kernel) (by decide +kernel) (fun w ⟨kd, mp, pv, wv, bx, ks_, K1, K2, HB, KB⟩ => Ev_nilCheck rfl rfl) ⟨kd, mp, pv, wv, bx, ks_, K1, K2, HB, KB⟩ ?_
                refine AW_take 2 rfl rfl (by decide +kernel) (by decide +kernel) (by decide +kernel) (fun w ⟨kd, mp, pv, wv, bx, ks_, K1, K2, HB, KB⟩ => Ev_fieldAddr fld_59_3 rfl rfl) ⟨kd, mp, pv, wv, bx, ks_, K1, K2, HB, KB⟩ ?_
                refine AW_take 3 rfl rfl (by decide +kernel) (by decide +kernel) (by decide +kernel) (fun w ⟨kd, mp, pv, wv, bx, ks_, K1, K2, HB, KB⟩ => Ev_load one_56 rfl rfl (kd.ld (q := 3) rfl)) ⟨kd, mp, pv, wv, bx, ks_, K1, K2, HB, KB⟩ ?_
                refine AW_take 4 rfl rfl (by decide +kernel) (by decide +kernel) (by decide +kernel) (fun w ⟨kd, mp, pv, wv, bx, ks_, K1, K2, HB, KB⟩ => Ev_mvi (.inl rfl) rfl) ⟨kd, mp, pv, wv, bx, ks_, K1, K2, HB, KB⟩ ?_
                refine AW_take 5 rfl rfl (by decide +kernel) (by decide +kernel) (by decide +kernel) (fun w ⟨kd, mp, pv, wv, bx, ks_, K1, K2, HB, KB⟩ => Ev_idx k (pv.sls.ad hgj) sl_56 rfl rfl rfl rfl (by omega)) ⟨kd, mp, pv, wv, bx, ks_, K1, K2, HB, KB⟩ ?_
                refine AW_take 6 rfl rfl (by decide +kernel) (by decide +kernel) (by decide +kernel) (fun w ⟨kd, mp, pv, wv, bx, ks_, K1, K2, HB, KB⟩ => Ev_load (v := .func (.func 44) #[] #[.pointer (some ⟨p.box, 0, none⟩)]) one_80 rfl rfl (K1.one 0 rfl)) ⟨kd, mp, pv, wv, bx, ks_, K1, K2, HB, KB⟩ ?_
                refine AW_take 7 rfl rfl (by decide +kernel) (by decide +kernel) (by decide +kernel) (fun w ⟨kd, mp, pv, wv, bx, ks_, K1, K2, HB, KB⟩ => Ev_mvp (.inl rfl) rfl) ⟨kd, mp, pv, wv, bx, ks_, K1, K2, HB, KB⟩ ?_
                refine AW_take 8 rfl rfl (by decide +kernel) (by decide +kernel) (by decide +kernel) (fun w ⟨kd, mp, pv, wv, bx, ks_, K1, K2, HB, KB⟩ => Ev_mvp (.inl rfl) rfl) ⟨kd, mp, pv, wv, bx, ks_, K1, K2, HB, KB⟩ ?_
                refine AW_take 9 rfl rfl (by decide +kernel) (by decide +kernel) (by decide +kernel) (fun w ⟨kd, mp, pv, wv, bx, ks_, K1, K2, HB, KB⟩ => Ev_nilCheck rfl rfl) ⟨kd, mp, pv, wv, bx, ks_, K1, K2, HB, KB⟩ ?_
                refine AW_take 10 rfl rfl (by decide +kernel) (by decide +kernel) (by decide +kernel) (fun w ⟨kd, mp, pv, wv, bx, ks_, K1, K2, HB, KB⟩ => Ev_fieldAddr fld_59_4 rfl rfl) ⟨kd, mp, pv, wv, bx, ks_, K1, K2, HB, KB⟩ ?_
                refine AW_take 11 rfl rfl (by decide +kernel) (by decide +kernel) (by decide +kernel) (fun w ⟨kd, mp, pv, wv, bx, ks_, K1, K2, HB, KB⟩ => Ev_load one_57 rfl rfl (kd.ld (q := 4) rfl)) ⟨kd, mp, pv, wv, bx, ks_, K1, K2, HB, KB⟩ ?_
                refine AW_take 12 rfl rfl (by decide +kernel) (by decide +kernel) (by decide +kernel) (fun w ⟨kd, mp, pv, wv, bx, ks_, K1, K2, HB, KB⟩ => Ev_mvi (.inl rfl) rfl) ⟨kd, mp, pv, wv, bx, ks_, K1, K2, HB, KB⟩ ?_
                refine AW_take 13 rfl rfl (by decide +kernel) (by decide +kernel) (by decide +kernel) (fun w ⟨kd, mp, pv, wv, bx, ks_, K1, K2, HB, KB⟩ => Ev_idx k (wv.sls.ad hgw) sl_57 rfl rfl rfl rfl (by omega)) ⟨kd, mp, pv, wv, bx, ks_, K1, K2, HB, KB⟩ ?_
                refine AW_take 14 rfl rfl (by decide +kernel) (by decide +kernel) (by decide +kernel) (fun w ⟨kd, mp, pv, wv, bx, ks_, K1, K2, HB, KB⟩ => Ev_load (v := .int .i64 (p.a : Int)) one_3 rfl rfl (K2.one 0 rfl)) ⟨kd, mp, pv, wv, bx, ks_, K1, K2, HB, KB⟩ ?_
                refine AW_take 16 rfl rfl (by decide +kernel) (by decide +kernel) (by decide +kernel) (fun w ⟨kd, mp, pv, wv, bx, ks_, K1, K2, HB, KB⟩ => Ev_mvi (.inl rfl) rfl) ⟨kd, mp, pv, wv, bx, ks_, K1, K2, HB, KB⟩ ?_
                refine AW_one 15 (by decide +kernel) (Next.mk rfl rfl ?_)
                refine Stp_call ent_34 rfl rfl rfl (sector_c (⟨kd, kl, mp, pv, wv, bx, sep_last hs _, ok_last hok hcl⟩ : DkS (fun b => D b ∧ b < NW) _ bd { d with last := d.crashUp ks torn k }) hpok.1) ?_
                rintro _ w12 ⟨E12, rfl⟩
                have Z12 := E12.size
                have T := T.keep0 E12
                have kd := kd.keep0 E12
                have kl := kl.keep0 E12
                have mp := mp.keep0 E12
                have pv := pv.keep0 E12
                have wv := wv.keep0 E12
                have bx := bx.keep0 E12
                have ks_ := ks_.keep0 E12
                have K1 := K1.keep0 E12
                have K2 := K2.keep0 E12
                have HB := HB.keep0 E12
                have KB := KB.keep0 E12
                refine ⟨⟨kd, mp, pv, wv, bx, ks_, K1, K2, HB, KB⟩, ?_⟩
                refine AW_one 17 (by decide +kernel) (Next.mk rfl rfl ?_)
                refine Stp_call (cap := [.pointer (some ⟨p.box, 0, none⟩)]) ent_44 rfl rfl rfl (wr1_c (n := d.size) (off := p.a * d.size) (c := d.many * d.size - p.a * d.size) (most := d.most ks torn k) (m := p.b) kl HB (hs.bx p hpm).2.2.1 (by omega) (by rw [By_flat_len]; omega)) ?_
                rintro _ w13 ⟨rfl, E13, hzz13, KL2⟩
                have Z13 := E13.size
                have T := T.trans' E13 (fun i _ h => by rw [show i = d.bl from h]; exact hs.d2.1)
                have kd := kd.keepb E13 (Ne.symm hs.n1)
                have mp := mp.keepb E13 (Ne.symm hs.n3)
                have pv := pv.keepb E13 (fun b _ hb => (hs.pv b _ _ hb).2.2.1)
                have wv := wv.keepb E13 (fun b _ hb => (hs.wv b _ _ hb).2.2.1)
                have bx := bx.keepb E13 (fun p hp => (hs.bx p hp).2.2.1)
                have ks_ := ks_.keepb E13 (fun h => hFD _ h.1 hs.d2.1)
                have K1 := K1.keepb E13 hk1b
                have K2 := K2.keepb E13 hk2b
                have HB := HB.keepb E13 (hs.bx p hpm).2.2.1
                have KB := KB.keepb E13 hkb
                have kl : Blk w13 d.bl 5 ((d.crashUp ks torn (k + 1)).map By).flatten := by
                  rw [hck]
                  rw [putAt_By (by rw [List.length_take]; omega)] at KL2
                  exact KL2
                refine ⟨⟨kd, mp, pv, wv, bx, ks_, K1, K2, HB, KB⟩, ?_⟩
                refine AW_done (by decide +kernel) ?_
                refine CW_re [(0, .pointer _), (2, .int _ _), (7, .slice _ _ _), (8, .int _ _), (38, .slice _ _ _), (39, .int _ _), (40, .int _ _)] ⟨rfl, rfl, rfl, rfl, rfl, rfl, rfl, trivial⟩ (fun g => ?_)
                refine CW_reg rfl ?_
                refine OW_ev (Ev_add rfl rfl rfl (by first | (apply IntWalk.i64_in; omega) | (apply IntWalk.u64_in; omega) | (apply IntWalk.u32_in; omega) | (apply IntWalk.u8_in; omega) | (apply IntWalk.i32_in; omega) | rfl)) rfl ?_
                refine OW_ev (Ev_mvi (.inl rfl) rfl) rfl ?_
                refine OW_nil ?_
                exact ⟨k + 1, by omega, ⟨rfl, rfl, rfl, rfl, rfl, rfl, congrArg (Value.int .i64) (by omega), trivial⟩, by omega, kd, kl, mp, pv, wv, bx, T, ks_⟩
          · have d5 := c5
            first | (with_reducible replace d5 := of_decide_eq_false d5) | (with_reducible replace d5 := bnf d5; try (with_reducible replace d5 := of_decide_eq_true d5)) | skip
            have h1 : ¬ (k : Int) = lastTrue ks ks.length := d5
            have hmo : d.most ks torn k = d.size := if_neg (fun h => h1 h.1)
            refine OW_no rfl rfl rfl rfl c5 ?_
            refine OW_no rfl rfl rfl rfl c5 ?_
            refine OW_ev (Ev_pickb_f rfl rfl c5 rfl) rfl ?_
            refine OW_ev (Ev_mvb (.inl rfl) rfl) rfl ?_
            refine OW_no rfl rfl rfl rfl rfl ?_
            refine OW_no rfl rfl rfl rfl rfl ?_
            refine OW_no rfl rfl rfl rfl rfl ?_
            refine OW_no rfl rfl rfl rfl rfl ?_
            refine OW_no rfl rfl rfl rfl rfl ?_
            refine OW_no rfl rfl rfl rfl rfl ?_
            refine OW_ev (Ev_pickb_f rfl rfl rfl rfl) rfl ?_
            refine OW_nil ?_
            refine CW_join (fun f wj => AllEq f [(0, .pointer (some ⟨bd, 0, none⟩)), (2, .int .i64 torn), (7, .slice ao ks.length kc), (8, .int .i64 (lastTrue ks ks.length)), (9, .int .i64 (k : Int)), (11, .int .i64 ((d.most ks torn k : Nat) : Int)), (38, .slice ao ks.length kc), (39, .int .i64 (ks.length : Int)), (40, .int .i64 (k : Int))] ∧ (wr = wj)) ?_ ?_
            ·
              refine CW_cond_f rfl rfl ?_
              refine CW_skip ?_
              exact ⟨⟨rfl, rfl, rfl, rfl, rfl, by first | exact congrArg (Value.int .i64) hmo.symm | (rw [hmo]; rfl), rfl, rfl, rfl, trivial⟩, rfl⟩
            ·
              rintro f _ ⟨hf, rfl⟩
              obtain ⟨g, rfl⟩ : ∃ g, f = upl g [(0, .pointer (some ⟨bd, 0, none⟩)), (2, .int .i64 torn), (7, .slice ao ks.length kc), (8, .int .i64 (lastTrue ks ks.length)), (9, .int .i64 (k : Int)), (11, .int .i64 ((d.most ks torn k : Nat) : Int)), (38, .slice ao ks.length kc), (39, .int .i64 (ks.length : Int)), (40, .int .i64 (k : Int))] := ⟨f, upl_self hf⟩
              clear hf
              refine CW_draw (fun W => kd.here W ∧ mp.here W ∧ pv.here W ∧ wv.here W ∧ bx.here W ∧ ks_.here W ∧ K1.here W ∧ K2.here W ∧ HB.here W ∧ KB.here W) mixed rfl (fun _ _ _ h => nomatch h.1) ?_
              have E14 : Kp0 _ _ := Kp.drew wr nob
              have Z14 : (World.drew wr).heap.size = wr.heap.size := rfl
              generalize World.drew wr = w14 at E14 Z14 ⊢
              have T := T.keep0 E14
              have kd := kd.keep0 E14
              have kl := kl.keep0 E14
              have mp := mp.keep0 E14
              have pv := pv.keep0 E14
              have wv := wv.keep0 E14
              have bx := bx.keep0 E14
              have ks_ := ks_.keep0 E14
              have K1 := K1.keep0 E14
              have K2 := K2.keep0 E14
              have HB := HB.keep0 E14
              have KB := KB.keep0 E14
              refine AW_take 0 rfl rfl (by decide +kernel) (by decide +kernel) (by decide +kernel) (fun w ⟨kd, mp, pv, wv, bx, ks_, K1, K2, HB, KB⟩ => Ev_mvp (.inl rfl) rfl) ⟨kd, mp, pv, wv, bx, ks_, K1, K2, HB, KB⟩ ?_
              refine AW_take 1 rfl rfl (by decide +kernel) (by decide +kernel) (by decide +kernel) (fun w ⟨kd, mp, pv, wv, bx, ks_, K1, K2, HB, KB⟩ => Ev_nilCheck rfl rfl) ⟨kd, mp, pv, wv, bx, ks_, K1, K2, HB, KB⟩ ?_
              refine AW_take 2 rfl rfl (by decide +kernel) (by decide +kernel) (by decide +kernel) (fun w ⟨kd, mp, pv, wv, bx, ks_, K1, K2, HB, KB⟩ => Ev_fieldAddr fld_59_3 rfl rfl) ⟨kd, mp, pv, wv, bx, ks_, K1, K2, HB, KB⟩ ?_
              refine AW_take 3 rfl rfl (by decide +kernel) (by decide +kernel) (by decide +kernel) (fun w ⟨kd, mp, pv, wv, bx, ks_, K1, K2, HB, KB⟩ => Ev_load one_56 rfl rfl (kd.ld (q := 3) rfl)) ⟨kd, mp, pv, wv, bx, ks_, K1, K2, HB, KB⟩ ?_
              refine AW_take 4 rfl rfl (by decide +kernel) (by decide +kernel) (by decide +kernel) (fun w ⟨kd, mp, pv, wv, bx, ks_, K1, K2, HB, KB⟩ => Ev_mvi (.inl rfl) rfl) ⟨kd, mp, pv, wv, bx, ks_, K1, K2, HB, KB⟩ ?_
              refine AW_take 5 rfl rfl (by decide +kernel) (by decide +kernel) (by decide +kernel) (fun w ⟨kd, mp, pv, wv, bx, ks_, K1, K2, HB, KB⟩ => Ev_idx k (pv.sls.ad hgj) sl_56 rfl rfl rfl rfl (by omega)) ⟨kd, mp, pv, wv, bx, ks_, K1, K2, HB, KB⟩ ?_
              refine AW_take 6 rfl rfl (by decide +kernel) (by decide +kernel) (by decide +kernel) (fun w ⟨kd, mp, pv, wv, bx, ks_, K1, K2, HB, KB⟩ => Ev_load (v := .func (.func 44) #[] #[.pointer (some ⟨p.box, 0, none⟩)]) one_80 rfl rfl (K1.one 0 rfl)) ⟨kd, mp, pv, wv, bx, ks_, K1, K2, HB, KB⟩ ?_
              refine AW_take 7 rfl rfl (by decide +kernel) (by decide +kernel) (by decide +kernel) (fun w ⟨kd, mp, pv, wv, bx, ks_, K1, K2, HB, KB⟩ => Ev_mvp (.inl rfl) rfl) ⟨kd, mp, pv, wv, bx, ks_, K1, K2, HB, KB⟩ ?_
              refine AW_take 8 rfl rfl (by decide +kernel) (by decide +kernel) (by decide +kernel) (fun w ⟨kd, mp, pv, wv, bx, ks_, K1, K2, HB, KB⟩ => Ev_mvp (.inl rfl) rfl) ⟨kd, mp, pv, wv, bx, ks_, K1, K2, HB, KB⟩ ?_
              refine AW_take 9 rfl rfl (by decide +kernel) (by decide +kernel) (by decide +kernel) (fun w ⟨kd, mp, pv, wv, bx, ks_, K1, K2, HB, KB⟩ => Ev_nilCheck rfl rfl) ⟨kd, mp, pv, wv, bx, ks_, K1, K2, HB, KB⟩ ?_
              refine AW_take 10 rfl rfl (by decide +kernel) (by decide +kernel) (by decide +kernel) (fun w ⟨kd, mp, pv, wv, bx, ks_, K1, K2, HB, KB⟩ => Ev_fieldAddr fld_59_4 rfl rfl) ⟨kd, mp, pv, wv, bx, ks_, K1, K2, HB, KB⟩ ?_
              refine AW_take 11 rfl rfl (by decide +kernel) (by decide +kernel) (by decide +kernel) (fun w ⟨kd, mp, pv, wv, bx, ks_, K1, K2, HB, KB⟩ => Ev_load one_57 rfl rfl (kd.ld (q := 4) rfl)) ⟨kd, mp, pv, wv, bx, ks_, K1, K2, HB, KB⟩ ?_
              refine AW_take 12 rfl rfl (by decide +kernel) (by decide +kernel) (by decide +kernel) (fun w ⟨kd, mp, pv, wv, bx, ks_, K1, K2, HB, KB⟩ => Ev_mvi (.inl rfl) rfl) ⟨kd, mp, pv, wv, bx, ks_, K1, K2, HB, KB⟩ ?_
              refine AW_take 13 rfl rfl (by decide +kernel) (by decide +kernel) (by decide +kernel) (fun w ⟨kd, mp, pv, wv, bx, ks_, K1, K2, HB, KB⟩ => Ev_idx k (wv.sls.ad hgw) sl_57 rfl rfl rfl rfl (by omega)) ⟨kd, mp, pv, wv, bx, ks_, K1, K2, HB, KB⟩ ?_
              refine AW_take 14 rfl rfl (by decide +kernel) (by decide +kernel) (by decide +kernel) (fun w ⟨kd, mp, pv, wv, bx, ks_, K1, K2, HB, KB⟩ => Ev_load (v := .int .i64 (p.a : Int)) one_3 rfl rfl (K2.one 0 rfl)) ⟨kd, mp, pv, wv, bx, ks_, K1, K2, HB, KB⟩ ?_
              refine AW_take 16 rfl rfl (by decide +kernel) (by decide +kernel) (by decide +kernel) (fun w ⟨kd, mp, pv, wv, bx, ks_, K1, K2, HB, KB⟩ => Ev_mvi (.inl rfl) rfl) ⟨kd, mp, pv, wv, bx, ks_, K1, K2, HB, KB⟩ ?_
              refine AW_one 15 (by decide +kernel) (Next.mk rfl rfl ?_)
              refine Stp_call ent_34 rfl rfl rfl (sector_c (⟨kd, kl, mp, pv, wv, bx, sep_last hs _, ok_last hok hcl⟩ : DkS (fun b => D b ∧ b < NW) _ bd { d with last := d.crashUp ks torn k }) hpok.1) ?_
              rintro _ w15 ⟨E15, rfl⟩
              have Z15 := E15.size
              have T := T.keep0 E15
              have kd := kd.keep0 E15
              have kl := kl.keep0 E15
              have mp := mp.keep0 E15
              have pv := pv.keep0 E15
              have wv := wv.keep0 E15
              have bx := bx.keep0 E15
              have ks_ := ks_.keep0 E15
              have K1 := K1.keep0 E15
              have K2 := K2.keep0 E15
              have HB := HB.keep0 E15
              have KB := KB.keep0 E15
              refine ⟨⟨kd, mp, pv, wv, bx, ks_, K1, K2, HB, KB⟩, ?_⟩
              refine AW_one 17 (by decide +kernel) (Next.mk rfl rfl ?_)
              refine Stp_call (cap := [.pointer (some ⟨p.box, 0, none⟩)]) ent_44 rfl rfl rfl (wr1_c (n := d.size) (off := p.a * d.size) (c := d.many * d.size - p.a * d.size) (most := d.most ks torn k) (m := p.b) kl HB (hs.bx p hpm).2.2.1 (by omega) (by rw [By_flat_len]; omega)) ?_
              rintro _ w16 ⟨rfl, E16, hzz16, KL2⟩
              have Z16 := E16.size
              have T := T.trans' E16 (fun i _ h => by rw [show i = d.bl from h]; exact hs.d2.1)
              have kd := kd.keepb E16 (Ne.symm hs.n1)
              have mp := mp.keepb E16 (Ne.symm hs.n3)
              have pv := pv.keepb E16 (fun b _ hb => (hs.pv b _ _ hb).2.2.1)
              have wv := wv.keepb E16 (fun b _ hb => (hs.wv b _ _ hb).2.2.1)
              have bx := bx.keepb E16 (fun p hp => (hs.bx p hp).2.2.1)
              have ks_ := ks_.keepb E16 (fun h => hFD _ h.1 hs.d2.1)
              have K1 := K1.keepb E16 hk1b
              have K2 := K2.keepb E16 hk2b
              have HB := HB.keepb E16 (hs.bx p hpm).2.2.1
              have KB := KB.keepb E16 hkb
              have kl : Blk w16 d.bl 5 ((d.crashUp ks torn (k + 1)).map By).flatten := by
                rw [hck]
                rw [putAt_By (by rw [List.length_take]; omega)] at KL2
                exact KL2
              refine ⟨⟨kd, mp, pv, wv, bx, ks_, K1, K2, HB, KB⟩, ?_⟩
              refine AW_done (by decide +kernel) ?_
              refine CW_re [(0, .pointer _), (2, .int _ _), (7, .slice _ _ _), (8, .int _ _), (38, .slice _ _ _), (39, .int _ _), (40, .int _ _)] ⟨rfl, rfl, rfl, rfl, rfl, rfl, rfl, trivial⟩ (fun g => ?_)
              refine CW_reg rfl ?_
              refine OW_ev (Ev_add rfl rfl rfl (by first | (apply IntWalk.i64_in; omega) | (apply IntWalk.u64_in; omega) | (apply IntWalk.u32_in; omega) | (apply IntWalk.u8_in; omega) | (apply IntWalk.i32_in; omega) | rfl)) rfl ?_
              refine OW_ev (Ev_mvi (.inl rfl) rfl) rfl ?_
              refine OW_nil ?_
              exact ⟨k + 1, by omega, ⟨rfl, rfl, rfl, rfl, rfl, rfl, congrArg (Value.int .i64) (by omega), trivial⟩, by omega, kd, kl, mp, pv, wv, bx, T, ks_⟩
      · have d3 := c3
        first | (with_reducible replace d3 := of_decide_eq_false d3) | (with_reducible replace d3 := bnf d3; try (with_reducible replace d3 := of_decide_eq_true d3)) | skip
        have hk2 : k = ks.length := by omega
        have hcl := crashUp_len hok ks torn k
        refine CW_exit ?_
        refine blk_same ?_
        refine CW_seq ?_
        refine CW_reg rfl ?_
        refine OW_ev (Ev_mvp (.inl rfl) rfl) rfl ?_
        rw [hk2] at kl hcl
        refine OW_st rfl (Stp_call ent_35 rfl rfl rfl (settle_c (⟨kd, kl, mp, pv, wv, bx, sep_last hs _, ok_last hok hcl⟩ : DkS (fun b => D b ∧ b < NW) _ bd { d with last := d.crashUp ks torn ks.length })) ?_)
        rintro _ w17 ⟨rfl, E17, HS⟩
        have Z17 := E17.size
        have T := T.trans' E17 (fun i _ h => h.1)
        obtain ⟨kd, kl, mp, pv, wv, bx, hs2, hok2⟩ := HS
        have kd : Blk w17 bd 59 [.int .i64 (d.many : Int), .int .i64 (d.size : Int), .slice (some ⟨d.bl, 0, none⟩) (d.many * d.size) (d.many * d.size), .slice none 0 0, .slice none 0 0, .map (some d.bm), .bool d.g.down, .bool d.g.breaks, .int .i64 d.g.left] := kd
        refine OW_nil ?_
        refine CW_seq ?_
        refine CW_reg rfl ?_
        refine OW_ev (Ev_mvp (.inl rfl) rfl) rfl ?_
        refine OW_ev (Ev_mvp (.inl rfl) rfl) rfl ?_
        refine OW_ev (Ev_mvp (.inl rfl) rfl) rfl ?_
        refine OW_ev (Ev_nilCheck rfl rfl) rfl ?_
        refine OW_ev (Ev_fieldAddr fld_59_6 rfl rfl) rfl ?_
        refine OW_st rfl (Stp_store (q := 6) kd siz_4 rfl rfl rfl rfl (Nat.le_of_ble_eq_true rfl) rfl ?_)
        intro w18 hz18 E18 B18
        have Z18 := E18.size
        have T := T.trans' E18 (fun i _ h => by rw [show i = bd from h]; exact hs.d1.1)
        have kl := kl.keepb E18 hs2.n1
        have mp := mp.keepb E18 hs2.n2
        have pv := pv.keepb E18 (fun b _ hb => (hs2.pv b _ _ hb).2.1)
        have wv := wv.keepb E18 (fun b _ hb => (hs2.wv b _ _ hb).2.1)
        have bx := bx.keepb E18 (fun p hp => (hs2.bx p hp).2.1)
        clear kd
        have kd := B18
        clear B18
        have kd : Blk w18 bd 59 [.int .i64 (d.many : Int), .int .i64 (d.size : Int), .slice (some ⟨d.bl, 0, none⟩) (d.many * d.size) (d.many * d.size), .slice none 0 0, .slice none 0 0, .map (some d.bm), .bool false, .bool d.g.breaks, .int .i64 d.g.left] := kd
        refine OW_ev (Ev_nilCheck rfl rfl) rfl ?_
        refine OW_ev (Ev_fieldAddr fld_59_7 rfl rfl) rfl ?_
        refine OW_st rfl (Stp_store (q := 7) kd siz_4 rfl rfl rfl rfl (Nat.le_of_ble_eq_true rfl) rfl ?_)
        intro w19 hz19 E19 B19
        have Z19 := E19.size
        have T := T.trans' E19 (fun i _ h => by rw [show i = bd from h]; exact hs.d1.1)
        have kl := kl.keepb E19 hs2.n1
        have mp := mp.keepb E19 hs2.n2
        have pv := pv.keepb E19 (fun b _ hb => (hs2.pv b _ _ hb).2.1)
        have wv := wv.keepb E19 (fun b _ hb => (hs2.wv b _ _ hb).2.1)
        have bx := bx.keepb E19 (fun p hp => (hs2.bx p hp).2.1)
        clear kd
        have kd := B19
        clear B19
        have kd : Blk w19 bd 59 [.int .i64 (d.many : Int), .int .i64 (d.size : Int), .slice (some ⟨d.bl, 0, none⟩) (d.many * d.size) (d.many * d.size), .slice none 0 0, .slice none 0 0, .map (some d.bm), .bool false, .bool false, .int .i64 d.g.left] := kd
        refine OW_ev (Ev_nilCheck rfl rfl) rfl ?_
        refine OW_ev (Ev_fieldAddr fld_59_8 rfl rfl) rfl ?_
        refine OW_st rfl (Stp_store (q := 8) kd siz_3 rfl rfl rfl rfl (Nat.le_of_ble_eq_true rfl) rfl ?_)
        intro w20 hz20 E20 B20
        have Z20 := E20.size
        have T := T.trans' E20 (fun i _ h => by rw [show i = bd from h]; exact hs.d1.1)
        have kl := kl.keepb E20 hs2.n1
        have mp := mp.keepb E20 hs2.n2
        have pv := pv.keepb E20 (fun b _ hb => (hs2.pv b _ _ hb).2.1)
        have wv := wv.keepb E20 (fun b _ hb => (hs2.wv b _ _ hb).2.1)
        have bx := bx.keepb E20 (fun p hp => (hs2.bx p hp).2.1)
        clear kd
        have kd := B20
        clear B20
        have kd : Blk w20 bd 59 [.int .i64 (d.many : Int), .int .i64 (d.size : Int), .slice (some ⟨d.bl, 0, none⟩) (d.many * d.size) (d.many * d.size), .slice none 0 0, .slice none 0 0, .map (some d.bm), .bool false, .bool false, .int .i64 0] := kd
        refine OW_nil ?_
        refine CW_seq ?_
        refine CW_re [] trivial (fun g => ?_)
        refine CW_reg rfl ?_
        refine OW_ev (Ev_c (.inr rfl)) rfl ?_
        refine OW_nil ?_
        refine CW_ret ?_
        refine ⟨rfl, _, (.tmp rfl .nil), ?_⟩
        refine ⟨rfl, T, ?_⟩
        refine DkS.mono (D := fun b => D b ∧ b < NW) ⟨kd, kl, mp, pv, wv, bx, ⟨hs2.d1, hs2.d2, hs2.d3, hs2.n1, hs2.n2, hs2.n3, hs2.pv, hs2.wv, hs2.bx, hs2.e0⟩, ⟨hok2.many, hok2.size, hok2.last, hok2.ps, ⟨by show (-9223372036854775808 : Int) ≤ 0; omega, by show (0 : Int) ≤ 9223372036854775807; omega, fun h => (nomatch h)⟩⟩⟩ (fun b h => h.1)

end Go.Proofs.Ythfelkjklnhdiaa