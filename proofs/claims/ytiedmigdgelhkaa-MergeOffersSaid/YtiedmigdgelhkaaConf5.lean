/- Contracts of package blackboxref17. -/
import Derived.Test.YtiedmigdgelhkaaTypes
import Derived.Test.YtiedmigdgelhkaaPlanData
import Derived.Test.YtiedmigdgelhkaaConf4
namespace Go.Proofs.Ytiedmigdgelhkaa
open Go Go.RowKit Bx Go.Proofs

theorem u64_diff {a b : Int} (ha : i64r a) (hb : i64r b) (h : b ≤ a) : IntKind.u64.wrap (IntKind.u64.wrap a - IntKind.u64.wrap b) = a - b := by
  unfold i64r at ha hb
  simp only [IntKind.wrap, IntKind.bits, IntKind.signed]
  simp only [Bool.false_and, Bool.false_eq_true, if_false]
  omega
theorem u64_pos {a : Int} (ha : 0 ≤ a ∧ a ≤ 9223372036854775807) : IntKind.u64.wrap a = a := by
  apply IntWalk.u64_in; omega
theorem numBad_def (p : PlnM) : p.r.numBad = decide (p.mem < 1 ∨ 4096 < p.mem ∨ p.ps.length < 1 ∨ 8 < p.ps.length ∨ p.ws.length < 1 ∨ 32 < p.ws.length ∨ 16 < p.cs.length) := by
  simp [Pln.numBad, PlnM.r]
theorem err_num {p : Pln} (h : p.numBad = true) : p.err = 2 := by unfold Pln.err; rw [if_pos h]
theorem err_parts {p : Pln} (h : p.numBad = false) (h1 : firstErr p.partAt p.ps.length ≠ 0) : p.err = firstErr p.partAt p.ps.length := by
  unfold Pln.err; rw [if_neg (by simp [h]), if_pos h1]
theorem err_wins {p : Pln} (h : p.numBad = false) (h1 : firstErr p.partAt p.ps.length = 0) (h2 : firstErr p.winAt p.ws.length ≠ 0) : p.err = firstErr p.winAt p.ws.length := by
  unfold Pln.err; rw [if_neg (by simp [h]), if_neg (by simp [h1]), if_pos h2]
theorem err_drain {p : Pln} (h : p.numBad = false) (h1 : firstErr p.partAt p.ps.length = 0) (h2 : firstErr p.winAt p.ws.length = 0) (h3 : p.drained = false) : p.err = 7 := by
  unfold Pln.err; rw [if_neg (by simp [h]), if_neg (by simp [h1]), if_neg (by simp [h2]), if_pos h3]
theorem err_chans {p : Pln} (h : p.numBad = false) (h1 : firstErr p.partAt p.ps.length = 0) (h2 : firstErr p.winAt p.ws.length = 0) (h3 : p.drained = true) : p.err = firstErr p.chanAt p.cs.length := by
  unfold Pln.err; rw [if_neg (by simp [h]), if_neg (by simp [h1]), if_neg (by simp [h2]), if_neg (by simp [h3])]
theorem any_take {q : Int × Int → Bool} {xs : List (Int × Int)} {k : Nat} {x : Int × Int} (h : xs[k]? = some x) : (xs.take (k + 1)).any q = ((xs.take k).any q || q x) := by
  rw [List.take_add_one, h, List.any_append]
  simp

set_option maxRecDepth 10000 in
set_option maxHeartbeats 2000000 in
theorem behind_c (w : World) (x y : PrtM) (hx : x.r.ok) (hy : y.r.ok) (hs : 1 ≤ y.r.size) : Calls Try.prog 67 #[.agg x.cl.toArray, .agg y.cl.toArray] w (Ret fun v w' => Kp0 w w' ∧ v = .bool (decide (y.r.base + y.r.size ≤ x.r.base))) := by
  have T : Kp0 w w := Kp.refl _ _
  refine calls_start Try.func67 rfl (n := 23) rfl rfl rfl ?_
  refine CW_seq ?_
  refine CW_reg rfl ?_
  refine OW_st rfl (Stp_box (l := [.int _ _, .int _ _, .int _ _, .slice _ _ _, .int _ _, .int _ _]) rfl rfl rfl ?_)
  intro b1 w1 hb1 hz1 E1 B1
  have L1 : _ ≤ b1 := Nat.le_trans T.size (Nat.le_of_eq hb1.symm)
  have T := T.keep0 E1
  replace B1 : Blk w1 b1 65 (x.cl) := B1
  refine OW_st rfl (Stp_box (l := [.int _ _, .int _ _, .int _ _, .slice _ _ _, .int _ _, .int _ _]) rfl rfl rfl ?_)
  intro b2 w2 hb2 hz2 E2 B2
  have L2 : _ ≤ b2 := Nat.le_trans T.size (Nat.le_of_eq hb2.symm)
  have T := T.keep0 E2
  have B1 := B1.keep0 E2
  replace B2 : Blk w2 b2 65 (y.cl) := B2
  refine OW_ev (Ev_c (.inr rfl)) rfl ?_
  refine OW_nil ?_
  refine CW_seq ?_
  refine CW_reg rfl ?_
  refine OW_ev (Ev_fieldAddr fld_65_0 rfl rfl) rfl ?_
  refine OW_ev (Ev_load one_3 rfl rfl (B1.ld (q := 0) rfl)) rfl ?_
  refine OW_ev (Ev_fieldAddr fld_65_0 rfl rfl) rfl ?_
  refine OW_ev (Ev_load one_3 rfl rfl (B2.ld (q := 0) rfl)) rfl ?_
  refine OW_ev (Ev_geq rfl rfl rfl) rfl ?_
  refine OW_ev (Ev_mvb (.inl rfl) rfl) rfl ?_
  refine OW_split (d := .tmp 10) rfl (fun c3 => ?_) (fun c3 => ?_)
  · have d3 := c3
    first | (with_reducible replace d3 := of_decide_eq_true d3) | (with_reducible replace d3 := bnt d3; try (with_reducible replace d3 := of_decide_eq_false d3)) | skip
    have hge : y.r.base ≤ x.r.base := d3
    have hdf := u64_diff hx.1 hy.1 hge
    have hsz := u64_pos (a := y.r.size) ⟨by omega, hy.2.1.2⟩
    refine OW_yes rfl rfl rfl rfl c3 (Ev.stp (Ev_fieldAddr fld_65_0 rfl rfl) ?_)
    refine OW_yes rfl rfl rfl rfl c3 (Ev.stp (Ev_load one_3 rfl rfl (B1.ld (q := 0) rfl)) ?_)
    refine OW_yes rfl rfl rfl rfl c3 (Ev.stp (Ev_convw (kd := .u64) (by kernel_rfl) rfl rfl) ?_)
    refine OW_yes rfl rfl rfl rfl c3 (Ev.stp (Ev_fieldAddr fld_65_0 rfl rfl) ?_)
    refine OW_yes rfl rfl rfl rfl c3 (Ev.stp (Ev_load one_3 rfl rfl (B2.ld (q := 0) rfl)) ?_)
    refine OW_yes rfl rfl rfl rfl c3 (Ev.stp (Ev_convw (kd := .u64) (by kernel_rfl) rfl rfl) ?_)
    refine OW_yes rfl rfl rfl rfl c3 (Ev.stp (Ev_subw rfl rfl rfl) ?_)
    refine OW_yes rfl rfl rfl rfl c3 (Ev.stp (Ev_fieldAddr fld_65_1 rfl rfl) ?_)
    refine OW_yes rfl rfl rfl rfl c3 (Ev.stp (Ev_load one_3 rfl rfl (B2.ld (q := 1) rfl)) ?_)
    refine OW_yes rfl rfl rfl rfl c3 (Ev.stp (Ev_convw (kd := .u64) (by kernel_rfl) rfl rfl) ?_)
    refine OW_yes rfl rfl rfl rfl c3 (Ev.stp (Ev_geq rfl rfl rfl) ?_)
    refine OW_ev (Ev_pickb_t rfl rfl c3 rfl) rfl ?_
    refine OW_ev (Ev_mvb (.inr rfl) rfl) rfl ?_
    refine OW_nil ?_
    refine CW_ret ?_
    refine ⟨rfl, _, (.tmp rfl .nil), ?_⟩
    exact ⟨T, vb rfl (by first | (exact decide_eq_decide.2 (by rw [hdf, hsz]; omega)) | (exact (decide_eq_false (by omega)).symm))⟩
  · have d3 := c3
    first | (with_reducible replace d3 := of_decide_eq_false d3) | (with_reducible replace d3 := bnf d3; try (with_reducible replace d3 := of_decide_eq_true d3)) | skip
    have hge : ¬ y.r.base ≤ x.r.base := d3
    refine OW_no rfl rfl rfl rfl c3 ?_
    refine OW_no rfl rfl rfl rfl c3 ?_
    refine OW_no rfl rfl rfl rfl c3 ?_
    refine OW_no rfl rfl rfl rfl c3 ?_
    refine OW_no rfl rfl rfl rfl c3 ?_
    refine OW_no rfl rfl rfl rfl c3 ?_
    refine OW_no rfl rfl rfl rfl c3 ?_
    refine OW_no rfl rfl rfl rfl c3 ?_
    refine OW_no rfl rfl rfl rfl c3 ?_
    refine OW_no rfl rfl rfl rfl c3 ?_
    refine OW_no rfl rfl rfl rfl c3 ?_
    refine OW_ev (Ev_pickb_f rfl rfl c3 rfl) rfl ?_
    refine OW_ev (Ev_mvb (.inr rfl) rfl) rfl ?_
    refine OW_nil ?_
    refine CW_ret ?_
    refine ⟨rfl, _, (.tmp rfl .nil), ?_⟩
    exact ⟨T, vb rfl (by first | (exact decide_eq_decide.2 (by rw [hdf, hsz]; omega)) | (exact (decide_eq_false (by omega)).symm))⟩

set_option maxRecDepth 10000 in
set_option maxHeartbeats 2000000 in
theorem apartR_c (w : World) (x y : PrtM) (hx : x.r.ok) (hy : y.r.ok) : Calls Try.prog 62 #[.agg x.cl.toArray, .agg y.cl.toArray] w (Ret fun v w' => Kp0 w w' ∧ v = .bool (apart x.r y.r)) := by
  have T : Kp0 w w := Kp.refl _ _
  refine calls_start Try.func62 rfl (n := 23) rfl rfl rfl ?_
  refine CW_seq ?_
  refine CW_reg rfl ?_
  refine OW_st rfl (Stp_box (l := [.int _ _, .int _ _, .int _ _, .slice _ _ _, .int _ _, .int _ _]) rfl rfl rfl ?_)
  intro b1 w1 hb1 hz1 E1 B1
  have L1 : _ ≤ b1 := Nat.le_trans T.size (Nat.le_of_eq hb1.symm)
  have T := T.keep0 E1
  replace B1 : Blk w1 b1 65 (x.cl) := B1
  refine OW_st rfl (Stp_box (l := [.int _ _, .int _ _, .int _ _, .slice _ _ _, .int _ _, .int _ _]) rfl rfl rfl ?_)
  intro b2 w2 hb2 hz2 E2 B2
  have L2 : _ ≤ b2 := Nat.le_trans T.size (Nat.le_of_eq hb2.symm)
  have T := T.keep0 E2
  have B1 := B1.keep0 E2
  replace B2 : Blk w2 b2 65 (y.cl) := B2
  refine OW_ev (Ev_c (.inr rfl)) rfl ?_
  refine OW_nil ?_
  refine CW_seq ?_
  refine CW_reg rfl ?_
  refine OW_ev (Ev_fieldAddr fld_65_1 rfl rfl) rfl ?_
  refine OW_ev (Ev_load one_3 rfl rfl (B1.ld (q := 1) rfl)) rfl ?_
  refine OW_ev (Ev_lss rfl rfl rfl) rfl ?_
  refine OW_ev (Ev_mvb (.inl rfl) rfl) rfl ?_
  refine OW_split (d := .tmp 8) rfl (fun c3 => ?_) (fun c3 => ?_)
  · have d3 := c3
    first | (with_reducible replace d3 := of_decide_eq_true d3) | (with_reducible replace d3 := bnt d3; try (with_reducible replace d3 := of_decide_eq_false d3)) | skip
    have h1 := d3
    refine OW_no rfl rfl rfl rfl c3 ?_
    refine OW_no rfl rfl rfl rfl c3 ?_
    refine OW_no rfl rfl rfl rfl c3 ?_
    refine OW_ev (Ev_pickb_t rfl rfl c3 rfl) rfl ?_
    refine OW_ev (Ev_mvb (.inl rfl) rfl) rfl ?_
    refine OW_no rfl rfl rfl rfl rfl ?_
    refine OW_no rfl rfl rfl rfl rfl ?_
    refine OW_no rfl rfl rfl rfl rfl ?_
    refine OW_ev (Ev_pickb_t rfl rfl rfl rfl) rfl ?_
    refine OW_ev (Ev_mvb (.inl rfl) rfl) rfl ?_
    refine OW_no rfl rfl rfl rfl rfl ?_
    refine OW_no rfl rfl rfl rfl rfl ?_
    refine OW_no rfl rfl rfl rfl rfl ?_
    refine OW_ev (Ev_pickb_t rfl rfl rfl rfl) rfl ?_
    refine OW_ev (Ev_mvb (.inr rfl) rfl) rfl ?_
    refine OW_nil ?_
    refine CW_ret ?_
    refine ⟨rfl, _, (.tmp rfl .nil), ?_⟩
    exact ⟨T, vb rfl (by unfold apart; first | (exact (decide_eq_true (by omega)).symm) | (exact decide_eq_decide.2 (by omega)))⟩
  · have d3 := c3
    first | (with_reducible replace d3 := of_decide_eq_false d3) | (with_reducible replace d3 := bnf d3; try (with_reducible replace d3 := of_decide_eq_true d3)) | skip
    have h1 := d3
    refine OW_yes rfl rfl rfl rfl c3 (Ev.stp (Ev_fieldAddr fld_65_1 rfl rfl) ?_)
    refine OW_yes rfl rfl rfl rfl c3 (Ev.stp (Ev_load one_3 rfl rfl (B2.ld (q := 1) rfl)) ?_)
    refine OW_yes rfl rfl rfl rfl c3 (Ev.stp (Ev_lss rfl rfl rfl) ?_)
    refine OW_ev (Ev_pickb_f rfl rfl c3 rfl) rfl ?_
    refine OW_ev (Ev_mvb (.inl rfl) rfl) rfl ?_
    refine OW_split (d := .tmp 13) rfl (fun c4 => ?_) (fun c4 => ?_)
    · have d4 := c4
      first | (with_reducible replace d4 := of_decide_eq_true d4) | (with_reducible replace d4 := bnt d4; try (with_reducible replace d4 := of_decide_eq_false d4)) | skip
      have h2 : x.r.size < 1 ∨ y.r.size < 1 := by omega
      refine OW_no rfl rfl rfl rfl c4 ?_
      refine OW_no rfl rfl rfl rfl c4 ?_
      refine OW_no rfl rfl rfl rfl c4 ?_
      refine OW_ev (Ev_pickb_t rfl rfl c4 rfl) rfl ?_
      refine OW_ev (Ev_mvb (.inl rfl) rfl) rfl ?_
      refine OW_no rfl rfl rfl rfl rfl ?_
      refine OW_no rfl rfl rfl rfl rfl ?_
      refine OW_no rfl rfl rfl rfl rfl ?_
      refine OW_ev (Ev_pickb_t rfl rfl rfl rfl) rfl ?_
      refine OW_ev (Ev_mvb (.inr rfl) rfl) rfl ?_
      refine OW_nil ?_
      refine CW_ret ?_
      refine ⟨rfl, _, (.tmp rfl .nil), ?_⟩
      exact ⟨T, vb rfl (by unfold apart; first | (exact (decide_eq_true (by omega)).symm) | (exact decide_eq_decide.2 (by omega)))⟩
    · have d4 := c4
      first | (with_reducible replace d4 := of_decide_eq_false d4) | (with_reducible replace d4 := bnf d4; try (with_reducible replace d4 := of_decide_eq_true d4)) | skip
      have h2 := d4
      refine OW_yes rfl rfl rfl rfl c4 (Ev.stp (Ev_loadAgg (l := [.int _ _, .int _ _, .int _ _, .slice _ _ _, .int _ _, .int _ _]) agg_65 rfl rfl (B1.sub 0 6 (Nat.le_of_ble_eq_true rfl)) rfl) ?_)
      refine OW_yes rfl rfl rfl rfl c4 (Ev.stp (Ev_loadAgg (l := [.int _ _, .int _ _, .int _ _, .slice _ _ _, .int _ _, .int _ _]) agg_65 rfl rfl (B2.sub 0 6 (Nat.le_of_ble_eq_true rfl)) rfl) ?_)
      refine OW_yes rfl rfl rfl rfl c4 (Stp_call ent_67 rfl rfl rfl (behind_c _ x y hx hy (by omega)) ?_)
      rintro _ w5 ⟨E5, rfl⟩
      have Z5 := E5.size
      have T := T.keep0 E5
      have B1 := B1.keep0 E5
      have B2 := B2.keep0 E5
      refine OW_ev (Ev_pickb_f rfl rfl c4 rfl) rfl ?_
      refine OW_ev (Ev_mvb (.inl rfl) rfl) rfl ?_
      refine OW_split (d := .tmp 18) rfl (fun c6 => ?_) (fun c6 => ?_)
      · have d6 := c6
        first | (with_reducible replace d6 := of_decide_eq_true d6) | (with_reducible replace d6 := bnt d6; try (with_reducible replace d6 := of_decide_eq_false d6)) | skip
        have h3 := d6
        refine OW_no rfl rfl rfl rfl c6 ?_
        refine OW_no rfl rfl rfl rfl c6 ?_
        refine OW_no rfl rfl rfl rfl c6 ?_
        refine OW_ev (Ev_pickb_t rfl rfl c6 rfl) rfl ?_
        refine OW_ev (Ev_mvb (.inr rfl) rfl) rfl ?_
        refine OW_nil ?_
        refine CW_ret ?_
        refine ⟨rfl, _, (.tmp rfl .nil), ?_⟩
        exact ⟨T, vb rfl (by unfold apart; first | (exact (decide_eq_true (by omega)).symm) | (exact decide_eq_decide.2 (by omega)))⟩
      · have d6 := c6
        first | (with_reducible replace d6 := of_decide_eq_false d6) | (with_reducible replace d6 := bnf d6; try (with_reducible replace d6 := of_decide_eq_true d6)) | skip
        have h3 := d6
        refine OW_yes rfl rfl rfl rfl c6 (Ev.stp (Ev_loadAgg (l := [.int _ _, .int _ _, .int _ _, .slice _ _ _, .int _ _, .int _ _]) agg_65 rfl rfl (B2.sub 0 6 (Nat.le_of_ble_eq_true rfl)) rfl) ?_)
        refine OW_yes rfl rfl rfl rfl c6 (Ev.stp (Ev_loadAgg (l := [.int _ _, .int _ _, .int _ _, .slice _ _ _, .int _ _, .int _ _]) agg_65 rfl rfl (B1.sub 0 6 (Nat.le_of_ble_eq_true rfl)) rfl) ?_)
        refine OW_yes rfl rfl rfl rfl c6 (Stp_call ent_67 rfl rfl rfl (behind_c _ y x hy hx (by omega)) ?_)
        rintro _ w7 ⟨E7, rfl⟩
        have Z7 := E7.size
        have T := T.keep0 E7
        have B1 := B1.keep0 E7
        have B2 := B2.keep0 E7
        refine OW_ev (Ev_pickb_f rfl rfl c6 rfl) rfl ?_
        refine OW_ev (Ev_mvb (.inr rfl) rfl) rfl ?_
        refine OW_nil ?_
        refine CW_ret ?_
        refine ⟨rfl, _, (.tmp rfl .nil), ?_⟩
        exact ⟨T, vb rfl (by unfold apart; first | (exact (decide_eq_true (by omega)).symm) | (exact decide_eq_decide.2 (by omega)))⟩

set_option maxRecDepth 10000 in
set_option maxHeartbeats 2000000 in
theorem rbig_c {F : Nat → Prop} {w : World} {p : PlnM} (hP : PlnS F w p) : Calls Try.prog 13 #[.agg p.cl.toArray] w (Ret fun v w' => Kp0 w w' ∧ v = .bool (p.r.big)) := by
  have hP := hP.old
  obtain ⟨NW, hNW⟩ : ∃ x, x = w.heap.size := ⟨_, rfl⟩
  rw [← hNW] at hP
  have T : Kp0 w w := Kp.refl _ _
  refine calls_start Try.func13 rfl (n := 48) rfl rfl rfl ?_
  refine CW_seq ?_
  refine CW_reg rfl ?_
  refine OW_st rfl (Stp_box (l := [.int _ _, .slice _ _ _, .slice _ _ _, .slice _ _ _]) rfl rfl rfl ?_)
  intro b1 w1 hb1 hz1 E1 B1
  have L1 : _ ≤ b1 := Nat.le_trans T.size (Nat.le_of_eq hb1.symm)
  have hP := hP.keep0 E1
  have T := T.keep0 E1
  replace B1 : Blk w1 b1 51 (p.cl) := B1
  refine OW_ev (Ev_c (.inr rfl)) rfl ?_
  refine OW_nil ?_
  refine CW_seq ?_
  refine CW_reg rfl ?_
  refine OW_ev (Ev_c (.inr rfl)) rfl ?_
  refine OW_nil ?_
  refine CW_seq ?_
  refine CW_seq ?_
  refine CW_reg rfl ?_
  refine OW_ev (Ev_c (.inr rfl)) rfl ?_
  refine OW_nil ?_
  refine CW_join (fun f w0 => ∃ (z : Int), AllEq f [(1, .pointer (some ⟨b1, 0, none⟩)), (3, .int .i64 z)] ∧ (p.ps.length ≤ 20 → z = codeUp p.r.ps p.ps.length) ∧ (Blk w0 b1 51 p.cl) ∧ (Kp0 w w0)) ?_ ?_
  ·
    refine CW_block ?_
    refine CW_loop (α := Nat) (fun (k : Nat) f wr => AllEq f [(1, .pointer (some ⟨b1, 0, none⟩)), (3, .int .i64 (codeUp p.r.ps k)), (4, .int .i64 (k : Int))] ∧ (k ≤ p.ps.length ∧ k ≤ 20) ∧ (Blk wr b1 51 p.cl) ∧ (PlnS (fun b => b < NW) wr p) ∧ (Kp0 w wr)) (fun k => p.ps.length - k) 0 ?_ ?_
    ·
      exact ⟨⟨rfl, rfl, rfl, trivial⟩, ⟨Nat.zero_le _, Nat.zero_le _⟩, B1, hP, T⟩
    ·
      rintro k f wr ⟨hf, hk, B1, hP, T⟩
      obtain ⟨g, rfl⟩ : ∃ g, f = upl g [(1, .pointer (some ⟨b1, 0, none⟩)), (3, .int .i64 (codeUp p.r.ps k)), (4, .int .i64 (k : Int))] := ⟨f, upl_self hf⟩
      clear hf
      have hbd := codeUp_bd p.r.ps k
      refine CW_seq ?_
      refine CW_seq ?_
      refine CW_reg rfl ?_
      refine OW_ev (Ev_mvi (.inl rfl) rfl) rfl ?_
      refine OW_ev (Ev_fieldAddr fld_51_1 rfl rfl) rfl ?_
      refine OW_ev (Ev_load one_47 rfl rfl (B1.ld (q := 1) rfl)) rfl ?_
      refine OW_ev (Ev_len und_47 rfl rfl) rfl ?_
      refine OW_ev (Ev_lss rfl rfl rfl) rfl ?_
      refine OW_ev (Ev_mvb (.inl rfl) rfl) rfl ?_
      refine OW_split (d := .tmp 10) rfl (fun c2 => ?_) (fun c2 => ?_)
      · have d2 := c2
        first | (with_reducible replace d2 := of_decide_eq_true d2) | (with_reducible replace d2 := bnt d2; try (with_reducible replace d2 := of_decide_eq_false d2)) | skip
        have hk2 : k < p.ps.length := by omega
        obtain ⟨m, hm, hgm, hr, hmm⟩ := getP (p := p) (j := k) hk2
        have K := hP.1.at_ hgm
        have hst := codeUp_succ (ps := p.r.ps) (x := m.r) (k := k) hr
        refine OW_yes rfl rfl rfl rfl c2 (Ev.stp (Ev_fieldAddr fld_51_1 rfl rfl) ?_)
        refine OW_yes rfl rfl rfl rfl c2 (Ev.stp (Ev_load one_47 rfl rfl (B1.ld (q := 1) rfl)) ?_)
        refine OW_yes rfl rfl rfl rfl c2 (Ev.stp (Ev_len und_47 rfl rfl) ?_)
        refine OW_yes rfl rfl rfl rfl c2 (Ev.stp (Ev_leq rfl rfl rfl) ?_)
        refine OW_ev (Ev_pickb_t rfl rfl c2 rfl) rfl ?_
        refine OW_nil ?_
        refine CW_cond rfl (fun c3 => ?_) (fun c3 => ?_)
        · have d3 := c3
          first | (with_reducible replace d3 := of_decide_eq_true d3) | (with_reducible replace d3 := bnt d3; try (with_reducible replace d3 := of_decide_eq_false d3)) | skip
          refine CW_skip ?_
          refine CW_seq ?_
          refine CW_block ?_
          refine CW_reg rfl ?_
          refine OW_ev (Ev_mvi (.inl rfl) rfl) rfl ?_
          refine OW_ev (Ev_fieldAddr fld_51_1 rfl rfl) rfl ?_
          refine OW_ev (Ev_load one_47 rfl rfl (B1.ld (q := 1) rfl)) rfl ?_
          refine OW_ev (Ev_mvi (.inl rfl) rfl) rfl ?_
          refine OW_ev (Ev_idx k (hP.1.ad hgm) sl_47 rfl rfl rfl rfl (by omega)) rfl ?_
          refine OW_ev (Ev_fieldAddr fld_65_3 rfl rfl) rfl ?_
          refine OW_ev (Ev_load one_63 rfl rfl (K.one 3 rfl)) rfl ?_
          refine OW_ev (Ev_len und_63 rfl rfl) rfl ?_
          refine OW_ev (Ev_min2 rfl rfl rfl) rfl ?_
          refine OW_ev (Ev_add rfl rfl rfl (by first | (apply IntWalk.i64_in; omega) | (apply IntWalk.u64_in; omega) | (apply IntWalk.u32_in; omega) | (apply IntWalk.u8_in; omega) | (apply IntWalk.i32_in; omega) | rfl)) rfl ?_
          refine OW_ev (Ev_mvi (.inr rfl) rfl) rfl ?_
          refine OW_nil ?_
          refine CW_re [(1, .pointer _), (3, .int _ _), (4, .int _ _)] ⟨rfl, rfl, rfl, trivial⟩ (fun g => ?_)
          refine CW_reg rfl ?_
          refine OW_ev (Ev_mvi (.inl rfl) rfl) rfl ?_
          refine OW_ev (Ev_add rfl rfl rfl (by first | (apply IntWalk.i64_in; omega) | (apply IntWalk.u64_in; omega) | (apply IntWalk.u32_in; omega) | (apply IntWalk.u8_in; omega) | (apply IntWalk.i32_in; omega) | rfl)) rfl ?_
          refine OW_ev (Ev_mvi (.inr rfl) rfl) rfl ?_
          refine OW_nil ?_
          exact ⟨k + 1, by omega, ⟨rfl, vi rfl hst.symm, congrArg (Value.int .i64) (by omega), trivial⟩, by omega, B1, hP, T⟩
        · have d3 := c3
          first | (with_reducible replace d3 := of_decide_eq_false d3) | (with_reducible replace d3 := bnf d3; try (with_reducible replace d3 := of_decide_eq_true d3)) | skip
          refine CW_exit ?_
          refine blk_same ?_
          exact ⟨codeUp p.r.ps k, ⟨rfl, rfl, trivial⟩, fun h => by (have e : k = p.ps.length := by omega); rw [e], B1, T⟩
      · have d2 := c2
        first | (with_reducible replace d2 := of_decide_eq_false d2) | (with_reducible replace d2 := bnf d2; try (with_reducible replace d2 := of_decide_eq_true d2)) | skip
        refine OW_no rfl rfl rfl rfl c2 ?_
        refine OW_no rfl rfl rfl rfl c2 ?_
        refine OW_no rfl rfl rfl rfl c2 ?_
        refine OW_no rfl rfl rfl rfl c2 ?_
        refine OW_ev (Ev_pickb_f rfl rfl c2 rfl) rfl ?_
        refine OW_nil ?_
        refine CW_cond_f rfl rfl ?_
        refine CW_exit ?_
        refine blk_same ?_
        exact ⟨codeUp p.r.ps k, ⟨rfl, rfl, trivial⟩, fun h => by (have e : k = p.ps.length := by omega); rw [e], B1, T⟩
  ·
    rintro f w0 ⟨z, hf, hz, B1, T⟩
    obtain ⟨g, rfl⟩ : ∃ g, f = upl g [(1, .pointer (some ⟨b1, 0, none⟩)), (3, .int .i64 z)] := ⟨f, upl_self hf⟩
    clear hf
    have hpr : p.r.ps.length = p.ps.length := by simp [PlnM.r]
    have hbg : p.r.big = decide (20 < p.ps.length ∨ 3000 < codeUp p.r.ps p.ps.length ∨ 100 < p.ws.length ∨ 100 < p.cs.length) := by unfold Pln.big; rw [hpr]; rfl
    refine CW_seq ?_
    refine CW_reg rfl ?_
    refine OW_ev (Ev_fieldAddr fld_51_1 rfl rfl) rfl ?_
    refine OW_ev (Ev_load one_47 rfl rfl (B1.ld (q := 1) rfl)) rfl ?_
    refine OW_ev (Ev_len und_47 rfl rfl) rfl ?_
    refine OW_ev (Ev_gtr rfl rfl rfl) rfl ?_
    refine OW_ev (Ev_mvb (.inl rfl) rfl) rfl ?_
    refine OW_split (d := .tmp 32) rfl (fun c4 => ?_) (fun c4 => ?_)
    · have d4 := c4
      first | (with_reducible replace d4 := of_decide_eq_true d4) | (with_reducible replace d4 := bnt d4; try (with_reducible replace d4 := of_decide_eq_false d4)) | skip
      refine OW_no rfl rfl rfl rfl c4 ?_
      refine OW_no rfl rfl rfl rfl c4 ?_
      refine OW_ev (Ev_pickb_t rfl rfl c4 rfl) rfl ?_
      refine OW_ev (Ev_mvb (.inl rfl) rfl) rfl ?_
      refine OW_no rfl rfl rfl rfl rfl ?_
      refine OW_no rfl rfl rfl rfl rfl ?_
      refine OW_no rfl rfl rfl rfl rfl ?_
      refine OW_no rfl rfl rfl rfl rfl ?_
      refine OW_ev (Ev_pickb_t rfl rfl rfl rfl) rfl ?_
      refine OW_ev (Ev_mvb (.inl rfl) rfl) rfl ?_
      refine OW_no rfl rfl rfl rfl rfl ?_
      refine OW_no rfl rfl rfl rfl rfl ?_
      refine OW_no rfl rfl rfl rfl rfl ?_
      refine OW_no rfl rfl rfl rfl rfl ?_
      refine OW_ev (Ev_pickb_t rfl rfl rfl rfl) rfl ?_
      refine OW_ev (Ev_mvb (.inr rfl) rfl) rfl ?_
      refine OW_nil ?_
      refine CW_ret ?_
      refine ⟨rfl, _, (.tmp rfl .nil), ?_⟩
      rw [hbg]
      exact ⟨T, vb rfl (by first | (exact (decide_eq_true (by omega)).symm) | (exact decide_eq_decide.2 (by (have h20 : p.ps.length ≤ 20 := by omega); rw [← hz h20]; omega)) | (exact (decide_eq_true (by (have h20 : p.ps.length ≤ 20 := by omega); rw [← hz h20]; omega)).symm))⟩
    · have d4 := c4
      first | (with_reducible replace d4 := of_decide_eq_false d4) | (with_reducible replace d4 := bnf d4; try (with_reducible replace d4 := of_decide_eq_true d4)) | skip
      refine OW_yes rfl rfl rfl rfl c4 (Ev.stp (Ev_mvi (.inl rfl) rfl) ?_)
      refine OW_yes rfl rfl rfl rfl c4 (Ev.stp (Ev_gtr rfl rfl rfl) ?_)
      refine OW_ev (Ev_pickb_f rfl rfl c4 rfl) rfl ?_
      refine OW_ev (Ev_mvb (.inl rfl) rfl) rfl ?_
      refine OW_split (d := .tmp 36) rfl (fun c5 => ?_) (fun c5 => ?_)
      · have d5 := c5
        first | (with_reducible replace d5 := of_decide_eq_true d5) | (with_reducible replace d5 := bnt d5; try (with_reducible replace d5 := of_decide_eq_false d5)) | skip
        refine OW_no rfl rfl rfl rfl c5 ?_
        refine OW_no rfl rfl rfl rfl c5 ?_
        refine OW_no rfl rfl rfl rfl c5 ?_
        refine OW_no rfl rfl rfl rfl c5 ?_
        refine OW_ev (Ev_pickb_t rfl rfl c5 rfl) rfl ?_
        refine OW_ev (Ev_mvb (.inl rfl) rfl) rfl ?_
        refine OW_no rfl rfl rfl rfl rfl ?_
        refine OW_no rfl rfl rfl rfl rfl ?_
        refine OW_no rfl rfl rfl rfl rfl ?_
        refine OW_no rfl rfl rfl rfl rfl ?_
        refine OW_ev (Ev_pickb_t rfl rfl rfl rfl) rfl ?_
        refine OW_ev (Ev_mvb (.inr rfl) rfl) rfl ?_
        refine OW_nil ?_
        refine CW_ret ?_
        refine ⟨rfl, _, (.tmp rfl .nil), ?_⟩
        rw [hbg]
        exact ⟨T, vb rfl (by first | (exact (decide_eq_true (by omega)).symm) | (exact decide_eq_decide.2 (by (have h20 : p.ps.length ≤ 20 := by omega); rw [← hz h20]; omega)) | (exact (decide_eq_true (by (have h20 : p.ps.length ≤ 20 := by omega); rw [← hz h20]; omega)).symm))⟩
      · have d5 := c5
        first | (with_reducible replace d5 := of_decide_eq_false d5) | (with_reducible replace d5 := bnf d5; try (with_reducible replace d5 := of_decide_eq_true d5)) | skip
        refine OW_yes rfl rfl rfl rfl c5 (Ev.stp (Ev_fieldAddr fld_51_2 rfl rfl) ?_)
        refine OW_yes rfl rfl rfl rfl c5 (Ev.stp (Ev_load one_48 rfl rfl (B1.ld (q := 2) rfl)) ?_)
        refine OW_yes rfl rfl rfl rfl c5 (Ev.stp (Ev_len und_48 rfl rfl) ?_)
        refine OW_yes rfl rfl rfl rfl c5 (Ev.stp (Ev_gtr rfl rfl rfl) ?_)
        refine OW_ev (Ev_pickb_f rfl rfl c5 rfl) rfl ?_
        refine OW_ev (Ev_mvb (.inl rfl) rfl) rfl ?_
        refine OW_split (d := .tmp 42) rfl (fun c6 => ?_) (fun c6 => ?_)
        · have d6 := c6
          first | (with_reducible replace d6 := of_decide_eq_true d6) | (with_reducible replace d6 := bnt d6; try (with_reducible replace d6 := of_decide_eq_false d6)) | skip
          refine OW_no rfl rfl rfl rfl c6 ?_
          refine OW_no rfl rfl rfl rfl c6 ?_
          refine OW_no rfl rfl rfl rfl c6 ?_
          refine OW_no rfl rfl rfl rfl c6 ?_
          refine OW_ev (Ev_pickb_t rfl rfl c6 rfl) rfl ?_
          refine OW_ev (Ev_mvb (.inr rfl) rfl) rfl ?_
          refine OW_nil ?_
          refine CW_ret ?_
          refine ⟨rfl, _, (.tmp rfl .nil), ?_⟩
          rw [hbg]
          exact ⟨T, vb rfl (by first | (exact (decide_eq_true (by omega)).symm) | (exact decide_eq_decide.2 (by (have h20 : p.ps.length ≤ 20 := by omega); rw [← hz h20]; omega)) | (exact (decide_eq_true (by (have h20 : p.ps.length ≤ 20 := by omega); rw [← hz h20]; omega)).symm))⟩
        · have d6 := c6
          first | (with_reducible replace d6 := of_decide_eq_false d6) | (with_reducible replace d6 := bnf d6; try (with_reducible replace d6 := of_decide_eq_true d6)) | skip
          refine OW_yes rfl rfl rfl rfl c6 (Ev.stp (Ev_fieldAddr fld_51_3 rfl rfl) ?_)
          refine OW_yes rfl rfl rfl rfl c6 (Ev.stp (Ev_load one_49 rfl rfl (B1.ld (q := 3) rfl)) ?_)
          refine OW_yes rfl rfl rfl rfl c6 (Ev.stp (Ev_len und_49 rfl rfl) ?_)
          refine OW_yes rfl rfl rfl rfl c6 (Ev.stp (Ev_gtr rfl rfl rfl) ?_)
          refine OW_ev (Ev_pickb_f rfl rfl c6 rfl) rfl ?_
          refine OW_ev (Ev_mvb (.inr rfl) rfl) rfl ?_
          refine OW_nil ?_
          refine CW_ret ?_
          refine ⟨rfl, _, (.tmp rfl .nil), ?_⟩
          rw [hbg]
          exact ⟨T, vb rfl (by first | (exact (decide_eq_true (by omega)).symm) | (exact decide_eq_decide.2 (by (have h20 : p.ps.length ≤ 20 := by omega); rw [← hz h20]; omega)) | (exact (decide_eq_true (by (have h20 : p.ps.length ≤ 20 := by omega); rw [← hz h20]; omega)).symm))⟩

set_option maxRecDepth 10000 in
set_option maxHeartbeats 2000000 in
theorem rpart_c {F : Nat → Prop} {w : World} {p : PlnM} {j : Nat} {m : PrtM} (hP : PlnS F w p) (hm : p.ps[j]? = some m) (hl : p.ps.length ≤ 1000) : Calls Try.prog 43 #[.agg p.cl.toArray, .int .i64 (j : Int)] w (Ret fun v w' => Kp0 w w' ∧ v = .int .i64 (p.r.partAt j)) := by
  have hP := hP.old
  obtain ⟨NW, hNW⟩ : ∃ x, x = w.heap.size := ⟨_, rfl⟩
  rw [← hNW] at hP
  have hget : (p.ps.map PrtM.cl)[j]? = some m.cl := by rw [List.getElem?_map, hm]; rfl
  have hjl := (List.getElem?_eq_some_iff.1 hm).1
  have K := hP.1.at_ hget
  have hKb := (hP.1.2 (Sl.ne hget)).2.2.1
  have hok := (hP.2.2.2.1 m (List.mem_of_getElem? hm)).1
  have hml := hP.2.2.2.2.1
  unfold i64r at hml
  have hspec : p.r.partAt j = partErr p.mem ((p.ps.map PrtM.r).take j) m.r := by unfold Pln.partAt; rw [show p.r.ps[j]? = some m.r by show (p.ps.map PrtM.r)[j]? = _; rw [List.getElem?_map, hm]; rfl]; rfl
  have T : Kp0 w w := Kp.refl _ _
  refine calls_start Try.func43 rfl (n := 88) rfl rfl rfl ?_
  refine CW_seq ?_
  refine CW_reg rfl ?_
  refine OW_st rfl (Stp_box (l := [.int _ _, .slice _ _ _, .slice _ _ _, .slice _ _ _]) rfl rfl rfl ?_)
  intro b1 w1 hb1 hz1 E1 B1
  have L1 : _ ≤ b1 := Nat.le_trans T.size (Nat.le_of_eq hb1.symm)
  have hP := hP.keep0 E1
  have K := K.keep0 E1
  have T := T.keep0 E1
  replace B1 : Blk w1 b1 51 (p.cl) := B1
  refine OW_ev (Ev_c (.inr rfl)) rfl ?_
  refine OW_nil ?_
  refine CW_seq ?_
  refine CW_reg rfl ?_
  refine OW_ev (Ev_fieldAddr fld_51_1 rfl rfl) rfl ?_
  refine OW_ev (Ev_load one_47 rfl rfl (B1.ld (q := 1) rfl)) rfl ?_
  refine OW_ev (Ev_mvi (.inl rfl) rfl) rfl ?_
  refine OW_ev (Ev_idx j (hP.1.ad hget) sl_47 rfl rfl rfl rfl hjl) rfl ?_
  refine OW_ev (Ev_loadAgg (l := [.int _ _, .int _ _, .int _ _, .slice _ _ _, .int _ _, .int _ _]) agg_65 rfl rfl (K.sub 0 rfl) rfl) rfl ?_
  refine OW_st rfl (Stp_alloc zero_65 rfl ?_)
  intro b2 w2 hb2 hz2 E2 B2
  have L2 : _ ≤ b2 := Nat.le_trans T.size (Nat.le_of_eq hb2.symm)
  have hP := hP.keep0 E2
  have K := K.keep0 E2
  have T := T.keep0 E2
  have B1 := B1.keep0 E2
  refine OW_st rfl (Stp_store (q := 0) (vs := [.int _ _, .int _ _, .int _ _, .slice _ _ _, .int _ _, .int _ _]) B2 siz_65 rfl rfl rfl rfl (Nat.le_of_ble_eq_true rfl) rfl ?_)
  intro w3 hz3 E3 B3
  have Z3 := E3.size
  have hP := hP.keepb E3 (fun h => by change _ < _ at h; omega)
  have T := T.transb E3 (by omega)
  have B1 := B1.keepb E3 (by intro h; first | omega | (change _ < _ at h; omega) | (change _ ≤ _ at h; omega) | (have h1 := h.1; have h2 := h.2; first | omega | (change _ ≤ _ at h1; omega) | (change _ < _ at h1; omega)))
  clear B2
  have B2 : Blk _ _ _ [_, _, _, _, _, _] := B3
  clear B3
  refine OW_nil ?_
  refine CW_seq ?_
  refine CW_seq ?_
  refine CW_reg rfl ?_
  refine OW_ev (Ev_fieldAddr fld_65_0 rfl rfl) rfl ?_
  refine OW_ev (Ev_load one_3 rfl rfl (B2.ld (q := 0) rfl)) rfl ?_
  refine OW_ev (Ev_lss rfl rfl rfl) rfl ?_
  refine OW_ev (Ev_mvb (.inl rfl) rfl) rfl ?_
  refine OW_split (d := .tmp 15) rfl (fun c4 => ?_) (fun c4 => ?_)
  · have d4 := c4
    first | (with_reducible replace d4 := of_decide_eq_true d4) | (with_reducible replace d4 := bnt d4; try (with_reducible replace d4 := of_decide_eq_false d4)) | skip
    refine OW_no rfl rfl rfl rfl c4 ?_
    refine OW_no rfl rfl rfl rfl c4 ?_
    refine OW_no rfl rfl rfl rfl c4 ?_
    refine OW_ev (Ev_pickb_t rfl rfl c4 rfl) rfl ?_
    refine OW_ev (Ev_mvb (.inl rfl) rfl) rfl ?_
    refine OW_no rfl rfl rfl rfl rfl ?_
    refine OW_no rfl rfl rfl rfl rfl ?_
    refine OW_no rfl rfl rfl rfl rfl ?_
    refine OW_no rfl rfl rfl rfl rfl ?_
    refine OW_no rfl rfl rfl rfl rfl ?_
    refine OW_ev (Ev_pickb_t rfl rfl rfl rfl) rfl ?_
    refine OW_ev (Ev_mvb (.inl rfl) rfl) rfl ?_
    refine OW_no rfl rfl rfl rfl rfl ?_
    refine OW_no rfl rfl rfl rfl rfl ?_
    refine OW_no rfl rfl rfl rfl rfl ?_
    refine OW_no rfl rfl rfl rfl rfl ?_
    refine OW_no rfl rfl rfl rfl rfl ?_
    refine OW_no rfl rfl rfl rfl rfl ?_
    refine OW_no rfl rfl rfl rfl rfl ?_
    refine OW_no rfl rfl rfl rfl rfl ?_
    refine OW_ev (Ev_pickb_t rfl rfl rfl rfl) rfl ?_
    refine OW_nil ?_
    have hbad : m.r.base < 0 ∨ m.r.size < 1 ∨ p.mem < m.r.base + m.r.size := by omega
    refine CW_cond_t rfl rfl ?_
    refine CW_seq ?_
    refine CW_re [(1, .int _ _), (2, .pointer _), (4, .int _ _), (5, .pointer _)] ⟨rfl, rfl, rfl, rfl, trivial⟩ (fun g => ?_)
    refine CW_reg rfl ?_
    refine OW_ev (Ev_c (.inr rfl)) rfl ?_
    refine OW_nil ?_
    refine CW_ret ?_
    refine ⟨rfl, _, (.tmp rfl .nil), ?_⟩
    rw [hspec]
    unfold partErr
    exact ⟨T, vi rfl (by first | rw [if_pos hbad] | rw [if_neg hbad, if_pos hany] | rw [if_neg hbad, if_neg hany, if_pos (by omega)] | rw [if_neg hbad, if_neg hany, if_neg (by omega), if_pos (by omega)] | rw [if_neg hbad, if_neg hany, if_neg (by omega), if_neg (by omega)])⟩
  · have d4 := c4
    first | (with_reducible replace d4 := of_decide_eq_false d4) | (with_reducible replace d4 := bnf d4; try (with_reducible replace d4 := of_decide_eq_true d4)) | skip
    refine OW_yes rfl rfl rfl rfl c4 (Ev.stp (Ev_fieldAddr fld_65_1 rfl rfl) ?_)
    refine OW_yes rfl rfl rfl rfl c4 (Ev.stp (Ev_load one_3 rfl rfl (B2.ld (q := 1) rfl)) ?_)
    refine OW_yes rfl rfl rfl rfl c4 (Ev.stp (Ev_lss rfl rfl rfl) ?_)
    refine OW_ev (Ev_pickb_f rfl rfl c4 rfl) rfl ?_
    refine OW_ev (Ev_mvb (.inl rfl) rfl) rfl ?_
    refine OW_split (d := .tmp 20) rfl (fun c5 => ?_) (fun c5 => ?_)
    · have d5 := c5
      first | (with_reducible replace d5 := of_decide_eq_true d5) | (with_reducible replace d5 := bnt d5; try (with_reducible replace d5 := of_decide_eq_false d5)) | skip
      refine OW_no rfl rfl rfl rfl c5 ?_
      refine OW_no rfl rfl rfl rfl c5 ?_
      refine OW_no rfl rfl rfl rfl c5 ?_
      refine OW_no rfl rfl rfl rfl c5 ?_
      refine OW_no rfl rfl rfl rfl c5 ?_
      refine OW_ev (Ev_pickb_t rfl rfl c5 rfl) rfl ?_
      refine OW_ev (Ev_mvb (.inl rfl) rfl) rfl ?_
      refine OW_no rfl rfl rfl rfl rfl ?_
      refine OW_no rfl rfl rfl rfl rfl ?_
      refine OW_no rfl rfl rfl rfl rfl ?_
      refine OW_no rfl rfl rfl rfl rfl ?_
      refine OW_no rfl rfl rfl rfl rfl ?_
      refine OW_no rfl rfl rfl rfl rfl ?_
      refine OW_no rfl rfl rfl rfl rfl ?_
      refine OW_no rfl rfl rfl rfl rfl ?_
      refine OW_ev (Ev_pickb_t rfl rfl rfl rfl) rfl ?_
      refine OW_nil ?_
      have hbad : m.r.base < 0 ∨ m.r.size < 1 ∨ p.mem < m.r.base + m.r.size := by omega
      refine CW_cond_t rfl rfl ?_
      refine CW_seq ?_
      refine CW_re [(1, .int _ _), (2, .pointer _), (4, .int _ _), (5, .pointer _)] ⟨rfl, rfl, rfl, rfl, trivial⟩ (fun g => ?_)
      refine CW_reg rfl ?_
      refine OW_ev (Ev_c (.inr rfl)) rfl ?_
      refine OW_nil ?_
      refine CW_ret ?_
      refine ⟨rfl, _, (.tmp rfl .nil), ?_⟩
      rw [hspec]
      unfold partErr
      exact ⟨T, vi rfl (by first | rw [if_pos hbad] | rw [if_neg hbad, if_pos hany] | rw [if_neg hbad, if_neg hany, if_pos (by omega)] | rw [if_neg hbad, if_neg hany, if_neg (by omega), if_pos (by omega)] | rw [if_neg hbad, if_neg hany, if_neg (by omega), if_neg (by omega)])⟩
    · have d5 := c5
      first | (with_reducible replace d5 := of_decide_eq_false d5) | (with_reducible replace d5 := bnf d5; try (with_reducible replace d5 := of_decide_eq_true d5)) | skip
      refine OW_yes rfl rfl rfl rfl c5 (Ev.stp (Ev_fieldAddr fld_65_0 rfl rfl) ?_)
      refine OW_yes rfl rfl rfl rfl c5 (Ev.stp (Ev_load one_3 rfl rfl (B2.ld (q := 0) rfl)) ?_)
      refine OW_yes rfl rfl rfl rfl c5 (Ev.stp (Ev_fieldAddr fld_51_0 rfl rfl) ?_)
      refine OW_yes rfl rfl rfl rfl c5 (Ev.stp (Ev_load one_3 rfl rfl (B1.ld (q := 0) rfl)) ?_)
      refine OW_yes rfl rfl rfl rfl c5 (Ev.stp (Ev_gtr rfl rfl rfl) ?_)
      refine OW_ev (Ev_pickb_f rfl rfl c5 rfl) rfl ?_
      refine OW_ev (Ev_mvb (.inl rfl) rfl) rfl ?_
      refine OW_split (d := .tmp 27) rfl (fun c6 => ?_) (fun c6 => ?_)
      · have d6 := c6
        first | (with_reducible replace d6 := of_decide_eq_true d6) | (with_reducible replace d6 := bnt d6; try (with_reducible replace d6 := of_decide_eq_false d6)) | skip
        refine OW_no rfl rfl rfl rfl c6 ?_
        refine OW_no rfl rfl rfl rfl c6 ?_
        refine OW_no rfl rfl rfl rfl c6 ?_
        refine OW_no rfl rfl rfl rfl c6 ?_
        refine OW_no rfl rfl rfl rfl c6 ?_
        refine OW_no rfl rfl rfl rfl c6 ?_
        refine OW_no rfl rfl rfl rfl c6 ?_
        refine OW_no rfl rfl rfl rfl c6 ?_
        refine OW_ev (Ev_pickb_t rfl rfl c6 rfl) rfl ?_
        refine OW_nil ?_
        have hbad : m.r.base < 0 ∨ m.r.size < 1 ∨ p.mem < m.r.base + m.r.size := by omega
        refine CW_cond_t rfl rfl ?_
        refine CW_seq ?_
        refine CW_re [(1, .int _ _), (2, .pointer _), (4, .int _ _), (5, .pointer _)] ⟨rfl, rfl, rfl, rfl, trivial⟩ (fun g => ?_)
        refine CW_reg rfl ?_
        refine OW_ev (Ev_c (.inr rfl)) rfl ?_
        refine OW_nil ?_
        refine CW_ret ?_
        refine ⟨rfl, _, (.tmp rfl .nil), ?_⟩
        rw [hspec]
        unfold partErr
        exact ⟨T, vi rfl (by first | rw [if_pos hbad] | rw [if_neg hbad, if_pos hany] | rw [if_neg hbad, if_neg hany, if_pos (by omega)] | rw [if_neg hbad, if_neg hany, if_neg (by omega), if_pos (by omega)] | rw [if_neg hbad, if_neg hany, if_neg (by omega), if_neg (by omega)])⟩
      · have d6 := c6
        first | (with_reducible replace d6 := of_decide_eq_false d6) | (with_reducible replace d6 := bnf d6; try (with_reducible replace d6 := of_decide_eq_true d6)) | skip
        refine OW_yes rfl rfl rfl rfl c6 (Ev.stp (Ev_fieldAddr fld_65_1 rfl rfl) ?_)
        refine OW_yes rfl rfl rfl rfl c6 (Ev.stp (Ev_load one_3 rfl rfl (B2.ld (q := 1) rfl)) ?_)
        refine OW_yes rfl rfl rfl rfl c6 (Ev.stp (Ev_fieldAddr fld_51_0 rfl rfl) ?_)
        refine OW_yes rfl rfl rfl rfl c6 (Ev.stp (Ev_load one_3 rfl rfl (B1.ld (q := 0) rfl)) ?_)
        refine OW_yes rfl rfl rfl rfl c6 (Ev.stp (Ev_fieldAddr fld_65_0 rfl rfl) ?_)
        refine OW_yes rfl rfl rfl rfl c6 (Ev.stp (Ev_load one_3 rfl rfl (B2.ld (q := 0) rfl)) ?_)
        refine OW_yes rfl rfl rfl rfl c6 (Ev.stp (Ev_sub rfl rfl rfl (by first | (apply IntWalk.i64_in; omega) | (apply IntWalk.u64_in; omega) | (apply IntWalk.u32_in; omega) | (apply IntWalk.u8_in; omega) | (apply IntWalk.i32_in; omega) | rfl)) ?_)
        refine OW_yes rfl rfl rfl rfl c6 (Ev.stp (Ev_gtr rfl rfl rfl) ?_)
        refine OW_ev (Ev_pickb_f rfl rfl c6 rfl) rfl ?_
        refine OW_nil ?_
        refine CW_cond rfl (fun c7 => ?_) (fun c7 => ?_)
        · have d7 := c7
          first | (with_reducible replace d7 := of_decide_eq_true d7) | (with_reducible replace d7 := bnt d7; try (with_reducible replace d7 := of_decide_eq_false d7)) | skip
          have hbad : m.r.base < 0 ∨ m.r.size < 1 ∨ p.mem < m.r.base + m.r.size := by omega
          refine CW_seq ?_
          refine CW_re [(1, .int _ _), (2, .pointer _), (4, .int _ _), (5, .pointer _)] ⟨rfl, rfl, rfl, rfl, trivial⟩ (fun g => ?_)
          refine CW_reg rfl ?_
          refine OW_ev (Ev_c (.inr rfl)) rfl ?_
          refine OW_nil ?_
          refine CW_ret ?_
          refine ⟨rfl, _, (.tmp rfl .nil), ?_⟩
          rw [hspec]
          unfold partErr
          exact ⟨T, vi rfl (by first | rw [if_pos hbad] | rw [if_neg hbad, if_pos hany] | rw [if_neg hbad, if_neg hany, if_pos (by omega)] | rw [if_neg hbad, if_neg hany, if_neg (by omega), if_pos (by omega)] | rw [if_neg hbad, if_neg hany, if_neg (by omega), if_neg (by omega)])⟩
        · have d7 := c7
          first | (with_reducible replace d7 := of_decide_eq_false d7) | (with_reducible replace d7 := bnf d7; try (with_reducible replace d7 := of_decide_eq_true d7)) | skip
          have hbad : ¬ (m.r.base < 0 ∨ m.r.size < 1 ∨ p.mem < m.r.base + m.r.size) := by omega
          refine CW_skip ?_
          refine CW_seq ?_
          refine CW_seq ?_
          refine CW_re [(1, .int _ _), (2, .pointer _), (4, .int _ _), (5, .pointer _)] ⟨rfl, rfl, rfl, rfl, trivial⟩ (fun g => ?_)
          refine CW_reg rfl ?_
          refine OW_ev (Ev_c (.inr rfl)) rfl ?_
          refine OW_nil ?_
          refine CW_block ?_
          refine CW_loop (α := Nat) (fun (k : Nat) f wr => AllEq f [(1, .int .i64 (j : Int)), (2, .pointer (some ⟨b1, 0, none⟩)), (5, .pointer (some ⟨b2, 0, none⟩)), (6, .int .i64 (k : Int))] ∧ (k ≤ j) ∧ (∀ i, i < k → ∀ y : PrtM, p.ps[i]? = some y → apart m.r y.r = true) ∧ (Blk wr b1 51 p.cl) ∧ (Blk wr b2 65 m.cl) ∧ (PlnS (fun b => b < NW) wr p) ∧ (Kp0 w wr)) (fun k => j - k) 0 ?_ ?_
          ·
            exact ⟨⟨rfl, rfl, rfl, rfl, trivial⟩, Nat.zero_le _, fun i h => absurd h (by omega), B1, B2, hP, T⟩
          ·
            rintro k f wr ⟨hf, hk, hno, B1, B2, hP, T⟩
            obtain ⟨g, rfl⟩ : ∃ g, f = upl g [(1, .int .i64 (j : Int)), (2, .pointer (some ⟨b1, 0, none⟩)), (5, .pointer (some ⟨b2, 0, none⟩)), (6, .int .i64 (k : Int))] := ⟨f, upl_self hf⟩
            clear hf
            refine CW_seq ?_
            refine CW_seq ?_
            refine CW_reg rfl ?_
            refine OW_ev (Ev_mvi (.inl rfl) rfl) rfl ?_
            refine OW_ev (Ev_mvi (.inl rfl) rfl) rfl ?_
            refine OW_ev (Ev_lss rfl rfl rfl) rfl ?_
            refine OW_nil ?_
            refine CW_cond rfl (fun c8 => ?_) (fun c8 => ?_)
            · have d8 := c8
              first | (with_reducible replace d8 := of_decide_eq_true d8) | (with_reducible replace d8 := bnt d8; try (with_reducible replace d8 := of_decide_eq_false d8)) | skip
              have hk2 : k < j := by omega
              obtain ⟨y, hy, hgy, hry, hmy⟩ := getP (p := p) (j := k) (by omega)
              have Ky := hP.1.at_ hgy
              refine CW_skip ?_
              refine CW_seq ?_
              refine CW_block ?_
              refine CW_seq ?_
              refine CW_draw (fun W => B1.here W ∧ B2.here W ∧ hP.here W ∧ Ky.here W) mixed rfl (fun _ _ _ h => nomatch h.1) ?_
              have E9 : Kp0 _ _ := Kp.drew wr nob
              have Z9 : (World.drew wr).heap.size = wr.heap.size := rfl
              generalize World.drew wr = w9 at E9 Z9 ⊢
              have T := T.keep0 E9
              have B1 := B1.keep0 E9
              have B2 := B2.keep0 E9
              have hP := hP.keep0 E9
              have Ky := Ky.keep0 E9
              refine AW_take 0 rfl rfl (by decide +kernel) (by decide +kernel) (by decide +kernel) (fun w ⟨B1, B2, hP, Ky⟩ => Ev_loadAgg (l := [.int _ _, .int _ _, .int _ _, .slice _ _ _, .int _ _, .int _ _]) agg_65 rfl rfl (B2.sub 0 6 (Nat.le_of_ble_eq_true rfl)) rfl) ⟨B1, B2, hP, Ky⟩ ?_
              refine AW_take 1 rfl rfl (by decide +kernel) (by decide +kernel) (by decide +kernel) (fun w ⟨B1, B2, hP, Ky⟩ => Ev_fieldAddr fld_51_1 rfl rfl) ⟨B1, B2, hP, Ky⟩ ?_
              refine AW_take 2 rfl rfl (by decide +kernel) (by decide +kernel) (by decide +kernel) (fun w ⟨B1, B2, hP, Ky⟩ => Ev_load one_47 rfl rfl (B1.ld (q := 1) rfl)) ⟨B1, B2, hP, Ky⟩ ?_
              refine AW_take 3 rfl rfl (by decide +kernel) (by decide +kernel) (by decide +kernel) (fun w ⟨B1, B2, hP, Ky⟩ => Ev_mvi (.inl rfl) rfl) ⟨B1, B2, hP, Ky⟩ ?_
              refine AW_take 4 rfl rfl (by decide +kernel) (by decide +kernel) (by decide +kernel) (fun w ⟨B1, B2, hP, Ky⟩ => Ev_idx k (hP.1.ad hgy) sl_47 rfl rfl rfl rfl (by omega)) ⟨B1, B2, hP, Ky⟩ ?_
              refine AW_take 5 rfl rfl (by decide +kernel) (by decide +kernel) (by decide +kernel) (fun w ⟨B1, B2, hP, Ky⟩ => Ev_loadAgg (l := [.int _ _, .int _ _, .int _ _, .slice _ _ _, .int _ _, .int _ _]) agg_65 rfl rfl (Ky.sub 0 rfl) rfl) ⟨B1, B2, hP, Ky⟩ ?_
              refine AW_one 6 (by decide +kernel) (Next.mk rfl rfl ?_)
              refine Stp_call ent_62 rfl rfl rfl (apartR_c _ m y hok (hP.2.2.2.1 y hmy).1) ?_
              rintro _ w10 ⟨E10, rfl⟩
              have Z10 := E10.size
              have T := T.keep0 E10
              have B1 := B1.keep0 E10
              have B2 := B2.keep0 E10
              have hP := hP.keep0 E10
              have Ky := Ky.keep0 E10
              refine ⟨⟨B1, B2, hP, Ky⟩, ?_⟩
              refine AW_take 7 rfl rfl (by decide +kernel) (by decide +kernel) (by decide +kernel) (fun w ⟨B1, B2, hP, Ky⟩ => Ev_not rfl rfl) ⟨B1, B2, hP, Ky⟩ ?_
              refine AW_done (by decide +kernel) ?_
              refine CW_cond rfl (fun c11 => ?_) (fun c11 => ?_)
              · have d11 := c11
                first | (with_reducible replace d11 := of_decide_eq_true d11) | (with_reducible replace d11 := bnt d11; try (with_reducible replace d11 := of_decide_eq_false d11)) | skip
                have hap : apart m.r y.r = false := by first | exact d11 | simpa using c11
                have hany : ((p.ps.map PrtM.r).take j).any (fun y => !apart m.r y) = true := List.any_eq_true.2 ⟨y.r, List.mem_of_getElem? (i := k) (by rw [List.getElem?_take, if_pos hk2]; exact hry), by rw [hap]; rfl⟩
                refine CW_seq ?_
                refine CW_reg rfl ?_
                refine OW_ev (Ev_c (.inr rfl)) rfl ?_
                refine OW_nil ?_
                refine CW_ret ?_
                refine blk_ret ?_
                refine blk_ret ?_
                refine ⟨rfl, _, (.tmp rfl .nil), ?_⟩
                rw [hspec]
                unfold partErr
                exact ⟨T, vi rfl (by first | rw [if_pos hbad] | rw [if_neg hbad, if_pos hany] | rw [if_neg hbad, if_neg hany, if_pos (by omega)] | rw [if_neg hbad, if_neg hany, if_neg (by omega), if_pos (by omega)] | rw [if_neg hbad, if_neg hany, if_neg (by omega), if_neg (by omega)])⟩
              · have d11 := c11
                first | (with_reducible replace d11 := of_decide_eq_false d11) | (with_reducible replace d11 := bnf d11; try (with_reducible replace d11 := of_decide_eq_true d11)) | skip
                have hap : apart m.r y.r = true := by first | exact d11 | simpa using c11
                refine CW_skip ?_
                refine CW_reg rfl ?_
                refine OW_ev (Ev_mvi (.inl rfl) rfl) rfl ?_
                refine OW_ev (Ev_add rfl rfl rfl (by first | (apply IntWalk.i64_in; omega) | (apply IntWalk.u64_in; omega) | (apply IntWalk.u32_in; omega) | (apply IntWalk.u8_in; omega) | (apply IntWalk.i32_in; omega) | rfl)) rfl ?_
                refine OW_ev (Ev_mvi (.inr rfl) rfl) rfl ?_
                refine OW_nil ?_
                exact ⟨k + 1, by omega, ⟨rfl, rfl, rfl, congrArg (Value.int .i64) (by omega), trivial⟩, by omega, fun i hi z hz => by by_cases e : i = k; (subst e; rw [hy] at hz; cases hz; exact hap); exact hno i (by omega) z hz, B1, B2, hP, T⟩
            · have d8 := c8
              first | (with_reducible replace d8 := of_decide_eq_false d8) | (with_reducible replace d8 := bnf d8; try (with_reducible replace d8 := of_decide_eq_true d8)) | skip
              have hkj : k = j := by omega
              have hany : ¬ ((p.ps.map PrtM.r).take j).any (fun y => !apart m.r y) = true := by
                rw [Bool.not_eq_true, List.any_eq_false]
                intro z hz
                obtain ⟨i, hi⟩ := List.mem_iff_getElem?.1 hz
                rw [List.getElem?_take] at hi
                split at hi
                · rw [List.getElem?_map] at hi
                  cases hq : p.ps[i]? with
                  | none => rw [hq] at hi; cases hi
                  | some u => rw [hq] at hi; cases hi; simp [hno i (by omega) u hq]
                · cases hi
              refine CW_exit ?_
              refine blk_same ?_
              refine CW_seq ?_
              refine CW_seq ?_
              refine CW_reg rfl ?_
              refine OW_ev (Ev_fieldAddr fld_65_2 rfl rfl) rfl ?_
              refine OW_ev (Ev_load one_3 rfl rfl (B2.ld (q := 2) rfl)) rfl ?_
              refine OW_ev (Ev_lss rfl rfl rfl) rfl ?_
              refine OW_ev (Ev_mvb (.inl rfl) rfl) rfl ?_
              refine OW_split (d := .tmp 53) rfl (fun c12 => ?_) (fun c12 => ?_)
              · have d12 := c12
                first | (with_reducible replace d12 := of_decide_eq_true d12) | (with_reducible replace d12 := bnt d12; try (with_reducible replace d12 := of_decide_eq_false d12)) | skip
                refine OW_no rfl rfl rfl rfl c12 ?_
                refine OW_no rfl rfl rfl rfl c12 ?_
                refine OW_no rfl rfl rfl rfl c12 ?_
                refine OW_ev (Ev_pickb_t rfl rfl c12 rfl) rfl ?_
                refine OW_ev (Ev_mvb (.inl rfl) rfl) rfl ?_
                refine OW_no rfl rfl rfl rfl rfl ?_
                refine OW_no rfl rfl rfl rfl rfl ?_
                refine OW_no rfl rfl rfl rfl rfl ?_
                refine OW_no rfl rfl rfl rfl rfl ?_
                refine OW_ev (Ev_pickb_t rfl rfl rfl rfl) rfl ?_
                refine OW_ev (Ev_mvb (.inl rfl) rfl) rfl ?_
                refine OW_no rfl rfl rfl rfl rfl ?_
                refine OW_no rfl rfl rfl rfl rfl ?_
                refine OW_no rfl rfl rfl rfl rfl ?_
                refine OW_no rfl rfl rfl rfl rfl ?_
                refine OW_ev (Ev_pickb_t rfl rfl rfl rfl) rfl ?_
                refine OW_ev (Ev_mvb (.inl rfl) rfl) rfl ?_
                refine OW_no rfl rfl rfl rfl rfl ?_
                refine OW_no rfl rfl rfl rfl rfl ?_
                refine OW_no rfl rfl rfl rfl rfl ?_
                refine OW_ev (Ev_pickb_t rfl rfl rfl rfl) rfl ?_
                refine OW_ev (Ev_mvb (.inl rfl) rfl) rfl ?_
                refine OW_no rfl rfl rfl rfl rfl ?_
                refine OW_no rfl rfl rfl rfl rfl ?_
                refine OW_no rfl rfl rfl rfl rfl ?_
                refine OW_ev (Ev_pickb_t rfl rfl rfl rfl) rfl ?_
                refine OW_nil ?_
                refine CW_cond_t rfl rfl ?_
                refine CW_seq ?_
                refine CW_re [(5, .pointer _)] ⟨rfl, trivial⟩ (fun g => ?_)
                refine CW_reg rfl ?_
                refine OW_ev (Ev_c (.inr rfl)) rfl ?_
                refine OW_nil ?_
                refine CW_ret ?_
                refine ⟨rfl, _, (.tmp rfl .nil), ?_⟩
                rw [hspec]
                unfold partErr
                exact ⟨T, vi rfl (by first | rw [if_pos hbad] | rw [if_neg hbad, if_pos hany] | rw [if_neg hbad, if_neg hany, if_pos (by omega)] | rw [if_neg hbad, if_neg hany, if_neg (by omega), if_pos (by omega)] | rw [if_neg hbad, if_neg hany, if_neg (by omega), if_neg (by omega)])⟩
              · have d12 := c12
                first | (with_reducible replace d12 := of_decide_eq_false d12) | (with_reducible replace d12 := bnf d12; try (with_reducible replace d12 := of_decide_eq_true d12)) | skip
                refine OW_yes rfl rfl rfl rfl c12 (Ev.stp (Ev_fieldAddr fld_65_2 rfl rfl) ?_)
                refine OW_yes rfl rfl rfl rfl c12 (Ev.stp (Ev_load one_3 rfl rfl (B2.ld (q := 2) rfl)) ?_)
                refine OW_yes rfl rfl rfl rfl c12 (Ev.stp (Ev_gtr rfl rfl rfl) ?_)
                refine OW_ev (Ev_pickb_f rfl rfl c12 rfl) rfl ?_
                refine OW_ev (Ev_mvb (.inl rfl) rfl) rfl ?_
                refine OW_split (d := .tmp 58) rfl (fun c13 => ?_) (fun c13 => ?_)
                · have d13 := c13
                  first | (with_reducible replace d13 := of_decide_eq_true d13) | (with_reducible replace d13 := bnt d13; try (with_reducible replace d13 := of_decide_eq_false d13)) | skip
                  refine OW_no rfl rfl rfl rfl c13 ?_
                  refine OW_no rfl rfl rfl rfl c13 ?_
                  refine OW_no rfl rfl rfl rfl c13 ?_
                  refine OW_no rfl rfl rfl rfl c13 ?_
                  refine OW_ev (Ev_pickb_t rfl rfl c13 rfl) rfl ?_
                  refine OW_ev (Ev_mvb (.inl rfl) rfl) rfl ?_
                  refine OW_no rfl rfl rfl rfl rfl ?_
                  refine OW_no rfl rfl rfl rfl rfl ?_
                  refine OW_no rfl rfl rfl rfl rfl ?_
                  refine OW_no rfl rfl rfl rfl rfl ?_
                  refine OW_ev (Ev_pickb_t rfl rfl rfl rfl) rfl ?_
                  refine OW_ev (Ev_mvb (.inl rfl) rfl) rfl ?_
                  refine OW_no rfl rfl rfl rfl rfl ?_
                  refine OW_no rfl rfl rfl rfl rfl ?_
                  refine OW_no rfl rfl rfl rfl rfl ?_
                  refine OW_ev (Ev_pickb_t rfl rfl rfl rfl) rfl ?_
                  refine OW_ev (Ev_mvb (.inl rfl) rfl) rfl ?_
                  refine OW_no rfl rfl rfl rfl rfl ?_
                  refine OW_no rfl rfl rfl rfl rfl ?_
                  refine OW_no rfl rfl rfl rfl rfl ?_
                  refine OW_ev (Ev_pickb_t rfl rfl rfl rfl) rfl ?_
                  refine OW_nil ?_
                  refine CW_cond_t rfl rfl ?_
                  refine CW_seq ?_
                  refine CW_re [(5, .pointer _)] ⟨rfl, trivial⟩ (fun g => ?_)
                  refine CW_reg rfl ?_
                  refine OW_ev (Ev_c (.inr rfl)) rfl ?_
                  refine OW_nil ?_
                  refine CW_ret ?_
                  refine ⟨rfl, _, (.tmp rfl .nil), ?_⟩
                  rw [hspec]
                  unfold partErr
                  exact ⟨T, vi rfl (by first | rw [if_pos hbad] | rw [if_neg hbad, if_pos hany] | rw [if_neg hbad, if_neg hany, if_pos (by omega)] | rw [if_neg hbad, if_neg hany, if_neg (by omega), if_pos (by omega)] | rw [if_neg hbad, if_neg hany, if_neg (by omega), if_neg (by omega)])⟩
                · have d13 := c13
                  first | (with_reducible replace d13 := of_decide_eq_false d13) | (with_reducible replace d13 := bnf d13; try (with_reducible replace d13 := of_decide_eq_true d13)) | skip
                  refine OW_yes rfl rfl rfl rfl c13 (Ev.stp (Ev_fieldAddr fld_65_3 rfl rfl) ?_)
                  refine OW_yes rfl rfl rfl rfl c13 (Ev.stp (Ev_load one_63 rfl rfl (B2.ld (q := 3) rfl)) ?_)
                  refine OW_yes rfl rfl rfl rfl c13 (Ev.stp (Ev_len und_63 rfl rfl) ?_)
                  refine OW_yes rfl rfl rfl rfl c13 (Ev.stp (Ev_lss rfl rfl rfl) ?_)
                  refine OW_ev (Ev_pickb_f rfl rfl c13 rfl) rfl ?_
                  refine OW_ev (Ev_mvb (.inl rfl) rfl) rfl ?_
                  refine OW_split (d := .tmp 64) rfl (fun c14 => ?_) (fun c14 => ?_)
                  · have d14 := c14
                    first | (with_reducible replace d14 := of_decide_eq_true d14) | (with_reducible replace d14 := bnt d14; try (with_reducible replace d14 := of_decide_eq_false d14)) | skip
                    refine OW_no rfl rfl rfl rfl c14 ?_
                    refine OW_no rfl rfl rfl rfl c14 ?_
                    refine OW_no rfl rfl rfl rfl c14 ?_
                    refine OW_no rfl rfl rfl rfl c14 ?_
                    refine OW_ev (Ev_pickb_t rfl rfl c14 rfl) rfl ?_
                    refine OW_ev (Ev_mvb (.inl rfl) rfl) rfl ?_
                    refine OW_no rfl rfl rfl rfl rfl ?_
                    refine OW_no rfl rfl rfl rfl rfl ?_
                    refine OW_no rfl rfl rfl rfl rfl ?_
                    refine OW_ev (Ev_pickb_t rfl rfl rfl rfl) rfl ?_
                    refine OW_ev (Ev_mvb (.inl rfl) rfl) rfl ?_
                    refine OW_no rfl rfl rfl rfl rfl ?_
                    refine OW_no rfl rfl rfl rfl rfl ?_
                    refine OW_no rfl rfl rfl rfl rfl ?_
                    refine OW_ev (Ev_pickb_t rfl rfl rfl rfl) rfl ?_
                    refine OW_nil ?_
                    refine CW_cond_t rfl rfl ?_
                    refine CW_seq ?_
                    refine CW_re [(5, .pointer _)] ⟨rfl, trivial⟩ (fun g => ?_)
                    refine CW_reg rfl ?_
                    refine OW_ev (Ev_c (.inr rfl)) rfl ?_
                    refine OW_nil ?_
                    refine CW_ret ?_
                    refine ⟨rfl, _, (.tmp rfl .nil), ?_⟩
                    rw [hspec]
                    unfold partErr
                    exact ⟨T, vi rfl (by first | rw [if_pos hbad] | rw [if_neg hbad, if_pos hany] | rw [if_neg hbad, if_neg hany, if_pos (by omega)] | rw [if_neg hbad, if_neg hany, if_neg (by omega), if_pos (by omega)] | rw [if_neg hbad, if_neg hany, if_neg (by omega), if_neg (by omega)])⟩
                  · have d14 := c14
                    first | (with_reducible replace d14 := of_decide_eq_false d14) | (with_reducible replace d14 := bnf d14; try (with_reducible replace d14 := of_decide_eq_true d14)) | skip
                    refine OW_yes rfl rfl rfl rfl c14 (Ev.stp (Ev_fieldAddr fld_65_3 rfl rfl) ?_)
                    refine OW_yes rfl rfl rfl rfl c14 (Ev.stp (Ev_load one_63 rfl rfl (B2.ld (q := 3) rfl)) ?_)
                    refine OW_yes rfl rfl rfl rfl c14 (Ev.stp (Ev_len und_63 rfl rfl) ?_)
                    refine OW_yes rfl rfl rfl rfl c14 (Ev.stp (Ev_gtr rfl rfl rfl) ?_)
                    refine OW_ev (Ev_pickb_f rfl rfl c14 rfl) rfl ?_
                    refine OW_ev (Ev_mvb (.inl rfl) rfl) rfl ?_
                    refine OW_split (d := .tmp 70) rfl (fun c15 => ?_) (fun c15 => ?_)
                    · have d15 := c15
                      first | (with_reducible replace d15 := of_decide_eq_true d15) | (with_reducible replace d15 := bnt d15; try (with_reducible replace d15 := of_decide_eq_false d15)) | skip
                      refine OW_no rfl rfl rfl rfl c15 ?_
                      refine OW_no rfl rfl rfl rfl c15 ?_
                      refine OW_no rfl rfl rfl rfl c15 ?_
                      refine OW_ev (Ev_pickb_t rfl rfl c15 rfl) rfl ?_
                      refine OW_ev (Ev_mvb (.inl rfl) rfl) rfl ?_
                      refine OW_no rfl rfl rfl rfl rfl ?_
                      refine OW_no rfl rfl rfl rfl rfl ?_
                      refine OW_no rfl rfl rfl rfl rfl ?_
                      refine OW_ev (Ev_pickb_t rfl rfl rfl rfl) rfl ?_
                      refine OW_nil ?_
                      refine CW_cond_t rfl rfl ?_
                      refine CW_seq ?_
                      refine CW_re [(5, .pointer _)] ⟨rfl, trivial⟩ (fun g => ?_)
                      refine CW_reg rfl ?_
                      refine OW_ev (Ev_c (.inr rfl)) rfl ?_
                      refine OW_nil ?_
                      refine CW_ret ?_
                      refine ⟨rfl, _, (.tmp rfl .nil), ?_⟩
                      rw [hspec]
                      unfold partErr
                      exact ⟨T, vi rfl (by first | rw [if_pos hbad] | rw [if_neg hbad, if_pos hany] | rw [if_neg hbad, if_neg hany, if_pos (by omega)] | rw [if_neg hbad, if_neg hany, if_neg (by omega), if_pos (by omega)] | rw [if_neg hbad, if_neg hany, if_neg (by omega), if_neg (by omega)])⟩
                    · have d15 := c15
                      first | (with_reducible replace d15 := of_decide_eq_false d15) | (with_reducible replace d15 := bnf d15; try (with_reducible replace d15 := of_decide_eq_true d15)) | skip
                      refine OW_yes rfl rfl rfl rfl c15 (Ev.stp (Ev_fieldAddr fld_65_5 rfl rfl) ?_)
                      refine OW_yes rfl rfl rfl rfl c15 (Ev.stp (Ev_load one_3 rfl rfl (B2.ld (q := 5) rfl)) ?_)
                      refine OW_yes rfl rfl rfl rfl c15 (Ev.stp (Ev_lss rfl rfl rfl) ?_)
                      refine OW_ev (Ev_pickb_f rfl rfl c15 rfl) rfl ?_
                      refine OW_ev (Ev_mvb (.inl rfl) rfl) rfl ?_
                      refine OW_split (d := .tmp 75) rfl (fun c16 => ?_) (fun c16 => ?_)
                      · have d16 := c16
                        first | (with_reducible replace d16 := of_decide_eq_true d16) | (with_reducible replace d16 := bnt d16; try (with_reducible replace d16 := of_decide_eq_false d16)) | skip
                        refine OW_no rfl rfl rfl rfl c16 ?_
                        refine OW_no rfl rfl rfl rfl c16 ?_
                        refine OW_no rfl rfl rfl rfl c16 ?_
                        refine OW_ev (Ev_pickb_t rfl rfl c16 rfl) rfl ?_
                        refine OW_nil ?_
                        refine CW_cond_t rfl rfl ?_
                        refine CW_seq ?_
                        refine CW_re [(5, .pointer _)] ⟨rfl, trivial⟩ (fun g => ?_)
                        refine CW_reg rfl ?_
                        refine OW_ev (Ev_c (.inr rfl)) rfl ?_
                        refine OW_nil ?_
                        refine CW_ret ?_
                        refine ⟨rfl, _, (.tmp rfl .nil), ?_⟩
                        rw [hspec]
                        unfold partErr
                        exact ⟨T, vi rfl (by first | rw [if_pos hbad] | rw [if_neg hbad, if_pos hany] | rw [if_neg hbad, if_neg hany, if_pos (by omega)] | rw [if_neg hbad, if_neg hany, if_neg (by omega), if_pos (by omega)] | rw [if_neg hbad, if_neg hany, if_neg (by omega), if_neg (by omega)])⟩
                      · have d16 := c16
                        first | (with_reducible replace d16 := of_decide_eq_false d16) | (with_reducible replace d16 := bnf d16; try (with_reducible replace d16 := of_decide_eq_true d16)) | skip
                        refine OW_yes rfl rfl rfl rfl c16 (Ev.stp (Ev_fieldAddr fld_65_5 rfl rfl) ?_)
                        refine OW_yes rfl rfl rfl rfl c16 (Ev.stp (Ev_load one_3 rfl rfl (B2.ld (q := 5) rfl)) ?_)
                        refine OW_yes rfl rfl rfl rfl c16 (Ev.stp (Ev_gtr rfl rfl rfl) ?_)
                        refine OW_ev (Ev_pickb_f rfl rfl c16 rfl) rfl ?_
                        refine OW_nil ?_
                        refine CW_cond rfl (fun c17 => ?_) (fun c17 => ?_)
                        · have d17 := c17
                          first | (with_reducible replace d17 := of_decide_eq_true d17) | (with_reducible replace d17 := bnt d17; try (with_reducible replace d17 := of_decide_eq_false d17)) | skip
                          refine CW_seq ?_
                          refine CW_re [(5, .pointer _)] ⟨rfl, trivial⟩ (fun g => ?_)
                          refine CW_reg rfl ?_
                          refine OW_ev (Ev_c (.inr rfl)) rfl ?_
                          refine OW_nil ?_
                          refine CW_ret ?_
                          refine ⟨rfl, _, (.tmp rfl .nil), ?_⟩
                          rw [hspec]
                          unfold partErr
                          exact ⟨T, vi rfl (by first | rw [if_pos hbad] | rw [if_neg hbad, if_pos hany] | rw [if_neg hbad, if_neg hany, if_pos (by omega)] | rw [if_neg hbad, if_neg hany, if_neg (by omega), if_pos (by omega)] | rw [if_neg hbad, if_neg hany, if_neg (by omega), if_neg (by omega)])⟩
                        · have d17 := c17
                          first | (with_reducible replace d17 := of_decide_eq_false d17) | (with_reducible replace d17 := bnf d17; try (with_reducible replace d17 := of_decide_eq_true d17)) | skip
                          refine CW_skip ?_
                          refine CW_seq ?_
                          refine CW_seq ?_
                          refine CW_re [(5, .pointer _)] ⟨rfl, trivial⟩ (fun g => ?_)
                          refine CW_reg rfl ?_
                          refine OW_ev (Ev_fieldAddr fld_65_4 rfl rfl) rfl ?_
                          refine OW_ev (Ev_load one_3 rfl rfl (B2.ld (q := 4) rfl)) rfl ?_
                          refine OW_ev (Ev_lss rfl rfl rfl) rfl ?_
                          refine OW_ev (Ev_mvb (.inl rfl) rfl) rfl ?_
                          refine OW_split (d := .tmp 83) rfl (fun c18 => ?_) (fun c18 => ?_)
                          · have d18 := c18
                            first | (with_reducible replace d18 := of_decide_eq_true d18) | (with_reducible replace d18 := bnt d18; try (with_reducible replace d18 := of_decide_eq_false d18)) | skip
                            refine OW_no rfl rfl rfl rfl c18 ?_
                            refine OW_no rfl rfl rfl rfl c18 ?_
                            refine OW_no rfl rfl rfl rfl c18 ?_
                            refine OW_ev (Ev_pickb_t rfl rfl c18 rfl) rfl ?_
                            refine OW_nil ?_
                            refine CW_cond_t rfl rfl ?_
                            refine CW_seq ?_
                            refine CW_reg rfl ?_
                            refine OW_ev (Ev_c (.inr rfl)) rfl ?_
                            refine OW_nil ?_
                            refine CW_ret ?_
                            refine ⟨rfl, _, (.tmp rfl .nil), ?_⟩
                            rw [hspec]
                            unfold partErr
                            exact ⟨T, vi rfl (by first | rw [if_pos hbad] | rw [if_neg hbad, if_pos hany] | rw [if_neg hbad, if_neg hany, if_pos (by omega)] | rw [if_neg hbad, if_neg hany, if_neg (by omega), if_pos (by omega)] | rw [if_neg hbad, if_neg hany, if_neg (by omega), if_neg (by omega)])⟩
                          · have d18 := c18
                            first | (with_reducible replace d18 := of_decide_eq_false d18) | (with_reducible replace d18 := bnf d18; try (with_reducible replace d18 := of_decide_eq_true d18)) | skip
                            refine OW_yes rfl rfl rfl rfl c18 (Ev.stp (Ev_fieldAddr fld_65_4 rfl rfl) ?_)
                            refine OW_yes rfl rfl rfl rfl c18 (Ev.stp (Ev_load one_3 rfl rfl (B2.ld (q := 4) rfl)) ?_)
                            refine OW_yes rfl rfl rfl rfl c18 (Ev.stp (Ev_gtr rfl rfl rfl) ?_)
                            refine OW_ev (Ev_pickb_f rfl rfl c18 rfl) rfl ?_
                            refine OW_nil ?_
                            refine CW_cond rfl (fun c19 => ?_) (fun c19 => ?_)
                            · have d19 := c19
                              first | (with_reducible replace d19 := of_decide_eq_true d19) | (with_reducible replace d19 := bnt d19; try (with_reducible replace d19 := of_decide_eq_false d19)) | skip
                              refine CW_seq ?_
                              refine CW_reg rfl ?_
                              refine OW_ev (Ev_c (.inr rfl)) rfl ?_
                              refine OW_nil ?_
                              refine CW_ret ?_
                              refine ⟨rfl, _, (.tmp rfl .nil), ?_⟩
                              rw [hspec]
                              unfold partErr
                              exact ⟨T, vi rfl (by first | rw [if_pos hbad] | rw [if_neg hbad, if_pos hany] | rw [if_neg hbad, if_neg hany, if_pos (by omega)] | rw [if_neg hbad, if_neg hany, if_neg (by omega), if_pos (by omega)] | rw [if_neg hbad, if_neg hany, if_neg (by omega), if_neg (by omega)])⟩
                            · have d19 := c19
                              first | (with_reducible replace d19 := of_decide_eq_false d19) | (with_reducible replace d19 := bnf d19; try (with_reducible replace d19 := of_decide_eq_true d19)) | skip
                              refine CW_skip ?_
                              refine CW_seq ?_
                              refine CW_reg rfl ?_
                              refine OW_ev (Ev_c (.inr rfl)) rfl ?_
                              refine OW_nil ?_
                              refine CW_ret ?_
                              refine ⟨rfl, _, (.tmp rfl .nil), ?_⟩
                              rw [hspec]
                              unfold partErr
                              exact ⟨T, vi rfl (by first | rw [if_pos hbad] | rw [if_neg hbad, if_pos hany] | rw [if_neg hbad, if_neg hany, if_pos (by omega)] | rw [if_neg hbad, if_neg hany, if_neg (by omega), if_pos (by omega)] | rw [if_neg hbad, if_neg hany, if_neg (by omega), if_neg (by omega)])⟩

set_option maxRecDepth 10000 in
set_option maxHeartbeats 2000000 in
theorem rchan_c (w : World) (p : PlnM) (c : Chn) : Calls Try.prog 44 #[.agg p.cl.toArray, .agg c.cells.toArray] w (Ret fun v w' => Kp0 w w' ∧ v = .int .i64 (chanErr p.ps.length c)) := by
  have T : Kp0 w w := Kp.refl _ _
  refine calls_start Try.func44 rfl (n := 72) rfl rfl rfl ?_
  refine CW_seq ?_
  refine CW_reg rfl ?_
  refine OW_st rfl (Stp_box (l := [.int _ _, .slice _ _ _, .slice _ _ _, .slice _ _ _]) rfl rfl rfl ?_)
  intro b1 w1 hb1 hz1 E1 B1
  have L1 : _ ≤ b1 := Nat.le_trans T.size (Nat.le_of_eq hb1.symm)
  have T := T.keep0 E1
  replace B1 : Blk w1 b1 51 (p.cl) := B1
  refine OW_st rfl (Stp_box (l := [.int _ _, .int _ _, .int _ _, .int _ _, .int _ _]) rfl rfl rfl ?_)
  intro b2 w2 hb2 hz2 E2 B2
  have L2 : _ ≤ b2 := Nat.le_trans T.size (Nat.le_of_eq hb2.symm)
  have T := T.keep0 E2
  have B1 := B1.keep0 E2
  replace B2 : Blk w2 b2 91 (c.cells) := B2
  refine OW_ev (Ev_c (.inr rfl)) rfl ?_
  refine OW_nil ?_
  refine CW_seq ?_
  refine CW_reg rfl ?_
  refine OW_ev (Ev_fieldAddr fld_51_1 rfl rfl) rfl ?_
  refine OW_ev (Ev_load one_47 rfl rfl (B1.ld (q := 1) rfl)) rfl ?_
  refine OW_ev (Ev_len und_47 rfl rfl) rfl ?_
  refine OW_ev (Ev_mvi (.inr rfl) rfl) rfl ?_
  refine OW_nil ?_
  refine CW_seq ?_
  refine CW_seq ?_
  refine CW_reg rfl ?_
  refine OW_ev (Ev_fieldAddr fld_91_0 rfl rfl) rfl ?_
  refine OW_ev (Ev_load one_3 rfl rfl (B2.ld (q := 0) rfl)) rfl ?_
  refine OW_ev (Ev_neq rfl rfl rfl) rfl ?_
  refine OW_ev (Ev_mvb (.inl rfl) rfl) rfl ?_
  refine OW_split (d := .tmp 12) rfl (fun c3 => ?_) (fun c3 => ?_)
  · have d3 := c3
    first | (with_reducible replace d3 := of_decide_eq_true d3) | (with_reducible replace d3 := bnt d3; try (with_reducible replace d3 := of_decide_eq_false d3)) | skip
    refine OW_yes rfl rfl rfl rfl c3 (Ev.stp (Ev_fieldAddr fld_91_0 rfl rfl) ?_)
    refine OW_yes rfl rfl rfl rfl c3 (Ev.stp (Ev_load one_3 rfl rfl (B2.ld (q := 0) rfl)) ?_)
    refine OW_yes rfl rfl rfl rfl c3 (Ev.stp (Ev_neq rfl rfl rfl) ?_)
    refine OW_ev (Ev_pickb_t rfl rfl c3 rfl) rfl ?_
    refine OW_nil ?_
    refine CW_cond rfl (fun c4 => ?_) (fun c4 => ?_)
    · have d4 := c4
      first | (with_reducible replace d4 := of_decide_eq_true d4) | (with_reducible replace d4 := bnt d4; try (with_reducible replace d4 := of_decide_eq_false d4)) | skip
      refine CW_seq ?_
      refine CW_reg rfl ?_
      refine OW_ev (Ev_c (.inr rfl)) rfl ?_
      refine OW_nil ?_
      refine CW_ret ?_
      refine ⟨rfl, _, (.tmp rfl .nil), ?_⟩
      unfold chanErr
      exact ⟨T, vi rfl (by first | (exfalso; omega) | rw [if_pos (by omega)] | rw [if_neg (by omega), if_pos (by omega)] | rw [if_neg (by omega), if_neg (by omega), if_pos (by omega)] | rw [if_neg (by omega), if_neg (by omega), if_neg (by omega)])⟩
    · have d4 := c4
      first | (with_reducible replace d4 := of_decide_eq_false d4) | (with_reducible replace d4 := bnf d4; try (with_reducible replace d4 := of_decide_eq_true d4)) | skip
      refine CW_skip ?_
      refine CW_seq ?_
      refine CW_seq ?_
      refine CW_reg rfl ?_
      refine OW_ev (Ev_fieldAddr fld_91_1 rfl rfl) rfl ?_
      refine OW_ev (Ev_load one_3 rfl rfl (B2.ld (q := 1) rfl)) rfl ?_
      refine OW_ev (Ev_lss rfl rfl rfl) rfl ?_
      refine OW_ev (Ev_mvb (.inl rfl) rfl) rfl ?_
      refine OW_split (d := .tmp 20) rfl (fun c5 => ?_) (fun c5 => ?_)
      · have d5 := c5
        first | (with_reducible replace d5 := of_decide_eq_true d5) | (with_reducible replace d5 := bnt d5; try (with_reducible replace d5 := of_decide_eq_false d5)) | skip
        refine OW_no rfl rfl rfl rfl c5 ?_
        refine OW_no rfl rfl rfl rfl c5 ?_
        refine OW_no rfl rfl rfl rfl c5 ?_
        refine OW_no rfl rfl rfl rfl c5 ?_
        refine OW_ev (Ev_pickb_t rfl rfl c5 rfl) rfl ?_
        refine OW_ev (Ev_mvb (.inl rfl) rfl) rfl ?_
        refine OW_no rfl rfl rfl rfl rfl ?_
        refine OW_no rfl rfl rfl rfl rfl ?_
        refine OW_no rfl rfl rfl rfl rfl ?_
        refine OW_ev (Ev_pickb_t rfl rfl rfl rfl) rfl ?_
        refine OW_ev (Ev_mvb (.inl rfl) rfl) rfl ?_
        refine OW_no rfl rfl rfl rfl rfl ?_
        refine OW_no rfl rfl rfl rfl rfl ?_
        refine OW_no rfl rfl rfl rfl rfl ?_
        refine OW_no rfl rfl rfl rfl rfl ?_
        refine OW_ev (Ev_pickb_t rfl rfl rfl rfl) rfl ?_
        refine OW_ev (Ev_mvb (.inl rfl) rfl) rfl ?_
        refine OW_no rfl rfl rfl rfl rfl ?_
        refine OW_no rfl rfl rfl rfl rfl ?_
        refine OW_no rfl rfl rfl rfl rfl ?_
        refine OW_no rfl rfl rfl rfl rfl ?_
        refine OW_no rfl rfl rfl rfl rfl ?_
        refine OW_ev (Ev_pickb_t rfl rfl rfl rfl) rfl ?_
        refine OW_nil ?_
        refine CW_cond_t rfl rfl ?_
        refine CW_seq ?_
        refine CW_re [(3, .pointer _), (4, .int _ _)] ⟨rfl, rfl, trivial⟩ (fun g => ?_)
        refine CW_reg rfl ?_
        refine OW_ev (Ev_c (.inr rfl)) rfl ?_
        refine OW_nil ?_
        refine CW_ret ?_
        refine ⟨rfl, _, (.tmp rfl .nil), ?_⟩
        unfold chanErr
        exact ⟨T, vi rfl (by first | (exfalso; omega) | rw [if_pos (by omega)] | rw [if_neg (by omega), if_pos (by omega)] | rw [if_neg (by omega), if_neg (by omega), if_pos (by omega)] | rw [if_neg (by omega), if_neg (by omega), if_neg (by omega)])⟩
      · have d5 := c5
        first | (with_reducible replace d5 := of_decide_eq_false d5) | (with_reducible replace d5 := bnf d5; try (with_reducible replace d5 := of_decide_eq_true d5)) | skip
        refine OW_yes rfl rfl rfl rfl c5 (Ev.stp (Ev_fieldAddr fld_91_1 rfl rfl) ?_)
        refine OW_yes rfl rfl rfl rfl c5 (Ev.stp (Ev_load one_3 rfl rfl (B2.ld (q := 1) rfl)) ?_)
        refine OW_yes rfl rfl rfl rfl c5 (Ev.stp (Ev_mvi (.inl rfl) rfl) ?_)
        refine OW_yes rfl rfl rfl rfl c5 (Ev.stp (Ev_geq rfl rfl rfl) ?_)
        refine OW_ev (Ev_pickb_f rfl rfl c5 rfl) rfl ?_
        refine OW_ev (Ev_mvb (.inl rfl) rfl) rfl ?_
        refine OW_split (d := .tmp 26) rfl (fun c6 => ?_) (fun c6 => ?_)
        · have d6 := c6
          first | (with_reducible replace d6 := of_decide_eq_true d6) | (with_reducible replace d6 := bnt d6; try (with_reducible replace d6 := of_decide_eq_false d6)) | skip
          refine OW_no rfl rfl rfl rfl c6 ?_
          refine OW_no rfl rfl rfl rfl c6 ?_
          refine OW_no rfl rfl rfl rfl c6 ?_
          refine OW_ev (Ev_pickb_t rfl rfl c6 rfl) rfl ?_
          refine OW_ev (Ev_mvb (.inl rfl) rfl) rfl ?_
          refine OW_no rfl rfl rfl rfl rfl ?_
          refine OW_no rfl rfl rfl rfl rfl ?_
          refine OW_no rfl rfl rfl rfl rfl ?_
          refine OW_no rfl rfl rfl rfl rfl ?_
          refine OW_ev (Ev_pickb_t rfl rfl rfl rfl) rfl ?_
          refine OW_ev (Ev_mvb (.inl rfl) rfl) rfl ?_
          refine OW_no rfl rfl rfl rfl rfl ?_
          refine OW_no rfl rfl rfl rfl rfl ?_
          refine OW_no rfl rfl rfl rfl rfl ?_
          refine OW_no rfl rfl rfl rfl rfl ?_
          refine OW_no rfl rfl rfl rfl rfl ?_
          refine OW_ev (Ev_pickb_t rfl rfl rfl rfl) rfl ?_
          refine OW_nil ?_
          refine CW_cond_t rfl rfl ?_
          refine CW_seq ?_
          refine CW_re [(3, .pointer _), (4, .int _ _)] ⟨rfl, rfl, trivial⟩ (fun g => ?_)
          refine CW_reg rfl ?_
          refine OW_ev (Ev_c (.inr rfl)) rfl ?_
          refine OW_nil ?_
          refine CW_ret ?_
          refine ⟨rfl, _, (.tmp rfl .nil), ?_⟩
          unfold chanErr
          exact ⟨T, vi rfl (by first | (exfalso; omega) | rw [if_pos (by omega)] | rw [if_neg (by omega), if_pos (by omega)] | rw [if_neg (by omega), if_neg (by omega), if_pos (by omega)] | rw [if_neg (by omega), if_neg (by omega), if_neg (by omega)])⟩
        · have d6 := c6
          first | (with_reducible replace d6 := of_decide_eq_false d6) | (with_reducible replace d6 := bnf d6; try (with_reducible replace d6 := of_decide_eq_true d6)) | skip
          refine OW_yes rfl rfl rfl rfl c6 (Ev.stp (Ev_fieldAddr fld_91_2 rfl rfl) ?_)
          refine OW_yes rfl rfl rfl rfl c6 (Ev.stp (Ev_load one_3 rfl rfl (B2.ld (q := 2) rfl)) ?_)
          refine OW_yes rfl rfl rfl rfl c6 (Ev.stp (Ev_lss rfl rfl rfl) ?_)
          refine OW_ev (Ev_pickb_f rfl rfl c6 rfl) rfl ?_
          refine OW_ev (Ev_mvb (.inl rfl) rfl) rfl ?_
          refine OW_split (d := .tmp 31) rfl (fun c7 => ?_) (fun c7 => ?_)
          · have d7 := c7
            first | (with_reducible replace d7 := of_decide_eq_true d7) | (with_reducible replace d7 := bnt d7; try (with_reducible replace d7 := of_decide_eq_false d7)) | skip
            refine OW_no rfl rfl rfl rfl c7 ?_
            refine OW_no rfl rfl rfl rfl c7 ?_
            refine OW_no rfl rfl rfl rfl c7 ?_
            refine OW_no rfl rfl rfl rfl c7 ?_
            refine OW_ev (Ev_pickb_t rfl rfl c7 rfl) rfl ?_
            refine OW_ev (Ev_mvb (.inl rfl) rfl) rfl ?_
            refine OW_no rfl rfl rfl rfl rfl ?_
            refine OW_no rfl rfl rfl rfl rfl ?_
            refine OW_no rfl rfl rfl rfl rfl ?_
            refine OW_no rfl rfl rfl rfl rfl ?_
            refine OW_no rfl rfl rfl rfl rfl ?_
            refine OW_ev (Ev_pickb_t rfl rfl rfl rfl) rfl ?_
            refine OW_nil ?_
            refine CW_cond_t rfl rfl ?_
            refine CW_seq ?_
            refine CW_re [(3, .pointer _), (4, .int _ _)] ⟨rfl, rfl, trivial⟩ (fun g => ?_)
            refine CW_reg rfl ?_
            refine OW_ev (Ev_c (.inr rfl)) rfl ?_
            refine OW_nil ?_
            refine CW_ret ?_
            refine ⟨rfl, _, (.tmp rfl .nil), ?_⟩
            unfold chanErr
            exact ⟨T, vi rfl (by first | (exfalso; omega) | rw [if_pos (by omega)] | rw [if_neg (by omega), if_pos (by omega)] | rw [if_neg (by omega), if_neg (by omega), if_pos (by omega)] | rw [if_neg (by omega), if_neg (by omega), if_neg (by omega)])⟩
          · have d7 := c7
            first | (with_reducible replace d7 := of_decide_eq_false d7) | (with_reducible replace d7 := bnf d7; try (with_reducible replace d7 := of_decide_eq_true d7)) | skip
            refine OW_yes rfl rfl rfl rfl c7 (Ev.stp (Ev_fieldAddr fld_91_2 rfl rfl) ?_)
            refine OW_yes rfl rfl rfl rfl c7 (Ev.stp (Ev_load one_3 rfl rfl (B2.ld (q := 2) rfl)) ?_)
            refine OW_yes rfl rfl rfl rfl c7 (Ev.stp (Ev_mvi (.inl rfl) rfl) ?_)
            refine OW_yes rfl rfl rfl rfl c7 (Ev.stp (Ev_geq rfl rfl rfl) ?_)
            refine OW_ev (Ev_pickb_f rfl rfl c7 rfl) rfl ?_
            refine OW_ev (Ev_mvb (.inl rfl) rfl) rfl ?_
            refine OW_split (d := .tmp 37) rfl (fun c8 => ?_) (fun c8 => ?_)
            · have d8 := c8
              first | (with_reducible replace d8 := of_decide_eq_true d8) | (with_reducible replace d8 := bnt d8; try (with_reducible replace d8 := of_decide_eq_false d8)) | skip
              refine OW_no rfl rfl rfl rfl c8 ?_
              refine OW_no rfl rfl rfl rfl c8 ?_
              refine OW_no rfl rfl rfl rfl c8 ?_
              refine OW_no rfl rfl rfl rfl c8 ?_
              refine OW_no rfl rfl rfl rfl c8 ?_
              refine OW_ev (Ev_pickb_t rfl rfl c8 rfl) rfl ?_
              refine OW_nil ?_
              refine CW_cond_t rfl rfl ?_
              refine CW_seq ?_
              refine CW_re [(3, .pointer _), (4, .int _ _)] ⟨rfl, rfl, trivial⟩ (fun g => ?_)
              refine CW_reg rfl ?_
              refine OW_ev (Ev_c (.inr rfl)) rfl ?_
              refine OW_nil ?_
              refine CW_ret ?_
              refine ⟨rfl, _, (.tmp rfl .nil), ?_⟩
              unfold chanErr
              exact ⟨T, vi rfl (by first | (exfalso; omega) | rw [if_pos (by omega)] | rw [if_neg (by omega), if_pos (by omega)] | rw [if_neg (by omega), if_neg (by omega), if_pos (by omega)] | rw [if_neg (by omega), if_neg (by omega), if_neg (by omega)])⟩
            · have d8 := c8
              first | (with_reducible replace d8 := of_decide_eq_false d8) | (with_reducible replace d8 := bnf d8; try (with_reducible replace d8 := of_decide_eq_true d8)) | skip
              refine OW_yes rfl rfl rfl rfl c8 (Ev.stp (Ev_fieldAddr fld_91_1 rfl rfl) ?_)
              refine OW_yes rfl rfl rfl rfl c8 (Ev.stp (Ev_load one_3 rfl rfl (B2.ld (q := 1) rfl)) ?_)
              refine OW_yes rfl rfl rfl rfl c8 (Ev.stp (Ev_fieldAddr fld_91_2 rfl rfl) ?_)
              refine OW_yes rfl rfl rfl rfl c8 (Ev.stp (Ev_load one_3 rfl rfl (B2.ld (q := 2) rfl)) ?_)
              refine OW_yes rfl rfl rfl rfl c8 (Ev.stp (Ev_eql rfl rfl rfl) ?_)
              refine OW_ev (Ev_pickb_f rfl rfl c8 rfl) rfl ?_
              refine OW_nil ?_
              refine CW_cond rfl (fun c9 => ?_) (fun c9 => ?_)
              · have d9 := c9
                first | (with_reducible replace d9 := of_decide_eq_true d9) | (with_reducible replace d9 := bnt d9; try (with_reducible replace d9 := of_decide_eq_false d9)) | skip
                refine CW_seq ?_
                refine CW_re [(3, .pointer _), (4, .int _ _)] ⟨rfl, rfl, trivial⟩ (fun g => ?_)
                refine CW_reg rfl ?_
                refine OW_ev (Ev_c (.inr rfl)) rfl ?_
                refine OW_nil ?_
                refine CW_ret ?_
                refine ⟨rfl, _, (.tmp rfl .nil), ?_⟩
                unfold chanErr
                exact ⟨T, vi rfl (by first | (exfalso; omega) | rw [if_pos (by omega)] | rw [if_neg (by omega), if_pos (by omega)] | rw [if_neg (by omega), if_neg (by omega), if_pos (by omega)] | rw [if_neg (by omega), if_neg (by omega), if_neg (by omega)])⟩
              · have d9 := c9
                first | (with_reducible replace d9 := of_decide_eq_false d9) | (with_reducible replace d9 := bnf d9; try (with_reducible replace d9 := of_decide_eq_true d9)) | skip
                refine CW_skip ?_
                refine CW_seq ?_
                refine CW_seq ?_
                refine CW_re [(3, .pointer _), (4, .int _ _)] ⟨rfl, rfl, trivial⟩ (fun g => ?_)
                refine CW_reg rfl ?_
                refine OW_ev (Ev_fieldAddr fld_91_3 rfl rfl) rfl ?_
                refine OW_ev (Ev_load one_3 rfl rfl (B2.ld (q := 3) rfl)) rfl ?_
                refine OW_ev (Ev_lss rfl rfl rfl) rfl ?_
                refine OW_ev (Ev_mvb (.inl rfl) rfl) rfl ?_
                refine OW_split (d := .tmp 47) rfl (fun c10 => ?_) (fun c10 => ?_)
                · have d10 := c10
                  first | (with_reducible replace d10 := of_decide_eq_true d10) | (with_reducible replace d10 := bnt d10; try (with_reducible replace d10 := of_decide_eq_false d10)) | skip
                  refine OW_no rfl rfl rfl rfl c10 ?_
                  refine OW_no rfl rfl rfl rfl c10 ?_
                  refine OW_no rfl rfl rfl rfl c10 ?_
                  refine OW_ev (Ev_pickb_t rfl rfl c10 rfl) rfl ?_
                  refine OW_ev (Ev_mvb (.inl rfl) rfl) rfl ?_
                  refine OW_no rfl rfl rfl rfl rfl ?_
                  refine OW_no rfl rfl rfl rfl rfl ?_
                  refine OW_no rfl rfl rfl rfl rfl ?_
                  refine OW_ev (Ev_pickb_t rfl rfl rfl rfl) rfl ?_
                  refine OW_ev (Ev_mvb (.inl rfl) rfl) rfl ?_
                  refine OW_no rfl rfl rfl rfl rfl ?_
                  refine OW_no rfl rfl rfl rfl rfl ?_
                  refine OW_no rfl rfl rfl rfl rfl ?_
                  refine OW_ev (Ev_pickb_t rfl rfl rfl rfl) rfl ?_
                  refine OW_ev (Ev_mvb (.inl rfl) rfl) rfl ?_
                  refine OW_no rfl rfl rfl rfl rfl ?_
                  refine OW_no rfl rfl rfl rfl rfl ?_
                  refine OW_no rfl rfl rfl rfl rfl ?_
                  refine OW_no rfl rfl rfl rfl rfl ?_
                  refine OW_noU rfl rfl rfl ?_
                  refine OW_noU rfl rfl rfl ?_
                  refine OW_noU rfl rfl rfl ?_
                  refine OW_no rfl rfl rfl rfl rfl ?_
                  refine OW_ev (Ev_pickb_t rfl rfl rfl rfl) rfl ?_
                  refine OW_nil ?_
                  refine CW_cond_t rfl rfl ?_
                  refine CW_seq ?_
                  refine CW_re [(4, .int _ _)] ⟨rfl, trivial⟩ (fun g => ?_)
                  refine CW_reg rfl ?_
                  refine OW_ev (Ev_c (.inr rfl)) rfl ?_
                  refine OW_nil ?_
                  refine CW_ret ?_
                  refine ⟨rfl, _, (.tmp rfl .nil), ?_⟩
                  unfold chanErr
                  exact ⟨T, vi rfl (by first | (exfalso; omega) | rw [if_pos (by omega)] | rw [if_neg (by omega), if_pos (by omega)] | rw [if_neg (by omega), if_neg (by omega), if_pos (by omega)] | rw [if_neg (by omega), if_neg (by omega), if_neg (by omega)])⟩
                · have d10 := c10
                  first | (with_reducible replace d10 := of_decide_eq_false d10) | (with_reducible replace d10 := bnf d10; try (with_reducible replace d10 := of_decide_eq_true d10)) | skip
                  refine OW_yes rfl rfl rfl rfl c10 (Ev.stp (Ev_fieldAddr fld_91_3 rfl rfl) ?_)
                  refine OW_yes rfl rfl rfl rfl c10 (Ev.stp (Ev_load one_3 rfl rfl (B2.ld (q := 3) rfl)) ?_)
                  refine OW_yes rfl rfl rfl rfl c10 (Ev.stp (Ev_gtr rfl rfl rfl) ?_)
                  refine OW_ev (Ev_pickb_f rfl rfl c10 rfl) rfl ?_
                  refine OW_ev (Ev_mvb (.inl rfl) rfl) rfl ?_
                  refine OW_split (d := .tmp 52) rfl (fun c11 => ?_) (fun c11 => ?_)
                  · have d11 := c11
                    first | (with_reducible replace d11 := of_decide_eq_true d11) | (with_reducible replace d11 := bnt d11; try (with_reducible replace d11 := of_decide_eq_false d11)) | skip
                    refine OW_no rfl rfl rfl rfl c11 ?_
                    refine OW_no rfl rfl rfl rfl c11 ?_
                    refine OW_no rfl rfl rfl rfl c11 ?_
                    refine OW_ev (Ev_pickb_t rfl rfl c11 rfl) rfl ?_
                    refine OW_ev (Ev_mvb (.inl rfl) rfl) rfl ?_
                    refine OW_no rfl rfl rfl rfl rfl ?_
                    refine OW_no rfl rfl rfl rfl rfl ?_
                    refine OW_no rfl rfl rfl rfl rfl ?_
                    refine OW_ev (Ev_pickb_t rfl rfl rfl rfl) rfl ?_
                    refine OW_ev (Ev_mvb (.inl rfl) rfl) rfl ?_
                    refine OW_no rfl rfl rfl rfl rfl ?_
                    refine OW_no rfl rfl rfl rfl rfl ?_
                    refine OW_no rfl rfl rfl rfl rfl ?_
                    refine OW_no rfl rfl rfl rfl rfl ?_
                    refine OW_noU rfl rfl rfl ?_
                    refine OW_noU rfl rfl rfl ?_
                    refine OW_noU rfl rfl rfl ?_
                    refine OW_no rfl rfl rfl rfl rfl ?_
                    refine OW_ev (Ev_pickb_t rfl rfl rfl rfl) rfl ?_
                    refine OW_nil ?_
                    refine CW_cond_t rfl rfl ?_
                    refine CW_seq ?_
                    refine CW_re [(4, .int _ _)] ⟨rfl, trivial⟩ (fun g => ?_)
                    refine CW_reg rfl ?_
                    refine OW_ev (Ev_c (.inr rfl)) rfl ?_
                    refine OW_nil ?_
                    refine CW_ret ?_
                    refine ⟨rfl, _, (.tmp rfl .nil), ?_⟩
                    unfold chanErr
                    exact ⟨T, vi rfl (by first | (exfalso; omega) | rw [if_pos (by omega)] | rw [if_neg (by omega), if_pos (by omega)] | rw [if_neg (by omega), if_neg (by omega), if_pos (by omega)] | rw [if_neg (by omega), if_neg (by omega), if_neg (by omega)])⟩
                  · have d11 := c11
                    first | (with_reducible replace d11 := of_decide_eq_false d11) | (with_reducible replace d11 := bnf d11; try (with_reducible replace d11 := of_decide_eq_true d11)) | skip
                    refine OW_yes rfl rfl rfl rfl c11 (Ev.stp (Ev_fieldAddr fld_91_4 rfl rfl) ?_)
                    refine OW_yes rfl rfl rfl rfl c11 (Ev.stp (Ev_load one_3 rfl rfl (B2.ld (q := 4) rfl)) ?_)
                    refine OW_yes rfl rfl rfl rfl c11 (Ev.stp (Ev_lss rfl rfl rfl) ?_)
                    refine OW_ev (Ev_pickb_f rfl rfl c11 rfl) rfl ?_
                    refine OW_ev (Ev_mvb (.inl rfl) rfl) rfl ?_
                    refine OW_split (d := .tmp 57) rfl (fun c12 => ?_) (fun c12 => ?_)
                    · have d12 := c12
                      first | (with_reducible replace d12 := of_decide_eq_true d12) | (with_reducible replace d12 := bnt d12; try (with_reducible replace d12 := of_decide_eq_false d12)) | skip
                      refine OW_no rfl rfl rfl rfl c12 ?_
                      refine OW_no rfl rfl rfl rfl c12 ?_
                      refine OW_no rfl rfl rfl rfl c12 ?_
                      refine OW_ev (Ev_pickb_t rfl rfl c12 rfl) rfl ?_
                      refine OW_ev (Ev_mvb (.inl rfl) rfl) rfl ?_
                      refine OW_no rfl rfl rfl rfl rfl ?_
                      refine OW_no rfl rfl rfl rfl rfl ?_
                      refine OW_no rfl rfl rfl rfl rfl ?_
                      refine OW_no rfl rfl rfl rfl rfl ?_
                      refine OW_noU rfl rfl rfl ?_
                      refine OW_noU rfl rfl rfl ?_
                      refine OW_noU rfl rfl rfl ?_
                      refine OW_no rfl rfl rfl rfl rfl ?_
                      refine OW_ev (Ev_pickb_t rfl rfl rfl rfl) rfl ?_
                      refine OW_nil ?_
                      refine CW_cond_t rfl rfl ?_
                      refine CW_seq ?_
                      refine CW_re [(4, .int _ _)] ⟨rfl, trivial⟩ (fun g => ?_)
                      refine CW_reg rfl ?_
                      refine OW_ev (Ev_c (.inr rfl)) rfl ?_
                      refine OW_nil ?_
                      refine CW_ret ?_
                      refine ⟨rfl, _, (.tmp rfl .nil), ?_⟩
                      unfold chanErr
                      exact ⟨T, vi rfl (by first | (exfalso; omega) | rw [if_pos (by omega)] | rw [if_neg (by omega), if_pos (by omega)] | rw [if_neg (by omega), if_neg (by omega), if_pos (by omega)] | rw [if_neg (by omega), if_neg (by omega), if_neg (by omega)])⟩
                    · have d12 := c12
                      first | (with_reducible replace d12 := of_decide_eq_false d12) | (with_reducible replace d12 := bnf d12; try (with_reducible replace d12 := of_decide_eq_true d12)) | skip
                      refine OW_yes rfl rfl rfl rfl c12 (Ev.stp (Ev_fieldAddr fld_91_4 rfl rfl) ?_)
                      refine OW_yes rfl rfl rfl rfl c12 (Ev.stp (Ev_load one_3 rfl rfl (B2.ld (q := 4) rfl)) ?_)
                      refine OW_yes rfl rfl rfl rfl c12 (Ev.stp (Ev_gtr rfl rfl rfl) ?_)
                      refine OW_ev (Ev_pickb_f rfl rfl c12 rfl) rfl ?_
                      refine OW_ev (Ev_mvb (.inl rfl) rfl) rfl ?_
                      refine OW_split (d := .tmp 62) rfl (fun c13 => ?_) (fun c13 => ?_)
                      · have d13 := c13
                        first | (with_reducible replace d13 := of_decide_eq_true d13) | (with_reducible replace d13 := bnt d13; try (with_reducible replace d13 := of_decide_eq_false d13)) | skip
                        refine OW_no rfl rfl rfl rfl c13 ?_
                        refine OW_no rfl rfl rfl rfl c13 ?_
                        refine OW_no rfl rfl rfl rfl c13 ?_
                        refine OW_no rfl rfl rfl rfl c13 ?_
                        refine OW_noU rfl rfl rfl ?_
                        refine OW_noU rfl rfl rfl ?_
                        refine OW_noU rfl rfl rfl ?_
                        refine OW_no rfl rfl rfl rfl c13 ?_
                        refine OW_ev (Ev_pickb_t rfl rfl c13 rfl) rfl ?_
                        refine OW_nil ?_
                        refine CW_cond_t rfl rfl ?_
                        refine CW_seq ?_
                        refine CW_re [(4, .int _ _)] ⟨rfl, trivial⟩ (fun g => ?_)
                        refine CW_reg rfl ?_
                        refine OW_ev (Ev_c (.inr rfl)) rfl ?_
                        refine OW_nil ?_
                        refine CW_ret ?_
                        refine ⟨rfl, _, (.tmp rfl .nil), ?_⟩
                        unfold chanErr
                        exact ⟨T, vi rfl (by first | (exfalso; omega) | rw [if_pos (by omega)] | rw [if_neg (by omega), if_pos (by omega)] | rw [if_neg (by omega), if_neg (by omega), if_pos (by omega)] | rw [if_neg (by omega), if_neg (by omega), if_neg (by omega)])⟩
                      · have d13 := c13
                        first | (with_reducible replace d13 := of_decide_eq_false d13) | (with_reducible replace d13 := bnf d13; try (with_reducible replace d13 := of_decide_eq_true d13)) | skip
                        refine OW_yes rfl rfl rfl rfl c13 (Ev.stp (Ev_fieldAddr fld_91_0 rfl rfl) ?_)
                        refine OW_yes rfl rfl rfl rfl c13 (Ev.stp (Ev_load one_3 rfl rfl (B2.ld (q := 0) rfl)) ?_)
                        refine OW_yes rfl rfl rfl rfl c13 (Ev.stp (Ev_eql rfl rfl rfl) ?_)
                        refine OW_yes rfl rfl rfl rfl c13 (Ev.stp (Ev_mvb (.inl rfl) rfl) ?_)
                        refine OW_split (d := .tmp 66) rfl (fun c14 => ?_) (fun c14 => ?_)
                        · have d14 := c14
                          first | (with_reducible replace d14 := of_decide_eq_true d14) | (with_reducible replace d14 := bnt d14; try (with_reducible replace d14 := of_decide_eq_false d14)) | skip
                          refine OW_yes rfl rfl rfl rfl c14 (Ev.stp (Ev_fieldAddr fld_91_4 rfl rfl) ?_)
                          refine OW_yes rfl rfl rfl rfl c14 (Ev.stp (Ev_load one_3 rfl rfl (B2.ld (q := 4) rfl)) ?_)
                          refine OW_yes rfl rfl rfl rfl c14 (Ev.stp (Ev_neq rfl rfl rfl) ?_)
                          refine OW_yes rfl rfl rfl rfl c13 (Ev.stp (Ev_pickb_t rfl rfl c14 rfl) ?_)
                          refine OW_ev (Ev_pickb_f rfl rfl c13 rfl) rfl ?_
                          refine OW_nil ?_
                          refine CW_cond rfl (fun c15 => ?_) (fun c15 => ?_)
                          · have d15 := c15
                            first | (with_reducible replace d15 := of_decide_eq_true d15) | (with_reducible replace d15 := bnt d15; try (with_reducible replace d15 := of_decide_eq_false d15)) | skip
                            refine CW_seq ?_
                            refine CW_re [(4, .int _ _)] ⟨rfl, trivial⟩ (fun g => ?_)
                            refine CW_reg rfl ?_
                            refine OW_ev (Ev_c (.inr rfl)) rfl ?_
                            refine OW_nil ?_
                            refine CW_ret ?_
                            refine ⟨rfl, _, (.tmp rfl .nil), ?_⟩
                            unfold chanErr
                            exact ⟨T, vi rfl (by first | (exfalso; omega) | rw [if_pos (by omega)] | rw [if_neg (by omega), if_pos (by omega)] | rw [if_neg (by omega), if_neg (by omega), if_pos (by omega)] | rw [if_neg (by omega), if_neg (by omega), if_neg (by omega)])⟩
                          · have d15 := c15
                            first | (with_reducible replace d15 := of_decide_eq_false d15) | (with_reducible replace d15 := bnf d15; try (with_reducible replace d15 := of_decide_eq_true d15)) | skip
                            refine CW_skip ?_
                            refine CW_seq ?_
                            refine CW_re [(4, .int _ _)] ⟨rfl, trivial⟩ (fun g => ?_)
                            refine CW_reg rfl ?_
                            refine OW_ev (Ev_c (.inr rfl)) rfl ?_
                            refine OW_nil ?_
                            refine CW_ret ?_
                            refine ⟨rfl, _, (.tmp rfl .nil), ?_⟩
                            unfold chanErr
                            exact ⟨T, vi rfl (by first | (exfalso; omega) | rw [if_pos (by omega)] | rw [if_neg (by omega), if_pos (by omega)] | rw [if_neg (by omega), if_neg (by omega), if_pos (by omega)] | rw [if_neg (by omega), if_neg (by omega), if_neg (by omega)])⟩
                        · have d14 := c14
                          first | (with_reducible replace d14 := of_decide_eq_false d14) | (with_reducible replace d14 := bnf d14; try (with_reducible replace d14 := of_decide_eq_true d14)) | skip
                          refine OW_no rfl rfl rfl rfl c14 ?_
                          refine OW_no rfl rfl rfl rfl c14 ?_
                          refine OW_no rfl rfl rfl rfl c14 ?_
                          refine OW_yes rfl rfl rfl rfl c13 (Ev.stp (Ev_pickb_f rfl rfl c14 rfl) ?_)
                          refine OW_ev (Ev_pickb_f rfl rfl c13 rfl) rfl ?_
                          refine OW_nil ?_
                          refine CW_cond_f rfl rfl ?_
                          refine CW_skip ?_
                          refine CW_seq ?_
                          refine CW_re [(4, .int _ _)] ⟨rfl, trivial⟩ (fun g => ?_)
                          refine CW_reg rfl ?_
                          refine OW_ev (Ev_c (.inr rfl)) rfl ?_
                          refine OW_nil ?_
                          refine CW_ret ?_
                          refine ⟨rfl, _, (.tmp rfl .nil), ?_⟩
                          unfold chanErr
                          exact ⟨T, vi rfl (by first | (exfalso; omega) | rw [if_pos (by omega)] | rw [if_neg (by omega), if_pos (by omega)] | rw [if_neg (by omega), if_neg (by omega), if_pos (by omega)] | rw [if_neg (by omega), if_neg (by omega), if_neg (by omega)])⟩
  · have d3 := c3
    first | (with_reducible replace d3 := of_decide_eq_false d3) | (with_reducible replace d3 := bnf d3; try (with_reducible replace d3 := of_decide_eq_true d3)) | skip
    refine OW_no rfl rfl rfl rfl c3 ?_
    refine OW_no rfl rfl rfl rfl c3 ?_
    refine OW_no rfl rfl rfl rfl c3 ?_
    refine OW_ev (Ev_pickb_f rfl rfl c3 rfl) rfl ?_
    refine OW_nil ?_
    refine CW_cond_f rfl rfl ?_
    refine CW_skip ?_
    refine CW_seq ?_
    refine CW_seq ?_
    refine CW_reg rfl ?_
    refine OW_ev (Ev_fieldAddr fld_91_1 rfl rfl) rfl ?_
    refine OW_ev (Ev_load one_3 rfl rfl (B2.ld (q := 1) rfl)) rfl ?_
    refine OW_ev (Ev_lss rfl rfl rfl) rfl ?_
    refine OW_ev (Ev_mvb (.inl rfl) rfl) rfl ?_
    refine OW_split (d := .tmp 20) rfl (fun c16 => ?_) (fun c16 => ?_)
    · have d16 := c16
      first | (with_reducible replace d16 := of_decide_eq_true d16) | (with_reducible replace d16 := bnt d16; try (with_reducible replace d16 := of_decide_eq_false d16)) | skip
      refine OW_no rfl rfl rfl rfl c16 ?_
      refine OW_no rfl rfl rfl rfl c16 ?_
      refine OW_no rfl rfl rfl rfl c16 ?_
      refine OW_no rfl rfl rfl rfl c16 ?_
      refine OW_ev (Ev_pickb_t rfl rfl c16 rfl) rfl ?_
      refine OW_ev (Ev_mvb (.inl rfl) rfl) rfl ?_
      refine OW_no rfl rfl rfl rfl rfl ?_
      refine OW_no rfl rfl rfl rfl rfl ?_
      refine OW_no rfl rfl rfl rfl rfl ?_
      refine OW_ev (Ev_pickb_t rfl rfl rfl rfl) rfl ?_
      refine OW_ev (Ev_mvb (.inl rfl) rfl) rfl ?_
      refine OW_no rfl rfl rfl rfl rfl ?_
      refine OW_no rfl rfl rfl rfl rfl ?_
      refine OW_no rfl rfl rfl rfl rfl ?_
      refine OW_no rfl rfl rfl rfl rfl ?_
      refine OW_ev (Ev_pickb_t rfl rfl rfl rfl) rfl ?_
      refine OW_ev (Ev_mvb (.inl rfl) rfl) rfl ?_
      refine OW_no rfl rfl rfl rfl rfl ?_
      refine OW_no rfl rfl rfl rfl rfl ?_
      refine OW_no rfl rfl rfl rfl rfl ?_
      refine OW_no rfl rfl rfl rfl rfl ?_
      refine OW_no rfl rfl rfl rfl rfl ?_
      refine OW_ev (Ev_pickb_t rfl rfl rfl rfl) rfl ?_
      refine OW_nil ?_
      refine CW_cond_t rfl rfl ?_
      refine CW_seq ?_
      refine CW_re [(3, .pointer _), (4, .int _ _)] ⟨rfl, rfl, trivial⟩ (fun g => ?_)
      refine CW_reg rfl ?_
      refine OW_ev (Ev_c (.inr rfl)) rfl ?_
      refine OW_nil ?_
      refine CW_ret ?_
      refine ⟨rfl, _, (.tmp rfl .nil), ?_⟩
      unfold chanErr
      exact ⟨T, vi rfl (by first | (exfalso; omega) | rw [if_pos (by omega)] | rw [if_neg (by omega), if_pos (by omega)] | rw [if_neg (by omega), if_neg (by omega), if_pos (by omega)] | rw [if_neg (by omega), if_neg (by omega), if_neg (by omega)])⟩
    · have d16 := c16
      first | (with_reducible replace d16 := of_decide_eq_false d16) | (with_reducible replace d16 := bnf d16; try (with_reducible replace d16 := of_decide_eq_true d16)) | skip
      refine OW_yes rfl rfl rfl rfl c16 (Ev.stp (Ev_fieldAddr fld_91_1 rfl rfl) ?_)
      refine OW_yes rfl rfl rfl rfl c16 (Ev.stp (Ev_load one_3 rfl rfl (B2.ld (q := 1) rfl)) ?_)
      refine OW_yes rfl rfl rfl rfl c16 (Ev.stp (Ev_mvi (.inl rfl) rfl) ?_)
      refine OW_yes rfl rfl rfl rfl c16 (Ev.stp (Ev_geq rfl rfl rfl) ?_)
      refine OW_ev (Ev_pickb_f rfl rfl c16 rfl) rfl ?_
      refine OW_ev (Ev_mvb (.inl rfl) rfl) rfl ?_
      refine OW_split (d := .tmp 26) rfl (fun c17 => ?_) (fun c17 => ?_)
      · have d17 := c17
        first | (with_reducible replace d17 := of_decide_eq_true d17) | (with_reducible replace d17 := bnt d17; try (with_reducible replace d17 := of_decide_eq_false d17)) | skip
        refine OW_no rfl rfl rfl rfl c17 ?_
        refine OW_no rfl rfl rfl rfl c17 ?_
        refine OW_no rfl rfl rfl rfl c17 ?_
        refine OW_ev (Ev_pickb_t rfl rfl c17 rfl) rfl ?_
        refine OW_ev (Ev_mvb (.inl rfl) rfl) rfl ?_
        refine OW_no rfl rfl rfl rfl rfl ?_
        refine OW_no rfl rfl rfl rfl rfl ?_
        refine OW_no rfl rfl rfl rfl rfl ?_
        refine OW_no rfl rfl rfl rfl rfl ?_
        refine OW_ev (Ev_pickb_t rfl rfl rfl rfl) rfl ?_
        refine OW_ev (Ev_mvb (.inl rfl) rfl) rfl ?_
        refine OW_no rfl rfl rfl rfl rfl ?_
        refine OW_no rfl rfl rfl rfl rfl ?_
        refine OW_no rfl rfl rfl rfl rfl ?_
        refine OW_no rfl rfl rfl rfl rfl ?_
        refine OW_no rfl rfl rfl rfl rfl ?_
        refine OW_ev (Ev_pickb_t rfl rfl rfl rfl) rfl ?_
        refine OW_nil ?_
        refine CW_cond_t rfl rfl ?_
        refine CW_seq ?_
        refine CW_re [(3, .pointer _), (4, .int _ _)] ⟨rfl, rfl, trivial⟩ (fun g => ?_)
        refine CW_reg rfl ?_
        refine OW_ev (Ev_c (.inr rfl)) rfl ?_
        refine OW_nil ?_
        refine CW_ret ?_
        refine ⟨rfl, _, (.tmp rfl .nil), ?_⟩
        unfold chanErr
        exact ⟨T, vi rfl (by first | (exfalso; omega) | rw [if_pos (by omega)] | rw [if_neg (by omega), if_pos (by omega)] | rw [if_neg (by omega), if_neg (by omega), if_pos (by omega)] | rw [if_neg (by omega), if_neg (by omega), if_neg (by omega)])⟩
      · have d17 := c17
        first | (with_reducible replace d17 := of_decide_eq_false d17) | (with_reducible replace d17 := bnf d17; try (with_reducible replace d17 := of_decide_eq_true d17)) | skip
        refine OW_yes rfl rfl rfl rfl c17 (Ev.stp (Ev_fieldAddr fld_91_2 rfl rfl) ?_)
        refine OW_yes rfl rfl rfl rfl c17 (Ev.stp (Ev_load one_3 rfl rfl (B2.ld (q := 2) rfl)) ?_)
        refine OW_yes rfl rfl rfl rfl c17 (Ev.stp (Ev_lss rfl rfl rfl) ?_)
        refine OW_ev (Ev_pickb_f rfl rfl c17 rfl) rfl ?_
        refine OW_ev (Ev_mvb (.inl rfl) rfl) rfl ?_
        refine OW_split (d := .tmp 31) rfl (fun c18 => ?_) (fun c18 => ?_)
        · have d18 := c18
          first | (with_reducible replace d18 := of_decide_eq_true d18) | (with_reducible replace d18 := bnt d18; try (with_reducible replace d18 := of_decide_eq_false d18)) | skip
          refine OW_no rfl rfl rfl rfl c18 ?_
          refine OW_no rfl rfl rfl rfl c18 ?_
          refine OW_no rfl rfl rfl rfl c18 ?_
          refine OW_no rfl rfl rfl rfl c18 ?_
          refine OW_ev (Ev_pickb_t rfl rfl c18 rfl) rfl ?_
          refine OW_ev (Ev_mvb (.inl rfl) rfl) rfl ?_
          refine OW_no rfl rfl rfl rfl rfl ?_
          refine OW_no rfl rfl rfl rfl rfl ?_
          refine OW_no rfl rfl rfl rfl rfl ?_
          refine OW_no rfl rfl rfl rfl rfl ?_
          refine OW_no rfl rfl rfl rfl rfl ?_
          refine OW_ev (Ev_pickb_t rfl rfl rfl rfl) rfl ?_
          refine OW_nil ?_
          refine CW_cond_t rfl rfl ?_
          refine CW_seq ?_
          refine CW_re [(3, .pointer _), (4, .int _ _)] ⟨rfl, rfl, trivial⟩ (fun g => ?_)
          refine CW_reg rfl ?_
          refine OW_ev (Ev_c (.inr rfl)) rfl ?_
          refine OW_nil ?_
          refine CW_ret ?_
          refine ⟨rfl, _, (.tmp rfl .nil), ?_⟩
          unfold chanErr
          exact ⟨T, vi rfl (by first | (exfalso; omega) | rw [if_pos (by omega)] | rw [if_neg (by omega), if_pos (by omega)] | rw [if_neg (by omega), if_neg (by omega), if_pos (by omega)] | rw [if_neg (by omega), if_neg (by omega), if_neg (by omega)])⟩
        · have d18 := c18
          first | (with_reducible replace d18 := of_decide_eq_false d18) | (with_reducible replace d18 := bnf d18; try (with_reducible replace d18 := of_decide_eq_true d18)) | skip
          refine OW_yes rfl rfl rfl rfl c18 (Ev.stp (Ev_fieldAddr fld_91_2 rfl rfl) ?_)
          refine OW_yes rfl rfl rfl rfl c18 (Ev.stp (Ev_load one_3 rfl rfl (B2.ld (q := 2) rfl)) ?_)
          refine OW_yes rfl rfl rfl rfl c18 (Ev.stp (Ev_mvi (.inl rfl) rfl) ?_)
          refine OW_yes rfl rfl rfl rfl c18 (Ev.stp (Ev_geq rfl rfl rfl) ?_)
          refine OW_ev (Ev_pickb_f rfl rfl c18 rfl) rfl ?_
          refine OW_ev (Ev_mvb (.inl rfl) rfl) rfl ?_
          refine OW_split (d := .tmp 37) rfl (fun c19 => ?_) (fun c19 => ?_)
          · have d19 := c19
            first | (with_reducible replace d19 := of_decide_eq_true d19) | (with_reducible replace d19 := bnt d19; try (with_reducible replace d19 := of_decide_eq_false d19)) | skip
            refine OW_no rfl rfl rfl rfl c19 ?_
            refine OW_no rfl rfl rfl rfl c19 ?_
            refine OW_no rfl rfl rfl rfl c19 ?_
            refine OW_no rfl rfl rfl rfl c19 ?_
            refine OW_no rfl rfl rfl rfl c19 ?_
            refine OW_ev (Ev_pickb_t rfl rfl c19 rfl) rfl ?_
            refine OW_nil ?_
            refine CW_cond_t rfl rfl ?_
            refine CW_seq ?_
            refine CW_re [(3, .pointer _), (4, .int _ _)] ⟨rfl, rfl, trivial⟩ (fun g => ?_)
            refine CW_reg rfl ?_
            refine OW_ev (Ev_c (.inr rfl)) rfl ?_
            refine OW_nil ?_
            refine CW_ret ?_
            refine ⟨rfl, _, (.tmp rfl .nil), ?_⟩
            unfold chanErr
            exact ⟨T, vi rfl (by first | (exfalso; omega) | rw [if_pos (by omega)] | rw [if_neg (by omega), if_pos (by omega)] | rw [if_neg (by omega), if_neg (by omega), if_pos (by omega)] | rw [if_neg (by omega), if_neg (by omega), if_neg (by omega)])⟩
          · have d19 := c19
            first | (with_reducible replace d19 := of_decide_eq_false d19) | (with_reducible replace d19 := bnf d19; try (with_reducible replace d19 := of_decide_eq_true d19)) | skip
            refine OW_yes rfl rfl rfl rfl c19 (Ev.stp (Ev_fieldAddr fld_91_1 rfl rfl) ?_)
            refine OW_yes rfl rfl rfl rfl c19 (Ev.stp (Ev_load one_3 rfl rfl (B2.ld (q := 1) rfl)) ?_)
            refine OW_yes rfl rfl rfl rfl c19 (Ev.stp (Ev_fieldAddr fld_91_2 rfl rfl) ?_)
            refine OW_yes rfl rfl rfl rfl c19 (Ev.stp (Ev_load one_3 rfl rfl (B2.ld (q := 2) rfl)) ?_)
            refine OW_yes rfl rfl rfl rfl c19 (Ev.stp (Ev_eql rfl rfl rfl) ?_)
            refine OW_ev (Ev_pickb_f rfl rfl c19 rfl) rfl ?_
            refine OW_nil ?_
            refine CW_cond rfl (fun c20 => ?_) (fun c20 => ?_)
            · have d20 := c20
              first | (with_reducible replace d20 := of_decide_eq_true d20) | (with_reducible replace d20 := bnt d20; try (with_reducible replace d20 := of_decide_eq_false d20)) | skip
              refine CW_seq ?_
              refine CW_re [(3, .pointer _), (4, .int _ _)] ⟨rfl, rfl, trivial⟩ (fun g => ?_)
              refine CW_reg rfl ?_
              refine OW_ev (Ev_c (.inr rfl)) rfl ?_
              refine OW_nil ?_
              refine CW_ret ?_
              refine ⟨rfl, _, (.tmp rfl .nil), ?_⟩
              unfold chanErr
              exact ⟨T, vi rfl (by first | (exfalso; omega) | rw [if_pos (by omega)] | rw [if_neg (by omega), if_pos (by omega)] | rw [if_neg (by omega), if_neg (by omega), if_pos (by omega)] | rw [if_neg (by omega), if_neg (by omega), if_neg (by omega)])⟩
            · have d20 := c20
              first | (with_reducible replace d20 := of_decide_eq_false d20) | (with_reducible replace d20 := bnf d20; try (with_reducible replace d20 := of_decide_eq_true d20)) | skip
              refine CW_skip ?_
              refine CW_seq ?_
              refine CW_seq ?_
              refine CW_re [(3, .pointer _), (4, .int _ _)] ⟨rfl, rfl, trivial⟩ (fun g => ?_)
              refine CW_reg rfl ?_
              refine OW_ev (Ev_fieldAddr fld_91_3 rfl rfl) rfl ?_
              refine OW_ev (Ev_load one_3 rfl rfl (B2.ld (q := 3) rfl)) rfl ?_
              refine OW_ev (Ev_lss rfl rfl rfl) rfl ?_
              refine OW_ev (Ev_mvb (.inl rfl) rfl) rfl ?_
              refine OW_split (d := .tmp 47) rfl (fun c21 => ?_) (fun c21 => ?_)
              · have d21 := c21
                first | (with_reducible replace d21 := of_decide_eq_true d21) | (with_reducible replace d21 := bnt d21; try (with_reducible replace d21 := of_decide_eq_false d21)) | skip
                refine OW_no rfl rfl rfl rfl c21 ?_
                refine OW_no rfl rfl rfl rfl c21 ?_
                refine OW_no rfl rfl rfl rfl c21 ?_
                refine OW_ev (Ev_pickb_t rfl rfl c21 rfl) rfl ?_
                refine OW_ev (Ev_mvb (.inl rfl) rfl) rfl ?_
                refine OW_no rfl rfl rfl rfl rfl ?_
                refine OW_no rfl rfl rfl rfl rfl ?_
                refine OW_no rfl rfl rfl rfl rfl ?_
                refine OW_ev (Ev_pickb_t rfl rfl rfl rfl) rfl ?_
                refine OW_ev (Ev_mvb (.inl rfl) rfl) rfl ?_
                refine OW_no rfl rfl rfl rfl rfl ?_
                refine OW_no rfl rfl rfl rfl rfl ?_
                refine OW_no rfl rfl rfl rfl rfl ?_
                refine OW_ev (Ev_pickb_t rfl rfl rfl rfl) rfl ?_
                refine OW_ev (Ev_mvb (.inl rfl) rfl) rfl ?_
                refine OW_no rfl rfl rfl rfl rfl ?_
                refine OW_no rfl rfl rfl rfl rfl ?_
                refine OW_no rfl rfl rfl rfl rfl ?_
                refine OW_no rfl rfl rfl rfl rfl ?_
                refine OW_noU rfl rfl rfl ?_
                refine OW_noU rfl rfl rfl ?_
                refine OW_noU rfl rfl rfl ?_
                refine OW_no rfl rfl rfl rfl rfl ?_
                refine OW_ev (Ev_pickb_t rfl rfl rfl rfl) rfl ?_
                refine OW_nil ?_
                refine CW_cond_t rfl rfl ?_
                refine CW_seq ?_
                refine CW_re [(4, .int _ _)] ⟨rfl, trivial⟩ (fun g => ?_)
                refine CW_reg rfl ?_
                refine OW_ev (Ev_c (.inr rfl)) rfl ?_
                refine OW_nil ?_
                refine CW_ret ?_
                refine ⟨rfl, _, (.tmp rfl .nil), ?_⟩
                unfold chanErr
                exact ⟨T, vi rfl (by first | (exfalso; omega) | rw [if_pos (by omega)] | rw [if_neg (by omega), if_pos (by omega)] | rw [if_neg (by omega), if_neg (by omega), if_pos (by omega)] | rw [if_neg (by omega), if_neg (by omega), if_neg (by omega)])⟩
              · have d21 := c21
                first | (with_reducible replace d21 := of_decide_eq_false d21) | (with_reducible replace d21 := bnf d21; try (with_reducible replace d21 := of_decide_eq_true d21)) | skip
                refine OW_yes rfl rfl rfl rfl c21 (Ev.stp (Ev_fieldAddr fld_91_3 rfl rfl) ?_)
                refine OW_yes rfl rfl rfl rfl c21 (Ev.stp (Ev_load one_3 rfl rfl (B2.ld (q := 3) rfl)) ?_)
                refine OW_yes rfl rfl rfl rfl c21 (Ev.stp (Ev_gtr rfl rfl rfl) ?_)
                refine OW_ev (Ev_pickb_f rfl rfl c21 rfl) rfl ?_
                refine OW_ev (Ev_mvb (.inl rfl) rfl) rfl ?_
                refine OW_split (d := .tmp 52) rfl (fun c22 => ?_) (fun c22 => ?_)
                · have d22 := c22
                  first | (with_reducible replace d22 := of_decide_eq_true d22) | (with_reducible replace d22 := bnt d22; try (with_reducible replace d22 := of_decide_eq_false d22)) | skip
                  refine OW_no rfl rfl rfl rfl c22 ?_
                  refine OW_no rfl rfl rfl rfl c22 ?_
                  refine OW_no rfl rfl rfl rfl c22 ?_
                  refine OW_ev (Ev_pickb_t rfl rfl c22 rfl) rfl ?_
                  refine OW_ev (Ev_mvb (.inl rfl) rfl) rfl ?_
                  refine OW_no rfl rfl rfl rfl rfl ?_
                  refine OW_no rfl rfl rfl rfl rfl ?_
                  refine OW_no rfl rfl rfl rfl rfl ?_
                  refine OW_ev (Ev_pickb_t rfl rfl rfl rfl) rfl ?_
                  refine OW_ev (Ev_mvb (.inl rfl) rfl) rfl ?_
                  refine OW_no rfl rfl rfl rfl rfl ?_
                  refine OW_no rfl rfl rfl rfl rfl ?_
                  refine OW_no rfl rfl rfl rfl rfl ?_
                  refine OW_no rfl rfl rfl rfl rfl ?_
                  refine OW_noU rfl rfl rfl ?_
                  refine OW_noU rfl rfl rfl ?_
                  refine OW_noU rfl rfl rfl ?_
                  refine OW_no rfl rfl rfl rfl rfl ?_
                  refine OW_ev (Ev_pickb_t rfl rfl rfl rfl) rfl ?_
                  refine OW_nil ?_
                  refine CW_cond_t rfl rfl ?_
                  refine CW_seq ?_
                  refine CW_re [(4, .int _ _)] ⟨rfl, trivial⟩ (fun g => ?_)
                  refine CW_reg rfl ?_
                  refine OW_ev (Ev_c (.inr rfl)) rfl ?_
                  refine OW_nil ?_
                  refine CW_ret ?_
                  refine ⟨rfl, _, (.tmp rfl .nil), ?_⟩
                  unfold chanErr
                  exact ⟨T, vi rfl (by first | (exfalso; omega) | rw [if_pos (by omega)] | rw [if_neg (by omega), if_pos (by omega)] | rw [if_neg (by omega), if_neg (by omega), if_pos (by omega)] | rw [if_neg (by omega), if_neg (by omega), if_neg (by omega)])⟩
                · have d22 := c22
                  first | (with_reducible replace d22 := of_decide_eq_false d22) | (with_reducible replace d22 := bnf d22; try (with_reducible replace d22 := of_decide_eq_true d22)) | skip
                  refine OW_yes rfl rfl rfl rfl c22 (Ev.stp (Ev_fieldAddr fld_91_4 rfl rfl) ?_)
                  refine OW_yes rfl rfl rfl rfl c22 (Ev.stp (Ev_load one_3 rfl rfl (B2.ld (q := 4) rfl)) ?_)
                  refine OW_yes rfl rfl rfl rfl c22 (Ev.stp (Ev_lss rfl rfl rfl) ?_)
                  refine OW_ev (Ev_pickb_f rfl rfl c22 rfl) rfl ?_
                  refine OW_ev (Ev_mvb (.inl rfl) rfl) rfl ?_
                  refine OW_split (d := .tmp 57) rfl (fun c23 => ?_) (fun c23 => ?_)
                  · have d23 := c23
                    first | (with_reducible replace d23 := of_decide_eq_true d23) | (with_reducible replace d23 := bnt d23; try (with_reducible replace d23 := of_decide_eq_false d23)) | skip
                    refine OW_no rfl rfl rfl rfl c23 ?_
                    refine OW_no rfl rfl rfl rfl c23 ?_
                    refine OW_no rfl rfl rfl rfl c23 ?_
                    refine OW_ev (Ev_pickb_t rfl rfl c23 rfl) rfl ?_
                    refine OW_ev (Ev_mvb (.inl rfl) rfl) rfl ?_
                    refine OW_no rfl rfl rfl rfl rfl ?_
                    refine OW_no rfl rfl rfl rfl rfl ?_
                    refine OW_no rfl rfl rfl rfl rfl ?_
                    refine OW_no rfl rfl rfl rfl rfl ?_
                    refine OW_noU rfl rfl rfl ?_
                    refine OW_noU rfl rfl rfl ?_
                    refine OW_noU rfl rfl rfl ?_
                    refine OW_no rfl rfl rfl rfl rfl ?_
                    refine OW_ev (Ev_pickb_t rfl rfl rfl rfl) rfl ?_
                    refine OW_nil ?_
                    refine CW_cond_t rfl rfl ?_
                    refine CW_seq ?_
                    refine CW_re [(4, .int _ _)] ⟨rfl, trivial⟩ (fun g => ?_)
                    refine CW_reg rfl ?_
                    refine OW_ev (Ev_c (.inr rfl)) rfl ?_
                    refine OW_nil ?_
                    refine CW_ret ?_
                    refine ⟨rfl, _, (.tmp rfl .nil), ?_⟩
                    unfold chanErr
                    exact ⟨T, vi rfl (by first | (exfalso; omega) | rw [if_pos (by omega)] | rw [if_neg (by omega), if_pos (by omega)] | rw [if_neg (by omega), if_neg (by omega), if_pos (by omega)] | rw [if_neg (by omega), if_neg (by omega), if_neg (by omega)])⟩
                  · have d23 := c23
                    first | (with_reducible replace d23 := of_decide_eq_false d23) | (with_reducible replace d23 := bnf d23; try (with_reducible replace d23 := of_decide_eq_true d23)) | skip
                    refine OW_yes rfl rfl rfl rfl c23 (Ev.stp (Ev_fieldAddr fld_91_4 rfl rfl) ?_)
                    refine OW_yes rfl rfl rfl rfl c23 (Ev.stp (Ev_load one_3 rfl rfl (B2.ld (q := 4) rfl)) ?_)
                    refine OW_yes rfl rfl rfl rfl c23 (Ev.stp (Ev_gtr rfl rfl rfl) ?_)
                    refine OW_ev (Ev_pickb_f rfl rfl c23 rfl) rfl ?_
                    refine OW_ev (Ev_mvb (.inl rfl) rfl) rfl ?_
                    refine OW_split (d := .tmp 62) rfl (fun c24 => ?_) (fun c24 => ?_)
                    · have d24 := c24
                      first | (with_reducible replace d24 := of_decide_eq_true d24) | (with_reducible replace d24 := bnt d24; try (with_reducible replace d24 := of_decide_eq_false d24)) | skip
                      refine OW_no rfl rfl rfl rfl c24 ?_
                      refine OW_no rfl rfl rfl rfl c24 ?_
                      refine OW_no rfl rfl rfl rfl c24 ?_
                      refine OW_no rfl rfl rfl rfl c24 ?_
                      refine OW_noU rfl rfl rfl ?_
                      refine OW_noU rfl rfl rfl ?_
                      refine OW_noU rfl rfl rfl ?_
                      refine OW_no rfl rfl rfl rfl c24 ?_
                      refine OW_ev (Ev_pickb_t rfl rfl c24 rfl) rfl ?_
                      refine OW_nil ?_
                      refine CW_cond_t rfl rfl ?_
                      refine CW_seq ?_
                      refine CW_re [(4, .int _ _)] ⟨rfl, trivial⟩ (fun g => ?_)
                      refine CW_reg rfl ?_
                      refine OW_ev (Ev_c (.inr rfl)) rfl ?_
                      refine OW_nil ?_
                      refine CW_ret ?_
                      refine ⟨rfl, _, (.tmp rfl .nil), ?_⟩
                      unfold chanErr
                      exact ⟨T, vi rfl (by first | (exfalso; omega) | rw [if_pos (by omega)] | rw [if_neg (by omega), if_pos (by omega)] | rw [if_neg (by omega), if_neg (by omega), if_pos (by omega)] | rw [if_neg (by omega), if_neg (by omega), if_neg (by omega)])⟩
                    · have d24 := c24
                      first | (with_reducible replace d24 := of_decide_eq_false d24) | (with_reducible replace d24 := bnf d24; try (with_reducible replace d24 := of_decide_eq_true d24)) | skip
                      refine OW_yes rfl rfl rfl rfl c24 (Ev.stp (Ev_fieldAddr fld_91_0 rfl rfl) ?_)
                      refine OW_yes rfl rfl rfl rfl c24 (Ev.stp (Ev_load one_3 rfl rfl (B2.ld (q := 0) rfl)) ?_)
                      refine OW_yes rfl rfl rfl rfl c24 (Ev.stp (Ev_eql rfl rfl rfl) ?_)
                      refine OW_yes rfl rfl rfl rfl c24 (Ev.stp (Ev_mvb (.inl rfl) rfl) ?_)
                      refine OW_split (d := .tmp 66) rfl (fun c25 => ?_) (fun c25 => ?_)
                      · have d25 := c25
                        first | (with_reducible replace d25 := of_decide_eq_true d25) | (with_reducible replace d25 := bnt d25; try (with_reducible replace d25 := of_decide_eq_false d25)) | skip
                        refine OW_yes rfl rfl rfl rfl c25 (Ev.stp (Ev_fieldAddr fld_91_4 rfl rfl) ?_)
                        refine OW_yes rfl rfl rfl rfl c25 (Ev.stp (Ev_load one_3 rfl rfl (B2.ld (q := 4) rfl)) ?_)
                        refine OW_yes rfl rfl rfl rfl c25 (Ev.stp (Ev_neq rfl rfl rfl) ?_)
                        refine OW_yes rfl rfl rfl rfl c24 (Ev.stp (Ev_pickb_t rfl rfl c25 rfl) ?_)
                        refine OW_ev (Ev_pickb_f rfl rfl c24 rfl) rfl ?_
                        refine OW_nil ?_
                        refine CW_cond rfl (fun c26 => ?_) (fun c26 => ?_)
                        · have d26 := c26
                          first | (with_reducible replace d26 := of_decide_eq_true d26) | (with_reducible replace d26 := bnt d26; try (with_reducible replace d26 := of_decide_eq_false d26)) | skip
                          refine CW_seq ?_
                          refine CW_re [(4, .int _ _)] ⟨rfl, trivial⟩ (fun g => ?_)
                          refine CW_reg rfl ?_
                          refine OW_ev (Ev_c (.inr rfl)) rfl ?_
                          refine OW_nil ?_
                          refine CW_ret ?_
                          refine ⟨rfl, _, (.tmp rfl .nil), ?_⟩
                          unfold chanErr
                          exact ⟨T, vi rfl (by first | (exfalso; omega) | rw [if_pos (by omega)] | rw [if_neg (by omega), if_pos (by omega)] | rw [if_neg (by omega), if_neg (by omega), if_pos (by omega)] | rw [if_neg (by omega), if_neg (by omega), if_neg (by omega)])⟩
                        · have d26 := c26
                          first | (with_reducible replace d26 := of_decide_eq_false d26) | (with_reducible replace d26 := bnf d26; try (with_reducible replace d26 := of_decide_eq_true d26)) | skip
                          refine CW_skip ?_
                          refine CW_seq ?_
                          refine CW_re [(4, .int _ _)] ⟨rfl, trivial⟩ (fun g => ?_)
                          refine CW_reg rfl ?_
                          refine OW_ev (Ev_c (.inr rfl)) rfl ?_
                          refine OW_nil ?_
                          refine CW_ret ?_
                          refine ⟨rfl, _, (.tmp rfl .nil), ?_⟩
                          unfold chanErr
                          exact ⟨T, vi rfl (by first | (exfalso; omega) | rw [if_pos (by omega)] | rw [if_neg (by omega), if_pos (by omega)] | rw [if_neg (by omega), if_neg (by omega), if_pos (by omega)] | rw [if_neg (by omega), if_neg (by omega), if_neg (by omega)])⟩
                      · have d25 := c25
                        first | (with_reducible replace d25 := of_decide_eq_false d25) | (with_reducible replace d25 := bnf d25; try (with_reducible replace d25 := of_decide_eq_true d25)) | skip
                        refine OW_no rfl rfl rfl rfl c25 ?_
                        refine OW_no rfl rfl rfl rfl c25 ?_
                        refine OW_no rfl rfl rfl rfl c25 ?_
                        refine OW_yes rfl rfl rfl rfl c24 (Ev.stp (Ev_pickb_f rfl rfl c25 rfl) ?_)
                        refine OW_ev (Ev_pickb_f rfl rfl c24 rfl) rfl ?_
                        refine OW_nil ?_
                        refine CW_cond_f rfl rfl ?_
                        refine CW_skip ?_
                        refine CW_seq ?_
                        refine CW_re [(4, .int _ _)] ⟨rfl, trivial⟩ (fun g => ?_)
                        refine CW_reg rfl ?_
                        refine OW_ev (Ev_c (.inr rfl)) rfl ?_
                        refine OW_nil ?_
                        refine CW_ret ?_
                        refine ⟨rfl, _, (.tmp rfl .nil), ?_⟩
                        unfold chanErr
                        exact ⟨T, vi rfl (by first | (exfalso; omega) | rw [if_pos (by omega)] | rw [if_neg (by omega), if_pos (by omega)] | rw [if_neg (by omega), if_neg (by omega), if_pos (by omega)] | rw [if_neg (by omega), if_neg (by omega), if_neg (by omega)])⟩

set_option maxRecDepth 10000 in
set_option maxHeartbeats 2000000 in
theorem rcheck_c {F : Nat → Prop} {w : World} {p : PlnM} (hP : PlnS F w p) (hsm : p.ps.length ≤ 1000 ∧ p.ws.length ≤ 1000 ∧ p.cs.length ≤ 1000) : Calls Try.prog 25 #[.agg p.cl.toArray] w (Ret fun v w' => Kp0 w w' ∧ v = .int .i64 (p.r.err)) := by
  have hP := hP.old
  obtain ⟨NW, hNW⟩ : ∃ x, x = w.heap.size := ⟨_, rfl⟩
  rw [← hNW] at hP
  have T : Kp0 w w := Kp.refl _ _
  refine calls_start Try.func25 rfl (n := 117) rfl rfl rfl ?_
  refine CW_seq ?_
  refine CW_reg rfl ?_
  refine OW_st rfl (Stp_box (l := [.int _ _, .slice _ _ _, .slice _ _ _, .slice _ _ _]) rfl rfl rfl ?_)
  intro b1 w1 hb1 hz1 E1 B1
  have L1 : _ ≤ b1 := Nat.le_trans T.size (Nat.le_of_eq hb1.symm)
  have hP := hP.keep0 E1
  have T := T.keep0 E1
  replace B1 : Blk w1 b1 51 (p.cl) := B1
  refine OW_ev (Ev_c (.inr rfl)) rfl ?_
  refine OW_nil ?_
  refine CW_seq ?_
  refine CW_seq ?_
  refine CW_reg rfl ?_
  refine OW_ev (Ev_fieldAddr fld_51_0 rfl rfl) rfl ?_
  refine OW_ev (Ev_load one_3 rfl rfl (B1.ld (q := 0) rfl)) rfl ?_
  refine OW_ev (Ev_lss rfl rfl rfl) rfl ?_
  refine OW_ev (Ev_mvb (.inl rfl) rfl) rfl ?_
  refine OW_split (d := .tmp 13) rfl (fun c2 => ?_) (fun c2 => ?_)
  · have d2 := c2
    first | (with_reducible replace d2 := of_decide_eq_true d2) | (with_reducible replace d2 := bnt d2; try (with_reducible replace d2 := of_decide_eq_false d2)) | skip
    refine OW_no rfl rfl rfl rfl c2 ?_
    refine OW_no rfl rfl rfl rfl c2 ?_
    refine OW_no rfl rfl rfl rfl c2 ?_
    refine OW_ev (Ev_pickb_t rfl rfl c2 rfl) rfl ?_
    refine OW_ev (Ev_mvb (.inl rfl) rfl) rfl ?_
    refine OW_no rfl rfl rfl rfl rfl ?_
    refine OW_no rfl rfl rfl rfl rfl ?_
    refine OW_no rfl rfl rfl rfl rfl ?_
    refine OW_no rfl rfl rfl rfl rfl ?_
    refine OW_ev (Ev_pickb_t rfl rfl rfl rfl) rfl ?_
    refine OW_ev (Ev_mvb (.inl rfl) rfl) rfl ?_
    refine OW_no rfl rfl rfl rfl rfl ?_
    refine OW_no rfl rfl rfl rfl rfl ?_
    refine OW_no rfl rfl rfl rfl rfl ?_
    refine OW_no rfl rfl rfl rfl rfl ?_
    refine OW_ev (Ev_pickb_t rfl rfl rfl rfl) rfl ?_
    refine OW_ev (Ev_mvb (.inl rfl) rfl) rfl ?_
    refine OW_no rfl rfl rfl rfl rfl ?_
    refine OW_no rfl rfl rfl rfl rfl ?_
    refine OW_no rfl rfl rfl rfl rfl ?_
    refine OW_no rfl rfl rfl rfl rfl ?_
    refine OW_ev (Ev_pickb_t rfl rfl rfl rfl) rfl ?_
    refine OW_ev (Ev_mvb (.inl rfl) rfl) rfl ?_
    refine OW_no rfl rfl rfl rfl rfl ?_
    refine OW_no rfl rfl rfl rfl rfl ?_
    refine OW_no rfl rfl rfl rfl rfl ?_
    refine OW_no rfl rfl rfl rfl rfl ?_
    refine OW_ev (Ev_pickb_t rfl rfl rfl rfl) rfl ?_
    refine OW_ev (Ev_mvb (.inl rfl) rfl) rfl ?_
    refine OW_no rfl rfl rfl rfl rfl ?_
    refine OW_no rfl rfl rfl rfl rfl ?_
    refine OW_no rfl rfl rfl rfl rfl ?_
    refine OW_no rfl rfl rfl rfl rfl ?_
    refine OW_ev (Ev_pickb_t rfl rfl rfl rfl) rfl ?_
    refine OW_nil ?_
    have hnb : p.r.numBad = true := by rw [numBad_def]; exact decide_eq_true (by omega)
    refine CW_cond_t rfl rfl ?_
    refine CW_seq ?_
    refine CW_re [(1, .pointer _), (2, .int _ _)] ⟨rfl, rfl, trivial⟩ (fun g => ?_)
    refine CW_reg rfl ?_
    refine OW_ev (Ev_c (.inr rfl)) rfl ?_
    refine OW_nil ?_
    refine CW_ret ?_
    refine ⟨rfl, _, (.tmp rfl .nil), ?_⟩
    exact ⟨T, vi rfl (by first | exact (err_num hnb).symm | exact (err_drain hnb hparts hwins hdd).symm | (rw [err_parts hnb (by rw [hpl, firstErr_at he0 hne hk2]; exact hne), hpl, firstErr_at he0 hne hk2]) | (rw [err_wins hnb hparts (by show firstErr p.r.winAt p.ws.length ≠ 0; rw [firstErr_at he0 (by omega) hk2]; omega)]; show _ = firstErr p.r.winAt p.ws.length; rw [firstErr_at he0 (by omega) hk2, hwe]) | (rw [err_chans hnb hparts hwins hdd]; show _ = firstErr p.r.chanAt p.cs.length; rw [firstErr_at he0 hne hk2, hws]) | (rw [err_chans hnb hparts hwins hdd]; show _ = firstErr p.r.chanAt p.cs.length; rw [← hk2]; exact he0.symm))⟩
  · have d2 := c2
    first | (with_reducible replace d2 := of_decide_eq_false d2) | (with_reducible replace d2 := bnf d2; try (with_reducible replace d2 := of_decide_eq_true d2)) | skip
    refine OW_yes rfl rfl rfl rfl c2 (Ev.stp (Ev_fieldAddr fld_51_0 rfl rfl) ?_)
    refine OW_yes rfl rfl rfl rfl c2 (Ev.stp (Ev_load one_3 rfl rfl (B1.ld (q := 0) rfl)) ?_)
    refine OW_yes rfl rfl rfl rfl c2 (Ev.stp (Ev_gtr rfl rfl rfl) ?_)
    refine OW_ev (Ev_pickb_f rfl rfl c2 rfl) rfl ?_
    refine OW_ev (Ev_mvb (.inl rfl) rfl) rfl ?_
    refine OW_split (d := .tmp 18) rfl (fun c3 => ?_) (fun c3 => ?_)
    · have d3 := c3
      first | (with_reducible replace d3 := of_decide_eq_true d3) | (with_reducible replace d3 := bnt d3; try (with_reducible replace d3 := of_decide_eq_false d3)) | skip
      refine OW_no rfl rfl rfl rfl c3 ?_
      refine OW_no rfl rfl rfl rfl c3 ?_
      refine OW_no rfl rfl rfl rfl c3 ?_
      refine OW_no rfl rfl rfl rfl c3 ?_
      refine OW_ev (Ev_pickb_t rfl rfl c3 rfl) rfl ?_
      refine OW_ev (Ev_mvb (.inl rfl) rfl) rfl ?_
      refine OW_no rfl rfl rfl rfl rfl ?_
      refine OW_no rfl rfl rfl rfl rfl ?_
      refine OW_no rfl rfl rfl rfl rfl ?_
      refine OW_no rfl rfl rfl rfl rfl ?_
      refine OW_ev (Ev_pickb_t rfl rfl rfl rfl) rfl ?_
      refine OW_ev (Ev_mvb (.inl rfl) rfl) rfl ?_
      refine OW_no rfl rfl rfl rfl rfl ?_
      refine OW_no rfl rfl rfl rfl rfl ?_
      refine OW_no rfl rfl rfl rfl rfl ?_
      refine OW_no rfl rfl rfl rfl rfl ?_
      refine OW_ev (Ev_pickb_t rfl rfl rfl rfl) rfl ?_
      refine OW_ev (Ev_mvb (.inl rfl) rfl) rfl ?_
      refine OW_no rfl rfl rfl rfl rfl ?_
      refine OW_no rfl rfl rfl rfl rfl ?_
      refine OW_no rfl rfl rfl rfl rfl ?_
      refine OW_no rfl rfl rfl rfl rfl ?_
      refine OW_ev (Ev_pickb_t rfl rfl rfl rfl) rfl ?_
      refine OW_ev (Ev_mvb (.inl rfl) rfl) rfl ?_
      refine OW_no rfl rfl rfl rfl rfl ?_
      refine OW_no rfl rfl rfl rfl rfl ?_
      refine OW_no rfl rfl rfl rfl rfl ?_
      refine OW_no rfl rfl rfl rfl rfl ?_
      refine OW_ev (Ev_pickb_t rfl rfl rfl rfl) rfl ?_
      refine OW_nil ?_
      have hnb : p.r.numBad = true := by rw [numBad_def]; exact decide_eq_true (by omega)
      refine CW_cond_t rfl rfl ?_
      refine CW_seq ?_
      refine CW_re [(1, .pointer _), (2, .int _ _)] ⟨rfl, rfl, trivial⟩ (fun g => ?_)
      refine CW_reg rfl ?_
      refine OW_ev (Ev_c (.inr rfl)) rfl ?_
      refine OW_nil ?_
      refine CW_ret ?_
      refine ⟨rfl, _, (.tmp rfl .nil), ?_⟩
      exact ⟨T, vi rfl (by first | exact (err_num hnb).symm | exact (err_drain hnb hparts hwins hdd).symm | (rw [err_parts hnb (by rw [hpl, firstErr_at he0 hne hk2]; exact hne), hpl, firstErr_at he0 hne hk2]) | (rw [err_wins hnb hparts (by show firstErr p.r.winAt p.ws.length ≠ 0; rw [firstErr_at he0 (by omega) hk2]; omega)]; show _ = firstErr p.r.winAt p.ws.length; rw [firstErr_at he0 (by omega) hk2, hwe]) | (rw [err_chans hnb hparts hwins hdd]; show _ = firstErr p.r.chanAt p.cs.length; rw [firstErr_at he0 hne hk2, hws]) | (rw [err_chans hnb hparts hwins hdd]; show _ = firstErr p.r.chanAt p.cs.length; rw [← hk2]; exact he0.symm))⟩
    · have d3 := c3
      first | (with_reducible replace d3 := of_decide_eq_false d3) | (with_reducible replace d3 := bnf d3; try (with_reducible replace d3 := of_decide_eq_true d3)) | skip
      refine OW_yes rfl rfl rfl rfl c3 (Ev.stp (Ev_fieldAddr fld_51_1 rfl rfl) ?_)
      refine OW_yes rfl rfl rfl rfl c3 (Ev.stp (Ev_load one_47 rfl rfl (B1.ld (q := 1) rfl)) ?_)
      refine OW_yes rfl rfl rfl rfl c3 (Ev.stp (Ev_len und_47 rfl rfl) ?_)
      refine OW_yes rfl rfl rfl rfl c3 (Ev.stp (Ev_lss rfl rfl rfl) ?_)
      refine OW_ev (Ev_pickb_f rfl rfl c3 rfl) rfl ?_
      refine OW_ev (Ev_mvb (.inl rfl) rfl) rfl ?_
      refine OW_split (d := .tmp 24) rfl (fun c4 => ?_) (fun c4 => ?_)
      · have d4 := c4
        first | (with_reducible replace d4 := of_decide_eq_true d4) | (with_reducible replace d4 := bnt d4; try (with_reducible replace d4 := of_decide_eq_false d4)) | skip
        refine OW_no rfl rfl rfl rfl c4 ?_
        refine OW_no rfl rfl rfl rfl c4 ?_
        refine OW_no rfl rfl rfl rfl c4 ?_
        refine OW_no rfl rfl rfl rfl c4 ?_
        refine OW_ev (Ev_pickb_t rfl rfl c4 rfl) rfl ?_
        refine OW_ev (Ev_mvb (.inl rfl) rfl) rfl ?_
        refine OW_no rfl rfl rfl rfl rfl ?_
        refine OW_no rfl rfl rfl rfl rfl ?_
        refine OW_no rfl rfl rfl rfl rfl ?_
        refine OW_no rfl rfl rfl rfl rfl ?_
        refine OW_ev (Ev_pickb_t rfl rfl rfl rfl) rfl ?_
        refine OW_ev (Ev_mvb (.inl rfl) rfl) rfl ?_
        refine OW_no rfl rfl rfl rfl rfl ?_
        refine OW_no rfl rfl rfl rfl rfl ?_
        refine OW_no rfl rfl rfl rfl rfl ?_
        refine OW_no rfl rfl rfl rfl rfl ?_
        refine OW_ev (Ev_pickb_t rfl rfl rfl rfl) rfl ?_
        refine OW_ev (Ev_mvb (.inl rfl) rfl) rfl ?_
        refine OW_no rfl rfl rfl rfl rfl ?_
        refine OW_no rfl rfl rfl rfl rfl ?_
        refine OW_no rfl rfl rfl rfl rfl ?_
        refine OW_no rfl rfl rfl rfl rfl ?_
        refine OW_ev (Ev_pickb_t rfl rfl rfl rfl) rfl ?_
        refine OW_nil ?_
        have hnb : p.r.numBad = true := by rw [numBad_def]; exact decide_eq_true (by omega)
        refine CW_cond_t rfl rfl ?_
        refine CW_seq ?_
        refine CW_re [(1, .pointer _), (2, .int _ _)] ⟨rfl, rfl, trivial⟩ (fun g => ?_)
        refine CW_reg rfl ?_
        refine OW_ev (Ev_c (.inr rfl)) rfl ?_
        refine OW_nil ?_
        refine CW_ret ?_
        refine ⟨rfl, _, (.tmp rfl .nil), ?_⟩
        exact ⟨T, vi rfl (by first | exact (err_num hnb).symm | exact (err_drain hnb hparts hwins hdd).symm | (rw [err_parts hnb (by rw [hpl, firstErr_at he0 hne hk2]; exact hne), hpl, firstErr_at he0 hne hk2]) | (rw [err_wins hnb hparts (by show firstErr p.r.winAt p.ws.length ≠ 0; rw [firstErr_at he0 (by omega) hk2]; omega)]; show _ = firstErr p.r.winAt p.ws.length; rw [firstErr_at he0 (by omega) hk2, hwe]) | (rw [err_chans hnb hparts hwins hdd]; show _ = firstErr p.r.chanAt p.cs.length; rw [firstErr_at he0 hne hk2, hws]) | (rw [err_chans hnb hparts hwins hdd]; show _ = firstErr p.r.chanAt p.cs.length; rw [← hk2]; exact he0.symm))⟩
      · have d4 := c4
        first | (with_reducible replace d4 := of_decide_eq_false d4) | (with_reducible replace d4 := bnf d4; try (with_reducible replace d4 := of_decide_eq_true d4)) | skip
        refine OW_yes rfl rfl rfl rfl c4 (Ev.stp (Ev_fieldAddr fld_51_1 rfl rfl) ?_)
        refine OW_yes rfl rfl rfl rfl c4 (Ev.stp (Ev_load one_47 rfl rfl (B1.ld (q := 1) rfl)) ?_)
        refine OW_yes rfl rfl rfl rfl c4 (Ev.stp (Ev_len und_47 rfl rfl) ?_)
        refine OW_yes rfl rfl rfl rfl c4 (Ev.stp (Ev_gtr rfl rfl rfl) ?_)
        refine OW_ev (Ev_pickb_f rfl rfl c4 rfl) rfl ?_
        refine OW_ev (Ev_mvb (.inl rfl) rfl) rfl ?_
        refine OW_split (d := .tmp 30) rfl (fun c5 => ?_) (fun c5 => ?_)
        · have d5 := c5
          first | (with_reducible replace d5 := of_decide_eq_true d5) | (with_reducible replace d5 := bnt d5; try (with_reducible replace d5 := of_decide_eq_false d5)) | skip
          refine OW_no rfl rfl rfl rfl c5 ?_
          refine OW_no rfl rfl rfl rfl c5 ?_
          refine OW_no rfl rfl rfl rfl c5 ?_
          refine OW_no rfl rfl rfl rfl c5 ?_
          refine OW_ev (Ev_pickb_t rfl rfl c5 rfl) rfl ?_
          refine OW_ev (Ev_mvb (.inl rfl) rfl) rfl ?_
          refine OW_no rfl rfl rfl rfl rfl ?_
          refine OW_no rfl rfl rfl rfl rfl ?_
          refine OW_no rfl rfl rfl rfl rfl ?_
          refine OW_no rfl rfl rfl rfl rfl ?_
          refine OW_ev (Ev_pickb_t rfl rfl rfl rfl) rfl ?_
          refine OW_ev (Ev_mvb (.inl rfl) rfl) rfl ?_
          refine OW_no rfl rfl rfl rfl rfl ?_
          refine OW_no rfl rfl rfl rfl rfl ?_
          refine OW_no rfl rfl rfl rfl rfl ?_
          refine OW_no rfl rfl rfl rfl rfl ?_
          refine OW_ev (Ev_pickb_t rfl rfl rfl rfl) rfl ?_
          refine OW_nil ?_
          have hnb : p.r.numBad = true := by rw [numBad_def]; exact decide_eq_true (by omega)
          refine CW_cond_t rfl rfl ?_
          refine CW_seq ?_
          refine CW_re [(1, .pointer _), (2, .int _ _)] ⟨rfl, rfl, trivial⟩ (fun g => ?_)
          refine CW_reg rfl ?_
          refine OW_ev (Ev_c (.inr rfl)) rfl ?_
          refine OW_nil ?_
          refine CW_ret ?_
          refine ⟨rfl, _, (.tmp rfl .nil), ?_⟩
          exact ⟨T, vi rfl (by first | exact (err_num hnb).symm | exact (err_drain hnb hparts hwins hdd).symm | (rw [err_parts hnb (by rw [hpl, firstErr_at he0 hne hk2]; exact hne), hpl, firstErr_at he0 hne hk2]) | (rw [err_wins hnb hparts (by show firstErr p.r.winAt p.ws.length ≠ 0; rw [firstErr_at he0 (by omega) hk2]; omega)]; show _ = firstErr p.r.winAt p.ws.length; rw [firstErr_at he0 (by omega) hk2, hwe]) | (rw [err_chans hnb hparts hwins hdd]; show _ = firstErr p.r.chanAt p.cs.length; rw [firstErr_at he0 hne hk2, hws]) | (rw [err_chans hnb hparts hwins hdd]; show _ = firstErr p.r.chanAt p.cs.length; rw [← hk2]; exact he0.symm))⟩
        · have d5 := c5
          first | (with_reducible replace d5 := of_decide_eq_false d5) | (with_reducible replace d5 := bnf d5; try (with_reducible replace d5 := of_decide_eq_true d5)) | skip
          refine OW_yes rfl rfl rfl rfl c5 (Ev.stp (Ev_fieldAddr fld_51_2 rfl rfl) ?_)
          refine OW_yes rfl rfl rfl rfl c5 (Ev.stp (Ev_load one_48 rfl rfl (B1.ld (q := 2) rfl)) ?_)
          refine OW_yes rfl rfl rfl rfl c5 (Ev.stp (Ev_len und_48 rfl rfl) ?_)
          refine OW_yes rfl rfl rfl rfl c5 (Ev.stp (Ev_lss rfl rfl rfl) ?_)
          refine OW_ev (Ev_pickb_f rfl rfl c5 rfl) rfl ?_
          refine OW_ev (Ev_mvb (.inl rfl) rfl) rfl ?_
          refine OW_split (d := .tmp 36) rfl (fun c6 => ?_) (fun c6 => ?_)
          · have d6 := c6
            first | (with_reducible replace d6 := of_decide_eq_true d6) | (with_reducible replace d6 := bnt d6; try (with_reducible replace d6 := of_decide_eq_false d6)) | skip
            refine OW_no rfl rfl rfl rfl c6 ?_
            refine OW_no rfl rfl rfl rfl c6 ?_
            refine OW_no rfl rfl rfl rfl c6 ?_
            refine OW_no rfl rfl rfl rfl c6 ?_
            refine OW_ev (Ev_pickb_t rfl rfl c6 rfl) rfl ?_
            refine OW_ev (Ev_mvb (.inl rfl) rfl) rfl ?_
            refine OW_no rfl rfl rfl rfl rfl ?_
            refine OW_no rfl rfl rfl rfl rfl ?_
            refine OW_no rfl rfl rfl rfl rfl ?_
            refine OW_no rfl rfl rfl rfl rfl ?_
            refine OW_ev (Ev_pickb_t rfl rfl rfl rfl) rfl ?_
            refine OW_nil ?_
            have hnb : p.r.numBad = true := by rw [numBad_def]; exact decide_eq_true (by omega)
            refine CW_cond_t rfl rfl ?_
            refine CW_seq ?_
            refine CW_re [(1, .pointer _), (2, .int _ _)] ⟨rfl, rfl, trivial⟩ (fun g => ?_)
            refine CW_reg rfl ?_
            refine OW_ev (Ev_c (.inr rfl)) rfl ?_
            refine OW_nil ?_
            refine CW_ret ?_
            refine ⟨rfl, _, (.tmp rfl .nil), ?_⟩
            exact ⟨T, vi rfl (by first | exact (err_num hnb).symm | exact (err_drain hnb hparts hwins hdd).symm | (rw [err_parts hnb (by rw [hpl, firstErr_at he0 hne hk2]; exact hne), hpl, firstErr_at he0 hne hk2]) | (rw [err_wins hnb hparts (by show firstErr p.r.winAt p.ws.length ≠ 0; rw [firstErr_at he0 (by omega) hk2]; omega)]; show _ = firstErr p.r.winAt p.ws.length; rw [firstErr_at he0 (by omega) hk2, hwe]) | (rw [err_chans hnb hparts hwins hdd]; show _ = firstErr p.r.chanAt p.cs.length; rw [firstErr_at he0 hne hk2, hws]) | (rw [err_chans hnb hparts hwins hdd]; show _ = firstErr p.r.chanAt p.cs.length; rw [← hk2]; exact he0.symm))⟩
          · have d6 := c6
            first | (with_reducible replace d6 := of_decide_eq_false d6) | (with_reducible replace d6 := bnf d6; try (with_reducible replace d6 := of_decide_eq_true d6)) | skip
            refine OW_yes rfl rfl rfl rfl c6 (Ev.stp (Ev_fieldAddr fld_51_2 rfl rfl) ?_)
            refine OW_yes rfl rfl rfl rfl c6 (Ev.stp (Ev_load one_48 rfl rfl (B1.ld (q := 2) rfl)) ?_)
            refine OW_yes rfl rfl rfl rfl c6 (Ev.stp (Ev_len und_48 rfl rfl) ?_)
            refine OW_yes rfl rfl rfl rfl c6 (Ev.stp (Ev_gtr rfl rfl rfl) ?_)
            refine OW_ev (Ev_pickb_f rfl rfl c6 rfl) rfl ?_
            refine OW_ev (Ev_mvb (.inl rfl) rfl) rfl ?_
            refine OW_split (d := .tmp 42) rfl (fun c7 => ?_) (fun c7 => ?_)
            · have d7 := c7
              first | (with_reducible replace d7 := of_decide_eq_true d7) | (with_reducible replace d7 := bnt d7; try (with_reducible replace d7 := of_decide_eq_false d7)) | skip
              refine OW_no rfl rfl rfl rfl c7 ?_
              refine OW_no rfl rfl rfl rfl c7 ?_
              refine OW_no rfl rfl rfl rfl c7 ?_
              refine OW_no rfl rfl rfl rfl c7 ?_
              refine OW_ev (Ev_pickb_t rfl rfl c7 rfl) rfl ?_
              refine OW_nil ?_
              have hnb : p.r.numBad = true := by rw [numBad_def]; exact decide_eq_true (by omega)
              refine CW_cond_t rfl rfl ?_
              refine CW_seq ?_
              refine CW_re [(1, .pointer _), (2, .int _ _)] ⟨rfl, rfl, trivial⟩ (fun g => ?_)
              refine CW_reg rfl ?_
              refine OW_ev (Ev_c (.inr rfl)) rfl ?_
              refine OW_nil ?_
              refine CW_ret ?_
              refine ⟨rfl, _, (.tmp rfl .nil), ?_⟩
              exact ⟨T, vi rfl (by first | exact (err_num hnb).symm | exact (err_drain hnb hparts hwins hdd).symm | (rw [err_parts hnb (by rw [hpl, firstErr_at he0 hne hk2]; exact hne), hpl, firstErr_at he0 hne hk2]) | (rw [err_wins hnb hparts (by show firstErr p.r.winAt p.ws.length ≠ 0; rw [firstErr_at he0 (by omega) hk2]; omega)]; show _ = firstErr p.r.winAt p.ws.length; rw [firstErr_at he0 (by omega) hk2, hwe]) | (rw [err_chans hnb hparts hwins hdd]; show _ = firstErr p.r.chanAt p.cs.length; rw [firstErr_at he0 hne hk2, hws]) | (rw [err_chans hnb hparts hwins hdd]; show _ = firstErr p.r.chanAt p.cs.length; rw [← hk2]; exact he0.symm))⟩
            · have d7 := c7
              first | (with_reducible replace d7 := of_decide_eq_false d7) | (with_reducible replace d7 := bnf d7; try (with_reducible replace d7 := of_decide_eq_true d7)) | skip
              refine OW_yes rfl rfl rfl rfl c7 (Ev.stp (Ev_fieldAddr fld_51_3 rfl rfl) ?_)
              refine OW_yes rfl rfl rfl rfl c7 (Ev.stp (Ev_load one_49 rfl rfl (B1.ld (q := 3) rfl)) ?_)
              refine OW_yes rfl rfl rfl rfl c7 (Ev.stp (Ev_len und_49 rfl rfl) ?_)
              refine OW_yes rfl rfl rfl rfl c7 (Ev.stp (Ev_gtr rfl rfl rfl) ?_)
              refine OW_ev (Ev_pickb_f rfl rfl c7 rfl) rfl ?_
              refine OW_nil ?_
              refine CW_cond rfl (fun c8 => ?_) (fun c8 => ?_)
              · have d8 := c8
                first | (with_reducible replace d8 := of_decide_eq_true d8) | (with_reducible replace d8 := bnt d8; try (with_reducible replace d8 := of_decide_eq_false d8)) | skip
                have hnb : p.r.numBad = true := by rw [numBad_def]; exact decide_eq_true (by omega)
                refine CW_seq ?_
                refine CW_re [(1, .pointer _), (2, .int _ _)] ⟨rfl, rfl, trivial⟩ (fun g => ?_)
                refine CW_reg rfl ?_
                refine OW_ev (Ev_c (.inr rfl)) rfl ?_
                refine OW_nil ?_
                refine CW_ret ?_
                refine ⟨rfl, _, (.tmp rfl .nil), ?_⟩
                exact ⟨T, vi rfl (by first | exact (err_num hnb).symm | exact (err_drain hnb hparts hwins hdd).symm | (rw [err_parts hnb (by rw [hpl, firstErr_at he0 hne hk2]; exact hne), hpl, firstErr_at he0 hne hk2]) | (rw [err_wins hnb hparts (by show firstErr p.r.winAt p.ws.length ≠ 0; rw [firstErr_at he0 (by omega) hk2]; omega)]; show _ = firstErr p.r.winAt p.ws.length; rw [firstErr_at he0 (by omega) hk2, hwe]) | (rw [err_chans hnb hparts hwins hdd]; show _ = firstErr p.r.chanAt p.cs.length; rw [firstErr_at he0 hne hk2, hws]) | (rw [err_chans hnb hparts hwins hdd]; show _ = firstErr p.r.chanAt p.cs.length; rw [← hk2]; exact he0.symm))⟩
              · have d8 := c8
                first | (with_reducible replace d8 := of_decide_eq_false d8) | (with_reducible replace d8 := bnf d8; try (with_reducible replace d8 := of_decide_eq_true d8)) | skip
                have hnb : p.r.numBad = false := by rw [numBad_def]; exact decide_eq_false (by omega)
                have hpl : p.r.ps.length = p.ps.length := by simp [PlnM.r]
                refine CW_skip ?_
                refine CW_seq ?_
                refine CW_seq ?_
                refine CW_re [(1, .pointer _), (2, .int _ _)] ⟨rfl, rfl, trivial⟩ (fun g => ?_)
                refine CW_reg rfl ?_
                refine OW_ev (Ev_c (.inr rfl)) rfl ?_
                refine OW_nil ?_
                refine CW_block ?_
                refine CW_loop (α := Nat) (fun (k : Nat) f wr => AllEq f [(1, .pointer (some ⟨b1, 0, none⟩)), (3, .int .i64 (k : Int))] ∧ (k ≤ p.ps.length) ∧ (firstErr p.r.partAt k = 0) ∧ (Blk wr b1 51 p.cl) ∧ (PlnS (fun b => b < NW) wr p) ∧ (Kp0 w wr)) (fun k => p.ps.length - k) 0 ?_ ?_
                ·
                  exact ⟨⟨rfl, rfl, trivial⟩, Nat.zero_le _, rfl, B1, hP, T⟩
                ·
                  rintro k f wr ⟨hf, hk, he0, B1, hP, T⟩
                  obtain ⟨g, rfl⟩ : ∃ g, f = upl g [(1, .pointer (some ⟨b1, 0, none⟩)), (3, .int .i64 (k : Int))] := ⟨f, upl_self hf⟩
                  clear hf
                  refine CW_seq ?_
                  refine CW_seq ?_
                  refine CW_reg rfl ?_
                  refine OW_ev (Ev_mvi (.inl rfl) rfl) rfl ?_
                  refine OW_ev (Ev_fieldAddr fld_51_1 rfl rfl) rfl ?_
                  refine OW_ev (Ev_load one_47 rfl rfl (B1.ld (q := 1) rfl)) rfl ?_
                  refine OW_ev (Ev_len und_47 rfl rfl) rfl ?_
                  refine OW_ev (Ev_lss rfl rfl rfl) rfl ?_
                  refine OW_nil ?_
                  refine CW_cond rfl (fun c9 => ?_) (fun c9 => ?_)
                  · have d9 := c9
                    first | (with_reducible replace d9 := of_decide_eq_true d9) | (with_reducible replace d9 := bnt d9; try (with_reducible replace d9 := of_decide_eq_false d9)) | skip
                    have hk2 : k < p.ps.length := by omega
                    obtain ⟨m, hm, hgm, hr, hmm⟩ := getP (p := p) (j := k) hk2
                    refine CW_skip ?_
                    refine CW_seq ?_
                    refine CW_block ?_
                    refine CW_seq ?_
                    refine CW_reg rfl ?_
                    refine OW_ev (Ev_loadAgg (l := [.int _ _, .slice _ _ _, .slice _ _ _, .slice _ _ _]) agg_51 rfl rfl (B1.sub 0 4 (Nat.le_of_ble_eq_true rfl)) rfl) rfl ?_
                    refine OW_ev (Ev_mvi (.inl rfl) rfl) rfl ?_
                    refine OW_st rfl (Stp_call ent_43 rfl rfl rfl (rpart_c hP hm hsm.1) ?_)
                    rintro _ w10 ⟨E10, rfl⟩
                    have Z10 := E10.size
                    have T := T.keep0 E10
                    have B1 := B1.keep0 E10
                    have hP := hP.keep0 E10
                    refine OW_ev (Ev_mvi (.inr rfl) rfl) rfl ?_
                    refine OW_nil ?_
                    refine CW_seq ?_
                    refine CW_reg rfl ?_
                    refine OW_ev (Ev_mvi (.inl rfl) rfl) rfl ?_
                    refine OW_ev (Ev_neq rfl rfl rfl) rfl ?_
                    refine OW_nil ?_
                    refine CW_cond rfl (fun c11 => ?_) (fun c11 => ?_)
                    · have d11 := c11
                      first | (with_reducible replace d11 := of_decide_eq_true d11) | (with_reducible replace d11 := bnt d11; try (with_reducible replace d11 := of_decide_eq_false d11)) | skip
                      have hne := d11
                      refine CW_seq ?_
                      refine CW_reg rfl ?_
                      refine OW_ev (Ev_mvi (.inl rfl) rfl) rfl ?_
                      refine OW_ev (Ev_mvi (.inr rfl) rfl) rfl ?_
                      refine OW_nil ?_
                      refine CW_ret ?_
                      refine blk_ret ?_
                      refine blk_ret ?_
                      refine ⟨rfl, _, (.tmp rfl .nil), ?_⟩
                      exact ⟨T, vi rfl (by first | exact (err_num hnb).symm | exact (err_drain hnb hparts hwins hdd).symm | (rw [err_parts hnb (by rw [hpl, firstErr_at he0 hne hk2]; exact hne), hpl, firstErr_at he0 hne hk2]) | (rw [err_wins hnb hparts (by show firstErr p.r.winAt p.ws.length ≠ 0; rw [firstErr_at he0 (by omega) hk2]; omega)]; show _ = firstErr p.r.winAt p.ws.length; rw [firstErr_at he0 (by omega) hk2, hwe]) | (rw [err_chans hnb hparts hwins hdd]; show _ = firstErr p.r.chanAt p.cs.length; rw [firstErr_at he0 hne hk2, hws]) | (rw [err_chans hnb hparts hwins hdd]; show _ = firstErr p.r.chanAt p.cs.length; rw [← hk2]; exact he0.symm))⟩
                    · have d11 := c11
                      first | (with_reducible replace d11 := of_decide_eq_false d11) | (with_reducible replace d11 := bnf d11; try (with_reducible replace d11 := of_decide_eq_true d11)) | skip
                      have hne : p.r.partAt k = 0 := by omega
                      refine CW_skip ?_
                      refine CW_reg rfl ?_
                      refine OW_ev (Ev_mvi (.inl rfl) rfl) rfl ?_
                      refine OW_ev (Ev_add rfl rfl rfl (by first | (apply IntWalk.i64_in; omega) | (apply IntWalk.u64_in; omega) | (apply IntWalk.u32_in; omega) | (apply IntWalk.u8_in; omega) | (apply IntWalk.i32_in; omega) | rfl)) rfl ?_
                      refine OW_ev (Ev_mvi (.inr rfl) rfl) rfl ?_
                      refine OW_nil ?_
                      exact ⟨k + 1, by omega, ⟨rfl, congrArg (Value.int .i64) (by omega), trivial⟩, by omega, firstErr_ok he0 hne, B1, hP, T⟩
                  · have d9 := c9
                    first | (with_reducible replace d9 := of_decide_eq_false d9) | (with_reducible replace d9 := bnf d9; try (with_reducible replace d9 := of_decide_eq_true d9)) | skip
                    have hk2 : k = p.ps.length := by omega
                    have hparts : firstErr p.r.partAt p.r.ps.length = 0 := by rw [hpl, ← hk2]; exact he0
                    clear he0 hk2 hk
                    refine CW_exit ?_
                    refine blk_same ?_
                    refine CW_seq ?_
                    refine CW_reg rfl ?_
                    refine OW_ev (Ev_c (.inr rfl)) rfl ?_
                    refine OW_nil ?_
                    refine CW_seq ?_
                    refine CW_seq ?_
                    refine CW_reg rfl ?_
                    refine OW_ev (Ev_c (.inr rfl)) rfl ?_
                    refine OW_nil ?_
                    refine CW_block ?_
                    refine CW_loop (α := Nat) (fun (k : Nat) f wr => AllEq f [(1, .pointer (some ⟨b1, 0, none⟩)), (5, .bool ((p.ws.take k).any fun x => decide (x.1 = -1))), (6, .int .i64 (k : Int))] ∧ (k ≤ p.ws.length) ∧ (firstErr p.r.winAt k = 0) ∧ (Blk wr b1 51 p.cl) ∧ (PlnS (fun b => b < NW) wr p) ∧ (Kp0 w wr)) (fun k => p.ws.length - k) 0 ?_ ?_
                    ·
                      exact ⟨⟨rfl, rfl, rfl, trivial⟩, Nat.zero_le _, rfl, B1, hP, T⟩
                    ·
                      rintro k f wr ⟨hf, hk, he0, B1, hP, T⟩
                      obtain ⟨g, rfl⟩ : ∃ g, f = upl g [(1, .pointer (some ⟨b1, 0, none⟩)), (5, .bool ((p.ws.take k).any fun x => decide (x.1 = -1))), (6, .int .i64 (k : Int))] := ⟨f, upl_self hf⟩
                      clear hf
                      refine CW_seq ?_
                      refine CW_seq ?_
                      refine CW_reg rfl ?_
                      refine OW_ev (Ev_mvi (.inl rfl) rfl) rfl ?_
                      refine OW_ev (Ev_fieldAddr fld_51_2 rfl rfl) rfl ?_
                      refine OW_ev (Ev_load one_48 rfl rfl (B1.ld (q := 2) rfl)) rfl ?_
                      refine OW_ev (Ev_len und_48 rfl rfl) rfl ?_
                      refine OW_ev (Ev_lss rfl rfl rfl) rfl ?_
                      refine OW_nil ?_
                      refine CW_cond rfl (fun c12 => ?_) (fun c12 => ?_)
                      · have d12 := c12
                        first | (with_reducible replace d12 := of_decide_eq_true d12) | (with_reducible replace d12 := bnt d12; try (with_reducible replace d12 := of_decide_eq_false d12)) | skip
                        have hk2 : k < p.ws.length := by omega
                        obtain ⟨x, hxj, hgx, hmem⟩ := getW (ws := p.ws) (j := k) (by omega)
                        have K := hP.2.1.at_ hgx
                        have hws : p.r.winAt k = winErr p.ps.length x := by unfold Pln.winAt; rw [show p.r.ws[k]? = some x from hxj, hpl]
                        have hst := any_take (q := fun x => decide (x.1 = -1)) hxj
                        have hb1l := B1.lt
                        have hKb := (hP.2.1.2 (Sl.ne hgx)).2.1
                        change _ < _ at hKb
                        have hTs := T.size
                        refine CW_skip ?_
                        refine CW_seq ?_
                        refine CW_block ?_
                        refine CW_seq ?_
                        refine CW_reg rfl ?_
                        refine OW_ev (Ev_fieldAddr fld_51_2 rfl rfl) rfl ?_
                        refine OW_ev (Ev_load one_48 rfl rfl (B1.ld (q := 2) rfl)) rfl ?_
                        refine OW_ev (Ev_mvi (.inl rfl) rfl) rfl ?_
                        refine OW_ev (Ev_idx k (hP.2.1.ad hgx) sl_48 rfl rfl rfl rfl (by omega)) rfl ?_
                        refine OW_ev (Ev_loadAgg (l := [.int _ _, .int _ _]) agg_88 rfl rfl (K.sub 0 rfl) rfl) rfl ?_
                        refine OW_st rfl (Stp_alloc zero_88 rfl ?_)
                        intro b13 w13 hb13 hz13 E13 B13
                        have L13 : _ ≤ b13 := Nat.le_trans T.size (Nat.le_of_eq hb13.symm)
                        have T := T.keep0 E13
                        have B1 := B1.keep0 E13
                        have hP := hP.keep0 E13
                        have K := K.keep0 E13
                        refine OW_st rfl (Stp_store (q := 0) (vs := [.int _ _, .int _ _]) B13 siz_88 rfl rfl rfl rfl (Nat.le_of_ble_eq_true rfl) rfl ?_)
                        intro w14 hz14 E14 B14
                        have Z14 := E14.size
                        have T := T.transb E14 (by omega)
                        have B1 := B1.keepb E14 (by intro h; first | omega | (change _ < _ at h; omega) | (change _ ≤ _ at h; omega) | (have h1 := h.1; have h2 := h.2; first | omega | (change _ ≤ _ at h1; omega) | (change _ < _ at h1; omega)))
                        have hP := hP.keepb E14 (fun h => by change _ < _ at h; omega)
                        clear B13
                        have B13 : Blk _ _ _ [_, _] := B14
                        clear B14
                        refine OW_nil ?_
                        refine CW_seq ?_
                        refine CW_seq ?_
                        refine CW_reg rfl ?_
                        refine OW_ev (Ev_fieldAddr fld_88_0 rfl rfl) rfl ?_
                        refine OW_ev (Ev_load one_3 rfl rfl (B13.ld (q := 0) rfl)) rfl ?_
                        refine OW_ev (Ev_lss rfl rfl rfl) rfl ?_
                        refine OW_ev (Ev_mvb (.inl rfl) rfl) rfl ?_
                        refine OW_split (d := .tmp 76) rfl (fun c15 => ?_) (fun c15 => ?_)
                        · have d15 := c15
                          first | (with_reducible replace d15 := of_decide_eq_true d15) | (with_reducible replace d15 := bnt d15; try (with_reducible replace d15 := of_decide_eq_false d15)) | skip
                          refine OW_no rfl rfl rfl rfl c15 ?_
                          refine OW_no rfl rfl rfl rfl c15 ?_
                          refine OW_no rfl rfl rfl rfl c15 ?_
                          refine OW_no rfl rfl rfl rfl c15 ?_
                          refine OW_no rfl rfl rfl rfl c15 ?_
                          refine OW_no rfl rfl rfl rfl c15 ?_
                          refine OW_ev (Ev_pickb_t rfl rfl c15 rfl) rfl ?_
                          refine OW_nil ?_
                          have hwe : p.r.winAt k = 1 := by rw [hws]; unfold winErr; rw [if_pos (by omega)]
                          refine CW_cond_t rfl rfl ?_
                          refine CW_seq ?_
                          refine CW_re [(1, .pointer _), (5, .bool _), (6, .int _ _), (7, .pointer _)] ⟨rfl, rfl, rfl, rfl, trivial⟩ (fun g => ?_)
                          refine CW_reg rfl ?_
                          refine OW_ev (Ev_c (.inr rfl)) rfl ?_
                          refine OW_nil ?_
                          refine CW_ret ?_
                          refine blk_ret ?_
                          refine blk_ret ?_
                          refine ⟨rfl, _, (.tmp rfl .nil), ?_⟩
                          exact ⟨T, vi rfl (by first | exact (err_num hnb).symm | exact (err_drain hnb hparts hwins hdd).symm | (rw [err_parts hnb (by rw [hpl, firstErr_at he0 hne hk2]; exact hne), hpl, firstErr_at he0 hne hk2]) | (rw [err_wins hnb hparts (by show firstErr p.r.winAt p.ws.length ≠ 0; rw [firstErr_at he0 (by omega) hk2]; omega)]; show _ = firstErr p.r.winAt p.ws.length; rw [firstErr_at he0 (by omega) hk2, hwe]) | (rw [err_chans hnb hparts hwins hdd]; show _ = firstErr p.r.chanAt p.cs.length; rw [firstErr_at he0 hne hk2, hws]) | (rw [err_chans hnb hparts hwins hdd]; show _ = firstErr p.r.chanAt p.cs.length; rw [← hk2]; exact he0.symm))⟩
                        · have d15 := c15
                          first | (with_reducible replace d15 := of_decide_eq_false d15) | (with_reducible replace d15 := bnf d15; try (with_reducible replace d15 := of_decide_eq_true d15)) | skip
                          refine OW_yes rfl rfl rfl rfl c15 (Ev.stp (Ev_fieldAddr fld_88_0 rfl rfl) ?_)
                          refine OW_yes rfl rfl rfl rfl c15 (Ev.stp (Ev_load one_3 rfl rfl (B13.ld (q := 0) rfl)) ?_)
                          refine OW_yes rfl rfl rfl rfl c15 (Ev.stp (Ev_fieldAddr fld_51_1 rfl rfl) ?_)
                          refine OW_yes rfl rfl rfl rfl c15 (Ev.stp (Ev_load one_47 rfl rfl (B1.ld (q := 1) rfl)) ?_)
                          refine OW_yes rfl rfl rfl rfl c15 (Ev.stp (Ev_len und_47 rfl rfl) ?_)
                          refine OW_yes rfl rfl rfl rfl c15 (Ev.stp (Ev_geq rfl rfl rfl) ?_)
                          refine OW_ev (Ev_pickb_f rfl rfl c15 rfl) rfl ?_
                          refine OW_nil ?_
                          refine CW_cond rfl (fun c16 => ?_) (fun c16 => ?_)
                          · have d16 := c16
                            first | (with_reducible replace d16 := of_decide_eq_true d16) | (with_reducible replace d16 := bnt d16; try (with_reducible replace d16 := of_decide_eq_false d16)) | skip
                            have hwe : p.r.winAt k = 1 := by rw [hws]; unfold winErr; rw [if_pos (by omega)]
                            refine CW_seq ?_
                            refine CW_re [(1, .pointer _), (5, .bool _), (6, .int _ _), (7, .pointer _)] ⟨rfl, rfl, rfl, rfl, trivial⟩ (fun g => ?_)
                            refine CW_reg rfl ?_
                            refine OW_ev (Ev_c (.inr rfl)) rfl ?_
                            refine OW_nil ?_
                            refine CW_ret ?_
                            refine blk_ret ?_
                            refine blk_ret ?_
                            refine ⟨rfl, _, (.tmp rfl .nil), ?_⟩
                            exact ⟨T, vi rfl (by first | exact (err_num hnb).symm | exact (err_drain hnb hparts hwins hdd).symm | (rw [err_parts hnb (by rw [hpl, firstErr_at he0 hne hk2]; exact hne), hpl, firstErr_at he0 hne hk2]) | (rw [err_wins hnb hparts (by show firstErr p.r.winAt p.ws.length ≠ 0; rw [firstErr_at he0 (by omega) hk2]; omega)]; show _ = firstErr p.r.winAt p.ws.length; rw [firstErr_at he0 (by omega) hk2, hwe]) | (rw [err_chans hnb hparts hwins hdd]; show _ = firstErr p.r.chanAt p.cs.length; rw [firstErr_at he0 hne hk2, hws]) | (rw [err_chans hnb hparts hwins hdd]; show _ = firstErr p.r.chanAt p.cs.length; rw [← hk2]; exact he0.symm))⟩
                          · have d16 := c16
                            first | (with_reducible replace d16 := of_decide_eq_false d16) | (with_reducible replace d16 := bnf d16; try (with_reducible replace d16 := of_decide_eq_true d16)) | skip
                            refine CW_skip ?_
                            refine CW_seq ?_
                            refine CW_seq ?_
                            refine CW_re [(1, .pointer _), (5, .bool _), (6, .int _ _), (7, .pointer _)] ⟨rfl, rfl, rfl, rfl, trivial⟩ (fun g => ?_)
                            refine CW_reg rfl ?_
                            refine OW_ev (Ev_fieldAddr fld_88_1 rfl rfl) rfl ?_
                            refine OW_ev (Ev_load one_3 rfl rfl (B13.ld (q := 1) rfl)) rfl ?_
                            refine OW_ev (Ev_lss rfl rfl rfl) rfl ?_
                            refine OW_ev (Ev_mvb (.inl rfl) rfl) rfl ?_
                            refine OW_split (d := .tmp 87) rfl (fun c17 => ?_) (fun c17 => ?_)
                            · have d17 := c17
                              first | (with_reducible replace d17 := of_decide_eq_true d17) | (with_reducible replace d17 := bnt d17; try (with_reducible replace d17 := of_decide_eq_false d17)) | skip
                              refine OW_no rfl rfl rfl rfl c17 ?_
                              refine OW_no rfl rfl rfl rfl c17 ?_
                              refine OW_no rfl rfl rfl rfl c17 ?_
                              refine OW_ev (Ev_pickb_t rfl rfl c17 rfl) rfl ?_
                              refine OW_nil ?_
                              have hwe : p.r.winAt k = 2 := by rw [hws]; unfold winErr; rw [if_neg (by omega), if_pos (by omega)]
                              refine CW_cond_t rfl rfl ?_
                              refine CW_seq ?_
                              refine CW_reg rfl ?_
                              refine OW_ev (Ev_c (.inr rfl)) rfl ?_
                              refine OW_nil ?_
                              refine CW_ret ?_
                              refine blk_ret ?_
                              refine blk_ret ?_
                              refine ⟨rfl, _, (.tmp rfl .nil), ?_⟩
                              exact ⟨T, vi rfl (by first | exact (err_num hnb).symm | exact (err_drain hnb hparts hwins hdd).symm | (rw [err_parts hnb (by rw [hpl, firstErr_at he0 hne hk2]; exact hne), hpl, firstErr_at he0 hne hk2]) | (rw [err_wins hnb hparts (by show firstErr p.r.winAt p.ws.length ≠ 0; rw [firstErr_at he0 (by omega) hk2]; omega)]; show _ = firstErr p.r.winAt p.ws.length; rw [firstErr_at he0 (by omega) hk2, hwe]) | (rw [err_chans hnb hparts hwins hdd]; show _ = firstErr p.r.chanAt p.cs.length; rw [firstErr_at he0 hne hk2, hws]) | (rw [err_chans hnb hparts hwins hdd]; show _ = firstErr p.r.chanAt p.cs.length; rw [← hk2]; exact he0.symm))⟩
                            · have d17 := c17
                              first | (with_reducible replace d17 := of_decide_eq_false d17) | (with_reducible replace d17 := bnf d17; try (with_reducible replace d17 := of_decide_eq_true d17)) | skip
                              refine OW_yes rfl rfl rfl rfl c17 (Ev.stp (Ev_fieldAddr fld_88_1 rfl rfl) ?_)
                              refine OW_yes rfl rfl rfl rfl c17 (Ev.stp (Ev_load one_3 rfl rfl (B13.ld (q := 1) rfl)) ?_)
                              refine OW_yes rfl rfl rfl rfl c17 (Ev.stp (Ev_gtr rfl rfl rfl) ?_)
                              refine OW_ev (Ev_pickb_f rfl rfl c17 rfl) rfl ?_
                              refine OW_nil ?_
                              refine CW_cond rfl (fun c18 => ?_) (fun c18 => ?_)
                              · have d18 := c18
                                first | (with_reducible replace d18 := of_decide_eq_true d18) | (with_reducible replace d18 := bnt d18; try (with_reducible replace d18 := of_decide_eq_false d18)) | skip
                                have hwe : p.r.winAt k = 2 := by rw [hws]; unfold winErr; rw [if_neg (by omega), if_pos (by omega)]
                                refine CW_seq ?_
                                refine CW_reg rfl ?_
                                refine OW_ev (Ev_c (.inr rfl)) rfl ?_
                                refine OW_nil ?_
                                refine CW_ret ?_
                                refine blk_ret ?_
                                refine blk_ret ?_
                                refine ⟨rfl, _, (.tmp rfl .nil), ?_⟩
                                exact ⟨T, vi rfl (by first | exact (err_num hnb).symm | exact (err_drain hnb hparts hwins hdd).symm | (rw [err_parts hnb (by rw [hpl, firstErr_at he0 hne hk2]; exact hne), hpl, firstErr_at he0 hne hk2]) | (rw [err_wins hnb hparts (by show firstErr p.r.winAt p.ws.length ≠ 0; rw [firstErr_at he0 (by omega) hk2]; omega)]; show _ = firstErr p.r.winAt p.ws.length; rw [firstErr_at he0 (by omega) hk2, hwe]) | (rw [err_chans hnb hparts hwins hdd]; show _ = firstErr p.r.chanAt p.cs.length; rw [firstErr_at he0 hne hk2, hws]) | (rw [err_chans hnb hparts hwins hdd]; show _ = firstErr p.r.chanAt p.cs.length; rw [← hk2]; exact he0.symm))⟩
                              · have d18 := c18
                                first | (with_reducible replace d18 := of_decide_eq_false d18) | (with_reducible replace d18 := bnf d18; try (with_reducible replace d18 := of_decide_eq_true d18)) | skip
                                have hwe : p.r.winAt k = 0 := by rw [hws]; unfold winErr; rw [if_neg (by omega), if_neg (by omega)]
                                refine CW_skip ?_
                                refine CW_reg rfl ?_
                                refine OW_ev (Ev_mvb (.inl rfl) rfl) rfl ?_
                                refine OW_ev (Ev_mvb (.inl rfl) rfl) rfl ?_
                                refine OW_split (d := .tmp 93) rfl (fun c19 => ?_) (fun c19 => ?_)
                                · have d19 := c19
                                  first | (with_reducible replace d19 := of_decide_eq_true d19) | (with_reducible replace d19 := bnt d19; try (with_reducible replace d19 := of_decide_eq_false d19)) | skip
                                  have hdd := c19
                                  refine OW_no rfl rfl rfl rfl c19 ?_
                                  refine OW_no rfl rfl rfl rfl c19 ?_
                                  refine OW_no rfl rfl rfl rfl c19 ?_
                                  refine OW_ev (Ev_pickb_t rfl rfl c19 rfl) rfl ?_
                                  refine OW_ev (Ev_mvb (.inr rfl) rfl) rfl ?_
                                  refine OW_nil ?_
                                  refine CW_re [(1, .pointer _), (5, .bool _), (6, .int _ _)] ⟨rfl, rfl, rfl, trivial⟩ (fun g => ?_)
                                  refine CW_reg rfl ?_
                                  refine OW_ev (Ev_mvi (.inl rfl) rfl) rfl ?_
                                  refine OW_ev (Ev_add rfl rfl rfl (by first | (apply IntWalk.i64_in; omega) | (apply IntWalk.u64_in; omega) | (apply IntWalk.u32_in; omega) | (apply IntWalk.u8_in; omega) | (apply IntWalk.i32_in; omega) | rfl)) rfl ?_
                                  refine OW_ev (Ev_mvi (.inr rfl) rfl) rfl ?_
                                  refine OW_nil ?_
                                  exact ⟨k + 1, by omega, ⟨rfl, vb rfl (by rw [hst, hdd]; rfl), congrArg (Value.int .i64) (by omega), trivial⟩, by omega, firstErr_ok he0 hwe, B1, hP, T⟩
                                · have d19 := c19
                                  first | (with_reducible replace d19 := of_decide_eq_false d19) | (with_reducible replace d19 := bnf d19; try (with_reducible replace d19 := of_decide_eq_true d19)) | skip
                                  have hdd := c19
                                  refine OW_yes rfl rfl rfl rfl c19 (Ev.stp (Ev_fieldAddr fld_88_0 rfl rfl) ?_)
                                  refine OW_yes rfl rfl rfl rfl c19 (Ev.stp (Ev_load one_3 rfl rfl (B13.ld (q := 0) rfl)) ?_)
                                  refine OW_yes rfl rfl rfl rfl c19 (Ev.stp (Ev_eql rfl rfl rfl) ?_)
                                  refine OW_ev (Ev_pickb_f rfl rfl c19 rfl) rfl ?_
                                  refine OW_ev (Ev_mvb (.inr rfl) rfl) rfl ?_
                                  refine OW_nil ?_
                                  refine CW_re [(1, .pointer _), (5, .bool _), (6, .int _ _)] ⟨rfl, rfl, rfl, trivial⟩ (fun g => ?_)
                                  refine CW_reg rfl ?_
                                  refine OW_ev (Ev_mvi (.inl rfl) rfl) rfl ?_
                                  refine OW_ev (Ev_add rfl rfl rfl (by first | (apply IntWalk.i64_in; omega) | (apply IntWalk.u64_in; omega) | (apply IntWalk.u32_in; omega) | (apply IntWalk.u8_in; omega) | (apply IntWalk.i32_in; omega) | rfl)) rfl ?_
                                  refine OW_ev (Ev_mvi (.inr rfl) rfl) rfl ?_
                                  refine OW_nil ?_
                                  exact ⟨k + 1, by omega, ⟨rfl, vb rfl (by rw [hst, hdd]; rfl), congrArg (Value.int .i64) (by omega), trivial⟩, by omega, firstErr_ok he0 hwe, B1, hP, T⟩
                      · have d12 := c12
                        first | (with_reducible replace d12 := of_decide_eq_false d12) | (with_reducible replace d12 := bnf d12; try (with_reducible replace d12 := of_decide_eq_true d12)) | skip
                        have hk2 : k = p.ws.length := by omega
                        have hwins : firstErr p.r.winAt p.r.ws.length = 0 := by show firstErr p.r.winAt p.ws.length = 0; rw [← hk2]; exact he0
                        have hdr : (List.take k p.ws).any (fun x => decide (x.1 = -1)) = p.r.drained := by rw [hk2, List.take_length]; rfl
                        clear he0 hk
                        refine CW_exit ?_
                        refine blk_same ?_
                        refine CW_seq ?_
                        refine CW_seq ?_
                        refine CW_reg rfl ?_
                        refine OW_ev (Ev_mvb (.inl rfl) rfl) rfl ?_
                        refine OW_ev (Ev_not rfl rfl) rfl ?_
                        refine OW_nil ?_
                        refine CW_cond rfl (fun c20 => ?_) (fun c20 => ?_)
                        · have d20 := c20
                          first | (with_reducible replace d20 := of_decide_eq_true d20) | (with_reducible replace d20 := bnt d20; try (with_reducible replace d20 := of_decide_eq_false d20)) | skip
                          have hdd : p.r.drained = false := by rw [← hdr]; first | exact d20 | simpa using c20
                          refine CW_seq ?_
                          refine CW_reg rfl ?_
                          refine OW_ev (Ev_c (.inr rfl)) rfl ?_
                          refine OW_nil ?_
                          refine CW_ret ?_
                          refine ⟨rfl, _, (.tmp rfl .nil), ?_⟩
                          exact ⟨T, vi rfl (by first | exact (err_num hnb).symm | exact (err_drain hnb hparts hwins hdd).symm | (rw [err_parts hnb (by rw [hpl, firstErr_at he0 hne hk2]; exact hne), hpl, firstErr_at he0 hne hk2]) | (rw [err_wins hnb hparts (by show firstErr p.r.winAt p.ws.length ≠ 0; rw [firstErr_at he0 (by omega) hk2]; omega)]; show _ = firstErr p.r.winAt p.ws.length; rw [firstErr_at he0 (by omega) hk2, hwe]) | (rw [err_chans hnb hparts hwins hdd]; show _ = firstErr p.r.chanAt p.cs.length; rw [firstErr_at he0 hne hk2, hws]) | (rw [err_chans hnb hparts hwins hdd]; show _ = firstErr p.r.chanAt p.cs.length; rw [← hk2]; exact he0.symm))⟩
                        · have d20 := c20
                          first | (with_reducible replace d20 := of_decide_eq_false d20) | (with_reducible replace d20 := bnf d20; try (with_reducible replace d20 := of_decide_eq_true d20)) | skip
                          have hdd : p.r.drained = true := by rw [← hdr]; first | exact d20 | simpa using c20
                          refine CW_skip ?_
                          refine CW_seq ?_
                          refine CW_seq ?_
                          refine CW_reg rfl ?_
                          refine OW_ev (Ev_c (.inr rfl)) rfl ?_
                          refine OW_nil ?_
                          refine CW_block ?_
                          refine CW_loop (α := Nat) (fun (k : Nat) f wr => AllEq f [(1, .pointer (some ⟨b1, 0, none⟩)), (8, .int .i64 (k : Int))] ∧ (k ≤ p.cs.length) ∧ (firstErr p.r.chanAt k = 0) ∧ (Blk wr b1 51 p.cl) ∧ (PlnS (fun b => b < NW) wr p) ∧ (Kp0 w wr)) (fun k => p.cs.length - k) 0 ?_ ?_
                          ·
                            exact ⟨⟨rfl, rfl, trivial⟩, Nat.zero_le _, rfl, B1, hP, T⟩
                          ·
                            rintro k f wr ⟨hf, hk, he0, B1, hP, T⟩
                            obtain ⟨g, rfl⟩ : ∃ g, f = upl g [(1, .pointer (some ⟨b1, 0, none⟩)), (8, .int .i64 (k : Int))] := ⟨f, upl_self hf⟩
                            clear hf
                            refine CW_seq ?_
                            refine CW_seq ?_
                            refine CW_reg rfl ?_
                            refine OW_ev (Ev_mvi (.inl rfl) rfl) rfl ?_
                            refine OW_ev (Ev_fieldAddr fld_51_3 rfl rfl) rfl ?_
                            refine OW_ev (Ev_load one_49 rfl rfl (B1.ld (q := 3) rfl)) rfl ?_
                            refine OW_ev (Ev_len und_49 rfl rfl) rfl ?_
                            refine OW_ev (Ev_lss rfl rfl rfl) rfl ?_
                            refine OW_nil ?_
                            refine CW_cond rfl (fun c21 => ?_) (fun c21 => ?_)
                            · have d21 := c21
                              first | (with_reducible replace d21 := of_decide_eq_true d21) | (with_reducible replace d21 := bnt d21; try (with_reducible replace d21 := of_decide_eq_false d21)) | skip
                              have hk2 : k < p.cs.length := by omega
                              obtain ⟨x, hxj, hgx, hmem⟩ := getC (cs := p.cs) (j := k) hk2
                              have K := hP.2.2.1.at_ hgx
                              have hws : p.r.chanAt k = chanErr p.ps.length x := by unfold Pln.chanAt; rw [show p.r.cs[k]? = some x from hxj, hpl]
                              refine CW_skip ?_
                              refine CW_seq ?_
                              refine CW_block ?_
                              refine CW_seq ?_
                              refine CW_draw (fun W => B1.here W ∧ hP.here W ∧ K.here W) mixed rfl (fun _ _ _ h => nomatch h.1) ?_
                              have E22 : Kp0 _ _ := Kp.drew wr nob
                              have Z22 : (World.drew wr).heap.size = wr.heap.size := rfl
                              generalize World.drew wr = w22 at E22 Z22 ⊢
                              have T := T.keep0 E22
                              have B1 := B1.keep0 E22
                              have hP := hP.keep0 E22
                              have K := K.keep0 E22
                              refine AW_take 0 rfl rfl (by decide +kernel) (by decide +kernel) (by decide +kernel) (fun w ⟨B1, hP, K⟩ => Ev_loadAgg (l := [.int _ _, .slice _ _ _, .slice _ _ _, .slice _ _ _]) agg_51 rfl rfl (B1.sub 0 4 (Nat.le_of_ble_eq_true rfl)) rfl) ⟨B1, hP, K⟩ ?_
                              refine AW_take 1 rfl rfl (by decide +kernel) (by decide +kernel) (by decide +kernel) (fun w ⟨B1, hP, K⟩ => Ev_fieldAddr fld_51_3 rfl rfl) ⟨B1, hP, K⟩ ?_
                              refine AW_take 2 rfl rfl (by decide +kernel) (by decide +kernel) (by decide +kernel) (fun w ⟨B1, hP, K⟩ => Ev_load one_49 rfl rfl (B1.ld (q := 3) rfl)) ⟨B1, hP, K⟩ ?_
                              refine AW_take 3 rfl rfl (by decide +kernel) (by decide +kernel) (by decide +kernel) (fun w ⟨B1, hP, K⟩ => Ev_mvi (.inl rfl) rfl) ⟨B1, hP, K⟩ ?_
                              refine AW_take 4 rfl rfl (by decide +kernel) (by decide +kernel) (by decide +kernel) (fun w ⟨B1, hP, K⟩ => Ev_idx k (hP.2.2.1.ad hgx) sl_49 rfl rfl rfl rfl (by omega)) ⟨B1, hP, K⟩ ?_
                              refine AW_take 5 rfl rfl (by decide +kernel) (by decide +kernel) (by decide +kernel) (fun w ⟨B1, hP, K⟩ => Ev_loadAgg (l := [.int _ _, .int _ _, .int _ _, .int _ _, .int _ _]) agg_91 rfl rfl (K.sub 0 rfl) rfl) ⟨B1, hP, K⟩ ?_
                              refine AW_one 6 (by decide +kernel) (Next.mk rfl rfl ?_)
                              refine Stp_call ent_44 rfl rfl rfl (rchan_c _ p x) ?_
                              rintro _ w23 ⟨E23, rfl⟩
                              have Z23 := E23.size
                              have T := T.keep0 E23
                              have B1 := B1.keep0 E23
                              have hP := hP.keep0 E23
                              have K := K.keep0 E23
                              refine ⟨⟨B1, hP, K⟩, ?_⟩
                              refine AW_take 7 rfl rfl (by decide +kernel) (by decide +kernel) (by decide +kernel) (fun w ⟨B1, hP, K⟩ => Ev_mvi (.inr rfl) rfl) ⟨B1, hP, K⟩ ?_
                              refine AW_done (by decide +kernel) ?_
                              refine CW_seq ?_
                              refine CW_reg rfl ?_
                              refine OW_ev (Ev_mvi (.inl rfl) rfl) rfl ?_
                              refine OW_ev (Ev_neq rfl rfl rfl) rfl ?_
                              refine OW_nil ?_
                              refine CW_cond rfl (fun c24 => ?_) (fun c24 => ?_)
                              · have d24 := c24
                                first | (with_reducible replace d24 := of_decide_eq_true d24) | (with_reducible replace d24 := bnt d24; try (with_reducible replace d24 := of_decide_eq_false d24)) | skip
                                have hne : p.r.chanAt k ≠ 0 := by rw [hws]; exact d24
                                refine CW_seq ?_
                                refine CW_reg rfl ?_
                                refine OW_ev (Ev_mvi (.inl rfl) rfl) rfl ?_
                                refine OW_ev (Ev_mvi (.inr rfl) rfl) rfl ?_
                                refine OW_nil ?_
                                refine CW_ret ?_
                                refine blk_ret ?_
                                refine blk_ret ?_
                                refine ⟨rfl, _, (.tmp rfl .nil), ?_⟩
                                exact ⟨T, vi rfl (by first | exact (err_num hnb).symm | exact (err_drain hnb hparts hwins hdd).symm | (rw [err_parts hnb (by rw [hpl, firstErr_at he0 hne hk2]; exact hne), hpl, firstErr_at he0 hne hk2]) | (rw [err_wins hnb hparts (by show firstErr p.r.winAt p.ws.length ≠ 0; rw [firstErr_at he0 (by omega) hk2]; omega)]; show _ = firstErr p.r.winAt p.ws.length; rw [firstErr_at he0 (by omega) hk2, hwe]) | (rw [err_chans hnb hparts hwins hdd]; show _ = firstErr p.r.chanAt p.cs.length; rw [firstErr_at he0 hne hk2, hws]) | (rw [err_chans hnb hparts hwins hdd]; show _ = firstErr p.r.chanAt p.cs.length; rw [← hk2]; exact he0.symm))⟩
                              · have d24 := c24
                                first | (with_reducible replace d24 := of_decide_eq_false d24) | (with_reducible replace d24 := bnf d24; try (with_reducible replace d24 := of_decide_eq_true d24)) | skip
                                have hne : p.r.chanAt k = 0 := by rw [hws]; omega
                                refine CW_skip ?_
                                refine CW_reg rfl ?_
                                refine OW_ev (Ev_mvi (.inl rfl) rfl) rfl ?_
                                refine OW_ev (Ev_add rfl rfl rfl (by first | (apply IntWalk.i64_in; omega) | (apply IntWalk.u64_in; omega) | (apply IntWalk.u32_in; omega) | (apply IntWalk.u8_in; omega) | (apply IntWalk.i32_in; omega) | rfl)) rfl ?_
                                refine OW_ev (Ev_mvi (.inr rfl) rfl) rfl ?_
                                refine OW_nil ?_
                                exact ⟨k + 1, by omega, ⟨rfl, congrArg (Value.int .i64) (by omega), trivial⟩, by omega, firstErr_ok he0 hne, B1, hP, T⟩
                            · have d21 := c21
                              first | (with_reducible replace d21 := of_decide_eq_false d21) | (with_reducible replace d21 := bnf d21; try (with_reducible replace d21 := of_decide_eq_true d21)) | skip
                              have hk2 : k = p.cs.length := by omega
                              refine CW_exit ?_
                              refine blk_same ?_
                              refine CW_seq ?_
                              refine CW_reg rfl ?_
                              refine OW_ev (Ev_c (.inr rfl)) rfl ?_
                              refine OW_nil ?_
                              refine CW_ret ?_
                              refine ⟨rfl, _, (.tmp rfl .nil), ?_⟩
                              exact ⟨T, vi rfl (by first | exact (err_num hnb).symm | exact (err_drain hnb hparts hwins hdd).symm | (rw [err_parts hnb (by rw [hpl, firstErr_at he0 hne hk2]; exact hne), hpl, firstErr_at he0 hne hk2]) | (rw [err_wins hnb hparts (by show firstErr p.r.winAt p.ws.length ≠ 0; rw [firstErr_at he0 (by omega) hk2]; omega)]; show _ = firstErr p.r.winAt p.ws.length; rw [firstErr_at he0 (by omega) hk2, hwe]) | (rw [err_chans hnb hparts hwins hdd]; show _ = firstErr p.r.chanAt p.cs.length; rw [firstErr_at he0 hne hk2, hws]) | (rw [err_chans hnb hparts hwins hdd]; show _ = firstErr p.r.chanAt p.cs.length; rw [← hk2]; exact he0.symm))⟩

end Go.Proofs.Ytiedmigdgelhkaa