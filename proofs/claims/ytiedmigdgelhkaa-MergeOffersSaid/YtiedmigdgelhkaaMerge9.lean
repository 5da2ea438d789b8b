/- Contracts of New of packages merge and blackboxref29. -/
import Derived.Test.YtiedmigdgelhkaaTypes
import Derived.Test.YtiedmigdgelhkaaRingData
import Derived.Test.YtiedmigdgelhkaaPlanData
import Derived.Test.YtiedmigdgelhkaaConf5
import Derived.Test.YtiedmigdgelhkaaMerge7
namespace Go.Proofs.Ytiedmigdgelhkaa
open Go Go.RowKit Bx Go.Proofs

def nwR (x : Prt) : Rg := ⟨x.ring, [], Ent.zero⟩
def nwM (m : PrtM) : RgM := ⟨nwR m.r, none, 0⟩
def lstR : Rg := ⟨64, [], Ent.zero⟩
def lstM : RgM := ⟨lstR, none, 0⟩
def rings (p : Pln) : List Rg × Int := if p.err ≠ 0 then ([], p.err) else (p.ps.map nwR ++ [lstR], 0)
theorem big_no {p : PlnM} (h : p.r.big = false) : p.ps.length ≤ 1000 ∧ p.ws.length ≤ 1000 ∧ p.cs.length ≤ 1000 := by
  unfold Pln.big at h
  have h1 := of_decide_eq_false h
  have h2 : p.r.ps.length = p.ps.length := by simp [PlnM.r]
  have h3 : p.r.ws.length = p.ws.length := rfl
  have h4 : p.r.cs.length = p.cs.length := rfl
  omega
theorem nw_take {p : PlnM} {k : Nat} {m : PrtM} (h : p.ps[k]? = some m) : ((p.ps.take (k + 1)).map nwM).map RgM.cl = ((p.ps.take k).map nwM).map RgM.cl ++ [nwM m].map RgM.cl := by
  rw [List.take_add_one, h]; simp
theorem nw_len {p : PlnM} {k : Nat} (h : k ≤ p.ps.length) : (((p.ps.take k).map nwM).map RgM.cl).length = k := by simp; omega
theorem rings_S {w : World} {p : PlnM} {ao : Option Addr} {G : Nat → Prop} (h : Sl G w 9 ao (((p.ps.map nwM) ++ [lstM]).map RgM.cl)) : RgsS G w ao (p.ps.map nwM ++ [lstM]) :=
  ⟨h, fun m hm => by
    rcases List.mem_append.1 hm with hm | hm
    · obtain ⟨x, _, rfl⟩ := List.mem_map.1 hm; exact ⟨Nat.le_refl _, Nat.zero_le _, Sl.nil _ _ _ _⟩
    · rw [List.mem_singleton.1 hm]; exact ⟨Nat.le_refl _, Nat.zero_le _, Sl.nil _ _ _ _⟩⟩
theorem rings_r {p : PlnM} (he : p.r.err = 0) : (p.ps.map nwM ++ [lstM]).map RgM.r = (rings p.r).1 := by
  unfold rings
  rw [if_neg (by simp [he])]
  simp [PlnM.r, nwM, lstM, Function.comp_def]

set_option maxRecDepth 10000 in
set_option maxHeartbeats 2000000 in
theorem mnew_c {F : Nat → Prop} {w : World} {p : PlnM} (hP : PlnS F w p) (hsm : p.ps.length ≤ 1000 ∧ p.ws.length ≤ 1000 ∧ p.cs.length ≤ 1000) : Calls Try.prog 14 #[.agg p.cl.toArray] w (Ret fun v w' => Kp0 w w' ∧ ∃ (a : Option Addr) (q : Nat) (ms' : List RgM), v = .tuple #[.slice a ms'.length q, .int .i64 (rings p.r).2] ∧ ms'.map RgM.r = (rings p.r).1 ∧ RgsS (fun b => w.heap.size ≤ b) w' a ms') := by
  have hP := hP.old
  obtain ⟨NW, hNW⟩ : ∃ x, x = w.heap.size := ⟨_, rfl⟩
  rw [← hNW] at hP
  have T : Kp0 w w := Kp.refl _ _
  refine calls_start Try.func14 rfl (n := 36) rfl rfl rfl ?_
  refine CW_seq ?_
  refine CW_reg rfl ?_
  refine OW_st rfl (Stp_box (l := [.int _ _, .slice _ _ _, .slice _ _ _, .slice _ _ _]) rfl rfl rfl ?_)
  intro b1 w1 hb1 hz1 E1 B1
  have L1 : _ ≤ b1 := Nat.le_trans T.size (Nat.le_of_eq hb1.symm)
  have hP := hP.keep0 E1
  have T := T.keep0 E1
  replace B1 : Blk w1 b1 51 (p.cl) := B1
  refine OW_ev (Ev_c (.inr rfl)) rfl ?_
  refine OW_ev (Ev_c (.inr rfl)) rfl ?_
  refine OW_nil ?_
  refine CW_seq ?_
  refine CW_seq ?_
  refine CW_reg rfl ?_
  refine OW_ev (Ev_loadAgg (l := [.int _ _, .slice _ _ _, .slice _ _ _, .slice _ _ _]) agg_51 rfl rfl (B1.sub 0 4 (Nat.le_of_ble_eq_true rfl)) rfl) rfl ?_
  refine OW_st rfl (Stp_call ent_24 rfl rfl rfl (check_c hP hsm) ?_)
  rintro _ w2 ⟨E2, rfl⟩
  have Z2 := E2.size
  have hP := hP.keep0 E2
  have T := T.keep0 E2
  have B1 := B1.keep0 E2
  refine OW_ev (Ev_mvi (.inr rfl) rfl) rfl ?_
  refine OW_nil ?_
  refine CW_seq ?_
  refine CW_reg rfl ?_
  refine OW_ev (Ev_mvi (.inl rfl) rfl) rfl ?_
  refine OW_ev (Ev_neq rfl rfl rfl) rfl ?_
  refine OW_nil ?_
  refine CW_cond rfl (fun c3 => ?_) (fun c3 => ?_)
  · have d3 := c3
    first | (with_reducible replace d3 := of_decide_eq_true d3) | (with_reducible replace d3 := bnt d3; try (with_reducible replace d3 := of_decide_eq_false d3)) | skip
    have he := d3
    refine CW_seq ?_
    refine CW_reg rfl ?_
    refine OW_ev (Ev_mvi (.inl rfl) rfl) rfl ?_
    refine OW_ev (Ev_c (.inr rfl)) rfl ?_
    refine OW_ev (Ev_mvi (.inr rfl) rfl) rfl ?_
    refine OW_nil ?_
    refine CW_ret ?_
    refine ⟨rfl, _, (.tmp rfl (.tmp rfl .nil)), ?_⟩
    exact ⟨T, none, 0, [], by unfold rings; rw [if_pos he]; rfl, by unfold rings; rw [if_pos he]; rfl, Sl.nil _ _ _ _, fun _ h => (nomatch h)⟩
  · have d3 := c3
    first | (with_reducible replace d3 := of_decide_eq_false d3) | (with_reducible replace d3 := bnf d3; try (with_reducible replace d3 := of_decide_eq_true d3)) | skip
    have he : p.r.err = 0 := by omega
    refine CW_skip ?_
    refine CW_seq ?_
    refine CW_reg rfl ?_
    refine OW_ev (Ev_fieldAddr fld_51_1 rfl rfl) rfl ?_
    refine OW_ev (Ev_load one_47 rfl rfl (B1.ld (q := 1) rfl)) rfl ?_
    refine OW_ev (Ev_len und_47 rfl rfl) rfl ?_
    refine OW_ev (Ev_add rfl rfl rfl (by first | (apply IntWalk.i64_in; omega) | (apply IntWalk.u64_in; omega) | (apply IntWalk.u32_in; omega) | (apply IntWalk.u8_in; omega) | (apply IntWalk.i32_in; omega) | rfl)) rfl ?_
    obtain ⟨NB, hNB⟩ : ∃ x, x = w2.heap.size := ⟨_, rfl⟩
    refine OW_st rfl (Stp_makeSlice el_24 rfl rfl rfl (show (0 : Int) = ((0 : Nat) : Int) from rfl) (show ((p.ps.length : Int) + 1) = ((p.ps.length + 1 : Nat) : Int) by omega) (Nat.zero_le _) (by omega) (by simp only [maxLen]; omega) zero_33 ?_)
    intro b4 w4 hb4 hz4 E4 B4
    have L4 : _ ≤ b4 := Nat.le_trans T.size (Nat.le_of_eq hb4.symm)
    have hP := hP.keep0 E4
    have T := T.keep0 E4
    have B1 := B1.keep0 E4
    have O : Own NB w4 33 9 (.slice (some ⟨b4, 0, none⟩) 0 (p.ps.length + 1)) [] := Own.made B4 rfl (by omega) (by simp only [maxLen]; omega)
    have hOb : b4 < w4.heap.size := by omega
    obtain ⟨bo, rfl⟩ : ∃ b, b = b4 := ⟨_, rfl⟩
    refine OW_ev (Ev_mvs (.inr rfl) rfl) rfl ?_
    refine OW_nil ?_
    refine CW_seq ?_
    refine CW_seq ?_
    refine CW_reg rfl ?_
    refine OW_ev (Ev_fieldAddr fld_51_1 rfl rfl) rfl ?_
    refine OW_ev (Ev_load one_47 rfl rfl (B1.ld (q := 1) rfl)) rfl ?_
    refine OW_ev (Ev_len und_47 rfl rfl) rfl ?_
    refine OW_ev (Ev_c (.inl rfl)) rfl ?_
    refine OW_nil ?_
    refine CW_block ?_
    refine CW_loop (α := Nat) (fun (k : Nat) f wr => ∃ (a : Option Addr) (q : Nat), AllEq f [(1, .pointer (some ⟨b1, 0, none⟩)), (5, .slice a k q), (19, .slice p.pa p.ps.length p.pc), (20, .int .i64 (p.ps.length : Int)), (21, .int .i64 (k : Int))] ∧ (k ≤ p.ps.length) ∧ (Blk wr b1 51 p.cl) ∧ (Own NB wr 33 9 (.slice a k q) (((p.ps.take k).map nwM).map RgM.cl)) ∧ (∀ b, (Value.slice a k q).ownBlock = some b → b < wr.heap.size) ∧ (PlnS (fun b => b < NW) wr p) ∧ (NB ≤ wr.heap.size) ∧ (Kp0 w wr)) (fun k => p.ps.length - k) 0 ?_ ?_
    ·
      exact ⟨_, _, ⟨rfl, rfl, rfl, rfl, rfl, trivial⟩, Nat.zero_le _, B1, by simpa using O, fun b hb => by injection hb with hb; subst hb; exact hOb, hP, by omega, T⟩
    ·
      rintro k f wr ⟨a, q, hf, hk, B1, O, hob, hP, hnb, T⟩
      obtain ⟨g, rfl⟩ : ∃ g, f = upl g [(1, .pointer (some ⟨b1, 0, none⟩)), (5, .slice a k q), (19, .slice p.pa p.ps.length p.pc), (20, .int .i64 (p.ps.length : Int)), (21, .int .i64 (k : Int))] := ⟨f, upl_self hf⟩
      clear hf
      refine CW_seq ?_
      refine CW_reg rfl ?_
      refine OW_ev (Ev_lss rfl rfl rfl) rfl ?_
      refine OW_nil ?_
      refine CW_seq ?_
      refine CW_cond rfl (fun c5 => ?_) (fun c5 => ?_)
      · have d5 := c5
        first | (with_reducible replace d5 := of_decide_eq_true d5) | (with_reducible replace d5 := bnt d5; try (with_reducible replace d5 := of_decide_eq_false d5)) | skip
        have hk2 : k < p.ps.length := by omega
        obtain ⟨m, hm, hgm, hmr, hmem⟩ := getP (p := p) (j := k) hk2
        have K := hP.1.at_ hgm
        have hmi := (hP.2.2.2.1 m hmem).1
        have hKb := (hP.1.2 (Sl.ne hgm)).2.1
        change _ < _ at hKb
        have htk := nw_take hm
        have hnk := nw_len (p := p) (k := k) hk
        refine CW_skip ?_
        refine CW_seq ?_
        refine CW_block ?_
        refine CW_seq ?_
        refine CW_reg rfl ?_
        refine OW_ev (Ev_idx k (hP.1.ad hgm) sl_47 rfl rfl rfl rfl (by omega)) rfl ?_
        refine OW_ev (Ev_loadAgg (l := m.cl) agg_65 rfl rfl (K.sub 0 rfl) rfl) rfl ?_
        refine OW_st rfl (Stp_alloc zero_65 rfl ?_)
        intro b6 w6 hb6 hz6 E6 B6
        have L6 : _ ≤ b6 := Nat.le_trans T.size (Nat.le_of_eq hb6.symm)
        have T := T.keep0 E6
        have B1 := B1.keep0 E6
        have O := O.keep0 E6
        have hP := hP.keep0 E6
        have K := K.keep0 E6
        obtain ⟨bm, rfl⟩ : ∃ b, b = b6 := ⟨_, rfl⟩
        have BM := B6
        have hob2 : ∀ b, (Value.slice a k q).ownBlock = some b → b < bm := fun b hb => by have := hob b hb; omega
        refine OW_st rfl (Stp_store (q := 0) BM siz_65 rfl rfl rfl rfl (Nat.le_of_ble_eq_true rfl) rfl ?_)
        intro w7 hz7 E7 B7
        have Z7 := E7.size
        have T := T.transb E7 (by omega)
        have B1 := B1.keepb E7 (by intro h; first | omega | (change _ < _ at h; omega) | (change _ ≤ _ at h; omega) | (have h1 := h.1; have h2 := h.2; first | omega | (change _ ≤ _ at h1; omega) | (change _ < _ at h1; omega)))
        have O := O.keepb E7 (fun b _ hv => by have := hob2 b hv; omega)
        have hP := hP.keepb E7 (fun h => by change _ < _ at h; omega)
        clear BM
        have BM := B7
        clear B7
        have BM : Blk w7 bm 65 m.cl := BM
        refine OW_nil ?_
        refine CW_reg rfl ?_
        refine OW_ev (Ev_mvs (.inl rfl) rfl) rfl ?_
        refine OW_ev (Ev_fieldAddr fld_65_2 rfl rfl) rfl ?_
        refine OW_ev (Ev_load one_3 rfl rfl (BM.ld (q := 2) rfl)) rfl ?_
        refine OW_ev (Ev_build (l := [.int _ _, .slice _ _ _, .int _ _, .int _ _, .int _ _, .int _ _, .int _ _, .int _ _, .int _ _]) plc_33 zero_33 rfl rfl rfl) rfl ?_
        refine OW_st rfl (Stp_buildSlice (l := [_, _, _, _, _, _, _, _, _]) el_24 zero_33 rfl rfl rfl rfl ?_)
        intro b8 w8 hb8 hz8 E8 B8
        have L8 : _ ≤ b8 := Nat.le_trans T.size (Nat.le_of_eq hb8.symm)
        have T := T.keep0 E8
        have B1 := B1.keep0 E8
        have O := O.keep0 E8
        have hP := hP.keep0 E8
        have BM := BM.keep0 E8
        have hY : Sl (· = b8) w8 9 (some ⟨b8, 0, none⟩) ([nwM m].map RgM.cl) := Sl.ofBlk B8 (by intro e he; simp at he; subst he; rfl)
        have hbw : b8 < w8.heap.size := by omega
        refine OW_st rfl (Stp_append O hY el_24 rfl rfl rfl rfl (by simp) (RgM.one _) (by simp [maxLen]; omega) (by simp; omega) (by omega) ?_)
        intro v9 w9 O9 E9 X9
        have Z9 := E9.size
        have T := T.transo E9 (by omega)
        have B1 := B1.keepo E9 (fun b hb hl he => by first | omega | (have := hsp b he; omega) | (change b < _ at hb; omega) | (change _ ≤ b at hb; omega) | (have h1 := hb.1; have h2 := hb.2; first | omega | (change _ ≤ _ at h1; omega) | (change _ < _ at h1; omega)))
        have hP := hP.keepo E9 (fun b hb hl he => by first | omega | (have := hsp b he; omega) | (change b < _ at hb; omega) | (change _ ≤ b at hb; omega) | (have h1 := hb.1; have h2 := hb.2; first | omega | (change _ ≤ _ at h1; omega) | (change _ < _ at h1; omega)))
        obtain ⟨a9, q9, rfl, l9, m9, S9⟩ := O9.sl
        obtain ⟨aN, rfl⟩ : ∃ x, x = a9 := ⟨_, rfl⟩
        obtain ⟨qN, rfl⟩ : ∃ x, x = q9 := ⟨_, rfl⟩
        have ON := O9
        have hX := X9
        have SN := S9
        have lN := l9
        have mN := m9
        refine OW_ev (Ev_mvs (.inr rfl) rfl) rfl ?_
        refine OW_nil ?_
        refine CW_reg rfl ?_
        refine OW_ev (Ev_add rfl rfl rfl (by first | (apply IntWalk.i64_in; omega) | (apply IntWalk.u64_in; omega) | (apply IntWalk.u32_in; omega) | (apply IntWalk.u8_in; omega) | (apply IntWalk.i32_in; omega) | rfl)) rfl ?_
        refine OW_ev (Ev_mvi (.inl rfl) rfl) rfl ?_
        refine OW_nil ?_
        rw [← htk] at ON
        have hlN : (((p.ps.take (k + 1)).map nwM).map RgM.cl).length = k + 1 := nw_len hk2
        rw [← htk] at hX SN
        rw [hlN] at ON hX
        refine ⟨k + 1, by omega, aN, qN, ⟨rfl, congrArg (fun n => Value.slice aN n qN) (by rw [← hlN, htk]), rfl, rfl, congrArg (Value.int .i64) (by omega), trivial⟩, hk2, B1, ON, ?_, hP, by omega, T⟩
        intro b hb; have := ON.blk (by intro e; rw [e] at hlN; simp at hlN) b hb; omega
      · have d5 := c5
        first | (with_reducible replace d5 := of_decide_eq_false d5) | (with_reducible replace d5 := bnf d5; try (with_reducible replace d5 := of_decide_eq_true d5)) | skip
        have hk2 : k = p.ps.length := by omega
        have htk : p.ps.take k = p.ps := List.take_of_length_le (by omega)
        rw [htk] at O
        have hlm : ((p.ps.map nwM).map RgM.cl).length = p.ps.length := by simp
        refine CW_exit ?_
        refine blk_same ?_
        refine CW_seq ?_
        refine CW_reg rfl ?_
        refine OW_ev (Ev_mvs (.inl rfl) rfl) rfl ?_
        refine OW_ev (Ev_build (l := [.int _ _, .slice _ _ _, .int _ _, .int _ _, .int _ _, .int _ _, .int _ _, .int _ _, .int _ _]) plc_33 zero_33 rfl rfl rfl) rfl ?_
        refine OW_st rfl (Stp_buildSlice (l := [_, _, _, _, _, _, _, _, _]) el_24 zero_33 rfl rfl rfl rfl ?_)
        intro b10 w10 hb10 hz10 E10 B10
        have L10 : _ ≤ b10 := Nat.le_trans T.size (Nat.le_of_eq hb10.symm)
        have T := T.keep0 E10
        have B1 := B1.keep0 E10
        have O := O.keep0 E10
        have hP := hP.keep0 E10
        have hY : Sl (· = b10) w10 9 (some ⟨b10, 0, none⟩) ([lstM].map RgM.cl) := Sl.ofBlk B10 (by intro e he; simp at he; subst he; rfl)
        have hbw : b10 < w10.heap.size := by omega
        refine OW_st rfl (Stp_append O hY el_24 rfl rfl rfl rfl (by simp) (RgM.one _) (by simp [maxLen]; omega) (by simp; omega) (by omega) ?_)
        intro v11 w11 O11 E11 X11
        have Z11 := E11.size
        have T := T.transo E11 (by omega)
        have B1 := B1.keepo E11 (fun b hb hl he => by first | omega | (have := hsp b he; omega) | (change b < _ at hb; omega) | (change _ ≤ b at hb; omega) | (have h1 := hb.1; have h2 := hb.2; first | omega | (change _ ≤ _ at h1; omega) | (change _ < _ at h1; omega)))
        have hP := hP.keepo E11 (fun b hb hl he => by first | omega | (have := hsp b he; omega) | (change b < _ at hb; omega) | (change _ ≤ b at hb; omega) | (have h1 := hb.1; have h2 := hb.2; first | omega | (change _ ≤ _ at h1; omega) | (change _ < _ at h1; omega)))
        obtain ⟨a11, q11, rfl, l11, m11, S11⟩ := O11.sl
        obtain ⟨aN, rfl⟩ : ∃ x, x = a11 := ⟨_, rfl⟩
        obtain ⟨qN, rfl⟩ : ∃ x, x = q11 := ⟨_, rfl⟩
        have ON := O11
        have hX := X11
        have SN := S11
        have lN := l11
        have mN := m11
        refine OW_ev (Ev_mvs (.inr rfl) rfl) rfl ?_
        refine OW_ev (Ev_c (.inr rfl)) rfl ?_
        refine OW_nil ?_
        refine CW_ret ?_
        refine ⟨rfl, _, (.tmp rfl (.tmp rfl .nil)), ?_⟩
        have hlf : (p.ps.map nwM ++ [lstM]).length = p.ps.length + 1 := by simp
        rw [← List.map_append] at SN
        refine ⟨T, aN, qN, p.ps.map nwM ++ [lstM], ?_, rings_r he, ?_⟩
        · show Value.tuple #[.slice aN (List.map RgM.cl (List.map nwM p.ps) ++ List.map RgM.cl [lstM]).length qN, .int .i64 0] = _; unfold rings; rw [if_neg (by simp [he])]; simp
        · exact rings_S (SN.mono (fun b _ hb => by change _ ≤ b at hb; omega))

set_option maxRecDepth 10000 in
set_option maxHeartbeats 2000000 in
theorem rnew_c {F : Nat → Prop} {w : World} {p : PlnM} (hP : PlnS F w p) (hsm : p.ps.length ≤ 1000 ∧ p.ws.length ≤ 1000 ∧ p.cs.length ≤ 1000) : Calls Try.prog 15 #[.agg p.cl.toArray] w (Ret fun v w' => Kp0 w w' ∧ ∃ (a : Option Addr) (q : Nat) (ms' : List RgM), v = .tuple #[.slice a ms'.length q, .int .i64 (rings p.r).2] ∧ ms'.map RgM.r = (rings p.r).1 ∧ RgsS (fun b => w.heap.size ≤ b) w' a ms') := by
  have hP := hP.old
  obtain ⟨NW, hNW⟩ : ∃ x, x = w.heap.size := ⟨_, rfl⟩
  rw [← hNW] at hP
  have T : Kp0 w w := Kp.refl _ _
  refine calls_start Try.func15 rfl (n := 34) rfl rfl rfl ?_
  refine CW_seq ?_
  refine CW_reg rfl ?_
  refine OW_st rfl (Stp_box (l := [.int _ _, .slice _ _ _, .slice _ _ _, .slice _ _ _]) rfl rfl rfl ?_)
  intro b1 w1 hb1 hz1 E1 B1
  have L1 : _ ≤ b1 := Nat.le_trans T.size (Nat.le_of_eq hb1.symm)
  have hP := hP.keep0 E1
  have T := T.keep0 E1
  replace B1 : Blk w1 b1 51 (p.cl) := B1
  refine OW_ev (Ev_c (.inr rfl)) rfl ?_
  refine OW_ev (Ev_c (.inr rfl)) rfl ?_
  refine OW_nil ?_
  refine CW_seq ?_
  refine CW_reg rfl ?_
  refine OW_ev (Ev_loadAgg (l := [.int _ _, .slice _ _ _, .slice _ _ _, .slice _ _ _]) agg_51 rfl rfl (B1.sub 0 4 (Nat.le_of_ble_eq_true rfl)) rfl) rfl ?_
  refine OW_st rfl (Stp_call ent_25 rfl rfl rfl (rcheck_c hP hsm) ?_)
  rintro _ w2 ⟨E2, rfl⟩
  have Z2 := E2.size
  have hP := hP.keep0 E2
  have T := T.keep0 E2
  have B1 := B1.keep0 E2
  refine OW_ev (Ev_mvi (.inr rfl) rfl) rfl ?_
  refine OW_nil ?_
  refine CW_seq ?_
  refine CW_seq ?_
  refine CW_reg rfl ?_
  refine OW_ev (Ev_mvi (.inl rfl) rfl) rfl ?_
  refine OW_ev (Ev_neq rfl rfl rfl) rfl ?_
  refine OW_nil ?_
  refine CW_cond rfl (fun c3 => ?_) (fun c3 => ?_)
  · have d3 := c3
    first | (with_reducible replace d3 := of_decide_eq_true d3) | (with_reducible replace d3 := bnt d3; try (with_reducible replace d3 := of_decide_eq_false d3)) | skip
    have he := d3
    refine CW_seq ?_
    refine CW_reg rfl ?_
    refine OW_ev (Ev_mvi (.inl rfl) rfl) rfl ?_
    refine OW_ev (Ev_c (.inr rfl)) rfl ?_
    refine OW_ev (Ev_mvi (.inr rfl) rfl) rfl ?_
    refine OW_nil ?_
    refine CW_ret ?_
    refine ⟨rfl, _, (.tmp rfl (.tmp rfl .nil)), ?_⟩
    exact ⟨T, none, 0, [], by unfold rings; rw [if_pos he]; rfl, by unfold rings; rw [if_pos he]; rfl, Sl.nil _ _ _ _, fun _ h => (nomatch h)⟩
  · have d3 := c3
    first | (with_reducible replace d3 := of_decide_eq_false d3) | (with_reducible replace d3 := bnf d3; try (with_reducible replace d3 := of_decide_eq_true d3)) | skip
    have he : p.r.err = 0 := by omega
    obtain ⟨NB, hNB⟩ : ∃ x, x = w2.heap.size := ⟨_, rfl⟩
    refine CW_skip ?_
    refine CW_seq ?_
    refine CW_reg rfl ?_
    refine OW_ev (Ev_c (.inr rfl)) rfl ?_
    refine OW_nil ?_
    refine CW_seq ?_
    refine CW_seq ?_
    refine CW_reg rfl ?_
    refine OW_ev (Ev_c (.inr rfl)) rfl ?_
    refine OW_nil ?_
    refine CW_block ?_
    refine CW_loop (α := Nat) (fun (k : Nat) f wr => ∃ (a : Option Addr) (q : Nat), AllEq f [(1, .pointer (some ⟨b1, 0, none⟩)), (5, .slice a k q), (6, .int .i64 (k : Int))] ∧ (k ≤ p.ps.length) ∧ (Blk wr b1 51 p.cl) ∧ (Own NB wr 33 9 (.slice a k q) (((p.ps.take k).map nwM).map RgM.cl)) ∧ (PlnS (fun b => b < NW) wr p) ∧ (NB ≤ wr.heap.size) ∧ (Kp0 w wr)) (fun k => p.ps.length - k) 0 ?_ ?_
    ·
      exact ⟨_, _, ⟨rfl, rfl, rfl, trivial⟩, Nat.zero_le _, B1, by simpa using Own.none_ _ _ _ _ _, hP, by omega, T⟩
    ·
      rintro k f wr ⟨a, q, hf, hk, B1, O, hP, hnb, T⟩
      obtain ⟨g, rfl⟩ : ∃ g, f = upl g [(1, .pointer (some ⟨b1, 0, none⟩)), (5, .slice a k q), (6, .int .i64 (k : Int))] := ⟨f, upl_self hf⟩
      clear hf
      refine CW_seq ?_
      refine CW_seq ?_
      refine CW_reg rfl ?_
      refine OW_ev (Ev_mvi (.inl rfl) rfl) rfl ?_
      refine OW_ev (Ev_fieldAddr fld_51_1 rfl rfl) rfl ?_
      refine OW_ev (Ev_load one_47 rfl rfl (B1.ld (q := 1) rfl)) rfl ?_
      refine OW_ev (Ev_len und_47 rfl rfl) rfl ?_
      refine OW_ev (Ev_lss rfl rfl rfl) rfl ?_
      refine OW_nil ?_
      refine CW_cond rfl (fun c4 => ?_) (fun c4 => ?_)
      · have d4 := c4
        first | (with_reducible replace d4 := of_decide_eq_true d4) | (with_reducible replace d4 := bnt d4; try (with_reducible replace d4 := of_decide_eq_false d4)) | skip
        have hk2 : k < p.ps.length := by omega
        obtain ⟨m, hm, hgm, hmr, hmem⟩ := getP (p := p) (j := k) hk2
        have K := hP.1.at_ hgm
        have hmi := (hP.2.2.2.1 m hmem).1
        have hKb := (hP.1.2 (Sl.ne hgm)).2.1
        change _ < _ at hKb
        have htk := nw_take hm
        have hnk := nw_len (p := p) (k := k) hk
        refine CW_skip ?_
        refine CW_seq ?_
        refine CW_block ?_
        refine CW_reg rfl ?_
        refine OW_ev (Ev_mvs (.inl rfl) rfl) rfl ?_
        refine OW_ev (Ev_fieldAddr fld_51_1 rfl rfl) rfl ?_
        refine OW_ev (Ev_load one_47 rfl rfl (B1.ld (q := 1) rfl)) rfl ?_
        refine OW_ev (Ev_mvi (.inl rfl) rfl) rfl ?_
        refine OW_ev (Ev_idx k (hP.1.ad hgm) sl_47 rfl rfl rfl rfl (by omega)) rfl ?_
        refine OW_ev (Ev_fieldAddr fld_65_2 rfl rfl) rfl ?_
        refine OW_ev (Ev_load one_3 rfl rfl (K.one 2 rfl)) rfl ?_
        refine OW_ev (Ev_build (l := [.int _ _, .slice _ _ _, .int _ _, .int _ _, .int _ _, .int _ _, .int _ _, .int _ _, .int _ _]) plc_33 zero_33 rfl rfl rfl) rfl ?_
        refine OW_st rfl (Stp_buildSlice (l := [_, _, _, _, _, _, _, _, _]) el_24 zero_33 rfl rfl rfl rfl ?_)
        intro b5 w5 hb5 hz5 E5 B5
        have L5 : _ ≤ b5 := Nat.le_trans T.size (Nat.le_of_eq hb5.symm)
        have T := T.keep0 E5
        have B1 := B1.keep0 E5
        have O := O.keep0 E5
        have hP := hP.keep0 E5
        have K := K.keep0 E5
        have hY : Sl (· = b5) w5 9 (some ⟨b5, 0, none⟩) ([nwM m].map RgM.cl) := Sl.ofBlk B5 (by intro e he; simp at he; subst he; rfl)
        have hbw : b5 < w5.heap.size := by omega
        refine OW_st rfl (Stp_append O hY el_24 rfl rfl rfl rfl (by simp) (RgM.one _) (by simp [maxLen]; omega) (by simp; omega) (by omega) ?_)
        intro v6 w6 O6 E6 X6
        have Z6 := E6.size
        have T := T.transo E6 (by omega)
        have B1 := B1.keepo E6 (fun b hb hl he => by first | omega | (have := hsp b he; omega) | (change b < _ at hb; omega) | (change _ ≤ b at hb; omega) | (have h1 := hb.1; have h2 := hb.2; first | omega | (change _ ≤ _ at h1; omega) | (change _ < _ at h1; omega)))
        have hP := hP.keepo E6 (fun b hb hl he => by first | omega | (have := hsp b he; omega) | (change b < _ at hb; omega) | (change _ ≤ b at hb; omega) | (have h1 := hb.1; have h2 := hb.2; first | omega | (change _ ≤ _ at h1; omega) | (change _ < _ at h1; omega)))
        obtain ⟨a6, q6, rfl, l6, m6, S6⟩ := O6.sl
        obtain ⟨aN, rfl⟩ : ∃ x, x = a6 := ⟨_, rfl⟩
        obtain ⟨qN, rfl⟩ : ∃ x, x = q6 := ⟨_, rfl⟩
        have ON := O6
        have hX := X6
        have SN := S6
        have lN := l6
        have mN := m6
        refine OW_ev (Ev_mvs (.inr rfl) rfl) rfl ?_
        refine OW_nil ?_
        refine CW_re [(1, .pointer _), (5, .slice _ _ _), (6, .int _ _)] ⟨rfl, rfl, rfl, trivial⟩ (fun g => ?_)
        refine CW_reg rfl ?_
        refine OW_ev (Ev_mvi (.inl rfl) rfl) rfl ?_
        refine OW_ev (Ev_add rfl rfl rfl (by first | (apply IntWalk.i64_in; omega) | (apply IntWalk.u64_in; omega) | (apply IntWalk.u32_in; omega) | (apply IntWalk.u8_in; omega) | (apply IntWalk.i32_in; omega) | rfl)) rfl ?_
        refine OW_ev (Ev_mvi (.inr rfl) rfl) rfl ?_
        refine OW_nil ?_
        rw [← htk] at ON
        have hlN : (((p.ps.take (k + 1)).map nwM).map RgM.cl).length = k + 1 := nw_len hk2
        rw [hlN] at ON
        exact ⟨k + 1, by omega, aN, qN, ⟨rfl, congrArg (fun n => Value.slice aN n qN) (by rw [← hlN, htk]), congrArg (Value.int .i64) (by omega), trivial⟩, hk2, B1, ON, hP, by omega, T⟩
      · have d4 := c4
        first | (with_reducible replace d4 := of_decide_eq_false d4) | (with_reducible replace d4 := bnf d4; try (with_reducible replace d4 := of_decide_eq_true d4)) | skip
        have hk2 : k = p.ps.length := by omega
        have htk : p.ps.take k = p.ps := List.take_of_length_le (by omega)
        rw [htk] at O
        have hlm : ((p.ps.map nwM).map RgM.cl).length = p.ps.length := by simp
        refine CW_exit ?_
        refine blk_same ?_
        refine CW_seq ?_
        refine CW_reg rfl ?_
        refine OW_ev (Ev_mvs (.inl rfl) rfl) rfl ?_
        refine OW_ev (Ev_build (l := [.int _ _, .slice _ _ _, .int _ _, .int _ _, .int _ _, .int _ _, .int _ _, .int _ _, .int _ _]) plc_33 zero_33 rfl rfl rfl) rfl ?_
        refine OW_st rfl (Stp_buildSlice (l := [_, _, _, _, _, _, _, _, _]) el_24 zero_33 rfl rfl rfl rfl ?_)
        intro b7 w7 hb7 hz7 E7 B7
        have L7 : _ ≤ b7 := Nat.le_trans T.size (Nat.le_of_eq hb7.symm)
        have T := T.keep0 E7
        have B1 := B1.keep0 E7
        have O := O.keep0 E7
        have hP := hP.keep0 E7
        have hY : Sl (· = b7) w7 9 (some ⟨b7, 0, none⟩) ([lstM].map RgM.cl) := Sl.ofBlk B7 (by intro e he; simp at he; subst he; rfl)
        have hbw : b7 < w7.heap.size := by omega
        refine OW_st rfl (Stp_append O hY el_24 rfl rfl rfl rfl (by simp) (RgM.one _) (by simp [maxLen]; omega) (by simp; omega) (by omega) ?_)
        intro v8 w8 O8 E8 X8
        have Z8 := E8.size
        have T := T.transo E8 (by omega)
        have B1 := B1.keepo E8 (fun b hb hl he => by first | omega | (have := hsp b he; omega) | (change b < _ at hb; omega) | (change _ ≤ b at hb; omega) | (have h1 := hb.1; have h2 := hb.2; first | omega | (change _ ≤ _ at h1; omega) | (change _ < _ at h1; omega)))
        have hP := hP.keepo E8 (fun b hb hl he => by first | omega | (have := hsp b he; omega) | (change b < _ at hb; omega) | (change _ ≤ b at hb; omega) | (have h1 := hb.1; have h2 := hb.2; first | omega | (change _ ≤ _ at h1; omega) | (change _ < _ at h1; omega)))
        obtain ⟨a8, q8, rfl, l8, m8, S8⟩ := O8.sl
        obtain ⟨aN, rfl⟩ : ∃ x, x = a8 := ⟨_, rfl⟩
        obtain ⟨qN, rfl⟩ : ∃ x, x = q8 := ⟨_, rfl⟩
        have ON := O8
        have hX := X8
        have SN := S8
        have lN := l8
        have mN := m8
        refine OW_ev (Ev_mvs (.inr rfl) rfl) rfl ?_
        refine OW_nil ?_
        refine CW_seq ?_
        refine CW_reg rfl ?_
        refine OW_ev (Ev_mvs (.inl rfl) rfl) rfl ?_
        refine OW_ev (Ev_mvs (.inr rfl) rfl) rfl ?_
        refine OW_ev (Ev_c (.inr rfl)) rfl ?_
        refine OW_nil ?_
        refine CW_ret ?_
        refine ⟨rfl, _, (.tmp rfl (.tmp rfl .nil)), ?_⟩
        have hlf : (p.ps.map nwM ++ [lstM]).length = p.ps.length + 1 := by simp
        rw [← List.map_append] at SN
        refine ⟨T, aN, qN, p.ps.map nwM ++ [lstM], ?_, rings_r he, ?_⟩
        · show Value.tuple #[.slice aN (List.map RgM.cl (List.map nwM p.ps) ++ List.map RgM.cl [lstM]).length qN, .int .i64 0] = _; unfold rings; rw [if_neg (by simp [he])]; simp
        · exact rings_S (SN.mono (fun b _ hb => by change _ ≤ b at hb; omega))

end Go.Proofs.Ytiedmigdgelhkaa