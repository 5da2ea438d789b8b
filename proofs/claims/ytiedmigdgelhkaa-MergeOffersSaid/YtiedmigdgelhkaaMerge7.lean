/- The law MergeOwn: offers to two partitions commute. -/
import Derived.Test.YtiedmigdgelhkaaTypes
import Derived.Test.YtiedmigdgelhkaaMerge6
namespace Go.Proofs.Ytiedmigdgelhkaa
open Go Go.RowKit Bx Go.Proofs

theorem offer_ok {l : List Rg} {x : Ent} (h : (offer l x).2 = 0) : ∃ (i : Nat) (r : Rg), ¬ (x.e.part ≠ -1 ∧ (l.length : Int) - 1 ≤ x.e.part) ∧ offerAt l.length x = (i : Int) ∧ l[i]? = some r ∧ (r.put x).2 = 0 ∧ offer l x = (l.set i (r.put x).1, 0) := by
  by_cases h1 : (x.e.part ≠ -1 ∧ (l.length : Int) - 1 ≤ x.e.part) ∨ offerAt l.length x < 0
  · rw [offer_no h1] at h; cases h
  obtain ⟨i, hi⟩ : ∃ i : Nat, offerAt l.length x = (i : Int) := ⟨(offerAt l.length x).toNat, by omega⟩
  cases hg : l[i]? with
  | none =>
    unfold offer at h
    rw [if_neg h1, hi, Int.toNat_natCast, hg] at h
    cases h
  | some r =>
    have h2 := offer_at (fun h => h1 (.inl h)) hi hg
    by_cases hp : (r.put x).2 = 0
    · rw [if_neg (by simp [hp])] at h2
      exact ⟨i, r, fun h => h1 (.inl h), hi, hg, hp, h2⟩
    · rw [if_pos hp] at h2
      rw [h2] at h
      exact absurd h hp
theorem offer_comm {l : List Rg} {x y : Ent} (hp : x.e.part ≠ y.e.part) (hx : (offer l x).2 = 0) (hy : (offer l y).2 = 0) :
    (offer (offer l x).1 y).2 = 0 ∧ (offer (offer l y).1 x).2 = 0 ∧ (offer (offer l x).1 y).1 = (offer (offer l y).1 x).1 := by
  obtain ⟨i, r, a1, a2, a3, a4, a5⟩ := offer_ok hx
  obtain ⟨j, s, b1, b2, b3, b4, b5⟩ := offer_ok hy
  have hij : i ≠ j := by
    intro e
    subst e
    have := a2.trans b2.symm
    unfold offerAt at this a2 b2
    revert this a2 b2
    split <;> split <;> intros <;> omega
  rw [a5, b5]
  have l1 := offer_at (l := l.set i (r.put x).1) (x := y) (i := j) (r := s) (by simpa using b1) (by simpa using b2) (by rw [List.getElem?_set_ne hij]; exact b3)
  have l2 := offer_at (l := l.set j (s.put y).1) (x := x) (i := i) (r := r) (by simpa using a1) (by simpa using a2) (by rw [List.getElem?_set_ne (Ne.symm hij)]; exact a3)
  simp only
  rw [l1, l2, if_neg (by simp [b4]), if_neg (by simp [a4])]
  exact ⟨rfl, rfl, List.set_comm _ _ hij⟩
theorem _root_.Bx.Rg.put_len (r : Rg) (x : Ent) : (r.put x).1.l.length ≤ r.l.length + 2 := by
  unfold Rg.put Rg.put1
  repeat' split
  all_goals simp [Rg.zero]
theorem offer_len {l : List Rg} {x : Ent} {N : Nat} (h : ∀ r ∈ l, r.l.length ≤ N) : (offer l x).1.length ≤ l.length ∧ ∀ r ∈ (offer l x).1, r.l.length ≤ N + 2 := by
  by_cases h0 : (offer l x).2 = 0
  · obtain ⟨i, r, a1, a2, a3, a4, a5⟩ := offer_ok h0
    rw [a5]
    refine ⟨by simp, fun s hs => ?_⟩
    rcases List.mem_or_eq_of_mem_set hs with hs | rfl
    · have := h s hs; omega
    · have := h r (List.mem_of_getElem? a3); have := r.put_len x; omega
  · have : (offer l x).1 = [] := by
      unfold offer at h0 ⊢
      split
      · rfl
      · rename_i h1
        rw [if_neg h1] at h0
        split
        · rfl
        · rename_i hg
          rw [hg] at h0
          simp only at h0
          split
          · rfl
          · rename_i h3; rw [if_neg h3] at h0; exact absurd rfl h0
    rw [this]
    exact ⟨Nat.zero_le _, fun r hr => nomatch hr⟩
theorem offer_lenM {l : List Rg} {x : Ent} {N n : Nat} {ms : List RgM} (hr : ms.map RgM.r = (offer l x).1) (hl : l.length ≤ n) (h : ∀ r ∈ l, r.l.length ≤ N) : ms.length ≤ n ∧ ∀ m ∈ ms, m.r.l.length ≤ N + 2 := by
  have := offer_len (x := x) h
  rw [← hr] at this
  exact ⟨by simpa using Nat.le_trans this.1 hl, fun m hm => this.2 m.r (List.mem_map_of_mem hm)⟩
theorem lenR {ms : List RgM} {N : Nat} : (∀ m ∈ ms, m.r.l.length ≤ N) ↔ ∀ r ∈ ms.map RgM.r, r.l.length ≤ N := by
  constructor
  · intro h r hr
    obtain ⟨m, hm, rfl⟩ := List.mem_map.1 hr
    exact h m hm
  · exact fun h m hm => h m.r (List.mem_map_of_mem hm)

set_option maxRecDepth 10000 in
set_option maxHeartbeats 2000000 in
theorem own_c {F : Nat → Prop} {w : World} {ao : Option Addr} {c n : Nat} {ms : List RgM} {x y : Ent} (hms : ms.length = n) (hS : RgsS F w ao ms) : Calls Try.prog 4 #[.slice ao n c, .agg x.cells.toArray, .agg y.cells.toArray] w (Ret fun v w' => Kp0 w w' ∧ v = .bool (true)) := by
  have T : Kp0 w w := Kp.refl _ _
  refine calls_start Try.func4 rfl (n := 72) rfl rfl rfl ?_
  refine CW_seq ?_
  refine CW_reg rfl ?_
  refine OW_st rfl (Stp_box (l := [.int _ _, .int _ _, .int _ _, .int _ _, .int _ _, .int _ _, .int _ _]) rfl rfl rfl ?_)
  intro b1 w1 hb1 hz1 E1 B1
  have L1 : _ ≤ b1 := Nat.le_trans T.size (Nat.le_of_eq hb1.symm)
  have hS := hS.keep0 E1
  have T := T.keep0 E1
  replace B1 : Blk w1 b1 31 (x.cells) := B1
  refine OW_st rfl (Stp_box (l := [.int _ _, .int _ _, .int _ _, .int _ _, .int _ _, .int _ _, .int _ _]) rfl rfl rfl ?_)
  intro b2 w2 hb2 hz2 E2 B2
  have L2 : _ ≤ b2 := Nat.le_trans T.size (Nat.le_of_eq hb2.symm)
  have hS := hS.keep0 E2
  have T := T.keep0 E2
  have B1 := B1.keep0 E2
  replace B2 : Blk w2 b2 31 (y.cells) := B2
  refine OW_ev (Ev_c (.inr rfl)) rfl ?_
  refine OW_nil ?_
  refine CW_seq ?_
  refine CW_seq ?_
  refine CW_reg rfl ?_
  refine OW_ev (Ev_mvs (.inl rfl) rfl) rfl ?_
  refine OW_st rfl (Stp_call ent_11 rfl rfl rfl (bigRs_c hms hS) ?_)
  rintro _ w3 ⟨E3, rfl⟩
  have Z3 := E3.size
  have hS := hS.keep0 E3
  have T := T.keep0 E3
  have B1 := B1.keep0 E3
  have B2 := B2.keep0 E3
  refine OW_ev (Ev_mvb (.inl rfl) rfl) rfl ?_
  refine OW_split (d := .tmp 17) rfl (fun c4 => ?_) (fun c4 => ?_)
  · have d4 := c4
    first | (with_reducible replace d4 := of_decide_eq_true d4) | (with_reducible replace d4 := bnt d4; try (with_reducible replace d4 := of_decide_eq_false d4)) | skip
    refine OW_no rfl rfl rfl rfl c4 ?_
    refine OW_no rfl rfl rfl rfl c4 ?_
    refine OW_no rfl rfl rfl rfl c4 ?_
    refine OW_no rfl rfl rfl rfl c4 ?_
    refine OW_no rfl rfl rfl rfl c4 ?_
    refine OW_no rfl rfl rfl rfl c4 ?_
    refine OW_no rfl rfl rfl rfl c4 ?_
    refine OW_ev (Ev_pickb_t rfl rfl c4 rfl) rfl ?_
    refine OW_nil ?_
    refine CW_cond_t rfl rfl ?_
    refine CW_seq ?_
    refine CW_reg rfl ?_
    refine OW_st rfl (Stp_call ent_6 rfl rfl rfl (merged_c _) ?_)
    rintro _ w5 ⟨E5, rfl⟩
    have Z5 := E5.size
    have hS := hS.keep0 E5
    have T := T.keep0 E5
    have B1 := B1.keep0 E5
    have B2 := B2.keep0 E5
    refine OW_ev (Ev_mvb (.inr rfl) rfl) rfl ?_
    refine OW_nil ?_
    refine CW_ret ?_
    refine ⟨rfl, _, (.tmp rfl .nil), ?_⟩
    exact ⟨T, rfl⟩
  · have d4 := c4
    first | (with_reducible replace d4 := of_decide_eq_false d4) | (with_reducible replace d4 := bnf d4; try (with_reducible replace d4 := of_decide_eq_true d4)) | skip
    have hbig := bigRs_no d4
    have hbl : ms.length ≤ 40 := by simpa using hbig.1
    have hbe := lenR.2 hbig.2
    refine OW_yes rfl rfl rfl rfl c4 (Ev.stp (Ev_fieldAddr fld_31_1 rfl rfl) ?_)
    refine OW_yes rfl rfl rfl rfl c4 (Ev.stp (Ev_fieldAddr fld_29_2 rfl rfl) ?_)
    refine OW_yes rfl rfl rfl rfl c4 (Ev.stp (Ev_load one_3 rfl rfl (B1.ld (q := 3) rfl)) ?_)
    refine OW_yes rfl rfl rfl rfl c4 (Ev.stp (Ev_fieldAddr fld_31_1 rfl rfl) ?_)
    refine OW_yes rfl rfl rfl rfl c4 (Ev.stp (Ev_fieldAddr fld_29_2 rfl rfl) ?_)
    refine OW_yes rfl rfl rfl rfl c4 (Ev.stp (Ev_load one_3 rfl rfl (B2.ld (q := 3) rfl)) ?_)
    refine OW_yes rfl rfl rfl rfl c4 (Ev.stp (Ev_eql rfl rfl rfl) ?_)
    refine OW_ev (Ev_pickb_f rfl rfl c4 rfl) rfl ?_
    refine OW_nil ?_
    refine CW_cond rfl (fun c6 => ?_) (fun c6 => ?_)
    · have d6 := c6
      first | (with_reducible replace d6 := of_decide_eq_true d6) | (with_reducible replace d6 := bnt d6; try (with_reducible replace d6 := of_decide_eq_false d6)) | skip
      refine CW_seq ?_
      refine CW_reg rfl ?_
      refine OW_st rfl (Stp_call ent_6 rfl rfl rfl (merged_c _) ?_)
      rintro _ w7 ⟨E7, rfl⟩
      have Z7 := E7.size
      have hS := hS.keep0 E7
      have T := T.keep0 E7
      have B1 := B1.keep0 E7
      have B2 := B2.keep0 E7
      refine OW_ev (Ev_mvb (.inr rfl) rfl) rfl ?_
      refine OW_nil ?_
      refine CW_ret ?_
      refine ⟨rfl, _, (.tmp rfl .nil), ?_⟩
      exact ⟨T, rfl⟩
    · have d6 := c6
      first | (with_reducible replace d6 := of_decide_eq_false d6) | (with_reducible replace d6 := bnf d6; try (with_reducible replace d6 := of_decide_eq_true d6)) | skip
      have hpp : x.e.part ≠ y.e.part := d6
      refine CW_skip ?_
      refine CW_seq ?_
      refine CW_reg rfl ?_
      refine OW_ev (Ev_mvs (.inl rfl) rfl) rfl ?_
      refine OW_ev (Ev_loadAgg (l := [.int _ _, .int _ _, .int _ _, .int _ _, .int _ _, .int _ _, .int _ _]) agg_31 rfl rfl (B1.sub 0 7 (Nat.le_of_ble_eq_true rfl)) rfl) rfl ?_
      refine OW_st rfl (Stp_call ent_7 rfl rfl rfl (offer_c (x := x) hms hS (by omega) (fun m hm => Nat.le_trans (hbe m hm) (by decide))) ?_)
      rintro _ w8 ⟨E8, a1, q1, ms1, rfl, hr1, hl1, hq1, hS1⟩
      have Z8 := E8.size
      have hS := hS.keep0 E8
      have T := T.keep0 E8
      have B1 := B1.keep0 E8
      have B2 := B2.keep0 E8
      have hn1 := offer_lenM hr1 (Nat.le_of_eq (List.length_map _)) (lenR.1 hbe)
      refine OW_ev (Ev_mvt (.inl rfl) rfl) rfl ?_
      refine OW_ev (Ev_extract (vs := _) rfl rfl rfl) rfl ?_
      refine OW_ev (Ev_extract (vs := _) rfl rfl rfl) rfl ?_
      refine OW_ev (Ev_mvs (.inr rfl) rfl) rfl ?_
      refine OW_ev (Ev_mvi (.inr rfl) rfl) rfl ?_
      refine OW_nil ?_
      refine CW_seq ?_
      refine CW_re [(0, .slice _ _ _), (4, .pointer _), (5, .pointer _), (6, .bool _), (7, .slice _ _ _), (8, .int _ _)] ⟨rfl, rfl, rfl, rfl, rfl, rfl, trivial⟩ (fun g => ?_)
      refine CW_reg rfl ?_
      refine OW_ev (Ev_mvs (.inl rfl) rfl) rfl ?_
      refine OW_ev (Ev_loadAgg (l := [.int _ _, .int _ _, .int _ _, .int _ _, .int _ _, .int _ _, .int _ _]) agg_31 rfl rfl (B2.sub 0 7 (Nat.le_of_ble_eq_true rfl)) rfl) rfl ?_
      refine OW_st rfl (Stp_call ent_7 rfl rfl rfl (offer_c (x := y) rfl hS1 (by omega) (fun m hm => Nat.le_trans (hn1.2 m hm) (by decide))) ?_)
      rintro _ w9 ⟨E9, a2, q2, ms2, rfl, hr2, hl2, hq2, hS2⟩
      have Z9 := E9.size
      have hS := hS.keep0 E9
      have T := T.keep0 E9
      have B1 := B1.keep0 E9
      have B2 := B2.keep0 E9
      have hS1 := hS1.keep0 E9
      have hn2 := offer_lenM hr2 (Nat.le_of_eq (List.length_map _)) (lenR.1 hn1.2)
      refine OW_ev (Ev_mvt (.inl rfl) rfl) rfl ?_
      refine OW_ev (Ev_extract (vs := _) rfl rfl rfl) rfl ?_
      refine OW_ev (Ev_extract (vs := _) rfl rfl rfl) rfl ?_
      refine OW_ev (Ev_mvs (.inr rfl) rfl) rfl ?_
      refine OW_ev (Ev_mvi (.inr rfl) rfl) rfl ?_
      refine OW_nil ?_
      refine CW_seq ?_
      refine CW_reg rfl ?_
      refine OW_ev (Ev_mvs (.inl rfl) rfl) rfl ?_
      refine OW_ev (Ev_loadAgg (l := [.int _ _, .int _ _, .int _ _, .int _ _, .int _ _, .int _ _, .int _ _]) agg_31 rfl rfl (B2.sub 0 7 (Nat.le_of_ble_eq_true rfl)) rfl) rfl ?_
      refine OW_st rfl (Stp_call ent_7 rfl rfl rfl (offer_c (x := y) hms hS (by omega) (fun m hm => Nat.le_trans (hbe m hm) (by decide))) ?_)
      rintro _ w10 ⟨E10, a3, q3, ms3, rfl, hr3, hl3, hq3, hS3⟩
      have Z10 := E10.size
      have hS := hS.keep0 E10
      have T := T.keep0 E10
      have B1 := B1.keep0 E10
      have B2 := B2.keep0 E10
      have hS1 := hS1.keep0 E10
      have hS2 := hS2.keep0 E10
      have hn3 := offer_lenM hr3 (Nat.le_of_eq (List.length_map _)) (lenR.1 hbe)
      refine OW_ev (Ev_mvt (.inl rfl) rfl) rfl ?_
      refine OW_ev (Ev_extract (vs := _) rfl rfl rfl) rfl ?_
      refine OW_ev (Ev_extract (vs := _) rfl rfl rfl) rfl ?_
      refine OW_ev (Ev_mvs (.inr rfl) rfl) rfl ?_
      refine OW_ev (Ev_mvi (.inr rfl) rfl) rfl ?_
      refine OW_nil ?_
      refine CW_seq ?_
      refine CW_re [(4, .pointer _), (6, .bool _), (8, .int _ _), (9, .slice _ _ _), (10, .int _ _), (11, .slice _ _ _), (12, .int _ _)] ⟨rfl, rfl, rfl, rfl, rfl, rfl, rfl, trivial⟩ (fun g => ?_)
      refine CW_reg rfl ?_
      refine OW_ev (Ev_mvs (.inl rfl) rfl) rfl ?_
      refine OW_ev (Ev_loadAgg (l := [.int _ _, .int _ _, .int _ _, .int _ _, .int _ _, .int _ _, .int _ _]) agg_31 rfl rfl (B1.sub 0 7 (Nat.le_of_ble_eq_true rfl)) rfl) rfl ?_
      refine OW_st rfl (Stp_call ent_7 rfl rfl rfl (offer_c (x := x) rfl hS3 (by omega) (fun m hm => Nat.le_trans (hn3.2 m hm) (by decide))) ?_)
      rintro _ w11 ⟨E11, a4, q4, ms4, rfl, hr4, hl4, hq4, hS4⟩
      have Z11 := E11.size
      have hS := hS.keep0 E11
      have T := T.keep0 E11
      have B1 := B1.keep0 E11
      have B2 := B2.keep0 E11
      have hS1 := hS1.keep0 E11
      have hS2 := hS2.keep0 E11
      have hS3 := hS3.keep0 E11
      have hn4 := offer_lenM hr4 (Nat.le_of_eq (List.length_map _)) (lenR.1 hn3.2)
      refine OW_ev (Ev_mvt (.inl rfl) rfl) rfl ?_
      refine OW_ev (Ev_extract (vs := _) rfl rfl rfl) rfl ?_
      refine OW_ev (Ev_extract (vs := _) rfl rfl rfl) rfl ?_
      refine OW_ev (Ev_mvs (.inr rfl) rfl) rfl ?_
      refine OW_ev (Ev_mvi (.inr rfl) rfl) rfl ?_
      refine OW_nil ?_
      refine CW_seq ?_
      refine CW_seq ?_
      refine CW_reg rfl ?_
      refine OW_ev (Ev_mvi (.inl rfl) rfl) rfl ?_
      refine OW_ev (Ev_neq rfl rfl rfl) rfl ?_
      refine OW_ev (Ev_mvb (.inl rfl) rfl) rfl ?_
      refine OW_split (d := .tmp 53) rfl (fun c12 => ?_) (fun c12 => ?_)
      · have d12 := c12
        first | (with_reducible replace d12 := of_decide_eq_true d12) | (with_reducible replace d12 := bnt d12; try (with_reducible replace d12 := of_decide_eq_false d12)) | skip
        have hz1 : True := trivial
        refine OW_no rfl rfl rfl rfl c12 ?_
        refine OW_no rfl rfl rfl rfl c12 ?_
        refine OW_ev (Ev_pickb_t rfl rfl c12 rfl) rfl ?_
        refine OW_nil ?_
        refine CW_cond_t rfl rfl ?_
        refine CW_seq ?_
        refine CW_re [(6, .bool _), (9, .slice _ _ _), (10, .int _ _), (13, .slice _ _ _), (14, .int _ _)] ⟨rfl, rfl, rfl, rfl, rfl, trivial⟩ (fun g => ?_)
        refine CW_reg rfl ?_
        refine OW_st rfl (Stp_call ent_6 rfl rfl rfl (merged_c _) ?_)
        rintro _ w13 ⟨E13, rfl⟩
        have Z13 := E13.size
        have hS := hS.keep0 E13
        have T := T.keep0 E13
        have B1 := B1.keep0 E13
        have B2 := B2.keep0 E13
        have hS1 := hS1.keep0 E13
        have hS2 := hS2.keep0 E13
        have hS3 := hS3.keep0 E13
        have hS4 := hS4.keep0 E13
        refine OW_ev (Ev_mvb (.inr rfl) rfl) rfl ?_
        refine OW_nil ?_
        refine CW_ret ?_
        refine ⟨rfl, _, (.tmp rfl .nil), ?_⟩
        exact ⟨T, rfl⟩
      · have d12 := c12
        first | (with_reducible replace d12 := of_decide_eq_false d12) | (with_reducible replace d12 := bnf d12; try (with_reducible replace d12 := of_decide_eq_true d12)) | skip
        have hz1 : (offer (ms.map RgM.r) x).2 = 0 := by first | exact d12 | omega
        refine OW_yes rfl rfl rfl rfl c12 (Ev.stp (Ev_mvi (.inl rfl) rfl) ?_)
        refine OW_yes rfl rfl rfl rfl c12 (Ev.stp (Ev_neq rfl rfl rfl) ?_)
        refine OW_ev (Ev_pickb_f rfl rfl c12 rfl) rfl ?_
        refine OW_nil ?_
        refine CW_cond rfl (fun c14 => ?_) (fun c14 => ?_)
        · have d14 := c14
          first | (with_reducible replace d14 := of_decide_eq_true d14) | (with_reducible replace d14 := bnt d14; try (with_reducible replace d14 := of_decide_eq_false d14)) | skip
          refine CW_seq ?_
          refine CW_re [(6, .bool _), (9, .slice _ _ _), (10, .int _ _), (13, .slice _ _ _), (14, .int _ _)] ⟨rfl, rfl, rfl, rfl, rfl, trivial⟩ (fun g => ?_)
          refine CW_reg rfl ?_
          refine OW_st rfl (Stp_call ent_6 rfl rfl rfl (merged_c _) ?_)
          rintro _ w15 ⟨E15, rfl⟩
          have Z15 := E15.size
          have hS := hS.keep0 E15
          have T := T.keep0 E15
          have B1 := B1.keep0 E15
          have B2 := B2.keep0 E15
          have hS1 := hS1.keep0 E15
          have hS2 := hS2.keep0 E15
          have hS3 := hS3.keep0 E15
          have hS4 := hS4.keep0 E15
          refine OW_ev (Ev_mvb (.inr rfl) rfl) rfl ?_
          refine OW_nil ?_
          refine CW_ret ?_
          refine ⟨rfl, _, (.tmp rfl .nil), ?_⟩
          exact ⟨T, rfl⟩
        · have d14 := c14
          first | (with_reducible replace d14 := of_decide_eq_false d14) | (with_reducible replace d14 := bnf d14; try (with_reducible replace d14 := of_decide_eq_true d14)) | skip
          have hz2 : (offer (ms.map RgM.r) y).2 = 0 := by first | exact d14 | omega
          have hc := offer_comm hpp hz1 hz2
          rw [← hr1, ← hr3] at hc
          refine CW_skip ?_
          refine CW_seq ?_
          refine CW_re [(6, .bool _), (9, .slice _ _ _), (10, .int _ _), (13, .slice _ _ _), (14, .int _ _)] ⟨rfl, rfl, rfl, rfl, rfl, trivial⟩ (fun g => ?_)
          refine CW_reg rfl ?_
          refine OW_st rfl (Stp_call ent_6 rfl rfl rfl (merged_c _) ?_)
          rintro _ w16 ⟨E16, rfl⟩
          have Z16 := E16.size
          have hS := hS.keep0 E16
          have T := T.keep0 E16
          have B1 := B1.keep0 E16
          have B2 := B2.keep0 E16
          have hS1 := hS1.keep0 E16
          have hS2 := hS2.keep0 E16
          have hS3 := hS3.keep0 E16
          have hS4 := hS4.keep0 E16
          refine OW_ev (Ev_mvb (.inl rfl) rfl) rfl ?_
          refine OW_split (d := .tmp 59) rfl (fun c17 => ?_) (fun c17 => ?_)
          · have d17 := c17
            first | (with_reducible replace d17 := of_decide_eq_true d17) | (with_reducible replace d17 := bnt d17; try (with_reducible replace d17 := of_decide_eq_false d17)) | skip
            refine OW_yes rfl rfl rfl rfl c17 (Ev.stp (Ev_mvi (.inl rfl) rfl) ?_)
            refine OW_yes rfl rfl rfl rfl c17 (Ev.stp (Ev_eql rfl rfl rfl) ?_)
            refine OW_ev (Ev_pickb_t rfl rfl c17 rfl) rfl ?_
            refine OW_ev (Ev_mvb (.inl rfl) rfl) rfl ?_
            refine OW_split (d := .tmp 63) rfl (fun c18 => ?_) (fun c18 => ?_)
            · have d18 := c18
              first | (with_reducible replace d18 := of_decide_eq_true d18) | (with_reducible replace d18 := bnt d18; try (with_reducible replace d18 := of_decide_eq_false d18)) | skip
              refine OW_yes rfl rfl rfl rfl c18 (Ev.stp (Ev_mvi (.inl rfl) rfl) ?_)
              refine OW_yes rfl rfl rfl rfl c18 (Ev.stp (Ev_eql rfl rfl rfl) ?_)
              refine OW_ev (Ev_pickb_t rfl rfl c18 rfl) rfl ?_
              refine OW_ev (Ev_mvb (.inl rfl) rfl) rfl ?_
              refine OW_split (d := .tmp 67) rfl (fun c19 => ?_) (fun c19 => ?_)
              · have d19 := c19
                first | (with_reducible replace d19 := of_decide_eq_true d19) | (with_reducible replace d19 := bnt d19; try (with_reducible replace d19 := of_decide_eq_false d19)) | skip
                refine OW_yes rfl rfl rfl rfl c19 (Ev.stp (Ev_mvs (.inl rfl) rfl) ?_)
                refine OW_yes rfl rfl rfl rfl c19 (Ev.stp (Ev_mvs (.inl rfl) rfl) ?_)
                refine OW_yes rfl rfl rfl rfl c19 (Stp_call ent_12 rfl rfl rfl (sameRs_c rfl rfl hS2 hS4 (by omega) (fun m hm => Nat.le_trans (hn2.2 m hm) (by decide))) ?_)
                rintro _ w20 ⟨E20, rfl⟩
                have Z20 := E20.size
                have hS := hS.keep0 E20
                have T := T.keep0 E20
                have B1 := B1.keep0 E20
                have B2 := B2.keep0 E20
                have hS1 := hS1.keep0 E20
                have hS2 := hS2.keep0 E20
                have hS3 := hS3.keep0 E20
                have hS4 := hS4.keep0 E20
                refine OW_ev (Ev_pickb_t rfl rfl c19 rfl) rfl ?_
                refine OW_ev (Ev_mvb (.inr rfl) rfl) rfl ?_
                refine OW_nil ?_
                refine CW_ret ?_
                refine ⟨rfl, _, (.tmp rfl .nil), ?_⟩
                exact ⟨T, vb rfl (decide_eq_true (hr2.trans (hc.2.2.trans hr4.symm)))⟩
              · have d19 := c19
                first | (with_reducible replace d19 := of_decide_eq_false d19) | (with_reducible replace d19 := bnf d19; try (with_reducible replace d19 := of_decide_eq_true d19)) | skip
                exact absurd hc.2.1 d19
            · have d18 := c18
              first | (with_reducible replace d18 := of_decide_eq_false d18) | (with_reducible replace d18 := bnf d18; try (with_reducible replace d18 := of_decide_eq_true d18)) | skip
              exact absurd hc.1 d18
          · have d17 := c17
            first | (with_reducible replace d17 := of_decide_eq_false d17) | (with_reducible replace d17 := bnf d17; try (with_reducible replace d17 := of_decide_eq_true d17)) | skip
            exact absurd d17 (by simp)

end Go.Proofs.Ytiedmigdgelhkaa