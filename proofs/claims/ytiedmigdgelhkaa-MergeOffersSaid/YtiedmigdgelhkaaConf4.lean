/- Contract of config.Check. -/
import Derived.Test.YtiedmigdgelhkaaTypes
import Derived.Test.YtiedmigdgelhkaaPlanData
import Derived.Test.YtiedmigdgelhkaaConf3
import Derived.Test.YtiedmigdgelhkaaLists
namespace Go.Proofs.Ytiedmigdgelhkaa
open Go Go.RowKit Bx Go.Proofs

theorem wrap_id {n : Int} (h : i64r n) : IntKind.i64.wrap n = n := by
  unfold i64r at h
  apply IntWalk.i64_in; omega
theorem checked_eq {p : Pln} {l0 l1 l2 l3 l4 : Lst} (hok : ∀ x ∈ p.ps, x.ok) (h0 : l0.many = 1) (h1 : l1.many = p.ps.length) (h2 : l2.many = p.ws.length) (h3 : l3.many = 1) (h4 : l4.many = p.cs.length)
    (s0 : ∀ j, j < l0.many → lstAt l0 j = if p.numBad = true then 2 else 0)
    (s1 : ∀ j, j < l1.many → lstAt l1 j = match p.ps[j]? with | none => 0 | some x => if bad1 p.mem x = true then 6 else if bad2 (p.ps.take j) x = true then 14 else if bad3 x = true then 2 else if bad4 x = true then 12 else 0)
    (s2 : ∀ j, j < l2.many → lstAt l2 j = match p.ws[j]? with | none => 0 | some x => if win1 p.ps.length x = true then 1 else if win2 x = true then 2 else 0)
    (s3 : ∀ j, j < l3.many → lstAt l3 j = if decide (p.drains = 0) = true then 7 else 0)
    (s4 : ∀ j, j < l4.many → lstAt l4 j = match p.cs[j]? with | none => 0 | some x => if ch1 x = true then 12 else if ch2 p.ps.length x = true then 1 else if ch3 x = true then 2 else 0) :
    firstErr (lstsAt [l0, l1, l2, l3, l4]) 5 = p.err := by
  have e0 : lstsAt [l0, l1, l2, l3, l4] 0 = if p.numBad = true then 2 else 0 := by
    show firstErr (lstAt l0) l0.many = _
    rw [h0]; show (if (0 : Int) ≠ 0 then _ else lstAt l0 0) = _
    rw [if_neg (by simp), s0 0 (by omega)]
  unfold Pln.err
  by_cases hn : p.numBad = true
  · rw [if_pos hn]
    have h := firstErr_at (g := lstsAt [l0, l1, l2, l3, l4]) (k := 0) (n := 5) rfl (by rw [e0, if_pos hn]; omega) (by omega)
    rw [h, e0, if_pos hn]
  · rw [if_neg hn]
    rw [if_neg hn] at e0
    have hnb := hn
    simp only [Pln.numBad, decide_eq_true_eq] at hnb
    have e1 : lstsAt [l0, l1, l2, l3, l4] 1 = firstErr p.partAt p.ps.length := by
      show firstErr (lstAt l1) l1.many = _
      rw [h1]
      refine firstErr_eq fun k hk => ?_
      rw [s1 k (by omega)]
      unfold Pln.partAt
      cases hx : p.ps[k]? with
      | none => rfl
      | some x =>
        have hxo := hok x (List.mem_of_getElem? hx)
        have q1 : bad1 p.mem x = decide (x.base < 0 ∨ x.size < 1 ∨ p.mem < x.base + x.size) := by
          unfold bad1
          refine decide_eq_decide.2 ?_
          by_cases hb : x.base < 0
          · exact ⟨fun _ => .inl hb, fun _ => .inl hb⟩
          · rw [wrap_id ⟨by have := hxo.1.2; omega, by have := hxo.1.2; omega⟩]; omega
        have q2 : bad2 (p.ps.take k) x = (p.ps.take k).any fun y => !apart x y := by
          unfold bad2
          congr 1
          funext y
          rw [apart_comm]
        simp only [q1, q2, bad3, bad4, partErr, decide_eq_true_eq]
        congr 1
        congr 1
        simp only [show (((x.code.length : Nat) : Int) < 1) ↔ (x.code.length < 1) by omega, show (256 < ((x.code.length : Nat) : Int)) ↔ (256 < x.code.length) by omega]
    have e2 : lstsAt [l0, l1, l2, l3, l4] 2 = firstErr p.winAt p.ws.length := by
      show firstErr (lstAt l2) l2.many = _
      rw [h2]
      refine firstErr_eq fun k hk => ?_
      rw [s2 k (by omega)]
      unfold Pln.winAt
      cases hx : p.ws[k]? with
      | none => rfl
      | some x => simp only [win1, win2, winErr, decide_eq_true_eq]
    have e3 : lstsAt [l0, l1, l2, l3, l4] 3 = if decide (p.drains = 0) = true then 7 else 0 := by
      show firstErr (lstAt l3) l3.many = _
      rw [h3]; show (if (0 : Int) ≠ 0 then _ else lstAt l3 0) = _
      rw [if_neg (by simp), s3 0 (by omega)]
    have e4 : lstsAt [l0, l1, l2, l3, l4] 4 = firstErr p.chanAt p.cs.length := by
      show firstErr (lstAt l4) l4.many = _
      rw [h4]
      refine firstErr_eq fun k hk => ?_
      rw [s4 k (by omega)]
      unfold Pln.chanAt
      cases hx : p.cs[k]? with
      | none => rfl
      | some x => simp only [ch1, ch2, ch3, chanErr, decide_eq_true_eq]
    have f1 : firstErr (lstsAt [l0, l1, l2, l3, l4]) 1 = 0 := firstErr_ok rfl e0
    by_cases c1 : firstErr p.partAt p.ps.length ≠ 0
    · rw [if_pos c1, firstErr_at f1 (by rw [e1]; exact c1) (by omega), e1]
    · rw [if_neg c1]
      have f2 := firstErr_ok f1 (e1.trans (Classical.not_not.1 c1))
      by_cases c2 : firstErr p.winAt p.ws.length ≠ 0
      · rw [if_pos c2, firstErr_at f2 (by rw [e2]; exact c2) (by omega), e2]
      · rw [if_neg c2]
        have f3 := firstErr_ok f2 (e2.trans (Classical.not_not.1 c2))
        have hw := firstErr_zero (Classical.not_not.1 c2)
        have hall : ∀ x ∈ p.ws, 1 ≤ x.2 := by
          intro x hx
          obtain ⟨i, hi⟩ := List.mem_iff_getElem?.1 hx
          have := hw i (List.getElem?_eq_some_iff.1 hi).1
          unfold Pln.winAt winErr at this
          rw [hi] at this
          simp only at this
          split at this
          · omega
          · split at this <;> omega
        have hd := ticksOf_zero (q := fun x => decide (x.1 = -1)) hall
        have hd2 : p.drains = 0 ↔ p.drained = false := hd
        by_cases c3 : p.drained = false
        · rw [if_pos c3]
          rw [if_pos (decide_eq_true (hd2.2 c3))] at e3
          rw [firstErr_at f3 (by rw [e3]; omega) (by omega), e3]
        · rw [if_neg c3]
          rw [if_neg (by rw [decide_eq_true_eq]; exact fun h => c3 (hd2.1 h))] at e3
          have f4 := firstErr_ok f3 e3
          show (if firstErr (lstsAt [l0, l1, l2, l3, l4]) 4 ≠ 0 then _ else lstsAt [l0, l1, l2, l3, l4] 4) = _
          rw [if_neg (by rw [f4]; simp), e4]

set_option maxRecDepth 10000 in
set_option maxHeartbeats 2000000 in
theorem check_c {F : Nat → Prop} {w : World} {p : PlnM} (hP : PlnS F w p) (hsm : p.ps.length ≤ 1000 ∧ p.ws.length ≤ 1000 ∧ p.cs.length ≤ 1000) : Calls Try.prog 24 #[.agg p.cl.toArray] w (Ret fun v w' => Kp0 w w' ∧ v = .int .i64 (p.r.err)) := by
  have hP := hP.old
  obtain ⟨NW, hNW⟩ : ∃ x, x = w.heap.size := ⟨_, rfl⟩
  rw [← hNW] at hP
  have T : Kp0 w w := Kp.refl _ _
  refine calls_start Try.func24 rfl (n := 56) rfl rfl rfl ?_
  refine CW_seq ?_
  refine CW_reg rfl ?_
  refine OW_st rfl (Stp_box (l := [.int _ _, .slice _ _ _, .slice _ _ _, .slice _ _ _]) rfl rfl rfl ?_)
  intro b1 w1 hb1 hz1 E1 B1
  have L1 : _ ≤ b1 := Nat.le_trans T.size (Nat.le_of_eq hb1.symm)
  have hP := hP.keep0 E1
  have T := T.keep0 E1
  replace B1 : Blk w1 b1 51 (p.cl) := B1
  refine OW_ev (Ev_c (.inr rfl)) rfl ?_
  refine OW_nil ?_
  refine CW_seq ?_
  refine CW_reg rfl ?_
  refine OW_st rfl (Stp_alloc zero_3 rfl ?_)
  intro b2 w2 hb2 hz2 E2 B2
  have L2 : _ ≤ b2 := Nat.le_trans T.size (Nat.le_of_eq hb2.symm)
  have hP := hP.keep0 E2
  have T := T.keep0 E2
  have B1 := B1.keep0 E2
  obtain ⟨bat, rfl⟩ : ∃ b, b = b2 := ⟨_, rfl⟩
  have hP := hP.mono (G := (fun b => b < NW ∧ b ≠ bat)) (fun b _ hb => by change b < _ at hb; exact ⟨hb, by omega⟩)
  obtain ⟨BA, hBA⟩ : ∃ (h : Blk w2 bat 3 [.int .i64 0]), True := ⟨B2, trivial⟩
  refine OW_st rfl (Stp_store (q := 0) (vs := [.int _ _]) BA siz_3 rfl rfl rfl rfl (Nat.le_of_ble_eq_true rfl) rfl ?_)
  intro w3 hz3 E3 B3
  have Z3 := E3.size
  have hP := hP.keepb E3 (fun h => h.2 rfl)
  have T := T.transb E3 (by omega)
  have B1 := B1.keepb E3 (by intro h; first | omega | (change _ < _ at h; omega) | (change _ ≤ _ at h; omega) | (have h1 := h.1; have h2 := h.2; first | omega | (change _ ≤ _ at h1; omega) | (change _ < _ at h1; omega)))
  clear BA
  have BA := B3
  clear B3
  have BA : Blk w3 bat 3 [.int .i64 0] := BA
  refine OW_nil ?_
  refine CW_seq ?_
  refine CW_join (fun f w0 => ∃ (l0 : Lst) (l1 : Lst) (l2 : Lst) (l3 : Lst) (l4 : Lst) (b4 : Nat), AllEq f [(3, .pointer (some ⟨bat, 0, none⟩)), (4, .pointer (some ⟨b4, 0, none⟩))] ∧ (Kp0 w w0) ∧ (bat < w0.heap.size) ∧ (b4 ≠ bat) ∧ (w.heap.size ≤ bat) ∧ (LstOK Try.prog 3 (fun b => b < w0.heap.size ∧ b ≠ bat) w0 bat l0) ∧ (l0.many = 1) ∧ (∀ j, j < l0.many → lstAt l0 j = if p.r.numBad = true then 2 else 0) ∧ (LstOK Try.prog 3 (fun b => b < w0.heap.size ∧ b ≠ bat) w0 bat l1) ∧ (l1.many = p.ps.length) ∧ (∀ j, j < l1.many → lstAt l1 j = match p.r.ps[j]? with | none => 0 | some x => if bad1 p.mem x = true then 6 else if bad2 (p.r.ps.take j) x = true then 14 else if bad3 x = true then 2 else if bad4 x = true then 12 else 0) ∧ (LstOK Try.prog 3 (fun b => b < w0.heap.size ∧ b ≠ bat) w0 bat l2) ∧ (l2.many = p.ws.length) ∧ (∀ j, j < l2.many → lstAt l2 j = match p.ws[j]? with | none => 0 | some x => if win1 p.ps.length x = true then 1 else if win2 x = true then 2 else 0) ∧ (LstOK Try.prog 3 (fun b => b < w0.heap.size ∧ b ≠ bat) w0 bat l3) ∧ (l3.many = 1) ∧ (∀ j, j < l3.many → lstAt l3 j = if decide (p.r.drains = 0) = true then 7 else 0) ∧ (LstOK Try.prog 3 (fun b => b < w0.heap.size ∧ b ≠ bat) w0 bat l4) ∧ (l4.many = p.cs.length) ∧ (∀ j, j < l4.many → lstAt l4 j = match p.cs[j]? with | none => 0 | some x => if ch1 x = true then 12 else if ch2 p.ps.length x = true then 1 else if ch3 x = true then 2 else 0) ∧ (Blk w0 b4 83 (List.map Lst.cl [l0, l1, l2, l3, l4]).flatten) ∧ (Blk w0 bat 3 [.int .i64 0])) ?_ ?_
  ·
    refine CW_draw (fun W => hP.here W ∧ B1.here W ∧ BA.here W) mixed rfl (fun _ _ _ h => nomatch h.1) ?_
    have E4 : Kp0 _ _ := Kp.drew w3 nob
    have Z4 : (World.drew w3).heap.size = w3.heap.size := rfl
    generalize World.drew w3 = w4 at E4 Z4 ⊢
    have hP := hP.keep0 E4
    have T := T.keep0 E4
    have B1 := B1.keep0 E4
    have BA := BA.keep0 E4
    refine AW_take 0 rfl rfl (by decide +kernel) (by decide +kernel) (by decide +kernel) (fun w ⟨hP, B1, BA⟩ => Ev_loadAgg (l := [.int _ _, .slice _ _ _, .slice _ _ _, .slice _ _ _]) agg_51 rfl rfl (B1.sub 0 4 (Nat.le_of_ble_eq_true rfl)) rfl) ⟨hP, B1, BA⟩ ?_
    refine AW_take 2 rfl rfl (by decide +kernel) (by decide +kernel) (by decide +kernel) (fun w ⟨hP, B1, BA⟩ => Ev_loadAgg (l := [.int _ _, .slice _ _ _, .slice _ _ _, .slice _ _ _]) agg_51 rfl rfl (B1.sub 0 4 (Nat.le_of_ble_eq_true rfl)) rfl) ⟨hP, B1, BA⟩ ?_
    refine AW_take 4 rfl rfl (by decide +kernel) (by decide +kernel) (by decide +kernel) (fun w ⟨hP, B1, BA⟩ => Ev_loadAgg (l := [.int _ _, .slice _ _ _, .slice _ _ _, .slice _ _ _]) agg_51 rfl rfl (B1.sub 0 4 (Nat.le_of_ble_eq_true rfl)) rfl) ⟨hP, B1, BA⟩ ?_
    refine AW_take 6 rfl rfl (by decide +kernel) (by decide +kernel) (by decide +kernel) (fun w ⟨hP, B1, BA⟩ => Ev_loadAgg (l := [.int _ _, .slice _ _ _, .slice _ _ _, .slice _ _ _]) agg_51 rfl rfl (B1.sub 0 4 (Nat.le_of_ble_eq_true rfl)) rfl) ⟨hP, B1, BA⟩ ?_
    refine AW_take 8 rfl rfl (by decide +kernel) (by decide +kernel) (by decide +kernel) (fun w ⟨hP, B1, BA⟩ => Ev_loadAgg (l := [.int _ _, .slice _ _ _, .slice _ _ _, .slice _ _ _]) agg_51 rfl rfl (B1.sub 0 4 (Nat.le_of_ble_eq_true rfl)) rfl) ⟨hP, B1, BA⟩ ?_
    refine AW_two 1 11 (by decide +kernel) (Next.mk rfl rfl ?_) (Next.mk rfl rfl ?_)
    ·
      refine Stp_call ent_38 rfl rfl rfl (numbers_c hP (fun b hb => ⟨by have := hb.1; omega, hb.2⟩) hsm (by omega)) ?_
      rintro _ w5 ⟨E5, l0, rfl, H0, hm0, hs0⟩
      have Z5 := E5.size
      have hP := hP.keep0 E5
      have T := T.keep0 E5
      have B1 := B1.keep0 E5
      have BA := BA.keep0 E5
      skip
      refine ⟨⟨hP, B1, BA⟩, ?_⟩
      refine AW_two 3 11 (by decide +kernel) (Next.mk rfl rfl ?_) (Next.mk rfl rfl ?_)
      ·
        refine Stp_call ent_39 rfl rfl rfl (parts_c hP (fun b hb => ⟨by have := hb.1; omega, hb.2⟩) hsm (by omega)) ?_
        rintro _ w6 ⟨E6, l1, rfl, H1, hm1, hs1⟩
        have Z6 := E6.size
        have hP := hP.keep0 E6
        have T := T.keep0 E6
        have B1 := B1.keep0 E6
        have BA := BA.keep0 E6
        have H0 := H0.keep0 E6
        skip
        refine ⟨⟨hP, B1, BA⟩, ?_⟩
        refine AW_two 5 11 (by decide +kernel) (Next.mk rfl rfl ?_) (Next.mk rfl rfl ?_)
        ·
          refine Stp_call ent_40 rfl rfl rfl (windows_c hP (fun b hb => ⟨by have := hb.1; omega, hb.2⟩) hsm (by omega)) ?_
          rintro _ w7 ⟨E7, l2, rfl, H2, hm2, hs2⟩
          have Z7 := E7.size
          have hP := hP.keep0 E7
          have T := T.keep0 E7
          have B1 := B1.keep0 E7
          have BA := BA.keep0 E7
          have H0 := H0.keep0 E7
          have H1 := H1.keep0 E7
          skip
          refine ⟨⟨hP, B1, BA⟩, ?_⟩
          refine AW_two 7 11 (by decide +kernel) (Next.mk rfl rfl ?_) (Next.mk rfl rfl ?_)
          ·
            refine Stp_call ent_41 rfl rfl rfl (trace_c hP (fun b hb => ⟨by have := hb.1; omega, hb.2⟩) hsm (by omega)) ?_
            rintro _ w8 ⟨E8, l3, rfl, H3, hm3, hs3⟩
            have Z8 := E8.size
            have hP := hP.keep0 E8
            have T := T.keep0 E8
            have B1 := B1.keep0 E8
            have BA := BA.keep0 E8
            have H0 := H0.keep0 E8
            have H1 := H1.keep0 E8
            have H2 := H2.keep0 E8
            skip
            refine ⟨⟨hP, B1, BA⟩, ?_⟩
            refine AW_two 9 11 (by decide +kernel) (Next.mk rfl rfl ?_) (Next.mk rfl rfl ?_)
            ·
              refine Stp_call ent_42 rfl rfl rfl (channels_c hP (fun b hb => ⟨by have := hb.1; omega, hb.2⟩) hsm (by omega)) ?_
              rintro _ w9 ⟨E9, l4, rfl, H4, hm4, hs4⟩
              have Z9 := E9.size
              have hP := hP.keep0 E9
              have T := T.keep0 E9
              have B1 := B1.keep0 E9
              have BA := BA.keep0 E9
              have H0 := H0.keep0 E9
              have H1 := H1.keep0 E9
              have H2 := H2.keep0 E9
              have H3 := H3.keep0 E9
              skip
              refine ⟨⟨hP, B1, BA⟩, ?_⟩
              refine AW_take 10 rfl rfl (by decide +kernel) (by decide +kernel) (by decide +kernel) (fun w ⟨hP, B1, BA⟩ => Ev_buildArr (l := List.flatten (List.map Lst.cl [l0, l1, l2, l3, l4])) arr_83 zero_83 rfl rfl rfl) ⟨hP, B1, BA⟩ ?_
              refine AW_one 11 (by decide +kernel) (Next.mk rfl rfl ?_)
              refine Stp_alloc zero_83 rfl ?_
              intro b10 w10 hb10 hz10 E10 B10
              have L10 : _ ≤ b10 := Nat.le_trans T.size (Nat.le_of_eq hb10.symm)
              have hP := hP.keep0 E10
              have T := T.keep0 E10
              have B1 := B1.keep0 E10
              have BA := BA.keep0 E10
              have H0 := H0.keep0 E10
              have H1 := H1.keep0 E10
              have H2 := H2.keep0 E10
              have H3 := H3.keep0 E10
              have H4 := H4.keep0 E10
              obtain ⟨b4, rfl⟩ : ∃ b, b = b10 := ⟨_, rfl⟩
              have B4 := B10
              have hb4e := hb10
              have hz4e := hz10
              refine ⟨⟨hP, B1, BA⟩, ?_⟩
              refine AW_one 12 (by decide +kernel) (Next.mk rfl rfl ?_)
              refine Stp_store (q := 0) B4 siz_83 rfl rfl rfl rfl (Nat.le_of_ble_eq_true rfl) rfl ?_
              intro w11 hz11 E11 B11
              have Z11 := E11.size
              have hP := hP.keepb E11 (fun h => by have := h.1; omega)
              have T := T.transb E11 (by omega)
              have B1 := B1.keepb E11 (by intro h; first | omega | (change _ < _ at h; omega) | (change _ ≤ _ at h; omega) | (have h1 := h.1; have h2 := h.2; first | omega | (change _ ≤ _ at h1; omega) | (change _ < _ at h1; omega)))
              have BA := BA.keepb E11 (by intro h; first | omega | (change _ < _ at h; omega) | (change _ ≤ _ at h; omega) | (have h1 := h.1; have h2 := h.2; first | omega | (change _ ≤ _ at h1; omega) | (change _ < _ at h1; omega)))
              have H0 := H0.keepb E11 (fun h => by rcases h with h | h; (have := h.1; omega); omega)
              have H1 := H1.keepb E11 (fun h => by rcases h with h | h; (have := h.1; omega); omega)
              have H2 := H2.keepb E11 (fun h => by rcases h with h | h; (have := h.1; omega); omega)
              have H3 := H3.keepb E11 (fun h => by rcases h with h | h; (have := h.1; omega); omega)
              have H4 := H4.keepb E11 (fun h => by rcases h with h | h; (have := h.1; omega); omega)
              clear B4
              have B4 := B11
              clear B11
              have B4 : Blk w11 b4 83 (List.map Lst.cl [l0, l1, l2, l3, l4]).flatten := B4
              refine ⟨⟨hP, B1, BA⟩, ?_⟩
              refine AW_done (by decide +kernel) ?_
              exact ⟨l0, l1, l2, l3, l4, b4, ⟨rfl, rfl, trivial⟩, T, by omega, by omega, by omega, (H0.up (fun b hb => by rcases hb with h | h; (have := h.1; exact ⟨by omega, h.2⟩); exact ⟨by omega, by omega⟩) (fun b hb => hb)), hm0, hs0, (H1.up (fun b hb => by rcases hb with h | h; (have := h.1; exact ⟨by omega, h.2⟩); exact ⟨by omega, by omega⟩) (fun b hb => hb)), hm1, hs1, (H2.up (fun b hb => by rcases hb with h | h; (have := h.1; exact ⟨by omega, h.2⟩); exact ⟨by omega, by omega⟩) (fun b hb => hb)), hm2, hs2, (H3.up (fun b hb => by rcases hb with h | h; (have := h.1; exact ⟨by omega, h.2⟩); exact ⟨by omega, by omega⟩) (fun b hb => hb)), hm3, hs3, (H4.up (fun b hb => by rcases hb with h | h; (have := h.1; exact ⟨by omega, h.2⟩); exact ⟨by omega, by omega⟩) (fun b hb => hb)), hm4, hs4, B4, BA⟩
            ·
              refine Stp_alloc zero_83 rfl ?_
              intro b12 w12 hb12 hz12 E12 B12
              have L12 : _ ≤ b12 := Nat.le_trans T.size (Nat.le_of_eq hb12.symm)
              have hP := hP.keep0 E12
              have T := T.keep0 E12
              have B1 := B1.keep0 E12
              have BA := BA.keep0 E12
              have H0 := H0.keep0 E12
              have H1 := H1.keep0 E12
              have H2 := H2.keep0 E12
              have H3 := H3.keep0 E12
              obtain ⟨b4, rfl⟩ : ∃ b, b = b12 := ⟨_, rfl⟩
              have B4 := B12
              have hb4e := hb12
              have hz4e := hz12
              refine ⟨⟨hP, B1, BA⟩, ?_⟩
              refine AW_one 9 (by decide +kernel) (Next.mk rfl rfl ?_)
              refine Stp_call ent_42 rfl rfl rfl (channels_c hP (fun b hb => ⟨by have := hb.1; omega, hb.2⟩) hsm (by omega)) ?_
              rintro _ w13 ⟨E13, l4, rfl, H4, hm4, hs4⟩
              have Z13 := E13.size
              have hP := hP.keep0 E13
              have T := T.keep0 E13
              have B1 := B1.keep0 E13
              have BA := BA.keep0 E13
              have H0 := H0.keep0 E13
              have H1 := H1.keep0 E13
              have H2 := H2.keep0 E13
              have H3 := H3.keep0 E13
              have B4 := B4.keep0 E13
              skip
              refine ⟨⟨hP, B1, BA⟩, ?_⟩
              refine AW_take 10 rfl rfl (by decide +kernel) (by decide +kernel) (by decide +kernel) (fun w ⟨hP, B1, BA⟩ => Ev_buildArr (l := List.flatten (List.map Lst.cl [l0, l1, l2, l3, l4])) arr_83 zero_83 rfl rfl rfl) ⟨hP, B1, BA⟩ ?_
              refine AW_one 12 (by decide +kernel) (Next.mk rfl rfl ?_)
              refine Stp_store (q := 0) B4 siz_83 rfl rfl rfl rfl (Nat.le_of_ble_eq_true rfl) rfl ?_
              intro w14 hz14 E14 B14
              have Z14 := E14.size
              have hP := hP.keepb E14 (fun h => by have := h.1; omega)
              have T := T.transb E14 (by omega)
              have B1 := B1.keepb E14 (by intro h; first | omega | (change _ < _ at h; omega) | (change _ ≤ _ at h; omega) | (have h1 := h.1; have h2 := h.2; first | omega | (change _ ≤ _ at h1; omega) | (change _ < _ at h1; omega)))
              have BA := BA.keepb E14 (by intro h; first | omega | (change _ < _ at h; omega) | (change _ ≤ _ at h; omega) | (have h1 := h.1; have h2 := h.2; first | omega | (change _ ≤ _ at h1; omega) | (change _ < _ at h1; omega)))
              have H0 := H0.keepb E14 (fun h => by rcases h with h | h; (have := h.1; omega); omega)
              have H1 := H1.keepb E14 (fun h => by rcases h with h | h; (have := h.1; omega); omega)
              have H2 := H2.keepb E14 (fun h => by rcases h with h | h; (have := h.1; omega); omega)
              have H3 := H3.keepb E14 (fun h => by rcases h with h | h; (have := h.1; omega); omega)
              have H4 := H4.keepb E14 (fun h => by rcases h with h | h; (have := h.1; omega); omega)
              clear B4
              have B4 := B14
              clear B14
              have B4 : Blk w14 b4 83 (List.map Lst.cl [l0, l1, l2, l3, l4]).flatten := B4
              refine ⟨⟨hP, B1, BA⟩, ?_⟩
              refine AW_done (by decide +kernel) ?_
              exact ⟨l0, l1, l2, l3, l4, b4, ⟨rfl, rfl, trivial⟩, T, by omega, by omega, by omega, (H0.up (fun b hb => by rcases hb with h | h; (have := h.1; exact ⟨by omega, h.2⟩); exact ⟨by omega, by omega⟩) (fun b hb => hb)), hm0, hs0, (H1.up (fun b hb => by rcases hb with h | h; (have := h.1; exact ⟨by omega, h.2⟩); exact ⟨by omega, by omega⟩) (fun b hb => hb)), hm1, hs1, (H2.up (fun b hb => by rcases hb with h | h; (have := h.1; exact ⟨by omega, h.2⟩); exact ⟨by omega, by omega⟩) (fun b hb => hb)), hm2, hs2, (H3.up (fun b hb => by rcases hb with h | h; (have := h.1; exact ⟨by omega, h.2⟩); exact ⟨by omega, by omega⟩) (fun b hb => hb)), hm3, hs3, (H4.up (fun b hb => by rcases hb with h | h; (have := h.1; exact ⟨by omega, h.2⟩); exact ⟨by omega, by omega⟩) (fun b hb => hb)), hm4, hs4, B4, BA⟩
          ·
            refine Stp_alloc zero_83 rfl ?_
            intro b15 w15 hb15 hz15 E15 B15
            have L15 : _ ≤ b15 := Nat.le_trans T.size (Nat.le_of_eq hb15.symm)
            have hP := hP.keep0 E15
            have T := T.keep0 E15
            have B1 := B1.keep0 E15
            have BA := BA.keep0 E15
            have H0 := H0.keep0 E15
            have H1 := H1.keep0 E15
            have H2 := H2.keep0 E15
            obtain ⟨b4, rfl⟩ : ∃ b, b = b15 := ⟨_, rfl⟩
            have B4 := B15
            have hb4e := hb15
            have hz4e := hz15
            refine ⟨⟨hP, B1, BA⟩, ?_⟩
            refine AW_one 7 (by decide +kernel) (Next.mk rfl rfl ?_)
            refine Stp_call ent_41 rfl rfl rfl (trace_c hP (fun b hb => ⟨by have := hb.1; omega, hb.2⟩) hsm (by omega)) ?_
            rintro _ w16 ⟨E16, l3, rfl, H3, hm3, hs3⟩
            have Z16 := E16.size
            have hP := hP.keep0 E16
            have T := T.keep0 E16
            have B1 := B1.keep0 E16
            have BA := BA.keep0 E16
            have H0 := H0.keep0 E16
            have H1 := H1.keep0 E16
            have H2 := H2.keep0 E16
            have B4 := B4.keep0 E16
            skip
            refine ⟨⟨hP, B1, BA⟩, ?_⟩
            refine AW_one 9 (by decide +kernel) (Next.mk rfl rfl ?_)
            refine Stp_call ent_42 rfl rfl rfl (channels_c hP (fun b hb => ⟨by have := hb.1; omega, hb.2⟩) hsm (by omega)) ?_
            rintro _ w17 ⟨E17, l4, rfl, H4, hm4, hs4⟩
            have Z17 := E17.size
            have hP := hP.keep0 E17
            have T := T.keep0 E17
            have B1 := B1.keep0 E17
            have BA := BA.keep0 E17
            have H0 := H0.keep0 E17
            have H1 := H1.keep0 E17
            have H2 := H2.keep0 E17
            have B4 := B4.keep0 E17
            have H3 := H3.keep0 E17
            skip
            refine ⟨⟨hP, B1, BA⟩, ?_⟩
            refine AW_take 10 rfl rfl (by decide +kernel) (by decide +kernel) (by decide +kernel) (fun w ⟨hP, B1, BA⟩ => Ev_buildArr (l := List.flatten (List.map Lst.cl [l0, l1, l2, l3, l4])) arr_83 zero_83 rfl rfl rfl) ⟨hP, B1, BA⟩ ?_
            refine AW_one 12 (by decide +kernel) (Next.mk rfl rfl ?_)
            refine Stp_store (q := 0) B4 siz_83 rfl rfl rfl rfl (Nat.le_of_ble_eq_true rfl) rfl ?_
            intro w18 hz18 E18 B18
            have Z18 := E18.size
            have hP := hP.keepb E18 (fun h => by have := h.1; omega)
            have T := T.transb E18 (by omega)
            have B1 := B1.keepb E18 (by intro h; first | omega | (change _ < _ at h; omega) | (change _ ≤ _ at h; omega) | (have h1 := h.1; have h2 := h.2; first | omega | (change _ ≤ _ at h1; omega) | (change _ < _ at h1; omega)))
            have BA := BA.keepb E18 (by intro h; first | omega | (change _ < _ at h; omega) | (change _ ≤ _ at h; omega) | (have h1 := h.1; have h2 := h.2; first | omega | (change _ ≤ _ at h1; omega) | (change _ < _ at h1; omega)))
            have H0 := H0.keepb E18 (fun h => by rcases h with h | h; (have := h.1; omega); omega)
            have H1 := H1.keepb E18 (fun h => by rcases h with h | h; (have := h.1; omega); omega)
            have H2 := H2.keepb E18 (fun h => by rcases h with h | h; (have := h.1; omega); omega)
            have H3 := H3.keepb E18 (fun h => by rcases h with h | h; (have := h.1; omega); omega)
            have H4 := H4.keepb E18 (fun h => by rcases h with h | h; (have := h.1; omega); omega)
            clear B4
            have B4 := B18
            clear B18
            have B4 : Blk w18 b4 83 (List.map Lst.cl [l0, l1, l2, l3, l4]).flatten := B4
            refine ⟨⟨hP, B1, BA⟩, ?_⟩
            refine AW_done (by decide +kernel) ?_
            exact ⟨l0, l1, l2, l3, l4, b4, ⟨rfl, rfl, trivial⟩, T, by omega, by omega, by omega, (H0.up (fun b hb => by rcases hb with h | h; (have := h.1; exact ⟨by omega, h.2⟩); exact ⟨by omega, by omega⟩) (fun b hb => hb)), hm0, hs0, (H1.up (fun b hb => by rcases hb with h | h; (have := h.1; exact ⟨by omega, h.2⟩); exact ⟨by omega, by omega⟩) (fun b hb => hb)), hm1, hs1, (H2.up (fun b hb => by rcases hb with h | h; (have := h.1; exact ⟨by omega, h.2⟩); exact ⟨by omega, by omega⟩) (fun b hb => hb)), hm2, hs2, (H3.up (fun b hb => by rcases hb with h | h; (have := h.1; exact ⟨by omega, h.2⟩); exact ⟨by omega, by omega⟩) (fun b hb => hb)), hm3, hs3, (H4.up (fun b hb => by rcases hb with h | h; (have := h.1; exact ⟨by omega, h.2⟩); exact ⟨by omega, by omega⟩) (fun b hb => hb)), hm4, hs4, B4, BA⟩
        ·
          refine Stp_alloc zero_83 rfl ?_
          intro b19 w19 hb19 hz19 E19 B19
          have L19 : _ ≤ b19 := Nat.le_trans T.size (Nat.le_of_eq hb19.symm)
          have hP := hP.keep0 E19
          have T := T.keep0 E19
          have B1 := B1.keep0 E19
          have BA := BA.keep0 E19
          have H0 := H0.keep0 E19
          have H1 := H1.keep0 E19
          obtain ⟨b4, rfl⟩ : ∃ b, b = b19 := ⟨_, rfl⟩
          have B4 := B19
          have hb4e := hb19
          have hz4e := hz19
          refine ⟨⟨hP, B1, BA⟩, ?_⟩
          refine AW_one 5 (by decide +kernel) (Next.mk rfl rfl ?_)
          refine Stp_call ent_40 rfl rfl rfl (windows_c hP (fun b hb => ⟨by have := hb.1; omega, hb.2⟩) hsm (by omega)) ?_
          rintro _ w20 ⟨E20, l2, rfl, H2, hm2, hs2⟩
          have Z20 := E20.size
          have hP := hP.keep0 E20
          have T := T.keep0 E20
          have B1 := B1.keep0 E20
          have BA := BA.keep0 E20
          have H0 := H0.keep0 E20
          have H1 := H1.keep0 E20
          have B4 := B4.keep0 E20
          skip
          refine ⟨⟨hP, B1, BA⟩, ?_⟩
          refine AW_one 7 (by decide +kernel) (Next.mk rfl rfl ?_)
          refine Stp_call ent_41 rfl rfl rfl (trace_c hP (fun b hb => ⟨by have := hb.1; omega, hb.2⟩) hsm (by omega)) ?_
          rintro _ w21 ⟨E21, l3, rfl, H3, hm3, hs3⟩
          have Z21 := E21.size
          have hP := hP.keep0 E21
          have T := T.keep0 E21
          have B1 := B1.keep0 E21
          have BA := BA.keep0 E21
          have H0 := H0.keep0 E21
          have H1 := H1.keep0 E21
          have B4 := B4.keep0 E21
          have H2 := H2.keep0 E21
          skip
          refine ⟨⟨hP, B1, BA⟩, ?_⟩
          refine AW_one 9 (by decide +kernel) (Next.mk rfl rfl ?_)
          refine Stp_call ent_42 rfl rfl rfl (channels_c hP (fun b hb => ⟨by have := hb.1; omega, hb.2⟩) hsm (by omega)) ?_
          rintro _ w22 ⟨E22, l4, rfl, H4, hm4, hs4⟩
          have Z22 := E22.size
          have hP := hP.keep0 E22
          have T := T.keep0 E22
          have B1 := B1.keep0 E22
          have BA := BA.keep0 E22
          have H0 := H0.keep0 E22
          have H1 := H1.keep0 E22
          have B4 := B4.keep0 E22
          have H2 := H2.keep0 E22
          have H3 := H3.keep0 E22
          skip
          refine ⟨⟨hP, B1, BA⟩, ?_⟩
          refine AW_take 10 rfl rfl (by decide +kernel) (by decide +kernel) (by decide +kernel) (fun w ⟨hP, B1, BA⟩ => Ev_buildArr (l := List.flatten (List.map Lst.cl [l0, l1, l2, l3, l4])) arr_83 zero_83 rfl rfl rfl) ⟨hP, B1, BA⟩ ?_
          refine AW_one 12 (by decide +kernel) (Next.mk rfl rfl ?_)
          refine Stp_store (q := 0) B4 siz_83 rfl rfl rfl rfl (Nat.le_of_ble_eq_true rfl) rfl ?_
          intro w23 hz23 E23 B23
          have Z23 := E23.size
          have hP := hP.keepb E23 (fun h => by have := h.1; omega)
          have T := T.transb E23 (by omega)
          have B1 := B1.keepb E23 (by intro h; first | omega | (change _ < _ at h; omega) | (change _ ≤ _ at h; omega) | (have h1 := h.1; have h2 := h.2; first | omega | (change _ ≤ _ at h1; omega) | (change _ < _ at h1; omega)))
          have BA := BA.keepb E23 (by intro h; first | omega | (change _ < _ at h; omega) | (change _ ≤ _ at h; omega) | (have h1 := h.1; have h2 := h.2; first | omega | (change _ ≤ _ at h1; omega) | (change _ < _ at h1; omega)))
          have H0 := H0.keepb E23 (fun h => by rcases h with h | h; (have := h.1; omega); omega)
          have H1 := H1.keepb E23 (fun h => by rcases h with h | h; (have := h.1; omega); omega)
          have H2 := H2.keepb E23 (fun h => by rcases h with h | h; (have := h.1; omega); omega)
          have H3 := H3.keepb E23 (fun h => by rcases h with h | h; (have := h.1; omega); omega)
          have H4 := H4.keepb E23 (fun h => by rcases h with h | h; (have := h.1; omega); omega)
          clear B4
          have B4 := B23
          clear B23
          have B4 : Blk w23 b4 83 (List.map Lst.cl [l0, l1, l2, l3, l4]).flatten := B4
          refine ⟨⟨hP, B1, BA⟩, ?_⟩
          refine AW_done (by decide +kernel) ?_
          exact ⟨l0, l1, l2, l3, l4, b4, ⟨rfl, rfl, trivial⟩, T, by omega, by omega, by omega, (H0.up (fun b hb => by rcases hb with h | h; (have := h.1; exact ⟨by omega, h.2⟩); exact ⟨by omega, by omega⟩) (fun b hb => hb)), hm0, hs0, (H1.up (fun b hb => by rcases hb with h | h; (have := h.1; exact ⟨by omega, h.2⟩); exact ⟨by omega, by omega⟩) (fun b hb => hb)), hm1, hs1, (H2.up (fun b hb => by rcases hb with h | h; (have := h.1; exact ⟨by omega, h.2⟩); exact ⟨by omega, by omega⟩) (fun b hb => hb)), hm2, hs2, (H3.up (fun b hb => by rcases hb with h | h; (have := h.1; exact ⟨by omega, h.2⟩); exact ⟨by omega, by omega⟩) (fun b hb => hb)), hm3, hs3, (H4.up (fun b hb => by rcases hb with h | h; (have := h.1; exact ⟨by omega, h.2⟩); exact ⟨by omega, by omega⟩) (fun b hb => hb)), hm4, hs4, B4, BA⟩
      ·
        refine Stp_alloc zero_83 rfl ?_
        intro b24 w24 hb24 hz24 E24 B24
        have L24 : _ ≤ b24 := Nat.le_trans T.size (Nat.le_of_eq hb24.symm)
        have hP := hP.keep0 E24
        have T := T.keep0 E24
        have B1 := B1.keep0 E24
        have BA := BA.keep0 E24
        have H0 := H0.keep0 E24
        obtain ⟨b4, rfl⟩ : ∃ b, b = b24 := ⟨_, rfl⟩
        have B4 := B24
        have hb4e := hb24
        have hz4e := hz24
        refine ⟨⟨hP, B1, BA⟩, ?_⟩
        refine AW_one 3 (by decide +kernel) (Next.mk rfl rfl ?_)
        refine Stp_call ent_39 rfl rfl rfl (parts_c hP (fun b hb => ⟨by have := hb.1; omega, hb.2⟩) hsm (by omega)) ?_
        rintro _ w25 ⟨E25, l1, rfl, H1, hm1, hs1⟩
        have Z25 := E25.size
        have hP := hP.keep0 E25
        have T := T.keep0 E25
        have B1 := B1.keep0 E25
        have BA := BA.keep0 E25
        have H0 := H0.keep0 E25
        have B4 := B4.keep0 E25
        skip
        refine ⟨⟨hP, B1, BA⟩, ?_⟩
        refine AW_one 5 (by decide +kernel) (Next.mk rfl rfl ?_)
        refine Stp_call ent_40 rfl rfl rfl (windows_c hP (fun b hb => ⟨by have := hb.1; omega, hb.2⟩) hsm (by omega)) ?_
        rintro _ w26 ⟨E26, l2, rfl, H2, hm2, hs2⟩
        have Z26 := E26.size
        have hP := hP.keep0 E26
        have T := T.keep0 E26
        have B1 := B1.keep0 E26
        have BA := BA.keep0 E26
        have H0 := H0.keep0 E26
        have B4 := B4.keep0 E26
        have H1 := H1.keep0 E26
        skip
        refine ⟨⟨hP, B1, BA⟩, ?_⟩
        refine AW_one 7 (by decide +kernel) (Next.mk rfl rfl ?_)
        refine Stp_call ent_41 rfl rfl rfl (trace_c hP (fun b hb => ⟨by have := hb.1; omega, hb.2⟩) hsm (by omega)) ?_
        rintro _ w27 ⟨E27, l3, rfl, H3, hm3, hs3⟩
        have Z27 := E27.size
        have hP := hP.keep0 E27
        have T := T.keep0 E27
        have B1 := B1.keep0 E27
        have BA := BA.keep0 E27
        have H0 := H0.keep0 E27
        have B4 := B4.keep0 E27
        have H1 := H1.keep0 E27
        have H2 := H2.keep0 E27
        skip
        refine ⟨⟨hP, B1, BA⟩, ?_⟩
        refine AW_one 9 (by decide +kernel) (Next.mk rfl rfl ?_)
        refine Stp_call ent_42 rfl rfl rfl (channels_c hP (fun b hb => ⟨by have := hb.1; omega, hb.2⟩) hsm (by omega)) ?_
        rintro _ w28 ⟨E28, l4, rfl, H4, hm4, hs4⟩
        have Z28 := E28.size
        have hP := hP.keep0 E28
        have T := T.keep0 E28
        have B1 := B1.keep0 E28
        have BA := BA.keep0 E28
        have H0 := H0.keep0 E28
        have B4 := B4.keep0 E28
        have H1 := H1.keep0 E28
        have H2 := H2.keep0 E28
        have H3 := H3.keep0 E28
        skip
        refine ⟨⟨hP, B1, BA⟩, ?_⟩
        refine AW_take 10 rfl rfl (by decide +kernel) (by decide +kernel) (by decide +kernel) (fun w ⟨hP, B1, BA⟩ => Ev_buildArr (l := List.flatten (List.map Lst.cl [l0, l1, l2, l3, l4])) arr_83 zero_83 rfl rfl rfl) ⟨hP, B1, BA⟩ ?_
        refine AW_one 12 (by decide +kernel) (Next.mk rfl rfl ?_)
        refine Stp_store (q := 0) B4 siz_83 rfl rfl rfl rfl (Nat.le_of_ble_eq_true rfl) rfl ?_
        intro w29 hz29 E29 B29
        have Z29 := E29.size
        have hP := hP.keepb E29 (fun h => by have := h.1; omega)
        have T := T.transb E29 (by omega)
        have B1 := B1.keepb E29 (by intro h; first | omega | (change _ < _ at h; omega) | (change _ ≤ _ at h; omega) | (have h1 := h.1; have h2 := h.2; first | omega | (change _ ≤ _ at h1; omega) | (change _ < _ at h1; omega)))
        have BA := BA.keepb E29 (by intro h; first | omega | (change _ < _ at h; omega) | (change _ ≤ _ at h; omega) | (have h1 := h.1; have h2 := h.2; first | omega | (change _ ≤ _ at h1; omega) | (change _ < _ at h1; omega)))
        have H0 := H0.keepb E29 (fun h => by rcases h with h | h; (have := h.1; omega); omega)
        have H1 := H1.keepb E29 (fun h => by rcases h with h | h; (have := h.1; omega); omega)
        have H2 := H2.keepb E29 (fun h => by rcases h with h | h; (have := h.1; omega); omega)
        have H3 := H3.keepb E29 (fun h => by rcases h with h | h; (have := h.1; omega); omega)
        have H4 := H4.keepb E29 (fun h => by rcases h with h | h; (have := h.1; omega); omega)
        clear B4
        have B4 := B29
        clear B29
        have B4 : Blk w29 b4 83 (List.map Lst.cl [l0, l1, l2, l3, l4]).flatten := B4
        refine ⟨⟨hP, B1, BA⟩, ?_⟩
        refine AW_done (by decide +kernel) ?_
        exact ⟨l0, l1, l2, l3, l4, b4, ⟨rfl, rfl, trivial⟩, T, by omega, by omega, by omega, (H0.up (fun b hb => by rcases hb with h | h; (have := h.1; exact ⟨by omega, h.2⟩); exact ⟨by omega, by omega⟩) (fun b hb => hb)), hm0, hs0, (H1.up (fun b hb => by rcases hb with h | h; (have := h.1; exact ⟨by omega, h.2⟩); exact ⟨by omega, by omega⟩) (fun b hb => hb)), hm1, hs1, (H2.up (fun b hb => by rcases hb with h | h; (have := h.1; exact ⟨by omega, h.2⟩); exact ⟨by omega, by omega⟩) (fun b hb => hb)), hm2, hs2, (H3.up (fun b hb => by rcases hb with h | h; (have := h.1; exact ⟨by omega, h.2⟩); exact ⟨by omega, by omega⟩) (fun b hb => hb)), hm3, hs3, (H4.up (fun b hb => by rcases hb with h | h; (have := h.1; exact ⟨by omega, h.2⟩); exact ⟨by omega, by omega⟩) (fun b hb => hb)), hm4, hs4, B4, BA⟩
    ·
      refine Stp_alloc zero_83 rfl ?_
      intro b30 w30 hb30 hz30 E30 B30
      have L30 : _ ≤ b30 := Nat.le_trans T.size (Nat.le_of_eq hb30.symm)
      have hP := hP.keep0 E30
      have T := T.keep0 E30
      have B1 := B1.keep0 E30
      have BA := BA.keep0 E30
      obtain ⟨b4, rfl⟩ : ∃ b, b = b30 := ⟨_, rfl⟩
      have B4 := B30
      have hb4e := hb30
      have hz4e := hz30
      refine ⟨⟨hP, B1, BA⟩, ?_⟩
      refine AW_one 1 (by decide +kernel) (Next.mk rfl rfl ?_)
      refine Stp_call ent_38 rfl rfl rfl (numbers_c hP (fun b hb => ⟨by have := hb.1; omega, hb.2⟩) hsm (by omega)) ?_
      rintro _ w31 ⟨E31, l0, rfl, H0, hm0, hs0⟩
      have Z31 := E31.size
      have hP := hP.keep0 E31
      have T := T.keep0 E31
      have B1 := B1.keep0 E31
      have BA := BA.keep0 E31
      have B4 := B4.keep0 E31
      skip
      refine ⟨⟨hP, B1, BA⟩, ?_⟩
      refine AW_one 3 (by decide +kernel) (Next.mk rfl rfl ?_)
      refine Stp_call ent_39 rfl rfl rfl (parts_c hP (fun b hb => ⟨by have := hb.1; omega, hb.2⟩) hsm (by omega)) ?_
      rintro _ w32 ⟨E32, l1, rfl, H1, hm1, hs1⟩
      have Z32 := E32.size
      have hP := hP.keep0 E32
      have T := T.keep0 E32
      have B1 := B1.keep0 E32
      have BA := BA.keep0 E32
      have B4 := B4.keep0 E32
      have H0 := H0.keep0 E32
      skip
      refine ⟨⟨hP, B1, BA⟩, ?_⟩
      refine AW_one 5 (by decide +kernel) (Next.mk rfl rfl ?_)
      refine Stp_call ent_40 rfl rfl rfl (windows_c hP (fun b hb => ⟨by have := hb.1; omega, hb.2⟩) hsm (by omega)) ?_
      rintro _ w33 ⟨E33, l2, rfl, H2, hm2, hs2⟩
      have Z33 := E33.size
      have hP := hP.keep0 E33
      have T := T.keep0 E33
      have B1 := B1.keep0 E33
      have BA := BA.keep0 E33
      have B4 := B4.keep0 E33
      have H0 := H0.keep0 E33
      have H1 := H1.keep0 E33
      skip
      refine ⟨⟨hP, B1, BA⟩, ?_⟩
      refine AW_one 7 (by decide +kernel) (Next.mk rfl rfl ?_)
      refine Stp_call ent_41 rfl rfl rfl (trace_c hP (fun b hb => ⟨by have := hb.1; omega, hb.2⟩) hsm (by omega)) ?_
      rintro _ w34 ⟨E34, l3, rfl, H3, hm3, hs3⟩
      have Z34 := E34.size
      have hP := hP.keep0 E34
      have T := T.keep0 E34
      have B1 := B1.keep0 E34
      have BA := BA.keep0 E34
      have B4 := B4.keep0 E34
      have H0 := H0.keep0 E34
      have H1 := H1.keep0 E34
      have H2 := H2.keep0 E34
      skip
      refine ⟨⟨hP, B1, BA⟩, ?_⟩
      refine AW_one 9 (by decide +kernel) (Next.mk rfl rfl ?_)
      refine Stp_call ent_42 rfl rfl rfl (channels_c hP (fun b hb => ⟨by have := hb.1; omega, hb.2⟩) hsm (by omega)) ?_
      rintro _ w35 ⟨E35, l4, rfl, H4, hm4, hs4⟩
      have Z35 := E35.size
      have hP := hP.keep0 E35
      have T := T.keep0 E35
      have B1 := B1.keep0 E35
      have BA := BA.keep0 E35
      have B4 := B4.keep0 E35
      have H0 := H0.keep0 E35
      have H1 := H1.keep0 E35
      have H2 := H2.keep0 E35
      have H3 := H3.keep0 E35
      skip
      refine ⟨⟨hP, B1, BA⟩, ?_⟩
      refine AW_take 10 rfl rfl (by decide +kernel) (by decide +kernel) (by decide +kernel) (fun w ⟨hP, B1, BA⟩ => Ev_buildArr (l := List.flatten (List.map Lst.cl [l0, l1, l2, l3, l4])) arr_83 zero_83 rfl rfl rfl) ⟨hP, B1, BA⟩ ?_
      refine AW_one 12 (by decide +kernel) (Next.mk rfl rfl ?_)
      refine Stp_store (q := 0) B4 siz_83 rfl rfl rfl rfl (Nat.le_of_ble_eq_true rfl) rfl ?_
      intro w36 hz36 E36 B36
      have Z36 := E36.size
      have hP := hP.keepb E36 (fun h => by have := h.1; omega)
      have T := T.transb E36 (by omega)
      have B1 := B1.keepb E36 (by intro h; first | omega | (change _ < _ at h; omega) | (change _ ≤ _ at h; omega) | (have h1 := h.1; have h2 := h.2; first | omega | (change _ ≤ _ at h1; omega) | (change _ < _ at h1; omega)))
      have BA := BA.keepb E36 (by intro h; first | omega | (change _ < _ at h; omega) | (change _ ≤ _ at h; omega) | (have h1 := h.1; have h2 := h.2; first | omega | (change _ ≤ _ at h1; omega) | (change _ < _ at h1; omega)))
      have H0 := H0.keepb E36 (fun h => by rcases h with h | h; (have := h.1; omega); omega)
      have H1 := H1.keepb E36 (fun h => by rcases h with h | h; (have := h.1; omega); omega)
      have H2 := H2.keepb E36 (fun h => by rcases h with h | h; (have := h.1; omega); omega)
      have H3 := H3.keepb E36 (fun h => by rcases h with h | h; (have := h.1; omega); omega)
      have H4 := H4.keepb E36 (fun h => by rcases h with h | h; (have := h.1; omega); omega)
      clear B4
      have B4 := B36
      clear B36
      have B4 : Blk w36 b4 83 (List.map Lst.cl [l0, l1, l2, l3, l4]).flatten := B4
      refine ⟨⟨hP, B1, BA⟩, ?_⟩
      refine AW_done (by decide +kernel) ?_
      exact ⟨l0, l1, l2, l3, l4, b4, ⟨rfl, rfl, trivial⟩, T, by omega, by omega, by omega, (H0.up (fun b hb => by rcases hb with h | h; (have := h.1; exact ⟨by omega, h.2⟩); exact ⟨by omega, by omega⟩) (fun b hb => hb)), hm0, hs0, (H1.up (fun b hb => by rcases hb with h | h; (have := h.1; exact ⟨by omega, h.2⟩); exact ⟨by omega, by omega⟩) (fun b hb => hb)), hm1, hs1, (H2.up (fun b hb => by rcases hb with h | h; (have := h.1; exact ⟨by omega, h.2⟩); exact ⟨by omega, by omega⟩) (fun b hb => hb)), hm2, hs2, (H3.up (fun b hb => by rcases hb with h | h; (have := h.1; exact ⟨by omega, h.2⟩); exact ⟨by omega, by omega⟩) (fun b hb => hb)), hm3, hs3, (H4.up (fun b hb => by rcases hb with h | h; (have := h.1; exact ⟨by omega, h.2⟩); exact ⟨by omega, by omega⟩) (fun b hb => hb)), hm4, hs4, B4, BA⟩
  ·
    rintro f w0 ⟨l0, l1, l2, l3, l4, b4, hf, T, hbat, hb4, hwb, H0, hm0, hs0, H1, hm1, hs1, H2, hm2, hs2, H3, hm3, hs3, H4, hm4, hs4, BL, BA⟩
    obtain ⟨g, rfl⟩ : ∃ g, f = upl g [(3, .pointer (some ⟨bat, 0, none⟩)), (4, .pointer (some ⟨b4, 0, none⟩))] := ⟨f, upl_self hf⟩
    clear hf
    have hLen : ∀ i : Nat, i < 5 → ∃ l, [l0, l1, l2, l3, l4][i]? = some l ∧ (List.map Lst.cl [l0, l1, l2, l3, l4])[i]? = some l.cl ∧ LstOK Try.prog 3 (fun b => b < w0.heap.size ∧ b ≠ bat) w0 bat l := by
      intro i hi
      rcases i with _ | _ | _ | _ | _ | i
      · exact ⟨l0, rfl, rfl, H0⟩
      · exact ⟨l1, rfl, rfl, H1⟩
      · exact ⟨l2, rfl, rfl, H2⟩
      · exact ⟨l3, rfl, rfl, H3⟩
      · exact ⟨l4, rfl, rfl, H4⟩
      · omega
    have hchk := checked_eq (p := p.r) (fun x hx => by obtain ⟨m, hm, rfl⟩ := List.mem_map.1 hx; exact (hP.2.2.2.1 m hm).1) hm0 (by rw [hm1]; simp [PlnM.r]) hm2 hm3 hm4 hs0 hs1 (fun j hj => by rw [hs2 j hj]; simp [PlnM.r]) hs3 (fun j hj => by rw [hs4 j hj]; simp [PlnM.r])
    have SL : Sl (· = b4) w0 2 (some ⟨b4, 0, none⟩) (List.map Lst.cl [l0, l1, l2, l3, l4]) := Sl.ofBlk BL (by simp [Lst.cl])
    obtain ⟨L, hLeq⟩ : ∃ L, [l0, l1, l2, l3, l4] = L := ⟨_, rfl⟩
    rw [hLeq] at hLen hchk SL
    have R : Kp (· = bat) w0 w0 := Kp.refl _ _
    clear H0 H1 H2 H3 H4 hs0 hs1 hs2 hs3 hs4 hm0 hm1 hm2 hm3 hm4 hLeq BL
    refine CW_seq ?_
    refine CW_seq ?_
    refine CW_reg rfl ?_
    refine OW_ev (Ev_c (.inl rfl)) rfl ?_
    refine OW_nil ?_
    refine CW_block ?_
    refine CW_loop (α := Nat) (fun (i : Nat) f wr => ∃ (z : Int), AllEq f [(3, .pointer (some ⟨bat, 0, none⟩)), (4, .pointer (some ⟨b4, 0, none⟩)), (18, .int .i64 (i : Int))] ∧ (i ≤ 5) ∧ (firstErr (lstsAt L) i = 0) ∧ (Kp0 w wr) ∧ (Kp (· = bat) w0 wr) ∧ (Blk wr bat 3 [.int .i64 z])) (fun i => 5 - i) 0 ?_ ?_
    ·
      exact ⟨0, ⟨rfl, rfl, rfl, trivial⟩, Nat.zero_le _, rfl, T, R, BA⟩
    ·
      rintro i f wr ⟨z, hf, hi5, he0, T, R, BA⟩
      obtain ⟨g, rfl⟩ : ∃ g, f = upl g [(3, .pointer (some ⟨bat, 0, none⟩)), (4, .pointer (some ⟨b4, 0, none⟩)), (18, .int .i64 (i : Int))] := ⟨f, upl_self hf⟩
      clear hf
      refine CW_seq ?_
      refine CW_reg rfl ?_
      refine OW_ev (Ev_lss rfl rfl rfl) rfl ?_
      refine OW_nil ?_
      refine CW_seq ?_
      refine CW_cond rfl (fun c37 => ?_) (fun c37 => ?_)
      · have d37 := c37
        first | (with_reducible replace d37 := of_decide_eq_true d37) | (with_reducible replace d37 := bnt d37; try (with_reducible replace d37 := of_decide_eq_false d37)) | skip
        have hi : i < 5 := by omega
        obtain ⟨l, hl, hgl, hLl⟩ := hLen i hi
        have SLr := SL.keep (R.fix (fun b hb _ e => hb4 ((show b = b4 from hb).symm.trans e)))
        have K := SLr.at_ hgl
        refine CW_skip ?_
        refine CW_seq ?_
        refine CW_block ?_
        refine CW_seq ?_
        refine CW_reg rfl ?_
        refine OW_ev (Ev_mvi (.inl rfl) rfl) rfl ?_
        refine OW_ev (Ev_mvi (.inr rfl) rfl) rfl ?_
        refine OW_nil ?_
        refine CW_seq ?_
        refine CW_reg rfl ?_
        refine OW_ev (Ev_mvi (.inl rfl) rfl) rfl ?_
        refine OW_ev (Ev_idxArr i arr_83 rfl rfl rfl rfl (by omega)) rfl ?_
        refine OW_ev (Ev_fieldAddr fld_79_0 rfl rfl) rfl ?_
        refine OW_ev (Ev_load one_3 rfl rfl (K.one 0 rfl)) rfl ?_
        refine OW_ev (Ev_c (.inl rfl)) rfl ?_
        refine OW_nil ?_
        refine CW_block ?_
        refine CW_loop (α := Nat) (fun (j : Nat) f wr2 => ∃ (z : Int), AllEq f [(3, .pointer (some ⟨bat, 0, none⟩)), (4, .pointer (some ⟨b4, 0, none⟩)), (18, .int .i64 (i : Int)), (5, .int .i64 (i : Int)), (24, .int .i64 (l.many : Int)), (25, .int .i64 (j : Int))] ∧ (j ≤ l.many) ∧ (firstErr (lstAt l) j = 0) ∧ (Kp0 w wr2) ∧ (Kp (· = bat) w0 wr2) ∧ (Blk wr2 bat 3 [.int .i64 z])) (fun j => l.many - j) 0 ?_ ?_
        ·
          exact ⟨z, ⟨rfl, rfl, rfl, rfl, rfl, rfl, trivial⟩, Nat.zero_le _, rfl, T, R, BA⟩
        ·
          rintro j f wr2 ⟨z, hf, hj, he1, T, R, BA⟩
          obtain ⟨g, rfl⟩ : ∃ g, f = upl g [(3, .pointer (some ⟨bat, 0, none⟩)), (4, .pointer (some ⟨b4, 0, none⟩)), (18, .int .i64 (i : Int)), (5, .int .i64 (i : Int)), (24, .int .i64 (l.many : Int)), (25, .int .i64 (j : Int))] := ⟨f, upl_self hf⟩
          clear hf
          refine CW_seq ?_
          refine CW_reg rfl ?_
          refine OW_ev (Ev_lss rfl rfl rfl) rfl ?_
          refine OW_nil ?_
          refine CW_seq ?_
          refine CW_cond rfl (fun c38 => ?_) (fun c38 => ?_)
          · have d38 := c38
            first | (with_reducible replace d38 := of_decide_eq_true d38) | (with_reducible replace d38 := bnt d38; try (with_reducible replace d38 := of_decide_eq_false d38)) | skip
            have hjm : j < l.many := by omega
            have hlm := hLl.2.2.2.1
            have SLr := SL.keep (R.fix (fun b hb _ e => hb4 ((show b = b4 from hb).symm.trans e)))
            have K := SLr.at_ hgl
            refine CW_skip ?_
            refine CW_seq ?_
            refine CW_block ?_
            refine CW_seq ?_
            refine CW_reg rfl ?_
            refine OW_ev (Ev_mvi (.inl rfl) rfl) rfl ?_
            refine OW_st rfl (Stp_store (q := 0) (vs := [.int _ _]) BA siz_3 rfl rfl rfl rfl (Nat.le_of_ble_eq_true rfl) rfl ?_)
            intro w39 hz39 E39 B39
            have Z39 := E39.size
            have T := T.transb E39 (by omega)
            have R := R.trans E39
            have K := K.keepb E39 hb4
            clear BA
            have BA := B39
            clear B39
            have BA : Blk w39 bat 3 [.int .i64 (j : Int)] := BA
            refine OW_nil ?_
            refine CW_seq ?_
            refine CW_reg rfl ?_
            refine OW_ev (Ev_mvi (.inl rfl) rfl) rfl ?_
            refine OW_ev (Ev_idxArr i arr_83 rfl rfl rfl rfl (by omega)) rfl ?_
            refine OW_ev (Ev_fieldAddr fld_79_1 rfl rfl) rfl ?_
            refine OW_ev (Ev_load one_77 rfl rfl (K.one 1 rfl)) rfl ?_
            refine OW_ev (Ev_len und_77 rfl rfl) rfl ?_
            refine OW_ev (Ev_c (.inl rfl)) rfl ?_
            refine OW_nil ?_
            refine CW_block ?_
            refine CW_loop (α := Nat) (fun (k : Nat) f wr3 => AllEq f [(3, .pointer (some ⟨bat, 0, none⟩)), (4, .pointer (some ⟨b4, 0, none⟩)), (18, .int .i64 (i : Int)), (5, .int .i64 (i : Int)), (24, .int .i64 (l.many : Int)), (25, .int .i64 (j : Int)), (32, .int .i64 (l.rules.length : Int)), (33, .int .i64 (k : Int))] ∧ (k ≤ l.rules.length) ∧ (firstErr (ruleAt l.rules j) k = 0) ∧ (Kp0 w wr3) ∧ (Kp (· = bat) w0 wr3) ∧ (Blk wr3 bat 3 [.int .i64 (j : Int)])) (fun k => l.rules.length - k) 0 ?_ ?_
            ·
              exact ⟨⟨rfl, rfl, rfl, rfl, rfl, rfl, rfl, rfl, trivial⟩, Nat.zero_le _, rfl, T, R, BA⟩
            ·
              rintro k f wr3 ⟨hf, hk, he2, T, R, BA⟩
              obtain ⟨g, rfl⟩ : ∃ g, f = upl g [(3, .pointer (some ⟨bat, 0, none⟩)), (4, .pointer (some ⟨b4, 0, none⟩)), (18, .int .i64 (i : Int)), (5, .int .i64 (i : Int)), (24, .int .i64 (l.many : Int)), (25, .int .i64 (j : Int)), (32, .int .i64 (l.rules.length : Int)), (33, .int .i64 (k : Int))] := ⟨f, upl_self hf⟩
              clear hf
              refine CW_seq ?_
              refine CW_reg rfl ?_
              refine OW_ev (Ev_lss rfl rfl rfl) rfl ?_
              refine OW_nil ?_
              refine CW_seq ?_
              refine CW_cond rfl (fun c40 => ?_) (fun c40 => ?_)
              · have d40 := c40
                first | (with_reducible replace d40 := of_decide_eq_true d40) | (with_reducible replace d40 := bnt d40; try (with_reducible replace d40 := of_decide_eq_false d40)) | skip
                have hkr : k < l.rules.length := by omega
                obtain ⟨r, hr⟩ : ∃ r, l.rules[k]? = some r := ⟨l.rules[k], List.getElem?_eq_getElem hkr⟩
                have hgr : (l.rules.map Rule.cl)[k]? = some r.cl := by rw [List.getElem?_map, hr]; rfl
                have SLr := SL.keep (R.fix (fun b hb _ e => hb4 ((show b = b4 from hb).symm.trans e)))
                have K := SLr.at_ hgl
                have KR := (hLl.2.1.keep (R.fix (fun b hb _ e => hb.2 e))).at_ hgr
                have hrr := hLl.2.2.2.2 k r hr
                have hll := hLl.2.2
                refine CW_skip ?_
                refine CW_seq ?_
                refine CW_block ?_
                refine CW_seq ?_
                refine CW_reg rfl ?_
                refine OW_ev (Ev_mvi (.inl rfl) rfl) rfl ?_
                refine OW_ev (Ev_mvi (.inr rfl) rfl) rfl ?_
                refine OW_nil ?_
                refine CW_seq ?_
                refine CW_reg rfl ?_
                refine OW_ev (Ev_mvi (.inl rfl) rfl) rfl ?_
                refine OW_ev (Ev_idxArr i arr_83 rfl rfl rfl rfl (by omega)) rfl ?_
                refine OW_ev (Ev_fieldAddr fld_79_1 rfl rfl) rfl ?_
                refine OW_ev (Ev_load one_77 rfl rfl (K.one 1 rfl)) rfl ?_
                refine OW_ev (Ev_mvi (.inl rfl) rfl) rfl ?_
                refine OW_ev (Ev_idx k (rfl : Ad (some ⟨l.blk, 0, none⟩)) sl_77 rfl rfl rfl rfl (by omega)) rfl ?_
                refine OW_ev (Ev_fieldAddr fld_85_1 rfl rfl) rfl ?_
                refine OW_ev (Ev_load one_25 rfl rfl (KR.one 1 rfl)) rfl ?_
                refine OW_st rfl (Stp_call (cap := r.caps) hrr.2.1 rfl rfl rfl (hrr.2.2 _ (R.fix (fun b hb _ e => hb.2 e)) j hjm BA) ?_)
                rintro _ w41 ⟨E41, rfl⟩
                have Z41 := E41.size
                have T := T.keep0 E41
                have R := R.keep0 E41
                have BA := BA.keep0 E41
                have K := K.keep0 E41
                have KR := KR.keep0 E41
                refine OW_nil ?_
                refine CW_cond rfl (fun c42 => ?_) (fun c42 => ?_)
                · have d42 := c42
                  first | (with_reducible replace d42 := of_decide_eq_true d42) | (with_reducible replace d42 := bnt d42; try (with_reducible replace d42 := of_decide_eq_false d42)) | skip
                  have hbad : r.bad j = true := c42
                  have hrule : ruleAt l.rules j k = r.err := by unfold ruleAt; rw [hr]; simp only [hbad, if_true]
                  refine CW_seq ?_
                  refine CW_re [(3, .pointer _), (4, .pointer _), (5, .int _ _), (6, .int _ _), (18, .int _ _), (24, .int _ _), (25, .int _ _), (32, .int _ _), (33, .int _ _)] ⟨rfl, rfl, rfl, rfl, rfl, rfl, rfl, rfl, rfl, trivial⟩ (fun g => ?_)
                  refine CW_reg rfl ?_
                  refine OW_ev (Ev_mvi (.inl rfl) rfl) rfl ?_
                  refine OW_ev (Ev_idxArr i arr_83 rfl rfl rfl rfl (by omega)) rfl ?_
                  refine OW_ev (Ev_fieldAddr fld_79_1 rfl rfl) rfl ?_
                  refine OW_ev (Ev_load one_77 rfl rfl (K.one 1 rfl)) rfl ?_
                  refine OW_ev (Ev_mvi (.inl rfl) rfl) rfl ?_
                  refine OW_ev (Ev_idx k (rfl : Ad (some ⟨l.blk, 0, none⟩)) sl_77 rfl rfl rfl rfl (by omega)) rfl ?_
                  refine OW_ev (Ev_fieldAddr fld_85_0 rfl rfl) rfl ?_
                  refine OW_ev (Ev_load one_36 rfl rfl (KR.one 0 rfl)) rfl ?_
                  refine OW_ev (Ev_mvi (.inr rfl) rfl) rfl ?_
                  refine OW_nil ?_
                  refine CW_ret ?_
                  refine blk_ret ?_
                  refine blk_ret ?_
                  refine blk_ret ?_
                  refine blk_ret ?_
                  refine blk_ret ?_
                  refine blk_ret ?_
                  refine ⟨rfl, _, (.tmp rfl .nil), ?_⟩
                  have q1 : lstAt l j = r.err := (firstErr_at he2 (by rw [hrule]; exact hrr.1) hkr).trans hrule
                  have q2 : firstErr (lstAt l) l.many = r.err := (firstErr_at he1 (by rw [q1]; exact hrr.1) hjm).trans q1
                  have q3 : lstsAt L i = r.err := by unfold lstsAt; rw [hl]; exact q2
                  exact ⟨T, vi rfl (by rw [← hchk, firstErr_at he0 (by rw [q3]; exact hrr.1) hi, q3])⟩
                · have d42 := c42
                  first | (with_reducible replace d42 := of_decide_eq_false d42) | (with_reducible replace d42 := bnf d42; try (with_reducible replace d42 := of_decide_eq_true d42)) | skip
                  have hbad : r.bad j = false := c42
                  have hrule : ruleAt l.rules j k = 0 := by unfold ruleAt; rw [hr]; simp [hbad]
                  refine CW_skip ?_
                  refine CW_re [(3, .pointer _), (4, .pointer _), (5, .int _ _), (18, .int _ _), (24, .int _ _), (25, .int _ _), (32, .int _ _), (33, .int _ _)] ⟨rfl, rfl, rfl, rfl, rfl, rfl, rfl, rfl, trivial⟩ (fun g => ?_)
                  refine CW_reg rfl ?_
                  refine OW_ev (Ev_add rfl rfl rfl (by first | (apply IntWalk.i64_in; omega) | (apply IntWalk.u64_in; omega) | (apply IntWalk.u32_in; omega) | (apply IntWalk.u8_in; omega) | (apply IntWalk.i32_in; omega) | rfl)) rfl ?_
                  refine OW_ev (Ev_mvi (.inl rfl) rfl) rfl ?_
                  refine OW_nil ?_
                  exact ⟨k + 1, by omega, ⟨rfl, rfl, rfl, rfl, rfl, rfl, rfl, congrArg (Value.int .i64) (by omega), trivial⟩, by omega, firstErr_ok he2 hrule, T, R, BA⟩
              · have d40 := c40
                first | (with_reducible replace d40 := of_decide_eq_false d40) | (with_reducible replace d40 := bnf d40; try (with_reducible replace d40 := of_decide_eq_true d40)) | skip
                have hkr : k = l.rules.length := by omega
                refine CW_exit ?_
                refine blk_same ?_
                refine CW_reg rfl ?_
                refine OW_ev (Ev_add rfl rfl rfl (by first | (apply IntWalk.i64_in; omega) | (apply IntWalk.u64_in; omega) | (apply IntWalk.u32_in; omega) | (apply IntWalk.u8_in; omega) | (apply IntWalk.i32_in; omega) | rfl)) rfl ?_
                refine OW_ev (Ev_mvi (.inl rfl) rfl) rfl ?_
                refine OW_nil ?_
                exact ⟨j + 1, by omega, (j : Int), ⟨rfl, rfl, rfl, rfl, rfl, congrArg (Value.int .i64) (by omega), trivial⟩, by omega, firstErr_ok he1 (by unfold lstAt; rw [← hkr]; exact he2), T, R, BA⟩
          · have d38 := c38
            first | (with_reducible replace d38 := of_decide_eq_false d38) | (with_reducible replace d38 := bnf d38; try (with_reducible replace d38 := of_decide_eq_true d38)) | skip
            have hjm : j = l.many := by omega
            refine CW_exit ?_
            refine blk_same ?_
            refine CW_reg rfl ?_
            refine OW_ev (Ev_add rfl rfl rfl (by first | (apply IntWalk.i64_in; omega) | (apply IntWalk.u64_in; omega) | (apply IntWalk.u32_in; omega) | (apply IntWalk.u8_in; omega) | (apply IntWalk.i32_in; omega) | rfl)) rfl ?_
            refine OW_ev (Ev_mvi (.inl rfl) rfl) rfl ?_
            refine OW_nil ?_
            exact ⟨i + 1, by omega, z, ⟨rfl, rfl, congrArg (Value.int .i64) (by omega), trivial⟩, by omega, firstErr_ok he0 (by unfold lstsAt; rw [hl]; simp only; rw [← hjm]; exact he1), T, R, BA⟩
      · have d37 := c37
        first | (with_reducible replace d37 := of_decide_eq_false d37) | (with_reducible replace d37 := bnf d37; try (with_reducible replace d37 := of_decide_eq_true d37)) | skip
        have hi : i = 5 := by omega
        refine CW_exit ?_
        refine blk_same ?_
        refine CW_seq ?_
        refine CW_reg rfl ?_
        refine OW_ev (Ev_c (.inr rfl)) rfl ?_
        refine OW_nil ?_
        refine CW_ret ?_
        refine ⟨rfl, _, (.tmp rfl .nil), ?_⟩
        exact ⟨T, vi rfl (by rw [← hchk, ← hi]; exact he0.symm)⟩

end Go.Proofs.Ytiedmigdgelhkaa