/- The law AreaStops. -/
import Derived.Test.YthfelkjklnhdiaaArea7
namespace Go.Proofs.Ythfelkjklnhdiaa
open Go Go.RowKit Bx Go.Proofs

/-- What is read behind the stop: k bytes c, and bytes 0. -/
def stopL (k N : Nat) (c : UInt8) : List UInt8 := List.replicate k c ++ List.replicate (N - k) 0
theorem stop_eq {mn s a k N : Nat} {c : UInt8} (hk : k ≤ N) (hN : a + N ≤ mn * s) : ((putL (List.replicate (mn * s) 0) (0 * s + a) ((List.replicate N c).take k)).drop (0 * s + a)).take N = stopL k N c := by
  unfold stopL
  have hxl : ((List.replicate N c).take k).length = k := by rw [List.length_take, List.length_replicate]; omega
  apply List.ext_getElem?
  intro j
  rw [List.getElem?_take]
  by_cases hj : j < N
  · rw [if_pos hj, List.getElem?_drop, putL_get (by rw [hxl, List.length_replicate]; omega), hxl]
    by_cases h : j < k
    · rw [if_pos (by omega), show 0 * s + a + j - (0 * s + a) = j by omega, List.getElem?_append_left (by rw [List.length_replicate]; exact h), List.getElem?_take, if_pos h, List.getElem?_replicate, List.getElem?_replicate, if_pos (by omega), if_pos h]
    · rw [if_neg (by omega), List.getElem?_append_right (by rw [List.length_replicate]; omega), List.getElem?_replicate, List.getElem?_replicate, List.length_replicate, if_pos (by omega), if_pos (by omega)]
  · rw [if_neg hj, List.getElem?_eq_none (by rw [List.length_append, List.length_replicate, List.length_replicate]; omega)]
theorem stop_len {k N : Nat} {c : UInt8} (hk : k ≤ N) : (stopL k N c).length = N := by unfold stopL; rw [List.length_append, List.length_replicate, List.length_replicate]; omega
theorem stop_get {k N j : Nat} {c : UInt8} (hk : k ≤ N) (hj : j < N) : (stopL k N c)[j]? = some (if j < k then c else 0) := by
  unfold stopL
  by_cases h : j < k
  · rw [List.getElem?_append_left (by rw [List.length_replicate]; exact h), List.getElem?_replicate, if_pos h, if_pos h]
  · rw [List.getElem?_append_right (by rw [List.length_replicate]; omega), List.length_replicate, List.getElem?_replicate, if_pos (by omega), if_neg h]
theorem crashed_nil (d : DkM) (t : Int) : (d.crashed [] t).V = d.last ∧ (d.crashed [] t).g = ⟨false, false, 0⟩ ∧ (d.crashed [] t).many = d.many ∧ (d.crashed [] t).size = d.size := by
  refine ⟨?_, rfl, rfl, rfl⟩
  have h : d.kept [] = [] := by simp [DkM.kept]
  show d.crashUp (d.kept []) t (d.kept []).length = d.last
  rw [h]; rfl
theorem rep_succ (k : Nat) (c : UInt8) : (List.replicate (k + 1) c).map By = (List.replicate k c).map By ++ [c].map By := by
  rw [← List.map_append]; congr 1; exact List.replicate_succ'

set_option maxRecDepth 10000 in
set_option maxHeartbeats 2000000 in
theorem stops_bad1 {w : World} {many size wide at_ left : Int} {c : UInt8} (hbad : ¬ newOk many size) : Calls Try.prog 5 #[.int .i64 many, .int .i64 size, .int .i64 wide, .int .i64 at_, .int .i64 left, .int .u8 (c.toNat : Int)] w (Ret fun v w' => Kp0 w w' ∧ v = .bool (true)) := by
  have T : Kp0 w w := Kp.refl _ _
  refine calls_start Try.func5 rfl (n := 153) rfl rfl rfl ?_
  refine CW_seq ?_
  refine CW_reg rfl ?_
  refine OW_ev (Ev_c (.inr rfl)) rfl ?_
  refine OW_nil ?_
  refine CW_seq ?_
  refine CW_reg rfl ?_
  refine OW_ev (Ev_mvi (.inl rfl) rfl) rfl ?_
  refine OW_ev (Ev_mvi (.inl rfl) rfl) rfl ?_
  refine OW_st rfl (Stp_call ent_8 rfl rfl rfl (snew_bad hbad) ?_)
  rintro _ w1 ⟨E1, rfl⟩
  have Z1 := E1.size
  have T := T.keep0 E1
  refine OW_ev (Ev_mvt (.inl rfl) rfl) rfl ?_
  refine OW_ev (Ev_extract (vs := _) rfl rfl rfl) rfl ?_
  refine OW_ev (Ev_extract (vs := _) rfl rfl rfl) rfl ?_
  refine OW_ev (Ev_mvp (.inr rfl) rfl) rfl ?_
  refine OW_ev (Ev_mvi (.inr rfl) rfl) rfl ?_
  refine OW_nil ?_
  refine CW_seq ?_
  refine CW_reg rfl ?_
  refine OW_ev (Ev_mvp (.inl rfl) rfl) rfl ?_
  refine OW_ev (Ev_mvi (.inl rfl) rfl) rfl ?_
  refine OW_st rfl (Stp_call ent_9 rfl rfl rfl (anew_nil _ _ _) ?_)
  rintro _ w2 ⟨E2, rfl⟩
  have Z2 := E2.size
  have T := T.keep0 E2
  refine OW_ev (Ev_mvt (.inl rfl) rfl) rfl ?_
  refine OW_ev (Ev_extract (vs := _) rfl rfl rfl) rfl ?_
  refine OW_ev (Ev_extract (vs := _) rfl rfl rfl) rfl ?_
  refine OW_ev (Ev_mvp (.inr rfl) rfl) rfl ?_
  refine OW_ev (Ev_mvi (.inr rfl) rfl) rfl ?_
  refine OW_nil ?_
  refine CW_seq ?_
  refine CW_seq ?_
  refine CW_re [(0, .int _ _), (1, .int _ _), (3, .int _ _), (4, .int _ _), (5, .int _ _), (12, .bool _), (13, .pointer _), (14, .int _ _), (15, .pointer _), (16, .int _ _)] ⟨rfl, rfl, rfl, rfl, rfl, rfl, rfl, rfl, rfl, rfl, trivial⟩ (fun g => ?_)
  refine CW_reg rfl ?_
  refine OW_ev (Ev_mvi (.inl rfl) rfl) rfl ?_
  refine OW_ev (Ev_neq rfl rfl rfl) rfl ?_
  refine OW_ev (Ev_mvb (.inl rfl) rfl) rfl ?_
  refine OW_split (d := .tmp 37) rfl (fun c3 => ?_) (fun c3 => ?_)
  · have d3 := c3
    first | (with_reducible replace d3 := of_decide_eq_true d3) | (with_reducible replace d3 := bnt d3; try (with_reducible replace d3 := of_decide_eq_false d3)) | skip
    refine OW_no rfl rfl rfl rfl c3 ?_
    refine OW_no rfl rfl rfl rfl c3 ?_
    refine OW_ev (Ev_pickb_t rfl rfl c3 rfl) rfl ?_
    refine OW_ev (Ev_mvb (.inl rfl) rfl) rfl ?_
    refine OW_no rfl rfl rfl rfl rfl ?_
    refine OW_no rfl rfl rfl rfl rfl ?_
    refine OW_ev (Ev_pickb_t rfl rfl rfl rfl) rfl ?_
    refine OW_ev (Ev_mvb (.inl rfl) rfl) rfl ?_
    refine OW_no rfl rfl rfl rfl rfl ?_
    refine OW_no rfl rfl rfl rfl rfl ?_
    refine OW_ev (Ev_pickb_t rfl rfl rfl rfl) rfl ?_
    refine OW_ev (Ev_mvb (.inl rfl) rfl) rfl ?_
    refine OW_no rfl rfl rfl rfl rfl ?_
    refine OW_no rfl rfl rfl rfl rfl ?_
    refine OW_ev (Ev_pickb_t rfl rfl rfl rfl) rfl ?_
    refine OW_ev (Ev_mvb (.inl rfl) rfl) rfl ?_
    refine OW_no rfl rfl rfl rfl rfl ?_
    refine OW_no rfl rfl rfl rfl rfl ?_
    refine OW_no rfl rfl rfl rfl rfl ?_
    refine OW_no rfl rfl rfl rfl rfl ?_
    refine OW_ev (Ev_pickb_t rfl rfl rfl rfl) rfl ?_
    refine OW_ev (Ev_mvb (.inl rfl) rfl) rfl ?_
    refine OW_no rfl rfl rfl rfl rfl ?_
    refine OW_no rfl rfl rfl rfl rfl ?_
    refine OW_ev (Ev_pickb_t rfl rfl rfl rfl) rfl ?_
    refine OW_ev (Ev_mvb (.inl rfl) rfl) rfl ?_
    refine OW_no rfl rfl rfl rfl rfl ?_
    refine OW_no rfl rfl rfl rfl rfl ?_
    refine OW_ev (Ev_pickb_t rfl rfl rfl rfl) rfl ?_
    refine OW_nil ?_
    refine CW_cond_t rfl rfl ?_
    refine CW_seq ?_
    refine CW_re [(1, .int _ _), (3, .int _ _), (4, .int _ _), (5, .int _ _), (12, .bool _), (13, .pointer _), (15, .pointer _)] ⟨rfl, rfl, rfl, rfl, rfl, rfl, rfl, trivial⟩ (fun g => ?_)
    refine CW_reg rfl ?_
    refine OW_st rfl (Stp_call ent_10 rfl rfl rfl (placed_c _) ?_)
    rintro _ w4 ⟨E4, rfl⟩
    have Z4 := E4.size
    have T := T.keep0 E4
    refine OW_ev (Ev_mvb (.inr rfl) rfl) rfl ?_
    refine OW_nil ?_
    refine CW_ret ?_
    refine ⟨rfl, _, (.tmp rfl .nil), ?_⟩
    first | exact ⟨T, rfl⟩ | exact ⟨T, vb rfl (decide_eq_true rfl)⟩
  · have d3 := c3
    first | (with_reducible replace d3 := of_decide_eq_false d3) | (with_reducible replace d3 := bnf d3; try (with_reducible replace d3 := of_decide_eq_true d3)) | skip
    exact absurd (by decide) d3

set_option maxRecDepth 10000 in
set_option maxHeartbeats 2000000 in
theorem stops_bad2 {w : World} {mn s : Nat} {wide at_ left : Int} {c : UInt8} (hok : newOk mn s) (hbad : ∀ bl bm, ¬ fit (DkM.new mn s bl bm) 0 wide) : Calls Try.prog 5 #[.int .i64 (mn : Int), .int .i64 (s : Int), .int .i64 wide, .int .i64 at_, .int .i64 left, .int .u8 (c.toNat : Int)] w (Ret fun v w' => Kp0 w w' ∧ v = .bool (true)) := by
  have T : Kp0 w w := Kp.refl _ _
  refine calls_start Try.func5 rfl (n := 153) rfl rfl rfl ?_
  refine CW_seq ?_
  refine CW_reg rfl ?_
  refine OW_ev (Ev_c (.inr rfl)) rfl ?_
  refine OW_nil ?_
  refine CW_seq ?_
  refine CW_reg rfl ?_
  refine OW_ev (Ev_mvi (.inl rfl) rfl) rfl ?_
  refine OW_ev (Ev_mvi (.inl rfl) rfl) rfl ?_
  refine OW_st rfl (Stp_call ent_8 rfl rfl rfl (snew_ok hok) ?_)
  rintro _ w1 ⟨E1, bd, bl, bm, rfl, hbd, HS1⟩
  have Z1 := E1.size
  have T := T.keep0 E1
  refine OW_ev (Ev_mvt (.inl rfl) rfl) rfl ?_
  refine OW_ev (Ev_extract (vs := _) rfl rfl rfl) rfl ?_
  refine OW_ev (Ev_extract (vs := _) rfl rfl rfl) rfl ?_
  refine OW_ev (Ev_mvp (.inr rfl) rfl) rfl ?_
  refine OW_ev (Ev_mvi (.inr rfl) rfl) rfl ?_
  refine OW_nil ?_
  refine CW_seq ?_
  refine CW_reg rfl ?_
  refine OW_ev (Ev_mvp (.inl rfl) rfl) rfl ?_
  refine OW_ev (Ev_mvi (.inl rfl) rfl) rfl ?_
  refine OW_st rfl (Stp_call ent_9 rfl rfl rfl (anew_bad HS1 (hbad bl bm)) ?_)
  rintro _ w2 ⟨E2, rfl⟩
  have Z2 := E2.size
  have T := T.keep0 E2
  have HS1 := HS1.keep0 E2
  refine OW_ev (Ev_mvt (.inl rfl) rfl) rfl ?_
  refine OW_ev (Ev_extract (vs := _) rfl rfl rfl) rfl ?_
  refine OW_ev (Ev_extract (vs := _) rfl rfl rfl) rfl ?_
  refine OW_ev (Ev_mvp (.inr rfl) rfl) rfl ?_
  refine OW_ev (Ev_mvi (.inr rfl) rfl) rfl ?_
  refine OW_nil ?_
  refine CW_seq ?_
  refine CW_seq ?_
  refine CW_re [(0, .int _ _), (1, .int _ _), (3, .int _ _), (4, .int _ _), (5, .int _ _), (12, .bool _), (13, .pointer _), (14, .int _ _), (15, .pointer _), (16, .int _ _)] ⟨rfl, rfl, rfl, rfl, rfl, rfl, rfl, rfl, rfl, rfl, trivial⟩ (fun g => ?_)
  refine CW_reg rfl ?_
  refine OW_ev (Ev_mvi (.inl rfl) rfl) rfl ?_
  refine OW_ev (Ev_neq rfl rfl rfl) rfl ?_
  refine OW_ev (Ev_mvb (.inl rfl) rfl) rfl ?_
  refine OW_split (d := .tmp 37) rfl (fun c3 => ?_) (fun c3 => ?_)
  · have d3 := c3
    first | (with_reducible replace d3 := of_decide_eq_true d3) | (with_reducible replace d3 := bnt d3; try (with_reducible replace d3 := of_decide_eq_false d3)) | skip
    exact absurd rfl d3
  · have d3 := c3
    first | (with_reducible replace d3 := of_decide_eq_false d3) | (with_reducible replace d3 := bnf d3; try (with_reducible replace d3 := of_decide_eq_true d3)) | skip
    refine OW_yes rfl rfl rfl rfl c3 (Ev.stp (Ev_mvi (.inl rfl) rfl) ?_)
    refine OW_yes rfl rfl rfl rfl c3 (Ev.stp (Ev_neq rfl rfl rfl) ?_)
    refine OW_ev (Ev_pickb_f rfl rfl c3 rfl) rfl ?_
    refine OW_ev (Ev_mvb (.inl rfl) rfl) rfl ?_
    refine OW_split (d := .tmp 41) rfl (fun c4 => ?_) (fun c4 => ?_)
    · have d4 := c4
      first | (with_reducible replace d4 := of_decide_eq_true d4) | (with_reducible replace d4 := bnt d4; try (with_reducible replace d4 := of_decide_eq_false d4)) | skip
      refine OW_no rfl rfl rfl rfl c4 ?_
      refine OW_no rfl rfl rfl rfl c4 ?_
      refine OW_ev (Ev_pickb_t rfl rfl c4 rfl) rfl ?_
      refine OW_ev (Ev_mvb (.inl rfl) rfl) rfl ?_
      refine OW_no rfl rfl rfl rfl rfl ?_
      refine OW_no rfl rfl rfl rfl rfl ?_
      refine OW_ev (Ev_pickb_t rfl rfl rfl rfl) rfl ?_
      refine OW_ev (Ev_mvb (.inl rfl) rfl) rfl ?_
      refine OW_no rfl rfl rfl rfl rfl ?_
      refine OW_no rfl rfl rfl rfl rfl ?_
      refine OW_ev (Ev_pickb_t rfl rfl rfl rfl) rfl ?_
      refine OW_ev (Ev_mvb (.inl rfl) rfl) rfl ?_
      refine OW_no rfl rfl rfl rfl rfl ?_
      refine OW_no rfl rfl rfl rfl rfl ?_
      refine OW_no rfl rfl rfl rfl rfl ?_
      refine OW_no rfl rfl rfl rfl rfl ?_
      refine OW_ev (Ev_pickb_t rfl rfl rfl rfl) rfl ?_
      refine OW_ev (Ev_mvb (.inl rfl) rfl) rfl ?_
      refine OW_no rfl rfl rfl rfl rfl ?_
      refine OW_no rfl rfl rfl rfl rfl ?_
      refine OW_ev (Ev_pickb_t rfl rfl rfl rfl) rfl ?_
      refine OW_ev (Ev_mvb (.inl rfl) rfl) rfl ?_
      refine OW_no rfl rfl rfl rfl rfl ?_
      refine OW_no rfl rfl rfl rfl rfl ?_
      refine OW_ev (Ev_pickb_t rfl rfl rfl rfl) rfl ?_
      refine OW_nil ?_
      refine CW_cond_t rfl rfl ?_
      refine CW_seq ?_
      refine CW_re [(1, .int _ _), (3, .int _ _), (4, .int _ _), (5, .int _ _), (12, .bool _), (13, .pointer _), (15, .pointer _)] ⟨rfl, rfl, rfl, rfl, rfl, rfl, rfl, trivial⟩ (fun g => ?_)
      refine CW_reg rfl ?_
      refine OW_st rfl (Stp_call ent_10 rfl rfl rfl (placed_c _) ?_)
      rintro _ w5 ⟨E5, rfl⟩
      have Z5 := E5.size
      have T := T.keep0 E5
      have HS1 := HS1.keep0 E5
      refine OW_ev (Ev_mvb (.inr rfl) rfl) rfl ?_
      refine OW_nil ?_
      refine CW_ret ?_
      refine ⟨rfl, _, (.tmp rfl .nil), ?_⟩
      first | exact ⟨T, rfl⟩ | exact ⟨T, vb rfl (decide_eq_true rfl)⟩
    · have d4 := c4
      first | (with_reducible replace d4 := of_decide_eq_false d4) | (with_reducible replace d4 := bnf d4; try (with_reducible replace d4 := of_decide_eq_true d4)) | skip
      exact absurd (by decide) d4

set_option maxRecDepth 10000 in
set_option maxHeartbeats 2000000 in
theorem stops_ok {w : World} {mn s wd : Nat} {at_ left : Int} {c : UInt8} (hok : newOk mn s) (hfit : ∀ bl bm, fit (DkM.new mn s bl bm) 0 wd) (hll : left ≤ 9223372036854775807) : Calls Try.prog 5 #[.int .i64 (mn : Int), .int .i64 (s : Int), .int .i64 (wd : Int), .int .i64 at_, .int .i64 left, .int .u8 (c.toNat : Int)] w (Ret fun v w' => Kp0 w w' ∧ v = .bool (true)) := by
  obtain ⟨NW, hNW⟩ : ∃ x, x = w.heap.size := ⟨_, rfl⟩
  have T : Kp0 w w := Kp.refl _ _
  refine calls_start Try.func5 rfl (n := 153) rfl rfl rfl ?_
  refine CW_seq ?_
  refine CW_reg rfl ?_
  refine OW_ev (Ev_c (.inr rfl)) rfl ?_
  refine OW_nil ?_
  refine CW_seq ?_
  refine CW_reg rfl ?_
  refine OW_ev (Ev_mvi (.inl rfl) rfl) rfl ?_
  refine OW_ev (Ev_mvi (.inl rfl) rfl) rfl ?_
  refine OW_st rfl (Stp_call ent_8 rfl rfl rfl (snew_ok hok) ?_)
  rintro _ w1 ⟨E1, bd, bl, bm, rfl, hbd, HS0⟩
  have Z1 := E1.size
  have T := T.keep0 E1
  obtain ⟨dk0, hdk0⟩ : ∃ x, x = DkM.new mn s bl bm := ⟨_, rfl⟩
  rw [← hdk0] at HS0
  have em : dk0.many = mn := by rw [hdk0]; rfl
  have es : dk0.size = s := by rw [hdk0]; rfl
  have ep : dk0.ps = [] := by rw [hdk0]; rfl
  have eV : dk0.V = List.replicate (mn * s) 0 := by rw [hdk0]; rfl
  refine OW_ev (Ev_mvt (.inl rfl) rfl) rfl ?_
  refine OW_ev (Ev_extract (vs := _) rfl rfl rfl) rfl ?_
  refine OW_ev (Ev_extract (vs := _) rfl rfl rfl) rfl ?_
  refine OW_ev (Ev_mvp (.inr rfl) rfl) rfl ?_
  refine OW_ev (Ev_mvi (.inr rfl) rfl) rfl ?_
  refine OW_nil ?_
  refine CW_seq ?_
  refine CW_reg rfl ?_
  refine OW_ev (Ev_mvp (.inl rfl) rfl) rfl ?_
  refine OW_ev (Ev_mvi (.inl rfl) rfl) rfl ?_
  have HB0 := HS0.bound
  refine OW_st rfl (Stp_call ent_9 rfl rfl rfl (anew_ok (f := 0) (m := wd) HS0 (by rw [hdk0]; exact hfit bl bm)) ?_)
  rintro _ w2 ⟨E2, ba, rfl, hba, hA⟩
  have Z2 := E2.size
  have T := T.keep0 E2
  have hS := (HB0.keep0 E2).mono (E := (fun b => NW ≤ b ∧ b ≠ ba)) (fun b h => ⟨by have := h.1; omega, by have := h.2; omega⟩)
  have hal := hA.lt
  rw [es] at hA
  have hf0 := hfit bl bm
  have hwd : 1 ≤ wd ∧ wd ≤ mn := by unfold fit at hf0; change (1 : Int) ≤ wd ∧ (wd : Int) ≤ mn ∧ _ at hf0; omega
  have hok2 := hok
  unfold newOk at hok2
  refine OW_ev (Ev_mvt (.inl rfl) rfl) rfl ?_
  refine OW_ev (Ev_extract (vs := _) rfl rfl rfl) rfl ?_
  refine OW_ev (Ev_extract (vs := _) rfl rfl rfl) rfl ?_
  refine OW_ev (Ev_mvp (.inr rfl) rfl) rfl ?_
  refine OW_ev (Ev_mvi (.inr rfl) rfl) rfl ?_
  refine OW_nil ?_
  refine CW_seq ?_
  refine CW_seq ?_
  refine CW_re [(0, .int _ _), (1, .int _ _), (3, .int _ _), (4, .int _ _), (5, .int _ _), (12, .bool _), (13, .pointer _), (14, .int _ _), (15, .pointer _), (16, .int _ _)] ⟨rfl, rfl, rfl, rfl, rfl, rfl, rfl, rfl, rfl, rfl, trivial⟩ (fun g => ?_)
  refine CW_reg rfl ?_
  refine OW_ev (Ev_mvi (.inl rfl) rfl) rfl ?_
  refine OW_ev (Ev_neq rfl rfl rfl) rfl ?_
  refine OW_ev (Ev_mvb (.inl rfl) rfl) rfl ?_
  refine OW_split (d := .tmp 37) rfl (fun c3 => ?_) (fun c3 => ?_)
  · have d3 := c3
    first | (with_reducible replace d3 := of_decide_eq_true d3) | (with_reducible replace d3 := bnt d3; try (with_reducible replace d3 := of_decide_eq_false d3)) | skip
    exact absurd rfl d3
  · have d3 := c3
    first | (with_reducible replace d3 := of_decide_eq_false d3) | (with_reducible replace d3 := bnf d3; try (with_reducible replace d3 := of_decide_eq_true d3)) | skip
    refine OW_yes rfl rfl rfl rfl c3 (Ev.stp (Ev_mvi (.inl rfl) rfl) ?_)
    refine OW_yes rfl rfl rfl rfl c3 (Ev.stp (Ev_neq rfl rfl rfl) ?_)
    refine OW_ev (Ev_pickb_f rfl rfl c3 rfl) rfl ?_
    refine OW_ev (Ev_mvb (.inl rfl) rfl) rfl ?_
    refine OW_split (d := .tmp 41) rfl (fun c4 => ?_) (fun c4 => ?_)
    · have d4 := c4
      first | (with_reducible replace d4 := of_decide_eq_true d4) | (with_reducible replace d4 := bnt d4; try (with_reducible replace d4 := of_decide_eq_false d4)) | skip
      exact absurd rfl d4
    · have d4 := c4
      first | (with_reducible replace d4 := of_decide_eq_false d4) | (with_reducible replace d4 := bnf d4; try (with_reducible replace d4 := of_decide_eq_true d4)) | skip
      refine OW_yes rfl rfl rfl rfl c4 (Ev.stp (Ev_mvp (.inl rfl) rfl) ?_)
      refine OW_yes rfl rfl rfl rfl c4 (Ev.stp (Ev_ptrNil und_26 rfl rfl) ?_)
      refine OW_ev (Ev_pickb_f rfl rfl c4 rfl) rfl ?_
      refine OW_ev (Ev_mvb (.inl rfl) rfl) rfl ?_
      refine OW_split (d := .tmp 45) rfl (fun c5 => ?_) (fun c5 => ?_)
      · have d5 := c5
        first | (with_reducible replace d5 := of_decide_eq_true d5) | (with_reducible replace d5 := bnt d5; try (with_reducible replace d5 := of_decide_eq_false d5)) | skip
        cases c5
      · have d5 := c5
        first | (with_reducible replace d5 := of_decide_eq_false d5) | (with_reducible replace d5 := bnf d5; try (with_reducible replace d5 := of_decide_eq_true d5)) | skip
        refine OW_yes rfl rfl rfl rfl c5 (Ev.stp (Ev_mvi (.inl rfl) rfl) ?_)
        refine OW_yes rfl rfl rfl rfl c5 (Ev.stp (Ev_gtr rfl rfl rfl) ?_)
        refine OW_ev (Ev_pickb_f rfl rfl c5 rfl) rfl ?_
        refine OW_ev (Ev_mvb (.inl rfl) rfl) rfl ?_
        refine OW_split (d := .tmp 49) rfl (fun c6 => ?_) (fun c6 => ?_)
        · have d6 := c6
          first | (with_reducible replace d6 := of_decide_eq_true d6) | (with_reducible replace d6 := bnt d6; try (with_reducible replace d6 := of_decide_eq_false d6)) | skip
          refine OW_no rfl rfl rfl rfl c6 ?_
          refine OW_no rfl rfl rfl rfl c6 ?_
          refine OW_ev (Ev_pickb_t rfl rfl c6 rfl) rfl ?_
          refine OW_ev (Ev_mvb (.inl rfl) rfl) rfl ?_
          refine OW_no rfl rfl rfl rfl rfl ?_
          refine OW_no rfl rfl rfl rfl rfl ?_
          refine OW_no rfl rfl rfl rfl rfl ?_
          refine OW_no rfl rfl rfl rfl rfl ?_
          refine OW_ev (Ev_pickb_t rfl rfl rfl rfl) rfl ?_
          refine OW_ev (Ev_mvb (.inl rfl) rfl) rfl ?_
          refine OW_no rfl rfl rfl rfl rfl ?_
          refine OW_no rfl rfl rfl rfl rfl ?_
          refine OW_ev (Ev_pickb_t rfl rfl rfl rfl) rfl ?_
          refine OW_ev (Ev_mvb (.inl rfl) rfl) rfl ?_
          refine OW_no rfl rfl rfl rfl rfl ?_
          refine OW_no rfl rfl rfl rfl rfl ?_
          refine OW_ev (Ev_pickb_t rfl rfl rfl rfl) rfl ?_
          refine OW_nil ?_
          refine CW_cond_t rfl rfl ?_
          refine CW_seq ?_
          refine CW_re [(1, .int _ _), (3, .int _ _), (4, .int _ _), (5, .int _ _), (12, .bool _), (13, .pointer _), (15, .pointer _)] ⟨rfl, rfl, rfl, rfl, rfl, rfl, rfl, trivial⟩ (fun g => ?_)
          refine CW_reg rfl ?_
          refine OW_st rfl (Stp_call ent_10 rfl rfl rfl (placed_c _) ?_)
          rintro _ w7 ⟨E7, rfl⟩
          have Z7 := E7.size
          have T := T.keep0 E7
          have hS := hS.keep0 E7
          have hA := hA.keep0 E7
          refine OW_ev (Ev_mvb (.inr rfl) rfl) rfl ?_
          refine OW_nil ?_
          refine CW_ret ?_
          refine ⟨rfl, _, (.tmp rfl .nil), ?_⟩
          first | exact ⟨T, rfl⟩ | exact ⟨T, vb rfl (decide_eq_true (by omega))⟩ | exact ⟨T, by assumption⟩
        · have d6 := c6
          first | (with_reducible replace d6 := of_decide_eq_false d6) | (with_reducible replace d6 := bnf d6; try (with_reducible replace d6 := of_decide_eq_true d6)) | skip
          have hm16 : mn ≤ 16 := by omega
          refine OW_yes rfl rfl rfl rfl c6 (Ev.stp (Ev_mvi (.inl rfl) rfl) ?_)
          refine OW_yes rfl rfl rfl rfl c6 (Ev.stp (Ev_lss rfl rfl rfl) ?_)
          refine OW_ev (Ev_pickb_f rfl rfl c6 rfl) rfl ?_
          refine OW_ev (Ev_mvb (.inl rfl) rfl) rfl ?_
          refine OW_split (d := .tmp 53) rfl (fun c8 => ?_) (fun c8 => ?_)
          · have d8 := c8
            first | (with_reducible replace d8 := of_decide_eq_true d8) | (with_reducible replace d8 := bnt d8; try (with_reducible replace d8 := of_decide_eq_false d8)) | skip
            refine OW_no rfl rfl rfl rfl c8 ?_
            refine OW_no rfl rfl rfl rfl c8 ?_
            refine OW_no rfl rfl rfl rfl c8 ?_
            refine OW_no rfl rfl rfl rfl c8 ?_
            refine OW_ev (Ev_pickb_t rfl rfl c8 rfl) rfl ?_
            refine OW_ev (Ev_mvb (.inl rfl) rfl) rfl ?_
            refine OW_no rfl rfl rfl rfl rfl ?_
            refine OW_no rfl rfl rfl rfl rfl ?_
            refine OW_ev (Ev_pickb_t rfl rfl rfl rfl) rfl ?_
            refine OW_ev (Ev_mvb (.inl rfl) rfl) rfl ?_
            refine OW_no rfl rfl rfl rfl rfl ?_
            refine OW_no rfl rfl rfl rfl rfl ?_
            refine OW_ev (Ev_pickb_t rfl rfl rfl rfl) rfl ?_
            refine OW_nil ?_
            refine CW_cond_t rfl rfl ?_
            refine CW_seq ?_
            refine CW_re [(1, .int _ _), (3, .int _ _), (4, .int _ _), (5, .int _ _), (12, .bool _), (13, .pointer _), (15, .pointer _)] ⟨rfl, rfl, rfl, rfl, rfl, rfl, rfl, trivial⟩ (fun g => ?_)
            refine CW_reg rfl ?_
            refine OW_st rfl (Stp_call ent_10 rfl rfl rfl (placed_c _) ?_)
            rintro _ w9 ⟨E9, rfl⟩
            have Z9 := E9.size
            have T := T.keep0 E9
            have hS := hS.keep0 E9
            have hA := hA.keep0 E9
            refine OW_ev (Ev_mvb (.inr rfl) rfl) rfl ?_
            refine OW_nil ?_
            refine CW_ret ?_
            refine ⟨rfl, _, (.tmp rfl .nil), ?_⟩
            first | exact ⟨T, rfl⟩ | exact ⟨T, vb rfl (decide_eq_true (by omega))⟩ | exact ⟨T, by assumption⟩
          · have d8 := c8
            first | (with_reducible replace d8 := of_decide_eq_false d8) | (with_reducible replace d8 := bnf d8; try (with_reducible replace d8 := of_decide_eq_true d8)) | skip
            obtain ⟨a, rfl⟩ : ∃ a : Nat, at_ = (a : Int) := ⟨at_.toNat, by omega⟩
            refine OW_yes rfl rfl rfl rfl c8 (Ev.stp (Ev_mvi (.inl rfl) rfl) ?_)
            refine OW_yes rfl rfl rfl rfl c8 (Ev.stp (Ev_mvp (.inl rfl) rfl) ?_)
            refine OW_yes rfl rfl rfl rfl c8 (Stp_call ent_15 rfl rfl rfl (alen_c hA (by omega) (by omega)) ?_)
            rintro _ w10 ⟨E10, rfl⟩
            have Z10 := E10.size
            have T := T.keep0 E10
            have hS := hS.keep0 E10
            have hA := hA.keep0 E10
            refine OW_yes rfl rfl rfl rfl c8 (Ev.stp (Ev_geq rfl rfl rfl) ?_)
            refine OW_ev (Ev_pickb_f rfl rfl c8 rfl) rfl ?_
            refine OW_ev (Ev_mvb (.inl rfl) rfl) rfl ?_
            refine OW_split (d := .tmp 59) rfl (fun c11 => ?_) (fun c11 => ?_)
            · have d11 := c11
              first | (with_reducible replace d11 := of_decide_eq_true d11) | (with_reducible replace d11 := bnt d11; try (with_reducible replace d11 := of_decide_eq_false d11)) | skip
              refine OW_no rfl rfl rfl rfl c11 ?_
              refine OW_no rfl rfl rfl rfl c11 ?_
              refine OW_ev (Ev_pickb_t rfl rfl c11 rfl) rfl ?_
              refine OW_ev (Ev_mvb (.inl rfl) rfl) rfl ?_
              refine OW_no rfl rfl rfl rfl rfl ?_
              refine OW_no rfl rfl rfl rfl rfl ?_
              refine OW_ev (Ev_pickb_t rfl rfl rfl rfl) rfl ?_
              refine OW_nil ?_
              refine CW_cond_t rfl rfl ?_
              refine CW_seq ?_
              refine CW_re [(1, .int _ _), (3, .int _ _), (4, .int _ _), (5, .int _ _), (12, .bool _), (13, .pointer _), (15, .pointer _)] ⟨rfl, rfl, rfl, rfl, rfl, rfl, rfl, trivial⟩ (fun g => ?_)
              refine CW_reg rfl ?_
              refine OW_st rfl (Stp_call ent_10 rfl rfl rfl (placed_c _) ?_)
              rintro _ w12 ⟨E12, rfl⟩
              have Z12 := E12.size
              have T := T.keep0 E12
              have hS := hS.keep0 E12
              have hA := hA.keep0 E12
              refine OW_ev (Ev_mvb (.inr rfl) rfl) rfl ?_
              refine OW_nil ?_
              refine CW_ret ?_
              refine ⟨rfl, _, (.tmp rfl .nil), ?_⟩
              first | exact ⟨T, rfl⟩ | exact ⟨T, vb rfl (decide_eq_true (by omega))⟩ | exact ⟨T, by assumption⟩
            · have d11 := c11
              first | (with_reducible replace d11 := of_decide_eq_false d11) | (with_reducible replace d11 := bnf d11; try (with_reducible replace d11 := of_decide_eq_true d11)) | skip
              have hws : wd * s ≤ 16 * 1024 := Nat.mul_le_mul (by omega) (by omega)
              have hwi : ((wd * s : Nat) : Int) = (wd : Int) * (s : Int) := by push_cast; rfl
              obtain ⟨N, hN⟩ : ∃ N : Nat, a + N = wd * s := ⟨wd * s - a, by omega⟩
              have hNb : N ≤ 16384 := by omega
              have hwm : wd * s ≤ mn * s := Nat.mul_le_mul_right _ hwd.2
              refine OW_yes rfl rfl rfl rfl c11 (Ev.stp (Ev_mvi (.inl rfl) rfl) ?_)
              refine OW_yes rfl rfl rfl rfl c11 (Ev.stp (Ev_lss rfl rfl rfl) ?_)
              refine OW_ev (Ev_pickb_f rfl rfl c11 rfl) rfl ?_
              refine OW_ev (Ev_mvb (.inl rfl) rfl) rfl ?_
              refine OW_split (d := .tmp 63) rfl (fun c13 => ?_) (fun c13 => ?_)
              · have d13 := c13
                first | (with_reducible replace d13 := of_decide_eq_true d13) | (with_reducible replace d13 := bnt d13; try (with_reducible replace d13 := of_decide_eq_false d13)) | skip
                refine OW_no rfl rfl rfl rfl c13 ?_
                refine OW_no rfl rfl rfl rfl c13 ?_
                refine OW_ev (Ev_pickb_t rfl rfl c13 rfl) rfl ?_
                refine OW_nil ?_
                refine CW_cond_t rfl rfl ?_
                refine CW_seq ?_
                refine CW_re [(1, .int _ _), (3, .int _ _), (4, .int _ _), (5, .int _ _), (12, .bool _), (13, .pointer _), (15, .pointer _)] ⟨rfl, rfl, rfl, rfl, rfl, rfl, rfl, trivial⟩ (fun g => ?_)
                refine CW_reg rfl ?_
                refine OW_st rfl (Stp_call ent_10 rfl rfl rfl (placed_c _) ?_)
                rintro _ w14 ⟨E14, rfl⟩
                have Z14 := E14.size
                have T := T.keep0 E14
                have hS := hS.keep0 E14
                have hA := hA.keep0 E14
                refine OW_ev (Ev_mvb (.inr rfl) rfl) rfl ?_
                refine OW_nil ?_
                refine CW_ret ?_
                refine ⟨rfl, _, (.tmp rfl .nil), ?_⟩
                first | exact ⟨T, rfl⟩ | exact ⟨T, vb rfl (decide_eq_true (by omega))⟩ | exact ⟨T, by assumption⟩
              · have d13 := c13
                first | (with_reducible replace d13 := of_decide_eq_false d13) | (with_reducible replace d13 := bnf d13; try (with_reducible replace d13 := of_decide_eq_true d13)) | skip
                have hl0 : 0 ≤ left := by omega
                refine OW_yes rfl rfl rfl rfl c13 (Ev.stp (Ev_mvi (.inl rfl) rfl) ?_)
                refine OW_yes rfl rfl rfl rfl c13 (Ev.stp (Ev_eql rfl rfl rfl) ?_)
                refine OW_ev (Ev_pickb_f rfl rfl c13 rfl) rfl ?_
                refine OW_nil ?_
                refine CW_cond rfl (fun c15 => ?_) (fun c15 => ?_)
                · have d15 := c15
                  first | (with_reducible replace d15 := of_decide_eq_true d15) | (with_reducible replace d15 := bnt d15; try (with_reducible replace d15 := of_decide_eq_false d15)) | skip
                  refine CW_seq ?_
                  refine CW_re [(1, .int _ _), (3, .int _ _), (4, .int _ _), (5, .int _ _), (12, .bool _), (13, .pointer _), (15, .pointer _)] ⟨rfl, rfl, rfl, rfl, rfl, rfl, rfl, trivial⟩ (fun g => ?_)
                  refine CW_reg rfl ?_
                  refine OW_st rfl (Stp_call ent_10 rfl rfl rfl (placed_c _) ?_)
                  rintro _ w16 ⟨E16, rfl⟩
                  have Z16 := E16.size
                  have T := T.keep0 E16
                  have hS := hS.keep0 E16
                  have hA := hA.keep0 E16
                  refine OW_ev (Ev_mvb (.inr rfl) rfl) rfl ?_
                  refine OW_nil ?_
                  refine CW_ret ?_
                  refine ⟨rfl, _, (.tmp rfl .nil), ?_⟩
                  first | exact ⟨T, rfl⟩ | exact ⟨T, vb rfl (decide_eq_true (by omega))⟩ | exact ⟨T, by assumption⟩
                · have d15 := c15
                  first | (with_reducible replace d15 := of_decide_eq_false d15) | (with_reducible replace d15 := bnf d15; try (with_reducible replace d15 := of_decide_eq_true d15)) | skip
                  have hc0 : c ≠ 0 := fun e => d15 (by rw [e]; rfl)
                  obtain ⟨NL, hNL⟩ : ∃ x, x = (World.heap w10).size := ⟨_, rfl⟩
                  have hS := hS.bound.mono (E := (fun b => NW ≤ b ∧ b ≠ ba ∧ b < NL)) (fun b h => ⟨h.1.1, h.1.2, by have := h.2; omega⟩)
                  have hbal : ba < NL := by omega
                  refine CW_skip ?_
                  refine CW_seq ?_
                  refine CW_re [(1, .int _ _), (3, .int _ _), (4, .int _ _), (5, .int _ _), (12, .bool _), (13, .pointer _), (15, .pointer _)] ⟨rfl, rfl, rfl, rfl, rfl, rfl, rfl, trivial⟩ (fun g => ?_)
                  refine CW_reg rfl ?_
                  refine OW_ev (Ev_c (.inr rfl)) rfl ?_
                  refine OW_nil ?_
                  refine CW_seq ?_
                  refine CW_seq ?_
                  refine CW_reg rfl ?_
                  refine OW_ev (Ev_mvi (.inl rfl) rfl) rfl ?_
                  refine OW_ev (Ev_mvi (.inr rfl) rfl) rfl ?_
                  refine OW_nil ?_
                  refine CW_block ?_
                  refine CW_loop (α := Nat) (fun (k : Nat) f wr => ∃ (ao : Option Addr) (q : Nat), AllEq f [(1, .int .i64 (s : Int)), (3, .int .i64 (a : Int)), (4, .int .i64 left), (5, .int .u8 (c.toNat : Int)), (13, .pointer (some ⟨bd, 0, none⟩)), (15, .pointer (some ⟨ba, 0, none⟩)), (17, .slice ao k q), (18, .int .i64 ((a : Int) + (k : Int)))] ∧ (k ≤ N) ∧ (DkS (fun b => NW ≤ b ∧ b ≠ ba ∧ b < NL) wr bd dk0) ∧ (Blk wr ba 63 (arC bd 0 wd s)) ∧ (Own NL wr 5 1 (.slice ao k q) ((List.replicate k c).map By)) ∧ (NL ≤ wr.heap.size) ∧ (Kp0 w wr)) (fun k => N - k) 0 ?_ ?_
                  ·
                    exact ⟨none, 0, ⟨rfl, rfl, rfl, rfl, rfl, rfl, rfl, congrArg (Value.int .i64) (by omega), trivial⟩, Nat.zero_le _, hS, hA, Own.none_ _ _ _ _ _, by omega, T⟩
                  ·
                    rintro k f wr ⟨ao, q, hf, hk, hS, hA, O, hnl, T⟩
                    obtain ⟨g, rfl⟩ : ∃ g, f = upl g [(1, .int .i64 (s : Int)), (3, .int .i64 (a : Int)), (4, .int .i64 left), (5, .int .u8 (c.toNat : Int)), (13, .pointer (some ⟨bd, 0, none⟩)), (15, .pointer (some ⟨ba, 0, none⟩)), (17, .slice ao k q), (18, .int .i64 ((a : Int) + (k : Int)))] := ⟨f, upl_self hf⟩
                    clear hf
                    refine CW_seq ?_
                    refine CW_seq ?_
                    refine CW_reg rfl ?_
                    refine OW_ev (Ev_mvi (.inl rfl) rfl) rfl ?_
                    refine OW_ev (Ev_mvp (.inl rfl) rfl) rfl ?_
                    refine OW_st rfl (Stp_call ent_15 rfl rfl rfl (alen_c hA (by omega) (by omega)) ?_)
                    rintro _ w17 ⟨E17, rfl⟩
                    have Z17 := E17.size
                    have T := T.keep0 E17
                    have hS := hS.keep0 E17
                    have hA := hA.keep0 E17
                    have O := O.keep0 E17
                    refine OW_ev (Ev_lss rfl rfl rfl) rfl ?_
                    refine OW_nil ?_
                    refine CW_cond rfl (fun c18 => ?_) (fun c18 => ?_)
                    · have d18 := c18
                      first | (with_reducible replace d18 := of_decide_eq_true d18) | (with_reducible replace d18 := bnt d18; try (with_reducible replace d18 := of_decide_eq_false d18)) | skip
                      have hk2 : k < N := by omega
                      refine CW_skip ?_
                      refine CW_seq ?_
                      refine CW_block ?_
                      refine CW_reg rfl ?_
                      refine OW_ev (Ev_mvs (.inl rfl) rfl) rfl ?_
                      refine OW_ev (Ev_mvi (.inl rfl) rfl) rfl ?_
                      refine OW_st rfl (Stp_buildSlice (l := [_]) el_38 zero_5 rfl rfl rfl rfl ?_)
                      intro b19 w19 hb19 hz19 E19 B19
                      have L19 : _ ≤ b19 := Nat.le_trans T.size (Nat.le_of_eq hb19.symm)
                      have T := T.keep0 E19
                      have hS := hS.keep0 E19
                      have hA := hA.keep0 E19
                      have O := O.keep0 E19
                      have hY : Sl (· = b19) w19 1 (some ⟨b19, 0, none⟩) ([c].map By) := Sl.ofBlk B19 (by simp [By])
                      refine OW_st rfl (Stp_append O hY el_38 rfl rfl rfl rfl (by simp) (By_one _) (by simp [maxLen]; omega) (by simp; omega) (by omega) ?_)
                      intro v20 w20 O20 E20 X20
                      have Z20 := E20.size
                      have T := T.transo E20 (by omega)
                      have hS := hS.keepo E20 (fun b hb _ _ => by have := hb.2.2; omega)
                      have hA := hA.keepo E20 (fun x hx _ _ => by omega)
                      obtain ⟨a20, q20, rfl, l20, m20, S20⟩ := O20.sl
                      have hL20 : ((List.replicate k c).map By ++ [c].map By).length = k + 1 := by simp
                      rw [hL20] at O20
                      rw [← rep_succ] at O20
                      rw [hL20]
                      obtain ⟨aN, rfl⟩ : ∃ x, x = a20 := ⟨_, rfl⟩
                      obtain ⟨qN, rfl⟩ : ∃ x, x = q20 := ⟨_, rfl⟩
                      have ON := O20
                      refine OW_ev (Ev_mvs (.inr rfl) rfl) rfl ?_
                      refine OW_nil ?_
                      refine CW_reg rfl ?_
                      refine OW_ev (Ev_mvi (.inl rfl) rfl) rfl ?_
                      refine OW_ev (Ev_add rfl rfl rfl (by first | (apply IntWalk.i64_in; omega) | (apply IntWalk.u64_in; omega) | (apply IntWalk.u32_in; omega) | (apply IntWalk.u8_in; omega) | (apply IntWalk.i32_in; omega) | rfl)) rfl ?_
                      refine OW_ev (Ev_mvi (.inr rfl) rfl) rfl ?_
                      refine OW_nil ?_
                      exact ⟨k + 1, by omega, aN, qN, ⟨rfl, rfl, rfl, rfl, rfl, rfl, rfl, congrArg (Value.int .i64) (by omega), trivial⟩, by omega, hS, hA, ON, by omega, T⟩
                    · have d18 := c18
                      first | (with_reducible replace d18 := of_decide_eq_false d18) | (with_reducible replace d18 := bnf d18; try (with_reducible replace d18 := of_decide_eq_true d18)) | skip
                      have hk2 : N = k := by omega
                      subst hk2
                      have hin : inside wd s (a : Int) (N : Nat) := by unfold inside; omega
                      refine CW_exit ?_
                      refine blk_same ?_
                      refine CW_seq ?_
                      refine CW_reg rfl ?_
                      refine OW_ev (Ev_mvp (.inl rfl) rfl) rfl ?_
                      refine OW_ev (Ev_mvi (.inl rfl) rfl) rfl ?_
                      have hbc := break_c hS left hll
                      rw [if_neg (by omega : ¬ left < 0), if_neg (by omega : ¬ left < 0)] at hbc
                      obtain ⟨dk1, hdk1⟩ : ∃ x : DkM, x = { dk0 with g := ⟨decide (left = 0), decide (0 < left), left⟩ } := ⟨_, rfl⟩
                      rw [← hdk1] at hbc
                      have es1 : dk1.size = s := by rw [hdk1]; exact es
                      have em1 : dk1.many = mn := by rw [hdk1]; exact em
                      have eV1 : dk1.V = List.replicate (mn * s) 0 := by rw [hdk1]; exact eV
                      have ep1 : dk1.ps = [] := by rw [hdk1]; exact ep
                      refine OW_st rfl (Stp_call ent_16 rfl rfl rfl (hbc) ?_)
                      rintro _ w21 ⟨E21, rfl, HS2⟩
                      have Z21 := E21.size
                      have T := T.trans' E21 (fun i hi h => by have := hS.sep.d1.1; rw [show i = bd from h] at hi; omega)
                      have hA := hA.keepb E21 (fun e => (hS.sep.d1).2.1 e.symm)
                      have O := O.keepb E21 (fun b hb _ e => by have := hS.sep.d1; rw [← e] at this; have := this.2.2; omega)
                      have hS := HS2
                      have Z21 := E21.size
                      refine OW_nil ?_
                      refine CW_seq ?_
                      refine CW_reg rfl ?_
                      refine OW_ev (Ev_mvp (.inl rfl) rfl) rfl ?_
                      refine OW_ev (Ev_mvi (.inl rfl) rfl) rfl ?_
                      refine OW_ev (Ev_mvs (.inl rfl) rfl) rfl ?_
                      refine OW_ev (Ev_bytesSt byt_38_9 rfl rfl (O.sls) (by simp)) rfl ?_
                      refine OW_st rfl (Stp_call ent_11 rfl rfl rfl (put_c hS hA (fun h => h.2.1 rfl) es1 (by omega) (a : Int) (List.replicate N c) (by rw [List.length_replicate]; omega) (by rw [ep1]; exact Nat.zero_le _)) ?_)
                      rintro _ w22 ⟨er22, d22, rfl, E22, HS2, HA2, P22⟩
                      have Z22 := E22.size
                      have T := T.trans' E22 (fun i hi h => h.elim (fun h => by have := h.1; omega) (fun h => by omega))
                      have Z22 := E22.size
                      have hS := HS2.mono (E := (fun b => NW ≤ b ∧ b ≠ ba)) (fun b h => h.elim (fun h => ⟨h.1, h.2.1⟩) (fun h => ⟨by omega, by omega⟩))
                      have hA := HA2
                      obtain ⟨dk2, rfl⟩ : ∃ x, x = d22 := ⟨_, rfl⟩
                      have P := P22
                      obtain ⟨er2, rfl⟩ : ∃ x, x = er22 := ⟨_, rfl⟩
                      obtain ⟨j, hj1, hj2, hj3, hj4⟩ := P.hin (by rw [List.length_replicate]; exact hin)
                      rw [List.length_replicate] at hj1 hj3
                      rw [Int.toNat_natCast, eV1] at hj2
                      rw [Int.toNat_natCast] at hj4
                      have hjz : j = N ∨ j = 0 ∨ (a + j) % s = 0 := by
                        rcases Classical.em (er2 = 0) with h | h
                        · exact .inl (hj3 h)
                        · exact .inr (hj4 h).2
                      have em2 := P.many.trans em1
                      have es2 := P.size.trans es1
                      have ep2 := P.pl
                      rw [ep1, List.length_replicate] at ep2
                      change dk2.ps.length ≤ 0 + N at ep2
                      refine OW_nil ?_
                      refine CW_seq ?_
                      refine CW_re [(1, .int _ _), (3, .int _ _), (5, .int _ _), (13, .pointer _), (15, .pointer _), (17, .slice _ _ _)] ⟨rfl, rfl, rfl, rfl, rfl, rfl, trivial⟩ (fun g => ?_)
                      refine CW_reg rfl ?_
                      refine OW_ev (Ev_mvp (.inl rfl) rfl) rfl ?_
                      have hbc2 := break_c hS 1 (by decide)
                      rw [if_neg (by decide : ¬ (1 : Int) < 0), if_neg (by decide : ¬ (1 : Int) < 0)] at hbc2
                      obtain ⟨dk3, hdk3⟩ : ∃ x : DkM, x = { dk2 with g := ⟨decide ((1 : Int) = 0), decide ((0 : Int) < 1), 1⟩ } := ⟨_, rfl⟩
                      rw [← hdk3] at hbc2
                      have eV3 : dk3.V = dk2.V := by rw [hdk3]; rfl
                      have ep3 : dk3.ps = dk2.ps := by rw [hdk3]
                      have eg3 : dk3.g.down = false := by rw [hdk3]; rfl
                      refine OW_st rfl (Stp_call ent_16 rfl rfl rfl (hbc2) ?_)
                      rintro _ w23 ⟨E23, rfl, HS2⟩
                      have Z23 := E23.size
                      have T := T.trans' E23 (fun i hi h => by have := hS.sep.d1.1; rw [show i = bd from h] at hi; omega)
                      have hA := hA.keepb E23 (fun e => (hS.sep.d1).2 e.symm)
                      have hS := HS2
                      have Z23 := E23.size
                      refine OW_nil ?_
                      refine CW_seq ?_
                      refine CW_reg rfl ?_
                      refine OW_ev (Ev_mvp (.inl rfl) rfl) rfl ?_
                      refine OW_st rfl (Stp_call ent_17 rfl rfl rfl (flush_c hS (by rw [ep3]; omega)) ?_)
                      rintro _ w24 ⟨rfl, E24, HS2⟩
                      have Z24 := E24.size
                      have T := T.trans' E24 (fun i hi h => by have := h.1; omega)
                      have hA := hA.keep E24 (fun h => h.2 rfl)
                      rw [if_neg (by simp [eg3])] at HS2
                      obtain ⟨dk4, hdk4⟩ : ∃ x : DkM, x = dk3.flushed := ⟨_, rfl⟩
                      rw [← hdk4] at HS2
                      have hS := HS2
                      have el4 : dk4.last = dk2.V := by rw [hdk4]; exact eV3
                      have ep4 : dk4.ps = [] := by rw [hdk4]; rfl
                      have em3 : dk3.many = mn := by rw [hdk3]; exact em2
                      have es3 : dk3.size = s := by rw [hdk3]; exact es2
                      have em4 : dk4.many = mn := by rw [hdk4]; exact em3
                      have es4 : dk4.size = s := by rw [hdk4]; exact es3
                      have Z24 := E24.size
                      refine OW_nil ?_
                      refine CW_seq ?_
                      refine CW_reg rfl ?_
                      refine OW_ev (Ev_mvp (.inl rfl) rfl) rfl ?_
                      refine OW_st rfl (Stp_call ent_18 rfl rfl rfl (crash_c (F := fun _ => False) (keep := []) (kc := 0) hS rfl (Nat.le_refl _) (Sl.nil _ _ _ _) (fun b h => h.elim) (-1) (by rw [ep4]; exact Nat.zero_le _)) ?_)
                      rintro _ w25 ⟨rfl, E25, HS2⟩
                      have Z25 := E25.size
                      have T := T.trans' E25 (fun i hi h => by have := h.1; omega)
                      have hA := hA.keep E25 (fun h => h.2 rfl)
                      obtain ⟨dk5, hdk5⟩ : ∃ x : DkM, x = dk4.crashed [] (-1) := ⟨_, rfl⟩
                      rw [← hdk5] at HS2
                      have hS := HS2
                      obtain ⟨cn1, cn2, cn3, cn4⟩ := crashed_nil dk4 (-1)
                      rw [← hdk5] at cn1 cn2 cn3 cn4
                      have eV5 : dk5.V = dk2.V := cn1.trans el4
                      have ec5 : calm dk5.g := by rw [cn2]; exact ⟨rfl, rfl⟩
                      have em5 : dk5.many = mn := cn3.trans em4
                      have es5 : dk5.size = s := cn4.trans es4
                      have Z25 := E25.size
                      refine OW_nil ?_
                      refine CW_seq ?_
                      refine CW_reg rfl ?_
                      refine OW_ev (Ev_mvp (.inl rfl) rfl) rfl ?_
                      refine OW_ev (Ev_mvi (.inl rfl) rfl) rfl ?_
                      refine OW_ev (Ev_mvs (.inl rfl) rfl) rfl ?_
                      refine OW_ev (Ev_len und_38 rfl rfl) rfl ?_
                      refine OW_st rfl (Stp_call ent_14 rfl rfl rfl (get2_c hS hA (fun h => h.2 rfl) es5 (by omega) ec5 (a : Int) (N : Int) (by omega) (fun q h => by omega)) ?_)
                      rintro _ w26 ⟨l26, er26, rfl, E26, HS2, HA2, gy26, gn26⟩
                      have Z26 := E26.size
                      have T := T.trans' E26 (fun i hi h => by
                        rcases h with h | h
                        · have := h.1; omega
                        · omega)
                      have hS := HS2.mono (E := (fun b => NW ≤ b ∧ b ≠ ba)) (fun b h => h.elim id (fun h => ⟨by omega, by omega⟩))
                      have hA := HA2
                      have Z26 := E26.size
                      obtain ⟨l5, rfl⟩ : ∃ x, x = l26 := ⟨_, rfl⟩
                      obtain ⟨g5, eL5⟩ := gy26 hin
                      subst g5
                      rw [Int.toNat_natCast, Int.toNat_natCast, eV5, hj2, stop_eq hj1 (by omega)] at eL5
                      have hsl := stop_len (c := c) hj1
                      subst eL5
                      clear hS hA HS2
                      refine OW_ev (Ev_mvt (.inl rfl) rfl) rfl ?_
                      refine OW_ev (Ev_extract (vs := _) rfl rfl rfl) rfl ?_
                      refine OW_ev (Ev_extract (vs := _) rfl rfl rfl) rfl ?_
                      refine OW_ev (Ev_mvst (.inr rfl) rfl) rfl ?_
                      refine OW_ev (Ev_mvi (.inr rfl) rfl) rfl ?_
                      refine OW_nil ?_
                      refine CW_seq ?_
                      refine CW_seq ?_
                      refine CW_re [(1, .int _ _), (3, .int _ _), (5, .int _ _), (17, .slice _ _ _), (19, .string _), (20, .int _ _)] ⟨rfl, rfl, rfl, rfl, rfl, rfl, trivial⟩ (fun g => ?_)
                      refine CW_reg rfl ?_
                      refine OW_ev (Ev_mvi (.inl rfl) rfl) rfl ?_
                      refine OW_ev (Ev_neq rfl rfl rfl) rfl ?_
                      refine OW_ev (Ev_mvb (.inl rfl) rfl) rfl ?_
                      refine OW_split (d := .tmp 103) rfl (fun c27 => ?_) (fun c27 => ?_)
                      · have d27 := c27
                        first | (with_reducible replace d27 := of_decide_eq_true d27) | (with_reducible replace d27 := bnt d27; try (with_reducible replace d27 := of_decide_eq_false d27)) | skip
                        exact absurd rfl d27
                      · have d27 := c27
                        first | (with_reducible replace d27 := of_decide_eq_false d27) | (with_reducible replace d27 := bnf d27; try (with_reducible replace d27 := of_decide_eq_true d27)) | skip
                        refine OW_yes rfl rfl rfl rfl c27 (Ev.stp (Ev_mvst (.inl rfl) rfl) ?_)
                        refine OW_yes rfl rfl rfl rfl c27 (Ev.stp (Ev_lenSt und_9 rfl rfl) ?_)
                        refine OW_yes rfl rfl rfl rfl c27 (Ev.stp (Ev_mvs (.inl rfl) rfl) ?_)
                        refine OW_yes rfl rfl rfl rfl c27 (Ev.stp (Ev_len und_38 rfl rfl) ?_)
                        refine OW_yes rfl rfl rfl rfl c27 (Ev.stp (Ev_neq rfl rfl rfl) ?_)
                        refine OW_ev (Ev_pickb_f rfl rfl c27 rfl) rfl ?_
                        refine OW_nil ?_
                        refine CW_cond rfl (fun c28 => ?_) (fun c28 => ?_)
                        · have d28 := c28
                          first | (with_reducible replace d28 := of_decide_eq_true d28) | (with_reducible replace d28 := bnt d28; try (with_reducible replace d28 := of_decide_eq_false d28)) | skip
                          exact absurd (by rw [hsl]) d28
                        · have d28 := c28
                          first | (with_reducible replace d28 := of_decide_eq_false d28) | (with_reducible replace d28 := bnf d28; try (with_reducible replace d28 := of_decide_eq_true d28)) | skip
                          refine CW_skip ?_
                          refine CW_seq ?_
                          refine CW_reg rfl ?_
                          refine OW_ev (Ev_c (.inr rfl)) rfl ?_
                          refine OW_nil ?_
                          refine CW_seq ?_
                          refine CW_join (fun f w2 => AllEq f [(1, .int .i64 (s : Int)), (3, .int .i64 (a : Int)), (19, St (stopL j N c)), (21, .int .i64 (j : Int))] ∧ (Kp0 w w2)) ?_ ?_
                          ·
                            refine CW_block ?_
                            refine CW_loop (α := Nat) (fun (i : Nat) f wr => AllEq f [(1, .int .i64 (s : Int)), (3, .int .i64 (a : Int)), (5, .int .u8 (c.toNat : Int)), (19, St (stopL j N c)), (21, .int .i64 (i : Int))] ∧ (i ≤ j) ∧ (Kp0 w wr)) (fun i => j - i) 0 ?_ ?_
                            ·
                              exact ⟨⟨rfl, rfl, rfl, rfl, rfl, trivial⟩, Nat.zero_le _, T⟩
                            ·
                              rintro i f wr ⟨hf, hi, T⟩
                              obtain ⟨g, rfl⟩ : ∃ g, f = upl g [(1, .int .i64 (s : Int)), (3, .int .i64 (a : Int)), (5, .int .u8 (c.toNat : Int)), (19, St (stopL j N c)), (21, .int .i64 (i : Int))] := ⟨f, upl_self hf⟩
                              clear hf
                              refine CW_seq ?_
                              refine CW_seq ?_
                              refine CW_reg rfl ?_
                              refine OW_ev (Ev_mvi (.inl rfl) rfl) rfl ?_
                              refine OW_ev (Ev_mvst (.inl rfl) rfl) rfl ?_
                              refine OW_ev (Ev_lenSt und_9 rfl rfl) rfl ?_
                              refine OW_ev (Ev_lss rfl rfl rfl) rfl ?_
                              refine OW_ev (Ev_mvb (.inl rfl) rfl) rfl ?_
                              refine OW_split (d := .tmp 114) rfl (fun c29 => ?_) (fun c29 => ?_)
                              · have d29 := c29
                                first | (with_reducible replace d29 := of_decide_eq_true d29) | (with_reducible replace d29 := bnt d29; try (with_reducible replace d29 := of_decide_eq_false d29)) | skip
                                have hiN : i < N := by omega
                                have hgi := stop_get (c := c) hj1 hiN
                                refine OW_yes rfl rfl rfl rfl c29 (Ev.stp (Ev_mvst (.inl rfl) rfl) ?_)
                                refine OW_yes rfl rfl rfl rfl c29 (Ev.stp (Ev_mvi (.inl rfl) rfl) ?_)
                                refine OW_yes rfl rfl rfl rfl c29 (Ev.stp (Ev_strIdx i und_9 rfl rfl rfl rfl hgi) ?_)
                                refine OW_yes rfl rfl rfl rfl c29 (Ev.stp (Ev_mvi (.inl rfl) rfl) ?_)
                                refine OW_yes rfl rfl rfl rfl c29 (Ev.stp (Ev_eql rfl rfl rfl) ?_)
                                refine OW_ev (Ev_pickb_t rfl rfl c29 rfl) rfl ?_
                                refine OW_nil ?_
                                refine CW_cond rfl (fun c30 => ?_) (fun c30 => ?_)
                                · have d30 := c30
                                  first | (with_reducible replace d30 := of_decide_eq_true d30) | (with_reducible replace d30 := bnt d30; try (with_reducible replace d30 := of_decide_eq_false d30)) | skip
                                  have hilt : i < j := by
                                    rcases Nat.lt_or_ge i j with h | h
                                    · exact h
                                    · exfalso; rw [if_neg (by omega)] at d30; apply hc0; apply UInt8.toNat_inj.1; have h2 : ((0 : UInt8).toNat : Int) = (c.toNat : Int) := d30; omega
                                  refine CW_skip ?_
                                  refine CW_block ?_
                                  refine CW_reg rfl ?_
                                  refine OW_ev (Ev_mvi (.inl rfl) rfl) rfl ?_
                                  refine OW_ev (Ev_add rfl rfl rfl (by first | (apply IntWalk.i64_in; omega) | (apply IntWalk.u64_in; omega) | (apply IntWalk.u32_in; omega) | (apply IntWalk.u8_in; omega) | (apply IntWalk.i32_in; omega) | rfl)) rfl ?_
                                  refine OW_ev (Ev_mvi (.inr rfl) rfl) rfl ?_
                                  refine OW_nil ?_
                                  exact ⟨i + 1, by omega, ⟨rfl, rfl, rfl, rfl, congrArg (Value.int .i64) (by omega), trivial⟩, by omega, T⟩
                                · have d30 := c30
                                  first | (with_reducible replace d30 := of_decide_eq_false d30) | (with_reducible replace d30 := bnf d30; try (with_reducible replace d30 := of_decide_eq_true d30)) | skip
                                  have hij : i = j := by
                                    rcases Nat.lt_or_ge i j with h | h
                                    · exact absurd (by rw [if_pos h]) d30
                                    · omega
                                  refine CW_exit ?_
                                  refine blk_same ?_
                                  exact ⟨⟨rfl, rfl, rfl, by rw [← hij]; rfl, trivial⟩, T⟩
                              · have d29 := c29
                                first | (with_reducible replace d29 := of_decide_eq_false d29) | (with_reducible replace d29 := bnf d29; try (with_reducible replace d29 := of_decide_eq_true d29)) | skip
                                have hij : i = j := by omega
                                refine OW_no rfl rfl rfl rfl c29 ?_
                                refine OW_no rfl rfl rfl rfl c29 ?_
                                refine OW_no rfl rfl rfl rfl c29 ?_
                                refine OW_no rfl rfl rfl rfl c29 ?_
                                refine OW_no rfl rfl rfl rfl c29 ?_
                                refine OW_ev (Ev_pickb_f rfl rfl c29 rfl) rfl ?_
                                refine OW_nil ?_
                                refine CW_cond_f rfl rfl ?_
                                refine CW_exit ?_
                                refine blk_same ?_
                                exact ⟨⟨rfl, rfl, rfl, by rw [← hij]; rfl, trivial⟩, T⟩
                          ·
                            rintro f w2 ⟨hf, T⟩
                            obtain ⟨g, rfl⟩ : ∃ g, f = upl g [(1, .int .i64 (s : Int)), (3, .int .i64 (a : Int)), (19, St (stopL j N c)), (21, .int .i64 (j : Int))] := ⟨f, upl_self hf⟩
                            clear hf
                            refine CW_seq ?_
                            refine CW_seq ?_
                            refine CW_reg rfl ?_
                            refine OW_ev (Ev_mvi (.inl rfl) rfl) rfl ?_
                            refine OW_ev (Ev_mvi (.inr rfl) rfl) rfl ?_
                            refine OW_nil ?_
                            refine CW_block ?_
                            refine CW_loop (α := Nat) (fun (i : Nat) f wr => AllEq f [(1, .int .i64 (s : Int)), (3, .int .i64 (a : Int)), (19, St (stopL j N c)), (21, .int .i64 (j : Int)), (22, .int .i64 (i : Int))] ∧ (j ≤ i ∧ i ≤ N) ∧ (Kp0 w wr)) (fun i => N - i) j ?_ ?_
                            ·
                              exact ⟨⟨rfl, rfl, rfl, rfl, rfl, trivial⟩, ⟨Nat.le_refl _, hj1⟩, T⟩
                            ·
                              rintro i f wr ⟨hf, hi, T⟩
                              obtain ⟨g, rfl⟩ : ∃ g, f = upl g [(1, .int .i64 (s : Int)), (3, .int .i64 (a : Int)), (19, St (stopL j N c)), (21, .int .i64 (j : Int)), (22, .int .i64 (i : Int))] := ⟨f, upl_self hf⟩
                              clear hf
                              refine CW_seq ?_
                              refine CW_seq ?_
                              refine CW_reg rfl ?_
                              refine OW_ev (Ev_mvi (.inl rfl) rfl) rfl ?_
                              refine OW_ev (Ev_mvst (.inl rfl) rfl) rfl ?_
                              refine OW_ev (Ev_lenSt und_9 rfl rfl) rfl ?_
                              refine OW_ev (Ev_lss rfl rfl rfl) rfl ?_
                              refine OW_nil ?_
                              refine CW_cond rfl (fun c31 => ?_) (fun c31 => ?_)
                              · have d31 := c31
                                first | (with_reducible replace d31 := of_decide_eq_true d31) | (with_reducible replace d31 := bnt d31; try (with_reducible replace d31 := of_decide_eq_false d31)) | skip
                                have hiN : i < N := by omega
                                have hgi := stop_get (c := c) hj1 hiN
                                rw [if_neg (by omega)] at hgi
                                refine CW_skip ?_
                                refine CW_seq ?_
                                refine CW_block ?_
                                refine CW_seq ?_
                                refine CW_reg rfl ?_
                                refine OW_ev (Ev_mvst (.inl rfl) rfl) rfl ?_
                                refine OW_ev (Ev_mvi (.inl rfl) rfl) rfl ?_
                                refine OW_ev (Ev_strIdx i und_9 rfl rfl rfl rfl hgi) rfl ?_
                                refine OW_ev (Ev_neq rfl rfl rfl) rfl ?_
                                refine OW_nil ?_
                                refine CW_cond rfl (fun c32 => ?_) (fun c32 => ?_)
                                · have d32 := c32
                                  first | (with_reducible replace d32 := of_decide_eq_true d32) | (with_reducible replace d32 := bnt d32; try (with_reducible replace d32 := of_decide_eq_false d32)) | skip
                                  exact absurd rfl d32
                                · have d32 := c32
                                  first | (with_reducible replace d32 := of_decide_eq_false d32) | (with_reducible replace d32 := bnf d32; try (with_reducible replace d32 := of_decide_eq_true d32)) | skip
                                  refine CW_skip ?_
                                  refine CW_reg rfl ?_
                                  refine OW_ev (Ev_mvi (.inl rfl) rfl) rfl ?_
                                  refine OW_ev (Ev_add rfl rfl rfl (by first | (apply IntWalk.i64_in; omega) | (apply IntWalk.u64_in; omega) | (apply IntWalk.u32_in; omega) | (apply IntWalk.u8_in; omega) | (apply IntWalk.i32_in; omega) | rfl)) rfl ?_
                                  refine OW_ev (Ev_mvi (.inr rfl) rfl) rfl ?_
                                  refine OW_nil ?_
                                  exact ⟨i + 1, by omega, ⟨rfl, rfl, rfl, rfl, congrArg (Value.int .i64) (by omega), trivial⟩, by omega, T⟩
                              · have d31 := c31
                                first | (with_reducible replace d31 := of_decide_eq_false d31) | (with_reducible replace d31 := bnf d31; try (with_reducible replace d31 := of_decide_eq_true d31)) | skip
                                refine CW_exit ?_
                                refine blk_same ?_
                                refine CW_seq ?_
                                refine CW_reg rfl ?_
                                refine OW_st rfl (Stp_call ent_10 rfl rfl rfl (placed_c _) ?_)
                                rintro _ w33 ⟨E33, rfl⟩
                                have Z33 := E33.size
                                have T := T.keep0 E33
                                refine OW_ev (Ev_mvb (.inl rfl) rfl) rfl ?_
                                refine OW_split (d := .tmp 135) rfl (fun c34 => ?_) (fun c34 => ?_)
                                · have d34 := c34
                                  first | (with_reducible replace d34 := of_decide_eq_true d34) | (with_reducible replace d34 := bnt d34; try (with_reducible replace d34 := of_decide_eq_false d34)) | skip
                                  refine OW_yes rfl rfl rfl rfl c34 (Ev.stp (Ev_mvi (.inl rfl) rfl) ?_)
                                  refine OW_yes rfl rfl rfl rfl c34 (Ev.stp (Ev_mvst (.inl rfl) rfl) ?_)
                                  refine OW_yes rfl rfl rfl rfl c34 (Ev.stp (Ev_lenSt und_9 rfl rfl) ?_)
                                  refine OW_yes rfl rfl rfl rfl c34 (Ev.stp (Ev_eql rfl rfl rfl) ?_)
                                  refine OW_yes rfl rfl rfl rfl c34 (Ev.stp (Ev_mvb (.inl rfl) rfl) ?_)
                                  refine OW_split (d := .tmp 140) rfl (fun c35 => ?_) (fun c35 => ?_)
                                  · have d35 := c35
                                    first | (with_reducible replace d35 := of_decide_eq_true d35) | (with_reducible replace d35 := bnt d35; try (with_reducible replace d35 := of_decide_eq_false d35)) | skip
                                    refine OW_no rfl rfl rfl rfl c35 ?_
                                    refine OW_no rfl rfl rfl rfl c35 ?_
                                    refine OW_no rfl rfl rfl rfl c35 ?_
                                    refine OW_no rfl rfl rfl rfl c35 ?_
                                    refine OW_no rfl rfl rfl rfl c35 ?_
                                    refine OW_no rfl rfl rfl rfl c35 ?_
                                    refine OW_yes rfl rfl rfl rfl c34 (Ev.stp (Ev_pickb_t rfl rfl c35 rfl) ?_)
                                    refine OW_yes rfl rfl rfl rfl c34 (Ev.stp (Ev_mvb (.inl rfl) rfl) ?_)
                                    refine OW_no rfl rfl rfl rfl rfl ?_
                                    refine OW_no rfl rfl rfl rfl rfl ?_
                                    refine OW_yes rfl rfl rfl rfl c34 (Ev.stp (Ev_pickb_t rfl rfl rfl rfl) ?_)
                                    refine OW_ev (Ev_pickb_t rfl rfl c34 rfl) rfl ?_
                                    refine OW_ev (Ev_mvb (.inr rfl) rfl) rfl ?_
                                    refine OW_nil ?_
                                    refine CW_ret ?_
                                    refine ⟨rfl, _, (.tmp rfl .nil), ?_⟩
                                    first | exact ⟨T, rfl⟩ | exact ⟨T, vb rfl (decide_eq_true (by omega))⟩ | exact ⟨T, by assumption⟩
                                  · have d35 := c35
                                    first | (with_reducible replace d35 := of_decide_eq_false d35) | (with_reducible replace d35 := bnf d35; try (with_reducible replace d35 := of_decide_eq_true d35)) | skip
                                    have hjN : j ≠ N := by omega
                                    refine OW_yes rfl rfl rfl rfl c35 (Ev.stp (Ev_mvi (.inl rfl) rfl) ?_)
                                    refine OW_yes rfl rfl rfl rfl c35 (Ev.stp (Ev_mvi (.inl rfl) rfl) ?_)
                                    refine OW_yes rfl rfl rfl rfl c35 (Ev.stp (Ev_add rfl rfl rfl (by apply IntWalk.i64_in; omega)) ?_)
                                    refine OW_yes rfl rfl rfl rfl c35 (Ev.stp (Ev_mvi (.inl rfl) rfl) ?_)
                                    refine OW_yes rfl rfl rfl rfl c35 (Ev.stp (Ev_rem rfl rfl rfl (by omega) (by omega)) ?_)
                                    refine OW_yes rfl rfl rfl rfl c35 (Ev.stp (Ev_eql rfl rfl rfl) ?_)
                                    refine OW_yes rfl rfl rfl rfl c34 (Ev.stp (Ev_pickb_f rfl rfl c35 rfl) ?_)
                                    refine OW_yes rfl rfl rfl rfl c34 (Ev.stp (Ev_mvb (.inl rfl) rfl) ?_)
                                    refine OW_split (d := .tmp 148) rfl (fun c36 => ?_) (fun c36 => ?_)
                                    · have d36 := c36
                                      first | (with_reducible replace d36 := of_decide_eq_true d36) | (with_reducible replace d36 := bnt d36; try (with_reducible replace d36 := of_decide_eq_false d36)) | skip
                                      refine OW_no rfl rfl rfl rfl c36 ?_
                                      refine OW_no rfl rfl rfl rfl c36 ?_
                                      refine OW_yes rfl rfl rfl rfl c34 (Ev.stp (Ev_pickb_t rfl rfl c36 rfl) ?_)
                                      refine OW_ev (Ev_pickb_t rfl rfl c34 rfl) rfl ?_
                                      refine OW_ev (Ev_mvb (.inr rfl) rfl) rfl ?_
                                      refine OW_nil ?_
                                      refine CW_ret ?_
                                      refine ⟨rfl, _, (.tmp rfl .nil), ?_⟩
                                      first | exact ⟨T, rfl⟩ | exact ⟨T, vb rfl (decide_eq_true (by omega))⟩ | exact ⟨T, by assumption⟩
                                    · have d36 := c36
                                      first | (with_reducible replace d36 := of_decide_eq_false d36) | (with_reducible replace d36 := bnf d36; try (with_reducible replace d36 := of_decide_eq_true d36)) | skip
                                      have hjm : ¬ (a + j) % s = 0 := fun h => d36 (by have h2 : (((a + j) % s : Nat) : Int) = 0 := congrArg Int.ofNat h; rw [← Int.natCast_add]; exact h2)
                                      have hj0 : j = 0 := by omega
                                      refine OW_yes rfl rfl rfl rfl c36 (Ev.stp (Ev_mvi (.inl rfl) rfl) ?_)
                                      refine OW_yes rfl rfl rfl rfl c36 (Ev.stp (Ev_eql rfl rfl rfl) ?_)
                                      refine OW_yes rfl rfl rfl rfl c34 (Ev.stp (Ev_pickb_f rfl rfl c36 rfl) ?_)
                                      refine OW_ev (Ev_pickb_t rfl rfl c34 rfl) rfl ?_
                                      refine OW_ev (Ev_mvb (.inr rfl) rfl) rfl ?_
                                      refine OW_nil ?_
                                      refine CW_ret ?_
                                      refine ⟨rfl, _, (.tmp rfl .nil), ?_⟩
                                      first | exact ⟨T, rfl⟩ | exact ⟨T, vb rfl (decide_eq_true (by omega))⟩ | exact ⟨T, by assumption⟩
                                · have d34 := c34
                                  first | (with_reducible replace d34 := of_decide_eq_false d34) | (with_reducible replace d34 := bnf d34; try (with_reducible replace d34 := of_decide_eq_true d34)) | skip
                                  cases c34

theorem stops_c {w : World} {many size wide at_ left : Int} {c : UInt8} (hll : left ≤ 9223372036854775807) : Calls Try.prog 5 #[.int .i64 many, .int .i64 size, .int .i64 wide, .int .i64 at_, .int .i64 left, .int .u8 (c.toNat : Int)] w (Ret fun v w' => Kp0 w w' ∧ v = .bool true) := by
  by_cases h : newOk many size
  · obtain ⟨mn, rfl⟩ : ∃ n : Nat, many = (n : Int) := ⟨many.toNat, by unfold newOk at h; omega⟩
    obtain ⟨s, rfl⟩ : ∃ n : Nat, size = (n : Int) := ⟨size.toNat, by unfold newOk at h; omega⟩
    by_cases hf : 1 ≤ wide ∧ wide ≤ (mn : Int) ∧ (0 : Int) ≤ 0 ∧ 0 + wide ≤ (mn : Int)
    · obtain ⟨wd, rfl⟩ : ∃ n : Nat, wide = (n : Int) := ⟨wide.toNat, by omega⟩
      exact stops_ok h (fun _ _ => hf) hll
    · exact stops_bad2 h (fun _ _ => hf)
  · exact stops_bad1 h

end Go.Proofs.Ythfelkjklnhdiaa