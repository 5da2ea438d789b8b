/- The law SlotsLast. -/
import Derived.Test.YthfelkjklnhdiaaSlot6
namespace Go.Proofs.Ythfelkjklnhdiaa
open Go Go.RowKit Bx Go.Proofs

/-- What the slots hold ahead of write i: that which stays is blank, or older. -/
def Kept (d : DkM) (n e i : Nat) : Prop := ∃ A B, TwoS d A B ∧ d.size = n ∧ (if (e + i) % 2 = 0 then (getS B).2 ≠ 0 ∨ (getS B).1.ep < e + i else (getS A).2 ≠ 0 ∨ (getS A).1.ep < e + i)
theorem kept_next {d d' : DkM} {n e i : Nat} {A B : List UInt8} {s : SupM} (hs : s.Ok) (hep : s.ep = e + i) (hn : d.size = n) (hn' : d'.size = d.size)
    (hk : if (e + i) % 2 = 0 then (getS B).2 ≠ 0 ∨ (getS B).1.ep < e + i else (getS A).2 ≠ 0 ∨ (getS A).1.ep < e + i)
    (tw : TwoS d' (if s.ep % 2 = 0 then pad d.size s.str else A) (if s.ep % 2 = 1 then pad d.size s.str else B)) :
    ∃ A' B', TwoS d' A' B' ∧ readS A' B' = (s, 0) ∧ d'.size = n ∧ (if (e + (i + 1)) % 2 = 0 then (getS B').2 ≠ 0 ∨ (getS B').1.ep < e + (i + 1) else (getS A').2 ≠ 0 ∨ (getS A').1.ep < e + (i + 1)) := by
  rw [hep] at tw
  by_cases h : (e + i) % 2 = 0
  · rw [if_pos h] at hk
    rw [if_pos h, if_neg (by omega)] at tw
    refine ⟨_, _, tw, readS_a (getS_pad hs _) (hep ▸ hk), hn'.trans hn, ?_⟩
    rw [if_neg (by omega), getS_pad hs]
    right; show s.ep < _; omega
  · rw [if_neg h] at hk
    rw [if_neg h, if_pos (by omega)] at tw
    refine ⟨_, _, tw, readS_b (getS_pad hs _) (hep ▸ hk), hn'.trans hn, ?_⟩
    rw [if_pos (by omega), getS_pad hs]
    right; show s.ep < _; omega
def smkI (a b c : Int) : List Value := [.int .u64 a, .int .u64 b, .int .u64 0] ++ ((List.replicate 32 (0 : UInt8)).map By).flatten ++ [.int .u64 0, .int .u64 0, .int .u64 c] ++ ((List.replicate 32 (0 : UInt8)).map By).flatten
theorem smkI_nat (a b c : Nat) : smkI (a : Int) (b : Int) (c : Int) = (smk a b c).cells := rfl

set_option maxRecDepth 10000 in
set_option maxHeartbeats 2000000 in
theorem last_bad {w : World} {n e : Int} {ao : Option Addr} {l c : Nat} (hbad : ¬ newOk 3 n) : Calls Try.prog 6 #[.int .i64 n, .int .u64 e, .slice ao l c] w (Ret fun v w' => Kp0 w w' ∧ v = .bool (true)) := by
  have T : Kp0 w w := Kp.refl _ _
  refine calls_start Try.func6 rfl (n := 85) rfl rfl rfl ?_
  refine CW_seq ?_
  refine CW_reg rfl ?_
  refine OW_ev (Ev_c (.inr rfl)) rfl ?_
  refine OW_nil ?_
  refine CW_seq ?_
  refine CW_reg rfl ?_
  refine OW_ev (Ev_mvi (.inl rfl) rfl) rfl ?_
  refine OW_st rfl (Stp_call ent_8 rfl rfl rfl (snew_bad hbad) ?_)
  rintro _ w1 ⟨E1, rfl⟩
  have Z1 := E1.size
  have T := T.keep0 E1
  refine OW_ev (Ev_mvt (.inl rfl) rfl) rfl ?_
  refine OW_ev (Ev_extract (vs := _) rfl rfl rfl) rfl ?_
  refine OW_ev (Ev_extract (vs := _) rfl rfl rfl) rfl ?_
  refine OW_ev (Ev_mvp (.inr rfl) rfl) rfl ?_
  refine OW_ev (Ev_mvi (.inr rfl) rfl) rfl ?_
  refine OW_nil ?_
  refine CW_seq ?_
  refine CW_seq ?_
  refine CW_reg rfl ?_
  refine OW_ev (Ev_mvi (.inl rfl) rfl) rfl ?_
  refine OW_ev (Ev_neq rfl rfl rfl) rfl ?_
  refine OW_ev (Ev_mvb (.inl rfl) rfl) rfl ?_
  refine OW_split (d := .tmp 21) rfl (fun c2 => ?_) (fun c2 => ?_)
  · have d2 := c2
    first | (with_reducible replace d2 := of_decide_eq_true d2) | (with_reducible replace d2 := bnt d2; try (with_reducible replace d2 := of_decide_eq_false d2)) | skip
    refine OW_no rfl rfl rfl rfl c2 ?_
    refine OW_no rfl rfl rfl rfl c2 ?_
    refine OW_ev (Ev_pickb_t rfl rfl c2 rfl) rfl ?_
    refine OW_ev (Ev_mvb (.inl rfl) rfl) rfl ?_
    refine OW_no rfl rfl rfl rfl rfl ?_
    refine OW_no rfl rfl rfl rfl rfl ?_
    refine OW_no rfl rfl rfl rfl rfl ?_
    refine OW_ev (Ev_pickb_t rfl rfl rfl rfl) rfl ?_
    refine OW_ev (Ev_mvb (.inl rfl) rfl) rfl ?_
    refine OW_no rfl rfl rfl rfl rfl ?_
    refine OW_no rfl rfl rfl rfl rfl ?_
    refine OW_no rfl rfl rfl rfl rfl ?_
    refine OW_ev (Ev_pickb_t rfl rfl rfl rfl) rfl ?_
    refine OW_ev (Ev_mvb (.inl rfl) rfl) rfl ?_
    refine OW_no rfl rfl rfl rfl rfl ?_
    refine OW_no rfl rfl rfl rfl rfl ?_
    refine OW_ev (Ev_pickb_t rfl rfl rfl rfl) rfl ?_
    refine OW_nil ?_
    refine CW_cond_t rfl rfl ?_
    refine CW_seq ?_
    refine CW_re [(1, .int _ _), (2, .slice _ _ _), (6, .bool _), (7, .pointer _)] ⟨rfl, rfl, rfl, rfl, trivial⟩ (fun g => ?_)
    refine CW_reg rfl ?_
    refine OW_st rfl (Stp_call ent_20 rfl rfl rfl (slotted_c _) ?_)
    rintro _ w3 ⟨E3, rfl⟩
    have Z3 := E3.size
    have T := T.keep0 E3
    refine OW_ev (Ev_mvb (.inr rfl) rfl) rfl ?_
    refine OW_nil ?_
    refine CW_ret ?_
    refine ⟨rfl, _, (.tmp rfl .nil), ?_⟩
    exact ⟨T, rfl⟩
  · have d2 := c2
    first | (with_reducible replace d2 := of_decide_eq_false d2) | (with_reducible replace d2 := bnf d2; try (with_reducible replace d2 := of_decide_eq_true d2)) | skip
    exact absurd (by decide) d2

set_option maxRecDepth 10000 in
set_option maxHeartbeats 2000000 in
theorem last_ok {F : Nat → Prop} {w : World} {n e : Nat} {ao : Option Addr} {c : Nat} {vs : List Nat} (hV : Sl F w 1 ao (vs.map U64)) (hb : ∀ x ∈ vs, x < 18446744073709551616) (he : e < 18446744073709551616) (hok : newOk 3 n) : Calls Try.prog 6 #[.int .i64 (n : Int), .int .u64 (e : Int), .slice ao vs.length c] w (Ret fun v w' => Kp0 w w' ∧ v = .bool (true)) := by
  have hV := hV.bd
  obtain ⟨NW, hNW⟩ : ∃ x, x = w.heap.size := ⟨_, rfl⟩
  rw [← hNW] at hV
  have T : Kp0 w w := Kp.refl _ _
  refine calls_start Try.func6 rfl (n := 85) rfl rfl rfl ?_
  refine CW_seq ?_
  refine CW_reg rfl ?_
  refine OW_ev (Ev_c (.inr rfl)) rfl ?_
  refine OW_nil ?_
  refine CW_seq ?_
  refine CW_reg rfl ?_
  refine OW_ev (Ev_mvi (.inl rfl) rfl) rfl ?_
  refine OW_st rfl (Stp_call ent_8 rfl rfl rfl (snew_ok (m := 3) (s := n) hok) ?_)
  rintro _ w1 ⟨E1, bd, bl, bm, rfl, hbd, HS0⟩
  have Z1 := E1.size
  have hV := hV.keep0 E1
  have T := T.keep0 E1
  have hbn := HS0.kd.lt
  have hS : DkS (fun b => NW ≤ b) w1 bd (DkM.new 3 n bl bm) := HS0.mono (fun b h => by omega)
  refine OW_ev (Ev_mvt (.inl rfl) rfl) rfl ?_
  refine OW_ev (Ev_extract (vs := _) rfl rfl rfl) rfl ?_
  refine OW_ev (Ev_extract (vs := _) rfl rfl rfl) rfl ?_
  refine OW_ev (Ev_mvp (.inr rfl) rfl) rfl ?_
  refine OW_ev (Ev_mvi (.inr rfl) rfl) rfl ?_
  refine OW_nil ?_
  refine CW_seq ?_
  refine CW_seq ?_
  refine CW_reg rfl ?_
  refine OW_ev (Ev_mvi (.inl rfl) rfl) rfl ?_
  refine OW_ev (Ev_neq rfl rfl rfl) rfl ?_
  refine OW_ev (Ev_mvb (.inl rfl) rfl) rfl ?_
  refine OW_split (d := .tmp 21) rfl (fun c2 => ?_) (fun c2 => ?_)
  · have d2 := c2
    first | (with_reducible replace d2 := of_decide_eq_true d2) | (with_reducible replace d2 := bnt d2; try (with_reducible replace d2 := of_decide_eq_false d2)) | skip
    exact absurd rfl d2
  · have d2 := c2
    first | (with_reducible replace d2 := of_decide_eq_false d2) | (with_reducible replace d2 := bnf d2; try (with_reducible replace d2 := of_decide_eq_true d2)) | skip
    refine OW_yes rfl rfl rfl rfl c2 (Ev.stp (Ev_mvp (.inl rfl) rfl) ?_)
    refine OW_yes rfl rfl rfl rfl c2 (Ev.stp (Ev_ptrNil und_22 rfl rfl) ?_)
    refine OW_ev (Ev_pickb_f rfl rfl c2 rfl) rfl ?_
    refine OW_ev (Ev_mvb (.inl rfl) rfl) rfl ?_
    refine OW_split (d := .tmp 25) rfl (fun c3 => ?_) (fun c3 => ?_)
    · have d3 := c3
      first | (with_reducible replace d3 := of_decide_eq_true d3) | (with_reducible replace d3 := bnt d3; try (with_reducible replace d3 := of_decide_eq_false d3)) | skip
      cases c3
    · have d3 := c3
      first | (with_reducible replace d3 := of_decide_eq_false d3) | (with_reducible replace d3 := bnf d3; try (with_reducible replace d3 := of_decide_eq_true d3)) | skip
      refine OW_yes rfl rfl rfl rfl c3 (Ev.stp (Ev_mvp (.inl rfl) rfl) ?_)
      refine OW_yes rfl rfl rfl rfl c3 (Stp_call ent_19 rfl rfl rfl (fit_c hS) ?_)
      rintro _ w4 ⟨E4, rfl⟩
      have Z4 := E4.size
      have hV := hV.keep0 E4
      have T := T.keep0 E4
      have hS := hS.keep0 E4
      refine OW_yes rfl rfl rfl rfl c3 (Ev.stp (Ev_neq rfl rfl rfl) ?_)
      refine OW_ev (Ev_pickb_f rfl rfl c3 rfl) rfl ?_
      refine OW_ev (Ev_mvb (.inl rfl) rfl) rfl ?_
      refine OW_split (d := .tmp 30) rfl (fun c5 => ?_) (fun c5 => ?_)
      · have d5 := c5
        first | (with_reducible replace d5 := of_decide_eq_true d5) | (with_reducible replace d5 := bnt d5; try (with_reducible replace d5 := of_decide_eq_false d5)) | skip
        refine OW_no rfl rfl rfl rfl c5 ?_
        refine OW_no rfl rfl rfl rfl c5 ?_
        refine OW_no rfl rfl rfl rfl c5 ?_
        refine OW_ev (Ev_pickb_t rfl rfl c5 rfl) rfl ?_
        refine OW_ev (Ev_mvb (.inl rfl) rfl) rfl ?_
        refine OW_no rfl rfl rfl rfl rfl ?_
        refine OW_no rfl rfl rfl rfl rfl ?_
        refine OW_ev (Ev_pickb_t rfl rfl rfl rfl) rfl ?_
        refine OW_nil ?_
        refine CW_cond_t rfl rfl ?_
        refine CW_seq ?_
        refine CW_re [(1, .int _ _), (2, .slice _ _ _), (6, .bool _), (7, .pointer _)] ⟨rfl, rfl, rfl, rfl, trivial⟩ (fun g => ?_)
        refine CW_reg rfl ?_
        refine OW_st rfl (Stp_call ent_20 rfl rfl rfl (slotted_c _) ?_)
        rintro _ w6 ⟨E6, rfl⟩
        have Z6 := E6.size
        have hV := hV.keep0 E6
        have T := T.keep0 E6
        have hS := hS.keep0 E6
        refine OW_ev (Ev_mvb (.inr rfl) rfl) rfl ?_
        refine OW_nil ?_
        refine CW_ret ?_
        refine ⟨rfl, _, (.tmp rfl .nil), ?_⟩
        exact ⟨T, rfl⟩
      · have d5 := c5
        first | (with_reducible replace d5 := of_decide_eq_false d5) | (with_reducible replace d5 := bnf d5; try (with_reducible replace d5 := of_decide_eq_true d5)) | skip
        have hf0 : fitE (DkM.new 3 n bl bm) = 0 := Classical.not_not.1 d5
        have hn256 : 256 ≤ n := (fitE_zero hf0).2
        refine OW_yes rfl rfl rfl rfl c5 (Ev.stp (Ev_mvs (.inl rfl) rfl) ?_)
        refine OW_yes rfl rfl rfl rfl c5 (Ev.stp (Ev_len und_43 rfl rfl) ?_)
        refine OW_yes rfl rfl rfl rfl c5 (Ev.stp (Ev_gtr rfl rfl rfl) ?_)
        refine OW_ev (Ev_pickb_f rfl rfl c5 rfl) rfl ?_
        refine OW_ev (Ev_mvb (.inl rfl) rfl) rfl ?_
        refine OW_split (d := .tmp 35) rfl (fun c7 => ?_) (fun c7 => ?_)
        · have d7 := c7
          first | (with_reducible replace d7 := of_decide_eq_true d7) | (with_reducible replace d7 := bnt d7; try (with_reducible replace d7 := of_decide_eq_false d7)) | skip
          refine OW_no rfl rfl rfl rfl c7 ?_
          refine OW_no rfl rfl rfl rfl c7 ?_
          refine OW_ev (Ev_pickb_t rfl rfl c7 rfl) rfl ?_
          refine OW_nil ?_
          refine CW_cond_t rfl rfl ?_
          refine CW_seq ?_
          refine CW_re [(1, .int _ _), (2, .slice _ _ _), (6, .bool _), (7, .pointer _)] ⟨rfl, rfl, rfl, rfl, trivial⟩ (fun g => ?_)
          refine CW_reg rfl ?_
          refine OW_st rfl (Stp_call ent_20 rfl rfl rfl (slotted_c _) ?_)
          rintro _ w8 ⟨E8, rfl⟩
          have Z8 := E8.size
          have hV := hV.keep0 E8
          have T := T.keep0 E8
          have hS := hS.keep0 E8
          refine OW_ev (Ev_mvb (.inr rfl) rfl) rfl ?_
          refine OW_nil ?_
          refine CW_ret ?_
          refine ⟨rfl, _, (.tmp rfl .nil), ?_⟩
          exact ⟨T, rfl⟩
        · have d7 := c7
          first | (with_reducible replace d7 := of_decide_eq_false d7) | (with_reducible replace d7 := bnf d7; try (with_reducible replace d7 := of_decide_eq_true d7)) | skip
          have hl40 : vs.length ≤ 40 := by omega
          refine OW_yes rfl rfl rfl rfl c7 (Ev.stp (Ev_mvi (.inl rfl) rfl) ?_)
          refine OW_yes rfl rfl rfl rfl c7 (Ev.stp (Ev_gtr rfl rfl rfl) ?_)
          refine OW_ev (Ev_pickb_f rfl rfl c7 rfl) rfl ?_
          refine OW_nil ?_
          refine CW_cond rfl (fun c9 => ?_) (fun c9 => ?_)
          · have d9 := c9
            first | (with_reducible replace d9 := of_decide_eq_true d9) | (with_reducible replace d9 := bnt d9; try (with_reducible replace d9 := of_decide_eq_false d9)) | skip
            refine CW_seq ?_
            refine CW_re [(1, .int _ _), (2, .slice _ _ _), (6, .bool _), (7, .pointer _)] ⟨rfl, rfl, rfl, rfl, trivial⟩ (fun g => ?_)
            refine CW_reg rfl ?_
            refine OW_st rfl (Stp_call ent_20 rfl rfl rfl (slotted_c _) ?_)
            rintro _ w10 ⟨E10, rfl⟩
            have Z10 := E10.size
            have hV := hV.keep0 E10
            have T := T.keep0 E10
            have hS := hS.keep0 E10
            refine OW_ev (Ev_mvb (.inr rfl) rfl) rfl ?_
            refine OW_nil ?_
            refine CW_ret ?_
            refine ⟨rfl, _, (.tmp rfl .nil), ?_⟩
            exact ⟨T, rfl⟩
          · have d9 := c9
            first | (with_reducible replace d9 := of_decide_eq_false d9) | (with_reducible replace d9 := bnf d9; try (with_reducible replace d9 := of_decide_eq_true d9)) | skip
            have he63 : e ≤ 9223372036854775808 := by omega
            have hk0 : Kept (DkM.new 3 n bl bm) n e 0 := ⟨_, _, new_two (by decide) hn256, rfl, by split <;> exact .inl (getS_blank hn256)⟩
            refine CW_skip ?_
            refine CW_seq ?_
            refine CW_seq ?_
            refine CW_re [(1, .int _ _), (2, .slice _ _ _), (6, .bool _), (7, .pointer _)] ⟨rfl, rfl, rfl, rfl, trivial⟩ (fun g => ?_)
            refine CW_reg rfl ?_
            refine OW_ev (Ev_c (.inr rfl)) rfl ?_
            refine OW_nil ?_
            refine CW_block ?_
            refine CW_loop (α := Nat) (fun (i : Nat) f wr => ∃ (d : DkM), AllEq f [(1, .int .u64 (e : Int)), (2, .slice ao vs.length c), (7, .pointer (some ⟨bd, 0, none⟩)), (9, .int .i64 (i : Int))] ∧ (i ≤ vs.length) ∧ (DkS (fun b => NW ≤ b) wr bd d) ∧ (Kept d n e i) ∧ (Sl (fun b => F b ∧ b < NW) wr 1 ao (vs.map U64)) ∧ (Kp0 w wr)) (fun i => vs.length - i) 0 ?_ ?_
            ·
              exact ⟨_, ⟨rfl, rfl, rfl, rfl, trivial⟩, Nat.zero_le _, hS, hk0, hV, T⟩
            ·
              rintro i f wr ⟨d, hf, hi, hS, hk, hV, T⟩
              obtain ⟨g, rfl⟩ : ∃ g, f = upl g [(1, .int .u64 (e : Int)), (2, .slice ao vs.length c), (7, .pointer (some ⟨bd, 0, none⟩)), (9, .int .i64 (i : Int))] := ⟨f, upl_self hf⟩
              clear hf
              refine CW_seq ?_
              refine CW_seq ?_
              refine CW_reg rfl ?_
              refine OW_ev (Ev_mvi (.inl rfl) rfl) rfl ?_
              refine OW_ev (Ev_mvs (.inl rfl) rfl) rfl ?_
              refine OW_ev (Ev_len und_43 rfl rfl) rfl ?_
              refine OW_ev (Ev_lss rfl rfl rfl) rfl ?_
              refine OW_nil ?_
              refine CW_cond rfl (fun c11 => ?_) (fun c11 => ?_)
              · have d11 := c11
                first | (with_reducible replace d11 := of_decide_eq_true d11) | (with_reducible replace d11 := bnt d11; try (with_reducible replace d11 := of_decide_eq_false d11)) | skip
                have hil : i < vs.length := by omega
                obtain ⟨x, hx⟩ : ∃ x, vs[i]? = some x := ⟨vs[i], List.getElem?_eq_getElem hil⟩
                have hg : (vs.map U64)[i]? = some (U64 x) := by rw [List.getElem?_map, hx]; rfl
                have hxb := hb x (List.mem_of_getElem? hx)
                have hsk : (smk (e + i) (x / 3) x).Ok := smk_ok (by omega) (by omega) hxb
                obtain ⟨A, B, two, hdn, hke⟩ := hk
                refine CW_skip ?_
                refine CW_seq ?_
                refine CW_block ?_
                refine CW_seq ?_
                have hS := hS.bound
                refine CW_draw (fun W => hS.here W ∧ hV.here W) mixed rfl (fun _ _ _ h => nomatch h.1) ?_
                have E12 : Kp0 _ _ := Kp.drew wr nob
                have Z12 : (World.drew wr).heap.size = wr.heap.size := rfl
                generalize World.drew wr = w12 at E12 Z12 ⊢
                have hS := hS.keep0 E12
                have hV := hV.keep0 E12
                have T := T.keep0 E12
                refine AW_take 0 rfl rfl (by decide +kernel) (by decide +kernel) (by decide +kernel) (fun w ⟨hS, hV⟩ => Ev_mvi (.inl rfl) rfl) ⟨hS, hV⟩ ?_
                refine AW_take 1 rfl rfl (by decide +kernel) (by decide +kernel) (by decide +kernel) (fun w ⟨hS, hV⟩ => Ev_mvi (.inl rfl) rfl) ⟨hS, hV⟩ ?_
                refine AW_take 2 rfl rfl (by decide +kernel) (by decide +kernel) (by decide +kernel) (fun w ⟨hS, hV⟩ => Ev_conv (kd := .u64) (by kernel_rfl) rfl rfl (by apply IntWalk.u64_in; omega)) ⟨hS, hV⟩ ?_
                refine AW_take 3 rfl rfl (by decide +kernel) (by decide +kernel) (by decide +kernel) (fun w ⟨hS, hV⟩ => Ev_add rfl rfl rfl (by apply IntWalk.u64_in; omega)) ⟨hS, hV⟩ ?_
                refine AW_take 4 rfl rfl (by decide +kernel) (by decide +kernel) (by decide +kernel) (fun w ⟨hS, hV⟩ => Ev_mvs (.inl rfl) rfl) ⟨hS, hV⟩ ?_
                refine AW_take 5 rfl rfl (by decide +kernel) (by decide +kernel) (by decide +kernel) (fun w ⟨hS, hV⟩ => Ev_mvi (.inl rfl) rfl) ⟨hS, hV⟩ ?_
                refine AW_take 6 rfl rfl (by decide +kernel) (by decide +kernel) (by decide +kernel) (fun w ⟨hS, hV⟩ => Ev_idx i (hV.ad hg) sl_43 rfl rfl rfl rfl hil) ⟨hS, hV⟩ ?_
                refine AW_take 7 rfl rfl (by decide +kernel) (by decide +kernel) (by decide +kernel) (fun w ⟨hS, hV⟩ => Ev_load (v := .int .u64 (x : Int)) one_42 rfl rfl ((hV.at_ hg).one 0 rfl)) ⟨hS, hV⟩ ?_
                refine AW_take 8 rfl rfl (by decide +kernel) (by decide +kernel) (by decide +kernel) (fun w ⟨hS, hV⟩ => Ev_mvs (.inl rfl) rfl) ⟨hS, hV⟩ ?_
                refine AW_take 9 rfl rfl (by decide +kernel) (by decide +kernel) (by decide +kernel) (fun w ⟨hS, hV⟩ => Ev_mvi (.inl rfl) rfl) ⟨hS, hV⟩ ?_
                refine AW_take 10 rfl rfl (by decide +kernel) (by decide +kernel) (by decide +kernel) (fun w ⟨hS, hV⟩ => Ev_idx i (hV.ad hg) sl_43 rfl rfl rfl rfl hil) ⟨hS, hV⟩ ?_
                refine AW_take 11 rfl rfl (by decide +kernel) (by decide +kernel) (by decide +kernel) (fun w ⟨hS, hV⟩ => Ev_load (v := .int .u64 (x : Int)) one_42 rfl rfl ((hV.at_ hg).one 0 rfl)) ⟨hS, hV⟩ ?_
                refine AW_take 12 rfl rfl (by decide +kernel) (by decide +kernel) (by decide +kernel) (fun w ⟨hS, hV⟩ => Ev_quo rfl rfl rfl (by omega) (by omega) (by apply IntWalk.u64_in; omega)) ⟨hS, hV⟩ ?_
                refine AW_take 13 rfl rfl (by decide +kernel) (by decide +kernel) (by decide +kernel) (fun w ⟨hS, hV⟩ => Ev_build (l := smkI ((e : Int) + (i : Int)) ((x : Int) / 3) (x : Int)) plc_48 zero_48 rfl rfl rfl) ⟨hS, hV⟩ ?_
                refine AW_one 14 (by decide +kernel) (Next.mk rfl rfl ?_)
                refine Stp_alloc zero_48 rfl ?_
                intro b13 w13 hb13 hz13 E13 B13
                have L13 : _ ≤ b13 := Nat.le_trans T.size (Nat.le_of_eq hb13.symm)
                have hS := hS.keep0 E13
                have hV := hV.keep0 E13
                have T := T.keep0 E13
                obtain ⟨b10, rfl⟩ : ∃ b, b = b13 := ⟨_, rfl⟩
                have HB10 : Blk w13 b10 48 SupM.zero.cells := B13
                have hl_10 : NW ≤ b10 := by have := T.size; omega
                refine ⟨⟨hS, hV⟩, ?_⟩
                refine AW_one 15 (by decide +kernel) (Next.mk rfl rfl ?_)
                refine Stp_store (q := 0) (vs := smkI ((e : Int) + (i : Int)) ((x : Int) / 3) (x : Int)) HB10 siz_48 rfl rfl rfl rfl (Nat.le_refl _) (by rw [show (e : Int) + (i : Int) = ((e + i : Nat) : Int) by omega, show (x : Int) / 3 = ((x / 3 : Nat) : Int) by omega, smkI_nat]; exact SupM.one _) ?_
                intro w14 hz14 E14 B14
                have Z14 := E14.size
                have hS := hS.keepb E14 (fun h => by have := h.2; omega)
                have hV := hV.keepb E14 (fun h => by have := h.2; omega)
                have T := T.trans' E14 (fun j hj h => by have h : j = b10 := h; omega)
                clear HB10
                have HB10 := B14
                clear B14
                have HB10 : Blk w14 b10 48 (smk (e + i) (x / 3) x).cells := by
                  rw [← smkI_nat, show ((e + i : Nat) : Int) = (e : Int) + (i : Int) by omega, show ((x / 3 : Nat) : Int) = (x : Int) / 3 by omega]
                  rw [← putAt_all (l := SupM.zero.cells) (vs := smkI ((e : Int) + (i : Int)) ((x : Int) / 3) (x : Int)) rfl]; exact HB10
                refine ⟨⟨hS, hV⟩, ?_⟩
                refine AW_done (by decide +kernel) ?_
                refine CW_seq ?_
                refine CW_re [(1, .int _ _), (2, .slice _ _ _), (7, .pointer _), (9, .int _ _), (10, .pointer _)] ⟨rfl, rfl, rfl, rfl, rfl, trivial⟩ (fun g => ?_)
                refine CW_reg rfl ?_
                refine OW_ev (Ev_mvp (.inl rfl) rfl) rfl ?_
                refine OW_ev (Ev_loadAgg (l := (smk (e + i) (x / 3) x).cells) agg_48 rfl rfl (HB10.cells (by rw [List.drop_zero, List.take_length])) hsk.len) rfl ?_
                have hb10l := HB10.lt
                refine OW_st rfl (Stp_call ent_21 rfl rfl rfl (wr2_c hS two (smk (e + i) (x / 3) x) hsk) ?_)
                rintro _ w15 ⟨d1, rfl, E15, HS2, em, es, tw⟩
                have Z15 := E15.size
                have hV := hV.keep (E15.fix fun b hb _ h => by have := hb.2; have := h.1; omega)
                have T := T.trans' E15 (fun i hi h => by have := h.1; omega)
                have HB10 := HB10.keep E15 (fun h => by have := h.2; omega)
                have hS : DkS (fun b => NW ≤ b ∧ b ≠ b10) w15 bd d1 := HS2.mono (fun b h => h.elim (fun h => ⟨h.1, by have := h.2; omega⟩) (fun h => ⟨by have := T.size; omega, by omega⟩))
                obtain ⟨A2, B2, two2, hrs, hdn2, hke2⟩ := kept_next hsk rfl hdn es hke tw
                have hrd := rd2_c hS two2
                rw [hrs] at hrd
                dsimp only at hrd
                refine OW_ev (Ev_mvi (.inr rfl) rfl) rfl ?_
                refine OW_nil ?_
                refine CW_seq ?_
                refine CW_reg rfl ?_
                refine OW_ev (Ev_mvp (.inl rfl) rfl) rfl ?_
                refine OW_st rfl (Stp_call ent_22 rfl rfl rfl (hrd) ?_)
                rintro _ w16 ⟨E16, HS2, rfl⟩
                have Z16 := E16.size
                have hV := hV.keepb E16 (fun h => by have := h.2; have := hS.sep.d1.1; omega)
                have T := T.trans' E16 (fun i hi h => by have h : i = bd := h; have := hS.sep.d1.1; omega)
                have HB10 := HB10.keepb E16 (fun e => hS.sep.d1.2 e.symm)
                have hS := HS2.bound
                refine OW_ev (Ev_mvt (.inl rfl) rfl) rfl ?_
                refine OW_ev (Ev_extract (vs := _) rfl rfl rfl) rfl ?_
                refine OW_ev (Ev_extract (vs := _) rfl rfl rfl) rfl ?_
                have HB10l := HB10.lt
                refine OW_st rfl (Stp_alloc zero_48 rfl ?_)
                intro b17 w17 hb17 hz17 E17 B17
                have L17 : _ ≤ b17 := Nat.le_trans T.size (Nat.le_of_eq hb17.symm)
                have hV := hV.keep0 E17
                have T := T.keep0 E17
                have HB10 := HB10.keep0 E17
                have hS := hS.keep0 E17
                obtain ⟨b12, rfl⟩ : ∃ b, b = b17 := ⟨_, rfl⟩
                have HB12 : Blk w17 b12 48 SupM.zero.cells := B17
                have hl_12 : NW ≤ b12 := by have := T.size; omega
                refine OW_st rfl (Stp_store (q := 0) (vs := (smk (e + i) (x / 3) x).cells) HB12 siz_48 rfl rfl rfl hsk.len (by rw [hsk.len]; exact Nat.le_refl _) (SupM.one _) ?_)
                intro w18 hz18 E18 B18
                have Z18 := E18.size
                have hV := hV.keepb E18 (fun h => by have := h.2; omega)
                have T := T.trans' E18 (fun i hi h => by have h : i = b12 := h; omega)
                have HB10 := HB10.keepb E18 (by have := HB10l; omega)
                have hS := hS.keepb E18 (fun h => by have := h.2; omega)
                clear HB12
                have HB12 := B18
                clear B18
                have HB12 : Blk w18 b12 48 (smk (e + i) (x / 3) x).cells := by rw [← putAt_all (l := SupM.zero.cells) (vs := (smk (e + i) (x / 3) x).cells) (hsk.len.trans rfl)]; exact HB12
                refine OW_ev (Ev_mvi (.inr rfl) rfl) rfl ?_
                refine OW_nil ?_
                refine CW_seq ?_
                refine CW_reg rfl ?_
                refine OW_ev (Ev_mvi (.inl rfl) rfl) rfl ?_
                refine OW_ev (Ev_neq rfl rfl rfl) rfl ?_
                refine OW_ev (Ev_mvb (.inl rfl) rfl) rfl ?_
                refine OW_split (d := .tmp 70) rfl (fun c19 => ?_) (fun c19 => ?_)
                · have d19 := c19
                  first | (with_reducible replace d19 := of_decide_eq_true d19) | (with_reducible replace d19 := bnt d19; try (with_reducible replace d19 := of_decide_eq_false d19)) | skip
                  exact absurd rfl d19
                · have d19 := c19
                  first | (with_reducible replace d19 := of_decide_eq_false d19) | (with_reducible replace d19 := bnf d19; try (with_reducible replace d19 := of_decide_eq_true d19)) | skip
                  refine OW_yes rfl rfl rfl rfl c19 (Ev.stp (Ev_mvi (.inl rfl) rfl) ?_)
                  refine OW_yes rfl rfl rfl rfl c19 (Ev.stp (Ev_neq rfl rfl rfl) ?_)
                  refine OW_ev (Ev_pickb_f rfl rfl c19 rfl) rfl ?_
                  refine OW_ev (Ev_mvb (.inl rfl) rfl) rfl ?_
                  refine OW_split (d := .tmp 74) rfl (fun c20 => ?_) (fun c20 => ?_)
                  · have d20 := c20
                    first | (with_reducible replace d20 := of_decide_eq_true d20) | (with_reducible replace d20 := bnt d20; try (with_reducible replace d20 := of_decide_eq_false d20)) | skip
                    exact absurd rfl d20
                  · have d20 := c20
                    first | (with_reducible replace d20 := of_decide_eq_false d20) | (with_reducible replace d20 := bnf d20; try (with_reducible replace d20 := of_decide_eq_true d20)) | skip
                    refine OW_yes rfl rfl rfl rfl c20 (Ev.stp (Ev_loadAgg (l := (smk (e + i) (x / 3) x).cells) agg_48 rfl rfl (HB12.cells (by rw [List.drop_zero, List.take_length])) hsk.len) ?_)
                    refine OW_yes rfl rfl rfl rfl c20 (Ev.stp (Ev_loadAgg (l := (smk (e + i) (x / 3) x).cells) agg_48 rfl rfl (HB10.cells (by rw [List.drop_zero, List.take_length])) hsk.len) ?_)
                    refine OW_yes rfl rfl rfl rfl c20 (Ev.stp (Ev_neS flat_48 rfl rfl rfl hsk.len (sup_ke hsk hsk) (b := false) (by rw [sup_eq hsk hsk, decide_eq_true rfl]; rfl)) ?_)
                    refine OW_ev (Ev_pickb_f rfl rfl c20 rfl) rfl ?_
                    refine OW_ev (Ev_mvb (.inl rfl) rfl) rfl ?_
                    refine OW_split (d := .tmp 79) rfl (fun c21 => ?_) (fun c21 => ?_)
                    · have d21 := c21
                      first | (with_reducible replace d21 := of_decide_eq_true d21) | (with_reducible replace d21 := bnt d21; try (with_reducible replace d21 := of_decide_eq_false d21)) | skip
                      cases c21
                    · have d21 := c21
                      first | (with_reducible replace d21 := of_decide_eq_false d21) | (with_reducible replace d21 := bnf d21; try (with_reducible replace d21 := of_decide_eq_true d21)) | skip
                      refine OW_yes rfl rfl rfl rfl c21 (Ev.stp (Ev_mvp (.inl rfl) rfl) ?_)
                      refine OW_yes rfl rfl rfl rfl c21 (Stp_call ent_23 rfl rfl rfl (pending_c hS) ?_)
                      rintro _ w22 ⟨E22, rfl⟩
                      have Z22 := E22.size
                      have hV := hV.keep0 E22
                      have T := T.keep0 E22
                      have HB10 := HB10.keep0 E22
                      have hS := hS.keep0 E22
                      have HB12 := HB12.keep0 E22
                      refine OW_yes rfl rfl rfl rfl c21 (Ev.stp (Ev_neq rfl rfl rfl) ?_)
                      refine OW_ev (Ev_pickb_f rfl rfl c21 rfl) rfl ?_
                      refine OW_nil ?_
                      refine CW_cond rfl (fun c23 => ?_) (fun c23 => ?_)
                      · have d23 := c23
                        first | (with_reducible replace d23 := of_decide_eq_true d23) | (with_reducible replace d23 := bnt d23; try (with_reducible replace d23 := of_decide_eq_false d23)) | skip
                        exact absurd (by rw [two2.ps]; rfl) d23
                      · have d23 := c23
                        first | (with_reducible replace d23 := of_decide_eq_false d23) | (with_reducible replace d23 := bnf d23; try (with_reducible replace d23 := of_decide_eq_true d23)) | skip
                        refine CW_skip ?_
                        refine CW_re [(1, .int _ _), (2, .slice _ _ _), (7, .pointer _), (9, .int _ _)] ⟨rfl, rfl, rfl, rfl, trivial⟩ (fun g => ?_)
                        refine CW_reg rfl ?_
                        refine OW_ev (Ev_mvi (.inl rfl) rfl) rfl ?_
                        refine OW_ev (Ev_add rfl rfl rfl (by first | (apply IntWalk.i64_in; omega) | (apply IntWalk.u64_in; omega) | (apply IntWalk.u32_in; omega) | (apply IntWalk.u8_in; omega) | (apply IntWalk.i32_in; omega) | rfl)) rfl ?_
                        refine OW_ev (Ev_mvi (.inr rfl) rfl) rfl ?_
                        refine OW_nil ?_
                        exact ⟨i + 1, by omega, d1, ⟨rfl, rfl, rfl, congrArg (Value.int .i64) (by omega), trivial⟩, by omega, hS.mono (fun b h => h.1.1), ⟨A2, B2, two2, hdn2, hke2⟩, hV, T⟩
              · have d11 := c11
                first | (with_reducible replace d11 := of_decide_eq_false d11) | (with_reducible replace d11 := bnf d11; try (with_reducible replace d11 := of_decide_eq_true d11)) | skip
                refine CW_exit ?_
                refine blk_same ?_
                refine CW_seq ?_
                refine CW_reg rfl ?_
                refine OW_st rfl (Stp_call ent_20 rfl rfl rfl (slotted_c _) ?_)
                rintro _ w24 ⟨E24, rfl⟩
                have Z24 := E24.size
                have hS := hS.keep0 E24
                have hV := hV.keep0 E24
                have T := T.keep0 E24
                refine OW_ev (Ev_mvb (.inr rfl) rfl) rfl ?_
                refine OW_nil ?_
                refine CW_ret ?_
                refine ⟨rfl, _, (.tmp rfl .nil), ?_⟩
                exact ⟨T, rfl⟩

theorem last_c {F : Nat → Prop} {w : World} {n : Int} {e : Nat} {ao : Option Addr} {c : Nat} {vs : List Nat} (hV : Sl F w 1 ao (vs.map U64)) (hb : ∀ x ∈ vs, x < 18446744073709551616) (he : e < 18446744073709551616) :
    Calls Try.prog 6 #[.int .i64 n, .int .u64 (e : Int), .slice ao vs.length c] w (Ret fun v w' => Kp0 w w' ∧ v = .bool true) := by
  by_cases h : newOk 3 n
  · obtain ⟨m, rfl⟩ : ∃ m : Nat, n = (m : Int) := ⟨n.toNat, by unfold newOk at h; omega⟩
    exact last_ok hV hb he h
  · exact last_bad h

end Go.Proofs.Ythfelkjklnhdiaa