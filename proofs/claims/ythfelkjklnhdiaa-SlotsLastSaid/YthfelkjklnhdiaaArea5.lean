/- Contracts of Get and Sync of package area, of a disk that does not go down. -/
import Derived.Test.YthfelkjklnhdiaaArea4
namespace Go.Proofs.Ythfelkjklnhdiaa
open Go Go.RowKit Bx Go.Proofs

theorem get_part {V : List UInt8} {s A lo hi : Nat} (h1 : lo < hi) (h2 : hi ≤ s) (hA : A * s + s ≤ V.length) : ((secL s V A).drop lo).take (hi - lo) = (V.drop (A * s + lo)).take (hi - lo) := by
  unfold secL
  rw [← List.drop_drop]
  apply List.ext_getElem?
  intro j
  rw [List.getElem?_take, List.getElem?_take]
  split
  · rw [List.getElem?_drop, List.getElem?_drop, List.getElem?_take, if_pos (by omega)]
  · rfl

set_option maxRecDepth 10000 in
set_option maxHeartbeats 2000000 in
theorem get1_c {D1 : Nat → Prop} {w : World} {bd ba bl bv f mn s sec lo hi B0 : Nat} {d : DkM} {p v : Value} {l : List UInt8} (hS : DkS D1 w bd d) (hp : BP p bl) (HP : Blk w bl 75 [p, v]) (HO : OwnB B0 w 5 v l) (HV : Blk w bv 26 [.pointer (some ⟨ba, 0, none⟩)]) (HA : Blk w ba 63 (arC bd f mn s)) (hsz : d.size = s) (hg : calm d.g) (nl : ¬ D1 bl) (nv : ¬ D1 bv) (na : ¬ D1 ba) (nvl : bv ≠ bl) (nal : ba ≠ bl) (hvd : ∀ x, v.ownBlock = some x → ¬ D1 x) (hvn : ∀ x, v.ownBlock = some x → x ≠ bv ∧ x ≠ ba) (hlh : lo < hi) (hhs : hi ≤ s) (hsec : f + sec < d.many) (hll : l.length ≤ 1000000) (hB0 : B0 ≤ w.heap.size) : Calls Try.prog 31 #[.agg #[.int .i64 (sec : Int), .int .i64 (lo : Int), .int .i64 (hi : Int)], .pointer (some ⟨bv, 0, none⟩), .pointer (some ⟨bl, 0, none⟩)] w (Ret fun r w' => ∃ v2, r = .int .i64 0 ∧ Kp (fun b => D1 b ∨ b = bl ∨ (v.ownBlock = some b ∧ B0 ≤ b)) w w' ∧ DkS D1 w' bd d ∧ Blk w' bl 75 [.pointer (some ⟨bl, 0, none⟩), v2] ∧ OwnB B0 w' 5 v2 (l ++ (d.V.drop ((f + sec) * s + lo)).take (hi - lo)) ∧ ∀ x, v2.ownBlock = some x → v.ownBlock = some x ∨ w.heap.size ≤ x) := by
  have hS := hS.bound
  obtain ⟨NW, hNW⟩ : ∃ x, x = w.heap.size := ⟨_, rfl⟩
  rw [← hNW] at hS
  have hs := hS.sep
  have hbb := HP.lt
  have hvl : ∀ x, v.ownBlock = some x → x < NW := fun x hx => by obtain ⟨_, _, _, _, _, h, _⟩ := HO.sl; have := (h x hx).2; omega
  have hmy := hS.ok.many
  have hsy := hS.ok.size
  have hVl : d.V.length = d.many * s := by rw [← hsz]; exact allP_length hS.ok.ps hS.ok.last
  have hroom := mul_room (size := s) hsec
  have hsl := secL_length (size := s) (a := f + sec) (l := d.V) (by rw [hVl]; omega)
  have T : Kp (fun b => D1 b ∨ b = bl ∨ (v.ownBlock = some b ∧ B0 ≤ b)) w w := Kp.refl _ _
  refine calls_start Try.func31 rfl (n := 32) rfl rfl rfl ?_
  refine CW_seq ?_
  refine CW_reg rfl ?_
  refine OW_st rfl (Stp_box (l := [.int _ _, .int _ _, .int _ _]) rfl rfl rfl ?_)
  intro b1 w1 hb1 hz1 E1 B1
  have L1 : _ ≤ b1 := Nat.le_trans T.size (Nat.le_of_eq hb1.symm)
  have hS := hS.keep0 E1
  have HP := HP.keep0 E1
  have HO := HO.keep0 E1
  have HV := HV.keep0 E1
  have HA := HA.keep0 E1
  have T := T.keep0 E1
  obtain ⟨bp, rfl⟩ : ∃ b, b = b1 := ⟨_, rfl⟩
  have PC : Blk w1 bp 71 [.int .i64 (sec : Int), .int .i64 (lo : Int), .int .i64 (hi : Int)] := B1
  refine OW_ev (Ev_c (.inr rfl)) rfl ?_
  refine OW_nil ?_
  refine CW_seq ?_
  refine CW_draw (fun W => HP.here W ∧ HO.here W ∧ HV.here W ∧ HA.here W ∧ PC.here W) mixed rfl (fun _ _ _ h => nomatch h.1) ?_
  have E2 : Kp0 _ _ := Kp.drew w1 nob
  have Z2 : (World.drew w1).heap.size = w1.heap.size := rfl
  generalize World.drew w1 = w2 at E2 Z2 ⊢
  have hS := hS.keep0 E2
  have HP := HP.keep0 E2
  have HO := HO.keep0 E2
  have HV := HV.keep0 E2
  have HA := HA.keep0 E2
  have T := T.keep0 E2
  have PC := PC.keep0 E2
  refine AW_take 0 rfl rfl (by decide +kernel) (by decide +kernel) (by decide +kernel) (fun w ⟨HP, HO, HV, HA, PC⟩ => Ev_load (v := .pointer (some ⟨ba, 0, none⟩)) one_26 rfl rfl (HV.ld (q := 0) rfl)) ⟨HP, HO, HV, HA, PC⟩ ?_
  refine AW_take 1 rfl rfl (by decide +kernel) (by decide +kernel) (by decide +kernel) (fun w ⟨HP, HO, HV, HA, PC⟩ => Ev_nilCheck rfl rfl) ⟨HP, HO, HV, HA, PC⟩ ?_
  refine AW_take 2 rfl rfl (by decide +kernel) (by decide +kernel) (by decide +kernel) (fun w ⟨HP, HO, HV, HA, PC⟩ => Ev_fieldAddr fld_63_0 rfl rfl) ⟨HP, HO, HV, HA, PC⟩ ?_
  refine AW_take 3 rfl rfl (by decide +kernel) (by decide +kernel) (by decide +kernel) (fun w ⟨HP, HO, HV, HA, PC⟩ => Ev_load one_22 rfl rfl (HA.ld (q := 0) rfl)) ⟨HP, HO, HV, HA, PC⟩ ?_
  refine AW_take 4 rfl rfl (by decide +kernel) (by decide +kernel) (by decide +kernel) (fun w ⟨HP, HO, HV, HA, PC⟩ => Ev_load (v := .pointer (some ⟨ba, 0, none⟩)) one_26 rfl rfl (HV.ld (q := 0) rfl)) ⟨HP, HO, HV, HA, PC⟩ ?_
  refine AW_take 5 rfl rfl (by decide +kernel) (by decide +kernel) (by decide +kernel) (fun w ⟨HP, HO, HV, HA, PC⟩ => Ev_nilCheck rfl rfl) ⟨HP, HO, HV, HA, PC⟩ ?_
  refine AW_take 6 rfl rfl (by decide +kernel) (by decide +kernel) (by decide +kernel) (fun w ⟨HP, HO, HV, HA, PC⟩ => Ev_fieldAddr fld_63_1 rfl rfl) ⟨HP, HO, HV, HA, PC⟩ ?_
  refine AW_take 7 rfl rfl (by decide +kernel) (by decide +kernel) (by decide +kernel) (fun w ⟨HP, HO, HV, HA, PC⟩ => Ev_load one_3 rfl rfl (HA.ld (q := 1) rfl)) ⟨HP, HO, HV, HA, PC⟩ ?_
  refine AW_take 8 rfl rfl (by decide +kernel) (by decide +kernel) (by decide +kernel) (fun w ⟨HP, HO, HV, HA, PC⟩ => Ev_fieldAddr fld_71_0 rfl rfl) ⟨HP, HO, HV, HA, PC⟩ ?_
  refine AW_take 9 rfl rfl (by decide +kernel) (by decide +kernel) (by decide +kernel) (fun w ⟨HP, HO, HV, HA, PC⟩ => Ev_load one_3 rfl rfl (PC.ld (q := 0) rfl)) ⟨HP, HO, HV, HA, PC⟩ ?_
  refine AW_take 10 rfl rfl (by decide +kernel) (by decide +kernel) (by decide +kernel) (fun w ⟨HP, HO, HV, HA, PC⟩ => Ev_add rfl rfl rfl (by apply IntWalk.i64_in; omega)) ⟨HP, HO, HV, HA, PC⟩ ?_
  refine AW_one 11 (by decide +kernel) (Next.mk rfl rfl ?_)
  have hrc := read_c hS ((f : Int) + (sec : Int))
  have hrd : d.rd ((f : Int) + (sec : Int)) = (secL s d.V (f + sec), 0, d.g) := by unfold DkM.rd; rw [if_neg (by simp [hg.1]), if_neg (by omega), hsz, show ((f : Int) + (sec : Int)).toNat = f + sec by omega, calm_cnt hg]
  rw [hrd] at hrc
  refine Stp_call ent_25 rfl rfl rfl (hrc) ?_
  rintro _ w3 ⟨E3, HS2, rfl⟩
  have Z3 := E3.size
  have HP := HP.keepb E3 (fun e => nl (by rw [e]; exact hs.d1.1))
  have HO := HO.keepb E3 (fun x _ hx e => (hvd x hx) (by rw [e]; exact hs.d1.1))
  have HV := HV.keepb E3 (fun e => nv (by rw [e]; exact hs.d1.1))
  have HA := HA.keepb E3 (fun e => na (by rw [e]; exact hs.d1.1))
  have T := T.trans' E3 (fun i _ h => .inl (by rw [show i = bd from h]; exact hs.d1.1))
  have PC := PC.keepb E3 (by have := hs.d1.2; omega)
  have hS := HS2
  refine ⟨⟨HP, HO, HV, HA, PC⟩, ?_⟩
  refine AW_take 12 rfl rfl (by decide +kernel) (by decide +kernel) (by decide +kernel) (fun w ⟨HP, HO, HV, HA, PC⟩ => Ev_mvt (.inl rfl) rfl) ⟨HP, HO, HV, HA, PC⟩ ?_
  refine AW_take 13 rfl rfl (by decide +kernel) (by decide +kernel) (by decide +kernel) (fun w ⟨HP, HO, HV, HA, PC⟩ => Ev_extract (vs := _) rfl rfl rfl) ⟨HP, HO, HV, HA, PC⟩ ?_
  refine AW_take 14 rfl rfl (by decide +kernel) (by decide +kernel) (by decide +kernel) (fun w ⟨HP, HO, HV, HA, PC⟩ => Ev_extract (vs := _) rfl rfl rfl) ⟨HP, HO, HV, HA, PC⟩ ?_
  refine AW_take 15 rfl rfl (by decide +kernel) (by decide +kernel) (by decide +kernel) (fun w ⟨HP, HO, HV, HA, PC⟩ => Ev_mvst (.inr rfl) rfl) ⟨HP, HO, HV, HA, PC⟩ ?_
  refine AW_take 16 rfl rfl (by decide +kernel) (by decide +kernel) (by decide +kernel) (fun w ⟨HP, HO, HV, HA, PC⟩ => Ev_mvi (.inr rfl) rfl) ⟨HP, HO, HV, HA, PC⟩ ?_
  refine AW_done (by decide +kernel) ?_
  refine CW_seq ?_
  refine CW_seq ?_
  refine CW_re [(2, _), (3, .pointer _), (4, .int _ _), (5, .string _), (6, .int _ _)] ⟨rfl, rfl, rfl, rfl, rfl, trivial⟩ (fun g => ?_)
  refine CW_reg rfl ?_
  refine OW_ev (Ev_mvi (.inl rfl) rfl) rfl ?_
  refine OW_ev (Ev_neq rfl rfl rfl) rfl ?_
  refine OW_nil ?_
  refine CW_cond rfl (fun c4 => ?_) (fun c4 => ?_)
  · have d4 := c4
    first | (with_reducible replace d4 := of_decide_eq_true d4) | (with_reducible replace d4 := bnt d4; try (with_reducible replace d4 := of_decide_eq_false d4)) | skip
    exact absurd rfl d4
  · have d4 := c4
    first | (with_reducible replace d4 := of_decide_eq_false d4) | (with_reducible replace d4 := bnf d4; try (with_reducible replace d4 := of_decide_eq_true d4)) | skip
    refine CW_skip ?_
    refine CW_seq ?_
    refine CW_reg rfl ?_
    refine OW_ev (Ev_mvst (.inl rfl) rfl) rfl ?_
    refine OW_ev (Ev_fieldAddr fld_71_1 rfl rfl) rfl ?_
    refine OW_ev (Ev_load one_3 rfl rfl (PC.ld (q := 1) rfl)) rfl ?_
    refine OW_ev (Ev_fieldAddr fld_71_2 rfl rfl) rfl ?_
    refine OW_ev (Ev_load one_3 rfl rfl (PC.ld (q := 2) rfl)) rfl ?_
    refine OW_ev (Ev_strLH lo hi und_9 rfl rfl rfl rfl rfl rfl (by omega) (by rw [hsl]; omega)) rfl ?_
    refine OW_st rfl (Stp_call ent_32 rfl rfl rfl (wrstr_c hp HP HO (by have := T.size; omega) (by rw [List.length_take, List.length_drop, hsl]; omega)) ?_)
    rintro _ w5 ⟨v2, rfl, E5, HP2, HO2, hX2⟩
    have Z5 := E5.size
    have HV := HV.keep E5 (fun h => h.elim (fun h => nvl h) (fun h => (hvn bv h.1).1 rfl))
    have HA := HA.keep E5 (fun h => h.elim (fun h => nal h) (fun h => (hvn ba h.1).2 rfl))
    have T := T.trans' E5 (fun i _ h => .inr h)
    have PC := PC.keep E5 (fun h => h.elim (fun h => by omega) (fun h => by have := hvl _ h.1; omega))
    have hS := hS.keep E5 (fun b hb h => h.elim (fun h => nl (h ▸ hb.1)) (fun h => hvd b h.1 hb.1))
    refine OW_nil ?_
    refine CW_seq ?_
    refine CW_reg rfl ?_
    refine OW_ev (Ev_c (.inr rfl)) rfl ?_
    refine OW_nil ?_
    refine CW_ret ?_
    refine ⟨rfl, _, (.tmp rfl .nil), ?_⟩
    rw [get_part hlh hhs (by rw [hVl]; omega)] at HO2
    refine ⟨_, rfl, T, hS.mono (fun b h => h.1), HP2, HO2, fun x hx => (hX2 x hx).imp id (fun h => by omega)⟩

end Go.Proofs.Ythfelkjklnhdiaa