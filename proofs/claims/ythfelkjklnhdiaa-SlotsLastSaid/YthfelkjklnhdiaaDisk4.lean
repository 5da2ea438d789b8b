/- Contract of (*sector.Disk).Write. -/
import Derived.Test.YthfelkjklnhdiaaDisk3
namespace Go.Proofs.Ythfelkjklnhdiaa
open Go Go.RowKit Bx Go.Proofs

def DkM.wrE (d : DkM) (n : Int) (m : List UInt8) : Int := if d.g.down = true then 9 else if n < 0 ∨ (d.many : Int) ≤ n then 6 else if m.length ≠ d.size then 1 else 0
structure DkM.Wrote (d d' : DkM) (n : Int) (m : List UInt8) : Prop where
  many : d'.many = d.many
  size : d'.size = d.size
  last : d'.last = d.last
  no : d.wrE n m ≠ 0 → d'.ps = d.ps ∧ d'.g = d.g
  yes : d.wrE n m = 0 → (∃ box, d'.ps = d.ps ++ [⟨n.toNat, m, box⟩]) ∧ d'.g = d.g.cnt
theorem own_new {a a' : Option Addr} {n c n' c' N : Nat} {Q : Nat → Prop} {R S : Prop} (hX : (Value.slice a' n' c' = Value.slice a n c ∧ R ∧ S) ∨ (Value.slice a' n' c').ownBlock = (Value.slice a n c).ownBlock ∨ (Value.slice a' n' c').ownBlock = some N)
    (hold : ∀ b m q, (Value.slice a m q).ownBlock = some b → Q b) (hnew : Q N) : ∀ b m q, (Value.slice a' m q).ownBlock = some b → Q b := by
  intro b m q hb
  have hb' := ob_slice _ _ _ n' c' _ hb
  rcases hX with ⟨h, _⟩ | h | h
  · rw [h] at hb'; exact hold b _ _ hb'
  · rw [h] at hb'; exact hold b _ _ hb'
  · rw [h] at hb'; injection hb' with e; exact e ▸ hnew
def DkM.push (d : DkM) (a : Nat) (m : List UInt8) (box : Nat) (pa : Option Addr) (pc : Nat) (wa : Option Addr) (wc : Nat) : DkM := { d with ps := d.ps ++ [(⟨a, m, box⟩ : Pnd)], pa := pa, pc := pc, wa := wa, wc := wc }
theorem push_S {D : Nat → Prop} {w : World} {NW bd a box : Nat} {d : DkM} {m : List UInt8} {pa wa : Option Addr} {pc wc : Nat} (hs : d.Sep (fun b => D b ∧ b < NW) bd) (hok : d.Ok) (ha : a < d.many) (hm : m.length = d.size) (hbox : NW ≤ box)
    (kd : Blk w bd 59 (d.push a m box pa pc wa wc).cells) (kl : Blk w d.bl 5 (d.last.map By).flatten) (mp : MpI w d.bm (fun k => if k = (a : Int) then some (d.ps.length : Int) else lastIdx d.ps k))
    (pv : Own 0 w 80 1 (.slice pa (d.ps ++ [(⟨a, m, box⟩ : Pnd)]).length pc) ((d.ps ++ [(⟨a, m, box⟩ : Pnd)]).map cfn)) (wv : Own 0 w 3 1 (.slice wa (d.ps ++ [(⟨a, m, box⟩ : Pnd)]).length wc) ((d.ps ++ [(⟨a, m, box⟩ : Pnd)]).map cat_)) (bx : BoxS w d.ps) (hb : Blk w box 9 [St m])
    (hP : ∀ b n c, (Value.slice pa n c).ownBlock = some b → ((D b ∧ b < NW) ∨ NW ≤ b) ∧ b ≠ bd ∧ b ≠ d.bl ∧ b ≠ d.bm ∧ b ≠ box ∧ (∀ m q, (Value.slice d.wa m q).ownBlock ≠ some b) ∧ ∀ p ∈ d.ps, b ≠ p.box)
    (hW : ∀ b n c, (Value.slice wa n c).ownBlock = some b → ((D b ∧ b < NW) ∨ NW ≤ b) ∧ b ≠ bd ∧ b ≠ d.bl ∧ b ≠ d.bm ∧ b ≠ box ∧ (∀ m q, (Value.slice pa m q).ownBlock ≠ some b) ∧ ∀ p ∈ d.ps, b ≠ p.box) :
    DkS (fun b => D b ∨ NW ≤ b) w bd (d.push a m box pa pc wa wc) := by
  have hD : ∀ {b}, ((D b ∧ b < NW) ∨ NW ≤ b) → (D b ∨ NW ≤ b) := fun h => h.elim (fun h => .inl h.1) .inr
  refine ⟨kd, kl, mp.ext fun k => (lastIdx_push d.ps ⟨a, m, box⟩ k).symm, pv, wv, ?_, ⟨.inl hs.d1.1, .inl hs.d2.1, .inl hs.d3.1, hs.n1, hs.n2, hs.n3, ?_, ?_, ?_, ?_⟩, ⟨hok.many, hok.size, hok.last, ?_, hok.g⟩⟩
  · intro p hp
    rcases List.mem_append.1 hp with hp | hp
    · exact bx p hp
    · rw [List.mem_singleton.1 hp]; exact hb
  · intro b n c hb
    obtain ⟨h1, h2, h3, h4, _⟩ := hP b n c hb
    exact ⟨hD h1, h2, h3, h4⟩
  · intro b n c hb
    obtain ⟨h1, h2, h3, h4, _, h6, _⟩ := hW b n c hb
    exact ⟨hD h1, h2, h3, h4, h6⟩
  · intro p hp
    rcases List.mem_append.1 hp with hp | hp
    · have h := hs.bx p hp
      exact ⟨.inl h.1.1, h.2.1, h.2.2.1, h.2.2.2.1, fun m q hb => (hP _ _ _ hb).2.2.2.2.2.2 p hp rfl, fun m q hb => (hW _ _ _ hb).2.2.2.2.2.2 p hp rfl⟩
    · rw [List.mem_singleton.1 hp]
      have h1 := hs.d1.2; have h2 := hs.d2.2; have h3 := hs.d3.2
      exact ⟨.inr hbox, by show box ≠ bd; omega, by show box ≠ d.bl; omega, by show box ≠ d.bm; omega, fun m q hb => (hP _ _ _ hb).2.2.2.2.1 rfl, fun m q hb => (hW _ _ _ hb).2.2.2.2.1 rfl⟩
  · intro e; exact absurd (show d.ps ++ [_] = [] from e) (by simp)
  · intro p hp
    rcases List.mem_append.1 hp with hp | hp
    · exact hok.ps p hp
    · rw [List.mem_singleton.1 hp]; exact ⟨ha, hm⟩

set_option maxRecDepth 10000 in
set_option maxHeartbeats 2000000 in
theorem write_c {D : Nat → Prop} {w : World} {bd : Nat} {d : DkM} (hS : DkS D w bd d) (n : Int) (m : List UInt8) (hpn : d.ps.length ≤ 100000000) : Calls Try.prog 30 #[.pointer (some ⟨bd, 0, none⟩), .int .i64 n, St m] w (Ret fun v w' => ∃ d' : DkM, Kp D w w' ∧ DkS (fun b => D b ∨ w.heap.size ≤ b) w' bd d' ∧ v = .int .i64 (d.wrE n m) ∧ d.Wrote d' n m) := by
  have hS := hS.bound
  obtain ⟨NW, hNW⟩ : ∃ x, x = w.heap.size := ⟨_, rfl⟩
  rw [← hNW] at hS
  have hs := hS.sep
  have hok := hS.ok
  obtain ⟨kd, kl, mp, pv, wv, bx, -, -⟩ := hS
  have hm := hok.many
  have hz := hok.size
  have hg := hok.g
  have kd : Blk w bd 59 [.int .i64 (d.many : Int), .int .i64 (d.size : Int), .slice (some ⟨d.bl, 0, none⟩) (d.many * d.size) (d.many * d.size), .slice d.pa d.ps.length d.pc, .slice d.wa d.ps.length d.wc, .map (some d.bm), .bool d.g.down, .bool d.g.breaks, .int .i64 d.g.left] := kd
  have hbig : d.many * d.size ≤ 4096 * 1024 := Nat.mul_le_mul hm.2 hz.2
  have T : Kp D w w := Kp.refl _ _
  refine calls_start Try.func30 rfl (n := 53) rfl rfl rfl ?_
  refine CW_seq ?_
  refine CW_reg rfl ?_
  refine OW_st rfl (Stp_box (l := [.string _]) rfl rfl rfl ?_)
  intro b1 w1 hb1 hz1 E1 B1
  have L1 : _ ≤ b1 := Nat.le_trans T.size (Nat.le_of_eq hb1.symm)
  have kd := kd.keep0 E1
  have kl := kl.keep0 E1
  have mp := mp.keep0 E1
  have pv := pv.keep0 E1
  have wv := wv.keep0 E1
  have bx := bx.keep0 E1
  have T := T.keep0 E1
  obtain ⟨box, rfl⟩ : ∃ b, b = b1 := ⟨_, rfl⟩
  have HB := B1
  have hbox : NW ≤ box := by omega
  refine OW_ev (Ev_c (.inr rfl)) rfl ?_
  refine OW_nil ?_
  refine CW_seq ?_
  refine CW_seq ?_
  refine CW_reg rfl ?_
  refine OW_ev (Ev_mvp (.inl rfl) rfl) rfl ?_
  refine OW_ev (Ev_mvi (.inl rfl) rfl) rfl ?_
  refine OW_st rfl (Stp_call ent_43 rfl rfl rfl (refuse_c (⟨kd, kl, mp, pv, wv, bx, hs, hok⟩ : DkS (fun b => D b ∧ b < NW) _ bd d) n) ?_)
  rintro _ w2 ⟨E2, rfl⟩
  have Z2 := E2.size
  have kd := kd.keep0 E2
  have kl := kl.keep0 E2
  have mp := mp.keep0 E2
  have pv := pv.keep0 E2
  have wv := wv.keep0 E2
  have bx := bx.keep0 E2
  have T := T.keep0 E2
  have HB := HB.keep0 E2
  refine OW_ev (Ev_mvi (.inr rfl) rfl) rfl ?_
  refine OW_nil ?_
  refine CW_seq ?_
  refine CW_reg rfl ?_
  refine OW_ev (Ev_mvi (.inl rfl) rfl) rfl ?_
  refine OW_ev (Ev_neq rfl rfl rfl) rfl ?_
  refine OW_nil ?_
  refine CW_cond rfl (fun c3 => ?_) (fun c3 => ?_)
  · have d3 := c3
    first | (with_reducible replace d3 := of_decide_eq_true d3) | (with_reducible replace d3 := bnt d3; try (with_reducible replace d3 := of_decide_eq_false d3)) | skip
    have he := d3
    refine CW_seq ?_
    refine CW_reg rfl ?_
    refine OW_ev (Ev_mvi (.inl rfl) rfl) rfl ?_
    refine OW_ev (Ev_mvi (.inr rfl) rfl) rfl ?_
    refine OW_nil ?_
    refine CW_ret ?_
    refine ⟨rfl, _, (.tmp rfl .nil), ?_⟩
    rcases Bool.eq_false_or_eq_true d.g.down with hd | hd
    · have hwe : d.wrE n m = 9 := if_pos hd
      rw [if_pos hd]
      exact ⟨d, T, (⟨kd, kl, mp, pv, wv, bx, hs, hok⟩ : DkS (fun b => D b ∧ b < NW) _ bd d).mono fun b h => .inl h.1, by rw [hwe]; rfl, ⟨rfl, rfl, rfl, fun _ => ⟨rfl, rfl⟩, fun h => absurd (hwe.symm.trans h) (by decide)⟩⟩
    · have hr : n < 0 ∨ (d.many : Int) ≤ n := by
        rcases Classical.em (n < 0 ∨ (d.many : Int) ≤ n) with h | h
        · exact h
        · rw [if_neg (by simp [hd]), if_neg h] at he; exact absurd rfl he
      have hwe : d.wrE n m = 6 := by unfold DkM.wrE; rw [if_neg (by simp [hd]), if_pos hr]
      rw [if_neg (by simp [hd]), if_pos hr]
      exact ⟨d, T, (⟨kd, kl, mp, pv, wv, bx, hs, hok⟩ : DkS (fun b => D b ∧ b < NW) _ bd d).mono fun b h => .inl h.1, by rw [hwe]; rfl, ⟨rfl, rfl, rfl, fun _ => ⟨rfl, rfl⟩, fun h => absurd (hwe.symm.trans h) (by decide)⟩⟩
  · have d3 := c3
    first | (with_reducible replace d3 := of_decide_eq_false d3) | (with_reducible replace d3 := bnf d3; try (with_reducible replace d3 := of_decide_eq_true d3)) | skip
    have he := d3
    have hd : d.g.down = false := by
      cases hdd : d.g.down with
      | false => rfl
      | true => rw [if_pos hdd] at he; omega
    rw [if_neg (by simp [hd])] at he
    have hr : ¬ (n < 0 ∨ (d.many : Int) ≤ n) := fun h => he (by rw [if_pos h]; omega)
    obtain ⟨a, rfl⟩ : ∃ a : Nat, n = (a : Int) := ⟨n.toNat, by omega⟩
    have ham : a < d.many := by omega
    have hroom := mul_room (size := d.size) ham
    have hll := hok.last
    refine CW_skip ?_
    refine CW_seq ?_
    refine CW_seq ?_
    refine CW_draw (fun W => kd.here W ∧ kl.here W ∧ mp.here W ∧ pv.here W ∧ wv.here W ∧ bx.here W ∧ HB.here W) mixed rfl (fun _ _ _ h => nomatch h.1) ?_
    have E4 : Kp0 _ _ := Kp.drew w2 nob
    have Z4 : (World.drew w2).heap.size = w2.heap.size := rfl
    generalize World.drew w2 = w4 at E4 Z4 ⊢
    have kd := kd.keep0 E4
    have kl := kl.keep0 E4
    have mp := mp.keep0 E4
    have pv := pv.keep0 E4
    have wv := wv.keep0 E4
    have bx := bx.keep0 E4
    have T := T.keep0 E4
    have HB := HB.keep0 E4
    refine AW_take 0 rfl rfl (by decide +kernel) (by decide +kernel) (by decide +kernel) (fun w ⟨kd, kl, mp, pv, wv, bx, HB⟩ => Ev_load one_9 rfl rfl (HB.ld (q := 0) rfl)) ⟨kd, kl, mp, pv, wv, bx, HB⟩ ?_
    refine AW_take 1 rfl rfl (by decide +kernel) (by decide +kernel) (by decide +kernel) (fun w ⟨kd, kl, mp, pv, wv, bx, HB⟩ => Ev_lenSt und_9 rfl rfl) ⟨kd, kl, mp, pv, wv, bx, HB⟩ ?_
    refine AW_take 2 rfl rfl (by decide +kernel) (by decide +kernel) (by decide +kernel) (fun w ⟨kd, kl, mp, pv, wv, bx, HB⟩ => Ev_mvp (.inl rfl) rfl) ⟨kd, kl, mp, pv, wv, bx, HB⟩ ?_
    refine AW_take 3 rfl rfl (by decide +kernel) (by decide +kernel) (by decide +kernel) (fun w ⟨kd, kl, mp, pv, wv, bx, HB⟩ => Ev_nilCheck rfl rfl) ⟨kd, kl, mp, pv, wv, bx, HB⟩ ?_
    refine AW_take 4 rfl rfl (by decide +kernel) (by decide +kernel) (by decide +kernel) (fun w ⟨kd, kl, mp, pv, wv, bx, HB⟩ => Ev_fieldAddr fld_59_1 rfl rfl) ⟨kd, kl, mp, pv, wv, bx, HB⟩ ?_
    refine AW_take 5 rfl rfl (by decide +kernel) (by decide +kernel) (by decide +kernel) (fun w ⟨kd, kl, mp, pv, wv, bx, HB⟩ => Ev_load one_3 rfl rfl (kd.ld (q := 1) rfl)) ⟨kd, kl, mp, pv, wv, bx, HB⟩ ?_
    refine AW_take 6 rfl rfl (by decide +kernel) (by decide +kernel) (by decide +kernel) (fun w ⟨kd, kl, mp, pv, wv, bx, HB⟩ => Ev_neq rfl rfl rfl) ⟨kd, kl, mp, pv, wv, bx, HB⟩ ?_
    refine AW_done (by decide +kernel) ?_
    refine CW_cond rfl (fun c5 => ?_) (fun c5 => ?_)
    · have d5 := c5
      first | (with_reducible replace d5 := of_decide_eq_true d5) | (with_reducible replace d5 := bnt d5; try (with_reducible replace d5 := of_decide_eq_false d5)) | skip
      have hml : m.length ≠ d.size := by omega
      have hwe : d.wrE (a : Int) m = 1 := by unfold DkM.wrE; rw [if_neg (by simp [hd]), if_neg hr, if_pos hml]
      refine CW_seq ?_
      refine CW_re [(0, .pointer _), (1, .int _ _), (5, .pointer _), (6, .int _ _)] ⟨rfl, rfl, rfl, rfl, trivial⟩ (fun g => ?_)
      refine CW_reg rfl ?_
      refine OW_ev (Ev_c (.inr rfl)) rfl ?_
      refine OW_nil ?_
      refine CW_ret ?_
      refine ⟨rfl, _, (.tmp rfl .nil), ?_⟩
      exact ⟨d, T, (⟨kd, kl, mp, pv, wv, bx, hs, hok⟩ : DkS (fun b => D b ∧ b < NW) _ bd d).mono fun b h => .inl h.1, by rw [hwe]; rfl, ⟨rfl, rfl, rfl, fun _ => ⟨rfl, rfl⟩, fun h => absurd (hwe.symm.trans h) (by decide)⟩⟩
    · have d5 := c5
      first | (with_reducible replace d5 := of_decide_eq_false d5) | (with_reducible replace d5 := bnf d5; try (with_reducible replace d5 := of_decide_eq_true d5)) | skip
      have hml : m.length = d.size := by omega
      have hwe : d.wrE (a : Int) m = 0 := by unfold DkM.wrE; rw [if_neg (by simp [hd]), if_neg hr, if_neg (by simp [hml])]
      refine CW_skip ?_
      refine CW_seq ?_
      refine CW_re [(0, .pointer _), (1, .int _ _), (5, .pointer _), (6, .int _ _)] ⟨rfl, rfl, rfl, rfl, trivial⟩ (fun g => ?_)
      refine CW_draw (fun W => kd.here W ∧ kl.here W ∧ pv.here W ∧ wv.here W ∧ bx.here W ∧ HB.here W) mixed rfl (fun _ _ _ h => nomatch h.1) ?_
      have E6 : Kp0 _ _ := Kp.drew w4 nob
      have Z6 : (World.drew w4).heap.size = w4.heap.size := rfl
      generalize World.drew w4 = w6 at E6 Z6 ⊢
      have kd := kd.keep0 E6
      have kl := kl.keep0 E6
      have mp := mp.keep0 E6
      have pv := pv.keep0 E6
      have wv := wv.keep0 E6
      have bx := bx.keep0 E6
      have T := T.keep0 E6
      have HB := HB.keep0 E6
      refine AW_take 0 rfl rfl (by decide +kernel) (by decide +kernel) (by decide +kernel) (fun w ⟨kd, kl, pv, wv, bx, HB⟩ => Ev_mvp (.inl rfl) rfl) ⟨kd, kl, pv, wv, bx, HB⟩ ?_
      refine AW_take 1 rfl rfl (by decide +kernel) (by decide +kernel) (by decide +kernel) (fun w ⟨kd, kl, pv, wv, bx, HB⟩ => Ev_nilCheck rfl rfl) ⟨kd, kl, pv, wv, bx, HB⟩ ?_
      refine AW_take 2 rfl rfl (by decide +kernel) (by decide +kernel) (by decide +kernel) (fun w ⟨kd, kl, pv, wv, bx, HB⟩ => Ev_fieldAddr fld_59_5 rfl rfl) ⟨kd, kl, pv, wv, bx, HB⟩ ?_
      refine AW_take 3 rfl rfl (by decide +kernel) (by decide +kernel) (by decide +kernel) (fun w ⟨kd, kl, pv, wv, bx, HB⟩ => Ev_load (v := .map (some d.bm)) one_55 rfl rfl (kd.ld (q := 5) rfl)) ⟨kd, kl, pv, wv, bx, HB⟩ ?_
      refine AW_take 4 rfl rfl (by decide +kernel) (by decide +kernel) (by decide +kernel) (fun w ⟨kd, kl, pv, wv, bx, HB⟩ => Ev_mvi (.inl rfl) rfl) ⟨kd, kl, pv, wv, bx, HB⟩ ?_
      refine AW_take 5 rfl rfl (by decide +kernel) (by decide +kernel) (by decide +kernel) (fun w ⟨kd, kl, pv, wv, bx, HB⟩ => Ev_mvp (.inl rfl) rfl) ⟨kd, kl, pv, wv, bx, HB⟩ ?_
      refine AW_take 6 rfl rfl (by decide +kernel) (by decide +kernel) (by decide +kernel) (fun w ⟨kd, kl, pv, wv, bx, HB⟩ => Ev_nilCheck rfl rfl) ⟨kd, kl, pv, wv, bx, HB⟩ ?_
      refine AW_take 7 rfl rfl (by decide +kernel) (by decide +kernel) (by decide +kernel) (fun w ⟨kd, kl, pv, wv, bx, HB⟩ => Ev_fieldAddr fld_59_3 rfl rfl) ⟨kd, kl, pv, wv, bx, HB⟩ ?_
      refine AW_take 8 rfl rfl (by decide +kernel) (by decide +kernel) (by decide +kernel) (fun w ⟨kd, kl, pv, wv, bx, HB⟩ => Ev_load one_56 rfl rfl (kd.ld (q := 3) rfl)) ⟨kd, kl, pv, wv, bx, HB⟩ ?_
      refine AW_take 9 rfl rfl (by decide +kernel) (by decide +kernel) (by decide +kernel) (fun w ⟨kd, kl, pv, wv, bx, HB⟩ => Ev_len und_56 rfl rfl) ⟨kd, kl, pv, wv, bx, HB⟩ ?_
      refine AW_one 10 (by decide +kernel) (Next.mk rfl rfl ?_)
      refine Stp_mapUpdate mp map_55 rfl rfl rfl rfl ?_
      intro w7 hz7 E7 B7
      have Z7 := E7.size
      have kd := kd.keepb E7 (Ne.symm hs.n2)
      have kl := kl.keepb E7 hs.n3
      have pv := pv.keepb E7 (fun b _ hb => (hs.pv b _ _ hb).2.2.2)
      have wv := wv.keepb E7 (fun b _ hb => (hs.wv b _ _ hb).2.2.2.1)
      have bx := bx.keepb E7 (fun p hp => (hs.bx p hp).2.2.2.1)
      have T := T.trans' E7 (fun i _ h => by rw [show i = d.bm from h]; exact hs.d3.1)
      have HB := HB.keepb E7 (by have := hs.d3.2; omega)
      clear mp
      have mp := B7
      clear B7
      refine ⟨⟨kd, kl, pv, wv, bx, HB⟩, ?_⟩
      refine AW_done (by decide +kernel) ?_
      refine CW_seq ?_
      refine CW_reg rfl ?_
      refine OW_ev (Ev_mvp (.inl rfl) rfl) rfl ?_
      refine OW_ev (Ev_mvp (.inl rfl) rfl) rfl ?_
      refine OW_ev (Ev_nilCheck rfl rfl) rfl ?_
      refine OW_ev (Ev_fieldAddr fld_59_3 rfl rfl) rfl ?_
      refine OW_ev (Ev_load one_56 rfl rfl (kd.ld (q := 3) rfl)) rfl ?_
      refine OW_ev (Ev_makeFunc rfl rfl rfl) rfl ?_
      refine OW_st rfl (Stp_buildSlice (l := [_]) el_56 zero_80 rfl rfl rfl rfl ?_)
      intro b8 w8 hb8 hz8 E8 B8
      have L8 : _ ≤ b8 := Nat.le_trans T.size (Nat.le_of_eq hb8.symm)
      have kd := kd.keep0 E8
      have kl := kl.keep0 E8
      have mp := mp.keep0 E8
      have pv := pv.keep0 E8
      have wv := wv.keep0 E8
      have bx := bx.keep0 E8
      have T := T.keep0 E8
      have HB := HB.keep0 E8
      have hY : Sl (· = b8) w8 1 (some ⟨b8, 0, none⟩) ([(⟨a, m, box⟩ : Pnd)].map cfn) := Sl.ofBlk B8 (by simp [cfn])
      refine OW_st rfl (Stp_append pv hY el_56 rfl rfl rfl rfl (by simp) (by simp [cfn, Value.oneCell']) (by simp [maxLen]; omega) (by simp; omega) (Nat.zero_le _) ?_)
      intro v9 w9 O9 E9 X9
      have Z9 := E9.size
      have kd := kd.keepo E9 (fun x hx _ he => absurd hx (hs.pv x _ _ he).2.1)
      have kl := kl.keepo E9 (fun x hx _ he => absurd hx (hs.pv x _ _ he).2.2.1)
      have mp := mp.keepo E9 (fun x hx _ he => absurd hx (hs.pv x _ _ he).2.2.2)
      have wv := wv.keepo E9 (fun b _ hv he => absurd he ((hs.wv b _ _ hv).2.2.2.2 _ _))
      have bx := bx.keepo E9 (fun p hp => (hs.bx p hp).2.2.2.2.1 _ _)
      have T := T.trans' E9 (fun i _ hm => (hs.pv i _ _ hm.1).1.1)
      have HB := HB.keepo E9 (fun x hx _ he => by have := (hs.pv x _ _ he).1.2; omega)
      obtain ⟨a9, q9, rfl, l9, m9, S9⟩ := O9.sl
      have hL9 : (d.ps.map cfn ++ [(⟨a, m, box⟩ : Pnd)].map cfn).length = (d.ps ++ [(⟨a, m, box⟩ : Pnd)]).length := by simp
      have hX9 := X9
      rw [hL9] at O9 l9 hX9
      rw [hL9]
      obtain ⟨aPV, rfl⟩ : ∃ x, x = a9 := ⟨_, rfl⟩
      obtain ⟨qPV, rfl⟩ : ∃ x, x = q9 := ⟨_, rfl⟩
      have PV : Own 0 w9 80 1 (.slice aPV (d.ps ++ [(⟨a, m, box⟩ : Pnd)]).length qPV) ((d.ps ++ [(⟨a, m, box⟩ : Pnd)]).map cfn) := by rw [List.map_append]; exact O9
      have hPb := own_new (Q := fun b => ((D b ∧ b < NW) ∨ NW ≤ b) ∧ b ≠ bd ∧ b ≠ d.bl ∧ b ≠ d.bm ∧ b ≠ box ∧ (∀ m q, (Value.slice d.wa m q).ownBlock ≠ some b) ∧ ∀ p ∈ d.ps, b ≠ p.box) hX9 (fun b m q hb => have h := hs.pv b m q hb; ⟨.inl h.1, h.2.1, h.2.2.1, h.2.2.2, by have := h.1.2; omega, fun m q hw => (hs.wv b _ _ hw).2.2.2.2 _ _ hb, fun p hp e => (hs.bx p hp).2.2.2.2.1 _ _ (e ▸ hb)⟩) ⟨.inr (by omega), by have := hs.d1.2; omega, by have := hs.d2.2; omega, by have := hs.d3.2; omega, by omega, fun m q hw => by have := (hs.wv _ _ _ hw).1.2; omega, fun p hp e => by have := (hs.bx p hp).1.2; omega⟩
      have hPlt : ∀ b m q, (Value.slice aPV m q).ownBlock = some b → b < w9.heap.size := fun b m q hb => (PV.blk (by simp) b (ob_slice _ _ _ _ _ _ hb)).1
      refine OW_ev (Ev_nilCheck rfl rfl) rfl ?_
      refine OW_ev (Ev_fieldAddr fld_59_3 rfl rfl) rfl ?_
      refine OW_st rfl (Stp_store (q := 3) kd siz_56 rfl rfl rfl rfl (Nat.le_of_ble_eq_true rfl) rfl ?_)
      intro w10 hz10 E10 B10
      have Z10 := E10.size
      have kl := kl.keepb E10 hs.n1
      have mp := mp.keepb E10 hs.n2
      have wv := wv.keepb E10 (fun b _ hb => (hs.wv b _ _ hb).2.1)
      have bx := bx.keepb E10 (fun p hp => (hs.bx p hp).2.1)
      have T := T.trans' E10 (fun i _ h => by rw [show i = bd from h]; exact hs.d1.1)
      have HB := HB.keepb E10 (by have := hs.d1.2; omega)
      have PV := PV.keepb E10 (fun b _ hb => (hPb b _ _ hb).2.1)
      clear kd
      have kd := B10
      clear B10
      have kd : Blk w10 bd 59 [.int .i64 (d.many : Int), .int .i64 (d.size : Int), .slice (some ⟨d.bl, 0, none⟩) (d.many * d.size) (d.many * d.size), .slice aPV (d.ps ++ [(⟨a, m, box⟩ : Pnd)]).length qPV, .slice d.wa d.ps.length d.wc, .map (some d.bm), .bool d.g.down, .bool d.g.breaks, .int .i64 d.g.left] := kd
      refine OW_nil ?_
      refine CW_seq ?_
      refine CW_re [(0, .pointer _), (1, .int _ _), (6, .int _ _)] ⟨rfl, rfl, rfl, trivial⟩ (fun g => ?_)
      refine CW_reg rfl ?_
      refine OW_ev (Ev_mvp (.inl rfl) rfl) rfl ?_
      refine OW_ev (Ev_mvp (.inl rfl) rfl) rfl ?_
      refine OW_ev (Ev_nilCheck rfl rfl) rfl ?_
      refine OW_ev (Ev_fieldAddr fld_59_4 rfl rfl) rfl ?_
      refine OW_ev (Ev_load one_57 rfl rfl (kd.ld (q := 4) rfl)) rfl ?_
      refine OW_ev (Ev_mvi (.inl rfl) rfl) rfl ?_
      refine OW_st rfl (Stp_buildSlice (l := [_]) el_57 zero_3 rfl rfl rfl rfl ?_)
      intro b11 w11 hb11 hz11 E11 B11
      have L11 : _ ≤ b11 := Nat.le_trans T.size (Nat.le_of_eq hb11.symm)
      have kd := kd.keep0 E11
      have kl := kl.keep0 E11
      have mp := mp.keep0 E11
      have wv := wv.keep0 E11
      have bx := bx.keep0 E11
      have T := T.keep0 E11
      have HB := HB.keep0 E11
      have PV := PV.keep0 E11
      have hY : Sl (· = b11) w11 1 (some ⟨b11, 0, none⟩) ([(⟨a, m, box⟩ : Pnd)].map cat_) := Sl.ofBlk B11 (by simp [cat_])
      refine OW_st rfl (Stp_append wv hY el_57 rfl rfl rfl rfl (by simp) (by simp [cat_, Value.oneCell']) (by simp [maxLen]; omega) (by simp; omega) (Nat.zero_le _) ?_)
      intro v12 w12 O12 E12 X12
      have Z12 := E12.size
      have kd := kd.keepo E12 (fun x hx _ he => absurd hx (hs.wv x _ _ he).2.1)
      have kl := kl.keepo E12 (fun x hx _ he => absurd hx (hs.wv x _ _ he).2.2.1)
      have mp := mp.keepo E12 (fun x hx _ he => absurd hx (hs.wv x _ _ he).2.2.2.1)
      have bx := bx.keepo E12 (fun p hp => (hs.bx p hp).2.2.2.2.2 _ _)
      have T := T.trans' E12 (fun i _ hm => (hs.wv i _ _ hm.1).1.1)
      have HB := HB.keepo E12 (fun x hx _ he => by have := (hs.wv x _ _ he).1.2; omega)
      have PV := PV.keepo E12 (fun b _ hv he => absurd he ((hPb b _ _ hv).2.2.2.2.2.1 _ _))
      obtain ⟨a12, q12, rfl, l12, m12, S12⟩ := O12.sl
      have hL12 : (d.ps.map cat_ ++ [(⟨a, m, box⟩ : Pnd)].map cat_).length = (d.ps ++ [(⟨a, m, box⟩ : Pnd)]).length := by simp
      have hX12 := X12
      rw [hL12] at O12 l12 hX12
      rw [hL12]
      obtain ⟨aWV, rfl⟩ : ∃ x, x = a12 := ⟨_, rfl⟩
      obtain ⟨qWV, rfl⟩ : ∃ x, x = q12 := ⟨_, rfl⟩
      have WV : Own 0 w12 3 1 (.slice aWV (d.ps ++ [(⟨a, m, box⟩ : Pnd)]).length qWV) ((d.ps ++ [(⟨a, m, box⟩ : Pnd)]).map cat_) := by rw [List.map_append]; exact O12
      have hWb := own_new (Q := fun b => ((D b ∧ b < NW) ∨ NW ≤ b) ∧ b ≠ bd ∧ b ≠ d.bl ∧ b ≠ d.bm ∧ b ≠ box ∧ (∀ m q, (Value.slice aPV m q).ownBlock ≠ some b) ∧ ∀ p ∈ d.ps, b ≠ p.box) hX12 (fun b m q hb => have h := hs.wv b m q hb; ⟨.inl h.1, h.2.1, h.2.2.1, h.2.2.2.1, by have := h.1.2; omega, fun m q hp => (hPb b _ _ hp).2.2.2.2.2.1 _ _ hb, fun p hp e => (hs.bx p hp).2.2.2.2.2 _ _ (e ▸ hb)⟩) ⟨.inr (by omega), by have := hs.d1.2; omega, by have := hs.d2.2; omega, by have := hs.d3.2; omega, by omega, fun m q hp => by have := hPlt _ _ _ hp; omega, fun p hp e => by have := (hs.bx p hp).1.2; omega⟩
      refine OW_ev (Ev_nilCheck rfl rfl) rfl ?_
      refine OW_ev (Ev_fieldAddr fld_59_4 rfl rfl) rfl ?_
      refine OW_st rfl (Stp_store (q := 4) kd siz_57 rfl rfl rfl rfl (Nat.le_of_ble_eq_true rfl) rfl ?_)
      intro w13 hz13 E13 B13
      have Z13 := E13.size
      have kl := kl.keepb E13 hs.n1
      have mp := mp.keepb E13 hs.n2
      have bx := bx.keepb E13 (fun p hp => (hs.bx p hp).2.1)
      have T := T.trans' E13 (fun i _ h => by rw [show i = bd from h]; exact hs.d1.1)
      have HB := HB.keepb E13 (by have := hs.d1.2; omega)
      have PV := PV.keepb E13 (fun b _ hb => (hPb b _ _ hb).2.1)
      have WV := WV.keepb E13 (fun b _ hb => (hWb b _ _ hb).2.1)
      clear kd
      have kd := B13
      clear B13
      have kd : Blk w13 bd 59 [.int .i64 (d.many : Int), .int .i64 (d.size : Int), .slice (some ⟨d.bl, 0, none⟩) (d.many * d.size) (d.many * d.size), .slice aPV (d.ps ++ [(⟨a, m, box⟩ : Pnd)]).length qPV, .slice aWV (d.ps ++ [(⟨a, m, box⟩ : Pnd)]).length qWV, .map (some d.bm), .bool d.g.down, .bool d.g.breaks, .int .i64 d.g.left] := kd
      refine OW_nil ?_
      refine CW_seq ?_
      refine CW_reg rfl ?_
      refine OW_ev (Ev_mvp (.inl rfl) rfl) rfl ?_
      have HS0 := push_S (pc := qPV) (wc := qWV) hs hok ham hml hbox kd kl mp PV WV bx HB hPb hWb
      refine OW_st rfl (Stp_call ent_36 rfl rfl rfl (count_c HS0) ?_)
      rintro _ w14 ⟨rfl, E14, HS⟩
      have Z14 := E14.size
      have T := T.trans' E14 (fun i _ h => by rw [show i = bd from h]; exact hs.d1.1)
      refine OW_nil ?_
      refine CW_seq ?_
      refine CW_reg rfl ?_
      refine OW_ev (Ev_c (.inr rfl)) rfl ?_
      refine OW_nil ?_
      refine CW_ret ?_
      refine ⟨rfl, _, (.tmp rfl .nil), ?_⟩
      exact ⟨_, T, HS.mono (fun b h => h.imp id (fun h => by omega)), by rw [hwe]; rfl, ⟨rfl, rfl, rfl, fun h => absurd hwe h, fun _ => ⟨⟨box, by rw [Int.toNat_natCast]; rfl⟩, rfl⟩⟩⟩

end Go.Proofs.Ythfelkjklnhdiaa