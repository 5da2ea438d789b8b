/- What two slots hold behind Write and Clear; what they tell. -/
import Derived.Test.YthfelkjklnhdiaaSlot3
import Derived.Test.YthfelkjklnhdiaaArea7
namespace Go.Proofs.Ythfelkjklnhdiaa
open Go Go.RowKit Bx Go.Proofs

theorem fixL_push (n k : Nat) : fixL n (k + 1) = fixL (n / 256) k ++ [UInt8.ofNat n] := by
  unfold fixL
  rw [List.range_succ, List.map_append]
  congr 1
  · apply List.map_congr_left
    intro i hi
    have hi := List.mem_range.1 hi
    unfold fixB
    rw [show 8 * (k + 1 - 1 - i) = 8 + 8 * (k - 1 - i) by omega, Nat.pow_add, ← Nat.div_div_eq_div_mul]
  · simp [fixB]
theorem numL_fix (k : Nat) : ∀ n, n < 256 ^ k → numL (fixL n k) = n := by
  induction k with
  | zero => intro n h; have h0 : n = 0 := by simpa using h
            subst h0; rfl
  | succ k ih =>
    intro n h
    rw [fixL_push, numL_push, ih (n / 256) (by rw [Nat.pow_succ] at h; omega)]
    have e : (UInt8.ofNat n).toNat = n % 256 := by simp
    rw [e]; omega
theorem numL_fix8 {n : Nat} (h : n < 18446744073709551616) : numL (fixL n 8) = n := numL_fix 8 n h
theorem lay_at {vs : List Nat} {rest : List UInt8} {j n : Nat} (h : vs[j]? = some n) (hn : n < 18446744073709551616) : numAt (layL vs ++ rest) j = n := by
  unfold numAt
  have hj := (List.getElem?_eq_some_iff.1 h).1
  have e1 : layL vs = layL (vs.take j) ++ (fixL n 8 ++ layL (vs.drop (j + 1))) := by
    have : vs = vs.take j ++ (n :: vs.drop (j + 1)) := by
      rw [← (List.getElem?_eq_some_iff.1 h).2, ← List.drop_eq_getElem_cons hj, List.take_append_drop]
    conv => lhs; rw [this]
    unfold layL
    rw [List.map_append, List.flatten_append, List.map_cons, List.flatten_cons]
  have hl : (layL (vs.take j)).length = 8 * j := by rw [layL_len, List.length_take]; omega
  rw [e1, List.append_assoc, List.append_assoc, ← hl, List.drop_left, List.take_left' (fixL_length n 8), numL_fix8 hn]
theorem decS_half {s : SupM} (h : s.Ok) : decS (layL [s.ep, s.tail, s.first, s.id, s.fin, s.next] ++ (s.anchor ++ s.sum)) = s := by
  have hl : (layL [s.ep, s.tail, s.first, s.id, s.fin, s.next]).length = 48 := layL_len _
  have e0 := lay_at (vs := [s.ep, s.tail, s.first, s.id, s.fin, s.next]) (rest := s.anchor ++ s.sum) (j := 0) rfl h.ep
  have e1 := lay_at (vs := [s.ep, s.tail, s.first, s.id, s.fin, s.next]) (rest := s.anchor ++ s.sum) (j := 1) rfl h.tail
  have e2 := lay_at (vs := [s.ep, s.tail, s.first, s.id, s.fin, s.next]) (rest := s.anchor ++ s.sum) (j := 2) rfl h.first
  have e3 := lay_at (vs := [s.ep, s.tail, s.first, s.id, s.fin, s.next]) (rest := s.anchor ++ s.sum) (j := 3) rfl h.id
  have e4 := lay_at (vs := [s.ep, s.tail, s.first, s.id, s.fin, s.next]) (rest := s.anchor ++ s.sum) (j := 4) rfl h.fin
  have e5 := lay_at (vs := [s.ep, s.tail, s.first, s.id, s.fin, s.next]) (rest := s.anchor ++ s.sum) (j := 5) rfl h.next
  unfold decS
  generalize hL : layL [s.ep, s.tail, s.first, s.id, s.fin, s.next] = L at *
  have e6 : (L ++ (s.anchor ++ s.sum)).drop 48 = s.anchor ++ s.sum := by rw [← hl, List.drop_left]
  rw [e6]
  have e7 : (s.anchor ++ s.sum).take 32 = s.anchor := by rw [← h.anchor, List.take_left]
  have e8 : ((s.anchor ++ s.sum).drop 32).take 32 = s.sum := by rw [← h.anchor, List.drop_left, h.anchor, ← h.sum, List.take_length]
  rw [e7, e8]
  show SupM.mk (numAt _ 0) (numAt _ 1) (numAt _ 2) s.anchor (numAt _ 3) (numAt _ 4) (numAt _ 5) s.sum = s
  rw [e0, e1, e2, e3, e4, e5]
/-- Two equal halves that begin so tell the super. -/
theorem getS_two {s : SupM} (h : s.Ok) {r : List UInt8} : getS (s.str ++ r) = (s, 0) := by
  have hh := h.half_len
  have e1 : (s.str ++ r).take 113 = s.half := by unfold SupM.str; rw [List.append_assoc, ← hh, List.take_left]
  have e2 : ((s.str ++ r).drop 113).take 113 = s.half := by unfold SupM.str; rw [List.append_assoc, ← hh, List.drop_left, List.take_left]
  have e3 : (s.str ++ r)[0]? = some 83 := rfl
  have e4 : ((s.str ++ r).drop 1).take 112 = layL [s.ep, s.tail, s.first, s.id, s.fin, s.next] ++ (s.anchor ++ s.sum) := by
    have : ((s.str ++ r).drop 1).take 112 = ((s.str ++ r).take 113).drop 1 := by rw [List.drop_take]
    rw [this, e1]; rfl
  unfold getS
  rw [if_neg (by rw [List.length_append, h.str_len]; omega), if_neg (fun h => h e3), e1, e2, if_neg (fun h => h rfl), e4, decS_half h]
theorem getS_pad {s : SupM} (h : s.Ok) (n : Nat) : getS (pad n s.str) = (s, 0) := getS_two h
theorem getS_none {n : Nat} (h : 226 ≤ n) : getS (pad n []) = (SupM.zero, 3) := by
  unfold getS pad
  obtain ⟨k, rfl⟩ : ∃ k, n = k + 1 := ⟨n - 1, by omega⟩
  rw [if_neg (by simp; omega), if_pos (by simp [List.replicate_succ])]
/-- A disk that is calm, with nothing pending, whose first two sectors hold A and B. -/
structure TwoS (d : DkM) (A B : List UInt8) : Prop where
  g : calm d.g
  fit : fitE d = 0
  ps : d.ps = []
  a : secL d.size d.V 0 = A
  b : secL d.size d.V 1 = B
theorem fitE_zero {d : DkM} (h : fitE d = 0) : 2 ≤ d.many ∧ 256 ≤ d.size := by unfold fitE at h; split at h <;> omega
theorem DkM.Ok.vlen {d : DkM} (h : d.Ok) : d.V.length = d.many * d.size := allP_length h.ps h.last
theorem put_two {d : DkM} (h : d.Ok) (hf : 2 ≤ d.many) {k : Nat} (hk : k < 2) {m : List UInt8} (hm : m.length = d.size) :
    secL d.size (putL d.V (k * d.size) m) 0 = (if k = 0 then m else secL d.size d.V 0) ∧ secL d.size (putL d.V (k * d.size) m) 1 = (if k = 1 then m else secL d.size d.V 1) := by
  have hv := h.vlen
  have hr := mul_room (size := d.size) (show k < d.many by omega)
  rcases (show k = 0 ∨ k = 1 by omega) with rfl | rfl
  · exact ⟨secL_same hm (by omega), secL_other hm (by omega) (by decide)⟩
  · exact ⟨secL_other hm (by omega) (by decide), secL_same hm (by omega)⟩
theorem swr_calm {d d' : DkM} {s : SupM} {er : Int} {A B : List UInt8} (h : SWr d d' s er) (hk : d.Ok) (hs : s.Ok) (h2 : TwoS d A B) :
    er = 0 ∧ d'.many = d.many ∧ d'.size = d.size ∧ TwoS d' (if s.ep % 2 = 0 then pad d.size s.str else A) (if s.ep % 2 = 1 then pad d.size s.str else B) := by
  obtain ⟨hm2, hs2⟩ := fitE_zero h2.fit
  have hpl : (pad d.size s.str).length = d.size := pad_len (by rw [hs.str_len]; omega)
  have hw : d.wrE ((s.ep : Int) % 2) (pad d.size s.str) = 0 := by
    unfold DkM.wrE
    rw [if_neg (by simp [h2.g.1]), if_neg (by omega), if_neg (by rw [hpl]; simp)]
  obtain ⟨d1, hW, hh⟩ := h
  obtain ⟨⟨box, hps⟩, hg⟩ := hW.yes hw
  rw [calm_cnt h2.g] at hg
  rcases hh with ⟨h1, _⟩ | ⟨_, ⟨h1, _⟩ | ⟨_, rfl, rfl⟩⟩
  · exact absurd hw h1
  · rw [hg, h2.g.1] at h1; cases h1
  · have hc1 : calm d1.g := by rw [hg]; exact h2.g
    have hV : d1.V = putL d.V (s.ep % 2 * d.size) (pad d.size s.str) := by
      unfold DkM.V
      rw [hps, hW.size, hW.last, allP_push]
      show putL _ (((s.ep : Int) % 2).toNat * d.size) _ = _
      rw [show ((s.ep : Int) % 2).toNat = s.ep % 2 by omega]
    have hp := put_two hk hm2 (Nat.mod_lt s.ep (by decide : 0 < 2)) hpl
    refine ⟨rfl, hW.many, hW.size, ⟨by rw [flushed_g hc1]; exact hc1, ?_, rfl, ?_, ?_⟩⟩
    · show fitE d1.flushed = 0
      have := h2.fit
      unfold fitE at this ⊢
      show (if d1.many < 2 ∨ d1.size < 256 then (1 : Int) else 0) = 0
      rw [hW.many, hW.size]; exact this
    · show secL d1.size d1.V 0 = _
      rw [hV, hW.size, hp.1, h2.a]
    · show secL d1.size d1.V 1 = _
      rw [hV, hW.size, hp.2, h2.b]
theorem wr2_c {D : Nat → Prop} {w : World} {bd : Nat} {d : DkM} {A B : List UInt8} (hS : DkS D w bd d) (h2 : TwoS d A B) (s : SupM) (hs : s.Ok) :
    Calls Try.prog 21 #[.pointer (some ⟨bd, 0, none⟩), .agg s.cells.toArray] w (Ret fun v w' => ∃ d', v = .int .i64 0 ∧ Kp D w w' ∧ DkS (fun b => D b ∨ w.heap.size ≤ b) w' bd d' ∧ d'.many = d.many ∧ d'.size = d.size ∧ TwoS d' (if s.ep % 2 = 0 then pad d.size s.str else A) (if s.ep % 2 = 1 then pad d.size s.str else B)) := by
  refine (swrite_c hS s hs h2.fit (by rw [h2.ps]; exact Nat.zero_le _)).mono fun e W' he => ?_
  obtain ⟨v, rfl, er, d', rfl, hk, hS', hW⟩ := he.val
  obtain ⟨rfl, e1, e2, e3⟩ := swr_calm hW hS.ok hs h2
  exact ⟨d', rfl, hk, hS', e1, e2, e3⟩
theorem rd2_c {D : Nat → Prop} {w : World} {bd : Nat} {d : DkM} {A B : List UInt8} (hS : DkS D w bd d) (h2 : TwoS d A B) :
    Calls Try.prog 22 #[.pointer (some ⟨bd, 0, none⟩)] w (Ret fun v w' => Kp (fun b => b = bd) w w' ∧ DkS D w' bd d ∧ v = .tuple #[.agg (readS A B).1.cells.toArray, .int .i64 (readS A B).2]) :=
  sread_c hS h2.fit h2.g h2.a.symm h2.b.symm

end Go.Proofs.Ythfelkjklnhdiaa