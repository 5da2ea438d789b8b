/- More rules for operations: an array cut by its address, an element of an array's value, the bytes of a string, numbers cut to bytes. Any program. -/
import Derived.Test.YthfelkjklnhdiaaOps4
import Derived.Test.YthfelkjklnhdiaaDiskAbs
import Derived.Lib.ConvBytes
namespace Bx
open Go Go.RowKit
section
variable {P : Program} {n : Nat} {f : Fr} {w : World} {o : Oper} {N : Fr → World → Prop}
/-- a[:] of an array at q in block b. -/
theorem Ev_sliceArr {t e size m b q : Nat} {x : Operand} (hs : arrOk P t e size m = true) (ho : o.op = .slice t x none none none) (hx : ev f x = .pointer (some ⟨b, q, none⟩)) : Ev P o f w (.slice (some ⟨b, q, none⟩) m m) := by
  obtain ⟨inf, h1, h2, h3⟩ := arrOk_spec hs
  simp [Ev, execOp, ho, hx, Instr.sliceAt, Instr.sliceBounds, Instr.sliceBound, Instr.sureAddr, run_underlying h1, Go.sizeOf, typeInfo, h2, h3, Addr.add_zero']
/-- An element, of one cell, of an array's value. -/
theorem Ev_idxAgg {t e m : Nat} {x y : Operand} {k : IntKind} {z : Int} {l : List Value} {v : Value} (i : Nat) (hs : arrOk P t e 1 m = true) (h1 : oneOk P e = true) (ho : o.op = .index t x y) (hx : ev f x = .agg l.toArray)
    (hy : ev f y = .int k z) (hz : z = (i : Int)) (hi : i < m) (hl : l[i]? = some v) : Ev P o f w v := by
  obtain ⟨inf, hu, h2, h3⟩ := arrOk_spec hs
  subst hz
  have hlt : (i : Int) < (m : Int) := by omega
  simp [Ev, execOp, ho, hx, hy, Instr.index, asIntOf, run_underlying hu, hi, Go.sizeOf, typeInfo, h2, h3, part, run_isAgg_one h1, hl]
def toBytesOk (P : Program) (t dst e : Nat) : Bool :=
  (match P.underlying t with | some .string => true | _ => false) && (match P.underlying dst with | some (.slice e') => e' == e | _ => false) && (match P.underlying e with | some (.int .u8) => true | _ => false)
theorem toBytesOk_spec {t dst e : Nat} (h : toBytesOk P t dst e = true) : P.underlying t = some .string ∧ P.underlying dst = some (.slice e) ∧ P.underlying e = some (.int .u8) := by
  simp only [toBytesOk, Bool.and_eq_true] at h
  obtain ⟨⟨h1, h2⟩, h3⟩ := h
  refine ⟨?_, ?_, ?_⟩
  · cases h4 : P.underlying t with
    | none => rw [h4] at h1; cases h1
    | some d => rw [h4] at h1; cases d <;> first | rfl | cases h1
  · cases h4 : P.underlying dst with
    | none => rw [h4] at h2; cases h2
    | some d =>
      rw [h4] at h2
      cases d with
      | slice e' => rw [show e' = e by simpa using h2]
      | _ => cases h2
  · cases h4 : P.underlying e with
    | none => rw [h4] at h3; cases h3
    | some d =>
      rw [h4] at h3
      cases d with
      | int k => cases k <;> first | rfl | cases h3
      | _ => cases h3
/-- []byte(s). -/
theorem Stp_stBytes {t dst e : Nat} {x : Operand} {l : List UInt8} (hk : toBytesOk P t dst e = true) (ho : o.op = .convert t dst x) (hx : ev f x = St l)
    (h : ∀ g c w', g = w.heap.size → w'.heap.size = g + 1 → Kp0 w w' → Sl (· = g) w' 1 (some ⟨g, 0, none⟩) (l.map By) → N (upo f o.dst (.slice (some ⟨g, 0, none⟩) l.length c)) w') : Stp P n o f w N := by
  obtain ⟨h1, h2, h3⟩ := toBytesOk_spec hk
  have hr := Lib.run_convert_string_bytes (P := P) w t dst e ⟨l.toArray⟩ h1 h2 h3
  have hsz : (ByteArray.mk l.toArray).size = l.length := by show l.toArray.size = _; simp
  rw [hsz] at hr
  refine Stp_val (v := .slice (some ⟨w.heap.size, 0, none⟩) l.length (grownCap w l.length 0 e)) (w' := Lib.bytesWorld w e ⟨l.toArray⟩) ?_ (h _ _ _ rfl (Lib.bytesWorld_size _ _ _) ⟨?_, ?_, ?_, ?_, ?_⟩ ⟨?_, ?_⟩)
  · simp only [execOp, ho, hx]
    rw [Sem.run_bind, hr]
    rfl
  · simp [Lib.bytesWorld, World.freeze, World.alloc, World.drew, -World.alloc_eq, -World.drew_eq]
  · simp [Lib.bytesWorld, World.freeze, World.alloc, World.drew, -World.alloc_eq, -World.drew_eq]
  · simp [Lib.bytesWorld, World.freeze, World.alloc, World.drew, -World.alloc_eq, -World.drew_eq]
  · rw [Lib.bytesWorld_size]; omega
  · intro k hk _; exact Lib.bytesWorld_at_old w e _ k hk
  · intro e he
    obtain ⟨b, _, rfl⟩ := List.mem_map.1 he; rfl
  · intro _
    refine ⟨rfl, rfl, by rw [Lib.bytesWorld_size]; exact Nat.lt_succ_self _, fun i e' he j v hv => ?_⟩
    rw [List.getElem?_map] at he
    obtain ⟨b, hb, rfl⟩ := Option.map_eq_some_iff.1 he
    obtain ⟨hi, hb⟩ := List.getElem?_eq_some_iff.1 hb
    have h0 : j = 0 := by
      rcases Nat.eq_zero_or_pos j with h | h
      · exact h
      · rw [List.getElem?_eq_none (by show 1 ≤ j; exact h)] at hv; cases hv
    subst h0
    have := Lib.bytesWorld_cell w e ⟨l.toArray⟩ i (by rw [hsz]; exact hi)
    show (Lib.bytesWorld w e ⟨l.toArray⟩).cell? ⟨w.heap.size, 0 + i * 1 + 0, none⟩ = _
    rw [Nat.zero_add, Nat.mul_one, Nat.add_zero, this]
    injection hv with hv
    rw [← hv]
    simp [List.getD, hi, hb]
theorem wrap_u8 (z : Nat) : IntKind.u8.wrap (z : Int) = ((UInt8.ofNat z).toNat : Int) := by
  have h1 : (IntKind.u8.signed) = false := rfl
  have h2 : IntKind.u8.bits = 8 := rfl
  unfold IntKind.wrap
  rw [h1, h2]
  simp
theorem shr_nat (x y : Nat) : (x : Int) / 2 ^ ((y : Int)).toNat = ((x / 2 ^ y : Nat) : Int) := by
  rw [Int.toNat_natCast]; push_cast; rfl
/-- Byte number i, the greatest first, of k bytes of n. -/
def fixB (n k i : Nat) : UInt8 := UInt8.ofNat (n / 2 ^ (8 * (k - 1 - i)))
/-- The k bytes of n, the greatest first. -/
def fixL (n k : Nat) : List UInt8 := (List.range k).map (fixB n k)
/-- The same, if only the first i are laid. -/
def fixA (n k i : Nat) : List UInt8 := (List.range k).map fun j => if j < i then fixB n k j else 0
theorem fixL_length (n k : Nat) : (fixL n k).length = k := by simp [fixL]
theorem fixA_length (n k i : Nat) : (fixA n k i).length = k := by simp [fixA]
theorem fixA_zero (n k : Nat) : fixA n k 0 = List.replicate k 0 := by
  unfold fixA
  apply List.ext_getElem?
  intro j
  rw [List.getElem?_map, List.getElem?_replicate]
  by_cases h : j < k
  · rw [List.getElem?_range h, if_pos h]; rfl
  · rw [List.getElem?_eq_none (by simpa using h), if_neg h]; rfl
theorem fixA_all (n k : Nat) : fixA n k k = fixL n k := by
  unfold fixA fixL
  exact List.map_congr_left fun j hj => if_pos (List.mem_range.1 hj)
theorem fixA_put {n k i : Nat} (h : i < k) : putL (fixA n k i) i [fixB n k i] = fixA n k (i + 1) := by
  apply List.ext_getElem?
  intro j
  rw [putL_get (by rw [fixA_length]; exact h)]
  unfold fixA
  rw [List.getElem?_map, List.getElem?_map]
  by_cases hj : j < k
  · rw [List.getElem?_range hj]
    by_cases h1 : i ≤ j ∧ j < i + [fixB n k i].length
    · have : j = i := by have := h1.1; have := h1.2; simp at this; omega
      subst this
      rw [if_pos h1]
      simp
    · rw [if_neg h1]
      have h2 : j ≠ i := fun e => h1 (by subst e; simp)
      by_cases h3 : j < i
      · simp [h3, Nat.lt_succ_of_lt h3]
      · simp [h3, show ¬ j < i + 1 by omega]
  · have h1 : (List.range k)[j]? = none := List.getElem?_eq_none (by simpa using hj)
    rw [h1, if_neg (by simp only [List.length_cons, List.length_nil]; omega)]
    rfl
end
end Bx
