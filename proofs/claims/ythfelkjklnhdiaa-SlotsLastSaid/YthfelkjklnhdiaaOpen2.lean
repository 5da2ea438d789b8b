/- More arguments: strings, bools, and rows of four to nine of them. Any program. -/
import Derived.Test.YthfelkjklnhdiaaOpen
import Derived.Test.YthfelkjklnhdiaaOps3
namespace Bx
open Go Go.RowKit Go.ChangeShapes Go.WideShapes Go.ChangeAt
section
variable {H : Type} {enc : TypeId × Value → H} {P : Program} {w : World} {t : TypeId} {v : Value} {d : DataW H} {p : List MemPlace} {b : Nat} {sp : Nat → Bool} {hd : Bool} {r : Reach} {b0 : Nat}
theorem St_of (s : ByteArray) : ∃ l : List UInt8, Value.string s = St l ∧ l.length = s.size := ⟨s.data.toList, by cases s with | mk a => show Value.string ⟨a⟩ = Value.string ⟨a.toList.toArray⟩; rw [Array.toArray_toList], by cases s with | mk a => exact Array.length_toList⟩
theorem arg_str (hv : Value.okWide P w r b0 t v) (h : DataW.Trod enc P w b sp hd t v d p) (hu : P.underlying t = some .string) : ∃ l : List UInt8, v = St l ∧ l.length ≤ maxLen := by
  obtain ⟨s, rfl⟩ := okWide_string hu hv
  obtain ⟨n, h⟩ := h
  obtain ⟨s', h1, _, h2⟩ := DataW.trod_string hu h
  cases h1
  obtain ⟨l, h3, h4⟩ := St_of s
  exact ⟨l, h3, by omega⟩
theorem arg_bool (hv : Value.okWide P w r b0 t v) (_h : DataW.Trod enc P w b sp hd t v d p) (hu : P.underlying t = some .bool) : ∃ x, v = .bool x := okWide_bool hu hv
theorem wf64' {n : Int} (h : (Lit.int .i64 n).wf = true) : -9223372036854775808 ≤ n ∧ n ≤ 9223372036854775807 := by
  simp [Lit.wf, IntKind.min, IntKind.max, IntKind.signed, IntKind.bits] at h
  omega
theorem wfu64 {n : Int} (h : (Lit.int .u64 n).wf = true) : 0 ≤ n ∧ n ≤ 18446744073709551615 := by
  simp [Lit.wf, IntKind.min, IntKind.max, IntKind.signed, IntKind.bits] at h
  omega
theorem wfu8 {n : Int} (h : (Lit.int .u8 n).wf = true) : 0 ≤ n ∧ n ≤ 255 := by
  simp [Lit.wf, IntKind.min, IntKind.max, IntKind.signed, IntKind.bits] at h
  omega
theorem u8_of {n : Int} (h : 0 ≤ n ∧ n ≤ 255) : ∃ c : UInt8, n = (c.toNat : Int) := by
  refine ⟨UInt8.ofNat n.toNat, ?_⟩
  have : (UInt8.ofNat n.toNat).toNat = n.toNat % 256 := by simp
  rw [this]; omega
end
section
variable {H : Type} {enc : TypeId × Value → H} {P : Program} {w : World} {b : Nat} {sp : Nat → Bool} {hd : Bool}
theorem trodAll_n4 {t0 t1 t2 t3 : TypeId} {args : Array Value} {ds : List (DataW H)} {ps : List MemPlace} (h : DataW.TrodAll enc P w b sp hd [t0, t1, t2, t3] args.toList ds ps) :
    ∃ v0 v1 v2 v3 d0 d1 d2 d3 p0 p1 p2 p3, args = #[v0, v1, v2, v3] ∧ ds = [d0, d1, d2, d3] ∧ ps = p0 ++ p1 ++ p2 ++ p3 ∧ DataW.Trod enc P w b sp hd t0 v0 d0 p0 ∧ DataW.Trod enc P w b sp hd t1 v1 d1 p1 ∧ DataW.Trod enc P w b sp hd t2 v2 d2 p2 ∧ DataW.Trod enc P w b sp hd t3 v3 d3 p3 := by
  obtain ⟨v0, w0, d0, e0, p0, q0, ha, rfl, rfl, g0, r0⟩ := trodAll_cons h
  obtain ⟨v1, w1, d1, e1, p1, q1, rfl, rfl, rfl, g1, r1⟩ := trodAll_cons r0
  obtain ⟨v2, w2, d2, e2, p2, q2, rfl, rfl, rfl, g2, r2⟩ := trodAll_cons r1
  obtain ⟨v3, w3, d3, e3, p3, q3, rfl, rfl, rfl, g3, r3⟩ := trodAll_cons r2
  obtain ⟨rfl, rfl, rfl⟩ := trodAll_nil r3
  exact ⟨v0, v1, v2, v3, d0, d1, d2, d3, p0, p1, p2, p3, by cases args; simp_all, rfl, by simp, g0, g1, g2, g3⟩
theorem trodAll_n5 {t0 t1 t2 t3 t4 : TypeId} {args : Array Value} {ds : List (DataW H)} {ps : List MemPlace} (h : DataW.TrodAll enc P w b sp hd [t0, t1, t2, t3, t4] args.toList ds ps) :
    ∃ v0 v1 v2 v3 v4 d0 d1 d2 d3 d4 p0 p1 p2 p3 p4, args = #[v0, v1, v2, v3, v4] ∧ ds = [d0, d1, d2, d3, d4] ∧ ps = p0 ++ p1 ++ p2 ++ p3 ++ p4 ∧ DataW.Trod enc P w b sp hd t0 v0 d0 p0 ∧ DataW.Trod enc P w b sp hd t1 v1 d1 p1 ∧ DataW.Trod enc P w b sp hd t2 v2 d2 p2 ∧ DataW.Trod enc P w b sp hd t3 v3 d3 p3 ∧ DataW.Trod enc P w b sp hd t4 v4 d4 p4 := by
  obtain ⟨v0, w0, d0, e0, p0, q0, ha, rfl, rfl, g0, r0⟩ := trodAll_cons h
  obtain ⟨v1, w1, d1, e1, p1, q1, rfl, rfl, rfl, g1, r1⟩ := trodAll_cons r0
  obtain ⟨v2, w2, d2, e2, p2, q2, rfl, rfl, rfl, g2, r2⟩ := trodAll_cons r1
  obtain ⟨v3, w3, d3, e3, p3, q3, rfl, rfl, rfl, g3, r3⟩ := trodAll_cons r2
  obtain ⟨v4, w4, d4, e4, p4, q4, rfl, rfl, rfl, g4, r4⟩ := trodAll_cons r3
  obtain ⟨rfl, rfl, rfl⟩ := trodAll_nil r4
  exact ⟨v0, v1, v2, v3, v4, d0, d1, d2, d3, d4, p0, p1, p2, p3, p4, by cases args; simp_all, rfl, by simp, g0, g1, g2, g3, g4⟩
theorem trodAll_n6 {t0 t1 t2 t3 t4 t5 : TypeId} {args : Array Value} {ds : List (DataW H)} {ps : List MemPlace} (h : DataW.TrodAll enc P w b sp hd [t0, t1, t2, t3, t4, t5] args.toList ds ps) :
    ∃ v0 v1 v2 v3 v4 v5 d0 d1 d2 d3 d4 d5 p0 p1 p2 p3 p4 p5, args = #[v0, v1, v2, v3, v4, v5] ∧ ds = [d0, d1, d2, d3, d4, d5] ∧ ps = p0 ++ p1 ++ p2 ++ p3 ++ p4 ++ p5 ∧ DataW.Trod enc P w b sp hd t0 v0 d0 p0 ∧ DataW.Trod enc P w b sp hd t1 v1 d1 p1 ∧ DataW.Trod enc P w b sp hd t2 v2 d2 p2 ∧ DataW.Trod enc P w b sp hd t3 v3 d3 p3 ∧ DataW.Trod enc P w b sp hd t4 v4 d4 p4 ∧ DataW.Trod enc P w b sp hd t5 v5 d5 p5 := by
  obtain ⟨v0, w0, d0, e0, p0, q0, ha, rfl, rfl, g0, r0⟩ := trodAll_cons h
  obtain ⟨v1, w1, d1, e1, p1, q1, rfl, rfl, rfl, g1, r1⟩ := trodAll_cons r0
  obtain ⟨v2, w2, d2, e2, p2, q2, rfl, rfl, rfl, g2, r2⟩ := trodAll_cons r1
  obtain ⟨v3, w3, d3, e3, p3, q3, rfl, rfl, rfl, g3, r3⟩ := trodAll_cons r2
  obtain ⟨v4, w4, d4, e4, p4, q4, rfl, rfl, rfl, g4, r4⟩ := trodAll_cons r3
  obtain ⟨v5, w5, d5, e5, p5, q5, rfl, rfl, rfl, g5, r5⟩ := trodAll_cons r4
  obtain ⟨rfl, rfl, rfl⟩ := trodAll_nil r5
  exact ⟨v0, v1, v2, v3, v4, v5, d0, d1, d2, d3, d4, d5, p0, p1, p2, p3, p4, p5, by cases args; simp_all, rfl, by simp, g0, g1, g2, g3, g4, g5⟩
theorem trodAll_n7 {t0 t1 t2 t3 t4 t5 t6 : TypeId} {args : Array Value} {ds : List (DataW H)} {ps : List MemPlace} (h : DataW.TrodAll enc P w b sp hd [t0, t1, t2, t3, t4, t5, t6] args.toList ds ps) :
    ∃ v0 v1 v2 v3 v4 v5 v6 d0 d1 d2 d3 d4 d5 d6 p0 p1 p2 p3 p4 p5 p6, args = #[v0, v1, v2, v3, v4, v5, v6] ∧ ds = [d0, d1, d2, d3, d4, d5, d6] ∧ ps = p0 ++ p1 ++ p2 ++ p3 ++ p4 ++ p5 ++ p6 ∧ DataW.Trod enc P w b sp hd t0 v0 d0 p0 ∧ DataW.Trod enc P w b sp hd t1 v1 d1 p1 ∧ DataW.Trod enc P w b sp hd t2 v2 d2 p2 ∧ DataW.Trod enc P w b sp hd t3 v3 d3 p3 ∧ DataW.Trod enc P w b sp hd t4 v4 d4 p4 ∧ DataW.Trod enc P w b sp hd t5 v5 d5 p5 ∧ DataW.Trod enc P w b sp hd t6 v6 d6 p6 := by
  obtain ⟨v0, w0, d0, e0, p0, q0, ha, rfl, rfl, g0, r0⟩ := trodAll_cons h
  obtain ⟨v1, w1, d1, e1, p1, q1, rfl, rfl, rfl, g1, r1⟩ := trodAll_cons r0
  obtain ⟨v2, w2, d2, e2, p2, q2, rfl, rfl, rfl, g2, r2⟩ := trodAll_cons r1
  obtain ⟨v3, w3, d3, e3, p3, q3, rfl, rfl, rfl, g3, r3⟩ := trodAll_cons r2
  obtain ⟨v4, w4, d4, e4, p4, q4, rfl, rfl, rfl, g4, r4⟩ := trodAll_cons r3
  obtain ⟨v5, w5, d5, e5, p5, q5, rfl, rfl, rfl, g5, r5⟩ := trodAll_cons r4
  obtain ⟨v6, w6, d6, e6, p6, q6, rfl, rfl, rfl, g6, r6⟩ := trodAll_cons r5
  obtain ⟨rfl, rfl, rfl⟩ := trodAll_nil r6
  exact ⟨v0, v1, v2, v3, v4, v5, v6, d0, d1, d2, d3, d4, d5, d6, p0, p1, p2, p3, p4, p5, p6, by cases args; simp_all, rfl, by simp, g0, g1, g2, g3, g4, g5, g6⟩
theorem trodAll_n8 {t0 t1 t2 t3 t4 t5 t6 t7 : TypeId} {args : Array Value} {ds : List (DataW H)} {ps : List MemPlace} (h : DataW.TrodAll enc P w b sp hd [t0, t1, t2, t3, t4, t5, t6, t7] args.toList ds ps) :
    ∃ v0 v1 v2 v3 v4 v5 v6 v7 d0 d1 d2 d3 d4 d5 d6 d7 p0 p1 p2 p3 p4 p5 p6 p7, args = #[v0, v1, v2, v3, v4, v5, v6, v7] ∧ ds = [d0, d1, d2, d3, d4, d5, d6, d7] ∧ ps = p0 ++ p1 ++ p2 ++ p3 ++ p4 ++ p5 ++ p6 ++ p7 ∧ DataW.Trod enc P w b sp hd t0 v0 d0 p0 ∧ DataW.Trod enc P w b sp hd t1 v1 d1 p1 ∧ DataW.Trod enc P w b sp hd t2 v2 d2 p2 ∧ DataW.Trod enc P w b sp hd t3 v3 d3 p3 ∧ DataW.Trod enc P w b sp hd t4 v4 d4 p4 ∧ DataW.Trod enc P w b sp hd t5 v5 d5 p5 ∧ DataW.Trod enc P w b sp hd t6 v6 d6 p6 ∧ DataW.Trod enc P w b sp hd t7 v7 d7 p7 := by
  obtain ⟨v0, w0, d0, e0, p0, q0, ha, rfl, rfl, g0, r0⟩ := trodAll_cons h
  obtain ⟨v1, w1, d1, e1, p1, q1, rfl, rfl, rfl, g1, r1⟩ := trodAll_cons r0
  obtain ⟨v2, w2, d2, e2, p2, q2, rfl, rfl, rfl, g2, r2⟩ := trodAll_cons r1
  obtain ⟨v3, w3, d3, e3, p3, q3, rfl, rfl, rfl, g3, r3⟩ := trodAll_cons r2
  obtain ⟨v4, w4, d4, e4, p4, q4, rfl, rfl, rfl, g4, r4⟩ := trodAll_cons r3
  obtain ⟨v5, w5, d5, e5, p5, q5, rfl, rfl, rfl, g5, r5⟩ := trodAll_cons r4
  obtain ⟨v6, w6, d6, e6, p6, q6, rfl, rfl, rfl, g6, r6⟩ := trodAll_cons r5
  obtain ⟨v7, w7, d7, e7, p7, q7, rfl, rfl, rfl, g7, r7⟩ := trodAll_cons r6
  obtain ⟨rfl, rfl, rfl⟩ := trodAll_nil r7
  exact ⟨v0, v1, v2, v3, v4, v5, v6, v7, d0, d1, d2, d3, d4, d5, d6, d7, p0, p1, p2, p3, p4, p5, p6, p7, by cases args; simp_all, rfl, by simp, g0, g1, g2, g3, g4, g5, g6, g7⟩
theorem trodAll_n9 {t0 t1 t2 t3 t4 t5 t6 t7 t8 : TypeId} {args : Array Value} {ds : List (DataW H)} {ps : List MemPlace} (h : DataW.TrodAll enc P w b sp hd [t0, t1, t2, t3, t4, t5, t6, t7, t8] args.toList ds ps) :
    ∃ v0 v1 v2 v3 v4 v5 v6 v7 v8 d0 d1 d2 d3 d4 d5 d6 d7 d8 p0 p1 p2 p3 p4 p5 p6 p7 p8, args = #[v0, v1, v2, v3, v4, v5, v6, v7, v8] ∧ ds = [d0, d1, d2, d3, d4, d5, d6, d7, d8] ∧ ps = p0 ++ p1 ++ p2 ++ p3 ++ p4 ++ p5 ++ p6 ++ p7 ++ p8 ∧ DataW.Trod enc P w b sp hd t0 v0 d0 p0 ∧ DataW.Trod enc P w b sp hd t1 v1 d1 p1 ∧ DataW.Trod enc P w b sp hd t2 v2 d2 p2 ∧ DataW.Trod enc P w b sp hd t3 v3 d3 p3 ∧ DataW.Trod enc P w b sp hd t4 v4 d4 p4 ∧ DataW.Trod enc P w b sp hd t5 v5 d5 p5 ∧ DataW.Trod enc P w b sp hd t6 v6 d6 p6 ∧ DataW.Trod enc P w b sp hd t7 v7 d7 p7 ∧ DataW.Trod enc P w b sp hd t8 v8 d8 p8 := by
  obtain ⟨v0, w0, d0, e0, p0, q0, ha, rfl, rfl, g0, r0⟩ := trodAll_cons h
  obtain ⟨v1, w1, d1, e1, p1, q1, rfl, rfl, rfl, g1, r1⟩ := trodAll_cons r0
  obtain ⟨v2, w2, d2, e2, p2, q2, rfl, rfl, rfl, g2, r2⟩ := trodAll_cons r1
  obtain ⟨v3, w3, d3, e3, p3, q3, rfl, rfl, rfl, g3, r3⟩ := trodAll_cons r2
  obtain ⟨v4, w4, d4, e4, p4, q4, rfl, rfl, rfl, g4, r4⟩ := trodAll_cons r3
  obtain ⟨v5, w5, d5, e5, p5, q5, rfl, rfl, rfl, g5, r5⟩ := trodAll_cons r4
  obtain ⟨v6, w6, d6, e6, p6, q6, rfl, rfl, rfl, g6, r6⟩ := trodAll_cons r5
  obtain ⟨v7, w7, d7, e7, p7, q7, rfl, rfl, rfl, g7, r7⟩ := trodAll_cons r6
  obtain ⟨v8, w8, d8, e8, p8, q8, rfl, rfl, rfl, g8, r8⟩ := trodAll_cons r7
  obtain ⟨rfl, rfl, rfl⟩ := trodAll_nil r8
  exact ⟨v0, v1, v2, v3, v4, v5, v6, v7, v8, d0, d1, d2, d3, d4, d5, d6, d7, d8, p0, p1, p2, p3, p4, p5, p6, p7, p8, by cases args; simp_all, rfl, by simp, g0, g1, g2, g3, g4, g5, g6, g7, g8⟩
end
end Bx
