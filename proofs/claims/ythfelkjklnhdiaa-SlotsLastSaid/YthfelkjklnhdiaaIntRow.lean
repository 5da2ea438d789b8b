/- Rows of ints: a slice of ints, as a list or as a function of the index; a slice of pairs. Any program. -/
import Derived.Test.YthfelkjklnhdiaaMem
namespace Bx
open Go Go.RowKit
def I1 (n : Int) : List Value := [.int .i64 n]
def I2 (p : Int × Int) : List Value := [.int .i64 p.1, .int .i64 p.2]
def rowOf (m : Nat) (T : Nat → Int) : List (List Value) := (List.range m).map fun q => [.int .i64 (T q)]
theorem rowOf_len (m : Nat) (T : Nat → Int) : (rowOf m T).length = m := by simp [rowOf]
theorem rowOf_get {m : Nat} {T : Nat → Int} {q : Nat} (h : q < m) : (rowOf m T)[q]? = some [.int .i64 (T q)] := by
  unfold rowOf
  rw [List.getElem?_map, List.getElem?_range h]
  rfl
theorem rowOf_set {m : Nat} {T : Nat → Int} {j : Nat} {v : Int} (h : j < m) : (rowOf m T).set j [.int .i64 v] = rowOf m fun q => if q = j then v else T q := by
  apply List.ext_getElem?
  intro q
  by_cases hq : q < m
  · rw [rowOf_get hq]
    by_cases e : q = j
    · subst e
      rw [List.getElem?_set_self (by rw [rowOf_len]; exact h), if_pos rfl]
    · rw [List.getElem?_set_ne (Ne.symm e), rowOf_get hq, if_neg e]
  · rw [List.getElem?_eq_none (by rw [List.length_set, rowOf_len]; omega), List.getElem?_eq_none (by rw [rowOf_len]; omega)]
theorem rowOf_zero (m : Nat) : rowOf m (fun _ => 0) = List.replicate m [.int .i64 0] := by
  apply List.ext_getElem?
  intro q
  by_cases hq : q < m
  · rw [rowOf_get hq, List.getElem?_replicate, if_pos hq]
  · rw [List.getElem?_eq_none (by rw [rowOf_len]; omega), List.getElem?_eq_none (by simp; omega)]
/-- A row just made, of full length. -/
theorem Own.full {base : Nat} {w : World} {b e sz c : Nat} {z : List Value} (h : Blk w b e (List.replicate c z).flatten) (hz : z.length = sz) (hb : base ≤ b) (hc : c ≤ maxLen) :
    Own base w e sz (.slice (some ⟨b, 0, none⟩) c c) (List.replicate c z) :=
  ⟨fun x hx => by rw [List.eq_of_mem_replicate hx]; exact hz, .inr ⟨b, c, [], by rw [List.length_replicate], hb, by rw [List.append_nil]; exact h, by simp, hc, by simp [hz]⟩⟩
theorem Own.zeros {base : Nat} {w : World} {b e c : Nat} (h : Blk w b e (List.replicate c [Value.int .i64 0]).flatten) (hb : base ≤ b) (hc : c ≤ maxLen) :
    Own base w e 1 (.slice (some ⟨b, 0, none⟩) c c) (rowOf c fun _ => 0) := by
  rw [rowOf_zero]
  exact Own.full h rfl hb hc
theorem get1 {rooms : List Int} {k : Nat} (h : k < rooms.length) : ∃ n, rooms[k]? = some n ∧ (rooms.map I1)[k]? = some (I1 n) :=
  ⟨rooms[k], List.getElem?_eq_getElem h, by rw [List.getElem?_map, List.getElem?_eq_getElem h]; rfl⟩
theorem get2 {rooms : List (Int × Int)} {k : Nat} (h : k < rooms.length) : ∃ n, rooms[k]? = some n ∧ (rooms.map I2)[k]? = some (I2 n) :=
  ⟨rooms[k], List.getElem?_eq_getElem h, by rw [List.getElem?_map, List.getElem?_eq_getElem h]; rfl⟩
end Bx
