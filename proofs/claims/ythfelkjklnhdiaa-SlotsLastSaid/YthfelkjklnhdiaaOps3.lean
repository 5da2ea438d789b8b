/- More rules for operations: strings, pointers against nil, bound methods called, maps from ints to ints, copies and appends of strings. Any program. -/
import Derived.Test.YthfelkjklnhdiaaOps2
import Derived.MapKept
import Derived.Lib.AppendStr
import Derived.Lib.UnsafeStr
import Derived.Lib.Builder
import Derived.Laws.Strings2
import Derived.Laws.Strings3
import Derived.Laws.Concat
import Derived.Laws.BytesArg
import Derived.Laws.Pointers
import Derived.Laws.Externs
import Derived.LaidEqlPtr
namespace Bx
open Go Go.RowKit
/-- A text, by the list of its bytes; a byte as a cell. -/
abbrev St (l : List UInt8) : Value := .string ⟨l.toArray⟩
def By (b : UInt8) : List Value := [.int .u8 b.toNat]
section
variable {P : Program} {n : Nat} {f : Fr} {w : World} {o : Oper} {N : Fr → World → Prop}

/-! ### Pointers -/
theorem Ev_ptrNil {t e : Nat} {x : Operand} {a : Option Addr} (hu : P.underlying t = some (.pointer e)) (ho : o.op = .binOp .eql t x (.const (.pointer none)) t) (hx : ev f x = .pointer a) : Ev P o f w (.bool a.isNone) := by
  have hc : ev f (.const (.pointer none)) = .pointer none := rfl
  have hp : P.underlying t = some (.pointer (P.pointee t)) := by rw [hu]; simp [Program.pointee, hu]
  simp only [Ev, execOp, ho, hx, hc, eqGuard_at_pointer, Sem.run_bind, Sem.run_pure, Result.andThen_ok, run_eql_pointer_nil w t a hp]
theorem Ev_ptrNonNil {t e : Nat} {x : Operand} {a : Option Addr} (hu : P.underlying t = some (.pointer e)) (ho : o.op = .binOp .neq t x (.const (.pointer none)) t) (hx : ev f x = .pointer a) : Ev P o f w (.bool (!a.isNone)) := by
  have hc : ev f (.const (.pointer none)) = .pointer none := rfl
  have hp : P.underlying t = some (.pointer (P.pointee t)) := by rw [hu]; simp [Program.pointee, hu]
  simp only [Ev, execOp, ho, hx, hc, eqGuard_at_pointer, Sem.run_bind, Sem.run_pure, Result.andThen_ok, run_neq_pointer_nil w t a hp]

/-! ### A call of a bound method, or of a function of the tables -/
theorem Stp_callM {k : Nat} {fo : Operand} {first cap : List Value} {as : List Operand} {ts : Array TypeId} {vals : List Value} {R : Value → World → Prop}
    (he : ∀ args w, (callFunc k args).run P w = .ok (.enter k args) w) (ho : o.op = .call { callee := .value fo, args := as.toArray, argTypes := ts }) (hf : ev f fo = .func (.func k) first.toArray cap.toArray) (ha : first ++ as.map (ev f) ++ cap = vals)
    (hc : Calls P k vals.toArray w (Ret R)) (h : ∀ v w', R v w' → N (upo f o.dst v) w') : Stp P n o f w N := by
  intro hd a hfa
  unfold Oper.wp
  subst ha
  have : (execOp a.eval o).run P w = .ok (.enter k ((first ++ as.map (ev f) ++ cap).toArray)) w := by
    rw [hfa.eval]
    simp [execOp, ho, resolve, hf, Deferred.ofValue, invoke, he]
  rw [this]
  simp only [Oper.upon]
  refine hc.mono fun e w' hr => ?_
  cases e with
  | returned v => exact ⟨_, hfa.put hd v, h v w' hr⟩
  | _ => exact hr.elim

/-! ### Strings -/
section str
variable {t : TypeId} {x y z : Operand} {l m : List UInt8} {kl kh : IntKind} {zl zh : Int}
theorem Ev_strH (h : Nat) (hu : P.underlying t = some .string) (ho : o.op = .slice t x none (some y) none) (hx : ev f x = St l) (hy : ev f y = .int kh zh) (hz : zh = (h : Int)) (hl : h ≤ l.length) : Ev P o f w (St (l.take h)) := by
  subst hz
  have := run_slice_string_to_if (P := P) w t (ByteArray.mk l.toArray) kh (h : Int) hu
  rw [if_pos ⟨by omega, by show (h : Int) ≤ ((l.toArray.size : Nat) : Int); simp; omega⟩, ByteArray.extract_mk] at this
  simp [Ev, execOp, ho, hx, hy, Instr.sliceAt, run_underlying hu, this]
theorem Ev_strL (k : Nat) (hu : P.underlying t = some .string) (ho : o.op = .slice t x (some y) none none) (hx : ev f x = St l) (hy : ev f y = .int kl zl) (hz : zl = (k : Int)) (hl : k ≤ l.length) : Ev P o f w (St (l.drop k)) := by
  subst hz
  have := run_slice_string_from_if (P := P) w t (ByteArray.mk l.toArray) kl (k : Int) hu
  rw [if_pos ⟨by omega, by show (k : Int) ≤ ((l.toArray.size : Nat) : Int); simp; omega⟩, ByteArray.extract_mk] at this
  have e : (l.drop k).take ((ByteArray.mk l.toArray).size - k) = l.drop k := List.take_of_length_le (by show (l.drop k).length ≤ l.toArray.size - k; simp)
  simp [Ev, execOp, ho, hx, hy, Instr.sliceAt, run_underlying hu, this, e]
theorem Ev_strLH (k h : Nat) (hu : P.underlying t = some .string) (ho : o.op = .slice t x (some y) (some z) none) (hx : ev f x = St l) (hy : ev f y = .int kl zl) (hz : ev f z = .int kh zh) (h1 : zl = (k : Int)) (h2 : zh = (h : Int)) (hkh : k ≤ h) (hl : h ≤ l.length) :
    Ev P o f w (St ((l.drop k).take (h - k))) := by
  subst h1; subst h2
  have := run_slice_string (P := P) w t (ByteArray.mk l.toArray) kl kh (k : Int) (h : Int) hu (by omega) (by omega) (by show (h : Int) ≤ ((l.toArray.size : Nat) : Int); simp; omega)
  rw [ByteArray.extract_mk] at this
  simp [Ev, execOp, ho, hx, hy, hz, Instr.sliceAt, run_underlying hu, this]
theorem Ev_strAdd (ho : o.op = .binOp .add t x y t) (hx : ev f x = St l) (hy : ev f y = St m) (h : l.length + m.length ≤ 9223372036854775807) : Ev P o f w (St (l ++ m)) := by
  have := run_string_add_sum (P := P) w (ByteArray.mk l.toArray) (ByteArray.mk m.toArray) (by show l.toArray.size + m.toArray.size ≤ _; simpa using h)
  rw [ByteArray.mk_append_mk] at this
  have hg : ∀ v, eqGuard .add t x y (St l) v = pure () := fun v => rfl
  simp [Ev, execOp, ho, hx, hy, hg, binOp_string_add, this]
theorem Ev_strEql {t' : TypeId} (ho : o.op = .binOp .eql t x y t') (hx : ev f x = St l) (hy : ev f y = St m) : Ev P o f w (.bool (decide (l = m))) := by
  have hg : ∀ v, eqGuard .eql t x y (St l) v = pure () := fun v => rfl
  have he : (l == m) = decide (l = m) := by by_cases h : l = m <;> simp [h]
  simp [Ev, execOp, ho, hx, hy, hg, binOp_string_eql, he]
theorem Ev_strNeq {t' : TypeId} (ho : o.op = .binOp .neq t x y t') (hx : ev f x = St l) (hy : ev f y = St m) : Ev P o f w (.bool (decide (l ≠ m))) := by
  have hg : ∀ v, eqGuard .neq t x y (St l) v = pure () := fun v => rfl
  have he : (!(l == m)) = decide (l ≠ m) := by by_cases h : l = m <;> simp [h]
  simp [Ev, execOp, ho, hx, hy, hg, binOp_string_neq, he]
theorem Ev_lenSt (hu : P.underlying t = some .string) (ho : o.op = .call { callee := .builtin .len, args := #[x], argTypes := #[t] }) (hx : ev f x = St l) : Ev P o f w (.int .i64 (l.length : Int)) := by
  have := Ev_len_str (w := w) hu ho hx
  have e : (ByteArray.mk l.toArray).size = l.length := by show l.toArray.size = _; simp
  rwa [e] at this
/-- s[i]. -/
theorem Ev_strIdx (i : Nat) {b : UInt8} (hu : P.underlying t = some .string) (ho : o.op = .index t x y) (hx : ev f x = St l) (hy : ev f y = .int kl zl) (hz : zl = (i : Int)) (hb : l[i]? = some b) : Ev P o f w (.int .u8 b.toNat) := by
  subst hz
  obtain ⟨hlt, hb⟩ := List.getElem?_eq_some_iff.1 hb
  have := run_index_string (P := P) w t (ByteArray.mk l.toArray) kl (i : Int) hu
  have hs : (ByteArray.mk l.toArray).size = l.length := by show l.toArray.size = _; simp
  rw [dif_pos ⟨by omega, by rw [hs]; omega⟩] at this
  have e : ((ByteArray.mk l.toArray)[((i : Int)).toNat]'(by rw [hs]; omega)).toNat = b.toNat := by
    subst hb
    rfl
  simp only [e] at this
  simp only [Ev, execOp, ho, hx, hy]
  rw [Sem.run_bind, this]
  rfl
end str

/-! ### Bytes -/
def bytesOk (P : Program) (t dst : Nat) : Bool :=
  match P.underlying t with
  | some (.slice e) => (match P.underlying e with | some (.int .u8) => true | _ => false) && (match P.underlying dst with | some .string => true | _ => false)
  | _ => false
theorem bytesOk_spec {t dst : Nat} (h : bytesOk P t dst = true) : ∃ e, P.underlying t = some (.slice e) ∧ P.underlying e = some (.int .u8) ∧ P.underlying dst = some .string := by
  unfold bytesOk at h
  cases h1 : P.underlying t with
  | none => rw [h1] at h; cases h
  | some d =>
    rw [h1] at h
    cases d with
    | slice e =>
      rw [Bool.and_eq_true] at h
      refine ⟨e, rfl, ?_, ?_⟩
      · cases h2 : P.underlying e with
        | none => rw [h2] at h; cases h.1
        | some d =>
          rw [h2] at h
          cases d with
          | int k => cases k <;> first | rfl | cases h.1
          | _ => cases h.1
      · cases h2 : P.underlying dst with
        | none => rw [h2] at h; cases h.2
        | some d => rw [h2] at h; cases d <;> first | rfl | cases h.2
    | _ => cases h
theorem UInt8.ofNat_toInt (b : UInt8) : UInt8.ofNat ((b.toNat : Int)).toNat = b := by simp
/-- string(b). -/
theorem Ev_bytesSt {t dst : Nat} {x : Operand} {F : Nat → Prop} {ao : Option Addr} {len c : Nat} {l : List UInt8} (hk : bytesOk P t dst = true) (ho : o.op = .convert t dst x) (hx : ev f x = .slice ao len c) (hS : Sl F w 1 ao (l.map By)) (hl : len = l.length) : Ev P o f w (St l) := by
  obtain ⟨e, h1, h2, h3⟩ := bytesOk_spec hk
  subst hl
  have key : (convert t dst (.slice ao l.length c)).run P w = .ok (St l) w := by
    cases ao with
    | none =>
      have : l = [] := by simpa using hS.isNone rfl
      subst this
      exact run_convert_bytes_nil w t e h1 h2 0 c dst h3
    | some a =>
      by_cases hn : l = []
      · subst hn
        show (convert t dst (.slice (some a) 0 c)).run P w = _
        rw [run_convert_bytes_string w t dst e _ _ c h1 h2 h3, run_bytesToString w a 0 c [] (by simp [loadCells, loadCellsFrom])]
        rfl
      · have had : Ad (some a) := (hS.2 (by simpa using hn)).1
        have ha : a = ⟨a.block, a.off, none⟩ := by unfold Ad at had; injection had
        rw [ha]
        rw [run_convert_bytes_arg w t e h1 h2 a.block a.off l.length c (l.map fun b => ((b.toNat : Nat) : Int)) (by simp) (fun i hi => by
          have hg : (l.map By)[i]? = some (By l[i]) := by rw [List.getElem?_map, List.getElem?_eq_getElem hi]; rfl
          have := hS.ld hg (j := 0) (v := .int .u8 (l[i].toNat)) rfl
          simp only [ablk, aoff, Nat.mul_one, Nat.add_zero] at this
          rw [this]
          simp [List.getD, List.getElem?_eq_getElem hi]) dst h3]
        simp [strOfNums, Function.comp_def]
  simp only [Ev, execOp, ho, hx]
  rw [Sem.run_bind, key]
  rfl
theorem strCells_St (l : List UInt8) : Lib.strCells ⟨l.toArray⟩ = (l.map By).flatten := by
  simp [Lib.strCells]
  induction l with
  | nil => rfl
  | cons b l ih => simp only [List.map_cons, List.flatten_cons, ih]; rfl
theorem By_len (l : List UInt8) : ∀ e ∈ l.map By, e.length = 1 := by
  intro e he; obtain ⟨b, _, rfl⟩ := List.mem_map.1 he; rfl
theorem By_one (l : List UInt8) : (l.map By).flatten.all Value.oneCell' = true := by
  induction l with
  | nil => rfl
  | cons b l ih => simp only [List.map_cons, List.flatten_cons, List.all_append, ih, Bool.and_true]; rfl
theorem By_flat_len (l : List UInt8) : (l.map By).flatten.length = l.length := by
  rw [flatten_len (sz := 1) (By_len l)]; simp
/-- A row of bytes of the call's own. -/
def OwnB (base : Nat) (w : World) (e : TypeId) (v : Value) (l : List UInt8) : Prop := w.ownsRow base e 1 v l.length (l.map By).flatten
@[reducible] def OwnB.here {base : Nat} {w : World} {e : TypeId} {v : Value} {l : List UInt8} (_h : OwnB base w e v l) (W : World) : Prop := OwnB base W e v l
theorem OwnB.nil (base : Nat) (w : World) (e : TypeId) : OwnB base w e (.slice none 0 0) [] := World.ownsRow_nil w base e 1
theorem OwnB.keep {base : Nat} {w w' : World} {e : TypeId} {v : Value} {l : List UInt8} {M : Nat → Prop} (h : OwnB base w e v l) (k : Kp M w w') (hn : ∀ b, base ≤ b → v.ownBlock = some b → ¬ M b) : OwnB base w' e v l := by
  refine ⟨h.1, ?_⟩
  rcases h.2 with h1 | ⟨g, cap, cur, rfl, hg, hb, r⟩
  · exact .inl h1
  · have hlt : g < w.heap.size := (Array.getElem?_eq_some_iff.1 hb).1
    exact .inr ⟨g, cap, cur, rfl, hg, (k.block g hlt (hn g hg rfl)).trans hb, r⟩
theorem OwnB.keep0 {base : Nat} {w w' : World} {e : TypeId} {v : Value} {l : List UInt8} (h : OwnB base w e v l) (k : Kp0 w w') : OwnB base w' e v l := h.keep k fun _ _ _ h => h
theorem OwnB.keepb {base : Nat} {w w' : World} {e : TypeId} {v : Value} {l : List UInt8} {b' : Nat} (h : OwnB base w e v l) (k : Kp (· = b') w w') (hn : ∀ b, base ≤ b → v.ownBlock = some b → b ≠ b') : OwnB base w' e v l := h.keep k hn
theorem OwnB.keepo {base : Nat} {w w' : World} {e : TypeId} {v : Value} {l : List UInt8} {B : Nat} {u : Value} (h : OwnB base w e v l) (k : Kp (fun b => u.ownBlock = some b ∧ B ≤ b) w w') (hn : ∀ b, base ≤ b → v.ownBlock = some b → u.ownBlock = some b → ¬ B ≤ b) : OwnB base w' e v l :=
  h.keep k fun b hb hv hm => hn b hb hv hm.1 hm.2
theorem OwnB.sl {base : Nat} {w : World} {e : TypeId} {v : Value} {l : List UInt8} (h : OwnB base w e v l) : ∃ a c, v = .slice a l.length c ∧ l.length ≤ c ∧ c ≤ maxLen ∧ (∀ b, v.ownBlock = some b → base ≤ b ∧ b < w.heap.size) ∧ Sl (fun b => base ≤ b) w 1 a (l.map By) := by
  rcases h.2 with ⟨rfl, h0⟩ | ⟨g, cap, cur, rfl, hg, hb, h1, h2, h3, h4⟩
  · have : l = [] := List.eq_nil_of_length_eq_zero h0
    subst this
    exact ⟨none, 0, rfl, Nat.le_refl _, Nat.zero_le _, fun b hb => by simp [Value.ownBlock] at hb, Sl.nil _ _ _ _⟩
  · have hlt : g < w.heap.size := (Array.getElem?_eq_some_iff.1 hb).1
    refine ⟨_, cap, rfl, h1, h2, fun b hb => by injection hb with e; subst e; exact ⟨hg, hlt⟩, By_len l, fun hn => ⟨rfl, hg, hlt, fun i x hi => ?_⟩⟩
    intro j v hj
    obtain ⟨b, hbx, rfl⟩ : ∃ b, l[i]? = some b ∧ x = By b := by
      rw [List.getElem?_map] at hi
      cases hl : l[i]? with
      | none => rw [hl] at hi; cases hi
      | some b => rw [hl] at hi; injection hi with hi; exact ⟨b, rfl, hi.symm⟩
    have hj0 : j = 0 := by have := (List.getElem?_eq_some_iff.1 hj).1; simp [By] at this; exact this
    subst hj0
    have hv : v = .int .u8 b.toNat := by simp [By] at hj; exact hj.symm
    subst hv
    have hil : i < l.length := (List.getElem?_eq_some_iff.1 hbx).1
    have hf : (l.map By).flatten[i]? = some (.int .u8 b.toNat) := by
      rw [getElem?_flatten (sz := 1) (by decide) (By_len l)]
      rw [Nat.div_one, Nat.mod_one, List.getElem?_map, hbx]
      rfl
    rw [← h4, List.getElem?_take, if_pos (by omega)] at hf
    simp only [ablk, aoff, Nat.zero_add, Nat.mul_one, Nat.add_zero]
    simp only [World.cell?, hb]
    simpa using hf
def zeroV (P : Program) (e : TypeId) : Option Value := (P.info? e).bind (·.zero)
theorem append_where {t u ty e : Nat} {i : TypeInfo} {base : Nat} {v v' : Value} {w' : World} {l : List UInt8} {m : ByteArray} (hown : OwnB base w e v l) (ht : P.underlying t = some (.slice e)) (hu : P.underlying u = some .string) (hi : P.info? e = some i) (hz : i.zero = some (.int .u8 0))
    (hs1 : i.size = 1) (hs2 : i.bytes = 1) (h63 : l.length + m.size ≤ maxLen) (hby : l.length + m.size ≤ 140737488355328) (hr : (Builtin.append_ #[t, u] ty #[v, .string m]).run P w = .ok v' w') (hnil : v' = .slice none 0 0 ↔ v = .slice none 0 0 ∧ m.size = 0) :
    ∀ x, v'.ownBlock = some x → v.ownBlock = some x ∨ x = w.heap.size := by
  intro x hx
  rcases hown.2 with ⟨rfl, h0⟩ | ⟨g, cap, cur, rfl, hg, hb, h1, h2, h3, h4⟩
  · by_cases hm : m.size = 0
    · rw [hnil.2 ⟨rfl, hm⟩] at hx; cases hx
    · have := run_append_nil_string (P := P) w t u ty e i (.int .u8 0) ht hu hi hz m (by omega) (by simp only [maxLen] at h63; omega) (by rw [hs2]; omega)
      rw [hr] at this
      injection this with e1 _
      rw [e1] at hx
      injection hx with hx
      exact .inr hx.symm
  · by_cases hroom : l.length + m.size ≤ cap
    · have := Lib.run_append_room_string (P := P) w t u ty e i ht hu hi hs1 g l.length cap cur hb m hroom (by omega)
      rw [hr] at this
      injection this with e1 _
      rw [e1] at hx
      exact .inl hx
    · have hcells : ∀ j u, (l.map By).flatten[j]? = some u → w.cell? ((⟨g, 0, none⟩ : Addr).add j) = some u := hown.cells (g := g) rfl
      have := Lib.run_append_grow_string (P := P) w t u ty e i (.int .u8 0) ht hu hi hz ⟨g, 0, none⟩ l.length cap (l.map By).flatten (by rw [hs1, By_flat_len, Nat.mul_one]) hcells m (by omega) (by simp only [maxLen] at h63; omega) (by rw [hs2]; exact growslice_fits (by omega) (by omega))
      rw [hr] at this
      injection this with e1 _
      rw [e1] at hx
      injection hx with hx
      exact .inr hx.symm
/-- append(b, s...). -/
theorem Stp_appendSt {base t u e : Nat} {x y : Operand} {v : Value} {l m : List UInt8} (hown : OwnB base w e v l) (hek : elemOk P t e 1 1 = true) (hz : zeroV P e = some (.int .u8 0)) (hu : P.underlying u = some .string)
    (ho : o.op = .call { callee := .builtin .append, args := #[x, y], argTypes := #[t, u] }) (hx : ev f x = v) (hy : ev f y = St m)
    (h63 : l.length + m.length ≤ maxLen) (hby : l.length + m.length ≤ 140737488355328) (hbase : base ≤ w.heap.size)
    (h : ∀ v' w', OwnB base w' e v' (l ++ m) → Kp (fun b => v.ownBlock = some b ∧ base ≤ b) w w' → (∀ x, v'.ownBlock = some x → v.ownBlock = some x ∨ x = w.heap.size) → N (upo f o.dst v') w') : Stp P n o f w N := by
  obtain ⟨inf, z, ht, hi, hs1, hs2, hz', hzs⟩ := elemOk_spec hek
  unfold zeroV at hz
  rw [hi] at hz
  have hs : (ByteArray.mk m.toArray).size = m.length := by show m.toArray.size = _; simp
  obtain ⟨v', w', h1, h2, h3, h4⟩ := Lib.run_append_own_string (P := P) w base t u o.type e inf ht hu hi hz hs1 hs2 v l.length _ hown ⟨m.toArray⟩ (by rw [hs]; exact h63) (by rw [hs]; exact hby) hbase
  refine Stp_val (v := v') (w' := w') ?_ (h v' w' ?_ ?_ (append_where hown ht hu hi hz hs1 hs2 (by rw [hs]; exact h63) (by rw [hs]; exact hby) h1 h4))
  · simp only [execOp, ho, resolve, invoke, builtin, hx, hy]
    simp [hx, hy, h1, invoke, builtin]
  · unfold OwnB
    rw [List.map_append, List.flatten_append, List.length_append]
    rw [hs, strCells_St] at h2
    exact h2
  · exact ⟨h3.os, h3.tape, h3.output, h3.size, fun k hk hn => h3.block k hk fun he => hn ⟨he.symm, (hown.lt k he.symm).1⟩⟩
end
end Bx
