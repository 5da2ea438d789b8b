/- Rules for operations: a map from ints to ints; a copy out of a string; what strings.Builder does with its own address and its bytes. Any program. -/
import Derived.Test.YthfelkjklnhdiaaOps3
namespace Bx
open Go Go.RowKit
/-! ### Maps from ints to ints -/
def kv (e : MapEntry) : Value × Value := (e.key, e.val)
def pv (p : Int × Int) : Value × Value := (.int .i64 p.1, .int .i64 p.2)
def atK (k : Int) : List (Int × Int) → Option (Nat × Int)
  | [] => none
  | p :: l => if k = p.1 then some (0, p.2) else (atK k l).map fun x => (x.1 + 1, x.2)
/-- Block r is a map of which φ tells what stands at each key. -/
def MpI (w : World) (r : Nat) (φ : Int → Option Int) : Prop :=
  ∃ (es : Array MapEntry) (clock : Nat) (l : List (Int × Int)), w.heap[r]? = some (.map es clock) ∧ es.toList.map kv = l.map pv ∧ ∀ k, (atK k l).map (·.2) = φ k
section
variable {w w' : World} {r : Nat} {φ : Int → Option Int}
@[reducible] def MpI.here (_h : MpI w r φ) (W : World) : Prop := MpI W r φ
theorem MpI.lt (h : MpI w r φ) : r < w.heap.size := by
  obtain ⟨es, clock, l, h1, _⟩ := h
  exact (Array.getElem?_eq_some_iff.1 h1).1
theorem MpI.keep {M : Nat → Prop} (h : MpI w r φ) (k : Kp M w w') (hn : ¬ M r) : MpI w' r φ := by
  have hlt := h.lt
  obtain ⟨es, clock, l, h1, h2⟩ := h
  exact ⟨es, clock, l, (k.block r hlt hn).trans h1, h2⟩
theorem MpI.keep0 (h : MpI w r φ) (k : Kp0 w w') : MpI w' r φ := h.keep k fun h => h
theorem MpI.keepb {b' : Nat} (h : MpI w r φ) (k : Kp (· = b') w w') (hn : r ≠ b') : MpI w' r φ := h.keep k hn
theorem MpI.keepo {B : Nat} {u : Value} (h : MpI w r φ) (k : Kp (fun b => u.ownBlock = some b ∧ B ≤ b) w w') (hn : ∀ x, x = r → x < w.heap.size → u.ownBlock = some x → ¬ B ≤ x) : MpI w' r φ :=
  h.keep k fun hm => hn r rfl h.lt hm.1 hm.2
theorem MpI.ext {ψ : Int → Option Int} (h : MpI w r φ) (he : ∀ k, φ k = ψ k) : MpI w r ψ := by
  obtain ⟨es, clock, l, h1, h2, h3⟩ := h
  exact ⟨es, clock, l, h1, h2, fun k => (h3 k).trans (he k)⟩
end
theorem findNow_rep (k : Int) : ∀ (es : List MapEntry) (l : List (Int × Int)) (i : Nat), es.map kv = l.map pv → Instr.findNow (.int .i64) (.int .i64 k) es i = some ((atK k l).map fun x => (i + x.1, .int .i64 x.2))
  | [], [], _, _ => rfl
  | e :: es, p :: l, i, h => by
    simp only [List.map_cons, List.cons.injEq] at h
    obtain ⟨h1, h2⟩ := h
    simp only [kv, pv, Prod.mk.injEq] at h1
    have ih := findNow_rep k es l (i + 1) h2
    unfold Instr.findNow atK
    rw [h1.1, h1.2]
    simp only [Instr.sameNow, if_true]
    by_cases hk : k = p.1
    · subst hk; simp
    · have : (k == p.1) = false := by simpa using hk
      rw [this, if_neg hk, ih]
      simp only [Option.map_map]
      congr 2
      funext x
      simp [Nat.add_assoc, Nat.add_comm 1]
  | [], _ :: _, _, h => by simp at h
  | _ :: _, [], _, h => by simp at h
theorem atK_lt {k : Int} : ∀ {l : List (Int × Int)} {j : Nat} {v : Int}, atK k l = some (j, v) → ∃ p, l[j]? = some p ∧ p.1 = k
  | p :: l, j, v, h => by
    unfold atK at h
    split at h
    · rename_i hk; injection h with h; injection h with h1 h2; subst h1; exact ⟨p, rfl, hk.symm⟩
    · cases ha : atK k l with
      | none => rw [ha] at h; cases h
      | some x =>
        rw [ha] at h
        injection h with h; injection h with h1 h2
        subst h1
        obtain ⟨q, hq, hk⟩ := atK_lt (l := l) (j := x.1) (v := x.2) ha
        exact ⟨q, by simpa using hq, hk⟩
theorem atK_set {k v : Int} : ∀ {l : List (Int × Int)} {j : Nat} {u : Int}, atK k l = some (j, u) → ∀ k', (atK k' (l.set j (k, v))).map (·.2) = if k' = k then some v else (atK k' l).map (·.2)
  | p :: l, j, u, h, k' => by
    unfold atK at h
    split at h
    · rename_i hk; injection h with h; injection h with h1 h2; subst h1
      simp only [List.set_cons_zero, atK]
      by_cases e : k' = k
      · simp [e]
      · rw [if_neg e, if_neg e, if_neg (by rw [← hk]; exact e)]
    · rename_i hk
      cases ha : atK k l with
      | none => rw [ha] at h; cases h
      | some x =>
        rw [ha] at h
        injection h with h; injection h with h1 h2
        subst h1
        have ih := atK_set (v := v) (l := l) (j := x.1) (u := x.2) ha k'
        simp only [List.set_cons_succ, atK]
        by_cases e : k' = p.1
        · rw [if_pos e, if_pos e, if_neg (by rw [e]; exact fun h => hk h.symm)]
        · rw [if_neg e, if_neg e]
          simp only [Option.map_map, Function.comp_def]
          exact ih
theorem atK_push {k v : Int} : ∀ {l : List (Int × Int)}, atK k l = none → ∀ k', (atK k' (l ++ [(k, v)])).map (·.2) = if k' = k then some v else (atK k' l).map (·.2)
  | [], _, k' => by simp only [List.nil_append, atK]; split <;> rfl
  | p :: l, h, k' => by
    unfold atK at h
    split at h
    · cases h
    · rename_i hk
      have ha : atK k l = none := by cases ha : atK k l with | none => rfl | some x => rw [ha] at h; cases h
      have ih := atK_push (v := v) ha k'
      simp only [List.cons_append, atK]
      by_cases e : k' = p.1
      · rw [if_pos e, if_pos e, if_neg (by rw [e]; exact fun h => hk h.symm)]
      · rw [if_neg e, if_neg e]
        simp only [Option.map_map, Function.comp_def]
        exact ih
def mapOk (P : Program) (t e : Nat) : Bool :=
  match P.underlying t with
  | some (.map k e') => (e' == e) && (match P.underlying k with | some (.int .i64) => true | _ => false)
  | _ => false
theorem mapOk_spec {P : Program} {t e : Nat} (h : mapOk P t e = true) : ∃ k, P.underlying t = some (.map k e) ∧ P.underlying k = some (.int .i64) := by
  unfold mapOk at h
  cases h1 : P.underlying t with
  | none => rw [h1] at h; cases h
  | some d =>
    rw [h1] at h
    cases d with
    | map k e' =>
      rw [Bool.and_eq_true] at h
      have he : e' = e := by simpa using h.1
      subst he
      refine ⟨k, rfl, ?_⟩
      cases h2 : P.underlying k with
      | none => rw [h2] at h; cases h.2
      | some d =>
        rw [h2] at h
        cases d with
        | int q => cases q <;> first | rfl | cases h.2
        | _ => cases h.2
    | _ => cases h
theorem Kp.setObj {w : World} {r : Nat} {o o' : Obj} (hb : w.heap[r]? = some o) : Kp (· = r) w { w with heap := w.heap.setIfInBounds r o' } :=
  ⟨rfl, rfl, rfl, by simp, fun k _ hk => (Go.MapKept.heap_set hb).2 k hk⟩
section
variable {P : Program} {n : Nat} {f : Fr} {w : World} {o : Oper} {N : Fr → World → Prop}
theorem Stp_makeMap {t e : Nat} (hm : mapOk P t e = true) (ho : o.op = .makeMap t none)
    (h : ∀ r w', r = w.heap.size → w'.heap.size = r + 1 → Kp0 w w' → MpI w' r (fun _ => none) → N (upo f o.dst (.map (some r))) w') : Stp P n o f w N := by
  refine Stp_val (v := .map (some w.heap.size)) (w' := w.alloc (.map #[] 0)) ?_ (h _ _ rfl (by simp) (Kp.alloc _ _ _) ⟨#[], 0, [], heap_alloc_new w _, rfl, fun _ => rfl⟩)
  simp [execOp, ho, Instr.makeMap]
/-- v, ok := m[k]. -/
theorem Ev_lookup {t e r : Nat} {x y : Operand} {φ : Int → Option Int} {k : Int} (hM : MpI w r φ) (hm : mapOk P t e = true) (hz : zeroV P e = some (.int .i64 0)) (ho : o.op = .lookup t x y true) (hx : ev f x = .map (some r)) (hy : ev f y = .int .i64 k) :
    Ev P o f w (.tuple #[.int .i64 ((φ k).getD 0), .bool (φ k).isSome]) := by
  obtain ⟨kt, h1, h2⟩ := mapOk_spec hm
  obtain ⟨es, clock, l, g1, g2, g3⟩ := hM
  have hf := findNow_rep k es.toList l 0 g2
  have hzv : (zeroValue e).run P w = .ok (.int .i64 0) w := by
    unfold zeroV at hz
    cases hi : P.info? e with
    | none => rw [hi] at hz; cases hz
    | some inf => rw [hi] at hz; simp [zeroValue, typeInfo, hi, show inf.zero = some (.int .i64 0) from hz]
  have key : (Instr.lookup t (.map (some r)) (.int .i64 k) true).run P w = .ok (.tuple #[.int .i64 ((φ k).getD 0), .bool (φ k).isSome]) w := by
    unfold Instr.lookup
    simp only [Sem.run_bind, run_underlying h1, Result.andThen_ok, Go.MapKept.run_getObj_map g1, Sem.run_pure, Go.MapKept.run_checkKey h2 (show Go.MapKept.IsKey (.int .i64) (.int .i64 k) from rfl) es.isEmpty 9999, Go.MapKept.run_findKey h2 hf]
    rw [← g3 k]
    cases atK k l with
    | none => simp [hzv]
    | some x => simp
  simp only [Ev, execOp, ho, hx, hy]
  rw [Sem.run_bind, key]
  rfl
/-- m[k] = v. -/
theorem Stp_mapUpdate {t e r : Nat} {x y z : Operand} {φ : Int → Option Int} {k v : Int} (hM : MpI w r φ) (hm : mapOk P t e = true) (ho : o.op = .mapUpdate t x y z) (hx : ev f x = .map (some r)) (hy : ev f y = .int .i64 k) (hz : ev f z = .int .i64 v)
    (h : ∀ w', w'.heap.size = w.heap.size → Kp (· = r) w w' → MpI w' r (fun k' => if k' = k then some v else φ k') → N (upo f o.dst undef) w') : Stp P n o f w N := by
  obtain ⟨kt, h1, h2⟩ := mapOk_spec hm
  obtain ⟨es, clock, l, g1, g2, g3⟩ := hM
  have hf := findNow_rep k es.toList l 0 g2
  have hlen : es.size = l.length := by have := congrArg List.length g2; simpa using this
  have key : ∃ es' clock', (Instr.mapUpdate t (.map (some r)) (.int .i64 k) (.int .i64 v)).run P w = .ok () { w with heap := w.heap.setIfInBounds r (.map es' clock') } ∧ ∃ l', es'.toList.map kv = l'.map pv ∧ ∀ k', (atK k' l').map (·.2) = if k' = k then some v else φ k' := by
    unfold Instr.mapUpdate
    simp only [Sem.run_bind, run_underlying h1, Result.andThen_ok, Go.MapKept.run_getObj_map g1, Go.MapKept.run_checkKey h2 (show Go.MapKept.IsKey (.int .i64) (.int .i64 k) from rfl) false 9999, Go.MapKept.run_findKey h2 hf]
    cases ha : atK k l with
    | none =>
      refine ⟨es.push { key := .int .i64 k, val := .int .i64 v, born := clock }, clock + 1, ?_, l ++ [(k, v)], ?_, ?_⟩
      · simp only [Option.map_none]
        exact Go.MapKept.run_setObj_map _ g1
      · rw [Array.toList_push, List.map_append, List.map_append, g2]; rfl
      · intro k'; rw [atK_push ha, g3]
    | some x =>
      obtain ⟨j, u⟩ := x
      obtain ⟨p, hp, hpk⟩ := atK_lt ha
      have hj : j < es.size := by have := (List.getElem?_eq_some_iff.1 hp).1; omega
      have hej : kv es[j] = pv p := by
        have := congrArg (·[j]?) g2
        simp only [List.getElem?_map, hp, Array.getElem?_toList, Array.getElem?_eq_getElem hj, Option.map_some] at this
        injection this
      have hkey : es[j].key = .int .i64 k := by have := congrArg Prod.fst hej; rw [← hpk]; exact this
      refine ⟨es.modify j fun e => { e with key := .int .i64 k, val := .int .i64 v }, clock, ?_, l.set j (k, v), ?_, ?_⟩
      · simp only [Option.map_some, Nat.zero_add, Sem.run_bind]
        have hks : (Instr.keyThatStays (((es[j]?).map (·.key)).getD (.int .i64 k)) (.int .i64 k)).run P w = .ok (.int .i64 k) w := by
          rw [Array.getElem?_eq_getElem hj]
          simp only [Option.map_some, Option.getD_some, hkey]
          unfold Instr.keyThatStays
          rw [if_pos (by simp [Instr.sameBits])]
          rfl
        rw [hks]
        simp only [Result.andThen_ok]
        exact Go.MapKept.run_setObj_map _ g1
      · rw [Array.toList_modify]
        apply List.ext_getElem?
        intro i
        by_cases e : i = j
        · subst e
          simp only [List.getElem?_map, List.getElem?_modify, if_true, Array.getElem?_toList, Array.getElem?_eq_getElem hj]
          rw [List.getElem?_set_self (by omega)]
          rfl
        · simp only [List.getElem?_map, List.getElem?_modify, if_neg (Ne.symm e)]
          rw [List.getElem?_set_ne (Ne.symm e)]
          have := congrArg (·[i]?) g2
          simp only [List.getElem?_map] at this
          simpa using this
      · intro k'; rw [atK_set ha, g3]
  obtain ⟨es', clock', hr, l', q1, q2⟩ := key
  refine Stp_skp (w' := { w with heap := w.heap.setIfInBounds r (.map es' clock') }) ?_ (h _ (by simp) (Kp.setObj g1) ⟨es', clock', l', (Go.MapKept.heap_set g1).1, q1, q2⟩)
  simp only [execOp, ho, hx, hy, hz]
  rw [Sem.run_bind, hr]
  rfl
/-- clear(m). -/
theorem Stp_clearMap {t r : Nat} {x : Operand} {φ : Int → Option Int} {d : TypeDesc} (hM : MpI w r φ) (hu : P.underlying t = some d) (ho : o.op = .call { callee := .builtin .clear, args := #[x], argTypes := #[t] }) (hx : ev f x = .map (some r))
    (h : ∀ w', w'.heap.size = w.heap.size → Kp (· = r) w w' → MpI w' r (fun _ => none) → N (upo f o.dst (.tuple #[])) w') : Stp P n o f w N := by
  obtain ⟨es, clock, l, g1, g2, g3⟩ := hM
  refine Stp_val (v := .tuple #[]) (w' := { w with heap := w.heap.setIfInBounds r (.map #[] clock) }) ?_ (h _ (by simp) (Kp.setObj g1) ⟨#[], clock, [], (Go.MapKept.heap_set g1).1, rfl, fun _ => rfl⟩)
  have : (Builtin.clear_ #[t] o.type #[.map (some r)]).run P w = .ok (.tuple #[]) { w with heap := w.heap.setIfInBounds r (.map #[] clock) } := by
    unfold Builtin.clear_
    simp [run_underlying hu, Go.MapKept.run_getObj_map g1, Go.MapKept.run_setObj_map _ g1]
  simp [execOp, ho, resolve, invoke, builtin, hx, this]
/-- copy(b, s). -/
theorem Stp_copySt {t u e e' g off d c : Nat} {x y : Operand} {L : List Value} {m : List UInt8} (hb : Blk w g e' L) (hs : sliceOk P t e 1 = true) (ho : o.op = .call { callee := .builtin .copy, args := #[x, y], argTypes := #[t, u] })
    (hx : ev f x = .slice (some ⟨g, off, none⟩) d c) (hy : ev f y = St m) (hq : off + min m.length d ≤ L.length)
    (h : ∀ w', w'.heap.size = w.heap.size → Kp (· = g) w w' → Blk w' g e' (putAt L off ((m.take d).map By).flatten) → N (upo f o.dst (.int .i64 ((min m.length d : Nat) : Int))) w') : Stp P n o f w N := by
  obtain ⟨inf, h1, h2, h3⟩ := sliceOk_spec hs
  have hsz : (ByteArray.mk m.toArray).size = m.length := by show m.toArray.size = _; simp
  have hml : m.take (min m.length d) = m.take d := by
    by_cases hd : d ≤ m.length
    · rw [Nat.min_eq_right hd]
    · rw [Nat.min_eq_left (by omega), List.take_of_length_le (Nat.le_refl _), List.take_of_length_le (by omega)]
  have hfc : (Builtin.firstCells 1 (min m.length d) (.string ⟨m.toArray⟩)).run P w = .ok ((m.take d).map By).flatten.toArray w := by
    simp only [Builtin.firstCells, Sem.run_pure]
    rw [ByteArray.extract_mk, List.drop_zero, Nat.sub_zero, hml]
    rw [← strCells_St]
    simp [Lib.strCells]
  have hlen : ((m.take d).map By).flatten.length = min m.length d := by rw [By_flat_len, List.length_take, Nat.min_comm]
  have hst := run_storeBlk (P := P) (b := g) (q := off) (vs := ((m.take d).map By).flatten) hb (by rw [hlen]; exact hq) (By_one _)
  refine Stp_val (v := .int .i64 ((min m.length d : Nat) : Int)) (w' := w.setRow g (putAt L off ((m.take d).map By).flatten).toArray) ?_ (h _ (by simp [World.setRow]) (Kp.setRow _ _ _) (setRow_heap w g L.toArray _ e' (0, 0) hb))
  clear h
  generalize ((m.take d).map By).flatten = vs at *
  have : (Builtin.copy_ #[t, u] o.type #[.slice (some ⟨g, off, none⟩) d c, St m]).run P w = .ok (.int .i64 ((min m.length d : Nat) : Int)) (w.setRow g (putAt L off vs).toArray) := by
    unfold Builtin.copy_
    have hl : (Builtin.lenOf (St m)).run P w = .ok m.length w := by simp [Builtin.lenOf, hsz]
    simp only [Sem.run_bind]
    simp [run_underlying h1, hl, Go.sizeOf, typeInfo, h2, h3]
    show Result.andThen ((Builtin.firstCells 1 (min m.length d) (.string ⟨m.toArray⟩)).run P w) _ = _
    rw [hfc]
    simp [hst, goInt]
  simp [execOp, ho, resolve, invoke, builtin, hx, hy, this]

/-! ### strings.Builder's own -/
theorem Ev_toUnsafe {src dst t b e : Nat} {x : Operand} {L : List Value} {d : Nat} (hb : Blk w b e L) (hs : P.underlying src = some (.pointer t)) (hd : P.underlying dst = some .unsafePointer) (hz : sizeIs P t (d + 1) = true) (hl : 0 < L.length) (ho : o.op = .convert src dst x) (hx : ev f x = .pointer (some ⟨b, 0, none⟩)) :
    Ev P o f w (.pointer (some ⟨b, 0, none⟩)) := by
  unfold sizeIs at hz
  cases h3 : P.info? t with
  | none => rw [h3] at hz; cases hz
  | some inf =>
    rw [h3] at hz
    have hz : inf.size = d + 1 := by simpa using hz
    have := Lib.run_to_unsafe (P := P) w ⟨b, 0, none⟩ hs hd h3 (by omega) (e := e) (cells := L.length) (by unfold Blk at hb; simp [World.shape?, hb]) (by simpa using hl)
    simp only [Ev, execOp, ho, hx]
    rw [Sem.run_bind, this]
    rfl
theorem Ev_fromUnsafe {src dst t b e cells : Nat} {x : Operand} {L : List Value} (hb : Blk w b e L) (hc : L.length = cells) (hs : P.underlying src = some .unsafePointer) (hd : P.underlying dst = some (.pointer t)) (hz : (P.info? t).isSome = true)
    (hlies : liesAt P P.depth e (cells / P.cellsOf e) 0 t 1 = true) (ho : o.op = .convert src dst x) (hx : ev f x = .pointer (some ⟨b, 0, none⟩)) : Ev P o f w (.pointer (some ⟨b, 0, none⟩)) := by
  obtain ⟨inf, h3⟩ := Option.isSome_iff_exists.1 hz
  subst hc
  have := Lib.run_from_unsafe (P := P) w ⟨b, 0, none⟩ hs hd h3 (e := e) (cells := L.length) (by unfold Blk at hb; simp [World.shape?, hb]) hlies
  simp only [Ev, execOp, ho, hx]
  rw [Sem.run_bind, this]
  rfl
/-- A call of a function without a body, that leaves the world alone. -/
theorem Ev_extern {k : Nat} {fn : Func} {e : Array Value → Sem Value} {fo : Operand} {as : List Operand} {ts : Array TypeId} {vals : List Value} {v : Value} (hf : P.funcs[k]? = some fn) (hname : (fn.name == "runtime.NumGoroutine") = false)
    (hb : fn.body.isNone = true) (hn : Extern.findNext fn = none) (he : Extern.find fn = some e) (ho : o.op = .call { callee := .value fo, args := as.toArray, argTypes := ts }) (hfo : ev f fo = .func (.func k) #[] #[]) (ha : as.map (ev f) = vals) (hr : (e vals.toArray).run P w = .ok v w) : Ev P o f w v := by
  have := run_callFunc_extern (P := P) hf hname hb hn he vals.toArray w
  rw [hr] at this
  subst ha
  simp [Ev, execOp, ho, resolve, hfo, Deferred.ofValue, invoke, this]
theorem Ev_ptrNeSame {t e : Nat} {x y : Operand} {a : Addr} {t' : Nat} (hu : P.underlying t = some (.pointer e)) (hi : (P.info? e).isSome = true) (ho : o.op = .binOp .neq t x y t') (hx : ev f x = .pointer (some a)) (hy : ev f y = .pointer (some a)) : Ev P o f w (.bool false) := by
  obtain ⟨inf, hi⟩ := Option.isSome_iff_exists.1 hi
  have h : (Op.equal t (.pointer (some a)) (.pointer (some a))).run P w = .ok true w := by
    have h : ∀ d : Nat, (Op.equalIn (d + 1) t (.pointer (some a)) (.pointer (some a))).run P w = .ok true w := fun d => by
      simp [Op.equalIn, run_underlying hu, Go.sizeOf, typeInfo, hi, run_sameAddr_same]
    simp [Op.equal, Op.maxDepth, h 9999]
  have h2 : (binOp .neq t (.pointer (some a)) (.pointer (some a))).run P w = .ok (.bool false) w := by
    simp only [binOp]
    simp [h]
  simp only [Ev, execOp, ho, hx, hy, eqGuard_at_pointer, Sem.run_bind, Sem.run_pure, Result.andThen_ok, h2]
/-- unsafe.SliceData of the builder's bytes. -/
theorem Stp_sliceData {base e t pt : Nat} {x : Operand} {v : Value} {l : List UInt8} (hO : OwnB base w e v l) (hp : P.underlying o.type = some (.pointer pt)) (ho : o.op = .call { callee := .builtin .unsafeSliceData, args := #[x], argTypes := #[t] }) (hx : ev f x = v)
    (h : ∀ p w', Kp0 w w' → (∀ b, v.ownBlock = some b → l ≠ [] → p = some ⟨b, 0, none⟩) → N (upo f o.dst (.pointer p)) w') : Stp P n o f w N := by
  have fin : ∀ p w', (Builtin.unsafeSliceData_ #[t] o.type #[v]).run P w = .ok (.pointer p) w' → Kp0 w w' → (∀ b, v.ownBlock = some b → l ≠ [] → p = some ⟨b, 0, none⟩) → Stp P n o f w N := by
    intro p w' hr hk hb
    refine Stp_val (v := .pointer p) (w' := w') ?_ (h p w' hk hb)
    simp [execOp, ho, resolve, invoke, builtin, hx, hr]
  rcases hO.2 with ⟨rfl, h0⟩ | ⟨g, cap, cur, rfl, hg, hb, h1, h2, h3, h4⟩
  · exact fin none w rfl (Kp.refl _ _) (fun b hb => by simp [Value.ownBlock] at hb)
  · by_cases hc : cap = 0
    · subst hc
      refine fin _ _ (Lib.run_unsafeSliceData_zero (P := P) w #[t] o.type pt hp ⟨g, 0, none⟩ l.length (e, cur.size) (by simp [World.shape?, hb])) (Kp.alloc _ _ _) (fun b _ hl => ?_)
      exact absurd (List.eq_nil_of_length_eq_zero (by omega)) hl
    · exact fin (some ⟨g, 0, none⟩) w (Lib.run_unsafeSliceData_row (P := P) w #[t] o.type ⟨g, 0, none⟩ l.length cap hc) (Kp.refl _ _) (fun b hb _ => by injection hb with hb; subst hb; rfl)
theorem Kp.freeze (w : World) (g k : Nat) : Kp (· = g) w (w.freeze ⟨g, 0, none⟩ k) := by
  unfold World.freeze
  split
  · exact Kp.refl _ _
  · refine ⟨rfl, rfl, rfl, by simp, fun b _ hb => ?_⟩
    show (w.heap.modify g _)[b]? = _
    rw [Array.getElem?_modify, if_neg (Ne.symm hb)]
/-- unsafe.String of them: the row's head is frozen behind it. -/
theorem Stp_unsafeStr {base e pt it et : Nat} {x y : Operand} {v : Value} {l : List UInt8} {p : Option Addr} (hO : OwnB base w e v l) (hp : P.underlying pt = some (.pointer et)) (hc : P.cellsOf et = 1) (hee : et = e)
    (hpb : ∀ b, v.ownBlock = some b → l ≠ [] → p = some ⟨b, 0, none⟩) (ho : o.op = .call { callee := .builtin .unsafeString, args := #[x, y], argTypes := #[pt, it] }) (hx : ev f x = .pointer p) (hy : ev f y = .int .i64 (l.length : Int))
    (h : ∀ w', w'.heap.size = w.heap.size → Kp (fun b => v.ownBlock = some b) w w' → N (upo f o.dst (St l)) w') : Stp P n o f w N := by
  subst hee
  have fin : ∀ w', (Builtin.unsafeString_ #[pt, it] o.type #[.pointer p, .int .i64 (l.length : Int)]).run P w = .ok (St l) w' → w'.heap.size = w.heap.size → Kp (fun b => v.ownBlock = some b) w w' → Stp P n o f w N := by
    intro w' hr hz hk
    refine Stp_val (v := St l) (w' := w') ?_ (h w' hz hk)
    simp [execOp, ho, resolve, invoke, builtin, hx, hy, hr]
  by_cases hl : l = []
  · subst hl
    exact fin w (Lib.run_unsafeString_none (P := P) w pt it o.type p) rfl (Kp.refl _ _)
  · rcases hO.2 with ⟨rfl, h0⟩ | ⟨g, cap, cur, rfl, hg, hb, h1, h2, h3, h4⟩
    · exact absurd (List.eq_nil_of_length_eq_zero h0) hl
    · have hp' := hpb g rfl hl
      subst hp'
      have hcl : ∀ j x, l[j]? = some x → w.cell? ((⟨g, 0, none⟩ : Addr).add j) = some (.int .u8 x.toNat) := by
        intro j x hj
        have hil : j < l.length := (List.getElem?_eq_some_iff.1 hj).1
        have hf : (l.map By).flatten[j]? = some (.int .u8 x.toNat) := by
          rw [getElem?_flatten (sz := 1) (by decide) (By_len l), Nat.div_one, Nat.mod_one, List.getElem?_map, hj]
          rfl
        rw [← h4, List.getElem?_take, if_pos (by omega)] at hf
        rw [Addr.add_lit]
        simp only [World.cell?, hb]
        simpa using hf
      have hr := Lib.run_unsafeString_row (P := P) w pt it o.type et hp hc g cur.size (by simp [World.shape?, hb]) l hl (by omega) (by simp only [maxLen] at h2; omega) hcl
      refine fin _ hr ?_ ((Kp.freeze w g l.length).mono fun k _ hk => by rw [hk]; rfl)
      unfold World.freeze
      split
      · rfl
      · simp
end
end Bx
