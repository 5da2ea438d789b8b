/- '==' and '!=' on structs and arrays of integers, however deep: as their cells are. Any program. -/
import Derived.Test.YthfelkjklnhdiaaMem
import Derived.Laws.StructEq
namespace Bx
open Go Go.RowKit

def eq1 : Value → Value → Bool
  | .int _ a, .int _ b => decide (a = b)
  | .bool a, .bool b => a == b
  | _, _ => false
def ke1 : Value → Value → Bool
  | .int k _, .int k' _ => decide (k = k')
  | _, _ => false
def eqL : List Value → List Value → Bool
  | a :: x, b :: y => eq1 a b && eqL x y
  | _, _ => true
def keL : List Value → List Value → Bool
  | a :: x, b :: y => ke1 a b && keL x y
  | [], [] => true
  | _, _ => false

theorem eqL_append : ∀ {a c b d : List Value}, a.length = c.length → eqL (a ++ b) (c ++ d) = (eqL a c && eqL b d)
  | [], [], _, _, _ => by simp [eqL]
  | x :: a, y :: c, _, _, h => by simp [eqL, eqL_append (a := a) (c := c) (by simpa using h), Bool.and_assoc]
  | [], _ :: _, _, _, h => by simp at h
  | _ :: _, [], _, _, h => by simp at h
theorem keL_length : ∀ {a c : List Value}, keL a c = true → a.length = c.length
  | [], [], _ => rfl
  | x :: a, y :: c, h => by
    simp only [keL, Bool.and_eq_true] at h
    simp [keL_length h.2]
  | [], _ :: _, h => by simp [keL] at h
  | _ :: _, [], h => by simp [keL] at h
theorem keL_drop : ∀ {a c : List Value} (n : Nat), keL a c = true → keL (a.drop n) (c.drop n) = true
  | _, _, 0, h => by simpa using h
  | [], [], n + 1, _ => by simp [keL]
  | x :: a, y :: c, n + 1, h => by
    simp only [keL, Bool.and_eq_true] at h
    simpa using keL_drop n h.2
  | [], _ :: _, _, h => by simp [keL] at h
  | _ :: _, [], _, h => by simp [keL] at h
theorem keL_take : ∀ {a c : List Value} (n : Nat), keL a c = true → keL (a.take n) (c.take n) = true
  | _, _, 0, _ => by simp [keL]
  | [], [], n + 1, _ => by simp [keL]
  | x :: a, y :: c, n + 1, h => by
    simp only [keL, Bool.and_eq_true] at h
    simp [keL, h.1, keL_take n h.2]
  | [], _ :: _, _, h => by simp [keL] at h
  | _ :: _, [], _, h => by simp [keL] at h

def tsize (P : Program) (t : Nat) : Nat := ((P.info? t).map (·.size)).getD 0
theorem run_tsize {P : Program} {t : Nat} (h : (P.info? t).isSome = true) (w : World) : (Go.sizeOf t).run P w = .ok (tsize P t) w := by
  obtain ⟨i, hi⟩ := Option.isSome_iff_exists.1 h
  simp [Go.sizeOf, typeInfo, hi, tsize]

def aggTy (P : Program) (t : Nat) : Bool :=
  match P.underlying t with
  | some (.struct _) | some (.array _ _) => true
  | _ => false

def fldB (P : Program) (fl : Nat → Bool) : List Field → Nat → Nat → Bool
  | [], off, tot => Nat.beq off tot
  | f :: fs, off, tot => Nat.beq f.offset off && f.name != "_" && fl f.type && fldB P fl fs (off + tsize P f.type) tot

def flatB (P : Program) : Nat → Nat → Bool
  | 0, _ => false
  | d + 1, t => (P.info? t).isSome &&
    (match P.underlying t with
    | some (.int _) => Nat.beq (tsize P t) 1
    | some (.struct fs) => !P.stoodInHeld t && fldB P (flatB P d) fs.toList 0 (tsize P t)
    | some (.array n e) => flatB P d e && Nat.beq (tsize P t) (n * tsize P e)
    | _ => false)

def mkv (P : Program) (t : Nat) (xs : List Value) : Value := if aggTy P t then .agg xs.toArray else xs.getD 0 undef

section
variable {P : Program}
theorem flatB_some {d t : Nat} (h : flatB P d t = true) : (P.info? t).isSome = true ∧ (P.underlying t).isSome = true := by
  cases d with
  | zero => cases h
  | succ d =>
    unfold flatB at h
    rw [Bool.and_eq_true] at h
    refine ⟨h.1, ?_⟩
    cases hu : P.underlying t with
    | none => rw [hu] at h; cases h.2
    | some d => rfl

theorem run_isAgg_any {t : Nat} (h : (P.underlying t).isSome = true) (w : World) : (isAgg t).run P w = .ok (aggTy P t) w := by
  obtain ⟨d, hd⟩ := Option.isSome_iff_exists.1 h
  unfold isAgg aggTy
  rw [Sem.run_bind, run_underlying hd, hd]
  cases d <;> rfl

theorem run_part {d t : Nat} (hf : flatB P d t = true) {cs : List Value} {off : Nat} (hl : off + tsize P t ≤ cs.length) (w : World) :
    (part t cs.toArray off).run P w = .ok (mkv P t ((cs.drop off).take (tsize P t))) w := by
  obtain ⟨h1, h2⟩ := flatB_some hf
  unfold part
  rw [Sem.run_bind, run_isAgg_any h2]
  simp only [Result.andThen_ok, mkv]
  cases ha : aggTy P t with
  | true =>
    simp only [if_true, Sem.run_bind, run_tsize h1, Result.andThen_ok, Sem.run_pure]
    congr 2
    simp [List.extract_eq_take_drop]
  | false =>
    have hone : tsize P t = 1 := by
      cases d with
      | zero => cases hf
      | succ d =>
        unfold flatB at hf
        rw [Bool.and_eq_true] at hf
        unfold aggTy at ha
        cases hu : P.underlying t with
        | none => rw [hu] at hf; cases hf.2
        | some dd =>
          rw [hu] at hf ha
          cases dd <;> first | (simp at ha; done) | (exact Nat.eq_of_beq_eq_true hf.2) | (cases hf.2)
    simp only [Bool.false_eq_true, if_false, List.getElem?_toArray]
    have hlt : off < cs.length := by omega
    rw [List.getElem?_eq_getElem hlt, hone]
    simp only [Sem.run_pure]
    congr 1
    rw [List.drop_eq_getElem_cons hlt]
    rfl

def KEq (P : Program) (d : Nat) (fl : Nat → Bool) : Prop := ∀ t, fl t = true → ((P.info? t).isSome = true) ∧ ∀ (xs ys : List Value), xs.length = tsize P t → ys.length = tsize P t → keL xs ys = true → ∀ (k : Nat) (w : World),
  (Op.equalIn (k + d) t (mkv P t xs) (mkv P t ys)).run P w = .ok (eqL xs ys) w

theorem run_eqFields {d : Nat} (ih : KEq P d (flatB P d)) : ∀ (fs : List Field) (off tot : Nat) (xs ys : List Value), fldB P (flatB P d) fs off tot = true → xs.length = tot → ys.length = tot → keL xs ys = true →
    ∀ (k : Nat) (w : World), (Op.eqFields (k + d) xs.toArray ys.toArray fs).run P w = .ok (eqL (xs.drop off) (ys.drop off)) w
  | [], off, tot, xs, ys, hf, hx, hy, _, k, w => by
    have : off = tot := Nat.eq_of_beq_eq_true hf
    rw [List.drop_eq_nil_of_le (by omega), List.drop_eq_nil_of_le (by omega)]
    simp [Op.eqFields, eqL]
  | f :: fs, off, tot, xs, ys, hf, hx, hy, hk, k, w => by
    unfold fldB at hf
    simp only [Bool.and_eq_true] at hf
    obtain ⟨⟨⟨h1, h2⟩, h3⟩, h4⟩ := hf
    have hoff : f.offset = off := Nat.eq_of_beq_eq_true h1
    have hle : ∀ (fs : List Field) (off tot : Nat), fldB P (flatB P d) fs off tot = true → off ≤ tot := by
      intro fs
      induction fs with
      | nil => intro off tot h; exact Nat.le_of_eq (Nat.eq_of_beq_eq_true h)
      | cons g gs ihg =>
        intro off tot h
        unfold fldB at h
        simp only [Bool.and_eq_true] at h
        have := ihg _ _ h.2
        omega
    have hfit := hle _ _ _ h4
    have hn : f.name ≠ "_" := by simpa using h2
    unfold Op.eqFields
    rw [if_pos hn]
    have hpx := run_part h3 (cs := xs) (off := off) (by omega) w
    have hpy := run_part h3 (cs := ys) (off := off) (by omega) w
    have he := (ih f.type h3).2 ((xs.drop off).take (tsize P f.type)) ((ys.drop off).take (tsize P f.type)) (by simp; omega) (by simp; omega) (keL_take _ (keL_drop _ hk)) k w
    have hrest := run_eqFields ih fs (off + tsize P f.type) tot xs ys h4 hx hy hk k w
    have hsplit : eqL (xs.drop off) (ys.drop off) = (eqL ((xs.drop off).take (tsize P f.type)) ((ys.drop off).take (tsize P f.type)) && eqL (xs.drop (off + tsize P f.type)) (ys.drop (off + tsize P f.type))) := by
      conv => lhs; rw [← List.take_append_drop (tsize P f.type) (xs.drop off), ← List.take_append_drop (tsize P f.type) (ys.drop off)]
      rw [eqL_append (by simp; omega), List.drop_drop, List.drop_drop]
    rw [hsplit]
    simp only [Sem.run_bind, hoff, hpx, hpy, Result.andThen_ok, he]
    cases eqL ((xs.drop off).take (tsize P f.type)) ((ys.drop off).take (tsize P f.type)) with
    | false => simp
    | true => simp [hrest]

def eqElems (d e n : Nat) (xs ys : Array Value) : List Nat → Sem Bool
  | [] => pure true
  | i :: is => do
    let a ← part e xs (i * n)
    let b ← part e ys (i * n)
    let r ← Op.equalIn d e a b
    if (!r) = true then pure false else eqElems d e n xs ys is

theorem run_eqElems {d e : Nat} (hf : flatB P d e = true) (ih : KEq P d (flatB P d)) : ∀ (m i : Nat) (xs ys : List Value), (i + m) * tsize P e = xs.length → xs.length = ys.length → keL xs ys = true →
    ∀ (k : Nat) (w : World), (eqElems (k + d) e (tsize P e) xs.toArray ys.toArray (List.range' i m)).run P w = .ok (eqL (xs.drop (i * tsize P e)) (ys.drop (i * tsize P e))) w
  | 0, i, xs, ys, hl, hy, _, k, w => by
    rw [List.drop_eq_nil_of_le (by rw [← hl]; simp), List.drop_eq_nil_of_le (by rw [← hy, ← hl]; simp)]
    simp [eqElems, eqL]
  | m + 1, i, xs, ys, hl, hy, hk, k, w => by
    have h1 : i * tsize P e + tsize P e ≤ xs.length := by
      rw [← hl]
      have : (i + (m + 1)) * tsize P e = i * tsize P e + m * tsize P e + tsize P e := by rw [Nat.add_mul, Nat.add_mul]; omega
      omega
    rw [List.range'_succ]
    unfold eqElems
    have hpx := run_part hf (cs := xs) (off := i * tsize P e) h1 w
    have hpy := run_part hf (cs := ys) (off := i * tsize P e) (by omega) w
    have he := (ih e hf).2 ((xs.drop (i * tsize P e)).take (tsize P e)) ((ys.drop (i * tsize P e)).take (tsize P e)) (by simp; omega) (by simp; omega) (keL_take _ (keL_drop _ hk)) k w
    have hrest := run_eqElems hf ih m (i + 1) xs ys (by rw [← hl]; congr 1; omega) hy hk k w
    have hsplit : eqL (xs.drop (i * tsize P e)) (ys.drop (i * tsize P e)) = (eqL ((xs.drop (i * tsize P e)).take (tsize P e)) ((ys.drop (i * tsize P e)).take (tsize P e)) && eqL (xs.drop ((i + 1) * tsize P e)) (ys.drop ((i + 1) * tsize P e))) := by
      conv => lhs; rw [← List.take_append_drop (tsize P e) (xs.drop (i * tsize P e)), ← List.take_append_drop (tsize P e) (ys.drop (i * tsize P e))]
      rw [eqL_append (by simp; omega), List.drop_drop, List.drop_drop, Nat.add_mul, Nat.one_mul]
    rw [hsplit]
    simp only [Sem.run_bind, hpx, hpy, Result.andThen_ok, he]
    cases eqL ((xs.drop (i * tsize P e)).take (tsize P e)) ((ys.drop (i * tsize P e)).take (tsize P e)) with
    | false => simp
    | true => simp [hrest]

theorem run_equalIn_array (d t n e : Nat) (xs ys : Array Value) (ht : P.underlying t = some (.array n e)) (he : (P.info? e).isSome = true) (w : World) :
    (Op.equalIn (d + 1) t (.agg xs) (.agg ys)).run P w = (eqElems d e (tsize P e) xs ys (List.range' 0 n)).run P w := by
  simp only [Op.equalIn, Sem.run_bind, run_underlying ht, Result.andThen_ok, run_tsize he]
  rw [Std.Legacy.Range.forIn_eq_forIn_range']
  simp only [Std.Legacy.Range.size, Nat.sub_zero, Nat.add_sub_cancel, Nat.div_one]
  generalize List.range' 0 n = is
  induction is generalizing w with
  | nil => simp [eqElems]
  | cons i is ih =>
    simp only [List.forIn_cons, eqElems, Sem.run_bind, Sem.run_ite]
    generalize (part e xs (i * tsize P e)).run P w = r1
    cases r1 with
    | ok a w1 =>
      simp only [Result.andThen_ok]
      generalize (part e ys (i * tsize P e)).run P w1 = r2
      cases r2 with
      | ok b w2 =>
        simp only [Result.andThen_ok]
        generalize (Op.equalIn d e a b).run P w2 = r3
        cases r3 with
        | ok r w3 =>
          cases r
          · simp only [Result.andThen_ok, Bool.not_false, if_true, Sem.run_pure]
          · simp only [Result.andThen_ok, Bool.not_true, Bool.false_eq_true, if_false, Sem.run_pure]
            exact ih w3
        | halt x w3 => simp [Result.andThen]
      | halt x w2 => simp [Result.andThen]
    | halt x w1 => simp [Result.andThen]

theorem keq_flat : ∀ d, KEq P d (flatB P d)
  | 0, t, h => nomatch h
  | d + 1, t, h => by
    refine ⟨(flatB_some h).1, fun xs ys hx hy hk k w => ?_⟩
    have ih := keq_flat d
    unfold flatB at h
    rw [Bool.and_eq_true] at h
    obtain ⟨hi, h⟩ := h
    cases hu : P.underlying t with
    | none => rw [hu] at h; cases h
    | some dd =>
      rw [hu] at h
      cases dd with
      | int kk =>
        have h1 : tsize P t = 1 := Nat.eq_of_beq_eq_true h
        match xs, ys, hx.trans h1, hy.trans h1 with
        | [a], [b], _, _ =>
          simp only [keL, Bool.and_true] at hk
          match a, b, hk with
          | .int k1 n1, .int k2 n2, hk =>
            have hk' : k1 = k2 := by simpa [ke1] using hk
            subst hk'
            have : (Op.equalIn (k + (d + 1)) t (.int k1 n1) (.int k1 n2)).run P w = .ok (n1 == n2) w := run_equalIn_int w (k + d) t k1 kk n1 n2 hu
            simp only [mkv, aggTy, hu, Bool.false_eq_true, if_false, List.getD_cons_zero, this, eqL, eq1, Bool.and_true]
            rfl
      | struct fs =>
        simp only [Bool.and_eq_true] at h
        have hfo : P.fieldsOf t = fs := by simp [Program.fieldsOf, hu]
        have := run_equalIn_struct (P := P) w (k + d) t xs.toArray ys.toArray (by rw [hfo]; exact hu) (by simpa using h.1)
        simp only [mkv, aggTy, hu, if_true]
        rw [show k + (d + 1) = (k + d) + 1 from rfl, this, hfo, run_eqFields ih fs.toList 0 (tsize P t) xs ys h.2 hx hy hk k w]
        simp
      | array n e =>
        simp only [Bool.and_eq_true] at h
        have hsz : tsize P t = n * tsize P e := Nat.eq_of_beq_eq_true h.2
        have := run_equalIn_array (P := P) (k + d) t n e xs.toArray ys.toArray hu (ih e h.1).1 w
        simp only [mkv, aggTy, hu, if_true]
        rw [show k + (d + 1) = (k + d) + 1 from rfl, this, run_eqElems h.1 ih n 0 xs ys (by rw [hx, hsz]; simp) (by omega) hk k w]
        simp
      | _ => cases h

variable {f : Fr} {w : World} {o : Oper}
theorem run_eql_flat {t d : Nat} (hf : flatB P d t = true) (hd : d ≤ 10000) (ha : aggTy P t = true) {xs ys : List Value} (hx : xs.length = tsize P t) (hk : keL xs ys = true) (w : World) :
    (Op.equalIn 10000 t (.agg xs.toArray) (.agg ys.toArray)).run P w = .ok (eqL xs ys) w := by
  have := (keq_flat d t hf).2 xs ys hx ((keL_length hk).symm.trans hx) hk (10000 - d) w
  rw [Nat.sub_add_cancel hd] at this
  simpa [mkv, ha] using this

def flatOk (P : Program) (t n : Nat) : Bool := flatB P 20 t && aggTy P t && Nat.beq (tsize P t) n && !P.eqGuardType P.depth t
theorem Ev_eqS {t n : Nat} {x y : Operand} {xs ys : List Value} {b : Bool} (hf : flatOk P t n = true) (ho : o.op = .binOp .eql t x y t) (hx : ev f x = .agg xs.toArray) (hy : ev f y = .agg ys.toArray) (hl : xs.length = n) (hk : keL xs ys = true)
    (hb : eqL xs ys = b) : Ev P o f w (.bool b) := by
  simp only [flatOk, Bool.and_eq_true] at hf
  obtain ⟨⟨⟨h1, h2⟩, h3⟩, h4⟩ := hf
  have hr := run_eql_flat h1 (by omega) h2 (hl.trans (Nat.eq_of_beq_eq_true h3).symm) hk w
  unfold Ev execOp
  simp only [ho, hx, hy, Sem.run_bind, run_eqGuard_agg w _ _ _ _ _ _ (show P.eqGuardType P.depth t = false by simpa using h4), Result.andThen_ok, run_eql_struct, hr, Sem.run_pure, hb]
theorem Ev_neS {t n : Nat} {x y : Operand} {xs ys : List Value} {b : Bool} (hf : flatOk P t n = true) (ho : o.op = .binOp .neq t x y t) (hx : ev f x = .agg xs.toArray) (hy : ev f y = .agg ys.toArray) (hl : xs.length = n) (hk : keL xs ys = true)
    (hb : (!eqL xs ys) = b) : Ev P o f w (.bool b) := by
  simp only [flatOk, Bool.and_eq_true] at hf
  obtain ⟨⟨⟨h1, h2⟩, h3⟩, h4⟩ := hf
  have hr := run_eql_flat h1 (by omega) h2 (hl.trans (Nat.eq_of_beq_eq_true h3).symm) hk w
  unfold Ev execOp
  simp only [ho, hx, hy, Sem.run_bind, run_eqGuard_agg w _ _ _ _ _ _ (show P.eqGuardType P.depth t = false by simpa using h4), Result.andThen_ok, run_neq_struct, hr, Sem.run_pure, hb]
end
end Bx
