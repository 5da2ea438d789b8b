/- A rule for each operation: what it yields (Ev), or what becomes of the world (Stp). Any program. -/
import Derived.Test.YthfelkjklnhdiaaRules
import Derived.WalkSpells
namespace Bx
open Go Go.RowKit

theorem bnt {b : Bool} (h : (!b) = true) : b = false := by cases b <;> simp_all
theorem bnf {b : Bool} (h : (!b) = false) : b = true := by cases b <;> simp_all
theorem vb {v : Value} {b c : Bool} (h : v = .bool b) (hbc : b = c) : v = .bool c := hbc ▸ h
theorem vi {v : Value} {k : IntKind} {b c : Int} (h : v = .int k b) (hbc : b = c) : v = .int k c := hbc ▸ h
section
variable {P : Program} {n : Nat} {f : Fr} {w : World} {o : Oper} {N : Fr → World → Prop}

/-! ### Without the world -/

theorem Ev_move {x : Operand} (ho : o.op = .move x) : Ev P o f w (ev f x) := by simp [Ev, execOp, ho]
theorem Ev_assign {x : Operand} (ho : o.op = .assign x) : Ev P o f w (ev f x) := by simp [Ev, execOp, ho]
theorem Ev_mvi {x : Operand} {k : IntKind} {a : Int} (ho : o.op = .move x ∨ o.op = .assign x) (hx : ev f x = .int k a) : Ev P o f w (.int k a) := by
  rcases ho with ho | ho <;> simp [Ev, execOp, ho, hx]
theorem Ev_mvb {x : Operand} {b : Bool} (ho : o.op = .move x ∨ o.op = .assign x) (hx : ev f x = .bool b) : Ev P o f w (.bool b) := by
  rcases ho with ho | ho <;> simp [Ev, execOp, ho, hx]
theorem Ev_mvs {x : Operand} {a : Option Addr} {l c : Nat} (ho : o.op = .move x ∨ o.op = .assign x) (hx : ev f x = .slice a l c) : Ev P o f w (.slice a l c) := by
  rcases ho with ho | ho <;> simp [Ev, execOp, ho, hx]
theorem Ev_mvp {x : Operand} {a : Option Addr} (ho : o.op = .move x ∨ o.op = .assign x) (hx : ev f x = .pointer a) : Ev P o f w (.pointer a) := by
  rcases ho with ho | ho <;> simp [Ev, execOp, ho, hx]
theorem Ev_mvst {x : Operand} {s : ByteArray} (ho : o.op = .move x ∨ o.op = .assign x) (hx : ev f x = .string s) : Ev P o f w (.string s) := by
  rcases ho with ho | ho <;> simp [Ev, execOp, ho, hx]
theorem Ev_mva {x : Operand} {s : Array Value} (ho : o.op = .move x ∨ o.op = .assign x) (hx : ev f x = .agg s) : Ev P o f w (.agg s) := by
  rcases ho with ho | ho <;> simp [Ev, execOp, ho, hx]
theorem Ev_mvt {x : Operand} {s : Array Value} (ho : o.op = .move x ∨ o.op = .assign x) (hx : ev f x = .tuple s) : Ev P o f w (.tuple s) := by
  rcases ho with ho | ho <;> simp [Ev, execOp, ho, hx]
theorem Ev_mvf {x : Operand} {fn : Fn} {s c : Array Value} (ho : o.op = .move x ∨ o.op = .assign x) (hx : ev f x = .func fn s c) : Ev P o f w (.func fn s c) := by
  rcases ho with ho | ho <;> simp [Ev, execOp, ho, hx]
theorem Ev_mvm {x : Operand} {r : Option Nat} (ho : o.op = .move x ∨ o.op = .assign x) (hx : ev f x = .map r) : Ev P o f w (.map r) := by
  rcases ho with ho | ho <;> simp [Ev, execOp, ho, hx]
theorem Ev_c {v : Value} (ho : o.op = .move (.const v) ∨ o.op = .assign (.const v)) : Ev P o f w v := by
  rcases ho with ho | ho <;> simp [Ev, execOp, ho, ev]
/-- Any value, its term given. -/
theorem Ev_mv {x : Operand} (v : Value) (ho : o.op = .move x ∨ o.op = .assign x) (hx : ev f x = v) : Ev P o f w v := by
  rcases ho with ho | ho <;> simp [Ev, execOp, ho, hx]

section int
variable {t t' : TypeId} {x y : Operand} {k : IntKind} {a b : Int}
theorem Ev_add (ho : o.op = .binOp .add t x y t') (hx : ev f x = .int k a) (hy : ev f y = .int k b) (hr : k.wrap (a + b) = a + b) : Ev P o f w (.int k (a + b)) := by
  simp [Ev, execOp, ho, hx, hy, eqGuard_at_int, binOp_add, Op.intArith, hr]
theorem Ev_addw (ho : o.op = .binOp .add t x y t') (hx : ev f x = .int k a) (hy : ev f y = .int k b) : Ev P o f w (.int k (k.wrap (a + b))) := by
  simp [Ev, execOp, ho, hx, hy, eqGuard_at_int, binOp_add, Op.intArith]
theorem Ev_sub (ho : o.op = .binOp .sub t x y t') (hx : ev f x = .int k a) (hy : ev f y = .int k b) (hr : k.wrap (a - b) = a - b) : Ev P o f w (.int k (a - b)) := by
  simp [Ev, execOp, ho, hx, hy, eqGuard_at_int, binOp_sub, Op.intArith, hr]
theorem Ev_subw (ho : o.op = .binOp .sub t x y t') (hx : ev f x = .int k a) (hy : ev f y = .int k b) : Ev P o f w (.int k (k.wrap (a - b))) := by
  simp [Ev, execOp, ho, hx, hy, eqGuard_at_int, binOp_sub, Op.intArith]
theorem Ev_mul (ho : o.op = .binOp .mul t x y t') (hx : ev f x = .int k a) (hy : ev f y = .int k b) (hr : k.wrap (a * b) = a * b) : Ev P o f w (.int k (a * b)) := by
  simp [Ev, execOp, ho, hx, hy, eqGuard_at_int, binOp_mul, Op.intArith, hr]
theorem Ev_mulw (ho : o.op = .binOp .mul t x y t') (hx : ev f x = .int k a) (hy : ev f y = .int k b) : Ev P o f w (.int k (k.wrap (a * b))) := by
  simp [Ev, execOp, ho, hx, hy, eqGuard_at_int, binOp_mul, Op.intArith]
theorem Ev_quo (ho : o.op = .binOp .quo t x y t') (hx : ev f x = .int k a) (hy : ev f y = .int k b) (hb : 0 < b) (ha : 0 ≤ a) (hr : k.wrap (a / b) = a / b) : Ev P o f w (.int k (a / b)) := by
  have : a.tdiv b = a / b := Int.tdiv_eq_ediv_of_nonneg ha
  have hb' : b ≠ 0 := by omega
  simp [Ev, execOp, ho, hx, hy, eqGuard_at_int, binOp_quo, Op.intDiv, hb', this, hr]
theorem Ev_rem (ho : o.op = .binOp .rem t x y t') (hx : ev f x = .int k a) (hy : ev f y = .int k b) (hb : 0 < b) (ha : 0 ≤ a) : Ev P o f w (.int k (a % b)) := by
  have : a.tmod b = a % b := Int.tmod_eq_emod_of_nonneg ha
  have hb' : b ≠ 0 := by omega
  simp [Ev, execOp, ho, hx, hy, eqGuard_at_int, binOp_rem, Op.intDiv, hb', this]
theorem Ev_lss (ho : o.op = .binOp .lss t x y t') (hx : ev f x = .int k a) (hy : ev f y = .int k b) : Ev P o f w (.bool (decide (a < b))) := by
  simp [Ev, execOp, ho, hx, hy, eqGuard_at_int, binOp_lss]
theorem Ev_leq (ho : o.op = .binOp .leq t x y t') (hx : ev f x = .int k a) (hy : ev f y = .int k b) : Ev P o f w (.bool (decide (a ≤ b))) := by
  simp [Ev, execOp, ho, hx, hy, eqGuard_at_int, binOp_leq]
theorem Ev_gtr (ho : o.op = .binOp .gtr t x y t') (hx : ev f x = .int k a) (hy : ev f y = .int k b) : Ev P o f w (.bool (decide (b < a))) := by
  simp [Ev, execOp, ho, hx, hy, eqGuard_at_int, binOp_gtr]
theorem Ev_geq (ho : o.op = .binOp .geq t x y t') (hx : ev f x = .int k a) (hy : ev f y = .int k b) : Ev P o f w (.bool (decide (b ≤ a))) := by
  simp [Ev, execOp, ho, hx, hy, eqGuard_at_int, binOp_geq]
theorem Ev_eql (ho : o.op = .binOp .eql t x y t') (hx : ev f x = .int k a) (hy : ev f y = .int k b) : Ev P o f w (.bool (decide (a = b))) := by
  have : (a == b) = decide (a = b) := rfl
  simp [Ev, execOp, ho, hx, hy, eqGuard_at_int, binOp_eql, this]
theorem Ev_neq (ho : o.op = .binOp .neq t x y t') (hx : ev f x = .int k a) (hy : ev f y = .int k b) : Ev P o f w (.bool (decide (a ≠ b))) := by
  have : (a != b) = decide (a ≠ b) := by
    rw [bne, show (a == b) = decide (a = b) from rfl]
    by_cases h : a = b <;> simp [h]
  simp [Ev, execOp, ho, hx, hy, eqGuard_at_int, binOp_neq, this]
theorem Ev_bits {op : BinOp} (hop : op = .and ∨ op = .or ∨ op = .xor) (ho : o.op = .binOp op t x y t') (hx : ev f x = .int k a) (hy : ev f y = .int k b) : Ev P o f w (.int k (bits op k a b)) := by
  rcases hop with rfl | rfl | rfl <;> simp [Ev, execOp, ho, hx, hy, eqGuard_at_int, binOp_and, binOp_or, binOp_xor, intBits_and, intBits_or, intBits_xor]
theorem Ev_shr {k' : IntKind} (ho : o.op = .binOp .shr t x y t') (hx : ev f x = .int k a) (hy : ev f y = .int k' b) (h0 : 0 ≤ b) (h1 : b ≤ k.bits) : Ev P o f w (.int k (a / 2 ^ b.toNat)) := by
  simp [Ev, execOp, ho, hx, hy, eqGuard_at_int, binOp_shr, shift_shr k k' a b h0 h1]
theorem Ev_shl {k' : IntKind} (ho : o.op = .binOp .shl t x y t') (hx : ev f x = .int k a) (hy : ev f y = .int k' b) (h0 : 0 ≤ b) (h1 : b ≤ k.bits) : Ev P o f w (.int k (k.wrap (a * 2 ^ b.toNat))) := by
  simp [Ev, execOp, ho, hx, hy, eqGuard_at_int, binOp_shl, shift_shl k k' a b h0 h1]
theorem Ev_neg (ho : o.op = .unOp .neg t x) (hx : ev f x = .int k a) : Ev P o f w (.int k (k.wrap (0 - a))) := by
  simp [Ev, execOp, ho, hx, Op.unary, Op.intArith]
end int

theorem Ev_not {t : TypeId} {x : Operand} {b : Bool} (ho : o.op = .unOp .not t x) (hx : ev f x = .bool b) : Ev P o f w (.bool (!b)) := by
  simp [Ev, execOp, ho, hx, Op.unary]
theorem Ev_not_dec {t : TypeId} {x : Operand} {φ : Prop} {inst : Decidable φ} (ho : o.op = .unOp .not t x) (hx : ev f x = .bool (@decide φ inst)) : Ev P o f w (.bool (decide (¬ φ))) := by
  simp [Ev, execOp, ho, hx, Op.unary]
theorem Ev_pick_t {c x y : Operand} {b : Bool} (ho : o.op = .pick c x y) (hc : ev f c = .bool b) (hb : b = true) : Ev P o f w (ev f x) := by
  subst hb
  simp [Ev, execOp, ho, hc, asBool]
theorem Ev_pick_f {c x y : Operand} {b : Bool} (ho : o.op = .pick c x y) (hc : ev f c = .bool b) (hb : b = false) : Ev P o f w (ev f y) := by
  subst hb
  simp [Ev, execOp, ho, hc, asBool]
theorem Ev_pickb_t {c x y : Operand} {b d : Bool} (ho : o.op = .pick c x y) (hc : ev f c = .bool b) (hb : b = true) (hx : ev f x = .bool d) : Ev P o f w (.bool d) := hx ▸ Ev_pick_t ho hc hb
theorem Ev_pickb_f {c x y : Operand} {b d : Bool} (ho : o.op = .pick c x y) (hc : ev f c = .bool b) (hb : b = false) (hx : ev f y = .bool d) : Ev P o f w (.bool d) := hx ▸ Ev_pick_f ho hc hb
theorem Ev_extract {x : Operand} {i : Nat} {vs : List Value} {v : Value} (ho : o.op = .extract x i) (hx : ev f x = .tuple vs.toArray) (hv : vs[i]? = some v) : Ev P o f w v := by
  simp [Ev, execOp, ho, hx, Instr.extract, hv]

/-- A min or max of ints. -/
theorem Ev_min2 {x y : Operand} {k k' : IntKind} {a b : Int} {ts : Array TypeId} (ho : o.op = .call { callee := .builtin .min, args := #[x, y], argTypes := ts }) (hx : ev f x = .int k a) (hy : ev f y = .int k' b) :
    Ev P o f w (.int k (min a b)) := by
  have : (if b < a then b else a) = min a b := by omega
  simp [Ev, execOp, ho, resolve, invoke, builtin, Builtin.min_, Builtin.min2, hx, hy, this]
theorem Ev_min3 {x y z : Operand} {k k' k'' : IntKind} {a b c : Int} {ts : Array TypeId} (ho : o.op = .call { callee := .builtin .min, args := #[x, y, z], argTypes := ts }) (hx : ev f x = .int k a) (hy : ev f y = .int k' b) (hz : ev f z = .int k'' c) :
    Ev P o f w (.int k (min (min a b) c)) := by
  have h1 : (if b < a then b else a) = min a b := by omega
  have h2 : (if c < min a b then c else min a b) = min (min a b) c := by omega
  simp [Ev, execOp, ho, resolve, invoke, builtin, Builtin.min_, Builtin.min2, hx, hy, hz, h1, h2]
theorem Ev_max2 {x y : Operand} {k k' : IntKind} {a b : Int} {ts : Array TypeId} (ho : o.op = .call { callee := .builtin .max, args := #[x, y], argTypes := ts }) (hx : ev f x = .int k a) (hy : ev f y = .int k' b) :
    Ev P o f w (.int k (max a b)) := by
  have : (if a < b then b else a) = max a b := by omega
  simp [Ev, execOp, ho, resolve, invoke, builtin, Builtin.max_, Builtin.max2, hx, hy, this]

theorem Ev_makeFunc {fn : Fn} {as cs : List Operand} {vs us : List Value} (ho : o.op = .makeFunc fn as.toArray cs.toArray) (ha : as.map (ev f) = vs) (hc : cs.map (ev f) = us) : Ev P o f w (.func fn vs.toArray us.toArray) := by
  subst ha; subst hc
  simp [Ev, execOp, ho, Instr.makeFunc]

/-! ### By a fact on a type, asked of the program's table by the kernel -/

def fieldOk (P : Program) (s i off : Nat) : Bool :=
  match P.underlying s with
  | some (.struct fs) => match fs[i]? with
    | some fl => (fl.offset == off) && (match P.info? fl.type with | some inf => !(inf.size == 0) | none => false)
    | none => false
  | _ => false

theorem fieldOk_spec {s i off : Nat} (h : fieldOk P s i off = true) : ∃ fs fl inf, P.underlying s = some (.struct fs) ∧ fs[i]? = some fl ∧ fl.offset = off ∧ P.info? fl.type = some inf ∧ inf.size ≠ 0 := by
  unfold fieldOk at h
  cases h1 : P.underlying s with
  | none => rw [h1] at h; cases h
  | some d =>
    rw [h1] at h
    cases d with
    | struct fs =>
      cases h2 : fs[i]? with
      | none => simp [h2] at h
      | some fl =>
        cases h3 : P.info? fl.type with
        | none => simp [h2, h3] at h
        | some inf =>
          simp [h2, h3] at h
          exact ⟨fs, fl, inf, rfl, h2, h.1, h3, h.2⟩
    | _ => simp at h

theorem Ev_fieldAddr {s i off b q : Nat} {x : Operand} (hf : fieldOk P s i off = true) (ho : o.op = .fieldAddr s x i) (hx : ev f x = .pointer (some ⟨b, q, none⟩)) : Ev P o f w (.pointer (some ⟨b, q + off, none⟩)) := by
  obtain ⟨fs, fl, inf, h1, h2, h3, h4, h5⟩ := fieldOk_spec hf
  simp [Ev, execOp, ho, Instr.fieldAt, run_underlying h1, h2, hx, Instr.sureAddr, fieldPlace, Go.sizeOf, typeInfo, h4, h5, h3, Addr.add_lit]

def sliceOk (P : Program) (t e size : Nat) : Bool :=
  match P.underlying t with
  | some (.slice e') => (e' == e) && (match P.info? e with | some inf => inf.size == size | none => false)
  | _ => false

theorem sliceOk_spec {t e size : Nat} (h : sliceOk P t e size = true) : ∃ inf, P.underlying t = some (.slice e) ∧ P.info? e = some inf ∧ inf.size = size := by
  unfold sliceOk at h
  cases h1 : P.underlying t with
  | none => rw [h1] at h; cases h
  | some d =>
    rw [h1] at h
    cases d with
    | slice e' =>
      cases h3 : P.info? e with
      | none => simp [h3] at h
      | some inf =>
        simp [h3] at h
        exact ⟨inf, by rw [h.1], rfl, h.2⟩
    | _ => simp at h

/-- An element's address in a slice whose cells begin at q in block b. -/
theorem Ev_indexAddr {t e size b q l c : Nat} {x y : Operand} {k : IntKind} {z : Int} (i : Nat) (hs : sliceOk P t e size = true) (ho : o.op = .indexAddr t x y) (hx : ev f x = .slice (some ⟨b, q, none⟩) l c)
    (hy : ev f y = .int k z) (hz : z = (i : Int)) (hi : i < l) : Ev P o f w (.pointer (some ⟨b, q + i * size, none⟩)) := by
  obtain ⟨inf, h1, h2, h3⟩ := sliceOk_spec hs
  subst hz
  have hlt : (i : Int) < (l : Int) := by omega
  simp [Ev, execOp, ho, Instr.indexAt, hx, hy, asIntOf, run_underlying h1, hi, Go.sizeOf, typeInfo, h2, h3, Addr.add_lit]

/-- The block and the place of an address. -/
def ablk : Option Addr → Nat | some a => a.block | none => 0
def aoff : Option Addr → Nat | some a => a.off | none => 0
/-- The address is there, and a plain one. -/
def Ad (ao : Option Addr) : Prop := ao = some ⟨ablk ao, aoff ao, none⟩
theorem Ev_idx {t e size l c : Nat} {ao : Option Addr} {x y : Operand} {k : IntKind} {z : Int} (i : Nat) (had : Ad ao) (hs : sliceOk P t e size = true) (ho : o.op = .indexAddr t x y) (hx : ev f x = .slice ao l c)
    (hy : ev f y = .int k z) (hz : z = (i : Int)) (hi : i < l) : Ev P o f w (.pointer (some ⟨ablk ao, aoff ao + i * size, none⟩)) :=
  Ev_indexAddr i hs ho (hx.trans (by rw [had]; rfl)) hy hz hi

def oneOk (P : Program) (t : Nat) : Bool :=
  match P.underlying t with
  | some (.struct _) | some (.array _ _) | none => false
  | _ => true
def aggOk (P : Program) (t size : Nat) : Bool :=
  (match P.underlying t with
  | some (.struct _) | some (.array _ _) => true
  | _ => false) && (match P.info? t with | some inf => inf.size == size | none => false)

theorem run_isAgg_one {t : Nat} (h : oneOk P t = true) (w : World) : (isAgg t).run P w = .ok false w := by
  unfold oneOk at h
  cases h1 : P.underlying t with
  | none => rw [h1] at h; cases h
  | some d =>
    rw [h1] at h
    unfold isAgg
    rw [Sem.run_bind, run_underlying h1]
    cases d <;> simp at h ⊢
theorem run_isAgg_agg {t size : Nat} (h : aggOk P t size = true) (w : World) : (isAgg t).run P w = .ok true w ∧ (Go.sizeOf t).run P w = .ok size w := by
  unfold aggOk at h
  rw [Bool.and_eq_true] at h
  cases h1 : P.underlying t with
  | none => rw [h1] at h; cases h.1
  | some d =>
    rw [h1] at h
    cases h3 : P.info? t with
    | none => rw [h3] at h; cases h.2
    | some inf =>
      rw [h3] at h
      have hsz : inf.size = size := by simpa using h.2
      constructor
      · unfold isAgg
        rw [Sem.run_bind, run_underlying h1]
        cases d <;> simp at h ⊢
      · simp [Go.sizeOf, typeInfo, h3, hsz]

theorem Ev_load {t : Nat} {x : Operand} {a : Addr} {v : Value} (ht : oneOk P t = true) (ho : o.op = .load t x) (hx : ev f x = .pointer (some a)) (hc : w.cell? a = some v) : Ev P o f w v := by
  simp [Ev, execOp, ho, hx, Instr.loadAt, Instr.sureAddr, loadVar, run_isAgg_one ht, hc]

/-- The cells of a value that lies at an address. -/
def CellsAt (w : World) (b q : Nat) (l : List Value) : Prop := ∀ j v, l[j]? = some v → w.cell? ⟨b, q + j, none⟩ = some v

theorem Ev_loadAgg {t size b q : Nat} {x : Operand} {l : List Value} (ht : aggOk P t size = true) (ho : o.op = .load t x) (hx : ev f x = .pointer (some ⟨b, q, none⟩)) (hc : CellsAt w b q l) (hl : l.length = size) :
    Ev P o f w (.agg l.toArray) := by
  subst hl
  obtain ⟨h1, h2⟩ := run_isAgg_agg ht w
  have := run_loadCells_list (P := P) w ⟨b, q, none⟩ l (fun j v hj => by rw [Addr.add_lit]; exact hc j v hj)
  simp [Ev, execOp, ho, hx, Instr.loadAt, Instr.sureAddr, loadVar, h1, h2, this]

theorem ld_agg {t size b q : Nat} {l : List Value} (ht : aggOk P t size = true) (hc : CellsAt w b q l) (hl : l.length = size) : (loadVar t ⟨b, q, none⟩).run P w = .ok (.agg l.toArray) w := by
  subst hl
  obtain ⟨h1, h2⟩ := run_isAgg_agg ht w
  have := run_loadCells_list (P := P) w ⟨b, q, none⟩ l (fun j v hj => by rw [Addr.add_lit]; exact hc j v hj)
  simp [loadVar, h1, h2, this]
theorem ld_one {t : Nat} {a : Addr} {v : Value} (ht : oneOk P t = true) (hc : w.cell? a = some v) : (loadVar t a).run P w = .ok v w := by
  simp [loadVar, run_isAgg_one ht, hc]

theorem Ev_len {t : Nat} {x : Operand} {a : Option Addr} {l c : Nat} {e : Nat} (hu : P.underlying t = some (.slice e)) (ho : o.op = .call { callee := .builtin .len, args := #[x], argTypes := #[t] }) (hx : ev f x = .slice a l c) : Ev P o f w (.int .i64 (l : Int)) := by
  simp [Ev, execOp, ho, resolve, invoke, builtin, Builtin.len_, run_underlying hu, hx, goInt]
theorem Ev_len_str {t : Nat} {x : Operand} {s : ByteArray} (hu : P.underlying t = some .string) (ho : o.op = .call { callee := .builtin .len, args := #[x], argTypes := #[t] }) (hx : ev f x = .string s) : Ev P o f w (.int .i64 (s.size : Int)) := by
  simp [Ev, execOp, ho, resolve, invoke, builtin, Builtin.len_, run_underlying hu, hx, goInt]

/-- '== nil' on a slice. -/
theorem Ev_slice_nil {t e : Nat} {x : Operand} {a : Option Addr} {l c : Nat} (hu : P.underlying t = some (.slice e)) (ho : o.op = .binOp .eql t x (.const (.slice none 0 0)) t) (hx : ev f x = .slice a l c) : Ev P o f w (.bool a.isNone) := by
  have hc : ev f (.const (.slice none 0 0)) = .slice none 0 0 := rfl
  simp only [Ev, execOp, ho, hx, hc, eqGuard_at_slice, Sem.run_bind, Sem.run_pure, Result.andThen_ok, Lib.run_eql_slice_nil w t e a l c 0 0 hu]
theorem Ev_slice_nonnil {t e : Nat} {x : Operand} {a : Option Addr} {l c : Nat} (hu : P.underlying t = some (.slice e)) (ho : o.op = .binOp .neq t x (.const (.slice none 0 0)) t) (hx : ev f x = .slice a l c) : Ev P o f w (.bool (!a.isNone)) := by
  have hc : ev f (.const (.slice none 0 0)) = .slice none 0 0 := rfl
  simp only [Ev, execOp, ho, hx, hc, eqGuard_at_slice, Sem.run_bind, Sem.run_pure, Result.andThen_ok, run_neq_slice_nil_any w t e a l c 0 0 hu]

/-! ### Calls -/

theorem callFunc_enter {k : Nat} {fn : Func} {c : Code} (hf : P.funcs[k]? = some fn) (hb : fn.body = some c) (hn : (fn.name == "runtime.NumGoroutine") = false) (args : Array Value) (w : World) :
    (callFunc k args).run P w = .ok (.enter k args) w := by
  have hn' : ¬ fn.name = "runtime.NumGoroutine" := by simpa using hn
  simp [callFunc, hf, hb, hn']

theorem Stp_call {k : Nat} {fo : Operand} {cap : List Value} {as : List Operand} {ts : Array TypeId} {vals : List Value} {R : Value → World → Prop}
    (he : ∀ args w, (callFunc k args).run P w = .ok (.enter k args) w) (ho : o.op = .call { callee := .value fo, args := as.toArray, argTypes := ts }) (hf : ev f fo = .func (.func k) #[] cap.toArray) (ha : as.map (ev f) ++ cap = vals)
    (hc : Calls P k vals.toArray w (Ret R)) (h : ∀ v w', R v w' → N (upo f o.dst v) w') : Stp P n o f w N := by
  intro hd a hfa
  unfold Oper.wp
  subst ha
  have : (execOp a.eval o).run P w = .ok (.enter k ((as.map (ev f) ++ cap).toArray)) w := by
    rw [hfa.eval]
    simp [execOp, ho, resolve, hf, Deferred.ofValue, invoke, he]
  rw [this]
  simp only [Oper.upon]
  refine hc.mono fun e w' hr => ?_
  cases e with
  | returned v => exact ⟨_, hfa.put hd v, h v w' hr⟩
  | _ => exact hr.elim

end
end Bx
namespace Bx
open Go Go.RowKit
section
variable {P : Program} {n : Nat} {f : Fr} {w : World} {o : Oper} {N : Fr → World → Prop}

def convOk (P : Program) (s d : Nat) (k : IntKind) : Bool := (P.underlying s).isSome && (match P.underlying d with | some (.int k') => decide (k' = k) | _ => false)
theorem Ev_convw {s d : Nat} {k kd : IntKind} {x : Operand} {a : Int} (hc : convOk P s d kd = true) (ho : o.op = .convert s d x) (hx : ev f x = .int k a) : Ev P o f w (.int kd (kd.wrap a)) := by
  unfold convOk at hc
  rw [Bool.and_eq_true] at hc
  obtain ⟨ds, hs⟩ := Option.isSome_iff_exists.1 hc.1
  cases hd : P.underlying d with
  | none => rw [hd] at hc; cases hc.2
  | some dd =>
    rw [hd] at hc
    cases dd with
    | int k' =>
      have hk : k' = kd := by simpa using hc.2
      subst hk
      simp only [Ev, execOp, ho, hx, convert, Sem.run_bind, run_underlying hs, run_underlying hd, Result.andThen_ok]
      cases ds <;> rfl
    | _ => cases hc.2
theorem Ev_conv {s d : Nat} {k kd : IntKind} {x : Operand} {a : Int} (hc : convOk P s d kd = true) (ho : o.op = .convert s d x) (hx : ev f x = .int k a) (hr : kd.wrap a = a) : Ev P o f w (.int kd a) := by
  have := Ev_convw (w := w) hc ho hx
  rwa [hr] at this

/-! ### Slices of slices, of strings -/

def cutAt (ao : Option Addr) (l m size : Nat) : Option Addr := if m = l then ao else ao.map (·.add (l * size))
theorem cutAt_zero (ao : Option Addr) (m size : Nat) : cutAt ao 0 m size = ao := by
  unfold cutAt
  split
  · rfl
  · cases ao <;> simp [Addr.add_zero']

section
variable {t e size len cap : Nat} {x : Operand} {ao : Option Addr} {kl kh km : IntKind} {zl zh zm : Int}
theorem Ev_slice_l (l : Nat) {y : Operand} (hs : sliceOk P t e size = true) (ho : o.op = .slice t x (some y) none none) (hx : ev f x = .slice ao len cap) (hy : ev f y = .int kl zl) (hl : zl = (l : Int)) (h1 : l ≤ len) :
    Ev P o f w (.slice (cutAt ao l cap size) (len - l) (cap - l)) := by
  obtain ⟨inf, hu, h2, h3⟩ := sliceOk_spec hs
  subst hl
  simp [Ev, execOp, ho, hx, hy, Instr.sliceAt, Instr.slice, Instr.sliceBounds, Instr.sliceBound, asIntOf, run_underlying hu, h1, Go.sizeOf, typeInfo, h2, h3, cutAt]
theorem Ev_slice_h (h : Nat) {y : Operand} (hs : sliceOk P t e size = true) (ho : o.op = .slice t x none (some y) none) (hx : ev f x = .slice ao len cap) (hy : ev f y = .int kl zl) (hl : zl = (h : Int)) (h1 : h ≤ cap) :
    Ev P o f w (.slice ao h cap) := by
  obtain ⟨inf, hu, h2, h3⟩ := sliceOk_spec hs
  subst hl
  simp [Ev, execOp, ho, hx, hy, Instr.sliceAt, Instr.slice, Instr.sliceBounds, Instr.sliceBound, asIntOf, run_underlying hu, h1, Go.sizeOf, typeInfo, h2]
  intro _; cases ao <;> simp [Addr.add_zero']
theorem Ev_slice_lh (l h : Nat) {y z : Operand} (hs : sliceOk P t e size = true) (ho : o.op = .slice t x (some y) (some z) none) (hx : ev f x = .slice ao len cap) (hy : ev f y = .int kl zl) (hz : ev f z = .int kh zh) (hl : zl = (l : Int)) (hh : zh = (h : Int)) (h1 : l ≤ h) (h2 : h ≤ cap) :
    Ev P o f w (.slice (cutAt ao l cap size) (h - l) (cap - l)) := by
  obtain ⟨inf, hu, h3, h4⟩ := sliceOk_spec hs
  subst hl; subst hh
  simp [Ev, execOp, ho, hx, hy, hz, Instr.sliceAt, Instr.slice, Instr.sliceBounds, Instr.sliceBound, asIntOf, run_underlying hu, h1, h2, Go.sizeOf, typeInfo, h3, h4, cutAt]
theorem Ev_slice_hm (h m : Nat) {y z : Operand} (hs : sliceOk P t e size = true) (ho : o.op = .slice t x none (some y) (some z)) (hx : ev f x = .slice ao len cap) (hy : ev f y = .int kh zh) (hz : ev f z = .int km zm) (hh : zh = (h : Int)) (hm : zm = (m : Int)) (h1 : h ≤ m) (h2 : m ≤ cap) :
    Ev P o f w (.slice ao h m) := by
  obtain ⟨inf, hu, h3, h4⟩ := sliceOk_spec hs
  subst hh; subst hm
  simp [Ev, execOp, ho, hx, hy, hz, Instr.sliceAt, Instr.slice, Instr.sliceBounds, Instr.sliceBound, asIntOf, run_underlying hu, h1, h2, Go.sizeOf, typeInfo, h3]
  intro _; cases ao <;> simp [Addr.add_zero']
theorem Ev_slice_zhm (h m : Nat) {y z v : Operand} (hs : sliceOk P t e size = true) (ho : o.op = .slice t x (some y) (some z) (some v)) (hx : ev f x = .slice ao len cap) (hy : ev f y = .int kl 0) (hz : ev f z = .int kh zh) (hv : ev f v = .int km zm)
    (hh : zh = (h : Int)) (hm : zm = (m : Int)) (h1 : h ≤ m) (h2 : m ≤ cap) :
    Ev P o f w (.slice ao h m) := by
  obtain ⟨inf, hu, h3, h4⟩ := sliceOk_spec hs
  subst hh; subst hm
  simp [Ev, execOp, ho, hx, hy, hz, hv, Instr.sliceAt, Instr.slice, Instr.sliceBounds, Instr.sliceBound, asIntOf, run_underlying hu, h1, h2, Go.sizeOf, typeInfo, h3]
  intro _; cases ao <;> simp [Addr.add_zero']
theorem Ev_slice_lhm (l h m : Nat) {y z v : Operand} (hs : sliceOk P t e size = true) (ho : o.op = .slice t x (some y) (some z) (some v)) (hx : ev f x = .slice ao len cap) (hy : ev f y = .int kl zl) (hz : ev f z = .int kh zh) (hv : ev f v = .int km zm)
    (hl : zl = (l : Int)) (hh : zh = (h : Int)) (hm : zm = (m : Int)) (h0 : l ≤ h) (h1 : h ≤ m) (h2 : m ≤ cap) :
    Ev P o f w (.slice (cutAt ao l m size) (h - l) (m - l)) := by
  obtain ⟨inf, hu, h3, h4⟩ := sliceOk_spec hs
  subst hl; subst hh; subst hm
  simp [Ev, execOp, ho, hx, hy, hz, hv, Instr.sliceAt, Instr.slice, Instr.sliceBounds, Instr.sliceBound, asIntOf, run_underlying hu, h0, h1, h2, Go.sizeOf, typeInfo, h3, h4, cutAt]
end
end
end Bx
