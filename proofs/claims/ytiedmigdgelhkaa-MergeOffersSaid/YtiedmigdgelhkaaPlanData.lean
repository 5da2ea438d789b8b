/- Plans: the data of layer 17, as lists of cells; what layer 17 tells of a plan. No program in sight. -/
import Derived.Test.YtiedmigdgelhkaaIntRow
import Derived.Test.YtiedmigdgelhkaaEq
namespace Bx
open Go Go.RowKit

def i64r (n : Int) : Prop := -9223372036854775808 ≤ n ∧ n ≤ 9223372036854775807
structure Prt where
  base : Int
  size : Int
  ring : Int
  code : List Int
  fault : Int
  again : Int
deriving DecidableEq
structure Chn where
  kind : Int
  frm : Int
  to : Int
  size : Int
  depth : Int
deriving DecidableEq
structure Pln where
  mem : Int
  ps : List Prt
  ws : List (Int × Int)
  cs : List Chn
structure PrtM where
  r : Prt
  ao : Option Addr
  c : Nat
structure PlnM where
  mem : Int
  ps : List PrtM
  ws : List (Int × Int)
  cs : List Chn
  pa : Option Addr
  wa : Option Addr
  ca : Option Addr
  pc : Nat
  wc : Nat
  cc : Nat
def U1 (n : Int) : List Value := [.int .u32 n]
def Prt.cl (r : Prt) (ao : Option Addr) (c : Nat) : List Value := [.int .i64 r.base, .int .i64 r.size, .int .i64 r.ring, .slice ao r.code.length c, .int .i64 r.fault, .int .i64 r.again]
def PrtM.cl (m : PrtM) : List Value := m.r.cl m.ao m.c
def Chn.cells (c : Chn) : List Value := [.int .i64 c.kind, .int .i64 c.frm, .int .i64 c.to, .int .i64 c.size, .int .i64 c.depth]
def PlnM.cl (p : PlnM) : List Value := [.int .i64 p.mem, .slice p.pa p.ps.length p.pc, .slice p.wa p.ws.length p.wc, .slice p.ca p.cs.length p.cc]
def PlnM.r (p : PlnM) : Pln := ⟨p.mem, p.ps.map PrtM.r, p.ws, p.cs⟩
def Prt.ok (r : Prt) : Prop := i64r r.base ∧ i64r r.size ∧ i64r r.ring ∧ i64r r.fault ∧ i64r r.again ∧ ∀ n ∈ r.code, 0 ≤ n ∧ n ≤ 4294967295
def Chn.ok (c : Chn) : Prop := i64r c.kind ∧ i64r c.frm ∧ i64r c.to ∧ i64r c.size ∧ i64r c.depth
def PrtS (F : Nat → Prop) (w : World) (m : PrtM) : Prop := m.r.ok ∧ m.r.code.length ≤ m.c ∧ m.c ≤ maxLen ∧ Sl F w 1 m.ao (m.r.code.map U1)
/-- The plan's rows lie at its addresses, in blocks of F. -/
def PlnS (F : Nat → Prop) (w : World) (p : PlnM) : Prop :=
  Sl F w 6 p.pa (p.ps.map PrtM.cl) ∧ Sl F w 2 p.wa (p.ws.map I2) ∧ Sl F w 5 p.ca (p.cs.map Chn.cells) ∧ (∀ m ∈ p.ps, PrtS F w m) ∧
    i64r p.mem ∧ (∀ x ∈ p.ws, i64r x.1 ∧ i64r x.2) ∧ (∀ c ∈ p.cs, c.ok) ∧ (p.ps.length ≤ p.pc ∧ p.pc ≤ maxLen) ∧ (p.ws.length ≤ p.wc ∧ p.wc ≤ maxLen) ∧ (p.cs.length ≤ p.cc ∧ p.cc ≤ maxLen)
theorem PlnS.keep {F : Nat → Prop} {w w' : World} {p : PlnM} (h : PlnS F w p) (k : Fix F w w') : PlnS F w' p :=
  ⟨h.1.keep k, h.2.1.keep k, h.2.2.1.keep k, fun m hm => ⟨(h.2.2.2.1 m hm).1, (h.2.2.2.1 m hm).2.1, (h.2.2.2.1 m hm).2.2.1, (h.2.2.2.1 m hm).2.2.2.keep k⟩, h.2.2.2.2⟩
theorem PlnS.keep0 {F : Nat → Prop} {w w' : World} {p : PlnM} (h : PlnS F w p) (k : Kp0 w w') : PlnS F w' p := h.keep k.fix0
theorem PlnS.mono {F G : Nat → Prop} {w : World} {p : PlnM} (h : PlnS F w p) (hfg : ∀ b, b < w.heap.size → F b → G b) : PlnS G w p :=
  ⟨h.1.mono hfg, h.2.1.mono hfg, h.2.2.1.mono hfg, fun m hm => ⟨(h.2.2.2.1 m hm).1, (h.2.2.2.1 m hm).2.1, (h.2.2.2.1 m hm).2.2.1, (h.2.2.2.1 m hm).2.2.2.mono hfg⟩, h.2.2.2.2⟩
theorem PlnS.old {F : Nat → Prop} {w : World} {p : PlnM} (h : PlnS F w p) : PlnS (fun b => b < w.heap.size) w p :=
  ⟨h.1.old, h.2.1.old, h.2.2.1.old, fun m hm => ⟨(h.2.2.2.1 m hm).1, (h.2.2.2.1 m hm).2.1, (h.2.2.2.1 m hm).2.2.1, (h.2.2.2.1 m hm).2.2.2.old⟩, h.2.2.2.2⟩
theorem PlnS.bd {F : Nat → Prop} {w : World} {p : PlnM} (h : PlnS F w p) : PlnS (fun b => F b ∧ b < w.heap.size) w p :=
  ⟨h.1.bd, h.2.1.bd, h.2.2.1.bd, fun m hm => ⟨(h.2.2.2.1 m hm).1, (h.2.2.2.1 m hm).2.1, (h.2.2.2.1 m hm).2.2.1, (h.2.2.2.1 m hm).2.2.2.bd⟩, h.2.2.2.2⟩
theorem PlnS.keepb {F : Nat → Prop} {w w' : World} {p : PlnM} {b' : Nat} (h : PlnS F w p) (k : Kp (· = b') w w') (hn : ¬ F b') : PlnS F w' p := h.keep (k.fix fun b hb _ e => hn (e ▸ hb))
theorem PlnS.keepo {F : Nat → Prop} {w w' : World} {p : PlnM} {B : Nat} {u : Value} (h : PlnS F w p) (k : Kp (fun b => u.ownBlock = some b ∧ B ≤ b) w w') (hn : ∀ b, F b → b < w.heap.size → u.ownBlock = some b → ¬ B ≤ b) : PlnS F w' p :=
  h.keep (k.fix fun b hb hl hm => hn b hb hl hm.1 hm.2)
@[reducible] def PlnS.here {F : Nat → Prop} {w : World} {p : PlnM} (_h : PlnS F w p) (W : World) : Prop := PlnS F W p
theorem getP {p : PlnM} {j : Nat} (h : j < p.ps.length) : ∃ m, p.ps[j]? = some m ∧ (p.ps.map PrtM.cl)[j]? = some m.cl ∧ (p.ps.map PrtM.r)[j]? = some m.r ∧ m ∈ p.ps :=
  ⟨p.ps[j], List.getElem?_eq_getElem h, by rw [List.getElem?_map, List.getElem?_eq_getElem h]; rfl, by rw [List.getElem?_map, List.getElem?_eq_getElem h]; rfl, List.getElem_mem h⟩
theorem getW {ws : List (Int × Int)} {j : Nat} (h : j < ws.length) : ∃ m, ws[j]? = some m ∧ (ws.map I2)[j]? = some (I2 m) ∧ m ∈ ws :=
  ⟨ws[j], List.getElem?_eq_getElem h, by rw [List.getElem?_map, List.getElem?_eq_getElem h]; rfl, List.getElem_mem h⟩
theorem getC {cs : List Chn} {j : Nat} (h : j < cs.length) : ∃ m, cs[j]? = some m ∧ (cs.map Chn.cells)[j]? = some m.cells ∧ m ∈ cs :=
  ⟨cs[j], List.getElem?_eq_getElem h, by rw [List.getElem?_map, List.getElem?_eq_getElem h]; rfl, List.getElem_mem h⟩

/-- The first of the errors g 0, g 1 .. that is one. -/
def firstErr (g : Nat → Int) : Nat → Int
  | 0 => 0
  | k + 1 => if firstErr g k ≠ 0 then firstErr g k else g k
theorem firstErr_ok {g : Nat → Int} {k : Nat} (h : firstErr g k = 0) (hg : g k = 0) : firstErr g (k + 1) = 0 := by
  unfold firstErr; rw [if_neg (by simp [h]), hg]
theorem firstErr_at {g : Nat → Int} {k n : Nat} (h : firstErr g k = 0) (hg : g k ≠ 0) (hn : k < n) : firstErr g n = g k := by
  have h1 : firstErr g (k + 1) = g k := by unfold firstErr; rw [if_neg (by simp [h])]
  have : ∀ d, firstErr g (k + 1 + d) = g k := by
    intro d
    induction d with
    | zero => exact h1
    | succ d ih =>
      show firstErr g (k + 1 + d + 1) = g k
      unfold firstErr; rw [if_pos (by rw [ih]; exact hg), ih]
  have h2 := this (n - (k + 1))
  rwa [show k + 1 + (n - (k + 1)) = n by omega] at h2
theorem firstErr_eq {g g' : Nat → Int} {n : Nat} (h : ∀ k, k < n → g k = g' k) : firstErr g n = firstErr g' n := by
  induction n with
  | zero => rfl
  | succ n ih => unfold firstErr; rw [ih fun k hk => h k (by omega), h n (by omega)]
theorem firstErr_zero {g : Nat → Int} {n : Nat} (h : firstErr g n = 0) : ∀ k, k < n → g k = 0 := by
  induction n with
  | zero => intro k hk; omega
  | succ n ih =>
    unfold firstErr at h
    by_cases h0 : firstErr g n = 0
    · rw [if_neg (by simp [h0])] at h
      intro k hk
      by_cases e : k = n
      · rw [e]; exact h
      · exact ih h0 k (by omega)
    · rw [if_pos h0] at h; exact absurd h h0
theorem firstErr_all {g : Nat → Int} {n : Nat} (h : ∀ k, k < n → g k = 0) : firstErr g n = 0 := by
  rw [firstErr_eq (g' := fun _ => 0) h]
  induction n with
  | zero => rfl
  | succ n ih => exact firstErr_ok (ih fun k hk => h k (by omega)) rfl

/-- Apart: P17.1. -/
def apart (a b : Prt) : Bool := decide (a.size < 1 ∨ b.size < 1 ∨ b.base + b.size ≤ a.base ∨ a.base + a.size ≤ b.base)
theorem apart_comm (a b : Prt) : apart a b = apart b a := by
  unfold apart
  exact decide_eq_decide.2 (by omega)
def Pln.numBad (p : Pln) : Bool := decide (p.mem < 1 ∨ 4096 < p.mem ∨ p.ps.length < 1 ∨ 8 < p.ps.length ∨ p.ws.length < 1 ∨ 32 < p.ws.length ∨ 16 < p.cs.length)
def partErr (mem : Int) (pre : List Prt) (x : Prt) : Int :=
  if x.base < 0 ∨ x.size < 1 ∨ mem < x.base + x.size then 6
  else if pre.any (fun y => !apart x y) = true then 14
  else if x.ring < 2 ∨ 64 < x.ring ∨ x.code.length < 1 ∨ 256 < x.code.length ∨ x.again < 0 ∨ 100 < x.again then 2
  else if x.fault < 1 ∨ 3 < x.fault then 12 else 0
def Pln.partAt (p : Pln) (i : Nat) : Int := match p.ps[i]? with | none => 0 | some x => partErr p.mem (p.ps.take i) x
def winErr (n : Nat) (x : Int × Int) : Int := if x.1 < -1 ∨ (n : Int) ≤ x.1 then 1 else if x.2 < 1 ∨ 1000 < x.2 then 2 else 0
def Pln.winAt (p : Pln) (i : Nat) : Int := match p.ws[i]? with | none => 0 | some x => winErr p.ps.length x
def Pln.drained (p : Pln) : Bool := p.ws.any fun x => decide (x.1 = -1)
def chanErr (n : Nat) (c : Chn) : Int :=
  if c.kind < 1 ∨ 2 < c.kind then 12
  else if c.frm < 0 ∨ (n : Int) ≤ c.frm ∨ c.to < 0 ∨ (n : Int) ≤ c.to ∨ c.frm = c.to then 1
  else if c.size < 1 ∨ 8 < c.size ∨ c.depth < 1 ∨ 16 < c.depth ∨ (c.kind = 1 ∧ c.depth ≠ 1) then 2 else 0
def Pln.chanAt (p : Pln) (i : Nat) : Int := match p.cs[i]? with | none => 0 | some c => chanErr p.ps.length c
/-- Check: P17.2. -/
def Pln.err (p : Pln) : Int :=
  if p.numBad = true then 2
  else if firstErr p.partAt p.ps.length ≠ 0 then firstErr p.partAt p.ps.length
  else if firstErr p.winAt p.ws.length ≠ 0 then firstErr p.winAt p.ws.length
  else if p.drained = false then 7
  else firstErr p.chanAt p.cs.length
/-- The ticks of the windows of which q holds: P17.3. -/
def tk (n : Int) : Int := min (max n 0) 1000
def ticksOf (q : Int × Int → Bool) : List (Int × Int) → Int
  | [] => 0
  | x :: xs => (if q x = true then tk x.2 else 0) + ticksOf q xs
def Pln.frame (p : Pln) : Int := ticksOf (fun _ => true) p.ws
def Pln.drains (p : Pln) : Int := ticksOf (fun x => decide (x.1 = -1)) p.ws
theorem tk_bd (n : Int) : 0 ≤ tk n ∧ tk n ≤ 1000 := by unfold tk; omega
theorem ticksOf_append (q : Int × Int → Bool) : ∀ xs ys, ticksOf q (xs ++ ys) = ticksOf q xs + ticksOf q ys
  | [], ys => by simp [ticksOf]
  | x :: xs, ys => by simp only [List.cons_append, ticksOf, ticksOf_append q xs ys]; omega
theorem ticksOf_bd (q : Int × Int → Bool) : ∀ xs : List (Int × Int), 0 ≤ ticksOf q xs ∧ ticksOf q xs ≤ 1000 * (xs.length : Int)
  | [] => by simp [ticksOf]
  | x :: xs => by
    have := ticksOf_bd q xs
    have := tk_bd x.2
    simp only [ticksOf, List.length_cons]
    split <;> omega
theorem ticksOf_take {q : Int × Int → Bool} {xs : List (Int × Int)} {k : Nat} {x : Int × Int} (h : xs[k]? = some x) : ticksOf q (xs.take (k + 1)) = ticksOf q (xs.take k) + (if q x = true then tk x.2 else 0) := by
  rw [List.take_add_one, h, ticksOf_append]
  simp [ticksOf]
theorem ticksOf_take_bd (q : Int × Int → Bool) (xs : List (Int × Int)) (k : Nat) : 0 ≤ ticksOf q (xs.take k) ∧ ticksOf q (xs.take k) ≤ 1000 * (xs.length : Int) := by
  have h := ticksOf_bd q (xs.take k)
  have : (xs.take k).length ≤ xs.length := by simp; omega
  omega
theorem ticksOf_zero {q : Int × Int → Bool} : ∀ {xs : List (Int × Int)}, (∀ x ∈ xs, 1 ≤ x.2) → (ticksOf q xs = 0 ↔ xs.any q = false)
  | [], _ => by simp [ticksOf]
  | x :: xs, h => by
    have ih := ticksOf_zero (q := q) (xs := xs) fun y hy => h y (List.mem_cons_of_mem _ hy)
    have h1 := h x (List.mem_cons_self ..)
    have h2 := ticksOf_bd q xs
    have h3 : 1 ≤ tk x.2 := by unfold tk; omega
    simp only [ticksOf, List.any_cons]
    cases hq : q x
    · simp only [Bool.false_eq_true, if_false, Bool.false_or]
      rw [← ih]; omega
    · simp only [if_true, Bool.true_or]
      constructor
      · intro h; omega
      · intro h; cases h
/-- Big: has a plan too much to be looked at? -/
def codeUp (ps : List Prt) : Nat → Int
  | 0 => 0
  | k + 1 => codeUp ps k + (match ps[k]? with | none => 0 | some x => min (x.code.length : Int) 10000)
def Pln.big (p : Pln) : Bool := decide (20 < p.ps.length ∨ 3000 < codeUp p.ps p.ps.length ∨ 100 < p.ws.length ∨ 100 < p.cs.length)
theorem codeUp_succ {ps : List Prt} {k : Nat} {x : Prt} (h : ps[k]? = some x) : codeUp ps (k + 1) = codeUp ps k + min (x.code.length : Int) 10000 := by
  simp only [codeUp, h]
theorem codeUp_bd (ps : List Prt) : ∀ k : Nat, 0 ≤ codeUp ps k ∧ codeUp ps k ≤ 10000 * (k : Int)
  | 0 => by simp [codeUp]
  | k + 1 => by
    have h0 := codeUp_bd ps k
    cases h : ps[k]? with
    | none => simp only [codeUp, h]; omega
    | some x => rw [codeUp_succ h]; omega
/-! ### Rules that are asked, row by row -/
structure Rule where
  err : Int
  fn : Nat
  caps : List Value
  bad : Nat → Bool
structure Lst where
  many : Nat
  blk : Nat
  rules : List Rule
def Rule.cl (r : Rule) : List Value := [.int .i64 r.err, .func (.func r.fn) #[] r.caps.toArray]
def Lst.cl (l : Lst) : List Value := [.int .i64 (l.many : Int), .slice (some ⟨l.blk, 0, none⟩) l.rules.length l.rules.length]
def ruleAt (rs : List Rule) (j k : Nat) : Int := match rs[k]? with | none => 0 | some r => if r.bad j = true then r.err else 0
def lstAt (l : Lst) (j : Nat) : Int := firstErr (ruleAt l.rules j) l.rules.length
def lstsAt (L : List Lst) (i : Nat) : Int := match L[i]? with | none => 0 | some l => firstErr (lstAt l) l.many
end Bx
