/- Frames as functions, and a rule for each form of code and each way of an operation, over the kit's Code.wp. Any program. -/
import Derived.WalkKit
import Derived.OrdersHeld
import Derived.Deep.LoopGhost
import Derived.ScopeJumps
namespace Bx
open Go Go.RowKit

abbrev Fr := Nat → Value
def up (f : Fr) (d : Nat) (v : Value) : Fr := fun t => cond (Nat.beq t d) v (f t)
def upo (f : Fr) : Option Nat → Value → Fr
  | some d, v => up f d v
  | none, _ => f
def ev (f : Fr) : Operand → Value
  | .tmp t => f t
  | .const v => v
  | .global g => .pointer (some ⟨g, 0, none⟩)
  | .func k => .func (.func k) #[] #[]

structure FOK (n : Nat) (a : Act) (f : Fr) : Prop where
  defers : a.defers = []
  size : a.tmps.size = n
  get : ∀ t, a.tmps.getD t undef = f t

theorem FOK.eval {n : Nat} {a : Act} {f : Fr} (h : FOK n a f) : a.eval = ev f := by
  funext x
  cases x <;> simp only [Act.eval, ev]
  exact h.get _

theorem FOK.fn {n : Nat} {a : Act} {f : Fr} (h : FOK n a f) : f = fun t => a.tmps.getD t undef := funext fun t => (h.get t).symm

theorem FOK.put {n : Nat} {a : Act} {f : Fr} (h : FOK n a f) {dst : Option Nat} (hd : dst.all (fun d => Nat.blt d n) = true) (v : Value) : FOK n (a.put dst v) (upo f dst v) := by
  cases dst with
  | none => exact h
  | some d =>
    have hd' : d < n := by simpa [Option.all] using hd
    refine ⟨h.defers, by simpa [Act.put] using h.size, fun t => ?_⟩
    simp only [Act.put, upo, up]
    by_cases ht : t = d
    · subst ht
      have : t < a.tmps.size := by rw [h.size]; exact hd'
      simp [Nat.beq_refl, this]
    · have hb : Nat.beq t d = false := by rw [← Bool.not_eq_true]; intro hh; exact ht (Nat.eq_of_beq_eq_true hh)
      rw [hb]
      simp only [cond]
      rw [← h.get t]
      simp [Array.getElem?_setIfInBounds_ne (Ne.symm ht)]

theorem up_self {f : Fr} {d : Nat} {v : Value} (h : f d = v) : f = up f d v := by
  funext t
  unfold up
  cases hb : Nat.beq t d with
  | true => rw [Nat.eq_of_beq_eq_true hb]; exact h
  | false => rfl

theorem re1 {f : Fr} {a : Nat} {u : Value} (h : f a = u) : ∃ g, f = up g a u := ⟨f, up_self h⟩
theorem re2 {f : Fr} {a b : Nat} {u v : Value} (h : f a = u) (k : f b = v) : ∃ g, f = up (up g a u) b v :=
  ⟨f, (up_self k).trans (congrArg (fun g => up g b v) (up_self h))⟩
theorem re3 {f : Fr} {a b c : Nat} {u v x : Value} (h : f a = u) (k : f b = v) (l : f c = x) : ∃ g, f = up (up (up g a u) b v) c x := by
  obtain ⟨g, hg⟩ := re2 h k
  exact ⟨g, (up_self l).trans (congrArg (fun g => up g c x) hg)⟩
theorem re4 {f : Fr} {a b c d : Nat} {u v x y : Value} (h : f a = u) (k : f b = v) (l : f c = x) (m : f d = y) : ∃ g, f = up (up (up (up g a u) b v) c x) d y := by
  obtain ⟨g, hg⟩ := re3 h k l
  exact ⟨g, (up_self m).trans (congrArg (fun g => up g d y) hg)⟩
theorem re5 {f : Fr} {a b c d e : Nat} {u v x y z : Value} (h : f a = u) (k : f b = v) (l : f c = x) (m : f d = y) (o : f e = z) : ∃ g, f = up (up (up (up (up g a u) b v) c x) d y) e z := by
  obtain ⟨g, hg⟩ := re4 h k l m
  exact ⟨g, (up_self o).trans (congrArg (fun g => up g e z) hg)⟩
theorem re_more {f : Fr} {G : Fr → Fr} (hg : ∃ g, f = G g) {a : Nat} {u : Value} (h : f a = u) : ∃ g, f = up (G g) a u := by
  obtain ⟨g, hg⟩ := hg
  exact ⟨g, (up_self h).trans (congrArg (fun g => up g a u) hg)⟩

def AllEq (f : Fr) : List (Nat × Value) → Prop
  | [] => True
  | p :: r => f p.1 = p.2 ∧ AllEq f r
def upl (g : Fr) : List (Nat × Value) → Fr
  | [] => g
  | p :: r => up (upl g r) p.1 p.2
theorem upl_self {f : Fr} : ∀ {l : List (Nat × Value)}, AllEq f l → f = upl f l
  | [], _ => rfl
  | p :: r, h => (up_self h.1).trans (congrArg (fun g => up g p.1 p.2) (upl_self h.2))
/-- What holds behind normal exit, and behind the others. -/
def thn (K : Fr → World → Prop) (Q : Exit → Fr → World → Prop) : Exit → Fr → World → Prop
  | .normal => K
  | e => Q e

def QA (n : Nat) (K : Fr → World → Prop) (Q : Exit → Fr → World → Prop) : Exit → Act → World → Prop :=
  fun e a w => ∃ f, FOK n a f ∧ thn K Q e f w

def CW (P : Program) (n : Nat) (c : Code) (K : Fr → World → Prop) (Q : Exit → Fr → World → Prop) (f : Fr) (w : World) : Prop :=
  ∀ a, FOK n a f → c.wp P (QA n K Q) a w

section
variable {P : Program} {n : Nat} {K K' : Fr → World → Prop} {Q : Exit → Fr → World → Prop} {f : Fr} {w : World}

theorem CW.mono {c : Code} (h : CW P n c K Q f w) (hk : ∀ f w, K f w → K' f w) : CW P n c K' Q f w := by
  intro a ha
  refine wp_mono (h a ha) ?_
  rintro e _ w ⟨f, hf, ht⟩
  refine ⟨f, hf, ?_⟩
  cases e <;> first | exact hk _ _ ht | exact ht

theorem CW_seq {x y : Code} (h : CW P n x (fun f w => CW P n y K Q f w) Q f w) : CW P n (x.seq y) K Q f w := by
  intro a ha
  refine wp_seq (wp_mono (h a ha) ?_)
  rintro e a w ⟨f, hf, ht⟩
  cases e <;> first | exact ht a hf | exact ⟨f, hf, ht⟩

/-- The slots that are read further on. -/
theorem CW_re {c : Code} (l : List (Nat × Value)) (hl : AllEq f l) (h : ∀ g, CW P n c K Q (upl g l) w) : CW P n c K Q f w := by
  rw [upl_self hl]
  exact h f
theorem CW_skip (h : K f w) : CW P n .skip K Q f w := fun _ ha => wp_skip ⟨f, ha, h⟩
theorem CW_label {l : Nat} (h : K f w) : CW P n (.label l) K Q f w := fun _ ha => wp_label ⟨f, ha, h⟩
theorem CW_exit {id : Nat} (h : Q (.exit id) f w) : CW P n (.exit id) K Q f w := fun _ ha => wp_exit ⟨f, ha, h⟩
theorem CW_goto {id : Nat} (h : Q (.goto id) f w) : CW P n (.goto id) K Q f w := fun _ ha => wp_goto ⟨f, ha, h⟩
theorem CW_ret (h : Q .ret f w) : CW P n .ret K Q f w := fun _ ha => wp_ret ⟨f, ha, h⟩

theorem CW_cond {c : Operand} {x y : Code} {t : Bool} (hc : ev f c = .bool t) (ht : t = true → CW P n x K Q f w) (hf : t = false → CW P n y K Q f w) :
    CW P n (.cond c x y) K Q f w := fun a ha =>
  wp_cond_split (t := t) (by rw [ha.eval]; exact hc) (fun h => ht h a ha) (fun h => hf h a ha)
theorem CW_cond_dec {c : Operand} {x y : Code} {φ : Prop} {inst : Decidable φ} (hc : ev f c = .bool (@decide φ inst)) (ht : φ → CW P n x K Q f w) (hf : ¬ φ → CW P n y K Q f w) :
    CW P n (.cond c x y) K Q f w := CW_cond hc (fun h => ht (of_decide_eq_true h)) (fun h => hf (of_decide_eq_false h))
theorem CW_cond_t {c : Operand} {x y : Code} {t : Bool} (hc : ev f c = .bool t) (h : t = true) (ht : CW P n x K Q f w) : CW P n (.cond c x y) K Q f w :=
  CW_cond hc (fun _ => ht) (fun h' => by rw [h] at h'; cases h')
theorem CW_cond_f {c : Operand} {x y : Code} {t : Bool} (hc : ev f c = .bool t) (h : t = false) (hf : CW P n y K Q f w) : CW P n (.cond c x y) K Q f w :=
  CW_cond hc (fun h' => by rw [h] at h'; cases h') (fun _ => hf)

/-- The other exits of a block. -/
def blk (id : Nat) (K : Fr → World → Prop) (Q : Exit → Fr → World → Prop) : Exit → Fr → World → Prop
  | .exit id' => if id' = id then K else Q (.exit id')
  | e => Q e

theorem CW_block {id : Nat} {c : Code} (h : CW P n c K (blk id K Q) f w) : CW P n (.block id c) K Q f w := by
  intro a ha
  refine wp_block (wp_mono (h a ha) ?_)
  rintro e _ w ⟨f, hf, ht⟩
  cases e with
  | exit id' =>
    simp only [Exit.inBlock]
    simp only [thn, blk] at ht
    split
    · rename_i hid; rw [if_pos hid] at ht; exact ⟨f, hf, ht⟩
    · rename_i hid; rw [if_neg hid] at ht; exact ⟨f, hf, ht⟩
  | _ => exact ⟨f, hf, ht⟩

theorem blk_same {id : Nat} (h : K f w) : blk id K Q (.exit id) f w := by simpa [blk] using h
theorem blk_other {id id' : Nat} (hne : Nat.beq id' id = false) (h : Q (.exit id') f w) : blk id K Q (.exit id') f w := by
  have : id' ≠ id := fun e => by subst e; simp [Nat.beq_refl] at hne
  simpa [blk, this] using h
theorem blk_ret {id : Nat} (h : Q .ret f w) : blk id K Q .ret f w := h
theorem blk_goto {id l : Nat} (h : Q (.goto l) f w) : blk id K Q (.goto l) f w := h

/-- As Q; by a jump to label l: J; no other jump. -/
@[reducible] def Qj (l : Nat) (J : Fr → World → Prop) (Q : Exit → Fr → World → Prop) : Exit → Fr → World → Prop
  | .goto l', f, w => l' = l ∧ J f w
  | e, f, w => Q e f w
theorem qj_ret {l : Nat} {J : Fr → World → Prop} (h : Q .ret f w) : Qj l J Q .ret f w := h
theorem qj_exit {l id : Nat} {J : Fr → World → Prop} (h : Q (.exit id) f w) : Qj l J Q (.exit id) f w := h
theorem least_of {p : Nat → Prop} (h : ∃ m, p m) : ∃ m, p m ∧ ∀ k, p k → m ≤ k := by
  obtain ⟨m, hm⟩ := h
  induction m using Nat.strongRecOn with
  | _ m ih =>
    by_cases hk : ∃ k, k < m ∧ p k
    · obtain ⟨k, hlt, hp⟩ := hk
      exact ih k hlt hp
    · exact ⟨m, hm, fun k hp => Nat.le_of_not_lt fun hlt => hk ⟨k, hlt, hp⟩⟩
/-- A scope in which the run jumps back to one label: the code behind the label is shown once, for any ghost. -/
theorem CW_scope {c B : Code} {α : Type} (l : Nat) (I : α → Fr → World → Prop) (μ : α → Nat) (hf : findLabel c l = some (.seq .skip B))
    (pass : ∀ x f w, I x f w → CW P n B K (Qj l (fun f' w' => ∃ y, μ y < μ x ∧ I y f' w') Q) f w)
    (first : (∀ x f w, I x f w → CW P n B K (Qj l (fun f' w' => ∃ y, I y f' w') Q) f w) → CW P n c K (Qj l (fun f' w' => ∃ y, I y f' w') Q) f w) :
    CW P n (.scope c) K Q f w := by
  intro a ha
  let G : Nat → Act → World → Prop := fun m a w => ∃ x f, μ x = m ∧ FOK n a f ∧ I x f w
  let M : Act → World → Nat := fun a w => @dite Nat (∃ m, G m a w) (Classical.propDecidable _) (fun h => Classical.choose (least_of h)) (fun _ => 0)
  have hM : ∀ a w, (∃ m, G m a w) → G (M a w) a w ∧ ∀ k, G k a w → M a w ≤ k := by
    intro a w h
    show G (@dite Nat _ (Classical.propDecidable _) _ _) a w ∧ _
    rw [show M a w = Classical.choose (least_of h) from dif_pos h, dif_pos h]
    exact Classical.choose_spec (least_of h)
  refine wp_scope_jumps l (fun a w => ∃ m, G m a w) M hf ?_ ?_
  · refine wp_mono (first (fun x f w hI => ?_) a ha) ?_
    · intro a ha
      refine wp_mono (pass x f w hI a ha) ?_
      rintro e a w ⟨f, hfk, ht⟩
      refine ⟨f, hfk, ?_⟩
      cases e with
      | goto l' => exact ⟨ht.1, by obtain ⟨_, y, _, hy⟩ := ht; exact ⟨y, hy⟩⟩
      | _ => exact ht
    · rintro e a w ⟨f, hfk, ht⟩
      cases e with
      | goto l' => exact ⟨ht.1, by obtain ⟨_, y, hy⟩ := ht; exact ⟨μ y, y, f, rfl, hfk, hy⟩⟩
      | _ => exact ⟨f, hfk, ht⟩
  · intro a w h
    obtain ⟨⟨x, f, hx, hfk, hI⟩, _⟩ := hM a w h
    refine wp_seq (wp_skip ?_)
    refine wp_mono (pass x f w hI a hfk) ?_
    rintro e a' w' ⟨f', hfk', ht⟩
    cases e with
    | goto l' =>
      obtain ⟨h1, y, hy, hIy⟩ := ht
      refine ⟨h1, ⟨μ y, y, f', rfl, hfk', hIy⟩, ?_⟩
      have := (hM a' w' ⟨μ y, y, f', rfl, hfk', hIy⟩).2 (μ y) ⟨y, f', rfl, hfk', hIy⟩
      omega
    | _ => exact ⟨f', hfk', ht⟩
/-- A join: what follows is shown once, from a told state. -/
theorem CW_join {c : Code} (J : Fr → World → Prop) (h : CW P n c J Q f w) (hj : ∀ f w, J f w → K f w) : CW P n c K Q f w := by
  intro a ha
  refine wp_mono (h a ha) ?_
  rintro e a w ⟨f, hf, ht⟩
  cases e with
  | normal => exact ⟨f, hf, hj f w ht⟩
  | _ => exact ⟨f, hf, ht⟩
/-- A loop, by a ghost variable and a measure of it. -/
theorem CW_loop {c : Code} {α : Type} (I : α → Fr → World → Prop) (μ : α → Nat) (x0 : α) (h0 : I x0 f w)
    (round : ∀ x f w, I x f w → CW P n c (fun f' w' => ∃ y, μ y < μ x ∧ I y f' w') Q f w) : CW P n (.loop c) K Q f w := by
  intro a ha
  refine wp_loop_ghost (fun m a w => ∃ x f, μ x = m ∧ FOK n a f ∧ I x f w) (μ x0) ⟨x0, f, rfl, ha, h0⟩ ?_
  rintro m a w ⟨x, f, rfl, hf, hI⟩
  refine wp_mono (round x f w hI a hf) ?_
  rintro e a w ⟨f, hf, ht⟩
  cases e with
  | normal =>
    obtain ⟨y, hy, hIy⟩ := ht
    exact ⟨μ y, hy, y, f, rfl, hf, hIy⟩
  | _ => exact ⟨f, hf, ht⟩

/-! ### Regions -/

def dstOk (n : Nat) (o : Oper) : Bool := o.dst.all (fun d => Nat.blt d n)

def OW (P : Program) (n : Nat) (ops : Array Oper) (Q : Exit → Fr → World → Prop) (l : List Oper) (K : Fr → World → Prop) (f : Fr) (w : World) : Prop :=
  l.all (dstOk n) = true → ∀ a, FOK n a f → wpList P ops (QA n K Q) l a w

theorem CW_reg {id : Nat} {l : List Oper} (hd : l.all (dstOk n) = true) (h : OW P n l.toArray Q l K f w) : CW P n (.region id l.toArray false) K Q f w :=
  fun a ha => wp_region_lit (h hd a ha)

variable {ops : Array Oper} {rest : List Oper} {o : Oper}

theorem OW_nil (h : K f w) : OW P n ops Q [] K f w := fun _ a ha => wpList_nil ⟨f, ha, h⟩

/-- What an operation does: N of the frame and world behind it. -/
def Stp (P : Program) (n : Nat) (o : Oper) (f : Fr) (w : World) (N : Fr → World → Prop) : Prop :=
  dstOk n o = true → ∀ a, FOK n a f → o.wp P a w (fun a' w' => ∃ f', FOK n a' f' ∧ N f' w') (fun _ _ _ => False)

theorem Oper.wp_mono2 {a : Act} {N N' : Act → World → Prop} {Q Q' : Exit → Act → World → Prop} (h : ∀ a w, N a w → N' a w) (hq : ∀ e a w, Q e a w → Q' e a w)
    (hh : o.wp P a w N Q) : o.wp P a w N' Q' := by
  unfold Oper.wp at *
  generalize (execOp a.eval o).run P w = r at *
  cases r with
  | ok n w' =>
    cases n <;> simp only [Oper.upon] at hh ⊢ <;>
      first
        | exact h _ _ hh
        | exact Calls.mono hh (fun e w'' he => by
            cases e
            · exact h _ _ he
            · exact hq _ _ _ he
            · obtain ⟨a, w, hl⟩ := he; exact ⟨a, w, hq _ _ _ hl⟩)
        | exact Rows.mono hh (fun _ _ he => h _ _ he)
  | halt x w' => cases x <;> simp only [Oper.upon] at hh ⊢ <;> exact hq _ _ _ hh

theorem wanted_none (hg : o.guard = none) (y : Nat → Option Bool) : Region.wanted o y = true := by simp [Region.wanted, hg]

theorem OW_st (hg : o.guard = none) (h : Stp P n o f w (fun f' w' => OW P n ops Q rest K f' w')) : OW P n ops Q (o :: rest) K f w := by
  intro hd a ha
  rw [List.all_cons, Bool.and_eq_true] at hd
  unfold wpList
  rw [if_pos (wanted_none hg _)]
  refine .inl (Oper.wp_mono2 ?_ (fun _ _ _ h => h.elim) (h hd.1 a ha))
  rintro a w ⟨f, hf, ho⟩
  exact ho hd.2 a hf

/-- An operation that leaves the world alone and yields v. -/
def Ev (P : Program) (o : Oper) (f : Fr) (w : World) (v : Value) : Prop := (execOp (ev f) o).run P w = .ok (.value v) w

theorem Ev.stp {v : Value} {N : Fr → World → Prop} (h : Ev P o f w v) (hn : N (upo f o.dst v) w) : Stp P n o f w N := by
  intro hd a ha
  unfold Oper.wp
  rw [ha.eval, h]
  exact ⟨_, ha.put hd v, hn⟩

theorem OW_ev {v : Value} (h : Ev P o f w v) (hg : o.guard = none) (hn : OW P n ops Q rest K (upo f o.dst v) w) : OW P n ops Q (o :: rest) K f w :=
  OW_st hg (h.stp hn)

/-- A guarded operation whose guard says no, and one whose guard says yes. -/
theorem yielded_fok {a : Act} (ha : FOK n a f) {j d : Nat} (hj : (ops[j]?).bind (·.dst) = some d) {b : Bool} (hb : f d = .bool b) (hd : d < n) : yielded ops a.tmps j = some b := by
  have h := ha.get d
  have hlt : d < a.tmps.size := by rw [ha.size]; exact hd
  have h2 : a.tmps[d]? = some (.bool b) := by
    rw [Array.getElem?_eq_getElem hlt]
    rw [Array.getD_eq_getD_getElem?, Array.getElem?_eq_getElem hlt] at h
    rw [← hb, ← h]; rfl
  simp [yielded, hj, h2]

theorem yielded_undef {a : Act} (ha : FOK n a f) {j d : Nat} (hj : (ops[j]?).bind (·.dst) = some d) (hb : f d = undef) : yielded ops a.tmps j = none := by
  have h := ha.get d
  rw [hb] at h
  unfold yielded
  rw [hj]
  simp only [Option.bind_some]
  rw [Array.getD_eq_getD_getElem?] at h
  cases hc : a.tmps[d]? with
  | none => rfl
  | some v =>
    rw [hc] at h
    simp only [Option.getD_some] at h
    subst h
    rfl
theorem OW_noU {j d : Nat} {want : Bool} (hg : o.guard = some (j, want)) (hj : (ops[j]?).bind (·.dst) = some d) (hb : ev f (.tmp d) = undef)
    (hn : OW P n ops Q rest K (upo f o.dst undef) w) : OW P n ops Q (o :: rest) K f w := by
  intro hd a ha
  rw [List.all_cons, Bool.and_eq_true] at hd
  unfold wpList
  have hy := yielded_undef ha hj hb
  have : Region.wanted o (yielded ops a.tmps) = false := by
    simp only [Region.wanted, hg, hy]
    rfl
  rw [this]
  exact hn hd.2 _ (ha.put hd.1 undef)
theorem OW_no {j d : Nat} {want b : Bool} (hg : o.guard = some (j, want)) (hj : (ops[j]?).bind (·.dst) = some d) (hdn : Nat.blt d n = true) (hb : ev f (.tmp d) = .bool b) (hne : b = !want)
    (hn : OW P n ops Q rest K (upo f o.dst undef) w) : OW P n ops Q (o :: rest) K f w := by
  intro hd a ha
  rw [List.all_cons, Bool.and_eq_true] at hd
  unfold wpList
  have hy := yielded_fok ha hj hb (by simpa using hdn)
  have : Region.wanted o (yielded ops a.tmps) = false := by
    simp only [Region.wanted, hg, hy, hne]
    cases want <;> rfl
  rw [this]
  exact hn hd.2 _ (ha.put hd.1 undef)

theorem OW_yes {j d : Nat} {want b : Bool} (hg : o.guard = some (j, want)) (hj : (ops[j]?).bind (·.dst) = some d) (hdn : Nat.blt d n = true) (hb : ev f (.tmp d) = .bool b) (hne : b = want)
    (h : Stp P n o f w (fun f' w' => OW P n ops Q rest K f' w')) : OW P n ops Q (o :: rest) K f w := by
  intro hd a ha
  rw [List.all_cons, Bool.and_eq_true] at hd
  unfold wpList
  have hy := yielded_fok ha hj hb (by simpa using hdn)
  have : Region.wanted o (yielded ops a.tmps) = true := by
    simp only [Region.wanted, hg, hy, hne]
    cases want <;> rfl
  rw [if_pos this]
  refine .inl (Oper.wp_mono2 ?_ (fun _ _ _ h => h.elim) (h hd.1 a ha))
  rintro a w ⟨f, hf, ho⟩
  exact ho hd.2 a hf

theorem OW_split {l : List Oper} {d : Operand} {b : Bool} (_hb : ev f d = .bool b) (h1 : b = true → OW P n ops Q l K f w) (h2 : b = false → OW P n ops Q l K f w) : OW P n ops Q l K f w := by
  cases b
  · exact h2 rfl
  · exact h1 rfl
theorem OW_split_dec {l : List Oper} {d : Operand} {φ : Prop} {inst : Decidable φ} (_hb : ev f d = .bool (@decide φ inst)) (h1 : φ → OW P n ops Q l K f w) (h2 : ¬ φ → OW P n ops Q l K f w) : OW P n ops Q l K f w := by
  by_cases h : φ
  · exact h1 h
  · exact h2 h

/-! ### Regions that draw their order -/

def AW (P : Program) (n : Nat) (ops : Array Oper) (Q : Exit → Fr → World → Prop) (S : World → Prop) (fuel : Nat) (listed : Array Bool) (K : Fr → World → Prop) (f : Fr) (w : World) : Prop :=
  ops.toList.all (dstOk n) = true → (∀ c f w, ¬ Q (.panic c) f w) → ∀ a, FOK n a f → wpAnyH P .any ops (QA n K Q) S fuel listed a w

theorem CW_draw {id : Nat} {l : List Oper} (S : World → Prop) (hm : P.follows .mixedOrders = true) (hd : l.all (dstOk n) = true) (hQ : ∀ c f w, ¬ Q (.panic c) f w)
    (h : AW P n l.toArray Q S l.toArray.size (Array.replicate l.toArray.size false) K f w.drew) : CW P n (.region id l.toArray true) K Q f w :=
  fun a ha => wp_region_held (S := S) hm (h (by simpa using hd) hQ a ha)

variable {S : World → Prop} {fuel : Nat} {listed : Array Bool}

theorem AW_take (i : Nat) {v : Value} {oi : Oper} (hi : ops[i]? = some oi) (hg : oi.guard = none) (hs : Region.noSelect ops = true) (hf : Region.free .any ops listed i = true)
    (hr : (Region.ready .any ops listed).contains i = true) (hy : ∀ w, S w → Ev P oi f w v) (hS : S w)
    (h : AW P n ops Q S fuel (listed.setIfInBounds i true) K (upo f oi.dst v) w) : AW P n ops Q S (fuel + 1) listed K f w := by
  intro hd hQ a ha
  have hdi : dstOk n oi = true := List.all_eq_true.1 hd oi (by simpa using Array.mem_of_getElem? hi)
  refine wpAnyH_take hi hs hf hr ?_ (.inl ⟨wanted_none hg _, ?_⟩) hS (h hd hQ _ (ha.put hdi v))
  · rintro c a w ⟨f, _, hq⟩; exact (hQ c f w hq).elim
  · intro w hw; rw [ha.eval]; exact hy w hw

theorem AW_take_yes (i : Nat) {v : Value} {oi : Oper} (hi : ops[i]? = some oi) {j d : Nat} {want b : Bool} (hg : oi.guard = some (j, want)) (hj : (ops[j]?).bind (·.dst) = some d) (hdn : Nat.blt d n = true)
    (hb : ev f (.tmp d) = .bool b) (hne : b = want) (hs : Region.noSelect ops = true) (hf : Region.free .any ops listed i = true)
    (hr : (Region.ready .any ops listed).contains i = true) (hy : ∀ w, S w → Ev P oi f w v) (hS : S w)
    (h : AW P n ops Q S fuel (listed.setIfInBounds i true) K (upo f oi.dst v) w) : AW P n ops Q S (fuel + 1) listed K f w := by
  intro hd hQ a ha
  have hdi : dstOk n oi = true := List.all_eq_true.1 hd oi (by simpa using Array.mem_of_getElem? hi)
  have hyl := yielded_fok ha hj hb (by simpa using hdn)
  refine wpAnyH_take hi hs hf hr ?_ (.inl ⟨?_, ?_⟩) hS (h hd hQ _ (ha.put hdi v))
  · rintro c a w ⟨f, _, hq⟩; exact (hQ c f w hq).elim
  · simp only [Region.wanted, hg, hyl, hne]; cases want <;> rfl
  · intro w hw; rw [ha.eval]; exact hy w hw

theorem AW_take_no (i : Nat) {oi : Oper} (hi : ops[i]? = some oi) {j d : Nat} {want b : Bool} (hg : oi.guard = some (j, want)) (hj : (ops[j]?).bind (·.dst) = some d) (hdn : Nat.blt d n = true)
    (hb : ev f (.tmp d) = .bool b) (hne : b = !want) (hs : Region.noSelect ops = true) (hf : Region.free .any ops listed i = true)
    (hr : (Region.ready .any ops listed).contains i = true) (hS : S w)
    (h : AW P n ops Q S fuel (listed.setIfInBounds i true) K (upo f oi.dst undef) w) : AW P n ops Q S (fuel + 1) listed K f w := by
  intro hd hQ a ha
  have hdi : dstOk n oi = true := List.all_eq_true.1 hd oi (by simpa using Array.mem_of_getElem? hi)
  have hyl := yielded_fok ha hj hb (by simpa using hdn)
  refine wpAnyH_take hi hs hf hr ?_ (.inr ⟨?_, rfl⟩) hS (h hd hQ _ (ha.put hdi undef))
  · rintro c a w ⟨f, _, hq⟩; exact (hQ c f w hq).elim
  · simp only [Region.wanted, hg, hyl, hne]; cases want <;> rfl

theorem AW_take_noU (i : Nat) {oi : Oper} (hi : ops[i]? = some oi) {j d : Nat} {want : Bool} (hg : oi.guard = some (j, want)) (hj : (ops[j]?).bind (·.dst) = some d)
    (hb : ev f (.tmp d) = undef) (hs : Region.noSelect ops = true) (hf : Region.free .any ops listed i = true)
    (hr : (Region.ready .any ops listed).contains i = true) (hS : S w)
    (h : AW P n ops Q S fuel (listed.setIfInBounds i true) K (upo f oi.dst undef) w) : AW P n ops Q S (fuel + 1) listed K f w := by
  intro hd hQ a ha
  have hdi : dstOk n oi = true := List.all_eq_true.1 hd oi (by simpa using Array.mem_of_getElem? hi)
  have hyl := yielded_undef ha hj hb
  refine wpAnyH_take hi hs hf hr ?_ (.inr ⟨?_, rfl⟩) hS (h hd hQ _ (ha.put hdi undef))
  · rintro c a w ⟨f, _, hq⟩; exact (hQ c f w hq).elim
  · simp only [Region.wanted, hg, hyl]; rfl

theorem AW_split {d : Operand} {b : Bool} (_hb : ev f d = .bool b) (h1 : b = true → AW P n ops Q S fuel listed K f w) (h2 : b = false → AW P n ops Q S fuel listed K f w) : AW P n ops Q S fuel listed K f w := by
  cases b
  · exact h2 rfl
  · exact h1 rfl
theorem AW_split_dec {d : Operand} {φ : Prop} {inst : Decidable φ} (_hb : ev f d = .bool (@decide φ inst)) (h1 : φ → AW P n ops Q S fuel listed K f w) (h2 : ¬ φ → AW P n ops Q S fuel listed K f w) : AW P n ops Q S fuel listed K f w := by
  by_cases h : φ
  · exact h1 h
  · exact h2 h

/-- Whichever may come up comes up: one of those of the list. -/
def NextOK (o : Oper) (ops : Array Oper) (n : Nat) (f : Fr) : Prop :=
  o.guard = none ∨ ∃ j d want b, o.guard = some (j, want) ∧ (ops[j]?).bind (·.dst) = some d ∧ Nat.blt d n = true ∧ ev f (.tmp d) = .bool b ∧ b = want
def Next (P : Program) (n : Nat) (ops : Array Oper) (Q : Exit → Fr → World → Prop) (S : World → Prop) (fuel : Nat) (listed : Array Bool) (K : Fr → World → Prop) (f : Fr) (w : World) (i : Nat) : Prop :=
  ∃ o, ops[i]? = some o ∧ NextOK o ops n f ∧ Stp P n o f w (fun f' w' => S w' ∧ AW P n ops Q S fuel (listed.setIfInBounds i true) K f' w')

theorem Next.mk {i : Nat} (hi : ops[i]? = some o) (hg : o.guard = none) (h : Stp P n o f w (fun f' w' => S w' ∧ AW P n ops Q S fuel (listed.setIfInBounds i true) K f' w')) : Next P n ops Q S fuel listed K f w i :=
  ⟨o, hi, .inl hg, h⟩
theorem Next.yes {i j d : Nat} {want b : Bool} (hi : ops[i]? = some o) (hg : o.guard = some (j, want)) (hj : (ops[j]?).bind (·.dst) = some d) (hdn : Nat.blt d n = true) (hb : ev f (.tmp d) = .bool b) (hne : b = want)
    (h : Stp P n o f w (fun f' w' => S w' ∧ AW P n ops Q S fuel (listed.setIfInBounds i true) K f' w')) : Next P n ops Q S fuel listed K f w i :=
  ⟨o, hi, .inr ⟨j, d, want, b, hg, hj, hdn, hb, hne⟩, h⟩

theorem AW_all {rs : List Nat} (hr : Region.ready .any ops listed = rs) (hne : rs.isEmpty = false) (h : ∀ i ∈ rs, Next P n ops Q S fuel listed K f w i) : AW P n ops Q S (fuel + 1) listed K f w := by
  intro hd hQ a ha
  refine wpAnyH_all hr (by rintro rfl; cases hne) fun i hi => ?_
  obtain ⟨o, hoi, hg, hs⟩ := h i hi
  have hdi : dstOk n o = true := List.all_eq_true.1 hd o (by simpa using Array.mem_of_getElem? hoi)
  unfold wpOp
  have hwt : Region.wanted o (yielded ops a.tmps) = true := by
    rcases hg with hg | ⟨j, d, want, b, hg, hj, hdn, hb, hne⟩
    · exact wanted_none hg _
    · have hyl := yielded_fok ha hj hb (by simpa using hdn)
      simp only [Region.wanted, hg, hyl, hne]; cases want <;> rfl
  simp only [hoi, hwt, if_true]
  refine .inl (Oper.wp_mono2 ?_ (fun _ _ _ h => h.elim) (hs hdi a ha))
  rintro a w ⟨f, hf, hw, ho⟩
  exact ⟨hw, ho hd hQ a hf⟩

theorem AW_one (i : Nat) (hr : Region.ready .any ops listed = [i]) (h : Next P n ops Q S fuel listed K f w i) : AW P n ops Q S (fuel + 1) listed K f w :=
  AW_all hr rfl (by intro j hj; rw [List.mem_singleton] at hj; subst hj; exact h)
theorem AW_two (i j : Nat) (hr : Region.ready .any ops listed = [i, j]) (h : Next P n ops Q S fuel listed K f w i) (h' : Next P n ops Q S fuel listed K f w j) : AW P n ops Q S (fuel + 1) listed K f w :=
  AW_all hr rfl (by intro k hk; simp only [List.mem_cons, List.not_mem_nil, or_false] at hk; rcases hk with rfl | rfl; exact h; exact h')

theorem AW_three (i j l : Nat) (hr : Region.ready .any ops listed = [i, j, l]) (h : Next P n ops Q S fuel listed K f w i) (h' : Next P n ops Q S fuel listed K f w j) (h'' : Next P n ops Q S fuel listed K f w l) : AW P n ops Q S (fuel + 1) listed K f w :=
  AW_all hr rfl (by intro k hk; simp only [List.mem_cons, List.not_mem_nil, or_false] at hk; rcases hk with rfl | rfl | rfl; exact h; exact h'; exact h'')

theorem AW_done (hr : Region.ready .any ops listed = []) (h : K f w) : AW P n ops Q S fuel listed K f w :=
  fun _ _ _ ha => wpAnyH_done hr ⟨f, ha, h⟩ fuel

end

/-! ### A call, from its start to its end -/

def Ret (R : Value → World → Prop) : Ending → World → Prop
  | .returned v, w => R v w
  | _, _ => False

/-- What the result variables hold. -/
inductive RA (P : Program) (f : Fr) (w : World) : List ResultVar → List Value → Prop
  | nil : RA P f w [] []
  | tmp {t : Nat} {v : Value} {rs : List ResultVar} {vs : List Value} (h : f t = v) (r : RA P f w rs vs) : RA P f w (.tmp t :: rs) (v :: vs)
  | cell {a t : Nat} {p : Addr} {v : Value} {rs : List ResultVar} {vs : List Value} (h : f a = .pointer (some p)) (hl : (loadVar t p).run P w = .ok v w) (r : RA P f w rs vs) : RA P f w (.cell a t :: rs) (v :: vs)

def tup : List Value → Value
  | [v] => v
  | vs => .tuple vs.toArray

theorem run_results {P : Program} {fn : Func} {rs : List ResultVar} (hr : fn.results.toList = rs) {tmps : Array Value} {f : Fr} (hf : ∀ t, tmps.getD t undef = f t) {w : World} {vs : List Value} (ht : RA P f w rs vs) :
    (results fn tmps).run P w = .ok (tup vs) w := by
  have hrs : fn.results = rs.toArray := by rw [← hr]
  have key : ∀ (g : ResultVar → Sem Value), (∀ t, g (.tmp t) = pure (tmps.getD t undef)) → (∀ a t, g (.cell a t) = (do loadVar t (← asAddr (tmps.getD a undef)))) → ∀ (l : List ResultVar) (vs : List Value), RA P f w l vs → (l.mapM g).run P w = .ok vs w := by
    intro g hg hg2 l vs h
    induction h with
    | nil => rfl
    | tmp h r ih =>
      rw [List.mapM_cons]
      simp only [Sem.run_bind, hg, Sem.run_pure, Result.andThen_ok]
      rw [ih]
      simp only [Result.andThen_ok, hf, h]
    | cell h hl r ih =>
      rw [List.mapM_cons]
      simp only [Sem.run_bind, hg2, hf, h, asAddr, Sem.run_pure, Result.andThen_ok, hl]
      rw [ih]
      rfl
  unfold results
  rw [hrs]
  simp only [Array.mapM_eq_mapM_toList, Sem.run_bind, Sem.run_map]
  rw [key _ (fun _ => rfl) (fun _ _ => rfl) rs vs ht]
  simp only [Result.andThen_ok, Sem.run_pure, tup]
  match vs with
  | [] => simp
  | [v] => simp
  | a :: b :: l => simp

/-- The frame with which a call begins. -/
def fr0 (args : List Value) : Fr := fun t => args.getD t undef

/-- The end of a call. -/
def Fin (P : Program) (rs : List ResultVar) (R : Value → World → Prop) (f : Fr) (w : World) : Prop := ∃ vs, RA P f w rs vs ∧ R (tup vs) w

theorem calls_start {P : Program} {k : Nat} {fn : Func} {c : Code} {n : Nat} {rs : List ResultVar} {args : List Value} {w : World} {R : Value → World → Prop}
    (hf : P.funcs[k]? = some fn) (hb : fn.body = some c) (hn : fn.ntmps = n) (hr : fn.results.toList = rs) (hl : Nat.ble args.length n = true)
    (h : CW P n c (Fin P rs R) (fun e f w => e = .ret ∧ Fin P rs R f w) (fr0 args) w) : Calls P k args.toArray w (Ret R) := by
  refine calls_of_wp hf hb ?_
  have hl' : args.length ≤ n := by simpa using hl
  have hfok : FOK n { tmps := args.toArray ++ Array.replicate (fn.ntmps - args.toArray.size) undef, defers := [] } (fr0 args) := by
    refine ⟨rfl, by simp [hn]; omega, fun t => ?_⟩
    simp only [fr0, Array.getD_eq_getD_getElem?, List.getD_eq_getElem?_getD, Array.getElem?_append, List.size_toArray, Array.getElem?_replicate]
    split
    · simp
    · rename_i h1
      have : args[t]? = none := List.getElem?_eq_none (by omega)
      rw [this]
      split <;> rfl
  refine wp_mono (h _ hfok) ?_
  rintro e a w ⟨f, hfa, hq⟩
  cases e with
  | normal => obtain ⟨vs, h1, h2⟩ := hq; exact ⟨hfa.defers, _, run_results hr hfa.get h1, h2⟩
  | ret => obtain ⟨_, vs, h1, h2⟩ := hq; exact ⟨hfa.defers, _, run_results hr hfa.get h1, h2⟩
  | exit id => exact (nomatch hq.1)
  | goto id => exact (nomatch hq.1)
  | panic id => exact (nomatch hq.1)
  | outgrown => exact (nomatch hq.1)

end Bx
