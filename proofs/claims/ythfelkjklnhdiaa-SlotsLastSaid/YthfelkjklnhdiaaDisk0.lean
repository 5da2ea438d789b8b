/- A disk as it lies in memory. -/
import Derived.Test.YthfelkjklnhdiaaTypes
import Derived.Test.YthfelkjklnhdiaaDiskAbs
namespace Go.Proofs.Ythfelkjklnhdiaa
open Go Go.RowKit Bx Go.Proofs

/-- A disk: its numbers, what lasts, what is pending, its flags, and where all lies. -/
structure DkM where
  many : Nat
  size : Nat
  last : List UInt8
  ps : List Pnd
  g : Flg
  bl : Nat
  bm : Nat
  pa : Option Addr
  pc : Nat
  wa : Option Addr
  wc : Nat
def DkM.cells (d : DkM) : List Value := [.int .i64 (d.many : Int), .int .i64 (d.size : Int), .slice (some ⟨d.bl, 0, none⟩) (d.many * d.size) (d.many * d.size), .slice d.pa d.ps.length d.pc, .slice d.wa d.ps.length d.wc, .map (some d.bm), .bool d.g.down, .bool d.g.breaks, .int .i64 d.g.left]
def cfn (p : Pnd) : List Value := [.func (.func 44) #[] #[.pointer (some ⟨p.box, 0, none⟩)]]
def cat_ (p : Pnd) : List Value := [.int .i64 (p.a : Int)]
/-- What all sectors would be, if all that is pending lasted. -/
def DkM.V (d : DkM) : List UInt8 := allP d.size d.last d.ps
structure DkM.Ok (d : DkM) : Prop where
  many : 1 ≤ d.many ∧ d.many ≤ 4096
  size : 64 ≤ d.size ∧ d.size ≤ 1024
  last : d.last.length = d.many * d.size
  ps : PsOk d.many d.size d.ps
  g : d.g.ok
/-- The disk's blocks are of D, and apart. -/
structure DkM.Sep (D : Nat → Prop) (bd : Nat) (d : DkM) : Prop where
  d1 : D bd
  d2 : D d.bl
  d3 : D d.bm
  n1 : d.bl ≠ bd
  n2 : d.bm ≠ bd
  n3 : d.bl ≠ d.bm
  pv : ∀ b n c, (Value.slice d.pa n c).ownBlock = some b → D b ∧ b ≠ bd ∧ b ≠ d.bl ∧ b ≠ d.bm
  wv : ∀ b n c, (Value.slice d.wa n c).ownBlock = some b → D b ∧ b ≠ bd ∧ b ≠ d.bl ∧ b ≠ d.bm ∧ ∀ m q, (Value.slice d.pa m q).ownBlock ≠ some b
  bx : ∀ p ∈ d.ps, D p.box ∧ p.box ≠ bd ∧ p.box ≠ d.bl ∧ p.box ≠ d.bm ∧ (∀ m q, (Value.slice d.pa m q).ownBlock ≠ some p.box) ∧ ∀ m q, (Value.slice d.wa m q).ownBlock ≠ some p.box
  e0 : d.ps = [] → d.pa = none ∧ d.wa = none
theorem DkM.Sep.mono {D E : Nat → Prop} {bd : Nat} {d : DkM} (h : d.Sep D bd) (he : ∀ b, D b → E b) : d.Sep E bd :=
  ⟨he _ h.d1, he _ h.d2, he _ h.d3, h.n1, h.n2, h.n3, fun b n c hb => ⟨he _ (h.pv b n c hb).1, (h.pv b n c hb).2⟩, fun b n c hb => ⟨he _ (h.wv b n c hb).1, (h.wv b n c hb).2⟩, fun p hp => ⟨he _ (h.bx p hp).1, (h.bx p hp).2⟩, h.e0⟩
/-- The bytes of pending writes. -/
def BoxS (w : World) (ps : List Pnd) : Prop := ∀ p ∈ ps, Blk w p.box 9 [St p.b]
section
variable {M : Nat → Prop} {w w' : World} {ps : List Pnd}
@[reducible] def BoxS.here (_h : BoxS w ps) (W : World) : Prop := BoxS W ps
theorem BoxS.keep (h : BoxS w ps) (k : Kp M w w') (hn : ∀ p ∈ ps, ¬ M p.box) : BoxS w' ps := fun p hp => (h p hp).keep k (hn p hp)
theorem BoxS.keep0 (h : BoxS w ps) (k : Kp0 w w') : BoxS w' ps := h.keep k fun _ _ h => h
theorem BoxS.keepb {b : Nat} (h : BoxS w ps) (k : Kp (· = b) w w') (hn : ∀ p ∈ ps, p.box ≠ b) : BoxS w' ps := h.keep k hn
theorem BoxS.keepo {B : Nat} {u : Value} (h : BoxS w ps) (k : Kp (fun b => u.ownBlock = some b ∧ B ≤ b) w w') (hn : ∀ p ∈ ps, u.ownBlock ≠ some p.box) : BoxS w' ps := h.keep k fun p hp hm => hn p hp hm.1
end
/-- A disk at bd, in blocks of D. -/
structure DkS (D : Nat → Prop) (w : World) (bd : Nat) (d : DkM) : Prop where
  kd : Blk w bd 59 d.cells
  kl : Blk w d.bl 5 (d.last.map By).flatten
  mp : MpI w d.bm (lastIdx d.ps)
  pv : Own 0 w 80 1 (.slice d.pa d.ps.length d.pc) (d.ps.map cfn)
  wv : Own 0 w 3 1 (.slice d.wa d.ps.length d.wc) (d.ps.map cat_)
  bx : BoxS w d.ps
  sep : d.Sep D bd
  ok : d.Ok
section
variable {D : Nat → Prop} {w w' : World} {bd : Nat} {d : DkM}
@[reducible] def DkS.here (_h : DkS D w bd d) (W : World) : Prop := DkS D W bd d
theorem DkS.keep {M : Nat → Prop} (h : DkS D w bd d) (k : Kp M w w') (hn : ∀ b, D b → ¬ M b) : DkS D w' bd d :=
  ⟨h.kd.keep k (hn _ h.sep.d1), h.kl.keep k (hn _ h.sep.d2), h.mp.keep k (hn _ h.sep.d3), h.pv.keep k fun b _ hb => hn _ (h.sep.pv b _ _ hb).1, h.wv.keep k fun b _ hb => hn _ (h.sep.wv b _ _ hb).1, h.bx.keep k fun p hp => hn _ (h.sep.bx p hp).1, h.sep, h.ok⟩
theorem DkS.keep0 (h : DkS D w bd d) (k : Kp0 w w') : DkS D w' bd d := h.keep k fun _ _ h => h
theorem DkS.keepb {b : Nat} (h : DkS D w bd d) (k : Kp (· = b) w w') (hn : ¬ D b) : DkS D w' bd d := h.keep k fun b' hb e => hn (e ▸ hb)
theorem DkS.keepo {B : Nat} {u : Value} (h : DkS D w bd d) (k : Kp (fun b => u.ownBlock = some b ∧ B ≤ b) w w') (hn : ∀ b, D b → b < w.heap.size → u.ownBlock = some b → ¬ B ≤ b) : DkS D w' bd d := by
  have hp : ∀ {M : Nat → Prop}, (∀ b, D b → b < w.heap.size → ¬ M b) → Kp M w w' → DkS D w' bd d := by
    intro M hn k
    exact ⟨h.kd.keep k (hn _ h.sep.d1 h.kd.lt), h.kl.keep k (hn _ h.sep.d2 h.kl.lt), h.mp.keep k (hn _ h.sep.d3 h.mp.lt), by
      refine ⟨h.pv.1, ?_⟩
      rcases h.pv.2 with h1 | ⟨g, cap, rest, e, hg, hb, r⟩
      · exact .inl h1
      · exact .inr ⟨g, cap, rest, e, hg, hb.keep k (hn g (h.sep.pv g _ _ (by rw [e]; rfl)).1 hb.lt), r⟩, by
      refine ⟨h.wv.1, ?_⟩
      rcases h.wv.2 with h1 | ⟨g, cap, rest, e, hg, hb, r⟩
      · exact .inl h1
      · exact .inr ⟨g, cap, rest, e, hg, hb.keep k (hn g (h.sep.wv g _ _ (by rw [e]; rfl)).1 hb.lt), r⟩, fun p hp => (h.bx p hp).keep k (hn _ (h.sep.bx p hp).1 (h.bx p hp).lt), h.sep, h.ok⟩
  exact hp (fun b hb hl hm => hn b hb hl hm.1 hm.2) k
theorem DkS.mono {E : Nat → Prop} (h : DkS D w bd d) (he : ∀ b, D b → E b) : DkS E w bd d := ⟨h.kd, h.kl, h.mp, h.pv, h.wv, h.bx, h.sep.mono he, h.ok⟩
theorem ob_slice (a : Option Addr) (n c m q b : Nat) (hb : (Value.slice a n c).ownBlock = some b) : (Value.slice a m q).ownBlock = some b := by cases a <;> exact hb
/-- The rows of a disk lie in blocks that are there. -/
theorem DkS.room (h : DkS D w bd d) : (∀ b n c, (Value.slice d.pa n c).ownBlock = some b → b < w.heap.size) ∧ (∀ b n c, (Value.slice d.wa n c).ownBlock = some b → b < w.heap.size) := by
  by_cases hn : d.ps = []
  · obtain ⟨e1, e2⟩ := h.sep.e0 hn
    exact ⟨fun b n c hb => (by rw [e1] at hb; cases hb), fun b n c hb => (by rw [e2] at hb; cases hb)⟩
  · exact ⟨fun b n c hb => (h.pv.blk (by simpa using hn) b (ob_slice _ _ _ _ _ _ hb)).1, fun b n c hb => (h.wv.blk (by simpa using hn) b (ob_slice _ _ _ _ _ _ hb)).1⟩
theorem DkS.bound (h : DkS D w bd d) : DkS (fun b => D b ∧ b < w.heap.size) w bd d :=
  ⟨h.kd, h.kl, h.mp, h.pv, h.wv, h.bx, ⟨⟨h.sep.d1, h.kd.lt⟩, ⟨h.sep.d2, h.kl.lt⟩, ⟨h.sep.d3, h.mp.lt⟩, h.sep.n1, h.sep.n2, h.sep.n3,
    fun b n c hb => ⟨⟨(h.sep.pv b n c hb).1, h.room.1 b n c hb⟩, (h.sep.pv b n c hb).2⟩, fun b n c hb => ⟨⟨(h.sep.wv b n c hb).1, h.room.2 b n c hb⟩, (h.sep.wv b n c hb).2⟩,
    fun p hp => ⟨⟨(h.sep.bx p hp).1, (h.bx p hp).lt⟩, (h.sep.bx p hp).2⟩, h.sep.e0⟩, h.ok⟩
end

end Go.Proofs.Ythfelkjklnhdiaa