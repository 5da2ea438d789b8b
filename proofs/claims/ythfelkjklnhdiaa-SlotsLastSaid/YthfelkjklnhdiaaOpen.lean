/- The arguments of a law, opened by type: a reading as data tells the cells; and the row's last steps, the same for every law. Any program. -/
import Derived.Test.YthfelkjklnhdiaaMem
import Derived.ProofKit
import Derived.SizedLaws
import Derived.Deep.Slices
namespace Bx
open Go Go.RowKit Go.ChangeShapes Go.WideShapes Go.ChangeAt

section
variable {H : Type} {enc : TypeId × Value → H} {P : Program} {w : World} {t : TypeId} {cs : List Value}

/-- The cells read as a value of the type. -/
def Rd (enc : TypeId × Value → H) (P : Program) (w : World) (t : TypeId) (cs : List Value) : Prop :=
  ∃ (base : Nat) (spare : Nat → Bool) (held : Bool) (fuel : Nat) (x : DataW H × List MemPlace), DataW.trod enc P w base spare held fuel t cs = some x

theorem Rd.int {k : IntKind} (h : Rd enc P w t cs) (hu : P.underlying t = some (.int k)) : ∃ n, cs = [.int k n] ∧ (Lit.int k n).wf = true := by
  obtain ⟨base, spare, held, fuel, x, h⟩ := h
  obtain ⟨n, h1, _, h2⟩ := DataW.trod_int hu h
  exact ⟨n, h1, h2⟩
theorem Rd.bool (h : Rd enc P w t cs) (hu : P.underlying t = some .bool) : ∃ b, cs = [.bool b] := by
  obtain ⟨base, spare, held, fuel, x, h⟩ := h
  obtain ⟨n, h1, _⟩ := DataW.trod_bool hu h
  exact ⟨n, h1⟩
theorem Rd.string (h : Rd enc P w t cs) (hu : P.underlying t = some .string) : ∃ s : ByteArray, cs = [.string s] ∧ s.size ≤ maxLen := by
  obtain ⟨base, spare, held, fuel, x, h⟩ := h
  obtain ⟨n, h1, _, h2⟩ := DataW.trod_string hu h
  exact ⟨n, h1, h2⟩
/-- The fields of a struct, one behind the other. -/
def Flds (enc : TypeId × Value → H) (P : Program) (w : World) : List TypeId → List Value → Prop
  | [], cs => cs = []
  | t :: ts, cs => ∃ c0 rest, cs = c0 ++ rest ∧ c0.length = P.cellsOf t ∧ Rd enc P w t c0 ∧ Flds enc P w ts rest
def fldsB (P : Program) : List Field → List TypeId → Nat → Nat → Bool
  | [], [], o, n => o == n
  | f :: fs, t :: ts, o, n => (f.type == t) && (f.offset == o) && fldsB P fs ts (o + P.cellsOf t) n
  | _, _, _, _ => false
def structB (P : Program) (t : TypeId) (ts : List TypeId) : Bool :=
  match P.underlying t with
  | some (.struct fs) => fldsB P fs.toList ts 0 (P.cellsOf t)
  | _ => false
theorem flds_of (N : Nat) (l : List Value) (hl : l.length = N) : ∀ (fs : List Field) (ts : List TypeId) (o : Nat), fldsB P fs ts o N = true →
    (∀ (i : Nat) (f : Field), fs[i]? = some f → Rd enc P w f.type ((l.drop f.offset).take (P.cellsOf f.type))) → o ≤ N ∧ Flds enc P w ts (l.drop o)
  | [], [], o, hb, _ => by
    simp only [fldsB, beq_iff_eq] at hb
    subst hb
    exact ⟨Nat.le_refl _, by unfold Flds; rw [List.drop_eq_nil_iff]; omega⟩
  | f :: fs, t :: ts, o, hb, hr => by
    simp only [fldsB, Bool.and_eq_true, beq_iff_eq] at hb
    obtain ⟨⟨h1, h2⟩, h3⟩ := hb
    obtain ⟨ho, ih⟩ := flds_of N l hl fs ts _ h3 (fun i g hg => hr (i + 1) g (by simpa using hg))
    have h0 := hr 0 f rfl
    rw [h1, h2] at h0
    refine ⟨by omega, ?_⟩
    unfold Flds
    refine ⟨(l.drop o).take (P.cellsOf t), l.drop (o + P.cellsOf t), ?_, ?_, h0, ih⟩
    · rw [← List.drop_drop, List.take_append_drop]
    · rw [List.length_take, List.length_drop]; omega
  | [], _ :: _, _, hb, _ => by simp [fldsB] at hb
  | _ :: _, [], _, hb, _ => by simp [fldsB] at hb
theorem Rd.struct {ts : List TypeId} (h : Rd enc P w t cs) (hb : structB P t ts = true) : Flds enc P w ts cs := by
  unfold structB at hb
  split at hb
  · rename_i fs hu
    obtain ⟨base, spare, held, fuel, x, h⟩ := h
    obtain ⟨xs, n, _, _, hlen, hxl, hat⟩ := DataW.trod_struct hu h
    have := flds_of (enc := enc) (w := w) _ cs hlen fs.toList ts 0 hb (fun i f hf => by
      have hf' : fs[i]? = some f := by simpa using hf
      have h1 := hat i f hf'
      have hi : i < xs.length := by have := (Array.getElem?_eq_some_iff.1 hf').1; omega
      rw [List.getElem?_eq_getElem hi] at h1
      exact ⟨_, _, _, _, _, h1⟩)
    simpa using this.2
  · cases hb
theorem Rd.slice {e : TypeId} {sz : Nat} (h : Rd enc P w t cs) (hu : P.underlying t = some (.slice e)) (hsz : P.cellsOf e = sz) (h0 : 0 < sz) :
    ∃ ao l c es, cs = [.slice ao l c] ∧ es.length = l ∧ l ≤ c ∧ c ≤ maxLen ∧ Sl (fun _ => True) w sz ao es ∧ ∀ e' ∈ es, Rd enc P w e e' := by
  obtain ⟨base, spare, held, fuel, x, h⟩ := h
  rcases Go.Deep.open_slice hu h with ⟨rfl, _⟩ | ⟨a, len, cap, m, n, D, Pl, rfl, hb, hl, hm, hmm, _, hi⟩
  · exact ⟨none, 0, 0, [], rfl, rfl, Nat.le_refl _, Nat.zero_le _, Sl.nil _ _ _ _, fun _ h => nomatch h⟩
  · have hlm : len ≤ m := by rw [hmm]; split <;> omega
    let es : List (List Value) := (List.range len).map fun i => (w.cells? base (a.add (i * P.cellsOf e)) (P.cellsOf e)).getD []
    have hat : ∀ i, i < len → ∃ cs', es[i]? = some cs' ∧ w.cells? base (a.add (i * P.cellsOf e)) (P.cellsOf e) = some cs' ∧ Rd enc P w e cs' := by
      intro i hil
      obtain ⟨cs', h1, h2⟩ := hi i (by omega)
      refine ⟨cs', ?_, h1, ⟨_, _, _, _, _, h2⟩⟩
      show ((List.range len).map _)[i]? = _
      rw [List.getElem?_map, List.getElem?_range hil]
      simp [h1]
    have hel : es.length = len := by show ((List.range len).map _).length = _; simp
    have hin : ∀ i cs', es[i]? = some cs' → cs'.length = sz ∧ (∀ j v, cs'[j]? = some v → w.cell? (a.add (i * sz + j)) = some v) ∧ Rd enc P w e cs' := by
      intro i cs' hi'
      have hil : i < len := by have := (List.getElem?_eq_some_iff.1 hi').1; omega
      obtain ⟨cs2, h1, h2, h3⟩ := hat i hil
      rw [hi'] at h1
      cases h1
      rw [hsz] at h2
      obtain ⟨_, hcl, hc⟩ := World.cells?_some h2
      refine ⟨hcl, fun j v hj => ?_, h3⟩
      have hjl := (List.getElem?_eq_some_iff.1 hj).1
      have := hc j (by omega)
      rw [Go.Deep.add_add] at this
      rw [this, hj]
    refine ⟨some a, len, cap, es, rfl, hel, hl, hm, ⟨fun e' he => ?_, fun hne => ?_⟩, fun e' he => ?_⟩
    · obtain ⟨i, hi'⟩ := List.mem_iff_getElem?.1 he
      exact (hin i e' hi').1
    · have hlen : 0 < len := by rw [← hel]; exact List.length_pos_iff.2 hne
      obtain ⟨cs', h1, h2, h3⟩ := hat 0 hlen
      obtain ⟨q1, q2, _⟩ := hin 0 cs' h1
      have hc0 : w.cell? a = some (cs'[0]'(by omega)) := by
        have := q2 0 _ (List.getElem?_eq_getElem (by omega))
        simpa [Addr.add] using this
      have hsp := World.cell?_spot hc0
      have hblk : a.block < w.heap.size := by
        unfold World.cell? at hc0
        cases hh : w.heap[a.block]? with
        | none => rw [hh] at hc0; cases hc0
        | some o => exact (Array.getElem?_eq_some_iff.1 hh).1
      have had : a = ⟨a.block, a.off, none⟩ := by cases a; simp_all
      refine ⟨congrArg some had, trivial, hblk, fun i e' hi' j v hj => ?_⟩
      have := (hin i e' hi').2.1 j v hj
      rw [had, Addr.add_lit] at this
      rw [← this]
      show w.cell? ⟨a.block, a.off + i * sz + j, none⟩ = _
      rw [Nat.add_assoc]
    · obtain ⟨i, hi'⟩ := List.mem_iff_getElem?.1 he
      exact (hin i e' hi').2.2
theorem exists_map {α : Type} {cells : α → List Value} {Q : α → Prop} : ∀ {es : List (List Value)}, (∀ e ∈ es, ∃ y, e = cells y ∧ Q y) → ∃ ys : List α, es = ys.map cells ∧ ∀ y ∈ ys, Q y
  | [], _ => ⟨[], rfl, fun _ h => nomatch h⟩
  | e :: es, h => by
    obtain ⟨y, rfl, hq⟩ := h e (List.mem_cons_self ..)
    obtain ⟨ys, rfl, hqs⟩ := exists_map fun e' he => h e' (List.mem_cons_of_mem _ he)
    exact ⟨y :: ys, rfl, fun z hz => by rcases List.mem_cons.1 hz with rfl | hz; exact hq; exact hqs z hz⟩
theorem Rd.sliceOf {α : Type} {e : TypeId} {sz : Nat} (cells : α → List Value) (Q : α → Prop) (h : Rd enc P w t cs) (hu : P.underlying t = some (.slice e)) (hsz : P.cellsOf e = sz) (h0 : 0 < sz)
    (hel : ∀ c0, Rd enc P w e c0 → ∃ y, c0 = cells y ∧ Q y) :
    ∃ (ao : Option Addr) (c : Nat) (ys : List α), cs = [.slice ao ys.length c] ∧ ys.length ≤ c ∧ c ≤ maxLen ∧ Sl (fun _ => True) w sz ao (ys.map cells) ∧ ∀ y ∈ ys, Q y := by
  obtain ⟨ao, l, c, es, rfl, hl, h1, h2, hS, hR⟩ := h.slice hu hsz h0
  obtain ⟨ys, rfl, hq⟩ := exists_map fun e' he => hel e' (hR e' he)
  rw [List.length_map] at hl
  exact ⟨ao, c, ys, by rw [hl], by omega, h2, hS, hq⟩
end

theorem Ret.val {R : Value → World → Prop} {e : Ending} {w : World} (h : Ret R e w) : ∃ v, e = .returned v ∧ R v w := by
  cases e with
  | returned v => exact ⟨v, rfl, h⟩
  | _ => exact h.elim
/-! ### Arguments -/
section
variable {H : Type} {enc : TypeId × Value → H} {P : Program} {w : World} {t : TypeId} {v : Value} {d : DataW H} {p : List MemPlace} {b : Nat} {sp : Nat → Bool} {hd : Bool} {r : Reach} {b0 : Nat}
theorem arg_one (hv : Value.okWide P w r b0 t v) (h : DataW.Trod enc P w b sp hd t v d p) {e : TypeId} (hu : P.underlying t = some (.slice e)) : Rd enc P w t [v] := by
  obtain ⟨a, l, c, rfl⟩ := okWide_slice hu hv
  obtain ⟨n, h⟩ := h
  exact ⟨_, _, _, _, _, h⟩
theorem arg_int (hv : Value.okWide P w r b0 t v) (h : DataW.Trod enc P w b sp hd t v d p) {k : IntKind} (hu : P.underlying t = some (.int k)) : ∃ n, v = .int k n ∧ (Lit.int k n).wf = true := by
  obtain ⟨a, rfl⟩ := okWide_int hu hv
  obtain ⟨n, h⟩ := h
  obtain ⟨m, h1, _, h2⟩ := DataW.trod_int hu h
  cases h1
  exact ⟨_, rfl, h2⟩
theorem arg_agg (hv : Value.okWide P w r b0 t v) (h : DataW.Trod enc P w b sp hd t v d p) {ts : List TypeId} (hb : structB P t ts = true) : ∃ cs : List Value, v = .agg cs.toArray ∧ Rd enc P w t cs := by
  unfold structB at hb
  split at hb
  · rename_i fs hu
    obtain ⟨cs, rfl, hsz⟩ := okWide_struct hu hv
    obtain ⟨l⟩ := cs
    obtain ⟨n, h⟩ := h
    exact ⟨l, rfl, ⟨_, _, _, _, _, h⟩⟩
  · cases hb
end

/-! ### The row's last step -/
section
variable {H : Type} {enc : TypeId × Value → H} {P : Program}
theorem same_all (hl : laidOutB P = true) {W W' : World} (hb : Below W.heap.size W W') : ∀ {ts : List TypeId} {vs : List Value} {ds : List (DataW H)} {ps : List MemPlace},
    ts.all (fun t => P.readableRec t && decide (t < P.types.size)) = true → DataW.TrodAll enc P W 0 (fun _ => true) true ts vs ds ps → (∀ x ∈ ps, x.block < W.heap.size) →
    ∀ sp : Nat → Bool, (∀ x ∈ ps, sp x.block = true) → DataW.TrodAll enc P W' 0 sp true ts vs ds ps
  | [], [], [], _, _, h, _, _, _ => h
  | t :: ts, v :: vs, d :: ds, ps, hr, h, hlt, sp, hsp => by
    obtain ⟨p, q, h1, h2, rfl⟩ := h
    simp only [List.all_cons, Bool.and_eq_true, decide_eq_true_eq] at hr
    obtain ⟨⟨hr1, hr2⟩, hr3⟩ := hr
    refine ⟨p, q, ?_, same_all hl hb hr3 h2 (fun x hx => hlt x (List.mem_append_right _ hx)) sp (fun x hx => hsp x (List.mem_append_right _ hx)), rfl⟩
    exact WideElems.Trod_stays hl hr1 hr2 h1 (fun x hx => hb.same (hlt x (List.mem_append_left _ hx))) (fun x hx => hsp x (List.mem_append_left _ hx))
  | [], [], _ :: _, _, _, h, _, _, _ => h.elim
  | [], _ :: _, _, _, _, h, _, _, _ => h.elim
  | _ :: _, [], _, _, _, h, _, _, _ => h.elim
  | _ :: _, _ :: _, [], _, _, h, _, _, _ => h.elim

/-- A law that yields one bool and changes no argument. -/
theorem law_post (hl : laidOutB P = true) {f : Func} {s : ChangeSpec} {apart fresh handsOn again : Bool} {W W' : World} {args : Array Value} {ds gs : List (DataW H)} {before : List MemPlace} {b : Bool} {tb : TypeId}
    (hW : DataW.Whole enc P f.params.toList s.vars apart W args.toList ds gs before) (hv : s.vars = [])
    (hty : f.params.toList.all (fun t => P.readableRec t && decide (t < P.types.size)) = true) (hrt : f.resultTypes = #[tb]) (htb : P.underlying tb = some .bool)
    (hfn : s.fn H ds = { results := [.lit (.bool b)], args := ds }) (hK : Kp0 W W') :
    s.post enc P f apart fresh handsOn again W args (.bool b) W' := by
  have hb := hK.below
  have hlt : ∀ p ∈ before, p.block < W.heap.size := fun p hp => hW.lt p hp
  have hold : ∀ p ∈ before, (fun b => decide (b < W.heap.size)) p.block = true := fun p hp => by simpa using hlt p hp
  have hW2 := hW
  obtain ⟨p, q, hA, hV, rfl, hz, hn⟩ := hW
  rw [hv] at hV
  have hg : gs = [] ∧ q = [] := by
    cases gs with
    | nil => exact ⟨rfl, hV⟩
    | cons g gs => exact hV.elim
  obtain ⟨rfl, rfl⟩ := hg
  simp only [List.append_nil] at hW2 hlt hold hz hn ⊢
  have hres : ∀ (bb : Nat) (sp : Nat → Bool) (hd : Bool), DataW.TrodAll enc P W' bb sp hd f.resultTypes.toList ((Value.bool b).resultList f.resultTypes.size) [.lit (.bool b)] [] := by
    intro bb sp hd
    rw [hrt]
    exact trodAll_mk1 (shut_bool htb b)
  have hok : ∀ (j : Nat) (t : TypeId) (r : Value), f.resultTypes[j]? = some t → ((Value.bool b).resultList f.resultTypes.size)[j]? = some r → Value.okWide P W' .any 0 t r := by
    rw [hrt]
    intro j t r hj hr
    match j, hj, hr with
    | 0, hj, hr => cases hj; cases hr; exact okWide_bool_mk htb b
    | j + 1, hj, _ => simp at hj
  have hargs := same_all hl hb hty hA hlt
  have hvars : ∀ sp : Nat → Bool, DataW.TrodVars enc P W' sp s.vars [] [] := by intro sp; rw [hv]; rfl
  refine ⟨ds, [], p, [], p, [], hW2, ?_, ?_, ?_, World.keptBut_mono (fun x hx => ⟨hx, .inr (.inl hx)⟩) (hb.frame (· ∈ p)), fun _ => ⟨hok, [.lit (.bool b)] ++ ds, [], ([] ++ p) ++ [], ⟨[] ++ p, [], ?_, ?_, rfl, ?_, ?_⟩, ?_⟩⟩
  · rw [List.append_nil, hfn]; exact hres _ _ _
  · rw [List.append_nil, hfn]; exact hargs _ hold
  · rw [List.append_nil, hfn]; exact hvars _
  · exact trodAll_append (hargs _ (fun _ _ => rfl)) (hres _ _ _)
  · exact hvars _
  · intro bb off hp
    have hin : MemPlace.cell bb off ∈ p := by simpa using hp
    rw [hb.frozen (hlt _ hin)]
    exact hz bb off hin
  · intro ha
    have := hn ha
    simpa using this
  · intro x hx _
    simpa using hx
end
end Bx
