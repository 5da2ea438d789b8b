/- Contracts of the rules of package config that are told as closures. -/
import Derived.Test.YtiedmigdgelhkaaTypes
import Derived.Test.YtiedmigdgelhkaaPlanData
import Derived.Test.YtiedmigdgelhkaaConf1
namespace Go.Proofs.Ytiedmigdgelhkaa
open Go Go.RowKit Bx Go.Proofs

theorem nd {p q : Prop} {ip : Decidable p} {iq : Decidable q} (h : ¬ p ↔ q) : (!@decide p ip) = @decide q iq := by
  by_cases hp : p
  · have hq : ¬ q := fun hq => (h.2 hq) hp
    simp [hp, hq]
  · have hq : q := h.1 hp
    simp [hp, hq]
def bad1 (mem : Int) (x : Prt) : Bool := decide (x.base < 0 ∨ x.size < 1 ∨ IntKind.i64.wrap (mem - x.base) < x.size)
def bad2 (pre : List Prt) (x : Prt) : Bool := pre.any fun y => !apart y x
def bad3 (x : Prt) : Bool := decide (x.ring < 2 ∨ 64 < x.ring ∨ (x.code.length : Int) < 1 ∨ 256 < (x.code.length : Int) ∨ x.again < 0 ∨ 100 < x.again)
def bad4 (x : Prt) : Bool := decide (x.fault < 1 ∨ 3 < x.fault)
def win1 (n : Nat) (x : Int × Int) : Bool := decide (x.1 < -1 ∨ (n : Int) ≤ x.1)
def win2 (x : Int × Int) : Bool := decide (x.2 < 1 ∨ 1000 < x.2)
def ch1 (c : Chn) : Bool := decide (c.kind < 1 ∨ 2 < c.kind)
def ch2 (n : Nat) (c : Chn) : Bool := decide (c.frm < 0 ∨ (n : Int) ≤ c.frm ∨ c.to < 0 ∨ (n : Int) ≤ c.to ∨ c.frm = c.to)
def ch3 (c : Chn) : Bool := decide (c.size < 1 ∨ 8 < c.size ∨ c.depth < 1 ∨ 16 < c.depth ∨ (c.kind = 1 ∧ c.depth ≠ 1))

set_option maxRecDepth 10000 in
set_option maxHeartbeats 2000000 in
theorem num1_c {w : World} {p : PlnM} {b0 : Nat} (B0 : Blk w b0 51 p.cl) : Calls Try.prog 48 #[.pointer (some ⟨b0, 0, none⟩)] w (Ret fun v w' => Kp0 w w' ∧ v = .bool (p.r.numBad)) := by
  have T : Kp0 w w := Kp.refl _ _
  refine calls_start Try.func48 rfl (n := 26) rfl rfl rfl ?_
  refine CW_seq ?_
  refine CW_reg rfl ?_
  refine OW_ev (Ev_c (.inr rfl)) rfl ?_
  refine OW_nil ?_
  refine CW_seq ?_
  refine CW_reg rfl ?_
  refine OW_ev (Ev_fieldAddr fld_51_0 rfl rfl) rfl ?_
  refine OW_ev (Ev_load one_3 rfl rfl (B0.ld (q := 0) rfl)) rfl ?_
  refine OW_st rfl (Stp_call ent_49 rfl rfl rfl (cwithin_c _ _ _ _) ?_)
  rintro _ w1 ⟨E1, rfl⟩
  have Z1 := E1.size
  have B0 := B0.keep0 E1
  have T := T.keep0 E1
  refine OW_ev (Ev_not rfl rfl) rfl ?_
  refine OW_ev (Ev_mvb (.inl rfl) rfl) rfl ?_
  refine OW_split (d := .tmp 6) rfl (fun c2 => ?_) (fun c2 => ?_)
  · have d2 := c2
    first | (with_reducible replace d2 := of_decide_eq_true d2) | (with_reducible replace d2 := bnt d2; try (with_reducible replace d2 := of_decide_eq_false d2)) | skip
    refine OW_no rfl rfl rfl rfl c2 ?_
    refine OW_no rfl rfl rfl rfl c2 ?_
    refine OW_no rfl rfl rfl rfl c2 ?_
    refine OW_no rfl rfl rfl rfl c2 ?_
    refine OW_no rfl rfl rfl rfl c2 ?_
    refine OW_ev (Ev_pickb_t rfl rfl c2 rfl) rfl ?_
    refine OW_ev (Ev_mvb (.inl rfl) rfl) rfl ?_
    refine OW_no rfl rfl rfl rfl rfl ?_
    refine OW_no rfl rfl rfl rfl rfl ?_
    refine OW_no rfl rfl rfl rfl rfl ?_
    refine OW_no rfl rfl rfl rfl rfl ?_
    refine OW_no rfl rfl rfl rfl rfl ?_
    refine OW_ev (Ev_pickb_t rfl rfl rfl rfl) rfl ?_
    refine OW_ev (Ev_mvb (.inl rfl) rfl) rfl ?_
    refine OW_no rfl rfl rfl rfl rfl ?_
    refine OW_no rfl rfl rfl rfl rfl ?_
    refine OW_no rfl rfl rfl rfl rfl ?_
    refine OW_no rfl rfl rfl rfl rfl ?_
    refine OW_ev (Ev_pickb_t rfl rfl rfl rfl) rfl ?_
    refine OW_ev (Ev_mvb (.inr rfl) rfl) rfl ?_
    refine OW_nil ?_
    refine CW_ret ?_
    refine ⟨rfl, _, (.tmp rfl .nil), ?_⟩
    exact ⟨T, vb rfl (by unfold Pln.numBad PlnM.r; simp only [List.length_map]; first | exact nd (by omega) | exact decide_eq_decide.2 (by omega) | exact (decide_eq_true (by omega)).symm | exact (decide_eq_false (by omega)).symm)⟩
  · have d2 := c2
    first | (with_reducible replace d2 := of_decide_eq_false d2) | (with_reducible replace d2 := bnf d2; try (with_reducible replace d2 := of_decide_eq_true d2)) | skip
    refine OW_yes rfl rfl rfl rfl c2 (Ev.stp (Ev_fieldAddr fld_51_1 rfl rfl) ?_)
    refine OW_yes rfl rfl rfl rfl c2 (Ev.stp (Ev_load one_47 rfl rfl (B0.ld (q := 1) rfl)) ?_)
    refine OW_yes rfl rfl rfl rfl c2 (Ev.stp (Ev_len und_47 rfl rfl) ?_)
    refine OW_yes rfl rfl rfl rfl c2 (Stp_call ent_49 rfl rfl rfl (cwithin_c _ _ _ _) ?_)
    rintro _ w3 ⟨E3, rfl⟩
    have Z3 := E3.size
    have B0 := B0.keep0 E3
    have T := T.keep0 E3
    refine OW_yes rfl rfl rfl rfl c2 (Ev.stp (Ev_not rfl rfl) ?_)
    refine OW_ev (Ev_pickb_f rfl rfl c2 rfl) rfl ?_
    refine OW_ev (Ev_mvb (.inl rfl) rfl) rfl ?_
    refine OW_split (d := .tmp 13) rfl (fun c4 => ?_) (fun c4 => ?_)
    · have d4 := c4
      first | (with_reducible replace d4 := of_decide_eq_true d4) | (with_reducible replace d4 := bnt d4; try (with_reducible replace d4 := of_decide_eq_false d4)) | skip
      refine OW_no rfl rfl rfl rfl c4 ?_
      refine OW_no rfl rfl rfl rfl c4 ?_
      refine OW_no rfl rfl rfl rfl c4 ?_
      refine OW_no rfl rfl rfl rfl c4 ?_
      refine OW_no rfl rfl rfl rfl c4 ?_
      refine OW_ev (Ev_pickb_t rfl rfl c4 rfl) rfl ?_
      refine OW_ev (Ev_mvb (.inl rfl) rfl) rfl ?_
      refine OW_no rfl rfl rfl rfl rfl ?_
      refine OW_no rfl rfl rfl rfl rfl ?_
      refine OW_no rfl rfl rfl rfl rfl ?_
      refine OW_no rfl rfl rfl rfl rfl ?_
      refine OW_ev (Ev_pickb_t rfl rfl rfl rfl) rfl ?_
      refine OW_ev (Ev_mvb (.inr rfl) rfl) rfl ?_
      refine OW_nil ?_
      refine CW_ret ?_
      refine ⟨rfl, _, (.tmp rfl .nil), ?_⟩
      exact ⟨T, vb rfl (by unfold Pln.numBad PlnM.r; simp only [List.length_map]; first | exact nd (by omega) | exact decide_eq_decide.2 (by omega) | exact (decide_eq_true (by omega)).symm | exact (decide_eq_false (by omega)).symm)⟩
    · have d4 := c4
      first | (with_reducible replace d4 := of_decide_eq_false d4) | (with_reducible replace d4 := bnf d4; try (with_reducible replace d4 := of_decide_eq_true d4)) | skip
      refine OW_yes rfl rfl rfl rfl c4 (Ev.stp (Ev_fieldAddr fld_51_2 rfl rfl) ?_)
      refine OW_yes rfl rfl rfl rfl c4 (Ev.stp (Ev_load one_48 rfl rfl (B0.ld (q := 2) rfl)) ?_)
      refine OW_yes rfl rfl rfl rfl c4 (Ev.stp (Ev_len und_48 rfl rfl) ?_)
      refine OW_yes rfl rfl rfl rfl c4 (Stp_call ent_49 rfl rfl rfl (cwithin_c _ _ _ _) ?_)
      rintro _ w5 ⟨E5, rfl⟩
      have Z5 := E5.size
      have B0 := B0.keep0 E5
      have T := T.keep0 E5
      refine OW_yes rfl rfl rfl rfl c4 (Ev.stp (Ev_not rfl rfl) ?_)
      refine OW_ev (Ev_pickb_f rfl rfl c4 rfl) rfl ?_
      refine OW_ev (Ev_mvb (.inl rfl) rfl) rfl ?_
      refine OW_split (d := .tmp 20) rfl (fun c6 => ?_) (fun c6 => ?_)
      · have d6 := c6
        first | (with_reducible replace d6 := of_decide_eq_true d6) | (with_reducible replace d6 := bnt d6; try (with_reducible replace d6 := of_decide_eq_false d6)) | skip
        refine OW_no rfl rfl rfl rfl c6 ?_
        refine OW_no rfl rfl rfl rfl c6 ?_
        refine OW_no rfl rfl rfl rfl c6 ?_
        refine OW_no rfl rfl rfl rfl c6 ?_
        refine OW_ev (Ev_pickb_t rfl rfl c6 rfl) rfl ?_
        refine OW_ev (Ev_mvb (.inr rfl) rfl) rfl ?_
        refine OW_nil ?_
        refine CW_ret ?_
        refine ⟨rfl, _, (.tmp rfl .nil), ?_⟩
        exact ⟨T, vb rfl (by unfold Pln.numBad PlnM.r; simp only [List.length_map]; first | exact nd (by omega) | exact decide_eq_decide.2 (by omega) | exact (decide_eq_true (by omega)).symm | exact (decide_eq_false (by omega)).symm)⟩
      · have d6 := c6
        first | (with_reducible replace d6 := of_decide_eq_false d6) | (with_reducible replace d6 := bnf d6; try (with_reducible replace d6 := of_decide_eq_true d6)) | skip
        refine OW_yes rfl rfl rfl rfl c6 (Ev.stp (Ev_fieldAddr fld_51_3 rfl rfl) ?_)
        refine OW_yes rfl rfl rfl rfl c6 (Ev.stp (Ev_load one_49 rfl rfl (B0.ld (q := 3) rfl)) ?_)
        refine OW_yes rfl rfl rfl rfl c6 (Ev.stp (Ev_len und_49 rfl rfl) ?_)
        refine OW_yes rfl rfl rfl rfl c6 (Ev.stp (Ev_gtr rfl rfl rfl) ?_)
        refine OW_ev (Ev_pickb_f rfl rfl c6 rfl) rfl ?_
        refine OW_ev (Ev_mvb (.inr rfl) rfl) rfl ?_
        refine OW_nil ?_
        refine CW_ret ?_
        refine ⟨rfl, _, (.tmp rfl .nil), ?_⟩
        exact ⟨T, vb rfl (by unfold Pln.numBad PlnM.r; simp only [List.length_map]; first | exact nd (by omega) | exact decide_eq_decide.2 (by omega) | exact (decide_eq_true (by omega)).symm | exact (decide_eq_false (by omega)).symm)⟩

set_option maxRecDepth 10000 in
set_option maxHeartbeats 2000000 in
theorem part1_c {F : Nat → Prop} {w : World} {p : PlnM} {b0 b1 bat j : Nat} (hP : PlnS F w p) (B0 : Blk w b0 51 p.cl) (B1 : Blk w b1 82 [.pointer (some ⟨bat, 0, none⟩)]) (BA : Blk w bat 3 [.int .i64 (j : Int)]) {m : PrtM} (hm : p.ps[j]? = some m) : Calls Try.prog 50 #[.pointer (some ⟨b0, 0, none⟩), .pointer (some ⟨b1, 0, none⟩)] w (Ret fun v w' => Kp0 w w' ∧ v = .bool (bad1 p.mem m.r)) := by
  have hP := hP.old
  have h0l := B0.lt
  have h1l := B1.lt
  have hal := BA.lt
  have hget : (p.ps.map PrtM.cl)[j]? = some m.cl := by rw [List.getElem?_map, hm]; rfl
  have hjl := (List.getElem?_eq_some_iff.1 hm).1
  have K := hP.1.at_ hget
  have hKb := (hP.1.2 (Sl.ne hget)).2.2.1
  have hok := (hP.2.2.2.1 m (List.mem_of_getElem? hm)).1
  have T : Kp0 w w := Kp.refl _ _
  refine calls_start Try.func50 rfl (n := 29) rfl rfl rfl ?_
  refine CW_seq ?_
  refine CW_reg rfl ?_
  refine OW_ev (Ev_c (.inr rfl)) rfl ?_
  refine OW_nil ?_
  refine CW_seq ?_
  refine CW_draw (fun W => hP.here W ∧ B0.here W ∧ B1.here W ∧ BA.here W ∧ K.here W) mixed rfl (fun _ _ _ h => nomatch h.1) ?_
  have E1 : Kp0 _ _ := Kp.drew w nob
  have Z1 : (World.drew w).heap.size = w.heap.size := rfl
  generalize World.drew w = w1 at E1 Z1 ⊢
  have hP := hP.keep0 E1
  have B0 := B0.keep0 E1
  have B1 := B1.keep0 E1
  have BA := BA.keep0 E1
  have K := K.keep0 E1
  have T := T.keep0 E1
  refine AW_take 0 rfl rfl (by decide +kernel) (by decide +kernel) (by decide +kernel) (fun w ⟨hP, B0, B1, BA, K⟩ => Ev_fieldAddr fld_51_1 rfl rfl) ⟨hP, B0, B1, BA, K⟩ ?_
  refine AW_take 1 rfl rfl (by decide +kernel) (by decide +kernel) (by decide +kernel) (fun w ⟨hP, B0, B1, BA, K⟩ => Ev_load one_47 rfl rfl (B0.ld (q := 1) rfl)) ⟨hP, B0, B1, BA, K⟩ ?_
  refine AW_take 2 rfl rfl (by decide +kernel) (by decide +kernel) (by decide +kernel) (fun w ⟨hP, B0, B1, BA, K⟩ => Ev_load one_82 rfl rfl (B1.ld (q := 0) rfl)) ⟨hP, B0, B1, BA, K⟩ ?_
  refine AW_take 3 rfl rfl (by decide +kernel) (by decide +kernel) (by decide +kernel) (fun w ⟨hP, B0, B1, BA, K⟩ => Ev_nilCheck rfl rfl) ⟨hP, B0, B1, BA, K⟩ ?_
  refine AW_take 4 rfl rfl (by decide +kernel) (by decide +kernel) (by decide +kernel) (fun w ⟨hP, B0, B1, BA, K⟩ => Ev_load one_3 rfl rfl (BA.ld (q := 0) rfl)) ⟨hP, B0, B1, BA, K⟩ ?_
  refine AW_take 5 rfl rfl (by decide +kernel) (by decide +kernel) (by decide +kernel) (fun w ⟨hP, B0, B1, BA, K⟩ => Ev_idx j (hP.1.ad hget) sl_47 rfl rfl rfl rfl hjl) ⟨hP, B0, B1, BA, K⟩ ?_
  refine AW_take 6 rfl rfl (by decide +kernel) (by decide +kernel) (by decide +kernel) (fun w ⟨hP, B0, B1, BA, K⟩ => Ev_loadAgg (l := [.int _ _, .int _ _, .int _ _, .slice _ _ _, .int _ _, .int _ _]) agg_65 rfl rfl (K.sub 0 rfl) rfl) ⟨hP, B0, B1, BA, K⟩ ?_
  refine AW_one 7 (by decide +kernel) (Next.mk rfl rfl ?_)
  refine Stp_alloc zero_65 rfl ?_
  intro b2 w2 hb2 hz2 E2 B2
  have L2 : _ ≤ b2 := Nat.le_trans T.size (Nat.le_of_eq hb2.symm)
  have hP := hP.keep0 E2
  have B0 := B0.keep0 E2
  have B1 := B1.keep0 E2
  have BA := BA.keep0 E2
  have K := K.keep0 E2
  have T := T.keep0 E2
  refine ⟨⟨hP, B0, B1, BA, K⟩, ?_⟩
  refine AW_one 8 (by decide +kernel) (Next.mk rfl rfl ?_)
  refine Stp_store (q := 0) (vs := [.int _ _, .int _ _, .int _ _, .slice _ _ _, .int _ _, .int _ _]) B2 siz_65 rfl rfl rfl rfl (Nat.le_of_ble_eq_true rfl) rfl ?_
  intro w3 hz3 E3 B3
  have Z3 := E3.size
  have hP := hP.keepb E3 (by intro h; first | omega | (change _ < _ at h; omega) | (change _ ≤ _ at h; omega) | (have h1 := h.1; have h2 := h.2; first | omega | (change _ ≤ _ at h1; omega) | (change _ < _ at h1; omega)))
  have B0 := B0.keepb E3 (by intro h; first | omega | (change _ < _ at h; omega) | (change _ ≤ _ at h; omega) | (have h1 := h.1; have h2 := h.2; first | omega | (change _ ≤ _ at h1; omega) | (change _ < _ at h1; omega)))
  have B1 := B1.keepb E3 (by intro h; first | omega | (change _ < _ at h; omega) | (change _ ≤ _ at h; omega) | (have h1 := h.1; have h2 := h.2; first | omega | (change _ ≤ _ at h1; omega) | (change _ < _ at h1; omega)))
  have BA := BA.keepb E3 (by intro h; first | omega | (change _ < _ at h; omega) | (change _ ≤ _ at h; omega) | (have h1 := h.1; have h2 := h.2; first | omega | (change _ ≤ _ at h1; omega) | (change _ < _ at h1; omega)))
  have K := K.keepb E3 (by intro h; first | omega | (change _ < _ at h; omega) | (change _ ≤ _ at h; omega) | (have h1 := h.1; have h2 := h.2; first | omega | (change _ ≤ _ at h1; omega) | (change _ < _ at h1; omega)))
  have T := T.transb E3 (by omega)
  clear B2
  have B2 : Blk _ _ _ [_, _, _, _, _, _] := B3
  clear B3
  refine ⟨⟨hP, B0, B1, BA, K⟩, ?_⟩
  refine AW_done (by decide +kernel) ?_
  refine CW_seq ?_
  refine CW_reg rfl ?_
  refine OW_ev (Ev_fieldAddr fld_65_0 rfl rfl) rfl ?_
  refine OW_ev (Ev_load one_3 rfl rfl (B2.ld (q := 0) rfl)) rfl ?_
  refine OW_ev (Ev_lss rfl rfl rfl) rfl ?_
  refine OW_ev (Ev_mvb (.inl rfl) rfl) rfl ?_
  refine OW_split (d := .tmp 14) rfl (fun c4 => ?_) (fun c4 => ?_)
  · have d4 := c4
    first | (with_reducible replace d4 := of_decide_eq_true d4) | (with_reducible replace d4 := bnt d4; try (with_reducible replace d4 := of_decide_eq_false d4)) | skip
    refine OW_no rfl rfl rfl rfl c4 ?_
    refine OW_no rfl rfl rfl rfl c4 ?_
    refine OW_no rfl rfl rfl rfl c4 ?_
    refine OW_ev (Ev_pickb_t rfl rfl c4 rfl) rfl ?_
    refine OW_ev (Ev_mvb (.inl rfl) rfl) rfl ?_
    refine OW_no rfl rfl rfl rfl rfl ?_
    refine OW_no rfl rfl rfl rfl rfl ?_
    refine OW_no rfl rfl rfl rfl rfl ?_
    refine OW_no rfl rfl rfl rfl rfl ?_
    refine OW_no rfl rfl rfl rfl rfl ?_
    refine OW_no rfl rfl rfl rfl rfl ?_
    refine OW_no rfl rfl rfl rfl rfl ?_
    refine OW_no rfl rfl rfl rfl rfl ?_
    refine OW_ev (Ev_pickb_t rfl rfl rfl rfl) rfl ?_
    refine OW_ev (Ev_mvb (.inr rfl) rfl) rfl ?_
    refine OW_nil ?_
    refine CW_ret ?_
    refine ⟨rfl, _, (.tmp rfl .nil), ?_⟩
    exact ⟨T, vb rfl (by unfold bad1; first | exact nd (by omega) | exact decide_eq_decide.2 (by omega) | exact (decide_eq_true (by omega)).symm | exact (decide_eq_false (by omega)).symm)⟩
  · have d4 := c4
    first | (with_reducible replace d4 := of_decide_eq_false d4) | (with_reducible replace d4 := bnf d4; try (with_reducible replace d4 := of_decide_eq_true d4)) | skip
    refine OW_yes rfl rfl rfl rfl c4 (Ev.stp (Ev_fieldAddr fld_65_1 rfl rfl) ?_)
    refine OW_yes rfl rfl rfl rfl c4 (Ev.stp (Ev_load one_3 rfl rfl (B2.ld (q := 1) rfl)) ?_)
    refine OW_yes rfl rfl rfl rfl c4 (Ev.stp (Ev_lss rfl rfl rfl) ?_)
    refine OW_ev (Ev_pickb_f rfl rfl c4 rfl) rfl ?_
    refine OW_ev (Ev_mvb (.inl rfl) rfl) rfl ?_
    refine OW_split (d := .tmp 19) rfl (fun c5 => ?_) (fun c5 => ?_)
    · have d5 := c5
      first | (with_reducible replace d5 := of_decide_eq_true d5) | (with_reducible replace d5 := bnt d5; try (with_reducible replace d5 := of_decide_eq_false d5)) | skip
      refine OW_no rfl rfl rfl rfl c5 ?_
      refine OW_no rfl rfl rfl rfl c5 ?_
      refine OW_no rfl rfl rfl rfl c5 ?_
      refine OW_no rfl rfl rfl rfl c5 ?_
      refine OW_no rfl rfl rfl rfl c5 ?_
      refine OW_no rfl rfl rfl rfl c5 ?_
      refine OW_no rfl rfl rfl rfl c5 ?_
      refine OW_no rfl rfl rfl rfl c5 ?_
      refine OW_ev (Ev_pickb_t rfl rfl c5 rfl) rfl ?_
      refine OW_ev (Ev_mvb (.inr rfl) rfl) rfl ?_
      refine OW_nil ?_
      refine CW_ret ?_
      refine ⟨rfl, _, (.tmp rfl .nil), ?_⟩
      exact ⟨T, vb rfl (by unfold bad1; first | exact nd (by omega) | exact decide_eq_decide.2 (by omega) | exact (decide_eq_true (by omega)).symm | exact (decide_eq_false (by omega)).symm)⟩
    · have d5 := c5
      first | (with_reducible replace d5 := of_decide_eq_false d5) | (with_reducible replace d5 := bnf d5; try (with_reducible replace d5 := of_decide_eq_true d5)) | skip
      refine OW_yes rfl rfl rfl rfl c5 (Ev.stp (Ev_fieldAddr fld_65_1 rfl rfl) ?_)
      refine OW_yes rfl rfl rfl rfl c5 (Ev.stp (Ev_load one_3 rfl rfl (B2.ld (q := 1) rfl)) ?_)
      refine OW_yes rfl rfl rfl rfl c5 (Ev.stp (Ev_fieldAddr fld_51_0 rfl rfl) ?_)
      refine OW_yes rfl rfl rfl rfl c5 (Ev.stp (Ev_load one_3 rfl rfl (B0.ld (q := 0) rfl)) ?_)
      refine OW_yes rfl rfl rfl rfl c5 (Ev.stp (Ev_fieldAddr fld_65_0 rfl rfl) ?_)
      refine OW_yes rfl rfl rfl rfl c5 (Ev.stp (Ev_load one_3 rfl rfl (B2.ld (q := 0) rfl)) ?_)
      refine OW_yes rfl rfl rfl rfl c5 (Ev.stp (Ev_subw rfl rfl rfl) ?_)
      refine OW_yes rfl rfl rfl rfl c5 (Ev.stp (Ev_gtr rfl rfl rfl) ?_)
      refine OW_ev (Ev_pickb_f rfl rfl c5 rfl) rfl ?_
      refine OW_ev (Ev_mvb (.inr rfl) rfl) rfl ?_
      refine OW_nil ?_
      refine CW_ret ?_
      refine ⟨rfl, _, (.tmp rfl .nil), ?_⟩
      exact ⟨T, vb rfl (by unfold bad1; first | exact nd (by omega) | exact decide_eq_decide.2 (by omega) | exact (decide_eq_true (by omega)).symm | exact (decide_eq_false (by omega)).symm)⟩

set_option maxRecDepth 10000 in
set_option maxHeartbeats 2000000 in
theorem part2_c {F : Nat → Prop} {w : World} {p : PlnM} {b0 b1 bat j : Nat} (hP : PlnS F w p) (B0 : Blk w b0 51 p.cl) (B1 : Blk w b1 82 [.pointer (some ⟨bat, 0, none⟩)]) (BA : Blk w bat 3 [.int .i64 (j : Int)]) {m : PrtM} (hm : p.ps[j]? = some m) : Calls Try.prog 51 #[.pointer (some ⟨b1, 0, none⟩), .pointer (some ⟨b0, 0, none⟩)] w (Ret fun v w' => Kp0 w w' ∧ v = .bool (bad2 ((p.ps.map PrtM.r).take j) m.r)) := by
  have hP := hP.old
  have h0l := B0.lt
  have h1l := B1.lt
  have hal := BA.lt
  have hget : (p.ps.map PrtM.cl)[j]? = some m.cl := by rw [List.getElem?_map, hm]; rfl
  have hjl := (List.getElem?_eq_some_iff.1 hm).1
  have K := hP.1.at_ hget
  have hKb := (hP.1.2 (Sl.ne hget)).2.2.1
  have hok := (hP.2.2.2.1 m (List.mem_of_getElem? hm)).1
  have hpl : p.ps.length ≤ 9223372036854775807 := by have h1 := hP.2.2.2.2.2.2.2.1; simp only [maxLen] at h1; omega
  have T : Kp0 w w := Kp.refl _ _
  refine calls_start Try.func51 rfl (n := 25) rfl rfl rfl ?_
  refine CW_seq ?_
  refine CW_reg rfl ?_
  refine OW_ev (Ev_c (.inr rfl)) rfl ?_
  refine OW_nil ?_
  refine CW_seq ?_
  refine CW_seq ?_
  refine CW_reg rfl ?_
  refine OW_ev (Ev_load one_82 rfl rfl (B1.ld (q := 0) rfl)) rfl ?_
  refine OW_ev (Ev_nilCheck rfl rfl) rfl ?_
  refine OW_ev (Ev_load one_3 rfl rfl (BA.ld (q := 0) rfl)) rfl ?_
  refine OW_ev (Ev_c (.inl rfl)) rfl ?_
  refine OW_nil ?_
  refine CW_block ?_
  refine CW_loop (α := Nat) (fun (k : Nat) f wr => AllEq f [(0, .pointer (some ⟨b1, 0, none⟩)), (1, .pointer (some ⟨b0, 0, none⟩)), (6, .int .i64 (j : Int)), (7, .int .i64 (k : Int))] ∧ (k ≤ j) ∧ (∀ i, i < k → ∀ y : PrtM, p.ps[i]? = some y → apart y.r m.r = true) ∧ (Kp0 w wr)) (fun k => j - k) 0 ?_ ?_
  ·
    exact ⟨⟨rfl, rfl, rfl, rfl, trivial⟩, Nat.zero_le _, fun i h => absurd h (by omega), T⟩
  ·
    rintro k f wr ⟨hf, hk, hno, T⟩
    obtain ⟨g, rfl⟩ : ∃ g, f = upl g [(0, .pointer (some ⟨b1, 0, none⟩)), (1, .pointer (some ⟨b0, 0, none⟩)), (6, .int .i64 (j : Int)), (7, .int .i64 (k : Int))] := ⟨f, upl_self hf⟩
    clear hf
    have hP := hP.keep0 T
    have B0 := B0.keep0 T
    have B1 := B1.keep0 T
    have BA := BA.keep0 T
    have K := K.keep0 T
    refine CW_seq ?_
    refine CW_reg rfl ?_
    refine OW_ev (Ev_lss rfl rfl rfl) rfl ?_
    refine OW_nil ?_
    refine CW_seq ?_
    refine CW_cond rfl (fun c1 => ?_) (fun c1 => ?_)
    · have d1 := c1
      first | (with_reducible replace d1 := of_decide_eq_true d1) | (with_reducible replace d1 := bnt d1; try (with_reducible replace d1 := of_decide_eq_false d1)) | skip
      have hk2 : k < j := by omega
      obtain ⟨y, hy, hgy, hry, hmy⟩ := getP (p := p) (j := k) (by omega)
      have Ky := hP.1.at_ hgy
      refine CW_skip ?_
      refine CW_seq ?_
      refine CW_block ?_
      refine CW_seq ?_
      refine CW_reg rfl ?_
      refine OW_ev (Ev_mvi (.inl rfl) rfl) rfl ?_
      refine OW_ev (Ev_mvi (.inr rfl) rfl) rfl ?_
      refine OW_nil ?_
      refine CW_seq ?_
      refine CW_draw (fun W => hP.here W ∧ B0.here W ∧ B1.here W ∧ BA.here W ∧ K.here W ∧ Ky.here W) mixed rfl (fun _ _ _ h => nomatch h.1) ?_
      have E2 : Kp0 _ _ := Kp.drew wr nob
      have Z2 : (World.drew wr).heap.size = wr.heap.size := rfl
      generalize World.drew wr = w2 at E2 Z2 ⊢
      have T := T.keep0 E2
      have hP := hP.keep0 E2
      have B0 := B0.keep0 E2
      have B1 := B1.keep0 E2
      have BA := BA.keep0 E2
      have K := K.keep0 E2
      have Ky := Ky.keep0 E2
      refine AW_take 0 rfl rfl (by decide +kernel) (by decide +kernel) (by decide +kernel) (fun w ⟨hP, B0, B1, BA, K, Ky⟩ => Ev_fieldAddr fld_51_1 rfl rfl) ⟨hP, B0, B1, BA, K, Ky⟩ ?_
      refine AW_take 1 rfl rfl (by decide +kernel) (by decide +kernel) (by decide +kernel) (fun w ⟨hP, B0, B1, BA, K, Ky⟩ => Ev_load one_47 rfl rfl (B0.ld (q := 1) rfl)) ⟨hP, B0, B1, BA, K, Ky⟩ ?_
      refine AW_take 2 rfl rfl (by decide +kernel) (by decide +kernel) (by decide +kernel) (fun w ⟨hP, B0, B1, BA, K, Ky⟩ => Ev_mvi (.inl rfl) rfl) ⟨hP, B0, B1, BA, K, Ky⟩ ?_
      refine AW_take 3 rfl rfl (by decide +kernel) (by decide +kernel) (by decide +kernel) (fun w ⟨hP, B0, B1, BA, K, Ky⟩ => Ev_idx k (hP.1.ad hgy) sl_47 rfl rfl rfl rfl (by omega)) ⟨hP, B0, B1, BA, K, Ky⟩ ?_
      refine AW_take 4 rfl rfl (by decide +kernel) (by decide +kernel) (by decide +kernel) (fun w ⟨hP, B0, B1, BA, K, Ky⟩ => Ev_loadAgg (l := [.int _ _, .int _ _, .int _ _, .slice _ _ _, .int _ _, .int _ _]) agg_65 rfl rfl (Ky.sub 0 rfl) rfl) ⟨hP, B0, B1, BA, K, Ky⟩ ?_
      refine AW_take 5 rfl rfl (by decide +kernel) (by decide +kernel) (by decide +kernel) (fun w ⟨hP, B0, B1, BA, K, Ky⟩ => Ev_fieldAddr fld_51_1 rfl rfl) ⟨hP, B0, B1, BA, K, Ky⟩ ?_
      refine AW_take 6 rfl rfl (by decide +kernel) (by decide +kernel) (by decide +kernel) (fun w ⟨hP, B0, B1, BA, K, Ky⟩ => Ev_load one_47 rfl rfl (B0.ld (q := 1) rfl)) ⟨hP, B0, B1, BA, K, Ky⟩ ?_
      refine AW_take 7 rfl rfl (by decide +kernel) (by decide +kernel) (by decide +kernel) (fun w ⟨hP, B0, B1, BA, K, Ky⟩ => Ev_load one_82 rfl rfl (B1.ld (q := 0) rfl)) ⟨hP, B0, B1, BA, K, Ky⟩ ?_
      refine AW_take 8 rfl rfl (by decide +kernel) (by decide +kernel) (by decide +kernel) (fun w ⟨hP, B0, B1, BA, K, Ky⟩ => Ev_nilCheck rfl rfl) ⟨hP, B0, B1, BA, K, Ky⟩ ?_
      refine AW_take 9 rfl rfl (by decide +kernel) (by decide +kernel) (by decide +kernel) (fun w ⟨hP, B0, B1, BA, K, Ky⟩ => Ev_load one_3 rfl rfl (BA.ld (q := 0) rfl)) ⟨hP, B0, B1, BA, K, Ky⟩ ?_
      refine AW_take 10 rfl rfl (by decide +kernel) (by decide +kernel) (by decide +kernel) (fun w ⟨hP, B0, B1, BA, K, Ky⟩ => Ev_idx j (hP.1.ad hget) sl_47 rfl rfl rfl rfl hjl) ⟨hP, B0, B1, BA, K, Ky⟩ ?_
      refine AW_take 11 rfl rfl (by decide +kernel) (by decide +kernel) (by decide +kernel) (fun w ⟨hP, B0, B1, BA, K, Ky⟩ => Ev_loadAgg (l := [.int _ _, .int _ _, .int _ _, .slice _ _ _, .int _ _, .int _ _]) agg_65 rfl rfl (K.sub 0 rfl) rfl) ⟨hP, B0, B1, BA, K, Ky⟩ ?_
      refine AW_one 12 (by decide +kernel) (Next.mk rfl rfl ?_)
      refine Stp_call ent_52 rfl rfl rfl (apart_c _ y m (hP.2.2.2.1 y hmy).1 hok) ?_
      rintro _ w3 ⟨E3, rfl⟩
      have Z3 := E3.size
      have T := T.keep0 E3
      have hP := hP.keep0 E3
      have B0 := B0.keep0 E3
      have B1 := B1.keep0 E3
      have BA := BA.keep0 E3
      have K := K.keep0 E3
      have Ky := Ky.keep0 E3
      refine ⟨⟨hP, B0, B1, BA, K, Ky⟩, ?_⟩
      refine AW_take 13 rfl rfl (by decide +kernel) (by decide +kernel) (by decide +kernel) (fun w ⟨hP, B0, B1, BA, K, Ky⟩ => Ev_not rfl rfl) ⟨hP, B0, B1, BA, K, Ky⟩ ?_
      refine AW_done (by decide +kernel) ?_
      refine CW_cond rfl (fun c4 => ?_) (fun c4 => ?_)
      · have d4 := c4
        first | (with_reducible replace d4 := of_decide_eq_true d4) | (with_reducible replace d4 := bnt d4; try (with_reducible replace d4 := of_decide_eq_false d4)) | skip
        have hap : apart y.r m.r = false := by first | exact d4 | simpa using c4
        refine CW_seq ?_
        refine CW_re [(0, _), (1, _), (6, .int _ _), (7, .int _ _)] ⟨rfl, rfl, rfl, rfl, trivial⟩ (fun g => ?_)
        refine CW_reg rfl ?_
        refine OW_ev (Ev_c (.inr rfl)) rfl ?_
        refine OW_nil ?_
        refine CW_ret ?_
        refine blk_ret ?_
        refine blk_ret ?_
        refine ⟨rfl, _, (.tmp rfl .nil), ?_⟩
        exact ⟨T, vb rfl (by unfold bad2; symm; rw [List.any_eq_true]; exact ⟨y.r, List.mem_of_getElem? (i := k) (by rw [List.getElem?_take, if_pos hk2]; exact hry), by rw [hap]; rfl⟩)⟩
      · have d4 := c4
        first | (with_reducible replace d4 := of_decide_eq_false d4) | (with_reducible replace d4 := bnf d4; try (with_reducible replace d4 := of_decide_eq_true d4)) | skip
        have hap : apart y.r m.r = true := by first | exact d4 | simpa using c4
        refine CW_skip ?_
        refine CW_re [(0, _), (1, _), (6, .int _ _), (7, .int _ _)] ⟨rfl, rfl, rfl, rfl, trivial⟩ (fun g => ?_)
        refine CW_reg rfl ?_
        refine OW_ev (Ev_add rfl rfl rfl (by first | (apply IntWalk.i64_in; omega) | (apply IntWalk.u64_in; omega) | (apply IntWalk.u32_in; omega) | (apply IntWalk.u8_in; omega) | (apply IntWalk.i32_in; omega) | rfl)) rfl ?_
        refine OW_ev (Ev_mvi (.inl rfl) rfl) rfl ?_
        refine OW_nil ?_
        exact ⟨k + 1, by omega, ⟨rfl, rfl, rfl, congrArg (Value.int .i64) (by omega), trivial⟩, by omega, fun i hi z hz => by by_cases e : i = k; (subst e; rw [hy] at hz; cases hz; exact hap); exact hno i (by omega) z hz, T⟩
    · have d1 := c1
      first | (with_reducible replace d1 := of_decide_eq_false d1) | (with_reducible replace d1 := bnf d1; try (with_reducible replace d1 := of_decide_eq_true d1)) | skip
      have hkj : k = j := by omega
      refine CW_exit ?_
      refine blk_same ?_
      refine CW_seq ?_
      refine CW_reg rfl ?_
      refine OW_ev (Ev_c (.inr rfl)) rfl ?_
      refine OW_nil ?_
      refine CW_ret ?_
      refine ⟨rfl, _, (.tmp rfl .nil), ?_⟩
      exact ⟨T, vb rfl (by unfold bad2; symm; rw [List.any_eq_false]; intro z hz; obtain ⟨i, hi⟩ := List.mem_iff_getElem?.1 hz; rw [List.getElem?_take] at hi; split at hi; (rw [List.getElem?_map] at hi; cases hq : p.ps[i]? with | none => (rw [hq] at hi; cases hi) | some u => (rw [hq] at hi; cases hi; simp [hno i (by omega) u hq])); cases hi)⟩

set_option maxRecDepth 10000 in
set_option maxHeartbeats 2000000 in
theorem part3_c {F : Nat → Prop} {w : World} {p : PlnM} {b0 b1 bat j : Nat} (hP : PlnS F w p) (B0 : Blk w b0 51 p.cl) (B1 : Blk w b1 82 [.pointer (some ⟨bat, 0, none⟩)]) (BA : Blk w bat 3 [.int .i64 (j : Int)]) {m : PrtM} (hm : p.ps[j]? = some m) : Calls Try.prog 53 #[.pointer (some ⟨b0, 0, none⟩), .pointer (some ⟨b1, 0, none⟩)] w (Ret fun v w' => Kp0 w w' ∧ v = .bool (bad3 m.r)) := by
  have hP := hP.old
  have h0l := B0.lt
  have h1l := B1.lt
  have hal := BA.lt
  have hget : (p.ps.map PrtM.cl)[j]? = some m.cl := by rw [List.getElem?_map, hm]; rfl
  have hjl := (List.getElem?_eq_some_iff.1 hm).1
  have K := hP.1.at_ hget
  have hKb := (hP.1.2 (Sl.ne hget)).2.2.1
  have hok := (hP.2.2.2.1 m (List.mem_of_getElem? hm)).1
  have T : Kp0 w w := Kp.refl _ _
  refine calls_start Try.func53 rfl (n := 28) rfl rfl rfl ?_
  refine CW_seq ?_
  refine CW_reg rfl ?_
  refine OW_ev (Ev_c (.inr rfl)) rfl ?_
  refine OW_nil ?_
  refine CW_seq ?_
  refine CW_draw (fun W => hP.here W ∧ B0.here W ∧ B1.here W ∧ BA.here W ∧ K.here W) mixed rfl (fun _ _ _ h => nomatch h.1) ?_
  have E1 : Kp0 _ _ := Kp.drew w nob
  have Z1 : (World.drew w).heap.size = w.heap.size := rfl
  generalize World.drew w = w1 at E1 Z1 ⊢
  have hP := hP.keep0 E1
  have B0 := B0.keep0 E1
  have B1 := B1.keep0 E1
  have BA := BA.keep0 E1
  have K := K.keep0 E1
  have T := T.keep0 E1
  refine AW_take 0 rfl rfl (by decide +kernel) (by decide +kernel) (by decide +kernel) (fun w ⟨hP, B0, B1, BA, K⟩ => Ev_fieldAddr fld_51_1 rfl rfl) ⟨hP, B0, B1, BA, K⟩ ?_
  refine AW_take 1 rfl rfl (by decide +kernel) (by decide +kernel) (by decide +kernel) (fun w ⟨hP, B0, B1, BA, K⟩ => Ev_load one_47 rfl rfl (B0.ld (q := 1) rfl)) ⟨hP, B0, B1, BA, K⟩ ?_
  refine AW_take 2 rfl rfl (by decide +kernel) (by decide +kernel) (by decide +kernel) (fun w ⟨hP, B0, B1, BA, K⟩ => Ev_load one_82 rfl rfl (B1.ld (q := 0) rfl)) ⟨hP, B0, B1, BA, K⟩ ?_
  refine AW_take 3 rfl rfl (by decide +kernel) (by decide +kernel) (by decide +kernel) (fun w ⟨hP, B0, B1, BA, K⟩ => Ev_nilCheck rfl rfl) ⟨hP, B0, B1, BA, K⟩ ?_
  refine AW_take 4 rfl rfl (by decide +kernel) (by decide +kernel) (by decide +kernel) (fun w ⟨hP, B0, B1, BA, K⟩ => Ev_load one_3 rfl rfl (BA.ld (q := 0) rfl)) ⟨hP, B0, B1, BA, K⟩ ?_
  refine AW_take 5 rfl rfl (by decide +kernel) (by decide +kernel) (by decide +kernel) (fun w ⟨hP, B0, B1, BA, K⟩ => Ev_idx j (hP.1.ad hget) sl_47 rfl rfl rfl rfl hjl) ⟨hP, B0, B1, BA, K⟩ ?_
  refine AW_take 6 rfl rfl (by decide +kernel) (by decide +kernel) (by decide +kernel) (fun w ⟨hP, B0, B1, BA, K⟩ => Ev_loadAgg (l := [.int _ _, .int _ _, .int _ _, .slice _ _ _, .int _ _, .int _ _]) agg_65 rfl rfl (K.sub 0 rfl) rfl) ⟨hP, B0, B1, BA, K⟩ ?_
  refine AW_one 7 (by decide +kernel) (Next.mk rfl rfl ?_)
  refine Stp_alloc zero_65 rfl ?_
  intro b2 w2 hb2 hz2 E2 B2
  have L2 : _ ≤ b2 := Nat.le_trans T.size (Nat.le_of_eq hb2.symm)
  have hP := hP.keep0 E2
  have B0 := B0.keep0 E2
  have B1 := B1.keep0 E2
  have BA := BA.keep0 E2
  have K := K.keep0 E2
  have T := T.keep0 E2
  refine ⟨⟨hP, B0, B1, BA, K⟩, ?_⟩
  refine AW_one 8 (by decide +kernel) (Next.mk rfl rfl ?_)
  refine Stp_store (q := 0) (vs := [.int _ _, .int _ _, .int _ _, .slice _ _ _, .int _ _, .int _ _]) B2 siz_65 rfl rfl rfl rfl (Nat.le_of_ble_eq_true rfl) rfl ?_
  intro w3 hz3 E3 B3
  have Z3 := E3.size
  have hP := hP.keepb E3 (by intro h; first | omega | (change _ < _ at h; omega) | (change _ ≤ _ at h; omega) | (have h1 := h.1; have h2 := h.2; first | omega | (change _ ≤ _ at h1; omega) | (change _ < _ at h1; omega)))
  have B0 := B0.keepb E3 (by intro h; first | omega | (change _ < _ at h; omega) | (change _ ≤ _ at h; omega) | (have h1 := h.1; have h2 := h.2; first | omega | (change _ ≤ _ at h1; omega) | (change _ < _ at h1; omega)))
  have B1 := B1.keepb E3 (by intro h; first | omega | (change _ < _ at h; omega) | (change _ ≤ _ at h; omega) | (have h1 := h.1; have h2 := h.2; first | omega | (change _ ≤ _ at h1; omega) | (change _ < _ at h1; omega)))
  have BA := BA.keepb E3 (by intro h; first | omega | (change _ < _ at h; omega) | (change _ ≤ _ at h; omega) | (have h1 := h.1; have h2 := h.2; first | omega | (change _ ≤ _ at h1; omega) | (change _ < _ at h1; omega)))
  have K := K.keepb E3 (by intro h; first | omega | (change _ < _ at h; omega) | (change _ ≤ _ at h; omega) | (have h1 := h.1; have h2 := h.2; first | omega | (change _ ≤ _ at h1; omega) | (change _ < _ at h1; omega)))
  have T := T.transb E3 (by omega)
  clear B2
  have B2 : Blk _ _ _ [_, _, _, _, _, _] := B3
  clear B3
  refine ⟨⟨hP, B0, B1, BA, K⟩, ?_⟩
  refine AW_done (by decide +kernel) ?_
  refine CW_seq ?_
  refine CW_reg rfl ?_
  refine OW_ev (Ev_fieldAddr fld_65_2 rfl rfl) rfl ?_
  refine OW_ev (Ev_load one_3 rfl rfl (B2.ld (q := 2) rfl)) rfl ?_
  refine OW_st rfl (Stp_call ent_49 rfl rfl rfl (cwithin_c _ _ _ _) ?_)
  rintro _ w4 ⟨E4, rfl⟩
  have Z4 := E4.size
  have hP := hP.keep0 E4
  have B0 := B0.keep0 E4
  have B1 := B1.keep0 E4
  have BA := BA.keep0 E4
  have K := K.keep0 E4
  have T := T.keep0 E4
  have B2 := B2.keep0 E4
  refine OW_ev (Ev_not rfl rfl) rfl ?_
  refine OW_ev (Ev_mvb (.inl rfl) rfl) rfl ?_
  refine OW_split (d := .tmp 15) rfl (fun c5 => ?_) (fun c5 => ?_)
  · have d5 := c5
    first | (with_reducible replace d5 := of_decide_eq_true d5) | (with_reducible replace d5 := bnt d5; try (with_reducible replace d5 := of_decide_eq_false d5)) | skip
    refine OW_no rfl rfl rfl rfl c5 ?_
    refine OW_no rfl rfl rfl rfl c5 ?_
    refine OW_no rfl rfl rfl rfl c5 ?_
    refine OW_no rfl rfl rfl rfl c5 ?_
    refine OW_no rfl rfl rfl rfl c5 ?_
    refine OW_ev (Ev_pickb_t rfl rfl c5 rfl) rfl ?_
    refine OW_ev (Ev_mvb (.inl rfl) rfl) rfl ?_
    refine OW_no rfl rfl rfl rfl rfl ?_
    refine OW_no rfl rfl rfl rfl rfl ?_
    refine OW_no rfl rfl rfl rfl rfl ?_
    refine OW_no rfl rfl rfl rfl rfl ?_
    refine OW_ev (Ev_pickb_t rfl rfl rfl rfl) rfl ?_
    refine OW_ev (Ev_mvb (.inr rfl) rfl) rfl ?_
    refine OW_nil ?_
    refine CW_ret ?_
    refine ⟨rfl, _, (.tmp rfl .nil), ?_⟩
    exact ⟨T, vb rfl (by unfold bad3; first | exact nd (by omega) | exact decide_eq_decide.2 (by omega) | exact (decide_eq_true (by omega)).symm | exact (decide_eq_false (by omega)).symm)⟩
  · have d5 := c5
    first | (with_reducible replace d5 := of_decide_eq_false d5) | (with_reducible replace d5 := bnf d5; try (with_reducible replace d5 := of_decide_eq_true d5)) | skip
    refine OW_yes rfl rfl rfl rfl c5 (Ev.stp (Ev_fieldAddr fld_65_3 rfl rfl) ?_)
    refine OW_yes rfl rfl rfl rfl c5 (Ev.stp (Ev_load one_63 rfl rfl (B2.ld (q := 3) rfl)) ?_)
    refine OW_yes rfl rfl rfl rfl c5 (Ev.stp (Ev_len und_63 rfl rfl) ?_)
    refine OW_yes rfl rfl rfl rfl c5 (Stp_call ent_49 rfl rfl rfl (cwithin_c _ _ _ _) ?_)
    rintro _ w6 ⟨E6, rfl⟩
    have Z6 := E6.size
    have hP := hP.keep0 E6
    have B0 := B0.keep0 E6
    have B1 := B1.keep0 E6
    have BA := BA.keep0 E6
    have K := K.keep0 E6
    have T := T.keep0 E6
    have B2 := B2.keep0 E6
    refine OW_yes rfl rfl rfl rfl c5 (Ev.stp (Ev_not rfl rfl) ?_)
    refine OW_ev (Ev_pickb_f rfl rfl c5 rfl) rfl ?_
    refine OW_ev (Ev_mvb (.inl rfl) rfl) rfl ?_
    refine OW_split (d := .tmp 22) rfl (fun c7 => ?_) (fun c7 => ?_)
    · have d7 := c7
      first | (with_reducible replace d7 := of_decide_eq_true d7) | (with_reducible replace d7 := bnt d7; try (with_reducible replace d7 := of_decide_eq_false d7)) | skip
      refine OW_no rfl rfl rfl rfl c7 ?_
      refine OW_no rfl rfl rfl rfl c7 ?_
      refine OW_no rfl rfl rfl rfl c7 ?_
      refine OW_no rfl rfl rfl rfl c7 ?_
      refine OW_ev (Ev_pickb_t rfl rfl c7 rfl) rfl ?_
      refine OW_ev (Ev_mvb (.inr rfl) rfl) rfl ?_
      refine OW_nil ?_
      refine CW_ret ?_
      refine ⟨rfl, _, (.tmp rfl .nil), ?_⟩
      exact ⟨T, vb rfl (by unfold bad3; first | exact nd (by omega) | exact decide_eq_decide.2 (by omega) | exact (decide_eq_true (by omega)).symm | exact (decide_eq_false (by omega)).symm)⟩
    · have d7 := c7
      first | (with_reducible replace d7 := of_decide_eq_false d7) | (with_reducible replace d7 := bnf d7; try (with_reducible replace d7 := of_decide_eq_true d7)) | skip
      refine OW_yes rfl rfl rfl rfl c7 (Ev.stp (Ev_fieldAddr fld_65_5 rfl rfl) ?_)
      refine OW_yes rfl rfl rfl rfl c7 (Ev.stp (Ev_load one_3 rfl rfl (B2.ld (q := 5) rfl)) ?_)
      refine OW_yes rfl rfl rfl rfl c7 (Stp_call ent_49 rfl rfl rfl (cwithin_c _ _ _ _) ?_)
      rintro _ w8 ⟨E8, rfl⟩
      have Z8 := E8.size
      have hP := hP.keep0 E8
      have B0 := B0.keep0 E8
      have B1 := B1.keep0 E8
      have BA := BA.keep0 E8
      have K := K.keep0 E8
      have T := T.keep0 E8
      have B2 := B2.keep0 E8
      refine OW_yes rfl rfl rfl rfl c7 (Ev.stp (Ev_not rfl rfl) ?_)
      refine OW_ev (Ev_pickb_f rfl rfl c7 rfl) rfl ?_
      refine OW_ev (Ev_mvb (.inr rfl) rfl) rfl ?_
      refine OW_nil ?_
      refine CW_ret ?_
      refine ⟨rfl, _, (.tmp rfl .nil), ?_⟩
      exact ⟨T, vb rfl (by unfold bad3; first | exact nd (by omega) | exact decide_eq_decide.2 (by omega) | exact (decide_eq_true (by omega)).symm | exact (decide_eq_false (by omega)).symm)⟩

set_option maxRecDepth 10000 in
set_option maxHeartbeats 2000000 in
theorem part4_c {F : Nat → Prop} {w : World} {p : PlnM} {b0 b1 bat j : Nat} (hP : PlnS F w p) (B0 : Blk w b0 51 p.cl) (B1 : Blk w b1 82 [.pointer (some ⟨bat, 0, none⟩)]) (BA : Blk w bat 3 [.int .i64 (j : Int)]) {m : PrtM} (hm : p.ps[j]? = some m) : Calls Try.prog 54 #[.pointer (some ⟨b0, 0, none⟩), .pointer (some ⟨b1, 0, none⟩)] w (Ret fun v w' => Kp0 w w' ∧ v = .bool (bad4 m.r)) := by
  have hP := hP.old
  have h0l := B0.lt
  have h1l := B1.lt
  have hal := BA.lt
  have hget : (p.ps.map PrtM.cl)[j]? = some m.cl := by rw [List.getElem?_map, hm]; rfl
  have hjl := (List.getElem?_eq_some_iff.1 hm).1
  have K := hP.1.at_ hget
  have hKb := (hP.1.2 (Sl.ne hget)).2.2.1
  have hok := (hP.2.2.2.1 m (List.mem_of_getElem? hm)).1
  have T : Kp0 w w := Kp.refl _ _
  refine calls_start Try.func54 rfl (n := 13) rfl rfl rfl ?_
  refine CW_seq ?_
  refine CW_reg rfl ?_
  refine OW_ev (Ev_c (.inr rfl)) rfl ?_
  refine OW_nil ?_
  refine CW_seq ?_
  refine CW_draw (fun W => hP.here W ∧ B0.here W ∧ B1.here W ∧ BA.here W ∧ K.here W) mixed rfl (fun _ _ _ h => nomatch h.1) ?_
  have E1 : Kp0 _ _ := Kp.drew w nob
  have Z1 : (World.drew w).heap.size = w.heap.size := rfl
  generalize World.drew w = w1 at E1 Z1 ⊢
  have hP := hP.keep0 E1
  have B0 := B0.keep0 E1
  have B1 := B1.keep0 E1
  have BA := BA.keep0 E1
  have K := K.keep0 E1
  have T := T.keep0 E1
  refine AW_take 0 rfl rfl (by decide +kernel) (by decide +kernel) (by decide +kernel) (fun w ⟨hP, B0, B1, BA, K⟩ => Ev_fieldAddr fld_51_1 rfl rfl) ⟨hP, B0, B1, BA, K⟩ ?_
  refine AW_take 1 rfl rfl (by decide +kernel) (by decide +kernel) (by decide +kernel) (fun w ⟨hP, B0, B1, BA, K⟩ => Ev_load one_47 rfl rfl (B0.ld (q := 1) rfl)) ⟨hP, B0, B1, BA, K⟩ ?_
  refine AW_take 2 rfl rfl (by decide +kernel) (by decide +kernel) (by decide +kernel) (fun w ⟨hP, B0, B1, BA, K⟩ => Ev_load one_82 rfl rfl (B1.ld (q := 0) rfl)) ⟨hP, B0, B1, BA, K⟩ ?_
  refine AW_take 3 rfl rfl (by decide +kernel) (by decide +kernel) (by decide +kernel) (fun w ⟨hP, B0, B1, BA, K⟩ => Ev_nilCheck rfl rfl) ⟨hP, B0, B1, BA, K⟩ ?_
  refine AW_take 4 rfl rfl (by decide +kernel) (by decide +kernel) (by decide +kernel) (fun w ⟨hP, B0, B1, BA, K⟩ => Ev_load one_3 rfl rfl (BA.ld (q := 0) rfl)) ⟨hP, B0, B1, BA, K⟩ ?_
  refine AW_take 5 rfl rfl (by decide +kernel) (by decide +kernel) (by decide +kernel) (fun w ⟨hP, B0, B1, BA, K⟩ => Ev_idx j (hP.1.ad hget) sl_47 rfl rfl rfl rfl hjl) ⟨hP, B0, B1, BA, K⟩ ?_
  refine AW_take 6 rfl rfl (by decide +kernel) (by decide +kernel) (by decide +kernel) (fun w ⟨hP, B0, B1, BA, K⟩ => Ev_fieldAddr fld_65_4 rfl rfl) ⟨hP, B0, B1, BA, K⟩ ?_
  refine AW_take 7 rfl rfl (by decide +kernel) (by decide +kernel) (by decide +kernel) (fun w ⟨hP, B0, B1, BA, K⟩ => Ev_load one_3 rfl rfl (K.one 4 rfl)) ⟨hP, B0, B1, BA, K⟩ ?_
  refine AW_one 8 (by decide +kernel) (Next.mk rfl rfl ?_)
  refine Stp_call ent_49 rfl rfl rfl (cwithin_c _ _ _ _) ?_
  rintro _ w2 ⟨E2, rfl⟩
  have Z2 := E2.size
  have hP := hP.keep0 E2
  have B0 := B0.keep0 E2
  have B1 := B1.keep0 E2
  have BA := BA.keep0 E2
  have K := K.keep0 E2
  have T := T.keep0 E2
  refine ⟨⟨hP, B0, B1, BA, K⟩, ?_⟩
  refine AW_take 9 rfl rfl (by decide +kernel) (by decide +kernel) (by decide +kernel) (fun w ⟨hP, B0, B1, BA, K⟩ => Ev_not rfl rfl) ⟨hP, B0, B1, BA, K⟩ ?_
  refine AW_take 10 rfl rfl (by decide +kernel) (by decide +kernel) (by decide +kernel) (fun w ⟨hP, B0, B1, BA, K⟩ => Ev_mvb (.inr rfl) rfl) ⟨hP, B0, B1, BA, K⟩ ?_
  refine AW_done (by decide +kernel) ?_
  refine CW_ret ?_
  refine ⟨rfl, _, (.tmp rfl .nil), ?_⟩
  exact ⟨T, vb rfl (by unfold bad4; first | exact nd (by omega) | exact decide_eq_decide.2 (by omega) | exact (decide_eq_true (by omega)).symm | exact (decide_eq_false (by omega)).symm)⟩

set_option maxRecDepth 10000 in
set_option maxHeartbeats 2000000 in
theorem winr1_c {F : Nat → Prop} {w : World} {p : PlnM} {b0 b1 bat j : Nat} (hP : PlnS F w p) (B0 : Blk w b0 51 p.cl) (B1 : Blk w b1 82 [.pointer (some ⟨bat, 0, none⟩)]) (BA : Blk w bat 3 [.int .i64 (j : Int)]) {x : Int × Int} (hm : p.ws[j]? = some x) (hl : p.ps.length ≤ 1000000) : Calls Try.prog 55 #[.pointer (some ⟨b0, 0, none⟩), .pointer (some ⟨b1, 0, none⟩)] w (Ret fun v w' => Kp0 w w' ∧ v = .bool (win1 p.ps.length x)) := by
  have hP := hP.old
  have h0l := B0.lt
  have h1l := B1.lt
  have hal := BA.lt
  have hget : (p.ws.map I2)[j]? = some (I2 x) := by rw [List.getElem?_map, hm]; rfl
  have hjl := (List.getElem?_eq_some_iff.1 hm).1
  have K := hP.2.1.at_ hget
  have T : Kp0 w w := Kp.refl _ _
  refine calls_start Try.func55 rfl (n := 17) rfl rfl rfl ?_
  refine CW_seq ?_
  refine CW_reg rfl ?_
  refine OW_ev (Ev_c (.inr rfl)) rfl ?_
  refine OW_nil ?_
  refine CW_seq ?_
  refine CW_draw (fun W => hP.here W ∧ B0.here W ∧ B1.here W ∧ BA.here W ∧ K.here W) mixed rfl (fun _ _ _ h => nomatch h.1) ?_
  have E1 : Kp0 _ _ := Kp.drew w nob
  have Z1 : (World.drew w).heap.size = w.heap.size := rfl
  generalize World.drew w = w1 at E1 Z1 ⊢
  have hP := hP.keep0 E1
  have B0 := B0.keep0 E1
  have B1 := B1.keep0 E1
  have BA := BA.keep0 E1
  have K := K.keep0 E1
  have T := T.keep0 E1
  refine AW_take 0 rfl rfl (by decide +kernel) (by decide +kernel) (by decide +kernel) (fun w ⟨hP, B0, B1, BA, K⟩ => Ev_fieldAddr fld_51_2 rfl rfl) ⟨hP, B0, B1, BA, K⟩ ?_
  refine AW_take 1 rfl rfl (by decide +kernel) (by decide +kernel) (by decide +kernel) (fun w ⟨hP, B0, B1, BA, K⟩ => Ev_load one_48 rfl rfl (B0.ld (q := 2) rfl)) ⟨hP, B0, B1, BA, K⟩ ?_
  refine AW_take 2 rfl rfl (by decide +kernel) (by decide +kernel) (by decide +kernel) (fun w ⟨hP, B0, B1, BA, K⟩ => Ev_load one_82 rfl rfl (B1.ld (q := 0) rfl)) ⟨hP, B0, B1, BA, K⟩ ?_
  refine AW_take 3 rfl rfl (by decide +kernel) (by decide +kernel) (by decide +kernel) (fun w ⟨hP, B0, B1, BA, K⟩ => Ev_nilCheck rfl rfl) ⟨hP, B0, B1, BA, K⟩ ?_
  refine AW_take 4 rfl rfl (by decide +kernel) (by decide +kernel) (by decide +kernel) (fun w ⟨hP, B0, B1, BA, K⟩ => Ev_load one_3 rfl rfl (BA.ld (q := 0) rfl)) ⟨hP, B0, B1, BA, K⟩ ?_
  refine AW_take 5 rfl rfl (by decide +kernel) (by decide +kernel) (by decide +kernel) (fun w ⟨hP, B0, B1, BA, K⟩ => Ev_idx j (hP.2.1.ad hget) sl_48 rfl rfl rfl rfl hjl) ⟨hP, B0, B1, BA, K⟩ ?_
  refine AW_take 6 rfl rfl (by decide +kernel) (by decide +kernel) (by decide +kernel) (fun w ⟨hP, B0, B1, BA, K⟩ => Ev_fieldAddr fld_88_0 rfl rfl) ⟨hP, B0, B1, BA, K⟩ ?_
  refine AW_take 7 rfl rfl (by decide +kernel) (by decide +kernel) (by decide +kernel) (fun w ⟨hP, B0, B1, BA, K⟩ => Ev_load one_3 rfl rfl (K.one 0 rfl)) ⟨hP, B0, B1, BA, K⟩ ?_
  refine AW_take 8 rfl rfl (by decide +kernel) (by decide +kernel) (by decide +kernel) (fun w ⟨hP, B0, B1, BA, K⟩ => Ev_fieldAddr fld_51_1 rfl rfl) ⟨hP, B0, B1, BA, K⟩ ?_
  refine AW_take 9 rfl rfl (by decide +kernel) (by decide +kernel) (by decide +kernel) (fun w ⟨hP, B0, B1, BA, K⟩ => Ev_load one_47 rfl rfl (B0.ld (q := 1) rfl)) ⟨hP, B0, B1, BA, K⟩ ?_
  refine AW_take 10 rfl rfl (by decide +kernel) (by decide +kernel) (by decide +kernel) (fun w ⟨hP, B0, B1, BA, K⟩ => Ev_len und_47 rfl rfl) ⟨hP, B0, B1, BA, K⟩ ?_
  refine AW_take 11 rfl rfl (by decide +kernel) (by decide +kernel) (by decide +kernel) (fun w ⟨hP, B0, B1, BA, K⟩ => Ev_sub rfl rfl rfl (by first | (apply IntWalk.i64_in; omega) | (apply IntWalk.u64_in; omega) | (apply IntWalk.u32_in; omega) | (apply IntWalk.u8_in; omega) | (apply IntWalk.i32_in; omega) | rfl)) ⟨hP, B0, B1, BA, K⟩ ?_
  refine AW_one 12 (by decide +kernel) (Next.mk rfl rfl ?_)
  refine Stp_call ent_49 rfl rfl rfl (cwithin_c _ _ _ _) ?_
  rintro _ w2 ⟨E2, rfl⟩
  have Z2 := E2.size
  have hP := hP.keep0 E2
  have B0 := B0.keep0 E2
  have B1 := B1.keep0 E2
  have BA := BA.keep0 E2
  have K := K.keep0 E2
  have T := T.keep0 E2
  refine ⟨⟨hP, B0, B1, BA, K⟩, ?_⟩
  refine AW_take 13 rfl rfl (by decide +kernel) (by decide +kernel) (by decide +kernel) (fun w ⟨hP, B0, B1, BA, K⟩ => Ev_not rfl rfl) ⟨hP, B0, B1, BA, K⟩ ?_
  refine AW_take 14 rfl rfl (by decide +kernel) (by decide +kernel) (by decide +kernel) (fun w ⟨hP, B0, B1, BA, K⟩ => Ev_mvb (.inr rfl) rfl) ⟨hP, B0, B1, BA, K⟩ ?_
  refine AW_done (by decide +kernel) ?_
  refine CW_ret ?_
  refine ⟨rfl, _, (.tmp rfl .nil), ?_⟩
  exact ⟨T, vb rfl (by unfold win1; first | exact nd (by omega) | exact decide_eq_decide.2 (by omega) | exact (decide_eq_true (by omega)).symm | exact (decide_eq_false (by omega)).symm)⟩

set_option maxRecDepth 10000 in
set_option maxHeartbeats 2000000 in
theorem winr2_c {F : Nat → Prop} {w : World} {p : PlnM} {b0 b1 bat j : Nat} (hP : PlnS F w p) (B0 : Blk w b0 51 p.cl) (B1 : Blk w b1 82 [.pointer (some ⟨bat, 0, none⟩)]) (BA : Blk w bat 3 [.int .i64 (j : Int)]) {x : Int × Int} (hm : p.ws[j]? = some x) : Calls Try.prog 56 #[.pointer (some ⟨b0, 0, none⟩), .pointer (some ⟨b1, 0, none⟩)] w (Ret fun v w' => Kp0 w w' ∧ v = .bool (win2 x)) := by
  have hP := hP.old
  have h0l := B0.lt
  have h1l := B1.lt
  have hal := BA.lt
  have hget : (p.ws.map I2)[j]? = some (I2 x) := by rw [List.getElem?_map, hm]; rfl
  have hjl := (List.getElem?_eq_some_iff.1 hm).1
  have K := hP.2.1.at_ hget
  have T : Kp0 w w := Kp.refl _ _
  refine calls_start Try.func56 rfl (n := 13) rfl rfl rfl ?_
  refine CW_seq ?_
  refine CW_reg rfl ?_
  refine OW_ev (Ev_c (.inr rfl)) rfl ?_
  refine OW_nil ?_
  refine CW_seq ?_
  refine CW_draw (fun W => hP.here W ∧ B0.here W ∧ B1.here W ∧ BA.here W ∧ K.here W) mixed rfl (fun _ _ _ h => nomatch h.1) ?_
  have E1 : Kp0 _ _ := Kp.drew w nob
  have Z1 : (World.drew w).heap.size = w.heap.size := rfl
  generalize World.drew w = w1 at E1 Z1 ⊢
  have hP := hP.keep0 E1
  have B0 := B0.keep0 E1
  have B1 := B1.keep0 E1
  have BA := BA.keep0 E1
  have K := K.keep0 E1
  have T := T.keep0 E1
  refine AW_take 0 rfl rfl (by decide +kernel) (by decide +kernel) (by decide +kernel) (fun w ⟨hP, B0, B1, BA, K⟩ => Ev_fieldAddr fld_51_2 rfl rfl) ⟨hP, B0, B1, BA, K⟩ ?_
  refine AW_take 1 rfl rfl (by decide +kernel) (by decide +kernel) (by decide +kernel) (fun w ⟨hP, B0, B1, BA, K⟩ => Ev_load one_48 rfl rfl (B0.ld (q := 2) rfl)) ⟨hP, B0, B1, BA, K⟩ ?_
  refine AW_take 2 rfl rfl (by decide +kernel) (by decide +kernel) (by decide +kernel) (fun w ⟨hP, B0, B1, BA, K⟩ => Ev_load one_82 rfl rfl (B1.ld (q := 0) rfl)) ⟨hP, B0, B1, BA, K⟩ ?_
  refine AW_take 3 rfl rfl (by decide +kernel) (by decide +kernel) (by decide +kernel) (fun w ⟨hP, B0, B1, BA, K⟩ => Ev_nilCheck rfl rfl) ⟨hP, B0, B1, BA, K⟩ ?_
  refine AW_take 4 rfl rfl (by decide +kernel) (by decide +kernel) (by decide +kernel) (fun w ⟨hP, B0, B1, BA, K⟩ => Ev_load one_3 rfl rfl (BA.ld (q := 0) rfl)) ⟨hP, B0, B1, BA, K⟩ ?_
  refine AW_take 5 rfl rfl (by decide +kernel) (by decide +kernel) (by decide +kernel) (fun w ⟨hP, B0, B1, BA, K⟩ => Ev_idx j (hP.2.1.ad hget) sl_48 rfl rfl rfl rfl hjl) ⟨hP, B0, B1, BA, K⟩ ?_
  refine AW_take 6 rfl rfl (by decide +kernel) (by decide +kernel) (by decide +kernel) (fun w ⟨hP, B0, B1, BA, K⟩ => Ev_fieldAddr fld_88_1 rfl rfl) ⟨hP, B0, B1, BA, K⟩ ?_
  refine AW_take 7 rfl rfl (by decide +kernel) (by decide +kernel) (by decide +kernel) (fun w ⟨hP, B0, B1, BA, K⟩ => Ev_load one_3 rfl rfl (K.one 1 rfl)) ⟨hP, B0, B1, BA, K⟩ ?_
  refine AW_one 8 (by decide +kernel) (Next.mk rfl rfl ?_)
  refine Stp_call ent_49 rfl rfl rfl (cwithin_c _ _ _ _) ?_
  rintro _ w2 ⟨E2, rfl⟩
  have Z2 := E2.size
  have hP := hP.keep0 E2
  have B0 := B0.keep0 E2
  have B1 := B1.keep0 E2
  have BA := BA.keep0 E2
  have K := K.keep0 E2
  have T := T.keep0 E2
  refine ⟨⟨hP, B0, B1, BA, K⟩, ?_⟩
  refine AW_take 9 rfl rfl (by decide +kernel) (by decide +kernel) (by decide +kernel) (fun w ⟨hP, B0, B1, BA, K⟩ => Ev_not rfl rfl) ⟨hP, B0, B1, BA, K⟩ ?_
  refine AW_take 10 rfl rfl (by decide +kernel) (by decide +kernel) (by decide +kernel) (fun w ⟨hP, B0, B1, BA, K⟩ => Ev_mvb (.inr rfl) rfl) ⟨hP, B0, B1, BA, K⟩ ?_
  refine AW_done (by decide +kernel) ?_
  refine CW_ret ?_
  refine ⟨rfl, _, (.tmp rfl .nil), ?_⟩
  exact ⟨T, vb rfl (by unfold win2; first | exact nd (by omega) | exact decide_eq_decide.2 (by omega) | exact (decide_eq_true (by omega)).symm | exact (decide_eq_false (by omega)).symm)⟩

set_option maxRecDepth 10000 in
set_option maxHeartbeats 2000000 in
theorem trace1_c {F : Nat → Prop} {w : World} {p : PlnM} {b0 : Nat} (hP : PlnS F w p) (hl : p.ws.length ≤ 1000000) (B0 : Blk w b0 51 p.cl) : Calls Try.prog 57 #[.pointer (some ⟨b0, 0, none⟩)] w (Ret fun v w' => Kp0 w w' ∧ v = .bool (decide (p.r.drains = 0))) := by
  have T : Kp0 w w := Kp.refl _ _
  refine calls_start Try.func57 rfl (n := 5) rfl rfl rfl ?_
  refine CW_seq ?_
  refine CW_reg rfl ?_
  refine OW_ev (Ev_c (.inr rfl)) rfl ?_
  refine OW_nil ?_
  refine CW_seq ?_
  refine CW_reg rfl ?_
  refine OW_ev (Ev_loadAgg (l := [.int _ _, .slice _ _ _, .slice _ _ _, .slice _ _ _]) agg_51 rfl rfl (B0.sub 0 4 (Nat.le_of_ble_eq_true rfl)) rfl) rfl ?_
  refine OW_st rfl (Stp_call ent_58 rfl rfl rfl (cdrains_c hP hl) ?_)
  rintro _ w1 ⟨E1, rfl⟩
  have Z1 := E1.size
  have B0 := B0.keep0 E1
  have hP := hP.keep0 E1
  have T := T.keep0 E1
  refine OW_ev (Ev_eql rfl rfl rfl) rfl ?_
  refine OW_ev (Ev_mvb (.inr rfl) rfl) rfl ?_
  refine OW_nil ?_
  refine CW_ret ?_
  refine ⟨rfl, _, (.tmp rfl .nil), ?_⟩
  exact ⟨T, rfl⟩

set_option maxRecDepth 10000 in
set_option maxHeartbeats 2000000 in
theorem chan1_c {F : Nat → Prop} {w : World} {p : PlnM} {b0 b1 bat j : Nat} (hP : PlnS F w p) (B0 : Blk w b0 51 p.cl) (B1 : Blk w b1 82 [.pointer (some ⟨bat, 0, none⟩)]) (BA : Blk w bat 3 [.int .i64 (j : Int)]) {x : Chn} (hm : p.cs[j]? = some x) : Calls Try.prog 59 #[.pointer (some ⟨b0, 0, none⟩), .pointer (some ⟨b1, 0, none⟩)] w (Ret fun v w' => Kp0 w w' ∧ v = .bool (ch1 x)) := by
  have hP := hP.old
  have h0l := B0.lt
  have h1l := B1.lt
  have hal := BA.lt
  have hget : (p.cs.map Chn.cells)[j]? = some x.cells := by rw [List.getElem?_map, hm]; rfl
  have hjl := (List.getElem?_eq_some_iff.1 hm).1
  have K := hP.2.2.1.at_ hget
  have hKb := (hP.2.2.1.2 (Sl.ne hget)).2.2.1
  have T : Kp0 w w := Kp.refl _ _
  refine calls_start Try.func59 rfl (n := 13) rfl rfl rfl ?_
  refine CW_seq ?_
  refine CW_reg rfl ?_
  refine OW_ev (Ev_c (.inr rfl)) rfl ?_
  refine OW_nil ?_
  refine CW_seq ?_
  refine CW_draw (fun W => hP.here W ∧ B0.here W ∧ B1.here W ∧ BA.here W ∧ K.here W) mixed rfl (fun _ _ _ h => nomatch h.1) ?_
  have E1 : Kp0 _ _ := Kp.drew w nob
  have Z1 : (World.drew w).heap.size = w.heap.size := rfl
  generalize World.drew w = w1 at E1 Z1 ⊢
  have hP := hP.keep0 E1
  have B0 := B0.keep0 E1
  have B1 := B1.keep0 E1
  have BA := BA.keep0 E1
  have K := K.keep0 E1
  have T := T.keep0 E1
  refine AW_take 0 rfl rfl (by decide +kernel) (by decide +kernel) (by decide +kernel) (fun w ⟨hP, B0, B1, BA, K⟩ => Ev_fieldAddr fld_51_3 rfl rfl) ⟨hP, B0, B1, BA, K⟩ ?_
  refine AW_take 1 rfl rfl (by decide +kernel) (by decide +kernel) (by decide +kernel) (fun w ⟨hP, B0, B1, BA, K⟩ => Ev_load one_49 rfl rfl (B0.ld (q := 3) rfl)) ⟨hP, B0, B1, BA, K⟩ ?_
  refine AW_take 2 rfl rfl (by decide +kernel) (by decide +kernel) (by decide +kernel) (fun w ⟨hP, B0, B1, BA, K⟩ => Ev_load one_82 rfl rfl (B1.ld (q := 0) rfl)) ⟨hP, B0, B1, BA, K⟩ ?_
  refine AW_take 3 rfl rfl (by decide +kernel) (by decide +kernel) (by decide +kernel) (fun w ⟨hP, B0, B1, BA, K⟩ => Ev_nilCheck rfl rfl) ⟨hP, B0, B1, BA, K⟩ ?_
  refine AW_take 4 rfl rfl (by decide +kernel) (by decide +kernel) (by decide +kernel) (fun w ⟨hP, B0, B1, BA, K⟩ => Ev_load one_3 rfl rfl (BA.ld (q := 0) rfl)) ⟨hP, B0, B1, BA, K⟩ ?_
  refine AW_take 5 rfl rfl (by decide +kernel) (by decide +kernel) (by decide +kernel) (fun w ⟨hP, B0, B1, BA, K⟩ => Ev_idx j (hP.2.2.1.ad hget) sl_49 rfl rfl rfl rfl hjl) ⟨hP, B0, B1, BA, K⟩ ?_
  refine AW_take 6 rfl rfl (by decide +kernel) (by decide +kernel) (by decide +kernel) (fun w ⟨hP, B0, B1, BA, K⟩ => Ev_fieldAddr fld_91_0 rfl rfl) ⟨hP, B0, B1, BA, K⟩ ?_
  refine AW_take 7 rfl rfl (by decide +kernel) (by decide +kernel) (by decide +kernel) (fun w ⟨hP, B0, B1, BA, K⟩ => Ev_load one_3 rfl rfl (K.one 0 rfl)) ⟨hP, B0, B1, BA, K⟩ ?_
  refine AW_one 8 (by decide +kernel) (Next.mk rfl rfl ?_)
  refine Stp_call ent_49 rfl rfl rfl (cwithin_c _ _ _ _) ?_
  rintro _ w2 ⟨E2, rfl⟩
  have Z2 := E2.size
  have hP := hP.keep0 E2
  have B0 := B0.keep0 E2
  have B1 := B1.keep0 E2
  have BA := BA.keep0 E2
  have K := K.keep0 E2
  have T := T.keep0 E2
  refine ⟨⟨hP, B0, B1, BA, K⟩, ?_⟩
  refine AW_take 9 rfl rfl (by decide +kernel) (by decide +kernel) (by decide +kernel) (fun w ⟨hP, B0, B1, BA, K⟩ => Ev_not rfl rfl) ⟨hP, B0, B1, BA, K⟩ ?_
  refine AW_take 10 rfl rfl (by decide +kernel) (by decide +kernel) (by decide +kernel) (fun w ⟨hP, B0, B1, BA, K⟩ => Ev_mvb (.inr rfl) rfl) ⟨hP, B0, B1, BA, K⟩ ?_
  refine AW_done (by decide +kernel) ?_
  refine CW_ret ?_
  refine ⟨rfl, _, (.tmp rfl .nil), ?_⟩
  exact ⟨T, vb rfl (by unfold ch1; first | exact nd (by omega) | exact decide_eq_decide.2 (by omega) | exact (decide_eq_true (by omega)).symm | exact (decide_eq_false (by omega)).symm)⟩

set_option maxRecDepth 10000 in
set_option maxHeartbeats 2000000 in
theorem chan2_c {F : Nat → Prop} {w : World} {p : PlnM} {b0 b1 bat j : Nat} (hP : PlnS F w p) (B0 : Blk w b0 51 p.cl) (B1 : Blk w b1 82 [.pointer (some ⟨bat, 0, none⟩)]) (BA : Blk w bat 3 [.int .i64 (j : Int)]) {x : Chn} (hm : p.cs[j]? = some x) {b5 : Nat} (B5 : Blk w b5 3 [.int .i64 ((p.ps.length : Int) - 1)]) : Calls Try.prog 60 #[.pointer (some ⟨b0, 0, none⟩), .pointer (some ⟨b1, 0, none⟩), .pointer (some ⟨b5, 0, none⟩)] w (Ret fun v w' => Kp0 w w' ∧ v = .bool (ch2 p.ps.length x)) := by
  have hP := hP.old
  have h0l := B0.lt
  have h1l := B1.lt
  have hal := BA.lt
  have hget : (p.cs.map Chn.cells)[j]? = some x.cells := by rw [List.getElem?_map, hm]; rfl
  have hjl := (List.getElem?_eq_some_iff.1 hm).1
  have K := hP.2.2.1.at_ hget
  have hKb := (hP.2.2.1.2 (Sl.ne hget)).2.2.1
  have h5l := B5.lt
  have T : Kp0 w w := Kp.refl _ _
  refine calls_start Try.func60 rfl (n := 31) rfl rfl rfl ?_
  refine CW_seq ?_
  refine CW_reg rfl ?_
  refine OW_ev (Ev_c (.inr rfl)) rfl ?_
  refine OW_nil ?_
  refine CW_seq ?_
  refine CW_draw (fun W => hP.here W ∧ B0.here W ∧ B1.here W ∧ BA.here W ∧ K.here W ∧ B5.here W) mixed rfl (fun _ _ _ h => nomatch h.1) ?_
  have E1 : Kp0 _ _ := Kp.drew w nob
  have Z1 : (World.drew w).heap.size = w.heap.size := rfl
  generalize World.drew w = w1 at E1 Z1 ⊢
  have hP := hP.keep0 E1
  have B0 := B0.keep0 E1
  have B1 := B1.keep0 E1
  have BA := BA.keep0 E1
  have K := K.keep0 E1
  have B5 := B5.keep0 E1
  have T := T.keep0 E1
  refine AW_take 0 rfl rfl (by decide +kernel) (by decide +kernel) (by decide +kernel) (fun w ⟨hP, B0, B1, BA, K, B5⟩ => Ev_fieldAddr fld_51_3 rfl rfl) ⟨hP, B0, B1, BA, K, B5⟩ ?_
  refine AW_take 1 rfl rfl (by decide +kernel) (by decide +kernel) (by decide +kernel) (fun w ⟨hP, B0, B1, BA, K, B5⟩ => Ev_load one_49 rfl rfl (B0.ld (q := 3) rfl)) ⟨hP, B0, B1, BA, K, B5⟩ ?_
  refine AW_take 2 rfl rfl (by decide +kernel) (by decide +kernel) (by decide +kernel) (fun w ⟨hP, B0, B1, BA, K, B5⟩ => Ev_load one_82 rfl rfl (B1.ld (q := 0) rfl)) ⟨hP, B0, B1, BA, K, B5⟩ ?_
  refine AW_take 3 rfl rfl (by decide +kernel) (by decide +kernel) (by decide +kernel) (fun w ⟨hP, B0, B1, BA, K, B5⟩ => Ev_nilCheck rfl rfl) ⟨hP, B0, B1, BA, K, B5⟩ ?_
  refine AW_take 4 rfl rfl (by decide +kernel) (by decide +kernel) (by decide +kernel) (fun w ⟨hP, B0, B1, BA, K, B5⟩ => Ev_load one_3 rfl rfl (BA.ld (q := 0) rfl)) ⟨hP, B0, B1, BA, K, B5⟩ ?_
  refine AW_take 5 rfl rfl (by decide +kernel) (by decide +kernel) (by decide +kernel) (fun w ⟨hP, B0, B1, BA, K, B5⟩ => Ev_idx j (hP.2.2.1.ad hget) sl_49 rfl rfl rfl rfl hjl) ⟨hP, B0, B1, BA, K, B5⟩ ?_
  refine AW_take 6 rfl rfl (by decide +kernel) (by decide +kernel) (by decide +kernel) (fun w ⟨hP, B0, B1, BA, K, B5⟩ => Ev_loadAgg (l := [.int _ _, .int _ _, .int _ _, .int _ _, .int _ _]) agg_91 rfl rfl (K.sub 0 rfl) rfl) ⟨hP, B0, B1, BA, K, B5⟩ ?_
  refine AW_one 7 (by decide +kernel) (Next.mk rfl rfl ?_)
  refine Stp_alloc zero_91 rfl ?_
  intro b2 w2 hb2 hz2 E2 B2
  have L2 : _ ≤ b2 := Nat.le_trans T.size (Nat.le_of_eq hb2.symm)
  have hP := hP.keep0 E2
  have B0 := B0.keep0 E2
  have B1 := B1.keep0 E2
  have BA := BA.keep0 E2
  have K := K.keep0 E2
  have B5 := B5.keep0 E2
  have T := T.keep0 E2
  refine ⟨⟨hP, B0, B1, BA, K, B5⟩, ?_⟩
  refine AW_one 8 (by decide +kernel) (Next.mk rfl rfl ?_)
  refine Stp_store (q := 0) (vs := [.int _ _, .int _ _, .int _ _, .int _ _, .int _ _]) B2 siz_91 rfl rfl rfl rfl (Nat.le_of_ble_eq_true rfl) rfl ?_
  intro w3 hz3 E3 B3
  have Z3 := E3.size
  have hP := hP.keepb E3 (by intro h; first | omega | (change _ < _ at h; omega) | (change _ ≤ _ at h; omega) | (have h1 := h.1; have h2 := h.2; first | omega | (change _ ≤ _ at h1; omega) | (change _ < _ at h1; omega)))
  have B0 := B0.keepb E3 (by intro h; first | omega | (change _ < _ at h; omega) | (change _ ≤ _ at h; omega) | (have h1 := h.1; have h2 := h.2; first | omega | (change _ ≤ _ at h1; omega) | (change _ < _ at h1; omega)))
  have B1 := B1.keepb E3 (by intro h; first | omega | (change _ < _ at h; omega) | (change _ ≤ _ at h; omega) | (have h1 := h.1; have h2 := h.2; first | omega | (change _ ≤ _ at h1; omega) | (change _ < _ at h1; omega)))
  have BA := BA.keepb E3 (by intro h; first | omega | (change _ < _ at h; omega) | (change _ ≤ _ at h; omega) | (have h1 := h.1; have h2 := h.2; first | omega | (change _ ≤ _ at h1; omega) | (change _ < _ at h1; omega)))
  have K := K.keepb E3 (by intro h; first | omega | (change _ < _ at h; omega) | (change _ ≤ _ at h; omega) | (have h1 := h.1; have h2 := h.2; first | omega | (change _ ≤ _ at h1; omega) | (change _ < _ at h1; omega)))
  have B5 := B5.keepb E3 (by intro h; first | omega | (change _ < _ at h; omega) | (change _ ≤ _ at h; omega) | (have h1 := h.1; have h2 := h.2; first | omega | (change _ ≤ _ at h1; omega) | (change _ < _ at h1; omega)))
  have T := T.transb E3 (by omega)
  clear B2
  have B2 : Blk _ _ _ [_, _, _, _, _] := B3
  clear B3
  refine ⟨⟨hP, B0, B1, BA, K, B5⟩, ?_⟩
  refine AW_done (by decide +kernel) ?_
  refine CW_seq ?_
  refine CW_reg rfl ?_
  refine OW_ev (Ev_fieldAddr fld_91_1 rfl rfl) rfl ?_
  refine OW_ev (Ev_load one_3 rfl rfl (B2.ld (q := 1) rfl)) rfl ?_
  refine OW_ev (Ev_load one_3 rfl rfl (B5.ld (q := 0) rfl)) rfl ?_
  refine OW_st rfl (Stp_call ent_49 rfl rfl rfl (cwithin_c _ _ _ _) ?_)
  rintro _ w4 ⟨E4, rfl⟩
  have Z4 := E4.size
  have hP := hP.keep0 E4
  have B0 := B0.keep0 E4
  have B1 := B1.keep0 E4
  have BA := BA.keep0 E4
  have K := K.keep0 E4
  have B5 := B5.keep0 E4
  have T := T.keep0 E4
  have B2 := B2.keep0 E4
  refine OW_ev (Ev_not rfl rfl) rfl ?_
  refine OW_ev (Ev_mvb (.inl rfl) rfl) rfl ?_
  refine OW_split (d := .tmp 17) rfl (fun c5 => ?_) (fun c5 => ?_)
  · have d5 := c5
    first | (with_reducible replace d5 := of_decide_eq_true d5) | (with_reducible replace d5 := bnt d5; try (with_reducible replace d5 := of_decide_eq_false d5)) | skip
    refine OW_no rfl rfl rfl rfl c5 ?_
    refine OW_no rfl rfl rfl rfl c5 ?_
    refine OW_no rfl rfl rfl rfl c5 ?_
    refine OW_no rfl rfl rfl rfl c5 ?_
    refine OW_no rfl rfl rfl rfl c5 ?_
    refine OW_ev (Ev_pickb_t rfl rfl c5 rfl) rfl ?_
    refine OW_ev (Ev_mvb (.inl rfl) rfl) rfl ?_
    refine OW_no rfl rfl rfl rfl rfl ?_
    refine OW_no rfl rfl rfl rfl rfl ?_
    refine OW_no rfl rfl rfl rfl rfl ?_
    refine OW_no rfl rfl rfl rfl rfl ?_
    refine OW_no rfl rfl rfl rfl rfl ?_
    refine OW_ev (Ev_pickb_t rfl rfl rfl rfl) rfl ?_
    refine OW_ev (Ev_mvb (.inr rfl) rfl) rfl ?_
    refine OW_nil ?_
    refine CW_ret ?_
    refine ⟨rfl, _, (.tmp rfl .nil), ?_⟩
    exact ⟨T, vb rfl (by unfold ch2; first | exact nd (by omega) | exact decide_eq_decide.2 (by omega) | exact (decide_eq_true (by omega)).symm | exact (decide_eq_false (by omega)).symm)⟩
  · have d5 := c5
    first | (with_reducible replace d5 := of_decide_eq_false d5) | (with_reducible replace d5 := bnf d5; try (with_reducible replace d5 := of_decide_eq_true d5)) | skip
    refine OW_yes rfl rfl rfl rfl c5 (Ev.stp (Ev_fieldAddr fld_91_2 rfl rfl) ?_)
    refine OW_yes rfl rfl rfl rfl c5 (Ev.stp (Ev_load one_3 rfl rfl (B2.ld (q := 2) rfl)) ?_)
    refine OW_yes rfl rfl rfl rfl c5 (Ev.stp (Ev_load one_3 rfl rfl (B5.ld (q := 0) rfl)) ?_)
    refine OW_yes rfl rfl rfl rfl c5 (Stp_call ent_49 rfl rfl rfl (cwithin_c _ _ _ _) ?_)
    rintro _ w6 ⟨E6, rfl⟩
    have Z6 := E6.size
    have hP := hP.keep0 E6
    have B0 := B0.keep0 E6
    have B1 := B1.keep0 E6
    have BA := BA.keep0 E6
    have K := K.keep0 E6
    have B5 := B5.keep0 E6
    have T := T.keep0 E6
    have B2 := B2.keep0 E6
    refine OW_yes rfl rfl rfl rfl c5 (Ev.stp (Ev_not rfl rfl) ?_)
    refine OW_ev (Ev_pickb_f rfl rfl c5 rfl) rfl ?_
    refine OW_ev (Ev_mvb (.inl rfl) rfl) rfl ?_
    refine OW_split (d := .tmp 24) rfl (fun c7 => ?_) (fun c7 => ?_)
    · have d7 := c7
      first | (with_reducible replace d7 := of_decide_eq_true d7) | (with_reducible replace d7 := bnt d7; try (with_reducible replace d7 := of_decide_eq_false d7)) | skip
      refine OW_no rfl rfl rfl rfl c7 ?_
      refine OW_no rfl rfl rfl rfl c7 ?_
      refine OW_no rfl rfl rfl rfl c7 ?_
      refine OW_no rfl rfl rfl rfl c7 ?_
      refine OW_no rfl rfl rfl rfl c7 ?_
      refine OW_ev (Ev_pickb_t rfl rfl c7 rfl) rfl ?_
      refine OW_ev (Ev_mvb (.inr rfl) rfl) rfl ?_
      refine OW_nil ?_
      refine CW_ret ?_
      refine ⟨rfl, _, (.tmp rfl .nil), ?_⟩
      exact ⟨T, vb rfl (by unfold ch2; first | exact nd (by omega) | exact decide_eq_decide.2 (by omega) | exact (decide_eq_true (by omega)).symm | exact (decide_eq_false (by omega)).symm)⟩
    · have d7 := c7
      first | (with_reducible replace d7 := of_decide_eq_false d7) | (with_reducible replace d7 := bnf d7; try (with_reducible replace d7 := of_decide_eq_true d7)) | skip
      refine OW_yes rfl rfl rfl rfl c7 (Ev.stp (Ev_fieldAddr fld_91_1 rfl rfl) ?_)
      refine OW_yes rfl rfl rfl rfl c7 (Ev.stp (Ev_load one_3 rfl rfl (B2.ld (q := 1) rfl)) ?_)
      refine OW_yes rfl rfl rfl rfl c7 (Ev.stp (Ev_fieldAddr fld_91_2 rfl rfl) ?_)
      refine OW_yes rfl rfl rfl rfl c7 (Ev.stp (Ev_load one_3 rfl rfl (B2.ld (q := 2) rfl)) ?_)
      refine OW_yes rfl rfl rfl rfl c7 (Ev.stp (Ev_eql rfl rfl rfl) ?_)
      refine OW_ev (Ev_pickb_f rfl rfl c7 rfl) rfl ?_
      refine OW_ev (Ev_mvb (.inr rfl) rfl) rfl ?_
      refine OW_nil ?_
      refine CW_ret ?_
      refine ⟨rfl, _, (.tmp rfl .nil), ?_⟩
      exact ⟨T, vb rfl (by unfold ch2; first | exact nd (by omega) | exact decide_eq_decide.2 (by omega) | exact (decide_eq_true (by omega)).symm | exact (decide_eq_false (by omega)).symm)⟩

set_option maxRecDepth 10000 in
set_option maxHeartbeats 2000000 in
theorem chan3_c {F : Nat → Prop} {w : World} {p : PlnM} {b0 b1 bat j : Nat} (hP : PlnS F w p) (B0 : Blk w b0 51 p.cl) (B1 : Blk w b1 82 [.pointer (some ⟨bat, 0, none⟩)]) (BA : Blk w bat 3 [.int .i64 (j : Int)]) {x : Chn} (hm : p.cs[j]? = some x) : Calls Try.prog 61 #[.pointer (some ⟨b0, 0, none⟩), .pointer (some ⟨b1, 0, none⟩)] w (Ret fun v w' => Kp0 w w' ∧ v = .bool (ch3 x)) := by
  have hP := hP.old
  have h0l := B0.lt
  have h1l := B1.lt
  have hal := BA.lt
  have hget : (p.cs.map Chn.cells)[j]? = some x.cells := by rw [List.getElem?_map, hm]; rfl
  have hjl := (List.getElem?_eq_some_iff.1 hm).1
  have K := hP.2.2.1.at_ hget
  have hKb := (hP.2.2.1.2 (Sl.ne hget)).2.2.1
  have T : Kp0 w w := Kp.refl _ _
  refine calls_start Try.func61 rfl (n := 31) rfl rfl rfl ?_
  refine CW_seq ?_
  refine CW_reg rfl ?_
  refine OW_ev (Ev_c (.inr rfl)) rfl ?_
  refine OW_nil ?_
  refine CW_seq ?_
  refine CW_draw (fun W => hP.here W ∧ B0.here W ∧ B1.here W ∧ BA.here W ∧ K.here W) mixed rfl (fun _ _ _ h => nomatch h.1) ?_
  have E1 : Kp0 _ _ := Kp.drew w nob
  have Z1 : (World.drew w).heap.size = w.heap.size := rfl
  generalize World.drew w = w1 at E1 Z1 ⊢
  have hP := hP.keep0 E1
  have B0 := B0.keep0 E1
  have B1 := B1.keep0 E1
  have BA := BA.keep0 E1
  have K := K.keep0 E1
  have T := T.keep0 E1
  refine AW_take 0 rfl rfl (by decide +kernel) (by decide +kernel) (by decide +kernel) (fun w ⟨hP, B0, B1, BA, K⟩ => Ev_fieldAddr fld_51_3 rfl rfl) ⟨hP, B0, B1, BA, K⟩ ?_
  refine AW_take 1 rfl rfl (by decide +kernel) (by decide +kernel) (by decide +kernel) (fun w ⟨hP, B0, B1, BA, K⟩ => Ev_load one_49 rfl rfl (B0.ld (q := 3) rfl)) ⟨hP, B0, B1, BA, K⟩ ?_
  refine AW_take 2 rfl rfl (by decide +kernel) (by decide +kernel) (by decide +kernel) (fun w ⟨hP, B0, B1, BA, K⟩ => Ev_load one_82 rfl rfl (B1.ld (q := 0) rfl)) ⟨hP, B0, B1, BA, K⟩ ?_
  refine AW_take 3 rfl rfl (by decide +kernel) (by decide +kernel) (by decide +kernel) (fun w ⟨hP, B0, B1, BA, K⟩ => Ev_nilCheck rfl rfl) ⟨hP, B0, B1, BA, K⟩ ?_
  refine AW_take 4 rfl rfl (by decide +kernel) (by decide +kernel) (by decide +kernel) (fun w ⟨hP, B0, B1, BA, K⟩ => Ev_load one_3 rfl rfl (BA.ld (q := 0) rfl)) ⟨hP, B0, B1, BA, K⟩ ?_
  refine AW_take 5 rfl rfl (by decide +kernel) (by decide +kernel) (by decide +kernel) (fun w ⟨hP, B0, B1, BA, K⟩ => Ev_idx j (hP.2.2.1.ad hget) sl_49 rfl rfl rfl rfl hjl) ⟨hP, B0, B1, BA, K⟩ ?_
  refine AW_take 6 rfl rfl (by decide +kernel) (by decide +kernel) (by decide +kernel) (fun w ⟨hP, B0, B1, BA, K⟩ => Ev_loadAgg (l := [.int _ _, .int _ _, .int _ _, .int _ _, .int _ _]) agg_91 rfl rfl (K.sub 0 rfl) rfl) ⟨hP, B0, B1, BA, K⟩ ?_
  refine AW_one 7 (by decide +kernel) (Next.mk rfl rfl ?_)
  refine Stp_alloc zero_91 rfl ?_
  intro b2 w2 hb2 hz2 E2 B2
  have L2 : _ ≤ b2 := Nat.le_trans T.size (Nat.le_of_eq hb2.symm)
  have hP := hP.keep0 E2
  have B0 := B0.keep0 E2
  have B1 := B1.keep0 E2
  have BA := BA.keep0 E2
  have K := K.keep0 E2
  have T := T.keep0 E2
  refine ⟨⟨hP, B0, B1, BA, K⟩, ?_⟩
  refine AW_one 8 (by decide +kernel) (Next.mk rfl rfl ?_)
  refine Stp_store (q := 0) (vs := [.int _ _, .int _ _, .int _ _, .int _ _, .int _ _]) B2 siz_91 rfl rfl rfl rfl (Nat.le_of_ble_eq_true rfl) rfl ?_
  intro w3 hz3 E3 B3
  have Z3 := E3.size
  have hP := hP.keepb E3 (by intro h; first | omega | (change _ < _ at h; omega) | (change _ ≤ _ at h; omega) | (have h1 := h.1; have h2 := h.2; first | omega | (change _ ≤ _ at h1; omega) | (change _ < _ at h1; omega)))
  have B0 := B0.keepb E3 (by intro h; first | omega | (change _ < _ at h; omega) | (change _ ≤ _ at h; omega) | (have h1 := h.1; have h2 := h.2; first | omega | (change _ ≤ _ at h1; omega) | (change _ < _ at h1; omega)))
  have B1 := B1.keepb E3 (by intro h; first | omega | (change _ < _ at h; omega) | (change _ ≤ _ at h; omega) | (have h1 := h.1; have h2 := h.2; first | omega | (change _ ≤ _ at h1; omega) | (change _ < _ at h1; omega)))
  have BA := BA.keepb E3 (by intro h; first | omega | (change _ < _ at h; omega) | (change _ ≤ _ at h; omega) | (have h1 := h.1; have h2 := h.2; first | omega | (change _ ≤ _ at h1; omega) | (change _ < _ at h1; omega)))
  have K := K.keepb E3 (by intro h; first | omega | (change _ < _ at h; omega) | (change _ ≤ _ at h; omega) | (have h1 := h.1; have h2 := h.2; first | omega | (change _ ≤ _ at h1; omega) | (change _ < _ at h1; omega)))
  have T := T.transb E3 (by omega)
  clear B2
  have B2 : Blk _ _ _ [_, _, _, _, _] := B3
  clear B3
  refine ⟨⟨hP, B0, B1, BA, K⟩, ?_⟩
  refine AW_done (by decide +kernel) ?_
  refine CW_seq ?_
  refine CW_reg rfl ?_
  refine OW_ev (Ev_fieldAddr fld_91_3 rfl rfl) rfl ?_
  refine OW_ev (Ev_load one_3 rfl rfl (B2.ld (q := 3) rfl)) rfl ?_
  refine OW_st rfl (Stp_call ent_49 rfl rfl rfl (cwithin_c _ _ _ _) ?_)
  rintro _ w4 ⟨E4, rfl⟩
  have Z4 := E4.size
  have hP := hP.keep0 E4
  have B0 := B0.keep0 E4
  have B1 := B1.keep0 E4
  have BA := BA.keep0 E4
  have K := K.keep0 E4
  have T := T.keep0 E4
  have B2 := B2.keep0 E4
  refine OW_ev (Ev_not rfl rfl) rfl ?_
  refine OW_ev (Ev_mvb (.inl rfl) rfl) rfl ?_
  refine OW_split (d := .tmp 15) rfl (fun c5 => ?_) (fun c5 => ?_)
  · have d5 := c5
    first | (with_reducible replace d5 := of_decide_eq_true d5) | (with_reducible replace d5 := bnt d5; try (with_reducible replace d5 := of_decide_eq_false d5)) | skip
    refine OW_no rfl rfl rfl rfl c5 ?_
    refine OW_no rfl rfl rfl rfl c5 ?_
    refine OW_no rfl rfl rfl rfl c5 ?_
    refine OW_no rfl rfl rfl rfl c5 ?_
    refine OW_ev (Ev_pickb_t rfl rfl c5 rfl) rfl ?_
    refine OW_ev (Ev_mvb (.inl rfl) rfl) rfl ?_
    refine OW_no rfl rfl rfl rfl rfl ?_
    refine OW_no rfl rfl rfl rfl rfl ?_
    refine OW_no rfl rfl rfl rfl rfl ?_
    refine OW_no rfl rfl rfl rfl rfl ?_
    refine OW_noU rfl rfl rfl ?_
    refine OW_noU rfl rfl rfl ?_
    refine OW_noU rfl rfl rfl ?_
    refine OW_no rfl rfl rfl rfl rfl ?_
    refine OW_ev (Ev_pickb_t rfl rfl rfl rfl) rfl ?_
    refine OW_ev (Ev_mvb (.inr rfl) rfl) rfl ?_
    refine OW_nil ?_
    refine CW_ret ?_
    refine ⟨rfl, _, (.tmp rfl .nil), ?_⟩
    exact ⟨T, vb rfl (by unfold ch3; first | exact nd (by omega) | exact decide_eq_decide.2 (by omega) | exact (decide_eq_true (by omega)).symm | exact (decide_eq_false (by omega)).symm)⟩
  · have d5 := c5
    first | (with_reducible replace d5 := of_decide_eq_false d5) | (with_reducible replace d5 := bnf d5; try (with_reducible replace d5 := of_decide_eq_true d5)) | skip
    refine OW_yes rfl rfl rfl rfl c5 (Ev.stp (Ev_fieldAddr fld_91_4 rfl rfl) ?_)
    refine OW_yes rfl rfl rfl rfl c5 (Ev.stp (Ev_load one_3 rfl rfl (B2.ld (q := 4) rfl)) ?_)
    refine OW_yes rfl rfl rfl rfl c5 (Stp_call ent_49 rfl rfl rfl (cwithin_c _ _ _ _) ?_)
    rintro _ w6 ⟨E6, rfl⟩
    have Z6 := E6.size
    have hP := hP.keep0 E6
    have B0 := B0.keep0 E6
    have B1 := B1.keep0 E6
    have BA := BA.keep0 E6
    have K := K.keep0 E6
    have T := T.keep0 E6
    have B2 := B2.keep0 E6
    refine OW_yes rfl rfl rfl rfl c5 (Ev.stp (Ev_not rfl rfl) ?_)
    refine OW_ev (Ev_pickb_f rfl rfl c5 rfl) rfl ?_
    refine OW_ev (Ev_mvb (.inl rfl) rfl) rfl ?_
    refine OW_split (d := .tmp 21) rfl (fun c7 => ?_) (fun c7 => ?_)
    · have d7 := c7
      first | (with_reducible replace d7 := of_decide_eq_true d7) | (with_reducible replace d7 := bnt d7; try (with_reducible replace d7 := of_decide_eq_false d7)) | skip
      refine OW_no rfl rfl rfl rfl c7 ?_
      refine OW_no rfl rfl rfl rfl c7 ?_
      refine OW_no rfl rfl rfl rfl c7 ?_
      refine OW_no rfl rfl rfl rfl c7 ?_
      refine OW_noU rfl rfl rfl ?_
      refine OW_noU rfl rfl rfl ?_
      refine OW_noU rfl rfl rfl ?_
      refine OW_no rfl rfl rfl rfl c7 ?_
      refine OW_ev (Ev_pickb_t rfl rfl c7 rfl) rfl ?_
      refine OW_ev (Ev_mvb (.inr rfl) rfl) rfl ?_
      refine OW_nil ?_
      refine CW_ret ?_
      refine ⟨rfl, _, (.tmp rfl .nil), ?_⟩
      exact ⟨T, vb rfl (by unfold ch3; first | exact nd (by omega) | exact decide_eq_decide.2 (by omega) | exact (decide_eq_true (by omega)).symm | exact (decide_eq_false (by omega)).symm)⟩
    · have d7 := c7
      first | (with_reducible replace d7 := of_decide_eq_false d7) | (with_reducible replace d7 := bnf d7; try (with_reducible replace d7 := of_decide_eq_true d7)) | skip
      refine OW_yes rfl rfl rfl rfl c7 (Ev.stp (Ev_fieldAddr fld_91_0 rfl rfl) ?_)
      refine OW_yes rfl rfl rfl rfl c7 (Ev.stp (Ev_load one_3 rfl rfl (B2.ld (q := 0) rfl)) ?_)
      refine OW_yes rfl rfl rfl rfl c7 (Ev.stp (Ev_eql rfl rfl rfl) ?_)
      refine OW_yes rfl rfl rfl rfl c7 (Ev.stp (Ev_mvb (.inl rfl) rfl) ?_)
      refine OW_split (d := .tmp 25) rfl (fun c8 => ?_) (fun c8 => ?_)
      · have d8 := c8
        first | (with_reducible replace d8 := of_decide_eq_true d8) | (with_reducible replace d8 := bnt d8; try (with_reducible replace d8 := of_decide_eq_false d8)) | skip
        refine OW_yes rfl rfl rfl rfl c8 (Ev.stp (Ev_fieldAddr fld_91_4 rfl rfl) ?_)
        refine OW_yes rfl rfl rfl rfl c8 (Ev.stp (Ev_load one_3 rfl rfl (B2.ld (q := 4) rfl)) ?_)
        refine OW_yes rfl rfl rfl rfl c8 (Ev.stp (Ev_neq rfl rfl rfl) ?_)
        refine OW_yes rfl rfl rfl rfl c7 (Ev.stp (Ev_pickb_t rfl rfl c8 rfl) ?_)
        refine OW_ev (Ev_pickb_f rfl rfl c7 rfl) rfl ?_
        refine OW_ev (Ev_mvb (.inr rfl) rfl) rfl ?_
        refine OW_nil ?_
        refine CW_ret ?_
        refine ⟨rfl, _, (.tmp rfl .nil), ?_⟩
        exact ⟨T, vb rfl (by unfold ch3; first | exact nd (by omega) | exact decide_eq_decide.2 (by omega) | exact (decide_eq_true (by omega)).symm | exact (decide_eq_false (by omega)).symm)⟩
      · have d8 := c8
        first | (with_reducible replace d8 := of_decide_eq_false d8) | (with_reducible replace d8 := bnf d8; try (with_reducible replace d8 := of_decide_eq_true d8)) | skip
        refine OW_no rfl rfl rfl rfl c8 ?_
        refine OW_no rfl rfl rfl rfl c8 ?_
        refine OW_no rfl rfl rfl rfl c8 ?_
        refine OW_yes rfl rfl rfl rfl c7 (Ev.stp (Ev_pickb_f rfl rfl c8 rfl) ?_)
        refine OW_ev (Ev_pickb_f rfl rfl c7 rfl) rfl ?_
        refine OW_ev (Ev_mvb (.inr rfl) rfl) rfl ?_
        refine OW_nil ?_
        refine CW_ret ?_
        refine ⟨rfl, _, (.tmp rfl .nil), ?_⟩
        exact ⟨T, vb rfl (by unfold ch3; first | exact nd (by omega) | exact decide_eq_decide.2 (by omega) | exact (decide_eq_true (by omega)).symm | exact (decide_eq_false (by omega)).symm)⟩

end Go.Proofs.Ytiedmigdgelhkaa