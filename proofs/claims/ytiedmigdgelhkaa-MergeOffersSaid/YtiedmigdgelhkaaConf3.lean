/- Contracts of the functions of package config that make the rows of rules. -/
import Derived.Test.YtiedmigdgelhkaaTypes
import Derived.Test.YtiedmigdgelhkaaPlanData
import Derived.Test.YtiedmigdgelhkaaConf2
import Derived.Test.YtiedmigdgelhkaaLists
namespace Go.Proofs.Ytiedmigdgelhkaa
open Go Go.RowKit Bx Go.Proofs

set_option maxRecDepth 10000 in
set_option maxHeartbeats 2000000 in
theorem numbers_c {FP : Nat → Prop} {w : World} {p : PlnM} {bat : Nat} (hP : PlnS FP w p) (hFP : ∀ b, FP b → b < w.heap.size ∧ b ≠ bat) (hsm : p.ps.length ≤ 1000 ∧ p.ws.length ≤ 1000 ∧ p.cs.length ≤ 1000) (hbat : bat < w.heap.size) : Calls Try.prog 38 #[.agg p.cl.toArray] w (Ret fun v w' => Kp0 w w' ∧ ∃ l : Lst, v = .agg l.cl.toArray ∧ LstOK Try.prog 3 (fun b => FP b ∨ (w.heap.size ≤ b ∧ b < w'.heap.size)) w' bat l ∧ l.many = 1 ∧ ∀ j, j < l.many → lstAt l j = if p.r.numBad = true then 2 else 0) := by
  have T : Kp0 w w := Kp.refl _ _
  refine calls_start Try.func38 rfl (n := 7) rfl rfl rfl ?_
  refine CW_seq ?_
  refine CW_reg rfl ?_
  refine OW_st rfl (Stp_box (l := [.int _ _, .slice _ _ _, .slice _ _ _, .slice _ _ _]) rfl rfl rfl ?_)
  intro b1 w1 hb1 hz1 E1 B1
  have L1 : _ ≤ b1 := Nat.le_trans T.size (Nat.le_of_eq hb1.symm)
  have hP := hP.keep0 E1
  have T := T.keep0 E1
  replace B1 : Blk w1 b1 51 (p.cl) := B1
  refine OW_st rfl (Stp_alloc zero_79 rfl ?_)
  intro b2 w2 hb2 hz2 E2 B2
  have L2 : _ ≤ b2 := Nat.le_trans T.size (Nat.le_of_eq hb2.symm)
  have hP := hP.keep0 E2
  have T := T.keep0 E2
  have B1 := B1.keep0 E2
  refine OW_nil ?_
  refine CW_seq ?_
  refine CW_reg rfl ?_
  refine OW_ev (Ev_makeFunc rfl rfl rfl) rfl ?_
  refine OW_ev (Ev_build (l := [.int _ _, _]) plc_85 zero_85 rfl rfl rfl) rfl ?_
  refine OW_st rfl (Stp_buildSlice (l := [_, _]) el_77 zero_85 rfl rfl rfl rfl ?_)
  intro b3 w3 hb3 hz3 E3 B3
  have L3 : _ ≤ b3 := Nat.le_trans T.size (Nat.le_of_eq hb3.symm)
  have hP := hP.keep0 E3
  have T := T.keep0 E3
  have B1 := B1.keep0 E3
  have B2 := B2.keep0 E3
  obtain ⟨bR, rfl⟩ : ∃ b, b = b3 := ⟨_, rfl⟩
  have BR := B3
  refine OW_ev (Ev_build (l := [.int _ _, .slice _ _ _]) plc_79 zero_79 rfl rfl rfl) rfl ?_
  refine OW_st rfl (Stp_store (q := 0) (vs := [.int _ _, .slice _ _ _]) B2 siz_79 rfl rfl rfl rfl (Nat.le_of_ble_eq_true rfl) rfl ?_)
  intro w4 hz4 E4 B4
  have Z4 := E4.size
  have hP := hP.keepb E4 (fun h => by have := (hFP _ h).1; omega)
  have T := T.transb E4 (by omega)
  have B1 := B1.keepb E4 (by intro h; first | omega | (change _ < _ at h; omega) | (change _ ≤ _ at h; omega) | (have h1 := h.1; have h2 := h.2; first | omega | (change _ ≤ _ at h1; omega) | (change _ < _ at h1; omega)))
  have BR := BR.keepb E4 (by intro h; first | omega | (change _ < _ at h; omega) | (change _ ≤ _ at h; omega) | (have h1 := h.1; have h2 := h.2; first | omega | (change _ ≤ _ at h1; omega) | (change _ < _ at h1; omega)))
  clear B2
  have B2 : Blk _ _ _ [_, _] := B4
  clear B4
  refine OW_nil ?_
  refine CW_ret ?_
  refine ⟨rfl, _, (.cell rfl (ld_agg agg_79 (B2.sub 0 2 (Nat.le_of_ble_eq_true rfl)) rfl) .nil), ?_⟩
  have hTs := T.size
  refine ⟨T, ⟨1, bR, [⟨2, 48, [.pointer (some ⟨b1, 0, none⟩)], fun _ => p.r.numBad⟩]⟩, rfl, ⟨fun b hb => by rcases hb with h | h; (have := hFP b h; exact ⟨by omega, this.2⟩); exact ⟨h.2, by omega⟩, (Sl.ofBlk (es := List.map Rule.cl [⟨2, 48, [.pointer (some ⟨b1, 0, none⟩)], fun _ => p.r.numBad⟩]) BR (by simp [Rule.cl])).mono (fun b _ hb => by have hb' : b = bR := hb; have := BR.lt; exact .inr ⟨by omega, by omega⟩), by simp, by simp only; omega, fun k r hk => ?_⟩, rfl, fun j hj => lst1 ⟨1, bR, [⟨2, 48, [.pointer (some ⟨b1, 0, none⟩)], fun _ => p.r.numBad⟩]⟩ rfl j⟩
  rcases k with _ | k
  · simp at hk; subst hk; exact ⟨(by intro h; cases h), ent_48, fun w2 hf j hj BA => num1_c (B1.fix hf (.inr ⟨by omega, B1.lt⟩))⟩
  · simp at hk

set_option maxRecDepth 10000 in
set_option maxHeartbeats 2000000 in
theorem parts_c {FP : Nat → Prop} {w : World} {p : PlnM} {bat : Nat} (hP : PlnS FP w p) (hFP : ∀ b, FP b → b < w.heap.size ∧ b ≠ bat) (hsm : p.ps.length ≤ 1000 ∧ p.ws.length ≤ 1000 ∧ p.cs.length ≤ 1000) (hbat : bat < w.heap.size) : Calls Try.prog 39 #[.agg p.cl.toArray, .pointer (some ⟨bat, 0, none⟩)] w (Ret fun v w' => Kp0 w w' ∧ ∃ l : Lst, v = .agg l.cl.toArray ∧ LstOK Try.prog 3 (fun b => FP b ∨ (w.heap.size ≤ b ∧ b < w'.heap.size)) w' bat l ∧ l.many = p.ps.length ∧ ∀ j, j < l.many → lstAt l j = match p.r.ps[j]? with | none => 0 | some x => if bad1 p.mem x = true then 6 else if bad2 (p.r.ps.take j) x = true then 14 else if bad3 x = true then 2 else if bad4 x = true then 12 else 0) := by
  have T : Kp0 w w := Kp.refl _ _
  refine calls_start Try.func39 rfl (n := 18) rfl rfl rfl ?_
  refine CW_seq ?_
  refine CW_reg rfl ?_
  refine OW_st rfl (Stp_box (l := [.int _ _, .slice _ _ _, .slice _ _ _, .slice _ _ _]) rfl rfl rfl ?_)
  intro b1 w1 hb1 hz1 E1 B1
  have L1 : _ ≤ b1 := Nat.le_trans T.size (Nat.le_of_eq hb1.symm)
  have hP := hP.keep0 E1
  have T := T.keep0 E1
  replace B1 : Blk w1 b1 51 (p.cl) := B1
  refine OW_st rfl (Stp_box (l := [.pointer _]) rfl rfl rfl ?_)
  intro b2 w2 hb2 hz2 E2 B2
  have L2 : _ ≤ b2 := Nat.le_trans T.size (Nat.le_of_eq hb2.symm)
  have hP := hP.keep0 E2
  have T := T.keep0 E2
  have B1 := B1.keep0 E2
  refine OW_st rfl (Stp_alloc zero_79 rfl ?_)
  intro b3 w3 hb3 hz3 E3 B3
  have L3 : _ ≤ b3 := Nat.le_trans T.size (Nat.le_of_eq hb3.symm)
  have hP := hP.keep0 E3
  have T := T.keep0 E3
  have B1 := B1.keep0 E3
  have B2 := B2.keep0 E3
  refine OW_nil ?_
  refine CW_seq ?_
  refine CW_reg rfl ?_
  refine OW_ev (Ev_fieldAddr fld_51_1 rfl rfl) rfl ?_
  refine OW_ev (Ev_load one_47 rfl rfl (B1.ld (q := 1) rfl)) rfl ?_
  refine OW_ev (Ev_len und_47 rfl rfl) rfl ?_
  refine OW_ev (Ev_makeFunc rfl rfl rfl) rfl ?_
  refine OW_ev (Ev_build (l := [.int _ _, _]) plc_85 zero_85 rfl rfl rfl) rfl ?_
  refine OW_ev (Ev_makeFunc rfl rfl rfl) rfl ?_
  refine OW_ev (Ev_build (l := [.int _ _, _]) plc_85 zero_85 rfl rfl rfl) rfl ?_
  refine OW_ev (Ev_makeFunc rfl rfl rfl) rfl ?_
  refine OW_ev (Ev_build (l := [.int _ _, _]) plc_85 zero_85 rfl rfl rfl) rfl ?_
  refine OW_ev (Ev_makeFunc rfl rfl rfl) rfl ?_
  refine OW_ev (Ev_build (l := [.int _ _, _]) plc_85 zero_85 rfl rfl rfl) rfl ?_
  refine OW_st rfl (Stp_buildSlice (l := [_, _, _, _, _, _, _, _]) el_77 zero_85 rfl rfl rfl rfl ?_)
  intro b4 w4 hb4 hz4 E4 B4
  have L4 : _ ≤ b4 := Nat.le_trans T.size (Nat.le_of_eq hb4.symm)
  have hP := hP.keep0 E4
  have T := T.keep0 E4
  have B1 := B1.keep0 E4
  have B2 := B2.keep0 E4
  have B3 := B3.keep0 E4
  obtain ⟨bR, rfl⟩ : ∃ b, b = b4 := ⟨_, rfl⟩
  have BR := B4
  refine OW_ev (Ev_build (l := [.int _ _, .slice _ _ _]) plc_79 zero_79 rfl rfl rfl) rfl ?_
  refine OW_st rfl (Stp_store (q := 0) (vs := [.int _ _, .slice _ _ _]) B3 siz_79 rfl rfl rfl rfl (Nat.le_of_ble_eq_true rfl) rfl ?_)
  intro w5 hz5 E5 B5
  have Z5 := E5.size
  have hP := hP.keepb E5 (fun h => by have := (hFP _ h).1; omega)
  have T := T.transb E5 (by omega)
  have B1 := B1.keepb E5 (by intro h; first | omega | (change _ < _ at h; omega) | (change _ ≤ _ at h; omega) | (have h1 := h.1; have h2 := h.2; first | omega | (change _ ≤ _ at h1; omega) | (change _ < _ at h1; omega)))
  have B2 := B2.keepb E5 (by intro h; first | omega | (change _ < _ at h; omega) | (change _ ≤ _ at h; omega) | (have h1 := h.1; have h2 := h.2; first | omega | (change _ ≤ _ at h1; omega) | (change _ < _ at h1; omega)))
  have BR := BR.keepb E5 (by intro h; first | omega | (change _ < _ at h; omega) | (change _ ≤ _ at h; omega) | (have h1 := h.1; have h2 := h.2; first | omega | (change _ ≤ _ at h1; omega) | (change _ < _ at h1; omega)))
  clear B3
  have B3 : Blk _ _ _ [_, _] := B5
  clear B5
  refine OW_nil ?_
  refine CW_ret ?_
  refine ⟨rfl, _, (.cell rfl (ld_agg agg_79 (B3.sub 0 2 (Nat.le_of_ble_eq_true rfl)) rfl) .nil), ?_⟩
  have hTs := T.size
  refine ⟨T, ⟨p.ps.length, bR, [⟨6, 50, [.pointer (some ⟨b1, 0, none⟩), .pointer (some ⟨b2, 0, none⟩)], fun j => match p.r.ps[j]? with | none => false | some x => bad1 p.mem x⟩, ⟨14, 51, [.pointer (some ⟨b2, 0, none⟩), .pointer (some ⟨b1, 0, none⟩)], fun j => match p.r.ps[j]? with | none => false | some x => bad2 (p.r.ps.take j) x⟩, ⟨2, 53, [.pointer (some ⟨b1, 0, none⟩), .pointer (some ⟨b2, 0, none⟩)], fun j => match p.r.ps[j]? with | none => false | some x => bad3 x⟩, ⟨12, 54, [.pointer (some ⟨b1, 0, none⟩), .pointer (some ⟨b2, 0, none⟩)], fun j => match p.r.ps[j]? with | none => false | some x => bad4 x⟩]⟩, rfl, ⟨fun b hb => by rcases hb with h | h; (have := hFP b h; exact ⟨by omega, this.2⟩); exact ⟨h.2, by omega⟩, (Sl.ofBlk (es := List.map Rule.cl [⟨6, 50, [.pointer (some ⟨b1, 0, none⟩), .pointer (some ⟨b2, 0, none⟩)], fun j => match p.r.ps[j]? with | none => false | some x => bad1 p.mem x⟩, ⟨14, 51, [.pointer (some ⟨b2, 0, none⟩), .pointer (some ⟨b1, 0, none⟩)], fun j => match p.r.ps[j]? with | none => false | some x => bad2 (p.r.ps.take j) x⟩, ⟨2, 53, [.pointer (some ⟨b1, 0, none⟩), .pointer (some ⟨b2, 0, none⟩)], fun j => match p.r.ps[j]? with | none => false | some x => bad3 x⟩, ⟨12, 54, [.pointer (some ⟨b1, 0, none⟩), .pointer (some ⟨b2, 0, none⟩)], fun j => match p.r.ps[j]? with | none => false | some x => bad4 x⟩]) BR (by simp [Rule.cl])).mono (fun b _ hb => by have hb' : b = bR := hb; have := BR.lt; exact .inr ⟨by omega, by omega⟩), by simp, by simp only; omega, fun k r hk => ?_⟩, rfl, fun j hj => by obtain ⟨m, hm, _, hr, _⟩ := getP (p := p) (j := j) hj; have hr2 : p.r.ps[j]? = some m.r := hr; rw [lst4 ⟨p.ps.length, bR, [⟨6, 50, [.pointer (some ⟨b1, 0, none⟩), .pointer (some ⟨b2, 0, none⟩)], fun j => match p.r.ps[j]? with | none => false | some x => bad1 p.mem x⟩, ⟨14, 51, [.pointer (some ⟨b2, 0, none⟩), .pointer (some ⟨b1, 0, none⟩)], fun j => match p.r.ps[j]? with | none => false | some x => bad2 (p.r.ps.take j) x⟩, ⟨2, 53, [.pointer (some ⟨b1, 0, none⟩), .pointer (some ⟨b2, 0, none⟩)], fun j => match p.r.ps[j]? with | none => false | some x => bad3 x⟩, ⟨12, 54, [.pointer (some ⟨b1, 0, none⟩), .pointer (some ⟨b2, 0, none⟩)], fun j => match p.r.ps[j]? with | none => false | some x => bad4 x⟩]⟩ rfl (by intro h; cases h) (by intro h; cases h) (by intro h; cases h)]; simp only [hr2]⟩
  rcases k with _ | k
  · simp at hk; subst hk; exact ⟨(by intro h; cases h), ent_50, fun w2 hf j hj BA => by obtain ⟨m, hm, _, hr, _⟩ := getP (p := p) (j := j) hj; have hc := part1_c (hP.keep (hf.sub fun b hb _ => .inl hb)) (B1.fix hf (.inr ⟨by omega, B1.lt⟩)) (B2.fix hf (.inr ⟨by omega, B2.lt⟩)) BA hm; have hr2 : p.r.ps[j]? = some m.r := hr; simp only [hr2]; exact hc⟩
  rcases k with _ | k
  · simp at hk; subst hk; exact ⟨(by intro h; cases h), ent_51, fun w2 hf j hj BA => by obtain ⟨m, hm, _, hr, _⟩ := getP (p := p) (j := j) hj; have hc := part2_c (hP.keep (hf.sub fun b hb _ => .inl hb)) (B1.fix hf (.inr ⟨by omega, B1.lt⟩)) (B2.fix hf (.inr ⟨by omega, B2.lt⟩)) BA hm; have hr2 : p.r.ps[j]? = some m.r := hr; simp only [hr2]; exact hc⟩
  rcases k with _ | k
  · simp at hk; subst hk; exact ⟨(by intro h; cases h), ent_53, fun w2 hf j hj BA => by obtain ⟨m, hm, _, hr, _⟩ := getP (p := p) (j := j) hj; have hc := part3_c (hP.keep (hf.sub fun b hb _ => .inl hb)) (B1.fix hf (.inr ⟨by omega, B1.lt⟩)) (B2.fix hf (.inr ⟨by omega, B2.lt⟩)) BA hm; have hr2 : p.r.ps[j]? = some m.r := hr; simp only [hr2]; exact hc⟩
  rcases k with _ | k
  · simp at hk; subst hk; exact ⟨(by intro h; cases h), ent_54, fun w2 hf j hj BA => by obtain ⟨m, hm, _, hr, _⟩ := getP (p := p) (j := j) hj; have hc := part4_c (hP.keep (hf.sub fun b hb _ => .inl hb)) (B1.fix hf (.inr ⟨by omega, B1.lt⟩)) (B2.fix hf (.inr ⟨by omega, B2.lt⟩)) BA hm; have hr2 : p.r.ps[j]? = some m.r := hr; simp only [hr2]; exact hc⟩
  · simp at hk

set_option maxRecDepth 10000 in
set_option maxHeartbeats 2000000 in
theorem windows_c {FP : Nat → Prop} {w : World} {p : PlnM} {bat : Nat} (hP : PlnS FP w p) (hFP : ∀ b, FP b → b < w.heap.size ∧ b ≠ bat) (hsm : p.ps.length ≤ 1000 ∧ p.ws.length ≤ 1000 ∧ p.cs.length ≤ 1000) (hbat : bat < w.heap.size) : Calls Try.prog 40 #[.agg p.cl.toArray, .pointer (some ⟨bat, 0, none⟩)] w (Ret fun v w' => Kp0 w w' ∧ ∃ l : Lst, v = .agg l.cl.toArray ∧ LstOK Try.prog 3 (fun b => FP b ∨ (w.heap.size ≤ b ∧ b < w'.heap.size)) w' bat l ∧ l.many = p.ws.length ∧ ∀ j, j < l.many → lstAt l j = match p.ws[j]? with | none => 0 | some x => if win1 p.ps.length x = true then 1 else if win2 x = true then 2 else 0) := by
  have T : Kp0 w w := Kp.refl _ _
  refine calls_start Try.func40 rfl (n := 14) rfl rfl rfl ?_
  refine CW_seq ?_
  refine CW_reg rfl ?_
  refine OW_st rfl (Stp_box (l := [.int _ _, .slice _ _ _, .slice _ _ _, .slice _ _ _]) rfl rfl rfl ?_)
  intro b1 w1 hb1 hz1 E1 B1
  have L1 : _ ≤ b1 := Nat.le_trans T.size (Nat.le_of_eq hb1.symm)
  have hP := hP.keep0 E1
  have T := T.keep0 E1
  replace B1 : Blk w1 b1 51 (p.cl) := B1
  refine OW_st rfl (Stp_box (l := [.pointer _]) rfl rfl rfl ?_)
  intro b2 w2 hb2 hz2 E2 B2
  have L2 : _ ≤ b2 := Nat.le_trans T.size (Nat.le_of_eq hb2.symm)
  have hP := hP.keep0 E2
  have T := T.keep0 E2
  have B1 := B1.keep0 E2
  refine OW_st rfl (Stp_alloc zero_79 rfl ?_)
  intro b3 w3 hb3 hz3 E3 B3
  have L3 : _ ≤ b3 := Nat.le_trans T.size (Nat.le_of_eq hb3.symm)
  have hP := hP.keep0 E3
  have T := T.keep0 E3
  have B1 := B1.keep0 E3
  have B2 := B2.keep0 E3
  refine OW_nil ?_
  refine CW_seq ?_
  refine CW_reg rfl ?_
  refine OW_ev (Ev_fieldAddr fld_51_2 rfl rfl) rfl ?_
  refine OW_ev (Ev_load one_48 rfl rfl (B1.ld (q := 2) rfl)) rfl ?_
  refine OW_ev (Ev_len und_48 rfl rfl) rfl ?_
  refine OW_ev (Ev_makeFunc rfl rfl rfl) rfl ?_
  refine OW_ev (Ev_build (l := [.int _ _, _]) plc_85 zero_85 rfl rfl rfl) rfl ?_
  refine OW_ev (Ev_makeFunc rfl rfl rfl) rfl ?_
  refine OW_ev (Ev_build (l := [.int _ _, _]) plc_85 zero_85 rfl rfl rfl) rfl ?_
  refine OW_st rfl (Stp_buildSlice (l := [_, _, _, _]) el_77 zero_85 rfl rfl rfl rfl ?_)
  intro b4 w4 hb4 hz4 E4 B4
  have L4 : _ ≤ b4 := Nat.le_trans T.size (Nat.le_of_eq hb4.symm)
  have hP := hP.keep0 E4
  have T := T.keep0 E4
  have B1 := B1.keep0 E4
  have B2 := B2.keep0 E4
  have B3 := B3.keep0 E4
  obtain ⟨bR, rfl⟩ : ∃ b, b = b4 := ⟨_, rfl⟩
  have BR := B4
  refine OW_ev (Ev_build (l := [.int _ _, .slice _ _ _]) plc_79 zero_79 rfl rfl rfl) rfl ?_
  refine OW_st rfl (Stp_store (q := 0) (vs := [.int _ _, .slice _ _ _]) B3 siz_79 rfl rfl rfl rfl (Nat.le_of_ble_eq_true rfl) rfl ?_)
  intro w5 hz5 E5 B5
  have Z5 := E5.size
  have hP := hP.keepb E5 (fun h => by have := (hFP _ h).1; omega)
  have T := T.transb E5 (by omega)
  have B1 := B1.keepb E5 (by intro h; first | omega | (change _ < _ at h; omega) | (change _ ≤ _ at h; omega) | (have h1 := h.1; have h2 := h.2; first | omega | (change _ ≤ _ at h1; omega) | (change _ < _ at h1; omega)))
  have B2 := B2.keepb E5 (by intro h; first | omega | (change _ < _ at h; omega) | (change _ ≤ _ at h; omega) | (have h1 := h.1; have h2 := h.2; first | omega | (change _ ≤ _ at h1; omega) | (change _ < _ at h1; omega)))
  have BR := BR.keepb E5 (by intro h; first | omega | (change _ < _ at h; omega) | (change _ ≤ _ at h; omega) | (have h1 := h.1; have h2 := h.2; first | omega | (change _ ≤ _ at h1; omega) | (change _ < _ at h1; omega)))
  clear B3
  have B3 : Blk _ _ _ [_, _] := B5
  clear B5
  refine OW_nil ?_
  refine CW_ret ?_
  refine ⟨rfl, _, (.cell rfl (ld_agg agg_79 (B3.sub 0 2 (Nat.le_of_ble_eq_true rfl)) rfl) .nil), ?_⟩
  have hTs := T.size
  refine ⟨T, ⟨p.ws.length, bR, [⟨1, 55, [.pointer (some ⟨b1, 0, none⟩), .pointer (some ⟨b2, 0, none⟩)], fun j => match p.ws[j]? with | none => false | some x => win1 p.ps.length x⟩, ⟨2, 56, [.pointer (some ⟨b1, 0, none⟩), .pointer (some ⟨b2, 0, none⟩)], fun j => match p.ws[j]? with | none => false | some x => win2 x⟩]⟩, rfl, ⟨fun b hb => by rcases hb with h | h; (have := hFP b h; exact ⟨by omega, this.2⟩); exact ⟨h.2, by omega⟩, (Sl.ofBlk (es := List.map Rule.cl [⟨1, 55, [.pointer (some ⟨b1, 0, none⟩), .pointer (some ⟨b2, 0, none⟩)], fun j => match p.ws[j]? with | none => false | some x => win1 p.ps.length x⟩, ⟨2, 56, [.pointer (some ⟨b1, 0, none⟩), .pointer (some ⟨b2, 0, none⟩)], fun j => match p.ws[j]? with | none => false | some x => win2 x⟩]) BR (by simp [Rule.cl])).mono (fun b _ hb => by have hb' : b = bR := hb; have := BR.lt; exact .inr ⟨by omega, by omega⟩), by simp, by simp only; omega, fun k r hk => ?_⟩, rfl, fun j hj => by obtain ⟨x, hm, _, _⟩ := getW (ws := p.ws) (j := j) hj; rw [lst2 ⟨p.ws.length, bR, [⟨1, 55, [.pointer (some ⟨b1, 0, none⟩), .pointer (some ⟨b2, 0, none⟩)], fun j => match p.ws[j]? with | none => false | some x => win1 p.ps.length x⟩, ⟨2, 56, [.pointer (some ⟨b1, 0, none⟩), .pointer (some ⟨b2, 0, none⟩)], fun j => match p.ws[j]? with | none => false | some x => win2 x⟩]⟩ rfl (by intro h; cases h)]; simp only [hm]⟩
  rcases k with _ | k
  · simp at hk; subst hk; exact ⟨(by intro h; cases h), ent_55, fun w2 hf j hj BA => by obtain ⟨x, hm, _, _⟩ := getW (ws := p.ws) (j := j) hj; have hc := winr1_c (hP.keep (hf.sub fun b hb _ => .inl hb)) (B1.fix hf (.inr ⟨by omega, B1.lt⟩)) (B2.fix hf (.inr ⟨by omega, B2.lt⟩)) BA hm (by omega); simpa only [hm] using hc⟩
  rcases k with _ | k
  · simp at hk; subst hk; exact ⟨(by intro h; cases h), ent_56, fun w2 hf j hj BA => by obtain ⟨x, hm, _, _⟩ := getW (ws := p.ws) (j := j) hj; have hc := winr2_c (hP.keep (hf.sub fun b hb _ => .inl hb)) (B1.fix hf (.inr ⟨by omega, B1.lt⟩)) (B2.fix hf (.inr ⟨by omega, B2.lt⟩)) BA hm; simpa only [hm] using hc⟩
  · simp at hk

set_option maxRecDepth 10000 in
set_option maxHeartbeats 2000000 in
theorem trace_c {FP : Nat → Prop} {w : World} {p : PlnM} {bat : Nat} (hP : PlnS FP w p) (hFP : ∀ b, FP b → b < w.heap.size ∧ b ≠ bat) (hsm : p.ps.length ≤ 1000 ∧ p.ws.length ≤ 1000 ∧ p.cs.length ≤ 1000) (hbat : bat < w.heap.size) : Calls Try.prog 41 #[.agg p.cl.toArray] w (Ret fun v w' => Kp0 w w' ∧ ∃ l : Lst, v = .agg l.cl.toArray ∧ LstOK Try.prog 3 (fun b => FP b ∨ (w.heap.size ≤ b ∧ b < w'.heap.size)) w' bat l ∧ l.many = 1 ∧ ∀ j, j < l.many → lstAt l j = if decide (p.r.drains = 0) = true then 7 else 0) := by
  have T : Kp0 w w := Kp.refl _ _
  refine calls_start Try.func41 rfl (n := 7) rfl rfl rfl ?_
  refine CW_seq ?_
  refine CW_reg rfl ?_
  refine OW_st rfl (Stp_box (l := [.int _ _, .slice _ _ _, .slice _ _ _, .slice _ _ _]) rfl rfl rfl ?_)
  intro b1 w1 hb1 hz1 E1 B1
  have L1 : _ ≤ b1 := Nat.le_trans T.size (Nat.le_of_eq hb1.symm)
  have hP := hP.keep0 E1
  have T := T.keep0 E1
  replace B1 : Blk w1 b1 51 (p.cl) := B1
  refine OW_st rfl (Stp_alloc zero_79 rfl ?_)
  intro b2 w2 hb2 hz2 E2 B2
  have L2 : _ ≤ b2 := Nat.le_trans T.size (Nat.le_of_eq hb2.symm)
  have hP := hP.keep0 E2
  have T := T.keep0 E2
  have B1 := B1.keep0 E2
  refine OW_nil ?_
  refine CW_seq ?_
  refine CW_reg rfl ?_
  refine OW_ev (Ev_makeFunc rfl rfl rfl) rfl ?_
  refine OW_ev (Ev_build (l := [.int _ _, _]) plc_85 zero_85 rfl rfl rfl) rfl ?_
  refine OW_st rfl (Stp_buildSlice (l := [_, _]) el_77 zero_85 rfl rfl rfl rfl ?_)
  intro b3 w3 hb3 hz3 E3 B3
  have L3 : _ ≤ b3 := Nat.le_trans T.size (Nat.le_of_eq hb3.symm)
  have hP := hP.keep0 E3
  have T := T.keep0 E3
  have B1 := B1.keep0 E3
  have B2 := B2.keep0 E3
  obtain ⟨bR, rfl⟩ : ∃ b, b = b3 := ⟨_, rfl⟩
  have BR := B3
  refine OW_ev (Ev_build (l := [.int _ _, .slice _ _ _]) plc_79 zero_79 rfl rfl rfl) rfl ?_
  refine OW_st rfl (Stp_store (q := 0) (vs := [.int _ _, .slice _ _ _]) B2 siz_79 rfl rfl rfl rfl (Nat.le_of_ble_eq_true rfl) rfl ?_)
  intro w4 hz4 E4 B4
  have Z4 := E4.size
  have hP := hP.keepb E4 (fun h => by have := (hFP _ h).1; omega)
  have T := T.transb E4 (by omega)
  have B1 := B1.keepb E4 (by intro h; first | omega | (change _ < _ at h; omega) | (change _ ≤ _ at h; omega) | (have h1 := h.1; have h2 := h.2; first | omega | (change _ ≤ _ at h1; omega) | (change _ < _ at h1; omega)))
  have BR := BR.keepb E4 (by intro h; first | omega | (change _ < _ at h; omega) | (change _ ≤ _ at h; omega) | (have h1 := h.1; have h2 := h.2; first | omega | (change _ ≤ _ at h1; omega) | (change _ < _ at h1; omega)))
  clear B2
  have B2 : Blk _ _ _ [_, _] := B4
  clear B4
  refine OW_nil ?_
  refine CW_ret ?_
  refine ⟨rfl, _, (.cell rfl (ld_agg agg_79 (B2.sub 0 2 (Nat.le_of_ble_eq_true rfl)) rfl) .nil), ?_⟩
  have hTs := T.size
  refine ⟨T, ⟨1, bR, [⟨7, 57, [.pointer (some ⟨b1, 0, none⟩)], fun _ => decide (p.r.drains = 0)⟩]⟩, rfl, ⟨fun b hb => by rcases hb with h | h; (have := hFP b h; exact ⟨by omega, this.2⟩); exact ⟨h.2, by omega⟩, (Sl.ofBlk (es := List.map Rule.cl [⟨7, 57, [.pointer (some ⟨b1, 0, none⟩)], fun _ => decide (p.r.drains = 0)⟩]) BR (by simp [Rule.cl])).mono (fun b _ hb => by have hb' : b = bR := hb; have := BR.lt; exact .inr ⟨by omega, by omega⟩), by simp, by simp only; omega, fun k r hk => ?_⟩, rfl, fun j hj => lst1 ⟨1, bR, [⟨7, 57, [.pointer (some ⟨b1, 0, none⟩)], fun _ => decide (p.r.drains = 0)⟩]⟩ rfl j⟩
  rcases k with _ | k
  · simp at hk; subst hk; exact ⟨(by intro h; cases h), ent_57, fun w2 hf j hj BA => trace1_c (hP.keep (hf.sub fun b hb _ => .inl hb)) (by omega) (B1.fix hf (.inr ⟨by omega, B1.lt⟩))⟩
  · simp at hk

set_option maxRecDepth 10000 in
set_option maxHeartbeats 2000000 in
theorem channels_c {FP : Nat → Prop} {w : World} {p : PlnM} {bat : Nat} (hP : PlnS FP w p) (hFP : ∀ b, FP b → b < w.heap.size ∧ b ≠ bat) (hsm : p.ps.length ≤ 1000 ∧ p.ws.length ≤ 1000 ∧ p.cs.length ≤ 1000) (hbat : bat < w.heap.size) : Calls Try.prog 42 #[.agg p.cl.toArray, .pointer (some ⟨bat, 0, none⟩)] w (Ret fun v w' => Kp0 w w' ∧ ∃ l : Lst, v = .agg l.cl.toArray ∧ LstOK Try.prog 3 (fun b => FP b ∨ (w.heap.size ≤ b ∧ b < w'.heap.size)) w' bat l ∧ l.many = p.cs.length ∧ ∀ j, j < l.many → lstAt l j = match p.cs[j]? with | none => 0 | some x => if ch1 x = true then 12 else if ch2 p.ps.length x = true then 1 else if ch3 x = true then 2 else 0) := by
  have T : Kp0 w w := Kp.refl _ _
  refine calls_start Try.func42 rfl (n := 21) rfl rfl rfl ?_
  refine CW_seq ?_
  refine CW_reg rfl ?_
  refine OW_st rfl (Stp_box (l := [.int _ _, .slice _ _ _, .slice _ _ _, .slice _ _ _]) rfl rfl rfl ?_)
  intro b1 w1 hb1 hz1 E1 B1
  have L1 : _ ≤ b1 := Nat.le_trans T.size (Nat.le_of_eq hb1.symm)
  have hP := hP.keep0 E1
  have T := T.keep0 E1
  replace B1 : Blk w1 b1 51 (p.cl) := B1
  refine OW_st rfl (Stp_box (l := [.pointer _]) rfl rfl rfl ?_)
  intro b2 w2 hb2 hz2 E2 B2
  have L2 : _ ≤ b2 := Nat.le_trans T.size (Nat.le_of_eq hb2.symm)
  have hP := hP.keep0 E2
  have T := T.keep0 E2
  have B1 := B1.keep0 E2
  refine OW_st rfl (Stp_alloc zero_79 rfl ?_)
  intro b3 w3 hb3 hz3 E3 B3
  have L3 : _ ≤ b3 := Nat.le_trans T.size (Nat.le_of_eq hb3.symm)
  have hP := hP.keep0 E3
  have T := T.keep0 E3
  have B1 := B1.keep0 E3
  have B2 := B2.keep0 E3
  refine OW_nil ?_
  refine CW_seq ?_
  refine CW_reg rfl ?_
  refine OW_ev (Ev_fieldAddr fld_51_1 rfl rfl) rfl ?_
  refine OW_ev (Ev_load one_47 rfl rfl (B1.ld (q := 1) rfl)) rfl ?_
  refine OW_ev (Ev_len und_47 rfl rfl) rfl ?_
  refine OW_ev (Ev_sub rfl rfl rfl (by first | (apply IntWalk.i64_in; omega) | (apply IntWalk.u64_in; omega) | (apply IntWalk.u32_in; omega) | (apply IntWalk.u8_in; omega) | (apply IntWalk.i32_in; omega) | rfl)) rfl ?_
  refine OW_st rfl (Stp_alloc zero_3 rfl ?_)
  intro b4 w4 hb4 hz4 E4 B4
  have L4 : _ ≤ b4 := Nat.le_trans T.size (Nat.le_of_eq hb4.symm)
  have hP := hP.keep0 E4
  have T := T.keep0 E4
  have B1 := B1.keep0 E4
  have B2 := B2.keep0 E4
  have B3 := B3.keep0 E4
  refine OW_st rfl (Stp_store (q := 0) (vs := [.int _ _]) B4 siz_3 rfl rfl rfl rfl (Nat.le_of_ble_eq_true rfl) rfl ?_)
  intro w5 hz5 E5 B5
  have Z5 := E5.size
  have hP := hP.keepb E5 (fun h => by have := (hFP _ h).1; omega)
  have T := T.transb E5 (by omega)
  have B1 := B1.keepb E5 (by intro h; first | omega | (change _ < _ at h; omega) | (change _ ≤ _ at h; omega) | (have h1 := h.1; have h2 := h.2; first | omega | (change _ ≤ _ at h1; omega) | (change _ < _ at h1; omega)))
  have B2 := B2.keepb E5 (by intro h; first | omega | (change _ < _ at h; omega) | (change _ ≤ _ at h; omega) | (have h1 := h.1; have h2 := h.2; first | omega | (change _ ≤ _ at h1; omega) | (change _ < _ at h1; omega)))
  have B3 := B3.keepb E5 (by intro h; first | omega | (change _ < _ at h; omega) | (change _ ≤ _ at h; omega) | (have h1 := h.1; have h2 := h.2; first | omega | (change _ ≤ _ at h1; omega) | (change _ < _ at h1; omega)))
  clear B4
  have B4 : Blk _ _ _ [_] := B5
  clear B5
  refine OW_nil ?_
  refine CW_seq ?_
  refine CW_reg rfl ?_
  refine OW_ev (Ev_fieldAddr fld_51_3 rfl rfl) rfl ?_
  refine OW_ev (Ev_load one_49 rfl rfl (B1.ld (q := 3) rfl)) rfl ?_
  refine OW_ev (Ev_len und_49 rfl rfl) rfl ?_
  refine OW_ev (Ev_makeFunc rfl rfl rfl) rfl ?_
  refine OW_ev (Ev_build (l := [.int _ _, _]) plc_85 zero_85 rfl rfl rfl) rfl ?_
  refine OW_ev (Ev_makeFunc rfl rfl rfl) rfl ?_
  refine OW_ev (Ev_build (l := [.int _ _, _]) plc_85 zero_85 rfl rfl rfl) rfl ?_
  refine OW_ev (Ev_makeFunc rfl rfl rfl) rfl ?_
  refine OW_ev (Ev_build (l := [.int _ _, _]) plc_85 zero_85 rfl rfl rfl) rfl ?_
  refine OW_st rfl (Stp_buildSlice (l := [_, _, _, _, _, _]) el_77 zero_85 rfl rfl rfl rfl ?_)
  intro b6 w6 hb6 hz6 E6 B6
  have L6 : _ ≤ b6 := Nat.le_trans T.size (Nat.le_of_eq hb6.symm)
  have hP := hP.keep0 E6
  have T := T.keep0 E6
  have B1 := B1.keep0 E6
  have B2 := B2.keep0 E6
  have B3 := B3.keep0 E6
  have B4 := B4.keep0 E6
  obtain ⟨bR, rfl⟩ : ∃ b, b = b6 := ⟨_, rfl⟩
  have BR := B6
  refine OW_ev (Ev_build (l := [.int _ _, .slice _ _ _]) plc_79 zero_79 rfl rfl rfl) rfl ?_
  refine OW_st rfl (Stp_store (q := 0) (vs := [.int _ _, .slice _ _ _]) B3 siz_79 rfl rfl rfl rfl (Nat.le_of_ble_eq_true rfl) rfl ?_)
  intro w7 hz7 E7 B7
  have Z7 := E7.size
  have hP := hP.keepb E7 (fun h => by have := (hFP _ h).1; omega)
  have T := T.transb E7 (by omega)
  have B1 := B1.keepb E7 (by intro h; first | omega | (change _ < _ at h; omega) | (change _ ≤ _ at h; omega) | (have h1 := h.1; have h2 := h.2; first | omega | (change _ ≤ _ at h1; omega) | (change _ < _ at h1; omega)))
  have B2 := B2.keepb E7 (by intro h; first | omega | (change _ < _ at h; omega) | (change _ ≤ _ at h; omega) | (have h1 := h.1; have h2 := h.2; first | omega | (change _ ≤ _ at h1; omega) | (change _ < _ at h1; omega)))
  have B4 := B4.keepb E7 (by intro h; first | omega | (change _ < _ at h; omega) | (change _ ≤ _ at h; omega) | (have h1 := h.1; have h2 := h.2; first | omega | (change _ ≤ _ at h1; omega) | (change _ < _ at h1; omega)))
  have BR := BR.keepb E7 (by intro h; first | omega | (change _ < _ at h; omega) | (change _ ≤ _ at h; omega) | (have h1 := h.1; have h2 := h.2; first | omega | (change _ ≤ _ at h1; omega) | (change _ < _ at h1; omega)))
  clear B3
  have B3 : Blk _ _ _ [_, _] := B7
  clear B7
  refine OW_nil ?_
  refine CW_ret ?_
  refine ⟨rfl, _, (.cell rfl (ld_agg agg_79 (B3.sub 0 2 (Nat.le_of_ble_eq_true rfl)) rfl) .nil), ?_⟩
  have hTs := T.size
  refine ⟨T, ⟨p.cs.length, bR, [⟨12, 59, [.pointer (some ⟨b1, 0, none⟩), .pointer (some ⟨b2, 0, none⟩)], fun j => match p.cs[j]? with | none => false | some x => ch1 x⟩, ⟨1, 60, [.pointer (some ⟨b1, 0, none⟩), .pointer (some ⟨b2, 0, none⟩), .pointer (some ⟨b4, 0, none⟩)], fun j => match p.cs[j]? with | none => false | some x => ch2 p.ps.length x⟩, ⟨2, 61, [.pointer (some ⟨b1, 0, none⟩), .pointer (some ⟨b2, 0, none⟩)], fun j => match p.cs[j]? with | none => false | some x => ch3 x⟩]⟩, rfl, ⟨fun b hb => by rcases hb with h | h; (have := hFP b h; exact ⟨by omega, this.2⟩); exact ⟨h.2, by omega⟩, (Sl.ofBlk (es := List.map Rule.cl [⟨12, 59, [.pointer (some ⟨b1, 0, none⟩), .pointer (some ⟨b2, 0, none⟩)], fun j => match p.cs[j]? with | none => false | some x => ch1 x⟩, ⟨1, 60, [.pointer (some ⟨b1, 0, none⟩), .pointer (some ⟨b2, 0, none⟩), .pointer (some ⟨b4, 0, none⟩)], fun j => match p.cs[j]? with | none => false | some x => ch2 p.ps.length x⟩, ⟨2, 61, [.pointer (some ⟨b1, 0, none⟩), .pointer (some ⟨b2, 0, none⟩)], fun j => match p.cs[j]? with | none => false | some x => ch3 x⟩]) BR (by simp [Rule.cl])).mono (fun b _ hb => by have hb' : b = bR := hb; have := BR.lt; exact .inr ⟨by omega, by omega⟩), by simp, by simp only; omega, fun k r hk => ?_⟩, rfl, fun j hj => by obtain ⟨x, hm, _, _⟩ := getC (cs := p.cs) (j := j) hj; rw [lst3 ⟨p.cs.length, bR, [⟨12, 59, [.pointer (some ⟨b1, 0, none⟩), .pointer (some ⟨b2, 0, none⟩)], fun j => match p.cs[j]? with | none => false | some x => ch1 x⟩, ⟨1, 60, [.pointer (some ⟨b1, 0, none⟩), .pointer (some ⟨b2, 0, none⟩), .pointer (some ⟨b4, 0, none⟩)], fun j => match p.cs[j]? with | none => false | some x => ch2 p.ps.length x⟩, ⟨2, 61, [.pointer (some ⟨b1, 0, none⟩), .pointer (some ⟨b2, 0, none⟩)], fun j => match p.cs[j]? with | none => false | some x => ch3 x⟩]⟩ rfl (by intro h; cases h) (by intro h; cases h)]; simp only [hm]⟩
  rcases k with _ | k
  · simp at hk; subst hk; exact ⟨(by intro h; cases h), ent_59, fun w2 hf j hj BA => by obtain ⟨x, hm, _, _⟩ := getC (cs := p.cs) (j := j) hj; have hc := chan1_c (hP.keep (hf.sub fun b hb _ => .inl hb)) (B1.fix hf (.inr ⟨by omega, B1.lt⟩)) (B2.fix hf (.inr ⟨by omega, B2.lt⟩)) BA hm; simpa only [hm] using hc⟩
  rcases k with _ | k
  · simp at hk; subst hk; exact ⟨(by intro h; cases h), ent_60, fun w2 hf j hj BA => by obtain ⟨x, hm, _, _⟩ := getC (cs := p.cs) (j := j) hj; have hc := chan2_c (hP.keep (hf.sub fun b hb _ => .inl hb)) (B1.fix hf (.inr ⟨by omega, B1.lt⟩)) (B2.fix hf (.inr ⟨by omega, B2.lt⟩)) BA hm (B4.fix hf (.inr ⟨by omega, B4.lt⟩)); simpa only [hm] using hc⟩
  rcases k with _ | k
  · simp at hk; subst hk; exact ⟨(by intro h; cases h), ent_61, fun w2 hf j hj BA => by obtain ⟨x, hm, _, _⟩ := getC (cs := p.cs) (j := j) hj; have hc := chan3_c (hP.keep (hf.sub fun b hb _ => .inl hb)) (B1.fix hf (.inr ⟨by omega, B1.lt⟩)) (B2.fix hf (.inr ⟨by omega, B2.lt⟩)) BA hm; simpa only [hm] using hc⟩
  · simp at hk

end Go.Proofs.Ytiedmigdgelhkaa