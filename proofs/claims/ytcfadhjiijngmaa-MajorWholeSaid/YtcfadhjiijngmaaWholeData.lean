/- In as many ticks as a frame has each window begins once, in the order of the frame: the plain law of MajorWhole. No program in sight. -/
import Derived.Test.YtcfadhjiijngmaaMajorData
namespace Bx
open Go Go.RowKit
/-- The tick, and the slot, with which the window N begins, counted from the first frame's first one on. -/
def Pln.st (p : Pln) (N : Nat) : Int := ((N / p.ws.length : Nat) : Int) * p.frame + aheadT p.ws (N % p.ws.length)
def Pln.so (p : Pln) (N : Nat) : Slt := ⟨((N / p.ws.length : Nat) : Int), ((N % p.ws.length : Nat) : Int), 0⟩
section
variable {p : Pln} (h : p.Ok)
include h
theorem Pln.Ok.pos : 0 < p.ws.length := by have := h.wsl; omega
theorem Pln.Ok.getK {k : Nat} (hk : k < p.ws.length) : ∃ x, p.ws[k]? = some x ∧ p.wint (k : Int) = x.2 ∧ 1 ≤ x.2 ∧ aheadT p.ws (k + 1) = aheadT p.ws k + x.2 := by
  have hx : p.ws[k]? = some p.ws[k] := List.getElem?_eq_getElem hk
  have ht := h.ticks _ (List.getElem_mem hk)
  exact ⟨p.ws[k], hx, Pln.wint_eq hx, ht.1, aheadT_succ hx ht⟩
theorem Pln.Ok.succ_cases (N : Nat) : (N % p.ws.length + 1 < p.ws.length ∧ (N + 1) / p.ws.length = N / p.ws.length ∧ (N + 1) % p.ws.length = N % p.ws.length + 1) ∨
    (N % p.ws.length + 1 = p.ws.length ∧ (N + 1) / p.ws.length = N / p.ws.length + 1 ∧ (N + 1) % p.ws.length = 0) := by
  have hp := h.pos
  have hd := Nat.div_add_mod N p.ws.length
  have hm := Nat.mod_lt N hp
  by_cases hc : N % p.ws.length + 1 < p.ws.length
  · left
    have := (Nat.div_mod_unique (a := N + 1) (d := N / p.ws.length) (c := N % p.ws.length + 1) hp).2 ⟨by omega, hc⟩
    exact ⟨hc, this.1, this.2⟩
  · right
    have he : N % p.ws.length + 1 = p.ws.length := by omega
    have := (Nat.div_mod_unique (a := N + 1) (d := N / p.ws.length + 1) (c := 0) hp).2 ⟨by rw [Nat.mul_add]; omega, hp⟩
    exact ⟨he, this.1, this.2⟩
theorem Pln.Ok.st_succ (N : Nat) : p.st (N + 1) = p.st N + p.wint ((N % p.ws.length : Nat) : Int) := by
  obtain ⟨x, _, hw, _, ha⟩ := h.getK (Nat.mod_lt N h.pos)
  unfold Pln.st
  rcases h.succ_cases N with ⟨_, h2, h3⟩ | ⟨h1, h2, h3⟩
  · rw [h2, h3, ha, hw]; omega
  · rw [h2, h3, hw]
    rw [h1, ← Pln.Ok.frame_eq] at ha
    have h0 : aheadT p.ws 0 = 0 := by unfold aheadT; simp [ticksOf]
    rw [h0]
    push_cast
    rw [Int.add_mul]; omega
theorem Pln.Ok.follow_so (N : Nat) (s : Slt) (h1 : s.frame = ((N / p.ws.length : Nat) : Int)) (h2 : s.window = ((N % p.ws.length : Nat) : Int)) : p.follow s = p.so (N + 1) := by
  unfold Pln.follow Pln.so
  rw [h1, h2]
  rcases h.succ_cases N with ⟨g1, g2, g3⟩ | ⟨g1, g2, g3⟩
  · rw [if_pos (by omega), g2, g3]; rfl
  · rw [if_neg (by omega), g2, g3]; rfl
theorem Pln.Ok.st_lt (N : Nat) : p.st N < p.st (N + 1) := by
  obtain ⟨x, _, hw, h1, _⟩ := h.getK (Nat.mod_lt N h.pos)
  rw [h.st_succ, hw]; omega
theorem Pln.Ok.st_le (N d : Nat) : p.st N ≤ p.st (N + d) := by
  induction d with
  | zero => exact Int.le_refl _
  | succ d ih => have := h.st_lt (N + d); rw [← Nat.add_assoc]; omega
theorem Pln.Ok.st_frame (N : Nat) : p.st (N + p.ws.length) = p.st N + p.frame := by
  unfold Pln.st
  rw [Nat.add_div_right _ h.pos, Nat.add_mod_right]
  push_cast
  rw [Int.add_mul]; omega
theorem Pln.Ok.st_pos (N : Nat) : 0 ≤ p.st N := by
  have h1 := h.frame_bd
  have h2 := aheadT_bd (ws := p.ws) (N % p.ws.length)
  have := Int.mul_nonneg (Int.natCast_nonneg (N / p.ws.length)) (show 0 ≤ p.frame by omega)
  unfold Pln.st; omega
theorem Pln.Ok.slot_st (N : Nat) : p.slot (p.st N) = p.so N := by
  have hf := h.frame_bd
  obtain ⟨x, _, hw, h1, ha⟩ := h.getK (Nat.mod_lt N h.pos)
  have hle : aheadT p.ws (N % p.ws.length + 1) ≤ p.frame := by
    rw [Pln.Ok.frame_eq]; exact aheadT_le h.ticks (Nat.mod_lt N h.pos)
  have h0 := (aheadT_bd (ws := p.ws) (N % p.ws.length)).1
  have hm : p.st N % p.frame = aheadT p.ws (N % p.ws.length) := by
    unfold Pln.st
    rw [Int.add_comm, Int.add_mul_emod_self_right, Int.emod_eq_of_lt h0 (by omega)]
  have hd : p.st N / p.frame = ((N / p.ws.length : Nat) : Int) := by
    unfold Pln.st
    rw [Int.add_comm, Int.add_mul_ediv_right _ _ (by omega), Int.ediv_eq_zero_of_lt h0 (by omega), Int.zero_add]
  rw [h.slot_eq (k := N % p.ws.length) (by omega) (by omega), hm, hd, Int.sub_self]
  rfl
/-- The window of a tick. -/
theorem Pln.Ok.tick_win {n : Int} (hn : 0 ≤ n) : ∃ N : Nat, p.st N ≤ n ∧ n < p.st (N + 1) ∧ (p.slot n).frame = ((N / p.ws.length : Nat) : Int) ∧ (p.slot n).window = ((N % p.ws.length : Nat) : Int) ∧ (p.slot n).off = n - p.st N := by
  have hf := h.frame_bd
  obtain ⟨h1, h2, h3⟩ := h.win_spec n
  have hq : 0 ≤ n / p.frame := Int.ediv_nonneg hn (by omega)
  obtain ⟨q, hqe⟩ : ∃ q : Nat, n / p.frame = (q : Int) := ⟨(n / p.frame).toNat, by omega⟩
  have hN := (Nat.div_mod_unique (a := p.win n + p.ws.length * q) (d := q) (c := p.win n) h.pos).2 ⟨rfl, h1⟩
  have hst : p.st (p.win n + p.ws.length * q) = (q : Int) * p.frame + aheadT p.ws (p.win n) := by unfold Pln.st; rw [hN.1, hN.2]
  obtain ⟨x, _, hw, _, ha⟩ := h.getK h1
  have hs := h.st_succ (p.win n + p.ws.length * q)
  rw [hN.2, hw] at hs
  have hmd := Int.emod_add_mul_ediv n p.frame
  rw [hqe, Int.mul_comm] at hmd
  refine ⟨p.win n + p.ws.length * q, by omega, by omega, ?_, ?_, ?_⟩
  · rw [hN.1]; exact hqe
  · rw [hN.2]; rfl
  · show n % p.frame - aheadT p.ws (p.win n) = _; omega
theorem Pln.Ok.go_eq {to : Int} : ∀ (c k N : Nat), c ≤ k → (∀ i, i < c → p.st (N + i) < to ∧ isTick (p.st (N + i)) = true) → (c = k ∨ ¬ p.st (N + c) < to) → p.go to k (p.st N) (p.so N) = (List.range c).map fun i => p.so (N + i)
  | 0, 0, N, _, _, _ => rfl
  | 0, k + 1, N, _, _, he => by
    rcases he with he | he
    · omega
    · show (if _ then _ else _) = _
      rw [if_neg (fun hh => he hh.1)]; rfl
  | c + 1, 0, N, hc, _, _ => by omega
  | c + 1, k + 1, N, hc, hi, he => by
    have h0 := hi 0 (by omega)
    rw [Nat.add_zero] at h0
    show (if _ then _ else _) = _
    rw [if_pos h0]
    have hst : p.st N + p.wint (p.so N).window = p.st (N + 1) := (h.st_succ N).symm
    rw [hst, h.follow_so N (p.so N) rfl rfl, Pln.Ok.go_eq c k (N + 1) (by omega) (fun i hic => by have := hi (i + 1) (by omega); rw [show N + 1 + i = N + (i + 1) by omega]; exact this)
      (by rw [show N + 1 + c = N + (c + 1) by omega]; omega)]
    rw [List.range_succ_eq_map, List.map_cons, List.map_map]
    congr 1
    apply List.map_congr_left
    intro i _
    show p.so (N + 1 + i) = p.so (N + (i + 1))
    rw [show N + 1 + i = N + (i + 1) by omega]
end
theorem Pln.whole {p : Pln} (he : p.err = 0) {n : Int} (hn : 0 ≤ n ∧ n ≤ 549755813888) : ∃ N : Nat, (p.begins n (n + p.frame) = (List.range p.ws.length).map fun i => p.so (N + i)) ∧
    ∀ i, i < p.ws.length → p.tick (p.so (N + i)) = (p.st (N + i), 0) ∧ n ≤ p.st (N + i) ∧ p.st (N + i) < n + p.frame := by
  have h := Pln.ok_of he
  have hf := h.frame_bd
  have hw := h.wsl
  obtain ⟨M, h1, h2, h3, h4, h5⟩ := h.tick_win (n := n) hn.1
  have hat : p.at_ n = (p.slot n, 0) := by
    unfold Pln.at_
    rw [if_neg (by simp [he]), if_neg (by omega)]
  have key : ∃ N : Nat, n ≤ p.st N ∧ p.st (N + p.ws.length - 1) < n + p.frame ∧ p.begins n (n + p.frame) = p.go (n + p.frame) 1000 (p.st N) (p.so N) := by
    by_cases ho : 0 < (p.slot n).off
    · refine ⟨M + 1, by omega, ?_, ?_⟩
      · rw [show M + 1 + p.ws.length - 1 = M + p.ws.length by omega, h.st_frame]; omega
      · unfold Pln.begins
        rw [hat]
        simp only [ne_eq, not_true_eq_false, if_false]
        rw [if_pos ho, h.follow_so M _ h3 h4, h4, h5]
        have := h.st_succ M
        rw [show n + (p.wint ((M % p.ws.length : Nat) : Int) - (n - p.st M)) = p.st (M + 1) by omega]
    · have hM : p.st M = n := by omega
      refine ⟨M, by omega, ?_, ?_⟩
      · have h6 := h.st_lt (M + p.ws.length - 1)
        rw [show M + p.ws.length - 1 + 1 = M + p.ws.length by omega, h.st_frame] at h6
        omega
      · unfold Pln.begins
        rw [hat]
        simp only [ne_eq, not_true_eq_false, if_false]
        rw [if_neg ho]
        have hs : p.slot n = p.so M := by rw [← hM]; exact h.slot_st M
        rw [hs, hM]
  obtain ⟨N, k1, k2, k3⟩ := key
  have hin : ∀ i, i < p.ws.length → n ≤ p.st (N + i) ∧ p.st (N + i) < n + p.frame := by
    intro i hi
    have g1 := h.st_le N i
    have g2 := h.st_le (N + i) (p.ws.length - 1 - i)
    rw [show N + i + (p.ws.length - 1 - i) = N + p.ws.length - 1 by omega] at g2
    omega
  have htk : ∀ i, i < p.ws.length → isTick (p.st (N + i)) = true := by
    intro i hi
    have := hin i hi
    unfold isTick
    exact decide_eq_true (by omega)
  refine ⟨N, ?_, fun i hi => ⟨?_, hin i hi⟩⟩
  · rw [k3, h.go_eq p.ws.length 1000 N (by omega) (fun i hi => ⟨(hin i hi).2, htk i hi⟩) (.inr (by have := h.st_frame N; omega))]
  · have hi2 := hin i hi
    have hk := Nat.mod_lt (N + i) h.pos
    have hN : p.tickN (p.so (N + i)) = p.st (N + i) := by
      show ((((N + i) / p.ws.length : Nat) : Int)) * p.frame + aheadT p.ws (((N + i) % p.ws.length : Nat) : Int).toNat + 0 = _
      rw [Int.toNat_natCast, Int.add_zero]; rfl
    have hfr : (((N + i) / p.ws.length : Nat) : Int) ≤ p.st (N + i) := by
      have hq : (0 : Int) ≤ (((N + i) / p.ws.length : Nat) : Int) := Int.natCast_nonneg _
      have h2 := (aheadT_bd (ws := p.ws) ((N + i) % p.ws.length)).1
      have h3 := Int.mul_le_mul_of_nonneg_left (show 1 ≤ p.frame by omega) hq
      unfold Pln.st
      rw [Int.mul_one] at h3
      omega
    have hb : p.tickBad (p.so (N + i)) = false := by
      unfold Pln.tickBad Pln.so
      refine decide_eq_false ?_
      simp only
      have g0 : (0 : Int) ≤ (((N + i) / p.ws.length : Nat) : Int) := Int.natCast_nonneg _
      generalize (((N + i) / p.ws.length : Nat) : Int) = o at *
      omega
    unfold Pln.tick
    rw [if_neg (by simp [he]), if_neg (by simp [hb]), if_neg (by rw [hN, h.slot_st]; rintro (g | g | g); omega; omega; exact g rfl), hN]
theorem Pln.so_get {p : Pln} {N i : Nat} (hi : i < p.ws.length) : (((List.range p.ws.length).map fun i => p.so (N + i)))[i]? = some (p.so (N + i)) := by
  rw [List.getElem?_map, List.getElem?_range hi]; rfl
theorem Pln.so_next {p : Pln} (h : p.Ok) (M : Nat) : (p.so (M + 1)).window = ((p.so M).window + 1) % (p.ws.length : Int) := by
  unfold Pln.so
  simp only
  rcases h.succ_cases M with ⟨g1, g2, g3⟩ | ⟨g1, g2, g3⟩
  · rw [g3, Int.emod_eq_of_lt (by omega) (by omega)]; omega
  · rw [g3, show (((M % p.ws.length : Nat) : Int) + 1) = (p.ws.length : Int) by omega, Int.emod_self]; rfl
end Bx
