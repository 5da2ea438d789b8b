/- strings.Repeat at this program: the shelf's contract, laid by the shelf's tool in its plain mode; and as it is used here. -/
import Derived.Shelf.Strings.Repeat
import Derived.KernelRfl
import Derived.Test.YthfelkjklnhdiaaHead4
namespace Go.Proofs.Ythfelkjklnhdiaa
open Go Go.Shelf Go.RowKit Go.Lib Go.Proofs
def lays105_ren : Go.Shelf.Ren := ⟨fun | 105 => 46 | 212 => 52 | 99 => 53 | 165 => 54 | 166 => 32 | 170 => 55 | 169 => 33 | 263 => 58 | 264 => 59 | 206 => 60 | 240 => 45 | 241 => 61 | 276 => 51 | 277 => 64 | n => n, fun | 9 => 9 | 3 => 3 | 4 => 4 | 20 => 20 | 0 => 0 | 46 => 109 | 109 => 110 | 5 => 5 | 72 => 75 | 76 => 78 | 51 => 118 | 146 => 119 | 53 => 42 | 148 => 121 | 70 => 73 | 37 => 38 | 75 => 77 | 127 => 95 | 164 => 107 | 80 => 32 | n => n, fun | n => n⟩
theorem lays105 : Go.Proofs.Lays.n105 Try.prog lays105_ren := {
  mixed := by kernel_rfl
  f99 := Try.func53.trans (congrArg some (by kernel_rfl))
  f105 := Try.func46.trans (congrArg some (by kernel_rfl))
  f165 := Try.func54.trans (congrArg some (by kernel_rfl))
  f166 := Try.func32.trans (congrArg some (by kernel_rfl))
  f169 := Try.func33.trans (congrArg some (by kernel_rfl))
  f170 := Try.func55.trans (congrArg some (by kernel_rfl))
  f206 := Try.func60.trans (congrArg some (by kernel_rfl))
  f212 := Try.func52.trans (congrArg some (by kernel_rfl))
  f240 := Try.func45.trans (congrArg some (by kernel_rfl))
  f241 := Try.func61.trans (congrArg some (by kernel_rfl))
  f263 := Try.func58.trans (congrArg some (by kernel_rfl))
  f264 := Try.func59.trans (congrArg some (by kernel_rfl))
  f276 := Try.func51.trans (congrArg some (by kernel_rfl))
  f277 := Try.func64.trans (congrArg some (by kernel_rfl))
  t0 := Try.underlying0
  a0 := Try.isAgg0
  z0 := Try.sizeOf0
  v0 := Try.zeroValue0
  t3 := Try.underlying3
  a3 := Try.isAgg3
  z3 := Try.sizeOf3
  v3 := Try.zeroValue3
  t4 := Try.underlying4
  a4 := Try.isAgg4
  z4 := Try.sizeOf4
  v4 := Try.zeroValue4
  t5 := Try.underlying5
  a5 := Try.isAgg5
  z5 := Try.sizeOf5
  v5 := Try.zeroValue5
  t9 := Try.underlying9
  a9 := Try.isAgg9
  z9 := Try.sizeOf9
  v9 := Try.zeroValue9
  t20 := Try.underlying20
  a20 := Try.isAgg20
  z20 := Try.sizeOf20
  v20 := Try.zeroValue20
  t37 := Try.underlying38
  a37 := Try.isAgg38
  z37 := Try.sizeOf38
  v37 := Try.zeroValue38
  t46 := Try.underlying109
  a46 := Try.isAgg109
  z46 := Try.sizeOf109
  v46 := Try.zeroValue109
  t51 := Try.underlying118
  a51 := Try.isAgg118
  z51 := Try.sizeOf118
  v51 := Try.zeroValue118
  t53 := Try.underlying42
  a53 := Try.isAgg42
  z53 := Try.sizeOf42
  v53 := Try.zeroValue42
  t70 := Try.underlying73
  a70 := Try.isAgg73
  z70 := Try.sizeOf73
  v70 := Try.zeroValue73
  t72 := Try.underlying75
  a72 := Try.isAgg75
  z72 := Try.sizeOf75
  v72 := Try.zeroValue75
  t75 := Try.underlying77
  a75 := Try.isAgg77
  z75 := Try.sizeOf77
  v75 := Try.zeroValue77
  t76 := Try.underlying78
  a76 := Try.isAgg78
  z76 := Try.sizeOf78
  v76 := Try.zeroValue78
  t109 := Try.underlying110
  a109 := Try.isAgg110
  z109 := Try.sizeOf110
  v109 := Try.zeroValue110
  t127 := Try.underlying95
  a127 := Try.isAgg95
  z127 := Try.sizeOf95
  v127 := Try.zeroValue95
  t146 := Try.underlying119
  a146 := Try.isAgg119
  z146 := Try.sizeOf119
  v146 := Try.zeroValue119
  t148 := Try.underlying121
  a148 := Try.isAgg121
  z148 := Try.sizeOf121
  v148 := Try.zeroValue121
  t164 := Try.underlying107
  a164 := Try.isAgg107
  z164 := Try.sizeOf107
  v164 := Try.zeroValue107 }
theorem builderExtra105 : Builder.Extra Try.prog lays105_ren := {
  sizeBuilder := by kernel_rfl
  liesBuilder := by kernel_rfl
  t5 := Try.underlying5
  a5 := Try.isAgg5
  z5 := Try.sizeOf5
  v5 := Try.zeroValue5
  infoByte := by kernel_rfl
  cellsByte := by kernel_rfl
  sizeByte := by kernel_rfl
  neB5 := by decide }
theorem strings_Repeat_ (s : ByteArray) (c : Nat) (w : World) (hc : c ≤ 9223372036854775807) (hlen : s.size * c ≤ 140737488355328) :
    Calls Try.prog 46 #[.string s, .int .i64 c] w fun e w' => e = .returned (.string ⟨(Lib.repeatL s.data.toList c).toArray⟩) ∧ Below w.heap.size w w' := Any.strings_Repeat lays105 builderExtra105 s c w hc hlen
theorem repeat0 (c : Nat) : Lib.repeatL [(0 : UInt8)] c = List.replicate c 0 := by
  induction c with
  | zero => rfl
  | succ c ih => rw [List.replicate_succ, ← ih]; rfl
open Bx in
theorem repeat_c (w : World) (c : Nat) (hc : c ≤ 1000000) : Calls Try.prog 46 #[St [0], .int .i64 (c : Int)] w (Ret fun v w' => Kp0 w w' ∧ v = St (List.replicate c 0)) := by
  refine (strings_Repeat_ ⟨#[0]⟩ c w (by omega) (by show 1 * c ≤ _; omega)).mono fun e w' h => ?_
  obtain ⟨rfl, hb⟩ := h
  refine ⟨⟨hb.os, hb.tape, hb.output, hb.size, fun k hk _ => hb.block k hk⟩, ?_⟩
  show Value.string ⟨(Lib.repeatL [(0 : UInt8)] c).toArray⟩ = _
  rw [repeat0]
end Go.Proofs.Ythfelkjklnhdiaa
