/-
  DERIVED: THE SHELF's CONTRACTS AT THIS DUMP, IN PLAIN WORDS (tools/lay-plain.mjs out of 'TryzIter.lean', which tools/lay-shelf.mjs wrote): THE SAME DECLARATIONS UNDER THE SAME NAMES: 'import', 'namespace', 'open', 'def', 'theorem' AND NOTHING ELSE: no command of the shelf's: FOR A HAND-IN. Each laying: the table of numbers ('.._ren') and one theorem, a field a fact of the dump's own or the kernel's comparison; each contract: ONE APPLICATION.
-/
import Derived.Shelf.SlIterI.Nil
import Derived.Shelf.SortM.Plain
import Derived.Shelf.SortM.SortNone
import Derived.Ground.GgzProg
import Derived.Ground.SlgmProg
import Derived.Test.YtofofjfmhaggmaaGreatDoorProg
import Derived.Shelf.SlIter.Nil
import Derived.Lib.ItoaNum
import Derived.Lib.Hide
import Derived.Laws.RangeAny
namespace Go.Proofs
open Go.Shelf
def Tryz.sortedA_ren : Go.Shelf.Ren := ⟨fun | 6 => 52 | 8 => 85 | 9 => 86 | 11 => 114 | 13 => 116 | 12 => 115 | 23 => 163 | 24 => 164 | 14 => 154 | 15 => 155 | 16 => 156 | 17 => 157 | 18 => 158 | 19 => 159 | 20 => 160 | 21 => 161 | 22 => 162 | 25 => 204 | 26 => 205 | 27 => 206 | 28 => 207 | 29 => 208 | 30 => 209 | 31 => 233 | n => n, fun | 26 => 3 | 28 => 114 | 24 => 22 | 0 => 0 | 3 => 3 | 37 => 103 | 48 => 233 | 50 => 235 | 4 => 4 | 40 => 225 | 39 => 224 | 45 => 230 | 5 => 5 | 9 => 9 | 51 => 269 | 55 => 273 | 57 => 301 | 58 => 302 | 33 => 85 | n => n, fun | n => n⟩
theorem Tryz.sortedA : Go.Proofs.SlLaysZI.n6 Tryz.prog Tryz.sortedA_ren := {
  mixed := by kernel_rfl
  f6 := ⟨Tryz.f52.name, by decide, Tryz.func52.trans (congrArg some (by kernel_rfl))⟩
  f8 := ⟨Tryz.f85.name, by decide, Tryz.func85.trans (congrArg some (by kernel_rfl))⟩
  f11 := ⟨Tryz.f114.name, by decide, Tryz.func114.trans (congrArg some (by kernel_rfl))⟩
  t0 := Tryz.underlying0
  a0 := Tryz.isAgg0
  z0 := Tryz.sizeOf0
  v0 := Tryz.zeroValue0
  t24 := Tryz.underlying22
  a24 := Tryz.isAgg22
  z24 := Tryz.sizeOf22
  v24 := Tryz.zeroValue22
  t26 := Tryz.underlying3
  a26 := Tryz.isAgg3
  z26 := Tryz.sizeOf3
  v26 := Tryz.zeroValue3
  t28 := Tryz.underlying114
  a28 := Tryz.isAgg114
  z28 := Tryz.sizeOf114
  v28 := Tryz.zeroValue114
  i26 := by kernel_rfl }
def Tryz.sortA_ren : Go.Shelf.Ren := ⟨fun | 5 => 86 | 8 => 116 | 7 => 115 | 19 => 163 | 20 => 164 | 10 => 154 | 11 => 155 | 12 => 156 | 13 => 157 | 14 => 158 | 15 => 159 | 16 => 160 | 17 => 161 | 18 => 162 | 30 => 204 | 31 => 205 | 32 => 206 | 33 => 207 | 34 => 208 | 35 => 209 | 40 => 233 | n => n, fun | 23 => 22 | 25 => 3 | 3 => 3 | 32 => 103 | 22 => 22 | 0 => 0 | 44 => 233 | 46 => 235 | 4 => 4 | 36 => 225 | 35 => 224 | 41 => 230 | 5 => 5 | 9 => 9 | 53 => 269 | 57 => 273 | 63 => 301 | 64 => 302 | n => n, fun | n => n⟩
theorem Tryz.sortA : Go.Proofs.SlLaysM.n5 Tryz.prog Tryz.sortA_ren := {
  mixed := by kernel_rfl
  f5 := ⟨Tryz.f86.name, by decide, Tryz.func86.trans (congrArg some (by kernel_rfl))⟩
  f7 := ⟨Tryz.f115.name, by decide, Tryz.func115.trans (congrArg some (by kernel_rfl))⟩
  f8 := Tryz.func116.trans (congrArg some (by kernel_rfl))
  f10 := ⟨Tryz.f154.name, by decide, Tryz.func154.trans (congrArg some (by kernel_rfl))⟩
  f11 := ⟨Tryz.f155.name, by decide, Tryz.func155.trans (congrArg some (by kernel_rfl))⟩
  f12 := ⟨Tryz.f156.name, by decide, Tryz.func156.trans (congrArg some (by kernel_rfl))⟩
  f13 := ⟨Tryz.f157.name, by decide, Tryz.func157.trans (congrArg some (by kernel_rfl))⟩
  f14 := ⟨Tryz.f158.name, by decide, Tryz.func158.trans (congrArg some (by kernel_rfl))⟩
  f15 := ⟨Tryz.f159.name, by decide, Tryz.func159.trans (congrArg some (by kernel_rfl))⟩
  f16 := ⟨Tryz.f160.name, by decide, Tryz.func160.trans (congrArg some (by kernel_rfl))⟩
  f17 := ⟨Tryz.f161.name, by decide, Tryz.func161.trans (congrArg some (by kernel_rfl))⟩
  f18 := ⟨Tryz.f162.name, by decide, Tryz.func162.trans (congrArg some (by kernel_rfl))⟩
  f19 := Tryz.func163.trans (congrArg some (by kernel_rfl))
  f20 := Tryz.func164.trans (congrArg some (by kernel_rfl))
  f30 := ⟨Tryz.f204.name, by decide, Tryz.func204.trans (congrArg some (by kernel_rfl))⟩
  f31 := Tryz.func205.trans (congrArg some (by kernel_rfl))
  f32 := Tryz.func206.trans (congrArg some (by kernel_rfl))
  f33 := ⟨Tryz.f207.name, by decide, Tryz.func207.trans (congrArg some (by kernel_rfl))⟩
  f34 := ⟨Tryz.f208.name, by decide, Tryz.func208.trans (congrArg some (by kernel_rfl))⟩
  f35 := ⟨Tryz.f209.name, by decide, Tryz.func209.trans (congrArg some (by kernel_rfl))⟩
  f40 := ⟨Tryz.f233.name, by decide, Tryz.func233.trans (congrArg some (by kernel_rfl))⟩
  t0 := Tryz.underlying0
  a0 := Tryz.isAgg0
  z0 := Tryz.sizeOf0
  v0 := Tryz.zeroValue0
  t3 := Tryz.underlying3
  a3 := Tryz.isAgg3
  z3 := Tryz.sizeOf3
  v3 := Tryz.zeroValue3
  t4 := Tryz.underlying4
  a4 := Tryz.isAgg4
  z4 := Tryz.sizeOf4
  v4 := Tryz.zeroValue4
  t5 := Tryz.underlying5
  a5 := Tryz.isAgg5
  z5 := Tryz.sizeOf5
  v5 := Tryz.zeroValue5
  t9 := Tryz.underlying9
  a9 := Tryz.isAgg9
  z9 := Tryz.sizeOf9
  v9 := Tryz.zeroValue9
  t22 := Tryz.underlying22
  a22 := Tryz.isAgg22
  z22 := Tryz.sizeOf22
  v22 := Tryz.zeroValue22
  t23 := Tryz.underlying22
  a23 := Tryz.isAgg22
  z23 := Tryz.sizeOf22
  v23 := Tryz.zeroValue22
  t25 := Tryz.underlying3
  a25 := Tryz.isAgg3
  z25 := Tryz.sizeOf3
  v25 := Tryz.zeroValue3
  t32 := Tryz.underlying103
  a32 := Tryz.isAgg103
  z32 := Tryz.sizeOf103
  v32 := Tryz.zeroValue103
  t35 := Tryz.underlying224
  a35 := Tryz.isAgg224
  z35 := Tryz.sizeOf224
  v35 := Tryz.zeroValue224
  t36 := Tryz.underlying225
  a36 := Tryz.isAgg225
  z36 := Tryz.sizeOf225
  v36 := Tryz.zeroValue225
  t41 := Tryz.underlying230
  a41 := Tryz.isAgg230
  z41 := Tryz.sizeOf230
  v41 := Tryz.zeroValue230
  t44 := Tryz.underlying233
  a44 := Tryz.isAgg233
  z44 := Tryz.sizeOf233
  v44 := Tryz.zeroValue233
  t46 := Tryz.underlying235
  a46 := Tryz.isAgg235
  z46 := Tryz.sizeOf235
  v46 := Tryz.zeroValue235
  t53 := Tryz.underlying269
  a53 := Tryz.isAgg269
  z53 := Tryz.sizeOf269
  v53 := Tryz.zeroValue269
  t57 := Tryz.underlying273
  a57 := Tryz.isAgg273
  z57 := Tryz.sizeOf273
  v57 := Tryz.zeroValue273
  t63 := Tryz.underlying301
  a63 := Tryz.isAgg301
  z63 := Tryz.sizeOf301
  v63 := Tryz.zeroValue301
  t64 := Tryz.underlying302
  a64 := Tryz.isAgg302
  z64 := Tryz.sizeOf302
  v64 := Tryz.zeroValue302 }
end Go.Proofs
/-!
  DERIVED: THE SHELF's CONTRACTS AT THIS DUMP, IN PLAIN WORDS (tools/lay-plain.mjs out of 'TryzIter2.lean', which tools/lay-shelf.mjs wrote): THE SAME DECLARATIONS UNDER THE SAME NAMES: 'import', 'namespace', 'open', 'def', 'theorem' AND NOTHING ELSE: no command of the shelf's: FOR A HAND-IN. Each laying: the table of numbers ('.._ren') and one theorem, a field a fact of the dump's own or the kernel's comparison; each contract: ONE APPLICATION.
-/
namespace Go.Proofs
open Go.Shelf
def Tryz.keysN_ren : Go.Shelf.Ren := ⟨fun | 7 => 126 | 10 => 185 | n => n, fun | 23 => 144 | 26 => 9 | 3 => 60 | 28 => 201 | 0 => 0 | 27 => 200 | 33 => 179 | 4 => 4 | n => n, fun | n => n⟩
theorem Tryz.keysN : Go.Proofs.SlLaysZ.n7 Tryz.prog Tryz.keysN_ren := {
  mixed := by kernel_rfl
  f7 := ⟨Tryz.f126.name, by decide, Tryz.func126.trans (congrArg some (by kernel_rfl))⟩
  f10 := ⟨Tryz.f185.name, by decide, Tryz.func185.trans (congrArg some (by kernel_rfl))⟩
  t0 := Tryz.underlying0
  a0 := Tryz.isAgg0
  z0 := Tryz.sizeOf0
  v0 := Tryz.zeroValue0
  t4 := Tryz.underlying4
  a4 := Tryz.isAgg4
  z4 := Tryz.sizeOf4
  v4 := Tryz.zeroValue4
  t23 := Tryz.underlying144
  a23 := Tryz.isAgg144
  z23 := Tryz.sizeOf144
  v23 := Tryz.zeroValue144
  t26 := Tryz.underlying9
  a26 := Tryz.isAgg9
  z26 := Tryz.sizeOf9
  v26 := Tryz.zeroValue9
  t27 := Tryz.underlying200
  a27 := Tryz.isAgg200
  z27 := Tryz.sizeOf200
  v27 := Tryz.zeroValue200
  t28 := Tryz.underlying201
  a28 := Tryz.isAgg201
  z28 := Tryz.sizeOf201
  v28 := Tryz.zeroValue201
  t33 := Tryz.underlying179
  a33 := Tryz.isAgg179
  z33 := Tryz.sizeOf179
  v33 := Tryz.zeroValue179 }
def Tryz.sortedN_ren : Go.Shelf.Ren := ⟨fun | 6 => 125 | 8 => 183 | 9 => 184 | 11 => 223 | 13 => 116 | 12 => 224 | 23 => 163 | 24 => 164 | 14 => 239 | 15 => 240 | 16 => 241 | 17 => 242 | 18 => 243 | 19 => 244 | 20 => 245 | 21 => 246 | 22 => 247 | 25 => 262 | 26 => 205 | 27 => 206 | 28 => 263 | 29 => 264 | 30 => 265 | 31 => 276 | n => n, fun | 26 => 9 | 28 => 201 | 24 => 39 | 0 => 0 | 3 => 3 | 37 => 103 | 48 => 233 | 50 => 235 | 4 => 4 | 40 => 225 | 39 => 224 | 45 => 230 | 5 => 5 | 9 => 9 | 51 => 269 | 55 => 273 | 57 => 301 | 58 => 302 | 33 => 179 | n => n, fun | n => n⟩
theorem Tryz.sortedN : Go.Proofs.SlLaysZ.n6 Tryz.prog Tryz.sortedN_ren := {
  mixed := by kernel_rfl
  f6 := ⟨Tryz.f125.name, by decide, Tryz.func125.trans (congrArg some (by kernel_rfl))⟩
  f8 := ⟨Tryz.f183.name, by decide, Tryz.func183.trans (congrArg some (by kernel_rfl))⟩
  f11 := ⟨Tryz.f223.name, by decide, Tryz.func223.trans (congrArg some (by kernel_rfl))⟩
  t0 := Tryz.underlying0
  a0 := Tryz.isAgg0
  z0 := Tryz.sizeOf0
  v0 := Tryz.zeroValue0
  t24 := Tryz.underlying39
  a24 := Tryz.isAgg39
  z24 := Tryz.sizeOf39
  v24 := Tryz.zeroValue39
  t26 := Tryz.underlying9
  a26 := Tryz.isAgg9
  z26 := Tryz.sizeOf9
  v26 := Tryz.zeroValue9
  t28 := Tryz.underlying201
  a28 := Tryz.isAgg201
  z28 := Tryz.sizeOf201
  v28 := Tryz.zeroValue201
  i26 := by kernel_rfl }
def Tryz.sortN_ren : Go.Shelf.Ren := ⟨fun | 6 => 184 | 8 => 116 | 9 => 224 | 19 => 163 | 20 => 164 | 21 => 239 | 22 => 240 | 23 => 241 | 24 => 242 | 25 => 243 | 26 => 244 | 27 => 245 | 28 => 246 | 29 => 247 | 36 => 262 | 31 => 205 | 32 => 206 | 37 => 263 | 38 => 264 | 39 => 265 | 41 => 276 | n => n, fun | 27 => 39 | 29 => 9 | 3 => 3 | 32 => 103 | 26 => 39 | 0 => 0 | 44 => 233 | 46 => 235 | 4 => 4 | 36 => 225 | 35 => 224 | 41 => 230 | 5 => 5 | 9 => 9 | 53 => 269 | 57 => 273 | 63 => 301 | 64 => 302 | n => n, fun | n => n⟩
theorem Tryz.sortN : Go.Proofs.SlLaysM.n6 Tryz.prog Tryz.sortN_ren := {
  mixed := by kernel_rfl
  f6 := ⟨Tryz.f184.name, by decide, Tryz.func184.trans (congrArg some (by kernel_rfl))⟩
  f8 := Tryz.func116.trans (congrArg some (by kernel_rfl))
  f9 := ⟨Tryz.f224.name, by decide, Tryz.func224.trans (congrArg some (by kernel_rfl))⟩
  f19 := Tryz.func163.trans (congrArg some (by kernel_rfl))
  f20 := Tryz.func164.trans (congrArg some (by kernel_rfl))
  f21 := ⟨Tryz.f239.name, by decide, Tryz.func239.trans (congrArg some (by kernel_rfl))⟩
  f22 := ⟨Tryz.f240.name, by decide, Tryz.func240.trans (congrArg some (by kernel_rfl))⟩
  f23 := ⟨Tryz.f241.name, by decide, Tryz.func241.trans (congrArg some (by kernel_rfl))⟩
  f24 := ⟨Tryz.f242.name, by decide, Tryz.func242.trans (congrArg some (by kernel_rfl))⟩
  f25 := ⟨Tryz.f243.name, by decide, Tryz.func243.trans (congrArg some (by kernel_rfl))⟩
  f26 := ⟨Tryz.f244.name, by decide, Tryz.func244.trans (congrArg some (by kernel_rfl))⟩
  f27 := ⟨Tryz.f245.name, by decide, Tryz.func245.trans (congrArg some (by kernel_rfl))⟩
  f28 := ⟨Tryz.f246.name, by decide, Tryz.func246.trans (congrArg some (by kernel_rfl))⟩
  f29 := ⟨Tryz.f247.name, by decide, Tryz.func247.trans (congrArg some (by kernel_rfl))⟩
  f31 := Tryz.func205.trans (congrArg some (by kernel_rfl))
  f32 := Tryz.func206.trans (congrArg some (by kernel_rfl))
  f36 := ⟨Tryz.f262.name, by decide, Tryz.func262.trans (congrArg some (by kernel_rfl))⟩
  f37 := ⟨Tryz.f263.name, by decide, Tryz.func263.trans (congrArg some (by kernel_rfl))⟩
  f38 := ⟨Tryz.f264.name, by decide, Tryz.func264.trans (congrArg some (by kernel_rfl))⟩
  f39 := ⟨Tryz.f265.name, by decide, Tryz.func265.trans (congrArg some (by kernel_rfl))⟩
  f41 := ⟨Tryz.f276.name, by decide, Tryz.func276.trans (congrArg some (by kernel_rfl))⟩
  t0 := Tryz.underlying0
  a0 := Tryz.isAgg0
  z0 := Tryz.sizeOf0
  v0 := Tryz.zeroValue0
  t3 := Tryz.underlying3
  a3 := Tryz.isAgg3
  z3 := Tryz.sizeOf3
  v3 := Tryz.zeroValue3
  t4 := Tryz.underlying4
  a4 := Tryz.isAgg4
  z4 := Tryz.sizeOf4
  v4 := Tryz.zeroValue4
  t5 := Tryz.underlying5
  a5 := Tryz.isAgg5
  z5 := Tryz.sizeOf5
  v5 := Tryz.zeroValue5
  t9 := Tryz.underlying9
  a9 := Tryz.isAgg9
  z9 := Tryz.sizeOf9
  v9 := Tryz.zeroValue9
  t26 := Tryz.underlying39
  a26 := Tryz.isAgg39
  z26 := Tryz.sizeOf39
  v26 := Tryz.zeroValue39
  t27 := Tryz.underlying39
  a27 := Tryz.isAgg39
  z27 := Tryz.sizeOf39
  v27 := Tryz.zeroValue39
  t29 := Tryz.underlying9
  a29 := Tryz.isAgg9
  z29 := Tryz.sizeOf9
  v29 := Tryz.zeroValue9
  t32 := Tryz.underlying103
  a32 := Tryz.isAgg103
  z32 := Tryz.sizeOf103
  v32 := Tryz.zeroValue103
  t35 := Tryz.underlying224
  a35 := Tryz.isAgg224
  z35 := Tryz.sizeOf224
  v35 := Tryz.zeroValue224
  t36 := Tryz.underlying225
  a36 := Tryz.isAgg225
  z36 := Tryz.sizeOf225
  v36 := Tryz.zeroValue225
  t41 := Tryz.underlying230
  a41 := Tryz.isAgg230
  z41 := Tryz.sizeOf230
  v41 := Tryz.zeroValue230
  t44 := Tryz.underlying233
  a44 := Tryz.isAgg233
  z44 := Tryz.sizeOf233
  v44 := Tryz.zeroValue233
  t46 := Tryz.underlying235
  a46 := Tryz.isAgg235
  z46 := Tryz.sizeOf235
  v46 := Tryz.zeroValue235
  t53 := Tryz.underlying269
  a53 := Tryz.isAgg269
  z53 := Tryz.sizeOf269
  v53 := Tryz.zeroValue269
  t57 := Tryz.underlying273
  a57 := Tryz.isAgg273
  z57 := Tryz.sizeOf273
  v57 := Tryz.zeroValue273
  t63 := Tryz.underlying301
  a63 := Tryz.isAgg301
  z63 := Tryz.sizeOf301
  v63 := Tryz.zeroValue301
  t64 := Tryz.underlying302
  a64 := Tryz.isAgg302
  z64 := Tryz.sizeOf302
  v64 := Tryz.zeroValue302 }
def Tryz.keysG_ren : Go.Shelf.Ren := ⟨fun | 7 => 53 | 10 => 87 | n => n, fun | 23 => 92 | 26 => 3 | 3 => 20 | 28 => 114 | 0 => 0 | 27 => 113 | 33 => 85 | 4 => 4 | n => n, fun | n => n⟩
theorem Tryz.keysG : Go.Proofs.SlLaysZI.n7 Tryz.prog Tryz.keysG_ren := {
  mixed := by kernel_rfl
  f7 := ⟨Tryz.f53.name, by decide, Tryz.func53.trans (congrArg some (by kernel_rfl))⟩
  f10 := ⟨Tryz.f87.name, by decide, Tryz.func87.trans (congrArg some (by kernel_rfl))⟩
  t0 := Tryz.underlying0
  a0 := Tryz.isAgg0
  z0 := Tryz.sizeOf0
  v0 := Tryz.zeroValue0
  t4 := Tryz.underlying4
  a4 := Tryz.isAgg4
  z4 := Tryz.sizeOf4
  v4 := Tryz.zeroValue4
  t23 := Tryz.underlying92
  a23 := Tryz.isAgg92
  z23 := Tryz.sizeOf92
  v23 := Tryz.zeroValue92
  t26 := Tryz.underlying3
  a26 := Tryz.isAgg3
  z26 := Tryz.sizeOf3
  v26 := Tryz.zeroValue3
  t27 := Tryz.underlying113
  a27 := Tryz.isAgg113
  z27 := Tryz.sizeOf113
  v27 := Tryz.zeroValue113
  t28 := Tryz.underlying114
  a28 := Tryz.isAgg114
  z28 := Tryz.sizeOf114
  v28 := Tryz.zeroValue114
  t33 := Tryz.underlying85
  a33 := Tryz.isAgg85
  z33 := Tryz.sizeOf85
  v33 := Tryz.zeroValue85 }
end Go.Proofs
/-! The parts of a line, as plain lists of bytes: numbers, names, signs; how they are read, how they are written. -/
set_option linter.unusedVariables false
set_option linter.unusedSimpArgs false
namespace Go.Proofs.YtofofjfmhaggmaaGreatDoor
open Go

/-! ### Numbers -/
def dig (c : UInt8) : Bool := decide (48 ≤ c.toNat) && decide (c.toNat ≤ 57)
theorem dig_iff {c : UInt8} : dig c = true ↔ 48 ≤ c.toNat ∧ c.toNat ≤ 57 := by simp [dig]
def valF (n : Nat) (l : List UInt8) : Nat := l.foldl (fun n c => n * 10 + (c.toNat - 48)) n
def val (l : List UInt8) : Nat := valF 0 l
/-- A numeral: digits, no nought ahead. -/
def isNum (l : List UInt8) : Prop := l ≠ [] ∧ l.all dig = true ∧ (l.head? = some 48 → l.length = 1)
theorem decDigits_all (u : Nat) : (Lib.decDigits u).all dig = true := by
  induction u using Nat.strongRecOn with
  | _ u ih =>
    rw [Lib.decDigits]
    split
    · simp [dig]; omega
    · rw [List.all_append, ih _ (by omega)]
      simp [dig]; omega
/-! ### Names, signs -/
def parting (c : UInt8) : Bool := [32, 58, 44, 43, 126, 33, 62, 64].contains c
/-- A word that a name may be, as far as reading goes. -/
def isWord (l : List UInt8) : Prop := l ≠ [] ∧ l.all (fun c => !parting c) = true
def vecT (a b : Nat) : List UInt8 := Lib.decDigits a ++ 44 :: Lib.decDigits b
def rowT (c : UInt8) (ns : List (List UInt8)) : List UInt8 := ns.flatMap fun n => c :: n
end Go.Proofs.YtofofjfmhaggmaaGreatDoor
/-! Words, names, sets of marks, nodes and pods, as plain lists of bytes: how they are read, how they are written. -/
set_option linter.unusedVariables false
set_option linter.unusedSimpArgs false
namespace Go.Proofs.YtofofjfmhaggmaaGreatDoor
open Go

/-! ### Names -/
def str (l : List UInt8) : ByteArray := ⟨l.toArray⟩
theorem str_size (l : List UInt8) : (str l).size = l.length := by simp [str, ByteArray.size]
theorem str_get (l : List UInt8) (i : Nat) (h : i < (str l).size) : (str l)[i] = l[i]'(by simpa [str_size] using h) := by simp [str, ByteArray.getElem_eq_getElem_data]
theorem str_append (a b : List UInt8) : str a ++ str b = str (a ++ b) := by
  apply ByteArray.ext
  simp [str, ByteArray.data_append]
theorem decode_skip (s : ByteArray) (pos : Nat) (h : pos < s.size) (ha : 128 ≤ (s[pos]'h).toNat) : ∀ j, j < (Utf8.decode s pos).2 → 128 ≤ (s.get! (pos + j)).toNat := by
  have h0 : (s.get! (pos + 0)) = s[pos]'h := get_at s pos h
  have hn : ¬ (s[pos]'h).toNat < 128 := by omega
  intro j hj
  match j with
  | 0 => rw [h0]; exact ha
  | j + 1 =>
    revert hj
    simp only [Utf8.decode, h0, hn, if_false]
    repeat' split
    all_goals intro hj
    all_goals simp_all [Utf8.runeError]
    all_goals first
      | omega
      | (have : j = 0 := (by omega); subst this; simp_all <;> omega)
      | (have : j = 0 ∨ j = 1 := (by omega); rcases this with rfl | rfl <;> (simp_all <;> omega))
      | (have : j = 0 ∨ j = 1 ∨ j = 2 := (by omega); rcases this with rfl | rfl | rfl <;> (simp_all <;> omega))

/-- May a rune stand at that place of a name? -/
def runeOk (pos c : Nat) : Bool := (decide (97 ≤ c) && decide (c ≤ 122)) || (decide (945 ≤ c) && decide (c ≤ 969)) || (decide (48 ≤ c) && decide (c ≤ 57) && decide (pos ≠ 0))
def nameGo (s : ByteArray) : Nat → Nat → Bool
  | k + 1, pos => if pos < s.size then runeOk pos (Utf8.decode s pos).1 && nameGo s k (pos + (Utf8.decode s pos).2) else true
  | 0, _ => true
def runesGo (s : ByteArray) : Nat → Nat → Nat
  | k + 1, pos => if pos < s.size then 1 + runesGo s k (pos + (Utf8.decode s pos).2) else 0
  | 0, _ => 0
def nameS (s : ByteArray) : Bool := nameGo s s.size 0 && (!decide (s.size = 0) && decide (runesGo s s.size 0 ≤ 8))
def nameB (l : List UInt8) : Bool := nameS (str l)
theorem width_pos (s : ByteArray) (pos : Nat) (h : pos < s.size) : 1 ≤ (Utf8.decode s pos).2 := by
  by_cases ha : (s[pos]'h).toNat < 128
  · rw [decode_ascii s pos h ha]; exact Nat.le_refl _
  · exact (decode_high s pos h (by omega)).2
theorem nameGo_end (s : ByteArray) (k pos : Nat) (h : ¬ pos < s.size) : nameGo s k pos = true := by cases k <;> simp [nameGo, h]
theorem runesGo_end (s : ByteArray) (k pos : Nat) (h : ¬ pos < s.size) : runesGo s k pos = 0 := by cases k <;> simp [runesGo, h]
theorem nameGo_step (s : ByteArray) (k pos : Nat) (h : pos < s.size) : nameGo s (k + 1) pos = (runeOk pos (Utf8.decode s pos).1 && nameGo s k (pos + (Utf8.decode s pos).2)) := by simp [nameGo, h]
theorem runesGo_step (s : ByteArray) (k pos : Nat) (h : pos < s.size) : runesGo s (k + 1) pos = 1 + runesGo s k (pos + (Utf8.decode s pos).2) := by simp [runesGo, h]
theorem runesGo_le (s : ByteArray) : ∀ k pos, runesGo s k pos ≤ k
  | 0, _ => Nat.le_refl _
  | k + 1, pos => by
    have := runesGo_le s k (pos + (Utf8.decode s pos).2)
    simp only [runesGo]
    split <;> omega
/-- Each byte of a name below 128 is a letter, or a digit. -/
theorem nameGo_bytes (s : ByteArray) : ∀ k pos, s.size ≤ pos + k → nameGo s k pos = true → ∀ i, pos ≤ i → (h : i < s.size) → (s[i]'h).toNat < 128 → (97 ≤ (s[i]'h).toNat ∧ (s[i]'h).toNat ≤ 122) ∨ (48 ≤ (s[i]'h).toNat ∧ (s[i]'h).toNat ≤ 57)
  | 0, pos, hk, _, i, hi, h, _ => by omega
  | k + 1, pos, hk, hn, i, hi, h, hb => by
    have hp : pos < s.size := by omega
    rw [nameGo_step s k pos hp, Bool.and_eq_true] at hn
    have hw := width_pos s pos hp
    by_cases hlt : i < pos + (Utf8.decode s pos).2
    · by_cases ha : (s[pos]'hp).toNat < 128
      · rw [decode_ascii s pos hp ha] at hlt hn
        obtain rfl : i = pos := by simp at hlt; omega
        have := hn.1
        simp [runeOk] at this
        omega
      · have h1 := decode_skip s pos hp (by omega) (i - pos) (by omega)
        rw [show pos + (i - pos) = i by omega] at h1
        have e : s.get! i = s[i]'h := get_at s i h
        rw [e] at h1
        omega
    · exact nameGo_bytes s k _ (by omega) hn.2 i (by omega) h hb
theorem nameB_bytes {l : List UInt8} (h : nameB l = true) : ∀ c ∈ l, c.toNat < 128 → (97 ≤ c.toNat ∧ c.toNat ≤ 122) ∨ (48 ≤ c.toNat ∧ c.toNat ≤ 57) := by
  intro c hc hb
  obtain ⟨i, hi, rfl⟩ := List.getElem_of_mem hc
  simp only [nameB, nameS, Bool.and_eq_true] at h
  have hi' : i < (str l).size := by rw [str_size]; exact hi
  have := nameGo_bytes (str l) (str l).size 0 (by omega) h.1 i (Nat.zero_le _) hi' (by rw [str_get]; exact hb)
  rw [str_get] at this
  exact this
theorem nameB_word {l : List UInt8} (h : nameB l = true) : isWord l := by
  refine ⟨fun e => ?_, List.all_eq_true.2 fun c hc => ?_⟩
  · subst e; simp [nameB, nameS, str_size] at h
  · rw [Bool.not_eq_true', parting]
    cases hp : [32, 58, 44, 43, 126, 33, 62, 64].contains c with
    | false => rfl
    | true =>
      exfalso
      have hm : c ∈ [32, 58, 44, 43, 126, 33, 62, (64 : UInt8)] := by simpa using hp
      have h1 := nameB_bytes h c hc
      simp only [List.mem_cons, List.not_mem_nil, or_false] at hm
      rcases hm with rfl | rfl | rfl | rfl | rfl | rfl | rfl | rfl <;> simp at h1
/-- Names, rising, four at most. -/
def rises : List (List UInt8) → Bool
  | a :: b :: t => Op.bytesLess a b && rises (b :: t)
  | _ => true
def setB (ls : List (List UInt8)) : Bool := ls.all nameB && rises ls && decide (ls.length ≤ 4)
theorem setB_words {ls : List (List UInt8)} (h : setB ls = true) : ∀ n ∈ ls, isWord n := by
  simp only [setB, Bool.and_eq_true, List.all_eq_true] at h
  exact fun n hn => nameB_word (h.1.1 n hn)

/-! ### Nodes and pods -/
structure NodeL where
  name : List UInt8
  cpu : Nat
  mem : Nat
  marks : List (List UInt8)
  taints : List (List UInt8)
  closed : Bool
structure PodL where
  name : List UInt8
  shard : Nat
  cpu : Nat
  mem : Nat
  picks : List (List UInt8)
  bears : List (List UInt8)
  alone : Bool
def flagT (b : Bool) : List UInt8 := if b then [33] else []
def tailT (a b : List (List UInt8)) (f : Bool) : List UInt8 := rowT 43 a ++ (rowT 126 b ++ flagT f)
def nodeT (n : NodeL) : List UInt8 := n.name ++ 58 :: (vecT n.cpu n.mem ++ tailT n.marks n.taints n.closed)
def words (a b : List (List UInt8)) : Prop := (∀ n ∈ a, isWord n) ∧ ∀ n ∈ b, isWord n
def NodeL.fine (most : Nat) (n : NodeL) : Prop := isWord n.name ∧ n.cpu ≤ most ∧ n.mem ≤ most ∧ words n.marks n.taints
def PodL.fine (p : PodL) : Prop := isWord p.name ∧ p.shard ≤ 999999 ∧ p.cpu ≤ 1099511627776 ∧ p.mem ≤ 1099511627776 ∧ words p.picks p.bears
end Go.Proofs.YtofofjfmhaggmaaGreatDoor
