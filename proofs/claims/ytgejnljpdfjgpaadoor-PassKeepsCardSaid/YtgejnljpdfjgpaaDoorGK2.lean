/- A part of the proof of this claim (part 2 of 16): contracts of callees and plain facts, each with its own conditions before its statement. -/
import Derived.Shelf.Small.Bits
import Derived.Shelf.Strconv.Itoa0
import Derived.Shelf.Strconv.Itoa1
import Derived.Shelf.LaysM
import Derived.Shelf.Strconv.Itoa2
import Derived.Shelf.Strconv.AppendUint10
import Derived.Shelf.Strconv.AppendInt10
import Derived.Shelf.Strconv.AppendIntPublic10
import Derived.Ground.Names2Prog
import Derived.Shelf.Slices.CompactI
import Derived.Ground.SlgnProg
import Derived.Shelf.SlicesE.Equal
import Derived.Shelf.SlicesE.Compact
import Derived.Ground.SlsfProg
import Derived.Shelf.SlSortCmp.Insertion
import Derived.Ground.SlgmProg
import Derived.Shelf.SortM.Plain
import Derived.Shelf.SortM.SortNone
import Derived.Shelf.SlSortCmp.SiftDown1
import Derived.Shelf.SlSortCmp.HeapSort1
import Derived.Shelf.SlSortCmp.Insertion1
import Derived.Shelf.SlSortCmp.Median1
import Derived.Shelf.SlSortCmp.Pivot1
import Derived.Shelf.SlSortCmp.ReverseRange1
import Derived.Shelf.SlSortCmp.PartialInsertion1
import Derived.Shelf.SlSortCmp.PartitionEqual1
import Derived.Shelf.SlSortCmp.Partition1
import Derived.Shelf.SlSortCmp.Pdq1
import Derived.Shelf.SlSortCmp.Whole1
import Derived.Shelf.SlIterI.Nil
import Derived.Ground.GgzProg
import Derived.Test.YtgejnljpdfjgpaaDoorProg
import Derived.Lib.ItoaLen
import Derived.Test.YtgejnljpdfjgpaaDoorCards
import Derived.Test.YtgejnljpdfjgpaaDoorTie
import Derived.WalkKit
import Derived.ProofKit
import Derived.OpenShut
import Derived.Deep.DeepHandedRow
import Derived.Lib.LaidTab
import Derived.LaidLaws
import Derived.Deep.Slices
import Derived.ChangeSame
import Derived.ChangeArms
import Derived.DataElems
import Derived.Sort.Grow
import Derived.Shelf.GgSortFunc.SW
import Derived.Maps.OwnOps
import Derived.Maps.Views
import Derived.Test.YtgejnljpdfjgpaaDoorGK1
set_option linter.unusedVariables false
set_option linter.unusedSimpArgs false
/-
  DERIVED: THE SHELF's CONTRACTS AT THIS DUMP, IN PLAIN WORDS (tools/lay-plain.mjs out of 'TrydShelf.lean', which tools/lay-shelf.mjs wrote): THE SAME DECLARATIONS UNDER THE SAME NAMES: 'import', 'namespace', 'open', 'def', 'theorem' AND NOTHING ELSE: no command of the shelf's: FOR A HAND-IN. Each laying: the table of numbers ('.._ren') and one theorem, a field a fact of the dump's own or the kernel's comparison; each contract: ONE APPLICATION.
-/
namespace Go.Proofs
open Go.Shelf
def Tryd.laysM176_ren : Go.Shelf.Ren := ⟨fun | 176 => 45 | 249 => 51 | 288 => 58 | 283 => 72 | 284 => 73 | 285 => 74 | 286 => 75 | 129 => 69 | 317 => 91 | 318 => 92 | 319 => 93 | 320 => 94 | 337 => 99 | 338 => 100 | n => n, fun | 37 => 68 | 2 => 2 | 3 => 3 | 53 => 78 | 4 => 4 | 9 => 9 | 171 => 94 | 0 => 0 | 173 => 96 | 212 => 112 | 51 => 90 | 5 => 5 | 20 => 20 | 213 => 113 | 46 => 75 | 232 => 120 | 233 => 121 | n => n, fun | 17 => 0 | 18 => 1 | 19 => 2 | n => n⟩
theorem Tryd.laysM176 : Go.Proofs.LaysM.n176 Tryd.prog Tryd.laysM176_ren := {
  mixed := by kernel_rfl
  f129 := Tryd.func69.trans (congrArg some (by kernel_rfl))
  f176 := Tryd.func45.trans (congrArg some (by kernel_rfl))
  f249 := Tryd.func51.trans (congrArg some (by kernel_rfl))
  f283 := Tryd.func72.trans (congrArg some (by kernel_rfl))
  f284 := Tryd.func73.trans (congrArg some (by kernel_rfl))
  f285 := Tryd.func74.trans (congrArg some (by kernel_rfl))
  f286 := Tryd.func75.trans (congrArg some (by kernel_rfl))
  f288 := Tryd.func58.trans (congrArg some (by kernel_rfl))
  f317 := Tryd.func91.trans (congrArg some (by kernel_rfl))
  f318 := Tryd.func92.trans (congrArg some (by kernel_rfl))
  f319 := Tryd.func93.trans (congrArg some (by kernel_rfl))
  f320 := Tryd.func94.trans (congrArg some (by kernel_rfl))
  f337 := Tryd.func99.trans (congrArg some (by kernel_rfl))
  f338 := Tryd.func100.trans (congrArg some (by kernel_rfl))
  t0 := Tryd.underlying0
  a0 := Tryd.isAgg0
  z0 := Tryd.sizeOf0
  v0 := Tryd.zeroValue0
  t2 := Tryd.underlying2
  a2 := Tryd.isAgg2
  z2 := Tryd.sizeOf2
  v2 := Tryd.zeroValue2
  t3 := Tryd.underlying3
  a3 := Tryd.isAgg3
  z3 := Tryd.sizeOf3
  v3 := Tryd.zeroValue3
  t4 := Tryd.underlying4
  a4 := Tryd.isAgg4
  z4 := Tryd.sizeOf4
  v4 := Tryd.zeroValue4
  t5 := Tryd.underlying5
  a5 := Tryd.isAgg5
  z5 := Tryd.sizeOf5
  v5 := Tryd.zeroValue5
  t9 := Tryd.underlying9
  a9 := Tryd.isAgg9
  z9 := Tryd.sizeOf9
  v9 := Tryd.zeroValue9
  t20 := Tryd.underlying20
  a20 := Tryd.isAgg20
  z20 := Tryd.sizeOf20
  v20 := Tryd.zeroValue20
  t37 := Tryd.underlying68
  a37 := Tryd.isAgg68
  z37 := Tryd.sizeOf68
  v37 := Tryd.zeroValue68
  t46 := Tryd.underlying75
  a46 := Tryd.isAgg75
  z46 := Tryd.sizeOf75
  v46 := Tryd.zeroValue75
  t51 := Tryd.underlying90
  a51 := Tryd.isAgg90
  z51 := Tryd.sizeOf90
  v51 := Tryd.zeroValue90
  t53 := Tryd.underlying78
  a53 := Tryd.isAgg78
  z53 := Tryd.sizeOf78
  v53 := Tryd.zeroValue78
  t171 := Tryd.underlying94
  a171 := Tryd.isAgg94
  z171 := Tryd.sizeOf94
  v171 := Tryd.zeroValue94
  t173 := Tryd.underlying96
  a173 := Tryd.isAgg96
  z173 := Tryd.sizeOf96
  v173 := Tryd.zeroValue96
  t212 := Tryd.underlying112
  a212 := Tryd.isAgg112
  z212 := Tryd.sizeOf112
  v212 := Tryd.zeroValue112
  t213 := Tryd.underlying113
  a213 := Tryd.isAgg113
  z213 := Tryd.sizeOf113
  t232 := Tryd.underlying120
  a232 := Tryd.isAgg120
  z232 := Tryd.sizeOf120
  v232 := Tryd.zeroValue120
  t233 := Tryd.underlying121
  a233 := Tryd.isAgg121
  z233 := Tryd.sizeOf121
  v233 := Tryd.zeroValue121
  g17 := by kernel_rfl
  g18 := by kernel_rfl
  g19 := by kernel_rfl
  i0 := by kernel_rfl
  i2 := by kernel_rfl
  i3 := by kernel_rfl
  i4 := by kernel_rfl
  i5 := by kernel_rfl
  i9 := by kernel_rfl
  i20 := by kernel_rfl
  i37 := by kernel_rfl
  i46 := by kernel_rfl
  i51 := by kernel_rfl
  i53 := by kernel_rfl
  i171 := by kernel_rfl
  i173 := by kernel_rfl
  i212 := by kernel_rfl
  i232 := by kernel_rfl
  i233 := by kernel_rfl
  m17 := by kernel_rfl
  m18 := by kernel_rfl
  m19 := by kernel_rfl }
def Tryd.laysNm220_ren : Go.Shelf.Ren := ⟨fun | 20 => 40 | n => n, fun | 22 => 25 | 3 => 3 | 4 => 4 | 0 => 0 | n => n, fun | n => n⟩
theorem Tryd.laysNm220 : Go.Proofs.Lays2.n20 Tryd.prog Tryd.laysNm220_ren := {
  mixed := by kernel_rfl
  f20 := Tryd.func40.trans (congrArg some (by kernel_rfl))
  t0 := Tryd.underlying0
  a0 := Tryd.isAgg0
  z0 := Tryd.sizeOf0
  v0 := Tryd.zeroValue0
  t3 := Tryd.underlying3
  a3 := Tryd.isAgg3
  z3 := Tryd.sizeOf3
  v3 := Tryd.zeroValue3
  t4 := Tryd.underlying4
  a4 := Tryd.isAgg4
  z4 := Tryd.sizeOf4
  v4 := Tryd.zeroValue4
  t22 := Tryd.underlying25
  a22 := Tryd.isAgg25
  z22 := Tryd.sizeOf25
  v22 := Tryd.zeroValue25
  i3 := by kernel_rfl }
def Tryd.laysSlM5_f47_ren : Go.Shelf.Ren := ⟨fun | 5 => 47 | 8 => 54 | 7 => 53 | 19 => 68 | 20 => 69 | 10 => 59 | 11 => 60 | 12 => 61 | 13 => 62 | 14 => 63 | 15 => 64 | 16 => 65 | 17 => 66 | 18 => 67 | 30 => 76 | 31 => 77 | 32 => 78 | 33 => 79 | 34 => 80 | 35 => 81 | 40 => 95 | n => n, fun | 23 => 25 | 25 => 3 | 3 => 3 | 32 => 75 | 22 => 25 | 0 => 0 | 44 => 90 | 46 => 78 | 4 => 4 | 36 => 82 | 35 => 81 | 41 => 87 | 5 => 5 | 9 => 9 | 53 => 98 | 57 => 102 | 63 => 114 | 64 => 115 | n => n, fun | n => n⟩
theorem Tryd.laysSlM5_f47 : Go.Proofs.SlLaysM.n5 Tryd.prog Tryd.laysSlM5_f47_ren := {
  mixed := by kernel_rfl
  f5 := ⟨Tryd.f47.name, by decide, Tryd.func47.trans (congrArg some (by kernel_rfl))⟩
  f7 := ⟨Tryd.f53.name, by decide, Tryd.func53.trans (congrArg some (by kernel_rfl))⟩
  f8 := Tryd.func54.trans (congrArg some (by kernel_rfl))
  f10 := ⟨Tryd.f59.name, by decide, Tryd.func59.trans (congrArg some (by kernel_rfl))⟩
  f11 := ⟨Tryd.f60.name, by decide, Tryd.func60.trans (congrArg some (by kernel_rfl))⟩
  f12 := ⟨Tryd.f61.name, by decide, Tryd.func61.trans (congrArg some (by kernel_rfl))⟩
  f13 := ⟨Tryd.f62.name, by decide, Tryd.func62.trans (congrArg some (by kernel_rfl))⟩
  f14 := ⟨Tryd.f63.name, by decide, Tryd.func63.trans (congrArg some (by kernel_rfl))⟩
  f15 := ⟨Tryd.f64.name, by decide, Tryd.func64.trans (congrArg some (by kernel_rfl))⟩
  f16 := ⟨Tryd.f65.name, by decide, Tryd.func65.trans (congrArg some (by kernel_rfl))⟩
  f17 := ⟨Tryd.f66.name, by decide, Tryd.func66.trans (congrArg some (by kernel_rfl))⟩
  f18 := ⟨Tryd.f67.name, by decide, Tryd.func67.trans (congrArg some (by kernel_rfl))⟩
  f19 := Tryd.func68.trans (congrArg some (by kernel_rfl))
  f20 := Tryd.func69.trans (congrArg some (by kernel_rfl))
  f30 := ⟨Tryd.f76.name, by decide, Tryd.func76.trans (congrArg some (by kernel_rfl))⟩
  f31 := Tryd.func77.trans (congrArg some (by kernel_rfl))
  f32 := Tryd.func78.trans (congrArg some (by kernel_rfl))
  f33 := ⟨Tryd.f79.name, by decide, Tryd.func79.trans (congrArg some (by kernel_rfl))⟩
  f34 := ⟨Tryd.f80.name, by decide, Tryd.func80.trans (congrArg some (by kernel_rfl))⟩
  f35 := ⟨Tryd.f81.name, by decide, Tryd.func81.trans (congrArg some (by kernel_rfl))⟩
  f40 := ⟨Tryd.f95.name, by decide, Tryd.func95.trans (congrArg some (by kernel_rfl))⟩
  t0 := Tryd.underlying0
  a0 := Tryd.isAgg0
  z0 := Tryd.sizeOf0
  v0 := Tryd.zeroValue0
  t3 := Tryd.underlying3
  a3 := Tryd.isAgg3
  z3 := Tryd.sizeOf3
  v3 := Tryd.zeroValue3
  t4 := Tryd.underlying4
  a4 := Tryd.isAgg4
  z4 := Tryd.sizeOf4
  v4 := Tryd.zeroValue4
  t5 := Tryd.underlying5
  a5 := Tryd.isAgg5
  z5 := Tryd.sizeOf5
  v5 := Tryd.zeroValue5
  t9 := Tryd.underlying9
  a9 := Tryd.isAgg9
  z9 := Tryd.sizeOf9
  v9 := Tryd.zeroValue9
  t22 := Tryd.underlying25
  a22 := Tryd.isAgg25
  z22 := Tryd.sizeOf25
  v22 := Tryd.zeroValue25
  t23 := Tryd.underlying25
  a23 := Tryd.isAgg25
  z23 := Tryd.sizeOf25
  v23 := Tryd.zeroValue25
  t25 := Tryd.underlying3
  a25 := Tryd.isAgg3
  z25 := Tryd.sizeOf3
  v25 := Tryd.zeroValue3
  t32 := Tryd.underlying75
  a32 := Tryd.isAgg75
  z32 := Tryd.sizeOf75
  v32 := Tryd.zeroValue75
  t35 := Tryd.underlying81
  a35 := Tryd.isAgg81
  z35 := Tryd.sizeOf81
  v35 := Tryd.zeroValue81
  t36 := Tryd.underlying82
  a36 := Tryd.isAgg82
  z36 := Tryd.sizeOf82
  v36 := Tryd.zeroValue82
  t41 := Tryd.underlying87
  a41 := Tryd.isAgg87
  z41 := Tryd.sizeOf87
  v41 := Tryd.zeroValue87
  t44 := Tryd.underlying90
  a44 := Tryd.isAgg90
  z44 := Tryd.sizeOf90
  v44 := Tryd.zeroValue90
  t46 := Tryd.underlying78
  a46 := Tryd.isAgg78
  z46 := Tryd.sizeOf78
  v46 := Tryd.zeroValue78
  t53 := Tryd.underlying98
  a53 := Tryd.isAgg98
  z53 := Tryd.sizeOf98
  v53 := Tryd.zeroValue98
  t57 := Tryd.underlying102
  a57 := Tryd.isAgg102
  z57 := Tryd.sizeOf102
  v57 := Tryd.zeroValue102
  t63 := Tryd.underlying114
  a63 := Tryd.isAgg114
  z63 := Tryd.sizeOf114
  v63 := Tryd.zeroValue114
  t64 := Tryd.underlying115
  a64 := Tryd.isAgg115
  z64 := Tryd.sizeOf115
  v64 := Tryd.zeroValue115 }
def Tryd.laysSlF6_f55_ren : Go.Shelf.Ren := ⟨fun | 6 => 55 | 15 => 54 | 14 => 70 | 28 => 68 | 29 => 69 | 20 => 82 | 21 => 83 | 22 => 84 | 23 => 85 | 24 => 86 | 25 => 87 | 26 => 88 | 27 => 89 | 46 => 96 | 47 => 77 | 48 => 78 | 49 => 97 | 50 => 98 | 57 => 101 | n => n, fun | 22 => 24 | 24 => 25 | 25 => 49 | 3 => 3 | 39 => 75 | 0 => 0 | 53 => 90 | 55 => 78 | 4 => 4 | 46 => 82 | 45 => 81 | 50 => 87 | 5 => 5 | 9 => 9 | 66 => 98 | 70 => 102 | 76 => 114 | 77 => 115 | n => n, fun | n => n⟩
theorem Tryd.laysSlF6_f55 : Go.Proofs.SlLaysF.n6 Tryd.prog Tryd.laysSlF6_f55_ren := {
  mixed := by kernel_rfl
  f6 := ⟨Tryd.f55.name, by decide, Tryd.func55.trans (congrArg some (by kernel_rfl))⟩
  f14 := ⟨Tryd.f70.name, by decide, Tryd.func70.trans (congrArg some (by kernel_rfl))⟩
  f15 := Tryd.func54.trans (congrArg some (by kernel_rfl))
  f20 := ⟨Tryd.f82.name, by decide, Tryd.func82.trans (congrArg some (by kernel_rfl))⟩
  f21 := ⟨Tryd.f83.name, by decide, Tryd.func83.trans (congrArg some (by kernel_rfl))⟩
  f22 := ⟨Tryd.f84.name, by decide, Tryd.func84.trans (congrArg some (by kernel_rfl))⟩
  f23 := ⟨Tryd.f85.name, by decide, Tryd.func85.trans (congrArg some (by kernel_rfl))⟩
  f24 := ⟨Tryd.f86.name, by decide, Tryd.func86.trans (congrArg some (by kernel_rfl))⟩
  f25 := ⟨Tryd.f87.name, by decide, Tryd.func87.trans (congrArg some (by kernel_rfl))⟩
  f26 := ⟨Tryd.f88.name, by decide, Tryd.func88.trans (congrArg some (by kernel_rfl))⟩
  f27 := ⟨Tryd.f89.name, by decide, Tryd.func89.trans (congrArg some (by kernel_rfl))⟩
  f28 := Tryd.func68.trans (congrArg some (by kernel_rfl))
  f29 := Tryd.func69.trans (congrArg some (by kernel_rfl))
  f46 := ⟨Tryd.f96.name, by decide, Tryd.func96.trans (congrArg some (by kernel_rfl))⟩
  f47 := Tryd.func77.trans (congrArg some (by kernel_rfl))
  f48 := Tryd.func78.trans (congrArg some (by kernel_rfl))
  f49 := ⟨Tryd.f97.name, by decide, Tryd.func97.trans (congrArg some (by kernel_rfl))⟩
  f50 := ⟨Tryd.f98.name, by decide, Tryd.func98.trans (congrArg some (by kernel_rfl))⟩
  f57 := ⟨Tryd.f101.name, by decide, Tryd.func101.trans (congrArg some (by kernel_rfl))⟩
  t0 := Tryd.underlying0
  a0 := Tryd.isAgg0
  z0 := Tryd.sizeOf0
  v0 := Tryd.zeroValue0
  t3 := Tryd.underlying3
  a3 := Tryd.isAgg3
  z3 := Tryd.sizeOf3
  v3 := Tryd.zeroValue3
  t4 := Tryd.underlying4
  a4 := Tryd.isAgg4
  z4 := Tryd.sizeOf4
  v4 := Tryd.zeroValue4
  t5 := Tryd.underlying5
  a5 := Tryd.isAgg5
  z5 := Tryd.sizeOf5
  v5 := Tryd.zeroValue5
  t9 := Tryd.underlying9
  a9 := Tryd.isAgg9
  z9 := Tryd.sizeOf9
  v9 := Tryd.zeroValue9
  t22 := Tryd.underlying24
  a22 := Tryd.isAgg24
  z22 := Tryd.sizeOf24
  v22 := Tryd.zeroValue24
  a24 := Tryd.isAgg25
  z24 := Tryd.sizeOf25
  t25 := Tryd.underlying49
  a25 := Tryd.isAgg49
  z25 := Tryd.sizeOf49
  v25 := Tryd.zeroValue49
  t39 := Tryd.underlying75
  a39 := Tryd.isAgg75
  z39 := Tryd.sizeOf75
  v39 := Tryd.zeroValue75
  t45 := Tryd.underlying81
  a45 := Tryd.isAgg81
  z45 := Tryd.sizeOf81
  v45 := Tryd.zeroValue81
  t46 := Tryd.underlying82
  a46 := Tryd.isAgg82
  z46 := Tryd.sizeOf82
  v46 := Tryd.zeroValue82
  t50 := Tryd.underlying87
  a50 := Tryd.isAgg87
  z50 := Tryd.sizeOf87
  v50 := Tryd.zeroValue87
  t53 := Tryd.underlying90
  a53 := Tryd.isAgg90
  z53 := Tryd.sizeOf90
  v53 := Tryd.zeroValue90
  t55 := Tryd.underlying78
  a55 := Tryd.isAgg78
  z55 := Tryd.sizeOf78
  v55 := Tryd.zeroValue78
  t66 := Tryd.underlying98
  a66 := Tryd.isAgg98
  z66 := Tryd.sizeOf98
  v66 := Tryd.zeroValue98
  t70 := Tryd.underlying102
  a70 := Tryd.isAgg102
  z70 := Tryd.sizeOf102
  v70 := Tryd.zeroValue102
  t76 := Tryd.underlying114
  a76 := Tryd.isAgg114
  z76 := Tryd.sizeOf114
  v76 := Tryd.zeroValue114
  t77 := Tryd.underlying115
  a77 := Tryd.isAgg115
  z77 := Tryd.sizeOf115
  v77 := Tryd.zeroValue115 }
def Tryd.sortedA_ren : Go.Shelf.Ren := ⟨fun | 6 => 41 | 8 => 46 | 9 => 47 | 11 => 52 | 13 => 54 | 12 => 53 | 23 => 68 | 24 => 69 | 14 => 59 | 15 => 60 | 16 => 61 | 17 => 62 | 18 => 63 | 19 => 64 | 20 => 65 | 21 => 66 | 22 => 67 | 25 => 76 | 26 => 77 | 27 => 78 | 28 => 79 | 29 => 80 | 30 => 81 | 31 => 95 | n => n, fun | 26 => 3 | 28 => 64 | 24 => 25 | 0 => 0 | 3 => 3 | 37 => 75 | 48 => 90 | 50 => 78 | 4 => 4 | 40 => 82 | 39 => 81 | 45 => 87 | 5 => 5 | 9 => 9 | 51 => 98 | 55 => 102 | 57 => 114 | 58 => 115 | 33 => 70 | n => n, fun | n => n⟩
theorem Tryd.sortedA : Go.Proofs.SlLaysZI.n6 Tryd.prog Tryd.sortedA_ren := {
  mixed := by kernel_rfl
  f6 := ⟨Tryd.f41.name, by decide, Tryd.func41.trans (congrArg some (by kernel_rfl))⟩
  f8 := ⟨Tryd.f46.name, by decide, Tryd.func46.trans (congrArg some (by kernel_rfl))⟩
  f11 := ⟨Tryd.f52.name, by decide, Tryd.func52.trans (congrArg some (by kernel_rfl))⟩
  t0 := Tryd.underlying0
  a0 := Tryd.isAgg0
  z0 := Tryd.sizeOf0
  v0 := Tryd.zeroValue0
  t24 := Tryd.underlying25
  a24 := Tryd.isAgg25
  z24 := Tryd.sizeOf25
  v24 := Tryd.zeroValue25
  t26 := Tryd.underlying3
  a26 := Tryd.isAgg3
  z26 := Tryd.sizeOf3
  v26 := Tryd.zeroValue3
  t28 := Tryd.underlying64
  a28 := Tryd.isAgg64
  z28 := Tryd.sizeOf64
  v28 := Tryd.zeroValue64
  i26 := by kernel_rfl }
def Tryd.sortA_ren : Go.Shelf.Ren := ⟨fun | 5 => 47 | 8 => 54 | 7 => 53 | 19 => 68 | 20 => 69 | 10 => 59 | 11 => 60 | 12 => 61 | 13 => 62 | 14 => 63 | 15 => 64 | 16 => 65 | 17 => 66 | 18 => 67 | 30 => 76 | 31 => 77 | 32 => 78 | 33 => 79 | 34 => 80 | 35 => 81 | 40 => 95 | n => n, fun | 23 => 25 | 25 => 3 | 3 => 3 | 32 => 75 | 22 => 25 | 0 => 0 | 44 => 90 | 46 => 78 | 4 => 4 | 36 => 82 | 35 => 81 | 41 => 87 | 5 => 5 | 9 => 9 | 53 => 98 | 57 => 102 | 63 => 114 | 64 => 115 | n => n, fun | n => n⟩
theorem Tryd.sortA : Go.Proofs.SlLaysM.n5 Tryd.prog Tryd.sortA_ren := {
  mixed := by kernel_rfl
  f5 := ⟨Tryd.f47.name, by decide, Tryd.func47.trans (congrArg some (by kernel_rfl))⟩
  f7 := ⟨Tryd.f53.name, by decide, Tryd.func53.trans (congrArg some (by kernel_rfl))⟩
  f8 := Tryd.func54.trans (congrArg some (by kernel_rfl))
  f10 := ⟨Tryd.f59.name, by decide, Tryd.func59.trans (congrArg some (by kernel_rfl))⟩
  f11 := ⟨Tryd.f60.name, by decide, Tryd.func60.trans (congrArg some (by kernel_rfl))⟩
  f12 := ⟨Tryd.f61.name, by decide, Tryd.func61.trans (congrArg some (by kernel_rfl))⟩
  f13 := ⟨Tryd.f62.name, by decide, Tryd.func62.trans (congrArg some (by kernel_rfl))⟩
  f14 := ⟨Tryd.f63.name, by decide, Tryd.func63.trans (congrArg some (by kernel_rfl))⟩
  f15 := ⟨Tryd.f64.name, by decide, Tryd.func64.trans (congrArg some (by kernel_rfl))⟩
  f16 := ⟨Tryd.f65.name, by decide, Tryd.func65.trans (congrArg some (by kernel_rfl))⟩
  f17 := ⟨Tryd.f66.name, by decide, Tryd.func66.trans (congrArg some (by kernel_rfl))⟩
  f18 := ⟨Tryd.f67.name, by decide, Tryd.func67.trans (congrArg some (by kernel_rfl))⟩
  f19 := Tryd.func68.trans (congrArg some (by kernel_rfl))
  f20 := Tryd.func69.trans (congrArg some (by kernel_rfl))
  f30 := ⟨Tryd.f76.name, by decide, Tryd.func76.trans (congrArg some (by kernel_rfl))⟩
  f31 := Tryd.func77.trans (congrArg some (by kernel_rfl))
  f32 := Tryd.func78.trans (congrArg some (by kernel_rfl))
  f33 := ⟨Tryd.f79.name, by decide, Tryd.func79.trans (congrArg some (by kernel_rfl))⟩
  f34 := ⟨Tryd.f80.name, by decide, Tryd.func80.trans (congrArg some (by kernel_rfl))⟩
  f35 := ⟨Tryd.f81.name, by decide, Tryd.func81.trans (congrArg some (by kernel_rfl))⟩
  f40 := ⟨Tryd.f95.name, by decide, Tryd.func95.trans (congrArg some (by kernel_rfl))⟩
  t0 := Tryd.underlying0
  a0 := Tryd.isAgg0
  z0 := Tryd.sizeOf0
  v0 := Tryd.zeroValue0
  t3 := Tryd.underlying3
  a3 := Tryd.isAgg3
  z3 := Tryd.sizeOf3
  v3 := Tryd.zeroValue3
  t4 := Tryd.underlying4
  a4 := Tryd.isAgg4
  z4 := Tryd.sizeOf4
  v4 := Tryd.zeroValue4
  t5 := Tryd.underlying5
  a5 := Tryd.isAgg5
  z5 := Tryd.sizeOf5
  v5 := Tryd.zeroValue5
  t9 := Tryd.underlying9
  a9 := Tryd.isAgg9
  z9 := Tryd.sizeOf9
  v9 := Tryd.zeroValue9
  t22 := Tryd.underlying25
  a22 := Tryd.isAgg25
  z22 := Tryd.sizeOf25
  v22 := Tryd.zeroValue25
  t23 := Tryd.underlying25
  a23 := Tryd.isAgg25
  z23 := Tryd.sizeOf25
  v23 := Tryd.zeroValue25
  t25 := Tryd.underlying3
  a25 := Tryd.isAgg3
  z25 := Tryd.sizeOf3
  v25 := Tryd.zeroValue3
  t32 := Tryd.underlying75
  a32 := Tryd.isAgg75
  z32 := Tryd.sizeOf75
  v32 := Tryd.zeroValue75
  t35 := Tryd.underlying81
  a35 := Tryd.isAgg81
  z35 := Tryd.sizeOf81
  v35 := Tryd.zeroValue81
  t36 := Tryd.underlying82
  a36 := Tryd.isAgg82
  z36 := Tryd.sizeOf82
  v36 := Tryd.zeroValue82
  t41 := Tryd.underlying87
  a41 := Tryd.isAgg87
  z41 := Tryd.sizeOf87
  v41 := Tryd.zeroValue87
  t44 := Tryd.underlying90
  a44 := Tryd.isAgg90
  z44 := Tryd.sizeOf90
  v44 := Tryd.zeroValue90
  t46 := Tryd.underlying78
  a46 := Tryd.isAgg78
  z46 := Tryd.sizeOf78
  v46 := Tryd.zeroValue78
  t53 := Tryd.underlying98
  a53 := Tryd.isAgg98
  z53 := Tryd.sizeOf98
  v53 := Tryd.zeroValue98
  t57 := Tryd.underlying102
  a57 := Tryd.isAgg102
  z57 := Tryd.sizeOf102
  v57 := Tryd.zeroValue102
  t63 := Tryd.underlying114
  a63 := Tryd.isAgg114
  z63 := Tryd.sizeOf114
  v63 := Tryd.zeroValue114
  t64 := Tryd.underlying115
  a64 := Tryd.isAgg115
  z64 := Tryd.sizeOf115
  v64 := Tryd.zeroValue115 }
open Go.RowKit Go.Sort Go.Lib in
/-- strconv.AppendInt: "AppendInt appends the string form of the integer i, as generated by FormatInt, to dst and returns the extended buffer.": AT BASE 10: WHAT COMES BACK OWNS dst's CELLS AND, BEHIND THEM, i's DECIMAL NUMERAL ('Lib.itoa i': at most 20 bytes), for every int64. Below the call's own blocks nothing has turned. (LAID: no walk: one application.) -/
theorem Tryd.strconv_AppendInt_10 (B n : Nat) (i : Int) (h0 : -9223372036854775808 ≤ i) (h1 : i ≤ 9223372036854775807) (sv : Value) (xs : List Value) (w : World) (hown : w.ownsRow B 5 1 sv n xs) (hBw : B ≤ w.heap.size) (hlim : n + 21 ≤ 140737488355328) (htab : Lib.TabBelow Tryd.prog B w "internal/strconv.uint64pow10" .u64 Lib.pow10Tab) :
    Calls Tryd.prog 45 #[sv, .int .i64 i, .int .i64 10] w fun e w' => ∃ v', e = .returned v' ∧ w'.ownsRow B 5 1 v' (n + (Lib.itoa i).length) (xs ++ Lib.byteCells (Lib.itoa i)) ∧ Below B w w' ∧ Lib.OthersKept 5 none w w' := Any.strconv_AppendInt_10 Tryd.laysM176 B n i h0 h1 sv xs w hown hBw hlim htab
open Go.RowKit Go.Lib Go.Sort in
/-- slices.Compact at []int: "Compact replaces consecutive runs of equal elements with a single copy. This is like the uniq command found on Unix. Compact modifies the contents of the slice s and returns the modified slice, which may have a smaller length. Compact zeroes the elements between the new length and the original length. The result preserves the nilness of s.": IT RETURNS THE SLICE CUT TO 'Lib.compact zs'; ITS CELLS HOLD 'Lib.compact zs', THEN ZERO VALUES up to the old length; all else is as it was, but for the count of draws. IN THE WORDS OF slices.Sort's CONTRACT ('Holds', 'putRow'): so the everyday 'slices.Sort(xs); xs = slices.Compact(xs)' goes from the one contract to the other. It asks 'zs.length ≤ cap' (every slice's: the reslicing 's[:k]' looks at it). Length 0, nil: '.._empty'. (LAID: no walk: one application.) -/
theorem Tryd.slices_Compact_int (blk off cap : Nat) (zs : List Int) (w : World) (hH : Holds (Value.int .i64) w blk off zs.toArray) (hsz : zs.length ≤ 9223372036854775807) (hcap : zs.length ≤ cap) :
    Calls Tryd.prog 40 #[.slice (some ⟨blk, off, none⟩) zs.length cap] w fun e w' => e = .returned (.slice (some ⟨blk, off, none⟩) (Lib.compact zs).length cap) ∧ ∃ q, w' = putRow (Value.int .i64) (Sort.ahead w q) blk off (Lib.compact zs ++ List.replicate (zs.length - (Lib.compact zs).length) 0).toArray := Any.slices_Compact_int Tryd.laysNm220 blk off cap zs w hH hsz hcap
open Go.RowKit Go.Lib Go.Sort in
/-- The same at a slice of length 0, a nil one too: it comes back as it is. (LAID: no walk: one application.) -/
theorem Tryd.slices_Compact_int_empty (a : Option Addr) (cap : Nat) (w : World) :
    Calls Tryd.prog 40 #[.slice a 0 cap] w fun e w' => e = .returned (.slice a 0 cap) ∧ w' = w := Any.slices_Compact_int_empty Tryd.laysNm220 a cap w
open Go.Sort Go.RowKit in
theorem Tryd.slices_Sort_int (blk off cap : Nat) (zs : List Int) (w : World) (hH : Holds (Value.int .i64) w blk off zs.toArray) (hblk : blk < w.heap.size) (hsz : zs.length < 4611686018427387904) :
    Calls Tryd.prog 47 #[.slice (some ⟨blk, off, none⟩) zs.length cap] w fun e w' =>
      e = .returned (.tuple #[]) ∧ ∃ n os, w' = grow (putRow (Value.int .i64) (Sort.ahead w n) blk off (zs.mergeSort fun x y => decide (x ≤ y)).toArray) os := AnyM.slices_Sort_int Tryd.laysSlM5_f47 blk off cap zs w hH hblk hsz
open Go.RowKit Go.Sort in
/-- .. and plain. (LAID AT THE INSTANCE 'slices.Sort[[]int,int]': no walk: one application.) -/
theorem Tryd.slices_Sort_int_none (p : Option Addr) (cap : Nat) (w : World) :
    Calls Tryd.prog 47 #[.slice p 0 cap] w fun e w' => e = .returned (.tuple #[]) ∧ w' = w := AnyM.slices_Sort_int_none Tryd.laysSlM5_f47 p cap w
open Go.RowKit Go.Lib Go.Sort in
/-- **slices.SortFunc, IN THE DOCUMENTATION's OWN TERMS: A PERMUTATION OF WHAT THE ROW HELD, SORTED BY 'cmp(a, b) < 0'.** Which of two equals comes first is left open ("The sort is not guaranteed to be stable"). (LAID AT THE INSTANCE 'slices.SortFunc[[][]int,[]int]': no walk: one application.) -/
theorem Tryd.slices_SortFunc {α : Type} [Inhabited α] (enc : α → Value) (h1 : OneCell enc) (cf : α → α → Int) (hO : SWO (ltOf cf)) (g : Nat) (cb : Array Value) (blk off cap : Nat) (d : Array α) (w : World) (eg : ∀ args w, (callFunc g args).run Tryd.prog w = .ok (.enter g args) w) (hcmp : CmpLays1 Tryd.prog g cb enc cf blk off d.size w) (hH : Holds enc w blk off d) (hblk : blk < w.heap.size) (hsz : d.size < 4611686018427387904) :
    Calls Tryd.prog 55 #[.slice (some ⟨blk, off, none⟩) d.size cap, .func (.func g) #[] cb] w fun e w' =>
      e = .returned (.tuple #[]) ∧ ∃ d' n os, PermIn 0 d.size d d' ∧ SortedIn (ltOf cf) 0 d.size d' ∧ w' = sortWorld enc w blk off n d' os := Any.slices_SortFunc Tryd.laysSlF6_f55 enc h1 cf hO g cb blk off cap d w eg hcmp hH hblk hsz
end Go.Proofs
/- join.key: a row of numbers as a text: each number behind a space. Two rows have one text just if they are one. Its conditions: the numbers are int64's, fewer than 2^36; strconv's table reads as it was laid. -/
namespace Go.Proofs.YtgejnljpdfjgpaaDoor.Q
open Go.RowKit Go.Proofs Go.Proofs.YtgejnljpdfjgpaaDoorW.PrintWords Go.Proofs.YtgejnljpdfjgpaaDoorW.PrintLast Go.Proofs.YtgejnljpdfjgpaaDoorW.PrintMore
set_option linter.unusedVariables false
set_option linter.unusedSimpArgs false

/-! #### the numeral -/
def valB (l : List UInt8) : Nat := l.foldl (fun a b => a * 10 + (b.toNat - 48)) 0
theorem valB_snoc (l : List UInt8) (b : UInt8) : valB (l ++ [b]) = valB l * 10 + (b.toNat - 48) := by simp [valB]
theorem dig_toNat (i : Nat) (h : i < 10) : (UInt8.ofNat (48 + i)).toNat = 48 + i := by
  rw [UInt8.toNat_ofNat']
  omega
theorem valB_dec (u : Nat) : valB (Lib.decDigits u) = u := by
  induction u using Nat.strongRecOn with
  | _ u ih =>
    rw [Lib.decDigits]
    split
    · rename_i h
      simp [valB]
      omega
    · rw [valB_snoc, ih (u / 10) (by omega), dig_toNat _ (by omega)]
      omega
theorem dec_bytes (u : Nat) : ∀ b ∈ Lib.decDigits u, 48 ≤ b.toNat ∧ b.toNat ≤ 57 := by
  induction u using Nat.strongRecOn with
  | _ u ih =>
    intro b hb
    rw [Lib.decDigits] at hb
    split at hb
    · rename_i h
      rw [List.mem_singleton.1 hb, dig_toNat u h]
      omega
    · rcases List.mem_append.1 hb with hb | hb
      · exact ih (u / 10) (by omega) b hb
      · rw [List.mem_singleton.1 hb, dig_toNat _ (by omega)]
        omega
theorem dec_ne (u : Nat) : Lib.decDigits u ≠ [] := by
  rw [Lib.decDigits]
  split <;> simp
theorem itoa_bytes (n : Int) : ∀ b ∈ Lib.itoa n, b ≠ 32 := by
  intro b hb e
  unfold Lib.itoa at hb
  split at hb
  · rcases List.mem_cons.1 hb with hb | hb
    · rw [e] at hb
      exact absurd hb (by decide)
    · have := (dec_bytes _ b hb).1
      rw [e] at this
      exact absurd this (by decide)
  · have := (dec_bytes _ b hb).1
    rw [e] at this
    exact absurd this (by decide)
theorem itoa_inj {m n : Int} (h : Lib.itoa m = Lib.itoa n) : m = n := by
  unfold Lib.itoa at h
  have ne45 : ∀ (u : Nat) (l : List UInt8), Lib.decDigits u ≠ 45 :: l := fun u l e => by
    have := (dec_bytes u 45 (by rw [e]; exact List.mem_cons_self ..)).1
    exact absurd this (by decide)
  split at h <;> split at h
  · have h2 := congrArg valB (List.cons.inj h).2
    rw [valB_dec, valB_dec] at h2
    omega
  · exact absurd h.symm (ne45 _ _)
  · exact absurd h (ne45 _ _)
  · have h2 := congrArg valB h
    rw [valB_dec, valB_dec] at h2
    omega

/-- A row's text. -/
def keyB : List Int → List UInt8
  | [] => []
  | n :: t => 32 :: (Lib.itoa n ++ keyB t)
theorem keyB_snoc (t : List Int) (n : Int) : keyB (t ++ [n]) = keyB t ++ 32 :: Lib.itoa n := by
  induction t with
  | nil => simp [keyB]
  | cons m t ih => simp [keyB, ih]
theorem keyB_head (t : List Int) : keyB t = [] ∨ ∃ l, keyB t = 32 :: l := by
  cases t with
  | nil => exact .inl rfl
  | cons n t => exact .inr ⟨_, rfl⟩
theorem split32 {a b : List UInt8} {c d : List UInt8} (ha : ∀ x ∈ a, x ≠ 32) (hb : ∀ x ∈ b, x ≠ 32) (hc : c = [] ∨ ∃ l, c = 32 :: l) (hd : d = [] ∨ ∃ l, d = 32 :: l) (h : a ++ c = b ++ d) : a = b ∧ c = d := by
  induction a generalizing b with
  | nil =>
    cases b with
    | nil => exact ⟨rfl, h⟩
    | cons y ys =>
      rcases hc with rfl | ⟨l, rfl⟩
      · simp at h
      · simp at h
        exact absurd h.1.symm (hb y (List.mem_cons_self ..))
  | cons x xs ih =>
    cases b with
    | nil =>
      rcases hd with rfl | ⟨l, rfl⟩
      · simp at h
      · simp at h
        exact absurd h.1 (ha x (List.mem_cons_self ..))
    | cons y ys =>
      simp only [List.cons_append, List.cons.injEq] at h
      obtain ⟨e1, e2⟩ := ih (fun z hz => ha z (List.mem_cons_of_mem _ hz)) (fun z hz => hb z (List.mem_cons_of_mem _ hz)) h.2
      exact ⟨by rw [h.1, e1], e2⟩
theorem keyB_inj {t u : List Int} (h : keyB t = keyB u) : t = u := by
  induction t generalizing u with
  | nil => cases u with
    | nil => rfl
    | cons m u => simp [keyB] at h
  | cons n t ih => cases u with
    | nil => simp [keyB] at h
    | cons m u =>
      simp only [keyB, List.cons.injEq, true_and] at h
      obtain ⟨e1, e2⟩ := split32 (itoa_bytes n) (itoa_bytes m) (keyB_head t) (keyB_head u) h
      rw [itoa_inj e1, ih e2]
def in64 (n : Int) : Prop := -9223372036854775808 ≤ n ∧ n ≤ 9223372036854775807
theorem keyB_len (t : List Int) (h : ∀ n ∈ t, in64 n) : (keyB t).length ≤ t.length * 22 := by
  induction t with
  | nil => simp [keyB]
  | cons n t ih =>
    have h1 := Lib.itoa_length_le n (h n (List.mem_cons_self ..)).1 (h n (List.mem_cons_self ..)).2
    have h2 := ih (fun m hm => h m (List.mem_cons_of_mem _ hm))
    simp only [keyB, List.length_cons, List.length_append]
    omega

def keyS (t : List Int) : ByteArray := ⟨(keyB t).toArray⟩
theorem keyS_inj {t u : List Int} (h : keyS t = keyS u) : t = u := by
  apply keyB_inj
  have := congrArg (fun b : ByteArray => b.data.toList) h
  simpa [keyS] using this

/-! #### the walk -/
/-- The table of powers reads as it was laid, and goes on so. -/
def TabOk (w : World) : Prop := Lib.TabBelow Tryd.prog w.heap.size w "internal/strconv.uint64pow10" .u64 Lib.pow10Tab
theorem TabOk.on {w W : World} (h : TabOk w) (hb : Below w.heap.size w W) : TabOk W := fun w' h' => h w' (hb.trans (h'.mono hb.size))
theorem TabOk.base {w W : World} (h : TabOk w) (hb : Below w.heap.size w W) : Lib.TabBelow Tryd.prog w.heap.size W "internal/strconv.uint64pow10" .u64 Lib.pow10Tab := Lib.TabBelow.on h hb

theorem info_u8 : (Tryd.prog.info? 5).map (fun i => (i.zero, i.size, i.bytes)) = some (some (.int .u8 0), 1, 1) := by kernel_rfl
theorem nums_bytes (l : List UInt8) : Lib.byteCells l = nums .u8 (l.map fun b => (b.toNat : Int)) := by simp [Lib.byteCells, nums]
theorem strOfNums_bytes (l : List UInt8) : strOfNums (l.map fun b => (b.toNat : Int)) = ⟨l.toArray⟩ := by simp [strOfNums, Function.comp_def]

set_option maxHeartbeats 1000000 in
set_option maxRecDepth 100000 in
theorem join_key.calls (A0 : Option Addr) (c0 : Nat) (l0 : List Int) (w : World) (hr0 : Kd.C (Kd.int .i64) w A0 l0.length l0) (hb : l0.length < 68719476736) (h64 : ∀ n ∈ l0, in64 n) (hT : TabOk w) :
    Calls Tryd.prog 33 #[.slice A0 l0.length c0] w fun e w' => e = .returned (.string (keyS l0)) ∧ Below w.heap.size w w' := by
  have HR0 := Aside0.mk hr0
  have H64 := Aside0.mk h64
  have HT := Aside0.mk hT
  clear hr0 h64 hT
  go_enter Tryd.func33, Tryd.ntmps33
  go_wp2
  go_loopw [3, 8] (fun v i wr => ∃ k : Nat, k ≤ l0.length ∧ i = .int .i64 k ∧ Aside0 (wr.ownsRow w.heap.size 5 1 v (keyB (l0.take k)).length (Lib.byteCells (keyB (l0.take k)))) ∧ Aside0 (Below w.heap.size w wr)) (fun _ i _ => l0.length - (intOf i).toNat)
  case atStart => exact ⟨0, Nat.zero_le _, rfl, aside0 (by simpa [keyB, Lib.byteCells] using World.ownsRow_nil _ _ _ _), aside0 (Below.refl _ _)⟩
  case round =>
    obtain ⟨k, hk, rfl, HO, HB⟩ := hrel
    by_cases hlt : k < l0.length
    · have hd : decide ((k : Int) < (l0.length : Int)) = true := decide_eq_true (by omega)
      have hd2 : decide (k < l0.length) = true := decide_eq_true hlt
      obtain ⟨ad, e1, hx⟩ := Kd.at_int HR0.out (k : Int) (by omega) (by omega)
      subst e1
      replace hx := (HB.out.cell (World.block_lt_of_cell? w _ hx)).trans hx
      rw [Int.toNat_natCast] at hx
      have HS := Aside0.mk (take_rd' l0 k hlt)
      have HN := Aside0.mk (H64.out (rd l0 k) (by rw [rd_nat l0 k hlt]; exact List.getElem_mem hlt))
      have HKL := Aside0.mk (keyB_len (l0.take k) (fun n hn => H64.out n (List.mem_of_mem_take hn)))
      generalize hp : rd l0 (k : Int) = p at hx HS HN
      clear hp
      go_wp2_with (first | ((with_reducible refine gate_builtin (b := .append) (xs := #[.tmp 12, .tmp 13]) rfl ?_); at_builtin; refine print_append_cells (w0 := w) w.heap.size rfl (.tmp 12) (.tmp 13) 68 5 (.int .u8 0) 1 1 rfl Tryd.underlying68 info_u8 rfl (by decide) (by decide) _ (keyB (l0.take k)).length (Lib.byteCells (keyB (l0.take k))) [.int .u8 32] rfl rfl rfl (by simp [Value.oneCell']) ?aO ?aB ?aS ?aL ?_; (case aO => exact HO.out); (case aB => exact HB.out); (case aS => exact HB.out.size); (case aL => have := HKL.out; rw [List.length_take] at this; omega); intro v1 w1 ho hbb hg hat; have HB1 := Aside0.mk hbb; have HO1 := Aside0.mk ho; clear ho hbb hg hat) | fail)
      refine (Tryd.strconv_AppendInt_10 w.heap.size ((keyB (l0.take k)).length + 1) p HN.out.1 HN.out.2 v1 _ w1 HO1.out HB1.out.size (by have := HKL.out; rw [List.length_take] at this; omega) (HT.out.base HB1.out)).mono ?_
      rintro e w2 ⟨v2, rfl, hown2, hbel2, _⟩
      have HO2 := Aside0.mk hown2
      have HB2 := Aside0.mk (HB1.out.trans hbel2)
      clear hown2 hbel2 HO HB HO1 HB1
      go_wp2
      go_roundw
      case rel =>
        refine ⟨k + 1, by omega, by go_num, aside0 ?_, HB2⟩
        have := HO2.out
        rw [HS.out, keyB_snoc]
        simpa [Lib.byteCells, Nat.add_assoc, Nat.add_comm 1] using this
      case measure => simp [intOf]; omega
    · have hke : k = l0.length := by omega
      subst hke
      have hd2 : decide (l0.length < l0.length) = false := decide_eq_false (by omega)
      rw [List.take_length] at HO
      have hown := HO.out
      rw [nums_bytes] at hown
      have hconv := own_string (P := Tryd.prog) (src := 68) (dst := 9) Tryd.underlying68 Tryd.underlying5 Tryd.underlying9 hown
      rw [strOfNums_bytes] at hconv
      clear hown
      have hconv : Sem.run Tryd.prog (convert 68 9 _) _ = .ok (.string (keyS l0)) _ := hconv
      go_wp2
      go_ret
      exact ⟨rfl, HB.out⟩

end Go.Proofs.YtgejnljpdfjgpaaDoor.Q
/- What the rows' listed tables give: strconv's table reads as it was laid; a world for the witness. -/
namespace Go.Proofs.YtgejnljpdfjgpaaDoor.Q
open Go.ChangeShapes Go.WideShapes Go.ChangeAt Go.RowKit

theorem own : ownKnob Tryd.prog.godebug = none := by kernel_rfl
theorem laidOut : laidOutB Tryd.prog = true := by kernel_rfl
theorem gTab : Tryd.prog.globalNamed "internal/strconv.uint64pow10" = some 0 := by kernel_rfl
theorem gTabType : (Tryd.prog.globals[0]?).map (·.type) = some 112 := by kernel_rfl
theorem cellsTab : Tryd.prog.cellsOf 112 = 20 := by kernel_rfl
theorem cellsU64 : Tryd.prog.cellsOf 78 = 1 := by kernel_rfl
def laid3 : List (String × DataW Unit) := [("math/bits.deBruijn32tab", Rows.laid_math_bits_deBruijn32tab), ("math/bits.deBruijn64tab", Rows.laid_math_bits_deBruijn64tab), ("internal/strconv.uint64pow10", Rows.laid_internal_strconv_uint64pow10)]

/-- WHAT THE ROW's LIST GIVES: the table's cells hold its numbers. -/
theorem table {W : World} (h0 : laidMetH Tryd.prog laid3 W) : Lib.TabIs Tryd.prog W "internal/strconv.uint64pow10" .u64 Lib.pow10Tab := by
  have h : laidMet Tryd.prog laid3 W := h0
  obtain ⟨ps, ⟨_, _, _, _, _, _, _, _, _, _, ⟨_, _, _, _, _, _, _, _, _, _, ⟨g, t, cs, fuel, p, q, hg, ht, hvar, hd, _, _⟩, _⟩, _⟩, _⟩ := h
  obtain rfl := Option.some.inj (gTab.symm.trans hg)
  obtain rfl := Option.some.inj (gTabType.symm.trans ht)
  have hd' : DataW.trod (fun _ => ()) Tryd.prog W 0 (fun _ => true) false fuel 112 cs.toList = some (Lib.tabData .u64 Lib.pow10Tab, p) := hd
  unfold Lib.TabIs
  rw [hvar, ← Lib.cells_of_tab Tryd.underlying112 Tryd.underlying78 cellsU64 cellsTab hd']
theorem tabOk {W : World} (h0 : laidMetH Tryd.prog laid3 W) : TabOk W := Lib.tabBelow_of_tabIs (table h0)

/-- A WORLD FOR THE WITNESS: the settled one, the three tables holding what their initialisers lay. -/
noncomputable def laidWorld (os : Os) : World :=
  let h0 := (World.holding Tryd.prog os ⟨#[], #[], []⟩).heap
  let h1 := h0.modify 0 fun
      | .cells _ t frozen => .cells ((Lib.pow10Tab.map fun z => Value.int .u64 z).toArray) t frozen
      | o => o
  let h2 := h1.modify 1 fun
      | .cells _ t frozen => .cells ((#[0, 1, 28, 2, 29, 14, 24, 3, 30, 22, 20, 15, 25, 17, 4, 8, 31, 27, 13, 23, 21, 19, 16, 7, 26, 12, 18, 6, 11, 5, 10, 9] : Array Int).map fun z => Value.int .u8 z) t frozen
      | o => o
  let h3 := h2.modify 2 fun
      | .cells _ t frozen => .cells ((#[0, 1, 56, 2, 57, 49, 28, 3, 61, 58, 42, 50, 38, 29, 17, 4, 62, 47, 59, 36, 45, 43, 51, 22, 53, 39, 33, 30, 24, 18, 12, 5, 63, 55, 48, 27, 60, 41, 37, 16, 46, 35, 44, 21, 52, 32, 23, 11, 54, 26, 40, 15, 34, 20, 31, 10, 25, 14, 19, 9, 13, 8, 7, 6] : Array Int).map fun z => Value.int .u8 z) t frozen
      | o => o
  { World.holding Tryd.prog os ⟨#[], #[], []⟩ with heap := h3 }

end Go.Proofs.YtgejnljpdfjgpaaDoor.Q
/- What comes in, read as rows: integers, slices, structs, as deep as they go. No function's code stands in it. -/
namespace Go.Proofs.YtgejnljpdfjgpaaDoor.Q
open Go.RowKit Go.Proofs Go.ChangeShapes Go.WideShapes Go.Proofs.YtgejnljpdfjgpaaDoorW.PrintWords Go.Proofs.YtgejnljpdfjgpaaDoorW.PrintLast Go.Proofs.YtgejnljpdfjgpaaDoorW.PrintMore
set_option linter.unusedVariables false
set_option linter.unusedSimpArgs false

/-- A value of this type that reads as data is a value of this kind. -/
def Opens {H : Type} (enc : TypeId × Value → H) (W : World) (t : TypeId) {α : Type} (d : Kd α) (Pr : α → Prop) : Prop :=
  ∀ (fuel : Nat) (cs : List Value) (x : DataW H × List MemPlace), DataW.trod enc Tryd.prog W 0 (fun _ => true) true fuel t cs = some x → ∃ a, d.K W a cs ∧ Pr a

section
variable {H : Type} {enc : TypeId × Value → H} {W : World}
theorem Opens.int {t : TypeId} {k : IntKind} (ht : Tryd.prog.underlying t = some (.int k)) : Opens enc W t (Kd.int k) (fun z => (Lit.int k z).wf = true) := fun fuel cs x h => by
  obtain ⟨z, rfl, _, hw⟩ := DataW.trod_int ht h
  exact ⟨z, rfl, hw⟩
theorem Opens.slice {t e : TypeId} {α : Type} {d : Kd α} {Pr : α → Prop} (ht : Tryd.prog.underlying t = some (.slice e)) (hsz : Tryd.prog.cellsOf e = d.sz) (he : Opens enc W e d Pr) : Opens enc W t (Kd.slice e d) (fun xs => ∀ x ∈ xs, Pr x) := fun fuel cs x h => by
  rcases Go.Deep.open_slice ht h with ⟨rfl, _⟩ | ⟨a, len, cap, m, n, D, Pl, rfl, _, hl, hm, hmm, _, hi⟩
  · exact ⟨[], ⟨none, 0, rfl, Nat.le_refl _, Kd.C_nil _ _⟩, fun _ h => absurd h (List.not_mem_nil)⟩
  · have hlm : len ≤ m := by rw [hmm]; simpa using hl
    have hall : ∀ i : Fin len, ∃ p : α, Pr p ∧ ∃ c, c.length = d.sz ∧ d.K W p c ∧ ∀ j u, c[j]? = some u → W.cell? (a.add (i.1 * d.sz + j)) = some u := fun i => by
      obtain ⟨cs', hc, ht'⟩ := hi i.1 (Nat.lt_of_lt_of_le i.2 hlm)
      obtain ⟨p, hp, hpr⟩ := he _ _ _ ht'
      rw [hsz] at hc
      obtain ⟨_, hcl, hat⟩ := World.cells?_some hc
      refine ⟨p, hpr, cs', hcl, hp, fun j u hu => ?_⟩
      have hj : j < d.sz := by rw [← hcl]; exact (List.getElem?_eq_some_iff.1 hu).1
      rw [← Addr.add_add, hat j hj]
      exact hu
    refine ⟨List.ofFn (fun i => (hall i).choose), ⟨some a, cap, by simp, by simpa using hl, by simp, ?_, fun _ => ⟨a, rfl, fun j p hp => ?_⟩⟩, fun p hp => ?_⟩
    · have : cap ≤ 9223372036854775807 := hm
      simp
      omega
    · obtain ⟨hj, rfl⟩ := List.getElem?_eq_some_iff.1 hp
      have hj' : j < len := by simpa using hj
      rw [List.getElem_ofFn]
      exact (hall ⟨j, hj'⟩).choose_spec.2
    · obtain ⟨j, hj, rfl⟩ := List.getElem_of_mem hp
      rw [List.getElem_ofFn]
      exact (hall _).choose_spec.1
/-- A struct's field, of one cell. -/
theorem field_of {t : TypeId} {fs : Array Field} (ht : Tryd.prog.underlying t = some (.struct fs)) {fuel : Nat} {cs : List Value} {x : DataW H × List MemPlace} (h : DataW.trod enc Tryd.prog W 0 (fun _ => true) true fuel t cs = some x) {i : Nat} {f : Field} (hf : fs[i]? = some f) {α : Type} {d : Kd α} {Pr : α → Prop} (ho : Opens enc W f.type d Pr) :
    ∃ a, d.K W a ((cs.drop f.offset).take (Tryd.prog.cellsOf f.type)) ∧ Pr a := by
  obtain ⟨xs, n, _, _, hl, hxs, hfld⟩ := DataW.trod_struct ht h
  have h1 := hfld i f hf
  have hi : i < xs.length := by rw [hxs]; exact (Array.getElem?_eq_some_iff.1 hf).1
  rw [List.getElem?_eq_getElem hi] at h1
  exact ho _ _ _ h1
theorem len_of {t : TypeId} {fs : Array Field} (ht : Tryd.prog.underlying t = some (.struct fs)) {fuel : Nat} {cs : List Value} {x : DataW H × List MemPlace} (h : DataW.trod enc Tryd.prog W 0 (fun _ => true) true fuel t cs = some x) : cs.length = Tryd.prog.cellsOf t := by
  obtain ⟨xs, n, _, _, hl, _, _⟩ := DataW.trod_struct ht h
  exact hl
theorem Opens.ints : Opens enc W 25 (Kd.slice 3 (Kd.int .i64)) (fun xs => ∀ x ∈ xs, (Lit.int .i64 x).wf = true) := Opens.slice Tryd.underlying25 (by kernel_rfl) (Opens.int Tryd.underlying3)
theorem Opens.rows : Opens enc W 24 (Kd.slice 25 (Kd.slice 3 (Kd.int .i64))) (fun xs => ∀ x ∈ xs, ∀ n ∈ x, (Lit.int .i64 n).wf = true) := Opens.slice Tryd.underlying24 (by kernel_rfl) Opens.ints
/-- A slice that comes in as an argument. -/
theorem Opens.arg {t e : TypeId} {α : Type} {d : Kd α} {Pr : α → Prop} (ho : Opens enc W t (Kd.slice e d) (fun xs => ∀ x ∈ xs, Pr x)) {fuel : Nat} {v : Value} {x : DataW H × List MemPlace} (h : DataW.trod enc Tryd.prog W 0 (fun _ => true) true fuel t [v] = some x) :
    ∃ A c xs, v = .slice A xs.length c ∧ xs.length ≤ c ∧ d.C W A xs.length xs ∧ ∀ x ∈ xs, Pr x := by
  obtain ⟨xs, ⟨A, c, e, l, g⟩, hp⟩ := ho _ _ _ h
  injection e with e _
  exact ⟨A, c, xs, e, l, g, hp⟩
end

end Go.Proofs.YtgejnljpdfjgpaaDoor.Q
/- A row of rows that the call owns: its block's cells, and of each the numbers that it leads to; none of two leads to one block. -/
namespace Go.Proofs.YtgejnljpdfjgpaaDoor.Q
open Go.RowKit Go.Proofs.YtgejnljpdfjgpaaDoorW.PrintWords Go.Proofs.YtgejnljpdfjgpaaDoorW.PrintLast Go.Proofs.YtgejnljpdfjgpaaDoorW.PrintMore
set_option linter.unusedVariables false
set_option linter.unusedSimpArgs false

abbrev El := Value × List Int

/-- The element's row is the call's own. -/
def OwnEl (W : World) (base : Nat) (p : El) : Prop := (Kd.int .i64).R 3 W base (fun k => some k = p.1.ownBlock) p.1 p.2

def ApartEl (es : List El) : Prop := ∀ (i j : Nat) (p q : El), es[i]? = some p → es[j]? = some q → i ≠ j → ∀ k, p.1.ownBlock = some k → q.1.ownBlock ≠ some k

structure RowsAt (W : World) (base g cap : Nat) (es : List El) : Prop where
  ge : base ≤ g
  blk : ∃ cur, W.heap[g]? = some (.cells cur 25 (0, 0)) ∧ cur.size = cap ∧ cur.toList.take es.length = es.map (·.1)
  len : es.length ≤ cap
  cap : cap ≤ maxLen
  own : ∀ p ∈ es, OwnEl W base p
  apart : ApartEl es

theorem OwnEl.of_R {W : World} {base : Nat} {ok : Nat → Prop} {v : Value} {x : List Int} (h : (Kd.int .i64).R 3 W base ok v x) : OwnEl W base (v, x) := Kd.R_tight rfl h
theorem OwnEl.nil (W : World) (base : Nat) : OwnEl W base (.slice none 0 0, []) := Kd.R_nil _ _ _ _ _
/-- An element lives on where no row's block of numbers turns. -/
theorem OwnEl.step {W W' : World} {base g : Nat} {p : El} {cur : Array Value} {t : TypeId} (h : OwnEl W base p) (hg : W.heap[g]? = some (.cells cur t (0, 0))) (ht : t ≠ 3) (hs : ∀ k, k < W.heap.size → k ≠ g → W'.heap[k]? = W.heap[k]?) : OwnEl W' base p := by
  have h2 := Kd.R_types h hg (fun q hq e => ht (by simp [Kd.int, Kd.scalar] at hq; exact e.symm.trans hq))
  exact Kd.R_mono (Kd.R_step h2 (fun k hk hl => hs k hl hk.2)) (fun _ hk => hk.1)
theorem OwnEl.grown {W W' : World} {base : Nat} {p : El} {row : Option Nat} (h : OwnEl W base p) (hg : W.grownBy W' row) (hne : ∀ g, row = some g → ∀ cells, W.heap[g]? ≠ some (.cells cells 3 (0, 0))) : OwnEl W' base p := by
  refine Kd.R_step h (fun k hk hl => hg.block k hl (fun e => ?_))
  obtain ⟨cells, hc⟩ := Kd.R_typed h k hk.symm
  exact hne k e.symm cells hc
theorem OwnEl.below {W W' : World} {base : Nat} {p : El} (h : OwnEl W base p) (hb : Below W.heap.size W W') : OwnEl W' base p := Kd.R_below h hb
theorem OwnEl.ne {W : World} {base g : Nat} {p : El} {cur : Array Value} {t : TypeId} (h : OwnEl W base p) (hg : W.heap[g]? = some (.cells cur t (0, 0))) (ht : t ≠ 3) : p.1.ownBlock ≠ some g := by
  intro e
  obtain ⟨cells, hc⟩ := Kd.R_typed h g e
  rw [hg] at hc
  injection hc with hc
  injection hc with _ hc
  exact ht hc
theorem OwnEl.lt {W : World} {base : Nat} {p : El} (h : OwnEl W base p) {k : Nat} (hk : p.1.ownBlock = some k) : k < W.heap.size := Kd.R_lt h k hk
theorem OwnEl.reads {W : World} {base : Nat} {p : El} (h : OwnEl W base p) : ∃ A c, p.1 = .slice A p.2.length c ∧ p.2.length ≤ c ∧ (Kd.int .i64).C W A p.2.length p.2 := Kd.R_reads h

theorem RowsAt.S {W : World} {base g cap : Nat} {es : List El} (h : RowsAt W base g cap es) :
    Kd.S (Kd.slice 3 (Kd.int .i64)) 25 W base (fun _ => True) (.slice (some ⟨g, 0, none⟩) es.length cap) (es.map (·.2)) := by
  obtain ⟨cur, hb, hcs, htk⟩ := h.blk
  obtain ⟨f, hf⟩ := Kd.reps_tag (d := Kd.slice 3 (Kd.int .i64)) (w := W) (base := base) (ok := fun k => True ∧ some k ≠ (Value.slice (some ⟨g, 0, none⟩) es.length cap).ownBlock) (xs := es.map (·.2)) (inner := es.map (·.1))
    (fun j k => ∃ p, es[j]? = some p ∧ some k = p.1.ownBlock)
    (fun i j k ⟨p, hp, hpk⟩ ⟨q, hq, hqk⟩ => Classical.byContradiction fun hne => h.apart i j p q hp hq hne k hpk.symm hqk.symm)
    (fun j k ⟨p, hp, hpk⟩ => ⟨trivial, by
      have := (h.own p (List.mem_of_getElem? hp)).ne hb (by decide)
      rw [hpk]
      intro e
      exact this (by rw [e]; simp [Value.ownBlock])⟩)
    (by simp [Kd.slice])
    (fun j x hx => by
      rw [List.getElem?_map] at hx
      obtain ⟨p, hp, rfl⟩ := Option.map_eq_some_iff.1 hx
      refine ⟨p.1, ?_, Kd.R_mono (h.own p (List.mem_of_getElem? hp)) (fun k hk => ⟨p, hp, hk⟩)⟩
      simp only [Kd.slice, Nat.mul_one]
      have hl : j < es.length := (List.getElem?_eq_some_iff.1 hp).1
      have he : es[j] = p := (List.getElem?_eq_some_iff.1 hp).2
      rw [List.drop_eq_getElem_cons (by simpa using hl)]
      simp [he])
  refine ⟨f, fun k hk => trivial, es.map (fun p : El => p.1), ⟨by simp [Kd.tag, Kd.slice], .inr ⟨g, cap, cur, ?_, h.ge, hb, ?_, h.cap, ?_, ?_⟩⟩, hf⟩
  · simp
  · simpa using h.len
  · simp [Kd.tag, Kd.slice, hcs]
  · simp [Kd.tag, Kd.slice, htk]

/-- Nothing but block g turned. -/
theorem sortWorld_heap {α : Type} [Inhabited α] (enc : α → Value) (w : World) (blk off m : Nat) (dk : Array α) (os : Array Obj) (k : Nat) (hk : k < w.heap.size) (hne : k ≠ blk) : (sortWorld enc w blk off m dk os).heap[k]? = w.heap[k]? := by
  unfold sortWorld Sort.grow Sort.putRow Sort.mapBlock Sort.ahead
  simp only
  rw [Array.getElem?_append_left (by simpa using hk), Array.getElem?_modify, if_neg (by omega)]
theorem putRow_heap {α : Type} [Inhabited α] (enc : α → Value) (w : World) (blk off m : Nat) (dk : Array α) (k : Nat) (hne : k ≠ blk) : (Sort.putRow enc (Sort.ahead w m) blk off dk).heap[k]? = w.heap[k]? := by
  unfold Sort.putRow Sort.mapBlock Sort.ahead
  simp only
  rw [Array.getElem?_modify, if_neg (by omega)]
theorem putRow_blk {α : Type} [Inhabited α] (enc : α → Value) (w : World) (blk off m : Nat) (dk : Array α) {cur : Array Value} {t : TypeId} (h : w.heap[blk]? = some (.cells cur t (0, 0))) : (Sort.putRow enc (Sort.ahead w m) blk off dk).heap[blk]? = some (.cells (Sort.putCells enc off dk cur) t (0, 0)) := by
  unfold Sort.putRow Sort.mapBlock Sort.ahead
  simp only
  rw [Array.getElem?_modify, if_pos rfl, h]
  rfl
theorem sortWorld_blk {α : Type} [Inhabited α] (enc : α → Value) (w : World) (blk off m : Nat) (dk : Array α) (os : Array Obj) {cur : Array Value} {t : TypeId} (h : w.heap[blk]? = some (.cells cur t (0, 0))) : (sortWorld enc w blk off m dk os).heap[blk]? = some (.cells (Sort.putCells enc off dk cur) t (0, 0)) := by
  have h2 := putRow_blk enc w blk off m dk h
  unfold sortWorld Sort.grow
  simp only
  rw [Array.getElem?_append_left (Array.getElem?_eq_some_iff.1 h2).1]
  exact h2
theorem sortWorld_size {α : Type} [Inhabited α] (enc : α → Value) (w : World) (blk off m : Nat) (dk : Array α) (os : Array Obj) : w.heap.size ≤ (sortWorld enc w blk off m dk os).heap.size := by
  simp [sortWorld, Sort.putRow, Sort.mapBlock, Sort.ahead]
theorem putRow_size {α : Type} [Inhabited α] (enc : α → Value) (w : World) (blk off m : Nat) (dk : Array α) : (Sort.putRow enc (Sort.ahead w m) blk off dk).heap.size = w.heap.size := by
  simp [Sort.putRow, Sort.mapBlock, Sort.ahead]
/-- Below a block of the call's own. -/
theorem sortWorld_below {α : Type} [Inhabited α] (enc : α → Value) (w0 w : World) (blk off m : Nat) (dk : Array α) (os : Array Obj) (hB : Below w0.heap.size w0 w) (hb : w0.heap.size ≤ blk) : Below w0.heap.size w0 (sortWorld enc w blk off m dk os) :=
  ⟨hB.os, hB.tape, hB.output, Nat.le_trans hB.size (sortWorld_size ..), fun k hk => (sortWorld_heap enc w blk off m dk os k (Nat.lt_of_lt_of_le hk hB.size) (by omega)).trans (hB.block k hk)⟩
theorem putRow_below {α : Type} [Inhabited α] (enc : α → Value) (w0 w : World) (blk off m : Nat) (dk : Array α) (hB : Below w0.heap.size w0 w) (hb : w0.heap.size ≤ blk) : Below w0.heap.size w0 (Sort.putRow enc (Sort.ahead w m) blk off dk) :=
  ⟨hB.os, hB.tape, hB.output, by rw [putRow_size]; exact hB.size, fun k hk => (putRow_heap enc w blk off m dk k (by omega)).trans (hB.block k hk)⟩
theorem putCells_take {α : Type} [Inhabited α] (enc : α → Value) (dk : Array α) (cur : Array Value) (hs : dk.size ≤ cur.size) : (Sort.putCells enc 0 dk cur).toList.take dk.size = dk.toList.map enc := by
  apply List.ext_getElem
  · simp [Sort.putCells]; omega
  · intro i h1 h2
    have hi : i < dk.size := by simpa using h2
    simp only [Sort.putCells, List.getElem_take, Array.getElem_toList, Array.getElem_mapIdx, List.getElem_map]
    rw [if_pos (by omega), Nat.sub_zero, getElem!_pos dk i hi]

end Go.Proofs.YtgejnljpdfjgpaaDoor.Q
/- A map of texts to rows, told as a function on texts; and groups of rows by their texts. -/
namespace Go.Proofs.YtgejnljpdfjgpaaDoor.Q
open Go.RowKit Go.Proofs Go.Proofs.YtgejnljpdfjgpaaDoorW.PrintWords Go.Proofs.YtgejnljpdfjgpaaDoorW.PrintLast Go.Proofs.YtgejnljpdfjgpaaDoorW.PrintMore
set_option linter.unusedVariables false
set_option linter.unusedSimpArgs false

theorem keyed : Maps.Keyed Tryd.prog 9 := Maps.string_keyed Tryd.underlying9
theorem zeroRows (w : World) : (zeroValue 24).run Tryd.prog w = .ok (.slice none 0 0) w := by kernel_rfl

/-- An element told by itself. -/
def rV (v : Value) : Option (DataW Value × List MemPlace) := some (.held v, [])

/-- Block b is a map of at most n texts; each text leads to m's value (nil where it is not there). -/
def MapAt (W : World) (b n : Nat) (m : List UInt8 → Value) : Prop :=
  ∃ D : DataW Value, W.ownsMap Tryd.prog 9 rV b n D ∧ Maps.IsMap D ∧ ∀ l, D.atKey (.string l) (.held (.slice none 0 0)) = .held (m l)

theorem MapAt.made (W : World) : MapAt (W.alloc (.map #[] 0)) W.heap.size 0 (fun _ => .slice none 0 0) :=
  ⟨_, World.ownsMap_made W _ _ _, Maps.isMap_empty, fun l => rfl⟩
theorem MapAt.kept {W W' : World} {b n : Nat} {m : List UInt8 → Value} {row : Option Nat} (h : MapAt W b n m) (hg : W.grownBy W' row) (hne : some b ≠ row) : MapAt W' b n m := by
  obtain ⟨D, h1, h2, h3⟩ := h
  exact ⟨D, h1.kept hg hne, h2, h3⟩
theorem MapAt.lt {W : World} {b n : Nat} {m : List UInt8 → Value} (h : MapAt W b n m) : b < W.heap.size := by
  obtain ⟨D, h1, _⟩ := h
  exact h1.lt
theorem MapAt.obj {W : World} {b n : Nat} {m : List UInt8 → Value} (h : MapAt W b n m) : ∃ es c, W.heap[b]? = some (.map es c) := by
  obtain ⟨D, ⟨es, c, hb, _⟩, _⟩ := h
  exact ⟨es, c, hb⟩
theorem MapAt.look {W : World} {b n : Nat} {m : List UInt8 → Value} (h : MapAt W b n m) (t : List Int) (ht : (keyB t).length ≤ maxLen) :
    (Instr.lookup 54 (.map (some b)) (.string (keyS t)) false).run Tryd.prog W = .ok (m (keyB t)) W := by
  obtain ⟨D, h1, _, h3⟩ := h
  have hk : keyOf Tryd.prog 9 (.string (keyS t)) = some (.string (keyB t)) := by
    have := WideMaps.keyOf_string_mk (s := keyS t) Tryd.underlying9 (by simpa [keyS, ByteArray.size] using ht)
    simpa [keyS] using this
  obtain ⟨v, ps, hrun, hv⟩ := h1.lookup keyed Tryd.underlying54 (zeroRows W) (zd := .held (.slice none 0 0)) (zp := []) rfl hk
  rw [h3] at hv
  have : v = m (keyB t) := by
    have h4 := Option.some.inj hv
    have h5 := congrArg Prod.fst h4
    simpa using h5
  rw [hrun, this]
theorem MapAt.put {W : World} {b n : Nat} {m : List UInt8 → Value} (h : MapAt W b n m) (hn : n < maxLen) (t : List Int) (ht : (keyB t).length ≤ maxLen) (v : Value) :
    ∃ W', (Instr.mapUpdate 54 (.map (some b)) (.string (keyS t)) v).run Tryd.prog W = .ok () W' ∧ MapAt W' b (n + 1) (fun l => if l = keyB t then v else m l) ∧ W.grownBy W' (some b) := by
  obtain ⟨D, h1, h2, h3⟩ := h
  have hk : keyOf Tryd.prog 9 (.string (keyS t)) = some (.string (keyB t)) := by
    have := WideMaps.keyOf_string_mk (s := keyS t) Tryd.underlying9 (by simpa [keyS, ByteArray.size] using ht)
    simpa [keyS] using this
  obtain ⟨W', hrun, h4, hg⟩ := h1.update keyed Tryd.underlying54 hn hk (val := v) (d := .held v) (ps := []) rfl
  refine ⟨W', hrun, ⟨_, h4, h2.put _ _, fun l => ?_⟩, hg⟩
  show _ = DataW.held (if l = keyB t then v else m l)
  by_cases e : l = keyB t
  · rw [if_pos e, e]
    exact Maps.atKey_put_same h2 (by simp [WideAt.IsKeyLit]) _ _
  · rw [if_neg e, Maps.atKey_put_other (fun h => e (by injection h)), h3]

/-- The rows of one text. -/
def grp (rs : List (Value × List UInt8)) (l : List UInt8) : List Value := (rs.filter fun p => decide (p.2 = l)).map (·.1)
theorem grp_snoc (rs : List (Value × List UInt8)) (v : Value) (k l : List UInt8) : grp (rs ++ [(v, k)]) l = if l = k then grp rs l ++ [v] else grp rs l := by
  unfold grp
  rw [List.filter_append, List.map_append]
  by_cases e : l = k
  · subst e; simp
  · rw [if_neg e]
    simp [Ne.symm e]

structure GroupsAt (W : World) (base b n : Nat) (rs : List (Value × List UInt8)) : Prop where
  ge : base ≤ b
  map : ∃ m, MapAt W b n m ∧ (∀ l, W.ownsRow base 25 1 (m l) (grp rs l).length (grp rs l)) ∧ ∀ l l', l ≠ l' → ∀ k, (m l).ownBlock = some k → (m l').ownBlock ≠ some k

theorem GroupsAt.made (W : World) (base : Nat) (h : base ≤ W.heap.size) : GroupsAt (W.alloc (.map #[] 0)) base W.heap.size 0 [] :=
  ⟨h, _, MapAt.made W, fun l => World.ownsRow_nil _ _ _ _, fun l l' _ k hk => by simp [Value.ownBlock] at hk⟩
theorem GroupsAt.below {W W' : World} {base b n : Nat} {rs : List (Value × List UInt8)} (h : GroupsAt W base b n rs) (hb : Below W.heap.size W W') : GroupsAt W' base b n rs := by
  obtain ⟨h1, m, h2, h3, h4⟩ := h
  exact ⟨h1, m, h2.kept (grown_of_below hb none) (by simp), fun l => pw_own_below (h3 l) hb, h4⟩
/-- Another row is put to its group: what the append made, and the map's store. -/
theorem GroupsAt.push {W W1 : World} {base b n : Nat} {rs : List (Value × List UInt8)} (h : GroupsAt W base b n rs) (hn : n < maxLen) (t : List Int) (ht : (keyB t).length ≤ maxLen) (v v1 : Value) (m : List UInt8 → Value)
    (hm : MapAt W b n m) (ho : ∀ l, W.ownsRow base 25 1 (m l) (grp rs l).length (grp rs l)) (ha : ∀ l l', l ≠ l' → ∀ k, (m l).ownBlock = some k → (m l').ownBlock ≠ some k)
    (hown : W1.ownsRow base 25 1 v1 ((grp rs (keyB t)).length + 1) (grp rs (keyB t) ++ [v])) (hg : W.grownBy W1 (m (keyB t)).ownBlock) (hat : v1.ownBlock = (m (keyB t)).ownBlock ∨ ∃ g, v1.ownBlock = some g ∧ W.heap.size ≤ g) :
    ∃ W2, (Instr.mapUpdate 54 (.map (some b)) (.string (keyS t)) v1).run Tryd.prog W1 = .ok () W2 ∧ GroupsAt W2 base b (n + 1) (rs ++ [(v, keyB t)]) ∧ W1.grownBy W2 (some b) := by
  obtain ⟨es, c, hbm⟩ := hm.obj
  have hne : ∀ l, ∀ k, (m l).ownBlock = some k → k ≠ b := fun l k hk e => by
    obtain ⟨cells, hc⟩ := own_typed (ho l) k hk
    rw [e, hbm] at hc
    injection hc with hc
    cases hc
  have hm1 := hm.kept hg (fun e => hne _ b e.symm rfl)
  obtain ⟨W2, hrun, hm2, hg2⟩ := hm1.put hn t ht v1
  have hbm1 : W1.heap[b]? = some (.map es c) := (hg.block b hm.lt (fun e => hne _ b e.symm rfl)).trans hbm
  have hv1b : ∀ k, v1.ownBlock = some k → k ≠ b := fun k hk e => by
    obtain ⟨cells, hc⟩ := own_typed hown k hk
    rw [e, hbm1] at hc
    injection hc with hc
    cases hc
  refine ⟨W2, hrun, ⟨h.ge, _, hm2, fun l => ?_, fun l l' hll k hk => ?_⟩, hg2⟩
  · rw [grp_snoc]
    by_cases e : l = keyB t
    · simp only [e, if_true]
      rw [List.length_append, List.length_singleton]
      exact hown.kept hg2 (by
        cases hx : v1.ownBlock with
        | none => exact .inl rfl
        | some g => exact .inr (fun h2 => hv1b g hx (Option.some.inj h2)))
    · simp only [if_neg e]
      have h5 : W1.ownsRow base 25 1 (m l) (grp rs l).length (grp rs l) := (ho l).kept hg (by
        cases hx : (m l).ownBlock with
        | none => exact .inl rfl
        | some g => exact .inr (fun h2 => ha l (keyB t) e g hx h2.symm))
      exact h5.kept hg2 (by
        cases hx : (m l).ownBlock with
        | none => exact .inl rfl
        | some g => exact .inr (fun h2 => hne l g hx (Option.some.inj h2)))
  · have hnew : ∀ l2, l2 ≠ keyB t → ∀ g, (m l2).ownBlock = some g → v1.ownBlock ≠ some g := fun l2 hl2 g hg3 e2 => by
      rcases hat with hat | ⟨g2, hat, hge⟩
      · rw [hat] at e2
        exact ha l2 (keyB t) hl2 g hg3 e2
      · rw [hat] at e2
        have h6 := own_lt (ho l2) g hg3
        have h7 := Option.some.inj e2
        omega
    by_cases e : l = keyB t
    · simp only [e, if_true] at hk
      by_cases e' : l' = keyB t
      · exact absurd (e.trans e'.symm) hll
      · simp only [if_neg e']
        intro h8
        exact hnew l' e' k h8 hk
    · simp only [if_neg e] at hk
      by_cases e' : l' = keyB t
      · simp only [e', if_true]
        exact hnew l e k hk
      · simp only [if_neg e']
        exact ha l l' hll k hk

end Go.Proofs.YtgejnljpdfjgpaaDoor.Q
/- tuple.Pick: the numbers at some places, in a row of the call's own. Its conditions: both rows are read at the call; there are fewer than 2^43 places. -/
namespace Go.Proofs.YtgejnljpdfjgpaaDoor.Q
open Go.RowKit Go.Proofs.YtgejnljpdfjgpaaDoorW.PrintWords Go.Proofs.YtgejnljpdfjgpaaDoorW.PrintLast Go.Proofs.YtgejnljpdfjgpaaDoorW.PrintMore
set_option linter.unusedVariables false
set_option linter.unusedSimpArgs false

def pickL (t : List Int) : List Int → List Int
  | [] => []
  | p :: ps => (if 0 ≤ p ∧ p < (t.length : Int) then [rd t p] else []) ++ pickL t ps

theorem pickL_snoc (t ps : List Int) (p : Int) : pickL t (ps ++ [p]) = pickL t ps ++ (if 0 ≤ p ∧ p < (t.length : Int) then [rd t p] else []) := by
  induction ps with
  | nil => simp [pickL]
  | cons q ps ih => simp [pickL, ih]
theorem pickL_len (t ps : List Int) : (pickL t ps).length ≤ ps.length := by
  induction ps with
  | nil => simp [pickL]
  | cons q ps ih =>
    simp only [pickL, List.length_append, List.length_cons]
    split <;> simp <;> omega

def tuple_Pick.f (l0 l1 : List Int) : Option (List Int) := if l1.length < 8796093022208 then some (pickL l0 l1) else none

theorem take_rd (l : List Int) (i : Nat) (h : i < l.length) : l.take (i + 1) = l.take i ++ [rd l (i : Int)] := by
  rw [List.take_succ_eq_append_getElem h]
  simp [rd, h]

set_option maxHeartbeats 1000000 in
set_option maxRecDepth 100000 in
theorem tuple_Pick.calls (A0 : Option Addr) (c0 : Nat) (l0 : List Int) (A1 : Option Addr) (c1 : Nat) (l1 : List Int) (r : List Int) (w : World) (hr0 : Kd.C (Kd.int .i64) w A0 l0.length l0) (hc0 : l0.length ≤ c0) (hr1 : Kd.C (Kd.int .i64) w A1 l1.length l1) (hc1 : l1.length ≤ c1) (h : tuple_Pick.f l0 l1 = some r) :
    Calls Tryd.prog 34 #[.slice A0 l0.length c0, .slice A1 l1.length c1] w fun e w' => ∃ v0_ : Value, e = .returned (v0_) ∧ Kd.R (Kd.int .i64) 3 w' w.heap.size (fun _ => True) v0_ r ∧ Below w.heap.size w w' := by
  unfold tuple_Pick.f at h
  by_cases c2 : l1.length < 8796093022208
  · rw [if_pos c2] at h
    obtain rfl := Option.some.inj h
    have hmk : ∀ W : World, (Instr.makeSlice 25 (.int .i64 0) (.int .i64 (l1.length : Int))).run Tryd.prog W = .ok (.slice (some ⟨W.heap.size, 0, none⟩) 0 l1.length) (W.alloc (.cells (madeCells #[.int .i64 0] l1.length) 3)) := fun W => by
      obtain ⟨i0, hi, hz0, hz1, hz2⟩ := info_parts info3
      have := run_make (P := Tryd.prog) W 25 3 i0 (.int .i64 0) Tryd.underlying25 hi hz0 .i64 .i64 0 l1.length (by omega) (by omega) (by rw [hz2]; omega) (by omega)
      rw [hz1, Nat.mul_one, Int.toNat_natCast] at this
      exact this
    have hK0 : Aside0 (Kd.R (Kd.int .i64) 3 (w.alloc (.cells (madeCells #[.int .i64 0] l1.length) 3)) w.heap.size (fun _ => True) (.slice (some ⟨w.heap.size, 0, none⟩) 0 l1.length) []) := aside0 (R_made0 _ _ w _ _ _ _ (Nat.le_refl _) trivial (by simp [size_madeCells, Kd.int, Kd.scalar]) (by simp [maxLen]; omega))
    have HR0 := Aside0.mk hr0
    have HR1 := Aside0.mk hr1
    have HL := Aside0.mk c2
    clear hr0 hr1 hc0 hc1 c2 h
    go_enter Tryd.func34, Tryd.ntmps34
    go_wp2
    go_loopw [5, 13] (fun v i wr => ∃ k : Nat, k ≤ l1.length ∧ i = .int .i64 k ∧ Aside0 (Kd.R (Kd.int .i64) 3 wr w.heap.size (fun _ => True) v (pickL l0 (l1.take k))) ∧ Aside0 (Below w.heap.size w wr)) (fun _ i _ => l1.length - (intOf i).toNat)
    case atStart => exact ⟨0, Nat.zero_le _, rfl, hK0, aside0 ((Below.refl _ _).alloc (Nat.le_refl _) _)⟩
    case round =>
      obtain ⟨k, hk, rfl, HO, HB⟩ := hrel
      clear hK0 hmk
      have hlm : l1.length < 8796093022208 := HL.out
      by_cases hlt : k < l1.length
      · obtain ⟨ad, e1, hx⟩ := Kd.at_int HR1.out (k : Int) (by omega) (by omega)
        subst e1
        replace hx := (HB.out.cell (World.block_lt_of_cell? w _ hx)).trans hx
        rw [Int.toNat_natCast] at hx
        have HS := Aside0.mk (pickL_snoc l0 (l1.take k) (rd l1 k))
        rw [← take_rd l1 k hlt] at HS
        generalize hp : rd l1 (k : Int) = p at hx HS
        clear hp
        have hd : decide ((k : Int) < (l1.length : Int)) = true := decide_eq_true (by omega)
        by_cases hp0 : 0 ≤ p
        · have hp1 : decide (0 ≤ p) = true := decide_eq_true hp0
          by_cases hp2 : p < (l0.length : Int)
          · have hp3 : decide (p < (l0.length : Int)) = true := decide_eq_true hp2
            obtain ⟨ae, e2, hy⟩ := Kd.at_int HR0.out p hp0 hp2
            subst e2
            replace hy := (HB.out.cell (World.block_lt_of_cell? w _ hy)).trans hy
            have HL2 := Aside0.mk (pickL_len l0 (l1.take k))
            have H0 := Aside0.mk (show (0 ≤ p ∧ p < (l0.length : Int)) from ⟨hp0, hp2⟩)
            go_wp2_with (first | ((with_reducible refine gate_builtin (b := .append) (xs := #[.tmp 25, .tmp 30]) rfl ?_); at_builtin; refine Kd.R_append (Kd.int .i64) (w0 := w) w.heap.size rfl (.tmp 25) (.tmp 30) 25 3 (.int .i64 0) 8 rfl Tryd.underlying25 info3 rfl (by decide) (by omega) _ (pickL l0 (l1.take k)) (rd l0 p) [.int .i64 (rd l0 p)] (fun _ => True) (fun _ => False) rfl rfl ?aP (fun _ hk => hk.elim) (fun _ _ => trivial) ?aO ?aB ?aS ?aL ?_; (case aP => rfl); (case aO => exact HO.out); (case aB => exact HB.out); (case aS => exact HB.out.size); (case aL => have := HL2.out; rw [List.length_take] at this; omega); intro v1 w1 ho hb hg hat; have HB1 := Aside0.mk hb; have HO1 := Aside0.mk ho; clear ho hb hg hat))
            go_roundw
            case rel => exact ⟨k + 1, by omega, by go_num, by rw [HS.out, if_pos H0.out]; exact HO1, HB1⟩
            case measure => simp [intOf]; omega
          · have hp3 : decide (p < (l0.length : Int)) = false := decide_eq_false hp2
            have H0 := Aside0.mk (show ¬ (0 ≤ p ∧ p < (l0.length : Int)) from fun h => hp2 h.2)
            go_wp2
            go_roundw
            case rel => exact ⟨k + 1, by omega, by go_num, by rw [HS.out, if_neg H0.out, List.append_nil]; exact HO, HB⟩
            case measure => simp [intOf]; omega
        · have hp3 : decide (0 ≤ p) = false := decide_eq_false hp0
          have H0 := Aside0.mk (show ¬ (0 ≤ p ∧ p < (l0.length : Int)) from fun h => hp0 h.1)
          go_wp2
          go_roundw
          case rel => exact ⟨k + 1, by omega, by go_num, by rw [HS.out, if_neg H0.out, List.append_nil]; exact HO, HB⟩
          case measure => simp [intOf]; omega
      · have hke : k = l1.length := by omega
        subst hke
        rw [List.take_length] at HO
        have hd : decide ((l1.length : Int) < (l1.length : Int)) = false := decide_eq_false (by omega)
        go_wp2
        go_ret
        exact ⟨_, rfl, HO.out, HB.out⟩
  · rw [if_neg c2] at h
    exact absurd h (by simp)

end Go.Proofs.YtgejnljpdfjgpaaDoor.Q
namespace Go.Proofs.YtgejnljpdfjgpaaDoor.Q
open Go.RowKit Go.Proofs.YtgejnljpdfjgpaaDoorW.PrintWords Go.Proofs.YtgejnljpdfjgpaaDoorW.PrintLast Go.Proofs.YtgejnljpdfjgpaaDoorW.PrintMore
attribute [local go_sem] max2_int min2_int max_two min_two max_three min_three max_four min_four   -- for this text's walks alone
set_option linter.unusedVariables false
set_option linter.unusedSimpArgs false

/-! ### slices_Index_int_int: function 36 -/
def slices_Index_int_int.l0 : Nat → List Int → Int → Int → Int → Option (Int)
 | 0, _, _, _, _ => none
 | k + 1, x0, x1, x7, x8 => if x8 < x7 then (if 0 ≤ x8 then (if x8 < (x0.length : Int) then (if x1 = (rd x0 x8) then (some x8) else (slices_Index_int_int.l0 k x0 x1 x7 (wrap64 (x8 + 1)))) else (none)) else (none)) else (some (-1))
def slices_Index_int_int.f (k : Nat) (l0 : List Int) (a1 : Int) : Option (Int) := slices_Index_int_int.l0 k l0 a1 (l0.length : Int) 0
theorem slices_Index_int_int.mono_l : ∀ k, (∀ y0 y1 y2 y3, LeO (slices_Index_int_int.l0 k y0 y1 y2 y3) (slices_Index_int_int.l0 (k + 1) y0 y1 y2 y3))
 | 0 => fun _ _ _ _ r h => by simp [slices_Index_int_int.l0] at h
 | k + 1 => by
  have ih0 := slices_Index_int_int.mono_l k
  ·intro y0 y1 y2 y3
   unfold slices_Index_int_int.l0
   repeat' first
   | (with_reducible exact ih0 _ _ _ _)
   | (with_reducible exact LeO.refl _)
   | (with_reducible exact LeO.none _)
   | (with_reducible refine LeO.ite ?_ ?_)
   | (with_reducible refine LeO.bind ?_ (fun _ => ?_))
   | exact ih0 _ _ _ _
   | exact LeO.none _
   | refine LeO.ite ?_ ?_
   | refine LeO.bind ?_ (fun _ => ?_)
theorem slices_Index_int_int.mono : ∀ a0 a1 k, LeO (slices_Index_int_int.f k a0 a1) (slices_Index_int_int.f (k + 1) a0 a1) := by
 intro a0 a1 k
 have ih0 := slices_Index_int_int.mono_l k
 unfold slices_Index_int_int.f
 repeat' first
   | (with_reducible exact ih0 _ _ _ _)
   | (with_reducible exact LeO.refl _)
   | (with_reducible exact LeO.none _)
   | (with_reducible refine LeO.ite ?_ ?_)
   | (with_reducible refine LeO.bind ?_ (fun _ => ?_))
   | exact ih0 _ _ _ _
   | exact LeO.none _
   | refine LeO.ite ?_ ?_
   | refine LeO.bind ?_ (fun _ => ?_)
set_option maxHeartbeats 8000000 in
set_option maxRecDepth 100000 in
theorem slices_Index_int_int.calls (k : Nat) (A0 : Option Addr) (c0 : Nat) (l0 : List Int) (a1 : Int) (r : Int) (w : World) (hr0 : Kd.C (Kd.int .i64) w A0 l0.length l0) (hc0 : l0.length ≤ c0) (h : slices_Index_int_int.f k l0 a1 = some r) :
  Calls Tryd.prog 36 #[.slice A0 l0.length c0, .int .i64 a1] w fun e w' => e = .returned (.int .i64 r) ∧ Drawn0 w w' := by
 have HR0 := Aside0.mk hr0
 have HC0 := Aside0.mk hc0
 clear hr0 hc0
 have H : (slices_Index_int_int.l0 k l0 a1 (l0.length : Int) 0) = some r := h
 clear h
 have H' := Aside0.mk H
 clear H
 go_enter Tryd.func36, Tryd.ntmps36
 go_wp2
 go_loopg [8] k (fun kq v8 w' => ∃ (x8_1 : Int), v8 = .int .i64 x8_1 ∧ Aside0 (slices_Index_int_int.l0 kq l0 a1 (l0.length : Int) x8_1 = some r) ∧ Aside0 (kq ≤ k) ∧ Drawn0 w w')
 case atStart => exact ⟨(0), (by first | rfl | (simp; done) | (simp [*]; done)), H', ⟨Nat.le_refl _⟩, by repeat (first | exact Drawn0.refl _ | apply Drawn0.step)⟩
 case round =>
  clear H'
  try clear p2
  obtain ⟨x8_1, rfl, HA, HK1, ⟨m1, rfl⟩⟩ := hrel
  cases gk with
  | zero => exact absurd HA.out (by simp [slices_Index_int_int.l0])
  | succ k1 =>
   have H := HA.out
   clear HA
   simp only [slices_Index_int_int.l0] at H
   by_cases c3 : x8_1 < (l0.length : Int)
   ·rw [if_pos c3] at H
    have c3b0 : decide (x8_1 < (l0.length : Int)) = true := decide_eq_true c3
    clear c3
    by_cases c4 : 0 ≤ x8_1
    ·rw [if_pos c4] at H
     have c4b0 : decide (0 ≤ x8_1) = true := decide_eq_true c4
     clear c4
     by_cases c5 : x8_1 < (l0.length : Int)
     ·rw [if_pos c5] at H
      have c5b0 : decide (x8_1 < (l0.length : Int)) = true := decide_eq_true c5
      clear c5
      by_cases c6 : a1 = (rd l0 x8_1)
      ·rw [if_pos c6] at H
       have c6b0 : (a1 == (rd l0 x8_1)) = true := beq_iff_eq.mpr c6
       have c6b1 : (a1 != (rd l0 x8_1)) = false := bne_eq_false_iff_eq.mpr c6
       clear c6
       obtain rfl := Option.some.inj H
       have p101 : 0 ≤ (x8_1 : Int) := of_decide_eq_true (by first | (with_reducible assumption) | assumption)
       have q101 : x8_1 < (l0.length : Int) := of_decide_eq_true (by first | (with_reducible assumption) | assumption)
       obtain ⟨ad101, e101, hx101_0⟩ := Kd.at_int HR0.out x8_1 p101 q101
       cases e101
       replace p101 := eq_true p101
       replace q101 := eq_true q101
       go_wp2
       go_ret
       exact ⟨by first | rfl | (simp; done) | (simp [*]; done), by repeat (first | exact Drawn0.refl _ | apply Drawn0.step)⟩
      ·rw [if_neg c6] at H
       have c6b0 : (a1 == (rd l0 x8_1)) = false := beq_eq_false_iff_ne.mpr c6
       have c6b1 : (a1 != (rd l0 x8_1)) = true := bne_iff_ne.mpr c6
       have H' := Aside0.mk H
       clear H
       have p101 : 0 ≤ (x8_1 : Int) := of_decide_eq_true (by first | (with_reducible assumption) | assumption)
       have q101 : x8_1 < (l0.length : Int) := of_decide_eq_true (by first | (with_reducible assumption) | assumption)
       obtain ⟨ad101, e101, hx101_0⟩ := Kd.at_int HR0.out x8_1 p101 q101
       cases e101
       replace p101 := eq_true p101
       replace q101 := eq_true q101
       go_wp2
       go_roundg k1
       case measure => have := HK1.out; omega
       case rel => exact ⟨(wrap64 (x8_1 + 1)), (by first | rfl | (simp; done) | (simp [*]; done)), H', ⟨by have := HK1.out; omega⟩, by repeat (first | exact Drawn0.refl _ | apply Drawn0.step)⟩
     ·rw [if_neg c5] at H
      exact absurd H (by simp)
    ·rw [if_neg c4] at H
     exact absurd H (by simp)
   ·rw [if_neg c3] at H
    have c3b0 : decide (x8_1 < (l0.length : Int)) = false := decide_eq_false c3
    clear c3
    obtain rfl := Option.some.inj H
    go_wp2
    go_ret
    exact ⟨by first | rfl | (simp; done) | (simp [*]; done), by repeat (first | exact Drawn0.refl _ | apply Drawn0.step)⟩

end Go.Proofs.YtgejnljpdfjgpaaDoor.Q
