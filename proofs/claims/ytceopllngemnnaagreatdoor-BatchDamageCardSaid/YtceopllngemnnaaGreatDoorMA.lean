/-
  The contracts of the library and of package ascii that the batches use, and of the words, what they return.
-/
import Derived.Shelf.Strings.Builder1
import Derived.Shelf.Strings.Builder2
import Derived.Shelf.Strings.OnBuilder
import Derived.Shelf.Small.Strs
import Derived.Shelf.Strings.BuilderF
import Derived.Shelf.Strings.BuilderK
import Derived.Shelf.Utf8.RuneCount
import Derived.Shelf.Strings.Builder2Cap
import Derived.Shelf.Strconv.Atoi
import Derived.Shelf.Strconv.Itoa0
import Derived.Shelf.Strconv.Itoa1
import Derived.Shelf.LaysM
import Derived.Shelf.Strconv.Itoa2
import Derived.Shelf.Strconv.Itoa3
import Derived.Shelf.Strconv.AtoiErrFast
import Derived.Shelf.Strconv.ParseIntEmpty
import Derived.Shelf.Strconv.AtoiFail
import Derived.Shelf.Strconv.Clone
import Derived.Shelf.Strconv.SyntaxError
import Derived.Shelf.LaysC
import Derived.Shelf.Strconv.ToError
import Derived.Shelf.Strconv.Lower
import Derived.Shelf.Strconv.ParseUint10
import Derived.Shelf.Strconv.ParseUint10Empty
import Derived.Shelf.Strconv.ParseUint10Any
import Derived.Shelf.Strconv.ParseInt10
import Derived.Shelf.Strconv.AtoiLong
import Derived.Shelf.Strconv.AtoiInnerAll
import Derived.Shelf.Strconv.RangeError
import Derived.Shelf.Strconv.ToErrorRange
import Derived.Shelf.Strconv.AtoiAll
import Derived.Shelf.Strconv.ErrVarAll
import Derived.Shelf.Strings.Search1
import Derived.Shelf.Strings.Search2
import Derived.Shelf.Strings.Search3
import Derived.Shelf.Strings.Cut
import Derived.Shelf.Strings.Count
import Derived.Shelf.Strings.Shaped
import Derived.Shelf.Strings.Split
import Derived.Shelf.Strings.SplitShaped
import Derived.Shelf.Unicode.Decode
import Derived.Shelf.Strings.RuneCount
import Derived.Shelf.Strings.Explode
import Derived.Shelf.Unicode.DecodeSlow
import Derived.Shelf.Unicode.DecodeAny
import Derived.Shelf.Strings.BuilderCap
import Derived.Test.YtceopllngemnnaaGreatDoorProg
import Derived.Test.YtceopllngemnnaaGreatDoorVWords
import Derived.Test.YtceopllngemnnaaGreatDoorVMore
import Derived.Below
import Derived.Deep.Draws
import Derived.OwnWalk
import Derived.WalkKit
import Derived.KernelRfl
import Derived.RowKit3
import Derived.Deep.LoopGhost
import Derived.Deep.QuietTactic
import Derived.BigQuiet
import Derived.Outline
import Derived.Lib.Hide
import Derived.IntWalk
import Derived.Tactics
import Derived.WalkSmall
import Derived.Lib.Builder
import Derived.Laws.Externs
import Derived.Laws.BitsLemmas
import Derived.Lib.UnsafeStr
import Derived.OneCell
import Derived.Deep.AppendLies
import Derived.Maps.AppendAt
import Derived.Laws.BytesArg
import Derived.Laws.MakeOwn
import Derived.Laws.OwnMore
import Derived.Deep.OwnRows
import Derived.Lib.ConvBytes
import Derived.Laws.Slices
import Derived.WideLaws
import Derived.Deep.DeepCutAuto
import Derived.Deep.CutBlock
import Derived.Deep.RegionHeld3
import Derived.Laws.Rows
import Derived.Lib.AppendStr
import Derived.ArgAppend
import Derived.Laws.IdiomCopy
import Derived.OrdersHeld
import Derived.RowKit
import Derived.Test.YtceopllngemnnaaGreatDoorVLast
import Derived.Test.YtceopllngemnnaaGreatDoorVTab
import Derived.Test.YtceopllngemnnaaGreatDoorVFour
import Derived.Test.YtceopllngemnnaaGreatDoorVQPut
import Derived.Test.YtceopllngemnnaaGreatDoorVApart
import Derived.Test.YtceopllngemnnaaGreatDoorVArr
import Derived.Test.YtceopllngemnnaaGreatDoorVZeros
import Derived.Test.YtceopllngemnnaaGreatDoorVFoot
import Derived.Test.YtceopllngemnnaaGreatDoorVKept
import Derived.Test.YtceopllngemnnaaGreatDoorVShare
import Derived.Test.YtceopllngemnnaaGreatDoorVN
import Derived.Test.YtceopllngemnnaaGreatDoorVFootNe
import Derived.Test.YtceopllngemnnaaGreatDoorVAt
import Derived.Test.YtceopllngemnnaaGreatDoorVEqStruct
import Derived.Test.YtceopllngemnnaaGreatDoorVRepsOne
import Derived.Test.YtceopllngemnnaaGreatDoorVInv
import Derived.Test.YtceopllngemnnaaGreatDoorVInvWords
import Derived.Test.YtceopllngemnnaaGreatDoorVGuard
import Derived.Test.YtceopllngemnnaaGreatDoorVNEv
set_option linter.unusedVariables false
set_option linter.unusedSimpArgs false
/-
  DERIVED: THE SHELF's CONTRACTS AT THIS DUMP, IN PLAIN WORDS (tools/lay-plain.mjs out of 'TryzShelf.lean', which tools/lay-shelf.mjs wrote): THE SAME DECLARATIONS UNDER THE SAME NAMES: 'import', 'namespace', 'open', 'def', 'theorem' AND NOTHING ELSE: no command of the shelf's: FOR A HAND-IN. Each laying: the table of numbers ('.._ren') and one theorem, a field a fact of the dump's own or the kernel's comparison; each contract: ONE APPLICATION.
-/
namespace Go.Proofs
open Go.Shelf
def Tryz.lays169_ren : Go.Shelf.Ren := ⟨fun | 169 => 43 | n => n, fun | 70 => 80 | 9 => 9 | 0 => 0 | 72 => 82 | 37 => 26 | 127 => 119 | 3 => 3 | 5 => 5 | n => n, fun | n => n⟩
theorem Tryz.lays169 : Go.Proofs.Lays.n169 Tryz.prog Tryz.lays169_ren := {
  mixed := by kernel_rfl
  f169 := Tryz.func43.trans (congrArg some (by kernel_rfl))
  t0 := Tryz.underlying0
  a0 := Tryz.isAgg0
  z0 := Tryz.sizeOf0
  v0 := Tryz.zeroValue0
  t3 := Tryz.underlying3
  a3 := Tryz.isAgg3
  z3 := Tryz.sizeOf3
  v3 := Tryz.zeroValue3
  t9 := Tryz.underlying9
  a9 := Tryz.isAgg9
  z9 := Tryz.sizeOf9
  v9 := Tryz.zeroValue9
  t37 := Tryz.underlying26
  a37 := Tryz.isAgg26
  z37 := Tryz.sizeOf26
  v37 := Tryz.zeroValue26
  t70 := Tryz.underlying80
  a70 := Tryz.isAgg80
  z70 := Tryz.sizeOf80
  v70 := Tryz.zeroValue80
  t72 := Tryz.underlying82
  a72 := Tryz.isAgg82
  z72 := Tryz.sizeOf82
  v72 := Tryz.zeroValue82
  t127 := Tryz.underlying119
  a127 := Tryz.isAgg119
  z127 := Tryz.sizeOf119
  v127 := Tryz.zeroValue119 }
theorem Tryz.Builder_Extra_169 : Builder.Extra Tryz.prog Tryz.lays169_ren := {
  sizeBuilder := by kernel_rfl
  liesBuilder := by kernel_rfl
  t5 := Tryz.underlying5
  a5 := Tryz.isAgg5
  z5 := Tryz.sizeOf5
  v5 := Tryz.zeroValue5
  infoByte := by kernel_rfl
  cellsByte := by kernel_rfl
  sizeByte := by kernel_rfl
  neB5 := by decide }
open Go.RowKit in
theorem Tryz.Builder_String_any (B b : Nat) (l : List UInt8) (w : World) (h : Lib.IsBuilder 82 5 B b (Lib.byteCells l) w) (hBw : B ≤ w.heap.size) :
    Calls Tryz.prog 43 #[.pointer (some ⟨b, 0, none⟩)] w fun e w' => e = .returned (.string ⟨l.toArray⟩) ∧ Below B w w' := Any.Builder_String_any Tryz.lays169 Tryz.Builder_Extra_169 B b l w h hBw
def Tryz.lays156_ren : Go.Shelf.Ren := ⟨fun | 156 => 69 | 165 => 85 | 166 => 40 | 169 => 43 | 240 => 67 | 241 => 101 | 276 => 83 | 277 => 119 | n => n, fun | 31 => 89 | 9 => 9 | 3 => 3 | 4 => 4 | 0 => 0 | 20 => 20 | 72 => 82 | 76 => 85 | 70 => 80 | 37 => 26 | 75 => 84 | 127 => 119 | 164 => 135 | 5 => 5 | 80 => 87 | n => n, fun | n => n⟩
theorem Tryz.lays156 : Go.Proofs.Lays.n156 Tryz.prog Tryz.lays156_ren := {
  mixed := by kernel_rfl
  f156 := Tryz.func69.trans (congrArg some (by kernel_rfl))
  f165 := Tryz.func85.trans (congrArg some (by kernel_rfl))
  f166 := Tryz.func40.trans (congrArg some (by kernel_rfl))
  f169 := Tryz.func43.trans (congrArg some (by kernel_rfl))
  f240 := Tryz.func67.trans (congrArg some (by kernel_rfl))
  f241 := Tryz.func101.trans (congrArg some (by kernel_rfl))
  f276 := Tryz.func83.trans (congrArg some (by kernel_rfl))
  f277 := Tryz.func119.trans (congrArg some (by kernel_rfl))
  t0 := Tryz.underlying0
  a0 := Tryz.isAgg0
  z0 := Tryz.sizeOf0
  v0 := Tryz.zeroValue0
  t3 := Tryz.underlying3
  a3 := Tryz.isAgg3
  z3 := Tryz.sizeOf3
  v3 := Tryz.zeroValue3
  t4 := Tryz.underlying4
  a4 := Tryz.isAgg4
  z4 := Tryz.sizeOf4
  v4 := Tryz.zeroValue4
  t9 := Tryz.underlying9
  a9 := Tryz.isAgg9
  z9 := Tryz.sizeOf9
  v9 := Tryz.zeroValue9
  t20 := Tryz.underlying20
  a20 := Tryz.isAgg20
  z20 := Tryz.sizeOf20
  v20 := Tryz.zeroValue20
  t31 := Tryz.underlying89
  a31 := Tryz.isAgg89
  z31 := Tryz.sizeOf89
  v31 := Tryz.zeroValue89
  t37 := Tryz.underlying26
  a37 := Tryz.isAgg26
  z37 := Tryz.sizeOf26
  v37 := Tryz.zeroValue26
  t70 := Tryz.underlying80
  a70 := Tryz.isAgg80
  z70 := Tryz.sizeOf80
  v70 := Tryz.zeroValue80
  t72 := Tryz.underlying82
  a72 := Tryz.isAgg82
  z72 := Tryz.sizeOf82
  v72 := Tryz.zeroValue82
  t75 := Tryz.underlying84
  a75 := Tryz.isAgg84
  z75 := Tryz.sizeOf84
  v75 := Tryz.zeroValue84
  t76 := Tryz.underlying85
  a76 := Tryz.isAgg85
  z76 := Tryz.sizeOf85
  v76 := Tryz.zeroValue85
  t127 := Tryz.underlying119
  a127 := Tryz.isAgg119
  z127 := Tryz.sizeOf119
  v127 := Tryz.zeroValue119
  t164 := Tryz.underlying135
  a164 := Tryz.isAgg135
  z164 := Tryz.sizeOf135
  v164 := Tryz.zeroValue135 }
theorem Tryz.Builder_Extra_156 : Builder.Extra Tryz.prog Tryz.lays156_ren := {
  sizeBuilder := by kernel_rfl
  liesBuilder := by kernel_rfl
  t5 := Tryz.underlying5
  a5 := Tryz.isAgg5
  z5 := Tryz.sizeOf5
  v5 := Tryz.zeroValue5
  infoByte := by kernel_rfl
  cellsByte := by kernel_rfl
  sizeByte := by kernel_rfl
  neB5 := by decide }
open Go.RowKit in
theorem Tryz.strings_Join (bk o c : Nat) (xs : List ByteArray) (sep : ByteArray) (w : World) (hcells : ∀ (j : Nat) x, xs[j]? = some x → w.cell? ⟨bk, o + j, none⟩ = some (.string x)) (hbk : bk < w.heap.size) (hN : xs.length ≤ 140737488355328) (hcap : xs.length ≤ c) (hlen : (Lib.join (xs.map (·.data.toList)) sep.data.toList).length ≤ 140737488355328) :
    Calls Tryz.prog 69 #[.slice (some ⟨bk, o, none⟩) xs.length c, .string sep] w fun e w' => e = .returned (.string ⟨(Lib.join (xs.map (·.data.toList)) sep.data.toList).toArray⟩) ∧ Below w.heap.size w w' := Any.strings_Join Tryz.lays156 Tryz.Builder_Extra_156 bk o c xs sep w hcells hbk hN hcap hlen
def Tryz.lays137_ren : Go.Shelf.Ren := ⟨fun | 137 => 97 | 217 => 89 | 266 => 103 | n => n, fun | 9 => 9 | 5 => 5 | 3 => 3 | n => n, fun | n => n⟩
theorem Tryz.lays137 : Go.Proofs.Lays.n137 Tryz.prog Tryz.lays137_ren := {
  mixed := by kernel_rfl
  f137 := Tryz.func97.trans (congrArg some (by kernel_rfl))
  f217 := Tryz.func89.trans (congrArg some (by kernel_rfl))
  f266 := Tryz.func103.trans (congrArg some (by kernel_rfl))
  t3 := Tryz.underlying3
  a3 := Tryz.isAgg3
  z3 := Tryz.sizeOf3
  v3 := Tryz.zeroValue3
  t5 := Tryz.underlying5
  a5 := Tryz.isAgg5
  z5 := Tryz.sizeOf5
  v5 := Tryz.zeroValue5
  t9 := Tryz.underlying9
  a9 := Tryz.isAgg9
  z9 := Tryz.sizeOf9
  v9 := Tryz.zeroValue9 }
open Go.RowKit in
theorem Tryz.strings_IndexByte (s : ByteArray) (c : Int) (w : World) :
    Calls Tryz.prog 97 #[.string s, .int .u8 c] w fun e w' => e = .returned (.int .i64 (Lib.indexByte s.data.toList c.toNat.toUInt8)) ∧ w' = w := Any.strings_IndexByte Tryz.lays137 s c w
def Tryz.laysM171_ren : Go.Shelf.Ren := ⟨fun | 171 => 68 | 243 => 84 | 246 => 100 | 283 => 115 | 284 => 116 | 285 => 117 | 286 => 118 | 129 => 130 | 317 => 129 | 318 => 131 | 319 => 132 | 320 => 133 | 337 => 139 | 338 => 140 | n => n, fun | 3 => 3 | 9 => 9 | 2 => 2 | 4 => 4 | 171 => 159 | 0 => 0 | 53 => 100 | 37 => 26 | 5 => 5 | 173 => 162 | 212 => 181 | 51 => 110 | 20 => 20 | 213 => 182 | 46 => 134 | 232 => 33 | 233 => 200 | n => n, fun | 17 => 3 | 18 => 6 | 19 => 7 | n => n⟩
theorem Tryz.laysM171 : Go.Proofs.LaysM.n171 Tryz.prog Tryz.laysM171_ren := {
  mixed := by kernel_rfl
  f129 := Tryz.func130.trans (congrArg some (by kernel_rfl))
  f171 := Tryz.func68.trans (congrArg some (by kernel_rfl))
  f243 := Tryz.func84.trans (congrArg some (by kernel_rfl))
  f246 := Tryz.func100.trans (congrArg some (by kernel_rfl))
  f283 := Tryz.func115.trans (congrArg some (by kernel_rfl))
  f284 := Tryz.func116.trans (congrArg some (by kernel_rfl))
  f285 := Tryz.func117.trans (congrArg some (by kernel_rfl))
  f286 := Tryz.func118.trans (congrArg some (by kernel_rfl))
  f317 := Tryz.func129.trans (congrArg some (by kernel_rfl))
  f318 := Tryz.func131.trans (congrArg some (by kernel_rfl))
  f319 := Tryz.func132.trans (congrArg some (by kernel_rfl))
  f320 := Tryz.func133.trans (congrArg some (by kernel_rfl))
  f337 := Tryz.func139.trans (congrArg some (by kernel_rfl))
  f338 := Tryz.func140.trans (congrArg some (by kernel_rfl))
  t0 := Tryz.underlying0
  a0 := Tryz.isAgg0
  z0 := Tryz.sizeOf0
  v0 := Tryz.zeroValue0
  t2 := Tryz.underlying2
  a2 := Tryz.isAgg2
  z2 := Tryz.sizeOf2
  v2 := Tryz.zeroValue2
  t3 := Tryz.underlying3
  a3 := Tryz.isAgg3
  z3 := Tryz.sizeOf3
  v3 := Tryz.zeroValue3
  t4 := Tryz.underlying4
  a4 := Tryz.isAgg4
  z4 := Tryz.sizeOf4
  v4 := Tryz.zeroValue4
  t5 := Tryz.underlying5
  a5 := Tryz.isAgg5
  z5 := Tryz.sizeOf5
  v5 := Tryz.zeroValue5
  t9 := Tryz.underlying9
  a9 := Tryz.isAgg9
  z9 := Tryz.sizeOf9
  v9 := Tryz.zeroValue9
  t20 := Tryz.underlying20
  a20 := Tryz.isAgg20
  z20 := Tryz.sizeOf20
  v20 := Tryz.zeroValue20
  t37 := Tryz.underlying26
  a37 := Tryz.isAgg26
  z37 := Tryz.sizeOf26
  v37 := Tryz.zeroValue26
  t46 := Tryz.underlying134
  a46 := Tryz.isAgg134
  z46 := Tryz.sizeOf134
  v46 := Tryz.zeroValue134
  t51 := Tryz.underlying110
  a51 := Tryz.isAgg110
  z51 := Tryz.sizeOf110
  v51 := Tryz.zeroValue110
  t53 := Tryz.underlying100
  a53 := Tryz.isAgg100
  z53 := Tryz.sizeOf100
  v53 := Tryz.zeroValue100
  t171 := Tryz.underlying159
  a171 := Tryz.isAgg159
  z171 := Tryz.sizeOf159
  v171 := Tryz.zeroValue159
  t173 := Tryz.underlying162
  a173 := Tryz.isAgg162
  z173 := Tryz.sizeOf162
  v173 := Tryz.zeroValue162
  t212 := Tryz.underlying181
  a212 := Tryz.isAgg181
  z212 := Tryz.sizeOf181
  v212 := Tryz.zeroValue181
  t213 := Tryz.underlying182
  a213 := Tryz.isAgg182
  z213 := Tryz.sizeOf182
  t232 := Tryz.underlying33
  a232 := Tryz.isAgg33
  z232 := Tryz.sizeOf33
  v232 := Tryz.zeroValue33
  t233 := Tryz.underlying200
  a233 := Tryz.isAgg200
  z233 := Tryz.sizeOf200
  v233 := Tryz.zeroValue200
  g17 := by kernel_rfl
  g18 := by kernel_rfl
  g19 := by kernel_rfl
  i0 := by kernel_rfl
  i2 := by kernel_rfl
  i3 := by kernel_rfl
  i4 := by kernel_rfl
  i5 := by kernel_rfl
  i9 := by kernel_rfl
  i20 := by kernel_rfl
  i37 := by kernel_rfl
  i46 := by kernel_rfl
  i51 := by kernel_rfl
  i53 := by kernel_rfl
  i171 := by kernel_rfl
  i173 := by kernel_rfl
  i212 := by kernel_rfl
  i232 := by kernel_rfl
  i233 := by kernel_rfl
  m17 := by kernel_rfl
  m18 := by kernel_rfl
  m19 := by kernel_rfl }
open Go.RowKit Go.Sort Go.Lib in
theorem Tryz.strconv_Itoa (n : Int) (h0 : -9223372036854775808 ≤ n) (h1 : n ≤ 9223372036854775807) (w : World) (htab : Lib.TabIs Tryz.prog w "internal/strconv.uint64pow10" .u64 Lib.pow10Tab) :
    Calls Tryz.prog 68 #[.int .i64 n] w fun e w' => e = .returned (.string ⟨(Lib.itoa n).toArray⟩) ∧ ∃ k os, w' = grow (w.drewN k) os := Any.strconv_Itoa Tryz.laysM171 n h0 h1 w htab
def Tryz.laysC172_ren : Go.Shelf.Ren := ⟨fun | 172 => 77 | 244 => 93 | 245 => 94 | 247 => 105 | 279 => 106 | 280 => 107 | 281 => 108 | 282 => 109 | 287 => 120 | 316 => 121 | 171 => 68 | 205 => 122 | 321 => 134 | 322 => 135 | 243 => 84 | 246 => 100 | 283 => 115 | 284 => 116 | 285 => 117 | 286 => 118 | 129 => 130 | 317 => 129 | 318 => 131 | 319 => 132 | 320 => 133 | 337 => 139 | 338 => 140 | n => n, fun | 9 => 9 | 3 => 3 | 75 => 84 | 76 => 85 | 4 => 4 | 5 => 5 | 167 => 148 | 37 => 26 | 0 => 0 | 85 => 149 | 2 => 2 | 168 => 151 | 53 => 100 | 175 => 165 | 46 => 134 | 210 => 169 | 127 => 119 | 145 => 188 | 143 => 186 | 21 => 21 | 171 => 159 | 173 => 162 | 212 => 181 | 51 => 110 | 20 => 20 | 213 => 182 | 232 => 33 | 233 => 200 | 80 => 87 | n => n, fun | 15 => 1 | 16 => 2 | 17 => 3 | 18 => 6 | 19 => 7 | n => n⟩
theorem Tryz.laysC172 : Go.Proofs.LaysC.n172 Tryz.prog Tryz.laysC172_ren := {
  mixed := by kernel_rfl
  f129 := Tryz.func130.trans (congrArg some (by kernel_rfl))
  f171 := Tryz.func68.trans (congrArg some (by kernel_rfl))
  f172 := Tryz.func77.trans (congrArg some (by kernel_rfl))
  f205 := Tryz.func122.trans (congrArg some (by kernel_rfl))
  f243 := Tryz.func84.trans (congrArg some (by kernel_rfl))
  f244 := Tryz.func93.trans (congrArg some (by kernel_rfl))
  f245 := Tryz.func94.trans (congrArg some (by kernel_rfl))
  f246 := Tryz.func100.trans (congrArg some (by kernel_rfl))
  f247 := Tryz.func105.trans (congrArg some (by kernel_rfl))
  f279 := Tryz.func106.trans (congrArg some (by kernel_rfl))
  f280 := Tryz.func107.trans (congrArg some (by kernel_rfl))
  f281 := Tryz.func108.trans (congrArg some (by kernel_rfl))
  f282 := Tryz.func109.trans (congrArg some (by kernel_rfl))
  f283 := Tryz.func115.trans (congrArg some (by kernel_rfl))
  f284 := Tryz.func116.trans (congrArg some (by kernel_rfl))
  f285 := Tryz.func117.trans (congrArg some (by kernel_rfl))
  f286 := Tryz.func118.trans (congrArg some (by kernel_rfl))
  f287 := Tryz.func120.trans (congrArg some (by kernel_rfl))
  f316 := Tryz.func121.trans (congrArg some (by kernel_rfl))
  f317 := Tryz.func129.trans (congrArg some (by kernel_rfl))
  f318 := Tryz.func131.trans (congrArg some (by kernel_rfl))
  f319 := Tryz.func132.trans (congrArg some (by kernel_rfl))
  f320 := Tryz.func133.trans (congrArg some (by kernel_rfl))
  f321 := Tryz.func134.trans (congrArg some (by kernel_rfl))
  f322 := Tryz.func135.trans (congrArg some (by kernel_rfl))
  f337 := Tryz.func139.trans (congrArg some (by kernel_rfl))
  f338 := Tryz.func140.trans (congrArg some (by kernel_rfl))
  t0 := Tryz.underlying0
  a0 := Tryz.isAgg0
  z0 := Tryz.sizeOf0
  v0 := Tryz.zeroValue0
  t2 := Tryz.underlying2
  a2 := Tryz.isAgg2
  z2 := Tryz.sizeOf2
  v2 := Tryz.zeroValue2
  t3 := Tryz.underlying3
  a3 := Tryz.isAgg3
  z3 := Tryz.sizeOf3
  v3 := Tryz.zeroValue3
  t4 := Tryz.underlying4
  a4 := Tryz.isAgg4
  z4 := Tryz.sizeOf4
  v4 := Tryz.zeroValue4
  t5 := Tryz.underlying5
  a5 := Tryz.isAgg5
  z5 := Tryz.sizeOf5
  v5 := Tryz.zeroValue5
  t9 := Tryz.underlying9
  a9 := Tryz.isAgg9
  z9 := Tryz.sizeOf9
  v9 := Tryz.zeroValue9
  t20 := Tryz.underlying20
  a20 := Tryz.isAgg20
  z20 := Tryz.sizeOf20
  v20 := Tryz.zeroValue20
  t21 := Tryz.underlying21
  a21 := Tryz.isAgg21
  z21 := Tryz.sizeOf21
  v21 := Tryz.zeroValue21
  t37 := Tryz.underlying26
  a37 := Tryz.isAgg26
  z37 := Tryz.sizeOf26
  v37 := Tryz.zeroValue26
  t46 := Tryz.underlying134
  a46 := Tryz.isAgg134
  z46 := Tryz.sizeOf134
  v46 := Tryz.zeroValue134
  t51 := Tryz.underlying110
  a51 := Tryz.isAgg110
  z51 := Tryz.sizeOf110
  v51 := Tryz.zeroValue110
  t53 := Tryz.underlying100
  a53 := Tryz.isAgg100
  z53 := Tryz.sizeOf100
  v53 := Tryz.zeroValue100
  t75 := Tryz.underlying84
  a75 := Tryz.isAgg84
  z75 := Tryz.sizeOf84
  v75 := Tryz.zeroValue84
  t76 := Tryz.underlying85
  a76 := Tryz.isAgg85
  z76 := Tryz.sizeOf85
  v76 := Tryz.zeroValue85
  t85 := Tryz.underlying149
  a85 := Tryz.isAgg149
  z85 := Tryz.sizeOf149
  v85 := Tryz.zeroValue149
  t127 := Tryz.underlying119
  a127 := Tryz.isAgg119
  z127 := Tryz.sizeOf119
  v127 := Tryz.zeroValue119
  t143 := Tryz.underlying186
  a143 := Tryz.isAgg186
  z143 := Tryz.sizeOf186
  v143 := Tryz.zeroValue186
  t145 := Tryz.underlying188
  a145 := Tryz.isAgg188
  z145 := Tryz.sizeOf188
  v145 := Tryz.zeroValue188
  t167 := Tryz.underlying148
  a167 := Tryz.isAgg148
  z167 := Tryz.sizeOf148
  v167 := Tryz.zeroValue148
  t168 := Tryz.underlying151
  a168 := Tryz.isAgg151
  z168 := Tryz.sizeOf151
  v168 := Tryz.zeroValue151
  t171 := Tryz.underlying159
  a171 := Tryz.isAgg159
  z171 := Tryz.sizeOf159
  v171 := Tryz.zeroValue159
  t173 := Tryz.underlying162
  a173 := Tryz.isAgg162
  z173 := Tryz.sizeOf162
  v173 := Tryz.zeroValue162
  t175 := Tryz.underlying165
  a175 := Tryz.isAgg165
  z175 := Tryz.sizeOf165
  v175 := Tryz.zeroValue165
  t210 := Tryz.underlying169
  a210 := Tryz.isAgg169
  z210 := Tryz.sizeOf169
  v210 := Tryz.zeroValue169
  t212 := Tryz.underlying181
  a212 := Tryz.isAgg181
  z212 := Tryz.sizeOf181
  v212 := Tryz.zeroValue181
  t213 := Tryz.underlying182
  a213 := Tryz.isAgg182
  z213 := Tryz.sizeOf182
  t232 := Tryz.underlying33
  a232 := Tryz.isAgg33
  z232 := Tryz.sizeOf33
  v232 := Tryz.zeroValue33
  t233 := Tryz.underlying200
  a233 := Tryz.isAgg200
  z233 := Tryz.sizeOf200
  v233 := Tryz.zeroValue200
  g15 := by kernel_rfl
  g16 := by kernel_rfl
  g17 := by kernel_rfl
  g18 := by kernel_rfl
  g19 := by kernel_rfl
  t80 := Tryz.underlying87
  a80 := Tryz.isAgg87
  z80 := Tryz.sizeOf87
  v80 := Tryz.zeroValue87
  i0 := by kernel_rfl
  i2 := by kernel_rfl
  i3 := by kernel_rfl
  i4 := by kernel_rfl
  i5 := by kernel_rfl
  i9 := by kernel_rfl
  i20 := by kernel_rfl
  i21 := by kernel_rfl
  i37 := by kernel_rfl
  i46 := by kernel_rfl
  i51 := by kernel_rfl
  i53 := by kernel_rfl
  i75 := by kernel_rfl
  i76 := by kernel_rfl
  i80 := by kernel_rfl
  i85 := by kernel_rfl
  i127 := by kernel_rfl
  i143 := by kernel_rfl
  i145 := by kernel_rfl
  i167 := by kernel_rfl
  i168 := by kernel_rfl
  i171 := by kernel_rfl
  i173 := by kernel_rfl
  i175 := by kernel_rfl
  i210 := by kernel_rfl
  i212 := by kernel_rfl
  i232 := by kernel_rfl
  i233 := by kernel_rfl
  m15 := by kernel_rfl
  m16 := by kernel_rfl
  m17 := by kernel_rfl
  m18 := by kernel_rfl
  m19 := by kernel_rfl
  c0 := by kernel_rfl
  c2 := by kernel_rfl
  c3 := by kernel_rfl
  c4 := by kernel_rfl
  c5 := by kernel_rfl
  c9 := by kernel_rfl
  c20 := by kernel_rfl
  c21 := by kernel_rfl
  c37 := by kernel_rfl
  c46 := by kernel_rfl
  c51 := by kernel_rfl
  c53 := by kernel_rfl
  c75 := by kernel_rfl
  c76 := by kernel_rfl
  c80 := by kernel_rfl
  c85 := by kernel_rfl
  c127 := by kernel_rfl
  c143 := by kernel_rfl
  c145 := by kernel_rfl
  c167 := by kernel_rfl
  c168 := by kernel_rfl
  c171 := by kernel_rfl
  c173 := by kernel_rfl
  c175 := by kernel_rfl
  c210 := by kernel_rfl
  c212 := by kernel_rfl
  c213 := by kernel_rfl
  c232 := by kernel_rfl
  c233 := by kernel_rfl }
open Go.RowKit in
theorem Tryz.strconv_Atoi_ok (s : ByteArray) (hmax : s.size ≤ 9223372036854775806) (v : Int) (h : Lib.atoiAll s.data.toList = .ok v) (w : World) :
    Calls Tryz.prog 77 #[.string s] w fun e w' => e = .returned (.tuple #[.int .i64 v, .nilIface]) ∧ (w' = w ∨ ∃ t, w' = Lib.bytesWorld w 5 t) := Any.strconv_Atoi_ok Tryz.laysC172 s hmax v h w
open Go.RowKit in
theorem Tryz.strconv_Atoi_range (s : ByteArray) (hlim : s.size ≤ 281474976710656) (h : Lib.atoiAll s.data.toList = .range) (ev : Value) (w : World) (hv : w.cell? ⟨2, 0, none⟩ = some ev) (hev : ev = .nilIface ∨ ∃ te pe, ev = .iface te pe) :
    Calls Tryz.prog 77 #[.string s] w fun e w' => ∃ N, e = .returned (.tuple #[.int .i64 (Lib.atoiSat s.data.toList), .iface 151 (.pointer (some ⟨N, 0, none⟩))]) ∧ w.heap.size ≤ N ∧ w'.heap[N]? = some (.cells #[.string ⟨#[65, 116, 111, 105]⟩, .string s, ev] 169 (0, 0)) ∧ Below w.heap.size w w' := Any.strconv_Atoi_range Tryz.laysC172 s hlim h ev w hv hev
def Tryz.lays143_ren : Go.Shelf.Ren := ⟨fun | 143 => 49 | 219 => 73 | 217 => 89 | 225 => 90 | 224 => 91 | 267 => 92 | 266 => 103 | 314 => 104 | n => n, fun | 9 => 9 | 3 => 3 | 4 => 4 | 5 => 5 | 46 => 134 | 146 => 146 | 51 => 110 | n => n, fun | 1 => 0 | n => n⟩
theorem Tryz.lays143 : Go.Proofs.Lays.n143 Tryz.prog Tryz.lays143_ren := {
  mixed := by kernel_rfl
  f143 := Tryz.func49.trans (congrArg some (by kernel_rfl))
  f217 := Tryz.func89.trans (congrArg some (by kernel_rfl))
  f219 := Tryz.func73.trans (congrArg some (by kernel_rfl))
  f224 := Tryz.func91.trans (congrArg some (by kernel_rfl))
  f225 := Tryz.func90.trans (congrArg some (by kernel_rfl))
  f266 := Tryz.func103.trans (congrArg some (by kernel_rfl))
  f267 := Tryz.func92.trans (congrArg some (by kernel_rfl))
  f314 := Tryz.func104.trans (congrArg some (by kernel_rfl))
  t3 := Tryz.underlying3
  a3 := Tryz.isAgg3
  z3 := Tryz.sizeOf3
  v3 := Tryz.zeroValue3
  t4 := Tryz.underlying4
  a4 := Tryz.isAgg4
  z4 := Tryz.sizeOf4
  v4 := Tryz.zeroValue4
  t5 := Tryz.underlying5
  a5 := Tryz.isAgg5
  z5 := Tryz.sizeOf5
  v5 := Tryz.zeroValue5
  t9 := Tryz.underlying9
  a9 := Tryz.isAgg9
  z9 := Tryz.sizeOf9
  v9 := Tryz.zeroValue9
  t46 := Tryz.underlying134
  a46 := Tryz.isAgg134
  z46 := Tryz.sizeOf134
  v46 := Tryz.zeroValue134
  t51 := Tryz.underlying110
  a51 := Tryz.isAgg110
  z51 := Tryz.sizeOf110
  v51 := Tryz.zeroValue110
  t146 := Tryz.underlying146
  a146 := Tryz.isAgg146
  z146 := Tryz.sizeOf146
  v146 := Tryz.zeroValue146
  g1 := by kernel_rfl }
open Go.RowKit Go.Lib in
theorem Tryz.strings_Index_one (s : ByteArray) (c : UInt8) (w : World) :
    Calls Tryz.prog 49 #[.string s, .string ⟨#[c]⟩] w fun e w' => e = .returned (.int .i64 (Lib.indexByte s.data.toList c)) ∧ w' = w := Any.strings_Index_one Tryz.lays143 s c w
def Tryz.lays145_ren : Go.Shelf.Ren := ⟨fun | 145 => 57 | 220 => 74 | 219 => 73 | 217 => 89 | 225 => 90 | 224 => 91 | 267 => 92 | 266 => 103 | 314 => 104 | n => n, fun | 9 => 9 | 4 => 4 | 59 => 103 | 3 => 3 | 5 => 5 | 46 => 134 | 146 => 146 | 51 => 110 | n => n, fun | 1 => 0 | n => n⟩
theorem Tryz.lays145 : Go.Proofs.Lays.n145 Tryz.prog Tryz.lays145_ren := {
  mixed := by kernel_rfl
  f145 := Tryz.func57.trans (congrArg some (by kernel_rfl))
  f217 := Tryz.func89.trans (congrArg some (by kernel_rfl))
  f219 := Tryz.func73.trans (congrArg some (by kernel_rfl))
  f220 := Tryz.func74.trans (congrArg some (by kernel_rfl))
  f224 := Tryz.func91.trans (congrArg some (by kernel_rfl))
  f225 := Tryz.func90.trans (congrArg some (by kernel_rfl))
  f266 := Tryz.func103.trans (congrArg some (by kernel_rfl))
  f267 := Tryz.func92.trans (congrArg some (by kernel_rfl))
  f314 := Tryz.func104.trans (congrArg some (by kernel_rfl))
  t3 := Tryz.underlying3
  a3 := Tryz.isAgg3
  z3 := Tryz.sizeOf3
  v3 := Tryz.zeroValue3
  t4 := Tryz.underlying4
  a4 := Tryz.isAgg4
  z4 := Tryz.sizeOf4
  v4 := Tryz.zeroValue4
  t5 := Tryz.underlying5
  a5 := Tryz.isAgg5
  z5 := Tryz.sizeOf5
  v5 := Tryz.zeroValue5
  t9 := Tryz.underlying9
  a9 := Tryz.isAgg9
  z9 := Tryz.sizeOf9
  v9 := Tryz.zeroValue9
  t46 := Tryz.underlying134
  a46 := Tryz.isAgg134
  z46 := Tryz.sizeOf134
  v46 := Tryz.zeroValue134
  t51 := Tryz.underlying110
  a51 := Tryz.isAgg110
  z51 := Tryz.sizeOf110
  v51 := Tryz.zeroValue110
  t59 := Tryz.underlying103
  a59 := Tryz.isAgg103
  z59 := Tryz.sizeOf103
  v59 := Tryz.zeroValue103
  t146 := Tryz.underlying146
  a146 := Tryz.isAgg146
  z146 := Tryz.sizeOf146
  v146 := Tryz.zeroValue146
  g1 := by kernel_rfl }
open Go.RowKit Go.Lib in
theorem Tryz.strings_Cut (s sep : ByteArray) (m : Int) (w : World) (hs : s.size < 4294967281) (hm : w.cell? ⟨0, 0, none⟩ = some (.int .i64 m)) :
    Calls Tryz.prog 57 #[.string s, .string sep] w fun e w' => e = .returned (.tuple #[.string ⟨(Lib.cut s.data.toList sep.data.toList).1.toArray⟩, .string ⟨(Lib.cut s.data.toList sep.data.toList).2.1.toArray⟩, .bool (Lib.cut s.data.toList sep.data.toList).2.2]) ∧ ∃ n, w' = w.drewN n := Any.strings_Cut Tryz.lays145 s sep m w hs hm
def Tryz.lays146_ren : Go.Shelf.Ren := ⟨fun | 146 => 78 | 221 => 95 | 268 => 110 | 138 => 111 | 143 => 49 | 195 => 123 | 197 => 124 | 218 => 125 | 219 => 73 | 260 => 136 | 217 => 89 | 225 => 90 | 224 => 91 | 267 => 92 | 266 => 103 | 314 => 104 | n => n, fun | 9 => 9 | 31 => 89 | 3 => 3 | 4 => 4 | 0 => 0 | 105 => 172 | 21 => 21 | 5 => 5 | 46 => 134 | 119 => 194 | 139 => 197 | 138 => 196 | 146 => 146 | 51 => 110 | n => n, fun | 1 => 0 | 3 => 4 | 4 => 5 | n => n⟩
theorem Tryz.lays146 : Go.Proofs.Lays.n146 Tryz.prog Tryz.lays146_ren := {
  mixed := by kernel_rfl
  f138 := Tryz.func111.trans (congrArg some (by kernel_rfl))
  f143 := Tryz.func49.trans (congrArg some (by kernel_rfl))
  f146 := Tryz.func78.trans (congrArg some (by kernel_rfl))
  f195 := Tryz.func123.trans (congrArg some (by kernel_rfl))
  f197 := Tryz.func124.trans (congrArg some (by kernel_rfl))
  f217 := Tryz.func89.trans (congrArg some (by kernel_rfl))
  f218 := Tryz.func125.trans (congrArg some (by kernel_rfl))
  f219 := Tryz.func73.trans (congrArg some (by kernel_rfl))
  f221 := Tryz.func95.trans (congrArg some (by kernel_rfl))
  f224 := Tryz.func91.trans (congrArg some (by kernel_rfl))
  f225 := Tryz.func90.trans (congrArg some (by kernel_rfl))
  f260 := Tryz.func136.trans (congrArg some (by kernel_rfl))
  f266 := Tryz.func103.trans (congrArg some (by kernel_rfl))
  f267 := Tryz.func92.trans (congrArg some (by kernel_rfl))
  f268 := Tryz.func110.trans (congrArg some (by kernel_rfl))
  f314 := Tryz.func104.trans (congrArg some (by kernel_rfl))
  t0 := Tryz.underlying0
  a0 := Tryz.isAgg0
  z0 := Tryz.sizeOf0
  v0 := Tryz.zeroValue0
  t3 := Tryz.underlying3
  a3 := Tryz.isAgg3
  z3 := Tryz.sizeOf3
  v3 := Tryz.zeroValue3
  t4 := Tryz.underlying4
  a4 := Tryz.isAgg4
  z4 := Tryz.sizeOf4
  v4 := Tryz.zeroValue4
  t5 := Tryz.underlying5
  a5 := Tryz.isAgg5
  z5 := Tryz.sizeOf5
  v5 := Tryz.zeroValue5
  t9 := Tryz.underlying9
  a9 := Tryz.isAgg9
  z9 := Tryz.sizeOf9
  v9 := Tryz.zeroValue9
  t21 := Tryz.underlying21
  a21 := Tryz.isAgg21
  z21 := Tryz.sizeOf21
  v21 := Tryz.zeroValue21
  t31 := Tryz.underlying89
  a31 := Tryz.isAgg89
  z31 := Tryz.sizeOf89
  v31 := Tryz.zeroValue89
  t46 := Tryz.underlying134
  a46 := Tryz.isAgg134
  z46 := Tryz.sizeOf134
  v46 := Tryz.zeroValue134
  t51 := Tryz.underlying110
  a51 := Tryz.isAgg110
  z51 := Tryz.sizeOf110
  v51 := Tryz.zeroValue110
  t105 := Tryz.underlying172
  a105 := Tryz.isAgg172
  z105 := Tryz.sizeOf172
  v105 := Tryz.zeroValue172
  t119 := Tryz.underlying194
  a119 := Tryz.isAgg194
  z119 := Tryz.sizeOf194
  t138 := Tryz.underlying196
  a138 := Tryz.isAgg196
  z138 := Tryz.sizeOf196
  v138 := Tryz.zeroValue196
  t139 := Tryz.underlying197
  a139 := Tryz.isAgg197
  z139 := Tryz.sizeOf197
  v139 := Tryz.zeroValue197
  t146 := Tryz.underlying146
  a146 := Tryz.isAgg146
  z146 := Tryz.sizeOf146
  v146 := Tryz.zeroValue146
  g1 := by kernel_rfl
  g3 := by kernel_rfl
  g4 := by kernel_rfl }
open Go.RowKit Go.Lib in
theorem Tryz.strings_Split (s sep : ByteArray) (m : Int) (w : World) (hs : s.size < 4294967281) (hm : w.cell? ⟨0, 0, none⟩ = some (.int .i64 m)) (h1 : 1 ≤ sep.size) :
    Calls Tryz.prog 78 #[.string s, .string sep] w fun e w' =>
      e = .returned (.slice (some ⟨w.heap.size, 0, none⟩) (Lib.countB s sep + 1) (Lib.countB s sep + 1)) ∧ w' = w.alloc (.cells ((Lib.splitB sep 0 (Lib.countB s sep) s).map Value.string).toArray 9) := Any.strings_Split Tryz.lays146 (by kernel_rfl) s sep m w hs hm h1
end Go.Proofs


/-
  What the batch laws reach of package ascii and of the library's builder: IsDigit, span, Digits, Number, Builder.WriteByte, Hex, Unhex: what the calls return. For strings of up to a million bytes. (Turned from the texts on package ascii by ren.py.)
-/
namespace Go.Proofs.YtceopllngemnnaaGreatDoor
open Go.RowKit Go.Proofs.YtceopllngemnnaaGreatDoorW.PrintWords Go.Proofs.YtceopllngemnnaaGreatDoorW.PrintMore


/-- A function value that tells a class of bytes: called with a number it returns what p says, and the world stays. -/
def Class (g : Nat) (lb : Array Value) (p : Int → Bool) (w : World) : Prop :=
  ∀ (n : Int) (W : World), Below w.heap.size w W → Calls Tryz.prog g (#[.int .u8 n] ++ lb) W fun e w' => e = .returned (.bool (p n)) ∧ w' = W

theorem Class.later {g : Nat} {lb : Array Value} {p : Int → Bool} {w W : World} (h : Class g lb p w) (hb : Below w.heap.size w W) : Class g lb p W :=
  fun n W' hb' => h n W' (hb.trans (hb'.mono hb.size))

theorem enters41 : ∀ args w, (callFunc 76 args).run Tryz.prog w = .ok (.enter 76 args) w := enters_of Tryz.func76 (by kernel_rfl) rfl
def digitI (n : Int) : Bool := decide (48 ≤ n) && decide (n ≤ 57)
theorem digit_any (n : Int) (w : World) : Calls Tryz.prog 76 #[.int .u8 n] w fun e w' => e = .returned (.bool (digitI n)) ∧ w' = w := by
  go_enter Tryz.func76, Tryz.ntmps76
  go_wp2
  all_goals go_ret
  all_goals (refine ⟨?_, rfl⟩; simp [digitI, *]; try omega)

/-- From offset k on: the offset of the first byte that is not of the class, or the length. -/
def spanN (p : Int → Bool) (s : ByteArray) (k : Nat) : Nat :=
  if h : k < s.size then (if p (s[k].toNat : Int) then spanN p s (k + 1) else k) else k
termination_by s.size - k

theorem spanN_hit (p : Int → Bool) (s : ByteArray) (k : Nat) (h : k < s.size) (hp : p (s[k].toNat : Int) = true) : spanN p s k = spanN p s (k + 1) := by
  rw [spanN, dif_pos h, if_pos hp]
theorem spanN_miss (p : Int → Bool) (s : ByteArray) (k : Nat) (h : k < s.size) (hp : p (s[k].toNat : Int) = false) : spanN p s k = k := by
  rw [spanN, dif_pos h, if_neg (by simp [hp])]
theorem spanN_end (p : Int → Bool) (s : ByteArray) (k : Nat) (h : ¬ k < s.size) : spanN p s k = k := by
  rw [spanN, dif_neg h]

theorem ret_int {k : IntKind} {a b : Int} (h : a = b) : Ending.returned (.int k a) = .returned (.int k b) := by rw [h]

set_option maxHeartbeats 400000 in
theorem span_any (g : Nat) (lb : Array Value) (eg : ∀ args w, (callFunc g args).run Tryz.prog w = .ok (.enter g args) w) (p : Int → Bool) (s : ByteArray) (k0 : Nat) (w : World) (hs : s.size ≤ maxLen) (hk0 : k0 ≤ s.size) (hp : Class g lb p w) :
    Calls Tryz.prog 75 #[.string s, .int .i64 k0, .func (.func g) #[] lb] w fun e w' => e = .returned (.int .i64 (spanN p s k0)) ∧ w' = w := by
  unfold maxLen at hs
  go_enter Tryz.func75, Tryz.ntmps75
  go_wp2_with fail
  go_loopg [1] s.size (fun gf i wx => ∃ k : Nat, w = wx ∧ k ≤ s.size ∧ i = .int .i64 k ∧ s.size ≤ k + gf ∧ Hid (spanN p s k = spanN p s k0))
  case atStart => exact ⟨k0, rfl, hk0, rfl, by omega, rfl⟩
  case round =>
    obtain ⟨k, rfl, hk, rfl, hg, hsp⟩ := hrel
    by_cases hlt : k < s.size
    · have cS : Calls Tryz.prog g (#[.int .u8 (s[k].toNat : Int)] ++ lb) w _ := hp _ w (Below.refl _ _)
      clear hp
      cases hb : p (s[k].toNat : Int)
      · have hm := hsp.out.symm.trans (spanN_miss p s k hlt hb)
        have HM := Lib.hid hm
        clear hm hsp
        rw [hb] at cS
        clear hb
        go_wp2_with (go_at_fn g; refine cS.mono ?_; rintro e w' ⟨rfl, rfl⟩)
        go_ret
        exact ⟨ret_int (a := (k : Int)) (by rw [HM.out]), rfl⟩
      · have hm := (spanN_hit p s k hlt hb).symm.trans hsp.out
        have HM := Lib.hid hm
        clear hm hsp
        rw [hb] at cS
        clear hb
        go_wp2_with (go_at_fn g; refine cS.mono ?_; rintro e w' ⟨rfl, rfl⟩)
        go_roundg (s.size - (k + 1))
        case measure => omega
        case rel => exact ⟨k + 1, rfl, by omega, by go_num, by omega, HM.out⟩
    · have hm := hsp.out.symm.trans (spanN_end p s k hlt)
      have HM := Lib.hid hm
      clear hm hsp
      go_wp2_with fail
      go_ret
      exact ⟨ret_int (a := (k : Int)) (by rw [HM.out]), rfl⟩


theorem spanN_le (p : Int → Bool) (s : ByteArray) (k : Nat) (hk : k ≤ s.size) : k ≤ spanN p s k ∧ spanN p s k ≤ s.size := by
  fun_induction spanN p s k with
  | case1 k h hp ih => have := ih (by omega); omega
  | case2 k h hp => omega
  | case3 k h => omega


/-- What the library reads of its own variables. -/
structure Env (w : World) : Prop where
  len : ∃ m : Int, w.cell? ⟨0, 0, none⟩ = some (.int .i64 m)
  tab : Lib.TabIs Tryz.prog w "internal/strconv.uint64pow10" .u64 Lib.pow10Tab
  rng : ∃ tp p, w.cell? ⟨2, 0, none⟩ = some (.iface tp p)
  syn : ∃ tp p, w.cell? ⟨1, 0, none⟩ = some (.iface tp p)
  big : 4 ≤ w.heap.size

theorem tab_named : Tryz.prog.globalNamed "internal/strconv.uint64pow10" = some 3 := by kernel_rfl

theorem Env.below {w w' : World} (h : Env w) (hb : Below w.heap.size w w') : Env w' := by
  obtain ⟨⟨m, hm⟩, ht, ⟨tp, p, hp⟩, ⟨tq, q, hq⟩, hbig⟩ := h
  exact ⟨⟨m, (hb.cell (p := ⟨0, 0, none⟩) (by show 0 < _; omega)).trans hm⟩, var?_below hb tab_named (by omega) ht, ⟨tp, p, (hb.cell (p := ⟨2, 0, none⟩) (by show 2 < _; omega)).trans hp⟩, ⟨tq, q, (hb.cell (p := ⟨1, 0, none⟩) (by show 1 < _; omega)).trans hq⟩, by have := hb.size; omega⟩

theorem digits_any (n : Int) (w : World) (he : Env w) (h0 : -9223372036854775808 ≤ n) (h1 : n ≤ 9223372036854775807) :
    Calls Tryz.prog 41 #[.int .i64 n] w fun e w' => e = .returned (.string ⟨(Lib.itoa n).toArray⟩) ∧ Below w.heap.size w w' := by
  have ht := he.tab
  have HT := Aside0.mk ht
  clear ht he
  go_enter Tryz.func41, Tryz.ntmps41
  go_wp2_with fail
  refine (Tryz.strconv_Itoa n h0 h1 _ HT.out).mono ?_
  rintro e w1 ⟨rfl, k, os, rfl⟩
  have HB : Aside0 (Below w.heap.size w (Sort.grow (w.drewN k) os)) := ⟨⟨rfl, rfl, rfl, by show w.heap.size ≤ (w.heap ++ os).size; rw [Array.size_append]; omega, fun _ hj => Sort.heap_grow_old (w.drewN k) os hj⟩⟩
  go_wp2_with fail
  go_ret
  exact ⟨rfl, HB.out⟩


theorem toList_len (u : ByteArray) : u.toList.length = u.size := by rw [ByteArray.toList_eq]; rfl
theorem toList_nil {u : ByteArray} (h : u.size = 0) : u.toList = [] := List.eq_nil_of_length_eq_zero (by rw [toList_len, h])
theorem toList_ne {u : ByteArray} (h : 0 < u.size) : ¬ u.toList = [] := by
  intro he
  have h1 := toList_len u
  rw [he] at h1; simp at h1; omega

def numF (s : ByteArray) (most : Int) : Int × Int :=
  if s.size = 0 ∨ spanN digitI s 0 < s.size ∨ (bt s 0 = 48 ∧ 1 < s.size) then (0, 3)
  else match Lib.atoiAll s.data.toList with
    | .ok v => if most < v then (0, 2) else (v, 0)
    | _ => (0, 2)

theorem atoi_ok (s : ByteArray) (v : Int) (w : World) (hs : s.size ≤ 1000000) (h : Lib.atoiAll s.data.toList = .ok v) :
    Calls Tryz.prog 77 #[.string s] w fun e w' => e = .returned (.tuple #[.int .i64 v, .nilIface]) ∧ Below w.heap.size w w' :=
  (Tryz.strconv_Atoi_ok s (by omega) v h w).mono fun e w' ⟨he, hw⟩ => ⟨he, by
    rcases hw with rfl | ⟨t, rfl⟩
    · exact Below.refl _ _
    · exact bytes_below (Below.refl _ _) (Nat.le_refl _) _ _⟩

theorem atoi_bad (s : ByteArray) (w : World) (he : Env w) (hs : s.size ≤ 1000000) (h : ∀ v, Lib.atoiAll s.data.toList ≠ .ok v) :
    Calls Tryz.prog 77 #[.string s] w fun e w' => ∃ v N, e = .returned (.tuple #[.int .i64 v, .iface 151 (.pointer (some ⟨N, 0, none⟩))]) ∧ Below w.heap.size w w' := by
  rcases hr : Lib.atoiAll s.data.toList with v | _ | _
  · exact absurd hr (h v)
  · obtain ⟨tp, p, hv⟩ := he.syn
    exact (Any.strconv_Atoi_syntax Tryz.laysC172 s (by omega) hr _ w hv (Or.inr ⟨tp, p, rfl⟩)).mono fun e w' ⟨N, he, _, _, hb⟩ => ⟨_, N, he, hb⟩
  · obtain ⟨tp, p, hv⟩ := he.rng
    exact (Tryz.strconv_Atoi_range s (by omega) hr _ w hv (Or.inr ⟨tp, p, rfl⟩)).mono fun e w' ⟨N, he, _, _, hb⟩ => ⟨_, N, he, hb⟩

set_option maxRecDepth 100000 in
set_option maxHeartbeats 1000000 in
theorem number_any (s : ByteArray) (most : Int) (w : World) (he : Env w) (hs : s.size ≤ 1000000) :
    Calls Tryz.prog 58 #[.string s, .int .i64 most] w fun e w' => e = .returned (.tuple #[.int .i64 (numF s most).1, .int .i64 (numF s most).2]) ∧ Below w.heap.size w w' := by
  have HE := Aside0.mk he
  clear he
  have e41 := enters41
  by_cases h0 : s.size = 0
  · have HP := Aside0.mk (show numF s most = (0, 3) by unfold numF; rw [if_pos (Or.inl h0)])
    have ht : s.toList = [] := toList_nil h0
    go_enter Tryz.func58, Tryz.ntmps58
    go_wp2_with fail
    go_ret2
    exact ⟨by rw [HP.out]; rfl, Below.refl _ _⟩
  · have ht : ¬ s.toList = [] := toList_ne (by omega)
    have ht2 : s.toList.isEmpty = false := by simpa using ht
    by_cases h1 : spanN digitI s 0 < s.size
    · have HP := Aside0.mk (show numF s most = (0, 3) by unfold numF; rw [if_pos (Or.inr (Or.inl h1))])
      obtain ⟨n, hn⟩ : ∃ n, spanN digitI s 0 = n := ⟨_, rfl⟩
      rw [hn] at h1
      have HN := Aside0.mk hn
      clear hn
      go_enter Tryz.func58, Tryz.ntmps58
      go_wp2_with fail
      refine (span_any 76 #[] enters41 digitI s 0 _ (by unfold maxLen; omega) (Nat.zero_le _) (fun n W _ => digit_any n W)).mono ?_
      rintro e w' ⟨rfl, rfl⟩
      rw [HN.out]
      go_wp2_with fail
      go_ret2
      exact ⟨by rw [HP.out]; rfl, Below.refl _ _⟩
    · have hn : spanN digitI s 0 = s.size := by have := (spanN_le digitI s 0 (Nat.zero_le _)).2; omega
      have hp : 0 < s.size := by omega
      have hb0 : bt s 0 = (s[0].toNat : Int) := (bt_at s 0 hp).symm
      by_cases h2 : (s[0].toNat : Int) = 48 ∧ 1 < s.size
      · have HP := Aside0.mk (show numF s most = (0, 3) by unfold numF; rw [if_pos (Or.inr (Or.inr ⟨by rw [hb0]; exact h2.1, h2.2⟩))])
        obtain ⟨h21, h22⟩ := h2
        have HN := Aside0.mk hn
        clear hn hb0
        go_enter Tryz.func58, Tryz.ntmps58
        go_wp2_with fail
        refine (span_any 76 #[] enters41 digitI s 0 _ (by unfold maxLen; omega) (Nat.zero_le _) (fun n W _ => digit_any n W)).mono ?_
        rintro e w' ⟨rfl, rfl⟩
        rw [HN.out]
        go_wp2_with fail
        go_ret2
        exact ⟨by rw [HP.out]; rfl, Below.refl _ _⟩
      · have hneg : ¬ (s.size = 0 ∨ spanN digitI s 0 < s.size ∨ (bt s 0 = 48 ∧ 1 < s.size)) := by
          rw [hb0]
          rintro (h | h | h)
          · exact h0 h
          · exact h1 h
          · exact h2 h
        have HF := Aside0.mk (show numF s most = match Lib.atoiAll s.data.toList with
            | .ok v => if most < v then (0, 2) else (v, 0)
            | _ => (0, 2) by unfold numF; rw [if_neg hneg])
        clear hneg hb0
        obtain ⟨ea, hea⟩ : ∃ ea, Lib.atoiAll s.data.toList = ea := ⟨_, rfl⟩
        rw [hea] at HF
        have HA := Aside0.mk hea
        have HN := Aside0.mk hn
        clear hn hea
        have hor : ¬ (s[0].toNat : Int) = 48 ∨ ((s[0].toNat : Int) = 48 ∧ ¬ 1 < s.size) := by
          by_cases h : (s[0].toNat : Int) = 48
          · exact Or.inr ⟨h, fun h' => h2 ⟨h, h'⟩⟩
          · exact Or.inl h
        clear h2
        rcases ea with v | _ | _
        · have hat := atoi_ok s v w hs HA.out
          by_cases hm : most < v
          · have HP := Aside0.mk (show numF s most = (0, 2) by rw [HF.out]; simp only [if_pos hm])
            clear HF
            rcases hor with h3 | ⟨h3, h4⟩
            all_goals
              go_enter Tryz.func58, Tryz.ntmps58
              go_wp2_with fail
              refine (span_any 76 #[] enters41 digitI s 0 _ (by unfold maxLen; omega) (Nat.zero_le _) (fun n W _ => digit_any n W)).mono ?_
              rintro e w' ⟨rfl, rfl⟩
              rw [HN.out]
              go_wp2_with fail
              refine hat.mono ?_
              rintro e w1 ⟨rfl, hb⟩
              have HB := Aside0.mk hb
              clear hb
              go_wp2_with fail
              go_ret2
              exact ⟨by rw [HP.out]; rfl, HB.out⟩
          · have HP := Aside0.mk (show numF s most = (v, 0) by rw [HF.out]; simp only [if_neg hm])
            clear HF
            rcases hor with h3 | ⟨h3, h4⟩
            all_goals
              go_enter Tryz.func58, Tryz.ntmps58
              go_wp2_with fail
              refine (span_any 76 #[] enters41 digitI s 0 _ (by unfold maxLen; omega) (Nat.zero_le _) (fun n W _ => digit_any n W)).mono ?_
              rintro e w' ⟨rfl, rfl⟩
              rw [HN.out]
              go_wp2_with fail
              refine hat.mono ?_
              rintro e w1 ⟨rfl, hb⟩
              have HB := Aside0.mk hb
              clear hb
              go_wp2_with fail
              go_ret2
              exact ⟨by rw [HP.out]; rfl, HB.out⟩
        · have hat := atoi_bad s w HE.out hs (by rw [HA.out]; intro v h; cases h)
          have HP := Aside0.mk (show numF s most = (0, 2) by rw [HF.out])
          clear HF
          rcases hor with h3 | ⟨h3, h4⟩
          all_goals
            go_enter Tryz.func58, Tryz.ntmps58
            go_wp2_with fail
            refine (span_any 76 #[] enters41 digitI s 0 _ (by unfold maxLen; omega) (Nat.zero_le _) (fun n W _ => digit_any n W)).mono ?_
            rintro e w' ⟨rfl, rfl⟩
            rw [HN.out]
            go_wp2_with fail
            refine hat.mono ?_
            rintro e w1 ⟨v, N, rfl, hb⟩
            have HB := Aside0.mk hb
            clear hb
            go_wp2_with fail
            go_ret2
            exact ⟨by rw [HP.out]; rfl, HB.out⟩
        · have hat := atoi_bad s w HE.out hs (by rw [HA.out]; intro v h; cases h)
          have HP := Aside0.mk (show numF s most = (0, 2) by rw [HF.out])
          clear HF
          rcases hor with h3 | ⟨h3, h4⟩
          all_goals
            go_enter Tryz.func58, Tryz.ntmps58
            go_wp2_with fail
            refine (span_any 76 #[] enters41 digitI s 0 _ (by unfold maxLen; omega) (Nat.zero_le _) (fun n W _ => digit_any n W)).mono ?_
            rintro e w' ⟨rfl, rfl⟩
            rw [HN.out]
            go_wp2_with fail
            refine hat.mono ?_
            rintro e w1 ⟨v, N, rfl, hb⟩
            have HB := Aside0.mk hb
            clear hb
            go_wp2_with fail
            go_ret2
            exact ⟨by rw [HP.out]; rfl, HB.out⟩


theorem sizeBuilder : (Tryz.prog.info? 82).map (·.size) = some 2 := by kernel_rfl
theorem liesBuilder : liesAt Tryz.prog Tryz.prog.depth 82 (2 / Tryz.prog.cellsOf 82) 0 82 1 = true := by kernel_rfl
theorem infoByte : (Tryz.prog.info? 5).map (fun i => (i.zero, i.size, i.bytes)) = some (some (.int .u8 0), 1, 1) := by kernel_rfl

set_option maxHeartbeats 1000000 in
set_option maxRecDepth 100000 in
/-- copyCheck at a builder that has been used: nothing turns. -/
theorem copyCheck_used (b : Nat) (w : World) (h0 : w.cell? ⟨b, 0, none⟩ = some (.pointer (some ⟨b, 0, none⟩))) :
    Calls Tryz.prog 67 #[.pointer (some ⟨b, 0, none⟩)] w fun e w' => e = .returned (.tuple #[]) ∧ w' = w := by
  obtain ⟨j, hj, _⟩ := Option.map_eq_some_iff.1 sizeBuilder
  go_enter Tryz.func67, Tryz.ntmps67
  go_wp2
  rw [Lib.run_neq_ptr_same w _ Tryz.underlying80 hj]
  go_wp2
  go_end0
  exact ⟨rfl, rfl⟩

set_option maxHeartbeats 1000000 in
set_option maxRecDepth 100000 in
/-- copyCheck at a fresh builder: it stores its own address. -/
theorem copyCheck_fresh (b : Nat) (w : World) (h0 : w.cell? ⟨b, 0, none⟩ = some (.pointer none)) (hsh : w.shape? b = some (82, 2)) (hfz : w.frozen? ⟨b, 0, none⟩ = false) :
    Calls Tryz.prog 67 #[.pointer (some ⟨b, 0, none⟩)] w fun e w' => e = .returned (.tuple #[]) ∧ w' = w.setCell ⟨b, 0, none⟩ (.pointer (some ⟨b, 0, none⟩)) := by
  obtain ⟨j, hj, hjs⟩ := Option.map_eq_some_iff.1 sizeBuilder
  go_enter Tryz.func67, Tryz.ntmps67
  go_wp2
  rw [Lib.run_to_unsafe w ⟨b, 0, none⟩ Tryz.underlying80 Tryz.underlying135 hj (by rw [hjs]; decide) hsh (Nat.zero_lt_succ 1)]
  simp only [Result.andThen]
  rw [Oper.upon_value]
  go_wp2
  rw [run_callFunc_extern Tryz.func83 (by kernel_rfl) (by kernel_rfl) (by kernel_rfl) (e := Extern.AbiNoEscape.same) (by kernel_rfl)]
  rw [Lib.run_noEscape]
  simp only [Result.andThen]
  rw [Oper.upon_value]
  go_wp2
  rw [Lib.run_from_unsafe w ⟨b, 0, none⟩ Tryz.underlying135 Tryz.underlying80 hj hsh liesBuilder]
  simp only [Result.andThen]
  rw [Oper.upon_value]
  go_wp2
  go_end0
  exact ⟨rfl, rfl⟩

theorem copyCheck_any (B b : Nat) (bs : List Value) (w : World) (h : Lib.IsBuilder 82 5 B b bs w) :
    Calls Tryz.prog 67 #[.pointer (some ⟨b, 0, none⟩)] w fun e w' => e = .returned (.tuple #[]) ∧ (Lib.BuilderAt 82 5 B b (.pointer (some ⟨b, 0, none⟩)) bs w' ∧ Below B w w') := by
  rcases h with h | h
  · refine (copyCheck_fresh b w h.cell0 h.shape h.frozen0).mono ?_
    rintro e w' ⟨rfl, rfl⟩
    exact ⟨rfl, h.used _, (Below.refl B w).setCell (p := ⟨b, 0, none⟩) h.1 _⟩
  · refine (copyCheck_used b w h.cell0).mono ?_
    rintro e w' ⟨rfl, rfl⟩
    exact ⟨rfl, h, Below.refl B _⟩

set_option maxHeartbeats 2000000 in
set_option maxRecDepth 100000 in
theorem writeByte_any (B b : Nat) (bs : List Value) (c : Int) (w : World) (h : Lib.IsBuilder 82 5 B b bs w) (hlen : bs.length + 1 ≤ 140737488355328) (hBw : B ≤ w.heap.size) :
    Calls Tryz.prog 99 #[.pointer (some ⟨b, 0, none⟩), .int .u8 c] w fun e w' => e = .returned .nilIface ∧ (Lib.BuilderAt 82 5 B b (.pointer (some ⟨b, 0, none⟩)) (bs ++ [.int .u8 c]) w' ∧ Below B w w') := by
  obtain ⟨i0, hi, hz0, hz1, hz2⟩ := info_parts infoByte
  go_enter Tryz.func99, Tryz.ntmps99
  go_wp2_with (go_at_call 67; refine (copyCheck_any B b bs _ h).mono ?_)
  rintro e w1 ⟨rfl, h1, hb1⟩
  obtain ⟨hB, v, hbk, hown, hne⟩ := h1
  have c0 : w1.cell? ⟨b, 0, none⟩ = some (.pointer (some ⟨b, 0, none⟩)) := by rw [Lib.cell_of_heap hbk]; rfl
  have c1 : w1.cell? ⟨b, 1, none⟩ = some v := by rw [Lib.cell_of_heap hbk]; rfl
  go_wp2_with (at_builtin; refine wpList_append_own _ rfl _ _ 26 rfl B 5 i0 (.int .u8 0) 1 1 Tryz.underlying26 hi hz0 hz1 hz2 rfl (by decide) _ _ _ rfl (hown.alloc _) ⟨w1.heap.size, 0, none⟩ 1 1 [.int .u8 c] rfl rfl ?c1 ?c2 ?c3 ?c4 ?c5 ?_)
  case c1 =>
    intro j u hj
    match j, hj with
    | 0, hj => simp at hj; subst hj; simp [Addr.add]
  case c2 => intro u hu; simp at hu; subst hu; rfl
  case c3 => unfold maxLen; omega
  case c4 => omega
  case c5 => have := hb1.size; simp; omega
  intro v' w2 hown' hgrow _
  have hlt : b < w1.heap.size := lt_of_block hbk
  have hb2 : w2.heap[b]? = some (.cells #[.pointer (some ⟨b, 0, none⟩), v] 82 (0, 0)) := by
    rw [hgrow.block b (by simp; omega) (fun e => hne e.symm), Lib.alloc_old w1 _ b hlt]
    exact hbk
  have d0 : w2.cell? ⟨b, 0, none⟩ = some (.pointer (some ⟨b, 0, none⟩)) := by rw [Lib.cell_of_heap hb2]; rfl
  have d1 : w2.cell? ⟨b, 1, none⟩ = some v := by rw [Lib.cell_of_heap hb2]; rfl
  have f1 : w2.frozen? ⟨b, 1, none⟩ = false := Lib.frozen_of_heap hb2 1
  obtain ⟨g, cap, rfl⟩ : ∃ g cap, v' = .slice (some ⟨g, 0, none⟩) (bs.length + 1) cap := by
    rcases hown'.2 with ⟨_, h0⟩ | ⟨g, cap, cur, hv, _⟩
    · omega
    · exact ⟨g, cap, hv⟩
  go_wp2
  go_ret
  refine ⟨rfl, ?_, ?_⟩
  · exact Lib.BuilderAt.put (T := 82) (e := 5) hB hb2 (bs' := bs ++ [.int .u8 c]) (by simpa using hown') (by decide)
  · exact ((hb1.alloc (by have := hb1.size; omega) _).grown hgrow (by have := hb1.size; simp; omega) (fun k hk => (hown.lt k hk).1)).setCell (p := ⟨b, 1, none⟩) hB _


def hexT : ByteArray := ⟨#[48, 49, 50, 51, 52, 53, 54, 55, 56, 57, 97, 98, 99, 100, 101, 102]⟩
/-- The digits of a byte. -/
def hexD (n : Int) : List Int := [bt hexT (n / 16), bt hexT (n % 16)]
def hexL (l : List Int) : List Int := l.flatMap hexD
def hexS (l : List Int) : ByteArray := strOfNums (hexL l)

theorem hexL_snoc (l : List Int) (n : Int) : hexL (l ++ [n]) = hexL l ++ [bt hexT (n / 16)] ++ [bt hexT (n % 16)] := by
  simp [hexL, hexD]
theorem hexL_length (l : List Int) : (hexL l).length = 2 * l.length := by
  induction l with
  | nil => rfl
  | cons x r ih => simp [hexL, hexD] at ih ⊢; omega

theorem hexL_range (l : List Int) : ∀ y ∈ hexL l, 0 ≤ y ∧ y ≤ 255 := by
  intro y hy
  simp only [hexL, hexD, List.mem_flatMap, List.mem_cons, List.not_mem_nil, or_false] at hy
  obtain ⟨x, _, h | h⟩ := hy <;> (subst h; exact bt_range _ _)

set_option maxHeartbeats 2000000 in
set_option maxRecDepth 100000 in
theorem hex_any (A : Option Addr) (c : Nat) (l : List Int) (w : World) (hC : Kd.C (Kd.int .u8) w A l.length l) (hb : ∀ x ∈ l, 0 ≤ x ∧ x ≤ 255) (hl : l.length ≤ 1000000) :
    Calls Tryz.prog 82 #[.slice A l.length c] w fun e w' => e = .returned (.string (hexS l)) ∧ Below w.heap.size w w' := by
  have HC := Aside0.mk hC
  have HBd := Aside0.mk hb
  clear hC hb
  obtain ⟨n, hn⟩ : ∃ n, l.length = n := ⟨_, rfl⟩
  have HN := Aside0.mk hn
  rw [hn] at hl ⊢
  clear hn
  go_enter Tryz.func82, Tryz.ntmps82
  go_wp2_with fail
  go_loopg [5, 8] n (fun gf x5 i wx => ∃ k : Nat, k ≤ n ∧ i = .int .i64 k ∧ Hid (n ≤ k + gf) ∧ Aside0 (Lib.IsBuilder 82 5 w.heap.size w.heap.size (nums .u8 (hexL (l.take k))) wx) ∧ Aside0 (Below w.heap.size w wx))
  case atStart =>
    refine ⟨0, Nat.zero_le _, rfl, by unfold Hid; omega, ⟨Or.inl ⟨Nat.le_refl _, _, heap_alloc_new _ _, own_nil _ _ _ _, by simp [Value.ownBlock]⟩⟩, ⟨(Below.refl _ _).alloc (Nat.le_refl _) _⟩⟩
  case round =>
    obtain ⟨k, hk, rfl, HG, HI, HB⟩ := hrel
    by_cases hlt : k < n
    · obtain ⟨ad, hA, hcell⟩ := Kd.at_int (Kd.C_below HC.out HB.out) (k : Int) (by omega) (by have := HN.out; omega)
      rw [Int.toNat_natCast] at hcell
      obtain ⟨x, hx⟩ : ∃ x, rd l (k : Int) = x := ⟨_, rfl⟩
      rw [hx] at hcell
      subst hA
      have hxm : x ∈ l ∧ l.take (k + 1) = l.take k ++ [x] := by
        subst hx
        have hkl : k < l.length := by have := HN.out; omega
        have hr : rd l (k : Int) = l[k] := by simp [rd, List.getD_eq_getElem?_getD, List.getElem?_eq_getElem hkl]
        rw [hr]
        exact ⟨List.getElem_mem hkl, by rw [List.take_succ_eq_append_getElem hkl]⟩
      obtain ⟨hb0, hb1⟩ := HBd.out x hxm.1
      have HX := Aside0.mk hxm.2
      clear hx hxm
      have hq1 : 0 ≤ x / 16 ∧ x / 16 < 16 := by omega
      have hq2 : 0 ≤ x % 16 ∧ x % 16 < 16 := by omega
      have hand : bits .and .u8 x 15 = x % 16 := u8_and15 _ hb0 (by omega)
      obtain ⟨d1, hd1⟩ : ∃ d1, bt hexT (x / 16) = d1 := ⟨_, rfl⟩
      obtain ⟨d2, hd2⟩ : ∃ d2, bt hexT (x % 16) = d2 := ⟨_, rfl⟩
      have hx1 := fun h => (bt_at ⟨#[48, 49, 50, 51, 52, 53, 54, 55, 56, 57, 97, 98, 99, 100, 101, 102]⟩ (x / 16) h).trans hd1
      have hx2 := fun h => (bt_at ⟨#[48, 49, 50, 51, 52, 53, 54, 55, 56, 57, 97, 98, 99, 100, 101, 102]⟩ (x % 16) h).trans hd2
      have hlen := hexL_length (l.take k)
      rw [List.length_take] at hlen
      have HS := Aside0.mk (hexL_snoc (l.take k) x)
      rw [← HX.out, hd1, hd2] at HS
      have HL1 : Aside0 ((nums .u8 (hexL (l.take k))).length + 2 ≤ 3000000) := ⟨by simp only [nums, List.length_map]; omega⟩
      clear hd1 hd2 hlen
      go_wp2_with fail
      refine (writeByte_any w.heap.size w.heap.size _ d1 _ HI.out (by have := HL1.out; omega) HB.out.size).mono ?_
      rintro e w1 ⟨rfl, hi1, hbb1⟩
      have HI1 := Aside0.mk hi1
      have HB1 := Aside0.mk (HB.out.trans hbb1)
      clear hi1 hbb1 HI HB hx1 hq1
      go_wp2_with fail
      refine (writeByte_any w.heap.size w.heap.size _ d2 _ (Or.inr HI1.out) (by have := HL1.out; rw [List.length_append, List.length_singleton]; omega) HB1.out.size).mono ?_
      rintro e w2 ⟨rfl, hi2, hbb2⟩
      have HI2 := Aside0.mk hi2
      have HB2 := Aside0.mk (HB1.out.trans hbb2)
      clear hi2 hbb2 HI1 HB1
      go_wp2_with fail
      go_roundg (gk - 1)
      case measure => have := HG.out; omega
      case rel =>
        refine ⟨k + 1, by omega, by go_num, by have := HG.out; unfold Hid; omega, ⟨Or.inr ?_⟩, HB2⟩
        rw [HS.out]
        have := HI2.out
        simpa [nums] using this
    · obtain rfl : k = n := by omega
      have hfull : l.take k = l := List.take_of_length_le (by rw [HN.out]; exact Nat.le_refl _)
      have HI1 := HI.out
      rw [hfull] at HI1
      have hby : nums .u8 (hexL l) = Lib.byteCells (strOfNums (hexL l)).data.toList := by
        rw [strOfNums_data]
        simp only [nums, Lib.byteCells, List.map_map]
        apply List.map_congr_left
        intro y hy
        have hr := hexL_range l y hy
        simp only [Function.comp]
        congr 1
        rw [UInt8.toNat_ofNat']
        omega
      rw [hby] at HI1
      have HI2 := Aside0.mk HI1
      clear HI1 HI hfull hby
      go_wp2_with fail
      refine (Tryz.Builder_String_any w.heap.size w.heap.size _ _ HI2.out HB.out.size).mono ?_
      rintro e w2 ⟨rfl, hbb2⟩
      have HB2 := Aside0.mk (HB.out.trans hbb2)
      clear hbb2 HB HI2
      go_wp2_with fail
      go_ret
      exact ⟨rfl, HB2.out⟩


def valI (n : Int) : Int := Lib.indexByte hexT.data.toList n.toNat.toUInt8

theorem value_any (n : Int) (w : World) : Calls Tryz.prog 96 #[.int .u8 n] w fun e w' => e = .returned (.int .i64 (valI n)) ∧ w' = w := by
  go_enter Tryz.func96, Tryz.ntmps96
  go_wp2_with (go_at_call 97; refine (Tryz.strings_IndexByte _ n _).mono ?_; rintro e w' ⟨rfl, rfl⟩)
  go_ret
  exact ⟨rfl, rfl⟩

theorem indexByte_range (l : List UInt8) (c : UInt8) : -1 ≤ Lib.indexByte l c ∧ Lib.indexByte l c < l.length := by
  induction l with
  | nil => simp [Lib.indexByte]
  | cons b l ih =>
    unfold Lib.indexByte
    split
    · simp
    · split
      · simp; omega
      · rename_i h1 h2
        have : Lib.indexByte l c ≠ -1 := by simpa using h2
        simp only [List.length_cons]
        omega

theorem valI_range (n : Int) : -1 ≤ valI n ∧ valI n < 16 := indexByte_range _ _

def unhexG (s : ByteArray) : Nat → Nat → List Int → List Int × Int
  | 0, _, acc => (acc, 0)
  | f + 1, k, acc => if k < s.size then (if valI (bt s k) < 0 ∨ valI (bt s (k + 1 : Nat)) < 0 then ([], 3) else unhexG s f (k + 2) (acc ++ [valI (bt s k) * 16 + valI (bt s (k + 1 : Nat))])) else (acc, 0)

def unhexF (s : ByteArray) : List Int × Int := if s.size % 2 = 1 then ([], 3) else unhexG s (s.size + 1) 0 []

theorem wraps_i64 (n : Int) (h₀ : 0 ≤ n) (h₁ : n < 2 ^ 8) : IntKind.i64.wrap n = n := IntWalk.i64_in _ (by omega)

theorem or16 (a b : Int) (ha : 0 ≤ a) (ha2 : a < 16) (hb : 0 ≤ b) (hb2 : b < 16) : bits .or .i64 (a * 16) b = a * 16 + b := by
  have h1 : (a * 16) % 2 ^ 4 = 0 := by show (a * 16) % 16 = 0; omega
  have h2 : a * 16 < 2 ^ 8 := by show a * 16 < 256; omega
  have h3 : b < 2 ^ 4 := by show b < 16; omega
  have h4 : b < 2 ^ 8 := by show b < 256; omega
  exact bits_join .i64 8 (by decide) wraps_i64 4 (a * 16) b (by omega) h1 h2 hb h3 h4

set_option maxHeartbeats 4000000 in
theorem unhex_any (s : ByteArray) (w : World) (hs : s.size ≤ 1000000) :
    Calls Tryz.prog 79 #[.string s] w fun e w' => ∃ v, e = .returned (.tuple #[v, .int .i64 (unhexF s).2]) ∧ Kd.R (Kd.int .u8) 5 w' w.heap.size (fun _ => True) v (unhexF s).1 ∧ Below w.heap.size w w' := by
  by_cases hodd : s.size % 2 = 1
  · have HF := Aside0.mk (show unhexF s = ([], 3) by unfold unhexF; rw [if_pos hodd])
    have hm : (s.size : Int) % 2 = 1 := by omega
    go_enter Tryz.func79, Tryz.ntmps79
    go_wp2_with fail
    go_ret2
    refine ⟨_, by rw [HF.out]; rfl, by rw [HF.out]; exact Kd.R_nil _ _ _ _ _, Below.refl _ _⟩
  · have HF := Aside0.mk (show unhexF s = unhexG s (s.size + 1) 0 [] by unfold unhexF; rw [if_neg hodd])
    have hm : (s.size : Int) % 2 = 0 := by omega
    have e61 : ∀ args w, (callFunc 96 args).run Tryz.prog w = .ok (.enter 96 args) w := enters_of Tryz.func96 (by kernel_rfl) rfl
    go_enter Tryz.func79, Tryz.ntmps79
    go_wp2_with fail
    clear hm
    go_loopg [4, 6, 7, 8] (s.size + 1) (fun gf x4 i x7 x8 wx => ∃ (k : Nat) (acc : List Int), k ≤ s.size ∧ k % 2 = 0 ∧ i = .int .i64 k ∧ Hid (s.size < k + gf) ∧ Aside0 (acc.length ≤ k) ∧ Aside0 (unhexG s gf k acc = unhexF s) ∧
      Aside0 (Kd.R (Kd.int .u8) 5 wx w.heap.size (fun _ => True) x4 acc) ∧ Aside0 (Below w.heap.size w wx))
    case atStart => exact ⟨0, [], Nat.zero_le _, rfl, rfl, by unfold Hid; omega, ⟨Nat.zero_le _⟩, ⟨HF.out.symm⟩, ⟨Kd.R_nil _ _ _ _ _⟩, ⟨Below.refl _ _⟩⟩
    case round =>
      obtain ⟨k, acc, hk, hev, rfl, HG, HL, HU, HR, HB⟩ := hrel
      by_cases hlt : k < s.size
      · have hlt2 : k + 1 < s.size := by omega
        obtain ⟨g', rfl⟩ : ∃ g', gk = g' + 1 := ⟨gk - 1, by have := HG.out; omega⟩
        obtain ⟨a, ha⟩ : ∃ a, valI (bt s k) = a := ⟨_, rfl⟩
        obtain ⟨b, hb⟩ : ∃ b, valI (bt s (k + 1 : Nat)) = b := ⟨_, rfl⟩
        have hra := valI_range (bt s k)
        have hrb := valI_range (bt s (k + 1 : Nat))
        rw [ha] at hra
        rw [hb] at hrb
        have hu := HU.out
        rw [unhexG, if_pos hlt, ha, hb] at hu
        have ha1 : valI (s[k].toNat : Int) = a := by rw [← ha]; congr 1; exact bt_at s (k : Int) hlt
        have hb1 : valI (s[k + 1].toNat : Int) = b := by rw [← hb]; congr 1; exact bt_at s ((k + 1 : Nat) : Int) hlt2
        have hra1 := hra.1
        have hra2 := hra.2
        have hrb1 := hrb.1
        have hrb2 := hrb.2
        clear hra hrb ha hb
        by_cases hna : a < 0
        · rw [if_pos (Or.inl hna)] at hu
          have HU2 := Aside0.mk hu
          clear hu HU
          go_wp2_with fail
          have q1 : IntKind.i64.wrap ((k : Int) + 1) = (k : Int) + 1 := IntWalk.i64_in _ (by omega)
          have q2 : 0 ≤ (k : Int) + 1 := by omega
          have q3 : (k : Int) + 1 < (s.size : Int) := by omega
          have q4 : ((k : Int) + 1).toNat = k + 1 := by omega
          have q5 : (k : Int) < (s.size : Int) := by omega
          go_quiet ((go_at_call 96; exact Calls.quiet_of_same (value_any _ _)))
          clear q1
          go_wp2
          go_ret2
          exact ⟨_, by rw [← HU2.out]; rfl, by rw [← HU2.out]; exact Kd.R_nil _ _ _ _ _, pw_below_drewN HB.out _⟩
        · by_cases hnb : b < 0
          · rw [if_pos (Or.inr hnb)] at hu
            have HU2 := Aside0.mk hu
            clear hu HU
            go_wp2_with fail
            have q1 : IntKind.i64.wrap ((k : Int) + 1) = (k : Int) + 1 := IntWalk.i64_in _ (by omega)
            have q2 : 0 ≤ (k : Int) + 1 := by omega
            have q3 : (k : Int) + 1 < (s.size : Int) := by omega
            have q4 : ((k : Int) + 1).toNat = k + 1 := by omega
            have q5 : (k : Int) < (s.size : Int) := by omega
            go_quiet ((go_at_call 96; exact Calls.quiet_of_same (value_any _ _)))
            clear q1
            go_wp2
            go_ret2
            exact ⟨_, by rw [← HU2.out]; rfl, by rw [← HU2.out]; exact Kd.R_nil _ _ _ _ _, pw_below_drewN HB.out _⟩
          · rw [if_neg (by omega)] at hu
            have HU2 := Aside0.mk hu
            clear hu HU
            have hor := or16 a b (by omega) (by omega) (by omega) (by omega)
            have hmod : (a * 16 + b) % 256 = a * 16 + b := by omega
            go_wp2_with fail
            have q1 : IntKind.i64.wrap ((k : Int) + 1) = (k : Int) + 1 := IntWalk.i64_in _ (by omega)
            have q2 : 0 ≤ (k : Int) + 1 := by omega
            have q3 : (k : Int) + 1 < (s.size : Int) := by omega
            have q4 : ((k : Int) + 1).toNat = k + 1 := by omega
            have q5 : (k : Int) < (s.size : Int) := by omega
            go_quiet ((go_at_call 96; exact Calls.quiet_of_same (value_any _ _)))
            clear q1
            go_wp2_with (((with_reducible refine gate_builtin (b := .append) (xs := #[.tmp 36, .tmp 42]) rfl ?_); at_builtin; refine Kd.R_append (Kd.int .u8) (w0 := w) w.heap.size rfl (.tmp 36) (.tmp 42) 26 5 (.int .u8 0) 1 rfl Tryz.underlying26 infoByte rfl (by decide) (by omega) u4 acc (a * 16 + b) [.int .u8 (a * 16 + b)] (fun _ => True) (fun _ => False) rfl rfl ?aP (fun _ hk => hk.elim) ?aF ?aO ?aB ?aS ?aL ?_))
            case aP => exact rfl
            case aF => exact fun _ _ => trivial
            case aO => exact Kd.R_drewN HR.out _
            case aB => exact pw_below_drewN HB.out _
            case aS => exact HB.out.size
            case aL => have := HL.out; omega
            intro v1 w1 ho hbb _ _
            have HO2 := Aside0.mk ho
            have HB2 := Aside0.mk hbb
            clear ho hbb HR HB
            go_wp2
            go_roundg g'
            case measure => omega
            case rel => exact ⟨k + 2, acc ++ [a * 16 + b], by omega, by omega, by go_num, by have := HG.out; unfold Hid; omega, ⟨by have := HL.out; simp; omega⟩, HU2, HO2, HB2⟩
      · have hu := HU.out
        have hend : unhexG s gk k acc = (acc, 0) := by cases gk <;> simp [unhexG, hlt]
        rw [hend] at hu
        have HU2 := Aside0.mk hu
        clear hu hend HU
        have hsl := Kd.R_slice HR.out
        obtain ⟨A4, c4, rfl⟩ := hsl
        go_wp2_with fail
        go_ret2
        exact ⟨_, by rw [← HU2.out]; rfl, by rw [← HU2.out]; exact HR.out, HB.out⟩


end Go.Proofs.YtceopllngemnnaaGreatDoor


/-
  Functions of the document's answer and small functions of the program: what they return. Printed by print.sh for the batch laws (gathered by bx.py; Hex turned at one word).
-/
namespace Go.Proofs.YtceopllngemnnaaGreatDoor.PRef
open Go.RowKit Go.Proofs.YtceopllngemnnaaGreatDoorW.PrintWords Go.Proofs.YtceopllngemnnaaGreatDoorW.PrintLast Go.Proofs.YtceopllngemnnaaGreatDoorW.PrintMore
attribute [local go_sem] max2_int min2_int max_two min_two max_three min_three max_four min_four
set_option linter.unusedVariables false
set_option linter.unusedSimpArgs false

theorem info5 : (Tryz.prog.info? 5).map (fun i => (i.zero, i.size, i.bytes)) = some (some (.int .u8 0), 1, 1) := by kernel_rfl
theorem info9 : (Tryz.prog.info? 9).map (fun i => (i.zero, i.size, i.bytes)) = some (some (.string ⟨#[]⟩), 1, 16) := by kernel_rfl
/-! ### sha256_initial: function 126 -/
def sha256_initial.f  : Option (Int × Int × Int × Int × Int × Int × Int × Int) := some (1779033703, 3144134277, 1013904242, 2773480762, 1359893119, 2600822924, 528734635, 1541459225)
set_option maxHeartbeats 8000000 in
set_option maxRecDepth 100000 in
theorem sha256_initial.calls  (r1 : Int) (r2 : Int) (r3 : Int) (r4 : Int) (r5 : Int) (r6 : Int) (r7 : Int) (r8 : Int) (w : World) (h : sha256_initial.f  = some (r1, r2, r3, r4, r5, r6, r7, r8)) :
    Calls Tryz.prog 126 #[] w fun e w' => e = .returned (.agg #[.int .u32 r1, .int .u32 r2, .int .u32 r3, .int .u32 r4, .int .u32 r5, .int .u32 r6, .int .u32 r7, .int .u32 r8]) ∧ Below w.heap.size w w' := by
  have hu175 := Tryz.underlying175
  have HB := Aside0.mk (Below.refl w.heap.size w)
  have H : (some (1779033703, 3144134277, 1013904242, 2773480762, 1359893119, 2600822924, 528734635, 1541459225)) = some (r1, r2, r3, r4, r5, r6, r7, r8) := h
  clear h
  simp only [Option.some.injEq, Prod.mk.injEq] at H
  obtain ⟨rfl, rfl, rfl, rfl, rfl, rfl, rfl, rfl⟩ := H
  go_enter Tryz.func126, Tryz.ntmps126
  go_wp2_with (first | ((with_reducible refine gate_dst (N := 0) rfl ?_); refine box_event ?hg (N := 0) ?hd (cs := #[.int .u32 0, .int .u32 0, .int .u32 0, .int .u32 0, .int .u32 0, .int .u32 0, .int .u32 0, .int .u32 0]) (t := 175) ?hr ?_; (case hd => rfl); (case hg => rfl); (case hr => first | (go_simp; done) | (go_simp; rfl)); intro gb137 hg w1 hbox hb; have n0_ := Aside0.mk (below_step (by repeat (first | (with_reducible first | exact HB.out | apply below_alloc | apply pw_below_drewN | apply below_drew1) | exact HB.out)) hb); have n1_ := Aside0.mk (hbox); have n2_ := Aside0.mk ((by rw [hg]; exact (below_size (by repeat (first | (with_reducible first | exact HB.out | apply below_alloc | apply pw_below_drewN | apply below_drew1) | exact HB.out))) : w.heap.size ≤ gb137)); have n3_ := Aside0.mk ((by rw [hg]; exact (below_size (by repeat (first | (with_reducible first | exact HB.out | apply below_alloc | apply pw_below_drewN | apply below_drew1) | exact HB.out))) : w.heap.size ≤ gb137)); clear HB; have HB := n0_; have BK137 := n1_; have GW137 := n2_; have GE137 := n3_; clear n0_ n1_ n2_ n3_; clear hb hbox hg; have hcz2_0 : w1.cell? ⟨gb137, 0, none⟩ = some (.int .u32 0) := (blk_cell BK137.out 0).trans rfl; have hcz2_1 : w1.cell? ⟨gb137, 1, none⟩ = some (.int .u32 0) := (blk_cell BK137.out 1).trans rfl; have hcz2_2 : w1.cell? ⟨gb137, 2, none⟩ = some (.int .u32 0) := (blk_cell BK137.out 2).trans rfl; have hcz2_3 : w1.cell? ⟨gb137, 3, none⟩ = some (.int .u32 0) := (blk_cell BK137.out 3).trans rfl; have hcz2_4 : w1.cell? ⟨gb137, 4, none⟩ = some (.int .u32 0) := (blk_cell BK137.out 4).trans rfl; have hcz2_5 : w1.cell? ⟨gb137, 5, none⟩ = some (.int .u32 0) := (blk_cell BK137.out 5).trans rfl; have hcz2_6 : w1.cell? ⟨gb137, 6, none⟩ = some (.int .u32 0) := (blk_cell BK137.out 6).trans rfl; have hcz2_7 : w1.cell? ⟨gb137, 7, none⟩ = some (.int .u32 0) := (blk_cell BK137.out 7).trans rfl; have hfz2_0 := blk_frozen BK137.out 0; have hfz2_1 := blk_frozen BK137.out 1; have hfz2_2 := blk_frozen BK137.out 2; have hfz2_3 := blk_frozen BK137.out 3; have hfz2_4 := blk_frozen BK137.out 4; have hfz2_5 := blk_frozen BK137.out 5; have hfz2_6 := blk_frozen BK137.out 6; have hfz2_7 := blk_frozen BK137.out 7))
  refine bodyPost_ret (results_cell_row rfl _ _ gb137 175 #[.int .u32 1779033703, .int .u32 3144134277, .int .u32 1013904242, .int .u32 2773480762, .int .u32 1359893119, .int .u32 2600822924, .int .u32 528734635, .int .u32 1541459225] (0, 0) _ rfl (by (with_reducible repeat (first | refine blk_drewN ?_ _ | refine blk_drew ?_ | refine blk_alloc ?_ _)); refine blk_put (cs := #[.int .u32 1779033703, .int .u32 3144134277, .int .u32 1013904242, .int .u32 2773480762, .int .u32 1359893119, .int .u32 2600822924, .int .u32 528734635, .int .u32 0]) ?_ 7 _ rfl; (with_reducible repeat (first | refine blk_drewN ?_ _ | refine blk_drew ?_ | refine blk_alloc ?_ _)); refine blk_put (cs := #[.int .u32 1779033703, .int .u32 3144134277, .int .u32 1013904242, .int .u32 2773480762, .int .u32 1359893119, .int .u32 2600822924, .int .u32 0, .int .u32 0]) ?_ 6 _ rfl; (with_reducible repeat (first | refine blk_drewN ?_ _ | refine blk_drew ?_ | refine blk_alloc ?_ _)); refine blk_put (cs := #[.int .u32 1779033703, .int .u32 3144134277, .int .u32 1013904242, .int .u32 2773480762, .int .u32 1359893119, .int .u32 0, .int .u32 0, .int .u32 0]) ?_ 5 _ rfl; (with_reducible repeat (first | refine blk_drewN ?_ _ | refine blk_drew ?_ | refine blk_alloc ?_ _)); refine blk_put (cs := #[.int .u32 1779033703, .int .u32 3144134277, .int .u32 1013904242, .int .u32 2773480762, .int .u32 0, .int .u32 0, .int .u32 0, .int .u32 0]) ?_ 4 _ rfl; (with_reducible repeat (first | refine blk_drewN ?_ _ | refine blk_drew ?_ | refine blk_alloc ?_ _)); refine blk_put (cs := #[.int .u32 1779033703, .int .u32 3144134277, .int .u32 1013904242, .int .u32 0, .int .u32 0, .int .u32 0, .int .u32 0, .int .u32 0]) ?_ 3 _ rfl; (with_reducible repeat (first | refine blk_drewN ?_ _ | refine blk_drew ?_ | refine blk_alloc ?_ _)); refine blk_put (cs := #[.int .u32 1779033703, .int .u32 3144134277, .int .u32 0, .int .u32 0, .int .u32 0, .int .u32 0, .int .u32 0, .int .u32 0]) ?_ 2 _ rfl; (with_reducible repeat (first | refine blk_drewN ?_ _ | refine blk_drew ?_ | refine blk_alloc ?_ _)); refine blk_put (cs := #[.int .u32 1779033703, .int .u32 0, .int .u32 0, .int .u32 0, .int .u32 0, .int .u32 0, .int .u32 0, .int .u32 0]) ?_ 1 _ rfl; (with_reducible repeat (first | refine blk_drewN ?_ _ | refine blk_drew ?_ | refine blk_alloc ?_ _)); refine blk_put (cs := #[.int .u32 0, .int .u32 0, .int .u32 0, .int .u32 0, .int .u32 0, .int .u32 0, .int .u32 0, .int .u32 0]) ?_ 0 _ rfl; (with_reducible repeat (first | refine blk_drewN ?_ _ | refine blk_drew ?_ | refine blk_alloc ?_ _)); exact BK137.out) Tryz.underlying175 rfl (by kernel_rfl)) rfl ?_
  exact ⟨by first | rfl | (simp [errW_none, errW_some] <;> rfl) | (simp [*, errW_none, errW_some] <;> rfl), by repeat (first | (with_reducible first | exact HB.out | apply below_alloc | apply pw_below_drewN | apply below_drew1 | refine below_set ?_ GE137.out) | exact HB.out)⟩



/-! ### bits_RotateLeft32: function 145 -/
def bits_RotateLeft32.f (a0 : Int) (a1 : Int) : Option (Int) := if 0 ≤ (Go.bits .and .u64 (IntKind.u64.wrap (a1)) 31) then (if 0 ≤ (IntKind.u64.wrap (32 - (Go.bits .and .u64 (IntKind.u64.wrap (a1)) 31))) then (some (Go.bits .or .u32 (shl .u32 a0 (Go.bits .and .u64 (IntKind.u64.wrap (a1)) 31)) (shr .u32 a0 (IntKind.u64.wrap (32 - (Go.bits .and .u64 (IntKind.u64.wrap (a1)) 31)))))) else (none)) else (none)
set_option maxHeartbeats 8000000 in
set_option maxRecDepth 100000 in
theorem bits_RotateLeft32.calls (a0 : Int) (a1 : Int) (r : Int) (w : World) (h : bits_RotateLeft32.f a0 a1 = some r) :
    Calls Tryz.prog 145 #[.int .u32 a0, .int .i64 a1] w fun e w' => e = .returned (.int .u32 r) ∧ Drawn0 w w' := by
  have H : (if 0 ≤ (Go.bits .and .u64 (IntKind.u64.wrap (a1)) 31) then (if 0 ≤ (IntKind.u64.wrap (32 - (Go.bits .and .u64 (IntKind.u64.wrap (a1)) 31))) then (some (Go.bits .or .u32 (shl .u32 a0 (Go.bits .and .u64 (IntKind.u64.wrap (a1)) 31)) (shr .u32 a0 (IntKind.u64.wrap (32 - (Go.bits .and .u64 (IntKind.u64.wrap (a1)) 31)))))) else (none)) else (none)) = some r := h
  clear h
  obtain ⟨ji3, hji3⟩ : ∃ j_ : Int, (Go.bits .and .u64 (IntKind.u64.wrap (a1)) 31) = j_ := ⟨_, rfl⟩
  replace H : (if 0 ≤ (ji3) then (if 0 ≤ (IntKind.u64.wrap (32 - (ji3))) then (some (Go.bits .or .u32 (shl .u32 a0 (ji3)) (shr .u32 a0 (IntKind.u64.wrap (32 - (ji3)))))) else (none)) else (none)) = some r := by first | (rw [hji3] at H; exact H) | (simp only [hji3] at H ⊢; exact H)
  by_cases c4 : 0 ≤ (ji3)
  · rw [if_pos c4] at H
    have c4b0 := eq_true c4
    have c4b1 : decide (0 ≤ (ji3)) = true := decide_eq_true c4
    clear c4
    obtain ⟨ji5, hji5⟩ : ∃ j_ : Int, (shl .u32 a0 (ji3)) = j_ := ⟨_, rfl⟩
    replace H : (if 0 ≤ (IntKind.u64.wrap (32 - (ji3))) then (some (Go.bits .or .u32 (ji5) (shr .u32 a0 (IntKind.u64.wrap (32 - (ji3)))))) else (none)) = some r := by first | (rw [hji5] at H; exact H) | (simp only [hji5] at H ⊢; exact H)
    have hji5_ : (IntKind.u32.wrap (a0 * 2 ^ min (ji3).toNat 32)) = ji5 := hji5
    have hji5z : (ji3) ≤ 32 → (IntKind.u32.wrap (a0 * 2 ^ (ji3).toNat)) = ji5 := shl_small hji5
    obtain ⟨ji6, hji6⟩ : ∃ j_ : Int, (IntKind.u64.wrap (32 - (ji3))) = j_ := ⟨_, rfl⟩
    replace H : (if 0 ≤ (ji6) then (some (Go.bits .or .u32 (ji5) (shr .u32 a0 (ji6)))) else (none)) = some r := by first | (rw [hji6] at H; exact H) | (simp only [hji6] at H ⊢; exact H)
    by_cases c7 : 0 ≤ (ji6)
    · rw [if_pos c7] at H
      have c7b0 := eq_true c7
      have c7b1 : decide (0 ≤ (ji6)) = true := decide_eq_true c7
      clear c7
      obtain ⟨ji8, hji8⟩ : ∃ j_ : Int, (shr .u32 a0 (ji6)) = j_ := ⟨_, rfl⟩
      replace H : (some (Go.bits .or .u32 (ji5) (ji8))) = some r := by first | (rw [hji8] at H; exact H) | (simp only [hji8] at H ⊢; exact H)
      have hji8_ : (a0 / 2 ^ min (ji6).toNat 32) = ji8 := hji8
      have hji8z : (ji6) ≤ 32 → (a0 / 2 ^ (ji6).toNat) = ji8 := shr_small hji8
      obtain rfl := Option.some.inj H
      go_enter Tryz.func145, Tryz.ntmps145
      go_wp2
      go_ret
      exact ⟨by first | rfl | (simp; done) | (simp only [← hji3, ← hji5, ← hji6, ← hji8] <;> (first | rfl | simp)) | (simp [*]; done), by repeat (first | exact Drawn0.refl _ | apply Drawn0.step)⟩
    · rw [if_neg c7] at H
      exact absurd H (by simp)
  · rw [if_neg c4] at H
    exact absurd H (by simp)

/-! ### sha256_right: function 142 -/
def sha256_right.f (a0 : Int) (a1 : Int) : Option (Int) := (bits_RotateLeft32.f a0 (wrap64 (-a1))).bind fun t147 => (some t147)
set_option maxHeartbeats 8000000 in
set_option maxRecDepth 100000 in
theorem sha256_right.calls (a0 : Int) (a1 : Int) (r : Int) (w : World) (h : sha256_right.f a0 a1 = some r) :
    Calls Tryz.prog 142 #[.int .u32 a0, .int .i64 a1] w fun e w' => e = .returned (.int .u32 r) ∧ Drawn0 w w' := by
  have H : ((bits_RotateLeft32.f a0 (wrap64 (-a1))).bind fun t147 => (some t147)) = some r := h
  clear h
  replace H := Option.bind_eq_some_iff.mp H
  obtain ⟨t147, A30, H⟩ := H
  replace H : (some t147) = some r := H
  have A3 := Aside0.mk A30
  clear A30
  obtain rfl := Option.some.inj H
  go_enter Tryz.func142, Tryz.ntmps142
  go_wp2_with (first | ((with_reducible refine gate_callee (f := 145) rfl ?_); refine goesL_ (some 8) rfl rfl Tryz.func145 (by kernel_rfl) rfl #[.int .u32 a0, .int .i64 (wrap64 (-a1))] rfl (by (try simp only [List.map_toArray, List.map_cons, List.map_nil]); first | done | rfl | (simp only [List.length_drop, List.length_take]; rfl)) ?_; (with_reducible refine (bits_RotateLeft32.calls a0 (wrap64 (-a1)) t147 _ A3.out).mono ?_); rintro e w' ⟨rfl, ⟨nd, rfl⟩⟩; refine ⟨_, rfl, ?_⟩))
  go_ret
  exact ⟨by first | rfl | (simp; done) | (simp [*]; done), by repeat (first | exact Drawn0.refl _ | apply Drawn0.step)⟩


/-! ### sha256_words_plus: function 144 -/
def sha256_words_plus.f (a0_0 : Int) (a0_1 : Int) (a0_2 : Int) (a0_3 : Int) (a0_4 : Int) (a0_5 : Int) (a0_6 : Int) (a0_7 : Int) (a1_0 : Int) (a1_1 : Int) (a1_2 : Int) (a1_3 : Int) (a1_4 : Int) (a1_5 : Int) (a1_6 : Int) (a1_7 : Int) : Option (Int × Int × Int × Int × Int × Int × Int × Int) := some ((a0_0 + a1_0) % 4294967296, (a0_1 + a1_1) % 4294967296, (a0_2 + a1_2) % 4294967296, (a0_3 + a1_3) % 4294967296, (a0_4 + a1_4) % 4294967296, (a0_5 + a1_5) % 4294967296, (a0_6 + a1_6) % 4294967296, (a0_7 + a1_7) % 4294967296)
set_option maxHeartbeats 8000000 in
set_option maxRecDepth 100000 in
theorem sha256_words_plus.calls (a0_0 : Int) (a0_1 : Int) (a0_2 : Int) (a0_3 : Int) (a0_4 : Int) (a0_5 : Int) (a0_6 : Int) (a0_7 : Int) (a1_0 : Int) (a1_1 : Int) (a1_2 : Int) (a1_3 : Int) (a1_4 : Int) (a1_5 : Int) (a1_6 : Int) (a1_7 : Int) (r1 : Int) (r2 : Int) (r3 : Int) (r4 : Int) (r5 : Int) (r6 : Int) (r7 : Int) (r8 : Int) (w : World) (h : sha256_words_plus.f a0_0 a0_1 a0_2 a0_3 a0_4 a0_5 a0_6 a0_7 a1_0 a1_1 a1_2 a1_3 a1_4 a1_5 a1_6 a1_7 = some (r1, r2, r3, r4, r5, r6, r7, r8)) :
    Calls Tryz.prog 144 #[.agg #[.int .u32 a0_0, .int .u32 a0_1, .int .u32 a0_2, .int .u32 a0_3, .int .u32 a0_4, .int .u32 a0_5, .int .u32 a0_6, .int .u32 a0_7], .agg #[.int .u32 a1_0, .int .u32 a1_1, .int .u32 a1_2, .int .u32 a1_3, .int .u32 a1_4, .int .u32 a1_5, .int .u32 a1_6, .int .u32 a1_7]] w fun e w' => e = .returned (.agg #[.int .u32 r1, .int .u32 r2, .int .u32 r3, .int .u32 r4, .int .u32 r5, .int .u32 r6, .int .u32 r7, .int .u32 r8]) ∧ Below w.heap.size w w' := by
  have hu175 := Tryz.underlying175
  have HB := Aside0.mk (Below.refl w.heap.size w)
  have H : (some ((a0_0 + a1_0) % 4294967296, (a0_1 + a1_1) % 4294967296, (a0_2 + a1_2) % 4294967296, (a0_3 + a1_3) % 4294967296, (a0_4 + a1_4) % 4294967296, (a0_5 + a1_5) % 4294967296, (a0_6 + a1_6) % 4294967296, (a0_7 + a1_7) % 4294967296)) = some (r1, r2, r3, r4, r5, r6, r7, r8) := h
  clear h
  simp only [Option.some.injEq, Prod.mk.injEq] at H
  obtain ⟨rfl, rfl, rfl, rfl, rfl, rfl, rfl, rfl⟩ := H
  go_enter Tryz.func144, Tryz.ntmps144
  go_wp2_with (first | ((with_reducible refine gate_dst (N := 2) rfl ?_); refine box_event ?hg (N := 2) ?hd (cs := #[.int .u32 a0_0, .int .u32 a0_1, .int .u32 a0_2, .int .u32 a0_3, .int .u32 a0_4, .int .u32 a0_5, .int .u32 a0_6, .int .u32 a0_7]) (t := 175) ?hr ?_; (case hd => rfl); (case hg => rfl); (case hr => first | (go_simp; done) | (go_simp; rfl)); intro gb153 hg w3 hbox hb; have n0_ := Aside0.mk (below_step (by repeat (first | (with_reducible first | exact HB.out | apply below_alloc | apply pw_below_drewN | apply below_drew1) | exact HB.out)) hb); have n1_ := Aside0.mk (hbox); have n2_ := Aside0.mk ((by rw [hg]; exact (below_size (by repeat (first | (with_reducible first | exact HB.out | apply below_alloc | apply pw_below_drewN | apply below_drew1) | exact HB.out))) : w.heap.size ≤ gb153)); have n3_ := Aside0.mk ((by rw [hg]; exact (below_size (by repeat (first | (with_reducible first | exact HB.out | apply below_alloc | apply pw_below_drewN | apply below_drew1) | exact HB.out))) : w.heap.size ≤ gb153)); clear HB; have HB := n0_; have BK153 := n1_; have GW153 := n2_; have GE153 := n3_; clear n0_ n1_ n2_ n3_; clear hb hbox hg) | ((with_reducible refine gate_dst (N := 3) rfl ?_); refine box_event ?hg (N := 3) ?hd (cs := #[.int .u32 a1_0, .int .u32 a1_1, .int .u32 a1_2, .int .u32 a1_3, .int .u32 a1_4, .int .u32 a1_5, .int .u32 a1_6, .int .u32 a1_7]) (t := 175) ?hr ?_; (case hd => rfl); (case hg => rfl); (case hr => first | (go_simp; done) | (go_simp; rfl)); intro gb154 hg w4 hbox hb; have n0_ := Aside0.mk (blk_below (g := gb153) (o := .cells #[.int .u32 a0_0, .int .u32 a0_1, .int .u32 a0_2, .int .u32 a0_3, .int .u32 a0_4, .int .u32 a0_5, .int .u32 a0_6, .int .u32 a0_7] 175 (0, 0)) (by (with_reducible repeat (first | refine blk_drewN ?_ _ | refine blk_drew ?_ | refine blk_alloc ?_ _)); exact BK153.out) hb); have n1_ := Aside0.mk (below_step (by repeat (first | (with_reducible first | exact HB.out | apply below_alloc | apply pw_below_drewN | apply below_drew1 | refine below_set ?_ GE153.out) | exact HB.out)) hb); have n2_ := Aside0.mk (hbox); have n3_ := Aside0.mk ((by rw [hg]; exact (below_size (by repeat (first | (with_reducible first | exact HB.out | apply below_alloc | apply pw_below_drewN | apply below_drew1 | refine below_set ?_ GE153.out) | exact HB.out))) : w.heap.size ≤ gb154)); have n4_ := Aside0.mk ((by rw [hg]; exact (below_size (by repeat (first | (with_reducible first | exact HB.out | apply below_alloc | apply pw_below_drewN | apply below_drew1 | refine below_set ?_ GE153.out) | exact HB.out))) : w.heap.size ≤ gb154)); have n5_ := Aside0.mk ((by rw [hg]; exact Nat.ne_of_lt (blk_lt (g := gb153) (o := .cells #[.int .u32 a0_0, .int .u32 a0_1, .int .u32 a0_2, .int .u32 a0_3, .int .u32 a0_4, .int .u32 a0_5, .int .u32 a0_6, .int .u32 a0_7] 175 (0, 0)) (by (with_reducible repeat (first | refine blk_drewN ?_ _ | refine blk_drew ?_ | refine blk_alloc ?_ _)); exact BK153.out)) : gb153 ≠ gb154)); have n6_ := Aside0.mk ((by rw [hg]; exact Nat.ne_of_gt (blk_lt (g := gb153) (o := .cells #[.int .u32 a0_0, .int .u32 a0_1, .int .u32 a0_2, .int .u32 a0_3, .int .u32 a0_4, .int .u32 a0_5, .int .u32 a0_6, .int .u32 a0_7] 175 (0, 0)) (by (with_reducible repeat (first | refine blk_drewN ?_ _ | refine blk_drew ?_ | refine blk_alloc ?_ _)); exact BK153.out)) : gb154 ≠ gb153)); clear BK153; clear HB; have BK153 := n0_; have HB := n1_; have BK154 := n2_; have GW154 := n3_; have GE154 := n4_; have NB153_154 := n5_; have NB154_153 := n6_; clear n0_ n1_ n2_ n3_ n4_ n5_ n6_; clear hb hbox hg) | ((with_reducible refine gate_dst (N := 4) rfl ?_); refine box_event ?hg (N := 4) ?hd (cs := #[.int .u32 0, .int .u32 0, .int .u32 0, .int .u32 0, .int .u32 0, .int .u32 0, .int .u32 0, .int .u32 0]) (t := 175) ?hr ?_; (case hd => rfl); (case hg => rfl); (case hr => first | (go_simp; done) | (go_simp; rfl)); intro gb155 hg w5 hbox hb; have n0_ := Aside0.mk (blk_below (g := gb153) (o := .cells #[.int .u32 a0_0, .int .u32 a0_1, .int .u32 a0_2, .int .u32 a0_3, .int .u32 a0_4, .int .u32 a0_5, .int .u32 a0_6, .int .u32 a0_7] 175 (0, 0)) (by (with_reducible repeat (first | refine blk_drewN ?_ _ | refine blk_drew ?_ | refine blk_alloc ?_ _)); exact BK153.out) hb); have n1_ := Aside0.mk (blk_below (g := gb154) (o := .cells #[.int .u32 a1_0, .int .u32 a1_1, .int .u32 a1_2, .int .u32 a1_3, .int .u32 a1_4, .int .u32 a1_5, .int .u32 a1_6, .int .u32 a1_7] 175 (0, 0)) (by (with_reducible repeat (first | refine blk_drewN ?_ _ | refine blk_drew ?_ | refine blk_alloc ?_ _)); exact BK154.out) hb); have n2_ := Aside0.mk (below_step (by repeat (first | (with_reducible first | exact HB.out | apply below_alloc | apply pw_below_drewN | apply below_drew1 | refine below_set ?_ GE153.out | refine below_set ?_ GE154.out) | exact HB.out)) hb); have n3_ := Aside0.mk (hbox); have n4_ := Aside0.mk ((by rw [hg]; exact (below_size (by repeat (first | (with_reducible first | exact HB.out | apply below_alloc | apply pw_below_drewN | apply below_drew1 | refine below_set ?_ GE153.out | refine below_set ?_ GE154.out) | exact HB.out))) : w.heap.size ≤ gb155)); have n5_ := Aside0.mk ((by rw [hg]; exact (below_size (by repeat (first | (with_reducible first | exact HB.out | apply below_alloc | apply pw_below_drewN | apply below_drew1 | refine below_set ?_ GE153.out | refine below_set ?_ GE154.out) | exact HB.out))) : w.heap.size ≤ gb155)); have n6_ := Aside0.mk ((by rw [hg]; exact Nat.ne_of_lt (blk_lt (g := gb153) (o := .cells #[.int .u32 a0_0, .int .u32 a0_1, .int .u32 a0_2, .int .u32 a0_3, .int .u32 a0_4, .int .u32 a0_5, .int .u32 a0_6, .int .u32 a0_7] 175 (0, 0)) (by (with_reducible repeat (first | refine blk_drewN ?_ _ | refine blk_drew ?_ | refine blk_alloc ?_ _)); exact BK153.out)) : gb153 ≠ gb155)); have n7_ := Aside0.mk ((by rw [hg]; exact Nat.ne_of_gt (blk_lt (g := gb153) (o := .cells #[.int .u32 a0_0, .int .u32 a0_1, .int .u32 a0_2, .int .u32 a0_3, .int .u32 a0_4, .int .u32 a0_5, .int .u32 a0_6, .int .u32 a0_7] 175 (0, 0)) (by (with_reducible repeat (first | refine blk_drewN ?_ _ | refine blk_drew ?_ | refine blk_alloc ?_ _)); exact BK153.out)) : gb155 ≠ gb153)); have n8_ := Aside0.mk ((by rw [hg]; exact Nat.ne_of_lt (blk_lt (g := gb154) (o := .cells #[.int .u32 a1_0, .int .u32 a1_1, .int .u32 a1_2, .int .u32 a1_3, .int .u32 a1_4, .int .u32 a1_5, .int .u32 a1_6, .int .u32 a1_7] 175 (0, 0)) (by (with_reducible repeat (first | refine blk_drewN ?_ _ | refine blk_drew ?_ | refine blk_alloc ?_ _)); exact BK154.out)) : gb154 ≠ gb155)); have n9_ := Aside0.mk ((by rw [hg]; exact Nat.ne_of_gt (blk_lt (g := gb154) (o := .cells #[.int .u32 a1_0, .int .u32 a1_1, .int .u32 a1_2, .int .u32 a1_3, .int .u32 a1_4, .int .u32 a1_5, .int .u32 a1_6, .int .u32 a1_7] 175 (0, 0)) (by (with_reducible repeat (first | refine blk_drewN ?_ _ | refine blk_drew ?_ | refine blk_alloc ?_ _)); exact BK154.out)) : gb155 ≠ gb154)); clear BK153; clear BK154; clear HB; have BK153 := n0_; have BK154 := n1_; have HB := n2_; have BK155 := n3_; have GW155 := n4_; have GE155 := n5_; have NB153_155 := n6_; have NB155_153 := n7_; have NB154_155 := n8_; have NB155_154 := n9_; clear n0_ n1_ n2_ n3_ n4_ n5_ n6_ n7_ n8_ n9_; clear hb hbox hg; have hnb6 := NB153_154.out; have hnc6 := NB154_153.out; have hnb7 := NB153_155.out; have hnc7 := NB155_153.out; have hcz8_0 : w5.cell? ⟨gb153, 0, none⟩ = some (.int .u32 a0_0) := (blk_cell BK153.out 0).trans rfl; have hcz8_1 : w5.cell? ⟨gb153, 1, none⟩ = some (.int .u32 a0_1) := (blk_cell BK153.out 1).trans rfl; have hcz8_2 : w5.cell? ⟨gb153, 2, none⟩ = some (.int .u32 a0_2) := (blk_cell BK153.out 2).trans rfl; have hcz8_3 : w5.cell? ⟨gb153, 3, none⟩ = some (.int .u32 a0_3) := (blk_cell BK153.out 3).trans rfl; have hcz8_4 : w5.cell? ⟨gb153, 4, none⟩ = some (.int .u32 a0_4) := (blk_cell BK153.out 4).trans rfl; have hcz8_5 : w5.cell? ⟨gb153, 5, none⟩ = some (.int .u32 a0_5) := (blk_cell BK153.out 5).trans rfl; have hcz8_6 : w5.cell? ⟨gb153, 6, none⟩ = some (.int .u32 a0_6) := (blk_cell BK153.out 6).trans rfl; have hcz8_7 : w5.cell? ⟨gb153, 7, none⟩ = some (.int .u32 a0_7) := (blk_cell BK153.out 7).trans rfl; have hfz8_0 := blk_frozen BK153.out 0; have hfz8_1 := blk_frozen BK153.out 1; have hfz8_2 := blk_frozen BK153.out 2; have hfz8_3 := blk_frozen BK153.out 3; have hfz8_4 := blk_frozen BK153.out 4; have hfz8_5 := blk_frozen BK153.out 5; have hfz8_6 := blk_frozen BK153.out 6; have hfz8_7 := blk_frozen BK153.out 7; have hnb9 := NB154_155.out; have hnc9 := NB155_154.out; have hcz10_0 : w5.cell? ⟨gb154, 0, none⟩ = some (.int .u32 a1_0) := (blk_cell BK154.out 0).trans rfl; have hcz10_1 : w5.cell? ⟨gb154, 1, none⟩ = some (.int .u32 a1_1) := (blk_cell BK154.out 1).trans rfl; have hcz10_2 : w5.cell? ⟨gb154, 2, none⟩ = some (.int .u32 a1_2) := (blk_cell BK154.out 2).trans rfl; have hcz10_3 : w5.cell? ⟨gb154, 3, none⟩ = some (.int .u32 a1_3) := (blk_cell BK154.out 3).trans rfl; have hcz10_4 : w5.cell? ⟨gb154, 4, none⟩ = some (.int .u32 a1_4) := (blk_cell BK154.out 4).trans rfl; have hcz10_5 : w5.cell? ⟨gb154, 5, none⟩ = some (.int .u32 a1_5) := (blk_cell BK154.out 5).trans rfl; have hcz10_6 : w5.cell? ⟨gb154, 6, none⟩ = some (.int .u32 a1_6) := (blk_cell BK154.out 6).trans rfl; have hcz10_7 : w5.cell? ⟨gb154, 7, none⟩ = some (.int .u32 a1_7) := (blk_cell BK154.out 7).trans rfl; have hfz10_0 := blk_frozen BK154.out 0; have hfz10_1 := blk_frozen BK154.out 1; have hfz10_2 := blk_frozen BK154.out 2; have hfz10_3 := blk_frozen BK154.out 3; have hfz10_4 := blk_frozen BK154.out 4; have hfz10_5 := blk_frozen BK154.out 5; have hfz10_6 := blk_frozen BK154.out 6; have hfz10_7 := blk_frozen BK154.out 7; have hcz11_0 : w5.cell? ⟨gb155, 0, none⟩ = some (.int .u32 0) := (blk_cell BK155.out 0).trans rfl; have hcz11_1 : w5.cell? ⟨gb155, 1, none⟩ = some (.int .u32 0) := (blk_cell BK155.out 1).trans rfl; have hcz11_2 : w5.cell? ⟨gb155, 2, none⟩ = some (.int .u32 0) := (blk_cell BK155.out 2).trans rfl; have hcz11_3 : w5.cell? ⟨gb155, 3, none⟩ = some (.int .u32 0) := (blk_cell BK155.out 3).trans rfl; have hcz11_4 : w5.cell? ⟨gb155, 4, none⟩ = some (.int .u32 0) := (blk_cell BK155.out 4).trans rfl; have hcz11_5 : w5.cell? ⟨gb155, 5, none⟩ = some (.int .u32 0) := (blk_cell BK155.out 5).trans rfl; have hcz11_6 : w5.cell? ⟨gb155, 6, none⟩ = some (.int .u32 0) := (blk_cell BK155.out 6).trans rfl; have hcz11_7 : w5.cell? ⟨gb155, 7, none⟩ = some (.int .u32 0) := (blk_cell BK155.out 7).trans rfl; have hfz11_0 := blk_frozen BK155.out 0; have hfz11_1 := blk_frozen BK155.out 1; have hfz11_2 := blk_frozen BK155.out 2; have hfz11_3 := blk_frozen BK155.out 3; have hfz11_4 := blk_frozen BK155.out 4; have hfz11_5 := blk_frozen BK155.out 5; have hfz11_6 := blk_frozen BK155.out 6; have hfz11_7 := blk_frozen BK155.out 7))
  refine bodyPost_ret (results_cell_row rfl _ _ gb155 175 #[.int .u32 ((a0_0 + a1_0) % 4294967296), .int .u32 ((a0_1 + a1_1) % 4294967296), .int .u32 ((a0_2 + a1_2) % 4294967296), .int .u32 ((a0_3 + a1_3) % 4294967296), .int .u32 ((a0_4 + a1_4) % 4294967296), .int .u32 ((a0_5 + a1_5) % 4294967296), .int .u32 ((a0_6 + a1_6) % 4294967296), .int .u32 ((a0_7 + a1_7) % 4294967296)] (0, 0) _ rfl (by (with_reducible repeat (first | refine blk_drewN ?_ _ | refine blk_drew ?_ | refine blk_alloc ?_ _)); refine blk_put (cs := #[.int .u32 ((a0_0 + a1_0) % 4294967296), .int .u32 ((a0_1 + a1_1) % 4294967296), .int .u32 ((a0_2 + a1_2) % 4294967296), .int .u32 ((a0_3 + a1_3) % 4294967296), .int .u32 ((a0_4 + a1_4) % 4294967296), .int .u32 ((a0_5 + a1_5) % 4294967296), .int .u32 ((a0_6 + a1_6) % 4294967296), .int .u32 0]) ?_ 7 _ rfl; (with_reducible repeat (first | refine blk_drewN ?_ _ | refine blk_drew ?_ | refine blk_alloc ?_ _)); refine blk_put (cs := #[.int .u32 ((a0_0 + a1_0) % 4294967296), .int .u32 ((a0_1 + a1_1) % 4294967296), .int .u32 ((a0_2 + a1_2) % 4294967296), .int .u32 ((a0_3 + a1_3) % 4294967296), .int .u32 ((a0_4 + a1_4) % 4294967296), .int .u32 ((a0_5 + a1_5) % 4294967296), .int .u32 0, .int .u32 0]) ?_ 6 _ rfl; (with_reducible repeat (first | refine blk_drewN ?_ _ | refine blk_drew ?_ | refine blk_alloc ?_ _)); refine blk_put (cs := #[.int .u32 ((a0_0 + a1_0) % 4294967296), .int .u32 ((a0_1 + a1_1) % 4294967296), .int .u32 ((a0_2 + a1_2) % 4294967296), .int .u32 ((a0_3 + a1_3) % 4294967296), .int .u32 ((a0_4 + a1_4) % 4294967296), .int .u32 0, .int .u32 0, .int .u32 0]) ?_ 5 _ rfl; (with_reducible repeat (first | refine blk_drewN ?_ _ | refine blk_drew ?_ | refine blk_alloc ?_ _)); refine blk_put (cs := #[.int .u32 ((a0_0 + a1_0) % 4294967296), .int .u32 ((a0_1 + a1_1) % 4294967296), .int .u32 ((a0_2 + a1_2) % 4294967296), .int .u32 ((a0_3 + a1_3) % 4294967296), .int .u32 0, .int .u32 0, .int .u32 0, .int .u32 0]) ?_ 4 _ rfl; (with_reducible repeat (first | refine blk_drewN ?_ _ | refine blk_drew ?_ | refine blk_alloc ?_ _)); refine blk_put (cs := #[.int .u32 ((a0_0 + a1_0) % 4294967296), .int .u32 ((a0_1 + a1_1) % 4294967296), .int .u32 ((a0_2 + a1_2) % 4294967296), .int .u32 0, .int .u32 0, .int .u32 0, .int .u32 0, .int .u32 0]) ?_ 3 _ rfl; (with_reducible repeat (first | refine blk_drewN ?_ _ | refine blk_drew ?_ | refine blk_alloc ?_ _)); refine blk_put (cs := #[.int .u32 ((a0_0 + a1_0) % 4294967296), .int .u32 ((a0_1 + a1_1) % 4294967296), .int .u32 0, .int .u32 0, .int .u32 0, .int .u32 0, .int .u32 0, .int .u32 0]) ?_ 2 _ rfl; (with_reducible repeat (first | refine blk_drewN ?_ _ | refine blk_drew ?_ | refine blk_alloc ?_ _)); refine blk_put (cs := #[.int .u32 ((a0_0 + a1_0) % 4294967296), .int .u32 0, .int .u32 0, .int .u32 0, .int .u32 0, .int .u32 0, .int .u32 0, .int .u32 0]) ?_ 1 _ rfl; (with_reducible repeat (first | refine blk_drewN ?_ _ | refine blk_drew ?_ | refine blk_alloc ?_ _)); refine blk_put (cs := #[.int .u32 0, .int .u32 0, .int .u32 0, .int .u32 0, .int .u32 0, .int .u32 0, .int .u32 0, .int .u32 0]) ?_ 0 _ rfl; (with_reducible repeat (first | refine blk_drewN ?_ _ | refine blk_drew ?_ | refine blk_alloc ?_ _)); exact BK155.out) Tryz.underlying175 rfl (by kernel_rfl)) rfl ?_
  exact ⟨by first | rfl | (simp [errW_none, errW_some] <;> rfl) | (simp [*, errW_none, errW_some] <;> rfl), by repeat (first | (with_reducible first | exact HB.out | apply below_alloc | apply pw_below_drewN | apply below_drew1 | refine below_set ?_ GE153.out | refine below_set ?_ GE154.out | refine below_set ?_ GE155.out) | exact HB.out)⟩


















/-! ### bulletinref05_rotate: function 65 -/
def bulletinref05_rotate.f (a0 : Int) (a1 : Int) : Option (Int) := if 0 ≤ a1 then (if 0 ≤ (wrap64 (32 - a1)) then (some (Go.bits .or .u32 (shr .u32 a0 a1) (shl .u32 a0 (wrap64 (32 - a1))))) else (none)) else (none)
set_option maxHeartbeats 8000000 in
set_option maxRecDepth 100000 in
theorem bulletinref05_rotate.calls (a0 : Int) (a1 : Int) (r : Int) (w : World) (h : bulletinref05_rotate.f a0 a1 = some r) :
    Calls Tryz.prog 65 #[.int .u32 a0, .int .i64 a1] w fun e w' => e = .returned (.int .u32 r) ∧ Drawn0 w w' := by
  have H : (if 0 ≤ a1 then (if 0 ≤ (wrap64 (32 - a1)) then (some (Go.bits .or .u32 (shr .u32 a0 a1) (shl .u32 a0 (wrap64 (32 - a1))))) else (none)) else (none)) = some r := h
  clear h
  by_cases c3 : 0 ≤ a1
  · rw [if_pos c3] at H
    have c3b0 := eq_true c3
    have c3b1 : decide (0 ≤ a1) = true := decide_eq_true c3
    clear c3
    obtain ⟨ji4, hji4⟩ : ∃ j_ : Int, (shr .u32 a0 a1) = j_ := ⟨_, rfl⟩
    replace H : (if 0 ≤ (wrap64 (32 - a1)) then (some (Go.bits .or .u32 (ji4) (shl .u32 a0 (wrap64 (32 - a1))))) else (none)) = some r := by first | (rw [hji4] at H; exact H) | (simp only [hji4] at H ⊢; exact H)
    have hji4_ : (a0 / 2 ^ min a1.toNat 32) = ji4 := hji4
    have hji4z : a1 ≤ 32 → (a0 / 2 ^ a1.toNat) = ji4 := shr_small hji4
    obtain ⟨ji5, hji5⟩ : ∃ j_ : Int, (wrap64 (32 - a1)) = j_ := ⟨_, rfl⟩
    replace H : (if 0 ≤ (ji5) then (some (Go.bits .or .u32 (ji4) (shl .u32 a0 (ji5)))) else (none)) = some r := by first | (rw [hji5] at H; exact H) | (simp only [hji5] at H ⊢; exact H)
    have hji5w : (IntKind.i64.wrap (32 - a1)) = ji5 := (i64_w _).trans hji5
    by_cases c6 : 0 ≤ (ji5)
    · rw [if_pos c6] at H
      have c6b0 := eq_true c6
      have c6b1 : decide (0 ≤ (ji5)) = true := decide_eq_true c6
      clear c6
      obtain ⟨ji7, hji7⟩ : ∃ j_ : Int, (shl .u32 a0 (ji5)) = j_ := ⟨_, rfl⟩
      replace H : (some (Go.bits .or .u32 (ji4) (ji7))) = some r := by first | (rw [hji7] at H; exact H) | (simp only [hji7] at H ⊢; exact H)
      have hji7_ : (IntKind.u32.wrap (a0 * 2 ^ min (ji5).toNat 32)) = ji7 := hji7
      have hji7z : (ji5) ≤ 32 → (IntKind.u32.wrap (a0 * 2 ^ (ji5).toNat)) = ji7 := shl_small hji7
      obtain rfl := Option.some.inj H
      go_enter Tryz.func65, Tryz.ntmps65
      go_wp2
      repeat (go_quiet (fail); try go_wp2)
      go_ret
      exact ⟨by first | rfl | (simp; done) | (simp only [← hji4, ← hji5, ← hji7] <;> (first | rfl | simp)) | (simp [*]; done), by repeat (first | exact Drawn0.refl _ | apply Drawn0.step)⟩
    · rw [if_neg c6] at H
      exact absurd H (by simp)
  · rw [if_neg c3] at H
    exact absurd H (by simp)





/-! ### bulletinref05_padded: function 63 -/
mutual
def bulletinref05_padded.l0 : Nat → List Int → List Int → Option (List Int)
  | 0, _, _ => none
  | k + 1, x0, x3 => if ((x3.length : Int) % 64) = 56 then (bulletinref05_padded.l1 k x3 (IntKind.u64.wrap ((IntKind.u64.wrap ((x0.length : Int))) * 8)) 7) else (if x3.length < 140737488355328 then (bulletinref05_padded.l0 k x0 (x3 ++ [0])) else (none))
def bulletinref05_padded.l1 : Nat → List Int → Int → Int → Option (List Int)
  | 0, _, _, _ => none
  | k + 1, x3, x4, x5 => if x5 ≥ 0 then (if 0 ≤ (wrap64 (8 * x5)) then (if x3.length < 140737488355328 then (bulletinref05_padded.l1 k (x3 ++ [(shr .u64 x4 (wrap64 (8 * x5))) % 256]) x4 (wrap64 (x5 - 1))) else (none)) else (none)) else (some x3)
end
def bulletinref05_padded.f (k : Nat) (l0 : List Int) : Option (List Int) := (some (([] : List Int) : List Int)).bind fun y185 => (if y185.length + l0.length < 140737488355328 then ((some (y185 ++ l0 : List Int)).bind fun y188 => (if y188.length < 140737488355328 then (bulletinref05_padded.l0 k l0 (y188 ++ [128])) else (none))) else (none))
set_option maxHeartbeats 8000000 in
set_option maxRecDepth 100000 in
theorem bulletinref05_padded.calls (k : Nat) (A0 : Option Addr) (c0 : Nat) (l0 : List Int) (r : List Int) (w : World) (hr0 : Kd.C (Kd.int .u8) w A0 l0.length l0) (hc0 : l0.length ≤ c0) (h : bulletinref05_padded.f k l0 = some r) :
    Calls Tryz.prog 63 #[.slice A0 l0.length c0] w fun e w' => ∃ v0_ : Value, e = .returned (v0_) ∧ Kd.R (Kd.int .u8) 5 w' w.heap.size (fun _ => True) v0_ r ∧ Below w.heap.size w w' := by
  have HR0 := Aside0.mk hr0
  have HC0 := Aside0.mk hc0
  clear hr0 hc0
  have HB := Aside0.mk (Below.refl w.heap.size w)
  have H : ((some (([] : List Int) : List Int)).bind fun y185 => (if y185.length + l0.length < 140737488355328 then ((some (y185 ++ l0 : List Int)).bind fun y188 => (if y188.length < 140737488355328 then (bulletinref05_padded.l0 k l0 (y188 ++ [128])) else (none))) else (none))) = some r := h
  clear h
  obtain ⟨y185, hy185⟩ : ∃ y_ : List Int, y_ = (([] : List Int)) := ⟨_, rfl⟩
  replace H : (if y185.length + l0.length < 140737488355328 then ((some (y185 ++ l0 : List Int)).bind fun y188 => (if y188.length < 140737488355328 then (bulletinref05_padded.l0 k l0 (y188 ++ [128])) else (none))) else (none)) = some r := by first | (rw [hy185]; with_reducible exact H) | (have H2_ := (Option.bind_some _ _).symm.trans H; rw [hy185]; with_reducible exact H2_) | (have H2_ := (Option.bind_some _ _).symm.trans H; with_reducible exact H2_) | with_reducible exact H | (rw [hy185]; exact H) | exact H
  have Ny185 := Aside0.mk hy185
  clear hy185
  by_cases c2 : y185.length + l0.length < 140737488355328
  · rw [if_pos c2] at H
    have LMc2 := Aside0.mk c2
    clear c2
    obtain ⟨y188, hy188⟩ : ∃ y_ : List Int, y_ = (y185 ++ l0) := ⟨_, rfl⟩
    replace H : (if y188.length < 140737488355328 then (bulletinref05_padded.l0 k l0 (y188 ++ [128])) else (none)) = some r := by first | (rw [hy188]; with_reducible exact H) | (have H2_ := (Option.bind_some _ _).symm.trans H; rw [hy188]; with_reducible exact H2_) | (have H2_ := (Option.bind_some _ _).symm.trans H; with_reducible exact H2_) | with_reducible exact H | (rw [hy188]; exact H) | exact H
    have Ny188 := Aside0.mk hy188
    clear hy188
    by_cases c3 : y188.length < 140737488355328
    · rw [if_pos c3] at H
      have LMc3 := Aside0.mk c3
      clear c3
      obtain ⟨y191, hy191⟩ : ∃ y_ : List Int, y_ = (y188 ++ [128]) := ⟨_, rfl⟩
      replace H : (bulletinref05_padded.l0 k l0 y191) = some r := by first | (rw [hy191]; with_reducible exact H) | (have H2_ := (Option.bind_some _ _).symm.trans H; rw [hy191]; with_reducible exact H2_) | (have H2_ := (Option.bind_some _ _).symm.trans H; with_reducible exact H2_) | with_reducible exact H | (rw [hy191]; exact H) | exact H
      have Ny191 := Aside0.mk hy191
      clear hy191
      have H' := Aside0.mk H
      clear H
      go_enter Tryz.func63, Tryz.ntmps63
      go_wp2_with (first | ((with_reducible refine gate_dst (N := 6) rfl ?_); refine Kd.R_lit (Kd.int .u8) _ 5 ?hg (N := 6) ?hd (xs := ([] : List Int)) (inner := []) (ok := fun _ => True) (okp := fun _ => True) ?hr ?hp (fun _ hk => hk) trivial (Below.refl _ _) (Nat.le_refl _) (by simp) ?_; (case hd => rfl); (case hg => rfl); (case hr => first | (go_simp; done) | (go_simp; rfl)); (case hp => exact (Reps.none _ _)); intro v186 w4 ho5 hb hg_ hnew_; clear hg_ hnew_; (first | rw [← Ny185.out] at ho5 | (simp only [Int.reduceToNat] at ho5; rw [← Ny185.out] at ho5)); have n0_ := Aside0.mk (Kd.R_lower ho5 (below_size (by repeat (first | (with_reducible first | exact HB.out | apply below_alloc | apply pw_below_drewN | apply below_drew1) | exact HB.out)))); have n1_ := Aside0.mk (below_step (by repeat (first | (with_reducible first | exact HB.out | apply below_alloc | apply pw_below_drewN | apply below_drew1) | exact HB.out)) hb); clear HB; have HO187 := n0_; have HB := n1_; clear n0_ n1_; clear hb ho5) | ((with_reducible refine gate_builtin (b := .append) (xs := #[.tmp 6, .tmp 7]) rfl ?_); at_builtin; refine Kd.R_append_rows (Kd.int .u8) (w0 := w) w.heap.size rfl (.tmp 6) (.tmp 7) 26 5 (.int .u8 0) 1 rfl Tryz.underlying26 info5 rfl (by decide) (by omega) v186 y185 l0 _ _ _ (fun _ => True) (fun _ => False) rfl rfl ?aO ?aR (fun _ _ h => h) (fun _ h => h.elim) ?aF ?aB ?aS ?aL ?_; (case aR => repeat (first | exact (Kd.C_below HR0.out HB.out) | (with_reducible refine Kd.C_alloc ?_ _) | (with_reducible refine Kd.C_drewN ?_ _) | (with_reducible refine Kd.C_drew ?_))); (case aB => exact (by repeat (first | (with_reducible first | exact HB.out | apply below_alloc | apply pw_below_drewN | apply below_drew1) | exact HB.out))); (case aF => exact (fun _ _ => trivial)); (case aO => exact (by (with_reducible repeat (first | apply Kd.R_alloc | apply Kd.R_drewN | apply Kd.R_drew)); exact HO187.out)); (case aS => exact (below_size (by repeat (first | (with_reducible first | exact HB.out | apply below_alloc | apply pw_below_drewN | apply below_drew1) | exact HB.out)))); (case aL => have := LMc2.out; omega); intro v189 w6 ho hb hg hat; rw [← Ny188.out] at ho; have n0_ := Aside0.mk (hb); have n1_ := Aside0.mk (ho); clear HB; clear HO187; have HB := n0_; have HO190 := n1_; clear n0_ n1_; clear ho hb hg hat) | ((with_reducible refine gate_builtin (b := .append) (xs := #[.tmp 8, .tmp 9]) rfl ?_); at_builtin; refine Kd.R_append (Kd.int .u8) (w0 := w) w.heap.size rfl (.tmp 8) (.tmp 9) 26 5 (.int .u8 0) 1 rfl Tryz.underlying26 info5 rfl (by decide) (by omega) v189 y188 128 [.int .u8 128] (fun _ => True) (fun _ => False) rfl rfl ?aP (fun _ hk => hk.elim) ?aF ?aO ?aB ?aS ?aL ?_; (case aP => exact rfl); (case aB => exact (by repeat (first | (with_reducible first | exact HB.out | apply below_alloc | apply pw_below_drewN | apply below_drew1) | exact HB.out))); (case aF => exact (fun _ _ => trivial)); (case aO => exact (by (with_reducible repeat (first | apply Kd.R_alloc | apply Kd.R_drewN | apply Kd.R_drew)); exact HO190.out)); (case aS => exact (below_size (by repeat (first | (with_reducible first | exact HB.out | apply below_alloc | apply pw_below_drewN | apply below_drew1) | exact HB.out)))); (case aL => have := LMc3.out; omega); intro v192 w7 ho hb hg hat; rw [← Ny191.out] at ho; have n0_ := Aside0.mk (hb); have n1_ := Aside0.mk (ho); clear HB; clear HO190; have HB := n0_; have HO193 := n1_; clear n0_ n1_; clear ho hb hg hat))
      go_loopg [3] k (fun kq v3 w' => ∃ (x3_1 : List Int), Aside0 (bulletinref05_padded.l0 kq l0 x3_1 = some r) ∧ Aside0 (kq ≤ k) ∧ Aside0 (Kd.R (Kd.int .u8) 5 w' w.heap.size (fun _ => True) v3 x3_1) ∧ Aside0 (Below w.heap.size w w'))
      case atStart => exact ⟨(y191), H', ⟨Nat.le_refl _⟩, ⟨by (with_reducible repeat (first | apply Kd.R_alloc | apply Kd.R_drewN | apply Kd.R_drew)); exact HO193.out⟩, ⟨by repeat (first | (with_reducible first | exact HB.out | apply below_alloc | apply pw_below_drewN | apply below_drew1) | exact HB.out)⟩⟩
      case round =>
        clear H'
        try clear c2
        try clear p2
        try clear c3
        try clear c6
        obtain ⟨x3_1, HA, HK1, HO_3, HB⟩ := hrel
        cases gk with
        | zero => exact absurd HA.out (by simp [bulletinref05_padded.l0])
        | succ k1 =>
          have H := HA.out
          clear HA
          simp only [bulletinref05_padded.l0] at H
          by_cases c8 : ((x3_1.length : Int) % 64) = 56
          · rw [if_pos c8] at H
            have c8b0 : (((x3_1.length : Int) % 64) == 56) = true := beq_iff_eq.mpr c8
            have c8b1 : (((x3_1.length : Int) % 64) != 56) = false := bne_eq_false_iff_eq.mpr c8
            clear c8
            have H' := Aside0.mk H
            clear H
            obtain ⟨Ao9, co9, eo9⟩ := Kd.R_slice HO_3.out
            subst eo9
            go_wp2
            go_loopg [3, 5] k1 (fun kq v3 v5 w' => ∃ (x3_2 : List Int) (x5_2 : Int), v5 = .int .i64 x5_2 ∧ Aside0 (bulletinref05_padded.l1 kq x3_2 (IntKind.u64.wrap ((IntKind.u64.wrap ((l0.length : Int))) * 8)) x5_2 = some r) ∧ Aside0 (kq ≤ k1) ∧ Aside0 (Kd.R (Kd.int .u8) 5 w' w.heap.size (fun _ => True) v3 x3_2) ∧ Aside0 (Below w.heap.size w w'))
            case atStart => exact ⟨(x3_1), (7), (by first | rfl | (simp; done) | (simp [*]; done)), H', ⟨Nat.le_refl _⟩, ⟨by (with_reducible repeat (first | apply Kd.R_alloc | apply Kd.R_drewN | apply Kd.R_drew)); exact HO_3.out⟩, ⟨by repeat (first | (with_reducible first | exact HB.out | apply below_alloc | apply pw_below_drewN | apply below_drew1) | exact HB.out)⟩⟩
            case round =>
              clear H'
              try clear c2
              try clear p2
              try clear c3
              try clear c6
              try clear c8
              try clear c8b0
              try clear c8b1
              try clear p2
              obtain ⟨x3_2, x5_2, rfl, HA, HK2, HO_3, HB⟩ := hrel
              cases gk with
              | zero => exact absurd HA.out (by simp [bulletinref05_padded.l1])
              | succ k2 =>
                have H := HA.out
                clear HA
                simp only [bulletinref05_padded.l1] at H
                by_cases c10 : x5_2 ≥ 0
                · rw [if_pos c10] at H
                  have c10b0 : decide (0 ≤ x5_2) = true := decide_eq_true c10
                  clear c10
                  obtain ⟨ji11, hji11⟩ : ∃ j_ : Int, (wrap64 (8 * x5_2)) = j_ := ⟨_, rfl⟩
                  replace H : (if 0 ≤ (ji11) then (if x3_2.length < 140737488355328 then (bulletinref05_padded.l1 k2 (x3_2 ++ [(shr .u64 (IntKind.u64.wrap ((IntKind.u64.wrap ((l0.length : Int))) * 8)) (ji11)) % 256]) (IntKind.u64.wrap ((IntKind.u64.wrap ((l0.length : Int))) * 8)) (wrap64 (x5_2 - 1))) else (none)) else (none)) = some r := by first | (rw [hji11] at H; exact H) | (simp only [hji11] at H ⊢; exact H)
                  have hji11w : (IntKind.i64.wrap (8 * x5_2)) = ji11 := (i64_w _).trans hji11
                  by_cases c12 : 0 ≤ (ji11)
                  · rw [if_pos c12] at H
                    have c12b0 := eq_true c12
                    have c12b1 : decide (0 ≤ (ji11)) = true := decide_eq_true c12
                    clear c12
                    obtain ⟨ji13, hji13⟩ : ∃ j_ : Int, (shr .u64 (IntKind.u64.wrap ((IntKind.u64.wrap ((l0.length : Int))) * 8)) (ji11)) = j_ := ⟨_, rfl⟩
                    replace H : (if x3_2.length < 140737488355328 then (bulletinref05_padded.l1 k2 (x3_2 ++ [(ji13) % 256]) (IntKind.u64.wrap ((IntKind.u64.wrap ((l0.length : Int))) * 8)) (wrap64 (x5_2 - 1))) else (none)) = some r := by first | (rw [hji13] at H; exact H) | (simp only [hji13] at H ⊢; exact H)
                    have hji13_ : ((IntKind.u64.wrap ((IntKind.u64.wrap ((l0.length : Int))) * 8)) / 2 ^ min (ji11).toNat 64) = ji13 := hji13
                    have hji13z : (ji11) ≤ 64 → ((IntKind.u64.wrap ((IntKind.u64.wrap ((l0.length : Int))) * 8)) / 2 ^ (ji11).toNat) = ji13 := shr_small hji13
                    by_cases c14 : x3_2.length < 140737488355328
                    · rw [if_pos c14] at H
                      have LMc14 := Aside0.mk c14
                      clear c14
                      obtain ⟨y197, hy197⟩ : ∃ y_ : List Int, y_ = (x3_2 ++ [(ji13) % 256]) := ⟨_, rfl⟩
                      replace H : (bulletinref05_padded.l1 k2 y197 (IntKind.u64.wrap ((IntKind.u64.wrap ((l0.length : Int))) * 8)) (wrap64 (x5_2 - 1))) = some r := by first | (rw [hy197]; with_reducible exact H) | (have H2_ := (Option.bind_some _ _).symm.trans H; rw [hy197]; with_reducible exact H2_) | (have H2_ := (Option.bind_some _ _).symm.trans H; with_reducible exact H2_) | with_reducible exact H | (rw [hy197]; exact H) | exact H
                      have Ny197 := Aside0.mk hy197
                      clear hy197
                      have H' := Aside0.mk H
                      clear H
                      go_wp2_with (first | ((with_reducible refine gate_builtin (b := .append) (xs := #[.tmp 26, .tmp 32]) rfl ?_); at_builtin; refine Kd.R_append (Kd.int .u8) (w0 := w) w.heap.size rfl (.tmp 26) (.tmp 32) 26 5 (.int .u8 0) 1 rfl Tryz.underlying26 info5 rfl (by decide) (by omega) u3 x3_2 ((ji13) % 256) [.int .u8 ((ji13) % 256)] (fun _ => True) (fun _ => False) rfl rfl ?aP (fun _ hk => hk.elim) ?aF ?aO ?aB ?aS ?aL ?_; (case aP => exact rfl); (case aB => exact (by repeat (first | (with_reducible first | exact HB.out | apply below_alloc | apply pw_below_drewN | apply below_drew1) | exact HB.out))); (case aF => exact (fun _ _ => trivial)); (case aO => exact (by (with_reducible repeat (first | apply Kd.R_alloc | apply Kd.R_drewN | apply Kd.R_drew)); exact HO_3.out)); (case aS => exact (below_size (by repeat (first | (with_reducible first | exact HB.out | apply below_alloc | apply pw_below_drewN | apply below_drew1) | exact HB.out)))); (case aL => have := LMc14.out; omega); intro v198 w15 ho hb hg hat; rw [← Ny197.out] at ho; have n0_ := Aside0.mk (hb); have n1_ := Aside0.mk (ho); clear HB; clear HO_3; have HB := n0_; have HO199 := n1_; clear n0_ n1_; clear ho hb hg hat))
                      go_roundg k2
                      case measure => have := HK1.out; have := HK2.out; omega
                      case rel => exact ⟨(y197), (wrap64 (x5_2 - 1)), (by first | rfl | (simp; done) | (simp [*]; done)), H', ⟨by have := HK1.out; have := HK2.out; omega⟩, ⟨by (with_reducible repeat (first | apply Kd.R_alloc | apply Kd.R_drewN | apply Kd.R_drew)); exact HO199.out⟩, ⟨by repeat (first | (with_reducible first | exact HB.out | apply below_alloc | apply pw_below_drewN | apply below_drew1) | exact HB.out)⟩⟩
                    · rw [if_neg c14] at H
                      exact absurd H (by simp)
                  · rw [if_neg c12] at H
                    exact absurd H (by simp)
                · rw [if_neg c10] at H
                  have c10b0 : decide (0 ≤ x5_2) = false := decide_eq_false c10
                  clear c10
                  obtain rfl := Option.some.inj H
                  go_wp2
                  go_ret
                  exact ⟨_, by first | rfl | (simp [errW_none, errW_some] <;> rfl) | (simp [*, errW_none, errW_some] <;> rfl), by (with_reducible repeat (first | apply Kd.R_alloc | apply Kd.R_drewN | apply Kd.R_drew)); exact HO_3.out, by repeat (first | (with_reducible first | exact HB.out | apply below_alloc | apply pw_below_drewN | apply below_drew1) | exact HB.out)⟩
          · rw [if_neg c8] at H
            have c8b0 : (((x3_1.length : Int) % 64) == 56) = false := beq_eq_false_iff_ne.mpr c8
            have c8b1 : (((x3_1.length : Int) % 64) != 56) = true := bne_iff_ne.mpr c8
            by_cases c16 : x3_1.length < 140737488355328
            · rw [if_pos c16] at H
              have LMc16 := Aside0.mk c16
              clear c16
              obtain ⟨y194, hy194⟩ : ∃ y_ : List Int, y_ = (x3_1 ++ [0]) := ⟨_, rfl⟩
              replace H : (bulletinref05_padded.l0 k1 l0 y194) = some r := by first | (rw [hy194]; with_reducible exact H) | (have H2_ := (Option.bind_some _ _).symm.trans H; rw [hy194]; with_reducible exact H2_) | (have H2_ := (Option.bind_some _ _).symm.trans H; with_reducible exact H2_) | with_reducible exact H | (rw [hy194]; exact H) | exact H
              have Ny194 := Aside0.mk hy194
              clear hy194
              have H' := Aside0.mk H
              clear H
              obtain ⟨Ao17, co17, eo17⟩ := Kd.R_slice HO_3.out
              subst eo17
              go_wp2_with (first | ((with_reducible refine gate_builtin (b := .append) (xs := #[.tmp 15, .tmp 16]) rfl ?_); at_builtin; refine Kd.R_append (Kd.int .u8) (w0 := w) w.heap.size rfl (.tmp 15) (.tmp 16) 26 5 (.int .u8 0) 1 rfl Tryz.underlying26 info5 rfl (by decide) (by omega) (.slice Ao17 x3_1.length co17) x3_1 0 [.int .u8 0] (fun _ => True) (fun _ => False) rfl rfl ?aP (fun _ hk => hk.elim) ?aF ?aO ?aB ?aS ?aL ?_; (case aP => exact rfl); (case aB => exact (by repeat (first | (with_reducible first | exact HB.out | apply below_alloc | apply pw_below_drewN | apply below_drew1) | exact HB.out))); (case aF => exact (fun _ _ => trivial)); (case aO => exact (by (with_reducible repeat (first | apply Kd.R_alloc | apply Kd.R_drewN | apply Kd.R_drew)); exact HO_3.out)); (case aS => exact (below_size (by repeat (first | (with_reducible first | exact HB.out | apply below_alloc | apply pw_below_drewN | apply below_drew1) | exact HB.out)))); (case aL => have := LMc16.out; omega); intro v195 w18 ho hb hg hat; rw [← Ny194.out] at ho; have n0_ := Aside0.mk (hb); have n1_ := Aside0.mk (ho); clear HB; clear HO_3; have HB := n0_; have HO196 := n1_; clear n0_ n1_; clear ho hb hg hat))
              go_roundg k1
              case measure => have := HK1.out; omega
              case rel => exact ⟨(y194), H', ⟨by have := HK1.out; omega⟩, ⟨by (with_reducible repeat (first | apply Kd.R_alloc | apply Kd.R_drewN | apply Kd.R_drew)); exact HO196.out⟩, ⟨by repeat (first | (with_reducible first | exact HB.out | apply below_alloc | apply pw_below_drewN | apply below_drew1) | exact HB.out)⟩⟩
            · rw [if_neg c16] at H
              exact absurd H (by simp)
    · rw [if_neg c3] at H
      exact absurd H (by simp)
  · rw [if_neg c2] at H
    exact absurd H (by simp)

/-! ### batch_limit: function 51 -/
/-! ### bulletinlaw35_named: function 25 -/
def bulletinlaw35_named.l0 : Nat → ByteArray → Int → Option (Bool)
  | 0, _, _ => none
  | k + 1, x0, x3 => if (wrap64 (x3 + 7)) ≤ (x0.size : Int) then (if 0 ≤ x3 then (if x3 ≤ (wrap64 (x3 + 7)) then (if (x0.extract (x3 : Int).toNat ((wrap64 (x3 + 7)) : Int).toNat).toList = ([97, 114, 116, 105, 99, 108, 101] : List UInt8) then (some true) else (bulletinlaw35_named.l0 k x0 (wrap64 (x3 + 1)))) else (none)) else (none)) else (some false)
def bulletinlaw35_named.f (k : Nat) (a0 : ByteArray) : Option (Bool) := bulletinlaw35_named.l0 k a0 0
set_option maxHeartbeats 8000000 in
set_option maxRecDepth 100000 in
theorem bulletinlaw35_named.calls (k : Nat) (a0 : ByteArray) (r : Bool) (w : World) (h : bulletinlaw35_named.f k a0 = some r) :
    Calls Tryz.prog 25 #[.string a0] w fun e w' => e = .returned (.bool r) ∧ Drawn0 w w' := by
  have H : (bulletinlaw35_named.l0 k a0 0) = some r := h
  clear h
  have H' := Aside0.mk H
  clear H
  go_enter Tryz.func25, Tryz.ntmps25
  go_wp2
  go_loopg [3] k (fun kq v3 w' => ∃ (x3_1 : Int), v3 = .int .i64 x3_1 ∧ Aside0 (bulletinlaw35_named.l0 kq a0 x3_1 = some r) ∧ Aside0 (kq ≤ k) ∧ Drawn0 w w')
  case atStart => exact ⟨(0), (by first | rfl | (simp; done) | (simp [*]; done)), H', ⟨Nat.le_refl _⟩, by repeat (first | exact Drawn0.refl _ | apply Drawn0.step)⟩
  case round =>
    clear H'
    obtain ⟨x3_1, rfl, HA, HK1, ⟨m1, rfl⟩⟩ := hrel
    cases gk with
    | zero => exact absurd HA.out (by simp [bulletinlaw35_named.l0])
    | succ k1 =>
      have H := HA.out
      clear HA
      simp only [bulletinlaw35_named.l0] at H
      by_cases c2 : (wrap64 (x3_1 + 7)) ≤ (a0.size : Int)
      · rw [if_pos c2] at H
        have c2b0 : decide ((wrap64 (x3_1 + 7)) ≤ (a0.size : Int)) = true := decide_eq_true c2
        clear c2
        by_cases c3 : 0 ≤ x3_1
        · rw [if_pos c3] at H
          have c3b0 := eq_true c3
          have c3b1 : decide (0 ≤ x3_1) = true := decide_eq_true c3
          clear c3
          by_cases c4 : x3_1 ≤ (wrap64 (x3_1 + 7))
          · rw [if_pos c4] at H
            have c4b0 := eq_true c4
            have c4b1 : decide (x3_1 ≤ (wrap64 (x3_1 + 7))) = true := decide_eq_true c4
            have c5b0 := eq_true (of_decide_eq_true (by first | (with_reducible assumption) | assumption) : (wrap64 (x3_1 + 7)) ≤ (a0.size : Int))
            by_cases c6 : (a0.extract (x3_1 : Int).toNat ((wrap64 (x3_1 + 7)) : Int).toNat).toList = ([97, 114, 116, 105, 99, 108, 101] : List UInt8)
            · rw [if_pos c6] at H
              have c6b0 : ((a0.extract (x3_1 : Int).toNat ((wrap64 (x3_1 + 7)) : Int).toNat).toList == ([97, 114, 116, 105, 99, 108, 101] : List UInt8)) = true := beq_iff_eq.mpr c6
              have c6b1 : ((a0.extract (x3_1 : Int).toNat ((wrap64 (x3_1 + 7)) : Int).toNat).toList != ([97, 114, 116, 105, 99, 108, 101] : List UInt8)) = false := bne_eq_false_iff_eq.mpr c6
              clear c6
              obtain rfl := Option.some.inj H
              go_wp2
              go_ret
              exact ⟨by first | rfl | (simp; done) | (simp [*]; done), by repeat (first | exact Drawn0.refl _ | apply Drawn0.step)⟩
            · rw [if_neg c6] at H
              have c6b0 : ((a0.extract (x3_1 : Int).toNat ((wrap64 (x3_1 + 7)) : Int).toNat).toList == ([97, 114, 116, 105, 99, 108, 101] : List UInt8)) = false := beq_eq_false_iff_ne.mpr c6
              have c6b1 : ((a0.extract (x3_1 : Int).toNat ((wrap64 (x3_1 + 7)) : Int).toNat).toList != ([97, 114, 116, 105, 99, 108, 101] : List UInt8)) = true := bne_iff_ne.mpr c6
              have H' := Aside0.mk H
              clear H
              go_wp2
              go_roundg k1
              case measure => have := HK1.out; omega
              case rel => exact ⟨(wrap64 (x3_1 + 1)), (by first | rfl | (simp; done) | (simp [*]; done)), H', ⟨by have := HK1.out; omega⟩, by repeat (first | exact Drawn0.refl _ | apply Drawn0.step)⟩
          · rw [if_neg c4] at H
            exact absurd H (by simp)
        · rw [if_neg c3] at H
          exact absurd H (by simp)
      · rw [if_neg c2] at H
        have c2b0 : decide ((wrap64 (x3_1 + 7)) ≤ (a0.size : Int)) = false := decide_eq_false c2
        clear c2
        obtain rfl := Option.some.inj H
        go_wp2
        go_ret
        exact ⟨by first | rfl | (simp; done) | (simp [*]; done), by repeat (first | exact Drawn0.refl _ | apply Drawn0.step)⟩


/-! ### bulletinref11_digit: function 88 -/
def bulletinref11_digit.j0 : Nat → Int → Bool → Option (Int)
  | 0, _, _ => none
  | k + 1, x0, x8 => if x8 = true then (some (wrap64 ((wrap64 (x0)) - 48))) else (if x0 ≥ 97 then (if x0 ≤ 102 then (some (wrap64 ((wrap64 ((wrap64 (x0)) - 97)) + 10))) else (some (-1))) else (some (-1)))
def bulletinref11_digit.f (k : Nat) (a0 : Int) : Option (Int) := if a0 ≥ 48 then (bulletinref11_digit.j0 k a0 (decide (a0 ≤ 57))) else (bulletinref11_digit.j0 k a0 false)
set_option maxHeartbeats 8000000 in
set_option maxRecDepth 100000 in
theorem bulletinref11_digit.calls (k : Nat) (a0 : Int) (r : Int) (w : World) (h : bulletinref11_digit.f k a0 = some r) :
    Calls Tryz.prog 88 #[.int .u8 a0] w fun e w' => e = .returned (.int .i64 r) ∧ Drawn0 w w' := by
  have H : (if a0 ≥ 48 then (bulletinref11_digit.j0 k a0 (decide (a0 ≤ 57))) else (bulletinref11_digit.j0 k a0 false)) = some r := h
  clear h
  have HC2 := Aside0.mk H
  clear H
  go_enter Tryz.func88, Tryz.ntmps88
  go_upto_region 1 with (fail)
  go_cut [8] (fun v8 wc => ∃ (kq : Nat) (x8_1 : Bool), v8 = .bool x8_1 ∧ Aside0 (bulletinref11_digit.j0 kq a0 x8_1 = some r) ∧ Aside0 (kq ≤ k) ∧ Drawn0 w wc)
  case first =>
    have H := HC2.out
    clear HC2
    by_cases c3 : a0 ≥ 48
    · rw [if_pos c3] at H
      have c3b0 : decide (48 ≤ a0) = true := decide_eq_true c3
      clear c3
      (first | rw [c3b0] | (simp only [i64_w, i32_w]; rw [c3b0]) | skip)
      have H' := Aside0.mk H
      clear H
      go_wp2
      go_meet
      case rel => exact ⟨_, (decide (a0 ≤ 57)), (by first | rfl | (simp; done) | (simp [*]; done)), H', ⟨by first | omega | exact Nat.le_refl _⟩, by repeat (first | exact Drawn0.refl _ | apply Drawn0.step)⟩
    · rw [if_neg c3] at H
      have c3b0 : decide (48 ≤ a0) = false := decide_eq_false c3
      clear c3
      (first | rw [c3b0] | (simp only [i64_w, i32_w]; rw [c3b0]) | skip)
      have H' := Aside0.mk H
      clear H
      go_wp2
      go_meet
      case rel => exact ⟨_, (false), (by first | rfl | (simp; done) | (simp [*]; done)), H', ⟨by first | omega | exact Nat.le_refl _⟩, by repeat (first | exact Drawn0.refl _ | apply Drawn0.step)⟩
  case rest =>
    clear HC2
    try clear p2
    try clear c3
    try clear c3b0
    obtain ⟨kq, x8_1, rfl, HA, HJ1, ⟨mc1, rfl⟩⟩ := hcut
    cases kq with
    | zero => exact absurd HA.out (by simp [bulletinref11_digit.j0])
    | succ kj1 =>
      have H := HA.out
      clear HA
      simp only [bulletinref11_digit.j0] at H
      by_cases c4 : x8_1 = true
      · subst c4
        have H1 : (some (wrap64 ((wrap64 (a0)) - 48))) = some r := by rw [if_pos rfl] at H; exact H
        clear H
        have H := H1
        clear H1
        obtain rfl := Option.some.inj H
        go_wp2
        go_ret
        exact ⟨by first | rfl | (simp; done) | (simp [*]; done), by repeat (first | exact Drawn0.refl _ | apply Drawn0.step)⟩
      · replace c4 := Bool.eq_false_iff.mpr c4
        subst c4
        have H1 : (if a0 ≥ 97 then (if a0 ≤ 102 then (some (wrap64 ((wrap64 ((wrap64 (a0)) - 97)) + 10))) else (some (-1))) else (some (-1))) = some r := by rw [if_neg (show ¬ (false = true) by decide)] at H; exact H
        clear H
        have H := H1
        clear H1
        by_cases c5 : a0 ≥ 97
        · rw [if_pos c5] at H
          have c5b0 : decide (97 ≤ a0) = true := decide_eq_true c5
          clear c5
          by_cases c6 : a0 ≤ 102
          · rw [if_pos c6] at H
            have c6b0 : decide (a0 ≤ 102) = true := decide_eq_true c6
            clear c6
            obtain rfl := Option.some.inj H
            go_wp2
            go_ret
            exact ⟨by first | rfl | (simp; done) | (simp [*]; done), by repeat (first | exact Drawn0.refl _ | apply Drawn0.step)⟩
          · rw [if_neg c6] at H
            have c6b0 : decide (a0 ≤ 102) = false := decide_eq_false c6
            clear c6
            obtain rfl := Option.some.inj H
            go_wp2
            go_ret
            exact ⟨by first | rfl | (simp; done) | (simp [*]; done), by repeat (first | exact Drawn0.refl _ | apply Drawn0.step)⟩
        · rw [if_neg c5] at H
          have c5b0 : decide (97 ≤ a0) = false := decide_eq_false c5
          clear c5
          obtain rfl := Option.some.inj H
          go_wp2
          go_ret
          exact ⟨by first | rfl | (simp; done) | (simp [*]; done), by repeat (first | exact Drawn0.refl _ | apply Drawn0.step)⟩







end Go.Proofs.YtceopllngemnnaaGreatDoor.PRef

