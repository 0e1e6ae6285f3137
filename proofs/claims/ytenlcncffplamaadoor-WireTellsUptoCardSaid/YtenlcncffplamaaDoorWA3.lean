/- Texts of this claim, part 3: Shelf, EngAA, EngAB, EngAC, EngAD, EngAE, EngAF, PNames, Sh, Nam, PWire, Num, Aux, NSplit, RName, EngAG, EngAH, EngAI, EngAJ, EngAK, EngAL, EngAM. No condition. -/
import Derived.Shelf.Strings.Builder1
import Derived.Shelf.Strings.Builder2
import Derived.Shelf.Strings.OnBuilder
import Derived.Shelf.Strings.BuilderF
import Derived.Shelf.Strings.BuilderK
import Derived.Shelf.Strconv.Atoi
import Derived.Shelf.Strconv.Itoa0
import Derived.Shelf.Strconv.Itoa1
import Derived.Shelf.LaysM
import Derived.Shelf.Strconv.Itoa2
import Derived.Shelf.Strconv.Itoa3
import Derived.Shelf.Strconv.AtoiErrFast
import Derived.Shelf.Strconv.ParseIntEmpty
import Derived.Shelf.Strconv.AtoiFail
import Derived.Shelf.Strconv.Clone
import Derived.Shelf.Strconv.SyntaxError
import Derived.Shelf.LaysC
import Derived.Shelf.Strconv.ToError
import Derived.Shelf.Strconv.Lower
import Derived.Shelf.Strconv.ParseUint10
import Derived.Shelf.Strconv.ParseUint10Empty
import Derived.Shelf.Strconv.ParseUint10Any
import Derived.Shelf.Strconv.ParseInt10
import Derived.Shelf.Strconv.AtoiLong
import Derived.Shelf.Strconv.AtoiInnerAll
import Derived.Shelf.Strconv.RangeError
import Derived.Shelf.Strconv.ToErrorRange
import Derived.Shelf.Strconv.AtoiAll
import Derived.Shelf.Strings.Search1
import Derived.Shelf.Strings.Search2
import Derived.Shelf.Strings.Search3
import Derived.Shelf.Strings.Cut
import Derived.Shelf.Strings.Count
import Derived.Shelf.Strings.Shaped
import Derived.Shelf.Strings.Split
import Derived.Shelf.Unicode.DecodeSlow
import Derived.Test.YtenlcncffplamaaDoorProg
import Derived.Lib.Overlaps
import Derived.Laws.StructEq
import Derived.Lib.SlBytesConst
import Derived.Lib.SplitLaws
import Derived.Lib.Join
import Derived.Lib.AtoiAllCases
import Derived.Lib.ItoaNum
import Derived.WalkKit
import Derived.BigCall
import Derived.Laws.IdiomRangeMap
import Derived.Test.YtenlcncffplamaaDoorWA2
namespace Go.Proofs
open Go.Shelf
def Tryd.lays169_ren : Go.Shelf.Ren := ⟨fun | 169 => 34 | n => n, fun | 70 => 55 | 9 => 9 | 0 => 0 | 72 => 57 | 37 => 32 | 127 => 82 | 3 => 3 | 5 => 5 | n => n, fun | n => n⟩
theorem Tryd.lays169 : Go.Proofs.Lays.n169 Tryd.prog Tryd.lays169_ren := {
  mixed := by kernel_rfl
  f169 := Tryd.func34.trans (congrArg some (by kernel_rfl))
  t0 := Tryd.underlying0
  a0 := Tryd.isAgg0
  z0 := Tryd.sizeOf0
  v0 := Tryd.zeroValue0
  t3 := Tryd.underlying3
  a3 := Tryd.isAgg3
  z3 := Tryd.sizeOf3
  v3 := Tryd.zeroValue3
  t9 := Tryd.underlying9
  a9 := Tryd.isAgg9
  z9 := Tryd.sizeOf9
  v9 := Tryd.zeroValue9
  t37 := Tryd.underlying32
  a37 := Tryd.isAgg32
  z37 := Tryd.sizeOf32
  v37 := Tryd.zeroValue32
  t70 := Tryd.underlying55
  a70 := Tryd.isAgg55
  z70 := Tryd.sizeOf55
  v70 := Tryd.zeroValue55
  t72 := Tryd.underlying57
  a72 := Tryd.isAgg57
  z72 := Tryd.sizeOf57
  v72 := Tryd.zeroValue57
  t127 := Tryd.underlying82
  a127 := Tryd.isAgg82
  z127 := Tryd.sizeOf82
  v127 := Tryd.zeroValue82 }
theorem Tryd.Builder_Extra_169 : Builder.Extra Tryd.prog Tryd.lays169_ren := {
  sizeBuilder := by kernel_rfl
  liesBuilder := by kernel_rfl
  t5 := Tryd.underlying5
  a5 := Tryd.isAgg5
  z5 := Tryd.sizeOf5
  v5 := Tryd.zeroValue5
  infoByte := by kernel_rfl
  cellsByte := by kernel_rfl
  sizeByte := by kernel_rfl
  neB5 := by decide }
def Tryd.lays156_ren : Go.Shelf.Ren := ⟨fun | 156 => 26 | 165 => 43 | 166 => 32 | 169 => 34 | 240 => 45 | 241 => 53 | 276 => 55 | 277 => 65 | n => n, fun | 31 => 22 | 9 => 9 | 3 => 3 | 4 => 4 | 0 => 0 | 20 => 20 | 72 => 57 | 76 => 60 | 70 => 55 | 37 => 32 | 75 => 59 | 127 => 82 | 164 => 87 | 5 => 5 | 80 => 63 | n => n, fun | n => n⟩
theorem Tryd.lays156 : Go.Proofs.Lays.n156 Tryd.prog Tryd.lays156_ren := {
  mixed := by kernel_rfl
  f156 := Tryd.func26.trans (congrArg some (by kernel_rfl))
  f165 := Tryd.func43.trans (congrArg some (by kernel_rfl))
  f166 := Tryd.func32.trans (congrArg some (by kernel_rfl))
  f169 := Tryd.func34.trans (congrArg some (by kernel_rfl))
  f240 := Tryd.func45.trans (congrArg some (by kernel_rfl))
  f241 := Tryd.func53.trans (congrArg some (by kernel_rfl))
  f276 := Tryd.func55.trans (congrArg some (by kernel_rfl))
  f277 := Tryd.func65.trans (congrArg some (by kernel_rfl))
  t0 := Tryd.underlying0
  a0 := Tryd.isAgg0
  z0 := Tryd.sizeOf0
  v0 := Tryd.zeroValue0
  t3 := Tryd.underlying3
  a3 := Tryd.isAgg3
  z3 := Tryd.sizeOf3
  v3 := Tryd.zeroValue3
  t4 := Tryd.underlying4
  a4 := Tryd.isAgg4
  z4 := Tryd.sizeOf4
  v4 := Tryd.zeroValue4
  t9 := Tryd.underlying9
  a9 := Tryd.isAgg9
  z9 := Tryd.sizeOf9
  v9 := Tryd.zeroValue9
  t20 := Tryd.underlying20
  a20 := Tryd.isAgg20
  z20 := Tryd.sizeOf20
  v20 := Tryd.zeroValue20
  t31 := Tryd.underlying22
  a31 := Tryd.isAgg22
  z31 := Tryd.sizeOf22
  v31 := Tryd.zeroValue22
  t37 := Tryd.underlying32
  a37 := Tryd.isAgg32
  z37 := Tryd.sizeOf32
  v37 := Tryd.zeroValue32
  t70 := Tryd.underlying55
  a70 := Tryd.isAgg55
  z70 := Tryd.sizeOf55
  v70 := Tryd.zeroValue55
  t72 := Tryd.underlying57
  a72 := Tryd.isAgg57
  z72 := Tryd.sizeOf57
  v72 := Tryd.zeroValue57
  t75 := Tryd.underlying59
  a75 := Tryd.isAgg59
  z75 := Tryd.sizeOf59
  v75 := Tryd.zeroValue59
  t76 := Tryd.underlying60
  a76 := Tryd.isAgg60
  z76 := Tryd.sizeOf60
  v76 := Tryd.zeroValue60
  t127 := Tryd.underlying82
  a127 := Tryd.isAgg82
  z127 := Tryd.sizeOf82
  v127 := Tryd.zeroValue82
  t164 := Tryd.underlying87
  a164 := Tryd.isAgg87
  z164 := Tryd.sizeOf87
  v164 := Tryd.zeroValue87 }
theorem Tryd.Builder_Extra_156 : Builder.Extra Tryd.prog Tryd.lays156_ren := {
  sizeBuilder := by kernel_rfl
  liesBuilder := by kernel_rfl
  t5 := Tryd.underlying5
  a5 := Tryd.isAgg5
  z5 := Tryd.sizeOf5
  v5 := Tryd.zeroValue5
  infoByte := by kernel_rfl
  cellsByte := by kernel_rfl
  sizeByte := by kernel_rfl
  neB5 := by decide }
open Go.RowKit in
/-- No element: the empty string; the world is as it was. (Whatever the slice's address and capacity: a nil slice too.) (LAID: no walk: one application.) -/
theorem Tryd.strings_Join_none (a : Option Addr) (c : Nat) (sep : ByteArray) (w : World) :
    Calls Tryd.prog 26 #[.slice a 0 c, .string sep] w fun e w' => e = .returned (.string ⟨#[]⟩) ∧ w' = w := Any.strings_Join_none Tryd.lays156 Tryd.Builder_Extra_156 a c sep w
open Go.RowKit in
/-- strings.Join: "Join concatenates the elements of its first argument to create a single string. The separator string sep is placed between elements in the resulting string.": HOWEVER MANY ELEMENTS. Below the heap's end the world is as it was. (LAID: no walk: one application.) -/
theorem Tryd.strings_Join (bk o c : Nat) (xs : List ByteArray) (sep : ByteArray) (w : World) (hcells : ∀ (j : Nat) x, xs[j]? = some x → w.cell? ⟨bk, o + j, none⟩ = some (.string x)) (hbk : bk < w.heap.size) (hN : xs.length ≤ 140737488355328) (hcap : xs.length ≤ c) (hlen : (Lib.join (xs.map (·.data.toList)) sep.data.toList).length ≤ 140737488355328) :
    Calls Tryd.prog 26 #[.slice (some ⟨bk, o, none⟩) xs.length c, .string sep] w fun e w' => e = .returned (.string ⟨(Lib.join (xs.map (·.data.toList)) sep.data.toList).toArray⟩) ∧ Below w.heap.size w w' := Any.strings_Join Tryd.lays156 Tryd.Builder_Extra_156 bk o c xs sep w hcells hbk hN hcap hlen
open Go.RowKit in
/-- (*strings.Builder).String: "String returns the accumulated string.": WHATEVER THE BUILDER HOLDS; THE FORM '_k': OVER 'Lib.IsBuilderF' (a builder that 'String()' may have read), AND WITH THE FRAME THAT REACHES ABOVE THE BUILDER: 'Lib.OthersKept': every block that is not b and is no row of uint8's stands as it stood: the iterator of a range among them. (LAID: no walk: one application.) -/
theorem Tryd.Builder_String_any_k (B b : Nat) (l : List UInt8) (w : World) (h : Lib.IsBuilderF 57 5 B b (Lib.byteCells l) w) (hBw : B ≤ w.heap.size) :
    Calls Tryd.prog 34 #[.pointer (some ⟨b, 0, none⟩)] w fun e w' => e = .returned (.string ⟨l.toArray⟩) ∧ (Lib.IsBuilderF 57 5 B b (Lib.byteCells l) w' ∧ Below B w w' ∧ Lib.OthersKept 5 (some b) w w') := Any.Builder_String_any_k Tryd.lays169 Tryd.Builder_Extra_169 B b l w h hBw
def Tryd.laysM171_ren : Go.Shelf.Ren := ⟨fun | 171 => 28 | 243 => 44 | 246 => 54 | 283 => 66 | 284 => 67 | 285 => 68 | 286 => 69 | 129 => 79 | 317 => 78 | 318 => 80 | 319 => 81 | 320 => 82 | 337 => 87 | 338 => 88 | n => n, fun | 3 => 3 | 9 => 9 | 2 => 2 | 4 => 4 | 171 => 99 | 0 => 0 | 53 => 100 | 37 => 32 | 5 => 5 | 173 => 103 | 212 => 113 | 51 => 114 | 20 => 20 | 213 => 115 | 46 => 81 | 232 => 129 | 233 => 130 | n => n, fun | 17 => 3 | 18 => 6 | 19 => 7 | n => n⟩
theorem Tryd.laysM171 : Go.Proofs.LaysM.n171 Tryd.prog Tryd.laysM171_ren := {
  mixed := by kernel_rfl
  f129 := Tryd.func79.trans (congrArg some (by kernel_rfl))
  f171 := Tryd.func28.trans (congrArg some (by kernel_rfl))
  f243 := Tryd.func44.trans (congrArg some (by kernel_rfl))
  f246 := Tryd.func54.trans (congrArg some (by kernel_rfl))
  f283 := Tryd.func66.trans (congrArg some (by kernel_rfl))
  f284 := Tryd.func67.trans (congrArg some (by kernel_rfl))
  f285 := Tryd.func68.trans (congrArg some (by kernel_rfl))
  f286 := Tryd.func69.trans (congrArg some (by kernel_rfl))
  f317 := Tryd.func78.trans (congrArg some (by kernel_rfl))
  f318 := Tryd.func80.trans (congrArg some (by kernel_rfl))
  f319 := Tryd.func81.trans (congrArg some (by kernel_rfl))
  f320 := Tryd.func82.trans (congrArg some (by kernel_rfl))
  f337 := Tryd.func87.trans (congrArg some (by kernel_rfl))
  f338 := Tryd.func88.trans (congrArg some (by kernel_rfl))
  t0 := Tryd.underlying0
  a0 := Tryd.isAgg0
  z0 := Tryd.sizeOf0
  v0 := Tryd.zeroValue0
  t2 := Tryd.underlying2
  a2 := Tryd.isAgg2
  z2 := Tryd.sizeOf2
  v2 := Tryd.zeroValue2
  t3 := Tryd.underlying3
  a3 := Tryd.isAgg3
  z3 := Tryd.sizeOf3
  v3 := Tryd.zeroValue3
  t4 := Tryd.underlying4
  a4 := Tryd.isAgg4
  z4 := Tryd.sizeOf4
  v4 := Tryd.zeroValue4
  t5 := Tryd.underlying5
  a5 := Tryd.isAgg5
  z5 := Tryd.sizeOf5
  v5 := Tryd.zeroValue5
  t9 := Tryd.underlying9
  a9 := Tryd.isAgg9
  z9 := Tryd.sizeOf9
  v9 := Tryd.zeroValue9
  t20 := Tryd.underlying20
  a20 := Tryd.isAgg20
  z20 := Tryd.sizeOf20
  v20 := Tryd.zeroValue20
  t37 := Tryd.underlying32
  a37 := Tryd.isAgg32
  z37 := Tryd.sizeOf32
  v37 := Tryd.zeroValue32
  t46 := Tryd.underlying81
  a46 := Tryd.isAgg81
  z46 := Tryd.sizeOf81
  v46 := Tryd.zeroValue81
  t51 := Tryd.underlying114
  a51 := Tryd.isAgg114
  z51 := Tryd.sizeOf114
  v51 := Tryd.zeroValue114
  t53 := Tryd.underlying100
  a53 := Tryd.isAgg100
  z53 := Tryd.sizeOf100
  v53 := Tryd.zeroValue100
  t171 := Tryd.underlying99
  a171 := Tryd.isAgg99
  z171 := Tryd.sizeOf99
  v171 := Tryd.zeroValue99
  t173 := Tryd.underlying103
  a173 := Tryd.isAgg103
  z173 := Tryd.sizeOf103
  v173 := Tryd.zeroValue103
  t212 := Tryd.underlying113
  a212 := Tryd.isAgg113
  z212 := Tryd.sizeOf113
  v212 := Tryd.zeroValue113
  t213 := Tryd.underlying115
  a213 := Tryd.isAgg115
  z213 := Tryd.sizeOf115
  t232 := Tryd.underlying129
  a232 := Tryd.isAgg129
  z232 := Tryd.sizeOf129
  v232 := Tryd.zeroValue129
  t233 := Tryd.underlying130
  a233 := Tryd.isAgg130
  z233 := Tryd.sizeOf130
  v233 := Tryd.zeroValue130
  g17 := by kernel_rfl
  g18 := by kernel_rfl
  g19 := by kernel_rfl
  i0 := by kernel_rfl
  i2 := by kernel_rfl
  i3 := by kernel_rfl
  i4 := by kernel_rfl
  i5 := by kernel_rfl
  i9 := by kernel_rfl
  i20 := by kernel_rfl
  i37 := by kernel_rfl
  i46 := by kernel_rfl
  i51 := by kernel_rfl
  i53 := by kernel_rfl
  i171 := by kernel_rfl
  i173 := by kernel_rfl
  i212 := by kernel_rfl
  i232 := by kernel_rfl
  i233 := by kernel_rfl
  m17 := by kernel_rfl
  m18 := by kernel_rfl
  m19 := by kernel_rfl }
open Go.RowKit Go.Sort Go.Lib in
/-- strconv.Itoa: "Itoa is equivalent to FormatInt(int64(i), 10).": i's DECIMAL NUMERAL ('Lib.itoa': a '-' where i is negative, then the digits), FOR EVERY int. The world behind the call: the world before it, new blocks behind the heap (the library's 'var a [24]byte'), draws. (LAID: no walk: one application.) -/
theorem Tryd.strconv_Itoa (n : Int) (h0 : -9223372036854775808 ≤ n) (h1 : n ≤ 9223372036854775807) (w : World) (htab : Lib.TabIs Tryd.prog w "internal/strconv.uint64pow10" .u64 Lib.pow10Tab) :
    Calls Tryd.prog 28 #[.int .i64 n] w fun e w' => e = .returned (.string ⟨(Lib.itoa n).toArray⟩) ∧ ∃ k os, w' = grow (w.drewN k) os := Any.strconv_Itoa Tryd.laysM171 n h0 h1 w htab
def Tryd.laysC172_ren : Go.Shelf.Ren := ⟨fun | 172 => 38 | 244 => 47 | 245 => 48 | 247 => 56 | 279 => 57 | 280 => 58 | 281 => 59 | 282 => 60 | 287 => 70 | 316 => 71 | 171 => 28 | 205 => 72 | 321 => 83 | 322 => 84 | 243 => 44 | 246 => 54 | 283 => 66 | 284 => 67 | 285 => 68 | 286 => 69 | 129 => 79 | 317 => 78 | 318 => 80 | 319 => 81 | 320 => 82 | 337 => 87 | 338 => 88 | n => n, fun | 9 => 9 | 3 => 3 | 75 => 59 | 76 => 60 | 4 => 4 | 5 => 5 | 167 => 89 | 37 => 32 | 0 => 0 | 85 => 90 | 2 => 2 | 168 => 92 | 53 => 100 | 175 => 105 | 46 => 81 | 210 => 109 | 127 => 82 | 145 => 121 | 143 => 119 | 21 => 21 | 171 => 99 | 173 => 103 | 212 => 113 | 51 => 114 | 20 => 20 | 213 => 115 | 232 => 129 | 233 => 130 | 80 => 63 | n => n, fun | 15 => 0 | 16 => 1 | 17 => 3 | 18 => 6 | 19 => 7 | n => n⟩
theorem Tryd.laysC172 : Go.Proofs.LaysC.n172 Tryd.prog Tryd.laysC172_ren := {
  mixed := by kernel_rfl
  f129 := Tryd.func79.trans (congrArg some (by kernel_rfl))
  f171 := Tryd.func28.trans (congrArg some (by kernel_rfl))
  f172 := Tryd.func38.trans (congrArg some (by kernel_rfl))
  f205 := Tryd.func72.trans (congrArg some (by kernel_rfl))
  f243 := Tryd.func44.trans (congrArg some (by kernel_rfl))
  f244 := Tryd.func47.trans (congrArg some (by kernel_rfl))
  f245 := Tryd.func48.trans (congrArg some (by kernel_rfl))
  f246 := Tryd.func54.trans (congrArg some (by kernel_rfl))
  f247 := Tryd.func56.trans (congrArg some (by kernel_rfl))
  f279 := Tryd.func57.trans (congrArg some (by kernel_rfl))
  f280 := Tryd.func58.trans (congrArg some (by kernel_rfl))
  f281 := Tryd.func59.trans (congrArg some (by kernel_rfl))
  f282 := Tryd.func60.trans (congrArg some (by kernel_rfl))
  f283 := Tryd.func66.trans (congrArg some (by kernel_rfl))
  f284 := Tryd.func67.trans (congrArg some (by kernel_rfl))
  f285 := Tryd.func68.trans (congrArg some (by kernel_rfl))
  f286 := Tryd.func69.trans (congrArg some (by kernel_rfl))
  f287 := Tryd.func70.trans (congrArg some (by kernel_rfl))
  f316 := Tryd.func71.trans (congrArg some (by kernel_rfl))
  f317 := Tryd.func78.trans (congrArg some (by kernel_rfl))
  f318 := Tryd.func80.trans (congrArg some (by kernel_rfl))
  f319 := Tryd.func81.trans (congrArg some (by kernel_rfl))
  f320 := Tryd.func82.trans (congrArg some (by kernel_rfl))
  f321 := Tryd.func83.trans (congrArg some (by kernel_rfl))
  f322 := Tryd.func84.trans (congrArg some (by kernel_rfl))
  f337 := Tryd.func87.trans (congrArg some (by kernel_rfl))
  f338 := Tryd.func88.trans (congrArg some (by kernel_rfl))
  t0 := Tryd.underlying0
  a0 := Tryd.isAgg0
  z0 := Tryd.sizeOf0
  v0 := Tryd.zeroValue0
  t2 := Tryd.underlying2
  a2 := Tryd.isAgg2
  z2 := Tryd.sizeOf2
  v2 := Tryd.zeroValue2
  t3 := Tryd.underlying3
  a3 := Tryd.isAgg3
  z3 := Tryd.sizeOf3
  v3 := Tryd.zeroValue3
  t4 := Tryd.underlying4
  a4 := Tryd.isAgg4
  z4 := Tryd.sizeOf4
  v4 := Tryd.zeroValue4
  t5 := Tryd.underlying5
  a5 := Tryd.isAgg5
  z5 := Tryd.sizeOf5
  v5 := Tryd.zeroValue5
  t9 := Tryd.underlying9
  a9 := Tryd.isAgg9
  z9 := Tryd.sizeOf9
  v9 := Tryd.zeroValue9
  t20 := Tryd.underlying20
  a20 := Tryd.isAgg20
  z20 := Tryd.sizeOf20
  v20 := Tryd.zeroValue20
  t21 := Tryd.underlying21
  a21 := Tryd.isAgg21
  z21 := Tryd.sizeOf21
  v21 := Tryd.zeroValue21
  t37 := Tryd.underlying32
  a37 := Tryd.isAgg32
  z37 := Tryd.sizeOf32
  v37 := Tryd.zeroValue32
  t46 := Tryd.underlying81
  a46 := Tryd.isAgg81
  z46 := Tryd.sizeOf81
  v46 := Tryd.zeroValue81
  t51 := Tryd.underlying114
  a51 := Tryd.isAgg114
  z51 := Tryd.sizeOf114
  v51 := Tryd.zeroValue114
  t53 := Tryd.underlying100
  a53 := Tryd.isAgg100
  z53 := Tryd.sizeOf100
  v53 := Tryd.zeroValue100
  t75 := Tryd.underlying59
  a75 := Tryd.isAgg59
  z75 := Tryd.sizeOf59
  v75 := Tryd.zeroValue59
  t76 := Tryd.underlying60
  a76 := Tryd.isAgg60
  z76 := Tryd.sizeOf60
  v76 := Tryd.zeroValue60
  t85 := Tryd.underlying90
  a85 := Tryd.isAgg90
  z85 := Tryd.sizeOf90
  v85 := Tryd.zeroValue90
  t127 := Tryd.underlying82
  a127 := Tryd.isAgg82
  z127 := Tryd.sizeOf82
  v127 := Tryd.zeroValue82
  t143 := Tryd.underlying119
  a143 := Tryd.isAgg119
  z143 := Tryd.sizeOf119
  v143 := Tryd.zeroValue119
  t145 := Tryd.underlying121
  a145 := Tryd.isAgg121
  z145 := Tryd.sizeOf121
  v145 := Tryd.zeroValue121
  t167 := Tryd.underlying89
  a167 := Tryd.isAgg89
  z167 := Tryd.sizeOf89
  v167 := Tryd.zeroValue89
  t168 := Tryd.underlying92
  a168 := Tryd.isAgg92
  z168 := Tryd.sizeOf92
  v168 := Tryd.zeroValue92
  t171 := Tryd.underlying99
  a171 := Tryd.isAgg99
  z171 := Tryd.sizeOf99
  v171 := Tryd.zeroValue99
  t173 := Tryd.underlying103
  a173 := Tryd.isAgg103
  z173 := Tryd.sizeOf103
  v173 := Tryd.zeroValue103
  t175 := Tryd.underlying105
  a175 := Tryd.isAgg105
  z175 := Tryd.sizeOf105
  v175 := Tryd.zeroValue105
  t210 := Tryd.underlying109
  a210 := Tryd.isAgg109
  z210 := Tryd.sizeOf109
  v210 := Tryd.zeroValue109
  t212 := Tryd.underlying113
  a212 := Tryd.isAgg113
  z212 := Tryd.sizeOf113
  v212 := Tryd.zeroValue113
  t213 := Tryd.underlying115
  a213 := Tryd.isAgg115
  z213 := Tryd.sizeOf115
  t232 := Tryd.underlying129
  a232 := Tryd.isAgg129
  z232 := Tryd.sizeOf129
  v232 := Tryd.zeroValue129
  t233 := Tryd.underlying130
  a233 := Tryd.isAgg130
  z233 := Tryd.sizeOf130
  v233 := Tryd.zeroValue130
  g15 := by kernel_rfl
  g16 := by kernel_rfl
  g17 := by kernel_rfl
  g18 := by kernel_rfl
  g19 := by kernel_rfl
  t80 := Tryd.underlying63
  a80 := Tryd.isAgg63
  z80 := Tryd.sizeOf63
  v80 := Tryd.zeroValue63
  i0 := by kernel_rfl
  i2 := by kernel_rfl
  i3 := by kernel_rfl
  i4 := by kernel_rfl
  i5 := by kernel_rfl
  i9 := by kernel_rfl
  i20 := by kernel_rfl
  i21 := by kernel_rfl
  i37 := by kernel_rfl
  i46 := by kernel_rfl
  i51 := by kernel_rfl
  i53 := by kernel_rfl
  i75 := by kernel_rfl
  i76 := by kernel_rfl
  i80 := by kernel_rfl
  i85 := by kernel_rfl
  i127 := by kernel_rfl
  i143 := by kernel_rfl
  i145 := by kernel_rfl
  i167 := by kernel_rfl
  i168 := by kernel_rfl
  i171 := by kernel_rfl
  i173 := by kernel_rfl
  i175 := by kernel_rfl
  i210 := by kernel_rfl
  i212 := by kernel_rfl
  i232 := by kernel_rfl
  i233 := by kernel_rfl
  m15 := by kernel_rfl
  m16 := by kernel_rfl
  m17 := by kernel_rfl
  m18 := by kernel_rfl
  m19 := by kernel_rfl
  c0 := by kernel_rfl
  c2 := by kernel_rfl
  c3 := by kernel_rfl
  c4 := by kernel_rfl
  c5 := by kernel_rfl
  c9 := by kernel_rfl
  c20 := by kernel_rfl
  c21 := by kernel_rfl
  c37 := by kernel_rfl
  c46 := by kernel_rfl
  c51 := by kernel_rfl
  c53 := by kernel_rfl
  c75 := by kernel_rfl
  c76 := by kernel_rfl
  c80 := by kernel_rfl
  c85 := by kernel_rfl
  c127 := by kernel_rfl
  c143 := by kernel_rfl
  c145 := by kernel_rfl
  c167 := by kernel_rfl
  c168 := by kernel_rfl
  c171 := by kernel_rfl
  c173 := by kernel_rfl
  c175 := by kernel_rfl
  c210 := by kernel_rfl
  c212 := by kernel_rfl
  c213 := by kernel_rfl
  c232 := by kernel_rfl
  c233 := by kernel_rfl }
open Go.RowKit in
/-- strconv.Atoi, AT EVERY STRING THAT SPELLS AN int ('Lib.atoiAll .. = .ok v'; of whatever length: leading zeros count): v, AND NO ERROR. The world: as it was, or with the one new row that '[]byte(..)' lays. (LAID: no walk: one application.) -/
theorem Tryd.strconv_Atoi_ok (s : ByteArray) (hmax : s.size ≤ 9223372036854775806) (v : Int) (h : Lib.atoiAll s.data.toList = .ok v) (w : World) :
    Calls Tryd.prog 38 #[.string s] w fun e w' => e = .returned (.tuple #[.int .i64 v, .nilIface]) ∧ (w' = w ∨ ∃ t, w' = Lib.bytesWorld w 5 t) := Any.strconv_Atoi_ok Tryd.laysC172 s hmax v h w
open Go.RowKit in
/-- strconv.Atoi, AT EVERY NUMERAL THAT NO int HOLDS ('.range'): THE GREATEST OR THE LEAST int, BY THE SIGN ('Lib.atoiSat'), AND AN ERROR THAT IS NOT nil: a *NumError in a new block N: {Func: "Atoi", Num: s's bytes, Err: what the variable ErrRange holds}. Of what was there nothing has turned. (LAID: no walk: one application.) -/
theorem Tryd.strconv_Atoi_range (s : ByteArray) (hlim : s.size ≤ 281474976710656) (h : Lib.atoiAll s.data.toList = .range) (ev : Value) (w : World) (hv : w.cell? ⟨1, 0, none⟩ = some ev) (hev : ev = .nilIface ∨ ∃ te pe, ev = .iface te pe) :
    Calls Tryd.prog 38 #[.string s] w fun e w' => ∃ N, e = .returned (.tuple #[.int .i64 (Lib.atoiSat s.data.toList), .iface 92 (.pointer (some ⟨N, 0, none⟩))]) ∧ w.heap.size ≤ N ∧ w'.heap[N]? = some (.cells #[.string ⟨#[65, 116, 111, 105]⟩, .string s, ev] 109 (0, 0)) ∧ Below w.heap.size w w' := Any.strconv_Atoi_range Tryd.laysC172 s hlim h ev w hv hev
def Tryd.lays219_ren : Go.Shelf.Ren := ⟨fun | 219 => 61 | 217 => 73 | 225 => 74 | 224 => 75 | 267 => 76 | 266 => 85 | 314 => 86 | n => n, fun | 9 => 9 | 3 => 3 | 4 => 4 | 5 => 5 | 46 => 81 | 146 => 122 | 51 => 114 | n => n, fun | 1 => 2 | n => n⟩
theorem Tryd.lays219 : Go.Proofs.Lays.n219 Tryd.prog Tryd.lays219_ren := {
  mixed := by kernel_rfl
  f217 := Tryd.func73.trans (congrArg some (by kernel_rfl))
  f219 := Tryd.func61.trans (congrArg some (by kernel_rfl))
  f224 := Tryd.func75.trans (congrArg some (by kernel_rfl))
  f225 := Tryd.func74.trans (congrArg some (by kernel_rfl))
  f266 := Tryd.func85.trans (congrArg some (by kernel_rfl))
  f267 := Tryd.func76.trans (congrArg some (by kernel_rfl))
  f314 := Tryd.func86.trans (congrArg some (by kernel_rfl))
  t3 := Tryd.underlying3
  a3 := Tryd.isAgg3
  z3 := Tryd.sizeOf3
  v3 := Tryd.zeroValue3
  t4 := Tryd.underlying4
  a4 := Tryd.isAgg4
  z4 := Tryd.sizeOf4
  v4 := Tryd.zeroValue4
  t5 := Tryd.underlying5
  a5 := Tryd.isAgg5
  z5 := Tryd.sizeOf5
  v5 := Tryd.zeroValue5
  t9 := Tryd.underlying9
  a9 := Tryd.isAgg9
  z9 := Tryd.sizeOf9
  v9 := Tryd.zeroValue9
  t46 := Tryd.underlying81
  a46 := Tryd.isAgg81
  z46 := Tryd.sizeOf81
  v46 := Tryd.zeroValue81
  t51 := Tryd.underlying114
  a51 := Tryd.isAgg114
  z51 := Tryd.sizeOf114
  v51 := Tryd.zeroValue114
  t146 := Tryd.underlying122
  a146 := Tryd.isAgg122
  z146 := Tryd.sizeOf122
  v146 := Tryd.zeroValue122
  g1 := by kernel_rfl }
open Go.RowKit Go.Lib in
/-- internal/stringslite.Index (what strings.Index calls) AT A substr OF ONE BYTE c: IT RETURNS 'Lib.indexByte s c'; the world is as it was. (LAID: no walk: one application.) -/
theorem Tryd.stringslite_Index_one (s : ByteArray) (c : UInt8) (w : World) :
    Calls Tryd.prog 61 #[.string s, .string ⟨#[c]⟩] w fun e w' => e = .returned (.int .i64 (Lib.indexByte s.data.toList c)) ∧ w' = w := Any.stringslite_Index_one Tryd.lays219 s c w
def Tryd.lays143_ren : Go.Shelf.Ren := ⟨fun | 143 => 52 | 219 => 61 | 217 => 73 | 225 => 74 | 224 => 75 | 267 => 76 | 266 => 85 | 314 => 86 | n => n, fun | 9 => 9 | 3 => 3 | 4 => 4 | 5 => 5 | 46 => 81 | 146 => 122 | 51 => 114 | n => n, fun | 1 => 2 | n => n⟩
theorem Tryd.lays143 : Go.Proofs.Lays.n143 Tryd.prog Tryd.lays143_ren := {
  mixed := by kernel_rfl
  f143 := Tryd.func52.trans (congrArg some (by kernel_rfl))
  f217 := Tryd.func73.trans (congrArg some (by kernel_rfl))
  f219 := Tryd.func61.trans (congrArg some (by kernel_rfl))
  f224 := Tryd.func75.trans (congrArg some (by kernel_rfl))
  f225 := Tryd.func74.trans (congrArg some (by kernel_rfl))
  f266 := Tryd.func85.trans (congrArg some (by kernel_rfl))
  f267 := Tryd.func76.trans (congrArg some (by kernel_rfl))
  f314 := Tryd.func86.trans (congrArg some (by kernel_rfl))
  t3 := Tryd.underlying3
  a3 := Tryd.isAgg3
  z3 := Tryd.sizeOf3
  v3 := Tryd.zeroValue3
  t4 := Tryd.underlying4
  a4 := Tryd.isAgg4
  z4 := Tryd.sizeOf4
  v4 := Tryd.zeroValue4
  t5 := Tryd.underlying5
  a5 := Tryd.isAgg5
  z5 := Tryd.sizeOf5
  v5 := Tryd.zeroValue5
  t9 := Tryd.underlying9
  a9 := Tryd.isAgg9
  z9 := Tryd.sizeOf9
  v9 := Tryd.zeroValue9
  t46 := Tryd.underlying81
  a46 := Tryd.isAgg81
  z46 := Tryd.sizeOf81
  v46 := Tryd.zeroValue81
  t51 := Tryd.underlying114
  a51 := Tryd.isAgg114
  z51 := Tryd.sizeOf114
  v51 := Tryd.zeroValue114
  t146 := Tryd.underlying122
  a146 := Tryd.isAgg122
  z146 := Tryd.sizeOf122
  v146 := Tryd.zeroValue122
  g1 := by kernel_rfl }
open Go.RowKit Go.Lib in
/-- strings.Index: "Index returns the index of the first instance of substr in s, or -1 if substr is not present in s.": AT A substr OF ONE BYTE c: IT RETURNS 'Lib.indexByte s c'; the world is as it was. (LAID: no walk: one application.) -/
theorem Tryd.strings_Index_one (s : ByteArray) (c : UInt8) (w : World) :
    Calls Tryd.prog 52 #[.string s, .string ⟨#[c]⟩] w fun e w' => e = .returned (.int .i64 (Lib.indexByte s.data.toList c)) ∧ w' = w := Any.strings_Index_one Tryd.lays143 s c w
def Tryd.lays138_ren : Go.Shelf.Ren := ⟨fun | 138 => 51 | 195 => 62 | 218 => 64 | 143 => 52 | 219 => 61 | 217 => 73 | 225 => 74 | 224 => 75 | 267 => 76 | 266 => 85 | 314 => 86 | n => n, fun | 9 => 9 | 3 => 3 | 4 => 4 | 5 => 5 | 0 => 0 | 46 => 81 | 146 => 122 | 51 => 114 | n => n, fun | 1 => 2 | n => n⟩
theorem Tryd.lays138 : Go.Proofs.Lays.n138 Tryd.prog Tryd.lays138_ren := {
  mixed := by kernel_rfl
  f138 := Tryd.func51.trans (congrArg some (by kernel_rfl))
  f143 := Tryd.func52.trans (congrArg some (by kernel_rfl))
  f195 := Tryd.func62.trans (congrArg some (by kernel_rfl))
  f217 := Tryd.func73.trans (congrArg some (by kernel_rfl))
  f218 := Tryd.func64.trans (congrArg some (by kernel_rfl))
  f219 := Tryd.func61.trans (congrArg some (by kernel_rfl))
  f224 := Tryd.func75.trans (congrArg some (by kernel_rfl))
  f225 := Tryd.func74.trans (congrArg some (by kernel_rfl))
  f266 := Tryd.func85.trans (congrArg some (by kernel_rfl))
  f267 := Tryd.func76.trans (congrArg some (by kernel_rfl))
  f314 := Tryd.func86.trans (congrArg some (by kernel_rfl))
  t0 := Tryd.underlying0
  a0 := Tryd.isAgg0
  z0 := Tryd.sizeOf0
  v0 := Tryd.zeroValue0
  t3 := Tryd.underlying3
  a3 := Tryd.isAgg3
  z3 := Tryd.sizeOf3
  v3 := Tryd.zeroValue3
  t4 := Tryd.underlying4
  a4 := Tryd.isAgg4
  z4 := Tryd.sizeOf4
  v4 := Tryd.zeroValue4
  t5 := Tryd.underlying5
  a5 := Tryd.isAgg5
  z5 := Tryd.sizeOf5
  v5 := Tryd.zeroValue5
  t9 := Tryd.underlying9
  a9 := Tryd.isAgg9
  z9 := Tryd.sizeOf9
  v9 := Tryd.zeroValue9
  t46 := Tryd.underlying81
  a46 := Tryd.isAgg81
  z46 := Tryd.sizeOf81
  v46 := Tryd.zeroValue81
  t51 := Tryd.underlying114
  a51 := Tryd.isAgg114
  z51 := Tryd.sizeOf114
  v51 := Tryd.zeroValue114
  t146 := Tryd.underlying122
  a146 := Tryd.isAgg122
  z146 := Tryd.sizeOf122
  v146 := Tryd.zeroValue122
  g1 := by kernel_rfl }
open Go.RowKit Go.Lib in
/-- strings.Count AT A substr OF ONE BYTE ('hp'): "Count counts the number of non-overlapping instances of substr in s.": IT RETURNS 'Lib.countByte s (that byte)'; the world is as it was. ✋ NO CONTRACT HERE YET at an empty substr (utf8.RuneCountInString) or at a longer one (a loop over strings.Index). (LAID: no walk: one application.) -/
theorem Tryd.strings_Count_one (s : ByteArray) (c : UInt8) (w : World) :
    Calls Tryd.prog 51 #[.string s, .string ⟨#[c]⟩] w fun e w' => e = .returned (.int .i64 (Lib.countByte s.data.toList c)) ∧ w' = w := Any.strings_Count_one Tryd.lays138 s c w
def Tryd.lays221_ren : Go.Shelf.Ren := ⟨fun | 221 => 42 | 268 => 50 | 138 => 51 | 143 => 52 | 195 => 62 | 197 => 63 | 218 => 64 | 219 => 61 | 260 => 77 | 217 => 73 | 225 => 74 | 224 => 75 | 267 => 76 | 266 => 85 | 314 => 86 | n => n, fun | 9 => 9 | 3 => 3 | 31 => 22 | 4 => 4 | 0 => 0 | 105 => 95 | 21 => 21 | 5 => 5 | 46 => 81 | 119 => 124 | 139 => 127 | 138 => 126 | 146 => 122 | 51 => 114 | n => n, fun | 1 => 2 | 3 => 4 | 4 => 5 | n => n⟩
theorem Tryd.lays221 : Go.Proofs.Lays.n221 Tryd.prog Tryd.lays221_ren := {
  mixed := by kernel_rfl
  f138 := Tryd.func51.trans (congrArg some (by kernel_rfl))
  f143 := Tryd.func52.trans (congrArg some (by kernel_rfl))
  f195 := Tryd.func62.trans (congrArg some (by kernel_rfl))
  f197 := Tryd.func63.trans (congrArg some (by kernel_rfl))
  f217 := Tryd.func73.trans (congrArg some (by kernel_rfl))
  f218 := Tryd.func64.trans (congrArg some (by kernel_rfl))
  f219 := Tryd.func61.trans (congrArg some (by kernel_rfl))
  f221 := Tryd.func42.trans (congrArg some (by kernel_rfl))
  f224 := Tryd.func75.trans (congrArg some (by kernel_rfl))
  f225 := Tryd.func74.trans (congrArg some (by kernel_rfl))
  f260 := Tryd.func77.trans (congrArg some (by kernel_rfl))
  f266 := Tryd.func85.trans (congrArg some (by kernel_rfl))
  f267 := Tryd.func76.trans (congrArg some (by kernel_rfl))
  f268 := Tryd.func50.trans (congrArg some (by kernel_rfl))
  f314 := Tryd.func86.trans (congrArg some (by kernel_rfl))
  t0 := Tryd.underlying0
  a0 := Tryd.isAgg0
  z0 := Tryd.sizeOf0
  v0 := Tryd.zeroValue0
  t3 := Tryd.underlying3
  a3 := Tryd.isAgg3
  z3 := Tryd.sizeOf3
  v3 := Tryd.zeroValue3
  t4 := Tryd.underlying4
  a4 := Tryd.isAgg4
  z4 := Tryd.sizeOf4
  v4 := Tryd.zeroValue4
  t5 := Tryd.underlying5
  a5 := Tryd.isAgg5
  z5 := Tryd.sizeOf5
  v5 := Tryd.zeroValue5
  t9 := Tryd.underlying9
  a9 := Tryd.isAgg9
  z9 := Tryd.sizeOf9
  v9 := Tryd.zeroValue9
  t21 := Tryd.underlying21
  a21 := Tryd.isAgg21
  z21 := Tryd.sizeOf21
  v21 := Tryd.zeroValue21
  t31 := Tryd.underlying22
  a31 := Tryd.isAgg22
  z31 := Tryd.sizeOf22
  v31 := Tryd.zeroValue22
  t46 := Tryd.underlying81
  a46 := Tryd.isAgg81
  z46 := Tryd.sizeOf81
  v46 := Tryd.zeroValue81
  t51 := Tryd.underlying114
  a51 := Tryd.isAgg114
  z51 := Tryd.sizeOf114
  v51 := Tryd.zeroValue114
  t105 := Tryd.underlying95
  a105 := Tryd.isAgg95
  z105 := Tryd.sizeOf95
  v105 := Tryd.zeroValue95
  t119 := Tryd.underlying124
  a119 := Tryd.isAgg124
  z119 := Tryd.sizeOf124
  t138 := Tryd.underlying126
  a138 := Tryd.isAgg126
  z138 := Tryd.sizeOf126
  v138 := Tryd.zeroValue126
  t139 := Tryd.underlying127
  a139 := Tryd.isAgg127
  z139 := Tryd.sizeOf127
  v139 := Tryd.zeroValue127
  t146 := Tryd.underlying122
  a146 := Tryd.isAgg122
  z146 := Tryd.sizeOf122
  v146 := Tryd.zeroValue122
  g1 := by kernel_rfl
  g3 := by kernel_rfl
  g4 := by kernel_rfl }
def Tryd.lays166_ren : Go.Shelf.Ren := ⟨fun | 166 => 32 | 240 => 45 | 276 => 55 | n => n, fun | 0 => 0 | 3 => 3 | 4 => 4 | 5 => 5 | 9 => 9 | 20 => 20 | 37 => 32 | 70 => 55 | 72 => 57 | 75 => 59 | 80 => 63 | 164 => 87 | n => n, fun  | n => n⟩
theorem Tryd.lays166 : Go.Proofs.Lays.n166 Tryd.prog Tryd.lays166_ren := {
  mixed := by kernel_rfl
  f166 := Tryd.func32.trans (congrArg some (by kernel_rfl))
  f240 := Tryd.func45.trans (congrArg some (by kernel_rfl))
  f276 := Tryd.func55.trans (congrArg some (by kernel_rfl))
  t0 := Tryd.underlying0
  a0 := Tryd.isAgg0
  z0 := Tryd.sizeOf0
  v0 := Tryd.zeroValue0
  t3 := Tryd.underlying3
  a3 := Tryd.isAgg3
  z3 := Tryd.sizeOf3
  v3 := Tryd.zeroValue3
  t4 := Tryd.underlying4
  a4 := Tryd.isAgg4
  z4 := Tryd.sizeOf4
  v4 := Tryd.zeroValue4
  t9 := Tryd.underlying9
  a9 := Tryd.isAgg9
  z9 := Tryd.sizeOf9
  v9 := Tryd.zeroValue9
  t20 := Tryd.underlying20
  a20 := Tryd.isAgg20
  z20 := Tryd.sizeOf20
  v20 := Tryd.zeroValue20
  t37 := Tryd.underlying32
  a37 := Tryd.isAgg32
  z37 := Tryd.sizeOf32
  v37 := Tryd.zeroValue32
  t70 := Tryd.underlying55
  a70 := Tryd.isAgg55
  z70 := Tryd.sizeOf55
  v70 := Tryd.zeroValue55
  t72 := Tryd.underlying57
  a72 := Tryd.isAgg57
  z72 := Tryd.sizeOf57
  v72 := Tryd.zeroValue57
  t75 := Tryd.underlying59
  a75 := Tryd.isAgg59
  z75 := Tryd.sizeOf59
  v75 := Tryd.zeroValue59
  t164 := Tryd.underlying87
  a164 := Tryd.isAgg87
  z164 := Tryd.sizeOf87
  v164 := Tryd.zeroValue87 }
def Tryd.lays167_ren : Go.Shelf.Ren := ⟨fun | 167 => 33 | 240 => 45 | 276 => 55 | n => n, fun | 0 => 0 | 4 => 4 | 5 => 5 | 9 => 9 | 20 => 20 | 37 => 32 | 70 => 55 | 72 => 57 | 75 => 59 | 80 => 63 | 164 => 87 | n => n, fun  | n => n⟩
theorem Tryd.lays167 : Go.Proofs.Lays.n167 Tryd.prog Tryd.lays167_ren := {
  mixed := by kernel_rfl
  f167 := Tryd.func33.trans (congrArg some (by kernel_rfl))
  f240 := Tryd.func45.trans (congrArg some (by kernel_rfl))
  f276 := Tryd.func55.trans (congrArg some (by kernel_rfl))
  t0 := Tryd.underlying0
  a0 := Tryd.isAgg0
  z0 := Tryd.sizeOf0
  v0 := Tryd.zeroValue0
  t4 := Tryd.underlying4
  a4 := Tryd.isAgg4
  z4 := Tryd.sizeOf4
  v4 := Tryd.zeroValue4
  t5 := Tryd.underlying5
  a5 := Tryd.isAgg5
  z5 := Tryd.sizeOf5
  v5 := Tryd.zeroValue5
  t9 := Tryd.underlying9
  a9 := Tryd.isAgg9
  z9 := Tryd.sizeOf9
  v9 := Tryd.zeroValue9
  t20 := Tryd.underlying20
  a20 := Tryd.isAgg20
  z20 := Tryd.sizeOf20
  v20 := Tryd.zeroValue20
  t37 := Tryd.underlying32
  a37 := Tryd.isAgg32
  z37 := Tryd.sizeOf32
  v37 := Tryd.zeroValue32
  t70 := Tryd.underlying55
  a70 := Tryd.isAgg55
  z70 := Tryd.sizeOf55
  v70 := Tryd.zeroValue55
  t72 := Tryd.underlying57
  a72 := Tryd.isAgg57
  z72 := Tryd.sizeOf57
  v72 := Tryd.zeroValue57
  t75 := Tryd.underlying59
  a75 := Tryd.isAgg59
  z75 := Tryd.sizeOf59
  v75 := Tryd.zeroValue59
  t164 := Tryd.underlying87
  a164 := Tryd.isAgg87
  z164 := Tryd.sizeOf87
  v164 := Tryd.zeroValue87 }
theorem Tryd.Builder_Extra_166 : Builder.Extra Tryd.prog Tryd.lays166_ren := {
  sizeBuilder := by kernel_rfl
  liesBuilder := by kernel_rfl
  t5 := Tryd.underlying5
  a5 := Tryd.isAgg5
  z5 := Tryd.sizeOf5
  v5 := Tryd.zeroValue5
  infoByte := by kernel_rfl
  cellsByte := by kernel_rfl
  sizeByte := by kernel_rfl
  neB5 := by decide }
theorem Tryd.Builder_Extra_167 : Builder.Extra Tryd.prog Tryd.lays167_ren := {
  sizeBuilder := by kernel_rfl
  liesBuilder := by kernel_rfl
  t5 := Tryd.underlying5
  a5 := Tryd.isAgg5
  z5 := Tryd.sizeOf5
  v5 := Tryd.zeroValue5
  infoByte := by kernel_rfl
  cellsByte := by kernel_rfl
  sizeByte := by kernel_rfl
  neB5 := by decide }
open Go.RowKit in
theorem Tryd.Builder_WriteString_k (B b : Nat) (bs : List Value) (s : ByteArray) (w : World) (h : Lib.IsBuilderF 57 5 B b bs w) (hlen : bs.length + s.size ≤ 140737488355328) (hBw : B ≤ w.heap.size) :
    Calls Tryd.prog 32 #[.pointer (some ⟨b, 0, none⟩), .string s] w fun e w' => e = .returned (.tuple #[.int .i64 s.size, .nilIface]) ∧ (Lib.BuilderAtF 57 5 B b (.pointer (some ⟨b, 0, none⟩)) (bs ++ Lib.strCells s) w' ∧ Below B w w' ∧ Lib.OthersKept 5 (some b) w w') := Any.Builder_WriteString_k Tryd.lays166 Tryd.Builder_Extra_166 B b bs s w h hlen hBw
open Go.RowKit in
theorem Tryd.Builder_WriteByte_k (B b : Nat) (bs : List Value) (c : Int) (w : World) (h : Lib.IsBuilderF 57 5 B b bs w) (hlen : bs.length + 1 ≤ 140737488355328) (hBw : B ≤ w.heap.size) :
    Calls Tryd.prog 33 #[.pointer (some ⟨b, 0, none⟩), .int .u8 c] w fun e w' => e = .returned .nilIface ∧ (Lib.BuilderAtF 57 5 B b (.pointer (some ⟨b, 0, none⟩)) (bs ++ [.int .u8 c]) w' ∧ Below B w w' ∧ Lib.OthersKept 5 (some b) w w') := Any.Builder_WriteByte_k Tryd.lays167 Tryd.Builder_Extra_167 B b bs c w h hlen hBw
end Go.Proofs

namespace Go.Eng
section
variable {P : Program} {T : Tab} {C : Ctx} {σ σ' : St} {Ret : St → Prop} {k : List It}

/-- CODE IS OPENED AS FAR AS THE NEXT OPERATION, TEST, LOOP, OR END. -/
def goR : Nat → List It → Option (List It)
  | 0, k => some k
  | n + 1, k =>
    match k with
    | .code (.seq x y) :: k => goR n (.code x :: .code y :: k)
    | .code (.block id c) :: k => goR n (.code c :: .blk id :: k)
    | .code .skip :: k => goR n k
    | .blk _ :: k => goR n k
    | .code (.exit id) :: k =>
      match exitTo id k with
      | some k' => goR n k'
      | none => none
    | .code (.region _ ops false) :: k => goR n (.ops ops ops.toList :: k)
    | .ops _ [] :: k => goR n k
    | k => some k

theorem cw_goR : ∀ (n : Nat) {k k' : List It}, goR n k = some k' → Cw P C Ret k' σ → Cw P C Ret k σ
  | 0, k, k', h, hk => by
    simp only [goR, Option.some.injEq] at h
    subst h; exact hk
  | n + 1, k, k', h, hk => by
    unfold goR at h
    split at h
    · exact cw_seq (cw_goR n h hk)
    · exact cw_block (cw_goR n h hk)
    · exact cw_skip (cw_goR n h hk)
    · exact cw_blk (cw_goR n h hk)
    · split at h
      · rename_i k1 he
        exact cw_exit he (cw_goR n h hk)
      · cases h
    · exact cw_region (cw_goR n h hk)
    · exact cw_ops_nil (cw_goR n h hk)
    · simp only [Option.some.injEq] at h
      subst h; exact hk

theorem set_getD {l : List AV} {t : Nat} {x : AV} (h : l.getD t .any = x) (hx : x ≠ .any) : l.set t x = l := by
  apply List.ext_getElem?
  intro i
  rw [List.getElem?_set]
  split
  · rename_i e
    subst e
    rw [List.getD_eq_getElem?_getD] at h
    cases e : l[t]? with
    | none => rw [e] at h; exact absurd h.symm hx
    | some y =>
      rw [e] at h
      simp only [Option.getD_some] at h
      subst h
      rw [if_pos (List.getElem?_eq_some_iff.1 e).1]
  · rfl

/-- A TRUTH VALUE GETS A NAME. -/
theorem cw_name (t : Nat) {b : Bool} (h : σ.tm.getD t .any = .bool b) (hk : ∀ c, b = c → Cw P C Ret k ⟨σ.tm.set t (.bool c), σ.hp⟩) : Cw P C Ret k σ := by
  have := hk b rfl
  rwa [set_getD h (fun h => nomatch h)] at this

/-- in a region that draws -/
theorem seg_name (t : Nat) {b : Bool} {ops : Array Oper} {Q : Exit → Act → World → Prop} {k n : Nat} {acc : Skel} {l : List Oper} (h : σ.tm.getD t .any = .bool b) (hk : ∀ c, b = c → SegFrom P C ops Q k n acc l ⟨σ.tm.set t (.bool c), σ.hp⟩) : SegFrom P C ops Q k n acc l σ := by
  have := hk b rfl
  rwa [set_getD h (fun h => nomatch h)] at this
theorem cw_condT {c : Operand} {x y : Code} {b : Bool} {p : Prop} (hc : evS σ c = (p, .bool b)) (hp : p) (hb : b = true) (ht : Cw P C Ret (.code x :: k) σ) : Cw P C Ret (.code (.cond c x y) :: k) σ :=
  cw_cond hc hp (fun _ => ht) (fun h => by rw [hb] at h; cases h)
theorem cw_condF {c : Operand} {x y : Code} {b : Bool} {p : Prop} (hc : evS σ c = (p, .bool b)) (hp : p) (hb : b = false) (hf : Cw P C Ret (.code y :: k) σ) : Cw P C Ret (.code (.cond c x y) :: k) σ :=
  cw_cond hc hp (fun h => by rw [hb] at h; cases h) (fun _ => hf)

/-! ### nil slices as empty ones -/
mutual
def nrm : AV → AV
  | .nils => .sl []
  | .sl rows => .sl (nrmR rows)
  | .rp cells off => .rp (nrmL cells) off
  | .agg cells => .agg (nrmL cells)
  | .tup vs => .tup (nrmL vs)
  | .fn f caps => .fn f (nrmL caps)
  | x => x
def nrmL : List AV → List AV
  | [] => []
  | x :: r => nrm x :: nrmL r
def nrmR : List (List AV) → List (List AV)
  | [] => []
  | x :: r => nrmL x :: nrmR r
end

theorem nrmL_map : ∀ l, nrmL l = l.map nrm
  | [] => rfl
  | x :: r => by simp [nrmL, nrmL_map r]
theorem nrmR_map : ∀ l, nrmR l = l.map nrmL
  | [] => rfl
  | x :: r => by simp [nrmR, nrmR_map r]

theorem RdP.nrm {S : Nat → Prop} {w : World} {v : Value} {x : AV} (h : RdP S w v x) : RdP S w v (Eng.nrm x) := by
  have key : ∀ {l : List AV} {f : Nat → Value}, (∀ j x, l[j]? = some x → RdP S w (f j) (Eng.nrm x)) → ∀ j x, (nrmL l)[j]? = some x → RdP S w (f j) x := fun {l f} h j x hx => by
    rw [nrmL_map, List.getElem?_map] at hx
    cases e : l[j]? with
    | none => rw [e] at hx; cases hx
    | some y => rw [e] at hx; simp only [Option.map_some, Option.some.injEq] at hx; subst hx; exact h j y e
  induction h with
  | int k n => exact .int k n
  | bool b => exact .bool b
  | str s l h => exact .str s l h
  | nilp => exact .nilp
  | nili => exact .nili
  | ifc t p => exact .ifc t p
  | nils => exact .sl none 0 0 [] 0 0 0 (fun _ _ => undef) rfl (Nat.le_refl _) (fun row h => by simp at h) (fun h => by omega) (fun i j h => by omega) (fun i row h => by simp at h)
  | nilm => exact .nilm
  | sl A len cap rows size g off vals hl hc hsz hA hcell hr ih =>
    refine .sl A len cap (nrmR rows) size g off vals (by rw [nrmR_map, List.length_map]; exact hl) hc (fun row hrow => ?_) hA hcell (fun i row hi j x hx => ?_)
    · rw [nrmR_map] at hrow
      obtain ⟨r, hr', rfl⟩ := List.mem_map.1 hrow
      rw [nrmL_map, List.length_map]; exact hsz r hr'
    · rw [nrmR_map, List.getElem?_map] at hi
      cases e : rows[i]? with
      | none => rw [e] at hi; cases hi
      | some r =>
        rw [e] at hi; simp only [Option.map_some, Option.some.injEq] at hi; subst hi
        exact key (f := vals i) (ih i r e) j x hx
  | rp g o off cells vals hS hcell hr ih =>
    refine .rp g o off (nrmL cells) vals hS (fun j hj => hcell j (by rw [nrmL_map, List.length_map] at hj; exact hj)) (key ih)
  | rm g es clk kvs vals hS hg hm hr ih => exact .rm g es clk kvs vals hS hg hm hr
  | fn f vals caps hl hr ih => exact .fn f vals _ (by rw [nrmL_map, List.length_map]; exact hl) (key ih)
  | agg cs cells hl hr ih => exact .agg cs _ (by rw [nrmL_map, List.length_map]; exact hl) (key ih)

theorem Rd.nrm {μ : Nat → Option Nat} {S : Nat → Prop} {w : World} {v : Value} {x : AV} (h : Rd μ S w v x) : Rd μ S w v (Eng.nrm x) := by
  have key : ∀ {l : List AV} {f : Nat → Value}, (∀ j x, l[j]? = some x → Rd μ S w (f j) (Eng.nrm x)) → ∀ j x, (nrmL l)[j]? = some x → Rd μ S w (f j) x := fun {l f} h j x hx => by
    rw [nrmL_map, List.getElem?_map] at hx
    cases e : l[j]? with
    | none => rw [e] at hx; cases hx
    | some y => rw [e] at hx; simp only [Option.map_some, Option.some.injEq] at hx; subst hx; exact h j y e
  induction h with
  | any v => exact .any v
  | pure h => exact .pure h.nrm
  | agg cs cells hl hr ih => exact .agg cs _ (by rw [nrmL_map, List.length_map]; exact hl) (key ih)
  | tup vs xs hl hr ih => exact .tup vs _ (by rw [nrmL_map, List.length_map]; exact hl) (key ih)
  | fn f vals caps hl hr ih => exact .fn f vals _ (by rw [nrmL_map, List.length_map]; exact hl) (key ih)
  | ptr id size row off g hg => exact .ptr id size row off g hg
  | osl id size off len cap A hc h => exact .osl id size off len cap A hc h
  | mp id g hg => exact .mp id g hg
  | exs id size off len cap g e n hc hg hr hn => exact .exs id size off len cap g e n hc hg hr hn
  | cndT v x h ih => exact .cndT v x h
  | cndF x => exact .cndF x

/-- CALLED WITH NIL SLICES AS WITH EMPTY ONES. -/
theorem FnOK.nrm {f : FuncId} {args args' : List AV} {H : List (Nat × Blk)} {post : AV → List (Nat × Blk) → Prop} (hn : nrmL args = args') (h : FnOK P f args' H post) : FnOK P f args H post := by
  intro R0 μ w0 vs hl hr hH hR
  subst hn
  refine h R0 μ w0 vs (by rw [nrmL_map, List.length_map]; exact hl) (fun j x hx => ?_) hH hR
  rw [nrmL_map, List.getElem?_map] at hx
  cases e : args[j]? with
  | none => rw [e] at hx; cases hx
  | some y => rw [e] at hx; simp only [Option.map_some, Option.some.injEq] at hx; subst hx; exact (hr j y e).nrm
attribute [go_sem] goR
end
end Go.Eng

namespace Go.Eng
section
variable {P : Program} {T : Tab} {C : Ctx} {σ σ' : St} {Ret : St → Prop} {k : List It} {μ : Nat → Option Nat} {S : Nat → Prop} {a : Act} {w : World}

/-- AN OPERATION WHOSE GUARD IS FALSE -/
theorem cw_pass (x : AV) {all : Array Oper} {o : Oper} {l : List Oper} (hg : guardOf all σ o.guard = some false) (h : Cw P C Ret (.ops all l :: k) (σ.put o.dst (.cnd false x))) : Cw P C Ret (.ops all (o :: l) :: k) σ := by
  intro a w hr
  show wpList P all _ (o :: l) a w
  unfold wpList
  obtain ⟨μ, S, hi⟩ := hr
  rw [wanted_of hi hg]
  exact h _ _ ⟨μ, S, hi.put o.dst (.cndF _)⟩

/-- a block's rows, up to its end -/
theorem Inv.widen (hi : Inv C μ S σ a w) {id s e n g d N : Nat} {rows : List (List AV)} (hb : hget σ.hp id = some (.cells e s rows)) (hg : μ id = some g) (hr : rowSize w g = some (n, N * s)) (hs : s ≠ 0) (hf : hget σ.hp d = none) :
    rows.length ≤ N ∧ Inv C μ S ⟨σ.tm, (d, .cap id s N) :: hset σ.hp id (.cells e s (rows ++ List.replicate (N - rows.length) (List.replicate s .any)))⟩ a w := by
  rcases hi.hp id _ hb with ⟨_, k2⟩ | ⟨g', c, k1, k2, k3, k4, k5⟩
  · rw [k2] at hg; cases hg
  · rw [k1] at hg; injection hg with hg; subst hg
    have hcs : c.size = N * s := by
      have := hr
      rw [rowSize, k2] at this
      simp only [Option.some.injEq, Prod.mk.injEq] at this
      exact this.2
    have hle : rows.length ≤ N := Nat.le_of_mul_le_mul_right (by rw [← hcs]; exact k3) (Nat.pos_of_ne_zero hs)
    have hid : d ≠ id := by rintro rfl; rw [hb] at hf; cases hf
    refine ⟨hle, hi.size, hi.defers, hi.tm, fun i b hb' => ?_, fun i q hq => ?_, hi.inj, hi.frm, hi.sb⟩
    · simp only [hget] at hb'
      split at hb'
      · rename_i hd
        injection hb' with hb'
        subst hd hb'
        exact ⟨hi.fresh hf, g', n, k1, hr⟩
      · rw [hget_hset] at hb'
        split at hb'
        · rename_i hi2
          injection hb' with hb'
          subst hi2 hb'
          refine .inr ⟨g', c, k1, k2, by rw [List.length_append, List.length_replicate, hcs]; exact Nat.le_of_eq (by congr 1; omega), fun row hrow => ?_, fun i row hrow j x hx => ?_⟩
          · rcases List.mem_append.1 hrow with h | h
            · exact k4 row h
            · rw [(List.mem_replicate.1 h).2]; simp
          · by_cases hil : i < rows.length
            · rw [List.getElem?_append_left hil] at hrow
              exact k5 i row hrow j x hx
            · rw [List.getElem?_append_right (by omega), List.getElem?_replicate] at hrow
              split at hrow
              · injection hrow with hrow
                subst hrow
                rw [List.getElem?_replicate] at hx
                split at hx
                · injection hx with hx; subst hx; exact .any _
                · cases hx
              · cases hrow
        · exact hi.hp i b hb'
    · obtain ⟨⟨b, h1⟩, h2⟩ := hi.dom i q hq
      refine ⟨?_, h2⟩
      simp only [hget]
      split
      · exact ⟨_, rfl⟩
      · rw [hget_hset]
        split
        · exact ⟨_, rfl⟩
        · exact ⟨b, h1⟩

/-- HOW MUCH ROOM THERE IS: whatever it is. -/
theorem cw_cap (hT : TabOK P T) {all : Array Oper} {o : Oper} {l : List Oper} {x : Operand} {t e : TypeId} {d : Nat} (ho : o.op = .call { callee := .builtin .cap, args := #[x], argTypes := #[t] }) (hd : o.dst = some d) (hg : o.guard = none) (ht : T.und t = .sl e)
    {id s off len e' : Nat} {rows : List (List AV)} (hx : evS σ x = (True, .osl id s off len)) (hb : hget σ.hp id = some (.cells e' s rows)) (h0 : 0 < len) (hs : s ≠ 0) (hf : hget σ.hp d = none)
    (h : ∀ c : Nat, len ≤ c → rows.length ≤ off + c → Cw P C Ret (.ops all l :: k) (St.put ⟨σ.tm, (d, .cap id s (off + c)) :: hset σ.hp id (.cells e' s (rows ++ List.replicate (off + c - rows.length) (List.replicate s .any)))⟩ (some d) (.int .i64 c))) :
    Cw P C Ret (.ops all (o :: l) :: k) σ := by
  intro a w ⟨μ, S, hi⟩
  have hv := hi.evS x (by rw [hx]; trivial)
  rw [hx] at hv
  obtain ⟨A, cap, hv', hc, hor⟩ := hv.inv_osl
  have hty : P.underlying t = some (.slice e) := by have := hT.und t; rw [ht] at this; exact this
  rcases hor with ⟨h1, _⟩ | ⟨g, n, m, h1, _, h3, h4⟩
  · omega
  · obtain ⟨hle, hi'⟩ := hi.widen (d := d) (N := off + cap) hb h1 (by rw [h3, h4]) hs hf
    show wpList P all _ (o :: l) a w
    unfold wpList
    rw [wanted_of hi (show guardOf all σ o.guard = some true from by rw [hg]; rfl)]
    refine .inl ?_
    unfold Oper.wp
    have hrun : (execOp a.eval o).run P w = .ok (.value (.int .i64 cap)) w := by
      have hv2 : a.eval x = .slice A len cap := hv'
      simp [execOp, ho, hv2, resolve, invoke, builtin, Builtin.cap_, run_underlying hty, goInt]
    rw [hrun, Oper.upon_value, hd]
    exact h cap hc hle _ _ ⟨μ, S, hi'.put (some d) (.pure (.int _ _))⟩

/-- A SLICE BEYOND ITS LENGTH, where there is room. -/
theorem trip_reslice (hT : TabOK P T) {o : Oper} {x hi : Operand} {t e : TypeId} (ho : o.op = .slice t x none (some hi) none) (ht : T.und t = .sl e) {id s off len h j N : Nat} (hx : evS σ x = (True, .osl id s off len)) (hh : evS σ hi = (True, .int .i64 (h : Nat)))
    (hcap : hget σ.hp j = some (.cap id s N)) (hN : off + h ≤ N) (h0 : 0 < len) (hs : T.siz e = s) (hs0 : s ≠ 0) : Trip P C o σ (σ.put o.dst (.osl id s off h)) := by
  refine trip_value fun μ S a w hi' => ?_
  have hv := hi'.evS x (by rw [hx]; trivial)
  have hu := hi'.evS hi (by rw [hh]; trivial)
  rw [hx] at hv; rw [hh] at hu
  obtain ⟨A, cap, hv', hc, hor⟩ := hv.inv_osl
  have hu' := hu.inv_int
  have hty : P.underlying t = some (.slice e) := by have := hT.und t; rw [ht] at this; exact this
  rcases hor with ⟨h1, _⟩ | ⟨g, n, m, h1, hA, h3, h4⟩
  · omega
  · obtain ⟨_, g', e', k1, k2⟩ := hi'.hp j _ hcap
    rw [k1] at h1; injection h1 with h1; subst h1
    rw [h3] at k2
    simp only [Option.some.injEq, Prod.mk.injEq] at k2
    have hNc : off + cap = N := Nat.eq_of_mul_eq_mul_right (Nat.pos_of_ne_zero hs0) (h4.trans k2.2)
    subst hA
    have hrun : (Instr.sliceAt t (.slice (some ⟨g', off * s, none⟩) len cap) none (some (.int .i64 (h : Nat))) none).run P w = .ok (.slice (some ⟨g', off * s, none⟩) h cap) w := by
      have hb := run_bounds (P := P) (w := w) true len cap 0 h none (some (.int .i64 (h : Nat))) (show BoundIs none 0 0 from rfl) (show BoundIs (some (.int .i64 (h : Nat))) len h from ⟨.i64, rfl⟩) (Nat.zero_le _) (by omega)
      by_cases hc0 : cap = 0
      · subst hc0
        simp [Instr.sliceAt, Instr.slice, run_underlying hty, hb, sizeOf_of hT (t := e) (by rw [hs]; exact hs0)]
      · simp [Instr.sliceAt, Instr.slice, run_underlying hty, hb, sizeOf_of hT (t := e) (by rw [hs]; exact hs0), hc0, Addr.add]
    refine ⟨.slice (some ⟨g', off * s, none⟩) h cap, ?_, .osl id s off h cap _ (by omega) (.inr ⟨g', n, m, k1, rfl, h3, h4⟩)⟩
    have e1 : a.eval x = .slice (some ⟨g', off * s, none⟩) len cap := hv'
    have e2 : a.eval hi = .int .i64 (h : Nat) := hu'
    simp only [execOp, ho, e1, Option.map_none, Option.map_some, e2, Sem.run_bind, hrun]
    rfl

/-- zeros are appended beyond the room that there is: a new block -/
theorem run_append_zeros (hT : TabOK P T) {t u e ty : TypeId} (ht : P.underlying t = some (.slice e)) (hu : P.underlying u = some (.int .i64)) (hs : T.siz e ≠ 0) (hb : T.byt e ≠ 0) {A : Option Addr} {len cap : Nat} {R : List (List AV)} {olds : List Value}
    (ho : Src μ S w (T.siz e) (.slice A len cap) R olds) (hlen : R.length = len) (n : Nat) (hn : n ≠ 0) (hg : ¬ len + n ≤ cap) (hsz : (2 * (len + n) + 768) * T.byt e ≤ 281474976710656) :
    ∃ (nc : Nat) (z zs : Array Value), len + n ≤ nc ∧ z.size = (nc - (len + n)) * T.siz e ∧ (∀ (μ : Nat → Option Nat) (S : Nat → Prop) (w : World), RdR μ S w (T.siz e) zs (List.replicate n (T.zer e))) ∧
      (Builtin.append_ #[t, u] ty #[.slice A len cap, .int .i64 (n : Nat)]).run P w = .ok (.slice (some ⟨w.heap.size, 0, none⟩) (len + n) nc) (w.drew.alloc (.cells (olds.toArray ++ zs ++ z) e)) := by
  obtain ⟨i, hi, hi1, hi2, z, hz, _, hzs, _⟩ := hT.siz e hs
  obtain ⟨z0, r1, r2, r3⟩ := zeros_rdr hT (e := e) n hs
  have hzz : z0 = z := by
    have := r1 w
    simp [zeroValue, typeInfo, hi, hz] at this
    exact this.symm
  subst hzz
  have hnx := nextcap_le (len + n) cap (by omega)
  have hfit : Builtin.nextslicecap (len + n) cap * i.bytes ≤ 281474976710656 := by
    rw [hi2]
    exact Nat.le_trans (Nat.mul_le_mul_right _ hnx) hsz
  have hw1 : Src μ S w.drew (T.siz e) (.slice A len cap) R olds := ⟨ho.form, ho.len, ho.rlen, fun i row hi j x hx => (ho.rd i row hi j x hx).mono (fun _ _ => rfl) (fun _ h => h) (fun _ _ h => h) (fun _ _ _ => rfl)⟩
  have g1 := run_first (P := P) hw1
  rw [hlen] at g1
  have hb' : i.bytes ≠ 0 := by rw [hi2]; exact hb
  have hnb : n * i.bytes ≤ 281474976710656 := by
    rw [hi2]
    exact Nat.le_trans (Nat.mul_le_mul_right _ (by omega)) hsz
  have hbl : n ≤ 281474976710656 := Nat.le_trans (Nat.le_mul_of_pos_right n (Nat.pos_of_ne_zero hb')) hnb
  have hneed : len + n ≤ 281474976710656 := by
    have h1 : (len + n) * T.byt e ≤ 281474976710656 := Nat.le_trans (Nat.mul_le_mul_right _ (by omega)) hsz
    exact Nat.le_trans (Nat.le_mul_of_pos_right _ (Nat.pos_of_ne_zero hb)) h1
  have hwrap : IntKind.i64.wrap (n : Int) = n := wrap_small (by omega) (by omega)
  have hnn : ¬ ((n : Int) < 0) := by omega
  have hm1 : ¬ 281474976710656 < (n : Int) * (i.bytes : Int) := by
    have h0 : ((n * i.bytes : Nat) : Int) ≤ ((281474976710656 : Nat) : Int) := Int.ofNat_le.2 hnb
    rw [Int.natCast_mul] at h0
    omega
  have hm2 : ¬ 9223372036854775807 < (len : Int) + (n : Int) := by omega
  have hns : n * T.siz e ≠ 0 := Nat.mul_ne_zero hn hs
  refine ⟨grownCap w (len + n) cap e, Builtin.zeroCells z0.cells (grownCap w (len + n) cap e - (len + n)), Builtin.zeroCells z0.cells n, grownCap_ge w _ _ _, by simp [Builtin.zeroCells, hzs], fun μ S w => ?_, ?_⟩
  · have := r3 μ S w
    simp only [r2] at this
    rw [Builtin.zeroCells, r2]; exact this
  · simp [Builtin.append_, run_underlying ht, run_underlying hu, sizeOf, typeInfo, hi, hi1, hwrap, hnn, hm1, hm2, hg, hb', hns, show ¬ 281474976710656 < Builtin.nextslicecap (len + n) cap * i.bytes by omega, g1, Question.forced, zeroValue, hz, run_newRow, grownCap, asInt, asIntOf]

/-- ZEROS BEHIND WHAT IS HELD, BEYOND ITS ROOM: a new block; what is held stays. -/
theorem trip_growZ (hT : TabOK P T) {o : Oper} {x y : Operand} {t u e : TypeId} (ho : o.op = .call { callee := .builtin .append, args := #[x, y], argTypes := #[t, u] }) (ht : T.und t = .sl e) (hu : P.underlying u = some (.int .i64))
    {id s len n j N d e' : Nat} {R : List (List AV)} (hx : evS σ x = (True, .osl id s 0 len)) (hy : evS σ y = (True, .int .i64 (n : Nat))) (hcap : hget σ.hp j = some (.cap id s N)) (hN : N < len + n) (hn : n ≠ 0)
    (hb0 : hget σ.hp id = some (.cells e' s R)) (hR : len ≤ R.length) (hs : T.siz e = s) (hs0 : s ≠ 0) (hb : T.byt e ≠ 0) (hsz : (2 * (len + n) + 768) * T.byt e ≤ 281474976710656) (hd : hget σ.hp d = none) :
    Trip P C o σ (St.put ⟨σ.tm, (d, .cells e s (R.take len ++ List.replicate n (T.zer e))) :: σ.hp⟩ o.dst (.osl d s 0 (len + n))) := by
  subst hs
  intro a w K Q ⟨μ, S, hi⟩ hK
  have hv := hi.evS x (by rw [hx]; trivial)
  have hvy := hi.evS y (by rw [hy]; trivial)
  rw [hx] at hv; rw [hy] at hvy
  have hvy' := hvy.inv_int
  have hRl : rowsOf (T.siz e) (R.take len) := by
    rcases hi.hp id _ hb0 with ⟨rfl, _⟩ | ⟨g, c, _, _, _, k4, _⟩
    · intro row hrow; simp at hrow
    · exact fun row hrow => k4 row (List.mem_of_mem_take hrow)
  have hRt : (R.take len).length = len := by simp; omega
  obtain ⟨olds, hol⟩ := src_of hi (x := .osl id (T.siz e) 0 len) (rows := R.take len) (size := T.siz e) (by simp [srcRows, hb0]) hv hRl (fun _ _ _ _ h => by injection h with _ _ _ h; rw [hRt, h])
  obtain ⟨A, cap, hv', hc, hor⟩ := hv.inv_osl
  have hty : P.underlying t = some (.slice e) := by have := hT.und t; rw [ht] at this; exact this
  have hcN : cap ≤ N := by
    rcases hor with ⟨h1, h2⟩ | ⟨g, n', m, h1, _, h3, h4⟩
    · omega
    · obtain ⟨_, g', e2, k1, k2⟩ := hi.hp j _ hcap
      rw [k1] at h1; injection h1 with h1; subst h1
      rw [h3] at k2
      simp only [Option.some.injEq, Prod.mk.injEq] at k2
      have := Nat.eq_of_mul_eq_mul_right (Nat.pos_of_ne_zero hs0) (h4.trans k2.2)
      omega
  rw [hv'] at hol
  obtain ⟨nc, z, zs, h1, h2, h3, h4⟩ := run_append_zeros (ty := o.type) hT hty hu hs0 hb hol hRt n hn (by omega) hsz
  have hfr : (execOp a.eval o).run P w = .ok (.value (.slice (some ⟨w.heap.size, 0, none⟩) (len + n) nc)) (w.drew.alloc (.cells (olds.toArray ++ zs ++ z) e)) := by
    have e1 : a.eval x = .slice A len cap := hv'
    have e2 : a.eval y = .int .i64 (n : Nat) := hvy'
    simp [execOp, ho, e1, e2, resolve, invoke, builtin, h4, -Array.append_assoc]
  have hi1 := hi.drew
  have hnod : μ d = none := hi.fresh hd
  have hm : ∀ {v x}, Rd μ S w v x → Rd (upd μ d (some w.heap.size)) S (World.alloc w.drew (.cells (olds.toArray ++ zs ++ z) e)) v x := fun h =>
    (h.mono (w' := w.drew) (fun _ _ => rfl) (fun _ h => h) (fun _ _ h => h) (fun _ _ _ => rfl)).mono (fun b hb => alloc_get _ _ b (hi1.sb b hb).1) (fun _ h => h) (fun i' g hg => by
      unfold upd; rw [if_neg (by rintro rfl; rw [hnod] at hg; cases hg)]; exact hg) (fun i' g hg => rowSize_same (alloc_get _ _ g (hi1.dom i' g hg).2.2.2))
  have hzl : rowsOf (T.siz e) (List.replicate n (T.zer e)) := fun row hrow => (h3 μ S w).len row hrow
  have hzr := h3 (upd μ d (some w.heap.size)) S (World.alloc w.drew (.cells (olds.toArray ++ zs ++ z) e))
  have hzn : zs.size = n * T.siz e := by have := hzr.size; rwa [List.length_replicate] at this
  have hget : ∀ k, k < olds.length + zs.toList.length → (olds.toArray ++ zs ++ z).getD k undef = (olds ++ zs.toList).getD k undef := fun k hk => by
    rw [Array.getD_eq_getD_getElem?, List.getD_eq_getElem?_getD, Array.getElem?_append_left (by simpa using hk)]
    rw [← Array.getElem?_toList]
    simp
  have key := joined_rd (μ := upd μ d (some w.heap.size)) (S := S) (w := World.alloc w.drew (.cells (olds.toArray ++ zs ++ z) e)) (R := R.take len) (rows := List.replicate n (T.zer e)) (cs := olds.toArray ++ zs ++ z) (s := T.siz e) (olds := olds) (vs := zs.toList)
    hol.len hRl hzl (fun i row hi' j x hx => hm (hol.rd i row hi' j x hx)) (fun i row hi' j x hx => by
      have := hzr.rd i row hi' j x hx
      rwa [Array.getD_eq_getD_getElem?, ← Array.getElem?_toList, ← List.getD_eq_getElem?_getD] at this) (by simpa using hzr.size) hget
  have hsize : (olds.toArray ++ zs ++ z).size = nc * T.siz e := by
    simp only [Array.size_append, List.size_toArray, hol.len, hRt, hzn, h2, ← Nat.add_mul]
    congr 1; omega
  unfold Oper.wp
  rw [hfr]
  show K (a.put o.dst _) _
  refine hK _ _ ⟨_, S, Inv.put (hi1.new d hd _ (.cells e (T.siz e) (R.take len ++ List.replicate n (T.zer e))) (.inr ⟨w.heap.size, _, by simp [upd], alloc_drew_new w _, ?_, fun row hrow => ?_, key⟩)) o.dst (.osl d _ 0 _ nc _ h1 (.inr ⟨w.heap.size, e, nc * T.siz e, by simp [upd], by simp, ?_, by simp⟩))⟩
  · rw [List.length_append, hRt, List.length_replicate, hsize]
    exact Nat.mul_le_mul_right _ h1
  · rcases List.mem_append.1 hrow with h | h
    · exact hRl row h
    · exact hzl row h
  · unfold rowSize
    rw [alloc_drew_new]
    show some (e, _) = some (e, _)
    rw [hsize]

/-- TWO SLICES IN TWO BLOCKS DO NOT OVERLAP. -/
theorem trip_apart (hT : TabOK P T) {o : Oper} {c x y : Operand} {ats : Array TypeId} (ho : o.op = .call { callee := .value c, args := #[x, y], argTypes := ats }) {f : FuncId} {fn : Func} {tS tR e : TypeId} (hc : evS σ c = (True, .fn f []))
    (hf : P.funcs[f]? = some fn) (hname : (fn.name == "runtime.NumGoroutine") = false) (hbody : fn.body.isNone = true) (hnx : Extern.findNext fn = none) (hfind : Extern.find fn = some (Extern.SlicesOverlaps.overlaps #[tS, tS] #[tR])) (ht : T.und tS = .sl e) (hs : T.siz e ≠ 0)
    {i1 i2 s1 s2 o1 o2 l1 l2 e1 e2 z1 z2 : Nat} {R1 R2 : List (List AV)} (hx : evS σ x = (True, .osl i1 s1 o1 l1)) (hy : evS σ y = (True, .osl i2 s2 o2 l2)) (hne : i1 ≠ i2) (hl1 : 0 < l1) (hl2 : 0 < l2) (hz2 : s2 ≠ 0)
    (hb1 : hget σ.hp i1 = some (.cells e1 z1 R1)) (_hb2 : hget σ.hp i2 = some (.cells e2 z2 R2)) : Trip P C o σ (σ.put o.dst (.bool false)) := by
  refine trip_value fun μ S a w hi => ?_
  have hv := hi.evS x (by rw [hx]; trivial)
  have hu := hi.evS y (by rw [hy]; trivial)
  have hg := hi.evS c (by rw [hc]; trivial)
  rw [hx] at hv; rw [hy] at hu; rw [hc] at hg
  obtain ⟨A, ca, ha, hca, hor⟩ := hv.inv_osl
  obtain ⟨B, cb, hb, hcb, hor2⟩ := hu.inv_osl
  obtain ⟨vals, he, hl, _⟩ := hg.inv_fn
  have hv0 : vals = #[] := Array.eq_empty_of_size_eq_zero (by simpa using hl)
  subst hv0
  have hty : P.underlying tS = some (.slice e) := by have := hT.und tS; rw [ht] at this; exact this
  rcases hor with ⟨h, _⟩ | ⟨g1, n1, m1, k1, rfl, k3, k4⟩
  · omega
  rcases hor2 with ⟨h, _⟩ | ⟨g2, n2, m2, q1, rfl, q3, q4⟩
  · omega
  have hgne : g1 ≠ g2 := fun h => hne (hi.inj i1 i2 g1 k1 (h ▸ q1))
  have hfro : ∀ off, w.frozen? { block := g1, off } = false := fun off => by
    rcases hi.hp i1 _ hb1 with ⟨_, h⟩ | ⟨g', c', h1, h2, _⟩
    · rw [k1] at h; cases h
    · rw [k1] at h1; injection h1 with h1; subst h1
      simp [World.frozen?, h2]
  have hsh : ∀ {g n m}, rowSize w g = some (n, m) → w.shape? g = some (n, m) := fun {g n m} h => by
    unfold rowSize at h
    unfold World.shape?
    split at h
    · rename_i h'
      rw [h']; exact h
    · cases h
  have hm2 : m2 ≠ 0 := by
    rw [← q4]
    exact Nat.mul_ne_zero (by omega) hz2
  have hrun := Lib.run_overlaps_apart (P := P) w tS tR e hty (T.siz e) (fun w => sizeOf_of hT hs) ⟨g1, o1 * s1, none⟩ ⟨g2, o2 * s2, none⟩ l1 ca l2 cb hgne n1 n2 m1 m2 (hsh k3) (hsh q3) hm2 (hfro _) (hfro _)
  have hcall := run_callFunc_extern hf hname hbody hnx hfind #[a.eval x, a.eval y] w
  rw [ha, hb, hrun] at hcall
  refine ⟨.bool false, ?_, .pure (.bool _)⟩
  simp [execOp, ho, resolve, he, Deferred.ofValue, invoke, ha, hb, hcall]

/-- ROWS THAT NOBODY ASKS FOR ARE FORGOTTEN. -/
theorem le_shrink (n : Nat) {id e s : Nat} {rows : List (List AV)} (hb : hget σ.hp id = some (.cells e s rows)) : Le C σ ⟨σ.tm, hset σ.hp id (.cells e s (rows.take n))⟩ := by
  rintro a w ⟨μ, S, hi⟩
  refine ⟨μ, S, hi.size, hi.defers, hi.tm, fun i b hb' => ?_, fun i q hq => ?_, hi.inj, hi.frm, hi.sb⟩
  · simp only [hget_hset] at hb'
    split at hb'
    · rename_i h1
      injection hb' with hb'
      subst h1 hb'
      rcases hi.hp id _ hb with ⟨rfl, k2⟩ | ⟨g, c, k1, k2, k3, k4, k5⟩
      · exact .inl ⟨by simp, k2⟩
      · refine .inr ⟨g, c, k1, k2, Nat.le_trans (Nat.mul_le_mul_right _ (by rw [List.length_take]; omega)) k3, fun row hr => k4 row (List.mem_of_mem_take hr), fun i row hr j x hx => ?_⟩
        rw [List.getElem?_take] at hr
        split at hr
        · exact k5 i row hr j x hx
        · cases hr
    · exact hi.hp i b hb'
  · obtain ⟨⟨b, h1⟩, h2⟩ := hi.dom i q hq
    refine ⟨?_, h2⟩
    simp only [hget_hset]
    split
    · exact ⟨_, rfl⟩
    · exact ⟨b, h1⟩

/-- a nil slice, as an empty one -/
def nil1 : AV → AV
  | .nils => .sl []
  | x => x
theorem Rd.nil1 {v : Value} {x : AV} (h : Rd μ S w v x) : Rd μ S w v (nil1 x) := by
  cases x <;> try exact h
  exact h.nrm

/-- WHAT IS HANDED BACK IN SOME BLOCK is handed back in block 'k', nil slices as empty ones. -/
theorem FnOK.renum {f : FuncId} {args : List AV} {H : List (Nat × Blk)} {s e n : Nat} {rows rows' : List (List AV)} (k : Nat) (h : FnOK P f args H fun r H' => ∃ j, r = .osl j s 0 n ∧ hget H' j = some (.cells e s rows))
    (hr : rows.map (fun row => row.map nil1) = rows') (hp : ∀ row, row ∈ rows → ∀ x, x ∈ row → refs x = []) : FnOK P f args H fun r H' => r = .osl k s 0 n ∧ ∀ i b, hget [(k, .cells e s rows')] i = some b → hget H' i = some b := by
  subst hr
  intro R0 μ w0 vs hl ha hH hR
  refine (h R0 μ w0 vs hl ha hH hR).mono ?_
  rintro e' w' ⟨v, r, H', μ', S', rfl, ⟨j, rfl, hb⟩, h4, h5, h6, h7, h8⟩
  let ν : Nat → Option Nat := fun i => if i = k then μ' j else none
  have hν : ∀ {i g}, ν i = some g → i = k ∧ μ' j = some g := fun {i g} h => by
    simp only [ν] at h
    split at h
    · exact ⟨by assumption, h⟩
    · cases h
  have hνk : ν k = μ' j := by simp [ν]
  refine ⟨v, _, [(k, .cells e s (rows.map (fun row => row.map nil1)))], ν, S', rfl, ⟨rfl, fun i b h => h⟩, ?_, ⟨fun i b h => ?_, fun i g h => ?_, fun i i' g h h' => by rw [(hν h).1, (hν h').1], h5.glob.sub fun i g h => ⟨j, (hν h).2⟩⟩, h6, fun i g h => h7 j g (hν h).2, h8⟩
  · obtain ⟨A, cap, rfl, hc, hor⟩ := h4.inv_osl
    refine .osl k s 0 n cap A hc ?_
    rcases hor with h | ⟨g, e2, m, k1, k2, k3, k4⟩
    · exact .inl h
    · exact .inr ⟨g, e2, m, hνk.trans k1, k2, k3, k4⟩
  · simp only [hget] at h
    split at h
    · rename_i hk
      injection h with h
      subst hk h
      rcases h5.blk j _ hb with ⟨k1, k2⟩ | ⟨g, c, k1, k2, k3, k4, k5⟩
      · exact .inl ⟨by rw [k1]; rfl, hνk.trans k2⟩
      · refine .inr ⟨g, c, hνk.trans k1, k2, by rw [List.length_map]; exact k3, fun row hrow => ?_, fun i row hi q x hx => ?_⟩
        · obtain ⟨r0, h0, rfl⟩ := List.mem_map.1 hrow
          rw [List.length_map]; exact k4 r0 h0
        · rw [List.getElem?_map] at hi
          cases e0 : rows[i]? with
          | none => rw [e0] at hi; cases hi
          | some r0 =>
            rw [e0] at hi
            simp only [Option.map_some, Option.some.injEq] at hi
            subst hi
            rw [List.getElem?_map] at hx
            cases e1 : r0[q]? with
            | none => rw [e1] at hx; cases hx
            | some y =>
              rw [e1] at hx
              simp only [Option.map_some, Option.some.injEq] at hx
              subst hx
              exact ((k5 i r0 e0 q y e1).free (hp r0 (List.mem_of_getElem? e0) y (List.mem_of_getElem? e1))).nil1
    · cases h
  · obtain ⟨h1, h2⟩ := hν h
    subst h1
    exact ⟨⟨.cells e s (rows.map (fun row => row.map nil1)), by simp [hget]⟩, (h5.dom j g h2).2⟩
end
end Go.Eng

namespace Go.Eng
section
variable {P : Program} {T : Tab} {C : Ctx} {σ σ' : St} {Ret : St → Prop} {k : List It}

theorem sub_nil : ∀ H, sub [] H = []
  | [] => rfl
  | p :: r => by simp [sub, sub_nil r]
theorem del_nil : ∀ H, del [] H = H
  | [] => rfl
  | p :: r => by simp [del, del_nil r]
theorem killL_nil (l : List AV) : l.map (killL []) = l := by
  have : killL [] = id := by funext x; simp [killL]
  rw [this, List.map_id]

/-- A CALL IN A REGION THAT DRAWS, that holds nothing, and hands back what is held. -/
theorem seg_callN {ops : Array Oper} {Q : Exit → Act → World → Prop} {k n : Nat} {acc : Skel} {o : Oper} {l : List Oper} {c : Operand} {args : Array Operand} {ats : Array TypeId} (off : Nat) (ho : o.op = .call { callee := .value c, args, argTypes := ats }) (hg : o.guard = none) {p : Prop} {f : FuncId} {xs : List AV}
    (h : callArgs σ c args.toList = some (p, f, xs)) (hp : p) (hc : Callable P f) (hx : refsL xs = []) {K : List (Nat × Blk)} {r : AV} (hf : FnOK P f xs [] fun r' H' => r' = r ∧ ∀ id b, hget K id = some b → hget H' id = some b) (hc3 : closed K (refs r) = true)
    {r2 : AV} (hr : ren off r = r2) {K2 : List (Nat × Blk)} (hK : renH off K = K2) (hn : (K2.all fun b => (hget σ.hp b.1).isNone) = true)
    {sk : List Loc × List Loc} (hs : ((Sp.mk o.dst r2 K2 (locsG ops o.guard ++ (locsO σ c ++ locsL σ args.toList))).wr, locsG ops o.guard ++ (locsO σ c ++ locsL σ args.toList)) = sk)
    (ha : St.put ⟨σ.tm, K2 ++ σ.hp⟩ o.dst r2 = σ') (hk : SegFrom P C ops Q k n (acc ++ [sk]) l σ') : SegFrom P C ops Q k n acc (o :: l) σ := by
  subst hr hK
  refine seg_robN (q := ⟨o.dst, ren off r, renH off K, locsG ops o.guard ++ (locsO σ c ++ locsL σ args.toList)⟩) ?_ (fun b hb _ => ?_) (by rw [← hs]) (by rw [← ha]; rfl) hk
  · intro s hagree hfree a w Kp Q' hr hKp
    have hg' : guardOf ops s o.guard = some true := by rw [hg]; rfl
    obtain ⟨μ, S, hi⟩ := hr
    rw [wanted_of hi hg']
    refine .inl ?_
    refine trip_callG ho (by rw [callArgs_agree (fun x hx => hagree x (List.mem_append_right _ hx))]; exact h) hp hc [] off (H := []) (K := K) (r := r) (sub_nil _) (by rw [hx]; rfl) rfl (by simp) hc3 ?_ hf ?_ a w Kp Q' ⟨μ, S, hi⟩ hKp
    · rw [List.all_eq_true]
      intro q hq
      have hm : (q.1 + off, renB off q.2) ∈ renH off K := List.mem_map.2 ⟨q, hq, rfl⟩
      have h0 : hget s.hp (q.1 + off) = none := by
        by_cases h : Loc.blk (q.1 + off) ∈ locsG ops o.guard ++ (locsO σ c ++ locsL σ args.toList)
        · have h1 := List.all_eq_true.1 hn _ hm
          have h2 : hget σ.hp (q.1 + off) = none := by simpa using h1
          exact (hagree _ h).trans h2
        · exact hfree _ hm h
      rw [h0]
      rfl
    · rw [killL_nil, del_nil]; rfl
  · have := List.all_eq_true.1 hn b hb
    simpa using this

/-- AN EMPTY BLOCK MAY BE THOUGHT OF. -/
theorem le_empty (id e s : Nat) (hf : hget σ.hp id = none) : Le C σ ⟨σ.tm, (id, .cells e s []) :: σ.hp⟩ := by
  rintro a w ⟨μ, S, hi⟩
  refine ⟨μ, S, hi.size, hi.defers, hi.tm, fun i b hb => ?_, fun i q hq => ?_, hi.inj, hi.frm, hi.sb⟩
  · simp only [hget] at hb
    split at hb
    · rename_i h1
      injection hb with hb
      subst h1 hb
      exact .inl ⟨rfl, hi.fresh hf⟩
    · exact hi.hp i b hb
  · obtain ⟨⟨b, h1⟩, h2⟩ := hi.dom i q hq
    refine ⟨?_, h2⟩
    simp only [hget]
    split
    · exact ⟨_, rfl⟩
    · exact ⟨b, h1⟩

/-- CELLS THAT NAME A BLOCK ARE FORGOTTEN. -/
theorem le_killB (ref id : Nat) {e s : Nat} {rows rows' : List (List AV)} (hb : hget σ.hp id = some (.cells e s rows)) (hr : rows.map (fun row => row.map (kill ref)) = rows') : Le C σ ⟨σ.tm, hset σ.hp id (.cells e s rows')⟩ := by
  subst hr
  rintro a w ⟨μ, S, hi⟩
  refine ⟨μ, S, hi.size, hi.defers, hi.tm, fun i b hb' => ?_, fun i q hq => ?_, hi.inj, hi.frm, hi.sb⟩
  · simp only [hget_hset] at hb'
    split at hb'
    · rename_i h1
      injection hb' with hb'
      subst h1 hb'
      rcases hi.hp id _ hb with ⟨rfl, k2⟩ | ⟨g, c, k1, k2, k3, k4, k5⟩
      · exact .inl ⟨by simp, k2⟩
      · refine .inr ⟨g, c, k1, k2, by rw [List.length_map]; exact k3, fun row hrow => ?_, fun i row hi' q x hx => ?_⟩
        · obtain ⟨r0, h0, rfl⟩ := List.mem_map.1 hrow
          rw [List.length_map]; exact k4 r0 h0
        · rw [List.getElem?_map] at hi'
          cases e0 : rows[i]? with
          | none => rw [e0] at hi'; cases hi'
          | some r0 =>
            rw [e0] at hi'
            simp only [Option.map_some, Option.some.injEq] at hi'
            subst hi'
            rw [List.getElem?_map] at hx
            cases e1 : r0[q]? with
            | none => rw [e1] at hx; cases hx
            | some y =>
              rw [e1] at hx
              simp only [Option.map_some, Option.some.injEq] at hx
              subst hx
              unfold kill
              split
              · exact .any _
              · exact k5 i r0 e0 q y e1
    · exact hi.hp i b hb'
  · obtain ⟨⟨b, h1⟩, h2⟩ := hi.dom i q hq
    refine ⟨?_, h2⟩
    simp only [hget_hset]
    split
    · exact ⟨_, rfl⟩
    · exact ⟨b, h1⟩

/-- WHAT IS HANDED BACK READS WITH EMPTY SLICES IN PLACE OF NIL ONES, too. -/
theorem FnOK.nrmR {f : FuncId} {args : List AV} {H : List (Nat × Blk)} {X Y : AV} (h : FnOK P f args H fun r _ => r = X) (hn : Eng.nrm X = Y) : FnOK P f args H fun r _ => r = Y := by
  subst hn
  intro R0 μ w0 vs hl ha hH hR
  refine (h R0 μ w0 vs hl ha hH hR).mono ?_
  rintro e' w' ⟨v, r, H', μ', S', rfl, rfl, h4, h5⟩
  exact ⟨v, _, H', μ', S', rfl, rfl, h4.nrm, h5⟩

/-! ### A store in a region that draws -/

/-- the same slots, the same blocks -/
structure Sim (σ τ : St) : Prop where
  tm : σ.tm = τ.tm
  hp : ∀ id, hget σ.hp id = hget τ.hp id

theorem Sim.app {σ τ : St} (h : Sim σ τ) (p : Sp) : Sim (p.app σ) (p.app τ) := by
  refine ⟨?_, fun id => ?_⟩
  · unfold Sp.app St.put
    cases p.dst <;> simp [h.tm]
  · unfold Sp.app
    rw [St.put_hp, St.put_hp]
    show hget (p.new ++ σ.hp) id = hget (p.new ++ τ.hp) id
    rw [hget_append, hget_append, h.hp id]
theorem Sim.symm {σ τ : St} (h : Sim σ τ) : Sim τ σ := ⟨h.tm.symm, fun id => (h.hp id).symm⟩
theorem Sim.appAll {σ τ : St} : ∀ (ps : List Sp), Sim σ τ → Sim (Eng.appAll ps σ) (Eng.appAll ps τ) := fun ps => by
  induction ps generalizing σ τ with
  | nil => exact id
  | cons p r ih => exact fun h => ih (h.app p)
theorem Sim.agree {σ τ s : St} (h : Sim σ τ) {x : Loc} (hx : AgreeAt σ s x) : AgreeAt τ s x := by
  cases x with
  | tm t => show _ = _; rw [← h.tm]; exact hx
  | blk id => show _ = _; rw [← h.hp]; exact hx
theorem Sim.rob {σ τ : St} (h : Sim σ τ) {ops : Array Oper} {o : Oper} {p : Sp} (hr : Rob P C ops o p τ) : Rob P C ops o p σ := fun s ha hf => hr s (fun x hx => h.agree (ha x hx)) hf
theorem Sim.chain {ops : Array Oper} : ∀ (l : List Oper) (ps : List Sp) {σ τ : St}, Sim σ τ → RobChain P C ops l ps τ → RobChain P C ops l ps σ
  | [], [], _, _, _, h => h
  | _ :: l, p :: ps, _, _, h, hr => ⟨h.rob hr.1, Sim.chain l ps (h.app p) hr.2⟩
  | [], _ :: _, _, _, _, h => h
  | _ :: _, [], _, _, _, h => h
theorem Sim.fresh : ∀ (ps : List Sp) {σ τ : St}, Sim σ τ → FreshAll ps τ → FreshAll ps σ
  | [], _, _, _, h => h
  | p :: ps, _, _, h, hf => ⟨fun b hb hn => by rw [h.hp]; exact hf.1 b hb hn, Sim.fresh ps (h.app p) hf.2⟩
theorem DrawOK.sim {ops : Array Oper} {Q : Exit → Act → World → Prop} {k : Nat} {σ τ : St} (h : Sim σ τ) (hd : DrawOK P C ops Q k τ) : DrawOK P C ops Q k σ := fun a w hr =>
  hd a w (rel_same (by rw [h.tm]) (fun t => by rw [h.tm]) h.hp a w hr)
theorem SegFrom.sim {ops : Array Oper} {Q : Exit → Act → World → Prop} {k n : Nat} {acc : Skel} {l : List Oper} {σ τ : St} (h : Sim σ τ) (hs : SegFrom P C ops Q k n acc l τ) : SegFrom P C ops Q k n acc l σ := by
  obtain ⟨l1, l2, ps, h1, h2, h3, h4, h5, h6⟩ := hs
  exact ⟨l1, l2, ps, h1, h2, h.chain _ _ h3, h.fresh _ h4, h5, DrawOK.sim (h.appAll ps) h6⟩

theorem cellsAt_agree {t : TypeId} {x : AV} : cellsAt T t x = cellsAt T t x := rfl

/-- A STORE IN A REGION THAT DRAWS, into a block that is held. -/
theorem seg_store (hT : TabOK P T) {ops : Array Oper} {Q : Exit → Act → World → Prop} {k n : Nat} {acc : Skel} {o : Oper} {l : List Oper} {t : TypeId} {x y : Operand} (ho : o.op = .store t x y) (hd : o.dst = none) (hg : guardOf ops σ o.guard = some true) {id size row off : Nat} (hx : evS σ x = (True, .ptr id size row off))
    {q : Prop} {v : AV} (hy : evS σ y = (q, v)) (hq : q) {p : Prop} {H : List (Nat × Blk)} (h : storeOp T σ t (.ptr id size row off) v = some (p, H)) (hp : p) {b : Blk} (hH : hget H id = some b)
    {sk : List Loc × List Loc} (hs : ([Loc.blk id], locsG ops o.guard ++ (locsL σ [x, y] ++ [Loc.blk id])) = sk) (ha : (⟨σ.tm, hset σ.hp id b⟩ : St) = σ') (hk : SegFrom P C ops Q k n (acc ++ [sk]) l σ') : SegFrom P C ops Q k n acc (o :: l) σ := by
  subst hs ha
  have hform : H = hset σ.hp id b := by
    unfold storeOp at h
    split at h
    · rename_i id' size' row' off' xs heq1 heq2
      injection heq1 with e1 e2 e3 e4
      subst e1 e2 e3 e4
      split at h
      · split at h
        · simp only [Option.some.injEq, Prod.mk.injEq] at h
          obtain ⟨_, rfl⟩ := h
          rw [hget_hset, if_pos rfl] at hH
          injection hH with hH
          rw [hH]
        · cases h
      · cases h
    · cases h
  refine seg_robN (q := ⟨none, .any, [(id, b)], locsG ops o.guard ++ (locsL σ [x, y] ++ [Loc.blk id])⟩) (σ' := Sp.app ⟨none, .any, [(id, b)], locsG ops o.guard ++ (locsL σ [x, y] ++ [Loc.blk id])⟩ σ) ?_ (fun c hc hn => ?_) rfl rfl ?_
  · intro s hagree _ a w K Q' hr hK
    have hg' : guardOf ops s o.guard = some true := by rw [guard_agree (fun x hx => hagree x (List.mem_append_left _ hx))]; exact hg
    obtain ⟨μ, S, hi⟩ := hr
    rw [wanted_of hi hg']
    refine .inl ?_
    have hl : ∀ z, z ∈ locsL σ [x, y] → AgreeAt σ s z := fun z hz => hagree z (List.mem_append_right _ (List.mem_append_left _ hz))
    have hx' : evS s x = (True, .ptr id size row off) := by rw [evS_agree (fun z hz => hl z (locsL_mem (by simp) z hz))]; exact hx
    have hy' : evS s y = (q, v) := by rw [evS_agree (fun z hz => hl z (locsL_mem (by simp) z hz))]; exact hy
    have hb : hget s.hp id = hget σ.hp id := hagree (.blk id) (List.mem_append_right _ (List.mem_append_right _ (by simp)))
    have hst : storeOp T s t (.ptr id size row off) v = some (p, hset s.hp id b) := by
      unfold storeOp at h ⊢
      split at h
      · rename_i id' size' row' off' xs heq1 heq2
        injection heq1 with e1 e2 e3 e4
        subst e1 e2 e3 e4
        rw [hb]
        split at h
        · split at h
          · simp only [Option.some.injEq, Prod.mk.injEq] at h
            obtain ⟨rfl, rfl⟩ := h
            rw [hget_hset, if_pos rfl] at hH
            injection hH with hH
            subst hH
            rw [if_pos (by assumption)]
          · cases h
        · cases h
      · cases h
    have hstep : stepOp T s o.dst o.op = some ((evS s x).1 ∧ (evS s y).1 ∧ p, ⟨s.tm, hset s.hp id b⟩) := by
      rw [ho, hd]
      show (storeOp T s t (evS s x).2 (evS s y).2).map _ = _
      rw [hx', hy', hst]; rfl
    have hnd : (St.mk s.tm (hset s.hp id b)).hp = hset s.hp id b := rfl
    refine step_sound hT o hstep ⟨by rw [hx']; trivial, by rw [hy']; exact hq, hp⟩ a w K Q' ⟨μ, S, hi⟩ fun a' w' hr' => hK a' w' ?_
    show Rel C ⟨s.tm, (id, b) :: s.hp⟩ a' w'
    refine rel_same (s := ⟨s.tm, hset s.hp id b⟩) (s' := ⟨s.tm, (id, b) :: s.hp⟩) rfl (fun t => rfl) (fun i => ?_) a' w' hr'
    show hget (hset s.hp id b) i = hget ((id, b) :: s.hp) i
    rw [hget_hset]; rfl
  · have hc' := List.mem_singleton.1 hc
    subst hc'
    exact absurd (List.mem_append_right _ (List.mem_append_right _ (by simp))) hn
  · refine SegFrom.sim (τ := ⟨σ.tm, hset σ.hp id b⟩) ⟨rfl, fun i => ?_⟩ hk
    show hget ((id, b) :: σ.hp) i = hget (hset σ.hp id b) i
    rw [hget_hset]; rfl
end
end Go.Eng

namespace Go.Eng
section
variable {P : Program} {T : Tab} {C : Ctx} {μ : Nat → Option Nat} {S : Nat → Prop} {σ σ' : St} {a : Act} {w : World} {Ret : St → Prop} {k : List It}

/-- cells, one by one, by their fields' types -/
def eqT (T : Tab) : List TypeId → List AV → List AV → Option Bool
  | [], [], [] => some true
  | t :: ts, .int k x :: a, .int k' y :: b => match T.und t with
    | .int _ => if k = k' then (eqT T ts a b).map fun r => x == y && r else none
    | _ => none
  | t :: ts, .bool x :: a, .bool y :: b => match T.und t with
    | .bool => (eqT T ts a b).map fun r => x == y && r
    | _ => none
  | t :: ts, .str x :: a, .str y :: b => match T.und t with
    | .str => (eqT T ts a b).map fun r => x == y && r
    | _ => none
  | _, _, _ => none

def fieldsAre : List Field → Nat → List TypeId → Bool
  | [], _, [] => true
  | f :: fs, j, t :: ts => f.name != "_" && f.offset == j && f.type == t && fieldsAre fs (j + 1) ts
  | _, _, _ => false

/-- a struct whose fields are of these types, one cell each -/
def eqStruct (P : Program) (t : TypeId) (tys : List TypeId) : Bool :=
  match P.underlying t with
  | some (.struct F) => !P.stoodInHeld t && !P.eqGuardType P.depth t && fieldsAre F.toList 0 tys
  | _ => false

theorem run_eqFields (hT : TabOK P T) {xs ys : Array Value} {A B : List AV} (hsx : xs.size = A.length) (hsy : ys.size = B.length) (hx : ∀ j x, A[j]? = some x → Rd μ S w (xs.getD j undef) x) (hy : ∀ j x, B[j]? = some x → Rd μ S w (ys.getD j undef) x) (d : Nat) :
    ∀ (fs : List Field) (j : Nat) (ts : List TypeId) (r : Bool), fieldsAre fs j ts = true → eqT T ts (A.drop j) (B.drop j) = some r → (Op.eqFields (d + 1) xs ys fs).run P w = .ok r w := by
  intro fs
  induction fs with
  | nil =>
    intro j ts r h he
    cases ts with
    | nil =>
      cases hA : A.drop j <;> cases hB : B.drop j <;> rw [hA, hB] at he <;> simp only [eqT, Option.some.injEq, reduceCtorEq] at he
      subst he
      simp [Op.eqFields]
    | cons t ts => simp [fieldsAre] at h
  | cons f fs ih =>
    intro j ts r h he
    cases ts with
    | nil => simp [fieldsAre] at h
    | cons t ts =>
      simp only [fieldsAre, Bool.and_eq_true, bne_iff_ne, ne_eq, beq_iff_eq] at h
      obtain ⟨⟨⟨h1, h2⟩, h3⟩, h4⟩ := h
      subst h2 h3
      cases hA : A.drop f.offset with
      | nil => rw [hA] at he; cases hB : B.drop f.offset <;> rw [hB] at he <;> simp [eqT] at he
      | cons p A' =>
        cases hB : B.drop f.offset with
        | nil => rw [hA, hB] at he; cases p <;> simp [eqT] at he
        | cons q B' =>
          have hA1 : A[f.offset]? = some p := by have := congrArg (fun l => l[0]?) hA; simpa using this
          have hB1 : B[f.offset]? = some q := by have := congrArg (fun l => l[0]?) hB; simpa using this
          have hA2 : A.drop (f.offset + 1) = A' := by rw [← List.drop_drop, hA]; rfl
          have hB2 : B.drop (f.offset + 1) = B' := by rw [← List.drop_drop, hB]; rfl
          have hAl : f.offset < A.length := (List.getElem?_eq_some_iff.1 hA1).1
          have hBl : f.offset < B.length := (List.getElem?_eq_some_iff.1 hB1).1
          have hpx : ∀ b, (T.und f.type).isA = some b → b = false → (part f.type xs f.offset).run P w = .ok (xs.getD f.offset undef) w := fun b hb hf => by
            subst hf
            simp [part, isAgg_of hT hb, hsx, hAl, Array.getD_eq_getD_getElem?]
          have hpy : ∀ b, (T.und f.type).isA = some b → b = false → (part f.type ys f.offset).run P w = .ok (ys.getD f.offset undef) w := fun b hb hf => by
            subst hf
            simp [part, isAgg_of hT hb, hsy, hBl, Array.getD_eq_getD_getElem?]
          have rx := hx _ _ hA1
          have ry := hy _ _ hB1
          have hk := hT.und f.type
          have ih' := fun r' he' => ih (f.offset + 1) ts r' h4 he'
          rw [hA2, hB2] at ih'
          rw [hA, hB] at he
          cases hu : T.und f.type <;> rw [hu] at hk <;> cases p <;> cases q <;> simp only [eqT, hu, reduceCtorEq] at he
          · obtain ⟨r0, h0, rfl⟩ := Option.map_eq_some_iff.1 he
            have e1 := rx.inv_bool
            have e2 := ry.inv_bool
            simp only [Op.eqFields, h1, not_false_eq_true, if_true, ne_eq, Sem.run_bind, hpx false (by rw [hu]; rfl) rfl, hpy false (by rw [hu]; rfl) rfl, Result.andThen_ok, e1, e2, run_equalIn_bool' w d f.type _ _ hk]
            rename_i b1 b2
            cases hb : (b1 == b2)
            · simp
            · simp [ih' r0 h0]
          · split at he
            · rename_i hkk
              obtain ⟨r0, h0, rfl⟩ := Option.map_eq_some_iff.1 he
              have e1 := rx.inv_int
              have e2 := ry.inv_int
              subst hkk
              simp only [Op.eqFields, h1, not_false_eq_true, if_true, ne_eq, Sem.run_bind, hpx false (by rw [hu]; rfl) rfl, hpy false (by rw [hu]; rfl) rfl, Result.andThen_ok, e1, e2, run_equalIn_int w d f.type _ _ _ _ hk]
              rename_i b1 b2 
              cases hb : (b1 == b2)
              · simp
              · simp [ih' r0 h0]
            · cases he
          · obtain ⟨r0, h0, rfl⟩ := Option.map_eq_some_iff.1 he
            obtain ⟨s1, e1, q1⟩ := rx.inv_str
            obtain ⟨s2, e2, q2⟩ := ry.inv_str
            subst q1 q2
            simp only [Op.eqFields, h1, not_false_eq_true, if_true, ne_eq, Sem.run_bind, hpx false (by rw [hu]; rfl) rfl, hpy false (by rw [hu]; rfl) rfl, Result.andThen_ok, e1, e2, run_equalIn_string w d f.type _ _ hk, ByteArray.toList_eq]
            cases hb : (s1.data.toList == s2.data.toList)
            · simp
            · simp [ih' r0 h0]

theorem sound_eqS (hT : TabOK P T) {t : TypeId} {tys : List TypeId} (hc : eqStruct P t tys = true) {ox oy : Operand} {v u : Value} {A B : List AV} {r : Bool} (h : eqT T tys A B = some r) (hv : Rd μ S w v (.agg A)) (hu : Rd μ S w u (.agg B)) {op : BinOp} {q : Bool} (hop : (op = .eql ∧ q = r) ∨ (op = .neq ∧ q = !r)) :
    (do eqGuard op t ox oy v u; binOp op t v u : Sem Value).run P w = .ok (.bool q) w := by
  obtain ⟨xs, rfl, hxl, hxr⟩ := hv.inv_agg
  obtain ⟨ys, rfl, hyl, hyr⟩ := hu.inv_agg
  unfold eqStruct at hc
  split at hc
  · rename_i F hF
    simp only [Bool.and_eq_true, Bool.not_eq_true'] at hc
    obtain ⟨⟨h1, h2⟩, h3⟩ := hc
    have hfo : P.fieldsOf t = F := by simp [Program.fieldsOf, hF]
    have key := run_eqFields (P := P) (w := w) hT hxl hyl hxr hyr 9998 F.toList 0 tys r h3 (by simpa using h)
    have key2 : (Op.equalIn 10000 t (.agg xs) (.agg ys)).run P w = .ok r w := by
      rw [run_equalIn_struct w 9999 t xs ys (by rw [hfo]; exact hF) h1, hfo]
      exact key
    rcases hop with ⟨rfl, rfl⟩ | ⟨rfl, rfl⟩
    · simp [run_eqGuard_agg w .eql t ox oy xs ys h2, run_eql_struct w t xs ys, key2]
    · simp [run_eqGuard_agg w .neq t ox oy xs ys h2, run_neq_struct w t xs ys, key2]
  · cases hc

/-- TWO STRUCTS ARE COMPARED. -/
theorem trip_eqS (hT : TabOK P T) {o : Oper} {op : BinOp} {t ty : TypeId} {x y : Operand} (ho : o.op = .binOp op t x y ty) {tys : List TypeId} (hc : eqStruct P t tys = true) {A B : List AV} {r : Bool} (hx : evS σ x = (True, .agg A)) (hy : evS σ y = (True, .agg B)) (h : eqT T tys A B = some r)
    {q : Bool} (hop : (op = .eql ∧ q = r) ∨ (op = .neq ∧ q = !r)) : Trip P C o σ (σ.put o.dst (.bool q)) := by
  refine trip_value fun μ S a w hi => ?_
  have hv := hi.evS x (by rw [hx]; trivial)
  have hu := hi.evS y (by rw [hy]; trivial)
  rw [hx] at hv; rw [hy] at hu
  refine ⟨.bool q, ?_, .pure (.bool _)⟩
  have := sound_eqS (ox := x) (oy := y) hT hc h hv hu hop
  simp only [execOp, ho]
  have e : (do eqGuard op t x y (a.eval x) (a.eval y); binOp op t (a.eval x) (a.eval y) : Sem Value).run P w = .ok (.bool q) w := this
  simp only [Sem.run_bind] at e ⊢
  revert e
  generalize (eqGuard op t x y (a.eval x) (a.eval y)).run P w = z
  intro e
  rw [e]; rfl
attribute [go_sem] eqT
end
end Go.Eng

namespace Go.Eng
section
variable {P : Program} {T : Tab} {C : Ctx} {μ : Nat → Option Nat} {S : Nat → Prop} {σ σ' : St} {a : Act} {w w' : World} {Ret : St → Prop} {k : List It}

/-- what is read is the same -/
def SameRd (S : Nat → Prop) (w w' : World) : Prop := ∀ b, S b → (∀ off, w'.cell? ⟨b, off, none⟩ = w.cell? ⟨b, off, none⟩) ∧ ∀ es clk, w.heap[b]? = some (.map es clk) → w'.heap[b]? = some (.map es clk)

theorem RdP.read {v : Value} {x : AV} (h : RdP S w v x) (hw : SameRd S w w') : RdP S w' v x := by
  induction h with
  | int k n => exact .int k n
  | bool b => exact .bool b
  | str s l h => exact .str s l h
  | nilp => exact .nilp
  | nili => exact .nili
  | ifc t p => exact .ifc t p
  | nils => exact .nils
  | nilm => exact .nilm
  | sl A len cap rows size g off vals hl hc hsz hA hcell hr ih =>
    refine .sl A len cap rows size g off vals hl hc hsz hA (fun i j hi hj => ?_) ih
    rw [(hw g (hA (by omega)).2).1]
    exact hcell i j hi hj
  | rp g o off cells vals hS hcell hr ih =>
    refine .rp g o off cells vals hS (fun j hj => ?_) ih
    rw [(hw g hS).1]
    exact hcell j hj
  | rm g es clk kvs vals hS hg hm hr ih => exact .rm g es clk kvs vals hS ((hw g hS).2 es clk hg) hm ih
  | fn f vals caps hl hr ih => exact .fn f vals caps hl ih
  | agg cs cells hl hr ih => exact .agg cs cells hl ih

theorem Rd.read {v : Value} {x : AV} (h : Rd μ S w v x) (hw : SameRd S w w') (hz : ∀ id g, μ id = some g → rowSize w' g = rowSize w g) : Rd μ S w' v x := by
  induction h with
  | any v => exact .any v
  | pure h => exact .pure (h.read hw)
  | agg cs cells hl hr ih => exact .agg cs cells hl ih
  | tup vs xs hl hr ih => exact .tup vs xs hl ih
  | fn f vals caps hl hr ih => exact .fn f vals caps hl ih
  | ptr id size row off g hg => exact .ptr id size row off g hg
  | osl id size off len cap A hc h =>
    refine .osl id size off len cap A hc ?_
    rcases h with h | ⟨g, e, n, h1, h2, h3, h4⟩
    · exact .inl h
    · exact .inr ⟨g, e, n, h1, h2, (hz _ _ h1).trans h3, h4⟩
  | mp id g hg => exact .mp id g hg
  | exs id size off len cap g e n hc hg hr hn => exact .exs id size off len cap g e n hc hg ((hz _ _ hg).trans hr) hn
  | cndT v x h ih => exact .cndT v x ih
  | cndF x => exact .cndF x

theorem BlkOK.read {id : Nat} {b : Blk} (h : BlkOK μ S w id b) (hw : SameRd S w w') (hb : ∀ id g, μ id = some g → w'.heap[g]? = w.heap[g]?) : BlkOK μ S w' id b := by
  have hz : ∀ id g, μ id = some g → rowSize w' g = rowSize w g := fun id g h => rowSize_same (hb id g h)
  cases b with
  | cells e s rows =>
    rcases h with ⟨h1, h2⟩ | ⟨g, c, h1, h2, h3, h4, h5⟩
    · exact .inl ⟨h1, h2⟩
    · exact .inr ⟨g, c, h1, (hb _ _ h1).trans h2, h3, h4, fun i row hi j x hj => (h5 i row hi j x hj).read hw hz⟩
  | map kvs =>
    obtain ⟨g, es, clk, vals, h1, h2, h3, h4⟩ := h
    exact ⟨g, es, clk, vals, h1, (hb _ _ h1).trans h2, h3, fun p hi => (h4 p hi).read hw⟩
  | iter kvs seen =>
    obtain ⟨g, es, clk, vals, had, h1, h2, h4⟩ := h
    obtain ⟨m, k1, k2, k3⟩ := h2.lies
    exact ⟨g, es, clk, vals, had, h1, ⟨⟨m, (hb _ _ h1).trans k1, k2, (hw m k2).2 _ _ k3⟩, h2.map, h2.last, h2.had⟩, fun p hi => (h4 p hi).read hw⟩
  | cap id' s N =>
    obtain ⟨h1, g, e, h2, h3⟩ := h
    exact ⟨h1, g, e, h2, (hz _ _ h2).trans h3⟩
  | pin id' g t n =>
    obtain ⟨h1, h2, h3⟩ := h
    exact ⟨h1, h2, (hz _ _ h2).trans h3⟩

/-- a block of ours that is read alone bears a mark -/
theorem Inv.mark (hi : Inv C μ S σ a w) {g : Nat} {c : Array Value} {e : TypeId} {f f' : Nat × Nat} (hA : C.A0 g ∨ C.w0.heap.size ≤ g) (hg : w.heap[g]? = some (.cells c e f)) (hno : ∀ id, μ id ≠ some g)
    (hos : w'.os = w.os) (htp : w'.tape = w.tape) (hout : w'.output = w.output) (hsz : w'.heap.size = w.heap.size) (hne : ∀ b, b ≠ g → w'.heap[b]? = w.heap[b]?) (hg' : w'.heap[g]? = some (.cells c e f')) : Inv C μ S σ a w' := by
  have hw : SameRd S w w' := fun b hb => by
    by_cases h : b = g
    · subst h
      refine ⟨fun off => ?_, fun es clk h => ?_⟩
      · rw [cell_of hg', cell_of hg]
      · rw [hg] at h; cases h
    · refine ⟨fun off => cell_same (hne b h), fun es clk h1 => ?_⟩
      rw [hne b h]; exact h1
  have hb : ∀ id q, μ id = some q → w'.heap[q]? = w.heap[q]? := fun id q h => hne q (by rintro rfl; exact hno id h)
  refine ⟨hi.size, hi.defers, fun t x hx => (hi.tm t x hx).read hw (fun id q h => rowSize_same (hb id q h)), fun id b h => (hi.hp id b h).read hw hb, fun id q h => ?_, hi.inj, ?_, fun b hb => ?_⟩
  · obtain ⟨h1, h2, h3, h4⟩ := hi.dom id q h
    exact ⟨h1, h2, h3, by omega⟩
  · exact hi.frm.step (fun b => b = g) ⟨hos, htp, hout, by omega, fun b _ h => hne b h⟩ (fun b h => by rw [h]; exact hA)
  · have := hi.sb b hb
    exact ⟨by omega, this.2⟩

/-- THE BYTES OF A CONSTANT TEXT: the block is written no more. -/
theorem trip_bytes (hT : TabOK P T) {o : Oper} {t e : TypeId} {x : Operand} (ho : o.op = .convert t t x) (ht : T.und t = .sl e) (he : T.und e = .int .u8) {id e' n : Nat} {rows : List (List AV)} (hx : evS σ x = (True, .osl id 1 0 n)) (hb : hget σ.hp id = some (.cells e' 1 rows)) (hn : 0 < n) (hl : rows.length = n)
    (hp : (rows.all fun row => row.all AV.pureB) = true) : Trip P C o σ (St.put ⟨σ.tm.map (frz id 1 rows), frzH id 1 rows σ.hp⟩ o.dst (.sl rows)) := by
  intro a w K Q ⟨μ, S, hi⟩ hK
  have hv := hi.evS x (by rw [hx]; trivial)
  rw [hx] at hv
  have hfz := inv_freeze hb hp hi
  have hA0 := hi.hp id _ hb
  obtain ⟨A, cap, hv', hc, hor⟩ := hv.inv_osl
  have hty : P.underlying t = some (.slice e) := by have := hT.und t; rw [ht] at this; exact this
  have hte : P.underlying e = some (.int .u8) := by have := hT.und e; rw [he] at this; exact this
  rcases hor with ⟨h1, _⟩ | ⟨g, e2, m, h1, rfl, h3, h4⟩
  · omega
  rcases hA0 with ⟨rfl, _⟩ | ⟨g', c, k1, k2, k3, k4, k5⟩
  · simp at hl; omega
  rw [h1] at k1; injection k1 with k1; subst k1
  have hdom := hi.dom id g h1
  have hsh : w.shape? g = some (e', c.size) := by unfold World.shape?; rw [k2]
  have hlt : g < w.heap.size := hdom.2.2.2
  obtain ⟨w1, hw1, q1, q2, q3, q4, q5, q6⟩ : ∃ w1, w.freeze ⟨g, c.size, none⟩ 1 = w1 ∧ w1.os = w.os ∧ w1.tape = w.tape ∧ w1.output = w.output ∧ w1.heap.size = w.heap.size ∧ (∀ b, b ≠ g → w1.heap[b]? = w.heap[b]?) ∧ w1.heap[g]? = some (.cells c e' (c.size, c.size + 1)) := by
    refine ⟨_, rfl, ?_⟩
    unfold World.freeze
    rw [if_neg (by decide)]
    refine ⟨rfl, rfl, rfl, by simp, fun b hb => ?_, ?_⟩
    · simp [Array.getElem?_modify, Ne.symm hb]
    · have hgl := k2
      simp only [Array.getElem?_modify, if_true, hgl]
      rfl
  have hrun : (convert t t (.slice (some ⟨g, 0, none⟩) n cap)).run P w = .ok (.slice (some ⟨g, 0, none⟩) n cap) w1 := by
    simp [convert, run_underlying hty, run_underlying hte, markStringish, hsh, hw1]
  have e1 : a.eval x = .slice (some ⟨g, 0, none⟩) n cap := by rw [hv']
  have hex : (execOp a.eval o).run P w = .ok (.value (.slice (some ⟨g, 0, none⟩) n cap)) w1 := by
    simp only [execOp, ho, e1, Sem.run_bind, hrun]
    rfl
  have hmk := hfz.mark (w' := w1) hdom.2.1 k2 (fun i h => by
    unfold upd at h
    split at h
    · cases h
    · rename_i hne; exact hne (hi.inj _ _ _ h h1)) q1 q2 q3 q4 q5 q6
  unfold Oper.wp
  rw [hex]
  refine hK _ _ ⟨_, _, hmk.put o.dst (.pure ?_)⟩
  refine .sl _ n cap rows 1 g 0 (fun i j => c.getD (i * 1 + j) undef) hl hc k4 (fun _ => ⟨rfl, .inr h1⟩) (fun i j hi' hj => ?_) (fun i row hi' j y hy => ?_)
  · have hj0 : j = 0 := by omega
    subst hj0
    rw [cell_of q6, Array.getD_eq_getD_getElem?, Array.getElem?_eq_getElem (by omega)]
    simp [Array.getElem?_eq_getElem (show i < c.size by omega)]
  · have hpy := List.all_eq_true.1 (List.all_eq_true.1 hp row (List.mem_of_getElem? hi')) y (List.mem_of_getElem? hy)
    have h0 := ((k5 i row hi' j y hy).toP hpy).mono (SameOn.refl _ _) (S' := fun b => S b ∨ μ id = some b) (fun _ h => .inl h)
    refine h0.read fun b hb => ?_
    by_cases hbg : b = g
    · subst hbg
      exact ⟨fun off => by rw [cell_of q6, cell_of k2], fun es clk h => by rw [k2] at h; cases h⟩
    · exact ⟨fun off => cell_same (q5 b hbg), fun es clk h => by rw [q5 b hbg]; exact h⟩
end
end Go.Eng

namespace Go.Eng
section
variable {P : Program} {T : Tab} {C : Ctx} {μ : Nat → Option Nat} {S : Nat → Prop} {σ σ' : St} {Ret : St → Prop} {k : List It}

/-- where what is handed over lies -/
def pins (ids : List Nat) (G Y N : Nat → Nat) : List (Nat × Blk) := ids.map fun i => (5000 + i, .pin i (G i) (Y i) (N i))

theorem hget_pins (G Y N : Nat → Nat) (i : Nat) : ∀ (ids : List Nat), hget (pins ids G Y N) i = if 5000 ≤ i ∧ ids.contains (i - 5000) = true then some (.pin (i - 5000) (G (i - 5000)) (Y (i - 5000)) (N (i - 5000))) else none
  | [] => by simp [pins, hget]
  | j :: r => by
    have ih := hget_pins G Y N i r
    simp only [pins, List.map_cons, hget] at ih ⊢
    by_cases e : 5000 + j = i
    · subst e
      rw [if_pos rfl, if_pos ⟨by omega, by rw [Nat.add_sub_cancel_left]; simp⟩, Nat.add_sub_cancel_left]
    · rw [if_neg e, ih]
      by_cases h : 5000 ≤ i
      · have hne : i - 5000 ≠ j := by omega
        simp only [h, true_and, List.contains_cons]
        simp [hne]
      · rw [if_neg (fun hh => h hh.1), if_neg (fun hh => h hh.1)]

theorem hget_hsetAll (i : Nat) : ∀ (K H : List (Nat × Blk)), (K.map (·.1)).Nodup → hget (hsetAll H K) i = if (hget K i).isSome = true then hget K i else hget H i
  | [], H, _ => by simp [hsetAll, hget]
  | (j, b) :: r, H, hn => by
    simp only [List.map_cons, List.nodup_cons] at hn
    simp only [hsetAll, hget]
    rw [hget_hsetAll i r _ hn.2, hget_hset]
    by_cases e : j = i
    · subst e
      have h0 : hget r j = none := by
        cases h : hget r j with
        | none => rfl
        | some c => exact absurd (List.mem_map.2 ⟨_, hget_mem h, rfl⟩) hn.1
      simp [h0]
    · simp [e]

/-- what may be pinned: rows of cells, or a map -/
def pinnable : Blk → Bool
  | .cells _ s rows => !rows.isEmpty && s != 0
  | .map _ => true
  | _ => false

theorem pin_of {w : World} {id : Nat} {b : Blk} (h : BlkOK μ S w id b) (hp : pinnable b = true) : ∃ g t n, μ id = some g ∧ rowSize w g = pinS t n := by
  cases b with
  | cells e s rows =>
    simp only [pinnable, Bool.and_eq_true, Bool.not_eq_true', List.isEmpty_eq_false_iff, bne_iff_ne] at hp
    rcases h with ⟨rfl, _⟩ | ⟨g, c, h1, h2, h3, _⟩
    · exact absurd rfl hp.1
    · refine ⟨g, e, c.size, h1, ?_⟩
      have hpos : 0 < rows.length := by
        rcases Nat.eq_zero_or_pos rows.length with h | h
        · exact absurd (List.eq_nil_of_length_eq_zero h) hp.1
        · exact h
      have : 0 < rows.length * s := Nat.mul_pos hpos (Nat.pos_of_ne_zero hp.2)
      unfold rowSize pinS
      rw [h2, if_neg (by omega)]; rfl
  | map kvs =>
    obtain ⟨g, es, clk, vals, h1, h2, _⟩ := h
    refine ⟨g, 0, 0, h1, ?_⟩
    unfold rowSize pinS
    rw [h2]; rfl
  | iter kvs seen => cases hp
  | cap id s N => cases hp
  | pin id g t n => cases hp

/-- A CALL THAT TURNS WHAT 'ids' NAME IN ITS PLACE. -/
theorem trip_callP {o : Oper} {c : Operand} {args : Array Operand} {ats : Array TypeId} (ho : o.op = .call { callee := .value c, args, argTypes := ats }) {p : Prop} {f : FuncId} {xs : List AV}
    (h : callArgs σ c args.toList = some (p, f, xs)) (hp : p) (hc : Callable P f) (ids : List Nat) {H K : List (Nat × Blk)} {r : AV} (hH : sub ids σ.hp = H)
    (hck : ((refsL xs).all ids.contains && (refs r).all ids.contains && ids.all (fun i => decide (i < 5000) && (hget K i).isSome) && K.all (fun q => ids.contains q.1)) = true) (hnd : (K.map (·.1)).Nodup)
    (hpin : (ids.all fun i => match hget H i with | some b => pinnable b | none => false) = true) (hc1 : (H.all fun q => (refsB q.2).all ids.contains) = true) (hc2 : (K.all fun q => (refsB q.2).all ids.contains) = true)
    (hf : ∀ G Y N : Nat → Nat, FnOK P f xs (H ++ pins ids G Y N) fun r' H' => r' = r ∧ ∀ i b, hget (K ++ pins ids G Y N) i = some b → hget H' i = some b) {τ : St} (hτ : (⟨σ.tm, hsetAll σ.hp K⟩ : St).put o.dst r = τ) : Trip P C o σ τ := by
  subst hH hτ
  simp only [Bool.and_eq_true] at hck
  obtain ⟨⟨⟨hx, hr⟩, hi1⟩, hK1⟩ := hck
  have hxr : ∀ i, i ∈ refsL xs → ids.contains i = true := fun i h => List.all_eq_true.1 hx i h
  have hrr : ∀ i, i ∈ refs r → ids.contains i = true := fun i h => List.all_eq_true.1 hr i h
  have hid : ∀ i, ids.contains i = true → i < 5000 ∧ ∃ b, hget K i = some b := fun i h => by
    have := List.all_eq_true.1 hi1 i (by simpa using h)
    rw [Bool.and_eq_true, decide_eq_true_eq] at this
    exact ⟨this.1, Option.isSome_iff_exists.1 this.2⟩
  have hKi : ∀ i b, hget K i = some b → ids.contains i = true := fun i b h => List.all_eq_true.1 hK1 _ (hget_mem h)
  intro a w Kp Q ⟨μ, S, hi⟩ hKp
  obtain ⟨vs, h1, h2, h3⟩ := exec_call hi ho h hp hc
  unfold Oper.wp
  rw [h3]
  have hpn : ∀ i, ∃ g t n, ids.contains i = true → μ i = some g ∧ rowSize w g = pinS t n := fun i => by
    by_cases e : ids.contains i = true
    · have := List.all_eq_true.1 hpin i (by simpa using e)
      cases e2 : hget (sub ids σ.hp) i with
      | none => rw [e2] at this; cases this
      | some b =>
        rw [e2] at this
        have e3 : hget σ.hp i = some b := by
          rw [hget_sub, if_pos e] at e2; exact e2
        obtain ⟨g, t, n, k1, k2⟩ := pin_of (hi.hp i b e3) this
        exact ⟨g, t, n, fun _ => ⟨k1, k2⟩⟩
    · exact ⟨0, 0, 0, fun h => absurd h e⟩
  let G : Nat → Nat := fun i => Classical.choose (hpn i)
  let Y : Nat → Nat := fun i => Classical.choose (Classical.choose_spec (hpn i))
  let N : Nat → Nat := fun i => Classical.choose (Classical.choose_spec (Classical.choose_spec (hpn i)))
  have hg : ∀ i, ids.contains i = true → μ i = some (G i) ∧ rowSize w (G i) = pinS (Y i) (N i) := fun i => Classical.choose_spec (Classical.choose_spec (Classical.choose_spec (hpn i)))
  let μc : Nat → Option Nat := fun i => if ids.contains i then μ i else none
  have mc : ∀ {i g}, μc i = some g → ids.contains i = true ∧ μ i = some g := fun {i g} h => by
    simp only [μc] at h; split at h
    · exact ⟨by assumption, h⟩
    · cases h
  have mc' : ∀ {i}, ids.contains i = true → μc i = μ i := fun {i} h => by simp only [μc, h, if_true]
  have mcn : ∀ {i}, ids.contains i = false → μc i = none := fun {i} h => by simp only [μc, h, Bool.false_eq_true, if_false]
  have hsubk : ∀ i b, hget (sub ids σ.hp) i = some b → ids.contains i = true ∧ hget σ.hp i = some b := fun i b h => by
    rw [hget_sub] at h
    split at h
    · exact ⟨by assumption, h⟩
    · cases h
  refine (hf G Y N S μc w vs h1 (fun j x hj => (h2 j x hj).less fun id hid g hg => by rw [mc' (hxr id (refsL_mem hj hid))]; exact hg) ⟨fun id b hb => ?_, fun id g hg' => ?_, fun id id' g hg hg' => hi.inj id id' g (mc hg).2 (mc hg').2, hi.gok.sub fun i g h => ⟨i, (mc h).2⟩⟩ (fun b hb => (hi.sb b hb).1)).mono ?_
  · rw [hget_append] at hb
    split at hb
    · obtain ⟨q1, q2⟩ := hsubk id b hb
      have hall := List.all_eq_true.1 hc1 _ (hget_mem hb)
      exact (hi.hp id b q2).less (mc' q1) (fun i hi' g hg => by rw [mc' (List.all_eq_true.1 hall i hi')]; exact hg)
    · rw [hget_pins] at hb
      split at hb
      · rename_i hc5
        injection hb with hb
        subst hb
        have hno : ids.contains id = false := by
          cases e : ids.contains id with
          | false => rfl
          | true => have := (hid id e).1; omega
        exact ⟨mcn hno, by rw [mc' hc5.2]; exact (hg _ hc5.2).1, (hg _ hc5.2).2⟩
      · cases hb
  · obtain ⟨k1, k2⟩ := mc hg'
    obtain ⟨⟨b, j1⟩, _, j3⟩ := hi.dom id g k2
    refine ⟨⟨b, ?_⟩, j3⟩
    rw [hget_append, if_pos ⟨(id, b), hget_mem (by rw [hget_sub, if_pos k1]; exact j1), rfl⟩, hget_sub, if_pos k1]; exact j1
  rintro e w' ⟨v, r', H', μ', S', rfl, ⟨rfl, hKH⟩, k1, k2, k3, k4, k5⟩
  have hKget : ∀ i b, hget K i = some b → hget H' i = some b := fun i b hb => hKH i b (by
    rw [hget_append, if_pos ⟨(i, b), hget_mem hb, rfl⟩]; exact hb)
  have hPget : ∀ i, ids.contains i = true → hget H' (5000 + i) = some (.pin i (G i) (Y i) (N i)) := fun i hi' => hKH _ _ (by
    rw [hget_append, if_neg (by
      rintro ⟨b, hb, hb2⟩
      have : ids.contains b.1 = true := List.all_eq_true.1 hK1 b hb
      have := (hid _ this).1
      omega), hget_pins, if_pos ⟨by omega, by rw [Nat.add_sub_cancel_left]; exact hi'⟩, Nat.add_sub_cancel_left])
  have hpin' : ∀ i, ids.contains i = true → μ' i = some (G i) ∧ rowSize w' (G i) = pinS (Y i) (N i) := fun i hi' => (k2.blk _ _ (hPget i hi')).2
  have hfr : Frm (fun g => ∃ id, μc id = some g) w w' := k3
  have hS : SameOn S w w' := fun b hb => hfr.block b (hi.sb b hb).1 (by rintro ⟨id, h⟩; exact (hi.dom id b (mc h).2).2.2.1 hb)
  have hO : ∀ i g, μ i = some g → ids.contains i = false → w'.heap[g]? = w.heap[g]? := fun i g hg hn => hfr.block g (hi.dom i g hg).2.2.2 (by
    rintro ⟨id, h⟩
    obtain ⟨q1, q2⟩ := mc h
    have := hi.inj _ _ _ hg q2
    subst this
    rw [q1] at hn; cases hn)
  have hz : ∀ i g, μ i = some g → rowSize w' g = rowSize w g := fun i g hg' => by
    cases e : ids.contains i with
    | false => exact rowSize_same (hO i g hg' e)
    | true =>
      obtain ⟨q1, q2⟩ := hg i e
      rw [hg'] at q1; injection q1 with q1
      rw [q1, (hpin' i e).2, q2]
  let S2 : Nat → Prop := fun b => S b ∨ S' b
  have hrd : ∀ {v x}, Rd μ S w v x → Rd μ S2 w' v x := fun hv => hv.mono hS (fun _ h => .inl h) (fun _ _ h => h) hz
  have inv : Inv C μ S2 ⟨σ.tm, hsetAll σ.hp K⟩ a w' := by
    refine ⟨hi.size, hi.defers, fun t x hx => hrd (hi.tm t x hx), fun i b hb => ?_, fun i g hg' => ?_, hi.inj, hi.frm.step _ hfr (fun g ⟨id, h⟩ => (hi.dom id g (mc h).2).2.1), fun b hb => ?_⟩
    · rw [hget_hsetAll i K σ.hp hnd] at hb
      split at hb
      · have hib := hKi i b hb
        have hB := k2.blk i b (hKget i b hb)
        have hall := List.all_eq_true.1 hc2 _ (hget_mem hb)
        have h1 : BlkOK μ S' w' i b := hB.less (by rw [(hg i hib).1, (hpin' i hib).1]) (fun j hj q hq => by
          have hjb := List.all_eq_true.1 hall j hj
          rw [(hpin' j hjb).1] at hq
          rw [(hg j hjb).1]; exact hq)
        exact h1.mono (SameOn.refl _ _) (fun _ h => .inr h) (fun _ _ h => h) (fun _ _ _ => rfl) (fun h => h) (fun _ _ => rfl)
      · rename_i hno
        have hib : ids.contains i = false := by
          cases e : ids.contains i with
          | false => rfl
          | true =>
            obtain ⟨_, c, hc'⟩ := hid i e
            rw [hc'] at hno
            exact absurd rfl hno
        exact (hi.hp i b hb).mono hS (fun _ h => .inl h) (fun _ _ h => h) hz (fun h => h) (fun g hg' => hO i g hg' hib)
    · obtain ⟨⟨b, j1⟩, j2, j3, j4⟩ := hi.dom i g hg'
      refine ⟨?_, j2, ?_, Nat.lt_of_lt_of_le j4 hfr.size⟩
      · rw [hget_hsetAll i K σ.hp hnd]
        split
        · rename_i hs
          exact Option.isSome_iff_exists.1 hs
        · exact ⟨b, j1⟩
      · rintro (h | h)
        · exact j3 h
        · cases e : ids.contains i with
          | true =>
            have := (hg i e).1
            rw [hg'] at this; injection this with this
            subst this
            exact (k2.dom i _ (hpin' i e).1).2.1 h
          | false =>
            rcases (k5 g h).2 with q | ⟨id, q⟩ | q
            · exact j3 q
            · obtain ⟨q1, q2⟩ := mc q
              have := hi.inj _ _ _ hg' q2
              subst this
              rw [q1] at e; cases e
            · omega
    · rcases hb with h | h
      · exact ⟨Nat.lt_of_lt_of_le (hi.sb b h).1 hfr.size, (hi.sb b h).2⟩
      · refine ⟨(k5 b h).1, ?_⟩
        rcases (k5 b h).2 with q | ⟨id, q⟩ | q
        · exact (hi.sb b q).2
        · rcases (hi.dom id b (mc q).2).2.1 with z | z
          · exact .inr (.inl z)
          · exact .inr (.inr z)
        · have := hi.frm.size
          exact .inr (.inr (by omega))
  refine hKp _ _ ⟨μ, S2, inv.put o.dst ?_⟩
  have h1 : Rd μ S' w' v r' := k1.less fun i hi' g hg' => by
    have hib := hrr i hi'
    rw [(hpin' i hib).1] at hg'
    rw [(hg i hib).1]; exact hg'
  exact h1.mono (SameOn.refl _ _) (fun _ h => .inr h) (fun _ _ h => h) (fun _ _ _ => rfl)

theorem partsS_agree {s : St} {t : TypeId} : ∀ {parts : List (Nat × Operand)}, (∀ q, q ∈ parts → evS s q.2 = evS σ q.2) → partsS T s t parts = partsS T σ t parts
  | [], _ => rfl
  | (j, o) :: r, h => by
    simp only [partsS]
    rw [h (j, o) (by simp), partsS_agree (fun q hq => h q (by simp [hq]))]

/-- A STRUCT IS BUILT IN A REGION THAT DRAWS. -/
theorem seg_build (hT : TabOK P T) {ops : Array Oper} {Q : Exit → Act → World → Prop} {k n : Nat} {acc : Skel} {o : Oper} {l : List Oper} {t : TypeId} {parts : Array (Nat × Operand)} (ho : o.op = .build t parts) {b : Bool} (hg : guardOf ops σ o.guard = some b)
    {p : Prop} {x : AV} (h : buildAV T σ t parts.toList = some (p, x)) (hp : b = true → p) {y : AV} (hy : (bif b then x else .cnd false x) = y)
    {sk : List Loc × List Loc} (hs : ((Sp.mk o.dst y [] (locsG ops o.guard ++ locsL σ (parts.toList.map (·.2)))).wr, locsG ops o.guard ++ locsL σ (parts.toList.map (·.2))) = sk) (ha : σ.put o.dst y = σ') (hk : SegFrom P C ops Q k n (acc ++ [sk]) l σ') : SegFrom P C ops Q k n acc (o :: l) σ := by
  refine seg_rob (rob_trip (x := y) (rd := locsL σ (parts.toList.map (·.2))) hg (by
    cases b
    · exact .inr ⟨x, hy.symm⟩
    · exact .inl rfl) (fun hb s hag => ?_)) rfl (by rw [← hs]) (by rw [← ha]; simp [Sp.app]) hk
  subst hb
  have hyx : x = y := hy
  subst hyx
  have hb2 : buildAV T s t parts.toList = some (p, x) := by
    rw [← h]
    unfold buildAV
    rw [partsS_agree (fun q hq => evS_agree fun z hz => hag z (locsL_mem (List.mem_map.2 ⟨q, hq, rfl⟩) z hz))]
  refine step_sound hT o (p := p) ?_ (hp rfl)
  rw [ho]
  simp only [stepOp, hb2, Option.map_some]
attribute [go_sem] pins pinnable
end
end Go.Eng

namespace La
open Go Go.Lib

/-- a text, cut at a byte -/
def cutL (c : UInt8) : List UInt8 → List (List UInt8)
  | [] => [[]]
  | x :: r => if x = c then [] :: cutL c r else ((x :: (cutL c r).headD []) :: (cutL c r).tail)

theorem cutL_ne (c : UInt8) (s : List UInt8) : cutL c s ≠ [] := by
  cases s with
  | nil => simp [cutL]
  | cons x r => unfold cutL; split <;> simp

theorem cutL_eq (c : UInt8) (s : List UInt8) : (cutL c s).headD [] :: (cutL c s).tail = cutL c s := by
  cases e : cutL c s with
  | nil => exact absurd e (cutL_ne c s)
  | cons p ps => rfl

theorem splitK_cut (c : UInt8) : ∀ s : List UInt8, splitK [c] 0 (count s [c]) s = cutL c s
  | [] => by rw [count_miss (by simp [index])]; rfl
  | x :: r => by
    by_cases h : x = c
    · subst h
      have hix : index (x :: r) [x] = ((0 : Nat) : Int) := by rw [index]; simp [List.isPrefixOf]
      rw [count_cons_eq, Nat.add_comm, splitK, hix]
      simp only [cutL, if_true]
      rw [← splitK_cut x r]
      simp
    · have ih := splitK_cut c r
      have hp : ([c] : List UInt8).isPrefixOf (x :: r) = false := by simp [List.isPrefixOf, Ne.symm h]
      have hix : index (x :: r) [c] = if index r [c] == -1 then -1 else index r [c] + 1 := by rw [index, hp]; simp
      rw [count_cons_ne x c r h]
      simp only [cutL, if_neg h, ← ih]
      cases e : count r [c] with
      | zero => simp [splitK]
      | succ k =>
        have hm : ¬ index r [c] = -1 := fun e2 => by rw [count_miss e2] at e; cases e
        have hge := index_ge r [c]
        obtain ⟨j, hj⟩ : ∃ j : Nat, index r [c] = j := ⟨(index r [c]).toNat, by omega⟩
        have hix' : index (x :: r) [c] = ((j + 1 : Nat) : Int) := by rw [hix, if_neg (fun e => hm (beq_iff_eq.1 e)), hj]; omega
        simp only [splitK, hix', hj]
        have h1 : ((((j + 1 : Nat) : Int)) == -1) = false := beq_eq_false_iff_ne.2 (by omega)
        have h2 : (((j : Nat) : Int) == -1) = false := beq_eq_false_iff_ne.2 (by omega)
        simp only [h1, h2]
        simp

theorem splitB_cut (c : UInt8) (s : ByteArray) : (splitB ⟨#[c]⟩ 0 (countB s ⟨#[c]⟩) s).map (·.data.toList) = cutL c s.data.toList := by
  rw [splitB_data, ← splitK_cut]

theorem countB_cut (c : UInt8) (s : ByteArray) : countB s ⟨#[c]⟩ + 1 = (cutL c s.data.toList).length := by
  rw [← splitB_cut, List.length_map, splitB_all ⟨#[c]⟩ (Nat.le_refl 1) 0 _ s rfl]

/-- as it is done byte by byte -/
def cutA (c : UInt8) : List (List UInt8) → List UInt8 → List UInt8 → List (List UInt8)
  | done, cur, [] => done ++ [cur]
  | done, cur, x :: r => if x = c then cutA c (done ++ [cur]) [] r else cutA c done (cur ++ [x]) r

theorem cutA_eq (c : UInt8) : ∀ (s : List UInt8) (done : List (List UInt8)) (cur : List UInt8), cutA c done cur s = done ++ ((cur ++ (cutL c s).headD []) :: (cutL c s).tail)
  | [], done, cur => by simp [cutA, cutL]
  | x :: r, done, cur => by
    simp only [cutA, cutL]
    split
    · rw [cutA_eq c r]
      have := cutL_eq c r
      simp only [List.nil_append, this, List.append_assoc, List.headD_cons, List.append_nil, List.tail_cons, List.singleton_append]
    · rw [cutA_eq c r]; simp

theorem cutA_cut (c : UInt8) (s : List UInt8) : cutA c [] [] s = cutL c s := by
  rw [cutA_eq, List.nil_append, List.nil_append, cutL_eq]

theorem cutL_le (c : UInt8) : ∀ s : List UInt8, (cutL c s).length ≤ s.length + 1
  | [] => by simp [cutL]
  | x :: r => by
    have := cutL_le c r
    unfold cutL
    split
    · simp; omega
    · simp; omega

theorem cutL_part (c : UInt8) : ∀ (s p : List UInt8), p ∈ cutL c s → p.length ≤ s.length
  | [], p, h => by simp [cutL] at h; subst h; simp
  | x :: r, p, h => by
    unfold cutL at h
    have ih := cutL_part c r
    split at h
    · rcases List.mem_cons.1 h with rfl | h
      · simp
      · have := ih p h; simp; omega
    · rcases List.mem_cons.1 h with rfl | h
      · have : (cutL c r).headD [] ∈ cutL c r := by
          have := cutL_eq c r
          rw [← this]; simp
        have := ih _ this; simp only [List.length_cons]; omega
      · have := ih p (List.mem_of_mem_tail h); simp; omega

/-- joined again it is the text -/
theorem join_cut (c : UInt8) : ∀ s : List UInt8, join (cutL c s) [c] = s
  | [] => by simp [cutL, join_one]
  | x :: r => by
    have ih := join_cut c r
    have he := cutL_eq c r
    unfold cutL
    split
    · rename_i h
      subst h
      rw [join_cons]
      rw [← he, join_cons] at ih
      rw [← he]
      simp only [joinTail, List.map_cons, List.flatten_cons, List.nil_append, List.cons_append] at ih ⊢
      rw [ih]
    · rw [← he, join_cons] at ih
      rw [join_cons]
      simp only [List.cons_append]
      rw [ih]

/-- texts without the byte, joined, are cut the same -/
theorem cut_plain (c : UInt8) : ∀ (p : List UInt8), c ∉ p → cutL c p = [p]
  | [], _ => rfl
  | x :: r, h => by
    simp only [List.mem_cons, not_or] at h
    rw [cutL, if_neg (fun e => h.1 e.symm), cut_plain c r h.2]
    rfl

theorem cut_app (c : UInt8) : ∀ (p s : List UInt8), c ∉ p → cutL c (p ++ c :: s) = p :: cutL c s
  | [], s, _ => by simp [cutL]
  | x :: r, s, h => by
    simp only [List.mem_cons, not_or] at h
    rw [List.cons_append, cutL, if_neg (fun e => h.1 e.symm), cut_app c r s h.2]
    rfl

theorem cut_join (c : UInt8) : ∀ (p : List UInt8) (l : List (List UInt8)), (∀ x, x ∈ p :: l → c ∉ x) → cutL c (join (p :: l) [c]) = p :: l
  | p, [], h => by rw [join_one, cut_plain c p (h p (by simp))]
  | p, q :: l, h => by
    have ih := cut_join c q l (fun x hx => h x (List.mem_cons_of_mem _ hx))
    have e : join (p :: q :: l) [c] = p ++ c :: join (q :: l) [c] := by
      rw [join_cons, join_cons]
      simp [joinTail]
    rw [e, cut_app c p _ (h p (by simp)), ih]

/-- a path as the law builds it -/
def pathF (l : List (List UInt8)) : List UInt8 := (l.map fun n => 47 :: n).flatten

theorem path_join (p : List UInt8) (l : List (List UInt8)) : (47 : UInt8) :: join (p :: l) [47] = pathF (p :: l) := by
  rw [join_cons]
  simp [joinTail, pathF]

theorem join_len (c : UInt8) : ∀ l : List (List UInt8), (join l [c]).length ≤ lens l + l.length
  | [] => by simp [join_nil, lens]
  | p :: l => by
    rw [join_cons, List.length_append, joinTail_length]
    simp [lens]; omega
end La

namespace La
open Go Go.Eng Go.Proofs Go.RowKit
set_option maxRecDepth 10000
set_option linter.unusedSimpArgs false
set_option linter.unusedVariables false


theorem bytes_eq {b : ByteArray} {l : List UInt8} (h : b.data.toList = l) : b = ⟨l.toArray⟩ := by
  subst h
  cases b
  simp

theorem frm_below {A : Nat → Prop} {w w' : World} (h : Below w.heap.size w w') : Frm A w w' := ⟨h.os, h.tape, h.output, h.size, fun b hb _ => h.block b hb⟩

/-- what a call gives that makes its answer of nothing that it holds -/
theorem fn_done {μ : Nat → Option Nat} {R0 : Nat → Prop} {w0 w' : World} {v : Value} {x : AV} {H : List (Nat × Blk)} {S' : Nat → Prop} (hH : HpOK μ R0 w0 H) (hv : RdP S' w' v x) (hw : Below w0.heap.size w0 w')
    (hS : ∀ b, S' b → b < w'.heap.size ∧ (R0 b ∨ w0.heap.size ≤ b)) :
    ∃ v' r H' μ' S'', Ending.returned v = .returned v' ∧ r = x ∧ Rd μ' S'' w' v' r ∧ HpOK μ' S'' w' H' ∧ Frm (fun g => ∃ id, μ id = some g) w0 w' ∧
      (∀ id g, μ' id = some g → (∃ id', μ id' = some g) ∨ w0.heap.size ≤ g) ∧ (∀ b, S'' b → b < w'.heap.size ∧ (R0 b ∨ (∃ id, μ id = some b) ∨ w0.heap.size ≤ b)) :=
  ⟨v, x, [], fun _ => none, S', rfl, rfl, .pure hv, ⟨fun id b h => by simp [hget] at h, fun id g h => (by cases h), fun id id' g h => (by cases h), (hH.glob.frm (frm_below hw) (fun id g h => .inl ⟨id, h⟩)).nil⟩, frm_below hw, fun id g h => (by cases h),
    fun b hb => ⟨(hS b hb).1, (hS b hb).2.elim .inl (fun h => .inr (.inr h))⟩⟩

/-- WHAT IS HANDED BACK READS WITH EMPTY SLICES IN PLACE OF NIL ONES, whichever way it came. -/
theorem fn_nrmP {P : Program} {f : FuncId} {args : List AV} {H : List (Nat × Blk)} {Y : AV} (h : FnOK P f args H fun r _ => Eng.nrm r = Y) : FnOK P f args H fun r _ => r = Y := by
  intro R0 μ w0 vs hl ha hH hR
  refine (h R0 μ w0 vs hl ha hH hR).mono ?_
  rintro e' w' ⟨v, r, H', μ', S', rfl, rfl, h4, h5⟩
  exact ⟨v, _, H', μ', S', rfl, rfl, h4.nrm, h5⟩

theorem nrm_strs (l : List (List UInt8)) : Eng.nrmR (l.map strRow) = l.map strRow := by
  rw [nrmR_map, List.map_map]
  exact List.map_congr_left fun x _ => rfl

theorem genSplit_ok (s : List UInt8) (c : UInt8) (hs : s.length < 4294967281) : FnOK Tryd.prog 42 [.str s, .str [c], .int .i64 0, .int .i64 (-1)] [] (fun r _ => r = .sl ((cutL c s).map strRow)) := by
  intro R0 μ w0 vs hl ha hH hR
  match vs, hl with
  | [v0, v1, v2, v3], _ =>
  obtain ⟨b, h0, hb⟩ := (ha 0 _ rfl).inv_str
  obtain ⟨b1, h1, hb1⟩ := (ha 1 _ rfl).inv_str
  have h2 := (ha 2 _ rfl).inv_int
  have h3 := (ha 3 _ rfl).inv_int
  simp only [List.getD_cons_zero, List.getD_cons_succ] at h0 h1 h2 h3
  subst h0 h1 h2 h3 hb
  obtain rfl := bytes_eq hb1
  have hsz : b.size < 4294967281 := by rw [Lib.size_eq]; exact hs
  have hI : ∀ (x : ByteArray) (arr : Array Value), x.size ≤ b.size → Calls Tryd.prog 52 #[.string x, .string ⟨#[c]⟩] (w0.alloc (.cells arr 9)) fun e w' => e = .returned (.int .i64 (Lib.indexB x ⟨#[c]⟩)) ∧ w' = w0.alloc (.cells arr 9) := fun x arr _ =>
    (Tryd.strings_Index_one x c _).mono fun e w' ⟨h1, h2⟩ => ⟨by rw [h1, ← Lib.index_one], h2⟩
  have hC : Calls Tryd.prog 51 #[.string b, .string ⟨#[c]⟩] w0 fun e w' => e = .returned (.int .i64 (Lib.countB b ⟨#[c]⟩)) ∧ w' = w0 :=
    (Tryd.strings_Count_one b c _).mono fun e w' ⟨h1, h2⟩ => ⟨by rw [h1]; show _ = Ending.returned (Value.int .i64 ((Lib.count b.data.toList [c] : Nat) : Int)); rw [Lib.count_one]; rfl, h2⟩
  have hle : Lib.countB b ⟨#[c]⟩ ≤ b.size := Lib.countB_le ⟨#[c]⟩ (Nat.le_refl 1) b.size b (Nat.le_refl _)
  have key : Calls Tryd.prog 42 #[.string b, .string ⟨#[c]⟩, .int .i64 0, .int .i64 (-1)] w0 fun e w' =>
      e = .returned (.slice (some ⟨w0.heap.size, 0, none⟩) (Lib.splitB ⟨#[c]⟩ 0 (Lib.countB b ⟨#[c]⟩ + 1 - 1) b).length (Lib.countB b ⟨#[c]⟩ + 1)) ∧ w' = w0.alloc (.cells (Lib.cellsOf (Lib.splitB ⟨#[c]⟩ 0 (Lib.countB b ⟨#[c]⟩ + 1 - 1) b) (Lib.countB b ⟨#[c]⟩ + 1)) 9) :=
    Any.strings_genSplit_core Tryd.lays221 (by kernel_rfl) b ⟨#[c]⟩ 0 (-1) (Lib.countB b ⟨#[c]⟩ + 1) w0 hsz (Nat.le_refl 1) (Nat.zero_le _) hI hC (by decide) (by decide) (by rw [if_pos (by decide)]; omega)
  rw [Nat.add_sub_cancel] at key
  have hlen := Lib.splitB_all ⟨#[c]⟩ (Nat.le_refl 1) 0 _ b rfl
  have e2 : Lib.cellsOf (Lib.splitB ⟨#[c]⟩ 0 (Lib.countB b ⟨#[c]⟩) b) (Lib.countB b ⟨#[c]⟩ + 1) = ((Lib.splitB ⟨#[c]⟩ 0 (Lib.countB b ⟨#[c]⟩) b).map Value.string).toArray := by rw [← hlen]; exact Lib.cellsOf_full _
  rw [e2] at key
  have hcut := splitB_cut c b
  generalize Lib.splitB ⟨#[c]⟩ 0 (Lib.countB b ⟨#[c]⟩) b = L at key hlen hcut
  refine Calls.mono key fun e w' ⟨he, hw⟩ => ?_
  rw [he, hw]
  refine fn_done hH (S' := fun g => g = w0.heap.size) ?_ (Below.alloc (Below.refl _ _) (Nat.le_refl _) _) (fun g hg => ?_)
  · refine .sl _ _ _ _ 1 w0.heap.size 0 (fun i j => .string (L.getD i ⟨#[]⟩)) ?_ (by omega) ?_ (fun _ => ⟨rfl, rfl⟩) ?_ ?_
    · rw [List.length_map, ← hcut, List.length_map]
    · intro row hrow
      obtain ⟨x, _, rfl⟩ := List.mem_map.1 hrow
      rfl
    · intro i j hi hj
      obtain rfl : j = 0 := by omega
      have hi' : i < L.length := by omega
      rw [World.cell?_alloc_new]
      simp [List.getD_eq_getElem?_getD, List.getElem?_eq_getElem hi']
    · intro i row hi j x hx
      rw [List.getElem?_map] at hi
      obtain ⟨y, hy, rfl⟩ := Option.map_eq_some_iff.1 hi
      rw [← hcut, List.getElem?_map] at hy
      obtain ⟨z, hz, rfl⟩ := Option.map_eq_some_iff.1 hy
      match j, hx with
      | 0, hx =>
        simp only [strRow, List.getElem?_cons_zero, Option.some.injEq] at hx
        subst hx
        rw [List.getD_eq_getElem?_getD, hz]
        exact .str _ _ rfl
      | j + 1, hx => simp [strRow] at hx
  · subst hg
    exact ⟨by show _ < (w0.heap.push _).size; rw [Array.size_push]; omega, .inr (Nat.le_refl _)⟩

theorem strSplit_ok (s : List UInt8) (c : UInt8) (hs : s.length < 4294967281) : FnOK Tryd.prog 24 [.str s, .str [c]] [] (fun r _ => r = .sl ((cutL c s).map strRow)) := by
  refine fn_of_cwW tabOK (Go.Proofs.Tryd.func24) rfl (fun C => ?_)
  simp only [Go.Proofs.Tryd.ntmps24, Go.Proofs.Tryd.results24, go_sem]
  refine cw_goR 99 (by simp only [go_sem]; try exact rfl) ?_
  refine cw_runN tabOK 1 (by simp only [go_sem]; exact rfl) (by simp only [go_sem]; exact rfl) (by simp only [go_sem]; try exact rfl) (by simp [go_sem]) ?_
  refine cw_goR 99 (by simp only [go_sem]; try exact rfl) ?_
  refine cw_runN tabOK 2 (by simp only [go_sem]; exact rfl) (by simp only [go_sem]; exact rfl) (by simp only [go_sem]; try exact rfl) (by simp [go_sem]) ?_
  refine cw_call rfl rfl (by simp only [go_sem]; try exact rfl) (by simp [go_sem]) ⟨_, Go.Proofs.Tryd.func42, by kernel_rfl, rfl⟩ (by simp [go_sem]) (genSplit_ok s c hs) (by simp [go_sem]) (by simp only [go_sem]; exact rfl) ?_
  refine cw_go tabOK 99 (by simp only [go_sem]; try exact rfl) (by simp [go_sem]) ?_
  refine cw_ret ⟨_, _, (by simp only [go_sem]; try exact rfl), by simp [go_sem], _, .inr (.inl rfl), ?_⟩
  rfl

theorem strJoin_ok (l : List (List UInt8)) (c : UInt8) (hl : l.length ≤ 1000000000) (hs : (Lib.join l [c]).length ≤ 140737488355328) : FnOK Tryd.prog 26 [.sl (l.map strRow), .str [c]] [] (fun r _ => r = .str (Lib.join l [c])) := by
  intro R0 μ w0 vs hl0 ha hH hR
  match vs, hl0 with
  | [v0, v1], _ =>
  have h0 := (ha 0 _ rfl).inv_sl
  obtain ⟨b1, h1, hb1⟩ := (ha 1 _ rfl).inv_str
  simp only [List.getD_cons_zero, List.getD_cons_succ] at h0 h1
  subst h1
  obtain rfl := bytes_eq hb1
  obtain ⟨A, cap, size, g, off, vals, rfl, hc, hsz, hA, hcell, hr⟩ := h0.inv_sl
  rw [List.length_map] at hc hA hcell
  cases l with
  | nil =>
    refine (Tryd.strings_Join_none A cap ⟨#[c]⟩ w0).mono fun e w' ⟨he, hw⟩ => ?_
    rw [he, hw]
    exact fn_done hH (S' := R0) (.str _ _ rfl) (Below.refl _ _) (fun g hg => ⟨hR g hg, .inl hg⟩)
  | cons p l =>
    obtain ⟨rfl, hg⟩ := hA (by simp)
    obtain rfl : 1 = size := hsz (strRow p) (by simp)
    have hkey : ∀ (j : Nat) x, ((p :: l).map fun s : List UInt8 => (⟨s.toArray⟩ : ByteArray))[j]? = some x → w0.cell? ⟨g, off + j, none⟩ = some (.string x) := by
      intro j x hx
      rw [List.getElem?_map] at hx
      obtain ⟨y, hy, rfl⟩ := Option.map_eq_some_iff.1 hx
      have hj := (List.getElem?_eq_some_iff.1 hy).1
      have hv := hr j (strRow y) (by rw [List.getElem?_map, hy]; rfl) 0 (.str y) rfl
      obtain ⟨b, e1, e2⟩ := Rd.inv_str (μ := μ) (.pure hv)
      have := hcell j 0 hj (by omega)
      rw [e1, bytes_eq e2] at this
      simpa using this
    have hm : (((p :: l).map fun s : List UInt8 => (⟨s.toArray⟩ : ByteArray)).map (·.data.toList)) = p :: l := by
      rw [List.map_map]
      exact (List.map_congr_left fun x _ => rfl).trans (List.map_id _)
    have key := Tryd.strings_Join g off cap ((p :: l).map fun s => ⟨s.toArray⟩) ⟨#[c]⟩ w0 hkey (hR g hg) (by rw [List.length_map]; omega) (by rw [List.length_map]; exact hc) (by rw [hm]; exact hs)
    rw [hm, List.length_map] at key
    rw [List.length_map]
    refine key.mono fun e w' ⟨he, hw⟩ => ?_
    rw [he]
    exact fn_done hH (S' := R0) (.str _ _ rfl) hw (fun g hg => ⟨Nat.lt_of_lt_of_le (hR g hg) hw.size, .inl hg⟩)
end La

namespace La
open Go Go.Eng Go.Proofs
set_option maxRecDepth 10000
set_option linter.unusedSimpArgs false
set_option linter.unusedVariables false

def okC (c : UInt8) : Bool := (decide (97 ≤ c.toNat) && decide (c.toNat ≤ 122)) || (decide (48 ≤ c.toNat) && decide (c.toNat ≤ 57))
def nameB (s : List UInt8) : Bool := decide (1 ≤ s.length) && decide (s.length ≤ 8) && s.all okC

theorem name_ok (s : List UInt8) (hs : s.length ≤ 100000000) : FnOK Tryd.prog 11 [.str s] [] (fun r _ => r = .bool (nameB s)) := by
  refine fn_of_cwW tabOK (Go.Proofs.Tryd.func11) rfl (fun C => ?_)
  simp only [Go.Proofs.Tryd.ntmps11, Go.Proofs.Tryd.results11, go_sem]
  refine cw_goR 99 (by simp only [go_sem]; try exact rfl) ?_
  refine cw_runN tabOK 1 (by simp only [go_sem]; exact rfl) (by simp only [go_sem]; exact rfl) (by simp only [go_sem]; try exact rfl) (by simp [go_sem]) ?_
  refine cw_goR 99 (by simp only [go_sem]; try exact rfl) ?_
  cases e1 : decide ((s.length : Int) < 1) with
  | true =>
    have hno : nameB s = false := by
      have h1 := of_decide_eq_true e1
      unfold nameB
      rw [show decide (1 ≤ s.length) = false from decide_eq_false (by omega)]; rfl
    refine cw_go tabOK 99 (by simp only [go_sem, e1]; try exact rfl) (by simp [go_sem, e1]) ?_
    refine cw_cond (by simp only [go_sem]; try exact rfl) trivial (fun h => ?_) (fun h => ?_)
    · refine cw_go tabOK 99 (by simp only [go_sem]; try exact rfl) (by simp [go_sem]) ?_
      refine cw_ret ⟨_, _, (by simp only [go_sem]; try exact rfl), by simp [go_sem], _, .inr (.inl rfl), ?_⟩
      rw [hno]
    · cases h
  | false =>
    have h1 := of_decide_eq_false e1
    cases e2 : decide ((s.length : Int) > 8) with
    | true =>
      have hno : nameB s = false := by
        have h2 := of_decide_eq_true e2
        unfold nameB
        rw [show decide (s.length ≤ 8) = false from decide_eq_false (by omega), Bool.and_false]; rfl
      refine cw_go tabOK 99 (by simp only [go_sem, e1, e2]; try exact rfl) (by simp [go_sem, e1, e2]) ?_
      refine cw_cond (by simp only [go_sem]; try exact rfl) trivial (fun h => ?_) (fun h => ?_)
      · refine cw_go tabOK 99 (by simp only [go_sem]; try exact rfl) (by simp [go_sem]) ?_
        refine cw_ret ⟨_, _, (by simp only [go_sem]; try exact rfl), by simp [go_sem], _, .inr (.inl rfl), ?_⟩
        rw [hno]
      · cases h
    | false =>
      have h2 := of_decide_eq_false e2
      have hyes : nameB s = s.all okC := by
        unfold nameB
        rw [show decide (1 ≤ s.length) = true from decide_eq_true (by omega), show decide (s.length ≤ 8) = true from decide_eq_true (by omega)]; rfl
      rw [hyes]
      refine cw_go tabOK 99 (by simp only [go_sem, e1, e2]; try exact rfl) (by simp [go_sem, e1, e2]) ?_
      refine cw_cond (by simp only [go_sem]; try exact rfl) trivial (fun h => ?_) (fun h => ?_)
      · cases h
      refine cw_go tabOK 99 (by simp only [go_sem]; try exact rfl) (by simp [go_sem]) ?_
      refine cw_loopS (fun i : Nat => i ≤ s.length ∧ ∀ j, j < i → okC (s.getD j 0) = true) (fun i => s.length - i) (fun i => [(3, .any), (4, .any), (15, .int .i64 i), (16, .any), (17, .any), (18, .any), (19, .any), (20, .any), (21, .any), (22, .any), (23, .any), (24, .any), (25, .any), (26, .any), (27, .any), (28, .any), (29, .any), (30, .any), (31, .any), (32, .any), (33, .any), (34, .any), (35, .any)]) (fun _ => []) 0 ⟨by omega, by omega⟩ ?_ fun i hi => ?_
      · simp only [go_sem]
        exact le_sub (by simp [go_sem]) (by simp [go_sem]) (by simp [go_sem])
      obtain ⟨hi, hs⟩ := hi
      simp only [go_sem]
      refine cw_go tabOK 99 (by simp only [go_sem]; try exact rfl) (by simp [go_sem]) ?_
      refine cw_cond (by simp only [go_sem]; try exact rfl) trivial (fun h => ?_) (fun h => ?_)
      · have hlt : i < s.length := by simp at h; omega
        have hw : IntKind.i64.wrap ((i : Int) + 1) = ((i + 1 : Nat) : Int) := by rw [Eng.wrap_small (by omega) (by omega)]; rfl
        have hno : okC (s.getD i 0) = false → s.all okC = false := fun h0 => by
          cases e : s.all okC with
          | false => rfl
          | true =>
            have := List.all_eq_true.1 e (s.getD i 0) (by rw [List.getD_eq_getElem?_getD, List.getElem?_eq_getElem hlt]; exact List.getElem_mem hlt)
            rw [this] at h0; cases h0
        have hyes : okC (s.getD i 0) = true → ∀ j, j < i + 1 → okC (s.getD j 0) = true := fun h0 j hj => by
          rcases Nat.lt_succ_iff_lt_or_eq.1 hj with h1 | rfl
          · exact hs j h1
          · exact h0
        refine cw_goR 99 (by simp only [go_sem]; try exact rfl) ?_
        refine cw_runN tabOK 2 (by simp only [go_sem]; exact rfl) (by simp only [go_sem]; exact rfl) (by simp only [go_sem]; try exact rfl) (by simp [go_sem]) ?_
        refine cw_goR 99 (by simp only [go_sem]; try exact rfl) ?_
        refine cw_runN tabOK 2 (by simp only [go_sem]; exact rfl) (by simp only [go_sem]; exact rfl) (by simp only [go_sem]; try exact rfl) (by simp [go_sem]) ?_
        refine cw_runN tabOK 1 (by simp only [go_sem]; exact rfl) (by simp only [go_sem]; exact rfl) (by simp only [go_sem]; try exact rfl) ?_ ?_
        · simp; omega
        refine cw_runN tabOK 1 (by simp only [go_sem]; exact rfl) (by simp only [go_sem]; exact rfl) (by simp only [go_sem]; try exact rfl) (by simp [go_sem]) ?_
        refine cw_goR 99 (by simp only [go_sem]; try exact rfl) ?_
        generalize s.getD i 0 = c at hno hyes
        have hc : okC c = ((!(decide ((c.toNat : Int) < 97)) && !(decide ((c.toNat : Int) > 122))) || (!(decide ((c.toNat : Int) < 48)) && !(decide ((c.toNat : Int) > 57)))) := by
          unfold okC
          rw [Bool.eq_iff_iff]
          simp only [Bool.or_eq_true, Bool.and_eq_true, decide_eq_true_eq, Bool.not_eq_true', decide_eq_false_iff_not]
          omega
        generalize hf1 : decide ((c.toNat : Int) < 97) = f1 at hc
        generalize hf2 : decide ((c.toNat : Int) > 122) = f2 at hc
        generalize hf3 : decide ((c.toNat : Int) < 48) = f3 at hc
        generalize hf4 : decide ((c.toNat : Int) > 57) = f4 at hc
        refine cw_runN tabOK 14 (by simp only [go_sem]; exact rfl) (by simp only [go_sem]; exact rfl) (by simp only [go_sem, hf1, hf2, hf3, hf4]; try exact rfl) ?_ ?_
        · cases f1 <;> cases f2 <;> cases f3 <;> cases f4 <;> simp
        have hb : (bif (bif f1 then true else f2) then (bif f3 then true else f4) else false) = !okC c := by
          rw [hc]; cases f1 <;> cases f2 <;> cases f3 <;> cases f4 <;> rfl
        simp only [go_sem, hb]
        refine cw_cond (by simp only [go_sem]; try exact rfl) trivial (fun h => ?_) (fun h => ?_)
        · have h0 : okC c = false := by simpa using h
          refine cw_go tabOK 99 (by simp only [go_sem]; try exact rfl) (by simp [go_sem]) ?_
          refine cw_ret ⟨_, _, (by simp only [go_sem]; try exact rfl), by simp [go_sem], _, .inr (.inl rfl), ?_⟩
          rw [hno h0]
        · have h0 : okC c = true := by simpa using h
          refine cw_go tabOK 99 (by simp only [go_sem, hw]; try exact rfl) (by simp [go_sem, hw]) ?_
          refine cw_back ⟨i + 1, ⟨by omega, hyes h0⟩, by omega, le_sub ?_ ?_ ?_⟩
          · simp [go_sem]
          · simp [go_sem]
          · simp [go_sem]
      · have e : i = s.length := by simp at h; omega
        have : s.all okC = true := List.all_eq_true.2 fun x hx => by
          obtain ⟨j, hj⟩ := List.getElem?_of_mem hx
          have := hs j (by rw [e]; exact (List.getElem?_eq_some_iff.1 hj).1)
          rwa [List.getD_eq_getElem?_getD, hj] at this
        refine cw_go tabOK 99 (by simp only [go_sem]; try exact rfl) (by simp [go_sem]) ?_
        refine cw_ret ⟨_, _, (by simp only [go_sem]; try exact rfl), by simp [go_sem], _, .inr (.inl rfl), ?_⟩
        rw [this]
end La

namespace La
open Go Go.Lib

theorem ofNat_digit {d : Nat} (h : d < 10) : (UInt8.ofNat (48 + d)).toNat = 48 + d := by
  rw [UInt8.toNat_ofNat']; omega

theorem parse_dec (u : Nat) : ∀ tail, u < 18446744073709551616 → parseUint10 0 (decDigits u ++ tail) = parseUint10 u tail := by
  induction u using Nat.strongRecOn with
  | _ u ih =>
    intro tail hu
    by_cases h : u < 10
    · rw [decDigits, dif_pos h]
      simp only [List.cons_append, List.nil_append, parseUint10, ofNat_digit h]
      rw [if_pos (by omega), if_neg (by omega), if_neg (by omega)]
      congr 1; omega
    · rw [decDigits, dif_neg h, List.append_assoc, ih (u / 10) (by omega) _ (by omega)]
      simp only [List.cons_append, List.nil_append, parseUint10, ofNat_digit (show u % 10 < 10 by omega)]
      rw [if_pos (by omega), if_neg (by omega), if_neg (by omega)]
      congr 1; omega

theorem dec_digit (u : Nat) : ∀ c, c ∈ decDigits u → 48 ≤ c.toNat ∧ c.toNat ≤ 57 := by
  induction u using Nat.strongRecOn with
  | _ u ih =>
    intro c hc
    by_cases h : u < 10
    · rw [decDigits, dif_pos h, List.mem_singleton] at hc
      subst hc; rw [ofNat_digit h]; omega
    · rw [decDigits, dif_neg h, List.mem_append, List.mem_singleton] at hc
      rcases hc with hc | rfl
      · exact ih (u / 10) (by omega) c hc
      · rw [ofNat_digit (by omega)]; omega

theorem dec_ne (u : Nat) : decDigits u ≠ [] := by
  rw [decDigits]; split <;> simp

theorem mag_dec {u : Nat} (hu : u < 18446744073709551616) : parseMag (decDigits u) = .ok u := by
  rw [parseMag, if_neg (dec_ne u)]
  have := parse_dec u [] hu
  rwa [List.append_nil] at this

theorem atoi_itoa {n : Int} (h0 : -9223372036854775808 ≤ n) (h1 : n ≤ 9223372036854775807) : atoiAll (itoa n) = .ok n := by
  unfold itoa
  split
  · rename_i h
    rw [atoiAll_minus, mag_dec (by omega)]
    simp only [signed]
    rw [if_neg (by omega)]
    congr 1; omega
  · rename_i h
    cases e : decDigits n.toNat with
    | nil => exact absurd e (dec_ne _)
    | cons c r =>
      have hc := dec_digit n.toNat c (by rw [e]; simp)
      rw [atoiAll_plain c r (by omega) (by omega), ← e, mag_dec (by omega)]
      simp only [signless]
      rw [if_neg (by omega)]
      congr 1; omega

theorem itoa_char (n : Int) : ∀ c, c ∈ itoa n → c.toNat = 45 ∨ (48 ≤ c.toNat ∧ c.toNat ≤ 57) := by
  intro c hc
  unfold itoa at hc
  split at hc
  · rcases List.mem_cons.1 hc with rfl | hc
    · exact .inl rfl
    · exact .inr (dec_digit _ c hc)
  · exact .inr (dec_digit _ c hc)

def numV (s : List UInt8) : Int := match atoiAll s with | .ok v => v | .range => atoiSat s | _ => 0
def numB (s : List UInt8) : Bool := match atoiAll s with | .ok v => itoa v == s | _ => false

theorem numV_itoa {n : Int} (h0 : -9223372036854775808 ≤ n) (h1 : n ≤ 9223372036854775807) : numV (itoa n) = n := by unfold numV; rw [atoi_itoa h0 h1]
theorem numB_itoa {n : Int} (h0 : -9223372036854775808 ≤ n) (h1 : n ≤ 9223372036854775807) : numB (itoa n) = true := by unfold numB; rw [atoi_itoa h0 h1]; simp
theorem numB_canon {s : List UInt8} (h : numB s = true) : itoa (numV s) = s := by
  unfold numB at h
  unfold numV
  rcases e : atoiAll s with v | _ | _
  · rw [e] at h; exact eq_of_beq h
  · rw [e] at h; cases h
  · rw [e] at h; cases h
theorem numV_range (s : List UInt8) : -9223372036854775808 ≤ numV s ∧ numV s ≤ 9223372036854775807 := by
  unfold numV
  rcases e : atoiAll s with v | _ | _
  · exact atoiAll_bounds e
  · show -9223372036854775808 ≤ (0 : Int) ∧ (0 : Int) ≤ 9223372036854775807
    decide
  · exact atoiSat_bounds s

/-! ### Bytes as words -/

def digits : List UInt8 := [48, 49, 50, 51, 52, 53, 54, 55, 56, 57, 97, 98, 99, 100, 101, 102]
def dig (n : Nat) : UInt8 := digits.getD n 0
def nib (c : UInt8) : Int := if 48 ≤ c.toNat ∧ c.toNat ≤ 57 then (c.toNat : Int) - 48 else if 97 ≤ c.toNat ∧ c.toNat ≤ 102 then (c.toNat : Int) - 97 + 10 else -1
def hexB (c : UInt8) : List UInt8 := [dig (c.toNat / 16), dig (c.toNat % 16)]
def hexR (d : List UInt8) : List UInt8 := if d = [] then [45] else d.flatMap hexB
def unhexL : List UInt8 → Option (List UInt8)
  | [] => some []
  | [_] => none
  | a :: b :: r => if nib a < 0 ∨ nib b < 0 then none else (unhexL r).map (UInt8.ofNat (nib a * 16 + nib b).toNat :: ·)
def unhexR (s : List UInt8) : List UInt8 × Bool := if s = [45] then ([], true) else if s = [] ∨ s.length % 2 ≠ 0 then ([], false) else match unhexL s with | none => ([], false) | some d => (d, true)

theorem nib_dig : ∀ n : Fin 16, nib (dig n.val) = (n.val : Int) := by decide
theorem dig_nib (a : UInt8) (h : ¬ nib a < 0) : dig (nib a).toNat = a ∧ (nib a).toNat < 16 := by
  have hd : ∀ n : Fin 256, ¬ nib (UInt8.ofNat n.val) < 0 → dig (nib (UInt8.ofNat n.val)).toNat = UInt8.ofNat n.val ∧ (nib (UInt8.ofNat n.val)).toNat < 16 := by decide +kernel
  have := hd ⟨a.toNat, a.toNat_lt⟩
  simp only [UInt8.ofNat_toNat] at this
  exact this h
theorem dig_char : ∀ n : Fin 16, (48 ≤ (dig n.val).toNat ∧ (dig n.val).toNat ≤ 57) ∨ (97 ≤ (dig n.val).toNat ∧ (dig n.val).toNat ≤ 102) := by decide

theorem unhexL_flat : ∀ d : List UInt8, unhexL (d.flatMap hexB) = some d
  | [] => rfl
  | c :: d => by
    have hc := c.toNat_lt
    have h1 := nib_dig ⟨c.toNat / 16, by omega⟩
    have h2 := nib_dig ⟨c.toNat % 16, by omega⟩
    simp only at h1 h2
    simp only [List.flatMap_cons, hexB, List.cons_append, List.nil_append, unhexL, unhexL_flat d, h1, h2, Option.map_some]
    rw [if_neg (by omega)]
    have : (((c.toNat / 16 : Nat) : Int) * 16 + ((c.toNat % 16 : Nat) : Int)).toNat = c.toNat := by omega
    rw [this, UInt8.ofNat_toNat]

theorem flat_unhexL : ∀ (s d : List UInt8), unhexL s = some d → d.flatMap hexB = s
  | [], d, h => by simp [unhexL] at h; subst h; rfl
  | [_], d, h => by simp [unhexL] at h
  | a :: b :: r, d, h => by
    simp only [unhexL] at h
    split at h
    · cases h
    · rename_i hn
      obtain ⟨d', h1, rfl⟩ := Option.map_eq_some_iff.1 h
      obtain ⟨e1, l1⟩ := dig_nib a (fun h => hn (.inl h))
      obtain ⟨e2, l2⟩ := dig_nib b (fun h => hn (.inr h))
      have n1 : 0 ≤ nib a := by omega
      have n2 : 0 ≤ nib b := by omega
      have ht : (nib a * 16 + nib b).toNat = (nib a).toNat * 16 + (nib b).toNat := by omega
      simp only [List.flatMap_cons, flat_unhexL r d' h1, hexB]
      rw [ht, UInt8.toNat_ofNat']
      rw [show ((nib a).toNat * 16 + (nib b).toNat) % 2 ^ 8 = (nib a).toNat * 16 + (nib b).toNat from by omega]
      rw [show ((nib a).toNat * 16 + (nib b).toNat) / 16 = (nib a).toNat from by omega, show ((nib a).toNat * 16 + (nib b).toNat) % 16 = (nib b).toNat from by omega, e1, e2]
      rfl

theorem flat_len : ∀ d : List UInt8, (d.flatMap hexB).length = 2 * d.length
  | [] => rfl
  | c :: d => by simp only [List.flatMap_cons, List.length_append, flat_len d, hexB, List.length_cons, List.length_nil]; omega

theorem unhex_hex (d : List UInt8) : unhexR (hexR d) = (d, true) := by
  unfold hexR
  split
  · rename_i h; subst h; rfl
  · rename_i h
    have hl := flat_len d
    have hd : 0 < d.length := List.length_pos_iff.2 h
    unfold unhexR
    rw [if_neg (fun e => by rw [e] at hl; simp at hl; omega), if_neg (fun e => by rcases e with e | e; · rw [e] at hl; simp at hl; omega
                                                                                  · omega), unhexL_flat]

theorem hex_unhex {s d : List UInt8} (h : unhexR s = (d, true)) : hexR d = s := by
  unfold unhexR at h
  split at h
  · rename_i e; cases h; rw [e]; rfl
  · split at h
    · cases h
    · rename_i hs
      cases e : unhexL s with
      | none => rw [e] at h; cases h
      | some d' =>
        rw [e] at h
        obtain ⟨rfl, _⟩ := Prod.mk.inj h
        have hf := flat_unhexL s d' e
        unfold hexR
        rw [if_neg (fun e0 => by subst e0; exact hs (.inl hf.symm)), hf]

theorem hex_char (d : List UInt8) : ∀ c, c ∈ hexR d → c.toNat = 45 ∨ (48 ≤ c.toNat ∧ c.toNat ≤ 57) ∨ (97 ≤ c.toNat ∧ c.toNat ≤ 102) := by
  intro c hc
  unfold hexR at hc
  split at hc
  · simp at hc; subst hc; exact .inl rfl
  · obtain ⟨x, _, hx⟩ := List.mem_flatMap.1 hc
    have hl := x.toNat_lt
    simp only [hexB, List.mem_cons, List.not_mem_nil, or_false] at hx
    rcases hx with rfl | rfl
    · exact .inr (dig_char ⟨x.toNat / 16, by omega⟩)
    · exact .inr (dig_char ⟨x.toNat % 16, by omega⟩)

theorem hexR_len (d : List UInt8) : (hexR d).length ≤ 2 * d.length + 1 := by
  unfold hexR
  split
  · simp
  · rw [flat_len]; omega
end La

namespace La
open Go Go.Eng Go.Proofs Go.RowKit
set_option maxRecDepth 100000
set_option linter.unusedSimpArgs false
set_option linter.unusedVariables false

theorem below_grow {w : World} (k : Nat) (os : Array Obj) : Below w.heap.size w (Go.Sort.grow (w.drewN k) os) :=
  ⟨rfl, rfl, rfl, by simp [Go.Sort.grow, World.drewN], fun b hb => by
    show (w.heap ++ os)[b]? = _
    rw [Array.getElem?_append_left hb]⟩

theorem glb_below {w w' : World} (h : glb.V w) (hs : ∀ b, glb.B b → b < w.heap.size) (hb : Below w.heap.size w w') : glb.V w' :=
  glb.same w w' (fun b k => hb.block b (hs b k)) h

theorem itoa_ok (n : Int) (h0 : -9223372036854775808 ≤ n) (h1 : n ≤ 9223372036854775807) : FnOK Tryd.prog 28 [.int .i64 n] [] (fun r _ => r = .str (Lib.itoa n)) := by
  intro R0 μ w0 vs hl ha hH hR
  match vs, hl with
  | [v0], _ =>
  have e0 := (ha 0 _ rfl).inv_int
  simp only [List.getD_cons_zero] at e0
  subst e0
  refine (Tryd.strconv_Itoa n h0 h1 w0 hH.glob.2.1).mono fun e w' ⟨he, k, os, hw⟩ => ?_
  rw [he, hw]
  exact fn_done hH (S' := R0) (.str _ _ rfl) (below_grow k os) (fun g hg => ⟨Nat.lt_of_lt_of_le (hR g hg) (below_grow k os).size, .inl hg⟩)

set_option maxHeartbeats 1000000 in
theorem num_walk (s : ByteArray) (w : World) (hs : s.size ≤ 100000000) (hG : glb.V w) (hB : ∀ b, glb.B b → b < w.heap.size) :
    Calls Tryd.prog 36 #[.string s] w fun e w' => e = .returned (.tuple #[.int .i64 (numV s.data.toList), .bool (numB s.data.toList)]) ∧ Below w.heap.size w w' := by
  rcases h : Lib.atoiAll s.data.toList with v | _ | _
  · have hv := Lib.atoiAll_bounds h
    have e1 : numV s.data.toList = v := by unfold numV; rw [h]
    have e2 : numB s.data.toList = (Lib.itoa v == s.data.toList) := by unfold numB; rw [h]
    rw [e1, e2]
    go_enter Tryd.func36, Tryd.ntmps36
    go_wp2_with (go_at_call 38; refine (Tryd.strconv_Atoi_ok s (by omega) v h _).mono ?_)
    rintro e W1 ⟨rfl, hW⟩
    have hb1 : Below w.heap.size w W1 := by
      rcases hW with rfl | ⟨t, rfl⟩
      · exact Below.refl _ _
      · exact Lib.bytesWorld_below _ _ _
    have hG1 := glb_below hG hB hb1
    go_wp2_with (go_at_call 28; refine (Tryd.strconv_Itoa v hv.1 hv.2 _ hG1.1).mono ?_)
    rintro e W2 ⟨rfl, k, os, hW2⟩
    have hb2 : Below w.heap.size w W2 := hb1.trans (by rw [hW2]; exact (below_grow k os).mono hb1.size)
    go_wp2
    go_ret2
    refine ⟨?_, by rw [← hW2]; exact hb2⟩
    show Ending.returned (Value.tuple #[.int .i64 v, .bool (Lib.itoa v == s.toList)]) = _
    rw [Lib.toList_data]
  · have e1 : numV s.data.toList = 0 := by unfold numV; rw [h]
    have e2 : numB s.data.toList = false := by unfold numB; rw [h]
    rw [e1, e2]
    obtain ⟨ev, k1, k2⟩ := hG.2.1
    go_enter Tryd.func36, Tryd.ntmps36
    go_wp2_with (go_at_call 38; refine (Any.strconv_Atoi_syntax Tryd.laysC172 s (by omega) h ev _ k1 k2).mono ?_)
    rintro e W1 ⟨n, rfl, h1, h2, hb1⟩
    go_wp2
    go_ret2
    exact ⟨rfl, hb1⟩
  · have e1 : numV s.data.toList = Lib.atoiSat s.data.toList := by unfold numV; rw [h]
    have e2 : numB s.data.toList = false := by unfold numB; rw [h]
    rw [e1, e2]
    obtain ⟨ev, k1, k2⟩ := hG.2.2
    go_enter Tryd.func36, Tryd.ntmps36
    go_wp2_with (go_at_call 38; refine (Tryd.strconv_Atoi_range s (by omega) h ev _ k1 k2).mono ?_)
    rintro e W1 ⟨n, rfl, h1, h2, hb1⟩
    go_wp2
    go_ret2
    exact ⟨rfl, hb1⟩

theorem num_ok (s : List UInt8) (hs : s.length ≤ 100000000) : FnOK Tryd.prog 36 [.str s] [] (fun r _ => r = .tup [.int .i64 (numV s), .bool (numB s)]) := by
  intro R0 μ w0 vs hl ha hH hR
  match vs, hl with
  | [v0], _ =>
  obtain ⟨b, h0, hb⟩ := (ha 0 _ rfl).inv_str
  simp only [List.getD_cons_zero] at h0
  subst h0 hb
  refine (num_walk b w0 (by rw [Lib.size_eq]; exact hs) hH.glob.2 (fun b hb => (hH.glob.1 b hb).1)).mono fun e w' ⟨he, hw⟩ => ?_
  rw [he]
  refine ⟨_, _, [], fun _ => none, R0, rfl, rfl, .tup _ _ rfl (fun j x hx => ?_), ⟨fun id b h => by simp [hget] at h, fun id g h => (by cases h), fun id id' g h => (by cases h), (hH.glob.frm (frm_below hw) (fun id g h => .inl ⟨id, h⟩)).nil⟩, frm_below hw, fun id g h => (by cases h),
    fun b hb => ⟨Nat.lt_of_lt_of_le (hR b hb) hw.size, .inl hb⟩⟩
  match j, hx with
  | 0, hx => simp only [List.getElem?_cons_zero, Option.some.injEq] at hx; subst hx; exact .pure (.int _ _)
  | 1, hx => simp only [List.getElem?_cons_zero, List.getElem?_cons_succ, Option.some.injEq] at hx; subst hx; exact .pure (.bool _)
  | j + 2, hx => simp at hx
end La

namespace La
open Go Go.Eng Go.Proofs

theorem idxI_any {α : Type} {p : α → Bool} (l : List α) : decide (idxI (l.findIdx? p) ≥ 0) = l.any p := by
  cases h : l.findIdx? p with
  | none =>
    rw [List.findIdx?_eq_none_iff] at h
    have : l.any p = false := by rw [List.any_eq_false]; intro x hx; simp [h x hx]
    rw [this]; rfl
  | some k =>
    have : l.any p = true := by
      obtain ⟨hk, h1, _⟩ := List.findIdx?_eq_some_iff_getElem.1 h
      exact List.any_eq_true.2 ⟨_, List.getElem_mem hk, h1⟩
    rw [this]
    simp [idxI]

/-- a view of closures hands on what they hold -/
theorem viewL_pure : ∀ {l : List AV}, (l.all AV.pureB) = true → ∃ q, (∀ h, viewL h l = some (q, l)) ∧ q
  | [], _ => ⟨True, fun _ => rfl, trivial⟩
  | x :: r, hp => by
    simp only [List.all_cons, Bool.and_eq_true] at hp
    obtain ⟨q, h1, h2⟩ := viewL_pure hp.2
    have hx : ∀ h, view h x = some (True, x) := fun h => by
      cases x with
      | osl => cases hp.1
      | ptr => cases hp.1
      | mp => cases hp.1
      | fn => cases hp.1
      | agg => cases hp.1
      | any => cases hp.1
      | tup => cases hp.1
      | cnd => cases hp.1
      | exs => cases hp.1
      | _ => rfl
    exact ⟨True ∧ q, fun h => by simp only [viewL, hx, h1], trivial, h2⟩

theorem refsL_pure : ∀ {l : List AV}, (l.all AV.pureB) = true → refsL l = []
  | [], _ => rfl
  | x :: r, hp => by
    simp only [List.all_cons, Bool.and_eq_true] at hp
    have hx : refs x = [] := by cases x <;> first | rfl | cases hp.1
    simp only [refsL, hx, refsL_pure hp.2, List.append_nil]

theorem filter_split {α : Type} {l : List α} {p : α → Bool} {j : Nat} (h : l.findIdx? p = some j) : (l.take (j + 1)).filter (fun x => !p x) = l.take j := by
  obtain ⟨hk, h1, h2⟩ := List.findIdx?_eq_some_iff_getElem.1 h
  rw [List.take_succ_eq_append_getElem hk, List.filter_append]
  have e1 : (l.take j).filter (fun x => !p x) = l.take j := List.filter_eq_self.2 fun x hx => by
    obtain ⟨i, hi⟩ := List.getElem?_of_mem hx
    rw [List.getElem?_take] at hi
    split at hi
    · rename_i hij
      have := h2 i hij
      have e : l[i]? = some l[i] := List.getElem?_eq_getElem (by omega)
      rw [e] at hi; injection hi with hi
      rw [← hi]; simpa using this
    · cases hi
  rw [e1]
  simp [h1]
/-- where DeleteFunc's second loop is: 'j' looked at, what stays is ahead -/
structure DelInv {α : Type} (p : α → Bool) (l : List α) (j : Nat) (L : List α) : Prop where
  le : j ≤ l.length
  len : L.length = l.length
  drop : L.drop j = l.drop j
  take : L.take ((l.take j).filter fun x => !p x).length = (l.take j).filter fun x => !p x
  lt : ((l.take j).filter fun x => !p x).length < j

theorem DelInv.start {α : Type} {p : α → Bool} {l : List α} {k : Nat} (h : l.findIdx? p = some k) : DelInv p l (k + 1) l := by
  have hk : k < l.length := (List.findIdx?_eq_some_iff_getElem.1 h).1
  have e := filter_split h
  have el : (l.take k).length = k := by simp; omega
  refine ⟨hk, rfl, rfl, ?_, ?_⟩
  · rw [e, el]
  · rw [e, el]; omega

theorem DelInv.get {α : Type} [Inhabited α] {p : α → Bool} {l L : List α} {j : Nat} (h : DelInv p l j L) (hj : j < l.length) : L.getD j default = l.getD j default := by
  have := h.drop
  rw [drop_getD hj, drop_getD (show j < L.length by rw [h.len]; exact hj)] at this
  injection this

theorem DelInv.skip {α : Type} [Inhabited α] {p : α → Bool} {l L : List α} {j : Nat} (h : DelInv p l j L) (hj : j < l.length) (hp : p (l.getD j default) = true) : DelInv p l (j + 1) L := by
  have e : (l.take (j + 1)).filter (fun x => !p x) = (l.take j).filter fun x => !p x := by
    rw [take_succ_getD hj, List.filter_append]; simp only [List.filter_cons, hp, List.filter_nil, Bool.not_true, Bool.false_eq_true, if_false, List.append_nil]
  refine ⟨hj, h.len, ?_, ?_, ?_⟩
  · rw [← List.drop_drop, ← List.drop_drop, h.drop]
  · rw [e]; exact h.take
  · rw [e]; have := h.lt; omega

theorem DelInv.keep {α : Type} [Inhabited α] {p : α → Bool} {l L : List α} {j : Nat} (h : DelInv p l j L) (hj : j < l.length) (hp : p (l.getD j default) = false) :
    DelInv p l (j + 1) (L.set ((l.take j).filter fun x => !p x).length (l.getD j default)) ∧ ((l.take (j + 1)).filter fun x => !p x).length = ((l.take j).filter fun x => !p x).length + 1 := by
  have e : (l.take (j + 1)).filter (fun x => !p x) = (l.take j).filter (fun x => !p x) ++ [l.getD j default] := by
    rw [take_succ_getD hj, List.filter_append]; simp only [List.filter_cons, hp, List.filter_nil, Bool.not_false, if_true]
  have hlt := h.lt
  have hlen := h.len
  have htk := h.take
  generalize hd : (l.take j).filter (fun x => !p x) = d at *
  refine ⟨⟨hj, by simp [hlen], ?_, ?_, ?_⟩, by rw [e]; simp⟩
  · have : (L.set d.length (l.getD j default)).drop (j + 1) = L.drop (j + 1) := by
      rw [List.drop_set]; rw [if_pos (by omega)]
    rw [this, ← List.drop_drop, ← List.drop_drop, h.drop]
  · rw [e]
    simp only [List.length_append, List.length_cons, List.length_nil, Nat.zero_add]
    rw [List.take_succ_eq_append_getElem (by simp; omega), List.take_set_of_le (Nat.le_refl _), htk]
    simp
  · rw [e]; simp; omega

theorem DelInv.fin {α : Type} {p : α → Bool} {l L : List α} (h : DelInv p l l.length L) : L.take (l.filter fun x => !p x).length = l.filter fun x => !p x := by
  have := h.take
  rwa [List.take_length] at this

theorem set_map {α : Type} (f : α → List AV) (l : List α) (i : Nat) (x : α) : (l.map f).set i (f x) = (l.set i x).map f := by rw [List.map_set]
theorem clear_rows {α : Type} (f : α → List AV) {L : List α} {d : List α} (z : List AV) (h : L.take d.length = d) (hd : d.length ≤ L.length) :
    overRows (L.map f) d.length (List.replicate (L.length - d.length) z) = d.map f ++ List.replicate (L.length - d.length) z := by
  unfold overRows
  rw [← List.map_take, h, List.drop_eq_nil_of_le (by simp; omega), List.append_nil]
@[go_sem, simp] theorem refsB_append (e s : Nat) (a b : List (List AV)) : Eng.refsB (.cells e s (a ++ b)) = Eng.refsB (.cells e s a) ++ Eng.refsB (.cells e s b) := by
  simp only [Eng.refsB, List.flatMap_append]
@[go_sem, simp] theorem refsB_rep (e s n : Nat) (z : List AV) (h : refsL z = []) : Eng.refsB (.cells e s (List.replicate n z)) = [] := by
  simp only [Eng.refsB]
  induction n with
  | zero => rfl
  | succ n ih => simp only [List.replicate_succ, List.flatMap_cons, h, ih, List.append_nil]
attribute [go_sem] List.map_append List.map_replicate
theorem take_app {α : Type} {a b : List α} {n : Nat} (h : n = a.length) : (a ++ b).take n = a := by subst h; simp
theorem rep_pure (n : Nat) {z : List AV} (h : (z.all AV.pureB) = true) : ((List.replicate n z).all fun row => row.all AV.pureB) = true := by
  rw [List.all_eq_true]
  intro row hr
  rw [(List.mem_replicate.1 hr).2]
  exact h
end La

namespace La
open Go Go.Eng Go.Proofs
set_option maxRecDepth 10000
set_option linter.unusedSimpArgs false
set_option linter.unusedVariables false


/-- a path's names, and what is wrong -/
def splitR (s : List UInt8) : List (List UInt8) × Int :=
  if 40 < s.length then ([], 4) else if s = [47] then ([], 0) else if s.head? ≠ some 47 then ([], 2) else
    if (cutL 47 (s.drop 1)).all nameB then (cutL 47 (s.drop 1), 0) else ([], 7)

def splitA (p : List (List UInt8) × Int) : AV := .tup [.sl (p.1.map strRow), .int .i64 p.2]


theorem split_raw (s : List UInt8) (hs : s.length ≤ 100000000) : FnOK Tryd.prog 8 [.str s] [] (fun r _ => Eng.nrm r = splitA (splitR s)) := by
  refine fn_of_cwW tabOK (Go.Proofs.Tryd.func8) rfl (fun C => ?_)
  simp only [Go.Proofs.Tryd.ntmps8, Go.Proofs.Tryd.results8, go_sem]
  refine cw_goR 99 (by simp only [go_sem]; try exact rfl) ?_
  refine cw_runN tabOK 2 (by simp only [go_sem]; exact rfl) (by simp only [go_sem]; exact rfl) (by simp only [go_sem]; try exact rfl) (by simp [go_sem]) ?_
  refine cw_go tabOK 99 (by simp only [go_sem]; try exact rfl) (by simp [go_sem]) ?_
  refine cw_cond (by simp only [go_sem]; try exact rfl) trivial (fun h => ?_) (fun h => ?_)
  · have h1 : 40 < s.length := by simp at h; omega
    refine cw_go tabOK 99 (by simp only [go_sem]; try exact rfl) (by simp [go_sem]) ?_
    refine cw_ret ⟨_, _, by simp only [go_sem]; try exact rfl, by simp [go_sem], _, .inr (.inl rfl), ?_⟩
    simp [splitR, h1, splitA, Eng.nrm, Eng.nrmL]
  have h1 : ¬ 40 < s.length := by simp at h; omega
  refine cw_go tabOK 99 (by simp only [go_sem]; try exact rfl) (by simp [go_sem]) ?_
  refine cw_cond (by simp only [go_sem]; try exact rfl) trivial (fun h => ?_) (fun h => ?_)
  · have h2 : s = [47] := by simpa using h
    refine cw_go tabOK 99 (by simp only [go_sem]; try exact rfl) (by simp [go_sem]) ?_
    refine cw_ret ⟨_, _, by simp only [go_sem]; try exact rfl, by simp [go_sem], _, .inr (.inl rfl), ?_⟩
    simp [splitR, h1, h2, splitA, Eng.nrm, Eng.nrmL]
  have h2 : s ≠ [47] := by simpa using h
  refine cw_goR 99 (by simp only [go_sem]; try exact rfl) ?_
  refine cw_runN tabOK 3 (by simp only [go_sem]; exact rfl) (by simp only [go_sem]; exact rfl) (by simp only [go_sem]; try exact rfl) (by simp [go_sem]) ?_
  cases s with
  | nil =>
    refine cw_go tabOK 99 (by simp only [go_sem]; try exact rfl) (by simp [go_sem]) ?_
    refine cw_cond (by simp only [go_sem]; try exact rfl) trivial (fun h => ?_) (fun h => ?_)
    · refine cw_go tabOK 99 (by simp only [go_sem]; try exact rfl) (by simp [go_sem]) ?_
      refine cw_ret ⟨_, _, by simp only [go_sem]; try exact rfl, by simp [go_sem], _, .inr (.inl rfl), ?_⟩
      simp [splitR, splitA, Eng.nrm, Eng.nrmL]
    · cases h
  | cons x r =>
    refine cw_go tabOK 99 (by simp only [go_sem]; try exact rfl) (by simp [go_sem]) ?_
    refine cw_cond (by simp only [go_sem]; try exact rfl) trivial (fun h => ?_) (fun h => ?_)
    · have h3 : ¬ x = 47 := fun e => by subst e; simp at h
      have h1' : ¬ 40 < r.length + 1 := h1
      refine cw_go tabOK 99 (by simp only [go_sem]; try exact rfl) (by simp [go_sem]) ?_
      refine cw_ret ⟨_, _, by simp only [go_sem]; try exact rfl, by simp [go_sem], _, .inr (.inl rfl), ?_⟩
      simp [splitR, h1', h3, splitA, Eng.nrm, Eng.nrmL]
    have h3 : x = 47 := UInt8.toNat_inj.1 (by have : ((x.toNat : Nat) : Int) = 47 := by simpa using h
                                              show x.toNat = 47; omega)
    subst h3
    have hsl : ((47 : UInt8) :: r).drop 1 = r := rfl
    refine cw_goR 99 (by simp only [go_sem]; try exact rfl) ?_
    refine cw_runN tabOK 2 (by simp only [go_sem]; exact rfl) (by simp only [go_sem]; exact rfl) (by simp only [go_sem]; try exact rfl) (by simp [go_sem]) ?_
    refine cw_call rfl rfl (by simp only [go_sem]; try exact rfl) (by simp [go_sem]) ⟨_, Go.Proofs.Tryd.func24, by kernel_rfl, rfl⟩ (by simp [go_sem]) (strSplit_ok r 47 (by simp at hs; omega)) (by simp [go_sem]) (by simp only [go_sem]; exact rfl) ?_
    refine cw_go tabOK 99 (by simp only [go_sem]; try exact rfl) (by simp [go_sem]) ?_
    have hR : splitR (47 :: r) = if (cutL 47 r).all nameB then (cutL 47 r, 0) else ([], 7) := by
      simp only [splitR, if_neg h1, if_neg h2, List.head?_cons, ne_eq, not_true_eq_false, if_false, List.drop_succ_cons, List.drop_zero]
    have hcl := cutL_le 47 r
    have hcp := cutL_part 47 r
    rw [hR]
    generalize cutL 47 r = L at hcl hcp
    simp only [List.length_cons] at hs
    refine cw_loopS (fun i : Nat => i ≤ L.length ∧ (L.take i).all nameB = true) (fun i => L.length - i) (fun i => [(6, .any), (27, .int .i64 i), (28, .any), (29, .any), (30, .any), (31, .any), (32, .any), (33, .any), (34, .any)]) (fun _ => []) 0 ⟨by omega, by simp⟩ ?_ fun i hi => ?_
    · simp only [go_sem]
      exact le_sub (by simp [go_sem]) (by simp [go_sem]) (by simp [go_sem])
    obtain ⟨hi, hs2⟩ := hi
    simp only [go_sem]
    refine cw_go tabOK 99 (by simp only [go_sem]; try exact rfl) (by simp [go_sem]) ?_
    refine cw_cond (by simp only [go_sem]; try exact rfl) trivial (fun h => ?_) (fun h => ?_)
    · have hlt : i < L.length := by simp at h; omega
      have hw : IntKind.i64.wrap ((i : Int) + 1) = ((i + 1 : Nat) : Int) := by rw [Eng.wrap_small (by omega) (by omega)]; rfl
      have hg : (L.map strRow).getD i [] = strRow (L.getD i default) := Fam.getD hlt
      have htk := take_succ_getD hlt
      have hmem : L.getD i default ∈ L := by rw [List.getD_eq_getElem?_getD, List.getElem?_eq_getElem hlt]; exact List.getElem_mem hlt
      have hxl := hcp _ hmem
      have hno : nameB (L.getD i default) = false → L.all nameB = false := fun h0 => by
        cases e : L.all nameB with
        | false => rfl
        | true => rw [List.all_eq_true.1 e _ hmem] at h0; cases h0
      generalize L.getD i default = x at hg htk hxl hno hmem
      refine cw_go tabOK 99 (by simp only [go_sem, hg, strRow]; try exact rfl) ?_ ?_
      · simp [hg, strRow, hlt]
      refine cw_call rfl rfl (by simp only [go_sem]; try exact rfl) (by simp [go_sem]) ⟨_, Go.Proofs.Tryd.func11, by kernel_rfl, rfl⟩ (by simp [go_sem]) (name_ok x (by omega)) (by simp [go_sem]) (by simp only [go_sem]; exact rfl) ?_
      refine cw_go tabOK 99 (by simp only [go_sem]; try exact rfl) (by simp [go_sem]) ?_
      refine cw_cond (by simp only [go_sem]; try exact rfl) trivial (fun h => ?_) (fun h => ?_)
      · have h0 : nameB x = false := by simpa using h
        refine cw_go tabOK 99 (by simp only [go_sem]; try exact rfl) (by simp [go_sem]) ?_
        refine cw_ret ⟨_, _, by simp only [go_sem]; try exact rfl, by simp [go_sem], _, .inr (.inl rfl), ?_⟩
        simp [hno h0, splitA, Eng.nrm, Eng.nrmL]
      · have h0 : nameB x = true := by simpa using h
        refine cw_go tabOK 99 (by simp only [go_sem, hw]; try exact rfl) (by simp [go_sem, hw]) ?_
        refine cw_back ⟨i + 1, ⟨by omega, by rw [htk, List.all_append, hs2]; simp [h0]⟩, by omega, le_sub ?_ ?_ ?_⟩
        · simp [go_sem]
        · simp [go_sem]
        · simp [go_sem]
    · have e : i = L.length := by simp at h; omega
      subst e
      rw [List.take_length] at hs2
      refine cw_go tabOK 99 (by simp only [go_sem]; try exact rfl) (by simp [go_sem]) ?_
      refine cw_ret ⟨_, _, by simp only [go_sem]; try exact rfl, by simp [go_sem], _, .inr (.inl rfl), ?_⟩
      simp [hs2, splitA, Eng.nrm, Eng.nrmL, nrm_strs]
theorem split_ok (s : List UInt8) (hs : s.length ≤ 100000000) : FnOK Tryd.prog 8 [.str s] [] (fun r _ => r = splitA (splitR s)) := fn_nrmP (split_raw s hs)

theorem join_ok (l : List (List UInt8)) (hl : l.length ≤ 100000000) (hs : (Lib.join l [47]).length ≤ 100000000) : FnOK Tryd.prog 13 [.sl (l.map strRow)] [] (fun r _ => r = .str (47 :: Lib.join l [47])) := by
  refine fn_of_cwW tabOK (Go.Proofs.Tryd.func13) rfl (fun C => ?_)
  simp only [Go.Proofs.Tryd.ntmps13, Go.Proofs.Tryd.results13, go_sem]
  refine cw_goR 99 (by simp only [go_sem]; try exact rfl) ?_
  refine cw_runN tabOK 1 (by simp only [go_sem]; exact rfl) (by simp only [go_sem]; exact rfl) (by simp only [go_sem]; try exact rfl) (by simp [go_sem]) ?_
  refine cw_goR 99 (by simp only [go_sem]; try exact rfl) ?_
  refine cw_runN tabOK 1 (by simp only [go_sem]; exact rfl) (by simp only [go_sem]; exact rfl) (by simp only [go_sem]; try exact rfl) (by simp [go_sem]) ?_
  refine cw_call rfl rfl (by simp only [go_sem]; try exact rfl) (by simp [go_sem]) ⟨_, Go.Proofs.Tryd.func26, by kernel_rfl, rfl⟩ (by simp [go_sem]) (strJoin_ok l 47 (by omega) (by omega)) (by simp [go_sem]) (by simp only [go_sem]; exact rfl) ?_
  refine cw_go tabOK 99 (by simp only [go_sem]; try exact rfl) ?_ ?_
  · simp; omega
  refine cw_ret ⟨_, _, (by simp only [go_sem]; try exact rfl), by simp [go_sem], _, .inr (.inl rfl), ?_⟩
  rfl

theorem sameTexts_ok (a b : List (List UInt8)) (ha : a.length ≤ 100000000) (hb : b.length ≤ 100000000) : FnOK Tryd.prog 10 [.sl (a.map strRow), .sl (b.map strRow)] [] (fun r _ => r = .bool (decide (a = b))) := by
  refine fn_of_cwW tabOK (Go.Proofs.Tryd.func10) rfl (fun C => ?_)
  simp only [Go.Proofs.Tryd.ntmps10, Go.Proofs.Tryd.results10, go_sem]
  refine cw_go tabOK 99 (by simp only [go_sem]; try exact rfl) (by simp [go_sem]) ?_
  refine cw_cond (by simp only [go_sem]; try exact rfl) trivial (fun h => ?_) (fun h => ?_)
  · have hne : a ≠ b := by rintro rfl; simp at h
    refine cw_go tabOK 99 (by simp only [go_sem]; try exact rfl) (by simp [go_sem]) ?_
    refine cw_ret ⟨_, _, (by simp only [go_sem]; try exact rfl), by simp [go_sem], _, .inr (.inl rfl), ?_⟩
    simp [hne]
  have hl : a.length = b.length := by simp at h; omega
  refine cw_go tabOK 99 (by simp only [go_sem]; try exact rfl) (by simp [go_sem]) ?_
  refine cw_loopS (fun i : Nat => i ≤ a.length ∧ a.take i = b.take i) (fun i => a.length - i) (fun i => [(5, .any), (13, .int .i64 i), (14, .any), (15, .any), (16, .any), (17, .any), (18, .any), (19, .any), (20, .any), (21, .any), (22, .any), (23, .any), (24, .any), (25, .any)]) (fun _ => []) 0 ⟨by omega, by simp⟩ ?_ fun i hi => ?_
  · simp only [go_sem]
    exact le_sub (by simp [go_sem]) (by simp [go_sem]) (by simp [go_sem])
  obtain ⟨hi, hs⟩ := hi
  simp only [go_sem]
  refine cw_go tabOK 99 (by simp only [go_sem]; try exact rfl) (by simp [go_sem]) ?_
  refine cw_cond (by simp only [go_sem]; try exact rfl) trivial (fun h => ?_) (fun h => ?_)
  · have hlt : i < a.length := by simp at h; omega
    have hltb : i < b.length := by omega
    have hw : IntKind.i64.wrap ((i : Int) + 1) = ((i + 1 : Nat) : Int) := by rw [Eng.wrap_small (by omega) (by omega)]; rfl
    have hga : (a.map strRow).getD i [] = strRow (a.getD i default) := Fam.getD hlt
    have hgb : (b.map strRow).getD i [] = strRow (b.getD i default) := Fam.getD hltb
    have hta := take_succ_getD hlt
    have htb := take_succ_getD hltb
    have htd : a.getD i default ≠ b.getD i default → a ≠ b := by rintro e rfl; exact e rfl
    generalize a.getD i default = x at hga hta htd
    generalize b.getD i default = y at hgb htb htd
    refine cw_go tabOK 99 (by simp only [go_sem]; try exact rfl) (by simp [go_sem]) ?_
    refine cw_drawn tabOK mixed (by simp only [go_sem, hga, hgb, strRow]; try exact rfl) ?_ (by simp only [go_sem, hga, hgb, strRow]; exact rfl) (by kernel_rfl) ?_
    · simp [hga, hgb, strRow, hlt, hltb]
    refine cw_cond (by simp only [go_sem]; try exact rfl) trivial (fun h => ?_) (fun h => ?_)
    · have h0 : x ≠ y := by simpa using h
      refine cw_go tabOK 99 (by simp only [go_sem]; try exact rfl) (by simp [go_sem]) ?_
      refine cw_ret ⟨_, _, (by simp only [go_sem]; try exact rfl), by simp [go_sem], _, .inr (.inl rfl), ?_⟩
      simp [htd h0]
    · have h0 : x = y := by simpa using h
      refine cw_go tabOK 99 (by simp only [go_sem, hw]; try exact rfl) (by simp [go_sem, hw]) ?_
      refine cw_back ⟨i + 1, ⟨by omega, by rw [hta, htb, hs, h0]⟩, by omega, le_sub ?_ ?_ ?_⟩
      · simp [go_sem]
      · simp [go_sem]
      · simp [go_sem]
  · have e : i = a.length := by simp at h; omega
    subst e
    rw [List.take_length, hl, List.take_length] at hs
    refine cw_go tabOK 99 (by simp only [go_sem]; try exact rfl) (by simp [go_sem]) ?_
    refine cw_ret ⟨_, _, (by simp only [go_sem]; try exact rfl), by simp [go_sem], _, .inr (.inl rfl), ?_⟩
    simp [hs]
end La

namespace La
open Go Go.Eng Go.Proofs
set_option maxRecDepth 10000
set_option linter.unusedSimpArgs false
set_option linter.unusedVariables false

theorem cond_and (a b : Bool) : (bif a then b else false) = (a && b) := by cases a <;> rfl

theorem rname_ok (s : List UInt8) (hs : s.length ≤ 100000000) : FnOK Tryd.prog 12 [.str s] [] (fun r _ => r = .bool (nameB s)) := by
  refine fn_of_cwW tabOK (Go.Proofs.Tryd.func12) rfl (fun C => ?_)
  simp only [Go.Proofs.Tryd.ntmps12, Go.Proofs.Tryd.results12, go_sem]
  refine cw_go tabOK 99 (by simp only [go_sem]; try exact rfl) (by simp [go_sem]) ?_
  refine cw_loopS (fun i : Nat => i ≤ s.length ∧ ∀ j, j < i → okC (s.getD j 0) = true) (fun i => s.length - i) (fun i => [(3, .any), (4, .any), (7, .int .i64 i), (8, .any), (9, .any), (10, .any), (11, .any), (12, .any), (13, .any), (14, .any), (15, .any), (16, .any), (17, .any), (18, .any), (19, .any), (20, .any), (21, .any), (22, .any), (23, .any), (24, .any), (25, .any), (26, .any), (27, .any), (28, .any), (29, .any), (30, .any), (31, .any), (32, .any), (33, .any), (34, .any), (35, .any), (36, .any)]) (fun _ => []) 0 ⟨by omega, by omega⟩ ?_ fun i hi => ?_
  · simp only [go_sem]
    exact le_sub (by simp [go_sem]) (by simp [go_sem]) (by simp [go_sem])
  obtain ⟨hi, hs2⟩ := hi
  simp only [go_sem]
  refine cw_go tabOK 99 (by simp only [go_sem]; try exact rfl) (by simp [go_sem]) ?_
  refine cw_cond (by simp only [go_sem]; try exact rfl) trivial (fun h => ?_) (fun h => ?_)
  · have hlt : i < s.length := by simp at h; omega
    have hw : IntKind.i64.wrap ((i : Int) + 1) = ((i + 1 : Nat) : Int) := by rw [Eng.wrap_small (by omega) (by omega)]; rfl
    have hno : okC (s.getD i 0) = false → nameB s = false := fun h0 => by
      cases e : s.all okC with
      | false => unfold nameB; rw [e, Bool.and_false]
      | true =>
        have := List.all_eq_true.1 e (s.getD i 0) (by rw [List.getD_eq_getElem?_getD, List.getElem?_eq_getElem hlt]; exact List.getElem_mem hlt)
        rw [this] at h0; cases h0
    have hyes : okC (s.getD i 0) = true → ∀ j, j < i + 1 → okC (s.getD j 0) = true := fun h0 j hj => by
      rcases Nat.lt_succ_iff_lt_or_eq.1 hj with h1 | rfl
      · exact hs2 j h1
      · exact h0
    refine cw_goR 99 (by simp only [go_sem]; try exact rfl) ?_
    refine cw_runN tabOK 2 (by simp only [go_sem]; exact rfl) (by simp only [go_sem]; exact rfl) (by simp only [go_sem]; try exact rfl) (by simp [go_sem]) ?_
    refine cw_goR 99 (by simp only [go_sem]; try exact rfl) ?_
    refine cw_runN tabOK 2 (by simp only [go_sem]; exact rfl) (by simp only [go_sem]; exact rfl) (by simp only [go_sem]; try exact rfl) (by simp [go_sem]) ?_
    refine cw_runN tabOK 1 (by simp only [go_sem]; exact rfl) (by simp only [go_sem]; exact rfl) (by simp only [go_sem]; try exact rfl) ?_ ?_
    · simp; omega
    refine cw_runN tabOK 1 (by simp only [go_sem]; exact rfl) (by simp only [go_sem]; exact rfl) (by simp only [go_sem]; try exact rfl) (by simp [go_sem]) ?_
    refine cw_goR 99 (by simp only [go_sem]; try exact rfl) ?_
    generalize s.getD i 0 = c at hno hyes
    have hc : okC c = ((decide ((c.toNat : Int) ≥ 97) && decide ((c.toNat : Int) ≤ 122)) || (decide ((c.toNat : Int) ≥ 48) && decide ((c.toNat : Int) ≤ 57))) := by
      unfold okC
      rw [Bool.eq_iff_iff]
      simp only [Bool.or_eq_true, Bool.and_eq_true, decide_eq_true_eq]
      omega
    generalize hf1 : decide ((c.toNat : Int) ≥ 97) = f1 at hc
    generalize hf2 : decide ((c.toNat : Int) ≤ 122) = f2 at hc
    generalize hf3 : decide ((c.toNat : Int) ≥ 48) = f3 at hc
    generalize hf4 : decide ((c.toNat : Int) ≤ 57) = f4 at hc
    refine cw_runN tabOK 14 (by simp only [go_sem]; exact rfl) (by simp only [go_sem]; exact rfl) (by simp only [go_sem, hf1, hf2, hf3, hf4]; try exact rfl) ?_ ?_
    · cases f1 <;> cases f2 <;> cases f3 <;> cases f4 <;> simp
    have hb : (bif (bif f1 then f2 else false) then true else (bif f3 then f4 else false)) = okC c := by
      rw [hc]; cases f1 <;> cases f2 <;> cases f3 <;> cases f4 <;> rfl
    simp only [go_sem, hb]
    refine cw_go tabOK 99 (by simp only [go_sem]; try exact rfl) (by simp [go_sem]) ?_
    refine cw_cond (by simp only [go_sem]; try exact rfl) trivial (fun h => ?_) (fun h => ?_)
    · have h0 : okC c = false := by simpa using h
      refine cw_go tabOK 99 (by simp only [go_sem]; try exact rfl) (by simp [go_sem]) ?_
      refine cw_ret ⟨_, _, (by simp only [go_sem]; try exact rfl), by simp [go_sem], _, .inr (.inl rfl), ?_⟩
      rw [hno h0]
    · have h0 : okC c = true := by simpa using h
      refine cw_go tabOK 99 (by simp only [go_sem, hw]; try exact rfl) (by simp [go_sem, hw]) ?_
      refine cw_back ⟨i + 1, ⟨by omega, hyes h0⟩, by omega, le_sub ?_ ?_ ?_⟩
      · simp [go_sem]
      · simp [go_sem]
      · simp [go_sem]
  · have e : i = s.length := by simp at h; omega
    have : s.all okC = true := List.all_eq_true.2 fun x hx => by
      obtain ⟨j, hj⟩ := List.getElem?_of_mem hx
      have := hs2 j (by rw [e]; exact (List.getElem?_eq_some_iff.1 hj).1)
      rwa [List.getD_eq_getElem?_getD, hj] at this
    refine cw_go tabOK 99 (by simp only [go_sem]; try exact rfl) (by simp [go_sem]) ?_
    refine cw_ret ⟨_, _, (by simp only [go_sem]; try exact rfl), by simp [go_sem], _, .inr (.inl rfl), ?_⟩
    unfold nameB
    rw [this, cond_and, Bool.and_true]
    have h1 : decide ((s.length : Int) > 0) = decide (1 ≤ s.length) := by rw [Bool.eq_iff_iff]; simp only [decide_eq_true_eq]; omega
    have h2 : decide ((s.length : Int) ≤ 8) = decide (s.length ≤ 8) := by rw [Bool.eq_iff_iff]; simp only [decide_eq_true_eq]; omega
    rw [h1, h2]
end La

namespace Go.Eng
section
variable {P : Program} {T : Tab} {C : Ctx} {σ σ' : St} {Ret : St → Prop} {k : List It} {μ : Nat → Option Nat} {S : Nat → Prop} {a : Act} {w : World}

theorem Rd.inv_exs {v : Value} {id size off len cap : Nat} (h : Rd μ S w v (.exs id size off len cap)) : ∃ g e n, v = .slice (some ⟨g, off * size, none⟩) len cap ∧ len ≤ cap ∧ μ id = some g ∧ rowSize w g = some (e, n) ∧ (off + cap) * size = n := by
  cases h with
  | pure h => cases h
  | exs _ _ _ _ _ g e n hc hg hr hn => exact ⟨g, e, n, rfl, hc, hg, hr, hn⟩

/-- THE FIRST OF A SLICE, AND ALL ITS ROOM. -/
theorem trip_sliceX (hT : TabOK P T) {o : Oper} {x hi : Operand} {t e : TypeId} (ho : o.op = .slice t x none (some hi) none) (ht : T.und t = .sl e) {id s len h j N : Nat} (hx : evS σ x = (True, .osl id s 0 len)) (hh : evS σ hi = (True, .int .i64 (h : Nat)))
    (hcap : hget σ.hp j = some (.cap id s N)) (hN : h ≤ N) (h0 : 0 < len) (hs : T.siz e = s) (hs0 : s ≠ 0) : Trip P C o σ (σ.put o.dst (.exs id s 0 h N)) := by
  refine trip_value fun μ S a w hi' => ?_
  have hv := hi'.evS x (by rw [hx]; trivial)
  have hu := hi'.evS hi (by rw [hh]; trivial)
  rw [hx] at hv; rw [hh] at hu
  obtain ⟨A, cap, hv', hc, hor⟩ := hv.inv_osl
  have hu' := hu.inv_int
  have hty : P.underlying t = some (.slice e) := by have := hT.und t; rw [ht] at this; exact this
  rcases hor with ⟨h1, _⟩ | ⟨g, n, m, h1, hA, h3, h4⟩
  · omega
  · obtain ⟨_, g', e', k1, k2⟩ := hi'.hp j _ hcap
    rw [k1] at h1; injection h1 with h1; subst h1
    rw [h3] at k2
    simp only [Option.some.injEq, Prod.mk.injEq] at k2
    have hNc : 0 + cap = N := Nat.eq_of_mul_eq_mul_right (Nat.pos_of_ne_zero hs0) (h4.trans k2.2)
    rw [Nat.zero_add] at hNc
    subst hNc
    subst hA
    have hrun : (Instr.sliceAt t (.slice (some ⟨g', 0 * s, none⟩) len cap) none (some (.int .i64 (h : Nat))) none).run P w = .ok (.slice (some ⟨g', 0 * s, none⟩) h cap) w := by
      have hb := run_bounds (P := P) (w := w) true len cap 0 h none (some (.int .i64 (h : Nat))) (show BoundIs none 0 0 from rfl) (show BoundIs (some (.int .i64 (h : Nat))) len h from ⟨.i64, rfl⟩) (Nat.zero_le _) (by omega)
      by_cases hc0 : cap = 0
      · subst hc0
        simp [Instr.sliceAt, Instr.slice, run_underlying hty, hb, sizeOf_of hT (t := e) (by rw [hs]; exact hs0)]
      · simp [Instr.sliceAt, Instr.slice, run_underlying hty, hb, sizeOf_of hT (t := e) (by rw [hs]; exact hs0), hc0, Addr.add]
    refine ⟨.slice (some ⟨g', 0 * s, none⟩) h cap, ?_, .exs id s 0 h cap g' n m (by omega) k1 h3 h4⟩
    have e1 : a.eval x = .slice (some ⟨g', 0 * s, none⟩) len cap := hv'
    have e2 : a.eval hi = .int .i64 (h : Nat) := hu'
    simp only [execOp, ho, e1, Option.map_none, Option.map_some, e2, Sem.run_bind, hrun]
    rfl

/-- WHAT LIES BEHIND COMES AHEAD: append of a part of a block behind a part of the same one, where there is room. -/
theorem trip_appendIn (hT : TabOK P T) {o : Oper} {x y : Operand} {t e : TypeId} (ho : o.op = .call { callee := .builtin .append, args := #[x, y], argTypes := #[t, t] }) (ht : T.und t = .sl e)
    {id s i j m N e' : Nat} {R : List (List AV)} (hx : evS σ x = (True, .exs id s 0 i N)) (hy : evS σ y = (True, .osl id s j m)) (hb : hget σ.hp id = some (.cells e' s R)) (hj : j + m ≤ R.length) (hij : i + m ≤ R.length) (hN : i + m ≤ N)
    (hs : T.siz e = s) (hs0 : s ≠ 0) (hrl : rowsOf s R) (hlf' : rowsLeaf ((R.drop j).take m) = true) :
    Trip P C o σ (St.put ⟨σ.tm, hset σ.hp id (.cells e' s (overRows R i ((R.drop j).take m)))⟩ o.dst (.exs id s 0 (i + m) N)) := by
  subst hs
  intro a w K Q ⟨μ, S, hi⟩ hK
  have hv := hi.evS x (by rw [hx]; trivial)
  have hvy := hi.evS y (by rw [hy]; trivial)
  rw [hx] at hv; rw [hy] at hvy
  have hty : P.underlying t = some (.slice e) := by have := hT.und t; rw [ht] at this; exact this
  obtain ⟨g, e2, n, hv', hc, hg, h3, h4⟩ := hv.inv_exs
  have hrows : ((R.drop j).take m).length = m := by simp; omega
  have hrl' : rowsOf (T.siz e) ((R.drop j).take m) := fun row hr => hrl row (List.mem_of_mem_drop (List.mem_of_mem_take hr))
  obtain ⟨vs, hvs⟩ := src_of hi (x := .osl id (T.siz e) j m) (rows := (R.drop j).take m) (size := T.siz e) (by simp [srcRows, hb]) hvy hrl' (fun _ _ _ _ h => by injection h with _ _ _ h; rw [hrows, h])
  have hr := run_append_in (ty := o.type) (A := some ⟨g, 0 * T.siz e, none⟩) (len := i) (cap := N) hT hty hs0 hvs (by rw [hrows]; exact hN)
  rw [hrows] at hr
  obtain ⟨w', r1, r2⟩ := write_rows (P := P) hi (off := i) (new := (R.drop j).take m) (vs := vs) hb hg (by rw [hrows]; exact hij) hvs.len hrl' (vals_leaf hvs hlf') (fun i row hi j x hx => hvs.rd i row hi j x hx)
  have hfr : (execOp a.eval o).run P w = .ok (.value (.slice (some ⟨g, 0 * T.siz e, none⟩) (i + m) N)) w' := by
    have e1 : a.eval x = .slice (some ⟨g, 0 * T.siz e, none⟩) i N := hv'
    simp only [Nat.zero_mul, add_plain, Nat.zero_add, r1, Result.andThen_ok] at hr
    simp only [Nat.zero_mul] at e1 ⊢
    simp [execOp, ho, e1, resolve, invoke, builtin, hr]
  have he : evS ⟨σ.tm, hset σ.hp id (.cells e' (T.siz e) (overRows R i ((R.drop j).take m)))⟩ x = evS σ x := by cases x <;> rfl
  have hv2 := r2.evS x (by rw [he, hx]; trivial)
  rw [he, hx] at hv2
  obtain ⟨g2, e3, n2, hv3, _, hg2, h5, h6⟩ := hv2.inv_exs
  unfold Oper.wp
  rw [hfr]
  show K (a.put o.dst _) _
  rw [hg] at hg2; injection hg2 with hg2; subst hg2
  exact hK _ _ ⟨μ, S, Inv.put r2 o.dst (.exs id _ 0 (i + m) N g e3 n2 hN hg h5 h6)⟩

/-- A SLICE'S ROOM: whatever it is. -/
theorem cw_room (d : Nat) {id s off len e' : Nat} {rows : List (List AV)} {t : Nat} (hx : σ.tm.getD t .any = .osl id s off len) (hb : hget σ.hp id = some (.cells e' s rows)) (h0 : 0 < len) (hs : s ≠ 0) (hf : hget σ.hp d = none)
    (h : ∀ N : Nat, off + len ≤ N → rows.length ≤ N → Cw P C Ret k ⟨σ.tm, (d, .cap id s N) :: σ.hp⟩) : Cw P C Ret k σ := by
  intro a w ⟨μ, S, hi⟩
  have hlt : t < σ.tm.length := by
    by_cases h : t < σ.tm.length
    · exact h
    · rw [List.getD_eq_getElem?_getD, List.getElem?_eq_none (by omega)] at hx; cases hx
  have hv := hi.tm t (σ.tm.getD t .any) (by rw [List.getD_eq_getElem?_getD, List.getElem?_eq_getElem hlt]; rfl)
  rw [hx] at hv
  obtain ⟨A, cap, hv', hc, hor⟩ := hv.inv_osl
  rcases hor with ⟨h1, _⟩ | ⟨g, n, m, h1, _, h3, h4⟩
  · omega
  · have hle : rows.length ≤ off + cap := by
      rcases hi.hp id _ hb with ⟨rfl, _⟩ | ⟨g', c, k1, k2, k3, _⟩
      · simp
      · rw [k1] at h1; injection h1 with h1; subst h1
        rw [rowSize, k2] at h3
        simp only [Option.some.injEq, Prod.mk.injEq] at h3
        exact Nat.le_of_mul_le_mul_right (by rw [h4, ← h3.2]; exact k3) (Nat.pos_of_ne_zero hs)
    refine h (off + cap) (by omega) hle a w ⟨μ, S, hi.size, hi.defers, hi.tm, fun i b hb' => ?_, fun i q hq => ?_, hi.inj, hi.frm, hi.sb⟩
    · simp only [hget] at hb'
      split at hb'
      · rename_i hd
        injection hb' with hb'
        subst hd hb'
        exact ⟨hi.fresh hf, g, n, h1, by rw [h3, h4]⟩
      · exact hi.hp i b hb'
    · obtain ⟨⟨b, h1⟩, h2⟩ := hi.dom i q hq
      refine ⟨?_, h2⟩
      simp only [hget]
      split
      · exact ⟨_, rfl⟩
      · exact ⟨b, h1⟩

/-- A SLICE OF A SLICE, ITS ROOM BOUNDED: what it is is forgotten. -/
theorem trip_slice3 (hT : TabOK P T) {o : Oper} {x lo hi mx : Operand} {t e : TypeId} (ho : o.op = .slice t x (some lo) (some hi) (some mx)) (ht : T.und t = .sl e) {id s off len l h m : Nat} (hx : evS σ x = (True, .osl id s off len))
    (hl : evS σ lo = (True, .int .i64 (l : Nat))) (hh : evS σ hi = (True, .int .i64 (h : Nat))) (hm : evS σ mx = (True, .int .i64 (m : Nat))) (h1 : l ≤ h) (h2 : h ≤ m) (h3 : m ≤ len) (h0 : 0 < len) (hs : T.siz e = s) (hs0 : s ≠ 0) : Trip P C o σ (σ.put o.dst .any) := by
  refine trip_value fun μ S a w hi' => ?_
  have hv := hi'.evS x (by rw [hx]; trivial)
  have hu1 := hi'.evS lo (by rw [hl]; trivial)
  have hu2 := hi'.evS hi (by rw [hh]; trivial)
  have hu3 := hi'.evS mx (by rw [hm]; trivial)
  rw [hx] at hv; rw [hl] at hu1; rw [hh] at hu2; rw [hm] at hu3
  obtain ⟨A, cap, hv', hc, hor⟩ := hv.inv_osl
  have hty : P.underlying t = some (.slice e) := by have := hT.und t; rw [ht] at this; exact this
  rcases hor with ⟨h1, _⟩ | ⟨g, n, m', k1, hA, k3, k4⟩
  · omega
  · subst hA
    have hb : (Instr.sliceBounds true len cap (some (.int .i64 (l : Nat))) (some (.int .i64 (h : Nat))) (some (.int .i64 (m : Nat)))).run P w = .ok (l, h, m) w := by
      simp [Instr.sliceBounds, Instr.sliceBound, asIntOf, h1, h2, show m ≤ cap by omega]
    have e1 : a.eval x = .slice (some ⟨g, off * s, none⟩) len cap := hv'
    have e2 : a.eval lo = .int .i64 (l : Nat) := hu1.inv_int
    have e3 : a.eval hi = .int .i64 (h : Nat) := hu2.inv_int
    have e4 : a.eval mx = .int .i64 (m : Nat) := hu3.inv_int
    by_cases hml : m = l
    · subst hml
      exact ⟨.slice (some ⟨g, off * s, none⟩) (h - m) (m - m), by simp [execOp, ho, e1, e2, e3, e4, Instr.sliceAt, Instr.slice, run_underlying hty, hb, sizeOf_of hT (t := e) (by rw [hs]; exact hs0)], .any _⟩
    · exact ⟨.slice (some (Addr.add ⟨g, off * s, none⟩ (l * T.siz e))) (h - l) (m - l), by simp [execOp, ho, e1, e2, e3, e4, Instr.sliceAt, Instr.slice, run_underlying hty, hb, sizeOf_of hT (t := e) (by rw [hs]; exact hs0), hml], .any _⟩

/-- THE FIRST OF A SLICE, AND ALL ITS ROOM, IN A REGION THAT DRAWS. -/
theorem seg_sliceX (hT : TabOK P T) {ops : Array Oper} {Q : Exit → Act → World → Prop} {k n : Nat} {acc : Skel} {o : Oper} {L : List Oper} {x hi : Operand} {t e : TypeId} (ho : o.op = .slice t x none (some hi) none) (hgd : o.guard = none) (ht : T.und t = .sl e) {id s len h j N : Nat}
    (hx : evS σ x = (True, .osl id s 0 len)) (hh : evS σ hi = (True, .int .i64 (h : Nat))) (hcap : hget σ.hp j = some (.cap id s N)) (hN : h ≤ N) (h0 : 0 < len) (hs : T.siz e = s) (hs0 : s ≠ 0)
    {sk : List Loc × List Loc} (hsk : ((Sp.mk o.dst (.exs id s 0 h N) [] (locsL σ [x, hi] ++ [Loc.blk j])).wr, locsL σ [x, hi] ++ [Loc.blk j]) = sk) (ha : σ.put o.dst (.exs id s 0 h N) = σ') (hk : SegFrom P C ops Q k n (acc ++ [sk]) L σ') : SegFrom P C ops Q k n acc (o :: L) σ := by
  have hgd' : guardOf ops σ o.guard = some true := by rw [hgd]; rfl
  have key := rob_trip (P := P) (C := C) (o := o) (ops := ops) (x := .exs id s 0 h N) (rd := locsL σ [x, hi] ++ [Loc.blk j]) hgd' (.inl rfl) (fun _ s' hag => by
    have h1 : evS s' x = evS σ x := evS_agree fun z hz => hag z (by simp [locsL, hz])
    have h2 : evS s' hi = evS σ hi := evS_agree fun z hz => hag z (by simp [locsL, hz])
    have h3 : hget s'.hp j = hget σ.hp j := hag (Loc.blk j) (by simp)
    exact trip_sliceX hT ho ht (h1.trans hx) (h2.trans hh) (h3.trans hcap) hN h0 hs hs0)
  have e0 : locsG ops o.guard = [] := by rw [hgd]; rfl
  rw [e0, List.nil_append] at key
  exact seg_rob key rfl (by rw [← hsk]) (by rw [← ha]; simp [Sp.app]) hk

/-- A PART OF A SLICE, UP TO ITS ROOM. -/
theorem trip_sliceXX (hT : TabOK P T) {o : Oper} {x lo hi : Operand} {t e : TypeId} (ho : o.op = .slice t x (some lo) (some hi) none) (ht : T.und t = .sl e) {id s len cap l h : Nat} (hx : evS σ x = (True, .exs id s 0 len cap)) (hl : evS σ lo = (True, .int .i64 (l : Nat))) (hh : evS σ hi = (True, .int .i64 (h : Nat)))
    (h1 : l < h) (h2 : h ≤ cap) (hs : T.siz e = s) (hs0 : s ≠ 0) : Trip P C o σ (σ.put o.dst (.osl id s l (h - l))) := by
  refine trip_value fun μ S a w hi' => ?_
  have hv := hi'.evS x (by rw [hx]; trivial)
  have hu1 := hi'.evS lo (by rw [hl]; trivial)
  have hu2 := hi'.evS hi (by rw [hh]; trivial)
  rw [hx] at hv; rw [hl] at hu1; rw [hh] at hu2
  obtain ⟨g, n, m, hv', hc, k1, k3, k4⟩ := hv.inv_exs
  have hty : P.underlying t = some (.slice e) := by have := hT.und t; rw [ht] at this; exact this
  have hb := run_bounds (P := P) (w := w) true len cap l h (some (.int .i64 (l : Nat))) (some (.int .i64 (h : Nat))) (show BoundIs (some (.int .i64 (l : Nat))) 0 l from ⟨.i64, rfl⟩) (show BoundIs (some (.int .i64 (h : Nat))) len h from ⟨.i64, rfl⟩) (by omega) h2
  have e1 : a.eval x = .slice (some ⟨g, 0 * s, none⟩) len cap := hv'
  have e2 : a.eval lo = .int .i64 (l : Nat) := hu1.inv_int
  have e3 : a.eval hi = .int .i64 (h : Nat) := hu2.inv_int
  have hcl : cap ≠ l := by omega
  refine ⟨.slice (some (Addr.add ⟨g, 0 * s, none⟩ (l * s))) (h - l) (cap - l), by simp [execOp, ho, e1, e2, e3, Instr.sliceAt, Instr.slice, run_underlying hty, hb, sizeOf_of hT (t := e) (by rw [hs]; exact hs0), hs, hcl], ?_⟩
  refine .osl id s l (h - l) (cap - l) _ (by omega) (.inr ⟨g, n, m, k1, by rw [add_plain, Nat.zero_mul, Nat.zero_add], k3, ?_⟩)
  rw [← k4]
  congr 1; omega

/-- THE GREATER ONE OF TWO. -/
theorem trip_max {o : Oper} {x y : Operand} {ts : Array TypeId} (ho : o.op = .call { callee := .builtin .max, args := #[x, y], argTypes := ts }) {k k' : IntKind} {n m : Int} (hx : evS σ x = (True, .int k n)) (hy : evS σ y = (True, .int k' m)) :
    Trip P C o σ (σ.put o.dst (.int k (if m > n then m else n))) := by
  refine trip_value fun μ S a w hi' => ?_
  have hv := hi'.evS x (by rw [hx]; trivial)
  have hu := hi'.evS y (by rw [hy]; trivial)
  rw [hx] at hv; rw [hy] at hu
  have e1 : a.eval x = .int k n := hv.inv_int
  have e2 : a.eval y = .int k' m := hu.inv_int
  exact ⟨_, by simp [execOp, ho, e1, e2, resolve, invoke, builtin, run_max_int2], .pure (.int _ _)⟩
theorem seg_max {ops : Array Oper} {Q : Exit → Act → World → Prop} {k n : Nat} {acc : Skel} {o : Oper} {L : List Oper} {x y : Operand} {ts : Array TypeId} (ho : o.op = .call { callee := .builtin .max, args := #[x, y], argTypes := ts }) (hgd : o.guard = none) {q q' : IntKind} {u v : Int}
    (hx : evS σ x = (True, .int q u)) (hy : evS σ y = (True, .int q' v))
    {sk : List Loc × List Loc} (hsk : ((Sp.mk o.dst (.int q (if v > u then v else u)) [] (locsL σ [x, y])).wr, locsL σ [x, y]) = sk) (ha : σ.put o.dst (.int q (if v > u then v else u)) = σ') (hk : SegFrom P C ops Q k n (acc ++ [sk]) L σ') : SegFrom P C ops Q k n acc (o :: L) σ := by
  have hgd' : guardOf ops σ o.guard = some true := by rw [hgd]; rfl
  have key := rob_trip (P := P) (C := C) (o := o) (ops := ops) (x := .int q (if v > u then v else u)) (rd := locsL σ [x, y]) hgd' (.inl rfl) (fun _ s' hag => by
    have h1 : evS s' x = evS σ x := evS_agree fun z hz => hag z (by simp [locsL, hz])
    have h2 : evS s' y = evS σ y := evS_agree fun z hz => hag z (by simp [locsL, hz])
    exact trip_max ho (h1.trans hx) (h2.trans hy))
  have e0 : locsG ops o.guard = [] := by rw [hgd]; rfl
  rw [e0, List.nil_append] at key
  exact seg_rob key rfl (by rw [← hsk]) (by rw [← ha]; simp [Sp.app]) hk

/-- an exact slice is a slice -/
theorem le_exs (t : Nat) {id s off len cap : Nat} (h : σ.tm.getD t .any = .exs id s off len cap) : Le C σ ⟨σ.tm.set t (.osl id s off len), σ.hp⟩ := by
  intro a w ⟨μ, S, hi⟩
  refine ⟨μ, S, by simpa using hi.size, hi.defers, fun u x hx => ?_, hi.hp, hi.dom, hi.inj, hi.frm, hi.sb⟩
  rw [List.getElem?_set] at hx
  split at hx
  · rename_i e
    subst e
    split at hx
    · rename_i hlt
      injection hx with hx
      subst hx
      have := hi.tm t (σ.tm.getD t .any) (by rw [List.getD_eq_getElem?_getD, List.getElem?_eq_getElem hlt]; rfl)
      rw [h] at this
      obtain ⟨g, e, n, h1, h2, h3, h4, h5⟩ := this.inv_exs
      rw [h1]
      exact .osl id s off len cap _ h2 (.inr ⟨g, e, n, h3, rfl, h4, h5⟩)
    · cases hx
  · exact hi.tm u x hx
end
end Go.Eng

namespace Go.Eng

def renE (f : Nat → Nat) (e : Edge) : Edge := ⟨f e.on, e.ground⟩
def renOp (f : Nat → Nat) (o : Oper) : Oper := ⟨o.dst, o.op, o.type, o.pos, o.after.map (renE f), o.guard.map fun g => (f g.1, g.2)⟩
def permOps (p q : List Nat) (l : List Oper) : List Oper := p.map fun i => renOp (fun j => q.getD j j) (l.getD i default)
def permOK (p q : List Nat) (n : Nat) : Bool := p.length == n && q.length == n && (List.range n).all fun i => decide (q.getD i i < n) && p.getD (q.getD i i) 0 == i && (decide (p.getD i i < n) && q.getD (p.getD i i) (p.getD i i) == i)

section
variable {P : Program} {C : Ctx} {σ σ' : St}

def asEmpty (id s : Nat) : AV → AV
  | .nils => .osl id s 0 0
  | x => x
theorem wk_asEmpty (id s : Nat) (x : AV) : wk x (asEmpty id s x) := by
  cases x
  case nils => exact .inr (.inr ⟨rfl, .inr ⟨id, s, 0, rfl⟩⟩)
  all_goals exact .inr (.inl rfl)
/-- NIL SLICES IN A BLOCK'S CELLS, AS EMPTY ONES THAT WILL BE HELD. -/
theorem le_nilB (id' s' id : Nat) {e s : Nat} {rows rows' : List (List AV)} (hb : hget σ.hp id = some (.cells e s rows)) (hr : rows.map (fun row => row.map (asEmpty id' s')) = rows') : Le C σ ⟨σ.tm, hset σ.hp id (.cells e s rows')⟩ := by
  subst hr
  rintro a w ⟨μ, S, hi⟩
  refine ⟨μ, S, hi.size, hi.defers, hi.tm, fun i b hb' => ?_, fun i q hq => ?_, hi.inj, hi.frm, hi.sb⟩
  · simp only [hget_hset] at hb'
    split at hb'
    · rename_i h1
      injection hb' with hb'
      subst h1 hb'
      rcases hi.hp id _ hb with ⟨rfl, k2⟩ | ⟨g, c, k1, k2, k3, k4, k5⟩
      · exact .inl ⟨by simp, k2⟩
      · refine .inr ⟨g, c, k1, k2, by rw [List.length_map]; exact k3, fun row hrow => ?_, fun i row hi' q x hx => ?_⟩
        · obtain ⟨r0, h0, rfl⟩ := List.mem_map.1 hrow
          rw [List.length_map]; exact k4 r0 h0
        · rw [List.getElem?_map] at hi'
          cases e0 : rows[i]? with
          | none => rw [e0] at hi'; cases hi'
          | some r0 =>
            rw [e0] at hi'
            simp only [Option.map_some, Option.some.injEq] at hi'
            subst hi'
            rw [List.getElem?_map] at hx
            cases e1 : r0[q]? with
            | none => rw [e1] at hx; cases hx
            | some y =>
              rw [e1] at hx
              simp only [Option.map_some, Option.some.injEq] at hx
              subst hx
              exact (k5 i r0 e0 q y e1).wk (wk_asEmpty id' s' y)
    · exact hi.hp i b hb'
  · obtain ⟨⟨b, h1⟩, h2⟩ := hi.dom i q hq
    refine ⟨?_, h2⟩
    simp only [hget_hset]
    split
    · exact ⟨_, rfl⟩
    · exact ⟨b, h1⟩
theorem draw_le {ops : Array Oper} {Q : Exit → Act → World → Prop} {k : Nat} (h : Le C σ σ') (hk : DrawOK P C ops Q k σ') : DrawOK P C ops Q k σ := fun a w hr => hk a w (h a w hr)

theorem perm_facts {p q : List Nat} {n : Nat} (h : permOK p q n = true) : p.length = n ∧ q.length = n ∧ ∀ i, i < n → q.getD i i < n ∧ p.getD (q.getD i i) 0 = i ∧ p.getD i i < n ∧ q.getD (p.getD i i) (p.getD i i) = i := by
  unfold permOK at h
  simp only [Bool.and_eq_true, beq_iff_eq] at h
  obtain ⟨⟨h1, h2⟩, h3⟩ := h
  refine ⟨h1, h2, fun i hi => ?_⟩
  have := List.all_eq_true.1 h3 i (List.mem_range.2 hi)
  simp only [Bool.and_eq_true, decide_eq_true_eq, beq_iff_eq] at this
  exact ⟨this.1.1, this.1.2, this.2.1, this.2.2⟩

theorem perm_get {p q : List Nat} {ops : Array Oper} (h : permOK p q ops.size = true) {i : Nat} {o : Oper} (ho : ops[i]? = some o) :
    (permOps p q ops.toList).toArray[q.getD i i]? = some (renOp (fun j => q.getD j j) o) := by
  obtain ⟨h1, h2, h3⟩ := perm_facts h
  have hi : i < ops.size := (Array.getElem?_eq_some_iff.1 ho).1
  obtain ⟨h4, h5, _⟩ := h3 i hi
  rw [List.getElem?_toArray, permOps, List.getElem?_map]
  have hp : p[q.getD i i]? = some i := by
    rw [List.getD_eq_getElem?_getD, List.getElem?_eq_getElem (by omega)] at h5
    rw [List.getElem?_eq_getElem (by omega)]
    exact congrArg some h5
  rw [hp]
  simp only [Option.map_some]
  rw [List.getD_eq_getElem?_getD, Array.getElem?_toList, ho]
  rfl
theorem perm_none {p q : List Nat} {ops : Array Oper} (h : permOK p q ops.size = true) {i : Nat} (ho : ops[i]? = none) : (permOps p q ops.toList).toArray[q.getD i i]? = none := by
  obtain ⟨h1, h2, _⟩ := perm_facts h
  have hi : ops.size ≤ i := Array.getElem?_eq_none_iff.1 ho
  have e : q.getD i i = i := by rw [List.getD_eq_getElem?_getD, List.getElem?_eq_none (by omega)]; rfl
  rw [e, List.getElem?_toArray, permOps, List.getElem?_map, List.getElem?_eq_none (by omega)]
  rfl
theorem perm_inj {p q : List Nat} {n : Nat} (h : permOK p q n = true) {i j : Nat} (he : q.getD i i = q.getD j j) : i = j := by
  obtain ⟨h1, h2, h3⟩ := perm_facts h
  have hbig : ∀ k, n ≤ k → q.getD k k = k := fun k hk => by rw [List.getD_eq_getElem?_getD, List.getElem?_eq_none (by omega)]; rfl
  by_cases hi : i < n
  · by_cases hj : j < n
    · have e1 := (h3 i hi).2.1
      rw [he, (h3 j hj).2.1] at e1
      exact e1.symm
    · have := (h3 i hi).1
      rw [he, hbig j (by omega)] at this
      omega
  · by_cases hj : j < n
    · have := (h3 j hj).1
      rw [← he, hbig i (by omega)] at this
      omega
    · rw [hbig i (by omega), hbig j (by omega)] at he; exact he

theorem perm_yielded {p q : List Nat} {ops : Array Oper} (h : permOK p q ops.size = true) (t : Array Value) (j : Nat) : yielded (permOps p q ops.toList).toArray t (q.getD j j) = yielded ops t j := by
  unfold yielded
  cases ho : ops[j]? with
  | none => rw [perm_none h ho]
  | some o => rw [perm_get h ho]; rfl

theorem perm_any {p q : List Nat} {ops : Array Oper} (h : permOK p q ops.size = true) {Q : Exit → Act → World → Prop} : ∀ (f : Nat) (L L' : Array Bool) (a : Act) (w : World), L.size = ops.size → L'.size = ops.size →
    (∀ i, L'.getD (q.getD i i) false = L.getD i false) → wpAny P .any (permOps p q ops.toList).toArray Q f L' a w → wpAny P .any ops Q f L a w := by
  obtain ⟨h1, h2, h3⟩ := perm_facts h
  have hrd : ∀ (L L' : Array Bool), L.size = ops.size → L'.size = ops.size → (∀ i, L'.getD (q.getD i i) false = L.getD i false) → ∀ i, i ∈ Region.ready .any ops L → q.getD i i ∈ Region.ready .any (permOps p q ops.toList).toArray L' := fun L L' hL hL' hg i hi => by
    obtain ⟨k1, o, k2, k3⟩ := mem_ready.1 hi
    have hlt : i < ops.size := (Array.getElem?_eq_some_iff.1 k2).1
    refine mem_ready.2 ⟨?_, _, perm_get h k2, fun e he hb => ?_⟩
    · have e1 : L.getD i true = L.getD i false := by rw [Array.getD_eq_getD_getElem?, Array.getD_eq_getD_getElem?, Array.getElem?_eq_getElem (by omega)]; rfl
      have e2 : L'.getD (q.getD i i) true = L'.getD (q.getD i i) false := by
        have := (h3 i hlt).1
        rw [Array.getD_eq_getD_getElem?, Array.getD_eq_getD_getElem?, Array.getElem?_eq_getElem (by omega)]; rfl
      rw [e2, hg, ← e1]; exact k1
    · simp only [renOp] at he
      obtain ⟨e0, he0, rfl⟩ := Array.mem_map.1 he
      show L'.getD (q.getD e0.on e0.on) false = true
      rw [hg]
      exact k3 e0 he0 hb
  intro f
  induction f with
  | zero =>
    intro L L' a w hL hL' hg hw
    refine ⟨List.eq_nil_iff_forall_not_mem.2 fun i hi => ?_, hw.2⟩
    have := hrd L L' hL hL' hg i hi
    rw [hw.1] at this
    cases this
  | succ f ih =>
    intro L L' a w hL hL' hg hw
    refine ⟨fun h0 => ?_, fun i hi => ?_⟩
    · by_cases hr : Region.ready .any (permOps p q ops.toList).toArray L' = []
      · exact hw.1 hr
      · exfalso
        obtain ⟨j, hj⟩ := List.exists_mem_of_ne_nil _ hr
        obtain ⟨k1, o, k2, k3⟩ := mem_ready.1 hj
        -- a new place is the place of an old one
        have hjn : j < ops.size := by
          have := (Array.getElem?_eq_some_iff.1 k2).1
          simp only [List.size_toArray, permOps, List.length_map] at this
          omega
        have hpj : ∃ i, i < ops.size ∧ q.getD i i = j := ⟨p.getD j j, (h3 j hjn).2.2.1, (h3 j hjn).2.2.2⟩
        obtain ⟨i, hi, rfl⟩ := hpj
        have : i ∈ Region.ready .any ops L := by
          obtain ⟨oi, hoi⟩ : ∃ oi, ops[i]? = some oi := ⟨_, Array.getElem?_eq_getElem hi⟩
          rw [perm_get h hoi] at k2
          injection k2 with k2
          refine mem_ready.2 ⟨?_, oi, hoi, fun e he hb => ?_⟩
          · have e1 : L.getD i true = L.getD i false := by rw [Array.getD_eq_getD_getElem?, Array.getD_eq_getD_getElem?, Array.getElem?_eq_getElem (by omega)]; rfl
            have e2 : L'.getD (q.getD i i) true = L'.getD (q.getD i i) false := by
              rw [Array.getD_eq_getD_getElem?, Array.getD_eq_getD_getElem?, Array.getElem?_eq_getElem (by omega)]; rfl
            rw [e1, ← hg, ← e2]; exact k1
          · rw [← hg]
            exact k3 (renE (fun j => q.getD j j) e) (by rw [← k2]; exact Array.mem_map.2 ⟨e, he, rfl⟩) hb
        rw [h0] at this
        cases this
    · have hri := hrd L L' hL hL' hg i hi
      have hop := hw.2 _ hri
      obtain ⟨_, o, hoi, _⟩ := mem_ready.1 hi
      have hlt : i < ops.size := (Array.getElem?_eq_some_iff.1 hoi).1
      have hnext : ∀ a' w', wpAny P .any (permOps p q ops.toList).toArray Q f (L'.setIfInBounds (q.getD i i) true) a' w' → wpAny P .any ops Q f (L.setIfInBounds i true) a' w' := fun a' w' hk =>
        ih _ _ a' w' (by simpa using hL) (by simpa using hL') (fun j => by
          have hji : q.getD j j = q.getD i i ↔ j = i := ⟨fun e => perm_inj h e, fun e => by rw [e]⟩
          have hqi := (h3 i hlt).1
          have := hg j
          rw [Array.getD_eq_getD_getElem?, Array.getD_eq_getD_getElem?] at this
          rw [Array.getD_eq_getD_getElem?, Array.getD_eq_getD_getElem?, Array.getElem?_setIfInBounds, Array.getElem?_setIfInBounds]
          by_cases e : j = i
          · subst e
            rw [if_pos rfl, if_pos rfl, if_pos (by omega), if_pos (by omega)]
          · rw [if_neg (fun e2 => e (hji.1 e2.symm)), if_neg (fun e2 => e e2.symm)]
            exact this) hk
      have hop2 := wpOp_mono hnext hop
      unfold wpOp at hop2 ⊢
      rw [perm_get h hoi] at hop2
      rw [hoi]
      simp only at hop2 ⊢
      have hwant : Region.wanted (renOp (fun j => q.getD j j) o) (yielded (permOps p q ops.toList).toArray a.tmps) = Region.wanted o (yielded ops a.tmps) := by
        unfold Region.wanted renOp
        cases o.guard with
        | none => rfl
        | some g =>
          obtain ⟨j, b⟩ := g
          simp only [Option.map_some]
          rw [perm_yielded h]
      rw [hwant] at hop2
      exact hop2

/-- A REGION THAT DRAWS, ITS OPERATIONS LISTED IN ANOTHER ORDER. -/
theorem draw_perm (p q : List Nat) {ops ops' : Array Oper} {Q : Exit → Act → World → Prop} (h : permOK p q ops.size = true) (he : (permOps p q ops.toList).toArray = ops') (hk : DrawOK P C ops' Q 0 σ) : DrawOK P C ops Q 0 σ := by
  subst he
  intro a w hr
  have hs : (permOps p q ops.toList).toArray.size = ops.size := by
    obtain ⟨h1, _, _⟩ := perm_facts h
    simp [permOps, h1]
  have := hk a w hr
  rw [hs] at this
  refine perm_any h _ _ _ a w (by simp [doneTo]) (by simp [doneTo]) (fun i => ?_) this
  rw [doneTo_get, doneTo_get]
  split <;> split <;> rfl
end
attribute [go_sem] asEmpty
end Go.Eng

namespace Go.Eng

def remOp (r : Nat) (f : Nat → Nat) (o : Oper) : Oper := ⟨o.dst, o.op, o.type, o.pos, (o.after.filter fun e => !(e.on == r)).map (renE f), o.guard.map fun g => (f g.1, g.2)⟩
def remOps (r : Nat) (p q : List Nat) (l : List Oper) : List Oper := p.map fun i => remOp r (fun j => q.getD j j) (l.getD i default)
def isSel : Op → Bool
  | .select .. => true
  | _ => false
def remOK (r : Nat) (p q : List Nat) (ops : Array Oper) : Bool :=
  p.length + 1 == ops.size && q.length == ops.size && (decide (r < ops.size) && (List.range ops.size).all fun i => i == r || (decide (q.getD i i + 1 < ops.size) && p.getD (q.getD i i) 0 == i)) &&
  ((List.range p.length).all fun j => decide (p.getD j 0 < ops.size) && !(p.getD j 0 == r) && q.getD (p.getD j 0) 0 == j) &&
  ops.toList.all fun o => (match o.guard with | some g => !(g.1 == r) | none => true) && !isSel o.op
def firstOK (r : Nat) (o : Oper) (ops : Array Oper) : Bool :=
  o.after.isEmpty && (List.range ops.size).all fun j => j == r || (match ops[j]? with | some oj => (oj.after.any fun e => Region.binds .any e && e.on == r) || o.apart ops oj | none => true)

section
variable {P : Program} {T : Tab} {C : Ctx} {σ σ' : St} {μ : Nat → Option Nat} {S : Nat → Prop} {a : Act} {w : World}

theorem field_any (hT : TabOK P T) {t : TypeId} {v : Value} {x r : AV} {j : Nat} (h : fieldAddrAV T t x j = some r) (hv : Rd μ S w v x) :
    ∃ u, (∀ w', (Instr.fieldAt t v j).run P w' = .ok u w') ∧ Rd μ S w u r := by
  unfold fieldAddrAV at h
  split at h
  · rename_i q o cells off hf
    injection h with h; subst h
    obtain ⟨F, f, h1, h2, h3, h4, h5⟩ := hT.fld _ _ _ _ hf
    obtain ⟨g, o', vals, rfl, hS, hc, hr⟩ := hv.inv_rp.inv_rp
    refine ⟨.pointer (some ⟨g, o' + (off + o), none⟩), fun w' => ?_, .pure (.rp g o' (off + o) cells vals hS hc hr)⟩
    simp [Instr.fieldAt, run_underlying h1, h2, Instr.sureAddr, fieldPlace, h3, sizeOf_of hT h5, h5, h4, add_plain, Nat.add_assoc]
  · rename_i q o id size row off hf
    injection h with h; subst h
    obtain ⟨F, f, h1, h2, h3, h4, h5⟩ := hT.fld _ _ _ _ hf
    obtain ⟨g, hg, rfl⟩ := hv.inv_ptr
    refine ⟨.pointer (some ⟨g, row * size + (off + o), none⟩), fun w' => ?_, .ptr id size row (off + o) g hg⟩
    simp [Instr.fieldAt, run_underlying h1, h2, Instr.sureAddr, fieldPlace, h3, sizeOf_of hT h5, h5, h4, add_plain, Nat.add_assoc]
  · cases h

structure RemF (r : Nat) (p q : List Nat) (ops : Array Oper) : Prop where
  pl : p.length + 1 = ops.size
  ql : q.length = ops.size
  rl : r < ops.size
  to : ∀ i, i < ops.size → i ≠ r → q.getD i i + 1 < ops.size ∧ p.getD (q.getD i i) 0 = i
  fro : ∀ j, j < p.length → p.getD j 0 < ops.size ∧ p.getD j 0 ≠ r ∧ q.getD (p.getD j 0) 0 = j
  gd : ∀ (i : Nat) o j b, ops[i]? = some o → o.guard = some (j, b) → j ≠ r
  sel : ∀ (i : Nat) o cs b, ops[i]? = some o → o.op ≠ .select cs b

theorem rem_facts {r : Nat} {p q : List Nat} {ops : Array Oper} (h : remOK r p q ops = true) : RemF r p q ops := by
  unfold remOK at h
  simp only [Bool.and_eq_true, beq_iff_eq, decide_eq_true_eq] at h
  obtain ⟨⟨⟨⟨h1, h2⟩, h3, h4⟩, h5⟩, h6⟩ := h
  have hall : ∀ (i : Nat) o, ops[i]? = some o → ((match o.guard with | some g => !(g.1 == r) | none => true) && !isSel o.op) = true := fun i o ho =>
    List.all_eq_true.1 h6 o (by rw [Array.mem_toList_iff]; exact Array.mem_of_getElem? ho)
  refine ⟨h1, h2, h3, fun i hi hne => ?_, fun j hj => ?_, fun i o j b ho hg e => ?_, fun i o cs b ho e => ?_⟩
  · have := List.all_eq_true.1 h4 i (List.mem_range.2 hi)
    simp only [Bool.or_eq_true, Bool.and_eq_true, beq_iff_eq, decide_eq_true_eq] at this
    rcases this with h | h
    · exact absurd h hne
    · exact h
  · have := List.all_eq_true.1 h5 j (List.mem_range.2 hj)
    simp only [Bool.and_eq_true, beq_iff_eq, decide_eq_true_eq, Bool.not_eq_true', beq_eq_false_iff_ne] at this
    exact ⟨this.1.1, this.1.2, this.2⟩
  · have := hall i o ho
    rw [hg] at this
    simp only [Bool.and_eq_true, Bool.not_eq_true', beq_eq_false_iff_ne] at this
    exact this.1 e
  · have := hall i o ho
    rw [e] at this
    simp [isSel] at this

theorem RemF.get {r : Nat} {p q : List Nat} {ops : Array Oper} (h : RemF r p q ops) {i : Nat} (hne : i ≠ r) {o : Oper} (ho : ops[i]? = some o) :
    (remOps r p q ops.toList).toArray[q.getD i i]? = some (remOp r (fun j => q.getD j j) o) := by
  have hi : i < ops.size := (Array.getElem?_eq_some_iff.1 ho).1
  obtain ⟨h4, h5⟩ := h.to i hi hne
  have hpl := h.pl
  rw [List.getElem?_toArray, remOps, List.getElem?_map]
  have hp : p[q.getD i i]? = some i := by
    rw [List.getD_eq_getElem?_getD, List.getElem?_eq_getElem (by omega)] at h5
    rw [List.getElem?_eq_getElem (by omega)]
    exact congrArg some h5
  rw [hp]
  simp only [Option.map_some]
  rw [List.getD_eq_getElem?_getD, Array.getElem?_toList, ho]
  rfl
theorem RemF.big {r : Nat} {p q : List Nat} {ops : Array Oper} (h : RemF r p q ops) {i : Nat} (hi : ops.size ≤ i) : q.getD i i = i := by
  have := h.ql
  rw [List.getD_eq_getElem?_getD, List.getElem?_eq_none (by omega)]; rfl
theorem RemF.inj {r : Nat} {p q : List Nat} {ops : Array Oper} (h : RemF r p q ops) {i j : Nat} (hi : i ≠ r) (hj : j ≠ r) (he : q.getD i i = q.getD j j) : i = j := by
  by_cases h1 : i < ops.size
  · by_cases h2 : j < ops.size
    · have e1 := (h.to i h1 hi).2
      rw [he, (h.to j h2 hj).2] at e1
      exact e1.symm
    · have := (h.to i h1 hi).1
      rw [he, h.big (by omega)] at this
      omega
  · by_cases h2 : j < ops.size
    · have := (h.to j h2 hj).1
      rw [← he, h.big (by omega)] at this
      omega
    · rw [h.big (by omega), h.big (by omega)] at he; exact he
theorem RemF.yielded {r : Nat} {p q : List Nat} {ops : Array Oper} (h : RemF r p q ops) (t : Array Value) {j : Nat} (hj : j ≠ r) : Go.yielded (remOps r p q ops.toList).toArray t (q.getD j j) = Go.yielded ops t j := by
  unfold Go.yielded
  cases ho : ops[j]? with
  | none =>
    have hs : ops.size ≤ j := Array.getElem?_eq_none_iff.1 ho
    have hpl := h.pl
    rw [h.big hs, List.getElem?_toArray, remOps, List.getElem?_map, List.getElem?_eq_none (by omega)]
    rfl
  | some o => rw [h.get hj ho]; rfl

theorem rem_any {r : Nat} {p q : List Nat} {ops : Array Oper} (h : RemF r p q ops) {Q : Exit → Act → World → Prop} : ∀ (f : Nat) (L L' : Array Bool) (a : Act) (w : World), L.size = ops.size → L'.size + 1 = ops.size → L.getD r false = true →
    (∀ i, i ≠ r → L'.getD (q.getD i i) false = L.getD i false) → wpAny P .any (remOps r p q ops.toList).toArray Q f L' a w → wpAny P .any ops Q f L a w := by
  have hpl := h.pl
  have hTF : ∀ (L : Array Bool) (i : Nat), i < L.size → L.getD i true = L.getD i false := fun L i hi => by rw [Array.getD_eq_getD_getElem?, Array.getD_eq_getD_getElem?, Array.getElem?_eq_getElem hi]; rfl
  have hne : ∀ (L : Array Bool), L.size = ops.size → L.getD r false = true → ∀ i, i ∈ Region.ready .any ops L → i ≠ r := fun L hL hr i hi e => by
    subst e
    obtain ⟨k1, _⟩ := mem_ready.1 hi
    rw [hTF L i (by rw [hL]; exact h.rl), hr] at k1
    cases k1
  have hrd : ∀ (L L' : Array Bool), L.size = ops.size → L'.size + 1 = ops.size → L.getD r false = true → (∀ i, i ≠ r → L'.getD (q.getD i i) false = L.getD i false) → ∀ i, i ∈ Region.ready .any ops L → q.getD i i ∈ Region.ready .any (remOps r p q ops.toList).toArray L' := fun L L' hL hL' hr hg i hi => by
    have hir := hne L hL hr i hi
    obtain ⟨k1, o, k2, k3⟩ := mem_ready.1 hi
    have hlt : i < ops.size := (Array.getElem?_eq_some_iff.1 k2).1
    refine mem_ready.2 ⟨?_, _, h.get hir k2, fun e he hb => ?_⟩
    · rw [hTF L' _ (by have := (h.to i hlt hir).1; omega), hg i hir, ← hTF L i (by omega)]; exact k1
    · simp only [remOp] at he
      obtain ⟨e0, he0, rfl⟩ := Array.mem_map.1 he
      obtain ⟨he1, he2⟩ := Array.mem_filter.1 he0
      show L'.getD (q.getD e0.on e0.on) false = true
      rw [hg _ (by simpa using he2)]
      exact k3 e0 he1 hb
  intro f
  induction f with
  | zero =>
    intro L L' a w hL hL' hr hg hw
    refine ⟨List.eq_nil_iff_forall_not_mem.2 fun i hi => ?_, hw.2⟩
    have := hrd L L' hL hL' hr hg i hi
    rw [hw.1] at this
    cases this
  | succ f ih =>
    intro L L' a w hL hL' hr hg hw
    refine ⟨fun h0 => ?_, fun i hi => ?_⟩
    · by_cases hrr : Region.ready .any (remOps r p q ops.toList).toArray L' = []
      · exact hw.1 hrr
      · exfalso
        obtain ⟨j, hj⟩ := List.exists_mem_of_ne_nil _ hrr
        obtain ⟨k1, o, k2, k3⟩ := mem_ready.1 hj
        have hjn : j < p.length := by
          have := (Array.getElem?_eq_some_iff.1 k2).1
          simpa only [List.size_toArray, remOps, List.length_map] using this
        obtain ⟨f1, f2, f3⟩ := h.fro j hjn
        have hqi : q.getD (p.getD j 0) (p.getD j 0) = j := by
          have hq := h.ql
          rw [List.getD_eq_getElem?_getD, List.getElem?_eq_getElem (by omega)] at f3 ⊢
          exact f3
        obtain ⟨oi, hoi⟩ : ∃ oi, ops[p.getD j 0]? = some oi := ⟨_, Array.getElem?_eq_getElem f1⟩
        have hget := h.get f2 hoi
        rw [hqi] at hget
        rw [hget] at k2
        injection k2 with k2
        have : p.getD j 0 ∈ Region.ready .any ops L := by
          refine mem_ready.2 ⟨?_, oi, hoi, fun e he hb => ?_⟩
          · rw [hTF L _ (by omega), ← hg _ f2, hqi, ← hTF L' j (by omega)]; exact k1
          · by_cases her : e.on = r
            · rw [her]; exact hr
            · rw [← hg _ her]
              exact k3 (renE (fun j => q.getD j j) e) (by rw [← k2]; exact Array.mem_map.2 ⟨e, Array.mem_filter.2 ⟨he, by simpa using her⟩, rfl⟩) hb
        rw [h0] at this
        cases this
    · have hir := hne L hL hr i hi
      have hri := hrd L L' hL hL' hr hg i hi
      have hop := hw.2 _ hri
      obtain ⟨_, o, hoi, _⟩ := mem_ready.1 hi
      have hlt : i < ops.size := (Array.getElem?_eq_some_iff.1 hoi).1
      have hnext : ∀ a' w', wpAny P .any (remOps r p q ops.toList).toArray Q f (L'.setIfInBounds (q.getD i i) true) a' w' → wpAny P .any ops Q f (L.setIfInBounds i true) a' w' := fun a' w' hk =>
        ih _ _ a' w' (by simpa using hL) (by simpa using hL') (by
          rw [Array.getD_eq_getD_getElem?, Array.getElem?_setIfInBounds, if_neg hir, ← Array.getD_eq_getD_getElem?]; exact hr) (fun j hj => by
          have hqi := (h.to i hlt hir).1
          have := hg j hj
          rw [Array.getD_eq_getD_getElem?, Array.getD_eq_getD_getElem?] at this
          rw [Array.getD_eq_getD_getElem?, Array.getD_eq_getD_getElem?, Array.getElem?_setIfInBounds, Array.getElem?_setIfInBounds]
          by_cases e : j = i
          · subst e
            rw [if_pos rfl, if_pos rfl, if_pos (by omega), if_pos (by omega)]
          · rw [if_neg (fun e2 => e (h.inj hj hir e2.symm)), if_neg (fun e2 => e e2.symm)]
            exact this) hk
      have hop2 := wpOp_mono hnext hop
      unfold wpOp at hop2 ⊢
      rw [h.get hir hoi] at hop2
      rw [hoi]
      simp only at hop2 ⊢
      have hwant : Region.wanted (remOp r (fun j => q.getD j j) o) (Go.yielded (remOps r p q ops.toList).toArray a.tmps) = Region.wanted o (Go.yielded ops a.tmps) := by
        unfold Region.wanted remOp
        cases hgd : o.guard with
        | none => rfl
        | some g =>
          obtain ⟨j, b⟩ := g
          simp only [Option.map_some]
          rw [h.yielded a.tmps (h.gd i o j b hoi hgd)]
      rw [hwant] at hop2
      exact hop2

/-- THE ADDRESS OF A FIELD, AHEAD OF ALL ELSE. -/
theorem draw_early (hT : TabOK P T) (r : Nat) (p q : List Nat) {ops ops' : Array Oper} {Q : Exit → Act → World → Prop} {o : Oper} {t : TypeId} {x : Operand} {j : Nat} {y : AV} (ho : ops[r]? = some o) (hop : o.op = .fieldAddr t x j) (hg : o.guard = none)
    (hQ : ∀ c a w, ¬ Q (.panic c) a w) (h1 : remOK r p q ops = true) (h2 : firstOK r o ops = true) (he : (remOps r p q ops.toList).toArray = ops') {z : AV} (hx : evS σ x = (True, z)) (hy : fieldAddrAV T t z j = some y)
    (hk : DrawOK P C ops' Q 0 (σ.put o.dst y)) : DrawOK P C ops Q 0 σ := by
  subst he
  have hF := rem_facts h1
  have hrl := hF.rl
  have hpl := hF.pl
  intro a w ⟨μ, S, hi⟩
  have hv := hi.evS x (by rw [hx]; trivial)
  rw [hx] at hv
  obtain ⟨u, hu, hr⟩ := field_any hT hy hv
  have hrel : Rel C (σ.put o.dst y) (a.put o.dst u) w := ⟨μ, S, hi.put o.dst hr⟩
  have hk' := hk _ _ hrel
  have hs : (remOps r p q ops.toList).toArray.size + 1 = ops.size := by simp [remOps, hpl]
  obtain ⟨n, hn⟩ : ∃ n, ops.size = n + 1 := ⟨ops.size - 1, by omega⟩
  have hsz : (remOps r p q ops.toList).toArray.size = n := by omega
  unfold firstOK at h2
  rw [Bool.and_eq_true] at h2
  have hafter : o.after = #[] := Array.isEmpty_iff.1 h2.1
  have hd0 : ∀ (m i : Nat) (d : Bool), (doneTo m 0).getD i d = if i < m then false else d := fun m i d => by rw [doneTo_get]; simp
  rw [hn, Nat.sub_zero]
  refine wpAny_first (v := u) ho hF.sel (fun c a w hc => absurd hc (hQ c _ _)) n _ a w (fun k oj hoj hkr _ hw => ?_) (mem_ready.2 ⟨?_, o, ho, fun e he => by rw [hafter] at he; simp at he⟩) (.inl ⟨by rw [Region.wanted, hg], fun w' => ?_⟩) ?_
  · have := List.all_eq_true.1 h2.2 k (List.mem_range.2 (Array.getElem?_eq_some_iff.1 hoj).1)
    rw [hoj] at this
    simp only [Bool.or_eq_true, beq_iff_eq, Array.any_eq_true', Bool.and_eq_true] at this
    rcases this with h | ⟨e, he, hb, hon⟩ | h
    · exact absurd h hkr
    · exact absurd hon (hw e he hb)
    · exact h
  · rw [← hn, hd0, if_pos hrl]
  · have e1 : a.eval x = a.eval x := rfl
    have := hu w'
    simp [execOp, hop, this]
  · rw [hsz, Nat.sub_zero] at hk'
    refine rem_any hF n _ _ _ _ (by simp [doneTo, hn]) (by simp [doneTo, hn]) ?_ (fun i hi => ?_) hk'
    · rw [Array.getD_eq_getD_getElem?, Array.getElem?_setIfInBounds, if_pos rfl, if_pos (by simp [doneTo]; omega)]; rfl
    · have e2 : ((doneTo (n + 1) 0).setIfInBounds r true).getD i false = (doneTo (n + 1) 0).getD i false := by
        rw [Array.getD_eq_getD_getElem?, Array.getElem?_setIfInBounds, if_neg (fun e => hi e.symm), ← Array.getD_eq_getD_getElem?]
      rw [e2, hd0, hd0]
      split <;> split <;> rfl
end
end Go.Eng

namespace Go.Eng
section
variable {P : Program} {T : Tab} {C : Ctx} {σ σ' : St}

theorem sub_app (ids : List Nat) : ∀ (A B : List (Nat × Blk)), sub ids (A ++ B) = sub ids A ++ sub ids B
  | [], _ => rfl
  | p :: r, B => by
    simp only [List.cons_append, sub, sub_app ids r B]
    split <;> rfl
theorem sub_sub (ids : List Nat) : ∀ A : List (Nat × Blk), sub ids (sub ids A) = sub ids A
  | [] => rfl
  | p :: r => by
    simp only [sub]
    split
    · rename_i h; simp only [sub, h, if_true, sub_sub ids r]
    · exact sub_sub ids r
theorem sub_del (ids : List Nat) : ∀ A : List (Nat × Blk), sub ids (del ids A) = []
  | [] => rfl
  | p :: r => by
    simp only [del]
    split
    · exact sub_del ids r
    · rename_i h; simp only [sub, h, sub_del ids r]; rfl

/-- what 'ids' name, put ahead -/
def front (ids : List Nat) (A : List (Nat × Blk)) (s : St) : St := ⟨s.tm, sub ids A ++ del ids s.hp⟩
theorem front_sub (ids : List Nat) (A : List (Nat × Blk)) (s : St) : sub ids (front ids A s).hp = sub ids A := by
  show sub ids (sub ids A ++ del ids s.hp) = _
  rw [sub_app, sub_sub, sub_del, List.append_nil]
theorem front_get {ids : List Nat} {A : List (Nat × Blk)} {s : St} (h : ∀ i, ids.contains i = true → hget s.hp i = hget A i) (i : Nat) : hget (front ids A s).hp i = hget s.hp i := by
  show hget (sub ids A ++ del ids s.hp) i = _
  rw [hget_append]
  by_cases hi : ids.contains i = true
  · by_cases he : ∃ b, b ∈ sub ids A ∧ b.1 = i
    · rw [if_pos he, hget_sub, if_pos hi, h i hi]
    · rw [if_neg he, hget_del, if_pos hi, h i hi]
      cases e : hget A i with
      | none => rfl
      | some b =>
        have h2 : hget (sub ids A) i = some b := by rw [hget_sub, if_pos hi]; exact e
        exact absurd ⟨_, hget_mem h2, rfl⟩ he
  · rw [if_neg, hget_del, if_neg hi]
    rintro ⟨b, hb, rfl⟩
    have : ∀ A : List (Nat × Blk), b ∈ sub ids A → ids.contains b.1 = true := fun A => by
      induction A with
      | nil => intro h; cases h
      | cons p r ih =>
        intro h
        simp only [sub] at h
        split at h
        · rename_i hc
          rcases List.mem_cons.1 h with rfl | h
          · exact hc
          · exact ih h
        · exact ih h
    exact hi (this _ hb)

theorem hget_hsetAll_app {K : List (Nat × Blk)} (hnd : (K.map (·.1)).Nodup) (A : List (Nat × Blk)) (i : Nat) : hget (hsetAll A K) i = hget (K ++ A) i := by
  rw [hget_hsetAll i K _ hnd, hget_append]
  by_cases e : ∃ b, b ∈ K ∧ b.1 = i
  · rw [if_pos e]
    obtain ⟨b, hb, rfl⟩ := e
    have : ∀ K : List (Nat × Blk), b ∈ K → (hget K b.1).isSome = true := fun K => by
      induction K with
      | nil => intro h; cases h
      | cons q r ih =>
        intro h
        simp only [hget]
        split
        · rfl
        · rename_i hne
          rcases List.mem_cons.1 h with rfl | h
          · exact absurd rfl hne
          · exact ih h
    rw [if_pos (this K hb)]
  · rw [if_neg e]
    cases e2 : hget K i with
    | none => rfl
    | some b => exact absurd ⟨_, hget_mem e2, rfl⟩ e

/-- such a call, at every state that agrees -/
theorem trip_callS {ops : Array Oper} {o : Oper} {c : Operand} {args : Array Operand} {ats : Array TypeId} (ho : o.op = .call { callee := .value c, args, argTypes := ats }) {p : Prop} {f : FuncId} {xs : List AV}
    (h : callArgs σ c args.toList = some (p, f, xs)) (hp : p) (hc : Callable P f) (ids : List Nat) {K : List (Nat × Blk)} {r : AV}
    (hck : ((refsL xs).all ids.contains && (refs r).all ids.contains && ids.all (fun i => decide (i < 5000) && (hget K i).isSome) && K.all (fun q => ids.contains q.1)) = true) (hnd : (K.map (·.1)).Nodup)
    (hpin : (ids.all fun i => match hget (sub ids σ.hp) i with | some b => pinnable b | none => false) = true) (hc1 : ((sub ids σ.hp).all fun q => (refsB q.2).all ids.contains) = true) (hc2 : (K.all fun q => (refsB q.2).all ids.contains) = true)
    (hf : ∀ G Y N : Nat → Nat, FnOK P f xs (sub ids σ.hp ++ pins ids G Y N) fun r' H' => r' = r ∧ ∀ i b, hget (K ++ pins ids G Y N) i = some b → hget H' i = some b)
    {s : St} (ha : ∀ x, x ∈ locsG ops o.guard ++ ((locsO σ c ++ locsL σ args.toList) ++ ids.map Loc.blk) → AgreeAt σ s x) {τ : St} (h1 : τ.tm = (St.put ⟨s.tm, []⟩ o.dst r).tm) (h2 : ∀ i, hget τ.hp i = hget (K ++ s.hp) i) : Trip P C o s τ := by
  have hag : ∀ i, ids.contains i = true → hget s.hp i = hget σ.hp i := fun i hi => ha (.blk i) (List.mem_append_right _ (List.mem_append_right _ (List.mem_map.2 ⟨i, by simpa using hi, rfl⟩)))
  have hca : callArgs s c args.toList = callArgs σ c args.toList := callArgs_agree fun x hx => ha x (List.mem_append_right _ (List.mem_append_left _ hx))
  have hfg := front_get (ids := ids) (A := σ.hp) (s := s) hag
  have hca2 : callArgs (front ids σ.hp s) c args.toList = some (p, f, xs) := by
    rw [← h, ← hca]
    refine callArgs_agree fun x _ => ?_
    cases x with
    | tm t => rfl
    | blk i => exact hfg i
  have hl1 : Le C s (front ids σ.hp s) := rel_same rfl (fun _ => rfl) (fun i => (hfg i).symm)
  intro a w Kp Q hrel hK
  have hs := front_sub ids σ.hp s
  refine trip_callP ho hca2 hp hc ids hs hck hnd hpin hc1 hc2 hf rfl a w Kp Q (hl1 a w hrel) fun a' w' hr' => hK a' w' (rel_same ?_ ?_ ?_ a' w' hr')
  · rw [h1]; cases o.dst <;> simp [St.put, front]
  · intro t; rw [h1]; cases o.dst <;> rfl
  · intro i
    rw [St.put_hp, h2]
    show hget (hsetAll (front ids σ.hp s).hp K) i = hget (K ++ s.hp) i
    rw [hget_hsetAll_app hnd, hget_append, hget_append, hfg]

/-- A CALL THAT TURNS WHAT 'ids' NAME IN ITS PLACE, in a region that draws. -/
theorem seg_callP {ops : Array Oper} {Q : Exit → Act → World → Prop} {k n : Nat} {acc : Skel} {o : Oper} {l : List Oper} {c : Operand} {args : Array Operand} {ats : Array TypeId} (ho : o.op = .call { callee := .value c, args, argTypes := ats }) (hg : o.guard = none) {p : Prop} {f : FuncId} {xs : List AV}
    (h : callArgs σ c args.toList = some (p, f, xs)) (hp : p) (hc : Callable P f) (ids : List Nat) {H K : List (Nat × Blk)} {r : AV} (hH : sub ids σ.hp = H)
    (hck : ((refsL xs).all ids.contains && (refs r).all ids.contains && ids.all (fun i => decide (i < 5000) && (hget K i).isSome) && K.all (fun q => ids.contains q.1)) = true) (hnd : (K.map (·.1)).Nodup)
    (hpin : (ids.all fun i => match hget H i with | some b => pinnable b | none => false) = true) (hc1 : (H.all fun q => (refsB q.2).all ids.contains) = true) (hc2 : (K.all fun q => (refsB q.2).all ids.contains) = true)
    (hf : ∀ G Y N : Nat → Nat, FnOK P f xs (H ++ pins ids G Y N) fun r' H' => r' = r ∧ ∀ i b, hget (K ++ pins ids G Y N) i = some b → hget H' i = some b)
    {sk : List Loc × List Loc} (hs : ((match o.dst with | some t => [Loc.tm t] | none => []) ++ K.map (fun b => Loc.blk b.1), locsG ops o.guard ++ ((locsO σ c ++ locsL σ args.toList) ++ ids.map Loc.blk)) = sk)
    (ha : (⟨σ.tm, hsetAll σ.hp K⟩ : St).put o.dst r = σ') (hk : SegFrom P C ops Q k n (acc ++ [sk]) l σ') : SegFrom P C ops Q k n acc (o :: l) σ := by
  subst hs ha hH
  have hKi : ∀ b, b ∈ K → ids.contains b.1 = true := fun b hb => by
    simp only [Bool.and_eq_true] at hck
    exact List.all_eq_true.1 hck.2 b hb
  have hrob : Rob P C ops o ⟨o.dst, r, K, locsG ops o.guard ++ ((locsO σ c ++ locsL σ args.toList) ++ ids.map Loc.blk)⟩ σ := by
    intro s ha _ a w Kp Q ⟨μ, S, hi⟩ hK
    have hgs : guardOf ops s o.guard = some true := by rw [hg]; rfl
    rw [wanted_of hi hgs]
    refine .inl (trip_callS ho h hp hc ids hck hnd hpin hc1 hc2 hf ha ?_ (fun i => ?_) a w Kp Q ⟨μ, S, hi⟩ hK)
    · unfold Sp.app; cases o.dst <;> rfl
    · unfold Sp.app; rw [St.put_hp]
  refine seg_robN hrob (fun b hb hno => absurd ?_ hno) rfl rfl (SegFrom.sim ⟨?_, ?_⟩ hk)
  · exact List.mem_append_right _ (List.mem_append_right _ (List.mem_map.2 ⟨b.1, by simpa using hKi b hb, rfl⟩))
  · unfold Sp.app; cases o.dst <;> rfl
  · intro i
    unfold Sp.app
    rw [St.put_hp, St.put_hp]
    exact (hget_hsetAll_app hnd σ.hp i).symm

/-- A CALL THAT LOOKS AT WHAT 'ids' NAME, and leaves it as it is, in a region that draws. -/
theorem seg_callK {ops : Array Oper} {Q : Exit → Act → World → Prop} {k n : Nat} {acc : Skel} {o : Oper} {l : List Oper} {c : Operand} {args : Array Operand} {ats : Array TypeId} (ho : o.op = .call { callee := .value c, args, argTypes := ats }) (hg : o.guard = none) {p : Prop} {f : FuncId} {xs : List AV}
    (h : callArgs σ c args.toList = some (p, f, xs)) (hp : p) (hc : Callable P f) (ids : List Nat) {H : List (Nat × Blk)} {r : AV} (hH : sub ids σ.hp = H)
    (hck : ((refsL xs).all ids.contains && (refs r).all ids.contains && ids.all (fun i => decide (i < 5000) && (hget H i).isSome) && H.all (fun q => ids.contains q.1)) = true) (hnd : (H.map (·.1)).Nodup)
    (hpin : (ids.all fun i => match hget H i with | some b => pinnable b | none => false) = true) (hc1 : (H.all fun q => (refsB q.2).all ids.contains) = true)
    (hf : ∀ G Y N : Nat → Nat, FnOK P f xs (H ++ pins ids G Y N) fun r' H' => r' = r ∧ ∀ i b, hget (H ++ pins ids G Y N) i = some b → hget H' i = some b)
    {sk : List Loc × List Loc} (hs : ((match o.dst with | some t => [Loc.tm t] | none => []), locsG ops o.guard ++ ((locsO σ c ++ locsL σ args.toList) ++ ids.map Loc.blk)) = sk)
    (ha : σ.put o.dst r = σ') (hk : SegFrom P C ops Q k n (acc ++ [sk]) l σ') : SegFrom P C ops Q k n acc (o :: l) σ := by
  subst hs ha hH
  have hrob : Rob P C ops o ⟨o.dst, r, [], locsG ops o.guard ++ ((locsO σ c ++ locsL σ args.toList) ++ ids.map Loc.blk)⟩ σ := by
    intro s ha _ a w Kp Q ⟨μ, S, hi⟩ hK
    have hgs : guardOf ops s o.guard = some true := by rw [hg]; rfl
    rw [wanted_of hi hgs]
    refine .inl (trip_callS ho h hp hc ids hck hnd hpin hc1 hc1 hf ha ?_ (fun i => ?_) a w Kp Q ⟨μ, S, hi⟩ hK)
    · unfold Sp.app; cases o.dst <;> rfl
    · unfold Sp.app
      rw [St.put_hp]
      show hget s.hp i = _
      rw [hget_append]
      split
      · rename_i he
        obtain ⟨b, hb, rfl⟩ := he
        have hib : ids.contains b.1 = true := by
          simp only [Bool.and_eq_true] at hck
          exact List.all_eq_true.1 hck.2 b hb
        rw [hget_sub, if_pos hib]
        exact ha (.blk b.1) (List.mem_append_right _ (List.mem_append_right _ (List.mem_map.2 ⟨b.1, by simpa using hib, rfl⟩)))
      · rfl
  refine seg_rob hrob rfl ?_ ?_ hk
  · unfold Sp.wr; cases o.dst <;> simp
  · unfold Sp.app; cases o.dst <;> rfl
end
end Go.Eng

namespace Go.Eng
section
variable {P : Program} {T : Tab} {C : Ctx} {σ : St} {Ret : St → Prop}

theorem leAny_kill (id : Nat) : ∀ l : List AV, leAny l (l.map (kill id))
  | [] => trivial
  | x :: l => by
    refine ⟨?_, leAny_kill id l⟩
    unfold kill
    split
    · exact .inl rfl
    · exact .inr rfl
theorem hset_hset_get (h : List (Nat × Blk)) (id : Nat) (b c : Blk) (i : Nat) : hget (hset (hset h id b) id c) i = hget (hset h id c) i := by
  simp only [hget_hset]
  split <;> rfl

/-- a block told longer than it was known: nothing is known of what lies behind -/
theorem Inv.pad {μ : Nat → Option Nat} {S : Nat → Prop} {a : Act} {w : World} (hi : Inv C μ S σ a w) {id e s m n : Nat} {R : List (List AV)} (hb : hget σ.hp id = some (.cells e s R)) {g : Nat} (hg : μ id = some g) {c : Array Value} (hc : w.heap[g]? = some (.cells c e (0, 0)))
    (hm : m ≤ R.length) (hn : (m + n) * s ≤ c.size) : Inv C μ S ⟨σ.tm, hset σ.hp id (.cells e s (R.take m ++ List.replicate n (List.replicate s .any)))⟩ a w := by
  refine ⟨hi.size, hi.defers, hi.tm, fun i b hb' => ?_, fun i q hq => ?_, hi.inj, hi.frm, hi.sb⟩
  · rw [hget_hset] at hb'
    split at hb'
    · rename_i e'
      injection hb' with hb'
      subst hb' e'
      rcases hi.hp id _ hb with ⟨_, k⟩ | ⟨g', c', k1, k2, k3, k4, k5⟩
      · rw [k] at hg; cases hg
      · rw [k1] at hg; injection hg with hg; subst hg
        rw [k2] at hc
        simp only [Option.some.injEq, Obj.cells.injEq] at hc
        obtain ⟨rfl, _⟩ := hc
        refine .inr ⟨g', c', k1, k2, ?_, fun row hr => ?_, fun i row hi' j x hx => ?_⟩
        · simp only [List.length_append, List.length_take, List.length_replicate, Nat.min_eq_left hm]; exact hn
        · rcases List.mem_append.1 hr with h | h
          · exact k4 row (List.mem_of_mem_take h)
          · rw [(List.mem_replicate.1 h).2]; simp
        · by_cases h : i < (R.take m).length
          · rw [List.getElem?_append_left h, List.getElem?_take] at hi'
            split at hi'
            · exact k5 i row hi' j x hx
            · cases hi'
          · rw [List.getElem?_append_right (by omega)] at hi'
            have h1 := (List.mem_replicate.1 (List.mem_of_getElem? hi')).2
            subst h1
            have h2 := (List.mem_replicate.1 (List.mem_of_getElem? hx)).2
            subst h2
            exact .any _
    · exact hi.hp i b hb'
  · obtain ⟨⟨b, k1⟩, k2⟩ := hi.dom i q hq
    refine ⟨?_, k2⟩
    rw [hget_hset]; split
    · exact ⟨_, rfl⟩
    · exact ⟨b, k1⟩

theorem cw_appendO (hT : TabOK P T) {k : List It} {all : Array Oper} {o : Oper} {l : List Oper} {x y : Operand} {t e : TypeId} (ho : o.op = .call { callee := .builtin .append, args := #[x, y], argTypes := #[t, t] }) (hgd : o.guard = none) (ht : T.und t = .sl e)
    {id s off len : Nat} {R rows : List (List AV)} {yv : AV} (hx : evS σ x = (True, .osl id s off len)) (hy : evS σ y = (True, yv)) (hsrc : srcRows σ yv = some rows) (hyl : ∀ id s off len, yv = .osl id s off len → rows.length = len) (hb : hget σ.hp id = some (.cells e s R))
    (hlen : 0 < len) (hR : off + len ≤ R.length) (hs : T.siz e = s) (hs0 : s ≠ 0) (hb0 : T.byt e ≠ 0) (hrl : rowsOf s rows) (hleaf : rowsLeaf rows = true) (hsz : (2 * (len + rows.length) + 768) * T.byt e ≤ 281474976710656) (hfree : HpFree id σ.hp)
    (hbf : BlkFree id (.cells e s (R ++ rows)))
    (h : ∀ off' : Nat, off' = off ∨ off' = 0 → Cw P C Ret (.ops all l :: k) (St.put ⟨σ.tm.map (kill id), hset σ.hp id (.cells e s ((R.drop (off - off')).take (off' + len) ++ rows))⟩ o.dst (.osl id s off' (len + rows.length)))) :
    Cw P C Ret (.ops all (o :: l) :: k) σ := by
  subst hs
  intro a w hrel
  show wpList P all _ (o :: l) a w
  unfold wpList
  obtain ⟨μ, S, hi⟩ := hrel
  rw [wanted_of hi (c := true) (by rw [hgd]; rfl)]
  refine .inl ?_
  have hty : P.underlying t = some (.slice e) := by have := hT.und t; rw [ht] at this; exact this
  have hvx := hi.evS x (by rw [hx]; trivial)
  have hvy := hi.evS y (by rw [hy]; trivial)
  rw [hx] at hvx; rw [hy] at hvy
  obtain ⟨vs, hvs⟩ := src_of hi hsrc hvy hrl hyl
  have hRt : ((R.drop off).take len).length = len := by simp; omega
  rcases hi.hp id _ hb with ⟨rfl, _⟩ | ⟨g', c, k1, k2, k3, k4, k5⟩
  · simp at hR; omega
  have hRl : rowsOf (T.siz e) ((R.drop off).take len) := fun row hr => k4 row (List.mem_of_mem_drop (List.mem_of_mem_take hr))
  obtain ⟨olds, hol⟩ := src_of hi (x := .osl id (T.siz e) off len) (rows := (R.drop off).take len) (size := T.siz e) (by simp [srcRows, hb]) hvx hRl (fun _ _ _ _ h => by injection h with _ _ _ h; rw [hRt, h])
  have hvx0 := hvx
  obtain ⟨A, cap, hav, hc, hor⟩ := hvx.inv_osl
  rcases hor with ⟨h1, _⟩ | ⟨g, e2, n, h1, hA, h3, h4⟩
  · omega
  rw [k1] at h1; injection h1 with h1; subst h1
  rw [rowSize, k2] at h3
  simp only [Option.some.injEq, Prod.mk.injEq] at h3
  obtain ⟨rfl, rfl⟩ := h3
  have hax : a.eval x = .slice (some ⟨g', off * T.siz e, none⟩) len cap := by rw [← hA]; exact hav
  have hno := rowsFree hbf
  have hv0 : ∀ u, u ∈ vs → u.oneCell' = true := vals_leaf hvs hleaf
  by_cases hroom : len + rows.length ≤ cap
  · -- in place
    have hr := run_append_in (ty := o.type) (A := some ⟨g', off * T.siz e, none⟩) (len := len) (cap := cap) hT hty hs0 hvs hroom
    have hcap : (off + len + rows.length) * T.siz e ≤ c.size := by
      rw [← h4]; exact Nat.mul_le_mul_right _ (by omega)
    have hi1 := hi.pad hb k1 k2 hR hcap
    have hl1 : (R.take (off + len)).length = off + len := by simp; omega
    obtain ⟨w', r1, r2⟩ := write_rows (P := P) hi1 (off := off + len) (new := rows) (vs := vs) (by rw [hget_hset, if_pos rfl]) k1 (by simp [hl1]) hvs.len hrl hv0 (fun i row hi j x hx => hvs.rd i row hi j x hx)
    have hov : overRows (R.take (off + len) ++ List.replicate rows.length (List.replicate (T.siz e) .any)) (off + len) rows = R.take (off + len) ++ rows := by
      unfold overRows
      rw [List.take_append_of_le_length (by omega), List.take_of_length_le (by omega), List.drop_eq_nil_of_le (by simp [hl1]), List.append_nil]
    rw [hov] at r2
    have hfr : (execOp a.eval o).run P w = .ok (.value (.slice (some ⟨g', off * T.siz e, none⟩) (len + rows.length) cap)) w' := by
      have e1 : off * T.siz e + len * T.siz e = (off + len) * T.siz e := by rw [Nat.add_mul]
      simp only [add_plain, e1, r1, Result.andThen_ok] at hr
      simp [execOp, ho, hax, resolve, invoke, builtin, hr]
    have r3 := r2.hpEq (H := hset σ.hp id (.cells e (T.siz e) (R.take (off + len) ++ rows))) (fun i => (hset_hset_get _ _ _ _ i).symm)
    have he : evS ⟨σ.tm, hset σ.hp id (.cells e (T.siz e) (R.take (off + len) ++ rows))⟩ x = evS σ x := by cases x <;> rfl
    have hv2 := r3.evS x (by rw [he, hx]; trivial)
    rw [he, hx, hax] at hv2
    obtain ⟨A2, cap2, hv3, _, hor2⟩ := hv2.inv_osl
    obtain ⟨μ3, S3, r4⟩ := le_any (C := C) (leAny_kill id σ.tm) a w' ⟨μ, S, r3⟩
    unfold Oper.wp
    rw [hfr]
    have hv4 := r4
    refine h off (.inl rfl) (a.put o.dst _) _ ⟨μ, S, Inv.put ?_ o.dst ?_⟩
    rw [Nat.sub_self, List.drop_zero]
    · exact ⟨by rw [r3.size]; simp, r3.defers, fun t x hx => by
        rw [List.getElem?_map] at hx
        cases e5 : σ.tm[t]? with
        | none => rw [e5] at hx; cases hx
        | some y =>
          rw [e5] at hx
          simp only [Option.map_some, Option.some.injEq] at hx
          subst hx
          have := r3.tm t y e5
          unfold kill
          split
          · exact .any _
          · exact this, r3.hp, r3.dom, r3.inj, r3.frm, r3.sb⟩
    · rcases hor2 with ⟨h5, _⟩ | ⟨g2, e3, n2, q1, q2, q3, q4⟩
      · omega
      · rw [k1] at q1; injection q1 with q1; subst q1
        injection hv3 with j1 j2 j3
        subst j3
        exact .osl id _ off _ cap _ hroom (.inr ⟨g', e3, n2, k1, rfl, q3, q4⟩)
  · -- a new block
    obtain ⟨nc, z, h1, h2, hgr⟩ := run_append_grow' (ty := o.type) hT hty hs0 hb0 (by rw [← hax]; exact hol) hvs hRt hroom hsz
    have hi1 := (hi.drop id hfree).drew
    have hfr : hget (σ.drop id).hp id = none := by simp only [St.drop, hget_hdel, if_true]
    have hnod : upd μ id none id = none := hi1.fresh hfr
    have hm : ∀ {v x}, Rd μ S w v x → id ∉ refs x → Rd (upd μ id none) S w.drew v x := fun h hn =>
      (h.other hn none).mono (fun _ _ => rfl) (fun _ h => h) (fun _ _ h => h) (fun _ _ _ => rfl)
    have hrun : (execOp a.eval o).run P w = .ok (.value (.slice (some ⟨w.heap.size, 0, none⟩) (len + rows.length) nc)) (w.drew.alloc (.cells (olds.toArray ++ vs.toArray ++ z) e)) := by
      simp [execOp, ho, hax, resolve, invoke, builtin, hgr]
    unfold Oper.wp
    rw [hrun]
    have hnew := hi1.new id hfr (.cells (olds.toArray ++ vs.toArray ++ z) e) (.cells e (T.siz e) ((R.drop off).take len ++ rows)) (.inr ⟨w.heap.size, _, by simp [upd], alloc_drew_new w _, by simp [hol.len, hvs.len, hRt, Nat.add_mul], fun row hrow => by
        rcases List.mem_append.1 hrow with h | h
        · exact hRl row h
        · exact hrl row h, ?_⟩)
    · have hnew' := hnew.hpEq (H := hset σ.hp id (.cells e (T.siz e) ((R.drop off).take len ++ rows))) (fun i => by
        simp only [St.drop, hget_hset, hget, hget_hdel]
        split <;> rfl)
      refine h 0 (.inr rfl) (a.put o.dst _) _ ⟨_, _, Inv.put (by rw [Nat.sub_zero, Nat.zero_add]; exact hnew') o.dst ?_⟩
      refine .osl id _ 0 _ nc _ h1 (.inr ⟨w.heap.size, e, _, if_pos rfl, by simp, ?_, rfl⟩)
      unfold rowSize
      rw [alloc_drew_new]
      simp only [Option.some.injEq, Prod.mk.injEq, true_and]
      simp only [Array.size_append, List.size_toArray, hol.len, hvs.len, hRt, h2, Nat.zero_add, ← Nat.add_mul]
      congr 1
      omega
    · have hup : ∀ {v x}, Rd (upd μ id none) S w.drew v x →
          Rd (upd (upd μ id none) id (some w.heap.size)) S (World.alloc w.drew (.cells (olds.toArray ++ vs.toArray ++ z) e)) v x := fun h =>
        h.mono (fun b hb => alloc_get _ _ b (hi1.sb b hb).1) (fun _ h => h) (fun i' g hg => by
          show (if i' = id then some w.heap.size else upd μ id none i') = some g
          rw [if_neg (by rintro rfl; rw [hnod] at hg; cases hg)]; exact hg) (fun i' g hg => rowSize_same (alloc_get _ _ g (hi1.dom i' g hg).2.2.2))
      have key := joined_rd (μ := upd μ id none) (S := S) (w := w.drew) (R := (R.drop off).take len) (rows := rows) (cs := olds.toArray ++ vs.toArray ++ z) (s := T.siz e) hol.len hRl hrl
        (fun i row hi' j x hx => hm (hol.rd i row hi' j x hx) (hno row (List.mem_append_left _ (List.mem_of_mem_drop (List.mem_of_mem_take (List.mem_of_getElem? hi')))) x (List.mem_of_getElem? hx)))
        (fun i row hi' j x hx => hm (hvs.rd i row hi' j x hx) (hno row (List.mem_append_right _ (List.mem_of_getElem? hi')) x (List.mem_of_getElem? hx))) hvs.len (fun k hk => by
          rw [Array.getD_eq_getD_getElem?, List.getD_eq_getElem?_getD, Array.getElem?_append_left (by simpa using hk)]
          simp [List.append_toArray])
      exact fun i row hi' j x hx => hup (key i row hi' j x hx)
end
end Go.Eng

namespace Go.Eng
section
variable {P : Program} {T : Tab} {C : Ctx} {σ : St} {Ret : St → Prop} {w : World}

/-! ### A map that is written no more -/
mutual
def frzM (id : Nat) (kvs : List (Int × AV)) : AV → AV
  | .mp i => if i = id then .rm kvs else .mp i
  | .ptr i size row off => if i = id then .any else .ptr i size row off
  | .osl i size off len => if i = id then .any else .osl i size off len
  | .exs i size off len cap => if i = id then .any else .exs i size off len cap
  | .agg cells => .agg (frzML id kvs cells)
  | .tup cells => .tup (frzML id kvs cells)
  | .fn f caps => .fn f (frzML id kvs caps)
  | .cnd c v => .cnd c (frzM id kvs v)
  | x => x
def frzML (id : Nat) (kvs : List (Int × AV)) : List AV → List AV
  | [] => []
  | x :: r => frzM id kvs x :: frzML id kvs r
end
theorem frzML_map (id : Nat) (kvs : List (Int × AV)) : ∀ l, frzML id kvs l = l.map (frzM id kvs)
  | [] => rfl
  | x :: r => by simp [frzML, frzML_map id kvs r]
def frzMB (id : Nat) (kvs : List (Int × AV)) : Blk → Blk
  | .cells e z R => .cells e z (R.map (frzML id kvs))
  | .map m => .map m
  | .iter m seen => .iter m seen
  | .cap j z N => if j = id then .cells 0 0 [] else .cap j z N
  | .pin j g z N => if j = id then .cells 0 0 [] else .pin j g z N
def frzMH (id : Nat) (kvs : List (Int × AV)) : List (Nat × Blk) → List (Nat × Blk)
  | [] => []
  | p :: r => if p.1 = id then frzMH id kvs r else (p.1, frzMB id kvs p.2) :: frzMH id kvs r
theorem hget_frzMH (id : Nat) (kvs : List (Int × AV)) (i : Nat) : ∀ H, hget (frzMH id kvs H) i = if i = id then none else (hget H i).map (frzMB id kvs)
  | [] => by simp [frzMH, hget]
  | (j, b) :: r => by
    have ih := hget_frzMH id kvs i r
    unfold frzMH
    by_cases h : j = id
    · subst h
      rw [if_pos rfl, ih]
      by_cases h2 : i = j
      · rw [if_pos h2, if_pos h2]
      · rw [if_neg h2, if_neg h2]; simp only [hget]; rw [if_neg (fun h => h2 h.symm)]
    · rw [if_neg h]
      simp only [hget]
      by_cases h2 : j = i
      · subst h2; rw [if_pos rfl, if_neg h, if_pos rfl]; rfl
      · rw [if_neg h2, if_neg h2]; exact ih
theorem RdP.frzM_eq {S : Nat → Prop} {v : Value} {x : AV} (h : RdP S w v x) (id : Nat) (kvs : List (Int × AV)) : frzM id kvs x = x := by
  have key : ∀ (l : List AV), (∀ (j : Nat) x, l[j]? = some x → frzM id kvs x = x) → frzML id kvs l = l := by
    intro l
    induction l with
    | nil => intro _; rfl
    | cons y r ih =>
      intro h
      simp only [frzML]
      rw [h 0 y rfl, ih (fun j x hj => h (j + 1) x (by simpa using hj))]
  induction h with
  | fn f vals caps hl hr ih => simp only [frzM]; rw [key caps ih]
  | agg cs cells hl hr ih => simp only [frzM]; rw [key cells ih]
  | _ => rfl
theorem frzM_list {id : Nat} {kvs : List (Int × AV)} {R' : Value → AV → Prop} {vals : Nat → Value} {cells : List AV} (h : ∀ j x, cells[j]? = some x → R' (vals j) (frzM id kvs x)) :
    ∀ j x, (frzML id kvs cells)[j]? = some x → R' (vals j) x := by
  intro j x hx
  rw [frzML_map, List.getElem?_map] at hx
  cases e : cells[j]? with
  | none => rw [e] at hx; cases hx
  | some y =>
    rw [e] at hx; simp only [Option.map_some, Option.some.injEq] at hx; subst hx
    exact h j y e

theorem inv_freezeM {l : List AV} {H : List (Nat × Blk)} {id : Nat} {kvs : List (Int × AV)} (hb : hget H id = some (.map kvs)) {μ : Nat → Option Nat} {S : Nat → Prop} {a : Act} (hi : Inv C μ S ⟨l, H⟩ a w) :
    Inv C (upd μ id none) (fun b => S b ∨ μ id = some b) ⟨l.map (frzM id kvs), frzMH id kvs H⟩ a w := by
  obtain ⟨g0, es0, clk0, vals0, b1, b2, b3, b4⟩ := hi.hp id _ hb
  let S2 : Nat → Prop := fun b => S b ∨ μ id = some b
  let μ2 : Nat → Option Nat := upd μ id none
  have hS : ∀ b, S b → S2 b := fun b h => .inl h
  have rd : ∀ {v : Value} {x : AV}, Rd μ S w v x → Rd μ2 S2 w v (frzM id kvs x) := by
    intro v x h
    induction h with
    | any v => exact .any v
    | pure h => rw [h.frzM_eq]; exact .pure (h.mono (SameOn.refl _ _) hS)
    | agg cs cells hl hr ih => simp only [frzM]; exact .agg cs _ (by rw [frzML_map, List.length_map]; exact hl) (frzM_list (R' := fun v x => Rd μ2 S2 w v x) (vals := fun j => cs.getD j undef) ih)
    | tup cs cells hl hr ih => simp only [frzM]; exact .tup cs _ (by rw [frzML_map, List.length_map]; exact hl) (frzM_list (R' := fun v x => Rd μ2 S2 w v x) (vals := fun j => cs.getD j undef) ih)
    | fn f vals cells hl hr ih => simp only [frzM]; exact .fn f vals _ (by rw [frzML_map, List.length_map]; exact hl) (frzM_list (R' := fun v x => Rd μ2 S2 w v x) (vals := fun j => vals.getD j undef) ih)
    | ptr i size row o g hg =>
      simp only [frzM]
      split
      · exact .any _
      · rename_i he
        exact .ptr i size row o g (by simp only [μ2, upd]; rw [if_neg he]; exact hg)
    | osl i size o len cap A hc h =>
      simp only [frzM]
      split
      · exact .any _
      · rename_i he
        refine .osl i size o len cap A hc ?_
        rcases h with h | ⟨g, e', n, h1, h2, h3, h4⟩
        · exact .inl h
        · exact .inr ⟨g, e', n, by simp only [μ2, upd]; rw [if_neg he]; exact h1, h2, h3, h4⟩
    | mp i g hg =>
      simp only [frzM]
      split
      · rename_i he
        subst he
        rw [b1] at hg; injection hg with hg; subst hg
        exact .pure (.rm g0 es0 clk0 kvs vals0 (.inr b1) b2 b3 (fun p hp => (b4 p hp).mono (SameOn.refl _ _) hS))
      · rename_i he
        exact .mp i g (by simp only [μ2, upd]; rw [if_neg he]; exact hg)
    | exs i size o len cap g e n hc hg hr hn =>
      simp only [frzM]
      split
      · exact .any _
      · rename_i he
        exact .exs i size o len cap g e n hc (by simp only [μ2, upd]; rw [if_neg he]; exact hg) hr hn
    | cndT v x h ih => exact .cndT v _ ih
    | cndF x => exact .cndF _
  have m2 : ∀ {i g}, μ2 i = some g → i ≠ id ∧ μ i = some g := fun {i g} hg => by
    simp only [μ2, upd] at hg
    split at hg
    · cases hg
    · exact ⟨by assumption, hg⟩
  refine ⟨by simp [hi.size], hi.defers, fun t x hx => ?_, fun i b hb' => ?_, fun i g hg => ?_, fun i j g h1 h2 => hi.inj i j g (m2 h1).2 (m2 h2).2, hi.frm, fun b hb' => ?_⟩
  · simp only [List.getElem?_map] at hx
    cases e : l[t]? with
    | none => rw [e] at hx; cases hx
    | some y =>
      rw [e] at hx
      simp only [Option.map_some, Option.some.injEq] at hx
      subst hx
      exact rd (hi.tm t y e)
  · simp only at hb'
    rw [hget_frzMH] at hb'
    split at hb'
    · cases hb'
    · rename_i he
      cases e1 : hget H i with
      | none => rw [e1] at hb'; cases hb'
      | some b0 =>
        rw [e1] at hb'
        simp only [Option.map_some, Option.some.injEq] at hb'
        subst hb'
        have hμ : μ2 i = μ i := by simp only [μ2, upd]; rw [if_neg he]
        have := hi.hp i b0 e1
        cases b0 with
        | cells e' z R =>
          rcases this with ⟨rfl, h2⟩ | ⟨g, c, h1, h2, h3, h4, h5⟩
          · exact .inl ⟨rfl, hμ.trans h2⟩
          · refine .inr ⟨g, c, hμ.trans h1, h2, by simpa using h3, fun row hrow => ?_, fun i' row hi' j x hx => ?_⟩
            · obtain ⟨r, hr, rfl⟩ := List.mem_map.1 hrow
              rw [frzML_map, List.length_map]; exact h4 r hr
            · rw [List.getElem?_map] at hi'
              cases e2 : R[i']? with
              | none => rw [e2] at hi'; cases hi'
              | some r =>
                rw [e2] at hi'; simp only [Option.map_some, Option.some.injEq] at hi'; subst hi'
                exact frzM_list (R' := fun v x => Rd μ2 S2 w v x) (vals := fun j => c.getD (i' * z + j) undef) (fun j x hx => rd (h5 i' r e2 j x hx)) j x hx
        | map kvs =>
          obtain ⟨g, es, clk, vals, h1, h2, h3, h4⟩ := this
          exact ⟨g, es, clk, vals, hμ.trans h1, h2, h3, fun p hp' => (h4 p hp').mono (SameOn.refl _ _) hS⟩
        | iter kvs seen =>
          obtain ⟨g, es, clk, vals, had, h1, h2, h4⟩ := this
          obtain ⟨m, k1, k2, k3⟩ := h2.lies
          exact ⟨g, es, clk, vals, had, hμ.trans h1, ⟨⟨m, k1, hS _ k2, k3⟩, h2.map, h2.last, h2.had⟩, fun p hp' => (h4 p hp').mono (SameOn.refl _ _) hS⟩
        | cap k z N =>
          obtain ⟨h1, g, e, h2, h3⟩ := this
          simp only [frzMB]
          split
          · exact .inl ⟨rfl, hμ.trans h1⟩
          · rename_i hk
            refine ⟨hμ.trans h1, g, e, ?_, h3⟩
            simp only [upd]
            rw [if_neg hk]; exact h2
        | pin k g z N =>
          obtain ⟨h1, h2, h3⟩ := this
          simp only [frzMB]
          split
          · exact .inl ⟨rfl, hμ.trans h1⟩
          · rename_i hk
            refine ⟨hμ.trans h1, ?_, h3⟩
            simp only [upd]
            rw [if_neg hk]; exact h2
  · obtain ⟨k1, k2⟩ := m2 hg
    obtain ⟨⟨b, h1⟩, h2, h3, h4⟩ := hi.dom i g k2
    refine ⟨⟨frzMB id kvs b, ?_⟩, h2, ?_, h4⟩
    · simp only at h1 ⊢
      rw [hget_frzMH, if_neg k1, h1]; rfl
    · rintro (h | h)
      · exact h3 h
      · exact k1 (hi.inj _ _ _ k2 h)
  · rcases hb' with h | h
    · exact hi.sb b h
    · obtain ⟨_, h2, _, h4⟩ := hi.dom id b h
      exact ⟨h4, .inr h2⟩
/-- A MAP THAT IS HELD IS WRITTEN NO MORE. -/
theorem cw_freezeM {k : List It} {l : List AV} {H : List (Nat × Blk)} (id : Nat) {kvs : List (Int × AV)} (hb : hget H id = some (.map kvs)) (h : Cw P C Ret k ⟨l.map (frzM id kvs), frzMH id kvs H⟩) : Cw P C Ret k ⟨l, H⟩ :=
  cw_le (fun _ _ ⟨_, _, hi⟩ => ⟨_, _, inv_freezeM hb hi⟩) h
attribute [go_sem] frzM frzML frzMB frzMH

/-! ### A map that is gone through -/
theorem cw_range (hT : TabOK P T) {k : List It} {all : Array Oper} {o : Oper} {l : List Oper} {t : TypeId} {x : Operand} {d : Nat} (ho : o.op = .range t x) (hd : o.dst = some d) (hg : o.guard = none) {kt et : TypeId} (ht : T.und t = .map kt et) {kvs : List (Int × AV)}
    (hx : evS σ x = (True, .rm kvs)) (hf : hget σ.hp d = none) (h : Cw P C Ret (.ops all l :: k) ⟨σ.tm.set d (.ptr d 1 0 0), (d, .iter kvs []) :: σ.hp⟩) : Cw P C Ret (.ops all (o :: l) :: k) σ := by
  refine cw_step (by rw [hg]; rfl) (fun a w K Q ⟨μ, S, hi⟩ hK => ?_) h
  have hv := hi.evS x (by rw [hx]; trivial)
  rw [hx] at hv
  obtain ⟨g, es, clk, vals, hv', h1, h2, h3, h4⟩ := (Rd.inv_rm hv).inv_rm
  have hty : P.underlying t = some (.map kt et) := by have := hT.und t; rw [ht] at this; exact this
  have hax : a.eval x = .map (some g) := hv'
  have hrun : (execOp a.eval o).run P w = .ok (.value (.pointer (some ⟨w.heap.size, 0, none⟩))) (w.alloc (.mapIter (some g) clk #[] clk)) := by
    simp [execOp, ho, hax, run_range_map w t kt et g es clk hty h2]
  unfold Oper.wp
  rw [hrun]
  have hlt := (hi.sb g h1).1
  have hnew := hi.new d hf (.mapIter (some g) clk #[] clk) (.iter kvs []) ⟨w.heap.size, es, clk, vals, #[], by simp [upd], ⟨⟨g, alloc_new w _, h1, by rw [alloc_get w _ g hlt]; exact h2⟩, h3, fun k r h => (by cases h), fun e he k hk => by simp⟩,
    fun p hp => (h4 p hp).mono (fun b hb => alloc_get w _ b (hi.sb b hb).1) (fun _ h => h)⟩
  have hput := hnew.put o.dst (u := .pointer (some ⟨w.heap.size, 0, none⟩)) (x := .ptr d 1 0 0) (by
    have := Rd.ptr (μ := upd μ d (some w.heap.size)) (S := S) (w := w.alloc (.mapIter (some g) clk #[] clk)) d 1 0 0 w.heap.size (by simp [upd])
    simpa using this)
  rw [hd] at hput
  refine hK _ _ ⟨upd μ d (some w.heap.size), S, ?_⟩
  rw [hd]
  exact hput

theorem run_next_at {g bm since c0 : Nat} {seen : Array Nat} {es : Array MapEntry} {clock : Nat} (ty : TypeId) (hg : w.heap[g]? = some (.mapIter (some bm) since seen c0)) (hb : w.heap[bm]? = some (.map es clock)) (hold : ∀ x ∈ es.toList, x.born < since) (hsc : since ≤ c0) :
    ((leftOf es seen).size = 0 ∧ (Instr.next (.pointer (some ⟨g, 0, none⟩)) false ty).run P w = .ok (.tuple #[.bool false]) w) ∨
    ∃ e ∈ (leftOf es seen).toList, ∃ w1 : World, (w1 = w ∨ w1 = w.drew) ∧ (Instr.next (.pointer (some ⟨g, 0, none⟩)) false ty).run P w =
      ((setObj g (.mapIter (some bm) since (seen.push e.born) clock)).run P w1).andThen (fun _ w' => .ok (.tuple #[.bool true, e.key, e.val]) w') := by
  simp only [Instr.next, getObj, Sem.run_bind, Sem.run, hg, hb, Result.andThen, next_test_false seen es since c0 hold hsc, Bool.false_eq_true, if_false]
  unfold leftOf
  have hmem : ∀ x ∈ (Array.filter (fun e => !seen.contains e.born) es).toList, x.born < since := fun x hx => hold x (by simp at hx ⊢; exact hx.1)
  generalize Array.filter (fun e => !seen.contains e.born) es = L at hmem ⊢
  have e1 : L.filter (fun x => decide (x.born < since)) = L := Array.filter_eq_self.2 (fun x hx => by simpa using hmem x (by simpa using hx))
  have e2 : L.filter (fun x => decide (x.born ≥ since)) = #[] := by
    rw [Array.filter_eq_empty_iff]
    intro x hx
    have := hmem x (by simpa using hx)
    simp
    omega
  simp only [e1, e2, Array.append_empty]
  by_cases h0 : L.size = 0
  · left
    have : L = #[] := Array.eq_empty_of_size_eq_zero h0
    subst this
    refine ⟨rfl, ?_⟩
    simp [choose, Sem.run, Question.forced]
  · right
    have hne : L.isEmpty = false := by simp [Array.isEmpty, h0]
    simp only [hne, Bool.false_eq_true, if_false, Array.empty_append, Array.size_map]
    have hch : ∃ (j : Nat) (w1 : World), j < L.size ∧ (w1 = w ∨ w1 = w.drew) ∧ (choose (Question.mapNext L.size)).run P w = .ok j w1 := by
      by_cases hf : L.size ≤ 1
      · exact ⟨0, w, by omega, .inl rfl, by simp [choose, Sem.run, Question.forced, hf]⟩
      · exact ⟨_, w.drew, Nat.mod_lt _ (by omega), .inr rfl, by
          simp only [choose, Sem.run, Question.forced, decide_eq_true_eq, hf, if_false, Question.cut]
          rfl⟩
    obtain ⟨j, w1, hj, hw1, hrun⟩ := hch
    refine ⟨L[j], by simp, w1, hw1, ?_⟩
    simp only [hrun, Array.getElem?_map, Array.getElem?_eq_getElem hj, Option.map_some, Sem.run_bind, Result.andThen]
    rfl

theorem cw_next {k : List It} {all : Array Oper} {o : Oper} {l : List Oper} {x : Operand} {d : Nat} (ho : o.op = .next x false) (hg : o.guard = none) {kvs : List (Int × AV)} {seen : List Int}
    (hx : evS σ x = (True, .ptr d 1 0 0)) (hb : hget σ.hp d = some (.iter kvs seen)) (h1 : (∀ p, p ∈ kvs → p.1 ∈ seen) → Cw P C Ret (.ops all l :: k) (σ.put o.dst (.tup [.bool false])))
    (h2 : ∀ n v, (n, v) ∈ kvs → n ∉ seen → Cw P C Ret (.ops all l :: k) (St.put ⟨σ.tm, hset σ.hp d (.iter kvs (n :: seen))⟩ o.dst (.tup [.bool true, .int .i64 n, v]))) : Cw P C Ret (.ops all (o :: l) :: k) σ := by
  intro a w hrel
  show wpList P all _ (o :: l) a w
  unfold wpList
  obtain ⟨μ, S, hi⟩ := hrel
  rw [wanted_of hi (c := true) (by rw [hg]; rfl)]
  refine .inl ?_
  have hv := hi.evS x (by rw [hx]; trivial)
  rw [hx] at hv
  obtain ⟨g, hμ, hax⟩ := hv.inv_ptr
  obtain ⟨g', es, clk, vals, had, q1, q2, q3⟩ := hi.hp d _ hb
  rw [hμ] at q1; injection q1 with q1; subst q1
  obtain ⟨m, k1, k2, k3⟩ := q2.lies
  have hax' : a.eval x = .pointer (some ⟨g, 0, none⟩) := by simpa using hax
  have hcase := run_next_at (P := P) o.type k1 k3 (fun e he => q2.map.born e he) (Nat.le_refl _)
  unfold Oper.wp
  rcases hcase with ⟨c1, c2⟩ | ⟨e, c1, w1, c2, c3⟩
  · have hrun : (execOp a.eval o).run P w = .ok (.value (.tuple #[.bool false])) w := by
      simp [execOp, ho, hax', c2]
    rw [hrun]
    refine h1 (fun p hp => ?_) _ _ ⟨μ, S, hi.put o.dst (.tup _ _ rfl fun j y hy => ?_)⟩
    · obtain ⟨e, he, hk⟩ := q2.map.has p hp
      refine (q2.had e he p.1 hk).1 ?_
      cases hc : had.contains e.born with
      | true => rfl
      | false =>
        have : e ∈ (leftOf es had).toList := by unfold leftOf; simp at he hc ⊢; exact ⟨he, by simpa using hc⟩
        rw [Array.eq_empty_of_size_eq_zero c1] at this
        simp at this
    · match j, hy with
      | 0, hy => injection hy with hy; subst hy; exact .pure (.bool false)
      | j + 1, hy => simp at hy
  · have he : e ∈ es.toList ∧ had.contains e.born = false := by unfold leftOf at c1; simpa using c1
    obtain ⟨n, v, e1, e2, e3⟩ := q2.map.key e he.1
    have hn : n ∉ seen := fun hm => by rw [(q2.had e he.1 n e1).2 hm] at he; cases he.2
    have hi1 : Inv C μ S σ a w1 := by
      rcases c2 with rfl | rfl
      · exact hi
      · exact hi.drew
    have hh1 : w1.heap = w.heap := by rcases c2 with rfl | rfl <;> rfl
    have hw1 : w1.heap[g]? = some (.mapIter (some m) clk had clk) := by rw [hh1]; exact k1
    obtain ⟨w', r1, r2, r3, r4, r5, r6, r7⟩ := run_setObj (P := P) (o := .mapIter (some m) clk (had.push e.born) clk) hw1 (fun _ _ _ h => nomatch h)
    have hrun : (execOp a.eval o).run P w = .ok (.value (.tuple #[.bool true, e.key, e.val])) w' := by
      rw [r1] at c3
      simp [execOp, ho, hax', c3]
    rw [hrun]
    have hS : ¬ S g := (hi.dom d g hμ).2.2.1
    have hw : SameOn S w w' := fun b hb => by rw [r6 b (by rintro rfl; exact hS hb), hh1]
    have hmg : m ≠ g := by rintro rfl; exact hS k2
    have hnd : (es.toList.map (·.key)).Nodup := q2.map.once
    have hblk : BlkOK μ S w' d (.iter kvs (n :: seen)) := by
      refine ⟨g, es, clk, vals, had.push e.born, hμ, ⟨⟨m, r7, k2, by rw [r6 m hmg, hh1]; exact k3⟩, q2.map, fun k' r' hkr => ?_, fun e' he' k' hk' => ?_⟩, fun p hp => (q3 p hp).mono hw (fun _ h => h)⟩
      · injection hkr with h1 h2
        subst h1
        exact ⟨e, he.1, e1, by simp⟩
      · rw [List.mem_cons]
        have h0 := q2.had e' he' k' hk'
        have hc : (had.push e.born).contains e'.born = (had.contains e'.born || e'.born == e.born) := by
          rw [Bool.eq_iff_iff]; simp
        rw [hc, Bool.or_eq_true, h0, beq_iff_eq]
        constructor
        · rintro (h | h)
          · exact .inr h
          · left
            -- one stamp, one entry
            have : e' = e := by
              have hb := q2.map.nodup
              obtain ⟨i, hi⟩ := List.getElem?_of_mem he'
              obtain ⟨j, hj⟩ := List.getElem?_of_mem he.1
              have h1 : (es.toList.map (·.born))[i]? = some e.born := by rw [List.getElem?_map, hi, ← h]; rfl
              have h2 : (es.toList.map (·.born))[j]? = some e.born := by rw [List.getElem?_map, hj]; rfl
              have := nodup_idx hb h1 h2
              subst this
              rw [hi] at hj; injection hj
            subst this
            rw [e1] at hk'
            injection hk' with _ hk'
            exact hk'.symm
        · rintro (h | h)
          · right
            subst h
            have : e' = e := by
              obtain ⟨i, hi⟩ := List.getElem?_of_mem he'
              obtain ⟨j, hj⟩ := List.getElem?_of_mem he.1
              have h1 : (es.toList.map (·.key))[i]? = some (.int .i64 k') := by rw [List.getElem?_map, hi, ← hk']; rfl
              have h2 : (es.toList.map (·.key))[j]? = some (.int .i64 k') := by rw [List.getElem?_map, hj, ← e1]; rfl
              have := nodup_idx hnd h1 h2
              subst this
              rw [hi] at hj; injection hj
            rw [this]
          · exact .inl h
    have hi2 := hi1.write d g hμ r2 r3 r4 r5 r6 (by simp [rowSize, r7, hw1]) _ hblk
    refine h2 n v e2 hn _ _ ⟨μ, S, Inv.put hi2 o.dst (.tup _ _ rfl fun j y hy => ?_)⟩
    match j, hy with
    | 0, hy => injection hy with hy; subst hy; exact .pure (.bool true)
    | 1, hy =>
      injection hy with hy; subst hy
      show Rd μ S w' e.key (.int .i64 n)
      rw [e1]; exact .pure (.int .i64 n)
    | 2, hy =>
      injection hy with hy; subst hy
      show Rd μ S w' e.val v
      rw [e3]; exact .pure ((q3 (n, v) e2).mono hw (fun _ h => h))
    | j + 3, hy => simp at hy

theorem cw_entry {k : List It} {all : Array Oper} {o : Oper} {l : List Oper} {x : Operand} {d : Nat} (ho : o.op = .entry x) (hg : o.guard = none) {kvs : List (Int × AV)} {n : Int} {seen : List Int} {v : AV}
    (hx : evS σ x = (True, .ptr d 1 0 0)) (hb : hget σ.hp d = some (.iter kvs (n :: seen))) (hv : (n, v) ∈ kvs) (h : Cw P C Ret (.ops all l :: k) (σ.put o.dst (.tup [.int .i64 n, v]))) : Cw P C Ret (.ops all (o :: l) :: k) σ := by
  refine cw_step (by rw [hg]; rfl) (fun a w K Q ⟨μ, S, hi⟩ hK => ?_) h
  have hvx := hi.evS x (by rw [hx]; trivial)
  rw [hx] at hvx
  obtain ⟨g, hμ, hax⟩ := hvx.inv_ptr
  obtain ⟨g', es, clk, vals, had, q1, q2, q3⟩ := hi.hp d _ hb
  rw [hμ] at q1; injection q1 with q1; subst q1
  obtain ⟨m, k1, k2, k3⟩ := q2.lies
  have hax' : a.eval x = .pointer (some ⟨g, 0, none⟩) := by simpa using hax
  obtain ⟨e, he, hk, hl⟩ := q2.last n seen rfl
  have hf : es.find? (·.born == e.born) = some e := by rw [← Array.find?_toList]; exact find_born e es.toList q2.map.nodup he
  have hrun : (execOp a.eval o).run P w = .ok (.value (.tuple #[e.key, e.val])) w := by
    have h0 : (Instr.entry (.pointer (some ⟨g, 0, none⟩))).run P w = .ok (.tuple #[e.key, e.val]) w := by
      simp only [Instr.entry, getObj, Sem.run_bind, Sem.run, k1, k3, Result.andThen, hl, bne_self_eq_false, Bool.false_eq_true, if_false, hf]
      rfl
    simp [execOp, ho, hax', h0]
  unfold Oper.wp
  rw [hrun]
  obtain ⟨n', v', e1, e2, e3⟩ := q2.map.key e he
  rw [hk] at e1; injection e1 with _ e1; subst e1
  have hvv : v' = v := by
    have h1 := mget_of_mem q2.map.rise e2
    have h2 := mget_of_mem q2.map.rise hv
    rw [h1] at h2; injection h2
  subst hvv
  refine hK _ _ ⟨μ, S, hi.put o.dst (.tup _ _ rfl fun j y hy => ?_)⟩
  match j, hy with
  | 0, hy =>
    injection hy with hy; subst hy
    show Rd μ S w e.key (.int .i64 n)
    rw [hk]; exact .pure (.int .i64 n)
  | 1, hy =>
    injection hy with hy; subst hy
    show Rd μ S w e.val v'
    rw [e3]; exact .pure (q3 (n, v') e2)
  | j + 2, hy => simp at hy
end
end Go.Eng

namespace Go.Eng
section
variable {P : Program} {T : Tab} {C : Ctx} {σ σ' : St} {μ : Nat → Option Nat} {S : Nat → Prop} {a : Act} {w : World} {Ret : St → Prop} {k : List It}

def mv1 (p q : Nat) : AV → AV
  | .osl id s o l => if id = p then .osl q s o l else .osl id s o l
  | .ptr id s r o => if id = p then .ptr q s r o else .ptr id s r o
  | x => kill p x

theorem le_mv (p q : Nat) {e s : Nat} {rows : List (List AV)} {H' : List (Nat × Blk)} {l' : List AV} (hb : hget σ.hp p = some (.cells e s rows)) (hq : hget σ.hp q = none) (hr : refsB (.cells e s rows) = [])
    (hH : hdel σ.hp p = H') (hf : (H'.all fun x => !(refsB x.2).contains p) = true) (ht : σ.tm.map (mv1 p q) = l') : Le C σ ⟨l', (q, .cells e s rows) :: H'⟩ := by
  subst hH ht
  intro a w ⟨μ, S, hi⟩
  have hne : p ≠ q := fun h => by subst h; rw [hb] at hq; cases hq
  have hmq : μ q = none := by
    cases h : μ q with
    | none => rfl
    | some g => obtain ⟨⟨b, h1⟩, _⟩ := hi.dom q g h; rw [hq] at h1; cases h1
  let ν : Nat → Option Nat := fun i => if i = q then μ p else if i = p then none else μ i
  have hνq : ν q = μ p := by simp [ν]
  have hν : ∀ i, i ≠ p → i ≠ q → ν i = μ i := fun i h1 h2 => by simp [ν, h1, h2]
  have hm : ∀ i, i ≠ p → ∀ g, μ i = some g → ν i = some g := fun i h g hg => by
    rw [hν i h (fun e => by subst e; rw [hmq] at hg; cases hg)]; exact hg
  have hv : ∀ i g, ν i = some g → (i = q ∧ μ p = some g) ∨ (i ≠ p ∧ i ≠ q ∧ μ i = some g) := fun i g h => by
    simp only [ν] at h
    split at h
    · exact .inl ⟨by assumption, h⟩
    · split at h
      · cases h
      · exact .inr ⟨by assumption, by assumption, h⟩
  have hkill : ∀ {v : Value} {y : AV}, Rd μ S w v y → Rd ν S w v (kill p y) := fun {v y} h => by
    unfold kill
    split
    · exact .any v
    · rename_i hc
      exact h.less fun id hid g hg => hm id (fun e => by subst e; exact hc (by simpa using hid)) g hg
  refine ⟨ν, S, by simpa using hi.size, hi.defers, fun t x hx => ?_, fun id b hb' => ?_, fun id g hg => ?_, fun i j g h1 h2 => ?_, hi.frm, hi.sb⟩
  · simp only [List.getElem?_map] at hx
    obtain ⟨y, hy, rfl⟩ := Option.map_eq_some_iff.1 hx
    have h := hi.tm t y hy
    cases y with
    | osl id s' o n =>
      simp only [mv1]
      split
      · rename_i e
        subst e
        obtain ⟨A, cap, e1, hc, hor⟩ := h.inv_osl
        rw [e1]
        refine .osl q s' o n cap A hc ?_
        rcases hor with h | ⟨g, e2, m, k1, k2, k3, k4⟩
        · exact .inl h
        · exact .inr ⟨g, e2, m, hνq.trans k1, k2, k3, k4⟩
      · rename_i e
        exact h.less fun i hid g hg => hm i (fun e' => by simp only [refs, List.mem_singleton] at hid; exact e (hid.symm.trans e')) g hg
    | ptr id s' r o =>
      simp only [mv1]
      split
      · rename_i e
        subst e
        obtain ⟨g, k1, e1⟩ := h.inv_ptr
        rw [e1]
        exact .ptr q s' r o g (hνq.trans k1)
      · rename_i e
        exact h.less fun i hid g hg => hm i (fun e' => by simp only [refs, List.mem_singleton] at hid; exact e (hid.symm.trans e')) g hg
    | _ => exact hkill h
  · simp only [hget] at hb'
    split at hb'
    · rename_i e'
      injection hb' with hb'
      subst e' hb'
      have hk := hi.hp p _ hb
      rcases hk with ⟨k1, k2⟩ | ⟨g, c, k1, k2, k3, k4, k5⟩
      · exact .inl ⟨k1, hνq.trans k2⟩
      · refine .inr ⟨g, c, hνq.trans k1, k2, k3, k4, fun i row hi' j x hx => (k5 i row hi' j x hx).less fun id hid g' hg' => ?_⟩
        have : id ∈ refsB (.cells e s rows) := List.mem_flatMap.2 ⟨row, List.mem_of_getElem? hi', refsL_mem hx hid⟩
        rw [hr] at this
        cases this
    · rename_i hq'
      have hb2 := hb'
      rw [hget_hdel] at hb'
      split at hb'
      · cases hb'
      · rename_i hp'
        refine (hi.hp id b hb').less (hν id (fun e => hp' e.symm) (fun e => hq' e.symm)) fun i hid g hg => hm i (fun e => ?_) g hg
        subst e
        have := List.all_eq_true.1 hf _ (hget_mem hb2)
        simp at this
        exact this hid
  · rcases hv id g hg with ⟨rfl, h⟩ | ⟨h1, h2, h⟩
    · exact ⟨⟨_, by simp only [hget, if_true]; rfl⟩, (hi.dom p g h).2⟩
    · obtain ⟨⟨b, hb1⟩, h3⟩ := hi.dom id g h
      exact ⟨⟨b, by simp only [hget, if_neg (fun e : q = id => h2 e.symm), hget_hdel, if_neg (fun e : p = id => h1 e.symm)]; exact hb1⟩, h3⟩
  · rcases hv i g h1 with ⟨rfl, k⟩ | ⟨k1, k2, k⟩ <;> rcases hv j g h2 with ⟨rfl, m⟩ | ⟨m1, m2, m⟩
    · rfl
    · exact absurd (hi.inj p j g k m) (fun e => m1 e.symm)
    · exact absurd (hi.inj i p g k m) k1
    · exact hi.inj i j g k m
/-- A VALUE THAT IS MOVED, AHEAD OF ALL ELSE. -/
theorem draw_earlyM (r : Nat) (p q : List Nat) {ops ops' : Array Oper} {Q : Exit → Act → World → Prop} {o : Oper} {x : Operand} (ho : ops[r]? = some o) (hop : o.op = .move x) (hg : o.guard = none)
    (hQ : ∀ c a w, ¬ Q (.panic c) a w) (h1 : remOK r p q ops = true) (h2 : firstOK r o ops = true) (he : (remOps r p q ops.toList).toArray = ops') {y : AV} (hx : evS σ x = (True, y))
    (hk : DrawOK P C ops' Q 0 (σ.put o.dst y)) : DrawOK P C ops Q 0 σ := by
  subst he
  have hF := rem_facts h1
  have hrl := hF.rl
  have hpl := hF.pl
  intro a w ⟨μ, S, hi⟩
  have hv := hi.evS x (by rw [hx]; trivial)
  rw [hx] at hv
  obtain ⟨u, hr, hu⟩ : ∃ u, Rd μ S w u y ∧ u = a.eval x := ⟨_, hv, rfl⟩
  have hrel : Rel C (σ.put o.dst y) (a.put o.dst u) w := ⟨μ, S, hi.put o.dst hr⟩
  have hk' := hk _ _ hrel
  have hs : (remOps r p q ops.toList).toArray.size + 1 = ops.size := by simp [remOps, hpl]
  obtain ⟨n, hn⟩ : ∃ n, ops.size = n + 1 := ⟨ops.size - 1, by omega⟩
  have hsz : (remOps r p q ops.toList).toArray.size = n := by omega
  unfold firstOK at h2
  rw [Bool.and_eq_true] at h2
  have hafter : o.after = #[] := Array.isEmpty_iff.1 h2.1
  have hd0 : ∀ (m i : Nat) (d : Bool), (doneTo m 0).getD i d = if i < m then false else d := fun m i d => by rw [doneTo_get]; simp
  rw [hn, Nat.sub_zero]
  refine wpAny_first (v := u) ho hF.sel (fun c a w hc => absurd hc (hQ c _ _)) n _ a w (fun k oj hoj hkr _ hw => ?_) (mem_ready.2 ⟨?_, o, ho, fun e he => by rw [hafter] at he; simp at he⟩) (.inl ⟨by rw [Region.wanted, hg], fun w' => ?_⟩) ?_
  · have := List.all_eq_true.1 h2.2 k (List.mem_range.2 (Array.getElem?_eq_some_iff.1 hoj).1)
    rw [hoj] at this
    simp only [Bool.or_eq_true, beq_iff_eq, Array.any_eq_true', Bool.and_eq_true] at this
    rcases this with h | ⟨e, he, hb, hon⟩ | h
    · exact absurd h hkr
    · exact absurd hon (hw e he hb)
    · exact h
  · rw [← hn, hd0, if_pos hrl]
  · subst hu
    simp [execOp, hop]
  · rw [hsz, Nat.sub_zero] at hk'
    refine rem_any hF n _ _ _ _ (by simp [doneTo, hn]) (by simp [doneTo, hn]) ?_ (fun i hi => ?_) hk'
    · rw [Array.getD_eq_getD_getElem?, Array.getElem?_setIfInBounds, if_pos rfl, if_pos (by simp [doneTo]; omega)]; rfl
    · have e2 : ((doneTo (n + 1) 0).setIfInBounds r true).getD i false = (doneTo (n + 1) 0).getD i false := by
        rw [Array.getD_eq_getD_getElem?, Array.getElem?_setIfInBounds, if_neg (fun e => hi e.symm), ← Array.getD_eq_getD_getElem?]
      rw [e2, hd0, hd0]
      split <;> split <;> rfl
end
end Go.Eng
