/- Texts of this claim, part 6: Tab, Mod, EngQ, Bas, PTree, EngAC, EngAD, EngAE. No condition. -/
import Derived.Test.YtfiiingppbkpkaaGreatXR3
import Derived.Test.YtfiiingppbkpkaaGreatProg
import Derived.KernelRfl
import Derived.Test.YtfiiingppbkpkaaGreatXR5
import Derived.Test.YtfiiingppbkpkaaGreatXR4
import Derived.ReadAgain
import Derived.ChangeSame
import Derived.ChangeBears
import Derived.OpenShut
import Derived.RowKit
import Derived.WalkKit
import Derived.ProofKit
import Derived.Test.YtfiiingppbkpkaaGreatRows
import Derived.JoinedCond
import Derived.Laws.StructEq
import Derived.Lib.SlBytesConst
set_option maxRecDepth 10000
set_option maxHeartbeats 4000000
set_option linter.unusedSimpArgs false
set_option linter.unusedVariables false
namespace Go.Eng
def tUnd : TypeId → KD
 | 2 => (.int .i64)
 | 3 => (.int .i64)
 | 4 => .bool
 | 5 => (.int .u8)
 | 6 => (.int .u8)
 | 7 => .struct
 | 8 => .struct
 | 9 => .str
 | 10 => .str
 | 11 => .str
 | 12 => (.int .u64)
 | 13 => .struct
 | 14 => .struct
 | 15 => (.ptr 211)
 | 16 => (.ptr 214)
 | 17 => (.ptr 224)
 | 18 => .struct
 | 19 => .struct
 | 21 => (.int .i32)
 | 22 => (.sl 3)
 | 23 => (.sl 78)
 | 24 => (.sl 5)
 | 25 => .struct
 | 26 => .struct
 | 27 => (.sl 56)
 | 28 => (.sl 60)
 | 29 => (.sl 88)
 | 30 => .struct
 | 31 => .struct
 | 32 => (.sl 110)
 | 33 => .struct
 | 34 => .struct
 | 38 => (.int .i64)
 | 43 => (.sl 71)
 | 51 => (.map 3 60)
 | 52 => (.map 3 60)
 | 54 => (.map 3 4)
 | 55 => .struct
 | 56 => .struct
 | 58 => (.sl 135)
 | 59 => .struct
 | 60 => .struct
 | 70 => .struct
 | 71 => .struct
 | 77 => .struct
 | 78 => .struct
 | 79 => .struct
 | 80 => .struct
 | 87 => .struct
 | 88 => .struct
 | 92 => (.sl 26)
 | 95 => .struct
 | 96 => .struct
 | 103 => (.ptr 56)
 | 107 => (.sl 113)
 | 108 => (.sl 153)
 | 109 => .struct
 | 110 => .struct
 | 112 => .struct
 | 113 => .struct
 | 117 => (.ptr 119)
 | 118 => .struct
 | 119 => .struct
 | 134 => .struct
 | 135 => .struct
 | 136 => (.ptr 139)
 | 137 => (.map 3 3)
 | 138 => .struct
 | 139 => .struct
 | 152 => .struct
 | 153 => .struct
 | 154 => (.ptr 156)
 | 155 => .struct
 | 156 => .struct
 | 157 => (.sl 9)
 | 178 => (.ptr 26)
 | 200 => (.int .u64)
 | 210 => .struct
 | 211 => .struct
 | 216 => (.int .u32)
 | 217 => (.int .u8)
 | 218 => (.int .u8)
 | 220 => (.ptr 5)
 | 221 => (.int .i32)
 | 222 => (.int .i32)
 | _ => .other
def tSiz : TypeId → Nat
 | 2 => 1
 | 3 => 1
 | 4 => 1
 | 5 => 1
 | 6 => 1
 | 7 => 4
 | 8 => 4
 | 9 => 1
 | 10 => 1
 | 11 => 1
 | 12 => 1
 | 13 => 2
 | 14 => 2
 | 15 => 1
 | 16 => 1
 | 17 => 1
 | 18 => 1
 | 19 => 1
 | 21 => 1
 | 22 => 1
 | 23 => 1
 | 24 => 1
 | 25 => 7
 | 26 => 7
 | 27 => 1
 | 28 => 1
 | 29 => 1
 | 30 => 3
 | 31 => 3
 | 32 => 1
 | 33 => 4
 | 34 => 4
 | 38 => 1
 | 43 => 1
 | 51 => 1
 | 52 => 1
 | 54 => 1
 | 55 => 9
 | 56 => 9
 | 58 => 1
 | 59 => 5
 | 60 => 5
 | 70 => 2
 | 71 => 2
 | 77 => 6
 | 78 => 6
 | 79 => 4
 | 80 => 4
 | 87 => 8
 | 88 => 8
 | 92 => 1
 | 95 => 4
 | 96 => 4
 | 103 => 1
 | 107 => 1
 | 108 => 1
 | 109 => 10
 | 110 => 10
 | 112 => 8
 | 113 => 8
 | 117 => 1
 | 118 => 9
 | 119 => 9
 | 134 => 2
 | 135 => 2
 | 136 => 1
 | 137 => 1
 | 138 => 6
 | 139 => 6
 | 152 => 2
 | 153 => 2
 | 154 => 1
 | 155 => 13
 | 156 => 13
 | 157 => 1
 | 178 => 1
 | 200 => 1
 | 210 => 4
 | 211 => 4
 | 216 => 1
 | 217 => 1
 | 218 => 1
 | 220 => 1
 | 221 => 1
 | 222 => 1
 | _ => 0
def tByt : TypeId → Nat
 | 2 => 8
 | 3 => 8
 | 4 => 1
 | 5 => 1
 | 6 => 1
 | 7 => 24
 | 8 => 24
 | 9 => 16
 | 10 => 16
 | 11 => 16
 | 12 => 8
 | 13 => 24
 | 14 => 24
 | 15 => 8
 | 16 => 8
 | 17 => 8
 | 18 => 8
 | 19 => 8
 | 21 => 4
 | 22 => 24
 | 23 => 24
 | 24 => 24
 | 25 => 88
 | 26 => 88
 | 27 => 24
 | 28 => 24
 | 29 => 24
 | 30 => 56
 | 31 => 56
 | 32 => 24
 | 33 => 80
 | 34 => 80
 | 38 => 8
 | 43 => 24
 | 51 => 8
 | 52 => 8
 | 54 => 8
 | 55 => 104
 | 56 => 104
 | 58 => 24
 | 59 => 72
 | 60 => 72
 | 70 => 16
 | 71 => 16
 | 77 => 80
 | 78 => 80
 | 79 => 48
 | 80 => 48
 | 87 => 96
 | 88 => 96
 | 92 => 24
 | 95 => 64
 | 96 => 64
 | 103 => 8
 | 107 => 24
 | 108 => 24
 | 109 => 144
 | 110 => 144
 | 112 => 96
 | 113 => 96
 | 117 => 8
 | 118 => 120
 | 119 => 120
 | 134 => 24
 | 135 => 24
 | 136 => 8
 | 137 => 8
 | 138 => 64
 | 139 => 64
 | 152 => 24
 | 153 => 24
 | 154 => 8
 | 155 => 200
 | 156 => 200
 | 157 => 24
 | 178 => 8
 | 200 => 8
 | 210 => 40
 | 211 => 40
 | 216 => 4
 | 217 => 1
 | 218 => 1
 | 220 => 8
 | 221 => 4
 | 222 => 4
 | _ => 0
def tZer : TypeId → List AV
 | 2 => [.int .i64 0]
 | 3 => [.int .i64 0]
 | 4 => [.bool false]
 | 5 => [.int .u8 0]
 | 6 => [.int .u8 0]
 | 7 => [.int .i64 0, .int .i64 0, .bool false, .int .u8 0]
 | 8 => [.int .i64 0, .int .i64 0, .bool false, .int .u8 0]
 | 9 => [.str []]
 | 10 => [.str []]
 | 11 => [.str []]
 | 12 => [.int .u64 0]
 | 13 => [.str [], .int .u64 0]
 | 14 => [.str [], .int .u64 0]
 | 15 => [.nilp]
 | 16 => [.nilp]
 | 17 => [.nilp]
 | 18 => [.nilp]
 | 19 => [.nilp]
 | 21 => [.int .i32 0]
 | 22 => [.nils]
 | 23 => [.nils]
 | 24 => [.nils]
 | 25 => [.int .i64 0, .int .i64 0, .int .i64 0, .str [], .int .i64 0, .str [], .nils]
 | 26 => [.int .i64 0, .int .i64 0, .int .i64 0, .str [], .int .i64 0, .str [], .nils]
 | 27 => [.nils]
 | 28 => [.nils]
 | 29 => [.nils]
 | 30 => [.nils, .int .i64 0, .nils]
 | 31 => [.nils, .int .i64 0, .nils]
 | 32 => [.nils]
 | 33 => [.nils, .int .i64 0, .nils, .nils]
 | 34 => [.nils, .int .i64 0, .nils, .nils]
 | 38 => [.int .i64 0]
 | 43 => [.nils]
 | 51 => [.nilm]
 | 52 => [.nilm]
 | 54 => [.nilm]
 | 55 => [.int .i64 0, .int .i64 0, .int .i64 0, .str [], .int .i64 0, .str [], .nils, .int .i64 0, .int .i64 0]
 | 56 => [.int .i64 0, .int .i64 0, .int .i64 0, .str [], .int .i64 0, .str [], .nils, .int .i64 0, .int .i64 0]
 | 58 => [.nils]
 | 59 => [.int .i64 0, .bool false, .nils, .nils, .int .i64 0]
 | 60 => [.int .i64 0, .bool false, .nils, .nils, .int .i64 0]
 | 70 => [.int .i64 0, .int .i64 0]
 | 71 => [.int .i64 0, .int .i64 0]
 | 77 => [.int .i64 0, .int .i64 0, .int .i64 0, .str [], .str [], .nils]
 | 78 => [.int .i64 0, .int .i64 0, .int .i64 0, .str [], .str [], .nils]
 | 79 => [.int .i64 0, .int .i64 0, .int .i64 0, .nils]
 | 80 => [.int .i64 0, .int .i64 0, .int .i64 0, .nils]
 | 87 => [.int .i64 0, .int .i64 0, .int .i64 0, .int .i64 0, .str [], .int .i64 0, .str [], .nils]
 | 88 => [.int .i64 0, .int .i64 0, .int .i64 0, .int .i64 0, .str [], .int .i64 0, .str [], .nils]
 | 92 => [.nils]
 | 95 => [.nils, .nils, .nilm, .int .i64 0]
 | 96 => [.nils, .nils, .nilm, .int .i64 0]
 | 103 => [.nilp]
 | 107 => [.nils]
 | 108 => [.nils]
 | 109 => [.int .i64 0, .bool false, .int .i64 0, .nils, .nils, .nils, .nils, .int .i64 0, .int .i64 0, .int .i64 0]
 | 110 => [.int .i64 0, .bool false, .int .i64 0, .nils, .nils, .nils, .nils, .int .i64 0, .int .i64 0, .int .i64 0]
 | 112 => [.int .i64 0, .bool false, .nils, .nils, .int .i64 0, .bool false, .int .i64 0, .int .i64 0]
 | 113 => [.int .i64 0, .bool false, .nils, .nils, .int .i64 0, .bool false, .int .i64 0, .int .i64 0]
 | 117 => [.nilp]
 | 118 => [.nils, .int .i64 0, .int .i64 0, .int .i64 0, .str [], .int .i64 0, .str [], .nils, .int .i64 0]
 | 119 => [.nils, .int .i64 0, .int .i64 0, .int .i64 0, .str [], .int .i64 0, .str [], .nils, .int .i64 0]
 | 134 => [.str [], .int .i64 0]
 | 135 => [.str [], .int .i64 0]
 | 136 => [.nilp]
 | 137 => [.nilm]
 | 138 => [.nils, .int .i64 0, .int .i64 0, .nilm, .nilm, .nilm]
 | 139 => [.nils, .int .i64 0, .int .i64 0, .nilm, .nilm, .nilm]
 | 152 => [.str [], .int .i64 0]
 | 153 => [.str [], .int .i64 0]
 | 154 => [.nilp]
 | 155 => [.int .i64 0, .bool false, .int .i64 0, .nils, .nils, .nils, .nils, .int .i64 0, .int .i64 0, .int .i64 0, .nils, .int .i64 0, .nils]
 | 156 => [.int .i64 0, .bool false, .int .i64 0, .nils, .nils, .nils, .nils, .int .i64 0, .int .i64 0, .int .i64 0, .nils, .int .i64 0, .nils]
 | 157 => [.nils]
 | 178 => [.nilp]
 | 200 => [.int .u64 0]
 | 210 => [.nilp, .nilp, .nilp, .str []]
 | 211 => [.nilp, .nilp, .nilp, .str []]
 | 216 => [.int .u32 0]
 | 217 => [.int .u8 0]
 | 218 => [.int .u8 0]
 | 220 => [.nilp]
 | 221 => [.int .i32 0]
 | 222 => [.int .i32 0]
 | _ => []
def tFl : TypeId → List (TypeId × Nat)
 | 7 => [(2, 0), (3, 1), (4, 2), (6, 3)]
 | 8 => [(2, 0), (3, 1), (4, 2), (6, 3)]
 | 13 => [(9, 0), (12, 1)]
 | 14 => [(9, 0), (12, 1)]
 | 18 => [(17, 0)]
 | 19 => [(17, 0)]
 | 25 => [(3, 0), (3, 1), (3, 2), (9, 3), (3, 4), (9, 5), (24, 6)]
 | 26 => [(3, 0), (3, 1), (3, 2), (9, 3), (3, 4), (9, 5), (24, 6)]
 | 30 => [(28, 0), (3, 1), (29, 2)]
 | 31 => [(28, 0), (3, 1), (29, 2)]
 | 33 => [(31, 0), (32, 3)]
 | 34 => [(31, 0), (32, 3)]
 | 55 => [(26, 0), (3, 7), (3, 8)]
 | 56 => [(26, 0), (3, 7), (3, 8)]
 | 59 => [(3, 0), (4, 1), (24, 2), (58, 3), (3, 4)]
 | 60 => [(3, 0), (4, 1), (24, 2), (58, 3), (3, 4)]
 | 70 => [(38, 0), (3, 1)]
 | 71 => [(38, 0), (3, 1)]
 | 77 => [(3, 0), (3, 1), (3, 2), (9, 3), (9, 4), (24, 5)]
 | 78 => [(3, 0), (3, 1), (3, 2), (9, 3), (9, 4), (24, 5)]
 | 79 => [(38, 0), (3, 1), (3, 2), (24, 3)]
 | 80 => [(38, 0), (3, 1), (3, 2), (24, 3)]
 | 87 => [(3, 0), (26, 1)]
 | 88 => [(3, 0), (26, 1)]
 | 95 => [(43, 0), (92, 1), (52, 2), (3, 3)]
 | 96 => [(43, 0), (92, 1), (52, 2), (3, 3)]
 | 109 => [(3, 0), (4, 1), (3, 2), (107, 3), (27, 4), (27, 5), (108, 6), (3, 7), (3, 8), (3, 9)]
 | 110 => [(3, 0), (4, 1), (3, 2), (107, 3), (27, 4), (27, 5), (108, 6), (3, 7), (3, 8), (3, 9)]
 | 112 => [(60, 0), (4, 5), (3, 6), (3, 7)]
 | 113 => [(60, 0), (4, 5), (3, 6), (3, 7)]
 | 118 => [(28, 0), (26, 1), (3, 8)]
 | 119 => [(28, 0), (26, 1), (3, 8)]
 | 134 => [(9, 0), (3, 1)]
 | 135 => [(9, 0), (3, 1)]
 | 138 => [(28, 0), (3, 1), (3, 2), (137, 3), (54, 4), (54, 5)]
 | 139 => [(28, 0), (3, 1), (3, 2), (137, 3), (54, 4), (54, 5)]
 | 152 => [(9, 0), (3, 1)]
 | 153 => [(9, 0), (3, 1)]
 | 155 => [(110, 0), (31, 10)]
 | 156 => [(110, 0), (31, 10)]
 | 210 => [(17, 0), (17, 1), (17, 2), (9, 3)]
 | 211 => [(17, 0), (17, 1), (17, 2), (9, 3)]
 | _ => []
def tFld (t : TypeId) (j : Nat) : Option (TypeId × Nat) := (tFl t)[j]?
def tab : Tab := ⟨tUnd, tSiz, tByt, tZer, tFld⟩
@[go_sem] theorem tu2 : tab.und 2 = (.int .i64) := rfl
@[go_sem] theorem ts2 : tab.siz 2 = 1 := rfl
@[go_sem] theorem tz2 : tab.zer 2 = [.int .i64 0] := rfl
@[go_sem] theorem tu3 : tab.und 3 = (.int .i64) := rfl
@[go_sem] theorem ts3 : tab.siz 3 = 1 := rfl
@[go_sem] theorem tb3 : tab.byt 3 = 8 := rfl
@[go_sem] theorem tz3 : tab.zer 3 = [.int .i64 0] := rfl
@[go_sem] theorem tu4 : tab.und 4 = .bool := rfl
@[go_sem] theorem ts4 : tab.siz 4 = 1 := rfl
@[go_sem] theorem tz4 : tab.zer 4 = [.bool false] := rfl
@[go_sem] theorem tu5 : tab.und 5 = (.int .u8) := rfl
@[go_sem] theorem ts5 : tab.siz 5 = 1 := rfl
@[go_sem] theorem tb5 : tab.byt 5 = 1 := rfl
@[go_sem] theorem tz5 : tab.zer 5 = [.int .u8 0] := rfl
@[go_sem] theorem tu6 : tab.und 6 = (.int .u8) := rfl
@[go_sem] theorem ts6 : tab.siz 6 = 1 := rfl
@[go_sem] theorem tz6 : tab.zer 6 = [.int .u8 0] := rfl
@[go_sem] theorem tu7 : tab.und 7 = .struct := rfl
@[go_sem] theorem ts7 : tab.siz 7 = 4 := rfl
@[go_sem] theorem tz7 : tab.zer 7 = [.int .i64 0, .int .i64 0, .bool false, .int .u8 0] := rfl
@[go_sem] theorem tab_fld_7_0 : tab.fld 7 0 = some (2, 0) := rfl
@[go_sem] theorem tab_fld_7_1 : tab.fld 7 1 = some (3, 1) := rfl
@[go_sem] theorem tab_fld_7_2 : tab.fld 7 2 = some (4, 2) := rfl
@[go_sem] theorem tab_fld_7_3 : tab.fld 7 3 = some (6, 3) := rfl
@[go_sem] theorem tu8 : tab.und 8 = .struct := rfl
@[go_sem] theorem ts8 : tab.siz 8 = 4 := rfl
@[go_sem] theorem tz8 : tab.zer 8 = [.int .i64 0, .int .i64 0, .bool false, .int .u8 0] := rfl
@[go_sem] theorem tab_fld_8_0 : tab.fld 8 0 = some (2, 0) := rfl
@[go_sem] theorem tab_fld_8_1 : tab.fld 8 1 = some (3, 1) := rfl
@[go_sem] theorem tab_fld_8_2 : tab.fld 8 2 = some (4, 2) := rfl
@[go_sem] theorem tab_fld_8_3 : tab.fld 8 3 = some (6, 3) := rfl
@[go_sem] theorem tu9 : tab.und 9 = .str := rfl
@[go_sem] theorem ts9 : tab.siz 9 = 1 := rfl
@[go_sem] theorem tb9 : tab.byt 9 = 16 := rfl
@[go_sem] theorem tz9 : tab.zer 9 = [.str []] := rfl
@[go_sem] theorem tu22 : tab.und 22 = (.sl 3) := rfl
@[go_sem] theorem ts22 : tab.siz 22 = 1 := rfl
@[go_sem] theorem tz22 : tab.zer 22 = [.nils] := rfl
@[go_sem] theorem tu23 : tab.und 23 = (.sl 78) := rfl
@[go_sem] theorem ts23 : tab.siz 23 = 1 := rfl
@[go_sem] theorem tz23 : tab.zer 23 = [.nils] := rfl
@[go_sem] theorem tu24 : tab.und 24 = (.sl 5) := rfl
@[go_sem] theorem ts24 : tab.siz 24 = 1 := rfl
@[go_sem] theorem tz24 : tab.zer 24 = [.nils] := rfl
@[go_sem] theorem tu26 : tab.und 26 = .struct := rfl
@[go_sem] theorem ts26 : tab.siz 26 = 7 := rfl
@[go_sem] theorem tb26 : tab.byt 26 = 88 := rfl
@[go_sem] theorem tz26 : tab.zer 26 = [.int .i64 0, .int .i64 0, .int .i64 0, .str [], .int .i64 0, .str [], .nils] := rfl
@[go_sem] theorem tab_fld_26_0 : tab.fld 26 0 = some (3, 0) := rfl
@[go_sem] theorem tab_fld_26_1 : tab.fld 26 1 = some (3, 1) := rfl
@[go_sem] theorem tab_fld_26_2 : tab.fld 26 2 = some (3, 2) := rfl
@[go_sem] theorem tab_fld_26_3 : tab.fld 26 3 = some (9, 3) := rfl
@[go_sem] theorem tab_fld_26_4 : tab.fld 26 4 = some (3, 4) := rfl
@[go_sem] theorem tab_fld_26_5 : tab.fld 26 5 = some (9, 5) := rfl
@[go_sem] theorem tab_fld_26_6 : tab.fld 26 6 = some (24, 6) := rfl
@[go_sem] theorem tu27 : tab.und 27 = (.sl 56) := rfl
@[go_sem] theorem ts27 : tab.siz 27 = 1 := rfl
@[go_sem] theorem tz27 : tab.zer 27 = [.nils] := rfl
@[go_sem] theorem tu28 : tab.und 28 = (.sl 60) := rfl
@[go_sem] theorem ts28 : tab.siz 28 = 1 := rfl
@[go_sem] theorem tz28 : tab.zer 28 = [.nils] := rfl
@[go_sem] theorem tu29 : tab.und 29 = (.sl 88) := rfl
@[go_sem] theorem ts29 : tab.siz 29 = 1 := rfl
@[go_sem] theorem tz29 : tab.zer 29 = [.nils] := rfl
@[go_sem] theorem tu31 : tab.und 31 = .struct := rfl
@[go_sem] theorem ts31 : tab.siz 31 = 3 := rfl
@[go_sem] theorem tz31 : tab.zer 31 = [.nils, .int .i64 0, .nils] := rfl
@[go_sem] theorem tab_fld_31_0 : tab.fld 31 0 = some (28, 0) := rfl
@[go_sem] theorem tab_fld_31_1 : tab.fld 31 1 = some (3, 1) := rfl
@[go_sem] theorem tab_fld_31_2 : tab.fld 31 2 = some (29, 2) := rfl
@[go_sem] theorem tu32 : tab.und 32 = (.sl 110) := rfl
@[go_sem] theorem ts32 : tab.siz 32 = 1 := rfl
@[go_sem] theorem tz32 : tab.zer 32 = [.nils] := rfl
@[go_sem] theorem tu34 : tab.und 34 = .struct := rfl
@[go_sem] theorem ts34 : tab.siz 34 = 4 := rfl
@[go_sem] theorem tz34 : tab.zer 34 = [.nils, .int .i64 0, .nils, .nils] := rfl
@[go_sem] theorem tab_fld_34_0 : tab.fld 34 0 = some (31, 0) := rfl
@[go_sem] theorem tab_fld_34_1 : tab.fld 34 1 = some (32, 3) := rfl
@[go_sem] theorem tu38 : tab.und 38 = (.int .i64) := rfl
@[go_sem] theorem ts38 : tab.siz 38 = 1 := rfl
@[go_sem] theorem tz38 : tab.zer 38 = [.int .i64 0] := rfl
@[go_sem] theorem tu43 : tab.und 43 = (.sl 71) := rfl
@[go_sem] theorem ts43 : tab.siz 43 = 1 := rfl
@[go_sem] theorem tz43 : tab.zer 43 = [.nils] := rfl
@[go_sem] theorem tu52 : tab.und 52 = (.map 3 60) := rfl
@[go_sem] theorem ts52 : tab.siz 52 = 1 := rfl
@[go_sem] theorem tz52 : tab.zer 52 = [.nilm] := rfl
@[go_sem] theorem tu54 : tab.und 54 = (.map 3 4) := rfl
@[go_sem] theorem ts54 : tab.siz 54 = 1 := rfl
@[go_sem] theorem tz54 : tab.zer 54 = [.nilm] := rfl
@[go_sem] theorem tu56 : tab.und 56 = .struct := rfl
@[go_sem] theorem ts56 : tab.siz 56 = 9 := rfl
@[go_sem] theorem tb56 : tab.byt 56 = 104 := rfl
@[go_sem] theorem tz56 : tab.zer 56 = [.int .i64 0, .int .i64 0, .int .i64 0, .str [], .int .i64 0, .str [], .nils, .int .i64 0, .int .i64 0] := rfl
@[go_sem] theorem tab_fld_56_0 : tab.fld 56 0 = some (26, 0) := rfl
@[go_sem] theorem tab_fld_56_1 : tab.fld 56 1 = some (3, 7) := rfl
@[go_sem] theorem tab_fld_56_2 : tab.fld 56 2 = some (3, 8) := rfl
@[go_sem] theorem tu58 : tab.und 58 = (.sl 135) := rfl
@[go_sem] theorem ts58 : tab.siz 58 = 1 := rfl
@[go_sem] theorem tz58 : tab.zer 58 = [.nils] := rfl
@[go_sem] theorem tu60 : tab.und 60 = .struct := rfl
@[go_sem] theorem ts60 : tab.siz 60 = 5 := rfl
@[go_sem] theorem tb60 : tab.byt 60 = 72 := rfl
@[go_sem] theorem tz60 : tab.zer 60 = [.int .i64 0, .bool false, .nils, .nils, .int .i64 0] := rfl
@[go_sem] theorem tab_fld_60_0 : tab.fld 60 0 = some (3, 0) := rfl
@[go_sem] theorem tab_fld_60_1 : tab.fld 60 1 = some (4, 1) := rfl
@[go_sem] theorem tab_fld_60_2 : tab.fld 60 2 = some (24, 2) := rfl
@[go_sem] theorem tab_fld_60_3 : tab.fld 60 3 = some (58, 3) := rfl
@[go_sem] theorem tab_fld_60_4 : tab.fld 60 4 = some (3, 4) := rfl
@[go_sem] theorem tu71 : tab.und 71 = .struct := rfl
@[go_sem] theorem ts71 : tab.siz 71 = 2 := rfl
@[go_sem] theorem tb71 : tab.byt 71 = 16 := rfl
@[go_sem] theorem tz71 : tab.zer 71 = [.int .i64 0, .int .i64 0] := rfl
@[go_sem] theorem tab_fld_71_0 : tab.fld 71 0 = some (38, 0) := rfl
@[go_sem] theorem tab_fld_71_1 : tab.fld 71 1 = some (3, 1) := rfl
@[go_sem] theorem tu78 : tab.und 78 = .struct := rfl
@[go_sem] theorem ts78 : tab.siz 78 = 6 := rfl
@[go_sem] theorem tb78 : tab.byt 78 = 80 := rfl
@[go_sem] theorem tz78 : tab.zer 78 = [.int .i64 0, .int .i64 0, .int .i64 0, .str [], .str [], .nils] := rfl
@[go_sem] theorem tab_fld_78_0 : tab.fld 78 0 = some (3, 0) := rfl
@[go_sem] theorem tab_fld_78_1 : tab.fld 78 1 = some (3, 1) := rfl
@[go_sem] theorem tab_fld_78_2 : tab.fld 78 2 = some (3, 2) := rfl
@[go_sem] theorem tab_fld_78_3 : tab.fld 78 3 = some (9, 3) := rfl
@[go_sem] theorem tab_fld_78_4 : tab.fld 78 4 = some (9, 4) := rfl
@[go_sem] theorem tab_fld_78_5 : tab.fld 78 5 = some (24, 5) := rfl
@[go_sem] theorem tu80 : tab.und 80 = .struct := rfl
@[go_sem] theorem ts80 : tab.siz 80 = 4 := rfl
@[go_sem] theorem tz80 : tab.zer 80 = [.int .i64 0, .int .i64 0, .int .i64 0, .nils] := rfl
@[go_sem] theorem tab_fld_80_0 : tab.fld 80 0 = some (38, 0) := rfl
@[go_sem] theorem tab_fld_80_1 : tab.fld 80 1 = some (3, 1) := rfl
@[go_sem] theorem tab_fld_80_2 : tab.fld 80 2 = some (3, 2) := rfl
@[go_sem] theorem tab_fld_80_3 : tab.fld 80 3 = some (24, 3) := rfl
@[go_sem] theorem tu88 : tab.und 88 = .struct := rfl
@[go_sem] theorem ts88 : tab.siz 88 = 8 := rfl
@[go_sem] theorem tb88 : tab.byt 88 = 96 := rfl
@[go_sem] theorem tz88 : tab.zer 88 = [.int .i64 0, .int .i64 0, .int .i64 0, .int .i64 0, .str [], .int .i64 0, .str [], .nils] := rfl
@[go_sem] theorem tab_fld_88_0 : tab.fld 88 0 = some (3, 0) := rfl
@[go_sem] theorem tab_fld_88_1 : tab.fld 88 1 = some (26, 1) := rfl
@[go_sem] theorem tu92 : tab.und 92 = (.sl 26) := rfl
@[go_sem] theorem ts92 : tab.siz 92 = 1 := rfl
@[go_sem] theorem tz92 : tab.zer 92 = [.nils] := rfl
@[go_sem] theorem tu96 : tab.und 96 = .struct := rfl
@[go_sem] theorem ts96 : tab.siz 96 = 4 := rfl
@[go_sem] theorem tz96 : tab.zer 96 = [.nils, .nils, .nilm, .int .i64 0] := rfl
@[go_sem] theorem tab_fld_96_0 : tab.fld 96 0 = some (43, 0) := rfl
@[go_sem] theorem tab_fld_96_1 : tab.fld 96 1 = some (92, 1) := rfl
@[go_sem] theorem tab_fld_96_2 : tab.fld 96 2 = some (52, 2) := rfl
@[go_sem] theorem tab_fld_96_3 : tab.fld 96 3 = some (3, 3) := rfl
@[go_sem] theorem tu103 : tab.und 103 = (.ptr 56) := rfl
@[go_sem] theorem ts103 : tab.siz 103 = 1 := rfl
@[go_sem] theorem tz103 : tab.zer 103 = [.nilp] := rfl
@[go_sem] theorem tu107 : tab.und 107 = (.sl 113) := rfl
@[go_sem] theorem ts107 : tab.siz 107 = 1 := rfl
@[go_sem] theorem tz107 : tab.zer 107 = [.nils] := rfl
@[go_sem] theorem tu108 : tab.und 108 = (.sl 153) := rfl
@[go_sem] theorem ts108 : tab.siz 108 = 1 := rfl
@[go_sem] theorem tz108 : tab.zer 108 = [.nils] := rfl
@[go_sem] theorem tu110 : tab.und 110 = .struct := rfl
@[go_sem] theorem ts110 : tab.siz 110 = 10 := rfl
@[go_sem] theorem tb110 : tab.byt 110 = 144 := rfl
@[go_sem] theorem tz110 : tab.zer 110 = [.int .i64 0, .bool false, .int .i64 0, .nils, .nils, .nils, .nils, .int .i64 0, .int .i64 0, .int .i64 0] := rfl
@[go_sem] theorem tab_fld_110_0 : tab.fld 110 0 = some (3, 0) := rfl
@[go_sem] theorem tab_fld_110_1 : tab.fld 110 1 = some (4, 1) := rfl
@[go_sem] theorem tab_fld_110_2 : tab.fld 110 2 = some (3, 2) := rfl
@[go_sem] theorem tab_fld_110_3 : tab.fld 110 3 = some (107, 3) := rfl
@[go_sem] theorem tab_fld_110_4 : tab.fld 110 4 = some (27, 4) := rfl
@[go_sem] theorem tab_fld_110_5 : tab.fld 110 5 = some (27, 5) := rfl
@[go_sem] theorem tab_fld_110_6 : tab.fld 110 6 = some (108, 6) := rfl
@[go_sem] theorem tab_fld_110_7 : tab.fld 110 7 = some (3, 7) := rfl
@[go_sem] theorem tab_fld_110_8 : tab.fld 110 8 = some (3, 8) := rfl
@[go_sem] theorem tab_fld_110_9 : tab.fld 110 9 = some (3, 9) := rfl
@[go_sem] theorem tu113 : tab.und 113 = .struct := rfl
@[go_sem] theorem ts113 : tab.siz 113 = 8 := rfl
@[go_sem] theorem tb113 : tab.byt 113 = 96 := rfl
@[go_sem] theorem tz113 : tab.zer 113 = [.int .i64 0, .bool false, .nils, .nils, .int .i64 0, .bool false, .int .i64 0, .int .i64 0] := rfl
@[go_sem] theorem tab_fld_113_0 : tab.fld 113 0 = some (60, 0) := rfl
@[go_sem] theorem tab_fld_113_1 : tab.fld 113 1 = some (4, 5) := rfl
@[go_sem] theorem tab_fld_113_2 : tab.fld 113 2 = some (3, 6) := rfl
@[go_sem] theorem tab_fld_113_3 : tab.fld 113 3 = some (3, 7) := rfl
@[go_sem] theorem tu117 : tab.und 117 = (.ptr 119) := rfl
@[go_sem] theorem ts117 : tab.siz 117 = 1 := rfl
@[go_sem] theorem tz117 : tab.zer 117 = [.nilp] := rfl
@[go_sem] theorem tu119 : tab.und 119 = .struct := rfl
@[go_sem] theorem ts119 : tab.siz 119 = 9 := rfl
@[go_sem] theorem tz119 : tab.zer 119 = [.nils, .int .i64 0, .int .i64 0, .int .i64 0, .str [], .int .i64 0, .str [], .nils, .int .i64 0] := rfl
@[go_sem] theorem tab_fld_119_0 : tab.fld 119 0 = some (28, 0) := rfl
@[go_sem] theorem tab_fld_119_1 : tab.fld 119 1 = some (26, 1) := rfl
@[go_sem] theorem tab_fld_119_2 : tab.fld 119 2 = some (3, 8) := rfl
@[go_sem] theorem tu135 : tab.und 135 = .struct := rfl
@[go_sem] theorem ts135 : tab.siz 135 = 2 := rfl
@[go_sem] theorem tb135 : tab.byt 135 = 24 := rfl
@[go_sem] theorem tz135 : tab.zer 135 = [.str [], .int .i64 0] := rfl
@[go_sem] theorem tab_fld_135_0 : tab.fld 135 0 = some (9, 0) := rfl
@[go_sem] theorem tab_fld_135_1 : tab.fld 135 1 = some (3, 1) := rfl
@[go_sem] theorem tu136 : tab.und 136 = (.ptr 139) := rfl
@[go_sem] theorem ts136 : tab.siz 136 = 1 := rfl
@[go_sem] theorem tz136 : tab.zer 136 = [.nilp] := rfl
@[go_sem] theorem tu137 : tab.und 137 = (.map 3 3) := rfl
@[go_sem] theorem ts137 : tab.siz 137 = 1 := rfl
@[go_sem] theorem tz137 : tab.zer 137 = [.nilm] := rfl
@[go_sem] theorem tu139 : tab.und 139 = .struct := rfl
@[go_sem] theorem ts139 : tab.siz 139 = 6 := rfl
@[go_sem] theorem tz139 : tab.zer 139 = [.nils, .int .i64 0, .int .i64 0, .nilm, .nilm, .nilm] := rfl
@[go_sem] theorem tab_fld_139_0 : tab.fld 139 0 = some (28, 0) := rfl
@[go_sem] theorem tab_fld_139_1 : tab.fld 139 1 = some (3, 1) := rfl
@[go_sem] theorem tab_fld_139_2 : tab.fld 139 2 = some (3, 2) := rfl
@[go_sem] theorem tab_fld_139_3 : tab.fld 139 3 = some (137, 3) := rfl
@[go_sem] theorem tab_fld_139_4 : tab.fld 139 4 = some (54, 4) := rfl
@[go_sem] theorem tab_fld_139_5 : tab.fld 139 5 = some (54, 5) := rfl
@[go_sem] theorem tu153 : tab.und 153 = .struct := rfl
@[go_sem] theorem ts153 : tab.siz 153 = 2 := rfl
@[go_sem] theorem tb153 : tab.byt 153 = 24 := rfl
@[go_sem] theorem tz153 : tab.zer 153 = [.str [], .int .i64 0] := rfl
@[go_sem] theorem tab_fld_153_0 : tab.fld 153 0 = some (9, 0) := rfl
@[go_sem] theorem tab_fld_153_1 : tab.fld 153 1 = some (3, 1) := rfl
@[go_sem] theorem tu154 : tab.und 154 = (.ptr 156) := rfl
@[go_sem] theorem ts154 : tab.siz 154 = 1 := rfl
@[go_sem] theorem tz154 : tab.zer 154 = [.nilp] := rfl
@[go_sem] theorem tu156 : tab.und 156 = .struct := rfl
@[go_sem] theorem ts156 : tab.siz 156 = 13 := rfl
@[go_sem] theorem tz156 : tab.zer 156 = [.int .i64 0, .bool false, .int .i64 0, .nils, .nils, .nils, .nils, .int .i64 0, .int .i64 0, .int .i64 0, .nils, .int .i64 0, .nils] := rfl
@[go_sem] theorem tab_fld_156_0 : tab.fld 156 0 = some (110, 0) := rfl
@[go_sem] theorem tab_fld_156_1 : tab.fld 156 1 = some (31, 10) := rfl
@[go_sem] theorem tu157 : tab.und 157 = (.sl 9) := rfl
@[go_sem] theorem ts157 : tab.siz 157 = 1 := rfl
@[go_sem] theorem tz157 : tab.zer 157 = [.nils] := rfl
@[go_sem] theorem tu178 : tab.und 178 = (.ptr 26) := rfl
@[go_sem] theorem ts178 : tab.siz 178 = 1 := rfl
@[go_sem] theorem tz178 : tab.zer 178 = [.nilp] := rfl
@[go_sem] theorem tu200 : tab.und 200 = (.int .u64) := rfl
@[go_sem] theorem ts200 : tab.siz 200 = 1 := rfl
@[go_sem] theorem tz200 : tab.zer 200 = [.int .u64 0] := rfl
theorem tab_und_ok : ∀ t, KDOK Go.Proofs.Tryz.prog t (tUnd t) := by
 intro t
 unfold tUnd
 split
 ·exact Go.Proofs.Tryz.underlying2
 ·exact Go.Proofs.Tryz.underlying3
 ·exact Go.Proofs.Tryz.underlying4
 ·exact Go.Proofs.Tryz.underlying5
 ·exact Go.Proofs.Tryz.underlying6
 ·exact ⟨_, Go.Proofs.Tryz.underlying7, by intro f hf; simp at hf; rcases hf with rfl | rfl | rfl | rfl <;> kernel_rfl⟩
 ·exact ⟨_, Go.Proofs.Tryz.underlying8, by intro f hf; simp at hf; rcases hf with rfl | rfl | rfl | rfl <;> kernel_rfl⟩
 ·exact Go.Proofs.Tryz.underlying9
 ·exact Go.Proofs.Tryz.underlying10
 ·exact Go.Proofs.Tryz.underlying11
 ·exact Go.Proofs.Tryz.underlying12
 ·exact ⟨_, Go.Proofs.Tryz.underlying13, by intro f hf; simp at hf; rcases hf with rfl | rfl <;> kernel_rfl⟩
 ·exact ⟨_, Go.Proofs.Tryz.underlying14, by intro f hf; simp at hf; rcases hf with rfl | rfl <;> kernel_rfl⟩
 ·exact Go.Proofs.Tryz.underlying15
 ·exact Go.Proofs.Tryz.underlying16
 ·exact Go.Proofs.Tryz.underlying17
 ·exact ⟨_, Go.Proofs.Tryz.underlying18, by intro f hf; simp at hf; rcases hf with rfl <;> kernel_rfl⟩
 ·exact ⟨_, Go.Proofs.Tryz.underlying19, by intro f hf; simp at hf; rcases hf with rfl <;> kernel_rfl⟩
 ·exact Go.Proofs.Tryz.underlying21
 ·exact Go.Proofs.Tryz.underlying22
 ·exact Go.Proofs.Tryz.underlying23
 ·exact Go.Proofs.Tryz.underlying24
 ·exact ⟨_, Go.Proofs.Tryz.underlying25, by intro f hf; simp at hf; rcases hf with rfl | rfl | rfl | rfl | rfl | rfl | rfl <;> kernel_rfl⟩
 ·exact ⟨_, Go.Proofs.Tryz.underlying26, by intro f hf; simp at hf; rcases hf with rfl | rfl | rfl | rfl | rfl | rfl | rfl <;> kernel_rfl⟩
 ·exact Go.Proofs.Tryz.underlying27
 ·exact Go.Proofs.Tryz.underlying28
 ·exact Go.Proofs.Tryz.underlying29
 ·exact ⟨_, Go.Proofs.Tryz.underlying30, by intro f hf; simp at hf; rcases hf with rfl | rfl | rfl <;> kernel_rfl⟩
 ·exact ⟨_, Go.Proofs.Tryz.underlying31, by intro f hf; simp at hf; rcases hf with rfl | rfl | rfl <;> kernel_rfl⟩
 ·exact Go.Proofs.Tryz.underlying32
 ·exact ⟨_, Go.Proofs.Tryz.underlying33, by intro f hf; simp at hf; rcases hf with rfl | rfl <;> kernel_rfl⟩
 ·exact ⟨_, Go.Proofs.Tryz.underlying34, by intro f hf; simp at hf; rcases hf with rfl | rfl <;> kernel_rfl⟩
 ·exact Go.Proofs.Tryz.underlying38
 ·exact Go.Proofs.Tryz.underlying43
 ·exact Go.Proofs.Tryz.underlying51
 ·exact Go.Proofs.Tryz.underlying52
 ·exact Go.Proofs.Tryz.underlying54
 ·exact ⟨_, Go.Proofs.Tryz.underlying55, by intro f hf; simp at hf; rcases hf with rfl | rfl | rfl <;> kernel_rfl⟩
 ·exact ⟨_, Go.Proofs.Tryz.underlying56, by intro f hf; simp at hf; rcases hf with rfl | rfl | rfl <;> kernel_rfl⟩
 ·exact Go.Proofs.Tryz.underlying58
 ·exact ⟨_, Go.Proofs.Tryz.underlying59, by intro f hf; simp at hf; rcases hf with rfl | rfl | rfl | rfl | rfl <;> kernel_rfl⟩
 ·exact ⟨_, Go.Proofs.Tryz.underlying60, by intro f hf; simp at hf; rcases hf with rfl | rfl | rfl | rfl | rfl <;> kernel_rfl⟩
 ·exact ⟨_, Go.Proofs.Tryz.underlying70, by intro f hf; simp at hf; rcases hf with rfl | rfl <;> kernel_rfl⟩
 ·exact ⟨_, Go.Proofs.Tryz.underlying71, by intro f hf; simp at hf; rcases hf with rfl | rfl <;> kernel_rfl⟩
 ·exact ⟨_, Go.Proofs.Tryz.underlying77, by intro f hf; simp at hf; rcases hf with rfl | rfl | rfl | rfl | rfl | rfl <;> kernel_rfl⟩
 ·exact ⟨_, Go.Proofs.Tryz.underlying78, by intro f hf; simp at hf; rcases hf with rfl | rfl | rfl | rfl | rfl | rfl <;> kernel_rfl⟩
 ·exact ⟨_, Go.Proofs.Tryz.underlying79, by intro f hf; simp at hf; rcases hf with rfl | rfl | rfl | rfl <;> kernel_rfl⟩
 ·exact ⟨_, Go.Proofs.Tryz.underlying80, by intro f hf; simp at hf; rcases hf with rfl | rfl | rfl | rfl <;> kernel_rfl⟩
 ·exact ⟨_, Go.Proofs.Tryz.underlying87, by intro f hf; simp at hf; rcases hf with rfl | rfl <;> kernel_rfl⟩
 ·exact ⟨_, Go.Proofs.Tryz.underlying88, by intro f hf; simp at hf; rcases hf with rfl | rfl <;> kernel_rfl⟩
 ·exact Go.Proofs.Tryz.underlying92
 ·exact ⟨_, Go.Proofs.Tryz.underlying95, by intro f hf; simp at hf; rcases hf with rfl | rfl | rfl | rfl <;> kernel_rfl⟩
 ·exact ⟨_, Go.Proofs.Tryz.underlying96, by intro f hf; simp at hf; rcases hf with rfl | rfl | rfl | rfl <;> kernel_rfl⟩
 ·exact Go.Proofs.Tryz.underlying103
 ·exact Go.Proofs.Tryz.underlying107
 ·exact Go.Proofs.Tryz.underlying108
 ·exact ⟨_, Go.Proofs.Tryz.underlying109, by intro f hf; simp at hf; rcases hf with rfl | rfl | rfl | rfl | rfl | rfl | rfl | rfl | rfl | rfl <;> kernel_rfl⟩
 ·exact ⟨_, Go.Proofs.Tryz.underlying110, by intro f hf; simp at hf; rcases hf with rfl | rfl | rfl | rfl | rfl | rfl | rfl | rfl | rfl | rfl <;> kernel_rfl⟩
 ·exact ⟨_, Go.Proofs.Tryz.underlying112, by intro f hf; simp at hf; rcases hf with rfl | rfl | rfl | rfl <;> kernel_rfl⟩
 ·exact ⟨_, Go.Proofs.Tryz.underlying113, by intro f hf; simp at hf; rcases hf with rfl | rfl | rfl | rfl <;> kernel_rfl⟩
 ·exact Go.Proofs.Tryz.underlying117
 ·exact ⟨_, Go.Proofs.Tryz.underlying118, by intro f hf; simp at hf; rcases hf with rfl | rfl | rfl <;> kernel_rfl⟩
 ·exact ⟨_, Go.Proofs.Tryz.underlying119, by intro f hf; simp at hf; rcases hf with rfl | rfl | rfl <;> kernel_rfl⟩
 ·exact ⟨_, Go.Proofs.Tryz.underlying134, by intro f hf; simp at hf; rcases hf with rfl | rfl <;> kernel_rfl⟩
 ·exact ⟨_, Go.Proofs.Tryz.underlying135, by intro f hf; simp at hf; rcases hf with rfl | rfl <;> kernel_rfl⟩
 ·exact Go.Proofs.Tryz.underlying136
 ·exact Go.Proofs.Tryz.underlying137
 ·exact ⟨_, Go.Proofs.Tryz.underlying138, by intro f hf; simp at hf; rcases hf with rfl | rfl | rfl | rfl | rfl | rfl <;> kernel_rfl⟩
 ·exact ⟨_, Go.Proofs.Tryz.underlying139, by intro f hf; simp at hf; rcases hf with rfl | rfl | rfl | rfl | rfl | rfl <;> kernel_rfl⟩
 ·exact ⟨_, Go.Proofs.Tryz.underlying152, by intro f hf; simp at hf; rcases hf with rfl | rfl <;> kernel_rfl⟩
 ·exact ⟨_, Go.Proofs.Tryz.underlying153, by intro f hf; simp at hf; rcases hf with rfl | rfl <;> kernel_rfl⟩
 ·exact Go.Proofs.Tryz.underlying154
 ·exact ⟨_, Go.Proofs.Tryz.underlying155, by intro f hf; simp at hf; rcases hf with rfl | rfl <;> kernel_rfl⟩
 ·exact ⟨_, Go.Proofs.Tryz.underlying156, by intro f hf; simp at hf; rcases hf with rfl | rfl <;> kernel_rfl⟩
 ·exact Go.Proofs.Tryz.underlying157
 ·exact Go.Proofs.Tryz.underlying178
 ·exact Go.Proofs.Tryz.underlying200
 ·exact ⟨_, Go.Proofs.Tryz.underlying210, by intro f hf; simp at hf; rcases hf with rfl | rfl | rfl | rfl <;> kernel_rfl⟩
 ·exact ⟨_, Go.Proofs.Tryz.underlying211, by intro f hf; simp at hf; rcases hf with rfl | rfl | rfl | rfl <;> kernel_rfl⟩
 ·exact Go.Proofs.Tryz.underlying216
 ·exact Go.Proofs.Tryz.underlying217
 ·exact Go.Proofs.Tryz.underlying218
 ·exact Go.Proofs.Tryz.underlying220
 ·exact Go.Proofs.Tryz.underlying221
 ·exact Go.Proofs.Tryz.underlying222
 ·trivial
theorem tab_siz_ok : ∀ t, tSiz t ≠ 0 → ∃ i, (Go.Proofs.Tryz.prog).info? t = some i ∧ i.size = tSiz t ∧ i.bytes = tByt t ∧ ∃ z, i.zero = some z ∧ z.cells.toList.map ofValue = tZer t ∧ z.cells.size = tSiz t ∧
  (tUnd t).isA = some (match z with | .agg _ => true | _ => false) := by
 intro t h
 revert h
 unfold tSiz
 split
 ·exact fun _ => ⟨Go.Proofs.Tryz.t2, by kernel_rfl, rfl, rfl, _, rfl, rfl, rfl, rfl⟩
 ·exact fun _ => ⟨Go.Proofs.Tryz.t3, by kernel_rfl, rfl, rfl, _, rfl, rfl, rfl, rfl⟩
 ·exact fun _ => ⟨Go.Proofs.Tryz.t4, by kernel_rfl, rfl, rfl, _, rfl, rfl, rfl, rfl⟩
 ·exact fun _ => ⟨Go.Proofs.Tryz.t5, by kernel_rfl, rfl, rfl, _, rfl, rfl, rfl, rfl⟩
 ·exact fun _ => ⟨Go.Proofs.Tryz.t6, by kernel_rfl, rfl, rfl, _, rfl, rfl, rfl, rfl⟩
 ·exact fun _ => ⟨Go.Proofs.Tryz.t7, by kernel_rfl, rfl, rfl, _, rfl, rfl, rfl, rfl⟩
 ·exact fun _ => ⟨Go.Proofs.Tryz.t8, by kernel_rfl, rfl, rfl, _, rfl, rfl, rfl, rfl⟩
 ·exact fun _ => ⟨Go.Proofs.Tryz.t9, by kernel_rfl, rfl, rfl, _, rfl, rfl, rfl, rfl⟩
 ·exact fun _ => ⟨Go.Proofs.Tryz.t10, by kernel_rfl, rfl, rfl, _, rfl, rfl, rfl, rfl⟩
 ·exact fun _ => ⟨Go.Proofs.Tryz.t11, by kernel_rfl, rfl, rfl, _, rfl, rfl, rfl, rfl⟩
 ·exact fun _ => ⟨Go.Proofs.Tryz.t12, by kernel_rfl, rfl, rfl, _, rfl, rfl, rfl, rfl⟩
 ·exact fun _ => ⟨Go.Proofs.Tryz.t13, by kernel_rfl, rfl, rfl, _, rfl, rfl, rfl, rfl⟩
 ·exact fun _ => ⟨Go.Proofs.Tryz.t14, by kernel_rfl, rfl, rfl, _, rfl, rfl, rfl, rfl⟩
 ·exact fun _ => ⟨Go.Proofs.Tryz.t15, by kernel_rfl, rfl, rfl, _, rfl, rfl, rfl, rfl⟩
 ·exact fun _ => ⟨Go.Proofs.Tryz.t16, by kernel_rfl, rfl, rfl, _, rfl, rfl, rfl, rfl⟩
 ·exact fun _ => ⟨Go.Proofs.Tryz.t17, by kernel_rfl, rfl, rfl, _, rfl, rfl, rfl, rfl⟩
 ·exact fun _ => ⟨Go.Proofs.Tryz.t18, by kernel_rfl, rfl, rfl, _, rfl, rfl, rfl, rfl⟩
 ·exact fun _ => ⟨Go.Proofs.Tryz.t19, by kernel_rfl, rfl, rfl, _, rfl, rfl, rfl, rfl⟩
 ·exact fun _ => ⟨Go.Proofs.Tryz.t21, by kernel_rfl, rfl, rfl, _, rfl, rfl, rfl, rfl⟩
 ·exact fun _ => ⟨Go.Proofs.Tryz.t22, by kernel_rfl, rfl, rfl, _, rfl, rfl, rfl, rfl⟩
 ·exact fun _ => ⟨Go.Proofs.Tryz.t23, by kernel_rfl, rfl, rfl, _, rfl, rfl, rfl, rfl⟩
 ·exact fun _ => ⟨Go.Proofs.Tryz.t24, by kernel_rfl, rfl, rfl, _, rfl, rfl, rfl, rfl⟩
 ·exact fun _ => ⟨Go.Proofs.Tryz.t25, by kernel_rfl, rfl, rfl, _, rfl, rfl, rfl, rfl⟩
 ·exact fun _ => ⟨Go.Proofs.Tryz.t26, by kernel_rfl, rfl, rfl, _, rfl, rfl, rfl, rfl⟩
 ·exact fun _ => ⟨Go.Proofs.Tryz.t27, by kernel_rfl, rfl, rfl, _, rfl, rfl, rfl, rfl⟩
 ·exact fun _ => ⟨Go.Proofs.Tryz.t28, by kernel_rfl, rfl, rfl, _, rfl, rfl, rfl, rfl⟩
 ·exact fun _ => ⟨Go.Proofs.Tryz.t29, by kernel_rfl, rfl, rfl, _, rfl, rfl, rfl, rfl⟩
 ·exact fun _ => ⟨Go.Proofs.Tryz.t30, by kernel_rfl, rfl, rfl, _, rfl, rfl, rfl, rfl⟩
 ·exact fun _ => ⟨Go.Proofs.Tryz.t31, by kernel_rfl, rfl, rfl, _, rfl, rfl, rfl, rfl⟩
 ·exact fun _ => ⟨Go.Proofs.Tryz.t32, by kernel_rfl, rfl, rfl, _, rfl, rfl, rfl, rfl⟩
 ·exact fun _ => ⟨Go.Proofs.Tryz.t33, by kernel_rfl, rfl, rfl, _, rfl, rfl, rfl, rfl⟩
 ·exact fun _ => ⟨Go.Proofs.Tryz.t34, by kernel_rfl, rfl, rfl, _, rfl, rfl, rfl, rfl⟩
 ·exact fun _ => ⟨Go.Proofs.Tryz.t38, by kernel_rfl, rfl, rfl, _, rfl, rfl, rfl, rfl⟩
 ·exact fun _ => ⟨Go.Proofs.Tryz.t43, by kernel_rfl, rfl, rfl, _, rfl, rfl, rfl, rfl⟩
 ·exact fun _ => ⟨Go.Proofs.Tryz.t51, by kernel_rfl, rfl, rfl, _, rfl, rfl, rfl, rfl⟩
 ·exact fun _ => ⟨Go.Proofs.Tryz.t52, by kernel_rfl, rfl, rfl, _, rfl, rfl, rfl, rfl⟩
 ·exact fun _ => ⟨Go.Proofs.Tryz.t54, by kernel_rfl, rfl, rfl, _, rfl, rfl, rfl, rfl⟩
 ·exact fun _ => ⟨Go.Proofs.Tryz.t55, by kernel_rfl, rfl, rfl, _, rfl, rfl, rfl, rfl⟩
 ·exact fun _ => ⟨Go.Proofs.Tryz.t56, by kernel_rfl, rfl, rfl, _, rfl, rfl, rfl, rfl⟩
 ·exact fun _ => ⟨Go.Proofs.Tryz.t58, by kernel_rfl, rfl, rfl, _, rfl, rfl, rfl, rfl⟩
 ·exact fun _ => ⟨Go.Proofs.Tryz.t59, by kernel_rfl, rfl, rfl, _, rfl, rfl, rfl, rfl⟩
 ·exact fun _ => ⟨Go.Proofs.Tryz.t60, by kernel_rfl, rfl, rfl, _, rfl, rfl, rfl, rfl⟩
 ·exact fun _ => ⟨Go.Proofs.Tryz.t70, by kernel_rfl, rfl, rfl, _, rfl, rfl, rfl, rfl⟩
 ·exact fun _ => ⟨Go.Proofs.Tryz.t71, by kernel_rfl, rfl, rfl, _, rfl, rfl, rfl, rfl⟩
 ·exact fun _ => ⟨Go.Proofs.Tryz.t77, by kernel_rfl, rfl, rfl, _, rfl, rfl, rfl, rfl⟩
 ·exact fun _ => ⟨Go.Proofs.Tryz.t78, by kernel_rfl, rfl, rfl, _, rfl, rfl, rfl, rfl⟩
 ·exact fun _ => ⟨Go.Proofs.Tryz.t79, by kernel_rfl, rfl, rfl, _, rfl, rfl, rfl, rfl⟩
 ·exact fun _ => ⟨Go.Proofs.Tryz.t80, by kernel_rfl, rfl, rfl, _, rfl, rfl, rfl, rfl⟩
 ·exact fun _ => ⟨Go.Proofs.Tryz.t87, by kernel_rfl, rfl, rfl, _, rfl, rfl, rfl, rfl⟩
 ·exact fun _ => ⟨Go.Proofs.Tryz.t88, by kernel_rfl, rfl, rfl, _, rfl, rfl, rfl, rfl⟩
 ·exact fun _ => ⟨Go.Proofs.Tryz.t92, by kernel_rfl, rfl, rfl, _, rfl, rfl, rfl, rfl⟩
 ·exact fun _ => ⟨Go.Proofs.Tryz.t95, by kernel_rfl, rfl, rfl, _, rfl, rfl, rfl, rfl⟩
 ·exact fun _ => ⟨Go.Proofs.Tryz.t96, by kernel_rfl, rfl, rfl, _, rfl, rfl, rfl, rfl⟩
 ·exact fun _ => ⟨Go.Proofs.Tryz.t103, by kernel_rfl, rfl, rfl, _, rfl, rfl, rfl, rfl⟩
 ·exact fun _ => ⟨Go.Proofs.Tryz.t107, by kernel_rfl, rfl, rfl, _, rfl, rfl, rfl, rfl⟩
 ·exact fun _ => ⟨Go.Proofs.Tryz.t108, by kernel_rfl, rfl, rfl, _, rfl, rfl, rfl, rfl⟩
 ·exact fun _ => ⟨Go.Proofs.Tryz.t109, by kernel_rfl, rfl, rfl, _, rfl, rfl, rfl, rfl⟩
 ·exact fun _ => ⟨Go.Proofs.Tryz.t110, by kernel_rfl, rfl, rfl, _, rfl, rfl, rfl, rfl⟩
 ·exact fun _ => ⟨Go.Proofs.Tryz.t112, by kernel_rfl, rfl, rfl, _, rfl, rfl, rfl, rfl⟩
 ·exact fun _ => ⟨Go.Proofs.Tryz.t113, by kernel_rfl, rfl, rfl, _, rfl, rfl, rfl, rfl⟩
 ·exact fun _ => ⟨Go.Proofs.Tryz.t117, by kernel_rfl, rfl, rfl, _, rfl, rfl, rfl, rfl⟩
 ·exact fun _ => ⟨Go.Proofs.Tryz.t118, by kernel_rfl, rfl, rfl, _, rfl, rfl, rfl, rfl⟩
 ·exact fun _ => ⟨Go.Proofs.Tryz.t119, by kernel_rfl, rfl, rfl, _, rfl, rfl, rfl, rfl⟩
 ·exact fun _ => ⟨Go.Proofs.Tryz.t134, by kernel_rfl, rfl, rfl, _, rfl, rfl, rfl, rfl⟩
 ·exact fun _ => ⟨Go.Proofs.Tryz.t135, by kernel_rfl, rfl, rfl, _, rfl, rfl, rfl, rfl⟩
 ·exact fun _ => ⟨Go.Proofs.Tryz.t136, by kernel_rfl, rfl, rfl, _, rfl, rfl, rfl, rfl⟩
 ·exact fun _ => ⟨Go.Proofs.Tryz.t137, by kernel_rfl, rfl, rfl, _, rfl, rfl, rfl, rfl⟩
 ·exact fun _ => ⟨Go.Proofs.Tryz.t138, by kernel_rfl, rfl, rfl, _, rfl, rfl, rfl, rfl⟩
 ·exact fun _ => ⟨Go.Proofs.Tryz.t139, by kernel_rfl, rfl, rfl, _, rfl, rfl, rfl, rfl⟩
 ·exact fun _ => ⟨Go.Proofs.Tryz.t152, by kernel_rfl, rfl, rfl, _, rfl, rfl, rfl, rfl⟩
 ·exact fun _ => ⟨Go.Proofs.Tryz.t153, by kernel_rfl, rfl, rfl, _, rfl, rfl, rfl, rfl⟩
 ·exact fun _ => ⟨Go.Proofs.Tryz.t154, by kernel_rfl, rfl, rfl, _, rfl, rfl, rfl, rfl⟩
 ·exact fun _ => ⟨Go.Proofs.Tryz.t155, by kernel_rfl, rfl, rfl, _, rfl, rfl, rfl, rfl⟩
 ·exact fun _ => ⟨Go.Proofs.Tryz.t156, by kernel_rfl, rfl, rfl, _, rfl, rfl, rfl, rfl⟩
 ·exact fun _ => ⟨Go.Proofs.Tryz.t157, by kernel_rfl, rfl, rfl, _, rfl, rfl, rfl, rfl⟩
 ·exact fun _ => ⟨Go.Proofs.Tryz.t178, by kernel_rfl, rfl, rfl, _, rfl, rfl, rfl, rfl⟩
 ·exact fun _ => ⟨Go.Proofs.Tryz.t200, by kernel_rfl, rfl, rfl, _, rfl, rfl, rfl, rfl⟩
 ·exact fun _ => ⟨Go.Proofs.Tryz.t210, by kernel_rfl, rfl, rfl, _, rfl, rfl, rfl, rfl⟩
 ·exact fun _ => ⟨Go.Proofs.Tryz.t211, by kernel_rfl, rfl, rfl, _, rfl, rfl, rfl, rfl⟩
 ·exact fun _ => ⟨Go.Proofs.Tryz.t216, by kernel_rfl, rfl, rfl, _, rfl, rfl, rfl, rfl⟩
 ·exact fun _ => ⟨Go.Proofs.Tryz.t217, by kernel_rfl, rfl, rfl, _, rfl, rfl, rfl, rfl⟩
 ·exact fun _ => ⟨Go.Proofs.Tryz.t218, by kernel_rfl, rfl, rfl, _, rfl, rfl, rfl, rfl⟩
 ·exact fun _ => ⟨Go.Proofs.Tryz.t220, by kernel_rfl, rfl, rfl, _, rfl, rfl, rfl, rfl⟩
 ·exact fun _ => ⟨Go.Proofs.Tryz.t221, by kernel_rfl, rfl, rfl, _, rfl, rfl, rfl, rfl⟩
 ·exact fun _ => ⟨Go.Proofs.Tryz.t222, by kernel_rfl, rfl, rfl, _, rfl, rfl, rfl, rfl⟩
 ·exact fun h => absurd rfl h
theorem tab_fl_ok : ∀ t, tFl t = [] ∨ ∃ F : Array Field, (Go.Proofs.Tryz.prog).underlying t = some (.struct F) ∧ F.toList.map (fun f => (f.type, f.offset)) = tFl t ∧ ∀ x, x ∈ tFl t → tSiz x.1 ≠ 0 := by
 intro t
 unfold tFl
 split
 ·exact .inr ⟨_, Go.Proofs.Tryz.underlying7, rfl, by decide⟩
 ·exact .inr ⟨_, Go.Proofs.Tryz.underlying8, rfl, by decide⟩
 ·exact .inr ⟨_, Go.Proofs.Tryz.underlying13, rfl, by decide⟩
 ·exact .inr ⟨_, Go.Proofs.Tryz.underlying14, rfl, by decide⟩
 ·exact .inr ⟨_, Go.Proofs.Tryz.underlying18, rfl, by decide⟩
 ·exact .inr ⟨_, Go.Proofs.Tryz.underlying19, rfl, by decide⟩
 ·exact .inr ⟨_, Go.Proofs.Tryz.underlying25, rfl, by decide⟩
 ·exact .inr ⟨_, Go.Proofs.Tryz.underlying26, rfl, by decide⟩
 ·exact .inr ⟨_, Go.Proofs.Tryz.underlying30, rfl, by decide⟩
 ·exact .inr ⟨_, Go.Proofs.Tryz.underlying31, rfl, by decide⟩
 ·exact .inr ⟨_, Go.Proofs.Tryz.underlying33, rfl, by decide⟩
 ·exact .inr ⟨_, Go.Proofs.Tryz.underlying34, rfl, by decide⟩
 ·exact .inr ⟨_, Go.Proofs.Tryz.underlying55, rfl, by decide⟩
 ·exact .inr ⟨_, Go.Proofs.Tryz.underlying56, rfl, by decide⟩
 ·exact .inr ⟨_, Go.Proofs.Tryz.underlying59, rfl, by decide⟩
 ·exact .inr ⟨_, Go.Proofs.Tryz.underlying60, rfl, by decide⟩
 ·exact .inr ⟨_, Go.Proofs.Tryz.underlying70, rfl, by decide⟩
 ·exact .inr ⟨_, Go.Proofs.Tryz.underlying71, rfl, by decide⟩
 ·exact .inr ⟨_, Go.Proofs.Tryz.underlying77, rfl, by decide⟩
 ·exact .inr ⟨_, Go.Proofs.Tryz.underlying78, rfl, by decide⟩
 ·exact .inr ⟨_, Go.Proofs.Tryz.underlying79, rfl, by decide⟩
 ·exact .inr ⟨_, Go.Proofs.Tryz.underlying80, rfl, by decide⟩
 ·exact .inr ⟨_, Go.Proofs.Tryz.underlying87, rfl, by decide⟩
 ·exact .inr ⟨_, Go.Proofs.Tryz.underlying88, rfl, by decide⟩
 ·exact .inr ⟨_, Go.Proofs.Tryz.underlying95, rfl, by decide⟩
 ·exact .inr ⟨_, Go.Proofs.Tryz.underlying96, rfl, by decide⟩
 ·exact .inr ⟨_, Go.Proofs.Tryz.underlying109, rfl, by decide⟩
 ·exact .inr ⟨_, Go.Proofs.Tryz.underlying110, rfl, by decide⟩
 ·exact .inr ⟨_, Go.Proofs.Tryz.underlying112, rfl, by decide⟩
 ·exact .inr ⟨_, Go.Proofs.Tryz.underlying113, rfl, by decide⟩
 ·exact .inr ⟨_, Go.Proofs.Tryz.underlying118, rfl, by decide⟩
 ·exact .inr ⟨_, Go.Proofs.Tryz.underlying119, rfl, by decide⟩
 ·exact .inr ⟨_, Go.Proofs.Tryz.underlying134, rfl, by decide⟩
 ·exact .inr ⟨_, Go.Proofs.Tryz.underlying135, rfl, by decide⟩
 ·exact .inr ⟨_, Go.Proofs.Tryz.underlying138, rfl, by decide⟩
 ·exact .inr ⟨_, Go.Proofs.Tryz.underlying139, rfl, by decide⟩
 ·exact .inr ⟨_, Go.Proofs.Tryz.underlying152, rfl, by decide⟩
 ·exact .inr ⟨_, Go.Proofs.Tryz.underlying153, rfl, by decide⟩
 ·exact .inr ⟨_, Go.Proofs.Tryz.underlying155, rfl, by decide⟩
 ·exact .inr ⟨_, Go.Proofs.Tryz.underlying156, rfl, by decide⟩
 ·exact .inr ⟨_, Go.Proofs.Tryz.underlying210, rfl, by decide⟩
 ·exact .inr ⟨_, Go.Proofs.Tryz.underlying211, rfl, by decide⟩
 ·exact .inl rfl
theorem tab_fld_ok : ∀ t j ft off, tFld t j = some (ft, off) → ∃ F f, (Go.Proofs.Tryz.prog).underlying t = some (.struct F) ∧ F[j]? = some f ∧ f.type = ft ∧ f.offset = off ∧ tSiz ft ≠ 0 := by
 intro t j ft off h
 unfold tFld at h
 rcases tab_fl_ok t with e | ⟨F, h1, h2, h3⟩
 ·rw [e] at h; simp at h
 ·have h4 := h3 _ (List.mem_of_getElem? h)
  rw [← h2, List.getElem?_map, Array.getElem?_toList] at h
  cases e : F[j]? with
  | none => rw [e] at h; cases h
  | some f =>
   rw [e] at h
   simp only [Option.map_some, gL, gM] at h
   exact ⟨F, f, h1, e, h.1, h.2, h4⟩
theorem tK : TabOK Go.Proofs.Tryz.prog tab := ⟨tab_und_ok, tab_siz_ok, tab_fld_ok⟩
end Go.Eng
namespace La
open Go Go.Eng
structure Entry where
 name : List UInt8
 fid : Int
deriving DecidableEq, Inhabited
structure Node where
 fid : Int
 dir : Bool
 data : List UInt8
 entries : List Entry
 version : Int
deriving DecidableEq, Inhabited
structure Act where
 kind : Int
 fid : Int
 dir : Int
 name : List UInt8
 to : Int
 toName : List UInt8
 data : List UInt8
deriving DecidableEq, Inhabited
structure Rec where
 act : Act
 version : Int
 id : Int
deriving DecidableEq, Inhabited
def i (n : Int) : AV := .int .i64 n
def ZY (b : UInt8) : List AV := [.int .u8 (b.toNat : Int)]
def ZI (n : Int) : List AV := [.int .i64 n]
def ZE (e : Entry) : List AV := [.str e.name, .int .i64 e.fid]
def ZN (n : Node) : List AV := [.int .i64 n.fid, .bool n.dir, .sl (n.data.map ZY), .sl (n.entries.map ZE), .int .i64 n.version]
def ZA (a : Act) : List AV := [.int .i64 a.kind, .int .i64 a.fid, .int .i64 a.dir, .str a.name, .int .i64 a.to, .str a.toName, .sl (a.data.map ZY)]
def ZR (r : Rec) : List AV := [.int .i64 r.act.kind, .int .i64 r.act.fid, .int .i64 r.act.dir, .str r.act.name, .int .i64 r.act.to, .str r.act.toName, .sl (r.act.data.map ZY), .int .i64 r.version, .int .i64 r.id]
structure Fam {α : Type} (f : α → List AV) (n : Nat) : Prop where
 len : ∀ a, (f a).length = n
 leaf : ∀ a, (f a).all AV.leaf = true
 pure : ∀ a, (f a).all AV.pureB = true
 free : ∀ a, refsL (f a) = []
section
variable {α : Type} {f : α → List AV} {n : Nat}
theorem Fam.rowsOf (h : Fam f n) (l : List α) : Eng.rowsOf n (l.map f) := by
 intro row hr; obtain ⟨a, _, rfl⟩ := List.mem_map.1 hr; exact h.len a
theorem Fam.allLeaf (h : Fam f n) (l : List α) : ((l.map f).all fun row => row.all AV.leaf) = true := by
 rw [List.all_eq_true]; intro row hr; obtain ⟨a, _, rfl⟩ := List.mem_map.1 hr; exact h.leaf a
theorem Fam.allPure (h : Fam f n) (l : List α) : ((l.map f).all fun row => row.all AV.pureB) = true := by
 rw [List.all_eq_true]; intro row hr; obtain ⟨a, _, rfl⟩ := List.mem_map.1 hr; exact h.pure a
theorem Fam.noRef (h : Fam f n) (id : Nat) (l : List α) : ((l.map f).all fun row => row.all fun x => !(refs x).contains id) = true := by
 rw [List.all_eq_true]; intro row hr; obtain ⟨a, _, rfl⟩ := List.mem_map.1 hr
 rw [List.all_eq_true]; intro x hx
 obtain ⟨j, hj⟩ := List.getElem?_of_mem hx
 have : refs x = [] := by
  have h1 : ∀ i, i ∈ refs x → i ∈ refsL (f a) := fun i hi => Zr hj hi
  rw [h.free a] at h1
  exact List.eq_nil_iff_forall_not_mem.2 fun i hi => by simpa using h1 i hi
 rw [this]; rfl
theorem Fam.refsB (h : Fam f n) (e s : Nat) (l : List α) : Eng.refsB (.cells e s (l.map f)) = [] := by
 simp only [Eng.refsB]
 induction l with
 | nil => rfl
 | cons a r ih => simp only [List.map_cons, List.flatMap_cons, h.free a, ih, List.nil_append]
theorem Fam.renL (h : ∀ a (off : Nat), Eng.renL off (f a) = f a) (off : Nat) (l : List α) : (l.map f).map (Eng.renL off) = l.map f := by
 induction l with
 | nil => rfl
 | cons a r ih => simp only [List.map_cons, h a off, ih]
theorem Fam.frzL (h : ∀ a (id s : Nat) (rows : List (List AV)), Eng.frzL id s rows (f a) = f a) (id s : Nat) (rows : List (List AV)) (l : List α) : (l.map f).map (Eng.frzL id s rows) = l.map f := by
 induction l with
 | nil => rfl
 | cons a r ih => simp only [List.map_cons, h a id s rows, ih]
end
@[go_sem, simp] theorem take_map_all {α : Type} (f : α → List AV) (l : List α) : (l.map f).take l.length = l.map f := List.take_of_length_le (by simp)
theorem take_succ_map {α : Type} [Inhabited α] (f : α → List AV) {l : List α} {i : Nat} (h : i < l.length) : (l.take (i + 1)).map f = (l.take i).map f ++ [f (l.getD i default)] := by
 rw [List.take_succ_eq_append_getElem h, List.map_append, List.getD_eq_getElem?_getD, List.getElem?_eq_getElem h]; rfl
theorem ZT {α : Type} [Inhabited α] {l : List α} {i : Nat} (h : i < l.length) : l.take (i + 1) = l.take i ++ [l.getD i default] := by
 rw [List.take_succ_eq_append_getElem h, List.getD_eq_getElem?_getD, List.getElem?_eq_getElem h]; rfl
theorem drop_getD {α : Type} [Inhabited α] {l : List α} {i : Nat} (h : i < l.length) : l.drop i = l.getD i default :: l.drop (i + 1) := by
 rw [List.drop_eq_getElem_cons h, List.getD_eq_getElem?_getD, List.getElem?_eq_getElem h]; rfl
def idxI : Option Nat → Int
 | none => -1
 | some k => k
theorem findIdx_at {α : Type} {p : α → Bool} : ∀ {l : List α} {i : Nat} {x : α}, l[i]? = some x → (∀ y, y ∈ l.take i → p y = false) → p x = true → l.findIdx? p = some i
 | [], i, x, h, _, _ => by simp at h
 | y :: r, 0, x, h, _, hp => by
  simp only [List.getElem?_cons_zero, Option.some.injEq] at h
  subst h
  simp [List.findIdx?_cons, hp]
 | y :: r, i + 1, x, h, hn, hp => by
  have h0 := hn y (by simp)
  rw [List.findIdx?_cons, h0]
  simp only [Bool.false_eq_true, if_false]
  rw [findIdx_at (l := r) (i := i) (by simpa using h) (fun z hz => hn z (by simp [hz])) hp]
  rfl
structure Node.Small (n : Node) : Prop where
 data : n.data.length ≤ 100000000
 entries : n.entries.length ≤ 100000000
structure Small (l : List Node) : Prop where
 len : l.length ≤ 100000000
 each : ∀ n, n ∈ l → n.Small
theorem YG {α : Type} [Inhabited α] {l : List α} {i : Nat} (h : i < l.length) : l.getD i default ∈ l := by
 rw [List.getD_eq_getElem?_getD, List.getElem?_eq_getElem h]; exact List.getElem_mem h
theorem Fam.getD {α : Type} [Inhabited α] {f : α → List AV} {l : List α} {i : Nat} (h : i < l.length) : (l.map f).getD i [] = f (l.getD i default) := by
 rw [List.getD_eq_getElem?_getD, List.getElem?_map, List.getD_eq_getElem?_getD, List.getElem?_eq_getElem h]; rfl
theorem fam_byteRow : Fam ZY 1 := ⟨fun _ => rfl, fun _ => rfl, fun _ => rfl, fun _ => rfl⟩
@[go_sem, simp] theorem byteRow_rowsOf (l : List _) : Eng.rowsOf 1 (l.map ZY) := fam_byteRow.rowsOf l
@[go_sem, simp] theorem byteRow_leaf (l : List _) : ((l.map ZY).all fun row => row.all AV.leaf) = true := fam_byteRow.allLeaf l
@[go_sem, simp] theorem byteRow_pure (l : List _) : ((l.map ZY).all fun row => row.all AV.pureB) = true := fam_byteRow.allPure l
@[go_sem, simp] theorem byteRow_noRef (id : Nat) (l : List _) : ((l.map ZY).all fun row => row.all fun x => !(refs x).contains id) = true := fam_byteRow.noRef id l
@[go_sem, simp] theorem byteRow_refsB (e s : Nat) (l : List _) : refsB (.cells e s (l.map ZY)) = [] := fam_byteRow.refsB e s l
@[go_sem, simp] theorem byteRow_frzL (id s : Nat) (rows : List (List AV)) (l : List _) : (l.map ZY).map (frzL id s rows) = l.map ZY := Fam.frzL (fun _ _ _ _ => rfl) id s rows l
theorem fam_intRow : Fam ZI 1 := ⟨fun _ => rfl, fun _ => rfl, fun _ => rfl, fun _ => rfl⟩
@[go_sem, simp] theorem intRow_pure (l : List _) : ((l.map ZI).all fun row => row.all AV.pureB) = true := fam_intRow.allPure l
@[go_sem, simp] theorem intRow_noRef (id : Nat) (l : List _) : ((l.map ZI).all fun row => row.all fun x => !(refs x).contains id) = true := fam_intRow.noRef id l
@[go_sem, simp] theorem intRow_refsB (e s : Nat) (l : List _) : refsB (.cells e s (l.map ZI)) = [] := fam_intRow.refsB e s l
@[go_sem, simp] theorem intRow_renL (off : Nat) (l : List _) : (l.map ZI).map (renL off) = l.map ZI := Fam.renL (fun _ _ => rfl) off l
@[go_sem, simp] theorem intRow_frzL (id s : Nat) (rows : List (List AV)) (l : List _) : (l.map ZI).map (frzL id s rows) = l.map ZI := Fam.frzL (fun _ _ _ _ => rfl) id s rows l
theorem fam_entryRow : Fam ZE 2 := ⟨fun _ => rfl, fun _ => rfl, fun _ => rfl, fun _ => rfl⟩
@[go_sem, simp] theorem entryRow_rowsOf (l : List _) : Eng.rowsOf 2 (l.map ZE) := fam_entryRow.rowsOf l
@[go_sem, simp] theorem entryRow_leaf (l : List _) : ((l.map ZE).all fun row => row.all AV.leaf) = true := fam_entryRow.allLeaf l
@[go_sem, simp] theorem entryRow_pure (l : List _) : ((l.map ZE).all fun row => row.all AV.pureB) = true := fam_entryRow.allPure l
@[go_sem, simp] theorem entryRow_noRef (id : Nat) (l : List _) : ((l.map ZE).all fun row => row.all fun x => !(refs x).contains id) = true := fam_entryRow.noRef id l
@[go_sem, simp] theorem entryRow_refsB (e s : Nat) (l : List _) : refsB (.cells e s (l.map ZE)) = [] := fam_entryRow.refsB e s l
@[go_sem, simp] theorem entryRow_renL (off : Nat) (l : List _) : (l.map ZE).map (renL off) = l.map ZE := Fam.renL (fun _ _ => rfl) off l
@[go_sem, simp] theorem entryRow_frzL (id s : Nat) (rows : List (List AV)) (l : List _) : (l.map ZE).map (frzL id s rows) = l.map ZE := Fam.frzL (fun _ _ _ _ => rfl) id s rows l
theorem fam_nodeRow : Fam ZN 5 := ⟨fun _ => rfl, fun _ => rfl, fun _ => rfl, fun _ => rfl⟩
@[go_sem, simp] theorem nodeRow_rowsOf (l : List _) : Eng.rowsOf 5 (l.map ZN) := fam_nodeRow.rowsOf l
@[go_sem, simp] theorem nodeRow_leaf (l : List _) : ((l.map ZN).all fun row => row.all AV.leaf) = true := fam_nodeRow.allLeaf l
@[go_sem, simp] theorem nodeRow_pure (l : List _) : ((l.map ZN).all fun row => row.all AV.pureB) = true := fam_nodeRow.allPure l
@[go_sem, simp] theorem nodeRow_noRef (id : Nat) (l : List _) : ((l.map ZN).all fun row => row.all fun x => !(refs x).contains id) = true := fam_nodeRow.noRef id l
@[go_sem, simp] theorem nodeRow_refsB (e s : Nat) (l : List _) : refsB (.cells e s (l.map ZN)) = [] := fam_nodeRow.refsB e s l
@[go_sem, simp] theorem nodeRow_renL (off : Nat) (l : List _) : (l.map ZN).map (renL off) = l.map ZN := Fam.renL (fun _ _ => rfl) off l
@[go_sem, simp] theorem nodeRow_frzL (id s : Nat) (rows : List (List AV)) (l : List _) : (l.map ZN).map (frzL id s rows) = l.map ZN := Fam.frzL (fun _ _ _ _ => rfl) id s rows l
theorem fam_actRow : Fam ZA 7 := ⟨fun _ => rfl, fun _ => rfl, fun _ => rfl, fun _ => rfl⟩
@[go_sem, simp] theorem actRow_pure (l : List _) : ((l.map ZA).all fun row => row.all AV.pureB) = true := fam_actRow.allPure l
@[go_sem, simp] theorem actRow_noRef (id : Nat) (l : List _) : ((l.map ZA).all fun row => row.all fun x => !(refs x).contains id) = true := fam_actRow.noRef id l
@[go_sem, simp] theorem actRow_refsB (e s : Nat) (l : List _) : refsB (.cells e s (l.map ZA)) = [] := fam_actRow.refsB e s l
@[go_sem, simp] theorem actRow_frzL (id s : Nat) (rows : List (List AV)) (l : List _) : (l.map ZA).map (frzL id s rows) = l.map ZA := Fam.frzL (fun _ _ _ _ => rfl) id s rows l
theorem fam_recRow : Fam ZR 9 := ⟨fun _ => rfl, fun _ => rfl, fun _ => rfl, fun _ => rfl⟩
@[go_sem, simp] theorem recRow_rowsOf (l : List _) : Eng.rowsOf 9 (l.map ZR) := fam_recRow.rowsOf l
@[go_sem, simp] theorem recRow_leaf (l : List _) : ((l.map ZR).all fun row => row.all AV.leaf) = true := fam_recRow.allLeaf l
@[go_sem, simp] theorem recRow_pure (l : List _) : ((l.map ZR).all fun row => row.all AV.pureB) = true := fam_recRow.allPure l
@[go_sem, simp] theorem recRow_noRef (id : Nat) (l : List _) : ((l.map ZR).all fun row => row.all fun x => !(refs x).contains id) = true := fam_recRow.noRef id l
@[go_sem, simp] theorem recRow_refsB (e s : Nat) (l : List _) : refsB (.cells e s (l.map ZR)) = [] := fam_recRow.refsB e s l
@[go_sem, simp] theorem recRow_renL (off : Nat) (l : List _) : (l.map ZR).map (renL off) = l.map ZR := Fam.renL (fun _ _ => rfl) off l
@[go_sem, simp] theorem recRow_frzL (id s : Nat) (rows : List (List AV)) (l : List _) : (l.map ZR).map (frzL id s rows) = l.map ZR := Fam.frzL (fun _ _ _ _ => rfl) id s rows l
@[go_sem, simp] theorem intRow_refsL (a) : refsL (ZI a) = [] := fam_intRow.free a
@[go_sem, simp] theorem entryRow_refsL (a) : refsL (ZE a) = [] := fam_entryRow.free a
@[go_sem, simp] theorem nodeRow_refsL (a) : refsL (ZN a) = [] := fam_nodeRow.free a
@[go_sem, simp] theorem actRow_refsL (a) : refsL (ZA a) = [] := fam_actRow.free a
@[go_sem, simp] theorem bytes_of (l : List UInt8) : (l.map ZY).map Eng.byteOf = l := by
 rw [List.map_map]
 have : Eng.byteOf ∘ ZY = id := by
  funext b
  show UInt8.ofNat ((b.toNat : Int)).toNat = b
  simp
 rw [this, List.map_id]
@[go_sem, simp] theorem byteRow_is (b : UInt8) : IsByte (ZY b) := ⟨_, rfl⟩
end La
namespace Go.Eng
open Go.ChangeShapes Go.WideShapes Go.RowKit
section
variable {H : Type} {enc : TypeId × Value → H} {P : Program}
theorem Frm.at {W W' : World} (h : Frm (fun _ => False) W W') {b : Nat} (hb : b < W.heap.size) : W'.heap[b]? = W.heap[b]? := h.block b hb (fun h => h)
theorem Frm.kept {W W' : World} (h : Frm (fun _ => False) W W') (may : MemPlace → Prop) : W.keptBut W' may := by
 refine ⟨h.os, h.output, fun i hi => ?_⟩
 rw [h.at hi]
 split
 ·rename_i c t fr c' t' fr' h1 h2
  rw [h1] at h2
  simp only [Option.some.injEq, Obj.cells.injEq] at h2
  obtain ⟨rfl, rfl, rfl⟩ := h2
  exact ⟨rfl, rfl, rfl, fun _ _ => rfl⟩
 ·rename_i es c es' c' h1 h2
  rw [h1] at h2
  simp only [Option.some.injEq, Obj.map.injEq] at h2
  obtain ⟨rfl, rfl⟩ := h2
  exact .inr ⟨rfl, rfl⟩
 ·rfl
theorem trodAll_frm {W W' : World} (h : Frm (fun _ => False) W W') {b : Nat} {sp : Nat → Bool} {held : Bool} : ∀ {ts : List TypeId} {vs : List Value} {ds : List (DataW H)} {ps : List MemPlace},
  DataW.TrodAll enc P W b sp held ts vs ds ps → (∀ p ∈ ps, p.block < W.heap.size) → DataW.TrodAll enc P W' b sp held ts vs ds ps
 | [], [], [], _, h, _ => h
 | _ :: _, _ :: _, _ :: _, _, ⟨p, q, ⟨n, h1⟩, h2, e⟩, hl => by
  subst e
  refine ⟨p, q, ⟨n, DataW.trod_carry n _ _ _ h1 fun x hx => ?_⟩, trodAll_frm h h2 (fun x hx => hl x (List.mem_append_right _ hx)), rfl⟩
  have hb := hl x (List.mem_append_left _ hx)
  cases x with
  | cell b off => exact cell_same (h.at hb)
  | map b => exact h.at hb
theorem post_true (hl : laidOutB P = true) (hm : mapsRowed P = true) (hz : ∀ t e, t < P.types.size → P.underlying t = some (.slice e) → 0 < P.cellsOf e) {f : Func} {s : ChangeSpec} {W W' : World} {args : Array Value} {ds gs : List (DataW H)} {before : List MemPlace} {tb : TypeId}
  (hts : ∀ t ∈ f.params.toList, t < P.types.size) (hv : s.vars = []) (hb : P.underlying tb = some .bool) (hr : f.resultTypes = #[tb])
  (hW : DataW.Whole enc P f.params.toList s.vars false W args.toList ds gs before) (hf : Frm (fun _ => False) W W')
  (h1 : (s.fn H (ds ++ gs)).results = [.lit (.bool true)]) (h2 : (s.fn H (ds ++ gs)).args = ds) (h3 : (s.fn H (ds ++ gs)).vars = []) :
  s.post enc P f false true false false W args (.bool true) W' := by
 have hW' := hW
 obtain ⟨p, q, hA, hV, rfl, hfz, hnd⟩ := hW
 rw [hv] at hV
 obtain ⟨rfl, rfl⟩ := trodVars_none hV
 have hlt : ∀ x ∈ p, x.block < W.heap.size := fun x hx => hA.lt x hx
 refine ⟨ds, [], p ++ [], [], p, [], hW', ?_, ?_, ?_, hf.kept _, fun h => nomatch h⟩
 ·rw [h1, hr]
  exact trodAll_cons_mk (shut_bool hb _) trodAll_mk0
 ·rw [h2]
  exact trodAll_frm hf (DataW.TrodAll.respare (kids_rows hl hm) hz hts hA (fun x hx => by simpa using hlt x hx)) hlt
 ·rw [h3, hv]
  rfl
end
end Go.Eng
namespace La
open Go Go.Eng Go.Proofs
theorem ZM : (Tryz.prog).follows .mixedOrders = true := by kernel_rfl
theorem own : ownKnob Tryz.prog.godebug = none := by kernel_rfl
theorem laid : laidOutB Tryz.prog = true := by kernel_rfl
theorem rowed : mapsRowed Tryz.prog = true := by kernel_rfl
theorem full : ∀ t e, t < Tryz.prog.types.size → Tryz.prog.underlying t = some (.slice e) → 0 < Tryz.prog.cellsOf e := slices_full_of _ (by kernel_rfl)
end La
namespace La
def bsearch (lt : Nat → Bool) : Nat → Nat → Nat → Nat
 | 0, lo, _ => lo
 | f + 1, lo, hi => if lo < hi then (if lt ((lo + hi) / 2) then bsearch lt f ((lo + hi) / 2 + 1) hi else bsearch lt f lo ((lo + hi) / 2)) else lo
theorem bsearch_fuel (lt : Nat → Bool) : ∀ (f g lo hi : Nat), hi - lo ≤ f → hi - lo ≤ g → bsearch lt f lo hi = bsearch lt g lo hi
 | 0, 0, _, _, _, _ => rfl
 | 0, g + 1, lo, hi, h, _ => by
  unfold bsearch
  rw [if_neg (by omega)]
 | f + 1, 0, lo, hi, _, h => by
  unfold bsearch
  rw [if_neg (by omega)]
 | f + 1, g + 1, lo, hi, h1, h2 => by
  unfold bsearch
  by_cases h : lo < hi
  ·rw [if_pos h, if_pos h]
   by_cases hl : lt ((lo + hi) / 2) = true
   ·rw [if_pos hl, if_pos hl]; exact bsearch_fuel lt f g _ _ (by omega) (by omega)
   ·rw [if_neg hl, if_neg hl]; exact bsearch_fuel lt f g _ _ (by omega) (by omega)
  ·rw [if_neg h, if_neg h]
theorem bsearch_spec (lt : Nat → Bool) (n : Nat) (hmono : ∀ i j, i ≤ j → j < n → lt j = true → lt i = true) : ∀ (f lo hi : Nat), hi - lo ≤ f → lo ≤ hi → hi ≤ n → (∀ i, i < lo → lt i = true) → (∀ i, hi ≤ i → i < n → lt i = false) →
  bsearch lt f lo hi ≤ n ∧ (∀ i, i < bsearch lt f lo hi → lt i = true) ∧ ∀ i, bsearch lt f lo hi ≤ i → i < n → lt i = false
 | 0, lo, hi, h, hle, hn, h1, h2 => by
  have : lo = hi := by omega
  subst this
  exact ⟨hn, h1, h2⟩
 | f + 1, lo, hi, h, hle, hn, h1, h2 => by
  unfold bsearch
  by_cases hlt : lo < hi
  ·rw [if_pos hlt]
   by_cases hl : lt ((lo + hi) / 2) = true
   ·rw [if_pos hl]
    exact bsearch_spec lt n hmono f _ _ (by omega) (by omega) hn (fun i hi' => hmono i ((lo + hi) / 2) (by omega) (by omega) hl) h2
   ·rw [if_neg hl]
    refine bsearch_spec lt n hmono f _ _ (by omega) (by omega) (by omega) h1 fun i hi1 hi2 => ?_
    cases e : lt i with
    | false => rfl
    | true => exact absurd (hmono _ i hi1 hi2 e) hl
  ·rw [if_neg hlt]
   have : lo = hi := by omega
   subst this
   exact ⟨hn, h1, h2⟩
theorem bsearch_le (lt : Nat → Bool) : ∀ (f lo hi : Nat), lo ≤ hi → lo ≤ bsearch lt f lo hi ∧ bsearch lt f lo hi ≤ hi
 | 0, lo, hi, h => ⟨Nat.le_refl _, h⟩
 | f + 1, lo, hi, h => by
  unfold bsearch
  by_cases hlt : lo < hi
  ·rw [if_pos hlt]
   split
   ·have := bsearch_le lt f ((lo + hi) / 2 + 1) hi (by omega); omega
   ·have := bsearch_le lt f lo ((lo + hi) / 2) (by omega); omega
  ·rw [if_neg hlt]; omega
def Yp (l : List Node) (fid : Int) : Nat := bsearch (fun i => decide ((l.getD i default).fid < fid)) l.length 0 l.length
def isAt (l : List Node) (fid : Int) : Bool := decide (Yp l fid < l.length) && decide ((l.getD (Yp l fid) default).fid = fid)
def Yf (l : List Node) (fid : Int) : Option Node := if isAt l fid then some (l.getD (Yp l fid) default) else none
def Yu (l : List Node) (n : Node) : List Node := if isAt l n.fid then l.set (Yp l n.fid) n else l.take (Yp l n.fid) ++ n :: l.drop (Yp l n.fid)
def dropN (l : List Node) (fid : Int) : List Node := l.filter fun n => !(n.fid == fid)
theorem placeOf_le (l : List Node) (fid : Int) : Yp l fid ≤ l.length := (bsearch_le _ _ _ _ (Nat.zero_le _)).2
def Up (l : List Node) : Prop := l.Pairwise fun a b => a.fid < b.fid
theorem Up.lt {l : List Node} (h : Up l) {i j : Nat} (hij : i < j) (hj : j < l.length) : (l.getD i default).fid < (l.getD j default).fid := by
 have := List.pairwise_iff_getElem.1 h i j (by omega) hj hij
 rw [List.getD_eq_getElem?_getD, List.getD_eq_getElem?_getD, List.getElem?_eq_getElem (by omega), List.getElem?_eq_getElem hj]
 exact this
theorem Up.place {l : List Node} (h : Up l) (fid : Int) : (∀ i, i < Yp l fid → (l.getD i default).fid < fid) ∧ ∀ i, Yp l fid ≤ i → i < l.length → fid ≤ (l.getD i default).fid := by
 have := bsearch_spec (fun i => decide ((l.getD i default).fid < fid)) l.length (fun i j hij hj hl => by
  rcases Nat.lt_or_eq_of_le hij with h1 | rfl
  ·have := h.lt h1 hj
   have h2 := of_decide_eq_true hl
   exact decide_eq_true (by omega)
  ·exact hl) l.length 0 l.length (by omega) (by omega) (Nat.le_refl _) (fun i hi => by omega) (fun i h1 h2 => by omega)
 obtain ⟨_, h2, h3⟩ := this
 exact ⟨fun i hi => of_decide_eq_true (h2 i hi), fun i hi hl => by have := of_decide_eq_false (h3 i hi hl); omega⟩
theorem getD_of {l : List Node} {x : Node} {i : Nat} (h : l[i]? = some x) : l.getD i default = x := by rw [List.getD_eq_getElem?_getD, h]; rfl
theorem ZO {l : List Node} (h : Up l) {fid : Int} {x : Node} : Yf l fid = some x ↔ x ∈ l ∧ x.fid = fid := by
 obtain ⟨p1, p2⟩ := h.place fid
 unfold Yf isAt
 constructor
 ·intro hf
  split at hf
  ·rename_i hc
   rw [Bool.and_eq_true] at hc
   have h1 := of_decide_eq_true hc.1
   have h2 := of_decide_eq_true hc.2
   injection hf with hf
   subst hf
   exact ⟨YG h1, h2⟩
  ·cases hf
 ·rintro ⟨hx, rfl⟩
  obtain ⟨i, hi⟩ := List.getElem?_of_mem hx
  have hil : i < l.length := (List.getElem?_eq_some_iff.1 hi).1
  have hix := getD_of hi
  have hpi : Yp l x.fid = i := by
   rcases Nat.lt_trichotomy (Yp l x.fid) i with h1 | h1 | h1
   ·have := p2 _ (Nat.le_refl _) (by omega)
    have h3 := h.lt h1 hil
    rw [hix] at h3
    omega
   ·exact h1
   ·have := p1 i h1
    rw [hix] at this
    omega
  rw [hpi, hix, if_pos (by simp [hil])]
theorem findN_none {l : List Node} (h : Up l) {fid : Int} : Yf l fid = none ↔ ∀ x, x ∈ l → x.fid ≠ fid := by
 constructor
 ·intro hf x hx hxf
  rw [(ZO h).2 ⟨hx, hxf⟩] at hf; cases hf
 ·intro hf
  cases e : Yf l fid with
  | none => rfl
  | some x =>
   obtain ⟨h1, h2⟩ := (ZO h).1 e
   exact absurd h2 (hf x h1)
theorem putN_up {l : List Node} (h : Up l) (n : Node) : Up (Yu l n) ∧ ∀ x, x ∈ Yu l n ↔ x = n ∨ (x ∈ l ∧ x.fid ≠ n.fid) := by
 obtain ⟨p1, p2⟩ := h.place n.fid
 have hle := placeOf_le l n.fid
 unfold Yu
 generalize hp : Yp l n.fid = p at *
 have hmem : ∀ x, x ∈ l ↔ x ∈ l.take p ∨ x ∈ l.drop p := fun x => by
  have := List.mem_append (a := x) (s := l.take p) (t := l.drop p)
  rw [List.take_append_drop] at this
  exact this
 have ht : ∀ x, x ∈ l.take p → x.fid < n.fid := fun x hx => by
  obtain ⟨i, hi⟩ := List.getElem?_of_mem hx
  rw [List.getElem?_take] at hi
  split at hi
  ·rename_i hip
   have := p1 i hip
   rwa [getD_of hi] at this
  ·cases hi
 have hd : ∀ x, x ∈ l.drop p → n.fid ≤ x.fid := fun x hx => by
  obtain ⟨i, hi⟩ := List.getElem?_of_mem hx
  rw [List.getElem?_drop] at hi
  have := p2 (p + i) (by omega) (List.getElem?_eq_some_iff.1 hi).1
  rwa [getD_of hi] at this
 by_cases hat : isAt l n.fid = true
 ·rw [if_pos hat]
  unfold isAt at hat
  rw [Bool.and_eq_true] at hat
  have hpl : p < l.length := by have := of_decide_eq_true hat.1; omega
  have hpf : (l.getD p default).fid = n.fid := by have := of_decide_eq_true hat.2; rw [hp] at this; exact this
  have Zh : l.set p n = l.take p ++ n :: l.drop (p + 1) := by
   rw [List.set_eq_take_append_cons_drop, if_pos hpl]
  have hdd : l.drop p = l.getD p default :: l.drop (p + 1) := drop_getD hpl
  have hd1 : ∀ x, x ∈ l.drop (p + 1) → n.fid < x.fid := fun x hx => by
   obtain ⟨i, hi⟩ := List.getElem?_of_mem hx
   rw [List.getElem?_drop] at hi
   have := h.lt (i := p) (j := p + 1 + i) (by omega) (List.getElem?_eq_some_iff.1 hi).1
   rw [getD_of hi, hpf] at this
   exact this
  rw [Zh]
  refine ⟨?_, fun x => ?_⟩
  ·refine List.pairwise_append.2 ⟨h.sublist (List.take_sublist _ _), List.pairwise_cons.2 ⟨hd1, h.sublist (List.drop_sublist _ _)⟩, fun a ha b hb => ?_⟩
   rcases List.mem_cons.1 hb with rfl | hb
   ·exact ht a ha
   ·have := ht a ha; have := hd1 b hb; omega
  ·rw [hmem, hdd]
   simp only [List.mem_append, List.mem_cons]
   constructor
   ·rintro (h1 | h1 | h1)
    ·exact .inr ⟨.inl h1, by have := ht x h1; omega⟩
    ·exact .inl h1
    ·exact .inr ⟨.inr (.inr h1), by have := hd1 x h1; omega⟩
   ·rintro (h1 | ⟨h1 | rfl | h1, h2⟩)
    ·exact .inr (.inl h1)
    ·exact .inl h1
    ·exact absurd hpf h2
    ·exact .inr (.inr h1)
 ·rw [if_neg hat]
  have hd1 : ∀ x, x ∈ l.drop p → n.fid < x.fid := fun x hx => by
   obtain ⟨i, hi⟩ := List.getElem?_of_mem hx
   rw [List.getElem?_drop] at hi
   have hil : p + i < l.length := (List.getElem?_eq_some_iff.1 hi).1
   have h0 : ¬ (l.getD p default).fid = n.fid := by
    intro e
    apply hat
    unfold isAt
    rw [hp, Bool.and_eq_true]
    exact ⟨decide_eq_true (by omega), decide_eq_true e⟩
   have h1 := p2 p (Nat.le_refl _) (by omega)
   by_cases hi0 : i = 0
   ·subst hi0
    rw [Nat.add_zero] at hi
    rw [getD_of hi] at h0 h1
    omega
   ·have := h.lt (i := p) (j := p + i) (by omega) hil
    rw [getD_of hi] at this
    omega
  refine ⟨?_, fun x => ?_⟩
  ·refine List.pairwise_append.2 ⟨h.sublist (List.take_sublist _ _), List.pairwise_cons.2 ⟨hd1, h.sublist (List.drop_sublist _ _)⟩, fun a ha b hb => ?_⟩
   rcases List.mem_cons.1 hb with rfl | hb
   ·exact ht a ha
   ·have := ht a ha; have := hd1 b hb; omega
  ·rw [hmem]
   simp only [List.mem_append, List.mem_cons]
   constructor
   ·rintro (h1 | h1 | h1)
    ·exact .inr ⟨.inl h1, by have := ht x h1; omega⟩
    ·exact .inl h1
    ·exact .inr ⟨.inr h1, by have := hd1 x h1; omega⟩
   ·rintro (h1 | ⟨h1 | h1, h2⟩)
    ·exact .inr (.inl h1)
    ·exact .inl h1
    ·exact .inr (.inr h1)
theorem dropN_up {l : List Node} (h : Up l) (fid : Int) : Up (dropN l fid) ∧ ∀ x, x ∈ dropN l fid ↔ x ∈ l ∧ x.fid ≠ fid :=
 ⟨h.sublist List.filter_sublist, fun x => by unfold dropN; rw [List.mem_filter]; simp⟩
theorem puts_found {l : List Node} (h : Up l) (n : Node) : Yf (Yu l n) n.fid = some n := by
 obtain ⟨h1, h2⟩ := putN_up h n
 exact (ZO h1).2 ⟨(h2 n).2 (.inl rfl), rfl⟩
theorem puts_other {l : List Node} (h : Up l) (n : Node) {other : Int} (ho : other ≠ n.fid) : Yf l other = Yf (Yu l n) other := by
 obtain ⟨h1, h2⟩ := putN_up h n
 cases e : Yf l other with
 | none =>
  symm
  rw [findN_none h1]
  intro x hx
  rcases (h2 x).1 hx with rfl | ⟨hx, _⟩
  ·exact Ne.symm ho
  ·exact (findN_none h).1 e x hx
 | some x =>
  obtain ⟨k1, k2⟩ := (ZO h).1 e
  symm
  exact (ZO h1).2 ⟨(h2 x).2 (.inr ⟨k1, by rw [k2]; exact ho⟩), k2⟩
end La
namespace Go.Eng
section
variable {P : Program} {T : Tab} {C : Ctx} {σ σ' : St} {Ret : St → Prop} {k : List It}
theorem sub_nil : ∀ H, sub [] H = []
 | [] => rfl
 | p :: r => by simp [sub, sub_nil r]
theorem del_nil : ∀ H, del [] H = H
 | [] => rfl
 | p :: r => by simp [del, del_nil r]
theorem killL_nil (l : List AV) : l.map (killL []) = l := by
 have : killL [] = id := by funext x; simp [killL]
 rw [this, List.map_id]
theorem seg_callN {ops : Array Oper} {Q : Exit → Act → World → Prop} {k n : Nat} {acc : Skel} {o : Oper} {l : List Oper} {c : Operand} {args : Array Operand} {ats : Array TypeId} (off : Nat) (ho : o.op = .call { callee := .value c, args, argTypes := ats }) (hg : o.guard = none) {p : Prop} {f : FuncId} {xs : List AV}
  (h : Yc σ c args.toList = some (p, f, xs)) (hp : p) (hc : Callable P f) (hx : refsL xs = []) {K : List (Nat × Blk)} {r : AV} (hf : FnOK P f xs [] fun r' H' => r' = r ∧ ∀ id b, Yk K id = some b → Yk H' id = some b) (hc3 : closed K (refs r) = true)
  {r2 : AV} (hr : ren off r = r2) {K2 : List (Nat × Blk)} (hK : renH off K = K2) (hn : (K2.all fun b => (Yk σ.hp b.1).isNone) = true)
  {sk : List Loc × List Loc} (hs : ((Sp.mk o.dst r2 K2 (locsG ops o.guard ++ (locsO σ c ++ locsL σ args.toList))).wr, locsG ops o.guard ++ (locsO σ c ++ locsL σ args.toList)) = sk)
  (ha : St.put ⟨σ.tm, K2 ++ σ.hp⟩ o.dst r2 = σ') (hk : SegFrom P C ops Q k n (acc ++ [sk]) l σ') : SegFrom P C ops Q k n acc (o :: l) σ := by
 subst hr hK
 refine seg_robN (q := ⟨o.dst, ren off r, renH off K, locsG ops o.guard ++ (locsO σ c ++ locsL σ args.toList)⟩) ?_ (fun b hb _ => ?_) (by rw [← hs]) (by rw [← ha]; rfl) hk
 ·intro s hagree hfree a w Kp Q' hr hKp
  have hg' : Yo ops s o.guard = some true := by rw [hg]; rfl
  obtain ⟨μ, S, hi⟩ := hr
  rw [Zw hi hg']
  refine .inl ?_
  refine trip_callG ho (by rw [callArgs_agree (fun x hx => hagree x (List.mem_append_right _ hx))]; exact h) hp hc [] off (H := []) (K := K) (r := r) (sub_nil _) (by rw [hx]; rfl) rfl (by simp) hc3 ?_ hf ?_ a w Kp Q' ⟨μ, S, hi⟩ hKp
  ·rw [List.all_eq_true]
   intro q hq
   have hm : (q.1 + off, renB off q.2) ∈ renH off K := List.mem_map.2 ⟨q, hq, rfl⟩
   have h0 : Yk s.hp (q.1 + off) = none := by
    by_cases h : Loc.blk (q.1 + off) ∈ locsG ops o.guard ++ (locsO σ c ++ locsL σ args.toList)
    ·have h1 := List.all_eq_true.1 hn _ hm
     have h2 : Yk σ.hp (q.1 + off) = none := by simpa using h1
     exact (hagree _ h).trans h2
    ·exact hfree _ hm h
   rw [h0]
   rfl
  ·rw [killL_nil, del_nil]; rfl
 ·have := List.all_eq_true.1 hn b hb
  simpa using this
theorem Ze (id e s : Nat) (hf : Yk σ.hp id = none) : Le C σ ⟨σ.tm, (id, .cells e s []) :: σ.hp⟩ := by
 rintro a w ⟨μ, S, hi⟩
 refine ⟨μ, S, hi.size, hi.defers, hi.tm, fun i b hb => ?_, fun i q hq => ?_, hi.inj, hi.frm, hi.sb⟩
 ·simp only [Yk] at hb
  split at hb
  ·rename_i h1
   injection hb with hb
   subst h1 hb
   exact .inl ⟨rfl, hi.fresh hf⟩
  ·exact hi.hp i b hb
 ·obtain ⟨⟨b, h1⟩, h2⟩ := hi.dom i q hq
  refine ⟨?_, h2⟩
  simp only [Yk]
  split
  ·exact ⟨_, rfl⟩
  ·exact ⟨b, h1⟩
theorem le_killB (ref id : Nat) {e s : Nat} {rows rows' : List (List AV)} (hb : Yk σ.hp id = some (.cells e s rows)) (hr : rows.map (fun row => row.map (kill ref)) = rows') : Le C σ ⟨σ.tm, Zh σ.hp id (.cells e s rows')⟩ := by
 subst hr
 rintro a w ⟨μ, S, hi⟩
 refine ⟨μ, S, hi.size, hi.defers, hi.tm, fun i b hb' => ?_, fun i q hq => ?_, hi.inj, hi.frm, hi.sb⟩
 ·simp only [Yi] at hb'
  split at hb'
  ·rename_i h1
   injection hb' with hb'
   subst h1 hb'
   rcases hi.hp id _ hb with ⟨rfl, k2⟩ | ⟨g, c, k1, k2, k3, k4, k5⟩
   ·exact .inl ⟨by simp, k2⟩
   ·refine .inr ⟨g, c, k1, k2, by rw [List.length_map]; exact k3, fun row hrow => ?_, fun i row hi' q x hx => ?_⟩
    ·obtain ⟨r0, h0, rfl⟩ := List.mem_map.1 hrow
     rw [List.length_map]; exact k4 r0 h0
    ·rw [List.getElem?_map] at hi'
     cases e0 : rows[i]? with
     | none => rw [e0] at hi'; cases hi'
     | some r0 =>
      rw [e0] at hi'
      simp only [Option.map_some, Option.some.injEq] at hi'
      subst hi'
      rw [List.getElem?_map] at hx
      cases e1 : r0[q]? with
      | none => rw [e1] at hx; cases hx
      | some y =>
       rw [e1] at hx
       simp only [Option.map_some, Option.some.injEq] at hx
       subst hx
       unfold kill
       split
       ·exact .any _
       ·exact k5 i r0 e0 q y e1
  ·exact hi.hp i b hb'
 ·obtain ⟨⟨b, h1⟩, h2⟩ := hi.dom i q hq
  refine ⟨?_, h2⟩
  simp only [Yi]
  split
  ·exact ⟨_, rfl⟩
  ·exact ⟨b, h1⟩
theorem FnOK.nrmR {f : FuncId} {args : List AV} {H : List (Nat × Blk)} {X Y : AV} (h : FnOK P f args H fun r _ => r = X) (hn : Eng.nrm X = Y) : FnOK P f args H fun r _ => r = Y := by
 subst hn
 intro R0 μ w0 vs hl ha hH hR
 refine (h R0 μ w0 vs hl ha hH hR).mono ?_
 rintro e' w' ⟨v, r, H', μ', S', rfl, rfl, h4, h5⟩
 exact ⟨v, _, H', μ', S', rfl, rfl, h4.nrm, h5⟩
structure Sim (σ τ : St) : Prop where
 tm : σ.tm = τ.tm
 hp : ∀ id, Yk σ.hp id = Yk τ.hp id
theorem Sim.app {σ τ : St} (h : Sim σ τ) (p : Sp) : Sim (p.app σ) (p.app τ) := by
 refine ⟨?_, fun id => ?_⟩
 ·unfold Sp.app St.put
  cases p.dst <;> simp [h.tm]
 ·unfold Sp.app
  rw [St.put_hp, St.put_hp]
  show Yk (p.new ++ σ.hp) id = Yk (p.new ++ τ.hp) id
  rw [Za, Za, h.hp id]
theorem Sim.appAll {σ τ : St} : ∀ (ps : List Sp), Sim σ τ → Sim (Eng.appAll ps σ) (Eng.appAll ps τ) := fun ps => by
 induction ps generalizing σ τ with
 | nil => exact id
 | cons p r ih => exact fun h => ih (h.app p)
theorem Sim.agree {σ τ s : St} (h : Sim σ τ) {x : Loc} (hx : AgreeAt σ s x) : AgreeAt τ s x := by
 cases x with
 | tm t => show _ = _; rw [← h.tm]; exact hx
 | blk id => show _ = _; rw [← h.hp]; exact hx
theorem Sim.rob {σ τ : St} (h : Sim σ τ) {ops : Array Oper} {o : Oper} {p : Sp} (hr : Rob P C ops o p τ) : Rob P C ops o p σ := fun s ha hf => hr s (fun x hx => h.agree (ha x hx)) hf
theorem Sim.chain {ops : Array Oper} : ∀ (l : List Oper) (ps : List Sp) {σ τ : St}, Sim σ τ → RobChain P C ops l ps τ → RobChain P C ops l ps σ
 | [], [], _, _, _, h => h
 | _ :: l, p :: ps, _, _, h, hr => ⟨h.rob hr.1, Sim.chain l ps (h.app p) hr.2⟩
 | [], _ :: _, _, _, _, h => h
 | _ :: _, [], _, _, _, h => h
theorem Sim.fresh : ∀ (ps : List Sp) {σ τ : St}, Sim σ τ → FreshAll ps τ → FreshAll ps σ
 | [], _, _, _, h => h
 | p :: ps, _, _, h, hf => ⟨fun b hb hn => by rw [h.hp]; exact hf.1 b hb hn, Sim.fresh ps (h.app p) hf.2⟩
theorem DrawOK.sim {ops : Array Oper} {Q : Exit → Act → World → Prop} {k : Nat} {σ τ : St} (h : Sim σ τ) (hd : DrawOK P C ops Q k τ) : DrawOK P C ops Q k σ := fun a w hr =>
 hd a w (rel_same (by rw [h.tm]) (fun t => by rw [h.tm]) h.hp a w hr)
theorem SegFrom.sim {ops : Array Oper} {Q : Exit → Act → World → Prop} {k n : Nat} {acc : Skel} {l : List Oper} {σ τ : St} (h : Sim σ τ) (hs : SegFrom P C ops Q k n acc l τ) : SegFrom P C ops Q k n acc l σ := by
 obtain ⟨l1, l2, ps, h1, h2, h3, h4, h5, h6⟩ := hs
 exact ⟨l1, l2, ps, h1, h2, h.chain _ _ h3, h.fresh _ h4, h5, DrawOK.sim (h.appAll ps) h6⟩
theorem seg_store (hT : TabOK P T) {ops : Array Oper} {Q : Exit → Act → World → Prop} {k n : Nat} {acc : Skel} {o : Oper} {l : List Oper} {t : TypeId} {x y : Operand} (ho : o.op = .store t x y) (hd : o.dst = none) (hg : Yo ops σ o.guard = some true) {id size row off : Nat} (hx : evS σ x = (True, .ptr id size row off))
  {q : Prop} {v : AV} (hy : evS σ y = (q, v)) (hq : q) {p : Prop} {H : List (Nat × Blk)} (h : storeOp T σ t (.ptr id size row off) v = some (p, H)) (hp : p) {b : Blk} (hH : Yk H id = some b)
  {sk : List Loc × List Loc} (hs : ([Loc.blk id], locsG ops o.guard ++ (locsL σ [x, y] ++ [Loc.blk id])) = sk) (ha : (⟨σ.tm, Zh σ.hp id b⟩ : St) = σ') (hk : SegFrom P C ops Q k n (acc ++ [sk]) l σ') : SegFrom P C ops Q k n acc (o :: l) σ := by
 subst hs ha
 have hform : H = Zh σ.hp id b := by
  unfold storeOp at h
  split at h
  ·rename_i id' size' row' off' xs heq1 heq2
   injection heq1 with e1 e2 e3 e4
   subst e1 e2 e3 e4
   split at h
   ·split at h
    ·simp only [gL, gM] at h
     obtain ⟨_, rfl⟩ := h
     rw [Yi, if_pos rfl] at hH
     injection hH with hH
     rw [hH]
    ·cases h
   ·cases h
  ·cases h
 refine seg_robN (q := ⟨none, .any, [(id, b)], locsG ops o.guard ++ (locsL σ [x, y] ++ [Loc.blk id])⟩) (σ' := Sp.app ⟨none, .any, [(id, b)], locsG ops o.guard ++ (locsL σ [x, y] ++ [Loc.blk id])⟩ σ) ?_ (fun c hc hn => ?_) rfl rfl ?_
 ·intro s hagree _ a w K Q' hr hK
  have hg' : Yo ops s o.guard = some true := by rw [guard_agree (fun x hx => hagree x (List.mem_append_left _ hx))]; exact hg
  obtain ⟨μ, S, hi⟩ := hr
  rw [Zw hi hg']
  refine .inl ?_
  have hl : ∀ z, z ∈ locsL σ [x, y] → AgreeAt σ s z := fun z hz => hagree z (List.mem_append_right _ (List.mem_append_left _ hz))
  have hx' : evS s x = (True, .ptr id size row off) := by rw [evS_agree (fun z hz => hl z (locsL_mem (by simp) z hz))]; exact hx
  have hy' : evS s y = (q, v) := by rw [evS_agree (fun z hz => hl z (locsL_mem (by simp) z hz))]; exact hy
  have hb : Yk s.hp id = Yk σ.hp id := hagree (.blk id) (List.mem_append_right _ (List.mem_append_right _ (by simp)))
  have hst : storeOp T s t (.ptr id size row off) v = some (p, Zh s.hp id b) := by
   unfold storeOp at h ⊢
   split at h
   ·rename_i id' size' row' off' xs heq1 heq2
    injection heq1 with e1 e2 e3 e4
    subst e1 e2 e3 e4
    rw [hb]
    split at h
    ·split at h
     ·simp only [gL, gM] at h
      obtain ⟨rfl, rfl⟩ := h
      rw [Yi, if_pos rfl] at hH
      injection hH with hH
      subst hH
      rw [if_pos (by assumption)]
     ·cases h
    ·cases h
   ·cases h
  have hstep : stepOp T s o.dst o.op = some ((evS s x).1 ∧ (evS s y).1 ∧ p, ⟨s.tm, Zh s.hp id b⟩) := by
   rw [ho, hd]
   show (storeOp T s t (evS s x).2 (evS s y).2).map _ = _
   rw [hx', hy', hst]; rfl
  have hnd : (St.mk s.tm (Zh s.hp id b)).hp = Zh s.hp id b := rfl
  refine step_sound hT o hstep ⟨by rw [hx']; trivial, by rw [hy']; exact hq, hp⟩ a w K Q' ⟨μ, S, hi⟩ fun a' w' hr' => hK a' w' ?_
  show Rel C ⟨s.tm, (id, b) :: s.hp⟩ a' w'
  refine rel_same (s := ⟨s.tm, Zh s.hp id b⟩) (s' := ⟨s.tm, (id, b) :: s.hp⟩) rfl (fun t => rfl) (fun i => ?_) a' w' hr'
  show Yk (Zh s.hp id b) i = Yk ((id, b) :: s.hp) i
  rw [Yi]; rfl
 ·have hc' := List.mem_singleton.1 hc
  subst hc'
  exact absurd (List.mem_append_right _ (List.mem_append_right _ (by simp))) hn
 ·refine SegFrom.sim (τ := ⟨σ.tm, Zh σ.hp id b⟩) ⟨rfl, fun i => ?_⟩ hk
  show Yk ((id, b) :: σ.hp) i = Yk (Zh σ.hp id b) i
  rw [Yi]; rfl
end
end Go.Eng
namespace Go.Eng
section
variable {P : Program} {T : Tab} {C : Ctx} {μ : Nat → Option Nat} {S : Nat → Prop} {σ σ' : St} {a : Act} {w : World} {Ret : St → Prop} {k : List It}
def eqT (T : Tab) : List TypeId → List AV → List AV → Option Bool
 | [], [], [] => some true
 | t :: ts, .int k x :: a, .int k' y :: b => match T.und t with
  | .int _ => if k = k' then (eqT T ts a b).map fun r => x == y && r else none
  | _ => none
 | t :: ts, .bool x :: a, .bool y :: b => match T.und t with
  | .bool => (eqT T ts a b).map fun r => x == y && r
  | _ => none
 | t :: ts, .str x :: a, .str y :: b => match T.und t with
  | .str => (eqT T ts a b).map fun r => x == y && r
  | _ => none
 | _, _, _ => none
def fieldsAre : List Field → Nat → List TypeId → Bool
 | [], _, [] => true
 | f :: fs, j, t :: ts => f.name != "_" && f.offset == j && f.type == t && fieldsAre fs (j + 1) ts
 | _, _, _ => false
def eqStruct (P : Program) (t : TypeId) (tys : List TypeId) : Bool :=
 match P.underlying t with
 | some (.struct F) => !P.stoodInHeld t && !P.eqGuardType P.depth t && fieldsAre F.toList 0 tys
 | _ => false
theorem run_eqFields (hT : TabOK P T) {xs ys : Array Value} {A B : List AV} (hsx : xs.size = A.length) (hsy : ys.size = B.length) (hx : ∀ j x, A[j]? = some x → Rd μ S w (xs.getD j undef) x) (hy : ∀ j x, B[j]? = some x → Rd μ S w (ys.getD j undef) x) (d : Nat) :
  ∀ (fs : List Field) (j : Nat) (ts : List TypeId) (r : Bool), fieldsAre fs j ts = true → eqT T ts (A.drop j) (B.drop j) = some r → (Op.eqFields (d + 1) xs ys fs).run P w = .ok r w := by
 intro fs
 induction fs with
 | nil =>
  intro j ts r h he
  cases ts with
  | nil =>
   cases hA : A.drop j <;> cases hB : B.drop j <;> rw [hA, hB] at he <;> simp only [eqT, Option.some.injEq, reduceCtorEq] at he
   subst he
   simp [Op.eqFields]
  | cons t ts => simp [fieldsAre] at h
 | cons f fs ih =>
  intro j ts r h he
  cases ts with
  | nil => simp [fieldsAre] at h
  | cons t ts =>
   simp only [fieldsAre, Bool.and_eq_true, bne_iff_ne, ne_eq, beq_iff_eq] at h
   obtain ⟨⟨⟨h1, h2⟩, h3⟩, h4⟩ := h
   subst h2 h3
   cases hA : A.drop f.offset with
   | nil => rw [hA] at he; cases hB : B.drop f.offset <;> rw [hB] at he <;> simp [eqT] at he
   | cons p A' =>
    cases hB : B.drop f.offset with
    | nil => rw [hA, hB] at he; cases p <;> simp [eqT] at he
    | cons q B' =>
     have hA1 : A[f.offset]? = some p := by have := congrArg (fun l => l[0]?) hA; simpa using this
     have hB1 : B[f.offset]? = some q := by have := congrArg (fun l => l[0]?) hB; simpa using this
     have hA2 : A.drop (f.offset + 1) = A' := by rw [← List.drop_drop, hA]; rfl
     have hB2 : B.drop (f.offset + 1) = B' := by rw [← List.drop_drop, hB]; rfl
     have hAl : f.offset < A.length := (List.getElem?_eq_some_iff.1 hA1).1
     have hBl : f.offset < B.length := (List.getElem?_eq_some_iff.1 hB1).1
     have hpx : ∀ b, (T.und f.type).isA = some b → b = false → (part f.type xs f.offset).run P w = .ok (xs.getD f.offset undef) w := fun b hb hf => by
      subst hf
      simp [part, isAgg_of hT hb, hsx, hAl, Array.getD_eq_getD_getElem?]
     have hpy : ∀ b, (T.und f.type).isA = some b → b = false → (part f.type ys f.offset).run P w = .ok (ys.getD f.offset undef) w := fun b hb hf => by
      subst hf
      simp [part, isAgg_of hT hb, hsy, hBl, Array.getD_eq_getD_getElem?]
     have rx := hx _ _ hA1
     have ry := hy _ _ hB1
     have hk := hT.und f.type
     have ih' := fun r' he' => ih (f.offset + 1) ts r' h4 he'
     rw [hA2, hB2] at ih'
     rw [hA, hB] at he
     cases hu : T.und f.type <;> rw [hu] at hk <;> cases p <;> cases q <;> simp only [eqT, hu, reduceCtorEq] at he
     ·obtain ⟨r0, h0, rfl⟩ := Option.map_eq_some_iff.1 he
      have e1 := rx.inv_bool
      have e2 := ry.inv_bool
      simp only [Op.eqFields, h1, not_false_eq_true, if_true, ne_eq, Sem.run_bind, hpx false (by rw [hu]; rfl) rfl, hpy false (by rw [hu]; rfl) rfl, Result.andThen_ok, e1, e2, run_equalIn_bool' w d f.type _ _ hk]
      rename_i b1 b2
      cases hb : (b1 == b2)
      ·simp
      ·simp [ih' r0 h0]
     ·split at he
      ·rename_i hkk
       obtain ⟨r0, h0, rfl⟩ := Option.map_eq_some_iff.1 he
       have e1 := rx.inv_int
       have e2 := ry.inv_int
       subst hkk
       simp only [Op.eqFields, h1, not_false_eq_true, if_true, ne_eq, Sem.run_bind, hpx false (by rw [hu]; rfl) rfl, hpy false (by rw [hu]; rfl) rfl, Result.andThen_ok, e1, e2, run_equalIn_int w d f.type _ _ _ _ hk]
       rename_i b1 b2
       cases hb : (b1 == b2)
       ·simp
       ·simp [ih' r0 h0]
      ·cases he
     ·obtain ⟨r0, h0, rfl⟩ := Option.map_eq_some_iff.1 he
      obtain ⟨s1, e1, q1⟩ := rx.inv_str
      obtain ⟨s2, e2, q2⟩ := ry.inv_str
      subst q1 q2
      simp only [Op.eqFields, h1, not_false_eq_true, if_true, ne_eq, Sem.run_bind, hpx false (by rw [hu]; rfl) rfl, hpy false (by rw [hu]; rfl) rfl, Result.andThen_ok, e1, e2, run_equalIn_string w d f.type _ _ hk, ByteArray.toList_eq]
      cases hb : (s1.data.toList == s2.data.toList)
      ·simp
      ·simp [ih' r0 h0]
theorem sound_eqS (hT : TabOK P T) {t : TypeId} {tys : List TypeId} (hc : eqStruct P t tys = true) {ox oy : Operand} {v u : Value} {A B : List AV} {r : Bool} (h : eqT T tys A B = some r) (hv : Rd μ S w v (.agg A)) (hu : Rd μ S w u (.agg B)) {op : BinOp} {q : Bool} (hop : (op = .eql ∧ q = r) ∨ (op = .neq ∧ q = !r)) :
  (do eqGuard op t ox oy v u; binOp op t v u : Sem Value).run P w = .ok (.bool q) w := by
 obtain ⟨xs, rfl, hxl, hxr⟩ := hv.inv_agg
 obtain ⟨ys, rfl, hyl, hyr⟩ := hu.inv_agg
 unfold eqStruct at hc
 split at hc
 ·rename_i F hF
  simp only [Bool.and_eq_true, Bool.not_eq_true'] at hc
  obtain ⟨⟨h1, h2⟩, h3⟩ := hc
  have hfo : P.fieldsOf t = F := by simp [Program.fieldsOf, hF]
  have key := run_eqFields (P := P) (w := w) hT hxl hyl hxr hyr 9998 F.toList 0 tys r h3 (by simpa using h)
  have key2 : (Op.equalIn 10000 t (.agg xs) (.agg ys)).run P w = .ok r w := by
   rw [run_equalIn_struct w 9999 t xs ys (by rw [hfo]; exact hF) h1, hfo]
   exact key
  rcases hop with ⟨rfl, rfl⟩ | ⟨rfl, rfl⟩
  ·simp [run_eqGuard_agg w .eql t ox oy xs ys h2, run_eql_struct w t xs ys, key2]
  ·simp [run_eqGuard_agg w .neq t ox oy xs ys h2, run_neq_struct w t xs ys, key2]
 ·cases hc
theorem trip_eqS (hT : TabOK P T) {o : Oper} {op : BinOp} {t ty : TypeId} {x y : Operand} (ho : o.op = .binOp op t x y ty) {tys : List TypeId} (hc : eqStruct P t tys = true) {A B : List AV} {r : Bool} (hx : evS σ x = (True, .agg A)) (hy : evS σ y = (True, .agg B)) (h : eqT T tys A B = some r)
  {q : Bool} (hop : (op = .eql ∧ q = r) ∨ (op = .neq ∧ q = !r)) : Trip P C o σ (σ.put o.dst (.bool q)) := by
 refine trip_value fun μ S a w hi => ?_
 have hv := hi.evS x (by rw [hx]; trivial)
 have hu := hi.evS y (by rw [hy]; trivial)
 rw [hx] at hv; rw [hy] at hu
 refine ⟨.bool q, ?_, .pure (.bool _)⟩
 have := sound_eqS (ox := x) (oy := y) hT hc h hv hu hop
 simp only [execOp, ho]
 have e : (do eqGuard op t x y (a.eval x) (a.eval y); binOp op t (a.eval x) (a.eval y) : Sem Value).run P w = .ok (.bool q) w := this
 simp only [Sem.run_bind] at e ⊢
 revert e
 generalize (eqGuard op t x y (a.eval x) (a.eval y)).run P w = z
 intro e
 rw [e]; rfl
attribute [go_sem] eqT
end
end Go.Eng
namespace Go.Eng
section
variable {P : Program} {T : Tab} {C : Ctx} {μ : Nat → Option Nat} {S : Nat → Prop} {σ σ' : St} {a : Act} {w w' : World} {Ret : St → Prop} {k : List It}
end
end Go.Eng
