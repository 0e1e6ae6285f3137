/- Texts of this claim, part 9: Tab, Mod, EngQ, Bas. No condition. -/
import Derived.Test.YtfiiingppbkpkaaGreatXF5
import Derived.Test.YtfiiingppbkpkaaGreatProg
import Derived.KernelRfl
import Derived.Test.YtfiiingppbkpkaaGreatXF8
import Derived.Test.YtfiiingppbkpkaaGreatXF6
import Derived.ReadAgain
import Derived.ChangeSame
import Derived.ChangeBears
import Derived.OpenShut
import Derived.RowKit
import Derived.WalkKit
import Derived.ProofKit
import Derived.Test.YtfiiingppbkpkaaGreatRows
import Derived.JoinedCond
set_option maxRecDepth 10000
set_option maxHeartbeats 4000000
set_option linter.unusedSimpArgs false
set_option linter.unusedVariables false
namespace Go.Eng
def tUnd : TypeId → KD
 | 2 => (.int .i64)
 | 3 => (.int .i64)
 | 4 => .bool
 | 5 => (.int .u8)
 | 6 => (.int .u8)
 | 7 => .struct
 | 8 => .struct
 | 9 => .str
 | 10 => .str
 | 11 => .str
 | 12 => (.int .u64)
 | 13 => .struct
 | 14 => .struct
 | 15 => (.ptr 211)
 | 16 => (.ptr 214)
 | 17 => (.ptr 224)
 | 18 => .struct
 | 19 => .struct
 | 21 => (.int .i32)
 | 22 => (.sl 3)
 | 23 => (.sl 78)
 | 24 => (.sl 5)
 | 25 => .struct
 | 26 => .struct
 | 27 => (.sl 56)
 | 28 => (.sl 60)
 | 29 => (.sl 88)
 | 30 => .struct
 | 31 => .struct
 | 32 => (.sl 110)
 | 33 => .struct
 | 34 => .struct
 | 38 => (.int .i64)
 | 43 => (.sl 71)
 | 51 => (.map 3 60)
 | 52 => (.map 3 60)
 | 54 => (.map 3 4)
 | 55 => .struct
 | 56 => .struct
 | 58 => (.sl 135)
 | 59 => .struct
 | 60 => .struct
 | 70 => .struct
 | 71 => .struct
 | 77 => .struct
 | 78 => .struct
 | 79 => .struct
 | 80 => .struct
 | 87 => .struct
 | 88 => .struct
 | 92 => (.sl 26)
 | 95 => .struct
 | 96 => .struct
 | 103 => (.ptr 56)
 | 107 => (.sl 113)
 | 108 => (.sl 153)
 | 109 => .struct
 | 110 => .struct
 | 112 => .struct
 | 113 => .struct
 | 117 => (.ptr 119)
 | 118 => .struct
 | 119 => .struct
 | 134 => .struct
 | 135 => .struct
 | 136 => (.ptr 139)
 | 137 => (.map 3 3)
 | 138 => .struct
 | 139 => .struct
 | 152 => .struct
 | 153 => .struct
 | 154 => (.ptr 156)
 | 155 => .struct
 | 156 => .struct
 | 157 => (.sl 9)
 | 178 => (.ptr 26)
 | 200 => (.int .u64)
 | 210 => .struct
 | 211 => .struct
 | 216 => (.int .u32)
 | 217 => (.int .u8)
 | 218 => (.int .u8)
 | 220 => (.ptr 5)
 | 221 => (.int .i32)
 | 222 => (.int .i32)
 | _ => .other
def tSiz : TypeId → Nat
 | 2 => 1
 | 3 => 1
 | 4 => 1
 | 5 => 1
 | 6 => 1
 | 7 => 4
 | 8 => 4
 | 9 => 1
 | 10 => 1
 | 11 => 1
 | 12 => 1
 | 13 => 2
 | 14 => 2
 | 15 => 1
 | 16 => 1
 | 17 => 1
 | 18 => 1
 | 19 => 1
 | 21 => 1
 | 22 => 1
 | 23 => 1
 | 24 => 1
 | 25 => 7
 | 26 => 7
 | 27 => 1
 | 28 => 1
 | 29 => 1
 | 30 => 3
 | 31 => 3
 | 32 => 1
 | 33 => 4
 | 34 => 4
 | 38 => 1
 | 43 => 1
 | 51 => 1
 | 52 => 1
 | 54 => 1
 | 55 => 9
 | 56 => 9
 | 58 => 1
 | 59 => 5
 | 60 => 5
 | 70 => 2
 | 71 => 2
 | 77 => 6
 | 78 => 6
 | 79 => 4
 | 80 => 4
 | 87 => 8
 | 88 => 8
 | 92 => 1
 | 95 => 4
 | 96 => 4
 | 103 => 1
 | 107 => 1
 | 108 => 1
 | 109 => 10
 | 110 => 10
 | 112 => 8
 | 113 => 8
 | 117 => 1
 | 118 => 9
 | 119 => 9
 | 134 => 2
 | 135 => 2
 | 136 => 1
 | 137 => 1
 | 138 => 6
 | 139 => 6
 | 152 => 2
 | 153 => 2
 | 154 => 1
 | 155 => 13
 | 156 => 13
 | 157 => 1
 | 178 => 1
 | 200 => 1
 | 210 => 4
 | 211 => 4
 | 216 => 1
 | 217 => 1
 | 218 => 1
 | 220 => 1
 | 221 => 1
 | 222 => 1
 | _ => 0
def tByt : TypeId → Nat
 | 2 => 8
 | 3 => 8
 | 4 => 1
 | 5 => 1
 | 6 => 1
 | 7 => 24
 | 8 => 24
 | 9 => 16
 | 10 => 16
 | 11 => 16
 | 12 => 8
 | 13 => 24
 | 14 => 24
 | 15 => 8
 | 16 => 8
 | 17 => 8
 | 18 => 8
 | 19 => 8
 | 21 => 4
 | 22 => 24
 | 23 => 24
 | 24 => 24
 | 25 => 88
 | 26 => 88
 | 27 => 24
 | 28 => 24
 | 29 => 24
 | 30 => 56
 | 31 => 56
 | 32 => 24
 | 33 => 80
 | 34 => 80
 | 38 => 8
 | 43 => 24
 | 51 => 8
 | 52 => 8
 | 54 => 8
 | 55 => 104
 | 56 => 104
 | 58 => 24
 | 59 => 72
 | 60 => 72
 | 70 => 16
 | 71 => 16
 | 77 => 80
 | 78 => 80
 | 79 => 48
 | 80 => 48
 | 87 => 96
 | 88 => 96
 | 92 => 24
 | 95 => 64
 | 96 => 64
 | 103 => 8
 | 107 => 24
 | 108 => 24
 | 109 => 144
 | 110 => 144
 | 112 => 96
 | 113 => 96
 | 117 => 8
 | 118 => 120
 | 119 => 120
 | 134 => 24
 | 135 => 24
 | 136 => 8
 | 137 => 8
 | 138 => 64
 | 139 => 64
 | 152 => 24
 | 153 => 24
 | 154 => 8
 | 155 => 200
 | 156 => 200
 | 157 => 24
 | 178 => 8
 | 200 => 8
 | 210 => 40
 | 211 => 40
 | 216 => 4
 | 217 => 1
 | 218 => 1
 | 220 => 8
 | 221 => 4
 | 222 => 4
 | _ => 0
def tZer : TypeId → List AV
 | 2 => [.int .i64 0]
 | 3 => [.int .i64 0]
 | 4 => [.bool false]
 | 5 => [.int .u8 0]
 | 6 => [.int .u8 0]
 | 7 => [.int .i64 0, .int .i64 0, .bool false, .int .u8 0]
 | 8 => [.int .i64 0, .int .i64 0, .bool false, .int .u8 0]
 | 9 => [.str []]
 | 10 => [.str []]
 | 11 => [.str []]
 | 12 => [.int .u64 0]
 | 13 => [.str [], .int .u64 0]
 | 14 => [.str [], .int .u64 0]
 | 15 => [.nilp]
 | 16 => [.nilp]
 | 17 => [.nilp]
 | 18 => [.nilp]
 | 19 => [.nilp]
 | 21 => [.int .i32 0]
 | 22 => [.nils]
 | 23 => [.nils]
 | 24 => [.nils]
 | 25 => [.int .i64 0, .int .i64 0, .int .i64 0, .str [], .int .i64 0, .str [], .nils]
 | 26 => [.int .i64 0, .int .i64 0, .int .i64 0, .str [], .int .i64 0, .str [], .nils]
 | 27 => [.nils]
 | 28 => [.nils]
 | 29 => [.nils]
 | 30 => [.nils, .int .i64 0, .nils]
 | 31 => [.nils, .int .i64 0, .nils]
 | 32 => [.nils]
 | 33 => [.nils, .int .i64 0, .nils, .nils]
 | 34 => [.nils, .int .i64 0, .nils, .nils]
 | 38 => [.int .i64 0]
 | 43 => [.nils]
 | 51 => [.nilm]
 | 52 => [.nilm]
 | 54 => [.nilm]
 | 55 => [.int .i64 0, .int .i64 0, .int .i64 0, .str [], .int .i64 0, .str [], .nils, .int .i64 0, .int .i64 0]
 | 56 => [.int .i64 0, .int .i64 0, .int .i64 0, .str [], .int .i64 0, .str [], .nils, .int .i64 0, .int .i64 0]
 | 58 => [.nils]
 | 59 => [.int .i64 0, .bool false, .nils, .nils, .int .i64 0]
 | 60 => [.int .i64 0, .bool false, .nils, .nils, .int .i64 0]
 | 70 => [.int .i64 0, .int .i64 0]
 | 71 => [.int .i64 0, .int .i64 0]
 | 77 => [.int .i64 0, .int .i64 0, .int .i64 0, .str [], .str [], .nils]
 | 78 => [.int .i64 0, .int .i64 0, .int .i64 0, .str [], .str [], .nils]
 | 79 => [.int .i64 0, .int .i64 0, .int .i64 0, .nils]
 | 80 => [.int .i64 0, .int .i64 0, .int .i64 0, .nils]
 | 87 => [.int .i64 0, .int .i64 0, .int .i64 0, .int .i64 0, .str [], .int .i64 0, .str [], .nils]
 | 88 => [.int .i64 0, .int .i64 0, .int .i64 0, .int .i64 0, .str [], .int .i64 0, .str [], .nils]
 | 92 => [.nils]
 | 95 => [.nils, .nils, .nilm, .int .i64 0]
 | 96 => [.nils, .nils, .nilm, .int .i64 0]
 | 103 => [.nilp]
 | 107 => [.nils]
 | 108 => [.nils]
 | 109 => [.int .i64 0, .bool false, .int .i64 0, .nils, .nils, .nils, .nils, .int .i64 0, .int .i64 0, .int .i64 0]
 | 110 => [.int .i64 0, .bool false, .int .i64 0, .nils, .nils, .nils, .nils, .int .i64 0, .int .i64 0, .int .i64 0]
 | 112 => [.int .i64 0, .bool false, .nils, .nils, .int .i64 0, .bool false, .int .i64 0, .int .i64 0]
 | 113 => [.int .i64 0, .bool false, .nils, .nils, .int .i64 0, .bool false, .int .i64 0, .int .i64 0]
 | 117 => [.nilp]
 | 118 => [.nils, .int .i64 0, .int .i64 0, .int .i64 0, .str [], .int .i64 0, .str [], .nils, .int .i64 0]
 | 119 => [.nils, .int .i64 0, .int .i64 0, .int .i64 0, .str [], .int .i64 0, .str [], .nils, .int .i64 0]
 | 134 => [.str [], .int .i64 0]
 | 135 => [.str [], .int .i64 0]
 | 136 => [.nilp]
 | 137 => [.nilm]
 | 138 => [.nils, .int .i64 0, .int .i64 0, .nilm, .nilm, .nilm]
 | 139 => [.nils, .int .i64 0, .int .i64 0, .nilm, .nilm, .nilm]
 | 152 => [.str [], .int .i64 0]
 | 153 => [.str [], .int .i64 0]
 | 154 => [.nilp]
 | 155 => [.int .i64 0, .bool false, .int .i64 0, .nils, .nils, .nils, .nils, .int .i64 0, .int .i64 0, .int .i64 0, .nils, .int .i64 0, .nils]
 | 156 => [.int .i64 0, .bool false, .int .i64 0, .nils, .nils, .nils, .nils, .int .i64 0, .int .i64 0, .int .i64 0, .nils, .int .i64 0, .nils]
 | 157 => [.nils]
 | 178 => [.nilp]
 | 200 => [.int .u64 0]
 | 210 => [.nilp, .nilp, .nilp, .str []]
 | 211 => [.nilp, .nilp, .nilp, .str []]
 | 216 => [.int .u32 0]
 | 217 => [.int .u8 0]
 | 218 => [.int .u8 0]
 | 220 => [.nilp]
 | 221 => [.int .i32 0]
 | 222 => [.int .i32 0]
 | _ => []
def tFl : TypeId → List (TypeId × Nat)
 | 7 => [(2, 0), (3, 1), (4, 2), (6, 3)]
 | 8 => [(2, 0), (3, 1), (4, 2), (6, 3)]
 | 13 => [(9, 0), (12, 1)]
 | 14 => [(9, 0), (12, 1)]
 | 18 => [(17, 0)]
 | 19 => [(17, 0)]
 | 25 => [(3, 0), (3, 1), (3, 2), (9, 3), (3, 4), (9, 5), (24, 6)]
 | 26 => [(3, 0), (3, 1), (3, 2), (9, 3), (3, 4), (9, 5), (24, 6)]
 | 30 => [(28, 0), (3, 1), (29, 2)]
 | 31 => [(28, 0), (3, 1), (29, 2)]
 | 33 => [(31, 0), (32, 3)]
 | 34 => [(31, 0), (32, 3)]
 | 55 => [(26, 0), (3, 7), (3, 8)]
 | 56 => [(26, 0), (3, 7), (3, 8)]
 | 59 => [(3, 0), (4, 1), (24, 2), (58, 3), (3, 4)]
 | 60 => [(3, 0), (4, 1), (24, 2), (58, 3), (3, 4)]
 | 70 => [(38, 0), (3, 1)]
 | 71 => [(38, 0), (3, 1)]
 | 77 => [(3, 0), (3, 1), (3, 2), (9, 3), (9, 4), (24, 5)]
 | 78 => [(3, 0), (3, 1), (3, 2), (9, 3), (9, 4), (24, 5)]
 | 79 => [(38, 0), (3, 1), (3, 2), (24, 3)]
 | 80 => [(38, 0), (3, 1), (3, 2), (24, 3)]
 | 87 => [(3, 0), (26, 1)]
 | 88 => [(3, 0), (26, 1)]
 | 95 => [(43, 0), (92, 1), (52, 2), (3, 3)]
 | 96 => [(43, 0), (92, 1), (52, 2), (3, 3)]
 | 109 => [(3, 0), (4, 1), (3, 2), (107, 3), (27, 4), (27, 5), (108, 6), (3, 7), (3, 8), (3, 9)]
 | 110 => [(3, 0), (4, 1), (3, 2), (107, 3), (27, 4), (27, 5), (108, 6), (3, 7), (3, 8), (3, 9)]
 | 112 => [(60, 0), (4, 5), (3, 6), (3, 7)]
 | 113 => [(60, 0), (4, 5), (3, 6), (3, 7)]
 | 118 => [(28, 0), (26, 1), (3, 8)]
 | 119 => [(28, 0), (26, 1), (3, 8)]
 | 134 => [(9, 0), (3, 1)]
 | 135 => [(9, 0), (3, 1)]
 | 138 => [(28, 0), (3, 1), (3, 2), (137, 3), (54, 4), (54, 5)]
 | 139 => [(28, 0), (3, 1), (3, 2), (137, 3), (54, 4), (54, 5)]
 | 152 => [(9, 0), (3, 1)]
 | 153 => [(9, 0), (3, 1)]
 | 155 => [(110, 0), (31, 10)]
 | 156 => [(110, 0), (31, 10)]
 | 210 => [(17, 0), (17, 1), (17, 2), (9, 3)]
 | 211 => [(17, 0), (17, 1), (17, 2), (9, 3)]
 | _ => []
def tFld (t : TypeId) (j : Nat) : Option (TypeId × Nat) := (tFl t)[j]?
def tab : Tab := ⟨tUnd, tSiz, tByt, tZer, tFld⟩
@[go_sem] theorem tu2 : tab.und 2 = (.int .i64) := rfl
@[go_sem] theorem ts2 : tab.siz 2 = 1 := rfl
@[go_sem] theorem tz2 : tab.zer 2 = [.int .i64 0] := rfl
@[go_sem] theorem tu3 : tab.und 3 = (.int .i64) := rfl
@[go_sem] theorem ts3 : tab.siz 3 = 1 := rfl
@[go_sem] theorem tb3 : tab.byt 3 = 8 := rfl
@[go_sem] theorem tz3 : tab.zer 3 = [.int .i64 0] := rfl
@[go_sem] theorem tu4 : tab.und 4 = .bool := rfl
@[go_sem] theorem ts4 : tab.siz 4 = 1 := rfl
@[go_sem] theorem tz4 : tab.zer 4 = [.bool false] := rfl
@[go_sem] theorem tu5 : tab.und 5 = (.int .u8) := rfl
@[go_sem] theorem ts5 : tab.siz 5 = 1 := rfl
@[go_sem] theorem tb5 : tab.byt 5 = 1 := rfl
@[go_sem] theorem tz5 : tab.zer 5 = [.int .u8 0] := rfl
@[go_sem] theorem tu6 : tab.und 6 = (.int .u8) := rfl
@[go_sem] theorem ts6 : tab.siz 6 = 1 := rfl
@[go_sem] theorem tz6 : tab.zer 6 = [.int .u8 0] := rfl
@[go_sem] theorem tu7 : tab.und 7 = .struct := rfl
@[go_sem] theorem ts7 : tab.siz 7 = 4 := rfl
@[go_sem] theorem tz7 : tab.zer 7 = [.int .i64 0, .int .i64 0, .bool false, .int .u8 0] := rfl
@[go_sem] theorem tab_fld_7_0 : tab.fld 7 0 = some (2, 0) := rfl
@[go_sem] theorem tab_fld_7_1 : tab.fld 7 1 = some (3, 1) := rfl
@[go_sem] theorem tab_fld_7_2 : tab.fld 7 2 = some (4, 2) := rfl
@[go_sem] theorem tab_fld_7_3 : tab.fld 7 3 = some (6, 3) := rfl
@[go_sem] theorem tu8 : tab.und 8 = .struct := rfl
@[go_sem] theorem ts8 : tab.siz 8 = 4 := rfl
@[go_sem] theorem tz8 : tab.zer 8 = [.int .i64 0, .int .i64 0, .bool false, .int .u8 0] := rfl
@[go_sem] theorem tab_fld_8_0 : tab.fld 8 0 = some (2, 0) := rfl
@[go_sem] theorem tab_fld_8_1 : tab.fld 8 1 = some (3, 1) := rfl
@[go_sem] theorem tab_fld_8_2 : tab.fld 8 2 = some (4, 2) := rfl
@[go_sem] theorem tab_fld_8_3 : tab.fld 8 3 = some (6, 3) := rfl
@[go_sem] theorem tu9 : tab.und 9 = .str := rfl
@[go_sem] theorem ts9 : tab.siz 9 = 1 := rfl
@[go_sem] theorem tb9 : tab.byt 9 = 16 := rfl
@[go_sem] theorem tz9 : tab.zer 9 = [.str []] := rfl
@[go_sem] theorem tu22 : tab.und 22 = (.sl 3) := rfl
@[go_sem] theorem ts22 : tab.siz 22 = 1 := rfl
@[go_sem] theorem tz22 : tab.zer 22 = [.nils] := rfl
@[go_sem] theorem tu23 : tab.und 23 = (.sl 78) := rfl
@[go_sem] theorem ts23 : tab.siz 23 = 1 := rfl
@[go_sem] theorem tz23 : tab.zer 23 = [.nils] := rfl
@[go_sem] theorem tu24 : tab.und 24 = (.sl 5) := rfl
@[go_sem] theorem ts24 : tab.siz 24 = 1 := rfl
@[go_sem] theorem tz24 : tab.zer 24 = [.nils] := rfl
@[go_sem] theorem tu26 : tab.und 26 = .struct := rfl
@[go_sem] theorem ts26 : tab.siz 26 = 7 := rfl
@[go_sem] theorem tb26 : tab.byt 26 = 88 := rfl
@[go_sem] theorem tz26 : tab.zer 26 = [.int .i64 0, .int .i64 0, .int .i64 0, .str [], .int .i64 0, .str [], .nils] := rfl
@[go_sem] theorem tab_fld_26_0 : tab.fld 26 0 = some (3, 0) := rfl
@[go_sem] theorem tab_fld_26_1 : tab.fld 26 1 = some (3, 1) := rfl
@[go_sem] theorem tab_fld_26_2 : tab.fld 26 2 = some (3, 2) := rfl
@[go_sem] theorem tab_fld_26_3 : tab.fld 26 3 = some (9, 3) := rfl
@[go_sem] theorem tab_fld_26_4 : tab.fld 26 4 = some (3, 4) := rfl
@[go_sem] theorem tab_fld_26_5 : tab.fld 26 5 = some (9, 5) := rfl
@[go_sem] theorem tab_fld_26_6 : tab.fld 26 6 = some (24, 6) := rfl
@[go_sem] theorem tu27 : tab.und 27 = (.sl 56) := rfl
@[go_sem] theorem ts27 : tab.siz 27 = 1 := rfl
@[go_sem] theorem tz27 : tab.zer 27 = [.nils] := rfl
@[go_sem] theorem tu28 : tab.und 28 = (.sl 60) := rfl
@[go_sem] theorem ts28 : tab.siz 28 = 1 := rfl
@[go_sem] theorem tz28 : tab.zer 28 = [.nils] := rfl
@[go_sem] theorem tu29 : tab.und 29 = (.sl 88) := rfl
@[go_sem] theorem ts29 : tab.siz 29 = 1 := rfl
@[go_sem] theorem tz29 : tab.zer 29 = [.nils] := rfl
@[go_sem] theorem tu31 : tab.und 31 = .struct := rfl
@[go_sem] theorem ts31 : tab.siz 31 = 3 := rfl
@[go_sem] theorem tz31 : tab.zer 31 = [.nils, .int .i64 0, .nils] := rfl
@[go_sem] theorem tab_fld_31_0 : tab.fld 31 0 = some (28, 0) := rfl
@[go_sem] theorem tab_fld_31_1 : tab.fld 31 1 = some (3, 1) := rfl
@[go_sem] theorem tab_fld_31_2 : tab.fld 31 2 = some (29, 2) := rfl
@[go_sem] theorem tu32 : tab.und 32 = (.sl 110) := rfl
@[go_sem] theorem ts32 : tab.siz 32 = 1 := rfl
@[go_sem] theorem tz32 : tab.zer 32 = [.nils] := rfl
@[go_sem] theorem tu34 : tab.und 34 = .struct := rfl
@[go_sem] theorem ts34 : tab.siz 34 = 4 := rfl
@[go_sem] theorem tz34 : tab.zer 34 = [.nils, .int .i64 0, .nils, .nils] := rfl
@[go_sem] theorem tab_fld_34_0 : tab.fld 34 0 = some (31, 0) := rfl
@[go_sem] theorem tab_fld_34_1 : tab.fld 34 1 = some (32, 3) := rfl
@[go_sem] theorem tu38 : tab.und 38 = (.int .i64) := rfl
@[go_sem] theorem ts38 : tab.siz 38 = 1 := rfl
@[go_sem] theorem tz38 : tab.zer 38 = [.int .i64 0] := rfl
@[go_sem] theorem tu43 : tab.und 43 = (.sl 71) := rfl
@[go_sem] theorem ts43 : tab.siz 43 = 1 := rfl
@[go_sem] theorem tz43 : tab.zer 43 = [.nils] := rfl
@[go_sem] theorem tu52 : tab.und 52 = (.map 3 60) := rfl
@[go_sem] theorem ts52 : tab.siz 52 = 1 := rfl
@[go_sem] theorem tz52 : tab.zer 52 = [.nilm] := rfl
@[go_sem] theorem tu54 : tab.und 54 = (.map 3 4) := rfl
@[go_sem] theorem ts54 : tab.siz 54 = 1 := rfl
@[go_sem] theorem tz54 : tab.zer 54 = [.nilm] := rfl
@[go_sem] theorem tu56 : tab.und 56 = .struct := rfl
@[go_sem] theorem ts56 : tab.siz 56 = 9 := rfl
@[go_sem] theorem tb56 : tab.byt 56 = 104 := rfl
@[go_sem] theorem tz56 : tab.zer 56 = [.int .i64 0, .int .i64 0, .int .i64 0, .str [], .int .i64 0, .str [], .nils, .int .i64 0, .int .i64 0] := rfl
@[go_sem] theorem tab_fld_56_0 : tab.fld 56 0 = some (26, 0) := rfl
@[go_sem] theorem tab_fld_56_1 : tab.fld 56 1 = some (3, 7) := rfl
@[go_sem] theorem tab_fld_56_2 : tab.fld 56 2 = some (3, 8) := rfl
@[go_sem] theorem tu58 : tab.und 58 = (.sl 135) := rfl
@[go_sem] theorem ts58 : tab.siz 58 = 1 := rfl
@[go_sem] theorem tz58 : tab.zer 58 = [.nils] := rfl
@[go_sem] theorem tu60 : tab.und 60 = .struct := rfl
@[go_sem] theorem ts60 : tab.siz 60 = 5 := rfl
@[go_sem] theorem tb60 : tab.byt 60 = 72 := rfl
@[go_sem] theorem tz60 : tab.zer 60 = [.int .i64 0, .bool false, .nils, .nils, .int .i64 0] := rfl
@[go_sem] theorem tab_fld_60_0 : tab.fld 60 0 = some (3, 0) := rfl
@[go_sem] theorem tab_fld_60_1 : tab.fld 60 1 = some (4, 1) := rfl
@[go_sem] theorem tab_fld_60_2 : tab.fld 60 2 = some (24, 2) := rfl
@[go_sem] theorem tab_fld_60_3 : tab.fld 60 3 = some (58, 3) := rfl
@[go_sem] theorem tab_fld_60_4 : tab.fld 60 4 = some (3, 4) := rfl
@[go_sem] theorem tu71 : tab.und 71 = .struct := rfl
@[go_sem] theorem ts71 : tab.siz 71 = 2 := rfl
@[go_sem] theorem tb71 : tab.byt 71 = 16 := rfl
@[go_sem] theorem tz71 : tab.zer 71 = [.int .i64 0, .int .i64 0] := rfl
@[go_sem] theorem tab_fld_71_0 : tab.fld 71 0 = some (38, 0) := rfl
@[go_sem] theorem tab_fld_71_1 : tab.fld 71 1 = some (3, 1) := rfl
@[go_sem] theorem tu78 : tab.und 78 = .struct := rfl
@[go_sem] theorem ts78 : tab.siz 78 = 6 := rfl
@[go_sem] theorem tb78 : tab.byt 78 = 80 := rfl
@[go_sem] theorem tz78 : tab.zer 78 = [.int .i64 0, .int .i64 0, .int .i64 0, .str [], .str [], .nils] := rfl
@[go_sem] theorem tab_fld_78_0 : tab.fld 78 0 = some (3, 0) := rfl
@[go_sem] theorem tab_fld_78_1 : tab.fld 78 1 = some (3, 1) := rfl
@[go_sem] theorem tab_fld_78_2 : tab.fld 78 2 = some (3, 2) := rfl
@[go_sem] theorem tab_fld_78_3 : tab.fld 78 3 = some (9, 3) := rfl
@[go_sem] theorem tab_fld_78_4 : tab.fld 78 4 = some (9, 4) := rfl
@[go_sem] theorem tab_fld_78_5 : tab.fld 78 5 = some (24, 5) := rfl
@[go_sem] theorem tu80 : tab.und 80 = .struct := rfl
@[go_sem] theorem ts80 : tab.siz 80 = 4 := rfl
@[go_sem] theorem tz80 : tab.zer 80 = [.int .i64 0, .int .i64 0, .int .i64 0, .nils] := rfl
@[go_sem] theorem tab_fld_80_0 : tab.fld 80 0 = some (38, 0) := rfl
@[go_sem] theorem tab_fld_80_1 : tab.fld 80 1 = some (3, 1) := rfl
@[go_sem] theorem tab_fld_80_2 : tab.fld 80 2 = some (3, 2) := rfl
@[go_sem] theorem tab_fld_80_3 : tab.fld 80 3 = some (24, 3) := rfl
@[go_sem] theorem tu88 : tab.und 88 = .struct := rfl
@[go_sem] theorem ts88 : tab.siz 88 = 8 := rfl
@[go_sem] theorem tb88 : tab.byt 88 = 96 := rfl
@[go_sem] theorem tz88 : tab.zer 88 = [.int .i64 0, .int .i64 0, .int .i64 0, .int .i64 0, .str [], .int .i64 0, .str [], .nils] := rfl
@[go_sem] theorem tab_fld_88_0 : tab.fld 88 0 = some (3, 0) := rfl
@[go_sem] theorem tab_fld_88_1 : tab.fld 88 1 = some (26, 1) := rfl
@[go_sem] theorem tu92 : tab.und 92 = (.sl 26) := rfl
@[go_sem] theorem ts92 : tab.siz 92 = 1 := rfl
@[go_sem] theorem tz92 : tab.zer 92 = [.nils] := rfl
@[go_sem] theorem tu96 : tab.und 96 = .struct := rfl
@[go_sem] theorem ts96 : tab.siz 96 = 4 := rfl
@[go_sem] theorem tz96 : tab.zer 96 = [.nils, .nils, .nilm, .int .i64 0] := rfl
@[go_sem] theorem tab_fld_96_0 : tab.fld 96 0 = some (43, 0) := rfl
@[go_sem] theorem tab_fld_96_1 : tab.fld 96 1 = some (92, 1) := rfl
@[go_sem] theorem tab_fld_96_2 : tab.fld 96 2 = some (52, 2) := rfl
@[go_sem] theorem tab_fld_96_3 : tab.fld 96 3 = some (3, 3) := rfl
@[go_sem] theorem tu103 : tab.und 103 = (.ptr 56) := rfl
@[go_sem] theorem ts103 : tab.siz 103 = 1 := rfl
@[go_sem] theorem tz103 : tab.zer 103 = [.nilp] := rfl
@[go_sem] theorem tu107 : tab.und 107 = (.sl 113) := rfl
@[go_sem] theorem ts107 : tab.siz 107 = 1 := rfl
@[go_sem] theorem tz107 : tab.zer 107 = [.nils] := rfl
@[go_sem] theorem tu108 : tab.und 108 = (.sl 153) := rfl
@[go_sem] theorem ts108 : tab.siz 108 = 1 := rfl
@[go_sem] theorem tz108 : tab.zer 108 = [.nils] := rfl
@[go_sem] theorem tu110 : tab.und 110 = .struct := rfl
@[go_sem] theorem ts110 : tab.siz 110 = 10 := rfl
@[go_sem] theorem tb110 : tab.byt 110 = 144 := rfl
@[go_sem] theorem tz110 : tab.zer 110 = [.int .i64 0, .bool false, .int .i64 0, .nils, .nils, .nils, .nils, .int .i64 0, .int .i64 0, .int .i64 0] := rfl
@[go_sem] theorem tab_fld_110_0 : tab.fld 110 0 = some (3, 0) := rfl
@[go_sem] theorem tab_fld_110_1 : tab.fld 110 1 = some (4, 1) := rfl
@[go_sem] theorem tab_fld_110_2 : tab.fld 110 2 = some (3, 2) := rfl
@[go_sem] theorem tab_fld_110_3 : tab.fld 110 3 = some (107, 3) := rfl
@[go_sem] theorem tab_fld_110_4 : tab.fld 110 4 = some (27, 4) := rfl
@[go_sem] theorem tab_fld_110_5 : tab.fld 110 5 = some (27, 5) := rfl
@[go_sem] theorem tab_fld_110_6 : tab.fld 110 6 = some (108, 6) := rfl
@[go_sem] theorem tab_fld_110_7 : tab.fld 110 7 = some (3, 7) := rfl
@[go_sem] theorem tab_fld_110_8 : tab.fld 110 8 = some (3, 8) := rfl
@[go_sem] theorem tab_fld_110_9 : tab.fld 110 9 = some (3, 9) := rfl
@[go_sem] theorem tu113 : tab.und 113 = .struct := rfl
@[go_sem] theorem ts113 : tab.siz 113 = 8 := rfl
@[go_sem] theorem tb113 : tab.byt 113 = 96 := rfl
@[go_sem] theorem tz113 : tab.zer 113 = [.int .i64 0, .bool false, .nils, .nils, .int .i64 0, .bool false, .int .i64 0, .int .i64 0] := rfl
@[go_sem] theorem tab_fld_113_0 : tab.fld 113 0 = some (60, 0) := rfl
@[go_sem] theorem tab_fld_113_1 : tab.fld 113 1 = some (4, 5) := rfl
@[go_sem] theorem tab_fld_113_2 : tab.fld 113 2 = some (3, 6) := rfl
@[go_sem] theorem tab_fld_113_3 : tab.fld 113 3 = some (3, 7) := rfl
@[go_sem] theorem tu117 : tab.und 117 = (.ptr 119) := rfl
@[go_sem] theorem ts117 : tab.siz 117 = 1 := rfl
@[go_sem] theorem tz117 : tab.zer 117 = [.nilp] := rfl
@[go_sem] theorem tu119 : tab.und 119 = .struct := rfl
@[go_sem] theorem ts119 : tab.siz 119 = 9 := rfl
@[go_sem] theorem tz119 : tab.zer 119 = [.nils, .int .i64 0, .int .i64 0, .int .i64 0, .str [], .int .i64 0, .str [], .nils, .int .i64 0] := rfl
@[go_sem] theorem tab_fld_119_0 : tab.fld 119 0 = some (28, 0) := rfl
@[go_sem] theorem tab_fld_119_1 : tab.fld 119 1 = some (26, 1) := rfl
@[go_sem] theorem tab_fld_119_2 : tab.fld 119 2 = some (3, 8) := rfl
@[go_sem] theorem tu135 : tab.und 135 = .struct := rfl
@[go_sem] theorem ts135 : tab.siz 135 = 2 := rfl
@[go_sem] theorem tb135 : tab.byt 135 = 24 := rfl
@[go_sem] theorem tz135 : tab.zer 135 = [.str [], .int .i64 0] := rfl
@[go_sem] theorem tab_fld_135_0 : tab.fld 135 0 = some (9, 0) := rfl
@[go_sem] theorem tab_fld_135_1 : tab.fld 135 1 = some (3, 1) := rfl
@[go_sem] theorem tu136 : tab.und 136 = (.ptr 139) := rfl
@[go_sem] theorem ts136 : tab.siz 136 = 1 := rfl
@[go_sem] theorem tz136 : tab.zer 136 = [.nilp] := rfl
@[go_sem] theorem tu137 : tab.und 137 = (.map 3 3) := rfl
@[go_sem] theorem ts137 : tab.siz 137 = 1 := rfl
@[go_sem] theorem tz137 : tab.zer 137 = [.nilm] := rfl
@[go_sem] theorem tu139 : tab.und 139 = .struct := rfl
@[go_sem] theorem ts139 : tab.siz 139 = 6 := rfl
@[go_sem] theorem tz139 : tab.zer 139 = [.nils, .int .i64 0, .int .i64 0, .nilm, .nilm, .nilm] := rfl
@[go_sem] theorem tab_fld_139_0 : tab.fld 139 0 = some (28, 0) := rfl
@[go_sem] theorem tab_fld_139_1 : tab.fld 139 1 = some (3, 1) := rfl
@[go_sem] theorem tab_fld_139_2 : tab.fld 139 2 = some (3, 2) := rfl
@[go_sem] theorem tab_fld_139_3 : tab.fld 139 3 = some (137, 3) := rfl
@[go_sem] theorem tab_fld_139_4 : tab.fld 139 4 = some (54, 4) := rfl
@[go_sem] theorem tab_fld_139_5 : tab.fld 139 5 = some (54, 5) := rfl
@[go_sem] theorem tu153 : tab.und 153 = .struct := rfl
@[go_sem] theorem ts153 : tab.siz 153 = 2 := rfl
@[go_sem] theorem tb153 : tab.byt 153 = 24 := rfl
@[go_sem] theorem tz153 : tab.zer 153 = [.str [], .int .i64 0] := rfl
@[go_sem] theorem tab_fld_153_0 : tab.fld 153 0 = some (9, 0) := rfl
@[go_sem] theorem tab_fld_153_1 : tab.fld 153 1 = some (3, 1) := rfl
@[go_sem] theorem tu154 : tab.und 154 = (.ptr 156) := rfl
@[go_sem] theorem ts154 : tab.siz 154 = 1 := rfl
@[go_sem] theorem tz154 : tab.zer 154 = [.nilp] := rfl
@[go_sem] theorem tu156 : tab.und 156 = .struct := rfl
@[go_sem] theorem ts156 : tab.siz 156 = 13 := rfl
@[go_sem] theorem tz156 : tab.zer 156 = [.int .i64 0, .bool false, .int .i64 0, .nils, .nils, .nils, .nils, .int .i64 0, .int .i64 0, .int .i64 0, .nils, .int .i64 0, .nils] := rfl
@[go_sem] theorem tab_fld_156_0 : tab.fld 156 0 = some (110, 0) := rfl
@[go_sem] theorem tab_fld_156_1 : tab.fld 156 1 = some (31, 10) := rfl
@[go_sem] theorem tu157 : tab.und 157 = (.sl 9) := rfl
@[go_sem] theorem ts157 : tab.siz 157 = 1 := rfl
@[go_sem] theorem tz157 : tab.zer 157 = [.nils] := rfl
@[go_sem] theorem tu178 : tab.und 178 = (.ptr 26) := rfl
@[go_sem] theorem ts178 : tab.siz 178 = 1 := rfl
@[go_sem] theorem tz178 : tab.zer 178 = [.nilp] := rfl
@[go_sem] theorem tu200 : tab.und 200 = (.int .u64) := rfl
@[go_sem] theorem ts200 : tab.siz 200 = 1 := rfl
@[go_sem] theorem tz200 : tab.zer 200 = [.int .u64 0] := rfl
theorem tab_und_ok : ∀ t, KDOK Go.Proofs.Tryz.prog t (tUnd t) := by
 intro t
 unfold tUnd
 split
 ·exact Go.Proofs.Tryz.underlying2
 ·exact Go.Proofs.Tryz.underlying3
 ·exact Go.Proofs.Tryz.underlying4
 ·exact Go.Proofs.Tryz.underlying5
 ·exact Go.Proofs.Tryz.underlying6
 ·exact ⟨_, Go.Proofs.Tryz.underlying7, by intro f hf; simp at hf; rcases hf with rfl | rfl | rfl | rfl <;> kernel_rfl⟩
 ·exact ⟨_, Go.Proofs.Tryz.underlying8, by intro f hf; simp at hf; rcases hf with rfl | rfl | rfl | rfl <;> kernel_rfl⟩
 ·exact Go.Proofs.Tryz.underlying9
 ·exact Go.Proofs.Tryz.underlying10
 ·exact Go.Proofs.Tryz.underlying11
 ·exact Go.Proofs.Tryz.underlying12
 ·exact ⟨_, Go.Proofs.Tryz.underlying13, by intro f hf; simp at hf; rcases hf with rfl | rfl <;> kernel_rfl⟩
 ·exact ⟨_, Go.Proofs.Tryz.underlying14, by intro f hf; simp at hf; rcases hf with rfl | rfl <;> kernel_rfl⟩
 ·exact Go.Proofs.Tryz.underlying15
 ·exact Go.Proofs.Tryz.underlying16
 ·exact Go.Proofs.Tryz.underlying17
 ·exact ⟨_, Go.Proofs.Tryz.underlying18, by intro f hf; simp at hf; rcases hf with rfl <;> kernel_rfl⟩
 ·exact ⟨_, Go.Proofs.Tryz.underlying19, by intro f hf; simp at hf; rcases hf with rfl <;> kernel_rfl⟩
 ·exact Go.Proofs.Tryz.underlying21
 ·exact Go.Proofs.Tryz.underlying22
 ·exact Go.Proofs.Tryz.underlying23
 ·exact Go.Proofs.Tryz.underlying24
 ·exact ⟨_, Go.Proofs.Tryz.underlying25, by intro f hf; simp at hf; rcases hf with rfl | rfl | rfl | rfl | rfl | rfl | rfl <;> kernel_rfl⟩
 ·exact ⟨_, Go.Proofs.Tryz.underlying26, by intro f hf; simp at hf; rcases hf with rfl | rfl | rfl | rfl | rfl | rfl | rfl <;> kernel_rfl⟩
 ·exact Go.Proofs.Tryz.underlying27
 ·exact Go.Proofs.Tryz.underlying28
 ·exact Go.Proofs.Tryz.underlying29
 ·exact ⟨_, Go.Proofs.Tryz.underlying30, by intro f hf; simp at hf; rcases hf with rfl | rfl | rfl <;> kernel_rfl⟩
 ·exact ⟨_, Go.Proofs.Tryz.underlying31, by intro f hf; simp at hf; rcases hf with rfl | rfl | rfl <;> kernel_rfl⟩
 ·exact Go.Proofs.Tryz.underlying32
 ·exact ⟨_, Go.Proofs.Tryz.underlying33, by intro f hf; simp at hf; rcases hf with rfl | rfl <;> kernel_rfl⟩
 ·exact ⟨_, Go.Proofs.Tryz.underlying34, by intro f hf; simp at hf; rcases hf with rfl | rfl <;> kernel_rfl⟩
 ·exact Go.Proofs.Tryz.underlying38
 ·exact Go.Proofs.Tryz.underlying43
 ·exact Go.Proofs.Tryz.underlying51
 ·exact Go.Proofs.Tryz.underlying52
 ·exact Go.Proofs.Tryz.underlying54
 ·exact ⟨_, Go.Proofs.Tryz.underlying55, by intro f hf; simp at hf; rcases hf with rfl | rfl | rfl <;> kernel_rfl⟩
 ·exact ⟨_, Go.Proofs.Tryz.underlying56, by intro f hf; simp at hf; rcases hf with rfl | rfl | rfl <;> kernel_rfl⟩
 ·exact Go.Proofs.Tryz.underlying58
 ·exact ⟨_, Go.Proofs.Tryz.underlying59, by intro f hf; simp at hf; rcases hf with rfl | rfl | rfl | rfl | rfl <;> kernel_rfl⟩
 ·exact ⟨_, Go.Proofs.Tryz.underlying60, by intro f hf; simp at hf; rcases hf with rfl | rfl | rfl | rfl | rfl <;> kernel_rfl⟩
 ·exact ⟨_, Go.Proofs.Tryz.underlying70, by intro f hf; simp at hf; rcases hf with rfl | rfl <;> kernel_rfl⟩
 ·exact ⟨_, Go.Proofs.Tryz.underlying71, by intro f hf; simp at hf; rcases hf with rfl | rfl <;> kernel_rfl⟩
 ·exact ⟨_, Go.Proofs.Tryz.underlying77, by intro f hf; simp at hf; rcases hf with rfl | rfl | rfl | rfl | rfl | rfl <;> kernel_rfl⟩
 ·exact ⟨_, Go.Proofs.Tryz.underlying78, by intro f hf; simp at hf; rcases hf with rfl | rfl | rfl | rfl | rfl | rfl <;> kernel_rfl⟩
 ·exact ⟨_, Go.Proofs.Tryz.underlying79, by intro f hf; simp at hf; rcases hf with rfl | rfl | rfl | rfl <;> kernel_rfl⟩
 ·exact ⟨_, Go.Proofs.Tryz.underlying80, by intro f hf; simp at hf; rcases hf with rfl | rfl | rfl | rfl <;> kernel_rfl⟩
 ·exact ⟨_, Go.Proofs.Tryz.underlying87, by intro f hf; simp at hf; rcases hf with rfl | rfl <;> kernel_rfl⟩
 ·exact ⟨_, Go.Proofs.Tryz.underlying88, by intro f hf; simp at hf; rcases hf with rfl | rfl <;> kernel_rfl⟩
 ·exact Go.Proofs.Tryz.underlying92
 ·exact ⟨_, Go.Proofs.Tryz.underlying95, by intro f hf; simp at hf; rcases hf with rfl | rfl | rfl | rfl <;> kernel_rfl⟩
 ·exact ⟨_, Go.Proofs.Tryz.underlying96, by intro f hf; simp at hf; rcases hf with rfl | rfl | rfl | rfl <;> kernel_rfl⟩
 ·exact Go.Proofs.Tryz.underlying103
 ·exact Go.Proofs.Tryz.underlying107
 ·exact Go.Proofs.Tryz.underlying108
 ·exact ⟨_, Go.Proofs.Tryz.underlying109, by intro f hf; simp at hf; rcases hf with rfl | rfl | rfl | rfl | rfl | rfl | rfl | rfl | rfl | rfl <;> kernel_rfl⟩
 ·exact ⟨_, Go.Proofs.Tryz.underlying110, by intro f hf; simp at hf; rcases hf with rfl | rfl | rfl | rfl | rfl | rfl | rfl | rfl | rfl | rfl <;> kernel_rfl⟩
 ·exact ⟨_, Go.Proofs.Tryz.underlying112, by intro f hf; simp at hf; rcases hf with rfl | rfl | rfl | rfl <;> kernel_rfl⟩
 ·exact ⟨_, Go.Proofs.Tryz.underlying113, by intro f hf; simp at hf; rcases hf with rfl | rfl | rfl | rfl <;> kernel_rfl⟩
 ·exact Go.Proofs.Tryz.underlying117
 ·exact ⟨_, Go.Proofs.Tryz.underlying118, by intro f hf; simp at hf; rcases hf with rfl | rfl | rfl <;> kernel_rfl⟩
 ·exact ⟨_, Go.Proofs.Tryz.underlying119, by intro f hf; simp at hf; rcases hf with rfl | rfl | rfl <;> kernel_rfl⟩
 ·exact ⟨_, Go.Proofs.Tryz.underlying134, by intro f hf; simp at hf; rcases hf with rfl | rfl <;> kernel_rfl⟩
 ·exact ⟨_, Go.Proofs.Tryz.underlying135, by intro f hf; simp at hf; rcases hf with rfl | rfl <;> kernel_rfl⟩
 ·exact Go.Proofs.Tryz.underlying136
 ·exact Go.Proofs.Tryz.underlying137
 ·exact ⟨_, Go.Proofs.Tryz.underlying138, by intro f hf; simp at hf; rcases hf with rfl | rfl | rfl | rfl | rfl | rfl <;> kernel_rfl⟩
 ·exact ⟨_, Go.Proofs.Tryz.underlying139, by intro f hf; simp at hf; rcases hf with rfl | rfl | rfl | rfl | rfl | rfl <;> kernel_rfl⟩
 ·exact ⟨_, Go.Proofs.Tryz.underlying152, by intro f hf; simp at hf; rcases hf with rfl | rfl <;> kernel_rfl⟩
 ·exact ⟨_, Go.Proofs.Tryz.underlying153, by intro f hf; simp at hf; rcases hf with rfl | rfl <;> kernel_rfl⟩
 ·exact Go.Proofs.Tryz.underlying154
 ·exact ⟨_, Go.Proofs.Tryz.underlying155, by intro f hf; simp at hf; rcases hf with rfl | rfl <;> kernel_rfl⟩
 ·exact ⟨_, Go.Proofs.Tryz.underlying156, by intro f hf; simp at hf; rcases hf with rfl | rfl <;> kernel_rfl⟩
 ·exact Go.Proofs.Tryz.underlying157
 ·exact Go.Proofs.Tryz.underlying178
 ·exact Go.Proofs.Tryz.underlying200
 ·exact ⟨_, Go.Proofs.Tryz.underlying210, by intro f hf; simp at hf; rcases hf with rfl | rfl | rfl | rfl <;> kernel_rfl⟩
 ·exact ⟨_, Go.Proofs.Tryz.underlying211, by intro f hf; simp at hf; rcases hf with rfl | rfl | rfl | rfl <;> kernel_rfl⟩
 ·exact Go.Proofs.Tryz.underlying216
 ·exact Go.Proofs.Tryz.underlying217
 ·exact Go.Proofs.Tryz.underlying218
 ·exact Go.Proofs.Tryz.underlying220
 ·exact Go.Proofs.Tryz.underlying221
 ·exact Go.Proofs.Tryz.underlying222
 ·trivial
theorem tab_siz_ok : ∀ t, tSiz t ≠ 0 → ∃ i, (Go.Proofs.Tryz.prog).info? t = some i ∧ i.size = tSiz t ∧ i.bytes = tByt t ∧ ∃ z, i.zero = some z ∧ z.cells.toList.map ofValue = tZer t ∧ z.cells.size = tSiz t ∧
  (tUnd t).isA = some (match z with | .agg _ => true | _ => false) := by
 intro t h
 revert h
 unfold tSiz
 split
 ·exact fun _ => ⟨Go.Proofs.Tryz.t2, by kernel_rfl, rfl, rfl, _, rfl, rfl, rfl, rfl⟩
 ·exact fun _ => ⟨Go.Proofs.Tryz.t3, by kernel_rfl, rfl, rfl, _, rfl, rfl, rfl, rfl⟩
 ·exact fun _ => ⟨Go.Proofs.Tryz.t4, by kernel_rfl, rfl, rfl, _, rfl, rfl, rfl, rfl⟩
 ·exact fun _ => ⟨Go.Proofs.Tryz.t5, by kernel_rfl, rfl, rfl, _, rfl, rfl, rfl, rfl⟩
 ·exact fun _ => ⟨Go.Proofs.Tryz.t6, by kernel_rfl, rfl, rfl, _, rfl, rfl, rfl, rfl⟩
 ·exact fun _ => ⟨Go.Proofs.Tryz.t7, by kernel_rfl, rfl, rfl, _, rfl, rfl, rfl, rfl⟩
 ·exact fun _ => ⟨Go.Proofs.Tryz.t8, by kernel_rfl, rfl, rfl, _, rfl, rfl, rfl, rfl⟩
 ·exact fun _ => ⟨Go.Proofs.Tryz.t9, by kernel_rfl, rfl, rfl, _, rfl, rfl, rfl, rfl⟩
 ·exact fun _ => ⟨Go.Proofs.Tryz.t10, by kernel_rfl, rfl, rfl, _, rfl, rfl, rfl, rfl⟩
 ·exact fun _ => ⟨Go.Proofs.Tryz.t11, by kernel_rfl, rfl, rfl, _, rfl, rfl, rfl, rfl⟩
 ·exact fun _ => ⟨Go.Proofs.Tryz.t12, by kernel_rfl, rfl, rfl, _, rfl, rfl, rfl, rfl⟩
 ·exact fun _ => ⟨Go.Proofs.Tryz.t13, by kernel_rfl, rfl, rfl, _, rfl, rfl, rfl, rfl⟩
 ·exact fun _ => ⟨Go.Proofs.Tryz.t14, by kernel_rfl, rfl, rfl, _, rfl, rfl, rfl, rfl⟩
 ·exact fun _ => ⟨Go.Proofs.Tryz.t15, by kernel_rfl, rfl, rfl, _, rfl, rfl, rfl, rfl⟩
 ·exact fun _ => ⟨Go.Proofs.Tryz.t16, by kernel_rfl, rfl, rfl, _, rfl, rfl, rfl, rfl⟩
 ·exact fun _ => ⟨Go.Proofs.Tryz.t17, by kernel_rfl, rfl, rfl, _, rfl, rfl, rfl, rfl⟩
 ·exact fun _ => ⟨Go.Proofs.Tryz.t18, by kernel_rfl, rfl, rfl, _, rfl, rfl, rfl, rfl⟩
 ·exact fun _ => ⟨Go.Proofs.Tryz.t19, by kernel_rfl, rfl, rfl, _, rfl, rfl, rfl, rfl⟩
 ·exact fun _ => ⟨Go.Proofs.Tryz.t21, by kernel_rfl, rfl, rfl, _, rfl, rfl, rfl, rfl⟩
 ·exact fun _ => ⟨Go.Proofs.Tryz.t22, by kernel_rfl, rfl, rfl, _, rfl, rfl, rfl, rfl⟩
 ·exact fun _ => ⟨Go.Proofs.Tryz.t23, by kernel_rfl, rfl, rfl, _, rfl, rfl, rfl, rfl⟩
 ·exact fun _ => ⟨Go.Proofs.Tryz.t24, by kernel_rfl, rfl, rfl, _, rfl, rfl, rfl, rfl⟩
 ·exact fun _ => ⟨Go.Proofs.Tryz.t25, by kernel_rfl, rfl, rfl, _, rfl, rfl, rfl, rfl⟩
 ·exact fun _ => ⟨Go.Proofs.Tryz.t26, by kernel_rfl, rfl, rfl, _, rfl, rfl, rfl, rfl⟩
 ·exact fun _ => ⟨Go.Proofs.Tryz.t27, by kernel_rfl, rfl, rfl, _, rfl, rfl, rfl, rfl⟩
 ·exact fun _ => ⟨Go.Proofs.Tryz.t28, by kernel_rfl, rfl, rfl, _, rfl, rfl, rfl, rfl⟩
 ·exact fun _ => ⟨Go.Proofs.Tryz.t29, by kernel_rfl, rfl, rfl, _, rfl, rfl, rfl, rfl⟩
 ·exact fun _ => ⟨Go.Proofs.Tryz.t30, by kernel_rfl, rfl, rfl, _, rfl, rfl, rfl, rfl⟩
 ·exact fun _ => ⟨Go.Proofs.Tryz.t31, by kernel_rfl, rfl, rfl, _, rfl, rfl, rfl, rfl⟩
 ·exact fun _ => ⟨Go.Proofs.Tryz.t32, by kernel_rfl, rfl, rfl, _, rfl, rfl, rfl, rfl⟩
 ·exact fun _ => ⟨Go.Proofs.Tryz.t33, by kernel_rfl, rfl, rfl, _, rfl, rfl, rfl, rfl⟩
 ·exact fun _ => ⟨Go.Proofs.Tryz.t34, by kernel_rfl, rfl, rfl, _, rfl, rfl, rfl, rfl⟩
 ·exact fun _ => ⟨Go.Proofs.Tryz.t38, by kernel_rfl, rfl, rfl, _, rfl, rfl, rfl, rfl⟩
 ·exact fun _ => ⟨Go.Proofs.Tryz.t43, by kernel_rfl, rfl, rfl, _, rfl, rfl, rfl, rfl⟩
 ·exact fun _ => ⟨Go.Proofs.Tryz.t51, by kernel_rfl, rfl, rfl, _, rfl, rfl, rfl, rfl⟩
 ·exact fun _ => ⟨Go.Proofs.Tryz.t52, by kernel_rfl, rfl, rfl, _, rfl, rfl, rfl, rfl⟩
 ·exact fun _ => ⟨Go.Proofs.Tryz.t54, by kernel_rfl, rfl, rfl, _, rfl, rfl, rfl, rfl⟩
 ·exact fun _ => ⟨Go.Proofs.Tryz.t55, by kernel_rfl, rfl, rfl, _, rfl, rfl, rfl, rfl⟩
 ·exact fun _ => ⟨Go.Proofs.Tryz.t56, by kernel_rfl, rfl, rfl, _, rfl, rfl, rfl, rfl⟩
 ·exact fun _ => ⟨Go.Proofs.Tryz.t58, by kernel_rfl, rfl, rfl, _, rfl, rfl, rfl, rfl⟩
 ·exact fun _ => ⟨Go.Proofs.Tryz.t59, by kernel_rfl, rfl, rfl, _, rfl, rfl, rfl, rfl⟩
 ·exact fun _ => ⟨Go.Proofs.Tryz.t60, by kernel_rfl, rfl, rfl, _, rfl, rfl, rfl, rfl⟩
 ·exact fun _ => ⟨Go.Proofs.Tryz.t70, by kernel_rfl, rfl, rfl, _, rfl, rfl, rfl, rfl⟩
 ·exact fun _ => ⟨Go.Proofs.Tryz.t71, by kernel_rfl, rfl, rfl, _, rfl, rfl, rfl, rfl⟩
 ·exact fun _ => ⟨Go.Proofs.Tryz.t77, by kernel_rfl, rfl, rfl, _, rfl, rfl, rfl, rfl⟩
 ·exact fun _ => ⟨Go.Proofs.Tryz.t78, by kernel_rfl, rfl, rfl, _, rfl, rfl, rfl, rfl⟩
 ·exact fun _ => ⟨Go.Proofs.Tryz.t79, by kernel_rfl, rfl, rfl, _, rfl, rfl, rfl, rfl⟩
 ·exact fun _ => ⟨Go.Proofs.Tryz.t80, by kernel_rfl, rfl, rfl, _, rfl, rfl, rfl, rfl⟩
 ·exact fun _ => ⟨Go.Proofs.Tryz.t87, by kernel_rfl, rfl, rfl, _, rfl, rfl, rfl, rfl⟩
 ·exact fun _ => ⟨Go.Proofs.Tryz.t88, by kernel_rfl, rfl, rfl, _, rfl, rfl, rfl, rfl⟩
 ·exact fun _ => ⟨Go.Proofs.Tryz.t92, by kernel_rfl, rfl, rfl, _, rfl, rfl, rfl, rfl⟩
 ·exact fun _ => ⟨Go.Proofs.Tryz.t95, by kernel_rfl, rfl, rfl, _, rfl, rfl, rfl, rfl⟩
 ·exact fun _ => ⟨Go.Proofs.Tryz.t96, by kernel_rfl, rfl, rfl, _, rfl, rfl, rfl, rfl⟩
 ·exact fun _ => ⟨Go.Proofs.Tryz.t103, by kernel_rfl, rfl, rfl, _, rfl, rfl, rfl, rfl⟩
 ·exact fun _ => ⟨Go.Proofs.Tryz.t107, by kernel_rfl, rfl, rfl, _, rfl, rfl, rfl, rfl⟩
 ·exact fun _ => ⟨Go.Proofs.Tryz.t108, by kernel_rfl, rfl, rfl, _, rfl, rfl, rfl, rfl⟩
 ·exact fun _ => ⟨Go.Proofs.Tryz.t109, by kernel_rfl, rfl, rfl, _, rfl, rfl, rfl, rfl⟩
 ·exact fun _ => ⟨Go.Proofs.Tryz.t110, by kernel_rfl, rfl, rfl, _, rfl, rfl, rfl, rfl⟩
 ·exact fun _ => ⟨Go.Proofs.Tryz.t112, by kernel_rfl, rfl, rfl, _, rfl, rfl, rfl, rfl⟩
 ·exact fun _ => ⟨Go.Proofs.Tryz.t113, by kernel_rfl, rfl, rfl, _, rfl, rfl, rfl, rfl⟩
 ·exact fun _ => ⟨Go.Proofs.Tryz.t117, by kernel_rfl, rfl, rfl, _, rfl, rfl, rfl, rfl⟩
 ·exact fun _ => ⟨Go.Proofs.Tryz.t118, by kernel_rfl, rfl, rfl, _, rfl, rfl, rfl, rfl⟩
 ·exact fun _ => ⟨Go.Proofs.Tryz.t119, by kernel_rfl, rfl, rfl, _, rfl, rfl, rfl, rfl⟩
 ·exact fun _ => ⟨Go.Proofs.Tryz.t134, by kernel_rfl, rfl, rfl, _, rfl, rfl, rfl, rfl⟩
 ·exact fun _ => ⟨Go.Proofs.Tryz.t135, by kernel_rfl, rfl, rfl, _, rfl, rfl, rfl, rfl⟩
 ·exact fun _ => ⟨Go.Proofs.Tryz.t136, by kernel_rfl, rfl, rfl, _, rfl, rfl, rfl, rfl⟩
 ·exact fun _ => ⟨Go.Proofs.Tryz.t137, by kernel_rfl, rfl, rfl, _, rfl, rfl, rfl, rfl⟩
 ·exact fun _ => ⟨Go.Proofs.Tryz.t138, by kernel_rfl, rfl, rfl, _, rfl, rfl, rfl, rfl⟩
 ·exact fun _ => ⟨Go.Proofs.Tryz.t139, by kernel_rfl, rfl, rfl, _, rfl, rfl, rfl, rfl⟩
 ·exact fun _ => ⟨Go.Proofs.Tryz.t152, by kernel_rfl, rfl, rfl, _, rfl, rfl, rfl, rfl⟩
 ·exact fun _ => ⟨Go.Proofs.Tryz.t153, by kernel_rfl, rfl, rfl, _, rfl, rfl, rfl, rfl⟩
 ·exact fun _ => ⟨Go.Proofs.Tryz.t154, by kernel_rfl, rfl, rfl, _, rfl, rfl, rfl, rfl⟩
 ·exact fun _ => ⟨Go.Proofs.Tryz.t155, by kernel_rfl, rfl, rfl, _, rfl, rfl, rfl, rfl⟩
 ·exact fun _ => ⟨Go.Proofs.Tryz.t156, by kernel_rfl, rfl, rfl, _, rfl, rfl, rfl, rfl⟩
 ·exact fun _ => ⟨Go.Proofs.Tryz.t157, by kernel_rfl, rfl, rfl, _, rfl, rfl, rfl, rfl⟩
 ·exact fun _ => ⟨Go.Proofs.Tryz.t178, by kernel_rfl, rfl, rfl, _, rfl, rfl, rfl, rfl⟩
 ·exact fun _ => ⟨Go.Proofs.Tryz.t200, by kernel_rfl, rfl, rfl, _, rfl, rfl, rfl, rfl⟩
 ·exact fun _ => ⟨Go.Proofs.Tryz.t210, by kernel_rfl, rfl, rfl, _, rfl, rfl, rfl, rfl⟩
 ·exact fun _ => ⟨Go.Proofs.Tryz.t211, by kernel_rfl, rfl, rfl, _, rfl, rfl, rfl, rfl⟩
 ·exact fun _ => ⟨Go.Proofs.Tryz.t216, by kernel_rfl, rfl, rfl, _, rfl, rfl, rfl, rfl⟩
 ·exact fun _ => ⟨Go.Proofs.Tryz.t217, by kernel_rfl, rfl, rfl, _, rfl, rfl, rfl, rfl⟩
 ·exact fun _ => ⟨Go.Proofs.Tryz.t218, by kernel_rfl, rfl, rfl, _, rfl, rfl, rfl, rfl⟩
 ·exact fun _ => ⟨Go.Proofs.Tryz.t220, by kernel_rfl, rfl, rfl, _, rfl, rfl, rfl, rfl⟩
 ·exact fun _ => ⟨Go.Proofs.Tryz.t221, by kernel_rfl, rfl, rfl, _, rfl, rfl, rfl, rfl⟩
 ·exact fun _ => ⟨Go.Proofs.Tryz.t222, by kernel_rfl, rfl, rfl, _, rfl, rfl, rfl, rfl⟩
 ·exact fun h => absurd rfl h
theorem tab_fl_ok : ∀ t, tFl t = [] ∨ ∃ F : Array Field, (Go.Proofs.Tryz.prog).underlying t = some (.struct F) ∧ F.toList.map (fun f => (f.type, f.offset)) = tFl t ∧ ∀ x, x ∈ tFl t → tSiz x.1 ≠ 0 := by
 intro t
 unfold tFl
 split
 ·exact .inr ⟨_, Go.Proofs.Tryz.underlying7, rfl, by decide⟩
 ·exact .inr ⟨_, Go.Proofs.Tryz.underlying8, rfl, by decide⟩
 ·exact .inr ⟨_, Go.Proofs.Tryz.underlying13, rfl, by decide⟩
 ·exact .inr ⟨_, Go.Proofs.Tryz.underlying14, rfl, by decide⟩
 ·exact .inr ⟨_, Go.Proofs.Tryz.underlying18, rfl, by decide⟩
 ·exact .inr ⟨_, Go.Proofs.Tryz.underlying19, rfl, by decide⟩
 ·exact .inr ⟨_, Go.Proofs.Tryz.underlying25, rfl, by decide⟩
 ·exact .inr ⟨_, Go.Proofs.Tryz.underlying26, rfl, by decide⟩
 ·exact .inr ⟨_, Go.Proofs.Tryz.underlying30, rfl, by decide⟩
 ·exact .inr ⟨_, Go.Proofs.Tryz.underlying31, rfl, by decide⟩
 ·exact .inr ⟨_, Go.Proofs.Tryz.underlying33, rfl, by decide⟩
 ·exact .inr ⟨_, Go.Proofs.Tryz.underlying34, rfl, by decide⟩
 ·exact .inr ⟨_, Go.Proofs.Tryz.underlying55, rfl, by decide⟩
 ·exact .inr ⟨_, Go.Proofs.Tryz.underlying56, rfl, by decide⟩
 ·exact .inr ⟨_, Go.Proofs.Tryz.underlying59, rfl, by decide⟩
 ·exact .inr ⟨_, Go.Proofs.Tryz.underlying60, rfl, by decide⟩
 ·exact .inr ⟨_, Go.Proofs.Tryz.underlying70, rfl, by decide⟩
 ·exact .inr ⟨_, Go.Proofs.Tryz.underlying71, rfl, by decide⟩
 ·exact .inr ⟨_, Go.Proofs.Tryz.underlying77, rfl, by decide⟩
 ·exact .inr ⟨_, Go.Proofs.Tryz.underlying78, rfl, by decide⟩
 ·exact .inr ⟨_, Go.Proofs.Tryz.underlying79, rfl, by decide⟩
 ·exact .inr ⟨_, Go.Proofs.Tryz.underlying80, rfl, by decide⟩
 ·exact .inr ⟨_, Go.Proofs.Tryz.underlying87, rfl, by decide⟩
 ·exact .inr ⟨_, Go.Proofs.Tryz.underlying88, rfl, by decide⟩
 ·exact .inr ⟨_, Go.Proofs.Tryz.underlying95, rfl, by decide⟩
 ·exact .inr ⟨_, Go.Proofs.Tryz.underlying96, rfl, by decide⟩
 ·exact .inr ⟨_, Go.Proofs.Tryz.underlying109, rfl, by decide⟩
 ·exact .inr ⟨_, Go.Proofs.Tryz.underlying110, rfl, by decide⟩
 ·exact .inr ⟨_, Go.Proofs.Tryz.underlying112, rfl, by decide⟩
 ·exact .inr ⟨_, Go.Proofs.Tryz.underlying113, rfl, by decide⟩
 ·exact .inr ⟨_, Go.Proofs.Tryz.underlying118, rfl, by decide⟩
 ·exact .inr ⟨_, Go.Proofs.Tryz.underlying119, rfl, by decide⟩
 ·exact .inr ⟨_, Go.Proofs.Tryz.underlying134, rfl, by decide⟩
 ·exact .inr ⟨_, Go.Proofs.Tryz.underlying135, rfl, by decide⟩
 ·exact .inr ⟨_, Go.Proofs.Tryz.underlying138, rfl, by decide⟩
 ·exact .inr ⟨_, Go.Proofs.Tryz.underlying139, rfl, by decide⟩
 ·exact .inr ⟨_, Go.Proofs.Tryz.underlying152, rfl, by decide⟩
 ·exact .inr ⟨_, Go.Proofs.Tryz.underlying153, rfl, by decide⟩
 ·exact .inr ⟨_, Go.Proofs.Tryz.underlying155, rfl, by decide⟩
 ·exact .inr ⟨_, Go.Proofs.Tryz.underlying156, rfl, by decide⟩
 ·exact .inr ⟨_, Go.Proofs.Tryz.underlying210, rfl, by decide⟩
 ·exact .inr ⟨_, Go.Proofs.Tryz.underlying211, rfl, by decide⟩
 ·exact .inl rfl
theorem tab_fld_ok : ∀ t j ft off, tFld t j = some (ft, off) → ∃ F f, (Go.Proofs.Tryz.prog).underlying t = some (.struct F) ∧ F[j]? = some f ∧ f.type = ft ∧ f.offset = off ∧ tSiz ft ≠ 0 := by
 intro t j ft off h
 unfold tFld at h
 rcases tab_fl_ok t with e | ⟨F, h1, h2, h3⟩
 ·rw [e] at h; simp at h
 ·have h4 := h3 _ (List.mem_of_getElem? h)
  rw [← h2, List.getElem?_map, Array.getElem?_toList] at h
  cases e : F[j]? with
  | none => rw [e] at h; cases h
  | some f =>
   rw [e] at h
   simp only [Option.map_some, Option.some.injEq, Prod.mk.injEq] at h
   exact ⟨F, f, h1, e, h.1, h.2, h4⟩
theorem tK : TabOK Go.Proofs.Tryz.prog tab := ⟨tab_und_ok, tab_siz_ok, tab_fld_ok⟩
end Go.Eng
namespace La
open Go Go.Eng
structure Entry where
 name : List UInt8
 fid : Int
deriving DecidableEq, Inhabited
structure Node where
 fid : Int
 dir : Bool
 data : List UInt8
 entries : List Entry
 version : Int
deriving DecidableEq, Inhabited
structure Act where
 kind : Int
 fid : Int
 dir : Int
 name : List UInt8
 to : Int
 toName : List UInt8
 data : List UInt8
deriving DecidableEq, Inhabited
structure Rec where
 act : Act
 version : Int
 id : Int
deriving DecidableEq, Inhabited
def i (n : Int) : AV := .int .i64 n
def ZY (b : UInt8) : List AV := [.int .u8 (b.toNat : Int)]
def ZI (n : Int) : List AV := [.int .i64 n]
def ZE (e : Entry) : List AV := [.str e.name, .int .i64 e.fid]
def ZN (n : Node) : List AV := [.int .i64 n.fid, .bool n.dir, .sl (n.data.map ZY), .sl (n.entries.map ZE), .int .i64 n.version]
def ZA (a : Act) : List AV := [.int .i64 a.kind, .int .i64 a.fid, .int .i64 a.dir, .str a.name, .int .i64 a.to, .str a.toName, .sl (a.data.map ZY)]
def ZR (r : Rec) : List AV := [.int .i64 r.act.kind, .int .i64 r.act.fid, .int .i64 r.act.dir, .str r.act.name, .int .i64 r.act.to, .str r.act.toName, .sl (r.act.data.map ZY), .int .i64 r.version, .int .i64 r.id]
structure Fam {α : Type} (f : α → List AV) (n : Nat) : Prop where
 len : ∀ a, (f a).length = n
 leaf : ∀ a, (f a).all AV.leaf = true
 pure : ∀ a, (f a).all AV.pureB = true
 free : ∀ a, refsL (f a) = []
section
variable {α : Type} {f : α → List AV} {n : Nat}
theorem Fam.rowsOf (h : Fam f n) (l : List α) : Eng.rowsOf n (l.map f) := by
 intro row hr; obtain ⟨a, _, rfl⟩ := List.mem_map.1 hr; exact h.len a
theorem Fam.allLeaf (h : Fam f n) (l : List α) : ((l.map f).all fun row => row.all AV.leaf) = true := by
 rw [List.all_eq_true]; intro row hr; obtain ⟨a, _, rfl⟩ := List.mem_map.1 hr; exact h.leaf a
theorem Fam.allPure (h : Fam f n) (l : List α) : ((l.map f).all fun row => row.all AV.pureB) = true := by
 rw [List.all_eq_true]; intro row hr; obtain ⟨a, _, rfl⟩ := List.mem_map.1 hr; exact h.pure a
theorem Fam.noRef (h : Fam f n) (id : Nat) (l : List α) : ((l.map f).all fun row => row.all fun x => !(refs x).contains id) = true := by
 rw [List.all_eq_true]; intro row hr; obtain ⟨a, _, rfl⟩ := List.mem_map.1 hr
 rw [List.all_eq_true]; intro x hx
 obtain ⟨j, hj⟩ := List.getElem?_of_mem hx
 have : refs x = [] := by
  have h1 : ∀ i, i ∈ refs x → i ∈ refsL (f a) := fun i hi => refsL_mem hj hi
  rw [h.free a] at h1
  exact List.eq_nil_iff_forall_not_mem.2 fun i hi => by simpa using h1 i hi
 rw [this]; rfl
theorem Fam.refsB (h : Fam f n) (e s : Nat) (l : List α) : Eng.refsB (.cells e s (l.map f)) = [] := by
 simp only [Eng.refsB]
 induction l with
 | nil => rfl
 | cons a r ih => simp only [List.map_cons, List.flatMap_cons, h.free a, ih, List.nil_append]
theorem Fam.renL (h : ∀ a (off : Nat), Eng.renL off (f a) = f a) (off : Nat) (l : List α) : (l.map f).map (Eng.renL off) = l.map f := by
 induction l with
 | nil => rfl
 | cons a r ih => simp only [List.map_cons, h a off, ih]
theorem Fam.frzL (h : ∀ a (id s : Nat) (rows : List (List AV)), Eng.frzL id s rows (f a) = f a) (id s : Nat) (rows : List (List AV)) (l : List α) : (l.map f).map (Eng.frzL id s rows) = l.map f := by
 induction l with
 | nil => rfl
 | cons a r ih => simp only [List.map_cons, h a id s rows, ih]
end
@[go_sem, simp] theorem take_map_all {α : Type} (f : α → List AV) (l : List α) : (l.map f).take l.length = l.map f := List.take_of_length_le (by simp)
theorem take_succ_map {α : Type} [Inhabited α] (f : α → List AV) {l : List α} {i : Nat} (h : i < l.length) : (l.take (i + 1)).map f = (l.take i).map f ++ [f (l.getD i default)] := by
 rw [List.take_succ_eq_append_getElem h, List.map_append, List.getD_eq_getElem?_getD, List.getElem?_eq_getElem h]; rfl
theorem ZT {α : Type} [Inhabited α] {l : List α} {i : Nat} (h : i < l.length) : l.take (i + 1) = l.take i ++ [l.getD i default] := by
 rw [List.take_succ_eq_append_getElem h, List.getD_eq_getElem?_getD, List.getElem?_eq_getElem h]; rfl
theorem drop_getD {α : Type} [Inhabited α] {l : List α} {i : Nat} (h : i < l.length) : l.drop i = l.getD i default :: l.drop (i + 1) := by
 rw [List.drop_eq_getElem_cons h, List.getD_eq_getElem?_getD, List.getElem?_eq_getElem h]; rfl
def idxI : Option Nat → Int
 | none => -1
 | some k => k
theorem findIdx_at {α : Type} {p : α → Bool} : ∀ {l : List α} {i : Nat} {x : α}, l[i]? = some x → (∀ y, y ∈ l.take i → p y = false) → p x = true → l.findIdx? p = some i
 | [], i, x, h, _, _ => by simp at h
 | y :: r, 0, x, h, _, hp => by
  simp only [List.getElem?_cons_zero, Option.some.injEq] at h
  subst h
  simp [List.findIdx?_cons, hp]
 | y :: r, i + 1, x, h, hn, hp => by
  have h0 := hn y (by simp)
  rw [List.findIdx?_cons, h0]
  simp only [Bool.false_eq_true, if_false]
  rw [findIdx_at (l := r) (i := i) (by simpa using h) (fun z hz => hn z (by simp [hz])) hp]
  rfl
structure Node.Small (n : Node) : Prop where
 data : n.data.length ≤ 100000000
 entries : n.entries.length ≤ 100000000
structure Small (l : List Node) : Prop where
 len : l.length ≤ 100000000
 each : ∀ n, n ∈ l → n.Small
theorem YG {α : Type} [Inhabited α] {l : List α} {i : Nat} (h : i < l.length) : l.getD i default ∈ l := by
 rw [List.getD_eq_getElem?_getD, List.getElem?_eq_getElem h]; exact List.getElem_mem h
theorem Fam.getD {α : Type} [Inhabited α] {f : α → List AV} {l : List α} {i : Nat} (h : i < l.length) : (l.map f).getD i [] = f (l.getD i default) := by
 rw [List.getD_eq_getElem?_getD, List.getElem?_map, List.getD_eq_getElem?_getD, List.getElem?_eq_getElem h]; rfl
theorem fam_byteRow : Fam ZY 1 := ⟨fun _ => rfl, fun _ => rfl, fun _ => rfl, fun _ => rfl⟩
@[go_sem, simp] theorem byteRow_rowsOf (l : List _) : Eng.rowsOf 1 (l.map ZY) := fam_byteRow.rowsOf l
@[go_sem, simp] theorem byteRow_leaf (l : List _) : ((l.map ZY).all fun row => row.all AV.leaf) = true := fam_byteRow.allLeaf l
@[go_sem, simp] theorem byteRow_pure (l : List _) : ((l.map ZY).all fun row => row.all AV.pureB) = true := fam_byteRow.allPure l
@[go_sem, simp] theorem byteRow_noRef (id : Nat) (l : List _) : ((l.map ZY).all fun row => row.all fun x => !(refs x).contains id) = true := fam_byteRow.noRef id l
@[go_sem, simp] theorem byteRow_refsB (e s : Nat) (l : List _) : refsB (.cells e s (l.map ZY)) = [] := fam_byteRow.refsB e s l
@[go_sem, simp] theorem byteRow_frzL (id s : Nat) (rows : List (List AV)) (l : List _) : (l.map ZY).map (frzL id s rows) = l.map ZY := Fam.frzL (fun _ _ _ _ => rfl) id s rows l
theorem fam_intRow : Fam ZI 1 := ⟨fun _ => rfl, fun _ => rfl, fun _ => rfl, fun _ => rfl⟩
@[go_sem, simp] theorem intRow_pure (l : List _) : ((l.map ZI).all fun row => row.all AV.pureB) = true := fam_intRow.allPure l
@[go_sem, simp] theorem intRow_noRef (id : Nat) (l : List _) : ((l.map ZI).all fun row => row.all fun x => !(refs x).contains id) = true := fam_intRow.noRef id l
@[go_sem, simp] theorem intRow_refsB (e s : Nat) (l : List _) : refsB (.cells e s (l.map ZI)) = [] := fam_intRow.refsB e s l
@[go_sem, simp] theorem intRow_renL (off : Nat) (l : List _) : (l.map ZI).map (renL off) = l.map ZI := Fam.renL (fun _ _ => rfl) off l
@[go_sem, simp] theorem intRow_frzL (id s : Nat) (rows : List (List AV)) (l : List _) : (l.map ZI).map (frzL id s rows) = l.map ZI := Fam.frzL (fun _ _ _ _ => rfl) id s rows l
theorem fam_entryRow : Fam ZE 2 := ⟨fun _ => rfl, fun _ => rfl, fun _ => rfl, fun _ => rfl⟩
@[go_sem, simp] theorem entryRow_rowsOf (l : List _) : Eng.rowsOf 2 (l.map ZE) := fam_entryRow.rowsOf l
@[go_sem, simp] theorem entryRow_leaf (l : List _) : ((l.map ZE).all fun row => row.all AV.leaf) = true := fam_entryRow.allLeaf l
@[go_sem, simp] theorem entryRow_pure (l : List _) : ((l.map ZE).all fun row => row.all AV.pureB) = true := fam_entryRow.allPure l
@[go_sem, simp] theorem entryRow_noRef (id : Nat) (l : List _) : ((l.map ZE).all fun row => row.all fun x => !(refs x).contains id) = true := fam_entryRow.noRef id l
@[go_sem, simp] theorem entryRow_refsB (e s : Nat) (l : List _) : refsB (.cells e s (l.map ZE)) = [] := fam_entryRow.refsB e s l
@[go_sem, simp] theorem entryRow_renL (off : Nat) (l : List _) : (l.map ZE).map (renL off) = l.map ZE := Fam.renL (fun _ _ => rfl) off l
@[go_sem, simp] theorem entryRow_frzL (id s : Nat) (rows : List (List AV)) (l : List _) : (l.map ZE).map (frzL id s rows) = l.map ZE := Fam.frzL (fun _ _ _ _ => rfl) id s rows l
theorem fam_nodeRow : Fam ZN 5 := ⟨fun _ => rfl, fun _ => rfl, fun _ => rfl, fun _ => rfl⟩
@[go_sem, simp] theorem nodeRow_rowsOf (l : List _) : Eng.rowsOf 5 (l.map ZN) := fam_nodeRow.rowsOf l
@[go_sem, simp] theorem nodeRow_leaf (l : List _) : ((l.map ZN).all fun row => row.all AV.leaf) = true := fam_nodeRow.allLeaf l
@[go_sem, simp] theorem nodeRow_pure (l : List _) : ((l.map ZN).all fun row => row.all AV.pureB) = true := fam_nodeRow.allPure l
@[go_sem, simp] theorem nodeRow_noRef (id : Nat) (l : List _) : ((l.map ZN).all fun row => row.all fun x => !(refs x).contains id) = true := fam_nodeRow.noRef id l
@[go_sem, simp] theorem nodeRow_refsB (e s : Nat) (l : List _) : refsB (.cells e s (l.map ZN)) = [] := fam_nodeRow.refsB e s l
@[go_sem, simp] theorem nodeRow_renL (off : Nat) (l : List _) : (l.map ZN).map (renL off) = l.map ZN := Fam.renL (fun _ _ => rfl) off l
@[go_sem, simp] theorem nodeRow_frzL (id s : Nat) (rows : List (List AV)) (l : List _) : (l.map ZN).map (frzL id s rows) = l.map ZN := Fam.frzL (fun _ _ _ _ => rfl) id s rows l
theorem fam_actRow : Fam ZA 7 := ⟨fun _ => rfl, fun _ => rfl, fun _ => rfl, fun _ => rfl⟩
@[go_sem, simp] theorem actRow_pure (l : List _) : ((l.map ZA).all fun row => row.all AV.pureB) = true := fam_actRow.allPure l
@[go_sem, simp] theorem actRow_noRef (id : Nat) (l : List _) : ((l.map ZA).all fun row => row.all fun x => !(refs x).contains id) = true := fam_actRow.noRef id l
@[go_sem, simp] theorem actRow_refsB (e s : Nat) (l : List _) : refsB (.cells e s (l.map ZA)) = [] := fam_actRow.refsB e s l
@[go_sem, simp] theorem actRow_frzL (id s : Nat) (rows : List (List AV)) (l : List _) : (l.map ZA).map (frzL id s rows) = l.map ZA := Fam.frzL (fun _ _ _ _ => rfl) id s rows l
theorem fam_recRow : Fam ZR 9 := ⟨fun _ => rfl, fun _ => rfl, fun _ => rfl, fun _ => rfl⟩
@[go_sem, simp] theorem recRow_rowsOf (l : List _) : Eng.rowsOf 9 (l.map ZR) := fam_recRow.rowsOf l
@[go_sem, simp] theorem recRow_leaf (l : List _) : ((l.map ZR).all fun row => row.all AV.leaf) = true := fam_recRow.allLeaf l
@[go_sem, simp] theorem recRow_pure (l : List _) : ((l.map ZR).all fun row => row.all AV.pureB) = true := fam_recRow.allPure l
@[go_sem, simp] theorem recRow_noRef (id : Nat) (l : List _) : ((l.map ZR).all fun row => row.all fun x => !(refs x).contains id) = true := fam_recRow.noRef id l
@[go_sem, simp] theorem recRow_refsB (e s : Nat) (l : List _) : refsB (.cells e s (l.map ZR)) = [] := fam_recRow.refsB e s l
@[go_sem, simp] theorem recRow_renL (off : Nat) (l : List _) : (l.map ZR).map (renL off) = l.map ZR := Fam.renL (fun _ _ => rfl) off l
@[go_sem, simp] theorem recRow_frzL (id s : Nat) (rows : List (List AV)) (l : List _) : (l.map ZR).map (frzL id s rows) = l.map ZR := Fam.frzL (fun _ _ _ _ => rfl) id s rows l
@[go_sem, simp] theorem intRow_refsL (a) : refsL (ZI a) = [] := fam_intRow.free a
@[go_sem, simp] theorem entryRow_refsL (a) : refsL (ZE a) = [] := fam_entryRow.free a
@[go_sem, simp] theorem nodeRow_refsL (a) : refsL (ZN a) = [] := fam_nodeRow.free a
@[go_sem, simp] theorem actRow_refsL (a) : refsL (ZA a) = [] := fam_actRow.free a
@[go_sem, simp] theorem bytes_of (l : List UInt8) : (l.map ZY).map Eng.byteOf = l := by
 rw [List.map_map]
 have : Eng.byteOf ∘ ZY = id := by
  funext b
  show UInt8.ofNat ((b.toNat : Int)).toNat = b
  simp
 rw [this, List.map_id]
@[go_sem, simp] theorem byteRow_is (b : UInt8) : IsByte (ZY b) := ⟨_, rfl⟩
end La
namespace Go.Eng
open Go.ChangeShapes Go.WideShapes Go.RowKit
section
variable {H : Type} {enc : TypeId × Value → H} {P : Program}
theorem Frm.at {W W' : World} (h : Frm (fun _ => False) W W') {b : Nat} (hb : b < W.heap.size) : W'.heap[b]? = W.heap[b]? := h.block b hb (fun h => h)
theorem Frm.kept {W W' : World} (h : Frm (fun _ => False) W W') (may : MemPlace → Prop) : W.keptBut W' may := by
 refine ⟨h.os, h.output, fun i hi => ?_⟩
 rw [h.at hi]
 split
 ·rename_i c t fr c' t' fr' h1 h2
  rw [h1] at h2
  simp only [Option.some.injEq, Obj.cells.injEq] at h2
  obtain ⟨rfl, rfl, rfl⟩ := h2
  exact ⟨rfl, rfl, rfl, fun _ _ => rfl⟩
 ·rename_i es c es' c' h1 h2
  rw [h1] at h2
  simp only [Option.some.injEq, Obj.map.injEq] at h2
  obtain ⟨rfl, rfl⟩ := h2
  exact .inr ⟨rfl, rfl⟩
 ·rfl
theorem trodAll_frm {W W' : World} (h : Frm (fun _ => False) W W') {b : Nat} {sp : Nat → Bool} {held : Bool} : ∀ {ts : List TypeId} {vs : List Value} {ds : List (DataW H)} {ps : List MemPlace},
  DataW.TrodAll enc P W b sp held ts vs ds ps → (∀ p ∈ ps, p.block < W.heap.size) → DataW.TrodAll enc P W' b sp held ts vs ds ps
 | [], [], [], _, h, _ => h
 | _ :: _, _ :: _, _ :: _, _, ⟨p, q, ⟨n, h1⟩, h2, e⟩, hl => by
  subst e
  refine ⟨p, q, ⟨n, DataW.trod_carry n _ _ _ h1 fun x hx => ?_⟩, trodAll_frm h h2 (fun x hx => hl x (List.mem_append_right _ hx)), rfl⟩
  have hb := hl x (List.mem_append_left _ hx)
  cases x with
  | cell b off => exact cell_same (h.at hb)
  | map b => exact h.at hb
theorem post_true (hl : laidOutB P = true) (hm : mapsRowed P = true) (hz : ∀ t e, t < P.types.size → P.underlying t = some (.slice e) → 0 < P.cellsOf e) {f : Func} {s : ChangeSpec} {W W' : World} {args : Array Value} {ds gs : List (DataW H)} {before : List MemPlace} {tb : TypeId}
  (hts : ∀ t ∈ f.params.toList, t < P.types.size) (hv : s.vars = []) (hb : P.underlying tb = some .bool) (hr : f.resultTypes = #[tb])
  (hW : DataW.Whole enc P f.params.toList s.vars false W args.toList ds gs before) (hf : Frm (fun _ => False) W W')
  (h1 : (s.fn H (ds ++ gs)).results = [.lit (.bool true)]) (h2 : (s.fn H (ds ++ gs)).args = ds) (h3 : (s.fn H (ds ++ gs)).vars = []) :
  s.post enc P f false true false false W args (.bool true) W' := by
 have hW' := hW
 obtain ⟨p, q, hA, hV, rfl, hfz, hnd⟩ := hW
 rw [hv] at hV
 obtain ⟨rfl, rfl⟩ := trodVars_none hV
 have hlt : ∀ x ∈ p, x.block < W.heap.size := fun x hx => hA.lt x hx
 refine ⟨ds, [], p ++ [], [], p, [], hW', ?_, ?_, ?_, hf.kept _, fun h => nomatch h⟩
 ·rw [h1, hr]
  exact trodAll_cons_mk (shut_bool hb _) trodAll_mk0
 ·rw [h2]
  exact trodAll_frm hf (DataW.TrodAll.respare (kids_rows hl hm) hz hts hA (fun x hx => by simpa using hlt x hx)) hlt
 ·rw [h3, hv]
  rfl
end
end Go.Eng
namespace La
open Go Go.Eng Go.Proofs
theorem ZM : (Tryz.prog).follows .mixedOrders = true := by kernel_rfl
theorem own : ownKnob Tryz.prog.godebug = none := by kernel_rfl
theorem laid : laidOutB Tryz.prog = true := by kernel_rfl
theorem rowed : mapsRowed Tryz.prog = true := by kernel_rfl
theorem full : ∀ t e, t < Tryz.prog.types.size → Tryz.prog.underlying t = some (.slice e) → 0 < Tryz.prog.cellsOf e := slices_full_of _ (by kernel_rfl)
end La
