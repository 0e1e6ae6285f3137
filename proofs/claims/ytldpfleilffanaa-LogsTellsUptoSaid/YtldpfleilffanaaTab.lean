/- What the types of this seat's program are, as the abstract machine asks. Made by program (mktab.py). No condition. -/
import Derived.Test.YtldpfleilffanaaEngL
import Derived.Test.YtldpfleilffanaaProg
import Derived.KernelRfl
namespace Go.Eng
def tUnd : TypeId → KD
  | 2 => (.int .i64)
  | 3 => (.int .i64)
  | 4 => .bool
  | 5 => (.int .u8)
  | 6 => (.int .u8)
  | 7 => .struct
  | 8 => .struct
  | 9 => .str
  | 10 => .str
  | 11 => .str
  | 12 => (.int .u64)
  | 13 => .struct
  | 14 => .struct
  | 15 => (.ptr 223)
  | 16 => (.ptr 226)
  | 17 => (.ptr 235)
  | 18 => .struct
  | 19 => .struct
  | 21 => (.int .i32)
  | 22 => (.sl 27)
  | 23 => (.sl 5)
  | 24 => .struct
  | 25 => .struct
  | 26 => .struct
  | 27 => .struct
  | 28 => (.int .i64)
  | 33 => (.sl 25)
  | 39 => (.sl 46)
  | 41 => (.map 3 46)
  | 42 => (.map 3 46)
  | 44 => (.sl 115)
  | 45 => .struct
  | 46 => .struct
  | 68 => (.sl 28)
  | 69 => (.sl 3)
  | 70 => (.sl 72)
  | 71 => .struct
  | 72 => .struct
  | 91 => (.map 3 4)
  | 95 => (.sl 158)
  | 96 => .struct
  | 97 => .struct
  | 101 => (.sl 154)
  | 107 => (.ptr 27)
  | 112 => (.ptr 3)
  | 113 => (.sl 112)
  | 114 => .struct
  | 115 => .struct
  | 125 => (.sl 9)
  | 141 => (.ptr 143)
  | 142 => .struct
  | 143 => .struct
  | 153 => .struct
  | 154 => .struct
  | 157 => .struct
  | 158 => .struct
  | 163 => (.map 3 3)
  | 166 => (.ptr 25)
  | 181 => (.int .u64)
  | 192 => (.ptr 194)
  | 193 => .struct
  | 194 => .struct
  | 198 => (.int .i64)
  | 205 => (.int .u32)
  | 207 => (.int .u64)
  | 213 => (.int .u64)
  | 218 => (.ptr 213)
  | 222 => .struct
  | 223 => .struct
  | 228 => (.int .u8)
  | 229 => (.int .u8)
  | 231 => (.ptr 5)
  | 232 => (.int .i32)
  | 233 => (.int .i32)
  | _ => .other
def tSiz : TypeId → Nat
  | 2 => 1
  | 3 => 1
  | 4 => 1
  | 5 => 1
  | 6 => 1
  | 7 => 4
  | 8 => 4
  | 9 => 1
  | 10 => 1
  | 11 => 1
  | 12 => 1
  | 13 => 2
  | 14 => 2
  | 15 => 1
  | 16 => 1
  | 17 => 1
  | 18 => 1
  | 19 => 1
  | 21 => 1
  | 22 => 1
  | 23 => 1
  | 24 => 7
  | 25 => 7
  | 26 => 9
  | 27 => 9
  | 28 => 1
  | 33 => 1
  | 39 => 1
  | 41 => 1
  | 42 => 1
  | 44 => 1
  | 45 => 5
  | 46 => 5
  | 68 => 1
  | 69 => 1
  | 70 => 1
  | 71 => 8
  | 72 => 8
  | 91 => 1
  | 95 => 1
  | 96 => 3
  | 97 => 3
  | 101 => 1
  | 107 => 1
  | 112 => 1
  | 113 => 1
  | 114 => 2
  | 115 => 2
  | 125 => 1
  | 141 => 1
  | 142 => 9
  | 143 => 9
  | 153 => 2
  | 154 => 2
  | 157 => 8
  | 158 => 8
  | 163 => 1
  | 166 => 1
  | 181 => 1
  | 192 => 1
  | 193 => 6
  | 194 => 6
  | 198 => 1
  | 205 => 1
  | 207 => 1
  | 213 => 1
  | 218 => 1
  | 222 => 4
  | 223 => 4
  | 228 => 1
  | 229 => 1
  | 231 => 1
  | 232 => 1
  | 233 => 1
  | _ => 0
def tByt : TypeId → Nat
  | 2 => 8
  | 3 => 8
  | 4 => 1
  | 5 => 1
  | 6 => 1
  | 7 => 24
  | 8 => 24
  | 9 => 16
  | 10 => 16
  | 11 => 16
  | 12 => 8
  | 13 => 24
  | 14 => 24
  | 15 => 8
  | 16 => 8
  | 17 => 8
  | 18 => 8
  | 19 => 8
  | 21 => 4
  | 22 => 24
  | 23 => 24
  | 24 => 88
  | 25 => 88
  | 26 => 104
  | 27 => 104
  | 28 => 8
  | 33 => 24
  | 39 => 24
  | 41 => 8
  | 42 => 8
  | 44 => 24
  | 45 => 72
  | 46 => 72
  | 68 => 24
  | 69 => 24
  | 70 => 24
  | 71 => 96
  | 72 => 96
  | 91 => 8
  | 95 => 24
  | 96 => 56
  | 97 => 56
  | 101 => 24
  | 107 => 8
  | 112 => 8
  | 113 => 24
  | 114 => 24
  | 115 => 24
  | 125 => 24
  | 141 => 8
  | 142 => 120
  | 143 => 120
  | 153 => 16
  | 154 => 16
  | 157 => 96
  | 158 => 96
  | 163 => 8
  | 166 => 8
  | 181 => 8
  | 192 => 8
  | 193 => 64
  | 194 => 64
  | 198 => 8
  | 205 => 4
  | 207 => 8
  | 213 => 8
  | 218 => 8
  | 222 => 40
  | 223 => 40
  | 228 => 1
  | 229 => 1
  | 231 => 8
  | 232 => 4
  | 233 => 4
  | _ => 0
def tZer : TypeId → List AV
  | 2 => [.int .i64 0]
  | 3 => [.int .i64 0]
  | 4 => [.bool false]
  | 5 => [.int .u8 0]
  | 6 => [.int .u8 0]
  | 7 => [.int .i64 0, .int .i64 0, .bool false, .int .u8 0]
  | 8 => [.int .i64 0, .int .i64 0, .bool false, .int .u8 0]
  | 9 => [.str []]
  | 10 => [.str []]
  | 11 => [.str []]
  | 12 => [.int .u64 0]
  | 13 => [.str [], .int .u64 0]
  | 14 => [.str [], .int .u64 0]
  | 15 => [.nilp]
  | 16 => [.nilp]
  | 17 => [.nilp]
  | 18 => [.nilp]
  | 19 => [.nilp]
  | 21 => [.int .i32 0]
  | 22 => [.nils]
  | 23 => [.nils]
  | 24 => [.int .i64 0, .int .i64 0, .int .i64 0, .str [], .int .i64 0, .str [], .nils]
  | 25 => [.int .i64 0, .int .i64 0, .int .i64 0, .str [], .int .i64 0, .str [], .nils]
  | 26 => [.int .i64 0, .int .i64 0, .int .i64 0, .str [], .int .i64 0, .str [], .nils, .int .i64 0, .int .i64 0]
  | 27 => [.int .i64 0, .int .i64 0, .int .i64 0, .str [], .int .i64 0, .str [], .nils, .int .i64 0, .int .i64 0]
  | 28 => [.int .i64 0]
  | 33 => [.nils]
  | 39 => [.nils]
  | 41 => [.nilm]
  | 42 => [.nilm]
  | 44 => [.nils]
  | 45 => [.int .i64 0, .bool false, .nils, .nils, .int .i64 0]
  | 46 => [.int .i64 0, .bool false, .nils, .nils, .int .i64 0]
  | 68 => [.nils]
  | 69 => [.nils]
  | 70 => [.nils]
  | 71 => [.int .i64 0, .bool false, .nils, .nils, .int .i64 0, .bool false, .int .i64 0, .int .i64 0]
  | 72 => [.int .i64 0, .bool false, .nils, .nils, .int .i64 0, .bool false, .int .i64 0, .int .i64 0]
  | 91 => [.nilm]
  | 95 => [.nils]
  | 96 => [.nils, .int .i64 0, .nils]
  | 97 => [.nils, .int .i64 0, .nils]
  | 101 => [.nils]
  | 107 => [.nilp]
  | 112 => [.nilp]
  | 113 => [.nils]
  | 114 => [.str [], .int .i64 0]
  | 115 => [.str [], .int .i64 0]
  | 125 => [.nils]
  | 141 => [.nilp]
  | 142 => [.nils, .int .i64 0, .int .i64 0, .int .i64 0, .str [], .int .i64 0, .str [], .nils, .int .i64 0]
  | 143 => [.nils, .int .i64 0, .int .i64 0, .int .i64 0, .str [], .int .i64 0, .str [], .nils, .int .i64 0]
  | 153 => [.int .i64 0, .int .i64 0]
  | 154 => [.int .i64 0, .int .i64 0]
  | 157 => [.int .i64 0, .int .i64 0, .int .i64 0, .int .i64 0, .str [], .int .i64 0, .str [], .nils]
  | 158 => [.int .i64 0, .int .i64 0, .int .i64 0, .int .i64 0, .str [], .int .i64 0, .str [], .nils]
  | 163 => [.nilm]
  | 166 => [.nilp]
  | 181 => [.int .u64 0]
  | 192 => [.nilp]
  | 193 => [.nils, .int .i64 0, .int .i64 0, .nilm, .nilm, .nilm]
  | 194 => [.nils, .int .i64 0, .int .i64 0, .nilm, .nilm, .nilm]
  | 198 => [.int .i64 0]
  | 205 => [.int .u32 0]
  | 207 => [.int .u64 0]
  | 213 => [.int .u64 0]
  | 218 => [.nilp]
  | 222 => [.nilp, .nilp, .nilp, .str []]
  | 223 => [.nilp, .nilp, .nilp, .str []]
  | 228 => [.int .u8 0]
  | 229 => [.int .u8 0]
  | 231 => [.nilp]
  | 232 => [.int .i32 0]
  | 233 => [.int .i32 0]
  | _ => []
def tFl : TypeId → List (TypeId × Nat)
  | 7 => [(2, 0), (3, 1), (4, 2), (6, 3)]
  | 8 => [(2, 0), (3, 1), (4, 2), (6, 3)]
  | 13 => [(9, 0), (12, 1)]
  | 14 => [(9, 0), (12, 1)]
  | 18 => [(17, 0)]
  | 19 => [(17, 0)]
  | 24 => [(3, 0), (3, 1), (3, 2), (9, 3), (3, 4), (9, 5), (23, 6)]
  | 25 => [(3, 0), (3, 1), (3, 2), (9, 3), (3, 4), (9, 5), (23, 6)]
  | 26 => [(25, 0), (3, 7), (3, 8)]
  | 27 => [(25, 0), (3, 7), (3, 8)]
  | 45 => [(3, 0), (4, 1), (23, 2), (44, 3), (3, 4)]
  | 46 => [(3, 0), (4, 1), (23, 2), (44, 3), (3, 4)]
  | 71 => [(46, 0), (4, 5), (3, 6), (3, 7)]
  | 72 => [(46, 0), (4, 5), (3, 6), (3, 7)]
  | 96 => [(39, 0), (3, 1), (95, 2)]
  | 97 => [(39, 0), (3, 1), (95, 2)]
  | 114 => [(9, 0), (3, 1)]
  | 115 => [(9, 0), (3, 1)]
  | 142 => [(39, 0), (25, 1), (3, 8)]
  | 143 => [(39, 0), (25, 1), (3, 8)]
  | 153 => [(28, 0), (3, 1)]
  | 154 => [(28, 0), (3, 1)]
  | 157 => [(3, 0), (25, 1)]
  | 158 => [(3, 0), (25, 1)]
  | 193 => [(39, 0), (3, 1), (3, 2), (163, 3), (91, 4), (91, 5)]
  | 194 => [(39, 0), (3, 1), (3, 2), (163, 3), (91, 4), (91, 5)]
  | 222 => [(17, 0), (17, 1), (17, 2), (9, 3)]
  | 223 => [(17, 0), (17, 1), (17, 2), (9, 3)]
  | _ => []
def tFld (t : TypeId) (j : Nat) : Option (TypeId × Nat) := (tFl t)[j]?
def tab : Tab := ⟨tUnd, tSiz, tByt, tZer, tFld⟩
@[go_sem] theorem tab_und_2 : tab.und 2 = (.int .i64) := rfl
@[go_sem] theorem tab_siz_2 : tab.siz 2 = 1 := rfl
@[go_sem] theorem tab_byt_2 : tab.byt 2 = 8 := rfl
@[go_sem] theorem tab_zer_2 : tab.zer 2 = [.int .i64 0] := rfl
@[go_sem] theorem tab_und_3 : tab.und 3 = (.int .i64) := rfl
@[go_sem] theorem tab_siz_3 : tab.siz 3 = 1 := rfl
@[go_sem] theorem tab_byt_3 : tab.byt 3 = 8 := rfl
@[go_sem] theorem tab_zer_3 : tab.zer 3 = [.int .i64 0] := rfl
@[go_sem] theorem tab_und_4 : tab.und 4 = .bool := rfl
@[go_sem] theorem tab_siz_4 : tab.siz 4 = 1 := rfl
@[go_sem] theorem tab_byt_4 : tab.byt 4 = 1 := rfl
@[go_sem] theorem tab_zer_4 : tab.zer 4 = [.bool false] := rfl
@[go_sem] theorem tab_und_5 : tab.und 5 = (.int .u8) := rfl
@[go_sem] theorem tab_siz_5 : tab.siz 5 = 1 := rfl
@[go_sem] theorem tab_byt_5 : tab.byt 5 = 1 := rfl
@[go_sem] theorem tab_zer_5 : tab.zer 5 = [.int .u8 0] := rfl
@[go_sem] theorem tab_und_6 : tab.und 6 = (.int .u8) := rfl
@[go_sem] theorem tab_siz_6 : tab.siz 6 = 1 := rfl
@[go_sem] theorem tab_byt_6 : tab.byt 6 = 1 := rfl
@[go_sem] theorem tab_zer_6 : tab.zer 6 = [.int .u8 0] := rfl
@[go_sem] theorem tab_und_7 : tab.und 7 = .struct := rfl
@[go_sem] theorem tab_siz_7 : tab.siz 7 = 4 := rfl
@[go_sem] theorem tab_byt_7 : tab.byt 7 = 24 := rfl
@[go_sem] theorem tab_zer_7 : tab.zer 7 = [.int .i64 0, .int .i64 0, .bool false, .int .u8 0] := rfl
@[go_sem] theorem tab_fld_7_0 : tab.fld 7 0 = some (2, 0) := rfl
@[go_sem] theorem tab_fld_7_1 : tab.fld 7 1 = some (3, 1) := rfl
@[go_sem] theorem tab_fld_7_2 : tab.fld 7 2 = some (4, 2) := rfl
@[go_sem] theorem tab_fld_7_3 : tab.fld 7 3 = some (6, 3) := rfl
@[go_sem] theorem tab_und_8 : tab.und 8 = .struct := rfl
@[go_sem] theorem tab_siz_8 : tab.siz 8 = 4 := rfl
@[go_sem] theorem tab_byt_8 : tab.byt 8 = 24 := rfl
@[go_sem] theorem tab_zer_8 : tab.zer 8 = [.int .i64 0, .int .i64 0, .bool false, .int .u8 0] := rfl
@[go_sem] theorem tab_fld_8_0 : tab.fld 8 0 = some (2, 0) := rfl
@[go_sem] theorem tab_fld_8_1 : tab.fld 8 1 = some (3, 1) := rfl
@[go_sem] theorem tab_fld_8_2 : tab.fld 8 2 = some (4, 2) := rfl
@[go_sem] theorem tab_fld_8_3 : tab.fld 8 3 = some (6, 3) := rfl
@[go_sem] theorem tab_und_9 : tab.und 9 = .str := rfl
@[go_sem] theorem tab_siz_9 : tab.siz 9 = 1 := rfl
@[go_sem] theorem tab_byt_9 : tab.byt 9 = 16 := rfl
@[go_sem] theorem tab_zer_9 : tab.zer 9 = [.str []] := rfl
@[go_sem] theorem tab_und_10 : tab.und 10 = .str := rfl
@[go_sem] theorem tab_siz_10 : tab.siz 10 = 1 := rfl
@[go_sem] theorem tab_byt_10 : tab.byt 10 = 16 := rfl
@[go_sem] theorem tab_zer_10 : tab.zer 10 = [.str []] := rfl
@[go_sem] theorem tab_und_11 : tab.und 11 = .str := rfl
@[go_sem] theorem tab_siz_11 : tab.siz 11 = 1 := rfl
@[go_sem] theorem tab_byt_11 : tab.byt 11 = 16 := rfl
@[go_sem] theorem tab_zer_11 : tab.zer 11 = [.str []] := rfl
@[go_sem] theorem tab_und_12 : tab.und 12 = (.int .u64) := rfl
@[go_sem] theorem tab_siz_12 : tab.siz 12 = 1 := rfl
@[go_sem] theorem tab_byt_12 : tab.byt 12 = 8 := rfl
@[go_sem] theorem tab_zer_12 : tab.zer 12 = [.int .u64 0] := rfl
@[go_sem] theorem tab_und_13 : tab.und 13 = .struct := rfl
@[go_sem] theorem tab_siz_13 : tab.siz 13 = 2 := rfl
@[go_sem] theorem tab_byt_13 : tab.byt 13 = 24 := rfl
@[go_sem] theorem tab_zer_13 : tab.zer 13 = [.str [], .int .u64 0] := rfl
@[go_sem] theorem tab_fld_13_0 : tab.fld 13 0 = some (9, 0) := rfl
@[go_sem] theorem tab_fld_13_1 : tab.fld 13 1 = some (12, 1) := rfl
@[go_sem] theorem tab_und_14 : tab.und 14 = .struct := rfl
@[go_sem] theorem tab_siz_14 : tab.siz 14 = 2 := rfl
@[go_sem] theorem tab_byt_14 : tab.byt 14 = 24 := rfl
@[go_sem] theorem tab_zer_14 : tab.zer 14 = [.str [], .int .u64 0] := rfl
@[go_sem] theorem tab_fld_14_0 : tab.fld 14 0 = some (9, 0) := rfl
@[go_sem] theorem tab_fld_14_1 : tab.fld 14 1 = some (12, 1) := rfl
@[go_sem] theorem tab_und_15 : tab.und 15 = (.ptr 223) := rfl
@[go_sem] theorem tab_siz_15 : tab.siz 15 = 1 := rfl
@[go_sem] theorem tab_byt_15 : tab.byt 15 = 8 := rfl
@[go_sem] theorem tab_zer_15 : tab.zer 15 = [.nilp] := rfl
@[go_sem] theorem tab_und_16 : tab.und 16 = (.ptr 226) := rfl
@[go_sem] theorem tab_siz_16 : tab.siz 16 = 1 := rfl
@[go_sem] theorem tab_byt_16 : tab.byt 16 = 8 := rfl
@[go_sem] theorem tab_zer_16 : tab.zer 16 = [.nilp] := rfl
@[go_sem] theorem tab_und_17 : tab.und 17 = (.ptr 235) := rfl
@[go_sem] theorem tab_siz_17 : tab.siz 17 = 1 := rfl
@[go_sem] theorem tab_byt_17 : tab.byt 17 = 8 := rfl
@[go_sem] theorem tab_zer_17 : tab.zer 17 = [.nilp] := rfl
@[go_sem] theorem tab_und_18 : tab.und 18 = .struct := rfl
@[go_sem] theorem tab_siz_18 : tab.siz 18 = 1 := rfl
@[go_sem] theorem tab_byt_18 : tab.byt 18 = 8 := rfl
@[go_sem] theorem tab_zer_18 : tab.zer 18 = [.nilp] := rfl
@[go_sem] theorem tab_fld_18_0 : tab.fld 18 0 = some (17, 0) := rfl
@[go_sem] theorem tab_und_19 : tab.und 19 = .struct := rfl
@[go_sem] theorem tab_siz_19 : tab.siz 19 = 1 := rfl
@[go_sem] theorem tab_byt_19 : tab.byt 19 = 8 := rfl
@[go_sem] theorem tab_zer_19 : tab.zer 19 = [.nilp] := rfl
@[go_sem] theorem tab_fld_19_0 : tab.fld 19 0 = some (17, 0) := rfl
@[go_sem] theorem tab_und_21 : tab.und 21 = (.int .i32) := rfl
@[go_sem] theorem tab_siz_21 : tab.siz 21 = 1 := rfl
@[go_sem] theorem tab_byt_21 : tab.byt 21 = 4 := rfl
@[go_sem] theorem tab_zer_21 : tab.zer 21 = [.int .i32 0] := rfl
@[go_sem] theorem tab_und_22 : tab.und 22 = (.sl 27) := rfl
@[go_sem] theorem tab_siz_22 : tab.siz 22 = 1 := rfl
@[go_sem] theorem tab_byt_22 : tab.byt 22 = 24 := rfl
@[go_sem] theorem tab_zer_22 : tab.zer 22 = [.nils] := rfl
@[go_sem] theorem tab_und_23 : tab.und 23 = (.sl 5) := rfl
@[go_sem] theorem tab_siz_23 : tab.siz 23 = 1 := rfl
@[go_sem] theorem tab_byt_23 : tab.byt 23 = 24 := rfl
@[go_sem] theorem tab_zer_23 : tab.zer 23 = [.nils] := rfl
@[go_sem] theorem tab_und_24 : tab.und 24 = .struct := rfl
@[go_sem] theorem tab_siz_24 : tab.siz 24 = 7 := rfl
@[go_sem] theorem tab_byt_24 : tab.byt 24 = 88 := rfl
@[go_sem] theorem tab_zer_24 : tab.zer 24 = [.int .i64 0, .int .i64 0, .int .i64 0, .str [], .int .i64 0, .str [], .nils] := rfl
@[go_sem] theorem tab_fld_24_0 : tab.fld 24 0 = some (3, 0) := rfl
@[go_sem] theorem tab_fld_24_1 : tab.fld 24 1 = some (3, 1) := rfl
@[go_sem] theorem tab_fld_24_2 : tab.fld 24 2 = some (3, 2) := rfl
@[go_sem] theorem tab_fld_24_3 : tab.fld 24 3 = some (9, 3) := rfl
@[go_sem] theorem tab_fld_24_4 : tab.fld 24 4 = some (3, 4) := rfl
@[go_sem] theorem tab_fld_24_5 : tab.fld 24 5 = some (9, 5) := rfl
@[go_sem] theorem tab_fld_24_6 : tab.fld 24 6 = some (23, 6) := rfl
@[go_sem] theorem tab_und_25 : tab.und 25 = .struct := rfl
@[go_sem] theorem tab_siz_25 : tab.siz 25 = 7 := rfl
@[go_sem] theorem tab_byt_25 : tab.byt 25 = 88 := rfl
@[go_sem] theorem tab_zer_25 : tab.zer 25 = [.int .i64 0, .int .i64 0, .int .i64 0, .str [], .int .i64 0, .str [], .nils] := rfl
@[go_sem] theorem tab_fld_25_0 : tab.fld 25 0 = some (3, 0) := rfl
@[go_sem] theorem tab_fld_25_1 : tab.fld 25 1 = some (3, 1) := rfl
@[go_sem] theorem tab_fld_25_2 : tab.fld 25 2 = some (3, 2) := rfl
@[go_sem] theorem tab_fld_25_3 : tab.fld 25 3 = some (9, 3) := rfl
@[go_sem] theorem tab_fld_25_4 : tab.fld 25 4 = some (3, 4) := rfl
@[go_sem] theorem tab_fld_25_5 : tab.fld 25 5 = some (9, 5) := rfl
@[go_sem] theorem tab_fld_25_6 : tab.fld 25 6 = some (23, 6) := rfl
@[go_sem] theorem tab_und_26 : tab.und 26 = .struct := rfl
@[go_sem] theorem tab_siz_26 : tab.siz 26 = 9 := rfl
@[go_sem] theorem tab_byt_26 : tab.byt 26 = 104 := rfl
@[go_sem] theorem tab_zer_26 : tab.zer 26 = [.int .i64 0, .int .i64 0, .int .i64 0, .str [], .int .i64 0, .str [], .nils, .int .i64 0, .int .i64 0] := rfl
@[go_sem] theorem tab_fld_26_0 : tab.fld 26 0 = some (25, 0) := rfl
@[go_sem] theorem tab_fld_26_1 : tab.fld 26 1 = some (3, 7) := rfl
@[go_sem] theorem tab_fld_26_2 : tab.fld 26 2 = some (3, 8) := rfl
@[go_sem] theorem tab_und_27 : tab.und 27 = .struct := rfl
@[go_sem] theorem tab_siz_27 : tab.siz 27 = 9 := rfl
@[go_sem] theorem tab_byt_27 : tab.byt 27 = 104 := rfl
@[go_sem] theorem tab_zer_27 : tab.zer 27 = [.int .i64 0, .int .i64 0, .int .i64 0, .str [], .int .i64 0, .str [], .nils, .int .i64 0, .int .i64 0] := rfl
@[go_sem] theorem tab_fld_27_0 : tab.fld 27 0 = some (25, 0) := rfl
@[go_sem] theorem tab_fld_27_1 : tab.fld 27 1 = some (3, 7) := rfl
@[go_sem] theorem tab_fld_27_2 : tab.fld 27 2 = some (3, 8) := rfl
@[go_sem] theorem tab_und_28 : tab.und 28 = (.int .i64) := rfl
@[go_sem] theorem tab_siz_28 : tab.siz 28 = 1 := rfl
@[go_sem] theorem tab_byt_28 : tab.byt 28 = 8 := rfl
@[go_sem] theorem tab_zer_28 : tab.zer 28 = [.int .i64 0] := rfl
@[go_sem] theorem tab_und_33 : tab.und 33 = (.sl 25) := rfl
@[go_sem] theorem tab_siz_33 : tab.siz 33 = 1 := rfl
@[go_sem] theorem tab_byt_33 : tab.byt 33 = 24 := rfl
@[go_sem] theorem tab_zer_33 : tab.zer 33 = [.nils] := rfl
@[go_sem] theorem tab_und_39 : tab.und 39 = (.sl 46) := rfl
@[go_sem] theorem tab_siz_39 : tab.siz 39 = 1 := rfl
@[go_sem] theorem tab_byt_39 : tab.byt 39 = 24 := rfl
@[go_sem] theorem tab_zer_39 : tab.zer 39 = [.nils] := rfl
@[go_sem] theorem tab_und_41 : tab.und 41 = (.map 3 46) := rfl
@[go_sem] theorem tab_siz_41 : tab.siz 41 = 1 := rfl
@[go_sem] theorem tab_byt_41 : tab.byt 41 = 8 := rfl
@[go_sem] theorem tab_zer_41 : tab.zer 41 = [.nilm] := rfl
@[go_sem] theorem tab_und_42 : tab.und 42 = (.map 3 46) := rfl
@[go_sem] theorem tab_siz_42 : tab.siz 42 = 1 := rfl
@[go_sem] theorem tab_byt_42 : tab.byt 42 = 8 := rfl
@[go_sem] theorem tab_zer_42 : tab.zer 42 = [.nilm] := rfl
@[go_sem] theorem tab_und_44 : tab.und 44 = (.sl 115) := rfl
@[go_sem] theorem tab_siz_44 : tab.siz 44 = 1 := rfl
@[go_sem] theorem tab_byt_44 : tab.byt 44 = 24 := rfl
@[go_sem] theorem tab_zer_44 : tab.zer 44 = [.nils] := rfl
@[go_sem] theorem tab_und_45 : tab.und 45 = .struct := rfl
@[go_sem] theorem tab_siz_45 : tab.siz 45 = 5 := rfl
@[go_sem] theorem tab_byt_45 : tab.byt 45 = 72 := rfl
@[go_sem] theorem tab_zer_45 : tab.zer 45 = [.int .i64 0, .bool false, .nils, .nils, .int .i64 0] := rfl
@[go_sem] theorem tab_fld_45_0 : tab.fld 45 0 = some (3, 0) := rfl
@[go_sem] theorem tab_fld_45_1 : tab.fld 45 1 = some (4, 1) := rfl
@[go_sem] theorem tab_fld_45_2 : tab.fld 45 2 = some (23, 2) := rfl
@[go_sem] theorem tab_fld_45_3 : tab.fld 45 3 = some (44, 3) := rfl
@[go_sem] theorem tab_fld_45_4 : tab.fld 45 4 = some (3, 4) := rfl
@[go_sem] theorem tab_und_46 : tab.und 46 = .struct := rfl
@[go_sem] theorem tab_siz_46 : tab.siz 46 = 5 := rfl
@[go_sem] theorem tab_byt_46 : tab.byt 46 = 72 := rfl
@[go_sem] theorem tab_zer_46 : tab.zer 46 = [.int .i64 0, .bool false, .nils, .nils, .int .i64 0] := rfl
@[go_sem] theorem tab_fld_46_0 : tab.fld 46 0 = some (3, 0) := rfl
@[go_sem] theorem tab_fld_46_1 : tab.fld 46 1 = some (4, 1) := rfl
@[go_sem] theorem tab_fld_46_2 : tab.fld 46 2 = some (23, 2) := rfl
@[go_sem] theorem tab_fld_46_3 : tab.fld 46 3 = some (44, 3) := rfl
@[go_sem] theorem tab_fld_46_4 : tab.fld 46 4 = some (3, 4) := rfl
@[go_sem] theorem tab_und_68 : tab.und 68 = (.sl 28) := rfl
@[go_sem] theorem tab_siz_68 : tab.siz 68 = 1 := rfl
@[go_sem] theorem tab_byt_68 : tab.byt 68 = 24 := rfl
@[go_sem] theorem tab_zer_68 : tab.zer 68 = [.nils] := rfl
@[go_sem] theorem tab_und_69 : tab.und 69 = (.sl 3) := rfl
@[go_sem] theorem tab_siz_69 : tab.siz 69 = 1 := rfl
@[go_sem] theorem tab_byt_69 : tab.byt 69 = 24 := rfl
@[go_sem] theorem tab_zer_69 : tab.zer 69 = [.nils] := rfl
@[go_sem] theorem tab_und_70 : tab.und 70 = (.sl 72) := rfl
@[go_sem] theorem tab_siz_70 : tab.siz 70 = 1 := rfl
@[go_sem] theorem tab_byt_70 : tab.byt 70 = 24 := rfl
@[go_sem] theorem tab_zer_70 : tab.zer 70 = [.nils] := rfl
@[go_sem] theorem tab_und_71 : tab.und 71 = .struct := rfl
@[go_sem] theorem tab_siz_71 : tab.siz 71 = 8 := rfl
@[go_sem] theorem tab_byt_71 : tab.byt 71 = 96 := rfl
@[go_sem] theorem tab_zer_71 : tab.zer 71 = [.int .i64 0, .bool false, .nils, .nils, .int .i64 0, .bool false, .int .i64 0, .int .i64 0] := rfl
@[go_sem] theorem tab_fld_71_0 : tab.fld 71 0 = some (46, 0) := rfl
@[go_sem] theorem tab_fld_71_1 : tab.fld 71 1 = some (4, 5) := rfl
@[go_sem] theorem tab_fld_71_2 : tab.fld 71 2 = some (3, 6) := rfl
@[go_sem] theorem tab_fld_71_3 : tab.fld 71 3 = some (3, 7) := rfl
@[go_sem] theorem tab_und_72 : tab.und 72 = .struct := rfl
@[go_sem] theorem tab_siz_72 : tab.siz 72 = 8 := rfl
@[go_sem] theorem tab_byt_72 : tab.byt 72 = 96 := rfl
@[go_sem] theorem tab_zer_72 : tab.zer 72 = [.int .i64 0, .bool false, .nils, .nils, .int .i64 0, .bool false, .int .i64 0, .int .i64 0] := rfl
@[go_sem] theorem tab_fld_72_0 : tab.fld 72 0 = some (46, 0) := rfl
@[go_sem] theorem tab_fld_72_1 : tab.fld 72 1 = some (4, 5) := rfl
@[go_sem] theorem tab_fld_72_2 : tab.fld 72 2 = some (3, 6) := rfl
@[go_sem] theorem tab_fld_72_3 : tab.fld 72 3 = some (3, 7) := rfl
@[go_sem] theorem tab_und_91 : tab.und 91 = (.map 3 4) := rfl
@[go_sem] theorem tab_siz_91 : tab.siz 91 = 1 := rfl
@[go_sem] theorem tab_byt_91 : tab.byt 91 = 8 := rfl
@[go_sem] theorem tab_zer_91 : tab.zer 91 = [.nilm] := rfl
@[go_sem] theorem tab_und_95 : tab.und 95 = (.sl 158) := rfl
@[go_sem] theorem tab_siz_95 : tab.siz 95 = 1 := rfl
@[go_sem] theorem tab_byt_95 : tab.byt 95 = 24 := rfl
@[go_sem] theorem tab_zer_95 : tab.zer 95 = [.nils] := rfl
@[go_sem] theorem tab_und_96 : tab.und 96 = .struct := rfl
@[go_sem] theorem tab_siz_96 : tab.siz 96 = 3 := rfl
@[go_sem] theorem tab_byt_96 : tab.byt 96 = 56 := rfl
@[go_sem] theorem tab_zer_96 : tab.zer 96 = [.nils, .int .i64 0, .nils] := rfl
@[go_sem] theorem tab_fld_96_0 : tab.fld 96 0 = some (39, 0) := rfl
@[go_sem] theorem tab_fld_96_1 : tab.fld 96 1 = some (3, 1) := rfl
@[go_sem] theorem tab_fld_96_2 : tab.fld 96 2 = some (95, 2) := rfl
@[go_sem] theorem tab_und_97 : tab.und 97 = .struct := rfl
@[go_sem] theorem tab_siz_97 : tab.siz 97 = 3 := rfl
@[go_sem] theorem tab_byt_97 : tab.byt 97 = 56 := rfl
@[go_sem] theorem tab_zer_97 : tab.zer 97 = [.nils, .int .i64 0, .nils] := rfl
@[go_sem] theorem tab_fld_97_0 : tab.fld 97 0 = some (39, 0) := rfl
@[go_sem] theorem tab_fld_97_1 : tab.fld 97 1 = some (3, 1) := rfl
@[go_sem] theorem tab_fld_97_2 : tab.fld 97 2 = some (95, 2) := rfl
@[go_sem] theorem tab_und_101 : tab.und 101 = (.sl 154) := rfl
@[go_sem] theorem tab_siz_101 : tab.siz 101 = 1 := rfl
@[go_sem] theorem tab_byt_101 : tab.byt 101 = 24 := rfl
@[go_sem] theorem tab_zer_101 : tab.zer 101 = [.nils] := rfl
@[go_sem] theorem tab_und_107 : tab.und 107 = (.ptr 27) := rfl
@[go_sem] theorem tab_siz_107 : tab.siz 107 = 1 := rfl
@[go_sem] theorem tab_byt_107 : tab.byt 107 = 8 := rfl
@[go_sem] theorem tab_zer_107 : tab.zer 107 = [.nilp] := rfl
@[go_sem] theorem tab_und_112 : tab.und 112 = (.ptr 3) := rfl
@[go_sem] theorem tab_siz_112 : tab.siz 112 = 1 := rfl
@[go_sem] theorem tab_byt_112 : tab.byt 112 = 8 := rfl
@[go_sem] theorem tab_zer_112 : tab.zer 112 = [.nilp] := rfl
@[go_sem] theorem tab_und_113 : tab.und 113 = (.sl 112) := rfl
@[go_sem] theorem tab_siz_113 : tab.siz 113 = 1 := rfl
@[go_sem] theorem tab_byt_113 : tab.byt 113 = 24 := rfl
@[go_sem] theorem tab_zer_113 : tab.zer 113 = [.nils] := rfl
@[go_sem] theorem tab_und_114 : tab.und 114 = .struct := rfl
@[go_sem] theorem tab_siz_114 : tab.siz 114 = 2 := rfl
@[go_sem] theorem tab_byt_114 : tab.byt 114 = 24 := rfl
@[go_sem] theorem tab_zer_114 : tab.zer 114 = [.str [], .int .i64 0] := rfl
@[go_sem] theorem tab_fld_114_0 : tab.fld 114 0 = some (9, 0) := rfl
@[go_sem] theorem tab_fld_114_1 : tab.fld 114 1 = some (3, 1) := rfl
@[go_sem] theorem tab_und_115 : tab.und 115 = .struct := rfl
@[go_sem] theorem tab_siz_115 : tab.siz 115 = 2 := rfl
@[go_sem] theorem tab_byt_115 : tab.byt 115 = 24 := rfl
@[go_sem] theorem tab_zer_115 : tab.zer 115 = [.str [], .int .i64 0] := rfl
@[go_sem] theorem tab_fld_115_0 : tab.fld 115 0 = some (9, 0) := rfl
@[go_sem] theorem tab_fld_115_1 : tab.fld 115 1 = some (3, 1) := rfl
@[go_sem] theorem tab_und_125 : tab.und 125 = (.sl 9) := rfl
@[go_sem] theorem tab_siz_125 : tab.siz 125 = 1 := rfl
@[go_sem] theorem tab_byt_125 : tab.byt 125 = 24 := rfl
@[go_sem] theorem tab_zer_125 : tab.zer 125 = [.nils] := rfl
@[go_sem] theorem tab_und_141 : tab.und 141 = (.ptr 143) := rfl
@[go_sem] theorem tab_siz_141 : tab.siz 141 = 1 := rfl
@[go_sem] theorem tab_byt_141 : tab.byt 141 = 8 := rfl
@[go_sem] theorem tab_zer_141 : tab.zer 141 = [.nilp] := rfl
@[go_sem] theorem tab_und_142 : tab.und 142 = .struct := rfl
@[go_sem] theorem tab_siz_142 : tab.siz 142 = 9 := rfl
@[go_sem] theorem tab_byt_142 : tab.byt 142 = 120 := rfl
@[go_sem] theorem tab_zer_142 : tab.zer 142 = [.nils, .int .i64 0, .int .i64 0, .int .i64 0, .str [], .int .i64 0, .str [], .nils, .int .i64 0] := rfl
@[go_sem] theorem tab_fld_142_0 : tab.fld 142 0 = some (39, 0) := rfl
@[go_sem] theorem tab_fld_142_1 : tab.fld 142 1 = some (25, 1) := rfl
@[go_sem] theorem tab_fld_142_2 : tab.fld 142 2 = some (3, 8) := rfl
@[go_sem] theorem tab_und_143 : tab.und 143 = .struct := rfl
@[go_sem] theorem tab_siz_143 : tab.siz 143 = 9 := rfl
@[go_sem] theorem tab_byt_143 : tab.byt 143 = 120 := rfl
@[go_sem] theorem tab_zer_143 : tab.zer 143 = [.nils, .int .i64 0, .int .i64 0, .int .i64 0, .str [], .int .i64 0, .str [], .nils, .int .i64 0] := rfl
@[go_sem] theorem tab_fld_143_0 : tab.fld 143 0 = some (39, 0) := rfl
@[go_sem] theorem tab_fld_143_1 : tab.fld 143 1 = some (25, 1) := rfl
@[go_sem] theorem tab_fld_143_2 : tab.fld 143 2 = some (3, 8) := rfl
@[go_sem] theorem tab_und_153 : tab.und 153 = .struct := rfl
@[go_sem] theorem tab_siz_153 : tab.siz 153 = 2 := rfl
@[go_sem] theorem tab_byt_153 : tab.byt 153 = 16 := rfl
@[go_sem] theorem tab_zer_153 : tab.zer 153 = [.int .i64 0, .int .i64 0] := rfl
@[go_sem] theorem tab_fld_153_0 : tab.fld 153 0 = some (28, 0) := rfl
@[go_sem] theorem tab_fld_153_1 : tab.fld 153 1 = some (3, 1) := rfl
@[go_sem] theorem tab_und_154 : tab.und 154 = .struct := rfl
@[go_sem] theorem tab_siz_154 : tab.siz 154 = 2 := rfl
@[go_sem] theorem tab_byt_154 : tab.byt 154 = 16 := rfl
@[go_sem] theorem tab_zer_154 : tab.zer 154 = [.int .i64 0, .int .i64 0] := rfl
@[go_sem] theorem tab_fld_154_0 : tab.fld 154 0 = some (28, 0) := rfl
@[go_sem] theorem tab_fld_154_1 : tab.fld 154 1 = some (3, 1) := rfl
@[go_sem] theorem tab_und_157 : tab.und 157 = .struct := rfl
@[go_sem] theorem tab_siz_157 : tab.siz 157 = 8 := rfl
@[go_sem] theorem tab_byt_157 : tab.byt 157 = 96 := rfl
@[go_sem] theorem tab_zer_157 : tab.zer 157 = [.int .i64 0, .int .i64 0, .int .i64 0, .int .i64 0, .str [], .int .i64 0, .str [], .nils] := rfl
@[go_sem] theorem tab_fld_157_0 : tab.fld 157 0 = some (3, 0) := rfl
@[go_sem] theorem tab_fld_157_1 : tab.fld 157 1 = some (25, 1) := rfl
@[go_sem] theorem tab_und_158 : tab.und 158 = .struct := rfl
@[go_sem] theorem tab_siz_158 : tab.siz 158 = 8 := rfl
@[go_sem] theorem tab_byt_158 : tab.byt 158 = 96 := rfl
@[go_sem] theorem tab_zer_158 : tab.zer 158 = [.int .i64 0, .int .i64 0, .int .i64 0, .int .i64 0, .str [], .int .i64 0, .str [], .nils] := rfl
@[go_sem] theorem tab_fld_158_0 : tab.fld 158 0 = some (3, 0) := rfl
@[go_sem] theorem tab_fld_158_1 : tab.fld 158 1 = some (25, 1) := rfl
@[go_sem] theorem tab_und_163 : tab.und 163 = (.map 3 3) := rfl
@[go_sem] theorem tab_siz_163 : tab.siz 163 = 1 := rfl
@[go_sem] theorem tab_byt_163 : tab.byt 163 = 8 := rfl
@[go_sem] theorem tab_zer_163 : tab.zer 163 = [.nilm] := rfl
@[go_sem] theorem tab_und_166 : tab.und 166 = (.ptr 25) := rfl
@[go_sem] theorem tab_siz_166 : tab.siz 166 = 1 := rfl
@[go_sem] theorem tab_byt_166 : tab.byt 166 = 8 := rfl
@[go_sem] theorem tab_zer_166 : tab.zer 166 = [.nilp] := rfl
@[go_sem] theorem tab_und_181 : tab.und 181 = (.int .u64) := rfl
@[go_sem] theorem tab_siz_181 : tab.siz 181 = 1 := rfl
@[go_sem] theorem tab_byt_181 : tab.byt 181 = 8 := rfl
@[go_sem] theorem tab_zer_181 : tab.zer 181 = [.int .u64 0] := rfl
@[go_sem] theorem tab_und_192 : tab.und 192 = (.ptr 194) := rfl
@[go_sem] theorem tab_siz_192 : tab.siz 192 = 1 := rfl
@[go_sem] theorem tab_byt_192 : tab.byt 192 = 8 := rfl
@[go_sem] theorem tab_zer_192 : tab.zer 192 = [.nilp] := rfl
@[go_sem] theorem tab_und_193 : tab.und 193 = .struct := rfl
@[go_sem] theorem tab_siz_193 : tab.siz 193 = 6 := rfl
@[go_sem] theorem tab_byt_193 : tab.byt 193 = 64 := rfl
@[go_sem] theorem tab_zer_193 : tab.zer 193 = [.nils, .int .i64 0, .int .i64 0, .nilm, .nilm, .nilm] := rfl
@[go_sem] theorem tab_fld_193_0 : tab.fld 193 0 = some (39, 0) := rfl
@[go_sem] theorem tab_fld_193_1 : tab.fld 193 1 = some (3, 1) := rfl
@[go_sem] theorem tab_fld_193_2 : tab.fld 193 2 = some (3, 2) := rfl
@[go_sem] theorem tab_fld_193_3 : tab.fld 193 3 = some (163, 3) := rfl
@[go_sem] theorem tab_fld_193_4 : tab.fld 193 4 = some (91, 4) := rfl
@[go_sem] theorem tab_fld_193_5 : tab.fld 193 5 = some (91, 5) := rfl
@[go_sem] theorem tab_und_194 : tab.und 194 = .struct := rfl
@[go_sem] theorem tab_siz_194 : tab.siz 194 = 6 := rfl
@[go_sem] theorem tab_byt_194 : tab.byt 194 = 64 := rfl
@[go_sem] theorem tab_zer_194 : tab.zer 194 = [.nils, .int .i64 0, .int .i64 0, .nilm, .nilm, .nilm] := rfl
@[go_sem] theorem tab_fld_194_0 : tab.fld 194 0 = some (39, 0) := rfl
@[go_sem] theorem tab_fld_194_1 : tab.fld 194 1 = some (3, 1) := rfl
@[go_sem] theorem tab_fld_194_2 : tab.fld 194 2 = some (3, 2) := rfl
@[go_sem] theorem tab_fld_194_3 : tab.fld 194 3 = some (163, 3) := rfl
@[go_sem] theorem tab_fld_194_4 : tab.fld 194 4 = some (91, 4) := rfl
@[go_sem] theorem tab_fld_194_5 : tab.fld 194 5 = some (91, 5) := rfl
@[go_sem] theorem tab_und_198 : tab.und 198 = (.int .i64) := rfl
@[go_sem] theorem tab_siz_198 : tab.siz 198 = 1 := rfl
@[go_sem] theorem tab_byt_198 : tab.byt 198 = 8 := rfl
@[go_sem] theorem tab_zer_198 : tab.zer 198 = [.int .i64 0] := rfl
@[go_sem] theorem tab_und_205 : tab.und 205 = (.int .u32) := rfl
@[go_sem] theorem tab_siz_205 : tab.siz 205 = 1 := rfl
@[go_sem] theorem tab_byt_205 : tab.byt 205 = 4 := rfl
@[go_sem] theorem tab_zer_205 : tab.zer 205 = [.int .u32 0] := rfl
@[go_sem] theorem tab_und_207 : tab.und 207 = (.int .u64) := rfl
@[go_sem] theorem tab_siz_207 : tab.siz 207 = 1 := rfl
@[go_sem] theorem tab_byt_207 : tab.byt 207 = 8 := rfl
@[go_sem] theorem tab_zer_207 : tab.zer 207 = [.int .u64 0] := rfl
@[go_sem] theorem tab_und_213 : tab.und 213 = (.int .u64) := rfl
@[go_sem] theorem tab_siz_213 : tab.siz 213 = 1 := rfl
@[go_sem] theorem tab_byt_213 : tab.byt 213 = 8 := rfl
@[go_sem] theorem tab_zer_213 : tab.zer 213 = [.int .u64 0] := rfl
@[go_sem] theorem tab_und_218 : tab.und 218 = (.ptr 213) := rfl
@[go_sem] theorem tab_siz_218 : tab.siz 218 = 1 := rfl
@[go_sem] theorem tab_byt_218 : tab.byt 218 = 8 := rfl
@[go_sem] theorem tab_zer_218 : tab.zer 218 = [.nilp] := rfl
@[go_sem] theorem tab_und_222 : tab.und 222 = .struct := rfl
@[go_sem] theorem tab_siz_222 : tab.siz 222 = 4 := rfl
@[go_sem] theorem tab_byt_222 : tab.byt 222 = 40 := rfl
@[go_sem] theorem tab_zer_222 : tab.zer 222 = [.nilp, .nilp, .nilp, .str []] := rfl
@[go_sem] theorem tab_fld_222_0 : tab.fld 222 0 = some (17, 0) := rfl
@[go_sem] theorem tab_fld_222_1 : tab.fld 222 1 = some (17, 1) := rfl
@[go_sem] theorem tab_fld_222_2 : tab.fld 222 2 = some (17, 2) := rfl
@[go_sem] theorem tab_fld_222_3 : tab.fld 222 3 = some (9, 3) := rfl
@[go_sem] theorem tab_und_223 : tab.und 223 = .struct := rfl
@[go_sem] theorem tab_siz_223 : tab.siz 223 = 4 := rfl
@[go_sem] theorem tab_byt_223 : tab.byt 223 = 40 := rfl
@[go_sem] theorem tab_zer_223 : tab.zer 223 = [.nilp, .nilp, .nilp, .str []] := rfl
@[go_sem] theorem tab_fld_223_0 : tab.fld 223 0 = some (17, 0) := rfl
@[go_sem] theorem tab_fld_223_1 : tab.fld 223 1 = some (17, 1) := rfl
@[go_sem] theorem tab_fld_223_2 : tab.fld 223 2 = some (17, 2) := rfl
@[go_sem] theorem tab_fld_223_3 : tab.fld 223 3 = some (9, 3) := rfl
@[go_sem] theorem tab_und_228 : tab.und 228 = (.int .u8) := rfl
@[go_sem] theorem tab_siz_228 : tab.siz 228 = 1 := rfl
@[go_sem] theorem tab_byt_228 : tab.byt 228 = 1 := rfl
@[go_sem] theorem tab_zer_228 : tab.zer 228 = [.int .u8 0] := rfl
@[go_sem] theorem tab_und_229 : tab.und 229 = (.int .u8) := rfl
@[go_sem] theorem tab_siz_229 : tab.siz 229 = 1 := rfl
@[go_sem] theorem tab_byt_229 : tab.byt 229 = 1 := rfl
@[go_sem] theorem tab_zer_229 : tab.zer 229 = [.int .u8 0] := rfl
@[go_sem] theorem tab_und_231 : tab.und 231 = (.ptr 5) := rfl
@[go_sem] theorem tab_siz_231 : tab.siz 231 = 1 := rfl
@[go_sem] theorem tab_byt_231 : tab.byt 231 = 8 := rfl
@[go_sem] theorem tab_zer_231 : tab.zer 231 = [.nilp] := rfl
@[go_sem] theorem tab_und_232 : tab.und 232 = (.int .i32) := rfl
@[go_sem] theorem tab_siz_232 : tab.siz 232 = 1 := rfl
@[go_sem] theorem tab_byt_232 : tab.byt 232 = 4 := rfl
@[go_sem] theorem tab_zer_232 : tab.zer 232 = [.int .i32 0] := rfl
@[go_sem] theorem tab_und_233 : tab.und 233 = (.int .i32) := rfl
@[go_sem] theorem tab_siz_233 : tab.siz 233 = 1 := rfl
@[go_sem] theorem tab_byt_233 : tab.byt 233 = 4 := rfl
@[go_sem] theorem tab_zer_233 : tab.zer 233 = [.int .i32 0] := rfl
set_option maxHeartbeats 4000000 in
theorem tab_und_ok : ∀ t, KDOK Go.Proofs.Try.prog t (tUnd t) := by
  intro t
  unfold tUnd
  split
  · exact Go.Proofs.Try.underlying2
  · exact Go.Proofs.Try.underlying3
  · exact Go.Proofs.Try.underlying4
  · exact Go.Proofs.Try.underlying5
  · exact Go.Proofs.Try.underlying6
  · exact ⟨_, Go.Proofs.Try.underlying7, by intro f hf; simp at hf; rcases hf with rfl | rfl | rfl | rfl <;> kernel_rfl⟩
  · exact ⟨_, Go.Proofs.Try.underlying8, by intro f hf; simp at hf; rcases hf with rfl | rfl | rfl | rfl <;> kernel_rfl⟩
  · exact Go.Proofs.Try.underlying9
  · exact Go.Proofs.Try.underlying10
  · exact Go.Proofs.Try.underlying11
  · exact Go.Proofs.Try.underlying12
  · exact ⟨_, Go.Proofs.Try.underlying13, by intro f hf; simp at hf; rcases hf with rfl | rfl <;> kernel_rfl⟩
  · exact ⟨_, Go.Proofs.Try.underlying14, by intro f hf; simp at hf; rcases hf with rfl | rfl <;> kernel_rfl⟩
  · exact Go.Proofs.Try.underlying15
  · exact Go.Proofs.Try.underlying16
  · exact Go.Proofs.Try.underlying17
  · exact ⟨_, Go.Proofs.Try.underlying18, by intro f hf; simp at hf; rcases hf with rfl <;> kernel_rfl⟩
  · exact ⟨_, Go.Proofs.Try.underlying19, by intro f hf; simp at hf; rcases hf with rfl <;> kernel_rfl⟩
  · exact Go.Proofs.Try.underlying21
  · exact Go.Proofs.Try.underlying22
  · exact Go.Proofs.Try.underlying23
  · exact ⟨_, Go.Proofs.Try.underlying24, by intro f hf; simp at hf; rcases hf with rfl | rfl | rfl | rfl | rfl | rfl | rfl <;> kernel_rfl⟩
  · exact ⟨_, Go.Proofs.Try.underlying25, by intro f hf; simp at hf; rcases hf with rfl | rfl | rfl | rfl | rfl | rfl | rfl <;> kernel_rfl⟩
  · exact ⟨_, Go.Proofs.Try.underlying26, by intro f hf; simp at hf; rcases hf with rfl | rfl | rfl <;> kernel_rfl⟩
  · exact ⟨_, Go.Proofs.Try.underlying27, by intro f hf; simp at hf; rcases hf with rfl | rfl | rfl <;> kernel_rfl⟩
  · exact Go.Proofs.Try.underlying28
  · exact Go.Proofs.Try.underlying33
  · exact Go.Proofs.Try.underlying39
  · exact Go.Proofs.Try.underlying41
  · exact Go.Proofs.Try.underlying42
  · exact Go.Proofs.Try.underlying44
  · exact ⟨_, Go.Proofs.Try.underlying45, by intro f hf; simp at hf; rcases hf with rfl | rfl | rfl | rfl | rfl <;> kernel_rfl⟩
  · exact ⟨_, Go.Proofs.Try.underlying46, by intro f hf; simp at hf; rcases hf with rfl | rfl | rfl | rfl | rfl <;> kernel_rfl⟩
  · exact Go.Proofs.Try.underlying68
  · exact Go.Proofs.Try.underlying69
  · exact Go.Proofs.Try.underlying70
  · exact ⟨_, Go.Proofs.Try.underlying71, by intro f hf; simp at hf; rcases hf with rfl | rfl | rfl | rfl <;> kernel_rfl⟩
  · exact ⟨_, Go.Proofs.Try.underlying72, by intro f hf; simp at hf; rcases hf with rfl | rfl | rfl | rfl <;> kernel_rfl⟩
  · exact Go.Proofs.Try.underlying91
  · exact Go.Proofs.Try.underlying95
  · exact ⟨_, Go.Proofs.Try.underlying96, by intro f hf; simp at hf; rcases hf with rfl | rfl | rfl <;> kernel_rfl⟩
  · exact ⟨_, Go.Proofs.Try.underlying97, by intro f hf; simp at hf; rcases hf with rfl | rfl | rfl <;> kernel_rfl⟩
  · exact Go.Proofs.Try.underlying101
  · exact Go.Proofs.Try.underlying107
  · exact Go.Proofs.Try.underlying112
  · exact Go.Proofs.Try.underlying113
  · exact ⟨_, Go.Proofs.Try.underlying114, by intro f hf; simp at hf; rcases hf with rfl | rfl <;> kernel_rfl⟩
  · exact ⟨_, Go.Proofs.Try.underlying115, by intro f hf; simp at hf; rcases hf with rfl | rfl <;> kernel_rfl⟩
  · exact Go.Proofs.Try.underlying125
  · exact Go.Proofs.Try.underlying141
  · exact ⟨_, Go.Proofs.Try.underlying142, by intro f hf; simp at hf; rcases hf with rfl | rfl | rfl <;> kernel_rfl⟩
  · exact ⟨_, Go.Proofs.Try.underlying143, by intro f hf; simp at hf; rcases hf with rfl | rfl | rfl <;> kernel_rfl⟩
  · exact ⟨_, Go.Proofs.Try.underlying153, by intro f hf; simp at hf; rcases hf with rfl | rfl <;> kernel_rfl⟩
  · exact ⟨_, Go.Proofs.Try.underlying154, by intro f hf; simp at hf; rcases hf with rfl | rfl <;> kernel_rfl⟩
  · exact ⟨_, Go.Proofs.Try.underlying157, by intro f hf; simp at hf; rcases hf with rfl | rfl <;> kernel_rfl⟩
  · exact ⟨_, Go.Proofs.Try.underlying158, by intro f hf; simp at hf; rcases hf with rfl | rfl <;> kernel_rfl⟩
  · exact Go.Proofs.Try.underlying163
  · exact Go.Proofs.Try.underlying166
  · exact Go.Proofs.Try.underlying181
  · exact Go.Proofs.Try.underlying192
  · exact ⟨_, Go.Proofs.Try.underlying193, by intro f hf; simp at hf; rcases hf with rfl | rfl | rfl | rfl | rfl | rfl <;> kernel_rfl⟩
  · exact ⟨_, Go.Proofs.Try.underlying194, by intro f hf; simp at hf; rcases hf with rfl | rfl | rfl | rfl | rfl | rfl <;> kernel_rfl⟩
  · exact Go.Proofs.Try.underlying198
  · exact Go.Proofs.Try.underlying205
  · exact Go.Proofs.Try.underlying207
  · exact Go.Proofs.Try.underlying213
  · exact Go.Proofs.Try.underlying218
  · exact ⟨_, Go.Proofs.Try.underlying222, by intro f hf; simp at hf; rcases hf with rfl | rfl | rfl | rfl <;> kernel_rfl⟩
  · exact ⟨_, Go.Proofs.Try.underlying223, by intro f hf; simp at hf; rcases hf with rfl | rfl | rfl | rfl <;> kernel_rfl⟩
  · exact Go.Proofs.Try.underlying228
  · exact Go.Proofs.Try.underlying229
  · exact Go.Proofs.Try.underlying231
  · exact Go.Proofs.Try.underlying232
  · exact Go.Proofs.Try.underlying233
  · trivial
set_option maxHeartbeats 4000000 in
theorem tab_siz_ok : ∀ t, tSiz t ≠ 0 → ∃ i, (Go.Proofs.Try.prog).info? t = some i ∧ i.size = tSiz t ∧ i.bytes = tByt t ∧ ∃ z, i.zero = some z ∧ z.cells.toList.map ofValue = tZer t ∧ z.cells.size = tSiz t ∧
    (tUnd t).isA = some (match z with | .agg _ => true | _ => false) := by
  intro t h
  revert h
  unfold tSiz
  split
  · exact fun _ => ⟨Go.Proofs.Try.t2, by kernel_rfl, rfl, rfl, _, rfl, rfl, rfl, rfl⟩
  · exact fun _ => ⟨Go.Proofs.Try.t3, by kernel_rfl, rfl, rfl, _, rfl, rfl, rfl, rfl⟩
  · exact fun _ => ⟨Go.Proofs.Try.t4, by kernel_rfl, rfl, rfl, _, rfl, rfl, rfl, rfl⟩
  · exact fun _ => ⟨Go.Proofs.Try.t5, by kernel_rfl, rfl, rfl, _, rfl, rfl, rfl, rfl⟩
  · exact fun _ => ⟨Go.Proofs.Try.t6, by kernel_rfl, rfl, rfl, _, rfl, rfl, rfl, rfl⟩
  · exact fun _ => ⟨Go.Proofs.Try.t7, by kernel_rfl, rfl, rfl, _, rfl, rfl, rfl, rfl⟩
  · exact fun _ => ⟨Go.Proofs.Try.t8, by kernel_rfl, rfl, rfl, _, rfl, rfl, rfl, rfl⟩
  · exact fun _ => ⟨Go.Proofs.Try.t9, by kernel_rfl, rfl, rfl, _, rfl, rfl, rfl, rfl⟩
  · exact fun _ => ⟨Go.Proofs.Try.t10, by kernel_rfl, rfl, rfl, _, rfl, rfl, rfl, rfl⟩
  · exact fun _ => ⟨Go.Proofs.Try.t11, by kernel_rfl, rfl, rfl, _, rfl, rfl, rfl, rfl⟩
  · exact fun _ => ⟨Go.Proofs.Try.t12, by kernel_rfl, rfl, rfl, _, rfl, rfl, rfl, rfl⟩
  · exact fun _ => ⟨Go.Proofs.Try.t13, by kernel_rfl, rfl, rfl, _, rfl, rfl, rfl, rfl⟩
  · exact fun _ => ⟨Go.Proofs.Try.t14, by kernel_rfl, rfl, rfl, _, rfl, rfl, rfl, rfl⟩
  · exact fun _ => ⟨Go.Proofs.Try.t15, by kernel_rfl, rfl, rfl, _, rfl, rfl, rfl, rfl⟩
  · exact fun _ => ⟨Go.Proofs.Try.t16, by kernel_rfl, rfl, rfl, _, rfl, rfl, rfl, rfl⟩
  · exact fun _ => ⟨Go.Proofs.Try.t17, by kernel_rfl, rfl, rfl, _, rfl, rfl, rfl, rfl⟩
  · exact fun _ => ⟨Go.Proofs.Try.t18, by kernel_rfl, rfl, rfl, _, rfl, rfl, rfl, rfl⟩
  · exact fun _ => ⟨Go.Proofs.Try.t19, by kernel_rfl, rfl, rfl, _, rfl, rfl, rfl, rfl⟩
  · exact fun _ => ⟨Go.Proofs.Try.t21, by kernel_rfl, rfl, rfl, _, rfl, rfl, rfl, rfl⟩
  · exact fun _ => ⟨Go.Proofs.Try.t22, by kernel_rfl, rfl, rfl, _, rfl, rfl, rfl, rfl⟩
  · exact fun _ => ⟨Go.Proofs.Try.t23, by kernel_rfl, rfl, rfl, _, rfl, rfl, rfl, rfl⟩
  · exact fun _ => ⟨Go.Proofs.Try.t24, by kernel_rfl, rfl, rfl, _, rfl, rfl, rfl, rfl⟩
  · exact fun _ => ⟨Go.Proofs.Try.t25, by kernel_rfl, rfl, rfl, _, rfl, rfl, rfl, rfl⟩
  · exact fun _ => ⟨Go.Proofs.Try.t26, by kernel_rfl, rfl, rfl, _, rfl, rfl, rfl, rfl⟩
  · exact fun _ => ⟨Go.Proofs.Try.t27, by kernel_rfl, rfl, rfl, _, rfl, rfl, rfl, rfl⟩
  · exact fun _ => ⟨Go.Proofs.Try.t28, by kernel_rfl, rfl, rfl, _, rfl, rfl, rfl, rfl⟩
  · exact fun _ => ⟨Go.Proofs.Try.t33, by kernel_rfl, rfl, rfl, _, rfl, rfl, rfl, rfl⟩
  · exact fun _ => ⟨Go.Proofs.Try.t39, by kernel_rfl, rfl, rfl, _, rfl, rfl, rfl, rfl⟩
  · exact fun _ => ⟨Go.Proofs.Try.t41, by kernel_rfl, rfl, rfl, _, rfl, rfl, rfl, rfl⟩
  · exact fun _ => ⟨Go.Proofs.Try.t42, by kernel_rfl, rfl, rfl, _, rfl, rfl, rfl, rfl⟩
  · exact fun _ => ⟨Go.Proofs.Try.t44, by kernel_rfl, rfl, rfl, _, rfl, rfl, rfl, rfl⟩
  · exact fun _ => ⟨Go.Proofs.Try.t45, by kernel_rfl, rfl, rfl, _, rfl, rfl, rfl, rfl⟩
  · exact fun _ => ⟨Go.Proofs.Try.t46, by kernel_rfl, rfl, rfl, _, rfl, rfl, rfl, rfl⟩
  · exact fun _ => ⟨Go.Proofs.Try.t68, by kernel_rfl, rfl, rfl, _, rfl, rfl, rfl, rfl⟩
  · exact fun _ => ⟨Go.Proofs.Try.t69, by kernel_rfl, rfl, rfl, _, rfl, rfl, rfl, rfl⟩
  · exact fun _ => ⟨Go.Proofs.Try.t70, by kernel_rfl, rfl, rfl, _, rfl, rfl, rfl, rfl⟩
  · exact fun _ => ⟨Go.Proofs.Try.t71, by kernel_rfl, rfl, rfl, _, rfl, rfl, rfl, rfl⟩
  · exact fun _ => ⟨Go.Proofs.Try.t72, by kernel_rfl, rfl, rfl, _, rfl, rfl, rfl, rfl⟩
  · exact fun _ => ⟨Go.Proofs.Try.t91, by kernel_rfl, rfl, rfl, _, rfl, rfl, rfl, rfl⟩
  · exact fun _ => ⟨Go.Proofs.Try.t95, by kernel_rfl, rfl, rfl, _, rfl, rfl, rfl, rfl⟩
  · exact fun _ => ⟨Go.Proofs.Try.t96, by kernel_rfl, rfl, rfl, _, rfl, rfl, rfl, rfl⟩
  · exact fun _ => ⟨Go.Proofs.Try.t97, by kernel_rfl, rfl, rfl, _, rfl, rfl, rfl, rfl⟩
  · exact fun _ => ⟨Go.Proofs.Try.t101, by kernel_rfl, rfl, rfl, _, rfl, rfl, rfl, rfl⟩
  · exact fun _ => ⟨Go.Proofs.Try.t107, by kernel_rfl, rfl, rfl, _, rfl, rfl, rfl, rfl⟩
  · exact fun _ => ⟨Go.Proofs.Try.t112, by kernel_rfl, rfl, rfl, _, rfl, rfl, rfl, rfl⟩
  · exact fun _ => ⟨Go.Proofs.Try.t113, by kernel_rfl, rfl, rfl, _, rfl, rfl, rfl, rfl⟩
  · exact fun _ => ⟨Go.Proofs.Try.t114, by kernel_rfl, rfl, rfl, _, rfl, rfl, rfl, rfl⟩
  · exact fun _ => ⟨Go.Proofs.Try.t115, by kernel_rfl, rfl, rfl, _, rfl, rfl, rfl, rfl⟩
  · exact fun _ => ⟨Go.Proofs.Try.t125, by kernel_rfl, rfl, rfl, _, rfl, rfl, rfl, rfl⟩
  · exact fun _ => ⟨Go.Proofs.Try.t141, by kernel_rfl, rfl, rfl, _, rfl, rfl, rfl, rfl⟩
  · exact fun _ => ⟨Go.Proofs.Try.t142, by kernel_rfl, rfl, rfl, _, rfl, rfl, rfl, rfl⟩
  · exact fun _ => ⟨Go.Proofs.Try.t143, by kernel_rfl, rfl, rfl, _, rfl, rfl, rfl, rfl⟩
  · exact fun _ => ⟨Go.Proofs.Try.t153, by kernel_rfl, rfl, rfl, _, rfl, rfl, rfl, rfl⟩
  · exact fun _ => ⟨Go.Proofs.Try.t154, by kernel_rfl, rfl, rfl, _, rfl, rfl, rfl, rfl⟩
  · exact fun _ => ⟨Go.Proofs.Try.t157, by kernel_rfl, rfl, rfl, _, rfl, rfl, rfl, rfl⟩
  · exact fun _ => ⟨Go.Proofs.Try.t158, by kernel_rfl, rfl, rfl, _, rfl, rfl, rfl, rfl⟩
  · exact fun _ => ⟨Go.Proofs.Try.t163, by kernel_rfl, rfl, rfl, _, rfl, rfl, rfl, rfl⟩
  · exact fun _ => ⟨Go.Proofs.Try.t166, by kernel_rfl, rfl, rfl, _, rfl, rfl, rfl, rfl⟩
  · exact fun _ => ⟨Go.Proofs.Try.t181, by kernel_rfl, rfl, rfl, _, rfl, rfl, rfl, rfl⟩
  · exact fun _ => ⟨Go.Proofs.Try.t192, by kernel_rfl, rfl, rfl, _, rfl, rfl, rfl, rfl⟩
  · exact fun _ => ⟨Go.Proofs.Try.t193, by kernel_rfl, rfl, rfl, _, rfl, rfl, rfl, rfl⟩
  · exact fun _ => ⟨Go.Proofs.Try.t194, by kernel_rfl, rfl, rfl, _, rfl, rfl, rfl, rfl⟩
  · exact fun _ => ⟨Go.Proofs.Try.t198, by kernel_rfl, rfl, rfl, _, rfl, rfl, rfl, rfl⟩
  · exact fun _ => ⟨Go.Proofs.Try.t205, by kernel_rfl, rfl, rfl, _, rfl, rfl, rfl, rfl⟩
  · exact fun _ => ⟨Go.Proofs.Try.t207, by kernel_rfl, rfl, rfl, _, rfl, rfl, rfl, rfl⟩
  · exact fun _ => ⟨Go.Proofs.Try.t213, by kernel_rfl, rfl, rfl, _, rfl, rfl, rfl, rfl⟩
  · exact fun _ => ⟨Go.Proofs.Try.t218, by kernel_rfl, rfl, rfl, _, rfl, rfl, rfl, rfl⟩
  · exact fun _ => ⟨Go.Proofs.Try.t222, by kernel_rfl, rfl, rfl, _, rfl, rfl, rfl, rfl⟩
  · exact fun _ => ⟨Go.Proofs.Try.t223, by kernel_rfl, rfl, rfl, _, rfl, rfl, rfl, rfl⟩
  · exact fun _ => ⟨Go.Proofs.Try.t228, by kernel_rfl, rfl, rfl, _, rfl, rfl, rfl, rfl⟩
  · exact fun _ => ⟨Go.Proofs.Try.t229, by kernel_rfl, rfl, rfl, _, rfl, rfl, rfl, rfl⟩
  · exact fun _ => ⟨Go.Proofs.Try.t231, by kernel_rfl, rfl, rfl, _, rfl, rfl, rfl, rfl⟩
  · exact fun _ => ⟨Go.Proofs.Try.t232, by kernel_rfl, rfl, rfl, _, rfl, rfl, rfl, rfl⟩
  · exact fun _ => ⟨Go.Proofs.Try.t233, by kernel_rfl, rfl, rfl, _, rfl, rfl, rfl, rfl⟩
  · exact fun h => absurd rfl h
theorem tab_fl_ok : ∀ t, tFl t = [] ∨ ∃ F : Array Field, (Go.Proofs.Try.prog).underlying t = some (.struct F) ∧ F.toList.map (fun f => (f.type, f.offset)) = tFl t ∧ ∀ x, x ∈ tFl t → tSiz x.1 ≠ 0 := by
  intro t
  unfold tFl
  split
  · exact .inr ⟨_, Go.Proofs.Try.underlying7, rfl, by decide⟩
  · exact .inr ⟨_, Go.Proofs.Try.underlying8, rfl, by decide⟩
  · exact .inr ⟨_, Go.Proofs.Try.underlying13, rfl, by decide⟩
  · exact .inr ⟨_, Go.Proofs.Try.underlying14, rfl, by decide⟩
  · exact .inr ⟨_, Go.Proofs.Try.underlying18, rfl, by decide⟩
  · exact .inr ⟨_, Go.Proofs.Try.underlying19, rfl, by decide⟩
  · exact .inr ⟨_, Go.Proofs.Try.underlying24, rfl, by decide⟩
  · exact .inr ⟨_, Go.Proofs.Try.underlying25, rfl, by decide⟩
  · exact .inr ⟨_, Go.Proofs.Try.underlying26, rfl, by decide⟩
  · exact .inr ⟨_, Go.Proofs.Try.underlying27, rfl, by decide⟩
  · exact .inr ⟨_, Go.Proofs.Try.underlying45, rfl, by decide⟩
  · exact .inr ⟨_, Go.Proofs.Try.underlying46, rfl, by decide⟩
  · exact .inr ⟨_, Go.Proofs.Try.underlying71, rfl, by decide⟩
  · exact .inr ⟨_, Go.Proofs.Try.underlying72, rfl, by decide⟩
  · exact .inr ⟨_, Go.Proofs.Try.underlying96, rfl, by decide⟩
  · exact .inr ⟨_, Go.Proofs.Try.underlying97, rfl, by decide⟩
  · exact .inr ⟨_, Go.Proofs.Try.underlying114, rfl, by decide⟩
  · exact .inr ⟨_, Go.Proofs.Try.underlying115, rfl, by decide⟩
  · exact .inr ⟨_, Go.Proofs.Try.underlying142, rfl, by decide⟩
  · exact .inr ⟨_, Go.Proofs.Try.underlying143, rfl, by decide⟩
  · exact .inr ⟨_, Go.Proofs.Try.underlying153, rfl, by decide⟩
  · exact .inr ⟨_, Go.Proofs.Try.underlying154, rfl, by decide⟩
  · exact .inr ⟨_, Go.Proofs.Try.underlying157, rfl, by decide⟩
  · exact .inr ⟨_, Go.Proofs.Try.underlying158, rfl, by decide⟩
  · exact .inr ⟨_, Go.Proofs.Try.underlying193, rfl, by decide⟩
  · exact .inr ⟨_, Go.Proofs.Try.underlying194, rfl, by decide⟩
  · exact .inr ⟨_, Go.Proofs.Try.underlying222, rfl, by decide⟩
  · exact .inr ⟨_, Go.Proofs.Try.underlying223, rfl, by decide⟩
  · exact .inl rfl
theorem tab_fld_ok : ∀ t j ft off, tFld t j = some (ft, off) → ∃ F f, (Go.Proofs.Try.prog).underlying t = some (.struct F) ∧ F[j]? = some f ∧ f.type = ft ∧ f.offset = off ∧ tSiz ft ≠ 0 := by
  intro t j ft off h
  unfold tFld at h
  rcases tab_fl_ok t with e | ⟨F, h1, h2, h3⟩
  · rw [e] at h; simp at h
  · have h4 := h3 _ (List.mem_of_getElem? h)
    rw [← h2, List.getElem?_map, Array.getElem?_toList] at h
    cases e : F[j]? with
    | none => rw [e] at h; cases h
    | some f =>
      rw [e] at h
      simp only [Option.map_some, Option.some.injEq, Prod.mk.injEq] at h
      exact ⟨F, f, h1, e, h.1, h.2, h4⟩
theorem tabOK : TabOK Go.Proofs.Try.prog tab := ⟨tab_und_ok, tab_siz_ok, tab_fld_ok⟩
end Go.Eng
