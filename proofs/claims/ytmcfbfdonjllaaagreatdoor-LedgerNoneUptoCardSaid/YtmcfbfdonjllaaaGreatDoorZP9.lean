/- Texts of this claim, part 9: Tab, Mod, EngQ, Bas. No condition. -/
import Derived.Test.YtmcfbfdonjllaaaGreatDoorProg
import Derived.KernelRfl
import Derived.Test.YtmcfbfdonjllaaaGreatDoorZP8
import Derived.ReadAgain
import Derived.ChangeSame
import Derived.ChangeBears
import Derived.OpenShut
import Derived.RowKit
import Derived.WalkKit
import Derived.ProofKit
import Derived.Test.YtmcfbfdonjllaaaGreatDoorRows
import Derived.JoinedCond
set_option maxRecDepth 10000
set_option maxHeartbeats 4000000
set_option linter.unusedSimpArgs false
set_option linter.unusedVariables false
namespace Go.Eng
open Go.Proofs.Tryz
def JH:TypeId->KD
 | 2=>(.int .i64)
 | 3=>(.int .i64)
 | 4=>.bool
 | 5=>(.int .u8)
 | 6=>(.int .u8)
 | 7=>.struct
 | 8=>.struct
 | 9=>.str
 | 10=>.str
 | 11=>.str
 | 12=>(.int .u64)
 | 13=>.struct
 | 14=>.struct
 | 15=>(.ptr 309)
 | 16=>(.ptr 312)
 | 17=>(.ptr 321)
 | 18=>.struct
 | 19=>.struct
 | 21=>(.int .i32)
 | 24=>(.sl 5)
 | 25=>.struct
 | 26=>.struct
 | 28=>(.sl 26)
 | 29=>(.sl 94)
 | 30=>(.sl 79)
 | 31=>.struct
 | 32=>.struct
 | 33=>(.sl 47)
 | 34=>.struct
 | 35=>.struct
 | 36=>(.sl 42)
 | 37=>(.int .i64)
 | 40=>(.sl 3)
 | 41=>.struct
 | 42=>.struct
 | 43=>(.sl 138)
 | 44=>(.sl 51)
 | 45=>(.sl 118)
 | 46=>.struct
 | 47=>.struct
 | 48=>.struct
 | 49=>.struct
 | 50=>.struct
 | 51=>.struct
 | 65=>(.map 3 94)
 | 66=>(.map 3 94)
 | 70=>(.sl 76)
 | 74=>(.map 3 3)
 | 75=>.struct
 | 76=>.struct
 | 78=>.struct
 | 79=>.struct
 | 92=>(.sl 96)
 | 93=>.struct
 | 94=>.struct
 | 95=>.struct
 | 96=>.struct
 | 97=>(.ptr 47)
 | 100=>(.ptr 103)
 | 101=>(.sl 40)
 | 102=>.struct
 | 103=>.struct
 | 104=>(.sl 162)
 | 117=>.struct
 | 118=>.struct
 | 119=>(.ptr 121)
 | 120=>.struct
 | 121=>.struct
 | 122=>(.sl 9)
 | 137=>.struct
 | 138=>.struct
 | 144=>(.ptr 146)
 | 145=>.struct
 | 146=>.struct
 | 148=>(.ptr 26)
 | 157=>(.sl 49)
 | 161=>.struct
 | 162=>.struct
 | 163=>(.map 3 4)
 | 183=>(.ptr 94)
 | 187=>(.ptr 49)
 | 198=>(.ptr 200)
 | 199=>.struct
 | 200=>.struct
 | 203=>(.ptr 51)
 | 214=>.struct
 | 215=>.struct
 | 226=>(.ptr 228)
 | 227=>.struct
 | 228=>.struct
 | 244=>(.int .u64)
 | 263=>(.int .i64)
 | 270=>(.int .u32)
 | 272=>(.int .u64)
 | 286=>(.int .u64)
 | 290=>(.ptr 3)
 | 296=>(.ptr 286)
 | 300=>.struct
 | 301=>.struct
 | 308=>.struct
 | 309=>.struct
 | 314=>(.int .u8)
 | 315=>(.int .u8)
 | 317=>(.ptr 5)
 | 318=>(.int .i32)
 | 319=>(.int .i32)
 | _=>.other
def Cg:TypeId->Nat
 | 2=>1
 | 3=>1
 | 4=>1
 | 5=>1
 | 6=>1
 | 7=>4
 | 8=>4
 | 9=>1
 | 10=>1
 | 11=>1
 | 12=>1
 | 13=>2
 | 14=>2
 | 15=>1
 | 16=>1
 | 17=>1
 | 18=>1
 | 19=>1
 | 21=>1
 | 24=>1
 | 25=>6
 | 26=>6
 | 28=>1
 | 29=>1
 | 30=>1
 | 31=>3
 | 32=>3
 | 33=>1
 | 34=>4
 | 35=>4
 | 36=>1
 | 37=>1
 | 40=>1
 | 41=>4
 | 42=>4
 | 43=>1
 | 44=>1
 | 45=>1
 | 46=>10
 | 47=>10
 | 48=>7
 | 49=>7
 | 50=>9
 | 51=>9
 | 65=>1
 | 66=>1
 | 70=>1
 | 74=>1
 | 75=>4
 | 76=>4
 | 78=>8
 | 79=>8
 | 92=>1
 | 93=>5
 | 94=>5
 | 95=>2
 | 96=>2
 | 97=>1
 | 100=>1
 | 101=>1
 | 102=>2
 | 103=>2
 | 104=>1
 | 117=>2
 | 118=>2
 | 119=>1
 | 120=>13
 | 121=>13
 | 122=>1
 | 137=>8
 | 138=>8
 | 144=>1
 | 145=>13
 | 146=>13
 | 148=>1
 | 157=>1
 | 161=>2
 | 162=>2
 | 163=>1
 | 183=>1
 | 187=>1
 | 198=>1
 | 199=>6
 | 200=>6
 | 203=>1
 | 214=>4
 | 215=>4
 | 226=>1
 | 227=>9
 | 228=>9
 | 244=>1
 | 263=>1
 | 270=>1
 | 272=>1
 | 286=>1
 | 290=>1
 | 296=>1
 | 300=>2
 | 301=>2
 | 308=>4
 | 309=>4
 | 314=>1
 | 315=>1
 | 317=>1
 | 318=>1
 | 319=>1
 | _=>0
def Mk:TypeId->Nat
 | 2=>8
 | 3=>8
 | 4=>1
 | 5=>1
 | 6=>1
 | 7=>24
 | 8=>24
 | 9=>16
 | 10=>16
 | 11=>16
 | 12=>8
 | 13=>24
 | 14=>24
 | 15=>8
 | 16=>8
 | 17=>8
 | 18=>8
 | 19=>8
 | 21=>4
 | 24=>24
 | 25=>80
 | 26=>80
 | 28=>24
 | 29=>24
 | 30=>24
 | 31=>56
 | 32=>56
 | 33=>24
 | 34=>80
 | 35=>80
 | 36=>24
 | 37=>8
 | 40=>24
 | 41=>48
 | 42=>48
 | 43=>24
 | 44=>24
 | 45=>24
 | 46=>144
 | 47=>144
 | 48=>88
 | 49=>88
 | 50=>104
 | 51=>104
 | 65=>8
 | 66=>8
 | 70=>24
 | 74=>8
 | 75=>32
 | 76=>32
 | 78=>96
 | 79=>96
 | 92=>24
 | 93=>72
 | 94=>72
 | 95=>24
 | 96=>24
 | 97=>8
 | 100=>8
 | 101=>24
 | 102=>48
 | 103=>48
 | 104=>24
 | 117=>24
 | 118=>24
 | 119=>8
 | 120=>200
 | 121=>200
 | 122=>24
 | 137=>96
 | 138=>96
 | 144=>8
 | 145=>200
 | 146=>200
 | 148=>8
 | 157=>24
 | 161=>16
 | 162=>16
 | 163=>8
 | 183=>8
 | 187=>8
 | 198=>8
 | 199=>64
 | 200=>64
 | 203=>8
 | 214=>64
 | 215=>64
 | 226=>8
 | 227=>120
 | 228=>120
 | 244=>8
 | 263=>8
 | 270=>4
 | 272=>8
 | 286=>8
 | 290=>8
 | 296=>8
 | 300=>2
 | 301=>2
 | 308=>40
 | 309=>40
 | 314=>1
 | 315=>1
 | 317=>8
 | 318=>4
 | 319=>4
 | _=>0
def Mm:TypeId->List AV
 | 2=>[.int .i64 0]
 | 3=>[.int .i64 0]
 | 4=>[.bool false]
 | 5=>[.int .u8 0]
 | 6=>[.int .u8 0]
 | 7=>[.int .i64 0,.int .i64 0,.bool false,.int .u8 0]
 | 8=>[.int .i64 0,.int .i64 0,.bool false,.int .u8 0]
 | 9=>[.str []]
 | 10=>[.str []]
 | 11=>[.str []]
 | 12=>[.int .u64 0]
 | 13=>[.str [],.int .u64 0]
 | 14=>[.str [],.int .u64 0]
 | 15=>[.nilp]
 | 16=>[.nilp]
 | 17=>[.nilp]
 | 18=>[.nilp]
 | 19=>[.nilp]
 | 21=>[.int .i32 0]
 | 24=>[.nils]
 | 25=>[.int .i64 0,.int .i64 0,.int .i64 0,.str [],.str [],.nils]
 | 26=>[.int .i64 0,.int .i64 0,.int .i64 0,.str [],.str [],.nils]
 | 28=>[.nils]
 | 29=>[.nils]
 | 30=>[.nils]
 | 31=>[.nils,.int .i64 0,.nils]
 | 32=>[.nils,.int .i64 0,.nils]
 | 33=>[.nils]
 | 34=>[.nils,.int .i64 0,.nils,.nils]
 | 35=>[.nils,.int .i64 0,.nils,.nils]
 | 36=>[.nils]
 | 37=>[.int .i64 0]
 | 40=>[.nils]
 | 41=>[.int .i64 0,.int .i64 0,.int .i64 0,.nils]
 | 42=>[.int .i64 0,.int .i64 0,.int .i64 0,.nils]
 | 43=>[.nils]
 | 44=>[.nils]
 | 45=>[.nils]
 | 46=>[.int .i64 0,.bool false,.int .i64 0,.nils,.nils,.nils,.nils,.int .i64 0,.int .i64 0,.int .i64 0]
 | 47=>[.int .i64 0,.bool false,.int .i64 0,.nils,.nils,.nils,.nils,.int .i64 0,.int .i64 0,.int .i64 0]
 | 48=>[.int .i64 0,.int .i64 0,.int .i64 0,.str [],.int .i64 0,.str [],.nils]
 | 49=>[.int .i64 0,.int .i64 0,.int .i64 0,.str [],.int .i64 0,.str [],.nils]
 | 50=>[.int .i64 0,.int .i64 0,.int .i64 0,.str [],.int .i64 0,.str [],.nils,.int .i64 0,.int .i64 0]
 | 51=>[.int .i64 0,.int .i64 0,.int .i64 0,.str [],.int .i64 0,.str [],.nils,.int .i64 0,.int .i64 0]
 | 65=>[.nilm]
 | 66=>[.nilm]
 | 70=>[.nils]
 | 74=>[.nilm]
 | 75=>[.int .i64 0,.int .i64 0,.int .i64 0,.int .i64 0]
 | 76=>[.int .i64 0,.int .i64 0,.int .i64 0,.int .i64 0]
 | 78=>[.int .i64 0,.int .i64 0,.int .i64 0,.int .i64 0,.str [],.int .i64 0,.str [],.nils]
 | 79=>[.int .i64 0,.int .i64 0,.int .i64 0,.int .i64 0,.str [],.int .i64 0,.str [],.nils]
 | 92=>[.nils]
 | 93=>[.int .i64 0,.bool false,.nils,.nils,.int .i64 0]
 | 94=>[.int .i64 0,.bool false,.nils,.nils,.int .i64 0]
 | 95=>[.str [],.int .i64 0]
 | 96=>[.str [],.int .i64 0]
 | 97=>[.nilp]
 | 100=>[.nilp]
 | 101=>[.nils]
 | 102=>[.nils,.nils]
 | 103=>[.nils,.nils]
 | 104=>[.nils]
 | 117=>[.str [],.int .i64 0]
 | 118=>[.str [],.int .i64 0]
 | 119=>[.nilp]
 | 120=>[.int .i64 0,.bool false,.int .i64 0,.nils,.nils,.nils,.nils,.int .i64 0,.int .i64 0,.int .i64 0,.nils,.int .i64 0,.nils]
 | 121=>[.int .i64 0,.bool false,.int .i64 0,.nils,.nils,.nils,.nils,.int .i64 0,.int .i64 0,.int .i64 0,.nils,.int .i64 0,.nils]
 | 122=>[.nils]
 | 137=>[.int .i64 0,.bool false,.nils,.nils,.int .i64 0,.bool false,.int .i64 0,.int .i64 0]
 | 138=>[.int .i64 0,.bool false,.nils,.nils,.int .i64 0,.bool false,.int .i64 0,.int .i64 0]
 | 144=>[.nilp]
 | 145=>[.int .i64 0,.bool false,.int .i64 0,.nils,.nils,.nils,.nils,.int .i64 0,.int .i64 0,.int .i64 0,.nils,.int .i64 0,.nils]
 | 146=>[.int .i64 0,.bool false,.int .i64 0,.nils,.nils,.nils,.nils,.int .i64 0,.int .i64 0,.int .i64 0,.nils,.int .i64 0,.nils]
 | 148=>[.nilp]
 | 157=>[.nils]
 | 161=>[.int .i64 0,.int .i64 0]
 | 162=>[.int .i64 0,.int .i64 0]
 | 163=>[.nilm]
 | 183=>[.nilp]
 | 187=>[.nilp]
 | 198=>[.nilp]
 | 199=>[.nils,.int .i64 0,.int .i64 0,.nilm,.nilm,.nilm]
 | 200=>[.nils,.int .i64 0,.int .i64 0,.nilm,.nilm,.nilm]
 | 203=>[.nilp]
 | 214=>[.nils,.nils,.nilm,.int .i64 0]
 | 215=>[.nils,.nils,.nilm,.int .i64 0]
 | 226=>[.nilp]
 | 227=>[.nils,.int .i64 0,.int .i64 0,.int .i64 0,.str [],.int .i64 0,.str [],.nils,.int .i64 0]
 | 228=>[.nils,.int .i64 0,.int .i64 0,.int .i64 0,.str [],.int .i64 0,.str [],.nils,.int .i64 0]
 | 244=>[.int .u64 0]
 | 263=>[.int .i64 0]
 | 270=>[.int .u32 0]
 | 272=>[.int .u64 0]
 | 286=>[.int .u64 0]
 | 290=>[.nilp]
 | 296=>[.nilp]
 | 300=>[.int .u8 0,.int .u8 0]
 | 301=>[.int .u8 0,.int .u8 0]
 | 308=>[.nilp,.nilp,.nilp,.str []]
 | 309=>[.nilp,.nilp,.nilp,.str []]
 | 314=>[.int .u8 0]
 | 315=>[.int .u8 0]
 | 317=>[.nilp]
 | 318=>[.int .i32 0]
 | 319=>[.int .i32 0]
 | _=>[]
def tFl:TypeId->List (TypeId×Nat)
 | 7=>[(2,0),(3,1),(4,2),(6,3)]
 | 8=>[(2,0),(3,1),(4,2),(6,3)]
 | 13=>[(9,0),(12,1)]
 | 14=>[(9,0),(12,1)]
 | 18=>[(17,0)]
 | 19=>[(17,0)]
 | 25=>[(3,0),(3,1),(3,2),(9,3),(9,4),(24,5)]
 | 26=>[(3,0),(3,1),(3,2),(9,3),(9,4),(24,5)]
 | 31=>[(29,0),(3,1),(30,2)]
 | 32=>[(29,0),(3,1),(30,2)]
 | 34=>[(32,0),(33,3)]
 | 35=>[(32,0),(33,3)]
 | 41=>[(37,0),(3,1),(3,2),(24,3)]
 | 42=>[(37,0),(3,1),(3,2),(24,3)]
 | 46=>[(3,0),(4,1),(3,2),(43,3),(44,4),(44,5),(45,6),(3,7),(3,8),(3,9)]
 | 47=>[(3,0),(4,1),(3,2),(43,3),(44,4),(44,5),(45,6),(3,7),(3,8),(3,9)]
 | 48=>[(3,0),(3,1),(3,2),(9,3),(3,4),(9,5),(24,6)]
 | 49=>[(3,0),(3,1),(3,2),(9,3),(3,4),(9,5),(24,6)]
 | 50=>[(49,0),(3,7),(3,8)]
 | 51=>[(49,0),(3,7),(3,8)]
 | 75=>[(3,0),(3,1),(3,2),(3,3)]
 | 76=>[(3,0),(3,1),(3,2),(3,3)]
 | 78=>[(3,0),(49,1)]
 | 79=>[(3,0),(49,1)]
 | 93=>[(3,0),(4,1),(24,2),(92,3),(3,4)]
 | 94=>[(3,0),(4,1),(24,2),(92,3),(3,4)]
 | 95=>[(9,0),(3,1)]
 | 96=>[(9,0),(3,1)]
 | 102=>[(70,0),(101,1)]
 | 103=>[(70,0),(101,1)]
 | 117=>[(9,0),(3,1)]
 | 118=>[(9,0),(3,1)]
 | 120=>[(47,0),(32,10)]
 | 121=>[(47,0),(32,10)]
 | 137=>[(94,0),(4,5),(3,6),(3,7)]
 | 138=>[(94,0),(4,5),(3,6),(3,7)]
 | 145=>[(47,0),(32,10)]
 | 146=>[(47,0),(32,10)]
 | 161=>[(37,0),(3,1)]
 | 162=>[(37,0),(3,1)]
 | 199=>[(29,0),(3,1),(3,2),(74,3),(163,4),(163,5)]
 | 200=>[(29,0),(3,1),(3,2),(74,3),(163,4),(163,5)]
 | 214=>[(104,0),(157,1),(66,2),(3,3)]
 | 215=>[(104,0),(157,1),(66,2),(3,3)]
 | 227=>[(29,0),(49,1),(3,8)]
 | 228=>[(29,0),(49,1),(3,8)]
 | 300=>[(5,0),(5,1)]
 | 301=>[(5,0),(5,1)]
 | 308=>[(17,0),(17,1),(17,2),(9,3)]
 | 309=>[(17,0),(17,1),(17,2),(9,3)]
 | _=>[]
def LW (t:TypeId) (j:Nat):Option (TypeId×Nat):=(tFl t)[j]?
def tab:Tab:=⟨JH,Cg,Mk,Mm,LW⟩
@[go_sem] theorem tu2:tab.und 2=(.int .i64):=rfl
@[go_sem] theorem ts2:tab.siz 2=1:=rfl
@[go_sem] theorem tz2:tab.zer 2=[.int .i64 0]:=rfl
@[go_sem] theorem tu3:tab.und 3=(.int .i64):=rfl
@[go_sem] theorem ts3:tab.siz 3=1:=rfl
@[go_sem] theorem tb3:tab.byt 3=8:=rfl
@[go_sem] theorem tz3:tab.zer 3=[.int .i64 0]:=rfl
@[go_sem] theorem tu4:tab.und 4=.bool:=rfl
@[go_sem] theorem ts4:tab.siz 4=1:=rfl
@[go_sem] theorem tz4:tab.zer 4=[.bool false]:=rfl
@[go_sem] theorem tu5:tab.und 5=(.int .u8):=rfl
@[go_sem] theorem ts5:tab.siz 5=1:=rfl
@[go_sem] theorem tb5:tab.byt 5=1:=rfl
@[go_sem] theorem tz5:tab.zer 5=[.int .u8 0]:=rfl
@[go_sem] theorem tu6:tab.und 6=(.int .u8):=rfl
@[go_sem] theorem ts6:tab.siz 6=1:=rfl
@[go_sem] theorem tz6:tab.zer 6=[.int .u8 0]:=rfl
@[go_sem] theorem tu7:tab.und 7=.struct:=rfl
@[go_sem] theorem ts7:tab.siz 7=4:=rfl
@[go_sem] theorem tz7:tab.zer 7=[.int .i64 0,.int .i64 0,.bool false,.int .u8 0]:=rfl
@[go_sem] theorem KU:tab.fld 7 0=some (2,0):=rfl
@[go_sem] theorem KV:tab.fld 7 1=some (3,1):=rfl
@[go_sem] theorem KW:tab.fld 7 2=some (4,2):=rfl
@[go_sem] theorem KX:tab.fld 7 3=some (6,3):=rfl
@[go_sem] theorem tu8:tab.und 8=.struct:=rfl
@[go_sem] theorem ts8:tab.siz 8=4:=rfl
@[go_sem] theorem tz8:tab.zer 8=[.int .i64 0,.int .i64 0,.bool false,.int .u8 0]:=rfl
@[go_sem] theorem KY:tab.fld 8 0=some (2,0):=rfl
@[go_sem] theorem KZ:tab.fld 8 1=some (3,1):=rfl
@[go_sem] theorem K0:tab.fld 8 2=some (4,2):=rfl
@[go_sem] theorem K1:tab.fld 8 3=some (6,3):=rfl
@[go_sem] theorem tu9:tab.und 9=.str:=rfl
@[go_sem] theorem ts9:tab.siz 9=1:=rfl
@[go_sem] theorem tb9:tab.byt 9=16:=rfl
@[go_sem] theorem tz9:tab.zer 9=[.str []]:=rfl
@[go_sem] theorem ON:tab.und 21=(.int .i32):=rfl
@[go_sem] theorem Oi:tab.siz 21=1:=rfl
@[go_sem] theorem Pd:tab.zer 21=[.int .i32 0]:=rfl
@[go_sem] theorem OO:tab.und 24=(.sl 5):=rfl
@[go_sem] theorem Oj:tab.siz 24=1:=rfl
@[go_sem] theorem Pe:tab.zer 24=[.nils]:=rfl
@[go_sem] theorem OP:tab.und 26=.struct:=rfl
@[go_sem] theorem Ol:tab.siz 26=6:=rfl
@[go_sem] theorem N_:tab.byt 26=80:=rfl
@[go_sem] theorem Pf:tab.zer 26=[.int .i64 0,.int .i64 0,.int .i64 0,.str [],.str [],.nils]:=rfl
@[go_sem] theorem JI:tab.fld 26 0=some (3,0):=rfl
@[go_sem] theorem JJ:tab.fld 26 1=some (3,1):=rfl
@[go_sem] theorem JK:tab.fld 26 2=some (3,2):=rfl
@[go_sem] theorem JL:tab.fld 26 3=some (9,3):=rfl
@[go_sem] theorem JM:tab.fld 26 4=some (9,4):=rfl
@[go_sem] theorem JN:tab.fld 26 5=some (24,5):=rfl
@[go_sem] theorem OQ:tab.und 28=(.sl 26):=rfl
@[go_sem] theorem Om:tab.siz 28=1:=rfl
@[go_sem] theorem Pg:tab.zer 28=[.nils]:=rfl
@[go_sem] theorem OR:tab.und 29=(.sl 94):=rfl
@[go_sem] theorem On:tab.siz 29=1:=rfl
@[go_sem] theorem Ph:tab.zer 29=[.nils]:=rfl
@[go_sem] theorem OS:tab.und 30=(.sl 79):=rfl
@[go_sem] theorem Oo:tab.siz 30=1:=rfl
@[go_sem] theorem Pj:tab.zer 30=[.nils]:=rfl
@[go_sem] theorem OT:tab.und 32=.struct:=rfl
@[go_sem] theorem Oq:tab.siz 32=3:=rfl
@[go_sem] theorem Pk:tab.zer 32=[.nils,.int .i64 0,.nils]:=rfl
@[go_sem] theorem JO:tab.fld 32 0=some (29,0):=rfl
@[go_sem] theorem JP:tab.fld 32 1=some (3,1):=rfl
@[go_sem] theorem JQ:tab.fld 32 2=some (30,2):=rfl
@[go_sem] theorem OU:tab.und 33=(.sl 47):=rfl
@[go_sem] theorem Ot:tab.siz 33=1:=rfl
@[go_sem] theorem Pl:tab.zer 33=[.nils]:=rfl
@[go_sem] theorem OV:tab.und 35=.struct:=rfl
@[go_sem] theorem Ou:tab.siz 35=4:=rfl
@[go_sem] theorem Pm:tab.zer 35=[.nils,.int .i64 0,.nils,.nils]:=rfl
@[go_sem] theorem JR:tab.fld 35 0=some (32,0):=rfl
@[go_sem] theorem JT:tab.fld 35 1=some (33,3):=rfl
@[go_sem] theorem OW:tab.und 37=(.int .i64):=rfl
@[go_sem] theorem Ov:tab.siz 37=1:=rfl
@[go_sem] theorem Pn:tab.zer 37=[.int .i64 0]:=rfl
@[go_sem] theorem OX:tab.und 40=(.sl 3):=rfl
@[go_sem] theorem Ow:tab.siz 40=1:=rfl
@[go_sem] theorem N':tab.byt 40=24:=rfl
@[go_sem] theorem Po:tab.zer 40=[.nils]:=rfl
@[go_sem] theorem OY:tab.und 42=.struct:=rfl
@[go_sem] theorem Ox:tab.siz 42=4:=rfl
@[go_sem] theorem Pp:tab.zer 42=[.int .i64 0,.int .i64 0,.int .i64 0,.nils]:=rfl
@[go_sem] theorem JU:tab.fld 42 0=some (37,0):=rfl
@[go_sem] theorem JV:tab.fld 42 1=some (3,1):=rfl
@[go_sem] theorem JW:tab.fld 42 2=some (3,2):=rfl
@[go_sem] theorem JX:tab.fld 42 3=some (24,3):=rfl
@[go_sem] theorem OZ:tab.und 43=(.sl 138):=rfl
@[go_sem] theorem Oy:tab.siz 43=1:=rfl
@[go_sem] theorem Pq:tab.zer 43=[.nils]:=rfl
@[go_sem] theorem O0:tab.und 44=(.sl 51):=rfl
@[go_sem] theorem Oz:tab.siz 44=1:=rfl
@[go_sem] theorem Pr:tab.zer 44=[.nils]:=rfl
@[go_sem] theorem O1:tab.und 45=(.sl 118):=rfl
@[go_sem] theorem OA:tab.siz 45=1:=rfl
@[go_sem] theorem Ps:tab.zer 45=[.nils]:=rfl
@[go_sem] theorem O2:tab.und 47=.struct:=rfl
@[go_sem] theorem OB:tab.siz 47=10:=rfl
@[go_sem] theorem Oa:tab.byt 47=144:=rfl
@[go_sem] theorem Pt:tab.zer 47=[.int .i64 0,.bool false,.int .i64 0,.nils,.nils,.nils,.nils,.int .i64 0,.int .i64 0,.int .i64 0]:=rfl
@[go_sem] theorem JY:tab.fld 47 0=some (3,0):=rfl
@[go_sem] theorem JZ:tab.fld 47 1=some (4,1):=rfl
@[go_sem] theorem J0:tab.fld 47 2=some (3,2):=rfl
@[go_sem] theorem J1:tab.fld 47 3=some (43,3):=rfl
@[go_sem] theorem J2:tab.fld 47 4=some (44,4):=rfl
@[go_sem] theorem J3:tab.fld 47 5=some (44,5):=rfl
@[go_sem] theorem J4:tab.fld 47 6=some (45,6):=rfl
@[go_sem] theorem J5:tab.fld 47 7=some (3,7):=rfl
@[go_sem] theorem J6:tab.fld 47 8=some (3,8):=rfl
@[go_sem] theorem J7:tab.fld 47 9=some (3,9):=rfl
@[go_sem] theorem O3:tab.und 49=.struct:=rfl
@[go_sem] theorem OC:tab.siz 49=7:=rfl
@[go_sem] theorem Ob:tab.byt 49=88:=rfl
@[go_sem] theorem Pu:tab.zer 49=[.int .i64 0,.int .i64 0,.int .i64 0,.str [],.int .i64 0,.str [],.nils]:=rfl
@[go_sem] theorem J8:tab.fld 49 0=some (3,0):=rfl
@[go_sem] theorem J9:tab.fld 49 1=some (3,1):=rfl
@[go_sem] theorem J_:tab.fld 49 2=some (3,2):=rfl
@[go_sem] theorem J':tab.fld 49 3=some (9,3):=rfl
@[go_sem] theorem Ka:tab.fld 49 4=some (3,4):=rfl
@[go_sem] theorem Kb:tab.fld 49 5=some (9,5):=rfl
@[go_sem] theorem Kc:tab.fld 49 6=some (24,6):=rfl
@[go_sem] theorem O4:tab.und 51=.struct:=rfl
@[go_sem] theorem OD:tab.siz 51=9:=rfl
@[go_sem] theorem Oc:tab.byt 51=104:=rfl
@[go_sem] theorem Pv:tab.zer 51=[.int .i64 0,.int .i64 0,.int .i64 0,.str [],.int .i64 0,.str [],.nils,.int .i64 0,.int .i64 0]:=rfl
@[go_sem] theorem Kd:tab.fld 51 0=some (49,0):=rfl
@[go_sem] theorem Ke:tab.fld 51 1=some (3,7):=rfl
@[go_sem] theorem Kf:tab.fld 51 2=some (3,8):=rfl
@[go_sem] theorem O5:tab.und 66=(.map 3 94):=rfl
@[go_sem] theorem OE:tab.siz 66=1:=rfl
@[go_sem] theorem Pw:tab.zer 66=[.nilm]:=rfl
@[go_sem] theorem O6:tab.und 70=(.sl 76):=rfl
@[go_sem] theorem OF:tab.siz 70=1:=rfl
@[go_sem] theorem Px:tab.zer 70=[.nils]:=rfl
@[go_sem] theorem O7:tab.und 74=(.map 3 3):=rfl
@[go_sem] theorem OG:tab.siz 74=1:=rfl
@[go_sem] theorem Py:tab.zer 74=[.nilm]:=rfl
@[go_sem] theorem O8:tab.und 76=.struct:=rfl
@[go_sem] theorem OH:tab.siz 76=4:=rfl
@[go_sem] theorem Od:tab.byt 76=32:=rfl
@[go_sem] theorem Pz:tab.zer 76=[.int .i64 0,.int .i64 0,.int .i64 0,.int .i64 0]:=rfl
@[go_sem] theorem Kg:tab.fld 76 0=some (3,0):=rfl
@[go_sem] theorem Kh:tab.fld 76 1=some (3,1):=rfl
@[go_sem] theorem Ki:tab.fld 76 2=some (3,2):=rfl
@[go_sem] theorem Kj:tab.fld 76 3=some (3,3):=rfl
@[go_sem] theorem O9:tab.und 79=.struct:=rfl
@[go_sem] theorem OI:tab.siz 79=8:=rfl
@[go_sem] theorem Oe:tab.byt 79=96:=rfl
@[go_sem] theorem PA:tab.zer 79=[.int .i64 0,.int .i64 0,.int .i64 0,.int .i64 0,.str [],.int .i64 0,.str [],.nils]:=rfl
@[go_sem] theorem Kk:tab.fld 79 0=some (3,0):=rfl
@[go_sem] theorem Kl:tab.fld 79 1=some (49,1):=rfl
@[go_sem] theorem O_:tab.und 92=(.sl 96):=rfl
@[go_sem] theorem OJ:tab.siz 92=1:=rfl
@[go_sem] theorem PB:tab.zer 92=[.nils]:=rfl
@[go_sem] theorem O':tab.und 94=.struct:=rfl
@[go_sem] theorem OK:tab.siz 94=5:=rfl
@[go_sem] theorem Og:tab.byt 94=72:=rfl
@[go_sem] theorem PC:tab.zer 94=[.int .i64 0,.bool false,.nils,.nils,.int .i64 0]:=rfl
@[go_sem] theorem Km:tab.fld 94 0=some (3,0):=rfl
@[go_sem] theorem Kn:tab.fld 94 1=some (4,1):=rfl
@[go_sem] theorem Ko:tab.fld 94 2=some (24,2):=rfl
@[go_sem] theorem Kq:tab.fld 94 3=some (92,3):=rfl
@[go_sem] theorem Kr:tab.fld 94 4=some (3,4):=rfl
@[go_sem] theorem Pa:tab.und 96=.struct:=rfl
@[go_sem] theorem OL:tab.siz 96=2:=rfl
@[go_sem] theorem Oh:tab.byt 96=24:=rfl
@[go_sem] theorem PD:tab.zer 96=[.str [],.int .i64 0]:=rfl
@[go_sem] theorem Ks:tab.fld 96 0=some (9,0):=rfl
@[go_sem] theorem Kt:tab.fld 96 1=some (3,1):=rfl
@[go_sem] theorem Pb:tab.und 97=(.ptr 47):=rfl
@[go_sem] theorem OM:tab.siz 97=1:=rfl
@[go_sem] theorem PE:tab.zer 97=[.nilp]:=rfl
@[go_sem] theorem M8:tab.und 100=(.ptr 103):=rfl
@[go_sem] theorem MC:tab.siz 100=1:=rfl
@[go_sem] theorem NF:tab.zer 100=[.nilp]:=rfl
@[go_sem] theorem M9:tab.und 101=(.sl 40):=rfl
@[go_sem] theorem MD:tab.siz 101=1:=rfl
@[go_sem] theorem NG:tab.zer 101=[.nils]:=rfl
@[go_sem] theorem M_:tab.und 103=.struct:=rfl
@[go_sem] theorem ME:tab.siz 103=2:=rfl
@[go_sem] theorem NH:tab.zer 103=[.nils,.nils]:=rfl
@[go_sem] theorem Hx:tab.fld 103 0=some (70,0):=rfl
@[go_sem] theorem Hy:tab.fld 103 1=some (101,1):=rfl
@[go_sem] theorem M':tab.und 104=(.sl 162):=rfl
@[go_sem] theorem MF:tab.siz 104=1:=rfl
@[go_sem] theorem NI:tab.zer 104=[.nils]:=rfl
@[go_sem] theorem Na:tab.und 118=.struct:=rfl
@[go_sem] theorem MG:tab.siz 118=2:=rfl
@[go_sem] theorem Mz:tab.byt 118=24:=rfl
@[go_sem] theorem NJ:tab.zer 118=[.str [],.int .i64 0]:=rfl
@[go_sem] theorem Hz:tab.fld 118 0=some (9,0):=rfl
@[go_sem] theorem HA:tab.fld 118 1=some (3,1):=rfl
@[go_sem] theorem Nb:tab.und 119=(.ptr 121):=rfl
@[go_sem] theorem MH:tab.siz 119=1:=rfl
@[go_sem] theorem NK:tab.zer 119=[.nilp]:=rfl
@[go_sem] theorem Nc:tab.und 121=.struct:=rfl
@[go_sem] theorem MI:tab.siz 121=13:=rfl
@[go_sem] theorem NL:tab.zer 121=[.int .i64 0,.bool false,.int .i64 0,.nils,.nils,.nils,.nils,.int .i64 0,.int .i64 0,.int .i64 0,.nils,.int .i64 0,.nils]:=rfl
@[go_sem] theorem HB:tab.fld 121 0=some (47,0):=rfl
@[go_sem] theorem HC:tab.fld 121 1=some (32,10):=rfl
@[go_sem] theorem Nd:tab.und 122=(.sl 9):=rfl
@[go_sem] theorem MJ:tab.siz 122=1:=rfl
@[go_sem] theorem NM:tab.zer 122=[.nils]:=rfl
@[go_sem] theorem Nf:tab.und 138=.struct:=rfl
@[go_sem] theorem MK:tab.siz 138=8:=rfl
@[go_sem] theorem MA:tab.byt 138=96:=rfl
@[go_sem] theorem NN:tab.zer 138=[.int .i64 0,.bool false,.nils,.nils,.int .i64 0,.bool false,.int .i64 0,.int .i64 0]:=rfl
@[go_sem] theorem HD:tab.fld 138 0=some (94,0):=rfl
@[go_sem] theorem HE:tab.fld 138 1=some (4,5):=rfl
@[go_sem] theorem HF:tab.fld 138 2=some (3,6):=rfl
@[go_sem] theorem HG:tab.fld 138 3=some (3,7):=rfl
@[go_sem] theorem Ng:tab.und 144=(.ptr 146):=rfl
@[go_sem] theorem ML:tab.siz 144=1:=rfl
@[go_sem] theorem NO:tab.zer 144=[.nilp]:=rfl
@[go_sem] theorem Nh:tab.und 146=.struct:=rfl
@[go_sem] theorem MM:tab.siz 146=13:=rfl
@[go_sem] theorem NP:tab.zer 146=[.int .i64 0,.bool false,.int .i64 0,.nils,.nils,.nils,.nils,.int .i64 0,.int .i64 0,.int .i64 0,.nils,.int .i64 0,.nils]:=rfl
@[go_sem] theorem HH:tab.fld 146 0=some (47,0):=rfl
@[go_sem] theorem HI:tab.fld 146 1=some (32,10):=rfl
@[go_sem] theorem Ni:tab.und 148=(.ptr 26):=rfl
@[go_sem] theorem MN:tab.siz 148=1:=rfl
@[go_sem] theorem NQ:tab.zer 148=[.nilp]:=rfl
@[go_sem] theorem Nj:tab.und 157=(.sl 49):=rfl
@[go_sem] theorem MO:tab.siz 157=1:=rfl
@[go_sem] theorem NR:tab.zer 157=[.nils]:=rfl
@[go_sem] theorem Nk:tab.und 162=.struct:=rfl
@[go_sem] theorem MP:tab.siz 162=2:=rfl
@[go_sem] theorem MB:tab.byt 162=16:=rfl
@[go_sem] theorem NS:tab.zer 162=[.int .i64 0,.int .i64 0]:=rfl
@[go_sem] theorem HJ:tab.fld 162 0=some (37,0):=rfl
@[go_sem] theorem HK:tab.fld 162 1=some (3,1):=rfl
@[go_sem] theorem Nl:tab.und 163=(.map 3 4):=rfl
@[go_sem] theorem MQ:tab.siz 163=1:=rfl
@[go_sem] theorem NT:tab.zer 163=[.nilm]:=rfl
@[go_sem] theorem Nn:tab.und 183=(.ptr 94):=rfl
@[go_sem] theorem MR:tab.siz 183=1:=rfl
@[go_sem] theorem NU:tab.zer 183=[.nilp]:=rfl
@[go_sem] theorem Np:tab.und 187=(.ptr 49):=rfl
@[go_sem] theorem MS:tab.siz 187=1:=rfl
@[go_sem] theorem NV:tab.zer 187=[.nilp]:=rfl
@[go_sem] theorem Nq:tab.und 198=(.ptr 200):=rfl
@[go_sem] theorem MT:tab.siz 198=1:=rfl
@[go_sem] theorem NW:tab.zer 198=[.nilp]:=rfl
@[go_sem] theorem Nr:tab.und 200=.struct:=rfl
@[go_sem] theorem MU:tab.siz 200=6:=rfl
@[go_sem] theorem NX:tab.zer 200=[.nils,.int .i64 0,.int .i64 0,.nilm,.nilm,.nilm]:=rfl
@[go_sem] theorem HL:tab.fld 200 0=some (29,0):=rfl
@[go_sem] theorem HN:tab.fld 200 1=some (3,1):=rfl
@[go_sem] theorem HO:tab.fld 200 2=some (3,2):=rfl
@[go_sem] theorem HP:tab.fld 200 3=some (74,3):=rfl
@[go_sem] theorem HQ:tab.fld 200 4=some (163,4):=rfl
@[go_sem] theorem HR:tab.fld 200 5=some (163,5):=rfl
@[go_sem] theorem Ns:tab.und 203=(.ptr 51):=rfl
@[go_sem] theorem MV:tab.siz 203=1:=rfl
@[go_sem] theorem NY:tab.zer 203=[.nilp]:=rfl
@[go_sem] theorem Nt:tab.und 215=.struct:=rfl
@[go_sem] theorem MW:tab.siz 215=4:=rfl
@[go_sem] theorem NZ:tab.zer 215=[.nils,.nils,.nilm,.int .i64 0]:=rfl
@[go_sem] theorem HS:tab.fld 215 0=some (104,0):=rfl
@[go_sem] theorem HT:tab.fld 215 1=some (157,1):=rfl
@[go_sem] theorem HU:tab.fld 215 2=some (66,2):=rfl
@[go_sem] theorem HV:tab.fld 215 3=some (3,3):=rfl
@[go_sem] theorem Nu:tab.und 226=(.ptr 228):=rfl
@[go_sem] theorem MX:tab.siz 226=1:=rfl
@[go_sem] theorem N0:tab.zer 226=[.nilp]:=rfl
@[go_sem] theorem Nv:tab.und 228=.struct:=rfl
@[go_sem] theorem MY:tab.siz 228=9:=rfl
@[go_sem] theorem N1:tab.zer 228=[.nils,.int .i64 0,.int .i64 0,.int .i64 0,.str [],.int .i64 0,.str [],.nils,.int .i64 0]:=rfl
@[go_sem] theorem HW:tab.fld 228 0=some (29,0):=rfl
@[go_sem] theorem HX:tab.fld 228 1=some (49,1):=rfl
@[go_sem] theorem HY:tab.fld 228 2=some (3,8):=rfl
@[go_sem] theorem Nw:tab.und 244=(.int .u64):=rfl
@[go_sem] theorem MZ:tab.siz 244=1:=rfl
@[go_sem] theorem N2:tab.zer 244=[.int .u64 0]:=rfl
@[go_sem] theorem Nx:tab.und 263=(.int .i64):=rfl
@[go_sem] theorem M0:tab.siz 263=1:=rfl
@[go_sem] theorem N3:tab.zer 263=[.int .i64 0]:=rfl
@[go_sem] theorem Ny:tab.und 270=(.int .u32):=rfl
@[go_sem] theorem M1:tab.siz 270=1:=rfl
@[go_sem] theorem N4:tab.zer 270=[.int .u32 0]:=rfl
@[go_sem] theorem Nz:tab.und 272=(.int .u64):=rfl
@[go_sem] theorem M3:tab.siz 272=1:=rfl
@[go_sem] theorem N5:tab.zer 272=[.int .u64 0]:=rfl
@[go_sem] theorem NA:tab.und 286=(.int .u64):=rfl
@[go_sem] theorem M4:tab.siz 286=1:=rfl
@[go_sem] theorem N6:tab.zer 286=[.int .u64 0]:=rfl
@[go_sem] theorem NB:tab.und 290=(.ptr 3):=rfl
@[go_sem] theorem M5:tab.siz 290=1:=rfl
@[go_sem] theorem N7:tab.zer 290=[.nilp]:=rfl
@[go_sem] theorem NC:tab.und 296=(.ptr 286):=rfl
@[go_sem] theorem M6:tab.siz 296=1:=rfl
@[go_sem] theorem N8:tab.zer 296=[.nilp]:=rfl
@[go_sem] theorem ND:tab.und 301=.struct:=rfl
@[go_sem] theorem M7:tab.siz 301=2:=rfl
@[go_sem] theorem N9:tab.zer 301=[.int .u8 0,.int .u8 0]:=rfl
@[go_sem] theorem HZ:tab.fld 301 0=some (5,0):=rfl
@[go_sem] theorem H0:tab.fld 301 1=some (5,1):=rfl
theorem Cj:∀t,jO prog t (JH t):=by
 intro t;unfold JH;split
 ·exact underlying2
 ·exact underlying3
 ·exact underlying4
 ·exact underlying5
 ·exact underlying6
 ·exact ⟨_,underlying7,by intro f hf;simp at hf;rcases hf with rfl | rfl | rfl | rfl<;>kernel_rfl⟩
 ·exact ⟨_,underlying8,by intro f hf;simp at hf;rcases hf with rfl | rfl | rfl | rfl<;>kernel_rfl⟩
 ·exact underlying9
 ·exact underlying10
 ·exact underlying11
 ·exact underlying12
 ·exact ⟨_,underlying13,by intro f hf;simp at hf;rcases hf with rfl | rfl<;>kernel_rfl⟩
 ·exact ⟨_,underlying14,by intro f hf;simp at hf;rcases hf with rfl | rfl<;>kernel_rfl⟩
 ·exact underlying15
 ·exact underlying16
 ·exact underlying17
 ·exact ⟨_,underlying18,by intro f hf;simp at hf;rcases hf with rfl<;>kernel_rfl⟩
 ·exact ⟨_,underlying19,by intro f hf;simp at hf;rcases hf with rfl<;>kernel_rfl⟩
 ·exact underlying21
 ·exact underlying24
 ·exact ⟨_,underlying25,by intro f hf;simp at hf;rcases hf with rfl | rfl | rfl | rfl | rfl | rfl<;>kernel_rfl⟩
 ·exact ⟨_,underlying26,by intro f hf;simp at hf;rcases hf with rfl | rfl | rfl | rfl | rfl | rfl<;>kernel_rfl⟩
 ·exact underlying28
 ·exact underlying29
 ·exact underlying30
 ·exact ⟨_,underlying31,by intro f hf;simp at hf;rcases hf with rfl | rfl | rfl<;>kernel_rfl⟩
 ·exact ⟨_,underlying32,by intro f hf;simp at hf;rcases hf with rfl | rfl | rfl<;>kernel_rfl⟩
 ·exact underlying33
 ·exact ⟨_,underlying34,by intro f hf;simp at hf;rcases hf with rfl | rfl<;>kernel_rfl⟩
 ·exact ⟨_,underlying35,by intro f hf;simp at hf;rcases hf with rfl | rfl<;>kernel_rfl⟩
 ·exact underlying36
 ·exact underlying37
 ·exact underlying40
 ·exact ⟨_,underlying41,by intro f hf;simp at hf;rcases hf with rfl | rfl | rfl | rfl<;>kernel_rfl⟩
 ·exact ⟨_,underlying42,by intro f hf;simp at hf;rcases hf with rfl | rfl | rfl | rfl<;>kernel_rfl⟩
 ·exact underlying43
 ·exact underlying44
 ·exact underlying45
 ·exact ⟨_,underlying46,by intro f hf;simp at hf;rcases hf with rfl | rfl | rfl | rfl | rfl | rfl | rfl | rfl | rfl | rfl<;>kernel_rfl⟩
 ·exact ⟨_,underlying47,by intro f hf;simp at hf;rcases hf with rfl | rfl | rfl | rfl | rfl | rfl | rfl | rfl | rfl | rfl<;>kernel_rfl⟩
 ·exact ⟨_,underlying48,by intro f hf;simp at hf;rcases hf with rfl | rfl | rfl | rfl | rfl | rfl | rfl<;>kernel_rfl⟩
 ·exact ⟨_,underlying49,by intro f hf;simp at hf;rcases hf with rfl | rfl | rfl | rfl | rfl | rfl | rfl<;>kernel_rfl⟩
 ·exact ⟨_,underlying50,by intro f hf;simp at hf;rcases hf with rfl | rfl | rfl<;>kernel_rfl⟩
 ·exact ⟨_,underlying51,by intro f hf;simp at hf;rcases hf with rfl | rfl | rfl<;>kernel_rfl⟩
 ·exact underlying65
 ·exact underlying66
 ·exact underlying70
 ·exact underlying74
 ·exact ⟨_,underlying75,by intro f hf;simp at hf;rcases hf with rfl | rfl | rfl | rfl<;>kernel_rfl⟩
 ·exact ⟨_,underlying76,by intro f hf;simp at hf;rcases hf with rfl | rfl | rfl | rfl<;>kernel_rfl⟩
 ·exact ⟨_,underlying78,by intro f hf;simp at hf;rcases hf with rfl | rfl<;>kernel_rfl⟩
 ·exact ⟨_,underlying79,by intro f hf;simp at hf;rcases hf with rfl | rfl<;>kernel_rfl⟩
 ·exact underlying92
 ·exact ⟨_,underlying93,by intro f hf;simp at hf;rcases hf with rfl | rfl | rfl | rfl | rfl<;>kernel_rfl⟩
 ·exact ⟨_,underlying94,by intro f hf;simp at hf;rcases hf with rfl | rfl | rfl | rfl | rfl<;>kernel_rfl⟩
 ·exact ⟨_,underlying95,by intro f hf;simp at hf;rcases hf with rfl | rfl<;>kernel_rfl⟩
 ·exact ⟨_,underlying96,by intro f hf;simp at hf;rcases hf with rfl | rfl<;>kernel_rfl⟩
 ·exact underlying97
 ·exact underlying100
 ·exact underlying101
 ·exact ⟨_,underlying102,by intro f hf;simp at hf;rcases hf with rfl | rfl<;>kernel_rfl⟩
 ·exact ⟨_,underlying103,by intro f hf;simp at hf;rcases hf with rfl | rfl<;>kernel_rfl⟩
 ·exact underlying104
 ·exact ⟨_,underlying117,by intro f hf;simp at hf;rcases hf with rfl | rfl<;>kernel_rfl⟩
 ·exact ⟨_,underlying118,by intro f hf;simp at hf;rcases hf with rfl | rfl<;>kernel_rfl⟩
 ·exact underlying119
 ·exact ⟨_,underlying120,by intro f hf;simp at hf;rcases hf with rfl | rfl<;>kernel_rfl⟩
 ·exact ⟨_,underlying121,by intro f hf;simp at hf;rcases hf with rfl | rfl<;>kernel_rfl⟩
 ·exact underlying122
 ·exact ⟨_,underlying137,by intro f hf;simp at hf;rcases hf with rfl | rfl | rfl | rfl<;>kernel_rfl⟩
 ·exact ⟨_,underlying138,by intro f hf;simp at hf;rcases hf with rfl | rfl | rfl | rfl<;>kernel_rfl⟩
 ·exact underlying144
 ·exact ⟨_,underlying145,by intro f hf;simp at hf;rcases hf with rfl | rfl<;>kernel_rfl⟩
 ·exact ⟨_,underlying146,by intro f hf;simp at hf;rcases hf with rfl | rfl<;>kernel_rfl⟩
 ·exact underlying148
 ·exact underlying157
 ·exact ⟨_,underlying161,by intro f hf;simp at hf;rcases hf with rfl | rfl<;>kernel_rfl⟩
 ·exact ⟨_,underlying162,by intro f hf;simp at hf;rcases hf with rfl | rfl<;>kernel_rfl⟩
 ·exact underlying163
 ·exact underlying183
 ·exact underlying187
 ·exact underlying198
 ·exact ⟨_,underlying199,by intro f hf;simp at hf;rcases hf with rfl | rfl | rfl | rfl | rfl | rfl<;>kernel_rfl⟩
 ·exact ⟨_,underlying200,by intro f hf;simp at hf;rcases hf with rfl | rfl | rfl | rfl | rfl | rfl<;>kernel_rfl⟩
 ·exact underlying203
 ·exact ⟨_,underlying214,by intro f hf;simp at hf;rcases hf with rfl | rfl | rfl | rfl<;>kernel_rfl⟩
 ·exact ⟨_,underlying215,by intro f hf;simp at hf;rcases hf with rfl | rfl | rfl | rfl<;>kernel_rfl⟩
 ·exact underlying226
 ·exact ⟨_,underlying227,by intro f hf;simp at hf;rcases hf with rfl | rfl | rfl<;>kernel_rfl⟩
 ·exact ⟨_,underlying228,by intro f hf;simp at hf;rcases hf with rfl | rfl | rfl<;>kernel_rfl⟩
 ·exact underlying244
 ·exact underlying263
 ·exact underlying270
 ·exact underlying272
 ·exact underlying286
 ·exact underlying290
 ·exact underlying296
 ·exact ⟨_,underlying300,by intro f hf;simp at hf;rcases hf with rfl | rfl<;>kernel_rfl⟩
 ·exact ⟨_,underlying301,by intro f hf;simp at hf;rcases hf with rfl | rfl<;>kernel_rfl⟩
 ·exact ⟨_,underlying308,by intro f hf;simp at hf;rcases hf with rfl | rfl | rfl | rfl<;>kernel_rfl⟩
 ·exact ⟨_,underlying309,by intro f hf;simp at hf;rcases hf with rfl | rfl | rfl | rfl<;>kernel_rfl⟩
 ·exact underlying314
 ·exact underlying315
 ·exact underlying317
 ·exact underlying318
 ·exact underlying319
 ·trivial
theorem tq {t s b:Nat} {m:List AV} {a:Option Bool} (i:TypeInfo) {z:Value} (h:(prog).info? t=some i:=by kernel_rfl) (h1:i.size=s:=by rfl) (h2:i.bytes=b:=by rfl) (h3:i.zero=some z:=by rfl) (h4:z.cells.toList.map ofValue=m:=by rfl) (h5:z.cells.size=s:=by rfl) (h6:a=some (match (generalizing:=false) z with | .agg _=>true | _=>false):=by rfl) (_:s≠0):∃i,(prog).info? t=some i/\i.size=s/\i.bytes=b/\∃z,i.zero=some z/\z.cells.toList.map ofValue=m/\z.cells.size=s/\a=some (match z with | .agg _=>true | _=>false):=⟨i,h,h1,h2,z,h3,h4,h5,h6⟩
theorem Ci:∀t,Cg t≠0->∃i,(prog).info? t=some i/\i.size=Cg t/\i.bytes=Mk t/\∃z,i.zero=some z/\z.cells.toList.map ofValue=Mm t/\z.cells.size=Cg t /\
  (JH t).isA=some (match z with | .agg _=>true | _=>false):=by
 intro t h
 revert h
 unfold Cg;split
 ·exact tq t2
 ·exact tq t3
 ·exact tq t4
 ·exact tq t5
 ·exact tq t6
 ·exact tq t7
 ·exact tq t8
 ·exact tq t9
 ·exact tq t10
 ·exact tq t11
 ·exact tq t12
 ·exact tq t13
 ·exact tq t14
 ·exact tq t15
 ·exact tq t16
 ·exact tq t17
 ·exact tq t18
 ·exact tq t19
 ·exact tq t21
 ·exact tq t24
 ·exact tq t25
 ·exact tq t26
 ·exact tq t28
 ·exact tq t29
 ·exact tq t30
 ·exact tq t31
 ·exact tq t32
 ·exact tq t33
 ·exact tq t34
 ·exact tq t35
 ·exact tq t36
 ·exact tq t37
 ·exact tq t40
 ·exact tq t41
 ·exact tq t42
 ·exact tq t43
 ·exact tq t44
 ·exact tq t45
 ·exact tq t46
 ·exact tq t47
 ·exact tq t48
 ·exact tq t49
 ·exact tq t50
 ·exact tq t51
 ·exact tq t65
 ·exact tq t66
 ·exact tq t70
 ·exact tq t74
 ·exact tq t75
 ·exact tq t76
 ·exact tq t78
 ·exact tq t79
 ·exact tq t92
 ·exact tq t93
 ·exact tq t94
 ·exact tq t95
 ·exact tq t96
 ·exact tq t97
 ·exact tq t100
 ·exact tq t101
 ·exact tq t102
 ·exact tq t103
 ·exact tq t104
 ·exact tq t117
 ·exact tq t118
 ·exact tq t119
 ·exact tq t120
 ·exact tq t121
 ·exact tq t122
 ·exact tq t137
 ·exact tq t138
 ·exact tq t144
 ·exact tq t145
 ·exact tq t146
 ·exact tq t148
 ·exact tq t157
 ·exact tq t161
 ·exact tq t162
 ·exact tq t163
 ·exact tq t183
 ·exact tq t187
 ·exact tq t198
 ·exact tq t199
 ·exact tq t200
 ·exact tq t203
 ·exact tq t214
 ·exact tq t215
 ·exact tq t226
 ·exact tq t227
 ·exact tq t228
 ·exact tq t244
 ·exact tq t263
 ·exact tq t270
 ·exact tq t272
 ·exact tq t286
 ·exact tq t290
 ·exact tq t296
 ·exact tq t300
 ·exact tq t301
 ·exact tq t308
 ·exact tq t309
 ·exact tq t314
 ·exact tq t315
 ·exact tq t317
 ·exact tq t318
 ·exact tq t319
 ·exact λh=>absurd rfl h
theorem EM:∀t,tFl t=[]\/∃F:Array Field,(prog).underlying t=some (.struct F)/\F.toList.map (λf=>(f.type,f.offset))=tFl t/\∀x,x∈tFl t->Cg x.1≠0:=by
 intro t;unfold tFl;split
 ·exact .inr ⟨_,underlying7,rfl,by decide⟩
 ·exact .inr ⟨_,underlying8,rfl,by decide⟩
 ·exact .inr ⟨_,underlying13,rfl,by decide⟩
 ·exact .inr ⟨_,underlying14,rfl,by decide⟩
 ·exact .inr ⟨_,underlying18,rfl,by decide⟩
 ·exact .inr ⟨_,underlying19,rfl,by decide⟩
 ·exact .inr ⟨_,underlying25,rfl,by decide⟩
 ·exact .inr ⟨_,underlying26,rfl,by decide⟩
 ·exact .inr ⟨_,underlying31,rfl,by decide⟩
 ·exact .inr ⟨_,underlying32,rfl,by decide⟩
 ·exact .inr ⟨_,underlying34,rfl,by decide⟩
 ·exact .inr ⟨_,underlying35,rfl,by decide⟩
 ·exact .inr ⟨_,underlying41,rfl,by decide⟩
 ·exact .inr ⟨_,underlying42,rfl,by decide⟩
 ·exact .inr ⟨_,underlying46,rfl,by decide⟩
 ·exact .inr ⟨_,underlying47,rfl,by decide⟩
 ·exact .inr ⟨_,underlying48,rfl,by decide⟩
 ·exact .inr ⟨_,underlying49,rfl,by decide⟩
 ·exact .inr ⟨_,underlying50,rfl,by decide⟩
 ·exact .inr ⟨_,underlying51,rfl,by decide⟩
 ·exact .inr ⟨_,underlying75,rfl,by decide⟩
 ·exact .inr ⟨_,underlying76,rfl,by decide⟩
 ·exact .inr ⟨_,underlying78,rfl,by decide⟩
 ·exact .inr ⟨_,underlying79,rfl,by decide⟩
 ·exact .inr ⟨_,underlying93,rfl,by decide⟩
 ·exact .inr ⟨_,underlying94,rfl,by decide⟩
 ·exact .inr ⟨_,underlying95,rfl,by decide⟩
 ·exact .inr ⟨_,underlying96,rfl,by decide⟩
 ·exact .inr ⟨_,underlying102,rfl,by decide⟩
 ·exact .inr ⟨_,underlying103,rfl,by decide⟩
 ·exact .inr ⟨_,underlying117,rfl,by decide⟩
 ·exact .inr ⟨_,underlying118,rfl,by decide⟩
 ·exact .inr ⟨_,underlying120,rfl,by decide⟩
 ·exact .inr ⟨_,underlying121,rfl,by decide⟩
 ·exact .inr ⟨_,underlying137,rfl,by decide⟩
 ·exact .inr ⟨_,underlying138,rfl,by decide⟩
 ·exact .inr ⟨_,underlying145,rfl,by decide⟩
 ·exact .inr ⟨_,underlying146,rfl,by decide⟩
 ·exact .inr ⟨_,underlying161,rfl,by decide⟩
 ·exact .inr ⟨_,underlying162,rfl,by decide⟩
 ·exact .inr ⟨_,underlying199,rfl,by decide⟩
 ·exact .inr ⟨_,underlying200,rfl,by decide⟩
 ·exact .inr ⟨_,underlying214,rfl,by decide⟩
 ·exact .inr ⟨_,underlying215,rfl,by decide⟩
 ·exact .inr ⟨_,underlying227,rfl,by decide⟩
 ·exact .inr ⟨_,underlying228,rfl,by decide⟩
 ·exact .inr ⟨_,underlying300,rfl,by decide⟩
 ·exact .inr ⟨_,underlying301,rfl,by decide⟩
 ·exact .inr ⟨_,underlying308,rfl,by decide⟩
 ·exact .inr ⟨_,underlying309,rfl,by decide⟩
 ·exact .inl rfl
theorem Ch:∀t j ft off,LW t j=some (ft,off)->∃F f,(prog).underlying t=some (.struct F)/\F[j]? = some f/\f.type=ft/\f.offset=off/\Cg ft≠0:=by
 intro t j ft off h;unfold LW at h
 rcases EM t with e | ⟨F,h1,h2,h3⟩
 ·rw[e] at h;simp at h
 ·have h4:=h3 _ (W6 h);rw[<-h2,W5,Array.getElem?_toList] at h;cases e:F[j]? with
  | none=>rw[e] at h;cases h
  | some f=>
   rw[e] at h;simp only[Option.map_some,gL,gM] at h;exact ⟨F,f,h1,e,h.1,h.2,h4⟩
theorem tK:TabOK prog tab:=⟨Cj,Ci,Ch⟩
instance:TabC prog tab:=⟨tK⟩
end Go.Eng
namespace La
open Go Go.Eng
structure Entry where
 name:List UInt8
 fid:Int
deriving DecidableEq,Inhabited
structure Node where
 fid:Int
 dir:Bool
 data:List UInt8
 entries:List Entry
 version:Int
deriving DecidableEq,Inhabited
structure Act where
 kind:Int
 fid:Int
 dir:Int
 name:List UInt8
 to:Int
 toName:List UInt8
 data:List UInt8
deriving DecidableEq,Inhabited
structure Rec where
 act:Act
 version:Int
 id:Int
deriving DecidableEq,Inhabited
def i (n:Int):AV:=.int .i64 n
def ZY (b:UInt8):List AV:=[.int .u8 (b.toNat:Int)]
def ZI (n:Int):List AV:=[.int .i64 n]
def ZE (e:Entry):List AV:=[.str e.name,.int .i64 e.fid]
def ZN (n:Node):List AV:=[.int .i64 n.fid,.bool n.dir,.sl (n.data.map ZY),.sl (n.entries.map ZE),.int .i64 n.version]
def ZA (a:Act):List AV:=[.int .i64 a.kind,.int .i64 a.fid,.int .i64 a.dir,.str a.name,.int .i64 a.to,.str a.toName,.sl (a.data.map ZY)]
def ZR (r:Rec):List AV:=[.int .i64 r.act.kind,.int .i64 r.act.fid,.int .i64 r.act.dir,.str r.act.name,.int .i64 r.act.to,.str r.act.toName,.sl (r.act.data.map ZY),.int .i64 r.version,.int .i64 r.id]
structure Fam {α:Type} (f:α->List AV) (n:Nat):Prop where
 len:∀a,(f a).length=n
 leaf:∀a,(f a).all AV.leaf=true
 pure:∀a,(f a).all AV.aT=true
 free:∀a,aA (f a)=[]
section
variable {α:Type} {f:α->List AV} {n:Nat}
theorem Fam.rowsOf (h:Fam f n) (l:List α):Eng.rowsOf n (l.map f):=by
 intro row hr;obtain ⟨a,_,rfl⟩:=W8.1 hr;exact h.len a
theorem Fam.jT (h:Fam f n) (l:List α):((l.map f).all λrow=>row.all AV.leaf)=true:=by
 rw[List.all_eq_true];intro row hr;obtain ⟨a,_,rfl⟩:=W8.1 hr;exact h.leaf a
theorem Fam.dW (h:Fam f n) (l:List α):((l.map f).all λrow=>row.all AV.aT)=true:=by
 rw[List.all_eq_true];intro row hr;obtain ⟨a,_,rfl⟩:=W8.1 hr;exact h.pure a
theorem Fam.iR (h:Fam f n) (id:Nat) (l:List α):((l.map f).all λrow=>row.all λx=>!(refs x).contains id)=true:=by
 rw[List.all_eq_true];intro row hr;obtain ⟨a,_,rfl⟩:=W8.1 hr;rw[List.all_eq_true];intro x hx;obtain ⟨j,hj⟩:=YC hx;have:refs x=[]:=by
  have h1:∀i,i∈refs x->i∈aA (f a):=λi hi=>aW hj hi
  rw[h.free a] at h1;exact List.eq_nil_iff_forall_not_mem.2 λi hi=>by simpa using h1 i hi
 rw[this];rfl
theorem Fam.av (h:Fam f n) (e s:Nat) (l:List α):Eng.av (.cells e s (l.map f))=[]:=by
 simp only[Eng.av]
 induction l with
 | nil=>rfl
 | cons a r ih=>simp only[List.map_cons,List.flatMap_cons,h.free a,ih,List.nil_append]
theorem Fam.gu (h:∀a (off:Nat),Eng.gu off (f a)=f a) (off:Nat) (l:List α):(l.map f).map (Eng.gu off)=l.map f:=by
 induction l with
 | nil=>rfl
 | cons a r ih=>simp only[List.map_cons,h a off,ih]
theorem Fam.db (h:∀a (id s:Nat) (rows:List (List AV)),Eng.db id s rows (f a)=f a) (id s:Nat) (rows:List (List AV)) (l:List α):(l.map f).map (Eng.db id s rows)=l.map f:=by
 induction l with
 | nil=>rfl
 | cons a r ih=>simp only[List.map_cons,h a id s rows,ih]
end
@[go_sem,simp] theorem Ku {α:Type} (f:α->List AV) (l:List α):(l.map f).take l.length=l.map f:=W4 w8
theorem dA {α:Type} [Inhabited α] (f:α->List AV) {l:List α} {i:Nat} (h:i<l.length):(l.take (i+1)).map f=(l.take i).map f++[f (l.getD i default)]:=by
 rw[List.take_succ_eq_append_getElem h,List.map_append,List.getD_eq_getElem?_getD,W3 h];rfl
theorem ZT {α:Type} [Inhabited α] {l:List α} {i:Nat} (h:i<l.length):l.take (i+1)=l.take i++[l.getD i default]:=by
 rw[List.take_succ_eq_append_getElem h,List.getD_eq_getElem?_getD,W3 h];rfl
theorem ck {α:Type} [Inhabited α] {l:List α} {i:Nat} (h:i<l.length):l.drop i=l.getD i default::l.drop (i+1):=by
 rw[List.drop_eq_getElem_cons h,List.getD_eq_getElem?_getD,W3 h];rfl
def cq:Option Nat->Int
 | none=>-1
 | some k=>k
theorem eN {α:Type} {p:α->Bool}:∀{l:List α} {i:Nat} {x:α},l[i]? = some x->(∀y,y∈l.take i->p y=false)->p x=true->l.findIdx? p=some i
 | [],i,x,h,_,_=>by simp at h
 | y::r,0,x,h,_,hp=>by
  simp only[List.getElem?_cons_zero,gL] at h;subst h;simp[List.findIdx?_cons,hp]
 | y::r,i+1,x,h,hn,hp=>by
  have h0:=hn y w8;rw[List.findIdx?_cons,h0];simp only[Bool.false_eq_true,if_false];rw[eN (l:=r) (i:=i) u1 (λz hz=>hn z (by simp[hz])) hp];rfl
structure Node.Small (n:Node):Prop where
 data:n.data.length<=100000000
 entries:n.entries.length<=100000000
structure Small (l:List Node):Prop where
 len:l.length<=100000000
 each:∀n,n∈l->n.Small
theorem YG {α:Type} [Inhabited α] {l:List α} {i:Nat} (h:i<l.length):l.getD i default∈l:=by
 rw[List.getD_eq_getElem?_getD,W3 h];exact YY h
theorem Fam.getD {α:Type} [Inhabited α] {f:α->List AV} {l:List α} {i:Nat} (h:i<l.length):(l.map f).getD i []=f (l.getD i default):=by
 rw[List.getD_eq_getElem?_getD,W5,List.getD_eq_getElem?_getD,W3 h];rfl
theorem im:Fam ZY 1:=⟨λ_=>rfl,λ_=>rfl,λ_=>rfl,λ_=>rfl⟩
@[go_sem,simp] theorem Fe (l:List _):Eng.rowsOf 1 (l.map ZY):=im.rowsOf l
@[go_sem,simp] theorem Ih (l:List _):((l.map ZY).all λrow=>row.all AV.leaf)=true:=im.jT l
@[go_sem,simp] theorem lh (l:List _):((l.map ZY).all λrow=>row.all AV.aT)=true:=im.dW l
@[go_sem,simp] theorem Hi (id:Nat) (l:List _):((l.map ZY).all λrow=>row.all λx=>!(refs x).contains id)=true:=im.iR id l
@[go_sem,simp] theorem Hj (e s:Nat) (l:List _):av (.cells e s (l.map ZY))=[]:=im.av e s l
@[go_sem,simp] theorem Ig (id s:Nat) (rows:List (List AV)) (l:List _):(l.map ZY).map (db id s rows)=l.map ZY:=Fam.db (λ_ _ _ _=>rfl) id s rows l
theorem tD:Fam ZI 1:=⟨λ_=>rfl,λ_=>rfl,λ_=>rfl,λ_=>rfl⟩
@[go_sem,simp] theorem IK (e s:Nat) (l:List _):av (.cells e s (l.map ZI))=[]:=tD.av e s l
theorem fg:Fam ZE 2:=⟨λ_=>rfl,λ_=>rfl,λ_=>rfl,λ_=>rfl⟩
@[go_sem,simp] theorem sa (l:List _):Eng.rowsOf 2 (l.map ZE):=fg.rowsOf l
@[go_sem,simp] theorem ve (l:List _):((l.map ZE).all λrow=>row.all AV.leaf)=true:=fg.jT l
@[go_sem,simp] theorem dx (l:List _):((l.map ZE).all λrow=>row.all AV.aT)=true:=fg.dW l
@[go_sem,simp] theorem mA (id:Nat) (l:List _):((l.map ZE).all λrow=>row.all λx=>!(refs x).contains id)=true:=fg.iR id l
@[go_sem,simp] theorem FD (e s:Nat) (l:List _):av (.cells e s (l.map ZE))=[]:=fg.av e s l
@[go_sem,simp] theorem Hm (off:Nat) (l:List _):(l.map ZE).map (gu off)=l.map ZE:=Fam.gu (λ_ _=>rfl) off l
@[go_sem,simp] theorem Hl (id s:Nat) (rows:List (List AV)) (l:List _):(l.map ZE).map (db id s rows)=l.map ZE:=Fam.db (λ_ _ _ _=>rfl) id s rows l
theorem fR:Fam ZN 5:=⟨λ_=>rfl,λ_=>rfl,λ_=>rfl,λ_=>rfl⟩
@[go_sem,simp] theorem ud (l:List _):Eng.rowsOf 5 (l.map ZN):=fR.rowsOf l
@[go_sem,simp] theorem xR (l:List _):((l.map ZN).all λrow=>row.all AV.leaf)=true:=fR.jT l
@[go_sem,simp] theorem fm (l:List _):((l.map ZN).all λrow=>row.all AV.aT)=true:=fR.dW l
@[go_sem,simp] theorem ob (id:Nat) (l:List _):((l.map ZN).all λrow=>row.all λx=>!(refs x).contains id)=true:=fR.iR id l
@[go_sem,simp] theorem Ht (e s:Nat) (l:List _):av (.cells e s (l.map ZN))=[]:=fR.av e s l
@[go_sem,simp] theorem Jb (off:Nat) (l:List _):(l.map ZN).map (gu off)=l.map ZN:=Fam.gu (λ_ _=>rfl) off l
@[go_sem,simp] theorem I' (id s:Nat) (rows:List (List AV)) (l:List _):(l.map ZN).map (db id s rows)=l.map ZN:=Fam.db (λ_ _ _ _=>rfl) id s rows l
theorem ll:Fam ZA 7:=⟨λ_=>rfl,λ_=>rfl,λ_=>rfl,λ_=>rfl⟩
@[go_sem,simp] theorem re (l:List _):((l.map ZA).all λrow=>row.all AV.aT)=true:=ll.dW l
@[go_sem,simp] theorem H4 (id:Nat) (l:List _):((l.map ZA).all λrow=>row.all λx=>!(refs x).contains id)=true:=ll.iR id l
@[go_sem,simp] theorem H5 (e s:Nat) (l:List _):av (.cells e s (l.map ZA))=[]:=ll.av e s l
@[go_sem,simp] theorem KG (id s:Nat) (rows:List (List AV)) (l:List _):(l.map ZA).map (db id s rows)=l.map ZA:=Fam.db (λ_ _ _ _=>rfl) id s rows l
theorem gQ:Fam ZR 9:=⟨λ_=>rfl,λ_=>rfl,λ_=>rfl,λ_=>rfl⟩
@[go_sem,simp] theorem vm (l:List _):Eng.rowsOf 9 (l.map ZR):=gQ.rowsOf l
@[go_sem,simp] theorem Ao (l:List _):((l.map ZR).all λrow=>row.all AV.leaf)=true:=gQ.jT l
@[go_sem,simp] theorem da (l:List _):((l.map ZR).all λrow=>row.all AV.aT)=true:=gQ.dW l
@[go_sem,simp] theorem ja (id:Nat) (l:List _):((l.map ZR).all λrow=>row.all λx=>!(refs x).contains id)=true:=gQ.iR id l
@[go_sem,simp] theorem Jn (e s:Nat) (l:List _):av (.cells e s (l.map ZR))=[]:=gQ.av e s l
@[go_sem,simp] theorem KR (off:Nat) (l:List _):(l.map ZR).map (gu off)=l.map ZR:=Fam.gu (λ_ _=>rfl) off l
@[go_sem,simp] theorem KQ (id s:Nat) (rows:List (List AV)) (l:List _):(l.map ZR).map (db id s rows)=l.map ZR:=Fam.db (λ_ _ _ _=>rfl) id s rows l
@[go_sem,simp] theorem IL (a):aA (ZI a)=[]:=tD.free a
@[go_sem,simp] theorem FE (a):aA (ZE a)=[]:=fg.free a
@[go_sem,simp] theorem kq (a):aA (ZN a)=[]:=fR.free a
@[go_sem,simp] theorem H6 (a):aA (ZA a)=[]:=ll.free a
@[go_sem,simp] theorem Jo (a):aA (ZR a)=[]:=gQ.free a
@[go_sem,simp] theorem Mc (l:List UInt8):(l.map ZY).map Eng.byteOf=l:=by
 rw[Yi];have:Eng.byteOf∘ZY=id:=by
  funext b
  show UInt8.ofNat ((b.toNat:Int)).toNat=b
  simp
 rw[this,List.map_id]
@[go_sem,simp] theorem K8 (b:UInt8):E3 (ZY b):=⟨_,rfl⟩
end La
namespace Go.Eng
open Go.ChangeShapes Go.WideShapes Go.RowKit
section
variable {H:Type} {enc:TypeId×Value->H} {P:Program}
theorem Frm.at {W W':World} (h:Frm (λ_=>False) W W') {b:Nat} (hb:b<W.heap.size):W'.heap[b]? = W.heap[b]?:=h.block b hb (λh=>h)
theorem Frm.kept {W W':World} (h:Frm (λ_=>False) W W') (may:MemPlace->Prop):W.keptBut W' may:=by
 refine ⟨h.os,h.output,λi hi=>?_⟩;rw[h.at hi];split
 ·rename_i c t fr c' t' fr' h1 h2;rw[h1] at h2;simp only[gL,Obj.cells.injEq] at h2;obtain ⟨rfl,rfl,rfl⟩:=h2;exact ⟨rfl,rfl,rfl,λ_ _=>rfl⟩
 ·rename_i es c es' c' h1 h2;rw[h1] at h2;simp only[gL,Obj.map.injEq] at h2;obtain ⟨rfl,rfl⟩:=h2;exact .inr ⟨rfl,rfl⟩
 ·rfl
theorem rV {W W':World} (h:Frm (λ_=>False) W W') {b:Nat} {sp:Nat->Bool} {held:Bool}:∀{ts:List TypeId} {vs:List Value} {ds:List (DataW H)} {ps:List MemPlace},
  DataW.TrodAll enc P W b sp held ts vs ds ps->(∀p∈ps,p.block<W.heap.size)->DataW.TrodAll enc P W' b sp held ts vs ds ps
 | [],[],[],_,h,_=>h
 | _::_,_::_,_::_,_,⟨p,q,⟨n,h1⟩,h2,e⟩,hl=>by
  subst e;refine ⟨p,q,⟨n,DataW.trod_carry n _ _ _ h1 λx hx=>?_⟩,rV h h2 (λx hx=>hl x (YI _ hx)),rfl⟩;have hb:=hl x (YS _ hx);cases x with
  | cell b off=>exact qd (h.at hb)
  | map b=>exact h.at hb
theorem D8 (hl:laidOutB P=true) (hm:mapsRowed P=true) (hz:∀t e,t<P.types.size->P.underlying t=some (.slice e)->0<P.cellsOf e) {f:Func} {s:ChangeSpec} {W W':World} {args:Array Value} {ds gs:List (DataW H)} {before:List MemPlace} {tb:TypeId}
  (hts:∀t∈f.params.toList,t<P.types.size) (hv:s.vars=[]) (hb:P.underlying tb=some .bool) (hr:f.resultTypes=#[tb])
  (hW:DataW.Whole enc P f.params.toList s.vars false W args.toList ds gs before) (hf:Frm (λ_=>False) W W')
  (h1:(s.fn H (ds++gs)).results=[.lit (.bool true)]) (h2:(s.fn H (ds++gs)).args=ds) (h3:(s.fn H (ds++gs)).vars=[]) :
  s.post enc P f false true false false W args (.bool true) W':=by
 have hW':=hW;obtain ⟨p,q,hA,hV,rfl,hfz,hnd⟩:=hW;rw[hv] at hV;obtain ⟨rfl,rfl⟩:=trodVars_none hV;have hlt:∀x∈p,x.block<W.heap.size:=λx hx=>hA.lt x hx
 refine ⟨ds,[],p++[],[],p,[],hW',?_,?_,?_,hf.kept _,λh=>nomatch h⟩
 ·rw[h1,hr];exact trodAll_cons_mk (shut_bool hb _) trodAll_mk0
 ·rw[h2];exact rV hf (DataW.TrodAll.respare (kids_rows hl hm) hz hts hA (λx hx=>by simpa using hlt x hx)) hlt
 ·rw[h3,hv];rfl
end
end Go.Eng
namespace La
open Go Go.Eng Go.Proofs Go.Proofs.Tryz
theorem ZM:(prog).follows .mixedOrders=true:=by kernel_rfl
theorem own:ownKnob prog.godebug=none:=by kernel_rfl
theorem laid:laidOutB prog=true:=by kernel_rfl
theorem Mj:mapsRowed prog=true:=by kernel_rfl
theorem full:∀t e,t<prog.types.size->prog.underlying t=some (.slice e)->0<prog.cellsOf e:=slices_full_of _ w9
abbrev Fo (f:FuncId) (args:List AV) (X:AV):Prop:=ai Go.Proofs.Tryz.prog f args [] λr _=>r=X
end La
