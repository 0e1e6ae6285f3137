/- Texts of this claim, part 42: WSeen. No condition. -/
import Derived.Test.YtmcfbfdonjllaaaGreatDoorYW31
set_option maxRecDepth 10000
set_option maxHeartbeats 4000000
set_option linter.unusedSimpArgs false
set_option linter.unusedVariables false
namespace La
open Go Go.Eng Go.Proofs
def jM (cs:List Cli) (s1 s2:Reply) (i:Nat):List Reply:=if (cs.take i).any (λc=>!c.away)=true then [s1,s2] else []
theorem xi {cs:List Cli} {s1 s2:Reply} {i:Nat} (h:i<cs.length) (ha:(cs.getD i default).away=true):jM cs s1 s2 (i+1)=jM cs s1 s2 i:=by
 unfold jM;rw[ZT h,List.any_append];simp only[List.any_cons,List.any_nil,ha,Bool.not_true,Bool.or_false]
theorem xj {cs:List Cli} {s1 s2:Reply} {i:Nat} (h:i<cs.length) (ha:(cs.getD i default).away=false):jM cs s1 s2 (i+1)=[s1,s2]:=by
 unfold jM;rw[ZT h,List.any_append,if_pos (by simp only[List.any_cons,ha,Bool.not_false,Bool.true_or,Bool.or_true])]
theorem BC (cs:List Cli) (s1 s2:Reply) (i:Nat):jM cs s1 s2 i=[]\/jM cs s1 s2 i=[s1,s2]:=by
 unfold jM;split
 ·exact .inr rfl
 ·exact .inl rfl
theorem Bd {B T:Nat} {w:Wor} (h:WInv B T w) (hB:B≤30000000) (hT:T≤800000000000) {i:Nat} (hi:i<w.cs.length) (ha:(w.cs.getD i default).away=false) {k:Int} (hk:k=1\/k=2) (path:List UInt8) (hp:path.length≤10000000) :
  ∃g,ag Tryz.prog 28 [.agg (bI w),.agg (ZX ⟨k,i,0,path,[],[]⟩)] [] (λr _=>r=.tup [.agg (bI g),.agg (aj (kv k w.s.tree path))]):=by
 have hd:=Ao w h hB hT ⟨k,i,0,path,[],[]⟩ hp (Wg _);have hr:(ai w ⟨k,i,0,path,[],[]⟩).r=kv k w.s.tree path:=by
  have:=ni (h.at hi) ha ⟨k,i,0,path,[],[]⟩ hk;unfold ai;rw[if_neg k7];exact this
 unfold mG at hd;rw[hr] at hd;exact ⟨_,hd⟩
theorem E5 (rooms:List Int) (l:List Step) (path:List UInt8) (hr:rooms.length≤100000000) (hl:StepsOK l) (hp:path.length≤10000000):ag Tryz.prog 7 [.sl (rooms.map ZI),.sl (l.map ZX),.str path] [] (λr _=>r=.bool true):=by
 have hpl:=yR rooms hr l hl;have hll:=hl.len;unfold sO at hpl;have hI:jy rooms l=0->WInv (20*l.length) (300*l.length) (sP rooms l):=λhe=>by
  unfold sP;rw[if_pos he];exact mu (sQ he).1 l
 generalize jy rooms l=E at *;generalize sP rooms l=W at *;unfold bI at hpl;refine ZF tK (Tryz.func7) rfl (λC=>?_);simp only[Tryz.ntmps7,Tryz.results7,go_sem];refine wG tK ?_;refine wC Tryz.func24 (hf:=(Ax)) (hk:=?_);refine wG tK ?_;refine wDF (hb:=(rfl)) (hk:=?_);refine wG tK ?_;refine wC Tryz.func16 (hf:=(hpl)) (hk:=?_);refine wG tK ?_;refine wD (λh=>?_) (λh=>?_)
 ·refine wG tK ?_;refine wT ?_;rfl
 have he:E=0:=by simpa using h
 have hI:=hI he;have h3:=hI.len;have hat:=λi (hi:i<W.cs.length) (ha:(W.cs.getD i default).away=false)=>Bd hI z7 z7 hi ha (.inl rfl) path hp
 have hbt:=λi (hi:i<W.cs.length) (ha:(W.cs.getD i default).away=false)=>Bd hI z7 z7 hi ha (.inr rfl) path hp
 generalize kv 1 W.s.tree path=s1 at *;generalize kv 2 W.s.tree path=s2 at *;have q1:=mz s1;have q2:=mz s2;have f0:jM W.cs s1 s2 0=[]:=rfl;refine wG tK ?_;refine ZL (λi:Nat=>i≤W.cs.length) (λi=>W.cs.length-i) (λi=>(10,.sl ((jM W.cs s1 s2 i).map aj))::u3 11 6 ((31,.int .i64 i)::u3 32 43 []))
  (λ_=>[]) 0 z7 ?_ λi hi=>?_
 ·rw[f0];simp only[go_sem];exact ZU w4 w4 w4
 simp only[go_sem];refine wG tK ?_;refine wD (λh=>?_) (λh=>?_)
 ·have hlt:i<W.cs.length:=by simp at h;omega
  have how':=wi1 (i:=i) z7;have hat:=hat i hlt;have hbt:=hbt i hlt;have g1:=@xi W.cs s1 s2 i hlt;have g2:=@xj W.cs s1 s2 i hlt;have g3:=BC W.cs s1 s2 i;have hg:(W.cs.map ZC).getD i []=ZC (W.cs.getD i default):=Fam.getD hlt;generalize W.cs.getD i default=c at *;refine wGq tK ?_ ?_ n9
  ·simp[hg,ZC,hlt]
  cases ha:c.away with
  | true=>
   have g1:=g1 ha;refine wDT (hb:=Qu) (hk:=?_);refine wG tK ?_ j0 QF;refine ZB ⟨i+1,by omega,by omega,ZU ?_ ?_ ?_⟩
   ·simp[go_sem,g1]
   ·simp[go_sem]
   ·simp[go_sem]
  | false=>
   have g2:=g2 ha;obtain ⟨ga,hat⟩:=hat ha;obtain ⟨gb,hbt⟩:=hbt ha;simp only[bI,ZX,List.map_nil,aj] at hat hbt q1 q2;refine wDF (hb:=Qu) (hk:=?_);refine wG tK ?_;refine bf (rH 42 z6 Qh) ?_;simp only[go_sem];refine wC Tryz.func28 (hf:=(hat)) (hk:=?_);refine wG tK ?_;refine bf (rH 50 z6 Qh) ?_;simp only[go_sem];refine wC Tryz.func28 (hf:=(hbt)) (hk:=?_);refine wG tK ?_
   rcases g3 with g3 | g3
   ·rw[g3];simp only[go_sem];refine wDT (hb:=y7) (hk:=?_);refine wG tK ?_;refine ZZ 59 rfl (rfl) ?_;simp only[go_sem];refine ZW ZM ?_;refine ZS rfl ?_;refine sN tK 4 ?_;refine sC Tryz.func22 (hf:=(q1)) (hk:=?_);refine sN tK 6 ?_;refine sCC Tryz.func22 (hf:=λhb=>(q2)) (hk:=?_);refine sN tK 2 ?_;refine sE ?_;refine wKd ?_
    try simp only[go_sem,gA,gB,gC]
    refine wG tK ?_;refine wDF (hb:=y7) (hk:=?_);refine wG tK ?_ j0 QF;refine ZB ⟨i+1,by omega,by omega,ZU ?_ ?_ ?_⟩
    ·simp[go_sem,g2,aj]
    ·simp[go_sem]
    ·simp[go_sem]
   ·rw[g3];simp only[go_sem,aj];refine wDF (hb:=y7) (hk:=?_);refine wG tK ?_;refine ZW ZM ?_;refine ZS rfl ?_;refine sN tK 4 ?_;refine sC Tryz.func22 (hf:=(q1)) (hk:=?_);refine sN tK 6 ?_;refine sCC Tryz.func22 (hf:=λhb=>(q2)) (hk:=?_);refine sN tK 2 ?_;refine sE ?_;refine wKd ?_
    try simp only[go_sem,gA,gB,gC]
    refine wG tK ?_;refine wDF (hb:=y7) (hk:=?_);refine wG tK ?_ j0 QF;refine ZB ⟨i+1,by omega,by omega,ZU ?_ ?_ ?_⟩
    ·simp[go_sem,g2,aj]
    ·simp[go_sem]
    ·simp[go_sem]
 ·refine wG tK ?_;refine wT ?_;rfl
end La
