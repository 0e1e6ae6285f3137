/- Texts of this claim, part 39: CDo2, CDo3, WDo, WPlay, WFates, WAli12, WNone. No condition. -/
import Derived.Test.YtmcfbfdonjllaaaGreatDoorZP38
import Derived.Test.YtmcfbfdonjllaaaGreatDoorZP35
set_option maxRecDepth 10000
set_option maxHeartbeats 4000000
set_option linter.unusedSimpArgs false
set_option linter.unusedVariables false
namespace La
open Go Go.Eng Go.Proofs Go.Proofs.Tryz
variable {Fa:Prop}
theorem Mf {B T:Nat} (c:Cli) (s:Srv) (h:UInvF Fa B T ⟨c,s⟩) (hB:B<=30000000) (hT:T<=800000000000) (x:Step) (hp:x.path.length<=10000000) (hq:x.toPath.length<=10000000) (hk:x.kind≠8):Fo 42 [.agg (ZC c),.agg (ZQ s),.agg (ZX x)] (gP (an ⟨c,s⟩ x)):=by
 have hco:=yE c (h.cli.ky z8);have hso:=sU s h.srv.hist.bs.small (h.srv.Ak z8);have htq:List.take c.repair.length (c.repair.map ZR)=c.repair.map ZR:=W4 w8;unfold ZC ss at hco;unfold ZQ at hso;unfold ZC ZQ ZX;refine wSG func42 ntmps42 results42 λC=>?_
 refine ZZ 5 rfl (rfl) (wn ?_);refine wO ?_;refine sN 1 ?_;refine g_ 0 rfl rfl z7 w3 ⟨_,func41,by kernel_rfl,rfl⟩ w3 (hco) w3 z7 z7 w3 z6 z6 ?_;refine sN 1 ?_;refine sC ?_ func40 (hf:=hso);refine sB ?_;refine sW ?_;refine sG ?_;refine wX ?_;refine ZZ 901 rfl (da _) ?_;simp only[go_sem,htq];refine af (gy 19 900) ?_;refine wR ?_;refine wN 1 ?_;refine wR ?_;refine wN 2 ?_;refine jv ?_;refine af (au 10) (wn ?_);refine pe (λq:U×Reply=>an ⟨c,s⟩ x=⟨q.1,q.2⟩) (λq=>(11,.any)::(12,.any)::(13,.any)::u0 22 84 []) (λq=>[(900,.cells 146 13 [bt q.1]),(10,.cells 42 4 [bc q.2])]) ?_ λq hS=>?_
 ·refine wG ?_
  by_cases h1:x.kind=1
  ·refine wTG ?_ (hb:=by simp[h1]);have hS:an ⟨c,s⟩ x=oc ⟨c,s⟩ x:=by unfold an oc;rw[if_pos (.inl h1)]
   have hw:=C0 ⟨c,s⟩ h hB hT x hp (.inl h1);rw[hS];generalize oc ⟨c,s⟩ x=w at *;unfold cuH bt ZX bc at hw;refine wTG ?_ (hb:=by simp[h1]);refine wP ?_ [900] func71 (hf:=hw);refine wG ?_;exact ZB ⟨(w.u,w.r),rfl,ZU w3 (by simp[go_sem,bt,bc]) w3⟩
  refine wFG ?_ (hb:=Zc)
  by_cases h2:x.kind=2
  ·skip
   have hS:an ⟨c,s⟩ x=oc ⟨c,s⟩ x:=by unfold an oc;rw[if_pos (.inr h2)]
   have hw:=C0 ⟨c,s⟩ h hB hT x hp (.inr h2);rw[hS];generalize oc ⟨c,s⟩ x=w at *;unfold cuH bt ZX bc at hw;refine wTG ?_ (hb:=by simp[h2]);refine wP ?_ [900] func71 (hf:=hw);refine wG ?_;exact ZB ⟨(w.u,w.r),rfl,ZU w3 (by simp[go_sem,bt,bc]) w3⟩
  refine wFG ?_ (hb:=WY)
  by_cases h3:x.kind=3
  ·have hS:an ⟨c,s⟩ x=⟨(bK ⟨c,s⟩ x.path x.data).u,cA (bK ⟨c,s⟩ x.path x.data).e⟩:=by unfold an;rw[if_neg z8,if_pos h3]
   have hw:=Hf ⟨c,s⟩ h hB hT x.path x.data hp;rw[hS];generalize bK ⟨c,s⟩ x.path x.data=w at *;unfold cuH bt at hw;refine wTG ?_ (hb:=by simp[h3]);refine wP ?_ [900] func72 (hf:=hw);refine wG ?_;exact ZB ⟨(w.u,cA w.e),rfl,ZU w3 Qu w3⟩
  refine wFG ?_ (hb:=by simpa using h3)
  by_cases h4:x.kind=4
  ·have hS:an ⟨c,s⟩ x=⟨(eS ⟨c,s⟩ x.path).u,cA (eS ⟨c,s⟩ x.path).e⟩:=by unfold an;rw[if_neg z8,if_neg h3,if_pos h4]
   have hM:eS ⟨c,s⟩ x.path=if (ah ⟨c,s⟩ x.path).e≠0 then ⟨(ah ⟨c,s⟩ x.path).e,(ah ⟨c,s⟩ x.path).u⟩ else bY (ah ⟨c,s⟩ x.path).u (iQ (ah ⟨c,s⟩ x.path).n.fid (ah ⟨c,s⟩ x.path).name) (-1):=rfl;have hd:=kS ⟨c,s⟩ h z8 z8 x.path hp;have hdi:=cF h x.path;have hnm:=bR ⟨c,s⟩ x.path;rw[hS];generalize eS ⟨c,s⟩ x.path=w at *;generalize ah ⟨c,s⟩ x.path=d at *;unfold cuH bt at hd;refine wTG ?_ (hb:=by simp[h4]);refine wP ?_ [900] func73 (hf:=hd);refine wGq ?_ ?_ w5
   ·simp[ZN]
   by_cases hde:d.e=0
   ·rw[if_neg u5] at hM;have hact:=p_ d.u hdi z8 z8 (iQ d.n.fid d.name) ⟨hnm,by simp[iQ],by simp[iQ]⟩ (-1);unfold cuH bt at hact;simp only[ZA,iQ,List.map_nil] at hact hM;generalize bY d.u ⟨2,0,d.n.fid,d.name,0,[],[]⟩ (-1)=y at *;rw[hM];refine wTG ?_ (hb:=u5);refine af (xF 53 z6 WH) (wn ?_);refine wP ?_ [900] func74 (hf:=hact);refine wG ?_;exact ZB ⟨(y.u,cA y.e),rfl,ZU w3 Qu w3⟩
   ·rw[if_pos u5] at hM;rw[hM];refine wFG ?_ (hb:=u5);exact ZB ⟨(d.u,cA d.e),rfl,ZU w3 Qu w3⟩
  refine wFG ?_ (hb:=by simpa using h4)
  by_cases h5:x.kind=5
  ·have hS:an ⟨c,s⟩ x=⟨(bx ⟨c,s⟩ x.path).u,cA (bx ⟨c,s⟩ x.path).e⟩:=by unfold an;rw[if_neg z8,if_neg h3,if_neg h4,if_pos h5]
   have hw:=BV ⟨c,s⟩ h hB hT x.path hp;rw[hS];generalize bx ⟨c,s⟩ x.path=w at *;unfold cuH bt at hw;refine wTG ?_ (hb:=by simp[h5]);refine wP ?_ [900] func75 (hf:=hw);refine wG ?_;exact ZB ⟨(w.u,cA w.e),rfl,ZU w3 Qu w3⟩
  refine wFG ?_ (hb:=by simpa using h5)
  by_cases h6:x.kind=6
  ·have hS:an ⟨c,s⟩ x=⟨(cW ⟨c,s⟩ x.path x.toPath).u,cA (cW ⟨c,s⟩ x.path x.toPath).e⟩:=by unfold an;rw[if_neg z8,if_neg h3,if_neg h4,if_neg h5,if_pos h6]
   have hw:=I8 ⟨c,s⟩ h hB hT x.path x.toPath hp hq;rw[hS];generalize cW ⟨c,s⟩ x.path x.toPath=w at *;unfold cuH bt at hw;refine wTG ?_ (hb:=by simp[h6]);refine wP ?_ [900] func76 (hf:=hw);refine wG ?_;exact ZB ⟨(w.u,cA w.e),rfl,ZU w3 Qu w3⟩
  refine wFG ?_ (hb:=by simpa using h6)
  by_cases h7:x.kind=7
  ·have hS:an ⟨c,s⟩ x=⟨⟨{ c with away:=true },s⟩,cA 0⟩:=by unfold an;rw[if_neg z8,if_neg h3,if_neg h4,if_neg h5,if_neg h6,if_pos h7]
   rw[hS];refine wTG ?_ (hb:=by simp[h7]);refine ZB ⟨(⟨{ c with away:=true },s⟩,cA 0),rfl,ZU ?_ ?_ ?_⟩
   ·simp[go_sem]
   ·simp[go_sem,bt,bc,cA]
   ·simp[go_sem]
  refine wFG ?_ (hb:=by simpa using h7);refine wFG ?_ (hb:=Za)
  by_cases h9:x.kind=9
  ·have hS:an ⟨c,s⟩ x=⟨(de ⟨c,s⟩ x.path x.n).u,cA (de ⟨c,s⟩ x.path x.n).e⟩:=by unfold an;rw[if_neg z8,if_neg h3,if_neg h4,if_neg h5,if_neg h6,if_neg h7,if_neg hk,if_pos h9]
   have hw:=DF ⟨c,s⟩ h x.path hp x.n;rw[hS];generalize de ⟨c,s⟩ x.path x.n=w at *;unfold cuH bt at hw;refine wTG ?_ (hb:=by simp[h9]);refine wP ?_ [900] func78 (hf:=hw);refine wG ?_;exact ZB ⟨(w.u,cA w.e),rfl,ZU w3 Qu w3⟩
  refine wFG ?_ (hb:=by simpa using h9)
  by_cases h10:x.kind=10
  ·have hS:an ⟨c,s⟩ x=if c.away=true then ⟨⟨c,s⟩,cA 12⟩ else ⟨(fb ⟨c,s⟩).u,⟨0,(fb ⟨c,s⟩).n,0,[]⟩⟩:=by unfold an;rw[if_neg z8,if_neg h3,if_neg h4,if_neg h5,if_neg h6,if_neg h7,if_neg hk,if_neg h9,if_pos h10]
   refine wTG ?_ (hb:=by simp[h10]);cases ha:c.away with
   | true=>
    have hw:=Cq ⟨c,s⟩ h ha;rw[if_pos ha] at hS;rw[hS];unfold cuH bt at hw;rw[show (⟨c,s⟩:U).c.away=true from ha] at hw;refine wP ?_ [900] func79 (hf:=hw);refine wG ?_;refine ZB ⟨(⟨c,s⟩,cA 12),rfl,ZU ?_ ?_ ?_⟩
    ·simp[go_sem]
    ·simp[go_sem,bt,bc,cA,ha]
    ·simp[go_sem]
   | false=>
    have hw:=Cr ⟨c,s⟩ h ha hB hT;rw[if_neg Zh] at hS;rw[hS];generalize fb ⟨c,s⟩=w at *;unfold cuH bt at hw;rw[show (⟨c,s⟩:U).c.away=false from ha] at hw;refine wP ?_ [900] func79 (hf:=hw);refine wG ?_;refine ZB ⟨(w.u,⟨0,w.n,0,[]⟩),rfl,ZU ?_ ?_ ?_⟩
    ·simp[go_sem]
    ·simp[go_sem,bt,bc]
    ·simp[go_sem]
  have hS:an ⟨c,s⟩ x=⟨⟨c,s⟩,cA 1⟩:=by unfold an;rw[if_neg z8,if_neg h3,if_neg h4,if_neg h5,if_neg h6,if_neg h7,if_neg hk,if_neg h9,if_neg h10]
  rw[hS];refine wFG ?_ (hb:=by simpa using h10);refine ZB ⟨(⟨c,s⟩,cA 1),rfl,ZU ?_ ?_ ?_⟩
  ·simp[go_sem]
  ·simp[go_sem,bt,bc,cA]
  ·simp[go_sem]
 obtain ⟨v,r⟩:=q;simp only at hS;rw[hS];simp only[go_sem,bt,bc];refine wGS ?_;refine sN 9 ?_;refine sT ?_;refine sT ?_;refine sT ?_;refine wX ?_;refine wGT ?_;rfl
variable {Fa:Prop}
theorem Ld {B T:Nat} (c:Cli) (s:Srv) (h:UInvF Fa B T ⟨c,s⟩) (hB:B<=30000000) (x:Step) (hk:x.kind=8):Fo 42 [.agg (ZC c),.agg (ZQ s),.agg (ZX x)] (gP (an ⟨c,s⟩ x)):=by
 have hco:=yE c (h.cli.ky z8);have hso:=sU s h.srv.hist.bs.small (h.srv.Ak z8);have hS:an ⟨c,s⟩ x=⟨lY ⟨c,s⟩,⟨0,fz (aD ⟨c,s⟩),((aD ⟨c,s⟩).length-fz (aD ⟨c,s⟩):Nat),[]⟩⟩:=by
  unfold an;rw[if_neg z8,if_neg z8,if_neg z8,if_neg z8,if_neg z8,if_neg z8,if_pos hk]
 have hw:=Ib ⟨c,s⟩ h z8;rw[hS];generalize (aD ⟨c,s⟩).length-fz (aD ⟨c,s⟩)=m2 at *;generalize fz (aD ⟨c,s⟩)=m1 at *;generalize lY ⟨c,s⟩=w at *;unfold Lb rW Fl bt at hw;unfold ZC ss at hco;unfold ZQ at hso;unfold ZC ZQ ZX;refine wSG func42 ntmps42 results42 λC=>?_
 refine ZZ 5 rfl (rfl) (wn ?_);refine wO ?_;refine sN 1 ?_;refine g_ 0 rfl rfl z7 w3 ⟨_,func41,by kernel_rfl,rfl⟩ w3 (hco) w3 z7 z7 w3 z6 z6 ?_;refine sN 1 ?_;refine sC ?_ func40 (hf:=hso);refine sB ?_;refine sW ?_;refine sG ?_;refine wXG ?_;refine af (au 10) (wn ?_);refine wFG ?_ (hb:=QM);refine wFG ?_ (hb:=QM);refine wFG ?_ (hb:=QM);refine wFG ?_ (hb:=QM);refine wFG ?_ (hb:=QM);refine wFG ?_ (hb:=QM);refine wFG ?_ (hb:=QM);refine wTG ?_ (hb:=QM);refine bC rfl (Cl rfl z7 w3 ⟨_,func77,by kernel_rfl,rfl⟩ [19] [901] w6 w3 w8 w3 w3 w3 w3 (hw) w7) ?_;refine wGS ?_;refine sN 9 ?_;refine sT ?_;refine sT ?_;refine sT ?_;refine wX ?_;refine wGT ?_;rfl
theorem K' {B T:Nat} (c:Cli) (s:Srv) (h:UInvF Fa B T ⟨c,s⟩) (hB:B<=30000000) (hT:T<=800000000000) (x:Step) (hp:x.path.length<=10000000) (hq:x.toPath.length<=10000000):Fo 42 [.agg (ZC c),.agg (ZQ s),.agg (ZX x)] (gP (an ⟨c,s⟩ x)):=by
 by_cases hk:x.kind=8
 ·exact Ld c s h hB x hk
 ·exact Mf c s h hB hT x hp hq hk
def si (t:List Node) (cs:List Cli) (i:Nat):List Cli:=(cs.take i).map (bE t)++cs.drop i
theorem GV (t:List Node) (cs:List Cli) (i:Nat):(si t cs i).length=cs.length:=by
 unfold si;rw[List.length_append,List.length_map,YF,YZ];omega
theorem GU {t:List Node} {cs:List Cli} {i:Nat} (h:i<cs.length):(si t cs i).getD i default=cs.getD i default:=by
 unfold si;rw[List.getD_eq_getElem?_getD,YQ (by rw[List.length_map,YF];omega),List.length_map,YF,Yu z8,Yq,List.getElem?_drop,List.getD_eq_getElem?_getD];rfl
theorem Ew {t:List Node} {cs:List Cli} {i:Nat} (h:i<cs.length):si t cs (i+1)=(si t cs i).set i (bE t (cs.getD i default)):=by
 unfold si;have hl:((cs.take i).map (bE t)).length=i:=by rw[List.length_map,YF];omega
 rw[ZT h,List.map_append,List.drop_eq_getElem_cons h,List.set_append_right _ _ z8,hl,Yq,List.set_cons_zero,List.append_assoc];rfl
theorem WInv.ky {B T:Nat} {w:Wor} (h:WInv B T w) (hB:B<=30000000):∀c,c∈w.cs->SmallC c:=λc hc=>(h.cli c hc).ky z8
theorem Kz {B T:Nat} (w:Wor) (h:WInv B T w) (hB:B<=30000000) (x:Step) (hb:x.client<0\/x.client≥w.cs.length):Fo 28 [.agg (a_ w),.agg (ZX x)] (jN (ay w x)):=by
 have h3:=h.len;have hwo:=KE w h.srv.hist.bs.small (h.srv.Ak z8) (h.ky hB) z8;have hW:ay w x=⟨w,cA 6⟩:=by unfold ay;rw[if_pos hb]
 rw[hW];unfold a_ at hwo;unfold jN a_ ZX;refine wS func28 ntmps28 results28 λC=>?_
 refine wR ?_;refine wN 4 ?_;refine wR ?_;refine wN 11 ?_;refine wNm 22 λc22 h22=>?_
 have hc:c22=true:=by
  rw[<-h22]
  by_cases h1:x.client<0
  ·simp[h1]
  ·simp[h1];omega
 clear h22;refine EX ?_ (hb:=hc);refine wCg ?_ func23 (hf:=hwo);refine af (au 5) (wn ?_);refine wT ?_;rfl
theorem LX {B T:Nat} (w:Wor) (h:WInv B T w) (hB:B<=30000000) (hT:T<=800000000000) (x:Step) (hp:x.path.length<=10000000) (hq:x.toPath.length<=10000000) (hb:¬(x.client<0\/x.client≥w.cs.length)):Fo 28 [.agg (a_ w),.agg (ZX x)] (jN (ay w x)):=by
 have h3:=h.len;obtain ⟨k,cl,n,path,toPath,data⟩:=x;simp only at hb hp hq;obtain ⟨j,rfl⟩:∃j:Nat,cl=(j:Int):=⟨cl.toNat,by omega⟩;have hj:j<w.cs.length:=by omega
 have hu:=h.at hj;have hwo:=Hc w h.srv.hist.bs.small (h.srv.Ak z8) (h.ky hB) z8;have hst:=K' (w.cs.getD j default) w.s hu hB hT ⟨k,j,n,path,toPath,data⟩ hp hq;have hinv:=pW hu ⟨k,j,n,path,toPath,data⟩;have hW:ay w ⟨k,j,n,path,toPath,data⟩=⟨⟨(an ⟨w.cs.getD j default,w.s⟩ ⟨k,j,n,path,toPath,data⟩).u.s,(w.cs.set j (an ⟨w.cs.getD j default,w.s⟩ ⟨k,j,n,path,toPath,data⟩).u.c).map (bE (an ⟨w.cs.getD j default,w.s⟩ ⟨k,j,n,path,toPath,data⟩).u.s.tree)⟩,(an ⟨w.cs.getD j default,w.s⟩ ⟨k,j,n,path,toPath,data⟩).r⟩:=by
  unfold ay;rw[if_neg hb];rfl
 have hcx:∀i,i<w.cs.length->SmallK (w.cs.getD i default).cache:=λi hi=>(h.ky hB _ (YG hi)).cache
 have hg0:=Fam.getD (f:=ZC) hj;rw[hW];generalize w.cs.getD j default=c0 at hst hinv hg0 ⊢;generalize an ⟨c0,w.s⟩ ⟨k,j,n,path,toPath,data⟩=g at *;have hcg:SmallK g.u.c.cache:=(hinv.cli.ky z8).cache;have hts:=hinv.srv.hist.bs.small;have hfr0:=λl hl=>tL l g.u.s.tree hl hts
 -- the clients, with the one that stepped
 have hcs:∀i,i<(w.cs.set j g.u.c).length->SmallK ((w.cs.set j g.u.c).getD i default).cache:=λi hi=>by
  rw[YR] at hi;rw[List.getD_eq_getElem?_getD,YP]
  by_cases e:j=i
  ·subst e;rw[if_pos rfl,if_pos hi];exact hcg
  ·rw[if_neg e,<-List.getD_eq_getElem?_getD];exact hcx i hi
 have hsetj:(w.cs.map ZC).set j (ZC g.u.c)=(w.cs.set j g.u.c).map ZC:=(List.map_set).symm;have hlen:(w.cs.set j g.u.c).length=w.cs.length:=YR;have hfin:si g.u.s.tree (w.cs.set j g.u.c) (w.cs.set j g.u.c).length=(w.cs.set j g.u.c).map (bE g.u.s.tree):=by unfold si;rw[W7,List.drop_length,List.append_nil]
 rw[<-hfin,hlen];clear hfin;generalize w.cs.set j g.u.c=cs at *;have hD0:si g.u.s.tree cs 0=cs:=by unfold si;simp
 have hDl:=λi=>@GV g.u.s.tree cs i
 have hDg:=λi=>@GU g.u.s.tree cs i
 have hDs:=λi=>@Ew g.u.s.tree cs i
 generalize si g.u.s.tree cs=D at *;unfold gP ZC ZQ ZX bc at hst;simp only[ZC] at hsetj;have hg1:=hg0;simp only[List.getD_eq_getElem?_getD,W5,ZC] at hg1;unfold a_ at hwo;unfold jN a_ ZX bc;refine wS func28 ntmps28 results28 λC=>?_
 refine wR ?_;refine wN 4 ?_;refine wR ?_;refine wN 11 ?_;refine wNm 22 λc22 h22=>?_
 have hc:c22=false:=by
  rw[<-h22];have h1:¬((j:Int)<0):=by omega
  simp[h1];omega
 clear h22;refine mh ?_ (hb:=hc);refine wCG ?_ [] 100 func23 (hf:=hwo);refine wGS ?_;refine sNq 9 ?_ ?_ z6 z6 (by simp only[go_sem,hg0,ZC];try exact rfl)
 ·simp[hg0,hj,ZC]
 refine sC ?_ func42 (hf:=hst);refine sN 4 ?_;refine sW ?_;refine sW ?_;refine sW ?_;refine sT ?_;refine sT ?_;refine sT ?_;refine wX ?_;refine wGS ?_;refine sNq 7 ?_ ?_
 ·simp[hj]
 refine ej tK rfl rfl z7 z7 z7 p5 z6 ?_ z6 z6 z6 ?_
 ·simp[hj]
 refine sN 1 ?_;refine sT ?_;refine wXG ?_;refine wL w.cs.length (λi=>(10,.any)::(11,.any)::(53,.int .i64 i)::u0 54 22 [])
  (λi=>[(122,.cells 47 10 ((D i).map ZC))]) ?_ λi hi=>?_
 ·rw[hD0];simp only[go_sem];exact ZU w3 (by simp[go_sem,hg1,hsetj]) w3
 simp only[go_sem];refine wGD (λh=>?_) (λh=>?_)
 ·have hlt:i<cs.length:=by simp at h;omega
  have hw1:=wi1 (i:=i) z8;have hDl:=hDl i;have hat:=hDg i hlt;have aF:=hDs i hlt;have hcc:=hcs i hlt;generalize D i=E at *;have hE:i<E.length:=by omega
  have hg:=Fam.getD (f:=ZC) hE;rw[hat] at hg;generalize cs.getD i default=c at *;have hg2:=hg;simp only[List.getD_eq_getElem?_getD,W5,ZC] at hg2;have hs1:(E.map ZC).set i (ZC (bE g.u.s.tree c))=(D (i+1)).map ZC:=by rw[aF];exact (List.map_set).symm
  have hl1:(D (i+1)).length=E.length:=by rw[aF,YR]
  refine wGq ?_ ?_ QF
  ·simp[hg,ZC,hE];omega
  cases ha:c.away with
  | true=>
   have hfw:bE g.u.s.tree c=c:=by unfold bE;simp[ha]
   rw[hfw,<-hat,List.getD_eq_getElem?_getD,W3 hE,Option.getD_some,List.set_getElem_self] at aF;refine wDF ?_ (hb:=Zh);refine wG ?_ k8 p7;exact ZB ⟨i+1,by omega,by omega,ZU w3 (by simp[go_sem,aF]) w3⟩
  | false=>
   have hfw:bE g.u.s.tree c={ c with cache:=c.cache.filter λk=>!bO g.u.s.tree k }:=by unfold bE mH;simp[ha]
   rw[hfw] at hs1;simp only[ZC] at hs1;refine wDT ?_ (hb:=Zh);refine wGS ?_;refine sNq 7 ?_ ?_ z6 z6 QF
   ·simp[hg,ZC,hE]
   refine sC ?_ func43 (hf:=hfr0 _ hcc);refine sNq 2 ?_ ?_ z6 z6 QF
   ·simp[hg,ZC,hE]
   refine ej tK rfl rfl z7 z7 z7 p5 z6 ?_ z6 z6 z6 ?_
   ·simp[hg,ZC,hE]
   refine wX ?_;refine wG ?_ k8 p7;exact ZB ⟨i+1,by omega,by omega,ZU w3 (by simp[go_sem,hg2,hs1]) w3⟩
 ·obtain rfl:=eq1 hi h;have hZ:=hDl w.cs.length;generalize D w.cs.length=Z at *;have hle:w.cs.length<=Z.length:=by omega
  have htk:List.take w.cs.length (Z.map ZC)=Z.map ZC:=W4 k6;refine ZZ 122 rfl (ij _) ?_;simp only[go_sem,hle,if_true,htk];refine wGS ?_;refine sN 2 ?_;refine sT ?_;refine sT ?_;refine wX ?_;refine wGT ?_;rfl
theorem LY {B T:Nat} (w:Wor) (h:WInv B T w) (hB:B<=30000000) (hT:T<=800000000000) (x:Step) (hp:x.path.length<=10000000) (hq:x.toPath.length<=10000000):Fo 28 [.agg (a_ w),.agg (ZX x)] (jN (ay w x)):=by
 by_cases hb:x.client<0\/x.client≥w.cs.length
 ·exact Kz w h hB x hb
 ·exact LX w h hB hT x hp hq hb
theorem F7 (id:Nat) {C:Ctx} {σ:St} {b:Blk} {H':List (Nat×Blk)} (hb:aa σ.hp id=some b) (hH:dM σ.hp id=H'):Le C σ ⟨σ.tm,(id,b)::H'⟩:=by
 subst hH;refine jF rfl (λ_=>rfl) λj=>?_
 simp only[aa,bz]
 by_cases h:id=j
 ·subst h;rw[if_pos rfl];exact hb
 ·rw[if_neg h,if_neg h]
noncomputable def ow (rooms:List Int) (l:List Step):AV:=.tup [.sl ((qn rooms l).map aq),.int .i64 (mZ rooms l)]
theorem FG (rooms:List Int) (hr:rooms.length<=100000000) (l:List Step) (hl:l.length<=100000000) (he:mZ rooms l≠0):Fo 30 [.sl (rooms.map ZI),.sl (l.map ZX)] (ow rooms l):=by
 have hn:=Dd rooms hr;unfold rJ at hn;have hE:mZ rooms l=if bw rooms≠0 then bw rooms else if 80<l.length then 5 else 0:=rfl;unfold ow qn;rw[if_neg he];generalize mZ rooms l=e at *;generalize hW0:(if bw rooms=0 then kp rooms else uX)=W0 at *;generalize bw rooms=E at *;unfold a_ at hn;refine ai.iZ (X:=.tup [.nils,.int .i64 e]) ?_ rfl;refine wSG func30 ntmps30 results30 λC=>?_
 refine wCg ?_ func17 (hf:=hn)
 by_cases h0:E=0
 ·subst h0;rw[if_neg w8] at hE;have h80:80<l.length:=by
   by_cases h8:80<l.length
   ·exact h8
   ·rw[if_neg h8] at hE;exact absurd hE he
  rw[if_pos h80] at hE;subst hE;refine wFG ?_ (hb:=w8);refine wDT ?_ (hb:=k6);refine wGT ?_;rfl
 ·rw[if_pos h0] at hE;subst hE;refine wDT ?_ (hb:=Zg);refine wGT ?_;rfl
theorem Dt (rooms:List Int) (hr:rooms.length<=100000000) (l:List Step) (hl:StepsOK l) (he:mZ rooms l=0):Fo 30 [.sl (rooms.map ZI),.sl (l.map ZX)] (ow rooms l):=by
 have hn:=Dd rooms hr;unfold rJ at hn;obtain ⟨hE,hll⟩:=uj he;unfold ow qn;rw[if_pos he,he];rw[hE,if_pos rfl] at hn;have hrl:rooms.length<=3:=by
  unfold bw at hE;split at hE
  ·cases hE
  ·omega
 have hG:=λi hi=>rq hE l i hi
 have hS:=λi (hi:i<=l.length)=>xr hE l hll i hi
 have hN:=λi=>@Be rooms l i
 have hs:=λi=>@rr rooms l i
 have h0:dL rooms l 0=⟨kp rooms,⟨[],List.replicate rooms.length []⟩,0⟩:=rfl;rw[show ga rooms l=dL rooms l l.length by unfold dL;rw[W7]];generalize dL rooms l=F at *;unfold a_ at hn;refine wSG func30 ntmps30 results30 λC=>?_
 refine wCg ?_ func17 (hf:=hn);refine wFG ?_ (hb:=w8);refine wDF ?_ (hb:=k6);refine wR ?_;refine wN 2 ?_;refine bC rfl (uQ tK rfl rfl rfl x7 (n:=(rooms.length)) z7 (by simp[go_sem]<;>omega) z8 z7) ?_;refine wG ?_;refine af (au 30 (rows':=(List.replicate rooms.length ([]:List Nat)).map aS) z6 (by rw[List.map_replicate,List.map_replicate];rfl)) (wn ?_);refine af (le_empty 901 76 4 z7) (wn ?_);refine af (iY 32 ([[.osl 901 4 0 0,.osl 30 1 0 rooms.length]]) z6 Qx) ?_;refine af (F7 30 z6 j0) (wn ?_);refine wL l.length (λi=>u0 9 24 ((35,.int .i64 i)::u0 36 75 []))
  (λi=>[(30,.cells 40 1 ((F i).b.logs.map aS)),(901,.cells 76 4 ((F i).b.fates.map aq)),(32,.cells 103 2 [[.osl 901 4 0 (F i).b.fates.length,.osl 30 1 0 (F i).b.logs.length]]),(6,.cells 35 4 [a_ (F i).w])]) ?_ λi hi=>?_
 ·unfold a_;rw[h0];exact wZ
 unfold a_;simp only[go_sem];refine wGD (λh=>?_) (λh=>?_)
 ·have hlt:=lt1 h;have hg:=Fam.getD (f:=ZX) hlt;have how':=wi1 (i:=i) z8;have hpx:=hl.path (l.getD i default) (YG hlt);have hs1:=hs i hlt;obtain ⟨hgk,hgi⟩:=hG i hi;have hS1:=hS i hi;have hN1:=hN i;rw[hgi] at hs1;generalize l.getD i default=x at *;generalize F i=g at *;obtain ⟨w,b,n⟩:=g;simp only at hgi hs1 hS1 hN1;subst hgi;have hI:=hgk.w;have hId:=hgk.ids;have hL:=hgk.li;simp only at hI hId hL;have hw:=LY w hI z8 z8 x hpx.1 hpx.2;unfold jN a_ ZX bc at hw;refine wR ?_;refine wNq 4 ?_ ?_ z6 z6 Zu
  ·simp[hg,ZX,hlt]
  refine wG ?_;refine wC ?_ func28 (hf:=hw);refine wR ?_;refine wN 7 ?_;refine wR ?_;refine wN 4 ?_;refine wN 7 ?_;refine wNm 56 λc56 h56=>?_
  have hc56:c56=decide (¬(x.client<0\/x.client≥w.cs.length)):=by
   rw[<-h56]
   by_cases h1:x.client<0
   ·simp[h1]
    try omega
   ·by_cases h2:x.client≥w.cs.length
    ·simp[h1,h2]
    ·simp[h1,h2]
     try omega
  clear h56
  by_cases hb:x.client<0\/x.client≥w.cs.length
  ·have hF:dR w n x b=b:=by unfold dR;rw[if_pos hb]
   rw[hF] at hs1;refine wG ?_;refine wDF ?_ (hb:=by rw[hc56];simp[hb]);refine wG ?_ y6 u2;exact ZB ⟨n+1,by omega,by omega,ZU Qn Z1 Qn⟩
  ·obtain ⟨j,hcl⟩:∃j:Nat,x.client=(j:Int):=⟨x.client.toNat,by omega⟩;have hj:j<w.cs.length:=by omega
   have hjn:x.client.toNat=j:=by omega
   have hwc:=yo hb;rw[hjn] at hwc;have hgr:=hI.at hj;have hI2:=k_ hI x;have hls:=(C8 ⟨w.cs.getD j default,w.s⟩ x).trans (zb (an ⟨w.cs.getD j default,w.s⟩ x).u.s.tree _);rw[<-hwc.at_] at hls;have hylen:=hwc.len;have hF:dR w n x b=if x.kind=8 then nV j (aD ⟨w.cs.getD j default,w.s⟩) b else if (w.cs.getD j default).away=true then cL n j (w.cs.getD j default) ((ay w x).w.cs.getD j default) b else kn n ((ay w x).w.s.past.drop w.s.past.length) b:=by
    unfold dR;rw[if_neg hb,hjn]
   have hyc:=hI2.cli ((ay w x).w.cs.getD j default) (YG (by rw[hylen];exact hj));have hyp:=hI2.srv.len;have hgp:w.s.past.length<=(ay w x).w.s.past.length:=by
    obtain ⟨q,hq⟩:=(oR hgr x).past;have h1:=My hb;rw[hjn] at h1;rw[h1,hq,List.length_append];exact Nat.le_add_right _ _
   rw[hF] at hs1;clear hF hwc;generalize ay w x=y at *;have hg0:=Fam.getD (f:=ZC) hj;have hg1:(y.w.cs.map ZC).getD j []=ZC (y.w.cs.getD j default):=Fam.getD z8;have hnum:=hN1 j hj;have hidc:=hId.ids (w.cs.getD j default) (YG hj);have hle:=hL.each j hj;have hla:=λk hk=>(hL.at_ j hj k hk).1
   have hll1:=hL.len;have hcs3:=hI.len;have hwp:=hI.srv.len;generalize hc0:w.cs.getD j default=c0 at *;generalize y.w.cs.getD j default=c1 at *;have hsc:=hgr.cli.ky z8;have hfit:∀r,r∈c0.log->ActFit r.act:=λr hr=>(hgr.cli.logS r hr).fit
   have hlog:=hgr.cli.log;simp only at hlog;refine wG ?_;refine wDT ?_ (hb:=by rw[hc56];simp[hb]);simp only[hcl];refine wGS ?_;refine sNq 12 ?_ ?_ z6 z6 (by simp only[go_sem,hg0,hg1];try exact rfl)
   ·simp[hg0,hg1,hj,hylen,ZC]
   refine wXG ?_
   by_cases h8:x.kind=8
   ·rw[if_pos h8] at hs1;have htk:=Db w.s (hI.srv.mono z8) (j:Int) c0.log hsc.log z8 hfit;have hvl:(aD ⟨c0,w.s⟩).length=c0.log.length:=(JInv.rC hI.srv.hist c0.number w.s.next c0.log hfit).vlen;have hbk:=λG Y N=>F5 b j (aD ⟨c0,w.s⟩) z8 z8 z8 z8 hla z8 G Y N
    unfold aD at hbk hs1 hvl;generalize (bM w.s.tree w.s.next ((w.s.past.length+1:Nat):Int) c0.log).vs=vs at *;generalize iS w.s (j:Int) c0.log=s2 at *;unfold ZQ at htk;unfold bkH bkB at hbk;refine wDT ?_ (hb:=by simp[h8]);refine wGS ?_;refine sN 8 ?_ z6 z6 (by simp only[go_sem,ZC];try exact rfl) (by simp[go_sem,ZC]);refine sC ?_ func45 (hf:=htk);refine sN 3 ?_;refine sW ?_;refine sT ?_;refine sG ?_;refine wXG ?_;refine bC rfl (oS rfl z7 w3 ⟨_,func46,by kernel_rfl,rfl⟩ [32] [30,901] [30,901] w6 w3 w3 w8 w3 w3 w3 w3 (hbk) w7) ?_;refine wG ?_ y6 u2;exact ZB ⟨n+1,by omega,by omega,ZU Qn Z1 Qn⟩
   ·rw[if_neg h8] at hs1;refine wDF ?_ (hb:=by simp[h8]);refine wG ?_ (by simp only[go_sem,ZC];try exact rfl) (by simp[go_sem,ZC])
    by_cases ha:c0.away=true
    ·rw[if_pos ha] at hs1;have hlg:=λG Y N=>BA b n j c0 c1 hnum z8 z8 hle hla z8 hidc hls z8 (by have:=hyc.log;omega) (by have:=hyc.logged;omega) G Y N
     unfold ZC bkH bkB at hlg;refine wTG ?_ (hb:=Zh);refine bC rfl (oS rfl z7 w3 ⟨_,func47,by kernel_rfl,rfl⟩ [32] [30,901] [30,901] w6 w3 w3 w8 w3 w3 w3 w3 (hlg) w7) ?_;refine wG ?_ y6 u2;exact ZB ⟨n+1,by omega,by omega,ZU Qn Z1 Qn⟩
    ·rw[if_neg ha] at hs1;have hgw:=λG Y N=>DR b n (y.w.s.past.drop w.s.past.length) (by rw[YZ];omega) z8 G Y N
     rw[List.map_drop] at hgw;unfold bkH bkB at hgw;refine wDF ?_ (hb:=Zh);refine wGq ?_ ?_
     ·simp[hgp];exact λa _=>rfl
     refine bC rfl (oS rfl z7 w3 ⟨_,func48,by kernel_rfl,rfl⟩ [32] [30,901] [30,901] w6 w3 w3 w8 w3 w3 w3 w3 (hgw) w7) ?_;refine wG ?_ y6 u2;exact ZB ⟨n+1,by omega,by omega,ZU Qn Z1 Qn⟩
 ·obtain rfl:=eq1 hi h;generalize F l.length=g at *;refine wG ?_;refine ZZ 901 rfl (xq _) (wn ?_);refine wT ?_;rfl
theorem yV (rooms:List Int) (hr:rooms.length<=100000000) (l:List Step) (hl:StepsOK l):Fo 30 [.sl (rooms.map ZI),.sl (l.map ZX)] (ow rooms l):=by
 have:=hl.len
 by_cases he:mZ rooms l=0
 ·exact Dt rooms hr l hl he
 ·exact FG rooms hr l z8 he
def l12:List Step:=[⟨4,0,0,[47,100],[],[]⟩,⟨2,0,0,[47],[],[]⟩,⟨7,0,0,[],[],[]⟩,⟨4,0,0,[47,101],[],[]⟩,⟨5,0,0,[47,101],[],[]⟩,⟨4,0,0,[47,102],[],[]⟩]
theorem Lm:(ga [5] l12).b.fates=[⟨0,0,2,1⟩,⟨3,0,2,4⟩,⟨4,0,4,4⟩,⟨5,0,2,2⟩]:=by kernel_rfl
theorem KK:mZ [5] l12=0:=by kernel_rfl
theorem IA:Fo 30 [.sl ([5].map ZI),.sl (l12.map ZX)] (.tup [.sl ([⟨0,0,2,1⟩,⟨3,0,2,4⟩,⟨4,0,4,4⟩,⟨5,0,2,2⟩].map aq),.int .i64 0]):=by
 have h:=yV [5] x7 l12 ⟨by decide,λx hx=>by
  simp only[l12,List.mem_cons,List.not_mem_nil,or_false] at hx
  rcases hx with rfl | rfl | rfl | rfl | rfl | rfl<;>exact ⟨by decide,by decide⟩⟩
 unfold ow qn at h;rw[if_pos KK,KK,Lm] at h;exact h
theorem Jr:Fo 44 [.agg (a_ (kp [4]))] (.bool true):=by
 have hI:=sJ (rooms:=[4]) rfl;have:=GJ hI.srv.hist x7 (kp [4]).s.next (kp [4]).cs x7 λc hc=>by
  have hci:=hI.cli c hc;exact ⟨hci.len,λh=>(hci.here h).1,λh=>(hci.here h).2,hci.ky x7⟩
 exact this
theorem Ia:Fo 29 [] (.bool true):=by
 have hf:=IA;have hm:=rK [4] x7;have hri:=Jr;unfold rJ at hm;rw[show bw [4]=0 from rfl,if_pos rfl] at hm;generalize kp [4]=W at *;unfold a_ at hm hri;simp only[l12,ZX,List.map_cons,List.map_nil,ZI,aq] at hf hm;refine wSG func29 ntmps29 results29 λC=>?_
 refine af (au 13) ?_;refine ZZ 13 rfl (rfl) ?_;refine ZZ 6 rfl (rfl) (wn ?_);refine wCg ?_ func30 (hf:=hf);refine ZZ 18 rfl (rfl) (wn ?_);refine wC ?_ func18 (hf:=hm);refine wR ?_;refine wN 7 ?_;refine wR ?_;have e4:(((4:Nat):Int)==4)=true:=rfl;refine wN 7 ?_ z6 z6 QV Q6;refine wN 25 ?_ z6 z6 QV Q6;refine wN 1 ?_ z6 z6 QV Q6;refine bC z7 (uO tK rfl (tys:=[3,3,3,3]) w9 z7 z7 z6 (.inl ⟨rfl,rfl⟩)) ?_;simp only[go_sem];refine wN 3 ?_ z6 z6 (by simp only[go_sem,beq_self_eq_true,cond_true];try exact rfl) (by simp[go_sem,beq_self_eq_true,cond_true]);refine wCC ?_ func44 (hf:=λhb=>(hri));refine wGT ?_;rfl
def gv (l:List Step):List Step:=l.filter λx=>x.kind != 7
theorem DC {l:List Step} {i:Nat} (h:i<l.length) (hk:(l.getD i default).kind≠7):gv (l.take (i+1))=gv (l.take i)++[l.getD i default]:=by
 unfold gv;rw[ZT h,List.filter_append,List.filter_cons_of_pos Za];rfl
theorem FN {l:List Step} {i:Nat} (h:i<l.length) (hk:(l.getD i default).kind=7):gv (l.take (i+1))=gv (l.take i):=by
 unfold gv;rw[ZT h,List.filter_append,List.filter_cons_of_neg (by show ¬((l.getD i default).kind != 7)=true;rw[hk];decide)];simp
theorem qA (l:List Step) (i:Nat):(gv (l.take i)).length<=l.length:=by
 unfold gv;refine Yn (YB _ _) ?_;rw[YF];omega
theorem zj {l:List Step} (h:StepsOK l):StepsOK (gv l):=⟨by have:=qA l l.length;rw[W7] at this;have:=h.len;omega,λx hx=>h.path x (YL.1 hx).1⟩
theorem Bm {l:List Step}:∀x,x∈gv l->x.kind≠7:=λx hx=>by simpa using (YL.1 hx).2
theorem G7 (rooms:List Int) (l:List Step) (hr:rooms.length<=100000000) (hl:StepsOK l):Fo 10 [.sl (rooms.map ZI),.sl (l.map ZX)] (.bool true):=by
 have hf:=yV rooms hr (gv l) (zj hl);unfold ow at hf;have hb:=D' rooms hr (gv l) (zj hl);have hll:=hl.len;have h0:gv (l.take 0)=[]:=rfl;have hLl:=qA l;have hL1:=@DC l;have hL2:=@FN l;refine wSG func10 ntmps10 results10 λC=>?_
 refine wCg ?_ func29 (hf:=Ia);refine wFG ?_ (hb:=rfl);refine wL l.length (λi=>(5,.osl 27 6 0 (gv (l.take i)).length)::(7,.any)::(17,.int .i64 i)::u0 18 11 [])
  (λi=>[(27,.cells 26 6 ((gv (l.take i)).map ZX))]) ?_ λi hi=>?_
 ·rw[h0];exact wZ
 simp only[go_sem];refine wGD (λh=>?_) (λh=>?_)
 ·have hlt:=lt1 h;have hg:=Fam.getD (f:=ZX) hlt;have how':=wi1 (i:=i) z8;have hLl:=hLl i;have hL1:=@hL1 i hlt;have hL2:=@hL2 i hlt;generalize l.getD i default=x at *;generalize gv (l.take i)=Q at *;have htq:List.take Q.length (Q.map ZX)=Q.map ZX:=W4 w8;refine wR ?_;refine wNq 4 ?_ ?_ z6 z6 Zu
  ·simp[hg,ZX,hlt]
  refine wG ?_
  by_cases hk:x.kind=7
  ·have hL2:=hL2 hk;refine wDF ?_ (hb:=QM);refine wG ?_ y6 u2;exact ZB ⟨i+1,by omega,by omega,ZU (by simp[go_sem,hL2]) (by simp[go_sem,hL2]) w3⟩
  ·have hL1:=hL1 hk;refine wDT ?_ (hb:=QM);refine wGq ?_ ?_ y6
   ·simp[htq];omega
   exact ZB ⟨i+1,by omega,by omega,ZU (by simp[go_sem,hL1]) (by simp[go_sem,hL1,htq,ZX]) w3⟩
 ·obtain rfl:=eq1 hi h;rw[W7];have hkd:=@Bm l;have hlM:(gv l).length<=l.length:=by have:=qA l l.length;rwa [W7] at this
  clear hLl hL1 hL2 h0;generalize gv l=Q at *;have htq:List.take Q.length (Q.map ZX)=Q.map ZX:=W4 w8;refine wG ?_;refine ZZ 27 rfl (yi _) ?_;simp only[go_sem,htq];refine wC ?_ func30 (hf:=hf);refine wGD (λh=>?_) (λh=>?_)
  ·refine wGT ?_;rfl
  have he:mZ rooms Q=0:=by simpa using h
  obtain ⟨hE,h80⟩:=uj he;obtain ⟨⟨_,hN⟩,hW,_⟩:=Gl hE Q hkd;have hA:qn rooms Q=(ga rooms Q).b.fates:=by unfold qn;rw[if_pos he]
  rw[hW] at hN;have hB:A7 rooms Q=mm rooms Q:=by unfold A7;rw[if_pos hE]
  have hI:=Fc hE Q;rw[hB] at hb hI;rw[hA];have hwh:=Ha _ hI.srv.hist.whole;have hp:=hI.srv.len;generalize (ga rooms Q).b.fates=a at *;generalize mm rooms Q=W at *;have hal:a.length=W.s.past.length:=by have:=congrArg List.length hN;simpa using this
  unfold a_ at hb;refine wG ?_;refine wCg ?_ func31 (hf:=hb);refine wFG ?_ (hb:=by simp[hal]);refine wL a.length (λi=>(11,.any)::(12,.any)::(49,.int .i64 i)::u0 50 33 [])
   (λ_=>[]) ?_ λi hi=>?_
  ·exact wZ
  simp only[go_sem];refine wGD (λh=>?_) (λh=>?_)
  ·have hlt:=lt1 h;have how':=wi1 (i:=i) z8;have hgp:(W.s.past.map ZP).getD i []=ZP (W.s.past.getD i default):=Fam.getD z8;have hg:=Fam.getD (f:=aq) hlt;have hq:((a.getD i default).client,(a.getD i default).kind,(a.getD i default).whr)=((W.s.past.getD i default).client,(W.s.past.getD i default).act.kind,(1:Int)):=by
    have h1:=congrArg (λl=>l[i]?) hN;simp only[W5] at h1;rw[W3 hlt,W3 z8] at h1;simp only[Option.map_some,gL] at h1;rw[List.getD_eq_getElem?_getD,W3 hlt,List.getD_eq_getElem?_getD,W3 z8];exact h1
   simp only[gM] at hq;obtain ⟨q1,q2,q3⟩:=hq;generalize a.getD i default=f at *;generalize W.s.past.getD i default=p at *;have hg2:(a.map aq).getD i []=[.int .i64 f.step,.int .i64 p.client,.int .i64 p.act.kind,.int .i64 1]:=by rw[hg];unfold aq;rw[q1,q2,q3]
   refine wR ?_;refine wNq 5 ?_ ?_ z6 z6 (by simp only[go_sem,hg2];try exact rfl)
   ·simp[hg2,hlt]
   refine wG ?_;have hip:i<W.s.past.length:=by omega
   refine wO ?_;refine sNq 14 ?_ ?_ z6 z6 Qq
   ·simp[hgp,ZP,hip]
   refine sNq 14 ?_ ?_ z6 z6 Qq
   ·simp[hgp,ZP,hip]
   refine wXG ?_;refine wDF ?_ (hb:=w8);refine wG ?_ y6 u2;exact ZB ⟨i+1,by omega,by omega,ZU w3 w3 w3⟩
  ·refine wG ?_;refine wC ?_ func32 (hf:=hwh);refine wGT ?_;rfl
end La
