/- Texts of this claim, part 29: CDo, CDo2, CDo3, NrmC, Ali9. No condition. -/
import Derived.Test.YtdcmhdkpfllnlaaGreatDoorYC28
set_option maxRecDepth 10000
set_option maxHeartbeats 4000000
set_option linter.unusedSimpArgs false
set_option linter.unusedVariables false
namespace La
open Go Go.Eng Go.Proofs
variable {Fa:Prop}
def rz (c:Cli):List AV:=[.int .i64 c.number,.bool c.away,.int .i64 c.room,.sl (c.cache.map ZK),.sl (c.log.map ZR),.osl 901 9 0 c.repair.length,.sl (c.hoards.map ZJ),.int .i64 c.clock,.int .i64 c.made,.int .i64 c.logged]
theorem xx (c:Cli) (h:SmallC c):af Tryz.prog 15 [.agg (ZC c)] [] (λr H=>r=.agg (rz c)/\∀i b,aa [(901,.cells 116 9 (c.repair.map ZR))] i=some b->aa H i=some b):=by
 have h1:=rH c.cache h.cache;have h2:=kr c.log h.log;have h3:=pU c.repair h.repair;have h4:=ow c.hoards h.hoards;unfold ZC rz;refine ZF tK (Tryz.func15) rfl (λC=>?_);simp only[Tryz.ntmps15,Tryz.results15,go_sem];refine wG tK ?_;refine ZW ZM ?_;refine ZS rfl ?_;refine sN tK 2 ?_;refine sC Tryz.func45 (hf:=(h1)) (hk:=?_);refine sN tK 2 ?_;refine sC Tryz.func46 (hf:=(h2)) (hk:=?_);refine sN tK 2 ?_;refine gP 882 rfl rfl z7 w3 ⟨_,Tryz.func46,by kernel_rfl,rfl⟩ w3 (h3) w3 z7 z7 w3 z6 z6 ?_;refine sN tK 2 ?_;refine sC Tryz.func47 (hf:=(h4)) (hk:=?_);refine sN tK 1 ?_;refine sT tK ?_;refine sN tK 1 ?_;refine sT tK ?_;refine sN tK 1 ?_;refine sT tK ?_;refine sN tK 1 ?_;refine sT tK ?_;refine sE ?_;refine wKd ?_
 try simp only[go_sem,gA,gB,gC]
 refine wG tK ?_;refine wT ?_;simp[go_sem]
def nE (u:U) (x:Step):GotS:=if (ae x.path).2≠0 then ⟨u,cA (ae x.path).2⟩ else ⟨(goU u (ae x.path).1 0).u,fQ x.kind (goU u (ae x.path).1 0)⟩
theorem B2 {B T:Nat} (u:U) (h:UInvF Fa B T u) (hB:B≤30000000) (hT:T≤800000000000) (x:Step) (hp:x.path.length≤10000000) (hk:x.kind=1\/x.kind=2) (G Y N:Nat->Nat):af Tryz.prog 26 [.ptr 900 13 0 0,.rp (ZX x) 0] (cuH u G Y N)
  (λr H=>r=.agg (aT (nE u x).r)/\Holds (cuH (nE u x).u G Y N) H):=by
 have hsp:=mM x.path z8;have hsl:=bR x.path;have hgo:=vK u h z8 z8 (ae x.path).1 z8 (λy hy=>by have:=(hsl.2 y hy).1;omega) 0;have hno:=oF h (ae x.path).1 0;have hnam:=vZ h (ae x.path).1 0;have hW:nE u x=if (ae x.path).2≠0 then ⟨u,cA (ae x.path).2⟩ else ⟨(goU u (ae x.path).1 0).u,fQ x.kind (goU u (ae x.path).1 0)⟩:=rfl;generalize nE u x=wF at *;unfold cw at hsp;generalize goU u (ae x.path).1 0=g at *;generalize ae x.path=S at *;obtain ⟨L,E⟩:=S;simp only at hW hsp hgo;unfold cuH im at hgo;unfold cuH ZX;refine ZF tK (Tryz.func26) rfl (λC=>?_);simp only[Tryz.ntmps26,Tryz.results26,go_sem];refine wG tK ?_;refine ah (ax 4) ?_;simp only[go_sem];refine wC Tryz.func56 (hf:=(hsp)) (hk:=?_);refine wG tK ?_
 by_cases hE:E=0
 ·rw[if_neg u2] at hW;rw[hW];refine wDF (hb:=u2) (hk:=?_);refine wG tK ?_;refine wP [900] Tryz.func57 (hf:=(hgo)) (hk:=?_);refine wGq tK ?_ ?_ w6
  ·simp[ZN]
  by_cases hge:g.e=0
  ·refine wDF (hb:=u7) (hk:=?_);refine wG tK ?_
   rcases hk with hk | hk
   ·have hr:fQ x.kind g=if g.n.dir=true then ⟨9,0,0,[]⟩ else ⟨0,0,0,g.n.data⟩:=by unfold fQ;rw[if_neg u7,if_pos hk]
    rw[hr];cases hd:g.n.dir with
    | true=>
     refine wDT (hb:=QD) (hk:=?_);refine wG tK ?_;refine ah (ax 4) ?_;simp only[go_sem];refine wU ?_ ?_
     ·rfl
     ·exact q9
    | false=>
     refine wDF (hb:=QD) (hk:=?_);refine wG tK ?_;refine wDT (hb:=QD) (hk:=?_);refine wG tK ?_;refine wU ?_ ?_
     ·rfl
     ·exact q9
   ·have hr:fQ x.kind g=if g.n.dir=true then ⟨0,0,0,ml g.n.entries⟩ else ⟨8,0,0,[]⟩:=by unfold fQ;rw[if_neg u7,if_neg z8]
    rw[hr];refine wDF (hb:=QD) (hk:=?_);refine wG tK ?_;refine wDF (hb:=QD) (hk:=?_);refine wG tK ?_;cases hd:g.n.dir with
    | false=>
     refine wDT (hb:=(rfl)) (hk:=?_);refine wG tK ?_;refine ah (ax 4) ?_;simp only[go_sem];refine wU ?_ ?_
     ·rfl
     ·exact q9
    | true=>
     refine wDF (hb:=(rfl)) (hk:=?_);refine wG tK ?_;have hle:=hno.ent;have hD0:kq g.n.entries 0=[]:=rfl;have hDs:=λi=>@nR g.n.entries i
     have hDn:=pT hnam;have hDe:kq g.n.entries g.n.entries.length=ml g.n.entries:=by unfold kq;rw[W2]
     rw[if_pos rfl];generalize kq g.n.entries=D at *;generalize ml g.n.entries=DE at *;refine ah (le_empty 71 5 1 z7) ?_;simp only[go_sem];refine ZL (λi:Nat=>i≤g.n.entries.length) (λi=>g.n.entries.length-i) (λi=>(8,.osl 71 1 0 (D i).length)::(10,.any)::(62,.int .i64 i)::u0 63 10 [])
      (λi=>[(71,.cells 5 1 ((D i).map ZY))]) 0 z8 ?_ λi hi=>?_
     ·rw[hD0];simp only[go_sem];exact ZU w3 w3 w3
     simp only[go_sem];refine wG tK ?_;refine wD (λh=>?_) (λh=>?_)
     ·have hlt:i<g.n.entries.length:=by simp at h;omega
      have hg:(g.n.entries.map ZE).getD i []=ZE (g.n.entries.getD i default):=Fam.getD hlt;have hs1:=hDs i hlt;have hl1:=hDn i hi;have hl2:(g.n.entries.getD i default).name.length≤40:=hnam _ (by rw[Wv,Ww hlt];exact Yb _);have how':=wi1 (i:=i) z8;generalize g.n.entries.getD i default=e at *;generalize D i=Di at *;have htq:List.take Di.length (Di.map ZY)=Di.map ZY:=Wy y8;refine wR ?_;refine wNq tK 4 ?_ ?_ z6 z6 n4
      ·simp[hg,ZE,hlt]
      refine wR ?_;refine wN tK 3 ?_;refine bY rfl (xe tK rfl rfl rfl rfl z7 z7 (by show fq _ _ _ _ _ (.sl (e.name.map ZY))=_;simp only[go_sem,htq];exact rfl) ?_ z6) ?_
      ·simp[go_sem,htq];exact ⟨by omega,λx hx=>fR (tL g.u) hx 71⟩
      refine wGq tK ?_ ?_ j7
      ·simp[htq,refs];refine ⟨by omega,λx hx=>fR (tL g.u) hx 69,λrow hr y hy=>?_⟩
       rcases List.mem_append.1 (YB hr) with hr | hr<;>obtain ⟨b,_,rfl⟩:=W5.1 hr<;>simp only[ZY,List.mem_cons,List.not_mem_nil,or_false] at hy<;>subst hy<;>simp[refs]
      refine ZB ⟨i+1,by omega,by omega,ZU ?_ ?_ ?_⟩
      ·simp[go_sem,hs1];omega
      ·simp[go_sem,hs1,htq,ZY];rw[Wy y8,Yk]
      ·simp[go_sem]
     ·have e:i=g.n.entries.length:=by simp at h;omega
      subst e;rw[hDe];refine ZZ 71 rfl (kK _) ?_;simp only[go_sem];refine wG tK ?_;refine wU ?_ ?_
      ·simp[aT]
      ·exact q9
  ·have hr:fQ x.kind g=cA g.e:=by unfold fQ;rw[if_pos hge];rfl
   rw[hr];refine wDT (hb:=u7) (hk:=?_);refine wG tK ?_;refine ah (ax 4) ?_;simp only[go_sem];refine wU ?_ ?_
   ·rfl
   ·exact q9
 ·rw[if_pos hE] at hW;rw[hW];refine wDT (hb:=u2) (hk:=?_);refine wG tK ?_;refine ah (ax 4) ?_;simp only[go_sem];refine wU ?_ ?_
  ·rfl
  ·exact q9
variable {Fa:Prop}
theorem JX {B T:Nat} (c:Cli) (s:Srv) (h:UInvF Fa B T ⟨c,s⟩) (hB:B≤30000000) (hT:T≤800000000000) (x:Step) (hp:x.path.length≤10000000) (hq:x.toPath.length≤10000000) (hk:x.kind≠8):af Tryz.prog 11 [.agg (ZC c),.agg (ZQ s),.agg (ZX x)] [] (λr _=>r=dN (ai ⟨c,s⟩ x)):=by
 have hco:=xx c (h.cli.qg z8);have hso:=Ca s h.srv.hist.bH.small (h.srv.BY z8);have htq:List.take c.repair.length (c.repair.map ZR)=c.repair.map ZR:=Wy y8;unfold ZC rz at hco;unfold ZQ at hso;unfold ZC ZQ ZX;refine ZF tK (Tryz.func11) rfl (λC=>?_);simp only[Tryz.ntmps11,Tryz.results11,go_sem];refine wG tK ?_;refine ZZ 5 rfl (rfl) ?_;simp only[go_sem];refine ZW ZM ?_;refine ZS rfl ?_;refine sN tK 1 ?_;refine gP 0 rfl rfl z7 w3 ⟨_,Tryz.func15,by kernel_rfl,rfl⟩ w3 (hco) w3 z7 z7 w3 z6 z6 ?_;refine sN tK 1 ?_;refine sC Tryz.func25 (hf:=(hso)) (hk:=?_);refine sB tK ?_;refine sW tK ?_;refine sG tK ?_;refine sE ?_;refine wKd ?_
 try simp only[go_sem,gA,gB,gC]
 refine ZZ 901 rfl (cW _) ?_;simp only[go_sem,htq];refine ah (dw 19 900) ?_;refine wR ?_;refine wN tK 1 ?_;refine wR ?_;refine wN tK 2 ?_;refine dq ?_;refine ah (ax 10) ?_;simp only[go_sem];refine oz (λq:U×Reply=>ai ⟨c,s⟩ x=⟨q.1,q.2⟩) (λq=>(11,.any)::(12,.any)::(13,.any)::u0 22 84 []) (λq=>[(900,.cells 80 13 [bq q.1]),(10,.cells 44 4 [aT q.2])]) ?_ λq hS=>?_
 ·refine wG tK ?_
  by_cases h1:x.kind=1
  ·refine wDT (hb:=(by simp[h1])) (hk:=?_);refine wG tK ?_;have hS:ai ⟨c,s⟩ x=nE ⟨c,s⟩ x:=by unfold ai nE;rw[if_pos (.inl h1)]
   have hw:=B2 ⟨c,s⟩ h hB hT x hp (.inl h1);rw[hS];generalize nE ⟨c,s⟩ x=w at *;unfold cuH bq ZX aT at hw;refine wDT (hb:=(by simp[h1])) (hk:=?_);refine wG tK ?_;refine wP [900] Tryz.func26 (hf:=(hw)) (hk:=?_);refine wG tK ?_;refine ZB ⟨(w.u,w.r),rfl,ZU ?_ ?_ ?_⟩
   ·simp[go_sem]
   ·simp[go_sem,bq,aT]
   ·simp[go_sem]
  refine wDF (hb:=Z3) (hk:=?_);refine wG tK ?_
  by_cases h2:x.kind=2
  ·skip
   have hS:ai ⟨c,s⟩ x=nE ⟨c,s⟩ x:=by unfold ai nE;rw[if_pos (.inr h2)]
   have hw:=B2 ⟨c,s⟩ h hB hT x hp (.inr h2);rw[hS];generalize nE ⟨c,s⟩ x=w at *;unfold cuH bq ZX aT at hw;refine wDT (hb:=(by simp[h2])) (hk:=?_);refine wG tK ?_;refine wP [900] Tryz.func26 (hf:=(hw)) (hk:=?_);refine wG tK ?_;refine ZB ⟨(w.u,w.r),rfl,ZU ?_ ?_ ?_⟩
   ·simp[go_sem]
   ·simp[go_sem,bq,aT]
   ·simp[go_sem]
  refine wDF (hb:=WS) (hk:=?_);refine wG tK ?_
  by_cases h3:x.kind=3
  ·have hS:ai ⟨c,s⟩ x=⟨(a_ ⟨c,s⟩ x.path x.data).u,cA (a_ ⟨c,s⟩ x.path x.data).e⟩:=by unfold ai;rw[if_neg z8,if_pos h3]
   have hw:=FD ⟨c,s⟩ h hB hT x.path x.data hp;rw[hS];generalize a_ ⟨c,s⟩ x.path x.data=w at *;unfold cuH bq at hw;refine wDT (hb:=(by simp[h3])) (hk:=?_);refine wG tK ?_;refine wP [900] Tryz.func27 (hf:=(hw)) (hk:=?_);refine wG tK ?_;refine ZB ⟨(w.u,cA w.e),rfl,ZU ?_ ?_ ?_⟩
   ·simp[go_sem]
   ·simp[go_sem,bq,aT,cA]
   ·simp[go_sem]
  refine wDF (hb:=(by simpa using h3)) (hk:=?_);refine wG tK ?_
  by_cases h4:x.kind=4
  ·have hS:ai ⟨c,s⟩ x=⟨(eU ⟨c,s⟩ x.path).u,cA (eU ⟨c,s⟩ x.path).e⟩:=by unfold ai;rw[if_neg z8,if_neg h3,if_pos h4]
   have hM:eU ⟨c,s⟩ x.path=if (ag ⟨c,s⟩ x.path).e≠0 then ⟨(ag ⟨c,s⟩ x.path).e,(ag ⟨c,s⟩ x.path).u⟩ else bQ (ag ⟨c,s⟩ x.path).u (iD (ag ⟨c,s⟩ x.path).n.fid (ag ⟨c,s⟩ x.path).name) (-1):=rfl;have hd:=kz ⟨c,s⟩ h z8 z8 x.path hp;have hdi:=ch h x.path;have hnm:=bF ⟨c,s⟩ x.path;rw[hS];generalize eU ⟨c,s⟩ x.path=w at *;generalize ag ⟨c,s⟩ x.path=d at *;unfold cuH bq at hd;refine wDT (hb:=(by simp[h4])) (hk:=?_);refine wG tK ?_;refine wP [900] Tryz.func28 (hf:=(hd)) (hk:=?_);refine wGq tK ?_ ?_ w6
   ·simp[ZN]
   by_cases hde:d.e=0
   ·rw[if_neg s9] at hM;have hact:=py d.u hdi z8 z8 (iD d.n.fid d.name) ⟨hnm,by simp[iD],by simp[iD]⟩ (-1);unfold cuH bq at hact;simp only[ZA,iD,List.map_nil] at hact hM;generalize bQ d.u ⟨2,0,d.n.fid,d.name,0,[],[]⟩ (-1)=y at *;rw[hM];refine wDT (hb:=s9) (hk:=?_);refine wG tK ?_;refine ah (wi 53 z6 Z9) ?_;simp only[go_sem];refine wP [900] Tryz.func29 (hf:=(hact)) (hk:=?_);refine wG tK ?_;refine ZB ⟨(y.u,cA y.e),rfl,ZU ?_ ?_ ?_⟩
    ·simp[go_sem]
    ·simp[go_sem,bq,aT,cA]
    ·simp[go_sem]
   ·rw[if_pos s9] at hM;rw[hM];refine wDF (hb:=s9) (hk:=?_);refine wG tK ?_;refine ZB ⟨(d.u,cA d.e),rfl,ZU ?_ ?_ ?_⟩
    ·simp[go_sem]
    ·simp[go_sem,bq,aT,cA]
    ·simp[go_sem]
  refine wDF (hb:=(by simpa using h4)) (hk:=?_);refine wG tK ?_
  by_cases h5:x.kind=5
  ·have hS:ai ⟨c,s⟩ x=⟨(bt ⟨c,s⟩ x.path).u,cA (bt ⟨c,s⟩ x.path).e⟩:=by unfold ai;rw[if_neg z8,if_neg h3,if_neg h4,if_pos h5]
   have hw:=AR ⟨c,s⟩ h hB hT x.path hp;rw[hS];generalize bt ⟨c,s⟩ x.path=w at *;unfold cuH bq at hw;refine wDT (hb:=(by simp[h5])) (hk:=?_);refine wG tK ?_;refine wP [900] Tryz.func30 (hf:=(hw)) (hk:=?_);refine wG tK ?_;refine ZB ⟨(w.u,cA w.e),rfl,ZU ?_ ?_ ?_⟩
   ·simp[go_sem]
   ·simp[go_sem,bq,aT,cA]
   ·simp[go_sem]
  refine wDF (hb:=(by simpa using h5)) (hk:=?_);refine wG tK ?_
  by_cases h6:x.kind=6
  ·have hS:ai ⟨c,s⟩ x=⟨(cR ⟨c,s⟩ x.path x.toPath).u,cA (cR ⟨c,s⟩ x.path x.toPath).e⟩:=by unfold ai;rw[if_neg z8,if_neg h3,if_neg h4,if_neg h5,if_pos h6]
   have hw:=G7 ⟨c,s⟩ h hB hT x.path x.toPath hp hq;rw[hS];generalize cR ⟨c,s⟩ x.path x.toPath=w at *;unfold cuH bq at hw;refine wDT (hb:=(by simp[h6])) (hk:=?_);refine wG tK ?_;refine wP [900] Tryz.func31 (hf:=(hw)) (hk:=?_);refine wG tK ?_;refine ZB ⟨(w.u,cA w.e),rfl,ZU ?_ ?_ ?_⟩
   ·simp[go_sem]
   ·simp[go_sem,bq,aT,cA]
   ·simp[go_sem]
  refine wDF (hb:=(by simpa using h6)) (hk:=?_);refine wG tK ?_
  by_cases h7:x.kind=7
  ·have hS:ai ⟨c,s⟩ x=⟨⟨{ c with away:=true },s⟩,cA 0⟩:=by unfold ai;rw[if_neg z8,if_neg h3,if_neg h4,if_neg h5,if_neg h6,if_pos h7]
   rw[hS];refine wDT (hb:=(by simp[h7])) (hk:=?_);refine wG tK ?_;refine ZB ⟨(⟨{ c with away:=true },s⟩,cA 0),rfl,ZU ?_ ?_ ?_⟩
   ·simp[go_sem]
   ·simp[go_sem,bq,aT,cA]
   ·simp[go_sem]
  refine wDF (hb:=(by simpa using h7)) (hk:=?_);refine wG tK ?_;refine wDF (hb:=Z2) (hk:=?_);refine wG tK ?_
  by_cases h9:x.kind=9
  ·have hS:ai ⟨c,s⟩ x=⟨(cY ⟨c,s⟩ x.path x.n).u,cA (cY ⟨c,s⟩ x.path x.n).e⟩:=by unfold ai;rw[if_neg z8,if_neg h3,if_neg h4,if_neg h5,if_neg h6,if_neg h7,if_neg hk,if_pos h9]
   have hw:=Cx ⟨c,s⟩ h x.path hp x.n;rw[hS];generalize cY ⟨c,s⟩ x.path x.n=w at *;unfold cuH bq at hw;refine wDT (hb:=(by simp[h9])) (hk:=?_);refine wG tK ?_;refine wP [900] Tryz.func33 (hf:=(hw)) (hk:=?_);refine wG tK ?_;refine ZB ⟨(w.u,cA w.e),rfl,ZU ?_ ?_ ?_⟩
   ·simp[go_sem]
   ·simp[go_sem,bq,aT,cA]
   ·simp[go_sem]
  refine wDF (hb:=(by simpa using h9)) (hk:=?_);refine wG tK ?_
  by_cases h10:x.kind=10
  ·have hS:ai ⟨c,s⟩ x=if c.away=true then ⟨⟨c,s⟩,cA 12⟩ else ⟨(eZ ⟨c,s⟩).u,⟨0,(eZ ⟨c,s⟩).n,0,[]⟩⟩:=by unfold ai;rw[if_neg z8,if_neg h3,if_neg h4,if_neg h5,if_neg h6,if_neg h7,if_neg hk,if_neg h9,if_pos h10]
   refine wDT (hb:=(by simp[h10])) (hk:=?_);refine wG tK ?_;cases ha:c.away with
   | true=>
    have hw:=Bv ⟨c,s⟩ h ha;rw[if_pos ha] at hS;rw[hS];unfold cuH bq at hw;rw[show (⟨c,s⟩:U).c.away=true from ha] at hw;refine wP [900] Tryz.func34 (hf:=(hw)) (hk:=?_);refine wG tK ?_;refine ZB ⟨(⟨c,s⟩,cA 12),rfl,ZU ?_ ?_ ?_⟩
    ·simp[go_sem]
    ·simp[go_sem,bq,aT,cA,ha]
    ·simp[go_sem]
   | false=>
    have hw:=Bw ⟨c,s⟩ h ha hB hT;rw[if_neg WX] at hS;rw[hS];generalize eZ ⟨c,s⟩=w at *;unfold cuH bq at hw;rw[show (⟨c,s⟩:U).c.away=false from ha] at hw;refine wP [900] Tryz.func34 (hf:=(hw)) (hk:=?_);refine wG tK ?_;refine ZB ⟨(w.u,⟨0,w.n,0,[]⟩),rfl,ZU ?_ ?_ ?_⟩
    ·simp[go_sem]
    ·simp[go_sem,bq,aT]
    ·simp[go_sem]
  have hS:ai ⟨c,s⟩ x=⟨⟨c,s⟩,cA 1⟩:=by unfold ai;rw[if_neg z8,if_neg h3,if_neg h4,if_neg h5,if_neg h6,if_neg h7,if_neg hk,if_neg h9,if_neg h10]
  rw[hS];refine wDF (hb:=(by simpa using h10)) (hk:=?_);refine wG tK ?_;refine ZB ⟨(⟨c,s⟩,cA 1),rfl,ZU ?_ ?_ ?_⟩
  ·simp[go_sem]
  ·simp[go_sem,bq,aT,cA]
  ·simp[go_sem]
 obtain ⟨v,r⟩:=q;simp only at hS;rw[hS];simp only[go_sem,bq,aT];refine wG tK ?_;refine ZW ZM ?_;refine ZS rfl ?_;refine sN tK 9 ?_;refine sT tK ?_;refine sT tK ?_;refine sT tK ?_;refine sE ?_;refine wKd ?_
 try simp only[go_sem,gA,gB,gC]
 refine wG tK ?_;refine wT ?_;rfl
variable {Fa:Prop}
theorem I8 {B T:Nat} (c:Cli) (s:Srv) (h:UInvF Fa B T ⟨c,s⟩) (hB:B≤30000000) (x:Step) (hk:x.kind=8):af Tryz.prog 11 [.agg (ZC c),.agg (ZQ s),.agg (ZX x)] [] (λr _=>r=dN (ai ⟨c,s⟩ x)):=by
 have hco:=xx c (h.cli.qg z8);have hso:=Ca s h.srv.hist.bH.small (h.srv.BY z8);have hS:ai ⟨c,s⟩ x=⟨fY ⟨c,s⟩,⟨0,cc (ay ⟨c,s⟩),((ay ⟨c,s⟩).length-cc (ay ⟨c,s⟩):Nat),[]⟩⟩:=by
  unfold ai;rw[if_neg z8,if_neg z8,if_neg z8,if_neg z8,if_neg z8,if_neg z8,if_pos hk]
 have hw:=Gl ⟨c,s⟩ h z8;rw[hS];generalize (ay ⟨c,s⟩).length-cc (ay ⟨c,s⟩)=m2 at *;generalize cc (ay ⟨c,s⟩)=m1 at *;generalize fY ⟨c,s⟩=w at *;unfold I6 qU D7 bq at hw;unfold ZC rz at hco;unfold ZQ at hso;unfold ZC ZQ ZX;refine ZF tK (Tryz.func11) rfl (λC=>?_);simp only[Tryz.ntmps11,Tryz.results11,go_sem];refine wG tK ?_;refine ZZ 5 rfl (rfl) ?_;simp only[go_sem];refine ZW ZM ?_;refine ZS rfl ?_;refine sN tK 1 ?_;refine gP 0 rfl rfl z7 w3 ⟨_,Tryz.func15,by kernel_rfl,rfl⟩ w3 (hco) w3 z7 z7 w3 z6 z6 ?_;refine sN tK 1 ?_;refine sC Tryz.func25 (hf:=(hso)) (hk:=?_);refine sB tK ?_;refine sW tK ?_;refine sG tK ?_;refine sE ?_;refine wKd ?_
 try simp only[go_sem,gA,gB,gC]
 refine wG tK ?_;refine ah (ax 10) ?_;simp only[go_sem];refine wDF (hb:=QD) (hk:=?_);refine wG tK ?_;refine wDF (hb:=QD) (hk:=?_);refine wG tK ?_;refine wDF (hb:=QD) (hk:=?_);refine wG tK ?_;refine wDF (hb:=QD) (hk:=?_);refine wG tK ?_;refine wDF (hb:=QD) (hk:=?_);refine wG tK ?_;refine wDF (hb:=QD) (hk:=?_);refine wG tK ?_;refine wDF (hb:=QD) (hk:=?_);refine wG tK ?_;refine wDT (hb:=QD) (hk:=?_);refine wG tK ?_;refine bY rfl (Bq rfl z7 w3 ⟨_,Tryz.func32,by kernel_rfl,rfl⟩ [19] [901] w8 w3 y8 w3 w3 w3 w3 (hw) y6) ?_;refine wG tK ?_;refine ZW ZM ?_;refine ZS rfl ?_;refine sN tK 9 ?_;refine sT tK ?_;refine sT tK ?_;refine sT tK ?_;refine sE ?_;refine wKd ?_
 try simp only[go_sem,gA,gB,gC]
 refine wG tK ?_;refine wT ?_;rfl
theorem lS {B T:Nat} (c:Cli) (s:Srv) (h:UInvF Fa B T ⟨c,s⟩) (hB:B≤30000000) (hT:T≤800000000000) (x:Step) (hp:x.path.length≤10000000) (hq:x.toPath.length≤10000000):af Tryz.prog 11 [.agg (ZC c),.agg (ZQ s),.agg (ZX x)] [] (λr _=>r=dN (ai ⟨c,s⟩ x)):=by
 by_cases hk:x.kind=8
 ·exact I8 c s h hB x hk
 ·exact JX c s h hB hT x hp hq hk
theorem CT (l:List Node):iu (l.map ZN)=l.map ZN:=by
 rw[cH,Yc];exact Ye λx _=>mu x
theorem EW (l:List Rec):iu (l.map ZR)=l.map ZR:=by
 rw[cH,Yc];exact Ye λx _=>by simp[ZR,ZA,dz,nrm,nh]
theorem CV (l:List Past):iu (l.map ZP)=l.map ZP:=by
 rw[cH,Yc];exact Ye λx _=>by simp[ZP,ZA,dz,nrm,nh]
theorem AK (l:List Hoard):iu (l.map ZJ)=l.map ZJ:=by
 rw[cH,Yc];exact Ye λx _=>by simp[ZJ,dz,nrm]
theorem Hb (c:Cli):dz (ZC c)=ZC c:=by
 simp[ZC,dz,nrm,yN,EW,AK]
theorem Hc (s:Srv):dz (ZQ s)=ZQ s:=by
 simp[ZQ,dz,nrm,CT,CV]
theorem af.wy {P:Program} {f:FuncId} {c:Cli} {s:Srv} {x:Step} {post:AV->List (Nat×Blk)->Prop} (hd:x.data=[]) (h:af P f [.agg (ZC c),.agg (ZQ s),.agg (ZX x)] [] post) :
  af P f [.agg (ZC c),.agg (ZQ s),.agg [.int .i64 x.kind,.int .i64 x.client,.int .i64 x.n,.str x.path,.str x.toPath,.nils]] [] post:=
 af.nrm (by simp[dz,nrm,Hb,Hc,ZX,hd]) h
def w9:Step:=⟨3,0,0,[47,97],[],[104,105]⟩
def r9:Step:=⟨1,0,0,[47,97],[],[]⟩
def u9:U:=⟨oR 0 5,⟨[gr],1,[]⟩⟩
theorem JL:iF 0 0 u9:=⟨SrvOK.new,CInvF.new 0 0 _ 0 5 z8⟩
theorem J4:(ai u9 w9).r=⟨0,0,0,[]⟩:=by kernel_rfl
theorem J5:(ai (ai u9 w9).u r9).r=⟨0,0,0,[104,105]⟩:=by kernel_rfl
theorem J6:(ai (ai u9 w9).u r9).u.s.past.length=2:=by kernel_rfl
theorem J7:(ai (ai u9 w9).u r9).u.c.clock=5:=by kernel_rfl
theorem J8:(ai (ai u9 w9).u r9).u.c.room=5:=by kernel_rfl
theorem vD:af Tryz.prog 16 [] [] (λr _=>r=.bool true):=by
 have h0:=JL;have h1:=ie h0 w9;have h2:=ie h1 r9;have p0:=Gw 0 5;have p1:=la;have p2:=lS (oR 0 5) ⟨[gr],1,[]⟩ h0 z8 z8 w9 x8 x8;have p3:af Tryz.prog 11 [.agg (ZC (ai u9 w9).u.c),.agg (ZQ (ai u9 w9).u.s),.agg [.int .i64 1,.int .i64 0,.int .i64 0,.str [47,97],.str [],.nils]] [] (λr _=>r=dN (ai (ai u9 w9).u r9)):=
  af.wy (x:=r9) rfl (lS (ai u9 w9).u.c (ai u9 w9).u.s h1 z8 z8 r9 x8 x8)
 have p4:=Gx (ai (ai u9 w9).u r9).u.c (h2.cli.qg z8);have e1:=J4;have e2:=J5;have e3:=J6;have e4:=J7;have e5:=J8
 change af _ _ _ _ λr _=>r=dN (ai u9 w9) at p2
 generalize ai (ai u9 w9).u r9=g2 at *;generalize ai u9 w9=g1 at *;unfold dN at p2 p3;rw[e1] at p2;rw[e2] at p3;unfold ZC ZQ aT at *;rw[show ZX w9=[.int .i64 3,.int .i64 0,.int .i64 0,.str [47,97],.str [],.sl [[.int .u8 104],[.int .u8 105]]] from rfl] at p2;refine ZF tK (Tryz.func16) rfl (λC=>?_);simp only[Tryz.ntmps16,Tryz.results16,go_sem];refine wG tK ?_;refine wC Tryz.func10 (hf:=(p0)) (hk:=?_);refine wG tK ?_;refine wC Tryz.func20 (hf:=(p1)) (hk:=?_);refine wG tK ?_;refine bY rfl (Bp tK rfl rfl rfl (id:=10) (n:=2) z7 z6 x8 rfl rfl) ?_;simp only[go_sem];refine wG tK ?_;refine wC Tryz.func11 (hf:=(by exact af.nrm rfl (p2))) (hk:=?_);refine wG tK ?_;refine wC Tryz.func11 (hf:=(p3)) (hk:=?_);refine wG tK ?_;refine wCC Tryz.func15 (hf:=λhb=>(p4)) (hk:=?_);refine wG tK ?_;refine wT ?_;rw[e3,e5,show decide (g2.u.c.clock>0)=true from by rw[e4];rfl];rfl
end La
