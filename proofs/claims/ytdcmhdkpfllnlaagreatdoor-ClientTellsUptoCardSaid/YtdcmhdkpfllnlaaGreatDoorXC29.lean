/- Texts of this claim, part 29: CDo, CDo2, CDo3, RLaw9. No condition. -/
import Derived.Test.YtdcmhdkpfllnlaaGreatDoorXC28
import Derived.Test.YtdcmhdkpfllnlaaGreatDoorXC25
import Derived.Test.YtdcmhdkpfllnlaaGreatDoorXC11
import Derived.Test.YtdcmhdkpfllnlaaGreatDoorXC8
import Derived.Test.YtdcmhdkpfllnlaaGreatDoorXC26
set_option maxRecDepth 10000
set_option maxHeartbeats 4000000
set_option linter.unusedSimpArgs false
set_option linter.unusedVariables false
namespace La
open Go Go.Eng Go.Proofs
def qq (c:Cli):List AV:=[.int .i64 c.number,.bool c.away,.int .i64 c.room,.sl (c.cache.map ZK),.sl (c.log.map ZR),.osl 901 9 0 c.repair.length,.sl (c.hoards.map ZJ),.int .i64 c.clock,.int .i64 c.made,.int .i64 c.logged]
theorem vS (c:Cli) (h:SmallC c):ae Tryz.prog 15 [.agg (ZC c)] [] (λr H=>r=.agg (qq c)/\∀i b,aa [(901,.cells 116 9 (c.repair.map ZR))] i=some b->aa H i=some b):=by
 have h1:=qA c.cache h.cache;have h2:=jM c.log h.log;have h3:=oW c.repair h.repair;have h4:=nA c.hoards h.hoards;unfold ZC qq;refine ZF tK (Tryz.func15) rfl (λC=>?_);simp only[Tryz.ntmps15,Tryz.results15,go_sem];refine wG tK ?_;refine ZW ZM ?_;refine ZS rfl ?_;refine sN tK 2 ?_;refine sC Tryz.func45 (hf:=(h1)) (hk:=?_);refine sN tK 2 ?_;refine sC Tryz.func46 (hf:=(h2)) (hk:=?_);refine sN tK 2 ?_;refine gm 882 rfl rfl z7 w3 ⟨_,Tryz.func46,by kernel_rfl,rfl⟩ w3 (h3) w3 z7 z7 w3 z6 z6 ?_;refine sN tK 2 ?_;refine sC Tryz.func47 (hf:=(h4)) (hk:=?_);refine sN tK 1 ?_;refine sT tK ?_;refine sN tK 1 ?_;refine sT tK ?_;refine sN tK 1 ?_;refine sT tK ?_;refine sN tK 1 ?_;refine sT tK ?_;refine sE ?_;refine wKd ?_
 try simp only[go_sem,gA,gB,gC]
 refine wG tK ?_;refine wT ?_;simp[go_sem]
def mM (u:U) (x:Step):GotS:=if (af x.path).2≠0 then ⟨u,cy (af x.path).2⟩ else ⟨(goU u (af x.path).1 0).u,fS x.kind (goU u (af x.path).1 0)⟩
theorem AH {B T:Nat} (u:U) (h:UInv B T u) (hB:B≤30000000) (hT:T≤800000000000) (x:Step) (hp:x.path.length≤10000000) (hk:x.kind=1\/x.kind=2) (G Y N:Nat->Nat):ae Tryz.prog 26 [.ptr 900 13 0 0,.rp (ZX x) 0] (cuH u G Y N)
  (λr H=>r=.agg (aW (mM u x).r)/\Holds (cuH (mM u x).u G Y N) H):=by
 have hsp:=lZ x.path z8;have hsl:=bV x.path;have hgo:=uu u h z8 z8 (af x.path).1 z8 (λy hy=>by have:=(hsl.2 y hy).1;omega) 0;have hno:=nH h (af x.path).1 0;have hnam:=uJ h (af x.path).1 0;have hW:mM u x=if (af x.path).2≠0 then ⟨u,cy (af x.path).2⟩ else ⟨(goU u (af x.path).1 0).u,fS x.kind (goU u (af x.path).1 0)⟩:=rfl;generalize mM u x=wF at *;unfold cn at hsp;generalize goU u (af x.path).1 0=g at *;generalize af x.path=S at *;obtain ⟨L,E⟩:=S;simp only at hW hsp hgo;unfold cuH gP at hgo;unfold cuH ZX;refine ZF tK (Tryz.func26) rfl (λC=>?_);simp only[Tryz.ntmps26,Tryz.results26,go_sem];refine wG tK ?_;refine ag (ar 4) ?_;simp only[go_sem];refine wC Tryz.func56 (hf:=(hsp)) (hk:=?_);refine wG tK ?_
 by_cases hE:E=0
 ·rw[if_neg x8] at hW;rw[hW];refine wDF (hb:=x8) (hk:=?_);refine wG tK ?_;refine wP [900] Tryz.func57 (hf:=(hgo)) (hk:=?_);refine wGq tK ?_ ?_ w6
  ·simp[ZN]
  by_cases hge:g.e=0
  ·refine wDF (hb:=u1) (hk:=?_);refine wG tK ?_
   rcases hk with hk | hk
   ·have hr:fS x.kind g=if g.n.dir=true then ⟨9,0,0,[]⟩ else ⟨0,0,0,g.n.data⟩:=by unfold fS;rw[if_neg u1,if_pos hk]
    rw[hr];cases hd:g.n.dir with
    | true=>
     refine wDT (hb:=p6) (hk:=?_);refine wG tK ?_;refine ag (ar 4) ?_;simp only[go_sem];refine wU ?_ ?_
     ·rfl
     ·exact q9q
    | false=>
     refine wDF (hb:=p6) (hk:=?_);refine wG tK ?_;refine wDT (hb:=p6) (hk:=?_);refine wG tK ?_;refine wU ?_ ?_
     ·rfl
     ·exact q9q
   ·have hr:fS x.kind g=if g.n.dir=true then ⟨0,0,0,mJ g.n.entries⟩ else ⟨8,0,0,[]⟩:=by unfold fS;rw[if_neg u1,if_neg z8]
    rw[hr];refine wDF (hb:=p6) (hk:=?_);refine wG tK ?_;refine wDF (hb:=p6) (hk:=?_);refine wG tK ?_;cases hd:g.n.dir with
    | false=>
     refine wDT (hb:=(rfl)) (hk:=?_);refine wG tK ?_;refine ag (ar 4) ?_;simp only[go_sem];refine wU ?_ ?_
     ·rfl
     ·exact q9q
    | true=>
     refine wDF (hb:=(rfl)) (hk:=?_);refine wG tK ?_;have hle:=hno.ent;have hD0:jL g.n.entries 0=[]:=rfl;have hDs:=λi=>@mZ g.n.entries i
     have hDn:=oV hnam;have hDe:jL g.n.entries g.n.entries.length=mJ g.n.entries:=by unfold jL;rw[List.take_length]
     rw[if_pos rfl];generalize jL g.n.entries=D at *;generalize mJ g.n.entries=DE at *;refine ag (le_empty 71 5 1 z7) ?_;simp only[go_sem];refine ZL (λi:Nat=>i≤g.n.entries.length) (λi=>g.n.entries.length-i) (λi=>[(8,.osl 71 1 0 (D i).length),(10,.any),(62,.int .i64 i),(63,.any),(64,.any),(65,.any),(66,.any),(67,.any),(68,.any),(69,.any),(70,.any),(71,.any),(72,.any)])
      (λi=>[(71,.cells 5 1 ((D i).map ZY))]) 0 z8 ?_ λi hi=>?_
     ·rw[hD0];simp only[go_sem];exact ZU w3 w3 w3
     simp only[go_sem];refine wG tK ?_;refine wD (λh=>?_) (λh=>?_)
     ·have hlt:i<g.n.entries.length:=by simp at h;omega
      have hg:(g.n.entries.map ZE).getD i []=ZE (g.n.entries.getD i default):=Fam.getD hlt;have hs1:=hDs i hlt;have hl1:=hDn i hi;have hl2:(g.n.entries.getD i default).name.length≤40:=hnam _ (by rw[List.getD_eq_getElem?_getD,List.getElem?_eq_getElem hlt];exact List.getElem_mem _);have how':=wi1 (i:=i) z8;generalize g.n.entries.getD i default=e at *;generalize D i=Di at *;have htq:List.take Di.length (Di.map ZY)=Di.map ZY:=List.take_of_length_le y8;refine wR ?_;refine wNq tK 4 ?_ ?_ z6 z6 s7
      ·simp[hg,ZE,hlt]
      refine wR ?_;refine wN tK 3 ?_;refine bN rfl (vB tK rfl rfl rfl rfl z7 z7 (by show eY _ _ _ _ _ (.sl (e.name.map ZY))=_;simp only[go_sem,htq];exact rfl) ?_ z6) ?_
      ·simp[go_sem,htq];exact ⟨by omega,λx hx=>fz (ss g.u) hx 71⟩
      refine wGq tK ?_ ?_ j5
      ·simp[htq,refs];refine ⟨by omega,λx hx=>fz (ss g.u) hx 69,λrow hr y hy=>?_⟩
       rcases List.mem_append.1 (List.mem_of_mem_take hr) with hr | hr<;>obtain ⟨b,_,rfl⟩:=List.mem_map.1 hr<;>simp only[ZY,List.mem_cons,List.not_mem_nil,or_false] at hy<;>subst hy<;>simp[refs]
      refine ZB ⟨i+1,by omega,by omega,ZU ?_ ?_ ?_⟩
      ·simp[go_sem,hs1];omega
      ·simp[go_sem,hs1,htq,ZY];rw[List.take_of_length_le y8,List.append_assoc]
      ·simp[go_sem]
     ·have e:i=g.n.entries.length:=by simp at h;omega
      subst e;rw[hDe];refine ZZ 71 rfl (j_ _) ?_;simp only[go_sem];refine wG tK ?_;refine wU ?_ ?_
      ·simp[aW]
      ·exact q9q
  ·have hr:fS x.kind g=cy g.e:=by unfold fS;rw[if_pos hge];rfl
   rw[hr];refine wDT (hb:=u1) (hk:=?_);refine wG tK ?_;refine ag (ar 4) ?_;simp only[go_sem];refine wU ?_ ?_
   ·rfl
   ·exact q9q
 ·rw[if_pos hE] at hW;rw[hW];refine wDT (hb:=x8) (hk:=?_);refine wG tK ?_;refine ag (ar 4) ?_;simp only[go_sem];refine wU ?_ ?_
  ·rfl
  ·exact q9q
theorem Ip {B T:Nat} (c:Cli) (s:Srv) (h:UInv B T ⟨c,s⟩) (hB:B≤30000000) (hT:T≤800000000000) (x:Step) (hp:x.path.length≤10000000) (hq:x.toPath.length≤10000000) (hk:x.kind≠8):ae Tryz.prog 11 [.agg (ZC c),.agg (ZQ s),.agg (ZX x)] [] (λr _=>r=f_ (aw ⟨c,s⟩ x)):=by
 have hco:=vS c (h.cli.vq z8);have hso:=AQ s h.srv.hist.bM.small (h.srv.DC z8);have htq:List.take c.repair.length (c.repair.map ZR)=c.repair.map ZR:=List.take_of_length_le y8;unfold ZC qq at hco;unfold ZQ at hso;unfold ZC ZQ ZX;refine ZF tK (Tryz.func11) rfl (λC=>?_);simp only[Tryz.ntmps11,Tryz.results11,go_sem];refine wG tK ?_;refine ZZ 5 rfl (rfl) ?_;simp only[go_sem];refine ZW ZM ?_;refine ZS rfl ?_;refine sN tK 1 ?_;refine gm 0 rfl rfl z7 w3 ⟨_,Tryz.func15,by kernel_rfl,rfl⟩ w3 (hco) w3 z7 z7 w3 z6 z6 ?_;refine sN tK 1 ?_;refine sC Tryz.func25 (hf:=(hso)) (hk:=?_);refine sB tK ?_;refine sW tK ?_;refine sG tK ?_;refine sE ?_;refine wKd ?_
 try simp only[go_sem,gA,gB,gC]
 refine ZZ 901 rfl (cO _) ?_;simp only[go_sem,htq];refine ag (de 19 900) ?_;refine wR ?_;refine wN tK 1 ?_;refine wR ?_;refine wN tK 2 ?_;refine iD ?_;refine ag (ar 10) ?_;simp only[go_sem];refine nB (λq:U×Reply=>aw ⟨c,s⟩ x=⟨q.1,q.2⟩) (λq=>[(11,.any),(12,.any),(13,.any),(22,.any),(23,.any),(24,.any),(25,.any),(26,.any),(27,.any),(28,.any),(29,.any),(30,.any),(31,.any),(32,.any),(33,.any),(34,.any),(35,.any),(36,.any),(37,.any),(38,.any),(39,.any),(40,.any),(41,.any),(42,.any),(43,.any),(44,.any),(45,.any),(46,.any),(47,.any),(48,.any),(49,.any),(50,.any),(51,.any),(52,.any),(53,.any),(54,.any),(55,.any),(56,.any),(57,.any),(58,.any),(59,.any),(60,.any),(61,.any),(62,.any),(63,.any),(64,.any),(65,.any),(66,.any),(67,.any),(68,.any),(69,.any),(70,.any),(71,.any),(72,.any),(73,.any),(74,.any),(75,.any),(76,.any),(77,.any),(78,.any),(79,.any),(80,.any),(81,.any),(82,.any),(83,.any),(84,.any),(85,.any),(86,.any),(87,.any),(88,.any),(89,.any),(90,.any),(91,.any),(92,.any),(93,.any),(94,.any),(95,.any),(96,.any),(97,.any),(98,.any),(99,.any),(100,.any),(101,.any),(102,.any),(103,.any),(104,.any),(105,.any)]) (λq=>[(900,.cells 80 13 [bl q.1]),(10,.cells 44 4 [aW q.2])]) ?_ λq hS=>?_
 ·refine wG tK ?_
  by_cases h1:x.kind=1
  ·refine wDT (hb:=(by simp[h1])) (hk:=?_);refine wG tK ?_;have hS:aw ⟨c,s⟩ x=mM ⟨c,s⟩ x:=by unfold aw mM;rw[if_pos (.inl h1)]
   have hw:=AH ⟨c,s⟩ h hB hT x hp (.inl h1);rw[hS];generalize mM ⟨c,s⟩ x=w at *;unfold cuH bl ZX aW at hw;refine wDT (hb:=(by simp[h1])) (hk:=?_);refine wG tK ?_;refine wP [900] Tryz.func26 (hf:=(hw)) (hk:=?_);refine wG tK ?_;refine ZB ⟨(w.u,w.r),rfl,ZU ?_ ?_ ?_⟩
   ·simp[go_sem]
   ·simp[go_sem,bl,aW]
   ·simp[go_sem]
  refine wDF (hb:=Zn) (hk:=?_);refine wG tK ?_
  by_cases h2:x.kind=2
  ·skip
   have hS:aw ⟨c,s⟩ x=mM ⟨c,s⟩ x:=by unfold aw mM;rw[if_pos (.inr h2)]
   have hw:=AH ⟨c,s⟩ h hB hT x hp (.inr h2);rw[hS];generalize mM ⟨c,s⟩ x=w at *;unfold cuH bl ZX aW at hw;refine wDT (hb:=(by simp[h2])) (hk:=?_);refine wG tK ?_;refine wP [900] Tryz.func26 (hf:=(hw)) (hk:=?_);refine wG tK ?_;refine ZB ⟨(w.u,w.r),rfl,ZU ?_ ?_ ?_⟩
   ·simp[go_sem]
   ·simp[go_sem,bl,aW]
   ·simp[go_sem]
  refine wDF (hb:=WA) (hk:=?_);refine wG tK ?_
  by_cases h3:x.kind=3
  ·have hS:aw ⟨c,s⟩ x=⟨(cx ⟨c,s⟩ x.path x.data).u,cy (cx ⟨c,s⟩ x.path x.data).e⟩:=by unfold aw;rw[if_neg z8,if_pos h3]
   have hw:=D_ ⟨c,s⟩ h hB hT x.path x.data hp;rw[hS];generalize cx ⟨c,s⟩ x.path x.data=w at *;unfold cuH bl at hw;refine wDT (hb:=(by simp[h3])) (hk:=?_);refine wG tK ?_;refine wP [900] Tryz.func27 (hf:=(hw)) (hk:=?_);refine wG tK ?_;refine ZB ⟨(w.u,cy w.e),rfl,ZU ?_ ?_ ?_⟩
   ·simp[go_sem]
   ·simp[go_sem,bl,aW,cy]
   ·simp[go_sem]
  refine wDF (hb:=(by simpa using h3)) (hk:=?_);refine wG tK ?_
  by_cases h4:x.kind=4
  ·have hS:aw ⟨c,s⟩ x=⟨(gj ⟨c,s⟩ x.path).u,cy (gj ⟨c,s⟩ x.path).e⟩:=by unfold aw;rw[if_neg z8,if_neg h3,if_pos h4]
   have hM:gj ⟨c,s⟩ x.path=if (ai ⟨c,s⟩ x.path).e≠0 then ⟨(ai ⟨c,s⟩ x.path).e,(ai ⟨c,s⟩ x.path).u⟩ else cU (ai ⟨c,s⟩ x.path).u (g_ (ai ⟨c,s⟩ x.path).n.fid (ai ⟨c,s⟩ x.path).name) (-1):=rfl;have hd:=jR ⟨c,s⟩ h z8 z8 x.path hp;have hdi:=ct h x.path;have hnm:=bF ⟨c,s⟩ x.path;rw[hS];generalize gj ⟨c,s⟩ x.path=w at *;generalize ai ⟨c,s⟩ x.path=d at *;unfold cuH bl at hd;refine wDT (hb:=(by simp[h4])) (hk:=?_);refine wG tK ?_;refine wP [900] Tryz.func28 (hf:=(hd)) (hk:=?_);refine wGq tK ?_ ?_ w6
   ·simp[ZN]
   by_cases hde:d.e=0
   ·rw[if_neg u5] at hM;have hact:=ow d.u hdi z8 z8 (g_ d.n.fid d.name) ⟨hnm,by simp[g_],by simp[g_]⟩ (-1);unfold cuH bl at hact;simp only[ZA,g_,List.map_nil] at hact hM;generalize cU d.u ⟨2,0,d.n.fid,d.name,0,[],[]⟩ (-1)=y at *;rw[hM];refine wDT (hb:=u5) (hk:=?_);refine wG tK ?_;refine ag (uQ 53 z6 Zt) ?_;simp only[go_sem];refine wP [900] Tryz.func29 (hf:=(hact)) (hk:=?_);refine wG tK ?_;refine ZB ⟨(y.u,cy y.e),rfl,ZU ?_ ?_ ?_⟩
    ·simp[go_sem]
    ·simp[go_sem,bl,aW,cy]
    ·simp[go_sem]
   ·rw[if_pos u5] at hM;rw[hM];refine wDF (hb:=u5) (hk:=?_);refine wG tK ?_;refine ZB ⟨(d.u,cy d.e),rfl,ZU ?_ ?_ ?_⟩
    ·simp[go_sem]
    ·simp[go_sem,bl,aW,cy]
    ·simp[go_sem]
  refine wDF (hb:=(by simpa using h4)) (hk:=?_);refine wG tK ?_
  by_cases h5:x.kind=5
  ·have hS:aw ⟨c,s⟩ x=⟨(bC ⟨c,s⟩ x.path).u,cy (bC ⟨c,s⟩ x.path).e⟩:=by unfold aw;rw[if_neg z8,if_neg h3,if_neg h4,if_pos h5]
   have hw:=zp ⟨c,s⟩ h hB hT x.path hp;rw[hS];generalize bC ⟨c,s⟩ x.path=w at *;unfold cuH bl at hw;refine wDT (hb:=(by simp[h5])) (hk:=?_);refine wG tK ?_;refine wP [900] Tryz.func30 (hf:=(hw)) (hk:=?_);refine wG tK ?_;refine ZB ⟨(w.u,cy w.e),rfl,ZU ?_ ?_ ?_⟩
   ·simp[go_sem]
   ·simp[go_sem,bl,aW,cy]
   ·simp[go_sem]
  refine wDF (hb:=(by simpa using h5)) (hk:=?_);refine wG tK ?_
  by_cases h6:x.kind=6
  ·have hS:aw ⟨c,s⟩ x=⟨(c_ ⟨c,s⟩ x.path x.toPath).u,cy (c_ ⟨c,s⟩ x.path x.toPath).e⟩:=by unfold aw;rw[if_neg z8,if_neg h3,if_neg h4,if_neg h5,if_pos h6]
   have hw:=FE ⟨c,s⟩ h hB hT x.path x.toPath hp hq;rw[hS];generalize c_ ⟨c,s⟩ x.path x.toPath=w at *;unfold cuH bl at hw;refine wDT (hb:=(by simp[h6])) (hk:=?_);refine wG tK ?_;refine wP [900] Tryz.func31 (hf:=(hw)) (hk:=?_);refine wG tK ?_;refine ZB ⟨(w.u,cy w.e),rfl,ZU ?_ ?_ ?_⟩
   ·simp[go_sem]
   ·simp[go_sem,bl,aW,cy]
   ·simp[go_sem]
  refine wDF (hb:=(by simpa using h6)) (hk:=?_);refine wG tK ?_
  by_cases h7:x.kind=7
  ·have hS:aw ⟨c,s⟩ x=⟨⟨{ c with away:=true },s⟩,cy 0⟩:=by unfold aw;rw[if_neg z8,if_neg h3,if_neg h4,if_neg h5,if_neg h6,if_pos h7]
   rw[hS];refine wDT (hb:=(by simp[h7])) (hk:=?_);refine wG tK ?_;refine ZB ⟨(⟨{ c with away:=true },s⟩,cy 0),rfl,ZU ?_ ?_ ?_⟩
   ·simp[go_sem]
   ·simp[go_sem,bl,aW,cy]
   ·simp[go_sem]
  refine wDF (hb:=(by simpa using h7)) (hk:=?_);refine wG tK ?_;refine wDF (hb:=Zm) (hk:=?_);refine wG tK ?_
  by_cases h9:x.kind=9
  ·have hS:aw ⟨c,s⟩ x=⟨(dB ⟨c,s⟩ x.path x.n).u,cy (dB ⟨c,s⟩ x.path x.n).e⟩:=by unfold aw;rw[if_neg z8,if_neg h3,if_neg h4,if_neg h5,if_neg h6,if_neg h7,if_neg hk,if_pos h9]
   have hw:=Bd ⟨c,s⟩ h x.path hp x.n;rw[hS];generalize dB ⟨c,s⟩ x.path x.n=w at *;unfold cuH bl at hw;refine wDT (hb:=(by simp[h9])) (hk:=?_);refine wG tK ?_;refine wP [900] Tryz.func33 (hf:=(hw)) (hk:=?_);refine wG tK ?_;refine ZB ⟨(w.u,cy w.e),rfl,ZU ?_ ?_ ?_⟩
   ·simp[go_sem]
   ·simp[go_sem,bl,aW,cy]
   ·simp[go_sem]
  refine wDF (hb:=(by simpa using h9)) (hk:=?_);refine wG tK ?_
  by_cases h10:x.kind=10
  ·have hS:aw ⟨c,s⟩ x=if c.away=true then ⟨⟨c,s⟩,cy 12⟩ else ⟨(eG ⟨c,s⟩).u,⟨0,(eG ⟨c,s⟩).n,0,[]⟩⟩:=by unfold aw;rw[if_neg z8,if_neg h3,if_neg h4,if_neg h5,if_neg h6,if_neg h7,if_neg hk,if_neg h9,if_pos h10]
   refine wDT (hb:=(by simp[h10])) (hk:=?_);refine wG tK ?_;cases ha:c.away with
   | true=>
    have hw:=Ae ⟨c,s⟩ h ha;rw[if_pos ha] at hS;rw[hS];unfold cuH bl at hw;rw[show (⟨c,s⟩:U).c.away=true from ha] at hw;refine wP [900] Tryz.func34 (hf:=(hw)) (hk:=?_);refine wG tK ?_;refine ZB ⟨(⟨c,s⟩,cy 12),rfl,ZU ?_ ?_ ?_⟩
    ·simp[go_sem]
    ·simp[go_sem,bl,aW,cy,ha]
    ·simp[go_sem]
   | false=>
    have hw:=Af ⟨c,s⟩ h ha hB hT;rw[if_neg (by simp[ha])] at hS;rw[hS];generalize eG ⟨c,s⟩=w at *;unfold cuH bl at hw;rw[show (⟨c,s⟩:U).c.away=false from ha] at hw;refine wP [900] Tryz.func34 (hf:=(hw)) (hk:=?_);refine wG tK ?_;refine ZB ⟨(w.u,⟨0,w.n,0,[]⟩),rfl,ZU ?_ ?_ ?_⟩
    ·simp[go_sem]
    ·simp[go_sem,bl,aW]
    ·simp[go_sem]
  have hS:aw ⟨c,s⟩ x=⟨⟨c,s⟩,cy 1⟩:=by unfold aw;rw[if_neg z8,if_neg h3,if_neg h4,if_neg h5,if_neg h6,if_neg h7,if_neg hk,if_neg h9,if_neg h10]
  rw[hS];refine wDF (hb:=(by simpa using h10)) (hk:=?_);refine wG tK ?_;refine ZB ⟨(⟨c,s⟩,cy 1),rfl,ZU ?_ ?_ ?_⟩
  ·simp[go_sem]
  ·simp[go_sem,bl,aW,cy]
  ·simp[go_sem]
 obtain ⟨v,r⟩:=q;simp only at hS;rw[hS];simp only[go_sem,bl,aW];refine wG tK ?_;refine ZW ZM ?_;refine ZS rfl ?_;refine sN tK 9 ?_;refine sT tK ?_;refine sT tK ?_;refine sT tK ?_;refine sE ?_;refine wKd ?_
 try simp only[go_sem,gA,gB,gC]
 refine wG tK ?_;refine wT ?_;rfl
theorem Hw {B T:Nat} (c:Cli) (s:Srv) (h:UInv B T ⟨c,s⟩) (hB:B≤30000000) (x:Step) (hk:x.kind=8):ae Tryz.prog 11 [.agg (ZC c),.agg (ZQ s),.agg (ZX x)] [] (λr _=>r=f_ (aw ⟨c,s⟩ x)):=by
 have hco:=vS c (h.cli.vq z8);have hso:=AQ s h.srv.hist.bM.small (h.srv.DC z8);have hS:aw ⟨c,s⟩ x=⟨kT ⟨c,s⟩,⟨0,eZ (aK ⟨c,s⟩),((aK ⟨c,s⟩).length-eZ (aK ⟨c,s⟩):Nat),[]⟩⟩:=by
  unfold aw;rw[if_neg z8,if_neg z8,if_neg z8,if_neg z8,if_neg z8,if_neg z8,if_pos hk]
 have hw:=ET ⟨c,s⟩ h z8;rw[hS];generalize (aK ⟨c,s⟩).length-eZ (aK ⟨c,s⟩)=m2 at *;generalize eZ (aK ⟨c,s⟩)=m1 at *;generalize kT ⟨c,s⟩=w at *;unfold Hu pX CH bl at hw;unfold ZC qq at hco;unfold ZQ at hso;unfold ZC ZQ ZX;refine ZF tK (Tryz.func11) rfl (λC=>?_);simp only[Tryz.ntmps11,Tryz.results11,go_sem];refine wG tK ?_;refine ZZ 5 rfl (rfl) ?_;simp only[go_sem];refine ZW ZM ?_;refine ZS rfl ?_;refine sN tK 1 ?_;refine gm 0 rfl rfl z7 w3 ⟨_,Tryz.func15,by kernel_rfl,rfl⟩ w3 (hco) w3 z7 z7 w3 z6 z6 ?_;refine sN tK 1 ?_;refine sC Tryz.func25 (hf:=(hso)) (hk:=?_);refine sB tK ?_;refine sW tK ?_;refine sG tK ?_;refine sE ?_;refine wKd ?_
 try simp only[go_sem,gA,gB,gC]
 refine wG tK ?_;refine ag (ar 10) ?_;simp only[go_sem];refine wDF (hb:=p6) (hk:=?_);refine wG tK ?_;refine wDF (hb:=p6) (hk:=?_);refine wG tK ?_;refine wDF (hb:=p6) (hk:=?_);refine wG tK ?_;refine wDF (hb:=p6) (hk:=?_);refine wG tK ?_;refine wDF (hb:=p6) (hk:=?_);refine wG tK ?_;refine wDF (hb:=p6) (hk:=?_);refine wG tK ?_;refine wDF (hb:=p6) (hk:=?_);refine wG tK ?_;refine wDT (hb:=p6) (hk:=?_);refine wG tK ?_;refine bN rfl (z_ rfl z7 w3 ⟨_,Tryz.func32,by kernel_rfl,rfl⟩ [19] [901] w8 w3 y8 w3 w3 w3 w3 (hw) w9) ?_;refine wG tK ?_;refine ZW ZM ?_;refine ZS rfl ?_;refine sN tK 9 ?_;refine sT tK ?_;refine sT tK ?_;refine sT tK ?_;refine sE ?_;refine wKd ?_
 try simp only[go_sem,gA,gB,gC]
 refine wG tK ?_;refine wT ?_;rfl
theorem Ht {B T:Nat} (c:Cli) (s:Srv) (h:UInv B T ⟨c,s⟩) (hB:B≤30000000) (hT:T≤800000000000) (x:Step) (hp:x.path.length≤10000000) (hq:x.toPath.length≤10000000):ae Tryz.prog 11 [.agg (ZC c),.agg (ZQ s),.agg (ZX x)] [] (λr _=>r=f_ (aw ⟨c,s⟩ x)):=by
 by_cases hk:x.kind=8
 ·exact Hw c s h hB x hk
 ·exact Ip c s h hB hT x hp hq hk
def AY (x:Step):Prop:=x.path.length≤10000000/\x.toPath.length≤10000000
theorem vQ (rooms:List Int) (l:List Step) (x:Step) (hr:rooms.length≤100000000) (hl:StepsOK l) (hx:AY x) :
  ae Tryz.prog 3 [.sl (rooms.map ZI),.sl (l.map ZX),.agg (ZX x)] [] (λr _=>r=.bool true):=by
 have hb:=BD rooms hr l hl;have hWi:dY rooms=0->WInv (20*l.length) (300*l.length) (um rooms l):=λhE=>Cz hE l
 have hz:dY rooms≠0->um rooms l=sD:=λhE=>by unfold um;rw[if_neg hE]
 have hll:=hl.len;generalize um rooms l=W at *;unfold eX at hb;obtain ⟨kind,cl,n,path,toPath,data⟩:=x;rw[show ZX ⟨kind,cl,n,path,toPath,data⟩=[.int .i64 kind,.int .i64 cl,.int .i64 n,.str path,.str toPath,.sl (data.map ZY)] from rfl];refine ZF tK (Tryz.func3) rfl (λC=>?_);simp only[Tryz.ntmps3,Tryz.results3,go_sem];refine wG tK ?_;refine wC Tryz.func8 (hf:=(hb)) (hk:=?_);refine wG tK ?_
 by_cases hc:cl<0\/cl≥W.cs.length
 ·refine wDT (hb:=k9) (hk:=?_);refine wG tK ?_;refine wC Tryz.func10 (hf:=(E4 2 7)) (hk:=?_);refine wG tK ?_;refine wC Tryz.func9 (hf:=(by exact ae.nrm rfl (gW (lL 2 7) ⟨⟨by simp[lL],λk hk=>by cases hk⟩,⟨by simp[lL],λk hk=>by cases hk⟩,⟨by simp[lL],λk hk=>by cases hk⟩,by simp[lL]⟩))) (hk:=?_);refine wG tK ?_;refine wT ?_;rfl
 ·refine wDF (hb:=k9) (hk:=?_);obtain ⟨k,rfl⟩:∃k:Nat,cl=k:=⟨cl.toNat,by omega⟩;have hk:k<W.cs.length:=by omega
  have hE:dY rooms=0:=by
   by_cases h:dY rooms=0
   ·exact h
   ·rw[hz h] at hk;simp[sD] at hk
  have hw:=hWi hE;have hu:=hw.at hk;have hg:(W.cs.map ZC).getD k []=ZC (W.cs.getD k default):=Fam.getD hk;have hst:=sg hu ⟨kind,(k:Int),n,path,toPath,data⟩;have hdo:=Ht (W.cs.getD k default) W.s hu z8 z8 ⟨kind,(k:Int),n,path,toPath,data⟩ hx.1 hx.2;have hrs:=xP (W.cs.getD k default) W.s hu z8 z8 ⟨kind,(k:Int),n,path,toPath,data⟩ hx.1 hx.2;have hsk:=hu.cli.vq z8;have hown:=E5 (W.cs.getD k default) hsk;have h4:=gW (W.cs.getD k default) hsk;generalize W.cs.getD k default=c at *;have h1:=gW (aw ⟨c,W.s⟩ ⟨kind,(k:Int),n,path,toPath,data⟩).u.c (hst.cli.vq z8);have h2:=qk (aw ⟨c,W.s⟩ ⟨kind,(k:Int),n,path,toPath,data⟩).u.s hst.srv.hist.bM.small (by have:=hst.srv.len;omega);have h3:=sa (aw ⟨c,W.s⟩ ⟨kind,(k:Int),n,path,toPath,data⟩).r;generalize aw ⟨c,W.s⟩ ⟨kind,(k:Int),n,path,toPath,data⟩=g at *;unfold f_ at hdo hrs;unfold ZC ZQ aW at *;rw[show ZX ⟨kind,(k:Int),n,path,toPath,data⟩=[.int .i64 kind,.int .i64 (k:Int),.int .i64 n,.str path,.str toPath,.sl (data.map ZY)] from rfl] at hdo hrs;refine wGq tK ?_ ?_ u9
  ·simp[hg,hk]
  refine wC Tryz.func11 (hf:=(hdo)) (hk:=?_);refine wG tK ?_;refine wC Tryz.func12 (hf:=(hrs)) (hk:=?_);refine wG tK ?_;refine ZW ZM ?_;refine ZS rfl ?_;refine sN tK 2 ?_;refine sC Tryz.func9 (hf:=(h1)) (hk:=?_);refine sN tK 3 ?_;refine sCC Tryz.func13 (hf:=λhb=>(h2)) (hk:=?_);refine sN tK 4 ?_ z6 z6 Qv WN;refine sCC Tryz.func14 (hf:=λhb=>(h3)) (hk:=?_);refine sN tK 3 ?_ z6 z6 Qv WN;refine sCC Tryz.func15 (hf:=λhb=>(hown)) (hk:=?_);refine sN tK 1 ?_;refine sCC Tryz.func9 (hf:=λhb=>(h4)) (hk:=?_);refine sN tK 2 ?_ z6 z6 Qv WN;refine sE ?_;refine wKd ?_
  try simp only[go_sem,gA,gB,gC]
  refine wG tK ?_;refine wT ?_;rfl
end La
