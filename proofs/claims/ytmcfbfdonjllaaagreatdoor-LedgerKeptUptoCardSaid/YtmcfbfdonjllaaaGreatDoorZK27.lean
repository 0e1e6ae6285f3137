/- Texts of this claim, part 27: CDo, CDo2, CDo3, WDo, WPlay, WFates, WAli12, WKept. No condition. -/
import Derived.Test.YtmcfbfdonjllaaaGreatDoorZK26
import Derived.Test.YtmcfbfdonjllaaaGreatDoorZK24
set_option maxRecDepth 10000
set_option maxHeartbeats 4000000
set_option linter.unusedSimpArgs false
set_option linter.unusedVariables false
namespace La
open Go Go.Eng Go.Proofs
variable {Fa:Prop}
def pv (c:Cli):List AV:=[.int .i64 c.number,.bool c.away,.int .i64 c.room,.sl (c.cache.map ZK),.sl (c.log.map ZR),.osl 901 9 0 c.repair.length,.sl (c.hoards.map ZJ),.int .i64 c.clock,.int .i64 c.made,.int .i64 c.logged]
theorem uM (c:Cli) (h:SmallC c):ae Tryz.prog 41 [.agg (ZC c)] [] (λr H=>r=.agg (pv c)/\∀i b,aa [(901,.cells 51 9 (c.repair.map ZR))] i=some b->aa H i=some b):=by
 have h1:=pA c.cache h.cache;have h2:=iH c.log h.log;have h3:=nV c.repair h.repair;have h4:=mh c.hoards h.hoards;unfold ZC pv;refine ZF tK (Tryz.func41) rfl (λC=>?_);simp only[Tryz.ntmps41,Tryz.results41,go_sem];refine wG tK ?_;refine ZW ZM ?_;refine ZS rfl ?_;refine sN tK 2 ?_;refine sC Tryz.func68 (hf:=(h1)) (hk:=?_);refine sN tK 2 ?_;refine sC Tryz.func69 (hf:=(h2)) (hk:=?_);refine sN tK 2 ?_;refine ff 882 rfl rfl z8 w1 ⟨_,Tryz.func69,by kernel_rfl,rfl⟩ w1 (h3) w1 z8 z8 w1 z6 z6 ?_;refine sN tK 2 ?_;refine sC Tryz.func70 (hf:=(h4)) (hk:=?_);refine sN tK 1 ?_;refine sT tK ?_;refine sN tK 1 ?_;refine sT tK ?_;refine sN tK 1 ?_;refine sT tK ?_;refine sN tK 1 ?_;refine sT tK ?_;refine sE ?_;refine wKd ?_
 try simp only[go_sem,gA,gB,gC]
 refine wG tK ?_;refine wT ?_;simp[go_sem]
def lh (u:U) (x:Step):GotS:=if (ag x.path).2≠0 then ⟨u,cz (ag x.path).2⟩ else ⟨(goU u (ag x.path).1 0).u,mV x.kind (goU u (ag x.path).1 0)⟩
theorem zo {B T:Nat} (u:U) (h:UInvF Fa B T u) (hB:B≤30000000) (hT:T≤800000000000) (x:Step) (hp:x.path.length≤10000000) (hk:x.kind=1\/x.kind=2) (G Y N:Nat->Nat):ae Tryz.prog 71 [.ptr 900 13 0 0,.rp (ZX x) 0] (cuH u G Y N)
  (λr H=>r=.agg (aU (lh u x).r)/\Holds (cuH (lh u x).u G Y N) H):=by
 have hsp:=kB x.path z7;have hsl:=cP x.path;have hgo:=tw u h z7 z7 (ag x.path).1 z7 (λy hy=>by have:=(hsl.2 y hy).1;omega) 0;have hno:=vg h (ag x.path).1 0;have hnam:=EC h (ag x.path).1 0;have hW:lh u x=if (ag x.path).2≠0 then ⟨u,cz (ag x.path).2⟩ else ⟨(goU u (ag x.path).1 0).u,mV x.kind (goU u (ag x.path).1 0)⟩:=rfl;generalize lh u x=wF at *;unfold fh at hsp;generalize goU u (ag x.path).1 0=g at *;generalize ag x.path=S at *;obtain ⟨L,E⟩:=S;simp only at hW hsp hgo;unfold cuH o_ at hgo;unfold cuH ZX;refine ZF tK (Tryz.func71) rfl (λC=>?_);simp only[Tryz.ntmps71,Tryz.results71,go_sem];refine wG tK ?_;refine ay (bl 4) ?_;simp only[go_sem];refine wC Tryz.func102 (hf:=(hsp)) (hk:=?_);refine wG tK ?_
 by_cases hE:E=0
 ·rw[if_neg s6] at hW;rw[hW];refine wDF (hb:=s6) (hk:=?_);refine wG tK ?_;refine wP [900] Tryz.func103 (hf:=(hgo)) (hk:=?_);refine wGq tK ?_ ?_ w3
  ·simp[ZN]
  by_cases hge:g.e=0
  ·refine wDF (hb:=p6) (hk:=?_);refine wG tK ?_
   rcases hk with hk | hk
   ·have hr:mV x.kind g=if g.n.dir=true then ⟨9,0,0,[]⟩ else ⟨0,0,0,g.n.data⟩:=by unfold mV;rw[if_neg p6,if_pos hk]
    rw[hr];cases hd:g.n.dir with
    | true=>
     refine wDT (hb:=QD) (hk:=?_);refine wG tK ?_;refine ay (bl 4) ?_;simp only[go_sem];refine wU ?_ ?_
     ·rfl
     ·exact q9
    | false=>
     refine wDF (hb:=QD) (hk:=?_);refine wG tK ?_;refine wDT (hb:=QD) (hk:=?_);refine wG tK ?_;refine wU ?_ ?_
     ·rfl
     ·exact q9
   ·have hr:mV x.kind g=if g.n.dir=true then ⟨0,0,0,qD g.n.entries⟩ else ⟨8,0,0,[]⟩:=by unfold mV;rw[if_neg p6,if_neg z7]
    rw[hr];refine wDF (hb:=QD) (hk:=?_);refine wG tK ?_;refine wDF (hb:=QD) (hk:=?_);refine wG tK ?_;cases hd:g.n.dir with
    | false=>
     refine wDT (hb:=(rfl)) (hk:=?_);refine wG tK ?_;refine ay (bl 4) ?_;simp only[go_sem];refine wU ?_ ?_
     ·rfl
     ·exact q9
    | true=>
     refine wDF (hb:=(rfl)) (hk:=?_);refine wG tK ?_;have hle:=hno.ent;have hD0:mG g.n.entries 0=[]:=rfl;have hDs:=λi=>@qE g.n.entries i
     have hDn:=sI hnam;have hDe:mG g.n.entries g.n.entries.length=qD g.n.entries:=by unfold mG;rw[Zy]
     rw[if_pos rfl];generalize mG g.n.entries=D at *;generalize qD g.n.entries=DE at *;refine ay (le_empty 71 5 1 z8) ?_;simp only[go_sem];refine ZL (λi:Nat=>i≤g.n.entries.length) (λi=>g.n.entries.length-i) (λi=>(8,.osl 71 1 0 (D i).length)::(10,.any)::(62,.int .i64 i)::u0 63 10 [])
      (λi=>[(71,.cells 5 1 ((D i).map ZY))]) 0 z7 ?_ λi hi=>?_
     ·rw[hD0];simp only[go_sem];exact ZU w1 w1 w1
     simp only[go_sem];refine wG tK ?_;refine wD (λh=>?_) (λh=>?_)
     ·have hlt:i<g.n.entries.length:=by simp at h;omega
      have hg:(g.n.entries.map ZE).getD i []=ZE (g.n.entries.getD i default):=Fam.getD hlt;have hs1:=hDs i hlt;have hl1:=hDn i hi;have hl2:(g.n.entries.getD i default).name.length≤40:=hnam _ (by rw[Zo,Zp hlt];exact WR _);have how':=wi1 (i:=i) z7;generalize g.n.entries.getD i default=e at *;generalize D i=Di at *;have htq:List.take Di.length (Di.map ZY)=Di.map ZY:=Zt w7;refine wR ?_;refine wNq tK 4 ?_ ?_ z6 z6 QI
      ·simp[hg,ZE,hlt]
      refine wR ?_;refine wN tK 3 ?_;refine bk rfl (uv tK rfl rfl rfl rfl z8 z8 (by show dQ _ _ _ _ _ (.sl (e.name.map ZY))=_;simp only[go_sem,htq];exact rfl) ?_ z6) ?_
      ·simp[go_sem,htq];exact ⟨by omega,λx hx=>sZ (rv g.u) hx 71⟩
      refine wGq tK ?_ ?_ y7
      ·simp[htq,refs];refine ⟨by omega,λx hx=>sZ (rv g.u) hx 69,λrow hr y hy=>?_⟩
       rcases List.mem_append.1 (Z3 hr) with hr | hr<;>obtain ⟨b,_,rfl⟩:=Zv.1 hr<;>simp only[ZY,List.mem_cons,List.not_mem_nil,or_false] at hy<;>subst hy<;>simp[refs]
      refine ZB ⟨i+1,by omega,by omega,ZU ?_ ?_ ?_⟩
      ·simp[go_sem,hs1];omega
      ·simp[go_sem,hs1,htq,ZY];rw[Zt w7,WT]
      ·simp[go_sem]
     ·have e:i=g.n.entries.length:=by simp at h;omega
      subst e;rw[hDe];refine ZZ 71 rfl (mb _) ?_;simp only[go_sem];refine wG tK ?_;refine wU ?_ ?_
      ·simp[aU]
      ·exact q9
  ·have hr:mV x.kind g=cz g.e:=by unfold mV;rw[if_pos hge];rfl
   rw[hr];refine wDT (hb:=p6) (hk:=?_);refine wG tK ?_;refine ay (bl 4) ?_;simp only[go_sem];refine wU ?_ ?_
   ·rfl
   ·exact q9
 ·rw[if_pos hE] at hW;rw[hW];refine wDT (hb:=s6) (hk:=?_);refine wG tK ?_;refine ay (bl 4) ?_;simp only[go_sem];refine wU ?_ ?_
  ·rfl
  ·exact q9
variable {Fa:Prop}
theorem HJ {B T:Nat} (c:Cli) (s:Srv) (h:UInvF Fa B T ⟨c,s⟩) (hB:B≤30000000) (hT:T≤800000000000) (x:Step) (hp:x.path.length≤10000000) (hq:x.toPath.length≤10000000) (hk:x.kind≠8):ae Tryz.prog 42 [.agg (ZC c),.agg (ZQ s),.agg (ZX x)] [] (λr _=>r=zy (aw ⟨c,s⟩ x)):=by
 have hco:=uM c (h.cli.il z7);have hso:=pG s h.srv.hist.bW.small (h.srv.wh z7);have htq:List.take c.repair.length (c.repair.map ZR)=c.repair.map ZR:=Zt w7;unfold ZC pv at hco;unfold ZQ at hso;unfold ZC ZQ ZX;refine ZF tK (Tryz.func42) rfl (λC=>?_);simp only[Tryz.ntmps42,Tryz.results42,go_sem];refine wG tK ?_;refine ZZ 5 rfl (rfl) ?_;simp only[go_sem];refine ZW ZM ?_;refine ZS rfl ?_;refine sN tK 1 ?_;refine ff 0 rfl rfl z8 w1 ⟨_,Tryz.func41,by kernel_rfl,rfl⟩ w1 (hco) w1 z8 z8 w1 z6 z6 ?_;refine sN tK 1 ?_;refine sC Tryz.func40 (hf:=(hso)) (hk:=?_);refine sB tK ?_;refine sW tK ?_;refine sG tK ?_;refine sE ?_;refine wKd ?_
 try simp only[go_sem,gA,gB,gC]
 refine ZZ 901 rfl (eA _) ?_;simp only[go_sem,htq];refine ay (GC 19 900) ?_;refine wR ?_;refine wN tK 1 ?_;refine wR ?_;refine wN tK 2 ?_;refine gm ?_;refine ay (bl 10) ?_;simp only[go_sem];refine ml (λq:U×Reply=>aw ⟨c,s⟩ x=⟨q.1,q.2⟩) (λq=>(11,.any)::(12,.any)::(13,.any)::u0 22 84 []) (λq=>[(900,.cells 146 13 [cg q.1]),(10,.cells 42 4 [aU q.2])]) ?_ λq hS=>?_
 ·refine wG tK ?_
  by_cases h1:x.kind=1
  ·refine wDT (hb:=(by simp[h1])) (hk:=?_);refine wG tK ?_;have hS:aw ⟨c,s⟩ x=lh ⟨c,s⟩ x:=by unfold aw lh;rw[if_pos (.inl h1)]
   have hw:=zo ⟨c,s⟩ h hB hT x hp (.inl h1);rw[hS];generalize lh ⟨c,s⟩ x=w at *;unfold cuH cg ZX aU at hw;refine wDT (hb:=(by simp[h1])) (hk:=?_);refine wG tK ?_;refine wP [900] Tryz.func71 (hf:=(hw)) (hk:=?_);refine wG tK ?_;refine ZB ⟨(w.u,w.r),rfl,ZU ?_ ?_ ?_⟩
   ·simp[go_sem]
   ·simp[go_sem,cg,aU]
   ·simp[go_sem]
  refine wDF (hb:=QO) (hk:=?_);refine wG tK ?_
  by_cases h2:x.kind=2
  ·skip
   have hS:aw ⟨c,s⟩ x=lh ⟨c,s⟩ x:=by unfold aw lh;rw[if_pos (.inr h2)]
   have hw:=zo ⟨c,s⟩ h hB hT x hp (.inr h2);rw[hS];generalize lh ⟨c,s⟩ x=w at *;unfold cuH cg ZX aU at hw;refine wDT (hb:=(by simp[h2])) (hk:=?_);refine wG tK ?_;refine wP [900] Tryz.func71 (hf:=(hw)) (hk:=?_);refine wG tK ?_;refine ZB ⟨(w.u,w.r),rfl,ZU ?_ ?_ ?_⟩
   ·simp[go_sem]
   ·simp[go_sem,cg,aU]
   ·simp[go_sem]
  refine wDF (hb:=Q9) (hk:=?_);refine wG tK ?_
  by_cases h3:x.kind=3
  ·have hS:aw ⟨c,s⟩ x=⟨(bM ⟨c,s⟩ x.path x.data).u,cz (bM ⟨c,s⟩ x.path x.data).e⟩:=by unfold aw;rw[if_neg z7,if_pos h3]
   have hw:=Dn ⟨c,s⟩ h hB hT x.path x.data hp;rw[hS];generalize bM ⟨c,s⟩ x.path x.data=w at *;unfold cuH cg at hw;refine wDT (hb:=(by simp[h3])) (hk:=?_);refine wG tK ?_;refine wP [900] Tryz.func72 (hf:=(hw)) (hk:=?_);refine wG tK ?_;refine ZB ⟨(w.u,cz w.e),rfl,ZU ?_ ?_ ?_⟩
   ·simp[go_sem]
   ·simp[go_sem,cg,aU,cz]
   ·simp[go_sem]
  refine wDF (hb:=(by simpa using h3)) (hk:=?_);refine wG tK ?_
  by_cases h4:x.kind=4
  ·have hS:aw ⟨c,s⟩ x=⟨(ec ⟨c,s⟩ x.path).u,cz (ec ⟨c,s⟩ x.path).e⟩:=by unfold aw;rw[if_neg z7,if_neg h3,if_pos h4]
   have hM:ec ⟨c,s⟩ x.path=if (ak ⟨c,s⟩ x.path).e≠0 then ⟨(ak ⟨c,s⟩ x.path).e,(ak ⟨c,s⟩ x.path).u⟩ else b_ (ak ⟨c,s⟩ x.path).u (ke (ak ⟨c,s⟩ x.path).n.fid (ak ⟨c,s⟩ x.path).name) (-1):=rfl;have hd:=iK ⟨c,s⟩ h z7 z7 x.path hp;have hdi:=cU h x.path;have hnm:=ch ⟨c,s⟩ x.path;rw[hS];generalize ec ⟨c,s⟩ x.path=w at *;generalize ak ⟨c,s⟩ x.path=d at *;unfold cuH cg at hd;refine wDT (hb:=(by simp[h4])) (hk:=?_);refine wG tK ?_;refine wP [900] Tryz.func73 (hf:=(hd)) (hk:=?_);refine wGq tK ?_ ?_ w3
   ·simp[ZN]
   by_cases hde:d.e=0
   ·rw[if_neg p9] at hM;have hact:=nn d.u hdi z7 z7 (ke d.n.fid d.name) ⟨hnm,by simp[ke],by simp[ke]⟩ (-1);unfold cuH cg at hact;simp only[ZA,ke,List.map_nil] at hact hM;generalize b_ d.u ⟨2,0,d.n.fid,d.name,0,[],[]⟩ (-1)=y at *;rw[hM];refine wDT (hb:=p9) (hk:=?_);refine wG tK ?_;refine ay (zf 53 z6 (by simp only[go_sem,pf];exact rfl)) ?_;simp only[go_sem];refine wP [900] Tryz.func74 (hf:=(hact)) (hk:=?_);refine wG tK ?_;refine ZB ⟨(y.u,cz y.e),rfl,ZU ?_ ?_ ?_⟩
    ·simp[go_sem]
    ·simp[go_sem,cg,aU,cz]
    ·simp[go_sem]
   ·rw[if_pos p9] at hM;rw[hM];refine wDF (hb:=p9) (hk:=?_);refine wG tK ?_;refine ZB ⟨(d.u,cz d.e),rfl,ZU ?_ ?_ ?_⟩
    ·simp[go_sem]
    ·simp[go_sem,cg,aU,cz]
    ·simp[go_sem]
  refine wDF (hb:=(by simpa using h4)) (hk:=?_);refine wG tK ?_
  by_cases h5:x.kind=5
  ·have hS:aw ⟨c,s⟩ x=⟨(bH ⟨c,s⟩ x.path).u,cz (bH ⟨c,s⟩ x.path).e⟩:=by unfold aw;rw[if_neg z7,if_neg h3,if_neg h4,if_pos h5]
   have hw:=yb ⟨c,s⟩ h hB hT x.path hp;rw[hS];generalize bH ⟨c,s⟩ x.path=w at *;unfold cuH cg at hw;refine wDT (hb:=(by simp[h5])) (hk:=?_);refine wG tK ?_;refine wP [900] Tryz.func75 (hf:=(hw)) (hk:=?_);refine wG tK ?_;refine ZB ⟨(w.u,cz w.e),rfl,ZU ?_ ?_ ?_⟩
   ·simp[go_sem]
   ·simp[go_sem,cg,aU,cz]
   ·simp[go_sem]
  refine wDF (hb:=(by simpa using h5)) (hk:=?_);refine wG tK ?_
  by_cases h6:x.kind=6
  ·have hS:aw ⟨c,s⟩ x=⟨(dm ⟨c,s⟩ x.path x.toPath).u,cz (dm ⟨c,s⟩ x.path x.toPath).e⟩:=by unfold aw;rw[if_neg z7,if_neg h3,if_neg h4,if_neg h5,if_pos h6]
   have hw:=E0 ⟨c,s⟩ h hB hT x.path x.toPath hp hq;rw[hS];generalize dm ⟨c,s⟩ x.path x.toPath=w at *;unfold cuH cg at hw;refine wDT (hb:=(by simp[h6])) (hk:=?_);refine wG tK ?_;refine wP [900] Tryz.func76 (hf:=(hw)) (hk:=?_);refine wG tK ?_;refine ZB ⟨(w.u,cz w.e),rfl,ZU ?_ ?_ ?_⟩
   ·simp[go_sem]
   ·simp[go_sem,cg,aU,cz]
   ·simp[go_sem]
  refine wDF (hb:=(by simpa using h6)) (hk:=?_);refine wG tK ?_
  by_cases h7:x.kind=7
  ·have hS:aw ⟨c,s⟩ x=⟨⟨{ c with away:=true },s⟩,cz 0⟩:=by unfold aw;rw[if_neg z7,if_neg h3,if_neg h4,if_neg h5,if_neg h6,if_pos h7]
   rw[hS];refine wDT (hb:=(by simp[h7])) (hk:=?_);refine wG tK ?_;refine ZB ⟨(⟨{ c with away:=true },s⟩,cz 0),rfl,ZU ?_ ?_ ?_⟩
   ·simp[go_sem]
   ·simp[go_sem,cg,aU,cz]
   ·simp[go_sem]
  refine wDF (hb:=(by simpa using h7)) (hk:=?_);refine wG tK ?_;refine wDF (hb:=Zl) (hk:=?_);refine wG tK ?_
  by_cases h9:x.kind=9
  ·have hS:aw ⟨c,s⟩ x=⟨(da ⟨c,s⟩ x.path x.n).u,cz (da ⟨c,s⟩ x.path x.n).e⟩:=by unfold aw;rw[if_neg z7,if_neg h3,if_neg h4,if_neg h5,if_neg h6,if_neg h7,if_neg hk,if_pos h9]
   have hw:=Ab ⟨c,s⟩ h x.path hp x.n;rw[hS];generalize da ⟨c,s⟩ x.path x.n=w at *;unfold cuH cg at hw;refine wDT (hb:=(by simp[h9])) (hk:=?_);refine wG tK ?_;refine wP [900] Tryz.func78 (hf:=(hw)) (hk:=?_);refine wG tK ?_;refine ZB ⟨(w.u,cz w.e),rfl,ZU ?_ ?_ ?_⟩
   ·simp[go_sem]
   ·simp[go_sem,cg,aU,cz]
   ·simp[go_sem]
  refine wDF (hb:=(by simpa using h9)) (hk:=?_);refine wG tK ?_
  by_cases h10:x.kind=10
  ·have hS:aw ⟨c,s⟩ x=if c.away=true then ⟨⟨c,s⟩,cz 12⟩ else ⟨(ir ⟨c,s⟩).u,⟨0,(ir ⟨c,s⟩).n,0,[]⟩⟩:=by unfold aw;rw[if_neg z7,if_neg h3,if_neg h4,if_neg h5,if_neg h6,if_neg h7,if_neg hk,if_neg h9,if_pos h10]
   refine wDT (hb:=(by simp[h10])) (hk:=?_);refine wG tK ?_;cases ha:c.away with
   | true=>
    have hw:=yC ⟨c,s⟩ h ha;rw[if_pos ha] at hS;rw[hS];unfold cuH cg at hw;rw[show (⟨c,s⟩:U).c.away=true from ha] at hw;refine wP [900] Tryz.func79 (hf:=(hw)) (hk:=?_);refine wG tK ?_;refine ZB ⟨(⟨c,s⟩,cz 12),rfl,ZU ?_ ?_ ?_⟩
    ·simp[go_sem]
    ·simp[go_sem,cg,aU,cz,ha]
    ·simp[go_sem]
   | false=>
    have hw:=yD ⟨c,s⟩ h ha hB hT;rw[if_neg Qj] at hS;rw[hS];generalize ir ⟨c,s⟩=w at *;unfold cuH cg at hw;rw[show (⟨c,s⟩:U).c.away=false from ha] at hw;refine wP [900] Tryz.func79 (hf:=(hw)) (hk:=?_);refine wG tK ?_;refine ZB ⟨(w.u,⟨0,w.n,0,[]⟩),rfl,ZU ?_ ?_ ?_⟩
    ·simp[go_sem]
    ·simp[go_sem,cg,aU]
    ·simp[go_sem]
  have hS:aw ⟨c,s⟩ x=⟨⟨c,s⟩,cz 1⟩:=by unfold aw;rw[if_neg z7,if_neg h3,if_neg h4,if_neg h5,if_neg h6,if_neg h7,if_neg hk,if_neg h9,if_neg h10]
  rw[hS];refine wDF (hb:=(by simpa using h10)) (hk:=?_);refine wG tK ?_;refine ZB ⟨(⟨c,s⟩,cz 1),rfl,ZU ?_ ?_ ?_⟩
  ·simp[go_sem]
  ·simp[go_sem,cg,aU,cz]
  ·simp[go_sem]
 obtain ⟨v,r⟩:=q;simp only at hS;rw[hS];simp only[go_sem,cg,aU];refine wG tK ?_;refine ZW ZM ?_;refine ZS rfl ?_;refine sN tK 9 ?_;refine sT tK ?_;refine sT tK ?_;refine sT tK ?_;refine sE ?_;refine wKd ?_
 try simp only[go_sem,gA,gB,gC]
 refine wG tK ?_;refine wT ?_;rfl
variable {Fa:Prop}
theorem G4 {B T:Nat} (c:Cli) (s:Srv) (h:UInvF Fa B T ⟨c,s⟩) (hB:B≤30000000) (x:Step) (hk:x.kind=8):ae Tryz.prog 42 [.agg (ZC c),.agg (ZQ s),.agg (ZX x)] [] (λr _=>r=zy (aw ⟨c,s⟩ x)):=by
 have hco:=uM c (h.cli.il z7);have hso:=pG s h.srv.hist.bW.small (h.srv.wh z7);have hS:aw ⟨c,s⟩ x=⟨gR ⟨c,s⟩,⟨0,bC (aJ ⟨c,s⟩),((aJ ⟨c,s⟩).length-bC (aJ ⟨c,s⟩):Nat),[]⟩⟩:=by
  unfold aw;rw[if_neg z7,if_neg z7,if_neg z7,if_neg z7,if_neg z7,if_neg z7,if_pos hk]
 have hw:=Ea ⟨c,s⟩ h z7;rw[hS];generalize (aJ ⟨c,s⟩).length-bC (aJ ⟨c,s⟩)=m2 at *;generalize bC (aJ ⟨c,s⟩)=m1 at *;generalize gR ⟨c,s⟩=w at *;unfold G3 oU BF cg at hw;unfold ZC pv at hco;unfold ZQ at hso;unfold ZC ZQ ZX;refine ZF tK (Tryz.func42) rfl (λC=>?_);simp only[Tryz.ntmps42,Tryz.results42,go_sem];refine wG tK ?_;refine ZZ 5 rfl (rfl) ?_;simp only[go_sem];refine ZW ZM ?_;refine ZS rfl ?_;refine sN tK 1 ?_;refine ff 0 rfl rfl z8 w1 ⟨_,Tryz.func41,by kernel_rfl,rfl⟩ w1 (hco) w1 z8 z8 w1 z6 z6 ?_;refine sN tK 1 ?_;refine sC Tryz.func40 (hf:=(hso)) (hk:=?_);refine sB tK ?_;refine sW tK ?_;refine sG tK ?_;refine sE ?_;refine wKd ?_
 try simp only[go_sem,gA,gB,gC]
 refine wG tK ?_;refine ay (bl 10) ?_;simp only[go_sem];refine wDF (hb:=QD) (hk:=?_);refine wG tK ?_;refine wDF (hb:=QD) (hk:=?_);refine wG tK ?_;refine wDF (hb:=QD) (hk:=?_);refine wG tK ?_;refine wDF (hb:=QD) (hk:=?_);refine wG tK ?_;refine wDF (hb:=QD) (hk:=?_);refine wG tK ?_;refine wDF (hb:=QD) (hk:=?_);refine wG tK ?_;refine wDF (hb:=QD) (hk:=?_);refine wG tK ?_;refine wDT (hb:=QD) (hk:=?_);refine wG tK ?_;refine bk rfl (yx rfl z8 w1 ⟨_,Tryz.func77,by kernel_rfl,rfl⟩ [19] [901] w4 w1 w7 w1 w1 w1 w1 (hw) w5) ?_;refine wG tK ?_;refine ZW ZM ?_;refine ZS rfl ?_;refine sN tK 9 ?_;refine sT tK ?_;refine sT tK ?_;refine sT tK ?_;refine sE ?_;refine wKd ?_
 try simp only[go_sem,gA,gB,gC]
 refine wG tK ?_;refine wT ?_;rfl
theorem G2 {B T:Nat} (c:Cli) (s:Srv) (h:UInvF Fa B T ⟨c,s⟩) (hB:B≤30000000) (hT:T≤800000000000) (x:Step) (hp:x.path.length≤10000000) (hq:x.toPath.length≤10000000):ae Tryz.prog 42 [.agg (ZC c),.agg (ZQ s),.agg (ZX x)] [] (λr _=>r=zy (aw ⟨c,s⟩ x)):=by
 by_cases hk:x.kind=8
 ·exact G4 c s h hB x hk
 ·exact HJ c s h hB hT x hp hq hk
def pn (t:List Node) (cs:List Cli) (i:Nat):List Cli:=(cs.take i).map (bp t)++cs.drop i
theorem C4 (t:List Node) (cs:List Cli) (i:Nat):(pn t cs i).length=cs.length:=by
 unfold pn;rw[List.length_append,List.length_map,Z9,Wa];omega
theorem C3 {t:List Node} {cs:List Cli} {i:Nat} (h:i<cs.length):(pn t cs i).getD i default=cs.getD i default:=by
 unfold pn;rw[Zo,Z8 (by rw[List.length_map,Z9];omega),List.length_map,Z9,Wo z7,WY,WJ,Zo];rfl
theorem AS {t:List Node} {cs:List Cli} {i:Nat} (h:i<cs.length):pn t cs (i+1)=(pn t cs i).set i (bp t (cs.getD i default)):=by
 unfold pn;have hl:((cs.take i).map (bp t)).length=i:=by rw[List.length_map,Z9];omega
 rw[ZT h,List.map_append,List.drop_eq_getElem_cons h,List.set_append_right _ _ z7,hl,WY,List.set_cons_zero,WT];rfl
theorem WInv.il {B T:Nat} {w:Wor} (h:WInv B T w) (hB:B≤30000000):∀c,c∈w.cs->SmallC c:=λc hc=>(h.cli c hc).il z7
theorem Gq {B T:Nat} (w:Wor) (h:WInv B T w) (hB:B≤30000000) (x:Step) (hb:x.client<0\/x.client≥w.cs.length):ae Tryz.prog 28 [.agg (bo w),.agg (ZX x)] [] (λr _=>r=oo (aq w x)):=by
 have h3:=h.len;have hwo:=Gs w h.srv.hist.bW.small (h.srv.wh z7) (h.il hB) z7;have hW:aq w x=⟨w,cz 6⟩:=by unfold aq;rw[if_pos hb]
 rw[hW];unfold bo at hwo;unfold oo bo ZX;refine ZF tK (Tryz.func28) rfl (λC=>?_);simp only[Tryz.ntmps28,Tryz.results28,go_sem];refine wR ?_;refine wN tK 4 ?_;refine wR ?_;refine wN tK 11 ?_;refine aV 22 z6 (λc22 h22=>?_);simp only[go_sem];have hc:c22=true:=by
  rw[←h22]
  by_cases h1:x.client<0
  ·simp[h1]
  ·simp[h1];omega
 clear h22;refine wG tK ?_;refine wDT (hb:=(hc)) (hk:=?_);refine wG tK ?_;refine wC Tryz.func23 (hf:=(hwo)) (hk:=?_);refine wG tK ?_;refine ay (bl 5) ?_;simp only[go_sem];refine wT ?_;rfl
theorem Hy {B T:Nat} (w:Wor) (h:WInv B T w) (hB:B≤30000000) (hT:T≤800000000000) (x:Step) (hp:x.path.length≤10000000) (hq:x.toPath.length≤10000000) (hb:¬(x.client<0\/x.client≥w.cs.length)):ae Tryz.prog 28 [.agg (bo w),.agg (ZX x)] [] (λr _=>r=oo (aq w x)):=by
 have h3:=h.len;obtain ⟨k,cl,n,path,toPath,data⟩:=x;simp only at hb hp hq;obtain ⟨j,rfl⟩:∃j:Nat,cl=(j:Int):=⟨cl.toNat,by omega⟩;have hj:j<w.cs.length:=by omega
 have hu:=h.at hj;have hwo:=Dk w h.srv.hist.bW.small (h.srv.wh z7) (h.il hB) z7;have hst:=G2 (w.cs.getD j default) w.s hu hB hT ⟨k,j,n,path,toPath,data⟩ hp hq;have hinv:=nf hu ⟨k,j,n,path,toPath,data⟩;have hW:aq w ⟨k,j,n,path,toPath,data⟩=⟨⟨(aw ⟨w.cs.getD j default,w.s⟩ ⟨k,j,n,path,toPath,data⟩).u.s,(w.cs.set j (aw ⟨w.cs.getD j default,w.s⟩ ⟨k,j,n,path,toPath,data⟩).u.c).map (bp (aw ⟨w.cs.getD j default,w.s⟩ ⟨k,j,n,path,toPath,data⟩).u.s.tree)⟩,(aw ⟨w.cs.getD j default,w.s⟩ ⟨k,j,n,path,toPath,data⟩).r⟩:=by
  unfold aq;rw[if_neg hb];rfl
 have hcx:∀i,i<w.cs.length->SmallK (w.cs.getD i default).cache:=λi hi=>(h.il hB _ (YG hi)).cache
 have hg0:(w.cs.map ZC).getD j []=ZC (w.cs.getD j default):=Fam.getD hj;rw[hW];generalize w.cs.getD j default=c0 at hst hinv hg0 ⊢;generalize aw ⟨c0,w.s⟩ ⟨k,j,n,path,toPath,data⟩=g at *;have hcg:SmallK g.u.c.cache:=(hinv.cli.il z7).cache;have hts:=hinv.srv.hist.bW.small;have hfr0:=λl hl=>qm l g.u.s.tree hl hts
 -- the clients, with the one that stepped
 have hcs:∀i,i<(w.cs.set j g.u.c).length->SmallK ((w.cs.set j g.u.c).getD i default).cache:=λi hi=>by
  rw[WD] at hi;rw[Zo,Z7]
  by_cases e:j=i
  ·subst e;rw[if_pos rfl,if_pos hi];exact hcg
  ·rw[if_neg e,←Zo];exact hcx i hi
 have hsetj:(w.cs.map ZC).set j (ZC g.u.c)=(w.cs.set j g.u.c).map ZC:=(List.map_set).symm;have hlen:(w.cs.set j g.u.c).length=w.cs.length:=WD;have hfin:pn g.u.s.tree (w.cs.set j g.u.c) (w.cs.set j g.u.c).length=(w.cs.set j g.u.c).map (bp g.u.s.tree):=by unfold pn;rw[Zy,List.drop_length,List.append_nil]
 rw[←hfin,hlen];clear hfin;generalize w.cs.set j g.u.c=cs at *;have hD0:pn g.u.s.tree cs 0=cs:=by unfold pn;simp
 have hDl:=λi=>@C4 g.u.s.tree cs i
 have hDg:=λi=>@C3 g.u.s.tree cs i
 have hDs:=λi=>@AS g.u.s.tree cs i
 generalize pn g.u.s.tree cs=D at *;unfold zy ZC ZQ ZX aU at hst;simp only[ZC] at hsetj;have hg1:=hg0;simp only[Zo,Zr,ZC] at hg1;unfold bo at hwo;unfold oo bo ZX aU;refine ZF tK (Tryz.func28) rfl (λC=>?_);simp only[Tryz.ntmps28,Tryz.results28,go_sem];refine wR ?_;refine wN tK 4 ?_;refine wR ?_;refine wN tK 11 ?_;refine aV 22 z6 (λc22 h22=>?_);simp only[go_sem];have hc:c22=false:=by
  rw[←h22];have h1:¬((j:Int)<0):=by omega
  simp[h1];omega
 clear h22;refine wG tK ?_;refine wDF (hb:=(hc)) (hk:=?_);refine wG tK ?_;refine wCG [] 100 Tryz.func23 (hf:=(hwo)) (hk:=?_);refine wG tK ?_;refine ZW ZM ?_;refine ZS rfl ?_;refine sNq tK 9 ?_ ?_ z6 z6 (by simp only[go_sem,hg0,ZC];try exact rfl)
 ·simp[hg0,hj,ZC]
 refine sC Tryz.func42 (hf:=(hst)) (hk:=?_);refine sN tK 4 ?_;refine sW tK ?_;refine sW tK ?_;refine sW tK ?_;refine sT tK ?_;refine sT tK ?_;refine sT tK ?_;refine sE ?_;refine wKd ?_
 try simp only[go_sem,gA,gB,gC]
 refine wG tK ?_;refine ZW ZM ?_;refine ZS rfl ?_;refine sNq tK 7 ?_ ?_
 ·simp[hj]
 refine cY tK rfl rfl z8 z8 z8 u2 z6 ?_ z6 z6 z6 ?_
 ·simp[hj]
 refine sN tK 1 ?_;refine sT tK ?_;refine sE ?_;refine wKd ?_
 try simp only[go_sem,gA,gB,gC]
 refine wG tK ?_;refine ZL (λi:Nat=>i≤w.cs.length) (λi=>w.cs.length-i) (λi=>(10,.any)::(11,.any)::(53,.int .i64 i)::u0 54 22 [])
  (λi=>[(122,.cells 47 10 ((D i).map ZC))]) 0 z7 ?_ λi hi=>?_
 ·rw[hD0];simp only[go_sem];exact ZU w1 (by simp[go_sem,hg1,hsetj]) w1
 simp only[go_sem];refine wG tK ?_;refine wD (λh=>?_) (λh=>?_)
 ·have hlt:i<cs.length:=by simp at h;omega
  have hw1:=wi1 (i:=i) z7;have hDl:=hDl i;have hat:=hDg i hlt;have aB:=hDs i hlt;have hcc:=hcs i hlt;generalize D i=E at *;have hE:i<E.length:=by omega
  have hg:(E.map ZC).getD i []=ZC (E.getD i default):=Fam.getD hE;rw[hat] at hg;generalize cs.getD i default=c at *;have hg2:=hg;simp only[Zo,Zr,ZC] at hg2;have hs1:(E.map ZC).set i (ZC (bp g.u.s.tree c))=(D (i+1)).map ZC:=by rw[aB];exact (List.map_set).symm
  have hl1:(D (i+1)).length=E.length:=by rw[aB,WD]
  refine wGq tK ?_ ?_ v8
  ·simp[hg,ZC,hE];omega
  cases ha:c.away with
  | true=>
   have hfw:bp g.u.s.tree c=c:=by unfold bp;simp[ha]
   rw[hfw,←hat,Zo,Zp hE,Option.getD_some,List.set_getElem_self] at aB;refine wDF (hb:=Qj) (hk:=?_);refine wG tK ?_ j9 QR;refine ZB ⟨i+1,by omega,by omega,ZU ?_ ?_ ?_⟩
   ·simp[go_sem]
   ·simp[go_sem,aB]
   ·simp[go_sem]
  | false=>
   have hfw:bp g.u.s.tree c={ c with cache:=c.cache.filter λk=>!db g.u.s.tree k }:=by unfold bp qj;simp[ha]
   rw[hfw] at hs1;simp only[ZC] at hs1;refine wDT (hb:=Qj) (hk:=?_);refine wG tK ?_;refine ZW ZM ?_;refine ZS rfl ?_;refine sNq tK 7 ?_ ?_ z6 z6 v8
   ·simp[hg,ZC,hE]
   refine sC Tryz.func43 (hf:=(hfr0 _ hcc)) (hk:=?_);refine sNq tK 2 ?_ ?_ z6 z6 v8
   ·simp[hg,ZC,hE]
   refine cY tK rfl rfl z8 z8 z8 u2 z6 ?_ z6 z6 z6 ?_
   ·simp[hg,ZC,hE]
   refine sE ?_;refine wKd ?_
   try simp only[go_sem,gA,gB,gC]
   refine wG tK ?_ j9 QR;refine ZB ⟨i+1,by omega,by omega,ZU ?_ ?_ ?_⟩
   ·simp[go_sem]
   ·simp[go_sem,hg2,hs1]
   ·simp[go_sem]
 ·have e:i=w.cs.length:=by simp at h;omega
  subst e;have hZ:=hDl w.cs.length;generalize D w.cs.length=Z at *;have hle:w.cs.length≤Z.length:=by omega
  have htk:List.take w.cs.length (Z.map ZC)=Z.map ZC:=Zt y9;refine ZZ 122 rfl (gT _) ?_;simp only[go_sem,hle,if_true,htk];refine wG tK ?_;refine ZW ZM ?_;refine ZS rfl ?_;refine sN tK 2 ?_;refine sT tK ?_;refine sT tK ?_;refine sE ?_;refine wKd ?_
  try simp only[go_sem,gA,gB,gC]
  refine wG tK ?_;refine wT ?_;rfl
theorem Hz {B T:Nat} (w:Wor) (h:WInv B T w) (hB:B≤30000000) (hT:T≤800000000000) (x:Step) (hp:x.path.length≤10000000) (hq:x.toPath.length≤10000000):ae Tryz.prog 28 [.agg (bo w),.agg (ZX x)] [] (λr _=>r=oo (aq w x)):=by
 by_cases hb:x.client<0\/x.client≥w.cs.length
 ·exact Gq w h hB x hb
 ·exact Hy w h hB hT x hp hq hb
theorem Co (id:Nat) {C:Ctx} {σ:St} {b:Blk} {H':List (Nat×Blk)} (hb:aa σ.hp id=some b) (hH:c_ σ.hp id=H'):Le C σ ⟨σ.tm,(id,b)::H'⟩:=by
 subst hH;refine fD rfl (λ_=>rfl) λj=>?_
 simp only[aa,bg]
 by_cases h:id=j
 ·subst h;rw[if_pos rfl];exact hb
 ·rw[if_neg h,if_neg h]
noncomputable def lA (rooms:List Int) (l:List Step):AV:=.tup [.sl ((ib rooms l).map ah),.int .i64 (gz rooms l)]
theorem BZ (rooms:List Int) (hr:rooms.length≤100000000) (l:List Step) (hl:l.length≤100000000) (he:gz rooms l≠0):ae Tryz.prog 30 [.sl (rooms.map ZI),.sl (l.map ZX)] [] (λr _=>r=lA rooms l):=by
 have hn:=zG rooms hr;unfold qM at hn;have hE:gz rooms l=if bc rooms≠0 then bc rooms else if 80<l.length then 5 else 0:=rfl;unfold lA ib;rw[if_neg he];generalize gz rooms l=e at *;generalize hW0:(if bc rooms=0 then fJ rooms else zJ)=W0 at *;generalize bc rooms=E at *;unfold bo at hn;refine ae.ie (X:=.tup [.nils,.int .i64 e]) ?_ rfl;refine ZF tK (Tryz.func30) rfl (λC=>?_);simp only[Tryz.ntmps30,Tryz.results30,go_sem];refine wG tK ?_;refine wC Tryz.func17 (hf:=(hn)) (hk:=?_);refine wG tK ?_
 by_cases h0:E=0
 ·subst h0;rw[if_neg w7] at hE;have h80:80<l.length:=by
   by_cases h8:80<l.length
   ·exact h8
   ·rw[if_neg h8] at hE;exact absurd hE he
  rw[if_pos h80] at hE;subst hE;refine wDF (hb:=w7) (hk:=?_);refine wG tK ?_;refine wDT (hb:=y9) (hk:=?_);refine wG tK ?_;refine wT ?_;rfl
 ·rw[if_pos h0] at hE;subst hE;refine wDT (hb:=(by simp[h0])) (hk:=?_);refine wG tK ?_;refine wT ?_;rfl
theorem zU (rooms:List Int) (hr:rooms.length≤100000000) (l:List Step) (hl:StepsOK l) (he:gz rooms l=0):ae Tryz.prog 30 [.sl (rooms.map ZI),.sl (l.map ZX)] [] (λr _=>r=lA rooms l):=by
 have hn:=zG rooms hr;unfold qM at hn;obtain ⟨hE,hll⟩:=jv he;unfold lA ib;rw[if_pos he,he];rw[hE,if_pos rfl] at hn;have hrl:rooms.length≤3:=by
  unfold bc at hE;split at hE
  ·cases hE
  ·omega
 have hG:=λi hi=>ow hE l i hi
 have hS:=λi (hi:i≤l.length)=>mq hE l hll i hi
 have hN:=xB hE l;have hs:=λi=>@oz rooms l i
 have h0:cd rooms l 0=⟨fJ rooms,⟨[],List.replicate rooms.length []⟩,0⟩:=rfl;rw[show cI rooms l=cd rooms l l.length by unfold cd;rw[Zy]];generalize cd rooms l=F at *;unfold bo at hn;refine ZF tK (Tryz.func30) rfl (λC=>?_);simp only[Tryz.ntmps30,Tryz.results30,go_sem];refine wG tK ?_;refine wC Tryz.func17 (hf:=(hn)) (hk:=?_);refine wG tK ?_;refine wDF (hb:=w7) (hk:=?_);refine wG tK ?_;refine wDF (hb:=y9) (hk:=?_);refine wR ?_;refine wN tK 2 ?_;refine bk rfl (ru tK rfl rfl rfl k8 (n:=(rooms.length)) z8 (by simp[go_sem]<;>omega) z7 z8) ?_;refine wG tK ?_;refine ay (bl 30 (rows':=(List.replicate rooms.length ([]:List Nat)).map aD) z6 (by rw[List.map_replicate,List.map_replicate];rfl)) ?_;simp only[go_sem];refine ay (le_empty 901 76 4 z8) ?_;simp only[go_sem];refine ay (kN 32 ([[.osl 901 4 0 0,.osl 30 1 0 rooms.length]]) z6 Za) ?_;refine ay (Co 30 z6 j0) ?_;simp only[go_sem];refine ZL (λi:Nat=>i≤l.length) (λi=>l.length-i) (λi=>u0 9 24 ((35,.int .i64 i)::u0 36 75 []))
  (λi=>[(30,.cells 40 1 ((F i).b.logs.map aD)),(901,.cells 76 4 ((F i).b.fates.map ah)),(32,.cells 103 2 [[.osl 901 4 0 (F i).b.fates.length,.osl 30 1 0 (F i).b.logs.length]]),(6,.cells 35 4 [bo (F i).w])]) 0 z7 ?_ λi hi=>?_
 ·unfold bo;rw[h0];simp only[go_sem];exact ZU w1 w1 w1
 unfold bo;simp only[go_sem];refine wG tK ?_;refine wD (λh=>?_) (λh=>?_)
 ·have hlt:i<l.length:=by simp at h;omega
  have hg:(l.map ZX).getD i []=ZX (l.getD i default):=Fam.getD hlt;have how':=wi1 (i:=i) z7;have hpx:=hl.path (l.getD i default) (YG hlt);have hs1:=hs i hlt;obtain ⟨hgk,hgi⟩:=hG i hi;have hS1:=hS i hi;have hN1:=hN i;rw[hgi] at hs1;generalize l.getD i default=x at *;generalize F i=g at *;obtain ⟨w,b,n⟩:=g;simp only at hgi hs1 hS1 hN1;subst hgi;have hI:=hgk.w;have hId:=hgk.ids;have hL:=hgk.li;simp only at hI hId hL;have hw:=Hz w hI z7 z7 x hpx.1 hpx.2;unfold oo bo ZX aU at hw;refine wR ?_;refine wNq tK 4 ?_ ?_ z6 z6 (by simp only[go_sem,hg,ZX];try exact rfl)
  ·simp[hg,ZX,hlt]
  refine wG tK ?_;refine wC Tryz.func28 (hf:=(hw)) (hk:=?_);refine wR ?_;refine wN tK 7 ?_;refine wR ?_;refine wN tK 4 ?_;refine wN tK 7 ?_;refine aV 56 z6 (λc56 h56=>?_);simp only[go_sem];have hc56:c56=decide (¬(x.client<0\/x.client≥w.cs.length)):=by
   rw[←h56]
   by_cases h1:x.client<0
   ·simp[h1]
    try omega
   ·by_cases h2:x.client≥w.cs.length
    ·simp[h1,h2]
    ·simp[h1,h2]
     try omega
  clear h56
  by_cases hb:x.client<0\/x.client≥w.cs.length
  ·have hF:cx w n x b=b:=by unfold cx;rw[if_pos hb]
   rw[hF] at hs1;refine wG tK ?_;refine wDF (hb:=(by rw[hc56];simp[hb])) (hk:=?_);refine wG tK ?_ y7 j8;refine ZB ⟨n+1,by omega,by omega,ZU ?_ ?_ ?_⟩
   ·simp[go_sem,hs1]
   ·simp[go_sem,hs1,bo]
   ·simp[go_sem,hs1]
  ·obtain ⟨j,hcl⟩:∃j:Nat,x.client=(j:Int):=⟨x.client.toNat,by omega⟩;have hj:j<w.cs.length:=by omega
   have hjn:x.client.toNat=j:=by omega
   have hwc:=pI hb;rw[hjn] at hwc;have hgr:=hI.at hj;have hI2:=iR hI x;have hls:=(ur ⟨w.cs.getD j default,w.s⟩ x).trans (qk (aw ⟨w.cs.getD j default,w.s⟩ x).u.s.tree _);rw[←hwc.at_] at hls;have hylen:=hwc.len;have hF:cx w n x b=if x.kind=8 then oq j (aJ ⟨w.cs.getD j default,w.s⟩) b else if (w.cs.getD j default).away=true then bm n j (w.cs.getD j default) ((aq w x).w.cs.getD j default) b else gq n ((aq w x).w.s.past.drop w.s.past.length) b:=by
    unfold cx;rw[if_neg hb,hjn]
   have hyc:=hI2.cli ((aq w x).w.cs.getD j default) (YG (by rw[hylen];exact hj));have hyp:=hI2.srv.len;have hgp:w.s.past.length≤(aq w x).w.s.past.length:=by
    obtain ⟨q,hq⟩:=(lQ hgr x).past;have h1:=zH hb;rw[hjn] at h1;rw[h1,hq,List.length_append];exact Nat.le_add_right _ _
   rw[hF] at hs1;clear hF hwc;generalize aq w x=y at *;have hg0:(w.cs.map ZC).getD j []=ZC (w.cs.getD j default):=Fam.getD hj;have hg1:(y.w.cs.map ZC).getD j []=ZC (y.w.cs.getD j default):=Fam.getD z7;have hnum:=hN1 j hj;have hidc:=hId.ids (w.cs.getD j default) (YG hj);have hle:=hL.each j hj;have hla:=λk hk=>(hL.at_ j hj k hk).1
   have hll1:=hL.len;have hcs3:=hI.len;have hwp:=hI.srv.len;generalize hc0:w.cs.getD j default=c0 at *;generalize y.w.cs.getD j default=c1 at *;have hsc:=hgr.cli.il z7;have hfit:∀r,r∈c0.log->ActFit r.act:=λr hr=>(hgr.cli.logS r hr).fit
   have hlog:=hgr.cli.log;simp only at hlog;refine wG tK ?_;refine wDT (hb:=(by rw[hc56];simp[hb])) (hk:=?_);simp only[hcl];refine wG tK ?_;refine ZW ZM ?_;refine ZS rfl ?_;refine sNq tK 12 ?_ ?_ z6 z6 (by simp only[go_sem,hg0,hg1];try exact rfl)
   ·simp[hg0,hg1,hj,hylen,ZC]
   refine sE ?_;refine wKd ?_
   try simp only[go_sem,gA,gB,gC]
   refine wG tK ?_
   by_cases h8:x.kind=8
   ·rw[if_pos h8] at hs1;have htk:=zE w.s (hI.srv.mono z7) (j:Int) c0.log hsc.log z7 hfit;have hvl:(aJ ⟨c0,w.s⟩).length=c0.log.length:=(JInv.qz hI.srv.hist c0.number w.s.next c0.log hfit).vlen;have hbk:=λG Y N=>Cm b j (aJ ⟨c0,w.s⟩) z7 z7 z7 z7 hla z7 G Y N
    unfold aJ at hbk hs1 hvl;generalize (bX w.s.tree w.s.next ((w.s.past.length+1:Nat):Int) c0.log).vs=vs at *;generalize kD w.s (j:Int) c0.log=s2 at *;unfold ZQ at htk;unfold bkH bkB at hbk;refine wDT (hb:=(by simp[h8])) (hk:=?_);refine wG tK ?_;refine ZW ZM ?_;refine ZS rfl ?_;refine sN tK 8 ?_ z6 z6 (by simp only[go_sem,ZC];try exact rfl) (by simp[go_sem,ZC]);refine sC Tryz.func45 (hf:=(htk)) (hk:=?_);refine sN tK 3 ?_;refine sW tK ?_;refine sT tK ?_;refine sG tK ?_;refine sE ?_;refine wKd ?_
    try simp only[go_sem,gA,gB,gC]
    refine wG tK ?_;refine bk rfl (lR rfl z8 w1 ⟨_,Tryz.func46,by kernel_rfl,rfl⟩ [32] [30,901] [30,901] w4 w1 w1 w7 w1 w1 w1 w1 (hbk) w5) ?_;refine wG tK ?_ y7 j8;refine ZB ⟨n+1,by omega,by omega,ZU ?_ ?_ ?_⟩
    ·simp[go_sem,hs1]
    ·simp[go_sem,hs1,bo]
    ·simp[go_sem,hs1]
   ·rw[if_neg h8] at hs1;refine wDF (hb:=(by simp[h8])) (hk:=?_);refine wG tK ?_ (by simp only[go_sem,ZC];try exact rfl) (by simp[go_sem,ZC])
    by_cases ha:c0.away=true
    ·rw[if_pos ha] at hs1;have hlg:=λG Y N=>xQ b n j c0 c1 hnum z7 z7 hle hla z7 hidc hls z7 (by have:=hyc.log;omega) (by have:=hyc.logged;omega) G Y N
     unfold ZC bkH bkB at hlg;refine wDT (hb:=Qj) (hk:=?_);refine wG tK ?_;refine bk rfl (lR rfl z8 w1 ⟨_,Tryz.func47,by kernel_rfl,rfl⟩ [32] [30,901] [30,901] w4 w1 w1 w7 w1 w1 w1 w1 (hlg) w5) ?_;refine wG tK ?_ y7 j8;refine ZB ⟨n+1,by omega,by omega,ZU ?_ ?_ ?_⟩
     ·simp[go_sem,hs1]
     ·simp[go_sem,hs1,bo]
     ·simp[go_sem,hs1]
    ·rw[if_neg ha] at hs1;have hgw:=λG Y N=>Ao b n (y.w.s.past.drop w.s.past.length) (by rw[Wa];omega) z7 G Y N
     rw[List.map_drop] at hgw;unfold bkH bkB at hgw;refine wDF (hb:=Qj) (hk:=?_);refine wGq tK ?_ ?_
     ·simp[hgp];exact λa _=>rfl
     refine bk rfl (lR rfl z8 w1 ⟨_,Tryz.func48,by kernel_rfl,rfl⟩ [32] [30,901] [30,901] w4 w1 w1 w7 w1 w1 w1 w1 (hgw) w5) ?_;refine wG tK ?_ y7 j8;refine ZB ⟨n+1,by omega,by omega,ZU ?_ ?_ ?_⟩
     ·simp[go_sem,hs1]
     ·simp[go_sem,hs1,bo]
     ·simp[go_sem,hs1]
 ·have e:i=l.length:=by simp at h;omega
  subst e;generalize F l.length=g at *;refine wG tK ?_;refine ZZ 901 rfl (tH _) ?_;simp only[go_sem];refine wT ?_;rfl
theorem qe (rooms:List Int) (hr:rooms.length≤100000000) (l:List Step) (hl:StepsOK l):ae Tryz.prog 30 [.sl (rooms.map ZI),.sl (l.map ZX)] [] (λr _=>r=lA rooms l):=by
 have:=hl.len
 by_cases he:gz rooms l=0
 ·exact zU rooms hr l hl he
 ·exact BZ rooms hr l z7 he
def l12:List Step:=[⟨4,0,0,[47,100],[],[]⟩,⟨2,0,0,[47],[],[]⟩,⟨7,0,0,[],[],[]⟩,⟨4,0,0,[47,101],[],[]⟩,⟨5,0,0,[47,101],[],[]⟩,⟨4,0,0,[47,102],[],[]⟩]
theorem Hd:(cI [5] l12).b.fates=[⟨0,0,2,1⟩,⟨3,0,2,4⟩,⟨4,0,4,4⟩,⟨5,0,2,2⟩]:=by kernel_rfl
theorem GA:gz [5] l12=0:=by kernel_rfl
theorem Ew:ae Tryz.prog 30 [.sl ([5].map ZI),.sl (l12.map ZX)] [] (λr _=>r=.tup [.sl ([⟨0,0,2,1⟩,⟨3,0,2,4⟩,⟨4,0,4,4⟩,⟨5,0,2,2⟩].map ah),.int .i64 0]):=by
 have h:=qe [5] k8 l12 ⟨by decide,λx hx=>by
  simp only[l12,List.mem_cons,List.not_mem_nil,or_false] at hx
  rcases hx with rfl | rfl | rfl | rfl | rfl | rfl<;>exact ⟨by decide,by decide⟩⟩
 unfold lA ib at h;rw[if_pos GA,GA,Hd] at h;exact h
theorem Fk:ae Tryz.prog 44 [.agg (bo (fJ [4]))] [] (λr _=>r=.bool true):=by
 have hI:=zk (rooms:=[4]) rfl;have:=CZ hI.srv.hist k8 (fJ [4]).s.next (fJ [4]).cs k8 λc hc=>by
  have hci:=hI.cli c hc;exact ⟨hci.len,λh=>(hci.here h).1,λh=>(hci.here h).2,hci.il k8⟩
 exact this
theorem D_:ae Tryz.prog 29 [] [] (λr _=>r=.bool true):=by
 have hf:=Ew;have hm:=vW [4] k8;have hri:=Fk;unfold qM at hm;rw[show bc [4]=0 from rfl,if_pos rfl] at hm;generalize fJ [4]=W at *;unfold bo at hm hri;simp only[l12,ZX,List.map_cons,List.map_nil,ZI,ah] at hf hm;refine ZF tK (Tryz.func29) rfl (λC=>?_);simp only[Tryz.ntmps29,Tryz.results29,go_sem];refine wG tK ?_;refine ay (bl 13) ?_;refine ZZ 13 rfl (rfl) ?_;refine ZZ 6 rfl (rfl) ?_;simp only[go_sem];refine wC Tryz.func30 (hf:=(hf)) (hk:=?_);refine wG tK ?_;refine ZZ 18 rfl (rfl) ?_;simp only[go_sem];refine wC Tryz.func18 (hf:=(hm)) (hk:=?_);refine wR ?_;refine wN tK 7 ?_;refine wR ?_;have e4:(((4:Nat):Int)==4)=true:=rfl;refine wN tK 7 ?_ z6 z6 QB QU;refine wN tK 25 ?_ z6 z6 QB QU;refine wN tK 1 ?_ z6 z6 QB QU;refine bk z8 (wZ tK rfl (tys:=[3,3,3,3]) w8 z8 z8 z6 (.inl ⟨rfl,rfl⟩)) ?_;simp only[go_sem];refine wN tK 3 ?_ z6 z6 (by simp only[go_sem,beq_self_eq_true,cond_true];try exact rfl) (by simp[go_sem,beq_self_eq_true,cond_true]);refine wCC Tryz.func44 (hf:=λhb=>(hri)) (hk:=?_);refine wG tK ?_;refine wT ?_;rfl
theorem sU {rooms:List Int} {l:List Step} (h:gz rooms l=0) (n:Nat):gz rooms (l.take n)=0:=by
 obtain ⟨h1,h2⟩:=jv h;unfold gz;rw[if_neg QO,if_neg n3]
theorem StepsOK.take {l:List Step} (h:StepsOK l) (n:Nat):StepsOK (l.take n):=⟨by have:=h.len;rw[Z9];omega,λx hx=>h.path x (Z3 hx)⟩
theorem Dg (rooms:List Int) (l:List Step) (n:Int) (hr:rooms.length≤100000000) (hl:StepsOK l):ae Tryz.prog 9 [.sl (rooms.map ZI),.sl (l.map ZX),.int .i64 n] [] (λr _=>r=.bool true):=by
 have hf:=qe rooms hr l hl;have hft:=λm:Nat=>qe rooms hr (l.take m) (hl.take m)
 unfold lA at hf hft;have hll:=hl.len;refine ZF tK (Tryz.func9) rfl (λC=>?_);simp only[Tryz.ntmps9,Tryz.results9,go_sem];refine wG tK ?_;refine wC Tryz.func29 (hf:=(D_)) (hk:=?_);refine wG tK ?_;refine wDF (hb:=(rfl)) (hk:=?_);refine wG tK ?_;refine wC Tryz.func30 (hf:=(hf)) (hk:=?_);refine wR ?_;refine wN tK 5 ?_;refine wR ?_;refine wN tK 6 ?_;refine aV 26 z6 (λc26 h26=>?_);simp only[go_sem];refine wN tK 6 ?_;refine aV 32 z6 (λc32 h32=>?_);simp only[go_sem];have hc:c32=false->gz rooms l=0/\0≤n/\n≤l.length:=by
  rw[←h32,←h26]
  by_cases h1:gz rooms l=0
  ·by_cases h2:n<0
   ·simp[h1,h2]
   ·simp[h1,h2];omega
  ·simp[h1]
 clear h32 h26;refine wG tK ?_;refine wD (λh=>?_) (λh=>?_)
 ·refine wG tK ?_;refine wT ?_;rfl
 obtain ⟨he,h0,hn⟩:=hc h;obtain ⟨m,rfl⟩:∃m:Nat,n=(m:Int):=⟨n.toNat,by omega⟩;have hm:m≤l.length:=by omega
 have hk:=Ck (jv he).1 l m hm;have hft:=hft m;rw[sU he m] at hft;rw[Wt] at hft;have hA:ib rooms l=(cI rooms l).b.fates:=by unfold ib;rw[if_pos he]
 have hB:ib rooms (l.take m)=(cI rooms (l.take m)).b.fates:=by unfold ib;rw[if_pos (sU he m)]
 have hAl:=xA rooms l;rw[hA] at hAl;rw[hA];rw[hB] at hft;have k1:=hk.len;have k2:=hk.old;have k3:=hk.new;clear hk hA hB hf;generalize (cI rooms l).b.fates=a at *;generalize (cI rooms (l.take m)).b.fates=b at *;refine wGq tK ?_ ?_
 ·simp[hm];exact λa _=>rfl
 refine wC Tryz.func30 (hf:=(hft)) (hk:=?_);refine wG tK ?_ QQ Qo;refine wDF (hb:=y9) (hk:=?_);refine wG tK ?_;refine ZL (λi:Nat=>i≤a.length) (λi=>a.length-i) (λi=>(10,.any)::(11,.any)::(12,.any)::(52,.int .i64 i)::u0 53 48 [])
  (λ_=>[]) 0 z7 ?_ λi hi=>?_
 ·simp only[go_sem];exact ZU w1 w1 w1
 simp only[go_sem];refine wG tK ?_;refine wD (λh=>?_) (λh=>?_)
 ·have hlt:i<a.length:=by simp at h;omega
  have how':=wi1 (i:=i) z7;have hg:(a.map ah).getD i []=ah (a.getD i default):=Fam.getD hlt;have k2:=k2 i;have k3:=k3 i;generalize a.getD i default=f at *;refine wGq tK ?_ ?_ (by simp only[go_sem,hg,ah];try exact rfl)
  ·simp[hg,ah,hlt]
  by_cases hib:i<b.length
  ·obtain ⟨s1,s2,s3⟩:=k2 hib;have hgb:(b.map ah).getD i []=ah (b.getD i default):=Fam.getD hib;generalize b.getD i default=g at *;refine wDF (hb:=y9) (hk:=?_)
   by_cases hw:g.whr=2
   ·have hgb2:(b.map ah).getD i []=[.int .i64 f.step,.int .i64 f.client,.int .i64 g.kind,.int .i64 2]:=by rw[hgb];unfold ah;rw[s1,s2,hw]
    refine wR ?_;refine wNq tK 4 ?_ ?_ z6 z6 (by simp only[go_sem,hgb2];try exact rfl)
    ·simp[hgb2,hib]
    refine wG tK ?_ QQ Qo;refine wDF (hb:=w7) (hk:=?_);refine wG tK ?_ y7 j8;refine ZB ⟨i+1,by omega,by omega,ZU ?_ ?_ ?_⟩
    ·simp[go_sem]
    ·simp[go_sem]
    ·simp[go_sem]
   ·have e:=s3 hw;subst e;have hne:(f.whr != 2)=true:=by simpa using hw
    refine wR ?_;refine wNq tK 4 ?_ ?_ z6 z6 (by simp only[go_sem,hgb,ah];try exact rfl)
    ·simp[hgb,ah,hib]
    refine wG tK ?_ (by simp only[go_sem,bne_self_eq_false,hne,cond_true,cond_false];try exact rfl) (by simp[go_sem,bne_self_eq_false,hne,cond_true,cond_false]);refine wDF (hb:=w7) (hk:=?_);refine wG tK ?_ y7 j8;refine ZB ⟨i+1,by omega,by omega,ZU ?_ ?_ ?_⟩
    ·simp[go_sem]
    ·simp[go_sem]
    ·simp[go_sem]
  ·have:=k3 z7 hlt;refine wDT (hb:=y9) (hk:=?_);refine wG tK ?_;refine wDF (hb:=y9) (hk:=?_);refine wG tK ?_ y7 j8;refine ZB ⟨i+1,by omega,by omega,ZU ?_ ?_ ?_⟩
   ·simp[go_sem]
   ·simp[go_sem]
   ·simp[go_sem]
 ·refine wG tK ?_;refine wT ?_;rfl
end La
