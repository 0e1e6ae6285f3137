/- Texts of this claim, part 29: CDo, CDo2, CDo3, WDo, WPlay, WTells. No condition. -/
import Derived.Test.YtmcfbfdonjllaaaGreatDoorZT28
set_option maxRecDepth 10000
set_option maxHeartbeats 4000000
set_option linter.unusedSimpArgs false
set_option linter.unusedVariables false
namespace La
open Go Go.Eng Go.Proofs
variable {Fa:Prop}
def qK (c:Cli):List AV:=[.int .i64 c.number,.bool c.away,.int .i64 c.room,.sl (c.cache.map ZK),.sl (c.log.map ZR),.osl 901 9 0 c.repair.length,.sl (c.hoards.map ZJ),.int .i64 c.clock,.int .i64 c.made,.int .i64 c.logged]
theorem wu (c:Cli) (h:SmallC c):ae Tryz.prog 41 [.agg (ZC c)] [] (λr H=>r=.agg (qK c)/\∀i b,aa [(901,.cells 51 9 (c.repair.map ZR))] i=some b->aa H i=some b):=by
 have h1:=qQ c.cache h.cache;have h2:=jU c.log h.log;have h3:=po c.repair h.repair;have h4:=nL c.hoards h.hoards;unfold ZC qK;refine ZF tK (Tryz.func41) rfl (λC=>?_);simp only[Tryz.ntmps41,Tryz.results41,go_sem];refine wG tK ?_;refine ZW ZM ?_;refine ZS rfl ?_;refine sN tK 2 ?_;refine sC Tryz.func68 (hf:=(h1)) (hk:=?_);refine sN tK 2 ?_;refine sC Tryz.func69 (hf:=(h2)) (hk:=?_);refine sN tK 2 ?_;refine gq 882 rfl rfl z7 w3 ⟨_,Tryz.func69,by kernel_rfl,rfl⟩ w3 (h3) w3 z7 z7 w3 z6 z6 ?_;refine sN tK 2 ?_;refine sC Tryz.func70 (hf:=(h4)) (hk:=?_);refine sN tK 1 ?_;refine sT tK ?_;refine sN tK 1 ?_;refine sT tK ?_;refine sN tK 1 ?_;refine sT tK ?_;refine sN tK 1 ?_;refine sT tK ?_;refine sE ?_;refine wKd ?_
 try simp only[go_sem,gA,gB,gC]
 refine wG tK ?_;refine wT ?_;simp[go_sem]
def mW (u:U) (x:Step):GotS:=if (af x.path).2≠0 then ⟨u,cx (af x.path).2⟩ else ⟨(goU u (af x.path).1 0).u,fU x.kind (goU u (af x.path).1 0)⟩
theorem A7 {B T:Nat} (u:U) (h:UInvF Fa B T u) (hB:B≤30000000) (hT:T≤800000000000) (x:Step) (hp:x.path.length≤10000000) (hk:x.kind=1\/x.kind=2) (G Y N:Nat->Nat):ae Tryz.prog 71 [.ptr 900 13 0 0,.rp (ZX x) 0] (cuH u G Y N)
  (λr H=>r=.agg (ar (mW u x).r)/\Holds (cuH (mW u x).u G Y N) H):=by
 have hsp:=ml x.path z8;have hsl:=bX x.path;have hgo:=uP u h z8 z8 (af x.path).1 z8 (λy hy=>by have:=(hsl.2 y hy).1;omega) 0;have hno:=nR h (af x.path).1 0;have hnam:=vd h (af x.path).1 0;have hW:mW u x=if (af x.path).2≠0 then ⟨u,cx (af x.path).2⟩ else ⟨(goU u (af x.path).1 0).u,fU x.kind (goU u (af x.path).1 0)⟩:=rfl;generalize mW u x=wF at *;unfold ct at hsp;generalize goU u (af x.path).1 0=g at *;generalize af x.path=S at *;obtain ⟨L,E⟩:=S;simp only at hW hsp hgo;unfold cuH gS at hgo;unfold cuH ZX;refine ZF tK (Tryz.func71) rfl (λC=>?_);simp only[Tryz.ntmps71,Tryz.results71,go_sem];refine wG tK ?_;refine ag (au 4) ?_;simp only[go_sem];refine wC Tryz.func102 (hf:=(hsp)) (hk:=?_);refine wG tK ?_
 by_cases hE:E=0
 ·rw[if_neg u2] at hW;rw[hW];refine wDF (hb:=u2) (hk:=?_);refine wG tK ?_;refine wP [900] Tryz.func103 (hf:=(hgo)) (hk:=?_);refine wGq tK ?_ ?_ w6
  ·simp[ZN]
  by_cases hge:g.e=0
  ·refine wDF (hb:=u4) (hk:=?_);refine wG tK ?_
   rcases hk with hk | hk
   ·have hr:fU x.kind g=if g.n.dir=true then ⟨9,0,0,[]⟩ else ⟨0,0,0,g.n.data⟩:=by unfold fU;rw[if_neg u4,if_pos hk]
    rw[hr];cases hd:g.n.dir with
    | true=>
     refine wDT (hb:=p9) (hk:=?_);refine wG tK ?_;refine ag (au 4) ?_;simp only[go_sem];refine wU ?_ ?_
     ·rfl
     ·exact q9
    | false=>
     refine wDF (hb:=p9) (hk:=?_);refine wG tK ?_;refine wDT (hb:=p9) (hk:=?_);refine wG tK ?_;refine wU ?_ ?_
     ·rfl
     ·exact q9
   ·have hr:fU x.kind g=if g.n.dir=true then ⟨0,0,0,mU g.n.entries⟩ else ⟨8,0,0,[]⟩:=by unfold fU;rw[if_neg u4,if_neg z8]
    rw[hr];refine wDF (hb:=p9) (hk:=?_);refine wG tK ?_;refine wDF (hb:=p9) (hk:=?_);refine wG tK ?_;cases hd:g.n.dir with
    | false=>
     refine wDT (hb:=(rfl)) (hk:=?_);refine wG tK ?_;refine ag (au 4) ?_;simp only[go_sem];refine wU ?_ ?_
     ·rfl
     ·exact q9
    | true=>
     refine wDF (hb:=(rfl)) (hk:=?_);refine wG tK ?_;have hle:=hno.ent;have hD0:jT g.n.entries 0=[]:=rfl;have hDs:=λi=>@nq g.n.entries i
     have hDn:=pn hnam;have hDe:jT g.n.entries g.n.entries.length=mU g.n.entries:=by unfold jT;rw[Wo]
     rw[if_pos rfl];generalize jT g.n.entries=D at *;generalize mU g.n.entries=DE at *;refine ag (le_empty 71 5 1 z7) ?_;simp only[go_sem];refine ZL (λi:Nat=>i≤g.n.entries.length) (λi=>g.n.entries.length-i) (λi=>(8,.osl 71 1 0 (D i).length)::(10,.any)::(62,.int .i64 i)::u0 63 10 [])
      (λi=>[(71,.cells 5 1 ((D i).map ZY))]) 0 z8 ?_ λi hi=>?_
     ·rw[hD0];simp only[go_sem];exact ZU w3 w3 w3
     simp only[go_sem];refine wG tK ?_;refine wD (λh=>?_) (λh=>?_)
     ·have hlt:i<g.n.entries.length:=by simp at h;omega
      have hg:(g.n.entries.map ZE).getD i []=ZE (g.n.entries.getD i default):=Fam.getD hlt;have hs1:=hDs i hlt;have hl1:=hDn i hi;have hl2:(g.n.entries.getD i default).name.length≤40:=hnam _ (by rw[Wi,Wj hlt];exact YO _);have how':=wi1 (i:=i) z8;generalize g.n.entries.getD i default=e at *;generalize D i=Di at *;have htq:List.take Di.length (Di.map ZY)=Di.map ZY:=Wl y7;refine wR ?_;refine wNq tK 4 ?_ ?_ z6 z6 p4
      ·simp[hg,ZE,hlt]
      refine wR ?_;refine wN tK 3 ?_;refine bP rfl (vW tK rfl rfl rfl rfl z7 z7 (by show fc _ _ _ _ _ (.sl (e.name.map ZY))=_;simp only[go_sem,htq];exact rfl) ?_ z6) ?_
      ·simp[go_sem,htq];exact ⟨by omega,λx hx=>fC (sX g.u) hx 71⟩
      refine wGq tK ?_ ?_ j5
      ·simp[htq,refs];refine ⟨by omega,λx hx=>fC (sX g.u) hx 69,λrow hr y hy=>?_⟩
       rcases List.mem_append.1 (Wx hr) with hr | hr<;>obtain ⟨b,_,rfl⟩:=Wq.1 hr<;>simp only[ZY,List.mem_cons,List.not_mem_nil,or_false] at hy<;>subst hy<;>simp[refs]
      refine ZB ⟨i+1,by omega,by omega,ZU ?_ ?_ ?_⟩
      ·simp[go_sem,hs1];omega
      ·simp[go_sem,hs1,htq,ZY];rw[Wl y7,YQ]
      ·simp[go_sem]
     ·have e:i=g.n.entries.length:=by simp at h;omega
      subst e;rw[hDe];refine ZZ 71 rfl (kj _) ?_;simp only[go_sem];refine wG tK ?_;refine wU ?_ ?_
      ·simp[ar]
      ·exact q9
  ·have hr:fU x.kind g=cx g.e:=by unfold fU;rw[if_pos hge];rfl
   rw[hr];refine wDT (hb:=u4) (hk:=?_);refine wG tK ?_;refine ag (au 4) ?_;simp only[go_sem];refine wU ?_ ?_
   ·rfl
   ·exact q9
 ·rw[if_pos hE] at hW;rw[hW];refine wDT (hb:=u2) (hk:=?_);refine wG tK ?_;refine ag (au 4) ?_;simp only[go_sem];refine wU ?_ ?_
  ·rfl
  ·exact q9
variable {Fa:Prop}
theorem I4 {B T:Nat} (c:Cli) (s:Srv) (h:UInvF Fa B T ⟨c,s⟩) (hB:B≤30000000) (hT:T≤800000000000) (x:Step) (hp:x.path.length≤10000000) (hq:x.toPath.length≤10000000) (hk:x.kind≠8):ae Tryz.prog 42 [.agg (ZC c),.agg (ZQ s),.agg (ZX x)] [] (λr _=>r=gh (av ⟨c,s⟩ x)):=by
 have hco:=wu c (h.cli.jz z8);have hso:=ra s h.srv.hist.bF.small (h.srv.uo z8);have htq:List.take c.repair.length (c.repair.map ZR)=c.repair.map ZR:=Wl y7;unfold ZC qK at hco;unfold ZQ at hso;unfold ZC ZQ ZX;refine ZF tK (Tryz.func42) rfl (λC=>?_);simp only[Tryz.ntmps42,Tryz.results42,go_sem];refine wG tK ?_;refine ZZ 5 rfl (rfl) ?_;simp only[go_sem];refine ZW ZM ?_;refine ZS rfl ?_;refine sN tK 1 ?_;refine gq 0 rfl rfl z7 w3 ⟨_,Tryz.func41,by kernel_rfl,rfl⟩ w3 (hco) w3 z7 z7 w3 z6 z6 ?_;refine sN tK 1 ?_;refine sC Tryz.func40 (hf:=(hso)) (hk:=?_);refine sB tK ?_;refine sW tK ?_;refine sG tK ?_;refine sE ?_;refine wKd ?_
 try simp only[go_sem,gA,gB,gC]
 refine ZZ 901 rfl (cS _) ?_;simp only[go_sem,htq];refine ag (dj 19 900) ?_;refine wR ?_;refine wN tK 1 ?_;refine wR ?_;refine wN tK 2 ?_;refine iI ?_;refine ag (au 10) ?_;simp only[go_sem];refine nM (λq:U×Reply=>av ⟨c,s⟩ x=⟨q.1,q.2⟩) (λq=>(11,.any)::(12,.any)::(13,.any)::u0 22 84 []) (λq=>[(900,.cells 146 13 [bo q.1]),(10,.cells 42 4 [ar q.2])]) ?_ λq hS=>?_
 ·refine wG tK ?_
  by_cases h1:x.kind=1
  ·refine wDT (hb:=(by simp[h1])) (hk:=?_);refine wG tK ?_;have hS:av ⟨c,s⟩ x=mW ⟨c,s⟩ x:=by unfold av mW;rw[if_pos (.inl h1)]
   have hw:=A7 ⟨c,s⟩ h hB hT x hp (.inl h1);rw[hS];generalize mW ⟨c,s⟩ x=w at *;unfold cuH bo ZX ar at hw;refine wDT (hb:=(by simp[h1])) (hk:=?_);refine wG tK ?_;refine wP [900] Tryz.func71 (hf:=(hw)) (hk:=?_);refine wG tK ?_;refine ZB ⟨(w.u,w.r),rfl,ZU ?_ ?_ ?_⟩
   ·simp[go_sem]
   ·simp[go_sem,bo,ar]
   ·simp[go_sem]
  refine wDF (hb:=Q7) (hk:=?_);refine wG tK ?_
  by_cases h2:x.kind=2
  ·skip
   have hS:av ⟨c,s⟩ x=mW ⟨c,s⟩ x:=by unfold av mW;rw[if_pos (.inr h2)]
   have hw:=A7 ⟨c,s⟩ h hB hT x hp (.inr h2);rw[hS];generalize mW ⟨c,s⟩ x=w at *;unfold cuH bo ZX ar at hw;refine wDT (hb:=(by simp[h2])) (hk:=?_);refine wG tK ?_;refine wP [900] Tryz.func71 (hf:=(hw)) (hk:=?_);refine wG tK ?_;refine ZB ⟨(w.u,w.r),rfl,ZU ?_ ?_ ?_⟩
   ·simp[go_sem]
   ·simp[go_sem,bo,ar]
   ·simp[go_sem]
  refine wDF (hb:=WH) (hk:=?_);refine wG tK ?_
  by_cases h3:x.kind=3
  ·have hS:av ⟨c,s⟩ x=⟨(cB ⟨c,s⟩ x.path x.data).u,cx (cB ⟨c,s⟩ x.path x.data).e⟩:=by unfold av;rw[if_neg z8,if_pos h3]
   have hw:=EG ⟨c,s⟩ h hB hT x.path x.data hp;rw[hS];generalize cB ⟨c,s⟩ x.path x.data=w at *;unfold cuH bo at hw;refine wDT (hb:=(by simp[h3])) (hk:=?_);refine wG tK ?_;refine wP [900] Tryz.func72 (hf:=(hw)) (hk:=?_);refine wG tK ?_;refine ZB ⟨(w.u,cx w.e),rfl,ZU ?_ ?_ ?_⟩
   ·simp[go_sem]
   ·simp[go_sem,bo,ar,cx]
   ·simp[go_sem]
  refine wDF (hb:=(by simpa using h3)) (hk:=?_);refine wG tK ?_
  by_cases h4:x.kind=4
  ·have hS:av ⟨c,s⟩ x=⟨(gm ⟨c,s⟩ x.path).u,cx (gm ⟨c,s⟩ x.path).e⟩:=by unfold av;rw[if_neg z8,if_neg h3,if_pos h4]
   have hM:gm ⟨c,s⟩ x.path=if (ai ⟨c,s⟩ x.path).e≠0 then ⟨(ai ⟨c,s⟩ x.path).e,(ai ⟨c,s⟩ x.path).u⟩ else cY (ai ⟨c,s⟩ x.path).u (hY (ai ⟨c,s⟩ x.path).n.fid (ai ⟨c,s⟩ x.path).name) (-1):=rfl;have hd:=ka ⟨c,s⟩ h z8 z8 x.path hp;have hdi:=cw h x.path;have hnm:=bI ⟨c,s⟩ x.path;rw[hS];generalize gm ⟨c,s⟩ x.path=w at *;generalize ai ⟨c,s⟩ x.path=d at *;unfold cuH bo at hd;refine wDT (hb:=(by simp[h4])) (hk:=?_);refine wG tK ?_;refine wP [900] Tryz.func73 (hf:=(hd)) (hk:=?_);refine wGq tK ?_ ?_ w6
   ·simp[ZN]
   by_cases hde:d.e=0
   ·rw[if_neg u9] at hM;have hact:=oI d.u hdi z8 z8 (hY d.n.fid d.name) ⟨hnm,by simp[hY],by simp[hY]⟩ (-1);unfold cuH bo at hact;simp only[ZA,hY,List.map_nil] at hact hM;generalize cY d.u ⟨2,0,d.n.fid,d.name,0,[],[]⟩ (-1)=y at *;rw[hM];refine wDT (hb:=u9) (hk:=?_);refine wG tK ?_;refine ag (vm 53 z6 Zy) ?_;simp only[go_sem];refine wP [900] Tryz.func74 (hf:=(hact)) (hk:=?_);refine wG tK ?_;refine ZB ⟨(y.u,cx y.e),rfl,ZU ?_ ?_ ?_⟩
    ·simp[go_sem]
    ·simp[go_sem,bo,ar,cx]
    ·simp[go_sem]
   ·rw[if_pos u9] at hM;rw[hM];refine wDF (hb:=u9) (hk:=?_);refine wG tK ?_;refine ZB ⟨(d.u,cx d.e),rfl,ZU ?_ ?_ ?_⟩
    ·simp[go_sem]
    ·simp[go_sem,bo,ar,cx]
    ·simp[go_sem]
  refine wDF (hb:=(by simpa using h4)) (hk:=?_);refine wG tK ?_
  by_cases h5:x.kind=5
  ·have hS:av ⟨c,s⟩ x=⟨(bG ⟨c,s⟩ x.path).u,cx (bG ⟨c,s⟩ x.path).e⟩:=by unfold av;rw[if_neg z8,if_neg h3,if_neg h4,if_pos h5]
   have hw:=zP ⟨c,s⟩ h hB hT x.path hp;rw[hS];generalize bG ⟨c,s⟩ x.path=w at *;unfold cuH bo at hw;refine wDT (hb:=(by simp[h5])) (hk:=?_);refine wG tK ?_;refine wP [900] Tryz.func75 (hf:=(hw)) (hk:=?_);refine wG tK ?_;refine ZB ⟨(w.u,cx w.e),rfl,ZU ?_ ?_ ?_⟩
   ·simp[go_sem]
   ·simp[go_sem,bo,ar,cx]
   ·simp[go_sem]
  refine wDF (hb:=(by simpa using h5)) (hk:=?_);refine wG tK ?_
  by_cases h6:x.kind=6
  ·have hS:av ⟨c,s⟩ x=⟨(dd ⟨c,s⟩ x.path x.toPath).u,cx (dd ⟨c,s⟩ x.path x.toPath).e⟩:=by unfold av;rw[if_neg z8,if_neg h3,if_neg h4,if_neg h5,if_pos h6]
   have hw:=Gc ⟨c,s⟩ h hB hT x.path x.toPath hp hq;rw[hS];generalize dd ⟨c,s⟩ x.path x.toPath=w at *;unfold cuH bo at hw;refine wDT (hb:=(by simp[h6])) (hk:=?_);refine wG tK ?_;refine wP [900] Tryz.func76 (hf:=(hw)) (hk:=?_);refine wG tK ?_;refine ZB ⟨(w.u,cx w.e),rfl,ZU ?_ ?_ ?_⟩
   ·simp[go_sem]
   ·simp[go_sem,bo,ar,cx]
   ·simp[go_sem]
  refine wDF (hb:=(by simpa using h6)) (hk:=?_);refine wG tK ?_
  by_cases h7:x.kind=7
  ·have hS:av ⟨c,s⟩ x=⟨⟨{ c with away:=true },s⟩,cx 0⟩:=by unfold av;rw[if_neg z8,if_neg h3,if_neg h4,if_neg h5,if_neg h6,if_pos h7]
   rw[hS];refine wDT (hb:=(by simp[h7])) (hk:=?_);refine wG tK ?_;refine ZB ⟨(⟨{ c with away:=true },s⟩,cx 0),rfl,ZU ?_ ?_ ?_⟩
   ·simp[go_sem]
   ·simp[go_sem,bo,ar,cx]
   ·simp[go_sem]
  refine wDF (hb:=(by simpa using h7)) (hk:=?_);refine wG tK ?_;refine wDF (hb:=Zs) (hk:=?_);refine wG tK ?_
  by_cases h9:x.kind=9
  ·have hS:av ⟨c,s⟩ x=⟨(dL ⟨c,s⟩ x.path x.n).u,cx (dL ⟨c,s⟩ x.path x.n).e⟩:=by unfold av;rw[if_neg z8,if_neg h3,if_neg h4,if_neg h5,if_neg h6,if_neg h7,if_neg hk,if_pos h9]
   have hw:=BA ⟨c,s⟩ h x.path hp x.n;rw[hS];generalize dL ⟨c,s⟩ x.path x.n=w at *;unfold cuH bo at hw;refine wDT (hb:=(by simp[h9])) (hk:=?_);refine wG tK ?_;refine wP [900] Tryz.func78 (hf:=(hw)) (hk:=?_);refine wG tK ?_;refine ZB ⟨(w.u,cx w.e),rfl,ZU ?_ ?_ ?_⟩
   ·simp[go_sem]
   ·simp[go_sem,bo,ar,cx]
   ·simp[go_sem]
  refine wDF (hb:=(by simpa using h9)) (hk:=?_);refine wG tK ?_
  by_cases h10:x.kind=10
  ·have hS:av ⟨c,s⟩ x=if c.away=true then ⟨⟨c,s⟩,cx 12⟩ else ⟨(eL ⟨c,s⟩).u,⟨0,(eL ⟨c,s⟩).n,0,[]⟩⟩:=by unfold av;rw[if_neg z8,if_neg h3,if_neg h4,if_neg h5,if_neg h6,if_neg h7,if_neg hk,if_neg h9,if_pos h10]
   refine wDT (hb:=(by simp[h10])) (hk:=?_);refine wG tK ?_;cases ha:c.away with
   | true=>
    have hw:=Ay ⟨c,s⟩ h ha;rw[if_pos ha] at hS;rw[hS];unfold cuH bo at hw;rw[show (⟨c,s⟩:U).c.away=true from ha] at hw;refine wP [900] Tryz.func79 (hf:=(hw)) (hk:=?_);refine wG tK ?_;refine ZB ⟨(⟨c,s⟩,cx 12),rfl,ZU ?_ ?_ ?_⟩
    ·simp[go_sem]
    ·simp[go_sem,bo,ar,cx,ha]
    ·simp[go_sem]
   | false=>
    have hw:=Az ⟨c,s⟩ h ha hB hT;rw[if_neg (by simp[ha])] at hS;rw[hS];generalize eL ⟨c,s⟩=w at *;unfold cuH bo at hw;rw[show (⟨c,s⟩:U).c.away=false from ha] at hw;refine wP [900] Tryz.func79 (hf:=(hw)) (hk:=?_);refine wG tK ?_;refine ZB ⟨(w.u,⟨0,w.n,0,[]⟩),rfl,ZU ?_ ?_ ?_⟩
    ·simp[go_sem]
    ·simp[go_sem,bo,ar]
    ·simp[go_sem]
  have hS:av ⟨c,s⟩ x=⟨⟨c,s⟩,cx 1⟩:=by unfold av;rw[if_neg z8,if_neg h3,if_neg h4,if_neg h5,if_neg h6,if_neg h7,if_neg hk,if_neg h9,if_neg h10]
  rw[hS];refine wDF (hb:=(by simpa using h10)) (hk:=?_);refine wG tK ?_;refine ZB ⟨(⟨c,s⟩,cx 1),rfl,ZU ?_ ?_ ?_⟩
  ·simp[go_sem]
  ·simp[go_sem,bo,ar,cx]
  ·simp[go_sem]
 obtain ⟨v,r⟩:=q;simp only at hS;rw[hS];simp only[go_sem,bo,ar];refine wG tK ?_;refine ZW ZM ?_;refine ZS rfl ?_;refine sN tK 9 ?_;refine sT tK ?_;refine sT tK ?_;refine sT tK ?_;refine sE ?_;refine wKd ?_
 try simp only[go_sem,gA,gB,gC]
 refine wG tK ?_;refine wT ?_;rfl
variable {Fa:Prop}
theorem H6 {B T:Nat} (c:Cli) (s:Srv) (h:UInvF Fa B T ⟨c,s⟩) (hB:B≤30000000) (x:Step) (hk:x.kind=8):ae Tryz.prog 42 [.agg (ZC c),.agg (ZQ s),.agg (ZX x)] [] (λr _=>r=gh (av ⟨c,s⟩ x)):=by
 have hco:=wu c (h.cli.jz z8);have hso:=ra s h.srv.hist.bF.small (h.srv.uo z8);have hS:av ⟨c,s⟩ x=⟨lf ⟨c,s⟩,⟨0,fe (aL ⟨c,s⟩),((aL ⟨c,s⟩).length-fe (aL ⟨c,s⟩):Nat),[]⟩⟩:=by
  unfold av;rw[if_neg z8,if_neg z8,if_neg z8,if_neg z8,if_neg z8,if_neg z8,if_pos hk]
 have hw:=Fv ⟨c,s⟩ h z8;rw[hS];generalize (aL ⟨c,s⟩).length-fe (aL ⟨c,s⟩)=m2 at *;generalize fe (aL ⟨c,s⟩)=m1 at *;generalize lf ⟨c,s⟩=w at *;unfold H4 qm C6 bo at hw;unfold ZC qK at hco;unfold ZQ at hso;unfold ZC ZQ ZX;refine ZF tK (Tryz.func42) rfl (λC=>?_);simp only[Tryz.ntmps42,Tryz.results42,go_sem];refine wG tK ?_;refine ZZ 5 rfl (rfl) ?_;simp only[go_sem];refine ZW ZM ?_;refine ZS rfl ?_;refine sN tK 1 ?_;refine gq 0 rfl rfl z7 w3 ⟨_,Tryz.func41,by kernel_rfl,rfl⟩ w3 (hco) w3 z7 z7 w3 z6 z6 ?_;refine sN tK 1 ?_;refine sC Tryz.func40 (hf:=(hso)) (hk:=?_);refine sB tK ?_;refine sW tK ?_;refine sG tK ?_;refine sE ?_;refine wKd ?_
 try simp only[go_sem,gA,gB,gC]
 refine wG tK ?_;refine ag (au 10) ?_;simp only[go_sem];refine wDF (hb:=p9) (hk:=?_);refine wG tK ?_;refine wDF (hb:=p9) (hk:=?_);refine wG tK ?_;refine wDF (hb:=p9) (hk:=?_);refine wG tK ?_;refine wDF (hb:=p9) (hk:=?_);refine wG tK ?_;refine wDF (hb:=p9) (hk:=?_);refine wG tK ?_;refine wDF (hb:=p9) (hk:=?_);refine wG tK ?_;refine wDF (hb:=p9) (hk:=?_);refine wG tK ?_;refine wDT (hb:=p9) (hk:=?_);refine wG tK ?_;refine bP rfl (As rfl z7 w3 ⟨_,Tryz.func77,by kernel_rfl,rfl⟩ [19] [901] w8 w3 y7 w3 w3 w3 w3 (hw) w9) ?_;refine wG tK ?_;refine ZW ZM ?_;refine ZS rfl ?_;refine sN tK 9 ?_;refine sT tK ?_;refine sT tK ?_;refine sT tK ?_;refine sE ?_;refine wKd ?_
 try simp only[go_sem,gA,gB,gC]
 refine wG tK ?_;refine wT ?_;rfl
theorem H3 {B T:Nat} (c:Cli) (s:Srv) (h:UInvF Fa B T ⟨c,s⟩) (hB:B≤30000000) (hT:T≤800000000000) (x:Step) (hp:x.path.length≤10000000) (hq:x.toPath.length≤10000000):ae Tryz.prog 42 [.agg (ZC c),.agg (ZQ s),.agg (ZX x)] [] (λr _=>r=gh (av ⟨c,s⟩ x)):=by
 by_cases hk:x.kind=8
 ·exact H6 c s h hB x hk
 ·exact I4 c s h hB hT x hp hq hk
def qF (t:List Node) (cs:List Cli) (i:Nat):List Cli:=(cs.take i).map (cN t)++cs.drop i
theorem Eo (t:List Node) (cs:List Cli) (i:Nat):(qF t cs i).length=cs.length:=by
 unfold qF;rw[List.length_append,List.length_map,Wv,YJ];omega
theorem En {t:List Node} {cs:List Cli} {i:Nat} (h:i<cs.length):(qF t cs i).getD i default=cs.getD i default:=by
 unfold qF;rw[Wi,W1 (by rw[List.length_map,Wv];omega),List.length_map,Wv,Yj z8,YY,YI,Wi];rfl
theorem Cj {t:List Node} {cs:List Cli} {i:Nat} (h:i<cs.length):qF t cs (i+1)=(qF t cs i).set i (cN t (cs.getD i default)):=by
 unfold qF;have hl:((cs.take i).map (cN t)).length=i:=by rw[List.length_map,Wv];omega
 rw[ZT h,List.map_append,List.drop_eq_getElem_cons h,List.set_append_right _ _ z8,hl,YY,List.set_cons_zero,YQ];rfl
theorem WInv.jz {B T:Nat} {w:Wor} (h:WInv B T w) (hB:B≤30000000):∀c,c∈w.cs->SmallC c:=λc hc=>(h.cli c hc).jz z8
theorem Hx {B T:Nat} (w:Wor) (h:WInv B T w) (hB:B≤30000000) (x:Step) (hb:x.client<0\/x.client≥w.cs.length):ae Tryz.prog 28 [.agg (aT w),.agg (ZX x)] [] (λr _=>r=iX (cg w x)):=by
 have h3:=h.len;have hwo:=Bk w h.srv.hist.bF.small (h.srv.uo z8) (h.jz hB) z8;have hW:cg w x=⟨w,cx 6⟩:=by unfold cg;rw[if_pos hb]
 rw[hW];unfold aT at hwo;unfold iX aT ZX;refine ZF tK (Tryz.func28) rfl (λC=>?_);simp only[Tryz.ntmps28,Tryz.results28,go_sem];refine wR ?_;refine wN tK 4 ?_;refine wR ?_;refine wN tK 11 ?_;refine ak 22 z6 (λc22 h22=>?_);simp only[go_sem];have hc:c22=true:=by
  rw[←h22]
  by_cases h1:x.client<0
  ·simp[h1]
  ·simp[h1];omega
 clear h22;refine wG tK ?_;refine wDT (hb:=(hc)) (hk:=?_);refine wG tK ?_;refine wC Tryz.func23 (hf:=(hwo)) (hk:=?_);refine wG tK ?_;refine ag (au 5) ?_;simp only[go_sem];refine wT ?_;rfl
theorem IS {B T:Nat} (w:Wor) (h:WInv B T w) (hB:B≤30000000) (hT:T≤800000000000) (x:Step) (hp:x.path.length≤10000000) (hq:x.toPath.length≤10000000) (hb:¬(x.client<0\/x.client≥w.cs.length)):ae Tryz.prog 28 [.agg (aT w),.agg (ZX x)] [] (λr _=>r=iX (cg w x)):=by
 have h3:=h.len;obtain ⟨k,cl,n,path,toPath,data⟩:=x;simp only at hb hp hq;obtain ⟨j,rfl⟩:∃j:Nat,cl=(j:Int):=⟨cl.toNat,by omega⟩;have hj:j<w.cs.length:=by omega
 have hu:=h.at hj;have hwo:=ED w h.srv.hist.bF.small (h.srv.uo z8) (h.jz hB) z8;have hst:=H3 (w.cs.getD j default) w.s hu hB hT ⟨k,j,n,path,toPath,data⟩ hp hq;have hinv:=sL hu ⟨k,j,n,path,toPath,data⟩;have hW:cg w ⟨k,j,n,path,toPath,data⟩=⟨⟨(av ⟨w.cs.getD j default,w.s⟩ ⟨k,j,n,path,toPath,data⟩).u.s,(w.cs.set j (av ⟨w.cs.getD j default,w.s⟩ ⟨k,j,n,path,toPath,data⟩).u.c).map (cN (av ⟨w.cs.getD j default,w.s⟩ ⟨k,j,n,path,toPath,data⟩).u.s.tree)⟩,(av ⟨w.cs.getD j default,w.s⟩ ⟨k,j,n,path,toPath,data⟩).r⟩:=by
  unfold cg;rw[if_neg hb];rfl
 have hcx:∀i,i<w.cs.length->SmallK (w.cs.getD i default).cache:=λi hi=>(h.jz hB _ (YG hi)).cache
 have hg0:(w.cs.map ZC).getD j []=ZC (w.cs.getD j default):=Fam.getD hj;rw[hW];generalize w.cs.getD j default=c0 at hst hinv hg0 ⊢;generalize av ⟨c0,w.s⟩ ⟨k,j,n,path,toPath,data⟩=g at *;have hcg:SmallK g.u.c.cache:=(hinv.cli.jz z8).cache;have hts:=hinv.srv.hist.bF.small;have hfr0:=λl hl=>rN l g.u.s.tree hl hts
 -- the clients, with the one that stepped
 have hcs:∀i,i<(w.cs.set j g.u.c).length->SmallK ((w.cs.set j g.u.c).getD i default).cache:=λi hi=>by
  rw[YL] at hi;rw[Wi,YA]
  by_cases e:j=i
  ·subst e;rw[if_pos rfl,if_pos hi];exact hcg
  ·rw[if_neg e,←Wi];exact hcx i hi
 have hsetj:(w.cs.map ZC).set j (ZC g.u.c)=(w.cs.set j g.u.c).map ZC:=(List.map_set).symm;have hlen:(w.cs.set j g.u.c).length=w.cs.length:=YL;have hfin:qF g.u.s.tree (w.cs.set j g.u.c) (w.cs.set j g.u.c).length=(w.cs.set j g.u.c).map (cN g.u.s.tree):=by unfold qF;rw[Wo,List.drop_length,List.append_nil]
 rw[←hfin,hlen];clear hfin;generalize w.cs.set j g.u.c=cs at *;have hD0:qF g.u.s.tree cs 0=cs:=by unfold qF;simp
 have hDl:=λi=>@Eo g.u.s.tree cs i
 have hDg:=λi=>@En g.u.s.tree cs i
 have hDs:=λi=>@Cj g.u.s.tree cs i
 generalize qF g.u.s.tree cs=D at *;unfold gh ZC ZQ ZX ar at hst;simp only[ZC] at hsetj;have hg1:=hg0;simp only[Wi,Wm,ZC] at hg1;unfold aT at hwo;unfold iX aT ZX ar;refine ZF tK (Tryz.func28) rfl (λC=>?_);simp only[Tryz.ntmps28,Tryz.results28,go_sem];refine wR ?_;refine wN tK 4 ?_;refine wR ?_;refine wN tK 11 ?_;refine ak 22 z6 (λc22 h22=>?_);simp only[go_sem];have hc:c22=false:=by
  rw[←h22];have h1:¬((j:Int)<0):=by omega
  simp[h1];omega
 clear h22;refine wG tK ?_;refine wDF (hb:=(hc)) (hk:=?_);refine wG tK ?_;refine wCG [] 100 Tryz.func23 (hf:=(hwo)) (hk:=?_);refine wG tK ?_;refine ZW ZM ?_;refine ZS rfl ?_;refine sNq tK 9 ?_ ?_ z6 z6 (by simp only[go_sem,hg0,ZC];try exact rfl)
 ·simp[hg0,hj,ZC]
 refine sC Tryz.func42 (hf:=(hst)) (hk:=?_);refine sN tK 4 ?_;refine sW tK ?_;refine sW tK ?_;refine sW tK ?_;refine sT tK ?_;refine sT tK ?_;refine sT tK ?_;refine sE ?_;refine wKd ?_
 try simp only[go_sem,gA,gB,gC]
 refine wG tK ?_;refine ZW ZM ?_;refine ZS rfl ?_;refine sNq tK 7 ?_ ?_
 ·simp[hj]
 refine kg tK rfl rfl z7 z7 z7 Qz z6 ?_ z6 z6 z6 ?_
 ·simp[hj]
 refine sN tK 1 ?_;refine sT tK ?_;refine sE ?_;refine wKd ?_
 try simp only[go_sem,gA,gB,gC]
 refine wG tK ?_;refine ZL (λi:Nat=>i≤w.cs.length) (λi=>w.cs.length-i) (λi=>(10,.any)::(11,.any)::(53,.int .i64 i)::u0 54 22 [])
  (λi=>[(122,.cells 47 10 ((D i).map ZC))]) 0 z8 ?_ λi hi=>?_
 ·rw[hD0];simp only[go_sem];exact ZU w3 (by simp[go_sem,hg1,hsetj]) w3
 simp only[go_sem];refine wG tK ?_;refine wD (λh=>?_) (λh=>?_)
 ·have hlt:i<cs.length:=by simp at h;omega
  have hw1:=wi1 (i:=i) z8;have hDl:=hDl i;have hat:=hDg i hlt;have aQ:=hDs i hlt;have hcc:=hcs i hlt;generalize D i=E at *;have hE:i<E.length:=by omega
  have hg:(E.map ZC).getD i []=ZC (E.getD i default):=Fam.getD hE;rw[hat] at hg;generalize cs.getD i default=c at *;have hg2:=hg;simp only[Wi,Wm,ZC] at hg2;have hs1:(E.map ZC).set i (ZC (cN g.u.s.tree c))=(D (i+1)).map ZC:=by rw[aQ];exact (List.map_set).symm
  have hl1:(D (i+1)).length=E.length:=by rw[aQ,YL]
  refine wGq tK ?_ ?_ QJ
  ·simp[hg,ZC,hE];omega
  cases ha:c.away with
  | true=>
   have hfw:cN g.u.s.tree c=c:=by unfold cN;simp[ha]
   rw[hfw,←hat,Wi,Wj hE,Option.getD_some,List.set_getElem_self] at aQ;refine wDF (hb:=(by simp[ha])) (hk:=?_);refine wG tK ?_ j7 n4;refine ZB ⟨i+1,by omega,by omega,ZU ?_ ?_ ?_⟩
   ·simp[go_sem]
   ·simp[go_sem,aQ]
   ·simp[go_sem]
  | false=>
   have hfw:cN g.u.s.tree c={ c with cache:=c.cache.filter λk=>!bE g.u.s.tree k }:=by unfold cN lL;simp[ha]
   rw[hfw] at hs1;simp only[ZC] at hs1;refine wDT (hb:=(by simp[ha])) (hk:=?_);refine wG tK ?_;refine ZW ZM ?_;refine ZS rfl ?_;refine sNq tK 7 ?_ ?_ z6 z6 QJ
   ·simp[hg,ZC,hE]
   refine sC Tryz.func43 (hf:=(hfr0 _ hcc)) (hk:=?_);refine sNq tK 2 ?_ ?_ z6 z6 QJ
   ·simp[hg,ZC,hE]
   refine kg tK rfl rfl z7 z7 z7 Qz z6 ?_ z6 z6 z6 ?_
   ·simp[hg,ZC,hE]
   refine sE ?_;refine wKd ?_
   try simp only[go_sem,gA,gB,gC]
   refine wG tK ?_ j7 n4;refine ZB ⟨i+1,by omega,by omega,ZU ?_ ?_ ?_⟩
   ·simp[go_sem]
   ·simp[go_sem,hg2,hs1]
   ·simp[go_sem]
 ·have e:i=w.cs.length:=by simp at h;omega
  subst e;have hZ:=hDl w.cs.length;generalize D w.cs.length=Z at *;have hle:w.cs.length≤Z.length:=by omega
  have htk:List.take w.cs.length (Z.map ZC)=Z.map ZC:=Wl j0;refine ZZ 122 rfl (gz _) ?_;simp only[go_sem,hle,if_true,htk];refine wG tK ?_;refine ZW ZM ?_;refine ZS rfl ?_;refine sN tK 2 ?_;refine sT tK ?_;refine sT tK ?_;refine sE ?_;refine wKd ?_
  try simp only[go_sem,gA,gB,gC]
  refine wG tK ?_;refine wT ?_;rfl
theorem IT {B T:Nat} (w:Wor) (h:WInv B T w) (hB:B≤30000000) (hT:T≤800000000000) (x:Step) (hp:x.path.length≤10000000) (hq:x.toPath.length≤10000000):ae Tryz.prog 28 [.agg (aT w),.agg (ZX x)] [] (λr _=>r=iX (cg w x)):=by
 by_cases hb:x.client<0\/x.client≥w.cs.length
 ·exact Hx w h hB x hb
 ·exact IS w h hB hT x hp hq hb
noncomputable def sn (rooms:List Int) (l:List Step):AV:=.tup [.agg (aT (xZ rooms l)),.sl ((xY rooms l).map ar),.int .i64 (iQ rooms l)]
theorem EE (rooms:List Int) (hr:rooms.length≤100000000) (l:List Step) (hl:l.length≤100000000) (he:iQ rooms l≠0):ae Tryz.prog 16 [.sl (rooms.map ZI),.sl (l.map ZX)] [] (λr _=>r=sn rooms l):=by
 have hn:=re rooms hr;unfold pX at hn;have hE:iQ rooms l=if bB rooms≠0 then bB rooms else if 80<l.length then 5 else 0:=rfl;unfold sn xZ xY;rw[if_neg he,if_neg he];generalize iQ rooms l=e at *;generalize hW0:(if bB rooms=0 then dp rooms else mZ)=W0 at *;generalize bB rooms=E at *;unfold aT at hn;refine ae.iO (X:=.tup [.agg [.nils,.int .i64 0,.nils,.nils],.nils,.int .i64 e]) ?_ rfl;refine ZF tK (Tryz.func16) rfl (λC=>?_);simp only[Tryz.ntmps16,Tryz.results16,go_sem];refine wG tK ?_;refine wC Tryz.func17 (hf:=(hn)) (hk:=?_);refine wG tK ?_
 by_cases h0:E=0
 ·subst h0;rw[if_neg y7] at hE;have h80:80<l.length:=by
   by_cases h8:80<l.length
   ·exact h8
   ·rw[if_neg h8] at hE;exact absurd hE he
  rw[if_pos h80] at hE;subst hE;refine wDF (hb:=y7) (hk:=?_);refine wG tK ?_;refine wDT (hb:=j0) (hk:=?_);refine wG tK ?_;refine wT ?_;rfl
 ·rw[if_pos h0] at hE;subst hE;refine wDT (hb:=Qw) (hk:=?_);refine wG tK ?_;refine wT ?_;rfl
theorem CN (rooms:List Int) (hr:rooms.length≤100000000) (l:List Step) (hl:StepsOK l) (he:iQ rooms l=0):ae Tryz.prog 16 [.sl (rooms.map ZI),.sl (l.map ZX)] [] (λr _=>r=sn rooms l):=by
 have hn:=re rooms hr;unfold pX at hn;obtain ⟨hE,hll⟩:=so he;unfold sn xZ xY;rw[if_pos he,if_pos he,he];rw[hE,if_pos rfl] at hn;have hFi:=λi=>@mY rooms hE l i
 have hFs:=λi=>@uy (dp rooms) l i
 have hRs:=λi=>@yj (dp rooms) l i
 have hF0:iV (dp rooms) (l.take 0)=dp rooms:=rfl;have hR0:rsW (dp rooms) (l.take 0)=[]:=rfl;have hRl:∀i,i≤l.length->(rsW (dp rooms) (l.take i)).length=i:=λi hi=>by rw[qY,Wv];omega
 rw[show iV (dp rooms) l=iV (dp rooms) (l.take l.length) by rw[Wo],show rsW (dp rooms) l=rsW (dp rooms) (l.take l.length) by rw[Wo]];generalize hF:(λi=>iV (dp rooms) (l.take i))=F at *;have hFe:∀i,iV (dp rooms) (l.take i)=F i:=λi=>by rw[←hF]
 simp only[hFe] at *;generalize hR:(λi=>rsW (dp rooms) (l.take i))=R at *;have hRe:∀i,rsW (dp rooms) (l.take i)=R i:=λi=>by rw[←hR]
 simp only[hRe] at *;rw[←hF0] at hn;clear hF0 hF hFe hR hRe;unfold aT at hn;refine ZF tK (Tryz.func16) rfl (λC=>?_);simp only[Tryz.ntmps16,Tryz.results16,go_sem];refine wG tK ?_;refine wC Tryz.func17 (hf:=(hn)) (hk:=?_);refine wG tK ?_;refine wDF (hb:=y7) (hk:=?_);refine wG tK ?_;refine wDF (hb:=j0) (hk:=?_);refine wG tK ?_;refine ZL (λi:Nat=>i≤l.length) (λi=>l.length-i) (λi=>(9,.osl 43 4 0 (R i).length)::(11,.any)::(12,.any)::(13,.any)::(29,.int .i64 i)::u0 30 15 [])
  (λi=>[(7,.cells 35 4 [aT (F i)]),(43,.cells 42 4 ((R i).map ar))]) 0 z8 ?_ λi hi=>?_
 ·unfold aT;rw[hR0];simp only[go_sem];exact ZU w3 w3 w3
 unfold aT;simp only[go_sem];refine wG tK ?_;refine wD (λh=>?_) (λh=>?_)
 ·have hlt:i<l.length:=by simp at h;omega
  have hg:(l.map ZX).getD i []=ZX (l.getD i default):=Fam.getD hlt;have how':=wi1 (i:=i) z8;have hpx:=hl.path (l.getD i default) (YG hlt);have hw:=IT (F i) (hFi i) z8 z8 (l.getD i default) hpx.1 hpx.2;have hs1:=hFs i hlt;have hs2:=hRs i hlt;have hl1:=hRl i hi;generalize l.getD i default=x at *;unfold iX aT ZX ar at hw;generalize cg (F i) x=g at *;generalize R i=Q at *;have htq:List.take Q.length (Q.map ar)=Q.map ar:=Wl y7;refine wR ?_;refine wNq tK 4 ?_ ?_ z6 z6 (by simp only[go_sem,hg,ZX];try exact rfl)
  ·simp[hg,ZX,hlt]
  refine wG tK ?_;refine wC Tryz.func28 (hf:=(hw)) (hk:=?_);refine wGq tK ?_ ?_ j5
  ·simp[htq,refs];omega
  refine ZB ⟨i+1,by omega,by omega,ZU ?_ ?_ ?_⟩
  ·simp[go_sem,hs2]
  ·simp[go_sem,hs1,hs2,htq,aT,ar]
  ·simp[go_sem]
 ·have e:i=l.length:=by simp at h;omega
  subst e;generalize R l.length=Q at *;have htq:List.take Q.length (Q.map ar)=Q.map ar:=Wl y7;refine wG tK ?_;refine ZZ 43 rfl (tv _) ?_;simp only[go_sem,htq];refine wT ?_;rfl
theorem yT (rooms:List Int) (hr:rooms.length≤100000000) (l:List Step) (hl:StepsOK l):ae Tryz.prog 16 [.sl (rooms.map ZI),.sl (l.map ZX)] [] (λr _=>r=sn rooms l):=by
 have:=hl.len
 by_cases he:iQ rooms l=0
 ·exact CN rooms hr l hl he
 ·exact EE rooms hr l z8 he
theorem Bx {α:Type} {a b:List α} {d:α} {k:Nat} (h:a.length≤k):(a++b).getD k d=b.getD (k-a.length) d:=by
 rw[Wi,W1 h,Wi]
theorem AH:ae Tryz.prog 19 [.agg (aT mZ),.agg (aT mZ)] [] (λr _=>r=.bool true):=
 mf mZ ⟨by decide,λn hn=>by cases hn⟩ u5 (λc hc=>by cases hc) u5
theorem WInv.same {B T:Nat} {w:Wor} (h:WInv B T w) (hB:B≤30000000):ae Tryz.prog 19 [.agg (aT w),.agg (aT w)] [] (λr _=>r=.bool true):=
 mf w h.srv.hist.bF.small (by have:=h.srv.len;omega) (h.jz hB) (by have:=h.len;omega)
theorem CI (rooms:List Int) (l:List Step) (hr:rooms.length≤100000000) (hl:StepsOK l) (he:iQ rooms l≠0):ae Tryz.prog 5 [.sl (rooms.map ZI),.sl (l.map ZX)] [] (λr _=>r=.bool true):=by
 have hp:=yT rooms hr l hl;have hn:=re rooms hr;have hm:=pY rooms hr;have hwr:=tc rooms hr;have hll:=hl.len;unfold sn xZ xY at hp;rw[if_neg he,if_neg he] at hp;unfold pX at hn hm;have hE:iQ rooms l=if bB rooms≠0 then bB rooms else if 80<l.length then 5 else 0:=rfl;have hsm:ae Tryz.prog 19 [.agg (aT (if bB rooms=0 then dp rooms else mZ)),.agg (aT (if bB rooms=0 then dp rooms else mZ))] [] (λr _=>r=.bool true):=by
  split
  ·rename_i h;exact (A1 h).same (B:=0) (T:=0) z8
  ·exact AH
 generalize iQ rooms l=e at *;generalize (if bB rooms=0 then dp rooms else mZ)=W0 at *;generalize bB rooms=E at *;unfold aT at hp hn hm hsm;refine ZF tK (Tryz.func5) rfl (λC=>?_);simp only[Tryz.ntmps5,Tryz.results5,go_sem];refine wG tK ?_;refine wC Tryz.func16 (hf:=(hp)) (hk:=?_);refine wG tK ?_;refine wC Tryz.func17 (hf:=(hn)) (hk:=?_);refine wG tK ?_;refine wC Tryz.func18 (hf:=(hm)) (hk:=?_);refine wG tK ?_ k8 j8;refine wCC Tryz.func19 (hf:=λhb=>(hsm)) (hk:=?_);refine wG tK ?_ k8 j8;refine wCC Tryz.func20 (hf:=λhb=>(hwr)) (hk:=?_);refine wG tK ?_ k8 j8;refine wDF (hb:=y7) (hk:=?_);refine wG tK ?_
 by_cases h0:E=0
 ·subst h0;rw[if_neg y7] at hE;have h80:80<l.length:=by
   by_cases h8:80<l.length
   ·exact h8
   ·rw[if_neg h8] at hE;exact absurd hE he
  rw[if_pos h80] at hE;subst hE;refine wDF (hb:=y7) (hk:=?_);refine wG tK ?_;refine wDT (hb:=j0) (hk:=?_);refine wG tK ?_;refine wT ?_;rfl
 ·rw[if_pos h0] at hE;subst hE;refine wDT (hb:=Qw) (hk:=?_);refine wG tK ?_ Zg (by simp[go_sem,beq_self_eq_true,cond_true]);refine wT ?_;simp
theorem AA (rooms:List Int) (l:List Step) (hr:rooms.length≤100000000) (hl:StepsOK l) (he:iQ rooms l=0):ae Tryz.prog 5 [.sl (rooms.map ZI),.sl (l.map ZX)] [] (λr _=>r=.bool true):=by
 have hp:=yT rooms hr l hl;have hn:=re rooms hr;have hm:=pY rooms hr;have hwr:=tc rooms hr;have hll:=hl.len;obtain ⟨hE,h80⟩:=so he;unfold sn xZ xY at hp;rw[if_pos he,if_pos he,he] at hp;unfold pX at hn hm;rw[hE,if_pos rfl] at hn hm;rw[hE] at hwr;have hFi:=λi=>@mY rooms hE l i
 have hFs:=λi=>@uy (dp rooms) l i
 have hRs:∀i,i<l.length->(rsW (dp rooms) l).getD i default=(cg (iV (dp rooms) (l.take i)) (l.getD i default)).r:=λi hi=>by
  have h1:=@yj (dp rooms) l i hi;have h2:rsW (dp rooms) l=rsW (dp rooms) (l.take (i+1))++rsW (iV (dp rooms) (l.take (i+1))) (l.drop (i+1)):=by rw[←vN,Yc]
  have h3:(rsW (dp rooms) (l.take i)).length=i:=by rw[qY,Wv];omega
  rw[h2,h1,YQ,Bx z8,h3,YY];rfl
 have hRl:(rsW (dp rooms) l).length=l.length:=qY _ _;have hF0:iV (dp rooms) (l.take 0)=dp rooms:=rfl;rw[show iV (dp rooms) l=iV (dp rooms) (l.take l.length) by rw[Wo]] at hp;generalize rsW (dp rooms) l=R at *;generalize hF:(λi=>iV (dp rooms) (l.take i))=F at *;have hFe:∀i,iV (dp rooms) (l.take i)=F i:=λi=>by rw[←hF]
 simp only[hFe] at *;rw[←hF0] at hn hm;clear hF0 hF hFe;have hsm:=(hFi 0).same z8;have hsm2:=(hFi l.length).same z8;have hw2:=hFi l.length;have how:=Bk (F l.length) hw2.srv.hist.bF.small (hw2.srv.uo z8) (hw2.jz z8) (by have:=hw2.len;omega);unfold aT at hp hn hm hsm hsm2 how;refine ZF tK (Tryz.func5) rfl (λC=>?_);simp only[Tryz.ntmps5,Tryz.results5,go_sem];refine wG tK ?_;refine wC Tryz.func16 (hf:=(hp)) (hk:=?_);refine wG tK ?_;refine wC Tryz.func17 (hf:=(hn)) (hk:=?_);refine wG tK ?_;refine wC Tryz.func18 (hf:=(hm)) (hk:=?_);refine wG tK ?_ k8 j8;refine wCC Tryz.func19 (hf:=λhb=>(hsm)) (hk:=?_);refine wG tK ?_ k8 j8;refine wCC Tryz.func20 (hf:=λhb=>(hwr)) (hk:=?_);refine wG tK ?_ k8 j8;refine wDF (hb:=y7) (hk:=?_);refine wG tK ?_;refine wDF (hb:=y7) (hk:=?_);refine wG tK ?_;refine wDF (hb:=j0) (hk:=?_);refine wG tK ?_ k8 j8;refine wDF (hb:=(by simp[hRl])) (hk:=?_);refine wG tK ?_;clear hsm hn hm hwr hp;refine ZL (λi:Nat=>i≤l.length) (λi=>l.length-i) (λi=>u0 12 4 ((79,.int .i64 i)::u0 80 19 []))
  (λi=>[(10,.cells 35 4 [aT (F i)])]) 0 z8 ?_ λi hi=>?_
 ·unfold aT;simp only[go_sem];exact ZU w3 w3 w3
 unfold aT;simp only[go_sem];refine wG tK ?_;refine wD (λh=>?_) (λh=>?_)
 ·have hlt:i<l.length:=by simp at h;omega
  have hg:(l.map ZX).getD i []=ZX (l.getD i default):=Fam.getD hlt;have hgr:(R.map ar).getD i []=ar (R.getD i default):=Fam.getD z8;have how':=wi1 (i:=i) z8;have hpx:=hl.path (l.getD i default) (YG hlt);have hw:=Cf (F i) (hFi i) z8 z8 (l.getD i default) hpx.1 hpx.2;have hs1:=hFs i hlt;have hR1:=hRs i hlt;rw[hR1] at hgr;generalize l.getD i default=x at *;unfold iX aT ZX ar at hw;generalize cg (F i) x=g at *;have hsr:=sF g.r;unfold ar at hsr;have hiR:i<R.length:=by omega
  refine wR ?_;refine wNq tK 4 ?_ ?_ z6 z6 (by simp only[go_sem,hg,ZX];try exact rfl)
  ·simp[hg,ZX,hlt]
  refine wG tK ?_;refine wC Tryz.func21 (hf:=(hw)) (hk:=?_);refine wG tK ?_;refine ZW ZM ?_;refine ZS rfl ?_;refine sNq tK 5 ?_ ?_ z6 z6 (by simp only[go_sem,hgr,ar];try exact rfl)
  ·simp[hgr,ar,hiR]
  refine sC Tryz.func22 (hf:=(hsr)) (hk:=?_);refine sN tK 1 ?_;refine sE ?_;refine wKd ?_
  try simp only[go_sem,gA,gB,gC]
  refine wG tK ?_;refine wDF (hb:=y7) (hk:=?_);refine wG tK ?_ j5 Qf;refine ZB ⟨i+1,by omega,by omega,ZU ?_ ?_ ?_⟩
  ·simp[go_sem]
  ·simp[go_sem,hs1,aT]
  ·simp[go_sem]
 ·have e:i=l.length:=by simp at h;omega
  subst e;refine wG tK ?_;refine ZW ZM ?_;refine ZS rfl ?_;refine sN tK 2 ?_;refine sC Tryz.func19 (hf:=(hsm2)) (hk:=?_);refine sN tK 2 ?_ z6 z6 Q0 WU;refine sCC Tryz.func23 (hf:=λhb=>(how)) (hk:=?_);refine sN tK 1 ?_ z6 z6 Q0 WU;refine sCC Tryz.func19 (hf:=λhb=>(hsm2)) (hk:=?_);refine sN tK 2 ?_ z6 z6 Q0 WU;refine sE ?_;refine wKd ?_
  try simp only[go_sem,gA,gB,gC]
  refine wG tK ?_;refine wT ?_;rfl
theorem CJ (rooms:List Int) (l:List Step) (hr:rooms.length≤100000000) (hl:StepsOK l):ae Tryz.prog 5 [.sl (rooms.map ZI),.sl (l.map ZX)] [] (λr _=>r=.bool true):=by
 by_cases he:iQ rooms l=0
 ·exact AA rooms l hr hl he
 ·exact CI rooms l hr hl he
end La
