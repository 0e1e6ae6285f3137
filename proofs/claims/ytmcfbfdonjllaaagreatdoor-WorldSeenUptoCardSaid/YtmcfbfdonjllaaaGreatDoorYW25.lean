/- Texts of this claim, part 25: CDo, CDo2, CDo3, WDo, WPlay, WAli13. No condition. -/
import Derived.Test.YtmcfbfdonjllaaaGreatDoorYW24
set_option maxRecDepth 10000
set_option maxHeartbeats 4000000
set_option linter.unusedSimpArgs false
set_option linter.unusedVariables false
namespace La
open Go Go.Eng Go.Proofs
variable {Fa:Prop}
def rz (c:Cli):List AV:=[.int .i64 c.number,.bool c.away,.int .i64 c.room,.sl (c.cache.map ZK),.sl (c.log.map ZR),.osl 901 9 0 c.repair.length,.sl (c.hoards.map ZJ),.int .i64 c.clock,.int .i64 c.made,.int .i64 c.logged]
theorem wJ (c:Cli) (h:SmallC c):ag Tryz.prog 41 [.agg (ZC c)] [] (λr H=>r=.agg (rz c)/\∀i b,ae [(901,.cells 51 9 (c.repair.map ZR))] i=some b->ae H i=some b):=by
 have h1:=rG c.cache h.cache;have h2:=kk c.log h.log;have h3:=pV c.repair h.repair;have h4:=om c.hoards h.hoards;unfold ZC rz;refine ZF tK (Tryz.func41) rfl (λC=>?_);simp only[Tryz.ntmps41,Tryz.results41,go_sem];refine wG tK ?_;refine ZW ZM ?_;refine ZS rfl ?_;refine sN tK 2 ?_;refine sC Tryz.func68 (hf:=(h1)) (hk:=?_);refine sN tK 2 ?_;refine sC Tryz.func69 (hf:=(h2)) (hk:=?_);refine sN tK 2 ?_;refine gQ 882 rfl rfl z8 w4 ⟨_,Tryz.func69,by kernel_rfl,rfl⟩ w4 (h3) w4 z8 z8 w4 z6 z6 ?_;refine sN tK 2 ?_;refine sC Tryz.func70 (hf:=(h4)) (hk:=?_);refine sN tK 1 ?_;refine sT tK ?_;refine sN tK 1 ?_;refine sT tK ?_;refine sN tK 1 ?_;refine sT tK ?_;refine sN tK 1 ?_;refine sT tK ?_;refine sE ?_;refine wKd ?_
 try simp only[go_sem,gA,gB,gC]
 refine wG tK ?_;refine wT ?_;simp[go_sem]
def nz (u:U) (x:Step):GotS:=if (ah x.path).2≠0 then ⟨u,bG (ah x.path).2⟩ else ⟨(goU u (ah x.path).1 0).u,jz x.kind (goU u (ah x.path).1 0)⟩
theorem A9 {B T:Nat} (u:U) (h:UInvF Fa B T u) (hB:B≤30000000) (hT:T≤800000000000) (x:Step) (hp:x.path.length≤10000000) (hk:x.kind=1\/x.kind=2) (G Y N:Nat->Nat):ag Tryz.prog 71 [.ptr 900 13 0 0,.rp (ZX x) 0] (cuH u G Y N)
  (λr H=>r=.agg (aj (nz u x).r)/\Holds (cuH (nz u x).u G Y N) H):=by
 have hsp:=mF x.path z7;have hsl:=ej x.path;have hgo:=vj u h z7 z7 (ah x.path).1 z7 (λy hy=>by have:=(hsl.2 y hy).1;omega) 0;have hno:=xu h (ah x.path).1 0;have hnam:=Gv h (ah x.path).1 0;have hW:nz u x=if (ah x.path).2≠0 then ⟨u,bG (ah x.path).2⟩ else ⟨(goU u (ah x.path).1 0).u,jz x.kind (goU u (ah x.path).1 0)⟩:=rfl;generalize nz u x=wF at *;unfold gR at hsp;generalize goU u (ah x.path).1 0=g at *;generalize ah x.path=S at *;obtain ⟨L,E⟩:=S;simp only at hW hsp hgo;unfold cuH qZ at hgo;unfold cuH ZX;refine ZF tK (Tryz.func71) rfl (λC=>?_);simp only[Tryz.ntmps71,Tryz.results71,go_sem];refine wG tK ?_;refine bf (ct 4) ?_;simp only[go_sem];refine wC Tryz.func102 (hf:=(hsp)) (hk:=?_);refine wG tK ?_
 by_cases hE:E=0
 ·rw[if_neg n4] at hW;rw[hW];refine wDF (hb:=n4) (hk:=?_);refine wG tK ?_;refine wP [900] Tryz.func103 (hf:=(hgo)) (hk:=?_);refine wGq tK ?_ ?_ y6
  ·simp[ZN]
  by_cases hge:g.e=0
  ·refine wDF (hb:=QB) (hk:=?_);refine wG tK ?_
   rcases hk with hk | hk
   ·have hr:jz x.kind g=if g.n.dir=true then ⟨9,0,0,[]⟩ else ⟨0,0,0,g.n.data⟩:=by unfold jz;rw[if_neg QB,if_pos hk]
    rw[hr];cases hd:g.n.dir with
    | true=>
     refine wDT (hb:=QM) (hk:=?_);refine wG tK ?_;refine bf (ct 4) ?_;simp only[go_sem];refine wU ?_ ?_
     ·rfl
     ·exact q9
    | false=>
     refine wDF (hb:=QM) (hk:=?_);refine wG tK ?_;refine wDT (hb:=QM) (hk:=?_);refine wG tK ?_;refine wU ?_ ?_
     ·rfl
     ·exact q9
   ·have hr:jz x.kind g=if g.n.dir=true then ⟨0,0,0,qG g.n.entries⟩ else ⟨8,0,0,[]⟩:=by unfold jz;rw[if_neg QB,if_neg z7]
    rw[hr];refine wDF (hb:=QM) (hk:=?_);refine wG tK ?_;refine wDF (hb:=QM) (hk:=?_);refine wG tK ?_;cases hd:g.n.dir with
    | false=>
     refine wDT (hb:=(rfl)) (hk:=?_);refine wG tK ?_;refine bf (ct 4) ?_;simp only[go_sem];refine wU ?_ ?_
     ·rfl
     ·exact q9
    | true=>
     refine wDF (hb:=(rfl)) (hk:=?_);refine wG tK ?_;have hle:=hno.ent;have hD0:oJ g.n.entries 0=[]:=rfl;have hDs:=λi=>@sx g.n.entries i
     have hDn:=uy hnam;have hDe:oJ g.n.entries g.n.entries.length=qG g.n.entries:=by unfold oJ;rw[WA]
     rw[if_pos rfl];generalize oJ g.n.entries=D at *;generalize qG g.n.entries=DE at *;refine bf (le_empty 71 5 1 z8) ?_;simp only[go_sem];refine ZL (λi:Nat=>i≤g.n.entries.length) (λi=>g.n.entries.length-i) (λi=>(8,.osl 71 1 0 (D i).length)::(10,.any)::(62,.int .i64 i)::u3 63 10 [])
      (λi=>[(71,.cells 5 1 ((D i).map ZY))]) 0 z7 ?_ λi hi=>?_
     ·rw[hD0];simp only[go_sem];exact ZU w4 w4 w4
     simp only[go_sem];refine wG tK ?_;refine wD (λh=>?_) (λh=>?_)
     ·have hlt:i<g.n.entries.length:=by simp at h;omega
      have hg:(g.n.entries.map ZE).getD i []=ZE (g.n.entries.getD i default):=Fam.getD hlt;have hs1:=hDs i hlt;have hl1:=hDn i hi;have hl2:(g.n.entries.getD i default).name.length≤40:=hnam _ (by rw[Z1,Z2 hlt];exact Wi _);have how':=wi1 (i:=i) z7;generalize g.n.entries.getD i default=e at *;generalize D i=Di at *;have htq:List.take Di.length (Di.map ZY)=Di.map ZY:=Z4 y7;refine wR ?_;refine wNq tK 4 ?_ ?_ z6 z6 QH
      ·simp[hg,ZE,hlt]
      refine wR ?_;refine wN tK 3 ?_;refine cE rfl (wc tK rfl rfl rfl rfl z8 z8 (by show fR _ _ _ _ _ (.sl (e.name.map ZY))=_;simp only[go_sem,htq];exact rfl) ?_ z6) ?_
      ·simp[go_sem,htq];exact ⟨by omega,λx hx=>uP (tv g.u) hx 71⟩
      refine wGq tK ?_ ?_ j0
      ·simp[htq,refs];refine ⟨by omega,λx hx=>uP (tv g.u) hx 69,λrow hr y hy=>?_⟩
       rcases List.mem_append.1 (WI hr) with hr | hr<;>obtain ⟨b,_,rfl⟩:=Z7.1 hr<;>simp only[ZY,List.mem_cons,List.not_mem_nil,or_false] at hy<;>subst hy<;>simp[refs]
      refine ZB ⟨i+1,by omega,by omega,ZU ?_ ?_ ?_⟩
      ·simp[go_sem,hs1];omega
      ·simp[go_sem,hs1,htq,ZY];rw[Z4 y7,Wa]
      ·simp[go_sem]
     ·have e:i=g.n.entries.length:=by simp at h;omega
      subst e;rw[hDe];refine ZZ 71 rfl (oc _) ?_;simp only[go_sem];refine wG tK ?_;refine wU ?_ ?_
      ·simp[aj]
      ·exact q9
  ·have hr:jz x.kind g=bG g.e:=by unfold jz;rw[if_pos hge];rfl
   rw[hr];refine wDT (hb:=QB) (hk:=?_);refine wG tK ?_;refine bf (ct 4) ?_;simp only[go_sem];refine wU ?_ ?_
   ·rfl
   ·exact q9
 ·rw[if_pos hE] at hW;rw[hW];refine wDT (hb:=n4) (hk:=?_);refine wG tK ?_;refine bf (ct 4) ?_;simp only[go_sem];refine wU ?_ ?_
  ·rfl
  ·exact q9
variable {Fa:Prop}
theorem JE {B T:Nat} (c:Cli) (s:Srv) (h:UInvF Fa B T ⟨c,s⟩) (hB:B≤30000000) (hT:T≤800000000000) (x:Step) (hp:x.path.length≤10000000) (hq:x.toPath.length≤10000000) (hk:x.kind≠8):ag Tryz.prog 42 [.agg (ZC c),.agg (ZQ s),.agg (ZX x)] [] (λr _=>r=Bf (ar ⟨c,s⟩ x)):=by
 have hco:=wJ c (h.cli.lq z7);have hso:=rN s h.srv.hist.bV.small (h.srv.uJ z7);have htq:List.take c.repair.length (c.repair.map ZR)=c.repair.map ZR:=Z4 y7;unfold ZC rz at hco;unfold ZQ at hso;unfold ZC ZQ ZX;refine ZF tK (Tryz.func42) rfl (λC=>?_);simp only[Tryz.ntmps42,Tryz.results42,go_sem];refine wG tK ?_;refine ZZ 5 rfl (rfl) ?_;simp only[go_sem];refine ZW ZM ?_;refine ZS rfl ?_;refine sN tK 1 ?_;refine gQ 0 rfl rfl z8 w4 ⟨_,Tryz.func41,by kernel_rfl,rfl⟩ w4 (hco) w4 z8 z8 w4 z6 z6 ?_;refine sN tK 1 ?_;refine sC Tryz.func40 (hf:=(hso)) (hk:=?_);refine sB tK ?_;refine sW tK ?_;refine sG tK ?_;refine sE ?_;refine wKd ?_
 try simp only[go_sem,gA,gB,gC]
 refine ZZ 901 rfl (fK _) ?_;simp only[go_sem,htq];refine bf (xO 19 900) ?_;refine wR ?_;refine wN tK 1 ?_;refine wR ?_;refine wN tK 2 ?_;refine iR ?_;refine bf (ct 10) ?_;simp only[go_sem];refine ot (λq:U×Reply=>ar ⟨c,s⟩ x=⟨q.1,q.2⟩) (λq=>(11,.any)::(12,.any)::(13,.any)::u3 22 84 []) (λq=>[(900,.cells 146 13 [dr q.1]),(10,.cells 42 4 [aj q.2])]) ?_ λq hS=>?_
 ·refine wG tK ?_
  by_cases h1:x.kind=1
  ·refine wDT (hb:=(by simp[h1])) (hk:=?_);refine wG tK ?_;have hS:ar ⟨c,s⟩ x=nz ⟨c,s⟩ x:=by unfold ar nz;rw[if_pos (.inl h1)]
   have hw:=A9 ⟨c,s⟩ h hB hT x hp (.inl h1);rw[hS];generalize nz ⟨c,s⟩ x=w at *;unfold cuH dr ZX aj at hw;refine wDT (hb:=(by simp[h1])) (hk:=?_);refine wG tK ?_;refine wP [900] Tryz.func71 (hf:=(hw)) (hk:=?_);refine wG tK ?_;refine ZB ⟨(w.u,w.r),rfl,ZU ?_ ?_ ?_⟩
   ·simp[go_sem]
   ·simp[go_sem,dr,aj]
   ·simp[go_sem]
  refine wDF (hb:=QJ) (hk:=?_);refine wG tK ?_
  by_cases h2:x.kind=2
  ·skip
   have hS:ar ⟨c,s⟩ x=nz ⟨c,s⟩ x:=by unfold ar nz;rw[if_pos (.inr h2)]
   have hw:=A9 ⟨c,s⟩ h hB hT x hp (.inr h2);rw[hS];generalize nz ⟨c,s⟩ x=w at *;unfold cuH dr ZX aj at hw;refine wDT (hb:=(by simp[h2])) (hk:=?_);refine wG tK ?_;refine wP [900] Tryz.func71 (hf:=(hw)) (hk:=?_);refine wG tK ?_;refine ZB ⟨(w.u,w.r),rfl,ZU ?_ ?_ ?_⟩
   ·simp[go_sem]
   ·simp[go_sem,dr,aj]
   ·simp[go_sem]
  refine wDF (hb:=Zm) (hk:=?_);refine wG tK ?_
  by_cases h3:x.kind=3
  ·have hS:ar ⟨c,s⟩ x=⟨(bn ⟨c,s⟩ x.path x.data).u,bG (bn ⟨c,s⟩ x.path x.data).e⟩:=by unfold ar;rw[if_neg z7,if_pos h3]
   have hw:=E' ⟨c,s⟩ h hB hT x.path x.data hp;rw[hS];generalize bn ⟨c,s⟩ x.path x.data=w at *;unfold cuH dr at hw;refine wDT (hb:=(by simp[h3])) (hk:=?_);refine wG tK ?_;refine wP [900] Tryz.func72 (hf:=(hw)) (hk:=?_);refine wG tK ?_;refine ZB ⟨(w.u,bG w.e),rfl,ZU ?_ ?_ ?_⟩
   ·simp[go_sem]
   ·simp[go_sem,dr,aj,bG]
   ·simp[go_sem]
  refine wDF (hb:=(by simpa using h3)) (hk:=?_);refine wG tK ?_
  by_cases h4:x.kind=4
  ·have hS:ar ⟨c,s⟩ x=⟨(fh ⟨c,s⟩ x.path).u,bG (fh ⟨c,s⟩ x.path).e⟩:=by unfold ar;rw[if_neg z7,if_neg h3,if_pos h4]
   have hM:fh ⟨c,s⟩ x.path=if (au ⟨c,s⟩ x.path).e≠0 then ⟨(au ⟨c,s⟩ x.path).e,(au ⟨c,s⟩ x.path).u⟩ else bC (au ⟨c,s⟩ x.path).u (lC (au ⟨c,s⟩ x.path).n.fid (au ⟨c,s⟩ x.path).name) (-1):=rfl;have hd:=ko ⟨c,s⟩ h z7 z7 x.path hp;have hdi:=dM h x.path;have hnm:=cf ⟨c,s⟩ x.path;rw[hS];generalize fh ⟨c,s⟩ x.path=w at *;generalize au ⟨c,s⟩ x.path=d at *;unfold cuH dr at hd;refine wDT (hb:=(by simp[h4])) (hk:=?_);refine wG tK ?_;refine wP [900] Tryz.func73 (hf:=(hd)) (hk:=?_);refine wGq tK ?_ ?_ y6
   ·simp[ZN]
   by_cases hde:d.e=0
   ·rw[if_neg QE] at hM;have hact:=pw d.u hdi z7 z7 (lC d.n.fid d.name) ⟨hnm,by simp[lC],by simp[lC]⟩ (-1);unfold cuH dr at hact;simp only[ZA,lC,List.map_nil] at hact hM;generalize bC d.u ⟨2,0,d.n.fid,d.name,0,[],[]⟩ (-1)=y at *;rw[hM];refine wDT (hb:=QE) (hk:=?_);refine wG tK ?_;refine bf (rH 53 z6 Qh) ?_;simp only[go_sem];refine wP [900] Tryz.func74 (hf:=(hact)) (hk:=?_);refine wG tK ?_;refine ZB ⟨(y.u,bG y.e),rfl,ZU ?_ ?_ ?_⟩
    ·simp[go_sem]
    ·simp[go_sem,dr,aj,bG]
    ·simp[go_sem]
   ·rw[if_pos QE] at hM;rw[hM];refine wDF (hb:=QE) (hk:=?_);refine wG tK ?_;refine ZB ⟨(d.u,bG d.e),rfl,ZU ?_ ?_ ?_⟩
    ·simp[go_sem]
    ·simp[go_sem,dr,aj,bG]
    ·simp[go_sem]
  refine wDF (hb:=(by simpa using h4)) (hk:=?_);refine wG tK ?_
  by_cases h5:x.kind=5
  ·have hS:ar ⟨c,s⟩ x=⟨(cn ⟨c,s⟩ x.path).u,bG (cn ⟨c,s⟩ x.path).e⟩:=by unfold ar;rw[if_neg z7,if_neg h3,if_neg h4,if_pos h5]
   have hw:=zN ⟨c,s⟩ h hB hT x.path hp;rw[hS];generalize cn ⟨c,s⟩ x.path=w at *;unfold cuH dr at hw;refine wDT (hb:=(by simp[h5])) (hk:=?_);refine wG tK ?_;refine wP [900] Tryz.func75 (hf:=(hw)) (hk:=?_);refine wG tK ?_;refine ZB ⟨(w.u,bG w.e),rfl,ZU ?_ ?_ ?_⟩
   ·simp[go_sem]
   ·simp[go_sem,dr,aj,bG]
   ·simp[go_sem]
  refine wDF (hb:=(by simpa using h5)) (hk:=?_);refine wG tK ?_
  by_cases h6:x.kind=6
  ·have hS:ar ⟨c,s⟩ x=⟨(fJ ⟨c,s⟩ x.path x.toPath).u,bG (fJ ⟨c,s⟩ x.path x.toPath).e⟩:=by unfold ar;rw[if_neg z7,if_neg h3,if_neg h4,if_neg h5,if_pos h6]
   have hw:=GO ⟨c,s⟩ h hB hT x.path x.toPath hp hq;rw[hS];generalize fJ ⟨c,s⟩ x.path x.toPath=w at *;unfold cuH dr at hw;refine wDT (hb:=(by simp[h6])) (hk:=?_);refine wG tK ?_;refine wP [900] Tryz.func76 (hf:=(hw)) (hk:=?_);refine wG tK ?_;refine ZB ⟨(w.u,bG w.e),rfl,ZU ?_ ?_ ?_⟩
   ·simp[go_sem]
   ·simp[go_sem,dr,aj,bG]
   ·simp[go_sem]
  refine wDF (hb:=(by simpa using h6)) (hk:=?_);refine wG tK ?_
  by_cases h7:x.kind=7
  ·have hS:ar ⟨c,s⟩ x=⟨⟨{ c with away:=true },s⟩,bG 0⟩:=by unfold ar;rw[if_neg z7,if_neg h3,if_neg h4,if_neg h5,if_neg h6,if_pos h7]
   rw[hS];refine wDT (hb:=(by simp[h7])) (hk:=?_);refine wG tK ?_;refine ZB ⟨(⟨{ c with away:=true },s⟩,bG 0),rfl,ZU ?_ ?_ ?_⟩
   ·simp[go_sem]
   ·simp[go_sem,dr,aj,bG]
   ·simp[go_sem]
  refine wDF (hb:=(by simpa using h7)) (hk:=?_);refine wG tK ?_;refine wDF (hb:=Zx) (hk:=?_);refine wG tK ?_
  by_cases h9:x.kind=9
  ·have hS:ar ⟨c,s⟩ x=⟨(fX ⟨c,s⟩ x.path x.n).u,bG (fX ⟨c,s⟩ x.path x.n).e⟩:=by unfold ar;rw[if_neg z7,if_neg h3,if_neg h4,if_neg h5,if_neg h6,if_neg h7,if_neg hk,if_pos h9]
   have hw:=BL ⟨c,s⟩ h x.path hp x.n;rw[hS];generalize fX ⟨c,s⟩ x.path x.n=w at *;unfold cuH dr at hw;refine wDT (hb:=(by simp[h9])) (hk:=?_);refine wG tK ?_;refine wP [900] Tryz.func78 (hf:=(hw)) (hk:=?_);refine wG tK ?_;refine ZB ⟨(w.u,bG w.e),rfl,ZU ?_ ?_ ?_⟩
   ·simp[go_sem]
   ·simp[go_sem,dr,aj,bG]
   ·simp[go_sem]
  refine wDF (hb:=(by simpa using h9)) (hk:=?_);refine wG tK ?_
  by_cases h10:x.kind=10
  ·have hS:ar ⟨c,s⟩ x=if c.away=true then ⟨⟨c,s⟩,bG 12⟩ else ⟨(ji ⟨c,s⟩).u,⟨0,(ji ⟨c,s⟩).n,0,[]⟩⟩:=by unfold ar;rw[if_neg z7,if_neg h3,if_neg h4,if_neg h5,if_neg h6,if_neg h7,if_neg hk,if_neg h9,if_pos h10]
   refine wDT (hb:=(by simp[h10])) (hk:=?_);refine wG tK ?_;cases ha:c.away with
   | true=>
    have hw:=Am ⟨c,s⟩ h ha;rw[if_pos ha] at hS;rw[hS];unfold cuH dr at hw;rw[show (⟨c,s⟩:U).c.away=true from ha] at hw;refine wP [900] Tryz.func79 (hf:=(hw)) (hk:=?_);refine wG tK ?_;refine ZB ⟨(⟨c,s⟩,bG 12),rfl,ZU ?_ ?_ ?_⟩
    ·simp[go_sem]
    ·simp[go_sem,dr,aj,bG,ha]
    ·simp[go_sem]
   | false=>
    have hw:=An ⟨c,s⟩ h ha hB hT;rw[if_neg Qu] at hS;rw[hS];generalize ji ⟨c,s⟩=w at *;unfold cuH dr at hw;rw[show (⟨c,s⟩:U).c.away=false from ha] at hw;refine wP [900] Tryz.func79 (hf:=(hw)) (hk:=?_);refine wG tK ?_;refine ZB ⟨(w.u,⟨0,w.n,0,[]⟩),rfl,ZU ?_ ?_ ?_⟩
    ·simp[go_sem]
    ·simp[go_sem,dr,aj]
    ·simp[go_sem]
  have hS:ar ⟨c,s⟩ x=⟨⟨c,s⟩,bG 1⟩:=by unfold ar;rw[if_neg z7,if_neg h3,if_neg h4,if_neg h5,if_neg h6,if_neg h7,if_neg hk,if_neg h9,if_neg h10]
  rw[hS];refine wDF (hb:=(by simpa using h10)) (hk:=?_);refine wG tK ?_;refine ZB ⟨(⟨c,s⟩,bG 1),rfl,ZU ?_ ?_ ?_⟩
  ·simp[go_sem]
  ·simp[go_sem,dr,aj,bG]
  ·simp[go_sem]
 obtain ⟨v,r⟩:=q;simp only at hS;rw[hS];simp only[go_sem,dr,aj];refine wG tK ?_;refine ZW ZM ?_;refine ZS rfl ?_;refine sN tK 9 ?_;refine sT tK ?_;refine sT tK ?_;refine sT tK ?_;refine sE ?_;refine wKd ?_
 try simp only[go_sem,gA,gB,gC]
 refine wG tK ?_;refine wT ?_;rfl
variable {Fa:Prop}
theorem I1 {B T:Nat} (c:Cli) (s:Srv) (h:UInvF Fa B T ⟨c,s⟩) (hB:B≤30000000) (x:Step) (hk:x.kind=8):ag Tryz.prog 42 [.agg (ZC c),.agg (ZQ s),.agg (ZX x)] [] (λr _=>r=Bf (ar ⟨c,s⟩ x)):=by
 have hco:=wJ c (h.cli.lq z7);have hso:=rN s h.srv.hist.bV.small (h.srv.uJ z7);have hS:ar ⟨c,s⟩ x=⟨cA ⟨c,s⟩,⟨0,fc (bm ⟨c,s⟩),((bm ⟨c,s⟩).length-fc (bm ⟨c,s⟩):Nat),[]⟩⟩:=by
  unfold ar;rw[if_neg z7,if_neg z7,if_neg z7,if_neg z7,if_neg z7,if_neg z7,if_pos hk]
 have hw:=F2 ⟨c,s⟩ h z7;rw[hS];generalize (bm ⟨c,s⟩).length-fc (bm ⟨c,s⟩)=m2 at *;generalize fc (bm ⟨c,s⟩)=m1 at *;generalize cA ⟨c,s⟩=w at *;unfold I0 qT Dp dr at hw;unfold ZC rz at hco;unfold ZQ at hso;unfold ZC ZQ ZX;refine ZF tK (Tryz.func42) rfl (λC=>?_);simp only[Tryz.ntmps42,Tryz.results42,go_sem];refine wG tK ?_;refine ZZ 5 rfl (rfl) ?_;simp only[go_sem];refine ZW ZM ?_;refine ZS rfl ?_;refine sN tK 1 ?_;refine gQ 0 rfl rfl z8 w4 ⟨_,Tryz.func41,by kernel_rfl,rfl⟩ w4 (hco) w4 z8 z8 w4 z6 z6 ?_;refine sN tK 1 ?_;refine sC Tryz.func40 (hf:=(hso)) (hk:=?_);refine sB tK ?_;refine sW tK ?_;refine sG tK ?_;refine sE ?_;refine wKd ?_
 try simp only[go_sem,gA,gB,gC]
 refine wG tK ?_;refine bf (ct 10) ?_;simp only[go_sem];refine wDF (hb:=QM) (hk:=?_);refine wG tK ?_;refine wDF (hb:=QM) (hk:=?_);refine wG tK ?_;refine wDF (hb:=QM) (hk:=?_);refine wG tK ?_;refine wDF (hb:=QM) (hk:=?_);refine wG tK ?_;refine wDF (hb:=QM) (hk:=?_);refine wG tK ?_;refine wDF (hb:=QM) (hk:=?_);refine wG tK ?_;refine wDF (hb:=QM) (hk:=?_);refine wG tK ?_;refine wDT (hb:=QM) (hk:=?_);refine wG tK ?_;refine cE rfl (Ai rfl z8 w4 ⟨_,Tryz.func77,by kernel_rfl,rfl⟩ [19] [901] y8 w4 y7 w4 w4 w4 w4 (hw) y9) ?_;refine wG tK ?_;refine ZW ZM ?_;refine ZS rfl ?_;refine sN tK 9 ?_;refine sT tK ?_;refine sT tK ?_;refine sT tK ?_;refine sE ?_;refine wKd ?_
 try simp only[go_sem,gA,gB,gC]
 refine wG tK ?_;refine wT ?_;rfl
theorem IZ {B T:Nat} (c:Cli) (s:Srv) (h:UInvF Fa B T ⟨c,s⟩) (hB:B≤30000000) (hT:T≤800000000000) (x:Step) (hp:x.path.length≤10000000) (hq:x.toPath.length≤10000000):ag Tryz.prog 42 [.agg (ZC c),.agg (ZQ s),.agg (ZX x)] [] (λr _=>r=Bf (ar ⟨c,s⟩ x)):=by
 by_cases hk:x.kind=8
 ·exact I1 c s h hB x hk
 ·exact JE c s h hB hT x hp hq hk
def rj (t:List Node) (cs:List Cli) (i:Nat):List Cli:=(cs.take i).map (aS t)++cs.drop i
theorem EH (t:List Node) (cs:List Cli) (i:Nat):(rj t cs i).length=cs.length:=by
 unfold rj;rw[List.length_append,List.length_map,WO,Ws];omega
theorem EG {t:List Node} {cs:List Cli} {i:Nat} (h:i<cs.length):(rj t cs i).getD i default=cs.getD i default:=by
 unfold rj;rw[Z1,WJ (by rw[List.length_map,WO];omega),List.length_map,WO,W5 z7,Wf,WW,Z1];rfl
theorem Cl {t:List Node} {cs:List Cli} {i:Nat} (h:i<cs.length):rj t cs (i+1)=(rj t cs i).set i (aS t (cs.getD i default)):=by
 unfold rj;have hl:((cs.take i).map (aS t)).length=i:=by rw[List.length_map,WO];omega
 rw[ZT h,List.map_append,List.drop_eq_getElem_cons h,List.set_append_right _ _ z7,hl,Wf,List.set_cons_zero,Wa];rfl
theorem WInv.lq {B T:Nat} {w:Wor} (h:WInv B T w) (hB:B≤30000000):∀c,c∈w.cs->SmallC c:=λc hc=>(h.cli c hc).lq z7
theorem Ig {B T:Nat} (w:Wor) (h:WInv B T w) (hB:B≤30000000) (x:Step) (hb:x.client<0\/x.client≥w.cs.length):ag Tryz.prog 28 [.agg (bI w),.agg (ZX x)] [] (λr _=>r=mG (ai w x)):=by
 have h3:=h.len;have hwo:=Bp w h.srv.hist.bV.small (h.srv.uJ z7) (h.lq hB) z7;have hW:ai w x=⟨w,bG 6⟩:=by unfold ai;rw[if_pos hb]
 rw[hW];unfold bI at hwo;unfold mG bI ZX;refine ZF tK (Tryz.func28) rfl (λC=>?_);simp only[Tryz.ntmps28,Tryz.results28,go_sem];refine wR ?_;refine wN tK 4 ?_;refine wR ?_;refine wN tK 11 ?_;refine bx 22 z6 (λc22 h22=>?_);simp only[go_sem];have hc:c22=true:=by
  rw[←h22]
  by_cases h1:x.client<0
  ·simp[h1]
  ·simp[h1];omega
 clear h22;refine wG tK ?_;refine wDT (hb:=(hc)) (hk:=?_);refine wG tK ?_;refine wC Tryz.func23 (hf:=(hwo)) (hk:=?_);refine wG tK ?_;refine bf (ct 5) ?_;simp only[go_sem];refine wT ?_;rfl
theorem Jt {B T:Nat} (w:Wor) (h:WInv B T w) (hB:B≤30000000) (hT:T≤800000000000) (x:Step) (hp:x.path.length≤10000000) (hq:x.toPath.length≤10000000) (hb:¬(x.client<0\/x.client≥w.cs.length)):ag Tryz.prog 28 [.agg (bI w),.agg (ZX x)] [] (λr _=>r=mG (ai w x)):=by
 have h3:=h.len;obtain ⟨k,cl,n,path,toPath,data⟩:=x;simp only at hb hp hq;obtain ⟨j,rfl⟩:∃j:Nat,cl=(j:Int):=⟨cl.toNat,by omega⟩;have hj:j<w.cs.length:=by omega
 have hu:=h.at hj;have hwo:=E9 w h.srv.hist.bV.small (h.srv.uJ z7) (h.lq hB) z7;have hst:=IZ (w.cs.getD j default) w.s hu hB hT ⟨k,j,n,path,toPath,data⟩ hp hq;have hinv:=ti hu ⟨k,j,n,path,toPath,data⟩;have hW:ai w ⟨k,j,n,path,toPath,data⟩=⟨⟨(ar ⟨w.cs.getD j default,w.s⟩ ⟨k,j,n,path,toPath,data⟩).u.s,(w.cs.set j (ar ⟨w.cs.getD j default,w.s⟩ ⟨k,j,n,path,toPath,data⟩).u.c).map (aS (ar ⟨w.cs.getD j default,w.s⟩ ⟨k,j,n,path,toPath,data⟩).u.s.tree)⟩,(ar ⟨w.cs.getD j default,w.s⟩ ⟨k,j,n,path,toPath,data⟩).r⟩:=by
  unfold ai;rw[if_neg hb];rfl
 have hcx:∀i,i<w.cs.length->SmallK (w.cs.getD i default).cache:=λi hi=>(h.lq hB _ (YG hi)).cache
 have hg0:(w.cs.map ZC).getD j []=ZC (w.cs.getD j default):=Fam.getD hj;rw[hW];generalize w.cs.getD j default=c0 at hst hinv hg0 ⊢;generalize ar ⟨c0,w.s⟩ ⟨k,j,n,path,toPath,data⟩=g at *;have hcg:SmallK g.u.c.cache:=(hinv.cli.lq z7).cache;have hts:=hinv.srv.hist.bV.small;have hfr0:=λl hl=>sc l g.u.s.tree hl hts
 -- the clients, with the one that stepped
 have hcs:∀i,i<(w.cs.set j g.u.c).length->SmallK ((w.cs.set j g.u.c).getD i default).cache:=λi hi=>by
  rw[Wp] at hi;rw[Z1,Wl]
  by_cases e:j=i
  ·subst e;rw[if_pos rfl,if_pos hi];exact hcg
  ·rw[if_neg e,←Z1];exact hcx i hi
 have hsetj:(w.cs.map ZC).set j (ZC g.u.c)=(w.cs.set j g.u.c).map ZC:=(List.map_set).symm;have hlen:(w.cs.set j g.u.c).length=w.cs.length:=Wp;have hfin:rj g.u.s.tree (w.cs.set j g.u.c) (w.cs.set j g.u.c).length=(w.cs.set j g.u.c).map (aS g.u.s.tree):=by unfold rj;rw[WA,List.drop_length,List.append_nil]
 rw[←hfin,hlen];clear hfin;generalize w.cs.set j g.u.c=cs at *;have hD0:rj g.u.s.tree cs 0=cs:=by unfold rj;simp
 have hDl:=λi=>@EH g.u.s.tree cs i
 have hDg:=λi=>@EG g.u.s.tree cs i
 have hDs:=λi=>@Cl g.u.s.tree cs i
 generalize rj g.u.s.tree cs=D at *;unfold Bf ZC ZQ ZX aj at hst;simp only[ZC] at hsetj;have hg1:=hg0;simp only[Z1,Z5,ZC] at hg1;unfold bI at hwo;unfold mG bI ZX aj;refine ZF tK (Tryz.func28) rfl (λC=>?_);simp only[Tryz.ntmps28,Tryz.results28,go_sem];refine wR ?_;refine wN tK 4 ?_;refine wR ?_;refine wN tK 11 ?_;refine bx 22 z6 (λc22 h22=>?_);simp only[go_sem];have hc:c22=false:=by
  rw[←h22];have h1:¬((j:Int)<0):=by omega
  simp[h1];omega
 clear h22;refine wG tK ?_;refine wDF (hb:=(hc)) (hk:=?_);refine wG tK ?_;refine wCG [] 100 Tryz.func23 (hf:=(hwo)) (hk:=?_);refine wG tK ?_;refine ZW ZM ?_;refine ZS rfl ?_;refine sNq tK 9 ?_ ?_ z6 z6 (by simp only[go_sem,hg0,ZC];try exact rfl)
 ·simp[hg0,hj,ZC]
 refine sC Tryz.func42 (hf:=(hst)) (hk:=?_);refine sN tK 4 ?_;refine sW tK ?_;refine sW tK ?_;refine sW tK ?_;refine sT tK ?_;refine sT tK ?_;refine sT tK ?_;refine sE ?_;refine wKd ?_
 try simp only[go_sem,gA,gB,gC]
 refine wG tK ?_;refine ZW ZM ?_;refine ZS rfl ?_;refine sNq tK 7 ?_ ?_
 ·simp[hj]
 refine kx tK rfl rfl z8 z8 z8 Qg z6 ?_ z6 z6 z6 ?_
 ·simp[hj]
 refine sN tK 1 ?_;refine sT tK ?_;refine sE ?_;refine wKd ?_
 try simp only[go_sem,gA,gB,gC]
 refine wG tK ?_;refine ZL (λi:Nat=>i≤w.cs.length) (λi=>w.cs.length-i) (λi=>(10,.any)::(11,.any)::(53,.int .i64 i)::u3 54 22 [])
  (λi=>[(122,.cells 47 10 ((D i).map ZC))]) 0 z7 ?_ λi hi=>?_
 ·rw[hD0];simp only[go_sem];exact ZU w4 (by simp[go_sem,hg1,hsetj]) w4
 simp only[go_sem];refine wG tK ?_;refine wD (λh=>?_) (λh=>?_)
 ·have hlt:i<cs.length:=by simp at h;omega
  have hw1:=wi1 (i:=i) z7;have hDl:=hDl i;have hat:=hDg i hlt;have bD:=hDs i hlt;have hcc:=hcs i hlt;generalize D i=E at *;have hE:i<E.length:=by omega
  have hg:(E.map ZC).getD i []=ZC (E.getD i default):=Fam.getD hE;rw[hat] at hg;generalize cs.getD i default=c at *;have hg2:=hg;simp only[Z1,Z5,ZC] at hg2;have hs1:(E.map ZC).set i (ZC (aS g.u.s.tree c))=(D (i+1)).map ZC:=by rw[bD];exact (List.map_set).symm
  have hl1:(D (i+1)).length=E.length:=by rw[bD,Wp]
  refine wGq tK ?_ ?_ n9
  ·simp[hg,ZC,hE];omega
  cases ha:c.away with
  | true=>
   have hfw:aS g.u.s.tree c=c:=by unfold aS;simp[ha]
   rw[hfw,←hat,Z1,Z2 hE,Option.getD_some,List.set_getElem_self] at bD;refine wDF (hb:=Qu) (hk:=?_);refine wG tK ?_ x7 QY;refine ZB ⟨i+1,by omega,by omega,ZU ?_ ?_ ?_⟩
   ·simp[go_sem]
   ·simp[go_sem,bD]
   ·simp[go_sem]
  | false=>
   have hfw:aS g.u.s.tree c={ c with cache:=c.cache.filter λk=>!dU g.u.s.tree k }:=by unfold aS fV;simp[ha]
   rw[hfw] at hs1;simp only[ZC] at hs1;refine wDT (hb:=Qu) (hk:=?_);refine wG tK ?_;refine ZW ZM ?_;refine ZS rfl ?_;refine sNq tK 7 ?_ ?_ z6 z6 n9
   ·simp[hg,ZC,hE]
   refine sC Tryz.func43 (hf:=(hfr0 _ hcc)) (hk:=?_);refine sNq tK 2 ?_ ?_ z6 z6 n9
   ·simp[hg,ZC,hE]
   refine kx tK rfl rfl z8 z8 z8 Qg z6 ?_ z6 z6 z6 ?_
   ·simp[hg,ZC,hE]
   refine sE ?_;refine wKd ?_
   try simp only[go_sem,gA,gB,gC]
   refine wG tK ?_ x7 QY;refine ZB ⟨i+1,by omega,by omega,ZU ?_ ?_ ?_⟩
   ·simp[go_sem]
   ·simp[go_sem,hg2,hs1]
   ·simp[go_sem]
 ·have e:i=w.cs.length:=by simp at h;omega
  subst e;have hZ:=hDl w.cs.length;generalize D w.cs.length=Z at *;have hle:w.cs.length≤Z.length:=by omega
  have htk:List.take w.cs.length (Z.map ZC)=Z.map ZC:=Z4 k7;refine ZZ 122 rfl (lK _) ?_;simp only[go_sem,hle,if_true,htk];refine wG tK ?_;refine ZW ZM ?_;refine ZS rfl ?_;refine sN tK 2 ?_;refine sT tK ?_;refine sT tK ?_;refine sE ?_;refine wKd ?_
  try simp only[go_sem,gA,gB,gC]
  refine wG tK ?_;refine wT ?_;rfl
theorem Ao {B T:Nat} (w:Wor) (h:WInv B T w) (hB:B≤30000000) (hT:T≤800000000000) (x:Step) (hp:x.path.length≤10000000) (hq:x.toPath.length≤10000000):ag Tryz.prog 28 [.agg (bI w),.agg (ZX x)] [] (λr _=>r=mG (ai w x)):=by
 by_cases hb:x.client<0\/x.client≥w.cs.length
 ·exact Ig w h hB x hb
 ·exact Jt w h hB hT x hp hq hb
noncomputable def sO (rooms:List Int) (l:List Step):AV:=.tup [.agg (bI (sP rooms l)),.sl ((A7 rooms l).map aj),.int .i64 (jy rooms l)]
theorem E_ (rooms:List Int) (hr:rooms.length≤100000000) (l:List Step) (hl:l.length≤100000000) (he:jy rooms l≠0):ag Tryz.prog 16 [.sl (rooms.map ZI),.sl (l.map ZX)] [] (λr _=>r=sO rooms l):=by
 have hn:=Bo rooms hr;unfold A6 at hn;have hE:jy rooms l=if cz rooms≠0 then cz rooms else if 80<l.length then 5 else 0:=rfl;unfold sO sP A7;rw[if_neg he,if_neg he];generalize jy rooms l=e at *;generalize hW0:(if cz rooms=0 then bo rooms else Fb)=W0 at *;generalize cz rooms=E at *;unfold bI at hn;refine ag.kV (X:=.tup [.agg [.nils,.int .i64 0,.nils,.nils],.nils,.int .i64 e]) ?_ rfl;refine ZF tK (Tryz.func16) rfl (λC=>?_);simp only[Tryz.ntmps16,Tryz.results16,go_sem];refine wG tK ?_;refine wC Tryz.func17 (hf:=(hn)) (hk:=?_);refine wG tK ?_
 by_cases h0:E=0
 ·subst h0;rw[if_neg y7] at hE;have h80:80<l.length:=by
   by_cases h8:80<l.length
   ·exact h8
   ·rw[if_neg h8] at hE;exact absurd hE he
  rw[if_pos h80] at hE;subst hE;refine wDF (hb:=y7) (hk:=?_);refine wG tK ?_;refine wDT (hb:=k7) (hk:=?_);refine wG tK ?_;refine wT ?_;rfl
 ·rw[if_pos h0] at hE;subst hE;refine wDT (hb:=(by simp[h0])) (hk:=?_);refine wG tK ?_;refine wT ?_;rfl
theorem CY (rooms:List Int) (hr:rooms.length≤100000000) (l:List Step) (hl:StepsOK l) (he:jy rooms l=0):ag Tryz.prog 16 [.sl (rooms.map ZI),.sl (l.map ZX)] [] (λr _=>r=sO rooms l):=by
 have hn:=Bo rooms hr;unfold A6 at hn;obtain ⟨hE,hll⟩:=sQ he;unfold sO sP A7;rw[if_pos he,if_pos he,he];rw[hE,if_pos rfl] at hn;have hFi:=λi=>@tQ rooms hE l i
 have hFs:=λi=>@Cj (bo rooms) l i
 have hRs:=λi=>@EE (bo rooms) l i
 have hF0:bO (bo rooms) (l.take 0)=bo rooms:=rfl;have hR0:rsW (bo rooms) (l.take 0)=[]:=rfl;have hRl:∀i,i≤l.length->(rsW (bo rooms) (l.take i)).length=i:=λi hi=>by rw[jC,WO];omega
 rw[show bO (bo rooms) l=bO (bo rooms) (l.take l.length) by rw[WA],show rsW (bo rooms) l=rsW (bo rooms) (l.take l.length) by rw[WA]];generalize hF:(λi=>bO (bo rooms) (l.take i))=F at *;have hFe:∀i,bO (bo rooms) (l.take i)=F i:=λi=>by rw[←hF]
 simp only[hFe] at *;generalize hR:(λi=>rsW (bo rooms) (l.take i))=R at *;have hRe:∀i,rsW (bo rooms) (l.take i)=R i:=λi=>by rw[←hR]
 simp only[hRe] at *;rw[←hF0] at hn;clear hF0 hF hFe hR hRe;unfold bI at hn;refine ZF tK (Tryz.func16) rfl (λC=>?_);simp only[Tryz.ntmps16,Tryz.results16,go_sem];refine wG tK ?_;refine wC Tryz.func17 (hf:=(hn)) (hk:=?_);refine wG tK ?_;refine wDF (hb:=y7) (hk:=?_);refine wG tK ?_;refine wDF (hb:=k7) (hk:=?_);refine wG tK ?_;refine ZL (λi:Nat=>i≤l.length) (λi=>l.length-i) (λi=>(9,.osl 43 4 0 (R i).length)::(11,.any)::(12,.any)::(13,.any)::(29,.int .i64 i)::u3 30 15 [])
  (λi=>[(7,.cells 35 4 [bI (F i)]),(43,.cells 42 4 ((R i).map aj))]) 0 z7 ?_ λi hi=>?_
 ·unfold bI;rw[hR0];simp only[go_sem];exact ZU w4 w4 w4
 unfold bI;simp only[go_sem];refine wG tK ?_;refine wD (λh=>?_) (λh=>?_)
 ·have hlt:i<l.length:=by simp at h;omega
  have hg:(l.map ZX).getD i []=ZX (l.getD i default):=Fam.getD hlt;have how':=wi1 (i:=i) z7;have hpx:=hl.path (l.getD i default) (YG hlt);have hw:=Ao (F i) (hFi i) z7 z7 (l.getD i default) hpx.1 hpx.2;have hs1:=hFs i hlt;have hs2:=hRs i hlt;have hl1:=hRl i hi;generalize l.getD i default=x at *;unfold mG bI ZX aj at hw;generalize ai (F i) x=g at *;generalize R i=Q at *;have htq:List.take Q.length (Q.map aj)=Q.map aj:=Z4 y7;refine wR ?_;refine wNq tK 4 ?_ ?_ z6 z6 (by simp only[go_sem,hg,ZX];try exact rfl)
  ·simp[hg,ZX,hlt]
  refine wG tK ?_;refine wC Tryz.func28 (hf:=(hw)) (hk:=?_);refine wGq tK ?_ ?_ j0
  ·simp[htq,refs];omega
  refine ZB ⟨i+1,by omega,by omega,ZU ?_ ?_ ?_⟩
  ·simp[go_sem,hs2]
  ·simp[go_sem,hs1,hs2,htq,bI,aj]
  ·simp[go_sem]
 ·have e:i=l.length:=by simp at h;omega
  subst e;generalize R l.length=Q at *;have htq:List.take Q.length (Q.map aj)=Q.map aj:=Z4 y7;refine wG tK ?_;refine ZZ 43 rfl (tP _) ?_;simp only[go_sem,htq];refine wT ?_;rfl
theorem yR (rooms:List Int) (hr:rooms.length≤100000000) (l:List Step) (hl:StepsOK l):ag Tryz.prog 16 [.sl (rooms.map ZI),.sl (l.map ZX)] [] (λr _=>r=sO rooms l):=by
 have:=hl.len
 by_cases he:jy rooms l=0
 ·exact CY rooms hr l hl he
 ·exact E_ rooms hr l z7 he
theorem bS (x:Step):(ZX x).length=6:=rfl
theorem bT (x:Step):∀y,y∈ZX x->y.leaf=true:=λy hy=>by
 simp only[ZX,List.mem_cons,List.not_mem_nil,or_false] at hy
 rcases hy with rfl | rfl | rfl | rfl | rfl | rfl<;>rfl
theorem gv {rooms:List Int} {l:List Step} {rs:List Reply} (hr:rooms.length≤100000000) (hl:StepsOK l) (he:cz rooms=0) (h80:l.length≤80) (hrs:rsW (bo rooms) l=rs) :
  ag Tryz.prog 16 [.sl (rooms.map ZI),.sl (l.map ZX)] [] (λr _=>r=.tup [.agg (bI (bO (bo rooms) l)),.sl (rs.map aj),.int .i64 0]):=by
 have hE:jy rooms l=0:=by unfold jy;rw[if_neg (by simpa using he),if_neg z7]
 have:=yR rooms hr l hl;unfold sO sP A7 at this;rw[if_pos hE,if_pos hE,hE,hrs] at this;exact this
def l13:List Step:=[⟨3,0,0,[47,97],[],[120]⟩,⟨1,0,0,[47,97],[],[]⟩]
theorem I':rsW (bo [4]) l13=[⟨0,0,0,[]⟩,⟨0,0,0,[120]⟩]:=by kernel_rfl
theorem ru:ag Tryz.prog 13 [] [] (λr _=>r=.bool true):=by
 have s1:=aV 0 3 [47,97] [120];have s2:=aV 0 1 [47,97] [];have hp:=gv (rooms:=[4]) (l:=l13) j6 ⟨by decide,λx hx=>by
  simp only[l13,List.mem_cons,List.not_mem_nil,or_false] at hx
  rcases hx with rfl | rfl<;>exact ⟨by decide,by decide⟩⟩ rfl j6 I'
 generalize bO (bo [4]) l13=W at *;unfold bI at hp;simp only[l13,ZX,aj,List.map_cons,List.map_nil,ZY,ZI] at s1 s2 hp;refine ZF tK (Tryz.func13) rfl (λC=>?_);simp only[Tryz.ntmps13,Tryz.results13,go_sem];refine wG tK ?_;refine wC Tryz.func15 (hf:=(s1)) (hk:=?_);refine wG tK ?_;refine wC Tryz.func15 (hf:=(s2)) (hk:=?_);refine wG tK ?_;refine ZZ 5 rfl (rfl) ?_;refine ZZ 8 rfl (rfl) ?_;simp only[go_sem];refine wC Tryz.func16 (hf:=(hp)) (hk:=?_);refine wGq tK ?_ ?_
 ·simp[vd]
 refine wT ?_;rfl
end La
