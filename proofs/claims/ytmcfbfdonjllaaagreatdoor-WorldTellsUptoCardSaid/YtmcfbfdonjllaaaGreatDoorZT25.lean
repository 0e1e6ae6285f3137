/- Texts of this claim, part 25: RTake, RBack, RStep, RStepR, RWorld, NewS, RNew, RBuild, RRight, RSameC. No condition. -/
import Derived.Test.YtmcfbfdonjllaaaGreatDoorZT24
import Derived.Test.YtmcfbfdonjllaaaGreatDoorZT23
set_option maxRecDepth 10000
set_option maxHeartbeats 4000000
set_option linter.unusedSimpArgs false
set_option linter.unusedVariables false
namespace La
open Go Go.Eng Go.Proofs
theorem Eh {k:Nat} (s:Srv) (h:SrvOK k s) (hk:k≤70000000) (c:Int) (log:List Rec) (hl2:log.length≤2000000) (hfit:∀r,r∈log->ActFit r.act) :
  ae Tryz.prog 99 [.agg (ZQ s),.int .i64 c,.sl (log.map ZR)] []
   (λr _=>r=.tup [.agg (ZQ (ll s c log)),.sl ((bS s.tree s.next ((s.past.length+1:Nat):Int) log).vs.map ZV)]):=by
 have hlen:=h.len;have hnx:=h.next;have hg:=h.hist.bF;have hof:=um s.tree (by have:=hg.len;omega);have hj:=B8 s.past s.tree s.next log h.hist z8 z8 hl2 hfit;have hji:=JInv.rV h.hist c s.next log hfit;have hinv:=hji.len;have hls:=qR (bS s.tree s.next ((s.past.length+1:Nat):Int) log).j.l hji.hist.bF.up (by have:=hji.hist.bF.len;omega);clear hji;have hT:ll s c log=⟨(bS s.tree s.next ((s.past.length+1:Nat):Int) log).j.l,(bS s.tree s.next ((s.past.length+1:Nat):Int) log).j.next,fu s c (bS s.tree s.next ((s.past.length+1:Nat):Int) log).done (bS s.tree s.next ((s.past.length+1:Nat):Int) log).done.length⟩:=by
  unfold ll fu;rw[Wo]
 have hwp:IntKind.i64.wrap ((s.past.length:Int)+1)=((s.past.length+1:Nat):Int):=by rw[Eng.wrap_small z8 z8];rfl
 rw[hT];clear hT;unfold vh at hj;unfold ZQ;generalize bS s.tree s.next ((s.past.length+1:Nat):Int) log=g at *;have hsu:=λi=>@qe s c g.done i
 have hle:=λi=>@sj s c g.done i
 have hz:fu s c g.done 0=s.past:=by simp[fu]
 generalize fu s c g.done=P at *;refine ZF tK (Tryz.func99) rfl (λC=>?_);simp only[Tryz.ntmps99,Tryz.results99,go_sem];refine wG tK ?_;refine ZW ZM ?_;refine ZS rfl ?_;refine sN tK 2 ?_;refine sC Tryz.func27 (hf:=(hof)) (hk:=?_);refine sN tK 7 ?_ z6 z6 QN Ze;refine sC Tryz.func137 (hf:=(hj)) (hk:=?_);refine sW tK ?_;refine sT tK ?_;refine sE ?_;refine wKd ?_
 try simp only[go_sem,gA,gB,gC]
 refine wG tK ?_;refine ZW ZM ?_;refine kS [(28,[28])] rfl (Be WY) ?_;refine zN tK 2 (hk:=?_);refine zC Tryz.func97 (hf:=(hls)) (hk:=?_);refine zN tK 2 (hk:=?_);refine zW tK (hk:=?_);refine zN tK 2 (hk:=?_);refine zA tK (h2:=?_) (h4:=?_) (h5:=?_) (h7:=?_) (h8:=?_) (hzz:=?_) (hn:=rfl) (hr:=rfl) (hk:=?_)
 ·exact iP _
 ·exact kN _
 ·rw[show tab.byt 79=96 from rfl];simp;omega
 ·simp
 ·exact bz 28 s.past
 ·intro z hz;simp only[List.mem_cons,List.not_mem_nil,or_false] at hz;subst hz;exact .inl ⟨by decide,bz 28 s.past⟩
 refine zB tK (hk:=?_);refine zW tK (hk:=?_);refine oA w4 z6 ?_;refine dS tK ?_;refine wKd ?_
 try simp only[go_sem,gA,gB,gC]
 refine wG tK ?_;refine ag (zr 31 46 9 z6 z7 z7 z6 QT QT rfl z7 QM QM) ?_;refine ZL (λi:Nat=>i≤g.done.length) (λi=>g.done.length-i) (λi=>(11,.any)::(31,.any)::(36,.int .i64 i)::u0 37 12 [])
  (λi=>[(9,.cells 32 3 [[.sl (g.j.l.map ZN),.int .i64 g.j.next,.osl 46 8 0 (P i).length]]),(46,.cells 79 8 ((P i).map ZP))]) 0 z8 ?_ λi hi=>?_
 ·rw[hz];simp only[go_sem];exact ZU w3 w3 w3
 simp only[go_sem];refine wG tK ?_;refine wD (λh=>?_) (λh=>?_)
 ·have hlt:i<g.done.length:=by simp at h;omega
  have hg:(g.done.map ZA).getD i []=ZA (g.done.getD i default):=Fam.getD hlt;have hs1:=hsu i hlt;have hl1:=hle i z8;have how':=wi1 (i:=i) z8;generalize g.done.getD i default=a at *;generalize P i=Q at *;refine wR ?_;refine wNq tK 4 ?_ ?_ z6 z6 (by simp only[go_sem,hg,ZA];try exact rfl)
  ·simp[hg,ZA,hlt]
  refine wR ?_;refine wN tK 6 ?_;refine ag (bh 46 9 z6 k9) ?_;refine wGq tK ?_ ?_ j5
  ·simp[rowsOf,ZP];omega
  refine ZB ⟨i+1,by omega,by omega,ZU ?_ ?_ ?_⟩
  ·simp[go_sem]
  ·simp[go_sem,hs1,ZP,Wo]
  ·simp[go_sem]
 ·have e:i=g.done.length:=by simp at h;omega
  subst e;refine wG tK ?_;refine ZZ 46 rfl (dM _) ?_;simp only[go_sem];refine ZW ZM ?_;refine ZS rfl ?_;refine sN tK 3 ?_;refine sT tK ?_;refine sG tK ?_;refine sE ?_;refine wKd ?_
  try simp only[go_sem,gA,gB,gC]
  refine wG tK ?_;refine wT ?_;simp
variable {Fa:Prop}
def tu (log:List Rec) (vs:List Verdict) (i:Nat):List Rec:=cz (log.take i) (vs.take i)
def hX (vs:List Verdict) (i:Nat):Nat:=fe (vs.take i)
theorem mX (r:Rec) (v:Verdict):∀{l:List Rec} {vs:List Verdict},l.length=vs.length->cz (l++[r]) (vs++[v])=cz l vs++if v.err=0 then [] else [r]
 | [],[],_=>by
  simp only[List.nil_append,cz]
  first | done | (split<;>rfl)
 | [],_::_,h=>by simp at h
 | _::_,[],h=>by simp at h
 | a::l,b::vs,h=>by
  have ih:=mX r v (l:=l) (vs:=vs) v8;simp only[List.cons_append,cz];rw[ih];split
  ·rfl
  ·rfl
theorem B1 {log:List Rec} {vs:List Verdict} {i:Nat} (h:i<vs.length) (hl:vs.length=log.length):tu log vs (i+1)=if (vs.getD i default).err=0 then tu log vs i else tu log vs i++[log.getD i default]:=by
 unfold tu;rw[ZT h,ZT (show i<log.length by omega),mX _ _ j0];split
 ·rw[List.append_nil]
 ·rfl
theorem rE {vs:List Verdict} {i:Nat} (h:i<vs.length):hX vs (i+1)=if (vs.getD i default).err=0 then hX vs i+1 else hX vs i:=by
 unfold hX fe;rw[ZT h,List.filter_append,List.length_append];generalize vs.getD i default=v
 by_cases e:v.err=0
 ·rw[if_pos e];simp[e]
 ·rw[if_neg e];simp[e]
theorem wA (vs:List Verdict) (i:Nat) (h:i≤vs.length):hX vs i≤i:=by
 unfold hX fe;have:=Wr (λv:Verdict=>v.err==0) (vs.take i);rw[Wv] at this;omega
theorem oo:∀(l:List Rec) (vs:List Verdict),(cz l vs).length≤l.length
 | [],_=>by simp[cz]
 | _::_,[]=>by simp[cz]
 | a::l,b::vs=>by
  have ih:=oo l vs;simp only[cz];split
  ·simp only[List.length_cons];omega
  ·simp only[List.length_cons];omega
theorem D5 (log:List Rec) (vs:List Verdict) (i:Nat):(tu log vs i).length≤log.length:=YW (oo _ _) QK
def mO (c:Cli) (vs:List Verdict) (i:Nat):List Rec:=c.repair++tu c.log vs i
theorem uv {c:Cli} {vs:List Verdict} {i:Nat} (h:i<vs.length) (hl:vs.length=c.log.length):mO c vs (i+1)=if (vs.getD i default).err=0 then mO c vs i else mO c vs i++[c.log.getD i default]:=by
 unfold mO;rw[B1 h hl];split
 ·rfl
 ·rw[YQ]
theorem yc (c:Cli) (vs:List Verdict) (i:Nat):(mO c vs i).length≤c.repair.length+c.log.length:=by
 unfold mO;rw[List.length_append];have:=D5 c.log vs i;omega
def wh (u:U) (l:List Rec):U:=⟨{ u.c with repair:=l },u.s⟩
theorem D1 {B T:Nat} (u:U) (h:UInvF Fa B T u) (hB:B≤40000000) (G Y N:Nat->Nat):ae Tryz.prog 63 [.ptr 900 13 0 0] (uH u G Y N)
  (λr H=>r=.tup [.int .i64 (fe (aL u)),.int .i64 ((aL u).length-fe (aL u):Nat)]/\Holds (uH (lf u) G Y N) H):=by
 have hci:=h.cli;have hll:=hci.log;have hfit:∀r,r∈u.c.log->ActFit r.act:=λr hr=>(hci.logS r hr).fit
 have htk:=Eh u.s h.srv z8 u.c.number u.c.log z8 hfit;have hvl:(aL u).length=u.c.log.length:=(JInv.rV h.srv.hist u.c.number u.s.next u.c.log hfit).vlen;have hs2:=h.srv.take u.c.number hfit;have hrep:=hci.rep;have hcl:u.c.cache.length≤24:=by have:=hci.len;have:=hci.room;omega
 have hbU:lf u=⟨{ u.c with away:=false,log:=[],repair:=mO u.c (aL u) (aL u).length,cache:=(u.c.cache.filter λk=>!k.dirty).filter λk=>!bE (g_ u).tree k },g_ u⟩:=by
  unfold lf mO tu;rw[Wo,hvl,Wo]
 have hdn:fe (aL u)=hX (aL u) (aL u).length:=by unfold hX;rw[Wo]
 rw[hbU,hdn];have hst:∀i,i<(aL u).length->_:=λi hi=>uv (c:=u.c) hi hvl
 have hsd:∀i,i<(aL u).length->_:=λi hi=>rE (vs:=aL u) hi
 have hdl:=wA (aL u);have hrl:=yc u.c (aL u);have h0:mO u.c (aL u) 0=u.c.repair:=by simp[mO,tu,cz]
 have h00:hX (aL u) 0=0:=by simp[hX,fe]
 have hof:=um (g_ u).tree (by have:=hs2.hist.bF.len;unfold g_;omega);have hfr:=nw (u.c.cache.filter λk=>!k.dirty) (g_ u).tree (YW (Wr _ _) z8) hs2.hist.bF.up;unfold aL at *;unfold g_ at *;generalize (bS u.s.tree u.s.next ((u.s.past.length+1:Nat):Int) u.c.log).vs=vs at *;generalize ll u.s u.c.number u.c.log=s2 at *;generalize mO u.c vs=R at *;generalize hX vs=D at *;clear hbU hdn;unfold ZQ at htk;unfold uH bo;refine ZF tK (Tryz.func63) rfl (λC=>?_);simp only[Tryz.ntmps63,Tryz.results63,go_sem];refine wG tK ?_;refine ZW ZM ?_;refine ZS rfl ?_;refine sN tK 14 ?_;refine sC Tryz.func99 (hf:=(htk)) (hk:=?_);refine sN tK 3 ?_;refine sW tK ?_;refine sT tK ?_;refine sG tK ?_;refine sE ?_;refine wKd ?_
 try simp only[go_sem,gA,gB,gC]
 refine wG tK ?_;refine ZL (λi:Nat=>i≤vs.length) (λi=>vs.length-i) (λi=>(6,.int .i64 (D i:Nat))::(7,.any)::(8,.any)::(32,.int .i64 i)::u0 33 31 [])
  (λi=>[(900,.cells 121 13 [bo (wh u (R i))])]) 0 z8 ?_ λi hi=>?_
 ·rw[h00];unfold bo wh;rw[h0];simp only[go_sem];exact ZU w3 w3 w3
 unfold bo wh;simp only[go_sem];refine wG tK ?_;refine wD (λh=>?_) (λh=>?_)
 ·have hlt:i<vs.length:=by simp at h;omega
  have hlt2:i<u.c.log.length:=by omega
  have hg:(vs.map ZV).getD i []=ZV (vs.getD i default):=Fam.getD hlt;have hgl:(u.c.log.map ZR).getD i []=ZR (u.c.log.getD i default):=Fam.getD hlt2;have hs1:=hst i hlt;have hs3:=hsd i hlt;have hl1:=hdl i z8;have hl2:=hrl i;have how':=wi1 (i:=i) z8;have hwd:IntKind.i64.wrap ((D i:Int)+1)=((D i+1:Nat):Int):=by rw[Eng.wrap_small z8 z8];rfl
  generalize u.c.log.getD i default=r at *;generalize vs.getD i default=v at *;generalize R i=Q at *;refine wR ?_;refine wNq tK 6 ?_ ?_ z6 z6 (by simp only[go_sem,hg,ZV];try exact rfl)
  ·simp[hg,ZV,hlt]
  refine wG tK ?_
  by_cases he:v.err=0
  ·rw[if_pos he] at hs1 hs3;refine wDT (hb:=QL) (hk:=?_);refine wG tK ?_ (by simp only[go_sem,hwd,how'];try exact rfl) (by simp[go_sem,hwd,how']);refine ZB ⟨i+1,by omega,by omega,ZU ?_ ?_ ?_⟩
   ·simp[go_sem,hs3]
   ·simp[go_sem,hs1,bo,wh]
   ·simp[go_sem]
  ·rw[if_neg he] at hs1 hs3;have hnr2:∀id,bK id (.cells 51 9 (List.take Q.length (Q.map ZR)++[ZR r])):=λid=>by
    rw[show List.take Q.length (Q.map ZR)++[ZR r]=(Q++[r]).map ZR by simp];exact ik id _
   refine wDF (hb:=QL) (hk:=?_);refine wG tK ?_;refine ZW ZM ?_;refine kS [(43,[43]),(49,[49])] rfl (Be WY) ?_;refine zN tK 1 (hk:=?_);refine zW tK (hk:=?_);refine zN tK 5 (hk:=?_);refine zA tK (h2:=?_) (h4:=?_) (h5:=?_) (h7:=?_) (h8:=?_) (hzz:=?_) (hn:=rfl) (hr:=rfl) (hk:=?_)
   ·exact tt _
   ·exact x' _
   ·rw[show tab.byt 51=104 from rfl];simp;omega
   ·simp
   ·exact ik 43 _
   ·intro z hz;simp only[List.mem_cons,List.not_mem_nil,or_false] at hz
    rcases hz with rfl | rfl
    ·exact .inl ⟨by decide,ik 43 _⟩
    ·exact .inr ⟨rfl,by decide⟩
   refine zN tK 6 (hk:=?_);refine zN tK 2 (h:=by simp only[go_sem,hgl,ZR];try exact rfl) (hp:=?_) (hk:=?_)
   ·simp[hgl,ZR,hlt2]
   refine zW tK (hk:=?_);refine zA tK (h2:=?_) (h4:=?_) (h5:=?_) (h7:=?_) (h8:=?_) (hzz:=?_) (hn:=rfl) (hr:=rfl) (hk:=?_)
   ·intro row h;simp at h;subst h;rfl
   ·rfl
   ·rw[show tab.byt 51=104 from rfl];simp;omega
   ·simp
   ·exact hnr2 49
   ·intro z hz;simp only[List.mem_cons,List.not_mem_nil,or_false] at hz
    rcases hz with rfl | rfl
    ·exact .inl ⟨by decide,hnr2 43⟩
    ·exact .inl ⟨by decide,hnr2 49⟩
   refine zN tK 3 (hk:=?_);refine oA w4 z6 ?_;refine dS tK ?_;refine wKd ?_
   try simp only[go_sem,gA,gB,gC]
   refine ZZ 59 rfl (by rw[List.all_append,cS];rfl) ?_;simp only[go_sem];refine wG tK ?_ j5 Qf;refine ZB ⟨i+1,by omega,by omega,ZU ?_ ?_ ?_⟩
   ·simp[go_sem,hs3]
   ·simp[go_sem,hs1,bo,wh,ZR];exact Wl y7
   ·simp[go_sem]
 ·have e:i=vs.length:=by simp at h;omega
  subst e;clear hst hsd;have hl1:=hdl vs.length (Wt _);generalize hD:D vs.length=d at *;generalize R vs.length=Q at *;refine wG tK ?_;refine ag (le_empty 80 138 8 z7) ?_;simp only[go_sem];refine ZL (λi:Nat=>i≤u.c.cache.length) (λi=>u.c.cache.length-i) (λi=>(9,.osl 80 8 0 ((u.c.cache.take i).filter λk=>!k.dirty).length)::(11,.any)::(70,.int .i64 i)::u0 71 11 []) (λi=>[(80,.cells 138 8 (((u.c.cache.take i).filter λk=>!k.dirty).map ZK))]) 0 z8 ?_ λi hi=>?_
  ·simp only[go_sem];exact ZU w3 w3 w3
  simp only[go_sem];refine wG tK ?_;refine wD (λh=>?_) (λh=>?_)
  ·have hlt:i<u.c.cache.length:=by simp at h;omega
   have hg:(u.c.cache.map ZK).getD i []=ZK (u.c.cache.getD i default):=Fam.getD hlt;have hw:=wi1 (i:=i) z8;have htk2:(u.c.cache.take (i+1)).filter (λk=>!k.dirty)=(u.c.cache.take i).filter (λk=>!k.dirty)++if (u.c.cache.getD i default).dirty=true then [] else [u.c.cache.getD i default]:=by
    rw[ZT hlt,List.filter_append,List.filter_cons];cases (u.c.cache.getD i default).dirty<;>simp
   have hll2:((u.c.cache.take i).filter λk=>!k.dirty).length≤i:=by
    have:=Wr (λk:Kept=>!k.dirty) (u.c.cache.take i);simp only[Wv] at this;omega
   generalize (u.c.cache.take i).filter (λk=>!k.dirty)=F at htk2 hll2;generalize u.c.cache.getD i default=k at hg htk2;have htq:List.take F.length (F.map ZK)=F.map ZK:=Wl y7;refine wR ?_;refine wNq tK 4 ?_ ?_ z6 z6 x9
   ·simp[hg,ZK,hlt]
   refine wG tK ?_;cases hd:k.dirty with
   | true=>
    rw[hd,if_pos rfl,List.append_nil] at htk2;refine wDF (hb:=(rfl)) (hk:=?_);refine wG tK ?_ w5 k0;refine ZB ⟨i+1,by omega,by omega,ZU ?_ ?_ ?_⟩
    ·simp[go_sem,htk2]
    ·simp[go_sem,htk2]
    ·simp[go_sem]
   | false=>
    rw[hd,if_neg y7] at htk2;refine wDT (hb:=(rfl)) (hk:=?_);refine wGq tK ?_ ?_ w5
    ·simp[htq,refs];omega
    refine ZB ⟨i+1,by omega,by omega,ZU ?_ ?_ ?_⟩
    ·simp[go_sem,htk2]
    ·simp[go_sem,htk2,htq,ZK,hd]
    ·simp[go_sem]
  ·have e:i=u.c.cache.length:=by simp at h;omega
   subst e;rw[Wo];refine wG tK ?_;refine ZZ 80 rfl (bc _) ?_;simp only[go_sem];refine ZW ZM ?_;refine je 2 [0,1,3,4,5,6,7,8,9,10,11,12,13,14] [0,1,0,2,3,4,5,6,7,8,9,10,11,12,13] rfl rfl rfl (λ_ _ _ h=>h) w4 w4 x6 z7 ?_
   try simp only[go_sem,gA,gB,gC]
   refine je 1 [0,2,3,4,5,6,7,8,9,10,11,12,13] [0,0,1,2,3,4,5,6,7,8,9,10,11,12] rfl rfl rfl (λ_ _ _ h=>h) w4 w4 x6 z7 ?_
   try simp only[go_sem,gA,gB,gC]
   refine ZS rfl ?_;refine sN tK 5 ?_;refine sT tK ?_;refine sN tK 3 ?_;refine sT tK ?_;refine sN tK 2 ?_;refine sT tK ?_;refine sE ?_;refine wKd ?_
   try simp only[go_sem,gA,gB,gC]
   refine wG tK ?_;refine wC Tryz.func27 (hf:=(hof)) (hk:=?_);refine wG tK ?_;refine wC Tryz.func39 (hf:=(hfr)) (hk:=?_);have hwl:IntKind.i64.wrap ((vs.length:Int)-(d:Int))=((vs.length-d:Nat):Int):=by rw[Eng.wrap_small z8 z8];omega
   refine wG tK ?_ (by simp only[go_sem,hwl];try exact rfl) (by simp[go_sem,hwl]);refine ag (au 900) ?_;simp only[go_sem];refine wU ?_ ?_
   ·rfl
   ·exact q9
variable {Fa:Prop}
def gh (g:GotS):AV:=.tup [.agg (ZC g.u.c),.agg (ZQ g.u.s),.agg (ar g.r)]
theorem IJ (c:Cli) (s:Srv) (x:Step) (hk:x.kind=7):ae Tryz.prog 38 [.agg (ZC c),.agg (ZQ s),.agg (ZX x)] [] (λr _=>r=gh (av ⟨c,s⟩ x)):=by
 obtain ⟨k,cl,n,path,toPath,data⟩:=x;simp only at hk;subst hk;have hW:av ⟨c,s⟩ ⟨7,cl,n,path,toPath,data⟩=⟨⟨{ c with away:=true },s⟩,cx 0⟩:=by unfold av;rfl
 rw[hW];unfold ZC ZQ ZX;refine ZF tK (Tryz.func38) rfl (λC=>?_);simp only[Tryz.ntmps38,Tryz.results38,go_sem];refine wG tK ?_;refine ag (dj 22 900) ?_;refine ag (au 10) ?_;simp only[go_sem];refine wDF (hb:=(rfl)) (hk:=?_);refine wG tK ?_;refine wDF (hb:=(rfl)) (hk:=?_);refine wG tK ?_;refine wDF (hb:=(rfl)) (hk:=?_);refine wG tK ?_;refine wDF (hb:=(rfl)) (hk:=?_);refine wG tK ?_;refine wDF (hb:=(rfl)) (hk:=?_);refine wG tK ?_;refine wDF (hb:=(rfl)) (hk:=?_);refine wG tK ?_;refine wDT (hb:=(rfl)) (hk:=?_);refine wG tK ?_;refine ZW ZM ?_;refine ZS rfl ?_;refine sN tK 9 ?_;refine sT tK ?_;refine sT tK ?_;refine sT tK ?_;refine sE ?_;refine wKd ?_
 try simp only[go_sem,gA,gB,gC]
 refine wG tK ?_;refine wT ?_;rfl
theorem IF {B T:Nat} (c:Cli) (s:Srv) (h:UInvF Fa B T ⟨c,s⟩) (hB:B≤30000000) (hT:T≤800000000000) (x:Step) (hp:x.path.length≤10000000) (hk:x.kind=3):ae Tryz.prog 38 [.agg (ZC c),.agg (ZQ s),.agg (ZX x)] [] (λr _=>r=gh (av ⟨c,s⟩ x)):=by
 obtain ⟨k,cl,n,path,toPath,data⟩:=x;simp only at hk hp;subst hk;have hW:av ⟨c,s⟩ ⟨3,cl,n,path,toPath,data⟩=⟨(cB ⟨c,s⟩ path data).u,cx (cB ⟨c,s⟩ path data).e⟩:=by unfold av;rfl
 have hw:=Cg ⟨c,s⟩ h hB hT path data hp;rw[hW];generalize cB ⟨c,s⟩ path data=w at *;unfold uH bo at hw;unfold ZC ZQ ZX;refine ZF tK (Tryz.func38) rfl (λC=>?_);simp only[Tryz.ntmps38,Tryz.results38,go_sem];refine wG tK ?_;refine ag (dj 22 900) ?_;refine ag (au 10) ?_;simp only[go_sem];refine wDF (hb:=(rfl)) (hk:=?_);refine wG tK ?_;refine wDF (hb:=(rfl)) (hk:=?_);refine wG tK ?_;refine wDT (hb:=(rfl)) (hk:=?_);refine wG tK ?_;refine wP [900] Tryz.func59 (hf:=(hw)) (hk:=?_);refine wG tK ?_;refine ZW ZM ?_;refine ZS rfl ?_;refine sN tK 9 ?_;refine sT tK ?_;refine sT tK ?_;refine sT tK ?_;refine sE ?_;refine wKd ?_
 try simp only[go_sem,gA,gB,gC]
 refine wG tK ?_;refine wT ?_;rfl
theorem IG {B T:Nat} (c:Cli) (s:Srv) (h:UInvF Fa B T ⟨c,s⟩) (hB:B≤30000000) (hT:T≤800000000000) (x:Step) (hp:x.path.length≤10000000) (hk:x.kind=4):ae Tryz.prog 38 [.agg (ZC c),.agg (ZQ s),.agg (ZX x)] [] (λr _=>r=gh (av ⟨c,s⟩ x)):=by
 obtain ⟨k,cl,n,path,toPath,data⟩:=x;simp only at hk hp;subst hk;have hW:av ⟨c,s⟩ ⟨4,cl,n,path,toPath,data⟩=⟨(gm ⟨c,s⟩ path).u,cx (gm ⟨c,s⟩ path).e⟩:=by unfold av;rfl
 have hM:gm ⟨c,s⟩ path=if (ai ⟨c,s⟩ path).e≠0 then ⟨(ai ⟨c,s⟩ path).e,(ai ⟨c,s⟩ path).u⟩ else cY (ai ⟨c,s⟩ path).u (hY (ai ⟨c,s⟩ path).n.fid (ai ⟨c,s⟩ path).name) (-1):=rfl;have hd:=lX ⟨c,s⟩ h z8 z8 path hp;have hdi:=cw h path;have hnm:=bI ⟨c,s⟩ path;rw[hW];generalize gm ⟨c,s⟩ path=w at *;generalize ai ⟨c,s⟩ path=d at *;unfold uH bo at hd;unfold ZC ZQ ZX;refine ZF tK (Tryz.func38) rfl (λC=>?_);simp only[Tryz.ntmps38,Tryz.results38,go_sem];refine wG tK ?_;refine ag (dj 22 900) ?_;refine ag (au 10) ?_;simp only[go_sem];refine wDF (hb:=(rfl)) (hk:=?_);refine wG tK ?_;refine wDF (hb:=(rfl)) (hk:=?_);refine wG tK ?_;refine wDF (hb:=(rfl)) (hk:=?_);refine wG tK ?_;refine wDT (hb:=(rfl)) (hk:=?_);refine wG tK ?_;refine wP [900] Tryz.func60 (hf:=(hd)) (hk:=?_);refine wGq tK ?_ ?_ w6
 ·simp[ZN]
 by_cases hde:d.e=0
 ·rw[if_neg u9] at hM;have hact:=mF d.u hdi z8 z8 (hY d.n.fid d.name) ⟨hnm,by simp[hY],by simp[hY]⟩ (-1);unfold uH bo at hact;simp only[ZA,hY,List.map_nil] at hact hM;generalize cY d.u ⟨2,0,d.n.fid,d.name,0,[],[]⟩ (-1)=y at *;rw[hM];refine wDT (hb:=u9) (hk:=?_);refine wG tK ?_;refine ag (vm 123 z6 Zy) ?_;simp only[go_sem];refine wP [900] Tryz.func61 (hf:=(hact)) (hk:=?_);refine wG tK ?_;refine ZW ZM ?_;refine ZS rfl ?_;refine sN tK 9 ?_;refine sT tK ?_;refine sT tK ?_;refine sT tK ?_;refine sE ?_;refine wKd ?_
  try simp only[go_sem,gA,gB,gC]
  refine wG tK ?_;refine wT ?_;rfl
 ·rw[if_pos u9] at hM;rw[hM];refine wDF (hb:=u9) (hk:=?_);refine wG tK ?_;refine ZW ZM ?_;refine ZS rfl ?_;refine sN tK 9 ?_;refine sT tK ?_;refine sT tK ?_;refine sT tK ?_;refine sE ?_;refine wKd ?_
  try simp only[go_sem,gA,gB,gC]
  refine wG tK ?_;refine wT ?_;rfl
theorem IH {B T:Nat} (c:Cli) (s:Srv) (h:UInvF Fa B T ⟨c,s⟩) (hB:B≤30000000) (hT:T≤800000000000) (x:Step) (hp:x.path.length≤10000000) (hk:x.kind=5):ae Tryz.prog 38 [.agg (ZC c),.agg (ZQ s),.agg (ZX x)] [] (λr _=>r=gh (av ⟨c,s⟩ x)):=by
 obtain ⟨k,cl,n,path,toPath,data⟩:=x;simp only at hk hp;subst hk;have hW:av ⟨c,s⟩ ⟨5,cl,n,path,toPath,data⟩=⟨(bG ⟨c,s⟩ path).u,cx (bG ⟨c,s⟩ path).e⟩:=by unfold av;rfl
 have hw:=zU ⟨c,s⟩ h hB hT path [] hp;rw[hW];generalize bG ⟨c,s⟩ path=w at *;unfold uH bo at hw;unfold ZC ZQ ZX;refine ZF tK (Tryz.func38) rfl (λC=>?_);simp only[Tryz.ntmps38,Tryz.results38,go_sem];refine wG tK ?_;refine ag (dj 22 900) ?_;refine ag (au 10) ?_;simp only[go_sem];refine wDF (hb:=(rfl)) (hk:=?_);refine wG tK ?_;refine wDF (hb:=(rfl)) (hk:=?_);refine wG tK ?_;refine wDF (hb:=(rfl)) (hk:=?_);refine wG tK ?_;refine wDF (hb:=(rfl)) (hk:=?_);refine wG tK ?_;refine wDT (hb:=(rfl)) (hk:=?_);refine wG tK ?_;refine wP [900] Tryz.func62 (hf:=(hw)) (hk:=?_);refine wG tK ?_;refine ZW ZM ?_;refine ZS rfl ?_;refine sN tK 9 ?_;refine sT tK ?_;refine sT tK ?_;refine sT tK ?_;refine sE ?_;refine wKd ?_
 try simp only[go_sem,gA,gB,gC]
 refine wG tK ?_;refine wT ?_;rfl
theorem II {B T:Nat} (c:Cli) (s:Srv) (h:UInvF Fa B T ⟨c,s⟩) (hB:B≤30000000) (hT:T≤800000000000) (x:Step) (hp:x.path.length≤10000000) (hq:x.toPath.length≤10000000) (hk:x.kind=6):ae Tryz.prog 38 [.agg (ZC c),.agg (ZQ s),.agg (ZX x)] [] (λr _=>r=gh (av ⟨c,s⟩ x)):=by
 obtain ⟨k,cl,n,path,toPath,data⟩:=x;simp only at hk hp hq;subst hk;have hW:av ⟨c,s⟩ ⟨6,cl,n,path,toPath,data⟩=⟨(dd ⟨c,s⟩ path toPath).u,cx (dd ⟨c,s⟩ path toPath).e⟩:=by unfold av;rfl
 have hw:=Ec ⟨c,s⟩ h hB hT path toPath hp hq;rw[hW];generalize dd ⟨c,s⟩ path toPath=w at *;unfold uH bo at hw;unfold ZC ZQ ZX;refine ZF tK (Tryz.func38) rfl (λC=>?_);simp only[Tryz.ntmps38,Tryz.results38,go_sem];refine wG tK ?_;refine ag (dj 22 900) ?_;refine ag (au 10) ?_;simp only[go_sem];refine wDF (hb:=(rfl)) (hk:=?_);refine wG tK ?_;refine wDF (hb:=(rfl)) (hk:=?_);refine wG tK ?_;refine wDF (hb:=(rfl)) (hk:=?_);refine wG tK ?_;refine wDF (hb:=(rfl)) (hk:=?_);refine wG tK ?_;refine wDF (hb:=(rfl)) (hk:=?_);refine wG tK ?_;refine wDT (hb:=(rfl)) (hk:=?_);refine wG tK ?_;refine wP [900] Tryz.func62 (hf:=(hw)) (hk:=?_);refine wG tK ?_;refine ZW ZM ?_;refine ZS rfl ?_;refine sN tK 9 ?_;refine sT tK ?_;refine sT tK ?_;refine sT tK ?_;refine sE ?_;refine wKd ?_
 try simp only[go_sem,gA,gB,gC]
 refine wG tK ?_;refine wT ?_;rfl
theorem IK {B T:Nat} (c:Cli) (s:Srv) (h:UInvF Fa B T ⟨c,s⟩) (hB:B≤30000000) (hT:T≤800000000000) (x:Step) (hk:x.kind=8):ae Tryz.prog 38 [.agg (ZC c),.agg (ZQ s),.agg (ZX x)] [] (λr _=>r=gh (av ⟨c,s⟩ x)):=by
 obtain ⟨k,cl,n,path,toPath,data⟩:=x;simp only at hk;subst hk;have hW:av ⟨c,s⟩ ⟨8,cl,n,path,toPath,data⟩=⟨lf ⟨c,s⟩,⟨0,fe (aL ⟨c,s⟩),((aL ⟨c,s⟩).length-fe (aL ⟨c,s⟩):Nat),[]⟩⟩:=by unfold av;rfl
 have hw:=D1 ⟨c,s⟩ h z8;rw[hW];generalize (aL ⟨c,s⟩).length-fe (aL ⟨c,s⟩)=m2 at *;generalize fe (aL ⟨c,s⟩)=m1 at *;generalize lf ⟨c,s⟩=w at *;unfold uH bo at hw;unfold ZC ZQ ZX;refine ZF tK (Tryz.func38) rfl (λC=>?_);simp only[Tryz.ntmps38,Tryz.results38,go_sem];refine wG tK ?_;refine ag (dj 22 900) ?_;refine ag (au 10) ?_;simp only[go_sem];refine wDF (hb:=(rfl)) (hk:=?_);refine wG tK ?_;refine wDF (hb:=(rfl)) (hk:=?_);refine wG tK ?_;refine wDF (hb:=(rfl)) (hk:=?_);refine wG tK ?_;refine wDF (hb:=(rfl)) (hk:=?_);refine wG tK ?_;refine wDF (hb:=(rfl)) (hk:=?_);refine wG tK ?_;refine wDF (hb:=(rfl)) (hk:=?_);refine wG tK ?_;refine wDF (hb:=(rfl)) (hk:=?_);refine wG tK ?_;refine wDT (hb:=(rfl)) (hk:=?_);refine wG tK ?_;refine wP [900] Tryz.func63 (hf:=(hw)) (hk:=?_);refine wG tK ?_;refine ZW ZM ?_;refine ZS rfl ?_;refine sN tK 9 ?_;refine sT tK ?_;refine sT tK ?_;refine sT tK ?_;refine sE ?_;refine wKd ?_
 try simp only[go_sem,gA,gB,gC]
 refine wG tK ?_;refine wT ?_;rfl
theorem IL {B T:Nat} (c:Cli) (s:Srv) (h:UInvF Fa B T ⟨c,s⟩) (hB:B≤30000000) (hT:T≤800000000000) (x:Step) (hp:x.path.length≤10000000) (hk:x.kind=9):ae Tryz.prog 38 [.agg (ZC c),.agg (ZQ s),.agg (ZX x)] [] (λr _=>r=gh (av ⟨c,s⟩ x)):=by
 obtain ⟨k,cl,n,path,toPath,data⟩:=x;simp only at hk hp;subst hk;have hW:av ⟨c,s⟩ ⟨9,cl,n,path,toPath,data⟩=⟨(dL ⟨c,s⟩ path n).u,cx (dL ⟨c,s⟩ path n).e⟩:=by unfold av;rfl
 have hw:=zT ⟨c,s⟩ h path hp n;rw[hW];generalize dL ⟨c,s⟩ path n=w at *;unfold uH bo at hw;unfold ZC ZQ ZX;refine ZF tK (Tryz.func38) rfl (λC=>?_);simp only[Tryz.ntmps38,Tryz.results38,go_sem];refine wG tK ?_;refine ag (dj 22 900) ?_;refine ag (au 10) ?_;simp only[go_sem];refine wDF (hb:=(rfl)) (hk:=?_);refine wG tK ?_;refine wDF (hb:=(rfl)) (hk:=?_);refine wG tK ?_;refine wDF (hb:=(rfl)) (hk:=?_);refine wG tK ?_;refine wDF (hb:=(rfl)) (hk:=?_);refine wG tK ?_;refine wDF (hb:=(rfl)) (hk:=?_);refine wG tK ?_;refine wDF (hb:=(rfl)) (hk:=?_);refine wG tK ?_;refine wDF (hb:=(rfl)) (hk:=?_);refine wG tK ?_;refine wDF (hb:=(rfl)) (hk:=?_);refine wG tK ?_;refine wDT (hb:=(rfl)) (hk:=?_);refine wG tK ?_;refine wP [900] Tryz.func64 (hf:=(hw)) (hk:=?_);refine wG tK ?_;refine ZW ZM ?_;refine ZS rfl ?_;refine sN tK 9 ?_;refine sT tK ?_;refine sT tK ?_;refine sT tK ?_;refine sE ?_;refine wKd ?_
 try simp only[go_sem,gA,gB,gC]
 refine wG tK ?_;refine wT ?_;rfl
theorem Ee {B T:Nat} (c:Cli) (s:Srv) (h:UInvF Fa B T ⟨c,s⟩) (hB:B≤30000000) (hT:T≤800000000000) (x:Step) (hk:x.kind=10) (ha:c.away=true):ae Tryz.prog 38 [.agg (ZC c),.agg (ZQ s),.agg (ZX x)] [] (λr _=>r=gh (av ⟨c,s⟩ x)):=by
 obtain ⟨k,cl,n,path,toPath,data⟩:=x;simp only at hk;subst hk;have hW:av ⟨c,s⟩ ⟨10,cl,n,path,toPath,data⟩=⟨⟨c,s⟩,cx 12⟩:=by unfold av;simp[ha]
 have hw:=yk ⟨c,s⟩ h ha;rw[hW];unfold uH bo at hw;unfold ZC ZQ ZX;refine ZF tK (Tryz.func38) rfl (λC=>?_);simp only[Tryz.ntmps38,Tryz.results38,go_sem];refine wG tK ?_;refine ag (dj 22 900) ?_;refine ag (au 10) ?_;simp only[go_sem];refine wDF (hb:=(rfl)) (hk:=?_);refine wG tK ?_;refine wDF (hb:=(rfl)) (hk:=?_);refine wG tK ?_;refine wDF (hb:=(rfl)) (hk:=?_);refine wG tK ?_;refine wDF (hb:=(rfl)) (hk:=?_);refine wG tK ?_;refine wDF (hb:=(rfl)) (hk:=?_);refine wG tK ?_;refine wDF (hb:=(rfl)) (hk:=?_);refine wG tK ?_;refine wDF (hb:=(rfl)) (hk:=?_);refine wG tK ?_;refine wDF (hb:=(rfl)) (hk:=?_);refine wG tK ?_;refine wDF (hb:=(rfl)) (hk:=?_);refine wG tK ?_;refine wDT (hb:=(rfl)) (hk:=?_);refine wG tK ?_;refine wP [900] Tryz.func65 (hf:=(hw)) (hk:=?_);refine wG tK ?_;refine ZW ZM ?_;refine ZS rfl ?_;refine sN tK 9 ?_;refine sT tK ?_;refine sT tK ?_;refine sT tK ?_;refine sE ?_;refine wKd ?_
 try simp only[go_sem,gA,gB,gC]
 refine wG tK ?_;refine wT ?_;rfl
theorem Gv {B T:Nat} (c:Cli) (s:Srv) (h:UInvF Fa B T ⟨c,s⟩) (hB:B≤30000000) (hT:T≤800000000000) (x:Step) (hk:x.kind=10) (ha:c.away=false):ae Tryz.prog 38 [.agg (ZC c),.agg (ZQ s),.agg (ZX x)] [] (λr _=>r=gh (av ⟨c,s⟩ x)):=by
 obtain ⟨k,cl,n,path,toPath,data⟩:=x;simp only at hk;subst hk;have hW:av ⟨c,s⟩ ⟨10,cl,n,path,toPath,data⟩=⟨(eL ⟨c,s⟩).u,⟨0,(eL ⟨c,s⟩).n,0,[]⟩⟩:=by unfold av;simp[ha]
 have hw:=ym ⟨c,s⟩ h ha hB hT;rw[hW];generalize eL ⟨c,s⟩=w at *;unfold uH bo at hw;unfold ZC ZQ ZX;refine ZF tK (Tryz.func38) rfl (λC=>?_);simp only[Tryz.ntmps38,Tryz.results38,go_sem];refine wG tK ?_;refine ag (dj 22 900) ?_;refine ag (au 10) ?_;simp only[go_sem];refine wDF (hb:=(rfl)) (hk:=?_);refine wG tK ?_;refine wDF (hb:=(rfl)) (hk:=?_);refine wG tK ?_;refine wDF (hb:=(rfl)) (hk:=?_);refine wG tK ?_;refine wDF (hb:=(rfl)) (hk:=?_);refine wG tK ?_;refine wDF (hb:=(rfl)) (hk:=?_);refine wG tK ?_;refine wDF (hb:=(rfl)) (hk:=?_);refine wG tK ?_;refine wDF (hb:=(rfl)) (hk:=?_);refine wG tK ?_;refine wDF (hb:=(rfl)) (hk:=?_);refine wG tK ?_;refine wDF (hb:=(rfl)) (hk:=?_);refine wG tK ?_;refine wDT (hb:=(rfl)) (hk:=?_);refine wG tK ?_;refine wP [900] Tryz.func65 (hf:=(hw)) (hk:=?_);refine wG tK ?_;refine ZW ZM ?_;refine ZS rfl ?_;refine sN tK 9 ?_;refine sT tK ?_;refine sT tK ?_;refine sT tK ?_;refine sE ?_;refine wKd ?_
 try simp only[go_sem,gA,gB,gC]
 refine wG tK ?_;refine wT ?_;rfl
theorem IM (c:Cli) (s:Srv) (x:Step) (hk:x.kind<1\/10<x.kind):ae Tryz.prog 38 [.agg (ZC c),.agg (ZQ s),.agg (ZX x)] [] (λr _=>r=gh (av ⟨c,s⟩ x)):=by
 obtain ⟨k,cl,n,path,toPath,data⟩:=x;simp only at hk;have hW:av ⟨c,s⟩ ⟨k,cl,n,path,toPath,data⟩=⟨⟨c,s⟩,cx 1⟩:=by
  unfold av;simp only
  repeat rw[if_neg z8]
 rw[hW];unfold ZC ZQ ZX;refine ZF tK (Tryz.func38) rfl (λC=>?_);simp only[Tryz.ntmps38,Tryz.results38,go_sem];refine wG tK ?_;refine ag (dj 22 900) ?_;refine ag (au 10) ?_;simp only[go_sem];refine wDF (hb:=j0) (hk:=?_);refine wG tK ?_;refine wDF (hb:=j0) (hk:=?_);refine wG tK ?_;refine wDF (hb:=j0) (hk:=?_);refine wG tK ?_;refine wDF (hb:=j0) (hk:=?_);refine wG tK ?_;refine wDF (hb:=j0) (hk:=?_);refine wG tK ?_;refine wDF (hb:=j0) (hk:=?_);refine wG tK ?_;refine wDF (hb:=j0) (hk:=?_);refine wG tK ?_;refine wDF (hb:=j0) (hk:=?_);refine wG tK ?_;refine wDF (hb:=j0) (hk:=?_);refine wG tK ?_;refine wDF (hb:=j0) (hk:=?_);refine wG tK ?_;refine ZW ZM ?_;refine ZS rfl ?_;refine sN tK 9 ?_;refine sT tK ?_;refine sT tK ?_;refine sT tK ?_;refine sE ?_;refine wKd ?_
 try simp only[go_sem,gA,gB,gC]
 refine wG tK ?_;refine wT ?_;rfl
variable {Fa:Prop}
def jT (l:List Entry) (i:Nat):List UInt8:=mU (l.take i)
theorem nq {l:List Entry} {i:Nat} (h:i<l.length):jT l (i+1)=jT l i++((l.getD i default).name++[10]):=by
 unfold jT mU;rw[ZT h,List.flatMap_append];simp
theorem xf {B T:Nat} {u:U} (h:UInvF Fa B T u) (f w:Int):NmE (bb u f w).n.entries:=by
 unfold bb;split
 ·rename_i n hn;obtain ⟨k,hk,rfl,_⟩:=jZ hn;exact h.cli.nam k hk
 ·split
  ·exact .nil
  ·split
   ·exact .nil
   ·rename_i n hn;exact h.srv.hist.whole.nm ((ZO h.srv.hist.bF.up).1 hn).1
theorem AU {B:Nat} (w:Int):∀(l:List (List UInt8)) (T:Nat) (g:Got),UInvF Fa B T g.u->NmE g.n.entries->NmE (goR w l g).n.entries
 | [],T,g,h,hn=>by
  unfold goR;split
  ·exact hn
  ·exact .nil
 | s::r,T,g,h,hn=>by
  unfold goR;split
  ·exact .nil
  ·split
   ·exact .nil
   ·split
    ·exact .nil
    ·rename_i f _;exact AU w r (T+1) _ (bR h f w) (xf h f w)
theorem vd {B T:Nat} {u:U} (h:UInvF Fa B T u) (l:List (List UInt8)) (w:Int):NmE (goU u l w).n.entries:=AU w l (T+1) _ (bR h 0 w) (xf h 0 w)
theorem pn {l:List Entry} (h:NmE l):∀i,i≤l.length->(jT l i).length≤41*i
 | 0,_=>by simp[jT,mU]
 | i+1,hi=>by
  have ih:=pn h i z8;have hn:=h (l.getD i default) (by rw[Wi,Wj (show i<l.length by omega)];exact YO _);rw[nq (show i<l.length by omega),List.length_append,List.length_append];simp only[List.length_cons,List.length_nil];omega
theorem ID {B T:Nat} (c:Cli) (s:Srv) (h:UInvF Fa B T ⟨c,s⟩) (hB:B≤30000000) (hT:T≤800000000000) (x:Step) (hp:x.path.length≤10000000) (hk:x.kind=1):ae Tryz.prog 38 [.agg (ZC c),.agg (ZQ s),.agg (ZX x)] [] (λr _=>r=gh (av ⟨c,s⟩ x)):=by
 obtain ⟨k,cl,n,path,toPath,data⟩:=x;simp only at hk hp;subst hk;have hW:av ⟨c,s⟩ ⟨1,cl,n,path,toPath,data⟩=if (af path).2≠0 then ⟨⟨c,s⟩,cx (af path).2⟩ else ⟨(goU ⟨c,s⟩ (af path).1 0).u,fU 1 (goU ⟨c,s⟩ (af path).1 0)⟩:=by unfold av;rfl
 have hsp:=iB path hp;have hsl:=bX path;have hgo:=sv ⟨c,s⟩ h z8 z8 (af path).1 z8 (λx hx=>by have:=(hsl.2 x hx).1;omega) 0;have hno:=nR h (af path).1 0;have hnam:=vd h (af path).1 0;unfold ct at hsp;generalize goU ⟨c,s⟩ (af path).1 0=g at *;generalize af path=S at *;obtain ⟨L,E⟩:=S;simp only at hW hsp hgo;unfold uH bo gS at hgo;unfold ZC ZQ ZX;refine ZF tK (Tryz.func38) rfl (λC=>?_);simp only[Tryz.ntmps38,Tryz.results38,go_sem];refine wG tK ?_;refine ag (dj 22 900) ?_;refine ag (au 10) ?_;simp only[go_sem];refine wDT (hb:=(rfl)) (hk:=?_);refine wG tK ?_;refine wDT (hb:=(rfl)) (hk:=?_);refine wG tK ?_;refine wC Tryz.func57 (hf:=(hsp)) (hk:=?_);refine wG tK ?_
 by_cases hE:E=0
 ·rw[if_neg u2] at hW;rw[hW];refine wDF (hb:=u2) (hk:=?_);refine wG tK ?_;refine wP [900] Tryz.func58 (hf:=(hgo)) (hk:=?_);refine wGq tK ?_ ?_ w6
  ·simp[ZN]
  by_cases hge:g.e=0
  ·have hr:fU 1 g=if g.n.dir=true then ⟨9,0,0,[]⟩ else ⟨0,0,0,g.n.data⟩:=by unfold fU;rw[if_neg u4];rfl
   rw[hr];refine wDF (hb:=u4) (hk:=?_);refine wG tK ?_;cases hd:g.n.dir with
   | true=>
    refine wDT (hb:=(rfl)) (hk:=?_);refine wG tK ?_;refine ZW ZM ?_;refine ZS rfl ?_;refine sN tK 9 ?_;refine sT tK ?_;refine sT tK ?_;refine sT tK ?_;refine sE ?_;refine wKd ?_
    try simp only[go_sem,gA,gB,gC]
    refine wG tK ?_;refine wT ?_;rfl
   | false=>
    refine wDF (hb:=(rfl)) (hk:=?_);refine wG tK ?_;refine wDF (hb:=(rfl)) (hk:=?_);refine wG tK ?_;refine wDT (hb:=(rfl)) (hk:=?_);refine wG tK ?_;refine ZW ZM ?_;refine ZS rfl ?_;refine sN tK 9 ?_;refine sT tK ?_;refine sT tK ?_;refine sT tK ?_;refine sE ?_;refine wKd ?_
    try simp only[go_sem,gA,gB,gC]
    refine wG tK ?_;refine wT ?_;rfl
  ·have hr:fU 1 g=cx g.e:=by unfold fU;rw[if_pos hge];rfl
   rw[hr];refine wDT (hb:=u4) (hk:=?_);refine wG tK ?_;refine ZW ZM ?_;refine ZS rfl ?_;refine sN tK 9 ?_;refine sT tK ?_;refine sT tK ?_;refine sT tK ?_;refine sE ?_;refine wKd ?_
   try simp only[go_sem,gA,gB,gC]
   refine wG tK ?_;refine wT ?_;rfl
 ·rw[if_pos hE] at hW;rw[hW];refine wDT (hb:=u2) (hk:=?_);refine wG tK ?_;refine ZW ZM ?_;refine ZS rfl ?_;refine sN tK 3 ?_;refine sB tK ?_;refine sT tK ?_;refine sT tK ?_;refine sT tK ?_;refine sE ?_;refine wKd ?_
  try simp only[go_sem,gA,gB,gC]
  refine ag (au 8) ?_;simp only[go_sem];refine wG tK ?_;refine wT ?_;rfl
theorem IE {B T:Nat} (c:Cli) (s:Srv) (h:UInvF Fa B T ⟨c,s⟩) (hB:B≤30000000) (hT:T≤800000000000) (x:Step) (hp:x.path.length≤10000000) (hk:x.kind=2):ae Tryz.prog 38 [.agg (ZC c),.agg (ZQ s),.agg (ZX x)] [] (λr _=>r=gh (av ⟨c,s⟩ x)):=by
 obtain ⟨k,cl,n,path,toPath,data⟩:=x;simp only at hk hp;subst hk;have hW:av ⟨c,s⟩ ⟨2,cl,n,path,toPath,data⟩=if (af path).2≠0 then ⟨⟨c,s⟩,cx (af path).2⟩ else ⟨(goU ⟨c,s⟩ (af path).1 0).u,fU 2 (goU ⟨c,s⟩ (af path).1 0)⟩:=by unfold av;rfl
 have hsp:=iB path hp;have hsl:=bX path;have hgo:=sv ⟨c,s⟩ h z8 z8 (af path).1 z8 (λx hx=>by have:=(hsl.2 x hx).1;omega) 0;have hno:=nR h (af path).1 0;have hnam:=vd h (af path).1 0;unfold ct at hsp;generalize goU ⟨c,s⟩ (af path).1 0=g at *;generalize af path=S at *;obtain ⟨L,E⟩:=S;simp only at hW hsp hgo;unfold uH bo gS at hgo;unfold ZC ZQ ZX;refine ZF tK (Tryz.func38) rfl (λC=>?_);simp only[Tryz.ntmps38,Tryz.results38,go_sem];refine wG tK ?_;refine ag (dj 22 900) ?_;refine wDF (hb:=(rfl)) (hk:=?_);refine wG tK ?_;refine wDT (hb:=(rfl)) (hk:=?_);refine wG tK ?_;refine wC Tryz.func57 (hf:=(hsp)) (hk:=?_);refine wG tK ?_
 by_cases hE:E=0
 ·rw[if_neg u2] at hW;rw[hW];refine wDF (hb:=u2) (hk:=?_);refine wG tK ?_;refine wP [900] Tryz.func58 (hf:=(hgo)) (hk:=?_);refine wGq tK ?_ ?_ w6
  ·simp[ZN]
  by_cases hge:g.e=0
  ·have hr:fU 2 g=if g.n.dir=true then ⟨0,0,0,mU g.n.entries⟩ else ⟨8,0,0,[]⟩:=by unfold fU;rw[if_neg u4];rfl
   rw[hr];refine wDF (hb:=u4) (hk:=?_);refine wG tK ?_;refine wDF (hb:=(rfl)) (hk:=?_);refine wG tK ?_;cases hd:g.n.dir with
   | true=>
    refine wDF (hb:=(rfl)) (hk:=?_);refine wG tK ?_;refine wDF (hb:=(rfl)) (hk:=?_);refine wG tK ?_;have hnm:=hnam;have hle:=hno.ent;have hD0:jT g.n.entries 0=[]:=rfl;have hDs:=λi=>@nq g.n.entries i
    have hDn:=pn hnm;have hDe:jT g.n.entries g.n.entries.length=mU g.n.entries:=by unfold jT;rw[Wo]
    rw[if_pos rfl];generalize jT g.n.entries=D at *;generalize mU g.n.entries=DE at *;refine ag (le_empty 62 5 1 z7) ?_;simp only[go_sem];refine ag (kB 10 ([[.int .i64 0,.int .i64 0,.int .i64 0,.osl 62 1 0 0]]) z6 Q6) ?_;simp only[go_sem];refine ZL (λi:Nat=>i≤g.n.entries.length) (λi=>g.n.entries.length-i) (λi=>(15,.any)::(51,.int .i64 i)::u0 52 13 [])
     (λi=>[(10,.cells 42 4 [[.int .i64 0,.int .i64 0,.int .i64 0,.osl 62 1 0 (D i).length]]),(62,.cells 5 1 ((D i).map ZY))]) 0 z8 ?_ λi hi=>?_
    ·rw[hD0];simp only[go_sem];exact ZU w3 w3 w3
    simp only[go_sem];refine wG tK ?_;refine wD (λh=>?_) (λh=>?_)
    ·have hlt:i<g.n.entries.length:=by simp at h;omega
     have hg:(g.n.entries.map ZE).getD i []=ZE (g.n.entries.getD i default):=Fam.getD hlt;have hs1:=hDs i hlt;have hl1:=hDn i hi;have hl2:(g.n.entries.getD i default).name.length≤40:=hnm _ (by rw[Wi,Wj hlt];exact YO _);have how':=wi1 (i:=i) z8;generalize g.n.entries.getD i default=e at *;generalize D i=Di at *;have htq:List.take Di.length (Di.map ZY)=Di.map ZY:=Wl y7;refine wR ?_;refine wNq tK 4 ?_ ?_ z6 z6 p4
     ·simp[hg,ZE,hlt]
     refine wR ?_;refine wN tK 4 ?_;refine bP rfl (tC tK rfl rfl rfl rfl z7) ?_;simp only[go_sem];refine ag (bh 62 10 z6 k9) ?_;refine wGq tK ?_ ?_ j5
     ·simp[htq,refs];refine ⟨⟨λrow hr=>?_,λ_ _=>rfl,by omega⟩,by omega,λrow hr y hy=>?_⟩
      ·obtain ⟨b,_,rfl⟩:=Wq.1 hr;rfl
      ·rcases List.mem_append.1 (Wx hr) with hr | hr<;>obtain ⟨b,_,rfl⟩:=Wq.1 hr<;>simp only[ZY,List.mem_cons,List.not_mem_nil,or_false] at hy<;>subst hy<;>simp[refs]
     refine ZB ⟨i+1,by omega,by omega,ZU ?_ ?_ ?_⟩
     ·simp[go_sem]
     ·simp[go_sem,hs1,htq,ZY];exact ⟨by rw[Wl y7,YQ];rfl,by omega⟩
     ·simp[go_sem]
    ·have e:i=g.n.entries.length:=by simp at h;omega
     subst e;rw[hDe];refine wG tK ?_;refine ZZ 62 rfl (kj _) ?_;simp only[go_sem];refine wG tK ?_;refine ZW ZM ?_;refine ZS rfl ?_;refine sN tK 9 ?_;refine sT tK ?_;refine sT tK ?_;refine sT tK ?_;refine sE ?_;refine wKd ?_
     try simp only[go_sem,gA,gB,gC]
     refine wG tK ?_;refine wT ?_;rfl
   | false=>
    refine wDT (hb:=(rfl)) (hk:=?_);refine ag (au 10) ?_;simp only[go_sem];refine wG tK ?_;refine ZW ZM ?_;refine ZS rfl ?_;refine sN tK 9 ?_;refine sT tK ?_;refine sT tK ?_;refine sT tK ?_;refine sE ?_;refine wKd ?_
    try simp only[go_sem,gA,gB,gC]
    refine wG tK ?_;refine wT ?_;rfl
  ·have hr:fU 2 g=cx g.e:=by unfold fU;rw[if_pos hge];rfl
   rw[hr];refine wDT (hb:=u4) (hk:=?_);refine ag (au 10) ?_;simp only[go_sem];refine wG tK ?_;refine ZW ZM ?_;refine ZS rfl ?_;refine sN tK 9 ?_;refine sT tK ?_;refine sT tK ?_;refine sT tK ?_;refine sE ?_;refine wKd ?_
   try simp only[go_sem,gA,gB,gC]
   refine wG tK ?_;refine wT ?_;rfl
 ·rw[if_pos hE] at hW;rw[hW];refine wDT (hb:=u2) (hk:=?_);refine wG tK ?_;refine ZW ZM ?_;refine ZS rfl ?_;refine sN tK 3 ?_;refine sB tK ?_;refine sT tK ?_;refine sT tK ?_;refine sT tK ?_;refine sE ?_;refine wKd ?_
  try simp only[go_sem,gA,gB,gC]
  refine ag (au 8) ?_;simp only[go_sem];refine wG tK ?_;refine wT ?_;rfl
theorem Eg {B T:Nat} (c:Cli) (s:Srv) (h:UInvF Fa B T ⟨c,s⟩) (hB:B≤30000000) (hT:T≤800000000000) (x:Step) (hp:x.path.length≤10000000) (hq:x.toPath.length≤10000000):ae Tryz.prog 38 [.agg (ZC c),.agg (ZQ s),.agg (ZX x)] [] (λr _=>r=gh (av ⟨c,s⟩ x)):=by
 by_cases h0:x.kind<1\/10<x.kind
 ·exact IM c s x h0
 ·have hc:x.kind=1\/x.kind=2\/x.kind=3\/x.kind=4\/x.kind=5\/x.kind=6\/x.kind=7\/x.kind=8\/x.kind=9\/x.kind=10:=by omega
  rcases hc with h1 | h1 | h1 | h1 | h1 | h1 | h1 | h1 | h1 | h1
  ·exact ID c s h hB hT x hp h1
  ·exact IE c s h hB hT x hp h1
  ·exact IF c s h hB hT x hp h1
  ·exact IG c s h hB hT x hp h1
  ·exact IH c s h hB hT x hp h1
  ·exact II c s h hB hT x hp hq h1
  ·exact IJ c s x h1
  ·exact IK c s h hB hT x h1
  ·exact IL c s h hB hT x hp h1
  ·cases ha:c.away with
   | true=>exact Ee c s h hB hT x h1 ha
   | false=>exact Gv c s h hB hT x h1 ha
def iX (g:GotW):AV:=.tup [.agg (aT g.w),.agg (ar g.r)]
def csT (t:List Node) (cs:List Cli) (j:Nat) (c:Cli) (i:Nat):List Cli:=((cs.set j c).take i).map (cN t)
theorem C5 {t:List Node} {cs:List Cli} {j:Nat} {c:Cli} {i:Nat} (h:i<cs.length):csT t cs j c (i+1)=csT t cs j c i++[cN t (if i=j then c else cs.getD i default)]:=by
 unfold csT;rw[ZT (show i<(cs.set j c).length by rw[YL];exact h),List.map_append];have:(cs.set j c).getD i default=if i=j then c else cs.getD i default:=by
  rw[Wi,YA]
  by_cases e:j=i
  ·subst e;rw[if_pos rfl,if_pos h,if_pos rfl];rfl
  ·rw[if_neg e,if_neg (λh=>e h.symm),Wi]
 rw[this];rfl
theorem FF {t:List Node} {cs:List Cli} {j:Nat} {c:Cli} {i:Nat} (h:i≤cs.length):(csT t cs j c i).length=i:=by
 unfold csT;rw[List.length_map,Wv,YL];omega
theorem zZ {B T:Nat} (w:Wor) (h:WInv B T w) (hB:B≤30000000) (hT:T≤800000000000) (x:Step) (hp:x.path.length≤10000000) (hq:x.toPath.length≤10000000) (hb:x.client<0\/x.client≥w.cs.length):ae Tryz.prog 21 [.agg (aT w),.agg (ZX x)] [] (λr _=>r=iX (cg w x)):=by
 have h3:=h.len;have hW:cg w x=⟨w,cx 6⟩:=by unfold cg;rw[if_pos hb]
 rw[hW];unfold aT ZX;refine ZF tK (Tryz.func21) rfl (λC=>?_);simp only[Tryz.ntmps21,Tryz.results21,go_sem];refine wR ?_;refine wN tK 4 ?_;refine wR ?_;refine wN tK 11 ?_;refine ak 22 z6 (λc22 h22=>?_);simp only[go_sem];have hc:c22=true:=by
  rw[←h22]
  by_cases h1:x.client<0
  ·simp[h1]
  ·simp[h1];omega
 clear h22;refine wG tK ?_;refine wDT (hb:=(hc)) (hk:=?_);refine wG tK ?_;refine ag (au 5) ?_;simp only[go_sem];refine wT ?_;rfl
theorem Ce {B T:Nat} (w:Wor) (h:WInv B T w) (hB:B≤30000000) (hT:T≤800000000000) (x:Step) (hp:x.path.length≤10000000) (hq:x.toPath.length≤10000000) (hb:¬(x.client<0\/x.client≥w.cs.length)):ae Tryz.prog 21 [.agg (aT w),.agg (ZX x)] [] (λr _=>r=iX (cg w x)):=by
 have h3:=h.len;obtain ⟨k,cl,n,path,toPath,data⟩:=x;simp only at hb hp hq;obtain ⟨j,rfl⟩:∃j:Nat,cl=(j:Int):=⟨cl.toNat,by omega⟩;have hj:j<w.cs.length:=by omega
 have hu:=h.at hj;have hst:=Eg (w.cs.getD j default) w.s hu hB hT ⟨k,j,n,path,toPath,data⟩ hp hq;have hinv:=sL hu ⟨k,j,n,path,toPath,data⟩;have hW:cg w ⟨k,j,n,path,toPath,data⟩=⟨⟨(av ⟨w.cs.getD j default,w.s⟩ ⟨k,j,n,path,toPath,data⟩).u.s,csT (av ⟨w.cs.getD j default,w.s⟩ ⟨k,j,n,path,toPath,data⟩).u.s.tree w.cs j (av ⟨w.cs.getD j default,w.s⟩ ⟨k,j,n,path,toPath,data⟩).u.c w.cs.length⟩,(av ⟨w.cs.getD j default,w.s⟩ ⟨k,j,n,path,toPath,data⟩).r⟩:=by
  unfold cg csT;rw[if_neg hb,show w.cs.length=(w.cs.set j (av ⟨w.cs.getD j default,w.s⟩ ⟨k,j,n,path,toPath,data⟩).u.c).length by rw[YL],Wo];rfl
 have hcx:∀i,i<w.cs.length->(w.cs.getD i default).cache.length≤24:=λi hi=>by have:=(h.at hi).cli.len;have:=(h.at hi).cli.room;simp only at *;omega
 rw[hW];have hg0:(w.cs.map ZC).getD j []=ZC (w.cs.getD j default):=Fam.getD hj;generalize w.cs.getD j default=c0 at hst hinv hg0 ⊢;generalize av ⟨c0,w.s⟩ ⟨k,j,n,path,toPath,data⟩=g at *;have hcg:g.u.c.cache.length≤24:=by have:=hinv.cli.len;have:=hinv.cli.room;omega
 have hof:=um g.u.s.tree (by have:=hinv.srv.hist.bF.len;omega);have hfr0:=λl hl=>nw l g.u.s.tree hl hinv.srv.hist.bF.up
 have hcc:∀kk:Cli,kk.cache.length≤24->kk.cache.length≤90000000:=λkk hk=>by omega
 have hPs:=λi=>@C5 g.u.s.tree w.cs j g.u.c i
 have hPl:=λi=>@FF g.u.s.tree w.cs j g.u.c i
 have hP0:csT g.u.s.tree w.cs j g.u.c 0=[]:=rfl;generalize csT g.u.s.tree w.cs j g.u.c=P at *;unfold gh ZC ZQ ZX ar at hst;unfold iX aT ZX ar;refine ZF tK (Tryz.func21) rfl (λC=>?_);simp only[Tryz.ntmps21,Tryz.results21,go_sem];refine wR ?_;refine wN tK 4 ?_;refine wR ?_;refine wN tK 11 ?_;refine ak 22 z6 (λc22 h22=>?_);simp only[go_sem];have hc:c22=false:=by
  rw[←h22];have h1:¬((j:Int)<0):=by omega
  simp[h1];omega
 clear h22;refine wG tK ?_;refine wDF (hb:=(hc)) (hk:=?_);refine wG tK ?_;refine ZW ZM ?_;refine ZS rfl ?_;refine sNq tK 9 ?_ ?_ z6 z6 (by simp only[go_sem,hg0,ZC];try exact rfl)
 ·simp[hg0,hj,ZC]
 refine sC Tryz.func38 (hf:=(hst)) (hk:=?_);refine sN tK 4 ?_;refine sW tK ?_;refine sW tK ?_;refine sW tK ?_;refine sT tK ?_;refine sT tK ?_;refine sT tK ?_;refine sE ?_;refine wKd ?_
 try simp only[go_sem,gA,gB,gC]
 refine wG tK ?_;refine ag (le_empty 68 47 10 z7) ?_;simp only[go_sem];refine ag (kB 9 ([[.sl (g.u.s.tree.map ZN),.int .i64 g.u.s.next,.sl (g.u.s.past.map ZP),.osl 68 10 0 0]]) z6 Q6) ?_;simp only[go_sem];refine ZL (λi:Nat=>i≤w.cs.length) (λi=>w.cs.length-i) (λi=>(10,.any)::(11,.any)::(44,.int .i64 i)::u0 45 26 [])
  (λi=>[(9,.cells 35 4 [[.sl (g.u.s.tree.map ZN),.int .i64 g.u.s.next,.sl (g.u.s.past.map ZP),.osl 68 10 0 (P i).length]]),(68,.cells 47 10 ((P i).map ZC))]) 0 z8 ?_ λi hi=>?_
 ·rw[hP0];simp only[go_sem];exact ZU w3 w3 w3
 simp only[go_sem];refine wG tK ?_;refine wD (λh=>?_) (λh=>?_)
 ·have hlt:i<w.cs.length:=by simp at h;omega
  have hg1:(w.cs.map ZC).getD i []=ZC (w.cs.getD i default):=Fam.getD hlt;have how':=wi1 (i:=i) z8;have hs1:=hPs i hlt;have hl1:=hPl i hi;have hci:=hcx i hlt;generalize w.cs.getD i default=ci at *;generalize P i=Q at *;have htq:List.take Q.length (Q.map ZC)=Q.map ZC:=Wl y7;refine wR ?_;refine wNq tK 6 ?_ ?_ z6 z6 (by simp only[go_sem,hg1,ZC];try exact rfl)
  ·simp[hg1,ZC,hlt]
  refine wG tK ?_
  by_cases hij:i=j
  ·rw[if_pos hij] at hs1;refine wDT (hb:=(by simp[hij])) (hk:=?_);refine wG tK ?_;have hin:=hcg;generalize hkv:g.u.c=kk at *;cases haw:kk.away with
   | true=>
    have hkk:cN g.u.s.tree kk=kk:=by unfold cN;rw[if_pos haw]
    refine wDF (hb:=Qy) (hk:=?_);refine wR ?_;refine wN tK 2 ?_;refine ag (bh 68 9 z6 k9) ?_;refine wGq tK ?_ ?_ j5
    ·simp[htq,refs];omega
    refine ZB ⟨i+1,by omega,by omega,ZU ?_ ?_ ?_⟩
    ·simp[go_sem]
    ·simp[go_sem,hs1,htq,ZC,hkk,haw]
    ·simp[go_sem]
   | false=>
    have hkk:cN g.u.s.tree kk={ kk with cache:=kk.cache.filter λk=>!bE g.u.s.tree k }:=by unfold cN lL;rw[if_neg Qy]
    have hfr:=hfr0 kk.cache (hcc kk hin);refine wDT (hb:=Qy) (hk:=?_);refine wG tK ?_;refine ZW ZM ?_;refine ZS rfl ?_;refine sN tK 4 ?_;refine sC Tryz.func27 (hf:=(hof)) (hk:=?_);refine sC Tryz.func39 (hf:=(hfr)) (hk:=?_);refine sN tK 1 ?_;refine sT tK ?_;refine sE ?_;refine wKd ?_
    try simp only[go_sem,gA,gB,gC]
    refine wR ?_;refine wN tK 2 ?_;refine ag (bh 68 9 z6 k9) ?_;refine wGq tK ?_ ?_ j5
    ·simp[htq,refs];omega
    refine ZB ⟨i+1,by omega,by omega,ZU ?_ ?_ ?_⟩
    ·simp[go_sem]
    ·simp[go_sem,hs1,htq,ZC,hkk,haw]
    ·simp[go_sem]
  ·rw[if_neg hij] at hs1;refine wDF (hb:=j0) (hk:=?_);refine wG tK ?_;have hin:=hci;generalize hkv:ci=kk at *;cases haw:kk.away with
   | true=>
    have hkk:cN g.u.s.tree kk=kk:=by unfold cN;rw[if_pos haw]
    refine wDF (hb:=Qy) (hk:=?_);refine wR ?_;refine wN tK 2 ?_;refine ag (bh 68 9 z6 k9) ?_;refine wGq tK ?_ ?_ j5
    ·simp[htq,refs];omega
    refine ZB ⟨i+1,by omega,by omega,ZU ?_ ?_ ?_⟩
    ·simp[go_sem]
    ·simp[go_sem,hs1,htq,ZC,hkk,haw]
    ·simp[go_sem]
   | false=>
    have hkk:cN g.u.s.tree kk={ kk with cache:=kk.cache.filter λk=>!bE g.u.s.tree k }:=by unfold cN lL;rw[if_neg Qy]
    have hfr:=hfr0 kk.cache (hcc kk hin);refine wDT (hb:=Qy) (hk:=?_);refine wG tK ?_;refine ZW ZM ?_;refine ZS rfl ?_;refine sN tK 4 ?_;refine sC Tryz.func27 (hf:=(hof)) (hk:=?_);refine sC Tryz.func39 (hf:=(hfr)) (hk:=?_);refine sN tK 1 ?_;refine sT tK ?_;refine sE ?_;refine wKd ?_
    try simp only[go_sem,gA,gB,gC]
    refine wR ?_;refine wN tK 2 ?_;refine ag (bh 68 9 z6 k9) ?_;refine wGq tK ?_ ?_ j5
    ·simp[htq,refs];omega
    refine ZB ⟨i+1,by omega,by omega,ZU ?_ ?_ ?_⟩
    ·simp[go_sem]
    ·simp[go_sem,hs1,htq,ZC,hkk,haw]
    ·simp[go_sem]
 ·have e:i=w.cs.length:=by simp at h;omega
  subst e;have hl1:=hPl w.cs.length (Wt _);generalize P w.cs.length=Q at *;have htq:List.take Q.length (Q.map ZC)=Q.map ZC:=Wl y7;refine ZZ 68 rfl (gz _) ?_;simp only[go_sem,htq];refine wG tK ?_;refine ZW ZM ?_;refine ZS rfl ?_;refine sN tK 2 ?_;refine sT tK ?_;refine sT tK ?_;refine sE ?_;refine wKd ?_
  try simp only[go_sem,gA,gB,gC]
  refine wG tK ?_;refine wT ?_;rfl
theorem Cf {B T:Nat} (w:Wor) (h:WInv B T w) (hB:B≤30000000) (hT:T≤800000000000) (x:Step) (hp:x.path.length≤10000000) (hq:x.toPath.length≤10000000):ae Tryz.prog 21 [.agg (aT w),.agg (ZX x)] [] (λr _=>r=iX (cg w x)):=by
 by_cases hb:x.client<0\/x.client≥w.cs.length
 ·exact zZ w h hB hT x hp hq hb
 ·exact Ce w h hB hT x hp hq hb
theorem tl:ae Tryz.prog 35 [] [] (λr _=>r=.agg [.sl [[.int .i64 0,.bool true,.nils,.nils,.int .i64 0]],.int .i64 1,.nils]):=by
 refine ZF tK (Tryz.func35) rfl (λC=>?_);simp only[Tryz.ntmps35,Tryz.results35,go_sem];refine wG tK ?_;refine ZZ 2 rfl (rfl) ?_;simp only[go_sem];refine wT ?_;rfl
theorem vz:ae Tryz.prog 35 [] [] (λr _=>r=.agg (ZQ ⟨[h_],1,[]⟩)):=ae.iO tl rfl
def mZ:Wor:=⟨⟨[],0,[]⟩,[]⟩
def pX (rooms:List Int):AV:=.tup [.agg (aT (if bB rooms=0 then dp rooms else mZ)),.int .i64 (bB rooms)]
theorem sd (rooms:List Int) (i:Nat):jX rooms (i+1)=jX rooms i++[pt (i:Int) (rooms.getD i 0)]:=by
 unfold jX;rw[List.range_succ,List.map_append];rfl
theorem uj (rooms:List Int) (i:Nat):(jX rooms i).length=i:=by unfold jX;simp
theorem pY (rooms:List Int) (hr:rooms.length≤100000000):ae Tryz.prog 18 [.sl (rooms.map ZI)] [] (λr _=>r=pX rooms):=by
 have hns:=vz;unfold ZQ at hns;have hsu:=sd rooms;have hle:=uj rooms;have h0:jX rooms 0=[]:=rfl;have hW:pX rooms=.tup [.agg (aT (if bB rooms=0 then ⟨Ik,jX rooms rooms.length⟩ else mZ)),.int .i64 (bB rooms)]:=rfl;have hE:bB rooms=if rooms.length<1\/3<rooms.length then 5 else if rooms.all (λn=>decide (3≤n)&&decide (n≤24)) then 0 else 3:=rfl;rw[hW];generalize bB rooms=E at *;generalize jX rooms=P at *;clear hW;refine ZF tK (Tryz.func18) rfl (λC=>?_);simp only[Tryz.ntmps18,Tryz.results18,go_sem];refine wR ?_;refine wN tK 2 ?_;refine wR ?_;refine wN tK 8 ?_;refine ak 14 z6 (λc14 h14=>?_);simp only[go_sem];have hc:c14=true↔(rooms.length<1\/3<rooms.length):=by
  rw[←h14]
  by_cases h1:rooms.length<1
  ·simp[h1];omega
  ·simp[h1];omega
 clear h14;refine wG tK ?_
 by_cases hb:rooms.length<1\/3<rooms.length
 ·rw[if_pos hb] at hE;subst hE;refine wDT (hb:=(hc.2 hb)) (hk:=?_);refine wG tK ?_;refine ag (au 2) ?_;simp only[go_sem];refine wT ?_;rfl
 ·rw[if_neg hb] at hE;refine wDF (hb:=(by simpa using λh0=>hb (hc.1 h0))) (hk:=?_);refine wG tK ?_;refine wC Tryz.func35 (hf:=(hns)) (hk:=?_);refine wG tK ?_;refine ag (le_empty 38 47 10 z7) ?_;simp only[go_sem];refine ag (kB 4 ([[.sl ([h_].map ZN),.int .i64 1,.sl [],.osl 38 10 0 0]]) z6 Q6) ?_;simp only[go_sem];refine ZL (λi:Nat=>i≤rooms.length/\(rooms.take i).all (λn=>decide (3≤n)&&decide (n≤24))=true) (λi=>rooms.length-i) (λi=>(5,.any)::(6,.any)::(20,.int .i64 i)::u0 21 21 [])
   (λi=>[(4,.cells 35 4 [[.sl ([h_].map ZN),.int .i64 1,.sl [],.osl 38 10 0 (P i).length]]),(38,.cells 47 10 ((P i).map ZC))]) 0 ⟨by omega,rfl⟩ ?_ λi hi=>?_
  ·rw[h0];simp only[go_sem];exact ZU w3 w3 w3
  obtain ⟨hi,hall⟩:=hi;simp only[go_sem];refine wG tK ?_;refine wD (λh=>?_) (λh=>?_)
  ·have hlt:i<rooms.length:=by simp at h;omega
   have hg:(rooms.map ZI).getD i []=[.int .i64 (rooms.getD i 0)]:=by
    rw[Wi,Wm,Wi,Wj hlt];rfl
   have how':=wi1 (i:=i) z8;have hs1:=hsu i;have hl1:=hle i;have htk:rooms.take (i+1)=rooms.take i++[rooms.getD i 0]:=by
    rw[List.take_add_one,Wi,Wj hlt];rfl
   generalize hn:rooms.getD i 0=n at *;generalize P i=Q at *;have htq:List.take Q.length (Q.map ZC)=Q.map ZC:=Wl y7;refine wR ?_;refine wNq tK 5 ?_ ?_ z6 z6 v7
   ·simp[hg,hlt]
   refine wR ?_;refine wN tK 6 ?_;refine ak 30 z6 (λc30 h30=>?_);simp only[go_sem];have hc3:c30=true↔¬(3≤n/\n≤24):=by
    rw[←h30]
    by_cases h1:n<3
    ·simp[h1];omega
    ·simp[h1];omega
   clear h30;refine wG tK ?_
   by_cases hok:3≤n/\n≤24
   ·refine wDF (hb:=(by simpa using λh0=>hc3.1 h0 hok)) (hk:=?_);refine wR ?_;refine wN tK 5 ?_;refine ag (vm 36 z6 Zy) ?_;simp only[go_sem];refine ag (bh 38 4 z6 k9) ?_;refine wGq tK ?_ ?_ j5
    ·simp[htq,refs]
     first | exact ⟨by intro row h;simp at h;subst h;rfl,by omega⟩ | omega
    refine ZB ⟨i+1,⟨by omega,by rw[htk,List.all_append,hall];simp[hok]⟩,by omega,ZU ?_ ?_ ?_⟩
    ·simp[go_sem]
    ·simp[go_sem,hs1,htq,ZC,pt]
    ·simp[go_sem]
   ·have hE3:E=3:=by
     rw[hE,if_neg];simp only[List.all_eq_true,Bool.and_eq_true,decide_eq_true_eq];intro hx;have:=hx n (by rw[←hn,Wi,Wj hlt];exact YO _);exact hok this
    subst hE3;refine wDT (hb:=(hc3.2 hok)) (hk:=?_);refine wG tK ?_;refine ag (au 2) ?_;simp only[go_sem];refine wT ?_;rfl
  ·have e:i=rooms.length:=by simp at h;omega
   subst e;rw[Wo] at hall;rw[if_pos hall] at hE;subst hE;have hl1:=hle rooms.length;generalize P rooms.length=Q at *;have htq:List.take Q.length (Q.map ZC)=Q.map ZC:=Wl y7;refine wR ?_;refine ZZ 38 rfl (gz _) ?_;simp only[go_sem,htq];refine wG tK ?_;refine wT ?_;rfl
structure StepsOK (l:List Step):Prop where
 len:l.length≤1400000
 path:∀x,x∈l->x.path.length≤10000000/\x.toPath.length≤10000000
variable {Fa:Prop}
theorem nL (d:List Hoard) (hd:d.length≤100000000):ae Tryz.prog 70 [.sl (d.map ZJ)] [] (λr _=>r=.sl (d.map ZJ)):=by
 refine ZF tK (Tryz.func70) rfl (λC=>?_);simp only[Tryz.ntmps70,Tryz.results70,go_sem];refine wG tK ?_;refine lC tK rfl rfl rfl u6 u6 (λb hb=>?_);simp only[go_sem];refine wG tK ?_;refine wD (λh=>?_) (λh=>?_)
 ·refine wG tK ?_;refine ko ⟨_,_,z7,by simp[go_sem],.sl [],.inr (.inr ⟨rfl,.inl rfl⟩),?_⟩;rw[hb h]
 ·refine wGq tK ?_ ?_
  ·simp;omega
  refine ZZ 7 rfl (dZ _) ?_;simp only[go_sem];refine wT ?_;simp
structure SmallC (c:Cli):Prop where
 cache:SmallK c.cache
 log:SmallL c.log
 repair:SmallL c.repair
 hoards:c.hoards.length≤100000000
theorem CInvF.jz {B T:Nat} {s:Srv} {c:Cli} (h:CInvF Fa B T s c) (hB:B≤40000000):SmallC c where
 cache:=⟨by have:=h.len;have:=h.room;omega,λk hk=>⟨by have:=h.data k hk;omega,by have:=h.ent k hk;omega⟩⟩
 log:=⟨by have:=h.log;omega,λr hr=>by unfold Act.Small;have:=(h.logS r hr).data;omega⟩
 repair:=⟨by have:=h.rep;omega,λr hr=>by unfold Act.Small;have:=(h.repS r hr).data;omega⟩
 hoards:=by have:=h.hoards;omega
theorem AM (c:Cli) (h:SmallC c):ae Tryz.prog 41 [.agg (ZC c)] [] (λr _=>r=.agg (ZC c)):=by
 have h1:=qQ c.cache h.cache;have h2:=jU c.log h.log;have h3:=jU c.repair h.repair;have h4:=nL c.hoards h.hoards;unfold ZC;refine ZF tK (Tryz.func41) rfl (λC=>?_);simp only[Tryz.ntmps41,Tryz.results41,go_sem];refine wG tK ?_;refine ZW ZM ?_;refine ZS rfl ?_;refine sN tK 2 ?_;refine sC Tryz.func68 (hf:=(h1)) (hk:=?_);refine sN tK 2 ?_;refine sC Tryz.func69 (hf:=(h2)) (hk:=?_);refine sN tK 2 ?_;refine sC Tryz.func69 (hf:=(h3)) (hk:=?_);refine sN tK 2 ?_;refine sC Tryz.func70 (hf:=(h4)) (hk:=?_);refine sN tK 1 ?_;refine sT tK ?_;refine sN tK 1 ?_;refine sT tK ?_;refine sN tK 1 ?_;refine sT tK ?_;refine sN tK 1 ?_;refine sT tK ?_;refine sE ?_;refine wKd ?_
 try simp only[go_sem,gA,gB,gC]
 refine wG tK ?_;refine wT ?_;rfl
structure RightC (t:List Node) (c:Cli):Prop where
 room:(c.cache.length:Int)≤c.room
 log:c.away=false->c.log=[]
 here:c.away=false->∀k,k∈c.cache->k.dirty=false/\k.node∈t
 small:SmallC c
theorem FE (n r:Int):ae Tryz.prog 34 [.int .i64 n,.int .i64 r] [] (λx _=>x=.agg (ZC (pt n r))):=by
 refine ae.iO (X:=.agg [.int .i64 n,.bool false,.int .i64 r,.nils,.nils,.nils,.nils,.int .i64 0,.int .i64 0,.int .i64 0]) ?_ rfl;refine ZF tK (Tryz.func34) rfl (λC=>?_);simp only[Tryz.ntmps34,Tryz.results34,go_sem];refine wG tK ?_;refine wT ?_;rfl
theorem sF (r:Reply):ae Tryz.prog 22 [.agg (ar r),.agg (ar r)] [] (λx _=>x=.bool true):=by
 unfold ar;refine ZF tK (Tryz.func22) rfl (λC=>?_);simp only[Tryz.ntmps22,Tryz.results22,go_sem];refine wG tK ?_ Zg (by simp[go_sem,beq_self_eq_true,cond_true]);refine wT ?_;rfl
theorem qD (c:Cli) (h:SmallC c):ae Tryz.prog 37 [.agg (ZC c),.agg (ZC c)] [] (λx _=>x=.bool true):=by
 have h1:=tw c.cache h.cache;have hho:=h.hoards;have h2:=sD c.log c.log h.log.len h.log.len;have h3:=sD c.repair c.repair h.repair.len h.repair.len;rw[decide_eq_true (rfl:c.log=c.log)] at h2;rw[decide_eq_true (rfl:c.repair=c.repair)] at h3;unfold ZC;refine ZF tK (Tryz.func37) rfl (λC=>?_);simp only[Tryz.ntmps37,Tryz.results37,go_sem];refine wR ?_;refine wN tK 3 ?_;refine wR ?_;simp only[go_sem,List.append_eq,List.cons_append,List.nil_append,List.toList_toArray];refine wN tK 6 ?_ z6 z6 j9 x8;refine wN tK 7 ?_ z6 z6 j9 x8;refine wN tK 7 ?_ z6 z6 j9 x8;refine wN tK 7 ?_ z6 z6 j9 x8;refine wN tK 7 ?_ z6 z6 j9 x8;refine wN tK 7 ?_ z6 z6 j9 x8;refine wN tK 4 ?_ z6 z6 j9 x8;refine wCC Tryz.func55 (hf:=λhb=>(h1)) (hk:=?_);refine wN tK 3 ?_ z6 z6 k8 j8;refine wN tK 4 ?_ z6 z6 j9 x8;refine wCC Tryz.func56 (hf:=λhb=>(h2)) (hk:=?_);refine wN tK 3 ?_ z6 z6 k8 j8;refine wN tK 4 ?_ z6 z6 j9 x8;refine wCC Tryz.func56 (hf:=λhb=>(h3)) (hk:=?_);refine wN tK 3 ?_ z6 z6 k8 j8;refine wN tK 8 ?_ z6 z6 j9 x8;refine wG tK ?_;refine wDF (hb:=(rfl)) (hk:=?_);refine wG tK ?_;refine ZL (λi:Nat=>i≤c.hoards.length) (λi=>c.hoards.length-i) (λi=>(82,.int .i64 i)::(5,.any)::u0 83 14 []) (λ_=>[]) 0 z8 ?_ λi hi=>?_
 ·simp only[go_sem];exact ZU w3 w3 w3
 simp only[go_sem];refine wG tK ?_;refine wD (λh=>?_) (λh=>?_)
 ·have hlt:i<c.hoards.length:=by simp at h;omega
  have hg:(c.hoards.map ZJ).getD i []=ZJ (c.hoards.getD i default):=Fam.getD hlt;have hw:=wi1 (i:=i) z8;generalize c.hoards.getD i default=x at hg;refine wG tK ?_;refine ZW ZM ?_;refine ZS rfl ?_;refine sNq tK 10 ?_ ?_ z6 z6 QS
  ·simp[hg,ZJ,hlt]
  refine sE ?_;refine dY rfl w4 rfl (sU tK rfl (tys:=[9,3]) w4 z7 z7 z6 QY) rfl ?_;refine wKd ?_;simp only[go_sem];refine wG tK ?_;refine wDF (hb:=y7) (hk:=?_);refine wG tK ?_ w5 k0;refine ZB ⟨i+1,by omega,by omega,ZU ?_ ?_ ?_⟩
  ·simp[go_sem];exact hw
  ·simp[go_sem]
  ·simp[go_sem]
 ·refine wG tK ?_;refine wT ?_;rfl
end La
