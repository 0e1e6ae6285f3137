/- Texts of this claim, part 25: RTake, RBack, RStep, RStepR, RWorld, NewS, RNew, RBuild, RRight. No condition. -/
import Derived.Test.YtdcmhdkpfllnlaaGreatDoorXC24
import Derived.Test.YtdcmhdkpfllnlaaGreatDoorXC19
import Derived.Test.YtdcmhdkpfllnlaaGreatDoorXC8
import Derived.Test.YtdcmhdkpfllnlaaGreatDoorXC20
import Derived.Test.YtdcmhdkpfllnlaaGreatDoorXC17
import Derived.Test.YtdcmhdkpfllnlaaGreatDoorXC11
import Derived.Test.YtdcmhdkpfllnlaaGreatDoorXC23
import Derived.Test.YtdcmhdkpfllnlaaGreatDoorXC14
import Derived.Test.YtdcmhdkpfllnlaaGreatDoorXC13
set_option maxRecDepth 10000
set_option maxHeartbeats 4000000
set_option linter.unusedSimpArgs false
set_option linter.unusedVariables false
namespace La
open Go Go.Eng Go.Proofs
theorem DS {k:Nat} (s:Srv) (h:SrvOK k s) (hk:k≤70000000) (c:Int) (log:List Rec) (hl2:log.length≤2000000) (hfit:∀r,r∈log->ActFit r.act) :
  ae Tryz.prog 86 [.agg (ZQ s),.int .i64 c,.sl (log.map ZR)] []
   (λr _=>r=.tup [.agg (ZQ (kZ s c log)),.sl ((bQ s.tree s.next ((s.past.length+1:Nat):Int) log).vs.map ZV)]):=by
 have hlen:=h.len;have hnx:=h.next;have hg:=h.hist.bM;have hof:=tQ s.tree (by have:=hg.len;omega);have hj:=BN s.past s.tree s.next log h.hist z8 z8 hl2 hfit;have hji:=JInv.rC h.hist c s.next log hfit;have hinv:=hji.len;have hls:=qC (bQ s.tree s.next ((s.past.length+1:Nat):Int) log).j.l hji.hist.bM.up (by have:=hji.hist.bM.len;omega);clear hji;have hT:kZ s c log=⟨(bQ s.tree s.next ((s.past.length+1:Nat):Int) log).j.l,(bQ s.tree s.next ((s.past.length+1:Nat):Int) log).j.next,fo s c (bQ s.tree s.next ((s.past.length+1:Nat):Int) log).done (bQ s.tree s.next ((s.past.length+1:Nat):Int) log).done.length⟩:=by
  unfold kZ fo;rw[List.take_length]
 have hwp:IntKind.i64.wrap ((s.past.length:Int)+1)=((s.past.length+1:Nat):Int):=by rw[Eng.wrap_small z8 z8];rfl
 rw[hT];clear hT;unfold uN at hj;unfold ZQ;generalize bQ s.tree s.next ((s.past.length+1:Nat):Int) log=g at *;have hsu:=λi=>@pQ s c g.done i
 have hle:=λi=>@rQ s c g.done i
 have hz:fo s c g.done 0=s.past:=by simp[fo]
 generalize fo s c g.done=P at *;refine ZF tK (Tryz.func86) rfl (λC=>?_);simp only[Tryz.ntmps86,Tryz.results86,go_sem];refine wG tK ?_;refine ZW ZM ?_;refine ZS rfl ?_;refine sN tK 2 ?_;refine sC Tryz.func18 (hf:=(hof)) (hk:=?_);refine sN tK 7 ?_ z6 z6 QK Q8;refine sC Tryz.func134 (hf:=(hj)) (hk:=?_);refine sW tK ?_;refine sT tK ?_;refine sE ?_;refine wKd ?_
 try simp only[go_sem,gA,gB,gC]
 refine wG tK ?_;refine ZW ZM ?_;refine kI [(28,[28])] rfl (AP WS) ?_;refine zN tK 2 (hk:=?_);refine zC Tryz.func84 (hf:=(hls)) (hk:=?_);refine zN tK 2 (hk:=?_);refine zW tK (hk:=?_);refine zN tK 2 (hk:=?_);refine zA tK (h2:=?_) (h4:=?_) (h5:=?_) (h7:=?_) (h8:=?_) (hzz:=?_) (hn:=rfl) (hr:=rfl) (hk:=?_)
 ·exact iJ _
 ·exact kD _
 ·rw[show tab.byt 120=96 from rfl];simp;omega
 ·simp
 ·exact bx 28 s.past
 ·intro z hz;simp only[List.mem_cons,List.not_mem_nil,or_false] at hz;subst hz;exact .inl ⟨by decide,bx 28 s.past⟩
 refine zB tK (hk:=?_);refine zW tK (hk:=?_);refine og w4 z6 ?_;refine dS tK ?_;refine wKd ?_
 try simp only[go_sem,gA,gB,gC]
 refine wG tK ?_;refine ag (yY 31 46 9 z6 z7 z7 z6 QQ QQ rfl z7 QJ QJ) ?_;refine ZL (λi:Nat=>i≤g.done.length) (λi=>g.done.length-i) (λi=>[(11,.any),(31,.any),(36,.int .i64 i),(37,.any),(38,.any),(39,.any),(40,.any),(41,.any),(42,.any),(43,.any),(44,.any),(45,.any),(46,.any),(47,.any),(48,.any)])
  (λi=>[(9,.cells 30 3 [[.sl (g.j.l.map ZN),.int .i64 g.j.next,.osl 46 8 0 (P i).length]]),(46,.cells 120 8 ((P i).map ZP))]) 0 z8 ?_ λi hi=>?_
 ·rw[hz];simp only[go_sem];exact ZU w3 w3 w3
 simp only[go_sem];refine wG tK ?_;refine wD (λh=>?_) (λh=>?_)
 ·have hlt:i<g.done.length:=by simp at h;omega
  have hg:(g.done.map ZA).getD i []=ZA (g.done.getD i default):=Fam.getD hlt;have hs1:=hsu i hlt;have hl1:=hle i z8;have how':=wi1 (i:=i) z8;generalize g.done.getD i default=a at *;generalize P i=Q at *;refine wR ?_;refine wNq tK 4 ?_ ?_ z6 z6 (by simp only[go_sem,hg,ZA];try exact rfl)
  ·simp[hg,ZA,hlt]
  refine wR ?_;refine wN tK 6 ?_;refine ag (bt 46 9 z6 j0) ?_;refine wGq tK ?_ ?_ j5
  ·simp[rowsOf,ZP];omega
  refine ZB ⟨i+1,by omega,by omega,ZU ?_ ?_ ?_⟩
  ·simp[go_sem]
  ·simp[go_sem,hs1,ZP,List.take_length]
  ·simp[go_sem]
 ·have e:i=g.done.length:=by simp at h;omega
  subst e;refine wG tK ?_;refine ZZ 46 rfl (dC _) ?_;simp only[go_sem];refine ZW ZM ?_;refine ZS rfl ?_;refine sN tK 3 ?_;refine sT tK ?_;refine sG tK ?_;refine sE ?_;refine wKd ?_
  try simp only[go_sem,gA,gB,gC]
  refine wG tK ?_;refine wT ?_;simp
def sX (log:List Rec) (vs:List Verdict) (i:Nat):List Rec:=cv (log.take i) (vs.take i)
def gZ (vs:List Verdict) (i:Nat):Nat:=eZ (vs.take i)
theorem mO (r:Rec) (v:Verdict):∀{l:List Rec} {vs:List Verdict},l.length=vs.length->cv (l++[r]) (vs++[v])=cv l vs++if v.err=0 then [] else [r]
 | [],[],_=>by
  simp only[List.nil_append,cv]
  first | done | (split<;>rfl)
 | [],_::_,h=>by simp at h
 | _::_,[],h=>by simp at h
 | a::l,b::vs,h=>by
  have ih:=mO r v (l:=l) (vs:=vs) u6;simp only[List.cons_append,cv];rw[ih];split
  ·rfl
  ·rfl
theorem BE {log:List Rec} {vs:List Verdict} {i:Nat} (h:i<vs.length) (hl:vs.length=log.length):sX log vs (i+1)=if (vs.getD i default).err=0 then sX log vs i else sX log vs i++[log.getD i default]:=by
 unfold sX;rw[ZT h,ZT (show i<log.length by omega),mO _ _ k9];split
 ·rw[List.append_nil]
 ·rfl
theorem q_ {vs:List Verdict} {i:Nat} (h:i<vs.length):gZ vs (i+1)=if (vs.getD i default).err=0 then gZ vs i+1 else gZ vs i:=by
 unfold gZ eZ;rw[ZT h,List.filter_append,List.length_append];generalize vs.getD i default=v
 by_cases e:v.err=0
 ·rw[if_pos e];simp[e]
 ·rw[if_neg e];simp[e]
theorem vX (vs:List Verdict) (i:Nat) (h:i≤vs.length):gZ vs i≤i:=by
 unfold gZ eZ;have:=List.length_filter_le (λv:Verdict=>v.err==0) (vs.take i);rw[List.length_take] at this;omega
theorem nY:∀(l:List Rec) (vs:List Verdict),(cv l vs).length≤l.length
 | [],_=>by simp[cv]
 | _::_,[]=>by simp[cv]
 | a::l,b::vs=>by
  have ih:=nY l vs;simp only[cv];split
  ·simp only[List.length_cons];omega
  ·simp only[List.length_cons];omega
theorem DJ (log:List Rec) (vs:List Verdict) (i:Nat):(sX log vs i).length≤log.length:=Nat.le_trans (nY _ _) QH
def mC (c:Cli) (vs:List Verdict) (i:Nat):List Rec:=c.repair++sX c.log vs i
theorem tW {c:Cli} {vs:List Verdict} {i:Nat} (h:i<vs.length) (hl:vs.length=c.log.length):mC c vs (i+1)=if (vs.getD i default).err=0 then mC c vs i else mC c vs i++[c.log.getD i default]:=by
 unfold mC;rw[BE h hl];split
 ·rfl
 ·rw[List.append_assoc]
theorem xI (c:Cli) (vs:List Verdict) (i:Nat):(mC c vs i).length≤c.repair.length+c.log.length:=by
 unfold mC;rw[List.length_append];have:=DJ c.log vs i;omega
def vK (u:U) (l:List Rec):U:=⟨{ u.c with repair:=l },u.s⟩
theorem DG {B T:Nat} (u:U) (h:UInv B T u) (hB:B≤40000000) (G Y N:Nat->Nat):ae Tryz.prog 40 [.ptr 900 13 0 0] (uH u G Y N)
  (λr H=>r=.tup [.int .i64 (eZ (aK u)),.int .i64 ((aK u).length-eZ (aK u):Nat)]/\Holds (uH (kT u) G Y N) H):=by
 have hci:=h.cli;have hll:=hci.log;have hfit:∀r,r∈u.c.log->ActFit r.act:=λr hr=>(hci.logS r hr).fit
 have htk:=DS u.s h.srv z8 u.c.number u.c.log z8 hfit;have hvl:(aK u).length=u.c.log.length:=(JInv.rC h.srv.hist u.c.number u.s.next u.c.log hfit).vlen;have hs2:=h.srv.take u.c.number hfit;have hrep:=hci.rep;have hcl:u.c.cache.length≤24:=by have:=hci.len;have:=hci.room;omega
 have hbU:kT u=⟨{ u.c with away:=false,log:=[],repair:=mC u.c (aK u) (aK u).length,cache:=(u.c.cache.filter λk=>!k.dirty).filter λk=>!bD (gY u).tree k },gY u⟩:=by
  unfold kT mC sX;rw[List.take_length,hvl,List.take_length]
 have hdn:eZ (aK u)=gZ (aK u) (aK u).length:=by unfold gZ;rw[List.take_length]
 rw[hbU,hdn];have hst:∀i,i<(aK u).length->_:=λi hi=>tW (c:=u.c) hi hvl
 have hsd:∀i,i<(aK u).length->_:=λi hi=>q_ (vs:=aK u) hi
 have hdl:=vX (aK u);have hrl:=xI u.c (aK u);have h0:mC u.c (aK u) 0=u.c.repair:=by simp[mC,sX,cv]
 have h00:gZ (aK u) 0=0:=by simp[gZ,eZ]
 have hof:=tQ (gY u).tree (by have:=hs2.hist.bM.len;unfold gY;omega);have hfr:=ni (u.c.cache.filter λk=>!k.dirty) (gY u).tree (Nat.le_trans (List.length_filter_le _ _) z8) hs2.hist.bM.up;unfold aK at *;unfold gY at *;generalize (bQ u.s.tree u.s.next ((u.s.past.length+1:Nat):Int) u.c.log).vs=vs at *;generalize kZ u.s u.c.number u.c.log=s2 at *;generalize mC u.c vs=R at *;generalize gZ vs=D at *;clear hbU hdn;unfold ZQ at htk;unfold uH bl;refine ZF tK (Tryz.func40) rfl (λC=>?_);simp only[Tryz.ntmps40,Tryz.results40,go_sem];refine wG tK ?_;refine ZW ZM ?_;refine ZS rfl ?_;refine sN tK 14 ?_;refine sC Tryz.func86 (hf:=(htk)) (hk:=?_);refine sN tK 3 ?_;refine sW tK ?_;refine sT tK ?_;refine sG tK ?_;refine sE ?_;refine wKd ?_
 try simp only[go_sem,gA,gB,gC]
 refine wG tK ?_;refine ZL (λi:Nat=>i≤vs.length) (λi=>vs.length-i) (λi=>[(6,.int .i64 (D i:Nat)),(7,.any),(8,.any),(32,.int .i64 i),(33,.any),(34,.any),(35,.any),(36,.any),(37,.any),(38,.any),(39,.any),(40,.any),(41,.any),(42,.any),(43,.any),(44,.any),(45,.any),(46,.any),(47,.any),(48,.any),(49,.any),(50,.any),(51,.any),(52,.any),(53,.any),(54,.any),(55,.any),(56,.any),(57,.any),(58,.any),(59,.any),(60,.any),(61,.any),(62,.any),(63,.any)])
  (λi=>[(900,.cells 97 13 [bl (vK u (R i))])]) 0 z8 ?_ λi hi=>?_
 ·rw[h00];unfold bl vK;rw[h0];simp only[go_sem];exact ZU w3 w3 w3
 unfold bl vK;simp only[go_sem];refine wG tK ?_;refine wD (λh=>?_) (λh=>?_)
 ·have hlt:i<vs.length:=by simp at h;omega
  have hlt2:i<u.c.log.length:=by omega
  have hg:(vs.map ZV).getD i []=ZV (vs.getD i default):=Fam.getD hlt;have hgl:(u.c.log.map ZR).getD i []=ZR (u.c.log.getD i default):=Fam.getD hlt2;have hs1:=hst i hlt;have hs3:=hsd i hlt;have hl1:=hdl i z8;have hl2:=hrl i;have how':=wi1 (i:=i) z8;have hwd:IntKind.i64.wrap ((D i:Int)+1)=((D i+1:Nat):Int):=by rw[Eng.wrap_small z8 z8];rfl
  generalize u.c.log.getD i default=r at *;generalize vs.getD i default=v at *;generalize R i=Q at *;refine wR ?_;refine wNq tK 6 ?_ ?_ z6 z6 (by simp only[go_sem,hg,ZV];try exact rfl)
  ·simp[hg,ZV,hlt]
  refine wG tK ?_
  by_cases he:v.err=0
  ·rw[if_pos he] at hs1 hs3;refine wDT (hb:=QI) (hk:=?_);refine wG tK ?_ (by simp only[go_sem,hwd,how'];try exact rfl) (by simp[go_sem,hwd,how']);refine ZB ⟨i+1,by omega,by omega,ZU ?_ ?_ ?_⟩
   ·simp[go_sem,hs3]
   ·simp[go_sem,hs1,bl,vK]
   ·simp[go_sem]
  ·rw[if_neg he] at hs1 hs3;have hnr2:∀id,bH id (.cells 116 9 (List.take Q.length (Q.map ZR)++[ZR r])):=λid=>by
    rw[show List.take Q.length (Q.map ZR)++[ZR r]=(Q++[r]).map ZR by simp];exact ib id _
   refine wDF (hb:=QI) (hk:=?_);refine wG tK ?_;refine ZW ZM ?_;refine kI [(43,[43]),(49,[49])] rfl (AP WS) ?_;refine zN tK 1 (hk:=?_);refine zW tK (hk:=?_);refine zN tK 5 (hk:=?_);refine zA tK (h2:=?_) (h4:=?_) (h5:=?_) (h7:=?_) (h8:=?_) (hzz:=?_) (hn:=rfl) (hr:=rfl) (hk:=?_)
   ·exact sV _
   ·exact xG _
   ·rw[show tab.byt 116=104 from rfl];simp;omega
   ·simp
   ·exact ib 43 _
   ·intro z hz;simp only[List.mem_cons,List.not_mem_nil,or_false] at hz
    rcases hz with rfl | rfl
    ·exact .inl ⟨by decide,ib 43 _⟩
    ·exact .inr ⟨rfl,by decide⟩
   refine zN tK 6 (hk:=?_);refine zN tK 2 (h:=by simp only[go_sem,hgl,ZR];try exact rfl) (hp:=?_) (hk:=?_)
   ·simp[hgl,ZR,hlt2]
   refine zW tK (hk:=?_);refine zA tK (h2:=?_) (h4:=?_) (h5:=?_) (h7:=?_) (h8:=?_) (hzz:=?_) (hn:=rfl) (hr:=rfl) (hk:=?_)
   ·intro row h;simp at h;subst h;rfl
   ·rfl
   ·rw[show tab.byt 116=104 from rfl];simp;omega
   ·simp
   ·exact hnr2 49
   ·intro z hz;simp only[List.mem_cons,List.not_mem_nil,or_false] at hz
    rcases hz with rfl | rfl
    ·exact .inl ⟨by decide,hnr2 43⟩
    ·exact .inl ⟨by decide,hnr2 49⟩
   refine zN tK 3 (hk:=?_);refine og w4 z6 ?_;refine dS tK ?_;refine wKd ?_
   try simp only[go_sem,gA,gB,gC]
   refine ZZ 59 rfl (by rw[List.all_append,cO];rfl) ?_;simp only[go_sem];refine wG tK ?_ j5 Qz;refine ZB ⟨i+1,by omega,by omega,ZU ?_ ?_ ?_⟩
   ·simp[go_sem,hs3]
   ·simp[go_sem,hs1,bl,vK,ZR];exact List.take_of_length_le y8
   ·simp[go_sem]
 ·have e:i=vs.length:=by simp at h;omega
  subst e;clear hst hsd;have hl1:=hdl vs.length (Nat.le_refl _);generalize hD:D vs.length=d at *;generalize R vs.length=Q at *;refine wG tK ?_;refine ag (le_empty 80 67 8 z7) ?_;simp only[go_sem];refine ZL (λi:Nat=>i≤u.c.cache.length) (λi=>u.c.cache.length-i) (λi=>[(9,.osl 80 8 0 ((u.c.cache.take i).filter λk=>!k.dirty).length),(11,.any),(70,.int .i64 i),(71,.any),(72,.any),(73,.any),(74,.any),(75,.any),(76,.any),(77,.any),(78,.any),(79,.any),(80,.any),(81,.any)]) (λi=>[(80,.cells 67 8 (((u.c.cache.take i).filter λk=>!k.dirty).map ZK))]) 0 z8 ?_ λi hi=>?_
  ·simp only[go_sem];exact ZU w3 w3 w3
  simp only[go_sem];refine wG tK ?_;refine wD (λh=>?_) (λh=>?_)
  ·have hlt:i<u.c.cache.length:=by simp at h;omega
   have hg:(u.c.cache.map ZK).getD i []=ZK (u.c.cache.getD i default):=Fam.getD hlt;have hw:=wi1 (i:=i) z8;have htk2:(u.c.cache.take (i+1)).filter (λk=>!k.dirty)=(u.c.cache.take i).filter (λk=>!k.dirty)++if (u.c.cache.getD i default).dirty=true then [] else [u.c.cache.getD i default]:=by
    rw[ZT hlt,List.filter_append,List.filter_cons];cases (u.c.cache.getD i default).dirty<;>simp
   have hll2:((u.c.cache.take i).filter λk=>!k.dirty).length≤i:=by
    have:=List.length_filter_le (λk:Kept=>!k.dirty) (u.c.cache.take i);simp only[List.length_take] at this;omega
   generalize (u.c.cache.take i).filter (λk=>!k.dirty)=F at htk2 hll2;generalize u.c.cache.getD i default=k at hg htk2;have htq:List.take F.length (F.map ZK)=F.map ZK:=List.take_of_length_le y8;refine wR ?_;refine wNq tK 4 ?_ ?_ z6 z6 x7
   ·simp[hg,ZK,hlt]
   refine wG tK ?_;cases hd:k.dirty with
   | true=>
    rw[hd,if_pos rfl,List.append_nil] at htk2;refine wDF (hb:=(rfl)) (hk:=?_);refine wG tK ?_ w5 k0;refine ZB ⟨i+1,by omega,by omega,ZU ?_ ?_ ?_⟩
    ·simp[go_sem,htk2]
    ·simp[go_sem,htk2]
    ·simp[go_sem]
   | false=>
    rw[hd,if_neg y8] at htk2;refine wDT (hb:=(rfl)) (hk:=?_);refine wGq tK ?_ ?_ w5
    ·simp[htq,refs];omega
    refine ZB ⟨i+1,by omega,by omega,ZU ?_ ?_ ?_⟩
    ·simp[go_sem,htk2]
    ·simp[go_sem,htk2,htq,ZK,hd]
    ·simp[go_sem]
  ·have e:i=u.c.cache.length:=by simp at h;omega
   subst e;rw[List.take_length];refine wG tK ?_;refine ZZ 80 rfl (bb _) ?_;simp only[go_sem];refine ZW ZM ?_;refine iW 2 [0,1,3,4,5,6,7,8,9,10,11,12,13,14] [0,1,0,2,3,4,5,6,7,8,9,10,11,12,13] rfl rfl rfl (λ_ _ _ h=>h) w4 w4 j8 z7 ?_
   try simp only[go_sem,gA,gB,gC]
   refine iW 1 [0,2,3,4,5,6,7,8,9,10,11,12,13] [0,0,1,2,3,4,5,6,7,8,9,10,11,12] rfl rfl rfl (λ_ _ _ h=>h) w4 w4 j8 z7 ?_
   try simp only[go_sem,gA,gB,gC]
   refine ZS rfl ?_;refine sN tK 5 ?_;refine sT tK ?_;refine sN tK 3 ?_;refine sT tK ?_;refine sN tK 2 ?_;refine sT tK ?_;refine sE ?_;refine wKd ?_
   try simp only[go_sem,gA,gB,gC]
   refine wG tK ?_;refine wC Tryz.func18 (hf:=(hof)) (hk:=?_);refine wG tK ?_;refine wC Tryz.func51 (hf:=(hfr)) (hk:=?_);have hwl:IntKind.i64.wrap ((vs.length:Int)-(d:Int))=((vs.length-d:Nat):Int):=by rw[Eng.wrap_small z8 z8];omega
   refine wG tK ?_ (by simp only[go_sem,hwl];try exact rfl) (by simp[go_sem,hwl]);refine ag (ar 900) ?_;simp only[go_sem];refine wU ?_ ?_
   ·rfl
   ·exact q9q
def f_ (g:GotS):AV:=.tup [.agg (ZC g.u.c),.agg (ZQ g.u.s),.agg (aW g.r)]
theorem H6 (c:Cli) (s:Srv) (x:Step) (hk:x.kind=7):ae Tryz.prog 12 [.agg (ZC c),.agg (ZQ s),.agg (ZX x)] [] (λr _=>r=f_ (aw ⟨c,s⟩ x)):=by
 obtain ⟨k,cl,n,path,toPath,data⟩:=x;simp only at hk;subst hk;have hW:aw ⟨c,s⟩ ⟨7,cl,n,path,toPath,data⟩=⟨⟨{ c with away:=true },s⟩,cy 0⟩:=by unfold aw;rfl
 rw[hW];unfold ZC ZQ ZX;refine ZF tK (Tryz.func12) rfl (λC=>?_);simp only[Tryz.ntmps12,Tryz.results12,go_sem];refine wG tK ?_;refine ag (de 22 900) ?_;refine ag (ar 10) ?_;simp only[go_sem];refine wDF (hb:=(rfl)) (hk:=?_);refine wG tK ?_;refine wDF (hb:=(rfl)) (hk:=?_);refine wG tK ?_;refine wDF (hb:=(rfl)) (hk:=?_);refine wG tK ?_;refine wDF (hb:=(rfl)) (hk:=?_);refine wG tK ?_;refine wDF (hb:=(rfl)) (hk:=?_);refine wG tK ?_;refine wDF (hb:=(rfl)) (hk:=?_);refine wG tK ?_;refine wDT (hb:=(rfl)) (hk:=?_);refine wG tK ?_;refine ZW ZM ?_;refine ZS rfl ?_;refine sN tK 9 ?_;refine sT tK ?_;refine sT tK ?_;refine sT tK ?_;refine sE ?_;refine wKd ?_
 try simp only[go_sem,gA,gB,gC]
 refine wG tK ?_;refine wT ?_;rfl
theorem H0 {B T:Nat} (c:Cli) (s:Srv) (h:UInv B T ⟨c,s⟩) (hB:B≤30000000) (hT:T≤800000000000) (x:Step) (hp:x.path.length≤10000000) (hk:x.kind=3):ae Tryz.prog 12 [.agg (ZC c),.agg (ZQ s),.agg (ZX x)] [] (λr _=>r=f_ (aw ⟨c,s⟩ x)):=by
 obtain ⟨k,cl,n,path,toPath,data⟩:=x;simp only at hk hp;subst hk;have hW:aw ⟨c,s⟩ ⟨3,cl,n,path,toPath,data⟩=⟨(cx ⟨c,s⟩ path data).u,cy (cx ⟨c,s⟩ path data).e⟩:=by unfold aw;rfl
 have hw:=BW ⟨c,s⟩ h hB hT path data hp;rw[hW];generalize cx ⟨c,s⟩ path data=w at *;unfold uH bl at hw;unfold ZC ZQ ZX;refine ZF tK (Tryz.func12) rfl (λC=>?_);simp only[Tryz.ntmps12,Tryz.results12,go_sem];refine wG tK ?_;refine ag (de 22 900) ?_;refine ag (ar 10) ?_;simp only[go_sem];refine wDF (hb:=(rfl)) (hk:=?_);refine wG tK ?_;refine wDF (hb:=(rfl)) (hk:=?_);refine wG tK ?_;refine wDT (hb:=(rfl)) (hk:=?_);refine wG tK ?_;refine wP [900] Tryz.func36 (hf:=(hw)) (hk:=?_);refine wG tK ?_;refine ZW ZM ?_;refine ZS rfl ?_;refine sN tK 9 ?_;refine sT tK ?_;refine sT tK ?_;refine sT tK ?_;refine sE ?_;refine wKd ?_
 try simp only[go_sem,gA,gB,gC]
 refine wG tK ?_;refine wT ?_;rfl
theorem H3 {B T:Nat} (c:Cli) (s:Srv) (h:UInv B T ⟨c,s⟩) (hB:B≤30000000) (hT:T≤800000000000) (x:Step) (hp:x.path.length≤10000000) (hk:x.kind=4):ae Tryz.prog 12 [.agg (ZC c),.agg (ZQ s),.agg (ZX x)] [] (λr _=>r=f_ (aw ⟨c,s⟩ x)):=by
 obtain ⟨k,cl,n,path,toPath,data⟩:=x;simp only at hk hp;subst hk;have hW:aw ⟨c,s⟩ ⟨4,cl,n,path,toPath,data⟩=⟨(gj ⟨c,s⟩ path).u,cy (gj ⟨c,s⟩ path).e⟩:=by unfold aw;rfl
 have hM:gj ⟨c,s⟩ path=if (ai ⟨c,s⟩ path).e≠0 then ⟨(ai ⟨c,s⟩ path).e,(ai ⟨c,s⟩ path).u⟩ else cU (ai ⟨c,s⟩ path).u (g_ (ai ⟨c,s⟩ path).n.fid (ai ⟨c,s⟩ path).name) (-1):=rfl;have hd:=lO ⟨c,s⟩ h z8 z8 path hp;have hdi:=ct h path;have hnm:=bF ⟨c,s⟩ path;rw[hW];generalize gj ⟨c,s⟩ path=w at *;generalize ai ⟨c,s⟩ path=d at *;unfold uH bl at hd;unfold ZC ZQ ZX;refine ZF tK (Tryz.func12) rfl (λC=>?_);simp only[Tryz.ntmps12,Tryz.results12,go_sem];refine wG tK ?_;refine ag (de 22 900) ?_;refine ag (ar 10) ?_;simp only[go_sem];refine wDF (hb:=(rfl)) (hk:=?_);refine wG tK ?_;refine wDF (hb:=(rfl)) (hk:=?_);refine wG tK ?_;refine wDF (hb:=(rfl)) (hk:=?_);refine wG tK ?_;refine wDT (hb:=(rfl)) (hk:=?_);refine wG tK ?_;refine wP [900] Tryz.func37 (hf:=(hd)) (hk:=?_);refine wGq tK ?_ ?_ w6
 ·simp[ZN]
 by_cases hde:d.e=0
 ·rw[if_neg u5] at hM;have hact:=mq d.u hdi z8 z8 (g_ d.n.fid d.name) ⟨hnm,by simp[g_],by simp[g_]⟩ (-1);unfold uH bl at hact;simp only[ZA,g_,List.map_nil] at hact hM;generalize cU d.u ⟨2,0,d.n.fid,d.name,0,[],[]⟩ (-1)=y at *;rw[hM];refine wDT (hb:=u5) (hk:=?_);refine wG tK ?_;refine ag (uQ 123 z6 Zt) ?_;simp only[go_sem];refine wP [900] Tryz.func38 (hf:=(hact)) (hk:=?_);refine wG tK ?_;refine ZW ZM ?_;refine ZS rfl ?_;refine sN tK 9 ?_;refine sT tK ?_;refine sT tK ?_;refine sT tK ?_;refine sE ?_;refine wKd ?_
  try simp only[go_sem,gA,gB,gC]
  refine wG tK ?_;refine wT ?_;rfl
 ·rw[if_pos u5] at hM;rw[hM];refine wDF (hb:=u5) (hk:=?_);refine wG tK ?_;refine ZW ZM ?_;refine ZS rfl ?_;refine sN tK 9 ?_;refine sT tK ?_;refine sT tK ?_;refine sT tK ?_;refine sE ?_;refine wKd ?_
  try simp only[go_sem,gA,gB,gC]
  refine wG tK ?_;refine wT ?_;rfl
theorem H4 {B T:Nat} (c:Cli) (s:Srv) (h:UInv B T ⟨c,s⟩) (hB:B≤30000000) (hT:T≤800000000000) (x:Step) (hp:x.path.length≤10000000) (hk:x.kind=5):ae Tryz.prog 12 [.agg (ZC c),.agg (ZQ s),.agg (ZX x)] [] (λr _=>r=f_ (aw ⟨c,s⟩ x)):=by
 obtain ⟨k,cl,n,path,toPath,data⟩:=x;simp only at hk hp;subst hk;have hW:aw ⟨c,s⟩ ⟨5,cl,n,path,toPath,data⟩=⟨(bC ⟨c,s⟩ path).u,cy (bC ⟨c,s⟩ path).e⟩:=by unfold aw;rfl
 have hw:=zw ⟨c,s⟩ h hB hT path [] hp;rw[hW];generalize bC ⟨c,s⟩ path=w at *;unfold uH bl at hw;unfold ZC ZQ ZX;refine ZF tK (Tryz.func12) rfl (λC=>?_);simp only[Tryz.ntmps12,Tryz.results12,go_sem];refine wG tK ?_;refine ag (de 22 900) ?_;refine ag (ar 10) ?_;simp only[go_sem];refine wDF (hb:=(rfl)) (hk:=?_);refine wG tK ?_;refine wDF (hb:=(rfl)) (hk:=?_);refine wG tK ?_;refine wDF (hb:=(rfl)) (hk:=?_);refine wG tK ?_;refine wDF (hb:=(rfl)) (hk:=?_);refine wG tK ?_;refine wDT (hb:=(rfl)) (hk:=?_);refine wG tK ?_;refine wP [900] Tryz.func39 (hf:=(hw)) (hk:=?_);refine wG tK ?_;refine ZW ZM ?_;refine ZS rfl ?_;refine sN tK 9 ?_;refine sT tK ?_;refine sT tK ?_;refine sT tK ?_;refine sE ?_;refine wKd ?_
 try simp only[go_sem,gA,gB,gC]
 refine wG tK ?_;refine wT ?_;rfl
theorem H5 {B T:Nat} (c:Cli) (s:Srv) (h:UInv B T ⟨c,s⟩) (hB:B≤30000000) (hT:T≤800000000000) (x:Step) (hp:x.path.length≤10000000) (hq:x.toPath.length≤10000000) (hk:x.kind=6):ae Tryz.prog 12 [.agg (ZC c),.agg (ZQ s),.agg (ZX x)] [] (λr _=>r=f_ (aw ⟨c,s⟩ x)):=by
 obtain ⟨k,cl,n,path,toPath,data⟩:=x;simp only at hk hp hq;subst hk;have hW:aw ⟨c,s⟩ ⟨6,cl,n,path,toPath,data⟩=⟨(c_ ⟨c,s⟩ path toPath).u,cy (c_ ⟨c,s⟩ path toPath).e⟩:=by unfold aw;rfl
 have hw:=DP ⟨c,s⟩ h hB hT path toPath hp hq;rw[hW];generalize c_ ⟨c,s⟩ path toPath=w at *;unfold uH bl at hw;unfold ZC ZQ ZX;refine ZF tK (Tryz.func12) rfl (λC=>?_);simp only[Tryz.ntmps12,Tryz.results12,go_sem];refine wG tK ?_;refine ag (de 22 900) ?_;refine ag (ar 10) ?_;simp only[go_sem];refine wDF (hb:=(rfl)) (hk:=?_);refine wG tK ?_;refine wDF (hb:=(rfl)) (hk:=?_);refine wG tK ?_;refine wDF (hb:=(rfl)) (hk:=?_);refine wG tK ?_;refine wDF (hb:=(rfl)) (hk:=?_);refine wG tK ?_;refine wDF (hb:=(rfl)) (hk:=?_);refine wG tK ?_;refine wDT (hb:=(rfl)) (hk:=?_);refine wG tK ?_;refine wP [900] Tryz.func39 (hf:=(hw)) (hk:=?_);refine wG tK ?_;refine ZW ZM ?_;refine ZS rfl ?_;refine sN tK 9 ?_;refine sT tK ?_;refine sT tK ?_;refine sT tK ?_;refine sE ?_;refine wKd ?_
 try simp only[go_sem,gA,gB,gC]
 refine wG tK ?_;refine wT ?_;rfl
theorem H7 {B T:Nat} (c:Cli) (s:Srv) (h:UInv B T ⟨c,s⟩) (hB:B≤30000000) (hT:T≤800000000000) (x:Step) (hk:x.kind=8):ae Tryz.prog 12 [.agg (ZC c),.agg (ZQ s),.agg (ZX x)] [] (λr _=>r=f_ (aw ⟨c,s⟩ x)):=by
 obtain ⟨k,cl,n,path,toPath,data⟩:=x;simp only at hk;subst hk;have hW:aw ⟨c,s⟩ ⟨8,cl,n,path,toPath,data⟩=⟨kT ⟨c,s⟩,⟨0,eZ (aK ⟨c,s⟩),((aK ⟨c,s⟩).length-eZ (aK ⟨c,s⟩):Nat),[]⟩⟩:=by unfold aw;rfl
 have hw:=DG ⟨c,s⟩ h z8;rw[hW];generalize (aK ⟨c,s⟩).length-eZ (aK ⟨c,s⟩)=m2 at *;generalize eZ (aK ⟨c,s⟩)=m1 at *;generalize kT ⟨c,s⟩=w at *;unfold uH bl at hw;unfold ZC ZQ ZX;refine ZF tK (Tryz.func12) rfl (λC=>?_);simp only[Tryz.ntmps12,Tryz.results12,go_sem];refine wG tK ?_;refine ag (de 22 900) ?_;refine ag (ar 10) ?_;simp only[go_sem];refine wDF (hb:=(rfl)) (hk:=?_);refine wG tK ?_;refine wDF (hb:=(rfl)) (hk:=?_);refine wG tK ?_;refine wDF (hb:=(rfl)) (hk:=?_);refine wG tK ?_;refine wDF (hb:=(rfl)) (hk:=?_);refine wG tK ?_;refine wDF (hb:=(rfl)) (hk:=?_);refine wG tK ?_;refine wDF (hb:=(rfl)) (hk:=?_);refine wG tK ?_;refine wDF (hb:=(rfl)) (hk:=?_);refine wG tK ?_;refine wDT (hb:=(rfl)) (hk:=?_);refine wG tK ?_;refine wP [900] Tryz.func40 (hf:=(hw)) (hk:=?_);refine wG tK ?_;refine ZW ZM ?_;refine ZS rfl ?_;refine sN tK 9 ?_;refine sT tK ?_;refine sT tK ?_;refine sT tK ?_;refine sE ?_;refine wKd ?_
 try simp only[go_sem,gA,gB,gC]
 refine wG tK ?_;refine wT ?_;rfl
theorem H8 {B T:Nat} (c:Cli) (s:Srv) (h:UInv B T ⟨c,s⟩) (hB:B≤30000000) (hT:T≤800000000000) (x:Step) (hp:x.path.length≤10000000) (hk:x.kind=9):ae Tryz.prog 12 [.agg (ZC c),.agg (ZQ s),.agg (ZX x)] [] (λr _=>r=f_ (aw ⟨c,s⟩ x)):=by
 obtain ⟨k,cl,n,path,toPath,data⟩:=x;simp only at hk hp;subst hk;have hW:aw ⟨c,s⟩ ⟨9,cl,n,path,toPath,data⟩=⟨(dB ⟨c,s⟩ path n).u,cy (dB ⟨c,s⟩ path n).e⟩:=by unfold aw;rfl
 have hw:=zu ⟨c,s⟩ h path hp n;rw[hW];generalize dB ⟨c,s⟩ path n=w at *;unfold uH bl at hw;unfold ZC ZQ ZX;refine ZF tK (Tryz.func12) rfl (λC=>?_);simp only[Tryz.ntmps12,Tryz.results12,go_sem];refine wG tK ?_;refine ag (de 22 900) ?_;refine ag (ar 10) ?_;simp only[go_sem];refine wDF (hb:=(rfl)) (hk:=?_);refine wG tK ?_;refine wDF (hb:=(rfl)) (hk:=?_);refine wG tK ?_;refine wDF (hb:=(rfl)) (hk:=?_);refine wG tK ?_;refine wDF (hb:=(rfl)) (hk:=?_);refine wG tK ?_;refine wDF (hb:=(rfl)) (hk:=?_);refine wG tK ?_;refine wDF (hb:=(rfl)) (hk:=?_);refine wG tK ?_;refine wDF (hb:=(rfl)) (hk:=?_);refine wG tK ?_;refine wDF (hb:=(rfl)) (hk:=?_);refine wG tK ?_;refine wDT (hb:=(rfl)) (hk:=?_);refine wG tK ?_;refine wP [900] Tryz.func41 (hf:=(hw)) (hk:=?_);refine wG tK ?_;refine ZW ZM ?_;refine ZS rfl ?_;refine sN tK 9 ?_;refine sT tK ?_;refine sT tK ?_;refine sT tK ?_;refine sE ?_;refine wKd ?_
 try simp only[go_sem,gA,gB,gC]
 refine wG tK ?_;refine wT ?_;rfl
theorem DR {B T:Nat} (c:Cli) (s:Srv) (h:UInv B T ⟨c,s⟩) (hB:B≤30000000) (hT:T≤800000000000) (x:Step) (hk:x.kind=10) (ha:c.away=true):ae Tryz.prog 12 [.agg (ZC c),.agg (ZQ s),.agg (ZX x)] [] (λr _=>r=f_ (aw ⟨c,s⟩ x)):=by
 obtain ⟨k,cl,n,path,toPath,data⟩:=x;simp only at hk;subst hk;have hW:aw ⟨c,s⟩ ⟨10,cl,n,path,toPath,data⟩=⟨⟨c,s⟩,cy 12⟩:=by unfold aw;simp[ha]
 have hw:=xQ ⟨c,s⟩ h ha;rw[hW];unfold uH bl at hw;unfold ZC ZQ ZX;refine ZF tK (Tryz.func12) rfl (λC=>?_);simp only[Tryz.ntmps12,Tryz.results12,go_sem];refine wG tK ?_;refine ag (de 22 900) ?_;refine ag (ar 10) ?_;simp only[go_sem];refine wDF (hb:=(rfl)) (hk:=?_);refine wG tK ?_;refine wDF (hb:=(rfl)) (hk:=?_);refine wG tK ?_;refine wDF (hb:=(rfl)) (hk:=?_);refine wG tK ?_;refine wDF (hb:=(rfl)) (hk:=?_);refine wG tK ?_;refine wDF (hb:=(rfl)) (hk:=?_);refine wG tK ?_;refine wDF (hb:=(rfl)) (hk:=?_);refine wG tK ?_;refine wDF (hb:=(rfl)) (hk:=?_);refine wG tK ?_;refine wDF (hb:=(rfl)) (hk:=?_);refine wG tK ?_;refine wDF (hb:=(rfl)) (hk:=?_);refine wG tK ?_;refine wDT (hb:=(rfl)) (hk:=?_);refine wG tK ?_;refine wP [900] Tryz.func42 (hf:=(hw)) (hk:=?_);refine wG tK ?_;refine ZW ZM ?_;refine ZS rfl ?_;refine sN tK 9 ?_;refine sT tK ?_;refine sT tK ?_;refine sT tK ?_;refine sE ?_;refine wKd ?_
 try simp only[go_sem,gA,gB,gC]
 refine wG tK ?_;refine wT ?_;rfl
theorem FZ {B T:Nat} (c:Cli) (s:Srv) (h:UInv B T ⟨c,s⟩) (hB:B≤30000000) (hT:T≤800000000000) (x:Step) (hk:x.kind=10) (ha:c.away=false):ae Tryz.prog 12 [.agg (ZC c),.agg (ZQ s),.agg (ZX x)] [] (λr _=>r=f_ (aw ⟨c,s⟩ x)):=by
 obtain ⟨k,cl,n,path,toPath,data⟩:=x;simp only at hk;subst hk;have hW:aw ⟨c,s⟩ ⟨10,cl,n,path,toPath,data⟩=⟨(eG ⟨c,s⟩).u,⟨0,(eG ⟨c,s⟩).n,0,[]⟩⟩:=by unfold aw;simp[ha]
 have hw:=xR ⟨c,s⟩ h ha hB hT;rw[hW];generalize eG ⟨c,s⟩=w at *;unfold uH bl at hw;unfold ZC ZQ ZX;refine ZF tK (Tryz.func12) rfl (λC=>?_);simp only[Tryz.ntmps12,Tryz.results12,go_sem];refine wG tK ?_;refine ag (de 22 900) ?_;refine ag (ar 10) ?_;simp only[go_sem];refine wDF (hb:=(rfl)) (hk:=?_);refine wG tK ?_;refine wDF (hb:=(rfl)) (hk:=?_);refine wG tK ?_;refine wDF (hb:=(rfl)) (hk:=?_);refine wG tK ?_;refine wDF (hb:=(rfl)) (hk:=?_);refine wG tK ?_;refine wDF (hb:=(rfl)) (hk:=?_);refine wG tK ?_;refine wDF (hb:=(rfl)) (hk:=?_);refine wG tK ?_;refine wDF (hb:=(rfl)) (hk:=?_);refine wG tK ?_;refine wDF (hb:=(rfl)) (hk:=?_);refine wG tK ?_;refine wDF (hb:=(rfl)) (hk:=?_);refine wG tK ?_;refine wDT (hb:=(rfl)) (hk:=?_);refine wG tK ?_;refine wP [900] Tryz.func42 (hf:=(hw)) (hk:=?_);refine wG tK ?_;refine ZW ZM ?_;refine ZS rfl ?_;refine sN tK 9 ?_;refine sT tK ?_;refine sT tK ?_;refine sT tK ?_;refine sE ?_;refine wKd ?_
 try simp only[go_sem,gA,gB,gC]
 refine wG tK ?_;refine wT ?_;rfl
theorem H9 (c:Cli) (s:Srv) (x:Step) (hk:x.kind<1\/10<x.kind):ae Tryz.prog 12 [.agg (ZC c),.agg (ZQ s),.agg (ZX x)] [] (λr _=>r=f_ (aw ⟨c,s⟩ x)):=by
 obtain ⟨k,cl,n,path,toPath,data⟩:=x;simp only at hk;have hW:aw ⟨c,s⟩ ⟨k,cl,n,path,toPath,data⟩=⟨⟨c,s⟩,cy 1⟩:=by
  unfold aw;simp only
  repeat rw[if_neg z8]
 rw[hW];unfold ZC ZQ ZX;refine ZF tK (Tryz.func12) rfl (λC=>?_);simp only[Tryz.ntmps12,Tryz.results12,go_sem];refine wG tK ?_;refine ag (de 22 900) ?_;refine ag (ar 10) ?_;simp only[go_sem];refine wDF (hb:=k9) (hk:=?_);refine wG tK ?_;refine wDF (hb:=k9) (hk:=?_);refine wG tK ?_;refine wDF (hb:=k9) (hk:=?_);refine wG tK ?_;refine wDF (hb:=k9) (hk:=?_);refine wG tK ?_;refine wDF (hb:=k9) (hk:=?_);refine wG tK ?_;refine wDF (hb:=k9) (hk:=?_);refine wG tK ?_;refine wDF (hb:=k9) (hk:=?_);refine wG tK ?_;refine wDF (hb:=k9) (hk:=?_);refine wG tK ?_;refine wDF (hb:=k9) (hk:=?_);refine wG tK ?_;refine wDF (hb:=k9) (hk:=?_);refine wG tK ?_;refine ZW ZM ?_;refine ZS rfl ?_;refine sN tK 9 ?_;refine sT tK ?_;refine sT tK ?_;refine sT tK ?_;refine sE ?_;refine wKd ?_
 try simp only[go_sem,gA,gB,gC]
 refine wG tK ?_;refine wT ?_;rfl
def jL (l:List Entry) (i:Nat):List UInt8:=mJ (l.take i)
theorem mZ {l:List Entry} {i:Nat} (h:i<l.length):jL l (i+1)=jL l i++((l.getD i default).name++[10]):=by
 unfold jL mJ;rw[ZT h,List.flatMap_append];simp
theorem wB {B T:Nat} {u:U} (h:UInv B T u) (f w:Int):NmE (ba u f w).n.entries:=by
 unfold ba;split
 ·rename_i n hn;obtain ⟨k,hk,rfl,_⟩:=jP hn;exact h.cli.nam k hk
 ·split
  ·exact .nil
  ·split
   ·exact .nil
   ·rename_i n hn;exact h.srv.hist.whole.nm ((ZO h.srv.hist.bM.up).1 hn).1
theorem Ax {B:Nat} (w:Int):∀(l:List (List UInt8)) (T:Nat) (g:Got),UInv B T g.u->NmE g.n.entries->NmE (goR w l g).n.entries
 | [],T,g,h,hn=>by
  unfold goR;split
  ·exact hn
  ·exact .nil
 | s::r,T,g,h,hn=>by
  unfold goR;split
  ·exact .nil
  ·split
   ·exact .nil
   ·split
    ·exact .nil
    ·rename_i f _;exact Ax w r (T+1) _ (bP h f w) (wB h f w)
theorem uJ {B T:Nat} {u:U} (h:UInv B T u) (l:List (List UInt8)) (w:Int):NmE (goU u l w).n.entries:=Ax w l (T+1) _ (bP h 0 w) (wB h 0 w)
theorem oV {l:List Entry} (h:NmE l):∀i,i≤l.length->(jL l i).length≤41*i
 | 0,_=>by simp[jL,mJ]
 | i+1,hi=>by
  have ih:=oV h i z8;have hn:=h (l.getD i default) (by rw[List.getD_eq_getElem?_getD,List.getElem?_eq_getElem (show i<l.length by omega)];exact List.getElem_mem _);rw[mZ (show i<l.length by omega),List.length_append,List.length_append];simp only[List.length_cons,List.length_nil];omega
theorem HY {B T:Nat} (c:Cli) (s:Srv) (h:UInv B T ⟨c,s⟩) (hB:B≤30000000) (hT:T≤800000000000) (x:Step) (hp:x.path.length≤10000000) (hk:x.kind=1):ae Tryz.prog 12 [.agg (ZC c),.agg (ZQ s),.agg (ZX x)] [] (λr _=>r=f_ (aw ⟨c,s⟩ x)):=by
 obtain ⟨k,cl,n,path,toPath,data⟩:=x;simp only at hk hp;subst hk;have hW:aw ⟨c,s⟩ ⟨1,cl,n,path,toPath,data⟩=if (af path).2≠0 then ⟨⟨c,s⟩,cy (af path).2⟩ else ⟨(goU ⟨c,s⟩ (af path).1 0).u,fS 1 (goU ⟨c,s⟩ (af path).1 0)⟩:=by unfold aw;rfl
 have hsp:=iw path hp;have hsl:=bV path;have hgo:=rV ⟨c,s⟩ h z8 z8 (af path).1 z8 (λx hx=>by have:=(hsl.2 x hx).1;omega) 0;have hno:=nH h (af path).1 0;have hnam:=uJ h (af path).1 0;unfold cn at hsp;generalize goU ⟨c,s⟩ (af path).1 0=g at *;generalize af path=S at *;obtain ⟨L,E⟩:=S;simp only at hW hsp hgo;unfold uH bl gP at hgo;unfold ZC ZQ ZX;refine ZF tK (Tryz.func12) rfl (λC=>?_);simp only[Tryz.ntmps12,Tryz.results12,go_sem];refine wG tK ?_;refine ag (de 22 900) ?_;refine ag (ar 10) ?_;simp only[go_sem];refine wDT (hb:=(rfl)) (hk:=?_);refine wG tK ?_;refine wDT (hb:=(rfl)) (hk:=?_);refine wG tK ?_;refine wC Tryz.func17 (hf:=(hsp)) (hk:=?_);refine wG tK ?_
 by_cases hE:E=0
 ·rw[if_neg x8] at hW;rw[hW];refine wDF (hb:=x8) (hk:=?_);refine wG tK ?_;refine wP [900] Tryz.func35 (hf:=(hgo)) (hk:=?_);refine wGq tK ?_ ?_ w6
  ·simp[ZN]
  by_cases hge:g.e=0
  ·have hr:fS 1 g=if g.n.dir=true then ⟨9,0,0,[]⟩ else ⟨0,0,0,g.n.data⟩:=by unfold fS;rw[if_neg u1];rfl
   rw[hr];refine wDF (hb:=u1) (hk:=?_);refine wG tK ?_;cases hd:g.n.dir with
   | true=>
    refine wDT (hb:=(rfl)) (hk:=?_);refine wG tK ?_;refine ZW ZM ?_;refine ZS rfl ?_;refine sN tK 9 ?_;refine sT tK ?_;refine sT tK ?_;refine sT tK ?_;refine sE ?_;refine wKd ?_
    try simp only[go_sem,gA,gB,gC]
    refine wG tK ?_;refine wT ?_;rfl
   | false=>
    refine wDF (hb:=(rfl)) (hk:=?_);refine wG tK ?_;refine wDF (hb:=(rfl)) (hk:=?_);refine wG tK ?_;refine wDT (hb:=(rfl)) (hk:=?_);refine wG tK ?_;refine ZW ZM ?_;refine ZS rfl ?_;refine sN tK 9 ?_;refine sT tK ?_;refine sT tK ?_;refine sT tK ?_;refine sE ?_;refine wKd ?_
    try simp only[go_sem,gA,gB,gC]
    refine wG tK ?_;refine wT ?_;rfl
  ·have hr:fS 1 g=cy g.e:=by unfold fS;rw[if_pos hge];rfl
   rw[hr];refine wDT (hb:=u1) (hk:=?_);refine wG tK ?_;refine ZW ZM ?_;refine ZS rfl ?_;refine sN tK 9 ?_;refine sT tK ?_;refine sT tK ?_;refine sT tK ?_;refine sE ?_;refine wKd ?_
   try simp only[go_sem,gA,gB,gC]
   refine wG tK ?_;refine wT ?_;rfl
 ·rw[if_pos hE] at hW;rw[hW];refine wDT (hb:=x8) (hk:=?_);refine wG tK ?_;refine ZW ZM ?_;refine ZS rfl ?_;refine sN tK 3 ?_;refine sB tK ?_;refine sT tK ?_;refine sT tK ?_;refine sT tK ?_;refine sE ?_;refine wKd ?_
  try simp only[go_sem,gA,gB,gC]
  refine ag (ar 8) ?_;simp only[go_sem];refine wG tK ?_;refine wT ?_;rfl
theorem HZ {B T:Nat} (c:Cli) (s:Srv) (h:UInv B T ⟨c,s⟩) (hB:B≤30000000) (hT:T≤800000000000) (x:Step) (hp:x.path.length≤10000000) (hk:x.kind=2):ae Tryz.prog 12 [.agg (ZC c),.agg (ZQ s),.agg (ZX x)] [] (λr _=>r=f_ (aw ⟨c,s⟩ x)):=by
 obtain ⟨k,cl,n,path,toPath,data⟩:=x;simp only at hk hp;subst hk;have hW:aw ⟨c,s⟩ ⟨2,cl,n,path,toPath,data⟩=if (af path).2≠0 then ⟨⟨c,s⟩,cy (af path).2⟩ else ⟨(goU ⟨c,s⟩ (af path).1 0).u,fS 2 (goU ⟨c,s⟩ (af path).1 0)⟩:=by unfold aw;rfl
 have hsp:=iw path hp;have hsl:=bV path;have hgo:=rV ⟨c,s⟩ h z8 z8 (af path).1 z8 (λx hx=>by have:=(hsl.2 x hx).1;omega) 0;have hno:=nH h (af path).1 0;have hnam:=uJ h (af path).1 0;unfold cn at hsp;generalize goU ⟨c,s⟩ (af path).1 0=g at *;generalize af path=S at *;obtain ⟨L,E⟩:=S;simp only at hW hsp hgo;unfold uH bl gP at hgo;unfold ZC ZQ ZX;refine ZF tK (Tryz.func12) rfl (λC=>?_);simp only[Tryz.ntmps12,Tryz.results12,go_sem];refine wG tK ?_;refine ag (de 22 900) ?_;refine wDF (hb:=(rfl)) (hk:=?_);refine wG tK ?_;refine wDT (hb:=(rfl)) (hk:=?_);refine wG tK ?_;refine wC Tryz.func17 (hf:=(hsp)) (hk:=?_);refine wG tK ?_
 by_cases hE:E=0
 ·rw[if_neg x8] at hW;rw[hW];refine wDF (hb:=x8) (hk:=?_);refine wG tK ?_;refine wP [900] Tryz.func35 (hf:=(hgo)) (hk:=?_);refine wGq tK ?_ ?_ w6
  ·simp[ZN]
  by_cases hge:g.e=0
  ·have hr:fS 2 g=if g.n.dir=true then ⟨0,0,0,mJ g.n.entries⟩ else ⟨8,0,0,[]⟩:=by unfold fS;rw[if_neg u1];rfl
   rw[hr];refine wDF (hb:=u1) (hk:=?_);refine wG tK ?_;refine wDF (hb:=(rfl)) (hk:=?_);refine wG tK ?_;cases hd:g.n.dir with
   | true=>
    refine wDF (hb:=(rfl)) (hk:=?_);refine wG tK ?_;refine wDF (hb:=(rfl)) (hk:=?_);refine wG tK ?_;have hnm:=hnam;have hle:=hno.ent;have hD0:jL g.n.entries 0=[]:=rfl;have hDs:=λi=>@mZ g.n.entries i
    have hDn:=oV hnm;have hDe:jL g.n.entries g.n.entries.length=mJ g.n.entries:=by unfold jL;rw[List.take_length]
    rw[if_pos rfl];generalize jL g.n.entries=D at *;generalize mJ g.n.entries=DE at *;refine ag (le_empty 62 5 1 z7) ?_;simp only[go_sem];refine ag (qB 10 ([[.int .i64 0,.int .i64 0,.int .i64 0,.osl 62 1 0 0]]) z6 WW) ?_;simp only[go_sem];refine ZL (λi:Nat=>i≤g.n.entries.length) (λi=>g.n.entries.length-i) (λi=>[(15,.any),(51,.int .i64 i),(52,.any),(53,.any),(54,.any),(55,.any),(56,.any),(57,.any),(58,.any),(59,.any),(60,.any),(61,.any),(62,.any),(63,.any),(64,.any)])
     (λi=>[(10,.cells 44 4 [[.int .i64 0,.int .i64 0,.int .i64 0,.osl 62 1 0 (D i).length]]),(62,.cells 5 1 ((D i).map ZY))]) 0 z8 ?_ λi hi=>?_
    ·rw[hD0];simp only[go_sem];exact ZU w3 w3 w3
    simp only[go_sem];refine wG tK ?_;refine wD (λh=>?_) (λh=>?_)
    ·have hlt:i<g.n.entries.length:=by simp at h;omega
     have hg:(g.n.entries.map ZE).getD i []=ZE (g.n.entries.getD i default):=Fam.getD hlt;have hs1:=hDs i hlt;have hl1:=hDn i hi;have hl2:(g.n.entries.getD i default).name.length≤40:=hnm _ (by rw[List.getD_eq_getElem?_getD,List.getElem?_eq_getElem hlt];exact List.getElem_mem _);have how':=wi1 (i:=i) z8;generalize g.n.entries.getD i default=e at *;generalize D i=Di at *;have htq:List.take Di.length (Di.map ZY)=Di.map ZY:=List.take_of_length_le y8;refine wR ?_;refine wNq tK 4 ?_ ?_ z6 z6 s7
     ·simp[hg,ZE,hlt]
     refine wR ?_;refine wN tK 4 ?_;refine bN rfl (td tK rfl rfl rfl rfl z7) ?_;simp only[go_sem];refine ag (bt 62 10 z6 j0) ?_;refine wGq tK ?_ ?_ j5
     ·simp[htq,refs];refine ⟨⟨λrow hr=>?_,λ_ _=>rfl,by omega⟩,by omega,λrow hr y hy=>?_⟩
      ·obtain ⟨b,_,rfl⟩:=List.mem_map.1 hr;rfl
      ·rcases List.mem_append.1 (List.mem_of_mem_take hr) with hr | hr<;>obtain ⟨b,_,rfl⟩:=List.mem_map.1 hr<;>simp only[ZY,List.mem_cons,List.not_mem_nil,or_false] at hy<;>subst hy<;>simp[refs]
     refine ZB ⟨i+1,by omega,by omega,ZU ?_ ?_ ?_⟩
     ·simp[go_sem]
     ·simp[go_sem,hs1,htq,ZY];exact ⟨by rw[List.take_of_length_le y8,List.append_assoc];rfl,by omega⟩
     ·simp[go_sem]
    ·have e:i=g.n.entries.length:=by simp at h;omega
     subst e;rw[hDe];refine wG tK ?_;refine ZZ 62 rfl (j_ _) ?_;simp only[go_sem];refine wG tK ?_;refine ZW ZM ?_;refine ZS rfl ?_;refine sN tK 9 ?_;refine sT tK ?_;refine sT tK ?_;refine sT tK ?_;refine sE ?_;refine wKd ?_
     try simp only[go_sem,gA,gB,gC]
     refine wG tK ?_;refine wT ?_;rfl
   | false=>
    refine wDT (hb:=(rfl)) (hk:=?_);refine ag (ar 10) ?_;simp only[go_sem];refine wG tK ?_;refine ZW ZM ?_;refine ZS rfl ?_;refine sN tK 9 ?_;refine sT tK ?_;refine sT tK ?_;refine sT tK ?_;refine sE ?_;refine wKd ?_
    try simp only[go_sem,gA,gB,gC]
    refine wG tK ?_;refine wT ?_;rfl
  ·have hr:fS 2 g=cy g.e:=by unfold fS;rw[if_pos hge];rfl
   rw[hr];refine wDT (hb:=u1) (hk:=?_);refine ag (ar 10) ?_;simp only[go_sem];refine wG tK ?_;refine ZW ZM ?_;refine ZS rfl ?_;refine sN tK 9 ?_;refine sT tK ?_;refine sT tK ?_;refine sT tK ?_;refine sE ?_;refine wKd ?_
   try simp only[go_sem,gA,gB,gC]
   refine wG tK ?_;refine wT ?_;rfl
 ·rw[if_pos hE] at hW;rw[hW];refine wDT (hb:=x8) (hk:=?_);refine wG tK ?_;refine ZW ZM ?_;refine ZS rfl ?_;refine sN tK 3 ?_;refine sB tK ?_;refine sT tK ?_;refine sT tK ?_;refine sT tK ?_;refine sE ?_;refine wKd ?_
  try simp only[go_sem,gA,gB,gC]
  refine ag (ar 8) ?_;simp only[go_sem];refine wG tK ?_;refine wT ?_;rfl
theorem xP {B T:Nat} (c:Cli) (s:Srv) (h:UInv B T ⟨c,s⟩) (hB:B≤30000000) (hT:T≤800000000000) (x:Step) (hp:x.path.length≤10000000) (hq:x.toPath.length≤10000000):ae Tryz.prog 12 [.agg (ZC c),.agg (ZQ s),.agg (ZX x)] [] (λr _=>r=f_ (aw ⟨c,s⟩ x)):=by
 by_cases h0:x.kind<1\/10<x.kind
 ·exact H9 c s x h0
 ·have hc:x.kind=1\/x.kind=2\/x.kind=3\/x.kind=4\/x.kind=5\/x.kind=6\/x.kind=7\/x.kind=8\/x.kind=9\/x.kind=10:=by omega
  rcases hc with h1 | h1 | h1 | h1 | h1 | h1 | h1 | h1 | h1 | h1
  ·exact HY c s h hB hT x hp h1
  ·exact HZ c s h hB hT x hp h1
  ·exact H0 c s h hB hT x hp h1
  ·exact H3 c s h hB hT x hp h1
  ·exact H4 c s h hB hT x hp h1
  ·exact H5 c s h hB hT x hp hq h1
  ·exact H6 c s x h1
  ·exact H7 c s h hB hT x h1
  ·exact H8 c s h hB hT x hp h1
  ·cases ha:c.away with
   | true=>exact DR c s h hB hT x h1 ha
   | false=>exact FZ c s h hB hT x h1 ha
def sy (g:GotW):AV:=.tup [.agg (eX g.w),.agg (aW g.r)]
def csT (t:List Node) (cs:List Cli) (j:Nat) (c:Cli) (i:Nat):List Cli:=((cs.set j c).take i).map (fI t)
theorem CG {t:List Node} {cs:List Cli} {j:Nat} {c:Cli} {i:Nat} (h:i<cs.length):csT t cs j c (i+1)=csT t cs j c i++[fI t (if i=j then c else cs.getD i default)]:=by
 unfold csT;rw[ZT (show i<(cs.set j c).length by rw[List.length_set];exact h),List.map_append];have:(cs.set j c).getD i default=if i=j then c else cs.getD i default:=by
  rw[List.getD_eq_getElem?_getD,List.getElem?_set]
  by_cases e:j=i
  ·subst e;rw[if_pos rfl,if_pos h,if_pos rfl];rfl
  ·rw[if_neg e,if_neg (λh=>e h.symm),List.getD_eq_getElem?_getD]
 rw[this];rfl
theorem E6 {t:List Node} {cs:List Cli} {j:Nat} {c:Cli} {i:Nat} (h:i≤cs.length):(csT t cs j c i).length=i:=by
 unfold csT;rw[List.length_map,List.length_take,List.length_set];omega
theorem zD {B T:Nat} (w:Wor) (h:WInv B T w) (hB:B≤30000000) (hT:T≤800000000000) (x:Step) (hp:x.path.length≤10000000) (hq:x.toPath.length≤10000000) (hb:x.client<0\/x.client≥w.cs.length):ae Tryz.prog 22 [.agg (eX w),.agg (ZX x)] [] (λr _=>r=sy (gr w x)):=by
 have h3:=h.len;have hW:gr w x=⟨w,cy 6⟩:=by unfold gr;rw[if_pos hb]
 rw[hW];unfold eX ZX;refine ZF tK (Tryz.func22) rfl (λC=>?_);simp only[Tryz.ntmps22,Tryz.results22,go_sem];refine wR ?_;refine wN tK 4 ?_;refine wR ?_;refine wN tK 11 ?_;refine al 22 z6 (λc22 h22=>?_);simp only[go_sem];have hc:c22=true:=by
  rw[←h22]
  by_cases h1:x.client<0
  ·simp[h1]
  ·simp[h1];omega
 clear h22;refine wG tK ?_;refine wDT (hb:=(hc)) (hk:=?_);refine wG tK ?_;refine ag (ar 5) ?_;simp only[go_sem];refine wT ?_;rfl
theorem BU {B T:Nat} (w:Wor) (h:WInv B T w) (hB:B≤30000000) (hT:T≤800000000000) (x:Step) (hp:x.path.length≤10000000) (hq:x.toPath.length≤10000000) (hb:¬(x.client<0\/x.client≥w.cs.length)):ae Tryz.prog 22 [.agg (eX w),.agg (ZX x)] [] (λr _=>r=sy (gr w x)):=by
 have h3:=h.len;obtain ⟨k,cl,n,path,toPath,data⟩:=x;simp only at hb hp hq;obtain ⟨j,rfl⟩:∃j:Nat,cl=(j:Int):=⟨cl.toNat,by omega⟩;have hj:j<w.cs.length:=by omega
 have hu:=h.at hj;have hst:=xP (w.cs.getD j default) w.s hu hB hT ⟨k,j,n,path,toPath,data⟩ hp hq;have hinv:=sg hu ⟨k,j,n,path,toPath,data⟩;have hW:gr w ⟨k,j,n,path,toPath,data⟩=⟨⟨(aw ⟨w.cs.getD j default,w.s⟩ ⟨k,j,n,path,toPath,data⟩).u.s,csT (aw ⟨w.cs.getD j default,w.s⟩ ⟨k,j,n,path,toPath,data⟩).u.s.tree w.cs j (aw ⟨w.cs.getD j default,w.s⟩ ⟨k,j,n,path,toPath,data⟩).u.c w.cs.length⟩,(aw ⟨w.cs.getD j default,w.s⟩ ⟨k,j,n,path,toPath,data⟩).r⟩:=by
  unfold gr csT;rw[if_neg hb,show w.cs.length=(w.cs.set j (aw ⟨w.cs.getD j default,w.s⟩ ⟨k,j,n,path,toPath,data⟩).u.c).length by rw[List.length_set],List.take_length];rfl
 have hcx:∀i,i<w.cs.length->(w.cs.getD i default).cache.length≤24:=λi hi=>by have:=(h.at hi).cli.len;have:=(h.at hi).cli.room;simp only at *;omega
 rw[hW];have hg0:(w.cs.map ZC).getD j []=ZC (w.cs.getD j default):=Fam.getD hj;generalize w.cs.getD j default=c0 at hst hinv hg0 ⊢;generalize aw ⟨c0,w.s⟩ ⟨k,j,n,path,toPath,data⟩=g at *;have hcg:g.u.c.cache.length≤24:=by have:=hinv.cli.len;have:=hinv.cli.room;omega
 have hof:=tQ g.u.s.tree (by have:=hinv.srv.hist.bM.len;omega);have hfr0:=λl hl=>ni l g.u.s.tree hl hinv.srv.hist.bM.up
 have hcc:∀kk:Cli,kk.cache.length≤24->kk.cache.length≤90000000:=λkk hk=>by omega
 have hPs:=λi=>@CG g.u.s.tree w.cs j g.u.c i
 have hPl:=λi=>@E6 g.u.s.tree w.cs j g.u.c i
 have hP0:csT g.u.s.tree w.cs j g.u.c 0=[]:=rfl;generalize csT g.u.s.tree w.cs j g.u.c=P at *;unfold f_ ZC ZQ ZX aW at hst;unfold sy eX ZX aW;refine ZF tK (Tryz.func22) rfl (λC=>?_);simp only[Tryz.ntmps22,Tryz.results22,go_sem];refine wR ?_;refine wN tK 4 ?_;refine wR ?_;refine wN tK 11 ?_;refine al 22 z6 (λc22 h22=>?_);simp only[go_sem];have hc:c22=false:=by
  rw[←h22];have h1:¬((j:Int)<0):=by omega
  simp[h1];omega
 clear h22;refine wG tK ?_;refine wDF (hb:=(hc)) (hk:=?_);refine wG tK ?_;refine ZW ZM ?_;refine ZS rfl ?_;refine sNq tK 9 ?_ ?_ z6 z6 (by simp only[go_sem,hg0,ZC];try exact rfl)
 ·simp[hg0,hj,ZC]
 refine sC Tryz.func12 (hf:=(hst)) (hk:=?_);refine sN tK 4 ?_;refine sW tK ?_;refine sW tK ?_;refine sW tK ?_;refine sT tK ?_;refine sT tK ?_;refine sT tK ?_;refine sE ?_;refine wKd ?_
 try simp only[go_sem,gA,gB,gC]
 refine wG tK ?_;refine ag (le_empty 68 40 10 z7) ?_;simp only[go_sem];refine ag (qB 9 ([[.sl (g.u.s.tree.map ZN),.int .i64 g.u.s.next,.sl (g.u.s.past.map ZP),.osl 68 10 0 0]]) z6 WW) ?_;simp only[go_sem];refine ZL (λi:Nat=>i≤w.cs.length) (λi=>w.cs.length-i) (λi=>[(10,.any),(11,.any),(44,.int .i64 i),(45,.any),(46,.any),(47,.any),(48,.any),(49,.any),(50,.any),(51,.any),(52,.any),(53,.any),(54,.any),(55,.any),(56,.any),(57,.any),(58,.any),(59,.any),(60,.any),(61,.any),(62,.any),(63,.any),(64,.any),(65,.any),(66,.any),(67,.any),(68,.any),(69,.any),(70,.any)])
  (λi=>[(9,.cells 33 4 [[.sl (g.u.s.tree.map ZN),.int .i64 g.u.s.next,.sl (g.u.s.past.map ZP),.osl 68 10 0 (P i).length]]),(68,.cells 40 10 ((P i).map ZC))]) 0 z8 ?_ λi hi=>?_
 ·rw[hP0];simp only[go_sem];exact ZU w3 w3 w3
 simp only[go_sem];refine wG tK ?_;refine wD (λh=>?_) (λh=>?_)
 ·have hlt:i<w.cs.length:=by simp at h;omega
  have hg1:(w.cs.map ZC).getD i []=ZC (w.cs.getD i default):=Fam.getD hlt;have how':=wi1 (i:=i) z8;have hs1:=hPs i hlt;have hl1:=hPl i hi;have hci:=hcx i hlt;generalize w.cs.getD i default=ci at *;generalize P i=Q at *;have htq:List.take Q.length (Q.map ZC)=Q.map ZC:=List.take_of_length_le y8;refine wR ?_;refine wNq tK 6 ?_ ?_ z6 z6 (by simp only[go_sem,hg1,ZC];try exact rfl)
  ·simp[hg1,ZC,hlt]
  refine wG tK ?_
  by_cases hij:i=j
  ·rw[if_pos hij] at hs1;refine wDT (hb:=(by simp[hij])) (hk:=?_);refine wG tK ?_;have hin:=hcg;generalize hkv:g.u.c=kk at *;cases haw:kk.away with
   | true=>
    have hkk:fI g.u.s.tree kk=kk:=by unfold fI;rw[if_pos haw]
    refine wDF (hb:=Qu) (hk:=?_);refine wR ?_;refine wN tK 2 ?_;refine ag (bt 68 9 z6 j0) ?_;refine wGq tK ?_ ?_ j5
    ·simp[htq,refs];omega
    refine ZB ⟨i+1,by omega,by omega,ZU ?_ ?_ ?_⟩
    ·simp[go_sem]
    ·simp[go_sem,hs1,htq,ZC,hkk,haw]
    ·simp[go_sem]
   | false=>
    have hkk:fI g.u.s.tree kk={ kk with cache:=kk.cache.filter λk=>!bD g.u.s.tree k }:=by unfold fI mU;rw[if_neg Qu]
    have hfr:=hfr0 kk.cache (hcc kk hin);refine wDT (hb:=Qu) (hk:=?_);refine wG tK ?_;refine ZW ZM ?_;refine ZS rfl ?_;refine sN tK 4 ?_;refine sC Tryz.func18 (hf:=(hof)) (hk:=?_);refine sC Tryz.func51 (hf:=(hfr)) (hk:=?_);refine sN tK 1 ?_;refine sT tK ?_;refine sE ?_;refine wKd ?_
    try simp only[go_sem,gA,gB,gC]
    refine wR ?_;refine wN tK 2 ?_;refine ag (bt 68 9 z6 j0) ?_;refine wGq tK ?_ ?_ j5
    ·simp[htq,refs];omega
    refine ZB ⟨i+1,by omega,by omega,ZU ?_ ?_ ?_⟩
    ·simp[go_sem]
    ·simp[go_sem,hs1,htq,ZC,hkk,haw]
    ·simp[go_sem]
  ·rw[if_neg hij] at hs1;refine wDF (hb:=k9) (hk:=?_);refine wG tK ?_;have hin:=hci;generalize hkv:ci=kk at *;cases haw:kk.away with
   | true=>
    have hkk:fI g.u.s.tree kk=kk:=by unfold fI;rw[if_pos haw]
    refine wDF (hb:=Qu) (hk:=?_);refine wR ?_;refine wN tK 2 ?_;refine ag (bt 68 9 z6 j0) ?_;refine wGq tK ?_ ?_ j5
    ·simp[htq,refs];omega
    refine ZB ⟨i+1,by omega,by omega,ZU ?_ ?_ ?_⟩
    ·simp[go_sem]
    ·simp[go_sem,hs1,htq,ZC,hkk,haw]
    ·simp[go_sem]
   | false=>
    have hkk:fI g.u.s.tree kk={ kk with cache:=kk.cache.filter λk=>!bD g.u.s.tree k }:=by unfold fI mU;rw[if_neg Qu]
    have hfr:=hfr0 kk.cache (hcc kk hin);refine wDT (hb:=Qu) (hk:=?_);refine wG tK ?_;refine ZW ZM ?_;refine ZS rfl ?_;refine sN tK 4 ?_;refine sC Tryz.func18 (hf:=(hof)) (hk:=?_);refine sC Tryz.func51 (hf:=(hfr)) (hk:=?_);refine sN tK 1 ?_;refine sT tK ?_;refine sE ?_;refine wKd ?_
    try simp only[go_sem,gA,gB,gC]
    refine wR ?_;refine wN tK 2 ?_;refine ag (bt 68 9 z6 j0) ?_;refine wGq tK ?_ ?_ j5
    ·simp[htq,refs];omega
    refine ZB ⟨i+1,by omega,by omega,ZU ?_ ?_ ?_⟩
    ·simp[go_sem]
    ·simp[go_sem,hs1,htq,ZC,hkk,haw]
    ·simp[go_sem]
 ·have e:i=w.cs.length:=by simp at h;omega
  subst e;have hl1:=hPl w.cs.length (Nat.le_refl _);generalize P w.cs.length=Q at *;have htq:List.take Q.length (Q.map ZC)=Q.map ZC:=List.take_of_length_le y8;refine ZZ 68 rfl (pz _) ?_;simp only[go_sem,htq];refine wG tK ?_;refine ZW ZM ?_;refine ZS rfl ?_;refine sN tK 2 ?_;refine sT tK ?_;refine sT tK ?_;refine sE ?_;refine wKd ?_
  try simp only[go_sem,gA,gB,gC]
  refine wG tK ?_;refine wT ?_;rfl
theorem BV {B T:Nat} (w:Wor) (h:WInv B T w) (hB:B≤30000000) (hT:T≤800000000000) (x:Step) (hp:x.path.length≤10000000) (hq:x.toPath.length≤10000000):ae Tryz.prog 22 [.agg (eX w),.agg (ZX x)] [] (λr _=>r=sy (gr w x)):=by
 by_cases hb:x.client<0\/x.client≥w.cs.length
 ·exact zD w h hB hT x hp hq hb
 ·exact BU w h hB hT x hp hq hb
theorem sP:ae Tryz.prog 20 [] [] (λr _=>r=.agg [.sl [[.int .i64 0,.bool true,.nils,.nils,.int .i64 0]],.int .i64 1,.nils]):=by
 refine ZF tK (Tryz.func20) rfl (λC=>?_);simp only[Tryz.ntmps20,Tryz.results20,go_sem];refine wG tK ?_;refine ZZ 2 rfl (rfl) ?_;simp only[go_sem];refine wT ?_;rfl
theorem uY:ae Tryz.prog 20 [] [] (λr _=>r=.agg (ZQ ⟨[jV],1,[]⟩)):=ae.jm sP rfl
def sD:Wor:=⟨⟨[],0,[]⟩,[]⟩
def Dv (rooms:List Int):AV:=.tup [.agg (eX (if dY rooms=0 then Du rooms else sD)),.int .i64 (dY rooms)]
theorem zi (rooms:List Int) (i:Nat):mK rooms (i+1)=mK rooms i++[lL (i:Int) (rooms.getD i 0)]:=by
 unfold mK;rw[List.range_succ,List.map_append];rfl
theorem Bw (rooms:List Int) (i:Nat):(mK rooms i).length=i:=by unfold mK;simp
theorem xu (rooms:List Int) (hr:rooms.length≤100000000):ae Tryz.prog 21 [.sl (rooms.map ZI)] [] (λr _=>r=Dv rooms):=by
 have hns:=uY;unfold ZQ at hns;have hsu:=zi rooms;have hle:=Bw rooms;have h0:mK rooms 0=[]:=rfl;have hW:Dv rooms=.tup [.agg (eX (if dY rooms=0 then ⟨Iq,mK rooms rooms.length⟩ else sD)),.int .i64 (dY rooms)]:=rfl;have hE:dY rooms=if rooms.length<1\/3<rooms.length then 5 else if rooms.all (λn=>decide (3≤n)&&decide (n≤24)) then 0 else 3:=rfl;rw[hW];generalize dY rooms=E at *;generalize mK rooms=P at *;clear hW;refine ZF tK (Tryz.func21) rfl (λC=>?_);simp only[Tryz.ntmps21,Tryz.results21,go_sem];refine wR ?_;refine wN tK 2 ?_;refine wR ?_;refine wN tK 8 ?_;refine al 14 z6 (λc14 h14=>?_);simp only[go_sem];have hc:c14=true↔(rooms.length<1\/3<rooms.length):=by
  rw[←h14]
  by_cases h1:rooms.length<1
  ·simp[h1];omega
  ·simp[h1];omega
 clear h14;refine wG tK ?_
 by_cases hb:rooms.length<1\/3<rooms.length
 ·rw[if_pos hb] at hE;subst hE;refine wDT (hb:=(hc.2 hb)) (hk:=?_);refine wG tK ?_;refine ag (ar 2) ?_;simp only[go_sem];refine wT ?_;rfl
 ·rw[if_neg hb] at hE;refine wDF (hb:=(by simpa using λh0=>hb (hc.1 h0))) (hk:=?_);refine wG tK ?_;refine wC Tryz.func20 (hf:=(hns)) (hk:=?_);refine wG tK ?_;refine ag (le_empty 38 40 10 z7) ?_;simp only[go_sem];refine ag (qB 4 ([[.sl ([jV].map ZN),.int .i64 1,.sl [],.osl 38 10 0 0]]) z6 WW) ?_;simp only[go_sem];refine ZL (λi:Nat=>i≤rooms.length/\(rooms.take i).all (λn=>decide (3≤n)&&decide (n≤24))=true) (λi=>rooms.length-i) (λi=>[(5,.any),(6,.any),(20,.int .i64 i),(21,.any),(22,.any),(23,.any),(24,.any),(25,.any),(26,.any),(27,.any),(28,.any),(29,.any),(30,.any),(31,.any),(32,.any),(33,.any),(34,.any),(35,.any),(36,.any),(37,.any),(38,.any),(39,.any),(40,.any),(41,.any)])
   (λi=>[(4,.cells 33 4 [[.sl ([jV].map ZN),.int .i64 1,.sl [],.osl 38 10 0 (P i).length]]),(38,.cells 40 10 ((P i).map ZC))]) 0 ⟨by omega,rfl⟩ ?_ λi hi=>?_
  ·rw[h0];simp only[go_sem];exact ZU w3 w3 w3
  obtain ⟨hi,hall⟩:=hi;simp only[go_sem];refine wG tK ?_;refine wD (λh=>?_) (λh=>?_)
  ·have hlt:i<rooms.length:=by simp at h;omega
   have hg:(rooms.map ZI).getD i []=[.int .i64 (rooms.getD i 0)]:=by
    rw[List.getD_eq_getElem?_getD,List.getElem?_map,List.getD_eq_getElem?_getD,List.getElem?_eq_getElem hlt];rfl
   have how':=wi1 (i:=i) z8;have hs1:=hsu i;have hl1:=hle i;have htk:rooms.take (i+1)=rooms.take i++[rooms.getD i 0]:=by
    rw[List.take_add_one,List.getD_eq_getElem?_getD,List.getElem?_eq_getElem hlt];rfl
   generalize hn:rooms.getD i 0=n at *;generalize P i=Q at *;have htq:List.take Q.length (Q.map ZC)=Q.map ZC:=List.take_of_length_le y8;refine wR ?_;refine wNq tK 5 ?_ ?_ z6 z6 u9
   ·simp[hg,hlt]
   refine wR ?_;refine wN tK 6 ?_;refine al 30 z6 (λc30 h30=>?_);simp only[go_sem];have hc3:c30=true↔¬(3≤n/\n≤24):=by
    rw[←h30]
    by_cases h1:n<3
    ·simp[h1];omega
    ·simp[h1];omega
   clear h30;refine wG tK ?_
   by_cases hok:3≤n/\n≤24
   ·refine wDF (hb:=(by simpa using λh0=>hc3.1 h0 hok)) (hk:=?_);refine wR ?_;refine wN tK 5 ?_;refine ag (uQ 36 z6 Zt) ?_;simp only[go_sem];refine ag (bt 38 4 z6 j0) ?_;refine wGq tK ?_ ?_ j5
    ·simp[htq,refs]
     first | exact ⟨by intro row h;simp at h;subst h;rfl,by omega⟩ | omega
    refine ZB ⟨i+1,⟨by omega,by rw[htk,List.all_append,hall];simp[hok]⟩,by omega,ZU ?_ ?_ ?_⟩
    ·simp[go_sem]
    ·simp[go_sem,hs1,htq,ZC,lL]
    ·simp[go_sem]
   ·have hE3:E=3:=by
     rw[hE,if_neg];simp only[List.all_eq_true,Bool.and_eq_true,decide_eq_true_eq];intro hx;have:=hx n (by rw[←hn,List.getD_eq_getElem?_getD,List.getElem?_eq_getElem hlt];exact List.getElem_mem _);exact hok this
    subst hE3;refine wDT (hb:=(hc3.2 hok)) (hk:=?_);refine wG tK ?_;refine ag (ar 2) ?_;simp only[go_sem];refine wT ?_;rfl
  ·have e:i=rooms.length:=by simp at h;omega
   subst e;rw[List.take_length] at hall;rw[if_pos hall] at hE;subst hE;have hl1:=hle rooms.length;generalize P rooms.length=Q at *;have htq:List.take Q.length (Q.map ZC)=Q.map ZC:=List.take_of_length_le y8;refine wR ?_;refine ZZ 38 rfl (pz _) ?_;simp only[go_sem,htq];refine wG tK ?_;refine wT ?_;rfl
noncomputable def um (rooms:List Int) (l:List Step):Wor:=if dY rooms=0 then uo rooms l else sD
noncomputable def vL (rooms:List Int) (l:List Step) (i:Nat):Wor:=uo rooms (l.take i)
theorem A1 {rooms:List Int} {l:List Step} {i:Nat} (h:i<l.length):vL rooms l (i+1)=(gr (vL rooms l i) (l.getD i default)).w:=by
 unfold vL uo;rw[ZT h,List.foldl_append];rfl
theorem Cy {rooms:List Int} (h:dY rooms=0) (l:List Step) (i:Nat):WInv (20*l.length) (300*l.length) (vL rooms l i):=by
 have:=tf h (l.take i);rw[List.length_take] at this;exact ⟨this.srv.mono z8,λc hc=>(this.cli c hc).mono z8 z8,this.len⟩
structure StepsOK (l:List Step):Prop where
 len:l.length≤1400000
 path:∀x,x∈l->x.path.length≤10000000/\x.toPath.length≤10000000
theorem BD (rooms:List Int) (hr:rooms.length≤100000000) (l:List Step) (hl:StepsOK l):ae Tryz.prog 8 [.sl (rooms.map ZI),.sl (l.map ZX)] [] (λr _=>r=.agg (eX (um rooms l))):=by
 have hn:=xu rooms hr;have hll:=hl.len;unfold Dv at hn;have hB0:um rooms l=if dY rooms=0 then vL rooms l l.length else sD:=by unfold um vL;rw[List.take_length]
 have hinv:=λh i=>@Cy rooms h l i
 have hsu:=λi=>@A1 rooms l i
 have hz:vL rooms l 0=Du rooms:=rfl;rw[hB0];generalize vL rooms l=F at *;rw[←hz] at hn;clear hB0 hz;generalize dY rooms=E at *;generalize hW0:(if E=0 then F 0 else sD)=W0 at *;unfold eX at hn;refine ZF tK (Tryz.func8) rfl (λC=>?_);simp only[Tryz.ntmps8,Tryz.results8,go_sem];refine wG tK ?_;refine wC Tryz.func21 (hf:=(hn)) (hk:=?_);refine wG tK ?_
 by_cases hE:E=0
 ·rw[if_pos hE] at hW0 ⊢;have hinv:=hinv hE;subst hW0;refine wDF (hb:=x8) (hk:=?_);refine wG tK ?_;refine ZL (λi:Nat=>i≤l.length) (λi=>l.length-i) (λi=>[(8,.any),(9,.any),(10,.any),(21,.int .i64 i),(22,.any),(23,.any),(24,.any),(25,.any),(26,.any),(27,.any),(28,.any),(29,.any),(30,.any),(31,.any),(32,.any),(33,.any)])
   (λi=>[(5,.cells 33 4 [eX (F i)])]) 0 z8 ?_ λi hi=>?_
  ·unfold eX;simp only[go_sem];exact ZU w3 w3 w3
  unfold eX;simp only[go_sem];refine wG tK ?_;refine wD (λh=>?_) (λh=>?_)
  ·have hlt:i<l.length:=by simp at h;omega
   have hg:(l.map ZX).getD i []=ZX (l.getD i default):=Fam.getD hlt;have how':=wi1 (i:=i) z8;have hpx:=hl.path (l.getD i default) (by rw[List.getD_eq_getElem?_getD,List.getElem?_eq_getElem hlt];exact List.getElem_mem _);have hw:=BV (F i) (hinv i) z8 z8 (l.getD i default) hpx.1 hpx.2;have hs1:=hsu i hlt;generalize l.getD i default=x at *;unfold sy eX ZX aW at hw;generalize gr (F i) x=g at *;refine wR ?_;refine wNq tK 4 ?_ ?_ z6 z6 (by simp only[go_sem,hg,ZX];try exact rfl)
   ·simp[hg,ZX,hlt]
   refine wG tK ?_;refine wC Tryz.func22 (hf:=(hw)) (hk:=?_);refine wG tK ?_ j5 Qz;refine ZB ⟨i+1,by omega,by omega,ZU ?_ ?_ ?_⟩
   ·simp[go_sem]
   ·simp[go_sem,hs1,eX]
   ·simp[go_sem]
  ·have e:i=l.length:=by simp at h;omega
   subst e;refine wG tK ?_;refine wT ?_;rfl
 ·rw[if_neg hE] at hW0 ⊢;subst hW0;refine wDT (hb:=x8) (hk:=?_);refine wG tK ?_;refine wT ?_;rfl
theorem Cz {rooms:List Int} (h:dY rooms=0) (l:List Step):WInv (20*l.length) (300*l.length) (um rooms l):=by
 unfold um;rw[if_pos h];exact tf h l
theorem nA (d:List Hoard) (hd:d.length≤100000000):ae Tryz.prog 47 [.sl (d.map ZJ)] [] (λr _=>r=.sl (d.map ZJ)):=by
 refine ZF tK (Tryz.func47) rfl (λC=>?_);simp only[Tryz.ntmps47,Tryz.results47,go_sem];refine wG tK ?_;refine lp tK rfl rfl rfl u2 u2 (λb hb=>?_);simp only[go_sem];refine wG tK ?_;refine wD (λh=>?_) (λh=>?_)
 ·refine wG tK ?_;refine kd ⟨_,_,z7,by simp[go_sem],.sl [],.inr (.inr ⟨rfl,.inl rfl⟩),?_⟩;rw[hb h]
 ·refine wGq tK ?_ ?_
  ·simp;omega
  refine ZZ 7 rfl (dT _) ?_;simp only[go_sem];refine wT ?_;simp
structure SmallC (c:Cli):Prop where
 cache:SmallK c.cache
 log:SmallL c.log
 repair:SmallL c.repair
 hoards:c.hoards.length≤100000000
theorem CInv.vq {B T:Nat} {s:Srv} {c:Cli} (h:CInv B T s c) (hB:B≤40000000):SmallC c where
 cache:=⟨by have:=h.len;have:=h.room;omega,λk hk=>⟨by have:=h.data k hk;omega,by have:=h.ent k hk;omega⟩⟩
 log:=⟨by have:=h.log;omega,λr hr=>by unfold Act.Small;have:=(h.logS r hr).data;omega⟩
 repair:=⟨by have:=h.rep;omega,λr hr=>by unfold Act.Small;have:=(h.repS r hr).data;omega⟩
 hoards:=by have:=h.hoards;omega
theorem E5 (c:Cli) (h:SmallC c):ae Tryz.prog 15 [.agg (ZC c)] [] (λr _=>r=.agg (ZC c)):=by
 have h1:=qA c.cache h.cache;have h2:=jM c.log h.log;have h3:=jM c.repair h.repair;have h4:=nA c.hoards h.hoards;unfold ZC;refine ZF tK (Tryz.func15) rfl (λC=>?_);simp only[Tryz.ntmps15,Tryz.results15,go_sem];refine wG tK ?_;refine ZW ZM ?_;refine ZS rfl ?_;refine sN tK 2 ?_;refine sC Tryz.func45 (hf:=(h1)) (hk:=?_);refine sN tK 2 ?_;refine sC Tryz.func46 (hf:=(h2)) (hk:=?_);refine sN tK 2 ?_;refine sC Tryz.func46 (hf:=(h3)) (hk:=?_);refine sN tK 2 ?_;refine sC Tryz.func47 (hf:=(h4)) (hk:=?_);refine sN tK 1 ?_;refine sT tK ?_;refine sN tK 1 ?_;refine sT tK ?_;refine sN tK 1 ?_;refine sT tK ?_;refine sN tK 1 ?_;refine sT tK ?_;refine sE ?_;refine wKd ?_
 try simp only[go_sem,gA,gB,gC]
 refine wG tK ?_;refine wT ?_;rfl
structure RightC (t:List Node) (c:Cli):Prop where
 room:(c.cache.length:Int)≤c.room
 log:c.away=false->c.log=[]
 here:c.away=false->∀k,k∈c.cache->k.dirty=false/\k.node∈t
 small:SmallC c
end La
