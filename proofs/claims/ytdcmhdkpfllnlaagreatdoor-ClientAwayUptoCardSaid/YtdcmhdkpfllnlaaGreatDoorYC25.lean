/- Texts of this claim, part 25: RTake, RBack, RStep, RStepR, RWorld, NewS, RNew, RBuild, RRight. No condition. -/
import Derived.Test.YtdcmhdkpfllnlaaGreatDoorYC24
import Derived.Test.YtdcmhdkpfllnlaaGreatDoorYC23
set_option maxRecDepth 10000
set_option maxHeartbeats 4000000
set_option linter.unusedSimpArgs false
set_option linter.unusedVariables false
namespace La
open Go Go.Eng Go.Proofs
theorem Fh {k:Nat} (s:Srv) (h:SrvOK k s) (hk:k≤70000000) (c:Int) (log:List Rec) (hl2:log.length≤2000000) (hfit:∀r,r∈log->ActFit r.act) :
  af Tryz.prog 86 [.agg (ZQ s),.int .i64 c,.sl (log.map ZR)] []
   (λr _=>r=.tup [.agg (ZQ (jK s c log)),.sl ((bL s.tree s.next ((s.past.length+1:Nat):Int) log).vs.map ZV)]):=by
 have hlen:=h.len;have hnx:=h.next;have hg:=h.hist.bH;have hof:=te s.tree (by have:=hg.len;omega);have hj:=C5 s.past s.tree s.next log h.hist z8 z8 hl2 hfit;have hji:=JInv.qB h.hist c s.next log hfit;have hinv:=hji.len;have hls:=rJ (bL s.tree s.next ((s.past.length+1:Nat):Int) log).j.l hji.hist.bH.up (by have:=hji.hist.bH.len;omega);clear hji;have hT:jK s c log=⟨(bL s.tree s.next ((s.past.length+1:Nat):Int) log).j.l,(bL s.tree s.next ((s.past.length+1:Nat):Int) log).j.next,fG s c (bL s.tree s.next ((s.past.length+1:Nat):Int) log).done (bL s.tree s.next ((s.past.length+1:Nat):Int) log).done.length⟩:=by
  unfold jK fG;rw[W2]
 have hwp:IntKind.i64.wrap ((s.past.length:Int)+1)=((s.past.length+1:Nat):Int):=by rw[Eng.wrap_small z8 z8];rfl
 rw[hT];clear hT;unfold we at hj;unfold ZQ;generalize bL s.tree s.next ((s.past.length+1:Nat):Int) log=g at *;have hsu:=λi=>@qM s c g.done i
 have hle:=λi=>@th s c g.done i
 have hz:fG s c g.done 0=s.past:=by simp[fG]
 generalize fG s c g.done=P at *;refine ZF tK (Tryz.func86) rfl (λC=>?_);simp only[Tryz.ntmps86,Tryz.results86,go_sem];refine wG tK ?_;refine ZW ZM ?_;refine ZS rfl ?_;refine sN tK 2 ?_;refine sC Tryz.func18 (hf:=(hof)) (hk:=?_);refine sN tK 7 ?_ z6 z6 QU Zn;refine sC Tryz.func134 (hf:=(hj)) (hk:=?_);refine sW tK ?_;refine sT tK ?_;refine sE ?_;refine wKd ?_
 try simp only[go_sem,gA,gB,gC]
 refine wG tK ?_;refine ZW ZM ?_;refine lx [(28,[28])] rfl (B9 Wm) ?_;refine zN tK 2 (hk:=?_);refine zC Tryz.func84 (hf:=(hls)) (hk:=?_);refine zN tK 2 (hk:=?_);refine zW tK (hk:=?_);refine zN tK 2 (hk:=?_);refine zA tK (h2:=?_) (h4:=?_) (h5:=?_) (h7:=?_) (h8:=?_) (hzz:=?_) (hn:=rfl) (hr:=rfl) (hk:=?_)
 ·exact jl _
 ·exact ll _
 ·rw[show tab.byt 120=96 from rfl];simp;omega
 ·simp
 ·exact bE 28 s.past
 ·intro z hz;simp only[List.mem_cons,List.not_mem_nil,or_false] at hz;subst hz;exact .inl ⟨by decide,bE 28 s.past⟩
 refine zB tK (hk:=?_);refine zW tK (hk:=?_);refine pk w4 z6 ?_;refine dS tK ?_;refine wKd ?_
 try simp only[go_sem,gA,gB,gC]
 refine wG tK ?_;refine ah (Av 31 46 9 z6 z7 z7 z6 Qb Qb rfl z7 QT QT) ?_;refine ZL (λi:Nat=>i≤g.done.length) (λi=>g.done.length-i) (λi=>(11,.any)::(31,.any)::(36,.int .i64 i)::u0 37 12 [])
  (λi=>[(9,.cells 30 3 [[.sl (g.j.l.map ZN),.int .i64 g.j.next,.osl 46 8 0 (P i).length]]),(46,.cells 120 8 ((P i).map ZP))]) 0 z8 ?_ λi hi=>?_
 ·rw[hz];simp only[go_sem];exact ZU w3 w3 w3
 simp only[go_sem];refine wG tK ?_;refine wD (λh=>?_) (λh=>?_)
 ·have hlt:i<g.done.length:=by simp at h;omega
  have hg:(g.done.map ZA).getD i []=ZA (g.done.getD i default):=Fam.getD hlt;have hs1:=hsu i hlt;have hl1:=hle i z8;have how':=wi1 (i:=i) z8;generalize g.done.getD i default=a at *;generalize P i=Q at *;refine wR ?_;refine wNq tK 4 ?_ ?_ z6 z6 (by simp only[go_sem,hg,ZA];try exact rfl)
  ·simp[hg,ZA,hlt]
  refine wR ?_;refine wN tK 6 ?_;refine ah (bB 46 9 z6 j6) ?_;refine wGq tK ?_ ?_ j7
  ·simp[rowsOf,ZP];omega
  refine ZB ⟨i+1,by omega,by omega,ZU ?_ ?_ ?_⟩
  ·simp[go_sem]
  ·simp[go_sem,hs1,ZP,W2]
  ·simp[go_sem]
 ·have e:i=g.done.length:=by simp at h;omega
  subst e;refine wG tK ?_;refine ZZ 46 rfl (dX _) ?_;simp only[go_sem];refine ZW ZM ?_;refine ZS rfl ?_;refine sN tK 3 ?_;refine sT tK ?_;refine sG tK ?_;refine sE ?_;refine wKd ?_
  try simp only[go_sem,gA,gB,gC]
  refine wG tK ?_;refine wT ?_;simp
variable {Fa:Prop}
def uh (log:List Rec) (vs:List Verdict) (i:Nat):List Rec:=bW (log.take i) (vs.take i)
def iC (vs:List Verdict) (i:Nat):Nat:=cc (vs.take i)
theorem nF (r:Rec) (v:Verdict):∀{l:List Rec} {vs:List Verdict},l.length=vs.length->bW (l++[r]) (vs++[v])=bW l vs++if v.err=0 then [] else [r]
 | [],[],_=>by
  simp only[List.nil_append,bW]
  first | done | (split<;>rfl)
 | [],_::_,h=>by simp at h
 | _::_,[],h=>by simp at h
 | a::l,b::vs,h=>by
  have ih:=nF r v (l:=l) (vs:=vs) p5;simp only[List.cons_append,bW];rw[ih];split
  ·rfl
  ·rfl
theorem C0 {log:List Rec} {vs:List Verdict} {i:Nat} (h:i<vs.length) (hl:vs.length=log.length):uh log vs (i+1)=if (vs.getD i default).err=0 then uh log vs i else uh log vs i++[log.getD i default]:=by
 unfold uh;rw[ZT h,ZT (show i<log.length by omega),nF _ _ j0];split
 ·rw[List.append_nil]
 ·rfl
theorem sn {vs:List Verdict} {i:Nat} (h:i<vs.length):iC vs (i+1)=if (vs.getD i default).err=0 then iC vs i+1 else iC vs i:=by
 unfold iC cc;rw[ZT h,List.filter_append,List.length_append];generalize vs.getD i default=v
 by_cases e:v.err=0
 ·rw[if_pos e];simp[e]
 ·rw[if_neg e];simp[e]
theorem xC (vs:List Verdict) (i:Nat) (h:i≤vs.length):iC vs i≤i:=by
 unfold iC cc;have:=W6 (λv:Verdict=>v.err==0) (vs.take i);rw[YF] at this;omega
theorem oZ:∀(l:List Rec) (vs:List Verdict),(bW l vs).length≤l.length
 | [],_=>by simp[bW]
 | _::_,[]=>by simp[bW]
 | a::l,b::vs=>by
  have ih:=oZ l vs;simp only[bW];split
  ·simp only[List.length_cons];omega
  ·simp only[List.length_cons];omega
theorem E8 (log:List Rec) (vs:List Verdict) (i:Nat):(uh log vs i).length≤log.length:=Yl (oZ _ _) QR
def nw (c:Cli) (vs:List Verdict) (i:Nat):List Rec:=c.repair++uh c.log vs i
theorem vd {c:Cli} {vs:List Verdict} {i:Nat} (h:i<vs.length) (hl:vs.length=c.log.length):nw c vs (i+1)=if (vs.getD i default).err=0 then nw c vs i else nw c vs i++[c.log.getD i default]:=by
 unfold nw;rw[C0 h hl];split
 ·rfl
 ·rw[Yk]
theorem yY (c:Cli) (vs:List Verdict) (i:Nat):(nw c vs i).length≤c.repair.length+c.log.length:=by
 unfold nw;rw[List.length_append];have:=E8 c.log vs i;omega
def xp (u:U) (l:List Rec):U:=⟨{ u.c with repair:=l },u.s⟩
theorem E5 {B T:Nat} (u:U) (h:UInvF Fa B T u) (hB:B≤40000000) (G Y N:Nat->Nat):af Tryz.prog 40 [.ptr 900 13 0 0] (uH u G Y N)
  (λr H=>r=.tup [.int .i64 (cc (ay u)),.int .i64 ((ay u).length-cc (ay u):Nat)]/\Holds (uH (fY u) G Y N) H):=by
 have hci:=h.cli;have hll:=hci.log;have hfit:∀r,r∈u.c.log->ActFit r.act:=λr hr=>(hci.logS r hr).fit
 have htk:=Fh u.s h.srv z8 u.c.number u.c.log z8 hfit;have hvl:(ay u).length=u.c.log.length:=(JInv.qB h.srv.hist u.c.number u.s.next u.c.log hfit).vlen;have hs2:=h.srv.take u.c.number hfit;have hrep:=hci.rep;have hcl:u.c.cache.length≤24:=by have:=hci.len;have:=hci.room;omega
 have hbU:fY u=⟨{ u.c with away:=false,log:=[],repair:=nw u.c (ay u) (ay u).length,cache:=(u.c.cache.filter λk=>!k.dirty).filter λk=>!bN (gW u).tree k },gW u⟩:=by
  unfold fY nw uh;rw[W2,hvl,W2]
 have hdn:cc (ay u)=iC (ay u) (ay u).length:=by unfold iC;rw[W2]
 rw[hbU,hdn];have hst:∀i,i<(ay u).length->_:=λi hi=>vd (c:=u.c) hi hvl
 have hsd:∀i,i<(ay u).length->_:=λi hi=>sn (vs:=ay u) hi
 have hdl:=xC (ay u);have hrl:=yY u.c (ay u);have h0:nw u.c (ay u) 0=u.c.repair:=by simp[nw,uh,bW]
 have h00:iC (ay u) 0=0:=by simp[iC,cc]
 have hof:=te (gW u).tree (by have:=hs2.hist.bH.len;unfold gW;omega);have hfr:=nX (u.c.cache.filter λk=>!k.dirty) (gW u).tree (Yl (W6 _ _) z8) hs2.hist.bH.up;unfold ay at *;unfold gW at *;generalize (bL u.s.tree u.s.next ((u.s.past.length+1:Nat):Int) u.c.log).vs=vs at *;generalize jK u.s u.c.number u.c.log=s2 at *;generalize nw u.c vs=R at *;generalize iC vs=D at *;clear hbU hdn;unfold ZQ at htk;unfold uH bq;refine ZF tK (Tryz.func40) rfl (λC=>?_);simp only[Tryz.ntmps40,Tryz.results40,go_sem];refine wG tK ?_;refine ZW ZM ?_;refine ZS rfl ?_;refine sN tK 14 ?_;refine sC Tryz.func86 (hf:=(htk)) (hk:=?_);refine sN tK 3 ?_;refine sW tK ?_;refine sT tK ?_;refine sG tK ?_;refine sE ?_;refine wKd ?_
 try simp only[go_sem,gA,gB,gC]
 refine wG tK ?_;refine ZL (λi:Nat=>i≤vs.length) (λi=>vs.length-i) (λi=>(6,.int .i64 (D i:Nat))::(7,.any)::(8,.any)::(32,.int .i64 i)::u0 33 31 [])
  (λi=>[(900,.cells 97 13 [bq (xp u (R i))])]) 0 z8 ?_ λi hi=>?_
 ·rw[h00];unfold bq xp;rw[h0];simp only[go_sem];exact ZU w3 w3 w3
 unfold bq xp;simp only[go_sem];refine wG tK ?_;refine wD (λh=>?_) (λh=>?_)
 ·have hlt:i<vs.length:=by simp at h;omega
  have hlt2:i<u.c.log.length:=by omega
  have hg:(vs.map ZV).getD i []=ZV (vs.getD i default):=Fam.getD hlt;have hgl:(u.c.log.map ZR).getD i []=ZR (u.c.log.getD i default):=Fam.getD hlt2;have hs1:=hst i hlt;have hs3:=hsd i hlt;have hl1:=hdl i z8;have hl2:=hrl i;have how':=wi1 (i:=i) z8;have hwd:IntKind.i64.wrap ((D i:Int)+1)=((D i+1:Nat):Int):=by rw[Eng.wrap_small z8 z8];rfl
  generalize u.c.log.getD i default=r at *;generalize vs.getD i default=v at *;generalize R i=Q at *;refine wR ?_;refine wNq tK 6 ?_ ?_ z6 z6 (by simp only[go_sem,hg,ZV];try exact rfl)
  ·simp[hg,ZV,hlt]
  refine wG tK ?_
  by_cases he:v.err=0
  ·rw[if_pos he] at hs1 hs3;refine wDT (hb:=QS) (hk:=?_);refine wG tK ?_ (by simp only[go_sem,hwd,how'];try exact rfl) (by simp[go_sem,hwd,how']);refine ZB ⟨i+1,by omega,by omega,ZU ?_ ?_ ?_⟩
   ·simp[go_sem,hs3]
   ·simp[go_sem,hs1,bq,xp]
   ·simp[go_sem]
  ·rw[if_neg he] at hs1 hs3;have hnr2:∀id,bX id (.cells 116 9 (List.take Q.length (Q.map ZR)++[ZR r])):=λid=>by
    rw[show List.take Q.length (Q.map ZR)++[ZR r]=(Q++[r]).map ZR by simp];exact iM id _
   refine wDF (hb:=QS) (hk:=?_);refine wG tK ?_;refine ZW ZM ?_;refine lx [(43,[43]),(49,[49])] rfl (B9 Wm) ?_;refine zN tK 1 (hk:=?_);refine zW tK (hk:=?_);refine zN tK 5 (hk:=?_);refine zA tK (h2:=?_) (h4:=?_) (h5:=?_) (h7:=?_) (h8:=?_) (hzz:=?_) (hn:=rfl) (hr:=rfl) (hk:=?_)
   ·exact ug _
   ·exact yW _
   ·rw[show tab.byt 116=104 from rfl];simp;omega
   ·simp
   ·exact iM 43 _
   ·intro z hz;simp only[List.mem_cons,List.not_mem_nil,or_false] at hz
    rcases hz with rfl | rfl
    ·exact .inl ⟨by decide,iM 43 _⟩
    ·exact .inr ⟨rfl,by decide⟩
   refine zN tK 6 (hk:=?_);refine zN tK 2 (h:=by simp only[go_sem,hgl,ZR];try exact rfl) (hp:=?_) (hk:=?_)
   ·simp[hgl,ZR,hlt2]
   refine zW tK (hk:=?_);refine zA tK (h2:=?_) (h4:=?_) (h5:=?_) (h7:=?_) (h8:=?_) (hzz:=?_) (hn:=rfl) (hr:=rfl) (hk:=?_)
   ·intro row h;simp at h;subst h;rfl
   ·rfl
   ·rw[show tab.byt 116=104 from rfl];simp;omega
   ·simp
   ·exact hnr2 49
   ·intro z hz;simp only[List.mem_cons,List.not_mem_nil,or_false] at hz
    rcases hz with rfl | rfl
    ·exact .inl ⟨by decide,hnr2 43⟩
    ·exact .inl ⟨by decide,hnr2 49⟩
   refine zN tK 3 (hk:=?_);refine pk w4 z6 ?_;refine dS tK ?_;refine wKd ?_
   try simp only[go_sem,gA,gB,gC]
   refine ZZ 59 rfl (by rw[List.all_append,cW];rfl) ?_;simp only[go_sem];refine wG tK ?_ j7 Q3;refine ZB ⟨i+1,by omega,by omega,ZU ?_ ?_ ?_⟩
   ·simp[go_sem,hs3]
   ·simp[go_sem,hs1,bq,xp,ZR];exact Wy y8
   ·simp[go_sem]
 ·have e:i=vs.length:=by simp at h;omega
  subst e;clear hst hsd;have hl1:=hdl vs.length (W7 _);generalize hD:D vs.length=d at *;generalize R vs.length=Q at *;refine wG tK ?_;refine ah (le_empty 80 67 8 z7) ?_;simp only[go_sem];refine ZL (λi:Nat=>i≤u.c.cache.length) (λi=>u.c.cache.length-i) (λi=>(9,.osl 80 8 0 ((u.c.cache.take i).filter λk=>!k.dirty).length)::(11,.any)::(70,.int .i64 i)::u0 71 11 []) (λi=>[(80,.cells 67 8 (((u.c.cache.take i).filter λk=>!k.dirty).map ZK))]) 0 z8 ?_ λi hi=>?_
  ·simp only[go_sem];exact ZU w3 w3 w3
  simp only[go_sem];refine wG tK ?_;refine wD (λh=>?_) (λh=>?_)
  ·have hlt:i<u.c.cache.length:=by simp at h;omega
   have hg:(u.c.cache.map ZK).getD i []=ZK (u.c.cache.getD i default):=Fam.getD hlt;have hw:=wi1 (i:=i) z8;have htk2:(u.c.cache.take (i+1)).filter (λk=>!k.dirty)=(u.c.cache.take i).filter (λk=>!k.dirty)++if (u.c.cache.getD i default).dirty=true then [] else [u.c.cache.getD i default]:=by
    rw[ZT hlt,List.filter_append,List.filter_cons];cases (u.c.cache.getD i default).dirty<;>simp
   have hll2:((u.c.cache.take i).filter λk=>!k.dirty).length≤i:=by
    have:=W6 (λk:Kept=>!k.dirty) (u.c.cache.take i);simp only[YF] at this;omega
   generalize (u.c.cache.take i).filter (λk=>!k.dirty)=F at htk2 hll2;generalize u.c.cache.getD i default=k at hg htk2;have htq:List.take F.length (F.map ZK)=F.map ZK:=Wy y8;refine wR ?_;refine wNq tK 4 ?_ ?_ z6 z6 u1
   ·simp[hg,ZK,hlt]
   refine wG tK ?_;cases hd:k.dirty with
   | true=>
    rw[hd,if_pos rfl,List.append_nil] at htk2;refine wDF (hb:=(rfl)) (hk:=?_);refine wG tK ?_ w5 k7;refine ZB ⟨i+1,by omega,by omega,ZU ?_ ?_ ?_⟩
    ·simp[go_sem,htk2]
    ·simp[go_sem,htk2]
    ·simp[go_sem]
   | false=>
    rw[hd,if_neg y8] at htk2;refine wDT (hb:=(rfl)) (hk:=?_);refine wGq tK ?_ ?_ w5
    ·simp[htq,refs];omega
    refine ZB ⟨i+1,by omega,by omega,ZU ?_ ?_ ?_⟩
    ·simp[go_sem,htk2]
    ·simp[go_sem,htk2,htq,ZK,hd]
    ·simp[go_sem]
  ·have e:i=u.c.cache.length:=by simp at h;omega
   subst e;rw[W2];refine wG tK ?_;refine ZZ 80 rfl (bh _) ?_;simp only[go_sem];refine ZW ZM ?_;refine jy 2 [0,1,3,4,5,6,7,8,9,10,11,12,13,14] [0,1,0,2,3,4,5,6,7,8,9,10,11,12,13] rfl rfl rfl (λ_ _ _ h=>h) w4 w4 x6 z7 ?_
   try simp only[go_sem,gA,gB,gC]
   refine jy 1 [0,2,3,4,5,6,7,8,9,10,11,12,13] [0,0,1,2,3,4,5,6,7,8,9,10,11,12] rfl rfl rfl (λ_ _ _ h=>h) w4 w4 x6 z7 ?_
   try simp only[go_sem,gA,gB,gC]
   refine ZS rfl ?_;refine sN tK 5 ?_;refine sT tK ?_;refine sN tK 3 ?_;refine sT tK ?_;refine sN tK 2 ?_;refine sT tK ?_;refine sE ?_;refine wKd ?_
   try simp only[go_sem,gA,gB,gC]
   refine wG tK ?_;refine wC Tryz.func18 (hf:=(hof)) (hk:=?_);refine wG tK ?_;refine wC Tryz.func51 (hf:=(hfr)) (hk:=?_);have hwl:IntKind.i64.wrap ((vs.length:Int)-(d:Int))=((vs.length-d:Nat):Int):=by rw[Eng.wrap_small z8 z8];omega
   refine wG tK ?_ (by simp only[go_sem,hwl];try exact rfl) (by simp[go_sem,hwl]);refine ah (ax 900) ?_;simp only[go_sem];refine wU ?_ ?_
   ·rfl
   ·exact q9
variable {Fa:Prop}
def dN (g:GotS):AV:=.tup [.agg (ZC g.u.c),.agg (ZQ g.u.s),.agg (aT g.r)]
theorem JD (c:Cli) (s:Srv) (x:Step) (hk:x.kind=7):af Tryz.prog 12 [.agg (ZC c),.agg (ZQ s),.agg (ZX x)] [] (λr _=>r=dN (ai ⟨c,s⟩ x)):=by
 obtain ⟨k,cl,n,path,toPath,data⟩:=x;simp only at hk;subst hk;have hW:ai ⟨c,s⟩ ⟨7,cl,n,path,toPath,data⟩=⟨⟨{ c with away:=true },s⟩,cA 0⟩:=by unfold ai;rfl
 rw[hW];unfold ZC ZQ ZX;refine ZF tK (Tryz.func12) rfl (λC=>?_);simp only[Tryz.ntmps12,Tryz.results12,go_sem];refine wG tK ?_;refine ah (dw 22 900) ?_;refine ah (ax 10) ?_;simp only[go_sem];refine wDF (hb:=(rfl)) (hk:=?_);refine wG tK ?_;refine wDF (hb:=(rfl)) (hk:=?_);refine wG tK ?_;refine wDF (hb:=(rfl)) (hk:=?_);refine wG tK ?_;refine wDF (hb:=(rfl)) (hk:=?_);refine wG tK ?_;refine wDF (hb:=(rfl)) (hk:=?_);refine wG tK ?_;refine wDF (hb:=(rfl)) (hk:=?_);refine wG tK ?_;refine wDT (hb:=(rfl)) (hk:=?_);refine wG tK ?_;refine ZW ZM ?_;refine ZS rfl ?_;refine sN tK 9 ?_;refine sT tK ?_;refine sT tK ?_;refine sT tK ?_;refine sE ?_;refine wKd ?_
 try simp only[go_sem,gA,gB,gC]
 refine wG tK ?_;refine wT ?_;rfl
theorem Jz {B T:Nat} (c:Cli) (s:Srv) (h:UInvF Fa B T ⟨c,s⟩) (hB:B≤30000000) (hT:T≤800000000000) (x:Step) (hp:x.path.length≤10000000) (hk:x.kind=3):af Tryz.prog 12 [.agg (ZC c),.agg (ZQ s),.agg (ZX x)] [] (λr _=>r=dN (ai ⟨c,s⟩ x)):=by
 obtain ⟨k,cl,n,path,toPath,data⟩:=x;simp only at hk hp;subst hk;have hW:ai ⟨c,s⟩ ⟨3,cl,n,path,toPath,data⟩=⟨(a_ ⟨c,s⟩ path data).u,cA (a_ ⟨c,s⟩ path data).e⟩:=by unfold ai;rfl
 have hw:=Dc ⟨c,s⟩ h hB hT path data hp;rw[hW];generalize a_ ⟨c,s⟩ path data=w at *;unfold uH bq at hw;unfold ZC ZQ ZX;refine ZF tK (Tryz.func12) rfl (λC=>?_);simp only[Tryz.ntmps12,Tryz.results12,go_sem];refine wG tK ?_;refine ah (dw 22 900) ?_;refine ah (ax 10) ?_;simp only[go_sem];refine wDF (hb:=(rfl)) (hk:=?_);refine wG tK ?_;refine wDF (hb:=(rfl)) (hk:=?_);refine wG tK ?_;refine wDT (hb:=(rfl)) (hk:=?_);refine wG tK ?_;refine wP [900] Tryz.func36 (hf:=(hw)) (hk:=?_);refine wG tK ?_;refine ZW ZM ?_;refine ZS rfl ?_;refine sN tK 9 ?_;refine sT tK ?_;refine sT tK ?_;refine sT tK ?_;refine sE ?_;refine wKd ?_
 try simp only[go_sem,gA,gB,gC]
 refine wG tK ?_;refine wT ?_;rfl
theorem JA {B T:Nat} (c:Cli) (s:Srv) (h:UInvF Fa B T ⟨c,s⟩) (hB:B≤30000000) (hT:T≤800000000000) (x:Step) (hp:x.path.length≤10000000) (hk:x.kind=4):af Tryz.prog 12 [.agg (ZC c),.agg (ZQ s),.agg (ZX x)] [] (λr _=>r=dN (ai ⟨c,s⟩ x)):=by
 obtain ⟨k,cl,n,path,toPath,data⟩:=x;simp only at hk hp;subst hk;have hW:ai ⟨c,s⟩ ⟨4,cl,n,path,toPath,data⟩=⟨(eU ⟨c,s⟩ path).u,cA (eU ⟨c,s⟩ path).e⟩:=by unfold ai;rfl
 have hM:eU ⟨c,s⟩ path=if (ag ⟨c,s⟩ path).e≠0 then ⟨(ag ⟨c,s⟩ path).e,(ag ⟨c,s⟩ path).u⟩ else bQ (ag ⟨c,s⟩ path).u (iD (ag ⟨c,s⟩ path).n.fid (ag ⟨c,s⟩ path).name) (-1):=rfl;have hd:=mz ⟨c,s⟩ h z8 z8 path hp;have hdi:=ch h path;have hnm:=bF ⟨c,s⟩ path;rw[hW];generalize eU ⟨c,s⟩ path=w at *;generalize ag ⟨c,s⟩ path=d at *;unfold uH bq at hd;unfold ZC ZQ ZX;refine ZF tK (Tryz.func12) rfl (λC=>?_);simp only[Tryz.ntmps12,Tryz.results12,go_sem];refine wG tK ?_;refine ah (dw 22 900) ?_;refine ah (ax 10) ?_;simp only[go_sem];refine wDF (hb:=(rfl)) (hk:=?_);refine wG tK ?_;refine wDF (hb:=(rfl)) (hk:=?_);refine wG tK ?_;refine wDF (hb:=(rfl)) (hk:=?_);refine wG tK ?_;refine wDT (hb:=(rfl)) (hk:=?_);refine wG tK ?_;refine wP [900] Tryz.func37 (hf:=(hd)) (hk:=?_);refine wGq tK ?_ ?_ w6
 ·simp[ZN]
 by_cases hde:d.e=0
 ·rw[if_neg s9] at hM;have hact:=nj d.u hdi z8 z8 (iD d.n.fid d.name) ⟨hnm,by simp[iD],by simp[iD]⟩ (-1);unfold uH bq at hact;simp only[ZA,iD,List.map_nil] at hact hM;generalize bQ d.u ⟨2,0,d.n.fid,d.name,0,[],[]⟩ (-1)=y at *;rw[hM];refine wDT (hb:=s9) (hk:=?_);refine wG tK ?_;refine ah (wi 123 z6 Z9) ?_;simp only[go_sem];refine wP [900] Tryz.func38 (hf:=(hact)) (hk:=?_);refine wG tK ?_;refine ZW ZM ?_;refine ZS rfl ?_;refine sN tK 9 ?_;refine sT tK ?_;refine sT tK ?_;refine sT tK ?_;refine sE ?_;refine wKd ?_
  try simp only[go_sem,gA,gB,gC]
  refine wG tK ?_;refine wT ?_;rfl
 ·rw[if_pos s9] at hM;rw[hM];refine wDF (hb:=s9) (hk:=?_);refine wG tK ?_;refine ZW ZM ?_;refine ZS rfl ?_;refine sN tK 9 ?_;refine sT tK ?_;refine sT tK ?_;refine sT tK ?_;refine sE ?_;refine wKd ?_
  try simp only[go_sem,gA,gB,gC]
  refine wG tK ?_;refine wT ?_;rfl
theorem JB {B T:Nat} (c:Cli) (s:Srv) (h:UInvF Fa B T ⟨c,s⟩) (hB:B≤30000000) (hT:T≤800000000000) (x:Step) (hp:x.path.length≤10000000) (hk:x.kind=5):af Tryz.prog 12 [.agg (ZC c),.agg (ZQ s),.agg (ZX x)] [] (λr _=>r=dN (ai ⟨c,s⟩ x)):=by
 obtain ⟨k,cl,n,path,toPath,data⟩:=x;simp only at hk hp;subst hk;have hW:ai ⟨c,s⟩ ⟨5,cl,n,path,toPath,data⟩=⟨(bt ⟨c,s⟩ path).u,cA (bt ⟨c,s⟩ path).e⟩:=by unfold ai;rfl
 have hw:=AX ⟨c,s⟩ h hB hT path [] hp;rw[hW];generalize bt ⟨c,s⟩ path=w at *;unfold uH bq at hw;unfold ZC ZQ ZX;refine ZF tK (Tryz.func12) rfl (λC=>?_);simp only[Tryz.ntmps12,Tryz.results12,go_sem];refine wG tK ?_;refine ah (dw 22 900) ?_;refine ah (ax 10) ?_;simp only[go_sem];refine wDF (hb:=(rfl)) (hk:=?_);refine wG tK ?_;refine wDF (hb:=(rfl)) (hk:=?_);refine wG tK ?_;refine wDF (hb:=(rfl)) (hk:=?_);refine wG tK ?_;refine wDF (hb:=(rfl)) (hk:=?_);refine wG tK ?_;refine wDT (hb:=(rfl)) (hk:=?_);refine wG tK ?_;refine wP [900] Tryz.func39 (hf:=(hw)) (hk:=?_);refine wG tK ?_;refine ZW ZM ?_;refine ZS rfl ?_;refine sN tK 9 ?_;refine sT tK ?_;refine sT tK ?_;refine sT tK ?_;refine sE ?_;refine wKd ?_
 try simp only[go_sem,gA,gB,gC]
 refine wG tK ?_;refine wT ?_;rfl
theorem JC {B T:Nat} (c:Cli) (s:Srv) (h:UInvF Fa B T ⟨c,s⟩) (hB:B≤30000000) (hT:T≤800000000000) (x:Step) (hp:x.path.length≤10000000) (hq:x.toPath.length≤10000000) (hk:x.kind=6):af Tryz.prog 12 [.agg (ZC c),.agg (ZQ s),.agg (ZX x)] [] (λr _=>r=dN (ai ⟨c,s⟩ x)):=by
 obtain ⟨k,cl,n,path,toPath,data⟩:=x;simp only at hk hp hq;subst hk;have hW:ai ⟨c,s⟩ ⟨6,cl,n,path,toPath,data⟩=⟨(cR ⟨c,s⟩ path toPath).u,cA (cR ⟨c,s⟩ path toPath).e⟩:=by unfold ai;rfl
 have hw:=Fc ⟨c,s⟩ h hB hT path toPath hp hq;rw[hW];generalize cR ⟨c,s⟩ path toPath=w at *;unfold uH bq at hw;unfold ZC ZQ ZX;refine ZF tK (Tryz.func12) rfl (λC=>?_);simp only[Tryz.ntmps12,Tryz.results12,go_sem];refine wG tK ?_;refine ah (dw 22 900) ?_;refine ah (ax 10) ?_;simp only[go_sem];refine wDF (hb:=(rfl)) (hk:=?_);refine wG tK ?_;refine wDF (hb:=(rfl)) (hk:=?_);refine wG tK ?_;refine wDF (hb:=(rfl)) (hk:=?_);refine wG tK ?_;refine wDF (hb:=(rfl)) (hk:=?_);refine wG tK ?_;refine wDF (hb:=(rfl)) (hk:=?_);refine wG tK ?_;refine wDT (hb:=(rfl)) (hk:=?_);refine wG tK ?_;refine wP [900] Tryz.func39 (hf:=(hw)) (hk:=?_);refine wG tK ?_;refine ZW ZM ?_;refine ZS rfl ?_;refine sN tK 9 ?_;refine sT tK ?_;refine sT tK ?_;refine sT tK ?_;refine sE ?_;refine wKd ?_
 try simp only[go_sem,gA,gB,gC]
 refine wG tK ?_;refine wT ?_;rfl
theorem JE {B T:Nat} (c:Cli) (s:Srv) (h:UInvF Fa B T ⟨c,s⟩) (hB:B≤30000000) (hT:T≤800000000000) (x:Step) (hk:x.kind=8):af Tryz.prog 12 [.agg (ZC c),.agg (ZQ s),.agg (ZX x)] [] (λr _=>r=dN (ai ⟨c,s⟩ x)):=by
 obtain ⟨k,cl,n,path,toPath,data⟩:=x;simp only at hk;subst hk;have hW:ai ⟨c,s⟩ ⟨8,cl,n,path,toPath,data⟩=⟨fY ⟨c,s⟩,⟨0,cc (ay ⟨c,s⟩),((ay ⟨c,s⟩).length-cc (ay ⟨c,s⟩):Nat),[]⟩⟩:=by unfold ai;rfl
 have hw:=E5 ⟨c,s⟩ h z8;rw[hW];generalize (ay ⟨c,s⟩).length-cc (ay ⟨c,s⟩)=m2 at *;generalize cc (ay ⟨c,s⟩)=m1 at *;generalize fY ⟨c,s⟩=w at *;unfold uH bq at hw;unfold ZC ZQ ZX;refine ZF tK (Tryz.func12) rfl (λC=>?_);simp only[Tryz.ntmps12,Tryz.results12,go_sem];refine wG tK ?_;refine ah (dw 22 900) ?_;refine ah (ax 10) ?_;simp only[go_sem];refine wDF (hb:=(rfl)) (hk:=?_);refine wG tK ?_;refine wDF (hb:=(rfl)) (hk:=?_);refine wG tK ?_;refine wDF (hb:=(rfl)) (hk:=?_);refine wG tK ?_;refine wDF (hb:=(rfl)) (hk:=?_);refine wG tK ?_;refine wDF (hb:=(rfl)) (hk:=?_);refine wG tK ?_;refine wDF (hb:=(rfl)) (hk:=?_);refine wG tK ?_;refine wDF (hb:=(rfl)) (hk:=?_);refine wG tK ?_;refine wDT (hb:=(rfl)) (hk:=?_);refine wG tK ?_;refine wP [900] Tryz.func40 (hf:=(hw)) (hk:=?_);refine wG tK ?_;refine ZW ZM ?_;refine ZS rfl ?_;refine sN tK 9 ?_;refine sT tK ?_;refine sT tK ?_;refine sT tK ?_;refine sE ?_;refine wKd ?_
 try simp only[go_sem,gA,gB,gC]
 refine wG tK ?_;refine wT ?_;rfl
theorem JF {B T:Nat} (c:Cli) (s:Srv) (h:UInvF Fa B T ⟨c,s⟩) (hB:B≤30000000) (hT:T≤800000000000) (x:Step) (hp:x.path.length≤10000000) (hk:x.kind=9):af Tryz.prog 12 [.agg (ZC c),.agg (ZQ s),.agg (ZX x)] [] (λr _=>r=dN (ai ⟨c,s⟩ x)):=by
 obtain ⟨k,cl,n,path,toPath,data⟩:=x;simp only at hk hp;subst hk;have hW:ai ⟨c,s⟩ ⟨9,cl,n,path,toPath,data⟩=⟨(cY ⟨c,s⟩ path n).u,cA (cY ⟨c,s⟩ path n).e⟩:=by unfold ai;rfl
 have hw:=AW ⟨c,s⟩ h path hp n;rw[hW];generalize cY ⟨c,s⟩ path n=w at *;unfold uH bq at hw;unfold ZC ZQ ZX;refine ZF tK (Tryz.func12) rfl (λC=>?_);simp only[Tryz.ntmps12,Tryz.results12,go_sem];refine wG tK ?_;refine ah (dw 22 900) ?_;refine ah (ax 10) ?_;simp only[go_sem];refine wDF (hb:=(rfl)) (hk:=?_);refine wG tK ?_;refine wDF (hb:=(rfl)) (hk:=?_);refine wG tK ?_;refine wDF (hb:=(rfl)) (hk:=?_);refine wG tK ?_;refine wDF (hb:=(rfl)) (hk:=?_);refine wG tK ?_;refine wDF (hb:=(rfl)) (hk:=?_);refine wG tK ?_;refine wDF (hb:=(rfl)) (hk:=?_);refine wG tK ?_;refine wDF (hb:=(rfl)) (hk:=?_);refine wG tK ?_;refine wDF (hb:=(rfl)) (hk:=?_);refine wG tK ?_;refine wDT (hb:=(rfl)) (hk:=?_);refine wG tK ?_;refine wP [900] Tryz.func41 (hf:=(hw)) (hk:=?_);refine wG tK ?_;refine ZW ZM ?_;refine ZS rfl ?_;refine sN tK 9 ?_;refine sT tK ?_;refine sT tK ?_;refine sT tK ?_;refine sE ?_;refine wKd ?_
 try simp only[go_sem,gA,gB,gC]
 refine wG tK ?_;refine wT ?_;rfl
theorem Ff {B T:Nat} (c:Cli) (s:Srv) (h:UInvF Fa B T ⟨c,s⟩) (hB:B≤30000000) (hT:T≤800000000000) (x:Step) (hk:x.kind=10) (ha:c.away=true):af Tryz.prog 12 [.agg (ZC c),.agg (ZQ s),.agg (ZX x)] [] (λr _=>r=dN (ai ⟨c,s⟩ x)):=by
 obtain ⟨k,cl,n,path,toPath,data⟩:=x;simp only at hk;subst hk;have hW:ai ⟨c,s⟩ ⟨10,cl,n,path,toPath,data⟩=⟨⟨c,s⟩,cA 12⟩:=by unfold ai;simp[ha]
 have hw:=zd ⟨c,s⟩ h ha;rw[hW];unfold uH bq at hw;unfold ZC ZQ ZX;refine ZF tK (Tryz.func12) rfl (λC=>?_);simp only[Tryz.ntmps12,Tryz.results12,go_sem];refine wG tK ?_;refine ah (dw 22 900) ?_;refine ah (ax 10) ?_;simp only[go_sem];refine wDF (hb:=(rfl)) (hk:=?_);refine wG tK ?_;refine wDF (hb:=(rfl)) (hk:=?_);refine wG tK ?_;refine wDF (hb:=(rfl)) (hk:=?_);refine wG tK ?_;refine wDF (hb:=(rfl)) (hk:=?_);refine wG tK ?_;refine wDF (hb:=(rfl)) (hk:=?_);refine wG tK ?_;refine wDF (hb:=(rfl)) (hk:=?_);refine wG tK ?_;refine wDF (hb:=(rfl)) (hk:=?_);refine wG tK ?_;refine wDF (hb:=(rfl)) (hk:=?_);refine wG tK ?_;refine wDF (hb:=(rfl)) (hk:=?_);refine wG tK ?_;refine wDT (hb:=(rfl)) (hk:=?_);refine wG tK ?_;refine wP [900] Tryz.func42 (hf:=(hw)) (hk:=?_);refine wG tK ?_;refine ZW ZM ?_;refine ZS rfl ?_;refine sN tK 9 ?_;refine sT tK ?_;refine sT tK ?_;refine sT tK ?_;refine sE ?_;refine wKd ?_
 try simp only[go_sem,gA,gB,gC]
 refine wG tK ?_;refine wT ?_;rfl
theorem Ht {B T:Nat} (c:Cli) (s:Srv) (h:UInvF Fa B T ⟨c,s⟩) (hB:B≤30000000) (hT:T≤800000000000) (x:Step) (hk:x.kind=10) (ha:c.away=false):af Tryz.prog 12 [.agg (ZC c),.agg (ZQ s),.agg (ZX x)] [] (λr _=>r=dN (ai ⟨c,s⟩ x)):=by
 obtain ⟨k,cl,n,path,toPath,data⟩:=x;simp only at hk;subst hk;have hW:ai ⟨c,s⟩ ⟨10,cl,n,path,toPath,data⟩=⟨(eZ ⟨c,s⟩).u,⟨0,(eZ ⟨c,s⟩).n,0,[]⟩⟩:=by unfold ai;simp[ha]
 have hw:=ze ⟨c,s⟩ h ha hB hT;rw[hW];generalize eZ ⟨c,s⟩=w at *;unfold uH bq at hw;unfold ZC ZQ ZX;refine ZF tK (Tryz.func12) rfl (λC=>?_);simp only[Tryz.ntmps12,Tryz.results12,go_sem];refine wG tK ?_;refine ah (dw 22 900) ?_;refine ah (ax 10) ?_;simp only[go_sem];refine wDF (hb:=(rfl)) (hk:=?_);refine wG tK ?_;refine wDF (hb:=(rfl)) (hk:=?_);refine wG tK ?_;refine wDF (hb:=(rfl)) (hk:=?_);refine wG tK ?_;refine wDF (hb:=(rfl)) (hk:=?_);refine wG tK ?_;refine wDF (hb:=(rfl)) (hk:=?_);refine wG tK ?_;refine wDF (hb:=(rfl)) (hk:=?_);refine wG tK ?_;refine wDF (hb:=(rfl)) (hk:=?_);refine wG tK ?_;refine wDF (hb:=(rfl)) (hk:=?_);refine wG tK ?_;refine wDF (hb:=(rfl)) (hk:=?_);refine wG tK ?_;refine wDT (hb:=(rfl)) (hk:=?_);refine wG tK ?_;refine wP [900] Tryz.func42 (hf:=(hw)) (hk:=?_);refine wG tK ?_;refine ZW ZM ?_;refine ZS rfl ?_;refine sN tK 9 ?_;refine sT tK ?_;refine sT tK ?_;refine sT tK ?_;refine sE ?_;refine wKd ?_
 try simp only[go_sem,gA,gB,gC]
 refine wG tK ?_;refine wT ?_;rfl
theorem JH (c:Cli) (s:Srv) (x:Step) (hk:x.kind<1\/10<x.kind):af Tryz.prog 12 [.agg (ZC c),.agg (ZQ s),.agg (ZX x)] [] (λr _=>r=dN (ai ⟨c,s⟩ x)):=by
 obtain ⟨k,cl,n,path,toPath,data⟩:=x;simp only at hk;have hW:ai ⟨c,s⟩ ⟨k,cl,n,path,toPath,data⟩=⟨⟨c,s⟩,cA 1⟩:=by
  unfold ai;simp only
  repeat rw[if_neg z8]
 rw[hW];unfold ZC ZQ ZX;refine ZF tK (Tryz.func12) rfl (λC=>?_);simp only[Tryz.ntmps12,Tryz.results12,go_sem];refine wG tK ?_;refine ah (dw 22 900) ?_;refine ah (ax 10) ?_;simp only[go_sem];refine wDF (hb:=j0) (hk:=?_);refine wG tK ?_;refine wDF (hb:=j0) (hk:=?_);refine wG tK ?_;refine wDF (hb:=j0) (hk:=?_);refine wG tK ?_;refine wDF (hb:=j0) (hk:=?_);refine wG tK ?_;refine wDF (hb:=j0) (hk:=?_);refine wG tK ?_;refine wDF (hb:=j0) (hk:=?_);refine wG tK ?_;refine wDF (hb:=j0) (hk:=?_);refine wG tK ?_;refine wDF (hb:=j0) (hk:=?_);refine wG tK ?_;refine wDF (hb:=j0) (hk:=?_);refine wG tK ?_;refine wDF (hb:=j0) (hk:=?_);refine wG tK ?_;refine ZW ZM ?_;refine ZS rfl ?_;refine sN tK 9 ?_;refine sT tK ?_;refine sT tK ?_;refine sT tK ?_;refine sE ?_;refine wKd ?_
 try simp only[go_sem,gA,gB,gC]
 refine wG tK ?_;refine wT ?_;rfl
variable {Fa:Prop}
def kq (l:List Entry) (i:Nat):List UInt8:=ml (l.take i)
theorem nR {l:List Entry} {i:Nat} (h:i<l.length):kq l (i+1)=kq l i++((l.getD i default).name++[10]):=by
 unfold kq ml;rw[ZT h,List.flatMap_append];simp
theorem xX {B T:Nat} {u:U} (h:UInvF Fa B T u) (f w:Int):NmE (aU u f w).n.entries:=by
 unfold aU;split
 ·rename_i n hn;obtain ⟨k,hk,rfl,_⟩:=kx hn;exact h.cli.nam k hk
 ·split
  ·exact .nil
  ·split
   ·exact .nil
   ·rename_i n hn;exact h.srv.hist.whole.nm ((ZO h.srv.hist.bH.up).1 hn).1
theorem BT {B:Nat} (w:Int):∀(l:List (List UInt8)) (T:Nat) (g:Got),UInvF Fa B T g.u->NmE g.n.entries->NmE (goR w l g).n.entries
 | [],T,g,h,hn=>by
  unfold goR;split
  ·exact hn
  ·exact .nil
 | s::r,T,g,h,hn=>by
  unfold goR;split
  ·exact .nil
  ·split
   ·exact .nil
   ·split
    ·exact .nil
    ·rename_i f _;exact BT w r (T+1) _ (bA h f w) (xX h f w)
theorem vZ {B T:Nat} {u:U} (h:UInvF Fa B T u) (l:List (List UInt8)) (w:Int):NmE (goU u l w).n.entries:=BT w l (T+1) _ (bA h 0 w) (xX h 0 w)
theorem pT {l:List Entry} (h:NmE l):∀i,i≤l.length->(kq l i).length≤41*i
 | 0,_=>by simp[kq,ml]
 | i+1,hi=>by
  have ih:=pT h i z8;have hn:=h (l.getD i default) (by rw[Wv,Ww (show i<l.length by omega)];exact Yb _);rw[nR (show i<l.length by omega),List.length_append,List.length_append];simp only[List.length_cons,List.length_nil];omega
theorem Jx {B T:Nat} (c:Cli) (s:Srv) (h:UInvF Fa B T ⟨c,s⟩) (hB:B≤30000000) (hT:T≤800000000000) (x:Step) (hp:x.path.length≤10000000) (hk:x.kind=1):af Tryz.prog 12 [.agg (ZC c),.agg (ZQ s),.agg (ZX x)] [] (λr _=>r=dN (ai ⟨c,s⟩ x)):=by
 obtain ⟨k,cl,n,path,toPath,data⟩:=x;simp only at hk hp;subst hk;have hW:ai ⟨c,s⟩ ⟨1,cl,n,path,toPath,data⟩=if (ae path).2≠0 then ⟨⟨c,s⟩,cA (ae path).2⟩ else ⟨(goU ⟨c,s⟩ (ae path).1 0).u,fQ 1 (goU ⟨c,s⟩ (ae path).1 0)⟩:=by unfold ai;rfl
 have hsp:=gN path hp;have hsl:=bR path;have hgo:=tq ⟨c,s⟩ h z8 z8 (ae path).1 z8 (λx hx=>by have:=(hsl.2 x hx).1;omega) 0;have hno:=oF h (ae path).1 0;have hnam:=vZ h (ae path).1 0;unfold cw at hsp;generalize goU ⟨c,s⟩ (ae path).1 0=g at *;generalize ae path=S at *;obtain ⟨L,E⟩:=S;simp only at hW hsp hgo;unfold uH bq im at hgo;unfold ZC ZQ ZX;refine ZF tK (Tryz.func12) rfl (λC=>?_);simp only[Tryz.ntmps12,Tryz.results12,go_sem];refine wG tK ?_;refine ah (dw 22 900) ?_;refine ah (ax 10) ?_;simp only[go_sem];refine wDT (hb:=(rfl)) (hk:=?_);refine wG tK ?_;refine wDT (hb:=(rfl)) (hk:=?_);refine wG tK ?_;refine wC Tryz.func17 (hf:=(hsp)) (hk:=?_);refine wG tK ?_
 by_cases hE:E=0
 ·rw[if_neg u2] at hW;rw[hW];refine wDF (hb:=u2) (hk:=?_);refine wG tK ?_;refine wP [900] Tryz.func35 (hf:=(hgo)) (hk:=?_);refine wGq tK ?_ ?_ w6
  ·simp[ZN]
  by_cases hge:g.e=0
  ·have hr:fQ 1 g=if g.n.dir=true then ⟨9,0,0,[]⟩ else ⟨0,0,0,g.n.data⟩:=by unfold fQ;rw[if_neg u7];rfl
   rw[hr];refine wDF (hb:=u7) (hk:=?_);refine wG tK ?_;cases hd:g.n.dir with
   | true=>
    refine wDT (hb:=(rfl)) (hk:=?_);refine wG tK ?_;refine ZW ZM ?_;refine ZS rfl ?_;refine sN tK 9 ?_;refine sT tK ?_;refine sT tK ?_;refine sT tK ?_;refine sE ?_;refine wKd ?_
    try simp only[go_sem,gA,gB,gC]
    refine wG tK ?_;refine wT ?_;rfl
   | false=>
    refine wDF (hb:=(rfl)) (hk:=?_);refine wG tK ?_;refine wDF (hb:=(rfl)) (hk:=?_);refine wG tK ?_;refine wDT (hb:=(rfl)) (hk:=?_);refine wG tK ?_;refine ZW ZM ?_;refine ZS rfl ?_;refine sN tK 9 ?_;refine sT tK ?_;refine sT tK ?_;refine sT tK ?_;refine sE ?_;refine wKd ?_
    try simp only[go_sem,gA,gB,gC]
    refine wG tK ?_;refine wT ?_;rfl
  ·have hr:fQ 1 g=cA g.e:=by unfold fQ;rw[if_pos hge];rfl
   rw[hr];refine wDT (hb:=u7) (hk:=?_);refine wG tK ?_;refine ZW ZM ?_;refine ZS rfl ?_;refine sN tK 9 ?_;refine sT tK ?_;refine sT tK ?_;refine sT tK ?_;refine sE ?_;refine wKd ?_
   try simp only[go_sem,gA,gB,gC]
   refine wG tK ?_;refine wT ?_;rfl
 ·rw[if_pos hE] at hW;rw[hW];refine wDT (hb:=u2) (hk:=?_);refine wG tK ?_;refine ZW ZM ?_;refine ZS rfl ?_;refine sN tK 3 ?_;refine sB tK ?_;refine sT tK ?_;refine sT tK ?_;refine sT tK ?_;refine sE ?_;refine wKd ?_
  try simp only[go_sem,gA,gB,gC]
  refine ah (ax 8) ?_;simp only[go_sem];refine wG tK ?_;refine wT ?_;rfl
theorem Jy {B T:Nat} (c:Cli) (s:Srv) (h:UInvF Fa B T ⟨c,s⟩) (hB:B≤30000000) (hT:T≤800000000000) (x:Step) (hp:x.path.length≤10000000) (hk:x.kind=2):af Tryz.prog 12 [.agg (ZC c),.agg (ZQ s),.agg (ZX x)] [] (λr _=>r=dN (ai ⟨c,s⟩ x)):=by
 obtain ⟨k,cl,n,path,toPath,data⟩:=x;simp only at hk hp;subst hk;have hW:ai ⟨c,s⟩ ⟨2,cl,n,path,toPath,data⟩=if (ae path).2≠0 then ⟨⟨c,s⟩,cA (ae path).2⟩ else ⟨(goU ⟨c,s⟩ (ae path).1 0).u,fQ 2 (goU ⟨c,s⟩ (ae path).1 0)⟩:=by unfold ai;rfl
 have hsp:=gN path hp;have hsl:=bR path;have hgo:=tq ⟨c,s⟩ h z8 z8 (ae path).1 z8 (λx hx=>by have:=(hsl.2 x hx).1;omega) 0;have hno:=oF h (ae path).1 0;have hnam:=vZ h (ae path).1 0;unfold cw at hsp;generalize goU ⟨c,s⟩ (ae path).1 0=g at *;generalize ae path=S at *;obtain ⟨L,E⟩:=S;simp only at hW hsp hgo;unfold uH bq im at hgo;unfold ZC ZQ ZX;refine ZF tK (Tryz.func12) rfl (λC=>?_);simp only[Tryz.ntmps12,Tryz.results12,go_sem];refine wG tK ?_;refine ah (dw 22 900) ?_;refine wDF (hb:=(rfl)) (hk:=?_);refine wG tK ?_;refine wDT (hb:=(rfl)) (hk:=?_);refine wG tK ?_;refine wC Tryz.func17 (hf:=(hsp)) (hk:=?_);refine wG tK ?_
 by_cases hE:E=0
 ·rw[if_neg u2] at hW;rw[hW];refine wDF (hb:=u2) (hk:=?_);refine wG tK ?_;refine wP [900] Tryz.func35 (hf:=(hgo)) (hk:=?_);refine wGq tK ?_ ?_ w6
  ·simp[ZN]
  by_cases hge:g.e=0
  ·have hr:fQ 2 g=if g.n.dir=true then ⟨0,0,0,ml g.n.entries⟩ else ⟨8,0,0,[]⟩:=by unfold fQ;rw[if_neg u7];rfl
   rw[hr];refine wDF (hb:=u7) (hk:=?_);refine wG tK ?_;refine wDF (hb:=(rfl)) (hk:=?_);refine wG tK ?_;cases hd:g.n.dir with
   | true=>
    refine wDF (hb:=(rfl)) (hk:=?_);refine wG tK ?_;refine wDF (hb:=(rfl)) (hk:=?_);refine wG tK ?_;have hnm:=hnam;have hle:=hno.ent;have hD0:kq g.n.entries 0=[]:=rfl;have hDs:=λi=>@nR g.n.entries i
    have hDn:=pT hnm;have hDe:kq g.n.entries g.n.entries.length=ml g.n.entries:=by unfold kq;rw[W2]
    rw[if_pos rfl];generalize kq g.n.entries=D at *;generalize ml g.n.entries=DE at *;refine ah (le_empty 62 5 1 z7) ?_;simp only[go_sem];refine ah (rI 10 ([[.int .i64 0,.int .i64 0,.int .i64 0,.osl 62 1 0 0]]) z6 Wq) ?_;simp only[go_sem];refine ZL (λi:Nat=>i≤g.n.entries.length) (λi=>g.n.entries.length-i) (λi=>(15,.any)::(51,.int .i64 i)::u0 52 13 [])
     (λi=>[(10,.cells 44 4 [[.int .i64 0,.int .i64 0,.int .i64 0,.osl 62 1 0 (D i).length]]),(62,.cells 5 1 ((D i).map ZY))]) 0 z8 ?_ λi hi=>?_
    ·rw[hD0];simp only[go_sem];exact ZU w3 w3 w3
    simp only[go_sem];refine wG tK ?_;refine wD (λh=>?_) (λh=>?_)
    ·have hlt:i<g.n.entries.length:=by simp at h;omega
     have hg:(g.n.entries.map ZE).getD i []=ZE (g.n.entries.getD i default):=Fam.getD hlt;have hs1:=hDs i hlt;have hl1:=hDn i hi;have hl2:(g.n.entries.getD i default).name.length≤40:=hnm _ (by rw[Wv,Ww hlt];exact Yb _);have how':=wi1 (i:=i) z8;generalize g.n.entries.getD i default=e at *;generalize D i=Di at *;have htq:List.take Di.length (Di.map ZY)=Di.map ZY:=Wy y8;refine wR ?_;refine wNq tK 4 ?_ ?_ z6 z6 n4
     ·simp[hg,ZE,hlt]
     refine wR ?_;refine wN tK 4 ?_;refine bY rfl (uq tK rfl rfl rfl rfl z7) ?_;simp only[go_sem];refine ah (bB 62 10 z6 j6) ?_;refine wGq tK ?_ ?_ j7
     ·simp[htq,refs];refine ⟨⟨λrow hr=>?_,λ_ _=>rfl,by omega⟩,by omega,λrow hr y hy=>?_⟩
      ·obtain ⟨b,_,rfl⟩:=W5.1 hr;rfl
      ·rcases List.mem_append.1 (YB hr) with hr | hr<;>obtain ⟨b,_,rfl⟩:=W5.1 hr<;>simp only[ZY,List.mem_cons,List.not_mem_nil,or_false] at hy<;>subst hy<;>simp[refs]
     refine ZB ⟨i+1,by omega,by omega,ZU ?_ ?_ ?_⟩
     ·simp[go_sem]
     ·simp[go_sem,hs1,htq,ZY];exact ⟨by rw[Wy y8,Yk];rfl,by omega⟩
     ·simp[go_sem]
    ·have e:i=g.n.entries.length:=by simp at h;omega
     subst e;rw[hDe];refine wG tK ?_;refine ZZ 62 rfl (kK _) ?_;simp only[go_sem];refine wG tK ?_;refine ZW ZM ?_;refine ZS rfl ?_;refine sN tK 9 ?_;refine sT tK ?_;refine sT tK ?_;refine sT tK ?_;refine sE ?_;refine wKd ?_
     try simp only[go_sem,gA,gB,gC]
     refine wG tK ?_;refine wT ?_;rfl
   | false=>
    refine wDT (hb:=(rfl)) (hk:=?_);refine ah (ax 10) ?_;simp only[go_sem];refine wG tK ?_;refine ZW ZM ?_;refine ZS rfl ?_;refine sN tK 9 ?_;refine sT tK ?_;refine sT tK ?_;refine sT tK ?_;refine sE ?_;refine wKd ?_
    try simp only[go_sem,gA,gB,gC]
    refine wG tK ?_;refine wT ?_;rfl
  ·have hr:fQ 2 g=cA g.e:=by unfold fQ;rw[if_pos hge];rfl
   rw[hr];refine wDT (hb:=u7) (hk:=?_);refine ah (ax 10) ?_;simp only[go_sem];refine wG tK ?_;refine ZW ZM ?_;refine ZS rfl ?_;refine sN tK 9 ?_;refine sT tK ?_;refine sT tK ?_;refine sT tK ?_;refine sE ?_;refine wKd ?_
   try simp only[go_sem,gA,gB,gC]
   refine wG tK ?_;refine wT ?_;rfl
 ·rw[if_pos hE] at hW;rw[hW];refine wDT (hb:=u2) (hk:=?_);refine wG tK ?_;refine ZW ZM ?_;refine ZS rfl ?_;refine sN tK 3 ?_;refine sB tK ?_;refine sT tK ?_;refine sT tK ?_;refine sT tK ?_;refine sE ?_;refine wKd ?_
  try simp only[go_sem,gA,gB,gC]
  refine ah (ax 8) ?_;simp only[go_sem];refine wG tK ?_;refine wT ?_;rfl
theorem Fg {B T:Nat} (c:Cli) (s:Srv) (h:UInvF Fa B T ⟨c,s⟩) (hB:B≤30000000) (hT:T≤800000000000) (x:Step) (hp:x.path.length≤10000000) (hq:x.toPath.length≤10000000):af Tryz.prog 12 [.agg (ZC c),.agg (ZQ s),.agg (ZX x)] [] (λr _=>r=dN (ai ⟨c,s⟩ x)):=by
 by_cases h0:x.kind<1\/10<x.kind
 ·exact JH c s x h0
 ·have hc:x.kind=1\/x.kind=2\/x.kind=3\/x.kind=4\/x.kind=5\/x.kind=6\/x.kind=7\/x.kind=8\/x.kind=9\/x.kind=10:=by omega
  rcases hc with h1 | h1 | h1 | h1 | h1 | h1 | h1 | h1 | h1 | h1
  ·exact Jx c s h hB hT x hp h1
  ·exact Jy c s h hB hT x hp h1
  ·exact Jz c s h hB hT x hp h1
  ·exact JA c s h hB hT x hp h1
  ·exact JB c s h hB hT x hp h1
  ·exact JC c s h hB hT x hp hq h1
  ·exact JD c s x h1
  ·exact JE c s h hB hT x h1
  ·exact JF c s h hB hT x hp h1
  ·cases ha:c.away with
   | true=>exact Ff c s h hB hT x h1 ha
   | false=>exact Ht c s h hB hT x h1 ha
def tT (g:GotW):AV:=.tup [.agg (ee g.w),.agg (aT g.r)]
def csT (t:List Node) (cs:List Cli) (j:Nat) (c:Cli) (i:Nat):List Cli:=((cs.set j c).take i).map (f_ t)
theorem D6 {t:List Node} {cs:List Cli} {j:Nat} {c:Cli} {i:Nat} (h:i<cs.length):csT t cs j c (i+1)=csT t cs j c i++[f_ t (if i=j then c else cs.getD i default)]:=by
 unfold csT;rw[ZT (show i<(cs.set j c).length by rw[Yi];exact h),List.map_append];have:(cs.set j c).getD i default=if i=j then c else cs.getD i default:=by
  rw[Wv,YV]
  by_cases e:j=i
  ·subst e;rw[if_pos rfl,if_pos h,if_pos rfl];rfl
  ·rw[if_neg e,if_neg (λh=>e h.symm),Wv]
 rw[this];rfl
theorem Gy {t:List Node} {cs:List Cli} {j:Nat} {c:Cli} {i:Nat} (h:i≤cs.length):(csT t cs j c i).length=i:=by
 unfold csT;rw[List.length_map,YF,Yi];omega
theorem A3 {B T:Nat} (w:Wor) (h:WInv B T w) (hB:B≤30000000) (hT:T≤800000000000) (x:Step) (hp:x.path.length≤10000000) (hq:x.toPath.length≤10000000) (hb:x.client<0\/x.client≥w.cs.length):af Tryz.prog 22 [.agg (ee w),.agg (ZX x)] [] (λr _=>r=tT (gT w x)):=by
 have h3:=h.len;have hW:gT w x=⟨w,cA 6⟩:=by unfold gT;rw[if_pos hb]
 rw[hW];unfold ee ZX;refine ZF tK (Tryz.func22) rfl (λC=>?_);simp only[Tryz.ntmps22,Tryz.results22,go_sem];refine wR ?_;refine wN tK 4 ?_;refine wR ?_;refine wN tK 11 ?_;refine aq 22 z6 (λc22 h22=>?_);simp only[go_sem];have hc:c22=true:=by
  rw[←h22]
  by_cases h1:x.client<0
  ·simp[h1]
  ·simp[h1];omega
 clear h22;refine wG tK ?_;refine wDT (hb:=(hc)) (hk:=?_);refine wG tK ?_;refine ah (ax 5) ?_;simp only[go_sem];refine wT ?_;rfl
theorem Da {B T:Nat} (w:Wor) (h:WInv B T w) (hB:B≤30000000) (hT:T≤800000000000) (x:Step) (hp:x.path.length≤10000000) (hq:x.toPath.length≤10000000) (hb:¬(x.client<0\/x.client≥w.cs.length)):af Tryz.prog 22 [.agg (ee w),.agg (ZX x)] [] (λr _=>r=tT (gT w x)):=by
 have h3:=h.len;obtain ⟨k,cl,n,path,toPath,data⟩:=x;simp only at hb hp hq;obtain ⟨j,rfl⟩:∃j:Nat,cl=(j:Int):=⟨cl.toNat,by omega⟩;have hj:j<w.cs.length:=by omega
 have hu:=h.at hj;have hst:=Fg (w.cs.getD j default) w.s hu hB hT ⟨k,j,n,path,toPath,data⟩ hp hq;have hinv:=ie hu ⟨k,j,n,path,toPath,data⟩;have hW:gT w ⟨k,j,n,path,toPath,data⟩=⟨⟨(ai ⟨w.cs.getD j default,w.s⟩ ⟨k,j,n,path,toPath,data⟩).u.s,csT (ai ⟨w.cs.getD j default,w.s⟩ ⟨k,j,n,path,toPath,data⟩).u.s.tree w.cs j (ai ⟨w.cs.getD j default,w.s⟩ ⟨k,j,n,path,toPath,data⟩).u.c w.cs.length⟩,(ai ⟨w.cs.getD j default,w.s⟩ ⟨k,j,n,path,toPath,data⟩).r⟩:=by
  unfold gT csT;rw[if_neg hb,show w.cs.length=(w.cs.set j (ai ⟨w.cs.getD j default,w.s⟩ ⟨k,j,n,path,toPath,data⟩).u.c).length by rw[Yi],W2];rfl
 have hcx:∀i,i<w.cs.length->(w.cs.getD i default).cache.length≤24:=λi hi=>by have:=(h.at hi).cli.len;have:=(h.at hi).cli.room;simp only at *;omega
 rw[hW];have hg0:(w.cs.map ZC).getD j []=ZC (w.cs.getD j default):=Fam.getD hj;generalize w.cs.getD j default=c0 at hst hinv hg0 ⊢;generalize ai ⟨c0,w.s⟩ ⟨k,j,n,path,toPath,data⟩=g at *;have hcg:g.u.c.cache.length≤24:=by have:=hinv.cli.len;have:=hinv.cli.room;omega
 have hof:=te g.u.s.tree (by have:=hinv.srv.hist.bH.len;omega);have hfr0:=λl hl=>nX l g.u.s.tree hl hinv.srv.hist.bH.up
 have hcc:∀kk:Cli,kk.cache.length≤24->kk.cache.length≤90000000:=λkk hk=>by omega
 have hPs:=λi=>@D6 g.u.s.tree w.cs j g.u.c i
 have hPl:=λi=>@Gy g.u.s.tree w.cs j g.u.c i
 have hP0:csT g.u.s.tree w.cs j g.u.c 0=[]:=rfl;generalize csT g.u.s.tree w.cs j g.u.c=P at *;unfold dN ZC ZQ ZX aT at hst;unfold tT ee ZX aT;refine ZF tK (Tryz.func22) rfl (λC=>?_);simp only[Tryz.ntmps22,Tryz.results22,go_sem];refine wR ?_;refine wN tK 4 ?_;refine wR ?_;refine wN tK 11 ?_;refine aq 22 z6 (λc22 h22=>?_);simp only[go_sem];have hc:c22=false:=by
  rw[←h22];have h1:¬((j:Int)<0):=by omega
  simp[h1];omega
 clear h22;refine wG tK ?_;refine wDF (hb:=(hc)) (hk:=?_);refine wG tK ?_;refine ZW ZM ?_;refine ZS rfl ?_;refine sNq tK 9 ?_ ?_ z6 z6 (by simp only[go_sem,hg0,ZC];try exact rfl)
 ·simp[hg0,hj,ZC]
 refine sC Tryz.func12 (hf:=(hst)) (hk:=?_);refine sN tK 4 ?_;refine sW tK ?_;refine sW tK ?_;refine sW tK ?_;refine sT tK ?_;refine sT tK ?_;refine sT tK ?_;refine sE ?_;refine wKd ?_
 try simp only[go_sem,gA,gB,gC]
 refine wG tK ?_;refine ah (le_empty 68 40 10 z7) ?_;simp only[go_sem];refine ah (rI 9 ([[.sl (g.u.s.tree.map ZN),.int .i64 g.u.s.next,.sl (g.u.s.past.map ZP),.osl 68 10 0 0]]) z6 Wq) ?_;simp only[go_sem];refine ZL (λi:Nat=>i≤w.cs.length) (λi=>w.cs.length-i) (λi=>(10,.any)::(11,.any)::(44,.int .i64 i)::u0 45 26 [])
  (λi=>[(9,.cells 33 4 [[.sl (g.u.s.tree.map ZN),.int .i64 g.u.s.next,.sl (g.u.s.past.map ZP),.osl 68 10 0 (P i).length]]),(68,.cells 40 10 ((P i).map ZC))]) 0 z8 ?_ λi hi=>?_
 ·rw[hP0];simp only[go_sem];exact ZU w3 w3 w3
 simp only[go_sem];refine wG tK ?_;refine wD (λh=>?_) (λh=>?_)
 ·have hlt:i<w.cs.length:=by simp at h;omega
  have hg1:(w.cs.map ZC).getD i []=ZC (w.cs.getD i default):=Fam.getD hlt;have how':=wi1 (i:=i) z8;have hs1:=hPs i hlt;have hl1:=hPl i hi;have hci:=hcx i hlt;generalize w.cs.getD i default=ci at *;generalize P i=Q at *;have htq:List.take Q.length (Q.map ZC)=Q.map ZC:=Wy y8;refine wR ?_;refine wNq tK 6 ?_ ?_ z6 z6 (by simp only[go_sem,hg1,ZC];try exact rfl)
  ·simp[hg1,ZC,hlt]
  refine wG tK ?_
  by_cases hij:i=j
  ·rw[if_pos hij] at hs1;refine wDT (hb:=(by simp[hij])) (hk:=?_);refine wG tK ?_;have hin:=hcg;generalize hkv:g.u.c=kk at *;cases haw:kk.away with
   | true=>
    have hkk:f_ g.u.s.tree kk=kk:=by unfold f_;rw[if_pos haw]
    refine wDF (hb:=Zd) (hk:=?_);refine wR ?_;refine wN tK 2 ?_;refine ah (bB 68 9 z6 j6) ?_;refine wGq tK ?_ ?_ j7
    ·simp[htq,refs];omega
    refine ZB ⟨i+1,by omega,by omega,ZU ?_ ?_ ?_⟩
    ·simp[go_sem]
    ·simp[go_sem,hs1,htq,ZC,hkk,haw]
    ·simp[go_sem]
   | false=>
    have hkk:f_ g.u.s.tree kk={ kk with cache:=kk.cache.filter λk=>!bN g.u.s.tree k }:=by unfold f_ nM;rw[if_neg Zd]
    have hfr:=hfr0 kk.cache (hcc kk hin);refine wDT (hb:=Zd) (hk:=?_);refine wG tK ?_;refine ZW ZM ?_;refine ZS rfl ?_;refine sN tK 4 ?_;refine sC Tryz.func18 (hf:=(hof)) (hk:=?_);refine sC Tryz.func51 (hf:=(hfr)) (hk:=?_);refine sN tK 1 ?_;refine sT tK ?_;refine sE ?_;refine wKd ?_
    try simp only[go_sem,gA,gB,gC]
    refine wR ?_;refine wN tK 2 ?_;refine ah (bB 68 9 z6 j6) ?_;refine wGq tK ?_ ?_ j7
    ·simp[htq,refs];omega
    refine ZB ⟨i+1,by omega,by omega,ZU ?_ ?_ ?_⟩
    ·simp[go_sem]
    ·simp[go_sem,hs1,htq,ZC,hkk,haw]
    ·simp[go_sem]
  ·rw[if_neg hij] at hs1;refine wDF (hb:=j0) (hk:=?_);refine wG tK ?_;have hin:=hci;generalize hkv:ci=kk at *;cases haw:kk.away with
   | true=>
    have hkk:f_ g.u.s.tree kk=kk:=by unfold f_;rw[if_pos haw]
    refine wDF (hb:=Zd) (hk:=?_);refine wR ?_;refine wN tK 2 ?_;refine ah (bB 68 9 z6 j6) ?_;refine wGq tK ?_ ?_ j7
    ·simp[htq,refs];omega
    refine ZB ⟨i+1,by omega,by omega,ZU ?_ ?_ ?_⟩
    ·simp[go_sem]
    ·simp[go_sem,hs1,htq,ZC,hkk,haw]
    ·simp[go_sem]
   | false=>
    have hkk:f_ g.u.s.tree kk={ kk with cache:=kk.cache.filter λk=>!bN g.u.s.tree k }:=by unfold f_ nM;rw[if_neg Zd]
    have hfr:=hfr0 kk.cache (hcc kk hin);refine wDT (hb:=Zd) (hk:=?_);refine wG tK ?_;refine ZW ZM ?_;refine ZS rfl ?_;refine sN tK 4 ?_;refine sC Tryz.func18 (hf:=(hof)) (hk:=?_);refine sC Tryz.func51 (hf:=(hfr)) (hk:=?_);refine sN tK 1 ?_;refine sT tK ?_;refine sE ?_;refine wKd ?_
    try simp only[go_sem,gA,gB,gC]
    refine wR ?_;refine wN tK 2 ?_;refine ah (bB 68 9 z6 j6) ?_;refine wGq tK ?_ ?_ j7
    ·simp[htq,refs];omega
    refine ZB ⟨i+1,by omega,by omega,ZU ?_ ?_ ?_⟩
    ·simp[go_sem]
    ·simp[go_sem,hs1,htq,ZC,hkk,haw]
    ·simp[go_sem]
 ·have e:i=w.cs.length:=by simp at h;omega
  subst e;have hl1:=hPl w.cs.length (W7 _);generalize P w.cs.length=Q at *;have htq:List.take Q.length (Q.map ZC)=Q.map ZC:=Wy y8;refine ZZ 68 rfl (qq _) ?_;simp only[go_sem,htq];refine wG tK ?_;refine ZW ZM ?_;refine ZS rfl ?_;refine sN tK 2 ?_;refine sT tK ?_;refine sT tK ?_;refine sE ?_;refine wKd ?_
  try simp only[go_sem,gA,gB,gC]
  refine wG tK ?_;refine wT ?_;rfl
theorem Db {B T:Nat} (w:Wor) (h:WInv B T w) (hB:B≤30000000) (hT:T≤800000000000) (x:Step) (hp:x.path.length≤10000000) (hq:x.toPath.length≤10000000):af Tryz.prog 22 [.agg (ee w),.agg (ZX x)] [] (λr _=>r=tT (gT w x)):=by
 by_cases hb:x.client<0\/x.client≥w.cs.length
 ·exact A3 w h hB hT x hp hq hb
 ·exact Da w h hB hT x hp hq hb
theorem uc:af Tryz.prog 20 [] [] (λr _=>r=.agg [.sl [[.int .i64 0,.bool true,.nils,.nils,.int .i64 0]],.int .i64 1,.nils]):=by
 refine ZF tK (Tryz.func20) rfl (λC=>?_);simp only[Tryz.ntmps20,Tryz.results20,go_sem];refine wG tK ?_;refine ZZ 2 rfl (rfl) ?_;simp only[go_sem];refine wT ?_;rfl
theorem la:af Tryz.prog 20 [] [] (λr _=>r=.agg (ZQ ⟨[gr],1,[]⟩)):=af.iu uc rfl
def kH:Wor:=⟨⟨[],0,[]⟩,[]⟩
def EU (rooms:List Int):AV:=.tup [.agg (ee (if b_ rooms=0 then ET rooms else kH)),.int .i64 (b_ rooms)]
theorem AI (rooms:List Int) (i:Nat):nC rooms (i+1)=nC rooms i++[oR (i:Int) (rooms.getD i 0)]:=by
 unfold nC;rw[List.range_succ,List.map_append];rfl
theorem CR (rooms:List Int) (i:Nat):(nC rooms i).length=i:=by unfold nC;simp
theorem yG (rooms:List Int) (hr:rooms.length≤100000000):af Tryz.prog 21 [.sl (rooms.map ZI)] [] (λr _=>r=EU rooms):=by
 have hns:=la;unfold ZQ at hns;have hsu:=AI rooms;have hle:=CR rooms;have h0:nC rooms 0=[]:=rfl;have hW:EU rooms=.tup [.agg (ee (if b_ rooms=0 then ⟨JY,nC rooms rooms.length⟩ else kH)),.int .i64 (b_ rooms)]:=rfl;have hE:b_ rooms=if rooms.length<1\/3<rooms.length then 5 else if rooms.all (λn=>decide (3≤n)&&decide (n≤24)) then 0 else 3:=rfl;rw[hW];generalize b_ rooms=E at *;generalize nC rooms=P at *;clear hW;refine ZF tK (Tryz.func21) rfl (λC=>?_);simp only[Tryz.ntmps21,Tryz.results21,go_sem];refine wR ?_;refine wN tK 2 ?_;refine wR ?_;refine wN tK 8 ?_;refine aq 14 z6 (λc14 h14=>?_);simp only[go_sem];have hc:c14=true↔(rooms.length<1\/3<rooms.length):=by
  rw[←h14]
  by_cases h1:rooms.length<1
  ·simp[h1];omega
  ·simp[h1];omega
 clear h14;refine wG tK ?_
 by_cases hb:rooms.length<1\/3<rooms.length
 ·rw[if_pos hb] at hE;subst hE;refine wDT (hb:=(hc.2 hb)) (hk:=?_);refine wG tK ?_;refine ah (ax 2) ?_;simp only[go_sem];refine wT ?_;rfl
 ·rw[if_neg hb] at hE;refine wDF (hb:=(by simpa using λh0=>hb (hc.1 h0))) (hk:=?_);refine wG tK ?_;refine wC Tryz.func20 (hf:=(hns)) (hk:=?_);refine wG tK ?_;refine ah (le_empty 38 40 10 z7) ?_;simp only[go_sem];refine ah (rI 4 ([[.sl ([gr].map ZN),.int .i64 1,.sl [],.osl 38 10 0 0]]) z6 Wq) ?_;simp only[go_sem];refine ZL (λi:Nat=>i≤rooms.length/\(rooms.take i).all (λn=>decide (3≤n)&&decide (n≤24))=true) (λi=>rooms.length-i) (λi=>(5,.any)::(6,.any)::(20,.int .i64 i)::u0 21 21 [])
   (λi=>[(4,.cells 33 4 [[.sl ([gr].map ZN),.int .i64 1,.sl [],.osl 38 10 0 (P i).length]]),(38,.cells 40 10 ((P i).map ZC))]) 0 ⟨by omega,rfl⟩ ?_ λi hi=>?_
  ·rw[h0];simp only[go_sem];exact ZU w3 w3 w3
  obtain ⟨hi,hall⟩:=hi;simp only[go_sem];refine wG tK ?_;refine wD (λh=>?_) (λh=>?_)
  ·have hlt:i<rooms.length:=by simp at h;omega
   have hg:(rooms.map ZI).getD i []=[.int .i64 (rooms.getD i 0)]:=by
    rw[Wv,Wz,Wv,Ww hlt];rfl
   have how':=wi1 (i:=i) z8;have hs1:=hsu i;have hl1:=hle i;have htk:rooms.take (i+1)=rooms.take i++[rooms.getD i 0]:=by
    rw[List.take_add_one,Wv,Ww hlt];rfl
   generalize hn:rooms.getD i 0=n at *;generalize P i=Q at *;have htq:List.take Q.length (Q.map ZC)=Q.map ZC:=Wy y8;refine wR ?_;refine wNq tK 5 ?_ ?_ z6 z6 p7
   ·simp[hg,hlt]
   refine wR ?_;refine wN tK 6 ?_;refine aq 30 z6 (λc30 h30=>?_);simp only[go_sem];have hc3:c30=true↔¬(3≤n/\n≤24):=by
    rw[←h30]
    by_cases h1:n<3
    ·simp[h1];omega
    ·simp[h1];omega
   clear h30;refine wG tK ?_
   by_cases hok:3≤n/\n≤24
   ·refine wDF (hb:=(by simpa using λh0=>hc3.1 h0 hok)) (hk:=?_);refine wR ?_;refine wN tK 5 ?_;refine ah (wi 36 z6 Z9) ?_;simp only[go_sem];refine ah (bB 38 4 z6 j6) ?_;refine wGq tK ?_ ?_ j7
    ·simp[htq,refs]
     first | exact ⟨by intro row h;simp at h;subst h;rfl,by omega⟩ | omega
    refine ZB ⟨i+1,⟨by omega,by rw[htk,List.all_append,hall];simp[hok]⟩,by omega,ZU ?_ ?_ ?_⟩
    ·simp[go_sem]
    ·simp[go_sem,hs1,htq,ZC,oR]
    ·simp[go_sem]
   ·have hE3:E=3:=by
     rw[hE,if_neg];simp only[List.all_eq_true,Bool.and_eq_true,decide_eq_true_eq];intro hx;have:=hx n (by rw[←hn,Wv,Ww hlt];exact Yb _);exact hok this
    subst hE3;refine wDT (hb:=(hc3.2 hok)) (hk:=?_);refine wG tK ?_;refine ah (ax 2) ?_;simp only[go_sem];refine wT ?_;rfl
  ·have e:i=rooms.length:=by simp at h;omega
   subst e;rw[W2] at hall;rw[if_pos hall] at hE;subst hE;have hl1:=hle rooms.length;generalize P rooms.length=Q at *;have htq:List.take Q.length (Q.map ZC)=Q.map ZC:=Wy y8;refine wR ?_;refine ZZ 38 rfl (qq _) ?_;simp only[go_sem,htq];refine wG tK ?_;refine wT ?_;rfl
noncomputable def jO (rooms:List Int) (l:List Step):Wor:=if b_ rooms=0 then vH rooms l else kH
noncomputable def xq (rooms:List Int) (l:List Step) (i:Nat):Wor:=vH rooms (l.take i)
theorem Ci {rooms:List Int} {l:List Step} {i:Nat} (h:i<l.length):xq rooms l (i+1)=(gT (xq rooms l i) (l.getD i default)).w:=by
 unfold xq vH;rw[ZT h,List.foldl_append];rfl
theorem DZ {rooms:List Int} (h:b_ rooms=0) (l:List Step) (i:Nat):WInv (20*l.length) (300*l.length) (xq rooms l i):=by
 have:=uv h (l.take i);rw[YF] at this;exact ⟨this.srv.mono z8,λc hc=>(this.cli c hc).mono z8 z8,this.len⟩
structure StepsOK (l:List Step):Prop where
 len:l.length≤1400000
 path:∀x,x∈l->x.path.length≤10000000/\x.toPath.length≤10000000
theorem nk (rooms:List Int) (hr:rooms.length≤100000000) (l:List Step) (hl:StepsOK l):af Tryz.prog 8 [.sl (rooms.map ZI),.sl (l.map ZX)] [] (λr _=>r=.agg (ee (jO rooms l))):=by
 have hn:=yG rooms hr;have hll:=hl.len;unfold EU at hn;have hB0:jO rooms l=if b_ rooms=0 then xq rooms l l.length else kH:=by unfold jO xq;rw[W2]
 have hinv:=λh i=>@DZ rooms h l i
 have hsu:=λi=>@Ci rooms l i
 have hz:xq rooms l 0=ET rooms:=rfl;rw[hB0];generalize xq rooms l=F at *;rw[←hz] at hn;clear hB0 hz;generalize b_ rooms=E at *;generalize hW0:(if E=0 then F 0 else kH)=W0 at *;unfold ee at hn;refine ZF tK (Tryz.func8) rfl (λC=>?_);simp only[Tryz.ntmps8,Tryz.results8,go_sem];refine wG tK ?_;refine wC Tryz.func21 (hf:=(hn)) (hk:=?_);refine wG tK ?_
 by_cases hE:E=0
 ·rw[if_pos hE] at hW0 ⊢;have hinv:=hinv hE;subst hW0;refine wDF (hb:=u2) (hk:=?_);refine wG tK ?_;refine ZL (λi:Nat=>i≤l.length) (λi=>l.length-i) (λi=>(8,.any)::(9,.any)::(10,.any)::(21,.int .i64 i)::u0 22 12 [])
   (λi=>[(5,.cells 33 4 [ee (F i)])]) 0 z8 ?_ λi hi=>?_
  ·unfold ee;simp only[go_sem];exact ZU w3 w3 w3
  unfold ee;simp only[go_sem];refine wG tK ?_;refine wD (λh=>?_) (λh=>?_)
  ·have hlt:i<l.length:=by simp at h;omega
   have hg:(l.map ZX).getD i []=ZX (l.getD i default):=Fam.getD hlt;have how':=wi1 (i:=i) z8;have hpx:=hl.path (l.getD i default) (by rw[Wv,Ww hlt];exact Yb _);have hw:=Db (F i) (hinv i) z8 z8 (l.getD i default) hpx.1 hpx.2;have hs1:=hsu i hlt;generalize l.getD i default=x at *;unfold tT ee ZX aT at hw;generalize gT (F i) x=g at *;refine wR ?_;refine wNq tK 4 ?_ ?_ z6 z6 (by simp only[go_sem,hg,ZX];try exact rfl)
   ·simp[hg,ZX,hlt]
   refine wG tK ?_;refine wC Tryz.func22 (hf:=(hw)) (hk:=?_);refine wG tK ?_ j7 Q3;refine ZB ⟨i+1,by omega,by omega,ZU ?_ ?_ ?_⟩
   ·simp[go_sem]
   ·simp[go_sem,hs1,ee]
   ·simp[go_sem]
  ·have e:i=l.length:=by simp at h;omega
   subst e;refine wG tK ?_;refine wT ?_;rfl
 ·rw[if_neg hE] at hW0 ⊢;subst hW0;refine wDT (hb:=u2) (hk:=?_);refine wG tK ?_;refine wT ?_;rfl
theorem oo {rooms:List Int} (h:b_ rooms=0) (l:List Step):WInv (20*l.length) (300*l.length) (jO rooms l):=by
 unfold jO;rw[if_pos h];exact uv h l
variable {Fa:Prop}
theorem ow (d:List Hoard) (hd:d.length≤100000000):af Tryz.prog 47 [.sl (d.map ZJ)] [] (λr _=>r=.sl (d.map ZJ)):=by
 refine ZF tK (Tryz.func47) rfl (λC=>?_);simp only[Tryz.ntmps47,Tryz.results47,go_sem];refine wG tK ?_;refine lV tK rfl rfl rfl v8 v8 (λb hb=>?_);simp only[go_sem];refine wG tK ?_;refine wD (λh=>?_) (λh=>?_)
 ·refine wG tK ?_;refine kO ⟨_,_,z7,by simp[go_sem],.sl [],.inr (.inr ⟨rfl,.inl rfl⟩),?_⟩;rw[hb h]
 ·refine wGq tK ?_ ?_
  ·simp;omega
  refine ZZ 7 rfl (ew _) ?_;simp only[go_sem];refine wT ?_;simp
structure SmallC (c:Cli):Prop where
 cache:SmallK c.cache
 log:SmallL c.log
 repair:SmallL c.repair
 hoards:c.hoards.length≤100000000
theorem CInvF.qg {B T:Nat} {s:Srv} {c:Cli} (h:CInvF Fa B T s c) (hB:B≤40000000):SmallC c where
 cache:=⟨by have:=h.len;have:=h.room;omega,λk hk=>⟨by have:=h.data k hk;omega,by have:=h.ent k hk;omega⟩⟩
 log:=⟨by have:=h.log;omega,λr hr=>by unfold Act.Small;have:=(h.logS r hr).data;omega⟩
 repair:=⟨by have:=h.rep;omega,λr hr=>by unfold Act.Small;have:=(h.repS r hr).data;omega⟩
 hoards:=by have:=h.hoards;omega
theorem Gx (c:Cli) (h:SmallC c):af Tryz.prog 15 [.agg (ZC c)] [] (λr _=>r=.agg (ZC c)):=by
 have h1:=rH c.cache h.cache;have h2:=kr c.log h.log;have h3:=kr c.repair h.repair;have h4:=ow c.hoards h.hoards;unfold ZC;refine ZF tK (Tryz.func15) rfl (λC=>?_);simp only[Tryz.ntmps15,Tryz.results15,go_sem];refine wG tK ?_;refine ZW ZM ?_;refine ZS rfl ?_;refine sN tK 2 ?_;refine sC Tryz.func45 (hf:=(h1)) (hk:=?_);refine sN tK 2 ?_;refine sC Tryz.func46 (hf:=(h2)) (hk:=?_);refine sN tK 2 ?_;refine sC Tryz.func46 (hf:=(h3)) (hk:=?_);refine sN tK 2 ?_;refine sC Tryz.func47 (hf:=(h4)) (hk:=?_);refine sN tK 1 ?_;refine sT tK ?_;refine sN tK 1 ?_;refine sT tK ?_;refine sN tK 1 ?_;refine sT tK ?_;refine sN tK 1 ?_;refine sT tK ?_;refine sE ?_;refine wKd ?_
 try simp only[go_sem,gA,gB,gC]
 refine wG tK ?_;refine wT ?_;rfl
structure RightC (t:List Node) (c:Cli):Prop where
 room:(c.cache.length:Int)≤c.room
 log:c.away=false->c.log=[]
 here:c.away=false->∀k,k∈c.cache->k.dirty=false/\k.node∈t
 small:SmallC c
end La
