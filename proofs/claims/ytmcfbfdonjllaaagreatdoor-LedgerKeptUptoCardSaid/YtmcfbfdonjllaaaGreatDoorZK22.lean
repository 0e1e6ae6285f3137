/- Texts of this claim, part 22: RWrite, RGone, RTake, RBack, RStep, RStepR, RWorld, NewS, RNew, RBuild, RRight, WNo, WBook, WBack2, PBook2, WLog, WOwn. No condition. -/
import Derived.Test.YtmcfbfdonjllaaaGreatDoorZK21
import Derived.Test.YtmcfbfdonjllaaaGreatDoorZK11
set_option maxRecDepth 10000
set_option maxHeartbeats 4000000
set_option linter.unusedSimpArgs false
set_option linter.unusedVariables false
namespace La
open Go Go.Eng Go.Proofs
variable {Fa:Prop}
variable {Fa:Prop}
variable {Fa:Prop}
def wq (log:List Rec) (vs:List Verdict) (i:Nat):List Rec:=bs (log.take i) (vs.take i)
def jO (vs:List Verdict) (i:Nat):Nat:=bC (vs.take i)
theorem lj (r:Rec) (v:Verdict):∀{l:List Rec} {vs:List Verdict},l.length=vs.length->bs (l++[r]) (vs++[v])=bs l vs++if v.err=0 then [] else [r]
 | [],[],_=>by
  simp only[List.nil_append,bs]
  first | done | (split<;>rfl)
 | [],_::_,h=>by simp at h
 | _::_,[],h=>by simp at h
 | a::l,b::vs,h=>by
  have ih:=lj r v (l:=l) (vs:=vs) j5;simp only[List.cons_append,bs];rw[ih];split
  ·rfl
  ·rfl
theorem AE {log:List Rec} {vs:List Verdict} {i:Nat} (h:i<vs.length) (hl:vs.length=log.length):wq log vs (i+1)=if (vs.getD i default).err=0 then wq log vs i else wq log vs i++[log.getD i default]:=by
 unfold wq;rw[ZT h,ZT (show i<log.length by omega),lj _ _ y9];split
 ·rw[List.append_nil]
 ·rfl
theorem xx {vs:List Verdict} {i:Nat} (h:i<vs.length):jO vs (i+1)=if (vs.getD i default).err=0 then jO vs i+1 else jO vs i:=by
 unfold jO bC;rw[ZT h,List.filter_append,List.length_append];generalize vs.getD i default=v
 by_cases e:v.err=0
 ·rw[if_pos e];simp[e]
 ·rw[if_neg e];simp[e]
theorem BQ (vs:List Verdict) (i:Nat) (h:i≤vs.length):jO vs i≤i:=by
 unfold jO bC;have:=Z5 (λv:Verdict=>v.err==0) (vs.take i);rw[Z9] at this;omega
theorem mW:∀(l:List Rec) (vs:List Verdict),(bs l vs).length≤l.length
 | [],_=>by simp[bs]
 | _::_,[]=>by simp[bs]
 | a::l,b::vs=>by
  have ih:=mW l vs;simp only[bs];split
  ·simp only[List.length_cons];omega
  ·simp only[List.length_cons];omega
theorem CQ (log:List Rec) (vs:List Verdict) (i:Nat):(wq log vs i).length≤log.length:=We (mW _ _) n3
def qU (c:Cli) (vs:List Verdict) (i:Nat):List Rec:=c.repair++wq c.log vs i
theorem AH {c:Cli} {vs:List Verdict} {i:Nat} (h:i<vs.length) (hl:vs.length=c.log.length):qU c vs (i+1)=if (vs.getD i default).err=0 then qU c vs i else qU c vs i++[c.log.getD i default]:=by
 unfold qU;rw[AE h hl];split
 ·rfl
 ·rw[WT]
theorem CS (c:Cli) (vs:List Verdict) (i:Nat):(qU c vs i).length≤c.repair.length+c.log.length:=by
 unfold qU;rw[List.length_append];have:=CQ c.log vs i;omega
variable {Fa:Prop}
def zy (g:GotS):AV:=.tup [.agg (ZC g.u.c),.agg (ZQ g.u.s),.agg (aU g.r)]
variable {Fa:Prop}
def mG (l:List Entry) (i:Nat):List UInt8:=qD (l.take i)
theorem qE {l:List Entry} {i:Nat} (h:i<l.length):mG l (i+1)=mG l i++((l.getD i default).name++[10]):=by
 unfold mG qD;rw[ZT h,List.flatMap_append];simp
theorem vd {B T:Nat} {u:U} (h:UInvF Fa B T u) (f w:Int):NmE (bz u f w).n.entries:=by
 unfold bz;split
 ·rename_i n hn;obtain ⟨k,hk,rfl,_⟩:=kQ hn;exact h.cli.nam k hk
 ·split
  ·exact .nil
  ·split
   ·exact .nil
   ·rename_i n hn;exact h.srv.hist.whole.nm ((ZO h.srv.hist.bW.up).1 hn).1
theorem yZ {B:Nat} (w:Int):∀(l:List (List UInt8)) (T:Nat) (g:Got),UInvF Fa B T g.u->NmE g.n.entries->NmE (goR w l g).n.entries
 | [],T,g,h,hn=>by
  unfold goR;split
  ·exact hn
  ·exact .nil
 | s::r,T,g,h,hn=>by
  unfold goR;split
  ·exact .nil
  ·split
   ·exact .nil
   ·split
    ·exact .nil
    ·rename_i f _;exact yZ w r (T+1) _ (cn h f w) (vd h f w)
theorem EC {B T:Nat} {u:U} (h:UInvF Fa B T u) (l:List (List UInt8)) (w:Int):NmE (goU u l w).n.entries:=yZ w l (T+1) _ (cn h 0 w) (vd h 0 w)
theorem sI {l:List Entry} (h:NmE l):∀i,i≤l.length->(mG l i).length≤41*i
 | 0,_=>by simp[mG,qD]
 | i+1,hi=>by
  have ih:=sI h i z7;have hn:=h (l.getD i default) (by rw[Zo,Zp (show i<l.length by omega)];exact WR _);rw[qE (show i<l.length by omega),List.length_append,List.length_append];simp only[List.length_cons,List.length_nil];omega
def oo (g:GotW):AV:=.tup [.agg (bo g.w),.agg (aU g.r)]
theorem rP:ae Tryz.prog 35 [] [] (λr _=>r=.agg [.sl [[.int .i64 0,.bool true,.nils,.nils,.int .i64 0]],.int .i64 1,.nils]):=by
 refine ZF tK (Tryz.func35) rfl (λC=>?_);simp only[Tryz.ntmps35,Tryz.results35,go_sem];refine wG tK ?_;refine ZZ 2 rfl (rfl) ?_;simp only[go_sem];refine wT ?_;rfl
theorem tX:ae Tryz.prog 35 [] [] (λr _=>r=.agg (ZQ ⟨[eT],1,[]⟩)):=ae.ie rP rfl
def zJ:Wor:=⟨⟨[],0,[]⟩,[]⟩
def qM (rooms:List Int):AV:=.tup [.agg (bo (if bc rooms=0 then fJ rooms else zJ)),.int .i64 (bc rooms)]
theorem qL (rooms:List Int) (i:Nat):eS rooms (i+1)=eS rooms i++[lG (i:Int) (rooms.getD i 0)]:=by
 unfold eS;rw[List.range_succ,List.map_append];rfl
theorem sP (rooms:List Int) (i:Nat):(eS rooms i).length=i:=by unfold eS;simp
theorem vW (rooms:List Int) (hr:rooms.length≤100000000):ae Tryz.prog 18 [.sl (rooms.map ZI)] [] (λr _=>r=qM rooms):=by
 have hns:=tX;unfold ZQ at hns;have hsu:=qL rooms;have hle:=sP rooms;have h0:eS rooms 0=[]:=rfl;have hW:qM rooms=.tup [.agg (bo (if bc rooms=0 then ⟨Hl,eS rooms rooms.length⟩ else zJ)),.int .i64 (bc rooms)]:=rfl;have hE:bc rooms=if rooms.length<1\/3<rooms.length then 5 else if rooms.all (λn=>decide (3≤n)&&decide (n≤24)) then 0 else 3:=rfl;rw[hW];generalize bc rooms=E at *;generalize eS rooms=P at *;clear hW;refine ZF tK (Tryz.func18) rfl (λC=>?_);simp only[Tryz.ntmps18,Tryz.results18,go_sem];refine wR ?_;refine wN tK 2 ?_;refine wR ?_;refine wN tK 8 ?_;refine aV 14 z6 (λc14 h14=>?_);simp only[go_sem];have hc:c14=true↔(rooms.length<1\/3<rooms.length):=by
  rw[←h14]
  by_cases h1:rooms.length<1
  ·simp[h1];omega
  ·simp[h1];omega
 clear h14;refine wG tK ?_
 by_cases hb:rooms.length<1\/3<rooms.length
 ·rw[if_pos hb] at hE;subst hE;refine wDT (hb:=(hc.2 hb)) (hk:=?_);refine wG tK ?_;refine ay (bl 2) ?_;simp only[go_sem];refine wT ?_;rfl
 ·rw[if_neg hb] at hE;refine wDF (hb:=(by simpa using λh0=>hb (hc.1 h0))) (hk:=?_);refine wG tK ?_;refine wC Tryz.func35 (hf:=(hns)) (hk:=?_);refine wG tK ?_;refine ay (le_empty 38 47 10 z8) ?_;simp only[go_sem];refine ay (kN 4 ([[.sl ([eT].map ZN),.int .i64 1,.sl [],.osl 38 10 0 0]]) z6 Za) ?_;simp only[go_sem];refine ZL (λi:Nat=>i≤rooms.length/\(rooms.take i).all (λn=>decide (3≤n)&&decide (n≤24))=true) (λi=>rooms.length-i) (λi=>(5,.any)::(6,.any)::(20,.int .i64 i)::u0 21 21 [])
   (λi=>[(4,.cells 35 4 [[.sl ([eT].map ZN),.int .i64 1,.sl [],.osl 38 10 0 (P i).length]]),(38,.cells 47 10 ((P i).map ZC))]) 0 ⟨by omega,rfl⟩ ?_ λi hi=>?_
  ·rw[h0];simp only[go_sem];exact ZU w1 w1 w1
  obtain ⟨hi,hall⟩:=hi;simp only[go_sem];refine wG tK ?_;refine wD (λh=>?_) (λh=>?_)
  ·have hlt:i<rooms.length:=by simp at h;omega
   have hg:(rooms.map ZI).getD i []=[.int .i64 (rooms.getD i 0)]:=by
    rw[Zo,Zr,Zo,Zp hlt];rfl
   have how':=wi1 (i:=i) z7;have hs1:=hsu i;have hl1:=hle i;have htk:rooms.take (i+1)=rooms.take i++[rooms.getD i 0]:=by
    rw[List.take_add_one,Zo,Zp hlt];rfl
   generalize hn:rooms.getD i 0=n at *;generalize P i=Q at *;have htq:List.take Q.length (Q.map ZC)=Q.map ZC:=Zt w7;refine wR ?_;refine wNq tK 5 ?_ ?_ z6 z6 x6
   ·simp[hg,hlt]
   refine wR ?_;refine wN tK 6 ?_;refine aV 30 z6 (λc30 h30=>?_);simp only[go_sem];have hc3:c30=true↔¬(3≤n/\n≤24):=by
    rw[←h30]
    by_cases h1:n<3
    ·simp[h1];omega
    ·simp[h1];omega
   clear h30;refine wG tK ?_
   by_cases hok:3≤n/\n≤24
   ·refine wDF (hb:=(by simpa using λh0=>hc3.1 h0 hok)) (hk:=?_);refine wR ?_;refine wN tK 5 ?_;refine ay (zf 36 z6 (by simp only[go_sem,pf];exact rfl)) ?_;simp only[go_sem];refine ay (bK 38 4 z6 k6) ?_;refine wGq tK ?_ ?_ y7
    ·simp[htq,refs]
     first | exact ⟨by intro row h;simp at h;subst h;rfl,by omega⟩ | omega
    refine ZB ⟨i+1,⟨by omega,by rw[htk,List.all_append,hall];simp[hok]⟩,by omega,ZU ?_ ?_ ?_⟩
    ·simp[go_sem]
    ·simp[go_sem,hs1,htq,ZC,lG]
    ·simp[go_sem]
   ·have hE3:E=3:=by
     rw[hE,if_neg];simp only[List.all_eq_true,Bool.and_eq_true,decide_eq_true_eq];intro hx;have:=hx n (by rw[←hn,Zo,Zp hlt];exact WR _);exact hok this
    subst hE3;refine wDT (hb:=(hc3.2 hok)) (hk:=?_);refine wG tK ?_;refine ay (bl 2) ?_;simp only[go_sem];refine wT ?_;rfl
  ·have e:i=rooms.length:=by simp at h;omega
   subst e;rw[Zy] at hall;rw[if_pos hall] at hE;subst hE;have hl1:=hle rooms.length;generalize P rooms.length=Q at *;have htq:List.take Q.length (Q.map ZC)=Q.map ZC:=Zt w7;refine wR ?_;refine ZZ 38 rfl (gT _) ?_;simp only[go_sem,htq];refine wG tK ?_;refine wT ?_;rfl
structure StepsOK (l:List Step):Prop where
 len:l.length≤1400000
 path:∀x,x∈l->x.path.length≤10000000/\x.toPath.length≤10000000
variable {Fa:Prop}
theorem mh (d:List Hoard) (hd:d.length≤100000000):ae Tryz.prog 70 [.sl (d.map ZJ)] [] (λr _=>r=.sl (d.map ZJ)):=by
 refine ZF tK (Tryz.func70) rfl (λC=>?_);simp only[Tryz.ntmps70,Tryz.results70,go_sem];refine wG tK ?_;refine jN tK rfl rfl rfl j6 j6 (λb hb=>?_);simp only[go_sem];refine wG tK ?_;refine wD (λh=>?_) (λh=>?_)
 ·refine wG tK ?_;refine iX ⟨_,_,z8,by simp[go_sem],.sl [],.inr (.inr ⟨rfl,.inl rfl⟩),?_⟩;rw[hb h]
 ·refine wGq tK ?_ ?_
  ·simp;omega
  refine ZZ 7 rfl (fo _) ?_;simp only[go_sem];refine wT ?_;simp
structure SmallC (c:Cli):Prop where
 cache:SmallK c.cache
 log:SmallL c.log
 repair:SmallL c.repair
 hoards:c.hoards.length≤100000000
theorem CInvF.il {B T:Nat} {s:Srv} {c:Cli} (h:CInvF Fa B T s c) (hB:B≤40000000):SmallC c where
 cache:=⟨by have:=h.len;have:=h.room;omega,λk hk=>⟨by have:=h.data k hk;omega,by have:=h.ent k hk;omega⟩⟩
 log:=⟨by have:=h.log;omega,λr hr=>by unfold Act.Small;have:=(h.logS r hr).data;omega⟩
 repair:=⟨by have:=h.rep;omega,λr hr=>by unfold Act.Small;have:=(h.repS r hr).data;omega⟩
 hoards:=by have:=h.hoards;omega
theorem tB (c:Cli) (h:SmallC c):ae Tryz.prog 41 [.agg (ZC c)] [] (λr _=>r=.agg (ZC c)):=by
 have h1:=pA c.cache h.cache;have h2:=iH c.log h.log;have h3:=iH c.repair h.repair;have h4:=mh c.hoards h.hoards;unfold ZC;refine ZF tK (Tryz.func41) rfl (λC=>?_);simp only[Tryz.ntmps41,Tryz.results41,go_sem];refine wG tK ?_;refine ZW ZM ?_;refine ZS rfl ?_;refine sN tK 2 ?_;refine sC Tryz.func68 (hf:=(h1)) (hk:=?_);refine sN tK 2 ?_;refine sC Tryz.func69 (hf:=(h2)) (hk:=?_);refine sN tK 2 ?_;refine sC Tryz.func69 (hf:=(h3)) (hk:=?_);refine sN tK 2 ?_;refine sC Tryz.func70 (hf:=(h4)) (hk:=?_);refine sN tK 1 ?_;refine sT tK ?_;refine sN tK 1 ?_;refine sT tK ?_;refine sN tK 1 ?_;refine sT tK ?_;refine sN tK 1 ?_;refine sT tK ?_;refine sE ?_;refine wKd ?_
 try simp only[go_sem,gA,gB,gC]
 refine wG tK ?_;refine wT ?_;rfl
theorem yd {p:List Past} {t:List Node} (h:Hist p t) (hlen:p.length≤90000000):ae Tryz.prog 83 [.sl (p.map ZP)] [] (λr _=>r=.tup [.sl (t.map ZN),.int .i64 0]):=by
 obtain ⟨st,h0,h1,h2⟩:=h.st;rw[←h1];exact AK p st hlen h0 h2
structure RightC (t:List Node) (c:Cli):Prop where
 room:(c.cache.length:Int)≤c.room
 log:c.away=false->c.log=[]
 here:c.away=false->∀k,k∈c.cache->k.dirty=false/\k.node∈t
 small:SmallC c
theorem CZ {p:List Past} {t:List Node} (h:Hist p t) (hlen:p.length≤90000000) (n:Int) (cs:List Cli) (hcl:cs.length≤1000) (hc:∀c,c∈cs->RightC t c) :
  ae Tryz.prog 44 [.agg (bo ⟨⟨t,n,p⟩,cs⟩)] [] (λr _=>r=.bool true):=by
 have h1:=yd h hlen;have hts:=h.bW.small;have h2:=gZ t t hts hts;rw[qZ] at h2;have hup:=h.bW.up;unfold bo;refine ZF tK (Tryz.func44) rfl (λC=>?_);simp only[Tryz.ntmps44,Tryz.results44,go_sem];refine wG tK ?_;refine wC Tryz.func83 (hf:=(h1)) (hk:=?_);refine wG tK ?_;refine wCC Tryz.func84 (hf:=λhb=>(h2)) (hk:=?_);refine wG tK ?_;refine wDF (hb:=(rfl)) (hk:=?_);refine wG tK ?_;refine ZL (λi:Nat=>i≤cs.length) (λi=>cs.length-i) (λi=>(6,.any)::(8,.any)::(9,.any)::(10,.any)::(31,.int .i64 i)::u0 32 68 []) (λ_=>[]) 0 z7 ?_ λi hi=>?_
 ·simp only[go_sem];exact ZU w1 w1 w1
 simp only[go_sem];refine wG tK ?_;refine wD (λh=>?_) (λh=>?_)
 ·have hlt:i<cs.length:=by simp at h;omega
  have hg:(cs.map ZC).getD i []=ZC (cs.getD i default):=Fam.getD hlt;have how':=wi1 (i:=i) z7;have hci:=hc (cs.getD i default) (YG hlt);generalize cs.getD i default=c at *;have hown:=tB c hci.small;have hroom:=hci.room;have hklen:=hci.small.cache.len;refine wR ?_;refine wNq tK 4 ?_ ?_ z6 z6 v8
  ·simp[hg,ZC,hlt]
  refine wR ?_;refine wN tK 7 ?_;refine aV 41 z6 (λc41 h41=>?_);simp only[go_sem];have hc41:c41=false:=by rw[←h41];simp;omega
  subst hc41;clear h41;unfold ZC at hown;cases haw:c.away with
  | true=>
   rw[haw] at hown;refine wG tK ?_;refine wDF (hb:=(rfl)) (hk:=?_);refine wG tK ?_;refine wC Tryz.func41 (hf:=(hown)) (hk:=?_);refine wG tK ?_;refine ZL (λq:Nat=>q≤c.cache.length) (λq=>c.cache.length-q) (λq=>(8,.any)::(9,.any)::(10,.any)::(56,.int .i64 q)::u0 57 42 []) (λ_=>[]) 0 z7 ?_ λq hq=>?_
   ·simp only[go_sem];exact ZU w1 w1 w1
   simp only[go_sem];refine wG tK ?_;refine wD (λh=>?_) (λh=>?_)
   ·have hltq:q<c.cache.length:=by simp at h;omega
    have hgq:(c.cache.map ZK).getD q []=ZK (c.cache.getD q default):=Fam.getD hltq;have howq:IntKind.i64.wrap ((q:Int)+1)=((q+1:Nat):Int):=by rw[Eng.wrap_small z7 z7];rfl
    generalize c.cache.getD q default=k at *;have hfd:=cA t k.node.fid hts;unfold eu at hfd;refine wGq tK ?_ ?_ (by simp only[go_sem,hgq,ZK];try exact rfl)
    ·simp[hgq,ZK,hltq]
    refine wC Tryz.func82 (hf:=(hfd)) (hk:=?_);refine wGq tK ?_ ?_ (by simp only[go_sem,ZN,howq];try exact rfl)
    ·simp[ZN]
    refine fj (.bool false) rfl ?_;simp only[go_sem];refine wG tK ?_;refine wDF (hb:=(rfl)) (hk:=?_);refine wG tK ?_ (by simp only[go_sem,howq];try exact rfl) (by simp[go_sem,howq]);refine ZB ⟨q+1,by omega,by omega,ZU ?_ ?_ ?_⟩
    ·simp[go_sem]
    ·simp[go_sem]
    ·simp[go_sem]
   ·refine wG tK ?_ y7 j8;refine ZB ⟨i+1,by omega,by omega,ZU ?_ ?_ ?_⟩
    ·simp[go_sem]
    ·simp[go_sem]
    ·simp[go_sem]
  | false=>
   have hlog:=hci.log haw;have hhere:=hci.here haw;rw[haw] at hown;rw[hlog] at hown ⊢;refine wG tK ?_;refine wDF (hb:=(rfl)) (hk:=?_);refine wG tK ?_;refine wC Tryz.func41 (hf:=(hown)) (hk:=?_);refine wG tK ?_;refine ZL (λq:Nat=>q≤c.cache.length) (λq=>c.cache.length-q) (λq=>(8,.any)::(9,.any)::(10,.any)::(56,.int .i64 q)::u0 57 42 []) (λ_=>[]) 0 z7 ?_ λq hq=>?_
   ·simp only[go_sem];exact ZU w1 w1 w1
   simp only[go_sem];refine wG tK ?_;refine wD (λh=>?_) (λh=>?_)
   ·have hltq:q<c.cache.length:=by simp at h;omega
    have hgq:(c.cache.map ZK).getD q []=ZK (c.cache.getD q default):=Fam.getD hltq;have howq:IntKind.i64.wrap ((q:Int)+1)=((q+1:Nat):Int):=by rw[Eng.wrap_small z7 z7];rfl
    have hkm:c.cache.getD q default∈c.cache:=YG hltq;generalize c.cache.getD q default=k at *;obtain ⟨hkd,hkt⟩:=hhere k hkm;have hks:=hts.each k.node hkt;have hfk:al t k.node.fid=some k.node:=(ZO hup).2 ⟨hkt,rfl⟩;have hat:bn t k.node.fid=true:=by
     cases e:bn t k.node.fid with
     | true=>rfl
     | false=>rw[qh e] at hfk;cases hfk
    have hfd:=cA t k.node.fid hts;unfold eu at hfd;rw[hfk,hat] at hfd;simp only[Option.getD_some] at hfd;have hsn:=gZ [k.node] [k.node] (cu hks) (cu hks);rw[qZ] at hsn;simp only[List.map_cons,List.map_nil] at hsn;unfold ZN at hsn;refine wGq tK ?_ ?_ (by simp only[go_sem,hgq,ZK];try exact rfl)
    ·simp[hgq,ZK,hltq]
    refine wC Tryz.func82 (hf:=(hfd)) (hk:=?_);refine wNq tK 6 ?_ ?_ z6 z6 w3
    ·simp[ZN]
    refine wR ?_;refine wN tK 4 ?_;refine wN tK 4 ?_ z6 z6 w9 y8;refine wN tK 4 ?_ z6 z6 w9 y8;refine wN tK 5 ?_ z6 z6 w9 y8;refine wN tK 1 ?_ z6 z6 w9 y8;refine wN tK 1 ?_ z6 z6 w9 y8;refine wN tK 1 ?_ z6 z6 w9 y8;refine wN tK 1 ?_ z6 z6 w9 y8;refine wN tK 1 ?_ z6 z6 w9 y8;refine wN tK 1 ?_ z6 z6 w9 y8;refine wN tK 1 ?_ z6 z6 w9 y8;refine ZZ 90 rfl (rfl) ?_;refine ZZ 93 rfl (rfl) ?_;simp only[go_sem];refine wCC Tryz.func84 (hf:=λhb=>(hsn)) (hk:=?_);refine wG tK ?_;refine wDF (hb:=(by simp[hkd])) (hk:=?_);refine wG tK ?_ (by simp only[go_sem,howq];try exact rfl) (by simp[go_sem,howq]);refine ZB ⟨q+1,by omega,by omega,ZU ?_ ?_ ?_⟩
    ·simp[go_sem]
    ·simp[go_sem]
    ·simp[go_sem]
   ·refine wG tK ?_ y7 j8;refine ZB ⟨i+1,by omega,by omega,ZU ?_ ?_ ?_⟩
    ·simp[go_sem]
    ·simp[go_sem]
    ·simp[go_sem]
 ·refine wG tK ?_;refine wT ?_;rfl
theorem nw (id:Nat) (x:Cli):∀y,y∈ZC x->¬id∈refs y:=λy hy=>by
 have:=List.all_eq_true.1 (List.all_eq_true.1 (tx id [x]) (ZC x) w7) y hy;simpa using this
def ah (f:Fate):List AV:=[.int .i64 f.step,.int .i64 f.client,.int .i64 f.kind,.int .i64 f.whr]
def bq (k:Nat):List AV:=[.int .i64 k]
def aD (l:List Nat):List AV:=[.sl (l.map bq)]
theorem jU:Fam ah 4:=⟨λ_=>rfl,λ_=>rfl,λ_=>rfl,λ_=>rfl⟩
@[go_sem,simp] theorem tH (l:List _):((l.map ah).all λrow=>row.all AV.aX)=true:=jU.dX l
@[go_sem,simp] theorem rM (id:Nat) (l:List _):((l.map ah).all λrow=>row.all λx=>!(refs x).contains id)=true:=jU.iJ id l
@[go_sem,simp] theorem Dw (e s:Nat) (l:List _):au (.cells e s (l.map ah))=[]:=jU.au e s l
@[go_sem,simp] theorem Ev (id s:Nat) (rows:List (List AV)) (l:List _):(l.map ah).map (cm id s rows)=l.map ah:=Fam.cm (λ_ _ _ _=>rfl) id s rows l
theorem qb (id:Nat) (x:_):∀y,y∈ah x->¬id∈refs y:=λy hy=>by
 have:=List.all_eq_true.1 (List.all_eq_true.1 (rM id [x]) (ah x) w7) y hy;simpa using this
theorem lz:Fam bq 1:=⟨λ_=>rfl,λ_=>rfl,λ_=>rfl,λ_=>rfl⟩
@[go_sem,simp] theorem vT (l:List _):((l.map bq).all λrow=>row.all AV.aX)=true:=lz.dX l
@[go_sem,simp] theorem tW (id:Nat) (l:List _):((l.map bq).all λrow=>row.all λx=>!(refs x).contains id)=true:=lz.iJ id l
@[go_sem,simp] theorem E1 (e s:Nat) (l:List _):au (.cells e s (l.map bq))=[]:=lz.au e s l
@[go_sem,simp] theorem GF (id s:Nat) (rows:List (List AV)) (l:List _):(l.map bq).map (cm id s rows)=l.map bq:=Fam.cm (λ_ _ _ _=>rfl) id s rows l
theorem Ax (id:Nat) (x:_):∀y,y∈bq x->¬id∈refs y:=λy hy=>by
 have:=List.all_eq_true.1 (List.all_eq_true.1 (tW id [x]) (bq x) w7) y hy;simpa using this
theorem ly:Fam aD 1:=⟨λ_=>rfl,λ_=>rfl,λ_=>rfl,λ_=>rfl⟩
@[go_sem,simp] theorem ER (id:Nat) (l:List _):((l.map aD).all λrow=>row.all λx=>!(refs x).contains id)=true:=ly.iJ id l
@[go_sem,simp] theorem ES (e s:Nat) (l:List _):au (.cells e s (l.map aD))=[]:=ly.au e s l
@[go_sem,simp] theorem vJ (id s:Nat) (rows:List (List AV)) (l:List _):(l.map aD).map (cm id s rows)=l.map aD:=Fam.cm (λ_ _ _ _=>rfl) id s rows l
@[go_sem,simp] theorem tU (a):av (aD a)=[]:=ly.free a
def bkB (b:Bk):List (Nat×Blk):=[(30,.cells 40 1 (b.logs.map aD)),(901,.cells 76 4 (b.fates.map ah)),(32,.cells 103 2 [[.osl 901 4 0 b.fates.length,.osl 30 1 0 b.logs.length]])]
def bkH (b:Bk) (G Y N:Nat->Nat):List (Nat×Blk):=bkB b++pins [32] G Y N
def lb (step:Int) (ps:List Past) (fs:List Fate) (i:Nat):List Fate:=fs++(ps.take i).map λp=>(⟨step,p.client,p.act.kind,1⟩:Fate)
theorem zZ {step:Int} {ps:List Past} {fs:List Fate} {i:Nat} (h:i≤ps.length):(lb step ps fs i).length=fs.length+i:=by unfold lb;simp;omega
theorem xE {step:Int} {ps:List Past} {fs:List Fate} {i:Nat} (h:i<ps.length):lb step ps fs (i+1)=lb step ps fs i++[⟨step,(ps.getD i default).client,(ps.getD i default).act.kind,1⟩]:=by
 unfold lb;rw[ZT h,List.map_append,WT];rfl
theorem Ao (b:Bk) (step:Int) (ps:List Past) (hp:ps.length≤100000000) (hb:b.fates.length≤100000000) (G Y N:Nat->Nat):ae Tryz.prog 48 [.ptr 32 2 0 0,.int .i64 step,.sl (ps.map ZP)] (bkH b G Y N) (λr H=>r=.tup []/\Holds (bkH (gq step ps b) G Y N) H):=by
 obtain ⟨fs,lg⟩:=b;simp only at hb;have hE:gq step ps ⟨fs,lg⟩=⟨lb step ps fs ps.length,lg⟩:=by unfold gq lb;rw[Zy]
 have hW0:lb step ps fs 0=fs:=by unfold lb;simp
 have hWl:=λi=>@zZ step ps fs i
 have hWs:=λi=>@xE step ps fs i
 rw[hE];generalize lb step ps fs=W at *;unfold bkH bkB;refine ZF tK (Tryz.func48) rfl (λC=>?_);simp only[Tryz.ntmps48,Tryz.results48,go_sem];refine wG tK ?_;refine ay (nT 901 27 32 z6 z8 z8 z6 j0 j0 rfl z8 j7 j7) ?_;refine ZL (λi:Nat=>i≤ps.length) (λi=>ps.length-i) (λi=>(7,.any)::(10,.int .i64 i)::u0 11 20 [])
  (λi=>[(27,.cells 76 4 ((W i).map ah)),(32,.cells 103 2 [[.osl 27 4 0 (W i).length,.osl 30 1 0 lg.length]])]) 0 z7 ?_ λi hi=>?_
 ·rw[hW0];simp only[go_sem];exact ZU w1 w1 w1
 simp only[go_sem];refine wG tK ?_;refine wD (λh=>?_) (λh=>?_)
 ·have hlt:i<ps.length:=by simp at h;omega
  have how':=wi1 (i:=i) z7;have hg:(ps.map ZP).getD i []=ZP (ps.getD i default):=Fam.getD hlt;have hl1:=hWl i hi;have hs1:=hWs i hlt;generalize ps.getD i default=p at *;generalize W i=Q at *;have htq:List.take Q.length (Q.map ah)=Q.map ah:=Zt w7;refine wGq tK ?_ ?_ Qb
  ·simp[hg,ZP,hlt]
  refine ZW ZM ?_;refine jP 0 [1,2,3,4,5,6,7,8,9,10,11,12,13,14,15,16] [0,0,1,2,3,4,5,6,7,8,9,10,11,12,13,14,15] rfl rfl rfl (λ_ _ _ h=>h) w8 w8 Zg z8 ?_
  try simp only[go_sem,gA,gB,gC]
  refine ZS rfl ?_;refine sN tK 10 ?_;refine sB tK ?_;refine sW tK ?_;refine sE ?_;refine fT (bK 27 32 z6 k6) ?_;simp only[go_sem];refine dSq tK ?_ ?_
  ·simp[go_sem,rowsOf,htq,refs];exact ⟨by omega,λx _=>qb _ x⟩
  simp only[go_sem];refine dS tK ?_;refine dS tK ?_;refine dS tK ?_;refine wKd ?_
  try simp only[go_sem,gA,gB,gC]
  refine wG tK ?_ y7 j8;refine ZB ⟨i+1,by omega,by omega,ZU ?_ ?_ ?_⟩
  ·simp[go_sem]
  ·simp[go_sem,hs1,htq,ah]
  ·simp[go_sem]
 ·have e:i=ps.length:=by simp at h;omega
  subst e;refine wG tK ?_;refine ay (nT 27 901 32 z6 z8 z8 z6 j0 j0 rfl z8 j7 j7) ?_;refine fF ⟨_,_,rfl,trivial,.tup [],.inr (.inl rfl),rfl,?_⟩;simp only[pins,List.cons_append,List.nil_append,List.map_cons,List.map_nil]
  repeat' refine ZH ?_ ?_
  all_goals first | exact YH _ | rfl | simp[go_sem]
theorem pO:∀(l:List Nat) (vs:List Verdict) (fs:List Fate) (k:Nat) (v:Verdict),l.length=vs.length->bI (l++[k]) (vs++[v]) fs=dV (bI l vs fs) k (if v.err=0 then 1 else 3)
 | [],[],fs,k,v,_=>rfl
 | j::l,u::vs,fs,k,v,h=>by
  simp only[List.cons_append,bI];exact pO l vs _ k v j5
theorem ra (fs:List Fate) (k:Nat) (w:Int):(dV fs k w).length=fs.length:=by unfold dV;rw[WD]
theorem nq:∀(l:List Nat) (vs:List Verdict) (fs:List Fate),(bI l vs fs).length=fs.length
 | [],_,fs=>by cases ‹List Verdict›<;>rfl
 | k::l,[],fs=>rfl
 | k::l,v::vs,fs=>by unfold bI;rw[nq l vs,ra]
theorem fU (fs:List Fate) (k:Nat) (w:Int):(dV fs k w).map ah=(fs.map ah).set k [.int .i64 (fs.getD k default).step,.int .i64 (fs.getD k default).client,.int .i64 (fs.getD k default).kind,.int .i64 w]:=by
 unfold dV;rw[List.map_set];rfl
theorem AY (fs:List Fate) (k:Nat) (u w:Int) (hk:k<fs.length):dV (dV fs k u) k w=dV fs k w:=by
 unfold dV;rw[List.set_set,Zo,List.getElem?_set_self hk];rfl
def rF (ks:List Nat) (vs:List Verdict) (fs:List Fate) (i:Nat):List Fate:=bI (ks.take i) (vs.take i) fs
theorem zM {ks:List Nat} {vs:List Verdict} {fs:List Fate} {i:Nat} (h:i<vs.length) (hk:vs.length≤ks.length):rF ks vs fs (i+1)=dV (rF ks vs fs i) (ks.getD i 0) (if (vs.getD i default).err=0 then 1 else 3):=by
 unfold rF;have e:ks.take (i+1)=ks.take i++[ks.getD i 0]:=by
  rw[List.take_add_one,Zo,Zp z7];rfl
 rw[e,ZT h,pO _ _ _ _ _ y9]
theorem pP:∀(ks:List Nat) (vs:List Verdict) (fs:List Fate),bI (ks.take vs.length) vs fs=bI ks vs fs
 | [],vs,fs=>by rw[List.take_nil]
 | k::ks,[],fs=>rfl
 | k::ks,v::vs,fs=>by
  show bI (ks.take vs.length) vs _=bI ks vs _
  exact pP ks vs _
theorem By (ks:List Nat) (vs:List Verdict) (fs:List Fate):rF ks vs fs vs.length=bI ks vs fs:=by
 unfold rF;rw[Zy];exact pP ks vs fs
theorem vL (l:List (List Nat)):(l.map aD).map (λrow=>row.map pf)=l.map aD:=by
 rw[WX];exact Wg λx _=>by simp[aD,pf]
theorem Cm (b:Bk) (c:Nat) (vs:List Verdict) (hc:c<b.logs.length) (hl:b.logs.length≤100000000) (hv:vs.length≤(b.logs.getD c []).length) (hv2:vs.length≤100000000) (hk:∀k,k∈b.logs.getD c []->k<b.fates.length) (hb:b.fates.length≤100000000) (G Y N:Nat->Nat) :
  ae Tryz.prog 46 [.ptr 32 2 0 0,.int .i64 c,.sl (vs.map ZV)] (bkH b G Y N) (λr H=>r=.tup []/\Holds (bkH (oq c vs b) G Y N) H):=by
 obtain ⟨fs,lg⟩:=b;simp only at hc hl hv hk hb;have hE:oq c vs ⟨fs,lg⟩=⟨rF (lg.getD c []) vs fs vs.length,lg.set c []⟩:=by rw[By];rfl
 have hgl:(lg.map aD).getD c []=aD (lg.getD c []):=by
  rw[Zo,Zr,Zo,Zp hc];rfl
 rw[hE];have hsl:(lg.set c []).map aD=(lg.map aD).set c [.sl []]:=by rw[List.map_set];rfl
 have hll:(lg.set c []).length=lg.length:=WD;generalize lg.set c []=lg2 at *;generalize lg.getD c []=ks at *;have hW0:rF ks vs fs 0=fs:=by unfold rF;rw[List.take_zero,List.take_zero];rfl
 have hWl:∀i,(rF ks vs fs i).length=fs.length:=λi=>nq _ _ _
 have hWs:=λi=>@zM ks vs fs i
 generalize rF ks vs fs=W at *;unfold bkH bkB;refine ZF tK (Tryz.func46) rfl (λC=>?_);simp only[Tryz.ntmps46,Tryz.results46,go_sem];refine wG tK ?_;refine ZL (λi:Nat=>i≤vs.length) (λi=>vs.length-i) (λi=>(6,.any)::(7,.any)::(10,.int .i64 i)::u0 11 40 [])
  (λi=>[(901,.cells 76 4 ((W i).map ah))]) 0 z7 ?_ λi hi=>?_
 ·rw[hW0];simp only[go_sem];exact ZU w1 w1 w1
 simp only[go_sem];refine wG tK ?_;refine wD (λh=>?_) (λh=>?_)
 ·have hlt:i<vs.length:=by simp at h;omega
  have how':=wi1 (i:=i) z7;have hg:(vs.map ZV).getD i []=ZV (vs.getD i default):=Fam.getD hlt;have hWl0:=hWl i;have hWs1:=hWs i hlt hv;have hgk:(ks.map bq).getD i []=bq (ks.getD i 0):=by
   rw[Zo,Zr,Zo,Zp z7];rfl
  have hkk:ks.getD i 0<fs.length:=hk _ (by rw[Zo,Zp z7];exact WR _);have hki:i<ks.length:=by omega
  generalize ks.getD i 0=k at *;generalize vs.getD i default=v at *;generalize W i=F at *;have hgf:(F.map ah).getD k []=ah (F.getD k default):=Fam.getD z7;have hs1:=fU F k 1;have hs3:=fU F k 3;have hlen1:=ra F k 1;have hkF:k<F.length:=by omega
  generalize F.getD k default=f at *;refine wGq tK ?_ ?_ (by simp only[go_sem,hg,ZV];try exact rfl)
  ·simp[hg,ZV,hlt]
  refine ZW ZM ?_;refine ZS rfl ?_;refine sNq tK 16 ?_ ?_ z6 z6 Qn
  ·simp[hgl,hgk,hgf,aD,bq,ah,hc,hki,hkF,hkk,hWl0]
  refine cY tK rfl rfl z8 z8 z8 u2 z6 ?_ z6 z6 z6 ?_
  ·simp[hgl,hgk,hgf,aD,bq,ah,hc,hki,hkF,hkk,hWl0]
  refine sE ?_;refine wKd ?_
  try simp only[go_sem,gA,gB,gC]
  simp only[go_sem,hgf,ah,List.set_cons_succ,List.set_cons_zero,←hs1];refine wG tK ?_
  by_cases he:v.err=0
  ·rw[if_pos he] at hWs1;refine wDF (hb:=QG) (hk:=?_);refine wG tK ?_ y7 j8;refine ZB ⟨i+1,by omega,by omega,ZU ?_ ?_ ?_⟩
   ·simp[go_sem]
   ·simp[go_sem,hWs1]
   ·simp[go_sem]
  ·rw[if_neg he] at hWs1;have h33:=AY F k 1 3 hkF;generalize dV F k 1=F1 at *;have hkF1:k<F1.length:=by omega
   have hgf1:(F1.map ah).getD k []=ah (F1.getD k default):=Fam.getD z7;have hs31:=fU F1 k 3;rw[h33] at hs31;generalize F1.getD k default=f1 at *;refine wDT (hb:=QG) (hk:=?_);refine wG tK ?_;refine ZW ZM ?_;refine ZS rfl ?_;refine sNq tK 16 ?_ ?_ z6 z6 (by simp only[go_sem,hgl,hgk,hgf1,aD,bq,ah];try exact rfl)
   ·simp[hgl,hgk,hgf1,aD,bq,ah,hc,hki,hkF1,hkk,hlen1,hWl0]
   refine cY tK rfl rfl z8 z8 z8 u2 z6 ?_ z6 z6 z6 ?_
   ·simp[hgl,hgk,hgf1,aD,bq,ah,hc,hki,hkF1,hkk,hlen1,hWl0]
   refine sE ?_;refine wKd ?_
   try simp only[go_sem,gA,gB,gC]
   simp only[go_sem,hgf1,ah,List.set_cons_succ,List.set_cons_zero,←hs31];refine wG tK ?_ y7 j8;refine ZB ⟨i+1,by omega,by omega,ZU ?_ ?_ ?_⟩
   ·simp[go_sem]
   ·simp[go_sem,hWs1]
   ·simp[go_sem]
 ·have e:i=vs.length:=by simp at h;omega
  subst e;refine wGq tK ?_ ?_ (by simp only[go_sem,hgl,aD];try exact rfl)
  ·simp[hc]
  refine ay (bl 30 z6 rfl) ?_;simp only[go_sem,List.map_set,vL,List.map_cons,List.map_nil,List.set_cons_zero,pf,←hsl];refine fF ⟨_,_,rfl,trivial,.tup [],.inr (.inl rfl),rfl,?_⟩;rw[hll,hWl];simp only[pins,List.cons_append,List.nil_append,List.map_cons,List.map_nil]
  repeat' refine ZH ?_ ?_
  all_goals first | exact YH _ | rfl | simp[go_sem]
end La
namespace La
open Go Go.Eng
theorem pX (now:List Rec):∀(l:List Nat) (rs:List Rec) (fs:List Fate) (k:Nat) (r:Rec),l.length=rs.length->bu now (l++[k]) (rs++[r]) fs=if (now.any λx=>x.id==r.id)=true then bu now l rs fs else dV (bu now l rs fs) k 4
 | [],[],fs,k,r,_=>rfl
 | j::l,u::rs,fs,k,r,h=>by
  simp only[List.cons_append,bu];exact pX now l rs _ k r j5
theorem nD (now:List Rec):∀(l:List Nat) (rs:List Rec) (fs:List Fate),(bu now l rs fs).length=fs.length
 | [],_,fs=>by cases ‹List Rec›<;>rfl
 | k::l,[],fs=>rfl
 | k::l,r::rs,fs=>by
  unfold bu;rw[nD now l rs];split
  ·rfl
  ·exact ra _ _ _
def rJ (now:List Rec) (ks:List Nat) (rs:List Rec) (fs:List Fate) (i:Nat):List Fate:=bu now (ks.take i) (rs.take i) fs
theorem BU (now:List Rec) (ks:List Nat) (rs:List Rec) (fs:List Fate) (i:Nat):(rJ now ks rs fs i).length=fs.length:=nD _ _ _ _
theorem zR {now:List Rec} {ks:List Nat} {rs:List Rec} {fs:List Fate} {i:Nat} (h:i<rs.length) (hk:rs.length≤ks.length):rJ now ks rs fs (i+1)=if (now.any λx=>x.id==(rs.getD i default).id)=true then rJ now ks rs fs i else dV (rJ now ks rs fs i) (ks.getD i 0) 4:=by
 unfold rJ;have e:ks.take (i+1)=ks.take i++[ks.getD i 0]:=by
  rw[List.take_add_one,Zo,Zp z7];rfl
 rw[e,ZT h,pX _ _ _ _ _ _ y9]
theorem BT {now:List Rec} {ks:List Nat} {rs:List Rec} {fs:List Fate} (hk:ks.length=rs.length):rJ now ks rs fs rs.length=bu now ks rs fs:=by
 unfold rJ;rw[Zy,Zt z7]
theorem Ay (step c:Int) (n:Nat):dE step c (n+1)=dE step c n++[⟨step,c,4,4⟩]:=by
 unfold dE;rw[List.replicate_succ',]
theorem vU (step c:Int) (n:Nat):(dE step c n).length=n:=by unfold dE;exact Wk
def E7 (was:Cli) (ks:List Nat) (n:Nat) (r:Rec) (fs:List Fate):List Fate:=fs.set (cr was ks n r.id) { fs.getD (cr was ks n r.id) default with kind:=r.act.kind,whr:=2 }
theorem sQ (was:Cli) (ks:List Nat) (n:Nat):∀(l:List Rec) (r:Rec) (fs:List Fate),fz was ks n (l++[r]) fs=E7 was ks n r (fz was ks n l fs)
 | [],r,fs=>rfl
 | x::l,r,fs=>by
  simp only[List.cons_append,fz];exact sQ was ks n l r _
theorem qQ (was:Cli) (ks:List Nat) (n:Nat):∀(l:List Rec) (fs:List Fate),(fz was ks n l fs).length=fs.length
 | [],fs=>rfl
 | x::l,fs=>by
  unfold fz;rw[qQ was ks n l,WD]
theorem ED {was now:Cli} (hw:IdI was) (hs:LS was now) {ks:List Nat} (hks:ks.length=was.log.length) {n:Nat} (hk:∀k,k∈ks->k<n) {r:Rec} (hr:r∈now.log):cr was ks n r.id<n+(now.logged-was.logged).toNat:=by
 have hle:=hs.le;unfold cr
 rcases hs.from_ r hr with ⟨q,hq,hqi⟩ | ⟨h1,h2⟩
 ·have hb:=hw.bnd q hq;rw[hqi] at hb;cases e:was.log.findIdx? (λx=>x.id==r.id) with
  | none=>
   rw[Z6] at e;exact absurd (e q hq) (by simp[hqi])
  | some i=>
   obtain ⟨hi,_,_⟩:=Z4.1 e;simp only;rw[if_neg z7];have:=hk (ks.getD i 0) (by rw[Zo,Zp z7];exact WR _);omega
 ·cases e:was.log.findIdx? (λx=>x.id==r.id) with
  | none=>simp only;omega
  | some i=>
   simp only;rw[if_pos h1];omega
end La
namespace La
open Go Go.Eng Go.Proofs
theorem nS:∀l:List AV,nR l l
 | []=>trivial
 | x::l=>⟨.inr (.inl rfl),nS l⟩
theorem mD:∀l:List (List AV),fp l l
 | []=>trivial
 | x::l=>⟨nS x,mD l⟩
theorem oE {a b:List AV} (h:nR a b):∀(l:List (List AV)) (c:Nat),fp (l.set c a) (l.set c b)
 | [],_=>trivial
 | x::l,0=>⟨h,mD l⟩
 | x::l,c+1=>⟨nS x,oE h l c⟩
def nwF (step c:Int) (D:List Fate) (j:Nat):List Fate:=D++dE step c j
theorem CH (step c:Int) (D:List Fate):nwF step c D 0=D:=by unfold nwF dE;simp
theorem CG (step c:Int) (D:List Fate) (j:Nat):nwF step c D (j+1)=nwF step c D j++[⟨step,c,4,4⟩]:=by unfold nwF;rw[Ay,WT]
theorem E6 (step c:Int) (D:List Fate) (j:Nat):(nwF step c D j).length=D.length+j:=by unfold nwF;rw[List.length_append,vU]
theorem vK (id:Nat) (l:List (List Nat)):(l.map aD).map (λrow=>row.map (kill id))=l.map aD:=by
 rw[WX];exact Wg λx _=>by simp[aD,kill,refs]
theorem Aq (p q:Nat) (l:List (List Nat)):(l.map aD).map (λrow=>row.map (mv1 p q))=l.map aD:=by
 rw[WX];exact Wg λx _=>by simp[aD,mv1,kill,refs]
theorem kc {l:List (List Nat)} {c id n e s x:Nat} (h:x∈au (.cells e s ((l.map aD).set c [.osl id 1 0 n]))):x=id:=by
 simp only[au,List.mem_flatMap] at h;obtain ⟨row,hr,hx⟩:=h
 rcases WU hr with hr | rfl
 ·obtain ⟨y,_,rfl⟩:=Zv.1 hr;rw[tU] at hx;cases hx
 ·simpa[av,refs] using hx
def lgF (was:Cli) (ks:List Nat) (n:Nat) (l:List Rec) (E:List Fate) (i:Nat):List Fate:=fz was ks n (l.take i) E
theorem Cr {was:Cli} {ks:List Nat} {n:Nat} {l:List Rec} {E:List Fate} {i:Nat} (h:i<l.length):lgF was ks n l E (i+1)=E7 was ks n (l.getD i default) (lgF was ks n l E i):=by
 unfold lgF;rw[ZT h,sQ]
theorem EO (was:Cli) (ks:List Nat) (n:Nat) (l:List Rec) (E:List Fate) (i:Nat):(lgF was ks n l E i).length=E.length:=qQ _ _ _ _ _
def lgK (was:Cli) (ks:List Nat) (n:Nat) (l:List Rec) (i:Nat):List Nat:=(l.take i).map λr=>cr was ks n r.id
theorem Cs {was:Cli} {ks:List Nat} {n:Nat} {l:List Rec} {i:Nat} (h:i<l.length):lgK was ks n l (i+1)=lgK was ks n l i++[cr was ks n (l.getD i default).id]:=by
 unfold lgK;rw[ZT h,List.map_append];rfl
theorem EP {was:Cli} {ks:List Nat} {n:Nat} {l:List Rec} {i:Nat} (h:i≤l.length):(lgK was ks n l i).length=i:=by unfold lgK;simp;omega
theorem xQ (b:Bk) (step:Int) (c:Nat) (was now:Cli) (hcn:was.number=c) (hc:c<b.logs.length) (hll:b.logs.length≤100000000) (hks:(b.logs.getD c []).length=was.log.length) (hk:∀k,k∈b.logs.getD c []->k<b.fates.length) (hb:b.fates.length≤10000000)
  (hI:IdI was) (hS:LS was now) (hwl:was.log.length≤100000000) (hnl:now.log.length≤100000000) (hng:now.logged≤10000000) (G Y N:Nat->Nat) :
  ae Tryz.prog 47 [.ptr 32 2 0 0,.int .i64 step,.rp (ZC was) 0,.rp (ZC now) 0] (bkH b G Y N) (λr H=>r=.tup []/\Holds (bkH (bm step c was now b) G Y N) H):=by
 obtain ⟨fs,lg⟩:=b;simp only at hc hll hks hk hb;have hgl:(lg.map aD).getD c []=aD (lg.getD c []):=by
  rw[Zo,Zr,Zo,Zp hc];rfl
 have hle:=hS.le;have hpos:=hI.pos;have hM0:xU now.log 0=[]:=rfl;have hMs:=λi=>@Az now.log i
 have hMa:=CD now.log;generalize hMM:xU now.log=M at *;have hH0:vj was.log (lg.getD c []) 0=[]:=rfl;have hHs:∀i,vj was.log (lg.getD c []) (i+1)=bY (vj was.log (lg.getD c []) i) (was.log.getD i default).id ((lg.getD c []).getD i 0:Nat):=λi=>rfl
 have hHad:=λ(r:Rec) (hr:r∈now.log)=>Cz hI hS (lg.getD c []) fs.length hr
 unfold bkH bkB ZC;rw[hcn];refine ZF tK (Tryz.func47) rfl (λC=>?_);simp only[Tryz.ntmps47,Tryz.results47,go_sem];refine wG tK ?_;refine ZL (λi:Nat=>i≤now.log.length) (λi=>now.log.length-i) (λi=>(11,.any)::(29,.int .i64 i)::u0 30 7 [])
  (λi=>[(23,.map (mB (M i)))]) 0 z7 ?_ λi hi=>?_
 ·rw[hM0];simp only[go_sem];exact ZU w1 (by simp[go_sem,mB]) w1
 simp only[go_sem];refine wG tK ?_;refine wD (λh=>?_) (λh=>?_)
 ·have hlt:i<now.log.length:=by simp at h;omega
  have how':=wi1 (i:=i) z7;have hg:(now.log.map ZR).getD i []=ZR (now.log.getD i default):=Fam.getD hlt;have hMs1:=hMs i hlt;generalize now.log.getD i default=r at *;generalize M i=m at *;refine wGq tK ?_ ?_ (by simp only[go_sem,hg,ZR,how'];try exact rfl)
  ·simp[hg,ZR,hlt]
  refine ZB ⟨i+1,by omega,by omega,ZU ?_ ?_ ?_⟩
  ·simp[go_sem]
  ·simp[go_sem,hMs1]
  ·simp[go_sem]
 ·have e:i=now.log.length:=by simp at h;omega
  subst e;refine wG tK ?_;generalize hks0:lg.getD c []=ks at *;generalize hHH:vj was.log ks=HM at *;have hF0:rJ now.log ks was.log fs 0=fs:=by unfold rJ;rw[List.take_zero,List.take_zero];rfl
  have hFl:=BU now.log ks was.log fs;have hFs:=λi (h:i<was.log.length)=>zR (now:=now.log) (fs:=fs) h (show was.log.length≤ks.length by omega)
  have hFa:=BT (now:=now.log) (fs:=fs) hks;generalize rJ now.log ks was.log fs=F at *;refine ZL (λi:Nat=>i≤was.log.length) (λi=>was.log.length-i) (λi=>(11,.any)::u0 19 4 (u0 24 13 ((13,.any)::(14,.any)::(43,.int .i64 i)::u0 44 39 [])))
   (λi=>[(37,.map (mI (HM i))),(901,.cells 76 4 ((F i).map ah))]) 0 z7 ?_ λi hi=>?_
  ·rw[hH0,hF0];simp only[go_sem];exact ZU w1 (by simp[go_sem,mI]) w1
  simp only[go_sem];refine wG tK ?_;refine wD (λh=>?_) (λh=>?_)
  ·have hlt:i<was.log.length:=by simp at h;omega
   have how':=wi1 (i:=i) z7;have hg:(was.log.map ZR).getD i []=ZR (was.log.getD i default):=Fam.getD hlt;have hHs1:=hHs i;have hFs1:=hFs i hlt;have hFl0:=hFl i;have hgk:(ks.map bq).getD i []=bq (ks.getD i 0):=by
    rw[Zo,Zr,Zo,Zp z7];rfl
   have hkk:ks.getD i 0<fs.length:=hk _ (by rw[Zo,Zp z7];exact WR _);have hki:i<ks.length:=by omega
   generalize ks.getD i 0=k at *;have hMr:=hMa (was.log.getD i default).id;generalize was.log.getD i default=r at *;generalize HM i=m at *;generalize F i=D at *;have hgf:(D.map ah).getD k []=ah (D.getD k default):=Fam.getD z7;have hs4:=fU D k 4;generalize D.getD k default=f at *;refine wGq tK ?_ ?_ v7
   ·simp[hg,ZR,hlt]
   refine ZW ZM ?_;refine ZS rfl ?_;refine sNq tK 13 ?_ ?_ z6 z6 (by simp only[go_sem,hgl,hgk,aD,bq];try exact rfl)
   ·simp[hgl,hgk,aD,bq,hc,hki]
   refine sE ?_;refine dS tK ?_;refine wKd ?_
   try simp only[go_sem,gA,gB,gC]
   refine wG tK ?_;cases hx:now.log.any λx=>x.id==r.id with
   | true=>
    rw[hx,if_pos rfl] at hFs1;refine wDF (hb:=(by simp[hMr,hx])) (hk:=?_);refine wG tK ?_ y7 j8;refine ZB ⟨i+1,by omega,by omega,ZU ?_ ?_ ?_⟩
    ·simp[go_sem]
    ·simp[go_sem,hHs1,hFs1]
    ·simp[go_sem]
   | false=>
    rw[hx,if_neg k8] at hFs1;refine wDT (hb:=(by simp[hMr,hx])) (hk:=?_);refine wG tK ?_;refine ZW ZM ?_;refine ZS rfl ?_;refine sNq tK 16 ?_ ?_ z6 z6 Qn
    ·simp[hgl,hgk,hgf,aD,bq,ah,hc,hki,hkk,hFl0]
    refine cY tK rfl rfl z8 z8 z8 u2 z6 ?_ z6 z6 z6 ?_
    ·simp[hgl,hgk,hgf,aD,bq,ah,hc,hki,hkk,hFl0]
    refine sE ?_;refine wKd ?_
    try simp only[go_sem,gA,gB,gC]
    simp only[go_sem,hgf,ah,List.set_cons_succ,List.set_cons_zero,←hs4];refine wG tK ?_ y7 j8;refine ZB ⟨i+1,by omega,by omega,ZU ?_ ?_ ?_⟩
    ·simp[go_sem]
    ·simp[go_sem,hHs1,hFs1]
    ·simp[go_sem]
  ·have e:i=was.log.length:=by simp at h;omega
   subst e;have hw0:IntKind.i64.wrap (was.logged+1)=was.logged+1:=Eng.wrap_small z7 z7;refine wG tK ?_ (by simp only[go_sem,hw0];try exact rfl) (by simp[go_sem,hw0]);have hDl:=hFl was.log.length;rw[hFa] at hDl;rw[hFa];generalize hDD:bu now.log ks was.log fs=D at *;rw[show fs.length=D.length by omega];refine ay (nT 901 112 32 z6 z8 z8 z6 j0 j0 rfl z8 j7 j7) ?_;obtain ⟨t,ht⟩:∃t:Nat,now.logged=was.logged+t:=⟨(now.logged-was.logged).toNat,by omega⟩;have hE0:=CH step c D;have hEs:=CG step c D;have hEl:=E6 step c D;have hEa:∀j,nwF step c D j=D++dE step c j:=λj=>rfl
   generalize nwF step c D=E at *;have hX0:vV (HM was.log.length) fs.length was.logged 0=HM was.log.length:=rfl;have hXs:∀j:Nat,vV (HM was.log.length) fs.length was.logged (j+1)=bY (vV (HM was.log.length) fs.length was.logged j) (was.logged+1+j) ((fs.length+j:Nat):Int):=λj=>rfl
   generalize vV (HM was.log.length) fs.length was.logged=X at *;refine ZL (λj:Nat=>j≤t) (λj=>t-j) (λj=>(14,.any)::(15,.int .i64 (was.logged+1+j))::u0 44 39 (u0 88 27 []))
    (λj=>[(37,.map (mI (X j))),(112,.cells 76 4 ((E j).map ah)),(32,.cells 103 2 [[.osl 112 4 0 (E j).length,.osl 30 1 0 lg.length]])]) 0 z7 ?_ λj hj=>?_
   ·rw[hX0,hE0];simp only[go_sem];exact ZU w1 w1 w1
   simp only[go_sem];refine wG tK ?_;refine wD (λh=>?_) (λh=>?_)
   ·have hlt:j<t:=by simp at h;omega
    have hw1:IntKind.i64.wrap (was.logged+1+j+1)=was.logged+1+((j+1:Nat):Int):=by rw[Eng.wrap_small z7 z7];omega
    have hEs1:=hEs j;have hEl1:=hEl j;have hXs1:=hXs j;generalize E j=Q at *;generalize X j=m at *;have htq:List.take Q.length (Q.map ah)=Q.map ah:=Zt w7;refine wR ?_;refine wN tK 8 ?_;refine wR ?_;refine wN tK 9 ?_;refine ay (bK 112 32 z6 k6) ?_;simp only[go_sem];refine wGq tK ?_ ?_ j9
    ·simp[go_sem,rowsOf,htq,refs];omega
    refine ZB ⟨j+1,by omega,by omega,ZU ?_ ?_ ?_⟩
    ·simp[go_sem]
    ·simp[go_sem,hEs1,hXs1,htq,ah,hEl1,hDl]
    ·simp[go_sem]
   ·have e:j=t:=by simp at h;omega
    subst e;refine wGq tK ?_ ?_
    ·simp[hc]
    simp only[go_sem,hgl,aD,List.set_cons_zero];refine ay (le_empty 99 3 1 z8) ?_;refine ay (kN 30 ((lg.map aD).set c [.osl 99 1 0 0]) z6 (oE (a:=[.nils]) (b:=[.osl 99 1 0 0]) ⟨.inr (.inr ⟨rfl,.inr ⟨_,_,_,rfl⟩⟩),trivial⟩ _ _)) ?_;simp only[go_sem];have hEj:=hEl j;have hF0:lgF was ks fs.length now.log (E j) 0=E j:=rfl;have hFs:=λi=>@Cr was ks fs.length now.log (E j) i
    have hFl:=EO was ks fs.length now.log (E j);have hK0:lgK was ks fs.length now.log 0=[]:=rfl;have hKs:=λi=>@Cs was ks fs.length now.log i
    have hKl:=λi=>@EP was ks fs.length now.log i
    have hlt4:=λ(r:Rec) (hr:r∈now.log)=>ED hI hS hks hk hr
    have htt:(now.logged-was.logged).toNat=j:=by omega
    rw[htt] at hHad hlt4;have hLa:lgF was ks fs.length now.log (E j) now.log.length=fz was ks fs.length now.log (E j):=by unfold lgF;rw[Zy]
    have hKa:lgK was ks fs.length now.log now.log.length=now.log.map λr=>cr was ks fs.length r.id:=by unfold lgK;rw[Zy]
    generalize lgF was ks fs.length now.log (E j)=L at *;generalize lgK was ks fs.length now.log=K at *;refine ZL (λi:Nat=>i≤now.log.length) (λi=>now.log.length-i) (λi=>(17,.any)::(18,.any)::u0 115 9 ((126,.int .i64 i)::u0 127 41 []))
     (λi=>[(99,.cells 3 1 ((K i).map bq)),(30,.cells 40 1 ((lg.map aD).set c [.osl 99 1 0 (K i).length])),(112,.cells 76 4 ((L i).map ah))]) 0 z7 ?_ λi hi=>?_
    ·rw[hF0,hK0];simp only[go_sem];exact ZU w1 w1 (by simp[go_sem];exact λx hx=>by rw[kc hx];simp)
    simp only[go_sem];refine wG tK ?_;refine wD (λh=>?_) (λh=>?_)
    ·have hlt:i<now.log.length:=by simp at h;omega
     have how':=wi1 (i:=i) z7;have hg:(now.log.map ZR).getD i []=ZR (now.log.getD i default):=Fam.getD hlt;have hm:=YG hlt;have hH:=hHad _ hm;have hlt1:=hlt4 _ hm;have hFs1:=hFs i hlt;have hKs1:=hKs i hlt;have hFl0:=hFl i;have hKl0:=hKl i hi;generalize now.log.getD i default=r at *;generalize hkk:cr was ks fs.length r.id=k at *;generalize L i=D2 at *;generalize K i=Q at *;have htq:List.take Q.length (Q.map bq)=Q.map bq:=Zt w7;refine wGq tK ?_ ?_ v7
     ·simp[hg,ZR,hlt]
     have hkD:k<D2.length:=by omega
     have hgf:(D2.map ah).getD k []=ah (D2.getD k default):=Fam.getD hkD;have hone:(E7 was ks fs.length r D2).map ah=(D2.map ah).set k [.int .i64 (D2.getD k default).step,.int .i64 (D2.getD k default).client,.int .i64 r.act.kind,.int .i64 2]:=by
      unfold E7;rw[hkk,List.map_set];rfl
     generalize D2.getD k default=f at *;refine ZW ZM ?_;refine ZS rfl ?_;refine sNq tK 15 ?_ ?_ z6 z6 (by simp only[go_sem,hH,hgf,ah];try exact rfl)
     ·simp[hH,hgf,ah,hkD];exact ⟨rfl,by omega⟩
     refine cY tK rfl rfl z8 z8 z8 u2 z6 ?_ z6 z6 z6 ?_
     ·simp[hH,hgf,ah,hkD]
     refine sNq tK 2 ?_ ?_ z6 z6 (by simp only[go_sem,hH,hgf,ah];try exact rfl)
     ·simp[hH,hgf,ah,hkD];exact ⟨rfl,by omega⟩
     refine cY tK rfl rfl z8 z8 z8 u2 z6 ?_ z6 z6 z6 ?_
     ·simp[hH,hgf,ah,hkD]
     refine sE ?_;refine wKd ?_
     try simp only[go_sem,gA,gB,gC]
     have hsg:∀y,((D2.map ah).set k y).getD k []=y:=λy=>by
      rw[Zo,Z7,if_pos rfl,if_pos (by simpa using hkD)];rfl
     simp only[go_sem,hsg,hgf,ah,List.set_cons_succ,List.set_cons_zero,List.set_set,←hone,cond_false];rw[←hFs1];refine wG tK ?_;have hgc:∀y,((lg.map aD).set c y).getD c []=y:=λy=>by
      rw[Zo,Z7,if_pos rfl,if_pos (by simpa using hc)];rfl
     have hfn:∀(a:Fate) x,x∈ah a->¬99∈refs x:=λa x h=>qb 99 a x h
     have hnn:∀(a:Nat) x,x∈bq a->¬99∈refs x:=λa x h=>Ax 99 a x h
     refine ZW ZM ?_;refine yS 30 99 162 rfl (Hv ?_) ?_
     ·simp[go_sem,bP,hnn];exact λa _ x hx=>hfn a x hx
     refine yN tK 13 (h:=by simp only[go_sem,hgc,hc];try exact rfl) (hp:=by simp[go_sem,hgc,hc]) (hk:=?_);refine yW tK (hk:=?_);refine yA tK 30 (h2:=?_) (h5:=?_) (h7:=?_) (h8:=?_) (hn:=rfl) (hr:=rfl) (hr3:=rfl) (hk:=?_)
     ·exact λrow h=>by simp at h;subst h;rfl
     ·rw[show tab.byt 3=8 from rfl];simp;omega
     ·simp
     ·simp[bP,go_sem,refs,htq];exact λa _ x hx=>hnn a x hx
     refine yE w8 z6 ?_;have hkl:∀n,List.map (λrow=>List.map (kill 99) row) ((lg.map aD).set c [.osl 99 1 0 n])=(lg.map aD).set c [.any]:=λn=>by rw[List.map_set,vK];rfl
     rw[hkl];refine dSq tK ?_ ?_
     ·simp[hc];rfl
     refine dSq tK ?_ ?_
     ·simp[hc,hgc];exact ⟨(λh=>by cases h),rfl,rfl,Zw _⟩
     refine wKd ?_
     try simp only[go_sem,gA,gB,gC]
     simp only[go_sem,hgc,List.set_cons_zero,List.set_set];have hnr:∀n,(au (.cells 40 1 ((lg.map aD).set c [.osl 165 1 0 n]))).contains 99=false:=λn=>by
      rw[Bool.eq_false_iff];intro h;have:=kc (WA.1 h);omega
     have hmv:∀n,((lg.map aD).set c [.osl 165 1 0 n]).map (λrow=>row.map (mv1 165 99))=(lg.map aD).set c [.osl 99 1 0 n]:=λn=>by
      rw[List.map_set,Aq];rfl
     refine ay (EN 99 j0 (by simp only[go_sem,hnr];rfl) k6) ?_;refine ay (nT 165 99 30 z6 z8 z8 z6 j0 j0 rfl z8 (hmv _) j7) ?_;refine wG tK ?_ y7 j8;refine ZB ⟨i+1,by omega,by omega,ZU ?_ ?_ ?_⟩
     ·simp[go_sem]
     ·simp[go_sem,hKs1,bq]
     ·simp[go_sem];exact λx hx=>by rw[kc hx];simp
    ·have e:i=now.log.length:=by simp at h;omega
     subst e;refine wG tK ?_;refine ZZ 99 rfl (vT _) ?_;have hfz:List.map (cm 99 1 (List.map bq (K now.log.length))) ((List.map aD lg).set c [AV.osl 99 1 0 (K now.log.length).length])=(lg.set c (K now.log.length)).map aD:=by
      rw[List.map_set,vJ,List.map_set]
      congr 1
      simp[cm,frz,aD]
     simp only[go_sem,hfz];refine ay (nT 112 901 32 z6 z8 z8 z6 j0 j0 rfl z8 j7 j7) ?_;refine fF ⟨_,_,rfl,trivial,.tup [],.inr (.inl rfl),rfl,?_⟩;have hfin:bm step c was now ⟨fs,lg⟩=⟨L now.log.length,lg.set c (K now.log.length)⟩:=by
      unfold bm;simp only;rw[hks0,hDD,htt,←hEa,←hLa,←hKa]
     rw[hfin];simp only[hFl,WD]
     try simp only[pins,List.cons_append,List.nil_append,List.map_cons,List.map_nil]
     repeat' refine ZH ?_ ?_
     all_goals first | exact YH _ | rfl | simp[go_sem]
theorem Gs (w:Wor) (hst:Small w.s.tree) (hsp:SmallP w.s.past) (hc:∀c,c∈w.cs->SmallC c) (hl:w.cs.length≤100000000):ae Tryz.prog 23 [.agg (bo w)] [] (λr _=>r=.agg (bo w)):=by
 have hso:=pG w.s hst hsp;unfold ZQ at hso;unfold bo;refine ZF tK (Tryz.func23) rfl (λC=>?_);simp only[Tryz.ntmps23,Tryz.results23,go_sem];refine wG tK ?_;refine ZZ 1 rfl (rfl) ?_;simp only[go_sem];refine wG tK ?_;refine wC Tryz.func40 (hf:=(hso)) (hk:=?_);refine wG tK ?_;refine ay (le_empty 22 47 10 z8) ?_;simp only[go_sem];refine ay (kN 3 ([[.sl (w.s.tree.map ZN),.int .i64 w.s.next,.sl (w.s.past.map ZP),.osl 22 10 0 0]]) z6 Za) ?_;simp only[go_sem];refine ZL (λi:Nat=>i≤w.cs.length) (λi=>w.cs.length-i) (λi=>(5,.any)::(13,.int .i64 i)::u0 14 11 [])
  (λi=>[(3,.cells 35 4 [[.sl (w.s.tree.map ZN),.int .i64 w.s.next,.sl (w.s.past.map ZP),.osl 22 10 0 i]]),(22,.cells 47 10 ((w.cs.take i).map ZC))]) 0 z7 ?_ λi hi=>?_
 ·simp only[go_sem];exact ZU w1 w1 s7
 simp only[go_sem];refine wG tK ?_;refine wD (λh=>?_) (λh=>?_)
 ·have hlt:i<w.cs.length:=by simp at h;omega
  have hw:=wi1 (i:=i) z7;have hg:(w.cs.map ZC).getD i []=ZC (w.cs.getD i default):=Fam.getD hlt;have hs:=cw ZC hlt;have hco:=tB _ (hc _ (YG hlt));generalize w.cs.getD i default=x at *;have hl1:(w.cs.take i).length=i:=by rw[Z9];omega
  generalize w.cs.take i=Q at *;subst hl1;have htq:List.take Q.length (Q.map ZC)=Q.map ZC:=Zt w7;unfold ZC at hco;refine wGq tK ?_ ?_ v8
  ·simp[hg,ZC,hlt]
  refine ZZ 5 rfl (rfl) ?_;simp only[go_sem];refine ZW ZM ?_;refine ZS rfl ?_;refine sN tK 3 ?_;refine sC Tryz.func41 (hf:=(hco)) (hk:=?_);refine sW tK ?_;refine sE ?_;refine fT (bK 22 3 z6 k6) ?_;simp only[go_sem];refine dSq tK ?_ ?_
  ·simp[go_sem,rowsOf,htq,refs];exact ⟨by omega,λx _=>nw _ x⟩
  simp only[go_sem];refine dS tK ?_;refine dS tK ?_;refine wKd ?_
  try simp only[go_sem,gA,gB,gC]
  refine wG tK ?_ w6 k0;refine ZB ⟨Q.length+1,by omega,by omega,ZU ?_ ?_ ?_⟩
  ·simp[go_sem]
  ·simp[go_sem,hs,htq,ZC]
  ·simp only[go_sem]
 ·have e:i=w.cs.length:=by simp at h;omega
  subst e;refine wG tK ?_;refine ZZ 22 rfl (gT _) ?_;simp only[go_sem];refine wT ?_;simp[bo]
theorem Dk (w:Wor) (hst:Small w.s.tree) (hsp:SmallP w.s.past) (hc:∀c,c∈w.cs->SmallC c) (hl:w.cs.length≤100000000):ae Tryz.prog 23 [.agg (bo w)] [] (λr H=>r=.agg [.sl (w.s.tree.map ZN),.int .i64 w.s.next,.sl (w.s.past.map ZP),.osl 22 10 0 w.cs.length]/\∀i b,aa [(22,.cells 47 10 (w.cs.map ZC))] i=some b->aa H i=some b):=by
 have hso:=pG w.s hst hsp;unfold ZQ at hso;unfold bo;refine ZF tK (Tryz.func23) rfl (λC=>?_);simp only[Tryz.ntmps23,Tryz.results23,go_sem];refine wG tK ?_;refine ZZ 1 rfl (rfl) ?_;simp only[go_sem];refine wG tK ?_;refine wC Tryz.func40 (hf:=(hso)) (hk:=?_);refine wG tK ?_;refine ay (le_empty 22 47 10 z8) ?_;simp only[go_sem];refine ay (kN 3 ([[.sl (w.s.tree.map ZN),.int .i64 w.s.next,.sl (w.s.past.map ZP),.osl 22 10 0 0]]) z6 Za) ?_;simp only[go_sem];refine ZL (λi:Nat=>i≤w.cs.length) (λi=>w.cs.length-i) (λi=>(5,.any)::(13,.int .i64 i)::u0 14 11 [])
  (λi=>[(3,.cells 35 4 [[.sl (w.s.tree.map ZN),.int .i64 w.s.next,.sl (w.s.past.map ZP),.osl 22 10 0 i]]),(22,.cells 47 10 ((w.cs.take i).map ZC))]) 0 z7 ?_ λi hi=>?_
 ·simp only[go_sem];exact ZU w1 w1 s7
 simp only[go_sem];refine wG tK ?_;refine wD (λh=>?_) (λh=>?_)
 ·have hlt:i<w.cs.length:=by simp at h;omega
  have hw:=wi1 (i:=i) z7;have hg:(w.cs.map ZC).getD i []=ZC (w.cs.getD i default):=Fam.getD hlt;have hs:=cw ZC hlt;have hco:=tB _ (hc _ (YG hlt));generalize w.cs.getD i default=x at *;have hl1:(w.cs.take i).length=i:=by rw[Z9];omega
  generalize w.cs.take i=Q at *;subst hl1;have htq:List.take Q.length (Q.map ZC)=Q.map ZC:=Zt w7;unfold ZC at hco;refine wGq tK ?_ ?_ v8
  ·simp[hg,ZC,hlt]
  refine ZZ 5 rfl (rfl) ?_;simp only[go_sem];refine ZW ZM ?_;refine ZS rfl ?_;refine sN tK 3 ?_;refine sC Tryz.func41 (hf:=(hco)) (hk:=?_);refine sW tK ?_;refine sE ?_;refine fT (bK 22 3 z6 k6) ?_;simp only[go_sem];refine dSq tK ?_ ?_
  ·simp[go_sem,rowsOf,htq,refs];exact ⟨by omega,λx _=>nw _ x⟩
  simp only[go_sem];refine dS tK ?_;refine dS tK ?_;refine wKd ?_
  try simp only[go_sem,gA,gB,gC]
  refine wG tK ?_ w6 k0;refine ZB ⟨Q.length+1,by omega,by omega,ZU ?_ ?_ ?_⟩
  ·simp[go_sem]
  ·simp[go_sem,hs,htq,ZC]
  ·simp only[go_sem]
 ·have e:i=w.cs.length:=by simp at h;omega
  subst e;refine wG tK ?_;refine wT ?_;simp[go_sem]
end La
