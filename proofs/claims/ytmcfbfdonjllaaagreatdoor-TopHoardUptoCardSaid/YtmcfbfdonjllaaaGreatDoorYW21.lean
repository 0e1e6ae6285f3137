/- Texts of this claim, part 21: RTake, RBack, RStep, RStepR, RWorld, NewS, RNew, RBuild, RRight, WNo, WOwn, PCAct, HofH, PIns, CSort, RSame, RSameC, WWrong, PPlay, PCHere, PCOwn, PCAway, PCOwnA, PCBack, PTop, WTop. No condition. -/
import Derived.Test.YtmcfbfdonjllaaaGreatDoorYW20
import Derived.Test.YtmcfbfdonjllaaaGreatDoorYW19
import Derived.Test.YtmcfbfdonjllaaaGreatDoorYW10
set_option maxRecDepth 10000
set_option maxHeartbeats 4000000
set_option linter.unusedSimpArgs false
set_option linter.unusedVariables false
namespace La
open Go Go.Eng Go.Proofs
variable {Fa:Prop}
def yg (log:List Rec) (vs:List Verdict) (i:Nat):List Rec:=cU (log.take i) (vs.take i)
def lP (vs:List Verdict) (i:Nat):Nat:=fc (vs.take i)
theorem nA (r:Rec) (v:Verdict):∀{l:List Rec} {vs:List Verdict},l.length=vs.length->cU (l++[r]) (vs++[v])=cU l vs++if v.err=0 then [] else [r]
 | [],[],_=>by
  simp only[List.nil_append,cU]
  first | done | (split<;>rfl)
 | [],_::_,h=>by simp at h
 | _::_,[],h=>by simp at h
 | a::l,b::vs,h=>by
  have ih:=nA r v (l:=l) (vs:=vs) u6;simp only[List.cons_append,cU];rw[ih];split
  ·rfl
  ·rfl
theorem B9 {log:List Rec} {vs:List Verdict} {i:Nat} (h:i<vs.length) (hl:vs.length=log.length):yg log vs (i+1)=if (vs.getD i default).err=0 then yg log vs i else yg log vs i++[log.getD i default]:=by
 unfold yg;rw[ZT h,ZT (show i<log.length by omega),nA _ _ k7];split
 ·rw[List.append_nil]
 ·rfl
theorem ze {vs:List Verdict} {i:Nat} (h:i<vs.length):lP vs (i+1)=if (vs.getD i default).err=0 then lP vs i+1 else lP vs i:=by
 unfold lP fc;rw[ZT h,List.filter_append,List.length_append];generalize vs.getD i default=v
 by_cases e:v.err=0
 ·rw[if_pos e];simp[e]
 ·rw[if_neg e];simp[e]
theorem DA (vs:List Verdict) (i:Nat) (h:i≤vs.length):lP vs i≤i:=by
 unfold lP fc;have:=WH (λv:Verdict=>v.err==0) (vs.take i);rw[WO] at this;omega
theorem o_:∀(l:List Rec) (vs:List Verdict),(cU l vs).length≤l.length
 | [],_=>by simp[cU]
 | _::_,[]=>by simp[cU]
 | a::l,b::vs=>by
  have ih:=o_ l vs;simp only[cU];split
  ·simp only[List.length_cons];omega
  ·simp only[List.length_cons];omega
theorem Er (log:List Rec) (vs:List Verdict) (i:Nat):(yg log vs i).length≤log.length:=Wk (o_ _ _) QP
def sY (c:Cli) (vs:List Verdict) (i:Nat):List Rec:=c.repair++yg c.log vs i
theorem Cc {c:Cli} {vs:List Verdict} {i:Nat} (h:i<vs.length) (hl:vs.length=c.log.length):sY c vs (i+1)=if (vs.getD i default).err=0 then sY c vs i else sY c vs i++[c.log.getD i default]:=by
 unfold sY;rw[B9 h hl];split
 ·rfl
 ·rw[Wa]
theorem Et (c:Cli) (vs:List Verdict) (i:Nat):(sY c vs i).length≤c.repair.length+c.log.length:=by
 unfold sY;rw[List.length_append];have:=Er c.log vs i;omega
variable {Fa:Prop}
def Bf (g:GotS):AV:=.tup [.agg (ZC g.u.c),.agg (ZQ g.u.s),.agg (aj g.r)]
variable {Fa:Prop}
def oJ (l:List Entry) (i:Nat):List UInt8:=qG (l.take i)
theorem sx {l:List Entry} {i:Nat} (h:i<l.length):oJ l (i+1)=oJ l i++((l.getD i default).name++[10]):=by
 unfold oJ qG;rw[ZT h,List.flatMap_append];simp
theorem xo {B T:Nat} {u:U} (h:UInvF Fa B T u) (f w:Int):NmE (aO u f w).n.entries:=by
 unfold aO;split
 ·rename_i n hn;obtain ⟨k,hk,rfl,_⟩:=m_ hn;exact h.cli.nam k hk
 ·split
  ·exact .nil
  ·split
   ·exact .nil
   ·rename_i n hn;exact h.srv.hist.whole.nm ((ZO h.srv.hist.bV.up).1 hn).1
theorem AP {B:Nat} (w:Int):∀(l:List (List UInt8)) (T:Nat) (g:Got),UInvF Fa B T g.u->NmE g.n.entries->NmE (goR w l g).n.entries
 | [],T,g,h,hn=>by
  unfold goR;split
  ·exact hn
  ·exact .nil
 | s::r,T,g,h,hn=>by
  unfold goR;split
  ·exact .nil
  ·split
   ·exact .nil
   ·split
    ·exact .nil
    ·rename_i f _;exact AP w r (T+1) _ (cg h f w) (xo h f w)
theorem Gv {B T:Nat} {u:U} (h:UInvF Fa B T u) (l:List (List UInt8)) (w:Int):NmE (goU u l w).n.entries:=AP w l (T+1) _ (cg h 0 w) (xo h 0 w)
theorem uy {l:List Entry} (h:NmE l):∀i,i≤l.length->(oJ l i).length≤41*i
 | 0,_=>by simp[oJ,qG]
 | i+1,hi=>by
  have ih:=uy h i z7;have hn:=h (l.getD i default) (by rw[Z1,Z2 (show i<l.length by omega)];exact Wi _);rw[sx (show i<l.length by omega),List.length_append,List.length_append];simp only[List.length_cons,List.length_nil];omega
def mG (g:GotW):AV:=.tup [.agg (bI g.w),.agg (aj g.r)]
def Fb:Wor:=⟨⟨[],0,[]⟩,[]⟩
def A6 (rooms:List Int):AV:=.tup [.agg (bI (if cz rooms=0 then bo rooms else Fb)),.int .i64 (cz rooms)]
theorem zF (rooms:List Int) (i:Nat):nx rooms (i+1)=nx rooms i++[eZ (i:Int) (rooms.getD i 0)]:=by
 unfold nx;rw[List.range_succ,List.map_append];rfl
theorem B6 (rooms:List Int) (i:Nat):(nx rooms i).length=i:=by unfold nx;simp
structure StepsOK (l:List Step):Prop where
 len:l.length≤1400000
 path:∀x,x∈l->x.path.length≤10000000/\x.toPath.length≤10000000
variable {Fa:Prop}
theorem om (d:List Hoard) (hd:d.length≤100000000):ag Tryz.prog 70 [.sl (d.map ZJ)] [] (λr _=>r=.sl (d.map ZJ)):=by
 refine ZF tK (Tryz.func70) rfl (λC=>?_);simp only[Tryz.ntmps70,Tryz.results70,go_sem];refine wG tK ?_;refine lO tK rfl rfl rfl x6 x6 (λb hb=>?_);simp only[go_sem];refine wG tK ?_;refine wD (λh=>?_) (λh=>?_)
 ·refine wG tK ?_;refine kF ⟨_,_,z8,by simp[go_sem],.sl [],.inr (.inr ⟨rfl,.inl rfl⟩),?_⟩;rw[hb h]
 ·refine wGq tK ?_ ?_
  ·simp;omega
  refine ZZ 7 rfl (gV _) ?_;simp only[go_sem];refine wT ?_;simp
structure SmallC (c:Cli):Prop where
 cache:SmallK c.cache
 log:SmallL c.log
 repair:SmallL c.repair
 hoards:c.hoards.length≤100000000
theorem CInvF.lq {B T:Nat} {s:Srv} {c:Cli} (h:CInvF Fa B T s c) (hB:B≤40000000):SmallC c where
 cache:=⟨by have:=h.len;have:=h.room;omega,λk hk=>⟨by have:=h.data k hk;omega,by have:=h.ent k hk;omega⟩⟩
 log:=⟨by have:=h.log;omega,λr hr=>by unfold Act.Small;have:=(h.logS r hr).data;omega⟩
 repair:=⟨by have:=h.rep;omega,λr hr=>by unfold Act.Small;have:=(h.repS r hr).data;omega⟩
 hoards:=by have:=h.hoards;omega
theorem AE (c:Cli) (h:SmallC c):ag Tryz.prog 41 [.agg (ZC c)] [] (λr _=>r=.agg (ZC c)):=by
 have h1:=rG c.cache h.cache;have h2:=kk c.log h.log;have h3:=kk c.repair h.repair;have h4:=om c.hoards h.hoards;unfold ZC;refine ZF tK (Tryz.func41) rfl (λC=>?_);simp only[Tryz.ntmps41,Tryz.results41,go_sem];refine wG tK ?_;refine ZW ZM ?_;refine ZS rfl ?_;refine sN tK 2 ?_;refine sC Tryz.func68 (hf:=(h1)) (hk:=?_);refine sN tK 2 ?_;refine sC Tryz.func69 (hf:=(h2)) (hk:=?_);refine sN tK 2 ?_;refine sC Tryz.func69 (hf:=(h3)) (hk:=?_);refine sN tK 2 ?_;refine sC Tryz.func70 (hf:=(h4)) (hk:=?_);refine sN tK 1 ?_;refine sT tK ?_;refine sN tK 1 ?_;refine sT tK ?_;refine sN tK 1 ?_;refine sT tK ?_;refine sN tK 1 ?_;refine sT tK ?_;refine sE ?_;refine wKd ?_
 try simp only[go_sem,gA,gB,gC]
 refine wG tK ?_;refine wT ?_;rfl
structure RightC (t:List Node) (c:Cli):Prop where
 room:(c.cache.length:Int)≤c.room
 log:c.away=false->c.log=[]
 here:c.away=false->∀k,k∈c.cache->k.dirty=false/\k.node∈t
 small:SmallC c
theorem pE (id:Nat) (x:Cli):∀y,y∈ZC x->¬id∈refs y:=λy hy=>by
 have:=List.all_eq_true.1 (List.all_eq_true.1 (vl id [x]) (ZC x) y7) y hy;simpa using this
theorem bH (id:Nat) (x:Step):∀y,y∈ZX x->¬id∈refs y:=λy hy=>by
 have:=List.all_eq_true.1 (List.all_eq_true.1 (tV id [x]) (ZX x) y7) y hy;simpa using this
theorem Bp (w:Wor) (hst:Small w.s.tree) (hsp:SmallP w.s.past) (hc:∀c,c∈w.cs->SmallC c) (hl:w.cs.length≤100000000):ag Tryz.prog 23 [.agg (bI w)] [] (λr _=>r=.agg (bI w)):=by
 have hso:=rN w.s hst hsp;unfold ZQ at hso;unfold bI;refine ZF tK (Tryz.func23) rfl (λC=>?_);simp only[Tryz.ntmps23,Tryz.results23,go_sem];refine wG tK ?_;refine ZZ 1 rfl (rfl) ?_;simp only[go_sem];refine wG tK ?_;refine wC Tryz.func40 (hf:=(hso)) (hk:=?_);refine wG tK ?_;refine bf (le_empty 22 47 10 z8) ?_;simp only[go_sem];refine bf (vG 3 ([[.sl (w.s.tree.map ZN),.int .i64 w.s.next,.sl (w.s.past.map ZP),.osl 22 10 0 0]]) z6 (by simp[mX,vE,wk])) ?_;simp only[go_sem];refine ZL (λi:Nat=>i≤w.cs.length) (λi=>w.cs.length-i) (λi=>(5,.any)::(13,.int .i64 i)::u3 14 11 [])
  (λi=>[(3,.cells 35 4 [[.sl (w.s.tree.map ZN),.int .i64 w.s.next,.sl (w.s.past.map ZP),.osl 22 10 0 i]]),(22,.cells 47 10 ((w.cs.take i).map ZC))]) 0 z7 ?_ λi hi=>?_
 ·simp only[go_sem];exact ZU w4 w4 p8
 simp only[go_sem];refine wG tK ?_;refine wD (λh=>?_) (λh=>?_)
 ·have hlt:i<w.cs.length:=by simp at h;omega
  have hw:=wi1 (i:=i) z7;have hg:(w.cs.map ZC).getD i []=ZC (w.cs.getD i default):=Fam.getD hlt;have hs:=dE ZC hlt;have hco:=AE _ (hc _ (YG hlt));generalize w.cs.getD i default=x at *;have hl1:(w.cs.take i).length=i:=by rw[WO];omega
  generalize w.cs.take i=Q at *;subst hl1;have htq:List.take Q.length (Q.map ZC)=Q.map ZC:=Z4 y7;unfold ZC at hco;refine wGq tK ?_ ?_ n9
  ·simp[hg,ZC,hlt]
  refine ZZ 5 rfl (rfl) ?_;simp only[go_sem];refine ZW ZM ?_;refine ZS rfl ?_;refine sN tK 3 ?_;refine sC Tryz.func41 (hf:=(hco)) (hk:=?_);refine sW tK ?_;refine sE ?_;refine jr (dR 22 3 z6 j9) ?_;simp only[go_sem];refine dSq tK ?_ ?_
  ·simp[go_sem,rowsOf,htq,refs];exact ⟨by omega,λx _=>pE _ x⟩
  simp only[go_sem];refine dS tK ?_;refine dS tK ?_;refine wKd ?_
  try simp only[go_sem,gA,gB,gC]
  refine wG tK ?_ k0 k9;refine ZB ⟨Q.length+1,by omega,by omega,ZU ?_ ?_ ?_⟩
  ·simp[go_sem]
  ·simp[go_sem,hs,htq,ZC]
  ·simp only[go_sem]
 ·have e:i=w.cs.length:=by simp at h;omega
  subst e;refine wG tK ?_;refine ZZ 22 rfl (lK _) ?_;simp only[go_sem];refine wT ?_;simp[bI]
theorem E9 (w:Wor) (hst:Small w.s.tree) (hsp:SmallP w.s.past) (hc:∀c,c∈w.cs->SmallC c) (hl:w.cs.length≤100000000):ag Tryz.prog 23 [.agg (bI w)] [] (λr H=>r=.agg [.sl (w.s.tree.map ZN),.int .i64 w.s.next,.sl (w.s.past.map ZP),.osl 22 10 0 w.cs.length]/\∀i b,ae [(22,.cells 47 10 (w.cs.map ZC))] i=some b->ae H i=some b):=by
 have hso:=rN w.s hst hsp;unfold ZQ at hso;unfold bI;refine ZF tK (Tryz.func23) rfl (λC=>?_);simp only[Tryz.ntmps23,Tryz.results23,go_sem];refine wG tK ?_;refine ZZ 1 rfl (rfl) ?_;simp only[go_sem];refine wG tK ?_;refine wC Tryz.func40 (hf:=(hso)) (hk:=?_);refine wG tK ?_;refine bf (le_empty 22 47 10 z8) ?_;simp only[go_sem];refine bf (vG 3 ([[.sl (w.s.tree.map ZN),.int .i64 w.s.next,.sl (w.s.past.map ZP),.osl 22 10 0 0]]) z6 (by simp[mX,vE,wk])) ?_;simp only[go_sem];refine ZL (λi:Nat=>i≤w.cs.length) (λi=>w.cs.length-i) (λi=>(5,.any)::(13,.int .i64 i)::u3 14 11 [])
  (λi=>[(3,.cells 35 4 [[.sl (w.s.tree.map ZN),.int .i64 w.s.next,.sl (w.s.past.map ZP),.osl 22 10 0 i]]),(22,.cells 47 10 ((w.cs.take i).map ZC))]) 0 z7 ?_ λi hi=>?_
 ·simp only[go_sem];exact ZU w4 w4 p8
 simp only[go_sem];refine wG tK ?_;refine wD (λh=>?_) (λh=>?_)
 ·have hlt:i<w.cs.length:=by simp at h;omega
  have hw:=wi1 (i:=i) z7;have hg:(w.cs.map ZC).getD i []=ZC (w.cs.getD i default):=Fam.getD hlt;have hs:=dE ZC hlt;have hco:=AE _ (hc _ (YG hlt));generalize w.cs.getD i default=x at *;have hl1:(w.cs.take i).length=i:=by rw[WO];omega
  generalize w.cs.take i=Q at *;subst hl1;have htq:List.take Q.length (Q.map ZC)=Q.map ZC:=Z4 y7;unfold ZC at hco;refine wGq tK ?_ ?_ n9
  ·simp[hg,ZC,hlt]
  refine ZZ 5 rfl (rfl) ?_;simp only[go_sem];refine ZW ZM ?_;refine ZS rfl ?_;refine sN tK 3 ?_;refine sC Tryz.func41 (hf:=(hco)) (hk:=?_);refine sW tK ?_;refine sE ?_;refine jr (dR 22 3 z6 j9) ?_;simp only[go_sem];refine dSq tK ?_ ?_
  ·simp[go_sem,rowsOf,htq,refs];exact ⟨by omega,λx _=>pE _ x⟩
  simp only[go_sem];refine dS tK ?_;refine dS tK ?_;refine wKd ?_
  try simp only[go_sem,gA,gB,gC]
  refine wG tK ?_ k0 k9;refine ZB ⟨Q.length+1,by omega,by omega,ZU ?_ ?_ ?_⟩
  ·simp[go_sem]
  ·simp[go_sem,hs,htq,ZC]
  ·simp only[go_sem]
 ·have e:i=w.cs.length:=by simp at h;omega
  subst e;refine wG tK ?_;refine wT ?_;simp[go_sem]
end La
namespace La
open Go Go.Eng
theorem iL {l:List Node} (h:Up l) (n:Node) {k:Int} (hk:bz l k=true):bz (aT l n) k=true:=by
 rw[bP] at hk ⊢;rw[bU h];split
 ·rfl
 ·exact hk
theorem sX {W:List Node} (hg:Good W) (hr:Ri W) {b:Act} (hk:b.kind=4) (he:cv W b=0):∃n,n∈bX W b 0/\aM W b n=true:=by
 have hL:bX W b 0=dN (aT W { aE (bd W b.dir) b.name with version:=0 }) b.fid:=by unfold bX;rw[if_pos he]
 unfold cv at he;split at he
 ·rename_i hnm;obtain ⟨d,hf,hgd⟩:=mi hnm;obtain ⟨hd,hdf⟩:=(ZO hg.up).1 hf;have hent:ay d b.name=some b.fid:=by
   unfold df at hnm;split at hnm
   ·rw[hgd] at hnm;cases e:ay d b.name with
    | none=>rw[e] at hnm;simp at hnm
    | some f=>
     rw[e] at hnm;simp only at hnm;split at hnm
     ·rename_i hff;rw[hff]
     ·simp at hnm
   ·rename_i hne;exact absurd hnm hne
  have hmem:(⟨b.name,b.fid⟩:Entry)∈d.entries:=(YE (hr.eup d hd)).1 hent;obtain ⟨r,hrk⟩:=hg.cM;have hne:d.fid≠b.fid:=λe=>by
   have:=hrk d hd _ hmem;simp only at this;rw[e] at this;omega
  rw[hL,hgd];refine ⟨{ aE d b.name with version:=0 },((iT (aD hg.up _).1 b.fid).2 _).2 ⟨((aD hg.up _).2 _).2 (.inl rfl),hne⟩,?_⟩;have hfd:af W ({ aE d b.name with version:=0 }:Node).fid=some d:=by show af W d.fid=_;rw[hdf];exact hf
  have hent2:decide (d.entries=({ aE d b.name with version:=0 }:Node).entries)=false:=by
   refine decide_eq_false λe=>?_
   have h2:(⟨b.name,b.fid⟩:Entry)∈aX d.entries b.name:=by
    have h3:=hmem;rw[e] at h3;exact h3
   unfold aX at h2;have:=(WE.1 h2).2;simp at this
  unfold aM;rw[hfd];simp only[eS,hent2,Bool.and_false,Bool.false_and,Bool.not_false]
 ·rename_i hnm;exact absurd he hnm
theorem zS {W:List Node} (hg:Good W) (hr:Ri W) {b:Act} (he:aB W b=0) (hno:∀n,n∈aH W b 0->aM W b n=false) {k:Int} (hk:bz W k=true):bz (aH W b 0) k=true:=by
 unfold aB at he;unfold aH at hno ⊢;have hmk:cC W b=0->bz (bE W b 0) k=true:=λh=>by
  unfold bE;rw[if_pos h];exact iL (aD hg.up _).1 _ (iL hg.up _ hk)
 split
 ·rename_i h1;rw[if_pos h1] at he;exact hmk he
 ·rename_i h1;rw[if_neg h1] at he hno;split
  ·rename_i h2;rw[if_pos h2] at he;exact hmk he
  ·rename_i h2;rw[if_neg h2] at he hno;split
   ·unfold bM;split
    ·exact iL hg.up _ hk
    ·exact hk
   ·rename_i h3;rw[if_neg h3] at he hno;split
    ·rename_i h4;rw[if_pos h4] at he hno;obtain ⟨n,hn,hc⟩:=sX hg hr h4 he;rw[hno n hn] at hc;cases hc
    ·split
     ·unfold dn;split
      ·split
       ·exact iL hg.up _ hk
       ·exact iL (aD hg.up _).1 _ (iL hg.up _ hk)
      ·exact hk
     ·exact hk
end La
namespace La
open Go Go.Eng Go.Proofs
theorem q_ (l:List Hoard) (hlen:l.length≤100000000) {f:FuncId} {caps:List AV} {p:Hoard->Bool} (hcal:aP Tryz.prog f) (hpure:(caps.all AV.bw)=true)
  (hf:∀x,x∈l->ag Tryz.prog f (.agg (ZJ x)::caps) [] (λr _=>r=.bool (p x))) :
  ag Tryz.prog 161 [.sl (l.map ZJ),.fn f caps] [] (λr _=>r=.int .i64 (dp (l.findIdx? p))):=by
 have hcaps:=cu hpure;refine ZF tK (Tryz.func161) rfl (λC=>?_);simp only[Tryz.ntmps161,Tryz.results161,go_sem];refine wG tK ?_;refine ZL (λi:Nat=>i≤l.length/\∀x,x∈l.take i->p x=false) (λi=>l.length-i) (λi=>(8,.int .i64 i)::(5,.any)::u3 9 10 []) (λ_=>[]) 0 ⟨by omega,by simp⟩ ?_ λi hi=>?_
 ·simp only[go_sem];exact ZU w4 w4 j8
 obtain ⟨hi,hno⟩:=hi;simp only[go_sem];refine wG tK ?_;refine wD (λh=>?_) (λh=>?_)
 ·have hlt:i<l.length:=by simp at h;omega
  have hn:=hf _ (YG hlt);have hg:(l.map ZJ).getD i []=ZJ (l.getD i default):=Fam.getD hlt;have htk:=ZT hlt;have hgi:l[i]? = some (l.getD i default):=by rw[Z1,Z2 hlt];rfl
  generalize l.getD i default=n at hn hg htk hgi;refine wGq tK ?_ ?_ (by simp only[go_sem,hg,ZJ];try exact rfl)
  ·simp[hlt,ZJ]
  refine eb rfl rfl z8 w4 hcal j8 (hn) w4 z6 ?_;refine wG tK ?_;refine wD (λh=>?_) (λh=>?_)
  ·refine wG tK ?_;refine wT ?_;rw[eK hgi hno h];rfl
  ·have hw:IntKind.i64.wrap ((i:Int)+1)=(i:Int)+1:=wrap_small z7 z7;refine wG tK ?_ k0 k9;refine ZB ⟨i+1,⟨by omega,?_⟩,by omega,ZU ?_ ?_ ?_⟩
   ·rw[htk];intro x hx
    rcases List.mem_append.1 hx with hx | hx
    ·exact hno x hx
    ·rw[List.mem_singleton.1 hx];exact h
   ·simp[go_sem]
   ·simp[go_sem]
   ·simp[go_sem,hcaps]
 ·have e:i=l.length:=by simp at h;omega
  refine wG tK ?_;refine wT ?_;rw[e,WA] at hno;rw[WL.2 hno];rfl
theorem pT (l:List Hoard) (hlen:l.length≤100000000) (id:Nat) {f:FuncId} {caps:List AV} {p:Hoard->Bool} (hcal:aP Tryz.prog f) (hpure:(caps.all AV.bw)=true) (hid:id≠7)
  (hf:∀x,x∈l->ag Tryz.prog f (.agg (ZJ x)::caps) [] (λr _=>r=.bool (p x))) :
  ag Tryz.prog 115 [.osl id 2 0 l.length,.fn f caps] [(id,.cells 118 2 (l.map ZJ))] (λr H=>r=.osl id 2 0 (l.filter λx=>!p x).length /\
   ∀i b,ae [(id,.cells 118 2 ((l.filter λx=>!p x).map ZJ++List.replicate (l.length-(l.filter λx=>!p x).length) [.str [],.int .i64 0]))] i=some b->ae H i=some b):=by
 have hcaps:=cu hpure;obtain ⟨q,hv,hq⟩:=fB hpure;refine ZF tK (Tryz.func115) rfl (λC=>?_);simp only[Tryz.ntmps115,Tryz.results115,go_sem];refine wG tK ?_;refine mM rfl rfl z8 w4 QN Qv ⟨_,Tryz.func161,by kernel_rfl,rfl⟩ (q_ l hlen hcal hpure hf) w4 z6 ?_;refine wG tK ?_;refine wD (λh=>?_) (λh=>?_)
 ·refine wG tK ?_;refine wT ?_;have hn:l.findIdx? p=none:=by
   cases e:l.findIdx? p with
   | none=>rfl
   | some k=>rw[e] at h;simp[dp] at h
  have hfl:l.filter (λx=>!p x)=l:=WU.2 λx hx=>by
   simp[WL.1 hn x hx]
  rw[hfl];simp[ae]
 obtain ⟨k,hk⟩:∃k,l.findIdx? p=some k:=by
  cases e:l.findIdx? p with
  | none=>rw[e] at h;simp[dp] at h
  | some k=>exact ⟨k,rfl⟩
 have hkl:k<l.length:=(WK.1 hk).1;have hsp:=eX hk;rw[hk];have hw:IntKind.i64.wrap ((k:Int)+1)=((k+1:Nat):Int):=by rw[Eng.wrap_small z7 z7];rfl
 simp only[dp];refine wG tK ?_ k0 k9;refine ZL (λs:Nat×List Hoard=>DelInv p l s.1 s.2) (λs=>l.length-s.1) (λs=>(5,.int .i64 (((l.take s.1).filter λx=>!p x).length:Nat))::(6,.int .i64 (s.1:Nat))::(7,.any)::u3 16 20 []) (λs=>[(id,.cells 118 2 (s.2.map ZJ))]) (k+1,l) (DelInv.start hk) ?_ λs hs=>?_
 ·have el:((l.take (k+1)).filter λx=>!p x).length=k:=by rw[hsp];simp;omega
  simp only[go_sem,el];exact ZU w4 w4 j8
 obtain ⟨j,L⟩:=s;have hjl:=hs.le;have hL:=hs.len;have hlt:=hs.lt;simp only at hs hjl hL hlt;simp only[go_sem];refine wG tK ?_;refine wD (λh=>?_) (λh=>?_)
 ·have hj:j<l.length:=by simp at h;omega
  have hn:=hf _ (YG hj);have hg:(L.map ZJ).getD j []=ZJ (l.getD j default):=by rw[Fam.getD z7,hs.get hj]
  have hkeep:=hs.ra hj;have hskip:=hs.skip hj;have htk:=ZT hj;generalize l.getD j default=n at hn hg hkeep hskip htk;refine wGq tK ?_ ?_ (by simp only[go_sem,hg,ZJ,hid,Ne.symm hid];try exact rfl)
  ·simp[ZJ];omega
  refine eb rfl rfl z8 w4 hcal j8 (hn) w4 z6 ?_;generalize hm:((l.take j).filter λx=>!p x).length=m at hkeep hlt;have hw1:IntKind.i64.wrap ((j:Int)+1)=((j+1:Nat):Int):=by rw[Eng.wrap_small z7 z7];rfl
  have hw2:IntKind.i64.wrap ((m:Int)+1)=((m+1:Nat):Int):=by rw[Eng.wrap_small z7 z7];rfl
  refine wG tK ?_ QL Zd;refine wD (λh=>?_) (λh=>?_)
  ·have hp:p n=false:=by simpa using h
   obtain ⟨hk1,hk2⟩:=hkeep hp;have bD:=pj ZJ L m n;simp only[ZJ] at bD;have hgl:(L.map ZJ).getD m []=ZJ (L.getD m default):=Fam.getD z7;simp only[ZJ] at hgl;refine wGq tK ?_ ?_ u4
   ·simp[hid,Ne.symm hid];omega
   refine ZB ⟨(j+1,L.set m n),hk1,by simp only;omega,ZU ?_ ?_ ?_⟩
   ·simp[go_sem,hk2]
   ·simp[go_sem,hid,Ne.symm hid,bD]
   ·simp[go_sem,hcaps,-List.map_set]
  ·have hp:p n=true:=by simpa using h
   refine wG tK ?_ p4 QQ;have hsame:((l.take (j+1)).filter λx=>!p x).length=m:=by
    rw[←hm,htk,List.filter_append];simp only[List.filter_cons,hp,Bool.not_true,Bool.false_eq_true,if_false,List.filter_nil,List.append_nil]
   refine ZB ⟨(j+1,L),hskip hp,by simp only;omega,ZU ?_ ?_ ?_⟩
   ·simp[go_sem,hsame,hm]
   ·simp[go_sem,hid,Ne.symm hid]
   ·simp[go_sem,hcaps]
 have e:j=l.length:=by simp at h;omega
 subst e;have hfin:=hs.fin;rw[WA];generalize hd:(l.filter λx=>!p x)=d at *;have hdl:d.length≤l.length:=by rw[←hd];exact WH _ _
 have hcl:=iP ZJ (d:=d) (L:=L) [.str [],.int .i64 0] hfin z7;rw[hL] at hcl;refine wGq tK ?_ ?_ p5
 ·simp only[not_false_eq_true,true_and];omega
 refine wT ?_;simp[ae]
end La
namespace La
open Go Go.Eng
def eqW (w:Int) (l:List Hoard):List Hoard:=l.filter λh=>h.worth==w
theorem rC (w:Int) (l m:List Hoard):eqW w (l++m)=eqW w l++eqW w m:=List.filter_append l m
structure Stab (l P:List Hoard):Prop where
 same:∀w,eqW w P=eqW w l
 cM:P.Pairwise λa b=>b.worth≤a.worth
 mem:∀h,h∈P->h∈l
 len:P.length=l.length
theorem Stab.nil:Stab [] []:=⟨λ_=>rfl,List.Pairwise.nil,λ_ h=>h,rfl⟩
theorem Stab.ins {l P Q:List Hoard} {x:Hoard} (h:Stab l (P++Q)) (hP:∀p,p∈P->x.worth≤p.worth) (hQ:∀q,q∈Q->q.worth<x.worth):Stab (l++[x]) (P++x::Q):=by
 refine ⟨λw=>?_,?_,λy hy=>?_,?_⟩
 ·rw[rC w l,←h.same w,rC w P,rC w P]
  show _++eqW w ([x]++Q)=_
  rw[rC]
  by_cases e:x.worth=w
  ·have:eqW w Q=[]:=by
    unfold eqW;rw[List.filter_eq_nil_iff];intro q hq;have:=hQ q hq;simp;omega
   rw[this];simp
  ·have:eqW w [x]=[]:=by
    unfold eqW;rw[List.filter_eq_nil_iff];intro q hq;rw[List.mem_singleton.1 hq];simpa using e
   rw[this];simp
 ·have hf:=List.pairwise_append.1 h.cM;refine List.pairwise_append.2 ⟨hf.1,List.pairwise_cons.2 ⟨λq hq=>by have:=hQ q hq;omega,hf.2.1⟩,λp hp y hy=>?_⟩
  rcases List.mem_cons.1 hy with rfl | hy
  ·exact hP p hp
  ·exact hf.2.2 p hp y hy
 ·rcases List.mem_append.1 hy with hy | hy
  ·exact WM _ (h.mem y (WM _ hy))
  ·rcases List.mem_cons.1 hy with rfl | hy
   ·simp
   ·exact WM _ (h.mem y (WB _ hy))
 ·have:=h.len;simp only[List.length_append,List.length_cons,List.length_nil] at this ⊢;omega
theorem qM:∀(n:Nat) (P:List Hoard),P.Pairwise (λa b=>b.worth≤a.worth)->(∀h,h∈P->1≤h.worth)->bL P n=P.filter λh=>decide (h.worth≤(n:Int))
 | 0,P,_,hm=>by
  unfold bL
  symm
  rw[List.filter_eq_nil_iff];intro h hh;have:=hm h hh;simp;omega
 | n+1,P,hs,hm=>by
  rw[bL,qM n P hs hm];clear hm
  induction P with
  | nil=>rfl
  | cons p r ih=>
   have ih:=ih (List.pairwise_cons.1 hs).2;have hp:=(List.pairwise_cons.1 hs).1;rw[List.filter_cons,List.filter_cons,List.filter_cons]
   by_cases h1:p.worth=((n+1:Nat):Int)
   ·rw[if_pos QJ,if_neg k7,if_pos k7,List.cons_append,ih]
   ·rw[if_neg QJ]
    by_cases h2:p.worth≤(n:Int)
    ·rw[if_pos Zm,if_pos k7,←ih];have:r.filter (λh=>h.worth==((n+1:Nat):Int))=[]:=by
      rw[List.filter_eq_nil_iff];intro q hq;have:=hp q hq;simp;omega
     rw[this];rfl
    ·rw[if_neg Zm,if_neg k7,ih]
theorem qL {l P:List Hoard} (h:∀w,eqW w P=eqW w l):∀n,bL P n=bL l n
 | 0=>rfl
 | n+1=>by
  unfold bL;rw[qL h n];exact congrArg (·++_) (h _)
theorem Stab.order {l P:List Hoard} (h:Stab l P) (hw:∀x,x∈l->1≤x.worth/\x.worth≤100):P=bL l 100:=by
 rw[←qL h.same 100,qM 100 P h.cM λx hx=>(hw x (h.mem x hx)).1]
 symm
 rw[WU];intro x hx;have:=(hw x (h.mem x hx)).2;simp;omega
end La
namespace La
open Go Go.Eng Go.Proofs
def hoH (l:List Hoard) (id:Nat) (G Y N:Nat->Nat):List (Nat×Blk):=[(id,.cells 118 2 (l.map ZJ))]++pins [id] G Y N
theorem Gw (a b:Hoard) (ha:1≤a.worth/\a.worth≤100) (hb:1≤b.worth/\b.worth≤100):ag Tryz.prog 118 [.agg (ZJ a),.agg (ZJ b)] [] (λr _=>r=.int .i64 (b.worth-a.worth)):=by
 have hw:IntKind.i64.wrap (b.worth-a.worth)=b.worth-a.worth:=Eng.wrap_small z7 z7;unfold ZJ;refine ZF tK (Tryz.func118) rfl (λC=>?_);simp only[Tryz.ntmps118,Tryz.results118,go_sem];refine wG tK ?_ k0 k9;refine wT ?_;rfl
def im (M T:List Hoard):List Hoard:=M++T
def jk (A:List Hoard) (x:Hoard) (T:List Hoard):List Hoard:=A++x::T
theorem xA (A:List Hoard) (x:Hoard) (T:List Hoard):(jk A x T).length=A.length+1+T.length:=by unfold jk;rw[List.length_append,List.length_cons];omega
theorem vB (A:List Hoard) (x:Hoard) (T:List Hoard):((jk A x T).map ZJ).getD A.length []=[.str x.path,.int .i64 x.worth]:=by
 have:((jk A x T).map ZJ).getD A.length []=ZJ ((jk A x T).getD A.length default):=Fam.getD (by rw[xA];omega);rw[this];unfold jk;rw[Z1,WJ z7,Wf];rfl
theorem xB (A:List Hoard) (x y:Hoard) (T:List Hoard):((jk A x T).map ZJ).set A.length [.str y.path,.int .i64 y.worth]=(jk A y T).map ZJ:=by
 show List.set _ _ (ZJ y)=_
 unfold jk;rw[←List.map_set,List.set_append_right _ _ z7,Wf];rfl
theorem sn (A:List Hoard) (y x:Hoard) (T:List Hoard):jk (A++[y]) x T=jk A y (x::T):=by unfold jk;simp
theorem DT (l:List Hoard) (hlen:l.length≤19) (hwo:∀h,h∈l->1≤h.worth/\h.worth≤100) (G Y N:Nat->Nat):ag Tryz.prog 190 [.osl 1000 2 0 l.length,.int .i64 0,.int .i64 l.length,.fn 118 []] (hoH l 1000 G Y N)
  (λr H=>r=.tup []/\Holds (hoH (bL l 100) 1000 G Y N) H):=by
 unfold hoH;refine ZF tK (Tryz.func190) rfl (λC=>?_);simp only[Tryz.ntmps190,Tryz.results190,go_sem];refine wG tK ?_;refine ZL (λq:Nat×List Hoard=>0<q.1/\(q.1≤l.length\/q.1=1)/\Stab (l.take q.1) q.2) (λq=>l.length+1-q.1) (λq=>(8,.int .i64 q.1)::(9,.any)::u3 12 41 []) (λq=>[(1000,.cells 118 2 ((im q.2 (l.drop q.1)).map ZJ))]) (1,l.take 1) ⟨by simp,by simp,?_⟩ ?_ λq hq=>?_
 ·cases l with
  | nil=>exact Stab.nil
  | cons x r=>exact Stab.ins (P:=[]) (Q:=[]) Stab.nil (λp hp=>by cases hp) (λp hp=>by cases hp)
 ·have e0:im (l.take 1) (l.drop 1)=l:=List.take_append_drop 1 l;simp only[go_sem,e0];exact ZU (by simp[go_sem];decide) w4 w4
 obtain ⟨i,M⟩:=q;obtain ⟨hi0,hi,hst⟩:=hq;simp only at hi0 hi hst;simp only[go_sem];refine wG tK ?_;refine wD (λh=>?_) (λh=>?_)
 ·have hlt:i<l.length:=by simp at h;omega
  have hw:=wi1 (i:=i) z7;have hMl:M.length=i:=by rw[hst.len,WO];omega
  have htk:=ZT hlt;have hdr:im M (l.drop i)=jk M (l.getD i default) (l.drop (i+1)):=by unfold im jk;rw[dO hlt]
  have hxw:=hwo _ (YG hlt);have hMw:∀p,p∈M->1≤p.worth/\p.worth≤100:=λp hp=>hwo p (WI (hst.mem p hp))
  rw[hdr];have hRl:(l.drop (i+1)).length≤19:=by rw[Ws];omega
  generalize hR:l.drop (i+1)=R at *;generalize l.getD i default=x at *;refine wG tK ?_;refine ZL (λq:List Hoard×List Hoard=>q.1++q.2=M/\∀p,p∈q.2->p.worth<x.worth) (λq=>q.1.length) (λq=>(9,.int .i64 q.1.length)::u3 18 35 []) (λq=>[(1000,.cells 118 2 ((jk q.1 x (im q.2 R)).map ZJ))]) (M,[]) ⟨by simp,λp hp=>by cases hp⟩ ?_ λq hq=>?_
  ·have e0:im [] R=R:=rfl;simp only[go_sem,e0];exact ZU (by simp[go_sem,hMl]) w4 w4
  obtain ⟨A,B⟩:=q;obtain ⟨hAB,hB⟩:=hq;simp only at hAB hB;have hAl:A.length≤19:=by have:=congrArg List.length hAB;simp at this;omega
  have hback:(∀p,p∈A->x.worth≤p.worth)->Stab (l.take (i+1)) (A++x::B):=λh=>by rw[htk];rw[←hAB] at hst;exact Stab.ins hst h hB
  have hout:im (A++x::B) R=jk A x (im B R):=by unfold im jk;simp
  have hout2:im (A++x::B) (l.drop (i+1))=jk A x (im B R):=by rw[hR];exact hout
  simp only[go_sem];refine wG tK ?_
  rcases List.eq_nil_or_concat A with hA | ⟨A',y,hA⟩
  ·subst hA;refine ZW ZM ?_;refine ZS rfl ?_;refine sN tK 4 ?_;refine fu 21 z6 (λc21 h21=>?_);simp only[go_sem];have hc:c21=false:=by rw[←h21];simp
   subst hc
   iterate 11 refine sS ?_
   refine sSB ?_;refine sN tK 1 ?_;refine sE ?_;refine wKd ?_
   try simp only[go_sem,gA,gB,gC]
   refine wDF (hb:=(rfl)) (hk:=?_);refine wG tK ?_ k0 k9;refine ZB ⟨(i+1,[]++x::B),⟨by simp only;omega,by simp only;omega,hback λp hp=>by cases hp⟩,by simp only;omega,ZU ?_ ?_ ?_⟩
   ·simp[go_sem]
   ·rw[hout2];simp[go_sem]
   ·simp[go_sem]
  ·rw[List.concat_eq_append] at hA;subst hA;have hj:((A'++[y]).length:Int)=((A'.length+1:Nat):Int):=by simp
   have hjn:(A'++[y]).length=A'.length+1:=by simp
   have hwm:IntKind.i64.wrap (((A'.length+1:Nat):Int)-1)=((A'.length:Nat):Int):=by rw[Eng.wrap_small z7 z7];omega
   have hyw:=hMw y (by rw[←hAB];simp);have hcmp:=Gw x y hxw hyw;unfold ZJ at hcmp;have hg:=vB (A'++[y]) x (im B R);rw[hjn] at hg;have hgm:=vB A' y (x::im B R);rw[←sn] at hgm;have hT:(im B R).length≤60:=by
    have:=congrArg List.length hAB;unfold im;simp at this ⊢;omega
   have hAi:A'.length+1<l.length:=by have:=congrArg List.length hAB;simp at this;omega
   have hlen2:=xA (A'++[y]) x (im B R);have hs1:=xB (A'++[y]) x y (im B R);rw[hjn] at hlen2 hs1;have hs2:=xB A' y x (y::im B R);rw[←sn] at hs2;have hgm2:=vB A' y (y::im B R);rw[←sn] at hgm2;have hnext:jk A' x (im (y::B) R)=jk A' x (y::im B R):=rfl;generalize jk (A'++[y]) x (im B R)=Q1 at *;generalize jk (A'++[y]) y (im B R)=Q2 at *;rw[hjn];refine ZW ZM ?_;refine ZS rfl ?_;refine sN tK 4 ?_;refine fu 21 z6 (λc21 h21=>?_);simp only[go_sem];have hc:c21=true:=by rw[←h21];simp
   subst hc;refine sNq tK 10 ?_ ?_ z6 z6 (by simp only[go_sem,hg,hgm,hwm,ZJ];try exact rfl)
   ·simp[hg,hgm,hwm,ZJ,hlen2];try omega
   refine sCC Tryz.func118 (hf:=λhb=>(hcmp)) (hk:=?_);refine sN tK 2 ?_;refine sE ?_;refine wKd ?_
   try simp only[go_sem,gA,gB,gC]
   refine wD (λh=>?_) (λh=>?_)
   ·have hyx:y.worth<x.worth:=by simp at h;omega
    refine wG tK ?_;refine ZW ZM ?_;refine qq 2 [0,1,3,4,5,6,7,8,9,10,11,12,13,14,15,16,17] [0,1,0,2,3,4,5,6,7,8,9,10,11,12,13,14,15,16] rfl rfl rfl (λ_ _ _ h=>h) w9 w9 (by simp[fj,sV,G8];exact rfl) z8 ?_
    try simp only[go_sem,gA,gB,gC]
    refine ZS rfl ?_;refine sNq tK 14 ?_ ?_ z6 z6 (by simp only[go_sem,hg,hgm,hwm];try exact rfl)
    ·simp[hg,hgm,hwm,hlen2];try omega
    refine kx tK rfl rfl z8 z8 z8 Qg z6 ?_ z6 z6 z6 ?_
    ·simp[hg,hgm,hwm,hlen2];try omega
    refine sNq tK 1 ?_ ?_
    ·simp[hg,hgm,hwm,hlen2];try omega
    refine kx tK rfl rfl z8 z8 z8 Qg z6 ?_ z6 z6 z6 ?_
    ·simp[hg,hgm,hwm,hlen2];try omega
    refine sE ?_;refine wKd ?_
    try simp only[go_sem,gA,gB,gC]
    refine wG tK ?_ (by simp only[go_sem,hwm,hg,hgm,hs1,hgm2,hs2];try exact rfl) (by simp[go_sem,hwm,hg,hgm,hs1,hgm2,hs2]);refine ZB ⟨(A',y::B),⟨by rw[←hAB];simp,λp hp=>?_⟩,by simp,ZU ?_ ?_ ?_⟩
    ·rcases List.mem_cons.1 hp with rfl | hp
     ·exact hyx
     ·exact hB p hp
    ·simp[go_sem]
    ·simp[go_sem,hnext]
    ·simp[go_sem]
   ·have hyx:x.worth≤y.worth:=by simp at h;omega
    refine wG tK ?_ k0 k9;refine ZB ⟨(i+1,(A'++[y])++x::B),⟨by simp only;omega,by simp only;omega,hback λp hp=>?_⟩,by simp only;omega,ZU ?_ ?_ ?_⟩
    ·have hf:=hst.cM;rw[←hAB,List.pairwise_append] at hf
     rcases List.mem_append.1 hp with hp | hp
     ·have:=(List.pairwise_append.1 hf.1).2.2 p hp y y7;omega
     ·rw[List.mem_singleton.1 hp];exact hyx
    ·simp[go_sem]
    ·rw[hout2];simp[go_sem]
    ·simp[go_sem]
 ·have e:l.take i=l:=Z4 (by simp at h;omega);rw[e] at hst;have hM:=hst.order hwo;have e0:im M (l.drop i)=bL l 100:=by unfold im;rw[Wy (by simp at h;omega),List.append_nil,hM]
  rw[e0];refine wG tK ?_;refine kE ⟨_,_,rfl,trivial,.tup [],.inr (.inl rfl),rfl,?_⟩;simp only[pins,List.cons_append,List.nil_append,List.map_cons,List.map_nil]
  repeat' refine ZH ?_ ?_
  all_goals first | exact YH _ | rfl | simp[go_sem]
theorem zp (l:List Hoard) (hne:¬l=[]) (hlen:l.length≤19) (hwo:∀h,h∈l->1≤h.worth/\h.worth≤100) (G Y N:Nat->Nat):ag Tryz.prog 162 [.osl 1000 2 0 l.length,.int .i64 l.length,.fn 118 []] (hoH l 1000 G Y N)
  (λr H=>r=.tup []/\Holds (hoH (bL l 100) 1000 G Y N) H):=by
 have hs:=DT l hlen hwo;unfold hoH at hs;unfold hoH;refine ZF tK (Tryz.func162) rfl (λC=>?_);simp only[Tryz.ntmps162,Tryz.results162,go_sem];refine wG tK ?_;refine ZL (λ_:Unit=>True) (λ_=>0) (λ_=>u3 11 12 []) (λ_=>[]) () trivial ?_ λ_ _=>?_
 ·simp only[go_sem];exact ZU w4 w4 w4
 simp only[go_sem];refine wG tK ?_;refine wDF (hb:=k7) (hk:=?_);refine wG tK ?_;refine cE rfl (ep rfl z8 w4 ⟨_,Tryz.func190,by kernel_rfl,rfl⟩ [1000] y8 w4 y7 Qo w4 w4 (hs) y9) ?_;refine wG tK ?_;refine ZL (λ_:Unit=>True) (λ_=>0) (λ_=>u3 28 35 []) (λ_=>[]) () trivial ?_ λ_ _=>?_
 ·simp only[go_sem];exact ZU w4 w4 w4
 simp only[go_sem];refine wG tK ?_;refine wDF (hb:=k7) (hk:=?_);refine wG tK ?_;refine kE ⟨_,_,rfl,trivial,.tup [],.inr (.inl rfl),rfl,?_⟩;simp only[pins,List.cons_append,List.nil_append,List.map_cons,List.map_nil]
 repeat' refine ZH ?_ ?_
 all_goals first | exact YH _ | rfl | simp[go_sem]
theorem DU (l:List Hoard) (hne:¬l=[]) (hlen:l.length≤19) (hwo:∀h,h∈l->1≤h.worth/\h.worth≤100) (G Y N:Nat->Nat):ag Tryz.prog 117 [.osl 1000 2 0 l.length,.fn 118 []] (hoH l 1000 G Y N)
  (λr H=>r=.tup []/\Holds (hoH (bL l 100) 1000 G Y N) H):=by
 have hs:=zp l hne hlen hwo;unfold hoH at hs;unfold hoH;refine ZF tK (Tryz.func117) rfl (λC=>?_);simp only[Tryz.ntmps117,Tryz.results117,go_sem];refine wG tK ?_;refine cE rfl (ep rfl z8 w4 ⟨_,Tryz.func162,by kernel_rfl,rfl⟩ [1000] y8 w4 y7 Qo w4 w4 (hs) y9) ?_;refine wG tK ?_;refine kE ⟨_,_,rfl,trivial,.tup [],.inr (.inl rfl),rfl,?_⟩;simp only[pins,List.cons_append,List.nil_append,List.map_cons,List.map_nil]
 repeat' refine ZH ?_ ?_
 all_goals first | exact YH _ | rfl | simp[go_sem]
theorem BO:ag Tryz.prog 190 [.sl [],.int .i64 0,.int .i64 0,.fn 118 []] [] (λr _=>r=.tup []):=by
 refine ZF tK (Tryz.func190) rfl (λC=>?_);simp only[Tryz.ntmps190,Tryz.results190,go_sem];refine wG tK ?_;refine ZL (λ_:Unit=>True) (λ_=>0) (λ_=>[]) (λ_=>[]) () trivial ?_ λ_ _=>?_
 ·simp only[go_sem];exact ZU w4 w4 w4
 simp only[go_sem];refine wG tK ?_;refine wDF (hb:=j6) (hk:=?_);refine wG tK ?_;refine kE ⟨_,_,rfl,trivial,.tup [],.inr (.inl rfl),rfl⟩
theorem xz:ag Tryz.prog 162 [.sl [],.int .i64 0,.fn 118 []] [] (λr _=>r=.tup []):=by
 refine ZF tK (Tryz.func162) rfl (λC=>?_);simp only[Tryz.ntmps162,Tryz.results162,go_sem];refine wG tK ?_;refine ZL (λ_:Unit=>True) (λ_=>0) (λ_=>[]) (λ_=>[]) () trivial ?_ λ_ _=>?_
 ·simp only[go_sem];exact ZU w4 w4 w4
 simp only[go_sem];refine wG tK ?_;refine wDF (hb:=j6) (hk:=?_);refine wG tK ?_;refine wC Tryz.func190 (hf:=(BO)) (hk:=?_);refine wG tK ?_;refine ZL (λ_:Unit=>True) (λ_=>0) (λ_=>[]) (λ_=>[]) () trivial ?_ λ_ _=>?_
 ·simp only[go_sem];exact ZU w4 w4 w4
 simp only[go_sem];refine wG tK ?_;refine wDF (hb:=j6) (hk:=?_);refine wG tK ?_;refine kE ⟨_,_,rfl,trivial,.tup [],.inr (.inl rfl),rfl⟩
theorem BP:ag Tryz.prog 117 [.sl [],.fn 118 []] [] (λr _=>r=.tup []):=by
 refine ZF tK (Tryz.func117) rfl (λC=>?_);simp only[Tryz.ntmps117,Tryz.results117,go_sem];refine wG tK ?_;refine wC Tryz.func162 (hf:=(xz)) (hk:=?_);refine wG tK ?_;refine kE ⟨_,_,rfl,trivial,.tup [],.inr (.inl rfl),rfl⟩
theorem nv (d:List Hoard) (hd:d.length≤100000000):ag Tryz.prog 70 [.sl (d.map ZJ)] [] (λr H=>r=.osl 7 2 0 d.length/\∀i b,ae [(7,.cells 118 2 (d.map ZJ))] i=some b->ae H i=some b):=by
 refine ZF tK (Tryz.func70) rfl (λC=>?_);simp only[Tryz.ntmps70,Tryz.results70,go_sem];refine wG tK ?_;refine lO tK rfl rfl rfl x6 x6 (λb hb=>?_);simp only[go_sem];refine wG tK ?_;refine wD (λh=>?_) (λh=>?_)
 ·have hd0:d=[]:=by
   have:=hb h;cases d with
   | nil=>rfl
   | cons x r=>simp at this
  subst hd0;refine wG tK ?_;refine bf (le_empty 7 118 2 z8) ?_;simp only[go_sem];refine kF ⟨_,_,z8,by simp[go_sem],.osl 7 2 0 0,.inr (.inr ⟨rfl,.inr ⟨7,2,0,rfl⟩⟩),?_⟩;simp[go_sem]
 ·refine wGq tK ?_ ?_
  ·simp;omega
  refine wT ?_;simp[go_sem]
theorem Gf (n r:Int):ag Tryz.prog 34 [.int .i64 n,.int .i64 r] [] (λx _=>x=.agg (ZC (eZ n r))):=by
 refine ag.kV (X:=.agg [.int .i64 n,.bool false,.int .i64 r,.nils,.nils,.nils,.nils,.int .i64 0,.int .i64 0,.int .i64 0]) ?_ rfl;refine ZF tK (Tryz.func34) rfl (λC=>?_);simp only[Tryz.ntmps34,Tryz.results34,go_sem];refine wG tK ?_;refine wT ?_;rfl
theorem mz (r:Reply):ag Tryz.prog 22 [.agg (aj r),.agg (aj r)] [] (λx _=>x=.bool true):=by
 unfold aj;refine ZF tK (Tryz.func22) rfl (λC=>?_);simp only[Tryz.ntmps22,Tryz.results22,go_sem];refine wG tK ?_ j5 (by simp[go_sem,beq_self_eq_true,cond_true]);refine wT ?_;rfl
theorem yT (rooms:List Int) (hr:rooms.length≤100000000):ag Tryz.prog 20 [.sl (rooms.map ZI)] [] (λr _=>r=.int .i64 (cz rooms)):=by
 have hE:cz rooms=if rooms.length<1\/3<rooms.length then 5 else if rooms.all (λn=>decide (3≤n)&&decide (n≤24)) then 0 else 3:=rfl;generalize cz rooms=E at *;refine ZF tK (Tryz.func20) rfl (λC=>?_);simp only[Tryz.ntmps20,Tryz.results20,go_sem];refine wR ?_;refine wN tK 1 ?_;refine wR ?_;refine wN tK 8 ?_;refine bx 12 z6 (λc12 h12=>?_);simp only[go_sem];have hc:c12=true↔(rooms.length<1\/3<rooms.length):=by
  rw[←h12]
  by_cases h1:rooms.length<1
  ·simp[h1];omega
  ·simp[h1];omega
 clear h12;refine wG tK ?_
 by_cases hb:rooms.length<1\/3<rooms.length
 ·rw[if_pos hb] at hE;subst hE;refine wDT (hb:=(hc.2 hb)) (hk:=?_);refine wG tK ?_;refine wT ?_;rfl
 ·rw[if_neg hb] at hE;refine wDF (hb:=(by simpa using λh0=>hb (hc.1 h0))) (hk:=?_);refine wG tK ?_;refine ZL (λi:Nat=>i≤rooms.length/\(rooms.take i).all (λn=>decide (3≤n)&&decide (n≤24))=true) (λi=>rooms.length-i) (λi=>(4,.any)::(15,.int .i64 i)::u3 16 10 []) (λ_=>[]) 0 ⟨by omega,rfl⟩ ?_ λi hi=>?_
  ·simp only[go_sem];exact ZU w4 w4 w4
  obtain ⟨hi,hall⟩:=hi;simp only[go_sem];refine wG tK ?_;refine wD (λh=>?_) (λh=>?_)
  ·have hlt:i<rooms.length:=by simp at h;omega
   have hg:(rooms.map ZI).getD i []=[.int .i64 (rooms.getD i 0)]:=by
    rw[Z1,Z5,Z1,Z2 hlt];rfl
   have how':=wi1 (i:=i) z7;have htk:rooms.take (i+1)=rooms.take i++[rooms.getD i 0]:=by
    rw[List.take_add_one,Z1,Z2 hlt];rfl
   generalize hn:rooms.getD i 0=n at *;refine wR ?_;refine wNq tK 3 ?_ ?_ z6 z6 x8
   ·simp[hg,hlt]
   refine wR ?_;refine wN tK 6 ?_;refine bx 24 z6 (λc24 h24=>?_);simp only[go_sem];have hc3:c24=true↔¬(3≤n/\n≤24):=by
    rw[←h24]
    by_cases h1:n<3
    ·simp[h1];omega
    ·simp[h1];omega
   clear h24;refine wG tK ?_
   by_cases hok:3≤n/\n≤24
   ·refine wDF (hb:=(by simpa using λh0=>hc3.1 h0 hok)) (hk:=?_);refine wG tK ?_ j0 QF;refine ZB ⟨i+1,⟨by omega,by rw[htk,List.all_append,hall];simp[hok]⟩,by omega,ZU ?_ ?_ ?_⟩
    ·simp[go_sem]
    ·simp[go_sem]
    ·simp[go_sem]
   ·have hE3:E=3:=by
     rw[hE,if_neg];simp only[List.all_eq_true,Bool.and_eq_true,decide_eq_true_eq];intro hx;have:=hx n (by rw[←hn,Z1,Z2 hlt];exact Wi _);exact hok this
    subst hE3;refine wDT (hb:=(hc3.2 hok)) (hk:=?_);refine wG tK ?_;refine wT ?_;rfl
  ·have e:i=rooms.length:=by simp at h;omega
   subst e;rw[WA] at hall;rw[if_pos hall] at hE;subst hE;refine wG tK ?_;refine wT ?_;rfl
theorem Bo (rooms:List Int) (hr:rooms.length≤100000000):ag Tryz.prog 17 [.sl (rooms.map ZI)] [] (λr _=>r=A6 rooms):=by
 have hns:=Ha;unfold ZQ at hns;have hwr:=yT rooms hr;have hsu:=zF rooms;have hle:=B6 rooms;have h0:nx rooms 0=[]:=rfl;have hW:A6 rooms=.tup [.agg (bI (if cz rooms=0 then ⟨bj,nx rooms rooms.length⟩ else Fb)),.int .i64 (cz rooms)]:=rfl;have hE:cz rooms=0->rooms.length≤3:=λh=>by
  unfold cz at h;split at h
  ·cases h
  ·omega
 rw[hW];generalize cz rooms=E at *;generalize nx rooms=P at *;clear hW;refine ZF tK (Tryz.func17) rfl (λC=>?_);simp only[Tryz.ntmps17,Tryz.results17,go_sem];refine wG tK ?_;refine wC Tryz.func20 (hf:=(hwr)) (hk:=?_);refine wG tK ?_
 by_cases hb:E=0
 ·have h3:=hE hb;subst hb;refine wDF (hb:=y7) (hk:=?_);refine wG tK ?_;refine wC Tryz.func33 (hf:=(hns)) (hk:=?_);refine wG tK ?_;refine bf (le_empty 29 47 10 z8) ?_;simp only[go_sem];refine bf (vG 5 ([[.sl ([aA].map ZN),.int .i64 1,.sl [],.osl 29 10 0 0]]) z6 (by simp[mX,vE,wk])) ?_;simp only[go_sem];refine ZL (λi:Nat=>i≤rooms.length) (λi=>rooms.length-i) (λi=>(6,.any)::(7,.any)::(18,.int .i64 i)::u3 19 13 [])
   (λi=>[(5,.cells 35 4 [[.sl ([aA].map ZN),.int .i64 1,.sl [],.osl 29 10 0 (P i).length]]),(29,.cells 47 10 ((P i).map ZC))]) 0 z7 ?_ λi hi=>?_
  ·rw[h0];simp only[go_sem];exact ZU w4 w4 w4
  simp only[go_sem];refine wG tK ?_;refine wD (λh=>?_) (λh=>?_)
  ·have hlt:i<rooms.length:=by simp at h;omega
   have hg:(rooms.map ZI).getD i []=[.int .i64 (rooms.getD i 0)]:=by
    rw[Z1,Z5,Z1,Z2 hlt];rfl
   have how':=wi1 (i:=i) z7;have hs1:=hsu i;have hl1:=hle i;generalize hn:rooms.getD i 0=n at *;have hcn:=Gf (i:Int) n;generalize P i=Q at *;have htq:List.take Q.length (Q.map ZC)=Q.map ZC:=Z4 y7;unfold ZC at hcn;refine wR ?_;refine wNq tK 5 ?_ ?_ z6 z6 x8
   ·simp[hg,hlt]
   refine ZW ZM ?_;refine ZS rfl ?_;refine sN tK 4 ?_;refine sC Tryz.func34 (hf:=(hcn)) (hk:=?_);refine sW tK ?_;refine sE ?_;refine jr (dR 29 5 z6 j9) ?_;simp only[go_sem];refine dSq tK ?_ ?_
   ·simp[go_sem,rowsOf,htq,refs];exact ⟨by omega,λx _=>pE _ x⟩
   simp only[go_sem];refine dS tK ?_;refine dS tK ?_;refine wKd ?_
   try simp only[go_sem,gA,gB,gC]
   refine wG tK ?_ j0 QF;refine ZB ⟨i+1,by omega,by omega,ZU ?_ ?_ ?_⟩
   ·simp[go_sem]
   ·simp[go_sem,hs1,htq,ZC,eZ]
   ·simp[go_sem]
  ·have e:i=rooms.length:=by simp at h;omega
   subst e;have hl1:=hle rooms.length;generalize P rooms.length=Q at *;have htq:List.take Q.length (Q.map ZC)=Q.map ZC:=Z4 y7;refine wG tK ?_;refine ZZ 29 rfl (lK _) ?_;simp only[go_sem,htq];refine wT ?_;rfl
 ·refine wDT (hb:=(by simp[hb])) (hk:=?_);refine wG tK ?_;refine bf (ct 2) ?_;simp only[go_sem];refine wT ?_;rw[if_neg hb];rfl
end La
namespace La
open Go Go.Eng
noncomputable def rsW:Wor->List Step->List Reply
 | _,[]=>[]
 | w,x::l=>(ai w x).r::rsW (ai w x).w l
noncomputable def bO (w:Wor) (l:List Step):Wor:=l.foldl (λw x=>(ai w x).w) w
theorem bF (w:Wor) (x:Step) (l:List Step):rsW w (x::l)=(ai w x).r::rsW (ai w x).w l:=rfl
theorem jC:∀(l:List Step) (w:Wor),(rsW w l).length=l.length
 | [],_=>rfl
 | x::l,w=>by unfold rsW;rw[List.length_cons,List.length_cons,jC l]
theorem nd:∀(l m:List Step) (w:Wor),rsW w (l++m)=rsW w l++rsW (bO w l) m
 | [],m,w=>rfl
 | x::l,m,w=>by
  show (ai w x).r::rsW (ai w x).w (l++m)=_
  rw[nd l m];rfl
theorem td (l m:List Step) (w:Wor):bO w (l++m)=bO (bO w l) m:=by unfold bO;rw[List.foldl_append]
theorem G9 {B T:Nat} {w:Wor} (h:WInv B T w) (l:List Step):∃B T,WInv B T (bO w l):=⟨_,_,nE l h⟩
def jy (rooms:List Int) (l:List Step):Int:=if cz rooms≠0 then cz rooms else if 80<l.length then 5 else 0
noncomputable def sP (rooms:List Int) (l:List Step):Wor:=if jy rooms l=0 then bO (bo rooms) l else ⟨⟨[],0,[]⟩,[]⟩
noncomputable def A7 (rooms:List Int) (l:List Step):List Reply:=if jy rooms l=0 then rsW (bo rooms) l else []
theorem sQ {rooms:List Int} {l:List Step} (h:jy rooms l=0):cz rooms=0/\l.length≤80:=by
 unfold jy at h
 by_cases h1:cz rooms=0
 ·rw[if_neg QJ] at h
  by_cases h2:80<l.length
  ·rw[if_pos h2] at h;cases h
  ·exact ⟨h1,by omega⟩
 ·rw[if_pos h1] at h;exact absurd h h1
theorem Cj {w:Wor} {l:List Step} {i:Nat} (h:i<l.length):bO w (l.take (i+1))=(ai (bO w (l.take i)) (l.getD i default)).w:=by
 rw[ZT h,td];rfl
theorem EE {w:Wor} {l:List Step} {i:Nat} (h:i<l.length):rsW w (l.take (i+1))=rsW w (l.take i)++[(ai (bO w (l.take i)) (l.getD i default)).r]:=by
 rw[ZT h,nd];rfl
theorem mu {rooms:List Int} (h:cz rooms=0) (l:List Step):WInv (20*l.length) (300*l.length) (bO (bo rooms) l):=Bv h l
theorem tQ {rooms:List Int} (h:cz rooms=0) (l:List Step) (i:Nat):WInv (20*l.length) (300*l.length) (bO (bo rooms) (l.take i)):=by
 have:=mu h (l.take i);rw[WO] at this;exact ⟨this.srv.mono z7,λc hc=>(this.cli c hc).mono z7 z7,this.len⟩
def d_ (t:List Node) (f:Int):Node×Int:=match af t f with
 | some n=>(n,0)
 | none=>(ax,6)
def tR (t:List Node):List (List UInt8)->Node×Int->Node×Int
 | [],q=>if q.2=0 then q else (ax,q.2)
 | s::r,q=>if q.2≠0 then (ax,q.2) else if q.1.dir=false then (ax,8) else match ay q.1 s with
  | none=>(ax,6)
  | some f=>tR t r (d_ t f)
def tGo (t:List Node) (l:List (List UInt8)):Node×Int:=tR t l (d_ t 0)
theorem mS {B T:Nat} {u:U} (h:ij B T u) (ha:u.c.away=false) (f w:Int):((aO u f w).n,(aO u f w).e)=d_ u.s.tree f:=by
 unfold aO d_;cases hn:bg u.c.cache f with
 | some n=>
  unfold bg at hn;obtain ⟨k,hk,rfl⟩:=WN.1 hn;have hm:=List.mem_of_find?_eq_some hk;have hf:k.node.fid=f:=by simpa using List.find?_some hk
  have ht:=((h.cli.here ha).2 k hm).2;have:af u.s.tree f=some k.node:=(ZO h.srv.hist.bV.up).2 ⟨ht,hf⟩;rw[this]
 | none=>
  simp only[ha,Bool.false_eq_true,if_false];cases af u.s.tree f<;>rfl
theorem xq {B:Nat} {t:List Node} (w:Int):∀(l:List (List UInt8)) (T:Nat) (g:Got),ij B T g.u->g.u.c.away=false->g.u.s.tree=t->((goR w l g).n,(goR w l g).e)=tR t l (g.n,g.e)
 | [],T,g,h,ha,ht=>by
  unfold goR tR;split
  ·rfl
  ·rfl
 | s::r,T,g,h,ha,ht=>by
  unfold goR tR;simp only;split
  ·rfl
  ·split
   ·rfl
   ·cases he:ay g.n s with
    | none=>rfl
    | some f=>
     simp only;have hi:=dQ g.u f w;have h2:=xq (t:=t) w r (T+1) (aO g.u f w) (cg h f w) (hi.away.trans ha) (by rw[hi.s];exact ht);rw[h2,mS h ha f w,ht]
theorem oE {B T:Nat} {u:U} (h:ij B T u) (ha:u.c.away=false) (l:List (List UInt8)) (w:Int):((goU u l w).n,(goU u l w).e)=tGo u.s.tree l:=by
 have hi:=dQ u 0 w;unfold goU tGo;have:=xq (t:=u.s.tree) w l (T+1) (aO u 0 w) (cg h 0 w) (hi.away.trans ha) (by rw[hi.s]);rw[this,mS h ha 0 w]
def Iz (kind:Int) (q:Node×Int):Reply:=
 if q.2≠0 then ⟨q.2,0,0,[]⟩
 else if kind=1 then (if q.1.dir=true then ⟨9,0,0,[]⟩ else ⟨0,0,0,q.1.data⟩)
 else if q.1.dir=true then ⟨0,0,0,qG q.1.entries⟩ else ⟨8,0,0,[]⟩
def kv (kind:Int) (t:List Node) (path:List UInt8):Reply:=if (ah path).2≠0 then bG (ah path).2 else Iz kind (tGo t (ah path).1)
theorem ni {B T:Nat} {u:U} (h:ij B T u) (ha:u.c.away=false) (x:Step) (hk:x.kind=1\/x.kind=2):(ar u x).r=kv x.kind u.s.tree x.path:=by
 have hg:=oE h ha (ah x.path).1 0;unfold ar kv;rw[if_pos hk,←hg];split
 ·rfl
 ·rfl
theorem ly {t:List Node}:∀(l:List (List UInt8)) {q:Node×Int},q.2≠0->tR t l q=(ax,q.2)
 | [],q,h=>by unfold tR;rw[if_neg h]
 | s::r,q,h=>by unfold tR;rw[if_pos h]
theorem nj {t:List Node} (s:List UInt8) (r:List (List UInt8)) {q:Node×Int} (h:q.2=0):tR t (s::r) q=if q.1.dir=false then (ax,8) else match ay q.1 s with
  | none=>(ax,6)
  | some f=>tR t r (d_ t f):=by
 conv=>lhs;unfold tR
 rw[if_neg Zs]
 try rfl
theorem EU (t:List Node):∀(l m:List (List UInt8)) (q:Node×Int),tR t (l++m) q=tR t m (tR t l q)
 | [],m,q=>by
  rw[List.nil_append]
  by_cases h:q.2=0
  ·rw[show tR t [] q=q by unfold tR;rw[if_pos h]]
  ·rw[ly m h,ly [] h,ly m (show (ax,q.2).2≠0 from h)]
 | s::r,m,q=>by
  rw[List.cons_append]
  by_cases h:q.2=0
  ·rw[nj _ _ h,nj _ _ h];split
   ·exact (ly (q:=(ax,8)) m j6).symm
   ·cases ay q.1 s with
    | none=>exact (ly (q:=(ax,6)) m j6).symm
    | some f=>exact EU t r m (d_ t f)
  ·rw[ly _ h,ly (s::r) h,ly m (show (ax,q.2).2≠0 from h)]
def upd (f:Int) (n2:Node) (m:Node):Node:=if m.fid=f then n2 else m
theorem tY {u:U} (ha:u.c.away=false) (a:Act) (seen:Int):bC u a seen=fo u a:=by unfold bC;rw[if_neg Qu]
theorem CH {l:List (List UInt8)} (h:l.length≠0):l.take (l.length-1)++[l.getD (l.length-1) []]=l:=by
 have hi:l.length-1<l.length:=by omega
 have:=ZT hi;rw[show l.length-1+1=l.length by omega,WA] at this;exact this.symm
structure AwG (g g':Got):Prop where
 n:g'.n=g.n
 e:g'.e=g.e
 c:g'.u.c=g.u.c
 away:g.u.c.away=true
structure AwD (g g':GotD):Prop where
 n:g'.n=g.n
 name:g'.name=g.name
 e:g'.e=g.e
 c:g'.u.c=g.u.c
 away:g.u.c.away=true
structure AwE (g g':GotE):Prop where
 e:g'.e=g.e
 c:g'.u.c=g.u.c
 away:g.u.c.away=true
structure AwP (g g':GotP):Prop where
 d:g'.d=g.d
 name:g'.name=g.name
 n:g'.n=g.n
 e:g'.e=g.e
 c:g'.u.c=g.u.c
 away:g.u.c.away=true
structure AwS (g g':GotS):Prop where
 r:g'.r=g.r
 c:g'.u.c=g.u.c
 away:g.u.c.away=true
def jn (N:Int->Option Node) (f:Int):Node×Int:=match N f with
 | some n=>(n,0)
 | none=>(ax,12)
def aR (N:Int->Option Node):List (List UInt8)->Node×Int->Node×Int
 | [],q=>if q.2=0 then q else (ax,q.2)
 | s::r,q=>if q.2≠0 then (ax,q.2) else if q.1.dir=false then (ax,8) else match ay q.1 s with
  | none=>(ax,6)
  | some f=>aR N r (jn N f)
def aGo (N:Int->Option Node) (l:List (List UInt8)):Node×Int:=aR N l (jn N 0)
theorem uF (l:List Kept) (fid f w c:Int):bg (l.map (eE f w c)) fid=bg l fid:=by
 unfold bg
 induction l with
 | nil=>rfl
 | cons k r ih=>
  rw[List.map_cons,List.find?_cons,List.find?_cons,eB];split
  ·simp[eB]
  ·exact ih
theorem oD {u:U} (ha:u.c.away=true) (f w:Int):((aO u f w).n,(aO u f w).e)=jn (bg u.c.cache) f/\∀k,bg (aO u f w).u.c.cache k=bg u.c.cache k:=by
 unfold aO jn;cases hn:bg u.c.cache f with
 | some n=>exact ⟨rfl,λk=>uF _ _ _ _ _⟩
 | none=>
  simp only[ha,if_true];exact ⟨trivial,λk=>uF _ _ _ _ _⟩
theorem AN (w:Int):∀(l:List (List UInt8)) (g:Got) (N:Int->Option Node),g.u.c.away=true->(∀k,bg g.u.c.cache k=N k)->((goR w l g).n,(goR w l g).e)=aR N l (g.n,g.e)/\∀k,bg (goR w l g).u.c.cache k=N k
 | [],g,N,ha,hN=>by
  unfold goR aR;split
  ·exact ⟨rfl,hN⟩
  ·exact ⟨rfl,hN⟩
 | s::r,g,N,ha,hN=>by
  unfold goR aR;simp only;split
  ·exact ⟨rfl,hN⟩
  ·split
   ·exact ⟨rfl,hN⟩
   ·cases he:ay g.n s with
    | none=>exact ⟨rfl,hN⟩
    | some f=>
     simp only;have hi:=dQ g.u f w;obtain ⟨h1,h2⟩:=oD ha f w;have hf:bg g.u.c.cache=N:=funext hN;obtain ⟨h3,h4⟩:=AN w r (aO g.u f w) N (hi.away.trans ha) (λk=>(h2 k).trans (hN k));rw[h3,h1,hf];exact ⟨rfl,h4⟩
theorem AR {u:U} (ha:u.c.away=true) (l:List (List UInt8)) (w:Int):((goU u l w).n,(goU u l w).e)=aGo (bg u.c.cache) l/\∀k,bg (goU u l w).u.c.cache k=bg u.c.cache k:=by
 have hi:=dQ u 0 w;obtain ⟨h1,h2⟩:=oD ha 0 w;obtain ⟨h3,h4⟩:=AN w l (aO u 0 w) (bg u.c.cache) (hi.away.trans ha) h2;unfold goU aGo;rw[h3,h1];exact ⟨rfl,h4⟩
theorem Au {N:Int->Option Node} (s:List UInt8) (r:List (List UInt8)) {q:Node×Int} (h:q.2=0):aR N (s::r) q=if q.1.dir=false then (ax,8) else match ay q.1 s with
  | none=>(ax,6)
  | some f=>aR N r (jn N f):=by
 conv=>lhs;unfold aR
 rw[if_neg Zs]
structure Sub2 (N N2:Int->Option Node) (f:Int) (n n2:Node):Prop where
 at_:N f=some n
 at2:N2 f=some n2
 other:∀k,k≠f->N2 k=N k\/N2 k=none
 cc:∀k m,N k=some m->m.fid=k
 fid:n2.fid=n.fid
 dir:n2.dir=n.dir
 ent:n2.entries=n.entries
theorem uE {l:List Kept} {k:Int} {m:Node} (h:bg l k=some m):∃x,x∈l/\x.node=m/\m.fid=k:=by
 unfold bg at h;obtain ⟨x,hx,rfl⟩:=WN.1 h;exact ⟨x,List.mem_of_find?_eq_some hx,rfl,by simpa using List.find?_some hx⟩
theorem oQ:∀{l:List Kept},(l.map λx=>x.node.fid).Nodup->∀{x:Kept},x∈l->bg l x.node.fid=some x.node
 | [],_,x,h=>by cases h
 | y::r,hn,x,h=>by
  rw[List.map_cons,List.nodup_cons] at hn;unfold bg;rw[List.find?_cons]
  by_cases e:y.node.fid=x.node.fid
  ·have:x=y:=by
    rcases List.mem_cons.1 h with h | h
    ·exact h
    ·exact absurd (Z7.2 ⟨x,h,e.symm⟩) hn.1
   subst this;simp
  ·have hx:x∈r:=by
    rcases List.mem_cons.1 h with h | h
    ·subst h;exact absurd rfl e
    ·exact h
   have ih:=oQ hn.2 hx;unfold bg at ih;rw[show (y.node.fid==x.node.fid)=false by simpa using e];exact ih
structure BackOK (u:U):Prop where
 away:(cA u).c.away=false
 log:(cA u).c.log=[]
 done:fc (bm u)≤u.c.log.length
 vlen:(bm u).length=u.c.log.length
 repair:(cA u).c.repair.length=u.c.repair.length+(u.c.log.length-fc (bm u))
 past:(cA u).s.past.length=u.s.past.length+fc (bm u)
 clean:∀k,k∈(cA u).c.cache->k.dirty=false
def cV (s:List UInt8):Bool:=s.all (λc=>decide (97≤c.toNat)&&decide (c.toNat≤122))&&decide (0<s.length)&&decide (s.length≤8)
theorem iN {s:List UInt8} (h:cV s=true):de s=true:=by
 unfold cV at h;simp only[Bool.and_eq_true,decide_eq_true_eq,List.all_eq_true] at h;unfold de;simp only[Bool.and_eq_true,decide_eq_true_eq,List.all_eq_true];refine ⟨⟨by omega,by omega⟩,λc hc=>?_⟩;have:=h.1.1 c hc;unfold okC;simp[this.1,this.2]
theorem Ii {s:List UInt8} (h:cV s=true):(47:UInt8)∉s:=λhm=>by
 unfold cV at h;simp only[Bool.and_eq_true,decide_eq_true_eq,List.all_eq_true] at h;have:=(h.1.1 47 hm).1;have e:(47:UInt8).toNat=47:=rfl;omega
theorem ub (c:UInt8):∀(s:List UInt8),c∉s->eJ c s=[s]
 | [],_=>rfl
 | x::r,h=>by
  have h1:x≠c:=λe=>h Q7
  unfold eJ;rw[if_neg h1,ub c r (λhm=>h (List.mem_cons_of_mem _ hm))];rfl
theorem fL {s:List UInt8} (h:cV s=true):ah (47::s)=([s],0):=by
 have hn:=iN h;have hl:1≤s.length/\s.length≤8:=by
  unfold cV at h;simp only[Bool.and_eq_true,decide_eq_true_eq] at h;omega
 have hc:eJ 47 s=[s]:=ub 47 s (Ii h);unfold ah;rw[if_neg k7,if_neg (by intro e;injection e with _ e;rw[e] at hl;simp at hl),if_neg y7]
 show (if (eJ 47 s).all de=true then (eJ 47 s,(0:Int)) else ([],7))=([s],0)
 rw[hc];simp[hn]
end La
namespace La
open Go Go.Eng Go.Proofs
theorem aV (c k:Int) (p d:List UInt8):ag Tryz.prog 15 [.int .i64 c,.int .i64 k,.str p,.str d] [] (λr _=>r=.agg (ZX ⟨k,c,0,p,[],d⟩)):=by
 refine ZF tK (Tryz.func15) rfl (λC=>?_);simp only[Tryz.ntmps15,Tryz.results15,go_sem];refine wR ?_;refine wN tK 1 ?_;refine wR ?_;refine wN tK 4 ?_;refine cE rfl (tX tK rfl rfl rfl rfl z8) ?_;simp only[go_sem];refine wG tK ?_;refine wT ?_;rfl
theorem rP (s:List UInt8) (hs:s.length≤100000000):ag Tryz.prog 14 [.str s] [] (λr _=>r=.bool (cV s)):=by
 have hW:cV s=(s.all (λc=>decide (97≤c.toNat)&&decide (c.toNat≤122))&&decide (0<s.length)&&decide (s.length≤8)):=rfl;generalize cV s=W at *;refine ZF tK (Tryz.func14) rfl (λC=>?_);simp only[Tryz.ntmps14,Tryz.results14,go_sem];refine wG tK ?_;refine ZL (λi:Nat=>i≤s.length/\(s.take i).all (λc=>decide (97≤c.toNat)&&decide (c.toNat≤122))=true) (λi=>s.length-i) (λi=>(3,.any)::(6,.int .i64 i)::u3 7 13 []) (λ_=>[]) 0 ⟨by omega,rfl⟩ ?_ λi hi=>?_
 ·simp only[go_sem];exact ZU w4 w4 w4
 obtain ⟨hi,hall⟩:=hi;simp only[go_sem];refine wG tK ?_;refine wD (λh=>?_) (λh=>?_)
 ·have hlt:i<s.length:=by simp at h;omega
  have how':=wi1 (i:=i) z7;have htk:s.take (i+1)=s.take i++[s.getD i 0]:=by
   rw[List.take_add_one,Z1,Z2 hlt];rfl
  have hmem:s.getD i 0∈s:=by rw[Z1,Z2 hlt];exact Wi _
  generalize hn:s.getD i 0=n at *;refine wR ?_;refine wN tK 2 ?_;refine wR ?_;refine wNq tK 10 ?_ ?_ z6 z6 (by simp only[go_sem,hn];try exact rfl)
  ·simp[hlt,hn]
  refine bx 18 z6 (λc18 h18=>?_);simp only[go_sem];have hc:c18=true↔¬(97≤n.toNat/\n.toNat≤122):=by
   rw[←h18]
   by_cases h1:(n.toNat:Int)<97
   ·simp[h1];omega
   ·simp[h1];omega
  clear h18;refine wG tK ?_
  by_cases hok:97≤n.toNat/\n.toNat≤122
  ·refine wDF (hb:=(by simpa using λh0=>hc.1 h0 hok)) (hk:=?_);refine wG tK ?_ j0 QF;refine ZB ⟨i+1,⟨by omega,by rw[htk,List.all_append,hall];simp[hok]⟩,by omega,ZU ?_ ?_ ?_⟩
   ·simp[go_sem]
   ·simp[go_sem]
   ·simp[go_sem]
  ·have hWf:W=false:=by
    rw[hW];have:(s.all λc=>decide (97≤c.toNat)&&decide (c.toNat≤122))=false:=by
     rw[List.all_eq_false];exact ⟨n,hmem,by simpa using hok⟩
    rw[this];rfl
   subst hWf;refine wDT (hb:=(hc.2 hok)) (hk:=?_);refine wG tK ?_;refine wT ?_;rfl
 ·have e:i=s.length:=by simp at h;omega
  subst e;rw[WA] at hall;rw[hall] at hW;refine wR ?_;refine wN tK 2 ?_;refine wR ?_;refine wN tK 8 ?_;refine bx 27 z6 (λc27 h27=>?_);simp only[go_sem];have hc:c27=W:=by
   rw[←h27,hW]
   by_cases h1:0<s.length
   ·simp[h1];omega
   ·simp[h1]
  subst hc;refine wG tK ?_;refine wT ?_;rw[h27]
end La
