/- Texts of this claim, part 32: RStepR, RWorld, NewS, RNew, RBuild, RRight, WNo, WBook. No condition. -/
import Derived.Test.YtmcfbfdonjllaaaGreatDoorZP31
import Derived.Test.YtmcfbfdonjllaaaGreatDoorZP15
set_option maxRecDepth 10000
set_option maxHeartbeats 4000000
set_option linter.unusedSimpArgs false
set_option linter.unusedVariables false
namespace La
open Go Go.Eng Go.Proofs Go.Proofs.Tryz
variable {Fa:Prop}
def kL (l:List Entry) (i:Nat):List UInt8:=oa (l.take i)
theorem oE {l:List Entry} {i:Nat} (h:i<l.length):kL l (i+1)=kL l i++((l.getD i default).name++[10]):=by
 unfold kL oa;rw[ZT h,List.flatMap_append];simp
theorem ze {B T:Nat} {u:U} (h:UInvF Fa B T u) (f w:Int):NmE (bd u f w).n.entries:=by
 unfold bd;split
 ·rename_i n hn;obtain ⟨k,hk,rfl,_⟩:=kP hn;exact h.cli.nam k hk
 ·split
  ·exact .nil
  ·split
   ·exact .nil
   ·rename_i n hn;exact h.srv.hist.whole.nm ((ZO h.srv.hist.bs.up).1 hn).1
theorem CM {B:Nat} (w:Int):∀(l:List (List UInt8)) (T:Nat) (g:Got),UInvF Fa B T g.u->NmE g.n.entries->NmE (goR w l g).n.entries
 | [],T,g,h,hn=>by
  unfold goR;split
  ·exact hn
  ·exact .nil
 | s::r,T,g,h,hn=>by
  unfold goR;split
  ·exact .nil
  ·split
   ·exact .nil
   ·split
    ·exact .nil
    ·rename_i f _;exact CM w r (T+1) _ (bZ h f w) (ze h f w)
theorem xy {B T:Nat} {u:U} (h:UInvF Fa B T u) (l:List (List UInt8)) (w:Int):NmE (goU u l w).n.entries:=CM w l (T+1) _ (bZ h 0 w) (ze h 0 w)
theorem qJ {l:List Entry} (h:NmE l):∀i,i<=l.length->(kL l i).length<=41*i
 | 0,_=>by simp[kL,oa]
 | i+1,hi=>by
  have ih:=qJ h i z8;have hn:=h (l.getD i default) (by rw[List.getD_eq_getElem?_getD,W3 (show i<l.length by omega)];exact YY _);rw[oE (show i<l.length by omega),List.length_append,List.length_append];simp only[List.length_cons,List.length_nil];omega
theorem LH {B T:Nat} (c:Cli) (s:Srv) (h:UInvF Fa B T ⟨c,s⟩) (hB:B<=30000000) (hT:T<=800000000000) (x:Step) (hp:x.path.length<=10000000) (hk:x.kind=1):Fo 38 [.agg (ZC c),.agg (ZQ s),.agg (ZX x)] (gP (an ⟨c,s⟩ x)):=by
 obtain ⟨k,cl,n,path,toPath,data⟩:=x;simp only at hk hp;subst hk;have hW:an ⟨c,s⟩ ⟨1,cl,n,path,toPath,data⟩=if (ae path).2≠0 then ⟨⟨c,s⟩,cA (ae path).2⟩ else ⟨(goU ⟨c,s⟩ (ae path).1 0).u,gk 1 (goU ⟨c,s⟩ (ae path).1 0)⟩:=by unfold an;rfl
 have hsp:=jq path hp;have hsl:=cg path;have hgo:=ur ⟨c,s⟩ h z8 z8 (ae path).1 z8 (λx hx=>by have:=(hsl.2 x hx).1;omega) 0;have hno:=pk h (ae path).1 0;have hnam:=xy h (ae path).1 0;unfold cD at hsp;generalize goU ⟨c,s⟩ (ae path).1 0=g at *;generalize ae path=S at *;obtain ⟨L,E⟩:=S;simp only at hW hsp hgo;unfold uH bt iG at hgo;unfold ZC ZQ ZX;refine wSG func38 ntmps38 results38 λC=>?_
 refine af (gy 22 900) ?_;refine af (au 10) (wn ?_);refine wTG ?_ (hb:=rfl);refine wTG ?_ (hb:=rfl);refine wCg ?_ func57 (hf:=hsp)
 by_cases hE:E=0
 ·rw[if_neg j9] at hW;rw[hW];refine wFG ?_ (hb:=j9);refine wP ?_ [900] func58 (hf:=hgo);refine wGq ?_ ?_ w5
  ·simp[ZN]
  by_cases hge:g.e=0
  ·have hr:gk 1 g=if g.n.dir=true then ⟨9,0,0,[]⟩ else ⟨0,0,0,g.n.data⟩:=by unfold gk;rw[if_neg x9];rfl
   rw[hr];refine wFG ?_ (hb:=x9);cases hd:g.n.dir with
   | true=>
    refine wDT ?_ (hb:=rfl);refine wGS ?_;refine sN 9 ?_;refine sT ?_;refine sT ?_;refine sT ?_;refine wX ?_;refine wGT ?_;rfl
   | false=>
    refine wFG ?_ (hb:=rfl);refine wFG ?_ (hb:=rfl);refine wDT ?_ (hb:=rfl);refine wGS ?_;refine sN 9 ?_;refine sT ?_;refine sT ?_;refine sT ?_;refine wX ?_;refine wGT ?_;rfl
  ·have hr:gk 1 g=cA g.e:=by unfold gk;rw[if_pos hge];rfl
   rw[hr];refine wDT ?_ (hb:=x9);refine wGS ?_;refine sN 9 ?_;refine sT ?_;refine sT ?_;refine sT ?_;refine wX ?_;refine wGT ?_;rfl
 ·rw[if_pos hE] at hW;rw[hW];refine wDT ?_ (hb:=j9);refine wGS ?_;refine sN 3 ?_;refine sB ?_;refine sT ?_;refine sT ?_;refine sT ?_;refine wX ?_;refine af (au 8) (wn ?_);refine wGT ?_;rfl
theorem LJ {B T:Nat} (c:Cli) (s:Srv) (h:UInvF Fa B T ⟨c,s⟩) (hB:B<=30000000) (hT:T<=800000000000) (x:Step) (hp:x.path.length<=10000000) (hk:x.kind=2):Fo 38 [.agg (ZC c),.agg (ZQ s),.agg (ZX x)] (gP (an ⟨c,s⟩ x)):=by
 obtain ⟨k,cl,n,path,toPath,data⟩:=x;simp only at hk hp;subst hk;have hW:an ⟨c,s⟩ ⟨2,cl,n,path,toPath,data⟩=if (ae path).2≠0 then ⟨⟨c,s⟩,cA (ae path).2⟩ else ⟨(goU ⟨c,s⟩ (ae path).1 0).u,gk 2 (goU ⟨c,s⟩ (ae path).1 0)⟩:=by unfold an;rfl
 have hsp:=jq path hp;have hsl:=cg path;have hgo:=ur ⟨c,s⟩ h z8 z8 (ae path).1 z8 (λx hx=>by have:=(hsl.2 x hx).1;omega) 0;have hno:=pk h (ae path).1 0;have hnam:=xy h (ae path).1 0;unfold cD at hsp;generalize goU ⟨c,s⟩ (ae path).1 0=g at *;generalize ae path=S at *;obtain ⟨L,E⟩:=S;simp only at hW hsp hgo;unfold uH bt iG at hgo;unfold ZC ZQ ZX;refine wSG func38 ntmps38 results38 λC=>?_
 refine af (gy 22 900) ?_;refine wFG ?_ (hb:=rfl);refine wTG ?_ (hb:=rfl);refine wCg ?_ func57 (hf:=hsp)
 by_cases hE:E=0
 ·rw[if_neg j9] at hW;rw[hW];refine wFG ?_ (hb:=j9);refine wP ?_ [900] func58 (hf:=hgo);refine wGq ?_ ?_ w5
  ·simp[ZN]
  by_cases hge:g.e=0
  ·have hr:gk 2 g=if g.n.dir=true then ⟨0,0,0,oa g.n.entries⟩ else ⟨8,0,0,[]⟩:=by unfold gk;rw[if_neg x9];rfl
   rw[hr];refine wFG ?_ (hb:=x9);refine wFG ?_ (hb:=rfl);cases hd:g.n.dir with
   | true=>
    refine wFG ?_ (hb:=rfl);refine wFG ?_ (hb:=rfl);have hnm:=hnam;have hle:=hno.ent;have hD0:kL g.n.entries 0=[]:=rfl;have hDs:=λi=>@oE g.n.entries i
    have hDn:=qJ hnm;have hDe:kL g.n.entries g.n.entries.length=oa g.n.entries:=by unfold kL;rw[W7]
    rw[if_pos rfl];generalize kL g.n.entries=D at *;generalize oa g.n.entries=DE at *;refine af (le_empty 62 5 1 z7) (wn ?_);refine af (iY 10 ([[.int .i64 0,.int .i64 0,.int .i64 0,.osl 62 1 0 0]]) z6 Qx) (wn ?_);refine wL g.n.entries.length (λi=>(15,.any)::(51,.int .i64 i)::u0 52 13 [])
     (λi=>[(10,.cells 42 4 [[.int .i64 0,.int .i64 0,.int .i64 0,.osl 62 1 0 (D i).length]]),(62,.cells 5 1 ((D i).map ZY))]) ?_ λi hi=>?_
    ·rw[hD0];exact wZ
    simp only[go_sem];refine wGD (λh=>?_) (λh=>?_)
    ·have hlt:=lt1 h;have hg:=Fam.getD (f:=ZE) hlt;have hs1:=hDs i hlt;have hl1:=hDn i hi;have hl2:(g.n.entries.getD i default).name.length<=40:=hnm _ (by rw[List.getD_eq_getElem?_getD,W3 hlt];exact YY _);have how':=wi1 (i:=i) z8;generalize g.n.entries.getD i default=e at *;generalize D i=Di at *;have htq:List.take Di.length (Di.map ZY)=Di.map ZY:=W4 w8;refine wR ?_;refine wNq 4 ?_ ?_ z6 z6 s6
     ·simp[hg,ZE,hlt]
     refine wR ?_;refine wN 4 ?_;refine bC rfl (vt tK rfl rfl rfl rfl z7) ?_;simp only[go_sem];refine af (aX 62 10 z6 y9) ?_;refine wGq ?_ ?_ y6
     ·simp[htq,refs];refine ⟨⟨λrow hr=>?_,λ_ _=>rfl,by omega⟩,by omega,λrow hr y hy=>?_⟩
      ·obtain ⟨b,_,rfl⟩:=W8.1 hr;rfl
      ·rcases List.mem_append.1 (YJ hr) with hr | hr<;>obtain ⟨b,_,rfl⟩:=W8.1 hr<;>simp only[ZY,List.mem_cons,List.not_mem_nil,or_false] at hy<;>subst hy<;>simp[refs]
     refine ZB ⟨i+1,by omega,by omega,ZU ?_ ?_ ?_⟩
     ·simp[go_sem]
     ·simp[go_sem,hs1,htq,ZY];exact ⟨by rw[W4 w8,List.append_assoc];rfl,by omega⟩
     ·simp[go_sem]
    ·obtain rfl:=eq1 hi h;rw[hDe];refine wG ?_;refine ZZ 62 rfl (lh _) (wn ?_);refine wGS ?_;refine sN 9 ?_;refine sT ?_;refine sT ?_;refine sT ?_;refine wX ?_;refine wGT ?_;rfl
   | false=>
    refine wDT ?_ (hb:=rfl);refine af (au 10) (wn ?_);refine wGS ?_;refine sN 9 ?_;refine sT ?_;refine sT ?_;refine sT ?_;refine wX ?_;refine wGT ?_;rfl
  ·have hr:gk 2 g=cA g.e:=by unfold gk;rw[if_pos hge];rfl
   rw[hr];refine wDT ?_ (hb:=x9);refine af (au 10) (wn ?_);refine wGS ?_;refine sN 9 ?_;refine sT ?_;refine sT ?_;refine sT ?_;refine wX ?_;refine wGT ?_;rfl
 ·rw[if_pos hE] at hW;rw[hW];refine wDT ?_ (hb:=j9);refine wGS ?_;refine sN 3 ?_;refine sB ?_;refine sT ?_;refine sT ?_;refine sT ?_;refine wX ?_;refine af (au 8) (wn ?_);refine wGT ?_;rfl
theorem GP {B T:Nat} (c:Cli) (s:Srv) (h:UInvF Fa B T ⟨c,s⟩) (hB:B<=30000000) (hT:T<=800000000000) (x:Step) (hp:x.path.length<=10000000) (hq:x.toPath.length<=10000000):Fo 38 [.agg (ZC c),.agg (ZQ s),.agg (ZX x)] (gP (an ⟨c,s⟩ x)):=by
 by_cases h0:x.kind<1\/10<x.kind
 ·exact LR c s x h0
 ·have hc:x.kind=1\/x.kind=2\/x.kind=3\/x.kind=4\/x.kind=5\/x.kind=6\/x.kind=7\/x.kind=8\/x.kind=9\/x.kind=10:=by omega
  rcases hc with h1 | h1 | h1 | h1 | h1 | h1 | h1 | h1 | h1 | h1
  ·exact LH c s h hB hT x hp h1
  ·exact LJ c s h hB hT x hp h1
  ·exact LK c s h hB hT x hp h1
  ·exact LL c s h hB hT x hp h1
  ·exact LM c s h hB hT x hp h1
  ·exact LN c s h hB hT x hp hq h1
  ·exact LO c s x h1
  ·exact LP c s h hB hT x h1
  ·exact LQ c s h hB hT x hp h1
  ·cases ha:c.away with
   | true=>exact GO c s h hB hT x h1 ha
   | false=>exact Jt c s h hB hT x h1 ha
def jN (g:GotW):AV:=.tup [.agg (a_ g.w),.agg (bc g.r)]
def csT (t:List Node) (cs:List Cli) (j:Nat) (c:Cli) (i:Nat):List Cli:=((cs.set j c).take i).map (bE t)
theorem Fk {t:List Node} {cs:List Cli} {j:Nat} {c:Cli} {i:Nat} (h:i<cs.length):csT t cs j c (i+1)=csT t cs j c i++[bE t (if i=j then c else cs.getD i default)]:=by
 unfold csT;rw[ZT (show i<(cs.set j c).length by rw[YR];exact h),List.map_append];have:(cs.set j c).getD i default=if i=j then c else cs.getD i default:=by
  rw[List.getD_eq_getElem?_getD,YP]
  by_cases e:j=i
  ·subst e;rw[if_pos rfl,if_pos h,if_pos rfl];rfl
  ·rw[if_neg e,if_neg (λh=>e h.symm),List.getD_eq_getElem?_getD]
 rw[this];rfl
theorem Ip {t:List Node} {cs:List Cli} {j:Nat} {c:Cli} {i:Nat} (h:i<=cs.length):(csT t cs j c i).length=i:=by
 unfold csT;rw[List.length_map,YF,YR];omega
theorem B5 {B T:Nat} (w:Wor) (h:WInv B T w) (hB:B<=30000000) (hT:T<=800000000000) (x:Step) (hp:x.path.length<=10000000) (hq:x.toPath.length<=10000000) (hb:x.client<0\/x.client≥w.cs.length):Fo 21 [.agg (a_ w),.agg (ZX x)] (jN (ay w x)):=by
 have h3:=h.len;have hW:ay w x=⟨w,cA 6⟩:=by unfold ay;rw[if_pos hb]
 rw[hW];unfold a_ ZX;refine wS func21 ntmps21 results21 λC=>?_
 refine wR ?_;refine wN 4 ?_;refine wR ?_;refine wN 11 ?_;refine wNm 22 λc22 h22=>?_
 have hc:c22=true:=by
  rw[<-h22]
  by_cases h1:x.client<0
  ·simp[h1]
  ·simp[h1];omega
 clear h22;refine EX ?_ (hb:=hc);refine af (au 5) (wn ?_);refine wT ?_;rfl
theorem Es {B T:Nat} (w:Wor) (h:WInv B T w) (hB:B<=30000000) (hT:T<=800000000000) (x:Step) (hp:x.path.length<=10000000) (hq:x.toPath.length<=10000000) (hb:¬(x.client<0\/x.client≥w.cs.length)):Fo 21 [.agg (a_ w),.agg (ZX x)] (jN (ay w x)):=by
 have h3:=h.len;obtain ⟨k,cl,n,path,toPath,data⟩:=x;simp only at hb hp hq;obtain ⟨j,rfl⟩:∃j:Nat,cl=(j:Int):=⟨cl.toNat,by omega⟩;have hj:j<w.cs.length:=by omega
 have hu:=h.at hj;have hst:=GP (w.cs.getD j default) w.s hu hB hT ⟨k,j,n,path,toPath,data⟩ hp hq;have hinv:=pW hu ⟨k,j,n,path,toPath,data⟩;have hW:ay w ⟨k,j,n,path,toPath,data⟩=⟨⟨(an ⟨w.cs.getD j default,w.s⟩ ⟨k,j,n,path,toPath,data⟩).u.s,csT (an ⟨w.cs.getD j default,w.s⟩ ⟨k,j,n,path,toPath,data⟩).u.s.tree w.cs j (an ⟨w.cs.getD j default,w.s⟩ ⟨k,j,n,path,toPath,data⟩).u.c w.cs.length⟩,(an ⟨w.cs.getD j default,w.s⟩ ⟨k,j,n,path,toPath,data⟩).r⟩:=by
  unfold ay csT;rw[if_neg hb,show w.cs.length=(w.cs.set j (an ⟨w.cs.getD j default,w.s⟩ ⟨k,j,n,path,toPath,data⟩).u.c).length by rw[YR],W7];rfl
 have hcx:∀i,i<w.cs.length->(w.cs.getD i default).cache.length<=24:=λi hi=>by have:=(h.at hi).cli.len;have:=(h.at hi).cli.room;simp only at *;omega
 rw[hW];have hg0:=Fam.getD (f:=ZC) hj;generalize w.cs.getD j default=c0 at hst hinv hg0 ⊢;generalize an ⟨c0,w.s⟩ ⟨k,j,n,path,toPath,data⟩=g at *;have hcg:g.u.c.cache.length<=24:=by have:=hinv.cli.len;have:=hinv.cli.room;omega
 have hof:=wq g.u.s.tree (by have:=hinv.srv.hist.bs.len;omega);have hfr0:=λl hl=>oL l g.u.s.tree hl hinv.srv.hist.bs.up
 have hcc:∀kk:Cli,kk.cache.length<=24->kk.cache.length<=90000000:=λkk hk=>by omega
 have hPs:=λi=>@Fk g.u.s.tree w.cs j g.u.c i
 have hPl:=λi=>@Ip g.u.s.tree w.cs j g.u.c i
 have hP0:csT g.u.s.tree w.cs j g.u.c 0=[]:=rfl;generalize csT g.u.s.tree w.cs j g.u.c=P at *;unfold gP ZC ZQ ZX bc at hst;unfold jN a_ ZX bc;refine wS func21 ntmps21 results21 λC=>?_
 refine wR ?_;refine wN 4 ?_;refine wR ?_;refine wN 11 ?_;refine wNm 22 λc22 h22=>?_
 have hc:c22=false:=by
  rw[<-h22];have h1:¬((j:Int)<0):=by omega
  simp[h1];omega
 clear h22;refine wG ?_;refine wDF ?_ (hb:=hc);refine wGS ?_;refine sNq 9 ?_ ?_ z6 z6 (by simp only[go_sem,hg0,ZC];try exact rfl)
 ·simp[hg0,hj,ZC]
 refine sC ?_ func38 (hf:=hst);refine sN 4 ?_;refine sW ?_;refine sW ?_;refine sW ?_;refine sT ?_;refine sT ?_;refine sT ?_;refine wXG ?_;refine af (le_empty 68 47 10 z7) (wn ?_);refine af (iY 9 ([[.sl (g.u.s.tree.map ZN),.int .i64 g.u.s.next,.sl (g.u.s.past.map ZP),.osl 68 10 0 0]]) z6 Qx) (wn ?_);refine wL w.cs.length (λi=>(10,.any)::(11,.any)::(44,.int .i64 i)::u0 45 26 [])
  (λi=>[(9,.cells 35 4 [[.sl (g.u.s.tree.map ZN),.int .i64 g.u.s.next,.sl (g.u.s.past.map ZP),.osl 68 10 0 (P i).length]]),(68,.cells 47 10 ((P i).map ZC))]) ?_ λi hi=>?_
 ·rw[hP0];exact wZ
 simp only[go_sem];refine wGD (λh=>?_) (λh=>?_)
 ·have hlt:=lt1 h;have hg1:=Fam.getD (f:=ZC) hlt;have how':=wi1 (i:=i) z8;have hs1:=hPs i hlt;have hl1:=hPl i hi;have hci:=hcx i hlt;generalize w.cs.getD i default=ci at *;generalize P i=Q at *;have htq:List.take Q.length (Q.map ZC)=Q.map ZC:=W4 w8;refine wR ?_;refine wNq 6 ?_ ?_ z6 z6 (by simp only[go_sem,hg1,ZC];try exact rfl)
  ·simp[hg1,ZC,hlt]
  refine wG ?_
  by_cases hij:i=j
  ·rw[if_pos hij] at hs1;refine wTG ?_ (hb:=by simp[hij]);have hin:=hcg;generalize hkv:g.u.c=kk at *;cases haw:kk.away with
   | true=>
    have hkk:bE g.u.s.tree kk=kk:=by unfold bE;rw[if_pos haw]
    refine wDF ?_ (hb:=Q8);refine wR ?_;refine wN 2 ?_;refine af (aX 68 9 z6 y9) ?_;refine wGq ?_ ?_ y6
    ·simp[htq,refs];omega
    exact ZB ⟨i+1,by omega,by omega,ZU w3 Q3 w3⟩
   | false=>
    have hkk:bE g.u.s.tree kk={ kk with cache:=kk.cache.filter λk=>!bO g.u.s.tree k }:=by unfold bE mH;rw[if_neg Q8]
    have hfr:=hfr0 kk.cache (hcc kk hin);refine wDT ?_ (hb:=Q8);refine wGS ?_;refine sN 4 ?_;refine sC ?_ func27 (hf:=hof);refine sC ?_ func39 (hf:=hfr);refine sN 1 ?_;refine sT ?_;refine wX ?_;refine wR ?_;refine wN 2 ?_;refine af (aX 68 9 z6 y9) ?_;refine wGq ?_ ?_ y6
    ·simp[htq,refs];omega
    exact ZB ⟨i+1,by omega,by omega,ZU w3 Q3 w3⟩
  ·rw[if_neg hij] at hs1;refine wFG ?_ (hb:=k6);have hin:=hci;generalize hkv:ci=kk at *;cases haw:kk.away with
   | true=>
    have hkk:bE g.u.s.tree kk=kk:=by unfold bE;rw[if_pos haw]
    refine wDF ?_ (hb:=Q8);refine wR ?_;refine wN 2 ?_;refine af (aX 68 9 z6 y9) ?_;refine wGq ?_ ?_ y6
    ·simp[htq,refs];omega
    exact ZB ⟨i+1,by omega,by omega,ZU w3 Q3 w3⟩
   | false=>
    have hkk:bE g.u.s.tree kk={ kk with cache:=kk.cache.filter λk=>!bO g.u.s.tree k }:=by unfold bE mH;rw[if_neg Q8]
    have hfr:=hfr0 kk.cache (hcc kk hin);refine wDT ?_ (hb:=Q8);refine wGS ?_;refine sN 4 ?_;refine sC ?_ func27 (hf:=hof);refine sC ?_ func39 (hf:=hfr);refine sN 1 ?_;refine sT ?_;refine wX ?_;refine wR ?_;refine wN 2 ?_;refine af (aX 68 9 z6 y9) ?_;refine wGq ?_ ?_ y6
    ·simp[htq,refs];omega
    exact ZB ⟨i+1,by omega,by omega,ZU w3 Q3 w3⟩
 ·obtain rfl:=eq1 hi h;have hl1:=hPl w.cs.length (YA _);generalize P w.cs.length=Q at *;have htq:List.take Q.length (Q.map ZC)=Q.map ZC:=W4 w8;refine ZZ 68 rfl (ij _) ?_;simp only[go_sem,htq];refine wGS ?_;refine sN 2 ?_;refine sT ?_;refine sT ?_;refine wX ?_;refine wGT ?_;rfl
theorem Et {B T:Nat} (w:Wor) (h:WInv B T w) (hB:B<=30000000) (hT:T<=800000000000) (x:Step) (hp:x.path.length<=10000000) (hq:x.toPath.length<=10000000):Fo 21 [.agg (a_ w),.agg (ZX x)] (jN (ay w x)):=by
 by_cases hb:x.client<0\/x.client≥w.cs.length
 ·exact B5 w h hB hT x hp hq hb
 ·exact Es w h hB hT x hp hq hb
theorem vj:Fo 35 [] (.agg [.sl [[.int .i64 0,.bool true,.nils,.nils,.int .i64 0]],.int .i64 1,.nils]):=by
 refine wSG func35 ntmps35 results35 λC=>?_
 refine ZZ 2 rfl (rfl) (wn ?_);refine wT ?_;rfl
theorem xQ:Fo 35 [] (.agg (ZQ ⟨[gN],1,[]⟩)):=ai.iZ vj rfl
def uX:Wor:=⟨⟨[],0,[]⟩,[]⟩
def rJ (rooms:List Int):AV:=.tup [.agg (a_ (if bw rooms=0 then kp rooms else uX)),.int .i64 (bw rooms)]
theorem ub (rooms:List Int) (i:Nat):iy rooms (i+1)=iy rooms i++[pC (i:Int) (rooms.getD i 0)]:=by
 unfold iy;rw[List.range_succ,List.map_append];rfl
theorem wj (rooms:List Int) (i:Nat):(iy rooms i).length=i:=by unfold iy;simp
theorem rK (rooms:List Int) (hr:rooms.length<=100000000):Fo 18 [.sl (rooms.map ZI)] (rJ rooms):=by
 have hns:=xQ;unfold ZQ at hns;have hsu:=ub rooms;have hle:=wj rooms;have h0:iy rooms 0=[]:=rfl;have hW:rJ rooms=.tup [.agg (a_ (if bw rooms=0 then ⟨Lr,iy rooms rooms.length⟩ else uX)),.int .i64 (bw rooms)]:=rfl;have hE:bw rooms=if rooms.length<1\/3<rooms.length then 5 else if rooms.all (λn=>decide (3<=n)&&decide (n<=24)) then 0 else 3:=rfl;rw[hW];generalize bw rooms=E at *;generalize iy rooms=P at *;clear hW;refine wS func18 ntmps18 results18 λC=>?_
 refine wR ?_;refine wN 2 ?_;refine wR ?_;refine wN 8 ?_;refine wNm 14 λc14 h14=>?_
 have hc:c14=true↔(rooms.length<1\/3<rooms.length):=by
  rw[<-h14]
  by_cases h1:rooms.length<1
  ·simp[h1];omega
  ·simp[h1];omega
 clear h14;refine wG ?_
 by_cases hb:rooms.length<1\/3<rooms.length
 ·rw[if_pos hb] at hE;subst hE;refine wTG ?_ (hb:=hc.2 hb);refine af (au 2) (wn ?_);refine wT ?_;rfl
 ·rw[if_neg hb] at hE;refine wFG ?_ (hb:=by simpa using λh0=>hb (hc.1 h0));refine wCg ?_ func35 (hf:=hns);refine af (le_empty 38 47 10 z7) (wn ?_);refine af (iY 4 ([[.sl ([gN].map ZN),.int .i64 1,.sl [],.osl 38 10 0 0]]) z6 Qx) (wn ?_);refine ZL (λi:Nat=>i<=rooms.length/\(rooms.take i).all (λn=>decide (3<=n)&&decide (n<=24))=true) (λi=>rooms.length-i) (λi=>(5,.any)::(6,.any)::(20,.int .i64 i)::u0 21 21 [])
   (λi=>[(4,.cells 35 4 [[.sl ([gN].map ZN),.int .i64 1,.sl [],.osl 38 10 0 (P i).length]]),(38,.cells 47 10 ((P i).map ZC))]) 0 ⟨by omega,rfl⟩ ?_ λi hi=>?_
  ·rw[h0];exact wZ
  obtain ⟨hi,hall⟩:=hi;simp only[go_sem];refine wGD (λh=>?_) (λh=>?_)
  ·have hlt:=lt1 h;have hg:(rooms.map ZI).getD i []=[.int .i64 (rooms.getD i 0)]:=by
    rw[List.getD_eq_getElem?_getD,W5,List.getD_eq_getElem?_getD,W3 hlt];rfl
   have how':=wi1 (i:=i) z8;have hs1:=hsu i;have hl1:=hle i;have htk:rooms.take (i+1)=rooms.take i++[rooms.getD i 0]:=by
    rw[List.take_add_one,List.getD_eq_getElem?_getD,W3 hlt];rfl
   generalize hn:rooms.getD i 0=n at *;generalize P i=Q at *;have htq:List.take Q.length (Q.map ZC)=Q.map ZC:=W4 w8;refine wR ?_;refine wNq 5 ?_ ?_ z6 z6 u6
   ·simp[hg,hlt]
   refine wR ?_;refine wN 6 ?_;refine wNm 30 λc30 h30=>?_
   have hc3:c30=true↔¬(3<=n/\n<=24):=by
    rw[<-h30]
    by_cases h1:n<3
    ·simp[h1];omega
    ·simp[h1];omega
   clear h30;refine wG ?_
   by_cases hok:3<=n/\n<=24
   ·refine wDF ?_ (hb:=by simpa using λh0=>hc3.1 h0 hok);refine wR ?_;refine wN 5 ?_;refine af (xF 36 z6 WH) (wn ?_);refine af (aX 38 4 z6 y9) ?_;refine wGq ?_ ?_ y6
    ·simp[htq,refs]
     first | exact ⟨by intro row h;simp at h;subst h;rfl,by omega⟩ | omega
    refine ZB ⟨i+1,⟨by omega,by rw[htk,List.all_append,hall];simp[hok]⟩,by omega,ZU ?_ ?_ ?_⟩
    ·simp[go_sem]
    ·simp[go_sem,hs1,htq,ZC,pC]
    ·simp[go_sem]
   ·have hE3:E=3:=by
     rw[hE,if_neg];simp only[List.all_eq_true,Bool.and_eq_true,decide_eq_true_eq];intro hx;have:=hx n (by rw[<-hn,List.getD_eq_getElem?_getD,W3 hlt];exact YY _);exact hok this
    subst hE3;refine wTG ?_ (hb:=hc3.2 hok);refine af (au 2) (wn ?_);refine wT ?_;rfl
  ·obtain rfl:=eq1 hi h;rw[W7] at hall;rw[if_pos hall] at hE;subst hE;have hl1:=hle rooms.length;generalize P rooms.length=Q at *;have htq:List.take Q.length (Q.map ZC)=Q.map ZC:=W4 w8;refine wR ?_;refine ZZ 38 rfl (ij _) ?_;simp only[go_sem,htq];refine wGT ?_;rfl
noncomputable def A7 (rooms:List Int) (l:List Step):Wor:=if bw rooms=0 then mm rooms l else uX
noncomputable def yy (rooms:List Int) (l:List Step) (i:Nat):Wor:=mm rooms (l.take i)
theorem Dh {rooms:List Int} {l:List Step} {i:Nat} (h:i<l.length):yy rooms l (i+1)=(ay (yy rooms l i) (l.getD i default)).w:=by
 unfold yy mm;rw[ZT h,List.foldl_append];rfl
theorem Fb {rooms:List Int} (h:bw rooms=0) (l:List Step) (i:Nat):WInv (20*l.length) (300*l.length) (yy rooms l i):=by
 have:=vz h (l.take i);rw[YF] at this;exact ⟨this.srv.mono z8,λc hc=>(this.cli c hc).mono z8 z8,this.len⟩
structure StepsOK (l:List Step):Prop where
 len:l.length<=1400000
 path:∀x,x∈l->x.path.length<=10000000/\x.toPath.length<=10000000
theorem D' (rooms:List Int) (hr:rooms.length<=100000000) (l:List Step) (hl:StepsOK l):Fo 31 [.sl (rooms.map ZI),.sl (l.map ZX)] (.agg (a_ (A7 rooms l))):=by
 have hn:=rK rooms hr;have hll:=hl.len;unfold rJ at hn;have hB0:A7 rooms l=if bw rooms=0 then yy rooms l l.length else uX:=by unfold A7 yy;rw[W7]
 have hinv:=λh i=>@Fb rooms h l i
 have hsu:=λi=>@Dh rooms l i
 have hz:yy rooms l 0=kp rooms:=rfl;rw[hB0];generalize yy rooms l=F at *;rw[<-hz] at hn;clear hB0 hz;generalize bw rooms=E at *;generalize hW0:(if E=0 then F 0 else uX)=W0 at *;unfold a_ at hn;refine wSG func31 ntmps31 results31 λC=>?_
 refine wCg ?_ func18 (hf:=hn)
 by_cases hE:E=0
 ·rw[if_pos hE] at hW0 ⊢;have hinv:=hinv hE;subst hW0;refine wFG ?_ (hb:=j9);refine wL l.length (λi=>(8,.any)::(9,.any)::(10,.any)::(21,.int .i64 i)::u0 22 12 [])
   (λi=>[(5,.cells 35 4 [a_ (F i)])]) ?_ λi hi=>?_
  ·unfold a_;exact wZ
  unfold a_;simp only[go_sem];refine wGD (λh=>?_) (λh=>?_)
  ·have hlt:=lt1 h;have hg:=Fam.getD (f:=ZX) hlt;have how':=wi1 (i:=i) z8;have hpx:=hl.path (l.getD i default) (by rw[List.getD_eq_getElem?_getD,W3 hlt];exact YY _);have hw:=Et (F i) (hinv i) z8 z8 (l.getD i default) hpx.1 hpx.2;have hs1:=hsu i hlt;generalize l.getD i default=x at *;unfold jN a_ ZX bc at hw;generalize ay (F i) x=g at *;refine wR ?_;refine wNq 4 ?_ ?_ z6 z6 Zu
   ·simp[hg,ZX,hlt]
   refine wG ?_;refine wC ?_ func21 (hf:=hw);refine wG ?_ y6 u2;exact ZB ⟨i+1,by omega,by omega,ZU w3 Z1 w3⟩
  ·obtain rfl:=eq1 hi h;refine wGT ?_;rfl
 ·rw[if_neg hE] at hW0 ⊢;subst hW0;refine wDT ?_ (hb:=j9);refine wGT ?_;rfl
theorem Fc {rooms:List Int} (h:bw rooms=0) (l:List Step):WInv (20*l.length) (300*l.length) (A7 rooms l):=by
 unfold A7;rw[if_pos h];exact vz h l
variable {Fa:Prop}
theorem pd (d:List Hoard) (hd:d.length<=100000000):Fo 70 [.sl (d.map ZJ)] (.sl (d.map ZJ)):=by
 refine wSG func70 ntmps70 results70 λC=>?_
 refine mq tK rfl rfl rfl u3 u3 (λb hb=>?_);simp only[go_sem];refine wGD (λh=>?_) (λh=>?_)
 ·refine wG ?_;refine lk ⟨_,_,z7,by simp[go_sem],.sl [],.inr (.inr ⟨rfl,.inl rfl⟩),?_⟩;rw[hb h]
 ·refine wGq ?_ ?_
  ·simp;omega
  refine ZZ 7 rfl (ef _) (wn ?_);refine wT ?_;simp
structure SmallC (c:Cli):Prop where
 cache:SmallK c.cache
 log:SmallL c.log
 repair:SmallL c.repair
 hoards:c.hoards.length<=100000000
theorem CInvF.ky {B T:Nat} {s:Srv} {c:Cli} (h:CInvF Fa B T s c) (hB:B<=40000000):SmallC c where
 cache:=⟨by have:=h.len;have:=h.room;omega,λk hk=>⟨by have:=h.data k hk;omega,by have:=h.ent k hk;omega⟩⟩
 log:=⟨by have:=h.log;omega,λr hr=>by unfold Act.Small;have:=(h.logS r hr).data;omega⟩
 repair:=⟨by have:=h.rep;omega,λr hr=>by unfold Act.Small;have:=(h.repS r hr).data;omega⟩
 hoards:=by have:=h.hoards;omega
theorem xi (c:Cli) (h:SmallC c):Fo 41 [.agg (ZC c)] (.agg (ZC c)):=by
 have h1:=sD c.cache h.cache;have h2:=kM c.log h.log;have h3:=kM c.repair h.repair;have h4:=pd c.hoards h.hoards;unfold ZC;refine wS func41 ntmps41 results41 λC=>?_
 refine wGS ?_;refine sN 2 ?_;refine sC ?_ func68 (hf:=h1);refine sN 2 ?_;refine sC ?_ func69 (hf:=h2);refine sN 2 ?_;refine sC ?_ func69 (hf:=h3);refine sN 2 ?_;refine sC ?_ func70 (hf:=h4);refine sN 1 ?_;refine sT ?_;refine sN 1 ?_;refine sT ?_;refine sN 1 ?_;refine sT ?_;refine sN 1 ?_;refine sT ?_;refine wX ?_;refine wGT ?_;rfl
theorem BX {p:List Past} {t:List Node} (h:Hist p t) (hlen:p.length<=90000000):Fo 83 [.sl (p.map ZP)] (.tup [.sl (t.map ZN),.int .i64 0]):=by
 obtain ⟨st,h0,h1,h2⟩:=h.st;rw[<-h1];exact Eg p st hlen h0 h2
structure RightC (t:List Node) (c:Cli):Prop where
 room:(c.cache.length:Int)<=c.room
 log:c.away=false->c.log=[]
 here:c.away=false->∀k,k∈c.cache->k.dirty=false/\k.node∈t
 small:SmallC c
theorem GJ {p:List Past} {t:List Node} (h:Hist p t) (hlen:p.length<=90000000) (n:Int) (cs:List Cli) (hcl:cs.length<=1000) (hc:∀c,c∈cs->RightC t c) :
  Fo 44 [.agg (a_ ⟨⟨t,n,p⟩,cs⟩)] (.bool true):=by
 have h1:=BX h hlen;have hts:=h.bs.small;have h2:=kf t t hts hts;rw[uA] at h2;have hup:=h.bs.up;unfold a_;refine wSG func44 ntmps44 results44 λC=>?_
 refine wCg ?_ func83 (hf:=h1);refine wCC ?_ func84 (hf:=λhb=>(h2));refine mh ?_ (hb:=rfl);refine wL cs.length (λi=>(6,.any)::(8,.any)::(9,.any)::(10,.any)::(31,.int .i64 i)::u0 32 68 []) (λ_=>[]) ?_ λi hi=>?_
 ·exact wZ
 simp only[go_sem];refine wGD (λh=>?_) (λh=>?_)
 ·have hlt:=lt1 h;have hg:=Fam.getD (f:=ZC) hlt;have how':=wi1 (i:=i) z8;have hci:=hc (cs.getD i default) (YG hlt);generalize cs.getD i default=c at *;have hown:=xi c hci.small;have hroom:=hci.room;have hklen:=hci.small.cache.len;refine wR ?_;refine wNq 4 ?_ ?_ z6 z6 QF
  ·simp[hg,ZC,hlt]
  refine wR ?_;refine wN 7 ?_;refine wNm 41 λc41 h41=>?_
  have hc41:c41=false:=by rw[<-h41];simp;omega
  subst hc41;clear h41;unfold ZC at hown;cases haw:c.away with
  | true=>
   rw[haw] at hown;refine mh ?_ (hb:=rfl);refine wCg ?_ func41 (hf:=hown);refine wL c.cache.length (λq=>(8,.any)::(9,.any)::(10,.any)::(56,.int .i64 q)::u0 57 42 []) (λ_=>[]) ?_ λq hq=>?_
   ·exact wZ
   simp only[go_sem];refine wGD (λh=>?_) (λh=>?_)
   ·have hltq:=lt1 h;have hgq:=Fam.getD (f:=ZK) hltq;have howq:IntKind.i64.wrap ((q:Int)+1)=((q+1:Nat):Int):=by rw[Eng.wrap_small z8 z8];rfl
    generalize c.cache.getD q default=k at *;have hfd:=dD t k.node.fid hts;unfold fS at hfd;refine wGq ?_ ?_ (by simp only[go_sem,hgq,ZK];try exact rfl)
    ·simp[hgq,ZK,hltq]
    refine wC ?_ func82 (hf:=hfd);refine wGq ?_ ?_ (by simp only[go_sem,ZN,howq];try exact rfl)
    ·simp[ZN]
    refine fD (.bool false) rfl ?_;simp only[go_sem];refine wG ?_;refine wDF ?_ (hb:=rfl);refine wG ?_ (by simp only[go_sem,howq];try exact rfl) (by simp[go_sem,howq]);exact ZB ⟨q+1,by omega,by omega,ZU w3 w3 w3⟩
   ·refine wG ?_ y6 u2;exact ZB ⟨i+1,by omega,by omega,ZU w3 w3 w3⟩
  | false=>
   have hlog:=hci.log haw;have hhere:=hci.here haw;rw[haw] at hown;rw[hlog] at hown ⊢;refine mh ?_ (hb:=rfl);refine wCg ?_ func41 (hf:=hown);refine wL c.cache.length (λq=>(8,.any)::(9,.any)::(10,.any)::(56,.int .i64 q)::u0 57 42 []) (λ_=>[]) ?_ λq hq=>?_
   ·exact wZ
   simp only[go_sem];refine wGD (λh=>?_) (λh=>?_)
   ·have hltq:=lt1 h;have hgq:=Fam.getD (f:=ZK) hltq;have howq:IntKind.i64.wrap ((q:Int)+1)=((q+1:Nat):Int):=by rw[Eng.wrap_small z8 z8];rfl
    have hkm:c.cache.getD q default∈c.cache:=YG hltq;generalize c.cache.getD q default=k at *;obtain ⟨hkd,hkt⟩:=hhere k hkm;have hks:=hts.each k.node hkt;have hfk:ak t k.node.fid=some k.node:=(ZO hup).2 ⟨hkt,rfl⟩;have hat:bf t k.node.fid=true:=by
     cases e:bf t k.node.fid with
     | true=>rfl
     | false=>rw[tH e] at hfk;cases hfk
    have hfd:=dD t k.node.fid hts;unfold fS at hfd;rw[hfk,hat] at hfd;simp only[Option.getD_some] at hfd;have hsn:=kf [k.node] [k.node] (dy hks) (dy hks);rw[uA] at hsn;simp only[List.map_cons,List.map_nil] at hsn;unfold ZN at hsn;refine wGq ?_ ?_ (by simp only[go_sem,hgq,ZK];try exact rfl)
    ·simp[hgq,ZK,hltq]
    refine wC ?_ func82 (hf:=hfd);refine wNq 6 ?_ ?_ z6 z6 w5
    ·simp[ZN]
    refine wR ?_;refine wN 4 ?_;refine wN 4 ?_ z6 z6 y8 k7;refine wN 4 ?_ z6 z6 y8 k7;refine wN 5 ?_ z6 z6 y8 k7;refine wN 1 ?_ z6 z6 y8 k7;refine wN 1 ?_ z6 z6 y8 k7;refine wN 1 ?_ z6 z6 y8 k7;refine wN 1 ?_ z6 z6 y8 k7;refine wN 1 ?_ z6 z6 y8 k7;refine wN 1 ?_ z6 z6 y8 k7;refine wN 1 ?_ z6 z6 y8 k7;refine ZZ 90 rfl (rfl) ?_;refine ZZ 93 rfl (rfl) (wn ?_);refine wCC ?_ func84 (hf:=λhb=>(hsn));refine wG ?_;refine wDF ?_ (hb:=by simp[hkd]);refine wG ?_ (by simp only[go_sem,howq];try exact rfl) (by simp[go_sem,howq]);exact ZB ⟨q+1,by omega,by omega,ZU w3 w3 w3⟩
   ·refine wG ?_ y6 u2;exact ZB ⟨i+1,by omega,by omega,ZU w3 w3 w3⟩
 ·refine wGT ?_;rfl
theorem qe (id:Nat) (x:Cli):∀y,y∈ZC x->¬id∈refs y:=λy hy=>by
 have:=List.all_eq_true.1 (List.all_eq_true.1 (xg id [x]) (ZC x) w8) y hy;simpa using this
def aq (f:Fate):List AV:=[.int .i64 f.step,.int .i64 f.client,.int .i64 f.kind,.int .i64 f.whr]
def bV (k:Nat):List AV:=[.int .i64 k]
def aS (l:List Nat):List AV:=[.sl (l.map bV)]
theorem mD:Fam aq 4:=⟨λ_=>rfl,λ_=>rfl,λ_=>rfl,λ_=>rfl⟩
@[go_sem,simp] theorem xq (l:List _):((l.map aq).all λrow=>row.all AV.aT)=true:=mD.dW l
@[go_sem,simp] theorem vg (id:Nat) (l:List _):((l.map aq).all λrow=>row.all λx=>!(refs x).contains id)=true:=mD.iR id l
@[go_sem,simp] theorem Hn (e s:Nat) (l:List _):av (.cells e s (l.map aq))=[]:=mD.av e s l
@[go_sem,simp] theorem Iy (id s:Nat) (rows:List (List AV)) (l:List _):(l.map aq).map (db id s rows)=l.map aq:=Fam.db (λ_ _ _ _=>rfl) id s rows l
theorem tE (id:Nat) (x:_):∀y,y∈aq x->¬id∈refs y:=λy hy=>by
 have:=List.all_eq_true.1 (List.all_eq_true.1 (vg id [x]) (aq x) w8) y hy;simpa using this
theorem ov:Fam bV 1:=⟨λ_=>rfl,λ_=>rfl,λ_=>rfl,λ_=>rfl⟩
@[go_sem,simp] theorem zY (l:List _):((l.map bV).all λrow=>row.all AV.aT)=true:=ov.dW l
@[go_sem,simp] theorem xP (id:Nat) (l:List _):((l.map bV).all λrow=>row.all λx=>!(refs x).contains id)=true:=ov.iR id l
@[go_sem,simp] theorem I9 (e s:Nat) (l:List _):av (.cells e s (l.map bV))=[]:=ov.av e s l
@[go_sem,simp] theorem KM (id s:Nat) (rows:List (List AV)) (l:List _):(l.map bV).map (db id s rows)=l.map bV:=Fam.db (λ_ _ _ _=>rfl) id s rows l
theorem D1 (id:Nat) (x:_):∀y,y∈bV x->¬id∈refs y:=λy hy=>by
 have:=List.all_eq_true.1 (List.all_eq_true.1 (xP id [x]) (bV x) w8) y hy;simpa using this
theorem ou:Fam aS 1:=⟨λ_=>rfl,λ_=>rfl,λ_=>rfl,λ_=>rfl⟩
@[go_sem,simp] theorem IZ (id:Nat) (l:List _):((l.map aS).all λrow=>row.all λx=>!(refs x).contains id)=true:=ou.iR id l
@[go_sem,simp] theorem I0 (e s:Nat) (l:List _):av (.cells e s (l.map aS))=[]:=ou.av e s l
@[go_sem,simp] theorem zK (id s:Nat) (rows:List (List AV)) (l:List _):(l.map aS).map (db id s rows)=l.map aS:=Fam.db (λ_ _ _ _=>rfl) id s rows l
@[go_sem,simp] theorem xI (a):aA (aS a)=[]:=ou.free a
def bkB (b:Bk):List (Nat×Blk):=[(30,.cells 40 1 (b.logs.map aS)),(901,.cells 76 4 (b.fates.map aq)),(32,.cells 103 2 [[.osl 901 4 0 b.fates.length,.osl 30 1 0 b.logs.length]])]
def bkH (b:Bk) (G Y N:Nat->Nat):List (Nat×Blk):=bkB b++pins [32] G Y N
def nZ (step:Int) (ps:List Past) (fs:List Fate) (i:Nat):List Fate:=fs++(ps.take i).map λp=>(⟨step,p.client,p.act.kind,1⟩:Fate)
theorem Dy {step:Int} {ps:List Past} {fs:List Fate} {i:Nat} (h:i<=ps.length):(nZ step ps fs i).length=fs.length+i:=by unfold nZ;simp;omega
theorem Bl {step:Int} {ps:List Past} {fs:List Fate} {i:Nat} (h:i<ps.length):nZ step ps fs (i+1)=nZ step ps fs i++[⟨step,(ps.getD i default).client,(ps.getD i default).act.kind,1⟩]:=by
 unfold nZ;rw[ZT h,List.map_append,List.append_assoc];rfl
theorem DR (b:Bk) (step:Int) (ps:List Past) (hp:ps.length<=100000000) (hb:b.fates.length<=100000000) (G Y N:Nat->Nat):ai prog 48 [.ptr 32 2 0 0,.int .i64 step,.sl (ps.map ZP)] (bkH b G Y N) (λr H=>r=.tup []/\Holds (bkH (kn step ps b) G Y N) H):=by
 obtain ⟨fs,lg⟩:=b;simp only at hb;have hE:kn step ps ⟨fs,lg⟩=⟨nZ step ps fs ps.length,lg⟩:=by unfold kn nZ;rw[W7]
 have hW0:nZ step ps fs 0=fs:=by unfold nZ;simp
 have hWl:=λi=>@Dy step ps fs i
 have hWs:=λi=>@Bl step ps fs i
 rw[hE];generalize nZ step ps fs=W at *;unfold bkH bkB;refine wSG func48 ntmps48 results48 λC=>?_
 refine af (mP 901 27 32 z6 z7 z7 z6 j0 j0 rfl z7 j6 j6) ?_;refine wL ps.length (λi=>(7,.any)::(10,.int .i64 i)::u0 11 20 [])
  (λi=>[(27,.cells 76 4 ((W i).map aq)),(32,.cells 103 2 [[.osl 27 4 0 (W i).length,.osl 30 1 0 lg.length]])]) ?_ λi hi=>?_
 ·rw[hW0];exact wZ
 simp only[go_sem];refine wGD (λh=>?_) (λh=>?_)
 ·have hlt:=lt1 h;have how':=wi1 (i:=i) z8;have hg:=Fam.getD (f:=ZP) hlt;have hl1:=hWl i hi;have hs1:=hWs i hlt;generalize ps.getD i default=p at *;generalize W i=Q at *;have htq:List.take Q.length (Q.map aq)=Q.map aq:=W4 w8;refine wGq ?_ ?_ Zm
  ·simp[hg,ZP,hlt]
  refine ZW ZM ?_;refine ik 0 [1,2,3,4,5,6,7,8,9,10,11,12,13,14,15,16] [0,0,1,2,3,4,5,6,7,8,9,10,11,12,13,14,15] rfl rfl rfl (λ_ _ _ h=>h) w9 w9 v8 z7 ?_
  try simp only[go_sem,gA,gB,gC]
  refine ZS rfl ?_;refine sN 10 ?_;refine sB ?_;refine sW ?_;refine sE ?_;refine iV (aX 27 32 z6 y9) ?_;simp only[go_sem];refine dSq ?_ ?_
  ·simp[go_sem,rowsOf,htq,refs];exact ⟨by omega,λx _=>tE _ x⟩
  simp only[go_sem];refine dS ?_;refine dS ?_;refine dS ?_;refine wKn ?_;refine wG ?_ y6 u2;exact ZB ⟨i+1,by omega,by omega,ZU w3 (by simp[go_sem,hs1,htq,aq]) w3⟩
 ·obtain rfl:=eq1 hi h;refine wG ?_;refine af (mP 27 901 32 z6 z7 z7 z6 j0 j0 rfl z7 j6 j6) ?_;refine iD ⟨_,_,rfl,trivial,.tup [],.inr (.inl rfl),rfl,?_⟩;exact q9
end La
