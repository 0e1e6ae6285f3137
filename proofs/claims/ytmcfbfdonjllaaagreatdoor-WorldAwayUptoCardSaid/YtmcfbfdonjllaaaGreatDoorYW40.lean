/- Texts of this claim, part 40: WPaths, WAlone, WAway. No condition. -/
import Derived.Test.YtmcfbfdonjllaaaGreatDoorYW27
import Derived.Test.YtmcfbfdonjllaaaGreatDoorYW31
set_option maxRecDepth 10000
set_option maxHeartbeats 4000000
set_option linter.unusedSimpArgs false
set_option linter.unusedVariables false
namespace La
open Go Go.Eng Go.Proofs
theorem zJ {r:Int->Nat} {t:List Node} (hT:PTr r t) (f:Nat)
  (ih:∀k p,r k<f->p.length≤41*(24-wUp r t k)->ag Tryz.prog 26 [.rm (mN (f_ t)),.int .i64 k,.str p] [] (λr _=>r=.str (cR (af t) f k p))) (k:Int) (p:List UInt8) (hd:r k<f+1) (hp:p.length≤41*(24-wUp r t k)) :
  ag Tryz.prog 26 [.rm (mN (f_ t)),.int .i64 k,.str p] [] (λr _=>r=.str (cR (af t) (f+1) k p)):=by
 have hP:cR (af t) (f+1) k p=if ((af t k).getD ax).dir=false then p++[61]++((af t k).getD ax).data++[59]
  else ((af t k).getD ax).entries.foldl (λs e=>s++cR (af t) f e.fid (p++[47]++e.name)) (p++[47,59]):=rfl
 rw[hP];have hgm:cQ (mN (f_ t)) k=(af t k).map λn=>AV.agg (ZN n):=by rw[D8,gf hT.up]
 have hmem:∀n,af t k=some n->n∈t/\n.fid=k:=λn h=>(ZO hT.up).1 h
 have hw:=hT.w k;generalize hfd:af t k=o at hgm hmem ⊢;clear hP;refine ZF tK (Tryz.func26) rfl (λC=>?_);simp only[Tryz.ntmps26,Tryz.results26,go_sem];cases o with
 | none=>
  simp only[Option.map_none,Option.getD_none] at hgm ⊢;refine wG tK ?_ (by simp only[go_sem,hgm];try exact rfl) (by simp[go_sem,hgm]);refine wDT (hb:=y7) (hk:=?_);refine wGq tK ?_ ?_
  ·simp;omega
  refine wT ?_;simp[ax]
 | some n=>
  simp only[Option.map_some,Option.getD_some] at hgm hmem ⊢;obtain ⟨hn,hnk⟩:=hmem n rfl;have hdat:=hT.data n hn;have hl:n.entries.length≤24:=by
   cases hx:n.entries with
   | nil=>simp
   | cons e l=>
    have:=(hT.sub hn (show e∈n.entries by rw[hx];exact List.mem_cons_self)).1;have:=hT.w n.fid;rw[←hx];omega
  refine wG tK ?_ (by simp only[go_sem,hgm,ZN];try exact rfl) (by simp[go_sem,hgm,ZN]);refine wD (λh=>?_) (λh=>?_)
  ·have hdir:n.dir=false:=by simpa using h
   refine wGq tK ?_ ?_
   ·simp;omega
   refine wT ?_;simp[hdir]
  have hdir:n.dir=true:=by simpa using h
  rw[if_neg (by simp[hdir])];refine wGq tK ?_ ?_
  ·simp;omega
  refine ZL (λi:Nat=>i≤n.entries.length/\((n.entries.take i).foldl (λs e=>s++cR (af t) f e.fid (p++[47]++e.name)) (p++[47,59])).length≤p.length+2+i*20000000000) (λi=>n.entries.length-i) (λi=>(8,.str ((n.entries.take i).foldl (λs e=>s++cR (af t) f e.fid (p++[47]++e.name)) (p++[47,59])))::(10,.any)::(29,.int .i64 i)::u3 30 15 []) (λ_=>[]) 0 ⟨by omega,by simp⟩ ?_ λi hi=>?_
  ·simp only[go_sem];exact ZU w4 w4 w4
  obtain ⟨hi,hlen⟩:=hi;simp only[go_sem];refine wG tK ?_;refine wD (λh=>?_) (λh=>?_)
  ·have hlt:i<n.entries.length:=by simp at h;omega
   have hg:(n.entries.map ZE).getD i []=ZE (n.entries.getD i default):=Fam.getD hlt;have how':=wi1 (i:=i) z7;have htk:n.entries.take (i+1)=n.entries.take i++[n.entries.getD i default]:=ZT hlt;have hem:=YG hlt;have hsub:=(hT.sub hn hem).1;have hfal:=hT.cM n hn _ hem;have hnam:=hT.name n hn _ hem;rw[hnk] at hsub hfal;have hple:(p++[47]++(n.entries.getD i default).name).length≤41*(24-wUp r t (n.entries.getD i default).fid):=by
    simp only[List.length_append,List.length_cons,List.length_nil];omega
   have hih:=ih (n.entries.getD i default).fid (p++[47]++(n.entries.getD i default).name) z7 hple;have hsm:=hT.small (f:=f) hple;generalize n.entries.getD i default=e at *;generalize hS:(n.entries.take i).foldl (λs e=>s++cR (af t) f e.fid (p++[47]++e.name)) (p++[47,59])=S at *;refine wGq tK ?_ ?_ QH
   ·simp[hg,ZE,hlt];omega
   refine wC Tryz.func26 (hf:=(hih)) (hk:=?_);refine wGq tK ?_ ?_ j0
   ·simp only[Wa] at hsm ⊢;omega
   refine ZB ⟨i+1,⟨by omega,by
    rw[htk,List.foldl_append,hS];simp only[List.foldl_cons,List.foldl_nil,List.length_append] at hsm ⊢;omega⟩,by omega,ZU ?_ ?_ ?_⟩
   ·rw[htk,List.foldl_append,hS];simp[go_sem]
   ·simp[go_sem]
   ·simp[go_sem]
  ·have e:i=n.entries.length:=by simp at h;omega
   subst e;rw[WA];refine wG tK ?_;refine wT ?_;rfl
theorem sM {r:Int->Nat} {t:List Node} (hT:PTr r t):∀(f:Nat) (k:Int) (p:List UInt8),r k<f->p.length≤41*(24-wUp r t k)->ag Tryz.prog 26 [.rm (mN (f_ t)),.int .i64 k,.str p] [] (λr _=>r=.str (cR (af t) f k p))
 | 0,_,_,h,_=>by omega
 | f+1,k,p,h,hp=>zJ hT f (sM hT f) k p h hp
def py (x:Step):Bool:=x.kind==3||x.kind==4||x.kind==5||x.kind==6
def eD (l:List Step):List Step:=(l.filter py).map λx=>{ x with client:=0 }
theorem yX {l:List Step} {i:Nat} (h:i<l.length) (hk:py (l.getD i default)=true):eD (l.take (i+1))=eD (l.take i)++[{ l.getD i default with client:=0 }]:=by
 unfold eD;rw[ZT h,List.filter_append,List.map_append,List.filter_cons_of_pos hk];rfl
theorem Bs {l:List Step} {i:Nat} (h:i<l.length) (hk:py (l.getD i default)=false):eD (l.take (i+1))=eD (l.take i):=by
 unfold eD;rw[ZT h,List.filter_append,List.map_append,List.filter_cons_of_neg (by rw[hk];decide)];simp
theorem yV (l:List Step) (i:Nat):(eD (l.take i)).length≤l.length:=by
 unfold eD;rw[List.length_map];refine Wk (WH _ _) ?_;rw[WO];omega
theorem yW {l:List Step} {x:Step} (h:x∈eD l):x.client=0/\(x.kind=3\/x.kind=4\/x.kind=5\/x.kind=6)/\∃y,y∈l/\x.path=y.path/\x.toPath=y.toPath:=by
 unfold eD at h;obtain ⟨y,hy,rfl⟩:=Z7.1 h;obtain ⟨h1,h2⟩:=WE.1 hy;unfold py at h2;simp only[Bool.or_eq_true,beq_iff_eq] at h2;exact ⟨rfl,by rcases h2 with ((h | h) | h) | h<;>simp[h],y,h1,rfl,rfl⟩
theorem C8 (l:List Step) (hl:l.length≤100000000):ag Tryz.prog 25 [.sl (l.map ZX)] [] (λr _=>r=.sl ((eD l).map ZX)):=by
 refine ZF tK (Tryz.func25) rfl (λC=>?_);simp only[Tryz.ntmps25,Tryz.results25,go_sem];refine wG tK ?_;have h0:eD (l.take 0)=[]:=rfl;have hLl:=yV l;have hL1:=@yX l;have hL2:=@Bs l;refine ZL (λi:Nat=>i≤l.length) (λi=>l.length-i) (λi=>(3,.osl 34 6 0 (eD (l.take i)).length)::(5,.any)::(8,.int .i64 i)::u3 9 27 [])
  (λi=>[(34,.cells 26 6 ((eD (l.take i)).map ZX))]) 0 z7 ?_ λi hi=>?_
 ·rw[h0];simp only[go_sem];exact ZU w4 w4 w4
 simp only[go_sem];refine wG tK ?_;refine wD (λh=>?_) (λh=>?_)
 ·have hlt:i<l.length:=by simp at h;omega
  have hg:(l.map ZX).getD i []=ZX (l.getD i default):=Fam.getD hlt;have how':=wi1 (i:=i) z7;have hLl:=hLl i;have hL1:=@hL1 i hlt;have hL2:=@hL2 i hlt;generalize l.getD i default=x at *;generalize eD (l.take i)=Q at *;have htq:List.take Q.length (Q.map ZX)=Q.map ZX:=Z4 y7;refine wR ?_;refine wNq tK 4 ?_ ?_ z6 z6 (by simp only[go_sem,hg,ZX];try exact rfl)
  ·simp[hg,ZX,hlt]
  refine wG tK ?_;refine bx 29 z6 (λc29 h29=>?_);simp only[go_sem];have hc:c29=py x:=by
   rw[←h29];unfold py;simp only[Bool.cond_true_left]
  subst hc;clear h29;refine wD (λh=>?_) (λh=>?_)
  ·have hL1:=hL1 h;refine wGq tK ?_ ?_ j0
   ·simp[htq];omega
   refine ZB ⟨i+1,by omega,by omega,ZU ?_ ?_ ?_⟩
   ·simp[go_sem,hL1]
   ·simp[go_sem,hL1,htq,ZX]
   ·simp[go_sem]
  ·have hL2:=hL2 h;refine wG tK ?_ j0 QF;refine ZB ⟨i+1,by omega,by omega,ZU ?_ ?_ ?_⟩
   ·simp[go_sem,hL2]
   ·simp[go_sem,hL2]
   ·simp[go_sem]
 ·have e:i=l.length:=by simp at h;omega
  subst e;rw[WA];generalize eD l=Q at *;have htq:List.take Q.length (Q.map ZX)=Q.map ZX:=Z4 y7;refine wG tK ?_;refine ZZ 34 rfl (gp _) ?_;simp only[go_sem,htq];refine wT ?_;rfl
theorem pn (l:List Step):(l.map ZX).map (λrow=>row.map pY)=l.map ZX:=by
 rw[Wn];exact Wo λx _=>by simp[ZX,pY]
theorem vf {a l:List Step} (hl:StepsOK l) (h60:a.length≤60) (ha:∀x,x∈a->∃y,y∈l/\x.path=y.path/\x.toPath=y.toPath):StepsOK (bR::a)/\StepsOK (bR::ba::(a++[bp])):=by
 have key:∀x,x∈bR::ba::(a++[bp])->x.path.length≤10000000/\x.toPath.length≤10000000:=λx hx=>by
  rcases List.mem_cons.1 hx with rfl | hx
  ·exact ⟨by decide,by decide⟩
  ·rcases List.mem_cons.1 hx with rfl | hx
   ·exact ⟨by decide,by decide⟩
   ·rcases List.mem_append.1 hx with hx | hx
    ·obtain ⟨y,hy,e1,e2⟩:=ha x hx;rw[e1,e2];exact hl.path y hy
    ·rw[List.mem_singleton.1 hx];exact ⟨by decide,by decide⟩
 refine ⟨⟨by simp;omega,λx hx=>key x ?_⟩,by simp;omega,key⟩
 rcases List.mem_cons.1 hx with rfl | hx
 ·simp
 ·exact List.mem_cons_of_mem _ (List.mem_cons_of_mem _ (WM _ hx))
theorem E4 (l:List Step) (hl:StepsOK l):ag Tryz.prog 6 [.sl (l.map ZX)] [] (λr _=>r=.bool true):=by
 have hll:=hl.len;have hal:=C8 l z7;have hmem:=λx (hx:x∈eD l)=>yW hx
 generalize eD l=a at *;refine ZF tK (Tryz.func6) rfl (λC=>?_);simp only[Tryz.ntmps6,Tryz.results6,go_sem];refine wG tK ?_;refine wC Tryz.func24 (hf:=(Ax)) (hk:=?_);refine wG tK ?_;refine wDF (hb:=(rfl)) (hk:=?_);refine wG tK ?_;refine wC Tryz.func25 (hf:=(hal)) (hk:=?_);refine wG tK ?_;refine wD (λh=>?_) (λh=>?_)
 ·refine wG tK ?_;refine wT ?_;rfl
 have h60:a.length≤60:=by simp at h;omega
 have hso:=vf hl h60 λx hx=>(hmem x hx).2.2
 have hlaw:=CV (l:=a) λx hx=>⟨(hmem x hx).1,(hmem x hx).2.1⟩
 have hpA:=gv (rooms:=[24]) j6 hso.1 rfl k7 rfl;have hpB:=gv (rooms:=[24]) j6 hso.2 rfl k7 rfl;have hrA:=jC (bR::a) (bo [24]);have hrB:=jC (bR::ba::(a++[bp])) (bo [24]);have hwA:=(mu (rooms:=[24]) rfl (bR::a)).srv.hist.whole;have hwB:=(mu (rooms:=[24]) rfl (bR::ba::(a++[bp]))).srv.hist.whole;generalize rsW (bo [24]) (bR::a)=rA at *;generalize rsW (bo [24]) (bR::ba::(a++[bp]))=rB at *;generalize bO (bo [24]) (bR::a)=wA at *;generalize bO (bo [24]) (bR::ba::(a++[bp]))=wB at *;have hlA:rA.length=a.length+1:=by simpa using hrA
 have hlB:rB.length=a.length+3:=by simpa using hrB
 simp only[List.map_cons,List.map_nil,List.map_append,bI,ZI,ZX,bR,ba,bp] at hpA hpB;have htq:List.take a.length (a.map ZX)=a.map ZX:=Z4 y7;have hT:∀X,List.take (1+a.length) (X::a.map ZX)=X::a.map ZX:=λX=>Z4 k7
 have hc1:(1+a.length≤a.length+1)=True:=eq_true z7;have hc2:(2+a.length≤a.length+1+1)=True:=eq_true z7;have hT2:∀X Y Z,List.take (2+a.length+1) (X::Y::(a.map ZX++[Z]))=X::Y::(a.map ZX++[Z]):=λX Y Z=>Z4 k7
 have hT3:∀X Y,List.take (2+a.length) (X::Y::a.map ZX)=X::Y::a.map ZX:=λX Y=>Z4 k7
 refine wGq tK ?_ ?_
 ·simp;omega
 refine bf (ct 23) ?_;simp only[go_sem,pn];refine ZZ 23 rfl (by rw[List.all_cons,gp];rfl) ?_;simp only[go_sem,hT,hc1,if_true];refine ZZ 19 rfl (rfl) ?_;simp only[go_sem];refine wC Tryz.func16 (hf:=(hpA)) (hk:=?_);refine wGq tK ?_ ?_ (by simp only[go_sem,hT3];try exact rfl)
 ·simp[refs,hT3]
  repeat' (first | exact λx _=>bH _ x | omega | apply And.intro)
 refine bf (ct 37) ?_;simp only[go_sem,pn];refine ZZ 37 rfl (by simp only[List.all_cons,List.all_append,gp];rfl) ?_;simp only[go_sem,hT2,hc2,if_true];refine ZZ 29 rfl (rfl) ?_;simp only[go_sem];refine wC Tryz.func16 (hf:=(hpB)) (hk:=?_);refine wG tK ?_;refine wDF (hb:=(by simp[hlA,hlB];rw[Eng.wrap_small z7 z7];omega)) (hk:=?_);refine wG tK ?_;refine ZL (λi:Nat=>i≤a.length/\∀j,j<i->(rA.getD (j+1) default).err=(rB.getD (j+2) default).err) (λi=>a.length-i) (λi=>(9,.any)::u3 11 45 ((58,.int .i64 i)::u3 59 16 []))
  (λ_=>[]) 0 ⟨by omega,λj hj=>by omega⟩ ?_ λi hi=>?_
 ·simp only[go_sem];exact ZU w4 w4 w4
 obtain ⟨hi,hall⟩:=hi;simp only[go_sem];refine wG tK ?_;refine wD (λh=>?_) (λh=>?_)
 ·have hlt:i<a.length:=by simp at h;omega
  have hw1:=wi1 (i:=i) z7;have hw2:IntKind.i64.wrap ((i:Int)+2)=((i+2:Nat):Int):=by rw[Eng.wrap_small z7 z7];rfl
  have gA:(rA.map aj).getD (i+1) []=aj (rA.getD (i+1) default):=Fam.getD z7;have gB:(rB.map aj).getD (i+2) []=aj (rB.getD (i+2) default):=Fam.getD z7;have hnx:(rA.getD (i+1) default).err=(rB.getD (i+2) default).err->∀j,j<i+1->(rA.getD (j+1) default).err=(rB.getD (j+2) default).err:=λhe j hj=>by
   by_cases e:j=i
   ·subst e;exact he
   ·exact hall j z7
  generalize rA.getD (i+1) default=x at *;generalize rB.getD (i+2) default=y at *;refine wG tK ?_;refine ZW ZM ?_;refine ZS rfl ?_;refine sNq tK 13 ?_ ?_ z6 z6 (by simp only[go_sem,hw1,hw2,gA,gB,aj];try exact rfl)
  ·simp[gA,gB,aj,hlA,hlB];omega
  refine sE ?_;refine wKd ?_
  try simp only[go_sem,gA,gB,gC]
  refine wG tK ?_;refine wD (λh=>?_) (λh=>?_)
  ·refine wG tK ?_;refine wT ?_;rfl
  ·have he:x.err=y.err:=by simpa using h
   refine wG tK ?_ x7 QY;refine ZB ⟨i+1,⟨by omega,hnx he⟩,by omega,ZU ?_ ?_ ?_⟩
   ·simp[go_sem]
   ·simp[go_sem]
   ·simp[go_sem]
 ·have e:i=a.length:=by simp at h;omega
  subst e;obtain ⟨hm,hpp⟩:=hlaw.resolve_left λ⟨i,h1,h2⟩=>h2 (hall i h1)
  obtain ⟨qA,hqA⟩:=PTr.of hwA;obtain ⟨qB,hqB⟩:=PTr.of hwB;have hpA:=sM hqA (qA 0+qB 0+1) 0 [] z7 (Wg _);have hpB:=sM hqB (qA 0+qB 0+1) 0 [] z7 (Wg _);rw[hpp] at hpA;have hoA:=Ix wA.s.tree (by have:=hwA.bV.len;omega);have hoB:=Ix wB.s.tree (by have:=hwB.bV.len;omega);generalize cR (af wB.s.tree) (qA 0+qB 0+1) 0 []=S at *;have hw3:IntKind.i64.wrap ((rB.length:Int)-1)=((a.length+2:Nat):Int):=by rw[Eng.wrap_small z7 z7];omega
  have hg:(rB.map aj).getD (a.length+2) []=aj (rB.getD (a.length+2) default):=Fam.getD z7;generalize rB.getD (a.length+2) default=y at *;refine wGq tK ?_ ?_ (by simp only[go_sem,hw3,hg,aj];try exact rfl)
  ·simp[hg,aj,hlB];omega
  refine ZW ZM ?_;refine ZS rfl ?_;refine sN tK 7 ?_;refine sCC Tryz.func27 (hf:=λhb=>(hoA)) (hk:=?_);refine sCC Tryz.func26 (hf:=λhb=>(hpA)) (hk:=?_);refine sN tK 3 ?_;refine sCC Tryz.func27 (hf:=λhb=>(hoB)) (hk:=?_);refine sCC Tryz.func26 (hf:=λhb=>(hpB)) (hk:=?_);refine sN tK 3 ?_;refine sE ?_;refine wKd ?_
  try simp only[go_sem,gA,gB,gC]
  refine wG tK ?_;refine wT ?_;simp[hm]
end La
