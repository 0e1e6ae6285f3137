/- Texts of this claim, part 23: RList, Worst, Del, Keep, PKeep, Srt, RCache, PReach, RDo. No condition. -/
import Derived.Test.YtmcfbfdonjllaaaGreatDoorZP14
import Derived.Test.YtmcfbfdonjllaaaGreatDoorZP22
set_option maxRecDepth 10000
set_option maxHeartbeats 4000000
set_option linter.unusedSimpArgs false
set_option linter.unusedVariables false
namespace La
open Go Go.Eng Go.Proofs Go.Proofs.Tryz
theorem xO {α:Type} {n:Int} {v:α} [Inhabited α]:∀(S:List (Int×α)) (k:Nat),k<=S.length->(∀j,j<k->(S.getD j default).1<n)->(∀h:k<S.length,n<(S.getD k default).1)->aV S n v=S.take k++(n,v)::S.drop k
 | [],k,hk,_,_=>by
  have:k=0:=by simpa using hk
  subst this;rfl
 | p::S,0,_,_,h=>by
  have:=h w8;simp only[List.getD_cons_zero] at this;simp only[aV,List.take_zero,List.drop_zero,List.nil_append];rw[if_neg z8,if_pos this]
 | p::S,k+1,hk,h1,h2=>by
  have h0:=h1 0 z8;simp only[List.getD_cons_zero] at h0;have ih:=xO (n:=n) (v:=v) S k Za (λj hj=>by have:=h1 (j+1) z8;simpa using this) (λh=>by have:=h2 u1;simpa using this);simp only[aV,List.take_succ_cons,List.drop_succ_cons,List.cons_append];rw[if_neg z8,if_neg z8,ih]
def dv (p:Int×Node):List AV:=ZN p.2
theorem mE:Fam dv 5:=⟨λ_=>rfl,λ_=>rfl,λ_=>rfl,λ_=>rfl⟩
@[go_sem,simp] theorem fU (l:List _):Eng.rowsOf 5 (l.map dv):=mE.rowsOf l
@[go_sem,simp] theorem jo (l:List _):((l.map dv).all λrow=>row.all AV.leaf)=true:=mE.jT l
@[go_sem,simp] theorem Er (l:List _):((l.map dv).all λrow=>row.all AV.aT)=true:=mE.dW l
@[go_sem,simp] theorem cR (id:Nat) (l:List _):((l.map dv).all λrow=>row.all λx=>!(refs x).contains id)=true:=mE.iR id l
@[go_sem,simp] theorem LF (e s:Nat) (l:List _):av (.cells e s (l.map dv))=[]:=mE.av e s l
@[go_sem,simp] theorem Ma (id s:Nat) (rows:List (List AV)) (l:List _):(l.map dv).map (db id s rows)=l.map dv:=Fam.db (λ_ _ _ _=>rfl) id s rows l
theorem wA {p:Int×Node} {x:AV} (h:x∈dv p):refs x=[]:=by
 simp only[dv,ZN,List.mem_cons,List.not_mem_nil,or_false] at h
 rcases h with rfl | rfl | rfl | rfl | rfl<;>rfl
theorem Ep (nd:Node):rowsOf 5 [[AV.int .i64 nd.fid,.bool nd.dir,.sl (nd.data.map ZY),.sl (nd.entries.map ZE),.int .i64 nd.version]]:=by
 intro row h;rw[List.mem_singleton] at h;subst h;rfl
theorem Ga (m:List (Int×Node)) (hr:dQ m) (hkf:∀p,p∈m->p.2.fid=p.1) (hlen:m.length<=50000000):Fo 97 [.rm (mN m)] (.sl (m.map dv)):=by
 refine wSG func97 ntmps97 results97 λC=>?_
 refine tv tK rfl rfl rfl z7 z7 z7 ?_;refine wG ?_;refine af (le_empty 99 94 5 z7) (wn ?_);refine ZL (λ_:List Int=>True) (λseen=>n_ m seen) (λseen=>(3,.osl 99 5 0 (ee m seen).length)::(5,.any)::(6,.any)::u0 9 32 []) (λseen=>[(99,.cells 94 5 ((ee m seen).map dv)),(8,.iter (mN m) seen)]) [] trivial ?_ λseen _=>?_
 ·simp only[go_sem];exact ZU (by simp[go_sem,nM]) (by simp[go_sem,nM,BH]) w3
 simp only[go_sem];refine wR ?_;refine xm rfl rfl z7 z7 (λhall=>?_) (λn v hnv hns=>?_)
 ·have hsa:ee m seen=m:=qW λp hp=>hall (p.1,.agg (ZN p.2)) (BF hp)
  rw[hsa];simp only[go_sem];refine mh ?_ (hb:=rfl);refine ZZ 99 rfl (Er _) (wn ?_);refine wT ?_;simp
 ·obtain ⟨nd,rfl,hmem⟩:=BG hnv;have hpt:=qX hr hmem (seen:=seen);have hlt:=mQ hmem hns;have hfid:nd.fid=n:=hkf _ hmem;have hsub:∀p,p∈ee m seen->p.2.fid=p.1/\p.1≠n:=λp hp=>by
   have h1:=YL.1 hp;refine ⟨hkf p h1.1,λe=>hns ?_⟩;have:=h1.2;rw[e] at this;simpa using this
  have hsl:(ee m seen).length<=m.length:=YB _ _;have hsr:dQ (ee m seen):=hr.filter _;simp only[go_sem];refine wG ?_;refine wDT ?_ (hb:=rfl);refine wR ?_;refine tu rfl rfl z7 z7 (hnv) ?_;simp only[go_sem];refine wGq ?_ ?_ w5
  ·simp[ZN,AV.jw,AV.aT]
  clear hlt hnv;have hlt:=mQ hmem hns;generalize hS:ee m seen=S at *;refine ZL (λk:Nat=>k<=S.length/\∀j,j<k->(S.getD j default).1<n) (λk=>S.length-k) (λk=>(6,.int .i64 k)::u0 13 16 []) (λ_=>[]) 0 ⟨by omega,by omega⟩ ?_ λk hk=>?_
  ·exact wZ
  obtain ⟨hk,hk2⟩:=hk;simp only[go_sem];refine wGS ?_
  by_cases hkl:k<S.length
  ·have hg:=Fam.getD (f:=dv) hkl;have hw:IntKind.i64.wrap ((k:Int)+1)=((k+1:Nat):Int):=by rw[Eng.wrap_small z8 z8];rfl
   have hmk:=hsub _ (YG hkl);have hat:(∀h:k<S.length,n<(S.getD k default).1)->aV S n nd=S.take k++(n,nd)::S.drop k:=xO S k hk hk2;have hk3:(S.getD k default).1<n->∀j,j<k+1->(S.getD j default).1<n:=λh0 j hj=>by
    rcases Nat.lt_succ_iff_lt_or_eq.1 hj with h1 | rfl
    ·exact hk2 j h1
    ·exact h0
   generalize S.getD k default=q at hg hmk hat hk3;refine sNq 14 ?_ ?_ z6 z6 (by simp only[go_sem,hg,dv,ZN];try exact rfl)
   ·simp[hg,dv,ZN,hkl]
   refine wX ?_;refine wD (λh=>?_) (λh=>?_)
   ·have hqn:q.1<n:=by
     rw[<-hmk.1,<-hfid];simpa[hkl] using h
    refine wG ?_ w4 y7;refine ZB ⟨k+1,⟨by omega,hk3 hqn⟩,by omega,ZU ?_ ?_ ?_⟩
    ·simp[go_sem]
    ·simp[go_sem]
    ·simp[go_sem]
   ·have hqn:¬q.1<n:=by
     rw[<-hmk.1,<-hfid];simpa[hkl] using h
    have hput:=hat λ_=>by have:=hmk.2;omega
    have hA1:List.take k (S.map dv)=(S.take k).map dv:=by rw[List.map_take]
    have hB1:List.take (S.length-k) (List.drop k (S.map dv))=(S.drop k).map dv:=by rw[<-List.map_drop,W4 w8]
    have hlA:(S.take k).length=k:=by rw[YF];omega
    have hlB:(S.drop k).length=S.length-k:=YZ;generalize S.take k=A at hA1 hlA hput;generalize S.drop k=B at hB1 hlB hput;subst hlA;refine wG ?_;have hq:∀(id:Nat) (x:List AV) (a:Int) (b:Node),(a,b)∈S->dv (a,b)=x->∀y,y∈x->¬id∈refs y:=λid x a b _ e y hy=>by rw[<-e] at hy;rw[wA hy];simp
    have hX:A++[(n,nd)]++B=aV S n nd:=by rw[hput];simp
    have hr1:List.take 0 ([]:List (List AV))++A.map dv=A.map dv:=rfl;have hn1:0+(A.map dv).length=A.length:=by simp
    have hr2:List.take A.length (A.map dv)++[[AV.int .i64 nd.fid,.bool nd.dir,.sl (nd.data.map ZY),.sl (nd.entries.map ZE),.int .i64 nd.version]]=(A++[(n,nd)]).map dv:=by rw[List.map_append,W4 w8];rfl
    have hn2:A.length+1=(A++[(n,nd)]).length:=by simp
    have hr3:List.take (A++[(n,nd)]).length ((A++[(n,nd)]).map dv)++B.map dv=(aV S n nd).map dv:=by rw[<-hX,List.map_append (l₁:=A++[(n,nd)]),W4 w8]
    have hn3:(A++[(n,nd)]).length+(B.map dv).length=(aV S n nd).length:=by rw[<-hX];simp;omega
    refine ZW ZM ?_;refine fM [(29,[29],[]),(33,[33],[]),(36,[36],[])] rfl (uz ?_) ?_
    ·simp[go_sem,bo];exact ⟨hq 29,hq 33,hq 36⟩
    refine zW tK (hk:=?_);refine zN tK 3 (h:=Qt) (hp:=?_) (hk:=?_)
    ·simp[hk]
    refine zA tK (hv:=Q9) (h2:=?_) (h4:=?_) (h5:=?_) (h7:=?_) (h8:=?_) (hzz:=?_) (hn:=hn1) (hr:=hr1) (hk:=?_)
    ·first | exact fU _ | exact Ep nd
    ·first | exact jo _ | rfl
    ·simp[go_sem];omega
    ·simp
    ·rw[hr1];exact cR _ _
    ·intro z hz;simp only[List.mem_cons,List.not_mem_nil,or_false] at hz
     rcases hz with rfl | rfl | rfl
     all_goals first | exact .inr ⟨rfl,by decide⟩ | exact .inl ⟨by decide,by rw[hr1];exact cR _ _⟩
    refine zN tK 1 (hk:=?_);refine zW tK (hk:=?_);refine zA tK (h2:=?_) (h4:=?_) (h5:=?_) (h7:=?_) (h8:=?_) (hzz:=?_) (hn:=hn2) (hr:=hr2) (hk:=?_)
    ·first | exact fU _ | exact Ep nd
    ·first | exact jo _ | rfl
    ·simp[go_sem];omega
    ·simp
    ·rw[hr2];exact cR _ _
    ·intro z hz;simp only[List.mem_cons,List.not_mem_nil,or_false] at hz
     rcases hz with rfl | rfl | rfl
     all_goals first | exact .inr ⟨rfl,by decide⟩ | exact .inl ⟨by decide,by rw[hr2];exact cR _ _⟩
    refine zN tK 3 (h:=Qt) (hp:=?_) (hk:=?_)
    ·simp[hk]
    refine zA tK (hv:=by simp only[go_sem,hB1];try exact rfl) (h2:=?_) (h3:=by simp[go_sem,hlB]) (h4:=?_) (h5:=?_) (h7:=?_) (h8:=?_) (hzz:=?_) (hn:=hn3) (hr:=hr3) (hk:=?_)
    ·first | exact fU _ | exact Ep nd
    ·first | exact jo _ | rfl
    ·simp[go_sem];omega
    ·simp
    ·rw[hr3];exact cR _ _
    ·intro z hz;simp only[List.mem_cons,List.not_mem_nil,or_false] at hz
     rcases hz with rfl | rfl | rfl
     all_goals first | exact .inr ⟨rfl,by decide⟩ | exact .inl ⟨by decide,by rw[hr3];exact cR _ _⟩
    refine zN tK 1 (hk:=?_);refine jK w9 z6 ?_;refine wKn ?_;refine af (lA 99) ?_;refine af (gy 40 99) ?_;refine wG ?_;exact ZB ⟨n::seen,hlt,ZU (by simp[go_sem,<-hpt]) (by simp[go_sem,<-hpt]) w3⟩
  ·have hkl2:k=S.length:=by omega
   have hput:aV S n nd=S.take k++(n,nd)::S.drop k:=xO S k hk hk2 λh=>absurd h hkl
   have hdf:decide ((k:Int)<(S.length:Int))=false:=decide_eq_false z8;refine sN 5 ?_;rw[hdf]
   iterate 7 refine sS ?_
   refine sSB ?_;refine sN 1 ?_;refine wX ?_;refine wD (λh=>?_) (λh=>?_)
   ·exfalso;simp at h
   have hA1:List.take k (S.map dv)=(S.take k).map dv:=by rw[List.map_take]
   have hB1:List.take (S.length-k) (List.drop k (S.map dv))=(S.drop k).map dv:=by rw[<-List.map_drop,W4 w8]
   have hlA:(S.take k).length=k:=by rw[YF];omega
   have hlB:(S.drop k).length=S.length-k:=YZ;generalize S.take k=A at hA1 hlA hput;generalize S.drop k=B at hB1 hlB hput;subst hlA;refine wG ?_;have hq:∀(id:Nat) (x:List AV) (a:Int) (b:Node),(a,b)∈S->dv (a,b)=x->∀y,y∈x->¬id∈refs y:=λid x a b _ e y hy=>by rw[<-e] at hy;rw[wA hy];simp
   have hX:A++[(n,nd)]++B=aV S n nd:=by rw[hput];simp
   have hr1:List.take 0 ([]:List (List AV))++A.map dv=A.map dv:=rfl;have hn1:0+(A.map dv).length=A.length:=by simp
   have hr2:List.take A.length (A.map dv)++[[AV.int .i64 nd.fid,.bool nd.dir,.sl (nd.data.map ZY),.sl (nd.entries.map ZE),.int .i64 nd.version]]=(A++[(n,nd)]).map dv:=by rw[List.map_append,W4 w8];rfl
   have hn2:A.length+1=(A++[(n,nd)]).length:=by simp
   have hr3:List.take (A++[(n,nd)]).length ((A++[(n,nd)]).map dv)++B.map dv=(aV S n nd).map dv:=by rw[<-hX,List.map_append (l₁:=A++[(n,nd)]),W4 w8]
   have hn3:(A++[(n,nd)]).length+(B.map dv).length=(aV S n nd).length:=by rw[<-hX];simp;omega
   refine ZW ZM ?_;refine fM [(29,[29],[]),(33,[33],[]),(36,[36],[])] rfl (uz ?_) ?_
   ·simp[go_sem,bo];exact ⟨hq 29,hq 33,hq 36⟩
   refine zW tK (hk:=?_);refine zN tK 3 (h:=Qt) (hp:=?_) (hk:=?_)
   ·simp[hk]
   refine zA tK (hv:=Q9) (h2:=?_) (h4:=?_) (h5:=?_) (h7:=?_) (h8:=?_) (hzz:=?_) (hn:=hn1) (hr:=hr1) (hk:=?_)
   ·first | exact fU _ | exact Ep nd
   ·first | exact jo _ | rfl
   ·simp[go_sem];omega
   ·simp
   ·rw[hr1];exact cR _ _
   ·intro z hz;simp only[List.mem_cons,List.not_mem_nil,or_false] at hz
    rcases hz with rfl | rfl | rfl
    all_goals first | exact .inr ⟨rfl,by decide⟩ | exact .inl ⟨by decide,by rw[hr1];exact cR _ _⟩
   refine zN tK 1 (hk:=?_);refine zW tK (hk:=?_);refine zA tK (h2:=?_) (h4:=?_) (h5:=?_) (h7:=?_) (h8:=?_) (hzz:=?_) (hn:=hn2) (hr:=hr2) (hk:=?_)
   ·first | exact fU _ | exact Ep nd
   ·first | exact jo _ | rfl
   ·simp[go_sem];omega
   ·simp
   ·rw[hr2];exact cR _ _
   ·intro z hz;simp only[List.mem_cons,List.not_mem_nil,or_false] at hz
    rcases hz with rfl | rfl | rfl
    all_goals first | exact .inr ⟨rfl,by decide⟩ | exact .inl ⟨by decide,by rw[hr2];exact cR _ _⟩
   refine zN tK 3 (h:=Qt) (hp:=?_) (hk:=?_)
   ·simp[hk]
   refine zA tK (hv:=by simp only[go_sem,hB1];try exact rfl) (h2:=?_) (h3:=by simp[go_sem,hlB]) (h4:=?_) (h5:=?_) (h7:=?_) (h8:=?_) (hzz:=?_) (hn:=hn3) (hr:=hr3) (hk:=?_)
   ·first | exact fU _ | exact Ep nd
   ·first | exact jo _ | rfl
   ·simp[go_sem];omega
   ·simp
   ·rw[hr3];exact cR _ _
   ·intro z hz;simp only[List.mem_cons,List.not_mem_nil,or_false] at hz
    rcases hz with rfl | rfl | rfl
    all_goals first | exact .inr ⟨rfl,by decide⟩ | exact .inl ⟨by decide,by rw[hr3];exact cR _ _⟩
   refine zN tK 1 (hk:=?_);refine jK w9 z6 ?_;refine wKn ?_;refine af (lA 99) ?_;refine af (gy 40 99) ?_;refine wG ?_;refine ZB ⟨n::seen,hlt,ZU ?_ ?_ ?_⟩
   ·simp[go_sem,<-hpt]
   ·simp[go_sem,<-hpt]
   ·simp[go_sem]
theorem sF (l:List Node) (hu:Up l) (hlen:l.length<=50000000):Fo 97 [.rm (mN (bI l))] (.sl (l.map ZN)):=by
 have h:=Ga (bI l) (bA l) (λp hp=>by
  rw[sH hu] at hp;obtain ⟨n,_,rfl⟩:=W8.1 hp;rfl) (by rw[mS hu];exact hlen)
 have e:(bI l).map dv=l.map ZN:=by
  rw[sH hu,Yi];rfl
 rwa [e] at h
def orI (a b c:Int):Int:=if a≠0 then a else if b≠0 then b else c
theorem Mi (a b c:Int):Fo 189 [.sl [[.int .i64 a],[.int .i64 b],[.int .i64 c]]] (.int .i64 (orI a b c)):=by
 refine wSG func189 ntmps189 results189 λC=>?_
 refine ZL (λi:Nat=>i<=3/\(0<i->a=0)/\(1<i->b=0)/\(2<i->c=0)) (λi=>3-i) (λi=>(5,.any)::(8,.int .i64 i)::u0 9 8 []) (λ_=>[]) 0 z8 ?_ λi hi=>?_
 ·exact wZ
 obtain ⟨hi,h1,h2,h3⟩:=hi;simp only[go_sem];refine wGD (λh=>?_) (λh=>?_)
 ·have hlt:=lt1 h;have hw:=wi1 (i:=i) z8;obtain ⟨x,hg,hx⟩:∃x,[[AV.int .i64 a],[AV.int .i64 b],[AV.int .i64 c]].getD i []=[AV.int .i64 x]/\(x≠0->orI a b c=x)/\(x=0->(0<i+1->a=0)/\(1<i+1->b=0)/\(2<i+1->c=0)):=by
   rcases (show i=0\/i=1\/i=2 by omega) with rfl | rfl | rfl
   ·exact ⟨a,rfl,λh=>by simp[orI,h],λh=>⟨λ_=>h,λh=>by omega,λh=>by omega⟩⟩
   ·have ha:=h1 z8;exact ⟨b,rfl,λh=>by simp[orI,h,ha],λh=>⟨λ_=>ha,λ_=>h,λh=>by omega⟩⟩
   ·have ha:=h1 z8;have hb:=h2 z8;exact ⟨c,rfl,λh=>by simp[orI,ha,hb],λh=>⟨λ_=>ha,λ_=>hb,λ_=>h⟩⟩
  obtain ⟨hx1,hx2⟩:=hx;refine wGq ?_ ?_ u6
  ·simp[hg,hlt]
  refine wD (λh=>?_) (λh=>?_)
  ·refine wGT ?_;rw[hx1 u1]
  ·refine wG ?_ w4 y7;refine ZB ⟨i+1,⟨by omega,hx2 u1⟩,by omega,ZU ?_ ?_ ?_⟩
   ·simp[go_sem]
   ·simp[go_sem]
   ·simp[go_sem]
 ·obtain rfl:=eq1 hi h;refine wGT ?_;simp[orI,h1 z8,h2 z8,h3 z8]
def tk (a b:Kept):Int:=orI (jt a.worth b.worth) (jt a.last b.last) (jt a.node.fid b.node.fid)
def cZ (l:List Kept):Nat->Option Nat
 | 0=>none
 | i+1=>
  if (l.getD i default).dirty||(l.getD i default).node.fid==0 then cZ l i
  else match cZ l i with
   | none=>some i
   | some b=>if tk (l.getD i default) (l.getD b default)<0 then some i else some b
theorem fO (l:List Kept):∀(i b:Nat),cZ l i=some b->b<i
 | 0,b,h=>by cases h
 | i+1,b,h=>by
  simp only[cZ] at h;have ih:=fO l i;split at h
  ·have:=ih b h;omega
  ·split at h
   ·injection h with h;omega
   ·rename_i b' e;have:=ih b' e;split at h
    ·injection h with h;omega
    ·injection h with h;omega
def rb (l:List Kept):Option Nat:=cZ l l.length
theorem AY (l:List Kept) (hlen:l.length<=100000000):Fo 158 [.sl (l.map ZK)] (.int .i64 (cq (rb l))):=by
 refine wSG func158 ntmps158 results158 λC=>?_
 refine wL l.length (λi=>(3,.int .i64 (cq (cZ l i)))::(4,.any)::(5,.any)::(8,.int .i64 i)::u0 9 47 []) (λ_=>[]) ?_ λi hi=>?_
 ·simp only[go_sem];exact ZU (by simp[go_sem];rfl) w3 w3
 simp only[go_sem];refine wGD (λh=>?_) (λh=>?_)
 ·have hlt:=lt1 h;have hg:=Fam.getD (f:=ZK) hlt;have hw:=wi1 (i:=i) z8;have hwl:=fO l i;have hstep:cZ l (i+1)=if (l.getD i default).dirty||(l.getD i default).node.fid==0 then cZ l i else match cZ l i with
   | none=>some i
   | some b=>if tk (l.getD i default) (l.getD b default)<0 then some i else some b:=rfl
  generalize l.getD i default=x at hg hstep;refine wGq ?_ ?_ j8
  ·simp[hg,hlt,ZK]
  refine ZZ 5 rfl (rfl) (wn ?_);refine wD (λh=>?_) (λh=>?_)
  ·have hno:cZ l (i+1)=cZ l i:=by rw[hstep,if_pos u1]
   refine wG ?_ w4 y7;exact ZB ⟨i+1,by omega,by omega,ZU (by simp[go_sem,hno]) w3 w3⟩
  ·have hyes:(x.dirty||x.node.fid==0)=false:=by simpa using h
   rw[hyes] at hstep;simp only[Bool.false_eq_true,if_false] at hstep;cases hb:cZ l i with
   | none=>
    rw[hb] at hstep;simp only[cq];refine wGS ?_;refine sN 3 ?_
    iterate 28 refine sS ?_
    refine sSB ?_;refine sN 1 ?_;refine sE ?_;refine wKd ?_;refine wDT ?_ (hb:=w8);refine wG ?_ w4 y7;exact ZB ⟨i+1,by omega,by omega,ZU (by simp[go_sem,hstep,cq]) w3 w3⟩
   | some b=>
    rw[hb] at hstep;have hbl:=hwl b hb;have hgb:(l.map ZK).getD b []=ZK (l.getD b default):=Fam.getD z8;simp only at hstep;generalize l.getD b default=y at hgb hstep;simp only[cq];refine wGS ?_;refine sN 3 ?_;refine dh 23 z6 (λc23 h23=>?_);simp only[go_sem];have hc:c23=false:=by rw[<-h23];simp
    subst hc;refine sNq 7 ?_ ?_ z6 z6 Qh
    ·simp[hgb,ZK];omega
    refine sCC ?_ func147 (hf:=λhb=>(ju x.worth y.worth));refine sNq 7 ?_ ?_ z6 z6 Qh
    ·simp[hgb,ZK];omega
    refine sCC ?_ func147 (hf:=λhb=>(ju x.last y.last));refine sNq 9 ?_ ?_ z6 z6 Qh
    ·simp[hgb,ZK];omega
    refine sCC ?_ func147 (hf:=λhb=>(ju x.node.fid y.node.fid));refine sW ?_;refine Ez rfl z7 z7 w3 z7 w3 ⟨_,func189,by kernel_rfl,rfl⟩ (λhb=>(Mi _ _ _)) w3 z6 z6 ?_;refine sN 2 ?_;refine sE ?_;refine wKd ?_
    by_cases hlt:tk x y<0
    ·refine wDT ?_ (hb:=by simpa[tk] using hlt);refine wG ?_ w4 y7;exact ZB ⟨i+1,by omega,by omega,ZU (by simp[go_sem,hstep,cq,hlt]) w3 w3⟩
    ·refine wDF ?_ (hb:=by simpa[tk] using hlt);refine wG ?_ w4 y7;exact ZB ⟨i+1,by omega,by omega,ZU (by simp[go_sem,hstep,cq,hlt]) w3 w3⟩
 ·obtain rfl:=eq1 hi h;refine wGT ?_;rfl
theorem Fw (l:List Kept) (i:Nat) (hi:i<l.length):aY (l.map ZK) i (((l.map ZK).drop (i+1)).take (l.length-(i+1)))=(l.eraseIdx i).map ZK++(l.drop (l.length-1)).map ZK:=by
 unfold aY;have e1:((l.map ZK).drop (i+1)).take (l.length-(i+1))=(l.map ZK).drop (i+1):=W4 w8;rw[e1,List.eraseIdx_eq_take_drop_succ,List.map_append,List.map_take,List.map_drop,List.map_drop]
 congr 2
 simp;omega
theorem Dl (A Z:List (List AV)) (z:List AV) (n:Nat) (hA:A.length=n):(aY (A++Z) n [z]).take n=A:=by
 unfold aY;rw[List.append_assoc,List.take_append,<-hA,List.take_append_length];simp
def dK (R:List (List AV)) (G Y N:Nat->Nat):List (Nat×Blk):=[(1000,.cells 138 8 R)]++pins [1000] G Y N
theorem Fv (l:List Kept) (i:Nat) (hi:i<l.length) (hlen:l.length<=100000000) (G Y Z:Nat->Nat) :
  ai prog 159 [.osl 1000 8 0 l.length,.int .i64 i,.int .i64 ((i+1:Nat):Int)] (dK (l.map ZK) G Y Z) (λr H=>r=.osl 1000 8 0 (l.length-1)/\∀j b,aa (dK ((l.eraseIdx i).map ZK) G Y Z) j=some b->aa H j=some b):=by
 unfold dK;refine wS func159 ntmps159 results159 λC=>?_
 refine wR ?_;refine wN 1 ?_;refine wR ?_;refine wN 5 ?_;refine bC rfl (AQ tK rfl rfl (id:=1000) (s:=8) (off:=0) (len:=l.length) (l:=i) (h:=i+1) (m:=l.length) z7 z7 z7 z7 z8 z8 z8 z8 rfl z8) ?_;simp only[go_sem];refine wGD (λh=>?_) (λh=>?_)
 ·simp at h;omega
 refine wG ?_;refine Iu 50 (t:=0) (id:=1000) (s:=8) (off:=0) (len:=l.length) z7 z7 z8 z8 z7 (λN hN1 hN2=>?_);simp only[go_sem];refine wO ?_;refine sN 2 ?_;refine B9 tK rfl rfl rfl (id:=1000) (s:=8) (len:=l.length) (h:=i) (j:=50) (N:=N) z7 z7 z7 z8 z8 rfl z8 z6 z6 ?_;refine sNq 3 ?_ ?_
 ·simp;omega
 refine sE ?_;have hm:i+(l.length-(i+1))=l.length-1:=by omega
 have hE:(l.eraseIdx i).length=l.length-1:=by rw[List.length_eraseIdx,if_pos hi]
 have hO:=Fw l i hi;refine ff rfl w9 rfl (vr tK rfl rfl (id:=1000) (s:=8) (i:=i) (j:=i+1) (m:=l.length-(i+1)) (N:=N) (e':=138) (R:=l.map ZK) z7 z7 z7 k6 k6 z8 rfl z8 (tW l) (by rw[<-List.map_drop,<-List.map_take];exact xE _)) rfl ?_;rw[hm,hO];have hR:((l.eraseIdx i).map ZK).length=l.length-1:=by rw[List.length_map,hE]
 have hZl:(l.drop (l.length-1)).length=1:=by simp;omega
 generalize (l.eraseIdx i).map ZK=A at *;generalize (l.drop (l.length-1))=W at *;refine dS ?_;refine wKn ?_;refine wR ?_;refine wN 2 ?_;refine af (F6 28 z6) (wn ?_);refine wN 2 ?_;refine bC rfl (yl tK rfl rfl (id:=1000) (s:=8) (len:=l.length-1) (cap:=N) (l:=l.length-1) (h:=l.length) z7 z7 z7 z8 z8 rfl z8) ?_;simp only[go_sem];refine wGq ?_ ?_
 ·simp[hR,hZl];omega
 have h1:l.length-(l.length-1)=1:=by omega
 simp only[go_sem,h1,List.replicate_one];refine af (F6 6 z6) (wn ?_);refine af (qI (id:=1000) (l.length-1) z6) ?_;simp only[go_sem,Dl A _ _ (l.length-1) hR];refine wT ?_;refine ⟨rfl,c_ ?_ ?_⟩
 ·simp[go_sem]
 ·simp[go_sem]
def bU (room:Int):Nat->List Kept->Option (List Kept)
 | 0,l=>some l
 | f+1,l=>if (l.length:Int)≥room then (match rb l with
   | none=>none
   | some i=>bU room f (l.eraseIdx i)) else some l
def mT (a b:Int):Int:=if b>a then b else a
def cT (l:List Kept) (room:Int) (k:Kept):Option (List Kept):=match b_ l k.node.fid with
 | some i=>some (l.set i { k with worth:=mT k.worth (l.getD i default).worth })
 | none=>(bU room (l.length+1) l).map λL=>L++[k]
def rD (l:List Kept) (room:Int) (k:Kept):AV:=match cT l room k with
 | none=>.tup [.sl [],.int .i64 5]
 | some L=>.tup [.sl (L.map ZK),.int .i64 0]
def qE (l:List Kept) (room:Int) (k:Kept):AV:=match cT l room k with
 | none=>.tup [.nils,.int .i64 5]
 | some L=>.tup [.sl (L.map ZK),.int .i64 0]
theorem F2 (l:List Kept) (room:Int) (k:Kept) (hl:SmallK l) (hk:k.node.Small):Fo 112 [.sl (l.map ZK),.int .i64 room,.agg (ZK k)] (qE l room k):=by
 have hlen:=hl.len;have e0:=gV (M:=[k]) (i:=0) w8;refine wS func112 ntmps112 results112 λC=>?_
 refine wGq ?_ ?_ QC
 ·simp
 refine wCG ?_ [] 978 func68 (hf:=kJ l hl);refine wGq ?_ ?_ QC
 ·simp
 refine ZZ 14 rfl (rfl) (wn ?_);refine wC ?_ func68 (hf:=sD [k] (SmallK.one hk));refine wGq ?_ ?_ QC
 ·simp[ZK]
 refine wV ?_ func157 (hf:=nE l k.node.fid hlen);refine wG ?_;unfold qE cT;cases e:b_ l k.node.fid with
 | some i=>
  have hi:=qF e;have hg:=gV hi;simp only[cq];refine wTG ?_ (hb:=w8);have hs:=jY l i { k with worth:=mT k.worth (l.getD i default).worth };simp only[ZK] at hs;unfold mT at hs;refine wO ?_;refine sNq 7 ?_ ?_ z6 z6 u6
  ·simp[hg];omega
  refine yd rfl rfl (q:=.i64) (q':=.i64) (u:=k.worth) (v:=(l.getD i default).worth) z7 z7 z6 z6 ?_;refine sN 1 ?_;refine sE ?_;refine dS ?_;refine wKn ?_;refine wGq ?_ ?_ Zn
  ·simp[hg];omega
  refine ZZ 1000 rfl (bg _) (wn ?_);refine wT ?_;rw[if_pos w8,W4 w8];rfl
 | none=>
  simp only[cq];refine wFG ?_ (hb:=w8);refine ZZ 5 rfl (rfl) (wn ?_);refine ZL (λL:List Kept=>L.length<=l.length/\bU room (L.length+1) L=bU room (l.length+1) l) (λL=>L.length) (λL=>(8,.osl 1000 8 0 L.length)::u0 10 15 (u0 39 13 [])) (λL=>[(1000,.cells 138 8 (L.map ZK))]) l ⟨YA _,rfl⟩ ?_ λL hL=>?_
  ·exact wZ
  obtain ⟨hLl,hLs⟩:=hL;simp only[go_sem];refine wGD (λh=>?_) (λh=>?_)
  ·have hge:(L.length:Int)≥room:=by simpa using h
   rw[bU,if_pos hge] at hLs;refine wG ?_;refine wV ?_ func158 (hf:=AY L z8);cases hw:rb L with
   | none=>
    rw[hw] at hLs;simp only at hLs;simp only[cq];refine wG ?_;refine wDT ?_ (hb:=w8);refine wGT ?_;rw[<-hLs];rfl
   | some i=>
    rw[hw] at hLs;simp only at hLs;have hi:i<L.length:=fO L L.length i hw;have hwr:=wi1 (i:=i) z8;have hE:(L.eraseIdx i).length=L.length-1:=by rw[List.length_eraseIdx,if_pos hi]
    simp only[cq];refine wG ?_;refine wDF ?_ (hb:=w8);refine wG ?_ Zz (by simp[go_sem,hwr]);have hne:¬L=[]:=λh0=>by rw[h0] at hi;simp at hi
    refine bC rfl (dY rfl z7 w3 ⟨_,func159,by kernel_rfl,rfl⟩ [1000] w6 w3 w8 Zo w3 w3 (Fv L i hi z8) w7) ?_;refine wG ?_;refine ZB ⟨L.eraseIdx i,⟨by omega,?_⟩,by omega,ZU ?_ ?_ ?_⟩
    ·rw[<-hLs,hE];congr 1;omega
    ·simp[go_sem,hE]
    ·simp[go_sem]
    ·simp[go_sem]
  ·have hlt:¬(L.length:Int)≥room:=by simpa using h
   rw[bU,if_neg hlt] at hLs;refine wGq ?_ ?_
   ·simp[rowsOf];omega
   refine ZZ 55 rfl (by rw[List.all_append];first | (rw[bg];rfl) | (rw[<-List.map_take,bg];rfl)) (wn ?_);refine wT ?_;rw[<-hLs,W4 w8];simp[ZK]
theorem Ag (n:Kept):fo (ZK n)=ZK n:=by
 have h1:iZ (n.node.data.map ZY)=n.node.data.map ZY:=by rw[dO,Yi];rfl
 have h2:iZ (n.node.entries.map ZE)=n.node.entries.map ZE:=by rw[dO,Yi];rfl
 simp only[ZK,fo,nrm,h1,h2]
theorem Gq (l:List Kept):iZ (l.map ZK)=l.map ZK:=by
 rw[dO,Yi];exact Ym λk _=>Ag k
theorem CQ (l:List Kept) (room:Int) (k:Kept) (hl:SmallK l) (hk:k.node.Small):Fo 112 [.sl (l.map ZK),.int .i64 room,.agg (ZK k)] (rD l room k):=by
 refine ai.iZ (F2 l room k hl hk) ?_;unfold qE rD;cases cT l room k with
 | none=>rfl
 | some L=>simp only[nrm,fo,Gq]
end La
namespace La
open Go Go.Eng
def KL (k:Kept):Bool:=!k.dirty&&!(k.node.fid==0)
theorem ti (a b:Int):(a<b/\jt a b=-1)\/(a=b/\jt a b=0)\/(b<a/\jt a b=1):=by
 unfold jt
 by_cases h:a<b
 ·exact .inl ⟨h,if_pos h⟩
 ·rw[if_neg h]
  by_cases h2:b<a
  ·exact .inr (.inr ⟨h2,if_pos h2⟩)
  ·exact .inr (.inl ⟨by omega,if_neg h2⟩)
structure Stays (l:List Kept) (room:Int) (k:Kept) (X:List Kept):Prop where
 len:(X.length:Int)<=room
 short:X.length<=l.length+1
 has:FM X k.node.fid=true
 each:∀y,y∈l->FM X y.node.fid=true\/(KL y=true/\∀z,z∈X->z.node.fid≠k.node.fid->KL z=true->y.worth<=z.worth)
end La
namespace La
open Go Go.Eng Go.Proofs Go.Proofs.Tryz
theorem Kv (a b:Node):Fo 146 [.agg (ZN a),.agg (ZN b)] (.int .i64 (jt a.fid b.fid)):=by
 unfold ZN;refine wSG func146 ntmps146 results146 λC=>?_
 refine wC ?_ func147 (hf:=ju a.fid b.fid);refine wGT ?_;rfl
def UpN (l:List Node):Prop:=∀i,0<i->i<l.length->(l.getD (i-1) default).fid<=(l.getD i default).fid
theorem DJ (l:List Node) (hl:UpN l) (hlen:l.length<=100000000):Fo 197 [.sl (l.map ZN),.int .i64 0,.int .i64 l.length,.fn 146 []] (.tup []):=by
 refine wSG func197 ntmps197 results197 λC=>?_
 refine ZL (λi:Nat=>0<i/\(i<=l.length\/i=1)) (λi=>l.length+1-i) (λi=>(8,.int .i64 i)::(9,.any)::u0 12 41 []) (λ_=>[]) 1 z8 ?_ λi hi=>?_
 ·simp only[go_sem];exact ZU (by simp[go_sem];decide) w3 w3
 obtain ⟨hi0,hi⟩:=hi;simp only[go_sem];refine wGD (λh=>?_) (λh=>?_)
 ·have hlt:=lt1 h;have hw:=wi1 (i:=i) z8;have hwm:IntKind.i64.wrap ((i:Int)-1)=((i-1:Nat):Int):=by rw[Eng.wrap_small z8 z8];omega
  have hup:=hl i hi0 hlt;have hg:=Fam.getD (f:=ZN) hlt;have hgm:(l.map ZN).getD (i-1) []=ZN (l.getD (i-1) default):=Fam.getD z8;generalize l.getD i default=x at *;generalize l.getD (i-1) default=y at *;refine wG ?_;refine ZL (λ_:Unit=>True) (λ_=>0) (λ_=>u0 18 35 []) (λ_=>[]) () trivial ?_ λ_ _=>?_
  ·exact wZ
  simp only[go_sem];refine wGS ?_;refine sN 4 ?_;refine dh 21 z6 (λc21 h21=>?_);simp only[go_sem];have hc:c21=true:=by rw[<-h21];simp;omega
  subst hc;refine sNq 10 ?_ ?_ z6 z6 (by simp only[go_sem,hg,hgm,hwm,ZN];try exact rfl)
  ·simp[hg,hgm,hwm,ZN,hlt];omega
  refine sCC ?_ func146 (hf:=λhb=>(Kv x y));refine sN 2 ?_;refine sE ?_;refine wKd ?_;refine wDF ?_ (hb:=by rw[xh];simp;exact hup);refine wG ?_ w4 y7;exact ZB ⟨i+1,by omega,by omega,ZU w3 w3 w3⟩
 ·refine wG ?_;refine iD ⟨_,_,rfl,trivial,.tup [],.inr (.inl rfl),rfl⟩
theorem Lv (l:List Node) (hl:UpN l) (hlen:l.length<=12) (lim:Int):Fo 171 [.sl (l.map ZN),.int .i64 0,.int .i64 l.length,.int .i64 lim,.fn 146 []] (.tup []):=by
 have hw:IntKind.i64.wrap ((l.length:Int)-0)=(l.length:Int):=by rw[Eng.wrap_small z8 z8];omega
 refine wSG func171 ntmps171 results171 λC=>?_
 refine ZL (λ_:Unit=>True) (λ_=>0) (λ_=>[]) (λ_=>[]) () trivial ?_ λ_ _=>?_
 ·exact wZ
 simp only[go_sem];refine wG ?_ w4 y7;refine wTG ?_ (hb:=k6);refine wCg ?_ func197 (hf:=DJ l hl z8);refine lk ⟨_,_,rfl,trivial,.tup [],.inr (.inl rfl),rfl⟩
def aO (l:List Kept):List Node:=l.map (·.node)
theorem Ad (l:List Kept) (i:Nat) (h:i<l.length):(aO l).take (i+1)=(aO l).take i++[(l.getD i default).node]:=by
 unfold aO;rw[<-List.map_take,<-List.map_take,List.take_succ_eq_append_getElem h,List.map_append];rw[List.getD_eq_getElem?_getD,W3 h];rfl
theorem tj {a b:Int}:jt a b<0↔a<b:=by rcases ti a b with ⟨h,e⟩ | ⟨h,e⟩ | ⟨h,e⟩<;>rw[e]<;>omega
theorem nw {a b:Int}:jt a b=0↔a=b:=by rcases ti a b with ⟨h,e⟩ | ⟨h,e⟩ | ⟨h,e⟩<;>rw[e]<;>omega
theorem Fi {a b:Kept}:tk a b<0↔(a.worth≠b.worth/\a.worth<b.worth)\/(a.worth=b.worth/\((a.last≠b.last/\a.last<b.last)\/(a.last=b.last/\a.node.fid<b.node.fid))):=by
 unfold tk orI
 by_cases h1:a.worth=b.worth
 ·rw[if_neg (by simp[nw,h1])]
  by_cases h2:a.last=b.last
  ·rw[if_neg (by simp[nw,h2]),tj];simp[h1,h2]
  ·rw[if_pos (by simp[nw,h2]),tj];simp[h1,h2]
 ·rw[if_pos (by simp[nw,h1]),tj];simp[h1]
theorem Hb (a b:Kept):Fo 136 [.agg (ZK a),.agg (ZK b)] (.bool (decide (tk a b<0))):=by
 have hk:=@Fi a b;unfold ZK;refine wS func136 ntmps136 results136 λC=>?_
 refine wGD (λh=>?_) (λh=>?_)
 ·have h1:a.worth≠b.worth:=by simpa using h
  refine wGT ?_;simp[hk,h1]
 have h1:a.worth=b.worth:=by simpa using h
 refine wGD (λh=>?_) (λh=>?_)
 ·have h2:a.last≠b.last:=by simpa using h
  refine wGT ?_;simp[hk,h1,h2]
 have h2:a.last=b.last:=by simpa using h
 refine wGT ?_;simp[hk,h1,h2]
theorem IS (l:List Kept) (hlen:l.length<=100000000):Fo 94 [.sl (l.map ZK)] (.rm (mN (bI (aO l)))):=by
 rw[<-sI];refine wSG func94 ntmps94 results94 λC=>?_
 refine wL l.length (λi=>(3,.mp 6)::(5,.any)::(9,.int .i64 i)::u0 10 10 [])
  (λi=>[(6,.map (ix (aO l) i))]) ?_ λi hi=>?_
 ·simp only[go_sem];exact ZU w3 (by simp[go_sem,ix,ic]) Wj
 simp only[go_sem];refine wGD (λh=>?_) (λh=>?_)
 ·have hlt:=lt1 h;have hg:=Fam.getD (f:=ZK) hlt;have hw:=wi1 (i:=i) z8;have hnd:(aO l).getD i default=(l.getD i default).node:=by
   unfold aO;rw[List.getD_eq_getElem?_getD,W5,List.getD_eq_getElem?_getD,W3 hlt];rfl
  have hput:ix (aO l) (i+1)=aV (ix (aO l) i) ((aO l).getD i default).fid (.agg (ZN ((aO l).getD i default))):=rfl;rw[hnd] at hput;generalize l.getD i default=n at *;refine wGq ?_ ?_ (by simp only[go_sem,hg,ZK,hw];try exact rfl)
  ·simp[hg,ZK,hlt,AV.jw,AV.aT]
  refine ZB ⟨i+1,by omega,by omega,ZU ?_ ?_ ?_⟩
  ·simp[go_sem]
  ·simp[go_sem,hput,ZN]
  ·simp only[go_sem]
 ·obtain rfl:=eq1 hi h;have hN:BK (aO l)=ix (aO l) l.length:=by unfold BK aO;rw[List.length_map]
  rw[hN];refine wG ?_;refine lj 6 rfl ?_;simp only[go_sem];refine wT ?_;rfl
theorem wq (l:List Node) (hlen:l.length<=100000000):Fo 27 [.sl (l.map ZN)] (.rm (mN (bI l))):=by
 rw[<-sI];refine wSG func27 ntmps27 results27 λC=>?_
 refine wL l.length (λi=>(3,.mp 6)::(5,.any)::(9,.int .i64 i)::u0 10 8 [])
  (λi=>[(6,.map (ix l i))]) ?_ λi hi=>?_
 ·simp only[go_sem];exact ZU w3 (by simp[go_sem,ix,ic]) Wj
 simp only[go_sem];refine wGD (λh=>?_) (λh=>?_)
 ·have hlt:=lt1 h;have hg:=Fam.getD (f:=ZN) hlt;have hw:=wi1 (i:=i) z8;have hput:ix l (i+1)=aV (ix l i) (l.getD i default).fid (.agg (ZN (l.getD i default))):=rfl;generalize l.getD i default=n at *;refine wGq ?_ ?_ (by simp only[go_sem,hg,ZN,hw];try exact rfl)
  ·simp[hg,ZN,hlt,AV.jw,AV.aT]
  refine ZB ⟨i+1,by omega,by omega,ZU ?_ ?_ ?_⟩
  ·simp[go_sem]
  ·simp[go_sem,hput,ZN]
  ·simp only[go_sem]
 ·obtain rfl:=eq1 hi h;unfold BK;refine wG ?_;refine lj 6 rfl ?_;simp only[go_sem];refine wT ?_;rfl
end La
namespace La
open Go Go.Eng
theorem MReach.head {m:List (Int×Node)} {k:Int} {n:Node} {e:Entry} {t:Int} (hn:bl m k=some n) (he:e∈n.entries) (h:MReach m e.fid t):MReach m k t:=by
 induction h with
 | refl=>exact .step .refl hn he
 | step _ hn' he' ih=>exact .step ih hn' he'
theorem sg {l:List Node} (hu:Up l) {k t:Int} (h:MReach (bI l) k t):Reach l k t:=by
 induction h with
 | refl=>exact .refl _
 | step _ hn he ih=>
  rw[cc hu] at hn;obtain ⟨h1,h2⟩:=(ZO hu).1 hn;subst h2;exact Reach.tail h1 he ih
theorem kO {l:List Node} (hu:Up l) (t:Int):∀(f:Nat) (k:Int),br l t f k=some true->MReach (bI l) k t
 | 0,_,h=>by cases h
 | f+1,k,h=>by
  rw[br] at h;split at h
  ·rename_i e;rw[e];exact .refl
  ·cases e:ak l k with
   | none=>rw[e] at h;cases h
   | some n=>
    rw[e] at h;simp only at h;split at h
    ·injection h with h
     obtain ⟨x,hx,hx2⟩:=List.any_eq_true.1 h;rw[Bool.and_eq_true] at hx2;have h3:br l t f x.fid=some true:=by
      have:=hx2.2;cases h4:br l t f x.fid with
      | none=>rw[h4] at this;cases this
      | some b=>rw[h4] at this;exact congrArg some this
     exact MReach.head (by rw[cc hu];exact e) hx (kO hu t f x.fid h3)
    ·cases h
open Classical in
theorem Good.within {l:List Node} (h:Good l) (t k:Int):kj l t k=decide (MReach (bI l) k t):=by
 obtain ⟨f,hf⟩:=h.ends t k;obtain ⟨r,hr⟩:=h.dd
 by_cases hm:MReach (bI l) k t
 ·rw[decide_eq_true hm];exact pZ h.up hr (sg h.up hm) f _ hf
 ·rw[decide_eq_false hm];cases hb:kj l t k with
  | false=>rfl
  | true=>rw[hb] at hf;exact absurd (kO h.up t f k hf) hm
theorem Good.du {l:List Node} (h:Good l) (a:Act):bG l a=La.du l a:=by
 unfold bG La.du;rw[h.within a.to a.fid]
theorem Good.dj {l:List Node} (h:Good l) (a:Act) (v:Int):gj l a v=La.dj l a v:=by
 unfold gj La.dj;rw[h.du a]
theorem Good.aG {l:List Node} (h:Good l) (a:Act):aC l a=La.aG l a:=by
 unfold aC La.aG;rw[h.du a]
theorem Good.aK {l:List Node} (h:Good l) (a:Act) (v:Int):cv l a v=La.aK l a v:=by
 unfold cv La.aK;rw[h.dj a v]
end La
namespace La
open Go Go.Eng Go.Proofs Go.Proofs.Tryz
theorem Jq {l:List Node} (hg:Good l) (hr:Ri l) {a:Act} (ha:ActFit a):RFit l a where
 ri:=hr
 ent:=λn hn=>by have:=hg.ent n hn;omega
 len:=by have:=hg.len;omega
 all:=by have:=ta hg.ent;have:=hg.len;omega
 name:=ha.name
 toName:=ha.toName
 data:=ha.data
theorem Hist.ri {p:List Past} {t:List Node} (h:Hist p t):Ri t:=⟨h.bs.up,λn hn=>(h.whole.loc n hn).eup⟩
theorem na {l:List Node} (hg:Good l) (hr:Ri l) {a:Act} (ha:ActFit a) (v:Int):ai prog 95 [.rm (mN (bI l)),.agg (ZA a),.int .i64 v] []
  (λr _=>r=if aG l a=0 then .tup [.rm (mN (bI (aK l a v))),.int .i64 0] else .tup [.nilm,.int .i64 (aG l a)]):=by
 have h:=D_ l a v (Jq hg hr ha);unfold xV at h;rw[hg.aG,hg.aK] at h;exact h
noncomputable def Ly (s:Srv) (c:Int) (a:Act):AV:=if doE s a=0 then .tup [.agg (ZQ (doS s c a)),.int .i64 0] else .tup [.agg [.sl [],.int .i64 0,.sl []],.int .i64 (doE s a)]
theorem Lz {k:Nat} (s:Srv) (h:SrvOK k s) (hk:k<=80000000) (c:Int) (a:Act) (ha:ActFit a):Fo 93 [.agg (ZQ s),.int .i64 c,.agg (ZA a)] (Ly s c a):=by
 have hlen:=h.len;have hnx:=h.next;have hg:=h.hist.bs;have hda:ActFit (doA s a):=by unfold doA;split;exact ⟨ha.name,ha.toName,ha.data⟩;exact ha
 have hw:IntKind.i64.wrap (s.next+1)=s.next+1:=Eng.wrap_small z8 z8;have hwp:IntKind.i64.wrap ((s.past.length:Int)+1)=((s.past.length+1:Nat):Int):=by rw[Eng.wrap_small z8 z8];rfl
 have hof:=wq s.tree (by have:=hg.len;omega);have hap:=na hg h.hist.ri hda ((s.past.length+1:Nat):Int);have hls:aG s.tree (doA s a)=0->Fo 97 [.rm (mN (bI (aK s.tree (doA s a) ((s.past.length+1:Nat):Int))))] (.sl ((aK s.tree (doA s a) ((s.past.length+1:Nat):Int)).map ZN)):=λhe=>by
  have hg2:=fH hg (doA s a) ((s.past.length+1:Nat):Int) he;exact sF _ hg2.up (by have:=hg2.len;omega)
 unfold Ly doS doE;unfold ZQ;refine wS func93 ntmps93 results93 λC=>?_
 refine wGq ?_ ?_ QX
 ·simp[ZA]
 refine wD (λh=>?_) (λh=>?_)
 ·have hm:aR a=true:=by unfold aR;revert h;cases (a.kind==1)<;>simp
  have hdo:doA s a={ a with fid:=s.next }:=by unfold doA;rw[if_pos hm]
  rw[hdo] at hap hls ⊢;simp only[hm,if_true];generalize aG s.tree { a with fid:=s.next }=e at *;generalize aK s.tree { a with fid:=s.next } ((s.past.length+1:Nat):Int)=L at *;refine wG ?_
  by_cases he:e=0
  ·subst he;have hls:=hls rfl;have hnr2:∀id,bo id (.cells 79 8 (List.take s.past.length (s.past.map ZP)++[ZP (⟨c,{ a with fid:=s.next }⟩:Past)])):=λid=>by
    rw[show List.take s.past.length (s.past.map ZP)++[ZP (⟨c,{ a with fid:=s.next }⟩:Past)]=(s.past++[(⟨c,{ a with fid:=s.next }⟩:Past)]).map ZP by simp];exact bH id _
   simp only[if_true] at hap ⊢;refine wO ?_;refine sN 2 ?_;refine sC ?_ func27 (hf:=hof);refine sN 5 ?_ z6 z6 QK Zp;refine sC ?_ func95 (hf:=hap);refine sG ?_;refine wXG ?_;refine wFG ?_ (hb:=w8);refine ZW ZM ?_;refine fM [(44,[44],[]),(47,[47],[])] rfl (uz Ws) ?_;refine zN tK 1 (hk:=?_);refine zC func97 (hf:=hls) (hk:=?_);refine zN tK 2 (hk:=?_);refine zW tK (hk:=?_);refine zN tK 2 (hk:=?_);refine zA tK (h2:=?_) (h4:=?_) (h5:=?_) (h7:=?_) (h8:=?_) (hzz:=?_) (hn:=rfl) (hr:=rfl) (hk:=?_)
   ·exact jE _
   ·exact lM _
   ·rw[show tab.byt 79=96 from rfl];simp;omega
   ·simp
   ·exact bH 44 s.past
   ·intro z hz;simp only[List.mem_cons,List.not_mem_nil,or_false] at hz
    rcases hz with rfl | rfl
    ·exact .inl ⟨by decide,bH 44 s.past⟩
    ·exact .inr ⟨rfl,by decide⟩
   refine zN tK 2 (hk:=?_);refine zB tK (hk:=?_);refine zW tK (hk:=?_);refine zA tK (h2:=?_) (h4:=?_) (h5:=?_) (h7:=?_) (h8:=?_) (hzz:=?_) (hn:=rfl) (hr:=rfl) (hk:=?_)
   ·intro row h;simp at h;subst h;rfl
   ·rfl
   ·rw[show tab.byt 79=96 from rfl];simp;omega
   ·simp
   ·exact hnr2 47
   ·intro z hz;simp only[List.mem_cons,List.not_mem_nil,or_false] at hz
    rcases hz with rfl | rfl
    ·exact .inl ⟨by decide,hnr2 44⟩
    ·exact .inl ⟨by decide,hnr2 47⟩
   refine zB tK (hk:=?_);refine zW tK (hk:=?_);refine jK w9 z6 ?_;refine dS ?_;refine wKG ?_;refine wDT ?_ (hb:=h);refine wG ?_ w4 y7;refine ZZ 52 rfl Zw (wn ?_);refine wT ?_;rw[W4 w8];simp[ZP]
  ·simp only[he,if_false] at hap ⊢;refine wO ?_;refine sN 2 ?_;refine sC ?_ func27 (hf:=hof);refine sN 5 ?_ z6 z6 QK Zp;refine sC ?_ func95 (hf:=hap);refine sG ?_;refine wXG ?_;refine wTG ?_ (hb:=QB);refine af (au 6) ?_;refine wT ?_;simp[he]
 ·have hm:aR a=false:=by unfold aR;revert h;cases (a.kind==1)<;>simp
  have hdo:doA s a=a:=by unfold doA;rw[if_neg (by simp[hm])]
  rw[hdo] at hap hls ⊢;simp only[hm,Bool.false_eq_true,if_false];generalize aG s.tree a=e at *;generalize aK s.tree a ((s.past.length+1:Nat):Int)=L at *;refine wG ?_
  by_cases he:e=0
  ·subst he;have hls:=hls rfl;have hnr2:∀id,bo id (.cells 79 8 (List.take s.past.length (s.past.map ZP)++[ZP (⟨c,a⟩:Past)])):=λid=>by
    rw[show List.take s.past.length (s.past.map ZP)++[ZP (⟨c,a⟩:Past)]=(s.past++[(⟨c,a⟩:Past)]).map ZP by simp];exact bH id _
   simp only[if_true] at hap ⊢;refine wO ?_;refine sN 2 ?_;refine sC ?_ func27 (hf:=hof);refine sN 5 ?_ z6 z6 QK Zp;refine sC ?_ func95 (hf:=hap);refine sG ?_;refine wXG ?_;refine wFG ?_ (hb:=w8);refine ZW ZM ?_;refine fM [(44,[44],[]),(47,[47],[])] rfl (uz Ws) ?_;refine zN tK 1 (hk:=?_);refine zC func97 (hf:=hls) (hk:=?_);refine zN tK 2 (hk:=?_);refine zW tK (hk:=?_);refine zN tK 2 (hk:=?_);refine zA tK (h2:=?_) (h4:=?_) (h5:=?_) (h7:=?_) (h8:=?_) (hzz:=?_) (hn:=rfl) (hr:=rfl) (hk:=?_)
   ·exact jE _
   ·exact lM _
   ·rw[show tab.byt 79=96 from rfl];simp;omega
   ·simp
   ·exact bH 44 s.past
   ·intro z hz;simp only[List.mem_cons,List.not_mem_nil,or_false] at hz
    rcases hz with rfl | rfl
    ·exact .inl ⟨by decide,bH 44 s.past⟩
    ·exact .inr ⟨rfl,by decide⟩
   refine zN tK 2 (hk:=?_);refine zB tK (hk:=?_);refine zW tK (hk:=?_);refine zA tK (h2:=?_) (h4:=?_) (h5:=?_) (h7:=?_) (h8:=?_) (hzz:=?_) (hn:=rfl) (hr:=rfl) (hk:=?_)
   ·intro row h;simp at h;subst h;rfl
   ·rfl
   ·rw[show tab.byt 79=96 from rfl];simp;omega
   ·simp
   ·exact hnr2 47
   ·intro z hz;simp only[List.mem_cons,List.not_mem_nil,or_false] at hz
    rcases hz with rfl | rfl
    ·exact .inl ⟨by decide,hnr2 44⟩
    ·exact .inl ⟨by decide,hnr2 47⟩
   refine zB tK (hk:=?_);refine zW tK (hk:=?_);refine jK w9 z6 ?_;refine dS ?_;refine wKG ?_;refine wFG ?_ (hb:=h);refine ZZ 52 rfl Zw (wn ?_);refine wT ?_;rw[W4 w8];simp[ZP]
  ·simp only[he,if_false] at hap ⊢;refine wO ?_;refine sN 2 ?_;refine sC ?_ func27 (hf:=hof);refine sN 5 ?_ z6 z6 QK Zp;refine sC ?_ func95 (hf:=hap);refine sG ?_;refine wXG ?_;refine wTG ?_ (hb:=QB);refine af (au 6) ?_;refine wT ?_;simp[he]
end La
