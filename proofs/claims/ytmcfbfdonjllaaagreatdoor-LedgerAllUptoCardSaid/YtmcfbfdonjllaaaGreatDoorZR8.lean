/- Texts of this claim, part 8: RList, Worst, Del, Keep, PKeep, Srt, RCache, PReach, RDo, Add, Add2, RAdd. No condition. -/
import Derived.Test.YtmcfbfdonjllaaaGreatDoorZR7
set_option maxRecDepth 10000
set_option maxHeartbeats 4000000
set_option linter.unusedSimpArgs false
set_option linter.unusedVariables false
namespace La
open Go Go.Eng Go.Proofs Go.Proofs.Tryz
theorem x_ {α:Type} {n:Int} {v:α} [Inhabited α]:∀(S:List (Int×α)) (k:Nat),k<=S.length->(∀j,j<k->(S.getD j default).1<n)->(∀h:k<S.length,n<(S.getD k default).1)->aU S n v=S.take k++(n,v)::S.drop k
 | [],k,hk,_,_=>by
  have:k=0:=by simpa using hk
  subst this;rfl
 | p::S,0,_,_,h=>by
  have:=h w8;simp only[List.getD_cons_zero] at this;simp only[aU,List.take_zero,List.drop_zero,List.nil_append];rw[if_neg z8,if_pos this]
 | p::S,k+1,hk,h1,h2=>by
  have h0:=h1 0 z8;simp only[List.getD_cons_zero] at h0;have ih:=x_ (n:=n) (v:=v) S k Z4 (λj hj=>by have:=h1 (j+1) z8;simpa using this) (λh=>by have:=h2 x7;simpa using this);simp only[aU,List.take_succ_cons,List.drop_succ_cons,List.cons_append];rw[if_neg z8,if_neg z8,ih]
def dz (p:Int×Node):List AV:=ZN p.2
theorem mE:Fam dz 5:=⟨λ_=>rfl,λ_=>rfl,λ_=>rfl,λ_=>rfl⟩
@[go_sem,simp] theorem fX (l:List _):Eng.rowsOf 5 (l.map dz):=mE.rowsOf l
@[go_sem,simp] theorem jt (l:List _):((l.map dz).all λrow=>row.all AV.leaf)=true:=mE.kb l
@[go_sem,simp] theorem EI (l:List _):((l.map dz).all λrow=>row.all AV.aW)=true:=mE.eJ l
@[go_sem,simp] theorem cY (id:Nat) (l:List _):((l.map dz).all λrow=>row.all λx=>!(refs x).contains id)=true:=mE.jJ id l
@[go_sem,simp] theorem LY (e s:Nat) (l:List _):ay (.cells e s (l.map dz))=[]:=mE.ay e s l
@[go_sem,simp] theorem Mm (id s:Nat) (rows:List (List AV)) (l:List _):(l.map dz).map (dq id s rows)=l.map dz:=Fam.dq (λ_ _ _ _=>rfl) id s rows l
theorem wW {p:Int×Node} {x:AV} (h:x∈dz p):refs x=[]:=by
 simp only[dz,ZN,List.mem_cons,List.not_mem_nil,or_false] at h
 rcases h with rfl | rfl | rfl | rfl | rfl<;>rfl
theorem EH (nd:Node):rowsOf 5 [[AV.int .i64 nd.fid,.bool nd.dir,.sl (nd.data.map ZY),.sl (nd.entries.map ZE),.int .i64 nd.version]]:=by
 intro row h;rw[List.mem_singleton] at h;subst h;rfl
theorem Gv (m:List (Int×Node)) (hr:dO m) (hkf:∀p,p∈m->p.2.fid=p.1) (hlen:m.length<=50000000):Fo 97 [.rm (mN m)] (.sl (m.map dz)):=by
 refine wSG func97 ntmps97 results97 λC=>?_
 refine tu tK rfl rfl rfl z7 z7 z7 ?_;refine wG ?_;refine af (le_empty 99 94 5 z7) (wn ?_);refine ZL (λ_:List Int=>True) (λseen=>nW m seen) (λseen=>(3,.osl 99 5 0 (eo m seen).length)::(5,.any)::(6,.any)::u0 9 32 []) (λseen=>[(99,.cells 94 5 ((eo m seen).map dz)),(8,.iter (mN m) seen)]) [] trivial ?_ λseen _=>?_
 ·simp only[go_sem];exact ZU (by simp[go_sem,nN]) (by simp[go_sem,nN,BW]) w3
 simp only[go_sem];refine wR ?_;refine xB rfl rfl z7 z7 (λhall=>?_) (λn v hnv hns=>?_)
 ·have hsa:eo m seen=m:=qT λp hp=>hall (p.1,.agg (ZN p.2)) (BU hp)
  rw[hsa];simp only[go_sem];refine nt ?_ (hb:=rfl);refine ZZ 99 rfl (EI _) (wn ?_);refine wT ?_;simp
 ·obtain ⟨nd,rfl,hmem⟩:=BV hnv;have hpt:=qU hr hmem (seen:=seen);have hlt:=mP hmem hns;have hfid:nd.fid=n:=hkf _ hmem;have hsub:∀p,p∈eo m seen->p.2.fid=p.1/\p.1≠n:=λp hp=>by
   have h1:=YI.1 hp;refine ⟨hkf p h1.1,λe=>hns ?_⟩;have:=h1.2;rw[e] at this;simpa using this
  have hsl:(eo m seen).length<=m.length:=W8 _ _;have hsr:dO (eo m seen):=hr.filter _;simp only[go_sem];refine wG ?_;refine wDT ?_ (hb:=rfl);refine wR ?_;refine tt rfl rfl z7 z7 (hnv) ?_;simp only[go_sem];refine wGq ?_ ?_ w5
  ·simp[ZN,AV.kF,AV.aW]
  clear hlt hnv;have hlt:=mP hmem hns;generalize hS:eo m seen=S at *;refine ZL (λk:Nat=>k<=S.length/\∀j,j<k->(S.getD j default).1<n) (λk=>S.length-k) (λk=>(6,.int .i64 k)::u0 13 16 []) (λ_=>[]) 0 ⟨by omega,by omega⟩ ?_ λk hk=>?_
  ·exact wZ
  obtain ⟨hk,hk2⟩:=hk;simp only[go_sem];refine wGS ?_
  by_cases hkl:k<S.length
  ·have hg:=Fam.getD (f:=dz) hkl;have hw:IntKind.i64.wrap ((k:Int)+1)=((k+1:Nat):Int):=by rw[Eng.wrap_small z8 z8];rfl
   have hmk:=hsub _ (YG hkl);have hat:(∀h:k<S.length,n<(S.getD k default).1)->aU S n nd=S.take k++(n,nd)::S.drop k:=x_ S k hk hk2;have hk3:(S.getD k default).1<n->∀j,j<k+1->(S.getD j default).1<n:=λh0 j hj=>by
    rcases Nat.lt_succ_iff_lt_or_eq.1 hj with h1 | rfl
    ·exact hk2 j h1
    ·exact h0
   generalize S.getD k default=q at hg hmk hat hk3;refine sNq 14 ?_ ?_ z6 z6 (by simp only[go_sem,hg,dz,ZN];try exact rfl)
   ·simp[hg,dz,ZN,hkl]
   refine wX ?_;refine wD (λh=>?_) (λh=>?_)
   ·have hqn:q.1<n:=by
     rw[<-hmk.1,<-hfid];simpa[hkl] using h
    refine wG ?_ w4 y7;refine ZB ⟨k+1,⟨by omega,hk3 hqn⟩,by omega,ZU ?_ ?_ ?_⟩
    ·simp[go_sem]
    ·simp[go_sem]
    ·simp[go_sem]
   ·have hqn:¬q.1<n:=by
     rw[<-hmk.1,<-hfid];simpa[hkl] using h
    have hput:=hat λ_=>by have:=hmk.2;omega
    have hA1:List.take k (S.map dz)=(S.take k).map dz:=by rw[List.map_take]
    have hB1:List.take (S.length-k) (List.drop k (S.map dz))=(S.drop k).map dz:=by rw[<-List.map_drop,W1 w8]
    have hlA:(S.take k).length=k:=by rw[YA];omega
    have hlB:(S.drop k).length=S.length-k:=YX;generalize S.take k=A at hA1 hlA hput;generalize S.drop k=B at hB1 hlB hput;subst hlA;refine wG ?_;have hq:∀(id:Nat) (x:List AV) (a:Int) (b:Node),(a,b)∈S->dz (a,b)=x->∀y,y∈x->¬id∈refs y:=λid x a b _ e y hy=>by rw[<-e] at hy;rw[wW hy];simp
    have hX:A++[(n,nd)]++B=aU S n nd:=by rw[hput];simp
    have hr1:List.take 0 ([]:List (List AV))++A.map dz=A.map dz:=rfl;have hn1:0+(A.map dz).length=A.length:=by simp
    have hr2:List.take A.length (A.map dz)++[[AV.int .i64 nd.fid,.bool nd.dir,.sl (nd.data.map ZY),.sl (nd.entries.map ZE),.int .i64 nd.version]]=(A++[(n,nd)]).map dz:=by rw[List.map_append,W1 w8];rfl
    have hn2:A.length+1=(A++[(n,nd)]).length:=by simp
    have hr3:List.take (A++[(n,nd)]).length ((A++[(n,nd)]).map dz)++B.map dz=(aU S n nd).map dz:=by rw[<-hX,List.map_append (l₁:=A++[(n,nd)]),W1 w8]
    have hn3:(A++[(n,nd)]).length+(B.map dz).length=(aU S n nd).length:=by rw[<-hX];simp;omega
    refine ZW ZM ?_;refine fO [(29,[29],[]),(33,[33],[]),(36,[36],[])] rfl (uD ?_) ?_
    ·simp[go_sem,bo];exact ⟨hq 29,hq 33,hq 36⟩
    refine zW tK (hk:=?_);refine zN tK 3 (h:=Qt) (hp:=?_) (hk:=?_)
    ·simp[hk]
    refine zA tK (hv:=Q8) (h2:=?_) (h4:=?_) (h5:=?_) (h7:=?_) (h8:=?_) (hzz:=?_) (hn:=hn1) (hr:=hr1) (hk:=?_)
    ·first | exact fX _ | exact EH nd
    ·first | exact jt _ | rfl
    ·simp[go_sem];omega
    ·simp
    ·rw[hr1];exact cY _ _
    ·intro z hz;simp only[List.mem_cons,List.not_mem_nil,or_false] at hz
     rcases hz with rfl | rfl | rfl
     all_goals first | exact .inr ⟨rfl,by decide⟩ | exact .inl ⟨by decide,by rw[hr1];exact cY _ _⟩
    refine zN tK 1 (hk:=?_);refine zW tK (hk:=?_);refine zA tK (h2:=?_) (h4:=?_) (h5:=?_) (h7:=?_) (h8:=?_) (hzz:=?_) (hn:=hn2) (hr:=hr2) (hk:=?_)
    ·first | exact fX _ | exact EH nd
    ·first | exact jt _ | rfl
    ·simp[go_sem];omega
    ·simp
    ·rw[hr2];exact cY _ _
    ·intro z hz;simp only[List.mem_cons,List.not_mem_nil,or_false] at hz
     rcases hz with rfl | rfl | rfl
     all_goals first | exact .inr ⟨rfl,by decide⟩ | exact .inl ⟨by decide,by rw[hr2];exact cY _ _⟩
    refine zN tK 3 (h:=Qt) (hp:=?_) (hk:=?_)
    ·simp[hk]
    refine zA tK (hv:=by simp only[go_sem,hB1];try exact rfl) (h2:=?_) (h3:=by simp[go_sem,hlB]) (h4:=?_) (h5:=?_) (h7:=?_) (h8:=?_) (hzz:=?_) (hn:=hn3) (hr:=hr3) (hk:=?_)
    ·first | exact fX _ | exact EH nd
    ·first | exact jt _ | rfl
    ·simp[go_sem];omega
    ·simp
    ·rw[hr3];exact cY _ _
    ·intro z hz;simp only[List.mem_cons,List.not_mem_nil,or_false] at hz
     rcases hz with rfl | rfl | rfl
     all_goals first | exact .inr ⟨rfl,by decide⟩ | exact .inl ⟨by decide,by rw[hr3];exact cY _ _⟩
    refine zN tK 1 (hk:=?_);refine jS w9 z6 ?_;refine wKn ?_;refine af (lH 99) ?_;refine af (gR 40 99) ?_;refine wG ?_;exact ZB ⟨n::seen,hlt,ZU (by simp[go_sem,<-hpt]) (by simp[go_sem,<-hpt]) w3⟩
  ·have hkl2:k=S.length:=by omega
   have hput:aU S n nd=S.take k++(n,nd)::S.drop k:=x_ S k hk hk2 λh=>absurd h hkl
   have hdf:decide ((k:Int)<(S.length:Int))=false:=decide_eq_false z8;refine sN 5 ?_;rw[hdf]
   iterate 7 refine sS ?_
   refine sSB ?_;refine sN 1 ?_;refine wX ?_;refine wD (λh=>?_) (λh=>?_)
   ·exfalso;simp at h
   have hA1:List.take k (S.map dz)=(S.take k).map dz:=by rw[List.map_take]
   have hB1:List.take (S.length-k) (List.drop k (S.map dz))=(S.drop k).map dz:=by rw[<-List.map_drop,W1 w8]
   have hlA:(S.take k).length=k:=by rw[YA];omega
   have hlB:(S.drop k).length=S.length-k:=YX;generalize S.take k=A at hA1 hlA hput;generalize S.drop k=B at hB1 hlB hput;subst hlA;refine wG ?_;have hq:∀(id:Nat) (x:List AV) (a:Int) (b:Node),(a,b)∈S->dz (a,b)=x->∀y,y∈x->¬id∈refs y:=λid x a b _ e y hy=>by rw[<-e] at hy;rw[wW hy];simp
   have hX:A++[(n,nd)]++B=aU S n nd:=by rw[hput];simp
   have hr1:List.take 0 ([]:List (List AV))++A.map dz=A.map dz:=rfl;have hn1:0+(A.map dz).length=A.length:=by simp
   have hr2:List.take A.length (A.map dz)++[[AV.int .i64 nd.fid,.bool nd.dir,.sl (nd.data.map ZY),.sl (nd.entries.map ZE),.int .i64 nd.version]]=(A++[(n,nd)]).map dz:=by rw[List.map_append,W1 w8];rfl
   have hn2:A.length+1=(A++[(n,nd)]).length:=by simp
   have hr3:List.take (A++[(n,nd)]).length ((A++[(n,nd)]).map dz)++B.map dz=(aU S n nd).map dz:=by rw[<-hX,List.map_append (l₁:=A++[(n,nd)]),W1 w8]
   have hn3:(A++[(n,nd)]).length+(B.map dz).length=(aU S n nd).length:=by rw[<-hX];simp;omega
   refine ZW ZM ?_;refine fO [(29,[29],[]),(33,[33],[]),(36,[36],[])] rfl (uD ?_) ?_
   ·simp[go_sem,bo];exact ⟨hq 29,hq 33,hq 36⟩
   refine zW tK (hk:=?_);refine zN tK 3 (h:=Qt) (hp:=?_) (hk:=?_)
   ·simp[hk]
   refine zA tK (hv:=Q8) (h2:=?_) (h4:=?_) (h5:=?_) (h7:=?_) (h8:=?_) (hzz:=?_) (hn:=hn1) (hr:=hr1) (hk:=?_)
   ·first | exact fX _ | exact EH nd
   ·first | exact jt _ | rfl
   ·simp[go_sem];omega
   ·simp
   ·rw[hr1];exact cY _ _
   ·intro z hz;simp only[List.mem_cons,List.not_mem_nil,or_false] at hz
    rcases hz with rfl | rfl | rfl
    all_goals first | exact .inr ⟨rfl,by decide⟩ | exact .inl ⟨by decide,by rw[hr1];exact cY _ _⟩
   refine zN tK 1 (hk:=?_);refine zW tK (hk:=?_);refine zA tK (h2:=?_) (h4:=?_) (h5:=?_) (h7:=?_) (h8:=?_) (hzz:=?_) (hn:=hn2) (hr:=hr2) (hk:=?_)
   ·first | exact fX _ | exact EH nd
   ·first | exact jt _ | rfl
   ·simp[go_sem];omega
   ·simp
   ·rw[hr2];exact cY _ _
   ·intro z hz;simp only[List.mem_cons,List.not_mem_nil,or_false] at hz
    rcases hz with rfl | rfl | rfl
    all_goals first | exact .inr ⟨rfl,by decide⟩ | exact .inl ⟨by decide,by rw[hr2];exact cY _ _⟩
   refine zN tK 3 (h:=Qt) (hp:=?_) (hk:=?_)
   ·simp[hk]
   refine zA tK (hv:=by simp only[go_sem,hB1];try exact rfl) (h2:=?_) (h3:=by simp[go_sem,hlB]) (h4:=?_) (h5:=?_) (h7:=?_) (h8:=?_) (hzz:=?_) (hn:=hn3) (hr:=hr3) (hk:=?_)
   ·first | exact fX _ | exact EH nd
   ·first | exact jt _ | rfl
   ·simp[go_sem];omega
   ·simp
   ·rw[hr3];exact cY _ _
   ·intro z hz;simp only[List.mem_cons,List.not_mem_nil,or_false] at hz
    rcases hz with rfl | rfl | rfl
    all_goals first | exact .inr ⟨rfl,by decide⟩ | exact .inl ⟨by decide,by rw[hr3];exact cY _ _⟩
   refine zN tK 1 (hk:=?_);refine jS w9 z6 ?_;refine wKn ?_;refine af (lH 99) ?_;refine af (gR 40 99) ?_;refine wG ?_;refine ZB ⟨n::seen,hlt,ZU ?_ ?_ ?_⟩
   ·simp[go_sem,<-hpt]
   ·simp[go_sem,<-hpt]
   ·simp[go_sem]
theorem sD (l:List Node) (hu:Up l) (hlen:l.length<=50000000):Fo 97 [.rm (mN (bQ l))] (.sl (l.map ZN)):=by
 have h:=Gv (bQ l) (bC l) (λp hp=>by
  rw[sF hu] at hp;obtain ⟨n,_,rfl⟩:=W5.1 hp;rfl) (by rw[mR hu];exact hlen)
 have e:(bQ l).map dz=l.map ZN:=by
  rw[sF hu,Yf];rfl
 rwa [e] at h
def orI (a b c:Int):Int:=if a≠0 then a else if b≠0 then b else c
theorem Ms (a b c:Int):Fo 189 [.sl [[.int .i64 a],[.int .i64 b],[.int .i64 c]]] (.int .i64 (orI a b c)):=by
 refine wSG func189 ntmps189 results189 λC=>?_
 refine ZL (λi:Nat=>i<=3/\(0<i->a=0)/\(1<i->b=0)/\(2<i->c=0)) (λi=>3-i) (λi=>(5,.any)::(8,.int .i64 i)::u0 9 8 []) (λ_=>[]) 0 z8 ?_ λi hi=>?_
 ·exact wZ
 obtain ⟨hi,h1,h2,h3⟩:=hi;simp only[go_sem];refine wGD (λh=>?_) (λh=>?_)
 ·have hlt:=lt1 h;have hw:=wi1 (i:=i) z8;obtain ⟨x,hg,hx⟩:∃x,[[AV.int .i64 a],[AV.int .i64 b],[AV.int .i64 c]].getD i []=[AV.int .i64 x]/\(x≠0->orI a b c=x)/\(x=0->(0<i+1->a=0)/\(1<i+1->b=0)/\(2<i+1->c=0)):=by
   rcases (show i=0\/i=1\/i=2 by omega) with rfl | rfl | rfl
   ·exact ⟨a,rfl,λh=>by simp[orI,h],λh=>⟨λ_=>h,λh=>by omega,λh=>by omega⟩⟩
   ·have ha:=h1 z8;exact ⟨b,rfl,λh=>by simp[orI,h,ha],λh=>⟨λ_=>ha,λ_=>h,λh=>by omega⟩⟩
   ·have ha:=h1 z8;have hb:=h2 z8;exact ⟨c,rfl,λh=>by simp[orI,ha,hb],λh=>⟨λ_=>ha,λ_=>hb,λ_=>h⟩⟩
  obtain ⟨hx1,hx2⟩:=hx;refine wGq ?_ ?_ u5
  ·simp[hg,hlt]
  refine wD (λh=>?_) (λh=>?_)
  ·refine wGT ?_;rw[hx1 x7]
  ·refine wG ?_ w4 y7;refine ZB ⟨i+1,⟨by omega,hx2 x7⟩,by omega,ZU ?_ ?_ ?_⟩
   ·simp[go_sem]
   ·simp[go_sem]
   ·simp[go_sem]
 ·obtain rfl:=eq1 hi h;refine wGT ?_;simp[orI,h1 z8,h2 z8,h3 z8]
def ti (a b:Kept):Int:=orI (jx a.worth b.worth) (jx a.last b.last) (jx a.node.fid b.node.fid)
def dd (l:List Kept):Nat->Option Nat
 | 0=>none
 | i+1=>
  if (l.getD i default).dirty||(l.getD i default).node.fid==0 then dd l i
  else match dd l i with
   | none=>some i
   | some b=>if ti (l.getD i default) (l.getD b default)<0 then some i else some b
theorem fQ (l:List Kept):∀(i b:Nat),dd l i=some b->b<i
 | 0,b,h=>by cases h
 | i+1,b,h=>by
  simp only[dd] at h;have ih:=fQ l i;split at h
  ·have:=ih b h;omega
  ·split at h
   ·injection h with h;omega
   ·rename_i b' e;have:=ih b' e;split at h
    ·injection h with h;omega
    ·injection h with h;omega
def ra (l:List Kept):Option Nat:=dd l l.length
theorem Bc (l:List Kept) (hlen:l.length<=100000000):Fo 158 [.sl (l.map ZK)] (.int .i64 (cv (ra l))):=by
 refine wSG func158 ntmps158 results158 λC=>?_
 refine wL l.length (λi=>(3,.int .i64 (cv (dd l i)))::(4,.any)::(5,.any)::(8,.int .i64 i)::u0 9 47 []) (λ_=>[]) ?_ λi hi=>?_
 ·simp only[go_sem];exact ZU (by simp[go_sem];rfl) w3 w3
 simp only[go_sem];refine wGD (λh=>?_) (λh=>?_)
 ·have hlt:=lt1 h;have hg:=Fam.getD (f:=ZK) hlt;have hw:=wi1 (i:=i) z8;have hwl:=fQ l i;have hstep:dd l (i+1)=if (l.getD i default).dirty||(l.getD i default).node.fid==0 then dd l i else match dd l i with
   | none=>some i
   | some b=>if ti (l.getD i default) (l.getD b default)<0 then some i else some b:=rfl
  generalize l.getD i default=x at hg hstep;refine wGq ?_ ?_ j9
  ·simp[hg,hlt,ZK]
  refine ZZ 5 rfl (rfl) (wn ?_);refine wD (λh=>?_) (λh=>?_)
  ·have hno:dd l (i+1)=dd l i:=by rw[hstep,if_pos x7]
   refine wG ?_ w4 y7;exact ZB ⟨i+1,by omega,by omega,ZU (by simp[go_sem,hno]) w3 w3⟩
  ·have hyes:(x.dirty||x.node.fid==0)=false:=by simpa using h
   rw[hyes] at hstep;simp only[Bool.false_eq_true,if_false] at hstep;cases hb:dd l i with
   | none=>
    rw[hb] at hstep;simp only[cv];refine wGS ?_;refine sN 3 ?_
    iterate 28 refine sS ?_
    refine sSB ?_;refine sN 1 ?_;refine sE ?_;refine wKd ?_;refine wDT ?_ (hb:=w8);refine wG ?_ w4 y7;exact ZB ⟨i+1,by omega,by omega,ZU (by simp[go_sem,hstep,cv]) w3 w3⟩
   | some b=>
    rw[hb] at hstep;have hbl:=hwl b hb;have hgb:(l.map ZK).getD b []=ZK (l.getD b default):=Fam.getD z8;simp only at hstep;generalize l.getD b default=y at hgb hstep;simp only[cv];refine wGS ?_;refine sN 3 ?_;refine ep 23 z6 (λc23 h23=>?_);simp only[go_sem];have hc:c23=false:=by rw[<-h23];simp
    subst hc;refine sNq 7 ?_ ?_ z6 z6 Qj
    ·simp[hgb,ZK];omega
    refine sCC ?_ func147 (hf:=λhb=>(jy x.worth y.worth));refine sNq 7 ?_ ?_ z6 z6 Qj
    ·simp[hgb,ZK];omega
    refine sCC ?_ func147 (hf:=λhb=>(jy x.last y.last));refine sNq 9 ?_ ?_ z6 z6 Qj
    ·simp[hgb,ZK];omega
    refine sCC ?_ func147 (hf:=λhb=>(jy x.node.fid y.node.fid));refine sW ?_;refine ER rfl z7 z7 w3 z7 w3 ⟨_,func189,by kernel_rfl,rfl⟩ (λhb=>(Ms _ _ _)) w3 z6 z6 ?_;refine sN 2 ?_;refine sE ?_;refine wKd ?_
    by_cases hlt:ti x y<0
    ·refine wDT ?_ (hb:=by simpa[ti] using hlt);refine wG ?_ w4 y7;exact ZB ⟨i+1,by omega,by omega,ZU (by simp[go_sem,hstep,cv,hlt]) w3 w3⟩
    ·refine wDF ?_ (hb:=by simpa[ti] using hlt);refine wG ?_ w4 y7;exact ZB ⟨i+1,by omega,by omega,ZU (by simp[go_sem,hstep,cv,hlt]) w3 w3⟩
 ·obtain rfl:=eq1 hi h;refine wGT ?_;rfl
theorem FQ (l:List Kept) (i:Nat) (hi:i<l.length):aZ (l.map ZK) i (((l.map ZK).drop (i+1)).take (l.length-(i+1)))=(l.eraseIdx i).map ZK++(l.drop (l.length-1)).map ZK:=by
 unfold aZ;have e1:((l.map ZK).drop (i+1)).take (l.length-(i+1))=(l.map ZK).drop (i+1):=W1 w8;rw[e1,List.eraseIdx_eq_take_drop_succ,List.map_append,List.map_take,List.map_drop,List.map_drop]
 congr 2
 simp;omega
theorem DG (A Z:List (List AV)) (z:List AV) (n:Nat) (hA:A.length=n):(aZ (A++Z) n [z]).take n=A:=by
 unfold aZ;rw[List.append_assoc,List.take_append,<-hA,List.take_append_length];simp
def dK (R:List (List AV)) (G Y N:Nat->Nat):List (Nat×Blk):=[(1000,.cells 138 8 R)]++pins [1000] G Y N
theorem FP (l:List Kept) (i:Nat) (hi:i<l.length) (hlen:l.length<=100000000) (G Y Z:Nat->Nat) :
  aj prog 159 [.osl 1000 8 0 l.length,.int .i64 i,.int .i64 ((i+1:Nat):Int)] (dK (l.map ZK) G Y Z) (λr H=>r=.osl 1000 8 0 (l.length-1)/\∀j b,aa (dK ((l.eraseIdx i).map ZK) G Y Z) j=some b->aa H j=some b):=by
 unfold dK;refine wS func159 ntmps159 results159 λC=>?_
 refine wR ?_;refine wN 1 ?_;refine wR ?_;refine wN 5 ?_;refine bE rfl (A6 tK rfl rfl (id:=1000) (s:=8) (off:=0) (len:=l.length) (l:=i) (h:=i+1) (m:=l.length) z7 z7 z7 z7 z8 z8 z8 z8 rfl z8) ?_;simp only[go_sem];refine wGD (λh=>?_) (λh=>?_)
 ·simp at h;omega
 refine wG ?_;refine IJ 50 (t:=0) (id:=1000) (s:=8) (off:=0) (len:=l.length) z7 z7 z8 z8 z7 (λN hN1 hN2=>?_);simp only[go_sem];refine wO ?_;refine sN 2 ?_;refine Ck tK rfl rfl rfl (id:=1000) (s:=8) (len:=l.length) (h:=i) (j:=50) (N:=N) z7 z7 z7 z8 z8 rfl z8 z6 z6 ?_;refine sNq 3 ?_ ?_
 ·simp;omega
 refine sE ?_;have hm:i+(l.length-(i+1))=l.length-1:=by omega
 have hE:(l.eraseIdx i).length=l.length-1:=by rw[List.length_eraseIdx,if_pos hi]
 have hO:=FQ l i hi;refine ff rfl w9 rfl (vw tK rfl rfl (id:=1000) (s:=8) (i:=i) (j:=i+1) (m:=l.length-(i+1)) (N:=N) (e':=138) (R:=l.map ZK) z7 z7 z7 k6 k6 z8 rfl z8 (ua l) (by rw[<-List.map_drop,<-List.map_take];exact xR _)) rfl ?_;rw[hm,hO];have hR:((l.eraseIdx i).map ZK).length=l.length-1:=by rw[List.length_map,hE]
 have hZl:(l.drop (l.length-1)).length=1:=by simp;omega
 generalize (l.eraseIdx i).map ZK=A at *;generalize (l.drop (l.length-1))=W at *;refine dS ?_;refine wKn ?_;refine wR ?_;refine wN 2 ?_;refine af (Gp 28 z6) (wn ?_);refine wN 2 ?_;refine bE rfl (yE tK rfl rfl (id:=1000) (s:=8) (len:=l.length-1) (cap:=N) (l:=l.length-1) (h:=l.length) z7 z7 z7 z8 z8 rfl z8) ?_;simp only[go_sem];refine wGq ?_ ?_
 ·simp[hR,hZl];omega
 have h1:l.length-(l.length-1)=1:=by omega
 simp only[go_sem,h1,List.replicate_one];refine af (Gp 6 z6) (wn ?_);refine af (qG (id:=1000) (l.length-1) z6) ?_;simp only[go_sem,DG A _ _ (l.length-1) hR];refine wT ?_;refine ⟨rfl,df ?_ ?_⟩
 ·simp[go_sem]
 ·simp[go_sem]
def b_ (room:Int):Nat->List Kept->Option (List Kept)
 | 0,l=>some l
 | f+1,l=>if (l.length:Int)≥room then (match ra l with
   | none=>none
   | some i=>b_ room f (l.eraseIdx i)) else some l
def mS (a b:Int):Int:=if b>a then b else a
def c_ (l:List Kept) (room:Int) (k:Kept):Option (List Kept):=match ch l k.node.fid with
 | some i=>some (l.set i { k with worth:=mS k.worth (l.getD i default).worth })
 | none=>(b_ room (l.length+1) l).map λL=>L++[k]
def rC (l:List Kept) (room:Int) (k:Kept):AV:=match c_ l room k with
 | none=>.tup [.sl [],.int .i64 5]
 | some L=>.tup [.sl (L.map ZK),.int .i64 0]
def qC (l:List Kept) (room:Int) (k:Kept):AV:=match c_ l room k with
 | none=>.tup [.nils,.int .i64 5]
 | some L=>.tup [.sl (L.map ZK),.int .i64 0]
theorem Gk (l:List Kept) (room:Int) (k:Kept) (hl:SmallK l) (hk:k.node.Small):Fo 112 [.sl (l.map ZK),.int .i64 room,.agg (ZK k)] (qC l room k):=by
 have hlen:=hl.len;have e0:=gZ (M:=[k]) (i:=0) w8;refine wS func112 ntmps112 results112 λC=>?_
 refine wGq ?_ ?_ QF
 ·simp
 refine wCG ?_ [] 978 func68 (hf:=kN l hl);refine wGq ?_ ?_ QF
 ·simp
 refine ZZ 14 rfl (rfl) (wn ?_);refine wC ?_ func68 (hf:=sA [k] (SmallK.one hk));refine wGq ?_ ?_ QF
 ·simp[ZK]
 refine wV ?_ func157 (hf:=nE l k.node.fid hlen);refine wG ?_;unfold qC c_;cases e:ch l k.node.fid with
 | some i=>
  have hi:=qD e;have hg:=gZ hi;simp only[cv];refine wTG ?_ (hb:=w8);have hs:=ke l i { k with worth:=mS k.worth (l.getD i default).worth };simp only[ZK] at hs;unfold mS at hs;refine wO ?_;refine sNq 7 ?_ ?_ z6 z6 u5
  ·simp[hg];omega
  refine yr rfl rfl (q:=.i64) (q':=.i64) (u:=k.worth) (v:=(l.getD i default).worth) z7 z7 z6 z6 ?_;refine sN 1 ?_;refine sE ?_;refine dS ?_;refine wKn ?_;refine wGq ?_ ?_ Zp
  ·simp[hg];omega
  refine ZZ 1000 rfl (bg _) (wn ?_);refine wT ?_;rw[if_pos w8,W1 w8];rfl
 | none=>
  simp only[cv];refine wFG ?_ (hb:=w8);refine ZZ 5 rfl (rfl) (wn ?_);refine ZL (λL:List Kept=>L.length<=l.length/\b_ room (L.length+1) L=b_ room (l.length+1) l) (λL=>L.length) (λL=>(8,.osl 1000 8 0 L.length)::u0 10 15 (u0 39 13 [])) (λL=>[(1000,.cells 138 8 (L.map ZK))]) l ⟨W7 _,rfl⟩ ?_ λL hL=>?_
  ·exact wZ
  obtain ⟨hLl,hLs⟩:=hL;simp only[go_sem];refine wGD (λh=>?_) (λh=>?_)
  ·have hge:(L.length:Int)≥room:=by simpa using h
   rw[b_,if_pos hge] at hLs;refine wG ?_;refine wV ?_ func158 (hf:=Bc L z8);cases hw:ra L with
   | none=>
    rw[hw] at hLs;simp only at hLs;simp only[cv];refine wG ?_;refine wDT ?_ (hb:=w8);refine wGT ?_;rw[<-hLs];rfl
   | some i=>
    rw[hw] at hLs;simp only at hLs;have hi:i<L.length:=fQ L L.length i hw;have hwr:=wi1 (i:=i) z8;have hE:(L.eraseIdx i).length=L.length-1:=by rw[List.length_eraseIdx,if_pos hi]
    simp only[cv];refine wG ?_;refine wDF ?_ (hb:=w8);refine wG ?_ Z0 (by simp[go_sem,hwr]);have hne:¬L=[]:=λh0=>by rw[h0] at hi;simp at hi
    refine bE rfl (eb rfl z7 w3 ⟨_,func159,by kernel_rfl,rfl⟩ [1000] w6 w3 w8 Zo w3 w3 (FP L i hi z8) w7) ?_;refine wG ?_;refine ZB ⟨L.eraseIdx i,⟨by omega,?_⟩,by omega,ZU ?_ ?_ ?_⟩
    ·rw[<-hLs,hE];congr 1;omega
    ·simp[go_sem,hE]
    ·simp[go_sem]
    ·simp[go_sem]
  ·have hlt:¬(L.length:Int)≥room:=by simpa using h
   rw[b_,if_neg hlt] at hLs;refine wGq ?_ ?_
   ·simp[rowsOf];omega
   refine ZZ 55 rfl (by rw[List.all_append];first | (rw[bg];rfl) | (rw[<-List.map_take,bg];rfl)) (wn ?_);refine wT ?_;rw[<-hLs,W1 w8];simp[ZK]
theorem Aq (n:Kept):fq (ZK n)=ZK n:=by
 have h1:jb (n.node.data.map ZY)=n.node.data.map ZY:=by rw[dV,Yf];rfl
 have h2:jb (n.node.entries.map ZE)=n.node.entries.map ZE:=by rw[dV,Yf];rfl
 simp only[ZK,fq,nrm,h1,h2]
theorem GJ (l:List Kept):jb (l.map ZK)=l.map ZK:=by
 rw[dV,Yf];exact Yj λk _=>Aq k
theorem C7 (l:List Kept) (room:Int) (k:Kept) (hl:SmallK l) (hk:k.node.Small):Fo 112 [.sl (l.map ZK),.int .i64 room,.agg (ZK k)] (rC l room k):=by
 refine aj.jb (Gk l room k hl hk) ?_;unfold qC rC;cases c_ l room k with
 | none=>rfl
 | some L=>simp only[nrm,fq,GJ]
end La
namespace La
open Go Go.Eng
def K0 (k:Kept):Bool:=!k.dirty&&!(k.node.fid==0)
theorem tg (a b:Int):(a<b/\jx a b=-1)\/(a=b/\jx a b=0)\/(b<a/\jx a b=1):=by
 unfold jx
 by_cases h:a<b
 ·exact .inl ⟨h,if_pos h⟩
 ·rw[if_neg h]
  by_cases h2:b<a
  ·exact .inr (.inr ⟨h2,if_pos h2⟩)
  ·exact .inr (.inl ⟨by omega,if_neg h2⟩)
structure Stays (l:List Kept) (room:Int) (k:Kept) (X:List Kept):Prop where
 len:(X.length:Int)<=room
 short:X.length<=l.length+1
 has:F8 X k.node.fid=true
 each:∀y,y∈l->F8 X y.node.fid=true\/(K0 y=true/\∀z,z∈X->z.node.fid≠k.node.fid->K0 z=true->y.worth<=z.worth)
end La
namespace La
open Go Go.Eng Go.Proofs Go.Proofs.Tryz
theorem KK (a b:Node):Fo 146 [.agg (ZN a),.agg (ZN b)] (.int .i64 (jx a.fid b.fid)):=by
 unfold ZN;refine wSG func146 ntmps146 results146 λC=>?_
 refine wC ?_ func147 (hf:=jy a.fid b.fid);refine wGT ?_;rfl
def UpN (l:List Node):Prop:=∀i,0<i->i<l.length->(l.getD (i-1) default).fid<=(l.getD i default).fid
theorem DZ (l:List Node) (hl:UpN l) (hlen:l.length<=100000000):Fo 197 [.sl (l.map ZN),.int .i64 0,.int .i64 l.length,.fn 146 []] (.tup []):=by
 refine wSG func197 ntmps197 results197 λC=>?_
 refine ZL (λi:Nat=>0<i/\(i<=l.length\/i=1)) (λi=>l.length+1-i) (λi=>(8,.int .i64 i)::(9,.any)::u0 12 41 []) (λ_=>[]) 1 z8 ?_ λi hi=>?_
 ·simp only[go_sem];exact ZU (by simp[go_sem];decide) w3 w3
 obtain ⟨hi0,hi⟩:=hi;simp only[go_sem];refine wGD (λh=>?_) (λh=>?_)
 ·have hlt:=lt1 h;have hw:=wi1 (i:=i) z8;have hwm:IntKind.i64.wrap ((i:Int)-1)=((i-1:Nat):Int):=by rw[Eng.wrap_small z8 z8];omega
  have hup:=hl i hi0 hlt;have hg:=Fam.getD (f:=ZN) hlt;have hgm:(l.map ZN).getD (i-1) []=ZN (l.getD (i-1) default):=Fam.getD z8;generalize l.getD i default=x at *;generalize l.getD (i-1) default=y at *;refine wG ?_;refine ZL (λ_:Unit=>True) (λ_=>0) (λ_=>u0 18 35 []) (λ_=>[]) () trivial ?_ λ_ _=>?_
  ·exact wZ
  simp only[go_sem];refine wGS ?_;refine sN 4 ?_;refine ep 21 z6 (λc21 h21=>?_);simp only[go_sem];have hc:c21=true:=by rw[<-h21];simp;omega
  subst hc;refine sNq 10 ?_ ?_ z6 z6 (by simp only[go_sem,hg,hgm,hwm,ZN];try exact rfl)
  ·simp[hg,hgm,hwm,ZN,hlt];omega
  refine sCC ?_ func146 (hf:=λhb=>(KK x y));refine sN 2 ?_;refine sE ?_;refine wKd ?_;refine wDF ?_ (hb:=by rw[xu];simp;exact hup);refine wG ?_ w4 y7;exact ZB ⟨i+1,by omega,by omega,ZU w3 w3 w3⟩
 ·refine wG ?_;refine iE ⟨_,_,rfl,trivial,.tup [],.inr (.inl rfl),rfl⟩
theorem LM (l:List Node) (hl:UpN l) (hlen:l.length<=12) (lim:Int):Fo 171 [.sl (l.map ZN),.int .i64 0,.int .i64 l.length,.int .i64 lim,.fn 146 []] (.tup []):=by
 have hw:IntKind.i64.wrap ((l.length:Int)-0)=(l.length:Int):=by rw[Eng.wrap_small z8 z8];omega
 refine wSG func171 ntmps171 results171 λC=>?_
 refine ZL (λ_:Unit=>True) (λ_=>0) (λ_=>[]) (λ_=>[]) () trivial ?_ λ_ _=>?_
 ·exact wZ
 simp only[go_sem];refine wG ?_ w4 y7;refine wTG ?_ (hb:=k6);refine wCg ?_ func197 (hf:=DZ l hl z8);refine lr ⟨_,_,rfl,trivial,.tup [],.inr (.inl rfl),rfl⟩
def aO (l:List Kept):List Node:=l.map (·.node)
theorem Am (l:List Kept) (i:Nat) (h:i<l.length):(aO l).take (i+1)=(aO l).take i++[(l.getD i default).node]:=by
 unfold aO;rw[<-List.map_take,<-List.map_take,List.take_succ_eq_append_getElem h,List.map_append];rw[List.getD_eq_getElem?_getD,Wz h];rfl
theorem th {a b:Int}:jx a b<0↔a<b:=by rcases tg a b with ⟨h,e⟩ | ⟨h,e⟩ | ⟨h,e⟩<;>rw[e]<;>omega
theorem nv {a b:Int}:jx a b=0↔a=b:=by rcases tg a b with ⟨h,e⟩ | ⟨h,e⟩ | ⟨h,e⟩<;>rw[e]<;>omega
theorem FF {a b:Kept}:ti a b<0↔(a.worth≠b.worth/\a.worth<b.worth)\/(a.worth=b.worth/\((a.last≠b.last/\a.last<b.last)\/(a.last=b.last/\a.node.fid<b.node.fid))):=by
 unfold ti orI
 by_cases h1:a.worth=b.worth
 ·rw[if_neg (by simp[nv,h1])]
  by_cases h2:a.last=b.last
  ·rw[if_neg (by simp[nv,h2]),th];simp[h1,h2]
  ·rw[if_pos (by simp[nv,h2]),th];simp[h1,h2]
 ·rw[if_pos (by simp[nv,h1]),th];simp[h1]
theorem Hq (a b:Kept):Fo 136 [.agg (ZK a),.agg (ZK b)] (.bool (decide (ti a b<0))):=by
 have hk:=@FF a b;unfold ZK;refine wS func136 ntmps136 results136 λC=>?_
 refine wGD (λh=>?_) (λh=>?_)
 ·have h1:a.worth≠b.worth:=by simpa using h
  refine wGT ?_;simp[hk,h1]
 have h1:a.worth=b.worth:=by simpa using h
 refine wGD (λh=>?_) (λh=>?_)
 ·have h2:a.last≠b.last:=by simpa using h
  refine wGT ?_;simp[hk,h1,h2]
 have h2:a.last=b.last:=by simpa using h
 refine wGT ?_;simp[hk,h1,h2]
theorem I6 (l:List Kept) (hlen:l.length<=100000000):Fo 94 [.sl (l.map ZK)] (.rm (mN (bQ (aO l)))):=by
 rw[<-xZ];refine wSG func94 ntmps94 results94 λC=>?_
 refine wL l.length (λi=>(3,.mp 6)::(5,.any)::(9,.int .i64 i)::u0 10 10 [])
  (λi=>[(6,.map (kR (aO l) i))]) ?_ λi hi=>?_
 ·simp only[go_sem];exact ZU w3 (by simp[go_sem,kR,ja]) (by simp only[go_sem])
 simp only[go_sem];refine wGD (λh=>?_) (λh=>?_)
 ·have hlt:=lt1 h;have hg:=Fam.getD (f:=ZK) hlt;have hw:=wi1 (i:=i) z8;have hnd:(aO l).getD i default=(l.getD i default).node:=by
   unfold aO;rw[List.getD_eq_getElem?_getD,W2,List.getD_eq_getElem?_getD,Wz hlt];rfl
  have hput:kR (aO l) (i+1)=aU (kR (aO l) i) ((aO l).getD i default).fid (.agg (ZN ((aO l).getD i default))):=rfl;rw[hnd] at hput;generalize l.getD i default=n at *;refine wGq ?_ ?_ (by simp only[go_sem,hg,ZK,hw];try exact rfl)
  ·simp[hg,ZK,hlt,AV.kF,AV.aW]
  refine ZB ⟨i+1,by omega,by omega,ZU ?_ ?_ ?_⟩
  ·simp[go_sem]
  ·simp[go_sem,hput,ZN]
  ·simp only[go_sem]
 ·obtain rfl:=eq1 hi h;have hN:Ec (aO l)=kR (aO l) l.length:=by unfold Ec aO;rw[List.length_map]
  rw[hN];refine wG ?_;refine lq 6 rfl ?_;simp only[go_sem];refine wT ?_;rfl
theorem wE (l:List Node) (hlen:l.length<=100000000):Fo 27 [.sl (l.map ZN)] (.rm (mN (bQ l))):=by
 rw[<-xZ];refine wSG func27 ntmps27 results27 λC=>?_
 refine wL l.length (λi=>(3,.mp 6)::(5,.any)::(9,.int .i64 i)::u0 10 8 [])
  (λi=>[(6,.map (kR l i))]) ?_ λi hi=>?_
 ·simp only[go_sem];exact ZU w3 (by simp[go_sem,kR,ja]) (by simp only[go_sem])
 simp only[go_sem];refine wGD (λh=>?_) (λh=>?_)
 ·have hlt:=lt1 h;have hg:=Fam.getD (f:=ZN) hlt;have hw:=wi1 (i:=i) z8;have hput:kR l (i+1)=aU (kR l i) (l.getD i default).fid (.agg (ZN (l.getD i default))):=rfl;generalize l.getD i default=n at *;refine wGq ?_ ?_ (by simp only[go_sem,hg,ZN,hw];try exact rfl)
  ·simp[hg,ZN,hlt,AV.kF,AV.aW]
  refine ZB ⟨i+1,by omega,by omega,ZU ?_ ?_ ?_⟩
  ·simp[go_sem]
  ·simp[go_sem,hput,ZN]
  ·simp only[go_sem]
 ·obtain rfl:=eq1 hi h;unfold Ec;refine wG ?_;refine lq 6 rfl ?_;simp only[go_sem];refine wT ?_;rfl
end La
namespace La
open Go Go.Eng
theorem MReach.head {m:List (Int×Node)} {k:Int} {n:Node} {e:Entry} {t:Int} (hn:br m k=some n) (he:e∈n.entries) (h:MReach m e.fid t):MReach m k t:=by
 induction h with
 | refl=>exact .step .refl hn he
 | step _ hn' he' ih=>exact .step ih hn' he'
theorem sf {l:List Node} (hu:Up l) {k t:Int} (h:MReach (bQ l) k t):Reach l k t:=by
 induction h with
 | refl=>exact .refl _
 | step _ hn he ih=>
  rw[cM hu] at hn;obtain ⟨h1,h2⟩:=(ZO hu).1 hn;subst h2;exact Reach.tail h1 he ih
theorem kT {l:List Node} (hu:Up l) (t:Int):∀(f:Nat) (k:Int),bw l t f k=some true->MReach (bQ l) k t
 | 0,_,h=>by cases h
 | f+1,k,h=>by
  rw[bw] at h;split at h
  ·rename_i e;rw[e];exact .refl
  ·cases e:ak l k with
   | none=>rw[e] at h;cases h
   | some n=>
    rw[e] at h;simp only at h;split at h
    ·injection h with h
     obtain ⟨x,hx,hx2⟩:=List.any_eq_true.1 h;rw[Bool.and_eq_true] at hx2;have h3:bw l t f x.fid=some true:=by
      have:=hx2.2;cases h4:bw l t f x.fid with
      | none=>rw[h4] at this;cases this
      | some b=>rw[h4] at this;exact congrArg some this
     exact MReach.head (by rw[cM hu];exact e) hx (kT hu t f x.fid h3)
    ·cases h
open Classical in
theorem Good.within {l:List Node} (h:Good l) (t k:Int):kq l t k=decide (MReach (bQ l) k t):=by
 obtain ⟨f,hf⟩:=h.ends t k;obtain ⟨r,hr⟩:=h.dr
 by_cases hm:MReach (bQ l) k t
 ·rw[decide_eq_true hm];exact pZ h.up hr (sf h.up hm) f _ hf
 ·rw[decide_eq_false hm];cases hb:kq l t k with
  | false=>rfl
  | true=>rw[hb] at hf;exact absurd (kT h.up t f k hf) hm
theorem Good.dy {l:List Node} (h:Good l) (a:Act):bH l a=La.dy l a:=by
 unfold bH La.dy;rw[h.within a.to a.fid]
theorem Good.dp {l:List Node} (h:Good l) (a:Act) (v:Int):gw l a v=La.dp l a v:=by
 unfold gw La.dp;rw[h.dy a]
theorem Good.aF {l:List Node} (h:Good l) (a:Act):aD l a=La.aF l a:=by
 unfold aD La.aF;rw[h.dy a]
theorem Good.aK {l:List Node} (h:Good l) (a:Act) (v:Int):cz l a v=La.aK l a v:=by
 unfold cz La.aK;rw[h.dp a v]
end La
namespace La
open Go Go.Eng Go.Proofs Go.Proofs.Tryz
theorem JD {l:List Node} (hg:Good l) (hr:Ri l) {a:Act} (ha:ActFit a):RFit l a where
 ri:=hr
 ent:=λn hn=>by have:=hg.ent n hn;omega
 len:=by have:=hg.len;omega
 all:=by have:=Bj hg.ent;have:=hg.len;omega
 name:=ha.name
 toName:=ha.toName
 data:=ha.data
theorem Hist.ri {p:List Past} {t:List Node} (h:Hist p t):Ri t:=⟨h.bR.up,λn hn=>(h.whole.loc n hn).eup⟩
theorem mY {l:List Node} (hg:Good l) (hr:Ri l) {a:Act} (ha:ActFit a) (v:Int):aj prog 95 [.rm (mN (bQ l)),.agg (ZA a),.int .i64 v] []
  (λr _=>r=if aF l a=0 then .tup [.rm (mN (bQ (aK l a v))),.int .i64 0] else .tup [.nilm,.int .i64 (aF l a)]):=by
 have h:=Er l a v (JD hg hr ha);unfold yh at h;rw[hg.aF,hg.aK] at h;exact h
noncomputable def LP (s:Srv) (c:Int) (a:Act):AV:=if doE s a=0 then .tup [.agg (ZQ (doS s c a)),.int .i64 0] else .tup [.agg [.sl [],.int .i64 0,.sl []],.int .i64 (doE s a)]
theorem LQ {k:Nat} (s:Srv) (h:SrvOK k s) (hk:k<=80000000) (c:Int) (a:Act) (ha:ActFit a):Fo 93 [.agg (ZQ s),.int .i64 c,.agg (ZA a)] (LP s c a):=by
 have hlen:=h.len;have hnx:=h.next;have hg:=h.hist.bR;have hda:ActFit (doA s a):=by unfold doA;split;exact ⟨ha.name,ha.toName,ha.data⟩;exact ha
 have hw:IntKind.i64.wrap (s.next+1)=s.next+1:=Eng.wrap_small z8 z8;have hwp:IntKind.i64.wrap ((s.past.length:Int)+1)=((s.past.length+1:Nat):Int):=by rw[Eng.wrap_small z8 z8];rfl
 have hof:=wE s.tree (by have:=hg.len;omega);have hap:=mY hg h.hist.ri hda ((s.past.length+1:Nat):Int);have hls:aF s.tree (doA s a)=0->Fo 97 [.rm (mN (bQ (aK s.tree (doA s a) ((s.past.length+1:Nat):Int))))] (.sl ((aK s.tree (doA s a) ((s.past.length+1:Nat):Int)).map ZN)):=λhe=>by
  have hg2:=fJ hg (doA s a) ((s.past.length+1:Nat):Int) he;exact sD _ hg2.up (by have:=hg2.len;omega)
 unfold LP doS doE;unfold ZQ;refine wS func93 ntmps93 results93 λC=>?_
 refine wGq ?_ ?_ QY
 ·simp[ZA]
 refine wD (λh=>?_) (λh=>?_)
 ·have hm:aR a=true:=by unfold aR;revert h;cases (a.kind==1)<;>simp
  have hdo:doA s a={ a with fid:=s.next }:=by unfold doA;rw[if_pos hm]
  rw[hdo] at hap hls ⊢;simp only[hm,if_true];generalize aF s.tree { a with fid:=s.next }=e at *;generalize aK s.tree { a with fid:=s.next } ((s.past.length+1:Nat):Int)=L at *;refine wG ?_
  by_cases he:e=0
  ·subst he;have hls:=hls rfl;have hnr2:∀id,bo id (.cells 79 8 (List.take s.past.length (s.past.map ZP)++[ZP (⟨c,{ a with fid:=s.next }⟩:Past)])):=λid=>by
    rw[show List.take s.past.length (s.past.map ZP)++[ZP (⟨c,{ a with fid:=s.next }⟩:Past)]=(s.past++[(⟨c,{ a with fid:=s.next }⟩:Past)]).map ZP by simp];exact bJ id _
   simp only[if_true] at hap ⊢;refine wO ?_;refine sN 2 ?_;refine sC ?_ func27 (hf:=hof);refine sN 5 ?_ z6 z6 QJ Zk;refine sC ?_ func95 (hf:=hap);refine sG ?_;refine wXG ?_;refine wFG ?_ (hb:=w8);refine ZW ZM ?_;refine fO [(44,[44],[]),(47,[47],[])] rfl (uD Wo) ?_;refine zN tK 1 (hk:=?_);refine zC func97 (hf:=hls) (hk:=?_);refine zN tK 2 (hk:=?_);refine zW tK (hk:=?_);refine zN tK 2 (hk:=?_);refine zA tK (h2:=?_) (h4:=?_) (h5:=?_) (h7:=?_) (h8:=?_) (hzz:=?_) (hn:=rfl) (hr:=rfl) (hk:=?_)
   ·exact jM _
   ·exact lT _
   ·rw[show tab.byt 79=96 from rfl];simp;omega
   ·simp
   ·exact bJ 44 s.past
   ·intro z hz;simp only[List.mem_cons,List.not_mem_nil,or_false] at hz
    rcases hz with rfl | rfl
    ·exact .inl ⟨by decide,bJ 44 s.past⟩
    ·exact .inr ⟨rfl,by decide⟩
   refine zN tK 2 (hk:=?_);refine zB tK (hk:=?_);refine zW tK (hk:=?_);refine zA tK (h2:=?_) (h4:=?_) (h5:=?_) (h7:=?_) (h8:=?_) (hzz:=?_) (hn:=rfl) (hr:=rfl) (hk:=?_)
   ·intro row h;simp at h;subst h;rfl
   ·rfl
   ·rw[show tab.byt 79=96 from rfl];simp;omega
   ·simp
   ·exact hnr2 47
   ·intro z hz;simp only[List.mem_cons,List.not_mem_nil,or_false] at hz
    rcases hz with rfl | rfl
    ·exact .inl ⟨by decide,hnr2 44⟩
    ·exact .inl ⟨by decide,hnr2 47⟩
   refine zB tK (hk:=?_);refine zW tK (hk:=?_);refine jS w9 z6 ?_;refine dS ?_;refine wKG ?_;refine wDT ?_ (hb:=h);refine wG ?_ w4 y7;refine ZZ 52 rfl Zt (wn ?_);refine wT ?_;rw[W1 w8];simp[ZP]
  ·simp only[he,if_false] at hap ⊢;refine wO ?_;refine sN 2 ?_;refine sC ?_ func27 (hf:=hof);refine sN 5 ?_ z6 z6 QJ Zk;refine sC ?_ func95 (hf:=hap);refine sG ?_;refine wXG ?_;refine wTG ?_ (hb:=QE);refine af (av 6) ?_;refine wT ?_;simp[he]
 ·have hm:aR a=false:=by unfold aR;revert h;cases (a.kind==1)<;>simp
  have hdo:doA s a=a:=by unfold doA;rw[if_neg (by simp[hm])]
  rw[hdo] at hap hls ⊢;simp only[hm,Bool.false_eq_true,if_false];generalize aF s.tree a=e at *;generalize aK s.tree a ((s.past.length+1:Nat):Int)=L at *;refine wG ?_
  by_cases he:e=0
  ·subst he;have hls:=hls rfl;have hnr2:∀id,bo id (.cells 79 8 (List.take s.past.length (s.past.map ZP)++[ZP (⟨c,a⟩:Past)])):=λid=>by
    rw[show List.take s.past.length (s.past.map ZP)++[ZP (⟨c,a⟩:Past)]=(s.past++[(⟨c,a⟩:Past)]).map ZP by simp];exact bJ id _
   simp only[if_true] at hap ⊢;refine wO ?_;refine sN 2 ?_;refine sC ?_ func27 (hf:=hof);refine sN 5 ?_ z6 z6 QJ Zk;refine sC ?_ func95 (hf:=hap);refine sG ?_;refine wXG ?_;refine wFG ?_ (hb:=w8);refine ZW ZM ?_;refine fO [(44,[44],[]),(47,[47],[])] rfl (uD Wo) ?_;refine zN tK 1 (hk:=?_);refine zC func97 (hf:=hls) (hk:=?_);refine zN tK 2 (hk:=?_);refine zW tK (hk:=?_);refine zN tK 2 (hk:=?_);refine zA tK (h2:=?_) (h4:=?_) (h5:=?_) (h7:=?_) (h8:=?_) (hzz:=?_) (hn:=rfl) (hr:=rfl) (hk:=?_)
   ·exact jM _
   ·exact lT _
   ·rw[show tab.byt 79=96 from rfl];simp;omega
   ·simp
   ·exact bJ 44 s.past
   ·intro z hz;simp only[List.mem_cons,List.not_mem_nil,or_false] at hz
    rcases hz with rfl | rfl
    ·exact .inl ⟨by decide,bJ 44 s.past⟩
    ·exact .inr ⟨rfl,by decide⟩
   refine zN tK 2 (hk:=?_);refine zB tK (hk:=?_);refine zW tK (hk:=?_);refine zA tK (h2:=?_) (h4:=?_) (h5:=?_) (h7:=?_) (h8:=?_) (hzz:=?_) (hn:=rfl) (hr:=rfl) (hk:=?_)
   ·intro row h;simp at h;subst h;rfl
   ·rfl
   ·rw[show tab.byt 79=96 from rfl];simp;omega
   ·simp
   ·exact hnr2 47
   ·intro z hz;simp only[List.mem_cons,List.not_mem_nil,or_false] at hz
    rcases hz with rfl | rfl
    ·exact .inl ⟨by decide,hnr2 44⟩
    ·exact .inl ⟨by decide,hnr2 47⟩
   refine zB tK (hk:=?_);refine zW tK (hk:=?_);refine jS w9 z6 ?_;refine dS ?_;refine wKG ?_;refine wFG ?_ (hb:=h);refine ZZ 52 rfl Zt (wn ?_);refine wT ?_;rw[W1 w8];simp[ZP]
  ·simp only[he,if_false] at hap ⊢;refine wO ?_;refine sN 2 ?_;refine sC ?_ func27 (hf:=hof);refine sN 5 ?_ z6 z6 QJ Zk;refine sC ?_ func95 (hf:=hap);refine sG ?_;refine wXG ?_;refine wTG ?_ (hb:=QE);refine af (av 6) ?_;refine wT ?_;simp[he]
theorem Ea (x:Rec) (f:Int):Fo 216 [.agg (ZR x),.rp [.int .i64 f] 0] (.bool (eA f x)):=by
 unfold ZR;refine wS func216 ntmps216 results216 λC=>?_
 cases e1:(x.act.fid==f)<;>cases e2:(x.act.kind==1)<;>cases e3:(x.act.kind==2)
 all_goals refine wG ?_ (by simp only[go_sem,e1,e2,e3];try exact rfl) (by simp[go_sem,e1,e2,e3])
 all_goals refine wT ?_
 all_goals simp[eA,e1,e2,e3]
theorem Je (l:List Rec) (hl:l.length<=100000000) (f:Int):Fo 182 [.sl (l.map ZR),.int .i64 f] (.int .i64 (cv (l.findIdx? (eA f)))):=by
 refine wSG func182 ntmps182 results182 λC=>?_
 refine ZZ 3 rfl (rfl) (wn ?_);refine wC ?_ func186 (hf:=kA l hl ⟨_,Go.Proofs.Tryz.func216,by kernel_rfl,rfl⟩ rfl (λx _=>Ea x f));refine wGT ?_;rfl
theorem Iu (x r m:Rec):aj prog 184 [.agg (ZR x),.rp [.rp (ZR r) 0] 0,.rp [.rp (ZR m) 0] 0] [] (λb _=>b=.bool (bars r.act.fid m.act.dir m.act.name x)):=by
 refine wS func184 ntmps184 results184 λC=>?_
 refine wGq ?_ ?_ u2
 ·simp
 refine ZZ 3 rfl (rfl) (wn ?_);refine wO ?_;refine sN 4 ?_;refine ep 8 z6 (λc8 h8=>?_);simp only[go_sem];refine sN 6 ?_;refine sCC ?_ func155 (hf:=λhb=>(Af x r.act.fid));refine sN 1 ?_;refine ep 16 z6 (λc16 h16=>?_);simp only[go_sem];refine sN 9 ?_;refine sCC ?_ func185 (hf:=λhb=>(Cx x m.act.dir m.act.name));refine sN 2 ?_;refine sE ?_;refine wKd ?_;refine wGT ?_;subst h16 h8;simp only[bars,cZ,fe]
def qd (l:List Rec) (r:Rec) (k:Nat):Bool:=
 (l.getD k default).act.dir==r.act.dir&&(l.getD k default).act.name==r.act.name&&!((l.drop (k+1)).any (bars r.act.fid (l.getD k default).act.dir (l.getD k default).act.name))
theorem Bm {l:List Rec} {r:Rec} {k:Nat} (hk:l.findIdx? (eA r.act.fid)=some k):eK l r=(r.act.kind==4&&qd l r k):=by
 unfold eK qd;rw[hk];simp only[Bool.and_assoc]
theorem Bn (l:List Rec) (hl:l.length<=100000000) (r:Rec):aj prog 152 [.sl (l.map ZR),.rp (ZR r) 0] [] (λb _=>b=.bool (eK l r)):=by
 refine wS func152 ntmps152 results152 λC=>?_
 refine wGq ?_ ?_ u2
 ·simp
 refine wC ?_ func182 (hf:=Je l hl r.act.fid);cases e1:(r.act.kind != 4)
 ·refine wG ?_ (by simp only[go_sem,e1,ZR];try exact rfl) (by simp[go_sem,e1,ZR]);refine wD (λh=>?_) (λh=>?_)
  ·refine wGT ?_;have:l.findIdx? (eA r.act.fid)=none:=by
    cases e:l.findIdx? (eA r.act.fid) with
    | none=>rfl
    | some k=>
     rw[e] at h;have h2:decide ((k:Int)<0)=true:=h;rw[decide_eq_true_eq] at h2;omega
   simp[eK,this]
  ·obtain ⟨k,hk⟩:∃k,l.findIdx? (eA r.act.fid)=some k:=by
    cases e:l.findIdx? (eA r.act.fid) with
    | none=>rw[e] at h;simp[cv] at h
    | some k=>exact ⟨k,rfl⟩
   have hkl:k<l.length:=(YK.1 hk).1;have hg:=Fam.getD (f:=ZR) hkl;rw[Bm hk,hk];unfold qd;simp only[cv];generalize l.getD k default=m at hg;refine wGq ?_ ?_ u6
   ·simp[hkl]
   have hw:IntKind.i64.wrap ((k:Int)+1)=((k+1:Nat):Int):=by rw[Eng.wrap_small z8 z8];rfl
   have hd:List.drop (k+1) (l.map ZR)=(l.drop (k+1)).map ZR:=List.map_drop.symm;refine ZZ 3 rfl (rfl) ?_;refine ZZ 6 rfl (rfl) (wn ?_);refine wO ?_;refine sN 10 ?_;refine ep 37 z6 (λc37 h37=>?_);simp only[go_sem];refine sN 12 ?_;refine ep 49 z6 (λc49 h49=>?_);simp only[go_sem];refine sNq 6 ?_ ?_ z6 z6 (by simp only[go_sem,hw,hd];try exact rfl)
   ·simp[go_sem];intro h;exact ⟨h,by omega,by omega,λ_ _=>rfl⟩
   refine sCC ?_ func183 (hf:=λhb=>(qP (l.drop (k+1)) k6 ⟨_,Go.Proofs.Tryz.func184,by kernel_rfl,rfl⟩ rfl (λx _=>Iu x r m)));refine sN 3 ?_;refine sE ?_;refine wKd ?_;refine wGT ?_;subst h49 h37;have hk4:(r.act.kind==4)=true:=by simpa using e1
   rw[hk4];simp only[cZ,Y0]
 ·refine wG ?_ (by simp only[go_sem,e1,ZR];try exact rfl) (by simp[go_sem,e1,ZR]);refine wDT ?_ (hb:=rfl);refine wGT ?_;have hk4:(r.act.kind==4)=false:=by simpa using e1
  unfold eK;split
  ·rfl
  ·rw[hk4];rfl
theorem BX (x r:Rec):aj prog 154 [.agg (ZR x),.rp (ZR r) 0] [] (λb _=>b=.bool (x.names r.act.fid)):=by
 refine wS func154 ntmps154 results154 λC=>?_
 refine wGq ?_ ?_ u2
 ·simp
 refine ZZ 2 rfl (rfl) (wn ?_);refine wC ?_ func155 (hf:=Af x r.act.fid);refine wGT ?_;rfl
theorem AY (x r:Rec):aj prog 156 [.agg (ZR x),.rp (ZR r) 0] [] (λb _=>b=.bool (stored r x)):=by
 refine wS func156 ntmps156 results156 λC=>?_
 refine wR ?_;refine wN 2 ?_ z6 z6 u2 (by simp[go_sem,ZR]);refine wR ?_;refine wN 4 ?_;refine wNm 7 λc7 h7=>?_
 refine wG ?_ u2 (by simp[go_sem,ZR]);refine wT ?_;subst h7;rw[cZ];rfl
def gg:Option (List Rec)->AV
 | some x=>.tup [.sl (x.map ZR),.int .i64 0]
 | none=>.tup [.nils,.int .i64 5]
theorem Ll (l:List Rec) (r:Rec) (hl:SmallL l) (hr:r.act.Small):aj prog 110 [.sl (l.map ZR),.agg (ZR r)] [] (λx _=>x=gg (dt l r)):=by
 have hlen:=hl.len;refine wS func110 ntmps110 results110 λC=>?_
 refine wGq ?_ ?_ u2
 ·simp
 refine ZZ 3 rfl (rfl) (wn ?_);refine wCG ?_ [] 100 func69 (hf:=qI l hl);refine wG ?_;refine wV ?_ func152 (hf:=Bn l hlen r);refine wGD (λh=>?_) (λh=>?_)
 ·refine wG ?_;refine wCG ?_ [119] 100 func153 (hf:=m_ l hlen 119 ⟨_,Go.Proofs.Tryz.func154,by kernel_rfl,rfl⟩ rfl j8 (λx _=>BX x r));refine wG ?_;refine ZZ 219 rfl (by rw[List.all_append,dg,Y0];exact jP _ rfl) (wn ?_);refine wT ?_;have hle:=W8 (λx:Rec=>!x.names r.act.fid) l;simp only[dt,h,if_true,gg];generalize (l.filter λx=>!x.names r.act.fid)=d at *;rw[if_pos w8,iD w8]
 ·have hh:eK l r=false:=h;refine wGD (λh=>?_) (λh=>?_)
  ·refine wG ?_;refine wCG ?_ [119] 100 func153 (hf:=m_ l hlen 119 ⟨_,Go.Proofs.Tryz.func156,by kernel_rfl,rfl⟩ rfl j8 (λx _=>AY x r));have hle:=W8 (λx:Rec=>!stored r x) l;have hadd:dt l r=if (l.filter λx=>!stored r x).length≥20 then none else some ((l.filter λx=>!stored r x)++[r]):=by
    have hk:r.act.kind=3:=eq_of_beq (by assumption);simp only[dt,hh,Bool.false_eq_true,if_false,cQ,hk,if_true]
   rw[hadd];have hsub:∀x,x∈(l.filter λx=>!stored r x)->x.act.Small:=λx hx=>hl.each x (YI.1 hx).1
   generalize (l.filter λx=>!stored r x)=d at hle hsub;refine wGD (λh=>?_) (λh=>?_)
   ·have hd:d.length≥20:=by have h2:=of_decide_eq_true h;omega
    refine wGT ?_;rw[if_pos hd];rfl
   ·have hd:¬d.length≥20:=by have h2:=of_decide_eq_false h;omega
    refine wGq ?_ ?_ u2
    ·simp
    refine ZZ 26 rfl (rfl) (wn ?_);refine wC ?_ func69 (hf:=kQ [r] ⟨by simp,λx hx=>by rw[List.mem_singleton.1 hx];exact hr⟩);have ht:(d.map ZR++List.replicate (l.length-d.length) [AV.int .i64 0,.int .i64 0,.int .i64 0,.str [],.int .i64 0,.str [],.nils,.int .i64 0,.int .i64 0]).take d.length=d.map ZR:=iD w8;refine wGq ?_ ?_ (by simp only[go_sem,ht,ZR];try exact rfl)
    ·simp[rowsOf];omega
    refine ZZ 28 rfl Qg (wn ?_);refine wGT ?_;rw[if_neg hd];simp only[gg,List.map_append,List.map_cons,List.map_nil,ZR];rw[W1 w8]
  ·have hadd:dt l r=if l.length≥20 then none else some (l++[r]):=by
    have hk:¬r.act.kind=3:=by simpa using h
    simp only[dt,hh,Bool.false_eq_true,if_false,cQ,hk]
   rw[hadd];refine wGD (λh=>?_) (λh=>?_)
   ·have hd:l.length≥20:=by have h2:=of_decide_eq_true h;omega
    refine wGT ?_;rw[if_pos hd];rfl
   ·have hd:¬l.length≥20:=by have h2:=of_decide_eq_false h;omega
    refine wGq ?_ ?_ u2
    ·simp
    refine ZZ 26 rfl (rfl) (wn ?_);refine wC ?_ func69 (hf:=kQ [r] ⟨by simp,λx hx=>by rw[List.mem_singleton.1 hx];exact hr⟩);refine wGq ?_ ?_ u2
    ·simp[rowsOf];omega
    refine ZZ 28 rfl Qg (wn ?_);refine wGT ?_;rw[if_neg hd];simp only[gg,List.map_append,List.map_cons,List.map_nil,ZR];rw[W1 w8]
@[go_sem,simp] theorem K9 (s:Nat) (r:List AV) (l:List (List AV)):Eng.rowsOf s (r::l)↔r.length=s/\Eng.rowsOf s l:=by
 unfold Eng.rowsOf;constructor
 ·exact λh=>⟨h r w8,λx hx=>h x (by simp[hx])⟩
 ·rintro ⟨h1,h2⟩ x hx
  rcases List.mem_cons.1 hx with rfl | hx
  ·exact h1
  ·exact h2 x hx
@[go_sem,simp] theorem LZ (s:Nat):Eng.rowsOf s []:=λ_ h=>by simp at h
theorem fM (a:Act):Fo 135 [.agg (ZA a)] (.sl ((cA a).map ZI)):=by
 unfold ZA;refine wS func135 ntmps135 results135 λC=>?_
 refine wGD (λh=>?_) (λh=>?_)
 ·have h1:a.kind≠3:=by simpa using h
  refine wGD (λh=>?_) (λh=>?_)
  ·have h2:a.kind=5:=by simpa using h
   refine wG ?_;refine ZZ 22 rfl (rfl) (wn ?_);refine wT ?_;simp[go_sem,cA,ZI,h2]
  ·have h2:a.kind≠5:=by simpa using h
   refine wG ?_;refine ZZ 14 rfl (rfl) (wn ?_);refine wT ?_;simp[go_sem,cA,ZI,h1,h2]
 ·have h1:a.kind=3:=by simpa using h
  refine nt ?_ (hb:=by rw[h1];rfl);refine ZZ 6 rfl (rfl) (wn ?_);refine wT ?_;simp[go_sem,cA,ZI,h1]
theorem pP (l:List Int) (hlen:l.length<=100000000) (v:Int):Fo 134 [.sl (l.map ZI),.int .i64 v] (.bool (l.contains v)):=by
 refine wSG func134 ntmps134 results134 λC=>?_
 refine ZL (λi:Nat=>i<=l.length/\v∉l.take i) (λi=>l.length-i) (λi=>(9,.int .i64 i)::(6,.any)::u0 10 7 []) (λ_=>[]) 0 ⟨by omega,by simp⟩ ?_ λi hi=>?_
 ·exact wY
 obtain ⟨hi,hno⟩:=hi;simp only[go_sem];refine wGD (λh=>?_) (λh=>?_)
 ·have hlt:=lt1 h;have hg:=Fam.getD (f:=ZI) hlt;have htk:=ZT hlt;have hm:=YG hlt;generalize l.getD i default=n at hg htk hm;refine wGq ?_ ?_ Zr
  ·simp[hlt]
  refine wD (λh=>?_) (λh=>?_)
  ·refine wGT ?_;have e:n=v:=eq_of_beq h;subst e;rw[YS.2 hm]
  ·have hw:IntKind.i64.wrap ((i:Int)+1)=(i:Int)+1:=wrap_small z8 z8;have hne:n≠v:=by simpa using h
   refine wG ?_ w4 y7;refine ZB ⟨i+1,⟨by omega,?_⟩,by omega,ZU ?_ ?_ ?_⟩
   ·rw[htk];intro hx
    rcases List.mem_append.1 hx with hx | hx
    ·exact hno hx
    ·exact hne (List.mem_singleton.1 hx).symm
   ·simp[go_sem]
   ·simp[go_sem]
   ·simp only[go_sem]
 ·have e:i=l.length:=by simp at h;omega
  refine wGT ?_;rw[e,W4] at hno;rw[show l.contains v=false from by simpa using hno]
end La
