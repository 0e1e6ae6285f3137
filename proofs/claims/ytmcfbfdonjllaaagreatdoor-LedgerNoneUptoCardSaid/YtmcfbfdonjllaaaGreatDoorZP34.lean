/- Texts of this claim, part 34: CSort, RSame, RSameC, WWrong, PPlay, PLedg, PLedg2, PFateL. No condition. -/
import Derived.Test.YtmcfbfdonjllaaaGreatDoorZP33
set_option maxRecDepth 10000
set_option maxHeartbeats 4000000
set_option linter.unusedSimpArgs false
set_option linter.unusedVariables false
namespace La
open Go Go.Eng Go.Proofs Go.Proofs.Tryz
def hoH (l:List Hoard) (id:Nat) (G Y N:Nat->Nat):List (Nat×Blk):=[(id,.cells 118 2 (l.map ZJ))]++pins [id] G Y N
theorem II (a b:Hoard) (ha:1<=a.worth/\a.worth<=100) (hb:1<=b.worth/\b.worth<=100):Fo 118 [.agg (ZJ a),.agg (ZJ b)] (.int .i64 (b.worth-a.worth)):=by
 have hw:IntKind.i64.wrap (b.worth-a.worth)=b.worth-a.worth:=Eng.wrap_small z8 z8;unfold ZJ;refine wS func118 ntmps118 results118 λC=>?_
 refine wG ?_ w4 y7;refine wT ?_;rfl
def iJ (M T:List Hoard):List Hoard:=M++T
def jP (A:List Hoard) (x:Hoard) (T:List Hoard):List Hoard:=A++x::T
theorem zm (A:List Hoard) (x:Hoard) (T:List Hoard):(jP A x T).length=A.length+1+T.length:=by unfold jP;rw[List.length_append,List.length_cons];omega
theorem xB (A:List Hoard) (x:Hoard) (T:List Hoard):((jP A x T).map ZJ).getD A.length []=[.str x.path,.int .i64 x.worth]:=by
 have:((jP A x T).map ZJ).getD A.length []=ZJ ((jP A x T).getD A.length default):=Fam.getD (by rw[zm];omega);rw[this];unfold jP;rw[List.getD_eq_getElem?_getD,YQ z8,Yq];rfl
theorem zn (A:List Hoard) (x y:Hoard) (T:List Hoard):((jP A x T).map ZJ).set A.length [.str y.path,.int .i64 y.worth]=(jP A y T).map ZJ:=by
 show List.set _ _ (ZJ y)=_
 unfold jP;rw[<-List.map_set,List.set_append_right _ _ z8,Yq];rfl
theorem tT (A:List Hoard) (y x:Hoard) (T:List Hoard):jP (A++[y]) x T=jP A y (x::T):=by unfold jP;simp
theorem FT (l:List Hoard) (hlen:l.length<=19) (hwo:∀h,h∈l->1<=h.worth/\h.worth<=100) (G Y N:Nat->Nat):ai prog 190 [.osl 1000 2 0 l.length,.int .i64 0,.int .i64 l.length,.fn 118 []] (hoH l 1000 G Y N)
  (λr H=>r=.tup []/\Holds (hoH (bu l 100) 1000 G Y N) H):=by
 unfold hoH;refine wSG func190 ntmps190 results190 λC=>?_
 refine ZL (λq:Nat×List Hoard=>0<q.1/\(q.1<=l.length\/q.1=1)/\Stab (l.take q.1) q.2) (λq=>l.length+1-q.1) (λq=>(8,.int .i64 q.1)::(9,.any)::u0 12 41 []) (λq=>[(1000,.cells 118 2 ((iJ q.2 (l.drop q.1)).map ZJ))]) (1,l.take 1) ⟨by simp,by simp,?_⟩ ?_ λq hq=>?_
 ·cases l with
  | nil=>exact Stab.nil
  | cons x r=>exact Stab.ins (P:=[]) (Q:=[]) Stab.nil (λp hp=>by cases hp) (λp hp=>by cases hp)
 ·have e0:iJ (l.take 1) (l.drop 1)=l:=List.take_append_drop 1 l;simp only[go_sem,e0];exact ZU (by simp[go_sem];decide) w3 w3
 obtain ⟨i,M⟩:=q;obtain ⟨hi0,hi,hst⟩:=hq;simp only at hi0 hi hst;simp only[go_sem];refine wGD (λh=>?_) (λh=>?_)
 ·have hlt:=lt1 h;have hw:=wi1 (i:=i) z8;have hMl:M.length=i:=by rw[hst.len,YF];omega
  have htk:=ZT hlt;have hdr:iJ M (l.drop i)=jP M (l.getD i default) (l.drop (i+1)):=by unfold iJ jP;rw[ck hlt]
  have hxw:=hwo _ (YG hlt);have hMw:∀p,p∈M->1<=p.worth/\p.worth<=100:=λp hp=>hwo p (YJ (hst.mem p hp))
  rw[hdr];have hRl:(l.drop (i+1)).length<=19:=by rw[YZ];omega
  generalize hR:l.drop (i+1)=R at *;generalize l.getD i default=x at *;refine wG ?_;refine ZL (λq:List Hoard×List Hoard=>q.1++q.2=M/\∀p,p∈q.2->p.worth<x.worth) (λq=>q.1.length) (λq=>(9,.int .i64 q.1.length)::u0 18 35 []) (λq=>[(1000,.cells 118 2 ((jP q.1 x (iJ q.2 R)).map ZJ))]) (M,[]) ⟨by simp,λp hp=>by cases hp⟩ ?_ λq hq=>?_
  ·have e0:iJ [] R=R:=rfl;simp only[go_sem,e0];exact ZU (by simp[go_sem,hMl]) w3 w3
  obtain ⟨A,B⟩:=q;obtain ⟨hAB,hB⟩:=hq;simp only at hAB hB;have hAl:A.length<=19:=by have:=congrArg List.length hAB;simp at this;omega
  have hback:(∀p,p∈A->x.worth<=p.worth)->Stab (l.take (i+1)) (A++x::B):=λh=>by rw[htk];rw[<-hAB] at hst;exact Stab.ins hst h hB
  have hout:iJ (A++x::B) R=jP A x (iJ B R):=by unfold iJ jP;simp
  have hout2:iJ (A++x::B) (l.drop (i+1))=jP A x (iJ B R):=by rw[hR];exact hout
  simp only[go_sem];refine wG ?_
  rcases List.eq_nil_or_concat A with hA | ⟨A',y,hA⟩
  ·subst hA;refine wO ?_;refine sN 4 ?_;refine dh 21 z6 (λc21 h21=>?_);simp only[go_sem];have hc:c21=false:=by rw[<-h21];simp
   subst hc
   iterate 11 refine sS ?_
   refine sSB ?_;refine sN 1 ?_;refine wX ?_;refine wDF ?_ (hb:=rfl);refine wG ?_ w4 y7;refine ZB ⟨(i+1,[]++x::B),⟨by simp only;omega,by simp only;omega,hback λp hp=>by cases hp⟩,by simp only;omega,ZU ?_ ?_ ?_⟩
   ·simp[go_sem]
   ·rw[hout2];simp[go_sem]
   ·simp[go_sem]
  ·rw[List.concat_eq_append] at hA;subst hA;have hj:((A'++[y]).length:Int)=((A'.length+1:Nat):Int):=by simp
   have hjn:(A'++[y]).length=A'.length+1:=by simp
   have hwm:IntKind.i64.wrap (((A'.length+1:Nat):Int)-1)=((A'.length:Nat):Int):=by rw[Eng.wrap_small z8 z8];omega
   have hyw:=hMw y (by rw[<-hAB];simp);have hcmp:=II x y hxw hyw;unfold ZJ at hcmp;have hg:=xB (A'++[y]) x (iJ B R);rw[hjn] at hg;have hgm:=xB A' y (x::iJ B R);rw[<-tT] at hgm;have hT:(iJ B R).length<=60:=by
    have:=congrArg List.length hAB;unfold iJ;simp at this ⊢;omega
   have hAi:A'.length+1<l.length:=by have:=congrArg List.length hAB;simp at this;omega
   have hlen2:=zm (A'++[y]) x (iJ B R);have hs1:=zn (A'++[y]) x y (iJ B R);rw[hjn] at hlen2 hs1;have hs2:=zn A' y x (y::iJ B R);rw[<-tT] at hs2;have hgm2:=xB A' y (y::iJ B R);rw[<-tT] at hgm2;have hnext:jP A' x (iJ (y::B) R)=jP A' x (y::iJ B R):=rfl;generalize jP (A'++[y]) x (iJ B R)=Q1 at *;generalize jP (A'++[y]) y (iJ B R)=Q2 at *;rw[hjn];refine wO ?_;refine sN 4 ?_;refine dh 21 z6 (λc21 h21=>?_);simp only[go_sem];have hc:c21=true:=by rw[<-h21];simp
   subst hc;refine sNq 10 ?_ ?_ z6 z6 (by simp only[go_sem,hg,hgm,hwm,ZJ];try exact rfl)
   ·simp[hg,hgm,hwm,ZJ,hlen2];try omega
   refine sCC ?_ func118 (hf:=λhb=>(hcmp));refine sN 2 ?_;refine wX ?_;refine wD (λh=>?_) (λh=>?_)
   ·have hyx:y.worth<x.worth:=by simp at h;omega
    refine wG ?_;refine ZW ZM ?_;refine ik 2 [0,1,3,4,5,6,7,8,9,10,11,12,13,14,15,16,17] [0,1,0,2,3,4,5,6,7,8,9,10,11,12,13,14,15,16] rfl rfl rfl (λ_ _ _ h=>h) w9 w9 v8 z7 ?_
    try simp only[go_sem,gA,gB,gC]
    refine ZS rfl ?_;refine sNq 14 ?_ ?_ z6 z6 (by simp only[go_sem,hg,hgm,hwm];try exact rfl)
    ·simp[hg,hgm,hwm,hlen2];try omega
    refine ej tK rfl rfl z7 z7 z7 p5 z6 ?_ z6 z6 z6 ?_
    ·simp[hg,hgm,hwm,hlen2];try omega
    refine sNq 1 ?_ ?_
    ·simp[hg,hgm,hwm,hlen2];try omega
    refine ej tK rfl rfl z7 z7 z7 p5 z6 ?_ z6 z6 z6 ?_
    ·simp[hg,hgm,hwm,hlen2];try omega
    refine wX ?_;refine wG ?_ (by simp only[go_sem,hwm,hg,hgm,hs1,hgm2,hs2];try exact rfl) (by simp[go_sem,hwm,hg,hgm,hs1,hgm2,hs2]);refine ZB ⟨(A',y::B),⟨by rw[<-hAB];simp,λp hp=>?_⟩,by simp,ZU ?_ ?_ ?_⟩
    ·rcases List.mem_cons.1 hp with rfl | hp
     ·exact hyx
     ·exact hB p hp
    ·simp[go_sem]
    ·simp[go_sem,hnext]
    ·simp[go_sem]
   ·have hyx:x.worth<=y.worth:=by simp at h;omega
    refine wG ?_ w4 y7;refine ZB ⟨(i+1,(A'++[y])++x::B),⟨by simp only;omega,by simp only;omega,hback λp hp=>?_⟩,by simp only;omega,ZU ?_ ?_ ?_⟩
    ·have hf:=hst.dd;rw[<-hAB,List.pairwise_append] at hf
     rcases List.mem_append.1 hp with hp | hp
     ·have:=(List.pairwise_append.1 hf.1).2.2 p hp y w8;omega
     ·rw[List.mem_singleton.1 hp];exact hyx
    ·simp[go_sem]
    ·rw[hout2];simp[go_sem]
    ·simp[go_sem]
 ·have e:l.take i=l:=W4 (by simp at h;omega);rw[e] at hst;have hM:=hst.order hwo;have e0:iJ M (l.drop i)=bu l 100:=by unfold iJ;rw[Yt (by simp at h;omega),List.append_nil,hM]
  rw[e0];refine wG ?_;refine iD ⟨_,_,rfl,trivial,.tup [],.inr (.inl rfl),rfl,?_⟩;exact q9
theorem Bo (l:List Hoard) (hne:¬l=[]) (hlen:l.length<=19) (hwo:∀h,h∈l->1<=h.worth/\h.worth<=100) (G Y N:Nat->Nat):ai prog 162 [.osl 1000 2 0 l.length,.int .i64 l.length,.fn 118 []] (hoH l 1000 G Y N)
  (λr H=>r=.tup []/\Holds (hoH (bu l 100) 1000 G Y N) H):=by
 have hs:=FT l hlen hwo;unfold hoH at hs;unfold hoH;refine wSG func162 ntmps162 results162 λC=>?_
 refine ZL (λ_:Unit=>True) (λ_=>0) (λ_=>u0 11 12 []) (λ_=>[]) () trivial ?_ λ_ _=>?_
 ·exact wZ
 simp only[go_sem];refine mh ?_ (hb:=k6);refine bC rfl (dY rfl z7 w3 ⟨_,func190,by kernel_rfl,rfl⟩ [1000] w6 w3 w8 Zo w3 w3 (hs) w7) ?_;refine wG ?_;refine ZL (λ_:Unit=>True) (λ_=>0) (λ_=>u0 28 35 []) (λ_=>[]) () trivial ?_ λ_ _=>?_
 ·exact wZ
 simp only[go_sem];refine mh ?_ (hb:=k6);refine iD ⟨_,_,rfl,trivial,.tup [],.inr (.inl rfl),rfl,?_⟩;exact q9
theorem FU (l:List Hoard) (hne:¬l=[]) (hlen:l.length<=19) (hwo:∀h,h∈l->1<=h.worth/\h.worth<=100) (G Y N:Nat->Nat):ai prog 117 [.osl 1000 2 0 l.length,.fn 118 []] (hoH l 1000 G Y N)
  (λr H=>r=.tup []/\Holds (hoH (bu l 100) 1000 G Y N) H):=by
 have hs:=Bo l hne hlen hwo;unfold hoH at hs;unfold hoH;refine wSG func117 ntmps117 results117 λC=>?_
 refine bC rfl (dY rfl z7 w3 ⟨_,func162,by kernel_rfl,rfl⟩ [1000] w6 w3 w8 Zo w3 w3 (hs) w7) ?_;refine wG ?_;refine iD ⟨_,_,rfl,trivial,.tup [],.inr (.inl rfl),rfl,?_⟩;exact q9
theorem DH:Fo 190 [.sl [],.int .i64 0,.int .i64 0,.fn 118 []] (.tup []):=by
 refine wSG func190 ntmps190 results190 λC=>?_
 refine ZL (λ_:Unit=>True) (λ_=>0) (λ_=>[]) (λ_=>[]) () trivial ?_ λ_ _=>?_
 ·exact wZ
 simp only[go_sem];refine mh ?_ (hb:=x7);refine iD ⟨_,_,rfl,trivial,.tup [],.inr (.inl rfl),rfl⟩
theorem zl:Fo 162 [.sl [],.int .i64 0,.fn 118 []] (.tup []):=by
 refine wSG func162 ntmps162 results162 λC=>?_
 refine ZL (λ_:Unit=>True) (λ_=>0) (λ_=>[]) (λ_=>[]) () trivial ?_ λ_ _=>?_
 ·exact wZ
 simp only[go_sem];refine mh ?_ (hb:=x7);refine wCg ?_ func190 (hf:=DH);refine ZL (λ_:Unit=>True) (λ_=>0) (λ_=>[]) (λ_=>[]) () trivial ?_ λ_ _=>?_
 ·exact wZ
 simp only[go_sem];refine mh ?_ (hb:=x7);refine iD ⟨_,_,rfl,trivial,.tup [],.inr (.inl rfl),rfl⟩
theorem DI:Fo 117 [.sl [],.fn 118 []] (.tup []):=by
 refine wSG func117 ntmps117 results117 λC=>?_
 refine wCg ?_ func162 (hf:=zl);refine iD ⟨_,_,rfl,trivial,.tup [],.inr (.inl rfl),rfl⟩
theorem nW (d:List Hoard) (hd:d.length<=100000000):ai prog 70 [.sl (d.map ZJ)] [] (λr H=>r=.osl 7 2 0 d.length/\∀i b,aa [(7,.cells 118 2 (d.map ZJ))] i=some b->aa H i=some b):=by
 refine wSG func70 ntmps70 results70 λC=>?_
 refine mq tK rfl rfl rfl u3 u3 (λb hb=>?_);simp only[go_sem];refine wGD (λh=>?_) (λh=>?_)
 ·have hd0:d=[]:=by
   have:=hb h;cases d with
   | nil=>rfl
   | cons x r=>simp at this
  subst hd0;refine wG ?_;refine af (le_empty 7 118 2 z7) (wn ?_);refine lk ⟨_,_,z7,by simp[go_sem],.osl 7 2 0 0,.inr (.inr ⟨rfl,.inr ⟨7,2,0,rfl⟩⟩),?_⟩;simp[go_sem]
 ·refine wGq ?_ ?_
  ·simp;omega
  refine wT ?_;simp[go_sem]
theorem Im (n r:Int):ai prog 34 [.int .i64 n,.int .i64 r] [] (λx _=>x=.agg (ZC (pC n r))):=by
 refine ai.iZ (X:=.agg [.int .i64 n,.bool false,.int .i64 r,.nils,.nils,.nils,.nils,.int .i64 0,.int .i64 0,.int .i64 0]) ?_ rfl;refine wS func34 ntmps34 results34 λC=>?_
 refine wGT ?_;rfl
theorem Hg (rooms:List Int) (hr:rooms.length<=100000000):Fo 20 [.sl (rooms.map ZI)] (.int .i64 (bw rooms)):=by
 have hE:bw rooms=if rooms.length<1\/3<rooms.length then 5 else if rooms.all (λn=>decide (3<=n)&&decide (n<=24)) then 0 else 3:=rfl;generalize bw rooms=E at *;refine wS func20 ntmps20 results20 λC=>?_
 refine wR ?_;refine wN 1 ?_;refine wR ?_;refine wN 8 ?_;refine wNm 12 λc12 h12=>?_
 have hc:c12=true↔(rooms.length<1\/3<rooms.length):=by
  rw[<-h12]
  by_cases h1:rooms.length<1
  ·simp[h1];omega
  ·simp[h1];omega
 clear h12;refine wG ?_
 by_cases hb:rooms.length<1\/3<rooms.length
 ·rw[if_pos hb] at hE;subst hE;refine wDT ?_ (hb:=hc.2 hb);refine wGT ?_;rfl
 ·rw[if_neg hb] at hE;refine wFG ?_ (hb:=by simpa using λh0=>hb (hc.1 h0));refine ZL (λi:Nat=>i<=rooms.length/\(rooms.take i).all (λn=>decide (3<=n)&&decide (n<=24))=true) (λi=>rooms.length-i) (λi=>(4,.any)::(15,.int .i64 i)::u0 16 10 []) (λ_=>[]) 0 ⟨by omega,rfl⟩ ?_ λi hi=>?_
  ·exact wZ
  obtain ⟨hi,hall⟩:=hi;simp only[go_sem];refine wGD (λh=>?_) (λh=>?_)
  ·have hlt:=lt1 h;have hg:(rooms.map ZI).getD i []=[.int .i64 (rooms.getD i 0)]:=by
    rw[List.getD_eq_getElem?_getD,W5,List.getD_eq_getElem?_getD,W3 hlt];rfl
   have how':=wi1 (i:=i) z8;have htk:rooms.take (i+1)=rooms.take i++[rooms.getD i 0]:=by
    rw[List.take_add_one,List.getD_eq_getElem?_getD,W3 hlt];rfl
   generalize hn:rooms.getD i 0=n at *;refine wR ?_;refine wNq 3 ?_ ?_ z6 z6 u6
   ·simp[hg,hlt]
   refine wR ?_;refine wN 6 ?_;refine wNm 24 λc24 h24=>?_
   have hc3:c24=true↔¬(3<=n/\n<=24):=by
    rw[<-h24]
    by_cases h1:n<3
    ·simp[h1];omega
    ·simp[h1];omega
   clear h24;refine wG ?_
   by_cases hok:3<=n/\n<=24
   ·refine wDF ?_ (hb:=by simpa using λh0=>hc3.1 h0 hok);refine wG ?_ y6 u2;refine ZB ⟨i+1,⟨by omega,by rw[htk,List.all_append,hall];simp[hok]⟩,by omega,ZU ?_ ?_ ?_⟩
    ·simp[go_sem]
    ·simp[go_sem]
    ·simp[go_sem]
   ·have hE3:E=3:=by
     rw[hE,if_neg];simp only[List.all_eq_true,Bool.and_eq_true,decide_eq_true_eq];intro hx;have:=hx n (by rw[<-hn,List.getD_eq_getElem?_getD,W3 hlt];exact YY _);exact hok this
    subst hE3;refine wDT ?_ (hb:=hc3.2 hok);refine wGT ?_;rfl
  ·obtain rfl:=eq1 hi h;rw[W7] at hall;rw[if_pos hall] at hE;subst hE;refine wGT ?_;rfl
theorem Dd (rooms:List Int) (hr:rooms.length<=100000000):Fo 17 [.sl (rooms.map ZI)] (rJ rooms):=by
 have hns:=Jw;unfold ZQ at hns;have hwr:=Hg rooms hr;have hsu:=ub rooms;have hle:=wj rooms;have h0:iy rooms 0=[]:=rfl;have hW:rJ rooms=.tup [.agg (a_ (if bw rooms=0 then ⟨Lr,iy rooms rooms.length⟩ else uX)),.int .i64 (bw rooms)]:=rfl;have hE:bw rooms=0->rooms.length<=3:=λh=>by
  unfold bw at h;split at h
  ·cases h
  ·omega
 rw[hW];generalize bw rooms=E at *;generalize iy rooms=P at *;clear hW;refine wSG func17 ntmps17 results17 λC=>?_
 refine wCg ?_ func20 (hf:=hwr)
 by_cases hb:E=0
 ·have h3:=hE hb;subst hb;refine wFG ?_ (hb:=w8);refine wCg ?_ func33 (hf:=hns);refine af (le_empty 29 47 10 z7) (wn ?_);refine af (iY 5 ([[.sl ([gN].map ZN),.int .i64 1,.sl [],.osl 29 10 0 0]]) z6 Qx) (wn ?_);refine wL rooms.length (λi=>(6,.any)::(7,.any)::(18,.int .i64 i)::u0 19 13 [])
   (λi=>[(5,.cells 35 4 [[.sl ([gN].map ZN),.int .i64 1,.sl [],.osl 29 10 0 (P i).length]]),(29,.cells 47 10 ((P i).map ZC))]) ?_ λi hi=>?_
  ·rw[h0];exact wZ
  simp only[go_sem];refine wGD (λh=>?_) (λh=>?_)
  ·have hlt:=lt1 h;have hg:(rooms.map ZI).getD i []=[.int .i64 (rooms.getD i 0)]:=by
    rw[List.getD_eq_getElem?_getD,W5,List.getD_eq_getElem?_getD,W3 hlt];rfl
   have how':=wi1 (i:=i) z8;have hs1:=hsu i;have hl1:=hle i;generalize hn:rooms.getD i 0=n at *;have hcn:=Im (i:Int) n;generalize P i=Q at *;have htq:List.take Q.length (Q.map ZC)=Q.map ZC:=W4 w8;unfold ZC at hcn;refine wR ?_;refine wNq 5 ?_ ?_ z6 z6 u6
   ·simp[hg,hlt]
   refine wO ?_;refine sN 4 ?_;refine sC ?_ func34 (hf:=hcn);refine sW ?_;refine sE ?_;refine iV (aX 29 5 z6 y9) ?_;simp only[go_sem];refine dSq ?_ ?_
   ·simp[go_sem,rowsOf,htq,refs];exact ⟨by omega,λx _=>qe _ x⟩
   simp only[go_sem];refine dS ?_;refine dS ?_;refine wKn ?_;refine wG ?_ y6 u2;exact ZB ⟨i+1,by omega,by omega,ZU w3 (by simp[go_sem,hs1,htq,ZC,pC]) w3⟩
  ·obtain rfl:=eq1 hi h;have hl1:=hle rooms.length;generalize P rooms.length=Q at *;have htq:List.take Q.length (Q.map ZC)=Q.map ZC:=W4 w8;refine wG ?_;refine ZZ 29 rfl (ij _) ?_;simp only[go_sem,htq];refine wT ?_;rfl
 ·refine wTG ?_ (hb:=by simp[hb]);refine af (au 2) (wn ?_);refine wT ?_;rw[if_neg hb];rfl
end La
namespace La
open Go Go.Eng
def mZ (rooms:List Int) (l:List Step):Int:=if bw rooms≠0 then bw rooms else if 80<l.length then 5 else 0
theorem uj {rooms:List Int} {l:List Step} (h:mZ rooms l=0):bw rooms=0/\l.length<=80:=by
 unfold mZ at h
 by_cases h1:bw rooms=0
 ·rw[if_neg Zc] at h
  by_cases h2:80<l.length
  ·rw[if_pos h2] at h;cases h
  ·exact ⟨h1,by omega⟩
 ·rw[if_pos h1] at h;exact absurd h h1
structure ModF (K:Nat->Prop) (fs fs':List Fate):Prop where
 len:fs'.length=fs.length
 step:∀k,(fs'.getD k default).step=(fs.getD k default).step
 client:∀k,(fs'.getD k default).client=(fs.getD k default).client
 same:∀k,¬K k->fs'.getD k default=fs.getD k default
theorem ModF.refl (K:Nat->Prop) (fs:List Fate):ModF K fs fs:=⟨rfl,λ_=>rfl,λ_=>rfl,λ_ _=>rfl⟩
theorem ModF.trans {K:Nat->Prop} {a b c:List Fate} (h:ModF K a b) (k:ModF K b c):ModF K a c:=⟨k.len.trans h.len,λi=>(k.step i).trans (h.step i),λi=>(k.client i).trans (h.client i),λi hi=>(k.same i hi).trans (h.same i hi)⟩
theorem jX (fs:List Fate) (k:Nat) (f:Fate) (i:Nat):(fs.set k f).getD i default=if i=k/\k<fs.length then f else fs.getD i default:=by
 rw[List.getD_eq_getElem?_getD,YP]
 by_cases e:k=i
 ·subst e
  by_cases h:k<fs.length
  ·rw[if_pos rfl,if_pos h,if_pos ⟨rfl,h⟩];rfl
  ·rw[if_pos rfl,if_neg h,if_neg WC,List.getD_eq_getElem?_getD,List.getElem?_eq_none z8]
 ·rw[if_neg e,if_neg (by intro h;exact e h.1.symm),List.getD_eq_getElem?_getD]
theorem CS {K:Nat->Prop} (fs:List Fate) (k:Nat) (hk:K k) (g:Fate->Fate) (h1:∀f,(g f).step=f.step) (h2:∀f,(g f).client=f.client):ModF K fs (fs.set k (g (fs.getD k default))):=by
 refine ⟨by simp,λi=>?_,λi=>?_,λi hi=>?_⟩
 ·rw[jX];split
  ·rename_i h;rw[h1,h.1]
  ·rfl
 ·rw[jX];split
  ·rename_i h;rw[h2,h.1]
  ·rfl
 ·rw[jX,if_neg];intro h;rw[h.1] at hi;exact hi hk
theorem zT {K:Nat->Prop} (fs:List Fate) (k:Nat) (hk:K k) (w:Int):ModF K fs (nS fs k w):=CS fs k hk (λf=>{ f with whr:=w }) (λ_=>rfl) (λ_=>rfl)
theorem zR {K:Nat->Prop}:∀(l:List Nat) (vs:List Verdict) (fs:List Fate),(∀k,k∈l->K k)->ModF K fs (fP l vs fs)
 | [],_,fs,_=>by unfold fP;exact ModF.refl _ _
 | _::_,[],fs,_=>by unfold fP;exact ModF.refl _ _
 | k::l,v::vs,fs,h=>by
  unfold fP;exact (zT fs k (h k List.mem_cons_self) _).trans (zR l vs _ λi hi=>h i (List.mem_cons_of_mem _ hi))
theorem zS {K:Nat->Prop} (now:List Rec):∀(l:List Nat) (rs:List Rec) (fs:List Fate),(∀k,k∈l->K k)->ModF K fs (eL now l rs fs)
 | [],_,fs,_=>by unfold eL;exact ModF.refl _ _
 | _::_,[],fs,_=>by unfold eL;exact ModF.refl _ _
 | k::l,r::rs,fs,h=>by
  unfold eL;refine ModF.trans ?_ (zS now l rs _ λi hi=>h i (List.mem_cons_of_mem _ hi));split
  ·exact ModF.refl _ _
  ·exact zT fs k (h k List.mem_cons_self) _
theorem xN {K:Nat->Prop} (was:Cli) (ks:List Nat) (n:Nat):∀(rs:List Rec) (fs:List Fate),(∀r,r∈rs->K (eJ was ks n r.id))->ModF K fs (mX was ks n rs fs)
 | [],fs,_=>ModF.refl _ _
 | r::rs,fs,h=>by
  unfold mX;exact (CS fs _ (h r List.mem_cons_self) (λf=>{ f with kind:=r.act.kind,whr:=2 }) (λ_=>rfl) (λ_=>rfl)).trans (xN was ks n rs _ λq hq=>h q (List.mem_cons_of_mem _ hq))
theorem Gp (was:Cli) (ks:List Nat) (n:Nat):∀(rs:List Rec) (fs:List Fate),(rs.map λr=>eJ was ks n r.id).Nodup->(∀r,r∈rs->eJ was ks n r.id<fs.length)->∀r,r∈rs ->
  ((mX was ks n rs fs).getD (eJ was ks n r.id) default).whr=2/\((mX was ks n rs fs).getD (eJ was ks n r.id) default).kind=r.act.kind
 | [],_,_,_,r,h=>by cases h
 | q::rs,fs,hn,hl,r,h=>by
  rw[List.map_cons,List.nodup_cons] at hn;unfold mX
  rcases List.mem_cons.1 h with rfl | h
  ·have hm:=xN (K:=λk=>k∈rs.map λr=>eJ was ks n r.id) was ks n rs (fs.set (eJ was ks n r.id) { fs.getD (eJ was ks n r.id) default with kind:=r.act.kind,whr:=2 }) λq hq=>W8.2 ⟨q,hq,rfl⟩
   rw[hm.same _ hn.1,jX,if_pos ⟨rfl,hl r List.mem_cons_self⟩];exact ⟨rfl,rfl⟩
  ·exact Gp was ks n rs _ hn.2 (λx hx=>by rw[YR];exact hl x (List.mem_cons_of_mem _ hx)) r h
theorem pn {was:Cli} {ks:List Nat} {n:Nat} {id:Int} (h:was.logged<id):eJ was ks n id=n+(id-was.logged-1).toNat:=by
 unfold eJ;split
 ·rw[if_pos h]
 ·rfl
theorem po {was:Cli} (hI:IdI was) {ks:List Nat} (n:Nat) (hl:ks.length=was.log.length) {q:Rec} (hq:q∈was.log):∃i,i<ks.length/\(was.log.getD i default).id=q.id/\eJ was ks n q.id=ks.getD i 0:=by
 have hle:=(hI.bnd q hq).2;unfold eJ;cases e:was.log.findIdx? λr=>r.id==q.id with
 | none=>
  have:=YO.1 e q hq;simp at this
 | some i=>
  obtain ⟨h1,h2,_⟩:=YN.1 e;refine ⟨i,by omega,?_,?_⟩
  ·rw[List.getD_eq_getElem?_getD,W3 h1];simpa using h2
  ·simp only;rw[if_neg z8]
theorem qu {l:List Nat} {i:Nat} (h:i<l.length):l.getD i 0∈l:=by
 rw[List.getD_eq_getElem?_getD,W3 h];exact YY _
theorem DA {was now:Cli} (hI:IdI was) (hS:LS was now) {ks:List Nat} (n:Nat) (hl:ks.length=was.log.length) {r:Rec} (hr:r∈now.log) :
  (eJ was ks n r.id∈ks)\/(n<=eJ was ks n r.id/\eJ was ks n r.id<n+(now.logged-was.logged).toNat):=by
 rcases hS.from_ r hr with ⟨q,hq,he⟩ | ⟨h1,h2⟩
 ·obtain ⟨i,h3,_,h5⟩:=po hI n hl hq;rw[<-he,h5];exact .inl (qu h3)
 ·rw[pn h1];exact .inr ⟨by omega,by omega⟩
theorem IH {was now:Cli} (hI:IdI was) (hS:LS was now) {ks:List Nat} {n:Nat} (hl:ks.length=was.log.length) (hn:ks.Nodup) (hlt:∀k,k∈ks->k<n) {r q:Rec} (hr:r∈now.log) (hq:q∈now.log) (he:eJ was ks n r.id=eJ was ks n q.id):r.id=q.id:=by
 rcases hS.from_ r hr with ⟨r',hr',er⟩ | ⟨h1,h2⟩
 ·rcases hS.from_ q hq with ⟨q',hq',eq⟩ | ⟨h3,h4⟩
  ·obtain ⟨i,i1,i2,i3⟩:=po hI n hl hr';obtain ⟨j,j1,j2,j3⟩:=po hI n hl hq';rw[<-er,<-eq,i3,j3] at he;rw[List.getD_eq_getElem?_getD,List.getD_eq_getElem?_getD,W3 i1,W3 j1] at he;have hij:i=j:=(List.getElem_inj (h₀:=i1) (h₁:=j1) hn).1 he;subst hij;rw[<-er,<-eq,<-i2,<-j2]
  ·obtain ⟨i,i1,i2,i3⟩:=po hI n hl hr';have:=hlt _ (qu i1);rw[<-er,i3,pn h3] at he;omega
 ·rcases hS.from_ q hq with ⟨q',hq',eq⟩ | ⟨h3,h4⟩
  ·obtain ⟨j,j1,j2,j3⟩:=po hI n hl hq';have:=hlt _ (qu j1);rw[<-eq,j3,pn h1] at he;omega
  ·rw[pn h1,pn h3] at he;omega
theorem Dz {was now:Cli} (hI:IdI was) (hS:LS was now) (hJ:IdI now) {ks:List Nat} {n:Nat} (hl:ks.length=was.log.length) (hn:ks.Nodup) (hlt:∀k,k∈ks->k<n):(now.log.map λr=>eJ was ks n r.id).Nodup:=by
 have key:∀(l:List Rec),(∀r,r∈l->r∈now.log)->(l.map (·.id)).Pairwise (·<·)->(l.map λr=>eJ was ks n r.id).Nodup:=λl=>by
  induction l with
  | nil=>exact λ_ _=>List.Pairwise.nil
  | cons r l ih=>
   intro hm hp;rw[List.map_cons] at hp ⊢;have hp:=List.pairwise_cons.1 hp;rw[List.nodup_cons];refine ⟨λhin=>?_,ih (λq hq=>hm q (List.mem_cons_of_mem _ hq)) hp.2⟩;obtain ⟨q,hq,he⟩:=W8.1 hin;have h1:=IH hI hS hl hn hlt (hm q (List.mem_cons_of_mem _ hq)) (hm r List.mem_cons_self) he;have h2:=hp.1 q.id (W8.2 ⟨q,hq,rfl⟩);omega
 exact key now.log (λ_ h=>h) hJ.rise
structure LI (cs:List Cli) (b:Bk):Prop where
 len:b.logs.length=cs.length
 each:∀c,c<cs.length->(b.logs.getD c []).length=(cs.getD c default).log.length
 nod:∀c,c<cs.length->(b.logs.getD c []).Nodup
 at_:∀c,c<cs.length->∀k,k∈b.logs.getD c []->k<b.fates.length/\(b.fates.getD k default).whr=2/\(b.fates.getD k default).client=(c:Int)
structure ExtB (i:Int) (b b':Bk):Prop where
 len:b.fates.length<=b'.fates.length
 step:∀k,k<b.fates.length->(b'.fates.getD k default).step=(b.fates.getD k default).step/\(b'.fates.getD k default).client=(b.fates.getD k default).client
 same:∀k,k<b.fates.length->(b.fates.getD k default).whr≠2->b'.fates.getD k default=b.fates.getD k default
 new:∀k,b.fates.length<=k->k<b'.fates.length->(b'.fates.getD k default).step=i
theorem ExtB.refl (i:Int) (b:Bk):ExtB i b b:=⟨YA _,λ_ _=>⟨rfl,rfl⟩,λ_ _ _=>rfl,λk h1 h2=>by omega⟩
theorem nY {α:Type} {a b:List α} {d:α} {k:Nat} (h:k<a.length):(a++b).getD k d=a.getD k d:=by
 rw[List.getD_eq_getElem?_getD,YU h,List.getD_eq_getElem?_getD]
theorem mK {α:Type} {a b:List α} {d:α} {k:Nat} (h:a.length<=k):(a++b).getD k d=b.getD (k-a.length) d:=by
 rw[List.getD_eq_getElem?_getD,YQ h,List.getD_eq_getElem?_getD]
theorem DU {cs cs':List Cli} {b:Bk} (h:LI cs b) {j:Nat} (hj:j<cs.length) (hc:cs'.length=cs.length) (ho:∀c,c≠j->(cs'.getD c default).log=(cs.getD c default).log) (step:Int)
  (hI:IdI (cs.getD j default)) (hJ:IdI (cs'.getD j default)) (hS:LS (cs.getD j default) (cs'.getD j default)) :
  LI cs' (cL step j (cs.getD j default) (cs'.getD j default) b)/\ExtB step b (cL step j (cs.getD j default) (cs'.getD j default) b):=by
 have hl:=h.each j hj;have hnd:=h.nod j hj;have hat:=h.at_ j hj;have hlt:∀k,k∈b.logs.getD j []->k<b.fates.length:=λk hk=>(hat k hk).1
 have hnod:=Dz hI hS hJ (n:=b.fates.length) hl hnd hlt;have hwh:=λr hr=>DA (r:=r) hI hS b.fates.length hl hr
 have hother:∀c,c<cs.length->c≠j->∀k,k∈b.logs.getD c []->k∉b.logs.getD j []:=λc hcl hne k hk hk2=>by
  have h1:=(h.at_ c hcl k hk).2.2;have h2:=(hat k hk2).2.2;rw[h1] at h2;omega
 generalize hwas:cs.getD j default=was at *;generalize hnow:cs'.getD j default=now at *;generalize hks:b.logs.getD j []=ks at *;have hmd:=zS (K:=λk=>k∈ks) now.log ks was.log b.fates λ_ hk=>hk
 have hF1l:(eL now.log ks was.log b.fates++mg step j (now.logged-was.logged).toNat).length=b.fates.length+(now.logged-was.logged).toNat:=by
  rw[List.length_append,hmd.len];simp[mg]
 have hmn:=xN (K:=λk=>k∈ks\/b.fates.length<=k) was ks b.fates.length now.log (eL now.log ks was.log b.fates++mg step j (now.logged-was.logged).toNat) λr hr=>by
  rcases hwh r hr with h1 | h1
  ·exact .inl h1
  ·exact .inr h1.1
 have hnew:∀k,b.fates.length<=k->k<b.fates.length+(now.logged-was.logged).toNat->(eL now.log ks was.log b.fates++mg step j (now.logged-was.logged).toNat).getD k default=⟨step,j,4,4⟩:=λk h1 h2=>by
  rw[mK (by rw[hmd.len];exact h1),hmd.len];unfold mg;rw[List.getD_eq_getElem?_getD,Y0,if_pos z8];rfl
 have hfl:(cL step j was now b).fates.length=b.fates.length+(now.logged-was.logged).toNat:=by
  unfold cL;rw[hks]
  show (mX _ _ _ _ _).length=_
  rw[hmn.len,hF1l]
 have hold:∀k,k<b.fates.length->((cL step j was now b).fates.getD k default).step=(b.fates.getD k default).step/\((cL step j was now b).fates.getD k default).client=(b.fates.getD k default).client/\(k∉ks->(cL step j was now b).fates.getD k default=b.fates.getD k default):=λk hk=>by
  unfold cL;rw[hks];simp only;have e:(eL now.log ks was.log b.fates++mg step j (now.logged-was.logged).toNat).getD k default=(eL now.log ks was.log b.fates).getD k default:=nY (by rw[hmd.len];exact hk);refine ⟨by rw[hmn.step,e,hmd.step],by rw[hmn.client,e,hmd.client],λhn=>?_⟩;rw[hmn.same k (by intro h1;rcases h1 with h1 | h1;exact hn h1;omega),e,hmd.same k hn]
 have hlogs:(cL step j was now b).logs=b.logs.set j (now.log.map λr=>eJ was ks b.fates.length r.id):=by unfold cL;rw[hks]
 have aa:∀c,(cL step j was now b).logs.getD c []=if c=j then now.log.map (λr=>eJ was ks b.fates.length r.id) else b.logs.getD c []:=λc=>by
  rw[hlogs,List.getD_eq_getElem?_getD,YP]
  by_cases e:j=c
  ·subst e;rw[if_pos rfl,if_pos (by rw[h.len];exact hj),if_pos rfl];rfl
  ·rw[if_neg e,if_neg (λh=>e h.symm),List.getD_eq_getElem?_getD]
 have hwas':=hwas;refine ⟨⟨by rw[hlogs,YR,h.len,hc],λc hcl=>?_,λc hcl=>?_,λc hcl k hk=>?_⟩,⟨by rw[hfl];omega,λk hk=>⟨(hold k hk).1,(hold k hk).2.1⟩,λk hk hw=>(hold k hk).2.2 λhin=>hw (hat k hin).2.1,λk h1 h2=>?_⟩⟩
 ·rw[aa c]
  by_cases e:c=j
  ·subst e;rw[if_pos rfl,List.length_map,hnow]
  ·rw[if_neg e,ho c e];exact h.each c z8
 ·rw[aa c]
  by_cases e:c=j
  ·rw[if_pos e];exact hnod
  ·rw[if_neg e];exact h.nod c z8
 ·rw[aa c] at hk
  by_cases e:c=j
  ·rw[if_pos e] at hk;obtain ⟨r,hr,rfl⟩:=W8.1 hk;have hb:eJ was ks b.fates.length r.id<b.fates.length+(now.logged-was.logged).toNat:=by
    rcases hwh r hr with h1 | h1
    ·have:=hlt _ h1;omega
    ·exact h1.2
   refine ⟨by rw[hfl];exact hb,?_,?_⟩
   ·have:=(Gp was ks b.fates.length now.log (eL now.log ks was.log b.fates++mg step j (now.logged-was.logged).toNat) hnod (λq hq=>by
     rw[hF1l]
     rcases hwh q hq with h1 | h1
     ·have:=hlt _ h1;omega
     ·exact h1.2) r hr).1
    unfold cL;rw[hks];exact this
   ·rw[e]
    rcases hwh r hr with h1 | h1
    ·rw[(hold _ (hlt _ h1)).2.1];exact (hat _ h1).2.2
    ·unfold cL;rw[hks]
     show ((mX was ks b.fates.length now.log (eL now.log ks was.log b.fates++mg step j (now.logged-was.logged).toNat)).getD (eJ was ks b.fates.length r.id) default).client=(j:Int)
     rw[hmn.client,hnew _ h1.1 h1.2]
  ·rw[if_neg e] at hk;have hk0:=h.at_ c z8 k hk;have hnk:k∉ks:=by
    intro hin;have h1:=(hat k hin).2.2;rw[hk0.2.2] at h1;omega
   rw[(hold k hk0.1).2.2 hnk,hfl];exact ⟨by omega,hk0.2⟩
 ·rw[hfl] at h2;unfold cL;rw[hks]
  show ((mX was ks b.fates.length now.log (eL now.log ks was.log b.fates++mg step j (now.logged-was.logged).toNat)).getD k default).step=step
  rw[hmn.step,hnew k h1 h2]
theorem qt (t:List Node) (c:Cli):(bE t c).log=c.log:=by unfold bE;split<;>rfl
structure WorC (w:Wor) (x:Step) (j:Nat):Prop where
 len:(ay w x).w.cs.length=w.cs.length
 at_:(ay w x).w.cs.getD j default=bE (an ⟨w.cs.getD j default,w.s⟩ x).u.s.tree (an ⟨w.cs.getD j default,w.s⟩ x).u.c
 other:∀c,c<w.cs.length->c≠j->(ay w x).w.cs.getD c default=bE (an ⟨w.cs.getD j default,w.s⟩ x).u.s.tree (w.cs.getD c default)
theorem yo {w:Wor} {x:Step} (hx:¬(x.client<0\/x.client≥w.cs.length)):WorC w x x.client.toNat:=by
 have hi:x.client.toNat<w.cs.length:=by omega
 have hW:(ay w x).w.cs=(w.cs.set x.client.toNat (an ⟨w.cs.getD x.client.toNat default,w.s⟩ x).u.c).map (bE (an ⟨w.cs.getD x.client.toNat default,w.s⟩ x).u.s.tree):=by
  unfold ay;rw[if_neg hx]
 generalize x.client.toNat=j at *;refine ⟨by rw[hW];simp,?_,λc hc hne=>?_⟩
 ·rw[hW,List.getD_eq_getElem?_getD,W5,YP,if_pos rfl,if_pos hi];rfl
 ·have e2:w.cs.getD c default=w.cs[c]:=by rw[List.getD_eq_getElem?_getD,W3 hc];rfl
  rw[e2,hW,List.getD_eq_getElem?_getD,W5,YP,if_neg (λh=>hne h.symm),W3 hc];rfl
theorem E9 {cs cs':List Cli} {b:Bk} (h:LI cs b) {j:Nat} (hj:j<cs.length) (hc:cs'.length=cs.length) (ho:∀c,c<cs.length->c≠j->(cs'.getD c default).log=(cs.getD c default).log) (hz:(cs'.getD j default).log=[]) (vs:List Verdict) (i:Int) :
  LI cs' (nV j vs b)/\ExtB i b (nV j vs b):=by
 have hat:=h.at_ j hj;have hm:=zR (K:=λk=>k∈b.logs.getD j []) (b.logs.getD j []) vs b.fates λ_ hk=>hk
 have aa:∀c,(nV j vs b).logs.getD c []=if c=j then [] else b.logs.getD c []:=λc=>by
  show (b.logs.set j []).getD c []=_
  rw[List.getD_eq_getElem?_getD,YP]
  by_cases e:j=c
  ·subst e;rw[if_pos rfl,if_pos (by rw[h.len];exact hj),if_pos rfl];rfl
  ·rw[if_neg e,if_neg (λh=>e h.symm),List.getD_eq_getElem?_getD]
 have hfl:(nV j vs b).fates.length=b.fates.length:=hm.len;refine ⟨⟨by show (b.logs.set j []).length=_;rw[YR,h.len,hc],λc hcl=>?_,λc hcl=>?_,λc hcl k hk=>?_⟩,⟨by rw[hfl];exact YA _,λk _=>⟨hm.step k,hm.client k⟩,λk hk hw=>hm.same k λhin=>hw (hat k hin).2.1,λk h1 h2=>by rw[hfl] at h2;omega⟩⟩
 ·rw[aa c]
  by_cases e:c=j
  ·rw[if_pos e,e,hz];rfl
  ·rw[if_neg e,ho c z8 e];exact h.each c z8
 ·rw[aa c]
  by_cases e:c=j
  ·rw[if_pos e];exact List.Pairwise.nil
  ·rw[if_neg e];exact h.nod c z8
 ·rw[aa c] at hk
  by_cases e:c=j
  ·rw[if_pos e] at hk;cases hk
  ·rw[if_neg e] at hk;have hk0:=h.at_ c z8 k hk;have hnk:k∉b.logs.getD j []:=by
    intro hin;have h1:=(hat k hin).2.2;rw[hk0.2.2] at h1;omega
   refine ⟨by rw[hfl];exact hk0.1,?_⟩
   show ((fP (b.logs.getD j []) vs b.fates).getD k default).whr=2/\((fP (b.logs.getD j []) vs b.fates).getD k default).client=(c:Int)
   rw[hm.same k hnk];exact hk0.2
theorem FK {cs cs':List Cli} {b:Bk} (h:LI cs b) (hc:cs'.length=cs.length) (ho:∀c,c<cs.length->(cs'.getD c default).log.length=(cs.getD c default).log.length) (i:Int) (ps:List Past):LI cs' (kn i ps b)/\ExtB i b (kn i ps b):=by
 have hl:∀k,k<b.fates.length->(kn i ps b).fates.getD k default=b.fates.getD k default:=λk hk=>nY hk
 refine ⟨⟨h.len.trans hc.symm,λc hcl=>(h.each c z8).trans (ho c z8).symm,λc hcl=>h.nod c z8,λc hcl k hk=>?_⟩,⟨?_,λk hk=>by rw[hl k hk];exact ⟨rfl,rfl⟩,λk hk _=>hl k hk,λk h1 h2=>?_⟩⟩
 ·have hk0:=h.at_ c z8 k hk;rw[hl k hk0.1];exact ⟨by show k<(b.fates++_).length;rw[List.length_append];omega,hk0.2⟩
 ·show b.fates.length<=(b.fates++_).length
  rw[List.length_append];omega
 ·show ((b.fates++ps.map λp=>(⟨i,p.client,p.act.kind,1⟩:Fate)).getD k default).step=i
  have h2:k<(b.fates++ps.map λp=>(⟨i,p.client,p.act.kind,1⟩:Fate)).length:=h2;rw[List.length_append,List.length_map] at h2;rw[mK h1,List.getD_eq_getElem?_getD,W5,W3 z8];rfl
theorem Iz {B T:Nat} {w:Wor} {b:Bk} (hw:WInv B T w) (hI:WId w) (h:LI w.cs b) (i:Nat) (x:Step):LI (ay w x).w.cs (dR w i x b)/\ExtB i b (dR w i x b):=by
 by_cases hx:x.client<0\/x.client≥w.cs.length
 ·have h1:ay w x=⟨w,cA 6⟩:=by unfold ay;rw[if_pos hx]
  have h2:dR w i x b=b:=by unfold dR;rw[if_pos hx]
  rw[h1,h2];exact ⟨h,ExtB.refl _ _⟩
 ·have hc:=yo hx;have hi:x.client.toNat<w.cs.length:=by omega
  have hJ:=(hI.step x).ids ((ay w x).w.cs.getD x.client.toNat default) (YG (by rw[hc.len];exact hi));have hIj:=hI.ids (w.cs.getD x.client.toNat default) (YG hi);have hu:=hw.at hi;have hlo:∀c,c<w.cs.length->c≠x.client.toNat->((ay w x).w.cs.getD c default).log=(w.cs.getD c default).log:=λc hcl hne=>by rw[hc.other c hcl hne,qt]
  unfold dR;rw[if_neg hx]
  by_cases h8:x.kind=8
  ·rw[if_pos h8];refine E9 h hi hc.len hlo ?_ _ i;rw[hc.at_,qt];unfold an;simp only[h8];rfl
  ·rw[if_neg h8]
   by_cases ha:(w.cs.getD x.client.toNat default).away=true
   ·rw[if_pos ha];refine DU h hi hc.len (λc hne=>?_) i hIj hJ ?_
    ·by_cases hcl:c<w.cs.length
     ·exact hlo c hcl hne
     ·rw[List.getD_eq_getElem?_getD,List.getD_eq_getElem?_getD,List.getElem?_eq_none (by rw[hc.len];omega),List.getElem?_eq_none z8]
    ·rw[hc.at_];exact (C8 ⟨w.cs.getD x.client.toNat default,w.s⟩ x).trans (zb _ _)
   ·have ha:(w.cs.getD x.client.toNat default).away=false:=by simpa using ha
    rw[if_neg (by rw[ha];simp)];refine FK h hc.len (λc hcl=>?_) i _
    by_cases e:c=x.client.toNat
    ·subst e;have h0:=(hu.cli.here ha).1;simp only at h0;rw[h0,hc.at_,qt]
     by_cases h7:x.kind=7
     ·unfold an;simp only[h7]
      show (w.cs.getD x.client.toNat default).log.length=0
      rw[h0];rfl
     ·have hst:=wQ ⟨w.cs.getD x.client.toNat default,w.s⟩ ha x h7;rw[((pW hu x).cli.here hst).1]
    ·rw[hlo c hcl e]
structure Kept2 (n:Nat) (b b':Bk):Prop where
 len:b.fates.length<=b'.fates.length
 old:∀k,k<b.fates.length->(b'.fates.getD k default).step=(b.fates.getD k default).step/\(b'.fates.getD k default).client=(b.fates.getD k default).client/\((b.fates.getD k default).whr≠2->b'.fates.getD k default=b.fates.getD k default)
 new:∀k,b.fates.length<=k->k<b'.fates.length->(n:Int)<=(b'.fates.getD k default).step
structure GoodK (B T:Nat) (g:GotK):Prop where
 w:WInv B T g.w
 ids:WId g.w
 li:LI g.w.cs g.b
theorem CO:∀(l:List Step) {B T:Nat} {g:GotK},GoodK B T g->GoodK (B+20*l.length) (T+300*l.length) (l.foldl (λg x=>(⟨(ay g.w x).w,dR g.w g.i x g.b,g.i+1⟩:GotK)) g)/\(l.foldl (λg x=>(⟨(ay g.w x).w,dR g.w g.i x g.b,g.i+1⟩:GotK)) g).i=g.i+l.length
 | [],_,_,_,h=>⟨h,rfl⟩
 | x::l,B,T,g,h=>by
  have:=CO l (B:=B+20) (T:=T+300) (g:=⟨(ay g.w x).w,dR g.w g.i x g.b,g.i+1⟩) ⟨k_ h.w x,h.ids.step x,(Iz h.w h.ids h.li g.i x).1⟩;rw[show B+20*(x::l).length=B+20+20*l.length by simp;omega,show T+300*(x::l).length=T+300+300*l.length by simp;omega];refine ⟨this.1,?_⟩;rw[List.foldl_cons,this.2,List.length_cons]
  show g.i+1+l.length=g.i+(l.length+1)
  omega
theorem Bj {rooms:List Int} (hr:bw rooms=0):GoodK 0 0 ⟨kp rooms,⟨[],List.replicate rooms.length []⟩,0⟩:=by
 have hcs:∀c,c∈(kp rooms).cs->c.log=[]/\IdI c:=λc hc=>by
  unfold kp iy at hc;obtain ⟨j,_,rfl⟩:=W8.1 hc;exact ⟨rfl,IdI.new _ _⟩
 have hlen:(kp rooms).cs.length=rooms.length:=by unfold kp iy;simp
 have hrep:∀c,(List.replicate rooms.length ([]:List Nat)).getD c []=[]:=λc=>by
  rw[List.getD_eq_getElem?_getD,Y0];split<;>rfl
 refine ⟨sJ hr,⟨λc hc=>(hcs c hc).2⟩,⟨by rw[hlen];simp,λc hc=>?_,λc hc=>?_,λc hc k hk=>?_⟩⟩
 ·show ((List.replicate rooms.length ([]:List Nat)).getD c []).length=_
  rw[hrep,(hcs _ (YG hc)).1];rfl
 ·show ((List.replicate rooms.length ([]:List Nat)).getD c []).Nodup
  rw[hrep];exact List.Pairwise.nil
 ·have hk:k∈(List.replicate rooms.length ([]:List Nat)).getD c []:=hk;rw[hrep] at hk;cases hk
noncomputable def dL (rooms:List Int) (l:List Step) (i:Nat):GotK:=ga rooms (l.take i)
theorem rr {rooms:List Int} {l:List Step} {i:Nat} (h:i<l.length):dL rooms l (i+1)=⟨(ay (dL rooms l i).w (l.getD i default)).w,dR (dL rooms l i).w (dL rooms l i).i (l.getD i default) (dL rooms l i).b,(dL rooms l i).i+1⟩:=by
 unfold dL ga;rw[ZT h,List.foldl_append];rfl
theorem rq {rooms:List Int} (hr:bw rooms=0) (l:List Step) (i:Nat) (hi:i<=l.length):GoodK (20*l.length) (300*l.length) (dL rooms l i)/\(dL rooms l i).i=i:=by
 have h:=CO (l.take i) (Bj hr);rw[YF,Yu hi] at h;obtain ⟨h1,h2⟩:=h;exact ⟨⟨⟨h1.w.srv.mono z8,λc hc=>(h1.w.cli c hc).mono z8 z8,h1.w.len⟩,h1.ids,h1.li⟩,h2.trans (Yd _)⟩
theorem FF {rooms:List Int} (l:List Step):(ga rooms l).w=mm rooms l:=by
 have key:∀(l:List Step) (g:GotK),(l.foldl (λg x=>(⟨(ay g.w x).w,dR g.w g.i x g.b,g.i+1⟩:GotK)) g).w=l.foldl (λw x=>(ay w x).w) g.w:=λl=>by
  induction l with
  | nil=>exact λ_=>rfl
  | cons x l ih=>exact λg=>ih _
 exact key l _
theorem My {w:Wor} {x:Step} (hx:¬(x.client<0\/x.client≥w.cs.length)):(ay w x).w.s=(an ⟨w.cs.getD x.client.toNat default,w.s⟩ x).u.s:=by unfold ay;rw[if_neg hx]
def K4 (w:Wor):Prop:=∀j,j<w.cs.length->(w.cs.getD j default).number=j
theorem K4.step {w:Wor} (h:K4 w) (x:Step):K4 (ay w x).w:=by
 by_cases hx:x.client<0\/x.client≥w.cs.length
 ·rw[show (ay w x).w=w by unfold ay;rw[if_pos hx]];exact h
 intro j hj;have hc:=yo hx;rw[hc.len] at hj;by_cases e:j=x.client.toNat
 ·subst e;rw[hc.at_,(zb _ _).num,(C8 _ _).num];exact h _ hj
 rw[hc.other j hj e,(zb _ _).num];exact h j hj
theorem Be {rooms:List Int} (l:List Step) (i:Nat):K4 (dL rooms l i).w:=by
 unfold dL;rw[FF];have key:∀(l:List Step) (w:Wor),K4 w->K4 (l.foldl (λw x=>(ay w x).w) w):=λl=>by
  induction l with
  | nil=>exact λ_ h=>h
  | cons x l ih=>exact λw h=>ih _ (h.step x)
 refine key _ _ λj hj=>?_
 unfold kp iy at hj ⊢;simp only[List.length_map,List.length_range] at hj;rw[List.getD_eq_getElem?_getD,W5,Yw hj];rfl
theorem Ds {B T:Nat} {w:Wor} {b:Bk} (hw:WInv B T w) (i:Nat) (x:Step):(dR w i x b).fates.length<=b.fates.length+(B+20):=by
 have hW:=k_ hw x;unfold dR;split
 ·omega
 ·rename_i hx;split
  ·show (fP _ _ b.fates).length<=_
   rw[qa];omega
  ·split
   ·unfold cL;simp only;rw[uf,List.length_append,qi,zZ];have h1:=(hw.cli (w.cs.getD x.client.toNat default) (YG z8)).logged;have h2:=(hW.cli ((ay w x).w.cs.getD x.client.toNat default) (YG (by rw[(yo hx).len];omega))).logged;omega
   ·unfold kn;simp only;rw[List.length_append,List.length_map,YZ];have:=hW.srv.len;omega
theorem tF {rooms:List Int} (hr:bw rooms=0) (l:List Step):∀i,i<=l.length->(dL rooms l i).b.fates.length<=i*(20*l.length+20)
 | 0,_=>by simp[dL,ga]
 | i+1,hi=>by
  rw[rr z8];have h:=tF hr l i z8;have h2:=Ds (rq hr l i z8).1.w (dL rooms l i).i (l.getD i default) (b:=(dL rooms l i).b);rw[Y5];simp only;omega
theorem xr {rooms:List Int} (hr:bw rooms=0) (l:List Step) (hl:l.length<=80) (i:Nat) (hi:i<=l.length):(dL rooms l i).b.fates.length<=129600:=by
 have h:=tF hr l i hi;have h2:i*(20*l.length+20)<=80*1620:=Nat.mul_le_mul z8 z8;omega
noncomputable def qn (rooms:List Int) (l:List Step):List Fate:=if mZ rooms l=0 then (ga rooms l).b.fates else []
end La
