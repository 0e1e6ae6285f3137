/- Texts of this claim, part 17: Make, Rise, Walk, Within, Apply, Rename, PBack. No condition. -/
import Derived.Test.YtmcfbfdonjllaaaGreatDoorZP16
set_option maxRecDepth 10000
set_option maxHeartbeats 4000000
set_option linter.unusedSimpArgs false
set_option linter.unusedVariables false
namespace La
open Go Go.Eng Go.Proofs Go.Proofs.Tryz
def bF (l:List Node) (a:Act):Int:=if eH l a.dir=0 then (match ba (ar l a.dir) a.name with
 | none=>6
 | some f=>if f=a.fid then 0 else 13) else eH l a.dir
theorem zV (l:List Node) (a:Act) (v:Int) (hl:Small l) (hname:a.name.length<=100000000) (G Y N:Nat->Nat):ai prog 178 [.ptr 15 9 0 0] (dH (ZD l a v) G Y N)
  (λr H=>r=.tup [.agg (ZN (ar l a.dir)),.int .i64 (bF l a)]/\∀i b,aa (dH (ZD l a v) G Y N) i=some b->aa H i=some b):=by
 have hsm:(ar l a.dir).Small:=hl.find a.dir;unfold bF;unfold dH;refine wS func178 ntmps178 results178 λC=>?_
 refine wGq ?_ ?_ k0
 ·simp[ZD]
 refine wP ?_ [15] func174 (hf:=Bc l a v a.dir hl);generalize hgn:ar l a.dir=n at hsm;generalize hge:eH l a.dir=e;refine wGq ?_ ?_ w5
 ·simp[ZN]
 refine wD (λh=>?_) (λh=>?_)
 ·have he:e≠0:=by simpa using h
  refine wGq ?_ ?_ w5
  ·simp[ZN]
  refine wU ?_ (c_ ?_ ?_)
  ·simp[ZN,he]
  ·simp[go_sem,ZD]
  ·simp[go_sem]
 have he:e=0:=by simpa using h
 subst he;refine wGS ?_;refine sNq 6 ?_ ?_ z6 z6 QP
 ·simp[ZN,ZD]
 refine sC ?_ func104 (hf:=kD n a.name hsm);cases hen:ba n a.name with
 | none=>
  simp only[eU];refine sG ?_;refine wX ?_;refine wGD (λh=>?_) (λh=>?_)
  ·refine wGq ?_ ?_ w5
   ·simp[ZN]
   refine wU ?_ (c_ ?_ ?_)
   ·simp[ZN]
   ·simp[go_sem,ZD]
   ·simp[go_sem]
  ·cases h
 | some f=>
  simp only[eU];refine sG ?_;refine wX ?_;refine wGD (λh=>?_) (λh=>?_)
  ·cases h
  refine wGq ?_ ?_ k0
  ·simp[ZD]
  refine wD (λh=>?_) (λh=>?_)
  ·have hf:¬f=a.fid:=by simpa using h
   refine wGq ?_ ?_ w5
   ·simp[ZN]
   refine wU ?_ (c_ ?_ ?_)
   ·simp[ZN,hf]
   ·simp[go_sem,ZD]
   ·simp[go_sem]
  ·have hf:f=a.fid:=by simpa using h
   refine wGq ?_ ?_ w5
   ·simp[ZN]
   refine wU ?_ (c_ ?_ ?_)
   ·simp[ZN,hf]
   ·simp[go_sem,ZD]
   ·simp[go_sem]
def cV (l:List Node) (a:Act):Int:=if eH l a.dir=0 then (if bX (ar l a.dir) a.name=0 then (if (bf l a.fid||a.fid==0)=true then 13 else if l.length≥24 then 5 else 0) else bX (ar l a.dir) a.name) else eH l a.dir
def dT (a:Act) (v:Int):Node:=⟨a.fid,a.kind==2,[],[],v⟩
def dU (l:List Node) (a:Act) (v:Int):List Node:=if cV l a=0 then aJ (aJ l { aB (ar l a.dir) a.name a.fid with version:=v }) (dT a v) else l
theorem I4 (l:List Node) (a:Act) (v:Int) (hl:Small l) (hlen:l.length<=99999990) (hent:∀n,n∈l->n.entries.length<=99999990) (hname:a.name.length<=100000000) (G Y N:Nat->Nat):ai prog 148 [.ptr 15 9 0 0] (dH (ZD l a v) G Y N)
  (λr H=>r=.int .i64 (cV l a)/\∀i b,aa (dH (ZD (dU l a v) a v) G Y N) i=some b->aa H i=some b):=by
 have hsm:(ar l a.dir).Small:=hl.find a.dir;have hen:(ar l a.dir).entries.length<=99999999:=by
  unfold ar;cases e:ak l a.dir with
  | none=>simp[aw]
  | some n=>have:=hent n (qo e);simp only[Option.getD_some];omega
 have hmE:dU l a v=if cV l a=0 then aJ (aJ l { aB (ar l a.dir) a.name a.fid with version:=v }) (dT a v) else l:=rfl;rw[hmE];unfold cV;unfold dH;refine wS func148 ntmps148 results148 λC=>?_
 refine wGq ?_ ?_ k0
 ·simp[ZD]
 refine wP ?_ [15] func174 (hf:=Bc l a v a.dir hl);have hee:=yR (ar l a.dir) a.name a.fid hsm;have hes:=pf hsm a.name a.fid hen;have hsv:({ aB (ar l a.dir) a.name a.fid with version:=v }:Node).Small:=⟨hes.data,hes.entries⟩;have hl1:=oI hl hsv z8;have hp1:=qQ l a v (aB (ar l a.dir) a.name a.fid) hl hes;have hp2:=qQ (aJ l { aB (ar l a.dir) a.name a.fid with version:=v }) a v (dT a 0) hl1 ⟨by simp[dT],by simp[dT]⟩;have hmv:({ dT a 0 with version:=v }:Node)=dT a v:=rfl;rw[hmv] at hp2;generalize aJ (aJ l { aB (ar l a.dir) a.name a.fid with version:=v }) (dT a v)=l2 at hp2;generalize aJ l { aB (ar l a.dir) a.name a.fid with version:=v }=l1 at hp1 hp2 hl1;have hp3:∀(G Y N:Nat->Nat),ai prog 176 [.ptr 15 9 0 0,.agg [.int .i64 a.fid,.bool (a.kind==2),.nils,.nils,.int .i64 0]] (dH (ZD l1 a v) G Y N) (λr H=>r=.tup []/\∀i b,aa (dH (ZD l2 a v) G Y N) i=some b->aa H i=some b):=λG Y N=>ai.nrm rfl (hp2 G Y N)
 generalize aB (ar l a.dir) a.name a.fid=en at hee hp1;generalize hgn:ar l a.dir=n at hsm hee;generalize hge:eH l a.dir=e;refine wGq ?_ ?_ w5
 ·simp[ZN]
 refine wD (λh=>?_) (λh=>?_)
 ·have he:e≠0:=by simpa using h
  refine wG ?_;refine wU ?_ (c_ ?_ ?_)
  ·simp[he]
  ·simp[go_sem,ZD,he]
  ·simp[go_sem]
 have he:e=0:=by simpa using h
 subst he;simp only[if_true];refine wGS ?_;refine sNq 6 ?_ ?_ z6 z6 QP
 ·simp[ZN,ZD]
 refine sC ?_ func175 (hf:=C5 n a.name hsm hname);generalize hre:bX n a.name=e2;refine sG ?_;refine wX ?_;refine wGD (λh=>?_) (λh=>?_)
 ·have he:e2≠0:=by simpa using h
  refine wG ?_;refine wU ?_ (c_ ?_ ?_)
  ·simp[he]
  ·simp[go_sem,ZD,he]
  ·simp[go_sem]
 have he:e2=0:=by simpa using h
 subst he;simp only[if_true];refine wGS ?_;refine sNq 9 ?_ ?_ z6 z6 k0
 ·simp[ZD]
 refine sC ?_ func82 (hf:=dD l a.fid hl);simp only[go_sem,fS];generalize (ak l a.fid).getD aw=x;generalize bf l a.fid=z;refine sG ?_;refine sW ?_;simp only[go_sem,ZN];refine sT ?_;refine sE ?_;refine dS ?_;refine wKn ?_;refine wR ?_;refine wN 1 ?_;refine wNm 44 λc44 h44=>?_
 subst h44;cases hz:(z||a.fid==0) with
 | true=>
  refine wNq 8 ?_ ?_ z6 z6 k0
  ·cases z<;>simp[ZD]
  have hb:(bif z then true else a.fid==0)=true:=by rw[<-hz];cases z<;>rfl
  simp only[go_sem,hb];refine wGD (λh=>?_) (λh=>?_)
  ·refine wG ?_;refine wU ?_ (c_ ?_ ?_)
   ·simp
   ·simp[go_sem,ZD]
   ·simp[go_sem]
  ·cases h
 | false=>
  refine wNq 8 ?_ ?_ z6 z6 k0
  ·cases z<;>simp[ZD]
  have hb:(bif z then true else a.fid==0)=false:=by rw[<-hz];cases z<;>rfl
  simp only[go_sem,hb];refine wGD (λh=>?_) (λh=>?_)
  ·cases h
  refine wGq ?_ ?_ k0
  ·simp[ZD]
  refine wD (λh=>?_) (λh=>?_)
  ·have h24:l.length≥24:=by simp at h;omega
   refine wG ?_;refine wU ?_ (c_ ?_ ?_)
   ·simp[h24]
   ·simp[go_sem,ZD,h24]
   ·simp[go_sem]
  have h24:¬l.length≥24:=by simp at h;omega
  simp only[h24,if_false,if_true];refine wGS ?_;refine sNq 12 ?_ ?_ z6 z6 QP
  ·simp[ZN,ZD]
  refine sC ?_ func177 (hf:=hee);refine sE ?_;refine ff rfl w9 rfl (wTP [15] func176 (hf:=hp1)) rfl ?_;refine wKn ?_;refine wGS ?_;refine sNq 12 ?_ ?_ z6 z6 QP
  ·simp[ZN,ZD]
  refine sB ?_;refine sE ?_;refine ff rfl w9 rfl (wTP [15] func176 (hf:=hp3)) rfl ?_;refine wKG ?_;refine wU ?_ (c_ ?_ ?_)
  ·simp
  ·simp[go_sem]
  ·simp[go_sem]
def cN (l:List Node) (a:Act):Int:=if bF l a=0 then (match ak l a.fid with
 | none=>12
 | some x=>if x.entries.length>0 then 10 else 0) else bF l a
def cO (l:List Node) (a:Act) (v:Int):List Node:=if cN l a=0 then eM (aJ l { aE (ar l a.dir) a.name with version:=v }) a.fid else l
theorem Eb (l:List Node) (a:Act) (v:Int) (hl:Small l) (hlen:l.length<=99999990) (hname:a.name.length<=100000000) (G Y N:Nat->Nat):ai prog 150 [.ptr 15 9 0 0] (dH (ZD l a v) G Y N)
  (λr H=>r=.int .i64 (cN l a)/\∀i b,aa (dH (ZD (cO l a v) a v) G Y N) i=some b->aa H i=some b):=by
 have hsm:(ar l a.dir).Small:=hl.find a.dir;have hmE:cO l a v=if cN l a=0 then eM (aJ l { aE (ar l a.dir) a.name with version:=v }) a.fid else l:=rfl;rw[hmE];unfold cN;unfold dH;refine wSG func150 ntmps150 results150 λC=>?_
 refine wP ?_ [15] func178 (hf:=zV l a v hl hname);have hee:=zH (ar l a.dir) a.name hsm;have hes:=px hsm a.name;have hsv:({ aE (ar l a.dir) a.name with version:=v }:Node).Small:=⟨hes.data,hes.entries⟩;have hl1:=oI hl hsv z8;have hp1:=qQ l a v (aE (ar l a.dir) a.name) hl hes;have hp2:=Iw (aJ l { aE (ar l a.dir) a.name with version:=v }) a.fid hl1;generalize eM (aJ l { aE (ar l a.dir) a.name with version:=v }) a.fid=l2 at hp2;generalize aJ l { aE (ar l a.dir) a.name with version:=v }=l1 at hp1 hp2 hl1;generalize aE (ar l a.dir) a.name=en at hee hp1;generalize hgn:ar l a.dir=n at hsm hee;generalize hge:bF l a=e;refine wGq ?_ ?_ w5
 ·simp[ZN]
 refine wD (λh=>?_) (λh=>?_)
 ·have he:e≠0:=by simpa using h
  refine wG ?_;refine wU ?_ (c_ ?_ ?_)
  ·simp[he]
  ·simp[go_sem,ZD,he]
  ·simp[go_sem]
 have he:e=0:=by simpa using h
 subst he;simp only[if_true];refine wGS ?_;refine sNq 9 ?_ ?_ z6 z6 k0
 ·simp[ZD]
 refine sC ?_ func82 (hf:=dD l a.fid hl);simp only[go_sem,fS];rw[cK];cases hfd:ak l a.fid with
 | none=>
  simp only[Option.getD_none,Option.isSome_none];refine sG ?_;refine sW ?_;simp only[go_sem,ZN,aw];refine sT ?_;refine sE ?_;refine dS ?_;refine wKn ?_;refine wGD (λh=>?_) (λh=>?_)
  ·refine wG ?_;refine wU ?_ (c_ ?_ ?_)
   ·simp
   ·simp[go_sem,ZD]
   ·simp[go_sem]
  ·cases h
 | some x=>
  simp only[Option.getD_some,Option.isSome_some];refine sG ?_;refine sW ?_;simp only[go_sem,ZN];refine sT ?_;refine sE ?_;refine dS ?_;refine wKn ?_;refine wGD (λh=>?_) (λh=>?_)
  ·cases h
  refine wGD (λh=>?_) (λh=>?_)
  ·have h0:x.entries.length>0:=by have h2:=of_decide_eq_true h;omega
   refine wG ?_;refine wU ?_ (c_ ?_ ?_)
   ·simp[h0]
   ·simp[go_sem,ZD,h0]
   ·simp[go_sem]
  have h0:¬x.entries.length>0:=by have h2:=of_decide_eq_false h;omega
  simp only[h0,if_false,if_true];refine wGS ?_;refine sNq 7 ?_ ?_ z6 z6 QP
  ·simp[ZN,ZD]
  refine sC ?_ func179 (hf:=hee);refine sE ?_;refine ff rfl w9 rfl (wTP [15] func176 (hf:=hp1)) rfl ?_;refine wKn ?_;refine wGS ?_;refine sNq 10 ?_ ?_ z6 z6 k0
  ·simp[ZD]
  refine sC ?_ func180 (hf:=hp2);refine sNq 2 ?_ ?_ z6 z6 k0
  ·simp[ZD]
  refine sE ?_;refine dSq ?_ ?_
  ·simp[go_sem,ZD]
  refine wKG ?_;refine wU ?_ (c_ ?_ ?_)
  ·simp
  ·simp[go_sem,ZD]
  ·simp[go_sem]
def e_ (l:List Node) (a:Act):Int:=match ak l a.fid with
 | none=>12
 | some n=>if n.dir then 9 else if a.data.length>20 then 4 else 0
def ez (l:List Node) (a:Act) (v:Int):List Node:=if e_ l a=0 then aJ l { ar l a.fid with data:=a.data,version:=v } else l
theorem G3 (l:List Node) (a:Act) (v:Int) (hl:Small l) (ha:a.data.length<=100000000) (G Y N:Nat->Nat):ai prog 149 [.ptr 15 9 0 0] (dH (ZD l a v) G Y N)
  (λr H=>r=.int .i64 (e_ l a)/\∀i b,aa (dH (ZD (ez l a v) a v) G Y N) i=some b->aa H i=some b):=by
 have hsm:(ar l a.fid).Small:=hl.find a.fid;have hmE:ez l a v=if e_ l a=0 then aJ l { ar l a.fid with data:=a.data,version:=v } else l:=rfl;rw[hmE];have hp1:=qQ l a v { ar l a.fid with data:=a.data } hl ⟨ha,hsm.entries⟩;have hlet:({ ({ ar l a.fid with data:=a.data }:Node) with version:=v }:Node)={ ar l a.fid with data:=a.data,version:=v }:=rfl;rw[hlet] at hp1;generalize aJ l { ar l a.fid with data:=a.data,version:=v }=l2 at hp1;unfold e_;unfold ar at hp1;unfold dH;refine wS func149 ntmps149 results149 λC=>?_
 refine wGS ?_;refine sNq 9 ?_ ?_ z6 z6 k0
 ·simp[ZD]
 refine sC ?_ func82 (hf:=dD l a.fid hl);simp only[go_sem,fS];rw[cK];cases hfd:ak l a.fid with
 | none=>
  simp only[Option.getD_none,Option.isSome_none];refine sG ?_;refine sW ?_;simp only[go_sem,ZN,aw];refine sT ?_;refine sE ?_;refine dS ?_;refine wKn ?_;refine wGD (λh=>?_) (λh=>?_)
  ·refine wG ?_;refine wU ?_ (c_ ?_ ?_)
   ·simp
   ·simp[go_sem,ZD]
   ·simp[go_sem]
  ·cases h
 | some x=>
  rw[hfd] at hp1;simp only[Option.getD_some,Option.isSome_some] at hp1 ⊢;refine sG ?_;refine sW ?_;simp only[go_sem,ZN];refine sT ?_;refine sE ?_;refine dS ?_;refine wKn ?_;refine wGD (λh=>?_) (λh=>?_)
  ·cases h
  refine wGD (λh=>?_) (λh=>?_)
  ·have h0:x.dir=true:=h;refine wG ?_;refine wU ?_ (c_ ?_ ?_)
   ·simp[h0]
   ·simp[go_sem,ZD,h0]
   ·simp[go_sem]
  have h0:x.dir=false:=h;refine wGq ?_ ?_ k0
  ·simp[ZD]
  refine wD (λh=>?_) (λh=>?_)
  ·have h1:a.data.length>20:=by simp at h;omega
   refine wG ?_;refine wU ?_ (c_ ?_ ?_)
   ·simp[h0,h1]
   ·simp[go_sem,ZD,h0,h1]
   ·simp[go_sem]
  have h1:¬a.data.length>20:=by simp at h;omega
  have hs0:(if x.dir=true then (9:Int) else if a.data.length>20 then 4 else 0)=0:=by simp[h0,h1]
  simp only[hs0,if_true];refine wGq ?_ ?_ k0
  ·simp[ZD]
  refine wP ?_ [15] func176 (hf:=hp1);refine wG ?_;refine wU ?_ (c_ ?_ ?_)
  ·simp
  ·simp[go_sem,ZD]
  ·simp[go_sem]
def gO (v:Bool):List Node->List Node->Bool
 | [],[]=>true
 | x::a,y::b=>dg v x y&&gO v a b
 | _,_=>false
theorem kY (v:Bool):∀(a b:List Node),gO v a b=true↔a.length=b.length/\∀j,j<a.length->dg v (a.getD j default) (b.getD j default)=true
 | [],[]=>by simp[gO]
 | [],_::_=>by simp[gO]
 | _::_,[]=>by simp[gO]
 | x::a,y::b=>by
  rw[gO,Bool.and_eq_true,kY v a b];constructor
  ·rintro ⟨h1,h2,h3⟩;refine ⟨by simp[h2],λj hj=>?_⟩;cases j with
   | zero=>simpa using h1
   | succ j=>simpa using h3 j QQ
  ·rintro ⟨h2,h3⟩;refine ⟨by simpa using h3 0 w8,by simpa using h2,λj hj=>by simpa using h3 (j+1) QQ⟩
theorem Gk:Fo 52 [] (.sl [[.int .i64 0,.bool true,.nils,.nils,.int .i64 0]]):=by
 refine wSG func52 ntmps52 results52 λC=>?_
 refine ZZ 2 rfl (rfl) (wn ?_);refine wT ?_;rfl
def ma (l:List Node) (j:Nat):Bool:=j==0||decide ((l.getD (j-1) default).fid<(l.getD j default).fid)
def iF (es:List Entry) (k:Nat):Bool:=k==0||decide ((es.getD (k-1) default).name<(es.getD k default).name)
def gz (l:List Node) (j:Nat):Bool:=ma l j&&(List.range (l.getD j default).entries.length).all (iF (l.getD j default).entries)
def oM (l:List Node):Bool:=(List.range l.length).all (gz l)
theorem K7 {l:List Node} (h:∀j,j<l.length->ma l j=true):Up l:=by
 refine Yr.2 λi j hi hj hij=>?_
 have key:∀d,∀(h:i+d+1<l.length),(l.getD i default).fid<(l.getD (i+d+1) default).fid:=λd=>by
  induction d with
  | zero=>
   intro hlt;have:=h (i+1) hlt;simp only[ma,Yy,Bool.or_eq_true,beq_iff_eq,decide_eq_true_eq] at this
   rcases this with h0 | h0
   ·omega
   ·exact h0
  | succ d ih=>
   intro hlt;have h1:=ih z8;have:=h (i+(d+1)+1) hlt;simp only[ma,Yy,Bool.or_eq_true,beq_iff_eq,decide_eq_true_eq] at this
   rcases this with h0 | h0
   ·omega
   ·exact Int.lt_trans h1 h0
 obtain ⟨d,rfl⟩:∃d,j=i+d+1:=⟨j-i-1,by omega⟩;have:=key d hj;rw[List.getD_eq_getElem?_getD,List.getD_eq_getElem?_getD,W3 hi,W3 hj] at this;exact this
theorem H_ {l:List Entry} (h:∀j,j<l.length->iF l j=true):EUp l:=by
 refine Yr.2 λi j hi hj hij=>?_
 have key:∀d,∀(h:i+d+1<l.length),(l.getD i default).name<(l.getD (i+d+1) default).name:=λd=>by
  induction d with
  | zero=>
   intro hlt;have:=h (i+1) hlt;simp only[iF,Yy,Bool.or_eq_true,beq_iff_eq,decide_eq_true_eq] at this
   rcases this with h0 | h0
   ·omega
   ·exact h0
  | succ d ih=>
   intro hlt;have h1:=ih z8;have:=h (i+(d+1)+1) hlt;simp only[iF,Yy,Bool.or_eq_true,beq_iff_eq,decide_eq_true_eq] at this
   rcases this with h0 | h0
   ·omega
   ·exact uG h1 h0
 obtain ⟨d,rfl⟩:∃d,j=i+d+1:=⟨j-i-1,by omega⟩;have:=key d hj;rw[List.getD_eq_getElem?_getD,List.getD_eq_getElem?_getD,W3 hi,W3 hj] at this;exact this
theorem B1 (l:List Node):oM l=true↔Up l/\∀n,n∈l->EUp n.entries:=by
 unfold oM;rw[List.all_eq_true];constructor
 ·intro h;refine ⟨K7 λj hj=>?_,λn hn=>?_⟩
  ·have:=h j (Ya.2 hj);unfold gz at this;exact (Bool.and_eq_true_iff.1 this).1
  ·obtain ⟨j,hj⟩:=YC hn;have hjl:=(W9.1 hj).1;have:=h j (Ya.2 hjl);unfold gz at this;rw[jW hj] at this;exact H_ λk hk=>List.all_eq_true.1 (Bool.and_eq_true_iff.1 this).2 k (Ya.2 hk)
 ·rintro ⟨h1,h2⟩ j hj;have hjl:=Ya.1 hj;unfold gz;rw[Bool.and_eq_true];refine ⟨?_,List.all_eq_true.2 λk hk=>?_⟩
  ·unfold ma;cases j with
   | zero=>rfl
   | succ j=>simp only[Bool.or_eq_true,decide_eq_true_eq];exact .inr (h1.lt z8 hjl)
  ·unfold iF;cases k with
   | zero=>rfl
   | succ k=>simp only[Bool.or_eq_true,decide_eq_true_eq];exact .inr ((h2 _ (YG hjl)).lt z8 (Ya.1 hk))
theorem qU {l:List Node} {j:Nat} (hj:j<l.length) (h:gz l j=false):oM l=false:=by
 cases e:oM l with
 | false=>rfl
 | true=>
  unfold oM at e;rw[List.all_eq_true.1 e j (Ya.2 hj)] at h;cases h
theorem GK (l:List Node) (hl:Small l):Fo 51 [.sl (l.map ZN)] (.bool (oM l)):=by
 have hlen:=hl.len;refine wSG func51 ntmps51 results51 λC=>?_
 refine ZL (λi:Nat=>i<=l.length/\∀j,j<i->gz l j=true) (λi=>l.length-i) (λi=>(3,.any)::(4,.any)::(5,.any)::(8,.int .i64 i)::u0 9 43 []) (λ_=>[]) 0 ⟨by omega,by omega⟩ ?_ λi hi=>?_
 ·exact wZ
 obtain ⟨hi,hs⟩:=hi;simp only[go_sem];refine wGD (λh=>?_) (λh=>?_)
 ·have hlt:=lt1 h;have hg:=Fam.getD (f:=ZN) hlt;have hen:=(hl.each _ (YG hlt)).entries;have hsB:i≠0->ma l i=decide ((l.getD (i-1) default).fid<(l.getD i default).fid):=λh0=>by simp[ma,h0]
  have hno:ma l i=false->gz l i=false:=λh0=>by unfold gz;rw[h0];rfl
  generalize hxd:l.getD i default=x at hg hen hsB;refine wGq ?_ ?_ x8
  ·simp[hg,ZN,hlt]
  refine ZZ 4 rfl (rfl) (wn ?_)
  by_cases hi0:i=0
  ·subst hi0;have hst:ma l 0=true:=rfl;refine wO ?_;refine sN 3 ?_;refine sS ?_;refine sS ?_;refine sS ?_;refine sS ?_;refine sS ?_;refine sS ?_;refine sS ?_;refine sS ?_;refine sSB ?_;refine sN 1 ?_;refine sE ?_;refine wKd ?_;refine wFG ?_ (hb:=w8);refine ZL (λk:Nat=>k<=x.entries.length/\∀j,j<k->iF x.entries j=true) (λk=>x.entries.length-k) (λk=>(5,.any)::(29,.int .i64 k)::u0 30 20 []) (λ_=>[]) 0 ⟨by omega,by omega⟩ ?_ λk hk=>?_
   ·exact wZ
   obtain ⟨hk,hks⟩:=hk;simp only[go_sem];refine wGD (λh=>?_) (λh=>?_)
   ·have hklt:=lt1 h;have hgk:=Fam.getD (f:=ZE) hklt;have hwk:IntKind.i64.wrap ((k:Int)+1)=((k+1:Nat):Int):=by rw[Eng.wrap_small z8 z8];rfl
    refine wG ?_
    by_cases hk0:k=0
    ·subst hk0;have he:iF x.entries 0=true:=rfl;refine wO ?_;refine sN 3 ?_;refine sS ?_;refine sS ?_;refine sS ?_;refine sS ?_;refine sS ?_;refine sS ?_;refine sS ?_;refine sS ?_;refine sS ?_;refine sS ?_;refine sS ?_;refine sS ?_;refine sS ?_;refine sSB ?_;refine sN 1 ?_;refine sE ?_;refine wKd ?_;refine wDF ?_ (hb:=w8);refine wG ?_ QJ Zk;refine ZB ⟨1,⟨by omega,λj hj=>by rw[show j=0 by omega];exact he⟩,by omega,ZU ?_ ?_ ?_⟩
     ·simp[go_sem,hwk]
     ·simp[go_sem]
     ·simp[go_sem]
    ·have hwm:IntKind.i64.wrap ((k:Int)-1)=((k-1:Nat):Int):=by rw[Eng.wrap_small z8 z8];omega
     have hgm:(x.entries.map ZE).getD (k-1) []=ZE (x.entries.getD (k-1) default):=Fam.getD z8;have heB:iF x.entries k=decide ((x.entries.getD (k-1) default).name<(x.entries.getD k default).name):=by
      simp[iF,hk0]
     have hyes:iF x.entries k=true->∀j,j<k+1->iF x.entries j=true:=λh0 j hj=>by
      rcases Nat.lt_succ_iff_lt_or_eq.1 hj with h1 | rfl
      ·exact hks j h1
      ·exact h0
     have hno:iF x.entries k=false->gz l 0=false:=λh0=>by
      cases e:gz l 0 with
      | false=>rfl
      | true=>
       unfold gz at e;rw[hxd] at e;rw[List.all_eq_true.1 (Bool.and_eq_true_iff.1 e).2 k (Ya.2 hklt)] at h0;cases h0
     generalize x.entries.getD k default=u at hgk heB;generalize x.entries.getD (k-1) default=v at hgm heB;refine wO ?_;refine sN 2 ?_;refine dh 33 z6 (λc33 h33=>?_);simp only[go_sem];have hc:c33=true:=by rw[<-h33];simp;omega
     subst hc;refine sNq 16 ?_ ?_ z6 z6 WM
     ·simp[hwm,hgk,hgm,ZE];omega
     refine sE ?_;refine wKd ?_;have hb:(!Op.bytesLess v.name u.name)=!iF x.entries k:=by rw[eR,heB]
     simp only[go_sem,hwm,hb];refine wD (λh=>?_) (λh=>?_)
     ·have h0:iF x.entries k=false:=by simpa using h
      have:=qU hlt (hno h0);refine wGT ?_;simp[this]
     ·have h0:iF x.entries k=true:=by simpa using h
      refine wG ?_ QJ Zk;refine ZB ⟨k+1,⟨by omega,hyes h0⟩,by omega,ZU ?_ ?_ ?_⟩
      ·simp[go_sem,hwk]
      ·simp[go_sem]
      ·simp[go_sem]
   ·have e:k=x.entries.length:=by simp at h;omega
    have hnB:gz l 0=true:=by
     unfold gz;rw[hxd,hst,Y3];exact List.all_eq_true.2 λj hj=>hks j (by rw[e];exact Ya.1 hj)
    have hw:IntKind.i64.wrap (((0:Nat):Int)+1)=((0+1:Nat):Int):=by rw[Eng.wrap_small z8 z8];rfl
    refine wG ?_ w4 y7;refine ZB ⟨0+1,⟨by omega,λj hj=>?_⟩,by omega,ZU ?_ ?_ ?_⟩
    ·rcases Nat.lt_succ_iff_lt_or_eq.1 hj with h1 | rfl
     ·exact hs j h1
     ·exact hnB
    ·first | (simp[go_sem,hw];done) | (simp[go_sem];rfl)
    ·simp[go_sem]
    ·simp[go_sem]
  ·have hwm:IntKind.i64.wrap ((i:Int)-1)=((i-1:Nat):Int):=by rw[Eng.wrap_small z8 z8];omega
   have hgm:(l.map ZN).getD (i-1) []=ZN (l.getD (i-1) default):=Fam.getD z8;have hsB:=hsB hi0;generalize l.getD (i-1) default=y at hgm hsB;refine wO ?_;refine sN 2 ?_;refine dh 14 z6 (λc14 h14=>?_);simp only[go_sem];have hc:c14=true:=by rw[<-h14];simp;omega
   subst hc;refine sNq 11 ?_ ?_ z6 z6 (by simp only[go_sem,hwm,hgm,ZN];try exact rfl)
   ·simp[hwm,hgm,ZN];omega
   refine sE ?_;refine wKd ?_;have hb:decide (y.fid≥x.fid)=!ma l i:=by
    rw[hsB,Yv];simp
   simp only[go_sem,hwm,hb];refine wD (λh=>?_) (λh=>?_)
   ·have h0:ma l i=false:=by simpa using h
    have:=qU hlt (hno h0);refine wGT ?_;simp[this]
   ·have hst:ma l i=true:=by simpa using h
    clear h14;refine wG ?_;refine ZL (λk:Nat=>k<=x.entries.length/\∀j,j<k->iF x.entries j=true) (λk=>x.entries.length-k) (λk=>(5,.any)::(29,.int .i64 k)::u0 30 20 []) (λ_=>[]) 0 ⟨by omega,by omega⟩ ?_ λk hk=>?_
    ·exact wZ
    obtain ⟨hk,hks⟩:=hk;simp only[go_sem];refine wGD (λh=>?_) (λh=>?_)
    ·have hklt:=lt1 h;have hgk:=Fam.getD (f:=ZE) hklt;have hwk:IntKind.i64.wrap ((k:Int)+1)=((k+1:Nat):Int):=by rw[Eng.wrap_small z8 z8];rfl
     refine wG ?_
     by_cases hk0:k=0
     ·subst hk0;have he:iF x.entries 0=true:=rfl;refine wO ?_;refine sN 3 ?_;refine sS ?_;refine sS ?_;refine sS ?_;refine sS ?_;refine sS ?_;refine sS ?_;refine sS ?_;refine sS ?_;refine sS ?_;refine sS ?_;refine sS ?_;refine sS ?_;refine sS ?_;refine sSB ?_;refine sN 1 ?_;refine sE ?_;refine wKd ?_;refine wDF ?_ (hb:=w8);refine wG ?_ QJ Zk;refine ZB ⟨1,⟨by omega,λj hj=>by rw[show j=0 by omega];exact he⟩,by omega,ZU ?_ ?_ ?_⟩
      ·simp[go_sem,hwk]
      ·simp[go_sem]
      ·simp[go_sem]
     ·have hwm:IntKind.i64.wrap ((k:Int)-1)=((k-1:Nat):Int):=by rw[Eng.wrap_small z8 z8];omega
      have hgm:(x.entries.map ZE).getD (k-1) []=ZE (x.entries.getD (k-1) default):=Fam.getD z8;have heB:iF x.entries k=decide ((x.entries.getD (k-1) default).name<(x.entries.getD k default).name):=by
       simp[iF,hk0]
      have hyes:iF x.entries k=true->∀j,j<k+1->iF x.entries j=true:=λh0 j hj=>by
       rcases Nat.lt_succ_iff_lt_or_eq.1 hj with h1 | rfl
       ·exact hks j h1
       ·exact h0
      have hno:iF x.entries k=false->gz l i=false:=λh0=>by
       cases e:gz l i with
       | false=>rfl
       | true=>
        unfold gz at e;rw[hxd] at e;rw[List.all_eq_true.1 (Bool.and_eq_true_iff.1 e).2 k (Ya.2 hklt)] at h0;cases h0
      generalize x.entries.getD k default=u at hgk heB;generalize x.entries.getD (k-1) default=v at hgm heB;refine wO ?_;refine sN 2 ?_;refine dh 33 z6 (λc33 h33=>?_);simp only[go_sem];have hc:c33=true:=by rw[<-h33];simp;omega
      subst hc;refine sNq 16 ?_ ?_ z6 z6 WM
      ·simp[hwm,hgk,hgm,ZE];omega
      refine sE ?_;refine wKd ?_;have hb:(!Op.bytesLess v.name u.name)=!iF x.entries k:=by rw[eR,heB]
      simp only[go_sem,hwm,hb];refine wD (λh=>?_) (λh=>?_)
      ·have h0:iF x.entries k=false:=by simpa using h
       have:=qU hlt (hno h0);refine wGT ?_;simp[this]
      ·have h0:iF x.entries k=true:=by simpa using h
       refine wG ?_ QJ Zk;refine ZB ⟨k+1,⟨by omega,hyes h0⟩,by omega,ZU ?_ ?_ ?_⟩
       ·simp[go_sem,hwk]
       ·simp[go_sem]
       ·simp[go_sem]
    ·have e:k=x.entries.length:=by simp at h;omega
     have hnB:gz l i=true:=by
      unfold gz;rw[hxd,hst,Y3];exact List.all_eq_true.2 λj hj=>hks j (by rw[e];exact Ya.1 hj)
     have hw:IntKind.i64.wrap (((i:Nat):Int)+1)=((i+1:Nat):Int):=by rw[Eng.wrap_small z8 z8];rfl
     refine wG ?_ w4 y7;refine ZB ⟨i+1,⟨by omega,λj hj=>?_⟩,by omega,ZU ?_ ?_ ?_⟩
     ·rcases Nat.lt_succ_iff_lt_or_eq.1 hj with h1 | rfl
      ·exact hs j h1
      ·exact hnB
     ·first | (simp[go_sem,hw];done) | (simp[go_sem];rfl)
     ·simp[go_sem]
     ·simp[go_sem]
 ·obtain rfl:=eq1 hi h;have:oM l=true:=List.all_eq_true.2 λj hj=>hs j (Ya.1 hj)
  refine wGT ?_;simp[this]
def br (l:List Node) (fid:Int):Nat->Int->Option Bool
 | 0,_=>none
 | f+1,k=>if fid=k then some true else match ak l k with
  | none=>some false
  | some n=>if n.entries.all (λe=>decide (e.fid=k)||(br l fid f e.fid).isSome) then some (n.entries.any λe=>!(decide (e.fid=k))&&(br l fid f e.fid).getD false) else none
theorem AW (l:List Node) (fid k:Int) (e:Entry) (b:Bool) (h:e.fid≠k->Fo 181 [.sl (l.map ZN),.int .i64 fid,.int .i64 e.fid] (.bool b)) :
  Fo 215 [.agg (ZE e),.rp [.int .i64 k] 0,.rp [.sl (l.map ZN)] 0,.rp [.int .i64 fid] 0] (.bool (!(decide (e.fid=k))&&b)):=by
 unfold ZE;refine wS func215 ntmps215 results215 λC=>?_
 refine wR ?_;refine wN 2 ?_;refine wR ?_;refine ZZ 4 rfl (rfl) (wn ?_);refine wN 4 ?_;refine wNm 9 λc9 h9=>?_
 cases c9 with
 | true=>
  have hne:e.fid≠k:=by simpa using h9
  refine wG ?_;refine wCC ?_ func181 (hf:=λhb=>(h hne));refine wGT ?_;simp[hne]
 | false=>
  have hne:e.fid=k:=by simpa using h9
  refine wG ?_;refine fD (.bool false) rfl ?_;simp only[go_sem];refine wGT ?_;simp[hne]
theorem AX (l:List Node) (hl:Small l) (fid:Int) (f:Nat) (ih:∀(k:Int) (b:Bool),br l fid f k=some b->Fo 181 [.sl (l.map ZN),.int .i64 fid,.int .i64 k] (.bool b)) (k:Int) (b:Bool) (hb:br l fid (f+1) k=some b) :
  Fo 181 [.sl (l.map ZN),.int .i64 fid,.int .i64 k] (.bool b):=by
 unfold br at hb;refine wS func181 ntmps181 results181 λC=>?_
 refine wGD (λh=>?_) (λh=>?_)
 ·have e:fid=k:=by simpa using h
  rw[if_pos e] at hb;refine wGT ?_;simpa using hb
 have e:¬fid=k:=by simpa using h
 rw[if_neg e] at hb;refine ZZ 3 rfl (rfl) ?_;refine ZZ 4 rfl (rfl) ?_;refine ZZ 5 rfl (rfl) (wn ?_);refine wG ?_;refine wC ?_ func82 (hf:=dD l k hl);have hsm:=hl.find k;simp only[go_sem,fS];rw[cK];generalize hfd:ak l k=o at hb hsm;cases o with
 | none=>
  simp only[Option.getD_none,Option.isSome_none] at hb ⊢;refine wGq ?_ ?_ QO
  ·simp[ZN]
  refine wD (λh=>?_) (λh=>?_)
  ·refine wGT ?_;simpa using hb
  ·cases h
 | some n=>
  simp only[Option.getD_some,Option.isSome_some] at hb hsm ⊢;split at hb
  ·rename_i hall;injection hb with hb
   have hcl:=oo n.entries hsm.entries (f:=215) (caps:=[.rp [.int .i64 k] 0,.rp [.sl (l.map ZN)] 0,.rp [.int .i64 fid] 0]) (p:=λe=>!(decide (e.fid=k))&&(br l fid f e.fid).getD false) ⟨_,Go.Proofs.Tryz.func215,by kernel_rfl,rfl⟩ rfl (λx hx=>AW l fid k x ((br l fid f x.fid).getD false) (λhne=>by
    have h1:=List.all_eq_true.1 hall x hx;simp only[hne,decide_false,Yz] at h1;cases h2:br l fid f x.fid with
    | none=>rw[h2] at h1;cases h1
    | some c=>exact ih x.fid c h2))
   refine wGq ?_ ?_ w5
   ·simp[ZN]
   refine wD (λh=>?_) (λh=>?_)
   ·cases h
   refine wGq ?_ ?_ w5
   ·simp[ZN]
   refine wC ?_ func214 (hf:=hcl);refine wGT ?_;simpa using hb
  ·cases hb
theorem xb (l:List Node) (hl:Small l) (fid:Int):∀(f:Nat) (k:Int) (b:Bool),br l fid f k=some b->Fo 181 [.sl (l.map ZN),.int .i64 fid,.int .i64 k] (.bool b)
 | 0,_,_,h=>by cases h
 | f+1,k,b,h=>AX l hl fid f (xb l hl fid f) k b h
theorem Ev (a b:Node) (ha:a.Small) (hb:b.Small):Fo 122 [.agg (ZN a),.agg (ZN b)] (.bool (dg false a b)):=by
 have hla:=ha.entries;have hlb:=hb.entries;unfold ZN;refine wS func122 ntmps122 results122 λC=>?_
 refine wR ?_;refine wN 3 ?_;refine wR ?_;refine ZZ 2 rfl (rfl) ?_;refine ZZ 3 rfl (rfl) (wn ?_);refine wN 5 ?_;refine wNm 9 λc9 h9=>?_
 refine wN 7 ?_;refine wNm 16 λc16 h16=>?_
 refine wN 5 ?_;refine wCC ?_ func123 (hf:=λhb=>(u_ a.data b.data));refine wN 1 ?_;refine wNm 23 λc23 h23=>?_
 refine wN 5 ?_;refine wCC ?_ func124 (hf:=λhb=>(r_ a.entries b.entries hla hlb));refine wGT ?_;subst h23 h16 h9;unfold dg;cases (a.fid==b.fid)<;>cases (a.dir==b.dir)<;>cases (a.data==b.data)<;>cases decide (a.entries=b.entries)<;>rfl
end La
namespace La
open Go Go.Eng Go.Proofs Go.Proofs.Tryz
open Classical in
noncomputable def kj (l:List Node) (fid k:Int):Bool:=decide (∃f,br l fid f k=some true)
def toN (l:List Node) (a:Act):Node:=if a.to=a.dir then aE (ar l a.dir) a.name else ar l a.to
noncomputable def du (l:List Node) (a:Act):Int:=if bF l a=0 then (if eH l a.to=0 then (if bX (toN l a) a.toName=0 then (if bf l a.fid=true then (if kj l a.to a.fid=true then 11 else 0) else 12) else bX (toN l a) a.toName) else eH l a.to) else bF l a
noncomputable def dj (l:List Node) (a:Act) (v:Int):List Node:=if du l a=0 then aJ (if a.to=a.dir then l else aJ l { aE (ar l a.dir) a.name with version:=v }) { aB (toN l a) a.toName a.fid with version:=v } else l
noncomputable def aG (l:List Node) (a:Act):Int:=if a.kind=1 then cV l a else if a.kind=2 then cV l a else if a.kind=3 then e_ l a else if a.kind=4 then cN l a else if a.kind=5 then du l a else 1
noncomputable def aK (l:List Node) (a:Act) (v:Int):List Node:=if a.kind=1 then dU l a v else if a.kind=2 then dU l a v else if a.kind=3 then ez l a v else if a.kind=4 then cO l a v else if a.kind=5 then dj l a v else l
noncomputable def oh (l:List Node) (a:Act) (v:Int):AV:=if aG l a=0 then .tup [.sl ((aK l a v).map ZN),.int .i64 0] else .tup [.sl [],.int .i64 (aG l a)]
structure FitA (l:List Node) (a:Act):Prop where
 small:Small l
 len:l.length<=99999990
 ent:∀n,n∈l->n.entries.length<=99999990
 name:a.name.length<=100000000
 toName:a.toName.length<=100000000
 data:a.data.length<=100000000
theorem Df (l:List Node) (a:Act) (v:Int) (hf:FitA l a)
  (hren:a.kind=5->∀(G Y N:Nat->Nat),ai prog 151 [.ptr 15 9 0 0] (dH (ZD l a v) G Y N) (λr H=>r=.int .i64 (du l a)/\∀i b,aa (dH (ZD (dj l a v) a v) G Y N) i=some b->aa H i=some b)) :
  Fo 109 [.sl (l.map ZN),.agg (ZA a),.int .i64 v] (if aG l a=0 then .tup [.sl ((aK l a v).map ZN),.int .i64 0] else .tup [.nils,.int .i64 (aG l a)]):=by
 have hl:=hf.small;have c1:=I4 l a v hl hf.len hf.ent hf.name;have c3:=G3 l a v hl hf.data;have c4:=Eb l a v hl hf.len hf.name;generalize hE:aG l a=e;generalize hL:aK l a v=L;refine wS func109 ntmps109 results109 λC=>?_
 refine wGq ?_ ?_ QX
 ·simp
 refine ZZ 4 rfl (rfl) (wn ?_);refine wO ?_;refine sG ?_;refine sC ?_ func66 (hf:=lI l hl);refine sN 2 ?_ z6 z6 QX (by simp[go_sem,ZA]);refine sB ?_;refine sW ?_;refine sE ?_;refine dS ?_;refine wKn ?_;refine wGD (λh=>?_) (λh=>?_)
 ·have hk:a.kind=1:=by simpa using h
  have q1:cV l a=e:=by rw[<-hE];simp[aG,hk]
  have q2:dU l a v=L:=by rw[<-hL];simp[aK,hk]
  rw[q1,q2] at c1;refine EX ?_ (hb:=QM);refine wP ?_ [15] func148 (hf:=c1);refine wGD (λh=>?_) (λh=>?_)
  ·have he:e≠0:=by simpa using h
   refine wGT ?_;simp[he]
  ·have he:e=0:=by simpa using h
   refine wGq ?_ ?_ k0
   ·simp[ZD]
   refine wT ?_;simp[he]
 have hk1:¬a.kind=1:=by simpa using h
 refine wG ?_
 by_cases hk2:a.kind=2
 ·have hk:a.kind=2:=hk2;have q1:cV l a=e:=by rw[<-hE];simp[aG,hk]
  have q2:dU l a v=L:=by rw[<-hL];simp[aK,hk]
  rw[q1,q2] at c1;refine wTG ?_ (hb:=QM);refine wP ?_ [15] func148 (hf:=c1);refine wGD (λh=>?_) (λh=>?_)
  ·have he:e≠0:=by simpa using h
   refine wGT ?_;simp[he]
  ·have he:e=0:=by simpa using h
   refine wGq ?_ ?_ k0
   ·simp[ZD]
   refine wT ?_;simp[he]
 refine wDF ?_ (hb:=by simpa using hk2);refine wGD (λh=>?_) (λh=>?_)
 ·have hk:a.kind=3:=by simpa using h
  have q1:e_ l a=e:=by rw[<-hE];simp[aG,hk]
  have q2:ez l a v=L:=by rw[<-hL];simp[aK,hk]
  rw[q1,q2] at c3;refine wG ?_;refine wP ?_ [15] func149 (hf:=c3);refine wGD (λh=>?_) (λh=>?_)
  ·have he:e≠0:=by simpa using h
   refine wGT ?_;simp[he]
  ·have he:e=0:=by simpa using h
   refine wGq ?_ ?_ k0
   ·simp[ZD]
   refine wT ?_;simp[he]
 have hk3:¬a.kind=3:=by simpa using h
 refine wGD (λh=>?_) (λh=>?_)
 ·have hk:a.kind=4:=by simpa using h
  have q1:cN l a=e:=by rw[<-hE];simp[aG,hk]
  have q2:cO l a v=L:=by rw[<-hL];simp[aK,hk]
  rw[q1,q2] at c4;refine wG ?_;refine wP ?_ [15] func150 (hf:=c4);refine wGD (λh=>?_) (λh=>?_)
  ·have he:e≠0:=by simpa using h
   refine wGT ?_;simp[he]
  ·have he:e=0:=by simpa using h
   refine wGq ?_ ?_ k0
   ·simp[ZD]
   refine wT ?_;simp[he]
 have hk4:¬a.kind=4:=by simpa using h
 refine wGD (λh=>?_) (λh=>?_)
 ·have hk:a.kind=5:=by simpa using h
  have c5:=hren hk;have q1:du l a=e:=by rw[<-hE];simp[aG,hk]
  have q2:dj l a v=L:=by rw[<-hL];simp[aK,hk]
  rw[q1,q2] at c5;refine wG ?_;refine wP ?_ [15] func151 (hf:=c5);refine wGD (λh=>?_) (λh=>?_)
  ·have he:e≠0:=by simpa using h
   refine wGT ?_;simp[he]
  ·have he:e=0:=by simpa using h
   refine wGq ?_ ?_ k0
   ·simp[ZD]
   refine wT ?_;simp[he]
 have hk5:¬a.kind=5:=by simpa using h
 have q1:e=1:=by rw[<-hE];simp[aG,hk1,hk2,hk3,hk4,hk5]
 subst q1;refine wG ?_;refine wDT ?_ (hb:=w8);refine wGT ?_;simp
theorem E8 (l:List Node) (a:Act) (v:Int) (hf:FitA l a)
  (hren:a.kind=5->∀(G Y N:Nat->Nat),ai prog 151 [.ptr 15 9 0 0] (dH (ZD l a v) G Y N) (λr H=>r=.int .i64 (du l a)/\∀i b,aa (dH (ZD (dj l a v) a v) G Y N) i=some b->aa H i=some b)) :
  Fo 109 [.sl (l.map ZN),.agg (ZA a),.int .i64 v] (oh l a v):=by
 refine ai.iZ (Df l a v hf hren) ?_;unfold oh;split
 ·have h1:iZ ((aK l a v).map ZN)=(aK l a v).map ZN:=by
   rw[dO,Yi];exact Ym λn _=>rM n
  simp only[nrm,fo,h1]
 ·rfl
end La
namespace La
open Go Go.Eng Go.Proofs Go.Proofs.Tryz
theorem pY (l:List Node) (fid:Int):∀(f:Nat) (k:Int) (b:Bool),br l fid f k=some b->br l fid (f+1) k=some b
 | 0,_,_,h=>by cases h
 | f+1,k,b,h=>by
  rw[br] at h ⊢
  by_cases hk:fid=k
  ·rw[if_pos hk] at h ⊢;exact h
  ·rw[if_neg hk] at h ⊢;cases e:ak l k with
   | none=>rw[e] at h;exact h
   | some n=>
    rw[e] at h;simp only at h ⊢;split at h
    ·rename_i hall;injection h with h
     have key:∀x,x∈n.entries->decide (x.fid=k)=false->br l fid (f+1) x.fid=br l fid f x.fid:=λx hx hne=>by
      have h1:=List.all_eq_true.1 hall x hx;rw[hne,Yz] at h1;cases h2:br l fid f x.fid with
      | none=>rw[h2] at h1;cases h1
      | some c=>exact pY l fid f x.fid c h2
     rw[if_pos (List.all_eq_true.2 λx hx=>by
      cases hne:decide (x.fid=k) with
      | true=>rfl
      | false=>rw[key x hx hne,<-hne];exact List.all_eq_true.1 hall x hx),<-h]
     congr 1
     rw[Yv,List.any_eq_true,List.any_eq_true];constructor
     ·rintro ⟨x,hx,h3⟩;refine ⟨x,hx,?_⟩;cases hne:decide (x.fid=k) with
      | true=>rw[hne] at h3;exact h3
      | false=>rw[key x hx hne,hne] at h3;exact h3
     ·rintro ⟨x,hx,h3⟩;refine ⟨x,hx,?_⟩;cases hne:decide (x.fid=k) with
      | true=>rw[hne] at h3;exact h3
      | false=>rw[hne] at h3;rw[key x hx hne];exact h3
    ·cases h
theorem uV {l:List Node} {fid k:Int} {b:Bool} {f g:Nat} (hfg:f<=g) (h:br l fid f k=some b):br l fid g k=some b:=by
 obtain ⟨d,rfl⟩:=Nat.exists_eq_add_of_le hfg;clear hfg
 induction d with
 | zero=>exact h
 | succ d ih=>exact pY l fid _ k b ih
open Classical in
theorem Cs {l:List Node} {fid k:Int} {b:Bool} {f:Nat} (h:br l fid f k=some b):kj l fid k=b:=by
 unfold kj;cases b with
 | true=>exact decide_eq_true ⟨f,h⟩
 | false=>
  refine decide_eq_false ?_;rintro ⟨g,hg⟩
  rcases Nat.le_total f g with hle | hle
  ·rw[uV hle h] at hg;cases hg
  ·rw[uV hle hg] at h;cases h
theorem tM {l:List Node} (hl:Small l) (k:Int):(ar l k).Small:=hl.find k
theorem Ec (l:List Node) (a:Act) (v:Int) (hf:FitA l a) (f:Nat) (hw:br l a.to f a.fid=some (kj l a.to a.fid)) (G Y N:Nat->Nat):ai prog 151 [.ptr 15 9 0 0] (dH (ZD l a v) G Y N)
  (λr H=>r=.int .i64 (du l a)/\∀i b,aa (dH (ZD (dj l a v) a v) G Y N) i=some b->aa H i=some b):=by
 have hl:=hf.small;have hlen:=hf.len;have hmE:dj l a v=if du l a=0 then aJ (if a.to=a.dir then l else aJ l { aE (ar l a.dir) a.name with version:=v }) { aB (toN l a) a.toName a.fid with version:=v } else l:=rfl;rw[hmE];unfold du;have hwi:=xb l hl a.to f a.fid _ hw;generalize kj l a.to a.fid=wb at hwi;have hsn:=tM hl a.dir;have hst:=tM hl a.to;have hent:∀k,(ar l k).entries.length<=99999990:=λk=>by
  unfold ar;cases e:ak l k with
  | none=>simp[aw]
  | some n=>exact hf.ent n (qo e)
 have hlv:=zH (ar l a.dir) a.name hsn;have hls:=px hsn a.name;have hto:(toN l a).Small:=by unfold toN;split;exact hls;exact hst
 have htoe:(toN l a).entries.length<=99999990:=by
  unfold toN;split
  ·have h1:=YB (λe:Entry=>!(e.name==a.name)) (ar l a.dir).entries;have h2:=hent a.dir;have h3:(aE (ar l a.dir) a.name).entries.length<=(ar l a.dir).entries.length:=h1;omega
  ·exact hent a.to
 have hroom:=C5 (toN l a) a.toName hto hf.toName;have hent2:=yR (toN l a) a.toName a.fid hto;have hens:=pf hto a.toName a.fid z8;have hp1:=qQ l a v (aE (ar l a.dir) a.name) hl hls;have hl1:Small (if a.to=a.dir then l else aJ l { aE (ar l a.dir) a.name with version:=v }):=by
  split
  ·exact hl
  ·exact oI hl ⟨hls.data,hls.entries⟩ z8
 have hp2:=qQ (if a.to=a.dir then l else aJ l { aE (ar l a.dir) a.name with version:=v }) a v (aB (toN l a) a.toName a.fid) hl1 hens;have hT:toN l a=if a.to=a.dir then aE (ar l a.dir) a.name else ar l a.to:=rfl;unfold dH;refine wSG func151 ntmps151 results151 λC=>?_
 refine wP ?_ [15] func178 (hf:=zV l a v hl hf.name);generalize aJ (if a.to=a.dir then l else aJ l { aE (ar l a.dir) a.name with version:=v }) { aB (toN l a) a.toName a.fid with version:=v }=l2 at hp2;generalize aB (toN l a) a.toName a.fid=en at hent2 hp2;generalize toN l a=T at *;generalize aE (ar l a.dir) a.name=lv at *;generalize ar l a.dir=n at *;generalize hge:bF l a=e;refine wGq ?_ ?_ w5
 ·simp[ZN]
 refine wD (λh=>?_) (λh=>?_)
 ·have he:e≠0:=by simpa using h
  refine wG ?_;refine wU ?_ (c_ ?_ ?_)
  ·simp[he]
  ·simp[go_sem,ZD,he]
  ·simp[go_sem]
 have he:e=0:=by simpa using h
 subst he;simp only[if_true];refine wGq ?_ ?_ k0
 ·simp[ZD]
 refine wP ?_ [15] func174 (hf:=Bc l a v a.to hl);generalize ar l a.to=m at *;generalize hgd:eH l a.to=e;refine wGq ?_ ?_ w5
 ·simp[ZN]
 refine wD (λh=>?_) (λh=>?_)
 ·have he:e≠0:=by simpa using h
  refine wG ?_;refine wU ?_ (c_ ?_ ?_)
  ·simp[he]
  ·simp[go_sem,ZD,he]
  ·simp[go_sem]
 have he:e=0:=by simpa using h
 subst he;simp only[if_true];refine wGS ?_;refine sNq 11 ?_ ?_ z6 z6 k0
 ·simp[ZD]
 refine wX ?_;refine wD (λh=>?_) (λh=>?_)
 ·have htd:a.to=a.dir:=by simpa using h
  simp only[htd,if_true] at hT hp2;subst hT;refine wGS ?_;refine sNq 6 ?_ ?_ z6 z6 p6
  ·simp[ZD,ZN]
  refine sC ?_ func179 (hf:=hlv);refine sE ?_;refine dSq ?_ ?_
  ·simp[go_sem,ZN]
  refine wKn ?_;refine wGS ?_;refine sNq 6 ?_ ?_ z6 z6 p6
  ·simp[ZD,ZN]
  refine sC ?_ func175 (hf:=hroom);refine sE ?_;refine dS ?_;refine wKn ?_;generalize hgr:bX T a.toName=e;refine wGD (λh=>?_) (λh=>?_)
  ·have he:e≠0:=by simpa using h
   refine wG ?_;refine wU ?_ (c_ ?_ ?_)
   ·simp[he]
   ·simp[go_sem,ZD,he]
   ·simp[go_sem]
  have he:e=0:=by simpa using h
  subst he;simp only[if_true];refine wGS ?_;refine sNq 9 ?_ ?_ z6 z6 k0
  ·simp[ZD]
  refine sC ?_ func82 (hf:=dD l a.fid hl);simp only[go_sem,fS];generalize hgx:(ak l a.fid).getD aw=x;generalize hga:bf l a.fid=ia;refine sG ?_;refine sW ?_;simp only[go_sem,ZN];refine sT ?_;refine sE ?_;refine dS ?_;refine wKn ?_;refine wGD (λh=>?_) (λh=>?_)
  ·have h0:ia=false:=by simpa using h
   subst h0;refine wG ?_;refine wU ?_ (c_ ?_ ?_)
   ·simp
   ·simp[go_sem,ZD]
   ·simp[go_sem]
  have h0:ia=true:=by simpa using h
  subst h0;simp only[if_true];refine wGS ?_;refine sNq 14 ?_ ?_ z6 z6 k0
  ·simp[ZD]
  refine sC ?_ func181 (hf:=hwi);refine wX ?_;refine wD (λh=>?_) (λh=>?_)
  ·have h0:wb=true:=by simpa using h
   subst h0;refine wG ?_;refine wU ?_ (c_ ?_ ?_)
   ·simp
   ·simp[go_sem,ZD]
   ·simp[go_sem]
  have h0:wb=false:=by simpa using h
  subst h0;simp only[Bool.false_eq_true,if_false,if_true];refine wGS ?_;refine sNq 11 ?_ ?_ z6 z6 k0
  ·simp[ZD]
  refine wX ?_;refine wDF ?_ (hb:=by simp[htd]);refine wGS ?_;refine sNq 12 ?_ ?_ z6 z6 p6
  ·simp[ZD,ZN]
  refine sC ?_ func177 (hf:=hent2);refine sE ?_;refine ff rfl w9 rfl (wTP [15] func176 (hf:=hp2)) rfl ?_;refine wKG ?_;refine wU ?_ (c_ ?_ ?_)
  ·simp
  ·simp[go_sem,ZD]
  ·simp[go_sem]
 ·have htd:¬a.to=a.dir:=by simpa using h
  simp only[htd,if_false] at hT hp2;subst hT;generalize aJ l { lv with version:=v }=l1 at *;refine wGS ?_;refine sNq 6 ?_ ?_ z6 z6 p6
  ·simp[ZD,ZN]
  refine sC ?_ func175 (hf:=hroom);refine sE ?_;refine dS ?_;refine wKn ?_;generalize hgr:bX T a.toName=e;refine wGD (λh=>?_) (λh=>?_)
  ·have he:e≠0:=by simpa using h
   refine wG ?_;refine wU ?_ (c_ ?_ ?_)
   ·simp[he]
   ·simp[go_sem,ZD,he]
   ·simp[go_sem]
  have he:e=0:=by simpa using h
  subst he;simp only[if_true];refine wGS ?_;refine sNq 9 ?_ ?_ z6 z6 k0
  ·simp[ZD]
  refine sC ?_ func82 (hf:=dD l a.fid hl);simp only[go_sem,fS];generalize hgx:(ak l a.fid).getD aw=x;generalize hga:bf l a.fid=ia;refine sG ?_;refine sW ?_;simp only[go_sem,ZN];refine sT ?_;refine sE ?_;refine dS ?_;refine wKn ?_;refine wGD (λh=>?_) (λh=>?_)
  ·have h0:ia=false:=by simpa using h
   subst h0;refine wG ?_;refine wU ?_ (c_ ?_ ?_)
   ·simp
   ·simp[go_sem,ZD]
   ·simp[go_sem]
  have h0:ia=true:=by simpa using h
  subst h0;simp only[if_true];refine wGS ?_;refine sNq 14 ?_ ?_ z6 z6 k0
  ·simp[ZD]
  refine sC ?_ func181 (hf:=hwi);refine wX ?_;refine wD (λh=>?_) (λh=>?_)
  ·have h0:wb=true:=by simpa using h
   subst h0;refine wG ?_;refine wU ?_ (c_ ?_ ?_)
   ·simp
   ·simp[go_sem,ZD]
   ·simp[go_sem]
  have h0:wb=false:=by simpa using h
  subst h0;simp only[Bool.false_eq_true,if_false,if_true];refine wGS ?_;refine sNq 11 ?_ ?_ z6 z6 k0
  ·simp[ZD]
  refine wX ?_;refine wDT ?_ (hb:=by simp[htd]);refine wGS ?_;refine sNq 7 ?_ ?_ z6 z6 p6
  ·simp[ZD,ZN]
  refine sC ?_ func179 (hf:=hlv);refine sE ?_;refine ff rfl w9 rfl (wTP [15] func176 (hf:=hp1)) rfl ?_;refine wKn ?_;refine wGS ?_;refine sNq 12 ?_ ?_ z6 z6 p6
  ·simp[ZD,ZN]
  refine sC ?_ func177 (hf:=hent2);refine sE ?_;refine ff rfl w9 rfl (wTP [15] func176 (hf:=hp2)) rfl ?_;refine wKG ?_;refine wU ?_ (c_ ?_ ?_)
  ·simp
  ·simp[go_sem,ZD]
  ·simp[go_sem]
end La
namespace La
open Go
theorem qp {l:List Node} (h:Up l) (n:Node) (k:Int):ak (aJ l n) k=if k=n.fid then some n else ak l k:=by
 by_cases e:k=n.fid
 ·subst e;rw[if_pos rfl];exact BS h n
 ·rw[if_neg e];exact (BT h n e).symm
theorem Bg {l:List Node} (h:Up l) (f k:Int):ak (eM l f) k=if k=f then none else ak l k:=by
 obtain ⟨h1,h2⟩:=il h f
 by_cases e:k=f
 ·subst e;rw[if_pos rfl];exact (eO h1).2 λx hx=>((h2 x).1 hx).2
 ·rw[if_neg e];cases e1:ak l k with
  | none=>
   rw[eO h1];exact λx hx=>(eO h).1 e1 x ((h2 x).1 hx).1
  | some x=>
   obtain ⟨k1,k2⟩:=(ZO h).1 e1;exact (ZO h1).2 ⟨(h2 x).2 ⟨k1,by rw[k2];exact e⟩,k2⟩
end La
