/- Texts of this claim, part 15: RTree, PApply, RWith, RName. No condition. -/
import Derived.Test.YtmcfbfdonjllaaaGreatDoorZT14
set_option maxRecDepth 10000
set_option maxHeartbeats 4000000
set_option linter.unusedSimpArgs false
set_option linter.unusedVariables false
namespace La
open Go Go.Eng Go.Proofs
theorem lZ {α:Type}:∀{a b:List (Int×α)},ej a->ej b->(∀p,p∈a↔p∈b)->a=b
 | [],[],_,_,_=>rfl
 | [],q::b,_,_,h=>absurd ((h q).2 List.mem_cons_self) y7
 | p::a,[],_,_,h=>absurd ((h p).1 List.mem_cons_self) y7
 | p::a,q::b,ha,hb,h=>by
  have ha':=List.pairwise_cons.1 ha;have hb':=List.pairwise_cons.1 hb;have hpq:p=q:=by
   rcases List.mem_cons.1 ((h p).1 List.mem_cons_self) with e | e
   ·exact e
   ·rcases List.mem_cons.1 ((h q).2 List.mem_cons_self) with e2 | e2
    ·exact e2.symm
    ·have h1:=hb'.1 p e;have h2:=ha'.1 q e2;omega
  subst hpq;refine congrArg _ (lZ ha'.2 hb'.2 λr=>?_);constructor
  ·intro hr
   rcases List.mem_cons.1 ((h r).1 (List.mem_cons_of_mem _ hr)) with e | e
   ·subst e;exact absurd (ha'.1 _ hr) z8
   ·exact e
  ·intro hr
   rcases List.mem_cons.1 ((h r).2 (List.mem_cons_of_mem _ hr)) with e | e
   ·subst e;exact absurd (hb'.1 _ hr) z8
   ·exact e
def dV {α:Type} (m:List (Int×α)) (seen:List Int):List (Int×α):=m.filter λp=>seen.contains p.1
theorem pD {α:Type} {m:List (Int×α)} (h:ej m) {n:Int} {v:α} (hm:(n,v)∈m) {seen:List Int}:bt (dV m seen) n v=dV m (n::seen):=by
 have hr:ej (dV m seen):=h.filter _;refine lZ (cq hr) (h.filter _) λp=>?_
 obtain ⟨k,x⟩:=p;rw[bU hr];unfold dV;simp only[Wy,List.contains_cons,Bool.or_eq_true,beq_iff_eq];constructor
 ·rintro (⟨rfl,rfl⟩ | ⟨h1,h2,h3⟩)
  ·exact ⟨hm,.inl rfl⟩
  ·exact ⟨h2,.inr h3⟩
 ·rintro ⟨h1,h2⟩
  by_cases e:k=n
  ·subst e;have a1:=bJ h h1;have a2:=bJ h hm;rw[a1] at a2;injection a2 with a2
   exact .inl ⟨rfl,a2⟩
  ·rcases h2 with h2 | h2
   ·exact absurd h2 e
   ·exact .inr ⟨e,h1,h2⟩
theorem pC {α:Type} {m:List (Int×α)} {seen:List Int} (h:∀p,p∈m->p.1∈seen):dV m seen=m:=by
 unfold dV;exact W9.2 λp hp=>by simpa using h p hp
def mT {α:Type}:List (Int×α)->List Int->Nat
 | [],_=>0
 | p::r,seen=>(if p.1∈seen then 0 else 1)+mT r seen
theorem xG {α:Type} (n:Int) (seen:List Int):∀m:List (Int×α),mT m (n::seen)≤mT m seen
 | []=>Wt _
 | p::r=>by
  have ih:=xG n seen r;unfold mT
  by_cases h:p.1∈seen
  ·rw[if_pos h,if_pos (List.mem_cons_of_mem _ h)];omega
  ·rw[if_neg h];split<;>omega
theorem lQ {α:Type} {n:Int} {v:α} {seen:List Int}:∀{m:List (Int×α)},(n,v)∈m->n∉seen->mT m (n::seen)<mT m seen
 | [],h,_=>by cases h
 | p::r,h,hs=>by
  have hle:=xG n seen r;unfold mT
  rcases List.mem_cons.1 h with rfl | h
  ·rw[if_pos List.mem_cons_self,if_neg hs];omega
  ·have ih:=lQ h hs
   by_cases h2:p.1∈seen
   ·rw[if_pos h2,if_pos (List.mem_cons_of_mem _ h2)];omega
   ·rw[if_neg h2];split<;>omega
theorem mL {α:Type} (m:List (Int×α)):dV m []=[]:=by unfold dV;simp
theorem zE {m:List (Int×Node)} {n:Int} {v:AV} (h:(n,v)∈mN m):∃nd,v=.agg (ZN nd)/\(n,nd)∈m:=by
 obtain ⟨p,hp,e⟩:=Wq.1 h;injection e with e1 e2
 exact ⟨p.2,e2.symm,by rw[←e1];exact hp⟩
theorem zD {m:List (Int×Node)} {n:Int} {nd:Node} (h:(n,nd)∈m):(n,AV.agg (ZN nd))∈mN m:=Wq.2 ⟨_,h,rfl⟩
theorem vr (m:List (Int×Node)):(mN m).length=m.length:=by simp[mN]
theorem zF:([]:List (Int×AV))=mN []:=rfl
theorem il (m:List (Int×Node)) (n:Node) (hr:ej m):ae Tryz.prog 130 [.rm (mN m),.agg (ZN n)] [] (λr _=>r=.rm (mN (bt m n.fid n))):=by
 unfold ZN;refine ZF tK (Tryz.func130) rfl (λC=>?_);simp only[Tryz.ntmps130,Tryz.results130,go_sem];refine wG tK ?_;refine rD tK rfl rfl rfl z7 z7 z7 ?_;refine wG tK ?_;refine ZL (λ_:List Int=>True) (λseen=>mT m seen) (λ_=>(6,.any)::(7,.any)::u0 11 8 []) (λseen=>[(8,.map (mN (dV m seen))),(10,.iter (mN m) seen)]) [] trivial ?_ λseen _=>?_
 ·simp only[go_sem];exact ZU w3 (by simp[go_sem,mL,zF]) w3
 simp only[go_sem];refine wR ?_;refine uW rfl rfl z7 z7 (λhall=>?_) (λn v hnv hns=>?_)
 ·have hsa:dV m seen=m:=pC λp hp=>hall (p.1,.agg (ZN p.2)) (zD hp)
  rw[hsa];simp only[go_sem];refine wG tK ?_;refine wDF (hb:=(rfl)) (hk:=?_);refine wGq tK ?_ ?_
  ·simp[AV.jE,AV.aY]
  rw[show AV.agg [.int .i64 n.fid,.bool n.dir,.sl (n.data.map ZY),.sl (n.entries.map ZE),.int .i64 n.version]=.agg (ZN n) from rfl,vt];refine km 8 rfl ?_;simp only[go_sem];refine wT ?_;rfl
 ·obtain ⟨nd,rfl,hmem⟩:=zE hnv;have hpt:=pD hr hmem (seen:=seen);have hlt:=lQ hmem hns;simp only[go_sem];refine wG tK ?_;refine wDT (hb:=(rfl)) (hk:=?_);refine wR ?_;refine rC rfl rfl z7 z7 (hnv) ?_;simp only[go_sem];refine wGq tK ?_ ?_ w6
  ·simp[ZN,AV.jE,AV.aY]
  refine ZB ⟨n::seen,hlt,ZU ?_ ?_ ?_⟩
  ·simp[go_sem]
  ·simp[go_sem,←hpt,←vt,ZN]
  ·simp[go_sem]
theorem BS {α:Type} {m:List (Int×α)} (h:ej m) {n:Int} {v:α} (hm:(n,v)∈m) (seen:List Int) (fid:Int) :
  (n≠fid->bt (ec (dV m seen) fid) n v=ec (dV m (n::seen)) fid)/\(n=fid->ec (dV m seen) fid=ec (dV m (n::seen)) fid):=by
 have hr:ej (dV m seen):=h.filter _;refine ⟨λhne=>?_,λhe=>?_⟩
 ·rw[←pD h hm];refine lZ (cq (iy hr)) (iy (cq hr)) λp=>?_
  obtain ⟨k,x⟩:=p;rw[bU (iy hr)];unfold ec;rw[Wy,Wy,bU hr];simp only[YU,beq_eq_false_iff_ne];constructor
  ·rintro (⟨rfl,rfl⟩ | ⟨h1,h2,h3⟩)
   ·exact ⟨.inl ⟨rfl,rfl⟩,hne⟩
   ·exact ⟨.inr ⟨h1,h2⟩,h3⟩
  ·rintro ⟨⟨rfl,rfl⟩ | ⟨h1,h2⟩,h3⟩
   ·exact .inl ⟨rfl,rfl⟩
   ·exact .inr ⟨h1,h2,h3⟩
 ·subst he;unfold ec dV;rw[List.filter_filter,List.filter_filter];refine List.filter_congr λp _=>?_
  simp only[List.contains_cons];cases h1:(p.1==n)<;>simp
theorem DP {α:Type} (fid:Int):ec ([]:List (Int×α)) fid=[]:=rfl
theorem AD (m:List (Int×Node)) (fid:Int) (hr:ej m):ae Tryz.prog 133 [.rm (mN m),.int .i64 fid] [] (λr _=>r=.rm (mN (ec m fid))):=by
 refine ZF tK (Tryz.func133) rfl (λC=>?_);simp only[Tryz.ntmps133,Tryz.results133,go_sem];refine wG tK ?_;refine rD tK rfl rfl rfl z7 z7 z7 ?_;refine wG tK ?_;refine ZL (λ_:List Int=>True) (λseen=>mT m seen) (λ_=>(6,.any)::(7,.any)::u0 11 11 []) (λseen=>[(8,.map (mN (ec (dV m seen) fid))),(10,.iter (mN m) seen)]) [] trivial ?_ λseen _=>?_
 ·simp only[go_sem];exact ZU w3 (by simp[go_sem,mL,DP,zF]) w3
 simp only[go_sem];refine wR ?_;refine uW rfl rfl z7 z7 (λhall=>?_) (λn v hnv hns=>?_)
 ·have hsa:dV m seen=m:=pC λp hp=>hall (p.1,.agg (ZN p.2)) (zD hp)
  rw[hsa];simp only[go_sem];refine wG tK ?_;refine wDF (hb:=(rfl)) (hk:=?_);refine wG tK ?_;refine km 8 rfl ?_;simp only[go_sem];refine wT ?_;rfl
 ·obtain ⟨nd,rfl,hmem⟩:=zE hnv;obtain ⟨hp1,hp2⟩:=BS hr hmem seen fid;have hlt:=lQ hmem hns;simp only[go_sem];refine wG tK ?_;refine wDT (hb:=(rfl)) (hk:=?_);refine wR ?_;refine rC rfl rfl z7 z7 (hnv) ?_;simp only[go_sem];refine wGq tK ?_ ?_ w6
  ·simp[ZN]
  by_cases hf:n=fid
  ·have hp2:=hp2 hf;refine wDF (hb:=(by simp[hf])) (hk:=?_);refine wG tK ?_;refine ZB ⟨n::seen,hlt,ZU ?_ ?_ ?_⟩
   ·simp[go_sem]
   ·simp[go_sem,←hp2]
   ·simp[go_sem]
  ·have hp1:=hp1 hf;refine wDT (hb:=(by simpa using hf)) (hk:=?_);refine wGq tK ?_ ?_ w6
   ·simp[ZN,AV.jE,AV.aY]
   refine ZB ⟨n::seen,hlt,ZU ?_ ?_ ?_⟩
   ·simp[go_sem]
   ·simp[go_sem,←hp1,←vt,ZN]
   ·simp[go_sem]
def om (l:List Entry) (s:List UInt8):Option Entry:=l.find? λe=>e.name==s
def qX (l:List Entry) (s:List UInt8):AV:=match om l s with
 | some e=>.tup [.int .i64 e.fid,.bool true]
 | none=>.tup [.int .i64 0,.bool false]
theorem rL {l:List Entry} {s:List UInt8} (h:∀e,e∈l->(e.name==s)=false):om l s=none:=List.find?_eq_none.2 λe he=>by rw[h e he];simp
theorem vb {l:List Entry} {s:List UInt8} {i:Nat} (hi:i<l.length) (h:∀e,e∈l.take i->(e.name==s)=false) (hs:((l.getD i default).name==s)=true):om l s=some (l.getD i default):=by
 unfold om;have e:l=l.take i++(l.getD i default::l.drop (i+1)):=by rw[←b_ hi,Yc]
 conv=>lhs;rw[e]
 rw[List.find?_append,List.find?_eq_none.2 (λe he=>by rw[h e he];simp),Option.none_or,List.find?_cons,hs]
theorem iA (n:Node) (s:List UInt8) (hn:n.entries.length≤100000000):ae Tryz.prog 91 [.agg (ZN n),.str s] [] (λr _=>r=qX n.entries s):=by
 unfold qX ZN;refine ZF tK (Tryz.func91) rfl (λC=>?_);simp only[Tryz.ntmps91,Tryz.results91,go_sem];refine wG tK ?_;refine ZL (λi:Nat=>i≤n.entries.length/\∀e,e∈n.entries.take i->(e.name==s)=false) (λi=>n.entries.length-i) (λi=>(7,.any)::(11,.int .i64 i)::u0 12 10 []) (λ_=>[]) 0 ⟨by omega,by simp⟩ ?_ λi hi=>?_
 ·simp only[go_sem];exact ZU w3 w3 w3
 obtain ⟨hi,hno⟩:=hi;simp only[go_sem];refine wG tK ?_;refine wD (λh=>?_) (λh=>?_)
 ·have hlt:i<n.entries.length:=by simp at h;omega
  have hg:(n.entries.map ZE).getD i []=ZE (n.entries.getD i default):=Fam.getD hlt;have hw:=wi1 (i:=i) z8;have hfs:=@vb n.entries s i hlt hno;have htk:=ZT hlt;generalize n.entries.getD i default=e at *;refine wGq tK ?_ ?_ p4
  ·simp[hg,ZE,hlt]
  cases hb:(e.name==s) with
  | true=>
   rw[hfs hb];refine wDT (hb:=y7) (hk:=?_);refine wG tK ?_;refine wT ?_;rfl
  | false=>
   refine wDF (hb:=y7) (hk:=?_);refine wG tK ?_ w5 k0;refine ZB ⟨i+1,⟨by omega,?_⟩,by omega,ZU ?_ ?_ ?_⟩
   ·rw[htk];intro x hx
    rcases List.mem_append.1 hx with hx | hx
    ·exact hno x hx
    ·rw[List.mem_singleton.1 hx];exact hb
   ·simp[go_sem]
   ·simp[go_sem]
   ·simp[go_sem]
 ·have e:i=n.entries.length:=by simp at h;omega
  subst e;rw[Wo] at hno;rw[rL hno];refine wG tK ?_;refine wT ?_;rfl
def cF (l:List Entry) (s:List UInt8):List Entry:=l.filter λe=>!(e.name==s)
def vH (n:Node) (s:List UInt8):Node:={ n with entries:=cF n.entries s }
theorem mH (n:Node) (s:List UInt8) (hn:n.entries.length≤100000000):ae Tryz.prog 132 [.agg (ZN n),.str s] [] (λr _=>r=.agg (ZN (vH n s))):=by
 have hz:cF (n.entries.take n.entries.length) s=cF n.entries s:=by rw[Wo]
 unfold vH ZN;simp only;rw[←hz];refine ZF tK (Tryz.func132) rfl (λC=>?_);simp only[Tryz.ntmps132,Tryz.results132,go_sem];refine wG tK ?_;refine ag (le_empty 22 96 2 z7) ?_;simp only[go_sem];refine ZL (λi:Nat=>i≤n.entries.length) (λi=>n.entries.length-i) (λi=>(5,.osl 22 2 0 (cF (n.entries.take i) s).length)::(7,.any)::(11,.int .i64 i)::u0 12 12 []) (λi=>[(22,.cells 96 2 ((cF (n.entries.take i) s).map ZE))]) 0 z8 ?_ λi hi=>?_
 ·simp only[go_sem];exact ZU (by simp[go_sem,cF]) (by simp[go_sem,cF]) w3
 simp only[go_sem];refine wG tK ?_;refine wD (λh=>?_) (λh=>?_)
 ·have hlt:i<n.entries.length:=by simp at h;omega
  have hg:(n.entries.map ZE).getD i []=ZE (n.entries.getD i default):=Fam.getD hlt;have hw:=wi1 (i:=i) z8;have htk:cF (n.entries.take (i+1)) s=if ((n.entries.getD i default).name==s)=true then cF (n.entries.take i) s else cF (n.entries.take i) s++[n.entries.getD i default]:=by
   rw[ZT hlt];unfold cF;rw[List.filter_append,List.filter_cons];cases ((n.entries.getD i default).name==s)<;>simp
  have hll:(cF (n.entries.take i) s).length≤i:=by
   have:=Wr (λe:Entry=>!(e.name==s)) (n.entries.take i);unfold cF;simp only[Wv] at this;omega
  generalize n.entries.getD i default=e at *;refine wGq tK ?_ ?_ p4
  ·simp[hg,ZE,hlt]
  cases hb:(e.name==s) with
  | true=>
   rw[hb,if_pos rfl] at htk;refine wDF (hb:=y7) (hk:=?_);refine wG tK ?_ w5 k0;refine ZB ⟨i+1,by omega,by omega,ZU ?_ ?_ ?_⟩
   ·simp[go_sem,htk]
   ·simp[go_sem,htk]
   ·simp[go_sem]
  | false=>
   rw[hb,if_neg Bool.false_ne_true] at htk;refine wDT (hb:=y7) (hk:=?_);refine wGq tK ?_ ?_ w5
   ·simp[rowsOf];omega
   refine ZB ⟨i+1,by omega,by omega,ZU ?_ ?_ ?_⟩
   ·simp[go_sem,htk]
   ·simp[go_sem,htk,ZE]
   ·simp[go_sem]
 ·have e:i=n.entries.length:=by simp at h;omega
  subst e;refine wG tK ?_;refine ZZ 22 rfl (dg _) ?_;simp only[go_sem];refine wT ?_;simp
end La
namespace La
open Go Go.Eng
theorem AS {α:Type} {a b:List (Int×α)} (ha:ej a) (hb:ej b) (h:∀k,bj a k=bj b k):a=b:=
 lZ ha hb λp=>by
  obtain ⟨k,x⟩:=p;constructor
  ·intro hp;exact cU (by rw[←h];exact bJ ha hp)
  ·intro hp;exact cU (by rw[h];exact bJ hb hp)
theorem BT {α:Type} {m:List (Int×α)} (h:ej m) (f k:Int):bj (ec m f) k=if k=f then none else bj m k:=by
 have hd:ej (ec m f):=iy h;have hm:∀x,(k,x)∈ec m f↔(k,x)∈m/\k≠f:=λx=>by
  unfold ec;rw[Wy];simp
 by_cases e:k=f
 ·rw[if_pos e];cases e1:bj (ec m f) k with
  | none=>rfl
  | some x=>exact absurd e ((hm x).1 (cU e1)).2
 ·rw[if_neg e];cases e1:bj m k with
  | none=>
   cases e2:bj (ec m f) k with
   | none=>rfl
   | some x=>
    have:=bJ h ((hm x).1 (cU e2)).1;rw[e1] at this;cases this
  | some x=>exact bJ hd ((hm x).2 ⟨cU e1,e⟩)
theorem fP {l:List Node} (h:Up l) (n:Node):bt (bD l) n.fid n=bD (aE l n):=
 AS (cq (br l)) (br _) λk=>by
  rw[mD (br l),cy h,cy (bl h n).1,oW h]
theorem DM {l:List Node} (h:Up l) (f:Int):ec (bD l) f=bD (ez l f):=
 AS (iy (br l)) (br _) λk=>by
  rw[BT (br l),cy h,cy (gH h f).1,ze h]
theorem qS {l:List Node} (h:Up l):bD l=l.map λn=>(n.fid,n):=by
 refine lZ (br l) ?_ λp=>?_
 ·exact List.pairwise_map.2 h
 ·obtain ⟨k,x⟩:=p;rw[Wq];constructor
  ·intro hp;have:=bJ (br l) hp;rw[cy h] at this;obtain ⟨h1,h2⟩:=(ZO h).1 this;exact ⟨x,h1,by rw[h2]⟩
  ·rintro ⟨n,hn,e⟩;injection e with e1 e2
   subst e1 e2;exact cU (by rw[cy h];exact (ZO h).2 ⟨hn,rfl⟩)
theorem lR {l:List Node} (h:Up l):(bD l).length=l.length:=by rw[qS h,List.length_map]
theorem d_ {n:Node} (h:EUp n.entries) (s:List UInt8):qX n.entries s=match ba n s with | some f=>.tup [.int .i64 f,.bool true] | none=>.tup [.int .i64 0,.bool false]:=by
 unfold qX;cases e:om n.entries s with
 | none=>
  have:ba n s=none:=(wQ h).2 λx hx hn=>by
   have:=List.find?_eq_none.1 e x hx;simp[hn] at this
  rw[this]
 | some x=>
  have hx:x∈n.entries:=List.mem_of_find?_eq_some e;have hs:x.name=s:=by have:=List.find?_some e;simpa using this
  have:ba n s=some x.fid:=(YE h).2 (by rw[←hs];exact hx);rw[this]
def lF (s:List UInt8) (f:Int) (q:Bool×List Entry) (e:Entry):Bool×List Entry:=if (!q.1&&Op.bytesLess s e.name)=true then (true,q.2++[⟨s,f⟩]++[e]) else (q.1,q.2++[e])
def js (s:List UInt8) (f:Int) (l:List Entry):Bool×List Entry:=l.foldl (lF s f) (false,[])
def qV (l:List Entry) (s:List UInt8) (f:Int):List Entry:=if (js s f (cF l s)).1=true then (js s f (cF l s)).2 else (js s f (cF l s)).2++[⟨s,f⟩]
def qW (n:Node) (s:List UInt8) (f:Int):Node:={ n with entries:=qV n.entries s f }
theorem wJ (s:List UInt8) (f:Int) (l:List Entry):(js s f l).2.length≤2*l.length:=by
 have:∀(l:List Entry) (q:Bool×List Entry),(l.foldl (lF s f) q).2.length≤q.2.length+2*l.length:=λl=>by
  induction l with
  | nil=>intro q;simp
  | cons e r ih=>
   intro q;have h1:=ih (lF s f q e);have h2:(lF s f q e).2.length≤q.2.length+2:=by unfold lF;split<;>simp
   rw[List.foldl_cons,List.length_cons];omega
 have:=this l (false,[]);simpa[js] using this
theorem Bt (s:List UInt8) (f:Int) (l:List Entry) (e:Entry):js s f (l++[e])=lF s f (js s f l) e:=by unfold js;rw[List.foldl_append];rfl
theorem wI (s:List UInt8) (f:Int):∀(l:List Entry) (b:Bool) (q:List Entry),(∀e,e∈l->e.name<s)->l.foldl (lF s f) (b,q)=(b,q++l)
 | [],b,q,_=>by simp
 | e::r,b,q,h=>by
  have h1:=h e List.mem_cons_self;have h2:Op.bytesLess s e.name=false:=by
   rw[fO];exact decide_eq_false λh3=>sI _ (vU h1 h3)
  rw[List.foldl_cons,show lF s f (b,q) e=(b,q++[e]) from by simp[lF,h2],wI s f r b _ λx hx=>h x (List.mem_cons_of_mem _ hx)];simp
theorem tM (s:List UInt8) (f:Int):∀(l:List Entry) (q:List Entry),l.foldl (lF s f) (true,q)=(true,q++l)
 | [],q=>by simp
 | e::r,q=>by
  rw[List.foldl_cons,show lF s f (true,q) e=(true,q++[e]) from by simp[lF],tM s f r];simp
theorem vG {l:List Entry} (h:EUp l) {s:List UInt8} (hs:isE l s=false) (f:Int):qV l s f=bu l s f:=by
 obtain ⟨h1,h2⟩:=h.parts hs;have hlv:cF l s=l:=by
  unfold cF;refine W9.2 λe he=>?_
  have:e.name≠s:=λhn=>by
   have:=(nT h s).2 ⟨e,he,hn⟩;rw[hs] at this;cases this
  simpa using this
 unfold qV;rw[hlv];unfold bu;rw[hs,if_neg (show ¬(false=true) by simp)];have hl:js s f l=(l.drop (aI l s)).foldl (lF s f) (false,l.take (aI l s)):=by
  unfold js
  conv=>lhs;rw[←Yc (aI l s) l]
  rw[List.foldl_append,wI s f _ false [] h1];simp
 rw[hl];generalize hd:l.drop (aI l s)=d at h2 ⊢;cases d with
 | nil=>simp
 | cons e r=>
  have h3:Op.bytesLess s e.name=true:=by rw[fO];exact decide_eq_true (h2 e List.mem_cons_self)
  rw[List.foldl_cons,show lF s f (false,l.take (aI l s)) e=(true,l.take (aI l s)++[⟨s,f⟩]++[e]) from by simp[lF,h3],tM];simp
theorem fS {n:Node} (h:EUp n.entries) {s:List UInt8} (hs:isE n.entries s=false) (f:Int):qW n s f=ay n s f:=by
 unfold qW ay;rw[vG h hs]
open Classical in
noncomputable def bx (l:List Node) (a:Act):Int:=if bw l a=0 then (if eu l a.to=0 then (if bO (toN l a) a.toName=0 then (if bg l a.fid=true then (if decide (MReach (bD l) a.fid a.to)=true then 11 else 0) else 12) else bO (toN l a) a.toName) else eu l a.to) else bw l a
noncomputable def fT (l:List Node) (a:Act) (v:Int):List Node:=if bx l a=0 then aE (if a.to=a.dir then l else aE l { aA (aq l a.dir) a.name with version:=v }) { ay (toN l a) a.toName a.fid with version:=v } else l
noncomputable def az (l:List Node) (a:Act):Int:=if a.kind=1 then cL l a else if a.kind=2 then cL l a else if a.kind=3 then eK l a else if a.kind=4 then cG l a else if a.kind=5 then bx l a else 1
noncomputable def ck (l:List Node) (a:Act) (v:Int):List Node:=if a.kind=1 then dD l a v else if a.kind=2 then dD l a v else if a.kind=3 then eh l a v else if a.kind=4 then cH l a v else if a.kind=5 then fT l a v else l
noncomputable def vE (l:List Node) (a:Act) (v:Int):AV:=if az l a=0 then .tup [.rm (mN (bD (ck l a v))),.int .i64 0] else .tup [.nilm,.int .i64 (az l a)]
structure Ri (l:List Node):Prop where
 up:Up l
 eup:∀n,n∈l->EUp n.entries
theorem Ri.find {l:List Node} (h:Ri l) (k:Int):EUp (aq l k).entries:=by
 unfold aq;cases e:aj l k with
 | none=>exact List.Pairwise.nil
 | some n=>exact h.eup n ((ZO h.up).1 e).1
theorem Ri.put {l:List Node} (h:Ri l) {n:Node} (hn:EUp n.entries):Ri (aE l n):=
 ⟨(bl h.up n).1,λm hm=>by
  rcases fF hm with rfl | hm
  ·exact hn
  ·exact h.eup m hm⟩
theorem Ri.drop {l:List Node} (h:Ri l) (f:Int):Ri (ez l f):=⟨(gH h.up f).1,λm hm=>h.eup m (((gH h.up f).2 m).1 hm).1⟩
theorem Ri.to {l:List Node} (h:Ri l) (a:Act):EUp (toN l a).entries:=by
 unfold toN;split
 ·exact jS (h.find _) _
 ·exact h.find _
theorem Ri.apply {l:List Node} (h:Ri l) (a:Act) (v:Int):Ri (ck l a v):=by
 have hmk:Ri (dD l a v):=by
  unfold dD;split
  ·rename_i he;unfold cL at he;split at he
   ·split at he
    ·rename_i hr;refine (h.put ?_).put List.Pairwise.nil;exact (jG (h.find _) (dh hr).2 _).1
    ·rename_i hr;exact absurd he hr
   ·rename_i hr;exact absurd he hr
  ·exact h
 unfold ck;split
 ·exact hmk
 ·split
  ·exact hmk
  ·split
   ·unfold eh;split
    ·exact h.put (h.find _)
    ·exact h
   ·split
    ·unfold cH;split
     ·exact (h.put (jS (h.find _) _)).drop _
     ·exact h
    ·split
     ·unfold fT;split
      ·rename_i he;have hr:bO (toN l a) a.toName=0:=by
        unfold bx at he;split at he
        ·split at he
         ·split at he
          ·assumption
          ·rename_i hr;exact absurd he hr
         ·rename_i hr;exact absurd he hr
        ·rename_i hr;exact absurd he hr
       refine Ri.put ?_ (jG (h.to a) (dh hr).2 _).1;split
       ·exact h
       ·exact h.put (jS (h.find _) _)
      ·exact h
     ·exact h
end La
namespace La
open Go Go.Eng Go.Proofs
theorem wE {α:Type} {L T:List α} {off:Nat} (h:off≤L.length) (ht:L.drop off=T):L.length=off+T.length:=by
 have:=congrArg List.length ht;rw[YJ] at this;omega
theorem Iw {L:List Int} {off off':Nat} (h:off≤L.length) (ho:off'=off\/off'=0) (f:Int) :
  (((L.map ZI).drop (off-off')).take (off'+(L.length-off))++[ZI f])=(((L.drop (off-off')).take (off'+(L.length-off)))++[f]).map ZI /\
  ((((L.drop (off-off')).take (off'+(L.length-off)))++[f]).drop off')=L.drop off++[f]/\(((L.drop (off-off')).take (off'+(L.length-off)))++[f]).length=off'+(L.length-off+1):=by
 have hl:((L.drop (off-off')).take (off'+(L.length-off))).length=off'+(L.length-off):=by simp;omega
 refine ⟨?_,?_,?_⟩
 ·rw[List.map_append,Yh,Yn];rfl
 ·rw[List.drop_append_of_le_length z8,List.drop_take,List.drop_drop];have e:off-off'+off'=off:=by rcases ho with rfl | rfl<;>omega
  rw[e,Ye]
  congr 1
  exact Wl y7
 ·rw[List.length_append,hl];simp;omega
theorem CT {m:List (Int×Node)} {x:Int} {n:Node} (h:bj m x=some n):n.entries.length≤(nF m).length:=by
 have h1:=cU h;unfold nF;clear h
 induction m with
 | nil=>cases h1
 | cons p r ih=>
  simp only[List.flatMap_cons,List.length_append,List.length_map]
  rcases List.mem_cons.1 h1 with rfl | h1
  ·simp only;omega
  ·have:=ih h1;omega
theorem DL (k:Int):bt ([]:List (Int×AV)) k (.bool true)=mB (bt [] k true):=rfl
open Classical in
theorem zY (m:List (Int×Node)) (fid inn:Int) (hsz:(nF m).length≤90000000):ae Tryz.prog 50 [.rm (mN m),.int .i64 fid,.int .i64 inn] [] (λr _=>r=.bool (decide (MReach m inn fid))):=by
 refine ZF tK (Tryz.func50) rfl (λC=>?_);simp only[Tryz.ntmps50,Tryz.results50,go_sem];refine wGq tK ?_ ?_
 ·simp[go_sem,AV.jE,AV.aY]
 refine ZL (λs:List (Int×Bool)×Nat×List Int=>s.2.1≤s.2.2.length/\BI m inn s.1 (s.2.2.drop s.2.1)) (λs=>(s.2.2.length-s.2.1)+gv m s.1) (λs=>(8,.osl 15 1 s.2.1 (s.2.2.length-s.2.1))::(10,.any)::u0 14 32 [])
  (λs=>[(11,.map (mB s.1)),(15,.cells 3 1 (s.2.2.map ZI))]) (bt [] inn true,0,[inn]) ⟨by simp,BI.begin m inn⟩ ?_ λs hs=>?_
 ·simp only[go_sem];exact ZU w3 (by simp[go_sem,DL,ZI]) w3
 obtain ⟨had,off,L⟩:=s;obtain ⟨hoff,hbi⟩:=hs;simp only at hoff hbi;simp only[go_sem];refine wG tK ?_;refine wD (λh=>?_) (λh=>?_)
 ·have hlt:off<L.length:=by simp at h;omega
  have hg:(L.map ZI).getD off []=ZI (L.getD off default):=Fam.getD hlt;have hdr:=b_ hlt;have hl1:L.length-off=(L.drop (off+1)).length+1:=by rw[YJ];omega
  generalize hx:L.getD off default=x at *;have hbi0:=hbi;rw[hdr] at hbi0;cases hm:bj m x with
  | none=>
   have hmg:bj (mN m) x=none:=by rw[gV,hm];rfl
   refine wGq tK ?_ ?_ (by simp only[go_sem,hg,ZI,hmg];try exact rfl)
   ·simp[hg,ZI];omega
   refine ZL (λ_:Unit=>True) (λ_=>0) (λ_=>[]) (λ_=>[]) () trivial ?_ λ_ _=>?_
   ·simp only[go_sem];exact ZU w3 w3 w3
   simp only[go_sem];refine wG tK ?_;refine wD (λh=>?_) (λh=>?_)
   ·cases h
   refine wGq tK ?_ ?_
   ·simp;omega
   refine ZB ⟨(had,off+1,L),⟨by simp only;omega,by simp only;exact hbi0.none hm⟩,by simp only;omega,ZU ?_ ?_ ?_⟩
   ·simp[go_sem];omega
   ·simp[go_sem]
   ·simp[go_sem]
  | some n=>
   have hmg:bj (mN m) x=some (.agg (ZN n)):=by rw[gV,hm];rfl
   have hbj:=hbi0.inner hm;have hel:=CT hm;have hc:(x::L.drop (off+1)).length+gv m had=L.length-off+gv m had:=by simp only[List.length_cons];omega
   rw[hc,←hdr] at hbj;have hcs:L.length-off+gv m had≤(nF m).length+1:=by have:=hbi.size;rw[YJ] at this;exact this
   refine wGq tK ?_ ?_ (by simp only[go_sem,hg,ZI,hmg,ZN];try exact rfl)
   ·simp[hg,ZI,hmg,ZN];omega
   refine ZL (λs:Nat×List (Int×Bool)×Nat×List Int=>s.1≤n.entries.length/\s.2.2.1≤s.2.2.2.length/\BJ m inn x n (L.length-off+gv m had) s.1 s.2.1 (s.2.2.2.drop s.2.2.1)) (λs=>n.entries.length-s.1)
    (λs=>(8,.osl 15 1 s.2.2.1 (s.2.2.2.length-s.2.2.1))::(10,.any)::(14,.any)::(15,.any)::(16,.any)::(20,.any)::(21,.any)::(26,.int .i64 s.1)::u0 27 19 []) (λs=>[(11,.map (mB s.2.1)),(15,.cells 3 1 (s.2.2.2.map ZI))]) (0,had,off,L) ⟨by simp,hoff,hbj⟩ ?_ λs hs=>?_
   ·simp only[go_sem];exact ZU w3 w3 w3
   obtain ⟨j,had2,off2,L2⟩:=s;obtain ⟨hj,hoff2,hb⟩:=hs;simp only at hj hoff2 hb;simp only[go_sem];refine wG tK ?_;refine wD (λh=>?_) (λh=>?_)
   ·have hjl:j<n.entries.length:=by simp at h;omega
    have hge:(n.entries.map ZE).getD j []=ZE (n.entries.getD j default):=Fam.getD hjl;have hw:IntKind.i64.wrap ((j:Int)+1)=((j+1:Nat):Int):=by rw[Eng.wrap_small z8 z8];rfl
    have hskip:=hb.skip hjl;have hadd:=hb.add hjl;generalize n.entries.getD j default=f at *;refine wGq tK ?_ ?_ (by simp only[go_sem,hge,ZE];try exact rfl)
    ·simp[hge,ZE,hjl]
    cases hgb:cO had2 f.fid with
    | true=>
     refine wDF (hb:=y7) (hk:=?_);refine wG tK ?_ w5 k0;refine ZB ⟨(j+1,had2,off2,L2),⟨by simp only;omega,hoff2,hskip hgb⟩,by simp only;omega,ZU ?_ ?_ ?_⟩
     ·simp[go_sem]
     ·simp[go_sem]
     ·simp[go_sem]
    | false=>
     refine wDT (hb:=y7) (hk:=?_);refine wR ?_;refine wN tK 3 ?_;refine wNq tK 1 ?_ ?_
     ·simp[AV.jE,AV.aY]
     refine wR ?_;refine wN tK 4 ?_;have hcs2:=hb.size;rw[YJ] at hcs2;obtain ⟨q,hq⟩:=hb.head;have hlq:=wE hoff2 hq;simp only[List.length_cons] at hlq;refine za tK rfl rfl z7 z7 z7 z7 (by intro _ _ _ _ h;cases h;rfl) z7 z8 j0 z7 u5 (by simp only[go_sem];decide) (by simp[rowsOf]) w3 (by simp[go_sem];omega) w3 (by simp[go_sem,ZI]) λoff' ho=>?_
     obtain ⟨b1,b2,b3⟩:=Iw hoff2 ho f.fid;have b1':List.take (off'+(L2.length-off2)) (List.drop (off2-off') (List.map ZI L2))++[[.int .i64 f.fid]]=List.map ZI (List.take (off'+(L2.length-off2)) (List.drop (off2-off') L2)++[f.fid]):=b1;clear b1;generalize List.take (off'+(L2.length-off2)) (List.drop (off2-off') L2)++[f.fid]=L3 at *;simp only[go_sem];rw[b1'];refine wG tK ?_ w5 k0;refine ZB ⟨(j+1,bt had2 f.fid true,off',L3),⟨by simp only;omega,by simp only;omega,by simp only;rw[b2];exact hadd hgb⟩,by simp only;omega,ZU ?_ ?_ ?_⟩
     ·simp[go_sem];omega
     ·simp[go_sem]
     ·simp[go_sem]
   ·have e:j=n.entries.length:=by simp at h;omega
    subst e;obtain ⟨h1,h2⟩:=hb.pop hcs;obtain ⟨q,hq⟩:=hb.head;have hlq:=wE hoff2 hq;simp only[List.length_cons] at hlq;refine wGq tK ?_ ?_
    ·simp;omega
    refine ZB ⟨(had2,off2+1,L2),⟨by simp only;omega,by simp only;rw[←List.drop_drop];exact h1⟩,?_,ZU ?_ ?_ ?_⟩
    ·simp only;rw[YJ,YJ] at h2;omega
    ·simp[go_sem];omega
    ·simp[go_sem]
    ·simp[go_sem]
 ·have e:L.drop off=[]:=List.drop_eq_nil_of_le (by simp at h;omega);rw[e] at hbi;have hf:=hbi.fin fid;refine wG tK ?_;refine wT ?_;cases hgb:cO had fid with
  | true=>rw[decide_eq_true (hf.1 hgb)];rfl
  | false=>rw[decide_eq_false λhh=>by rw[hf.2 hh] at hgb;cases hgb];rfl
theorem yg (s:List UInt8) (hs:s.length≤100000000):ae Tryz.prog 49 [.str s] [] (λr _=>r=.bool (cu s)):=by
 refine ZF tK (Tryz.func49) rfl (λC=>?_);simp only[Tryz.ntmps49,Tryz.results49,go_sem];refine wG tK ?_;refine ZL (λi:Nat=>i≤s.length/\∀j,j<i->okC (s.getD j 0)=true) (λi=>s.length-i) (λi=>(3,.any)::(4,.any)::(7,.int .i64 i)::u0 8 29 []) (λ_=>[]) 0 ⟨by omega,by omega⟩ ?_ λi hi=>?_
 ·simp only[go_sem];exact ZU w3 w3 w3
 obtain ⟨hi,hs2⟩:=hi;simp only[go_sem];refine wG tK ?_;refine wD (λh=>?_) (λh=>?_)
 ·have hlt:i<s.length:=by simp at h;omega
  have hw:=wi1 (i:=i) z8;have hno:okC (s.getD i 0)=false->cu s=false:=λh0=>by
   cases e:s.all okC with
   | false=>unfold cu;rw[e,Bool.and_false]
   | true=>
    have:=List.all_eq_true.1 e (s.getD i 0) (by rw[Wi,Wj hlt];exact YO hlt);rw[this] at h0;cases h0
  have hyes:okC (s.getD i 0)=true->∀j,j<i+1->okC (s.getD j 0)=true:=λh0 j hj=>by
   rcases Nat.lt_succ_iff_lt_or_eq.1 hj with h1 | rfl
   ·exact hs2 j h1
   ·exact h0
  refine wR ?_;refine wN tK 2 ?_;refine wR ?_;refine wN tK 2 ?_;refine wNq tK 1 ?_ ?_
  ·simp;omega
  refine wN tK 1 ?_;refine wR ?_;generalize s.getD i 0=c at hno hyes;have hc:okC c=((decide ((c.toNat:Int)≥97)&&decide ((c.toNat:Int)≤122))||(decide ((c.toNat:Int)≥48)&&decide ((c.toNat:Int)≤57))):=by
   unfold okC;rw[YZ];simp only[Bool.or_eq_true,Bool.and_eq_true,decide_eq_true_eq];omega
  generalize hf1:decide ((c.toNat:Int)≥97)=f1 at hc;generalize hf2:decide ((c.toNat:Int)≤122)=f2 at hc;generalize hf3:decide ((c.toNat:Int)≥48)=f3 at hc;generalize hf4:decide ((c.toNat:Int)≤57)=f4 at hc;refine wNq tK 14 ?_ ?_ z6 z6 Z0
  ·cases f1<;>cases f2<;>cases f3<;>cases f4<;>simp
  have hb:(bif (bif f1 then f2 else false) then true else (bif f3 then f4 else false))=okC c:=by
   rw[hc];cases f1<;>cases f2<;>cases f3<;>cases f4<;>rfl
  simp only[go_sem,hb];refine wG tK ?_;refine wD (λh=>?_) (λh=>?_)
  ·have h0:okC c=false:=by simpa using h
   refine wG tK ?_;refine wT ?_;rw[hno h0]
  ·have h0:okC c=true:=by simpa using h
   refine wG tK ?_ w5 k0;refine ZB ⟨i+1,⟨by omega,hyes h0⟩,by omega,ZU ?_ ?_ ?_⟩
   ·simp[go_sem]
   ·simp[go_sem]
   ·simp[go_sem]
 ·have e:i=s.length:=by simp at h;omega
  have:s.all okC=true:=List.all_eq_true.2 λx hx=>by
   obtain ⟨j,hj⟩:=Wu hx;have:=hs2 j (by rw[e];exact (Wp.1 hj).1)
   rwa [Wi,hj] at this
  refine wG tK ?_;refine wT ?_;unfold cu;rw[this,cJ,Bool.and_true];have h1:decide ((s.length:Int)>0)=decide (1≤s.length):=by rw[YZ];simp only[decide_eq_true_eq];omega
  have h2:decide ((s.length:Int)≤8)=decide (s.length≤8):=by rw[YZ];simp only[decide_eq_true_eq];omega
  rw[h1,h2]
end La
