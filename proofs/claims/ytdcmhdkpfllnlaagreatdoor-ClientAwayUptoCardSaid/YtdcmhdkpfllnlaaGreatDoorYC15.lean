/- Texts of this claim, part 15: RTree, PApply, RWith, RName. No condition. -/
import Derived.Test.YtdcmhdkpfllnlaaGreatDoorYC14
set_option maxRecDepth 10000
set_option maxHeartbeats 4000000
set_option linter.unusedSimpArgs false
set_option linter.unusedVariables false
namespace La
open Go Go.Eng Go.Proofs
theorem mC {α:Type}:∀{a b:List (Int×α)},eG a->eG b->(∀p,p∈a↔p∈b)->a=b
 | [],[],_,_,_=>rfl
 | [],q::b,_,_,h=>absurd ((h q).2 List.mem_cons_self) y8
 | p::a,[],_,_,h=>absurd ((h p).1 List.mem_cons_self) y8
 | p::a,q::b,ha,hb,h=>by
  have ha':=List.pairwise_cons.1 ha;have hb':=List.pairwise_cons.1 hb;have hpq:p=q:=by
   rcases List.mem_cons.1 ((h p).1 List.mem_cons_self) with e | e
   ·exact e
   ·rcases List.mem_cons.1 ((h q).2 List.mem_cons_self) with e2 | e2
    ·exact e2.symm
    ·have h1:=hb'.1 p e;have h2:=ha'.1 q e2;omega
  subst hpq;refine congrArg _ (mC ha'.2 hb'.2 λr=>?_);constructor
  ·intro hr
   rcases List.mem_cons.1 ((h r).1 (List.mem_cons_of_mem _ hr)) with e | e
   ·subst e;exact absurd (ha'.1 _ hr) z8
   ·exact e
  ·intro hr
   rcases List.mem_cons.1 ((h r).2 (List.mem_cons_of_mem _ hr)) with e | e
   ·subst e;exact absurd (hb'.1 _ hr) z8
   ·exact e
def ek {α:Type} (m:List (Int×α)) (seen:List Int):List (Int×α):=m.filter λp=>seen.contains p.1
theorem qe {α:Type} {m:List (Int×α)} (h:eG m) {n:Int} {v:α} (hm:(n,v)∈m) {seen:List Int}:bx (ek m seen) n v=ek m (n::seen):=by
 have hr:eG (ek m seen):=h.filter _;refine mC (cB hr) (h.filter _) λp=>?_
 obtain ⟨k,x⟩:=p;rw[cn hr];unfold ek;simp only[W9,List.contains_cons,Bool.or_eq_true,beq_iff_eq];constructor
 ·rintro (⟨rfl,rfl⟩ | ⟨h1,h2,h3⟩)
  ·exact ⟨hm,.inl rfl⟩
  ·exact ⟨h2,.inr h3⟩
 ·rintro ⟨h1,h2⟩
  by_cases e:k=n
  ·subst e;have a1:=bV h h1;have a2:=bV h hm;rw[a1] at a2;injection a2 with a2
   exact .inl ⟨rfl,a2⟩
  ·rcases h2 with h2 | h2
   ·exact absurd h2 e
   ·exact .inr ⟨e,h1,h2⟩
theorem qd {α:Type} {m:List (Int×α)} {seen:List Int} (h:∀p,p∈m->p.1∈seen):ek m seen=m:=by
 unfold ek;exact YR.2 λp hp=>by simpa using h p hp
def nB {α:Type}:List (Int×α)->List Int->Nat
 | [],_=>0
 | p::r,seen=>(if p.1∈seen then 0 else 1)+nB r seen
theorem yy {α:Type} (n:Int) (seen:List Int):∀m:List (Int×α),nB m (n::seen)≤nB m seen
 | []=>W7 _
 | p::r=>by
  have ih:=yy n seen r;unfold nB
  by_cases h:p.1∈seen
  ·rw[if_pos h,if_pos (List.mem_cons_of_mem _ h)];omega
  ·rw[if_neg h];split<;>omega
theorem mj {α:Type} {n:Int} {v:α} {seen:List Int}:∀{m:List (Int×α)},(n,v)∈m->n∉seen->nB m (n::seen)<nB m seen
 | [],h,_=>by cases h
 | p::r,h,hs=>by
  have hle:=yy n seen r;unfold nB
  rcases List.mem_cons.1 h with rfl | h
  ·rw[if_pos List.mem_cons_self,if_neg hs];omega
  ·have ih:=mj h hs
   by_cases h2:p.1∈seen
   ·rw[if_pos h2,if_pos (List.mem_cons_of_mem _ h2)];omega
   ·rw[if_neg h2];split<;>omega
theorem nt {α:Type} (m:List (Int×α)):ek m []=[]:=by unfold ek;simp
theorem AE {m:List (Int×Node)} {n:Int} {v:AV} (h:(n,v)∈mN m):∃nd,v=.agg (ZN nd)/\(n,nd)∈m:=by
 obtain ⟨p,hp,e⟩:=W5.1 h;injection e with e1 e2
 exact ⟨p.2,e2.symm,by rw[←e1];exact hp⟩
theorem AD {m:List (Int×Node)} {n:Int} {nd:Node} (h:(n,nd)∈m):(n,AV.agg (ZN nd))∈mN m:=W5.2 ⟨_,h,rfl⟩
theorem wq (m:List (Int×Node)):(mN m).length=m.length:=by simp[mN]
theorem AF:([]:List (Int×AV))=mN []:=rfl
theorem iN (m:List (Int×Node)) (n:Node) (hr:eG m):af Tryz.prog 126 [.rm (mN m),.agg (ZN n)] [] (λr _=>r=.rm (mN (bx m n.fid n))):=by
 unfold ZN;refine ZF tK (Tryz.func126) rfl (λC=>?_);simp only[Tryz.ntmps126,Tryz.results126,go_sem];refine wG tK ?_;refine si tK rfl rfl rfl z7 z7 z7 ?_;refine wG tK ?_;refine ZL (λ_:List Int=>True) (λseen=>nB m seen) (λ_=>(6,.any)::(7,.any)::u0 11 8 []) (λseen=>[(8,.map (mN (ek m seen))),(10,.iter (mN m) seen)]) [] trivial ?_ λseen _=>?_
 ·simp only[go_sem];exact ZU w3 (by simp[go_sem,nt,AF]) w3
 simp only[go_sem];refine wR ?_;refine vQ rfl rfl z7 z7 (λhall=>?_) (λn v hnv hns=>?_)
 ·have hsa:ek m seen=m:=qd λp hp=>hall (p.1,.agg (ZN p.2)) (AD hp)
  rw[hsa];simp only[go_sem];refine wG tK ?_;refine wDF (hb:=(rfl)) (hk:=?_);refine wGq tK ?_ ?_
  ·simp[AV.jY,AV.bc]
  rw[show AV.agg [.int .i64 n.fid,.bool n.dir,.sl (n.data.map ZY),.sl (n.entries.map ZE),.int .i64 n.version]=.agg (ZN n) from rfl,wu];refine kM 8 rfl ?_;simp only[go_sem];refine wT ?_;rfl
 ·obtain ⟨nd,rfl,hmem⟩:=AE hnv;have hpt:=qe hr hmem (seen:=seen);have hlt:=mj hmem hns;simp only[go_sem];refine wG tK ?_;refine wDT (hb:=(rfl)) (hk:=?_);refine wR ?_;refine sh rfl rfl z7 z7 (hnv) ?_;simp only[go_sem];refine wGq tK ?_ ?_ w6
  ·simp[ZN,AV.jY,AV.bc]
  refine ZB ⟨n::seen,hlt,ZU ?_ ?_ ?_⟩
  ·simp[go_sem]
  ·simp[go_sem,←hpt,←wu,ZN]
  ·simp[go_sem]
theorem CN {α:Type} {m:List (Int×α)} (h:eG m) {n:Int} {v:α} (hm:(n,v)∈m) (seen:List Int) (fid:Int) :
  (n≠fid->bx (eB (ek m seen) fid) n v=eB (ek m (n::seen)) fid)/\(n=fid->eB (ek m seen) fid=eB (ek m (n::seen)) fid):=by
 have hr:eG (ek m seen):=h.filter _;refine ⟨λhne=>?_,λhe=>?_⟩
 ·rw[←qe h hm];refine mC (cB (iV hr)) (iV (cB hr)) λp=>?_
  obtain ⟨k,x⟩:=p;rw[cn (iV hr)];unfold eB;rw[W9,W9,cn hr];simp only[Yh,beq_eq_false_iff_ne];constructor
  ·rintro (⟨rfl,rfl⟩ | ⟨h1,h2,h3⟩)
   ·exact ⟨.inl ⟨rfl,rfl⟩,hne⟩
   ·exact ⟨.inr ⟨h1,h2⟩,h3⟩
  ·rintro ⟨⟨rfl,rfl⟩ | ⟨h1,h2⟩,h3⟩
   ·exact .inl ⟨rfl,rfl⟩
   ·exact .inr ⟨h1,h2,h3⟩
 ·subst he;unfold eB ek;rw[List.filter_filter,List.filter_filter];refine List.filter_congr λp _=>?_
  simp only[List.contains_cons];cases h1:(p.1==n)<;>simp
theorem EN {α:Type} (fid:Int):eB ([]:List (Int×α)) fid=[]:=rfl
theorem By (m:List (Int×Node)) (fid:Int) (hr:eG m):af Tryz.prog 129 [.rm (mN m),.int .i64 fid] [] (λr _=>r=.rm (mN (eB m fid))):=by
 refine ZF tK (Tryz.func129) rfl (λC=>?_);simp only[Tryz.ntmps129,Tryz.results129,go_sem];refine wG tK ?_;refine si tK rfl rfl rfl z7 z7 z7 ?_;refine wG tK ?_;refine ZL (λ_:List Int=>True) (λseen=>nB m seen) (λ_=>(6,.any)::(7,.any)::u0 11 11 []) (λseen=>[(8,.map (mN (eB (ek m seen) fid))),(10,.iter (mN m) seen)]) [] trivial ?_ λseen _=>?_
 ·simp only[go_sem];exact ZU w3 (by simp[go_sem,nt,EN,AF]) w3
 simp only[go_sem];refine wR ?_;refine vQ rfl rfl z7 z7 (λhall=>?_) (λn v hnv hns=>?_)
 ·have hsa:ek m seen=m:=qd λp hp=>hall (p.1,.agg (ZN p.2)) (AD hp)
  rw[hsa];simp only[go_sem];refine wG tK ?_;refine wDF (hb:=(rfl)) (hk:=?_);refine wG tK ?_;refine kM 8 rfl ?_;simp only[go_sem];refine wT ?_;rfl
 ·obtain ⟨nd,rfl,hmem⟩:=AE hnv;obtain ⟨hp1,hp2⟩:=CN hr hmem seen fid;have hlt:=mj hmem hns;simp only[go_sem];refine wG tK ?_;refine wDT (hb:=(rfl)) (hk:=?_);refine wR ?_;refine sh rfl rfl z7 z7 (hnv) ?_;simp only[go_sem];refine wGq tK ?_ ?_ w6
  ·simp[ZN]
  by_cases hf:n=fid
  ·have hp2:=hp2 hf;refine wDF (hb:=(by simp[hf])) (hk:=?_);refine wG tK ?_;refine ZB ⟨n::seen,hlt,ZU ?_ ?_ ?_⟩
   ·simp[go_sem]
   ·simp[go_sem,←hp2]
   ·simp[go_sem]
  ·have hp1:=hp1 hf;refine wDT (hb:=(by simpa using hf)) (hk:=?_);refine wGq tK ?_ ?_ w6
   ·simp[ZN,AV.jY,AV.bc]
   refine ZB ⟨n::seen,hlt,ZU ?_ ?_ ?_⟩
   ·simp[go_sem]
   ·simp[go_sem,←hp1,←wu,ZN]
   ·simp[go_sem]
def oY (l:List Entry) (s:List UInt8):Option Entry:=l.find? λe=>e.name==s
def rQ (l:List Entry) (s:List UInt8):AV:=match oY l s with
 | some e=>.tup [.int .i64 e.fid,.bool true]
 | none=>.tup [.int .i64 0,.bool false]
theorem sw {l:List Entry} {s:List UInt8} (h:∀e,e∈l->(e.name==s)=false):oY l s=none:=List.find?_eq_none.2 λe he=>by rw[h e he];simp
theorem vW {l:List Entry} {s:List UInt8} {i:Nat} (hi:i<l.length) (h:∀e,e∈l.take i->(e.name==s)=false) (hs:((l.getD i default).name==s)=true):oY l s=some (l.getD i default):=by
 unfold oY;have e:l=l.take i++(l.getD i default::l.drop (i+1)):=by rw[←bT hi,Yu]
 conv=>lhs;rw[e]
 rw[List.find?_append,List.find?_eq_none.2 (λe he=>by rw[h e he];simp),Option.none_or,List.find?_cons,hs]
theorem gM (n:Node) (s:List UInt8) (hn:n.entries.length≤100000000):af Tryz.prog 50 [.agg (ZN n),.str s] [] (λr _=>r=rQ n.entries s):=by
 unfold rQ ZN;refine ZF tK (Tryz.func50) rfl (λC=>?_);simp only[Tryz.ntmps50,Tryz.results50,go_sem];refine wG tK ?_;refine ZL (λi:Nat=>i≤n.entries.length/\∀e,e∈n.entries.take i->(e.name==s)=false) (λi=>n.entries.length-i) (λi=>(7,.any)::(11,.int .i64 i)::u0 12 10 []) (λ_=>[]) 0 ⟨by omega,by simp⟩ ?_ λi hi=>?_
 ·simp only[go_sem];exact ZU w3 w3 w3
 obtain ⟨hi,hno⟩:=hi;simp only[go_sem];refine wG tK ?_;refine wD (λh=>?_) (λh=>?_)
 ·have hlt:i<n.entries.length:=by simp at h;omega
  have hg:(n.entries.map ZE).getD i []=ZE (n.entries.getD i default):=Fam.getD hlt;have hw:=wi1 (i:=i) z8;have hfs:=@vW n.entries s i hlt hno;have htk:=ZT hlt;generalize n.entries.getD i default=e at *;refine wGq tK ?_ ?_ n4
  ·simp[hg,ZE,hlt]
  cases hb:(e.name==s) with
  | true=>
   rw[hfs hb];refine wDT (hb:=y8) (hk:=?_);refine wG tK ?_;refine wT ?_;rfl
  | false=>
   refine wDF (hb:=y8) (hk:=?_);refine wG tK ?_ w5 k7;refine ZB ⟨i+1,⟨by omega,?_⟩,by omega,ZU ?_ ?_ ?_⟩
   ·rw[htk];intro x hx
    rcases List.mem_append.1 hx with hx | hx
    ·exact hno x hx
    ·rw[List.mem_singleton.1 hx];exact hb
   ·simp[go_sem]
   ·simp[go_sem]
   ·simp[go_sem]
 ·have e:i=n.entries.length:=by simp at h;omega
  subst e;rw[W2] at hno;rw[sw hno];refine wG tK ?_;refine wT ?_;rfl
def cM (l:List Entry) (s:List UInt8):List Entry:=l.filter λe=>!(e.name==s)
def wJ (n:Node) (s:List UInt8):Node:={ n with entries:=cM n.entries s }
theorem nq (n:Node) (s:List UInt8) (hn:n.entries.length≤100000000):af Tryz.prog 128 [.agg (ZN n),.str s] [] (λr _=>r=.agg (ZN (wJ n s))):=by
 have hz:cM (n.entries.take n.entries.length) s=cM n.entries s:=by rw[W2]
 unfold wJ ZN;simp only;rw[←hz];refine ZF tK (Tryz.func128) rfl (λC=>?_);simp only[Tryz.ntmps128,Tryz.results128,go_sem];refine wG tK ?_;refine ah (le_empty 22 101 2 z7) ?_;simp only[go_sem];refine ZL (λi:Nat=>i≤n.entries.length) (λi=>n.entries.length-i) (λi=>(5,.osl 22 2 0 (cM (n.entries.take i) s).length)::(7,.any)::(11,.int .i64 i)::u0 12 12 []) (λi=>[(22,.cells 101 2 ((cM (n.entries.take i) s).map ZE))]) 0 z8 ?_ λi hi=>?_
 ·simp only[go_sem];exact ZU (by simp[go_sem,cM]) (by simp[go_sem,cM]) w3
 simp only[go_sem];refine wG tK ?_;refine wD (λh=>?_) (λh=>?_)
 ·have hlt:i<n.entries.length:=by simp at h;omega
  have hg:(n.entries.map ZE).getD i []=ZE (n.entries.getD i default):=Fam.getD hlt;have hw:=wi1 (i:=i) z8;have htk:cM (n.entries.take (i+1)) s=if ((n.entries.getD i default).name==s)=true then cM (n.entries.take i) s else cM (n.entries.take i) s++[n.entries.getD i default]:=by
   rw[ZT hlt];unfold cM;rw[List.filter_append,List.filter_cons];cases ((n.entries.getD i default).name==s)<;>simp
  have hll:(cM (n.entries.take i) s).length≤i:=by
   have:=W6 (λe:Entry=>!(e.name==s)) (n.entries.take i);unfold cM;simp only[YF] at this;omega
  generalize n.entries.getD i default=e at *;refine wGq tK ?_ ?_ n4
  ·simp[hg,ZE,hlt]
  cases hb:(e.name==s) with
  | true=>
   rw[hb,if_pos rfl] at htk;refine wDF (hb:=y8) (hk:=?_);refine wG tK ?_ w5 k7;refine ZB ⟨i+1,by omega,by omega,ZU ?_ ?_ ?_⟩
   ·simp[go_sem,htk]
   ·simp[go_sem,htk]
   ·simp[go_sem]
  | false=>
   rw[hb,if_neg Bool.false_ne_true] at htk;refine wDT (hb:=y8) (hk:=?_);refine wGq tK ?_ ?_ w5
   ·simp[rowsOf];omega
   refine ZB ⟨i+1,by omega,by omega,ZU ?_ ?_ ?_⟩
   ·simp[go_sem,htk]
   ·simp[go_sem,htk,ZE]
   ·simp[go_sem]
 ·have e:i=n.entries.length:=by simp at h;omega
  subst e;refine wG tK ?_;refine ZZ 22 rfl (dt _) ?_;simp only[go_sem];refine wT ?_;simp
end La
namespace La
open Go Go.Eng
theorem BQ {α:Type} {a b:List (Int×α)} (ha:eG a) (hb:eG b) (h:∀k,bl a k=bl b k):a=b:=
 mC ha hb λp=>by
  obtain ⟨k,x⟩:=p;constructor
  ·intro hp;exact cZ (by rw[←h];exact bV ha hp)
  ·intro hp;exact cZ (by rw[h];exact bV hb hp)
theorem CO {α:Type} {m:List (Int×α)} (h:eG m) (f k:Int):bl (eB m f) k=if k=f then none else bl m k:=by
 have hd:eG (eB m f):=iV h;have hm:∀x,(k,x)∈eB m f↔(k,x)∈m/\k≠f:=λx=>by
  unfold eB;rw[W9];simp
 by_cases e:k=f
 ·rw[if_pos e];cases e1:bl (eB m f) k with
  | none=>rfl
  | some x=>exact absurd e ((hm x).1 (cZ e1)).2
 ·rw[if_neg e];cases e1:bl m k with
  | none=>
   cases e2:bl (eB m f) k with
   | none=>rfl
   | some x=>
    have:=bV h ((hm x).1 (cZ e2)).1;rw[e1] at this;cases this
  | some x=>exact bV hd ((hm x).2 ⟨cZ e1,e⟩)
theorem gj {l:List Node} (h:Up l) (n:Node):bx (bI l) n.fid n=bI (aD l n):=
 BQ (cB (bu l)) (bu _) λk=>by
  rw[m_ (bu l),cm h,cm (bn h n).1,kd h]
theorem EK {l:List Node} (h:Up l) (f:Int):eB (bI l) f=bI (eQ l f):=
 BQ (iV (bu l)) (bu _) λk=>by
  rw[CO (bu l),cm h,cm (gX h f).1,Ag h]
theorem rK {l:List Node} (h:Up l):bI l=l.map λn=>(n.fid,n):=by
 refine mC (bu l) ?_ λp=>?_
 ·exact List.pairwise_map.2 h
 ·obtain ⟨k,x⟩:=p;rw[W5];constructor
  ·intro hp;have:=bV (bu l) hp;rw[cm h] at this;obtain ⟨h1,h2⟩:=(ZO h).1 this;exact ⟨x,h1,by rw[h2]⟩
  ·rintro ⟨n,hn,e⟩;injection e with e1 e2
   subst e1 e2;exact cZ (by rw[cm h];exact (ZO h).2 ⟨hn,rfl⟩)
theorem mm {l:List Node} (h:Up l):(bI l).length=l.length:=by rw[rK h,List.length_map]
theorem du {n:Node} (h:EUp n.entries) (s:List UInt8):rQ n.entries s=match av n s with | some f=>.tup [.int .i64 f,.bool true] | none=>.tup [.int .i64 0,.bool false]:=by
 unfold rQ;cases e:oY n.entries s with
 | none=>
  have:av n s=none:=(xL h).2 λx hx hn=>by
   have:=List.find?_eq_none.1 e x hx;simp[hn] at this
  rw[this]
 | some x=>
  have hx:x∈n.entries:=List.mem_of_find?_eq_some e;have hs:x.name=s:=by have:=List.find?_some e;simpa using this
  have:av n s=some x.fid:=(YE h).2 (by rw[←hs];exact hx);rw[this]
def lY (s:List UInt8) (f:Int) (q:Bool×List Entry) (e:Entry):Bool×List Entry:=if (!q.1&&Op.bytesLess s e.name)=true then (true,q.2++[⟨s,f⟩]++[e]) else (q.1,q.2++[e])
def jP (s:List UInt8) (f:Int) (l:List Entry):Bool×List Entry:=l.foldl (lY s f) (false,[])
def rO (l:List Entry) (s:List UInt8) (f:Int):List Entry:=if (jP s f (cM l s)).1=true then (jP s f (cM l s)).2 else (jP s f (cM l s)).2++[⟨s,f⟩]
def rP (n:Node) (s:List UInt8) (f:Int):Node:={ n with entries:=rO n.entries s f }
theorem xH (s:List UInt8) (f:Int) (l:List Entry):(jP s f l).2.length≤2*l.length:=by
 have:∀(l:List Entry) (q:Bool×List Entry),(l.foldl (lY s f) q).2.length≤q.2.length+2*l.length:=λl=>by
  induction l with
  | nil=>intro q;simp
  | cons e r ih=>
   intro q;have h1:=ih (lY s f q e);have h2:(lY s f q e).2.length≤q.2.length+2:=by unfold lY;split<;>simp
   rw[List.foldl_cons,List.length_cons];omega
 have:=this l (false,[]);simpa[jP] using this
theorem Cp (s:List UInt8) (f:Int) (l:List Entry) (e:Entry):jP s f (l++[e])=lY s f (jP s f l) e:=by unfold jP;rw[List.foldl_append];rfl
theorem xG (s:List UInt8) (f:Int):∀(l:List Entry) (b:Bool) (q:List Entry),(∀e,e∈l->e.name<s)->l.foldl (lY s f) (b,q)=(b,q++l)
 | [],b,q,_=>by simp
 | e::r,b,q,h=>by
  have h1:=h e List.mem_cons_self;have h2:Op.bytesLess s e.name=false:=by
   rw[gh];exact decide_eq_false λh3=>tA _ (xc h1 h3)
  rw[List.foldl_cons,show lY s f (b,q) e=(b,q++[e]) from by simp[lY,h2],xG s f r b _ λx hx=>h x (List.mem_cons_of_mem _ hx)];simp
theorem uD (s:List UInt8) (f:Int):∀(l:List Entry) (q:List Entry),l.foldl (lY s f) (true,q)=(true,q++l)
 | [],q=>by simp
 | e::r,q=>by
  rw[List.foldl_cons,show lY s f (true,q) e=(true,q++[e]) from by simp[lY],uD s f r];simp
theorem wI {l:List Entry} (h:EUp l) {s:List UInt8} (hs:isE l s=false) (f:Int):rO l s f=bz l s f:=by
 obtain ⟨h1,h2⟩:=h.parts hs;have hlv:cM l s=l:=by
  unfold cM;refine YR.2 λe he=>?_
  have:e.name≠s:=λhn=>by
   have:=(oI h s).2 ⟨e,he,hn⟩;rw[hs] at this;cases this
  simpa using this
 unfold rO;rw[hlv];unfold bz;rw[hs,if_neg (show ¬(false=true) by simp)];have hl:jP s f l=(l.drop (aO l s)).foldl (lY s f) (false,l.take (aO l s)):=by
  unfold jP
  conv=>lhs;rw[←Yu (aO l s) l]
  rw[List.foldl_append,xG s f _ false [] h1];simp
 rw[hl];generalize hd:l.drop (aO l s)=d at h2 ⊢;cases d with
 | nil=>simp
 | cons e r=>
  have h3:Op.bytesLess s e.name=true:=by rw[gh];exact decide_eq_true (h2 e List.mem_cons_self)
  rw[List.foldl_cons,show lY s f (false,l.take (aO l s)) e=(true,l.take (aO l s)++[⟨s,f⟩]++[e]) from by simp[lY,h3],uD];simp
theorem gn {n:Node} (h:EUp n.entries) {s:List UInt8} (hs:isE n.entries s=false) (f:Int):rP n s f=aA n s f:=by
 unfold rP aA;rw[wI h hs]
open Classical in
noncomputable def bD (l:List Node) (a:Act):Int:=if bC l a=0 then (if eM l a.to=0 then (if cf (toN l a) a.toName=0 then (if bg l a.fid=true then (if decide (MReach (bI l) a.fid a.to)=true then 11 else 0) else 12) else cf (toN l a) a.toName) else eM l a.to) else bC l a
noncomputable def gp (l:List Node) (a:Act) (v:Int):List Node:=if bD l a=0 then aD (if a.to=a.dir then l else aD l { aC (ar l a.dir) a.name with version:=v }) { aA (toN l a) a.toName a.fid with version:=v } else l
noncomputable def aB (l:List Node) (a:Act):Int:=if a.kind=1 then cQ l a else if a.kind=2 then cQ l a else if a.kind=3 then df l a else if a.kind=4 then cN l a else if a.kind=5 then bD l a else 1
noncomputable def cy (l:List Node) (a:Act) (v:Int):List Node:=if a.kind=1 then dQ l a v else if a.kind=2 then dQ l a v else if a.kind=3 then dg l a v else if a.kind=4 then cO l a v else if a.kind=5 then gp l a v else l
noncomputable def wH (l:List Node) (a:Act) (v:Int):AV:=if aB l a=0 then .tup [.rm (mN (bI (cy l a v))),.int .i64 0] else .tup [.nilm,.int .i64 (aB l a)]
structure Ri (l:List Node):Prop where
 up:Up l
 eup:∀n,n∈l->EUp n.entries
theorem Ri.find {l:List Node} (h:Ri l) (k:Int):EUp (ar l k).entries:=by
 unfold ar;cases e:ak l k with
 | none=>exact List.Pairwise.nil
 | some n=>exact h.eup n ((ZO h.up).1 e).1
theorem Ri.put {l:List Node} (h:Ri l) {n:Node} (hn:EUp n.entries):Ri (aD l n):=
 ⟨(bn h.up n).1,λm hm=>by
  rcases fV hm with rfl | hm
  ·exact hn
  ·exact h.eup m hm⟩
theorem Ri.drop {l:List Node} (h:Ri l) (f:Int):Ri (eQ l f):=⟨(gX h.up f).1,λm hm=>h.eup m (((gX h.up f).2 m).1 hm).1⟩
theorem Ri.to {l:List Node} (h:Ri l) (a:Act):EUp (toN l a).entries:=by
 unfold toN;split
 ·exact kp (h.find _) _
 ·exact h.find _
theorem Ri.apply {l:List Node} (h:Ri l) (a:Act) (v:Int):Ri (cy l a v):=by
 have hmk:Ri (dQ l a v):=by
  unfold dQ;split
  ·rename_i he;unfold cQ at he;split at he
   ·split at he
    ·rename_i hr;refine (h.put ?_).put List.Pairwise.nil;exact (j_ (h.find _) (dv hr).2 _).1
    ·rename_i hr;exact absurd he hr
   ·rename_i hr;exact absurd he hr
  ·exact h
 unfold cy;split
 ·exact hmk
 ·split
  ·exact hmk
  ·split
   ·unfold dg;split
    ·exact h.put (h.find _)
    ·exact h
   ·split
    ·unfold cO;split
     ·exact (h.put (kp (h.find _) _)).drop _
     ·exact h
    ·split
     ·unfold gp;split
      ·rename_i he;have hr:cf (toN l a) a.toName=0:=by
        unfold bD at he;split at he
        ·split at he
         ·split at he
          ·assumption
          ·rename_i hr;exact absurd he hr
         ·rename_i hr;exact absurd he hr
        ·rename_i hr;exact absurd he hr
       refine Ri.put ?_ (j_ (h.to a) (dv hr).2 _).1;split
       ·exact h
       ·exact h.put (kp (h.find _) _)
      ·exact h
     ·exact h
end La
namespace La
open Go Go.Eng Go.Proofs
theorem xE {α:Type} {L T:List α} {off:Nat} (h:off≤L.length) (ht:L.drop off=T):L.length=off+T.length:=by
 have:=congrArg List.length ht;rw[YY] at this;omega
theorem Jq {L:List Int} {off off':Nat} (h:off≤L.length) (ho:off'=off\/off'=0) (f:Int) :
  (((L.map ZI).drop (off-off')).take (off'+(L.length-off))++[ZI f])=(((L.drop (off-off')).take (off'+(L.length-off)))++[f]).map ZI /\
  ((((L.drop (off-off')).take (off'+(L.length-off)))++[f]).drop off')=L.drop off++[f]/\(((L.drop (off-off')).take (off'+(L.length-off)))++[f]).length=off'+(L.length-off+1):=by
 have hl:((L.drop (off-off')).take (off'+(L.length-off))).length=off'+(L.length-off):=by simp;omega
 refine ⟨?_,?_,?_⟩
 ·rw[List.map_append,Yt,Y0];rfl
 ·rw[List.drop_append_of_le_length z8,List.drop_take,List.drop_drop];have e:off-off'+off'=off:=by rcases ho with rfl | rfl<;>omega
  rw[e,Yq]
  congr 1
  exact Wy y8
 ·rw[List.length_append,hl];simp;omega
theorem DS {m:List (Int×Node)} {x:Int} {n:Node} (h:bl m x=some n):n.entries.length≤(oh m).length:=by
 have h1:=cZ h;unfold oh;clear h
 induction m with
 | nil=>cases h1
 | cons p r ih=>
  simp only[List.flatMap_cons,List.length_append,List.length_map]
  rcases List.mem_cons.1 h1 with rfl | h1
  ·simp only;omega
  ·have:=ih h1;omega
theorem EJ (k:Int):bx ([]:List (Int×AV)) k (.bool true)=mB (bx [] k true):=rfl
open Classical in
theorem A1 (m:List (Int×Node)) (fid inn:Int) (hsz:(oh m).length≤90000000):af Tryz.prog 130 [.rm (mN m),.int .i64 fid,.int .i64 inn] [] (λr _=>r=.bool (decide (MReach m inn fid))):=by
 refine ZF tK (Tryz.func130) rfl (λC=>?_);simp only[Tryz.ntmps130,Tryz.results130,go_sem];refine wGq tK ?_ ?_
 ·simp[go_sem,AV.jY,AV.bc]
 refine ZL (λs:List (Int×Bool)×Nat×List Int=>s.2.1≤s.2.2.length/\BI m inn s.1 (s.2.2.drop s.2.1)) (λs=>(s.2.2.length-s.2.1)+gS m s.1) (λs=>(8,.osl 15 1 s.2.1 (s.2.2.length-s.2.1))::(10,.any)::u0 14 32 [])
  (λs=>[(11,.map (mB s.1)),(15,.cells 3 1 (s.2.2.map ZI))]) (bx [] inn true,0,[inn]) ⟨by simp,BI.begin m inn⟩ ?_ λs hs=>?_
 ·simp only[go_sem];exact ZU w3 (by simp[go_sem,EJ,ZI]) w3
 obtain ⟨had,off,L⟩:=s;obtain ⟨hoff,hbi⟩:=hs;simp only at hoff hbi;simp only[go_sem];refine wG tK ?_;refine wD (λh=>?_) (λh=>?_)
 ·have hlt:off<L.length:=by simp at h;omega
  have hg:(L.map ZI).getD off []=ZI (L.getD off default):=Fam.getD hlt;have hdr:=bT hlt;have hl1:L.length-off=(L.drop (off+1)).length+1:=by rw[YY];omega
  generalize hx:L.getD off default=x at *;have hbi0:=hbi;rw[hdr] at hbi0;cases hm:bl m x with
  | none=>
   have hmg:bl (mN m) x=none:=by rw[gi,hm];rfl
   refine wGq tK ?_ ?_ (by simp only[go_sem,hg,ZI,hmg];try exact rfl)
   ·simp[hg,ZI];omega
   refine ZL (λ_:Unit=>True) (λ_=>0) (λ_=>[]) (λ_=>[]) () trivial ?_ λ_ _=>?_
   ·simp only[go_sem];exact ZU w3 w3 w3
   simp only[go_sem];refine wG tK ?_;refine wD (λh=>?_) (λh=>?_)
   ·cases h
   refine wGq tK ?_ ?_
   ·simp;omega
   refine ZB ⟨(had,off+1,L),⟨by simp only;omega,by simp only;exact hbi0.none hm⟩,by simp only;omega,ZU ?_ ?_ ?_⟩
   ·simp[go_sem];omega
   ·simp[go_sem]
   ·simp[go_sem]
  | some n=>
   have hmg:bl (mN m) x=some (.agg (ZN n)):=by rw[gi,hm];rfl
   have hbj:=hbi0.inner hm;have hel:=DS hm;have hc:(x::L.drop (off+1)).length+gS m had=L.length-off+gS m had:=by simp only[List.length_cons];omega
   rw[hc,←hdr] at hbj;have hcs:L.length-off+gS m had≤(oh m).length+1:=by have:=hbi.size;rw[YY] at this;exact this
   refine wGq tK ?_ ?_ (by simp only[go_sem,hg,ZI,hmg,ZN];try exact rfl)
   ·simp[hg,ZI,hmg,ZN];omega
   refine ZL (λs:Nat×List (Int×Bool)×Nat×List Int=>s.1≤n.entries.length/\s.2.2.1≤s.2.2.2.length/\BJ m inn x n (L.length-off+gS m had) s.1 s.2.1 (s.2.2.2.drop s.2.2.1)) (λs=>n.entries.length-s.1)
    (λs=>(8,.osl 15 1 s.2.2.1 (s.2.2.2.length-s.2.2.1))::(10,.any)::(14,.any)::(15,.any)::(16,.any)::(20,.any)::(21,.any)::(26,.int .i64 s.1)::u0 27 19 []) (λs=>[(11,.map (mB s.2.1)),(15,.cells 3 1 (s.2.2.2.map ZI))]) (0,had,off,L) ⟨by simp,hoff,hbj⟩ ?_ λs hs=>?_
   ·simp only[go_sem];exact ZU w3 w3 w3
   obtain ⟨j,had2,off2,L2⟩:=s;obtain ⟨hj,hoff2,hb⟩:=hs;simp only at hj hoff2 hb;simp only[go_sem];refine wG tK ?_;refine wD (λh=>?_) (λh=>?_)
   ·have hjl:j<n.entries.length:=by simp at h;omega
    have hge:(n.entries.map ZE).getD j []=ZE (n.entries.getD j default):=Fam.getD hjl;have hw:IntKind.i64.wrap ((j:Int)+1)=((j+1:Nat):Int):=by rw[Eng.wrap_small z8 z8];rfl
    have hskip:=hb.skip hjl;have hadd:=hb.add hjl;generalize n.entries.getD j default=f at *;refine wGq tK ?_ ?_ (by simp only[go_sem,hge,ZE];try exact rfl)
    ·simp[hge,ZE,hjl]
    cases hgb:cT had2 f.fid with
    | true=>
     refine wDF (hb:=y8) (hk:=?_);refine wG tK ?_ w5 k7;refine ZB ⟨(j+1,had2,off2,L2),⟨by simp only;omega,hoff2,hskip hgb⟩,by simp only;omega,ZU ?_ ?_ ?_⟩
     ·simp[go_sem]
     ·simp[go_sem]
     ·simp[go_sem]
    | false=>
     refine wDT (hb:=y8) (hk:=?_);refine wR ?_;refine wN tK 3 ?_;refine wNq tK 1 ?_ ?_
     ·simp[AV.jY,AV.bc]
     refine wR ?_;refine wN tK 4 ?_;have hcs2:=hb.size;rw[YY] at hcs2;obtain ⟨q,hq⟩:=hb.head;have hlq:=xE hoff2 hq;simp only[List.length_cons] at hlq;refine Ab tK rfl rfl z7 z7 z7 z7 (by intro _ _ _ _ h;cases h;rfl) z7 z8 j0 z7 x8 (by simp only[go_sem];decide) (by simp[rowsOf]) w3 (by simp[go_sem];omega) w3 (by simp[go_sem,ZI]) λoff' ho=>?_
     obtain ⟨b1,b2,b3⟩:=Jq hoff2 ho f.fid;have b1':List.take (off'+(L2.length-off2)) (List.drop (off2-off') (List.map ZI L2))++[[.int .i64 f.fid]]=List.map ZI (List.take (off'+(L2.length-off2)) (List.drop (off2-off') L2)++[f.fid]):=b1;clear b1;generalize List.take (off'+(L2.length-off2)) (List.drop (off2-off') L2)++[f.fid]=L3 at *;simp only[go_sem];rw[b1'];refine wG tK ?_ w5 k7;refine ZB ⟨(j+1,bx had2 f.fid true,off',L3),⟨by simp only;omega,by simp only;omega,by simp only;rw[b2];exact hadd hgb⟩,by simp only;omega,ZU ?_ ?_ ?_⟩
     ·simp[go_sem];omega
     ·simp[go_sem]
     ·simp[go_sem]
   ·have e:j=n.entries.length:=by simp at h;omega
    subst e;obtain ⟨h1,h2⟩:=hb.pop hcs;obtain ⟨q,hq⟩:=hb.head;have hlq:=xE hoff2 hq;simp only[List.length_cons] at hlq;refine wGq tK ?_ ?_
    ·simp;omega
    refine ZB ⟨(had2,off2+1,L2),⟨by simp only;omega,by simp only;rw[←List.drop_drop];exact h1⟩,?_,ZU ?_ ?_ ?_⟩
    ·simp only;rw[YY,YY] at h2;omega
    ·simp[go_sem];omega
    ·simp[go_sem]
    ·simp[go_sem]
 ·have e:L.drop off=[]:=List.drop_eq_nil_of_le (by simp at h;omega);rw[e] at hbi;have hf:=hbi.fin fid;refine wG tK ?_;refine wT ?_;cases hgb:cT had fid with
  | true=>rw[decide_eq_true (hf.1 hgb)];rfl
  | false=>rw[decide_eq_false λhh=>by rw[hf.2 hh] at hgb;cases hgb];rfl
theorem zb (s:List UInt8) (hs:s.length≤100000000):af Tryz.prog 49 [.str s] [] (λr _=>r=.bool (cE s)):=by
 refine ZF tK (Tryz.func49) rfl (λC=>?_);simp only[Tryz.ntmps49,Tryz.results49,go_sem];refine wG tK ?_;refine ZL (λi:Nat=>i≤s.length/\∀j,j<i->okC (s.getD j 0)=true) (λi=>s.length-i) (λi=>(3,.any)::(4,.any)::(7,.int .i64 i)::u0 8 29 []) (λ_=>[]) 0 ⟨by omega,by omega⟩ ?_ λi hi=>?_
 ·simp only[go_sem];exact ZU w3 w3 w3
 obtain ⟨hi,hs2⟩:=hi;simp only[go_sem];refine wG tK ?_;refine wD (λh=>?_) (λh=>?_)
 ·have hlt:i<s.length:=by simp at h;omega
  have hw:=wi1 (i:=i) z8;have hno:okC (s.getD i 0)=false->cE s=false:=λh0=>by
   cases e:s.all okC with
   | false=>unfold cE;rw[e,Bool.and_false]
   | true=>
    have:=List.all_eq_true.1 e (s.getD i 0) (by rw[Wv,Ww hlt];exact Yb hlt);rw[this] at h0;cases h0
  have hyes:okC (s.getD i 0)=true->∀j,j<i+1->okC (s.getD j 0)=true:=λh0 j hj=>by
   rcases Nat.lt_succ_iff_lt_or_eq.1 hj with h1 | rfl
   ·exact hs2 j h1
   ·exact h0
  refine wR ?_;refine wN tK 2 ?_;refine wR ?_;refine wN tK 2 ?_;refine wNq tK 1 ?_ ?_
  ·simp;omega
  refine wN tK 1 ?_;refine wR ?_;generalize s.getD i 0=c at hno hyes;have hc:okC c=((decide ((c.toNat:Int)≥97)&&decide ((c.toNat:Int)≤122))||(decide ((c.toNat:Int)≥48)&&decide ((c.toNat:Int)≤57))):=by
   unfold okC;rw[Ym];simp only[Bool.or_eq_true,Bool.and_eq_true,decide_eq_true_eq];omega
  generalize hf1:decide ((c.toNat:Int)≥97)=f1 at hc;generalize hf2:decide ((c.toNat:Int)≤122)=f2 at hc;generalize hf3:decide ((c.toNat:Int)≥48)=f3 at hc;generalize hf4:decide ((c.toNat:Int)≤57)=f4 at hc;refine wNq tK 14 ?_ ?_ z6 z6 WB
  ·cases f1<;>cases f2<;>cases f3<;>cases f4<;>simp
  have hb:(bif (bif f1 then f2 else false) then true else (bif f3 then f4 else false))=okC c:=by
   rw[hc];cases f1<;>cases f2<;>cases f3<;>cases f4<;>rfl
  simp only[go_sem,hb];refine wG tK ?_;refine wD (λh=>?_) (λh=>?_)
  ·have h0:okC c=false:=by simpa using h
   refine wG tK ?_;refine wT ?_;rw[hno h0]
  ·have h0:okC c=true:=by simpa using h
   refine wG tK ?_ w5 k7;refine ZB ⟨i+1,⟨by omega,hyes h0⟩,by omega,ZU ?_ ?_ ?_⟩
   ·simp[go_sem]
   ·simp[go_sem]
   ·simp[go_sem]
 ·have e:i=s.length:=by simp at h;omega
  have:s.all okC=true:=List.all_eq_true.2 λx hx=>by
   obtain ⟨j,hj⟩:=W8 hx;have:=hs2 j (by rw[e];exact (W3.1 hj).1)
   rwa [Wv,hj] at this
  refine wG tK ?_;refine wT ?_;unfold cE;rw[this,cP,Bool.and_true];have h1:decide ((s.length:Int)>0)=decide (1≤s.length):=by rw[Ym];simp only[decide_eq_true_eq];omega
  have h2:decide ((s.length:Int)≤8)=decide (s.length≤8):=by rw[Ym];simp only[decide_eq_true_eq];omega
  rw[h1,h2]
end La
