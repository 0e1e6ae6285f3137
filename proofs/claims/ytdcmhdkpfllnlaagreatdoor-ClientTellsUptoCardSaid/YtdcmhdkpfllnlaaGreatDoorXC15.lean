/- Texts of this claim, part 15: RTree, PApply, RWith, RName. No condition. -/
import Derived.Test.YtdcmhdkpfllnlaaGreatDoorXC12
import Derived.Test.YtdcmhdkpfllnlaaGreatDoorXC8
import Derived.Test.YtdcmhdkpfllnlaaGreatDoorXC14
import Derived.Test.YtdcmhdkpfllnlaaGreatDoorXC13
import Derived.Test.YtdcmhdkpfllnlaaGreatDoorXC10
set_option maxRecDepth 10000
set_option maxHeartbeats 4000000
set_option linter.unusedSimpArgs false
set_option linter.unusedVariables false
namespace La
open Go Go.Eng Go.Proofs
theorem lQ {α:Type}:∀{a b:List (Int×α)},eb a->eb b->(∀p,p∈a↔p∈b)->a=b
 | [],[],_,_,_=>rfl
 | [],q::b,_,_,h=>absurd ((h q).2 List.mem_cons_self) y8
 | p::a,[],_,_,h=>absurd ((h p).1 List.mem_cons_self) y8
 | p::a,q::b,ha,hb,h=>by
  have ha':=List.pairwise_cons.1 ha;have hb':=List.pairwise_cons.1 hb;have hpq:p=q:=by
   rcases List.mem_cons.1 ((h p).1 List.mem_cons_self) with e | e
   ·exact e
   ·rcases List.mem_cons.1 ((h q).2 List.mem_cons_self) with e2 | e2
    ·exact e2.symm
    ·have h1:=hb'.1 p e;have h2:=ha'.1 q e2;omega
  subst hpq;refine congrArg _ (lQ ha'.2 hb'.2 λr=>?_);constructor
  ·intro hr
   rcases List.mem_cons.1 ((h r).1 (List.mem_cons_of_mem _ hr)) with e | e
   ·subst e;exact absurd (ha'.1 _ hr) z8
   ·exact e
  ·intro hr
   rcases List.mem_cons.1 ((h r).2 (List.mem_cons_of_mem _ hr)) with e | e
   ·subst e;exact absurd (hb'.1 _ hr) z8
   ·exact e
def dO {α:Type} (m:List (Int×α)) (seen:List Int):List (Int×α):=m.filter λp=>seen.contains p.1
theorem pk {α:Type} {m:List (Int×α)} (h:eb m) {n:Int} {v:α} (hm:(n,v)∈m) {seen:List Int}:br (dO m seen) n v=dO m (n::seen):=by
 have hr:eb (dO m seen):=h.filter _;refine lQ (ck hr) (h.filter _) λp=>?_
 obtain ⟨k,x⟩:=p;rw[bS hr];unfold dO;simp only[List.mem_filter,List.contains_cons,Bool.or_eq_true,beq_iff_eq];constructor
 ·rintro (⟨rfl,rfl⟩ | ⟨h1,h2,h3⟩)
  ·exact ⟨hm,.inl rfl⟩
  ·exact ⟨h2,.inr h3⟩
 ·rintro ⟨h1,h2⟩
  by_cases e:k=n
  ·subst e;have a1:=bG h h1;have a2:=bG h hm;rw[a1] at a2;injection a2 with a2
   exact .inl ⟨rfl,a2⟩
  ·rcases h2 with h2 | h2
   ·exact absurd h2 e
   ·exact .inr ⟨e,h1,h2⟩
theorem pj {α:Type} {m:List (Int×α)} {seen:List Int} (h:∀p,p∈m->p.1∈seen):dO m seen=m:=by
 unfold dO;exact List.filter_eq_self.2 λp hp=>by simpa using h p hp
def mH {α:Type}:List (Int×α)->List Int->Nat
 | [],_=>0
 | p::r,seen=>(if p.1∈seen then 0 else 1)+mH r seen
theorem xk {α:Type} (n:Int) (seen:List Int):∀m:List (Int×α),mH m (n::seen)≤mH m seen
 | []=>Nat.le_refl _
 | p::r=>by
  have ih:=xk n seen r;unfold mH
  by_cases h:p.1∈seen
  ·rw[if_pos h,if_pos (List.mem_cons_of_mem _ h)];omega
  ·rw[if_neg h];split<;>omega
theorem lG {α:Type} {n:Int} {v:α} {seen:List Int}:∀{m:List (Int×α)},(n,v)∈m->n∉seen->mH m (n::seen)<mH m seen
 | [],h,_=>by cases h
 | p::r,h,hs=>by
  have hle:=xk n seen r;unfold mH
  rcases List.mem_cons.1 h with rfl | h
  ·rw[if_pos List.mem_cons_self,if_neg hs];omega
  ·have ih:=lG h hs
   by_cases h2:p.1∈seen
   ·rw[if_pos h2,if_pos (List.mem_cons_of_mem _ h2)];omega
   ·rw[if_neg h2];split<;>omega
theorem mz {α:Type} (m:List (Int×α)):dO m []=[]:=by unfold dO;simp
theorem ze {m:List (Int×Node)} {n:Int} {v:AV} (h:(n,v)∈mN m):∃nd,v=.agg (ZN nd)/\(n,nd)∈m:=by
 obtain ⟨p,hp,e⟩:=List.mem_map.1 h;injection e with e1 e2
 exact ⟨p.2,e2.symm,by rw[←e1];exact hp⟩
theorem zd {m:List (Int×Node)} {n:Int} {nd:Node} (h:(n,nd)∈m):(n,AV.agg (ZN nd))∈mN m:=List.mem_map.2 ⟨_,h,rfl⟩
theorem uU (m:List (Int×Node)):(mN m).length=m.length:=by simp[mN]
theorem zf:([]:List (Int×AV))=mN []:=rfl
theorem ic (m:List (Int×Node)) (n:Node) (hr:eb m):ae Tryz.prog 126 [.rm (mN m),.agg (ZN n)] [] (λr _=>r=.rm (mN (br m n.fid n))):=by
 unfold ZN;refine ZF tK (Tryz.func126) rfl (λC=>?_);simp only[Tryz.ntmps126,Tryz.results126,go_sem];refine wG tK ?_;refine qZ tK rfl rfl rfl z7 z7 z7 ?_;refine wG tK ?_;refine ZL (λ_:List Int=>True) (λseen=>mH m seen) (λ_=>[(6,.any),(7,.any),(11,.any),(12,.any),(13,.any),(14,.any),(15,.any),(16,.any),(17,.any),(18,.any)]) (λseen=>[(8,.map (mN (dO m seen))),(10,.iter (mN m) seen)]) [] trivial ?_ λseen _=>?_
 ·simp only[go_sem];exact ZU w3 (by simp[go_sem,mz,zf]) w3
 simp only[go_sem];refine wR ?_;refine uA rfl rfl z7 z7 (λhall=>?_) (λn v hnv hns=>?_)
 ·have hsa:dO m seen=m:=pj λp hp=>hall (p.1,.agg (ZN p.2)) (zd hp)
  rw[hsa];simp only[go_sem];refine wG tK ?_;refine wDF (hb:=(rfl)) (hk:=?_);refine wGq tK ?_ ?_
  ·simp[AV.ju,AV.aX]
  rw[show AV.agg [.int .i64 n.fid,.bool n.dir,.sl (n.data.map ZY),.sl (n.entries.map ZE),.int .i64 n.version]=.agg (ZN n) from rfl,uV];refine kb 8 rfl ?_;simp only[go_sem];refine wT ?_;rfl
 ·obtain ⟨nd,rfl,hmem⟩:=ze hnv;have hpt:=pk hr hmem (seen:=seen);have hlt:=lG hmem hns;simp only[go_sem];refine wG tK ?_;refine wDT (hb:=(rfl)) (hk:=?_);refine wR ?_;refine qY rfl rfl z7 z7 (hnv) ?_;simp only[go_sem];refine wGq tK ?_ ?_ w6
  ·simp[ZN,AV.ju,AV.aX]
  refine ZB ⟨n::seen,hlt,ZU ?_ ?_ ?_⟩
  ·simp[go_sem]
  ·simp[go_sem,←hpt,←uV,ZN]
  ·simp[go_sem]
theorem Bt {α:Type} {m:List (Int×α)} (h:eb m) {n:Int} {v:α} (hm:(n,v)∈m) (seen:List Int) (fid:Int) :
  (n≠fid->br (dX (dO m seen) fid) n v=dX (dO m (n::seen)) fid)/\(n=fid->dX (dO m seen) fid=dX (dO m (n::seen)) fid):=by
 have hr:eb (dO m seen):=h.filter _;refine ⟨λhne=>?_,λhe=>?_⟩
 ·rw[←pk h hm];refine lQ (ck (ir hr)) (ir (ck hr)) λp=>?_
  obtain ⟨k,x⟩:=p;rw[bS (ir hr)];unfold dX;rw[List.mem_filter,List.mem_filter,bS hr];simp only[Bool.not_eq_true',beq_eq_false_iff_ne];constructor
  ·rintro (⟨rfl,rfl⟩ | ⟨h1,h2,h3⟩)
   ·exact ⟨.inl ⟨rfl,rfl⟩,hne⟩
   ·exact ⟨.inr ⟨h1,h2⟩,h3⟩
  ·rintro ⟨⟨rfl,rfl⟩ | ⟨h1,h2⟩,h3⟩
   ·exact .inl ⟨rfl,rfl⟩
   ·exact .inr ⟨h1,h2,h3⟩
 ·subst he;unfold dX dO;rw[List.filter_filter,List.filter_filter];refine List.filter_congr λp _=>?_
  simp only[List.contains_cons];cases h1:(p.1==n)<;>simp
theorem Dq {α:Type} (fid:Int):dX ([]:List (Int×α)) fid=[]:=rfl
theorem Ah (m:List (Int×Node)) (fid:Int) (hr:eb m):ae Tryz.prog 129 [.rm (mN m),.int .i64 fid] [] (λr _=>r=.rm (mN (dX m fid))):=by
 refine ZF tK (Tryz.func129) rfl (λC=>?_);simp only[Tryz.ntmps129,Tryz.results129,go_sem];refine wG tK ?_;refine qZ tK rfl rfl rfl z7 z7 z7 ?_;refine wG tK ?_;refine ZL (λ_:List Int=>True) (λseen=>mH m seen) (λ_=>[(6,.any),(7,.any),(11,.any),(12,.any),(13,.any),(14,.any),(15,.any),(16,.any),(17,.any),(18,.any),(19,.any),(20,.any),(21,.any)]) (λseen=>[(8,.map (mN (dX (dO m seen) fid))),(10,.iter (mN m) seen)]) [] trivial ?_ λseen _=>?_
 ·simp only[go_sem];exact ZU w3 (by simp[go_sem,mz,Dq,zf]) w3
 simp only[go_sem];refine wR ?_;refine uA rfl rfl z7 z7 (λhall=>?_) (λn v hnv hns=>?_)
 ·have hsa:dO m seen=m:=pj λp hp=>hall (p.1,.agg (ZN p.2)) (zd hp)
  rw[hsa];simp only[go_sem];refine wG tK ?_;refine wDF (hb:=(rfl)) (hk:=?_);refine wG tK ?_;refine kb 8 rfl ?_;simp only[go_sem];refine wT ?_;rfl
 ·obtain ⟨nd,rfl,hmem⟩:=ze hnv;obtain ⟨hp1,hp2⟩:=Bt hr hmem seen fid;have hlt:=lG hmem hns;simp only[go_sem];refine wG tK ?_;refine wDT (hb:=(rfl)) (hk:=?_);refine wR ?_;refine qY rfl rfl z7 z7 (hnv) ?_;simp only[go_sem];refine wGq tK ?_ ?_ w6
  ·simp[ZN]
  by_cases hf:n=fid
  ·have hp2:=hp2 hf;refine wDF (hb:=(by simp[hf])) (hk:=?_);refine wG tK ?_;refine ZB ⟨n::seen,hlt,ZU ?_ ?_ ?_⟩
   ·simp[go_sem]
   ·simp[go_sem,←hp2]
   ·simp[go_sem]
  ·have hp1:=hp1 hf;refine wDT (hb:=(by simpa using hf)) (hk:=?_);refine wGq tK ?_ ?_ w6
   ·simp[ZN,AV.ju,AV.aX]
   refine ZB ⟨n::seen,hlt,ZU ?_ ?_ ?_⟩
   ·simp[go_sem]
   ·simp[go_sem,←hp1,←uV,ZN]
   ·simp[go_sem]
def nX (l:List Entry) (s:List UInt8):Option Entry:=l.find? λe=>e.name==s
def qI (l:List Entry) (s:List UInt8):AV:=match nX l s with
 | some e=>.tup [.int .i64 e.fid,.bool true]
 | none=>.tup [.int .i64 0,.bool false]
theorem rk {l:List Entry} {s:List UInt8} (h:∀e,e∈l->(e.name==s)=false):nX l s=none:=List.find?_eq_none.2 λe he=>by rw[h e he];simp
theorem uG {l:List Entry} {s:List UInt8} {i:Nat} (hi:i<l.length) (h:∀e,e∈l.take i->(e.name==s)=false) (hs:((l.getD i default).name==s)=true):nX l s=some (l.getD i default):=by
 unfold nX;have e:l=l.take i++(l.getD i default::l.drop (i+1)):=by rw[←bY hi,List.take_append_drop]
 conv=>lhs;rw[e]
 rw[List.find?_append,List.find?_eq_none.2 (λe he=>by rw[h e he];simp),Option.none_or,List.find?_cons,hs]
theorem iv (n:Node) (s:List UInt8) (hn:n.entries.length≤100000000):ae Tryz.prog 50 [.agg (ZN n),.str s] [] (λr _=>r=qI n.entries s):=by
 unfold qI ZN;refine ZF tK (Tryz.func50) rfl (λC=>?_);simp only[Tryz.ntmps50,Tryz.results50,go_sem];refine wG tK ?_;refine ZL (λi:Nat=>i≤n.entries.length/\∀e,e∈n.entries.take i->(e.name==s)=false) (λi=>n.entries.length-i) (λi=>[(7,.any),(11,.int .i64 i),(12,.any),(13,.any),(14,.any),(15,.any),(16,.any),(17,.any),(18,.any),(19,.any),(20,.any),(21,.any)]) (λ_=>[]) 0 ⟨by omega,by simp⟩ ?_ λi hi=>?_
 ·simp only[go_sem];exact ZU w3 w3 w3
 obtain ⟨hi,hno⟩:=hi;simp only[go_sem];refine wG tK ?_;refine wD (λh=>?_) (λh=>?_)
 ·have hlt:i<n.entries.length:=by simp at h;omega
  have hg:(n.entries.map ZE).getD i []=ZE (n.entries.getD i default):=Fam.getD hlt;have hw:=wi1 (i:=i) z8;have hfs:=@uG n.entries s i hlt hno;have htk:=ZT hlt;generalize n.entries.getD i default=e at *;refine wGq tK ?_ ?_ s7
  ·simp[hg,ZE,hlt]
  cases hb:(e.name==s) with
  | true=>
   rw[hfs hb];refine wDT (hb:=y8) (hk:=?_);refine wG tK ?_;refine wT ?_;rfl
  | false=>
   refine wDF (hb:=y8) (hk:=?_);refine wG tK ?_ w5 k0;refine ZB ⟨i+1,⟨by omega,?_⟩,by omega,ZU ?_ ?_ ?_⟩
   ·rw[htk];intro x hx
    rcases List.mem_append.1 hx with hx | hx
    ·exact hno x hx
    ·rw[List.mem_singleton.1 hx];exact hb
   ·simp[go_sem]
   ·simp[go_sem]
   ·simp[go_sem]
 ·have e:i=n.entries.length:=by simp at h;omega
  subst e;rw[List.take_length] at hno;rw[rk hno];refine wG tK ?_;refine wT ?_;rfl
def cC (l:List Entry) (s:List UInt8):List Entry:=l.filter λe=>!(e.name==s)
def vf (n:Node) (s:List UInt8):Node:={ n with entries:=cC n.entries s }
theorem mu (n:Node) (s:List UInt8) (hn:n.entries.length≤100000000):ae Tryz.prog 128 [.agg (ZN n),.str s] [] (λr _=>r=.agg (ZN (vf n s))):=by
 have hz:cC (n.entries.take n.entries.length) s=cC n.entries s:=by rw[List.take_length]
 unfold vf ZN;simp only;rw[←hz];refine ZF tK (Tryz.func128) rfl (λC=>?_);simp only[Tryz.ntmps128,Tryz.results128,go_sem];refine wG tK ?_;refine ag (le_empty 22 101 2 z7) ?_;simp only[go_sem];refine ZL (λi:Nat=>i≤n.entries.length) (λi=>n.entries.length-i) (λi=>[(5,.osl 22 2 0 (cC (n.entries.take i) s).length),(7,.any),(11,.int .i64 i),(12,.any),(13,.any),(14,.any),(15,.any),(16,.any),(17,.any),(18,.any),(19,.any),(20,.any),(21,.any),(22,.any),(23,.any)]) (λi=>[(22,.cells 101 2 ((cC (n.entries.take i) s).map ZE))]) 0 z8 ?_ λi hi=>?_
 ·simp only[go_sem];exact ZU (by simp[go_sem,cC]) (by simp[go_sem,cC]) w3
 simp only[go_sem];refine wG tK ?_;refine wD (λh=>?_) (λh=>?_)
 ·have hlt:i<n.entries.length:=by simp at h;omega
  have hg:(n.entries.map ZE).getD i []=ZE (n.entries.getD i default):=Fam.getD hlt;have hw:=wi1 (i:=i) z8;have htk:cC (n.entries.take (i+1)) s=if ((n.entries.getD i default).name==s)=true then cC (n.entries.take i) s else cC (n.entries.take i) s++[n.entries.getD i default]:=by
   rw[ZT hlt];unfold cC;rw[List.filter_append,List.filter_cons];cases ((n.entries.getD i default).name==s)<;>simp
  have hll:(cC (n.entries.take i) s).length≤i:=by
   have:=List.length_filter_le (λe:Entry=>!(e.name==s)) (n.entries.take i);unfold cC;simp only[List.length_take] at this;omega
  generalize n.entries.getD i default=e at *;refine wGq tK ?_ ?_ s7
  ·simp[hg,ZE,hlt]
  cases hb:(e.name==s) with
  | true=>
   rw[hb,if_pos rfl] at htk;refine wDF (hb:=y8) (hk:=?_);refine wG tK ?_ w5 k0;refine ZB ⟨i+1,by omega,by omega,ZU ?_ ?_ ?_⟩
   ·simp[go_sem,htk]
   ·simp[go_sem,htk]
   ·simp[go_sem]
  | false=>
   rw[hb,if_neg Bool.false_ne_true] at htk;refine wDT (hb:=y8) (hk:=?_);refine wGq tK ?_ ?_ w5
   ·simp[rowsOf];omega
   refine ZB ⟨i+1,by omega,by omega,ZU ?_ ?_ ?_⟩
   ·simp[go_sem,htk]
   ·simp[go_sem,htk,ZE]
   ·simp[go_sem]
 ·have e:i=n.entries.length:=by simp at h;omega
  subst e;refine wG tK ?_;refine ZZ 22 rfl (dc _) ?_;simp only[go_sem];refine wT ?_;simp
end La
namespace La
open Go Go.Eng
theorem Av {α:Type} {a b:List (Int×α)} (ha:eb a) (hb:eb b) (h:∀k,bg a k=bg b k):a=b:=
 lQ ha hb λp=>by
  obtain ⟨k,x⟩:=p;constructor
  ·intro hp;exact cQ (by rw[←h];exact bG ha hp)
  ·intro hp;exact cQ (by rw[h];exact bG hb hp)
theorem Bu {α:Type} {m:List (Int×α)} (h:eb m) (f k:Int):bg (dX m f) k=if k=f then none else bg m k:=by
 have hd:eb (dX m f):=ir h;have hm:∀x,(k,x)∈dX m f↔(k,x)∈m/\k≠f:=λx=>by
  unfold dX;rw[List.mem_filter];simp
 by_cases e:k=f
 ·rw[if_pos e];cases e1:bg (dX m f) k with
  | none=>rfl
  | some x=>exact absurd e ((hm x).1 (cQ e1)).2
 ·rw[if_neg e];cases e1:bg m k with
  | none=>
   cases e2:bg (dX m f) k with
   | none=>rfl
   | some x=>
    have:=bG h ((hm x).1 (cQ e2)).1;rw[e1] at this;cases this
  | some x=>exact bG hd ((hm x).2 ⟨cQ e1,e⟩)
theorem fN {l:List Node} (h:Up l) (n:Node):br (bB l) n.fid n=bB (aD l n):=
 Av (ck (bp l)) (bp _) λk=>by
  rw[mn (bp l),cu h,cu (bj h n).1,oL h]
theorem Dm {l:List Node} (h:Up l) (f:Int):dX (bB l) f=bB (ep l f):=
 Av (ir (bp l)) (bp _) λk=>by
  rw[Bu (bp l),cu h,cu (gw h f).1,yL h]
theorem qD {l:List Node} (h:Up l):bB l=l.map λn=>(n.fid,n):=by
 refine lQ (bp l) ?_ λp=>?_
 ·exact List.pairwise_map.2 h
 ·obtain ⟨k,x⟩:=p;rw[List.mem_map];constructor
  ·intro hp;have:=bG (bp l) hp;rw[cu h] at this;obtain ⟨h1,h2⟩:=(ZO h).1 this;exact ⟨x,h1,by rw[h2]⟩
  ·rintro ⟨n,hn,e⟩;injection e with e1 e2
   subst e1 e2;exact cQ (by rw[cu h];exact (ZO h).2 ⟨hn,rfl⟩)
theorem lH {l:List Node} (h:Up l):(bB l).length=l.length:=by rw[qD h,List.length_map]
theorem dU {n:Node} (h:EUp n.entries) (s:List UInt8):qI n.entries s=match a_ n s with | some f=>.tup [.int .i64 f,.bool true] | none=>.tup [.int .i64 0,.bool false]:=by
 unfold qI;cases e:nX n.entries s with
 | none=>
  have:a_ n s=none:=(wi h).2 λx hx hn=>by
   have:=List.find?_eq_none.1 e x hx;simp[hn] at this
  rw[this]
 | some x=>
  have hx:x∈n.entries:=List.mem_of_find?_eq_some e;have hs:x.name=s:=by have:=List.find?_some e;simpa using this
  have:a_ n s=some x.fid:=(YE h).2 (by rw[←hs];exact hx);rw[this]
def lu (s:List UInt8) (f:Int) (q:Bool×List Entry) (e:Entry):Bool×List Entry:=if (!q.1&&Op.bytesLess s e.name)=true then (true,q.2++[⟨s,f⟩]++[e]) else (q.1,q.2++[e])
def ji (s:List UInt8) (f:Int) (l:List Entry):Bool×List Entry:=l.foldl (lu s f) (false,[])
def qG (l:List Entry) (s:List UInt8) (f:Int):List Entry:=if (ji s f (cC l s)).1=true then (ji s f (cC l s)).2 else (ji s f (cC l s)).2++[⟨s,f⟩]
def qH (n:Node) (s:List UInt8) (f:Int):Node:={ n with entries:=qG n.entries s f }
theorem wc (s:List UInt8) (f:Int) (l:List Entry):(ji s f l).2.length≤2*l.length:=by
 have:∀(l:List Entry) (q:Bool×List Entry),(l.foldl (lu s f) q).2.length≤q.2.length+2*l.length:=λl=>by
  induction l with
  | nil=>intro q;simp
  | cons e r ih=>
   intro q;have h1:=ih (lu s f q e);have h2:(lu s f q e).2.length≤q.2.length+2:=by unfold lu;split<;>simp
   rw[List.foldl_cons,List.length_cons];omega
 have:=this l (false,[]);simpa[ji] using this
theorem A8 (s:List UInt8) (f:Int) (l:List Entry) (e:Entry):ji s f (l++[e])=lu s f (ji s f l) e:=by unfold ji;rw[List.foldl_append];rfl
theorem wa (s:List UInt8) (f:Int):∀(l:List Entry) (b:Bool) (q:List Entry),(∀e,e∈l->e.name<s)->l.foldl (lu s f) (b,q)=(b,q++l)
 | [],b,q,_=>by simp
 | e::r,b,q,h=>by
  have h1:=h e List.mem_cons_self;have h2:Op.bytesLess s e.name=false:=by
   rw[fM];exact decide_eq_false λh3=>sd _ (vz h1 h3)
  rw[List.foldl_cons,show lu s f (b,q) e=(b,q++[e]) from by simp[lu,h2],wa s f r b _ λx hx=>h x (List.mem_cons_of_mem _ hx)];simp
theorem tq (s:List UInt8) (f:Int):∀(l:List Entry) (q:List Entry),l.foldl (lu s f) (true,q)=(true,q++l)
 | [],q=>by simp
 | e::r,q=>by
  rw[List.foldl_cons,show lu s f (true,q) e=(true,q++[e]) from by simp[lu],tq s f r];simp
theorem ve {l:List Entry} (h:EUp l) {s:List UInt8} (hs:isE l s=false) (f:Int):qG l s f=bs l s f:=by
 obtain ⟨h1,h2⟩:=h.parts hs;have hlv:cC l s=l:=by
  unfold cC;refine List.filter_eq_self.2 λe he=>?_
  have:e.name≠s:=λhn=>by
   have:=(nJ h s).2 ⟨e,he,hn⟩;rw[hs] at this;cases this
  simpa using this
 unfold qG;rw[hlv];unfold bs;rw[hs,if_neg (show ¬(false=true) by simp)];have hl:ji s f l=(l.drop (aH l s)).foldl (lu s f) (false,l.take (aH l s)):=by
  unfold ji
  conv=>lhs;rw[←List.take_append_drop (aH l s) l]
  rw[List.foldl_append,wa s f _ false [] h1];simp
 rw[hl];generalize hd:l.drop (aH l s)=d at h2 ⊢;cases d with
 | nil=>simp
 | cons e r=>
  have h3:Op.bytesLess s e.name=true:=by rw[fM];exact decide_eq_true (h2 e List.mem_cons_self)
  rw[List.foldl_cons,show lu s f (false,l.take (aH l s)) e=(true,l.take (aH l s)++[⟨s,f⟩]++[e]) from by simp[lu,h3],tq];simp
theorem fQ {n:Node} (h:EUp n.entries) {s:List UInt8} (hs:isE n.entries s=false) (f:Int):qH n s f=ax n s f:=by
 unfold qH ax;rw[ve h hs]
open Classical in
noncomputable def bw (l:List Node) (a:Act):Int:=if bu l a=0 then (if ej l a.to=0 then (if bL (toN l a) a.toName=0 then (if bf l a.fid=true then (if decide (MReach (bB l) a.fid a.to)=true then 11 else 0) else 12) else bL (toN l a) a.toName) else ej l a.to) else bu l a
noncomputable def fR (l:List Node) (a:Act) (v:Int):List Node:=if bw l a=0 then aD (if a.to=a.dir then l else aD l { az (aq l a.dir) a.name with version:=v }) { ax (toN l a) a.toName a.fid with version:=v } else l
noncomputable def ay (l:List Node) (a:Act):Int:=if a.kind=1 then cI l a else if a.kind=2 then cI l a else if a.kind=3 then eE l a else if a.kind=4 then cD l a else if a.kind=5 then bw l a else 1
noncomputable def cg (l:List Node) (a:Act) (v:Int):List Node:=if a.kind=1 then dw l a v else if a.kind=2 then dw l a v else if a.kind=3 then ea l a v else if a.kind=4 then cE l a v else if a.kind=5 then fR l a v else l
noncomputable def vd (l:List Node) (a:Act) (v:Int):AV:=if ay l a=0 then .tup [.rm (mN (bB (cg l a v))),.int .i64 0] else .tup [.nilm,.int .i64 (ay l a)]
structure Ri (l:List Node):Prop where
 up:Up l
 eup:∀n,n∈l->EUp n.entries
theorem Ri.find {l:List Node} (h:Ri l) (k:Int):EUp (aq l k).entries:=by
 unfold aq;cases e:aj l k with
 | none=>exact List.Pairwise.nil
 | some n=>exact h.eup n ((ZO h.up).1 e).1
theorem Ri.put {l:List Node} (h:Ri l) {n:Node} (hn:EUp n.entries):Ri (aD l n):=
 ⟨(bj h.up n).1,λm hm=>by
  rcases fC hm with rfl | hm
  ·exact hn
  ·exact h.eup m hm⟩
theorem Ri.drop {l:List Node} (h:Ri l) (f:Int):Ri (ep l f):=⟨(gw h.up f).1,λm hm=>h.eup m (((gw h.up f).2 m).1 hm).1⟩
theorem Ri.to {l:List Node} (h:Ri l) (a:Act):EUp (toN l a).entries:=by
 unfold toN;split
 ·exact jK (h.find _) _
 ·exact h.find _
theorem Ri.apply {l:List Node} (h:Ri l) (a:Act) (v:Int):Ri (cg l a v):=by
 have hmk:Ri (dw l a v):=by
  unfold dw;split
  ·rename_i he;unfold cI at he;split at he
   ·split at he
    ·rename_i hr;refine (h.put ?_).put List.Pairwise.nil;exact (jw (h.find _) (dd hr).2 _).1
    ·rename_i hr;exact absurd he hr
   ·rename_i hr;exact absurd he hr
  ·exact h
 unfold cg;split
 ·exact hmk
 ·split
  ·exact hmk
  ·split
   ·unfold ea;split
    ·exact h.put (h.find _)
    ·exact h
   ·split
    ·unfold cE;split
     ·exact (h.put (jK (h.find _) _)).drop _
     ·exact h
    ·split
     ·unfold fR;split
      ·rename_i he;have hr:bL (toN l a) a.toName=0:=by
        unfold bw at he;split at he
        ·split at he
         ·split at he
          ·assumption
          ·rename_i hr;exact absurd he hr
         ·rename_i hr;exact absurd he hr
        ·rename_i hr;exact absurd he hr
       refine Ri.put ?_ (jw (h.to a) (dd hr).2 _).1;split
       ·exact h
       ·exact h.put (jK (h.find _) _)
      ·exact h
     ·exact h
end La
namespace La
open Go Go.Eng Go.Proofs
theorem vZ {α:Type} {L T:List α} {off:Nat} (h:off≤L.length) (ht:L.drop off=T):L.length=off+T.length:=by
 have:=congrArg List.length ht;rw[List.length_drop] at this;omega
theorem HR {L:List Int} {off off':Nat} (h:off≤L.length) (ho:off'=off\/off'=0) (f:Int) :
  (((L.map ZI).drop (off-off')).take (off'+(L.length-off))++[ZI f])=(((L.drop (off-off')).take (off'+(L.length-off)))++[f]).map ZI /\
  ((((L.drop (off-off')).take (off'+(L.length-off)))++[f]).drop off')=L.drop off++[f]/\(((L.drop (off-off')).take (off'+(L.length-off)))++[f]).length=off'+(L.length-off+1):=by
 have hl:((L.drop (off-off')).take (off'+(L.length-off))).length=off'+(L.length-off):=by simp;omega
 refine ⟨?_,?_,?_⟩
 ·rw[List.map_append,List.map_take,List.map_drop];rfl
 ·rw[List.drop_append_of_le_length z8,List.drop_take,List.drop_drop];have e:off-off'+off'=off:=by rcases ho with rfl | rfl<;>omega
  rw[e,Nat.add_sub_cancel_left]
  congr 1
  exact List.take_of_length_le y8
 ·rw[List.length_append,hl];simp;omega
theorem Cs {m:List (Int×Node)} {x:Int} {n:Node} (h:bg m x=some n):n.entries.length≤(nu m).length:=by
 have h1:=cQ h;unfold nu;clear h
 induction m with
 | nil=>cases h1
 | cons p r ih=>
  simp only[List.flatMap_cons,List.length_append,List.length_map]
  rcases List.mem_cons.1 h1 with rfl | h1
  ·simp only;omega
  ·have:=ih h1;omega
theorem Dl (k:Int):br ([]:List (Int×AV)) k (.bool true)=mB (br [] k true):=rfl
open Classical in
theorem zz (m:List (Int×Node)) (fid inn:Int) (hsz:(nu m).length≤90000000):ae Tryz.prog 130 [.rm (mN m),.int .i64 fid,.int .i64 inn] [] (λr _=>r=.bool (decide (MReach m inn fid))):=by
 refine ZF tK (Tryz.func130) rfl (λC=>?_);simp only[Tryz.ntmps130,Tryz.results130,go_sem];refine wGq tK ?_ ?_
 ·simp[go_sem,AV.ju,AV.aX]
 refine ZL (λs:List (Int×Bool)×Nat×List Int=>s.2.1≤s.2.2.length/\BI m inn s.1 (s.2.2.drop s.2.1)) (λs=>(s.2.2.length-s.2.1)+gq m s.1) (λs=>[(8,.osl 15 1 s.2.1 (s.2.2.length-s.2.1)),(10,.any),(14,.any),(15,.any),(16,.any),(17,.any),(18,.any),(19,.any),(20,.any),(21,.any),(22,.any),(23,.any),(24,.any),(25,.any),(26,.any),(27,.any),(28,.any),(29,.any),(30,.any),(31,.any),(32,.any),(33,.any),(34,.any),(35,.any),(36,.any),(37,.any),(38,.any),(39,.any),(40,.any),(41,.any),(42,.any),(43,.any),(44,.any),(45,.any)])
  (λs=>[(11,.map (mB s.1)),(15,.cells 3 1 (s.2.2.map ZI))]) (br [] inn true,0,[inn]) ⟨by simp,BI.begin m inn⟩ ?_ λs hs=>?_
 ·simp only[go_sem];exact ZU w3 (by simp[go_sem,Dl,ZI]) w3
 obtain ⟨had,off,L⟩:=s;obtain ⟨hoff,hbi⟩:=hs;simp only at hoff hbi;simp only[go_sem];refine wG tK ?_;refine wD (λh=>?_) (λh=>?_)
 ·have hlt:off<L.length:=by simp at h;omega
  have hg:(L.map ZI).getD off []=ZI (L.getD off default):=Fam.getD hlt;have hdr:=bY hlt;have hl1:L.length-off=(L.drop (off+1)).length+1:=by rw[List.length_drop];omega
  generalize hx:L.getD off default=x at *;have hbi0:=hbi;rw[hdr] at hbi0;cases hm:bg m x with
  | none=>
   have hmg:bg (mN m) x=none:=by rw[gS,hm];rfl
   refine wGq tK ?_ ?_ (by simp only[go_sem,hg,ZI,hmg];try exact rfl)
   ·simp[hg,ZI];omega
   refine ZL (λ_:Unit=>True) (λ_=>0) (λ_=>[]) (λ_=>[]) () trivial ?_ λ_ _=>?_
   ·simp only[go_sem];exact ZU w3 w3 w3
   simp only[go_sem];refine wG tK ?_;refine wD (λh=>?_) (λh=>?_)
   ·cases h
   refine wGq tK ?_ ?_
   ·simp;omega
   refine ZB ⟨(had,off+1,L),⟨by simp only;omega,by simp only;exact hbi0.none hm⟩,by simp only;omega,ZU ?_ ?_ ?_⟩
   ·simp[go_sem];omega
   ·simp[go_sem]
   ·simp[go_sem]
  | some n=>
   have hmg:bg (mN m) x=some (.agg (ZN n)):=by rw[gS,hm];rfl
   have hbj:=hbi0.inner hm;have hel:=Cs hm;have hc:(x::L.drop (off+1)).length+gq m had=L.length-off+gq m had:=by simp only[List.length_cons];omega
   rw[hc,←hdr] at hbj;have hcs:L.length-off+gq m had≤(nu m).length+1:=by have:=hbi.size;rw[List.length_drop] at this;exact this
   refine wGq tK ?_ ?_ (by simp only[go_sem,hg,ZI,hmg,ZN];try exact rfl)
   ·simp[hg,ZI,hmg,ZN];omega
   refine ZL (λs:Nat×List (Int×Bool)×Nat×List Int=>s.1≤n.entries.length/\s.2.2.1≤s.2.2.2.length/\BJ m inn x n (L.length-off+gq m had) s.1 s.2.1 (s.2.2.2.drop s.2.2.1)) (λs=>n.entries.length-s.1)
    (λs=>[(8,.osl 15 1 s.2.2.1 (s.2.2.2.length-s.2.2.1)),(10,.any),(14,.any),(15,.any),(16,.any),(20,.any),(21,.any),(26,.int .i64 s.1),(27,.any),(28,.any),(29,.any),(30,.any),(31,.any),(32,.any),(33,.any),(34,.any),(35,.any),(36,.any),(37,.any),(38,.any),(39,.any),(40,.any),(41,.any),(42,.any),(43,.any),(44,.any),(45,.any)]) (λs=>[(11,.map (mB s.2.1)),(15,.cells 3 1 (s.2.2.2.map ZI))]) (0,had,off,L) ⟨by simp,hoff,hbj⟩ ?_ λs hs=>?_
   ·simp only[go_sem];exact ZU w3 w3 w3
   obtain ⟨j,had2,off2,L2⟩:=s;obtain ⟨hj,hoff2,hb⟩:=hs;simp only at hj hoff2 hb;simp only[go_sem];refine wG tK ?_;refine wD (λh=>?_) (λh=>?_)
   ·have hjl:j<n.entries.length:=by simp at h;omega
    have hge:(n.entries.map ZE).getD j []=ZE (n.entries.getD j default):=Fam.getD hjl;have hw:IntKind.i64.wrap ((j:Int)+1)=((j+1:Nat):Int):=by rw[Eng.wrap_small z8 z8];rfl
    have hskip:=hb.skip hjl;have hadd:=hb.add hjl;generalize n.entries.getD j default=f at *;refine wGq tK ?_ ?_ (by simp only[go_sem,hge,ZE];try exact rfl)
    ·simp[hge,ZE,hjl]
    cases hgb:cK had2 f.fid with
    | true=>
     refine wDF (hb:=y8) (hk:=?_);refine wG tK ?_ w5 k0;refine ZB ⟨(j+1,had2,off2,L2),⟨by simp only;omega,hoff2,hskip hgb⟩,by simp only;omega,ZU ?_ ?_ ?_⟩
     ·simp[go_sem]
     ·simp[go_sem]
     ·simp[go_sem]
    | false=>
     refine wDT (hb:=y8) (hk:=?_);refine wR ?_;refine wN tK 3 ?_;refine wNq tK 1 ?_ ?_
     ·simp[AV.ju,AV.aX]
     refine wR ?_;refine wN tK 4 ?_;have hcs2:=hb.size;rw[List.length_drop] at hcs2;obtain ⟨q,hq⟩:=hb.head;have hlq:=vZ hoff2 hq;simp only[List.length_cons] at hlq;refine yH tK rfl rfl z7 z7 z7 z7 (by intro _ _ _ _ h;cases h;rfl) z7 z8 k9 z7 u4 (by simp only[go_sem];decide) (by simp[rowsOf]) w3 (by simp[go_sem];omega) w3 (by simp[go_sem,ZI]) λoff' ho=>?_
     obtain ⟨b1,b2,b3⟩:=HR hoff2 ho f.fid;have b1':List.take (off'+(L2.length-off2)) (List.drop (off2-off') (List.map ZI L2))++[[.int .i64 f.fid]]=List.map ZI (List.take (off'+(L2.length-off2)) (List.drop (off2-off') L2)++[f.fid]):=b1;clear b1;generalize List.take (off'+(L2.length-off2)) (List.drop (off2-off') L2)++[f.fid]=L3 at *;simp only[go_sem];rw[b1'];refine wG tK ?_ w5 k0;refine ZB ⟨(j+1,br had2 f.fid true,off',L3),⟨by simp only;omega,by simp only;omega,by simp only;rw[b2];exact hadd hgb⟩,by simp only;omega,ZU ?_ ?_ ?_⟩
     ·simp[go_sem];omega
     ·simp[go_sem]
     ·simp[go_sem]
   ·have e:j=n.entries.length:=by simp at h;omega
    subst e;obtain ⟨h1,h2⟩:=hb.pop hcs;obtain ⟨q,hq⟩:=hb.head;have hlq:=vZ hoff2 hq;simp only[List.length_cons] at hlq;refine wGq tK ?_ ?_
    ·simp;omega
    refine ZB ⟨(had2,off2+1,L2),⟨by simp only;omega,by simp only;rw[←List.drop_drop];exact h1⟩,?_,ZU ?_ ?_ ?_⟩
    ·simp only;rw[List.length_drop,List.length_drop] at h2;omega
    ·simp[go_sem];omega
    ·simp[go_sem]
    ·simp[go_sem]
 ·have e:L.drop off=[]:=List.drop_eq_nil_of_le (by simp at h;omega);rw[e] at hbi;have hf:=hbi.fin fid;refine wG tK ?_;refine wT ?_;cases hgb:cK had fid with
  | true=>rw[decide_eq_true (hf.1 hgb)];rfl
  | false=>rw[decide_eq_false λhh=>by rw[hf.2 hh] at hgb;cases hgb];rfl
theorem xN (s:List UInt8) (hs:s.length≤100000000):ae Tryz.prog 49 [.str s] [] (λr _=>r=.bool (cq s)):=by
 refine ZF tK (Tryz.func49) rfl (λC=>?_);simp only[Tryz.ntmps49,Tryz.results49,go_sem];refine wG tK ?_;refine ZL (λi:Nat=>i≤s.length/\∀j,j<i->okC (s.getD j 0)=true) (λi=>s.length-i) (λi=>[(3,.any),(4,.any),(7,.int .i64 i),(8,.any),(9,.any),(10,.any),(11,.any),(12,.any),(13,.any),(14,.any),(15,.any),(16,.any),(17,.any),(18,.any),(19,.any),(20,.any),(21,.any),(22,.any),(23,.any),(24,.any),(25,.any),(26,.any),(27,.any),(28,.any),(29,.any),(30,.any),(31,.any),(32,.any),(33,.any),(34,.any),(35,.any),(36,.any)]) (λ_=>[]) 0 ⟨by omega,by omega⟩ ?_ λi hi=>?_
 ·simp only[go_sem];exact ZU w3 w3 w3
 obtain ⟨hi,hs2⟩:=hi;simp only[go_sem];refine wG tK ?_;refine wD (λh=>?_) (λh=>?_)
 ·have hlt:i<s.length:=by simp at h;omega
  have hw:=wi1 (i:=i) z8;have hno:okC (s.getD i 0)=false->cq s=false:=λh0=>by
   cases e:s.all okC with
   | false=>unfold cq;rw[e,Bool.and_false]
   | true=>
    have:=List.all_eq_true.1 e (s.getD i 0) (by rw[List.getD_eq_getElem?_getD,List.getElem?_eq_getElem hlt];exact List.getElem_mem hlt);rw[this] at h0;cases h0
  have hyes:okC (s.getD i 0)=true->∀j,j<i+1->okC (s.getD j 0)=true:=λh0 j hj=>by
   rcases Nat.lt_succ_iff_lt_or_eq.1 hj with h1 | rfl
   ·exact hs2 j h1
   ·exact h0
  refine wR ?_;refine wN tK 2 ?_;refine wR ?_;refine wN tK 2 ?_;refine wNq tK 1 ?_ ?_
  ·simp;omega
  refine wN tK 1 ?_;refine wR ?_;generalize s.getD i 0=c at hno hyes;have hc:okC c=((decide ((c.toNat:Int)≥97)&&decide ((c.toNat:Int)≤122))||(decide ((c.toNat:Int)≥48)&&decide ((c.toNat:Int)≤57))):=by
   unfold okC;rw[Bool.eq_iff_iff];simp only[Bool.or_eq_true,Bool.and_eq_true,decide_eq_true_eq];omega
  generalize hf1:decide ((c.toNat:Int)≥97)=f1 at hc;generalize hf2:decide ((c.toNat:Int)≤122)=f2 at hc;generalize hf3:decide ((c.toNat:Int)≥48)=f3 at hc;generalize hf4:decide ((c.toNat:Int)≤57)=f4 at hc;refine wNq tK 14 ?_ ?_ z6 z6 Zv
  ·cases f1<;>cases f2<;>cases f3<;>cases f4<;>simp
  have hb:(bif (bif f1 then f2 else false) then true else (bif f3 then f4 else false))=okC c:=by
   rw[hc];cases f1<;>cases f2<;>cases f3<;>cases f4<;>rfl
  simp only[go_sem,hb];refine wG tK ?_;refine wD (λh=>?_) (λh=>?_)
  ·have h0:okC c=false:=by simpa using h
   refine wG tK ?_;refine wT ?_;rw[hno h0]
  ·have h0:okC c=true:=by simpa using h
   refine wG tK ?_ w5 k0;refine ZB ⟨i+1,⟨by omega,hyes h0⟩,by omega,ZU ?_ ?_ ?_⟩
   ·simp[go_sem]
   ·simp[go_sem]
   ·simp[go_sem]
 ·have e:i=s.length:=by simp at h;omega
  have:s.all okC=true:=List.all_eq_true.2 λx hx=>by
   obtain ⟨j,hj⟩:=List.getElem?_of_mem hx;have:=hs2 j (by rw[e];exact (List.getElem?_eq_some_iff.1 hj).1)
   rwa [List.getD_eq_getElem?_getD,hj] at this
  refine wG tK ?_;refine wT ?_;unfold cq;rw[this,cG,Bool.and_true];have h1:decide ((s.length:Int)>0)=decide (1≤s.length):=by rw[Bool.eq_iff_iff];simp only[decide_eq_true_eq];omega
  have h2:decide ((s.length:Int)≤8)=decide (s.length≤8):=by rw[Bool.eq_iff_iff];simp only[decide_eq_true_eq];omega
  rw[h1,h2]
end La
