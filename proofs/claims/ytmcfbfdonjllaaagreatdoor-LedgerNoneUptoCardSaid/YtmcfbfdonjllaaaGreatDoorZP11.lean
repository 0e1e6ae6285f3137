/- Texts of this claim, part 11: EngAI, EngAJ, EngAK, EngAL. No condition. -/
import Derived.Test.YtmcfbfdonjllaaaGreatDoorZP10
import Derived.Laws.IdiomRangeMap
set_option maxRecDepth 10000
set_option maxHeartbeats 4000000
set_option linter.unusedSimpArgs false
set_option linter.unusedVariables false
namespace Go.Eng
def iA (r:Nat) (f:Nat->Nat) (o:Oper):Oper:=⟨o.dst,o.op,o.type,o.pos,(o.after.filter λe=>!(e.on==r)).map (pM f),o.guard.map λg=>(f g.1,g.2)⟩
def bJ (r:Nat) (p q:List Nat) (l:List Oper):List Oper:=p.map λi=>iA r (λj=>q.getD j j) (l.getD i default)
def FY:Op->Bool
 | .select ..=>true
 | _=>false
def Ap (r:Nat) (p q:List Nat) (ops:Array Oper):Bool:=
 p.length+1==ops.size&&q.length==ops.size&&(decide (r<ops.size)&&(List.range ops.size).all λi=>i==r||(decide (q.getD i i+1<ops.size)&&p.getD (q.getD i i) 0==i)) &&
 ((List.range p.length).all λj=>decide (p.getD j 0<ops.size)&&!(p.getD j 0==r)&&q.getD (p.getD j 0) 0==j) &&
 ops.toList.all λo=>(match o.guard with | some g=>!(g.1==r) | none=>true)&&!FY o.op
def sy (r:Nat) (o:Oper) (ops:Array Oper):Bool:=
 o.after.isEmpty&&(List.range ops.size).all λj=>j==r||(match ops[j]? with | some oj=>(oj.after.any λe=>Region.binds .any e&&e.on==r)||o.apart ops oj | none=>true)
section
variable {P:Program} {T:Tab} {C:Ctx} {σ σ':St} {μ:Nat->Option Nat} {S:Nat->Prop} {a:Act} {w:World}
structure RemF (r:Nat) (p q:List Nat) (ops:Array Oper):Prop where
 pl:p.length+1=ops.size
 ql:q.length=ops.size
 rl:r<ops.size
 to:∀i,i<ops.size->i≠r->q.getD i i+1<ops.size/\p.getD (q.getD i i) 0=i
 fro:∀j,j<p.length->p.getD j 0<ops.size/\p.getD j 0≠r/\q.getD (p.getD j 0) 0=j
 gd:∀(i:Nat) o j b,ops[i]? = some o->o.guard=some (j,b)->j≠r
 sel:∀(i:Nat) o cs b,ops[i]? = some o->o.op≠.select cs b
theorem qS {r:Nat} {p q:List Nat} {ops:Array Oper} (h:Ap r p q ops=true):RemF r p q ops:=by
 unfold Ap at h;simp only[Bool.and_eq_true,beq_iff_eq,decide_eq_true_eq] at h;obtain ⟨⟨⟨⟨h1,h2⟩,h3,h4⟩,h5⟩,h6⟩:=h;have hall:∀(i:Nat) o,ops[i]? = some o->((match o.guard with | some g=>!(g.1==r) | none=>true)&&!FY o.op)=true:=λi o ho=>
  List.all_eq_true.1 h6 o (by rw[Array.mem_toList_iff];exact Array.mem_of_getElem? ho)
 refine ⟨h1,h2,h3,λi hi hne=>?_,λj hj=>?_,λi o j b ho hg e=>?_,λi o cs b ho e=>?_⟩
 ·have:=List.all_eq_true.1 h4 i (Ya.2 hi);simp only[Bool.or_eq_true,Bool.and_eq_true,beq_iff_eq,decide_eq_true_eq] at this
  rcases this with h | h
  ·exact absurd h hne
  ·exact h
 ·have:=List.all_eq_true.1 h5 j (Ya.2 hj);simp only[Bool.and_eq_true,beq_iff_eq,decide_eq_true_eq,Yo,beq_eq_false_iff_ne] at this;exact ⟨this.1.1,this.1.2,this.2⟩
 ·have:=hall i o ho;rw[hg] at this;simp only[Bool.and_eq_true,Yo,beq_eq_false_iff_ne] at this;exact this.1 e
 ·have:=hall i o ho;rw[e] at this;simp[FY] at this
theorem RemF.get {r:Nat} {p q:List Nat} {ops:Array Oper} (h:RemF r p q ops) {i:Nat} (hne:i≠r) {o:Oper} (ho:ops[i]? = some o) :
  (bJ r p q ops.toList).toArray[q.getD i i]? = some (iA r (λj=>q.getD j j) o):=by
 have hi:i<ops.size:=(Yg.1 ho).1;obtain ⟨h4,h5⟩:=h.to i hi hne;have hpl:=h.pl;rw[List.getElem?_toArray,bJ,W5];have hp:p[q.getD i i]? = some i:=by
  rw[List.getD_eq_getElem?_getD,W3 z8] at h5;rw[W3 z8];exact congrArg some h5
 rw[hp];simp only[Option.map_some];rw[List.getD_eq_getElem?_getD,Array.getElem?_toList,ho];rfl
theorem RemF.big {r:Nat} {p q:List Nat} {ops:Array Oper} (h:RemF r p q ops) {i:Nat} (hi:ops.size<=i):q.getD i i=i:=by
 have:=h.ql;rw[List.getD_eq_getElem?_getD,List.getElem?_eq_none z8];rfl
theorem RemF.inj {r:Nat} {p q:List Nat} {ops:Array Oper} (h:RemF r p q ops) {i j:Nat} (hi:i≠r) (hj:j≠r) (he:q.getD i i=q.getD j j):i=j:=by
 by_cases h1:i<ops.size
 ·by_cases h2:j<ops.size
  ·have e1:=(h.to i h1 hi).2;rw[he,(h.to j h2 hj).2] at e1;exact e1.symm
  ·have:=(h.to i h1 hi).1;rw[he,h.big z8] at this;omega
 ·by_cases h2:j<ops.size
  ·have:=(h.to j h2 hj).1;rw[<-he,h.big z8] at this;omega
  ·rw[h.big z8,h.big z8] at he;exact he
theorem RemF.yielded {r:Nat} {p q:List Nat} {ops:Array Oper} (h:RemF r p q ops) (t:Array Value) {j:Nat} (hj:j≠r):Go.yielded (bJ r p q ops.toList).toArray t (q.getD j j)=Go.yielded ops t j:=by
 unfold Go.yielded;cases ho:ops[j]? with
 | none=>
  have hs:ops.size<=j:=Array.getElem?_eq_none_iff.1 ho;have hpl:=h.pl;rw[h.big hs,List.getElem?_toArray,bJ,W5,List.getElem?_eq_none z8];rfl
 | some o=>rw[h.get hj ho];rfl
theorem x_ {r:Nat} {p q:List Nat} {ops:Array Oper} (h:RemF r p q ops) {Q:Exit->Act->World->Prop}:∀(f:Nat) (L L':Array Bool) (a:Act) (w:World),L.size=ops.size->L'.size+1=ops.size->L.getD r false=true ->
  (∀i,i≠r->L'.getD (q.getD i i) false=L.getD i false)->wpAny P .any (bJ r p q ops.toList).toArray Q f L' a w->wpAny P .any ops Q f L a w:=by
 have hpl:=h.pl;have hTF:∀(L:Array Bool) (i:Nat),i<L.size->L.getD i true=L.getD i false:=λL i hi=>by rw[Array.getD_eq_getD_getElem?,Array.getD_eq_getD_getElem?,YK hi];rfl
 have hne:∀(L:Array Bool),L.size=ops.size->L.getD r false=true->∀i,i∈Region.ready .any ops L->i≠r:=λL hL hr i hi e=>by
  subst e;obtain ⟨k1,_⟩:=mem_ready.1 hi;rw[hTF L i (by rw[hL];exact h.rl),hr] at k1;cases k1
 have hrd:∀(L L':Array Bool),L.size=ops.size->L'.size+1=ops.size->L.getD r false=true->(∀i,i≠r->L'.getD (q.getD i i) false=L.getD i false)->∀i,i∈Region.ready .any ops L->q.getD i i∈Region.ready .any (bJ r p q ops.toList).toArray L':=λL L' hL hL' hr hg i hi=>by
  have hir:=hne L hL hr i hi;obtain ⟨k1,o,k2,k3⟩:=mem_ready.1 hi;have hlt:i<ops.size:=(Yg.1 k2).1;refine mem_ready.2 ⟨?_,_,h.get hir k2,λe he hb=>?_⟩
  ·rw[hTF L' _ (by have:=(h.to i hlt hir).1;omega),hg i hir,<-hTF L i z8];exact k1
  ·simp only[iA] at he;obtain ⟨e0,he0,rfl⟩:=Array.mem_map.1 he;obtain ⟨he1,he2⟩:=Array.mem_filter.1 he0
   show L'.getD (q.getD e0.on e0.on) false=true
   rw[hg _ (by simpa using he2)];exact k3 e0 he1 hb
 intro f
 induction f with
 | zero=>
  intro L L' a w hL hL' hr hg hw;refine ⟨List.eq_nil_iff_forall_not_mem.2 λi hi=>?_,hw.2⟩;have:=hrd L L' hL hL' hr hg i hi;rw[hw.1] at this;cases this
 | succ f ih=>
  intro L L' a w hL hL' hr hg hw;refine ⟨λh0=>?_,λi hi=>?_⟩
  ·by_cases hrr:Region.ready .any (bJ r p q ops.toList).toArray L'=[]
   ·exact hw.1 hrr
   ·exfalso
    obtain ⟨j,hj⟩:=List.exists_mem_of_ne_nil _ hrr;obtain ⟨k1,o,k2,k3⟩:=mem_ready.1 hj;have hjn:j<p.length:=by
     have:=(Yg.1 k2).1;simpa only [List.size_toArray,bJ,List.length_map] using this
    obtain ⟨f1,f2,f3⟩:=h.fro j hjn;have hqi:q.getD (p.getD j 0) (p.getD j 0)=j:=by
     have hq:=h.ql;rw[List.getD_eq_getElem?_getD,W3 z8] at f3 ⊢;exact f3
    obtain ⟨oi,hoi⟩:∃oi,ops[p.getD j 0]? = some oi:=⟨_,YK f1⟩;have aa:=h.get f2 hoi;rw[hqi] at aa;rw[aa] at k2;injection k2 with k2
    have:p.getD j 0∈Region.ready .any ops L:=by
     refine mem_ready.2 ⟨?_,oi,hoi,λe he hb=>?_⟩
     ·rw[hTF L _ z8,<-hg _ f2,hqi,<-hTF L' j z8];exact k1
     ·by_cases her:e.on=r
      ·rw[her];exact hr
      ·rw[<-hg _ her];exact k3 (pM (λj=>q.getD j j) e) (by rw[<-k2];exact Array.mem_map.2 ⟨e,Array.mem_filter.2 ⟨he,by simpa using her⟩,rfl⟩) hb
    rw[h0] at this;cases this
  ·have hir:=hne L hL hr i hi;have hri:=hrd L L' hL hL' hr hg i hi;have hop:=hw.2 _ hri;obtain ⟨_,o,hoi,_⟩:=mem_ready.1 hi;have hlt:i<ops.size:=(Yg.1 hoi).1;have hnext:∀a' w',wpAny P .any (bJ r p q ops.toList).toArray Q f (L'.setIfInBounds (q.getD i i) true) a' w'->wpAny P .any ops Q f (L.setIfInBounds i true) a' w':=λa' w' hk=>
    ih _ _ a' w' (by simpa using hL) (by simpa using hL') (by
     rw[Array.getD_eq_getD_getElem?,Yk,if_neg hir,<-Array.getD_eq_getD_getElem?];exact hr) (λj hj=>by
     have hqi:=(h.to i hlt hir).1;have:=hg j hj;rw[Array.getD_eq_getD_getElem?,Array.getD_eq_getD_getElem?] at this;rw[Array.getD_eq_getD_getElem?,Array.getD_eq_getD_getElem?,Yk,Yk]
     by_cases e:j=i
     ·subst e;rw[if_pos rfl,if_pos rfl,if_pos z8,if_pos z8]
     ·rw[if_neg (λe2=>e (h.inj hj hir e2.symm)),if_neg (λe2=>e e2.symm)];exact this) hk
   have hop2:=wpOp_mono hnext hop;unfold wpOp at hop2 ⊢;rw[h.get hir hoi] at hop2;rw[hoi];simp only at hop2 ⊢;have hwant:Region.wanted (iA r (λj=>q.getD j j) o) (Go.yielded (bJ r p q ops.toList).toArray a.tmps)=Region.wanted o (Go.yielded ops a.tmps):=by
    unfold Region.wanted iA;cases hgd:o.guard with
    | none=>rfl
    | some g=>
     obtain ⟨j,b⟩:=g;simp only[Option.map_some];rw[h.yielded a.tmps (h.gd i o j b hoi hgd)]
   rw[hwant] at hop2;exact hop2
end
end Go.Eng
namespace Go.Eng
section
variable {P:Program} {T:Tab} {C:Ctx} {σ σ':St}
theorem C9 (ids:List Nat):∀(A B:List (Nat×Blk)),sub ids (A++B)=sub ids A++sub ids B
 | [],_=>rfl
 | p::r,B=>by
  simp only[List.cons_append,sub,C9 ids r B];split<;>rfl
theorem sub_sub (ids:List Nat):∀A:List (Nat×Blk),sub ids (sub ids A)=sub ids A
 | []=>rfl
 | p::r=>by
  simp only[sub];split
  ·rename_i h;simp only[sub,h,if_true,sub_sub ids r]
  ·exact sub_sub ids r
theorem yj (ids:List Nat):∀A:List (Nat×Blk),sub ids (del ids A)=[]
 | []=>rfl
 | p::r=>by
  simp only[del];split
  ·exact yj ids r
  ·rename_i h;simp only[sub,h,yj ids r];rfl
def front (ids:List Nat) (A:List (Nat×Blk)) (s:St):St:=⟨s.tm,sub ids A++del ids s.hp⟩
theorem Dw (ids:List Nat) (A:List (Nat×Blk)) (s:St):sub ids (front ids A s).hp=sub ids A:=by
 show sub ids (sub ids A++del ids s.hp)=_
 rw[C9,sub_sub,yj,List.append_nil]
theorem Dv {ids:List Nat} {A:List (Nat×Blk)} {s:St} (h:∀i,ids.contains i=true->aa s.hp i=aa A i) (i:Nat):aa (front ids A s).hp i=aa s.hp i:=by
 show aa (sub ids A++del ids s.hp) i=_
 rw[az]
 by_cases hi:ids.contains i=true
 ·by_cases he:∃b,b∈sub ids A/\b.1=i
  ·rw[if_pos he,cx,if_pos hi,h i hi]
  ·rw[if_neg he,dN,if_pos hi,h i hi];cases e:aa A i with
   | none=>rfl
   | some b=>
    have h2:aa (sub ids A) i=some b:=by rw[cx,if_pos hi];exact e
    exact absurd ⟨_,aP h2,rfl⟩ he
 ·rw[if_neg,dN,if_neg hi];rintro ⟨b,hb,rfl⟩;have:∀A:List (Nat×Blk),b∈sub ids A->ids.contains b.1=true:=λA=>by
   induction A with
   | nil=>intro h;cases h
   | cons p r ih=>
    intro h;simp only[sub] at h;split at h
    ·rename_i hc
     rcases List.mem_cons.1 h with rfl | h
     ·exact hc
     ·exact ih h
    ·exact ih h
  exact hi (this _ hb)
theorem kH {K:List (Nat×Blk)} (hnd:(K.map (·.1)).Nodup) (A:List (Nat×Blk)) (i:Nat):aa (bP A K) i=aa (K++A) i:=by
 rw[cY i K _ hnd,az]
 by_cases e:∃b,b∈K/\b.1=i
 ·rw[if_pos e];obtain ⟨b,hb,rfl⟩:=e;have:∀K:List (Nat×Blk),b∈K->(aa K b.1).isSome=true:=λK=>by
   induction K with
   | nil=>intro h;cases h
   | cons q r ih=>
    intro h;simp only[aa];split
    ·rfl
    ·rename_i hne
     rcases List.mem_cons.1 h with rfl | h
     ·exact absurd rfl hne
     ·exact ih h
  rw[if_pos (this K hb)]
 ·rw[if_neg e];cases e2:aa K i with
  | none=>rfl
  | some b=>exact absurd ⟨_,aP e2,rfl⟩ e
theorem uN {ops:Array Oper} {o:Oper} {c:Operand} {args:Array Operand} {ats:Array TypeId} (ho:o.op=.call { callee:=.value c,args,argTypes:=ats }) {p:Prop} {f:FuncId} {xs:List AV}
  (h:ax σ c args.toList=some (p,f,xs)) (hp:p) (hc:aH P f) (ids:List Nat) {K:List (Nat×Blk)} {r:AV}
  (hck:((aA xs).all ids.contains&&(refs r).all ids.contains&&ids.all (λi=>decide (i<5000)&&(aa K i).isSome)&&K.all (λq=>ids.contains q.1))=true) (hnd:(K.map (·.1)).Nodup)
  (hpin:(ids.all λi=>match aa (sub ids σ.hp) i with | some b=>eW b | none=>false)=true) (hc1:((sub ids σ.hp).all λq=>(av q.2).all ids.contains)=true) (hc2:(K.all λq=>(av q.2).all ids.contains)=true)
  (hf:∀G Y N:Nat->Nat,ai P f xs (sub ids σ.hp++pins ids G Y N) λr' H'=>r'=r/\∀i b,aa (K++pins ids G Y N) i=some b->aa H' i=some b)
  {s:St} (ha:∀x,x∈bW ops o.guard++((fT σ c++aQ σ args.toList)++ids.map Loc.blk)->bn σ s x) {τ:St} (h1:τ.tm=(St.put ⟨s.tm,[]⟩ o.dst r).tm) (h2:∀i,aa τ.hp i=aa (K++s.hp) i):eK P C o s τ:=by
 have hag:∀i,ids.contains i=true->aa s.hp i=aa σ.hp i:=λi hi=>ha (.blk i) (YI _ (YI _ (W8.2 ⟨i,by simpa using hi,rfl⟩)))
 have hca:ax s c args.toList=ax σ c args.toList:=dI λx hx=>ha x (YI _ (YS _ hx))
 have hfg:=Dv (ids:=ids) (A:=σ.hp) (s:=s) hag;have hca2:ax (front ids σ.hp s) c args.toList=some (p,f,xs):=by
  rw[<-h,<-hca];refine dI λx _=>?_
  cases x with
  | tm t=>rfl
  | blk i=>exact hfg i
 have hl1:Le C s (front ids σ.hp s):=jF rfl (λ_=>rfl) (λi=>(hfg i).symm);intro a w Kp Q hrel hK;have hs:=Dw ids σ.hp s;refine dY ho hca2 hp hc ids hs hck hnd hpin hc1 hc2 hf rfl a w Kp Q (hl1 a w hrel) λa' w' hr'=>hK a' w' (jF ?_ ?_ ?_ a' w' hr')
 ·rw[h1];cases o.dst<;>simp[St.put,front]
 ·intro t;rw[h1];cases o.dst<;>rfl
 ·intro i;rw[St.gY,h2]
  show aa (bP (front ids σ.hp s).hp K) i=aa (K++s.hp) i
  rw[kH hnd,az,az,hfg]
theorem hY {ops:Array Oper} {Q:Exit->Act->World->Prop} {k n:Nat} {acc:dw} {o:Oper} {l:List Oper} {c:Operand} {args:Array Operand} {ats:Array TypeId} (ho:o.op=.call { callee:=.value c,args,argTypes:=ats }) (hg:o.guard=none) {p:Prop} {f:FuncId} {xs:List AV}
  (h:ax σ c args.toList=some (p,f,xs)) (hp:p) (hc:aH P f) (ids:List Nat) {H K:List (Nat×Blk)} {r:AV} (hH:sub ids σ.hp=H)
  (hck:((aA xs).all ids.contains&&(refs r).all ids.contains&&ids.all (λi=>decide (i<5000)&&(aa K i).isSome)&&K.all (λq=>ids.contains q.1))=true) (hnd:(K.map (·.1)).Nodup)
  (hpin:(ids.all λi=>match aa H i with | some b=>eW b | none=>false)=true) (hc1:(H.all λq=>(av q.2).all ids.contains)=true) (hc2:(K.all λq=>(av q.2).all ids.contains)=true)
  (hf:∀G Y N:Nat->Nat,ai P f xs (H++pins ids G Y N) λr' H'=>r'=r/\∀i b,aa (K++pins ids G Y N) i=some b->aa H' i=some b)
  {sk:List Loc×List Loc} (hs:((match o.dst with | some t=>[Loc.tm t] | none=>[])++K.map (λb=>Loc.blk b.1),bW ops o.guard++((fT σ c++aQ σ args.toList)++ids.map Loc.blk))=sk)
  (ha:(⟨σ.tm,bP σ.hp K⟩:St).put o.dst r=σ') (hk:al P C ops Q k n (acc++[sk]) l σ'):al P C ops Q k n acc (o::l) σ:=by
 subst hs ha hH;have hKi:∀b,b∈K->ids.contains b.1=true:=λb hb=>by
  simp only[Bool.and_eq_true] at hck;exact List.all_eq_true.1 hck.2 b hb
 have hrob:Rob P C ops o ⟨o.dst,r,K,bW ops o.guard++((fT σ c++aQ σ args.toList)++ids.map Loc.blk)⟩ σ:=by
  intro s ha _ a w Kp Q ⟨μ,S,hi⟩ hK;have hgs:guardOf ops s o.guard=some true:=by rw[hg];rfl
  rw[bk hi hgs];refine .inl (uN ho h hp hc ids hck hnd hpin hc1 hc2 hf ha ?_ (λi=>?_) a w Kp Q ⟨μ,S,hi⟩ hK)
  ·unfold Sp.app;cases o.dst<;>rfl
  ·unfold Sp.app;rw[St.gY]
 refine pS hrob (λb hb hno=>absurd ?_ hno) rfl rfl (al.sim ⟨?_,?_⟩ hk)
 ·exact YI _ (YI _ (W8.2 ⟨b.1,by simpa using hKi b hb,rfl⟩))
 ·unfold Sp.app;cases o.dst<;>rfl
 ·intro i;unfold Sp.app;rw[St.gY,St.gY];exact (kH hnd σ.hp i).symm
theorem dP {ops:Array Oper} {Q:Exit->Act->World->Prop} {k n:Nat} {acc:dw} {o:Oper} {l:List Oper} {c:Operand} {args:Array Operand} {ats:Array TypeId} (ho:o.op=.call { callee:=.value c,args,argTypes:=ats }) (hg:o.guard=none) {p:Prop} {f:FuncId} {xs:List AV}
  (h:ax σ c args.toList=some (p,f,xs)) (hp:p) (hc:aH P f) (ids:List Nat) {H:List (Nat×Blk)} {r:AV} (hH:sub ids σ.hp=H)
  (hck:((aA xs).all ids.contains&&(refs r).all ids.contains&&ids.all (λi=>decide (i<5000)&&(aa H i).isSome)&&H.all (λq=>ids.contains q.1))=true) (hnd:(H.map (·.1)).Nodup)
  (hpin:(ids.all λi=>match aa H i with | some b=>eW b | none=>false)=true) (hc1:(H.all λq=>(av q.2).all ids.contains)=true)
  (hf:∀G Y N:Nat->Nat,ai P f xs (H++pins ids G Y N) λr' H'=>r'=r/\∀i b,aa (H++pins ids G Y N) i=some b->aa H' i=some b)
  {sk:List Loc×List Loc} (hs:((match o.dst with | some t=>[Loc.tm t] | none=>[]),bW ops o.guard++((fT σ c++aQ σ args.toList)++ids.map Loc.blk))=sk)
  (ha:σ.put o.dst r=σ') (hk:al P C ops Q k n (acc++[sk]) l σ'):al P C ops Q k n acc (o::l) σ:=by
 subst hs ha hH;have hrob:Rob P C ops o ⟨o.dst,r,[],bW ops o.guard++((fT σ c++aQ σ args.toList)++ids.map Loc.blk)⟩ σ:=by
  intro s ha _ a w Kp Q ⟨μ,S,hi⟩ hK;have hgs:guardOf ops s o.guard=some true:=by rw[hg];rfl
  rw[bk hi hgs];refine .inl (uN ho h hp hc ids hck hnd hpin hc1 hc1 hf ha ?_ (λi=>?_) a w Kp Q ⟨μ,S,hi⟩ hK)
  ·unfold Sp.app;cases o.dst<;>rfl
  ·unfold Sp.app;rw[St.gY]
   show aa s.hp i=_
   rw[az];split
   ·rename_i he;obtain ⟨b,hb,rfl⟩:=he;have hib:ids.contains b.1=true:=by
     simp only[Bool.and_eq_true] at hck;exact List.all_eq_true.1 hck.2 b hb
    rw[cx,if_pos hib];exact ha (.blk b.1) (YI _ (YI _ (W8.2 ⟨b.1,by simpa using hib,rfl⟩)))
   ·rfl
 refine ke hrob rfl ?_ ?_ hk
 ·unfold Sp.wr;cases o.dst<;>simp
 ·unfold Sp.app;cases o.dst<;>rfl
end
end Go.Eng
namespace Go.Eng
section
variable {P:Program} {T:Tab} {C:Ctx} {σ:St} {Ret:St->Prop}
theorem tY (id:Nat):∀l:List AV,zG l (l.map (kill id))
 | []=>trivial
 | x::l=>by
  refine ⟨?_,tY id l⟩;unfold kill;split
  ·exact .inl rfl
  ·exact .inr rfl
theorem vh (h:List (Nat×Blk)) (id:Nat) (b c:Blk) (i:Nat):aa (aF (aF h id b) id c) i=aa (aF h id c) i:=by
 simp only[aj];split<;>rfl
theorem Inv.pad {μ:Nat->Option Nat} {S:Nat->Prop} {a:Act} {w:World} (hi:Inv C μ S σ a w) {id e s m n:Nat} {R:List (List AV)} (hb:aa σ.hp id=some (.cells e s R)) {g:Nat} (hg:μ id=some g) {c:Array Value} (hc:w.heap[g]? = some (.cells c e (0,0)))
  (hm:m<=R.length) (hn:(m+n)*s<=c.size):Inv C μ S ⟨σ.tm,aF σ.hp id (.cells e s (R.take m++List.replicate n (List.replicate s .any)))⟩ a w:=by
 refine ⟨hi.size,hi.defers,hi.tm,λi b hb'=>?_,λi q hq=>?_,hi.inj,hi.frm,hi.sb⟩
 ·rw[aj] at hb';split at hb'
  ·rename_i e';injection hb' with hb'
   subst hb' e'
   rcases hi.hp id _ hb with ⟨_,k⟩ | ⟨g',c',k1,k2,k3,k4,k5⟩
   ·rw[k] at hg;cases hg
   ·rw[k1] at hg;injection hg with hg;subst hg
    rw[k2] at hc;simp only[gL,Obj.cells.injEq] at hc;obtain ⟨rfl,_⟩:=hc;refine .inr ⟨g',c',k1,k2,?_,λrow hr=>?_,λi row hi' j x hx=>?_⟩
    ·simp only[List.length_append,YF,Yx,Yu hm];exact hn
    ·rcases List.mem_append.1 hr with h | h
     ·exact k4 row (YJ h)
     ·rw[(Y1.1 h).2];simp
    ·by_cases h:i<(R.take m).length
     ·rw[YU h,YW] at hi';split at hi'
      ·exact k5 i row hi' j x hx
      ·cases hi'
     ·rw[YQ z8] at hi';have h1:=(Y1.1 (W6 hi')).2;subst h1;have h2:=(Y1.1 (W6 hx)).2;subst h2;exact .any _
  ·exact hi.hp i b hb'
 ·obtain ⟨⟨b,k1⟩,k2⟩:=hi.dom i q hq;refine ⟨?_,k2⟩;rw[aj];split
  ·exact ⟨_,rfl⟩
  ·exact ⟨b,k1⟩
theorem Bb (hT:TabOK P T) {k:List It} {all:Array Oper} {o:Oper} {l:List Oper} {x y:Operand} {t e:TypeId} (ho:o.op=.call { callee:=.builtin .append,args:=#[x,y],argTypes:=#[t,t] }) (hgd:o.guard=none) (ht:T.und t=.sl e)
  {id s off len:Nat} {R rows:List (List AV)} {yv:AV} (hx:evS σ x=(True,.osl id s off len)) (hy:evS σ y=(True,yv)) (hsrc:cP σ yv=some rows) (hyl:∀id s off len,yv=.osl id s off len->rows.length=len) (hb:aa σ.hp id=some (.cells e s R))
  (hlen:0<len) (hR:off+len<=R.length) (hs:T.siz e=s) (hs0:s≠0) (hb0:T.byt e≠0) (hrl:rowsOf s rows) (hleaf:ec rows=true) (hsz:(2*(len+rows.length)+768)*T.byt e<=281474976710656) (hfree:ek id σ.hp)
  (hbf:bo id (.cells e s (R++rows)))
  (h:∀off':Nat,off'=off\/off'=0->Cw P C Ret (.ops all l::k) (St.put ⟨σ.tm.map (kill id),aF σ.hp id (.cells e s ((R.drop (off-off')).take (off'+len)++rows))⟩ o.dst (.osl id s off' (len+rows.length)))) :
  Cw P C Ret (.ops all (o::l)::k) σ:=by
 subst hs;intro a w hrel
 show wpList P all _ (o::l) a w
 unfold wpList;obtain ⟨μ,S,hi⟩:=hrel;rw[bk hi (c:=true) (by rw[hgd];rfl)];refine .inl ?_;have hty:P.underlying t=some (.slice e):=by have:=hT.und t;rw[ht] at this;exact this
 have hvx:=hi.evS x u9;have hvy:=hi.evS y Qi;rw[hx] at hvx;rw[hy] at hvy;obtain ⟨vs,hvs⟩:=lU hi hsrc hvy hrl hyl;have hRt:((R.drop off).take len).length=len:=by simp;omega
 rcases hi.hp id _ hb with ⟨rfl,_⟩ | ⟨g',c,k1,k2,k3,k4,k5⟩
 ·simp at hR;omega
 have hRl:rowsOf (T.siz e) ((R.drop off).take len):=λrow hr=>k4 row (Yb (YJ hr))
 obtain ⟨olds,hol⟩:=lU hi (x:=.osl id (T.siz e) off len) (rows:=(R.drop off).take len) (size:=T.siz e) (by simp[cP,hb]) hvx hRl (λ_ _ _ _ h=>by injection h with _ _ _ h;rw[hRt,h]);have hvx0:=hvx;obtain ⟨A,cap,hav,hc,hor⟩:=hvx.bT
 rcases hor with ⟨h1,_⟩ | ⟨g,e2,n,h1,hA,h3,h4⟩
 ·omega
 rw[k1] at h1;injection h1 with h1;subst h1
 rw[ag,k2] at h3;simp only[gL,gM] at h3;obtain ⟨rfl,rfl⟩:=h3;have hax:a.eval x=.slice (some ⟨g',off*T.siz e,none⟩) len cap:=by rw[<-hA];exact hav
 have hno:=nj hbf;have hv0:∀u,u∈vs->u.oneCell'=true:=ra hvs hleaf
 by_cases hroom:len+rows.length<=cap
 ·-- in place
  have hr:=ie (ty:=o.type) (A:=some ⟨g',off*T.siz e,none⟩) (len:=len) (cap:=cap) hT hty hs0 hvs hroom;have hcap:(off+len+rows.length)*T.siz e<=c.size:=by
   rw[<-h4];exact YM _ z8
  have hi1:=hi.pad hb k1 k2 hR hcap;have hl1:(R.take (off+len)).length=off+len:=by simp;omega
  obtain ⟨w',r1,r2⟩:=lV (P:=P) hi1 (off:=off+len) (new:=rows) (vs:=vs) (by rw[aj,if_pos rfl]) k1 (by simp[hl1]) hvs.len hrl hv0 (λi row hi j x hx=>hvs.rd i row hi j x hx);have hov:aY (R.take (off+len)++List.replicate rows.length (List.replicate (T.siz e) .any)) (off+len) rows=R.take (off+len)++rows:=by
   unfold aY;rw[List.take_append_of_le_length z8,W4 z8,List.drop_eq_nil_of_le (by simp[hl1]),List.append_nil]
  rw[hov] at r2;have hfr:(execOp a.eval o).run P w=.ok (.value (.slice (some ⟨g',off*T.siz e,none⟩) (len+rows.length) cap)) w':=by
   have e1:off*T.siz e+len*T.siz e=(off+len)*T.siz e:=by rw[Nat.add_mul]
   simp only[add_plain,e1,r1,Result.andThen_ok] at hr;simp[execOp,ho,hax,resolve,invoke,builtin,hr]
  have r3:=r2.IJ (H:=aF σ.hp id (.cells e (T.siz e) (R.take (off+len)++rows))) (λi=>(vh _ _ _ _ i).symm);have he:evS ⟨σ.tm,aF σ.hp id (.cells e (T.siz e) (R.take (off+len)++rows))⟩ x=evS σ x:=by cases x<;>rfl
  have hv2:=r3.evS x (by rw[he,hx];trivial);rw[he,hx,hax] at hv2;obtain ⟨A2,cap2,hv3,_,hor2⟩:=hv2.bT;obtain ⟨μ3,S3,r4⟩:=Ln (C:=C) (tY id σ.tm) a w' ⟨μ,S,r3⟩;unfold Oper.wp;rw[hfr];have hv4:=r4;refine h off (.inl rfl) (a.put o.dst _) _ ⟨μ,S,Inv.put ?_ o.dst ?_⟩;rw[Yq,List.drop_zero]
  ·exact ⟨by rw[r3.size];simp,r3.defers,λt x hx=>by
    rw[W5] at hx;cases e5:σ.tm[t]? with
    | none=>rw[e5] at hx;cases hx
    | some y=>
     rw[e5] at hx;simp only[Option.map_some,gL] at hx;subst hx;have:=r3.tm t y e5;unfold kill;split
     ·exact .any _
     ·exact this,r3.hp,r3.dom,r3.inj,r3.frm,r3.sb⟩
  ·rcases hor2 with ⟨h5,_⟩ | ⟨g2,e3,n2,q1,q2,q3,q4⟩
   ·omega
   ·rw[k1] at q1;injection q1 with q1;subst q1
    injection hv3 with j1 j2 j3
    subst j3;exact .osl id _ off _ cap _ hroom (.inr ⟨g',e3,n2,k1,rfl,q3,q4⟩)
 ·-- a new block
  obtain ⟨nc,z,h1,h2,hgr⟩:=gZ (ty:=o.type) hT hty hs0 hb0 (by rw[<-hax];exact hol) hvs hRt hroom hsz;have hi1:=(hi.drop id hfree).drew;have hfr:aa (σ.drop id).hp id=none:=by simp only[St.drop,bz,if_true]
  have hnod:upd μ id none id=none:=hi1.fresh hfr;have hm:∀{v x},Rd μ S w v x->id∉refs x->Rd (upd μ id none) S w.drew v x:=λh hn=>
   (h.other hn none).mono (λ_ _=>rfl) (λ_ h=>h) (λ_ _ h=>h) (λ_ _ _=>rfl)
  have hrun:(execOp a.eval o).run P w=.ok (.value (.slice (some ⟨w.heap.size,0,none⟩) (len+rows.length) nc)) (w.drew.alloc (.cells (olds.toArray++vs.toArray++z) e)):=by
   simp[execOp,ho,hax,resolve,invoke,builtin,hgr]
  unfold Oper.wp;rw[hrun];have hnew:=hi1.new id hfr (.cells (olds.toArray++vs.toArray++z) e) (.cells e (T.siz e) ((R.drop off).take len++rows)) (.inr ⟨w.heap.size,_,by simp[upd],bh w _,by simp[hol.len,hvs.len,hRt,Nat.add_mul],λrow hrow=>by
    rcases List.mem_append.1 hrow with h | h
    ·exact hRl row h
    ·exact hrl row h,?_⟩)
  ·have hnew':=hnew.IJ (H:=aF σ.hp id (.cells e (T.siz e) ((R.drop off).take len++rows))) (λi=>by
    simp only[St.drop,aj,aa,bz];split<;>rfl)
   refine h 0 (.inr rfl) (a.put o.dst _) _ ⟨_,_,Inv.put (by rw[Nat.sub_zero,Yd];exact hnew') o.dst ?_⟩;refine .osl id _ 0 _ nc _ h1 (.inr ⟨w.heap.size,e,_,if_pos rfl,by simp,?_,rfl⟩);unfold ag;rw[bh];simp only[gL,gM,true_and];simp only[Array.size_append,List.size_toArray,hol.len,hvs.len,hRt,h2,Yd,<-Nat.add_mul]
   congr 1
   omega
  ·have hup:∀{v x},Rd (upd μ id none) S w.drew v x ->
     Rd (upd (upd μ id none) id (some w.heap.size)) S (World.alloc w.drew (.cells (olds.toArray++vs.toArray++z) e)) v x:=λh=>
    h.mono (λb hb=>bb _ _ b (hi1.sb b hb).1) (λ_ h=>h) (λi' g hg=>by
     show (if i'=id then some w.heap.size else upd μ id none i')=some g
     rw[if_neg Qr];exact hg) (λi' g hg=>aN (bb _ _ g (hi1.dom i' g hg).2.2.2))
   have key:=jk (μ:=upd μ id none) (S:=S) (w:=w.drew) (R:=(R.drop off).take len) (rows:=rows) (cs:=olds.toArray++vs.toArray++z) (s:=T.siz e) hol.len hRl hrl
    (λi row hi' j x hx=>hm (hol.rd i row hi' j x hx) (hno row (YS _ (Yb (YJ (W6 hi')))) x (W6 hx)))
    (λi row hi' j x hx=>hm (hvs.rd i row hi' j x hx) (hno row (YI _ (W6 hi')) x (W6 hx))) hvs.len (λk hk=>by
     rw[Array.getD_eq_getD_getElem?,List.getD_eq_getElem?_getD,Yj Za];simp[List.append_toArray])
   exact λi row hi' j x hx=>hup (key i row hi' j x hx)
end
end Go.Eng
namespace Go.Eng
section
variable {P:Program} {T:Tab} {C:Ctx} {σ:St} {Ret:St->Prop} {w:World}
mutual
def lq (id:Nat) (kvs:List (Int×AV)):AV->AV
 | .mp i=>if i=id then .rm kvs else .mp i
 | .ptr i size row off=>if i=id then .any else .ptr i size row off
 | .osl i size off len=>if i=id then .any else .osl i size off len
 | .exs i size off len cap=>if i=id then .any else .exs i size off len cap
 | .agg cells=>.agg (mJ id kvs cells)
 | .tup cells=>.tup (mJ id kvs cells)
 | .fn f caps=>.fn f (mJ id kvs caps)
 | .cnd c v=>.cnd c (lq id kvs v)
 | x=>x
def mJ (id:Nat) (kvs:List (Int×AV)):List AV->List AV
 | []=>[]
 | x::r=>lq id kvs x::mJ id kvs r
end
theorem ji (id:Nat) (kvs:List (Int×AV)):∀l,mJ id kvs l=l.map (lq id kvs)
 | []=>rfl
 | x::r=>by simp[mJ,ji id kvs r]
def vO (id:Nat) (kvs:List (Int×AV)):Blk->Blk
 | .cells e z R=>.cells e z (R.map (mJ id kvs))
 | .map m=>.map m
 | .iter m seen=>.iter m seen
 | .cap j z N=>if j=id then .cells 0 0 [] else .cap j z N
 | .pin j g z N=>if j=id then .cells 0 0 [] else .pin j g z N
def rz (id:Nat) (kvs:List (Int×AV)):List (Nat×Blk)->List (Nat×Blk)
 | []=>[]
 | p::r=>if p.1=id then rz id kvs r else (p.1,vO id kvs p.2)::rz id kvs r
theorem oA (id:Nat) (kvs:List (Int×AV)) (i:Nat):∀H,aa (rz id kvs H) i=if i=id then none else (aa H i).map (vO id kvs)
 | []=>by simp[rz,aa]
 | (j,b)::r=>by
  have ih:=oA id kvs i r;unfold rz
  by_cases h:j=id
  ·subst h;rw[if_pos rfl,ih]
   by_cases h2:i=j
   ·rw[if_pos h2,if_pos h2]
   ·rw[if_neg h2,if_neg h2];simp only[aa];rw[if_neg (λh=>h2 h.symm)]
  ·rw[if_neg h];simp only[aa]
   by_cases h2:j=i
   ·subst h2;rw[if_pos rfl,if_neg h,if_pos rfl];rfl
   ·rw[if_neg h2,if_neg h2];exact ih
theorem RdP.IE {S:Nat->Prop} {v:Value} {x:AV} (h:RdP S w v x) (id:Nat) (kvs:List (Int×AV)):lq id kvs x=x:=by
 have key:∀(l:List AV),(∀(j:Nat) x,l[j]? = some x->lq id kvs x=x)->mJ id kvs l=l:=by
  intro l
  induction l with
  | nil=>intro _;rfl
  | cons y r ih=>
   intro h;simp only[mJ];rw[h 0 y rfl,ih (λj x hj=>h (j+1) x QQ)]
 induction h with
 | fn f vals caps hl hr ih=>simp only[lq];rw[key caps ih]
 | agg cs cells hl hr ih=>simp only[lq];rw[key cells ih]
 | _=>rfl
theorem nB {id:Nat} {kvs:List (Int×AV)} {R':Value->AV->Prop} {vals:Nat->Value} {cells:List AV} (h:∀j x,cells[j]? = some x->R' (vals j) (lq id kvs x)) :
  ∀j x,(mJ id kvs cells)[j]? = some x->R' (vals j) x:=by
 intro j x hx;rw[ji,W5] at hx;cases e:cells[j]? with
 | none=>rw[e] at hx;cases hx
 | some y=>
  rw[e] at hx;simp only[Option.map_some,gL] at hx;subst hx;exact h j y e
theorem zr {l:List AV} {H:List (Nat×Blk)} {id:Nat} {kvs:List (Int×AV)} (hb:aa H id=some (.map kvs)) {μ:Nat->Option Nat} {S:Nat->Prop} {a:Act} (hi:Inv C μ S ⟨l,H⟩ a w) :
  Inv C (upd μ id none) (λb=>S b\/μ id=some b) ⟨l.map (lq id kvs),rz id kvs H⟩ a w:=by
 obtain ⟨g0,es0,clk0,vals0,b1,b2,b3,b4⟩:=hi.hp id _ hb
 let S2:Nat->Prop:=λb=>S b\/μ id=some b
 let μ2:Nat->Option Nat:=upd μ id none
 have hS:∀b,S b->S2 b:=λb h=>.inl h
 have rd:∀{v:Value} {x:AV},Rd μ S w v x->Rd μ2 S2 w v (lq id kvs x):=by
  intro v x h
  induction h with
  | any v=>exact .any v
  | pure h=>rw[h.IE];exact .pure (h.mono (aI.refl _ _) hS)
  | agg cs cells hl hr ih=>simp only[lq];exact .agg cs _ WB (nB (R':=λv x=>Rd μ2 S2 w v x) (vals:=λj=>cs.getD j undef) ih)
  | tup cs cells hl hr ih=>simp only[lq];exact .tup cs _ WB (nB (R':=λv x=>Rd μ2 S2 w v x) (vals:=λj=>cs.getD j undef) ih)
  | fn f vals cells hl hr ih=>simp only[lq];exact .fn f vals _ WB (nB (R':=λv x=>Rd μ2 S2 w v x) (vals:=λj=>vals.getD j undef) ih)
  | ptr i size row o g hg=>
   simp only[lq];split
   ·exact .any _
   ·rename_i he;exact .ptr i size row o g QA
  | osl i size o len cap A hc h=>
   simp only[lq];split
   ·exact .any _
   ·rename_i he;refine .osl i size o len cap A hc ?_
    rcases h with h | ⟨g,e',n,h1,h2,h3,h4⟩
    ·exact .inl h
    ·exact .inr ⟨g,e',n,by simp only[μ2,upd];rw[if_neg he];exact h1,h2,h3,h4⟩
  | mp i g hg=>
   simp only[lq];split
   ·rename_i he;subst he;rw[b1] at hg;injection hg with hg;subst hg
    exact .pure (.rm g0 es0 clk0 kvs vals0 (.inr b1) b2 b3 (λp hp=>(b4 p hp).mono (aI.refl _ _) hS))
   ·rename_i he;exact .mp i g QA
  | exs i size o len cap g e n hc hg hr hn=>
   simp only[lq];split
   ·exact .any _
   ·rename_i he;exact .exs i size o len cap g e n hc QA hr hn
  | cndT v x h ih=>exact .cndT v _ ih
  | cndF x=>exact .cndF _
 have m2:∀{i g},μ2 i=some g->i≠id/\μ i=some g:=fun {i g} hg=>by
  simp only[μ2,upd] at hg;split at hg
  ·cases hg
  ·exact ⟨by assumption,hg⟩
 refine ⟨by simp[hi.size],hi.defers,λt x hx=>?_,λi b hb'=>?_,λi g hg=>?_,λi j g h1 h2=>hi.inj i j g (m2 h1).2 (m2 h2).2,hi.frm,λb hb'=>?_⟩
 ·simp only[W5] at hx;cases e:l[t]? with
  | none=>rw[e] at hx;cases hx
  | some y=>
   rw[e] at hx;simp only[Option.map_some,gL] at hx;subst hx;exact rd (hi.tm t y e)
 ·simp only at hb';rw[oA] at hb';split at hb'
  ·cases hb'
  ·rename_i he;cases e1:aa H i with
   | none=>rw[e1] at hb';cases hb'
   | some b0=>
    rw[e1] at hb';simp only[Option.map_some,gL] at hb';subst hb';have hμ:μ2 i=μ i:=by simp only[μ2,upd];rw[if_neg he]
    have:=hi.hp i b0 e1;cases b0 with
    | cells e' z R=>
     rcases this with ⟨rfl,h2⟩ | ⟨g,c,h1,h2,h3,h4,h5⟩
     ·exact .inl ⟨rfl,hμ.trans h2⟩
     ·refine .inr ⟨g,c,hμ.trans h1,h2,by simpa using h3,λrow hrow=>?_,λi' row hi' j x hx=>?_⟩
      ·obtain ⟨r,hr,rfl⟩:=W8.1 hrow;rw[ji,List.length_map];exact h4 r hr
      ·rw[W5] at hi';cases e2:R[i']? with
       | none=>rw[e2] at hi';cases hi'
       | some r=>
        rw[e2] at hi';simp only[Option.map_some,gL] at hi';subst hi';exact nB (R':=λv x=>Rd μ2 S2 w v x) (vals:=λj=>c.getD (i'*z+j) undef) (λj x hx=>rd (h5 i' r e2 j x hx)) j x hx
    | map kvs=>
     obtain ⟨g,es,clk,vals,h1,h2,h3,h4⟩:=this;exact ⟨g,es,clk,vals,hμ.trans h1,h2,h3,λp hp'=>(h4 p hp').mono (aI.refl _ _) hS⟩
    | iter kvs seen=>
     obtain ⟨g,es,clk,vals,had,h1,h2,h4⟩:=this;obtain ⟨m,k1,k2,k3⟩:=h2.lies;exact ⟨g,es,clk,vals,had,hμ.trans h1,⟨⟨m,k1,hS _ k2,k3⟩,h2.map,h2.last,h2.had⟩,λp hp'=>(h4 p hp').mono (aI.refl _ _) hS⟩
    | cap k z N=>
     obtain ⟨h1,g,e,h2,h3⟩:=this;simp only[vO];split
     ·exact .inl ⟨rfl,hμ.trans h1⟩
     ·rename_i hk;refine ⟨hμ.trans h1,g,e,?_,h3⟩;simp only[upd];rw[if_neg hk];exact h2
    | pin k g z N=>
     obtain ⟨h1,h2,h3⟩:=this;simp only[vO];split
     ·exact .inl ⟨rfl,hμ.trans h1⟩
     ·rename_i hk;refine ⟨hμ.trans h1,?_,h3⟩;simp only[upd];rw[if_neg hk];exact h2
 ·obtain ⟨k1,k2⟩:=m2 hg;obtain ⟨⟨b,h1⟩,h2,h3,h4⟩:=hi.dom i g k2;refine ⟨⟨vO id kvs b,?_⟩,h2,?_,h4⟩
  ·simp only at h1 ⊢;rw[oA,if_neg k1,h1];rfl
  ·rintro (h | h)
   ·exact h3 h
   ·exact k1 (hi.inj _ _ _ k2 h)
 ·rcases hb' with h | h
  ·exact hi.sb b h
  ·obtain ⟨_,h2,_,h4⟩:=hi.dom id b h;exact ⟨h4,.inr h2⟩
theorem lj {k:List It} {l:List AV} {H:List (Nat×Blk)} (id:Nat) {kvs:List (Int×AV)} (hb:aa H id=some (.map kvs)) (h:Cw P C Ret k ⟨l.map (lq id kvs),rz id kvs H⟩):Cw P C Ret k ⟨l,H⟩:=
 af (λ_ _ ⟨_,_,hi⟩=>⟨_,_,zr hb hi⟩) h
attribute [go_sem] lq mJ vO rz
theorem tv (hT:TabOK P T) {k:List It} {all:Array Oper} {o:Oper} {l:List Oper} {t:TypeId} {x:Operand} {d:Nat} (ho:o.op=.range t x) (hd:o.dst=some d) (hg:o.guard=none) {kt et:TypeId} (ht:T.und t=.map kt et) {kvs:List (Int×AV)}
  (hx:evS σ x=(True,.rm kvs)) (hf:aa σ.hp d=none) (h:Cw P C Ret (.ops all l::k) ⟨σ.tm.set d (.ptr d 1 0 0),(d,.iter kvs [])::σ.hp⟩):Cw P C Ret (.ops all (o::l)::k) σ:=by
 refine bC Qy (λa w K Q ⟨μ,S,hi⟩ hK=>?_) h;have hv:=hi.evS x u9;rw[hx] at hv;obtain ⟨g,es,clk,vals,hv',h1,h2,h3,h4⟩:=(Rd.oB hv).oB;have hty:P.underlying t=some (.map kt et):=by have:=hT.und t;rw[ht] at this;exact this
 have hax:a.eval x=.map (some g):=hv';have hrun:(execOp a.eval o).run P w=.ok (.value (.pointer (some ⟨w.heap.size,0,none⟩))) (w.alloc (.mapIter (some g) clk #[] clk)):=by
  simp[execOp,ho,hax,run_range_map w t kt et g es clk hty h2]
 unfold Oper.wp;rw[hrun];have hlt:=(hi.sb g h1).1;have hnew:=hi.new d hf (.mapIter (some g) clk #[] clk) (.iter kvs []) ⟨w.heap.size,es,clk,vals,#[],by simp[upd],⟨⟨g,jd w _,h1,by rw[bb w _ g hlt];exact h2⟩,h3,λk r h=>Qs,λe he k hk=>by simp⟩,
  λp hp=>(h4 p hp).mono (λb hb=>bb w _ b (hi.sb b hb).1) (λ_ h=>h)⟩
 have hput:=hnew.put o.dst (u:=.pointer (some ⟨w.heap.size,0,none⟩)) (x:=.ptr d 1 0 0) (by
  have:=Rd.ptr (μ:=upd μ d (some w.heap.size)) (S:=S) (w:=w.alloc (.mapIter (some g) clk #[] clk)) d 1 0 0 w.heap.size (by simp[upd]);simpa using this)
 rw[hd] at hput;refine hK _ _ ⟨upd μ d (some w.heap.size),S,?_⟩;rw[hd];exact hput
theorem run_next_at {g bm since c0:Nat} {seen:Array Nat} {es:Array MapEntry} {clock:Nat} (ty:TypeId) (hg:w.heap[g]? = some (.mapIter (some bm) since seen c0)) (hb:w.heap[bm]? = some (.map es clock)) (hold:∀x∈es.toList,x.born<since) (hsc:since<=c0) :
  ((leftOf es seen).size=0/\(Instr.next (.pointer (some ⟨g,0,none⟩)) false ty).run P w=.ok (.tuple #[.bool false]) w) \/
  ∃e∈(leftOf es seen).toList,∃w1:World,(w1=w\/w1=w.drew)/\(Instr.next (.pointer (some ⟨g,0,none⟩)) false ty).run P w =
   ((setObj g (.mapIter (some bm) since (seen.push e.born) clock)).run P w1).andThen (λ_ w'=>.ok (.tuple #[.bool true,e.key,e.val]) w'):=by
 simp only[Instr.next,getObj,Sem.run_bind,Sem.run,hg,hb,Result.andThen,next_test_false seen es since c0 hold hsc,Bool.false_eq_true,if_false];unfold leftOf;have hmem:∀x∈(Array.filter (λe=>!seen.contains e.born) es).toList,x.born<since:=λx hx=>hold x (by simp at hx ⊢;exact hx.1)
 generalize Array.filter (λe=>!seen.contains e.born) es=L at hmem ⊢;have e1:L.filter (λx=>decide (x.born<since))=L:=Array.filter_eq_self.2 (λx hx=>by simpa using hmem x (by simpa using hx));have e2:L.filter (λx=>decide (x.born≥since))=#[]:=by
  rw[Array.filter_eq_empty_iff];intro x hx;have:=hmem x (by simpa using hx);simp;omega
 simp only[e1,e2,Array.append_empty]
 by_cases h0:L.size=0
 ·left;have:L=#[]:=Array.eq_empty_of_size_eq_zero h0;subst this;refine ⟨rfl,?_⟩;simp[choose,Sem.run,Question.forced]
 ·right;have hne:L.isEmpty=false:=by simp[Array.isEmpty,h0]
  simp only[hne,Bool.false_eq_true,if_false,Array.empty_append,Array.size_map];have hch:∃(j:Nat) (w1:World),j<L.size/\(w1=w\/w1=w.drew)/\(choose (Question.mapNext L.size)).run P w=.ok j w1:=by
   by_cases hf:L.size<=1
   ·exact ⟨0,w,by omega,.inl rfl,by simp[choose,Sem.run,Question.forced,hf]⟩
   ·exact ⟨_,w.drew,Nat.mod_lt _ z8,.inr rfl,by
     simp only[choose,Sem.run,Question.forced,decide_eq_true_eq,hf,if_false,Question.cut];rfl⟩
  obtain ⟨j,w1,hj,hw1,hrun⟩:=hch;refine ⟨L[j],by simp,w1,hw1,?_⟩;simp only[hrun,Array.getElem?_map,YK hj,Option.map_some,Sem.run_bind,Result.andThen];rfl
theorem xm {k:List It} {all:Array Oper} {o:Oper} {l:List Oper} {x:Operand} {d:Nat} (ho:o.op=.next x false) (hg:o.guard=none) {kvs:List (Int×AV)} {seen:List Int}
  (hx:evS σ x=(True,.ptr d 1 0 0)) (hb:aa σ.hp d=some (.iter kvs seen)) (h1:(∀p,p∈kvs->p.1∈seen)->Cw P C Ret (.ops all l::k) (σ.put o.dst (.tup [.bool false])))
  (h2:∀n v,(n,v)∈kvs->n∉seen->Cw P C Ret (.ops all l::k) (St.put ⟨σ.tm,aF σ.hp d (.iter kvs (n::seen))⟩ o.dst (.tup [.bool true,.int .i64 n,v]))):Cw P C Ret (.ops all (o::l)::k) σ:=by
 intro a w hrel
 show wpList P all _ (o::l) a w
 unfold wpList;obtain ⟨μ,S,hi⟩:=hrel;rw[bk hi (c:=true) Qy];refine .inl ?_;have hv:=hi.evS x u9;rw[hx] at hv;obtain ⟨g,hμ,hax⟩:=hv.iX;obtain ⟨g',es,clk,vals,had,q1,q2,q3⟩:=hi.hp d _ hb;rw[hμ] at q1;injection q1 with q1;subst q1
 obtain ⟨m,k1,k2,k3⟩:=q2.lies;have hax':a.eval x=.pointer (some ⟨g,0,none⟩):=by simpa using hax
 have hcase:=run_next_at (P:=P) o.type k1 k3 (λe he=>q2.map.born e he) (YA _);unfold Oper.wp
 rcases hcase with ⟨c1,c2⟩ | ⟨e,c1,w1,c2,c3⟩
 ·have hrun:(execOp a.eval o).run P w=.ok (.value (.tuple #[.bool false])) w:=by
   simp[execOp,ho,hax',c2]
  rw[hrun];refine h1 (λp hp=>?_) _ _ ⟨μ,S,hi.put o.dst (.tup _ _ rfl λj y hy=>?_)⟩
  ·obtain ⟨e,he,hk⟩:=q2.map.has p hp;refine (q2.had e he p.1 hk).1 ?_;cases hc:had.contains e.born with
   | true=>rfl
   | false=>
    have:e∈(leftOf es had).toList:=by unfold leftOf;simp at he hc ⊢;exact ⟨he,by simpa using hc⟩
    rw[Array.eq_empty_of_size_eq_zero c1] at this;simp at this
  ·match j,hy with
   | 0,hy=>injection hy with hy;subst hy;exact .pure (.bool false)
   | j+1,hy=>simp at hy
 ·have he:e∈es.toList/\had.contains e.born=false:=by unfold leftOf at c1;simpa using c1
  obtain ⟨n,v,e1,e2,e3⟩:=q2.map.key e he.1;have hn:n∉seen:=λhm=>by rw[(q2.had e he.1 n e1).2 hm] at he;cases he.2
  have hi1:Inv C μ S σ a w1:=by
   rcases c2 with rfl | rfl
   ·exact hi
   ·exact hi.drew
  have hh1:w1.heap=w.heap:=by rcases c2 with rfl | rfl<;>rfl
  have hw1:w1.heap[g]? = some (.mapIter (some m) clk had clk):=by rw[hh1];exact k1
  obtain ⟨w',r1,r2,r3,r4,r5,r6,r7⟩:=oN (P:=P) (o:=.mapIter (some m) clk (had.push e.born) clk) hw1 (λ_ _ _ h=>nomatch h);have hrun:(execOp a.eval o).run P w=.ok (.value (.tuple #[.bool true,e.key,e.val])) w':=by
   rw[r1] at c3;simp[execOp,ho,hax',c3]
  rw[hrun];have hS:¬S g:=(hi.dom d g hμ).2.2.1;have hw:aI S w w':=λb hb=>by rw[r6 b Qa,hh1]
  have hmg:m≠g:=by rintro rfl;exact hS k2
  have hnd:(es.toList.map (·.key)).Nodup:=q2.map.once;have hblk:cJ μ S w' d (.iter kvs (n::seen)):=by
   refine ⟨g,es,clk,vals,had.push e.born,hμ,⟨⟨m,r7,k2,by rw[r6 m hmg,hh1];exact k3⟩,q2.map,λk' r' hkr=>?_,λe' he' k' hk'=>?_⟩,λp hp=>(q3 p hp).mono hw (λ_ h=>h)⟩
   ·injection hkr with h1 h2
    subst h1;exact ⟨e,he.1,e1,by simp⟩
   ·rw[List.mem_cons];have h0:=q2.had e' he' k' hk';have hc:(had.push e.born).contains e'.born=(had.contains e'.born||e'.born==e.born):=by
     rw[Yv];simp
    rw[hc,Bool.or_eq_true,h0,beq_iff_eq];constructor
    ·rintro (h | h)
     ·exact .inr h
     ·left
      -- one stamp, one entry
      have:e'=e:=by
       have hb:=q2.map.nodup;obtain ⟨i,hi⟩:=YC he';obtain ⟨j,hj⟩:=YC he.1;have h1:(es.toList.map (·.born))[i]? = some e.born:=by rw[W5,hi,<-h];rfl
       have h2:(es.toList.map (·.born))[j]? = some e.born:=by rw[W5,hj];rfl
       have:=kQ hb h1 h2;subst this;rw[hi] at hj;injection hj
      subst this;rw[e1] at hk';injection hk' with _ hk'
      exact hk'.symm
    ·rintro (h | h)
     ·right;subst h;have:e'=e:=by
       obtain ⟨i,hi⟩:=YC he';obtain ⟨j,hj⟩:=YC he.1;have h1:(es.toList.map (·.key))[i]? = some (.int .i64 k'):=by rw[W5,hi,<-hk'];rfl
       have h2:(es.toList.map (·.key))[j]? = some (.int .i64 k'):=by rw[W5,hj,<-e1];rfl
       have:=kQ hnd h1 h2;subst this;rw[hi] at hj;injection hj
      rw[this]
     ·exact .inl h
  have hi2:=hi1.write d g hμ r2 r3 r4 r5 r6 (by simp[ag,r7,hw1]) _ hblk;refine h2 n v e2 hn _ _ ⟨μ,S,Inv.put hi2 o.dst (.tup _ _ rfl λj y hy=>?_)⟩
  match j,hy with
  | 0,hy=>injection hy with hy;subst hy;exact .pure (.bool true)
  | 1,hy=>
   injection hy with hy;subst hy
   show Rd μ S w' e.key (.int .i64 n)
   rw[e1];exact .pure (.int .i64 n)
  | 2,hy=>
   injection hy with hy;subst hy
   show Rd μ S w' e.val v
   rw[e3];exact .pure ((q3 (n,v) e2).mono hw (λ_ h=>h))
  | j+3,hy=>simp at hy
theorem tu {k:List It} {all:Array Oper} {o:Oper} {l:List Oper} {x:Operand} {d:Nat} (ho:o.op=.entry x) (hg:o.guard=none) {kvs:List (Int×AV)} {n:Int} {seen:List Int} {v:AV}
  (hx:evS σ x=(True,.ptr d 1 0 0)) (hb:aa σ.hp d=some (.iter kvs (n::seen))) (hv:(n,v)∈kvs) (h:Cw P C Ret (.ops all l::k) (σ.put o.dst (.tup [.int .i64 n,v]))):Cw P C Ret (.ops all (o::l)::k) σ:=by
 refine bC Qy (λa w K Q ⟨μ,S,hi⟩ hK=>?_) h;have hvx:=hi.evS x u9;rw[hx] at hvx;obtain ⟨g,hμ,hax⟩:=hvx.iX;obtain ⟨g',es,clk,vals,had,q1,q2,q3⟩:=hi.hp d _ hb;rw[hμ] at q1;injection q1 with q1;subst q1
 obtain ⟨m,k1,k2,k3⟩:=q2.lies;have hax':a.eval x=.pointer (some ⟨g,0,none⟩):=by simpa using hax
 obtain ⟨e,he,hk,hl⟩:=q2.last n seen rfl;have hf:es.find? (·.born==e.born)=some e:=by rw[<-Array.find?_toList];exact find_born e es.toList q2.map.nodup he
 have hrun:(execOp a.eval o).run P w=.ok (.value (.tuple #[e.key,e.val])) w:=by
  have h0:(Instr.entry (.pointer (some ⟨g,0,none⟩))).run P w=.ok (.tuple #[e.key,e.val]) w:=by
   simp only[Instr.entry,getObj,Sem.run_bind,Sem.run,k1,k3,Result.andThen,hl,bne_self_eq_false,Bool.false_eq_true,if_false,hf];rfl
  simp[execOp,ho,hax',h0]
 unfold Oper.wp;rw[hrun];obtain ⟨n',v',e1,e2,e3⟩:=q2.map.key e he;rw[hk] at e1;injection e1 with _ e1;subst e1
 have hvv:v'=v:=by
  have h1:=bS q2.map.rise e2;have h2:=bS q2.map.rise hv;rw[h1] at h2;injection h2
 subst hvv;refine hK _ _ ⟨μ,S,hi.put o.dst (.tup _ _ rfl λj y hy=>?_)⟩
 match j,hy with
 | 0,hy=>
  injection hy with hy;subst hy
  show Rd μ S w e.key (.int .i64 n)
  rw[hk];exact .pure (.int .i64 n)
 | 1,hy=>
  injection hy with hy;subst hy
  show Rd μ S w e.val v'
  rw[e3];exact .pure (q3 (n,v') e2)
 | j+2,hy=>simp at hy
end
end Go.Eng
