/- Texts of this claim, part 8: EngAI, EngAJ, EngAK, EngAL, Wd, Cmp, Ins, Own, Find. No condition. -/
import Derived.Test.YtmcfbfdonjllaaaGreatDoorZK7
import Derived.Laws.IdiomRangeMap
set_option maxRecDepth 10000
set_option maxHeartbeats 4000000
set_option linter.unusedSimpArgs false
set_option linter.unusedVariables false
namespace Go.Eng
def oP (r:Nat) (f:Nat->Nat) (o:Oper):Oper:=⟨o.dst,o.op,o.type,o.pos,(o.after.filter λe=>!(e.on==r)).map (CR f),o.guard.map λg=>(f g.1,g.2)⟩
def cv (r:Nat) (p q:List Nat) (l:List Oper):List Oper:=p.map λi=>oP r (λj=>q.getD j j) (l.getD i default)
def Ce:Op->Bool
 | .select ..=>true
 | _=>false
def zp (r:Nat) (p q:List Nat) (ops:Array Oper):Bool:=
 p.length+1==ops.size&&q.length==ops.size&&(decide (r<ops.size)&&(List.range ops.size).all λi=>i==r||(decide (q.getD i i+1<ops.size)&&p.getD (q.getD i i) 0==i)) &&
 ((List.range p.length).all λj=>decide (p.getD j 0<ops.size)&&!(p.getD j 0==r)&&q.getD (p.getD j 0) 0==j) &&
 ops.toList.all λo=>(match o.guard with | some g=>!(g.1==r) | none=>true)&&!Ce o.op
def yX (r:Nat) (o:Oper) (ops:Array Oper):Bool:=
 o.after.isEmpty&&(List.range ops.size).all λj=>j==r||(match ops[j]? with | some oj=>(oj.after.any λe=>Region.binds .any e&&e.on==r)||o.apart ops oj | none=>true)
section
variable {P:Program} {T:Tab} {C:Ctx} {σ σ':St} {μ:Nat->Option Nat} {S:Nat->Prop} {a:Act} {w:World}
structure RemF (r:Nat) (p q:List Nat) (ops:Array Oper):Prop where
 pl:p.length+1=ops.size
 ql:q.length=ops.size
 rl:r<ops.size
 to:∀i,i<ops.size->i≠r->q.getD i i+1<ops.size/\p.getD (q.getD i i) 0=i
 fro:∀j,j<p.length->p.getD j 0<ops.size/\p.getD j 0≠r/\q.getD (p.getD j 0) 0=j
 gd:∀(i:Nat) o j b,ops[i]? = some o->o.guard=some (j,b)->j≠r
 sel:∀(i:Nat) o cs b,ops[i]? = some o->o.op≠.select cs b
theorem sX {r:Nat} {p q:List Nat} {ops:Array Oper} (h:zp r p q ops=true):RemF r p q ops:=by
 unfold zp at h;simp only[Bool.and_eq_true,beq_iff_eq,decide_eq_true_eq] at h;obtain ⟨⟨⟨⟨h1,h2⟩,h3,h4⟩,h5⟩,h6⟩:=h;have hall:∀(i:Nat) o,ops[i]? = some o->((match o.guard with | some g=>!(g.1==r) | none=>true)&&!Ce o.op)=true:=λi o ho=>
  List.all_eq_true.1 h6 o (by rw[Array.mem_toList_iff];exact Array.mem_of_getElem? ho)
 refine ⟨h1,h2,h3,λi hi hne=>?_,λj hj=>?_,λi o j b ho hg e=>?_,λi o cs b ho e=>?_⟩
 ·have:=List.all_eq_true.1 h4 i (WN.2 hi);simp only[Bool.or_eq_true,Bool.and_eq_true,beq_iff_eq,decide_eq_true_eq] at this
  rcases this with h | h
  ·exact absurd h hne
  ·exact h
 ·have:=List.all_eq_true.1 h5 j (WN.2 hj);simp only[Bool.and_eq_true,beq_iff_eq,decide_eq_true_eq,WQ,beq_eq_false_iff_ne] at this;exact ⟨this.1.1,this.1.2,this.2⟩
 ·have:=hall i o ho;rw[hg] at this;simp only[Bool.and_eq_true,WQ,beq_eq_false_iff_ne] at this;exact this.1 e
 ·have:=hall i o ho;rw[e] at this;simp[Ce] at this
theorem RemF.get {r:Nat} {p q:List Nat} {ops:Array Oper} (h:RemF r p q ops) {i:Nat} (hne:i≠r) {o:Oper} (ho:ops[i]? = some o) :
  (cv r p q ops.toList).toArray[q.getD i i]? = some (oP r (λj=>q.getD j j) o):=by
 have hi:i<ops.size:=(WL.1 ho).1;obtain ⟨h4,h5⟩:=h.to i hi hne;have hpl:=h.pl;rw[List.getElem?_toArray,cv,Zr];have hp:p[q.getD i i]? = some i:=by
  rw[Zo,Zp z7] at h5;rw[Zp z7];exact congrArg some h5
 rw[hp];simp only[Option.map_some];rw[Zo,WI,ho];rfl
theorem RemF.big {r:Nat} {p q:List Nat} {ops:Array Oper} (h:RemF r p q ops) {i:Nat} (hi:ops.size≤i):q.getD i i=i:=by
 have:=h.ql;rw[Zo,List.getElem?_eq_none z7];rfl
theorem RemF.inj {r:Nat} {p q:List Nat} {ops:Array Oper} (h:RemF r p q ops) {i j:Nat} (hi:i≠r) (hj:j≠r) (he:q.getD i i=q.getD j j):i=j:=by
 by_cases h1:i<ops.size
 ·by_cases h2:j<ops.size
  ·have e1:=(h.to i h1 hi).2;rw[he,(h.to j h2 hj).2] at e1;exact e1.symm
  ·have:=(h.to i h1 hi).1;rw[he,h.big z7] at this;omega
 ·by_cases h2:j<ops.size
  ·have:=(h.to j h2 hj).1;rw[←he,h.big z7] at this;omega
  ·rw[h.big z7,h.big z7] at he;exact he
theorem RemF.yielded {r:Nat} {p q:List Nat} {ops:Array Oper} (h:RemF r p q ops) (t:Array Value) {j:Nat} (hj:j≠r):Go.yielded (cv r p q ops.toList).toArray t (q.getD j j)=Go.yielded ops t j:=by
 unfold Go.yielded;cases ho:ops[j]? with
 | none=>
  have hs:ops.size≤j:=Array.getElem?_eq_none_iff.1 ho;have hpl:=h.pl;rw[h.big hs,List.getElem?_toArray,cv,Zr,List.getElem?_eq_none z7];rfl
 | some o=>rw[h.get hj ho];rfl
theorem zq {r:Nat} {p q:List Nat} {ops:Array Oper} (h:RemF r p q ops) {Q:Exit->Act->World->Prop}:∀(f:Nat) (L L':Array Bool) (a:Act) (w:World),L.size=ops.size->L'.size+1=ops.size->L.getD r false=true ->
  (∀i,i≠r->L'.getD (q.getD i i) false=L.getD i false)->wpAny P .any (cv r p q ops.toList).toArray Q f L' a w->wpAny P .any ops Q f L a w:=by
 have hpl:=h.pl;have hTF:∀(L:Array Bool) (i:Nat),i<L.size->L.getD i true=L.getD i false:=λL i hi=>by rw[Zq,Zq,Zx hi];rfl
 have hne:∀(L:Array Bool),L.size=ops.size->L.getD r false=true->∀i,i∈Region.ready .any ops L->i≠r:=λL hL hr i hi e=>by
  subst e;obtain ⟨k1,_⟩:=mem_ready.1 hi;rw[hTF L i (by rw[hL];exact h.rl),hr] at k1;cases k1
 have hrd:∀(L L':Array Bool),L.size=ops.size->L'.size+1=ops.size->L.getD r false=true->(∀i,i≠r->L'.getD (q.getD i i) false=L.getD i false)->∀i,i∈Region.ready .any ops L->q.getD i i∈Region.ready .any (cv r p q ops.toList).toArray L':=λL L' hL hL' hr hg i hi=>by
  have hir:=hne L hL hr i hi;obtain ⟨k1,o,k2,k3⟩:=mem_ready.1 hi;have hlt:i<ops.size:=(WL.1 k2).1;refine mem_ready.2 ⟨?_,_,h.get hir k2,λe he hb=>?_⟩
  ·rw[hTF L' _ (by have:=(h.to i hlt hir).1;omega),hg i hir,←hTF L i z7];exact k1
  ·simp only[oP] at he;obtain ⟨e0,he0,rfl⟩:=Array.mem_map.1 he;obtain ⟨he1,he2⟩:=Array.mem_filter.1 he0
   show L'.getD (q.getD e0.on e0.on) false=true
   rw[hg _ (by simpa using he2)];exact k3 e0 he1 hb
 intro f
 induction f with
 | zero=>
  intro L L' a w hL hL' hr hg hw;refine ⟨List.eq_nil_iff_forall_not_mem.2 λi hi=>?_,hw.2⟩;have:=hrd L L' hL hL' hr hg i hi;rw[hw.1] at this;cases this
 | succ f ih=>
  intro L L' a w hL hL' hr hg hw;refine ⟨λh0=>?_,λi hi=>?_⟩
  ·by_cases hrr:Region.ready .any (cv r p q ops.toList).toArray L'=[]
   ·exact hw.1 hrr
   ·exfalso
    obtain ⟨j,hj⟩:=List.exists_mem_of_ne_nil _ hrr;obtain ⟨k1,o,k2,k3⟩:=mem_ready.1 hj;have hjn:j<p.length:=by
     have:=(WL.1 k2).1;simpa only [List.size_toArray,cv,List.length_map] using this
    obtain ⟨f1,f2,f3⟩:=h.fro j hjn;have hqi:q.getD (p.getD j 0) (p.getD j 0)=j:=by
     have hq:=h.ql;rw[Zo,Zp z7] at f3 ⊢;exact f3
    obtain ⟨oi,hoi⟩:∃oi,ops[p.getD j 0]? = some oi:=⟨_,Zx f1⟩;have aa:=h.get f2 hoi;rw[hqi] at aa;rw[aa] at k2;injection k2 with k2
    have:p.getD j 0∈Region.ready .any ops L:=by
     refine mem_ready.2 ⟨?_,oi,hoi,λe he hb=>?_⟩
     ·rw[hTF L _ z7,←hg _ f2,hqi,←hTF L' j z7];exact k1
     ·by_cases her:e.on=r
      ·rw[her];exact hr
      ·rw[←hg _ her];exact k3 (CR (λj=>q.getD j j) e) (by rw[←k2];exact Array.mem_map.2 ⟨e,Array.mem_filter.2 ⟨he,by simpa using her⟩,rfl⟩) hb
    rw[h0] at this;cases this
  ·have hir:=hne L hL hr i hi;have hri:=hrd L L' hL hL' hr hg i hi;have hop:=hw.2 _ hri;obtain ⟨_,o,hoi,_⟩:=mem_ready.1 hi;have hlt:i<ops.size:=(WL.1 hoi).1;have hnext:∀a' w',wpAny P .any (cv r p q ops.toList).toArray Q f (L'.setIfInBounds (q.getD i i) true) a' w'->wpAny P .any ops Q f (L.setIfInBounds i true) a' w':=λa' w' hk=>
    ih _ _ a' w' (by simpa using hL) (by simpa using hL') (by
     rw[Zq,Wc,if_neg hir,←Zq];exact hr) (λj hj=>by
     have hqi:=(h.to i hlt hir).1;have:=hg j hj;rw[Zq,Zq] at this;rw[Zq,Zq,Wc,Wc]
     by_cases e:j=i
     ·subst e;rw[if_pos rfl,if_pos rfl,if_pos z7,if_pos z7]
     ·rw[if_neg (λe2=>e (h.inj hj hir e2.symm)),if_neg (λe2=>e e2.symm)];exact this) hk
   have hop2:=wpOp_mono hnext hop;unfold wpOp at hop2 ⊢;rw[h.get hir hoi] at hop2;rw[hoi];simp only at hop2 ⊢;have hwant:Region.wanted (oP r (λj=>q.getD j j) o) (Go.yielded (cv r p q ops.toList).toArray a.tmps)=Region.wanted o (Go.yielded ops a.tmps):=by
    unfold Region.wanted oP;cases hgd:o.guard with
    | none=>rfl
    | some g=>
     obtain ⟨j,b⟩:=g;simp only[Option.map_some];rw[h.yielded a.tmps (h.gd i o j b hoi hgd)]
   rw[hwant] at hop2;exact hop2
end
end Go.Eng
namespace Go.Eng
section
variable {P:Program} {T:Tab} {C:Ctx} {σ σ':St}
theorem zz (ids:List Nat):∀(A B:List (Nat×Blk)),sub ids (A++B)=sub ids A++sub ids B
 | [],_=>rfl
 | p::r,B=>by
  simp only[List.cons_append,sub,zz ids r B];split<;>rfl
theorem sub_sub (ids:List Nat):∀A:List (Nat×Blk),sub ids (sub ids A)=sub ids A
 | []=>rfl
 | p::r=>by
  simp only[sub];split
  ·rename_i h;simp only[sub,h,if_true,sub_sub ids r]
  ·exact sub_sub ids r
theorem uu (ids:List Nat):∀A:List (Nat×Blk),sub ids (del ids A)=[]
 | []=>rfl
 | p::r=>by
  simp only[del];split
  ·exact uu ids r
  ·rename_i h;simp only[sub,h,uu ids r];rfl
def front (ids:List Nat) (A:List (Nat×Blk)) (s:St):St:=⟨s.tm,sub ids A++del ids s.hp⟩
theorem zX (ids:List Nat) (A:List (Nat×Blk)) (s:St):sub ids (front ids A s).hp=sub ids A:=by
 show sub ids (sub ids A++del ids s.hp)=_
 rw[zz,sub_sub,uu,List.append_nil]
theorem zW {ids:List Nat} {A:List (Nat×Blk)} {s:St} (h:∀i,ids.contains i=true->aa s.hp i=aa A i) (i:Nat):aa (front ids A s).hp i=aa s.hp i:=by
 show aa (sub ids A++del ids s.hp) i=_
 rw[an]
 by_cases hi:ids.contains i=true
 ·by_cases he:∃b,b∈sub ids A/\b.1=i
  ·rw[if_pos he,bD,if_pos hi,h i hi]
  ·rw[if_neg he,cJ,if_pos hi,h i hi];cases e:aa A i with
   | none=>rfl
   | some b=>
    have h2:aa (sub ids A) i=some b:=by rw[bD,if_pos hi];exact e
    exact absurd ⟨_,aA h2,rfl⟩ he
 ·rw[if_neg,cJ,if_neg hi];rintro ⟨b,hb,rfl⟩;have:∀A:List (Nat×Blk),b∈sub ids A->ids.contains b.1=true:=λA=>by
   induction A with
   | nil=>intro h;cases h
   | cons p r ih=>
    intro h;simp only[sub] at h;split at h
    ·rename_i hc
     rcases List.mem_cons.1 h with rfl | h
     ·exact hc
     ·exact ih h
    ·exact ih h
  exact hi (this _ hb)
theorem iC {K:List (Nat×Blk)} (hnd:(K.map (·.1)).Nodup) (A:List (Nat×Blk)) (i:Nat):aa (bA A K) i=aa (K++A) i:=by
 rw[bQ i K _ hnd,an]
 by_cases e:∃b,b∈K/\b.1=i
 ·rw[if_pos e];obtain ⟨b,hb,rfl⟩:=e;have:∀K:List (Nat×Blk),b∈K->(aa K b.1).isSome=true:=λK=>by
   induction K with
   | nil=>intro h;cases h
   | cons q r ih=>
    intro h;simp only[aa];split
    ·rfl
    ·rename_i hne
     rcases List.mem_cons.1 h with rfl | h
     ·exact absurd rfl hne
     ·exact ih h
  rw[if_pos (this K hb)]
 ·rw[if_neg e];cases e2:aa K i with
  | none=>rfl
  | some b=>exact absurd ⟨_,aA e2,rfl⟩ e
theorem rq {ops:Array Oper} {o:Oper} {c:Operand} {args:Array Operand} {ats:Array TypeId} (ho:o.op=.call { callee:=.value c,args,argTypes:=ats }) {p:Prop} {f:FuncId} {xs:List AV}
  (h:ar σ c args.toList=some (p,f,xs)) (hp:p) (hc:ax P f) (ids:List Nat) {K:List (Nat×Blk)} {r:AV}
  (hck:((av xs).all ids.contains&&(refs r).all ids.contains&&ids.all (λi=>decide (i<5000)&&(aa K i).isSome)&&K.all (λq=>ids.contains q.1))=true) (hnd:(K.map (·.1)).Nodup)
  (hpin:(ids.all λi=>match aa (sub ids σ.hp) i with | some b=>dq b | none=>false)=true) (hc1:((sub ids σ.hp).all λq=>(au q.2).all ids.contains)=true) (hc2:(K.all λq=>(au q.2).all ids.contains)=true)
  (hf:∀G Y N:Nat->Nat,ae P f xs (sub ids σ.hp++pins ids G Y N) λr' H'=>r'=r/\∀i b,aa (K++pins ids G Y N) i=some b->aa H' i=some b)
  {s:St} (ha:∀x,x∈bx ops o.guard++((ew σ c++aK σ args.toList)++ids.map Loc.blk)->az σ s x) {τ:St} (h1:τ.tm=(St.put ⟨s.tm,[]⟩ o.dst r).tm) (h2:∀i,aa τ.hp i=aa (K++s.hp) i):dx P C o s τ:=by
 have hag:∀i,ids.contains i=true->aa s.hp i=aa σ.hp i:=λi hi=>ha (.blk i) (Zz _ (Zz _ (Zv.2 ⟨i,by simpa using hi,rfl⟩)))
 have hca:ar s c args.toList=ar σ c args.toList:=cF λx hx=>ha x (Zz _ (WH _ hx))
 have hfg:=zW (ids:=ids) (A:=σ.hp) (s:=s) hag;have hca2:ar (front ids σ.hp s) c args.toList=some (p,f,xs):=by
  rw[←h,←hca];refine cF λx _=>?_
  cases x with
  | tm t=>rfl
  | blk i=>exact hfg i
 have hl1:Le C s (front ids σ.hp s):=fD rfl (λ_=>rfl) (λi=>(hfg i).symm);intro a w Kp Q hrel hK;have hs:=zX ids σ.hp s;refine cR ho hca2 hp hc ids hs hck hnd hpin hc1 hc2 hf rfl a w Kp Q (hl1 a w hrel) λa' w' hr'=>hK a' w' (fD ?_ ?_ ?_ a' w' hr')
 ·rw[h1];cases o.dst<;>simp[St.put,front]
 ·intro t;rw[h1];cases o.dst<;>rfl
 ·intro i;rw[St.eO,h2]
  show aa (bA (front ids σ.hp s).hp K) i=aa (K++s.hp) i
  rw[iC hnd,an,an,hfg]
theorem og {ops:Array Oper} {Q:Exit->Act->World->Prop} {k n:Nat} {acc:cL} {o:Oper} {l:List Oper} {c:Operand} {args:Array Operand} {ats:Array TypeId} (ho:o.op=.call { callee:=.value c,args,argTypes:=ats }) (hg:o.guard=none) {p:Prop} {f:FuncId} {xs:List AV}
  (h:ar σ c args.toList=some (p,f,xs)) (hp:p) (hc:ax P f) (ids:List Nat) {H K:List (Nat×Blk)} {r:AV} (hH:sub ids σ.hp=H)
  (hck:((av xs).all ids.contains&&(refs r).all ids.contains&&ids.all (λi=>decide (i<5000)&&(aa K i).isSome)&&K.all (λq=>ids.contains q.1))=true) (hnd:(K.map (·.1)).Nodup)
  (hpin:(ids.all λi=>match aa H i with | some b=>dq b | none=>false)=true) (hc1:(H.all λq=>(au q.2).all ids.contains)=true) (hc2:(K.all λq=>(au q.2).all ids.contains)=true)
  (hf:∀G Y N:Nat->Nat,ae P f xs (H++pins ids G Y N) λr' H'=>r'=r/\∀i b,aa (K++pins ids G Y N) i=some b->aa H' i=some b)
  {sk:List Loc×List Loc} (hs:((match o.dst with | some t=>[Loc.tm t] | none=>[])++K.map (λb=>Loc.blk b.1),bx ops o.guard++((ew σ c++aK σ args.toList)++ids.map Loc.blk))=sk)
  (ha:(⟨σ.tm,bA σ.hp K⟩:St).put o.dst r=σ') (hk:aj P C ops Q k n (acc++[sk]) l σ'):aj P C ops Q k n acc (o::l) σ:=by
 subst hs ha hH;have hKi:∀b,b∈K->ids.contains b.1=true:=λb hb=>by
  simp only[Bool.and_eq_true] at hck;exact List.all_eq_true.1 hck.2 b hb
 have hrob:Rob P C ops o ⟨o.dst,r,K,bx ops o.guard++((ew σ c++aK σ args.toList)++ids.map Loc.blk)⟩ σ:=by
  intro s ha _ a w Kp Q ⟨μ,S,hi⟩ hK;have hgs:guardOf ops s o.guard=some true:=by rw[hg];rfl
  rw[ba hi hgs];refine .inl (rq ho h hp hc ids hck hnd hpin hc1 hc2 hf ha ?_ (λi=>?_) a w Kp Q ⟨μ,S,hi⟩ hK)
  ·unfold Sp.app;cases o.dst<;>rfl
  ·unfold Sp.app;rw[St.eO]
 refine m_ hrob (λb hb hno=>absurd ?_ hno) rfl rfl (aj.sim ⟨?_,?_⟩ hk)
 ·exact Zz _ (Zz _ (Zv.2 ⟨b.1,by simpa using hKi b hb,rfl⟩))
 ·unfold Sp.app;cases o.dst<;>rfl
 ·intro i;unfold Sp.app;rw[St.eO,St.eO];exact (iC hnd σ.hp i).symm
theorem fe {ops:Array Oper} {Q:Exit->Act->World->Prop} {k n:Nat} {acc:cL} {o:Oper} {l:List Oper} {c:Operand} {args:Array Operand} {ats:Array TypeId} (ho:o.op=.call { callee:=.value c,args,argTypes:=ats }) (hg:o.guard=none) {p:Prop} {f:FuncId} {xs:List AV}
  (h:ar σ c args.toList=some (p,f,xs)) (hp:p) (hc:ax P f) (ids:List Nat) {H:List (Nat×Blk)} {r:AV} (hH:sub ids σ.hp=H)
  (hck:((av xs).all ids.contains&&(refs r).all ids.contains&&ids.all (λi=>decide (i<5000)&&(aa H i).isSome)&&H.all (λq=>ids.contains q.1))=true) (hnd:(H.map (·.1)).Nodup)
  (hpin:(ids.all λi=>match aa H i with | some b=>dq b | none=>false)=true) (hc1:(H.all λq=>(au q.2).all ids.contains)=true)
  (hf:∀G Y N:Nat->Nat,ae P f xs (H++pins ids G Y N) λr' H'=>r'=r/\∀i b,aa (H++pins ids G Y N) i=some b->aa H' i=some b)
  {sk:List Loc×List Loc} (hs:((match o.dst with | some t=>[Loc.tm t] | none=>[]),bx ops o.guard++((ew σ c++aK σ args.toList)++ids.map Loc.blk))=sk)
  (ha:σ.put o.dst r=σ') (hk:aj P C ops Q k n (acc++[sk]) l σ'):aj P C ops Q k n acc (o::l) σ:=by
 subst hs ha hH;have hrob:Rob P C ops o ⟨o.dst,r,[],bx ops o.guard++((ew σ c++aK σ args.toList)++ids.map Loc.blk)⟩ σ:=by
  intro s ha _ a w Kp Q ⟨μ,S,hi⟩ hK;have hgs:guardOf ops s o.guard=some true:=by rw[hg];rfl
  rw[ba hi hgs];refine .inl (rq ho h hp hc ids hck hnd hpin hc1 hc1 hf ha ?_ (λi=>?_) a w Kp Q ⟨μ,S,hi⟩ hK)
  ·unfold Sp.app;cases o.dst<;>rfl
  ·unfold Sp.app;rw[St.eO]
   show aa s.hp i=_
   rw[an];split
   ·rename_i he;obtain ⟨b,hb,rfl⟩:=he;have hib:ids.contains b.1=true:=by
     simp only[Bool.and_eq_true] at hck;exact List.all_eq_true.1 hck.2 b hb
    rw[bD,if_pos hib];exact ha (.blk b.1) (Zz _ (Zz _ (Zv.2 ⟨b.1,by simpa using hib,rfl⟩)))
   ·rfl
 refine gX hrob rfl ?_ ?_ hk
 ·unfold Sp.wr;cases o.dst<;>simp
 ·unfold Sp.app;cases o.dst<;>rfl
end
end Go.Eng
namespace Go.Eng
section
variable {P:Program} {T:Tab} {C:Ctx} {σ:St} {Ret:St->Prop}
end
end Go.Eng
namespace Go.Eng
section
variable {P:Program} {T:Tab} {C:Ctx} {σ:St} {Ret:St->Prop} {w:World}
mutual
def G' (id:Nat) (kvs:List (Int×AV)):AV->AV
 | .mp i=>if i=id then .rm kvs else .mp i
 | .ptr i size row off=>if i=id then .any else .ptr i size row off
 | .osl i size off len=>if i=id then .any else .osl i size off len
 | .exs i size off len cap=>if i=id then .any else .exs i size off len cap
 | .agg cells=>.agg (sn id kvs cells)
 | .tup cells=>.tup (sn id kvs cells)
 | .fn f caps=>.fn f (sn id kvs caps)
 | .cnd c v=>.cnd c (G' id kvs v)
 | x=>x
def sn (id:Nat) (kvs:List (Int×AV)):List AV->List AV
 | []=>[]
 | x::r=>G' id kvs x::sn id kvs r
end
def Gy (id:Nat) (kvs:List (Int×AV)):Blk->Blk
 | .cells e z R=>.cells e z (R.map (sn id kvs))
 | .map m=>.map m
 | .iter m seen=>.iter m seen
 | .cap j z N=>if j=id then .cells 0 0 [] else .cap j z N
 | .pin j g z N=>if j=id then .cells 0 0 [] else .pin j g z N
def B3 (id:Nat) (kvs:List (Int×AV)):List (Nat×Blk)->List (Nat×Blk)
 | []=>[]
 | p::r=>if p.1=id then B3 id kvs r else (p.1,Gy id kvs p.2)::B3 id kvs r
attribute [go_sem] G' sn Gy B3
end
end Go.Eng
namespace Go.Eng
section
variable {P:Program} {T:Tab} {C:Ctx} {σ σ':St} {Ret:St->Prop}
section
variable {k k':List It} {p:Prop}
theorem wG (hT:TabOK P T) (hk:Cw P C Ret k' σ') (h:go T 99 k σ=some (p,k',σ'):=by simp only[go_sem];try exact rfl) (hp:p:=by simp[go_sem]):Cw P C Ret k σ:=mj hT 99 h hp hk
theorem wGq (hT:TabOK P T) (hp:p) (hk:Cw P C Ret k' σ') (h:go T 99 k σ=some (p,k',σ'):=by simp only[go_sem];try exact rfl):Cw P C Ret k σ:=mj hT 99 h hp hk
theorem wR (hk:Cw P C Ret k' σ) (h:goR 99 k=some k':=by simp only[go_sem];try exact rfl):Cw P C Ret k σ:=jM 99 h hk
variable {c:Operand} {x y:Code} {b:Bool}
theorem wD (ht:b=true->Cw P C Ret (.code x::k) σ) (hf:b=false->Cw P C Ret (.code y::k) σ) (h:evS σ c=(p,.bool b):=by simp only[go_sem];try exact rfl) (hp:p:=by trivial):Cw P C Ret (.code (.cond c x y)::k) σ:=tD h hp ht hf
theorem wDT (h:evS σ c=(p,.bool b):=by simp only[go_sem];try exact rfl) (hp:p:=by trivial) (hb:b=true) (hk:Cw P C Ret (.code x::k) σ):Cw P C Ret (.code (.cond c x y)::k) σ:=BM h hp hb hk
theorem wDF (h:evS σ c=(p,.bool b):=by simp only[go_sem];try exact rfl) (hp:p:=by trivial) (hb:b=false) (hk:Cw P C Ret (.code y::k) σ):Cw P C Ret (.code (.cond c x y)::k) σ:=BL h hp hb hk
theorem wN (hT:TabOK P T) (n:Nat) {all:Array Oper} {l l1 l2:List Oper} (hk:Cw P C Ret (.ops all l2::k) σ') (h1:l.take n=l1:=by simp only[go_sem];exact rfl) (h2:l.drop n=l2:=by simp only[go_sem];exact rfl)
  (h:gQ T all l1 σ=some (p,[],σ'):=by simp only[go_sem];try exact rfl) (hp:p:=by simp[go_sem]):Cw P C Ret (.ops all l::k) σ:=yQ hT n h1 h2 h hp hk
theorem wNq (hT:TabOK P T) (n:Nat) {all:Array Oper} {l l1 l2:List Oper} (hp:p) (hk:Cw P C Ret (.ops all l2::k) σ') (h1:l.take n=l1:=by simp only[go_sem];exact rfl) (h2:l.drop n=l2:=by simp only[go_sem];exact rfl)
  (h:gQ T all l1 σ=some (p,[],σ'):=by simp only[go_sem];try exact rfl):Cw P C Ret (.ops all l::k) σ:=yQ hT n h1 h2 h hp hk
variable {all:Array Oper} {o:Oper} {l:List Oper} {args:Array Operand} {ats:Array TypeId} {f:FuncId} {fn:Func} {xs:List AV} {r:AV}
theorem wC (F:P.funcs[f]? = some fn) (ho:o.op=.call { callee:=.value c,args,argTypes:=ats }:=by rfl) (hg:o.guard=none:=by rfl) (h:ar σ c args.toList=some (p,f,xs):=by simp only[go_sem];try exact rfl) (hp:p:=by simp[go_sem]) (c1:(fn.name == "runtime.NumGoroutine")=false:=by kernel_rfl) (c2:fn.body.isSome=true:=by rfl) (hx:av xs=[]:=by simp[go_sem]) (hf:ae P f xs [] λr' _=>r'=r) (hr:refs r=[]:=by simp[go_sem]) (ha:σ.put o.dst r=σ':=by simp only[go_sem];exact rfl) (hk:Cw P C Ret (.ops all l::k) σ'):Cw P C Ret (.ops all (o::l)::k) σ:=cM ho hg h hp ⟨fn,F,c1,c2⟩ hx hf hr ha hk
theorem wCC {b:Bool} (F:P.funcs[f]? = some fn) (ho:o.op=.call { callee:=.value c,args,argTypes:=ats }:=by rfl) (hg:guardOf all σ o.guard=some b:=by simp only[go_sem];try exact rfl) (h:ar σ c args.toList=some (p,f,xs):=by simp only[go_sem];try exact rfl) (hp:b=true->p:=by simp[go_sem]) (c1:(fn.name == "runtime.NumGoroutine")=false:=by kernel_rfl) (c2:fn.body.isSome=true:=by rfl) (hx:av xs=[]:=by simp[go_sem]) (hf:b=true->ae P f xs [] λr' _=>r'=r) (hr:refs r=[]:=by simp[go_sem]) (ha:σ.put o.dst (.cnd b r)=σ':=by simp only[go_sem];exact rfl) (hk:Cw P C Ret (.ops all l::k) σ'):Cw P C Ret (.ops all (o::l)::k) σ:=uP ho hg h hp ⟨fn,F,c1,c2⟩ hx hf hr ha hk
theorem wV {q:Prop} {ys:List AV} (F:P.funcs[f]? = some fn) (ho:o.op=.call { callee:=.value c,args,argTypes:=ats }:=by rfl) (hg:o.guard=none:=by rfl) (h:ar σ c args.toList=some (p,f,xs):=by simp only[go_sem];try exact rfl) (hp:p:=by simp[go_sem]) (hv:dW σ.hp xs=some (q,ys):=by simp only[go_sem];try exact rfl) (hq:q:=by simp[go_sem]) (c1:(fn.name == "runtime.NumGoroutine")=false:=by kernel_rfl) (c2:fn.body.isSome=true:=by rfl) (hf:ae P f ys [] λr' _=>r'=r) (hr:r.scalar=true:=by simp[go_sem]) (ha:σ.put o.dst r=σ':=by simp only[go_sem];exact rfl) (hk:Cw P C Ret (.ops all l::k) σ'):Cw P C Ret (.ops all (o::l)::k) σ:=kF ho hg h hp hv hq ⟨fn,F,c1,c2⟩ hf hr ha hk
theorem wCG (ids:List Nat) (off:Nat) {H K:List (Nat×Blk)} (F:P.funcs[f]? = some fn) (ho:o.op=.call { callee:=.value c,args,argTypes:=ats }:=by rfl) (hg:o.guard=none:=by rfl) (h:ar σ c args.toList=some (p,f,xs):=by simp only[go_sem];try exact rfl) (hp:p:=by simp[go_sem]) (c1:(fn.name == "runtime.NumGoroutine")=false:=by kernel_rfl) (c2:fn.body.isSome=true:=by rfl) (hH:sub ids σ.hp=H:=by simp only[go_sem,Wj,Bool.or_true,Bool.true_or,if_true];try exact rfl) (hf:ae P f xs H λr' H'=>r'=r/\∀id b,aa K id=some b->aa H' id=some b) (hck:(av xs).all ids.contains=true:=by simp[go_sem]) (hc1:(H.all λp=>(au p.2).all ids.contains)=true:=by simp[go_sem]) (hc2:((del ids σ.hp).all λp=>(au p.2).all λi=>!ids.contains i)=true:=by simp[go_sem]) (hc3:closed K (refs r)=true:=by simp only[go_sem]) (hc4:(K.all λp=>(aa σ.hp (p.1+off)).isNone)=true:=by simp[go_sem]) (hτ:(⟨σ.tm.map (fN ids),pk off K++del ids σ.hp⟩:St).put o.dst (ren off r)=σ':=by simp only[go_sem,Wj,Bool.or_true,Bool.true_or,Wu,↓reduceIte];exact rfl) (hk:Cw P C Ret (.ops all l::k) σ'):Cw P C Ret (.ops all (o::l)::k) σ:=
 BH ids off ho hg h hp ⟨fn,F,c1,c2⟩ hH hf hck hc1 hc2 hc3 hc4 hτ hk
theorem wTP (ids:List Nat) {H K:List (Nat×Blk)} (F:P.funcs[f]? = some fn) (ho:o.op=.call { callee:=.value c,args,argTypes:=ats }:=by rfl) (h:ar σ c args.toList=some (p,f,xs):=by simp only[go_sem];try exact rfl) (hp:p:=by simp[go_sem]) (c1:(fn.name == "runtime.NumGoroutine")=false:=by kernel_rfl) (c2:fn.body.isSome=true:=by rfl) (hH:sub ids σ.hp=H:=by simp only[go_sem,Wj,Bool.or_true,Bool.true_or,Wu,↓reduceIte];try exact rfl) (hck:((av xs).all ids.contains&&(refs r).all ids.contains&&ids.all (λi=>decide (i<5000)&&(aa K i).isSome)&&K.all (λq=>ids.contains q.1))=true:=by simp[go_sem]) (hnd:(K.map (·.1)).Nodup:=by simp) (hpin:(ids.all λi=>match aa H i with | some b=>dq b | none=>false)=true:=by simp[go_sem]) (hc1:(H.all λq=>(au q.2).all ids.contains)=true:=by simp[go_sem]) (hc2:(K.all λq=>(au q.2).all ids.contains)=true:=by simp[go_sem]) (hf:∀G Y N:Nat->Nat,ae P f xs (H++pins ids G Y N) λr' H'=>r'=r/\∀i b,aa (K++pins ids G Y N) i=some b->aa H' i=some b) (hτ:(⟨σ.tm,bA σ.hp K⟩:St).put o.dst r=σ':=by simp only[go_sem,Wj,Bool.or_true,Bool.true_or,Wu,↓reduceIte];exact rfl):dx P C o σ σ':=cR ho h hp ⟨fn,F,c1,c2⟩ ids hH hck hnd hpin hc1 hc2 hf hτ
theorem wP (ids:List Nat) {H K:List (Nat×Blk)} (F:P.funcs[f]? = some fn) (hg:guardOf all σ o.guard=some true:=by rfl) (ho:o.op=.call { callee:=.value c,args,argTypes:=ats }:=by rfl) (h:ar σ c args.toList=some (p,f,xs):=by simp only[go_sem];try exact rfl) (hp:p:=by simp[go_sem]) (c1:(fn.name == "runtime.NumGoroutine")=false:=by kernel_rfl) (c2:fn.body.isSome=true:=by rfl) (hH:sub ids σ.hp=H:=by simp only[go_sem,Wj,Bool.or_true,Bool.true_or,Wu,↓reduceIte];try exact rfl) (hck:((av xs).all ids.contains&&(refs r).all ids.contains&&ids.all (λi=>decide (i<5000)&&(aa K i).isSome)&&K.all (λq=>ids.contains q.1))=true:=by simp[go_sem]) (hnd:(K.map (·.1)).Nodup:=by simp) (hpin:(ids.all λi=>match aa H i with | some b=>dq b | none=>false)=true:=by simp[go_sem]) (hc1:(H.all λq=>(au q.2).all ids.contains)=true:=by simp[go_sem]) (hc2:(K.all λq=>(au q.2).all ids.contains)=true:=by simp[go_sem]) (hf:∀G Y N:Nat->Nat,ae P f xs (H++pins ids G Y N) λr' H'=>r'=r/\∀i b,aa (K++pins ids G Y N) i=some b->aa H' i=some b) (hτ:(⟨σ.tm,bA σ.hp K⟩:St).put o.dst r=σ':=by simp only[go_sem,Wj,Bool.or_true,Bool.true_or,Wu,↓reduceIte];exact rfl) (hk:Cw P C Ret (.ops all l::k) σ'):Cw P C Ret (.ops all (o::l)::k) σ:=bk hg (cR ho h hp ⟨fn,F,c1,c2⟩ ids hH hck hnd hpin hc1 hc2 hf hτ) hk
end
section
variable {ops:Array Oper} {Q:Exit->Go.Act->World->Prop} {k n:Nat} {acc:cL} {o:Oper} {l l':List Oper} {p:Prop} {ps:List Sp} {sk:cL} {s1:List Loc×List Loc}
theorem sN (hT:TabOK P T) (m:Nat) {l1 l2:List Oper} (hk:aj P C ops Q k n (acc++sk) l2 σ') (h1:l.take m=l1:=by simp only[go_sem];exact rfl) (h2:l.drop m=l2:=by simp only[go_sem];exact rfl)
  (h:jw T ops l1 σ=some (p,ps,[],σ'):=by simp only[go_sem];try exact rfl) (hp:p:=by simp[go_sem]) (hs:fg ps=sk:=by simp only[go_sem];exact rfl):aj P C ops Q k n acc l σ:=wx hT m h1 h2 h hp hs hk
theorem sNq (hT:TabOK P T) (m:Nat) {l1 l2:List Oper} (hp:p) (hk:aj P C ops Q k n (acc++sk) l2 σ') (h1:l.take m=l1:=by simp only[go_sem];exact rfl) (h2:l.drop m=l2:=by simp only[go_sem];exact rfl)
  (h:jw T ops l1 σ=some (p,ps,[],σ'):=by simp only[go_sem];try exact rfl) (hs:fg ps=sk:=by simp only[go_sem];exact rfl):aj P C ops Q k n acc l σ:=wx hT m h1 h2 h hp hs hk
theorem sG (hT:TabOK P T) (hk:aj P C ops Q k n (acc++sk) l' σ') (h:jw T ops l σ=some (p,ps,l',σ'):=by simp only[go_sem];try exact rfl) (hp:p:=by simp[go_sem]) (hs:fg ps=sk:=by simp only[go_sem];exact rfl):aj P C ops Q k n acc l σ:=Fo hT h hp hs hk
theorem sE {j:Nat} (h:aY P C ops Q j σ) (hc:(ku ops k acc&&BV n acc)=true:=by kernel_rfl) (hj:k+acc.length=j:=by simp only[go_sem];exact rfl):aj P C ops Q k n acc l σ:=Fl hc hj h
theorem sS (hk:aj P C ops Q k n (acc++[s1]) l σ') (hg:guardOf ops σ o.guard=some false:=by simp only[go_sem];try exact rfl) (hs:((⟨o.dst,.cnd false .any,[],bx ops o.guard++[]⟩:Sp).wr,bx ops o.guard)=s1:=by simp only[go_sem];exact rfl)
  (ha:σ.put o.dst (.cnd false .any)=σ':=by simp only[go_sem];exact rfl):aj P C ops Q k n acc (o::l) σ:=wy .any hg hs ha hk
theorem sSB (hk:aj P C ops Q k n (acc++[s1]) l σ') (hg:guardOf ops σ o.guard=some false:=by simp only[go_sem];try exact rfl) (hs:((⟨o.dst,.cnd false (.bool false),[],bx ops o.guard++[]⟩:Sp).wr,bx ops o.guard)=s1:=by simp only[go_sem];exact rfl)
  (ha:σ.put o.dst (.cnd false (.bool false))=σ':=by simp only[go_sem];exact rfl):aj P C ops Q k n acc (o::l) σ:=wy (.bool false) hg hs ha hk
variable {c:Operand} {args:Array Operand} {ats:Array TypeId} {f:FuncId} {fn:Func} {xs:List AV} {r:AV}
theorem sC (F:P.funcs[f]? = some fn) (ho:o.op=.call { callee:=.value c,args,argTypes:=ats }:=by rfl) (hg:o.guard=none:=by rfl) (h:ar σ c args.toList=some (p,f,xs):=by simp only[go_sem];try exact rfl) (hp:p:=by simp[go_sem]) (c1:(fn.name == "runtime.NumGoroutine")=false:=by kernel_rfl) (c2:fn.body.isSome=true:=by rfl) (hx:av xs=[]:=by simp[go_sem]) (hf:ae P f xs [] λr' _=>r'=r) (hr:refs r=[]:=by simp[go_sem]) (hs:((dO ops σ o c args.toList r).wr,(dO ops σ o c args.toList r).rd)=s1:=by simp only[go_sem];exact rfl) (ha:σ.put o.dst r=σ':=by simp only[go_sem];exact rfl) (hk:aj P C ops Q k n (acc++[s1]) l σ'):aj P C ops Q k n acc (o::l) σ:=C5 ho hg h hp ⟨fn,F,c1,c2⟩ hx hf hr hs ha hk
theorem sCC {b:Bool} (F:P.funcs[f]? = some fn) (ho:o.op=.call { callee:=.value c,args,argTypes:=ats }:=by rfl) (hg:guardOf ops σ o.guard=some b:=by simp only[go_sem];try exact rfl) (h:ar σ c args.toList=some (p,f,xs):=by simp only[go_sem];try exact rfl) (hp:b=true->p:=by simp[go_sem]) (c1:(fn.name == "runtime.NumGoroutine")=false:=by kernel_rfl) (c2:fn.body.isSome=true:=by rfl) (hx:av xs=[]:=by simp[go_sem]) (hf:b=true->ae P f xs [] λr' _=>r'=r) (hr:refs r=[]:=by simp[go_sem]) (hs:((dO ops σ o c args.toList (.cnd b r)).wr,(dO ops σ o c args.toList (.cnd b r)).rd)=s1:=by simp only[go_sem];exact rfl) (ha:σ.put o.dst (.cnd b r)=σ':=by simp only[go_sem];exact rfl) (hk:aj P C ops Q k n (acc++[s1]) l σ'):aj P C ops Q k n acc (o::l) σ:=AU ho hg h hp ⟨fn,F,c1,c2⟩ hx hf hr hs ha hk
theorem sW (hT:TabOK P T) {d:Nat} {b:Blk} {x:AV} (hk:aj P C ops Q k n (acc++[s1]) l σ') (hd:o.dst=some d:=by rfl) (hg:guardOf ops σ o.guard=some true:=by simp only[go_sem];try exact rfl) (h:ki T σ d o.op=some (p,b,x):=by simp only[go_sem];try exact rfl) (hp:p:=by simp[go_sem])
  (hf:aa σ.hp d=none:=by simp only[go_sem];try exact rfl) (hs:([Loc.tm d,Loc.blk d],bx ops o.guard++aK σ o.op.operands.toList)=s1:=by simp only[go_sem];exact rfl) (ha:St.put ⟨σ.tm,(d,b)::σ.hp⟩ (some d) x=σ':=by simp only[go_sem];exact rfl) :
  aj P C ops Q k n acc (o::l) σ:=Fm hT hd hg h hp hf hs ha hk
theorem sB (hT:TabOK P T) {t:TypeId} {parts:Array (Nat×Operand)} {b:Bool} {x y:AV} (hk:aj P C ops Q k n (acc++[s1]) l σ') (ho:o.op=.build t parts:=by rfl) (hg:guardOf ops σ o.guard=some b:=by simp only[go_sem];try exact rfl) (h:fS T σ t parts.toList=some (p,x):=by simp only[go_sem];try exact rfl)
  (hp:b=true->p:=by simp[go_sem]) (hy:(bif b then x else .cnd false x)=y:=by simp only[go_sem,cond_true,cond_false];exact rfl) (hs:((Sp.mk o.dst y [] (bx ops o.guard++aK σ (parts.toList.map (·.2)))).wr,bx ops o.guard++aK σ (parts.toList.map (·.2)))=s1:=by simp only[go_sem];exact rfl)
  (ha:σ.put o.dst y=σ':=by simp only[go_sem];exact rfl):aj P C ops Q k n acc (o::l) σ:=AT hT ho hg h hp hy hs ha hk
theorem sT (hT:TabOK P T) {t:TypeId} {x y:Operand} {id size row off:Nat} {q:Prop} {v:AV} {H:List (Nat×Blk)} {b:Blk} (hk:aj P C ops Q k n (acc++[s1]) l σ') (ho:o.op=.store t x y:=by rfl) (hd:o.dst=none:=by rfl) (hg:guardOf ops σ o.guard=some true:=by simp only[go_sem];try exact rfl)
  (hx:evS σ x=(True,.ptr id size row off):=by simp only[go_sem];try exact rfl) (hy:evS σ y=(q,v):=by simp only[go_sem];try exact rfl) (hq:q:=by first | trivial | simp[go_sem]) (h:eP T σ t (.ptr id size row off) v=some (p,H):=by simp only[go_sem];exact rfl) (hp:p:=by simp[go_sem])
  (hH:aa H id=some b:=by simp only[go_sem];exact rfl) (hs:([Loc.blk id],bx ops o.guard++(aK σ [x,y]++[Loc.blk id]))=s1:=by simp only[go_sem];exact rfl) (ha:(⟨σ.tm,aB σ.hp id b⟩:St)=σ':=by simp only[go_sem];exact rfl):aj P C ops Q k n acc (o::l) σ:=
 cY hT ho hd hg hx hy hq h hp hH hs ha hk
theorem dS (hT:TabOK P T) {j:Nat} (hk:aY P C ops Q j σ') (ho:ops[k]? = some o:=by rfl) (hc:Region.ready .any ops (aT ops.size k)=[k]:=by kernel_rfl) (hg:o.guard=none:=by rfl) (h:dP T σ o.dst o.op=some (p,σ'):=by simp only[go_sem];try exact rfl) (hp:p:=by simp[go_sem]) (hj:k+1=j:=by rfl) :
  aY P C ops Q k σ:=sa hT ho hc hg h hp hj hk
theorem dSq (hT:TabOK P T) {j:Nat} (hp:p) (hk:aY P C ops Q j σ') (ho:ops[k]? = some o:=by rfl) (hc:Region.ready .any ops (aT ops.size k)=[k]:=by kernel_rfl) (hg:o.guard=none:=by rfl) (h:dP T σ o.dst o.op=some (p,σ'):=by simp only[go_sem];try exact rfl) (hj:k+1=j:=by rfl) :
  aY P C ops Q k σ:=sa hT ho hc hg h hp hj hk
end
end
section
variable {P:Program} {C:Ctx} {σ:St}
theorem wT {k:List It} {p:Prop} {r:AV} {res:St->Option (Prop×AV)} {post:AV->St->Prop} (hk:post r σ) (h:res σ=some (p,r):=by simp only[go_sem];try exact rfl) (hp:p:=by simp[go_sem]):Cw P C (λs=>∃p r,res s=some (p,r)/\p/\∃r',wk r r'/\post r' s) (.code .ret::k) σ:=iX ⟨p,r,h,hp,r,.inr (.inl rfl),hk⟩
theorem wU {k:List It} {p:Prop} {r:AV} {res:St->Option (Prop×AV)} {A B:AV->St->Prop} (ha:A r σ) (hb:B r σ) (h:res σ=some (p,r):=by simp only[go_sem];try exact rfl) (hp:p:=by simp[go_sem]):Cw P C (λs=>∃p r,res s=some (p,r)/\p/\∃r',wk r r'/\(A r' s/\B r' s)) (.code .ret::k) σ:=iX ⟨p,r,h,hp,r,.inr (.inl rfl),ha,hb⟩
theorem wKd {Ret:St->Prop} {k:List It} {ops:Array Oper} {n:Nat} (h:Cw P C Ret k σ) (hn:n=ops.size:=by kernel_rfl):aY P C ops (aft (kY C Ret) (sem P C (kY C Ret) k)) n σ:=xy hn h
end
theorem gD (n:Nat):n-0=n:=rfl
theorem gE {α:Type _} (l:List α):l.drop 0=l:=rfl
theorem gF {α β:Type _} (l:List α) (f:α->β):(l.map f).length=l.length:=List.length_map f
theorem gG (n:Nat):0+n=n:=WK n
theorem wi1 {i:Nat} (h:i≤2000000000000):IntKind.i64.wrap ((i:Int)+1)=((i+1:Nat):Int):=by rw[Eng.wrap_small z7 z7];rfl
theorem gA {α:Type _} {xs:List α} {i:Nat} (h:i<xs.toArray.size):xs.toArray[i]=xs[i]'j5:=List.getElem_toArray h
theorem gB {α:Type _} (a:α) (l:List α) (i:Nat) (h:i+1<(a::l).length):(a::l)[i+1]=l[i]'(Nat.lt_of_succ_lt_succ h):=rfl
theorem gC {α:Type _} (a:α) (l:List α) (h:0<(a::l).length):(a::l)[0]=a:=rfl
end Go.Eng
namespace La
open Go Go.Eng Go.Proofs
def jL (a b:Int):Int:=if a<b then -1 else if b<a then 1 else 0
theorem tz (a b:Int):decide (jL a b<0)=decide (a<b):=by
 unfold jL;split
 ·rename_i h;simp[h]
 ·rename_i h;split
  ·simp[h]
  ·simp[h]
theorem Ei (a b:Int):decide (jL a b=0)=decide (a=b):=by
 unfold jL;split
 ·rename_i h;have:a≠b:=by omega
  simp[this]
 ·rename_i h;split
  ·have:a≠b:=by omega
   simp[this]
  ·have:a=b:=by omega
   simp[this]
theorem vw (a:Int):ae Tryz.prog 173 [.int .i64 a] [] (λr _=>r=.bool false):=by
 refine ZF tK (Tryz.func173) rfl (λC=>?_);simp only[Tryz.ntmps173,Tryz.results173,go_sem];refine wG tK ?_;refine wT ?_;simp
theorem gl (a b:Int):ae Tryz.prog 147 [.int .i64 a,.int .i64 b] [] (λr _=>r=.int .i64 (jL a b)):=by
 refine ZF tK (Tryz.func147) rfl (λC=>?_);simp only[Tryz.ntmps147,Tryz.results147,go_sem];refine wG tK ?_;refine wC Tryz.func173 (hf:=(vw a)) (hk:=?_);refine wG tK ?_;refine wC Tryz.func173 (hf:=(vw b)) (hk:=?_);refine wG tK ?_;refine wD (λh=>?_) (λh=>?_)
 ·cases h
 refine wG tK ?_;refine wD (λh=>?_) (λh=>?_)
 ·cases h
 refine wG tK ?_;refine wD (λh=>?_) (λh=>?_)
 ·refine wG tK ?_;refine wT ?_
  simp_all [jL]
 refine wG tK ?_;refine wD (λh=>?_) (λh=>?_)
 ·refine wG tK ?_;refine wT ?_
  simp_all [jL]
  all_goals omega
 refine wG tK ?_;refine wT ?_
 simp_all [jL]
 all_goals omega
theorem oW (n:Node) (f:Int):ae Tryz.prog 164 [.agg (ZN n),.int .i64 f] [] (λr _=>r=.int .i64 (jL n.fid f)):=by
 unfold ZN;refine ZF tK (Tryz.func164) rfl (λC=>?_);simp only[Tryz.ntmps164,Tryz.results164,go_sem];refine wG tK ?_;refine wC Tryz.func147 (hf:=(gl n.fid f)) (hk:=?_);refine wG tK ?_;refine wT ?_;rfl
theorem Cv {a b:Nat} (h:a+b≤1000000000):IntKind.i64.wrap ((IntKind.u64.wrap (IntKind.i64.wrap ((a:Int)+(b:Int)))).fdiv (2 ^ min 1 64))=(((a+b) / 2:Nat):Int):=by
 have h1:IntKind.i64.wrap ((a:Int)+(b:Int))=((a+b:Nat):Int):=by rw[Eng.wrap_small z7 z7];omega
 have h2:IntKind.u64.wrap ((a+b:Nat):Int)=((a+b:Nat):Int):=by
  simp[IntKind.wrap,IntKind.signed,IntKind.bits];omega
 rw[h1,h2];have h3:(((a+b:Nat):Int)).fdiv (2 ^ min 1 64)=(((a+b) / 2:Nat):Int):=by
  show (((a+b:Nat):Int)).fdiv 2=_
  rw[Int.fdiv_eq_ediv_of_nonneg _ z7];omega
 rw[h3,Eng.wrap_small z7 z7]
def Hg (l:List Node) (f:Int) (i:Nat):Bool:=decide ((l.getD i default).fid<f)
theorem ma (lt:Nat->Bool) {lo hi:Nat} (h:lo<hi):bsearch lt (hi-lo) lo hi=if lt ((lo+hi) / 2) then bsearch lt (hi-((lo+hi) / 2+1)) ((lo+hi) / 2+1) hi else bsearch lt ((lo+hi) / 2-lo) lo ((lo+hi) / 2):=by
 obtain ⟨f,hf⟩:∃f,hi-lo=f+1:=⟨hi-lo-1,by omega⟩;rw[hf]
 conv=>lhs;unfold bsearch
 rw[if_pos h];split
 ·exact fQ lt _ _ _ _ z7 z7
 ·exact fQ lt _ _ _ _ z7 z7
theorem ot (lt:Nat->Bool) {lo hi:Nat} (h:¬lo<hi):bsearch lt (hi-lo) lo hi=lo:=by
 have:hi-lo=0:=by omega
 rw[this];rfl
theorem vZ (l:List Node) (f:Int) (hlen:l.length≤100000000):ae Tryz.prog 163 [.sl (l.map ZN),.int .i64 f,.fn 164 []] [] (λr _=>r=.tup [.int .i64 (placeOf l f),.bool (bn l f)]):=by
 refine ZF tK (Tryz.func163) rfl (λC=>?_);simp only[Tryz.ntmps163,Tryz.results163,go_sem];refine wG tK ?_;refine ZL (λi:Nat×Nat=>i.1≤i.2/\i.2≤l.length/\bsearch (Hg l f) (i.2-i.1) i.1 i.2=placeOf l f) (λi=>i.2-i.1) (λi=>(9,.int .i64 i.1)::(10,.int .i64 i.2)::(11,.any)::u0 15 20 []) (λ_=>[]) (0,l.length) ⟨by simp,by simp,rfl⟩ ?_ λi hi=>?_
 ·simp only[go_sem];exact ZU w1 w1 w1
 obtain ⟨lo,hi'⟩:=i;obtain ⟨h1,h2,h3⟩:=hi;simp only at h1 h2 h3;simp only[go_sem];refine wG tK ?_;refine wD (λh=>?_) (λh=>?_)
 ·have hlt:lo<hi':=by simp at h;omega
  have hml:(lo+hi') / 2<l.length:=by omega
  have hn:=oW (l.getD ((lo+hi') / 2) default) f;have hg:(l.map ZN).getD ((lo+hi') / 2) []=ZN (l.getD ((lo+hi') / 2) default):=Fam.getD hml;have hmid:IntKind.i64.wrap ((IntKind.u64.wrap (IntKind.i64.wrap ((lo:Int)+(hi':Int)))).fdiv (2 ^ min 1 64))=(((lo+hi') / 2:Nat):Int):=Cv z7;have hst:=ma (Hg l f) hlt;have hlm:Hg l f ((lo+hi') / 2)=decide ((l.getD ((lo+hi') / 2) default).fid<f):=rfl;have hm1:lo≤(lo+hi') / 2:=by omega
  have hm2:(lo+hi') / 2<hi':=by omega
  generalize l.getD ((lo+hi') / 2) default=n at hn hg hlm;generalize (lo+hi') / 2=m at *;refine wGq tK ?_ ?_ (by simp only[go_sem,hmid,hg];try exact rfl)
  ·simp[hmid,hg,hml,ZN]
  refine wC Tryz.func164 (hf:=(hn)) (hk:=?_);refine wG tK ?_;refine wD (λh=>?_) (λh=>?_)
  ·rw[tz,←hlm] at h;rw[h,if_pos rfl] at hst;have hw:IntKind.i64.wrap ((m:Int)+1)=((m+1:Nat):Int):=by rw[Eng.wrap_small z7 z7];omega
   refine wG tK ?_ w6 k0;refine ZB ⟨(m+1,hi'),⟨by omega,h2,hst▸h3⟩,by simp;omega,ZU ?_ ?_ ?_⟩
   ·simp[go_sem]
   ·simp[go_sem]
   ·simp[go_sem]
  ·rw[tz,←hlm] at h;rw[h,if_neg w7] at hst;refine wG tK ?_;refine ZB ⟨(lo,m),⟨by omega,by omega,hst▸h3⟩,by simp;omega,ZU ?_ ?_ ?_⟩
   ·simp[go_sem]
   ·simp[go_sem]
   ·simp[go_sem]
 ·have hge:¬lo<hi':=by simp at h;omega
  rw[ot _ hge] at h3;subst h3;refine wR ?_;refine wN tK 5 ?_;refine aV 39 z6 (λc39 h39=>?_);simp only[go_sem];cases c39 with
  | true=>
   have hpl:placeOf l f<l.length:=by have:=of_decide_eq_true h39;omega
   have hn:=oW (l.getD (placeOf l f) default) f;have hg:(l.map ZN).getD (placeOf l f) []=ZN (l.getD (placeOf l f) default):=Fam.getD hpl;have hat:bn l f=decide ((l.getD (placeOf l f) default).fid=f):=by simp[bn,hpl]
   generalize l.getD (placeOf l f) default=n at hn hg hat;refine wGq tK ?_ ?_ x6
   ·simp[hg,hpl,ZN]
   refine wCC Tryz.func164 (hf:=λhb=>(hn)) (hk:=?_);refine wG tK ?_;refine wT ?_;have e:(jL n.fid f==0)=decide (n.fid=f):=by rw[←Ei];by_cases h0:jL n.fid f=0<;>simp[h0]
   simp[hat,e]
  | false=>
   have hpl:¬placeOf l f<l.length:=by have:=of_decide_eq_false h39;omega
   have hat:bn l f=false:=by simp[bn,hpl]
   refine wG tK ?_;refine fj (.int .i64 0) rfl ?_;simp only[go_sem];refine wG tK ?_;refine wT ?_;simp[hat]
theorem xd (l:List Node) (f:Int) (hlen:l.length≤100000000):ae Tryz.prog 120 [.sl (l.map ZN),.int .i64 f] [] (λr _=>r=.tup [.int .i64 (placeOf l f),.bool (bn l f)]):=by
 refine ZF tK (Tryz.func120) rfl (λC=>?_);simp only[Tryz.ntmps120,Tryz.results120,go_sem];refine wG tK ?_;refine wC Tryz.func163 (hf:=(vZ l f hlen)) (hk:=?_);refine wG tK ?_;refine wT ?_;rfl
theorem vr (L:List (List AV)) (i:Nat) (z w:List AV) (hi:i≤L.length) :
  aP (aP (L.take i++List.replicate (L.length+1-i) w) i [z]) (i+1) (L.drop i)=L.take i++z::L.drop i:=by
 have hli:(L.take i).length=i:=by rw[Z9];omega
 have h1:aP (L.take i++List.replicate (L.length+1-i) w) i [z]=L.take i++z::List.replicate (L.length-i) w:=by
  unfold aP;have e1:(L.take i++List.replicate (L.length+1-i) w).take i=L.take i:=by
   rw[List.take_append,hli,WY,List.take_zero,List.append_nil,List.take_take,Nat.min_self]
  have e2:(L.take i++List.replicate (L.length+1-i) w).drop (i+[z].length)=List.replicate (L.length-i) w:=by
   rw[List.drop_append,Wm (by rw[hli];simp),List.drop_replicate,List.nil_append,hli]
   congr 1;simp;omega
  rw[e1,e2];simp
 rw[h1];unfold aP;have hl:(L.take i++[z]).length=i+1:=by rw[List.length_append,hli];rfl
 have e1:(L.take i++z::List.replicate (L.length-i) w).take (i+1)=L.take i++[z]:=by
  have:L.take i++z::List.replicate (L.length-i) w=(L.take i++[z])++List.replicate (L.length-i) w:=by simp
  rw[this,List.take_append,hl,WY,List.take_zero,List.append_nil,Zt z7]
 have e2:(L.take i++z::List.replicate (L.length-i) w).drop (i+1+(L.drop i).length)=[]:=by
  refine Wm ?_;rw[List.length_append,hli,List.length_cons,Wk,Wa];omega
 rw[e1,e2];simp
theorem vt (L Z:List (List AV)) (i:Nat) (z:List AV) (hi:i<L.length) (hz:0<Z.length) :
  (aP (aP (L++Z) (i+1) (L.drop i)) i [z]).take (L.length+1)=L.take i++z::L.drop i:=by
 have hli:(L.take i).length=i:=by rw[Z9];omega
 have hli1:(L.take (i+1)).length=i+1:=by rw[Z9];omega
 have h1:aP (L++Z) (i+1) (L.drop i)=L.take (i+1)++(L.drop i++Z.drop 1):=by
  unfold aP;have e1:(L++Z).take (i+1)=L.take (i+1):=by rw[List.take_append,show i+1-L.length=0 by omega,List.take_zero,List.append_nil]
  have e2:(L++Z).drop (i+1+(L.drop i).length)=Z.drop 1:=by
   rw[List.drop_append,Wm (by rw[Wa];omega),List.nil_append,Wa]
   congr 1;omega
  rw[e1,e2,WT]
 rw[h1];unfold aP;have e1:(L.take (i+1)++(L.drop i++Z.drop 1)).take i=L.take i:=by
  rw[List.take_append,hli1,show i-(i+1)=0 by omega,List.take_zero,List.append_nil,List.take_take,Wo z7]
 have e2:(L.take (i+1)++(L.drop i++Z.drop 1)).drop (i+[z].length)=L.drop i++Z.drop 1:=by
  rw[List.drop_append,Wm (by rw[hli1];simp),List.nil_append,hli1,show i+[z].length-(i+1)=0 by simp,List.drop_zero]
 rw[e1,e2];have e3:L.take i++[z]++(L.drop i++Z.drop 1)=(L.take i++z::L.drop i)++Z.drop 1:=by simp
 have e4:(L.take i++z::L.drop i).length=L.length+1:=by rw[List.length_append,hli,List.length_cons,Wa];omega
 rw[e3,List.take_append,e4,WY,List.take_zero,List.append_nil,Zt z7]
theorem take_one (n:Nat) (z:List AV) (hn:0<n):List.take n [z]=[z]:=Zt y9
theorem l_ {L:List (List AV)} (i:Nat) (h:(L.all λrow=>row.all AV.leaf)=true):((L.drop i).all λrow=>row.all AV.leaf)=true:=by
 rw[List.all_eq_true] at *;exact λx hx=>h x (WS hx)
def Dq:List AV:=[.int .i64 0,.bool false,.nils,.nils,.int .i64 0]
theorem vY (L:List (List AV)) (i:Nat) (hi:i≤L.length) (hlen:L.length≤100000000) (hL:rowsOf 5 L) (hlf:(L.all λrow=>row.all AV.leaf)=true) (hnr:∀id,(L.all λrow=>row.all λx=>!(refs x).contains id)=true) :
  ae Tryz.prog 229 [.osl 1000 5 0 L.length,.int .i64 i,.osl 22 5 0 1] [(22,.cells 94 5 [Dq]),(1000,.cells 94 5 L)] (λr H=>∃j,r=.osl j 5 0 (L.length+1)/\aa H j=some (.cells 94 5 (L.take i++Dq::L.drop i))):=by
 refine ZF tK (Tryz.func229) rfl (λC=>?_);simp only[Tryz.ntmps229,Tryz.results229,go_sem];refine wGq tK ?_ ?_
 ·simp[go_sem];omega
 refine wD (λh=>?_) (λh=>?_)
 ·simp at h
 by_cases hin:i=L.length
 ·subst hin;refine wGq tK ?_ ?_
  ·simp[go_sem]
  refine wD (λh=>?_) (λh=>?_)
  ·refine wGq tK ?_ ?_
   ·refine ⟨by simp,by simp,by intro row h;rw[List.mem_singleton.1 h];rfl,λ_ _ _ _ h=>by injection h,rfl,by omega,.inr trivial,by simp,⟨λ_=>by rfl,by simp⟩,?_⟩;rw[hnr 1000];rfl
   refine wT ?_;simp[go_sem]
  ·simp at h
 ·refine wGq tK ?_ ?_
  ·simp[go_sem]
  refine wD (λh=>?_) (λh=>?_)
  ·simp at h;omega
  refine wR ?_;refine wN tK 4 ?_;refine BK tK rfl rfl rfl rfl (id:=1000) (s:=5) (off:=0) (len:=L.length) (e':=94) (rows:=L) z8 z8 z7 z7 z8 (λc hc1 hc2=>?_);simp only[go_sem];refine wG tK ?_;have hw1:IntKind.i64.wrap ((L.length:Int)+((1:Nat):Int))=((L.length+1:Nat):Int):=by rw[Eng.wrap_small z7 z7];omega
  have hw3:IntKind.i64.wrap ((i:Int)+((1:Nat):Int))=((i+1:Nat):Int):=by rw[Eng.wrap_small z7 z7];omega
  have hil:i<L.length:=by omega
  simp only[go_sem,hw1];refine wD (λh=>?_) (λh=>?_)
  ·have hc:c<L.length+1:=by simp at h;omega
   have hcl:c=L.length:=by omega
   subst hcl;have hw2:IntKind.i64.wrap (((L.length+1:Nat):Int)-(i:Int))=((L.length+1-i:Nat):Int):=by rw[Eng.wrap_small z7 z7];omega
   simp only[go_sem,WK,WY,List.replicate_zero,List.append_nil];refine wGq tK ?_ ?_ (by simp only[go_sem,hw1,hw2];try exact rfl)
   ·simp[go_sem];exact hi
   refine bk rfl (rr tK rfl rfl rfl (id:=1000) (s:=5) (len:=i) (n:=L.length+1-i) (j:=30) (N:=L.length) (d:=40) (e':=94) z8 z8 z8 z7 z7 z8 z7 rfl z7 k8 (by show (_+768)*72≤_;omega) z8) ?_;simp only[go_sem];refine wGq tK ?_ ?_ j9
   ·refine ⟨⟨by simp,by omega,by omega⟩,by simp,by intro row h;rw[List.mem_singleton.1 h];rfl,λ_ _ _ _ h=>by injection h,?_,?_⟩
    ·rw[take_one _ _ z7];rfl
    ·simp;omega
   simp only[go_sem,take_one (i+(L.length+1-i)-i) Dq z7];refine ZW ZM ?_;refine ZS rfl ?_;refine sNq tK 8 ?_ ?_ z6 z6 s9
   ·refine ⟨⟨by simp,by omega,by omega⟩,by simp,by omega,hi⟩
   refine sE ?_;refine dSq tK ?_ ?_
   ·simp only[go_sem];have e1:List.take (L.length-i) (List.drop i L)=L.drop i:=Zt w7;have e2:List.take (i+(L.length+1-i)-(i+1)) (L.drop i)=L.drop i:=Zt y9;rw[e1,e2];refine ⟨by simp,λrow hrow=>hL row (WS hrow),λ_ _ _ _ h=>by injection h;simp;omega,l_ i hlf,?_⟩;rw[cW y9];simp;omega
   refine wKd ?_;have e1:List.take (L.length-i) (List.drop i L)=L.drop i:=Zt w7;have e2:List.take (i+(L.length+1-i)-(i+1)) (L.drop i)=L.drop i:=Zt y9;simp only[go_sem,e1,e2];refine wG tK ?_;refine wT ?_;refine ⟨40,?_,?_⟩
   ·simp[go_sem];omega
   ·rw[vr L i _ _ hi];rfl
  ·have hc:¬c<L.length+1:=by simp at h;omega
   refine wR ?_;refine wN tK 4 ?_;simp only[go_sem,hw1];refine bk rfl (ng tK rfl rfl (id:=1000) (s:=5) (off:=0) (len:=L.length) (h:=L.length+1) (j:=30) (N:=0+c) z8 z8 z8 z7 z7 rfl z7) ?_;simp only[go_sem];refine wGq tK ?_ ?_ s9
   ·exact ⟨by simp,by omega,hi⟩
   refine bk rfl (rk tK rfl (f:=241) (i1:=22) (i2:=1000) (s1:=5) (s2:=5) z8 (Go.Proofs.Tryz.func241) rfl rfl rfl rfl rfl k8 z8 z8 k8 z7 z7 k8 z8 z8) ?_;simp only[go_sem];refine wG tK ?_;refine wD (λh=>?_) (λh=>?_)
   ·have hZ1:rowsOf 5 (List.replicate (c-L.length) [AV.any,AV.any,AV.any,AV.any,AV.any]):=λrow hr=>by rw[(List.mem_replicate.1 hr).2];rfl
    have hZ2:0<(List.replicate (c-L.length) [AV.any,AV.any,AV.any,AV.any,AV.any]).length:=by rw[Wk];omega
    generalize List.replicate (c-L.length) [AV.any,AV.any,AV.any,AV.any,AV.any]=Z at hZ1 hZ2;have e0:List.drop i (L++Z)=L.drop i++Z:=by rw[List.drop_append,show i-L.length=0 by omega,List.drop_zero]
    have e1:(List.take (L.length+1-i) (List.drop i (L++Z))).length=L.length+1-i:=by rw[e0];simp;omega
    have e2:List.take (L.length-i) (List.take (L.length+1-i) (List.drop i (L++Z)))=L.drop i:=by
     rw[List.take_take,Wo z7,e0,List.take_append,Wa,WY,List.take_zero,List.append_nil,Zt w7]
    have e3:L.length+1-(i+1)=L.length-i:=by omega
    refine wR ?_;refine ZW ZM ?_;refine ZS rfl ?_;refine sNq tK 8 ?_ ?_ z6 z6 s9
    ·exact ⟨⟨by simp,by omega,hi⟩,by simp,by omega,by omega⟩
    refine sE ?_;refine dSq tK ?_ ?_
    ·simp only[go_sem];refine ⟨by simp,λrow hr=>?_,λ_ _ _ _ h=>by injection h with _ _ _ h;rw[e1,h],?_,?_⟩
     ·have:=WS (Z3 hr)
      rcases List.mem_append.1 this with h | h
      ·exact hL row h
      ·exact hZ1 row h
     ·rw[e3,e2];exact l_ i hlf
     ·omega
    refine wKd ?_;simp only[go_sem,e2,e3,gA,gB,gC];refine wGq tK ?_ ?_
    ·refine ⟨⟨by simp,by omega,by omega⟩,by simp,by intro row h;rw[List.mem_singleton.1 h];rfl,λ_ _ _ _ h=>by injection h,?_,?_⟩
     ·rw[take_one _ _ z7];rfl
     ·rw[cW y9,List.length_append];omega
    simp only[go_sem,take_one (L.length+1-i) Dq z7];refine ay (nU (id:=1000) (L.length+1) z6) ?_;simp only[go_sem,vt L Z i Dq hil hZ2];refine wT ?_;refine ⟨1000,?_,?_⟩
    ·simp[go_sem]
    ·rfl
   ·simp at h
def rD:List AV:=[.str [],.int .i64 0]
theorem tE (L:List (List AV)) (i:Nat) (hi:i≤L.length) (hlen:L.length≤100000000) (hL:rowsOf 2 L) (hlf:(L.all λrow=>row.all AV.leaf)=true) (hnr:∀id,(L.all λrow=>row.all λx=>!(refs x).contains id)=true) :
  ae Tryz.prog 209 [.osl 1000 2 0 L.length,.int .i64 i,.osl 28 2 0 1] [(28,.cells 96 2 [rD]),(1000,.cells 96 2 L)] (λr H=>∃j,r=.osl j 2 0 (L.length+1)/\aa H j=some (.cells 96 2 (L.take i++rD::L.drop i))):=by
 refine ZF tK (Tryz.func209) rfl (λC=>?_);simp only[Tryz.ntmps209,Tryz.results209,go_sem];refine wGq tK ?_ ?_
 ·simp[go_sem];omega
 refine wD (λh=>?_) (λh=>?_)
 ·simp at h
 by_cases hin:i=L.length
 ·subst hin;refine wGq tK ?_ ?_
  ·simp[go_sem]
  refine wD (λh=>?_) (λh=>?_)
  ·refine wGq tK ?_ ?_
   ·refine ⟨by simp,by simp,by intro row h;rw[List.mem_singleton.1 h];rfl,λ_ _ _ _ h=>by injection h,rfl,by omega,.inr trivial,by simp,⟨λ_=>by rfl,by simp⟩,?_⟩;rw[hnr 1000];rfl
   refine wT ?_;simp[go_sem]
  ·simp at h
 ·refine wGq tK ?_ ?_
  ·simp[go_sem]
  refine wD (λh=>?_) (λh=>?_)
  ·simp at h;omega
  refine wR ?_;refine wN tK 4 ?_;refine BK tK rfl rfl rfl rfl (id:=1000) (s:=2) (off:=0) (len:=L.length) (e':=96) (rows:=L) z8 z8 z7 z7 z8 (λc hc1 hc2=>?_);simp only[go_sem];refine wG tK ?_;have hw1:IntKind.i64.wrap ((L.length:Int)+((1:Nat):Int))=((L.length+1:Nat):Int):=by rw[Eng.wrap_small z7 z7];omega
  have hw3:IntKind.i64.wrap ((i:Int)+((1:Nat):Int))=((i+1:Nat):Int):=by rw[Eng.wrap_small z7 z7];omega
  have hil:i<L.length:=by omega
  simp only[go_sem,hw1];refine wD (λh=>?_) (λh=>?_)
  ·have hc:c<L.length+1:=by simp at h;omega
   have hcl:c=L.length:=by omega
   subst hcl;have hw2:IntKind.i64.wrap (((L.length+1:Nat):Int)-(i:Int))=((L.length+1-i:Nat):Int):=by rw[Eng.wrap_small z7 z7];omega
   simp only[go_sem,WK,WY,List.replicate_zero,List.append_nil];refine wGq tK ?_ ?_ (by simp only[go_sem,hw1,hw2];try exact rfl)
   ·simp[go_sem];exact hi
   refine bk rfl (rr tK rfl rfl rfl (id:=1000) (s:=2) (len:=i) (n:=L.length+1-i) (j:=30) (N:=L.length) (d:=40) (e':=96) z8 z8 z8 z7 z7 z8 z7 rfl z7 k8 (by show (_+768)*24≤_;omega) z8) ?_;simp only[go_sem];refine wGq tK ?_ ?_ j9
   ·refine ⟨⟨by simp,by omega,by omega⟩,by simp,by intro row h;rw[List.mem_singleton.1 h];rfl,λ_ _ _ _ h=>by injection h,?_,?_⟩
    ·rw[take_one _ _ z7];rfl
    ·simp;omega
   simp only[go_sem,take_one (i+(L.length+1-i)-i) rD z7];refine ZW ZM ?_;refine ZS rfl ?_;refine sNq tK 8 ?_ ?_ z6 z6 s9
   ·refine ⟨⟨by simp,by omega,by omega⟩,by simp,by omega,hi⟩
   refine sE ?_;refine dSq tK ?_ ?_
   ·simp only[go_sem];have e1:List.take (L.length-i) (List.drop i L)=L.drop i:=Zt w7;have e2:List.take (i+(L.length+1-i)-(i+1)) (L.drop i)=L.drop i:=Zt y9;rw[e1,e2];refine ⟨by simp,λrow hrow=>hL row (WS hrow),λ_ _ _ _ h=>by injection h;simp;omega,l_ i hlf,?_⟩;rw[cW y9];simp;omega
   refine wKd ?_;have e1:List.take (L.length-i) (List.drop i L)=L.drop i:=Zt w7;have e2:List.take (i+(L.length+1-i)-(i+1)) (L.drop i)=L.drop i:=Zt y9;simp only[go_sem,e1,e2];refine wG tK ?_;refine wT ?_;refine ⟨40,?_,?_⟩
   ·simp[go_sem];omega
   ·rw[vr L i _ _ hi];rfl
  ·have hc:¬c<L.length+1:=by simp at h;omega
   refine wR ?_;refine wN tK 4 ?_;simp only[go_sem,hw1];refine bk rfl (ng tK rfl rfl (id:=1000) (s:=2) (off:=0) (len:=L.length) (h:=L.length+1) (j:=30) (N:=0+c) z8 z8 z8 z7 z7 rfl z7) ?_;simp only[go_sem];refine wGq tK ?_ ?_ s9
   ·exact ⟨by simp,by omega,hi⟩
   refine bk rfl (rk tK rfl (f:=230) (i1:=28) (i2:=1000) (s1:=2) (s2:=2) z8 (Go.Proofs.Tryz.func230) rfl rfl rfl rfl rfl k8 z8 z8 k8 z7 z7 k8 z8 z8) ?_;simp only[go_sem];refine wG tK ?_;refine wD (λh=>?_) (λh=>?_)
   ·have hZ1:rowsOf 2 (List.replicate (c-L.length) [AV.any,AV.any]):=λrow hr=>by rw[(List.mem_replicate.1 hr).2];rfl
    have hZ2:0<(List.replicate (c-L.length) [AV.any,AV.any]).length:=by rw[Wk];omega
    generalize List.replicate (c-L.length) [AV.any,AV.any]=Z at hZ1 hZ2;have e0:List.drop i (L++Z)=L.drop i++Z:=by rw[List.drop_append,show i-L.length=0 by omega,List.drop_zero]
    have e1:(List.take (L.length+1-i) (List.drop i (L++Z))).length=L.length+1-i:=by rw[e0];simp;omega
    have e2:List.take (L.length-i) (List.take (L.length+1-i) (List.drop i (L++Z)))=L.drop i:=by
     rw[List.take_take,Wo z7,e0,List.take_append,Wa,WY,List.take_zero,List.append_nil,Zt w7]
    have e3:L.length+1-(i+1)=L.length-i:=by omega
    refine wR ?_;refine ZW ZM ?_;refine ZS rfl ?_;refine sNq tK 8 ?_ ?_ z6 z6 s9
    ·exact ⟨⟨by simp,by omega,hi⟩,by simp,by omega,by omega⟩
    refine sE ?_;refine dSq tK ?_ ?_
    ·simp only[go_sem];refine ⟨by simp,λrow hr=>?_,λ_ _ _ _ h=>by injection h with _ _ _ h;rw[e1,h],?_,?_⟩
     ·have:=WS (Z3 hr)
      rcases List.mem_append.1 this with h | h
      ·exact hL row h
      ·exact hZ1 row h
     ·rw[e3,e2];exact l_ i hlf
     ·omega
    refine wKd ?_;simp only[go_sem,e2,e3,gA,gB,gC];refine wGq tK ?_ ?_
    ·refine ⟨⟨by simp,by omega,by omega⟩,by simp,by intro row h;rw[List.mem_singleton.1 h];rfl,λ_ _ _ _ h=>by injection h,?_,?_⟩
     ·rw[take_one _ _ z7];rfl
     ·rw[cW y9,List.length_append];omega
    simp only[go_sem,take_one (L.length+1-i) rD z7];refine ay (nU (id:=1000) (L.length+1) z6) ?_;simp only[go_sem,vt L Z i rD hil hZ2];refine wT ?_;refine ⟨1000,?_,?_⟩
    ·simp[go_sem]
    ·rfl
   ·simp at h
theorem jK (d:List UInt8) (hd:d.length≤100000000):ae Tryz.prog 100 [.sl (d.map ZY)] [] (λr _=>r=.sl (d.map ZY)):=by
 refine ZF tK (Tryz.func100) rfl (λC=>?_);simp only[Tryz.ntmps100,Tryz.results100,go_sem];refine wG tK ?_;refine jN tK rfl rfl rfl j6 j6 (λb hb=>?_);simp only[go_sem];refine wG tK ?_;refine wD (λh=>?_) (λh=>?_)
 ·refine wG tK ?_;refine iX ⟨_,_,z8,by simp[go_sem],.sl [],.inr (.inr ⟨rfl,.inl rfl⟩),?_⟩;rw[hb h]
 ·refine wGq tK ?_ ?_
  ·simp;omega
  refine ZZ 7 rfl (mb _) ?_;simp only[go_sem];refine wT ?_;simp
theorem rI (d:List Entry) (hd:d.length≤100000000):ae Tryz.prog 101 [.sl (d.map ZE)] [] (λr _=>r=.sl (d.map ZE)):=by
 refine ZF tK (Tryz.func101) rfl (λC=>?_);simp only[Tryz.ntmps101,Tryz.results101,go_sem];refine wG tK ?_;refine jN tK rfl rfl rfl j6 j6 (λb hb=>?_);simp only[go_sem];refine wG tK ?_;refine wD (λh=>?_) (λh=>?_)
 ·refine wG tK ?_;refine iX ⟨_,_,z8,by simp[go_sem],.sl [],.inr (.inr ⟨rfl,.inl rfl⟩),?_⟩;rw[hb h]
 ·refine wGq tK ?_ ?_
  ·simp;omega
  refine ZZ 7 rfl (fk _) ?_;simp only[go_sem];refine wT ?_;simp
theorem pC (l:List Node) (hl:Small l):ae Tryz.prog 66 [.sl (l.map ZN)] [] (λr H=>r=.osl 23 5 0 (l.map ZN).length/\∀i b,aa [(23,.cells 94 5 (l.map ZN))] i=some b->aa H i=some b):=by
 have hlen:=hl.len;refine ZF tK (Tryz.func66) rfl (λC=>?_);simp only[Tryz.ntmps66,Tryz.results66,go_sem];refine wG tK ?_;refine ZL (λi:Nat=>i≤l.length) (λi=>l.length-i) (λi=>(3,.osl 23 5 0 i)::(5,.any)::(8,.int .i64 i)::u0 9 16 [])
  (λi=>[(23,.cells 94 5 ((l.take i).map ZN))]) 0 z7 ?_ λi hi=>?_
 ·simp only[go_sem];exact ZU w1 w1 s7
 simp only[go_sem];refine wG tK ?_;refine wD (λh=>?_) (λh=>?_)
 ·have hlt:i<l.length:=by simp at h;omega
  have hn:=hl.each _ (YG hlt);have hg:(l.map ZN).getD i []=ZN (l.getD i default):=Fam.getD hlt;have hs:=cw ZN hlt;generalize l.getD i default=n at hn hg hs;refine wGq tK ?_ ?_ QH
  ·simp[hlt,ZN]
  refine ZW ZM ?_;refine ZS rfl ?_;refine sG tK ?_;refine sC Tryz.func100 (hf:=(jK _ hn.data)) (hk:=?_);refine sG tK ?_;refine sC Tryz.func101 (hf:=(rI _ hn.entries)) (hk:=?_);refine sG tK ?_;refine sE ?_;refine dS tK ?_;refine ZS rfl ?_;refine sG tK ?_;refine sE ?_;refine dS tK ?_;refine wKd ?_;have ht:List.take i (List.map ZN (List.take i l))=List.map ZN (List.take i l):=Zt y9;have hw:IntKind.i64.wrap ((i:Int)+1)=(i:Int)+1:=wrap_small z7 z7;refine wGq tK ?_ ?_ (by simp only[go_sem,ht,hw];try exact rfl)
  ·simp[rowsOf];omega
  refine ZB ⟨i+1,by omega,by omega,ZU ?_ ?_ ?_⟩
  ·simp[go_sem]
  ·simp[go_sem,hs,ZN]
  ·simp only[go_sem]
 ·have e:i=l.length:=by simp at h;omega
  subst e;refine wG tK ?_;refine wT ?_;simp[go_sem]
theorem jr (l:List Node) (hl:Small l):ae Tryz.prog 66 [.sl (l.map ZN)] [] (λr _=>r=.sl (l.map ZN)):=ae.read (pC l hl) (dG _)
def aC:Node:=⟨0,false,[],[],0⟩
def eu (l:List Node) (f:Int):AV:=.tup [.agg (ZN ((al l f).getD aC)),.bool (bn l f)]
theorem uZ {l:List Node} {k:Int} (h:bn l k=true):al l k=some (l.getD (placeOf l k) default):=by unfold al;rw[if_pos h]
theorem qh {l:List Node} {k:Int} (h:bn l k=false):al l k=none:=by unfold al;rw[if_neg (by simp[h])]
@[go_sem,simp] theorem G_ (l:List Node) (f:Int):refs (eu l f)=[]:=by unfold eu;simp[refs,av]
theorem dd (l:List Node) (k:Int):bn l k=(al l k).isSome:=by
 cases h:bn l k
 ·rw[qh h];rfl
 ·rw[uZ h];rfl
theorem nH {l:List Node} {k:Int} {n:Node} (h:al l k=some n):n∈l:=by
 unfold al at h;split at h
 ·rename_i hc;injection h with h
  subst h;unfold bn at hc;rw[Bool.and_eq_true] at hc;exact YG (of_decide_eq_true hc.1)
 ·cases h
theorem Small.find {l:List Node} (h:Small l) (k:Int):((al l k).getD aC).Small:=by
 cases e:al l k with
 | none=>exact ⟨by simp[aC],by simp[aC]⟩
 | some n=>exact h.each n (nH e)
theorem oJ (n:Node):fA (ZN n)=ZN n:=by
 have h1:ie (n.data.map ZY)=n.data.map ZY:=by rw[dn,WX];rfl
 have h2:ie (n.entries.map ZE)=n.entries.map ZE:=by rw[dn,WX];rfl
 simp only[ZN,fA,nrm,h1,h2]
theorem B1 (l:List Node) (f:Int) (hl:Small l):ae Tryz.prog 82 [.sl (l.map ZN),.int .i64 f] [] (λr _=>r=.tup [.agg (if bn l f=true then ZN (l.getD (placeOf l f) default) else [.int .i64 0,.bool false,.nils,.nils,.int .i64 0]),.bool (bn l f)]):=by
 refine ZF tK (Tryz.func82) rfl (λC=>?_);simp only[Tryz.ntmps82,Tryz.results82,go_sem];refine wG tK ?_;refine wC Tryz.func120 (hf:=(xd l f hl.len)) (hk:=?_);refine wG tK ?_;have hple:=ju l f;have hlen:=hl.len;refine wD (λh=>?_) (λh=>?_)
 ·have hat:bn l f=false:=by simpa using h
  refine wG tK ?_;refine wT ?_;simp[hat]
 ·have hat:bn l f=true:=by simpa using h
  have hpl:placeOf l f<l.length:=by
   unfold bn at hat;rw[Bool.and_eq_true] at hat;exact of_decide_eq_true hat.1
  have hn:=YG hpl;have hd:(l.take (placeOf l f+1)).drop (placeOf l f)=[l.getD (placeOf l f) default]:=by rw[List.drop_take,cH hpl,Wb];rfl
  have hw:IntKind.i64.wrap ((placeOf l f:Int)+1)=((placeOf l f+1:Nat):Int):=by rw[Eng.wrap_small z7 z7];omega
  generalize l.getD (placeOf l f) default=n at hn hd;refine wGq tK ?_ ?_ w6
  ·simp;exact ⟨by omega,by omega,λ_ _=>rfl⟩
  simp only[go_sem,←Wt,←List.map_drop,hd];refine wC Tryz.func66 (hf:=(jr [n] ⟨by simp,λx hx=>by rw[List.mem_singleton.1 hx];exact hl.each n hn⟩)) (hk:=?_);refine wGq tK ?_ ?_ w3
  ·simp[go_sem,ZN]
  refine iX ⟨_,_,by simp only[go_sem,ZN];try exact rfl,by simp[go_sem],_,.inr (.inl rfl),?_⟩;simp[hat,ZN]
theorem cA (l:List Node) (f:Int) (hl:Small l):ae Tryz.prog 82 [.sl (l.map ZN),.int .i64 f] [] (λr _=>r=eu l f):=by
 refine ae.ie (B1 l f hl) ?_;unfold eu;cases h:bn l f
 ·rw[qh h];rfl
 ·rw[uZ h];simp only[if_true,nrm,fA,oJ,Option.getD_some]
end La
