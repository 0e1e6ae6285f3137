/- Texts of this claim, part 11: EngAR, EngAS, EngAT, EngAU, EngAV, EngAW, EngAX. No condition. -/
import Derived.Test.YtmcfbfdonjllaaaGreatDoorZT10
import Derived.Laws.IdiomStrings
set_option maxRecDepth 10000
set_option maxHeartbeats 4000000
set_option linter.unusedSimpArgs false
set_option linter.unusedVariables false
namespace Go.Eng
section
variable {P:Program} {T:Tab} {C:Ctx} {σ σ':St}
def Safe (Z:List (Nat×List Nat)) (s:St):Prop:=∀z,z∈Z->(∀t,t∉z.2->z.1∉refs (s.tm.getD t .any))/\∀b B,aa s.hp b=some B->b≠z.1->bK z.1 B
def kR (Z:List (Nat×List Nat)) (p:Sp):Prop:=∀z,z∈Z->((∃t,p.dst=some t/\t∈z.2)\/z.1∉refs p.val)/\∀b,b∈p.new->b.1=z.1\/bK z.1 b.2
def HV (P:Program) (C:Ctx) (ops:Array Oper) (Z:List (Nat×List Nat)) (o:Oper) (e:Ef) (U:St):Prop:=
 ∀s,s.tm.length=U.tm.length->(∀x,(x∈e.rd\/x∈e.wr)->aP U s x)->Safe Z s->nD P C ops o s (e.app s)
def lr (P:Program) (C:Ctx) (ops:Array Oper) (Q:Exit->Go.Act->World->Prop) (k:Nat) (Z:List (Nat×List Nat)) (acc:du) (l:List Oper) (σ:St):Prop:=
 Safe Z σ->∃l1 l2 es,l=l1++l2/\l1.length=es.length/\(∀e,e∈es->EfOK e)/\(∀m o e,l1[m]? = some o->es[m]? = some e->HV P C ops Z o e (efU es m σ))/\(∀i,i≤es.length->Safe Z (efU es i σ)) /\
  mg ops k (acc++skE es)=true/\bp P C ops Q (k+acc.length+es.length) (efU es es.length σ)
theorem rF (e:Ef) (es:List Ef) (i:Nat) (σ:St):efU (e::es) (i+1) σ=efU es i (e.app σ):=by simp[efU]
theorem yr {ops:Array Oper} {Q:Exit->Go.Act->World->Prop} {k:Nat} {Z:List (Nat×List Nat)} {acc:du} {o:Oper} {l:List Oper} {e:Ef} (he:EfOK e) (hr:HV P C ops Z o e σ) (hs:Safe Z σ->Safe Z (e.app σ))
  (hk:lr P C ops Q k Z (acc++[(e.wr,e.rd)]) l (e.app σ)):lr P C ops Q k Z acc (o::l) σ:=by
 intro h0;obtain ⟨l1,l2,es,h1,h2,h3,h4,h5,h6,h7⟩:=hk (hs h0);refine ⟨o::l1,l2,e::es,by rw[h1];rfl,by simp[h2],λx hx=>?_,λm o' e' ho' he'=>?_,λi hi=>?_,?_,?_⟩
 ·rcases List.mem_cons.1 hx with rfl | hx
  ·exact he
  ·exact h3 x hx
 ·cases m with
  | zero=>
   simp only[List.getElem?_cons_zero,Option.some.injEq] at ho' he';subst ho' he';rw[lE];exact hr
  | succ m=>
   rw[rF];exact h4 m o' e' (by simpa using ho') (by simpa using he')
 ·cases i with
  | zero=>rw[lE];exact h0
  | succ i=>rw[rF];exact h5 i WG
 ·have:acc++skE (e::es)=acc++[(e.wr,e.rd)]++skE es:=by simp[skE]
  rw[this];exact h6
 ·have:k+acc.length+(e::es).length=k+(acc++[(e.wr,e.rd)]).length+es.length:=by simp;omega
  rw[this,show (e::es).length=es.length+1 from rfl,rF];exact h7
theorem oA {ops:Array Oper} {Q:Exit->Go.Act->World->Prop} {k:Nat} {Z:List (Nat×List Nat)} {acc:du} {l:List Oper} (hc:mg ops k acc=true) {j:Nat} (hj:k+acc.length=j) (h:bp P C ops Q j σ):lr P C ops Q k Z acc l σ:=by
 subst hj;intro h0;refine ⟨[],l,[],rfl,rfl,λe he=>(by cases he),λm o e ho he=>(by simp at ho),λi hi=>?_,by simpa[skE] using hc,by simpa[efU] using h⟩;rw[show i=0 by simpa using hi,lE];exact h0
theorem kS {ops:Array Oper} {Q:Exit->Go.Act->World->Prop} {k:Nat} (Z:List (Nat×List Nat)) {l:List Oper} (hl:ops.toList.drop k=l) (hs:Safe Z σ) (h:lr P C ops Q k Z [] l σ):bp P C ops Q k σ:=by
 subst hl;obtain ⟨l1,l2,es,h1,h2,h3,h4,h5,h6,h7⟩:=h hs;refine FK (l:=l1) (es:=es) (by simpa using h6) h2 (λi hi=>?_) h3 (λm o e ho he s hlen hag hall=>?_) (by simpa using h7)
 ·rw[←YF,←YI,h1,W6 z8]
 ·have hm:m<es.length:=(Wp.1 he).1;refine h4 m o e ho he s (by rw[hlen,qM h3 σ m z8]) hag λz hz=>⟨λt ht=>?_,λb B hb hne=>?_⟩
  ·obtain ⟨i,hi,ha⟩:=hall (.tm t);have ha:s.tm.getD t .any=(efU es i σ).tm.getD t .any:=ha;rw[ha];exact (h5 i hi z hz).1 t ht
  ·obtain ⟨i,hi,ha⟩:=hall (.blk b);have ha:aa s.hp b=aa (efU es i σ).hp b:=ha;rw[ha] at hb;exact (h5 i hi z hz).2 b B hb hne
def efS (p:Sp):Ef:=⟨p.wr,p.rd,p.app⟩
theorem cf (l:List AV) (t u:Nat) (v:AV):(l.set t v).getD u .any=if t=u then (if t<l.length then v else .any) else l.getD u .any:=by
 rw[Wi,YA]
 by_cases h:t=u
 ·subst h;rw[if_pos rfl,if_pos rfl];split<;>rfl
 ·rw[if_neg h,if_neg h,Wi]
theorem H9 (p:Sp):EfOK (efS p):=by
 have htm:∀s:St,(p.app s).tm=match p.dst with | some t=>s.tm.set t p.val | none=>s.tm:=λs=>by unfold Sp.app St.put;cases p.dst<;>rfl
 have hhp:∀s:St,(p.app s).hp=p.new++s.hp:=λs=>by unfold Sp.app;rw[St.fR]
 refine ⟨λs=>?_,λs x hx=>?_,λs s' hl x hx=>?_⟩
 ·show (p.app s).tm.length=_
  rw[htm];cases p.dst<;>simp
 ·cases x with
  | tm t=>
   show (p.app s).tm.getD t .any=s.tm.getD t .any
   rw[htm];cases e:p.dst with
   | none=>rfl
   | some u=>
    show (s.tm.set u p.val).getD t .any=_
    rw[cf,if_neg];rintro rfl;exact hx (yU e)
  | blk id=>
   show aa (p.app s).hp id=aa s.hp id
   rw[hhp,aF,if_neg];exact λh=>hx (nC h)
 ·cases x with
  | tm t=>
   show (p.app s').tm.getD t .any=(p.app s).tm.getD t .any
   have hd:p.dst=some t:=by
    have hx:Loc.tm t∈p.wr:=hx;unfold Sp.wr at hx
    rcases List.mem_append.1 hx with h | h
    ·cases e:p.dst with
     | none=>rw[e] at h;cases h
     | some u=>rw[e] at h;rw[List.mem_singleton] at h;injection h with h;rw[h]
    ·obtain ⟨b,_,hb⟩:=Wq.1 h;cases hb
   rw[htm,htm,hd]
   show (s'.tm.set t p.val).getD t .any=(s.tm.set t p.val).getD t .any
   rw[cf,cf,if_pos rfl,if_pos rfl,hl]
  | blk id=>
   show aa (p.app s').hp id=aa (p.app s).hp id
   have hb:∃b,b∈p.new/\b.1=id:=by
    have hx:Loc.blk id∈p.wr:=hx;unfold Sp.wr at hx
    rcases List.mem_append.1 hx with h | h
    ·cases e:p.dst with
     | none=>rw[e] at h;cases h
     | some u=>rw[e] at h;rw[List.mem_singleton] at h;cases h
    ·obtain ⟨b,hb,he⟩:=Wq.1 h;injection he with he
     exact ⟨b,hb,he⟩
   rw[hhp,hhp,aF,aF,if_pos hb,if_pos hb]
theorem El {Z:List (Nat×List Nat)} {p:Sp} (hp:kR Z p) {s:St} (hs:Safe Z s):Safe Z (p.app s):=λz hz=>by
 have htm:(p.app s).tm=match p.dst with | some t=>s.tm.set t p.val | none=>s.tm:=by unfold Sp.app St.put;cases p.dst<;>rfl
 have hhp:(p.app s).hp=p.new++s.hp:=by unfold Sp.app;rw[St.fR]
 obtain ⟨h1,h2⟩:=hp z hz;refine ⟨λt ht=>?_,λb B hb hne=>?_⟩
 ·rw[htm];cases e:p.dst with
  | none=>exact (hs z hz).1 t ht
  | some u=>
   show z.1∉refs ((s.tm.set u p.val).getD t .any)
   rw[cf];split
   ·rename_i hu;subst hu;split
    ·rcases h1 with ⟨v,hv,hv2⟩ | h1
     ·rw[e] at hv;injection hv with hv;subst hv;exact absurd hv2 ht
     ·exact h1
    ·simp[refs]
   ·exact (hs z hz).1 t ht
 ·rw[hhp,aF] at hb;split at hb
  ·have:=h2 (b,B) (bf hb)
   rcases this with h | h
   ·exact absurd h hne
   ·exact h
  ·exact (hs z hz).2 b B hb hne
theorem Gu {ops:Array Oper} {Z:List (Nat×List Nat)} {o:Oper} {p:Sp} (h:Rob P C ops o p σ) (hf:∀b,b∈p.new->Loc.blk b.1∉p.rd->aa σ.hp b.1=none):HV P C ops Z o (efS p) σ:=λs _ hag _=>
 h s (λx hx=>hag x (.inl hx)) λb hb hn=>Eq.trans (show aa s.hp b.1=aa σ.hp b.1 from hag (.blk b.1) (.inr (nC ⟨b,hb,rfl⟩))) (hf b hb hn)
theorem oB {ops:Array Oper} {Q:Exit->Go.Act->World->Prop} {k:Nat} {Z:List (Nat×List Nat)} {acc:du} {o:Oper} {l:List Oper} {p:Sp} (h:Rob P C ops o p σ) (hf:∀b,b∈p.new->Loc.blk b.1∉p.rd->aa σ.hp b.1=none) (hz:kR Z p)
  {s1:List Loc×List Loc} (hs:(p.wr,p.rd)=s1) (ha:p.app σ=σ') (hk:lr P C ops Q k Z (acc++[s1]) l σ'):lr P C ops Q k Z acc (o::l) σ:=by
 subst hs ha;exact yr (e:=efS p) (H9 p) (Gu h hf) (El hz) hk
theorem sH {ops:Array Oper} {Q:Exit->Go.Act->World->Prop} {k:Nat} {Z:List (Nat×List Nat)}:∀{l1:List Oper} {ps:List Sp} {acc:du} {l:List Oper} {σ:St},dt P C ops l1 ps σ->(∀p,p∈ps->p.new=[])->(∀p,p∈ps->kR Z p) ->
  lr P C ops Q k Z (acc++gu ps) l (cn ps σ)->lr P C ops Q k Z acc (l1++l) σ
 | [],[],acc,l,σ,_,_,_,hk=>by simpa[gu,cn] using hk
 | o::l1,p::ps,acc,l,σ,hc,hn,hz,hk=>by
  refine oB hc.1 (λb hb _=>by rw[hn p List.mem_cons_self] at hb;cases hb) (hz p List.mem_cons_self) rfl rfl ?_;refine sH hc.2 (λq hq=>hn q (List.mem_cons_of_mem _ hq)) (λq hq=>hz q (List.mem_cons_of_mem _ hq)) ?_;have e:acc++[(p.wr,p.rd)]++gu ps=acc++gu (p::ps):=by simp[gu]
  rw[e];exact hk
 | [],_::_,_,_,_,h,_,_,_=>h.elim
 | _::_,[],_,_,_,h,_,_,_=>h.elim
theorem zN (hT:TabOK P T) (m:Nat) {ops:Array Oper} {Q:Exit->Go.Act->World->Prop} {k:Nat} {Z:List (Nat×List Nat)} {acc:du} {l l1 l2:List Oper} {p:Prop} {ps:List Sp} {sk:du}
  (h1:l.take m=l1:=by simp only[go_sem];exact rfl) (h2:l.drop m=l2:=by simp only[go_sem];exact rfl) (h:kP T ops l1 σ=some (p,ps,[],σ'):=by simp only[go_sem];try exact rfl) (hp:p:=by simp[go_sem]) (hs:gu ps=sk:=by simp only[go_sem];exact rfl)
  (hz:∀q,q∈ps->kR Z q:=by simp[go_sem,kR]) (hk:lr P C ops Q k Z (acc++sk) l2 σ'):lr P C ops Q k Z acc l σ:=by
 subst hs h1 h2;obtain ⟨g1,g2,g3⟩:=ow h;obtain ⟨q1,k1,k2⟩:=iT (P:=P) (C:=C) hT ops (l.take m) σ h hp (l2:=[]) (ps2:=[]) trivial y7;simp only[List.append_nil] at k1 k2;subst k1;have:=sH (Z:=Z) (Q:=Q) (k:=k) (acc:=acc) (l:=l.drop m) k2 (λq hq=>by
  obtain ⟨i,hi⟩:=Wu hq;exact g3 i q hi) hz (by rw[g2];exact hk)
 rwa [Yc] at this
theorem zC {ops:Array Oper} {Q:Exit->Go.Act->World->Prop} {k:Nat} {Z:List (Nat×List Nat)} {acc:du} {o:Oper} {l:List Oper} {c:Operand} {args:Array Operand} {ats:Array TypeId} {f:FuncId} {fn:Func} {xs:List AV} {r:AV} {p:Prop} {s1:List Loc×List Loc}
  (F:P.funcs[f]? = some fn) (ho:o.op=.call { callee:=.value c,args,argTypes:=ats }:=by rfl) (hg:o.guard=none:=by rfl) (h:ax σ c args.toList=some (p,f,xs):=by simp only[go_sem];try exact rfl) (hp:p:=by simp[go_sem])
  (c1:(fn.name == "runtime.NumGoroutine")=false:=by kernel_rfl) (c2:fn.body.isSome=true:=by rfl) (hx:aC xs=[]:=by simp[go_sem]) (hf:ae P f xs [] λr' _=>r'=r) (hr:refs r=[]:=by simp[go_sem])
  (hs:((ee ops σ o c args.toList r).wr,(ee ops σ o c args.toList r).rd)=s1:=by simp only[go_sem];exact rfl) (ha:σ.put o.dst r=σ':=by simp only[go_sem];exact rfl) (hk:lr P C ops Q k Z (acc++[s1]) l σ'):lr P C ops Q k Z acc (o::l) σ:=
 oB (yh ho hg h hp ⟨fn,F,c1,c2⟩ hx hr hf) (λb hb _=>by cases hb) (λz _=>⟨.inr (by show z.1∉refs r;rw[hr];simp),λb hb=>by cases hb⟩) hs WV hk
theorem zW (hT:TabOK P T) {ops:Array Oper} {Q:Exit->Go.Act->World->Prop} {k:Nat} {Z:List (Nat×List Nat)} {acc:du} {o:Oper} {l:List Oper} {d:Nat} {p:Prop} {b:Blk} {x:AV} {s1:List Loc×List Loc}
  (hd:o.dst=some d:=by rfl) (hg:guardOf ops σ o.guard=some true:=by simp only[go_sem];try exact rfl) (h:lV T σ d o.op=some (p,b,x):=by simp only[go_sem];try exact rfl) (hp:p:=by simp[go_sem]) (hf:aa σ.hp d=none:=by simp only[go_sem];try exact rfl)
  (hs:([Loc.tm d,Loc.blk d],bN ops o.guard++aS σ o.op.operands.toList)=s1:=by simp only[go_sem];exact rfl) (hz:kR Z ⟨some d,x,[(d,b)],[]⟩:=by simp[go_sem,kR,bK]) (ha:St.put ⟨σ.tm,(d,b)::σ.hp⟩ (some d) x=σ':=by simp only[go_sem];exact rfl)
  (hk:lr P C ops Q k Z (acc++[s1]) l σ'):lr P C ops Q k Z acc (o::l) σ:=by
 refine oB (p:=⟨some d,x,[(d,b)],bN ops o.guard++aS σ o.op.operands.toList⟩) ?_ (λc hc _=>by rw[List.mem_singleton.1 hc];exact hf) hz (by rw[←hs];rfl) (by rw[←ha];rfl) hk;intro s hagree hfree a w K Q' hr hK;have hg':guardOf ops s o.guard=some true:=by rw[gL (λx hx=>hagree x (W2 _ hx))];exact hg
 obtain ⟨μ,S,hi⟩:=hr;rw[bk hi hg'];refine .inl ?_;have hn:lV T s d o.op=some (p,b,x):=by rw[pV (λx hx=>hagree x (Ww _ hx))];exact h
 have hfd:aa s.hp d=none:=by
  by_cases h:Loc.blk d∈bN ops o.guard++aS σ o.op.operands.toList
  ·exact Eq.trans (show aa s.hp d=aa σ.hp d from hagree _ h) hf
  ·exact hfree (d,b) y7 h
 exact pW hT hd hn hp hfd a w K Q' ⟨μ,S,hi⟩ hK
theorem zB (hT:TabOK P T) {ops:Array Oper} {Q:Exit->Go.Act->World->Prop} {k:Nat} {Z:List (Nat×List Nat)} {acc:du} {o:Oper} {l:List Oper} {t:TypeId} {parts:Array (Nat×Operand)} {p:Prop} {x:AV} {s1:List Loc×List Loc}
  (ho:o.op=.build t parts:=by rfl) (hg:guardOf ops σ o.guard=some true:=by simp only[go_sem];try exact rfl) (h:fm T σ t parts.toList=some (p,x):=by simp only[go_sem];try exact rfl) (hp:p:=by simp[go_sem])
  (hs:((Sp.mk o.dst x [] (bN ops o.guard++aS σ (parts.toList.map (·.2)))).wr,bN ops o.guard++aS σ (parts.toList.map (·.2)))=s1:=by simp only[go_sem];exact rfl) (hz:kR Z ⟨o.dst,x,[],[]⟩:=by simp[go_sem,kR])
  (ha:σ.put o.dst x=σ':=by simp only[go_sem];exact rfl) (hk:lr P C ops Q k Z (acc++[s1]) l σ'):lr P C ops Q k Z acc (o::l) σ:=by
 refine oB (gP (x:=x) (rd:=aS σ (parts.toList.map (·.2))) hg (.inl rfl) (λ_ s hag=>?_)) (λb hb _=>by cases hb) hz (by rw[←hs]) Q3 hk;have hb2:fm T s t parts.toList=some (p,x):=by
  rw[←h];unfold fm;rw[kM (λq hq=>cC λz hz=>hag z (dx (Wq.2 ⟨q,hq,rfl⟩) z hz))]
 refine bY hT o (p:=p) ?_ hp;rw[ho];simp only[ef,hb2,Option.map_some]
theorem Be {Z:List (Nat×List Nat)} (h:∀z,z∈Z->z.1∉aC σ.tm/\∀q,q∈σ.hp->bK z.1 q.2):Safe Z σ:=λz hz=>by
 obtain ⟨h1,h2⟩:=h z hz;refine ⟨λt _ hi=>?_,λb B hb _=>h2 (b,B) (bf hb)⟩;rw[Wi] at hi;cases e:σ.tm[t]? with
 | none=>rw[e] at hi;simp[refs] at hi
 | some x=>rw[e] at hi;exact h1 (a_ e hi)
def dI:List (Nat×Blk)->List (Nat×Blk)
 | []=>[]
 | (i,b)::r=>(i,b)::(dI r).filter λq=>!(q.1==i)
theorem lN (i id:Nat):∀h:List (Nat×Blk),i≠id->aa (h.filter λq=>!(q.1==i)) id=aa h id
 | [],_=>rfl
 | (j,b)::r,hne=>by
  rw[List.filter_cons]
  by_cases e:j=i
  ·subst e;rw[if_neg y7,lN j id r hne];simp only[aa];rw[if_neg hne]
  ·rw[if_pos (by simpa using e)];simp only[aa];rw[lN i id r hne]
theorem dJ (id:Nat):∀h:List (Nat×Blk),aa (dI h) id=aa h id
 | []=>rfl
 | (i,b)::r=>by
  simp only[dI,aa]
  by_cases e:i=id
  ·rw[if_pos e,if_pos e]
  ·rw[if_neg e,if_neg e,lN i id _ e,dJ id r]
theorem tH:∀(h:List (Nat×Blk)) (q:Nat×Blk),q∈dI h->aa h q.1=some q.2
 | [],q,hq=>by cases hq
 | (i,b)::r,q,hq=>by
  simp only[dI] at hq;simp only[aa]
  rcases List.mem_cons.1 hq with rfl | hq
  ·rw[if_pos rfl]
  ·obtain ⟨h1,h2⟩:=Wy.1 hq;have:q.1≠i:=by simpa using h2
   rw[if_neg (λe=>this e.symm)];exact tH r q h1
theorem tX {id:Nat}:∀{h:List (Nat×Blk)},(∀q,q∈h->q.1≠id->bK id q.2)->ea id h
 | [],_=>trivial
 | (i,b)::_,h=>⟨λhne=>h (i,b) List.mem_cons_self hne,tX λq hq=>h q (List.mem_cons_of_mem _ hq)⟩
def efA (d src id e S len:Nat) (rows:List (List AV)) (rd:List Loc):Ef:=
 ⟨[.tm d,.tm src,.blk d,.blk id],rd,λs=>⟨(s.tm.set src .any).set d (.osl d S 0 len),(d,.cells e S rows)::aQ s.hp id (.cells e S [])⟩⟩
theorem H8 (d src id e S len:Nat) (rows:List (List AV)) (rd:List Loc):EfOK (efA d src id e S len rows rd):=by
 refine ⟨λs=>by simp[efA],λs x hx=>?_,λs s' hl x hx=>?_⟩
 ·cases x with
  | tm t=>
   show ((s.tm.set src .any).set d _).getD t .any=s.tm.getD t .any
   rw[cf,cf,if_neg,if_neg]
   ·rintro rfl;exact hx WR
   ·rintro rfl;exact hx WR
  | blk b=>
   show aa ((d,_)::aQ s.hp id _) b=aa s.hp b
   simp only[aa];rw[if_neg,an,if_neg]
   ·rintro rfl;exact hx WR
   ·rintro rfl;exact hx WR
 ·cases x with
  | tm t=>
   show ((s'.tm.set src .any).set d _).getD t .any=((s.tm.set src .any).set d _).getD t .any
   rw[cf,cf,cf,cf,YL,YL,hl];have hx:t=d\/t=src:=by simpa[efA] using hx
   rcases hx with rfl | rfl
   ·rw[if_pos rfl,if_pos rfl]
   ·split
    ·rfl
    ·rw[if_pos rfl,if_pos rfl]
  | blk b=>
   show aa ((d,_)::aQ s'.hp id _) b=aa ((d,_)::aQ s.hp id _) b
   have hx:b=d\/b=id:=by simpa[efA] using hx
   simp only[aa];split
   ·rfl
   ·rename_i hne
    rcases hx with rfl | rfl
    ·exact absurd rfl hne
    ·rw[an,an,if_pos rfl,if_pos rfl]
theorem zA (hT:TabOK P T) {ops:Array Oper} {Q:Exit->Go.Act->World->Prop} {k:Nat} {Z:List (Nat×List Nat)} {acc:du} {o:Oper} {l:List Oper} {src:Nat} {y:Operand} {t e:TypeId} {d id S len:Nat} {R rows:List (List AV)} {q:Prop} {v:AV} {s1:List Loc×List Loc} {n:Nat} {rows':List (List AV)}
  (ho:o.op=.call { callee:=.builtin .append,args:=#[.tmp src,y],argTypes:=#[t,t] }:=by rfl) (hd:o.dst=some d:=by rfl) (hg:o.guard=none:=by rfl) (ht:T.und t=.sl e:=by rfl)
  (hx:evS σ (.tmp src)=(True,.osl id S 0 len):=by simp only[go_sem];try exact rfl) (hb:aa σ.hp id=some (.cells e S R):=by simp only[go_sem];try exact rfl) (hy:evS σ y=(q,v):=by simp only[go_sem];try exact rfl) (hq:q:=by trivial) (hv:dP σ v=some rows:=by simp only[go_sem];try exact rfl)
  (hS:T.siz e=S:=by rfl) (h0:S≠0:=by decide) (h1:T.byt e≠0:=by decide) (h2:rowsOf S rows) (h3:∀i s off ln,v=.osl i s off ln->rows.length=ln:=by simp[go_sem]) (h4:fj rows=true:=by simp[go_sem]) (h5:(2*(len+rows.length)+768)*T.byt e≤281474976710656)
  (h6:qi v≠some id:=by simp[go_sem]) (h7:len≤R.length) (h8:bK id (.cells e S (R.take len++rows))) (h9:aa σ.hp d=none:=by simp only[go_sem];try exact rfl) (h10:d≠id:=by decide) (h11:(id,[src])∈Z:=by simp)
  (hs:([Loc.tm d,Loc.tm src,Loc.blk d,Loc.blk id],aS σ [.tmp src,y]++(match qi v with | some i=>[Loc.blk i] | none=>[]))=s1:=by simp only[go_sem];exact rfl)
  (hzz:∀z,z∈Z->z.1≠d/\bK z.1 (.cells e S (R.take len++rows))\/(z.1=d/\d∈z.2)) (hn:len+rows.length=n) (hr:R.take len++rows=rows')
  (ha:(⟨(σ.tm.set src .any).set d (.osl d S 0 n),(d,.cells e S rows')::aQ σ.hp id (.cells e S [])⟩:St)=σ':=by simp only[go_sem];exact rfl)
  (hk:lr P C ops Q k Z (acc++[s1]) l σ'):lr P C ops Q k Z acc (o::l) σ:=by
 subst hs ha hn hr hS;have hA:=H8 d src id e (T.siz e) (len+rows.length) (R.take len++rows) (aS σ [.tmp src,y]++(match qi v with | some i=>[Loc.blk i] | none=>[]));generalize hrd:(aS σ [.tmp src,y]++(match qi v with | some i=>[Loc.blk i] | none=>[]))=rd at hk hA;refine yr (e:=efA d src id e (T.siz e) (len+rows.length) (R.take len++rows) rd) hA ?_ ?_ hk
 ·intro s hlen hag hsafe a w K Q' hrel hK;have hrel':Rel C ⟨s.tm,dI s.hp⟩ a w:=iR (s:=s) (s':=⟨s.tm,dI s.hp⟩) rfl (λ_=>rfl) (λi=>(dJ i s.hp).symm) a w hrel;obtain ⟨μ,S0,hi⟩:=hrel';rw[bk hi (show guardOf ops ⟨s.tm,dI s.hp⟩ o.guard=some true from by rw[hg];rfl)];refine .inl ?_;have hx':evS ⟨s.tm,dI s.hp⟩ (.tmp src)=(True,.osl id (T.siz e) 0 len):=by
   rw[←hx];refine cC λz hz=>?_
   have hz':=hag z (.inl (hrd▸W2 _ (dx (List.mem_cons_self ..) z hz)));cases z with
   | tm t=>exact hz'
   | blk b=>exact (dJ b s.hp).trans hz'
  have hy':evS ⟨s.tm,dI s.hp⟩ y=(q,v):=by
   rw[←hy];refine cC λz hz=>?_
   have hz':=hag z (.inl (hrd▸W2 _ (dx (List.mem_cons_of_mem _ (List.mem_singleton.2 rfl)) z hz)));cases z with
   | tm t=>exact hz'
   | blk b=>exact (dJ b s.hp).trans hz'
  have hbb:aa (dI s.hp) id=some (.cells e (T.siz e) R):=by
   rw[dJ,←hb];exact hag (.blk id) (.inr WR)
  have hdn:aa (dI s.hp) d=none:=by
   rw[dJ,←h9];exact hag (.blk d) (.inr WR)
  have hsr:dP ⟨s.tm,dI s.hp⟩ v=some rows:=by
   rw[←hv];cases v with
   | osl i s' off ln=>
    have:=hag (.blk i) (.inl (hrd▸Ww _ (by simp[qi])));simp only[dP,dJ];rw[show aa s.hp i=aa σ.hp i from this]
   | _=>rfl
  have hfree:ea id (dI s.hp):=tX λz hz hne=>(hsafe _ h11).2 z.1 z.2 (tH s.hp z hz) hne
  have hstep:ef T ⟨s.tm,dI s.hp⟩ o.dst o.op=some (True/\q/\(T.siz e≠0/\T.byt e≠0/\rowsOf (T.siz e) rows/\(∀i s off ln,v=.osl i s off ln->rows.length=ln)/\fj rows=true/\(2*(len+rows.length)+768)*T.byt e≤281474976710656 /\
     (d=id\/aa (dI s.hp) d=none)/\qi v≠some id/\len≤R.length/\ea id (dI s.hp)/\bK id (.cells e (T.siz e) (R.take len++rows))),
    (⟨s.tm.map (kill id),(d,.cells e (T.siz e) (R.take len++rows))::fZ (dI s.hp) id⟩:St).put (some d) (.osl d (T.siz e) 0 (len+rows.length))):=by
   rw[ho,hd];simp only[ef,hx',hy',if_true,fc,ht,hsr,hbb,and_self,Option.map_some]
  refine bY hT o hstep ⟨trivial,hq,h0,h1,h2,h3,h4,h5,.inr hdn,h6,h7,hfree,h8⟩ a w K Q' ⟨μ,S0,hi⟩ λa' w' hr'=>hK a' w' ?_
  obtain ⟨μ',S',hi'⟩:=hr';have hidn:aa ((⟨s.tm.map (kill id),(d,.cells e (T.siz e) (R.take len++rows))::fZ (dI s.hp) id⟩:St).put (some d) (.osl d (T.siz e) 0 (len+rows.length))).hp id=none:=by
   rw[St.fR];simp only[aa];rw[if_neg h10,bA,if_pos rfl]
  refine ⟨μ',S',by rw[hi'.size];simp[efA,St.put],hi'.defers,λj z hz=>?_,λj B hB=>?_,λj g hj=>?_,hi'.inj,hi'.frm,hi'.sb⟩
  ·replace hz:((s.tm.set src .any).set d (.osl d (T.siz e) 0 (len+rows.length)))[j]? = some z:=hz
   rw[YA] at hz
   by_cases e1:d=j
   ·subst e1;rw[if_pos rfl] at hz;refine hi'.tm d z ?_
    show ((s.tm.map (kill id)).set d _)[d]? = some z
    rw[YA,if_pos rfl];simpa using hz
   ·rw[if_neg e1,YA] at hz
    by_cases e2:src=j
    ·subst e2;rw[if_pos rfl] at hz;split at hz
     ·injection hz with hz;subst hz;exact .any _
     ·cases hz
    ·rw[if_neg e2] at hz;refine hi'.tm j z ?_
     show ((s.tm.map (kill id)).set d _)[j]? = some z
     rw[YA,if_neg e1,Wm,hz];have hnr:=(hsafe _ h11).1 j (by simpa using λh=>e2 h.symm);rw[Wi,hz] at hnr;simp only[Option.map_some,kill];rw[if_neg (by simpa using hnr)]
  ·replace hB:aa ((d,.cells e (T.siz e) (R.take len++rows))::aQ s.hp id (.cells e (T.siz e) [])) j=some B:=hB
   simp only[aa] at hB;split at hB
   ·rename_i e1;refine hi'.hp j B ?_;rw[St.fR];simp only[aa];rw[if_pos e1];exact hB
   ·rename_i e1;rw[an] at hB;split at hB
    ·rename_i e2;subst e2;injection hB with hB
     subst hB;exact .inl ⟨rfl,hi'.fresh hidn⟩
    ·rename_i e2;refine hi'.hp j B ?_;rw[St.fR];simp only[aa];rw[if_neg e1,bA,if_neg e2,dJ];exact hB
  ·obtain ⟨⟨B,hB⟩,h12⟩:=hi'.dom j g hj;refine ⟨?_,h12⟩
   show ∃b,aa ((d,.cells e (T.siz e) (R.take len++rows))::aQ s.hp id (.cells e (T.siz e) [])) j=some b
   rw[St.fR] at hB;simp only[aa] at hB ⊢;split
   ·exact ⟨_,rfl⟩
   ·rename_i e1;rw[if_neg e1,bA] at hB;rw[an];split
    ·exact ⟨_,rfl⟩
    ·rename_i e2;rw[if_neg e2,dJ] at hB;exact ⟨B,hB⟩
 ·intro h0' z hz;refine ⟨λj hj=>?_,λb B hB hne=>?_⟩
  ·show z.1∉refs (((σ.tm.set src .any).set d _).getD j .any)
   rw[cf,cf];split
   ·rename_i e1;subst e1;split
    ·rcases hzz z hz with ⟨h12,_⟩ | ⟨h12,h13⟩
     ·simpa[refs] using h12
     ·exact absurd h13 hj
    ·simp[refs]
   ·split
    ·simp[refs]
    ·exact (h0' z hz).1 j hj
  ·replace hB:aa ((d,.cells e (T.siz e) (R.take len++rows))::aQ σ.hp id (.cells e (T.siz e) [])) b=some B:=hB
   simp only[aa] at hB;split at hB
   ·rename_i e1;injection hB with hB
    subst hB
    rcases hzz z hz with ⟨_,h12⟩ | ⟨h12,_⟩
    ·exact h12
    ·exact absurd (e1.symm.trans h12.symm) hne
   ·rw[an] at hB;split at hB
    ·injection hB with hB
     subst hB;simp[bK]
    ·exact (h0' z hz).2 b B hB hne
end
end Go.Eng
namespace Go.Eng
section
variable {P:Program} {T:Tab} {C:Ctx} {σ σ':St} {a:Act} {w:World} {Ret:St->Prop} {k:List It}
def gx:List (List AV)->List (List AV)->Prop
 | [],[]=>True
 | r::l,s::m=>pj r s/\gx l m
 | _,_=>False
theorem pT:∀{l m:List (List AV)},gx l m->l.length=m.length/\∀(t:Nat) y,m[t]? = some y->∃x,l[t]? = some x/\pj x y
 | [],[],_=>⟨rfl,λt y h=>by simp at h⟩
 | x::l,y::m,h=>by
  obtain ⟨h1,h2⟩:=pT h.2;refine ⟨by simp[h1],λt z hz=>?_⟩;cases t with
  | zero=>
   simp only[List.getElem?_cons_zero,Option.some.injEq] at hz;subst hz;exact ⟨x,rfl,h.1⟩
  | succ t=>simpa using h2 t z Q4
 | [],_::_,h=>h.elim
 | _::_,[],h=>h.elim
theorem kB (id:Nat) (rows':List (List AV)) {e s:Nat} {rows:List (List AV)} (hb:aa σ.hp id=some (.cells e s rows)) (hr:gx rows rows'):Le C σ ⟨σ.tm,aQ σ.hp id (.cells e s rows')⟩:=by
 obtain ⟨hl,hg⟩:=pT hr;rintro a w ⟨μ,S,hi⟩;refine ⟨μ,S,hi.size,hi.defers,hi.tm,λi b hb'=>?_,λi q hq=>?_,hi.inj,hi.frm,hi.sb⟩
 ·simp only[an] at hb';split at hb'
  ·rename_i h1;injection hb' with hb'
   subst h1 hb'
   rcases hi.hp id _ hb with ⟨rfl,k2⟩ | ⟨g,c,k1,k2,k3,k4,k5⟩
   ·exact .inl ⟨List.length_eq_zero_iff.1 hl.symm,k2⟩
   ·refine .inr ⟨g,c,k1,k2,by rw[←hl];exact k3,λrow hrow=>?_,λi row hi' q x hx=>?_⟩
    ·obtain ⟨i,hi'⟩:=Wu hrow;obtain ⟨r0,h0,h1⟩:=hg i row hi';rw[←(nV h1).1];exact k4 r0 (Wn h0)
    ·obtain ⟨r0,h0,h1⟩:=hg i row hi';obtain ⟨y,hy,hw⟩:=(nV h1).2 q x hx;exact (k5 i r0 h0 q y hy).wk hw
  ·exact hi.hp i b hb'
 ·obtain ⟨⟨b,h1⟩,h2⟩:=hi.dom i q hq;refine ⟨?_,h2⟩;simp only[an];split
  ·exact ⟨_,rfl⟩
  ·exact ⟨b,h1⟩
theorem zr (p q c:Nat) {e s e2 s2:Nat} {rows rows2 rows3:List (List AV)} {H1 H2:List (Nat×Blk)} {l':List AV} (hb:aa σ.hp p=some (.cells e s rows)) (hq:aa σ.hp q=none) (hr:aB (.cells e s rows)=[])
  (hcb:aa σ.hp c=some (.cells e2 s2 rows2)) (hH1:fZ σ.hp p=H1) (hH:fZ H1 c=H2) (hcp:(c==p)=false) (hf:(H2.all λx=>!(aB x.2).contains p)=true) (hr3:rows2.map (λrow=>row.map (mv1 p q))=rows3) (ht:σ.tm.map (mv1 p q)=l') :
  Le C σ ⟨l',(q,.cells e s rows)::(c,.cells e2 s2 rows3)::H2⟩:=by
 subst hH hH1 ht hr3;intro a w ⟨μ,S,hi⟩;have hcp:c≠p:=by simpa using hcp
 have hne:p≠q:=λh=>by subst h;rw[hb] at hq;cases hq
 have hcq:c≠q:=λh=>by subst h;rw[hcb] at hq;cases hq
 have hmq:μ q=none:=by
  cases h:μ q with
  | none=>rfl
  | some g=>obtain ⟨⟨b,h1⟩,_⟩:=hi.dom q g h;rw[hq] at h1;cases h1
 let ν:Nat->Option Nat:=λi=>if i=q then μ p else if i=p then none else μ i
 have hνq:ν q=μ p:=by simp[ν]
 have hν:∀i,i≠p->i≠q->ν i=μ i:=λi h1 h2=>by simp[ν,h1,h2]
 have hm:∀i,i≠p->∀g,μ i=some g->ν i=some g:=λi h g hg=>by
  rw[hν i h (λe=>by subst e;rw[hmq] at hg;cases hg)];exact hg
 have hv:∀i g,ν i=some g->(i=q/\μ p=some g)\/(i≠p/\i≠q/\μ i=some g):=λi g h=>by
  simp only[ν] at h;split at h
  ·exact .inl ⟨by assumption,h⟩
  ·split at h
   ·cases h
   ·exact .inr ⟨by assumption,by assumption,h⟩
 have hkill:∀{v:Value} {y:AV},Rd μ S w v y->Rd ν S w v (kill p y):=fun {v y} h=>by
  unfold kill;split
  ·exact .any v
  ·rename_i hc;exact h.less λid hid g hg=>hm id (λe=>by subst e;exact hc (by simpa using hid)) g hg
 have hmv:∀{v:Value} {y:AV},Rd μ S w v y->Rd ν S w v (mv1 p q y):=fun {v y} h=>by
  cases y with
  | osl id s' o n=>
   simp only[mv1];split
   ·rename_i e;subst e;obtain ⟨A,cap,e1,hc,hor⟩:=h.bL;rw[e1];refine .osl q s' o n cap A hc ?_
    rcases hor with h | ⟨g,e2,m,k1,k2,k3,k4⟩
    ·exact .inl h
    ·exact .inr ⟨g,e2,m,hνq.trans k1,k2,k3,k4⟩
   ·rename_i e;exact h.less λi hid g hg=>hm i (λe'=>by simp only[refs,List.mem_singleton] at hid;exact e (hid.symm.trans e')) g hg
  | ptr id s' r o=>
   simp only[mv1];split
   ·rename_i e;subst e;obtain ⟨g,k1,e1⟩:=h.ig;rw[e1];exact .ptr q s' r o g (hνq.trans k1)
   ·rename_i e;exact h.less λi hid g hg=>hm i (λe'=>by simp only[refs,List.mem_singleton] at hid;exact e (hid.symm.trans e')) g hg
  | _=>exact hkill h
 refine ⟨ν,S,by simpa using hi.size,hi.defers,λt x hx=>?_,λid b hb'=>?_,λid g hg=>?_,λi j g h1 h2=>?_,hi.frm,hi.sb⟩
 ·simp only[Wm] at hx;obtain ⟨y,hy,rfl⟩:=W7.1 hx;exact hmv (hi.tm t y hy)
 ·simp only[aa] at hb';split at hb'
  ·rename_i e';injection hb' with hb'
   subst e' hb';have hk:=hi.hp p _ hb
   rcases hk with ⟨k1,k2⟩ | ⟨g,c,k1,k2,k3,k4,k5⟩
   ·exact .inl ⟨k1,hνq.trans k2⟩
   ·refine .inr ⟨g,c,hνq.trans k1,k2,k3,k4,λi row hi' j x hx=>(k5 i row hi' j x hx).less λid hid g' hg'=>?_⟩;have:id∈aB (.cells e s rows):=List.mem_flatMap.2 ⟨row,Wn hi',a_ hx hid⟩;rw[hr] at this;cases this
  ·rename_i hq';split at hb'
   ·rename_i e';injection hb' with hb'
    subst e' hb'
    rcases hi.hp c _ hcb with ⟨k1,k2⟩ | ⟨g,cp,k1,k2,k3,k4,k5⟩
    ·exact .inl ⟨by rw[k1];rfl,(hν c hcp hcq).trans k2⟩
    ·refine .inr ⟨g,cp,(hν c hcp hcq).trans k1,k2,by rw[List.length_map];exact k3,λrow hrow=>?_,λi row hi' j x hx=>?_⟩
     ·obtain ⟨r0,h0,rfl⟩:=Wq.1 hrow;rw[List.length_map];exact k4 r0 h0
     ·rw[Wm] at hi';obtain ⟨r0,h0,rfl⟩:=W7.1 hi';rw[Wm] at hx;obtain ⟨y,hy,rfl⟩:=W7.1 hx;exact hmv (k5 i r0 h0 j y hy)
   ·rename_i hc';have hb2:=hb';rw[bA,bA] at hb';split at hb'
    ·cases hb'
    ·split at hb'
     ·cases hb'
     ·rename_i hp';refine (hi.hp id b hb').less (hν id (λe=>hp' e.symm) (λe=>hq' e.symm)) λi hid g hg=>hm i (λe=>?_) g hg
      subst e;have:=List.all_eq_true.1 hf _ (bf hb2);simp at this;exact this hid
 ·rcases hv id g hg with ⟨rfl,h⟩ | ⟨h1,h2,h⟩
  ·exact ⟨⟨_,by simp only[aa,if_true];rfl⟩,(hi.dom p g h).2⟩
  ·obtain ⟨⟨b,hb1⟩,h3⟩:=hi.dom id g h;refine ⟨?_,h3⟩;simp only[aa,if_neg (λe:q=id=>h2 e.symm),bA];split
   ·exact ⟨_,rfl⟩
   ·rw[if_neg (λe:p=id=>h1 e.symm)];exact ⟨b,hb1⟩
 ·rcases hv i g h1 with ⟨rfl,k⟩ | ⟨k1,k2,k⟩<;>rcases hv j g h2 with ⟨rfl,m⟩ | ⟨m1,m2,m⟩
  ·rfl
  ·exact absurd (hi.inj p j g k m) (λe=>m1 e.symm)
  ·exact absurd (hi.inj i p g k m) k1
  ·exact hi.inj i j g k m
end
end Go.Eng
namespace Go.Eng
section
variable {P:Program} {T:Tab} {C:Ctx} {μ:Nat->Option Nat} {S:Nat->Prop} {σ σ':St} {a:Act} {w:World} {Ret:St->Prop} {k:List It}
theorem Inv.Jh (hi:Inv C μ S σ a w) (o:Obj):Inv C μ (λb=>S b\/b=w.heap.size) σ a (w.alloc o):=by
 have hw:aK S w (w.alloc o):=λb hb=>aZ w o b (hi.sb b hb).1
 have hz:∀i g,μ i=some g->ah (w.alloc o) g=ah w g:=λi g h=>aO (aZ w o g (hi.dom i g h).2.2.2)
 refine ⟨hi.size,hi.defers,λt x hx=>(hi.tm t x hx).mono hw (λ_ h=>.inl h) (λ_ _ h=>h) hz,λi c hc=>(hi.hp i c hc).mono hw (λ_ h=>.inl h) (λ_ _ h=>h) hz (λh=>h) (λg h=>aZ w o g (hi.dom i g h).2.2.2),λi g hg=>?_,hi.inj,?_,λb hb=>?_⟩
 ·obtain ⟨h1,h2,h3,h4⟩:=hi.dom i g hg;exact ⟨h1,h2,λh=>h.elim h3 (λe=>by omega),by simp;omega⟩
 ·exact ⟨hi.frm.os,hi.frm.tape,hi.frm.output,by simp;have:=hi.frm.size;omega,λb hb hA=>by
   rw[aZ w o b (YN hb hi.frm.size)];exact hi.frm.block b hb hA⟩
 ·rcases hb with hb | rfl
  ·exact ⟨by simp;have:=(hi.sb b hb).1;omega,(hi.sb b hb).2⟩
  ·exact ⟨by simp,.inr (.inr hi.frm.size)⟩
theorem tC (hT:TabOK P T) {o:Oper} {s t e:TypeId} {x:Operand} (ho:o.op=.convert s t x) (hs:T.und s=.str) (ht:T.und t=.sl e) (he:T.und e=.int .u8) {l:List UInt8} (hx:evS σ x=(True,.str l)) :
  eZ P C o σ (σ.put o.dst (.sl (l.map λb=>[AV.int .u8 (b.toNat:Int)]))):=by
 intro a w K Q ⟨μ,S,hi⟩ hK;have hv:=hi.evS x s6;rw[hx] at hv;obtain ⟨b,e1,hb⟩:∃b:ByteArray,a.eval x=.string b/\b.data.toList=l:=by
  generalize a.eval x=v at hv;cases hv with
  | pure h=>cases h with
   | str s l h=>exact ⟨s,rfl,h⟩
 have hts:P.underlying s=some .string:=by have:=hT.und s;rw[hs] at this;exact this
 have hty:P.underlying t=some (.slice e):=by have:=hT.und t;rw[ht] at this;exact this
 have hte:P.underlying e=some (.int .u8):=by have:=hT.und e;rw[he] at this;exact this
 have hrun:=run_bytes_of_string (P:=P) w s t e b hts hty hte;have hex:(execOp a.eval o).run P w=.ok (.value (.slice (some ⟨w.heap.size,0,none⟩) b.size (grownCap w b.size 0 e)))
   (w.drew.alloc (.cells (bytesRow b (grownCap w b.size 0 e)) e ((bytesRow b (grownCap w b.size 0 e)).size,(bytesRow b (grownCap w b.size 0 e)).size+1))):=by
  simp only[execOp,ho,e1,Sem.run_bind,hrun];rfl
 have hsz:b.size=l.length:=by rw[←hb];rfl
 have hin:=hi.drew.Jh (.cells (bytesRow b (grownCap w b.size 0 e)) e ((bytesRow b (grownCap w b.size 0 e)).size,(bytesRow b (grownCap w b.size 0 e)).size+1));unfold Oper.wp;rw[hex];refine hK _ _ ⟨_,_,hin.put o.dst (.pure ?_)⟩;refine .sl _ _ _ _ 1 w.heap.size 0 (λi j=>.int .u8 ((l.getD i 0).toNat:Int)) (by rw[List.length_map,hsz]) ?_ (λrow hr=>?_) (λ_=>⟨rfl,.inr rfl⟩) (λi j hi' hj=>?_) (λi row hi' j y hy=>?_)
 ·exact grownCap_ge w b.size 0 e
 ·obtain ⟨c,_,rfl⟩:=Wq.1 hr;rfl
 ·have hj0:j=0:=by omega
  subst hj0;have hil:i<b.data.size:=by have:b.size=b.data.size:=rfl;omega
  rw[cell_of (bd w _)];have h1:(0+(i*1+0))=i:=by omega
  rw[h1];unfold bytesRow;rw[YS (by rw[Array.size_map];exact hil),Array.getElem?_map,Ws hil];simp only[Option.map_some];rw[←hb,Wi];simp[Ws hil]
 ·rw[Wm] at hi';cases e3:l[i]? with
  | none=>rw[e3] at hi';cases hi'
  | some c=>
   rw[e3] at hi';simp only[Option.map_some,Option.some.injEq] at hi';subst hi';cases j with
   | zero=>
    simp only[List.getElem?_cons_zero,Option.some.injEq] at hy;subst hy;rw[Wi,e3];exact .int _ _
   | succ j=>simp at hy
theorem F6 (t:Nat):Le C σ ⟨σ.tm.set t .any,σ.hp⟩:=by
 rintro a w ⟨μ,S,hi⟩;refine ⟨μ,S,by rw[YL];exact hi.size,hi.defers,λj z hz=>?_,hi.hp,hi.dom,hi.inj,hi.frm,hi.sb⟩;rw[YA] at hz;split at hz
 ·split at hz
  ·injection hz with hz
   subst hz;exact .any _
  ·cases hz
 ·exact hi.tm j z hz
theorem eU:∀(f:List Nat) {σ:St},Le C σ ⟨kT σ.tm (f.map λt=>(t,.any)),σ.hp⟩
 | [],_=>λ_ _ h=>h
 | t::r,σ=>λa w h=>eU r (σ:=⟨σ.tm.set t .any,σ.hp⟩) a w (F6 t a w h)
theorem IN {M:Int->Int->Int->Prop} {G:Prop} (use:(∀F D T,M F D T)->G) (key:∀F D T,M F D T):G:=use key
theorem IP {M:Bool->Prop} {G:Prop} (use:(∀F,M F)->G) (key:∀F,M F):G:=use key
end
end Go.Eng
namespace Go.Eng
section
variable {P:Program} {T:Tab} {C:Ctx} {σ σ':St} {a:Act} {w:World} {Ret:St->Prop} {k:List It}
def xb (r:Nat) (o:Oper) (ops:Array Oper):Bool:=
 (o.after.all λe=>!Region.binds .any e)&&(List.range ops.size).all λj=>j==r||(match ops[j]? with | some oj=>(oj.after.any λe=>Region.binds .any e&&e.on==r)||o.apart ops oj | none=>true)
theorem je (r:Nat) (p q:List Nat) {ops ops':Array Oper} {Q:Exit->Act->World->Prop} {o:Oper} {x:Operand} (ho:ops[r]? = some o) (hop:o.op=.move x) (hg:o.guard=none)
  (hQ:∀c a w,¬Q (.panic c) a w) (h1:yb r p q ops=true) (h2:xb r o ops=true) (he:(aW r p q ops.toList).toArray=ops') {y:AV} (hx:evS σ x=(True,y))
  (hk:bp P C ops' Q 0 (σ.put o.dst y)):bp P C ops Q 0 σ:=by
 subst he;have hF:=pz h1;have hrl:=hF.rl;have hpl:=hF.pl;intro a w ⟨μ,S,hi⟩;have hv:=hi.evS x s6;rw[hx] at hv;obtain ⟨u,hr,hu⟩:∃u,Rd μ S w u y/\u=a.eval x:=⟨_,hv,rfl⟩;have hrel:Rel C (σ.put o.dst y) (a.put o.dst u) w:=⟨μ,S,hi.put o.dst hr⟩;have hk':=hk _ _ hrel;have hs:(aW r p q ops.toList).toArray.size+1=ops.size:=by simp[aW,hpl]
 obtain ⟨n,hn⟩:∃n,ops.size=n+1:=⟨ops.size-1,by omega⟩;have hsz:(aW r p q ops.toList).toArray.size=n:=by omega
 unfold xb at h2;rw[Bool.and_eq_true] at h2;have hd0:∀(m i:Nat) (d:Bool),(aV m 0).getD i d=if i<m then false else d:=λm i d=>by rw[df];simp
 rw[hn,Nat.sub_zero];refine wpAny_first (v:=u) ho hF.sel (λc a w hc=>absurd hc (hQ c _ _)) n _ a w (λk oj hoj hkr _ hw=>?_) (mem_ready.2 ⟨?_,o,ho,λe he hb=>by have:=Array.all_eq_true'.1 h2.1 e he;rw[hb] at this;cases this⟩) (.inl ⟨by rw[Region.wanted,hg],λw'=>?_⟩) ?_
 ·have:=List.all_eq_true.1 h2.2 k (YK.2 (YC.1 hoj).1);rw[hoj] at this;simp only[Bool.or_eq_true,beq_iff_eq,Array.any_eq_true',Bool.and_eq_true] at this
  rcases this with h | ⟨e,he,hb,hon⟩ | h
  ·exact absurd h hkr
  ·exact absurd hon (hw e he hb)
  ·exact h
 ·rw[←hn,hd0,if_pos hrl]
 ·subst hu;simp[execOp,hop]
 ·rw[hsz,Nat.sub_zero] at hk';refine vK hF n _ _ _ _ WB WB ?_ (λi hi=>?_) hk'
  ·rw[Wk,YV,if_pos rfl,if_pos (by simp[aV];omega)];rfl
  ·have e2:((aV (n+1) 0).setIfInBounds r true).getD i false=(aV (n+1) 0).getD i false:=by
    rw[Wk,YV,if_neg (λe=>hi e.symm),←Wk]
   rw[e2,hd0,hd0];split<;>split<;>rfl
end
end Go.Eng
namespace Go.Eng
variable {P:Program} {C:Ctx} {Ret:St->Prop} {k:List It}
theorem nM {ι:Type} (J:ι->Prop) (f:ι->List (Nat×AV)) (g:ι->List (Nat×Blk)) {x y:Code} {l:List AV} {H:List (Nat×Blk)}
  (h:Cw P C Ret (.code x::.back (λs=>∃j,J j/\Le C s ⟨kT l (f j),cD H (g j)⟩)::k) ⟨l,H⟩)
  (hk:∀j,J j->Cw P C Ret (.code y::k) ⟨kT l (f j),cD H (g j)⟩):Cw P C Ret (.code x::.code y::k) ⟨l,H⟩:=by
 intro a w hr;refine wp_mono (h a w hr) λe a w q=>?_
 cases e with
 | normal=>
  obtain ⟨s,⟨j,hj,hle⟩,hrs⟩:=q;exact hk j hj a w (hle a w hrs)
 | ret=>exact q
 | exit id=>exact q
 | _=>exact q
end Go.Eng
namespace Go.Eng
section
variable {P:Program} {C:Ctx} {σ:St}
theorem As {o:Oper} {c:Operand} {args:Array Operand} {ats:Array TypeId} (ho:o.op=.call { callee:=.value c,args,argTypes:=ats }) {p:Prop} {f:FuncId} {xs:List AV}
  (h:ax σ c args.toList=some (p,f,xs)) (hp:p) (hc:aJ P f) (ids cs:List Nat) {H K:List (Nat×Blk)} {r:AV} (hH:sub (ids++cs) σ.hp=H)
  (hck:((aC xs).all (ids++cs).contains&&(refs r).all ids.contains&&ids.all (λi=>(aa K i).isSome)&&K.all (λq=>ids.contains q.1)&&(ids++cs).all (λi=>decide (i<5000))&&cs.all (λi=>!ids.contains i))=true) (hnd:(K.map (·.1)).Nodup)
  (hpin:(ids.all λi=>match aa H i with | some b=>fi b | none=>false)=true) (hc1:(H.all λq=>(aB q.2).all (ids++cs).contains)=true) (hc2:(K.all λq=>(aB q.2).all ids.contains)=true)
  (hc3:((del (ids++cs) σ.hp).all λq=>(aB q.2).all λi=>!cs.contains i)=true)
  (hf:∀G Y N:Nat->Nat,ae P f xs (H++pins ids G Y N) λr' H'=>r'=r/\∀i b,aa (K++pins ids G Y N) i=some b->aa H' i=some b) {τ:St} (hτ:(⟨σ.tm.map (jQ cs),cD (del cs σ.hp) K⟩:St).put o.dst r=τ):eZ P C o σ τ:=by
 subst hH hτ;simp only[Bool.and_eq_true] at hck;obtain ⟨⟨⟨⟨⟨hx,hr⟩,hi1⟩,hK1⟩,h5⟩,hdj⟩:=hck;have hin:∀i,ids.contains i=true->(ids++cs).contains i=true:=λi h=>by simp only[List.contains_iff_mem,List.mem_append] at h ⊢;exact .inl h
 have hinc:∀i,cs.contains i=true->(ids++cs).contains i=true:=λi h=>by simp only[List.contains_iff_mem,List.mem_append] at h ⊢;exact .inr h
 have hal:∀i,(ids++cs).contains i=true->i<5000:=λi h=>by
  have:=List.all_eq_true.1 h5 i v8;simpa using this
 have hsep:∀i,cs.contains i=true->ids.contains i=false:=λi h=>by
  have:=List.all_eq_true.1 hdj i v8;simpa using this
 have hor:∀i,(ids++cs).contains i=true->cs.contains i=false->ids.contains i=true:=λi h hn=>by
  simp only[List.contains_iff_mem,List.mem_append] at h ⊢
  rcases h with h | h
  ·exact h
  ·have:cs.contains i=true:=by simpa using h
   rw[hn] at this;cases this
 have hxr:∀i,i∈aC xs->(ids++cs).contains i=true:=λi h=>List.all_eq_true.1 hx i h
 have hrr:∀i,i∈refs r->ids.contains i=true:=λi h=>List.all_eq_true.1 hr i h
 have hid:∀i,ids.contains i=true->∃b,aa K i=some b:=λi h=>YR.1 (List.all_eq_true.1 hi1 i v8)
 have hKi:∀i b,aa K i=some b->ids.contains i=true:=λi b h=>List.all_eq_true.1 hK1 _ (bf h)
 intro a w Kp Q ⟨μ,S,hi⟩ hKp;obtain ⟨vs,h1,h2,h3⟩:=jJ hi ho h hp hc;unfold Oper.wp;rw[h3];have hpn:∀i,∃g t n,ids.contains i=true->μ i=some g/\ah w g=tr t n:=λi=>by
  by_cases e:ids.contains i=true
  ·have:=List.all_eq_true.1 hpin i (by simpa using e);cases e2:aa (sub (ids++cs) σ.hp) i with
   | none=>rw[e2] at this;cases this
   | some b=>
    rw[e2] at this;have e3:aa σ.hp i=some b:=by
     rw[dc,if_pos (hin i e)] at e2;exact e2
    obtain ⟨g,t,n,k1,k2⟩:=DZ (hi.hp i b e3) this;exact ⟨g,t,n,λ_=>⟨k1,k2⟩⟩
  ·exact ⟨0,0,0,λh=>absurd h e⟩
 let G:Nat->Nat:=λi=>Classical.choose (hpn i)
 let Y:Nat->Nat:=λi=>Classical.choose (YP (hpn i))
 let N:Nat->Nat:=λi=>Classical.choose (YP (YP (hpn i)))
 have hg:∀i,ids.contains i=true->μ i=some (G i)/\ah w (G i)=tr (Y i) (N i):=λi=>YP (YP (YP (hpn i)))
 let μc:Nat->Option Nat:=λi=>if (ids++cs).contains i then μ i else none
 have mc:∀{i g},μc i=some g->(ids++cs).contains i=true/\μ i=some g:=fun {i g} h=>by
  simp only[μc] at h;split at h
  ·exact ⟨by assumption,h⟩
  ·cases h
 have mc':∀{i},(ids++cs).contains i=true->μc i=μ i:=fun {i} h=>by simp only[μc,h,if_true]
 have mcn:∀{i},(ids++cs).contains i=false->μc i=none:=fun {i} h=>by simp only[μc,h,Bool.false_eq_true,if_false]
 have hsubk:∀i b,aa (sub (ids++cs) σ.hp) i=some b->(ids++cs).contains i=true/\aa σ.hp i=some b:=λi b h=>by
  rw[dc] at h;split at h
  ·exact ⟨by assumption,h⟩
  ·cases h
 refine (hf G Y N S μc w vs h1 (λj x hj=>(h2 j x hj).less λid hid g hg=>by rw[mc' (hxr id (a_ hj hid))];exact hg) ⟨λid b hb=>?_,λid g hg'=>?_,λid id' g hg hg'=>hi.inj id id' g (mc hg).2 (mc hg').2,hi.gok.sub λi g h=>⟨i,(mc h).2⟩⟩ (λb hb=>(hi.sb b hb).1)).mono ?_
 ·rw[aF] at hb;split at hb
  ·obtain ⟨q1,q2⟩:=hsubk id b hb;have hall:=List.all_eq_true.1 hc1 _ (bf hb);exact (hi.hp id b q2).less (mc' q1) (λi hi' g hg=>by rw[mc' (List.all_eq_true.1 hall i hi')];exact hg)
  ·rw[jO] at hb;split at hb
   ·rename_i hc5;injection hb with hb
    subst hb;have hno:(ids++cs).contains id=false:=by
     cases e:(ids++cs).contains id with
     | false=>rfl
     | true=>have:=hal id e;omega
    exact ⟨mcn hno,by rw[mc' (hin _ hc5.2)];exact (hg _ hc5.2).1,(hg _ hc5.2).2⟩
   ·cases hb
 ·obtain ⟨k1,k2⟩:=mc hg';obtain ⟨⟨b,j1⟩,_,j3⟩:=hi.dom id g k2;refine ⟨⟨b,?_⟩,j3⟩;rw[aF,if_pos ⟨(id,b),bf (by rw[dc,if_pos k1];exact j1),rfl⟩,dc,if_pos k1];exact j1
 rintro e w' ⟨v,r',H',μ',S',rfl,⟨rfl,hKH⟩,k1,k2,k3,k4,k5⟩;have hKget:∀i b,aa K i=some b->aa H' i=some b:=λi b hb=>hKH i b (by
  rw[aF,if_pos ⟨(i,b),bf hb,rfl⟩];exact hb)
 have hPget:∀i,ids.contains i=true->aa H' (5000+i)=some (.pin i (G i) (Y i) (N i)):=λi hi'=>hKH _ _ (by
  rw[aF,if_neg (by
   rintro ⟨b,hb,hb2⟩;have:ids.contains b.1=true:=List.all_eq_true.1 hK1 b hb;have:=hal _ (hin _ this);omega),jO,if_pos ⟨by omega,by rw[Ye];exact hi'⟩,Ye])
 have hpin':∀i,ids.contains i=true->μ' i=some (G i)/\ah w' (G i)=tr (Y i) (N i):=λi hi'=>(k2.blk _ _ (hPget i hi')).2
 have hfr:Frm (λg=>∃id,μc id=some g) w w':=k3;have hS:aK S w w':=λb hb=>hfr.block b (hi.sb b hb).1 Qc
 have hO:∀i g,μ i=some g->(ids++cs).contains i=false->w'.heap[g]? = w.heap[g]?:=λi g hg hn=>hfr.block g (hi.dom i g hg).2.2.2 (by
  rintro ⟨id,h⟩;obtain ⟨q1,q2⟩:=mc h;have:=hi.inj _ _ _ hg q2;subst this;rw[q1] at hn;cases hn)
 let μ2:Nat->Option Nat:=λi=>if cs.contains i then none else μ i
 have m2:∀{i g},μ2 i=some g->cs.contains i=false/\μ i=some g:=fun {i g} h=>by
  simp only[μ2] at h;split at h
  ·cases h
  ·exact ⟨by simpa using (by assumption:¬cs.contains i=true),h⟩
 have m2':∀{i},cs.contains i=false->μ2 i=μ i:=fun {i} h=>by simp only[μ2,h,Bool.false_eq_true,if_false]
 have hz:∀i g,μ2 i=some g->ah w' g=ah w g:=λi g hg'=>by
  obtain ⟨hn,hg'⟩:=m2 hg';cases e:ids.contains i with
  | false=>
   refine aO (hO i g hg' ?_);cases e2:(ids++cs).contains i with
   | false=>rfl
   | true=>rw[hor i e2 hn] at e;cases e
  | true=>
   obtain ⟨q1,q2⟩:=hg i e;rw[hg'] at q1;injection q1 with q1
   rw[q1,(hpin' i e).2,q2]
 let S2:Nat->Prop:=λb=>S b\/S' b
 have hrd:∀{v x},Rd μ S w v x->(∀i,i∈refs x->cs.contains i=false)->Rd μ2 S2 w' v x:=fun {v x} hv hn=>
  (show Rd μ2 S w v x from hv.less (λi hi g hg=>by rw[m2' (hn i hi)];exact hg)).mono hS (λ_ h=>.inl h) (λ_ _ h=>h) hz
 have inv:Inv C μ2 S2 ⟨σ.tm.map (jQ cs),cD (del cs σ.hp) K⟩ a w':=by
  refine ⟨by simp[hi.size],hi.defers,λt x hx=>?_,λi b hb=>?_,λi g hg'=>?_,λi j g hg hg'=>hi.inj i j g (m2 hg).2 (m2 hg').2,hi.frm.step _ hfr (λg ⟨id,h⟩=>(hi.dom id g (mc h).2).2.1),λb hb=>?_⟩
  ·simp only[Wm] at hx;cases e:σ.tm[t]? with
   | none=>rw[e] at hx;cases hx
   | some y=>
    rw[e] at hx;simp only[Option.map_some,Option.some.injEq] at hx;subst hx;unfold jQ;split
    ·exact .any _
    ·rename_i q;refine hrd (hi.tm t y e) (λi hi'=>?_);simp only[List.any_eq_true,not_exists,not_and] at q;simpa using q i hi'
  ·rw[eS i K (del cs σ.hp) hnd] at hb;split at hb
   ·have hib:=hKi i b hb;have hcn:cs.contains i=false:=by
     cases e:cs.contains i with
     | false=>rfl
     | true=>rw[hsep i e] at hib;cases hib
    have hB:=k2.blk i b (hKget i b hb);have hall:=List.all_eq_true.1 hc2 _ (bf hb);have h1:cQ μ2 S' w' i b:=hB.less (by rw[m2' hcn,(hg i hib).1,(hpin' i hib).1]) (λj hj q hq=>by
     have hjb:=List.all_eq_true.1 hall j hj;have hjn:cs.contains j=false:=by
      cases e:cs.contains j with
      | false=>rfl
      | true=>rw[hsep j e] at hjb;cases hjb
     rw[(hpin' j hjb).1] at hq;rw[m2' hjn,(hg j hjb).1];exact hq)
    exact h1.mono (aK.refl _ _) (λ_ h=>.inr h) (λ_ _ h=>h) (λ_ _ _=>rfl) (λh=>h) (λ_ _=>rfl)
   ·rename_i hno;have hib:ids.contains i=false:=by
     cases e:ids.contains i with
     | false=>rfl
     | true=>
      obtain ⟨c,hc'⟩:=hid i e;rw[hc'] at hno;exact absurd rfl hno
    rw[fM] at hb;split at hb
    ·cases hb
    rename_i hcn;have hcn:cs.contains i=false:=by simpa using hcn
    have hai:(ids++cs).contains i=false:=by
     cases e2:(ids++cs).contains i with
     | false=>rfl
     | true=>rw[hor i e2 hcn] at hib;cases hib
    have hfree:=List.all_eq_true.1 hc3 (i,b) (bf (by rw[fM,if_neg (by rw[hai];exact Bool.false_ne_true)];exact hb));have h1:cQ μ2 S w i b:=(hi.hp i b hb).less (m2' hcn) (λj hj q hq=>by
     have:=List.all_eq_true.1 hfree j hj;rw[m2' (by simpa using this)];exact hq)
    exact h1.mono hS (λ_ h=>.inl h) (λ_ _ h=>h) hz (λh=>h) (λg hg'=>hO i g (m2 hg').2 hai)
  ·obtain ⟨hcn,hg'⟩:=m2 hg';obtain ⟨⟨b,j1⟩,j2,j3,j4⟩:=hi.dom i g hg';refine ⟨?_,j2,?_,YN j4 hfr.size⟩
   ·rw[eS i K (del cs σ.hp) hnd];split
    ·rename_i hs;exact YR.1 hs
    ·exact ⟨b,by rw[fM,if_neg (by rw[hcn];exact Bool.false_ne_true)];exact j1⟩
   ·rintro (h | h)
    ·exact j3 h
    ·cases e:ids.contains i with
     | true=>
      have:=(hg i e).1;rw[hg'] at this;injection this with this
      subst this;exact (k2.dom i _ (hpin' i e).1).2.1 h
     | false=>
      rcases (k5 g h).2 with q | ⟨id,q⟩ | q
      ·exact j3 q
      ·obtain ⟨q1,q2⟩:=mc q;have:=hi.inj _ _ _ hg' q2;subst this;rw[hor i q1 hcn] at e;cases e
      ·omega
  ·rcases hb with h | h
   ·exact ⟨YN (hi.sb b h).1 hfr.size,(hi.sb b h).2⟩
   ·refine ⟨(k5 b h).1,?_⟩
    rcases (k5 b h).2 with q | ⟨id,q⟩ | q
    ·exact (hi.sb b q).2
    ·rcases (hi.dom id b (mc q).2).2.1 with z | z
     ·exact .inr (.inl z)
     ·exact .inr (.inr z)
    ·have:=hi.frm.size;exact .inr (.inr z8)
 refine hKp _ _ ⟨μ2,S2,inv.put o.dst ?_⟩;have h1:Rd μ2 S' w' v r':=k1.less λi hi' g hg'=>by
  have hib:=hrr i hi';have hin:cs.contains i=false:=by
   cases e:cs.contains i with
   | false=>rfl
   | true=>rw[hsep i e] at hib;cases hib
  rw[(hpin' i hib).1] at hg';rw[m2' hin,(hg i hib).1];exact hg'
 exact h1.mono (aK.refl _ _) (λ_ h=>.inr h) (λ_ _ h=>h) (λ_ _ _=>rfl)
attribute [go_sem] jQ del sub
end
end Go.Eng
namespace Go.Eng
section
variable {P:Program} {T:Tab} {C:Ctx} {μ:Nat->Option Nat} {S:Nat->Prop} {σ:St} {a:Act} {w:World}
structure SrcS (μ:Nat->Option Nat) (S:Nat->Prop) (w:World) (size:Nat) (b:ByteArray) (rows:List (List AV)) (vs:List Value):Prop where
 one:size=1
 num:rows.length=b.size
 bytes:(b.data.map λc=>Value.int .u8 (c.toNat:Int))=vs.toArray
 len:vs.length=rows.length*size
 rd:∀(i:Nat) row,rows[i]? = some row->∀(j:Nat) x,row[j]? = some x->Rd μ S w (vs.getD (i*size+j) undef) x
 leaf:∀u,u∈vs->u.oneCell'=true
theorem GB {b:ByteArray} {l:List UInt8} (hb:b.data.toList=l) (size:Nat) (h1:size=1):∃vs,SrcS μ S w size b (l.map λb=>[AV.int .u8 (b.toNat:Int)]) vs:=by
 subst h1 hb;refine ⟨b.data.toList.map λc=>Value.int .u8 (c.toNat:Int),rfl,by rw[List.length_map];rfl,by rw[←List.map_toArray,Array.toArray_toList],by simp,λi row hi j x hx=>?_,λu hu=>?_⟩
 ·rw[Wm] at hi;cases e3:b.data.toList[i]? with
  | none=>rw[e3] at hi;cases hi
  | some c=>
   rw[e3] at hi;simp only[Option.map_some,Option.some.injEq] at hi;subst hi;cases j with
   | zero=>
    simp only[List.getElem?_cons_zero,Option.some.injEq] at hx;subst hx;rw[Wi,show i*1+0=i by omega,Wm,e3];exact .pure (.int _ _)
   | succ j=>simp at hx
 ·obtain ⟨c,_,rfl⟩:=Wq.1 hu;rfl
theorem sy {size:Nat} {b:ByteArray} {rows:List (List AV)} {vs:List Value} (h:SrcS μ S w size b rows vs) (w':World):(Builtin.firstCells size rows.length (.string b)).run P w'=.ok vs.toArray w':=by
 rw[h.num,←h.bytes];simp[Builtin.firstCells]
theorem kf {u:TypeId} (hu:P.underlying u=some .string) (hT:TabOK P T) {t e ty:TypeId} (ht:P.underlying t=some (.slice e)) (hs:T.siz e≠0) (hb:T.byt e≠0) {A:Option Addr} {len cap:Nat} {v:ByteArray} {R rows:List (List AV)} {olds vs:List Value}
  (ho:Src μ S w (T.siz e) (.slice A len cap) R olds) (hx:SrcS μ S w (T.siz e) v rows vs) (hlen:R.length=len) (hg:¬len+rows.length≤cap) (hsz:(2*(len+rows.length)+768)*T.byt e≤281474976710656) :
  ∃(nc:Nat) (z:Array Value),len+rows.length≤nc/\z.size=(nc-(len+rows.length))*T.siz e/\(Builtin.append_ #[t,u] ty #[.slice A len cap,.string v]).run P w =
   .ok (.slice (some ⟨w.heap.size,0,none⟩) (len+rows.length) nc) (w.drew.alloc (.cells (olds.toArray++vs.toArray++z) e)):=by
 obtain ⟨i,hi,hi1,hi2,z,hz,_,hzs,_⟩:=hT.siz e hs;have hn:=ns (len+rows.length) cap z8;have hfit:Builtin.nextslicecap (len+rows.length) cap*i.bytes≤281474976710656:=by
  rw[hi2];exact YW (Wz _ hn) hsz
 have hw1:Src μ S w.drew (T.siz e) (.slice A len cap) R olds:=⟨ho.form,ho.len,ho.rlen,λi row hi j x hx=>(ho.rd i row hi j x hx).mono (λ_ _=>rfl) (λ_ h=>h) (λ_ _ h=>h) (λ_ _ _=>rfl)⟩;have g1:=iC (P:=P) hw1;have g2:=sy (P:=P) hx;have hnm:=hx.num;rw[hlen] at g1;refine ⟨grownCap w (len+rows.length) cap e,Builtin.zeroCells z.cells (grownCap w (len+rows.length) cap e-(len+rows.length)),grownCap_ge w _ _ _,by simp[Builtin.zeroCells,hzs],?_⟩;have hb':i.bytes≠0:=by rw[hi2];exact hb
 rw[hnm] at hg g2 hfit ⊢;simp[Builtin.append_,run_underlying ht,run_underlying hu,sizeOf,typeInfo,hi,hi1,Builtin.lenOf,hg,hb',show ¬281474976710656<Builtin.nextslicecap (len+v.size) cap*i.bytes by omega,g1,g2,Question.forced,zeroValue,hz,kQ,grownCap];rw[←Array.append_assoc];simp
theorem mb {u:TypeId} (hu:P.underlying u=some .string) (hT:TabOK P T) {t e ty:TypeId} (ht:P.underlying t=some (.slice e)) (hs:T.siz e≠0) {A:Option Addr} {len cap:Nat} {v:ByteArray} {rows:List (List AV)} {vs:List Value}
  (hx:SrcS μ S w (T.siz e) v rows vs) (hg:len+rows.length≤cap) :
  (Builtin.append_ #[t,u] ty #[.slice A len cap,.string v]).run P w =
   (((match A with | some a=>storeCells (a.add (len*T.siz e)) vs | none=>pure ()):Sem Unit).run P w).andThen (λ_ w'=>.ok (.slice A (len+rows.length) cap) w'):=by
 obtain ⟨i,hi,hi1,hi2,z,hz,_,hzs,_⟩:=hT.siz e hs;have g2:=sy (P:=P) hx w;have hnm:=hx.num;rw[hnm] at hg g2 ⊢;cases A<;>simp[Builtin.append_,run_underlying ht,run_underlying hu,sizeOf,typeInfo,hi,hi1,Builtin.lenOf,hg,g2]
theorem tz (hT:TabOK P T) (hi:Inv C μ S σ a w) {d:Nat} {t ty:TypeId} {x r:AV} {vx:Value} {u:TypeId} (hu:P.underlying u=some .string) (h1s:T.siz (match T.und t with | .sl e=>e | _=>0)=1) {sb:ByteArray} {l:List UInt8} (hsb:sb.data.toList=l) {p:Prop} {σ':St} (h:fc T σ d t x (.sl (l.map λb=>[AV.int .u8 (b.toNat:Int)]))=some (p,σ',r)) (hp:p)
  (hvx:Rd μ S w vx x) :
  ∃v1 w' μ',(Builtin.append_ #[t,u] ty #[vx,.string sb]).run P w=.ok v1 w'/\Inv C μ' S σ' a w'/\Rd μ' S w' v1 r:=by
 unfold fc at h;split at h
 ·rename_i e rows hut hsrc;have ht:=hT.und t;rw[hut] at ht h1s;simp only at h1s;have hR0:(l.map λb=>[AV.int .u8 (b.toNat:Int)])=rows:=by simpa[dP] using hsrc
  obtain ⟨vs,hvs⟩:∃vs,SrcS μ S w (T.siz e) sb rows vs:=by rw[←hR0];exact GB hsb (T.siz e) h1s
  clear hR0 hsrc;simp only[iY] at ht;split at h
  ·-- onto nil
   simp only[Option.some.injEq,Prod.mk.injEq] at h;obtain ⟨rfl,rfl,rfl⟩:=h;obtain ⟨hs,hb,hrl,hlen,hleaf,hsz,hfree⟩:=hp;obtain rfl:=hvx.fN
   by_cases h0:rows.length=0
   ·have hr:=mb (ty:=ty) hu (A:=none) (len:=0) (cap:=0) hT ht hs hvs z8;simp only[Sem.run_pure,Result.andThen_ok] at hr;have hrows:rows=[]:=List.eq_nil_of_length_eq_zero h0;subst hrows;have hn:=hi.fresh hfree;refine ⟨_,w,μ,hr,⟨hi.size,hi.defers,hi.tm,λi b hb=>?_,λi g hg=>?_,hi.inj,hi.frm,hi.sb⟩,.osl d _ 0 _ 0 none y7 (.inl ⟨by simp,rfl⟩)⟩
    ·simp only[aa] at hb;split at hb
     ·rename_i e';injection hb with hb;subst hb e';exact .inl ⟨rfl,hn⟩
     ·exact hi.hp i b hb
    ·obtain ⟨⟨c,h1⟩,h2⟩:=hi.dom i g hg;refine ⟨⟨c,?_⟩,h2⟩;simp only[aa];rw[if_neg Zu];exact h1
   ·have ho:Src μ S w (T.siz e) (.slice none 0 0) [] []:=⟨⟨none,0,rfl,λh=>by simp at h⟩,by simp,by simp,λi row h=>by simp at h⟩;obtain ⟨nc,z,h1,h2,h3⟩:=kf (ty:=ty) hu hT ht hs hb ho hvs rfl z8 hsz;have hi1:=hi.drew;have hm:∀{v x},Rd μ S w v x->Rd μ S w.drew v x:=λh=>h.mono (λ_ _=>rfl) (λ_ h=>h) (λ_ _ h=>h) (λ_ _ _=>rfl)
    have hcs:(#[]++vs.toArray++z).size=rows.length*T.siz e+z.size:=by simp[hvs.len]
    refine ⟨_,_,_,h3,hi1.new d hfree _ (.cells e (T.siz e) rows) (.inr ⟨w.heap.size,_,by simp[upd],bd w _,by simp[hvs.len],hrl,λi row hi' j x hx=>?_⟩),?_⟩
    ·have hlt:=gY (size:=T.siz e) hi';have hj:j<T.siz e:=by
      by_cases h:j<T.siz e
      ·exact h
      ·rw[List.getElem?_eq_none Z7] at hx;cases hx
     have:=hvs.rd i row hi' j x hx;have e2:(#[]++vs.toArray++z).getD (i*T.siz e+j) undef=vs.getD (i*T.siz e+j) undef:=by
      rw[Wk,Wi];simp only[Array.empty_append];rw[YS (by simp[hvs.len];omega)];simp
     rw[show (List.toArray []++vs.toArray++z)=(#[]++vs.toArray++z) from rfl,e2];exact (hm this).mono (λb hb=>aZ _ _ b (hi1.sb b hb).1) (λ_ h=>h) (λi' g hg=>by
      unfold upd;rw[if_neg Z8];exact hg) (λi' g hg=>aO (aZ _ _ g (hi1.dom i' g hg).2.2.2))
    ·refine .osl d _ 0 _ nc _ h1 (.inr ⟨w.heap.size,e,_,by simp[upd],by simp,?_,rfl⟩);unfold ah;rw[bd];simp only[Option.some.injEq,Prod.mk.injEq,true_and];simp only[Array.size_append,List.size_toArray,List.length_nil,hvs.len,h2,W8,←YM]
     congr 1
     omega
  ·-- onto what is held
   rename_i id s len;split at h
   ·rename_i e' s' R hb0;split at h
    ·rename_i hcond;obtain ⟨rfl,rfl,rfl⟩:=hcond;simp only[Option.some.injEq,Prod.mk.injEq] at h;obtain ⟨rfl,rfl,rfl⟩:=h;obtain ⟨hs,hb,hrl,hlen,hleaf,hsz,hd,hid,hR,hfree,hbf⟩:=hp;have hRl:rowsOf (T.siz e') (R.take len):=by
      rcases hi.hp id _ hb0 with ⟨rfl,_⟩ | ⟨g,c,_,_,_,k4,_⟩
      ·intro row hrow;simp at hrow
      ·exact λrow hrow=>k4 row (Wx hrow)
     have hRt:(R.take len).length=len:=by simp;omega
     obtain ⟨olds,ho⟩:=kX hi (x:=.osl id (T.siz e') 0 len) (rows:=R.take len) (size:=T.siz e') (by simp[dP,hb0]) hvx hRl (λ_ _ _ _ h=>by injection h with _ _ _ h;rw[hRt,h]);have hdd:d=id\/μ d=none:=hd.imp (λh=>h) (λh=>hi.fresh h);obtain ⟨A,cap,rfl,hc,hor⟩:=hvx.bL
     by_cases hroom:len+rows.length≤cap
     ·have hr:=mb (ty:=ty) hu (A:=A) (len:=len) (cap:=cap) hT ht hs hvs hroom
      rcases hor with ⟨h1,h2⟩ | ⟨g,e2,n,h1,rfl,h3,h4⟩
      ·-- nothing comes onto nothing
       have h0:rows=[]:=List.eq_nil_of_length_eq_zero z8;subst h0 h1 h2;have hv0:vs=[]:=List.eq_nil_of_length_eq_zero (by rw[hvs.len];simp);subst hv0;have hr':(Builtin.append_ #[t,u] ty #[.slice A 0 0,.string sb]).run P w=.ok (.slice A 0 0) w:=by
        rw[hr];cases A<;>simp[storeCells]
       have hi0:Inv C μ S ⟨σ.tm,aQ σ.hp id (.cells e' (T.siz e') (R.take 0++[]))⟩ a w:=by
        refine ⟨hi.size,hi.defers,hi.tm,λi b hb=>?_,λi q hq=>?_,hi.inj,hi.frm,hi.sb⟩
        ·rw[an] at hb;split at hb
         ·rename_i e3;injection hb with hb;subst hb e3
          rcases hi.hp id _ hb0 with ⟨_,k⟩ | ⟨g,c,k1,k2,_⟩
          ·exact .inl ⟨by simp,k⟩
          ·exact .inr ⟨g,c,k1,k2,by simp,by simp,λi row h=>by simp at h⟩
         ·exact hi.hp i b hb
        ·obtain ⟨⟨c,k1⟩,k2⟩:=hi.dom i q hq;refine ⟨?_,k2⟩;rw[an];split
         ·exact ⟨_,rfl⟩
         ·exact ⟨c,k1⟩
       have hfree':ea id (aQ σ.hp id (.cells e' (T.siz e') (R.take 0++[]))):=gM hfree;have:=hi0.move (id:=id) (d:=d) (b:=.cells e' (T.siz e') (R.take 0++[])) (by rw[an];simp) (hd.imp (λh=>h) (λh=>by
        rw[an];split
        ·rename_i e4;subst e4;rw[hb0] at h;cases h
        ·exact h)) hfree' hbf
       refine ⟨_,w,mv μ id d,hr',?_,.osl d _ 0 _ 0 A y7 (.inl ⟨by simp,rfl⟩)⟩;simp only[jM] at this;exact this
      ·-- in place
       rcases hi.hp id _ hb0 with ⟨_,k⟩ | ⟨g',c,k1,k2,k3,k4,k5⟩
       ·rw[k] at h1;cases h1
       ·rw[k1] at h1;injection h1 with h1;subst h1
        rw[ah,k2] at h3;simp only[Option.some.injEq,Prod.mk.injEq] at h3;obtain ⟨rfl,rfl⟩:=h3;have hcs:(len+rows.length)*T.siz e'≤c.size:=YW (Wz _ z8) (Nat.le_of_eq h4);rw[YM] at hcs;obtain ⟨w',r1,r2,r3,r4,r5,r6,c',r7,r8,r9⟩:=eI (P:=P) g' (len*T.siz e') e' vs 0 w c k2 (hvs.leaf) (by rw[hvs.len];omega);have hr':(Builtin.append_ #[t,u] ty #[.slice (some ⟨g',0*T.siz e',none⟩) len cap,.string sb]).run P w=.ok (.slice (some ⟨g',0*T.siz e',none⟩) (len+rows.length) cap) w':=by
         rw[hr];simp only[Nat.zero_mul,add_plain,W8,r1,Result.andThen_ok]
        have hrs:ah w' g'=ah w g':=by simp[ah,r7,k2,r8]
        have hS:¬S g':=(hi.dom id g' k1).2.2.1;have hw:aK S w w':=λb hb=>r6 b Qa
        have hz':∀i q,μ i=some q->ah w' q=ah w q:=λi q _=>by
         by_cases e:q=g'
         ·subst e;exact hrs
         ·exact aO (r6 q e)
        have hmono:∀{v x},Rd μ S w v x->Rd μ S w' v x:=λh=>h.mono hw (λ_ h=>h) (λ_ _ h=>h) hz'
        have hRlen:len*T.siz e'≤R.length*T.siz e':=Wz _ hR;have hi0:Inv C μ S ⟨σ.tm,aQ σ.hp id (.cells e' (T.siz e') (R.take len++rows))⟩ a w':=
         hi.write id g' k1 r2 r3 r4 r5 r6 hrs _ (.inr ⟨g',c',k1,r7,by rw[List.length_append,hRt,YM,r8];omega,λrow hrow=>by
           rcases List.mem_append.1 hrow with h | h
           ·exact hRl row h
           ·exact hrl row h,
          ix (olds:=(List.range (len*T.siz e')).map λk=>c.getD k undef) (vs:=vs) (by simp[hRt]) hRl hrl (λi row hi' j x hx=>by
            have hlt:=gY (size:=T.siz e') hi';rw[hRt] at hlt;have hj:j<T.siz e':=by
             by_cases h:j<T.siz e'
             ·exact h
             ·rw[List.getElem?_eq_none Z9] at hx;cases hx
            rw[Wi,Wm,Yg z8];rw[W4] at hi';split at hi'
            ·exact hmono (k5 i row hi' j x hx)
            ·cases hi') (λi row hi' j x hx=>hmono (hvs.rd i row hi' j x hx)) hvs.len (λk hk=>by
           simp only[List.length_map,List.length_range] at hk;rw[r9]
           by_cases hkl:k<len*T.siz e'
           ·rw[if_neg z8,Wi,W6 WW,Wm,Yg hkl];rfl
           ·rw[if_pos z8,Wi,Wi,W1 WW];simp)⟩)
        have hfree':ea id (aQ σ.hp id (.cells e' (T.siz e') (R.take len++rows))):=gM hfree;have:=hi0.move (id:=id) (d:=d) (b:=.cells e' (T.siz e') (R.take len++rows)) (by rw[an];simp) (hd.imp (λh=>h) (λh=>by
         rw[an];split
         ·rename_i e4;subst e4;rw[hb0] at h;cases h
         ·exact h)) hfree' hbf
        rw[jM] at this;refine ⟨_,w',_,hr',this,.osl d _ 0 _ cap _ hroom (.inr ⟨g',e',c.size,?_,rfl,by simp[ah,r7,r8],h4⟩)⟩;simp[mv,k1]
     ·-- a new block
      obtain ⟨nc,z,h1,h2,h3⟩:=kf (ty:=ty) hu hT ht hs hb ho hvs hRt hroom hsz;have hi1:=(hi.drop id hfree).drew;have hfr:aa (σ.drop id).hp d=none:=by
       simp only[St.drop,bA];split
       ·rfl
       ·rename_i e4
        rcases hd with rfl | hd
        ·exact absurd rfl e4
        ·exact hd
      have hnod:upd μ id none d=none:=hi1.fresh hfr;have hm:∀{v x},Rd μ S w v x->id∉refs x->Rd (upd μ id none) S w.drew v x:=λh hn=>
       (h.other hn none).mono (λ_ _=>rfl) (λ_ h=>h) (λ_ _ h=>h) (λ_ _ _=>rfl)
      have hno:=ma hbf;refine ⟨_,_,_,h3,hi1.new d hfr _ (.cells e' (T.siz e') (R.take len++rows)) (.inr ⟨w.heap.size,_,by simp[upd],bd w _,by simp[ho.len,hvs.len,hRt,YM],λrow hrow=>by
           rcases List.mem_append.1 hrow with h | h
           ·exact hRl row h
           ·exact hrl row h,?_⟩),?_⟩
      ·have hup:∀{v x},Rd (upd μ id none) S w.drew v x ->
         Rd (upd (upd μ id none) d (some w.heap.size)) S (World.alloc w.drew (.cells (olds.toArray++vs.toArray++z) e')) v x:=λh=>
        h.mono (λb hb=>aZ _ _ b (hi1.sb b hb).1) (λ_ h=>h) (λi' g hg=>by
         show (if i'=d then some w.heap.size else upd μ id none i')=some g
         rw[if_neg Qo];exact hg) (λi' g hg=>aO (aZ _ _ g (hi1.dom i' g hg).2.2.2))
       have key:=ix (μ:=upd μ id none) (S:=S) (w:=w.drew) (R:=R.take len) (rows:=rows) (cs:=olds.toArray++vs.toArray++z) (s:=T.siz e') ho.len hRl hrl
        (λi row hi' j x hx=>hm (ho.rd i row hi' j x hx) (hno row (W2 _ (Wn hi')) x (Wn hx)))
        (λi row hi' j x hx=>hm (hvs.rd i row hi' j x hx) (hno row (Ww _ (Wn hi')) x (Wn hx))) hvs.len (λk hk=>by
         rw[Wk,Wi,YS Zs];simp[List.append_toArray])
       exact λi row hi' j x hx=>hup (key i row hi' j x hx)
      ·refine .osl d _ 0 _ nc _ h1 (.inr ⟨w.heap.size,e',_,by simp[upd],by simp,?_,rfl⟩);unfold ah;rw[bd];simp only[Option.some.injEq,Prod.mk.injEq,true_and];simp only[Array.size_append,List.size_toArray,ho.len,hvs.len,hRt,h2,W8,←YM]
       congr 1
       omega
    ·cases h
   ·cases h
  ·cases h
 ·cases h
theorem vW (hT:TabOK P T) {o:Oper} {d:Nat} (hd:o.dst=some d) {x y:Operand} {t u:TypeId} (ho:o.op=.call { callee:=.builtin .append,args:=#[x,y],argTypes:=#[t,u] }) (hu:T.und u=.str) (h1s:T.siz (match T.und t with | .sl e=>e | _=>0)=1)
  {xv:AV} (hx:evS σ x=(True,xv)) {l:List UInt8} (hy:evS σ y=(True,.str l)) {p:Prop} {σ1 σ':St} {r:AV} (h:fc T σ d t xv (.sl (l.map λb=>[AV.int .u8 (b.toNat:Int)]))=some (p,σ1,r)) (hp:p) (hσ:σ1.put (some d) r=σ'):eZ P C o σ σ':=by
 subst hσ;refine fE hd λμ S a w hi=>?_
 have hvx:=hi.evS x s6;have hvy:=hi.evS y Qi;rw[hx] at hvx;rw[hy] at hvy;obtain ⟨b,e1,hb⟩:=hvy.fo;have hus:P.underlying u=some .string:=by have:=hT.und u;rw[hu] at this;exact this
 obtain ⟨v1,w',μ',h1,h2,h3⟩:=tz (ty:=o.type) hT hi hus h1s hb h hp hvx;exact ⟨v1,w',μ',S,by simp[execOp,ho,resolve,invoke,builtin,e1,h1],h2,h3⟩
end
end Go.Eng
