/- Texts of this claim, part 11: EngBA, Turn, Ren, Same, SameLog. No condition. -/
import Derived.Test.YtmcfbfdonjllaaaGreatDoorZK10
set_option maxRecDepth 10000
set_option maxHeartbeats 4000000
set_option linter.unusedSimpArgs false
set_option linter.unusedVariables false
namespace Go.Eng
section
variable {P:Program} {T:Tab} {C:Ctx} {σ σ':St}
def gi (c id src:Nat) (s:St):Prop:=(∀t,t≠src->id∉refs (s.tm.getD t .any))/\∀b B,aa s.hp b=some B->b≠id->b≠c->bP id B
def HF (P:Program) (C:Ctx) (ops:Array Oper) (Y:St->Prop) (o:Oper) (e:Ef) (U:St):Prop:=
 ∀s,s.tm.length=U.tm.length->(∀x,(x∈e.rd\/x∈e.wr)->az U s x)->Y s->rT P C ops o s (e.app s)
def lV (P:Program) (C:Ctx) (ops:Array Oper) (Q:Exit->Go.Act->World->Prop) (k:Nat) (Y:St->Prop) (acc:cL) (l:List Oper) (σ:St):Prop:=
 Y σ->∃l1 l2 es,l=l1++l2/\l1.length=es.length/\(∀e,e∈es->EfOK e)/\(∀m o e,l1[m]? = some o->es[m]? = some e->HF P C ops Y o e (efU es m σ))/\(∀i,i≤es.length->Y (efU es i σ)) /\
  ku ops k (acc++skE es)=true/\aY P C ops Q (k+acc.length+es.length) (efU es es.length σ)
theorem wz {ops:Array Oper} {Q:Exit->Go.Act->World->Prop} {k:Nat} {Y:St->Prop} {acc:cL} {o:Oper} {l:List Oper} {e:Ef} (he:EfOK e) (hr:HF P C ops Y o e σ) (hs:Y σ->Y (e.app σ))
  (hk:lV P C ops Q k Y (acc++[(e.wr,e.rd)]) l (e.app σ)):lV P C ops Q k Y acc (o::l) σ:=by
 intro h0;obtain ⟨l1,l2,es,h1,h2,h3,h4,h5,h6,h7⟩:=hk (hs h0);refine ⟨o::l1,l2,e::es,by rw[h1];rfl,by simp[h2],λx hx=>?_,λm o' e' ho' he'=>?_,λi hi=>?_,?_,?_⟩
 ·rcases List.mem_cons.1 hx with rfl | hx
  ·exact he
  ·exact h3 x hx
 ·cases m with
  | zero=>
   simp only[List.getElem?_cons_zero,Option.some.injEq] at ho' he';subst ho' he';rw[jR];exact hr
  | succ m=>
   rw[pY];exact h4 m o' e' (by simpa using ho') (by simpa using he')
 ·cases i with
  | zero=>rw[jR];exact h0
  | succ i=>rw[pY];exact h5 i Qm
 ·have:acc++skE (e::es)=acc++[(e.wr,e.rd)]++skE es:=by simp[skE]
  rw[this];exact h6
 ·have:k+acc.length+(e::es).length=k+(acc++[(e.wr,e.rd)]).length+es.length:=by simp;omega
  rw[this,show (e::es).length=es.length+1 from rfl,pY];exact h7
theorem yE {ops:Array Oper} {Q:Exit->Go.Act->World->Prop} {k:Nat} {Y:St->Prop} {acc:cL} {l:List Oper} (hc:ku ops k acc=true) {j:Nat} (hj:k+acc.length=j) (h:aY P C ops Q j σ):lV P C ops Q k Y acc l σ:=by
 subst hj;intro h0;refine ⟨[],l,[],rfl,rfl,λe he=>(by cases he),λm o e ho he=>(by simp at ho),λi hi=>?_,by simpa[skE] using hc,by simpa[efU] using h⟩;rw[show i=0 by simpa using hi,jR];exact h0
theorem yS {ops:Array Oper} {Q:Exit->Go.Act->World->Prop} {k:Nat} (c id src:Nat) {l:List Oper} (hl:ops.toList.drop k=l) (hs:gi c id src σ) (h:lV P C ops Q k (gi c id src) [] l σ):aY P C ops Q k σ:=by
 subst hl;obtain ⟨l1,l2,es,h1,h2,h3,h4,h5,h6,h7⟩:=h hs;refine Es (l:=l1) (es:=es) (by simpa using h6) h2 (λi hi=>?_) h3 (λm o e ho he s hlen hag hall=>?_) (by simpa using h7)
 ·rw[←WI,←WJ,h1,WC z7]
 ·have hm:m<es.length:=(Zu.1 he).1;refine h4 m o e ho he s (by rw[hlen,px h3 σ m z7]) hag ⟨λt ht=>?_,λb B hb hne hnc=>?_⟩
  ·obtain ⟨i,hi,ha⟩:=hall (.tm t);have ha:s.tm.getD t .any=(efU es i σ).tm.getD t .any:=ha;rw[ha];exact (h5 i hi).1 t ht
  ·obtain ⟨i,hi,ha⟩:=hall (.blk b);have ha:aa s.hp b=aa (efU es i σ).hp b:=ha;rw[ha] at hb;exact (h5 i hi).2 b B hb hne hnc
theorem Hv {c id src:Nat} (h:id∉av σ.tm/\∀q,q∈σ.hp->q.1≠id->q.1≠c->bP id q.2):gi c id src σ:=by
 obtain ⟨h1,h2⟩:=h;refine ⟨λt _ hi=>?_,λb B hb hne hnc=>h2 (b,B) (aA hb) hne hnc⟩;rw[Zo] at hi;cases e:σ.tm[t]? with
 | none=>rw[e] at hi;simp[refs] at hi
 | some x=>rw[e] at hi;exact h1 (aL e hi)
def lL (id src:Nat) (p:Sp):Prop:=(p.dst=some src\/id∉refs p.val)/\∀b,b∈p.new->b.1=id\/bP id b.2
theorem AQ {c id src:Nat} {p:Sp} (hp:lL id src p) {s:St} (hs:gi c id src s):gi c id src (p.app s):=by
 have htm:(p.app s).tm=match p.dst with | some t=>s.tm.set t p.val | none=>s.tm:=by unfold Sp.app St.put;cases p.dst<;>rfl
 have hhp:(p.app s).hp=p.new++s.hp:=by unfold Sp.app;rw[St.eO]
 obtain ⟨h1,h2⟩:=hp;refine ⟨λt ht=>?_,λb B hb hne hnc=>?_⟩
 ·rw[htm];cases e:p.dst with
  | none=>exact hs.1 t ht
  | some u=>
   show id∉refs ((s.tm.set u p.val).getD t .any)
   rw[bw];split
   ·rename_i hu;subst hu;split
    ·rcases h1 with h1 | h1
     ·rw[e] at h1;injection h1 with h1;exact absurd h1 ht
     ·exact h1
    ·simp[refs]
   ·exact hs.1 t ht
 ·rw[hhp,an] at hb;split at hb
  ·rcases h2 (b,B) (aA hb) with h | h
   ·exact absurd h hne
   ·exact h
  ·exact hs.2 b B hb hne hnc
theorem wA {ops:Array Oper} {Q:Exit->Go.Act->World->Prop} {k c id src:Nat} {acc:cL} {o:Oper} {l:List Oper} {p:Sp} (h:Rob P C ops o p σ) (hf:∀b,b∈p.new->Loc.blk b.1∉p.rd->aa σ.hp b.1=none) (hz:lL id src p)
  {s1:List Loc×List Loc} (hs:(p.wr,p.rd)=s1) (ha:p.app σ=σ') (hk:lV P C ops Q k (gi c id src) (acc++[s1]) l σ'):lV P C ops Q k (gi c id src) acc (o::l) σ:=by
 subst hs ha;refine wz (e:=efS p) (G8 p) (λs _ hag _=>?_) (AQ hz) hk;exact h s (λx hx=>hag x (.inl hx)) λb hb hn=>Eq.trans (show aa s.hp b.1=aa σ.hp b.1 from hag (.blk b.1) (.inr (lT ⟨b,hb,rfl⟩))) (hf b hb hn)
theorem q_ {ops:Array Oper} {Q:Exit->Go.Act->World->Prop} {k c id src:Nat}:∀{l1:List Oper} {ps:List Sp} {acc:cL} {l:List Oper} {σ:St},cE P C ops l1 ps σ->(∀p,p∈ps->p.new=[])->(∀p,p∈ps->lL id src p) ->
  lV P C ops Q k (gi c id src) (acc++fg ps) l (bE ps σ)->lV P C ops Q k (gi c id src) acc (l1++l) σ
 | [],[],acc,l,σ,_,_,_,hk=>by simpa[fg,bE] using hk
 | o::l1,p::ps,acc,l,σ,hc,hn,hz,hk=>by
  refine wA hc.1 (λb hb _=>by rw[hn p List.mem_cons_self] at hb;cases hb) (hz p List.mem_cons_self) rfl rfl ?_;refine q_ hc.2 (λq hq=>hn q (List.mem_cons_of_mem _ hq)) (λq hq=>hz q (List.mem_cons_of_mem _ hq)) ?_;have e:acc++[(p.wr,p.rd)]++fg ps=acc++fg (p::ps):=by simp[fg]
  rw[e];exact hk
 | [],_::_,_,_,_,h,_,_,_=>h.elim
 | _::_,[],_,_,_,h,_,_,_=>h.elim
theorem yN (hT:TabOK P T) (m:Nat) {ops:Array Oper} {Q:Exit->Go.Act->World->Prop} {k c id src:Nat} {acc:cL} {l l1 l2:List Oper} {p:Prop} {ps:List Sp} {sk:cL}
  (h1:l.take m=l1:=by simp only[go_sem];exact rfl) (h2:l.drop m=l2:=by simp only[go_sem];exact rfl) (h:jw T ops l1 σ=some (p,ps,[],σ'):=by simp only[go_sem];try exact rfl) (hp:p:=by simp[go_sem]) (hs:fg ps=sk:=by simp only[go_sem];exact rfl)
  (hz:∀q,q∈ps->lL id src q:=by simp[go_sem,lL]) (hk:lV P C ops Q k (gi c id src) (acc++sk) l2 σ'):lV P C ops Q k (gi c id src) acc l σ:=by
 subst hs h1 h2;obtain ⟨g1,g2,g3⟩:=mZ h;obtain ⟨q1,k1,k2⟩:=gK (P:=P) (C:=C) hT ops (l.take m) σ h hp (l2:=[]) (ps2:=[]) trivial w7;simp only[List.append_nil] at k1 k2;subst k1;have:=q_ (c:=c) (id:=id) (src:=src) (Q:=Q) (k:=k) (acc:=acc) (l:=l.drop m) k2 (λq hq=>by
  obtain ⟨i,hi⟩:=Z1 hq;exact g3 i q hi) hz (by rw[g2];exact hk)
 rwa [Wq] at this
theorem yW (hT:TabOK P T) {ops:Array Oper} {Q:Exit->Go.Act->World->Prop} {k c id src:Nat} {acc:cL} {o:Oper} {l:List Oper} {d:Nat} {p:Prop} {b:Blk} {x:AV} {s1:List Loc×List Loc}
  (hd:o.dst=some d:=by rfl) (hg:guardOf ops σ o.guard=some true:=by simp only[go_sem];try exact rfl) (h:ki T σ d o.op=some (p,b,x):=by simp only[go_sem];try exact rfl) (hp:p:=by simp[go_sem]) (hf:aa σ.hp d=none:=by simp only[go_sem];try exact rfl)
  (hs:([Loc.tm d,Loc.blk d],bx ops o.guard++aK σ o.op.operands.toList)=s1:=by simp only[go_sem];exact rfl) (hz:lL id src ⟨some d,x,[(d,b)],[]⟩:=by simp[go_sem,lL,bP]) (ha:St.put ⟨σ.tm,(d,b)::σ.hp⟩ (some d) x=σ':=by simp only[go_sem];exact rfl)
  (hk:lV P C ops Q k (gi c id src) (acc++[s1]) l σ'):lV P C ops Q k (gi c id src) acc (o::l) σ:=by
 refine wA (p:=⟨some d,x,[(d,b)],bx ops o.guard++aK σ o.op.operands.toList⟩) ?_ (λc hc _=>by rw[List.mem_singleton.1 hc];exact hf) hz (by rw[←hs];rfl) (by rw[←ha];rfl) hk;intro s hagree hfree a w K Q' hr hK;have hg':guardOf ops s o.guard=some true:=by rw[fw (λx hx=>hagree x (WH _ hx))];exact hg
 obtain ⟨μ,S,hi⟩:=hr;rw[ba hi hg'];refine .inl ?_;have hn:ki T s d o.op=some (p,b,x):=by rw[oG (λx hx=>hagree x (Zz _ hx))];exact h
 have hfd:aa s.hp d=none:=by
  by_cases h:Loc.blk d∈bx ops o.guard++aK σ o.op.operands.toList
  ·exact Eq.trans (show aa s.hp d=aa σ.hp d from hagree _ h) hf
  ·exact hfree (d,b) w7 h
 exact oH hT hd hn hp hfd a w K Q' ⟨μ,S,hi⟩ hK
theorem zK (hT:TabOK P T) {ops:Array Oper} {o:Oper} {src:Nat} {y:Operand} {t e:TypeId} {d id S len:Nat} {R rows:List (List AV)} {q:Prop} {v:AV} {rd:List Loc} {s:St}
  (ho:o.op=.call { callee:=.builtin .append,args:=#[.tmp src,y],argTypes:=#[t,t] }) (hd:o.dst=some d) (hg:o.guard=none) (ht:T.und t=.sl e)
  (hx0:evS s (.tmp src)=(True,.osl id S 0 len)) (hb0:aa s.hp id=some (.cells e S R)) (hy0:evS s y=(q,v)) (hq:q) (hv0:cC s v=some rows) (hS:T.siz e=S) (h0:S≠0) (h1:T.byt e≠0) (h2:rowsOf S rows) (h3:∀i s off ln,v=.osl i s off ln->rows.length=ln)
  (h4:dT rows=true) (h5:(2*(len+rows.length)+768)*T.byt e≤281474976710656) (h6:lk v≠some id) (h7:len≤R.length) (h8:bP id (.cells e S (R.take len++rows))) (h9:aa s.hp d=none) (h10:d≠id)
  (hsf:(∀t,t≠src->id∉refs (s.tm.getD t .any))/\∀b B,aa s.hp b=some B->b≠id->bP id B)
  (hev:∀z,evS ⟨s.tm,cG s.hp⟩ z=evS s z):rT P C ops o s ((efA d src id e S (len+rows.length) (R.take len++rows) rd).app s):=by
 subst hS;intro a w K Q' hrel hK;have hrel':Rel C ⟨s.tm,cG s.hp⟩ a w:=fD (s:=s) (s':=⟨s.tm,cG s.hp⟩) rfl (λ_=>rfl) (λi=>(eb i s.hp).symm) a w hrel;obtain ⟨μ,S0,hi⟩:=hrel';rw[ba hi (show guardOf ops ⟨s.tm,cG s.hp⟩ o.guard=some true from by rw[hg];rfl)];refine .inl ?_;have hx':evS ⟨s.tm,cG s.hp⟩ (.tmp src)=(True,.osl id (T.siz e) 0 len):=by rw[hev];exact hx0
 have hy':evS ⟨s.tm,cG s.hp⟩ y=(q,v):=by rw[hev];exact hy0
 have hbb:aa (cG s.hp) id=some (.cells e (T.siz e) R):=by rw[eb];exact hb0
 have hdn:aa (cG s.hp) d=none:=by rw[eb];exact h9
 have hsr:cC ⟨s.tm,cG s.hp⟩ v=some rows:=by
  rw[←hv0];cases v with
  | osl i s' off ln=>simp only[cC,eb]
  | _=>rfl
 have hfree:dh id (cG s.hp):=sw λz hz hne=>hsf.2 z.1 z.2 (r_ s.hp z hz) hne
 have hstep:dP T ⟨s.tm,cG s.hp⟩ o.dst o.op=some (True/\q/\(T.siz e≠0/\T.byt e≠0/\rowsOf (T.siz e) rows/\(∀i s off ln,v=.osl i s off ln->rows.length=ln)/\dT rows=true/\(2*(len+rows.length)+768)*T.byt e≤281474976710656 /\
    (d=id\/aa (cG s.hp) d=none)/\lk v≠some id/\len≤R.length/\dh id (cG s.hp)/\bP id (.cells e (T.siz e) (R.take len++rows))),
   (⟨s.tm.map (kill id),(d,.cells e (T.siz e) (R.take len++rows))::c_ (cG s.hp) id⟩:St).put (some d) (.osl d (T.siz e) 0 (len+rows.length))):=by
  rw[ho,hd];simp only[dP,hx',hy',if_true,dQ,ht,hsr,hbb,and_self,Option.map_some]
 refine bL hT o hstep ⟨trivial,hq,h0,h1,h2,h3,h4,h5,.inr hdn,h6,h7,hfree,h8⟩ a w K Q' ⟨μ,S0,hi⟩ λa' w' hr'=>hK a' w' ?_
 obtain ⟨μ',S',hi'⟩:=hr';have hidn:aa ((⟨s.tm.map (kill id),(d,.cells e (T.siz e) (R.take len++rows))::c_ (cG s.hp) id⟩:St).put (some d) (.osl d (T.siz e) 0 (len+rows.length))).hp id=none:=by
  rw[St.eO];simp only[aa];rw[if_neg h10,bg,if_pos rfl]
 refine ⟨μ',S',by rw[hi'.size];simp[efA,St.put],hi'.defers,λj z hz=>?_,λj B hB=>?_,λj g hj=>?_,hi'.inj,hi'.frm,hi'.sb⟩
 ·replace hz:((s.tm.set src .any).set d (.osl d (T.siz e) 0 (len+rows.length)))[j]? = some z:=hz
  rw[Z7] at hz
  by_cases e1:d=j
  ·subst e1;rw[if_pos rfl] at hz;refine hi'.tm d z ?_
   show ((s.tm.map (kill id)).set d _)[d]? = some z
   rw[Z7,if_pos rfl];simpa using hz
  ·rw[if_neg e1,Z7] at hz
   by_cases e2:src=j
   ·subst e2;rw[if_pos rfl] at hz;split at hz
    ·injection hz with hz;subst hz;exact .any _
    ·cases hz
   ·rw[if_neg e2] at hz;refine hi'.tm j z ?_
    show ((s.tm.map (kill id)).set d _)[j]? = some z
    rw[Z7,if_neg e1,Zr,hz];have hnr:=hsf.1 j (λh=>e2 h.symm);rw[Zo,hz] at hnr;simp only[Option.map_some,kill];rw[if_neg (by simpa using hnr)]
 ·replace hB:aa ((d,.cells e (T.siz e) (R.take len++rows))::aB s.hp id (.cells e (T.siz e) [])) j=some B:=hB
  simp only[aa] at hB;split at hB
  ·rename_i e1;refine hi'.hp j B ?_;rw[St.eO];simp only[aa];rw[if_pos e1];exact hB
  ·rename_i e1;rw[ai] at hB;split at hB
   ·rename_i e2;subst e2;injection hB with hB
    subst hB;exact .inl ⟨rfl,hi'.fresh hidn⟩
   ·rename_i e2;refine hi'.hp j B ?_;rw[St.eO];simp only[aa];rw[if_neg e1,bg,if_neg e2,eb];exact hB
 ·obtain ⟨⟨B,hB⟩,h12⟩:=hi'.dom j g hj;refine ⟨?_,h12⟩
  show ∃b,aa ((d,.cells e (T.siz e) (R.take len++rows))::aB s.hp id (.cells e (T.siz e) [])) j=some b
  rw[St.eO] at hB;simp only[aa] at hB ⊢;split
  ·exact ⟨_,rfl⟩
  ·rename_i e1;rw[if_neg e1,bg] at hB;rw[ai];split
   ·exact ⟨_,rfl⟩
   ·rename_i e2;rw[if_neg e2,eb] at hB;exact ⟨B,hB⟩
def efB (d src id e S len:Nat) (rows:List (List AV)) (c e2 s2:Nat) (rows3:List (List AV)) (rd:List Loc):Ef:=
 ⟨[.tm d,.tm src,.blk d,.blk id,.blk c],rd,λs=>(efA d src id e S len rows rd).app ⟨s.tm,aB s.hp c (.cells e2 s2 rows3)⟩⟩
theorem G7 (d src id e S len:Nat) (rows:List (List AV)) (c e2 s2:Nat) (rows3:List (List AV)) (rd:List Loc):EfOK (efB d src id e S len rows c e2 s2 rows3 rd):=by
 have hA:=G6 d src id e S len rows rd;refine ⟨λs=>hA.len _,λs x hx=>?_,λs s' hl x hx=>?_⟩
 ·have h1:x∉(efA d src id e S len rows rd).wr:=λh=>hx (by
   have h:x∈[Loc.tm d,.tm src,.blk d,.blk id]:=h
   show x∈[Loc.tm d,.tm src,.blk d,.blk id,.blk c]
   simp only[List.mem_cons,List.not_mem_nil,or_false] at h ⊢
   rcases h with h | h | h | h<;>simp[h])
  refine az.trans ?_ (hA.frame ⟨s.tm,aB s.hp c (.cells e2 s2 rows3)⟩ x h1);cases x with
  | tm t=>rfl
  | blk b=>
   show aa (aB s.hp c _) b=aa s.hp b
   rw[ai,if_neg];rintro rfl;exact hx (by show Loc.blk c∈[Loc.tm d,.tm src,.blk d,.blk id,.blk c];simp)
 ·by_cases h1:x∈(efA d src id e S len rows rd).wr
  ·exact hA.det _ _ (by exact hl) x h1
  ·refine az.trans (hA.frame ⟨s.tm,aB s.hp c (.cells e2 s2 rows3)⟩ x h1).symm ?_;refine az.trans ?_ (hA.frame ⟨s'.tm,aB s'.hp c (.cells e2 s2 rows3)⟩ x h1);have hx:x∈[Loc.tm d,.tm src,.blk d,.blk id,.blk c]:=hx;have h1:x∉[Loc.tm d,.tm src,.blk d,.blk id]:=h1;have hx:x=.blk c:=by
    simp only[List.mem_cons,List.not_mem_nil,or_false,not_or] at hx h1
    rcases hx with h | h | h | h | h
    ·exact absurd h h1.1
    ·exact absurd h h1.2.1
    ·exact absurd h h1.2.2.1
    ·exact absurd h h1.2.2.2
    ·exact h
   subst hx
   show aa (aB s'.hp c _) c=aa (aB s.hp c _) c
   rw[ai,ai,if_pos rfl,if_pos rfl]
theorem Al (id:Nat) (x:AV):id∉refs (kill id x):=by
 unfold kill;split
 ·simp[refs]
 ·rename_i h;simpa using h
theorem yA (hT:TabOK P T) (c:Nat) {ops:Array Oper} {Q:Exit->Go.Act->World->Prop} {k:Nat} {acc:cL} {o:Oper} {l:List Oper} {src ysl:Nat} {t e:TypeId} {d id S len:Nat} {R rows:List (List AV)} {v:AV} {s1:List Loc×List Loc} {n:Nat} {rows':List (List AV)} {e2 s2:Nat} {rows2 rows3:List (List AV)}
  (ho:o.op=.call { callee:=.builtin .append,args:=#[.tmp src,.tmp ysl],argTypes:=#[t,t] }:=by rfl) (hd:o.dst=some d:=by rfl) (hg:o.guard=none:=by rfl) (ht:T.und t=.sl e:=by rfl)
  (hx:evS σ (.tmp src)=(True,.osl id S 0 len):=by simp only[go_sem];try exact rfl) (hb:aa σ.hp id=some (.cells e S R):=by simp only[go_sem];try exact rfl) (hc:aa σ.hp c=some (.cells e2 s2 rows2):=by simp only[go_sem];try exact rfl) (hy:evS σ (.tmp ysl)=(True,v):=by simp only[go_sem];try exact rfl) (hv:cC σ v=some rows:=by simp only[go_sem];try exact rfl)
  (hS:T.siz e=S:=by rfl) (h0:S≠0:=by decide) (h1:T.byt e≠0:=by decide) (h2:rowsOf S rows) (h3:∀i s off ln,v=.osl i s off ln->rows.length=ln:=by simp[go_sem]) (h4:dT rows=true:=by simp[go_sem]) (h5:(2*(len+rows.length)+768)*T.byt e≤281474976710656)
  (h6:lk v≠some id:=by simp[go_sem]) (h6c:lk v≠some c:=by simp[go_sem]) (h7:len≤R.length) (h8:bP id (.cells e S (R.take len++rows))) (h9:aa σ.hp d=none:=by simp only[go_sem];try exact rfl) (h10:d≠id:=by decide) (h11:c≠id:=by decide) (h12:d≠c:=by decide)
  (hs:([Loc.tm d,Loc.tm src,Loc.blk d,Loc.blk id,Loc.blk c],aK σ [.tmp src,.tmp ysl]++(match lk v with | some i=>[Loc.blk i] | none=>[]))=s1:=by simp only[go_sem];exact rfl)
  (hn:len+rows.length=n) (hr:R.take len++rows=rows') (hr3:rows2.map (λrow=>row.map (kill id))=rows3)
  (ha:(⟨(σ.tm.set src .any).set d (.osl d S 0 n),(d,.cells e S rows')::aB (aB σ.hp c (.cells e2 s2 rows3)) id (.cells e S [])⟩:St)=σ':=by simp only[go_sem];exact rfl)
  (hk:lV P C ops Q k (gi c id src) (acc++[s1]) l σ'):lV P C ops Q k (gi c id src) acc (o::l) σ:=by
 subst hs ha hn hr hS;have hA:=G7 d src id e (T.siz e) (len+rows.length) (R.take len++rows) c e2 s2 rows3 (aK σ [.tmp src,.tmp ysl]++(match lk v with | some i=>[Loc.blk i] | none=>[]));generalize hrd:(aK σ [.tmp src,.tmp ysl]++(match lk v with | some i=>[Loc.blk i] | none=>[]))=rd at hk hA;refine wz (e:=efB d src id e (T.siz e) (len+rows.length) (R.take len++rows) c e2 s2 rows3 rd) hA ?_ ?_ hk
 ·intro s hlen hag hsafe;have hcs:aa s.hp c=some (.cells e2 s2 rows2):=by
   rw[←hc];exact hag (.blk c) (.inr (by simp[efB]))
  have hag2:∀z,z∈aK σ [.tmp src,.tmp ysl]->az σ s z:=λz hz=>hag z (.inl (hrd▸WH _ hz))
  have hev:∀(h1 h2:List (Nat×Blk)) (z:Operand),evS ⟨s.tm,h1⟩ z=evS ⟨s.tm,h2⟩ z:=λh1 h2 z=>by cases z<;>rfl
  have hbs:aa (aB s.hp c (.cells e2 s2 rows3)) id=some (.cells e (T.siz e) R):=by
   rw[ai,if_neg h11,←hb];exact hag (.blk id) (.inr (by simp[efB]))
  have hds:aa (aB s.hp c (.cells e2 s2 rows3)) d=none:=by
   rw[ai,if_neg (λh=>h12 h.symm),←h9];exact hag (.blk d) (.inr (by simp[efB]))
  have hxs:evS ⟨s.tm,aB s.hp c (.cells e2 s2 rows3)⟩ (.tmp src)=(True,.osl id (T.siz e) 0 len):=by
   rw[hev _ s.hp,←hx];exact bU λz hz=>hag2 z (cX (List.mem_cons_self ..) z hz)
  have hys:evS ⟨s.tm,aB s.hp c (.cells e2 s2 rows3)⟩ (.tmp ysl)=(True,v):=by
   rw[hev _ s.hp,←hy];exact bU λz hz=>hag2 z (cX (List.mem_cons_of_mem _ (List.mem_singleton.2 rfl)) z hz)
  have hsr:cC ⟨s.tm,aB s.hp c (.cells e2 s2 rows3)⟩ v=some rows:=by
   rw[←hv];cases v with
   | osl i s' off ln=>
    have:=hag (.blk i) (.inl (hrd▸Zz _ (by simp[lk])));have hic:¬c=i:=λh=>h6c (by rw[h];rfl)
    simp only[cC,ai];rw[if_neg hic,show aa s.hp i=aa σ.hp i from this]
   | _=>rfl
  have:=zK (P:=P) (C:=C) (ops:=ops) (s:=⟨s.tm,aB s.hp c (.cells e2 s2 rows3)⟩) (rd:=rd) hT ho hd hg ht hxs hbs hys trivial hsr rfl h0 h1 h2 h3 h4 h5 h6 h7 h8 hds h10 ⟨hsafe.1,λb B hB hne=>by
   rw[ai] at hB;split at hB
   ·injection hB with hB
    subst hB hr3;unfold bP;simp only[List.all_eq_true];intro row hrow x hx;obtain ⟨r0,_,rfl⟩:=Zv.1 hrow;obtain ⟨x0,_,rfl⟩:=Zv.1 hx;simpa using Al id x0
   ·rename_i hbc;exact hsafe.2 b B hB hne (λh=>hbc h.symm)⟩ (λz=>hev _ _ z)
  intro a w K Q' hrel hK;exact this a w K Q' (bK id c hcs hr3 a w hrel) hK
 ·intro h0';refine ⟨λj hj=>?_,λb B hB hne hnc=>?_⟩
  ·show id∉refs (((σ.tm.set src .any).set d _).getD j .any)
   rw[bw,bw];split
   ·split
    ·simpa[refs] using λh:id=d=>h10 h.symm
    ·simp[refs]
   ·split
    ·simp[refs]
    ·exact h0'.1 j hj
  ·replace hB:aa ((d,.cells e (T.siz e) (R.take len++rows))::aB (aB σ.hp c (.cells e2 s2 rows3)) id (.cells e (T.siz e) [])) b=some B:=hB
   simp only[aa] at hB;split at hB
   ·injection hB with hB
    subst hB;exact h8
   ·rw[ai,if_neg (λh=>hne h.symm),ai,if_neg (λh=>hnc h.symm)] at hB;exact h0'.2 b B hB hne hnc
end
end Go.Eng
namespace La
open Go Go.Eng Go.Proofs
def tn (f t x:Int):Int:=if x=f then t else x
def Ku (a:Act) (f t:Int):Act:={ a with fid:=tn f t a.fid,dir:=tn f t a.dir,to:=tn f t a.to }
end La
