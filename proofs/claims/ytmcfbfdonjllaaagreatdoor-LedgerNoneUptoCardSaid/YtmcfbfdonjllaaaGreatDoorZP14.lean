/- Texts of this claim, part 14: EngAO, EngAQ, EngAR, EngAP, EngAS, EngAT, PNames, PSplit, EngAU. No condition. -/
import Derived.Test.YtmcfbfdonjllaaaGreatDoorZP13
import Derived.Laws.IdiomStrings
import Derived.Lib.SplitLaws
import Derived.Lib.Join
set_option maxRecDepth 10000
set_option maxHeartbeats 4000000
set_option linter.unusedSimpArgs false
set_option linter.unusedVariables false
namespace Go.Eng
section
variable {P:Program} {T:Tab} {C:Ctx} {σ σ':St} {μ:Nat->Option Nat} {S:Nat->Prop} {a:Act} {w:World} {Ret:St->Prop} {k:List It}
theorem mr (r:Nat) (p q:List Nat) {ops ops':Array Oper} {Q:Exit->Act->World->Prop} {o:Oper} (ho:ops[r]? = some o) (hg:o.guard=none)
  (hQ:∀c a w,¬Q (.panic c) a w) (h1:Ap r p q ops=true) (h2:sy r o ops=true) (he:(bJ r p q ops.toList).toArray=ops') {y:AV}
  (hx:∀μ S a w,Inv C μ S σ a w->∃u,(∀w',(execOp a.eval o).run P w'=.ok (.value u) w')/\Rd μ S w u y)
  (hk:bp P C ops' Q 0 (σ.put o.dst y)):bp P C ops Q 0 σ:=by
 subst he;have hF:=qS h1;have hrl:=hF.rl;have hpl:=hF.pl;intro a w ⟨μ,S,hi⟩;obtain ⟨u,hu,hr⟩:=hx μ S a w hi;have hrel:Rel C (σ.put o.dst y) (a.put o.dst u) w:=⟨μ,S,hi.put o.dst hr⟩;have hk':=hk _ _ hrel;have hs:(bJ r p q ops.toList).toArray.size+1=ops.size:=by simp[bJ,hpl]
 obtain ⟨n,hn⟩:∃n,ops.size=n+1:=⟨ops.size-1,by omega⟩;have hsz:(bJ r p q ops.toList).toArray.size=n:=by omega
 unfold sy at h2;rw[Bool.and_eq_true] at h2;have hafter:o.after=#[]:=Array.isEmpty_iff.1 h2.1;have hd0:∀(m i:Nat) (d:Bool),(bj m 0).getD i d=if i<m then false else d:=λm i d=>by rw[fG];simp
 rw[hn,Nat.sub_zero];refine wpAny_first (v:=u) ho hF.sel (λc a w hc=>absurd hc (hQ c _ _)) n _ a w (λk oj hoj hkr _ hw=>?_) (mem_ready.2 ⟨?_,o,ho,λe he=>by rw[hafter] at he;simp at he⟩) (.inl ⟨by rw[Region.wanted,hg],hu⟩) ?_
 ·have:=List.all_eq_true.1 h2.2 k (Ya.2 (Yg.1 hoj).1);rw[hoj] at this;simp only[Bool.or_eq_true,beq_iff_eq,Array.any_eq_true',Bool.and_eq_true] at this
  rcases this with h | ⟨e,he,hb,hon⟩ | h
  ·exact absurd h hkr
  ·exact absurd hon (hw e he hb)
  ·exact h
 ·rw[<-hn,hd0,if_pos hrl]
 ·rw[hsz,Nat.sub_zero] at hk';refine x_ hF n _ _ _ _ WV WV ?_ (λi hi=>?_) hk'
  ·rw[Array.getD_eq_getD_getElem?,Yk,if_pos rfl,if_pos (by simp[bj];omega)];rfl
  ·have e2:((bj (n+1) 0).setIfInBounds r true).getD i false=(bj (n+1) 0).getD i false:=by
    rw[Array.getD_eq_getD_getElem?,Yk,if_neg (λe=>hi e.symm),<-Array.getD_eq_getD_getElem?]
   rw[e2,hd0,hd0];split<;>split<;>rfl
theorem wB (hT:TabOK P T) {o:Oper} {t e:TypeId} {x:Operand} {lo hi':Option Operand} (ho:o.op=.slice t x lo hi' none) (ht:T.und t=.sl e) {id s off len l h:Nat} (hs:T.siz e=s) (hz:s≠0) (hx:evS σ x=(True,.osl id s off len))
  (hlo:(lo=none/\l=0)\/∃q,lo=some q/\∃kk,evS σ q=(True,.int kk (l:Nat))) (hhi:(hi'=none/\h=len)\/∃q,hi'=some q/\∃kk,evS σ q=(True,.int kk (h:Nat))) (hlh:l<=h) (hhl:h<=len) :
  ∀μ S a w,Inv C μ S σ a w->∃u,(∀w',(execOp a.eval o).run P w'=.ok (.value u) w')/\Rd μ S w u (.osl id s (off+l) (h-l)):=by
 intro μ S a w hi;have hu:=hT.und t;rw[ht] at hu;simp only[jO] at hu;have hv:=hi.evS x u9;rw[hx] at hv;obtain ⟨A,cap,hA,hc,hor⟩:=hv.bT;have k1:fX (lo.map a.eval) 0 l:=by
  rcases hlo with ⟨rfl,rfl⟩ | ⟨q,rfl,kk,hq⟩
  ·rfl
  ·have:=hi.evS q (by rw[hq];trivial);rw[hq] at this;exact ⟨kk,this.aL⟩
 have k2:fX (hi'.map a.eval) len h:=by
  rcases hhi with ⟨rfl,rfl⟩ | ⟨q,rfl,kk,hq⟩
  ·rfl
  ·have:=hi.evS q (by rw[hq];trivial);rw[hq] at this;exact ⟨kk,this.aL⟩
 have hrun:∀w',(Instr.sliceAt t (.slice A len cap) (lo.map a.eval) (hi'.map a.eval) none).run P w'=.ok (.slice (if cap=l then A else A.map (·.add (l*T.siz e))) (h-l) (cap-l)) w':=λw'=>by
  simp[Instr.sliceAt,Instr.slice,run_underlying hu,fL (P:=P) (w:=w') true len cap l h (lo.map a.eval) (hi'.map a.eval) k1 k2 hlh z8,bB hT (by rw[hs];exact hz)]
 refine ⟨.slice (if cap=l then A else A.map (·.add (l*T.siz e))) (h-l) (cap-l),λw'=>?_,.osl id s (off+l) (h-l) (cap-l) _ z8 ?_⟩
 ·have:=hrun w';simp only[execOp,ho];rw[hA];simp[this]
 ·rcases hor with ⟨j1,j2⟩ | ⟨g,e',n,j1,rfl,j3,j4⟩
  ·exact .inl ⟨by omega,by omega⟩
  ·by_cases hcl:cap=l
   ·exact .inl ⟨by omega,by omega⟩
   ·refine .inr ⟨g,e',n,j1,?_,j3,?_⟩
    ·rw[if_neg hcl];simp[add_plain,hs,Nat.add_mul]
    ·rw[show off+l+(cap-l)=off+cap from by omega];exact j4
theorem H9 {o:Oper} {t ty:TypeId} {x y:Operand} (ho:o.op=.binOp .add t x y ty) {kk:IntKind} {m n:Int} (hx:evS σ x=(True,.int kk m)) (hy:evS σ y=(True,.int kk n)) :
  ∀μ S a w,Inv C μ S σ a w->∃u,(∀w',(execOp a.eval o).run P w'=.ok (.value u) w')/\Rd μ S w u (.int kk (kk.wrap (m+n))):=by
 intro μ S a w hi;have h1:=hi.evS x u9;have h2:=hi.evS y Qi;rw[hx] at h1;rw[hy] at h2;refine ⟨.int kk (kk.wrap (m+n)),λw'=>?_,.pure (.int _ _)⟩;simp only[execOp,ho];rw[h1.aL,h2.aL];simp[eqGuard_at_int,binOp,Op.intArith]
theorem lA (q:Nat) {H':List (Nat×Blk)} {l':List AV} (hH:dM σ.hp q=H':=by simp only[go_sem,dM];exact rfl) (hf:(H'.all λx=>!(av x.2).contains q)=true:=by simp only[go_sem];try exact rfl) (ht:σ.tm.map (kill q)=l':=by simp only[go_sem,kill];exact rfl):Le C σ ⟨l',H'⟩:=by
 subst hH ht;intro a w ⟨μ,S,hi⟩
 let ν:Nat->Option Nat:=λi=>if i=q then none else μ i
 have hm:∀i,i≠q->∀g,μ i=some g->ν i=some g:=λi h g hg=>by simp[ν,h,hg]
 have hv:∀i g,ν i=some g->i≠q/\μ i=some g:=λi g h=>by
  simp only[ν] at h;split at h
  ·cases h
  ·exact ⟨by assumption,h⟩
 refine ⟨ν,S,by simpa using hi.size,hi.defers,λt x hx=>?_,λid b hb'=>?_,λid g hg=>?_,λi j g h1 h2=>?_,hi.frm,hi.sb⟩
 ·simp only[W5] at hx;obtain ⟨y,hy,rfl⟩:=YX.1 hx;have h:=hi.tm t y hy;unfold kill;split
  ·exact .any _
  ·rename_i hc;exact h.less λid hid g hg=>hm id (λe=>by subst e;exact hc (by simpa using hid)) g hg
 ·have hb2:=hb';rw[bz] at hb';split at hb'
  ·cases hb'
  ·rename_i hq';refine (hi.hp id b hb').less (by simp only[ν];rw[if_neg (λe=>hq' e.symm)]) λi hid g hg=>hm i (λe=>?_) g hg
   subst e;have:=List.all_eq_true.1 hf _ (aP hb2);simp at this;exact this hid
 ·obtain ⟨h1,h2⟩:=hv id g hg;obtain ⟨⟨b,hb1⟩,h3⟩:=hi.dom id g h2;exact ⟨⟨b,by rw[bz,if_neg (λe=>h1 e.symm)];exact hb1⟩,h3⟩
 ·exact hi.inj i j g (hv i g h1).2 (hv j g h2).2
def sX (P:Program) (C:Ctx) (ops:Array Oper) (Q:Exit->Act->World->Prop) (n:Nat) (L:Array Bool) (σ:St):Prop:=∀a w,Rel C σ a w->wpAny P .any ops Q n L a w
theorem Mg {ops:Array Oper} {Q:Exit->Act->World->Prop} {n:Nat} {L:Array Bool} (hn:ops.size=n) (hL:bj ops.size 0=L) (h:sX P C ops Q n L σ):bp P C ops Q 0 σ:=by
 subst hn hL;intro a w hr;rw[Nat.sub_zero];exact h a w hr
theorem Dm {ops:Array Oper} {L:Array Bool} (hr:Region.ready .any ops L=[]) (h:Cw P C Ret k σ):sX P C ops (aft (eC C Ret) (sem P C (eC C Ret) k)) 0 L σ:=λa w hrel=>⟨hr,h a w hrel⟩
theorem YD {ops:Array Oper} {Q:Exit->Act->World->Prop} {n i:Nat} {L L':Array Bool} {o:Oper} (hr:Region.ready .any ops L=[i]) (hL:L.setIfInBounds i true=L') (ho:ops[i]? = some o) (ht:nT P C ops o σ σ') (h:sX P C ops Q n L' σ'):sX P C ops Q (n+1) L σ:=λa w hrel=>by
 subst hL;refine ⟨λh0=>(by rw[hr] at h0;cases h0),λj hj=>?_⟩;rw[hr,List.mem_singleton] at hj;subst hj;exact mu ho ht hrel λa' w' hr'=>h a' w' hr'
theorem L5 {ops:Array Oper} {Q:Exit->Act->World->Prop} {n i j:Nat} {L L1 L2:Array Bool} {o1 o2:Oper} {σ1 σ2:St} (hr:Region.ready .any ops L=[i,j]) (hL1:L.setIfInBounds i true=L1) (hL2:L.setIfInBounds j true=L2) (ho1:ops[i]? = some o1) (ho2:ops[j]? = some o2)
  (ht1:nT P C ops o1 σ σ1) (ht2:nT P C ops o2 σ σ2) (h1:sX P C ops Q n L1 σ1) (h2:sX P C ops Q n L2 σ2):sX P C ops Q (n+1) L σ:=λa w hrel=>by
 subst hL1 hL2;refine ⟨λh0=>(by rw[hr] at h0;cases h0),λm hm=>?_⟩;rw[hr] at hm
 rcases List.mem_cons.1 hm with rfl | hm
 ·exact mu ho1 ht1 hrel λa' w' hr'=>h1 a' w' hr'
 ·rw[List.mem_singleton] at hm;subst hm;exact mu ho2 ht2 hrel λa' w' hr'=>h2 a' w' hr'
theorem YT (hT:TabOK P T) {ops:Array Oper} {o:Oper} (hg:o.guard=none) {p:Prop} (h:ey T σ o.dst o.op=some (p,σ')) (hp:p):nT P C ops o σ σ':=λa w K Q' hr hK=>by
 obtain ⟨μ,S,hi⟩:=hr;rw[bk hi (show guardOf ops σ o.guard=some true from by rw[hg];rfl)];exact .inl (ch hT o h hp a w K Q' ⟨μ,S,hi⟩ hK)
end
end Go.Eng
namespace Go.Eng
end Go.Eng
namespace Go.Eng
section
variable {P:Program} {T:Tab} {C:Ctx} {σ σ':St}
def Safe (Z:List (Nat×List Nat×List Nat)) (s:St):Prop:=∀z,z∈Z->(∀t,t∉z.2.1->z.1∉refs (s.tm.getD t .any))/\∀b B,aa s.hp b=some B->b≠z.1->b∉z.2.2->bo z.1 B
def lQ (Z:List (Nat×List Nat×List Nat)) (p:Sp):Prop:=∀z,z∈Z->((∃t,p.dst=some t/\t∈z.2.1)\/z.1∉refs p.val)/\∀b,b∈p.new->b.1=z.1\/bo z.1 b.2
def K5 (P:Program) (C:Ctx) (ops:Array Oper) (Z:List (Nat×List Nat×List Nat)) (o:Oper) (e:Ef) (U:St):Prop:=
 ∀s,s.tm.length=U.tm.length->(∀x,(x∈e.rd\/x∈e.wr)->bn U s x)->Safe Z s->nT P C ops o s (e.app s)
def kA (P:Program) (C:Ctx) (ops:Array Oper) (Q:Exit->Go.Act->World->Prop) (k:Nat) (Z:List (Nat×List Nat×List Nat)) (acc:dw) (l:List Oper) (σ:St):Prop:=
 Safe Z σ->∃l1 l2 es,l=l1++l2/\l1.length=es.length/\(∀e,e∈es->EfOK e)/\(∀m o e,l1[m]? = some o->es[m]? = some e->K5 P C ops Z o e (efU es m σ))/\(∀i,i<=es.length->Safe Z (efU es i σ)) /\
  np ops k (acc++skE es)=true/\bp P C ops Q (k+acc.length+es.length) (efU es es.length σ)
theorem tz (e:Ef) (es:List Ef) (i:Nat) (σ:St):efU (e::es) (i+1) σ=efU es i (e.app σ):=by simp[efU]
theorem uB {ops:Array Oper} {Q:Exit->Go.Act->World->Prop} {k:Nat} {Z:List (Nat×List Nat×List Nat)} {acc:dw} {o:Oper} {l:List Oper} {e:Ef} (he:EfOK e) (hr:K5 P C ops Z o e σ) (hs:Safe Z σ->Safe Z (e.app σ))
  (hk:kA P C ops Q k Z (acc++[(e.wr,e.rd)]) l (e.app σ)):kA P C ops Q k Z acc (o::l) σ:=by
 intro h0;obtain ⟨l1,l2,es,h1,h2,h3,h4,h5,h6,h7⟩:=hk (hs h0);refine ⟨o::l1,l2,e::es,by rw[h1];rfl,by simp[h2],λx hx=>?_,λm o' e' ho' he'=>?_,λi hi=>?_,?_,?_⟩
 ·rcases List.mem_cons.1 hx with rfl | hx
  ·exact he
  ·exact h3 x hx
 ·cases m with
  | zero=>
   simp only[List.getElem?_cons_zero,gL] at ho' he';subst ho' he';rw[my];exact hr
  | succ m=>
   rw[tz];exact h4 m o' e' (by simpa using ho') (by simpa using he')
 ·cases i with
  | zero=>rw[my];exact h0
  | succ i=>rw[tz];exact h5 i Z6
 ·have:acc++skE (e::es)=acc++[(e.wr,e.rd)]++skE es:=by simp[skE]
  rw[this];exact h6
 ·have:k+acc.length+(e::es).length=k+(acc++[(e.wr,e.rd)]).length+es.length:=by simp;omega
  rw[this,show (e::es).length=es.length+1 from rfl,tz];exact h7
theorem jK {ops:Array Oper} {Q:Exit->Go.Act->World->Prop} {k:Nat} {Z:List (Nat×List Nat×List Nat)} {acc:dw} {l:List Oper} (hc:np ops k acc=true) {j:Nat} (hj:k+acc.length=j) (h:bp P C ops Q j σ):kA P C ops Q k Z acc l σ:=by
 subst hj;intro h0;refine ⟨[],l,[],rfl,rfl,λe he=>(by cases he),λm o e ho he=>(by simp at ho),λi hi=>?_,by simpa[skE] using hc,by simpa[efU] using h⟩;rw[show i=0 by simpa using hi,my];exact h0
theorem fM {ops:Array Oper} {Q:Exit->Go.Act->World->Prop} {k:Nat} (Z:List (Nat×List Nat×List Nat)) {l:List Oper} (hl:ops.toList.drop k=l) (hs:Safe Z σ) (h:kA P C ops Q k Z [] l σ):bp P C ops Q k σ:=by
 subst hl;obtain ⟨l1,l2,es,h1,h2,h3,h4,h5,h6,h7⟩:=h hs;refine CH (l:=l1) (es:=es) (by simpa using h6) h2 (λi hi=>?_) h3 (λm o e ho he s hlen hag hall=>?_) (by simpa using h7)
 ·rw[<-Array.getElem?_toList,<-List.getElem?_drop,h1,YU z8]
 ·have hm:m<es.length:=(W9.1 he).1;refine h4 m o e ho he s (by rw[hlen,sw h3 σ m z8]) hag λz hz=>⟨λt ht=>?_,λb B hb hne hnc=>?_⟩
  ·obtain ⟨i,hi,ha⟩:=hall (.tm t);have ha:s.tm.getD t .any=(efU es i σ).tm.getD t .any:=ha;rw[ha];exact (h5 i hi z hz).1 t ht
  ·obtain ⟨i,hi,ha⟩:=hall (.blk b);have ha:aa s.hp b=aa (efU es i σ).hp b:=ha;rw[ha] at hb;exact (h5 i hi z hz).2 b B hb hne hnc
theorem GS {Z:List (Nat×List Nat×List Nat)} {p:Sp} (hp:lQ Z p) {s:St} (hs:Safe Z s):Safe Z (p.app s):=λz hz=>by
 have htm:(p.app s).tm=match p.dst with | some t=>s.tm.set t p.val | none=>s.tm:=by unfold Sp.app St.put;cases p.dst<;>rfl
 have hhp:(p.app s).hp=p.new++s.hp:=by unfold Sp.app;rw[St.gY]
 obtain ⟨h1,h2⟩:=hp z hz;refine ⟨λt ht=>?_,λb B hb hne hnc=>?_⟩
 ·rw[htm];cases e:p.dst with
  | none=>exact (hs z hz).1 t ht
  | some u=>
   show z.1∉refs ((s.tm.set u p.val).getD t .any)
   rw[bL];split
   ·rename_i hu;subst hu;split
    ·rcases h1 with ⟨v,hv,hv2⟩ | h1
     ·rw[e] at hv;injection hv with hv;subst hv;exact absurd hv2 ht
     ·exact h1
    ·simp[refs]
   ·exact (hs z hz).1 t ht
 ·rw[hhp,az] at hb;split at hb
  ·have:=h2 (b,B) (aP hb)
   rcases this with h | h
   ·exact absurd h hne
   ·exact h
  ·exact (hs z hz).2 b B hb hne hnc
theorem Js {ops:Array Oper} {Z:List (Nat×List Nat×List Nat)} {o:Oper} {p:Sp} (h:Rob P C ops o p σ) (hf:∀b,b∈p.new->Loc.blk b.1∉p.rd->aa σ.hp b.1=none):K5 P C ops Z o (efS p) σ:=λs _ hag _=>
 h s (λx hx=>hag x (.inl hx)) λb hb hn=>Eq.trans (show aa s.hp b.1=aa σ.hp b.1 from hag (.blk b.1) (.inr (Cy ⟨b,hb,rfl⟩))) (hf b hb hn)
theorem pT {ops:Array Oper} {Q:Exit->Go.Act->World->Prop} {k:Nat} {Z:List (Nat×List Nat×List Nat)} {acc:dw} {o:Oper} {l:List Oper} {p:Sp} (h:Rob P C ops o p σ) (hf:∀b,b∈p.new->Loc.blk b.1∉p.rd->aa σ.hp b.1=none) (hz:lQ Z p)
  {s1:List Loc×List Loc} (hs:(p.wr,p.rd)=s1) (ha:p.app σ=σ') (hk:kA P C ops Q k Z (acc++[s1]) l σ'):kA P C ops Q k Z acc (o::l) σ:=by
 subst hs ha;exact uB (e:=efS p) (FC p) (Js h hf) (GS hz) hk
theorem uC {ops:Array Oper} {Q:Exit->Go.Act->World->Prop} {k:Nat} {Z:List (Nat×List Nat×List Nat)}:∀{l1:List Oper} {ps:List Sp} {acc:dw} {l:List Oper} {σ:St},dG P C ops l1 ps σ->(∀p,p∈ps->p.new=[])->(∀p,p∈ps->lQ Z p) ->
  kA P C ops Q k Z (acc++iM ps) l (cX ps σ)->kA P C ops Q k Z acc (l1++l) σ
 | [],[],acc,l,σ,_,_,_,hk=>by simpa[iM,cX] using hk
 | o::l1,p::ps,acc,l,σ,hc,hn,hz,hk=>by
  refine pT hc.1 (λb hb _=>by rw[hn p List.mem_cons_self] at hb;cases hb) (hz p List.mem_cons_self) rfl rfl ?_;refine uC hc.2 (λq hq=>hn q (List.mem_cons_of_mem _ hq)) (λq hq=>hz q (List.mem_cons_of_mem _ hq)) ?_;have e:acc++[(p.wr,p.rd)]++iM ps=acc++iM (p::ps):=by simp[iM]
  rw[e];exact hk
 | [],_::_,_,_,_,h,_,_,_=>h.elim
 | _::_,[],_,_,_,h,_,_,_=>h.elim
theorem zN (hT:TabOK P T) (m:Nat) {ops:Array Oper} {Q:Exit->Go.Act->World->Prop} {k:Nat} {Z:List (Nat×List Nat×List Nat)} {acc:dw} {l l1 l2:List Oper} {p:Prop} {ps:List Sp} {sk:dw}
  (h1:l.take m=l1:=by simp only[go_sem];exact rfl) (h2:l.drop m=l2:=by simp only[go_sem];exact rfl) (h:lO T ops l1 σ=some (p,ps,[],σ'):=by simp only[go_sem];try exact rfl) (hp:p:=by simp[go_sem]) (hs:iM ps=sk:=by simp only[go_sem];exact rfl)
  (hz:∀q,q∈ps->lQ Z q:=by simp[go_sem,lQ]) (hk:kA P C ops Q k Z (acc++sk) l2 σ'):kA P C ops Q k Z acc l σ:=by
 subst hs h1 h2;obtain ⟨g1,g2,g3⟩:=pR h;obtain ⟨q1,k1,k2⟩:=jI (P:=P) (C:=C) hT ops (l.take m) σ h hp (l2:=[]) (ps2:=[]) trivial w8;simp only[List.append_nil] at k1 k2;subst k1;have:=uC (Z:=Z) (Q:=Q) (k:=k) (acc:=acc) (l:=l.drop m) k2 (λq hq=>by
  obtain ⟨i,hi⟩:=YC hq;exact g3 i q hi) hz (by rw[g2];exact hk)
 rwa [List.take_append_drop] at this
theorem zC {ops:Array Oper} {Q:Exit->Go.Act->World->Prop} {k:Nat} {Z:List (Nat×List Nat×List Nat)} {acc:dw} {o:Oper} {l:List Oper} {c:Operand} {args:Array Operand} {ats:Array TypeId} {f:FuncId} {fn:Func} {xs:List AV} {r:AV} {p:Prop} {s1:List Loc×List Loc}
  (F:P.funcs[f]? = some fn) (ho:o.op=.call { callee:=.value c,args,argTypes:=ats }:=by rfl) (hg:o.guard=none:=by rfl) (h:ax σ c args.toList=some (p,f,xs):=by simp only[go_sem];try exact rfl) (hp:p:=by simp[go_sem])
  (c1:(fn.name == "runtime.NumGoroutine")=false:=by kernel_rfl) (c2:fn.body.isSome=true:=by rfl) (hx:aA xs=[]:=by simp[go_sem]) (hf:ai P f xs [] λr' _=>r'=r) (hr:refs r=[]:=by simp[go_sem])
  (hs:((ew ops σ o c args.toList r).wr,(ew ops σ o c args.toList r).rd)=s1:=by simp only[go_sem];exact rfl) (ha:σ.put o.dst r=σ':=by simp only[go_sem];exact rfl) (hk:kA P C ops Q k Z (acc++[s1]) l σ'):kA P C ops Q k Z acc (o::l) σ:=
 pT (Av ho hg h hp ⟨fn,F,c1,c2⟩ hx hr hf) (λb hb _=>by cases hb) (λz _=>⟨.inr (by show z.1∉refs r;rw[hr];simp),λb hb=>by cases hb⟩) hs Wq hk
theorem zW (hT:TabOK P T) {ops:Array Oper} {Q:Exit->Go.Act->World->Prop} {k:Nat} {Z:List (Nat×List Nat×List Nat)} {acc:dw} {o:Oper} {l:List Oper} {d:Nat} {p:Prop} {b:Blk} {x:AV} {s1:List Loc×List Loc}
  (hd:o.dst=some d:=by rfl) (hg:guardOf ops σ o.guard=some true:=by simp only[go_sem];try exact rfl) (h:mW T σ d o.op=some (p,b,x):=by simp only[go_sem];try exact rfl) (hp:p:=by simp[go_sem]) (hf:aa σ.hp d=none:=by simp only[go_sem];try exact rfl)
  (hs:([Loc.tm d,Loc.blk d],bW ops o.guard++aQ σ o.op.operands.toList)=s1:=by simp only[go_sem];exact rfl) (hz:lQ Z ⟨some d,x,[(d,b)],[]⟩:=by simp[go_sem,lQ,bo]) (ha:St.put ⟨σ.tm,(d,b)::σ.hp⟩ (some d) x=σ':=by simp only[go_sem];exact rfl)
  (hk:kA P C ops Q k Z (acc++[s1]) l σ'):kA P C ops Q k Z acc (o::l) σ:=by
 refine pT (p:=⟨some d,x,[(d,b)],bW ops o.guard++aQ σ o.op.operands.toList⟩) ?_ (λc hc _=>by rw[List.mem_singleton.1 hc];exact hf) hz (by rw[<-hs];rfl) (by rw[<-ha];rfl) hk;intro s hagree hfree a w K Q' hr hK;have hg':guardOf ops s o.guard=some true:=by rw[iu (λx hx=>hagree x (YS _ hx))];exact hg
 obtain ⟨μ,S,hi⟩:=hr;rw[bk hi hg'];refine .inl ?_;have hn:mW T s d o.op=some (p,b,x):=by rw[rH (λx hx=>hagree x (YI _ hx))];exact h
 have hfd:aa s.hp d=none:=by
  by_cases h:Loc.blk d∈bW ops o.guard++aQ σ o.op.operands.toList
  ·exact Eq.trans (show aa s.hp d=aa σ.hp d from hagree _ h) hf
  ·exact hfree (d,b) w8 h
 exact rI hT hd hn hp hfd a w K Q' ⟨μ,S,hi⟩ hK
theorem zB (hT:TabOK P T) {ops:Array Oper} {Q:Exit->Go.Act->World->Prop} {k:Nat} {Z:List (Nat×List Nat×List Nat)} {acc:dw} {o:Oper} {l:List Oper} {t:TypeId} {parts:Array (Nat×Operand)} {p:Prop} {x:AV} {s1:List Loc×List Loc}
  (ho:o.op=.build t parts:=by rfl) (hg:guardOf ops σ o.guard=some true:=by simp only[go_sem];try exact rfl) (h:fC T σ t parts.toList=some (p,x):=by simp only[go_sem];try exact rfl) (hp:p:=by simp[go_sem])
  (hs:((Sp.mk o.dst x [] (bW ops o.guard++aQ σ (parts.toList.map (·.2)))).wr,bW ops o.guard++aQ σ (parts.toList.map (·.2)))=s1:=by simp only[go_sem];exact rfl) (hz:lQ Z ⟨o.dst,x,[],[]⟩:=by simp[go_sem,lQ])
  (ha:σ.put o.dst x=σ':=by simp only[go_sem];exact rfl) (hk:kA P C ops Q k Z (acc++[s1]) l σ'):kA P C ops Q k Z acc (o::l) σ:=by
 refine pT (iB (x:=x) (rd:=aQ σ (parts.toList.map (·.2))) hg (.inl rfl) (λ_ s hag=>?_)) (λb hb _=>by cases hb) hz (by rw[<-hs]) Zd hk;have hb2:fC T s t parts.toList=some (p,x):=by
  rw[<-h];unfold fC;rw[lL (λq hq=>cm λz hz=>hag z (dc (W8.2 ⟨q,hq,rfl⟩) z hz))]
 refine ch hT o (p:=p) ?_ hp;rw[ho];simp only[ey,hb2,Option.map_some]
theorem uz {Z:List (Nat×List Nat×List Nat)} (h:∀z,z∈Z->z.1∉aA σ.tm/\∀q,q∈σ.hp->q.1∈z.2.2\/q.1=z.1\/bo z.1 q.2):Safe Z σ:=λz hz=>by
 obtain ⟨h1,h2⟩:=h z hz;refine ⟨λt _ hi=>?_,λb B hb hne hnc=>?_⟩
 ·rw[List.getD_eq_getElem?_getD] at hi;cases e:σ.tm[t]? with
  | none=>rw[e] at hi;simp[refs] at hi
  | some x=>rw[e] at hi;exact h1 (aW e hi)
 ·rcases h2 (b,B) (aP hb) with h | h | h
  ·exact absurd h hnc
  ·exact absurd h hne
  ·exact h
def dJ:List (Nat×Blk)->List (Nat×Blk)
 | []=>[]
 | (i,b)::r=>(i,b)::(dJ r).filter λq=>!(q.1==i)
theorem mL (i id:Nat):∀h:List (Nat×Blk),i≠id->aa (h.filter λq=>!(q.1==i)) id=aa h id
 | [],_=>rfl
 | (j,b)::r,hne=>by
  rw[List.filter_cons]
  by_cases e:j=i
  ·subst e;rw[if_neg w8,mL j id r hne];simp only[aa];rw[if_neg hne]
  ·rw[if_pos We];simp only[aa];rw[mL i id r hne]
theorem fI (id:Nat):∀h:List (Nat×Blk),aa (dJ h) id=aa h id
 | []=>rfl
 | (i,b)::r=>by
  simp only[dJ,aa]
  by_cases e:i=id
  ·rw[if_pos e,if_pos e]
  ·rw[if_neg e,if_neg e,mL i id _ e,fI id r]
theorem vE:∀(h:List (Nat×Blk)) (q:Nat×Blk),q∈dJ h->aa h q.1=some q.2
 | [],q,hq=>by cases hq
 | (i,b)::r,q,hq=>by
  simp only[dJ] at hq;simp only[aa]
  rcases List.mem_cons.1 hq with rfl | hq
  ·rw[if_pos rfl]
  ·obtain ⟨h1,h2⟩:=YL.1 hq;have:q.1≠i:=by simpa using h2
   rw[if_neg (λe=>this e.symm)];exact vE r q h1
theorem vT {id:Nat}:∀{h:List (Nat×Blk)},(∀q,q∈h->q.1≠id->bo id q.2)->ek id h
 | [],_=>trivial
 | (i,b)::_,h=>⟨λhne=>h (i,b) List.mem_cons_self hne,vT λq hq=>h q (List.mem_cons_of_mem _ hq)⟩
def efA (d src id e S len:Nat) (rows:List (List AV)) (rd:List Loc):Ef:=
 ⟨[.tm d,.tm src,.blk d,.blk id],rd,λs=>⟨(s.tm.set src .any).set d (.osl d S 0 len),(d,.cells e S rows)::aF s.hp id (.cells e S [])⟩⟩
theorem FB (d src id e S len:Nat) (rows:List (List AV)) (rd:List Loc):EfOK (efA d src id e S len rows rd):=by
 refine ⟨λs=>by simp[efA],λs x hx=>?_,λs s' hl x hx=>?_⟩
 ·cases x with
  | tm t=>
   show ((s.tm.set src .any).set d _).getD t .any=s.tm.getD t .any
   rw[bL,bL,if_neg,if_neg]
   ·rintro rfl;exact hx Wl
   ·rintro rfl;exact hx Wl
  | blk b=>
   show aa ((d,_)::aF s.hp id _) b=aa s.hp b
   simp only[aa];rw[if_neg,aj,if_neg]
   ·rintro rfl;exact hx Wl
   ·rintro rfl;exact hx Wl
 ·cases x with
  | tm t=>
   show ((s'.tm.set src .any).set d _).getD t .any=((s.tm.set src .any).set d _).getD t .any
   rw[bL,bL,bL,bL,YR,YR,hl];have hx:t=d\/t=src:=by simpa[efA] using hx
   rcases hx with rfl | rfl
   ·rw[if_pos rfl,if_pos rfl]
   ·split
    ·rfl
    ·rw[if_pos rfl,if_pos rfl]
  | blk b=>
   show aa ((d,_)::aF s'.hp id _) b=aa ((d,_)::aF s.hp id _) b
   have hx:b=d\/b=id:=by simpa[efA] using hx
   simp only[aa];split
   ·rfl
   ·rename_i hne
    rcases hx with rfl | rfl
    ·exact absurd rfl hne
    ·rw[aj,aj,if_pos rfl,if_pos rfl]
theorem vu (hT:TabOK P T) {ops:Array Oper} {o:Oper} {src:Nat} {y:Operand} {t e:TypeId} {d id S len:Nat} {R rows:List (List AV)} {q:Prop} {v:AV} {rd:List Loc} {s:St}
  (ho:o.op=.call { callee:=.builtin .append,args:=#[.tmp src,y],argTypes:=#[t,t] }) (hd:o.dst=some d) (hg:o.guard=none) (ht:T.und t=.sl e)
  (hx0:evS s (.tmp src)=(True,.osl id S 0 len)) (hb0:aa s.hp id=some (.cells e S R)) (hy0:evS s y=(q,v)) (hq:q) (hv0:cP s v=some rows) (hS:T.siz e=S) (h0:S≠0) (h1:T.byt e≠0) (h2:rowsOf S rows) (h3:∀i s off ln,v=.osl i s off ln->rows.length=ln)
  (h4:ec rows=true) (h5:(2*(len+rows.length)+768)*T.byt e<=281474976710656) (h6:jL v≠some id) (h7:len<=R.length) (h8:bo id (.cells e S (R.take len++rows))) (h9:aa s.hp d=none) (h10:d≠id)
  (hsf:(∀t,t≠src->id∉refs (s.tm.getD t .any))/\∀b B,aa s.hp b=some B->b≠id->bo id B)
  (hev:∀z,evS ⟨s.tm,dJ s.hp⟩ z=evS s z):nT P C ops o s ((efA d src id e S (len+rows.length) (R.take len++rows) rd).app s):=by
 subst hS;intro a w K Q' hrel hK;have hrel':Rel C ⟨s.tm,dJ s.hp⟩ a w:=jF (s:=s) (s':=⟨s.tm,dJ s.hp⟩) rfl (λ_=>rfl) (λi=>(fI i s.hp).symm) a w hrel;obtain ⟨μ,S0,hi⟩:=hrel';rw[bk hi (show guardOf ops ⟨s.tm,dJ s.hp⟩ o.guard=some true from by rw[hg];rfl)];refine .inl ?_;have hx':evS ⟨s.tm,dJ s.hp⟩ (.tmp src)=(True,.osl id (T.siz e) 0 len):=by rw[hev];exact hx0
 have hy':evS ⟨s.tm,dJ s.hp⟩ y=(q,v):=by rw[hev];exact hy0
 have hbb:aa (dJ s.hp) id=some (.cells e (T.siz e) R):=by rw[fI];exact hb0
 have hdn:aa (dJ s.hp) d=none:=by rw[fI];exact h9
 have hsr:cP ⟨s.tm,dJ s.hp⟩ v=some rows:=by
  rw[<-hv0];cases v with
  | osl i s' off ln=>simp only[cP,fI]
  | _=>rfl
 have hfree:ek id (dJ s.hp):=vT λz hz hne=>hsf.2 z.1 z.2 (vE s.hp z hz) hne
 have hstep:ey T ⟨s.tm,dJ s.hp⟩ o.dst o.op=some (True/\q/\(T.siz e≠0/\T.byt e≠0/\rowsOf (T.siz e) rows/\(∀i s off ln,v=.osl i s off ln->rows.length=ln)/\ec rows=true/\(2*(len+rows.length)+768)*T.byt e<=281474976710656 /\
    (d=id\/aa (dJ s.hp) d=none)/\jL v≠some id/\len<=R.length/\ek id (dJ s.hp)/\bo id (.cells e (T.siz e) (R.take len++rows))),
   (⟨s.tm.map (kill id),(d,.cells e (T.siz e) (R.take len++rows))::dM (dJ s.hp) id⟩:St).put (some d) (.osl d (T.siz e) 0 (len+rows.length))):=by
  rw[ho,hd];simp only[ey,hx',hy',if_true,fy,ht,hsr,hbb,and_self,Option.map_some]
 refine ch hT o hstep ⟨trivial,hq,h0,h1,h2,h3,h4,h5,.inr hdn,h6,h7,hfree,h8⟩ a w K Q' ⟨μ,S0,hi⟩ λa' w' hr'=>hK a' w' ?_
 obtain ⟨μ',S',hi'⟩:=hr';have hidn:aa ((⟨s.tm.map (kill id),(d,.cells e (T.siz e) (R.take len++rows))::dM (dJ s.hp) id⟩:St).put (some d) (.osl d (T.siz e) 0 (len+rows.length))).hp id=none:=by
  rw[St.gY];simp only[aa];rw[if_neg h10,bz,if_pos rfl]
 refine ⟨μ',S',by rw[hi'.size];simp[efA,St.put],hi'.defers,λj z hz=>?_,λj B hB=>?_,λj g hj=>?_,hi'.inj,hi'.frm,hi'.sb⟩
 ·replace hz:((s.tm.set src .any).set d (.osl d (T.siz e) 0 (len+rows.length)))[j]? = some z:=hz
  rw[YP] at hz
  by_cases e1:d=j
  ·subst e1;rw[if_pos rfl] at hz;refine hi'.tm d z ?_
   show ((s.tm.map (kill id)).set d _)[d]? = some z
   rw[YP,if_pos rfl];simpa using hz
  ·rw[if_neg e1,YP] at hz
   by_cases e2:src=j
   ·subst e2;rw[if_pos rfl] at hz;split at hz
    ·injection hz with hz;subst hz;exact .any _
    ·cases hz
   ·rw[if_neg e2] at hz;refine hi'.tm j z ?_
    show ((s.tm.map (kill id)).set d _)[j]? = some z
    rw[YP,if_neg e1,W5,hz];have hnr:=hsf.1 j (λh=>e2 h.symm);rw[List.getD_eq_getElem?_getD,hz] at hnr;simp only[Option.map_some,kill];rw[if_neg (by simpa using hnr)]
 ·replace hB:aa ((d,.cells e (T.siz e) (R.take len++rows))::aF s.hp id (.cells e (T.siz e) [])) j=some B:=hB
  simp only[aa] at hB;split at hB
  ·rename_i e1;refine hi'.hp j B ?_;rw[St.gY];simp only[aa];rw[if_pos e1];exact hB
  ·rename_i e1;rw[aj] at hB;split at hB
   ·rename_i e2;subst e2;injection hB with hB
    subst hB;exact .inl ⟨rfl,hi'.fresh hidn⟩
   ·rename_i e2;refine hi'.hp j B ?_;rw[St.gY];simp only[aa];rw[if_neg e1,bz,if_neg e2,fI];exact hB
 ·obtain ⟨⟨B,hB⟩,h12⟩:=hi'.dom j g hj;refine ⟨?_,h12⟩
  show ∃b,aa ((d,.cells e (T.siz e) (R.take len++rows))::aF s.hp id (.cells e (T.siz e) [])) j=some b
  rw[St.gY] at hB;simp only[aa] at hB ⊢;split
  ·exact ⟨_,rfl⟩
  ·rename_i e1;rw[if_neg e1,bz] at hB;rw[aj];split
   ·exact ⟨_,rfl⟩
   ·rename_i e2;rw[if_neg e2,fI] at hB;exact ⟨B,hB⟩
theorem zA (hT:TabOK P T) {ops:Array Oper} {Q:Exit->Go.Act->World->Prop} {k:Nat} {Z:List (Nat×List Nat×List Nat)} {acc:dw} {o:Oper} {l:List Oper} {src:Nat} {y:Operand} {t e:TypeId} {d id S len:Nat} {R rows:List (List AV)} {q:Prop} {v:AV} {s1:List Loc×List Loc} {n:Nat} {rows':List (List AV)}
  (ho:o.op=.call { callee:=.builtin .append,args:=#[.tmp src,y],argTypes:=#[t,t] }:=by rfl) (hd:o.dst=some d:=by rfl) (hg:o.guard=none:=by rfl) (ht:T.und t=.sl e:=by rfl)
  (hx:evS σ (.tmp src)=(True,.osl id S 0 len):=by simp only[go_sem];try exact rfl) (hb:aa σ.hp id=some (.cells e S R):=by simp only[go_sem];try exact rfl) (hy:evS σ y=(q,v):=by simp only[go_sem];try exact rfl) (hq:q:=by trivial) (hv:cP σ v=some rows:=by simp only[go_sem];try exact rfl)
  (hS:T.siz e=S:=by rfl) (h0:S≠0:=by decide) (h1:T.byt e≠0:=by decide) (h2:rowsOf S rows) (h3:∀i s off ln,v=.osl i s off ln->rows.length=ln:=by simp[go_sem]) (h4:ec rows=true:=by simp[go_sem]) (h5:(2*(len+rows.length)+768)*T.byt e<=281474976710656)
  (h6:jL v≠some id:=by simp[go_sem]) (h7:len<=R.length) (h8:bo id (.cells e S (R.take len++rows))) (h9:aa σ.hp d=none:=by simp only[go_sem];try exact rfl) (h10:d≠id:=by decide) (h11:(id,[src],[])∈Z:=by simp)
  (hs:([Loc.tm d,Loc.tm src,Loc.blk d,Loc.blk id],aQ σ [.tmp src,y]++(match jL v with | some i=>[Loc.blk i] | none=>[]))=s1:=by simp only[go_sem];exact rfl)
  (hzz:∀z,z∈Z->z.1≠d/\bo z.1 (.cells e S (R.take len++rows))\/(z.1=d/\d∈z.2.1)) (hn:len+rows.length=n) (hr:R.take len++rows=rows')
  (ha:(⟨(σ.tm.set src .any).set d (.osl d S 0 n),(d,.cells e S rows')::aF σ.hp id (.cells e S [])⟩:St)=σ':=by simp only[go_sem];exact rfl)
  (hk:kA P C ops Q k Z (acc++[s1]) l σ'):kA P C ops Q k Z acc (o::l) σ:=by
 subst hs ha hn hr hS;have hA:=FB d src id e (T.siz e) (len+rows.length) (R.take len++rows) (aQ σ [.tmp src,y]++(match jL v with | some i=>[Loc.blk i] | none=>[]));generalize hrd:(aQ σ [.tmp src,y]++(match jL v with | some i=>[Loc.blk i] | none=>[]))=rd at hk hA;refine uB (e:=efA d src id e (T.siz e) (len+rows.length) (R.take len++rows) rd) hA ?_ ?_ hk
 ·intro s hlen hag hsafe;have hag2:∀z,z∈aQ σ [.tmp src,y]->bn σ s z:=λz hz=>hag z (.inl (hrd▸YS _ hz))
  refine vu hT ho hd hg ht (hx▸cm λz hz=>hag2 z (dc (List.mem_cons_self ..) z hz)) (hb▸hag (.blk id) (.inr Wl)) (hy▸cm λz hz=>hag2 z (dc (List.mem_cons_of_mem _ (List.mem_singleton.2 rfl)) z hz)) hq ?_ rfl h0 h1 h2 h3 h4 h5 h6 h7 h8 (h9▸hag (.blk d) (.inr Wl)) h10 ⟨λt ht=>(hsafe _ h11).1 t (by simpa using ht),λb B hB hne=>(hsafe _ h11).2 b B hB hne w8⟩ (λz=>by cases z<;>rfl);rw[<-hv];cases v with
  | osl i s' off ln=>
   have:=hag (.blk i) (.inl (hrd▸YI _ (by simp[jL])));simp only[cP];rw[show aa s.hp i=aa σ.hp i from this]
  | _=>rfl
 ·intro h0' z hz;refine ⟨λj hj=>?_,λb B hB hne hnc=>?_⟩
  ·show z.1∉refs (((σ.tm.set src .any).set d _).getD j .any)
   rw[bL,bL];split
   ·rename_i e1;subst e1;split
    ·rcases hzz z hz with ⟨h12,_⟩ | ⟨h12,h13⟩
     ·simpa[refs] using h12
     ·exact absurd h13 hj
    ·simp[refs]
   ·split
    ·simp[refs]
    ·exact (h0' z hz).1 j hj
  ·replace hB:aa ((d,.cells e (T.siz e) (R.take len++rows))::aF σ.hp id (.cells e (T.siz e) [])) b=some B:=hB
   simp only[aa] at hB;split at hB
   ·rename_i e1;injection hB with hB
    subst hB
    rcases hzz z hz with ⟨_,h12⟩ | ⟨h12,_⟩
    ·exact h12
    ·exact absurd (e1.symm.trans h12.symm) hne
   ·rw[aj] at hB;split at hB
    ·injection hB with hB
     subst hB;simp[bo]
    ·exact (h0' z hz).2 b B hB hne hnc
end
end Go.Eng
namespace Go.Eng
section
variable {P:Program} {C:Ctx} {σ:St}
def qN:AV->AV
 | .nils=>.sl [] | .any=>.any | .int k n=>.int k n | .bool b=>.bool b | .str s=>.str s | .nilp=>.nilp | .nili=>.nili | .ifc=>.ifc | .nilm=>.nilm | .sl r=>.sl r | .rp c o=>.rp c o | .rm m=>.rm m | .fn f c=>.fn f c
 | .agg c=>.agg (c.map λ| .nils=>.sl [] | x=>x) | .tup v=>.tup v | .ptr a b c d=>.ptr a b c d | .osl a b c d=>.osl a b c d | .mp i=>.mp i | .exs a b c d e=>.exs a b c d e | .cnd c v=>.cnd c v
theorem GA {μ:Nat->Option Nat} {S:Nat->Prop} {w:World} {v:Value} (h:Rd μ S w v .nils):Rd μ S w v (.sl []):=h.wk (.inr (.inr ⟨rfl,.inl rfl⟩))
theorem Rd.qN {μ:Nat->Option Nat} {S:Nat->Prop} {w:World} {v:Value} {x:AV} (h:Rd μ S w v x):Rd μ S w v (Eng.qN x):=by
 cases x with
 | nils=>exact GA h
 | agg c=>
  have key:∀{cs:Array Value} {f:AV->AV},(∀j x,c[j]? = some x->Rd μ S w (cs.getD j undef) (f x))->∀j x,(c.map f)[j]? = some x->Rd μ S w (cs.getD j undef) x:=fun {cs f} h j x hx=>by
   rw[W5] at hx;cases e:c[j]? with
   | none=>rw[e] at hx;cases hx
   | some y=>rw[e] at hx;injection hx with hx;subst hx;exact h j y e
  have one:∀{v:Value} (x:AV),Rd μ S w v x->Rd μ S w v (match x with | .nils=>.sl [] | x=>x):=λx hx=>by
   split
   ·exact GA hx
   ·exact hx
  cases h with
  | pure h=>
   cases h with
   | agg cs _ hl hr=>exact .agg cs _ (by rw[List.length_map];exact hl) (key λj x hx=>one x (.pure (hr j x hx)))
  | agg cs _ hl hr=>exact .agg cs _ (by rw[List.length_map];exact hl) (key λj x hx=>one x (hr j x hx))
 | _=>exact h
theorem au (id:Nat) {e s:Nat} {rows rows':List (List AV)} (hb:aa σ.hp id=some (.cells e s rows):=by simp only[go_sem];exact rfl) (hr:rows.map (λrow=>row.map qN)=rows':=by simp only[go_sem,qN];exact rfl):Le C σ ⟨σ.tm,aF σ.hp id (.cells e s rows')⟩:=by
 subst hr;rintro a w ⟨μ,S,hi⟩;refine ⟨μ,S,hi.size,hi.defers,hi.tm,λi b hb'=>?_,λi q hq=>?_,hi.inj,hi.frm,hi.sb⟩
 ·simp only[aj] at hb';split at hb'
  ·rename_i h1;injection hb' with hb'
   subst h1 hb'
   rcases hi.hp id _ hb with ⟨rfl,k2⟩ | ⟨g,c,k1,k2,k3,k4,k5⟩
   ·exact .inl ⟨by simp,k2⟩
   ·refine .inr ⟨g,c,k1,k2,by rw[List.length_map];exact k3,λrow hrow=>?_,λi row hi' q x hx=>?_⟩
    ·obtain ⟨r0,h0,rfl⟩:=W8.1 hrow;rw[List.length_map];exact k4 r0 h0
    ·rw[W5] at hi';cases e0:rows[i]? with
     | none=>rw[e0] at hi';cases hi'
     | some r0=>
      rw[e0] at hi';simp only[Option.map_some,gL] at hi';subst hi';rw[W5] at hx;cases e1:r0[q]? with
      | none=>rw[e1] at hx;cases hx
      | some y=>
       rw[e1] at hx;simp only[Option.map_some,gL] at hx;subst hx;exact (k5 i r0 e0 q y e1).qN
  ·exact hi.hp i b hb'
 ·obtain ⟨⟨b,h1⟩,h2⟩:=hi.dom i q hq;refine ⟨?_,h2⟩;simp only[aj];split
  ·exact ⟨_,rfl⟩
  ·exact ⟨b,h1⟩
theorem xF (t:Nat) {x y:AV} (hx:σ.tm.getD t .any=x) (hy:qN x=y):Le C σ ⟨σ.tm.set t y,σ.hp⟩:=by
 subst hx hy;rintro a w ⟨μ,S,hi⟩;refine ⟨μ,S,by rw[YR];exact hi.size,hi.defers,λj z hz=>?_,hi.hp,hi.dom,hi.inj,hi.frm,hi.sb⟩;rw[YP] at hz;split at hz
 ·rename_i e;subst e;split at hz
  ·rename_i hlt;injection hz with hz
   subst hz;rw[List.getD_eq_getElem?_getD,W3 hlt];exact (hi.tm t _ (W3 hlt)).qN
  ·cases hz
 ·exact hi.tm j z hz
end
end Go.Eng
namespace Go.Eng
section
variable {P:Program} {T:Tab} {C:Ctx} {σ σ':St} {a:Act} {w:World} {Ret:St->Prop} {k:List It}
def fj:List (List AV)->List (List AV)->Prop
 | [],[]=>True
 | r::l,s::m=>nQ r s/\fj l m
 | _,_=>False
theorem rE:∀{l m:List (List AV)},fj l m->l.length=m.length/\∀(t:Nat) y,m[t]? = some y->∃x,l[t]? = some x/\nQ x y
 | [],[],_=>⟨rfl,λt y h=>by simp at h⟩
 | x::l,y::m,h=>by
  obtain ⟨h1,h2⟩:=rE h.2;refine ⟨by simp[h1],λt z hz=>?_⟩;cases t with
  | zero=>
   simp only[List.getElem?_cons_zero,gL] at hz;subst hz;exact ⟨x,rfl,h.1⟩
  | succ t=>simpa using h2 t z Zb
 | [],_::_,h=>h.elim
 | _::_,[],h=>h.elim
theorem iY (id:Nat) (rows':List (List AV)) {e s:Nat} {rows:List (List AV)} (hb:aa σ.hp id=some (.cells e s rows)) (hr:fj rows rows'):Le C σ ⟨σ.tm,aF σ.hp id (.cells e s rows')⟩:=by
 obtain ⟨hl,hg⟩:=rE hr;rintro a w ⟨μ,S,hi⟩;refine ⟨μ,S,hi.size,hi.defers,hi.tm,λi b hb'=>?_,λi q hq=>?_,hi.inj,hi.frm,hi.sb⟩
 ·simp only[aj] at hb';split at hb'
  ·rename_i h1;injection hb' with hb'
   subst h1 hb'
   rcases hi.hp id _ hb with ⟨rfl,k2⟩ | ⟨g,c,k1,k2,k3,k4,k5⟩
   ·exact .inl ⟨List.length_eq_zero_iff.1 hl.symm,k2⟩
   ·refine .inr ⟨g,c,k1,k2,by rw[<-hl];exact k3,λrow hrow=>?_,λi row hi' q x hx=>?_⟩
    ·obtain ⟨i,hi'⟩:=YC hrow;obtain ⟨r0,h0,h1⟩:=hg i row hi';rw[<-(pw h1).1];exact k4 r0 (W6 h0)
    ·obtain ⟨r0,h0,h1⟩:=hg i row hi';obtain ⟨y,hy,hw⟩:=(pw h1).2 q x hx;exact (k5 i r0 h0 q y hy).wk hw
  ·exact hi.hp i b hb'
 ·obtain ⟨⟨b,h1⟩,h2⟩:=hi.dom i q hq;refine ⟨?_,h2⟩;simp only[aj];split
  ·exact ⟨_,rfl⟩
  ·exact ⟨b,h1⟩
theorem mP (p q c:Nat) {e s e2 s2:Nat} {rows rows2 rows3:List (List AV)} {H1 H2:List (Nat×Blk)} {l':List AV} (hb:aa σ.hp p=some (.cells e s rows)) (hq:aa σ.hp q=none) (hr:av (.cells e s rows)=[])
  (hcb:aa σ.hp c=some (.cells e2 s2 rows2)) (hH1:dM σ.hp p=H1) (hH:dM H1 c=H2) (hcp:(c==p)=false) (hf:(H2.all λx=>!(av x.2).contains p)=true) (hr3:rows2.map (λrow=>row.map (mv1 p q))=rows3) (ht:σ.tm.map (mv1 p q)=l') :
  Le C σ ⟨l',(q,.cells e s rows)::(c,.cells e2 s2 rows3)::H2⟩:=by
 subst hH hH1 ht hr3;intro a w ⟨μ,S,hi⟩;have hcp:c≠p:=by simpa using hcp
 have hne:p≠q:=λh=>by subst h;rw[hb] at hq;cases hq
 have hcq:c≠q:=λh=>by subst h;rw[hcb] at hq;cases hq
 have hmq:μ q=none:=by
  cases h:μ q with
  | none=>rfl
  | some g=>obtain ⟨⟨b,h1⟩,_⟩:=hi.dom q g h;rw[hq] at h1;cases h1
 let ν:Nat->Option Nat:=λi=>if i=q then μ p else if i=p then none else μ i
 have hνq:ν q=μ p:=by simp[ν]
 have hν:∀i,i≠p->i≠q->ν i=μ i:=λi h1 h2=>by simp[ν,h1,h2]
 have hm:∀i,i≠p->∀g,μ i=some g->ν i=some g:=λi h g hg=>by
  rw[hν i h (λe=>by subst e;rw[hmq] at hg;cases hg)];exact hg
 have hv:∀i g,ν i=some g->(i=q/\μ p=some g)\/(i≠p/\i≠q/\μ i=some g):=λi g h=>by
  simp only[ν] at h;split at h
  ·exact .inl ⟨by assumption,h⟩
  ·split at h
   ·cases h
   ·exact .inr ⟨by assumption,by assumption,h⟩
 have hkill:∀{v:Value} {y:AV},Rd μ S w v y->Rd ν S w v (kill p y):=fun {v y} h=>by
  unfold kill;split
  ·exact .any v
  ·rename_i hc;exact h.less λid hid g hg=>hm id (λe=>by subst e;exact hc (by simpa using hid)) g hg
 have hmv:∀{v:Value} {y:AV},Rd μ S w v y->Rd ν S w v (mv1 p q y):=fun {v y} h=>by
  cases y with
  | osl id s' o n=>
   simp only[mv1];split
   ·rename_i e;subst e;obtain ⟨A,cap,e1,hc,hor⟩:=h.bT;rw[e1];refine .osl q s' o n cap A hc ?_
    rcases hor with h | ⟨g,e2,m,k1,k2,k3,k4⟩
    ·exact .inl h
    ·exact .inr ⟨g,e2,m,hνq.trans k1,k2,k3,k4⟩
   ·rename_i e;exact h.less λi hid g hg=>hm i (λe'=>by simp only[refs,List.mem_singleton] at hid;exact e (hid.symm.trans e')) g hg
  | ptr id s' r o=>
   simp only[mv1];split
   ·rename_i e;subst e;obtain ⟨g,k1,e1⟩:=h.iX;rw[e1];exact .ptr q s' r o g (hνq.trans k1)
   ·rename_i e;exact h.less λi hid g hg=>hm i (λe'=>by simp only[refs,List.mem_singleton] at hid;exact e (hid.symm.trans e')) g hg
  | _=>exact hkill h
 refine ⟨ν,S,by simpa using hi.size,hi.defers,λt x hx=>?_,λid b hb'=>?_,λid g hg=>?_,λi j g h1 h2=>?_,hi.frm,hi.sb⟩
 ·simp only[W5] at hx;obtain ⟨y,hy,rfl⟩:=YX.1 hx;exact hmv (hi.tm t y hy)
 ·simp only[aa] at hb';split at hb'
  ·rename_i e';injection hb' with hb'
   subst e' hb';have hk:=hi.hp p _ hb
   rcases hk with ⟨k1,k2⟩ | ⟨g,c,k1,k2,k3,k4,k5⟩
   ·exact .inl ⟨k1,hνq.trans k2⟩
   ·refine .inr ⟨g,c,hνq.trans k1,k2,k3,k4,λi row hi' j x hx=>(k5 i row hi' j x hx).less λid hid g' hg'=>?_⟩;have:id∈av (.cells e s rows):=List.mem_flatMap.2 ⟨row,W6 hi',aW hx hid⟩;rw[hr] at this;cases this
  ·rename_i hq';split at hb'
   ·rename_i e';injection hb' with hb'
    subst e' hb'
    rcases hi.hp c _ hcb with ⟨k1,k2⟩ | ⟨g,cp,k1,k2,k3,k4,k5⟩
    ·exact .inl ⟨by rw[k1];rfl,(hν c hcp hcq).trans k2⟩
    ·refine .inr ⟨g,cp,(hν c hcp hcq).trans k1,k2,by rw[List.length_map];exact k3,λrow hrow=>?_,λi row hi' j x hx=>?_⟩
     ·obtain ⟨r0,h0,rfl⟩:=W8.1 hrow;rw[List.length_map];exact k4 r0 h0
     ·rw[W5] at hi';obtain ⟨r0,h0,rfl⟩:=YX.1 hi';rw[W5] at hx;obtain ⟨y,hy,rfl⟩:=YX.1 hx;exact hmv (k5 i r0 h0 j y hy)
   ·rename_i hc';have hb2:=hb';rw[bz,bz] at hb';split at hb'
    ·cases hb'
    ·split at hb'
     ·cases hb'
     ·rename_i hp';refine (hi.hp id b hb').less (hν id (λe=>hp' e.symm) (λe=>hq' e.symm)) λi hid g hg=>hm i (λe=>?_) g hg
      subst e;have:=List.all_eq_true.1 hf _ (aP hb2);simp at this;exact this hid
 ·rcases hv id g hg with ⟨rfl,h⟩ | ⟨h1,h2,h⟩
  ·exact ⟨⟨_,by simp only[aa,if_true];rfl⟩,(hi.dom p g h).2⟩
  ·obtain ⟨⟨b,hb1⟩,h3⟩:=hi.dom id g h;refine ⟨?_,h3⟩;simp only[aa,if_neg (λe:q=id=>h2 e.symm),bz];split
   ·exact ⟨_,rfl⟩
   ·rw[if_neg (λe:p=id=>h1 e.symm)];exact ⟨b,hb1⟩
 ·rcases hv i g h1 with ⟨rfl,k⟩ | ⟨k1,k2,k⟩<;>rcases hv j g h2 with ⟨rfl,m⟩ | ⟨m1,m2,m⟩
  ·rfl
  ·exact absurd (hi.inj p j g k m) (λe=>m1 e.symm)
  ·exact absurd (hi.inj i p g k m) k1
  ·exact hi.inj i j g k m
end
end Go.Eng
namespace Go.Eng
section
variable {P:Program} {T:Tab} {C:Ctx} {μ:Nat->Option Nat} {S:Nat->Prop} {σ σ':St} {a:Act} {w:World} {Ret:St->Prop} {k:List It}
theorem Inv.Mx (hi:Inv C μ S σ a w) (o:Obj):Inv C μ (λb=>S b\/b=w.heap.size) σ a (w.alloc o):=by
 have hw:aI S w (w.alloc o):=λb hb=>bb w o b (hi.sb b hb).1
 have hz:∀i g,μ i=some g->ag (w.alloc o) g=ag w g:=λi g h=>aN (bb w o g (hi.dom i g h).2.2.2)
 refine ⟨hi.size,hi.defers,λt x hx=>(hi.tm t x hx).mono hw (λ_ h=>.inl h) (λ_ _ h=>h) hz,λi c hc=>(hi.hp i c hc).mono hw (λ_ h=>.inl h) (λ_ _ h=>h) hz (λh=>h) (λg h=>bb w o g (hi.dom i g h).2.2.2),λi g hg=>?_,hi.inj,?_,λb hb=>?_⟩
 ·obtain ⟨h1,h2,h3,h4⟩:=hi.dom i g hg;exact ⟨h1,h2,λh=>h.elim h3 (λe=>by omega),by simp;omega⟩
 ·exact ⟨hi.frm.os,hi.frm.tape,hi.frm.output,by simp;have:=hi.frm.size;omega,λb hb hA=>by
   rw[bb w o b (Yc hb hi.frm.size)];exact hi.frm.block b hb hA⟩
 ·rcases hb with hb | rfl
  ·exact ⟨by simp;have:=(hi.sb b hb).1;omega,(hi.sb b hb).2⟩
  ·exact ⟨by simp,.inr (.inr hi.frm.size)⟩
theorem vt (hT:TabOK P T) {o:Oper} {s t e:TypeId} {x:Operand} (ho:o.op=.convert s t x) (hs:T.und s=.str) (ht:T.und t=.sl e) (he:T.und e=.int .u8) {l:List UInt8} (hx:evS σ x=(True,.str l)) :
  eK P C o σ (σ.put o.dst (.sl (l.map λb=>[AV.int .u8 (b.toNat:Int)]))):=by
 intro a w K Q ⟨μ,S,hi⟩ hK;have hv:=hi.evS x u9;rw[hx] at hv;obtain ⟨b,e1,hb⟩:∃b:ByteArray,a.eval x=.string b/\b.data.toList=l:=by
  generalize a.eval x=v at hv;cases hv with
  | pure h=>cases h with
   | str s l h=>exact ⟨s,rfl,h⟩
 have hts:P.underlying s=some .string:=by have:=hT.und s;rw[hs] at this;exact this
 have hty:P.underlying t=some (.slice e):=by have:=hT.und t;rw[ht] at this;exact this
 have hte:P.underlying e=some (.int .u8):=by have:=hT.und e;rw[he] at this;exact this
 have hrun:=run_bytes_of_string (P:=P) w s t e b hts hty hte;have hex:(execOp a.eval o).run P w=.ok (.value (.slice (some ⟨w.heap.size,0,none⟩) b.size (grownCap w b.size 0 e)))
   (w.drew.alloc (.cells (bytesRow b (grownCap w b.size 0 e)) e ((bytesRow b (grownCap w b.size 0 e)).size,(bytesRow b (grownCap w b.size 0 e)).size+1))):=by
  simp only[execOp,ho,e1,Sem.run_bind,hrun];rfl
 have hsz:b.size=l.length:=by rw[<-hb];rfl
 have hin:=hi.drew.Mx (.cells (bytesRow b (grownCap w b.size 0 e)) e ((bytesRow b (grownCap w b.size 0 e)).size,(bytesRow b (grownCap w b.size 0 e)).size+1));unfold Oper.wp;rw[hex];refine hK _ _ ⟨_,_,hin.put o.dst (.pure ?_)⟩;refine .sl _ _ _ _ 1 w.heap.size 0 (λi j=>.int .u8 ((l.getD i 0).toNat:Int)) (by rw[List.length_map,hsz]) ?_ (λrow hr=>?_) (λ_=>⟨rfl,.inr rfl⟩) (λi j hi' hj=>?_) (λi row hi' j y hy=>?_)
 ·exact grownCap_ge w b.size 0 e
 ·obtain ⟨c,_,rfl⟩:=W8.1 hr;rfl
 ·have hj0:j=0:=by omega
  subst hj0;have hil:i<b.data.size:=by have:b.size=b.data.size:=rfl;omega
  rw[cell_of (bh w _)];have h1:(0+(i*1+0))=i:=by omega
  rw[h1];unfold bytesRow;rw[Yj (by rw[Array.size_map];exact hil),Array.getElem?_map,YK hil];simp only[Option.map_some];rw[<-hb,List.getD_eq_getElem?_getD];simp[YK hil]
 ·rw[W5] at hi';cases e3:l[i]? with
  | none=>rw[e3] at hi';cases hi'
  | some c=>
   rw[e3] at hi';simp only[Option.map_some,gL] at hi';subst hi';cases j with
   | zero=>
    simp only[List.getElem?_cons_zero,gL] at hy;subst hy;rw[List.getD_eq_getElem?_getD,e3];exact .int _ _
   | succ j=>simp at hy
theorem IW (t:Nat):Le C σ ⟨σ.tm.set t .any,σ.hp⟩:=by
 rintro a w ⟨μ,S,hi⟩;refine ⟨μ,S,by rw[YR];exact hi.size,hi.defers,λj z hz=>?_,hi.hp,hi.dom,hi.inj,hi.frm,hi.sb⟩;rw[YP] at hz;split at hz
 ·split at hz
  ·injection hz with hz
   subst hz;exact .any _
  ·cases hz
 ·exact hi.tm j z hz
theorem fk:∀(f:List Nat) {σ:St},Le C σ ⟨iL σ.tm (f.map λt=>(t,.any)),σ.hp⟩
 | [],_=>λ_ _ h=>h
 | t::r,σ=>λa w h=>fk r (σ:=⟨σ.tm.set t .any,σ.hp⟩) a w (IW t a w h)
theorem LU {M:Int->Int->Int->Prop} {G:Prop} (use:(∀F D T,M F D T)->G) (key:∀F D T,M F D T):G:=use key
theorem LV {M:Bool->Prop} {G:Prop} (use:(∀F,M F)->G) (key:∀F,M F):G:=use key
end
end Go.Eng
namespace La
open Go Go.Lib
def dn (c:UInt8):List UInt8->List (List UInt8)
 | []=>[[]]
 | x::r=>if x=c then []::dn c r else ((x::(dn c r).headD [])::(dn c r).tail)
theorem Iq (c:UInt8) (s:List UInt8):dn c s≠[]:=by
 cases s with
 | nil=>simp[dn]
 | cons x r=>unfold dn;split<;>simp
theorem xl (c:UInt8) (s:List UInt8):(dn c s).headD []::(dn c s).tail=dn c s:=by
 cases e:dn c s with
 | nil=>exact absurd e (Iq c s)
 | cons p ps=>rfl
theorem oQ (c:UInt8):∀s:List UInt8,splitK [c] 0 (count s [c]) s=dn c s
 | []=>by rw[count_miss (by simp[index])];rfl
 | x::r=>by
  by_cases h:x=c
  ·subst h;have hix:index (x::r) [x]=((0:Nat):Int):=by rw[index];simp[List.isPrefixOf]
   rw[count_cons_eq,Nat.add_comm,splitK,hix];simp only[dn,if_true];rw[<-oQ x r];simp
  ·have ih:=oQ c r;have hp:([c]:List UInt8).isPrefixOf (x::r)=false:=by simp[List.isPrefixOf,Ne.symm h]
   have hix:index (x::r) [c]=if index r [c]==-1 then -1 else index r [c]+1:=by rw[index,hp];simp
   rw[count_cons_ne x c r h];simp only[dn,if_neg h,<-ih];cases e:count r [c] with
   | zero=>simp[splitK]
   | succ k=>
    have hm:¬index r [c]=-1:=λe2=>by rw[count_miss e2] at e;cases e
    have hge:=index_ge r [c];obtain ⟨j,hj⟩:∃j:Nat,index r [c]=j:=⟨(index r [c]).toNat,by omega⟩;have hix':index (x::r) [c]=((j+1:Nat):Int):=by rw[hix,if_neg (λe=>hm (beq_iff_eq.1 e)),hj];omega
    simp only[splitK,hix',hj];have h1:((((j+1:Nat):Int))==-1)=false:=beq_eq_false_iff_ne.2 z8;have h2:(((j:Nat):Int)==-1)=false:=beq_eq_false_iff_ne.2 z8;simp only[h1,h2];simp
theorem Cd (c:UInt8) (s:ByteArray):(splitB ⟨#[c]⟩ 0 (countB s ⟨#[c]⟩) s).map (·.data.toList)=dn c s.data.toList:=by
 rw[splitB_data,<-oQ]
def xj (c:UInt8):List (List UInt8)->List UInt8->List UInt8->List (List UInt8)
 | done,cur,[]=>done++[cur]
 | done,cur,x::r=>if x=c then xj c (done++[cur]) [] r else xj c done (cur++[x]) r
theorem xk (c:UInt8):∀(s:List UInt8) (done:List (List UInt8)) (cur:List UInt8),xj c done cur s=done++((cur++(dn c s).headD [])::(dn c s).tail)
 | [],done,cur=>by simp[xj,dn]
 | x::r,done,cur=>by
  simp only[xj,dn];split
  ·rw[xk c r];have:=xl c r;simp only[List.nil_append,this,List.append_assoc,List.headD_cons,List.append_nil,List.tail_cons,List.singleton_append]
  ·rw[xk c r];simp
theorem Fm (c:UInt8) (s:List UInt8):xj c [] [] s=dn c s:=by
 rw[xk,List.nil_append,List.nil_append,xl]
theorem su (c:UInt8):∀s:List UInt8,(dn c s).length<=s.length+1
 | []=>by simp[dn]
 | x::r=>by
  have:=su c r;unfold dn;split
  ·simp;omega
  ·simp;omega
theorem nx (c:UInt8):∀(s p:List UInt8),p∈dn c s->p.length<=s.length
 | [],p,h=>by simp[dn] at h;subst h;simp
 | x::r,p,h=>by
  unfold dn at h;have ih:=nx c r;split at h
  ·rcases List.mem_cons.1 h with rfl | h
   ·simp
   ·have:=ih p h;simp;omega
  ·rcases List.mem_cons.1 h with rfl | h
   ·have:(dn c r).headD []∈dn c r:=by
     have:=xl c r;rw[<-this];simp
    have:=ih _ this;simp only[List.length_cons];omega
   ·have:=ih p (List.mem_of_mem_tail h);simp;omega
end La
namespace La
open Go Go.Eng
def ae (s:List UInt8):List (List UInt8)×Int:=
 if 40<s.length then ([],4) else if s=[47] then ([],0) else if s.head?≠some 47 then ([],2) else
  if (dn 47 (s.drop 1)).all cr then (dn 47 (s.drop 1),0) else ([],7)
def cD (p:List (List UInt8)×Int):AV:=.tup [.sl (p.1.map aZ),.int .i64 p.2]
end La
namespace Go.Eng
section
variable {P:Program} {T:Tab} {C:Ctx} {σ σ':St} {a:Act} {w:World} {Ret:St->Prop} {k:List It}
def y' (r:Nat) (o:Oper) (ops:Array Oper):Bool:=
 (o.after.all λe=>!Region.binds .any e)&&(List.range ops.size).all λj=>j==r||(match ops[j]? with | some oj=>(oj.after.any λe=>Region.binds .any e&&e.on==r)||o.apart ops oj | none=>true)
theorem ik (r:Nat) (p q:List Nat) {ops ops':Array Oper} {Q:Exit->Act->World->Prop} {o:Oper} {x:Operand} (ho:ops[r]? = some o) (hop:o.op=.move x) (hg:o.guard=none)
  (hQ:∀c a w,¬Q (.panic c) a w) (h1:Ap r p q ops=true) (h2:y' r o ops=true) (he:(bJ r p q ops.toList).toArray=ops') {y:AV} (hx:evS σ x=(True,y))
  (hk:bp P C ops' Q 0 (σ.put o.dst y)):bp P C ops Q 0 σ:=by
 subst he;have hF:=qS h1;have hrl:=hF.rl;have hpl:=hF.pl;intro a w ⟨μ,S,hi⟩;have hv:=hi.evS x u9;rw[hx] at hv;obtain ⟨u,hr,hu⟩:∃u,Rd μ S w u y/\u=a.eval x:=⟨_,hv,rfl⟩;have hrel:Rel C (σ.put o.dst y) (a.put o.dst u) w:=⟨μ,S,hi.put o.dst hr⟩;have hk':=hk _ _ hrel;have hs:(bJ r p q ops.toList).toArray.size+1=ops.size:=by simp[bJ,hpl]
 obtain ⟨n,hn⟩:∃n,ops.size=n+1:=⟨ops.size-1,by omega⟩;have hsz:(bJ r p q ops.toList).toArray.size=n:=by omega
 unfold y' at h2;rw[Bool.and_eq_true] at h2;have hd0:∀(m i:Nat) (d:Bool),(bj m 0).getD i d=if i<m then false else d:=λm i d=>by rw[fG];simp
 rw[hn,Nat.sub_zero];refine wpAny_first (v:=u) ho hF.sel (λc a w hc=>absurd hc (hQ c _ _)) n _ a w (λk oj hoj hkr _ hw=>?_) (mem_ready.2 ⟨?_,o,ho,λe he hb=>by have:=Array.all_eq_true'.1 h2.1 e he;rw[hb] at this;cases this⟩) (.inl ⟨by rw[Region.wanted,hg],λw'=>?_⟩) ?_
 ·have:=List.all_eq_true.1 h2.2 k (Ya.2 (Yg.1 hoj).1);rw[hoj] at this;simp only[Bool.or_eq_true,beq_iff_eq,Array.any_eq_true',Bool.and_eq_true] at this
  rcases this with h | ⟨e,he,hb,hon⟩ | h
  ·exact absurd h hkr
  ·exact absurd hon (hw e he hb)
  ·exact h
 ·rw[<-hn,hd0,if_pos hrl]
 ·subst hu;simp[execOp,hop]
 ·rw[hsz,Nat.sub_zero] at hk';refine x_ hF n _ _ _ _ WV WV ?_ (λi hi=>?_) hk'
  ·rw[Array.getD_eq_getD_getElem?,Yk,if_pos rfl,if_pos (by simp[bj];omega)];rfl
  ·have e2:((bj (n+1) 0).setIfInBounds r true).getD i false=(bj (n+1) 0).getD i false:=by
    rw[Array.getD_eq_getD_getElem?,Yk,if_neg (λe=>hi e.symm),<-Array.getD_eq_getD_getElem?]
   rw[e2,hd0,hd0];split<;>split<;>rfl
end
end Go.Eng
