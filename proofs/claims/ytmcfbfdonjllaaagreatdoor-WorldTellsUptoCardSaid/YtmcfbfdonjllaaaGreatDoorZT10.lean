/- Texts of this claim, part 10: OwnH, Nam, PLog, Nrm, EngAM, EngAO, PNames, PSplit, EngAP, EngAQ. No condition. -/
import Derived.Test.YtmcfbfdonjllaaaGreatDoorZT9
import Derived.Lib.SplitLaws
import Derived.Lib.Join
set_option maxRecDepth 10000
set_option maxHeartbeats 4000000
set_option linter.unusedSimpArgs false
set_option linter.unusedVariables false
namespace La
open Go Go.Eng Go.Proofs
theorem rr (d:List Entry) (hd:d.length≤100000000):ae Tryz.prog 101 [.sl (d.map ZE)] [] (λr H=>r=.osl 7 2 0 d.length/\∀i b,aa [(7,.cells 96 2 (d.map ZE))] i=some b->aa H i=some b):=by
 refine ZF tK (Tryz.func101) rfl (λC=>?_);simp only[Tryz.ntmps101,Tryz.results101,go_sem];refine wG tK ?_;refine lC tK rfl rfl rfl u6 u6 (λb hb=>?_);simp only[go_sem];refine wG tK ?_;refine wD (λh=>?_) (λh=>?_)
 ·have hn:d.map ZE=[]:=hb h;have hd0:d=[]:=by simpa using hn
  subst hd0;refine ag (le_empty 7 96 2 rfl) ?_;refine wG tK ?_;refine ko ⟨_,_,by simp only[go_sem];try exact rfl,by simp[go_sem],.osl 7 2 0 0,.inr (.inr ⟨rfl,.inr ⟨7,2,0,rfl⟩⟩),?_⟩;simp[go_sem]
 ·refine wGq tK ?_ ?_
  ·simp;omega
  refine wT ?_;simp[go_sem]
def kx (n:Node) (id:Nat):List AV:=[.int .i64 n.fid,.bool n.dir,.sl (n.data.map ZY),.osl id 2 0 n.entries.length,.int .i64 n.version]
@[go_sem,simp] theorem Ie (n:Node) (id:Nat):kx n id=[.int .i64 n.fid,.bool n.dir,.sl (n.data.map ZY),.osl id 2 0 n.entries.length,.int .i64 n.version]:=rfl
theorem xX (n:Node) (hn:n.Small):ae Tryz.prog 66 [.sl [ZN n]] [] (λr H=>r=.osl 23 5 0 1/\∀i b,aa [(23,.cells 94 5 [kx n 1000]),(1000,.cells 96 2 (n.entries.map ZE))] i=some b->aa H i=some b):=by
 refine ZF tK (Tryz.func66) rfl (λC=>?_);simp only[Tryz.ntmps66,Tryz.results66,go_sem];refine wG tK ?_;refine ZL (λ_:Bool=>True) (λi=>cond i 1 0) (λi=>match i with
   | true=>(3,.osl 23 5 0 0)::(5,.any)::(8,.int .i64 0)::u0 9 16 []
   | false=>(3,.osl 23 5 0 1)::(5,.any)::(8,.int .i64 1)::u0 9 16 [])
  (λi=>match i with
   | true=>[(23,.cells 94 5 [])]
   | false=>[(23,.cells 94 5 [kx n 1000]),(1000,.cells 96 2 (n.entries.map ZE))]) true trivial ?_ λi hi=>?_
 ·simp only[go_sem];exact ZU w3 w3 s7
 cases i with
 | true=>
  simp only[go_sem];refine wG tK ?_;refine wD (λh=>?_) (λh=>?_)
  ·refine wGq tK ?_ ?_ w6
   ·simp[ZN]
   refine ZW ZM ?_;refine ZS rfl ?_;refine sG tK ?_;refine sC Tryz.func100 (hf:=(lA _ hn.data)) (hk:=?_);refine sG tK ?_;refine gq 993 rfl rfl z7 w3 ⟨_,Tryz.func101,by kernel_rfl,rfl⟩ w3 (rr _ hn.entries) w3 z7 z7 w3 z6 z6 ?_;refine sG tK ?_;refine sE ?_;refine dS tK ?_;refine ZS rfl ?_;refine sG tK ?_;refine sE ?_;refine dS tK ?_;refine wKd ?_;refine wGq tK ?_ ?_
   ·simp[rowsOf]
   refine ZB ⟨false,by simp,ZU ?_ ?_ ?_⟩
   ·simp[go_sem];rfl
   ·simp[go_sem,kx]
   ·simp[go_sem,kx]
  ·simp at h
 | false=>
  simp only[go_sem];refine wG tK ?_;refine wD (λh=>?_) (λh=>?_)
  ·simp at h
  refine wG tK ?_;refine wT ?_;simp[go_sem]
def okC (c:UInt8):Bool:=(decide (97≤c.toNat)&&decide (c.toNat≤122))||(decide (48≤c.toNat)&&decide (c.toNat≤57))
def cu (s:List UInt8):Bool:=decide (1≤s.length)&&decide (s.length≤8)&&s.all okC
theorem AZ (s:List UInt8) (hs:s.length≤100000000):ae Tryz.prog 139 [.str s] [] (λr _=>r=.bool (cu s)):=by
 refine ZF tK (Tryz.func139) rfl (λC=>?_);simp only[Tryz.ntmps139,Tryz.results139,go_sem];refine wR ?_;refine wN tK 1 ?_;refine wR ?_;cases e1:decide ((s.length:Int)<1) with
 | true=>
  have hno:cu s=false:=by
   have h1:=of_decide_eq_true e1;unfold cu;rw[show decide (1≤s.length)=false from decide_eq_false z8];rfl
  refine wG tK ?_ (by simp only[go_sem,e1];try exact rfl) (by simp[go_sem,e1]);refine wD (λh=>?_) (λh=>?_)
  ·refine wG tK ?_;refine wT ?_;rw[hno]
  ·cases h
 | false=>
  have h1:=of_decide_eq_false e1;cases e2:decide ((s.length:Int)>8) with
  | true=>
   have hno:cu s=false:=by
    have h2:=of_decide_eq_true e2;unfold cu;rw[show decide (s.length≤8)=false from decide_eq_false z8,Bool.and_false];rfl
   refine wG tK ?_ (by simp only[go_sem,e1,e2];try exact rfl) (by simp[go_sem,e1,e2]);refine wD (λh=>?_) (λh=>?_)
   ·refine wG tK ?_;refine wT ?_;rw[hno]
   ·cases h
  | false=>
   have h2:=of_decide_eq_false e2;have hyes:cu s=s.all okC:=by
    unfold cu;rw[show decide (1≤s.length)=true from decide_eq_true z8,show decide (s.length≤8)=true from decide_eq_true z8];rfl
   rw[hyes];refine wG tK ?_ (by simp only[go_sem,e1,e2];try exact rfl) (by simp[go_sem,e1,e2]);refine wD (λh=>?_) (λh=>?_)
   ·cases h
   refine wG tK ?_;refine ZL (λi:Nat=>i≤s.length/\∀j,j<i->okC (s.getD j 0)=true) (λi=>s.length-i) (λi=>(3,.any)::(4,.any)::(15,.int .i64 i)::u0 16 20 []) (λ_=>[]) 0 ⟨by omega,by omega⟩ ?_ λi hi=>?_
   ·simp only[go_sem];exact ZU w3 w3 w3
   obtain ⟨hi,hs⟩:=hi;simp only[go_sem];refine wG tK ?_;refine wD (λh=>?_) (λh=>?_)
   ·have hlt:i<s.length:=by simp at h;omega
    have hw:=wi1 (i:=i) z8;have hno:okC (s.getD i 0)=false->s.all okC=false:=λh0=>by
     cases e:s.all okC with
     | false=>rfl
     | true=>
      have:=List.all_eq_true.1 e (s.getD i 0) (by rw[Wi,Wj hlt];exact YO hlt);rw[this] at h0;cases h0
    have hyes:okC (s.getD i 0)=true->∀j,j<i+1->okC (s.getD j 0)=true:=λh0 j hj=>by
     rcases Nat.lt_succ_iff_lt_or_eq.1 hj with h1 | rfl
     ·exact hs j h1
     ·exact h0
    refine wR ?_;refine wN tK 2 ?_;refine wR ?_;refine wN tK 2 ?_;refine wNq tK 1 ?_ ?_
    ·simp;omega
    refine wN tK 1 ?_;refine wR ?_;generalize s.getD i 0=c at hno hyes;have hc:okC c=((!(decide ((c.toNat:Int)<97))&&!(decide ((c.toNat:Int)>122)))||(!(decide ((c.toNat:Int)<48))&&!(decide ((c.toNat:Int)>57)))):=by
     unfold okC;rw[YZ];simp only[Bool.or_eq_true,Bool.and_eq_true,decide_eq_true_eq,YU,decide_eq_false_iff_not];omega
    generalize hf1:decide ((c.toNat:Int)<97)=f1 at hc;generalize hf2:decide ((c.toNat:Int)>122)=f2 at hc;generalize hf3:decide ((c.toNat:Int)<48)=f3 at hc;generalize hf4:decide ((c.toNat:Int)>57)=f4 at hc;refine wNq tK 14 ?_ ?_ z6 z6 Z0
    ·cases f1<;>cases f2<;>cases f3<;>cases f4<;>simp
    have hb:(bif (bif f1 then true else f2) then (bif f3 then true else f4) else false)=!okC c:=by
     rw[hc];cases f1<;>cases f2<;>cases f3<;>cases f4<;>rfl
    simp only[go_sem,hb];refine wD (λh=>?_) (λh=>?_)
    ·have h0:okC c=false:=by simpa using h
     refine wG tK ?_;refine wT ?_;rw[hno h0]
    ·have h0:okC c=true:=by simpa using h
     refine wG tK ?_ w5 k0;refine ZB ⟨i+1,⟨by omega,hyes h0⟩,by omega,ZU ?_ ?_ ?_⟩
     ·simp[go_sem]
     ·simp[go_sem]
     ·simp[go_sem]
   ·have e:i=s.length:=by simp at h;omega
    have:s.all okC=true:=List.all_eq_true.2 λx hx=>by
     obtain ⟨j,hj⟩:=Wu hx;have:=hs j (by rw[e];exact (Wp.1 hj).1)
     rwa [Wi,hj] at this
    refine wG tK ?_;refine wT ?_;rw[this]
end La
namespace La
def bQ (a:Act):List Int:=if a.kind=3 then [a.fid] else if a.kind=5 then [a.fid,a.dir,a.to] else [a.fid,a.dir]
def Rec.names (r:Rec) (fid:Int):Bool:=(bQ r.act).contains fid
def eb (fid:Int) (r:Rec):Bool:=r.act.fid==fid&&(r.act.kind==1||r.act.kind==2)
def fp (a:Act) (dir:Int) (name:List UInt8):Bool:=
 if a.kind=1\/a.kind=2\/a.kind=4 then a.dir==dir&&a.name==name
 else if a.kind=5 then (a.dir==dir&&a.name==name)||(a.to==dir&&a.toName==name) else false
def bars (fid dir:Int) (name:List UInt8) (x:Rec):Bool:=(x.act.kind != 3&&x.names fid)||fp x.act dir name
def ek (l:List Rec) (r:Rec):Bool:=
 match l.findIdx? (eb r.act.fid) with
 | none=>false
 | some k=>r.act.kind==4&&(l.getD k default).act.dir==r.act.dir&&(l.getD k default).act.name==r.act.name&&!((l.drop (k+1)).any (bars r.act.fid (l.getD k default).act.dir (l.getD k default).act.name))
def stored (r x:Rec):Bool:=x.act.kind==3&&x.act.fid==r.act.fid
def cM (l:List Rec) (r:Rec):List Rec:=if r.act.kind=3 then l.filter λx=>!(stored r x) else l
def dv (l:List Rec) (r:Rec):Option (List Rec):=
 if ek l r then some (l.filter λx=>!(x.names r.act.fid))
 else if (cM l r).length≥20 then none else some (cM l r++[r])
theorem kY (l:List Rec) (r:Rec):(cM l r).Sublist l:=by
 unfold cM;split
 ·exact List.filter_sublist
 ·exact List.Sublist.refl _
def cv (r:Rec) (s:Int) (x:Rec):Int:=
 if s=0 then (if eb r.act.fid x then (if x.act.dir=r.act.dir/\x.act.name=r.act.name then 1 else 2) else 0)
 else if s=1 then (if bars r.act.fid r.act.dir r.act.name x then 2 else 1) else s
theorem ly (r:Rec):∀l:List Rec,l.foldl (cv r) 2=2
 | []=>rfl
 | x::l=>by simp only[List.foldl_cons];rw[show cv r 2 x=2 from by simp[cv]];exact ly r l
theorem pK (r:Rec):∀l:List Rec,l.foldl (cv r) 1=if l.any (bars r.act.fid r.act.dir r.act.name) then 2 else 1
 | []=>rfl
 | x::l=>by
  simp only[List.foldl_cons,List.any_cons]
  by_cases h:bars r.act.fid r.act.dir r.act.name x=true
  ·rw[show cv r 1 x=2 from by simp[cv,h],ly];simp[h]
  ·rw[show cv r 1 x=1 from by simp[cv,h],pK];simp[h]
theorem lb (r:Rec) (hk:r.act.kind=4):∀l:List Rec,(l.foldl (cv r) 0==1)=ek l r
 | []=>rfl
 | x::l=>by
  have ih:=lb r hk l;simp only[List.foldl_cons];unfold ek at ih ⊢;rw[List.findIdx?_cons]
  by_cases h:eb r.act.fid x=true
  ·simp only[h,if_true]
   by_cases h2:x.act.dir=r.act.dir/\x.act.name=r.act.name
   ·rw[show cv r 0 x=1 from by simp[cv,h,h2],pK];simp only[List.getD_cons_zero,h2.1,h2.2,hk,List.drop_succ_cons,List.drop_zero,W8];cases (l.any (bars r.act.fid r.act.dir r.act.name))<;>simp
   ·rw[show cv r 0 x=2 from by simp only[cv,h,if_true,if_neg h2],ly];simp only[List.getD_cons_zero]
    by_cases h3:x.act.dir=r.act.dir
    ·have h4:¬x.act.name=r.act.name:=λe=>h2 ⟨h3,e⟩
     simp[h4]
    ·simp[h3]
  ·rw[show cv r 0 x=0 from by simp[cv,h],ih];simp only[h,if_false,Bool.false_eq_true];cases e:l.findIdx? (eb r.act.fid) with
   | none=>simp
   | some k=>simp
end La
namespace La
open Go Go.Eng
theorem vc {P:Program} {f:FuncId} {args:List AV} {H:List (Nat×Blk)} {Y:AV} (h:ae P f args H λr _=>Eng.nrm r=Y):ae P f args H λr _=>r=Y:=by
 intro R0 μ w0 vs hl ha hH hR;refine (h R0 μ w0 vs hl ha hH hR).mono ?_;rintro e' w' ⟨v,r,H',μ',S',rfl,rfl,h4,h5⟩;exact ⟨v,_,H',μ',S',rfl,rfl,h4.nrm,h5⟩
theorem xV (l:List (List UInt8)):Eng.iO (l.map aR)=l.map aR:=by
 rw[dz,YX];exact Yb λx _=>rfl
end La
namespace Go.Eng
section
variable {P:Program} {T:Tab} {C:Ctx} {σ σ':St} {μ:Nat->Option Nat} {S:Nat->Prop} {a:Act} {w:World} {Ret:St->Prop} {k:List It}
def mv1 (p q:Nat):AV->AV
 | .osl id s o l=>if id=p then .osl q s o l else .osl id s o l
 | .ptr id s r o=>if id=p then .ptr q s r o else .ptr id s r o
 | x=>kill p x
theorem dj (p q:Nat) {e s:Nat} {rows:List (List AV)} {H':List (Nat×Blk)} {l':List AV} (hb:aa σ.hp p=some (.cells e s rows):=by simp only[go_sem];exact rfl) (hq:aa σ.hp q=none:=by simp only[go_sem];try exact rfl) (hr:aB (.cells e s rows)=[]:=by simp only[go_sem];try exact rfl)
  (hH:fZ σ.hp p=H':=by simp only[go_sem,fZ];exact rfl) (hf:(H'.all λx=>!(aB x.2).contains p)=true:=by simp only[go_sem];try exact rfl) (ht:σ.tm.map (mv1 p q)=l':=by simp only[go_sem,mv1,kill];exact rfl):Le C σ ⟨l',(q,.cells e s rows)::H'⟩:=by
 subst hH ht;intro a w ⟨μ,S,hi⟩;have hne:p≠q:=λh=>by subst h;rw[hb] at hq;cases hq
 have hmq:μ q=none:=by
  cases h:μ q with
  | none=>rfl
  | some g=>obtain ⟨⟨b,h1⟩,_⟩:=hi.dom q g h;rw[hq] at h1;cases h1
 let ν:Nat->Option Nat:=λi=>if i=q then μ p else if i=p then none else μ i
 have hνq:ν q=μ p:=by simp[ν]
 have hν:∀i,i≠p->i≠q->ν i=μ i:=λi h1 h2=>by simp[ν,h1,h2]
 have hm:∀i,i≠p->∀g,μ i=some g->ν i=some g:=λi h g hg=>by
  rw[hν i h (λe=>by subst e;rw[hmq] at hg;cases hg)];exact hg
 have hv:∀i g,ν i=some g->(i=q/\μ p=some g)\/(i≠p/\i≠q/\μ i=some g):=λi g h=>by
  simp only[ν] at h;split at h
  ·exact .inl ⟨by assumption,h⟩
  ·split at h
   ·cases h
   ·exact .inr ⟨by assumption,by assumption,h⟩
 have hkill:∀{v:Value} {y:AV},Rd μ S w v y->Rd ν S w v (kill p y):=fun {v y} h=>by
  unfold kill;split
  ·exact .any v
  ·rename_i hc;exact h.less λid hid g hg=>hm id (λe=>by subst e;exact hc (by simpa using hid)) g hg
 refine ⟨ν,S,by simpa using hi.size,hi.defers,λt x hx=>?_,λid b hb'=>?_,λid g hg=>?_,λi j g h1 h2=>?_,hi.frm,hi.sb⟩
 ·simp only[Wm] at hx;obtain ⟨y,hy,rfl⟩:=W7.1 hx;have h:=hi.tm t y hy;cases y with
  | osl id s' o n=>
   simp only[mv1];split
   ·rename_i e;subst e;obtain ⟨A,cap,e1,hc,hor⟩:=h.bL;rw[e1];refine .osl q s' o n cap A hc ?_
    rcases hor with h | ⟨g,e2,m,k1,k2,k3,k4⟩
    ·exact .inl h
    ·exact .inr ⟨g,e2,m,hνq.trans k1,k2,k3,k4⟩
   ·rename_i e;exact h.less λi hid g hg=>hm i (λe'=>by simp only[refs,List.mem_singleton] at hid;exact e (hid.symm.trans e')) g hg
  | ptr id s' r o=>
   simp only[mv1];split
   ·rename_i e;subst e;obtain ⟨g,k1,e1⟩:=h.ig;rw[e1];exact .ptr q s' r o g (hνq.trans k1)
   ·rename_i e;exact h.less λi hid g hg=>hm i (λe'=>by simp only[refs,List.mem_singleton] at hid;exact e (hid.symm.trans e')) g hg
  | _=>exact hkill h
 ·simp only[aa] at hb';split at hb'
  ·rename_i e';injection hb' with hb'
   subst e' hb';have hk:=hi.hp p _ hb
   rcases hk with ⟨k1,k2⟩ | ⟨g,c,k1,k2,k3,k4,k5⟩
   ·exact .inl ⟨k1,hνq.trans k2⟩
   ·refine .inr ⟨g,c,hνq.trans k1,k2,k3,k4,λi row hi' j x hx=>(k5 i row hi' j x hx).less λid hid g' hg'=>?_⟩;have:id∈aB (.cells e s rows):=List.mem_flatMap.2 ⟨row,Wn hi',a_ hx hid⟩;rw[hr] at this;cases this
  ·rename_i hq';have hb2:=hb';rw[bA] at hb';split at hb'
   ·cases hb'
   ·rename_i hp';refine (hi.hp id b hb').less (hν id (λe=>hp' e.symm) (λe=>hq' e.symm)) λi hid g hg=>hm i (λe=>?_) g hg
    subst e;have:=List.all_eq_true.1 hf _ (bf hb2);simp at this;exact this hid
 ·rcases hv id g hg with ⟨rfl,h⟩ | ⟨h1,h2,h⟩
  ·exact ⟨⟨_,by simp only[aa,if_true];rfl⟩,(hi.dom p g h).2⟩
  ·obtain ⟨⟨b,hb1⟩,h3⟩:=hi.dom id g h;exact ⟨⟨b,by simp only[aa,if_neg (λe:q=id=>h2 e.symm),bA,if_neg (λe:p=id=>h1 e.symm)];exact hb1⟩,h3⟩
 ·rcases hv i g h1 with ⟨rfl,k⟩ | ⟨k1,k2,k⟩<;>rcases hv j g h2 with ⟨rfl,m⟩ | ⟨m1,m2,m⟩
  ·rfl
  ·exact absurd (hi.inj p j g k m) (λe=>m1 e.symm)
  ·exact absurd (hi.inj i p g k m) k1
  ·exact hi.inj i j g k m
theorem cd (r:Nat) (p q:List Nat) {ops ops':Array Oper} {Q:Exit->Act->World->Prop} {o:Oper} {x:Operand} (ho:ops[r]? = some o) (hop:o.op=.move x) (hg:o.guard=none)
  (hQ:∀c a w,¬Q (.panic c) a w) (h1:yb r p q ops=true) (h2:qO r o ops=true) (he:(aW r p q ops.toList).toArray=ops') {y:AV} (hx:evS σ x=(True,y))
  (hk:bp P C ops' Q 0 (σ.put o.dst y)):bp P C ops Q 0 σ:=by
 subst he;have hF:=pz h1;have hrl:=hF.rl;have hpl:=hF.pl;intro a w ⟨μ,S,hi⟩;have hv:=hi.evS x s6;rw[hx] at hv;obtain ⟨u,hr,hu⟩:∃u,Rd μ S w u y/\u=a.eval x:=⟨_,hv,rfl⟩;have hrel:Rel C (σ.put o.dst y) (a.put o.dst u) w:=⟨μ,S,hi.put o.dst hr⟩;have hk':=hk _ _ hrel;have hs:(aW r p q ops.toList).toArray.size+1=ops.size:=by simp[aW,hpl]
 obtain ⟨n,hn⟩:∃n,ops.size=n+1:=⟨ops.size-1,by omega⟩;have hsz:(aW r p q ops.toList).toArray.size=n:=by omega
 unfold qO at h2;rw[Bool.and_eq_true] at h2;have hafter:o.after=#[]:=Array.isEmpty_iff.1 h2.1;have hd0:∀(m i:Nat) (d:Bool),(aV m 0).getD i d=if i<m then false else d:=λm i d=>by rw[df];simp
 rw[hn,Nat.sub_zero];refine wpAny_first (v:=u) ho hF.sel (λc a w hc=>absurd hc (hQ c _ _)) n _ a w (λk oj hoj hkr _ hw=>?_) (mem_ready.2 ⟨?_,o,ho,λe he=>by rw[hafter] at he;simp at he⟩) (.inl ⟨by rw[Region.wanted,hg],λw'=>?_⟩) ?_
 ·have:=List.all_eq_true.1 h2.2 k (YK.2 (YC.1 hoj).1);rw[hoj] at this;simp only[Bool.or_eq_true,beq_iff_eq,Array.any_eq_true',Bool.and_eq_true] at this
  rcases this with h | ⟨e,he,hb,hon⟩ | h
  ·exact absurd h hkr
  ·exact absurd hon (hw e he hb)
  ·exact h
 ·rw[←hn,hd0,if_pos hrl]
 ·subst hu;simp[execOp,hop]
 ·rw[hsz,Nat.sub_zero] at hk';refine vK hF n _ _ _ _ WB WB ?_ (λi hi=>?_) hk'
  ·rw[Wk,YV,if_pos rfl,if_pos (by simp[aV];omega)];rfl
  ·have e2:((aV (n+1) 0).setIfInBounds r true).getD i false=(aV (n+1) 0).getD i false:=by
    rw[Wk,YV,if_neg (λe=>hi e.symm),←Wk]
   rw[e2,hd0,hd0];split<;>split<;>rfl
end
end Go.Eng
namespace Go.Eng
section
variable {P:Program} {T:Tab} {C:Ctx} {σ σ':St} {μ:Nat->Option Nat} {S:Nat->Prop} {a:Act} {w:World} {Ret:St->Prop} {k:List It}
theorem ey (r:Nat) (p q:List Nat) {ops ops':Array Oper} {Q:Exit->Act->World->Prop} {o:Oper} (ho:ops[r]? = some o) (hg:o.guard=none)
  (hQ:∀c a w,¬Q (.panic c) a w) (h1:yb r p q ops=true) (h2:qO r o ops=true) (he:(aW r p q ops.toList).toArray=ops') {y:AV}
  (hx:∀μ S a w,Inv C μ S σ a w->∃u,(∀w',(execOp a.eval o).run P w'=.ok (.value u) w')/\Rd μ S w u y)
  (hk:bp P C ops' Q 0 (σ.put o.dst y)):bp P C ops Q 0 σ:=by
 subst he;have hF:=pz h1;have hrl:=hF.rl;have hpl:=hF.pl;intro a w ⟨μ,S,hi⟩;obtain ⟨u,hu,hr⟩:=hx μ S a w hi;have hrel:Rel C (σ.put o.dst y) (a.put o.dst u) w:=⟨μ,S,hi.put o.dst hr⟩;have hk':=hk _ _ hrel;have hs:(aW r p q ops.toList).toArray.size+1=ops.size:=by simp[aW,hpl]
 obtain ⟨n,hn⟩:∃n,ops.size=n+1:=⟨ops.size-1,by omega⟩;have hsz:(aW r p q ops.toList).toArray.size=n:=by omega
 unfold qO at h2;rw[Bool.and_eq_true] at h2;have hafter:o.after=#[]:=Array.isEmpty_iff.1 h2.1;have hd0:∀(m i:Nat) (d:Bool),(aV m 0).getD i d=if i<m then false else d:=λm i d=>by rw[df];simp
 rw[hn,Nat.sub_zero];refine wpAny_first (v:=u) ho hF.sel (λc a w hc=>absurd hc (hQ c _ _)) n _ a w (λk oj hoj hkr _ hw=>?_) (mem_ready.2 ⟨?_,o,ho,λe he=>by rw[hafter] at he;simp at he⟩) (.inl ⟨by rw[Region.wanted,hg],hu⟩) ?_
 ·have:=List.all_eq_true.1 h2.2 k (YK.2 (YC.1 hoj).1);rw[hoj] at this;simp only[Bool.or_eq_true,beq_iff_eq,Array.any_eq_true',Bool.and_eq_true] at this
  rcases this with h | ⟨e,he,hb,hon⟩ | h
  ·exact absurd h hkr
  ·exact absurd hon (hw e he hb)
  ·exact h
 ·rw[←hn,hd0,if_pos hrl]
 ·rw[hsz,Nat.sub_zero] at hk';refine vK hF n _ _ _ _ WB WB ?_ (λi hi=>?_) hk'
  ·rw[Wk,YV,if_pos rfl,if_pos (by simp[aV];omega)];rfl
  ·have e2:((aV (n+1) 0).setIfInBounds r true).getD i false=(aV (n+1) 0).getD i false:=by
    rw[Wk,YV,if_neg (λe=>hi e.symm),←Wk]
   rw[e2,hd0,hd0];split<;>split<;>rfl
theorem iD (hT:TabOK P T) {o:Oper} {t e:TypeId} {x:Operand} {lo hi':Option Operand} (ho:o.op=.slice t x lo hi' none) (ht:T.und t=.sl e) {id s off len l h:Nat} (hs:T.siz e=s) (hz:s≠0) (hx:evS σ x=(True,.osl id s off len))
  (hlo:(lo=none/\l=0)\/∃q,lo=some q/\∃kk,evS σ q=(True,.int kk (l:Nat))) (hhi:(hi'=none/\h=len)\/∃q,hi'=some q/\∃kk,evS σ q=(True,.int kk (h:Nat))) (hlh:l≤h) (hhl:h≤len) :
  ∀μ S a w,Inv C μ S σ a w->∃u,(∀w',(execOp a.eval o).run P w'=.ok (.value u) w')/\Rd μ S w u (.osl id s (off+l) (h-l)):=by
 intro μ S a w hi;have hu:=hT.und t;rw[ht] at hu;simp only[iY] at hu;have hv:=hi.evS x s6;rw[hx] at hv;obtain ⟨A,cap,hA,hc,hor⟩:=hv.bL;have k1:fG (lo.map a.eval) 0 l:=by
  rcases hlo with ⟨rfl,rfl⟩ | ⟨q,rfl,kk,hq⟩
  ·rfl
  ·have:=hi.evS q (by rw[hq];trivial);rw[hq] at this;exact ⟨kk,this.aG⟩
 have k2:fG (hi'.map a.eval) len h:=by
  rcases hhi with ⟨rfl,rfl⟩ | ⟨q,rfl,kk,hq⟩
  ·rfl
  ·have:=hi.evS q (by rw[hq];trivial);rw[hq] at this;exact ⟨kk,this.aG⟩
 have hrun:∀w',(Instr.sliceAt t (.slice A len cap) (lo.map a.eval) (hi'.map a.eval) none).run P w'=.ok (.slice (if cap=l then A else A.map (·.add (l*T.siz e))) (h-l) (cap-l)) w':=λw'=>by
  simp[Instr.sliceAt,Instr.slice,run_underlying hu,fw (P:=P) (w:=w') true len cap l h (lo.map a.eval) (hi'.map a.eval) k1 k2 hlh z8,bs hT (by rw[hs];exact hz)]
 refine ⟨.slice (if cap=l then A else A.map (·.add (l*T.siz e))) (h-l) (cap-l),λw'=>?_,.osl id s (off+l) (h-l) (cap-l) _ z8 ?_⟩
 ·have:=hrun w';simp only[execOp,ho];rw[hA];simp[this]
 ·rcases hor with ⟨j1,j2⟩ | ⟨g,e',n,j1,rfl,j3,j4⟩
  ·exact .inl ⟨by omega,by omega⟩
  ·by_cases hcl:cap=l
   ·exact .inl ⟨by omega,by omega⟩
   ·refine .inr ⟨g,e',n,j1,?_,j3,?_⟩
    ·rw[if_neg hcl];simp[add_plain,hs,YM]
    ·rw[show off+l+(cap-l)=off+cap from by omega];exact j4
theorem Fu {o:Oper} {t ty:TypeId} {x y:Operand} (ho:o.op=.binOp .add t x y ty) {kk:IntKind} {m n:Int} (hx:evS σ x=(True,.int kk m)) (hy:evS σ y=(True,.int kk n)) :
  ∀μ S a w,Inv C μ S σ a w->∃u,(∀w',(execOp a.eval o).run P w'=.ok (.value u) w')/\Rd μ S w u (.int kk (kk.wrap (m+n))):=by
 intro μ S a w hi;have h1:=hi.evS x s6;have h2:=hi.evS y Qi;rw[hx] at h1;rw[hy] at h2;refine ⟨.int kk (kk.wrap (m+n)),λw'=>?_,.pure (.int _ _)⟩;simp only[execOp,ho];rw[h1.aG,h2.aG];simp[eqGuard_at_int,binOp,Op.intArith]
theorem dq (q:Nat) {H':List (Nat×Blk)} {l':List AV} (hH:fZ σ.hp q=H':=by simp only[go_sem,fZ];exact rfl) (hf:(H'.all λx=>!(aB x.2).contains q)=true:=by simp only[go_sem];try exact rfl) (ht:σ.tm.map (kill q)=l':=by simp only[go_sem,kill];exact rfl):Le C σ ⟨l',H'⟩:=by
 subst hH ht;intro a w ⟨μ,S,hi⟩
 let ν:Nat->Option Nat:=λi=>if i=q then none else μ i
 have hm:∀i,i≠q->∀g,μ i=some g->ν i=some g:=λi h g hg=>by simp[ν,h,hg]
 have hv:∀i g,ν i=some g->i≠q/\μ i=some g:=λi g h=>by
  simp only[ν] at h;split at h
  ·cases h
  ·exact ⟨by assumption,h⟩
 refine ⟨ν,S,by simpa using hi.size,hi.defers,λt x hx=>?_,λid b hb'=>?_,λid g hg=>?_,λi j g h1 h2=>?_,hi.frm,hi.sb⟩
 ·simp only[Wm] at hx;obtain ⟨y,hy,rfl⟩:=W7.1 hx;have h:=hi.tm t y hy;unfold kill;split
  ·exact .any _
  ·rename_i hc;exact h.less λid hid g hg=>hm id (λe=>by subst e;exact hc (by simpa using hid)) g hg
 ·have hb2:=hb';rw[bA] at hb';split at hb'
  ·cases hb'
  ·rename_i hq';refine (hi.hp id b hb').less (by simp only[ν];rw[if_neg (λe=>hq' e.symm)]) λi hid g hg=>hm i (λe=>?_) g hg
   subst e;have:=List.all_eq_true.1 hf _ (bf hb2);simp at this;exact this hid
 ·obtain ⟨h1,h2⟩:=hv id g hg;obtain ⟨⟨b,hb1⟩,h3⟩:=hi.dom id g h2;exact ⟨⟨b,by rw[bA,if_neg (λe=>h1 e.symm)];exact hb1⟩,h3⟩
 ·exact hi.inj i j g (hv i g h1).2 (hv j g h2).2
def rf (P:Program) (C:Ctx) (ops:Array Oper) (Q:Exit->Act->World->Prop) (n:Nat) (L:Array Bool) (σ:St):Prop:=∀a w,Rel C σ a w->wpAny P .any ops Q n L a w
theorem De {ops:Array Oper} {Q:Exit->Act->World->Prop} {n:Nat} {L:Array Bool} (hn:ops.size=n) (hL:aV ops.size 0=L) (h:rf P C ops Q n L σ):bp P C ops Q 0 σ:=by
 subst hn hL;intro a w hr;rw[Nat.sub_zero];exact h a w hr
theorem cT {ops:Array Oper} {L:Array Bool} (hr:Region.ready .any ops L=[]) (h:Cw P C Ret k σ):rf P C ops (aft (la C Ret) (sem P C (la C Ret) k)) 0 L σ:=λa w hrel=>⟨hr,h a w hrel⟩
theorem YD {ops:Array Oper} {Q:Exit->Act->World->Prop} {n i:Nat} {L L':Array Bool} {o:Oper} (hr:Region.ready .any ops L=[i]) (hL:L.setIfInBounds i true=L') (ho:ops[i]? = some o) (ht:nD P C ops o σ σ') (h:rf P C ops Q n L' σ'):rf P C ops Q (n+1) L σ:=λa w hrel=>by
 subst hL;refine ⟨λh0=>(by rw[hr] at h0;cases h0),λj hj=>?_⟩;rw[hr,List.mem_singleton] at hj;subst hj;exact jF ho ht hrel λa' w' hr'=>h a' w' hr'
theorem dX {ops:Array Oper} {Q:Exit->Act->World->Prop} {n i j:Nat} {L L1 L2:Array Bool} {o1 o2:Oper} {σ1 σ2:St} (hr:Region.ready .any ops L=[i,j]) (hL1:L.setIfInBounds i true=L1) (hL2:L.setIfInBounds j true=L2) (ho1:ops[i]? = some o1) (ho2:ops[j]? = some o2)
  (ht1:nD P C ops o1 σ σ1) (ht2:nD P C ops o2 σ σ2) (h1:rf P C ops Q n L1 σ1) (h2:rf P C ops Q n L2 σ2):rf P C ops Q (n+1) L σ:=λa w hrel=>by
 subst hL1 hL2;refine ⟨λh0=>(by rw[hr] at h0;cases h0),λm hm=>?_⟩;rw[hr] at hm
 rcases List.mem_cons.1 hm with rfl | hm
 ·exact jF ho1 ht1 hrel λa' w' hr'=>h1 a' w' hr'
 ·rw[List.mem_singleton] at hm;subst hm;exact jF ho2 ht2 hrel λa' w' hr'=>h2 a' w' hr'
theorem YT (hT:TabOK P T) {ops:Array Oper} {o:Oper} (hg:o.guard=none) {p:Prop} (h:ef T σ o.dst o.op=some (p,σ')) (hp:p):nD P C ops o σ σ':=λa w K Q' hr hK=>by
 obtain ⟨μ,S,hi⟩:=hr;rw[bk hi (show guardOf ops σ o.guard=some true from by rw[hg];rfl)];exact .inl (bY hT o h hp a w K Q' ⟨μ,S,hi⟩ hK)
end
end Go.Eng
namespace La
open Go Go.Lib
def cZ (c:UInt8):List UInt8->List (List UInt8)
 | []=>[[]]
 | x::r=>if x=c then []::cZ c r else ((x::(cZ c r).headD [])::(cZ c r).tail)
theorem FG (c:UInt8) (s:List UInt8):cZ c s≠[]:=by
 cases s with
 | nil=>simp[cZ]
 | cons x r=>unfold cZ;split<;>simp
theorem uU (c:UInt8) (s:List UInt8):(cZ c s).headD []::(cZ c s).tail=cZ c s:=by
 cases e:cZ c s with
 | nil=>exact absurd e (FG c s)
 | cons p ps=>rfl
theorem nA (c:UInt8):∀s:List UInt8,splitK [c] 0 (count s [c]) s=cZ c s
 | []=>by rw[count_miss (by simp[index])];rfl
 | x::r=>by
  by_cases h:x=c
  ·subst h;have hix:index (x::r) [x]=((0:Nat):Int):=by rw[index];simp[List.isPrefixOf]
   rw[count_cons_eq,Nat.add_comm,splitK,hix];simp only[cZ,if_true];rw[←nA x r];simp
  ·have ih:=nA c r;have hp:([c]:List UInt8).isPrefixOf (x::r)=false:=by simp[List.isPrefixOf,Ne.symm h]
   have hix:index (x::r) [c]=if index r [c]==-1 then -1 else index r [c]+1:=by rw[index,hp];simp
   rw[count_cons_ne x c r h];simp only[cZ,if_neg h,←ih];cases e:count r [c] with
   | zero=>simp[splitK]
   | succ k=>
    have hm:¬index r [c]=-1:=λe2=>by rw[count_miss e2] at e;cases e
    have hge:=index_ge r [c];obtain ⟨j,hj⟩:∃j:Nat,index r [c]=j:=⟨(index r [c]).toNat,by omega⟩;have hix':index (x::r) [c]=((j+1:Nat):Int):=by rw[hix,if_neg (λe=>hm (beq_iff_eq.1 e)),hj];omega
    simp only[splitK,hix',hj];have h1:((((j+1:Nat):Int))==-1)=false:=beq_eq_false_iff_ne.2 z8;have h2:(((j:Nat):Int)==-1)=false:=beq_eq_false_iff_ne.2 z8;simp only[h1,h2];simp
theorem Aj (c:UInt8) (s:ByteArray):(splitB ⟨#[c]⟩ 0 (countB s ⟨#[c]⟩) s).map (·.data.toList)=cZ c s.data.toList:=by
 rw[splitB_data,←nA]
def uS (c:UInt8):List (List UInt8)->List UInt8->List UInt8->List (List UInt8)
 | done,cur,[]=>done++[cur]
 | done,cur,x::r=>if x=c then uS c (done++[cur]) [] r else uS c done (cur++[x]) r
theorem uT (c:UInt8):∀(s:List UInt8) (done:List (List UInt8)) (cur:List UInt8),uS c done cur s=done++((cur++(cZ c s).headD [])::(cZ c s).tail)
 | [],done,cur=>by simp[uS,cZ]
 | x::r,done,cur=>by
  simp only[uS,cZ];split
  ·rw[uT c r];have:=uU c r;simp only[List.nil_append,this,YQ,List.headD_cons,List.append_nil,List.tail_cons,List.singleton_append]
  ·rw[uT c r];simp
theorem C7 (c:UInt8) (s:List UInt8):uS c [] [] s=cZ c s:=by
 rw[uT,List.nil_append,List.nil_append,uU]
theorem qL (c:UInt8):∀s:List UInt8,(cZ c s).length≤s.length+1
 | []=>by simp[cZ]
 | x::r=>by
  have:=qL c r;unfold cZ;split
  ·simp;omega
  ·simp;omega
theorem mo (c:UInt8):∀(s p:List UInt8),p∈cZ c s->p.length≤s.length
 | [],p,h=>by simp[cZ] at h;subst h;simp
 | x::r,p,h=>by
  unfold cZ at h;have ih:=mo c r;split at h
  ·rcases List.mem_cons.1 h with rfl | h
   ·simp
   ·have:=ih p h;simp;omega
  ·rcases List.mem_cons.1 h with rfl | h
   ·have:(cZ c r).headD []∈cZ c r:=by
     have:=uU c r;rw[←this];simp
    have:=ih _ this;simp only[List.length_cons];omega
   ·have:=ih p (List.mem_of_mem_tail h);simp;omega
end La
namespace La
open Go Go.Eng
def af (s:List UInt8):List (List UInt8)×Int:=
 if 40<s.length then ([],4) else if s=[47] then ([],0) else if s.head?≠some 47 then ([],2) else
  if (cZ 47 (s.drop 1)).all cu then (cZ 47 (s.drop 1),0) else ([],7)
def ct (p:List (List UInt8)×Int):AV:=.tup [.sl (p.1.map aR),.int .i64 p.2]
end La
namespace Go.Eng
section
variable {P:Program} {C:Ctx} {σ:St}
def tp:AV->AV
 | .nils=>.sl [] | .any=>.any | .int k n=>.int k n | .bool b=>.bool b | .str s=>.str s | .nilp=>.nilp | .nili=>.nili | .ifc=>.ifc | .nilm=>.nilm | .sl r=>.sl r | .rp c o=>.rp c o | .rm m=>.rm m | .fn f c=>.fn f c
 | .agg c=>.agg (c.map λ| .nils=>.sl [] | x=>x) | .tup v=>.tup v | .ptr a b c d=>.ptr a b c d | .osl a b c d=>.osl a b c d | .mp i=>.mp i | .exs a b c d e=>.exs a b c d e | .cnd c v=>.cnd c v
theorem D3 {μ:Nat->Option Nat} {S:Nat->Prop} {w:World} {v:Value} (h:Rd μ S w v .nils):Rd μ S w v (.sl []):=h.wk (.inr (.inr ⟨rfl,.inl rfl⟩))
theorem Rd.tp {μ:Nat->Option Nat} {S:Nat->Prop} {w:World} {v:Value} {x:AV} (h:Rd μ S w v x):Rd μ S w v (Eng.tp x):=by
 cases x with
 | nils=>exact D3 h
 | agg c=>
  have key:∀{cs:Array Value} {f:AV->AV},(∀j x,c[j]? = some x->Rd μ S w (cs.getD j undef) (f x))->∀j x,(c.map f)[j]? = some x->Rd μ S w (cs.getD j undef) x:=fun {cs f} h j x hx=>by
   rw[Wm] at hx;cases e:c[j]? with
   | none=>rw[e] at hx;cases hx
   | some y=>rw[e] at hx;injection hx with hx;subst hx;exact h j y e
  have one:∀{v:Value} (x:AV),Rd μ S w v x->Rd μ S w v (match x with | .nils=>.sl [] | x=>x):=λx hx=>by
   split
   ·exact D3 hx
   ·exact hx
  cases h with
  | pure h=>
   cases h with
   | agg cs _ hl hr=>exact .agg cs _ (by rw[List.length_map];exact hl) (key λj x hx=>one x (.pure (hr j x hx)))
  | agg cs _ hl hr=>exact .agg cs _ (by rw[List.length_map];exact hl) (key λj x hx=>one x (hr j x hx))
 | _=>exact h
theorem au (id:Nat) {e s:Nat} {rows rows':List (List AV)} (hb:aa σ.hp id=some (.cells e s rows):=by simp only[go_sem];exact rfl) (hr:rows.map (λrow=>row.map tp)=rows':=by simp only[go_sem,tp];exact rfl):Le C σ ⟨σ.tm,aQ σ.hp id (.cells e s rows')⟩:=by
 subst hr;rintro a w ⟨μ,S,hi⟩;refine ⟨μ,S,hi.size,hi.defers,hi.tm,λi b hb'=>?_,λi q hq=>?_,hi.inj,hi.frm,hi.sb⟩
 ·simp only[an] at hb';split at hb'
  ·rename_i h1;injection hb' with hb'
   subst h1 hb'
   rcases hi.hp id _ hb with ⟨rfl,k2⟩ | ⟨g,c,k1,k2,k3,k4,k5⟩
   ·exact .inl ⟨by simp,k2⟩
   ·refine .inr ⟨g,c,k1,k2,by rw[List.length_map];exact k3,λrow hrow=>?_,λi row hi' q x hx=>?_⟩
    ·obtain ⟨r0,h0,rfl⟩:=Wq.1 hrow;rw[List.length_map];exact k4 r0 h0
    ·rw[Wm] at hi';cases e0:rows[i]? with
     | none=>rw[e0] at hi';cases hi'
     | some r0=>
      rw[e0] at hi';simp only[Option.map_some,Option.some.injEq] at hi';subst hi';rw[Wm] at hx;cases e1:r0[q]? with
      | none=>rw[e1] at hx;cases hx
      | some y=>
       rw[e1] at hx;simp only[Option.map_some,Option.some.injEq] at hx;subst hx;exact (k5 i r0 e0 q y e1).tp
  ·exact hi.hp i b hb'
 ·obtain ⟨⟨b,h1⟩,h2⟩:=hi.dom i q hq;refine ⟨?_,h2⟩;simp only[an];split
  ·exact ⟨_,rfl⟩
  ·exact ⟨b,h1⟩
theorem vm (t:Nat) {x y:AV} (hx:σ.tm.getD t .any=x) (hy:tp x=y):Le C σ ⟨σ.tm.set t y,σ.hp⟩:=by
 subst hx hy;rintro a w ⟨μ,S,hi⟩;refine ⟨μ,S,by rw[YL];exact hi.size,hi.defers,λj z hz=>?_,hi.hp,hi.dom,hi.inj,hi.frm,hi.sb⟩;rw[YA] at hz;split at hz
 ·rename_i e;subst e;split at hz
  ·rename_i hlt;injection hz with hz
   subst hz;rw[Wi,Wj hlt];exact (hi.tm t _ (Wj hlt)).tp
  ·cases hz
 ·exact hi.tm j z hz
end
end Go.Eng
namespace Go.Eng
section
variable {P:Program} {T:Tab} {C:Ctx} {σ σ':St}
structure Ef where
 wr:List Loc
 rd:List Loc
 app:St->St
structure EfOK (e:Ef):Prop where
 len:∀s,(e.app s).tm.length=s.tm.length
 frame:∀s x,x∉e.wr->aP s (e.app s) x
 det:∀s s',s'.tm.length=s.tm.length->∀x,x∈e.wr->aP (e.app s) (e.app s') x
theorem aP.refl (s:St) (x:Loc):aP s s x:=by cases x<;>rfl
theorem aP.trans {a b c:St} {x:Loc} (h:aP a b x) (k:aP b c x):aP a c x:=by cases x<;>exact Eq.trans k h
theorem aP.symm {a b:St} {x:Loc} (h:aP a b x):aP b a x:=by cases x<;>exact Eq.symm h
def efU (es:List Ef) (i:Nat) (σ:St):St:=(es.take i).foldl (λs e=>e.app s) σ
theorem lE (es:List Ef) (σ:St):efU es 0 σ=σ:=by simp[efU]
theorem rG {es:List Ef} {i:Nat} {e:Ef} (h:es[i]? = some e) (σ:St):efU es (i+1) σ=e.app (efU es i σ):=by
 unfold efU;obtain ⟨hi,he⟩:=Wp.1 h;rw[List.take_succ_eq_append_getElem hi,List.foldl_append,he];rfl
theorem qM {es:List Ef} (hok:∀e,e∈es->EfOK e) (σ:St):∀i,i≤es.length->(efU es i σ).tm.length=σ.tm.length
 | 0,_=>by rw[lE]
 | i+1,h=>by
  have hi:es[i]? = some es[i]:=Wj z8;rw[rG hi,(hok _ (Wn hi)).len,qM hok σ i z8]
def fg (W:Nat->Bool):Nat->Nat
 | 0=>0
 | n+1=>if W n=true then n+1 else fg W n
theorem xA (W:Nat->Bool):∀n,fg W n≤n
 | 0=>Wt _
 | n+1=>by unfold fg;split<;>have:=xA W n<;>omega
theorem rY (W:Nat->Bool):∀n j,fg W n≤j->j<n->W j=false
 | 0,j,_,h=>by omega
 | n+1,j,h,hj=>by
  unfold fg at h;split at h
  ·omega
  ·rename_i hn
   by_cases e:j=n
   ·subst e;simpa using hn
   ·exact rY W n j h z8
theorem uc {W W':Nat->Bool} {m:Nat} (h:∀j,W' j=(W j||j==m)):∀n,m<n->(∀j,m<j->j<n->W j=false)->fg W' n=m+1
 | 0,h0,_=>by omega
 | n+1,h0,hl=>by
  unfold fg
  by_cases e:m=n
  ·subst e;rw[if_pos (by rw[h];simp)]
  ·have h1:=hl n z8 (Nat.lt_succ_self n);rw[if_neg (by rw[h,h1];simp;omega)];exact uc h n z8 λj h2 h3=>hl j h2 z8
theorem lP {W W':Nat->Bool}:∀n,(∀j,j<n->W' j=W j)->fg W' n=fg W n
 | 0,_=>rfl
 | n+1,h=>by
  unfold fg;rw[h n (Nat.lt_succ_self n),lP n λj hj=>h j z8]
def wrB (es:List Ef) (x:Loc) (j:Nat):Bool:=match es[j]? with
 | some e=>decide (x∈e.wr)
 | none=>false
theorem tL {es:List Ef} (hok:∀e,e∈es->EfOK e) (σ:St) (x:Loc) (i:Nat):∀j,i≤j->j≤es.length->(∀m,i≤m->m<j->wrB es x m=false)->aP (efU es i σ) (efU es j σ) x
 | 0,h,_,_=>by rw[show i=0 by omega];exact aP.refl _ _
 | j+1,h,hj,hno=>by
  by_cases e:i=j+1
  ·rw[e];exact aP.refl _ _
  ·have hi:es[j]? = some es[j]:=Wj z8;have h1:=tL hok σ x i j z8 z8 λm h1 h2=>hno m h1 z8
   rw[rG hi];refine h1.trans ((hok _ (Wn hi)).frame _ x ?_);have:=hno j z8 (Nat.lt_succ_self j);unfold wrB at this;rw[hi] at this;simpa using this
structure Desc2 (σ:St) (es:List Ef) (D:Nat->Bool) (s:St):Prop where
 len:s.tm.length=σ.tm.length
 at_:∀x,aP (efU es (fg (λj=>D j&&wrB es x j) es.length) σ) s x
theorem Desc2.start (σ:St) (es:List Ef):Desc2 σ es (λ_=>false) σ:=⟨rfl,λx=>by
 have:fg (λj=>false&&wrB es x j) es.length=0:=by
  have:∀n,fg (λj=>false&&wrB es x j) n=0:=λn=>by
   induction n with
   | zero=>rfl
   | succ n ih=>unfold fg;rw[if_neg y7];exact ih
  exact this _
 rw[this,lE];exact aP.refl _ _⟩
theorem Desc2.same {es:List Ef} {D:Nat->Bool} {s:St} (hok:∀e,e∈es->EfOK e) (h:Desc2 σ es D s) {x:Loc} {m:Nat} (hm:m≤es.length) (hx:∀j,j<es.length->wrB es x j=true->D j=decide (j<m)):aP (efU es m σ) s x:=by
 have h1:=h.at_ x;have h2:fg (λj=>D j&&wrB es x j) es.length=fg (λj=>decide (j<m)&&wrB es x j) es.length:=lP _ λj hj=>by
  cases e:wrB es x j with
  | false=>simp
  | true=>rw[hx j hj e]
 rw[h2] at h1;have h3:fg (λj=>decide (j<m)&&wrB es x j) es.length≤m:=by
  rcases Nat.lt_or_ge m (fg (λj=>decide (j<m)&&wrB es x j) es.length) with h4 | h4
  ·exfalso
   have key:∀n,m<fg (λj=>decide (j<m)&&wrB es x j) n->False:=λn=>by
    induction n with
    | zero=>intro h;simp[fg] at h
    | succ n ih=>
     intro h;unfold fg at h;split at h
     ·rename_i hw;simp at hw;omega
     ·exact ih h
   exact key _ h4
  ·exact h4
 refine aP.trans ?_ h1;refine (tL hok σ x _ m h3 hm λj h4 h5=>?_).symm;have:=rY _ es.length j h4 z8;simpa[h5] using this
theorem Desc2.add {es:List Ef} {D:Nat->Bool} {s:St} (hok:∀e,e∈es->EfOK e) (h:Desc2 σ es D s) {m:Nat} {e:Ef} (he:es[m]? = some e) (hlate:∀x,x∈e.wr->∀j,m<j->j<es.length->wrB es x j=true->D j=false):Desc2 σ es (λj=>D j||j==m) (e.app s):=by
 have hm:m<es.length:=(Wp.1 he).1;have heo:=hok e (Wn he);refine ⟨by rw[heo.len];exact h.len,λx=>?_⟩
 by_cases hx:x∈e.wr
 ·have hw:wrB es x m=true:=by simp only[wrB,he];simpa using hx
  rw[uc (W:=λj=>D j&&wrB es x j) (m:=m) (λj=>show ((D j||j==m)&&wrB es x j)=((D j&&wrB es x j)||j==m) from by
   by_cases e2:j=m
   ·subst e2;rw[hw,beq_self_eq_true,Bool.or_true,Bool.or_true];rfl
   ·rw[beq_false_of_ne e2,Ym,Ym]) es.length hm λj h1 h2=>by
    cases e3:wrB es x j with
    | false=>simp
    | true=>rw[hlate x hx j h1 h2 e3];rfl]
  rw[rG he];exact heo.det _ _ (by rw[h.len,qM hok σ m z8]) x hx
 ·have hw:wrB es x m=false:=by simp only[wrB,he];simpa using hx
  rw[lP (W:=λj=>D j&&wrB es x j) _ λj hj=>show ((D j||j==m)&&wrB es x j)=(D j&&wrB es x j) from by
   by_cases e2:j=m
   ·subst e2;rw[hw,Bool.and_false,Bool.and_false]
   ·rw[beq_false_of_ne e2,Ym]]
  exact (h.at_ x).trans (heo.frame s x hx)
def skE (es:List Ef):du:=es.map λe=>(e.wr,e.rd)
structure SegFacts2 (ops:Array Oper) (k:Nat) (es:List Ef):Prop where
 lt:∀i,i<ops.size->∀e,e∈gO ops i->e<i
 late:∀i,i<ops.size->k+es.length≤i->∀s,s<es.length->reach ops ops.size (k+s) i=true
 od:∀(i j:Nat) p q x,es[i]? = some p->es[j]? = some q->x∈q.wr->(x∈p.rd\/x∈p.wr)->i≠j->(j<i/\reach ops ops.size (k+j) (k+i)=true)\/(i<j/\reach ops ops.size (k+i) (k+j)=true)
 size:k+es.length≤ops.size
theorem Ad {ops:Array Oper} {k:Nat} {ps:List Ef} (h:mg ops k (skE ps)=true):SegFacts2 ops k ps:=by
 unfold mg Ac at h;simp only[Bool.and_eq_true,decide_eq_true_eq] at h;obtain ⟨⟨⟨h1,h2⟩,h3⟩,h4⟩:=h;have hl:(skE ps).length=ps.length:=by simp[skE]
 rw[hl] at h2 h3 h4;have key:∀(i j:Nat) (p q:Ef),ps[i]? = some p->ps[j]? = some q->i=j\/((∀x,x∈q.wr->x∉p.wr/\x∉p.rd)\/(if j<i then reach ops ops.size (k+j) (k+i) else reach ops ops.size (k+i) (k+j))=true):=by
  intro i j p q hp hq;have hi:i<ps.length:=(Wp.1 hp).1;have hj:j<ps.length:=(Wp.1 hq).1;have:=List.all_eq_true.1 (List.all_eq_true.1 h3 i (YK.2 hi)) j (YK.2 hj);simp only[skE,Wm,hp,hq,Option.map_some,Bool.or_eq_true,beq_iff_eq,YU,List.any_eq_false,List.contains_iff_mem] at this
  rcases this with h | h6
  ·exact .inl h
  ·refine .inr ?_
   rcases h6 with h6 | h6
   ·exact .inl (λx hx=>⟨λhx'=>h6 x hx (.inl hx'),λhx'=>h6 x hx (.inr hx')⟩)
   ·refine .inr ?_;split at h6
    ·rw[if_pos WL];exact iw z8 h6
    ·rw[if_neg WL];exact iw z8 h6
 refine ⟨λi hi e he=>?_,λi hi hle s hs=>?_,λi j p q x hp hq hx hx' hne=>?_,h4⟩
 ·have:=List.all_eq_true.1 (List.all_eq_true.1 h1 i (YK.2 hi)) e he;simpa using this
 ·have:=List.all_eq_true.1 h2 i (YK.2 hi);simp only[Bool.or_eq_true,decide_eq_true_eq] at this
  rcases this with h | h
  ·omega
  ·exact iw hi (List.all_eq_true.1 h s (YK.2 hs))
 ·rcases key i j p q hp hq with h | h
  ·exact absurd h hne
  ·rcases h with h | h
   ·rcases hx' with hx' | hx'
    ·exact absurd hx' (h x hx).2
    ·exact absurd hx' (h x hx).1
   ·split at h
    ·exact .inl ⟨by assumption,h⟩
    ·exact .inr ⟨by omega,h⟩
theorem EF {es:List Ef} {x:Loc} {j:Nat} (h:wrB es x j=true):∃q,es[j]? = some q/\x∈q.wr:=by
 unfold wrB at h;cases e:es[j]? with
 | none=>rw[e] at h;cases h
 | some q=>rw[e] at h;exact ⟨q,rfl,by simpa using h⟩
theorem FK {ops:Array Oper} {Q:Exit->Go.Act->World->Prop} {k:Nat} {l:List Oper} {es:List Ef} (hck:mg ops k (skE es)=true) (hlen:l.length=es.length)
  (hl:∀i,i<es.length->ops[k+i]? = l[i]?) (hok:∀e,e∈es->EfOK e)
  (hrob:∀m o e,l[m]? = some o->es[m]? = some e->∀s,s.tm.length=σ.tm.length->(∀x,(x∈e.rd\/x∈e.wr)->aP (efU es m σ) s x)->(∀x,∃i,i≤es.length/\aP (efU es i σ) s x)->nD P C ops o s (e.app s))
  (h:bp P C ops Q (k+es.length) (efU es es.length σ)):bp P C ops Q k σ:=by
 have hF:=Ad hck;have main:∀(r:Nat) (D:Nat->Bool) (listed:Array Bool) (s:St),((List.range es.length).filter λj=>!D j).length=r->listed.size=ops.size ->
   (∀j,j<ops.size->listed.getD j false=(decide (j<k)||(decide (j<k+es.length)&&D (j-k)))) ->
   (∀j,listed.getD j false=true->∀e,e∈gO ops j->listed.getD e false=true)->Desc2 σ es D s->∀a w,Rel C s a w->wpAny P .any ops Q (ops.size-(k+es.length)+r) listed a w:=by
  intro r
  induction r with
  | zero=>
   intro D listed s hr hsz hlist _ hd a w hrel;have hall:∀j,j<es.length->D j=true:=λj hj=>by
    have h0:(List.range es.length).filter (λj=>!D j)=[]:=List.eq_nil_of_length_eq_zero hr;have:=List.filter_eq_nil_iff.1 h0 j (YK.2 hj);simpa using this
   have e:listed=aV ops.size (k+es.length):=by
    apply Array.ext
    ·simp[aV,hsz]
    ·intro j h1 h2;have hj:j<ops.size:=by omega
     have h3:=hlist j hj;rw[Wk,Ws h1,Option.getD_some] at h3;rw[h3];have h4:=df ops.size (k+es.length) j false;rw[Wk,Ws h2,Option.getD_some,if_pos hj] at h4;rw[h4]
     by_cases hk:j<k
     ·simp[hk];omega
     ·by_cases hk2:j<k+es.length
      ·simp[hk,hk2,hall (j-k) z8]
      ·simp[hk,hk2]
   rw[Nat.add_zero,e];have hsame:Le C s (efU es es.length σ):=iR (hd.len.trans (qM hok σ _ (Wt _)).symm)
    (λt=>hd.same hok (x:=.tm t) (Wt _) λj hj _=>by rw[hall j hj];simp[hj])
    (λid=>hd.same hok (x:=.blk id) (Wt _) λj hj _=>by rw[hall j hj];simp[hj])
   exact h a w (hsame a w hrel)
  | succ r ih=>
   intro D listed s hr hsz hlist hclosed hd a w hrel;have hex:∃m,m<es.length/\D m=false:=by
    have hne:(List.range es.length).filter (λj=>!D j)≠[]:=by intro e;rw[e] at hr;simp at hr
    obtain ⟨m,hm⟩:=List.exists_mem_of_ne_nil _ hne;rw[Wy,YK] at hm;exact ⟨m,hm.1,by simpa using hm.2⟩
   obtain ⟨m0,⟨hm0,hD0⟩,hmin⟩:=least (p:=λm=>m<es.length/\D m=false) hex;have hun:listed.getD (k+m0) false=false:=by
    rw[hlist _ WC];simp[show ¬k+m0<k by omega,hD0]
   refine ⟨λh0=>?_,λi hi=>?_⟩
   ·exfalso
    have:k+m0∈Region.ready .any ops listed:=by
     rw[mem_ready];have hlt':k+m0<ops.size:=by have:=hF.size;omega
     refine ⟨?_,ops[k+m0],Ws hlt',λe he hb=>?_⟩
     ·rw[Wk,Ws z8] at hun ⊢;exact hun
     ·have hmem:e.on∈gO ops (k+m0):=by
       unfold gO;rw[Ws hlt'];exact Wq.2 ⟨e,Wy.2 ⟨by simpa using he,hb⟩,rfl⟩
      have hl':=hF.lt _ hlt' _ hmem;rw[hlist _ z8]
      by_cases h1:e.on<k
      ·simp[h1]
      ·have h2:D (e.on-k)=true:=by
        cases h3:D (e.on-k) with
        | true=>rfl
        | false=>exact absurd ⟨by omega,h3⟩ (hmin (e.on-k) z8)
       simp[h1,h2,show e.on<k+es.length by omega]
    rw[h0] at this;cases this
   ·obtain ⟨h1,o,ho,hall⟩:=mem_ready.1 hi;have hilt:i<ops.size:=(YC.1 ho).1;have hil:listed.getD i false=false:=by
     rw[Wk,Ws z8] at h1 ⊢;exact h1
    have hpl:∀e,e∈gO ops i->listed.getD e false=true:=λe he=>by
     unfold gO at he;rw[ho] at he;obtain ⟨ed,hed,rfl⟩:=Wq.1 he;rw[Wy] at hed;exact hall ed (by simpa using hed.1) hed.2
    have hik:k≤i:=by
     rw[hlist i hilt] at hil;simp at hil;omega
    have hiu:i<k+es.length:=by
     rcases Nat.lt_or_ge i (k+es.length) with h2 | h2
     ·exact h2
     ·have:=dN hclosed _ _ _ (hF.late i hilt h2 m0 hm0) hpl;rw[hun] at this;cases this
    obtain ⟨m,rfl⟩:∃m,i=k+m:=⟨i-k,by omega⟩;have hm:m<es.length:=by omega
    have hDm:D m=false:=by
     rw[hlist _ hilt] at hil;simpa[show ¬k+m<k by omega,hiu] using hil
    have hpm:es[m]? = some es[m]:=Wj hm;have hom:l[m]? = some o:=by rw[←hl m hm];exact ho
    have key:∀x,(x∈es[m].rd\/x∈es[m].wr)->∀(j:Nat),j<es.length->wrB es x j=true->D j=decide (j<m):=λx hx j hj hwj=>by
     obtain ⟨q,hq,hxq⟩:=EF hwj
     by_cases e:m=j
     ·subst e;simp[hDm]
     ·rcases hF.od m j _ q x hpm hq hxq hx e with ⟨h3,h4⟩ | ⟨h3,h4⟩
      ·have h5:=dN hclosed _ _ _ h4 hpl;rw[hlist _ z8] at h5;simp[show ¬k+j<k by omega] at h5;simp[h3,h5.2]
      ·cases h6:D j with
       | false=>simp;omega
       | true=>
        have h7:listed.getD (k+j) false=true:=by
         rw[hlist _ WC];simp[h6,hj]
        have h8:=dN hclosed _ _ _ h4 (hclosed _ h7);rw[hil] at h8;cases h8
    have ht:=hrob m o es[m] hom hpm s hd.len (λx hx=>hd.same hok z8 (key x hx)) (λx=>⟨_,xA _ _,hd.at_ x⟩);refine jF ho ht hrel λa' w' hr'=>?_
    refine ih (λj=>D j||j==m) (listed.setIfInBounds (k+m) true) (es[m].app s) ?_ (by simp[hsz]) (λj hj=>?_) (λj hj e he=>?_) (hd.add hok hpm λx hx j hlt hj hw=>by rw[key x (.inr hx) j hj hw];simp;omega) a' w' hr'
    ·have:=lK hDm (List.range es.length) List.nodup_range (YK.2 hm);omega
    ·by_cases e:k+m=j
     ·subst e;rw[Wk,Array.getElem?_setIfInBounds_self_of_lt z8];simp[hiu]
     ·rw[getD_set_ne false e,hlist j hj];have:(j-k==m)=false\/j<k:=by
       by_cases h2:j<k
       ·exact .inr h2
       ·left;simp;omega
      rcases this with h2 | h2
      ·rw[h2];simp
      ·simp[h2]
    ·by_cases e':k+m=j
     ·subst e';exact getD_set_true (hpl e he)
     ·rw[getD_set_ne false e'] at hj;exact getD_set_true (hclosed j hj e he)
 intro a w hr;have h0:=main es.length (λ_=>false) (aV ops.size k) σ (by show ((List.range es.length).filter λ_=>true).length=es.length;rw[W9.2 (λ_ _=>rfl)];simp) (by simp[aV]) (λj hj=>by rw[df,if_pos hj];simp) (λj hj e he=>by
  rw[df] at hj ⊢;split at hj
  ·rename_i hjn;have hlt':=hF.lt j hjn e he;rw[if_pos z8];simp at hj ⊢;omega
  ·cases hj) (Desc2.start σ es) a w hr
 rw[show ops.size-k=ops.size-(k+es.length)+es.length from by have:=hF.size;omega];exact h0
end
end Go.Eng
