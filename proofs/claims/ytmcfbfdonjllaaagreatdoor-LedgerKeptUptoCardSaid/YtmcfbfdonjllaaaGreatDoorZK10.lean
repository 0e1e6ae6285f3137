/- Texts of this claim, part 10: EngAS, EngAT, PNames, PSplit, EngAU, EngAV, EngAW, EngAX, EngAY, EngAZ. No condition. -/
import Derived.Test.YtmcfbfdonjllaaaGreatDoorZK9
import Derived.Laws.IdiomStrings
import Derived.Lib.SplitLaws
import Derived.Lib.Join
import Derived.Laws.MakeOwn
set_option maxRecDepth 10000
set_option maxHeartbeats 4000000
set_option linter.unusedSimpArgs false
set_option linter.unusedVariables false
namespace Go.Eng
section
variable {P:Program} {T:Tab} {C:Ctx} {σ σ':St} {a:Act} {w:World} {Ret:St->Prop} {k:List It}
def fp:List (List AV)->List (List AV)->Prop
 | [],[]=>True
 | r::l,s::m=>nR r s/\fp l m
 | _,_=>False
theorem oD:∀{l m:List (List AV)},fp l m->l.length=m.length/\∀(t:Nat) y,m[t]? = some y->∃x,l[t]? = some x/\nR x y
 | [],[],_=>⟨rfl,λt y h=>by simp at h⟩
 | x::l,y::m,h=>by
  obtain ⟨h1,h2⟩:=oD h.2;refine ⟨by simp[h1],λt z hz=>?_⟩;cases t with
  | zero=>
   simp only[List.getElem?_cons_zero,Option.some.injEq] at hz;subst hz;exact ⟨x,rfl,h.1⟩
  | succ t=>simpa using h2 t z Ql
 | [],_::_,h=>h.elim
 | _::_,[],h=>h.elim
theorem kN (id:Nat) (rows':List (List AV)) {e s:Nat} {rows:List (List AV)} (hb:aa σ.hp id=some (.cells e s rows)) (hr:fp rows rows'):Le C σ ⟨σ.tm,aB σ.hp id (.cells e s rows')⟩:=by
 obtain ⟨hl,hg⟩:=oD hr;rintro a w ⟨μ,S,hi⟩;refine ⟨μ,S,hi.size,hi.defers,hi.tm,λi b hb'=>?_,λi q hq=>?_,hi.inj,hi.frm,hi.sb⟩
 ·simp only[ai] at hb';split at hb'
  ·rename_i h1;injection hb' with hb'
   subst h1 hb'
   rcases hi.hp id _ hb with ⟨rfl,k2⟩ | ⟨g,c,k1,k2,k3,k4,k5⟩
   ·exact .inl ⟨List.length_eq_zero_iff.1 hl.symm,k2⟩
   ·refine .inr ⟨g,c,k1,k2,by rw[←hl];exact k3,λrow hrow=>?_,λi row hi' q x hx=>?_⟩
    ·obtain ⟨i,hi'⟩:=Z1 hrow;obtain ⟨r0,h0,h1⟩:=hg i row hi';rw[←(mE h1).1];exact k4 r0 (Zs h0)
    ·obtain ⟨r0,h0,h1⟩:=hg i row hi';obtain ⟨y,hy,hw⟩:=(mE h1).2 q x hx;exact (k5 i r0 h0 q y hy).wk hw
  ·exact hi.hp i b hb'
 ·obtain ⟨⟨b,h1⟩,h2⟩:=hi.dom i q hq;refine ⟨?_,h2⟩;simp only[ai];split
  ·exact ⟨_,rfl⟩
  ·exact ⟨b,h1⟩
theorem nT (p q c:Nat) {e s e2 s2:Nat} {rows rows2 rows3:List (List AV)} {H1 H2:List (Nat×Blk)} {l':List AV} (hb:aa σ.hp p=some (.cells e s rows)) (hq:aa σ.hp q=none) (hr:au (.cells e s rows)=[])
  (hcb:aa σ.hp c=some (.cells e2 s2 rows2)) (hH1:c_ σ.hp p=H1) (hH:c_ H1 c=H2) (hcp:(c==p)=false) (hf:(H2.all λx=>!(au x.2).contains p)=true) (hr3:rows2.map (λrow=>row.map (mv1 p q))=rows3) (ht:σ.tm.map (mv1 p q)=l') :
  Le C σ ⟨l',(q,.cells e s rows)::(c,.cells e2 s2 rows3)::H2⟩:=by
 subst hH hH1 ht hr3;intro a w ⟨μ,S,hi⟩;have hcp:c≠p:=by simpa using hcp
 have hne:p≠q:=λh=>by subst h;rw[hb] at hq;cases hq
 have hcq:c≠q:=λh=>by subst h;rw[hcb] at hq;cases hq
 have hmq:μ q=none:=by
  cases h:μ q with
  | none=>rfl
  | some g=>obtain ⟨⟨b,h1⟩,_⟩:=hi.dom q g h;rw[hq] at h1;cases h1
 let ν:Nat->Option Nat:=λi=>if i=q then μ p else if i=p then none else μ i
 have hνq:ν q=μ p:=by simp[ν]
 have hν:∀i,i≠p->i≠q->ν i=μ i:=λi h1 h2=>by simp[ν,h1,h2]
 have hm:∀i,i≠p->∀g,μ i=some g->ν i=some g:=λi h g hg=>by
  rw[hν i h (λe=>by subst e;rw[hmq] at hg;cases hg)];exact hg
 have hv:∀i g,ν i=some g->(i=q/\μ p=some g)\/(i≠p/\i≠q/\μ i=some g):=λi g h=>by
  simp only[ν] at h;split at h
  ·exact .inl ⟨by assumption,h⟩
  ·split at h
   ·cases h
   ·exact .inr ⟨by assumption,by assumption,h⟩
 have hkill:∀{v:Value} {y:AV},Rd μ S w v y->Rd ν S w v (kill p y):=fun {v y} h=>by
  unfold kill;split
  ·exact .any v
  ·rename_i hc;exact h.less λid hid g hg=>hm id (λe=>by subst e;exact hc (by simpa using hid)) g hg
 have hmv:∀{v:Value} {y:AV},Rd μ S w v y->Rd ν S w v (mv1 p q y):=fun {v y} h=>by
  cases y with
  | osl id s' o n=>
   simp only[mv1];split
   ·rename_i e;subst e;obtain ⟨A,cap,e1,hc,hor⟩:=h.bG;rw[e1];refine .osl q s' o n cap A hc ?_
    rcases hor with h | ⟨g,e2,m,k1,k2,k3,k4⟩
    ·exact .inl h
    ·exact .inr ⟨g,e2,m,hνq.trans k1,k2,k3,k4⟩
   ·rename_i e;exact h.less λi hid g hg=>hm i (λe'=>by simp only[refs,List.mem_singleton] at hid;exact e (hid.symm.trans e')) g hg
  | ptr id s' r o=>
   simp only[mv1];split
   ·rename_i e;subst e;obtain ⟨g,k1,e1⟩:=h.jc;rw[e1];exact .ptr q s' r o g (hνq.trans k1)
   ·rename_i e;exact h.less λi hid g hg=>hm i (λe'=>by simp only[refs,List.mem_singleton] at hid;exact e (hid.symm.trans e')) g hg
  | _=>exact hkill h
 refine ⟨ν,S,by simpa using hi.size,hi.defers,λt x hx=>?_,λid b hb'=>?_,λid g hg=>?_,λi j g h1 h2=>?_,hi.frm,hi.sb⟩
 ·simp only[Zr] at hx;obtain ⟨y,hy,rfl⟩:=WG.1 hx;exact hmv (hi.tm t y hy)
 ·simp only[aa] at hb';split at hb'
  ·rename_i e';injection hb' with hb'
   subst e' hb';have hk:=hi.hp p _ hb
   rcases hk with ⟨k1,k2⟩ | ⟨g,c,k1,k2,k3,k4,k5⟩
   ·exact .inl ⟨k1,hνq.trans k2⟩
   ·refine .inr ⟨g,c,hνq.trans k1,k2,k3,k4,λi row hi' j x hx=>(k5 i row hi' j x hx).less λid hid g' hg'=>?_⟩;have:id∈au (.cells e s rows):=List.mem_flatMap.2 ⟨row,Zs hi',aL hx hid⟩;rw[hr] at this;cases this
  ·rename_i hq';split at hb'
   ·rename_i e';injection hb' with hb'
    subst e' hb'
    rcases hi.hp c _ hcb with ⟨k1,k2⟩ | ⟨g,cp,k1,k2,k3,k4,k5⟩
    ·exact .inl ⟨by rw[k1];rfl,(hν c hcp hcq).trans k2⟩
    ·refine .inr ⟨g,cp,(hν c hcp hcq).trans k1,k2,by rw[List.length_map];exact k3,λrow hrow=>?_,λi row hi' j x hx=>?_⟩
     ·obtain ⟨r0,h0,rfl⟩:=Zv.1 hrow;rw[List.length_map];exact k4 r0 h0
     ·rw[Zr] at hi';obtain ⟨r0,h0,rfl⟩:=WG.1 hi';rw[Zr] at hx;obtain ⟨y,hy,rfl⟩:=WG.1 hx;exact hmv (k5 i r0 h0 j y hy)
   ·rename_i hc';have hb2:=hb';rw[bg,bg] at hb';split at hb'
    ·cases hb'
    ·split at hb'
     ·cases hb'
     ·rename_i hp';refine (hi.hp id b hb').less (hν id (λe=>hp' e.symm) (λe=>hq' e.symm)) λi hid g hg=>hm i (λe=>?_) g hg
      subst e;have:=List.all_eq_true.1 hf _ (aA hb2);simp at this;exact this hid
 ·rcases hv id g hg with ⟨rfl,h⟩ | ⟨h1,h2,h⟩
  ·exact ⟨⟨_,by simp only[aa,if_true];rfl⟩,(hi.dom p g h).2⟩
  ·obtain ⟨⟨b,hb1⟩,h3⟩:=hi.dom id g h;refine ⟨?_,h3⟩;simp only[aa,if_neg (λe:q=id=>h2 e.symm),bg];split
   ·exact ⟨_,rfl⟩
   ·rw[if_neg (λe:p=id=>h1 e.symm)];exact ⟨b,hb1⟩
 ·rcases hv i g h1 with ⟨rfl,k⟩ | ⟨k1,k2,k⟩<;>rcases hv j g h2 with ⟨rfl,m⟩ | ⟨m1,m2,m⟩
  ·rfl
  ·exact absurd (hi.inj p j g k m) (λe=>m1 e.symm)
  ·exact absurd (hi.inj i p g k m) k1
  ·exact hi.inj i j g k m
end
end Go.Eng
namespace Go.Eng
section
variable {P:Program} {T:Tab} {C:Ctx} {μ:Nat->Option Nat} {S:Nat->Prop} {σ σ':St} {a:Act} {w:World} {Ret:St->Prop} {k:List It}
end
end Go.Eng
namespace La
open Go Go.Lib
def eE (c:UInt8):List UInt8->List (List UInt8)
 | []=>[[]]
 | x::r=>if x=c then []::eE c r else ((x::(eE c r).headD [])::(eE c r).tail)
theorem En (c:UInt8) (s:List UInt8):eE c s≠[]:=by
 cases s with
 | nil=>simp[eE]
 | cons x r=>unfold eE;split<;>simp
theorem Em (c:UInt8) (s:List UInt8):(eE c s).headD []::(eE c s).tail=eE c s:=by
 cases e:eE c s with
 | nil=>exact absurd e (En c s)
 | cons p ps=>rfl
theorem lO (c:UInt8):∀s:List UInt8,splitK [c] 0 (count s [c]) s=eE c s
 | []=>by rw[count_miss (by simp[index])];rfl
 | x::r=>by
  by_cases h:x=c
  ·subst h;have hix:index (x::r) [x]=((0:Nat):Int):=by rw[index];simp[List.isPrefixOf]
   rw[count_cons_eq,Nat.add_comm,splitK,hix];simp only[eE,if_true];rw[←lO x r];simp
  ·have ih:=lO c r;have hp:([c]:List UInt8).isPrefixOf (x::r)=false:=by simp[List.isPrefixOf,Ne.symm h]
   have hix:index (x::r) [c]=if index r [c]==-1 then -1 else index r [c]+1:=by rw[index,hp];simp
   rw[count_cons_ne x c r h];simp only[eE,if_neg h,←ih];cases e:count r [c] with
   | zero=>simp[splitK]
   | succ k=>
    have hm:¬index r [c]=-1:=λe2=>by rw[count_miss e2] at e;cases e
    have hge:=index_ge r [c];obtain ⟨j,hj⟩:∃j:Nat,index r [c]=j:=⟨(index r [c]).toNat,by omega⟩;have hix':index (x::r) [c]=((j+1:Nat):Int):=by rw[hix,if_neg (λe=>hm (beq_iff_eq.1 e)),hj];omega
    simp only[splitK,hix',hj];have h1:((((j+1:Nat):Int))==-1)=false:=beq_eq_false_iff_ne.2 z7;have h2:(((j:Nat):Int)==-1)=false:=beq_eq_false_iff_ne.2 z7;simp only[h1,h2];simp
theorem yq (c:UInt8) (s:ByteArray):(splitB ⟨#[c]⟩ 0 (countB s ⟨#[c]⟩) s).map (·.data.toList)=eE c s.data.toList:=by
 rw[splitB_data,←lO]
theorem tC (c:UInt8):∀s:List UInt8,(eE c s).length≤s.length+1
 | []=>by simp[eE]
 | x::r=>by
  have:=tC c r;unfold eE;split
  ·simp;omega
  ·simp;omega
theorem ny (c:UInt8):∀(s p:List UInt8),p∈eE c s->p.length≤s.length
 | [],p,h=>by simp[eE] at h;subst h;simp
 | x::r,p,h=>by
  unfold eE at h;have ih:=ny c r;split at h
  ·rcases List.mem_cons.1 h with rfl | h
   ·simp
   ·have:=ih p h;simp;omega
  ·rcases List.mem_cons.1 h with rfl | h
   ·have:(eE c r).headD []∈eE c r:=by
     have:=Em c r;rw[←this];simp
    have:=ih _ this;simp only[List.length_cons];omega
   ·have:=ih p (List.mem_of_mem_tail h);simp;omega
end La
namespace La
open Go Go.Eng
def ag (s:List UInt8):List (List UInt8)×Int:=
 if 40<s.length then ([],4) else if s=[47] then ([],0) else if s.head?≠some 47 then ([],2) else
  if (eE 47 (s.drop 1)).all de then (eE 47 (s.drop 1),0) else ([],7)
def fh (p:List (List UInt8)×Int):AV:=.tup [.sl (p.1.map cQ),.int .i64 p.2]
end La
namespace Go.Eng
section
variable {P:Program} {T:Tab} {C:Ctx} {σ σ':St} {a:Act} {w:World} {Ret:St->Prop} {k:List It}
def vb (r:Nat) (o:Oper) (ops:Array Oper):Bool:=
 (o.after.all λe=>!Region.binds .any e)&&(List.range ops.size).all λj=>j==r||(match ops[j]? with | some oj=>(oj.after.any λe=>Region.binds .any e&&e.on==r)||o.apart ops oj | none=>true)
theorem jP (r:Nat) (p q:List Nat) {ops ops':Array Oper} {Q:Exit->Act->World->Prop} {o:Oper} {x:Operand} (ho:ops[r]? = some o) (hop:o.op=.move x) (hg:o.guard=none)
  (hQ:∀c a w,¬Q (.panic c) a w) (h1:zp r p q ops=true) (h2:vb r o ops=true) (he:(cv r p q ops.toList).toArray=ops') {y:AV} (hx:evS σ x=(True,y))
  (hk:aY P C ops' Q 0 (σ.put o.dst y)):aY P C ops Q 0 σ:=by
 subst he;have hF:=sX h1;have hrl:=hF.rl;have hpl:=hF.pl;intro a w ⟨μ,S,hi⟩;have hv:=hi.evS x u7;rw[hx] at hv;obtain ⟨u,hr,hu⟩:∃u,Rd μ S w u y/\u=a.eval x:=⟨_,hv,rfl⟩;have hrel:Rel C (σ.put o.dst y) (a.put o.dst u) w:=⟨μ,S,hi.put o.dst hr⟩;have hk':=hk _ _ hrel;have hs:(cv r p q ops.toList).toArray.size+1=ops.size:=by simp[cv,hpl]
 obtain ⟨n,hn⟩:∃n,ops.size=n+1:=⟨ops.size-1,by omega⟩;have hsz:(cv r p q ops.toList).toArray.size=n:=by omega
 unfold vb at h2;rw[Bool.and_eq_true] at h2;have hd0:∀(m i:Nat) (d:Bool),(aT m 0).getD i d=if i<m then false else d:=λm i d=>by rw[cN];simp
 rw[hn,Nat.sub_zero];refine wpAny_first (v:=u) ho hF.sel (λc a w hc=>absurd hc (hQ c _ _)) n _ a w (λk oj hoj hkr _ hw=>?_) (mem_ready.2 ⟨?_,o,ho,λe he hb=>by have:=Array.all_eq_true'.1 h2.1 e he;rw[hb] at this;cases this⟩) (.inl ⟨by rw[Region.wanted,hg],λw'=>?_⟩) ?_
 ·have:=List.all_eq_true.1 h2.2 k (WN.2 (WL.1 hoj).1);rw[hoj] at this;simp only[Bool.or_eq_true,beq_iff_eq,Array.any_eq_true',Bool.and_eq_true] at this
  rcases this with h | ⟨e,he,hb,hon⟩ | h
  ·exact absurd h hkr
  ·exact absurd hon (hw e he hb)
  ·exact h
 ·rw[←hn,hd0,if_pos hrl]
 ·subst hu;simp[execOp,hop]
 ·rw[hsz,Nat.sub_zero] at hk';refine zq hF n _ _ _ _ (by simp[aT,hn]) (by simp[aT,hn]) ?_ (λi hi=>?_) hk'
  ·rw[Zq,Wc,if_pos rfl,if_pos (by simp[aT];omega)];rfl
  ·have e2:((aT (n+1) 0).setIfInBounds r true).getD i false=(aT (n+1) 0).getD i false:=by
    rw[Zq,Wc,if_neg (λe=>hi e.symm),←Zq]
   rw[e2,hd0,hd0];split<;>split<;>rfl
end
end Go.Eng
namespace Go.Eng
variable {P:Program} {C:Ctx} {Ret:St->Prop} {k:List It}
theorem ml {ι:Type} (J:ι->Prop) (f:ι->List (Nat×AV)) (g:ι->List (Nat×Blk)) {x y:Code} {l:List AV} {H:List (Nat×Blk)}
  (h:Cw P C Ret (.code x::.back (λs=>∃j,J j/\Le C s ⟨kx l (f j),bA H (g j)⟩)::k) ⟨l,H⟩)
  (hk:∀j,J j->Cw P C Ret (.code y::k) ⟨kx l (f j),bA H (g j)⟩):Cw P C Ret (.code x::.code y::k) ⟨l,H⟩:=by
 intro a w hr;refine wp_mono (h a w hr) λe a w q=>?_
 cases e with
 | normal=>
  obtain ⟨s,⟨j,hj,hle⟩,hrs⟩:=q;exact hk j hj a w (hle a w hrs)
 | ret=>exact q
 | exit id=>exact q
 | _=>exact q
end Go.Eng
namespace Go.Eng
section
variable {P:Program} {C:Ctx} {σ:St}
theorem yx {o:Oper} {c:Operand} {args:Array Operand} {ats:Array TypeId} (ho:o.op=.call { callee:=.value c,args,argTypes:=ats }) {p:Prop} {f:FuncId} {xs:List AV}
  (h:ar σ c args.toList=some (p,f,xs)) (hp:p) (hc:ax P f) (ids cs:List Nat) {H K:List (Nat×Blk)} {r:AV} (hH:sub (ids++cs) σ.hp=H)
  (hck:((av xs).all (ids++cs).contains&&(refs r).all ids.contains&&ids.all (λi=>(aa K i).isSome)&&K.all (λq=>ids.contains q.1)&&(ids++cs).all (λi=>decide (i<5000))&&cs.all (λi=>!ids.contains i))=true) (hnd:(K.map (·.1)).Nodup)
  (hpin:(ids.all λi=>match aa H i with | some b=>dq b | none=>false)=true) (hc1:(H.all λq=>(au q.2).all (ids++cs).contains)=true) (hc2:(K.all λq=>(au q.2).all ids.contains)=true)
  (hc3:((del (ids++cs) σ.hp).all λq=>(au q.2).all λi=>!cs.contains i)=true)
  (hf:∀G Y N:Nat->Nat,ae P f xs (H++pins ids G Y N) λr' H'=>r'=r/\∀i b,aa (K++pins ids G Y N) i=some b->aa H' i=some b) {τ:St} (hτ:(⟨σ.tm.map (fN cs),bA (del cs σ.hp) K⟩:St).put o.dst r=τ):dx P C o σ τ:=by
 subst hH hτ;simp only[Bool.and_eq_true] at hck;obtain ⟨⟨⟨⟨⟨hx,hr⟩,hi1⟩,hK1⟩,h5⟩,hdj⟩:=hck;have hin:∀i,ids.contains i=true->(ids++cs).contains i=true:=λi h=>by simp only[WA,List.mem_append] at h ⊢;exact .inl h
 have hinc:∀i,cs.contains i=true->(ids++cs).contains i=true:=λi h=>by simp only[WA,List.mem_append] at h ⊢;exact .inr h
 have hal:∀i,(ids++cs).contains i=true->i<5000:=λi h=>by
  have:=List.all_eq_true.1 h5 i j5;simpa using this
 have hsep:∀i,cs.contains i=true->ids.contains i=false:=λi h=>by
  have:=List.all_eq_true.1 hdj i j5;simpa using this
 have hor:∀i,(ids++cs).contains i=true->cs.contains i=false->ids.contains i=true:=λi h hn=>by
  simp only[WA,List.mem_append] at h ⊢
  rcases h with h | h
  ·exact h
  ·have:cs.contains i=true:=by simpa using h
   rw[hn] at this;cases this
 have hxr:∀i,i∈av xs->(ids++cs).contains i=true:=λi h=>List.all_eq_true.1 hx i h
 have hrr:∀i,i∈refs r->ids.contains i=true:=λi h=>List.all_eq_true.1 hr i h
 have hid:∀i,ids.contains i=true->∃b,aa K i=some b:=λi h=>WM.1 (List.all_eq_true.1 hi1 i j5)
 have hKi:∀i b,aa K i=some b->ids.contains i=true:=λi b h=>List.all_eq_true.1 hK1 _ (aA h)
 intro a w Kp Q ⟨μ,S,hi⟩ hKp;obtain ⟨vs,h1,h2,h3⟩:=f_ hi ho h hp hc;unfold Oper.wp;rw[h3];have hpn:∀i,∃g t n,ids.contains i=true->μ i=some g/\af w g=nZ t n:=λi=>by
  by_cases e:ids.contains i=true
  ·have:=List.all_eq_true.1 hpin i Zn;cases e2:aa (sub (ids++cs) σ.hp) i with
   | none=>rw[e2] at this;cases this
   | some b=>
    rw[e2] at this;have e3:aa σ.hp i=some b:=by
     rw[bD,if_pos (hin i e)] at e2;exact e2
    obtain ⟨g,t,n,k1,k2⟩:=xZ (hi.hp i b e3) this;exact ⟨g,t,n,λ_=>⟨k1,k2⟩⟩
  ·exact ⟨0,0,0,λh=>absurd h e⟩
 let G:Nat->Nat:=λi=>Classical.choose (hpn i)
 let Y:Nat->Nat:=λi=>Classical.choose (WB (hpn i))
 let N:Nat->Nat:=λi=>Classical.choose (WB (WB (hpn i)))
 have hg:∀i,ids.contains i=true->μ i=some (G i)/\af w (G i)=nZ (Y i) (N i):=λi=>WB (WB (WB (hpn i)))
 let μc:Nat->Option Nat:=λi=>if (ids++cs).contains i then μ i else none
 have mc:∀{i g},μc i=some g->(ids++cs).contains i=true/\μ i=some g:=fun {i g} h=>by
  simp only[μc] at h;split at h
  ·exact ⟨by assumption,h⟩
  ·cases h
 have mc':∀{i},(ids++cs).contains i=true->μc i=μ i:=fun {i} h=>by simp only[μc,h,if_true]
 have mcn:∀{i},(ids++cs).contains i=false->μc i=none:=fun {i} h=>by simp only[μc,h,Bool.false_eq_true,if_false]
 have hsubk:∀i b,aa (sub (ids++cs) σ.hp) i=some b->(ids++cs).contains i=true/\aa σ.hp i=some b:=λi b h=>by
  rw[bD] at h;split at h
  ·exact ⟨by assumption,h⟩
  ·cases h
 refine (hf G Y N S μc w vs h1 (λj x hj=>(h2 j x hj).less λid hid g hg=>by rw[mc' (hxr id (aL hj hid))];exact hg) ⟨λid b hb=>?_,λid g hg'=>?_,λid id' g hg hg'=>hi.inj id id' g (mc hg).2 (mc hg').2,hi.gok.sub λi g h=>⟨i,(mc h).2⟩⟩ (λb hb=>(hi.sb b hb).1)).mono ?_
 ·rw[an] at hb;split at hb
  ·obtain ⟨q1,q2⟩:=hsubk id b hb;have hall:=List.all_eq_true.1 hc1 _ (aA hb);exact (hi.hp id b q2).less (mc' q1) (λi hi' g hg=>by rw[mc' (List.all_eq_true.1 hall i hi')];exact hg)
  ·rw[eY] at hb;split at hb
   ·rename_i hc5;injection hb with hb
    subst hb;have hno:(ids++cs).contains id=false:=by
     cases e:(ids++cs).contains id with
     | false=>rfl
     | true=>have:=hal id e;omega
    exact ⟨mcn hno,by rw[mc' (hin _ hc5.2)];exact (hg _ hc5.2).1,(hg _ hc5.2).2⟩
   ·cases hb
 ·obtain ⟨k1,k2⟩:=mc hg';obtain ⟨⟨b,j1⟩,_,j3⟩:=hi.dom id g k2;refine ⟨⟨b,?_⟩,j3⟩;rw[an,if_pos ⟨(id,b),aA Zb,rfl⟩,bD,if_pos k1];exact j1
 rintro e w' ⟨v,r',H',μ',S',rfl,⟨rfl,hKH⟩,k1,k2,k3,k4,k5⟩;have hKget:∀i b,aa K i=some b->aa H' i=some b:=λi b hb=>hKH i b (by
  rw[an,if_pos ⟨(i,b),aA hb,rfl⟩];exact hb)
 have hPget:∀i,ids.contains i=true->aa H' (5000+i)=some (.pin i (G i) (Y i) (N i)):=λi hi'=>hKH _ _ (by
  rw[an,if_neg (by
   rintro ⟨b,hb,hb2⟩;have:ids.contains b.1=true:=List.all_eq_true.1 hK1 b hb;have:=hal _ (hin _ this);omega),eY,if_pos ⟨by omega,by rw[Wb];exact hi'⟩,Wb])
 have hpin':∀i,ids.contains i=true->μ' i=some (G i)/\af w' (G i)=nZ (Y i) (N i):=λi hi'=>(k2.blk _ _ (hPget i hi')).2
 have hfr:Frm (λg=>∃id,μc id=some g) w w':=k3;have hS:aE S w w':=λb hb=>hfr.block b (hi.sb b hb).1 s8
 have hO:∀i g,μ i=some g->(ids++cs).contains i=false->w'.heap[g]? = w.heap[g]?:=λi g hg hn=>hfr.block g (hi.dom i g hg).2.2.2 (by
  rintro ⟨id,h⟩;obtain ⟨q1,q2⟩:=mc h;have:=hi.inj _ _ _ hg q2;subst this;rw[q1] at hn;cases hn)
 let μ2:Nat->Option Nat:=λi=>if cs.contains i then none else μ i
 have m2:∀{i g},μ2 i=some g->cs.contains i=false/\μ i=some g:=fun {i g} h=>by
  simp only[μ2] at h;split at h
  ·cases h
  ·exact ⟨by simpa using (by assumption:¬cs.contains i=true),h⟩
 have m2':∀{i},cs.contains i=false->μ2 i=μ i:=fun {i} h=>by simp only[μ2,h,Bool.false_eq_true,if_false]
 have hz:∀i g,μ2 i=some g->af w' g=af w g:=λi g hg'=>by
  obtain ⟨hn,hg'⟩:=m2 hg';cases e:ids.contains i with
  | false=>
   refine aG (hO i g hg' ?_);cases e2:(ids++cs).contains i with
   | false=>rfl
   | true=>rw[hor i e2 hn] at e;cases e
  | true=>
   obtain ⟨q1,q2⟩:=hg i e;rw[hg'] at q1;injection q1 with q1
   rw[q1,(hpin' i e).2,q2]
 let S2:Nat->Prop:=λb=>S b\/S' b
 have hrd:∀{v x},Rd μ S w v x->(∀i,i∈refs x->cs.contains i=false)->Rd μ2 S2 w' v x:=fun {v x} hv hn=>
  (show Rd μ2 S w v x from hv.less (λi hi g hg=>by rw[m2' (hn i hi)];exact hg)).mono hS (λ_ h=>.inl h) (λ_ _ h=>h) hz
 have inv:Inv C μ2 S2 ⟨σ.tm.map (fN cs),bA (del cs σ.hp) K⟩ a w':=by
  refine ⟨by simp[hi.size],hi.defers,λt x hx=>?_,λi b hb=>?_,λi g hg'=>?_,λi j g hg hg'=>hi.inj i j g (m2 hg).2 (m2 hg').2,hi.frm.step _ hfr (λg ⟨id,h⟩=>(hi.dom id g (mc h).2).2.1),λb hb=>?_⟩
  ·simp only[Zr] at hx;cases e:σ.tm[t]? with
   | none=>rw[e] at hx;cases hx
   | some y=>
    rw[e] at hx;simp only[Option.map_some,Option.some.injEq] at hx;subst hx;unfold fN;split
    ·exact .any _
    ·rename_i q;refine hrd (hi.tm t y e) (λi hi'=>?_);simp only[List.any_eq_true,not_exists,not_and] at q;simpa using q i hi'
  ·rw[bQ i K (del cs σ.hp) hnd] at hb;split at hb
   ·have hib:=hKi i b hb;have hcn:cs.contains i=false:=by
     cases e:cs.contains i with
     | false=>rfl
     | true=>rw[hsep i e] at hib;cases hib
    have hB:=k2.blk i b (hKget i b hb);have hall:=List.all_eq_true.1 hc2 _ (aA hb);have h1:bN μ2 S' w' i b:=hB.less (by rw[m2' hcn,(hg i hib).1,(hpin' i hib).1]) (λj hj q hq=>by
     have hjb:=List.all_eq_true.1 hall j hj;have hjn:cs.contains j=false:=by
      cases e:cs.contains j with
      | false=>rfl
      | true=>rw[hsep j e] at hjb;cases hjb
     rw[(hpin' j hjb).1] at hq;rw[m2' hjn,(hg j hjb).1];exact hq)
    exact h1.mono (aE.refl _ _) (λ_ h=>.inr h) (λ_ _ h=>h) (λ_ _ _=>rfl) (λh=>h) (λ_ _=>rfl)
   ·rename_i hno;have hib:ids.contains i=false:=by
     cases e:ids.contains i with
     | false=>rfl
     | true=>
      obtain ⟨c,hc'⟩:=hid i e;rw[hc'] at hno;exact absurd rfl hno
    rw[cJ] at hb;split at hb
    ·cases hb
    rename_i hcn;have hcn:cs.contains i=false:=by simpa using hcn
    have hai:(ids++cs).contains i=false:=by
     cases e2:(ids++cs).contains i with
     | false=>rfl
     | true=>rw[hor i e2 hcn] at hib;cases hib
    have hfree:=List.all_eq_true.1 hc3 (i,b) (aA QY);have h1:bN μ2 S w i b:=(hi.hp i b hb).less (m2' hcn) (λj hj q hq=>by
     have:=List.all_eq_true.1 hfree j hj;rw[m2' (by simpa using this)];exact hq)
    exact h1.mono hS (λ_ h=>.inl h) (λ_ _ h=>h) hz (λh=>h) (λg hg'=>hO i g (m2 hg').2 hai)
  ·obtain ⟨hcn,hg'⟩:=m2 hg';obtain ⟨⟨b,j1⟩,j2,j3,j4⟩:=hi.dom i g hg';refine ⟨?_,j2,?_,WO j4 hfr.size⟩
   ·rw[bQ i K (del cs σ.hp) hnd];split
    ·rename_i hs;exact WM.1 hs
    ·exact ⟨b,by rw[cJ,if_neg (by rw[hcn];exact Bool.false_ne_true)];exact j1⟩
   ·rintro (h | h)
    ·exact j3 h
    ·cases e:ids.contains i with
     | true=>
      have:=(hg i e).1;rw[hg'] at this;injection this with this
      subst this;exact (k2.dom i _ (hpin' i e).1).2.1 h
     | false=>
      rcases (k5 g h).2 with q | ⟨id,q⟩ | q
      ·exact j3 q
      ·obtain ⟨q1,q2⟩:=mc q;have:=hi.inj _ _ _ hg' q2;subst this;rw[hor i q1 hcn] at e;cases e
      ·omega
  ·rcases hb with h | h
   ·exact ⟨WO (hi.sb b h).1 hfr.size,(hi.sb b h).2⟩
   ·refine ⟨(k5 b h).1,?_⟩
    rcases (k5 b h).2 with q | ⟨id,q⟩ | q
    ·exact (hi.sb b q).2
    ·rcases (hi.dom id b (mc q).2).2.1 with z | z
     ·exact .inr (.inl z)
     ·exact .inr (.inr z)
    ·have:=hi.frm.size;exact .inr (.inr z7)
 refine hKp _ _ ⟨μ2,S2,inv.put o.dst ?_⟩;have h1:Rd μ2 S' w' v r':=k1.less λi hi' g hg'=>by
  have hib:=hrr i hi';have hin:cs.contains i=false:=by
   cases e:cs.contains i with
   | false=>rfl
   | true=>rw[hsep i e] at hib;cases hib
  rw[(hpin' i hib).1] at hg';rw[m2' hin,(hg i hib).1];exact hg'
 exact h1.mono (aE.refl _ _) (λ_ h=>.inr h) (λ_ _ h=>h) (λ_ _ _=>rfl)
attribute [go_sem] fN del sub
end
end Go.Eng
namespace Go.Eng
section
variable {P:Program} {T:Tab} {C:Ctx} {μ:Nat->Option Nat} {S:Nat->Prop} {σ:St} {a:Act} {w:World}
structure SrcS (μ:Nat->Option Nat) (S:Nat->Prop) (w:World) (size:Nat) (b:ByteArray) (rows:List (List AV)) (vs:List Value):Prop where
 one:size=1
 num:rows.length=b.size
 bytes:(b.data.map λc=>Value.int .u8 (c.toNat:Int))=vs.toArray
 len:vs.length=rows.length*size
 rd:∀(i:Nat) row,rows[i]? = some row->∀(j:Nat) x,row[j]? = some x->Rd μ S w (vs.getD (i*size+j) undef) x
 leaf:∀u,u∈vs->u.oneCell'=true
theorem Fq {b:ByteArray} {l:List UInt8} (hb:b.data.toList=l) (size:Nat) (h1:size=1):∃vs,SrcS μ S w size b (l.map λb=>[AV.int .u8 (b.toNat:Int)]) vs:=by
 subst h1 hb;refine ⟨b.data.toList.map λc=>Value.int .u8 (c.toNat:Int),rfl,by rw[List.length_map];rfl,by rw[←List.map_toArray,Array.toArray_toList],by simp,λi row hi j x hx=>?_,λu hu=>?_⟩
 ·rw[Zr] at hi;cases e3:b.data.toList[i]? with
  | none=>rw[e3] at hi;cases hi
  | some c=>
   rw[e3] at hi;simp only[Option.map_some,Option.some.injEq] at hi;subst hi;cases j with
   | zero=>
    simp only[List.getElem?_cons_zero,Option.some.injEq] at hx;subst hx;rw[Zo,show i*1+0=i by omega,Zr,e3];exact .pure (.int _ _)
   | succ j=>simp at hx
 ·obtain ⟨c,_,rfl⟩:=Zv.1 hu;rfl
theorem qX {size:Nat} {b:ByteArray} {rows:List (List AV)} {vs:List Value} (h:SrcS μ S w size b rows vs) (w':World):(Builtin.firstCells size rows.length (.string b)).run P w'=.ok vs.toArray w':=by
 rw[h.num,←h.bytes];simp[Builtin.firstCells]
theorem iP {u:TypeId} (hu:P.underlying u=some .string) (hT:TabOK P T) {t e ty:TypeId} (ht:P.underlying t=some (.slice e)) (hs:T.siz e≠0) (hb:T.byt e≠0) {A:Option Addr} {len cap:Nat} {v:ByteArray} {R rows:List (List AV)} {olds vs:List Value}
  (ho:Src μ S w (T.siz e) (.slice A len cap) R olds) (hx:SrcS μ S w (T.siz e) v rows vs) (hlen:R.length=len) (hg:¬len+rows.length≤cap) (hsz:(2*(len+rows.length)+768)*T.byt e≤281474976710656) :
  ∃(nc:Nat) (z:Array Value),len+rows.length≤nc/\z.size=(nc-(len+rows.length))*T.siz e/\(Builtin.append_ #[t,u] ty #[.slice A len cap,.string v]).run P w =
   .ok (.slice (some ⟨w.heap.size,0,none⟩) (len+rows.length) nc) (w.drew.alloc (.cells (olds.toArray++vs.toArray++z) e)):=by
 obtain ⟨i,hi,hi1,hi2,z,hz,_,hzs,_⟩:=hT.siz e hs;have hn:=lH (len+rows.length) cap z7;have hfit:Builtin.nextslicecap (len+rows.length) cap*i.bytes≤281474976710656:=by
  rw[hi2];exact We (Z2 _ hn) hsz
 have hw1:Src μ S w.drew (T.siz e) (.slice A len cap) R olds:=⟨ho.form,ho.len,ho.rlen,λi row hi j x hx=>(ho.rd i row hi j x hx).mono (λ_ _=>rfl) (λ_ h=>h) (λ_ _ h=>h) (λ_ _ _=>rfl)⟩;have g1:=gh (P:=P) hw1;have g2:=qX (P:=P) hx;have hnm:=hx.num;rw[hlen] at g1;refine ⟨grownCap w (len+rows.length) cap e,Builtin.zeroCells z.cells (grownCap w (len+rows.length) cap e-(len+rows.length)),grownCap_ge w _ _ _,by simp[Builtin.zeroCells,hzs],?_⟩;have hb':i.bytes≠0:=by rw[hi2];exact hb
 rw[hnm] at hg g2 hfit ⊢;simp[Builtin.append_,run_underlying ht,run_underlying hu,sizeOf,typeInfo,hi,hi1,Builtin.lenOf,hg,hb',show ¬281474976710656<Builtin.nextslicecap (len+v.size) cap*i.bytes by omega,g1,g2,Question.forced,zeroValue,hz,jx,grownCap];rw[←Array.append_assoc];simp
theorem kq {u:TypeId} (hu:P.underlying u=some .string) (hT:TabOK P T) {t e ty:TypeId} (ht:P.underlying t=some (.slice e)) (hs:T.siz e≠0) {A:Option Addr} {len cap:Nat} {v:ByteArray} {rows:List (List AV)} {vs:List Value}
  (hx:SrcS μ S w (T.siz e) v rows vs) (hg:len+rows.length≤cap) :
  (Builtin.append_ #[t,u] ty #[.slice A len cap,.string v]).run P w =
   (((match A with | some a=>storeCells (a.add (len*T.siz e)) vs | none=>pure ()):Sem Unit).run P w).andThen (λ_ w'=>.ok (.slice A (len+rows.length) cap) w'):=by
 obtain ⟨i,hi,hi1,hi2,z,hz,_,hzs,_⟩:=hT.siz e hs;have g2:=qX (P:=P) hx w;have hnm:=hx.num;rw[hnm] at hg g2 ⊢;cases A<;>simp[Builtin.append_,run_underlying ht,run_underlying hu,sizeOf,typeInfo,hi,hi1,Builtin.lenOf,hg,g2]
theorem rQ (hT:TabOK P T) (hi:Inv C μ S σ a w) {d:Nat} {t ty:TypeId} {x r:AV} {vx:Value} {u:TypeId} (hu:P.underlying u=some .string) (h1s:T.siz (match T.und t with | .sl e=>e | _=>0)=1) {sb:ByteArray} {l:List UInt8} (hsb:sb.data.toList=l) {p:Prop} {σ':St} (h:dQ T σ d t x (.sl (l.map λb=>[AV.int .u8 (b.toNat:Int)]))=some (p,σ',r)) (hp:p)
  (hvx:Rd μ S w vx x) :
  ∃v1 w' μ',(Builtin.append_ #[t,u] ty #[vx,.string sb]).run P w=.ok v1 w'/\Inv C μ' S σ' a w'/\Rd μ' S w' v1 r:=by
 unfold dQ at h;split at h
 ·rename_i e rows hut hsrc;have ht:=hT.und t;rw[hut] at ht h1s;simp only at h1s;have hR0:(l.map λb=>[AV.int .u8 (b.toNat:Int)])=rows:=by simpa[cC] using hsrc
  obtain ⟨vs,hvs⟩:∃vs,SrcS μ S w (T.siz e) sb rows vs:=by rw[←hR0];exact Fq hsb (T.siz e) h1s
  clear hR0 hsrc;simp only[h_] at ht;split at h
  ·-- onto nil
   simp only[Option.some.injEq,Prod.mk.injEq] at h;obtain ⟨rfl,rfl,rfl⟩:=h;obtain ⟨hs,hb,hrl,hlen,hleaf,hsz,hfree⟩:=hp;obtain rfl:=hvx.eJ
   by_cases h0:rows.length=0
   ·have hr:=kq (ty:=ty) hu (A:=none) (len:=0) (cap:=0) hT ht hs hvs z7;simp only[Sem.run_pure,Result.andThen_ok] at hr;have hrows:rows=[]:=List.eq_nil_of_length_eq_zero h0;subst hrows;have hn:=hi.fresh hfree;refine ⟨_,w,μ,hr,⟨hi.size,hi.defers,hi.tm,λi b hb=>?_,λi g hg=>?_,hi.inj,hi.frm,hi.sb⟩,.osl d _ 0 _ 0 none w7 (.inl ⟨by simp,rfl⟩)⟩
    ·simp only[aa] at hb;split at hb
     ·rename_i e';injection hb with hb;subst hb e';exact .inl ⟨rfl,hn⟩
     ·exact hi.hp i b hb
    ·obtain ⟨⟨c,h1⟩,h2⟩:=hi.dom i g hg;refine ⟨⟨c,?_⟩,h2⟩;simp only[aa];rw[if_neg Qp];exact h1
   ·have ho:Src μ S w (T.siz e) (.slice none 0 0) [] []:=⟨⟨none,0,rfl,λh=>by simp at h⟩,by simp,by simp,λi row h=>by simp at h⟩;obtain ⟨nc,z,h1,h2,h3⟩:=iP (ty:=ty) hu hT ht hs hb ho hvs rfl z7 hsz;have hi1:=hi.drew;have hm:∀{v x},Rd μ S w v x->Rd μ S w.drew v x:=λh=>h.mono (λ_ _=>rfl) (λ_ h=>h) (λ_ _ h=>h) (λ_ _ _=>rfl)
    have hcs:(#[]++vs.toArray++z).size=rows.length*T.siz e+z.size:=by simp[hvs.len]
    refine ⟨_,_,_,h3,hi1.new d hfree _ (.cells e (T.siz e) rows) (.inr ⟨w.heap.size,_,by simp[upd],bh w _,by simp[hvs.len],hrl,λi row hi' j x hx=>?_⟩),?_⟩
    ·have hlt:=fL (size:=T.siz e) hi';have hj:j<T.siz e:=by
      by_cases h:j<T.siz e
      ·exact h
      ·rw[List.getElem?_eq_none Q3] at hx;cases hx
     have:=hvs.rd i row hi' j x hx;have e2:(#[]++vs.toArray++z).getD (i*T.siz e+j) undef=vs.getD (i*T.siz e+j) undef:=by
      rw[Zq,Zo];simp only[Array.empty_append];rw[WZ (by simp[hvs.len];omega)];simp
     rw[show (List.toArray []++vs.toArray++z)=(#[]++vs.toArray++z) from rfl,e2];exact (hm this).mono (λb hb=>bt _ _ b (hi1.sb b hb).1) (λ_ h=>h) (λi' g hg=>by
      unfold upd;rw[if_neg Q4];exact hg) (λi' g hg=>aG (bt _ _ g (hi1.dom i' g hg).2.2.2))
    ·refine .osl d _ 0 _ nc _ h1 (.inr ⟨w.heap.size,e,_,by simp[upd],by simp,?_,rfl⟩);unfold af;rw[bh];simp only[Option.some.injEq,Prod.mk.injEq,true_and];simp only[Array.size_append,List.size_toArray,List.length_nil,hvs.len,h2,WK,←WW]
     congr 1
     omega
  ·-- onto what is held
   rename_i id s len;split at h
   ·rename_i e' s' R hb0;split at h
    ·rename_i hcond;obtain ⟨rfl,rfl,rfl⟩:=hcond;simp only[Option.some.injEq,Prod.mk.injEq] at h;obtain ⟨rfl,rfl,rfl⟩:=h;obtain ⟨hs,hb,hrl,hlen,hleaf,hsz,hd,hid,hR,hfree,hbf⟩:=hp;have hRl:rowsOf (T.siz e') (R.take len):=by
      rcases hi.hp id _ hb0 with ⟨rfl,_⟩ | ⟨g,c,_,_,_,k4,_⟩
      ·intro row hrow;simp at hrow
      ·exact λrow hrow=>k4 row (Z3 hrow)
     have hRt:(R.take len).length=len:=by simp;omega
     obtain ⟨olds,ho⟩:=lP hi (x:=.osl id (T.siz e') 0 len) (rows:=R.take len) (size:=T.siz e') (by simp[cC,hb0]) hvx hRl (λ_ _ _ _ h=>by injection h with _ _ _ h;rw[hRt,h]);have hdd:d=id\/μ d=none:=hd.imp (λh=>h) (λh=>hi.fresh h);obtain ⟨A,cap,rfl,hc,hor⟩:=hvx.bG
     by_cases hroom:len+rows.length≤cap
     ·have hr:=kq (ty:=ty) hu (A:=A) (len:=len) (cap:=cap) hT ht hs hvs hroom
      rcases hor with ⟨h1,h2⟩ | ⟨g,e2,n,h1,rfl,h3,h4⟩
      ·-- nothing comes onto nothing
       have h0:rows=[]:=List.eq_nil_of_length_eq_zero z7;subst h0 h1 h2;have hv0:vs=[]:=List.eq_nil_of_length_eq_zero (by rw[hvs.len];simp);subst hv0;have hr':(Builtin.append_ #[t,u] ty #[.slice A 0 0,.string sb]).run P w=.ok (.slice A 0 0) w:=by
        rw[hr];cases A<;>simp[storeCells]
       have hi0:Inv C μ S ⟨σ.tm,aB σ.hp id (.cells e' (T.siz e') (R.take 0++[]))⟩ a w:=by
        refine ⟨hi.size,hi.defers,hi.tm,λi b hb=>?_,λi q hq=>?_,hi.inj,hi.frm,hi.sb⟩
        ·rw[ai] at hb;split at hb
         ·rename_i e3;injection hb with hb;subst hb e3
          rcases hi.hp id _ hb0 with ⟨_,k⟩ | ⟨g,c,k1,k2,_⟩
          ·exact .inl ⟨by simp,k⟩
          ·exact .inr ⟨g,c,k1,k2,by simp,by simp,λi row h=>by simp at h⟩
         ·exact hi.hp i b hb
        ·obtain ⟨⟨c,k1⟩,k2⟩:=hi.dom i q hq;refine ⟨?_,k2⟩;rw[ai];split
         ·exact ⟨_,rfl⟩
         ·exact ⟨c,k1⟩
       have hfree':dh id (aB σ.hp id (.cells e' (T.siz e') (R.take 0++[]))):=fx hfree;have:=hi0.move (id:=id) (d:=d) (b:=.cells e' (T.siz e') (R.take 0++[])) (by rw[ai];simp) (hd.imp (λh=>h) (λh=>by
        rw[ai];split
        ·rename_i e4;subst e4;rw[hb0] at h;cases h
        ·exact h)) hfree' hbf
       refine ⟨_,w,mv μ id d,hr',?_,.osl d _ 0 _ 0 A w7 (.inl ⟨by simp,rfl⟩)⟩;simp only[iB] at this;exact this
      ·-- in place
       rcases hi.hp id _ hb0 with ⟨_,k⟩ | ⟨g',c,k1,k2,k3,k4,k5⟩
       ·rw[k] at h1;cases h1
       ·rw[k1] at h1;injection h1 with h1;subst h1
        rw[af,k2] at h3;simp only[Option.some.injEq,Prod.mk.injEq] at h3;obtain ⟨rfl,rfl⟩:=h3;have hcs:(len+rows.length)*T.siz e'≤c.size:=We (Z2 _ z7) (Nat.le_of_eq h4);rw[WW] at hcs;obtain ⟨w',r1,r2,r3,r4,r5,r6,c',r7,r8,r9⟩:=dt (P:=P) g' (len*T.siz e') e' vs 0 w c k2 (hvs.leaf) (by rw[hvs.len];omega);have hr':(Builtin.append_ #[t,u] ty #[.slice (some ⟨g',0*T.siz e',none⟩) len cap,.string sb]).run P w=.ok (.slice (some ⟨g',0*T.siz e',none⟩) (len+rows.length) cap) w':=by
         rw[hr];simp only[Nat.zero_mul,add_plain,WK,r1,Result.andThen_ok]
        have hrs:af w' g'=af w g':=by simp[af,r7,k2,r8]
        have hS:¬S g':=(hi.dom id g' k1).2.2.1;have hw:aE S w w':=λb hb=>r6 b QL
        have hz':∀i q,μ i=some q->af w' q=af w q:=λi q _=>by
         by_cases e:q=g'
         ·subst e;exact hrs
         ·exact aG (r6 q e)
        have hmono:∀{v x},Rd μ S w v x->Rd μ S w' v x:=λh=>h.mono hw (λ_ h=>h) (λ_ _ h=>h) hz'
        have hRlen:len*T.siz e'≤R.length*T.siz e':=Z2 _ hR;have hi0:Inv C μ S ⟨σ.tm,aB σ.hp id (.cells e' (T.siz e') (R.take len++rows))⟩ a w':=
         hi.write id g' k1 r2 r3 r4 r5 r6 hrs _ (.inr ⟨g',c',k1,r7,by rw[List.length_append,hRt,WW,r8];omega,λrow hrow=>by
           rcases List.mem_append.1 hrow with h | h
           ·exact hRl row h
           ·exact hrl row h,
          iE (olds:=(List.range (len*T.siz e')).map λk=>c.getD k undef) (vs:=vs) (by simp[hRt]) hRl hrl (λi row hi' j x hx=>by
            have hlt:=fL (size:=T.siz e') hi';rw[hRt] at hlt;have hj:j<T.siz e':=by
             by_cases h:j<T.siz e'
             ·exact h
             ·rw[List.getElem?_eq_none Q5] at hx;cases hx
            rw[Zo,Zr,Wf z7];rw[WE] at hi';split at hi'
            ·exact hmono (k5 i row hi' j x hx)
            ·cases hi') (λi row hi' j x hx=>hmono (hvs.rd i row hi' j x hx)) hvs.len (λk hk=>by
           simp only[List.length_map,List.length_range] at hk;rw[r9]
           by_cases hkl:k<len*T.siz e'
           ·rw[if_neg z7,Zo,WC Zi,Zr,Wf hkl];rfl
           ·rw[if_pos z7,Zo,Zo,Z8 Zi];simp)⟩)
        have hfree':dh id (aB σ.hp id (.cells e' (T.siz e') (R.take len++rows))):=fx hfree;have:=hi0.move (id:=id) (d:=d) (b:=.cells e' (T.siz e') (R.take len++rows)) (by rw[ai];simp) (hd.imp (λh=>h) (λh=>by
         rw[ai];split
         ·rename_i e4;subst e4;rw[hb0] at h;cases h
         ·exact h)) hfree' hbf
        rw[iB] at this;refine ⟨_,w',_,hr',this,.osl d _ 0 _ cap _ hroom (.inr ⟨g',e',c.size,?_,rfl,by simp[af,r7,r8],h4⟩)⟩;simp[mv,k1]
     ·-- a new block
      obtain ⟨nc,z,h1,h2,h3⟩:=iP (ty:=ty) hu hT ht hs hb ho hvs hRt hroom hsz;have hi1:=(hi.drop id hfree).drew;have hfr:aa (σ.drop id).hp d=none:=by
       simp only[St.drop,bg];split
       ·rfl
       ·rename_i e4
        rcases hd with rfl | hd
        ·exact absurd rfl e4
        ·exact hd
      have hnod:upd μ id none d=none:=hi1.fresh hfr;have hm:∀{v x},Rd μ S w v x->id∉refs x->Rd (upd μ id none) S w.drew v x:=λh hn=>
       (h.other hn none).mono (λ_ _=>rfl) (λ_ h=>h) (λ_ _ h=>h) (λ_ _ _=>rfl)
      have hno:=mY hbf;refine ⟨_,_,_,h3,hi1.new d hfr _ (.cells e' (T.siz e') (R.take len++rows)) (.inr ⟨w.heap.size,_,by simp[upd],bh w _,by simp[ho.len,hvs.len,hRt,WW],λrow hrow=>by
           rcases List.mem_append.1 hrow with h | h
           ·exact hRl row h
           ·exact hrl row h,?_⟩),?_⟩
      ·have hup:∀{v x},Rd (upd μ id none) S w.drew v x ->
         Rd (upd (upd μ id none) d (some w.heap.size)) S (World.alloc w.drew (.cells (olds.toArray++vs.toArray++z) e')) v x:=λh=>
        h.mono (λb hb=>bt _ _ b (hi1.sb b hb).1) (λ_ h=>h) (λi' g hg=>by
         show (if i'=d then some w.heap.size else upd μ id none i')=some g
         rw[if_neg Qh];exact hg) (λi' g hg=>aG (bt _ _ g (hi1.dom i' g hg).2.2.2))
       have key:=iE (μ:=upd μ id none) (S:=S) (w:=w.drew) (R:=R.take len) (rows:=rows) (cs:=olds.toArray++vs.toArray++z) (s:=T.siz e') ho.len hRl hrl
        (λi row hi' j x hx=>hm (ho.rd i row hi' j x hx) (hno row (WH _ (Zs hi')) x (Zs hx)))
        (λi row hi' j x hx=>hm (hvs.rd i row hi' j x hx) (hno row (Zz _ (Zs hi')) x (Zs hx))) hvs.len (λk hk=>by
         rw[Zq,Zo,WZ Zl];simp[List.append_toArray])
       exact λi row hi' j x hx=>hup (key i row hi' j x hx)
      ·refine .osl d _ 0 _ nc _ h1 (.inr ⟨w.heap.size,e',_,by simp[upd],by simp,?_,rfl⟩);unfold af;rw[bh];simp only[Option.some.injEq,Prod.mk.injEq,true_and];simp only[Array.size_append,List.size_toArray,ho.len,hvs.len,hRt,h2,WK,←WW]
       congr 1
       omega
    ·cases h
   ·cases h
  ·cases h
 ·cases h
theorem uv (hT:TabOK P T) {o:Oper} {d:Nat} (hd:o.dst=some d) {x y:Operand} {t u:TypeId} (ho:o.op=.call { callee:=.builtin .append,args:=#[x,y],argTypes:=#[t,u] }) (hu:T.und u=.str) (h1s:T.siz (match T.und t with | .sl e=>e | _=>0)=1)
  {xv:AV} (hx:evS σ x=(True,xv)) {l:List UInt8} (hy:evS σ y=(True,.str l)) {p:Prop} {σ1 σ':St} {r:AV} (h:dQ T σ d t xv (.sl (l.map λb=>[AV.int .u8 (b.toNat:Int)]))=some (p,σ1,r)) (hp:p) (hσ:σ1.put (some d) r=σ'):dx P C o σ σ':=by
 subst hσ;refine dw hd λμ S a w hi=>?_
 have hvx:=hi.evS x u7;have hvy:=hi.evS y QW;rw[hx] at hvx;rw[hy] at hvy;obtain ⟨b,e1,hb⟩:=hvy.dY;have hus:P.underlying u=some .string:=by have:=hT.und u;rw[hu] at this;exact this
 obtain ⟨v1,w',μ',h1,h2,h3⟩:=rQ (ty:=o.type) hT hi hus h1s hb h hp hvx;exact ⟨v1,w',μ',S,by simp[execOp,ho,resolve,invoke,builtin,e1,h1],h2,h3⟩
end
end Go.Eng
namespace Go.Eng
section
variable {P:Program} {T:Tab} {C:Ctx} {μ:Nat->Option Nat} {S:Nat->Prop} {σ σ':St} {a:Act} {w:World} {Ret:St->Prop} {k:List It}
theorem ru (hT:TabOK P T) {o:Oper} {t e:TypeId} {d n:Nat} {x:Operand} (ho:o.op=.makeSlice t x x) (hd:o.dst=some d) (ht:T.und t=.sl e) (hs:T.siz e≠0)
  (hx:evS σ x=(True,.int .i64 n)) (hn:T.byt e*n≤281474976710656) (hm:n≤4611686018427387904) (h3:aa σ.hp d=none) :
  dx P C o σ ((⟨σ.tm,(d,.cells e (T.siz e) (List.replicate n (T.zer e)))::σ.hp⟩:St).put (some d) (.osl d (T.siz e) 0 n)):=by
 refine dw hd λμ S a w hi=>?_
 have hv:=hi.evS x u7;rw[hx] at hv;have e1:a.eval x=.int .i64 n:=by
  generalize a.eval x=v at hv;cases hv with
  | pure h=>cases h with
   | int k n=>rfl
 obtain ⟨i,j1,j2,j3,z,j4,_⟩:=hT.siz e hs;have hty:P.underlying t=some (.slice e):=by have:=hT.und t;rw[ht] at this;exact this
 have hrun:=run_make (P:=P) w t e i z hty j1 j4 .i64 .i64 n n z7 z7 (by rw[j3,←Int.natCast_mul];omega) z7;obtain ⟨z',z1,z2,z3⟩:=kV hT n hs;have hzz:z'=z:=by
  have:=z1 w;simp[zeroValue,typeInfo,j1,j4] at this;exact this.symm
 subst hzz;have f2:=z3 μ S w;have e2:madeCells z'.cells ((n:Int).toNat*i.size)=(Array.range (n*T.siz e)).map (z'.cells[· % z'.cells.size]!):=by
  rw[j2,Int.toNat_natCast];rfl
 rw[e2] at hrun;generalize (Array.range (n*T.siz e)).map (z'.cells[· % z'.cells.size]!)=cs at *;refine ⟨_,_,_,S,by simp only[execOp,ho,e1,Sem.run_bind,hrun];rfl,hi.new d h3 _ _ (tt μ S w d e (T.siz e) _ cs f2.size f2.len f2.rd (hi.fresh h3) (λb hb=>(hi.sb b hb).1) (λi g hg=>(hi.dom i g hg).2.2.2)),?_⟩;refine .osl d (T.siz e) 0 n n _ (Zw _) (.inr ⟨w.heap.size,e,n*T.siz e,by simp[upd],by simp,?_,by simp⟩);unfold af;rw[iw];simp[f2.size]
end
end Go.Eng
namespace Go.Eng
section
variable {P:Program} {C:Ctx} {σ:St}
theorem lR {o:Oper} {c:Operand} {args:Array Operand} {ats:Array TypeId} (ho:o.op=.call { callee:=.value c,args,argTypes:=ats }) {p:Prop} {f:FuncId} {xs:List AV}
  (h:ar σ c args.toList=some (p,f,xs)) (hp:p) (hc:ax P f) (ids cs ns:List Nat) {H K:List (Nat×Blk)} {r:AV} (hH:sub (ids++cs) σ.hp=H)
  (hck:((av xs).all (ids++cs).contains&&(refs r).all (ids++ns).contains&&(ids++ns).all (λi=>(aa K i).isSome)&&K.all (λq=>(ids++ns).contains q.1)&&(ids++cs++ns).all (λi=>decide (i<5000))&&cs.all (λi=>!ids.contains i))=true) (hck2:(ns.all (λi=>!ids.contains i)&&ns.all (λi=>(aa (del cs σ.hp) i).isNone))=true) (hnd:(K.map (·.1)).Nodup)
  (hpin:(ids.all λi=>match aa H i with | some b=>dq b | none=>false)=true) (hc1:(H.all λq=>(au q.2).all (ids++cs).contains)=true) (hc2:(K.all λq=>(au q.2).all (ids++ns).contains)=true)
  (hc3:((del (ids++cs) σ.hp).all λq=>(au q.2).all λi=>!cs.contains i)=true)
  (hf:∀G Y N:Nat->Nat,ae P f xs (H++pins ids G Y N) λr' H'=>r'=r/\∀i b,aa (K++pins ids G Y N) i=some b->aa H' i=some b) {τ:St} (hτ:(⟨σ.tm.map (fN cs),bA (del cs σ.hp) K⟩:St).put o.dst r=τ):dx P C o σ τ:=by
 subst hH hτ;simp only[Bool.and_eq_true] at hck;obtain ⟨⟨⟨⟨⟨hx,hr⟩,hi1⟩,hK1⟩,h5⟩,hdj⟩:=hck;have hin:∀i,ids.contains i=true->(ids++cs).contains i=true:=λi h=>by simp only[WA,List.mem_append] at h ⊢;exact .inl h
 have hinc:∀i,cs.contains i=true->(ids++cs).contains i=true:=λi h=>by simp only[WA,List.mem_append] at h ⊢;exact .inr h
 have hal:∀i,(ids++cs).contains i=true->i<5000:=λi h=>by
  have:=List.all_eq_true.1 h5 i (by simp only[WA,List.mem_append] at h ⊢;exact .inl h);simpa using this
 have haln:∀i,ns.contains i=true->i<5000:=λi h=>by
  have:=List.all_eq_true.1 h5 i (by simp only[WA,List.mem_append] at h ⊢;exact .inr h);simpa using this
 have hsep:∀i,cs.contains i=true->ids.contains i=false:=λi h=>by
  have:=List.all_eq_true.1 hdj i j5;simpa using this
 have hor:∀i,(ids++cs).contains i=true->cs.contains i=false->ids.contains i=true:=λi h hn=>by
  simp only[WA,List.mem_append] at h ⊢
  rcases h with h | h
  ·exact h
  ·have:cs.contains i=true:=by simpa using h
   rw[hn] at this;cases this
 have hxr:∀i,i∈av xs->(ids++cs).contains i=true:=λi h=>List.all_eq_true.1 hx i h
 have hrr:∀i,i∈refs r->(ids++ns).contains i=true:=λi h=>List.all_eq_true.1 hr i h
 simp only[Bool.and_eq_true] at hck2;have hnsi:∀i,ns.contains i=true->ids.contains i=false:=λi h=>by
  have:=List.all_eq_true.1 hck2.1 i j5;simpa using this
 have hnsf:∀i,ns.contains i=true->aa (del cs σ.hp) i=none:=λi h=>by
  have:=List.all_eq_true.1 hck2.2 i j5;simpa using this
 have hIN:∀i,(ids++ns).contains i=true->ids.contains i=true\/ns.contains i=true:=λi h=>by
  simpa only [WA,List.mem_append] using h
 have hIi:∀i,ids.contains i=true->(ids++ns).contains i=true:=λi h=>by
  simp only[WA,List.mem_append] at h ⊢;exact .inl h
 have hIn:∀i,ns.contains i=true->(ids++ns).contains i=true:=λi h=>by
  simp only[WA,List.mem_append] at h ⊢;exact .inr h
 have hid:∀i,(ids++ns).contains i=true->∃b,aa K i=some b:=λi h=>WM.1 (List.all_eq_true.1 hi1 i j5)
 have hKi:∀i b,aa K i=some b->(ids++ns).contains i=true:=λi b h=>List.all_eq_true.1 hK1 _ (aA h)
 intro a w Kp Q ⟨μ,S,hi⟩ hKp;obtain ⟨vs,h1,h2,h3⟩:=f_ hi ho h hp hc;unfold Oper.wp;rw[h3];have hpn:∀i,∃g t n,ids.contains i=true->μ i=some g/\af w g=nZ t n:=λi=>by
  by_cases e:ids.contains i=true
  ·have:=List.all_eq_true.1 hpin i Zn;cases e2:aa (sub (ids++cs) σ.hp) i with
   | none=>rw[e2] at this;cases this
   | some b=>
    rw[e2] at this;have e3:aa σ.hp i=some b:=by
     rw[bD,if_pos (hin i e)] at e2;exact e2
    obtain ⟨g,t,n,k1,k2⟩:=xZ (hi.hp i b e3) this;exact ⟨g,t,n,λ_=>⟨k1,k2⟩⟩
  ·exact ⟨0,0,0,λh=>absurd h e⟩
 let G:Nat->Nat:=λi=>Classical.choose (hpn i)
 let Y:Nat->Nat:=λi=>Classical.choose (WB (hpn i))
 let N:Nat->Nat:=λi=>Classical.choose (WB (WB (hpn i)))
 have hg:∀i,ids.contains i=true->μ i=some (G i)/\af w (G i)=nZ (Y i) (N i):=λi=>WB (WB (WB (hpn i)))
 let μc:Nat->Option Nat:=λi=>if (ids++cs).contains i then μ i else none
 have mc:∀{i g},μc i=some g->(ids++cs).contains i=true/\μ i=some g:=fun {i g} h=>by
  simp only[μc] at h;split at h
  ·exact ⟨by assumption,h⟩
  ·cases h
 have mc':∀{i},(ids++cs).contains i=true->μc i=μ i:=fun {i} h=>by simp only[μc,h,if_true]
 have mcn:∀{i},(ids++cs).contains i=false->μc i=none:=fun {i} h=>by simp only[μc,h,Bool.false_eq_true,if_false]
 have hsubk:∀i b,aa (sub (ids++cs) σ.hp) i=some b->(ids++cs).contains i=true/\aa σ.hp i=some b:=λi b h=>by
  rw[bD] at h;split at h
  ·exact ⟨by assumption,h⟩
  ·cases h
 refine (hf G Y N S μc w vs h1 (λj x hj=>(h2 j x hj).less λid hid g hg=>by rw[mc' (hxr id (aL hj hid))];exact hg) ⟨λid b hb=>?_,λid g hg'=>?_,λid id' g hg hg'=>hi.inj id id' g (mc hg).2 (mc hg').2,hi.gok.sub λi g h=>⟨i,(mc h).2⟩⟩ (λb hb=>(hi.sb b hb).1)).mono ?_
 ·rw[an] at hb;split at hb
  ·obtain ⟨q1,q2⟩:=hsubk id b hb;have hall:=List.all_eq_true.1 hc1 _ (aA hb);exact (hi.hp id b q2).less (mc' q1) (λi hi' g hg=>by rw[mc' (List.all_eq_true.1 hall i hi')];exact hg)
  ·rw[eY] at hb;split at hb
   ·rename_i hc5;injection hb with hb
    subst hb;have hno:(ids++cs).contains id=false:=by
     cases e:(ids++cs).contains id with
     | false=>rfl
     | true=>have:=hal id e;omega
    exact ⟨mcn hno,by rw[mc' (hin _ hc5.2)];exact (hg _ hc5.2).1,(hg _ hc5.2).2⟩
   ·cases hb
 ·obtain ⟨k1,k2⟩:=mc hg';obtain ⟨⟨b,j1⟩,_,j3⟩:=hi.dom id g k2;refine ⟨⟨b,?_⟩,j3⟩;rw[an,if_pos ⟨(id,b),aA Zb,rfl⟩,bD,if_pos k1];exact j1
 rintro e w' ⟨v,r',H',μ',S',rfl,⟨rfl,hKH⟩,k1,k2,k3,k4,k5⟩;have hKget:∀i b,aa K i=some b->aa H' i=some b:=λi b hb=>hKH i b (by
  rw[an,if_pos ⟨(i,b),aA hb,rfl⟩];exact hb)
 have hPget:∀i,ids.contains i=true->aa H' (5000+i)=some (.pin i (G i) (Y i) (N i)):=λi hi'=>hKH _ _ (by
  rw[an,if_neg (by
   rintro ⟨b,hb,hb2⟩;have:(ids++ns).contains b.1=true:=List.all_eq_true.1 hK1 b hb
   rcases hIN _ this with q | q
   ·have:=hal _ (hin _ q);omega
   ·have:=haln _ q;omega),eY,if_pos ⟨by omega,by rw[Wb];exact hi'⟩,Wb])
 have hpin':∀i,ids.contains i=true->μ' i=some (G i)/\af w' (G i)=nZ (Y i) (N i):=λi hi'=>(k2.blk _ _ (hPget i hi')).2
 have hfr:Frm (λg=>∃id,μc id=some g) w w':=k3;have hS:aE S w w':=λb hb=>hfr.block b (hi.sb b hb).1 s8
 have hO:∀i g,μ i=some g->(ids++cs).contains i=false->w'.heap[g]? = w.heap[g]?:=λi g hg hn=>hfr.block g (hi.dom i g hg).2.2.2 (by
  rintro ⟨id,h⟩;obtain ⟨q1,q2⟩:=mc h;have:=hi.inj _ _ _ hg q2;subst this;rw[q1] at hn;cases hn)
 let μ1:Nat->Option Nat:=λi=>if cs.contains i then none else μ i
 have m1:∀{i g},μ1 i=some g->cs.contains i=false/\μ i=some g:=fun {i g} h=>by
  simp only[μ1] at h;split at h
  ·cases h
  ·exact ⟨by simpa using (by assumption:¬cs.contains i=true),h⟩
 have m1':∀{i},cs.contains i=false->μ1 i=μ i:=fun {i} h=>by simp only[μ1,h,Bool.false_eq_true,if_false]
 -- whom we hold, and what is not used up, is no new number
 have hold:∀{i g},μ1 i=some g->ns.contains i=false:=fun {i g} h=>by
  obtain ⟨hn,hg'⟩:=m1 h;cases e:ns.contains i with
  | false=>rfl
  | true=>
   have:=hnsf i e;obtain ⟨⟨b,hb⟩,_⟩:=hi.dom i g hg';rw[cJ,if_neg (by rw[hn];exact Bool.false_ne_true),hb] at this;cases this
 let μ2:Nat->Option Nat:=λi=>if ns.contains i then μ' i else μ1 i
 have m2n:∀{i},ns.contains i=true->μ2 i=μ' i:=fun {i} h=>by simp only[μ2,h,if_true]
 have m2o:∀{i},ns.contains i=false->μ2 i=μ1 i:=fun {i} h=>by simp only[μ2,h,Bool.false_eq_true,if_false]
 have m2i:∀{i},ids.contains i=true->μ2 i=some (G i)/\μ' i=some (G i):=fun {i} h=>by
  have hn:ns.contains i=false:=by
   cases e:ns.contains i with
   | false=>rfl
   | true=>rw[hnsi i e] at h;cases h
  have hcn:cs.contains i=false:=by
   cases e:cs.contains i with
   | false=>rfl
   | true=>rw[hsep i e] at h;cases h
  exact ⟨by rw[m2o hn,m1' hcn,(hg i h).1],(hpin' i h).1⟩
 have m2c:∀{i g},μ2 i=some g->(ns.contains i=true/\μ' i=some g)\/(ns.contains i=false/\μ1 i=some g):=fun {i g} h=>by
  cases e:ns.contains i with
  | true=>rw[m2n e] at h;exact .inl ⟨rfl,h⟩
  | false=>rw[m2o e] at h;exact .inr ⟨rfl,h⟩
 have hup:∀i g,μ1 i=some g->μ2 i=some g:=λi g h=>by rw[m2o (hold h)];exact h
 have hz:∀i g,μ1 i=some g->af w' g=af w g:=λi g hg'=>by
  obtain ⟨hn,hg'⟩:=m1 hg';cases e:ids.contains i with
  | false=>
   refine aG (hO i g hg' ?_);cases e2:(ids++cs).contains i with
   | false=>rfl
   | true=>rw[hor i e2 hn] at e;cases e
  | true=>
   obtain ⟨q1,q2⟩:=hg i e;rw[hg'] at q1;injection q1 with q1
   rw[q1,(hpin' i e).2,q2]
 -- what the callee names is what we name
 have hsame:∀j,(ids++ns).contains j=true->μ2 j=μ' j:=λj hj=>by
  rcases hIN j hj with h | h
  ·rw[(m2i h).1,(m2i h).2]
  ·exact m2n h
 let S2:Nat->Prop:=λb=>S b\/S' b
 have hrd:∀{v x},Rd μ S w v x->(∀i,i∈refs x->cs.contains i=false)->Rd μ2 S2 w' v x:=fun {v x} hv hn=>
  (show Rd μ1 S w v x from hv.less (λi hi g hg=>by rw[m1' (hn i hi)];exact hg)).mono hS (λ_ h=>.inl h) hup hz
 have hmix:∀i j g,ns.contains i=true->μ' i=some g->μ1 j=some g->i=j:=λi j g hn h1 h2=>by
  obtain ⟨q1,q2⟩:=m1 h2;cases e:ids.contains j with
  | true=>
   have q3:=(hg j e).1;rw[q2] at q3;injection q3 with q3
   exact k2.inj i j g h1 (by rw[q3];exact (hpin' j e).1)
  | false=>
   rcases k4 i g h1 with ⟨id,q⟩ | q
   ·obtain ⟨r1,r2⟩:=mc q;have:=hi.inj _ _ _ q2 r2;subst this;rw[hor j r1 q1] at e;cases e
   ·have:=(hi.dom j g q2).2.2.2;omega
 have inv:Inv C μ2 S2 ⟨σ.tm.map (fN cs),bA (del cs σ.hp) K⟩ a w':=by
  refine ⟨by simp[hi.size],hi.defers,λt x hx=>?_,λi b hb=>?_,λi g hg'=>?_,λi j g hg hg'=>?_,hi.frm.step _ hfr (λg ⟨id,h⟩=>(hi.dom id g (mc h).2).2.1),λb hb=>?_⟩
  ·simp only[Zr] at hx;cases e:σ.tm[t]? with
   | none=>rw[e] at hx;cases hx
   | some y=>
    rw[e] at hx;simp only[Option.map_some,Option.some.injEq] at hx;subst hx;unfold fN;split
    ·exact .any _
    ·rename_i q;refine hrd (hi.tm t y e) (λi hi'=>?_);simp only[List.any_eq_true,not_exists,not_and] at q;simpa using q i hi'
  ·rw[bQ i K (del cs σ.hp) hnd] at hb;split at hb
   ·have hib:=hKi i b hb;have hB:=k2.blk i b (hKget i b hb);have hall:=List.all_eq_true.1 hc2 _ (aA hb);have h1:bN μ2 S' w' i b:=hB.less (hsame i hib) (λj hj q hq=>by rw[hsame j (List.all_eq_true.1 hall j hj)];exact hq);exact h1.mono (aE.refl _ _) (λ_ h=>.inr h) (λ_ _ h=>h) (λ_ _ _=>rfl) (λh=>h) (λ_ _=>rfl)
   ·rename_i hno;have hib:ids.contains i=false:=by
     cases e:ids.contains i with
     | false=>rfl
     | true=>
      obtain ⟨c,hc'⟩:=hid i (hIi i e);rw[hc'] at hno;exact absurd rfl hno
    have hnb:ns.contains i=false:=by
     cases e:ns.contains i with
     | false=>rfl
     | true=>
      obtain ⟨c,hc'⟩:=hid i (hIn i e);rw[hc'] at hno;exact absurd rfl hno
    rw[cJ] at hb;split at hb
    ·cases hb
    rename_i hcn;have hcn:cs.contains i=false:=by simpa using hcn
    have hai:(ids++cs).contains i=false:=by
     cases e2:(ids++cs).contains i with
     | false=>rfl
     | true=>rw[hor i e2 hcn] at hib;cases hib
    have hfree:=List.all_eq_true.1 hc3 (i,b) (aA QY);have h1:bN μ1 S w i b:=(hi.hp i b hb).less (m1' hcn) (λj hj q hq=>by
     have:=List.all_eq_true.1 hfree j hj;rw[m1' (by simpa using this)];exact hq)
    exact h1.mono hS (λ_ h=>.inl h) hup hz (λh=>by rw[m2o hnb];exact h) (λg hg'=>hO i g (m1 hg').2 hai)
  ·rcases m2c hg' with ⟨hnn,hg2⟩ | ⟨hnn,hg2⟩
   ·obtain ⟨c,hc'⟩:=hid i (hIn i hnn);refine ⟨⟨c,by rw[bQ i K (del cs σ.hp) hnd,if_pos (by rw[hc'];rfl),hc']⟩,?_,?_,(k2.dom i g hg2).2.2⟩
    ·rcases k4 i g hg2 with ⟨id,q⟩ | q
     ·exact (hi.dom id g (mc q).2).2.1
     ·have:=hi.frm.size;exact .inr z7
    ·rintro (h | h)
     ·rcases k4 i g hg2 with ⟨id,q⟩ | q
      ·exact (hi.dom id g (mc q).2).2.2.1 h
      ·have:=(hi.sb g h).1;omega
     ·exact (k2.dom i g hg2).2.1 h
   obtain ⟨hcn,hg'⟩:=m1 hg2;obtain ⟨⟨b,j1⟩,j2,j3,j4⟩:=hi.dom i g hg';refine ⟨?_,j2,?_,WO j4 hfr.size⟩
   ·rw[bQ i K (del cs σ.hp) hnd];split
    ·rename_i hs;exact WM.1 hs
    ·exact ⟨b,by rw[cJ,if_neg (by rw[hcn];exact Bool.false_ne_true)];exact j1⟩
   ·rintro (h | h)
    ·exact j3 h
    ·cases e:ids.contains i with
     | true=>
      have:=(hg i e).1;rw[hg'] at this;injection this with this
      subst this;exact (k2.dom i _ (hpin' i e).1).2.1 h
     | false=>
      rcases (k5 g h).2 with q | ⟨id,q⟩ | q
      ·exact j3 q
      ·obtain ⟨q1,q2⟩:=mc q;have:=hi.inj _ _ _ hg' q2;subst this;rw[hor i q1 hcn] at e;cases e
      ·omega
  ·rcases m2c hg with ⟨a1,a2⟩ | ⟨a1,a2⟩<;>rcases m2c hg' with ⟨b1,b2⟩ | ⟨b1,b2⟩
   ·exact k2.inj i j g a2 b2
   ·exact hmix i j g a1 a2 b2
   ·exact (hmix j i g b1 b2 a2).symm
   ·exact hi.inj i j g (m1 a2).2 (m1 b2).2
  ·rcases hb with h | h
   ·exact ⟨WO (hi.sb b h).1 hfr.size,(hi.sb b h).2⟩
   ·refine ⟨(k5 b h).1,?_⟩
    rcases (k5 b h).2 with q | ⟨id,q⟩ | q
    ·exact (hi.sb b q).2
    ·rcases (hi.dom id b (mc q).2).2.1 with z | z
     ·exact .inr (.inl z)
     ·exact .inr (.inr z)
    ·have:=hi.frm.size;exact .inr (.inr z7)
 refine hKp _ _ ⟨μ2,S2,inv.put o.dst ?_⟩;have h1:Rd μ2 S' w' v r':=k1.less λi hi' g hg'=>by rw[hsame i (hrr i hi')];exact hg'
 exact h1.mono (aE.refl _ _) (λ_ h=>.inr h) (λ_ _ h=>h) (λ_ _ _=>rfl)
end
end Go.Eng
