/- Texts of this claim, part 10: Take, PSort, PCli, PNm, PWor, PWor2, PWor3, PIds, PIds2, PCHere, PCAway, PFate, PBook, ModC, RKeepK, RFreshK, CKeep, RU, Cut, RSplit, RGo, RHoard, RAdd2. No condition. -/
import Derived.Test.YtmcfbfdonjllaaaGreatDoorZR9
set_option maxRecDepth 10000
set_option maxHeartbeats 4000000
set_option linter.unusedSimpArgs false
set_option linter.unusedVariables false
namespace La
open Go Go.Eng Go.Proofs Go.Proofs.Tryz
def fL (s:Srv) (c:Int) (done:List Act) (i:Nat):List Past:=s.past++(done.take i).map λa=>⟨c,a⟩
theorem rN (s:Srv) (c:Int) {done:List Act} {i:Nat} (h:i<done.length):fL s c done (i+1)=fL s c done i++[⟨c,done.getD i default⟩]:=by
 unfold fL;rw[ZT h,List.map_append,List.append_assoc];rfl
theorem uu (s:Srv) (c:Int) (done:List Act) {i:Nat} (h:i<=done.length):(fL s c done i).length=s.past.length+i:=by
 unfold fL;simp;omega
theorem Du (s:Srv) (h:SrvOK 40000000 s) (c:Int) (log:List Rec) (hlog:SmallL log) (hl2:log.length<=2000000) (hfit:∀r,r∈log->ActFit r.act) :
  aj prog 45 [.agg (ZQ s),.int .i64 c,.sl (log.map ZR)] []
   (λr _=>r=.tup [.agg (ZQ (jU s c log)),.sl ((bM s.tree s.next ((s.past.length+1:Nat):Int) log).vs.map ZV)]):=by
 have hn:=h.next;have hlen:=h.len;have hsp:SmallP s.past:=⟨by omega,λp hp=>by
  obtain ⟨st,_,_,h3⟩:=h.hist.st;obtain ⟨i,hi⟩:=W9 hp;have hil:=(W6.1 hi).1;have:=(h3 i hil).2.1.data
  rwa [show s.past.getD i default=p by rw[List.getD_eq_getElem?_getD,hi];rfl] at this⟩
 have hv:=uW s z8;have hso:=AX s h.hist.bR.small hsp;have hj:=Gi s.past s.tree s.next log h.hist z8 z8 hlog hl2 hfit;have hinv:=(JInv.pt h.hist c s.next log hfit).len;have hT:jU s c log=⟨(bM s.tree s.next ((s.past.length+1:Nat):Int) log).j.l,(bM s.tree s.next ((s.past.length+1:Nat):Int) log).j.next,fL s c (bM s.tree s.next ((s.past.length+1:Nat):Int) log).done (bM s.tree s.next ((s.past.length+1:Nat):Int) log).done.length⟩:=by
  unfold jU fL;rw[W4]
 rw[hT];clear hT;unfold ZQ at hv hso ⊢;generalize bM s.tree s.next ((s.past.length+1:Nat):Int) log=g at *;have hsu:=λi=>@rN s c g.done i
 have hle:=λi=>@uu s c g.done i
 have hz:fL s c g.done 0=s.past:=by simp[fL]
 generalize fL s c g.done=P at *;refine wSG func45 ntmps45 results45 λC=>?_
 refine ZZ 3 rfl (rfl) (wn ?_);refine wO ?_;refine sN 5 ?_;refine sC ?_ func86 (hf:=hv);refine sN 1 ?_;refine sC ?_ func85 (hf:=hj);refine sG ?_;refine wXG ?_;refine wCG ?_ [] 18 func40 (hf:=hso);refine wG ?_;refine wL g.done.length (λi=>(14,.any)::(29,.any)::(36,.int .i64 i)::u0 37 12 [])
  (λi=>[(12,.cells 32 3 [[.sl (g.j.l.map ZN),.int .i64 g.j.next,.osl 46 8 0 (P i).length]]),(46,.cells 79 8 ((P i).map ZP))]) ?_ λi hi=>?_
 ·rw[hz];exact wZ
 simp only[go_sem];refine wGD (λh=>?_) (λh=>?_)
 ·have hlt:=lt1 h;have hg:=Fam.getD (f:=ZA) hlt;have hs1:=hsu i hlt;have hl1:=hle i z8;have how':=wi1 (i:=i) z8;generalize g.done.getD i default=a at *;generalize P i=Q at *;refine wR ?_;refine wNq 4 ?_ ?_ z6 z6 (by simp only[go_sem,hg,ZA];try exact rfl)
  ·simp[hg,ZA,hlt]
  refine wR ?_;refine wN 6 ?_;refine af (aY 46 12 z6 y9) ?_;refine wGq ?_ ?_ y6
  ·simp[rowsOf,ZP];omega
  exact ZB ⟨i+1,by omega,by omega,ZU w3 (by simp[go_sem,hs1,ZP,W4]) w3⟩
 ·obtain rfl:=eq1 hi h;refine wG ?_;refine ZZ 46 rfl (ea _) (wn ?_);refine wT ?_;simp
end La
namespace La
open Go Go.Eng
def lf (l:List Node):List Node:=(bQ l).map (·.2)
def E9 (fid now:Int) (x:Kept):Kept:=if x.node.fid=fid then { x with last:=now } else x
theorem Ch (v:Bool) (x:Node):dm v x x=true:=by simp[dm]
theorem uE (v:Bool) (l:List Node):gT v l l=true:=(lb v l l).2 ⟨rfl,λj _=>Ch v _⟩
theorem KM {l:List Kept} (hu:sR l=true) (fid now:Int):yF l fid now=l.map (E9 fid now):=by
 have hU:oQ l l.length:=of_decide_eq_true hu;unfold yF;cases hk:ch l fid with
 | none=>
  have hn:∀x,x∈l->x.node.fid≠fid:=λx hx e=>by
   have:=YL.1 hk x hx;simp[e] at this
  refine (List.ext_getElem? λj=>?_);rw[W2];cases hj:l[j]? with
  | none=>rfl
  | some x=>simp[E9,hn x (W3 hj)]
 | some p=>
  obtain ⟨hp,hpf,hno⟩:=YK.1 hk;have hpf:l[p].node.fid=fid:=by simpa using hpf
  have hat:∀j (hj:j<l.length),l[j].node.fid=fid->j=p:=λj hj e=>by
   have hf:∀i (hi:i<l.length),zg l i=l[i].node.fid:=λi hi=>by unfold zg;rw[List.getD_eq_getElem?_getD,Wz hi];rfl
   rcases Nat.lt_trichotomy j p with h1 | h1 | h1
   ·exact absurd (by rw[hf j hj,hf p hp,e,hpf]) (hU p hp j h1)
   ·exact h1
   ·exact absurd (by rw[hf j hj,hf p hp,e,hpf]) (hU j hj p h1)
  refine List.ext_getElem? λj=>?_
  simp only;rw[W2,YM]
  by_cases hjp:p=j
  ·subst hjp;rw[if_pos rfl,if_pos hp,Wz hp];simp[E9,hpf,List.getD_eq_getElem?_getD,Wz hp]
  ·rw[if_neg hjp];cases hj:l[j]? with
   | none=>rfl
   | some x=>
    obtain ⟨hjl,hje⟩:=W6.1 hj;have:x.node.fid≠fid:=λe=>hjp (hat j hjl (by rw[hje];exact e)).symm
    simp[E9,this]
theorem ye {l:List Kept} (h:SmallK l):Small (aO l):=⟨by unfold aO;rw[List.length_map];exact h.len,λx hx=>by
 obtain ⟨k,hk,rfl⟩:=W5.1 hx;exact h.each k hk⟩
theorem nF (l:List Node):∀i,∀p,p∈kf l i->p.2.fid=p.1
 | 0,p,hp=>by cases hp
 | i+1,p,hp=>by
  obtain ⟨k,x⟩:=p;have:=(cj (jG l i) k x).1 hp
  rcases this with ⟨rfl,rfl⟩ | ⟨_,h⟩
  ·rfl
  ·exact nF l i _ h
theorem rW:∀p q:List Node,p.Pairwise (λa b=>a.fid<b.fid)->q.Pairwise (λa b=>a.fid<b.fid)->(∀x,x∈p↔x∈q)->p=q
 | [],q,_,_,h=>by
  cases q with
  | nil=>rfl
  | cons b q=>exact absurd ((h b).2 List.mem_cons_self) w8
 | a::p,[],_,_,h=>absurd ((h a).1 List.mem_cons_self) w8
 | a::p,b::q,hp,hq,h=>by
  obtain ⟨hp1,hp2⟩:=List.pairwise_cons.1 hp;obtain ⟨hq1,hq2⟩:=List.pairwise_cons.1 hq;have e:a=b:=by
   rcases List.mem_cons.1 ((h a).1 List.mem_cons_self) with h1 | h1
   ·exact h1
   ·rcases List.mem_cons.1 ((h b).2 List.mem_cons_self) with h2 | h2
    ·exact h2.symm
    ·have:=hp1 b h2;have:=hq1 a h1;omega
  subst e;rw[rW p q hp2 hq2 λx=>⟨λhx=>?_,λhx=>?_⟩]
  ·rcases List.mem_cons.1 ((h x).1 (List.mem_cons_of_mem _ hx)) with h1 | h1
   ·have:=hp1 x hx;rw[h1] at this;omega
   ·exact h1
  ·rcases List.mem_cons.1 ((h x).2 (List.mem_cons_of_mem _ hx)) with h1 | h1
   ·have:=hq1 x hx;rw[h1] at this;omega
   ·exact h1
theorem oK (l:List Node):(lf l).Pairwise λa b=>a.fid<b.fid:=by
 unfold lf;rw[List.pairwise_map];refine List.Pairwise.imp_of_mem ?_ (bC l);intro a b ha hb h;rw[nF l _ a ha,nF l _ b hb];exact h
theorem wu (l:List Node) (hd:∀i,i<l.length->∀j,j<i->gO l j≠gO l i):∀i,i<=l.length->∀j,j<i->(gO l j,l.getD j default)∈kf l i
 | 0,_,_,h=>by omega
 | i+1,hi,j,hj=>by
  refine (cj (jG l i) _ _).2 ?_
  by_cases e:j=i
  ·subst e;exact .inl ⟨rfl,rfl⟩
  ·exact .inr ⟨hd i z8 j z8,wu l hd i z8 j z8⟩
theorem xc (l:List Node) (hd:∀i,i<l.length->∀j,j<i->gO l j≠gO l i) (x:Node):x∈lf l↔x∈l:=by
 constructor
 ·intro h;obtain ⟨p,hp,rfl⟩:=W5.1 h;exact qK l _ (W7 _) p hp
 ·intro h;obtain ⟨i,hi,rfl⟩:=List.getElem_of_mem h;refine W5.2 ⟨(gO l i,l.getD i default),wu l hd _ (W7 _) i hi,?_⟩;rw[List.getD_eq_getElem?_getD,Wz hi];rfl
theorem uK (l:List Node) (hd:∀i,i<l.length->∀j,j<i->gO l j≠gO l i) (p:List Node) (hp:p.Perm l) (hs:p.Pairwise λa b=>a.fid<=b.fid):p=lf l:=by
 have hne:l.Pairwise λa b=>a.fid≠b.fid:=by
  rw[Yx];intro i j hi hj hij;have:=hd j hj i hij;unfold gO at this;rw[List.getD_eq_getElem?_getD,List.getD_eq_getElem?_getD,Wz hi,Wz hj] at this;exact this
 have hnp:p.Pairwise λa b=>a.fid≠b.fid:=(hp.pairwise_iff (λh=>Ne.symm h)).2 hne
 refine rW _ _ ?_ (oK l) λx=>by rw[xc l hd,hp.mem_iff]
 rw[Yx] at *;intro i j hi hj hij;have h1:=hs i j hi hj hij;have h2:=hnp i j hi hj hij;omega
theorem xb (l:List Node) (hd:∀i,i<l.length->∀j,j<i->gO l j≠gO l i):(lf l).length=l.length:=by
 have h1:=List.mergeSort_perm l (λa b=>decide (a.fid<=b.fid));have h2:=List.pairwise_mergeSort (le:=λa b:Node=>decide (a.fid<=b.fid)) (by intro a b c;simp;omega) (by intro a b;simp;omega) l;rw[<-uK l hd _ h1 (h2.imp w8)];exact h1.length_eq
structure Hoard where
 path:List UInt8
 worth:Int
deriving DecidableEq,Inhabited
structure Cli where
 number:Int
 away:Bool
 room:Int
 cache:List Kept
 log:List Rec
 repair:List Rec
 hoards:List Hoard
 clock:Int
 made:Int
 logged:Int
deriving DecidableEq,Inhabited
structure U where
 c:Cli
 s:Srv
structure Step where
 kind:Int
 client:Int
 n:Int
 path:List UInt8
 toPath:List UInt8
 data:List UInt8
deriving DecidableEq,Inhabited
structure Reply where
 err:Int
 n:Int
 m:Int
 data:List UInt8
deriving DecidableEq,Inhabited
structure Wor where
 s:Srv
 cs:List Cli
def gl (fid worth clk:Int) (k:Kept):Kept:=if k.node.fid=fid then { k with last:=clk,worth:=mS k.worth worth } else k
def cC (u:U) (fid worth:Int):U:=⟨{ u.c with clock:=u.c.clock+1,cache:=u.c.cache.map (gl fid worth (u.c.clock+1)) },u.s⟩
def gQ (u:U) (k:Kept):U:=match c_ u.c.cache u.c.room k with
 | some l=>⟨{ u.c with cache:=l },u.s⟩
 | none=>u
def dZ (l:List Kept) (fid:Int):Option Node:=(l.find? λk=>k.node.fid==fid).map (·.node)
structure Got where
 n:Node
 e:Int
 u:U
def bd (u:U) (fid worth:Int):Got:=match dZ u.c.cache fid with
 | some n=>⟨n,0,cC u fid worth⟩
 | none=>if u.c.away=true then ⟨ax,12,cC u fid worth⟩ else match ak u.s.tree fid with
  | none=>⟨ax,6,cC u fid worth⟩
  | some n=>⟨n,0,gQ (cC u fid worth) ⟨n,false,worth,u.c.clock+1⟩⟩
def goR (worth:Int):List (List UInt8)->Got->Got
 | [],g=>if g.e=0 then g else ⟨ax,g.e,g.u⟩
 | s::r,g=>if g.e≠0 then ⟨ax,g.e,g.u⟩ else if g.n.dir=false then ⟨ax,8,g.u⟩ else match ba g.n s with
  | none=>⟨ax,6,g.u⟩
  | some f=>goR worth r (bd g.u f worth)
def goU (u:U) (l:List (List UInt8)) (worth:Int):Got:=goR worth l (bd u 0 worth)
structure GotD where
 n:Node
 name:List UInt8
 e:Int
 u:U
def ah (u:U) (path:List UInt8):GotD:=
 if (ae path).2≠0 then ⟨ax,[],(ae path).2,u⟩
 else if (ae path).1.length=0 then ⟨ax,[],7,u⟩
 else ⟨(goU u ((ae path).1.take ((ae path).1.length-1)) 0).n,(ae path).1.getD ((ae path).1.length-1) [],
  if (goU u ((ae path).1.take ((ae path).1.length-1)) 0).e=0/\(goU u ((ae path).1.take ((ae path).1.length-1)) 0).n.dir=false then 8 else (goU u ((ae path).1.take ((ae path).1.length-1)) 0).e,
  (goU u ((ae path).1.take ((ae path).1.length-1)) 0).u⟩
def eO (c:Cli) (a:Act):Act:=if aR a=true then { a with fid:=-1-c.made } else a
def vp (a:Act) (seen:Int):Int:=if aR a=true then -1 else seen
def cP (c:Cli):List Node:=lf (aO c.cache)
def aT (was:List Node) (a:Act) (n:Node):Bool:=!((match ak was n.fid with
 | some o=>dm false o n
 | none=>false)&&(a.kind != 3||n.fid != a.fid))
def gi (was:List Node) (clk:Int) (n:Node):Kept:=⟨{ n with version:=((ak was n.fid).getD ax).version },true,0,clk⟩
def cy (room clk:Int) (was:List Node) (a:Act):List Node->List Kept->Option (List Kept)
 | [],l=>some l
 | n::r,l=>if aT was a n=true then (match c_ l room (gi was clk n) with
  | none=>none
  | some l'=>cy room clk was a r l') else cy room clk was a r l
structure GotE where
 e:Int
 u:U
def yf (c:Cli) (a:Act) (seen:Int):Option (List Rec):=dt c.log ⟨eO c a,vp a seen,c.logged+1⟩
noncomputable def lO (c:Cli) (a:Act):List Node:=aK (cP c) (eO c a) 0
noncomputable def Db (c:Cli) (a:Act):Option (List Kept):=cy c.room c.clock (cP c) (eO c a) (lO c a) c.cache
noncomputable def jL (u:U) (a:Act) (seen:Int):GotE:=
 if aF (cP u.c) (eO u.c a)≠0 then ⟨aF (cP u.c) (eO u.c a),u⟩ else match yf u.c a seen with
 | none=>⟨5,u⟩
 | some log=>match Db u.c a with
  | none=>⟨5,u⟩
  | some l=>⟨0,⟨{ u.c with cache:=l.filter (λk=>bf (lO u.c a) k.node.fid),log:=log,logged:=u.c.logged+1,made:=if aR a=true then u.c.made+1 else u.c.made },u.s⟩⟩
def mH (c:Cli) (t:List Node):Cli:={ c with cache:=c.cache.filter λk=>!bN t k }
noncomputable def fU (u:U) (a:Act):GotE:=if doE u.s a=0 then ⟨0,⟨mH u.c (doS u.s u.c.number a).tree,doS u.s u.c.number a⟩⟩ else ⟨doE u.s a,u⟩
noncomputable def bU (u:U) (a:Act) (seen:Int):GotE:=if u.c.away=true then jL u a seen else fU u a
def cO (n:Node):Int:=if n.fid<0 then -1 else n.version
def cL (d:Int) (name:List UInt8):Act:=⟨1,0,d,name,0,[],[]⟩
def iS (d:Int) (name:List UInt8):Act:=⟨2,0,d,name,0,[],[]⟩
def cq (fid:Int) (data:List UInt8):Act:=⟨3,fid,0,[],0,[],data⟩
def dn (fid d:Int) (name:List UInt8):Act:=⟨4,fid,d,name,0,[],[]⟩
def eL (fid d:Int) (name:List UInt8) (to:Int) (toName:List UInt8):Act:=⟨5,fid,d,name,to,toName,[]⟩
noncomputable def gb (g:Got) (data:List UInt8):GotE:=if g.e≠0 then ⟨g.e,g.u⟩ else bU g.u (cq g.n.fid data) (cO g.n)
noncomputable def bI (u:U) (path data:List UInt8):GotE:=
 if (ah u path).e≠0 then ⟨(ah u path).e,(ah u path).u⟩
 else if data.length>20 then ⟨4,(ah u path).u⟩
 else match ba (ah u path).n (ah u path).name with
 | some f=>gb (bd (ah u path).u f 0) data
 | none=>if (bU (ah u path).u (cL (ah u path).n.fid (ah u path).name) (-1)).e≠0 then bU (ah u path).u (cL (ah u path).n.fid (ah u path).name) (-1)
  else gb (goU (bU (ah u path).u (cL (ah u path).n.fid (ah u path).name) (-1)).u (ae path).1 0) data
noncomputable def d_ (u:U) (path:List UInt8):GotE:=
 if (ah u path).e≠0 then ⟨(ah u path).e,(ah u path).u⟩ else bU (ah u path).u (iS (ah u path).n.fid (ah u path).name) (-1)
structure GotP where
 d:Int
 name:List UInt8
 n:Node
 e:Int
 u:U
def atU (u:U) (path:List UInt8):GotP:=
 if (ah u path).e≠0 then ⟨0,[],ax,(ah u path).e,(ah u path).u⟩
 else match ba (ah u path).n (ah u path).name with
 | none=>⟨0,[],ax,6,(ah u path).u⟩
 | some f=>⟨(ah u path).n.fid,(ah u path).name,(bd (ah u path).u f 0).n,(bd (ah u path).u f 0).e,(bd (ah u path).u f 0).u⟩
noncomputable def bu (u:U) (path:List UInt8):GotE:=
 if (atU u path).e≠0 then ⟨(atU u path).e,(atU u path).u⟩
 else bU (atU u path).u (dn (atU u path).n.fid (atU u path).d (atU u path).name) (cO (atU u path).n)
noncomputable def cN (u:U) (path to:List UInt8):GotE:=
 if (atU u path).e≠0 then ⟨(atU u path).e,(atU u path).u⟩
 else if (ah (atU u path).u to).e≠0 then ⟨(ah (atU u path).u to).e,(ah (atU u path).u to).u⟩
 else bU (ah (atU u path).u to).u (eL (atU u path).n.fid (atU u path).d (atU u path).name (ah (atU u path).u to).n.fid (ah (atU u path).u to).name) (cO (atU u path).n)
def bY:List Rec->List Verdict->List Rec
 | r::l,v::vs=>if v.err=0 then bY l vs else r::bY l vs
 | _,_=>[]
def bL (vs:List Verdict):Nat:=(vs.filter λv=>v.err==0).length
noncomputable def aw (u:U):List Verdict:=(bM u.s.tree u.s.next ((u.s.past.length+1:Nat):Int) u.c.log).vs
noncomputable def il (u:U):Srv:=jU u.s u.c.number u.c.log
noncomputable def gh (u:U):U:=
 ⟨{ u.c with away:=false,log:=[],repair:=u.c.repair++bY u.c.log (aw u),cache:=(u.c.cache.filter λk=>!k.dirty).filter λk=>!bN (il u).tree k },il u⟩
def cx (l:List Hoard) (path:List UInt8):List Hoard:=l.filter λh=>!(h.path==path)
def cX (u:U) (path:List UInt8) (worth:Int):GotE:=
 if (ae path).2≠0 then ⟨(ae path).2,u⟩ else if worth<0\/worth>100 then ⟨3,u⟩
 else if 0<worth/\(cx u.c.hoards path).length≥6 then ⟨5,u⟩
 else ⟨0,⟨{ u.c with hoards:=if 0<worth then cx u.c.hoards path++[⟨path,worth⟩] else cx u.c.hoards path },u.s⟩⟩
def bA (l:List Hoard):Nat->List Hoard
 | 0=>[]
 | w+1=>l.filter (λh=>h.worth==((w+1:Nat):Int))++bA l w
structure GotV where
 n:Nat
 u:U
def eH (g:GotV) (h:Hoard):GotV:=⟨if (goU g.u (ae h.path).1 h.worth).e=0 then g.n+1 else g.n,(goU g.u (ae h.path).1 h.worth).u⟩
def fb (u:U):GotV:=(bA u.c.hoards 100).foldl eH ⟨0,u⟩
def nX (l:List Entry):List UInt8:=l.flatMap λe=>e.name++[10]
structure GotS where
 u:U
 r:Reply
def gx (kind:Int) (g:Got):Reply:=
 if g.e≠0 then ⟨g.e,0,0,[]⟩
 else if kind=1 then (if g.n.dir=true then ⟨9,0,0,[]⟩ else ⟨0,0,0,g.n.data⟩)
 else if g.n.dir=true then ⟨0,0,0,nX g.n.entries⟩ else ⟨8,0,0,[]⟩
def cD (e:Int):Reply:=⟨e,0,0,[]⟩
noncomputable def al (u:U) (x:Step):GotS:=
 if x.kind=1\/x.kind=2 then (if (ae x.path).2≠0 then ⟨u,cD (ae x.path).2⟩ else ⟨(goU u (ae x.path).1 0).u,gx x.kind (goU u (ae x.path).1 0)⟩)
 else if x.kind=3 then ⟨(bI u x.path x.data).u,cD (bI u x.path x.data).e⟩
 else if x.kind=4 then ⟨(d_ u x.path).u,cD (d_ u x.path).e⟩
 else if x.kind=5 then ⟨(bu u x.path).u,cD (bu u x.path).e⟩
 else if x.kind=6 then ⟨(cN u x.path x.toPath).u,cD (cN u x.path x.toPath).e⟩
 else if x.kind=7 then ⟨⟨{ u.c with away:=true },u.s⟩,cD 0⟩
 else if x.kind=8 then ⟨gh u,⟨0,bL (aw u),((aw u).length-bL (aw u):Nat),[]⟩⟩
 else if x.kind=9 then ⟨(cX u x.path x.n).u,cD (cX u x.path x.n).e⟩
 else if x.kind=10 then (if u.c.away=true then ⟨u,cD 12⟩ else ⟨(fb u).u,⟨0,(fb u).n,0,[]⟩⟩)
 else ⟨u,cD 1⟩
structure GotW where
 w:Wor
 r:Reply
def bq (t:List Node) (c:Cli):Cli:=if c.away=true then c else mH c t
noncomputable def au (w:Wor) (x:Step):GotW:=
 if x.client<0\/x.client≥w.cs.length then ⟨w,cD 6⟩
 else ⟨⟨(al ⟨w.cs.getD x.client.toNat default,w.s⟩ x).u.s,(w.cs.set x.client.toNat (al ⟨w.cs.getD x.client.toNat default,w.s⟩ x).u.c).map (bq (al ⟨w.cs.getD x.client.toNat default,w.s⟩ x).u.s.tree)⟩,(al ⟨w.cs.getD x.client.toNat default,w.s⟩ x).r⟩
def oC (number room:Int):Cli:=⟨number,false,room,[],[],[],[],0,0,0⟩
def bl (rooms:List Int):Int:=if rooms.length<1\/3<rooms.length then 5 else if rooms.all (λn=>decide (3<=n)&&decide (n<=24)) then 0 else 3
def gq (rooms:List Int) (i:Nat):List Cli:=(List.range i).map λ(j:Nat)=>oC (j:Int) (rooms.getD j 0)
def LH:Srv:=⟨[gS],1,[]⟩
def gr (rooms:List Int):Wor:=⟨LH,gq rooms rooms.length⟩
noncomputable def ll (rooms:List Int) (l:List Step):Wor:=l.foldl (λw x=>(au w x).w) (gr rooms)
def NmE (l:List Entry):Prop:=∀e,e∈l->e.name.length<=40
structure Nm (l:List Node):Prop where
 up:Up l
 nm:∀n,n∈l->NmE n.entries
theorem NmE.nil:NmE []:=λ_ h=>by cases h
theorem wy {s:List UInt8} (h:cH s=true):s.length<=40:=by
 unfold cH at h;rw[Bool.and_eq_true,Bool.and_eq_true,decide_eq_true_eq,decide_eq_true_eq] at h;omega
theorem NmE.enter {l:List Entry} (h:NmE l) {s:List UInt8} (hs:cH s=true) (f:Int):NmE (bF l s f):=λe he=>by
 rcases oc he with rfl | he
 ·exact wy hs
 ·exact h e he
theorem NmE.leave {l:List Entry} (h:NmE l) (s:List UInt8):NmE (dv l s):=λe he=>h e (lI he)
theorem Nm.find {l:List Node} (h:Nm l) (k:Int):NmE (ar l k).entries:=by
 unfold ar;cases e:ak l k with
 | none=>exact .nil
 | some n=>exact h.nm n ((ZO h.up).1 e).1
theorem Nm.put {l:List Node} (h:Nm l) {n:Node} (hn:NmE n.entries):Nm (aI l n):=
 ⟨(bt h.up n).1,λm hm=>by
  rcases ga hm with rfl | hm
  ·exact hn
  ·exact h.nm m hm⟩
theorem Nm.drop {l:List Node} (h:Nm l) (f:Int):Nm (eQ l f):=⟨(ir h.up f).1,λm hm=>h.nm m (((ir h.up f).2 m).1 hm).1⟩
theorem Nm.to {l:List Node} (h:Nm l) (a:Act):NmE (toN l a).entries:=by
 unfold toN;split
 ·exact (h.find _).leave _
 ·exact h.find _
theorem Nm.apply {l:List Node} (h:Nm l) (a:Act) (v:Int):Nm (cz l a v):=by
 have hmk:Nm (dY l a v):=by
  unfold dY;split
  ·rename_i he;unfold da at he;split at he
   ·split at he
    ·rename_i hr;refine (h.put ?_).put .nil;exact (h.find _).enter (dG hr).1 _
    ·rename_i hr;exact absurd he hr
   ·rename_i hr;exact absurd he hr
  ·exact h
 unfold cz;split
 ·exact hmk
 ·split
  ·exact hmk
  ·split
   ·unfold eG;split
    ·exact h.put (h.find _)
    ·exact h
   ·split
    ·unfold cV;split
     ·exact (h.put ((h.find _).leave _)).drop _
     ·exact h
    ·split
     ·unfold gw;split
      ·rename_i he;have hr:cf (toN l a) a.toName=0:=by
        unfold bH at he;split at he
        ·split at he
         ·split at he
          ·assumption
          ·rename_i hr;exact absurd he hr
         ·rename_i hr;exact absurd he hr
        ·rename_i hr;exact absurd he hr
       refine Nm.put ?_ ((h.to a).enter (dG hr).1 _);split
       ·exact h
       ·exact h.put ((h.find _).leave _)
      ·exact h
     ·exact h
theorem Wh.nm {l:List Node} (h:Wh l) {n:Node} (hn:n∈l):NmE n.entries:=λe he=>wy (h.name n.fid e.name e.fid ⟨n,hn,rfl,he⟩)
variable {Fa:Prop}
theorem vB {l:List Node} {a:Act} {v:Int} {n:Node} (he:aF l a=0) (h:n∈aK l a v):n.version=v\/n∈l:=by
 unfold aF at he;unfold aK at h;have hmk:n∈dY l a v->n.version=v\/n∈l:=λh=>by
  unfold dY at h;split at h
  ·rcases ga h with rfl | h
   ·exact .inl rfl
   ·rcases ga h with rfl | h
    ·exact .inl rfl
    ·exact .inr h
  ·exact .inr h
 split at h
 ·exact hmk h
 ·split at h
  ·exact hmk h
  ·split at h
   ·unfold eG at h;split at h
    ·rcases ga h with rfl | h
     ·exact .inl rfl
     ·exact .inr h
    ·exact .inr h
   ·split at h
    ·unfold cV at h;split at h
     ·rcases ga (YI.1 h).1 with rfl | h
      ·exact .inl rfl
      ·exact .inr h
     ·exact .inr h
    ·split at h
     ·unfold dp at h;split at h
      ·rcases ga h with rfl | h
       ·exact .inl rfl
       ·split at h
        ·exact .inr h
        ·rcases ga h with rfl | h
         ·exact .inl rfl
         ·exact .inr h
      ·exact .inr h
     ·exact .inr h
theorem Hist.ver {p:List Past} {t:List Node} (h:Hist p t):∀n,n∈t->0<=n.version/\n.version<=(p.length:Int):=by
 induction h with
 | nil=>intro n hn;rw[List.mem_singleton.1 hn];simp[gS]
 | @snoc p t c a h ha he ih=>
  intro n hn;simp only[List.length_append,List.length_cons,List.length_nil]
  rcases vB he hn with h1 | h1
  ·rw[h1];omega
  ·have:=ih n h1;omega
theorem Hist.det {p:List Past} {t:List Node} (h:Hist p t):∀{t'},Hist p t'->t=t':=by
 induction h with
 | nil=>
  intro t' h';generalize hq:([]:List Past)=q at h';cases h' with
  | nil=>rfl
  | snoc c a _ _ _=>simp at hq
 | @snoc p t c a h ha he ih=>
  intro t' h';generalize hq:p++[⟨c,a⟩]=q at h';cases h' with
  | nil=>simp at hq
  | @snoc p2 t2 c2 a2 h2 _ _=>
   obtain ⟨h3,h4⟩:=List.append_inj' hq rfl;subst h3;injection h4 with h4
   injection h4 with h4 h5
   subst h5;rw[ih h2]
theorem Hist.back {p:List Past} {c:Int} {a:Act} {t':List Node} (h:Hist (p++[⟨c,a⟩]) t'):∃t,Hist p t/\aF t a=0/\t'=aK t a ((p.length+1:Nat):Int):=by
 generalize hq:p++[(⟨c,a⟩:Past)]=q at h;cases h with
 | nil=>simp at hq
 | @snoc p2 t2 c2 a2 h2 ha he=>
  obtain ⟨h3,h4⟩:=List.append_inj' hq rfl;subst h3;injection h4 with h4
  injection h4 with h4 h5
  subst h5;exact ⟨t2,h2,he,rfl⟩
def Hst (s:Srv) (n:Node):Prop:=n.version<=(s.past.length:Int)/\∀m,m∈s.tree->m.fid=n.fid->m.version=n.version->m=n
theorem Hst.at {s:Srv} (h:Hist s.past s.tree) {n:Node} (hn:n∈s.tree):Hst s n:=⟨(h.ver n hn).2,λ_ hm hf _=>pX h.bR.up hm hn hf⟩
theorem zu {p:List Past} {n:Node}:∀(q:List Past) {t t':List Node},Hist p t->Hist (p++q.reverse) t'->n.version<=(p.length:Int)->(∀m,m∈t->m.fid=n.fid->m.version=n.version->m=n) ->
  ∀m,m∈t'->m.fid=n.fid->m.version=n.version->m=n
 | [],t,t',h,h',_,hm=>by
  rw[List.reverse_nil,List.append_nil] at h';rw[<-h.det h'];exact hm
 | x::q,t,t',h,h',hv,hm=>by
  rw[List.reverse_cons,<-List.append_assoc] at h';obtain ⟨t2,h2,he,rfl⟩:=Hist.back (c:=x.client) (a:=x.act) h';have ih:=zu q h h2 hv hm;intro m hmm hf hver
  rcases vB he hmm with h3 | h3
  ·rw[h3] at hver;simp only[List.length_append,List.length_reverse] at hver;omega
  ·exact ih m h3 hf hver
structure Grown (s s':Srv):Prop where
 hist:Hist s'.past s'.tree
 past:∃q,s'.past=s.past++q
theorem Grown.refl {s:Srv} (h:Hist s.past s.tree):Grown s s:=⟨h,[],by simp⟩
theorem Grown.trans {a b c:Srv} (h:Grown a b) (k:Grown b c):Grown a c:=by
 obtain ⟨q,hq⟩:=h.past;obtain ⟨r,hr⟩:=k.past;exact ⟨k.hist,q++r,by rw[hr,hq,List.append_assoc]⟩
theorem Hst.grow {s s':Srv} (h:Hist s.past s.tree) (hg:Grown s s') {n:Node} (hn:Hst s n):Hst s' n:=by
 obtain ⟨q,hq⟩:=hg.past;have h1:=hg.hist;refine ⟨by rw[hq,List.length_append];have:=hn.1;omega,zu (p:=s.past) q.reverse h ?_ hn.1 hn.2⟩;rw[List.reverse_reverse,<-hq];exact h1
theorem E1 {t:List Node} (hu:Up t) {k:Kept} (hd:k.dirty=false) (h:bN t k=false):∃n,n∈t/\n.fid=k.node.fid/\n.version=k.node.version:=by
 unfold bN at h;rw[hd,cS] at h;cases e:ak t k.node.fid with
 | none=>rw[e] at h;simp at h
 | some n=>
  rw[e] at h;simp only[Bool.not_false,Option.isSome_some,Bool.not_true,Option.getD_some,Yv,Y0,Bool.not_eq_false',beq_iff_eq] at h;obtain ⟨h1,h2⟩:=(ZO hu).1 e;exact ⟨n,h1,h2,h⟩
theorem xf {s:Srv} (hh:Hist s.past s.tree) {k:Kept} (hk:Hst s k.node) (hd:k.dirty=false) (h:bN s.tree k=false):k.node∈s.tree:=by
 obtain ⟨n,h1,h2,h3⟩:=E1 hh.bR.up hd h;rw[<-hk.2 n h1 h2 h3];exact h1
structure ActS (a:Act):Prop where
 name:a.name.length<=40
 toName:a.toName.length<=40
 data:a.data.length<=20
theorem ActS.fit {a:Act} (h:ActS a):ActFit a:=⟨by have:=h.name;omega,by have:=h.toName;omega,by have:=h.data;omega⟩
structure HoardOK (h:Hoard):Prop where
 path:h.path.length<=40
 worth:1<=h.worth/\h.worth<=100
structure CInvF (Fa:Prop) (B T:Nat) (s:Srv) (c:Cli):Prop where
 room:3<=c.room/\c.room<=24
 nod:(c.cache.map λk=>k.node.fid).Nodup
 len:(c.cache.length:Int)<=c.room
 dr:∃r,me r (aO c.cache)
 data:∀k,k∈c.cache->k.node.data.length<=20
 ent:∀k,k∈c.cache->k.node.entries.length<=6
 eup:∀k,k∈c.cache->EUp k.node.entries
 nam:∀k,k∈c.cache->NmE k.node.entries
 here:c.away=false->c.log=[]/\∀k,k∈c.cache->k.dirty=false/\k.node∈s.tree
 hst:Fa->∀k,k∈c.cache->k.dirty=false->Hst s k.node
 log:c.log.length<=20
 logS:∀r,r∈c.log->ActS r.act
 rep:c.repair.length<=B
 repS:∀r,r∈c.repair->ActS r.act
 hoards:c.hoards.length<=6
 hoardS:∀h,h∈c.hoards->HoardOK h
 clock:0<=c.clock/\c.clock<=(T:Int)
 made:0<=c.made/\c.made<=(B:Int)
 logged:0<=c.logged/\c.logged<=(B:Int)
abbrev Mz (B T:Nat) (s:Srv) (c:Cli):Prop:=CInvF True B T s c
theorem CInvF.mono {B B' T T':Nat} {s:Srv} {c:Cli} (h:CInvF Fa B T s c) (hB:B<=B') (hT:T<=T'):CInvF Fa B' T' s c:=
 { h with rep:=Yl h.rep hB,clock:=⟨h.clock.1,by have:=h.clock.2;omega⟩,made:=⟨h.made.1,by have:=h.made.2;omega⟩,logged:=⟨h.logged.1,by have:=h.logged.2;omega⟩ }
theorem CInvF.new (B T:Nat) (s:Srv) (i room:Int) (h:3<=room/\room<=24):CInvF Fa B T s (oC i room) where
 room:=h
 nod:=List.Pairwise.nil
 len:=by simp[oC];omega
 dr:=⟨λ_=>0,λn hn=>by cases hn⟩
 data:=λk hk=>by cases hk
 ent:=λk hk=>by cases hk
 eup:=λk hk=>by cases hk
 nam:=λk hk=>by cases hk
 here:=λ_=>⟨rfl,λk hk=>by cases hk⟩
 hst:=λ_ k hk=>by cases hk
 log:=by simp[oC]
 logS:=λr hr=>by cases hr
 rep:=by simp[oC]
 repS:=λr hr=>by cases hr
 hoards:=by simp[oC]
 hoardS:=λr hr=>by cases hr
 clock:=by simp[oC]
 made:=by simp[oC]
 logged:=by simp[oC]
theorem vR {r:Int->Nat} {l m:List Node} (h:me r l) (hs:∀n,n∈m->∃o,o∈l/\o.fid=n.fid/\o.entries=n.entries):me r m:=λn hn e he=>by
 obtain ⟨o,h1,h2,h3⟩:=hs n hn;rw[<-h3] at he;rw[<-h2];exact h o h1 e he
theorem oA {l:List Kept} {n:Node}:n∈aO l↔∃k,k∈l/\k.node=n:=by
 unfold aO;exact W5
structure Of (t:List Node) (l:List Kept):Prop where
 each:∀k,k∈l->∃n,n∈t/\n.fid=k.node.fid/\n.dir=k.node.dir/\n.data=k.node.data/\n.entries=k.node.entries
theorem Of.dr {t:List Node} {l:List Kept} (h:Of t l) (hf:∃r,me r t):∃r,me r (aO l):=by
 obtain ⟨r,hr⟩:=hf;refine ⟨r,vR hr λn hn=>?_⟩;obtain ⟨k,hk,rfl⟩:=oA.1 hn;obtain ⟨o,h1,h2,_,_,h5⟩:=h.each k hk;exact ⟨o,h1,h2,h5⟩
theorem Of.mem {t:List Node} {l:List Kept} (h:∀k,k∈l->k.node∈t):Of t l:=⟨λk hk=>⟨k.node,h k hk,rfl,rfl,rfl,rfl⟩⟩
structure UInvF (Fa:Prop) (B T:Nat) (u:U):Prop where
 srv:SrvOK B u.s
 cli:CInvF Fa B T u.s u.c
abbrev xn (B T:Nat) (u:U):Prop:=UInvF True B T u
theorem UInvF.mono {B B' T T':Nat} {u:U} (h:UInvF Fa B T u) (hB:B<=B') (hT:T<=T'):UInvF Fa B' T' u:=⟨h.srv.mono hB,h.cli.mono hB hT⟩
theorem qu (f w c:Int) (k:Kept):(gl f w c k).node=k.node:=by unfold gl;split<;>rfl
theorem By (f w c:Int) (k:Kept):(gl f w c k).dirty=k.dirty:=by unfold gl;split<;>rfl
theorem jF {l:List Kept} {f w c:Int} {k:Kept} (h:k∈l.map (gl f w c)):∃x,x∈l/\x.node=k.node/\x.dirty=k.dirty:=by
 obtain ⟨x,hx,rfl⟩:=W5.1 h;exact ⟨x,hx,(qu _ _ _ _).symm,(By _ _ _ _).symm⟩
theorem wq (l:List Kept) (f w c:Int):(l.map (gl f w c)).map (λk=>k.node.fid)=l.map λk=>k.node.fid:=by
 rw[Yf];exact Yj λk _=>by simp[qu]
theorem ue (l:List Kept) (f w c:Int):aO (l.map (gl f w c))=aO l:=by
 unfold aO;rw[Yf];exact Yj λk _=>by simp[qu]
theorem pz {B T:Nat} {u:U} (h:UInvF Fa B T u) (f w:Int):UInvF Fa B (T+1) (cC u f w):=by
 obtain ⟨hs,h⟩:=h;refine ⟨hs,?_⟩;exact { h with
  nod:=by show (List.map _ (u.c.cache.map _)).Nodup;rw[wq];exact h.nod
  len:=by show ((List.map _ u.c.cache).length:Int)<=_;rw[List.length_map];exact h.len
  dr:=by show ∃r,me r (aO (u.c.cache.map _));rw[ue];exact h.dr
  data:=λk hk=>by obtain ⟨x,hx,h1,_⟩:=jF hk;rw[<-h1];exact h.data x hx
  ent:=λk hk=>by obtain ⟨x,hx,h1,_⟩:=jF hk;rw[<-h1];exact h.ent x hx
  eup:=λk hk=>by obtain ⟨x,hx,h1,_⟩:=jF hk;rw[<-h1];exact h.eup x hx
  nam:=λk hk=>by obtain ⟨x,hx,h1,_⟩:=jF hk;rw[<-h1];exact h.nam x hx
  here:=λha=>⟨(h.here ha).1,λk hk=>by obtain ⟨x,hx,h1,h2⟩:=jF hk;rw[<-h1,<-h2];exact (h.here ha).2 x hx⟩
  hst:=λhF k hk hd=>by obtain ⟨x,hx,h1,h2⟩:=jF hk;rw[<-h1];exact h.hst hF x hx (h2.trans hd)
  clock:=by have:=h.clock;show 0<=u.c.clock+1/\u.c.clock+1<=((T+1:Nat):Int);omega }
theorem zM {l:List Kept} {f:Int} (h:ch l f=none):∀x,x∈l->x.node.fid≠f:=λx hx e=>by
 have:=YL.1 h x hx;simp[e] at this
theorem D6 {l:List Kept} {f:Int} {i:Nat} (h:ch l f=some i):i<l.length/\(l.getD i default).node.fid=f:=by
 obtain ⟨h1,h2,_⟩:=YK.1 h;exact ⟨h1,by rw[List.getD_eq_getElem?_getD,Wz h1];exact of_decide_eq_true h2⟩
theorem gz {room:Int}:∀(f:Nat) (l L:List Kept),b_ room f l=some L->L.Sublist l
 | 0,l,L,h=>by rw[b_] at h;injection h with h;subst h;exact List.Sublist.refl _
 | f+1,l,L,h=>by
  rw[b_] at h;split at h
  ·split at h
   ·cases h
   ·exact (gz f _ L h).trans (List.eraseIdx_sublist _ _)
  ·injection h with h;subst h;exact List.Sublist.refl _
theorem rR {room:Int} (hr:1<=room):∀(f:Nat) (l L:List Kept),b_ room f l=some L->l.length<f->(L.length:Int)<room
 | 0,l,L,h,hf=>by omega
 | f+1,l,L,h,hf=>by
  rw[b_] at h;split at h
  ·rename_i hge;split at h
   ·cases h
   ·rename_i i hw;have hi:i<l.length:=fQ l l.length i hw;exact rR hr f _ L h (by rw[List.length_eraseIdx,if_pos hi];omega)
  ·injection h with h;subst h;omega
structure Kp (l:List Kept) (room:Int) (k:Kept) (L:List Kept):Prop where
 mem:∀x,x∈L->(x∈l/\x.node.fid≠k.node.fid)\/(x.node=k.node/\x.dirty=k.dirty)
 nod:(L.map λx=>x.node.fid).Nodup
 len:(L.length:Int)<=room
 has:∃x,x∈L/\x.node=k.node/\x.dirty=k.dirty
theorem An {l:List Kept} (h:(l.map λx=>x.node.fid).Nodup) {i j:Nat} {a b:Kept} (ha:l[i]? = some a) (hb:l[j]? = some b) (hf:a.node.fid=b.node.fid):i=j:=by
 have h1:=W6.1 ha;have h2:=W6.1 hb;obtain ⟨hi,h1⟩:=h1;obtain ⟨hj,h2⟩:=h2;refine (List.getElem_inj (xs:=l.map λx=>x.node.fid) (i:=i) (j:=j) (h₀:=Q9) (h₁:=QR) h).1 ?_;rw[List.getElem_map,List.getElem_map,h1,h2,hf]
theorem He {l:List Kept} {i:Nat} {k:Kept} (hi:i<l.length) (hf:(l.getD i default).node.fid=k.node.fid):(l.set i k).map (λx=>x.node.fid)=l.map λx=>x.node.fid:=by
 rw[List.map_set];refine List.ext_getElem? λj=>?_
 rw[YM];split
 ·rename_i e;subst e;rw[W2,Wz hi];rw[List.getD_eq_getElem?_getD,Wz hi] at hf;simp only[List.length_map,hi,if_true,Option.map_some];exact congrArg some hf.symm
 ·rfl
theorem zK {l L:List Kept} {room:Int} {k:Kept} (hr:1<=room) (hn:(l.map λx=>x.node.fid).Nodup) (hl:(l.length:Int)<=room) (h:c_ l room k=some L):Kp l room k L:=by
 unfold c_ at h;cases e:ch l k.node.fid with
 | some i=>
  rw[e] at h;injection h with h
  subst h;obtain ⟨hi,hf⟩:=D6 e;refine ⟨λx hx=>?_,?_,by rw[YN];exact hl,⟨{ k with worth:=mS k.worth (l.getD i default).worth },List.mem_iff_getElem.2 ⟨i,by simpa using hi,by simp⟩,rfl,rfl⟩⟩
  ·obtain ⟨j,hj⟩:=W9 hx;rw[YM] at hj;split at hj
   ·rename_i e2;subst e2;simp only[hi,if_true,gL] at hj;exact .inr ⟨by rw[<-hj],by rw[<-hj]⟩
   ·rename_i hne;refine .inl ⟨W3 hj,λhxf=>hne ?_⟩;refine An hn (Wz hi) hj ?_;rw[List.getD_eq_getElem?_getD,Wz hi] at hf;exact hf.trans hxf.symm
  ·rw[He hi (by exact hf)];exact hn
 | none=>
  rw[e] at h;obtain ⟨L0,h0,rfl⟩:=YV.1 h;have h1:=gz _ _ _ h0;have h2:=rR hr _ _ _ h0 (Nat.lt_succ_self _);have hno:=zM e;refine ⟨λx hx=>?_,?_,by rw[List.length_append];simp;omega,⟨k,by simp,rfl,rfl⟩⟩
  ·rcases List.mem_append.1 hx with hx | hx
   ·exact .inl ⟨h1.subset hx,hno x (h1.subset hx)⟩
   ·rw[List.mem_singleton.1 hx];exact .inr ⟨rfl,rfl⟩
  ·rw[List.map_append,List.nodup_append];refine ⟨hn.sublist (h1.map _),by simp,λa ha b hb=>?_⟩;obtain ⟨x,hx,rfl⟩:=W5.1 ha;simp only[List.map_cons,List.map_nil,List.mem_singleton] at hb;rw[hb];exact hno x (h1.subset hx)
theorem CInvF.within {B T:Nat} {s:Srv} {c:Cli} (h:CInvF Fa B T s c) (hh:Hist s.past s.tree) {L:List Kept} (hn:(L.map λk=>k.node.fid).Nodup) (hl:(L.length:Int)<=c.room) (hm:∀k,k∈L->k.dirty=false/\k.node∈s.tree):CInvF Fa B T s { c with cache:=L }:=
 { h with
  nod:=hn
  len:=hl
  dr:=(Of.mem λk hk=>(hm k hk).2).dr hh.bR.dr
  data:=λk hk=>hh.bR.data _ (hm k hk).2
  ent:=λk hk=>hh.bR.ent _ (hm k hk).2
  eup:=λk hk=>(hh.whole.loc _ (hm k hk).2).eup
  nam:=λk hk=>hh.whole.nm (hm k hk).2
  here:=λha=>⟨(h.here ha).1,hm⟩
  hst:=λ_ k hk _=>Hst.at hh (hm k hk).2 }
theorem D1 {B T:Nat} {u:U} (h:UInvF Fa B T u) (ha:u.c.away=false) {n:Node} (hn:n∈u.s.tree) (w c:Int):UInvF Fa B T (gQ u ⟨n,false,w,c⟩):=by
 unfold gQ;split
 ·rename_i l hl;have hk:=zK (by have:=h.cli.room;omega) h.cli.nod h.cli.len hl;refine ⟨h.srv,h.cli.within h.srv.hist hk.nod hk.len λx hx=>?_⟩
  rcases hk.mem x hx with ⟨h1,_⟩ | ⟨h1,h2⟩
  ·exact (h.cli.here ha).2 x h1
  ·exact ⟨h2,by rw[h1];exact hn⟩
 ·exact h
theorem cg {B T:Nat} {u:U} (h:UInvF Fa B T u) (f w:Int):UInvF Fa B (T+1) (bd u f w).u:=by
 unfold bd;split
 ·exact pz h f w
 ·split
  ·exact pz h f w
  ·rename_i ha;split
   ·exact pz h f w
   ·rename_i n hn;exact D1 (pz h f w) (show u.c.away=false by simpa using ha) ((ZO h.srv.hist.bR.up).1 hn).1 w _
theorem C2 {B:Nat} (w:Int):∀(l:List (List UInt8)) (T:Nat) (g:Got),UInvF Fa B T g.u->UInvF Fa B (T+l.length) (goR w l g).u
 | [],T,g,h=>by unfold goR;split<;>exact h
 | s::r,T,g,h=>by
  unfold goR;have hm:UInvF Fa B (T+(s::r).length) g.u:=h.mono (W7 _) w8;split
  ·exact hm
  ·split
   ·exact hm
   ·split
    ·exact hm
    ·rename_i f _;have:=C2 w r (T+1) (bd g.u f w) (cg h f w)
     rwa [show T+1+r.length=T+(s::r).length by simp;omega] at this
theorem lC {B T:Nat} {u:U} (h:UInvF Fa B T u) (l:List (List UInt8)) (w:Int):UInvF Fa B (T+1+l.length) (goU u l w).u:=C2 w l (T+1) _ (cg h 0 w)
theorem cm (s:List UInt8):(ae s).1.length<=41/\∀x,x∈(ae s).1->x.length<=40/\cH x=true:=by
 unfold ae;split
 ·simp
 ·rename_i h1;split
  ·simp
  ·split
   ·simp
   ·split
    ·rename_i h4;have h2:=ss 47 (s.drop 1);have h5:(s.drop 1).length=s.length-1:=YX;refine ⟨by show (du 47 (s.drop 1)).length<=41;omega,λx hx=>⟨?_,List.all_eq_true.1 h4 x hx⟩⟩;have h3:=nw 47 (s.drop 1) x hx;omega
    ·simp
theorem cK {B T:Nat} {u:U} (h:UInvF Fa B T u) (path:List UInt8):UInvF Fa B (T+42) (ah u path).u:=by
 unfold ah;split
 ·exact h.mono (W7 _) z8
 ·split
  ·exact h.mono (W7 _) z8
  ·refine (lC h _ 0).mono (W7 _) ?_;have:=(cm path).1;simp only[YA];omega
theorem bW (u:U) (path:List UInt8):(ah u path).name.length<=40:=by
 unfold ah;split
 ·simp
 ·split
  ·simp
  ·rename_i h;refine ((cm path).2 _ ?_).1;have hi:(ae path).1.length-1<(ae path).1.length:=by omega
   rw[List.getD_eq_getElem?_getD,Wz hi];exact YW hi
variable {Fa:Prop}
theorem oq {l:List Node} (h:(l.map (·.fid)).Nodup):∀i,i<l.length->∀j,j<i->gO l j≠gO l i:=λi hi j hj e=>by
 unfold gO at e;rw[List.getD_eq_getElem?_getD,List.getD_eq_getElem?_getD,Wz hi,Wz (show j<l.length by omega)] at e;have:=(List.getElem_inj (xs:=l.map (·.fid)) (i:=j) (j:=i) (h₀:=k6) (h₁:=Q9) h).1 (by rw[List.getElem_map,List.getElem_map];exact e);omega
theorem ki (l:List Kept):(aO l).map (·.fid)=l.map λk=>k.node.fid:=by unfold aO;rw[Yf];rfl
theorem oP {l:List Kept} (h:(l.map λk=>k.node.fid).Nodup):sR l=true:=by
 refine decide_eq_true λi hi j hj=>?_
 have:=oq (l:=aO l) (by rw[ki];exact h) i (by simpa[aO] using hi) j hj;have hf:∀i,i<l.length->gO (aO l) i=zg l i:=λi hi=>by
  unfold gO zg aO;rw[List.getD_eq_getElem?_getD,List.getD_eq_getElem?_getD,W2,Wz hi];rfl
 rwa [hf j z8,hf i hi] at this
theorem fu {c:Cli} (h:(c.cache.map λk=>k.node.fid).Nodup) (x:Node):x∈cP c↔∃k,k∈c.cache/\k.node=x:=by
 unfold cP;rw[xc _ (oq (by rw[ki];exact h)),oA]
theorem jV (c:Cli):Up (cP c):=oK _
theorem E6 {c:Cli} (h:(c.cache.map λk=>k.node.fid).Nodup):(cP c).length=c.cache.length:=by
 unfold cP;rw[xb _ (oq (by rw[ki];exact h))];simp[aO]
theorem CInvF.bR {B T:Nat} {s:Srv} {c:Cli} (h:CInvF Fa B T s c):Good (cP c) where
 up:=jV c
 dr:=by
  obtain ⟨r,hr⟩:=h.dr;exact ⟨r,vR hr λn hn=>by
   obtain ⟨k,hk,rfl⟩:=(fu h.nod n).1 hn;exact ⟨k.node,oA.2 ⟨k,hk,rfl⟩,rfl,rfl⟩⟩
 len:=by rw[E6 h.nod];have:=h.len;have:=h.room;omega
 data:=λn hn=>by obtain ⟨k,hk,rfl⟩:=(fu h.nod n).1 hn;exact h.data k hk
 ent:=λn hn=>by obtain ⟨k,hk,rfl⟩:=(fu h.nod n).1 hn;exact h.ent k hk
theorem CInvF.ri {B T:Nat} {s:Srv} {c:Cli} (h:CInvF Fa B T s c):Ri (cP c):=⟨jV c,λn hn=>by
 obtain ⟨k,hk,rfl⟩:=(fu h.nod n).1 hn;exact h.eup k hk⟩
theorem CInvF.nmT {B T:Nat} {s:Srv} {c:Cli} (h:CInvF Fa B T s c):Nm (cP c):=⟨jV c,λn hn=>by
 obtain ⟨k,hk,rfl⟩:=(fu h.nod n).1 hn;exact h.nam k hk⟩
theorem ow {room clk:Int} (hr:1<=room) {was:List Node} {a:Act}:∀(N:List Node) {l L:List Kept},(l.map λx=>x.node.fid).Nodup->(l.length:Int)<=room->cy room clk was a N l=some L ->
  (L.map λx=>x.node.fid).Nodup/\(L.length:Int)<=room/\∀x,x∈L->(x∈l/\∀n,n∈N->aT was a n=true->n.fid≠x.node.fid)\/∃n,n∈N/\aT was a n=true/\x.node=(gi was clk n).node/\x.dirty=true
 | [],l,L,hn,hl,h=>by
  rw[cy] at h;injection h with h
  subst h;exact ⟨hn,hl,λx hx=>.inl ⟨hx,λn hn=>by cases hn⟩⟩
 | n::r,l,L,hn,hl,h=>by
  rw[cy] at h;split at h
  ·rename_i hc;split at h
   ·cases h
   ·rename_i l' hk;have hp:=zK hr hn hl hk;obtain ⟨h1,h2,h3⟩:=ow hr r hp.nod hp.len h;refine ⟨h1,h2,λx hx=>?_⟩
    rcases h3 x hx with ⟨h4,h5⟩ | ⟨m,h4,h5⟩
    ·rcases hp.mem x h4 with ⟨h6,h7⟩ | ⟨h6,h7⟩
     ·refine .inl ⟨h6,λm hm hcm=>?_⟩
      rcases List.mem_cons.1 hm with rfl | hm
      ·exact λe=>h7 e.symm
      ·exact h5 m hm hcm
     ·exact .inr ⟨n,List.mem_cons_self,hc,h6,h7⟩
    ·exact .inr ⟨m,List.mem_cons_of_mem _ h4,h5⟩
  ·rename_i hc;obtain ⟨h1,h2,h3⟩:=ow hr r hn hl h;refine ⟨h1,h2,λx hx=>?_⟩
   rcases h3 x hx with ⟨h4,h5⟩ | ⟨m,h4,h5⟩
   ·refine .inl ⟨h4,λm hm hcm=>?_⟩
    rcases List.mem_cons.1 hm with rfl | hm
    ·exact absurd hcm hc
    ·exact h5 m hm hcm
   ·exact .inr ⟨m,List.mem_cons_of_mem _ h4,h5⟩
theorem Bi {l L:List Rec} {r:Rec} (hl:l.length<=20) (h:dt l r=some L):L.length<=20/\∀x,x∈L->x∈l\/x=r:=by
 unfold dt at h;split at h
 ·injection h with h
  subst h;exact ⟨Yl (W8 _ _) hl,λx hx=>.inl (YI.1 hx).1⟩
 ·split at h
  ·cases h
  ·rename_i hlt;injection h with h
   subst h;refine ⟨by simp;omega,λx hx=>?_⟩
   rcases List.mem_append.1 hx with hx | hx
   ·exact .inl ((je l r).subset hx)
   ·exact .inr (List.mem_singleton.1 hx)
theorem AK {a b:Node} (h:dm false a b=true):a.fid=b.fid/\a.dir=b.dir/\a.data=b.data/\a.entries=b.entries:=by
 unfold dm at h;simp only[Bool.and_eq_true,beq_iff_eq,decide_eq_true_eq] at h;exact ⟨h.1.1.1.1,h.1.1.1.2,h.1.1.2,h.1.2⟩
theorem yO {was:List Node} {a:Act} {n:Node} (h:aT was a n≠true):∃o,ak was n.fid=some o/\dm false o n=true:=by
 unfold aT at h;cases e:ak was n.fid with
 | none=>rw[e] at h;simp at h
 | some o=>
  rw[e] at h;refine ⟨o,rfl,?_⟩;simp only[Bool.not_eq_true,Bool.not_eq_false',Bool.and_eq_true] at h;exact h.1
theorem B2 {c:Cli} {a:Act} (h:ActS a):ActS (eO c a):=by unfold eO;split;exact ⟨h.name,h.toName,h.data⟩;exact h
theorem LL {B T:Nat} {s:Srv} {c:Cli} (h:CInvF Fa B T s c) {a:Act} (he:aF (cP c) (eO c a)=0) {L:List Kept} (hL:Db c a=some L) :
  let L':=L.filter λk=>bf (lO c a) k.node.fid
  (L'.map λx=>x.node.fid).Nodup/\(L'.length:Int)<=c.room/\Of (lO c a) L'/\∀x,x∈L'->x.dirty=false->x∈c.cache:=by
 intro L';obtain ⟨h1,h2,h3⟩:=ow (by have:=h.room;omega) _ h.nod h.len hL;have hg:=fJ h.bR (eO c a) 0 he;refine ⟨h1.sublist ((Yw).map _),?_,⟨λx hx=>?_⟩,λx hx hd=>?_⟩
 ·have:=W8 (λk:Kept=>bf (lO c a) k.node.fid) L
  show ((L.filter _).length:Int)<=_
  omega
 ·obtain ⟨hx,hat⟩:=YI.1 hx
  rcases h3 x hx with ⟨h4,h5⟩ | ⟨n,h4,h5,h6,h7⟩
  ·rw[cS] at hat;obtain ⟨m,hm⟩:=Yd.1 hat;obtain ⟨hm,hmf⟩:=(ZO hg.up).1 hm;have hno:aT (cP c) (eO c a) m≠true:=λhc=>h5 m hm hc hmf
   obtain ⟨o,ho,hs⟩:=yO hno;have hx2:ak (cP c) m.fid=some x.node:=(ZO (jV c)).2 ⟨(fu h.nod _).2 ⟨x,h4,rfl⟩,hmf.symm⟩;rw[hx2] at ho;injection ho with ho
   subst ho;obtain ⟨k1,k2,k3,k4⟩:=AK hs;exact ⟨m,hm,hmf,k2.symm,k3.symm,k4.symm⟩
  ·exact ⟨n,h4,by rw[h6];rfl,by rw[h6];rfl,by rw[h6];rfl,by rw[h6];rfl⟩
 ·obtain ⟨hx,_⟩:=YI.1 hx
  rcases h3 x hx with ⟨h4,_⟩ | ⟨n,_,_,_,h7⟩
  ·exact h4
  ·rw[hd] at h7;cases h7
theorem Jt {B T:Nat} {u:U} (h:UInvF Fa B T u) (ha:u.c.away=true) {a:Act} (hs:ActS a) (seen:Int):UInvF Fa (B+1) T (jL u a seen).u:=by
 have hm:=h.mono (Nat.le_succ B) (W7 T);unfold jL;split
 ·exact hm
 ·rename_i he;have he:aF (cP u.c) (eO u.c a)=0:=by omega
  split
  ·exact hm
  ·rename_i log hlog;split
   ·exact hm
   ·rename_i L hL;obtain ⟨h1,h2,h3,h4⟩:=LL h.cli he hL;have hg:=fJ h.cli.bR (eO u.c a) 0 he;have hri:Ri (lO u.c a):=by unfold lO;rw[<-h.cli.bR.aK];exact h.cli.ri.apply _ _
    have hnm:Nm (lO u.c a):=by unfold lO;rw[<-h.cli.bR.aK];exact h.cli.nmT.apply _ _
    obtain ⟨g1,g2⟩:=Bi h.cli.log hlog;refine ⟨hm.srv,?_⟩;have hc:=hm.cli;exact { hc with
     nod:=h1
     len:=h2
     dr:=h3.dr hg.dr
     data:=λk hk=>by obtain ⟨n,k1,_,_,k2,_⟩:=h3.each k hk;rw[<-k2];exact hg.data n k1
     ent:=λk hk=>by obtain ⟨n,k1,_,_,_,k2⟩:=h3.each k hk;rw[<-k2];exact hg.ent n k1
     eup:=λk hk=>by obtain ⟨n,k1,_,_,_,k2⟩:=h3.each k hk;rw[<-k2];exact hri.eup n k1
     nam:=λk hk=>by obtain ⟨n,k1,_,_,_,k2⟩:=h3.each k hk;rw[<-k2];exact hnm.nm n k1
     here:=λh0=>by simp only[ha] at h0;cases h0
     hst:=λhF k hk hd=>h.cli.hst hF k (h4 k hk hd) hd
     log:=g1
     logS:=λr hr=>by
      rcases g2 r hr with h5 | rfl
      ·exact h.cli.logS r h5
      ·exact B2 hs
     made:=by have:=h.cli.made;show 0<=(if aR a=true then u.c.made+1 else u.c.made)/\(if aR a=true then u.c.made+1 else u.c.made)<=((B+1:Nat):Int);split<;>omega
     logged:=by have:=h.cli.logged;show 0<=u.c.logged+1/\u.c.logged+1<=((B+1:Nat):Int);omega }
theorem CInvF.grow {B B' T:Nat} {s s':Srv} {c:Cli} (h:CInvF Fa B T s c) (hB:B<=B') (hh:Hist s.past s.tree) (hg:Grown s s'):CInvF Fa B' T s' (bq s'.tree c):=by
 have hm:=h.mono hB (W7 T);unfold bq;split
 ·rename_i ha;exact { hm with here:=λh0=>(by rw[ha] at h0;cases h0),hst:=λhF k hk hd=>(h.hst hF k hk hd).grow hh hg }
 ·rename_i ha;have ha:c.away=false:=by simpa using ha
  unfold mH;have hsub:(c.cache.filter λk=>!bN s'.tree k).Sublist c.cache:=Yw;have hin:∀k,k∈c.cache.filter (λk=>!bN s'.tree k)->k.dirty=false/\k.node∈s'.tree:=λk hk=>by
   obtain ⟨hk,hst⟩:=YI.1 hk;have hd:=((h.here ha).2 k hk).1;exact ⟨hd,xf hg.hist ((Hst.at hh ((h.here ha).2 k hk).2).grow hh hg) hd (by simpa using hst)⟩
  exact { hm with
   nod:=h.nod.sublist (hsub.map _)
   len:=by have:=hsub.length_le;have:=h.len;show ((c.cache.filter _).length:Int)<=c.room;omega
   dr:=(Of.mem λk hk=>(hin k hk).2).dr hg.hist.bR.dr
   data:=λk hk=>h.data k (hsub.subset hk)
   ent:=λk hk=>h.ent k (hsub.subset hk)
   eup:=λk hk=>h.eup k (hsub.subset hk)
   nam:=λk hk=>h.nam k (hsub.subset hk)
   here:=λ_=>⟨(h.here ha).1,hin⟩
   hst:=λhF k hk hd=>(h.hst hF k (hsub.subset hk) hd).grow hh hg }
theorem IK {s:Srv} {a:Act} (h:ActFit a):ActFit (doA s a):=by unfold doA;split;exact ⟨h.name,h.toName,h.data⟩;exact h
theorem zr {s:Srv} (h:Hist s.past s.tree) (c:Int) {a:Act} (ha:ActFit a) (he:doE s a=0):Grown s (doS s c a):=⟨Hist.snoc c _ h (IK ha) he,_,rfl⟩
theorem tX {s:Srv} (h:Hist s.past s.tree) (c:Int) {log:List Rec} (hl:∀r,r∈log->ActFit r.act):Grown s (jU s c log):=⟨(JInv.pt h c s.next log hl).hist,_,rfl⟩
theorem F9 {B T:Nat} {u:U} (h:UInvF Fa B T u) (ha:u.c.away=false) {a:Act} (hs:ActS a):UInvF Fa (B+1) T (fU u a).u:=by
 unfold fU;split
 ·rename_i he;have hg:=zr h.srv.hist u.c.number hs.fit he;have:=h.cli.grow (Nat.le_succ B) h.srv.hist hg;unfold bq at this;rw[if_neg Zc] at this;exact ⟨h.srv.step u.c.number hs.fit he,this⟩
 ·exact h.mono (Nat.le_succ B) (W7 T)
theorem j_ {B T:Nat} {u:U} (h:UInvF Fa B T u) {a:Act} (hs:ActS a) (seen:Int):UInvF Fa (B+1) T (bU u a seen).u:=by
 unfold bU;split
 ·rename_i ha;exact Jt h ha hs seen
 ·rename_i ha;exact F9 h (by simpa using ha) hs
theorem Dc {B T:Nat} {g:Got} (h:UInvF Fa B T g.u) {data:List UInt8} (hd:data.length<=20):UInvF Fa (B+1) T (gb g data).u:=by
 unfold gb;split
 ·exact h.mono (Nat.le_succ B) (W7 T)
 ·exact j_ h ⟨by simp[cq],by simp[cq],hd⟩ _
theorem Fh {B T:Nat} {u:U} (h:UInvF Fa B T u) (path data:List UInt8):UInvF Fa (B+2) (T+100) (bI u path data).u:=by
 have hd:=cK h path;have hn:=bW u path;unfold bI;split
 ·exact hd.mono z8 z8
 ·split
  ·exact hd.mono z8 z8
  ·rename_i hdl;split
   ·rename_i f _;exact (Dc (cg hd f 0) z8).mono z8 z8
   ·have hm:=j_ hd (a:=cL (ah u path).n.fid (ah u path).name) ⟨hn,by simp[cL],by simp[cL]⟩ (-1);split
    ·exact hm.mono z8 z8
    ·have:=(cm path).1;exact (Dc (lC hm (ae path).1 0) z8).mono z8 z8
theorem Eh {B T:Nat} {u:U} (h:UInvF Fa B T u) (path:List UInt8):UInvF Fa (B+2) (T+100) (d_ u path).u:=by
 have hd:=cK h path;have hn:=bW u path;unfold d_;split
 ·exact hd.mono z8 z8
 ·exact (j_ hd (a:=iS (ah u path).n.fid (ah u path).name) ⟨hn,by simp[iS],by simp[iS]⟩ (-1)).mono z8 z8
theorem so {B T:Nat} {u:U} (h:UInvF Fa B T u) (path:List UInt8):UInvF Fa B (T+43) (atU u path).u/\(atU u path).name.length<=40:=by
 have hd:=cK h path;have hn:=bW u path;unfold atU;split
 ·exact ⟨hd.mono z8 z8,by simp⟩
 ·split
  ·exact ⟨hd.mono z8 z8,by simp⟩
  ·rename_i f _;exact ⟨cg hd f 0,hn⟩
theorem B6 {B T:Nat} {u:U} (h:UInvF Fa B T u) (path:List UInt8):UInvF Fa (B+2) (T+100) (bu u path).u:=by
 obtain ⟨hd,hn⟩:=so h path;unfold bu;split
 ·exact hd.mono z8 z8
 ·exact (j_ hd (a:=dn (atU u path).n.fid (atU u path).d (atU u path).name) ⟨hn,by simp[dn],by simp[dn]⟩ _).mono z8 z8
theorem GC {B T:Nat} {u:U} (h:UInvF Fa B T u) (path to:List UInt8):UInvF Fa (B+2) (T+100) (cN u path to).u:=by
 obtain ⟨hd,hn⟩:=so h path;unfold cN;split
 ·exact hd.mono z8 z8
 ·have h2:=cK hd to;have hn2:=bW (atU u path).u to;split
  ·exact h2.mono z8 z8
  ·exact (j_ h2 (a:=eL (atU u path).n.fid (atU u path).d (atU u path).name (ah (atU u path).u to).n.fid (ah (atU u path).u to).name) ⟨hn,hn2,by simp[eL]⟩ _).mono z8 z8
theorem pL:∀(l:List Rec) (vs:List Verdict),(∀r,r∈bY l vs->r∈l)/\(bY l vs).length<=l.length
 | [],vs=>by cases vs<;>exact ⟨λr hr=>Wr,W7 _⟩
 | r::l,[]=>⟨λr hr=>Wr,Yp _⟩
 | r::l,v::vs=>by
  obtain ⟨h1,h2⟩:=pL l vs;unfold bY;split
  ·exact ⟨λx hx=>List.mem_cons_of_mem _ (h1 x hx),by simp;omega⟩
  ·refine ⟨λx hx=>?_,by simp;omega⟩
   rcases List.mem_cons.1 hx with rfl | hx
   ·exact List.mem_cons_self
   ·exact List.mem_cons_of_mem _ (h1 x hx)
theorem Fw {B T:Nat} {u:U} (h:UInvF Fa B T u) (hF:Fa):UInvF Fa (B+20) T (gh u):=by
 have hlf:∀r,r∈u.c.log->ActFit r.act:=λr hr=>(h.cli.logS r hr).fit
 have hg:=tX h.srv.hist u.c.number hlf;have hl:=h.cli.log;have hs:=(h.srv.take u.c.number hlf).mono (show B+u.c.log.length<=B+20 by omega);obtain ⟨r1,r2⟩:=pL u.c.log (aw u);have hc:=(h.cli).mono (show B<=B+20 by omega) (W7 T);have hsub:((u.c.cache.filter λk=>!k.dirty).filter λk=>!bN (il u).tree k).Sublist u.c.cache:=Yw.trans Yw;have hin:∀k,k∈(u.c.cache.filter λk=>!k.dirty).filter (λk=>!bN (il u).tree k)->k.dirty=false/\k.node∈(il u).tree:=λk hk=>by
  obtain ⟨hk,hst⟩:=YI.1 hk;obtain ⟨hk,hd⟩:=YI.1 hk;have hd:k.dirty=false:=by simpa using hd
  exact ⟨hd,xf hg.hist ((h.cli.hst hF k hk hd).grow h.srv.hist hg) hd (show bN (il u).tree k=false by simpa using hst)⟩
 refine ⟨hs,?_⟩;exact { hc with
  nod:=h.cli.nod.sublist (hsub.map _)
  len:=by have:=hsub.length_le;have:=h.cli.len;show ((List.filter _ (u.c.cache.filter _)).length:Int)<=u.c.room;omega
  dr:=(Of.mem λk hk=>(hin k hk).2).dr hg.hist.bR.dr
  data:=λk hk=>h.cli.data k (hsub.subset hk)
  ent:=λk hk=>h.cli.ent k (hsub.subset hk)
  eup:=λk hk=>h.cli.eup k (hsub.subset hk)
  nam:=λk hk=>h.cli.nam k (hsub.subset hk)
  here:=λ_=>⟨rfl,hin⟩
  hst:=λ_ k hk _=>Hst.at hg.hist (hin k hk).2
  log:=Yp _
  logS:=λr hr=>by cases hr
  rep:=by have:=h.cli.rep;show (u.c.repair++_).length<=_;rw[List.length_append];omega
  repS:=λr hr=>by
   rcases List.mem_append.1 hr with hr | hr
   ·exact h.cli.repS r hr
   ·exact h.cli.logS r (r1 r hr) }
theorem yx {s:List UInt8} (h:(ae s).2=0):s.length<=40:=by
 unfold ae at h;split at h
 ·cases h
 ·omega
theorem DW {B T:Nat} {u:U} (h:UInvF Fa B T u) (path:List UInt8) (w:Int):UInvF Fa B T (cX u path w).u:=by
 unfold cX;split
 ·exact h
 ·rename_i hs;have hs:=yx (s:=path) z8;split
  ·exact h
  ·rename_i hw;split
   ·exact h
   ·rename_i hm;have hfl:=W8 (λh:Hoard=>!(h.path==path)) u.c.hoards;have h6:=h.cli.hoards;refine ⟨h.srv,?_⟩;have hc:=h.cli;exact { hc with
     hoards:=by
      show (if 0<w then cx u.c.hoards path++[⟨path,w⟩] else cx u.c.hoards path).length<=6
      split
      ·rename_i h0;have:¬(cx u.c.hoards path).length≥6:=λh1=>hm ⟨h0,h1⟩
       simp;omega
      ·exact Yl hfl h6
     hoardS:=λx hx=>by
      have hx:x∈(if 0<w then cx u.c.hoards path++[⟨path,w⟩] else cx u.c.hoards path):=hx;split at hx
      ·rcases List.mem_append.1 hx with hx | hx
       ·exact h.cli.hoardS x (YI.1 hx).1
       ·rw[List.mem_singleton.1 hx];exact ⟨hs,by show 1<=w/\w<=100;omega⟩
      ·exact h.cli.hoardS x (YI.1 hx).1 }
theorem uY {B T:Nat} {g:GotV} (h:UInvF Fa B T g.u) (x:Hoard):UInvF Fa B (T+42) (eH g x).u:=by
 have:=(cm x.path).1;exact (lC h (ae x.path).1 x.worth).mono (W7 _) z8
theorem uX {B:Nat}:∀(l:List Hoard) (T:Nat) (g:GotV),UInvF Fa B T g.u->UInvF Fa B (T+42*l.length) (l.foldl eH g).u
 | [],T,g,h=>h
 | x::l,T,g,h=>by
  have:=uX l (T+42) (eH g x) (uY h x);rw[show T+42+42*l.length=T+42*(x::l).length by simp;omega] at this;exact this
theorem B1 (l:List Hoard):∀w,(bA l w).length<=l.length:=λw=>by
 have key:∀w,(bA l w).length+(l.filter λh=>decide (h.worth>((w:Nat):Int))).length<=l.length:=λw=>by
  induction w with
  | zero=>rw[bA,List.length_nil,Yc];exact W8 _ _
  | succ w ih=>
   rw[bA,List.length_append];have h1:∀m:List Hoard,(m.filter λh=>h.worth==((w+1:Nat):Int)).length+(m.filter λh=>decide (h.worth>((w+1:Nat):Int))).length<=(m.filter λh=>decide (h.worth>((w:Nat):Int))).length:=λm=>by
    induction m with
    | nil=>simp
    | cons x m ihm=>
     simp only[List.filter_cons]
     by_cases e1:x.worth=((w+1:Nat):Int)
     ·rw[if_pos (by simpa using e1),if_neg k6,if_pos k6];simp only[List.length_cons];omega
     ·rw[if_neg (by simpa using e1)]
      by_cases e2:x.worth>((w+1:Nat):Int)
      ·rw[if_pos Qv,if_pos k6];simp only[List.length_cons];omega
      ·rw[if_neg Qv,if_neg (by simp only[decide_eq_true_eq];omega)];exact ihm
   have:=h1 l;omega
 have:=key w;omega
theorem Fc {B T:Nat} {u:U} (h:UInvF Fa B T u):UInvF Fa B (T+252) (fb u).u:=by
 have:=B1 u.c.hoards 100;have h6:=h.cli.hoards;exact (uX (bA u.c.hoards 100) T ⟨0,u⟩ h).mono (W7 _) z8
theorem E4 {B T:Nat} {u:U} (h:UInvF Fa B T u) (x:Step) (hF:x.kind=8->Fa):UInvF Fa (B+20) (T+300) (al u x).u:=by
 have hm:=h.mono (show B<=B+20 by omega) (show T<=T+300 by omega);unfold al;split
 ·split
  ·exact hm
  ·have:=(cm x.path).1;exact (lC h (ae x.path).1 0).mono z8 z8
 ·split
  ·exact (Fh h x.path x.data).mono z8 z8
  ·split
   ·exact (Eh h x.path).mono z8 z8
   ·split
    ·exact (B6 h x.path).mono z8 z8
    ·split
     ·exact (GC h x.path x.toPath).mono z8 z8
     ·split
      ·exact ⟨hm.srv,{ hm.cli with here:=λh0=>by cases h0 }⟩
      ·split
       ·rename_i h8;exact (Fw h (hF h8)).mono z8 z8
       ·split
        ·exact (DW h x.path x.n).mono z8 z8
        ·split
         ·split
          ·exact hm
          ·exact (Fc h).mono z8 z8
         ·exact hm
theorem nr {B T:Nat} {u:U} (h:xn B T u) (x:Step):xn (B+20) (T+300) (al u x).u:=E4 h x λ_=>trivial
theorem I3 (u:U) (k:Kept):(gQ u k).s=u.s:=by unfold gQ;split<;>rfl
theorem tT (u:U) (f w:Int):(bd u f w).u.s=u.s:=by
 unfold bd;split
 ·rfl
 ·split
  ·rfl
  ·split
   ·rfl
   ·exact I3 _ _
theorem KY (w:Int):∀(l:List (List UInt8)) (g:Got),(goR w l g).u.s=g.u.s
 | [],g=>by unfold goR;split<;>rfl
 | s::r,g=>by
  unfold goR;split
  ·rfl
  ·split
   ·rfl
   ·split
    ·rfl
    ·rw[KY w r,tT]
theorem C4 (u:U) (l:List (List UInt8)) (w:Int):(goU u l w).u.s=u.s:=by unfold goU;rw[KY,tT]
theorem iF (u:U) (path:List UInt8):(ah u path).u.s=u.s:=by
 unfold ah;split
 ·rfl
 ·split
  ·rfl
  ·exact C4 _ _ _
theorem yK (u:U) (path:List UInt8):(atU u path).u.s=u.s:=by
 unfold atU;split
 ·exact iF _ _
 ·split
  ·exact iF _ _
  ·show (bd _ _ _).u.s=_;rw[tT,iF]
theorem A8:∀(l:List Hoard) (g:GotV),(l.foldl eH g).u.s=g.u.s
 | [],_=>rfl
 | x::l,g=>by rw[List.foldl_cons,A8 l];exact C4 _ _ _
theorem IV (u:U) (f w:Int):(bd u f w).u.c.number=u.c.number/\(bd u f w).u.c.room=u.c.room/\(bd u f w).u.c.away=u.c.away/\(bd u f w).u.c.log=u.c.log/\(bd u f w).u.c.repair=u.c.repair/\(bd u f w).u.c.hoards=u.c.hoards/\(bd u f w).u.c.made=u.c.made/\(bd u f w).u.c.logged=u.c.logged:=by
 unfold bd;split
 ·exact ⟨rfl,rfl,rfl,rfl,rfl,rfl,rfl,rfl⟩
 ·split
  ·exact ⟨rfl,rfl,rfl,rfl,rfl,rfl,rfl,rfl⟩
  ·split
   ·exact ⟨rfl,rfl,rfl,rfl,rfl,rfl,rfl,rfl⟩
   ·show (gQ _ _).c.number=_/\_
    unfold gQ;split<;>exact ⟨rfl,rfl,rfl,rfl,rfl,rfl,rfl,rfl⟩
structure Idle (u u':U):Prop where
 s:u'.s=u.s
 number:u'.c.number=u.c.number
 room:u'.c.room=u.c.room
 away:u'.c.away=u.c.away
 log:u'.c.log=u.c.log
 rep:u'.c.repair=u.c.repair
 hoards:u'.c.hoards=u.c.hoards
 made:u'.c.made=u.c.made
 logged:u'.c.logged=u.c.logged
theorem Idle.refl (u:U):Idle u u:=⟨rfl,rfl,rfl,rfl,rfl,rfl,rfl,rfl,rfl⟩
theorem Idle.trans {a b c:U} (h:Idle a b) (k:Idle b c):Idle a c:=⟨k.s.trans h.s,k.number.trans h.number,k.room.trans h.room,k.away.trans h.away,k.log.trans h.log,k.rep.trans h.rep,k.hoards.trans h.hoards,k.made.trans h.made,k.logged.trans h.logged⟩
theorem fj (u:U) (f w:Int):Idle u (bd u f w).u:=by
 obtain ⟨h1,h2,h3,h4,h5,h6,h7,h8⟩:=IV u f w;exact ⟨tT u f w,h1,h2,h3,h4,h5,h6,h7,h8⟩
theorem zp (w:Int):∀(l:List (List UInt8)) (g:Got),Idle g.u (goR w l g).u
 | [],g=>by unfold goR;split<;>exact Idle.refl _
 | s::r,g=>by
  unfold goR;split
  ·exact Idle.refl _
  ·split
   ·exact Idle.refl _
   ·split
    ·exact Idle.refl _
    ·exact (fj _ _ _).trans (zp w r _)
theorem di (u:U) (l:List (List UInt8)) (w:Int):Idle u (goU u l w).u:=(fj u 0 w).trans (zp w l _)
theorem bz (u:U) (path:List UInt8):Idle u (ah u path).u:=by
 unfold ah;split
 ·exact Idle.refl _
 ·split
  ·exact Idle.refl _
  ·exact di _ _ _
theorem ee (u:U) (path:List UInt8):Idle u (atU u path).u:=by
 unfold atU;split
 ·exact bz _ _
 ·split
  ·exact bz _ _
  ·exact (bz _ _).trans (fj _ _ _)
theorem fZ:∀(l:List Hoard) (g:GotV),Idle g.u (l.foldl eH g).u
 | [],_=>Idle.refl _
 | x::l,g=>(di g.u (ae x.path).1 x.worth).trans (fZ l (eH g x))
theorem K5 (u:U) (a:Act) (seen:Int):(jL u a seen).u.s=u.s:=by
 unfold jL;split
 ·rfl
 ·split
  ·rfl
  ·split<;>rfl
theorem kE {B T:Nat} {u:U} (h:xn B T u) {a:Act} (hs:ActS a) (seen:Int):Grown u.s (bU u a seen).u.s:=by
 unfold bU;split
 ·rw[K5];exact Grown.refl h.srv.hist
 ·unfold fU;split
  ·rename_i he;exact zr h.srv.hist u.c.number hs.fit he
  ·exact Grown.refl h.srv.hist
theorem grown_of {u u' v:U} (hi:u'.s=u.s) (h:Grown u'.s v.s):Grown u.s v.s:=by rw[hi] at h;exact h
theorem wI {B T:Nat} {g:Got} (h:xn B T g.u) {data:List UInt8} (hd:data.length<=20):Grown g.u.s (gb g data).u.s:=by
 unfold gb;split
 ·exact Grown.refl h.srv.hist
 ·exact kE h ⟨by simp[cq],by simp[cq],hd⟩ _
theorem eZ {B T:Nat} {u v:U} (h:xn B T u) (hs:v.s=u.s):Grown u.s v.s:=by rw[hs];exact Grown.refl h.srv.hist
theorem Bh {B T:Nat} {u:U} (h:xn B T u) (path data:List UInt8):Grown u.s (bI u path data).u.s:=by
 have hd:=cK h path;have hn:=bW u path;unfold bI;split
 ·exact eZ h (iF u path)
 ·split
  ·exact eZ h (iF u path)
  ·split
   ·rename_i f _;exact grown_of (u':=(bd (ah u path).u f 0).u) (by rw[tT,iF]) (wI (cg hd f 0) z8)
   ·have ha:ActS (cL (ah u path).n.fid (ah u path).name):=⟨hn,by simp[cL],by simp[cL]⟩;have hg:=kE hd ha (-1);have hm:=j_ hd ha (-1);split
    ·exact grown_of (iF u path) hg
    ·exact grown_of (iF u path) (hg.trans (grown_of (u':=(goU _ _ _).u) (C4 _ _ _) (wI (lC hm (ae path).1 0) z8)))
theorem oN {B T:Nat} {u:U} (h:xn B T u) (x:Step):Grown u.s (al u x).u.s:=by
 unfold al;split
 ·split
  ·exact Grown.refl h.srv.hist
  ·exact eZ h (C4 _ _ _)
 ·split
  ·exact Bh h _ _
  ·split
   ·unfold d_;split
    ·exact eZ h (iF _ _)
    ·exact grown_of (iF u x.path) (kE (cK h x.path) ⟨bW u x.path,by simp[iS],by simp[iS]⟩ (-1))
   ·split
    ·unfold bu;obtain ⟨hd,hn⟩:=so h x.path;split
     ·exact eZ h (yK _ _)
     ·exact grown_of (yK u x.path) (kE hd ⟨hn,by simp[dn],by simp[dn]⟩ _)
    ·split
     ·unfold cN;obtain ⟨hd,hn⟩:=so h x.path;split
      ·exact eZ h (yK _ _)
      ·split
       ·exact eZ h (by rw[iF,yK])
       ·exact grown_of (u':=(ah (atU u x.path).u x.toPath).u) (by rw[iF,yK]) (kE (cK hd x.toPath) ⟨hn,bW _ _,by simp[eL]⟩ _)
     ·split
      ·exact Grown.refl h.srv.hist
      ·split
       ·exact tX h.srv.hist u.c.number λr hr=>(h.cli.logS r hr).fit
       ·split
        ·unfold cX;split
         ·exact Grown.refl h.srv.hist
         ·split
          ·exact Grown.refl h.srv.hist
          ·split<;>exact Grown.refl h.srv.hist
        ·split
         ·split
          ·exact Grown.refl h.srv.hist
          ·exact eZ h (A8 _ _)
         ·exact Grown.refl h.srv.hist
structure WInv (B T:Nat) (w:Wor):Prop where
 srv:SrvOK B w.s
 cli:∀c,c∈w.cs->Mz B T w.s c
 len:w.cs.length<=3
theorem WInv.at {B T:Nat} {w:Wor} (h:WInv B T w) {i:Nat} (hi:i<w.cs.length):xn B T ⟨w.cs.getD i default,w.s⟩:=⟨h.srv,h.cli _ (YG hi)⟩
theorem lh {B T:Nat} {w:Wor} (h:WInv B T w) (x:Step):WInv (B+20) (T+300) (au w x).w:=by
 unfold au;split
 ·exact ⟨h.srv.mono z8,λc hc=>(h.cli c hc).mono z8 z8,h.len⟩
 ·rename_i hx;have hi:x.client.toNat<w.cs.length:=by omega
  have hu:=h.at hi;have h1:=nr hu x;have h2:=oN hu x;refine ⟨h1.srv,λc hc=>?_,by simp;exact h.len⟩;obtain ⟨d,hd,rfl⟩:=W5.1 hc
  rcases Yg hd with hd | rfl
  ·exact ((h.cli d hd).mono (W7 B) (show T<=T+300 by omega)).grow z8 h.srv.hist h2
  ·exact h1.cli.grow (W7 _) h1.srv.hist (Grown.refl h1.srv.hist)
theorem yb {rooms:List Int} (h:bl rooms=0):WInv 0 0 (gr rooms):=by
 unfold bl at h;split at h
 ·cases h
 ·split at h
  ·rename_i hr hall;refine ⟨SrvOK.new,λc hc=>?_,by simp[gr,gq];omega⟩;obtain ⟨j,hj,rfl⟩:=W5.1 hc;have hj:j<rooms.length:=Yn.1 hj;have:=List.all_eq_true.1 hall (rooms.getD j 0) (by rw[List.getD_eq_getElem?_getD,Wz hj];exact YW hj);simp only[Bool.and_eq_true,decide_eq_true_eq] at this;exact CInvF.new 0 0 _ j _ this
  ·cases h
theorem td:∀(l:List Step) {B T:Nat} {w:Wor},WInv B T w->WInv (B+20*l.length) (T+300*l.length) (l.foldl (λw x=>(au w x).w) w)
 | [],_,_,_,h=>h
 | x::l,B,T,w,h=>by
  have:=td l (lh h x);rw[show B+20+20*l.length=B+20*(x::l).length by simp;omega,show T+300+300*l.length=T+300*(x::l).length by simp;omega] at this;exact this
theorem vD {rooms:List Int} (h:bl rooms=0) (l:List Step):WInv (20*l.length) (300*l.length) (ll rooms l):=by
 have:=td l (yb h)
 rwa [Yc,Yc] at this
structure IdI (c:Cli):Prop where
 rise:(c.log.map (·.id)).Pairwise (·<·)
 bnd:∀r,r∈c.log->1<=r.id/\r.id<=c.logged
 pos:0<=c.logged
theorem IdI.same {c d:Cli} (h:IdI c) (h1:d.log=c.log) (h2:d.logged=c.logged):IdI d:=⟨by rw[h1];exact h.rise,by rw[h1,h2];exact h.bnd,by rw[h2];exact h.pos⟩
theorem IdI.idle {u v:U} (h:IdI u.c) (k:Idle u v):IdI v.c:=h.same k.log k.logged
theorem iU {l m:List Rec} {r:Rec} (h:dt l r=some m):m.Sublist l\/∃k,k.Sublist l/\m=k++[r]:=by
 unfold dt at h;split at h
 ·injection h with h;subst h
  exact .inl Yw
 ·split at h
  ·cases h
  ·injection h with h
   exact .inr ⟨cQ l r,je l r,h.symm⟩
theorem IdI.own {u:U} (h:IdI u.c) (a:Act) (seen:Int):IdI (jL u a seen).u.c:=by
 unfold jL;split
 ·exact h
 ·split
  ·exact h
  ·rename_i log hlog;split
   ·exact h
   ·unfold yf at hlog;refine ⟨?_,λr hr=>?_,?_⟩
    ·show (log.map (·.id)).Pairwise (·<·)
     rcases iU hlog with h1 | ⟨k,h1,rfl⟩
     ·exact h.rise.sublist (h1.map _)
     ·rw[List.map_append,List.pairwise_append];refine ⟨h.rise.sublist (h1.map _),by simp,λx hx y hy=>?_⟩;obtain ⟨r,hr,rfl⟩:=W5.1 hx;simp only[List.map_cons,List.map_nil,List.mem_singleton] at hy;subst hy;have:=(h.bnd r (h1.subset hr)).2;omega
    ·have hr:r∈log:=hr
     show 1<=r.id/\r.id<=u.c.logged+1
     have hp:=h.pos
     rcases iU hlog with h1 | ⟨k,h1,rfl⟩
     ·have:=h.bnd r (h1.subset hr);omega
     ·rcases List.mem_append.1 hr with hr | hr
      ·have:=h.bnd r (h1.subset hr);omega
      ·rw[List.mem_singleton.1 hr]
       show 1<=u.c.logged+1/\u.c.logged+1<=u.c.logged+1
       omega
    ·show 0<=u.c.logged+1
     have:=h.pos;omega
theorem IdI.here {u:U} (h:IdI u.c) (a:Act):IdI (fU u a).u.c:=by
 unfold fU;split
 ·exact h.same rfl rfl
 ·exact h
theorem IdI.act {u:U} (h:IdI u.c) (a:Act) (seen:Int):IdI (bU u a seen).u.c:=by
 unfold bU;split
 ·exact h.own a seen
 ·exact h.here a
theorem IdI.put {g:Got} (h:IdI g.u.c) (data:List UInt8):IdI (gb g data).u.c:=by
 unfold gb;split
 ·exact h
 ·exact h.act _ _
theorem IdI.write {u:U} (h:IdI u.c) (path data:List UInt8):IdI (bI u path data).u.c:=by
 have hd:=h.idle (bz u path);unfold bI;split
 ·exact hd
 ·split
  ·exact hd
  ·split
   ·exact IdI.put (hd.idle (fj _ _ _)) data
   ·have hk:=hd.act (cL (ah u path).n.fid (ah u path).name) (-1);split
    ·exact hk
    ·exact IdI.put (hk.idle (di _ _ _)) data
theorem IdI.step {u:U} (h:IdI u.c) (x:Step):IdI (al u x).u.c:=by
 unfold al;split
 ·split
  ·exact h
  ·exact h.idle (di _ _ _)
 ·split
  ·exact h.write _ _
  ·split
   ·have hd:=h.idle (bz u x.path);unfold d_;split
    ·exact hd
    ·exact hd.act _ _
   ·split
    ·have hd:=h.idle (ee u x.path);unfold bu;split
     ·exact hd
     ·exact hd.act _ _
    ·split
     ·have hd:=h.idle (ee u x.path);have he:=hd.idle (bz (atU u x.path).u x.toPath);unfold cN;split
      ·exact hd
      ·split
       ·exact he
       ·exact he.act _ _
     ·split
      ·exact h.same rfl rfl
      ·split
       ·exact ⟨List.Pairwise.nil,λr hr=>Wr,h.pos⟩
       ·split
        ·unfold cX;split
         ·exact h
         ·split
          ·exact h
          ·split
           ·exact h
           ·exact h.same rfl rfl
        ·split
         ·split
          ·exact h
          ·exact h.idle (fZ _ ⟨0,u⟩)
         ·exact h
theorem IdI.new (i room:Int):IdI (oC i room):=⟨List.Pairwise.nil,λr hr=>Wr,Int.le_refl 0⟩
theorem IdI.fresh {c:Cli} (h:IdI c) (t:List Node):IdI (bq t c):=by
 unfold bq;split
 ·exact h
 ·exact h.same rfl rfl
structure WId (w:Wor):Prop where
 ids:∀c,c∈w.cs->IdI c
theorem WId.step {w:Wor} (h:WId w) (x:Step):WId (au w x).w:=by
 constructor;unfold au;split
 ·exact h.ids
 ·rename_i hx;intro c hc;obtain ⟨d,hd,rfl⟩:=W5.1 hc;refine IdI.fresh ?_ _
  rcases Yg hd with hd | rfl
  ·exact h.ids d hd
  ·exact (h.ids _ (YG (show x.client.toNat<w.cs.length by omega))).step x
structure LS (c d:Cli):Prop where
 le:c.logged<=d.logged
 from_:∀r,r∈d.log->(∃q,q∈c.log/\q.id=r.id)\/(c.logged<r.id/\r.id<=d.logged)
 num:d.number=c.number
theorem LS.refl (c:Cli):LS c c:=⟨Int.le_refl _,λr hr=>.inl ⟨r,hr,rfl⟩,rfl⟩
theorem LS.trans {c d e:Cli} (h:LS c d) (k:LS d e):LS c e:=⟨Int.le_trans h.le k.le,λr hr=>by
 have h1:=h.le;have h2:=k.le
 rcases k.from_ r hr with ⟨q,hq,hi⟩ | ⟨h3,h4⟩
 ·rcases h.from_ q hq with ⟨p,hp,hi2⟩ | ⟨h5,h6⟩
  ·exact .inl ⟨p,hp,hi2.trans hi⟩
  ·exact .inr ⟨by omega,by omega⟩
 ·exact .inr ⟨by omega,h4⟩,k.num.trans h.num⟩
theorem LS.same {c d:Cli} (h1:d.log=c.log) (h2:d.logged=c.logged) (h3:d.number=c.number):LS c d:=⟨by rw[h2];exact Int.le_refl _,λr hr=>.inl ⟨r,by rw[<-h1];exact hr,rfl⟩,h3⟩
theorem Idle.ls {u v:U} (k:Idle u v):LS u.c v.c:=LS.same k.log k.logged k.number
theorem LK (u:U) (a:Act) (seen:Int):LS u.c (jL u a seen).u.c:=by
 unfold jL;split
 ·exact LS.refl _
 ·split
  ·exact LS.refl _
  ·rename_i log hlog;split
   ·exact LS.refl _
   ·unfold yf at hlog;refine ⟨?_,λr hr=>?_,rfl⟩
    ·show u.c.logged<=u.c.logged+1
     omega
    ·have hr:r∈log:=hr
     show _\/(u.c.logged<r.id/\r.id<=u.c.logged+1)
     rcases iU hlog with h1 | ⟨k,h1,rfl⟩
     ·exact .inl ⟨r,h1.subset hr,rfl⟩
     ·rcases List.mem_append.1 hr with hr | hr
      ·exact .inl ⟨r,h1.subset hr,rfl⟩
      ·rw[List.mem_singleton.1 hr];exact .inr ⟨by show u.c.logged<u.c.logged+1;omega,by show u.c.logged+1<=u.c.logged+1;omega⟩
theorem sX (u:U) (a:Act) (seen:Int):LS u.c (bU u a seen).u.c:=by
 unfold bU;split
 ·exact LK u a seen
 ·unfold fU;split
  ·exact LS.same rfl rfl rfl
  ·exact LS.refl _
theorem GQ (g:Got) (data:List UInt8):LS g.u.c (gb g data).u.c:=by
 unfold gb;split
 ·exact LS.refl _
 ·exact sX _ _ _
theorem Ht (u:U) (path data:List UInt8):LS u.c (bI u path data).u.c:=by
 have hd:=(bz u path).ls;unfold bI;split
 ·exact hd
 ·split
  ·exact hd
  ·split
   ·exact hd.trans ((fj _ _ _).ls.trans (GQ _ data))
   ·have hk:=hd.trans (sX (ah u path).u (cL (ah u path).n.fid (ah u path).name) (-1));split
    ·exact hk
    ·exact hk.trans ((di _ _ _).ls.trans (GQ _ data))
theorem yy (u:U) (x:Step):LS u.c (al u x).u.c:=by
 unfold al;split
 ·split
  ·exact LS.refl _
  ·exact (di _ _ _).ls
 ·split
  ·exact Ht _ _ _
  ·split
   ·have hd:=(bz u x.path).ls;unfold d_;split
    ·exact hd
    ·exact hd.trans (sX _ _ _)
   ·split
    ·have hd:=(ee u x.path).ls;unfold bu;split
     ·exact hd
     ·exact hd.trans (sX _ _ _)
    ·split
     ·have hd:=(ee u x.path).ls;have he:=hd.trans (bz (atU u x.path).u x.toPath).ls;unfold cN;split
      ·exact hd
      ·split
       ·exact he
       ·exact he.trans (sX _ _ _)
     ·split
      ·exact LS.same rfl rfl rfl
      ·split
       ·exact ⟨Int.le_refl _,λr hr=>Wr,rfl⟩
       ·split
        ·unfold cX;split
         ·exact LS.refl _
         ·split
          ·exact LS.refl _
          ·split
           ·exact LS.refl _
           ·exact LS.same rfl rfl rfl
        ·split
         ·split
          ·exact LS.refl _
          ·exact (fZ _ ⟨0,u⟩).ls
         ·exact LS.refl _
theorem tO (t:List Node) (c:Cli):LS c (bq t c):=by
 unfold bq;split
 ·exact LS.refl _
 ·exact LS.same rfl rfl rfl
def Mv (t:List Node) (f:Int):Node×Int:=match ak t f with
 | some n=>(n,0)
 | none=>(ax,6)
def tR (t:List Node):List (List UInt8)->Node×Int->Node×Int
 | [],q=>if q.2=0 then q else (ax,q.2)
 | s::r,q=>if q.2≠0 then (ax,q.2) else if q.1.dir=false then (ax,8) else match ba q.1 s with
  | none=>(ax,6)
  | some f=>tR t r (Mv t f)
structure AwG (g g':Got):Prop where
 n:g'.n=g.n
 e:g'.e=g.e
 c:g'.u.c=g.u.c
 away:g.u.c.away=true
structure AwD (g g':GotD):Prop where
 n:g'.n=g.n
 name:g'.name=g.name
 e:g'.e=g.e
 c:g'.u.c=g.u.c
 away:g.u.c.away=true
structure AwE (g g':GotE):Prop where
 e:g'.e=g.e
 c:g'.u.c=g.u.c
 away:g.u.c.away=true
theorem Js {u u':U} (hc:u'.c=u.c) (ha:u.c.away=true) (a:Act) (seen:Int):AwE (jL u a seen) (jL u' a seen):=by
 unfold jL;rw[hc];split
 ·exact ⟨rfl,hc,ha⟩
 ·split
  ·exact ⟨rfl,hc,ha⟩
  ·split
   ·exact ⟨rfl,hc,ha⟩
   ·exact ⟨rfl,rfl,ha⟩
theorem Il {u u':U} (hc:u'.c=u.c) (ha:u.c.away=true) (a:Act) (seen:Int):AwE (bU u a seen) (bU u' a seen):=by
 unfold bU;rw[hc,if_pos ha,if_pos ha];exact Js hc ha a seen
structure AwP (g g':GotP):Prop where
 d:g'.d=g.d
 name:g'.name=g.name
 n:g'.n=g.n
 e:g'.e=g.e
 c:g'.u.c=g.u.c
 away:g.u.c.away=true
structure AwS (g g':GotS):Prop where
 r:g'.r=g.r
 c:g'.u.c=g.u.c
 away:g.u.c.away=true
theorem mW (u:U) (ha:u.c.away=true) (a:Act) (seen:Int):(bU u a seen).u.s=u.s:=by
 unfold bU;rw[if_pos ha];exact K5 u a seen
theorem Aw {g:Got} (ha:g.u.c.away=true) (data:List UInt8):(gb g data).u.s=g.u.s:=by
 unfold gb;split
 ·rfl
 ·exact mW _ ha _ _
theorem CL (u:U) (ha:u.c.away=true) (path data:List UInt8):(bI u path data).u.s=u.s:=by
 have hd:=bz u path;have hda:(ah u path).u.c.away=true:=by rw[hd.away];exact ha
 unfold bI;split
 ·exact hd.s
 ·split
  ·exact hd.s
  ·split
   ·have h:=fj (ah u path).u;rw[Aw (by rw[(h _ _).away];exact hda),(h _ _).s,hd.s]
   ·have k:=mW _ hda (cL (ah u path).n.fid (ah u path).name) (-1);have ka:=(Il rfl hda (cL (ah u path).n.fid (ah u path).name) (-1)).away;split
    ·rw[k,hd.s]
    ·have h:=di (bU (ah u path).u (cL (ah u path).n.fid (ah u path).name) (-1)).u (ae path).1 0;rw[Aw (by rw[h.away];exact ka),h.s,k,hd.s]
theorem E3 (u:U) (ha:u.c.away=true) (x:Step) (hk:x.kind≠8):(al u x).u.s=u.s:=by
 unfold al;split
 ·split
  ·rfl
  ·exact (di _ _ _).s
 ·split
  ·exact CL u ha _ _
  ·split
   ·have hd:=bz u x.path;unfold d_;split
    ·exact hd.s
    ·exact (mW _ (by rw[hd.away];exact ha) _ _).trans hd.s
   ·split
    ·have hd:=ee u x.path;unfold bu;split
     ·exact hd.s
     ·exact (mW _ (by rw[hd.away];exact ha) _ _).trans hd.s
    ·split
     ·have hd:=ee u x.path;have he:=bz (atU u x.path).u x.toPath;unfold cN;split
      ·exact hd.s
      ·split
       ·exact he.s.trans hd.s
       ·exact (mW _ (by rw[he.away,hd.away];exact ha) _ _).trans (he.s.trans hd.s)
     ·split
      ·rfl
      ·split
       ·unfold cX;split
        ·rfl
        ·split
         ·rfl
         ·split<;>rfl
       ·split
        ·rfl
        ·rfl
structure Fate where
 step:Int
 client:Int
 kind:Int
 whr:Int
deriving DecidableEq,Inhabited
structure Bk where
 fates:List Fate
 logs:List (List Nat)
def fC (fs:List Fate) (k:Nat) (w:Int):List Fate:=fs.set k { fs.getD k default with whr:=w }
def jD (step:Int) (ps:List Past) (b:Bk):Bk:={ b with fates:=b.fates++ps.map λp=>⟨step,p.client,p.act.kind,1⟩ }
def cJ:List Nat->List Verdict->List Fate->List Fate
 | k::l,v::vs,fs=>cJ l vs (fC fs k (if v.err=0 then 1 else 3))
 | _,_,fs=>fs
def rh (c:Nat) (vs:List Verdict) (b:Bk):Bk:=⟨cJ (b.logs.getD c []) vs b.fates,b.logs.set c []⟩
def cw (now:List Rec):List Nat->List Rec->List Fate->List Fate
 | k::l,r::rs,fs=>cw now l rs (if (now.any λx=>x.id==r.id)=true then fs else fC fs k 4)
 | _,_,fs=>fs
def fo (step c:Int) (n:Nat):List Fate:=List.replicate n ⟨step,c,4,4⟩
def dD (was:Cli) (ks:List Nat) (n:Nat) (id:Int):Nat:=match was.log.findIdx? λr=>r.id==id with
 | some i=>if was.logged<id then n+(id-was.logged-1).toNat else ks.getD i 0
 | none=>n+(id-was.logged-1).toNat
def iA (was:Cli) (ks:List Nat) (n:Nat):List Rec->List Fate->List Fate
 | r::rs,fs=>iA was ks n rs (fs.set (dD was ks n r.id) { fs.getD (dD was ks n r.id) default with kind:=r.act.kind,whr:=2 })
 | [],fs=>fs
def bT (step:Int) (c:Nat) (was now:Cli) (b:Bk):Bk:=
 ⟨iA was (b.logs.getD c []) b.fates.length now.log (cw now.log (b.logs.getD c []) was.log b.fates++fo step c (now.logged-was.logged).toNat),
  b.logs.set c (now.log.map λr=>dD was (b.logs.getD c []) b.fates.length r.id)⟩
noncomputable def ef (w:Wor) (i:Nat) (x:Step) (b:Bk):Bk:=
 if x.client<0\/x.client≥w.cs.length then b
 else if x.kind=8 then rh x.client.toNat (aw ⟨w.cs.getD x.client.toNat default,w.s⟩) b
 else if (w.cs.getD x.client.toNat default).away=true then bT i x.client.toNat (w.cs.getD x.client.toNat default) ((au w x).w.cs.getD x.client.toNat default) b
 else jD i ((au w x).w.s.past.drop w.s.past.length) b
structure GotK where
 w:Wor
 b:Bk
 i:Nat
noncomputable def ly (rooms:List Int) (l:List Step):GotK:=l.foldl (λg x=>⟨(au g.w x).w,ef g.w g.i x g.b,g.i+1⟩) ⟨gr rooms,⟨[],List.replicate rooms.length []⟩,0⟩
theorem Ax (g:Got) (ha:g.u.c.away=false) (data:List UInt8):(gb g data).u.c.away=false:=by
 unfold gb;split
 ·exact ha
 ·rw[show bU g.u _ _=fU g.u _ from by unfold bU;rw[if_neg Zc]];unfold fU;split<;>exact ha
theorem oS (u:U) (ha:u.c.away=false) (a:Act) (seen:Int):(bU u a seen).u.c.away=false:=by
 unfold bU;rw[if_neg Zc];unfold fU;split<;>exact ha
theorem xg (u:U) (ha:u.c.away=false) (x:Step) (hk:x.kind≠7):(al u x).u.c.away=false:=by
 unfold al;split
 ·split
  ·exact ha
  ·exact (di _ _ _).away.trans ha
 ·split
  ·have hd:=(bz u x.path).away.trans ha;unfold bI;split
   ·exact hd
   ·split
    ·exact hd
    ·split
     ·exact Ax _ ((fj _ _ _).away.trans hd) _
     ·have hk:=oS _ hd (cL (ah u x.path).n.fid (ah u x.path).name) (-1);split
      ·exact hk
      ·exact Ax _ ((di _ _ _).away.trans hk) _
  ·split
   ·have hd:=(bz u x.path).away.trans ha;unfold d_;split
    ·exact hd
    ·exact oS _ hd _ _
   ·split
    ·have hd:=(ee u x.path).away.trans ha;unfold bu;split
     ·exact hd
     ·exact oS _ hd _ _
    ·split
     ·have hd:=(ee u x.path).away.trans ha;have he:=(bz (atU u x.path).u x.toPath).away.trans hd;unfold cN;split
      ·exact hd
      ·split
       ·exact he
       ·exact oS _ he _ _
     ·split
      ·rfl
      ·split
       ·unfold cX;split
        ·exact ha
        ·split
         ·exact ha
         ·split
          ·exact ha
          ·exact ha
       ·split
        ·rw[if_neg Zc];exact (fZ _ ⟨0,u⟩).away.trans ha
        ·exact ha
structure HereB (w:Wor) (b:Bk):Prop where
 away:∀c,c∈w.cs->c.away=false
 fates:b.fates.map (λf=>(f.client,f.kind,f.whr))=w.s.past.map λp=>(p.client,p.act.kind,1)
def BZ (l:List Rec) (i:Nat):List (Int×Bool):=(l.take i).foldl (λm r=>aU m r.id true) []
theorem El {l:List Rec} {i:Nat} (h:i<l.length):BZ l (i+1)=aU (BZ l i) (l.getD i default).id true:=by
 unfold BZ;rw[ZT h,List.foldl_append];rfl
theorem DR (m:List (Int×Bool)) (f:Int) (v:Bool) (k:Int):cE (aU m f v) k=if k=f then v else cE m k:=by
 unfold cE;rw[oB]
 by_cases e:k=f
 ·rw[if_pos e,if_pos e];rfl
 ·rw[if_neg e,if_neg e]
theorem vU (m:List (Int×Int)) (f v k:Int):f_ (aU m f v) k=if k=f then v else f_ m k:=by
 unfold f_;rw[oB]
 by_cases e:k=f
 ·rw[if_pos e,if_pos e];rfl
 ·rw[if_neg e,if_neg e]
theorem GI (l:List Rec) (k:Int):cE (BZ l l.length) k=l.any λx=>x.id==k:=by
 unfold BZ;rw[W4];have key:∀(l:List Rec) (m:List (Int×Bool)),cE (l.foldl (λm r=>aU m r.id true) m) k=(cE m k||l.any λx=>x.id==k):=λl=>by
  induction l with
  | nil=>intro m;simp
  | cons r l ih=>
   intro m;rw[List.foldl_cons,ih,DR,List.any_cons]
   by_cases e:k=r.id
   ·rw[if_pos e];simp[e]
   ·rw[if_neg e,beq_eq_false_iff_ne.2 (λh=>e h.symm),Yv]
 rw[key l []];rfl
def zt (l:List Rec) (ks:List Nat):Nat->List (Int×Int)
 | 0=>[]
 | i+1=>aU (zt l ks i) (l.getD i default).id (ks.getD i 0:Nat)
theorem C6 {l:List Rec} {ks:List Nat} (hr:(l.map (·.id)).Pairwise (·<·)):∀{i j:Nat},i<=l.length->j<i->f_ (zt l ks i) (l.getD j default).id=(ks.getD j 0:Nat)
 | 0,j,_,h=>by omega
 | i+1,j,hi,hj=>by
  unfold zt;rw[vU]
  by_cases e:j=i
  ·subst e;rw[if_pos rfl]
  ·have hlt:(l.getD j default).id<(l.getD i default).id:=by
    have:=Yx.1 hr j i (by rw[List.length_map];omega) (by rw[List.length_map];omega) z8;rw[List.getD_eq_getElem?_getD,List.getD_eq_getElem?_getD,Wz z8,Wz z8];simpa using this
   rw[if_neg z8];exact C6 hr z8 z8
def Ai (m:List (Int×Int)) (n:Nat) (a:Int):Nat->List (Int×Int)
 | 0=>m
 | i+1=>aU (Ai m n a i) (a+1+i) ((n+i:Nat):Int)
theorem C' (m:List (Int×Int)) (n:Nat) (a:Int) (k:Int):∀i:Nat,f_ (Ai m n a i) k=if a<k/\k<=a+i then ((n+(k-a-1).toNat:Nat):Int) else f_ m k
 | 0=>by rw[if_neg z8];rfl
 | i+1=>by
  unfold Ai;rw[vU,C' m n a k i]
  by_cases e:k=a+1+i
  ·rw[if_pos e,if_pos z8]
   congr 2
   omega
  ·rw[if_neg e]
   by_cases h:a<k/\k<=a+i
   ·rw[if_pos h,if_pos z8]
   ·rw[if_neg h,if_neg z8]
theorem GF {was now:Cli} (hw:IdI was) (hs:LS was now) (ks:List Nat) (n:Nat) {r:Rec} (hr:r∈now.log):f_ (Ai (zt was.log ks was.log.length) n was.logged (now.logged-was.logged).toNat) r.id=(dD was ks n r.id:Nat):=by
 have hle:=hs.le;rw[C'];unfold dD
 rcases hs.from_ r hr with ⟨q,hq,hqi⟩ | ⟨h1,h2⟩
 ·have hb:=hw.bnd q hq;rw[hqi] at hb;rw[if_neg z8];cases e:was.log.findIdx? (λx=>x.id==r.id) with
  | none=>
   rw[YL] at e;exact absurd (e q hq) (by simp[hqi])
  | some i=>
   obtain ⟨hi,h3,_⟩:=YK.1 e;simp only;rw[if_neg z8];have h4:(was.log.getD i default).id=r.id:=by
    rw[List.getD_eq_getElem?_getD,Wz hi];simpa using h3
   rw[<-h4];exact C6 hw.rise (W7 _) hi
 ·rw[if_pos z8];cases e:was.log.findIdx? (λx=>x.id==r.id) with
  | none=>rfl
  | some i=>
   simp only;rw[if_pos h1]
def ZJ (h:Hoard):List AV:=[.str h.path,.int .i64 h.worth]
def ZC (c:Cli):List AV:=[.int .i64 c.number,.bool c.away,.int .i64 c.room,.sl (c.cache.map ZK),.sl (c.log.map ZR),.sl (c.repair.map ZR),.sl (c.hoards.map ZJ),.int .i64 c.clock,.int .i64 c.made,.int .i64 c.logged]
def ZX (x:Step):List AV:=[.int .i64 x.kind,.int .i64 x.client,.int .i64 x.n,.str x.path,.str x.toPath,.sl (x.data.map ZY)]
def bc (r:Reply):List AV:=[.int .i64 r.err,.int .i64 r.n,.int .i64 r.m,.sl (r.data.map ZY)]
def bx (u:U):List AV:=[.int .i64 u.c.number,.bool u.c.away,.int .i64 u.c.room,.sl (u.c.cache.map ZK),.sl (u.c.log.map ZR),.sl (u.c.repair.map ZR),.sl (u.c.hoards.map ZJ),.int .i64 u.c.clock,.int .i64 u.c.made,.int .i64 u.c.logged,.sl (u.s.tree.map ZN),.int .i64 u.s.next,.sl (u.s.past.map ZP)]
def aV (w:Wor):List AV:=[.sl (w.s.tree.map ZN),.int .i64 w.s.next,.sl (w.s.past.map ZP),.sl (w.cs.map ZC)]
theorem fh:Fam ZJ 2:=⟨λ_=>rfl,λ_=>rfl,λ_=>rfl,λ_=>rfl⟩
@[go_sem,simp] theorem Fi (l:List _):Eng.rowsOf 2 (l.map ZJ):=fh.rowsOf l
@[go_sem,simp] theorem HE (l:List _):((l.map ZJ).all λrow=>row.all AV.leaf)=true:=fh.kb l
@[go_sem,simp] theorem eu (l:List _):((l.map ZJ).all λrow=>row.all AV.aW)=true:=fh.eJ l
@[go_sem,simp] theorem F_ (id:Nat) (l:List _):((l.map ZJ).all λrow=>row.all λx=>!(refs x).contains id)=true:=fh.jJ id l
@[go_sem,simp] theorem Ga (e s:Nat) (l:List _):ay (.cells e s (l.map ZJ))=[]:=fh.ay e s l
@[go_sem,simp] theorem HF (off:Nat) (l:List _):(l.map ZJ).map (gP off)=l.map ZJ:=Fam.gP (λ_ _=>rfl) off l
@[go_sem,simp] theorem HD (id s:Nat) (rows:List (List AV)) (l:List _):(l.map ZJ).map (dq id s rows)=l.map ZJ:=Fam.dq (λ_ _ _ _=>rfl) id s rows l
@[go_sem,simp] theorem Gb (a):aB (ZJ a)=[]:=fh.free a
theorem oh:Fam ZC 10:=⟨λ_=>rfl,λ_=>rfl,λ_=>rfl,λ_=>rfl⟩
@[go_sem,simp] theorem im (l:List _):((l.map ZC).all λrow=>row.all AV.aW)=true:=oh.eJ l
@[go_sem,simp] theorem xt (id:Nat) (l:List _):((l.map ZC).all λrow=>row.all λx=>!(refs x).contains id)=true:=oh.jJ id l
@[go_sem,simp] theorem Iy (e s:Nat) (l:List _):ay (.cells e s (l.map ZC))=[]:=oh.ay e s l
@[go_sem,simp] theorem KX (off:Nat) (l:List _):(l.map ZC).map (gP off)=l.map ZC:=Fam.gP (λ_ _=>rfl) off l
@[go_sem,simp] theorem KW (id s:Nat) (rows:List (List AV)) (l:List _):(l.map ZC).map (dq id s rows)=l.map ZC:=Fam.dq (λ_ _ _ _=>rfl) id s rows l
theorem xE:Fam bc 4:=⟨λ_=>rfl,λ_=>rfl,λ_=>rfl,λ_=>rfl⟩
@[go_sem,simp] theorem G0 (a):aB (bc a)=[]:=xE.free a
end La
namespace La
open Go Go.Eng Go.Proofs Go.Proofs.Tryz
theorem lG {p:Kept} {x:AV} (h:x∈ZK p):refs x=[]:=by
 simp only[ZK,List.mem_cons,List.not_mem_nil,or_false] at h
 rcases h with rfl | rfl | rfl | rfl | rfl | rfl | rfl | rfl<;>rfl
def wK (k x:Kept):Kept:={ k with worth:=mS k.worth x.worth }
def rkS (k:Kept) (q:Bool×List Kept) (x:Kept):Bool×List Kept:=if (x.node.fid==k.node.fid&&!q.1)=true then (true,q.2++[wK k x]) else (q.1,q.2++[x])
def rkT (k:Kept) (l:List Kept):Bool×List Kept:=l.foldl (rkS k) (false,[])
theorem G3 (k:Kept) (l:List Kept) (x:Kept):rkT k (l++[x])=rkS k (rkT k l) x:=by unfold rkT;rw[List.foldl_append];rfl
theorem Dk (k:Kept) (l:List Kept):(rkT k l).2.length=l.length:=by
 have:∀(l:List Kept) (q:Bool×List Kept),(l.foldl (rkS k) q).2.length=q.2.length+l.length:=λl=>by
  induction l with
  | nil=>intro q;rfl
  | cons x r ih=>intro q;rw[List.foldl_cons,ih];unfold rkS;split<;>simp<;>omega
 have:=this l (false,[]);simpa[rkT] using this
theorem AD (k:Kept):∀(l acc:List Kept),l.foldl (rkS k) (true,acc)=(true,acc++l)
 | [],acc=>by simp
 | x::r,acc=>by rw[List.foldl_cons,show rkS k (true,acc) x=(true,acc++[x]) from by simp[rkS],AD k r];simp
theorem wQ (k:Kept):∀(l acc:List Kept),l.foldl (rkS k) (false,acc)=match ch l k.node.fid with
  | none=>(false,acc++l)
  | some i=>(true,acc++l.set i (wK k (l.getD i default)))
 | [],acc=>by simp[ch]
 | x::r,acc=>by
  rw[List.foldl_cons]
  by_cases h:x.node.fid=k.node.fid
  ·rw[show rkS k (false,acc) x=(true,acc++[wK k x]) from by simp[rkS,h],AD];have:ch (x::r) k.node.fid=some 0:=by unfold ch;rw[List.findIdx?_cons];simp[h]
   rw[this];simp
  ·rw[show rkS k (false,acc) x=(false,acc++[x]) from by simp[rkS,h],wQ k r];have:ch (x::r) k.node.fid=(ch r k.node.fid).map (·+1):=by unfold ch;rw[List.findIdx?_cons];simp[h]
   rw[this];cases ch r k.node.fid<;>simp
theorem AE (k:Kept) (l:List Kept):rkT k l=match ch l k.node.fid with
  | none=>(false,l)
  | some i=>(true,l.set i (wK k (l.getD i default))):=by
 unfold rkT;rw[wQ];cases ch l k.node.fid<;>simp
theorem BL {l:List Kept} {room:Int} {k:Kept} (h:(rkT k l).1=true):c_ l room k=some (rkT k l).2:=by
 unfold c_;rw[AE] at h ⊢;cases e:ch l k.node.fid with
 | none=>rw[e] at h;cases h
 | some i=>rfl
theorem BK {l:List Kept} {room:Int} {k:Kept} (h:(rkT k l).1=false):(rkT k l).2=l/\c_ l room k=(b_ room (l.length+1) l).map λL=>L++[k]:=by
 unfold c_;rw[AE] at h ⊢;cases e:ch l k.node.fid with
 | none=>exact ⟨rfl,rfl⟩
 | some i=>rw[e] at h;cases h
theorem EC (l:List Kept) (room:Int) (k:Kept) (hl:l.length<=90000000):Fo 98 [.sl (l.map ZK),.int .i64 room,.agg (ZK k)] (qC l room k):=by
 unfold qC;have hz:rkT k (l.take l.length)=rkT k l:=by rw[W4]
 refine wS func98 ntmps98 results98 λC=>?_
 refine wGq ?_ ?_ QF
 ·simp
 refine af (le_empty 46 138 8 z7) (wn ?_);refine wL l.length (λi=>(8,.osl 46 8 0 i)::(9,.bool (rkT k (l.take i)).1)::(11,.any)::(12,.any)::(18,.int .i64 i)::u0 19 29 []) (λi=>[(46,.cells 138 8 ((rkT k (l.take i)).2.map ZK))]) ?_ λi hi=>?_
 ·simp only[go_sem];exact ZU (by simp[go_sem,rkT]) (by simp[go_sem,rkT]) w3
 simp only[go_sem];refine wGD (λh=>?_) (λh=>?_)
 ·have hlt:=lt1 h;have hg:=Fam.getD (f:=ZK) hlt;have hw:=wi1 (i:=i) z8;have htk:rkT k (l.take (i+1))=rkS k (rkT k (l.take i)) (l.getD i default):=by rw[ZT hlt,G3]
  have hql:=Dk k (l.take i);rw[YA,Yt hi] at hql;generalize l.getD i default=x at hg htk;generalize rkT k (l.take i)=q at *;unfold rkS at htk;have htq:List.take i (q.2.map ZK)=q.2.map ZK:=W1 (by simp[hql]);refine wR ?_;refine wNq 4 ?_ ?_ z6 z6 j9
  ·simp[hg,ZK,hlt]
  cases hb:(x.node.fid==k.node.fid&&!q.1) with
  | true=>
   rw[hb,if_pos rfl] at htk;rw[Bool.and_eq_true] at hb;refine wG ?_;refine wDT ?_ (hb:=by simp[hb.1,hb.2]);refine wGD (λh=>?_) (λh=>?_)
   ·have hm:mS k.worth x.worth=x.worth:=by unfold mS;rw[if_pos x7]
    refine wGq ?_ ?_ w4
    ·simp[htq,refs,hql];exact ⟨by omega,λx _ y hy=>by rw[lG hy];simp⟩
    exact ZB ⟨i+1,by omega,by omega,ZU j7 (by simp[go_sem,htk,htq,ZK,wK,hm]) w3⟩
   ·have hm:mS k.worth x.worth=k.worth:=by unfold mS;rw[if_neg x7]
    refine wGq ?_ ?_ w4
    ·simp[htq,refs,hql];exact ⟨by omega,λx _ y hy=>by rw[lG hy];simp⟩
    exact ZB ⟨i+1,by omega,by omega,ZU j7 (by simp[go_sem,htk,htq,ZK,wK,hm]) w3⟩
  | false=>
   rw[hb,if_neg Bool.false_ne_true] at htk;refine wG ?_;refine wDF ?_ (hb:=by simpa[show ∀a b:Bool,(bif a then b else false)=(a&&b) from λa b=>by cases a<;>rfl] using hb);refine wGq ?_ ?_ w4
   ·simp[htq,refs,hql];exact ⟨by omega,λx _ y hy=>by rw[lG hy];simp⟩
   exact ZB ⟨i+1,by omega,by omega,ZU j7 Wf w3⟩
 obtain rfl:=eq1 hi h;rw[hz];clear hz h;have hql:=Dk k l;cases hb:(rkT k l).1 with
 | true=>
  rw[BL hb];refine Fe ?_ (hb:=w8);refine ZZ 46 rfl (bg _) (wn ?_);refine wT ?_;simp[hql];exact W1 (by simp[hql])
 | false=>
  obtain ⟨h1,h2⟩:=BK (room:=room) hb;rw[h1,h2];rw[h1] at hql;clear hi h1 h2;refine nt ?_ (hb:=w8);refine ZL (λL:List Kept=>b_ room (L.length+1) L=b_ room (l.length+1) l/\L.length<=l.length) (λL=>L.length) (λL=>(8,.osl 46 8 0 L.length)::(13,.any)::(14,.any)::(15,.any)::u0 50 46 []) (λL=>[(46,.cells 138 8 (L.map ZK))]) l ⟨rfl,W7 _⟩ ?_ λL hL=>?_
  ·exact wZ
  obtain ⟨hsh,hLl⟩:=hL;rw[<-hsh];simp only[go_sem];refine wGD (λh=>?_) (λh=>?_)
  ·have hge:(L.length:Int)≥room:=by simpa using h
   refine wG ?_;refine wL L.length (λj=>(13,.int .i64 (cv (dd L j)))::(14,.any)::(15,.any)::(56,.int .i64 j)::u0 57 27 []) (λ_=>[]) ?_ λj hj=>?_
   ·simp only[go_sem];exact ZU (by simp[go_sem,dd,cv]) w3 w3
   simp only[go_sem];refine wGD (λh=>?_) (λh=>?_)
   ·have hlt:=lt1 h;have hg:=Fam.getD (f:=ZK) hlt;have hw:IntKind.i64.wrap ((j:Int)+1)=((j+1:Nat):Int):=by rw[Eng.wrap_small z8 z8];rfl
    have hwa:dd L (j+1)=if (L.getD j default).dirty||(L.getD j default).node.fid==0 then dd L j
      else match dd L j with
       | none=>some j
       | some b=>if ti (L.getD j default) (L.getD b default)<0 then some j else some b:=rfl
    have hwl:=fQ L j;generalize L.getD j default=x at hg hwa;refine wGq ?_ ?_ j9
    ·simp[hg,ZK,hlt]
    refine wO ?_;cases hd:x.dirty with
    | true=>
     rw[hd,Bool.true_or,if_pos rfl] at hwa;refine sN 4 ?_ z6 z6 (by simp only[go_sem,hd];try exact rfl) (by simp[go_sem,hd])
     try simp only[hd,Bool.not_true]
     iterate 3 refine sS ?_
     refine sSB ?_;refine sN 2 ?_;refine sS ?_;refine sSB ?_;refine sSB ?_
     iterate 5 refine sS ?_
     refine sSB ?_;refine sSB ?_;refine sN 1 ?_;refine wX ?_;refine wD (λh=>?_) (λh=>?_)
     ·exfalso;simp at h
     refine wG ?_ w4 y7;exact ZB ⟨j+1,by omega,by omega,ZU (by simp[go_sem,hwa]) w3 w3⟩
    | false=>
     by_cases hf:x.node.fid=0
     ·have hf0:(x.node.fid==0)=true:=by simp[hf]
      have hf1:(x.node.fid != 0)=false:=by simp[hf]
      rw[hd,hf0,Bool.or_true,if_pos rfl] at hwa;refine sN 10 ?_ z6 z6 (by simp only[go_sem,hd,hf1];try exact rfl) (by simp[go_sem,hd,hf1])
      try simp only[hd,hf1,Bool.not_false,cond_true]
      refine sS ?_;refine sSB ?_;refine sSB ?_
      iterate 5 refine sS ?_
      refine sSB ?_;refine sSB ?_;refine sN 1 ?_;refine wX ?_;refine wD (λh=>?_) (λh=>?_)
      ·exfalso;simp at h
      refine wG ?_ w4 y7;exact ZB ⟨j+1,by omega,by omega,ZU (by simp[go_sem,hwa]) w3 w3⟩
     ·have hf0:(x.node.fid==0)=false:=by simp[hf]
      have hf1:(x.node.fid != 0)=true:=by simp[hf]
      rw[hd,hf0,Y1,if_neg Bool.false_ne_true] at hwa;cases hwb:dd L j with
      | none=>
       rw[hwb] at hwa;simp only at hwa;refine sN 13 ?_ z6 z6 (by simp only[go_sem,hd,hf1,cv];try exact rfl) (by simp[go_sem,hd,hf1,cv])
       try simp only[hd,hf1,Bool.not_false,cond_true,show decide ((-1:Int)<0)=true from rfl,beq_self_eq_true,Y0,Bool.and_true]
       iterate 5 refine sS ?_
       refine sSB ?_;refine sN 2 ?_;refine wX ?_;refine wD (λh=>?_) (λh=>?_)
       ·refine wG ?_ w4 y7;exact ZB ⟨j+1,by omega,by omega,ZU (by simp[go_sem,hwa,cv]) w3 w3⟩
       ·exfalso;simp at h
      | some b=>
       rw[hwb] at hwa;simp only at hwa;have hbj:=hwl b hwb;have hgb:(L.map ZK).getD b []=ZK (L.getD b default):=Fam.getD z8;have hneg:decide ((b:Int)<0)=false:=decide_eq_false z8;generalize L.getD b default=y at hgb hwa;refine sN 13 ?_ z6 z6 (by simp only[go_sem,hd,hf1,cv,hneg];try exact rfl) (by simp[go_sem,hd,hf1,cv,hneg])
       try simp only[hd,hf1,hneg,Bool.not_false,cond_true,beq_self_eq_true,Y0,Bool.and_true]
       refine sNq 5 ?_ ?_ z6 z6 Qj
       ·simp[hgb,ZK];omega
       have hws:=Hq x y;unfold ZK at hws;rw[hd] at hws;refine sCC ?_ func136 (hf:=λhb=>(hws));refine sN 2 ?_;refine wX ?_;refine wD (λh=>?_) (λh=>?_)
       ·have hc:ti x y<0:=by simpa using h
        rw[if_pos hc] at hwa;refine wG ?_ w4 y7;exact ZB ⟨j+1,by omega,by omega,ZU (by simp[go_sem,hwa,cv]) w3 w3⟩
       ·have hc:¬ti x y<0:=by simpa using h
        rw[if_neg hc] at hwa;refine wG ?_ w4 y7;exact ZB ⟨j+1,by omega,by omega,ZU (by simp[go_sem,hwa,cv]) w3 w3⟩
   ·obtain rfl:=eq1 hj h;have hwk:dd L L.length=ra L:=rfl;rw[hwk];cases hwb:ra L with
    | none=>
     have hn:b_ room (L.length+1) L=none:=by rw[b_,if_pos hge,hwb]
     rw[hn];refine wG ?_ (by simp only[go_sem,cv];try exact rfl) (by simp[go_sem,cv]);refine wD (λh=>?_) (λh=>?_)
     ·refine wGT ?_;rfl
     ·exfalso;simp at h
    | some b=>
     have hbl:b<L.length:=fQ L L.length b hwb;have hsh2:b_ room (L.length+1) L=b_ room L.length (L.eraseIdx b):=by rw[b_,if_pos hge,hwb]
     have hel:(L.eraseIdx b).length+1=L.length:=by rw[List.length_eraseIdx,if_pos hbl];omega
     have her:L.eraseIdx b=L.take b++L.drop (b+1):=List.eraseIdx_eq_take_drop_succ L b;have hneg:decide ((b:Int)<0)=false:=decide_eq_false z8;have hwb1:IntKind.i64.wrap ((b:Int)+1)=((b+1:Nat):Int):=by rw[Eng.wrap_small z8 z8];rfl
     have hA1:List.take b (L.map ZK)=(L.take b).map ZK:=by rw[List.map_take]
     have hB1:List.take (L.length-(b+1)) (List.drop (b+1) (L.map ZK))=(L.drop (b+1)).map ZK:=by rw[<-List.map_drop,W1 w8]
     have hlA:(L.take b).length=b:=by rw[YA];omega
     have hlB:(L.drop (b+1)).length=L.length-(b+1):=YX;generalize L.take b=A at hA1 hlA her;generalize L.drop (b+1)=B at hB1 hlB her;subst hlA;refine wG ?_ (by simp only[go_sem,cv];try exact rfl) (by simp[go_sem,cv]);refine wD (λh=>?_) (λh=>?_)
     ·exfalso;simp at h;omega
     refine wG ?_;refine ZW ZM ?_;refine kd 1 [0,2,3,4,5,6,7,8,9,10] [0,0,1,2,3,4,5,6,7,8,9] rfl rfl rfl (λ_ _ _ h=>h) w9 w9 v8 z7 ?_;simp only[go_sem,gA,gB,gC];refine kd 1 [0,2,3,4,5,6,7,8,9] [0,0,1,2,3,4,5,6,7,8] rfl rfl rfl (λ_ _ _ h=>h) w9 w9 v8 z7 ?_;simp only[go_sem,gA,gB,gC];refine mu 1 [0,2,3,4,5,6,7,8] [0,0,1,2,3,4,5,6,7] rfl rfl (λ_ _ _ h=>h) w9 w9 v8 (xa tK rfl rfl rfl j8 z7 (.inl ⟨rfl,rfl⟩) (.inr ⟨_,rfl,_,z7⟩) (by simp[hbl,Nat.le_of_lt hbl]) (by simp[hbl,Nat.le_of_lt hbl])) ?_;simp only[go_sem,gA,gB,gC];refine kd 2 [0,1,3,4,5,6,7] [0,1,0,2,3,4,5,6] rfl rfl rfl (λ_ _ _ h=>h) w9 w9 v8 z7 ?_;simp only[go_sem,gA,gB,gC];refine kd 2 [0,1,3,4,5,6] [0,1,0,2,3,4,5] rfl rfl rfl (λ_ _ _ h=>h) w9 w9 v8 z7 ?_;simp only[go_sem,gA,gB,gC];refine mu 2 [0,1,3,4,5] [0,1,0,2,3,4] rfl rfl (λ_ _ _ h=>h) w9 w9 v8 (Io rfl z7 z7) ?_;simp only[go_sem,hwb1,gA,gB,gC];refine mu 2 [0,1,3,4] [0,1,0,2,3] rfl rfl (λ_ _ _ h=>h) w9 w9 v8 (xa tK rfl rfl rfl j8 z7 (.inr ⟨_,rfl,_,z7⟩) (.inl ⟨rfl,rfl⟩) (by simp[hbl,Nat.succ_le_of_lt hbl]) (by simp[hbl,Nat.succ_le_of_lt hbl])) ?_;simp only[go_sem,gA,gB,gC];refine Mr (n:=4) w9 rfl ?_;refine YD (i:=0) w9 rfl rfl (YT tK rfl z7 w3) ?_
     try simp only[go_sem,hA1,hB1,gD,gE,gF,gG,hwb1,gA,gB,gC]
     refine YD (i:=1) w9 rfl rfl (YT tK rfl Q6 ?_) ?_
     ·simp[go_sem,hA1,hB1,gD,gE,gF,gG,hwb1,gA,gB,gC];omega
     try simp only[go_sem,hA1,hB1,gD,gE,gF,gG,hwb1,gA,gB,gC]
     refine YD (i:=2) w9 rfl rfl (YT tK rfl Q6 ?_) ?_
     ·simp[go_sem,hA1,hB1,gD,gE,gF,gG,hwb1,gA,gB,gC,hlB];omega
     try simp only[go_sem,hA1,hB1,gD,gE,gF,gG,hwb1,gA,gB,gC]
     refine YD (i:=3) w9 rfl rfl (YT tK rfl z7 w3) ?_;refine DH w9 ?_;simp only[go_sem,gA,gB,gC];refine af (lH 46) ?_;refine af (gR 95 46) ?_;refine wG ?_;have her2:L.eraseIdx A.length=A++B:=her;have hlen2:(A++B).length+1=L.length:=by rw[<-her];exact hel
     refine ZB ⟨A++B,⟨by rw[hsh2,her,hlen2],by omega⟩,by omega,ZU ?_ ?_ ?_⟩
     ·simp[go_sem,hlB]
     ·simp[go_sem,hB1]
     ·simp[go_sem]
  ·have hlt:¬(L.length:Int)≥room:=by simpa using h
   have hn:b_ room (L.length+1) L=some L:=by rw[b_,if_neg hlt]
   rw[hn];refine wGq ?_ ?_
   ·simp;omega
   rw[show List.map ZK L++[[AV.int .i64 k.node.fid,.bool k.node.dir,.sl (k.node.data.map ZY),.sl (k.node.entries.map ZE),.int .i64 k.node.version,.bool k.dirty,.int .i64 k.worth,.int .i64 k.last]]=(L++[k]).map ZK by simp[ZK]];refine ZZ 99 rfl (bg _) (wn ?_);refine wT ?_;simp;exact W1 w8
theorem AF (l:List Kept) (room:Int) (k:Kept) (hl:l.length<=90000000):Fo 98 [.sl (l.map ZK),.int .i64 room,.agg (ZK k)] (rC l room k):=by
 have h:=EC l room k hl;unfold qC at h;unfold rC;cases e:c_ l room k with
 | none=>
  rw[e] at h;exact h.jb rfl
 | some L=>
  rw[e] at h;exact h
theorem oI (l:List Kept) (at_:List Node) (hl:l.length<=90000000) (hu:Up at_):Fo 39 [.sl (l.map ZK),.rm (mN (bQ at_))] (.sl ((l.filter λk=>!bN at_ k).map ZK)):=by
 have hgf:∀k,br (mN (bQ at_)) k=(ak at_ k).map λn=>AV.agg (ZN n):=λk=>by rw[iJ,cM hu]
 refine wSG func39 ntmps39 results39 λC=>?_
 refine af (le_empty 40 138 8 z7) (wn ?_);refine wL l.length (λi=>(5,.osl 40 8 0 ((l.take i).filter λk=>!bN at_ k).length)::(7,.any)::(8,.any)::(9,.any)::(12,.int .i64 i)::u0 13 29 []) (λi=>[(40,.cells 138 8 (((l.take i).filter λk=>!bN at_ k).map ZK))]) ?_ λi hi=>?_
 ·exact wZ
 simp only[go_sem];refine wGD (λh=>?_) (λh=>?_)
 ·have hlt:=lt1 h;have hg:=Fam.getD (f:=ZK) hlt;have hw:=wi1 (i:=i) z8;have htk:(l.take (i+1)).filter (λk=>!bN at_ k)=(l.take i).filter (λk=>!bN at_ k)++if bN at_ (l.getD i default)=true then [] else [l.getD i default]:=by
   rw[ZT hlt,List.filter_append,List.filter_cons];cases bN at_ (l.getD i default)<;>simp
  have hll:((l.take i).filter λk=>!bN at_ k).length<=i:=by
   have:=W8 (λk=>!bN at_ k) (l.take i);simp only[YA] at this;omega
  generalize (l.take i).filter (λk=>!bN at_ k)=D at htk hll;generalize l.getD i default=k at hg htk;have hg1:=hgf k.node.fid;have hst:bN at_ k=(!k.dirty&&(!(ak at_ k.node.fid).isSome||!(((ak at_ k.node.fid).getD ax).version==k.node.version))):=by unfold bN;rw[cS]
  have htq:List.take D.length (D.map ZK)=D.map ZK:=W1 w8;cases hff:ak at_ k.node.fid with
  | none=>
   rw[hff] at hg1 hst;simp only[Option.map_none] at hg1;refine wR ?_;refine wNq 4 ?_ ?_ z6 z6 j9
   ·simp[hg,ZK,hlt]
   refine wR ?_;refine wN 11 ?_ z6 z6 p6 Qm;cases hd:k.dirty with
   | true=>
    rw[hd] at hst;rw[hst,if_neg w8] at htk;refine wG ?_ Qf Zu;refine wDT ?_ (hb:=w8);refine wGq ?_ ?_ w4
    ·simp[htq,refs];omega
    exact ZB ⟨i+1,by omega,by omega,ZU j7 WY w3⟩
   | false=>
    rw[hd] at hst;rw[hst,if_pos w8] at htk;refine wG ?_ Qf Zu;refine wDF ?_ (hb:=w8);refine wG ?_ w4 y7;exact ZB ⟨i+1,by omega,by omega,ZU j7 j7 w3⟩
  | some n=>
   rw[hff] at hg1 hst;simp only[Option.map_some] at hg1;refine wR ?_;refine wNq 4 ?_ ?_ z6 z6 j9
   ·simp[hg,ZK,hlt]
   refine wR ?_;refine wN 11 ?_ z6 z6 x8 n4;cases hd:k.dirty with
   | true=>
    rw[hd] at hst;rw[hst,if_neg w8] at htk;refine wG ?_ Qf Zu;refine wDT ?_ (hb:=w8);refine wGq ?_ ?_ w4
    ·simp[htq,refs];omega
    exact ZB ⟨i+1,by omega,by omega,ZU j7 WY w3⟩
   | false=>
    rw[hd] at hst;cases hv:(n.version==k.node.version) with
    | true=>
     rw[hst,if_neg (by simp[hv])] at htk;refine wG ?_ Zi (by simp[go_sem,hd,hv,cond_true,cond_false]);refine wDT ?_ (hb:=w8);refine wGq ?_ ?_ w4
     ·simp[htq,refs];omega
     exact ZB ⟨i+1,by omega,by omega,ZU j7 WY w3⟩
    | false=>
     rw[hst,if_pos (by simp[hv])] at htk;refine wG ?_ Zi (by simp[go_sem,hd,hv,cond_true,cond_false]);refine wDF ?_ (hb:=w8);refine wG ?_ w4 y7;exact ZB ⟨i+1,by omega,by omega,ZU j7 j7 w3⟩
 ·obtain rfl:=eq1 hi h;rw[W4];refine wG ?_;refine ZZ 40 rfl (bg _) (wn ?_);refine wT ?_;simp
theorem xQ {l:List Kept} {room:Int} {k:Kept} (hl:SmallK l) (hk:k.node.Small) (h:c_ l room k=none):Fo 112 [.sl (l.map ZK),.int .i64 room,.agg (ZK k)] (.tup [.sl (([]:List Kept).map ZK),.int .i64 5]):=by
 have:=C7 l room k hl hk;unfold rC at this;rw[h] at this;exact this
theorem Gl {l L:List Kept} {room:Int} {k:Kept} (hl:SmallK l) (hk:k.node.Small) (h:c_ l room k=some L):Fo 112 [.sl (l.map ZK),.int .i64 room,.agg (ZK k)] (.tup [.sl (L.map ZK),.int .i64 0]):=by
 have:=C7 l room k hl hk;unfold rC at this;rw[h] at this;exact this
theorem nf {l:List Kept} {room:Int} {k:Kept} (hl:l.length<=90000000) (h:c_ l room k=none):Fo 98 [.sl (l.map ZK),.int .i64 room,.agg (ZK k)] (.tup [.sl (([]:List Kept).map ZK),.int .i64 5]):=by
 have:=AF l room k hl;unfold rC at this;rw[h] at this;exact this
theorem kZ {l L:List Kept} {room:Int} {k:Kept} (hl:l.length<=90000000) (h:c_ l room k=some L):Fo 98 [.sl (l.map ZK),.int .i64 room,.agg (ZK k)] (.tup [.sl (L.map ZK),.int .i64 0]):=by
 have:=AF l room k hl;unfold rC at this;rw[h] at this;exact this
variable {Fa:Prop}
def uH (u:U) (G Y N:Nat->Nat):List (Nat×Blk):=[(900,.cells 121 13 [bx u])]++pins [900] G Y N
theorem Ek {l:List Kept} (hn:(l.map λk=>k.node.fid).Nodup) {fid:Int} {i:Nat} (hi:i<l.length) (hf:(l.getD i default).node.fid=fid):dZ (l.take (i+1)) fid=some (l.getD i default).node/\dZ (l.take i) fid=none:=by
 have h0:dZ (l.take i) fid=none:=by
  unfold dZ;rw[Option.map_eq_none_iff,List.find?_eq_none];intro x hx;obtain ⟨j,hj⟩:=W9 hx;have hjl:=(W6.1 hj).1;rw[YA] at hjl;rw[YU,if_pos z8] at hj;simp only[beq_iff_eq];intro e;have h2:l[i]? = some (l.getD i default):=by rw[List.getD_eq_getElem?_getD,Wz hi];rfl
  have:=An hn hj h2 (e.trans hf.symm);omega
 refine ⟨?_,h0⟩;unfold dZ at h0 ⊢;rw[ZT hi,List.find?_append];rw[Option.map_eq_none_iff] at h0;have hb:((l.getD i default).node.fid==fid)=true:=by rw[hf];exact beq_self_eq_true _
 rw[h0,Option.none_or,List.find?_cons];simp only[hb,Option.map_some]
theorem BY {l:List Kept} {fid:Int} {i:Nat} (hi:i<l.length) (hf:(l.getD i default).node.fid≠fid):dZ (l.take (i+1)) fid=dZ (l.take i) fid:=by
 unfold dZ;rw[ZT hi,List.find?_append,List.find?_cons];rw[show ((l.getD i default).node.fid==fid)=false by simpa using hf];simp
def lK (l:List Kept) (f w c:Int) (i:Nat):List Kept:=(l.take i).map (gl f w c)
theorem z_ {l:List Kept} (f w c:Int) {i:Nat} (h:i<l.length):lK l f w c (i+1)=lK l f w c i++[gl f w c (l.getD i default)]:=by unfold lK;rw[ZT h,List.map_append];rfl
theorem BR {l:List Kept} (f w c:Int) {i:Nat} (h:i<=l.length):(lK l f w c i).length=i:=by unfold lK;rw[List.length_map,YA];omega
theorem BQ (l:List Kept) (f w c:Int):lK l f w c l.length=l.map (gl f w c):=by unfold lK;rw[W4]
@[go_sem,simp] theorem Jl (id s:Nat) (rows:List (List AV)) (n:Node):dq id s rows (ZN n)=ZN n:=rfl
@[go_sem,simp] theorem Jn (off:Nat) (n:Node):gP off (ZN n)=ZN n:=rfl
@[go_sem,simp] theorem K3 (n:Node):(ZN n).length=5:=rfl
theorem fY {l:List AV} (h:aB l=[]) {x:AV} (hx:x∈l) (id:Nat):¬id∈refs x:=λhi=>by
 obtain ⟨j,hj⟩:=W9 hx;have:=aX hj hi;rw[h] at this;cases this
def iG (g:Got):AV:=.tup [.agg (ZN g.n),.int .i64 g.e]
theorem pO {B T:Nat} (u:U) (h:UInvF Fa B T u) (hB:B<=40000000) (hT:T<=1000000000000) (fid worth:Int) (G Y N:Nat->Nat):aj prog 90 [.ptr 900 13 0 0,.int .i64 fid,.int .i64 worth] (uH u G Y N)
  (λr H=>r=iG (bd u fid worth)/\Holds (uH (bd u fid worth).u G Y N) H):=by
 have hcl:=h.cli.clock;have hlen:u.c.cache.length<=24:=by have:=h.cli.len;have:=h.cli.room;omega
 have hnod:=h.cli.nod;have hup:=h.srv.hist.bR.up;have htl:u.s.tree.length<=24:=h.srv.hist.bR.len;have hw:IntKind.i64.wrap (u.c.clock+1)=u.c.clock+1:=Eng.wrap_small z8 z8;have hof:=wE u.s.tree z8;have hgf:∀k,br (mN (bQ u.s.tree)) k=(ak u.s.tree k).map λn=>AV.agg (ZN n):=λk=>by rw[iJ,cM hup]
 have hgu:bd u fid worth=match dZ u.c.cache fid with
  | some n=>⟨n,0,cC u fid worth⟩
  | none=>if u.c.away=true then ⟨ax,12,cC u fid worth⟩ else match ak u.s.tree fid with
   | none=>⟨ax,6,cC u fid worth⟩
   | some n=>⟨n,0,gQ (cC u fid worth) ⟨n,false,worth,u.c.clock+1⟩⟩:=rfl
 have hD0:lK u.c.cache fid worth (u.c.clock+1) 0=[]:=rfl;have hDs:=λi=>@z_ u.c.cache fid worth (u.c.clock+1) i
 have hDn:=λi=>@BR u.c.cache fid worth (u.c.clock+1) i
 have hDe:=BQ u.c.cache fid worth (u.c.clock+1);generalize lK u.c.cache fid worth (u.c.clock+1)=D at *;unfold uH bx;refine wS func90 ntmps90 results90 λC=>?_
 refine wG ?_ w4 y7;refine af (le_empty 57 138 8 z7) (wn ?_);refine af (av 6) ?_;refine af (av 9) (wn ?_);refine wL u.c.cache.length (λi=>(8,.osl 57 8 0 i)::(10,.bool (dZ (u.c.cache.take i) fid).isSome)::(12,.any)::(31,.int .i64 i)::u0 32 27 [])
  (λi=>[(9,.cells 94 5 [ZN ((dZ (u.c.cache.take i) fid).getD ax)]),(57,.cells 138 8 ((D i).map ZK))]) ?_ λi hi=>?_
 ·simp only[go_sem];rw[hD0];exact ZU (by simp[go_sem,dZ]) (by simp[go_sem,dZ,ZN,ax]) QU
 simp only[go_sem];refine wGD (λh=>?_) (λh=>?_)
 ·have hlt:=lt1 h;have hg:=Fam.getD (f:=ZK) hlt;have hw1:=wi1 (i:=i) z8;have hgt:=hDs i hlt;have hDl:=hDn i hi;have hit:=@Ek u.c.cache hnod fid i hlt;have hms:=@BY u.c.cache fid i hlt;generalize D i=Di at *;generalize u.c.cache.getD i default=k at *;have htq:List.take i (Di.map ZK)=Di.map ZK:=W1 (by simp[hDl]);refine wGq ?_ ?_ j9
  ·simp[hg,ZK,hlt]
  refine wD (λh=>?_) (λh=>?_)
  ·have hf:k.node.fid=fid:=by simpa using h
   obtain ⟨hnk,hn0⟩:=hit hf;refine wGD (λh=>?_) (λh=>?_)
   ·have hwo:k.worth<worth:=by simpa using h
    have hk:gl fid worth (u.c.clock+1) k={ k with last:=u.c.clock+1,worth:=worth }:=by unfold gl mS;rw[if_pos hf,if_pos hwo]
    refine wGq ?_ ?_ k8
    ·simp[htq,refs];refine ⟨by omega,by omega,λx hx=>?_,λx hx y hy=>fY (kx x) hy _⟩
     first | exact fY (ky _) hx _ | skip
    exact ZB ⟨i+1,by omega,by omega,ZU Wu Z5 w3⟩
   ·have hwo:¬worth>k.worth:=by simpa using h
    have hk:gl fid worth (u.c.clock+1) k={ k with last:=u.c.clock+1 }:=by unfold gl mS;rw[if_pos hf,if_neg hwo]
    refine wGq ?_ ?_ k8
    ·simp[htq,refs];refine ⟨by omega,by omega,λx hx=>?_,λx hx y hy=>fY (kx x) hy _⟩
     first | exact fY (ky _) hx _ | skip
    exact ZB ⟨i+1,by omega,by omega,ZU Wu Z5 w3⟩
  ·have hf:k.node.fid≠fid:=by simpa using h
   have hnk:=hms hf;have hk:gl fid worth (u.c.clock+1) k=k:=by unfold gl;rw[if_neg hf]
   refine wGq ?_ ?_ k8
   ·simp[htq,refs];refine ⟨by omega,by omega,λx hx=>?_,λx hx y hy=>fY (kx x) hy _⟩
    first | exact fY (ky _) hx _ | skip
   exact ZB ⟨i+1,by omega,by omega,ZU Wu Z5 w3⟩
 ·obtain rfl:=eq1 hi h;rw[W4,hDe];refine wR ?_;have htk:List.take u.c.cache.length ((u.c.cache.map (gl fid worth (u.c.clock+1))).map ZK)=(u.c.cache.map (gl fid worth (u.c.clock+1))).map ZK:=W1 w8;refine ZZ 57 rfl (bg _) ?_;simp only[go_sem,htk];refine wG ?_;clear hgu;cases hnk:dZ u.c.cache fid with
  | some n=>
   have hG:bd u fid worth=⟨n,0,cC u fid worth⟩:=by unfold bd;rw[hnk]
   rw[hG];refine wDT ?_ (hb:=rfl);refine wG ?_ w5 QU;refine wU ?_ ?_
   ·rfl
   ·exact q9
  | none=>
   refine wFG ?_ (hb:=rfl);cases ha:u.c.away with
   | true=>
    have hG:bd u fid worth=⟨ax,12,cC u fid worth⟩:=by unfold bd;rw[hnk];simp[ha]
    rw[hG];refine wDT ?_ (hb:=rfl);refine wG ?_ QP (by simp[go_sem,ZN,ax]);refine wU ?_ ?_
    ·rfl
    ·skip
     simp only[pins,gH,gI,gJ,gK]
     repeat' refine ZH ?_ ?_
     all_goals first | exact YH _ | rfl | simp[go_sem,cC,ha]
   | false=>
    refine wFG ?_ (hb:=rfl);refine wC ?_ func27 (hf:=hof);have hg1:=hgf fid;cases hff:ak u.s.tree fid with
    | none=>
     rw[hff] at hg1;simp only[Option.map_none] at hg1;have hG:bd u fid worth=⟨ax,6,cC u fid worth⟩:=by unfold bd;rw[hnk];simp[ha,hff]
     rw[hG];refine wG ?_ p6 Qm;refine wTG ?_ (hb:=rfl);refine af (av 6) (wn ?_);refine wU ?_ ?_
     ·rfl
     ·skip
      simp only[pins,gH,gI,gJ,gK]
      repeat' refine ZH ?_ ?_
      all_goals first | exact YH _ | rfl | simp[go_sem,cC,ha]
    | some n=>
     rw[hff] at hg1;simp only[Option.map_some] at hg1;refine wG ?_ x8 n4;refine wFG ?_ (hb:=rfl);have hcz:(u.c.cache.map (gl fid worth (u.c.clock+1))).length<=90000000:=by rw[List.length_map];omega
     have hG:bd u fid worth=⟨n,0,gQ (cC u fid worth) ⟨n,false,worth,u.c.clock+1⟩⟩:=by unfold bd;rw[hnk];simp[ha,hff]
     rw[hG];refine wO ?_;refine sN 17 ?_;refine sB ?_;cases hkp:c_ (u.c.cache.map (gl fid worth (u.c.clock+1))) u.c.room ⟨n,false,worth,u.c.clock+1⟩ with
     | none=>
      have hk:=nf hcz hkp;have hKU:gQ (cC u fid worth) ⟨n,false,worth,u.c.clock+1⟩=cC u fid worth:=by unfold gQ cC;simp only[hkp]
      rw[hKU];refine sC ?_ func98 (hf:=hk);refine sG ?_;refine wXG ?_;refine wFG ?_ (hb:=rfl);refine wU ?_ ?_
      ·rfl
      ·skip
       simp only[pins,gH,gI,gJ,gK]
       repeat' refine ZH ?_ ?_
       all_goals first | exact YH _ | rfl | simp[go_sem,cC,ha]
     | some L=>
      have hk:=kZ hcz hkp;have hKU:gQ (cC u fid worth) ⟨n,false,worth,u.c.clock+1⟩=⟨{ (cC u fid worth).c with cache:=L },u.s⟩:=by unfold gQ cC;simp only[hkp]
      rw[hKU];refine sC ?_ func98 (hf:=hk);refine sG ?_;refine wXG ?_;refine wTG ?_ (hb:=rfl);refine wU ?_ ?_
      ·rfl
      ·skip
       simp only[pins,gH,gI,gJ,gK]
       repeat' refine ZH ?_ ?_
       all_goals first | exact YH _ | rfl | simp[go_sem,cC,ha]
def Ih (c:UInt8) (s:List UInt8) (i:Nat) (done:List (List UInt8)) (cur:List UInt8):Prop:=
 i<=s.length/\xy c done cur (s.drop i)=du c s/\done.length<=i/\cur.length<=i
theorem Lr (s:List UInt8) (c:UInt8) (hs:s.length<=100000000):Fo 89 [.str s,.int .u8 (c.toNat:Int)] (.sl ((du c s).map a_)):=by
 refine wSG func89 ntmps89 results89 λC=>?_
 refine af (gR 7 20) ?_;refine ZL (λx:Nat×List (List UInt8)×List UInt8=>Ih c s x.1 x.2.1 x.2.2) (λx=>s.length-x.1) (λx=>(5,.osl 20 1 0 (x.2.1.length+1))::(6,.any)::(7,.any)::(10,.int .i64 x.1)::u0 11 28 []) (λx=>[(20,.cells 9 1 (x.2.1.map a_++[[.str x.2.2]]))]) (0,[],[]) ⟨by omega,by rw[List.drop_zero,FK],by simp,by simp⟩ ?_ λx hx=>?_
 ·exact wZ
 obtain ⟨i,done,cur⟩:=x;obtain ⟨hi,hc,hd,hcl⟩:=hx;simp only at hi hc hd hcl;simp only[go_sem];refine wGD (λh=>?_) (λh=>?_)
 ·have hlt:=lt1 h;have hw:=wi1 (i:=i) z8;have hdr:s.drop i=s.getD i 0::s.drop (i+1):=by
   rw[List.getD_eq_getElem?_getD,Wz hlt];simp
  have hdt:(s.take (i+1)).drop i=[s.getD i 0]:=by
   rw[ZT hlt,List.drop_left' QI];rfl
  rw[hdr,xy] at hc;refine wGq ?_ ?_
  ·simp;omega
  generalize s.getD i 0=x at hc hdt;refine wD (λh=>?_) (λh=>?_)
  ·have hx:x=c:=UInt8.toNat_inj.1 (by have:((x.toNat:Nat):Int)=c.toNat:=x7;omega);rw[if_pos hx] at hc;have htk:List.take (done.length+1) (done.map a_++[[AV.str cur]])=done.map a_++[[AV.str cur]]:=W1 w8;refine wGq ?_ ?_ w4
   ·simp[htk,refs];exact ⟨by omega,λx _ y hy=>by simp[a_] at hy;subst hy;simp[refs]⟩
   refine ZB ⟨(i+1,done++[cur],[]),⟨by omega,hc,by simp;omega,by simp⟩,by simp only;omega,ZU ?_ ?_ ?_⟩
   ·simp[go_sem]
   ·simp[go_sem,htk,a_]
   ·simp[go_sem]
  ·have hx:¬x=c:=λe=>by subst e;simp at h
   rw[if_neg hx] at hc;have hgr:(done.map a_++[[AV.str cur]]).getD done.length []=[AV.str cur]:=by simp[List.getD_eq_getElem?_getD]
   have hsub:IntKind.i64.wrap (((done.length+1:Nat):Int)-1)=(done.length:Int):=by rw[Eng.wrap_small z8 z8];omega
   refine wO ?_;refine sNq 17 ?_ ?_ z6 z6 (by simp only[go_sem,hgr,hsub,hw];try exact rfl)
   ·simp[hgr,hsub,hw];omega
   refine sT ?_;refine sE ?_;refine wKd ?_;simp only[go_sem,hdt];refine wG ?_ w4 y7;refine ZB ⟨(i+1,done,cur++[x]),⟨by omega,hc,by simp only;omega,by simp;omega⟩,by simp only;omega,ZU ?_ ?_ ?_⟩
   ·simp[go_sem]
   ·simp[go_sem]
   ·simp[go_sem]
 ·have e:i=s.length:=by simp at h;omega
  subst e;rw[List.drop_length,xy] at hc;have hrows:done.map a_++[[AV.str cur]]=(du c s).map a_:=by rw[<-hc];simp[a_]
  have hlen:done.length+1=(du c s).length:=by rw[<-hc];simp
  rw[hrows,hlen];refine wG ?_;refine ZZ 20 rfl (AZ _) ?_;refine wT ?_;simp
theorem Cd (s:List UInt8) (hs:s.length<=10000000):aj prog 57 [.str s] [] (λr _=>Eng.nrm r=cG (ae s)):=by
 refine wS func57 ntmps57 results57 λC=>?_
 refine wR ?_;refine wN 2 ?_;refine wGD (λh=>?_) (λh=>?_)
 ·have h1:=lt1 h;refine wGT ?_;simp[ae,h1,cG,Eng.nrm,Eng.fq]
 have h1:¬40<s.length:=by simp at h;omega
 refine wGD (λh=>?_) (λh=>?_)
 ·have h2:s=[47]:=by simpa using h
  refine wGT ?_;simp[ae,h1,h2,cG,Eng.nrm,Eng.fq]
 have h2:s≠[47]:=by simpa using h
 refine wR ?_;refine wN 3 ?_;cases s with
 | nil=>
  refine wGD (λh=>?_) (λh=>?_)
  ·refine wGT ?_;simp[ae,cG,Eng.nrm,Eng.fq]
  ·cases h
 | cons x r=>
  refine wGD (λh=>?_) (λh=>?_)
  ·have h3:¬x=47:=λe=>by subst e;simp at h
   have h1':¬40<r.length+1:=h1;refine wGT ?_;simp[ae,h1',h3,cG,Eng.nrm,Eng.fq]
  have h3:x=47:=UInt8.toNat_inj.1 (by have:((x.toNat:Nat):Int)=47:=x7;show x.toNat=47;omega);subst h3;refine wR ?_;refine wN 1 ?_;refine wC ?_ func89 (hf:=Lr (47::r) 47 z8);have hcut:du 47 (47::r)=[]::du 47 r:=by simp[du]
  have hR:ae (47::r)=if (du 47 r).all cH then (du 47 r,0) else ([],7):=by
   simp only[ae,if_neg h1,if_neg h2,List.head?_cons,ne_eq,not_true_eq_false,if_false,List.drop_succ_cons,List.drop_zero]
  have hcl:=ss 47 r;have hcp:=nw 47 r;rw[hR,hcut];generalize du 47 r=L at hcl hcp;simp only[List.length_cons] at hs;refine wGq ?_ ?_
  ·simp[a_]
  refine ZL (λi:Nat=>i<=L.length/\(L.take i).all cH=true) (λi=>L.length-i) (λi=>(6,.any)::(24,.int .i64 i)::u0 25 7 []) (λ_=>[]) 0 ⟨by omega,by simp⟩ ?_ λi hi=>?_
  ·exact wZ
  obtain ⟨hi,hs2⟩:=hi;simp only[go_sem];refine wGD (λh=>?_) (λh=>?_)
  ·have hlt:=lt1 h;have hw:=wi1 (i:=i) z8;have hg:=Fam.getD (f:=a_) hlt;have htk:=ZT hlt;have hmem:L.getD i default∈L:=by rw[List.getD_eq_getElem?_getD,Wz hlt];exact YW hlt
   have hxl:=hcp _ hmem;have hno:cH (L.getD i default)=false->L.all cH=false:=λh0=>by
    cases e:L.all cH with
    | false=>rfl
    | true=>rw[List.all_eq_true.1 e _ hmem] at h0;cases h0
   generalize L.getD i default=x at hg htk hxl hno hmem;refine wGq ?_ ?_ Zj
   ·simp[hg,a_,hlt]
   refine wC ?_ func49 (hf:=AG x z8);refine wGD (λh=>?_) (λh=>?_)
   ·have h0:cH x=false:=by simpa using h
    refine wGT ?_;simp[hno h0,cG,Eng.nrm,Eng.fq]
   ·have h0:cH x=true:=by simpa using h
    refine wG ?_ w4 y7;refine ZB ⟨i+1,⟨by omega,by rw[htk,List.all_append,hs2];simp[h0]⟩,by omega,ZU ?_ ?_ ?_⟩
    ·simp[go_sem]
    ·simp[go_sem]
    ·simp[go_sem]
  ·obtain rfl:=eq1 hi h;rw[W4] at hs2;refine wGT ?_;simp[hs2,cG,Eng.nrm,Eng.fq,Ar]
theorem ju (s:List UInt8) (hs:s.length<=10000000):Fo 57 [.str s] (cG (ae s)):=xJ (Cd s hs)
variable {Fa:Prop}
@[go_sem,simp] theorem uV (u:U):aB (bx u)=[]:=rfl
@[go_sem,simp] theorem Li (u:U):(bx u).length=13:=rfl
structure NodeOK (n:Node):Prop where
 eup:EUp n.entries
 ent:n.entries.length<=6
 data:n.data.length<=20
theorem NodeOK.small {n:Node} (h:NodeOK n):n.Small:=⟨by have:=h.data;omega,by have:=h.ent;omega⟩
theorem NodeOK.zero:NodeOK ax:=⟨List.Pairwise.nil,by simp[ax],by simp[ax]⟩
theorem kU {l:List Kept} {f:Int} {n:Node} (h:dZ l f=some n):∃k,k∈l/\k.node=n/\n.fid=f:=by
 unfold dZ at h;obtain ⟨k,hk,rfl⟩:=YV.1 h;exact ⟨k,List.mem_of_find?_eq_some hk,rfl,by simpa using List.find?_some hk⟩
theorem jn {B T:Nat} {u:U} (h:UInvF Fa B T u) (f w:Int):NodeOK (bd u f w).n:=by
 unfold bd;split
 ·rename_i n hn;obtain ⟨k,hk,rfl,_⟩:=kU hn;exact ⟨h.cli.eup k hk,h.cli.ent k hk,h.cli.data k hk⟩
 ·split
  ·exact .zero
  ·split
   ·exact .zero
   ·rename_i n hn;have hm:=((ZO h.srv.hist.bR.up).1 hn).1;exact ⟨(h.srv.hist.whole.loc n hm).eup,h.srv.hist.bR.ent n hm,h.srv.hist.bR.data n hm⟩
theorem zq {B:Nat} (w:Int):∀(l:List (List UInt8)) (T:Nat) (g:Got),UInvF Fa B T g.u->NodeOK g.n->NodeOK (goR w l g).n
 | [],T,g,h,hn=>by
  unfold goR;split
  ·exact hn
  ·exact .zero
 | s::r,T,g,h,hn=>by
  unfold goR;split
  ·exact .zero
  ·split
   ·exact .zero
   ·split
    ·exact .zero
    ·rename_i f _;exact zq w r (T+1) _ (cg h f w) (jn h f w)
theorem pn {B T:Nat} {u:U} (h:UInvF Fa B T u) (l:List (List UInt8)) (w:Int):NodeOK (goU u l w).n:=zq w l (T+1) _ (cg h 0 w) (jn h 0 w)
theorem ji {B T:Nat} {u:U} (h:UInvF Fa B T u) (path:List UInt8):NodeOK (ah u path).n:=by
 unfold ah;split
 ·exact .zero
 ·split
  ·exact .zero
  ·exact pn h _ 0
theorem uz {B T:Nat} (u:U) (h:UInvF Fa B T u) (hB:B<=40000000) (hT:T<=900000000000) (l:List (List UInt8)) (hl:l.length<=1000) (hls:∀x,x∈l->x.length<=1000) (worth:Int) (G Y N:Nat->Nat):aj prog 58 [.ptr 900 13 0 0,.sl (l.map a_),.int .i64 worth] (uH u G Y N)
  (λr H=>r=iG (goU u l worth)/\Holds (uH (goU u l worth).u G Y N) H):=by
 have hg0:=pO u h hB z8 0 worth;have hi0:=cg h 0 worth;have hn0:=jn h 0 worth;have hgo:goU u l worth=goR worth l (bd u 0 worth):=rfl;unfold uH iG at hg0;unfold uH iG;generalize bd u 0 worth=g0 at *;generalize goU u l worth=gF at *;refine wSG func58 ntmps58 results58 λC=>?_
 refine af (av 6) (wn ?_);refine wP ?_ [900] func90 (hf:=hg0);refine wGq ?_ ?_ w5
 ·simp[ZN]
 refine ZL (λq:List (List UInt8)×Got=>gF=goR worth q.1 q.2/\q.1.length<=l.length/\(∀x,x∈q.1->x.length<=1000)/\UInvF Fa B (T+1+(l.length-q.1.length)) q.2.u/\NodeOK q.2.n) (λq=>q.1.length)
  (λq=>(1,.sl (q.1.map a_))::(9,.int .i64 q.2.e)::u0 10 39 [])
  (λq=>[(900,.cells 121 13 [bx q.2.u]),(8,.cells 94 5 [ZN q.2.n])]) (l,g0) ⟨hgo,W7 _,hls,by simpa using hi0,hn0⟩ ?_ λq hq=>?_
 ·simp only[go_sem];exact ZU w3 QU QU
 obtain ⟨r,g⟩:=q;obtain ⟨hgf,hrl,hrs,hui,hno⟩:=hq;simp only at hgf hrl hrs hui hno;simp only[go_sem];refine wR ?_;refine wN 7 ?_;refine wNm 24 λc24 h24=>?_
 have hc:c24=(decide (0<r.length)&&(g.e==0)):=by
  rw[<-h24];cases r<;>simp
 clear h24;refine wG ?_
 by_cases he:g.e=0
 ·cases r with
  | nil=>
   refine wFG ?_ (hb:=by simp[hc]);rw[hgf,goR,if_pos he];refine wDF ?_ (hb:=QE);refine wGq ?_ ?_ w5
   ·simp[ZN]
   refine wU ?_ ?_
   ·simp[ZN]
   ·exact q9
  | cons s r=>
   have hsl:=hrs s List.mem_cons_self;have hent:=js g.n s (by have:=hno.ent;omega);rw[ew hno.eup] at hent;refine wDT ?_ (hb:=by simp[hc,he]);refine wG ?_ w5 QU;cases hd:g.n.dir with
   | false=>
    refine wTG ?_ (hb:=rfl);refine af (av 6) (wn ?_);refine wU ?_ ?_
    ·simp[hgf,goR,he,hd,ZN,ax]
    ·have e:gF.u=g.u:=by simp[hgf,goR,he,hd]
     rw[e];exact q9
   | true=>
    refine wDF ?_ (hb:=rfl);refine wGS ?_;refine sN 4 ?_ z6 z6 (by simp only[go_sem,a_];try exact rfl) (by simp[go_sem,a_]);unfold ZN at hent;rw[hd] at hent;cases hen:ba g.n s with
    | none=>
     rw[hen] at hent;refine sC ?_ func91 (hf:=hent);refine sG ?_;refine wXG ?_;refine wTG ?_ (hb:=rfl);refine af (av 6) (wn ?_);refine wU ?_ ?_
     ·simp[hgf,goR,he,hd,hen,ZN,ax]
     ·have e:gF.u=g.u:=by simp[hgf,goR,he,hd,hen]
      rw[e];exact q9
    | some f=>
     rw[hen] at hent;have hg1:=pO g.u hui hB z8 f worth;unfold uH iG at hg1;have hui2:=cg hui f worth;have hno2:=jn hui f worth;have hgf2:gF=goR worth r (bd g.u f worth):=by rw[hgf,goR,if_neg QE,if_neg (by simp[hd]),hen]
     generalize bd g.u f worth=g2 at *;refine sC ?_ func91 (hf:=hent);refine sG ?_;refine wXG ?_;refine wFG ?_ (hb:=rfl);refine wP ?_ [900] func90 (hf:=hg1);refine wGq ?_ ?_ w5
     ·simp[ZN,a_]
     refine ZB ⟨(r,g2),⟨hgf2,by simp only[List.length_cons] at hrl;simp only;omega,λx hx=>hrs x (List.mem_cons_of_mem _ hx),?_,hno2⟩,by simp,ZU ?_ ?_ ?_⟩
     ·simp only[List.length_cons] at hrl hui2 ⊢;exact hui2.mono (W7 _) z8
     ·simp[go_sem]
     ·simp[go_sem,ZN]
     ·simp[go_sem,ZN]
 ·refine wFG ?_ (hb:=by simp[hc,he]);refine wTG ?_ (hb:=QE);refine af (av 6) (wn ?_);refine wU ?_ ?_
  ·rw[hgf];cases r<;>simp[goR,he,ZN,ax]
  ·rw[hgf];have e:(goR worth r g).u=g.u:=by cases r<;>simp[goR,he]
   rw[e];exact q9
theorem mZ {B T:Nat} (u:U) (h:UInvF Fa B T u) (hB:B<=40000000) (hT:T<=900000000000) (path:List UInt8) (hp:path.length<=10000000) (G Y N:Nat->Nat):aj prog 60 [.ptr 900 13 0 0,.str path] (uH u G Y N)
  (λr H=>r=.tup [.agg (ZN (ah u path).n),.str (ah u path).name,.int .i64 (ah u path).e]/\Holds (uH (ah u path).u G Y N) H):=by
 have hsp:=ju path hp;have hsl:=cm path;have hdu:ah u path=if (ae path).2≠0 then ⟨ax,[],(ae path).2,u⟩
  else if (ae path).1.length=0 then ⟨ax,[],7,u⟩
  else ⟨(goU u ((ae path).1.take ((ae path).1.length-1)) 0).n,(ae path).1.getD ((ae path).1.length-1) [],
   if (goU u ((ae path).1.take ((ae path).1.length-1)) 0).e=0/\(goU u ((ae path).1.take ((ae path).1.length-1)) 0).n.dir=false then 8 else (goU u ((ae path).1.take ((ae path).1.length-1)) 0).e,
   (goU u ((ae path).1.take ((ae path).1.length-1)) 0).u⟩:=rfl
 generalize ah u path=dF at *;unfold cG at hsp;generalize ae path=S at *;obtain ⟨L,E⟩:=S;obtain ⟨hll,hlx⟩:=hsl;simp only at hdu hll hlx hsp;unfold uH;refine wSG func60 ntmps60 results60 λC=>?_
 refine af (av 4) (wn ?_);refine wCg ?_ func57 (hf:=hsp)
 by_cases hE:E=0
 ·refine wFG ?_ (hb:=x6);rw[if_neg x6] at hdu
  by_cases hL:L.length=0
  ·rw[if_pos hL] at hdu;refine wTG ?_ (hb:=by simp[hL]);refine af (av 4) (wn ?_);refine wU ?_ ?_
   ·rw[hdu];simp[ZN,ax]
   ·rw[hdu];exact q9
  ·rw[if_neg hL] at hdu;have hw:IntKind.i64.wrap ((L.length:Int)-1)=((L.length-1:Nat):Int):=by rw[Eng.wrap_small z8 z8];omega
   have hgo:=uz u h hB hT (L.take (L.length-1)) QI (λx hx=>by have:=(hlx x (YF hx)).1;omega) 0;have hgl:(L.map a_).getD (L.length-1) []=[.str (L.getD (L.length-1) [])]:=by
    have hi:L.length-1<L.length:=by omega
    rw[List.getD_eq_getElem?_getD,W2,List.getD_eq_getElem?_getD,Wz hi];rfl
   have hLlt:L.length-1<L.length:=by omega
   have htk:(L.map a_).take (L.length-1)=(L.take (L.length-1)).map a_:=List.map_take.symm;unfold uH iG at hgo;generalize goU u (L.take (L.length-1)) 0=g at *;refine wDF ?_ (hb:=by simp[hL]);refine wR ?_;refine wNq 6 ?_ ?_ z6 z6 (by simp only[go_sem,hw,htk];try exact rfl)
   ·simp[hw,htk];exact λ_ _=>rfl
   refine wP ?_ [900] func58 (hf:=hgo);refine wGq ?_ ?_ w5
   ·simp[ZN]
   by_cases hge:g.e=0
   ·cases hd:g.n.dir with
    | true=>
     have hdF:dF=⟨g.n,L.getD (L.length-1) [],g.e,g.u⟩:=by rw[hdu];simp[hd]
     rw[hdF];refine wDF ?_ (hb:=Wx);refine wGS ?_;refine sN 7 ?_ z6 z6 n9 Qi;refine sN 1 ?_;refine sT ?_;refine sG ?_;refine wXG ?_;refine wU ?_ ?_
     ·first | (simp[ZN];done) | simp[ZN,hd]
     ·exact q9
    | false=>
     have hdF:dF=⟨g.n,L.getD (L.length-1) [],8,g.u⟩:=by rw[hdu];simp[hd,hge]
     rw[hdF];refine wTG ?_ (hb:=Wx);refine wGS ?_;refine sN 7 ?_ z6 z6 n9 Qi;refine sN 1 ?_;refine sT ?_;refine sG ?_;refine wXG ?_;refine wU ?_ ?_
     ·first | (simp[ZN];done) | simp[ZN,hd]
     ·exact q9
   ·have hdF:dF=⟨g.n,L.getD (L.length-1) [],g.e,g.u⟩:=by rw[hdu];simp[hge]
    rw[hdF];refine wDF ?_ (hb:=x9);refine wGS ?_;refine sN 7 ?_ z6 z6 n9 Qi;refine sN 1 ?_;refine sT ?_;refine sG ?_;refine wXG ?_;refine wU ?_ ?_
    ·first | (simp[ZN];done) | simp[ZN,hd]
    ·exact q9
 ·rw[if_pos x6] at hdu;refine wTG ?_ (hb:=x6);refine af (av 4) (wn ?_);refine wU ?_ ?_
  ·rw[hdu];simp[ZN,ax]
  ·rw[hdu];exact q9
variable {Fa:Prop}
def ij (l:List Hoard) (path:List UInt8) (i:Nat):List Hoard:=cx (l.take i) path
theorem xN {l:List Hoard} (path:List UInt8) {i:Nat} (h:i<l.length):ij l path (i+1)=if ((l.getD i default).path==path)=true then ij l path i else ij l path i++[l.getD i default]:=by
 unfold ij cx;rw[ZT h,List.filter_append,List.filter_cons];cases ((l.getD i default).path==path)<;>simp
theorem BA (l:List Hoard) (path:List UInt8) (i:Nat):(ij l path i).length<=i:=by
 have:=W8 (λh:Hoard=>!(h.path==path)) (l.take i);unfold ij cx;rw[YA] at this;omega
theorem Cb {B T:Nat} (u:U) (h:UInvF Fa B T u) (path:List UInt8) (hp:path.length<=10000000) (w:Int) (G Y N:Nat->Nat):aj prog 64 [.ptr 900 13 0 0,.str path,.int .i64 w] (uH u G Y N)
  (λr H=>r=.int .i64 (cX u path w).e/\Holds (uH (cX u path w).u G Y N) H):=by
 have hsp:=ju path hp;have h6:=h.cli.hoards;have hW0:cX u path w=if (ae path).2≠0 then ⟨(ae path).2,u⟩ else if w<0\/w>100 then ⟨3,u⟩
  else if 0<w/\(cx u.c.hoards path).length≥6 then ⟨5,u⟩
  else ⟨0,⟨{ u.c with hoards:=if 0<w then cx u.c.hoards path++[⟨path,w⟩] else cx u.c.hoards path },u.s⟩⟩:=rfl
 have hD0:ij u.c.hoards path 0=[]:=rfl;have hDs:=λi=>@xN u.c.hoards path i
 have hDn:=BA u.c.hoards path;have hDe:ij u.c.hoards path u.c.hoards.length=cx u.c.hoards path:=by unfold ij;rw[W4]
 generalize ij u.c.hoards path=D at *;generalize cX u path w=wF at *;unfold cG at hsp;generalize ae path=S at *;obtain ⟨L,E⟩:=S;simp only at hW0 hsp;unfold uH bx;refine wSG func64 ntmps64 results64 λC=>?_
 refine wCg ?_ func57 (hf:=hsp)
 by_cases hE:E=0
 ·rw[if_neg x6] at hW0;refine wDF ?_ (hb:=x6);refine wR ?_;refine wN 6 ?_;refine wNm 25 λc25 h25=>?_
  have hc:c25=true↔(w<0\/w>100):=by
   rw[<-h25];cases e1:decide (w<0)<;>simp at e1<;>simp[e1]<;>omega
  clear h25;refine wG ?_
  by_cases hwr:w<0\/w>100
  ·rw[if_pos hwr] at hW0;have hW:=hW0;refine wTG ?_ (hb:=hc.2 hwr);refine wU ?_ ?_
   ·rw[hW]
   ·rw[hW];exact q9
  ·rw[if_neg hwr] at hW0;refine wFG ?_ (hb:=by simpa using λh0=>hwr (hc.1 h0));refine af (le_empty 43 118 2 z7) (wn ?_);refine wL u.c.hoards.length (λi=>(9,.osl 43 2 0 (D i).length)::(11,.any)::(32,.int .i64 i)::u0 33 12 []) (λi=>[(43,.cells 118 2 ((D i).map ZJ))]) ?_ λi hi=>?_
   ·simp only[go_sem];rw[hD0];exact ZU w3 w3 w3
   simp only[go_sem];refine wGD (λh=>?_) (λh=>?_)
   ·have hlt:=lt1 h;have hg:=Fam.getD (f:=ZJ) hlt;have hw1:=wi1 (i:=i) z8;have htk:=hDs i hlt;have hll:=hDn i;generalize D i=Di at *;generalize u.c.hoards.getD i default=x at *;have htq:List.take Di.length (Di.map ZJ)=Di.map ZJ:=W1 w8;refine wGq ?_ ?_ Qn
    ·simp[hg,ZJ,hlt]
    cases hb:(x.path==path) with
    | true=>
     rw[hb,if_pos rfl] at htk;refine wDF ?_ (hb:=w8);refine wG ?_ k8 p8;exact ZB ⟨i+1,by omega,by omega,ZU j7 j7 w3⟩
    | false=>
     rw[hb,if_neg Bool.false_ne_true] at htk;refine wDT ?_ (hb:=w8);refine wGq ?_ ?_ k8
     ·simp[htq,refs];omega
     exact ZB ⟨i+1,by omega,by omega,ZU j7 (by simp[go_sem,htk,htq,ZJ]) w3⟩
   ·obtain rfl:=eq1 hi h;have hDl:=hDn u.c.hoards.length;rw[hDe] at hDl ⊢;generalize cx u.c.hoards path=F at *;have htq:List.take F.length (F.map ZJ)=F.map ZJ:=W1 w8;refine wR ?_;refine wN 7 ?_;refine wNm 51 λc51 h51=>?_
    have hc2:c51=true↔(0<w/\F.length≥6):=by
     rw[<-h51];cases e1:decide (w>0)<;>simp at e1<;>simp[e1]<;>omega
    clear h51;refine wG ?_
    by_cases hfl:0<w/\F.length≥6
    ·rw[if_pos hfl] at hW0;have hW:=hW0;refine wTG ?_ (hb:=hc2.2 hfl);refine wU ?_ ?_
     ·rw[hW]
     ·rw[hW];exact q9
    ·rw[if_neg hfl] at hW0;refine wFG ?_ (hb:=by simpa using λh0=>hfl (hc2.1 h0))
     by_cases hw0:0<w
     ·rw[if_pos hw0] at hW0;have hW:=hW0;refine wDT ?_ (hb:=Wm);refine wGq ?_ ?_
      ·simp[htq,refs];omega
      refine ZZ 59 rfl (by rw[List.all_append,eu];rfl) (wn ?_);have htq2:List.take (F.length+1) (F.map ZJ++[[AV.str path,AV.int .i64 w]])=(F++[(⟨path,w⟩:Hoard)]).map ZJ:=by rw[W1 w8,List.map_append];rfl
      rw[htq2];refine wU ?_ ?_
      ·rw[hW]
      ·rw[hW];exact q9
     ·rw[if_neg hw0] at hW0;have hW:=hW0;refine wDF ?_ (hb:=Wm);refine wR ?_;refine ZZ 43 rfl (eu _) ?_;simp only[go_sem,htq];refine wG ?_;refine wU ?_ ?_
      ·rw[hW]
      ·rw[hW];exact q9
 ·rw[if_pos x6] at hW0;have hW:=hW0;refine wTG ?_ (hb:=x6);refine wU ?_ ?_
  ·rw[hW]
  ·rw[hW];exact q9
theorem A9 {u:U} {g:GotV} (h:Idle u g.u) (x:Hoard):Idle u (eH g x).u:=h.trans (di g.u (ae x.path).1 x.worth)
structure VI (Fa:Prop) (B T:Nat) (u:U) (g:GotV) (k:Nat):Prop where
 inv:UInvF Fa B (T+42*k) g.u
 idle:Idle u g.u
 n:g.n<=k
theorem VI.mono {B T:Nat} {u:U} {g:GotV} {k m:Nat} (h:VI Fa B T u g k) (hm:k<=m):VI Fa B T u g m:=⟨h.inv.mono (W7 _) z8,h.idle,Yl h.n hm⟩
theorem VI.step {B T:Nat} {u:U} {g:GotV} {k:Nat} (h:VI Fa B T u g k) (x:Hoard):VI Fa B T u (eH g x) (k+1):=by
 refine ⟨?_,A9 h.idle x,?_⟩
 ·have:=uY h.inv x
  rwa [show T+42*k+42=T+42*(k+1) by omega] at this
 ·have:=h.n;unfold eH;simp only;split<;>omega
theorem AI {B T:Nat} (u:U) (h:UInvF Fa B T u) (ha:u.c.away=true) (G Y N:Nat->Nat):aj prog 65 [.ptr 900 13 0 0] (uH u G Y N)
  (λr H=>r=.tup [.int .i64 0,.int .i64 12]/\Holds (uH u G Y N) H):=by
 unfold uH bx;refine wSG func65 ntmps65 results65 λC=>?_
 refine wTG ?_ (hb:=ha);refine wU ?_ ?_
 ·rfl
 ·exact q9
theorem AJ {B T:Nat} (u:U) (h:UInvF Fa B T u) (ha:u.c.away=false) (hB:B<=30000000) (hT:T<=800000000000) (G Y N:Nat->Nat):aj prog 65 [.ptr 900 13 0 0] (uH u G Y N)
  (λr H=>r=.tup [.int .i64 ((fb u).n:Int),.int .i64 0]/\Holds (uH (fb u).u G Y N) H):=by
 have h6:=h.cli.hoards;have hV:fb u=(bA u.c.hoards 100).foldl eH ⟨0,u⟩:=rfl;have h0:VI Fa B T u ⟨0,u⟩ 0:=⟨h,Idle.refl u,W7 _⟩;generalize fb u=vF at *;unfold uH;refine wS func65 ntmps65 results65 λC=>?_
 refine wG ?_ Z1 Zx;refine wFG ?_ (hb:=ha);refine ZL (λq:Nat×GotV=>q.1<=100/\vF=(bA u.c.hoards q.1).foldl eH q.2/\VI Fa B T u q.2 (6*(100-q.1))) (λq=>q.1) (λq=>(4,.int .i64 (q.2.n:Int))::(5,.int .i64 (q.1:Int))::u0 6 48 [])
  (λq=>[(900,.cells 121 13 [bx q.2.u])]) (100,⟨0,u⟩) ⟨by omega,hV,h0.mono z8⟩ ?_ λq hq=>?_
 ·simp only[go_sem];exact ZU w3 Zx w3
 obtain ⟨w,g⟩:=q;obtain ⟨hw1,hvf,hvi⟩:=hq;simp only at hw1 hvf hvi;simp only[go_sem];refine wG ?_;cases w with
 | zero=>
  refine wFG ?_ (hb:=w8);rw[bA,List.foldl_nil] at hvf;rw[hvf];refine wU ?_ ?_
  ·rfl
  ·exact q9
 | succ w=>
  have hho:=hvi.idle.hoards;refine wDT ?_ (hb:=w8);refine wG ?_ Z1 Zx;rw[hho];have hwp:IntKind.i64.wrap (((w+1:Nat):Int)-1)=((w:Nat):Int):=by rw[Eng.wrap_small z8 z8];omega
  rw[bA,List.foldl_append] at hvf;refine ZL (λq:Nat×GotV=>q.1<=u.c.hoards.length/\vF=(bA u.c.hoards w).foldl eH (((u.c.hoards.drop q.1).filter λh=>h.worth==((w+1:Nat):Int)).foldl eH q.2)/\VI Fa B T u q.2 (6*(100-(w+1))+q.1)) (λq=>u.c.hoards.length-q.1)
   (λq=>(4,.int .i64 (q.2.n:Int))::(27,.int .i64 (q.1:Int))::u0 7 5 (u0 28 25 [])) (λq=>[(900,.cells 121 13 [bx q.2.u])]) (0,g) ⟨Yp _,by rw[List.drop_zero];exact hvf,hvi⟩ ?_ λq hq=>?_
  ·simp only[go_sem];exact ZU w3 (by simp[go_sem,bx,hho]) w3
  obtain ⟨i,g2⟩:=q;obtain ⟨hi,hvf2,hvi2⟩:=hq;simp only at hi hvf2 hvi2;clear hvf hvi h0;simp only[go_sem];refine wGD (λh=>?_) (λh=>?_)
  ·have hlt:=lt1 h;have hg:=Fam.getD (f:=ZJ) hlt;have hwi:=wi1 (i:=i) z8;have hok:=(show UInvF Fa B T u by assumption).cli.hoardS _ (YG hlt);rw[cr hlt,List.filter_cons] at hvf2;generalize u.c.hoards.getD i default=x at *;refine wGq ?_ ?_ Qn
   ·simp[hg,ZJ,hlt]
   cases hb:(x.worth==((w+1:Nat):Int)) with
   | true=>
    have hxw:x.worth=((w+1:Nat):Int):=by simpa using hb
    rw[hb,if_pos rfl,List.foldl_cons] at hvf2;have hst:=hvi2.step x;have hsp:=ju x.path (by have:=hok.path;omega);have hsl:=cm x.path;have hvs:eH g2 x=⟨if (goU g2.u (ae x.path).1 x.worth).e=0 then g2.n+1 else g2.n,(goU g2.u (ae x.path).1 x.worth).u⟩:=rfl;have hgo:=uz g2.u hvi2.inv z8 z8 (ae x.path).1 (by have:=hsl.1;omega) (λy hy=>by have:=(hsl.2 y hy).1;omega) x.worth;rw[hvs] at hvf2 hst;unfold cG at hsp;unfold uH iG at hgo;generalize goU g2.u (ae x.path).1 x.worth=q at *;rw[hxw] at hgo;generalize (ae x.path).1=L at *;have hgn:=hvi2.n;have hwn:IntKind.i64.wrap ((g2.n:Int)+1)=((g2.n+1:Nat):Int):=by rw[Eng.wrap_small z8 z8];rfl
    refine wTG ?_ (hb:=w8);refine wCg ?_ func57 (hf:=hsp);refine wP ?_ [900] func58 (hf:=hgo);refine wGq ?_ ?_ w5
    ·simp[ZN]
    by_cases hqe:q.e=0
    ·rw[if_pos hqe] at hvf2 hst;refine wDT ?_ (hb:=Z7);refine wG ?_ (by simp only[go_sem,hwn,hwi];try exact rfl) (by simp[go_sem,hwn,hwi]);refine ZB ⟨(i+1,⟨g2.n+1,q.u⟩),⟨by simp only;omega,hvf2,hst⟩,by simp only;omega,ZU ?_ ?_ ?_⟩
     ·simp[go_sem]
     ·simp[go_sem]
     ·simp[go_sem]
    ·rw[if_neg hqe] at hvf2 hst;refine wDF ?_ (hb:=Z7);refine wG ?_ Zy (by simp[go_sem,hwi]);refine ZB ⟨(i+1,⟨g2.n,q.u⟩),⟨by simp only;omega,hvf2,hst⟩,by simp only;omega,ZU ?_ ?_ ?_⟩
     ·simp[go_sem]
     ·simp[go_sem]
     ·simp[go_sem]
   | false=>
    rw[hb,if_neg Bool.false_ne_true] at hvf2;refine wDF ?_ (hb:=w8);refine wG ?_ Zy (by simp[go_sem,hwi]);refine ZB ⟨(i+1,g2),⟨by simp only;omega,hvf2,hvi2.mono (by simp only;omega)⟩,by simp only;omega,ZU ?_ ?_ ?_⟩
    ·simp[go_sem]
    ·simp[go_sem]
    ·simp[go_sem]
  ·obtain rfl:=eq1 hi h;rw[List.drop_length,List.filter_nil,List.foldl_nil] at hvf2;refine wG ?_ QJ Zk;refine ZB ⟨(w,g2),⟨by simp only;omega,hvf2,hvi2.mono (by simp only;omega)⟩,by simp only;omega,ZU ?_ ?_ ?_⟩
   ·simp[go_sem]
   ·simp[go_sem,bx]
   ·simp[go_sem]
def keeps (r x:Rec):Bool:=!(r.act.kind==3&&stored r x)
theorem mi (l:List Rec) (r:Rec):cQ l r=l.filter (keeps r):=by
 unfold cQ;split
 ·rename_i h
  congr 1
  funext x
  simp[keeps,h]
 ·rename_i h;rw[Ya.2];intro x _;simp[keeps,h]
def here (d:Int) (n:List UInt8) (b:Act):Bool:=
 ((((b.kind==1||b.kind==2)||b.kind==4)||b.kind==5)&&b.dir==d&&b.name==n)||(b.kind==5&&b.to==d&&b.toName==n)
theorem xM (d:Int) (n:List UInt8) (b:Act):here d n b=fH b d n:=by
 unfold here fH
 by_cases h1:b.kind=1
 ·simp[h1]
 ·by_cases h2:b.kind=2
  ·simp[h2]
  ·by_cases h4:b.kind=4
   ·simp[h4]
   ·by_cases h5:b.kind=5
    ·simp[h5]
    ·simp[h1,h2,h4,h5]
def dJ (l:List Rec) (r:Rec) (i:Nat):List Rec:=(l.take i).filter λx=>!(x.names r.act.fid)
def sn (l:List Rec) (r:Rec) (i:Nat):Int:=(l.take i).foldl (cI r) 0
def bP (l:List Rec) (r:Rec) (i:Nat):List Rec:=(l.take i).filter (keeps r)
theorem wJ (l:List Rec) (r:Rec) (hl:SmallL l) (hr:r.act.Small):aj prog 96 [.sl (l.map ZR),.agg (ZR r)] [] (λx _=>x=gg (dt l r)):=by
 have hlen:=hl.len;refine wS func96 ntmps96 results96 λC=>?_
 refine wGq ?_ ?_ u2
 ·simp[go_sem]
 refine ZZ 3 rfl (rfl) ?_;refine ZZ 6 rfl (rfl) (wn ?_);refine wD (λh=>?_) (λh=>?_)
 ·have hk4:r.act.kind=4:=eq_of_beq h;refine wG ?_;refine wL l.length (λi=>(24,.int .i64 (i:Nat))::(8,.int .i64 (sn l r i))::(7,.osl 135 9 0 (dJ l r i).length)::u0 9 8 (u0 25 112 [])) (λi=>[(135,.cells 51 9 ((dJ l r i).map ZR))]) ?_ λi hi=>?_
  ·simp only[go_sem];exact ZU (by simp[go_sem,dJ,sn]) (by simp[go_sem,dJ]) w3
  simp only[go_sem];refine wGD (λh=>?_) (λh=>?_)
  ·have hlt:i<l.length:=by have:=of_decide_eq_true h;omega
   have hg:=Fam.getD (f:=ZR) hlt;have htk:=ZT hlt;generalize l.getD i default=x at hg htk;refine wR ?_;refine wNq 4 ?_ ?_ z6 z6 u6
   ·simp[hlt]
   refine ZZ 10 rfl (rfl) (wn ?_);refine wR ?_;refine wNq 4 ?_ ?_
   ·simp[go_sem]
   refine ZZ 11 rfl (rfl) (wn ?_);have hst:sn l r (i+1)=cI r (sn l r i) x:=by
    unfold sn;rw[htk,List.foldl_append];rfl
   have hout:dJ l r (i+1)=if x.names r.act.fid then dJ l r i else dJ l r i++[x]:=by
    unfold dJ;rw[htk,List.filter_append]
    by_cases hk:x.names r.act.fid=true<;>simp[hk]
   have hol:(dJ l r i).length<=l.length:=by unfold dJ;have:=W8 (λx:Rec=>!x.names r.act.fid) (l.take i);simp at this;omega
   have hw:=wi1 (i:=i) z8;clear hg htk;generalize sn l r i=s at hst;refine wR ?_;refine wN 3 ?_;refine wNm 32 λc32 h32=>?_
   refine wN 5 ?_;refine wNm 37 λc37 h37=>?_
   refine wN 1 ?_;refine wR ?_;refine wN 6 ?_;refine wNm 43 λc43 h43=>?_
   refine wN 5 ?_;refine wNm 48 λc48 h48=>?_
   refine wN 1 ?_;refine wR ?_;refine wN 8 ?_;refine wNm 56 λc56 h56=>?_
   refine wN 7 ?_;refine wNm 63 λc63 h63=>?_
   refine wNq 19 ?_ ?_
   ·simp[go_sem];exact ⟨λa=>⟨a,λb=>⟨a,b⟩⟩,λa=>⟨a,λb c=>⟨a,b,c⟩⟩⟩
   refine wNm 82 λc82 h82=>?_
   refine wN 1 ?_;refine wR ?_;refine wN 2 ?_;refine wNm 85 λc85 h85=>?_
   refine wN 3 ?_;refine wNm 88 λc88 h88=>?_
   refine wN 7 ?_;refine wNm 95 λc95 h95=>?_
   have hA:c95=(s==0&&eA r.act.fid x):=by
    rw[<-h95,<-h88,<-h85,<-h37,<-h32];simp only[cZ,fe,eA,Bool.and_assoc];cases (s==0)<;>cases (x.act.fid==r.act.fid)<;>simp
   have hB:c82=fH x.act r.act.dir r.act.name:=by
    rw[<-xM,<-h82,<-h63,<-h56,<-h48,<-h43,<-h37,<-h32];simp only[cZ,fe,here]
   clear h82 h63 h56 h48 h43 h88 h85 h95;refine wGD (λh=>?_) (λh=>?_)
   ·have hs:s=0/\eA r.act.fid x=true:=by
     have:c95=true:=h;rw[hA,Bool.and_eq_true] at this;exact ⟨eq_of_beq this.1,this.2⟩
    refine wR ?_;refine wN 1 ?_;refine wR ?_;refine wN 5 ?_;refine wNm 100 λc100 h100=>?_
    refine wN 7 ?_;refine wNm 107 λc107 h107=>?_
    have hC:c107=(x.act.dir==r.act.dir&&x.act.name==r.act.name):=by rw[<-h107,<-h100,cZ]
    refine wGD (λh=>?_) (λh=>?_)
    ·have hstv:sn l r (i+1)=1:=by
      have h1:c107=true:=h;rw[hC,Bool.and_eq_true] at h1;rw[hst,hs.1];simp[cI,hs.2,eq_of_beq h1.1,eq_of_beq h1.2]
     refine wGS ?_;refine sN 1 ?_;refine sC ?_ func135 (hf:=fM x.act);refine sN 2 ?_;refine sC ?_ func134 (hf:=pP (cA x.act) Zs r.act.fid);refine sN 1 ?_;refine sE ?_;refine wKd ?_;refine wD (λh=>?_) (λh=>?_)
     ·have hnm:x.names r.act.fid=false:=by simpa[Rec.names] using h
      have hon:dJ l r (i+1)=dJ l r i++[x]:=by rw[hout,hnm];rfl
      refine wGq ?_ ?_ QH
      ·simp[go_sem];omega
      exact ZB ⟨i+1,by omega,by omega,ZU QS WS w3⟩
     ·have hnm:x.names r.act.fid=true:=by simpa[Rec.names] using h
      have hon:dJ l r (i+1)=dJ l r i:=by rw[hout,hnm];rfl
      refine wG ?_ w4 y7;exact ZB ⟨i+1,by omega,by omega,ZU QS Wg w3⟩
    ·have hstv:sn l r (i+1)=2:=by
      have h1:c107=false:=h;have h2:¬(x.act.dir=r.act.dir/\x.act.name=r.act.name):=by
       rintro ⟨e1,e2⟩;rw[hC,e1,e2] at h1;simp at h1
      rw[hst,hs.1];simp only[cI,hs.2,if_true,if_neg h2]
     refine wGS ?_;refine sN 1 ?_;refine sC ?_ func135 (hf:=fM x.act);refine sN 2 ?_;refine sC ?_ func134 (hf:=pP (cA x.act) Zs r.act.fid);refine sN 1 ?_;refine sE ?_;refine wKd ?_;refine wD (λh=>?_) (λh=>?_)
     ·have hnm:x.names r.act.fid=false:=by simpa[Rec.names] using h
      have hon:dJ l r (i+1)=dJ l r i++[x]:=by rw[hout,hnm];rfl
      refine wGq ?_ ?_ QH
      ·simp[go_sem];omega
      exact ZB ⟨i+1,by omega,by omega,ZU QS WS w3⟩
     ·have hnm:x.names r.act.fid=true:=by simpa[Rec.names] using h
      have hon:dJ l r (i+1)=dJ l r i:=by rw[hout,hnm];rfl
      refine wG ?_ w4 y7;exact ZB ⟨i+1,by omega,by omega,ZU QS Wg w3⟩
   ·have hs0:¬(s=0/\eA r.act.fid x=true):=by
     rintro ⟨e1,e2⟩;have h1:c95=false:=h;rw[hA,e1,e2] at h1;cases h1
    refine wGS ?_;refine sN 2 ?_;refine ep 110 z6 (λc110 h110=>?_);simp only[go_sem];refine sN 4 ?_;refine sCC ?_ func135 (hf:=λhb=>(fM x.act));refine sN 2 ?_;refine sCC ?_ func134 (hf:=λhb=>(pP (cA x.act) Zs r.act.fid));refine sNq 7 ?_ ?_
    ·simp[go_sem];exact ⟨λa b=>⟨⟨a,b⟩,λc=>⟨⟨a,b⟩,c⟩⟩,λa=>⟨a,λb=>⟨a,b⟩⟩⟩
    refine ep 125 z6 (λc125 h125=>?_);simp only[go_sem];refine sN 1 ?_;refine sE ?_;refine wKd ?_;have hD:c125=(s==1&&bars r.act.fid r.act.dir r.act.name x):=by
     rw[<-h125,<-h110,hB];simp only[cZ,fe,bars,Rec.names];cases (s==1)<;>cases (fH x.act r.act.dir r.act.name)<;>simp[Bool.and_comm]
    refine wD (λh=>?_) (λh=>?_)
    ·have hstv:sn l r (i+1)=2:=by
      have h1:c125=true:=h;rw[hD,Bool.and_eq_true] at h1;rw[hst,eq_of_beq h1.1];simp[cI,h1.2]
     refine wGS ?_;refine sN 1 ?_;refine sC ?_ func135 (hf:=fM x.act);refine sN 2 ?_;refine sC ?_ func134 (hf:=pP (cA x.act) Zs r.act.fid);refine sN 1 ?_;refine sE ?_;refine wKd ?_;refine wD (λh=>?_) (λh=>?_)
     ·have hnm:x.names r.act.fid=false:=by simpa[Rec.names] using h
      have hon:dJ l r (i+1)=dJ l r i++[x]:=by rw[hout,hnm];rfl
      refine wGq ?_ ?_ QH
      ·simp[go_sem];omega
      exact ZB ⟨i+1,by omega,by omega,ZU QS WS w3⟩
     ·have hnm:x.names r.act.fid=true:=by simpa[Rec.names] using h
      have hon:dJ l r (i+1)=dJ l r i:=by rw[hout,hnm];rfl
      refine wG ?_ w4 y7;exact ZB ⟨i+1,by omega,by omega,ZU QS Wg w3⟩
    ·have hstv:sn l r (i+1)=s:=by
      have h1:c125=false:=h;rw[hst];unfold cI
      by_cases e0:s=0
      ·have hnm:eA r.act.fid x=false:=by
        cases e:eA r.act.fid x with
        | false=>rfl
        | true=>exact absurd ⟨e0,e⟩ hs0
       simp[e0,hnm]
      ·by_cases e1:s=1
       ·have hnb:bars r.act.fid r.act.dir r.act.name x=false:=by
         rw[hD,e1] at h1;simpa using h1
        simp[e1,hnb]
       ·simp[e0,e1]
     refine wGS ?_;refine sN 1 ?_;refine sC ?_ func135 (hf:=fM x.act);refine sN 2 ?_;refine sC ?_ func134 (hf:=pP (cA x.act) Zs r.act.fid);refine sN 1 ?_;refine sE ?_;refine wKd ?_;refine wD (λh=>?_) (λh=>?_)
     ·have hnm:x.names r.act.fid=false:=by simpa[Rec.names] using h
      have hon:dJ l r (i+1)=dJ l r i++[x]:=by rw[hout,hnm];rfl
      refine wGq ?_ ?_ QH
      ·simp[go_sem];omega
      exact ZB ⟨i+1,by omega,by omega,ZU QS WS w3⟩
     ·have hnm:x.names r.act.fid=true:=by simpa[Rec.names] using h
      have hon:dJ l r (i+1)=dJ l r i:=by rw[hout,hnm];rfl
      refine wG ?_ w4 y7;exact ZB ⟨i+1,by omega,by omega,ZU QS Wg w3⟩
  ·have e:i=l.length:=by have:=of_decide_eq_false h;omega
   subst e;have hout:dJ l r l.length=l.filter λx=>!(x.names r.act.fid):=by unfold dJ;rw[W4]
   have hst:(sn l r l.length==1)=eK l r:=by
    unfold sn;rw[W4,mf r hk4]
   refine wGD (λh=>?_) (λh=>?_)
   ·have hc:eK l r=true:=by rw[<-hst];exact h
    refine wG ?_;refine ZZ 135 rfl (dg _) (wn ?_);refine wT ?_;simp[dt,hc,gg,hout]
   ·have hc:eK l r=false:=by rw[<-hst];exact h
    refine wG ?_;refine wL l.length (λi=>(142,.int .i64 (i:Nat))::(7,.osl 166 9 0 (bP l r i).length)::u0 8 132 (u0 143 25 [])) (λi=>[(166,.cells 51 9 ((bP l r i).map ZR))]) ?_ λi hi=>?_
    ·simp only[go_sem];exact ZU Wn Wn w3
    simp only[go_sem];refine wGD (λh=>?_) (λh=>?_)
    ·have hlt:i<l.length:=by have:=of_decide_eq_true h;omega
     have hg:=Fam.getD (f:=ZR) hlt;have htk:=ZT hlt;generalize l.getD i default=x at hg htk;have hkl:(bP l r i).length<=l.length:=by unfold bP;have:=W8 (keeps r) (l.take i);simp at this;omega
     have hkn:bP l r (i+1)=if keeps r x then bP l r i++[x] else bP l r i:=by
      unfold bP;rw[htk,List.filter_append]
      by_cases hk:keeps r x=true<;>simp[hk]
     have hw:=wi1 (i:=i) z8;refine wR ?_;refine wNq 4 ?_ ?_ z6 z6 u6
     ·simp[hlt]
     refine ZZ 16 rfl (rfl) (wn ?_);refine wR ?_;refine wN 3 ?_;refine wNm 148 λc148 h148=>?_
     refine wN 6 ?_;refine wNm 154 λc154 h154=>?_
     refine wN 8 ?_;refine wNm 162 λc162 h162=>?_
     have hK:c162=keeps r x:=by
      rw[<-h162,<-h154,<-h148];simp only[fe,keeps,stored,bne];generalize (r.act.kind==3)=a1;generalize (x.act.kind==3)=a2;generalize (x.act.fid==r.act.fid)=a3;cases a1<;>cases a2<;>cases a3<;>rfl
     refine wGD (λh=>?_) (λh=>?_)
     ·have hk2:bP l r (i+1)=bP l r i++[x]:=by rw[hkn,<-hK,show c162=true from h];rfl
      refine wGq ?_ ?_ QH
      ·simp[go_sem];omega
      exact ZB ⟨i+1,by omega,by omega,ZU QM (by simp[go_sem,hk2,ZR]) w3⟩
     ·have hk2:bP l r (i+1)=bP l r i:=by rw[hkn,<-hK,show c162=false from h];rfl
      refine wG ?_ w4 y7;exact ZB ⟨i+1,by omega,by omega,ZU QM QM w3⟩
    have e:i=l.length:=by have:=of_decide_eq_false h;omega
    subst e;have hkept:bP l r l.length=cQ l r:=by unfold bP;rw[W4,mi]
    have hul:=(je l r).length_le;rw[hkept];have hadd:dt l r=if (cQ l r).length≥20 then none else some (cQ l r++[r]):=by simp only[dt,hc,Bool.false_eq_true,if_false]
    rw[hadd];generalize cQ l r=d at hul;refine wGD (λh=>?_) (λh=>?_)
    ·have hd:d.length≥20:=by have h2:=of_decide_eq_true h;omega
     refine wGT ?_;rw[if_pos hd];rfl
    ·have hd:¬d.length≥20:=by have h2:=of_decide_eq_false h;omega
     refine wGq ?_ ?_ u2
     ·simp[go_sem];omega
     refine ZZ 174 rfl Qg (wn ?_);refine wT ?_;rw[if_neg hd];simp only[gg,List.map_append,List.map_cons,List.map_nil,ZR];rw[W1 w8]
 ·have hc:eK l r=false:=by
   unfold eK;split
   ·rfl
   ·have:(r.act.kind==4)=false:=h;rw[this];rfl
  refine wG ?_;refine wL l.length (λi=>(142,.int .i64 (i:Nat))::(7,.osl 166 9 0 (bP l r i).length)::u0 8 132 (u0 143 25 [])) (λi=>[(166,.cells 51 9 ((bP l r i).map ZR))]) ?_ λi hi=>?_
  ·simp only[go_sem];exact ZU Wn Wn w3
  simp only[go_sem];refine wGD (λh=>?_) (λh=>?_)
  ·have hlt:i<l.length:=by have:=of_decide_eq_true h;omega
   have hg:=Fam.getD (f:=ZR) hlt;have htk:=ZT hlt;generalize l.getD i default=x at hg htk;have hkl:(bP l r i).length<=l.length:=by unfold bP;have:=W8 (keeps r) (l.take i);simp at this;omega
   have hkn:bP l r (i+1)=if keeps r x then bP l r i++[x] else bP l r i:=by
    unfold bP;rw[htk,List.filter_append]
    by_cases hk:keeps r x=true<;>simp[hk]
   have hw:=wi1 (i:=i) z8;refine wR ?_;refine wNq 4 ?_ ?_ z6 z6 u6
   ·simp[hlt]
   refine ZZ 16 rfl (rfl) (wn ?_);refine wR ?_;refine wN 3 ?_;refine wNm 148 λc148 h148=>?_
   refine wN 6 ?_;refine wNm 154 λc154 h154=>?_
   refine wN 8 ?_;refine wNm 162 λc162 h162=>?_
   have hK:c162=keeps r x:=by
    rw[<-h162,<-h154,<-h148];simp only[fe,keeps,stored,bne];generalize (r.act.kind==3)=a1;generalize (x.act.kind==3)=a2;generalize (x.act.fid==r.act.fid)=a3;cases a1<;>cases a2<;>cases a3<;>rfl
   refine wGD (λh=>?_) (λh=>?_)
   ·have hk2:bP l r (i+1)=bP l r i++[x]:=by rw[hkn,<-hK,show c162=true from h];rfl
    refine wGq ?_ ?_ QH
    ·simp[go_sem];omega
    exact ZB ⟨i+1,by omega,by omega,ZU QM (by simp[go_sem,hk2,ZR]) w3⟩
   ·have hk2:bP l r (i+1)=bP l r i:=by rw[hkn,<-hK,show c162=false from h];rfl
    refine wG ?_ w4 y7;exact ZB ⟨i+1,by omega,by omega,ZU QM QM w3⟩
  have e:i=l.length:=by have:=of_decide_eq_false h;omega
  subst e;have hkept:bP l r l.length=cQ l r:=by unfold bP;rw[W4,mi]
  have hul:=(je l r).length_le;rw[hkept];have hadd:dt l r=if (cQ l r).length≥20 then none else some (cQ l r++[r]):=by simp only[dt,hc,Bool.false_eq_true,if_false]
  rw[hadd];generalize cQ l r=d at hul;refine wGD (λh=>?_) (λh=>?_)
  ·have hd:d.length≥20:=by have h2:=of_decide_eq_true h;omega
   refine wGT ?_;rw[if_pos hd];rfl
  ·have hd:¬d.length≥20:=by have h2:=of_decide_eq_false h;omega
   refine wGq ?_ ?_ u2
   ·simp[go_sem];omega
   refine ZZ 174 rfl Qg (wn ?_);refine wT ?_;rw[if_neg hd];simp only[gg,List.map_append,List.map_cons,List.map_nil,ZR];rw[W1 w8]
end La
