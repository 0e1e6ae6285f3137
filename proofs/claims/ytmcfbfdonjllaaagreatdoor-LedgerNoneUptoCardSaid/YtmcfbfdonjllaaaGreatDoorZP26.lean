/- Texts of this claim, part 26: Take, PSort, PCli, PNm, PWor. No condition. -/
import Derived.Test.YtmcfbfdonjllaaaGreatDoorZP23
set_option maxRecDepth 10000
set_option maxHeartbeats 4000000
set_option linter.unusedSimpArgs false
set_option linter.unusedVariables false
namespace La
open Go Go.Eng Go.Proofs Go.Proofs.Tryz
def fJ (s:Srv) (c:Int) (done:List Act) (i:Nat):List Past:=s.past++(done.take i).map λa=>⟨c,a⟩
theorem rQ (s:Srv) (c:Int) {done:List Act} {i:Nat} (h:i<done.length):fJ s c done (i+1)=fJ s c done i++[⟨c,done.getD i default⟩]:=by
 unfold fJ;rw[ZT h,List.map_append,List.append_assoc];rfl
theorem ui (s:Srv) (c:Int) (done:List Act) {i:Nat} (h:i<=done.length):(fJ s c done i).length=s.past.length+i:=by
 unfold fJ;simp;omega
theorem Db (s:Srv) (h:SrvOK 40000000 s) (c:Int) (log:List Rec) (hlog:SmallL log) (hl2:log.length<=2000000) (hfit:∀r,r∈log->ActFit r.act) :
  ai prog 45 [.agg (ZQ s),.int .i64 c,.sl (log.map ZR)] []
   (λr _=>r=.tup [.agg (ZQ (iS s c log)),.sl ((bM s.tree s.next ((s.past.length+1:Nat):Int) log).vs.map ZV)]):=by
 have hn:=h.next;have hlen:=h.len;have hsp:SmallP s.past:=⟨by omega,λp hp=>by
  obtain ⟨st,_,_,h3⟩:=h.hist.st;obtain ⟨i,hi⟩:=YC hp;have hil:=(W9.1 hi).1;have:=(h3 i hil).2.1.data
  rwa [show s.past.getD i default=p by rw[List.getD_eq_getElem?_getD,hi];rfl] at this⟩
 have hv:=uS s z8;have hso:=AK s h.hist.bs.small hsp;have hj:=FZ s.past s.tree s.next log h.hist z8 z8 hlog hl2 hfit;have hinv:=(JInv.rC h.hist c s.next log hfit).len;have hT:iS s c log=⟨(bM s.tree s.next ((s.past.length+1:Nat):Int) log).j.l,(bM s.tree s.next ((s.past.length+1:Nat):Int) log).j.next,fJ s c (bM s.tree s.next ((s.past.length+1:Nat):Int) log).done (bM s.tree s.next ((s.past.length+1:Nat):Int) log).done.length⟩:=by
  unfold iS fJ;rw[W7]
 rw[hT];clear hT;unfold ZQ at hv hso ⊢;generalize bM s.tree s.next ((s.past.length+1:Nat):Int) log=g at *;have hsu:=λi=>@rQ s c g.done i
 have hle:=λi=>@ui s c g.done i
 have hz:fJ s c g.done 0=s.past:=by simp[fJ]
 generalize fJ s c g.done=P at *;refine wSG func45 ntmps45 results45 λC=>?_
 refine ZZ 3 rfl (rfl) (wn ?_);refine wO ?_;refine sN 5 ?_;refine sC ?_ func86 (hf:=hv);refine sN 1 ?_;refine sC ?_ func85 (hf:=hj);refine sG ?_;refine wXG ?_;refine wCG ?_ [] 18 func40 (hf:=hso);refine wG ?_;refine wL g.done.length (λi=>(14,.any)::(29,.any)::(36,.int .i64 i)::u0 37 12 [])
  (λi=>[(12,.cells 32 3 [[.sl (g.j.l.map ZN),.int .i64 g.j.next,.osl 46 8 0 (P i).length]]),(46,.cells 79 8 ((P i).map ZP))]) ?_ λi hi=>?_
 ·rw[hz];exact wZ
 simp only[go_sem];refine wGD (λh=>?_) (λh=>?_)
 ·have hlt:=lt1 h;have hg:=Fam.getD (f:=ZA) hlt;have hs1:=hsu i hlt;have hl1:=hle i z8;have how':=wi1 (i:=i) z8;generalize g.done.getD i default=a at *;generalize P i=Q at *;refine wR ?_;refine wNq 4 ?_ ?_ z6 z6 (by simp only[go_sem,hg,ZA];try exact rfl)
  ·simp[hg,ZA,hlt]
  refine wR ?_;refine wN 6 ?_;refine af (aX 46 12 z6 y9) ?_;refine wGq ?_ ?_ y6
  ·simp[rowsOf,ZP];omega
  exact ZB ⟨i+1,by omega,by omega,ZU w3 (by simp[go_sem,hs1,ZP,W7]) w3⟩
 ·obtain rfl:=eq1 hi h;refine wG ?_;refine ZZ 46 rfl (dX _) (wn ?_);refine wT ?_;simp
end La
namespace La
open Go Go.Eng
def kZ (l:List Node):List Node:=(bI l).map (·.2)
def ES (fid now:Int) (x:Kept):Kept:=if x.node.fid=fid then { x with last:=now } else x
theorem B6 (v:Bool) (x:Node):dg v x x=true:=by simp[dg]
theorem uA (v:Bool) (l:List Node):gO v l l=true:=(kY v l l).2 ⟨rfl,λj _=>B6 v _⟩
theorem Kx {l:List Kept} (hu:sV l=true) (fid now:Int):ym l fid now=l.map (ES fid now):=by
 have hU:oU l l.length:=of_decide_eq_true hu;unfold ym;cases hk:b_ l fid with
 | none=>
  have hn:∀x,x∈l->x.node.fid≠fid:=λx hx e=>by
   have:=YO.1 hk x hx;simp[e] at this
  refine (List.ext_getElem? λj=>?_);rw[W5];cases hj:l[j]? with
  | none=>rfl
  | some x=>simp[ES,hn x (W6 hj)]
 | some p=>
  obtain ⟨hp,hpf,hno⟩:=YN.1 hk;have hpf:l[p].node.fid=fid:=by simpa using hpf
  have hat:∀j (hj:j<l.length),l[j].node.fid=fid->j=p:=λj hj e=>by
   have hf:∀i (hi:i<l.length),yW l i=l[i].node.fid:=λi hi=>by unfold yW;rw[List.getD_eq_getElem?_getD,W3 hi];rfl
   rcases Nat.lt_trichotomy j p with h1 | h1 | h1
   ·exact absurd (by rw[hf j hj,hf p hp,e,hpf]) (hU p hp j h1)
   ·exact h1
   ·exact absurd (by rw[hf j hj,hf p hp,e,hpf]) (hU j hj p h1)
  refine List.ext_getElem? λj=>?_
  simp only;rw[W5,YP]
  by_cases hjp:p=j
  ·subst hjp;rw[if_pos rfl,if_pos hp,W3 hp];simp[ES,hpf,List.getD_eq_getElem?_getD,W3 hp]
  ·rw[if_neg hjp];cases hj:l[j]? with
   | none=>rfl
   | some x=>
    obtain ⟨hjl,hje⟩:=W9.1 hj;have:x.node.fid≠fid:=λe=>hjp (hat j hjl (by rw[hje];exact e)).symm
    simp[ES,this]
theorem xT {l:List Kept} (h:SmallK l):Small (aO l):=⟨by unfold aO;rw[List.length_map];exact h.len,λx hx=>by
 obtain ⟨k,hk,rfl⟩:=W8.1 hx;exact h.each k hk⟩
theorem nF (l:List Node):∀i,∀p,p∈jZ l i->p.2.fid=p.1
 | 0,p,hp=>by cases hp
 | i+1,p,hp=>by
  obtain ⟨k,x⟩:=p;have:=(cd (jC l i) k x).1 hp
  rcases this with ⟨rfl,rfl⟩ | ⟨_,h⟩
  ·rfl
  ·exact nF l i _ h
theorem rX:∀p q:List Node,p.Pairwise (λa b=>a.fid<b.fid)->q.Pairwise (λa b=>a.fid<b.fid)->(∀x,x∈p↔x∈q)->p=q
 | [],q,_,_,h=>by
  cases q with
  | nil=>rfl
  | cons b q=>exact absurd ((h b).2 List.mem_cons_self) w8
 | a::p,[],_,_,h=>absurd ((h a).1 List.mem_cons_self) w8
 | a::p,b::q,hp,hq,h=>by
  obtain ⟨hp1,hp2⟩:=List.pairwise_cons.1 hp;obtain ⟨hq1,hq2⟩:=List.pairwise_cons.1 hq;have e:a=b:=by
   rcases List.mem_cons.1 ((h a).1 List.mem_cons_self) with h1 | h1
   ·exact h1
   ·rcases List.mem_cons.1 ((h b).2 List.mem_cons_self) with h2 | h2
    ·exact h2.symm
    ·have:=hp1 b h2;have:=hq1 a h1;omega
  subst e;rw[rX p q hp2 hq2 λx=>⟨λhx=>?_,λhx=>?_⟩]
  ·rcases List.mem_cons.1 ((h x).1 (List.mem_cons_of_mem _ hx)) with h1 | h1
   ·have:=hp1 x hx;rw[h1] at this;omega
   ·exact h1
  ·rcases List.mem_cons.1 ((h x).2 (List.mem_cons_of_mem _ hx)) with h1 | h1
   ·have:=hq1 x hx;rw[h1] at this;omega
   ·exact h1
theorem oO (l:List Node):(kZ l).Pairwise λa b=>a.fid<b.fid:=by
 unfold kZ;rw[List.pairwise_map];refine List.Pairwise.imp_of_mem ?_ (bA l);intro a b ha hb h;rw[nF l _ a ha,nF l _ b hb];exact h
theorem wg (l:List Node) (hd:∀i,i<l.length->∀j,j<i->gq l j≠gq l i):∀i,i<=l.length->∀j,j<i->(gq l j,l.getD j default)∈jZ l i
 | 0,_,_,h=>by omega
 | i+1,hi,j,hj=>by
  refine (cd (jC l i) _ _).2 ?_
  by_cases e:j=i
  ·subst e;exact .inl ⟨rfl,rfl⟩
  ·exact .inr ⟨hd i z8 j z8,wg l hd i z8 j z8⟩
theorem wH (l:List Node) (hd:∀i,i<l.length->∀j,j<i->gq l j≠gq l i) (x:Node):x∈kZ l↔x∈l:=by
 constructor
 ·intro h;obtain ⟨p,hp,rfl⟩:=W8.1 h;exact qM l _ (YA _) p hp
 ·intro h;obtain ⟨i,hi,rfl⟩:=List.getElem_of_mem h;refine W8.2 ⟨(gq l i,l.getD i default),wg l hd _ (YA _) i hi,?_⟩;rw[List.getD_eq_getElem?_getD,W3 hi];rfl
theorem uE (l:List Node) (hd:∀i,i<l.length->∀j,j<i->gq l j≠gq l i) (p:List Node) (hp:p.Perm l) (hs:p.Pairwise λa b=>a.fid<=b.fid):p=kZ l:=by
 have hne:l.Pairwise λa b=>a.fid≠b.fid:=by
  rw[Yr];intro i j hi hj hij;have:=hd j hj i hij;unfold gq at this;rw[List.getD_eq_getElem?_getD,List.getD_eq_getElem?_getD,W3 hi,W3 hj] at this;exact this
 have hnp:p.Pairwise λa b=>a.fid≠b.fid:=(hp.pairwise_iff (λh=>Ne.symm h)).2 hne
 refine rX _ _ ?_ (oO l) λx=>by rw[wH l hd,hp.mem_iff]
 rw[Yr] at *;intro i j hi hj hij;have h1:=hs i j hi hj hij;have h2:=hnp i j hi hj hij;omega
theorem wE (l:List Node) (hd:∀i,i<l.length->∀j,j<i->gq l j≠gq l i):(kZ l).length=l.length:=by
 have h1:=List.mergeSort_perm l (λa b=>decide (a.fid<=b.fid));have h2:=List.pairwise_mergeSort (le:=λa b:Node=>decide (a.fid<=b.fid)) (by intro a b c;simp;omega) (by intro a b;simp;omega) l;rw[<-uE l hd _ h1 (h2.imp w8)];exact h1.length_eq
structure Hoard where
 path:List UInt8
 worth:Int
deriving DecidableEq,Inhabited
structure Cli where
 number:Int
 away:Bool
 room:Int
 cache:List Kept
 log:List Rec
 repair:List Rec
 hoards:List Hoard
 clock:Int
 made:Int
 logged:Int
deriving DecidableEq,Inhabited
structure U where
 c:Cli
 s:Srv
structure Step where
 kind:Int
 client:Int
 n:Int
 path:List UInt8
 toPath:List UInt8
 data:List UInt8
deriving DecidableEq,Inhabited
structure Reply where
 err:Int
 n:Int
 m:Int
 data:List UInt8
deriving DecidableEq,Inhabited
structure Wor where
 s:Srv
 cs:List Cli
def gb (fid worth clk:Int) (k:Kept):Kept:=if k.node.fid=fid then { k with last:=clk,worth:=mT k.worth worth } else k
def cy (u:U) (fid worth:Int):U:=⟨{ u.c with clock:=u.c.clock+1,cache:=u.c.cache.map (gb fid worth (u.c.clock+1)) },u.s⟩
def gx (u:U) (k:Kept):U:=match cT u.c.cache u.c.room k with
 | some l=>⟨{ u.c with cache:=l },u.s⟩
 | none=>u
def dV (l:List Kept) (fid:Int):Option Node:=(l.find? λk=>k.node.fid==fid).map (·.node)
structure Got where
 n:Node
 e:Int
 u:U
def bd (u:U) (fid worth:Int):Got:=match dV u.c.cache fid with
 | some n=>⟨n,0,cy u fid worth⟩
 | none=>if u.c.away=true then ⟨aw,12,cy u fid worth⟩ else match ak u.s.tree fid with
  | none=>⟨aw,6,cy u fid worth⟩
  | some n=>⟨n,0,gx (cy u fid worth) ⟨n,false,worth,u.c.clock+1⟩⟩
def goR (worth:Int):List (List UInt8)->Got->Got
 | [],g=>if g.e=0 then g else ⟨aw,g.e,g.u⟩
 | s::r,g=>if g.e≠0 then ⟨aw,g.e,g.u⟩ else if g.n.dir=false then ⟨aw,8,g.u⟩ else match ba g.n s with
  | none=>⟨aw,6,g.u⟩
  | some f=>goR worth r (bd g.u f worth)
def goU (u:U) (l:List (List UInt8)) (worth:Int):Got:=goR worth l (bd u 0 worth)
structure GotD where
 n:Node
 name:List UInt8
 e:Int
 u:U
def ah (u:U) (path:List UInt8):GotD:=
 if (ae path).2≠0 then ⟨aw,[],(ae path).2,u⟩
 else if (ae path).1.length=0 then ⟨aw,[],7,u⟩
 else ⟨(goU u ((ae path).1.take ((ae path).1.length-1)) 0).n,(ae path).1.getD ((ae path).1.length-1) [],
  if (goU u ((ae path).1.take ((ae path).1.length-1)) 0).e=0/\(goU u ((ae path).1.take ((ae path).1.length-1)) 0).n.dir=false then 8 else (goU u ((ae path).1.take ((ae path).1.length-1)) 0).e,
  (goU u ((ae path).1.take ((ae path).1.length-1)) 0).u⟩
def eV (c:Cli) (a:Act):Act:=if aR a=true then { a with fid:=-1-c.made } else a
def vl (a:Act) (seen:Int):Int:=if aR a=true then -1 else seen
def cQ (c:Cli):List Node:=kZ (aO c.cache)
def aU (was:List Node) (a:Act) (n:Node):Bool:=!((match ak was n.fid with
 | some o=>dg false o n
 | none=>false)&&(a.kind != 3||n.fid != a.fid))
def fZ (was:List Node) (clk:Int) (n:Node):Kept:=⟨{ n with version:=((ak was n.fid).getD aw).version },true,0,clk⟩
def cu (room clk:Int) (was:List Node) (a:Act):List Node->List Kept->Option (List Kept)
 | [],l=>some l
 | n::r,l=>if aU was a n=true then (match cT l room (fZ was clk n) with
  | none=>none
  | some l'=>cu room clk was a r l') else cu room clk was a r l
structure GotE where
 e:Int
 u:U
def BQ (c:Cli) (a:Act) (seen:Int):Option (List Rec):=dm c.log ⟨eV c a,vl a seen,c.logged+1⟩
noncomputable def lH (c:Cli) (a:Act):List Node:=aK (cQ c) (eV c a) 0
noncomputable def CW (c:Cli) (a:Act):Option (List Kept):=cu c.room c.clock (cQ c) (eV c a) (lH c a) c.cache
noncomputable def kR (u:U) (a:Act) (seen:Int):GotE:=
 if aG (cQ u.c) (eV u.c a)≠0 then ⟨aG (cQ u.c) (eV u.c a),u⟩ else match BQ u.c a seen with
 | none=>⟨5,u⟩
 | some log=>match CW u.c a with
  | none=>⟨5,u⟩
  | some l=>⟨0,⟨{ u.c with cache:=l.filter (λk=>bf (lH u.c a) k.node.fid),log:=log,logged:=u.c.logged+1,made:=if aR a=true then u.c.made+1 else u.c.made },u.s⟩⟩
def mH (c:Cli) (t:List Node):Cli:={ c with cache:=c.cache.filter λk=>!bO t k }
noncomputable def gw (u:U) (a:Act):GotE:=if doE u.s a=0 then ⟨0,⟨mH u.c (doS u.s u.c.number a).tree,doS u.s u.c.number a⟩⟩ else ⟨doE u.s a,u⟩
noncomputable def bY (u:U) (a:Act) (seen:Int):GotE:=if u.c.away=true then kR u a seen else gw u a
def cH (n:Node):Int:=if n.fid<0 then -1 else n.version
def cU (d:Int) (name:List UInt8):Act:=⟨1,0,d,name,0,[],[]⟩
def iQ (d:Int) (name:List UInt8):Act:=⟨2,0,d,name,0,[],[]⟩
def cj (fid:Int) (data:List UInt8):Act:=⟨3,fid,0,[],0,[],data⟩
def di (fid d:Int) (name:List UInt8):Act:=⟨4,fid,d,name,0,[],[]⟩
def eG (fid d:Int) (name:List UInt8) (to:Int) (toName:List UInt8):Act:=⟨5,fid,d,name,to,toName,[]⟩
noncomputable def iz (g:Got) (data:List UInt8):GotE:=if g.e≠0 then ⟨g.e,g.u⟩ else bY g.u (cj g.n.fid data) (cH g.n)
noncomputable def bK (u:U) (path data:List UInt8):GotE:=
 if (ah u path).e≠0 then ⟨(ah u path).e,(ah u path).u⟩
 else if data.length>20 then ⟨4,(ah u path).u⟩
 else match ba (ah u path).n (ah u path).name with
 | some f=>iz (bd (ah u path).u f 0) data
 | none=>if (bY (ah u path).u (cU (ah u path).n.fid (ah u path).name) (-1)).e≠0 then bY (ah u path).u (cU (ah u path).n.fid (ah u path).name) (-1)
  else iz (goU (bY (ah u path).u (cU (ah u path).n.fid (ah u path).name) (-1)).u (ae path).1 0) data
noncomputable def eS (u:U) (path:List UInt8):GotE:=
 if (ah u path).e≠0 then ⟨(ah u path).e,(ah u path).u⟩ else bY (ah u path).u (iQ (ah u path).n.fid (ah u path).name) (-1)
structure GotP where
 d:Int
 name:List UInt8
 n:Node
 e:Int
 u:U
def atU (u:U) (path:List UInt8):GotP:=
 if (ah u path).e≠0 then ⟨0,[],aw,(ah u path).e,(ah u path).u⟩
 else match ba (ah u path).n (ah u path).name with
 | none=>⟨0,[],aw,6,(ah u path).u⟩
 | some f=>⟨(ah u path).n.fid,(ah u path).name,(bd (ah u path).u f 0).n,(bd (ah u path).u f 0).e,(bd (ah u path).u f 0).u⟩
noncomputable def bx (u:U) (path:List UInt8):GotE:=
 if (atU u path).e≠0 then ⟨(atU u path).e,(atU u path).u⟩
 else bY (atU u path).u (di (atU u path).n.fid (atU u path).d (atU u path).name) (cH (atU u path).n)
noncomputable def cW (u:U) (path to:List UInt8):GotE:=
 if (atU u path).e≠0 then ⟨(atU u path).e,(atU u path).u⟩
 else if (ah (atU u path).u to).e≠0 then ⟨(ah (atU u path).u to).e,(ah (atU u path).u to).u⟩
 else bY (ah (atU u path).u to).u (eG (atU u path).n.fid (atU u path).d (atU u path).name (ah (atU u path).u to).n.fid (ah (atU u path).u to).name) (cH (atU u path).n)
def cG:List Rec->List Verdict->List Rec
 | r::l,v::vs=>if v.err=0 then cG l vs else r::cG l vs
 | _,_=>[]
def fz (vs:List Verdict):Nat:=(vs.filter λv=>v.err==0).length
noncomputable def aD (u:U):List Verdict:=(bM u.s.tree u.s.next ((u.s.past.length+1:Nat):Int) u.c.log).vs
noncomputable def iN (u:U):Srv:=iS u.s u.c.number u.c.log
noncomputable def lY (u:U):U:=
 ⟨{ u.c with away:=false,log:=[],repair:=u.c.repair++cG u.c.log (aD u),cache:=(u.c.cache.filter λk=>!k.dirty).filter λk=>!bO (iN u).tree k },iN u⟩
def ct (l:List Hoard) (path:List UInt8):List Hoard:=l.filter λh=>!(h.path==path)
def de (u:U) (path:List UInt8) (worth:Int):GotE:=
 if (ae path).2≠0 then ⟨(ae path).2,u⟩ else if worth<0\/worth>100 then ⟨3,u⟩
 else if 0<worth/\(ct u.c.hoards path).length≥6 then ⟨5,u⟩
 else ⟨0,⟨{ u.c with hoards:=if 0<worth then ct u.c.hoards path++[⟨path,worth⟩] else ct u.c.hoards path },u.s⟩⟩
def bu (l:List Hoard):Nat->List Hoard
 | 0=>[]
 | w+1=>l.filter (λh=>h.worth==((w+1:Nat):Int))++bu l w
structure GotV where
 n:Nat
 u:U
def eB (g:GotV) (h:Hoard):GotV:=⟨if (goU g.u (ae h.path).1 h.worth).e=0 then g.n+1 else g.n,(goU g.u (ae h.path).1 h.worth).u⟩
def fb (u:U):GotV:=(bu u.c.hoards 100).foldl eB ⟨0,u⟩
def oa (l:List Entry):List UInt8:=l.flatMap λe=>e.name++[10]
structure GotS where
 u:U
 r:Reply
def gk (kind:Int) (g:Got):Reply:=
 if g.e≠0 then ⟨g.e,0,0,[]⟩
 else if kind=1 then (if g.n.dir=true then ⟨9,0,0,[]⟩ else ⟨0,0,0,g.n.data⟩)
 else if g.n.dir=true then ⟨0,0,0,oa g.n.entries⟩ else ⟨8,0,0,[]⟩
def cA (e:Int):Reply:=⟨e,0,0,[]⟩
noncomputable def an (u:U) (x:Step):GotS:=
 if x.kind=1\/x.kind=2 then (if (ae x.path).2≠0 then ⟨u,cA (ae x.path).2⟩ else ⟨(goU u (ae x.path).1 0).u,gk x.kind (goU u (ae x.path).1 0)⟩)
 else if x.kind=3 then ⟨(bK u x.path x.data).u,cA (bK u x.path x.data).e⟩
 else if x.kind=4 then ⟨(eS u x.path).u,cA (eS u x.path).e⟩
 else if x.kind=5 then ⟨(bx u x.path).u,cA (bx u x.path).e⟩
 else if x.kind=6 then ⟨(cW u x.path x.toPath).u,cA (cW u x.path x.toPath).e⟩
 else if x.kind=7 then ⟨⟨{ u.c with away:=true },u.s⟩,cA 0⟩
 else if x.kind=8 then ⟨lY u,⟨0,fz (aD u),((aD u).length-fz (aD u):Nat),[]⟩⟩
 else if x.kind=9 then ⟨(de u x.path x.n).u,cA (de u x.path x.n).e⟩
 else if x.kind=10 then (if u.c.away=true then ⟨u,cA 12⟩ else ⟨(fb u).u,⟨0,(fb u).n,0,[]⟩⟩)
 else ⟨u,cA 1⟩
structure GotW where
 w:Wor
 r:Reply
def bE (t:List Node) (c:Cli):Cli:=if c.away=true then c else mH c t
noncomputable def ay (w:Wor) (x:Step):GotW:=
 if x.client<0\/x.client≥w.cs.length then ⟨w,cA 6⟩
 else ⟨⟨(an ⟨w.cs.getD x.client.toNat default,w.s⟩ x).u.s,(w.cs.set x.client.toNat (an ⟨w.cs.getD x.client.toNat default,w.s⟩ x).u.c).map (bE (an ⟨w.cs.getD x.client.toNat default,w.s⟩ x).u.s.tree)⟩,(an ⟨w.cs.getD x.client.toNat default,w.s⟩ x).r⟩
def pC (number room:Int):Cli:=⟨number,false,room,[],[],[],[],0,0,0⟩
def bw (rooms:List Int):Int:=if rooms.length<1\/3<rooms.length then 5 else if rooms.all (λn=>decide (3<=n)&&decide (n<=24)) then 0 else 3
def iy (rooms:List Int) (i:Nat):List Cli:=(List.range i).map λ(j:Nat)=>pC (j:Int) (rooms.getD j 0)
def Lr:Srv:=⟨[gN],1,[]⟩
def kp (rooms:List Int):Wor:=⟨Lr,iy rooms rooms.length⟩
noncomputable def mm (rooms:List Int) (l:List Step):Wor:=l.foldl (λw x=>(ay w x).w) (kp rooms)
def NmE (l:List Entry):Prop:=∀e,e∈l->e.name.length<=40
structure Nm (l:List Node):Prop where
 up:Up l
 nm:∀n,n∈l->NmE n.entries
theorem NmE.nil:NmE []:=λ_ h=>by cases h
theorem wi {s:List UInt8} (h:cr s=true):s.length<=40:=by
 unfold cr at h;rw[Bool.and_eq_true,Bool.and_eq_true,decide_eq_true_eq,decide_eq_true_eq] at h;omega
theorem NmE.enter {l:List Entry} (h:NmE l) {s:List UInt8} (hs:cr s=true) (f:Int):NmE (bD l s f):=λe he=>by
 rcases om he with rfl | he
 ·exact wi hs
 ·exact h e he
theorem NmE.leave {l:List Entry} (h:NmE l) (s:List UInt8):NmE (dp l s):=λe he=>h e (lB he)
theorem Nm.find {l:List Node} (h:Nm l) (k:Int):NmE (ar l k).entries:=by
 unfold ar;cases e:ak l k with
 | none=>exact .nil
 | some n=>exact h.nm n ((ZO h.up).1 e).1
theorem Nm.put {l:List Node} (h:Nm l) {n:Node} (hn:NmE n.entries):Nm (aJ l n):=
 ⟨(bq h.up n).1,λm hm=>by
  rcases fW hm with rfl | hm
  ·exact hn
  ·exact h.nm m hm⟩
theorem Nm.drop {l:List Node} (h:Nm l) (f:Int):Nm (eM l f):=⟨(il h.up f).1,λm hm=>h.nm m (((il h.up f).2 m).1 hm).1⟩
theorem Nm.to {l:List Node} (h:Nm l) (a:Act):NmE (toN l a).entries:=by
 unfold toN;split
 ·exact (h.find _).leave _
 ·exact h.find _
theorem Nm.apply {l:List Node} (h:Nm l) (a:Act) (v:Int):Nm (cv l a v):=by
 have hmk:Nm (dU l a v):=by
  unfold dU;split
  ·rename_i he;unfold cV at he;split at he
   ·split at he
    ·rename_i hr;refine (h.put ?_).put .nil;exact (h.find _).enter (dz hr).1 _
    ·rename_i hr;exact absurd he hr
   ·rename_i hr;exact absurd he hr
  ·exact h
 unfold cv;split
 ·exact hmk
 ·split
  ·exact hmk
  ·split
   ·unfold ez;split
    ·exact h.put (h.find _)
    ·exact h
   ·split
    ·unfold cO;split
     ·exact (h.put ((h.find _).leave _)).drop _
     ·exact h
    ·split
     ·unfold gj;split
      ·rename_i he;have hr:bX (toN l a) a.toName=0:=by
        unfold bG at he;split at he
        ·split at he
         ·split at he
          ·assumption
          ·rename_i hr;exact absurd he hr
         ·rename_i hr;exact absurd he hr
        ·rename_i hr;exact absurd he hr
       refine Nm.put ?_ ((h.to a).enter (dz hr).1 _);split
       ·exact h
       ·exact h.put ((h.find _).leave _)
      ·exact h
     ·exact h
theorem Wh.nm {l:List Node} (h:Wh l) {n:Node} (hn:n∈l):NmE n.entries:=λe he=>wi (h.name n.fid e.name e.fid ⟨n,hn,rfl,he⟩)
variable {Fa:Prop}
theorem vw {l:List Node} {a:Act} {v:Int} {n:Node} (he:aG l a=0) (h:n∈aK l a v):n.version=v\/n∈l:=by
 unfold aG at he;unfold aK at h;have hmk:n∈dU l a v->n.version=v\/n∈l:=λh=>by
  unfold dU at h;split at h
  ·rcases fW h with rfl | h
   ·exact .inl rfl
   ·rcases fW h with rfl | h
    ·exact .inl rfl
    ·exact .inr h
  ·exact .inr h
 split at h
 ·exact hmk h
 ·split at h
  ·exact hmk h
  ·split at h
   ·unfold ez at h;split at h
    ·rcases fW h with rfl | h
     ·exact .inl rfl
     ·exact .inr h
    ·exact .inr h
   ·split at h
    ·unfold cO at h;split at h
     ·rcases fW (YL.1 h).1 with rfl | h
      ·exact .inl rfl
      ·exact .inr h
     ·exact .inr h
    ·split at h
     ·unfold dj at h;split at h
      ·rcases fW h with rfl | h
       ·exact .inl rfl
       ·split at h
        ·exact .inr h
        ·rcases fW h with rfl | h
         ·exact .inl rfl
         ·exact .inr h
      ·exact .inr h
     ·exact .inr h
theorem Hist.ver {p:List Past} {t:List Node} (h:Hist p t):∀n,n∈t->0<=n.version/\n.version<=(p.length:Int):=by
 induction h with
 | nil=>intro n hn;rw[List.mem_singleton.1 hn];simp[gN]
 | @snoc p t c a h ha he ih=>
  intro n hn;simp only[List.length_append,List.length_cons,List.length_nil]
  rcases vw he hn with h1 | h1
  ·rw[h1];omega
  ·have:=ih n h1;omega
theorem Hist.det {p:List Past} {t:List Node} (h:Hist p t):∀{t'},Hist p t'->t=t':=by
 induction h with
 | nil=>
  intro t' h';generalize hq:([]:List Past)=q at h';cases h' with
  | nil=>rfl
  | snoc c a _ _ _=>simp at hq
 | @snoc p t c a h ha he ih=>
  intro t' h';generalize hq:p++[⟨c,a⟩]=q at h';cases h' with
  | nil=>simp at hq
  | @snoc p2 t2 c2 a2 h2 _ _=>
   obtain ⟨h3,h4⟩:=List.append_inj' hq rfl;subst h3;injection h4 with h4
   injection h4 with h4 h5
   subst h5;rw[ih h2]
theorem Hist.back {p:List Past} {c:Int} {a:Act} {t':List Node} (h:Hist (p++[⟨c,a⟩]) t'):∃t,Hist p t/\aG t a=0/\t'=aK t a ((p.length+1:Nat):Int):=by
 generalize hq:p++[(⟨c,a⟩:Past)]=q at h;cases h with
 | nil=>simp at hq
 | @snoc p2 t2 c2 a2 h2 ha he=>
  obtain ⟨h3,h4⟩:=List.append_inj' hq rfl;subst h3;injection h4 with h4
  injection h4 with h4 h5
  subst h5;exact ⟨t2,h2,he,rfl⟩
def Hst (s:Srv) (n:Node):Prop:=n.version<=(s.past.length:Int)/\∀m,m∈s.tree->m.fid=n.fid->m.version=n.version->m=n
theorem Hst.at {s:Srv} (h:Hist s.past s.tree) {n:Node} (hn:n∈s.tree):Hst s n:=⟨(h.ver n hn).2,λ_ hm hf _=>nO h.bs.up hm hn hf⟩
theorem zk {p:List Past} {n:Node}:∀(q:List Past) {t t':List Node},Hist p t->Hist (p++q.reverse) t'->n.version<=(p.length:Int)->(∀m,m∈t->m.fid=n.fid->m.version=n.version->m=n) ->
  ∀m,m∈t'->m.fid=n.fid->m.version=n.version->m=n
 | [],t,t',h,h',_,hm=>by
  rw[List.reverse_nil,List.append_nil] at h';rw[<-h.det h'];exact hm
 | x::q,t,t',h,h',hv,hm=>by
  rw[List.reverse_cons,<-List.append_assoc] at h';obtain ⟨t2,h2,he,rfl⟩:=Hist.back (c:=x.client) (a:=x.act) h';have ih:=zk q h h2 hv hm;intro m hmm hf hver
  rcases vw he hmm with h3 | h3
  ·rw[h3] at hver;simp only[List.length_append,List.length_reverse] at hver;omega
  ·exact ih m h3 hf hver
structure Grown (s s':Srv):Prop where
 hist:Hist s'.past s'.tree
 past:∃q,s'.past=s.past++q
theorem Grown.refl {s:Srv} (h:Hist s.past s.tree):Grown s s:=⟨h,[],by simp⟩
theorem Grown.trans {a b c:Srv} (h:Grown a b) (k:Grown b c):Grown a c:=by
 obtain ⟨q,hq⟩:=h.past;obtain ⟨r,hr⟩:=k.past;exact ⟨k.hist,q++r,by rw[hr,hq,List.append_assoc]⟩
theorem Hst.grow {s s':Srv} (h:Hist s.past s.tree) (hg:Grown s s') {n:Node} (hn:Hst s n):Hst s' n:=by
 obtain ⟨q,hq⟩:=hg.past;have h1:=hg.hist;refine ⟨by rw[hq,List.length_append];have:=hn.1;omega,zk (p:=s.past) q.reverse h ?_ hn.1 hn.2⟩;rw[List.reverse_reverse,<-hq];exact h1
theorem EJ {t:List Node} (hu:Up t) {k:Kept} (hd:k.dirty=false) (h:bO t k=false):∃n,n∈t/\n.fid=k.node.fid/\n.version=k.node.version:=by
 unfold bO at h;rw[hd,cK] at h;cases e:ak t k.node.fid with
 | none=>rw[e] at h;simp at h
 | some n=>
  rw[e] at h;simp only[Bool.not_false,Option.isSome_some,Bool.not_true,Option.getD_some,Yz,Y3,Bool.not_eq_false',beq_iff_eq] at h;obtain ⟨h1,h2⟩:=(ZO hu).1 e;exact ⟨n,h1,h2,h⟩
theorem wM {s:Srv} (hh:Hist s.past s.tree) {k:Kept} (hk:Hst s k.node) (hd:k.dirty=false) (h:bO s.tree k=false):k.node∈s.tree:=by
 obtain ⟨n,h1,h2,h3⟩:=EJ hh.bs.up hd h;rw[<-hk.2 n h1 h2 h3];exact h1
structure ActS (a:Act):Prop where
 name:a.name.length<=40
 toName:a.toName.length<=40
 data:a.data.length<=20
theorem ActS.fit {a:Act} (h:ActS a):ActFit a:=⟨by have:=h.name;omega,by have:=h.toName;omega,by have:=h.data;omega⟩
structure HoardOK (h:Hoard):Prop where
 path:h.path.length<=40
 worth:1<=h.worth/\h.worth<=100
structure CInvF (Fa:Prop) (B T:Nat) (s:Srv) (c:Cli):Prop where
 room:3<=c.room/\c.room<=24
 nod:(c.cache.map λk=>k.node.fid).Nodup
 len:(c.cache.length:Int)<=c.room
 dd:∃r,lW r (aO c.cache)
 data:∀k,k∈c.cache->k.node.data.length<=20
 ent:∀k,k∈c.cache->k.node.entries.length<=6
 eup:∀k,k∈c.cache->EUp k.node.entries
 nam:∀k,k∈c.cache->NmE k.node.entries
 here:c.away=false->c.log=[]/\∀k,k∈c.cache->k.dirty=false/\k.node∈s.tree
 hst:Fa->∀k,k∈c.cache->k.dirty=false->Hst s k.node
 log:c.log.length<=20
 logS:∀r,r∈c.log->ActS r.act
 rep:c.repair.length<=B
 repS:∀r,r∈c.repair->ActS r.act
 hoards:c.hoards.length<=6
 hoardS:∀h,h∈c.hoards->HoardOK h
 clock:0<=c.clock/\c.clock<=(T:Int)
 made:0<=c.made/\c.made<=(B:Int)
 logged:0<=c.logged/\c.logged<=(B:Int)
abbrev Mp (B T:Nat) (s:Srv) (c:Cli):Prop:=CInvF True B T s c
theorem CInvF.mono {B B' T T':Nat} {s:Srv} {c:Cli} (h:CInvF Fa B T s c) (hB:B<=B') (hT:T<=T'):CInvF Fa B' T' s c:=
 { h with rep:=Yn h.rep hB,clock:=⟨h.clock.1,by have:=h.clock.2;omega⟩,made:=⟨h.made.1,by have:=h.made.2;omega⟩,logged:=⟨h.logged.1,by have:=h.logged.2;omega⟩ }
theorem CInvF.new (B T:Nat) (s:Srv) (i room:Int) (h:3<=room/\room<=24):CInvF Fa B T s (pC i room) where
 room:=h
 nod:=List.Pairwise.nil
 len:=by simp[pC];omega
 dd:=⟨λ_=>0,λn hn=>by cases hn⟩
 data:=λk hk=>by cases hk
 ent:=λk hk=>by cases hk
 eup:=λk hk=>by cases hk
 nam:=λk hk=>by cases hk
 here:=λ_=>⟨rfl,λk hk=>by cases hk⟩
 hst:=λ_ k hk=>by cases hk
 log:=by simp[pC]
 logS:=λr hr=>by cases hr
 rep:=by simp[pC]
 repS:=λr hr=>by cases hr
 hoards:=by simp[pC]
 hoardS:=λr hr=>by cases hr
 clock:=by simp[pC]
 made:=by simp[pC]
 logged:=by simp[pC]
theorem vL {r:Int->Nat} {l m:List Node} (h:lW r l) (hs:∀n,n∈m->∃o,o∈l/\o.fid=n.fid/\o.entries=n.entries):lW r m:=λn hn e he=>by
 obtain ⟨o,h1,h2,h3⟩:=hs n hn;rw[<-h3] at he;rw[<-h2];exact h o h1 e he
theorem oF {l:List Kept} {n:Node}:n∈aO l↔∃k,k∈l/\k.node=n:=by
 unfold aO;exact W8
structure Of (t:List Node) (l:List Kept):Prop where
 each:∀k,k∈l->∃n,n∈t/\n.fid=k.node.fid/\n.dir=k.node.dir/\n.data=k.node.data/\n.entries=k.node.entries
theorem Of.dd {t:List Node} {l:List Kept} (h:Of t l) (hf:∃r,lW r t):∃r,lW r (aO l):=by
 obtain ⟨r,hr⟩:=hf;refine ⟨r,vL hr λn hn=>?_⟩;obtain ⟨k,hk,rfl⟩:=oF.1 hn;obtain ⟨o,h1,h2,_,_,h5⟩:=h.each k hk;exact ⟨o,h1,h2,h5⟩
theorem Of.mem {t:List Node} {l:List Kept} (h:∀k,k∈l->k.node∈t):Of t l:=⟨λk hk=>⟨k.node,h k hk,rfl,rfl,rfl,rfl⟩⟩
structure UInvF (Fa:Prop) (B T:Nat) (u:U):Prop where
 srv:SrvOK B u.s
 cli:CInvF Fa B T u.s u.c
abbrev yr (B T:Nat) (u:U):Prop:=UInvF True B T u
theorem UInvF.mono {B B' T T':Nat} {u:U} (h:UInvF Fa B T u) (hB:B<=B') (hT:T<=T'):UInvF Fa B' T' u:=⟨h.srv.mono hB,h.cli.mono hB hT⟩
theorem qv (f w c:Int) (k:Kept):(gb f w c k).node=k.node:=by unfold gb;split<;>rfl
theorem Bi (f w c:Int) (k:Kept):(gb f w c k).dirty=k.dirty:=by unfold gb;split<;>rfl
theorem jA {l:List Kept} {f w c:Int} {k:Kept} (h:k∈l.map (gb f w c)):∃x,x∈l/\x.node=k.node/\x.dirty=k.dirty:=by
 obtain ⟨x,hx,rfl⟩:=W8.1 h;exact ⟨x,hx,(qv _ _ _ _).symm,(Bi _ _ _ _).symm⟩
theorem wc (l:List Kept) (f w c:Int):(l.map (gb f w c)).map (λk=>k.node.fid)=l.map λk=>k.node.fid:=by
 rw[Yi];exact Ym λk _=>by simp[qv]
theorem t_ (l:List Kept) (f w c:Int):aO (l.map (gb f w c))=aO l:=by
 unfold aO;rw[Yi];exact Ym λk _=>by simp[qv]
theorem py {B T:Nat} {u:U} (h:UInvF Fa B T u) (f w:Int):UInvF Fa B (T+1) (cy u f w):=by
 obtain ⟨hs,h⟩:=h;refine ⟨hs,?_⟩;exact { h with
  nod:=by show (List.map _ (u.c.cache.map _)).Nodup;rw[wc];exact h.nod
  len:=by show ((List.map _ u.c.cache).length:Int)<=_;rw[List.length_map];exact h.len
  dd:=by show ∃r,lW r (aO (u.c.cache.map _));rw[t_];exact h.dd
  data:=λk hk=>by obtain ⟨x,hx,h1,_⟩:=jA hk;rw[<-h1];exact h.data x hx
  ent:=λk hk=>by obtain ⟨x,hx,h1,_⟩:=jA hk;rw[<-h1];exact h.ent x hx
  eup:=λk hk=>by obtain ⟨x,hx,h1,_⟩:=jA hk;rw[<-h1];exact h.eup x hx
  nam:=λk hk=>by obtain ⟨x,hx,h1,_⟩:=jA hk;rw[<-h1];exact h.nam x hx
  here:=λha=>⟨(h.here ha).1,λk hk=>by obtain ⟨x,hx,h1,h2⟩:=jA hk;rw[<-h1,<-h2];exact (h.here ha).2 x hx⟩
  hst:=λhF k hk hd=>by obtain ⟨x,hx,h1,h2⟩:=jA hk;rw[<-h1];exact h.hst hF x hx (h2.trans hd)
  clock:=by have:=h.clock;show 0<=u.c.clock+1/\u.c.clock+1<=((T+1:Nat):Int);omega }
theorem zy {l:List Kept} {f:Int} (h:b_ l f=none):∀x,x∈l->x.node.fid≠f:=λx hx e=>by
 have:=YO.1 h x hx;simp[e] at this
theorem DP {l:List Kept} {f:Int} {i:Nat} (h:b_ l f=some i):i<l.length/\(l.getD i default).node.fid=f:=by
 obtain ⟨h1,h2,_⟩:=YN.1 h;exact ⟨h1,by rw[List.getD_eq_getElem?_getD,W3 h1];exact of_decide_eq_true h2⟩
theorem gm {room:Int}:∀(f:Nat) (l L:List Kept),bU room f l=some L->L.Sublist l
 | 0,l,L,h=>by rw[bU] at h;injection h with h;subst h;exact List.Sublist.refl _
 | f+1,l,L,h=>by
  rw[bU] at h;split at h
  ·split at h
   ·cases h
   ·exact (gm f _ L h).trans (List.eraseIdx_sublist _ _)
  ·injection h with h;subst h;exact List.Sublist.refl _
theorem rT {room:Int} (hr:1<=room):∀(f:Nat) (l L:List Kept),bU room f l=some L->l.length<f->(L.length:Int)<room
 | 0,l,L,h,hf=>by omega
 | f+1,l,L,h,hf=>by
  rw[bU] at h;split at h
  ·rename_i hge;split at h
   ·cases h
   ·rename_i i hw;have hi:i<l.length:=fO l l.length i hw;exact rT hr f _ L h (by rw[List.length_eraseIdx,if_pos hi];omega)
  ·injection h with h;subst h;omega
structure Kp (l:List Kept) (room:Int) (k:Kept) (L:List Kept):Prop where
 mem:∀x,x∈L->(x∈l/\x.node.fid≠k.node.fid)\/(x.node=k.node/\x.dirty=k.dirty)
 nod:(L.map λx=>x.node.fid).Nodup
 len:(L.length:Int)<=room
 has:∃x,x∈L/\x.node=k.node/\x.dirty=k.dirty
theorem Ae {l:List Kept} (h:(l.map λx=>x.node.fid).Nodup) {i j:Nat} {a b:Kept} (ha:l[i]? = some a) (hb:l[j]? = some b) (hf:a.node.fid=b.node.fid):i=j:=by
 have h1:=W9.1 ha;have h2:=W9.1 hb;obtain ⟨hi,h1⟩:=h1;obtain ⟨hj,h2⟩:=h2;refine (List.getElem_inj (xs:=l.map λx=>x.node.fid) (i:=i) (j:=j) (h₀:=Z6) (h₁:=QQ) h).1 ?_;rw[List.getElem_map,List.getElem_map,h1,h2,hf]
theorem GY {l:List Kept} {i:Nat} {k:Kept} (hi:i<l.length) (hf:(l.getD i default).node.fid=k.node.fid):(l.set i k).map (λx=>x.node.fid)=l.map λx=>x.node.fid:=by
 rw[List.map_set];refine List.ext_getElem? λj=>?_
 rw[YP];split
 ·rename_i e;subst e;rw[W5,W3 hi];rw[List.getD_eq_getElem?_getD,W3 hi] at hf;simp only[List.length_map,hi,if_true,Option.map_some];exact congrArg some hf.symm
 ·rfl
theorem zx {l L:List Kept} {room:Int} {k:Kept} (hr:1<=room) (hn:(l.map λx=>x.node.fid).Nodup) (hl:(l.length:Int)<=room) (h:cT l room k=some L):Kp l room k L:=by
 unfold cT at h;cases e:b_ l k.node.fid with
 | some i=>
  rw[e] at h;injection h with h
  subst h;obtain ⟨hi,hf⟩:=DP e;refine ⟨λx hx=>?_,?_,by rw[YR];exact hl,⟨{ k with worth:=mT k.worth (l.getD i default).worth },List.mem_iff_getElem.2 ⟨i,by simpa using hi,by simp⟩,rfl,rfl⟩⟩
  ·obtain ⟨j,hj⟩:=YC hx;rw[YP] at hj;split at hj
   ·rename_i e2;subst e2;simp only[hi,if_true,gL] at hj;exact .inr ⟨by rw[<-hj],by rw[<-hj]⟩
   ·rename_i hne;refine .inl ⟨W6 hj,λhxf=>hne ?_⟩;refine Ae hn (W3 hi) hj ?_;rw[List.getD_eq_getElem?_getD,W3 hi] at hf;exact hf.trans hxf.symm
  ·rw[GY hi (by exact hf)];exact hn
 | none=>
  rw[e] at h;obtain ⟨L0,h0,rfl⟩:=YX.1 h;have h1:=gm _ _ _ h0;have h2:=rT hr _ _ _ h0 (Nat.lt_succ_self _);have hno:=zy e;refine ⟨λx hx=>?_,?_,by rw[List.length_append];simp;omega,⟨k,by simp,rfl,rfl⟩⟩
  ·rcases List.mem_append.1 hx with hx | hx
   ·exact .inl ⟨h1.subset hx,hno x (h1.subset hx)⟩
   ·rw[List.mem_singleton.1 hx];exact .inr ⟨rfl,rfl⟩
  ·rw[List.map_append,List.nodup_append];refine ⟨hn.sublist (h1.map _),by simp,λa ha b hb=>?_⟩;obtain ⟨x,hx,rfl⟩:=W8.1 ha;simp only[List.map_cons,List.map_nil,List.mem_singleton] at hb;rw[hb];exact hno x (h1.subset hx)
theorem CInvF.within {B T:Nat} {s:Srv} {c:Cli} (h:CInvF Fa B T s c) (hh:Hist s.past s.tree) {L:List Kept} (hn:(L.map λk=>k.node.fid).Nodup) (hl:(L.length:Int)<=c.room) (hm:∀k,k∈L->k.dirty=false/\k.node∈s.tree):CInvF Fa B T s { c with cache:=L }:=
 { h with
  nod:=hn
  len:=hl
  dd:=(Of.mem λk hk=>(hm k hk).2).dd hh.bs.dd
  data:=λk hk=>hh.bs.data _ (hm k hk).2
  ent:=λk hk=>hh.bs.ent _ (hm k hk).2
  eup:=λk hk=>(hh.whole.loc _ (hm k hk).2).eup
  nam:=λk hk=>hh.whole.nm (hm k hk).2
  here:=λha=>⟨(h.here ha).1,hm⟩
  hst:=λ_ k hk _=>Hst.at hh (hm k hk).2 }
theorem DL {B T:Nat} {u:U} (h:UInvF Fa B T u) (ha:u.c.away=false) {n:Node} (hn:n∈u.s.tree) (w c:Int):UInvF Fa B T (gx u ⟨n,false,w,c⟩):=by
 unfold gx;split
 ·rename_i l hl;have hk:=zx (by have:=h.cli.room;omega) h.cli.nod h.cli.len hl;refine ⟨h.srv,h.cli.within h.srv.hist hk.nod hk.len λx hx=>?_⟩
  rcases hk.mem x hx with ⟨h1,_⟩ | ⟨h1,h2⟩
  ·exact (h.cli.here ha).2 x h1
  ·exact ⟨h2,by rw[h1];exact hn⟩
 ·exact h
theorem bZ {B T:Nat} {u:U} (h:UInvF Fa B T u) (f w:Int):UInvF Fa B (T+1) (bd u f w).u:=by
 unfold bd;split
 ·exact py h f w
 ·split
  ·exact py h f w
  ·rename_i ha;split
   ·exact py h f w
   ·rename_i n hn;exact DL (py h f w) (show u.c.away=false by simpa using ha) ((ZO h.srv.hist.bs.up).1 hn).1 w _
theorem CL {B:Nat} (w:Int):∀(l:List (List UInt8)) (T:Nat) (g:Got),UInvF Fa B T g.u->UInvF Fa B (T+l.length) (goR w l g).u
 | [],T,g,h=>by unfold goR;split<;>exact h
 | s::r,T,g,h=>by
  unfold goR;have hm:UInvF Fa B (T+(s::r).length) g.u:=h.mono (YA _) w8;split
  ·exact hm
  ·split
   ·exact hm
   ·split
    ·exact hm
    ·rename_i f _;have:=CL w r (T+1) (bd g.u f w) (bZ h f w)
     rwa [show T+1+r.length=T+(s::r).length by simp;omega] at this
theorem lr {B T:Nat} {u:U} (h:UInvF Fa B T u) (l:List (List UInt8)) (w:Int):UInvF Fa B (T+1+l.length) (goU u l w).u:=CL w l (T+1) _ (bZ h 0 w)
theorem cg (s:List UInt8):(ae s).1.length<=41/\∀x,x∈(ae s).1->x.length<=40/\cr x=true:=by
 unfold ae;split
 ·simp
 ·rename_i h1;split
  ·simp
  ·split
   ·simp
   ·split
    ·rename_i h4;have h2:=su 47 (s.drop 1);have h5:(s.drop 1).length=s.length-1:=YZ;refine ⟨by show (dn 47 (s.drop 1)).length<=41;omega,λx hx=>⟨?_,List.all_eq_true.1 h4 x hx⟩⟩;have h3:=nx 47 (s.drop 1) x hx;omega
    ·simp
theorem cF {B T:Nat} {u:U} (h:UInvF Fa B T u) (path:List UInt8):UInvF Fa B (T+42) (ah u path).u:=by
 unfold ah;split
 ·exact h.mono (YA _) z8
 ·split
  ·exact h.mono (YA _) z8
  ·refine (lr h _ 0).mono (YA _) ?_;have:=(cg path).1;simp only[YF];omega
theorem bR (u:U) (path:List UInt8):(ah u path).name.length<=40:=by
 unfold ah;split
 ·simp
 ·split
  ·simp
  ·rename_i h;refine ((cg path).2 _ ?_).1;have hi:(ae path).1.length-1<(ae path).1.length:=by omega
   rw[List.getD_eq_getElem?_getD,W3 hi];exact YY hi
end La
