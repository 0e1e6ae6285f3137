/- Texts of this claim, part 19: Take, PSort, PCli, PNm, PWor, PWor2, PWor3. No condition. -/
import Derived.Test.YtmcfbfdonjllaaaGreatDoorZK17
import Derived.Test.YtmcfbfdonjllaaaGreatDoorZK10
set_option maxRecDepth 10000
set_option maxHeartbeats 4000000
set_option linter.unusedSimpArgs false
set_option linter.unusedVariables false
namespace La
open Go Go.Eng Go.Proofs
def ig (s:Srv) (c:Int) (done:List Act) (i:Nat):List Past:=s.past++(done.take i).map λa=>⟨c,a⟩
theorem wi (s:Srv) (c:Int) {done:List Act} {i:Nat} (h:i<done.length):ig s c done (i+1)=ig s c done i++[⟨c,done.getD i default⟩]:=by
 unfold ig;rw[ZT h,List.map_append,WT];rfl
theorem xY (s:Srv) (c:Int) (done:List Act) {i:Nat} (h:i≤done.length):(ig s c done i).length=s.past.length+i:=by
 unfold ig;simp;omega
theorem zE (s:Srv) (h:SrvOK 40000000 s) (c:Int) (log:List Rec) (hlog:SmallL log) (hl2:log.length≤2000000) (hfit:∀r,r∈log->ActFit r.act) :
  ae Tryz.prog 45 [.agg (ZQ s),.int .i64 c,.sl (log.map ZR)] []
   (λr _=>r=.tup [.agg (ZQ (kD s c log)),.sl ((bX s.tree s.next ((s.past.length+1:Nat):Int) log).vs.map ZV)]):=by
 have hn:=h.next;have hlen:=h.len;have hsp:SmallP s.past:=⟨by omega,λp hp=>by
  obtain ⟨st,_,_,h3⟩:=h.hist.st;obtain ⟨i,hi⟩:=Z1 hp;have hil:=(Zu.1 hi).1;have:=(h3 i hil).2.1.data
  rwa [show s.past.getD i default=p by rw[Zo,hi];rfl] at this⟩
 have hv:=rz s z7;have hso:=wS s h.hist.bW.small hsp;have hj:=Cg s.past s.tree s.next log h.hist z7 z7 hlog hl2 hfit;have hinv:=(JInv.qz h.hist c s.next log hfit).len;have hT:kD s c log=⟨(bX s.tree s.next ((s.past.length+1:Nat):Int) log).j.l,(bX s.tree s.next ((s.past.length+1:Nat):Int) log).j.next,ig s c (bX s.tree s.next ((s.past.length+1:Nat):Int) log).done (bX s.tree s.next ((s.past.length+1:Nat):Int) log).done.length⟩:=by
  unfold kD ig;rw[Zy]
 rw[hT];clear hT;unfold ZQ at hv hso ⊢;generalize bX s.tree s.next ((s.past.length+1:Nat):Int) log=g at *;have hsu:=λi=>@wi s c g.done i
 have hle:=λi=>@xY s c g.done i
 have hz:ig s c g.done 0=s.past:=by simp[ig]
 generalize ig s c g.done=P at *;refine ZF tK (Tryz.func45) rfl (λC=>?_);simp only[Tryz.ntmps45,Tryz.results45,go_sem];refine wG tK ?_;refine ZZ 3 rfl (rfl) ?_;simp only[go_sem];refine ZW ZM ?_;refine ZS rfl ?_;refine sN tK 5 ?_;refine sC Tryz.func86 (hf:=(hv)) (hk:=?_);refine sN tK 1 ?_;refine sC Tryz.func85 (hf:=(hj)) (hk:=?_);refine sG tK ?_;refine sE ?_;refine wKd ?_
 try simp only[go_sem,gA,gB,gC]
 refine wG tK ?_;refine wCG [] 18 Tryz.func40 (hf:=(hso)) (hk:=?_);refine wG tK ?_;refine ZL (λi:Nat=>i≤g.done.length) (λi=>g.done.length-i) (λi=>(14,.any)::(29,.any)::(36,.int .i64 i)::u0 37 12 [])
  (λi=>[(12,.cells 32 3 [[.sl (g.j.l.map ZN),.int .i64 g.j.next,.osl 46 8 0 (P i).length]]),(46,.cells 79 8 ((P i).map ZP))]) 0 z7 ?_ λi hi=>?_
 ·rw[hz];simp only[go_sem];exact ZU w1 w1 w1
 simp only[go_sem];refine wG tK ?_;refine wD (λh=>?_) (λh=>?_)
 ·have hlt:i<g.done.length:=by simp at h;omega
  have hg:(g.done.map ZA).getD i []=ZA (g.done.getD i default):=Fam.getD hlt;have hs1:=hsu i hlt;have hl1:=hle i z7;have how':=wi1 (i:=i) z7;generalize g.done.getD i default=a at *;generalize P i=Q at *;refine wR ?_;refine wNq tK 4 ?_ ?_ z6 z6 (by simp only[go_sem,hg,ZA];try exact rfl)
  ·simp[hg,ZA,hlt]
  refine wR ?_;refine wN tK 6 ?_;refine ay (bK 46 12 z6 k6) ?_;refine wGq tK ?_ ?_ y7
  ·simp[rowsOf,ZP];omega
  refine ZB ⟨i+1,by omega,by omega,ZU ?_ ?_ ?_⟩
  ·simp[go_sem]
  ·simp[go_sem,hs1,ZP,Zy]
  ·simp[go_sem]
 ·have e:i=g.done.length:=by simp at h;omega
  subst e;refine wG tK ?_;refine ZZ 46 rfl (fV _) ?_;simp only[go_sem];refine wT ?_;simp
end La
namespace La
open Go Go.Eng
def kz (l:List Node):List Node:=(qG l).map (·.2)
def Bf (fid now:Int) (x:Kept):Kept:=if x.node.fid=fid then { x with last:=now } else x
theorem yh (v:Bool) (x:Node):dM v x x=true:=by simp[dM]
theorem qZ (v:Bool) (l:List Node):eU v l l=true:=(iQ v l l).2 ⟨rfl,λj _=>yh v _⟩
theorem Gn {l:List Kept} (hu:pH l=true) (fid now:Int):ux l fid now=l.map (Bf fid now):=by
 have hU:lW l l.length:=of_decide_eq_true hu;unfold ux;cases hk:dN l fid with
 | none=>
  have hn:∀x,x∈l->x.node.fid≠fid:=λx hx e=>by
   have:=Z6.1 hk x hx;simp[e] at this
  refine (List.ext_getElem? λj=>?_);rw[Zr];cases hj:l[j]? with
  | none=>rfl
  | some x=>simp[Bf,hn x (Zs hj)]
 | some p=>
  obtain ⟨hp,hpf,hno⟩:=Z4.1 hk;have hpf:l[p].node.fid=fid:=by simpa using hpf
  have hat:∀j (hj:j<l.length),l[j].node.fid=fid->j=p:=λj hj e=>by
   have hf:∀i (hi:i<l.length),uX l i=l[i].node.fid:=λi hi=>by unfold uX;rw[Zo,Zp hi];rfl
   rcases Nat.lt_trichotomy j p with h1 | h1 | h1
   ·exact absurd (by rw[hf j hj,hf p hp,e,hpf]) (hU p hp j h1)
   ·exact h1
   ·exact absurd (by rw[hf j hj,hf p hp,e,hpf]) (hU j hj p h1)
  refine List.ext_getElem? λj=>?_
  simp only;rw[Zr,Z7]
  by_cases hjp:p=j
  ·subst hjp;rw[if_pos rfl,if_pos hp,Zp hp];simp[Bf,hpf,Zo,Zp hp]
  ·rw[if_neg hjp];cases hj:l[j]? with
   | none=>rfl
   | some x=>
    obtain ⟨hjl,hje⟩:=Zu.1 hj;have:x.node.fid≠fid:=λe=>hjp (hat j hjl (by rw[hje];exact e)).symm
    simp[Bf,this]
theorem t_ {l:List Kept} (h:SmallK l):Small (aR l):=⟨by unfold aR;rw[List.length_map];exact h.len,λx hx=>by
 obtain ⟨k,hk,rfl⟩:=Zv.1 hx;exact h.each k hk⟩
theorem nX (l:List Node):∀i,∀p,p∈kd l i->p.2.fid=p.1
 | 0,p,hp=>by cases hp
 | i+1,p,hp=>by
  obtain ⟨k,x⟩:=p;have:=(bO (ji l i) k x).1 hp
  rcases this with ⟨rfl,rfl⟩ | ⟨_,h⟩
  ·rfl
  ·exact nX l i _ h
theorem oV:∀p q:List Node,p.Pairwise (λa b=>a.fid<b.fid)->q.Pairwise (λa b=>a.fid<b.fid)->(∀x,x∈p↔x∈q)->p=q
 | [],q,_,_,h=>by
  cases q with
  | nil=>rfl
  | cons b q=>exact absurd ((h b).2 List.mem_cons_self) w7
 | a::p,[],_,_,h=>absurd ((h a).1 List.mem_cons_self) w7
 | a::p,b::q,hp,hq,h=>by
  obtain ⟨hp1,hp2⟩:=List.pairwise_cons.1 hp;obtain ⟨hq1,hq2⟩:=List.pairwise_cons.1 hq;have e:a=b:=by
   rcases List.mem_cons.1 ((h a).1 List.mem_cons_self) with h1 | h1
   ·exact h1
   ·rcases List.mem_cons.1 ((h b).2 List.mem_cons_self) with h2 | h2
    ·exact h2.symm
    ·have:=hp1 b h2;have:=hq1 a h1;omega
  subst e;rw[oV p q hp2 hq2 λx=>⟨λhx=>?_,λhx=>?_⟩]
  ·rcases List.mem_cons.1 ((h x).1 (List.mem_cons_of_mem _ hx)) with h1 | h1
   ·have:=hp1 x hx;rw[h1] at this;omega
   ·exact h1
  ·rcases List.mem_cons.1 ((h x).2 (List.mem_cons_of_mem _ hx)) with h1 | h1
   ·have:=hq1 x hx;rw[h1] at this;omega
   ·exact h1
theorem rb (l:List Node):(kz l).Pairwise λa b=>a.fid<b.fid:=by
 unfold kz;rw[List.pairwise_map];refine List.Pairwise.imp_of_mem ?_ (Au l);intro a b ha hb h;rw[nX l _ a ha,nX l _ b hb];exact h
theorem sK (l:List Node) (hd:∀i,i<l.length->∀j,j<i->fH l j≠fH l i):∀i,i≤l.length->∀j,j<i->(fH l j,l.getD j default)∈kd l i
 | 0,_,_,h=>by omega
 | i+1,hi,j,hj=>by
  refine (bO (ji l i) _ _).2 ?_
  by_cases e:j=i
  ·subst e;exact .inl ⟨rfl,rfl⟩
  ·exact .inr ⟨hd i z7 j z7,sK l hd i z7 j z7⟩
theorem tc (l:List Node) (hd:∀i,i<l.length->∀j,j<i->fH l j≠fH l i) (x:Node):x∈kz l↔x∈l:=by
 constructor
 ·intro h;obtain ⟨p,hp,rfl⟩:=Zv.1 h;exact sL l _ (Zw _) p hp
 ·intro h;obtain ⟨i,hi,rfl⟩:=List.getElem_of_mem h;refine Zv.2 ⟨(fH l i,l.getD i default),sK l hd _ (Zw _) i hi,?_⟩;rw[Zo,Zp hi];rfl
theorem re (l:List Node) (hd:∀i,i<l.length->∀j,j<i->fH l j≠fH l i) (p:List Node) (hp:p.Perm l) (hs:p.Pairwise λa b=>a.fid≤b.fid):p=kz l:=by
 have hne:l.Pairwise λa b=>a.fid≠b.fid:=by
  rw[Wp];intro i j hi hj hij;have:=hd j hj i hij;unfold fH at this;rw[Zo,Zo,Zp hi,Zp hj] at this;exact this
 have hnp:p.Pairwise λa b=>a.fid≠b.fid:=(hp.pairwise_iff (λh=>Ne.symm h)).2 hne
 refine oV _ _ ?_ (rb l) λx=>by rw[tc l hd,hp.mem_iff]
 rw[Wp] at *;intro i j hi hj hij;have h1:=hs i j hi hj hij;have h2:=hnp i j hi hj hij;omega
theorem ta (l:List Node) (hd:∀i,i<l.length->∀j,j<i->fH l j≠fH l i):(kz l).length=l.length:=by
 have h1:=List.mergeSort_perm l (λa b=>decide (a.fid≤b.fid));have h2:=List.pairwise_mergeSort (le:=λa b:Node=>decide (a.fid≤b.fid)) (by intro a b c;simp;omega) (by intro a b;simp;omega) l;rw[←re l hd _ h1 (h2.imp w7)];exact h1.length_eq
structure Hoard where
 path:List UInt8
 worth:Int
deriving DecidableEq,Inhabited
structure Cli where
 number:Int
 away:Bool
 room:Int
 cache:List Kept
 log:List Rec
 repair:List Rec
 hoards:List Hoard
 clock:Int
 made:Int
 logged:Int
deriving DecidableEq,Inhabited
structure U where
 c:Cli
 s:Srv
structure Step where
 kind:Int
 client:Int
 n:Int
 path:List UInt8
 toPath:List UInt8
 data:List UInt8
deriving DecidableEq,Inhabited
structure Reply where
 err:Int
 n:Int
 m:Int
 data:List UInt8
deriving DecidableEq,Inhabited
structure Wor where
 s:Srv
 cs:List Cli
def kW (fid worth clk:Int) (k:Kept):Kept:=if k.node.fid=fid then { k with last:=clk,worth:=rO k.worth worth } else k
def eL (u:U) (fid worth:Int):U:=⟨{ u.c with clock:=u.c.clock+1,cache:=u.c.cache.map (kW fid worth (u.c.clock+1)) },u.s⟩
def jD (u:U) (k:Kept):U:=match eK u.c.cache u.c.room k with
 | some l=>⟨{ u.c with cache:=l },u.s⟩
 | none=>u
def kj (l:List Kept) (fid:Int):Option Node:=(l.find? λk=>k.node.fid==fid).map (·.node)
structure Got where
 n:Node
 e:Int
 u:U
def bz (u:U) (fid worth:Int):Got:=match kj u.c.cache fid with
 | some n=>⟨n,0,eL u fid worth⟩
 | none=>if u.c.away=true then ⟨aC,12,eL u fid worth⟩ else match al u.s.tree fid with
  | none=>⟨aC,6,eL u fid worth⟩
  | some n=>⟨n,0,jD (eL u fid worth) ⟨n,false,worth,u.c.clock+1⟩⟩
def goR (worth:Int):List (List UInt8)->Got->Got
 | [],g=>if g.e=0 then g else ⟨aC,g.e,g.u⟩
 | s::r,g=>if g.e≠0 then ⟨aC,g.e,g.u⟩ else if g.n.dir=false then ⟨aC,8,g.u⟩ else match bJ g.n s with
  | none=>⟨aC,6,g.u⟩
  | some f=>goR worth r (bz g.u f worth)
def goU (u:U) (l:List (List UInt8)) (worth:Int):Got:=goR worth l (bz u 0 worth)
structure GotD where
 n:Node
 name:List UInt8
 e:Int
 u:U
def ak (u:U) (path:List UInt8):GotD:=
 if (ag path).2≠0 then ⟨aC,[],(ag path).2,u⟩
 else if (ag path).1.length=0 then ⟨aC,[],7,u⟩
 else ⟨(goU u ((ag path).1.take ((ag path).1.length-1)) 0).n,(ag path).1.getD ((ag path).1.length-1) [],
  if (goU u ((ag path).1.take ((ag path).1.length-1)) 0).e=0/\(goU u ((ag path).1.take ((ag path).1.length-1)) 0).n.dir=false then 8 else (goU u ((ag path).1.take ((ag path).1.length-1)) 0).e,
  (goU u ((ag path).1.take ((ag path).1.length-1)) 0).u⟩
def fB (c:Cli) (a:Act):Act:=if bd a=true then { a with fid:=-1-c.made } else a
def CN (a:Act) (seen:Int):Int:=if bd a=true then -1 else seen
def cy (c:Cli):List Node:=kz (aR c.cache)
def bB (was:List Node) (a:Act) (n:Node):Bool:=!((match al was n.fid with
 | some o=>dM false o n
 | none=>false)&&(a.kind != 3||n.fid != a.fid))
def nC (was:List Node) (clk:Int) (n:Node):Kept:=⟨{ n with version:=((al was n.fid).getD aC).version },true,0,clk⟩
def dC (room clk:Int) (was:List Node) (a:Act):List Node->List Kept->Option (List Kept)
 | [],l=>some l
 | n::r,l=>if bB was a n=true then (match eK l room (nC was clk n) with
  | none=>none
  | some l'=>dC room clk was a r l') else dC room clk was a r l
structure GotE where
 e:Int
 u:U
def ua (c:Cli) (a:Act) (seen:Int):Option (List Rec):=eV c.log ⟨fB c a,CN a seen,c.logged+1⟩
noncomputable def jo (c:Cli) (a:Act):List Node:=aQ (cy c) (fB c a) 0
noncomputable def zm (c:Cli) (a:Act):Option (List Kept):=dC c.room c.clock (cy c) (fB c a) (jo c a) c.cache
noncomputable def jq (u:U) (a:Act) (seen:Int):GotE:=
 if aO (cy u.c) (fB u.c a)≠0 then ⟨aO (cy u.c) (fB u.c a),u⟩ else match ua u.c a seen with
 | none=>⟨5,u⟩
 | some log=>match zm u.c a with
  | none=>⟨5,u⟩
  | some l=>⟨0,⟨{ u.c with cache:=l.filter (λk=>bn (jo u.c a) k.node.fid),log:=log,logged:=u.c.logged+1,made:=if bd a=true then u.c.made+1 else u.c.made },u.s⟩⟩
def qj (c:Cli) (t:List Node):Cli:={ c with cache:=c.cache.filter λk=>!db t k }
noncomputable def fM (u:U) (a:Act):GotE:=if doE u.s a=0 then ⟨0,⟨qj u.c (doS u.s u.c.number a).tree,doS u.s u.c.number a⟩⟩ else ⟨doE u.s a,u⟩
noncomputable def b_ (u:U) (a:Act) (seen:Int):GotE:=if u.c.away=true then jq u a seen else fM u a
def eC (n:Node):Int:=if n.fid<0 then -1 else n.version
def cK (d:Int) (name:List UInt8):Act:=⟨1,0,d,name,0,[],[]⟩
def ke (d:Int) (name:List UInt8):Act:=⟨2,0,d,name,0,[],[]⟩
def dv (fid:Int) (data:List UInt8):Act:=⟨3,fid,0,[],0,[],data⟩
def dZ (fid d:Int) (name:List UInt8):Act:=⟨4,fid,d,name,0,[],[]⟩
def fX (fid d:Int) (name:List UInt8) (to:Int) (toName:List UInt8):Act:=⟨5,fid,d,name,to,toName,[]⟩
noncomputable def fW (g:Got) (data:List UInt8):GotE:=if g.e≠0 then ⟨g.e,g.u⟩ else b_ g.u (dv g.n.fid data) (eC g.n)
noncomputable def bM (u:U) (path data:List UInt8):GotE:=
 if (ak u path).e≠0 then ⟨(ak u path).e,(ak u path).u⟩
 else if data.length>20 then ⟨4,(ak u path).u⟩
 else match bJ (ak u path).n (ak u path).name with
 | some f=>fW (bz (ak u path).u f 0) data
 | none=>if (b_ (ak u path).u (cK (ak u path).n.fid (ak u path).name) (-1)).e≠0 then b_ (ak u path).u (cK (ak u path).n.fid (ak u path).name) (-1)
  else fW (goU (b_ (ak u path).u (cK (ak u path).n.fid (ak u path).name) (-1)).u (ag path).1 0) data
noncomputable def ec (u:U) (path:List UInt8):GotE:=
 if (ak u path).e≠0 then ⟨(ak u path).e,(ak u path).u⟩ else b_ (ak u path).u (ke (ak u path).n.fid (ak u path).name) (-1)
structure GotP where
 d:Int
 name:List UInt8
 n:Node
 e:Int
 u:U
def atU (u:U) (path:List UInt8):GotP:=
 if (ak u path).e≠0 then ⟨0,[],aC,(ak u path).e,(ak u path).u⟩
 else match bJ (ak u path).n (ak u path).name with
 | none=>⟨0,[],aC,6,(ak u path).u⟩
 | some f=>⟨(ak u path).n.fid,(ak u path).name,(bz (ak u path).u f 0).n,(bz (ak u path).u f 0).e,(bz (ak u path).u f 0).u⟩
noncomputable def bH (u:U) (path:List UInt8):GotE:=
 if (atU u path).e≠0 then ⟨(atU u path).e,(atU u path).u⟩
 else b_ (atU u path).u (dZ (atU u path).n.fid (atU u path).d (atU u path).name) (eC (atU u path).n)
noncomputable def dm (u:U) (path to:List UInt8):GotE:=
 if (atU u path).e≠0 then ⟨(atU u path).e,(atU u path).u⟩
 else if (ak (atU u path).u to).e≠0 then ⟨(ak (atU u path).u to).e,(ak (atU u path).u to).u⟩
 else b_ (ak (atU u path).u to).u (fX (atU u path).n.fid (atU u path).d (atU u path).name (ak (atU u path).u to).n.fid (ak (atU u path).u to).name) (eC (atU u path).n)
def bs:List Rec->List Verdict->List Rec
 | r::l,v::vs=>if v.err=0 then bs l vs else r::bs l vs
 | _,_=>[]
def bC (vs:List Verdict):Nat:=(vs.filter λv=>v.err==0).length
noncomputable def aJ (u:U):List Verdict:=(bX u.s.tree u.s.next ((u.s.past.length+1:Nat):Int) u.c.log).vs
noncomputable def jJ (u:U):Srv:=kD u.s u.c.number u.c.log
noncomputable def gR (u:U):U:=
 ⟨{ u.c with away:=false,log:=[],repair:=u.c.repair++bs u.c.log (aJ u),cache:=(u.c.cache.filter λk=>!k.dirty).filter λk=>!db (jJ u).tree k },jJ u⟩
def dc (l:List Hoard) (path:List UInt8):List Hoard:=l.filter λh=>!(h.path==path)
def da (u:U) (path:List UInt8) (worth:Int):GotE:=
 if (ag path).2≠0 then ⟨(ag path).2,u⟩ else if worth<0\/worth>100 then ⟨3,u⟩
 else if 0<worth/\(dc u.c.hoards path).length≥6 then ⟨5,u⟩
 else ⟨0,⟨{ u.c with hoards:=if 0<worth then dc u.c.hoards path++[⟨path,worth⟩] else dc u.c.hoards path },u.s⟩⟩
def bj (l:List Hoard):Nat->List Hoard
 | 0=>[]
 | w+1=>l.filter (λh=>h.worth==((w+1:Nat):Int))++bj l w
structure GotV where
 n:Nat
 u:U
def fi (g:GotV) (h:Hoard):GotV:=⟨if (goU g.u (ag h.path).1 h.worth).e=0 then g.n+1 else g.n,(goU g.u (ag h.path).1 h.worth).u⟩
def ir (u:U):GotV:=(bj u.c.hoards 100).foldl fi ⟨0,u⟩
def qD (l:List Entry):List UInt8:=l.flatMap λe=>e.name++[10]
structure GotS where
 u:U
 r:Reply
def mV (kind:Int) (g:Got):Reply:=
 if g.e≠0 then ⟨g.e,0,0,[]⟩
 else if kind=1 then (if g.n.dir=true then ⟨9,0,0,[]⟩ else ⟨0,0,0,g.n.data⟩)
 else if g.n.dir=true then ⟨0,0,0,qD g.n.entries⟩ else ⟨8,0,0,[]⟩
def cz (e:Int):Reply:=⟨e,0,0,[]⟩
noncomputable def aw (u:U) (x:Step):GotS:=
 if x.kind=1\/x.kind=2 then (if (ag x.path).2≠0 then ⟨u,cz (ag x.path).2⟩ else ⟨(goU u (ag x.path).1 0).u,mV x.kind (goU u (ag x.path).1 0)⟩)
 else if x.kind=3 then ⟨(bM u x.path x.data).u,cz (bM u x.path x.data).e⟩
 else if x.kind=4 then ⟨(ec u x.path).u,cz (ec u x.path).e⟩
 else if x.kind=5 then ⟨(bH u x.path).u,cz (bH u x.path).e⟩
 else if x.kind=6 then ⟨(dm u x.path x.toPath).u,cz (dm u x.path x.toPath).e⟩
 else if x.kind=7 then ⟨⟨{ u.c with away:=true },u.s⟩,cz 0⟩
 else if x.kind=8 then ⟨gR u,⟨0,bC (aJ u),((aJ u).length-bC (aJ u):Nat),[]⟩⟩
 else if x.kind=9 then ⟨(da u x.path x.n).u,cz (da u x.path x.n).e⟩
 else if x.kind=10 then (if u.c.away=true then ⟨u,cz 12⟩ else ⟨(ir u).u,⟨0,(ir u).n,0,[]⟩⟩)
 else ⟨u,cz 1⟩
structure GotW where
 w:Wor
 r:Reply
def bp (t:List Node) (c:Cli):Cli:=if c.away=true then c else qj c t
noncomputable def aq (w:Wor) (x:Step):GotW:=
 if x.client<0\/x.client≥w.cs.length then ⟨w,cz 6⟩
 else ⟨⟨(aw ⟨w.cs.getD x.client.toNat default,w.s⟩ x).u.s,(w.cs.set x.client.toNat (aw ⟨w.cs.getD x.client.toNat default,w.s⟩ x).u.c).map (bp (aw ⟨w.cs.getD x.client.toNat default,w.s⟩ x).u.s.tree)⟩,(aw ⟨w.cs.getD x.client.toNat default,w.s⟩ x).r⟩
def lG (number room:Int):Cli:=⟨number,false,room,[],[],[],[],0,0,0⟩
def bc (rooms:List Int):Int:=if rooms.length<1\/3<rooms.length then 5 else if rooms.all (λn=>decide (3≤n)&&decide (n≤24)) then 0 else 3
def eS (rooms:List Int) (i:Nat):List Cli:=(List.range i).map λ(j:Nat)=>lG (j:Int) (rooms.getD j 0)
def Hl:Srv:=⟨[eT],1,[]⟩
def fJ (rooms:List Int):Wor:=⟨Hl,eS rooms rooms.length⟩
noncomputable def xo (rooms:List Int) (l:List Step):Wor:=l.foldl (λw x=>(aq w x).w) (fJ rooms)
def NmE (l:List Entry):Prop:=∀e,e∈l->e.name.length≤40
structure Nm (l:List Node):Prop where
 up:Up l
 nm:∀n,n∈l->NmE n.entries
theorem NmE.nil:NmE []:=λ_ h=>by cases h
theorem sO {s:List UInt8} (h:de s=true):s.length≤40:=by
 unfold de at h;rw[Bool.and_eq_true,Bool.and_eq_true,decide_eq_true_eq,decide_eq_true_eq] at h;omega
theorem NmE.enter {l:List Entry} (h:NmE l) {s:List UInt8} (hs:de s=true) (f:Int):NmE (bb l s f):=λe he=>by
 rcases lq he with rfl | he
 ·exact sO hs
 ·exact h e he
theorem NmE.leave {l:List Entry} (h:NmE l) (s:List UInt8):NmE (ct l s):=λe he=>h e (jg he)
theorem Nm.find {l:List Node} (h:Nm l) (k:Int):NmE (aN l k).entries:=by
 unfold aN;cases e:al l k with
 | none=>exact .nil
 | some n=>exact h.nm n ((ZO h.up).1 e).1
theorem Nm.put {l:List Node} (h:Nm l) {n:Node} (hn:NmE n.entries):Nm (aI l n):=
 ⟨(bf h.up n).1,λm hm=>by
  rcases eF hm with rfl | hm
  ·exact hn
  ·exact h.nm m hm⟩
theorem Nm.drop {l:List Node} (h:Nm l) (f:Int):Nm (eo l f):=⟨(ix h.up f).1,λm hm=>h.nm m (((ix h.up f).2 m).1 hm).1⟩
theorem Nm.to {l:List Node} (h:Nm l) (a:Act):NmE (toN l a).entries:=by
 unfold toN;split
 ·exact (h.find _).leave _
 ·exact h.find _
theorem Nm.apply {l:List Node} (h:Nm l) (a:Act) (v:Int):Nm (kR l a v):=by
 have hmk:Nm (dL l a v):=by
  unfold dL;split
  ·rename_i he;unfold gv at he;split at he
   ·split at he
    ·rename_i hr;refine (h.put ?_).put .nil;exact (h.find _).enter (fb hr).1 _
    ·rename_i hr;exact absurd he hr
   ·rename_i hr;exact absurd he hr
  ·exact h
 unfold kR;split
 ·exact hmk
 ·split
  ·exact hmk
  ·split
   ·unfold eh;split
    ·exact h.put (h.find _)
    ·exact h
   ·split
    ·unfold cq;split
     ·exact (h.put ((h.find _).leave _)).drop _
     ·exact h
    ·split
     ·unfold ko;split
      ·rename_i he;have hr:eB (toN l a) a.toName=0:=by
        unfold kn at he;split at he
        ·split at he
         ·split at he
          ·assumption
          ·rename_i hr;exact absurd he hr
         ·rename_i hr;exact absurd he hr
        ·rename_i hr;exact absurd he hr
       refine Nm.put ?_ ((h.to a).enter (fb hr).1 _);split
       ·exact h
       ·exact h.put ((h.find _).leave _)
      ·exact h
     ·exact h
theorem Wh.nm {l:List Node} (h:Wh l) {n:Node} (hn:n∈l):NmE n.entries:=λe he=>sO (h.name n.fid e.name e.fid ⟨n,hn,rfl,he⟩)
variable {Fa:Prop}
theorem rU {l:List Node} {a:Act} {v:Int} {n:Node} (he:aO l a=0) (h:n∈aQ l a v):n.version=v\/n∈l:=by
 unfold aO at he;unfold aQ at h;have hmk:n∈dL l a v->n.version=v\/n∈l:=λh=>by
  unfold dL at h;split at h
  ·rcases eF h with rfl | h
   ·exact .inl rfl
   ·rcases eF h with rfl | h
    ·exact .inl rfl
    ·exact .inr h
  ·exact .inr h
 split at h
 ·exact hmk h
 ·split at h
  ·exact hmk h
  ·split at h
   ·unfold eh at h;split at h
    ·rcases eF h with rfl | h
     ·exact .inl rfl
     ·exact .inr h
    ·exact .inr h
   ·split at h
    ·unfold cq at h;split at h
     ·rcases eF (Z0.1 h).1 with rfl | h
      ·exact .inl rfl
      ·exact .inr h
     ·exact .inr h
    ·split at h
     ·unfold bZ at h;split at h
      ·rcases eF h with rfl | h
       ·exact .inl rfl
       ·split at h
        ·exact .inr h
        ·rcases eF h with rfl | h
         ·exact .inl rfl
         ·exact .inr h
      ·exact .inr h
     ·exact .inr h
theorem Hist.ver {p:List Past} {t:List Node} (h:Hist p t):∀n,n∈t->0≤n.version/\n.version≤(p.length:Int):=by
 induction h with
 | nil=>intro n hn;rw[List.mem_singleton.1 hn];simp[eT]
 | @snoc p t c a h ha he ih=>
  intro n hn;simp only[List.length_append,List.length_cons,List.length_nil]
  rcases rU he hn with h1 | h1
  ·rw[h1];omega
  ·have:=ih n h1;omega
theorem Hist.det {p:List Past} {t:List Node} (h:Hist p t):∀{t'},Hist p t'->t=t':=by
 induction h with
 | nil=>
  intro t' h';generalize hq:([]:List Past)=q at h';cases h' with
  | nil=>rfl
  | snoc c a _ _ _=>simp at hq
 | @snoc p t c a h ha he ih=>
  intro t' h';generalize hq:p++[⟨c,a⟩]=q at h';cases h' with
  | nil=>simp at hq
  | @snoc p2 t2 c2 a2 h2 _ _=>
   obtain ⟨h3,h4⟩:=List.append_inj' hq rfl;subst h3;injection h4 with h4
   injection h4 with h4 h5
   subst h5;rw[ih h2]
theorem Hist.back {p:List Past} {c:Int} {a:Act} {t':List Node} (h:Hist (p++[⟨c,a⟩]) t'):∃t,Hist p t/\aO t a=0/\t'=aQ t a ((p.length+1:Nat):Int):=by
 generalize hq:p++[(⟨c,a⟩:Past)]=q at h;cases h with
 | nil=>simp at hq
 | @snoc p2 t2 c2 a2 h2 ha he=>
  obtain ⟨h3,h4⟩:=List.append_inj' hq rfl;subst h3;injection h4 with h4
  injection h4 with h4 h5
  subst h5;exact ⟨t2,h2,he,rfl⟩
def Hst (s:Srv) (n:Node):Prop:=n.version≤(s.past.length:Int)/\∀m,m∈s.tree->m.fid=n.fid->m.version=n.version->m=n
theorem Hst.at {s:Srv} (h:Hist s.past s.tree) {n:Node} (hn:n∈s.tree):Hst s n:=⟨(h.ver n hn).2,λ_ hm hf _=>ni h.bW.up hm hn hf⟩
theorem vl {p:List Past} {n:Node}:∀(q:List Past) {t t':List Node},Hist p t->Hist (p++q.reverse) t'->n.version≤(p.length:Int)->(∀m,m∈t->m.fid=n.fid->m.version=n.version->m=n) ->
  ∀m,m∈t'->m.fid=n.fid->m.version=n.version->m=n
 | [],t,t',h,h',_,hm=>by
  rw[List.reverse_nil,List.append_nil] at h';rw[←h.det h'];exact hm
 | x::q,t,t',h,h',hv,hm=>by
  rw[List.reverse_cons,←WT] at h';obtain ⟨t2,h2,he,rfl⟩:=Hist.back (c:=x.client) (a:=x.act) h';have ih:=vl q h h2 hv hm;intro m hmm hf hver
  rcases rU he hmm with h3 | h3
  ·rw[h3] at hver;simp only[List.length_append,List.length_reverse] at hver;omega
  ·exact ih m h3 hf hver
structure Grown (s s':Srv):Prop where
 hist:Hist s'.past s'.tree
 past:∃q,s'.past=s.past++q
theorem Grown.refl {s:Srv} (h:Hist s.past s.tree):Grown s s:=⟨h,[],by simp⟩
theorem Grown.trans {a b c:Srv} (h:Grown a b) (k:Grown b c):Grown a c:=by
 obtain ⟨q,hq⟩:=h.past;obtain ⟨r,hr⟩:=k.past;exact ⟨k.hist,q++r,by rw[hr,hq,WT]⟩
theorem Hst.grow {s s':Srv} (h:Hist s.past s.tree) (hg:Grown s s') {n:Node} (hn:Hst s n):Hst s' n:=by
 obtain ⟨q,hq⟩:=hg.past;have h1:=hg.hist;refine ⟨by rw[hq,List.length_append];have:=hn.1;omega,vl (p:=s.past) q.reverse h ?_ hn.1 hn.2⟩;rw[List.reverse_reverse,←hq];exact h1
theorem A8 {t:List Node} (hu:Up t) {k:Kept} (hd:k.dirty=false) (h:db t k=false):∃n,n∈t/\n.fid=k.node.fid/\n.version=k.node.version:=by
 unfold db at h;rw[hd,dd] at h;cases e:al t k.node.fid with
 | none=>rw[e] at h;simp at h
 | some n=>
  rw[e] at h;simp only[Bool.not_false,Option.isSome_some,Bool.not_true,Option.getD_some,Wj,Wr,Bool.not_eq_false',beq_iff_eq] at h;obtain ⟨h1,h2⟩:=(ZO hu).1 e;exact ⟨n,h1,h2,h⟩
theorem tf {s:Srv} (hh:Hist s.past s.tree) {k:Kept} (hk:Hst s k.node) (hd:k.dirty=false) (h:db s.tree k=false):k.node∈s.tree:=by
 obtain ⟨n,h1,h2,h3⟩:=A8 hh.bW.up hd h;rw[←hk.2 n h1 h2 h3];exact h1
structure ActS (a:Act):Prop where
 name:a.name.length≤40
 toName:a.toName.length≤40
 data:a.data.length≤20
theorem ActS.fit {a:Act} (h:ActS a):ActFit a:=⟨by have:=h.name;omega,by have:=h.toName;omega,by have:=h.data;omega⟩
structure HoardOK (h:Hoard):Prop where
 path:h.path.length≤40
 worth:1≤h.worth/\h.worth≤100
structure CInvF (Fa:Prop) (B T:Nat) (s:Srv) (c:Cli):Prop where
 room:3≤c.room/\c.room≤24
 nod:(c.cache.map λk=>k.node.fid).Nodup
 len:(c.cache.length:Int)≤c.room
 cc:∃r,jA r (aR c.cache)
 data:∀k,k∈c.cache->k.node.data.length≤20
 ent:∀k,k∈c.cache->k.node.entries.length≤6
 eup:∀k,k∈c.cache->EUp k.node.entries
 nam:∀k,k∈c.cache->NmE k.node.entries
 here:c.away=false->c.log=[]/\∀k,k∈c.cache->k.dirty=false/\k.node∈s.tree
 hst:Fa->∀k,k∈c.cache->k.dirty=false->Hst s k.node
 log:c.log.length≤20
 logS:∀r,r∈c.log->ActS r.act
 rep:c.repair.length≤B
 repS:∀r,r∈c.repair->ActS r.act
 hoards:c.hoards.length≤6
 hoardS:∀h,h∈c.hoards->HoardOK h
 clock:0≤c.clock/\c.clock≤(T:Int)
 made:0≤c.made/\c.made≤(B:Int)
 logged:0≤c.logged/\c.logged≤(B:Int)
abbrev HS (B T:Nat) (s:Srv) (c:Cli):Prop:=CInvF True B T s c
theorem CInvF.mono {B B' T T':Nat} {s:Srv} {c:Cli} (h:CInvF Fa B T s c) (hB:B≤B') (hT:T≤T'):CInvF Fa B' T' s c:=
 { h with rep:=We h.rep hB,clock:=⟨h.clock.1,by have:=h.clock.2;omega⟩,made:=⟨h.made.1,by have:=h.made.2;omega⟩,logged:=⟨h.logged.1,by have:=h.logged.2;omega⟩ }
theorem CInvF.new (B T:Nat) (s:Srv) (i room:Int) (h:3≤room/\room≤24):CInvF Fa B T s (lG i room) where
 room:=h
 nod:=List.Pairwise.nil
 len:=by simp[lG];omega
 cc:=⟨λ_=>0,λn hn=>by cases hn⟩
 data:=λk hk=>by cases hk
 ent:=λk hk=>by cases hk
 eup:=λk hk=>by cases hk
 nam:=λk hk=>by cases hk
 here:=λ_=>⟨rfl,λk hk=>by cases hk⟩
 hst:=λ_ k hk=>by cases hk
 log:=by simp[lG]
 logS:=λr hr=>by cases hr
 rep:=by simp[lG]
 repS:=λr hr=>by cases hr
 hoards:=by simp[lG]
 hoardS:=λr hr=>by cases hr
 clock:=by simp[lG]
 made:=by simp[lG]
 logged:=by simp[lG]
theorem sh {r:Int->Nat} {l m:List Node} (h:jA r l) (hs:∀n,n∈m->∃o,o∈l/\o.fid=n.fid/\o.entries=n.entries):jA r m:=λn hn e he=>by
 obtain ⟨o,h1,h2,h3⟩:=hs n hn;rw[←h3] at he;rw[←h2];exact h o h1 e he
theorem lF {l:List Kept} {n:Node}:n∈aR l↔∃k,k∈l/\k.node=n:=by
 unfold aR;exact Zv
structure Of (t:List Node) (l:List Kept):Prop where
 each:∀k,k∈l->∃n,n∈t/\n.fid=k.node.fid/\n.dir=k.node.dir/\n.data=k.node.data/\n.entries=k.node.entries
theorem Of.cc {t:List Node} {l:List Kept} (h:Of t l) (hf:∃r,jA r t):∃r,jA r (aR l):=by
 obtain ⟨r,hr⟩:=hf;refine ⟨r,sh hr λn hn=>?_⟩;obtain ⟨k,hk,rfl⟩:=lF.1 hn;obtain ⟨o,h1,h2,_,_,h5⟩:=h.each k hk;exact ⟨o,h1,h2,h5⟩
theorem Of.mem {t:List Node} {l:List Kept} (h:∀k,k∈l->k.node∈t):Of t l:=⟨λk hk=>⟨k.node,h k hk,rfl,rfl,rfl,rfl⟩⟩
structure UInvF (Fa:Prop) (B T:Nat) (u:U):Prop where
 srv:SrvOK B u.s
 cli:CInvF Fa B T u.s u.c
abbrev tq (B T:Nat) (u:U):Prop:=UInvF True B T u
theorem UInvF.mono {B B' T T':Nat} {u:U} (h:UInvF Fa B T u) (hB:B≤B') (hT:T≤T'):UInvF Fa B' T' u:=⟨h.srv.mono hB,h.cli.mono hB hT⟩
theorem nK (f w c:Int) (k:Kept):(kW f w c k).node=k.node:=by unfold kW;split<;>rfl
theorem xD (f w c:Int) (k:Kept):(kW f w c k).dirty=k.dirty:=by unfold kW;split<;>rfl
theorem gu {l:List Kept} {f w c:Int} {k:Kept} (h:k∈l.map (kW f w c)):∃x,x∈l/\x.node=k.node/\x.dirty=k.dirty:=by
 obtain ⟨x,hx,rfl⟩:=Zv.1 h;exact ⟨x,hx,(nK _ _ _ _).symm,(xD _ _ _ _).symm⟩
theorem sJ (l:List Kept) (f w c:Int):(l.map (kW f w c)).map (λk=>k.node.fid)=l.map λk=>k.node.fid:=by
 rw[WX];exact Wg λk _=>by simp[nK]
theorem qF (l:List Kept) (f w c:Int):aR (l.map (kW f w c))=aR l:=by
 unfold aR;rw[WX];exact Wg λk _=>by simp[nK]
theorem mH {B T:Nat} {u:U} (h:UInvF Fa B T u) (f w:Int):UInvF Fa B (T+1) (eL u f w):=by
 obtain ⟨hs,h⟩:=h;refine ⟨hs,?_⟩;exact { h with
  nod:=by show (List.map _ (u.c.cache.map _)).Nodup;rw[sJ];exact h.nod
  len:=by show ((List.map _ u.c.cache).length:Int)≤_;rw[List.length_map];exact h.len
  cc:=by show ∃r,jA r (aR (u.c.cache.map _));rw[qF];exact h.cc
  data:=λk hk=>by obtain ⟨x,hx,h1,_⟩:=gu hk;rw[←h1];exact h.data x hx
  ent:=λk hk=>by obtain ⟨x,hx,h1,_⟩:=gu hk;rw[←h1];exact h.ent x hx
  eup:=λk hk=>by obtain ⟨x,hx,h1,_⟩:=gu hk;rw[←h1];exact h.eup x hx
  nam:=λk hk=>by obtain ⟨x,hx,h1,_⟩:=gu hk;rw[←h1];exact h.nam x hx
  here:=λha=>⟨(h.here ha).1,λk hk=>by obtain ⟨x,hx,h1,h2⟩:=gu hk;rw[←h1,←h2];exact (h.here ha).2 x hx⟩
  hst:=λhF k hk hd=>by obtain ⟨x,hx,h1,h2⟩:=gu hk;rw[←h1];exact h.hst hF x hx (h2.trans hd)
  clock:=by have:=h.clock;show 0≤u.c.clock+1/\u.c.clock+1≤((T+1:Nat):Int);omega }
theorem vB {l:List Kept} {f:Int} (h:dN l f=none):∀x,x∈l->x.node.fid≠f:=λx hx e=>by
 have:=Z6.1 h x hx;simp[e] at this
theorem Am {l:List Kept} {f:Int} {i:Nat} (h:dN l f=some i):i<l.length/\(l.getD i default).node.fid=f:=by
 obtain ⟨h1,h2,_⟩:=Z4.1 h;exact ⟨h1,by rw[Zo,Zp h1];exact of_decide_eq_true h2⟩
theorem fY {room:Int}:∀(f:Nat) (l L:List Kept),df room f l=some L->L.Sublist l
 | 0,l,L,h=>by rw[df] at h;injection h with h;subst h;exact List.Sublist.refl _
 | f+1,l,L,h=>by
  rw[df] at h;split at h
  ·split at h
   ·cases h
   ·exact (fY f _ L h).trans (List.eraseIdx_sublist _ _)
  ·injection h with h;subst h;exact List.Sublist.refl _
theorem oQ {room:Int} (hr:1≤room):∀(f:Nat) (l L:List Kept),df room f l=some L->l.length<f->(L.length:Int)<room
 | 0,l,L,h,hf=>by omega
 | f+1,l,L,h,hf=>by
  rw[df] at h;split at h
  ·rename_i hge;split at h
   ·cases h
   ·rename_i i hw;have hi:i<l.length:=gO l l.length i hw;exact oQ hr f _ L h (by rw[List.length_eraseIdx,if_pos hi];omega)
  ·injection h with h;subst h;omega
structure Kp (l:List Kept) (room:Int) (k:Kept) (L:List Kept):Prop where
 mem:∀x,x∈L->(x∈l/\x.node.fid≠k.node.fid)\/(x.node=k.node/\x.dirty=k.dirty)
 nod:(L.map λx=>x.node.fid).Nodup
 len:(L.length:Int)≤room
 has:∃x,x∈L/\x.node=k.node/\x.dirty=k.dirty
theorem CB {l:List Kept} (h:(l.map λx=>x.node.fid).Nodup) {i j:Nat} {a b:Kept} (ha:l[i]? = some a) (hb:l[j]? = some b) (hf:a.node.fid=b.node.fid):i=j:=by
 have h1:=Zu.1 ha;have h2:=Zu.1 hb;obtain ⟨hi,h1⟩:=h1;obtain ⟨hj,h2⟩:=h2;refine (List.getElem_inj (xs:=l.map λx=>x.node.fid) (i:=i) (j:=j) (h₀:=Qm) (h₁:=u6) h).1 ?_;rw[List.getElem_map,List.getElem_map,h1,h2,hf]
theorem C7 {l:List Kept} {i:Nat} {k:Kept} (hi:i<l.length) (hf:(l.getD i default).node.fid=k.node.fid):(l.set i k).map (λx=>x.node.fid)=l.map λx=>x.node.fid:=by
 rw[List.map_set];refine List.ext_getElem? λj=>?_
 rw[Z7];split
 ·rename_i e;subst e;rw[Zr,Zp hi];rw[Zo,Zp hi] at hf;simp only[List.length_map,hi,if_true,Option.map_some];exact congrArg some hf.symm
 ·rfl
theorem vA {l L:List Kept} {room:Int} {k:Kept} (hr:1≤room) (hn:(l.map λx=>x.node.fid).Nodup) (hl:(l.length:Int)≤room) (h:eK l room k=some L):Kp l room k L:=by
 unfold eK at h;cases e:dN l k.node.fid with
 | some i=>
  rw[e] at h;injection h with h
  subst h;obtain ⟨hi,hf⟩:=Am e;refine ⟨λx hx=>?_,?_,by rw[WD];exact hl,⟨{ k with worth:=rO k.worth (l.getD i default).worth },List.mem_iff_getElem.2 ⟨i,by simpa using hi,by simp⟩,rfl,rfl⟩⟩
  ·obtain ⟨j,hj⟩:=Z1 hx;rw[Z7] at hj;split at hj
   ·rename_i e2;subst e2;simp only[hi,if_true,Option.some.injEq] at hj;exact .inr ⟨by rw[←hj],by rw[←hj]⟩
   ·rename_i hne;refine .inl ⟨Zs hj,λhxf=>hne ?_⟩;refine CB hn (Zp hi) hj ?_;rw[Zo,Zp hi] at hf;exact hf.trans hxf.symm
  ·rw[C7 hi (by exact hf)];exact hn
 | none=>
  rw[e] at h;obtain ⟨L0,h0,rfl⟩:=WG.1 h;have h1:=fY _ _ _ h0;have h2:=oQ hr _ _ _ h0 (Nat.lt_succ_self _);have hno:=vB e;refine ⟨λx hx=>?_,?_,by rw[List.length_append];simp;omega,⟨k,by simp,rfl,rfl⟩⟩
  ·rcases List.mem_append.1 hx with hx | hx
   ·exact .inl ⟨h1.subset hx,hno x (h1.subset hx)⟩
   ·rw[List.mem_singleton.1 hx];exact .inr ⟨rfl,rfl⟩
  ·rw[List.map_append,List.nodup_append];refine ⟨hn.sublist (h1.map _),by simp,λa ha b hb=>?_⟩;obtain ⟨x,hx,rfl⟩:=Zv.1 ha;simp only[List.map_cons,List.map_nil,List.mem_singleton] at hb;rw[hb];exact hno x (h1.subset hx)
theorem CInvF.within {B T:Nat} {s:Srv} {c:Cli} (h:CInvF Fa B T s c) (hh:Hist s.past s.tree) {L:List Kept} (hn:(L.map λk=>k.node.fid).Nodup) (hl:(L.length:Int)≤c.room) (hm:∀k,k∈L->k.dirty=false/\k.node∈s.tree):CInvF Fa B T s { c with cache:=L }:=
 { h with
  nod:=hn
  len:=hl
  cc:=(Of.mem λk hk=>(hm k hk).2).cc hh.bW.cc
  data:=λk hk=>hh.bW.data _ (hm k hk).2
  ent:=λk hk=>hh.bW.ent _ (hm k hk).2
  eup:=λk hk=>(hh.whole.loc _ (hm k hk).2).eup
  nam:=λk hk=>hh.whole.nm (hm k hk).2
  here:=λha=>⟨(h.here ha).1,hm⟩
  hst:=λ_ k hk _=>Hst.at hh (hm k hk).2 }
theorem Ai {B T:Nat} {u:U} (h:UInvF Fa B T u) (ha:u.c.away=false) {n:Node} (hn:n∈u.s.tree) (w c:Int):UInvF Fa B T (jD u ⟨n,false,w,c⟩):=by
 unfold jD;split
 ·rename_i l hl;have hk:=vA (by have:=h.cli.room;omega) h.cli.nod h.cli.len hl;refine ⟨h.srv,h.cli.within h.srv.hist hk.nod hk.len λx hx=>?_⟩
  rcases hk.mem x hx with ⟨h1,_⟩ | ⟨h1,h2⟩
  ·exact (h.cli.here ha).2 x h1
  ·exact ⟨h2,by rw[h1];exact hn⟩
 ·exact h
theorem cn {B T:Nat} {u:U} (h:UInvF Fa B T u) (f w:Int):UInvF Fa B (T+1) (bz u f w).u:=by
 unfold bz;split
 ·exact mH h f w
 ·split
  ·exact mH h f w
  ·rename_i ha;split
   ·exact mH h f w
   ·rename_i n hn;exact Ai (mH h f w) (show u.c.away=false by simpa using ha) ((ZO h.srv.hist.bW.up).1 hn).1 w _
theorem yY {B:Nat} (w:Int):∀(l:List (List UInt8)) (T:Nat) (g:Got),UInvF Fa B T g.u->UInvF Fa B (T+l.length) (goR w l g).u
 | [],T,g,h=>by unfold goR;split<;>exact h
 | s::r,T,g,h=>by
  unfold goR;have hm:UInvF Fa B (T+(s::r).length) g.u:=h.mono (Zw _) w7;split
  ·exact hm
  ·split
   ·exact hm
   ·split
    ·exact hm
    ·rename_i f _;have:=yY w r (T+1) (bz g.u f w) (cn h f w)
     rwa [show T+1+r.length=T+(s::r).length by simp;omega] at this
theorem kJ {B T:Nat} {u:U} (h:UInvF Fa B T u) (l:List (List UInt8)) (w:Int):UInvF Fa B (T+1+l.length) (goU u l w).u:=yY w l (T+1) _ (cn h 0 w)
theorem cP (s:List UInt8):(ag s).1.length≤41/\∀x,x∈(ag s).1->x.length≤40/\de x=true:=by
 unfold ag;split
 ·simp
 ·rename_i h1;split
  ·simp
  ·split
   ·simp
   ·split
    ·rename_i h4;have h2:=tC 47 (s.drop 1);have h5:(s.drop 1).length=s.length-1:=Wa;refine ⟨by show (eE 47 (s.drop 1)).length≤41;omega,λx hx=>⟨?_,List.all_eq_true.1 h4 x hx⟩⟩;have h3:=ny 47 (s.drop 1) x hx;omega
    ·simp
theorem cU {B T:Nat} {u:U} (h:UInvF Fa B T u) (path:List UInt8):UInvF Fa B (T+42) (ak u path).u:=by
 unfold ak;split
 ·exact h.mono (Zw _) z7
 ·split
  ·exact h.mono (Zw _) z7
  ·refine (kJ h _ 0).mono (Zw _) ?_;have:=(cP path).1;simp only[Z9];omega
theorem ch (u:U) (path:List UInt8):(ak u path).name.length≤40:=by
 unfold ak;split
 ·simp
 ·split
  ·simp
  ·rename_i h;refine ((cP path).2 _ ?_).1;have hi:(ag path).1.length-1<(ag path).1.length:=by omega
   rw[Zo,Zp hi];exact WR hi
variable {Fa:Prop}
theorem lB {l:List Node} (h:(l.map (·.fid)).Nodup):∀i,i<l.length->∀j,j<i->fH l j≠fH l i:=λi hi j hj e=>by
 unfold fH at e;rw[Zo,Zo,Zp hi,Zp (show j<l.length by omega)] at e;have:=(List.getElem_inj (xs:=l.map (·.fid)) (i:=j) (j:=i) (h₀:=y9) (h₁:=Qm) h).1 (by rw[List.getElem_map,List.getElem_map];exact e);omega
theorem kk (l:List Kept):(aR l).map (·.fid)=l.map λk=>k.node.fid:=by unfold aR;rw[WX];rfl
theorem lS {l:List Kept} (h:(l.map λk=>k.node.fid).Nodup):pH l=true:=by
 refine decide_eq_true λi hi j hj=>?_
 have:=lB (l:=aR l) (by rw[kk];exact h) i (by simpa[aR] using hi) j hj;have hf:∀i,i<l.length->fH (aR l) i=uX l i:=λi hi=>by
  unfold fH uX aR;rw[Zo,Zo,Zr,Zp hi];rfl
 rwa [hf j z7,hf i hi] at this
theorem dI {c:Cli} (h:(c.cache.map λk=>k.node.fid).Nodup) (x:Node):x∈cy c↔∃k,k∈c.cache/\k.node=x:=by
 unfold cy;rw[tc _ (lB (by rw[kk];exact h)),lF]
theorem gM (c:Cli):Up (cy c):=rb _
theorem Bd {c:Cli} (h:(c.cache.map λk=>k.node.fid).Nodup):(cy c).length=c.cache.length:=by
 unfold cy;rw[ta _ (lB (by rw[kk];exact h))];simp[aR]
theorem CInvF.bW {B T:Nat} {s:Srv} {c:Cli} (h:CInvF Fa B T s c):Good (cy c) where
 up:=gM c
 cc:=by
  obtain ⟨r,hr⟩:=h.cc;exact ⟨r,sh hr λn hn=>by
   obtain ⟨k,hk,rfl⟩:=(dI h.nod n).1 hn;exact ⟨k.node,lF.2 ⟨k,hk,rfl⟩,rfl,rfl⟩⟩
 len:=by rw[Bd h.nod];have:=h.len;have:=h.room;omega
 data:=λn hn=>by obtain ⟨k,hk,rfl⟩:=(dI h.nod n).1 hn;exact h.data k hk
 ent:=λn hn=>by obtain ⟨k,hk,rfl⟩:=(dI h.nod n).1 hn;exact h.ent k hk
theorem CInvF.ri {B T:Nat} {s:Srv} {c:Cli} (h:CInvF Fa B T s c):Ri (cy c):=⟨gM c,λn hn=>by
 obtain ⟨k,hk,rfl⟩:=(dI h.nod n).1 hn;exact h.eup k hk⟩
theorem CInvF.nmT {B T:Nat} {s:Srv} {c:Cli} (h:CInvF Fa B T s c):Nm (cy c):=⟨gM c,λn hn=>by
 obtain ⟨k,hk,rfl⟩:=(dI h.nod n).1 hn;exact h.nam k hk⟩
theorem lE {room clk:Int} (hr:1≤room) {was:List Node} {a:Act}:∀(N:List Node) {l L:List Kept},(l.map λx=>x.node.fid).Nodup->(l.length:Int)≤room->dC room clk was a N l=some L ->
  (L.map λx=>x.node.fid).Nodup/\(L.length:Int)≤room/\∀x,x∈L->(x∈l/\∀n,n∈N->bB was a n=true->n.fid≠x.node.fid)\/∃n,n∈N/\bB was a n=true/\x.node=(nC was clk n).node/\x.dirty=true
 | [],l,L,hn,hl,h=>by
  rw[dC] at h;injection h with h
  subst h;exact ⟨hn,hl,λx hx=>.inl ⟨hx,λn hn=>by cases hn⟩⟩
 | n::r,l,L,hn,hl,h=>by
  rw[dC] at h;split at h
  ·rename_i hc;split at h
   ·cases h
   ·rename_i l' hk;have hp:=vA hr hn hl hk;obtain ⟨h1,h2,h3⟩:=lE hr r hp.nod hp.len h;refine ⟨h1,h2,λx hx=>?_⟩
    rcases h3 x hx with ⟨h4,h5⟩ | ⟨m,h4,h5⟩
    ·rcases hp.mem x h4 with ⟨h6,h7⟩ | ⟨h6,h7⟩
     ·refine .inl ⟨h6,λm hm hcm=>?_⟩
      rcases List.mem_cons.1 hm with rfl | hm
      ·exact λe=>h7 e.symm
      ·exact h5 m hm hcm
     ·exact .inr ⟨n,List.mem_cons_self,hc,h6,h7⟩
    ·exact .inr ⟨m,List.mem_cons_of_mem _ h4,h5⟩
  ·rename_i hc;obtain ⟨h1,h2,h3⟩:=lE hr r hn hl h;refine ⟨h1,h2,λx hx=>?_⟩
   rcases h3 x hx with ⟨h4,h5⟩ | ⟨m,h4,h5⟩
   ·refine .inl ⟨h4,λm hm hcm=>?_⟩
    rcases List.mem_cons.1 hm with rfl | hm
    ·exact absurd hcm hc
    ·exact h5 m hm hcm
   ·exact .inr ⟨m,List.mem_cons_of_mem _ h4,h5⟩
theorem xn {l L:List Rec} {r:Rec} (hl:l.length≤20) (h:eV l r=some L):L.length≤20/\∀x,x∈L->x∈l\/x=r:=by
 unfold eV at h;split at h
 ·injection h with h
  subst h;exact ⟨We (Z5 _ _) hl,λx hx=>.inl (Z0.1 hx).1⟩
 ·split at h
  ·cases h
  ·rename_i hlt;injection h with h
   subst h;refine ⟨by simp;omega,λx hx=>?_⟩
   rcases List.mem_append.1 hx with hx | hx
   ·exact .inl ((nh l r).subset hx)
   ·exact .inr (List.mem_singleton.1 hx)
theorem wv {a b:Node} (h:dM false a b=true):a.fid=b.fid/\a.dir=b.dir/\a.data=b.data/\a.entries=b.entries:=by
 unfold dM at h;simp only[Bool.and_eq_true,beq_iff_eq,decide_eq_true_eq] at h;exact ⟨h.1.1.1.1,h.1.1.1.2,h.1.1.2,h.1.2⟩
theorem uJ {was:List Node} {a:Act} {n:Node} (h:bB was a n≠true):∃o,al was n.fid=some o/\dM false o n=true:=by
 unfold bB at h;cases e:al was n.fid with
 | none=>rw[e] at h;simp at h
 | some o=>
  rw[e] at h;refine ⟨o,rfl,?_⟩;simp only[Bool.not_eq_true,Bool.not_eq_false',Bool.and_eq_true] at h;exact h.1
theorem CM {c:Cli} {a:Act} (h:ActS a):ActS (fB c a):=by unfold fB;split;exact ⟨h.name,h.toName,h.data⟩;exact h
theorem Ho {B T:Nat} {s:Srv} {c:Cli} (h:CInvF Fa B T s c) {a:Act} (he:aO (cy c) (fB c a)=0) {L:List Kept} (hL:zm c a=some L) :
  let L':=L.filter λk=>bn (jo c a) k.node.fid
  (L'.map λx=>x.node.fid).Nodup/\(L'.length:Int)≤c.room/\Of (jo c a) L'/\∀x,x∈L'->x.dirty=false->x∈c.cache:=by
 intro L';obtain ⟨h1,h2,h3⟩:=lE (by have:=h.room;omega) _ h.nod h.len hL;have hg:=ja h.bW (fB c a) 0 he;refine ⟨h1.sublist ((Wn).map _),?_,⟨λx hx=>?_⟩,λx hx hd=>?_⟩
 ·have:=Z5 (λk:Kept=>bn (jo c a) k.node.fid) L
  show ((L.filter _).length:Int)≤_
  omega
 ·obtain ⟨hx,hat⟩:=Z0.1 hx
  rcases h3 x hx with ⟨h4,h5⟩ | ⟨n,h4,h5,h6,h7⟩
  ·rw[dd] at hat;obtain ⟨m,hm⟩:=WM.1 hat;obtain ⟨hm,hmf⟩:=(ZO hg.up).1 hm;have hno:bB (cy c) (fB c a) m≠true:=λhc=>h5 m hm hc hmf
   obtain ⟨o,ho,hs⟩:=uJ hno;have hx2:al (cy c) m.fid=some x.node:=(ZO (gM c)).2 ⟨(dI h.nod _).2 ⟨x,h4,rfl⟩,hmf.symm⟩;rw[hx2] at ho;injection ho with ho
   subst ho;obtain ⟨k1,k2,k3,k4⟩:=wv hs;exact ⟨m,hm,hmf,k2.symm,k3.symm,k4.symm⟩
  ·exact ⟨n,h4,by rw[h6];rfl,by rw[h6];rfl,by rw[h6];rfl,by rw[h6];rfl⟩
 ·obtain ⟨hx,_⟩:=Z0.1 hx
  rcases h3 x hx with ⟨h4,_⟩ | ⟨n,_,_,_,h7⟩
  ·exact h4
  ·rw[hd] at h7;cases h7
theorem E_ {B T:Nat} {u:U} (h:UInvF Fa B T u) (ha:u.c.away=true) {a:Act} (hs:ActS a) (seen:Int):UInvF Fa (B+1) T (jq u a seen).u:=by
 have hm:=h.mono (Nat.le_succ B) (Zw T);unfold jq;split
 ·exact hm
 ·rename_i he;have he:aO (cy u.c) (fB u.c a)=0:=by omega
  split
  ·exact hm
  ·rename_i log hlog;split
   ·exact hm
   ·rename_i L hL;obtain ⟨h1,h2,h3,h4⟩:=Ho h.cli he hL;have hg:=ja h.cli.bW (fB u.c a) 0 he;have hri:Ri (jo u.c a):=by unfold jo;rw[←h.cli.bW.aQ];exact h.cli.ri.apply _ _
    have hnm:Nm (jo u.c a):=by unfold jo;rw[←h.cli.bW.aQ];exact h.cli.nmT.apply _ _
    obtain ⟨g1,g2⟩:=xn h.cli.log hlog;refine ⟨hm.srv,?_⟩;have hc:=hm.cli;exact { hc with
     nod:=h1
     len:=h2
     cc:=h3.cc hg.cc
     data:=λk hk=>by obtain ⟨n,k1,_,_,k2,_⟩:=h3.each k hk;rw[←k2];exact hg.data n k1
     ent:=λk hk=>by obtain ⟨n,k1,_,_,_,k2⟩:=h3.each k hk;rw[←k2];exact hg.ent n k1
     eup:=λk hk=>by obtain ⟨n,k1,_,_,_,k2⟩:=h3.each k hk;rw[←k2];exact hri.eup n k1
     nam:=λk hk=>by obtain ⟨n,k1,_,_,_,k2⟩:=h3.each k hk;rw[←k2];exact hnm.nm n k1
     here:=λh0=>by simp only[ha] at h0;cases h0
     hst:=λhF k hk hd=>h.cli.hst hF k (h4 k hk hd) hd
     log:=g1
     logS:=λr hr=>by
      rcases g2 r hr with h5 | rfl
      ·exact h.cli.logS r h5
      ·exact CM hs
     made:=by have:=h.cli.made;show 0≤(if bd a=true then u.c.made+1 else u.c.made)/\(if bd a=true then u.c.made+1 else u.c.made)≤((B+1:Nat):Int);split<;>omega
     logged:=by have:=h.cli.logged;show 0≤u.c.logged+1/\u.c.logged+1≤((B+1:Nat):Int);omega }
theorem CInvF.grow {B B' T:Nat} {s s':Srv} {c:Cli} (h:CInvF Fa B T s c) (hB:B≤B') (hh:Hist s.past s.tree) (hg:Grown s s'):CInvF Fa B' T s' (bp s'.tree c):=by
 have hm:=h.mono hB (Zw T);unfold bp;split
 ·rename_i ha;exact { hm with here:=λh0=>(by rw[ha] at h0;cases h0),hst:=λhF k hk hd=>(h.hst hF k hk hd).grow hh hg }
 ·rename_i ha;have ha:c.away=false:=by simpa using ha
  unfold qj;have hsub:(c.cache.filter λk=>!db s'.tree k).Sublist c.cache:=Wn;have hin:∀k,k∈c.cache.filter (λk=>!db s'.tree k)->k.dirty=false/\k.node∈s'.tree:=λk hk=>by
   obtain ⟨hk,hst⟩:=Z0.1 hk;have hd:=((h.here ha).2 k hk).1;exact ⟨hd,tf hg.hist ((Hst.at hh ((h.here ha).2 k hk).2).grow hh hg) hd (by simpa using hst)⟩
  exact { hm with
   nod:=h.nod.sublist (hsub.map _)
   len:=by have:=hsub.length_le;have:=h.len;show ((c.cache.filter _).length:Int)≤c.room;omega
   cc:=(Of.mem λk hk=>(hin k hk).2).cc hg.hist.bW.cc
   data:=λk hk=>h.data k (hsub.subset hk)
   ent:=λk hk=>h.ent k (hsub.subset hk)
   eup:=λk hk=>h.eup k (hsub.subset hk)
   nam:=λk hk=>h.nam k (hsub.subset hk)
   here:=λ_=>⟨(h.here ha).1,hin⟩
   hst:=λhF k hk hd=>(h.hst hF k (hsub.subset hk) hd).grow hh hg }
theorem Er {s:Srv} {a:Act} (h:ActFit a):ActFit (doA s a):=by unfold doA;split;exact ⟨h.name,h.toName,h.data⟩;exact h
theorem vh {s:Srv} (h:Hist s.past s.tree) (c:Int) {a:Act} (ha:ActFit a) (he:doE s a=0):Grown s (doS s c a):=⟨Hist.snoc c _ h (Er ha) he,_,rfl⟩
theorem qt {s:Srv} (h:Hist s.past s.tree) (c:Int) {log:List Rec} (hl:∀r,r∈log->ActFit r.act):Grown s (kD s c log):=⟨(JInv.qz h c s.next log hl).hist,_,rfl⟩
theorem B6 {B T:Nat} {u:U} (h:UInvF Fa B T u) (ha:u.c.away=false) {a:Act} (hs:ActS a):UInvF Fa (B+1) T (fM u a).u:=by
 unfold fM;split
 ·rename_i he;have hg:=vh h.srv.hist u.c.number hs.fit he;have:=h.cli.grow (Nat.le_succ B) h.srv.hist hg;unfold bp at this;rw[if_neg Qj] at this;exact ⟨h.srv.step u.c.number hs.fit he,this⟩
 ·exact h.mono (Nat.le_succ B) (Zw T)
theorem iS {B T:Nat} {u:U} (h:UInvF Fa B T u) {a:Act} (hs:ActS a) (seen:Int):UInvF Fa (B+1) T (b_ u a seen).u:=by
 unfold b_;split
 ·rename_i ha;exact E_ h ha hs seen
 ·rename_i ha;exact B6 h (by simpa using ha) hs
theorem zn {B T:Nat} {g:Got} (h:UInvF Fa B T g.u) {data:List UInt8} (hd:data.length≤20):UInvF Fa (B+1) T (fW g data).u:=by
 unfold fW;split
 ·exact h.mono (Nat.le_succ B) (Zw T)
 ·exact iS h ⟨by simp[dv],by simp[dv],hd⟩ _
theorem Bn {B T:Nat} {u:U} (h:UInvF Fa B T u) (path data:List UInt8):UInvF Fa (B+2) (T+100) (bM u path data).u:=by
 have hd:=cU h path;have hn:=ch u path;unfold bM;split
 ·exact hd.mono z7 z7
 ·split
  ·exact hd.mono z7 z7
  ·rename_i hdl;split
   ·rename_i f _;exact (zn (cn hd f 0) z7).mono z7 z7
   ·have hm:=iS hd (a:=cK (ak u path).n.fid (ak u path).name) ⟨hn,by simp[cK],by simp[cK]⟩ (-1);split
    ·exact hm.mono z7 z7
    ·have:=(cP path).1;exact (zn (kJ hm (ag path).1 0) z7).mono z7 z7
theorem Aw {B T:Nat} {u:U} (h:UInvF Fa B T u) (path:List UInt8):UInvF Fa (B+2) (T+100) (ec u path).u:=by
 have hd:=cU h path;have hn:=ch u path;unfold ec;split
 ·exact hd.mono z7 z7
 ·exact (iS hd (a:=ke (ak u path).n.fid (ak u path).name) ⟨hn,by simp[ke],by simp[ke]⟩ (-1)).mono z7 z7
theorem pt {B T:Nat} {u:U} (h:UInvF Fa B T u) (path:List UInt8):UInvF Fa B (T+43) (atU u path).u/\(atU u path).name.length≤40:=by
 have hd:=cU h path;have hn:=ch u path;unfold atU;split
 ·exact ⟨hd.mono z7 z7,by simp⟩
 ·split
  ·exact ⟨hd.mono z7 z7,by simp⟩
  ·rename_i f _;exact ⟨cn hd f 0,hn⟩
theorem ya {B T:Nat} {u:U} (h:UInvF Fa B T u) (path:List UInt8):UInvF Fa (B+2) (T+100) (bH u path).u:=by
 obtain ⟨hd,hn⟩:=pt h path;unfold bH;split
 ·exact hd.mono z7 z7
 ·exact (iS hd (a:=dZ (atU u path).n.fid (atU u path).d (atU u path).name) ⟨hn,by simp[dZ],by simp[dZ]⟩ _).mono z7 z7
theorem Cx {B T:Nat} {u:U} (h:UInvF Fa B T u) (path to:List UInt8):UInvF Fa (B+2) (T+100) (dm u path to).u:=by
 obtain ⟨hd,hn⟩:=pt h path;unfold dm;split
 ·exact hd.mono z7 z7
 ·have h2:=cU hd to;have hn2:=ch (atU u path).u to;split
  ·exact h2.mono z7 z7
  ·exact (iS h2 (a:=fX (atU u path).n.fid (atU u path).d (atU u path).name (ak (atU u path).u to).n.fid (ak (atU u path).u to).name) ⟨hn,hn2,by simp[fX]⟩ _).mono z7 z7
theorem mX:∀(l:List Rec) (vs:List Verdict),(∀r,r∈bs l vs->r∈l)/\(bs l vs).length≤l.length
 | [],vs=>by cases vs<;>exact ⟨λr hr=>Zj,Zw _⟩
 | r::l,[]=>⟨λr hr=>Zj,Wl _⟩
 | r::l,v::vs=>by
  obtain ⟨h1,h2⟩:=mX l vs;unfold bs;split
  ·exact ⟨λx hx=>List.mem_cons_of_mem _ (h1 x hx),by simp;omega⟩
  ·refine ⟨λx hx=>?_,by simp;omega⟩
   rcases List.mem_cons.1 hx with rfl | hx
   ·exact List.mem_cons_self
   ·exact List.mem_cons_of_mem _ (h1 x hx)
theorem Bw {B T:Nat} {u:U} (h:UInvF Fa B T u) (hF:Fa):UInvF Fa (B+20) T (gR u):=by
 have hlf:∀r,r∈u.c.log->ActFit r.act:=λr hr=>(h.cli.logS r hr).fit
 have hg:=qt h.srv.hist u.c.number hlf;have hl:=h.cli.log;have hs:=(h.srv.take u.c.number hlf).mono (show B+u.c.log.length≤B+20 by omega);obtain ⟨r1,r2⟩:=mX u.c.log (aJ u);have hc:=(h.cli).mono (show B≤B+20 by omega) (Zw T);have hsub:((u.c.cache.filter λk=>!k.dirty).filter λk=>!db (jJ u).tree k).Sublist u.c.cache:=Wn.trans Wn;have hin:∀k,k∈(u.c.cache.filter λk=>!k.dirty).filter (λk=>!db (jJ u).tree k)->k.dirty=false/\k.node∈(jJ u).tree:=λk hk=>by
  obtain ⟨hk,hst⟩:=Z0.1 hk;obtain ⟨hk,hd⟩:=Z0.1 hk;have hd:k.dirty=false:=by simpa using hd
  exact ⟨hd,tf hg.hist ((h.cli.hst hF k hk hd).grow h.srv.hist hg) hd (show db (jJ u).tree k=false by simpa using hst)⟩
 refine ⟨hs,?_⟩;exact { hc with
  nod:=h.cli.nod.sublist (hsub.map _)
  len:=by have:=hsub.length_le;have:=h.cli.len;show ((List.filter _ (u.c.cache.filter _)).length:Int)≤u.c.room;omega
  cc:=(Of.mem λk hk=>(hin k hk).2).cc hg.hist.bW.cc
  data:=λk hk=>h.cli.data k (hsub.subset hk)
  ent:=λk hk=>h.cli.ent k (hsub.subset hk)
  eup:=λk hk=>h.cli.eup k (hsub.subset hk)
  nam:=λk hk=>h.cli.nam k (hsub.subset hk)
  here:=λ_=>⟨rfl,hin⟩
  hst:=λ_ k hk _=>Hst.at hg.hist (hin k hk).2
  log:=Wl _
  logS:=λr hr=>by cases hr
  rep:=by have:=h.cli.rep;show (u.c.repair++_).length≤_;rw[List.length_append];omega
  repS:=λr hr=>by
   rcases List.mem_append.1 hr with hr | hr
   ·exact h.cli.repS r hr
   ·exact h.cli.logS r (r1 r hr) }
theorem uq {s:List UInt8} (h:(ag s).2=0):s.length≤40:=by
 unfold ag at h;split at h
 ·cases h
 ·omega
theorem Ac {B T:Nat} {u:U} (h:UInvF Fa B T u) (path:List UInt8) (w:Int):UInvF Fa B T (da u path w).u:=by
 unfold da;split
 ·exact h
 ·rename_i hs;have hs:=uq (s:=path) z7;split
  ·exact h
  ·rename_i hw;split
   ·exact h
   ·rename_i hm;have hfl:=Z5 (λh:Hoard=>!(h.path==path)) u.c.hoards;have h6:=h.cli.hoards;refine ⟨h.srv,?_⟩;have hc:=h.cli;exact { hc with
     hoards:=by
      show (if 0<w then dc u.c.hoards path++[⟨path,w⟩] else dc u.c.hoards path).length≤6
      split
      ·rename_i h0;have:¬(dc u.c.hoards path).length≥6:=λh1=>hm ⟨h0,h1⟩
       simp;omega
      ·exact We hfl h6
     hoardS:=λx hx=>by
      have hx:x∈(if 0<w then dc u.c.hoards path++[⟨path,w⟩] else dc u.c.hoards path):=hx;split at hx
      ·rcases List.mem_append.1 hx with hx | hx
       ·exact h.cli.hoardS x (Z0.1 hx).1
       ·rw[List.mem_singleton.1 hx];exact ⟨hs,by show 1≤w/\w≤100;omega⟩
      ·exact h.cli.hoardS x (Z0.1 hx).1 }
theorem rB {B T:Nat} {g:GotV} (h:UInvF Fa B T g.u) (x:Hoard):UInvF Fa B (T+42) (fi g x).u:=by
 have:=(cP x.path).1;exact (kJ h (ag x.path).1 x.worth).mono (Zw _) z7
theorem rA {B:Nat}:∀(l:List Hoard) (T:Nat) (g:GotV),UInvF Fa B T g.u->UInvF Fa B (T+42*l.length) (l.foldl fi g).u
 | [],T,g,h=>h
 | x::l,T,g,h=>by
  have:=rA l (T+42) (fi g x) (rB h x);rw[show T+42+42*l.length=T+42*(x::l).length by simp;omega] at this;exact this
theorem xW (l:List Hoard):∀w,(bj l w).length≤l.length:=λw=>by
 have key:∀w,(bj l w).length+(l.filter λh=>decide (h.worth>((w:Nat):Int))).length≤l.length:=λw=>by
  induction w with
  | zero=>rw[bj,List.length_nil,WK];exact Z5 _ _
  | succ w ih=>
   rw[bj,List.length_append];have h1:∀m:List Hoard,(m.filter λh=>h.worth==((w+1:Nat):Int)).length+(m.filter λh=>decide (h.worth>((w+1:Nat):Int))).length≤(m.filter λh=>decide (h.worth>((w:Nat):Int))).length:=λm=>by
    induction m with
    | nil=>simp
    | cons x m ihm=>
     simp only[List.filter_cons]
     by_cases e1:x.worth=((w+1:Nat):Int)
     ·rw[if_pos (by simpa using e1),if_neg y9,if_pos y9];simp only[List.length_cons];omega
     ·rw[if_neg (by simpa using e1)]
      by_cases e2:x.worth>((w+1:Nat):Int)
      ·rw[if_pos QN,if_pos y9];simp only[List.length_cons];omega
      ·rw[if_neg QN,if_neg (by simp only[decide_eq_true_eq];omega)];exact ihm
   have:=h1 l;omega
 have:=key w;omega
theorem Bj {B T:Nat} {u:U} (h:UInvF Fa B T u):UInvF Fa B (T+252) (ir u).u:=by
 have:=xW u.c.hoards 100;have h6:=h.cli.hoards;exact (rA (bj u.c.hoards 100) T ⟨0,u⟩ h).mono (Zw _) z7
theorem A_ {B T:Nat} {u:U} (h:UInvF Fa B T u) (x:Step) (hF:x.kind=8->Fa):UInvF Fa (B+20) (T+300) (aw u x).u:=by
 have hm:=h.mono (show B≤B+20 by omega) (show T≤T+300 by omega);unfold aw;split
 ·split
  ·exact hm
  ·have:=(cP x.path).1;exact (kJ h (ag x.path).1 0).mono z7 z7
 ·split
  ·exact (Bn h x.path x.data).mono z7 z7
  ·split
   ·exact (Aw h x.path).mono z7 z7
   ·split
    ·exact (ya h x.path).mono z7 z7
    ·split
     ·exact (Cx h x.path x.toPath).mono z7 z7
     ·split
      ·exact ⟨hm.srv,{ hm.cli with here:=λh0=>by cases h0 }⟩
      ·split
       ·rename_i h8;exact (Bw h (hF h8)).mono z7 z7
       ·split
        ·exact (Ac h x.path x.n).mono z7 z7
        ·split
         ·split
          ·exact hm
          ·exact (Bj h).mono z7 z7
         ·exact hm
theorem nf {B T:Nat} {u:U} (h:tq B T u) (x:Step):tq (B+20) (T+300) (aw u x).u:=A_ h x λ_=>trivial
theorem EH (u:U) (k:Kept):(jD u k).s=u.s:=by unfold jD;split<;>rfl
theorem qo (u:U) (f w:Int):(bz u f w).u.s=u.s:=by
 unfold bz;split
 ·rfl
 ·split
  ·rfl
  ·split
   ·rfl
   ·exact EH _ _
theorem Gz (w:Int):∀(l:List (List UInt8)) (g:Got),(goR w l g).u.s=g.u.s
 | [],g=>by unfold goR;split<;>rfl
 | s::r,g=>by
  unfold goR;split
  ·rfl
  ·split
   ·rfl
   ·split
    ·rfl
    ·rw[Gz w r,qo]
theorem y_ (u:U) (l:List (List UInt8)) (w:Int):(goU u l w).u.s=u.s:=by unfold goU;rw[Gz,qo]
theorem fG (u:U) (path:List UInt8):(ak u path).u.s=u.s:=by
 unfold ak;split
 ·rfl
 ·split
  ·rfl
  ·exact y_ _ _ _
theorem uF (u:U) (path:List UInt8):(atU u path).u.s=u.s:=by
 unfold atU;split
 ·exact fG _ _
 ·split
  ·exact fG _ _
  ·show (bz _ _ _).u.s=_;rw[qo,fG]
theorem xb:∀(l:List Hoard) (g:GotV),(l.foldl fi g).u.s=g.u.s
 | [],_=>rfl
 | x::l,g=>by rw[List.foldl_cons,xb l];exact y_ _ _ _
theorem EB (u:U) (f w:Int):(bz u f w).u.c.number=u.c.number/\(bz u f w).u.c.room=u.c.room/\(bz u f w).u.c.away=u.c.away/\(bz u f w).u.c.log=u.c.log/\(bz u f w).u.c.repair=u.c.repair/\(bz u f w).u.c.hoards=u.c.hoards/\(bz u f w).u.c.made=u.c.made/\(bz u f w).u.c.logged=u.c.logged:=by
 unfold bz;split
 ·exact ⟨rfl,rfl,rfl,rfl,rfl,rfl,rfl,rfl⟩
 ·split
  ·exact ⟨rfl,rfl,rfl,rfl,rfl,rfl,rfl,rfl⟩
  ·split
   ·exact ⟨rfl,rfl,rfl,rfl,rfl,rfl,rfl,rfl⟩
   ·show (jD _ _).c.number=_/\_
    unfold jD;split<;>exact ⟨rfl,rfl,rfl,rfl,rfl,rfl,rfl,rfl⟩
structure Idle (u u':U):Prop where
 s:u'.s=u.s
 number:u'.c.number=u.c.number
 room:u'.c.room=u.c.room
 away:u'.c.away=u.c.away
 log:u'.c.log=u.c.log
 rep:u'.c.repair=u.c.repair
 hoards:u'.c.hoards=u.c.hoards
 made:u'.c.made=u.c.made
 logged:u'.c.logged=u.c.logged
theorem Idle.refl (u:U):Idle u u:=⟨rfl,rfl,rfl,rfl,rfl,rfl,rfl,rfl,rfl⟩
theorem Idle.trans {a b c:U} (h:Idle a b) (k:Idle b c):Idle a c:=⟨k.s.trans h.s,k.number.trans h.number,k.room.trans h.room,k.away.trans h.away,k.log.trans h.log,k.rep.trans h.rep,k.hoards.trans h.hoards,k.made.trans h.made,k.logged.trans h.logged⟩
theorem dB (u:U) (f w:Int):Idle u (bz u f w).u:=by
 obtain ⟨h1,h2,h3,h4,h5,h6,h7,h8⟩:=EB u f w;exact ⟨qo u f w,h1,h2,h3,h4,h5,h6,h7,h8⟩
theorem ve (w:Int):∀(l:List (List UInt8)) (g:Got),Idle g.u (goR w l g).u
 | [],g=>by unfold goR;split<;>exact Idle.refl _
 | s::r,g=>by
  unfold goR;split
  ·exact Idle.refl _
  ·split
   ·exact Idle.refl _
   ·split
    ·exact Idle.refl _
    ·exact (dB _ _ _).trans (ve w r _)
theorem bV (u:U) (l:List (List UInt8)) (w:Int):Idle u (goU u l w).u:=(dB u 0 w).trans (ve w l _)
theorem aW (u:U) (path:List UInt8):Idle u (ak u path).u:=by
 unfold ak;split
 ·exact Idle.refl _
 ·split
  ·exact Idle.refl _
  ·exact bV _ _ _
theorem cT (u:U) (path:List UInt8):Idle u (atU u path).u:=by
 unfold atU;split
 ·exact aW _ _
 ·split
  ·exact aW _ _
  ·exact (aW _ _).trans (dB _ _ _)
theorem eD:∀(l:List Hoard) (g:GotV),Idle g.u (l.foldl fi g).u
 | [],_=>Idle.refl _
 | x::l,g=>(bV g.u (ag x.path).1 x.worth).trans (eD l (fi g x))
theorem GI (u:U) (a:Act) (seen:Int):(jq u a seen).u.s=u.s:=by
 unfold jq;split
 ·rfl
 ·split
  ·rfl
  ·split<;>rfl
theorem iv {B T:Nat} {u:U} (h:tq B T u) {a:Act} (hs:ActS a) (seen:Int):Grown u.s (b_ u a seen).u.s:=by
 unfold b_;split
 ·rw[GI];exact Grown.refl h.srv.hist
 ·unfold fM;split
  ·rename_i he;exact vh h.srv.hist u.c.number hs.fit he
  ·exact Grown.refl h.srv.hist
theorem grown_of {u u' v:U} (hi:u'.s=u.s) (h:Grown u'.s v.s):Grown u.s v.s:=by rw[hi] at h;exact h
theorem sV {B T:Nat} {g:Got} (h:tq B T g.u) {data:List UInt8} (hd:data.length≤20):Grown g.u.s (fW g data).u.s:=by
 unfold fW;split
 ·exact Grown.refl h.srv.hist
 ·exact iv h ⟨by simp[dv],by simp[dv],hd⟩ _
theorem du {B T:Nat} {u v:U} (h:tq B T u) (hs:v.s=u.s):Grown u.s v.s:=by rw[hs];exact Grown.refl h.srv.hist
theorem xm {B T:Nat} {u:U} (h:tq B T u) (path data:List UInt8):Grown u.s (bM u path data).u.s:=by
 have hd:=cU h path;have hn:=ch u path;unfold bM;split
 ·exact du h (fG u path)
 ·split
  ·exact du h (fG u path)
  ·split
   ·rename_i f _;exact grown_of (u':=(bz (ak u path).u f 0).u) (by rw[qo,fG]) (sV (cn hd f 0) z7)
   ·have ha:ActS (cK (ak u path).n.fid (ak u path).name):=⟨hn,by simp[cK],by simp[cK]⟩;have hg:=iv hd ha (-1);have hm:=iS hd ha (-1);split
    ·exact grown_of (fG u path) hg
    ·exact grown_of (fG u path) (hg.trans (grown_of (u':=(goU _ _ _).u) (y_ _ _ _) (sV (kJ hm (ag path).1 0) z7)))
theorem lQ {B T:Nat} {u:U} (h:tq B T u) (x:Step):Grown u.s (aw u x).u.s:=by
 unfold aw;split
 ·split
  ·exact Grown.refl h.srv.hist
  ·exact du h (y_ _ _ _)
 ·split
  ·exact xm h _ _
  ·split
   ·unfold ec;split
    ·exact du h (fG _ _)
    ·exact grown_of (fG u x.path) (iv (cU h x.path) ⟨ch u x.path,by simp[ke],by simp[ke]⟩ (-1))
   ·split
    ·unfold bH;obtain ⟨hd,hn⟩:=pt h x.path;split
     ·exact du h (uF _ _)
     ·exact grown_of (uF u x.path) (iv hd ⟨hn,by simp[dZ],by simp[dZ]⟩ _)
    ·split
     ·unfold dm;obtain ⟨hd,hn⟩:=pt h x.path;split
      ·exact du h (uF _ _)
      ·split
       ·exact du h (by rw[fG,uF])
       ·exact grown_of (u':=(ak (atU u x.path).u x.toPath).u) (by rw[fG,uF]) (iv (cU hd x.toPath) ⟨hn,ch _ _,by simp[fX]⟩ _)
     ·split
      ·exact Grown.refl h.srv.hist
      ·split
       ·exact qt h.srv.hist u.c.number λr hr=>(h.cli.logS r hr).fit
       ·split
        ·unfold da;split
         ·exact Grown.refl h.srv.hist
         ·split
          ·exact Grown.refl h.srv.hist
          ·split<;>exact Grown.refl h.srv.hist
        ·split
         ·split
          ·exact Grown.refl h.srv.hist
          ·exact du h (xb _ _)
         ·exact Grown.refl h.srv.hist
structure WInv (B T:Nat) (w:Wor):Prop where
 srv:SrvOK B w.s
 cli:∀c,c∈w.cs->HS B T w.s c
 len:w.cs.length≤3
theorem WInv.at {B T:Nat} {w:Wor} (h:WInv B T w) {i:Nat} (hi:i<w.cs.length):tq B T ⟨w.cs.getD i default,w.s⟩:=⟨h.srv,h.cli _ (YG hi)⟩
theorem iR {B T:Nat} {w:Wor} (h:WInv B T w) (x:Step):WInv (B+20) (T+300) (aq w x).w:=by
 unfold aq;split
 ·exact ⟨h.srv.mono z7,λc hc=>(h.cli c hc).mono z7 z7,h.len⟩
 ·rename_i hx;have hi:x.client.toNat<w.cs.length:=by omega
  have hu:=h.at hi;have h1:=nf hu x;have h2:=lQ hu x;refine ⟨h1.srv,λc hc=>?_,by simp;exact h.len⟩;obtain ⟨d,hd,rfl⟩:=Zv.1 hc
  rcases WU hd with hd | rfl
  ·exact ((h.cli d hd).mono (Zw B) (show T≤T+300 by omega)).grow z7 h.srv.hist h2
  ·exact h1.cli.grow (Zw _) h1.srv.hist (Grown.refl h1.srv.hist)
theorem zk {rooms:List Int} (h:bc rooms=0):WInv 0 0 (fJ rooms):=by
 unfold bc at h;split at h
 ·cases h
 ·split at h
  ·rename_i hr hall;refine ⟨SrvOK.new,λc hc=>?_,by simp[fJ,eS];omega⟩;obtain ⟨j,hj,rfl⟩:=Zv.1 hc;have hj:j<rooms.length:=WN.1 hj;have:=List.all_eq_true.1 hall (rooms.getD j 0) (by rw[Zo,Zp hj];exact WR hj);simp only[Bool.and_eq_true,decide_eq_true_eq] at this;exact CInvF.new 0 0 _ j _ this
  ·cases h
end La
