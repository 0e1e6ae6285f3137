/- Texts of this claim, part 19: Jud3, Take, PCli, PReach, PNm, PWor, PWor2, PWor3. No condition. -/
import Derived.Test.YtmcfbfdonjllaaaGreatDoorZT18
set_option maxRecDepth 10000
set_option maxHeartbeats 4000000
set_option linter.unusedSimpArgs false
set_option linter.unusedVariables false
namespace La
open Go Go.Eng Go.Proofs
theorem sh (m:List (Int×Bool)) (l:List Int) (x:Int):jk m (l++[x])=bt (jk m l) x true:=by
 unfold jk;rw[List.foldl_append];rfl
noncomputable def qv (l:List Node) (next version:Int) (log:List Rec) (i:Nat):JG:=(log.take i).foldl lk (gZ l next version)
theorem ua (l:List Node) (next version:Int) {log:List Rec} {i:Nat} (h:i<log.length):qv l next version log (i+1)=lk (qv l next version log i) (log.getD i default):=by
 unfold qv;rw[ZT h,List.foldl_append];rfl
theorem xx {p:List Past} {l:List Node} (h:Hist p l) (next:Int) {log:List Rec} (hl:∀r,r∈log->ActFit r.act) {i:Nat} (hi:i≤log.length):JInv p 0 i next (qv l next ((p.length+1:Nat):Int) log i):=by
 have:=JInv.rV h 0 next (log.take i) (λr hr=>hl r (Wx hr))
 rw[Wv,Yj hi] at this;exact this
def jgB (s:JG):List (Nat×Blk):=[(45,.cells 162 2 (s.vs.map ZV)),(72,.cells 49 7 (s.done.map ZA)),(29,.cells 200 6 [kz s.j]),(25,.map (mI s.j.own)),(26,.map (mB s.j.ours)),(27,.map (mB s.j.lost))]
theorem DC (p:List Past) (l:List Node) (next:Int) (log:List Rec) (h:Hist p l) (hp:p.length≤80000000) (hn:next.natAbs≤80000000) (hlog:SmallL log) (hl2:log.length≤2000000) (hfit:∀r,r∈log->ActFit r.act) :
  ae Tryz.prog 85 [.sl (l.map ZN),.int .i64 next,.int .i64 ((p.length+1:Nat):Int),.sl (log.map ZR)] []
   (λr _=>r=.tup [.sl ((bS l next ((p.length+1:Nat):Int) log).vs.map ZV),.sl ((bS l next ((p.length+1:Nat):Int) log).done.map ZA),.sl ((bS l next ((p.length+1:Nat):Int) log).j.l.map ZN),.int .i64 (bS l next ((p.length+1:Nat):Int) log).j.next]):=by
 have how:=kJ l h.bF.small;have hlo:=jU log hlog;have hfin:bS l next ((p.length+1:Nat):Int) log=qv l next ((p.length+1:Nat):Int) log log.length:=by unfold qv;rw[Wo];rfl
 have hinv:=λi=>@xx p l h next log hfit i
 have hsucc:=λi=>@ua l next ((p.length+1:Nat):Int) log i
 have hz:qv l next ((p.length+1:Nat):Int) log 0=gZ l next ((p.length+1:Nat):Int):=rfl
 rw[hfin];generalize qv l next ((p.length+1:Nat):Int) log=st at *
 refine ZF tK (Tryz.func85) rfl (λC=>?_);simp only[Tryz.ntmps85,Tryz.results85,go_sem];refine wG tK ?_;refine wC Tryz.func66 (hf:=(how)) (hk:=?_);refine wG tK ?_;refine wC Tryz.func69 (hf:=(hlo)) (hk:=?_);refine wG tK ?_;refine ag (le_empty 72 49 7 z7) ?_;refine ag (le_empty 45 162 2 z7) ?_;simp only[go_sem];refine ZL (λi:Nat=>i≤log.length) (λi=>log.length-i) (λi=>(13,.osl 45 2 0 (st i).vs.length)::(14,.osl 72 7 0 (st i).done.length)::(16,.any)::(17,.any)::(18,.any)::(20,.any)::(33,.int .i64 i)::u0 34 40 []) (λi=>jgB (st i)) 0 z8 ?_ λi hi=>?_
 ·rw[hz];simp only[gZ,jgB,kz,mI,mB];simp only[go_sem];exact ZU w3 w3 s7
 unfold jgB kz;simp only[go_sem];refine wG tK ?_;refine wD (λh=>?_) (λh=>?_)
 ·have hlt:i<log.length:=by simp at h;omega
  have hg:(log.map ZR).getD i []=ZR (log.getD i default):=Fam.getD hlt;have hv:=hinv i z8;have hf:=hfit _ (YG hlt);have hsc:=hsucc i hlt;clear hinv hsucc;generalize log.getD i default=r at *;have hnx:=hv.next;have hvs:=hv.vlen;have hdl:=hv.len;have hone:=Im (st i).j r hv.hist.bF hf z8 (by have:=hv.version;omega);have hst:st (i+1)=(if (jx (st i).j r).err=0 then ⟨{ e_ (st i).j r with ours:=jk (e_ (st i).j r).ours (bQ (jw (st i).j r)) },(st i).vs++[jx (st i).j r],(st i).done++[jw (st i).j r]⟩ else ⟨vp (e_ (st i).j r) r.act.fid,(st i).vs++[jx (st i).j r],(st i).done⟩):=by
   rw[hsc];unfold lk jx;rfl
  unfold jH jB kz ZR at hone;clear hsc hv;generalize jx (st i).j r=V at *;generalize jw (st i).j r=A at *;generalize e_ (st i).j r=J at *;have hfd:=uZ A;have hf3:=ff A;have how':=wi1 (i:=i) z8;refine wGq tK ?_ ?_ p5
  ·simp[hg,ZR,hlt]
  refine ZZ 16 rfl (rfl) ?_;simp only[go_sem];refine wP [29,25,26,27] Tryz.func125 (hf:=(hone)) (hk:=?_);refine wGq tK ?_ ?_ (by simp only[go_sem,ZV,ZA];try exact rfl)
  ·simp[ZV,ZA,rowsOf];omega
  by_cases hE:V.err=0
  ·rw[if_pos hE] at hst;refine wDF (hb:=u2) (hk:=?_);refine wG tK ?_;unfold ZA at hfd;refine wC Tryz.func126 (hf:=(hfd)) (hk:=?_);refine wG tK ?_;refine ZL (λk:Nat=>k≤(bQ A).length) (λk=>(bQ A).length-k) (λk=>(20,.any)::(59,.int .i64 k)::u0 60 9 []) (λk=>[(26,.map (mB (jk J.ours ((bQ A).take k))))]) 0 z8 ?_ λk hk=>?_
   ·simp only[go_sem];exact ZU w3 (by simp[go_sem,jk]) w3
   simp only[go_sem];refine wG tK ?_;refine wD (λh=>?_) (λh=>?_)
   ·have hlk:k<(bQ A).length:=by simp at h;omega
    have hgk:((bQ A).map ZI).getD k []=ZI ((bQ A).getD k default):=Fam.getD hlk;have htk:jk J.ours ((bQ A).take (k+1))=bt (jk J.ours ((bQ A).take k)) ((bQ A).getD k default) true:=by rw[ZT hlk,sh]
    have hwk:IntKind.i64.wrap ((k:Int)+1)=((k+1:Nat):Int):=by rw[Eng.wrap_small z8 z8];rfl
    generalize (bQ A).getD k default=f at *;refine wGq tK ?_ ?_ WK
    ·simp[hgk,ZI,hlk,AV.jE,AV.aY]
    refine ZB ⟨k+1,by omega,by omega,ZU ?_ ?_ ?_⟩
    ·simp[go_sem]
    ·simp[go_sem,htk]
    ·simp[go_sem]
   ·have e:k=(bQ A).length:=by simp at h;omega
    subst e;refine wGq tK ?_ ?_ (by simp only[go_sem,ZA,how'];try exact rfl)
    ·simp[ZA,rowsOf];omega
    refine ZB ⟨i+1,by omega,by omega,ZU ?_ ?_ ?_⟩
    ·simp[go_sem,hst]
    ·simp[go_sem,hst,jgB,kz,ZV,ZA,Wo]
    ·simp[go_sem,hst]
  ·rw[if_neg hE] at hst;refine wDT (hb:=u2) (hk:=?_);refine wG tK ?_;refine ZW ZM ?_;refine ZS rfl ?_;refine sN tK 7 ?_;refine sE ?_;refine dS tK ?_;refine wKd ?_
   try simp only[go_sem,gA,gB,gC]
   refine wG tK ?_ j5 Qf;refine ZB ⟨i+1,by omega,by omega,ZU ?_ ?_ ?_⟩
   ·simp[go_sem,hst]
   ·simp[go_sem,hst,jgB,kz,vp,ZV]
   ·simp[go_sem,hst]
 ·have e:i=log.length:=by simp at h;omega
  subst e;refine wG tK ?_;refine ZW ZM ?_;refine ZS rfl ?_;refine sG tK ?_;refine sE ?_;refine wKd ?_
  try simp only[go_sem,gA,gB,gC]
  refine wG tK ?_;refine ZZ 45 rfl (lq _) ?_;simp only[go_sem];refine ZZ 72 rfl (pJ _) ?_;simp only[go_sem];refine wT ?_;simp
def fu (s:Srv) (c:Int) (done:List Act) (i:Nat):List Past:=s.past++(done.take i).map λa=>⟨c,a⟩
theorem qe (s:Srv) (c:Int) {done:List Act} {i:Nat} (h:i<done.length):fu s c done (i+1)=fu s c done i++[⟨c,done.getD i default⟩]:=by
 unfold fu;rw[ZT h,List.map_append,YQ];rfl
theorem sj (s:Srv) (c:Int) (done:List Act) {i:Nat} (h:i≤done.length):(fu s c done i).length=s.past.length+i:=by
 unfold fu;simp;omega
theorem Ht (s:Srv) (h:SrvOK 40000000 s) (c:Int) (log:List Rec) (hlog:SmallL log) (hl2:log.length≤2000000) (hfit:∀r,r∈log->ActFit r.act) :
  ae Tryz.prog 45 [.agg (ZQ s),.int .i64 c,.sl (log.map ZR)] []
   (λr _=>r=.tup [.agg (ZQ (ll s c log)),.sl ((bS s.tree s.next ((s.past.length+1:Nat):Int) log).vs.map ZV)]):=by
 have hn:=h.next;have hlen:=h.len;have hsp:SmallP s.past:=⟨by omega,λp hp=>by
  obtain ⟨st,_,_,h3⟩:=h.hist.st;obtain ⟨i,hi⟩:=Wu hp;have hil:=(Wp.1 hi).1;have:=(h3 i hil).2.1.data
  rwa [show s.past.getD i default=p by rw[Wi,hi];rfl] at this⟩
 have hv:=sY s z8;have hso:=yC s h.hist.bF.small hsp;have hj:=DC s.past s.tree s.next log h.hist z8 z8 hlog hl2 hfit;have hinv:=(JInv.rV h.hist c s.next log hfit).len;have hT:ll s c log=⟨(bS s.tree s.next ((s.past.length+1:Nat):Int) log).j.l,(bS s.tree s.next ((s.past.length+1:Nat):Int) log).j.next,fu s c (bS s.tree s.next ((s.past.length+1:Nat):Int) log).done (bS s.tree s.next ((s.past.length+1:Nat):Int) log).done.length⟩:=by
  unfold ll fu;rw[Wo]
 rw[hT];clear hT;unfold ZQ at hv hso ⊢;generalize bS s.tree s.next ((s.past.length+1:Nat):Int) log=g at *;have hsu:=λi=>@qe s c g.done i
 have hle:=λi=>@sj s c g.done i
 have hz:fu s c g.done 0=s.past:=by simp[fu]
 generalize fu s c g.done=P at *;refine ZF tK (Tryz.func45) rfl (λC=>?_);simp only[Tryz.ntmps45,Tryz.results45,go_sem];refine wG tK ?_;refine ZZ 3 rfl (rfl) ?_;simp only[go_sem];refine ZW ZM ?_;refine ZS rfl ?_;refine sN tK 5 ?_;refine sC Tryz.func86 (hf:=(hv)) (hk:=?_);refine sN tK 1 ?_;refine sC Tryz.func85 (hf:=(hj)) (hk:=?_);refine sG tK ?_;refine sE ?_;refine wKd ?_
 try simp only[go_sem,gA,gB,gC]
 refine wG tK ?_;refine wCG [] 18 Tryz.func40 (hf:=(hso)) (hk:=?_);refine wG tK ?_;refine ZL (λi:Nat=>i≤g.done.length) (λi=>g.done.length-i) (λi=>(14,.any)::(29,.any)::(36,.int .i64 i)::u0 37 12 [])
  (λi=>[(12,.cells 32 3 [[.sl (g.j.l.map ZN),.int .i64 g.j.next,.osl 46 8 0 (P i).length]]),(46,.cells 79 8 ((P i).map ZP))]) 0 z8 ?_ λi hi=>?_
 ·rw[hz];simp only[go_sem];exact ZU w3 w3 w3
 simp only[go_sem];refine wG tK ?_;refine wD (λh=>?_) (λh=>?_)
 ·have hlt:i<g.done.length:=by simp at h;omega
  have hg:(g.done.map ZA).getD i []=ZA (g.done.getD i default):=Fam.getD hlt;have hs1:=hsu i hlt;have hl1:=hle i z8;have how':=wi1 (i:=i) z8;generalize g.done.getD i default=a at *;generalize P i=Q at *;refine wR ?_;refine wNq tK 4 ?_ ?_ z6 z6 (by simp only[go_sem,hg,ZA];try exact rfl)
  ·simp[hg,ZA,hlt]
  refine wR ?_;refine wN tK 6 ?_;refine ag (bh 46 12 z6 k9) ?_;refine wGq tK ?_ ?_ j5
  ·simp[rowsOf,ZP];omega
  refine ZB ⟨i+1,by omega,by omega,ZU ?_ ?_ ?_⟩
  ·simp[go_sem]
  ·simp[go_sem,hs1,ZP,Wo]
  ·simp[go_sem]
 ·have e:i=g.done.length:=by simp at h;omega
  subst e;refine wG tK ?_;refine ZZ 46 rfl (dM _) ?_;simp only[go_sem];refine wT ?_;simp
end La
namespace La
open Go Go.Eng
structure Hoard where
 path:List UInt8
 worth:Int
deriving DecidableEq,Inhabited
structure Cli where
 number:Int
 away:Bool
 room:Int
 cache:List Kept
 log:List Rec
 repair:List Rec
 hoards:List Hoard
 clock:Int
 made:Int
 logged:Int
deriving DecidableEq,Inhabited
structure U where
 c:Cli
 s:Srv
structure Step where
 kind:Int
 client:Int
 n:Int
 path:List UInt8
 toPath:List UInt8
 data:List UInt8
deriving DecidableEq,Inhabited
structure Reply where
 err:Int
 n:Int
 m:Int
 data:List UInt8
deriving DecidableEq,Inhabited
structure Wor where
 s:Srv
 cs:List Cli
def fL (fid worth clk:Int) (k:Kept):Kept:=if k.node.fid=fid then { k with last:=clk,worth:=lS k.worth worth } else k
def cm (u:U) (fid worth:Int):U:=⟨{ u.c with clock:=u.c.clock+1,cache:=u.c.cache.map (fL fid worth (u.c.clock+1)) },u.s⟩
def gg (u:U) (k:Kept):U:=match cK u.c.cache u.c.room k with
 | some l=>⟨{ u.c with cache:=l },u.s⟩
 | none=>u
def dE (l:List Kept) (fid:Int):Option Node:=(l.find? λk=>k.node.fid==fid).map (·.node)
structure Got where
 n:Node
 e:Int
 u:U
def bb (u:U) (fid worth:Int):Got:=match dE u.c.cache fid with
 | some n=>⟨n,0,cm u fid worth⟩
 | none=>if u.c.away=true then ⟨aw,12,cm u fid worth⟩ else match aj u.s.tree fid with
  | none=>⟨aw,6,cm u fid worth⟩
  | some n=>⟨n,0,gg (cm u fid worth) ⟨n,false,worth,u.c.clock+1⟩⟩
def goR (worth:Int):List (List UInt8)->Got->Got
 | [],g=>if g.e=0 then g else ⟨aw,g.e,g.u⟩
 | s::r,g=>if g.e≠0 then ⟨aw,g.e,g.u⟩ else if g.n.dir=false then ⟨aw,8,g.u⟩ else match ba g.n s with
  | none=>⟨aw,6,g.u⟩
  | some f=>goR worth r (bb g.u f worth)
def goU (u:U) (l:List (List UInt8)) (worth:Int):Got:=goR worth l (bb u 0 worth)
structure GotD where
 n:Node
 name:List UInt8
 e:Int
 u:U
def ai (u:U) (path:List UInt8):GotD:=
 if (af path).2≠0 then ⟨aw,[],(af path).2,u⟩
 else if (af path).1.length=0 then ⟨aw,[],7,u⟩
 else ⟨(goU u ((af path).1.take ((af path).1.length-1)) 0).n,(af path).1.getD ((af path).1.length-1) [],
  if (goU u ((af path).1.take ((af path).1.length-1)) 0).e=0/\(goU u ((af path).1.take ((af path).1.length-1)) 0).n.dir=false then 8 else (goU u ((af path).1.take ((af path).1.length-1)) 0).e,
  (goU u ((af path).1.take ((af path).1.length-1)) 0).u⟩
def eG (c:Cli) (a:Act):Act:=if aN a=true then { a with fid:=-1-c.made } else a
def tq (a:Act) (seen:Int):Int:=if aN a=true then -1 else seen
def cI (c:Cli):List Node:=kh (aM c.cache)
def aU (was:List Node) (a:Act) (n:Node):Bool:=!((match aj was n.fid with
 | some o=>bW false o n
 | none=>false)&&(a.kind != 3||n.fid != a.fid))
def fJ (was:List Node) (clk:Int) (n:Node):Kept:=⟨{ n with version:=((aj was n.fid).getD aw).version },true,0,clk⟩
def cj (room clk:Int) (was:List Node) (a:Act):List Node->List Kept->Option (List Kept)
 | [],l=>some l
 | n::r,l=>if aU was a n=true then (match cK l room (fJ was clk n) with
  | none=>none
  | some l'=>cj room clk was a r l') else cj room clk was a r l
structure GotE where
 e:Int
 u:U
def Io (c:Cli) (a:Act) (seen:Int):Option (List Rec):=dv c.log ⟨eG c a,tq a seen,c.logged+1⟩
noncomputable def kI (c:Cli) (a:Act):List Node:=aH (cI c) (eG c a) 0
noncomputable def A3 (c:Cli) (a:Act):Option (List Kept):=cj c.room c.clock (cI c) (eG c a) (kI c a) c.cache
noncomputable def pv (u:U) (a:Act) (seen:Int):GotE:=
 if aD (cI u.c) (eG u.c a)≠0 then ⟨aD (cI u.c) (eG u.c a),u⟩ else match Io u.c a seen with
 | none=>⟨5,u⟩
 | some log=>match A3 u.c a with
  | none=>⟨5,u⟩
  | some l=>⟨0,⟨{ u.c with cache:=l.filter (λk=>bg (kI u.c a) k.node.fid),log:=log,logged:=u.c.logged+1,made:=if aN a=true then u.c.made+1 else u.c.made },u.s⟩⟩
def lL (c:Cli) (t:List Node):Cli:={ c with cache:=c.cache.filter λk=>!bE t k }
noncomputable def lh (u:U) (a:Act):GotE:=if doE u.s a=0 then ⟨0,⟨lL u.c (doS u.s u.c.number a).tree,doS u.s u.c.number a⟩⟩ else ⟨doE u.s a,u⟩
noncomputable def cY (u:U) (a:Act) (seen:Int):GotE:=if u.c.away=true then pv u a seen else lh u a
def cA (n:Node):Int:=if n.fid<0 then -1 else n.version
def dy (d:Int) (name:List UInt8):Act:=⟨1,0,d,name,0,[],[]⟩
def hY (d:Int) (name:List UInt8):Act:=⟨2,0,d,name,0,[],[]⟩
def bZ (fid:Int) (data:List UInt8):Act:=⟨3,fid,0,[],0,[],data⟩
def cV (fid d:Int) (name:List UInt8):Act:=⟨4,fid,d,name,0,[],[]⟩
def ep (fid d:Int) (name:List UInt8) (to:Int) (toName:List UInt8):Act:=⟨5,fid,d,name,to,toName,[]⟩
noncomputable def lu (g:Got) (data:List UInt8):GotE:=if g.e≠0 then ⟨g.e,g.u⟩ else cY g.u (bZ g.n.fid data) (cA g.n)
noncomputable def cB (u:U) (path data:List UInt8):GotE:=
 if (ai u path).e≠0 then ⟨(ai u path).e,(ai u path).u⟩
 else if data.length>20 then ⟨4,(ai u path).u⟩
 else match ba (ai u path).n (ai u path).name with
 | some f=>lu (bb (ai u path).u f 0) data
 | none=>if (cY (ai u path).u (dy (ai u path).n.fid (ai u path).name) (-1)).e≠0 then cY (ai u path).u (dy (ai u path).n.fid (ai u path).name) (-1)
  else lu (goU (cY (ai u path).u (dy (ai u path).n.fid (ai u path).name) (-1)).u (af path).1 0) data
noncomputable def gm (u:U) (path:List UInt8):GotE:=
 if (ai u path).e≠0 then ⟨(ai u path).e,(ai u path).u⟩ else cY (ai u path).u (hY (ai u path).n.fid (ai u path).name) (-1)
structure GotP where
 d:Int
 name:List UInt8
 n:Node
 e:Int
 u:U
def atU (u:U) (path:List UInt8):GotP:=
 if (ai u path).e≠0 then ⟨0,[],aw,(ai u path).e,(ai u path).u⟩
 else match ba (ai u path).n (ai u path).name with
 | none=>⟨0,[],aw,6,(ai u path).u⟩
 | some f=>⟨(ai u path).n.fid,(ai u path).name,(bb (ai u path).u f 0).n,(bb (ai u path).u f 0).e,(bb (ai u path).u f 0).u⟩
noncomputable def bG (u:U) (path:List UInt8):GotE:=
 if (atU u path).e≠0 then ⟨(atU u path).e,(atU u path).u⟩
 else cY (atU u path).u (cV (atU u path).n.fid (atU u path).d (atU u path).name) (cA (atU u path).n)
noncomputable def dd (u:U) (path to:List UInt8):GotE:=
 if (atU u path).e≠0 then ⟨(atU u path).e,(atU u path).u⟩
 else if (ai (atU u path).u to).e≠0 then ⟨(ai (atU u path).u to).e,(ai (atU u path).u to).u⟩
 else cY (ai (atU u path).u to).u (ep (atU u path).n.fid (atU u path).d (atU u path).name (ai (atU u path).u to).n.fid (ai (atU u path).u to).name) (cA (atU u path).n)
def cz:List Rec->List Verdict->List Rec
 | r::l,v::vs=>if v.err=0 then cz l vs else r::cz l vs
 | _,_=>[]
def fe (vs:List Verdict):Nat:=(vs.filter λv=>v.err==0).length
noncomputable def aL (u:U):List Verdict:=(bS u.s.tree u.s.next ((u.s.past.length+1:Nat):Int) u.c.log).vs
noncomputable def g_ (u:U):Srv:=ll u.s u.c.number u.c.log
noncomputable def lf (u:U):U:=
 ⟨{ u.c with away:=false,log:=[],repair:=u.c.repair++cz u.c.log (aL u),cache:=(u.c.cache.filter λk=>!k.dirty).filter λk=>!bE (g_ u).tree k },g_ u⟩
def ch (l:List Hoard) (path:List UInt8):List Hoard:=l.filter λh=>!(h.path==path)
def dL (u:U) (path:List UInt8) (worth:Int):GotE:=
 if (af path).2≠0 then ⟨(af path).2,u⟩ else if worth<0\/worth>100 then ⟨3,u⟩
 else if 0<worth/\(ch u.c.hoards path).length≥6 then ⟨5,u⟩
 else ⟨0,⟨{ u.c with hoards:=if 0<worth then ch u.c.hoards path++[⟨path,worth⟩] else ch u.c.hoards path },u.s⟩⟩
def bq (l:List Hoard):Nat->List Hoard
 | 0=>[]
 | w+1=>l.filter (λh=>h.worth==((w+1:Nat):Int))++bq l w
structure GotV where
 n:Nat
 u:U
def fb (g:GotV) (h:Hoard):GotV:=⟨if (goU g.u (af h.path).1 h.worth).e=0 then g.n+1 else g.n,(goU g.u (af h.path).1 h.worth).u⟩
def eL (u:U):GotV:=(bq u.c.hoards 100).foldl fb ⟨0,u⟩
def mU (l:List Entry):List UInt8:=l.flatMap λe=>e.name++[10]
structure GotS where
 u:U
 r:Reply
def fU (kind:Int) (g:Got):Reply:=
 if g.e≠0 then ⟨g.e,0,0,[]⟩
 else if kind=1 then (if g.n.dir=true then ⟨9,0,0,[]⟩ else ⟨0,0,0,g.n.data⟩)
 else if g.n.dir=true then ⟨0,0,0,mU g.n.entries⟩ else ⟨8,0,0,[]⟩
def cx (e:Int):Reply:=⟨e,0,0,[]⟩
noncomputable def av (u:U) (x:Step):GotS:=
 if x.kind=1\/x.kind=2 then (if (af x.path).2≠0 then ⟨u,cx (af x.path).2⟩ else ⟨(goU u (af x.path).1 0).u,fU x.kind (goU u (af x.path).1 0)⟩)
 else if x.kind=3 then ⟨(cB u x.path x.data).u,cx (cB u x.path x.data).e⟩
 else if x.kind=4 then ⟨(gm u x.path).u,cx (gm u x.path).e⟩
 else if x.kind=5 then ⟨(bG u x.path).u,cx (bG u x.path).e⟩
 else if x.kind=6 then ⟨(dd u x.path x.toPath).u,cx (dd u x.path x.toPath).e⟩
 else if x.kind=7 then ⟨⟨{ u.c with away:=true },u.s⟩,cx 0⟩
 else if x.kind=8 then ⟨lf u,⟨0,fe (aL u),((aL u).length-fe (aL u):Nat),[]⟩⟩
 else if x.kind=9 then ⟨(dL u x.path x.n).u,cx (dL u x.path x.n).e⟩
 else if x.kind=10 then (if u.c.away=true then ⟨u,cx 12⟩ else ⟨(eL u).u,⟨0,(eL u).n,0,[]⟩⟩)
 else ⟨u,cx 1⟩
structure GotW where
 w:Wor
 r:Reply
def cN (t:List Node) (c:Cli):Cli:=if c.away=true then c else lL c t
noncomputable def cg (w:Wor) (x:Step):GotW:=
 if x.client<0\/x.client≥w.cs.length then ⟨w,cx 6⟩
 else ⟨⟨(av ⟨w.cs.getD x.client.toNat default,w.s⟩ x).u.s,(w.cs.set x.client.toNat (av ⟨w.cs.getD x.client.toNat default,w.s⟩ x).u.c).map (cN (av ⟨w.cs.getD x.client.toNat default,w.s⟩ x).u.s.tree)⟩,(av ⟨w.cs.getD x.client.toNat default,w.s⟩ x).r⟩
def pt (number room:Int):Cli:=⟨number,false,room,[],[],[],[],0,0,0⟩
def bB (rooms:List Int):Int:=if rooms.length<1\/3<rooms.length then 5 else if rooms.all (λn=>decide (3≤n)&&decide (n≤24)) then 0 else 3
def jX (rooms:List Int) (i:Nat):List Cli:=(List.range i).map λ(j:Nat)=>pt (j:Int) (rooms.getD j 0)
def Ik:Srv:=⟨[h_],1,[]⟩
def dp (rooms:List Int):Wor:=⟨Ik,jX rooms rooms.length⟩
noncomputable def HX (rooms:List Int) (l:List Step):Wor:=l.foldl (λw x=>(cg w x).w) (dp rooms)
theorem MReach.head {m:List (Int×Node)} {k:Int} {n:Node} {e:Entry} {t:Int} (hn:bj m k=some n) (he:e∈n.entries) (h:MReach m e.fid t):MReach m k t:=by
 induction h with
 | refl=>exact .step .refl hn he
 | step _ hn' he' ih=>exact .step ih hn' he'
theorem qA {l:List Node} (hu:Up l) {k t:Int} (h:MReach (bD l) k t):Reach l k t:=by
 induction h with
 | refl=>exact .refl _
 | step _ hn he ih=>
  rw[cy hu] at hn;obtain ⟨h1,h2⟩:=(ZO hu).1 hn;subst h2;exact Reach.tail h1 he ih
theorem jW {l:List Node} (hu:Up l) (t:Int):∀(f:Nat) (k:Int),bn l t f k=some true->MReach (bD l) k t
 | 0,_,h=>by cases h
 | f+1,k,h=>by
  rw[bn] at h;split at h
  ·rename_i e;rw[e];exact .refl
  ·cases e:aj l k with
   | none=>rw[e] at h;cases h
   | some n=>
    rw[e] at h;simp only at h;split at h
    ·injection h with h
     obtain ⟨x,hx,hx2⟩:=List.any_eq_true.1 h;rw[Bool.and_eq_true] at hx2;have h3:bn l t f x.fid=some true:=by
      have:=hx2.2;cases h4:bn l t f x.fid with
      | none=>rw[h4] at this;cases this
      | some b=>rw[h4] at this;exact congrArg some this
     exact MReach.head (by rw[cy hu];exact e) hx (jW hu t f x.fid h3)
    ·cases h
open Classical in
theorem Good.within {l:List Node} (h:Good l) (t k:Int):jr l t k=decide (MReach (bD l) k t):=by
 obtain ⟨f,hf⟩:=h.ends t k;obtain ⟨r,hr⟩:=h.cX
 by_cases hm:MReach (bD l) k t
 ·rw[decide_eq_true hm];exact oH h.up hr (qA h.up hm) f _ hf
 ·rw[decide_eq_false hm];cases hb:jr l t k with
  | false=>rfl
  | true=>rw[hb] at hf;exact absurd (jW h.up t f k hf) hm
theorem Good.de {l:List Node} (h:Good l) (a:Act):bx l a=La.de l a:=by
 unfold bx La.de;rw[h.within a.to a.fid]
theorem Good.cW {l:List Node} (h:Good l) (a:Act) (v:Int):fT l a v=La.cW l a v:=by
 unfold fT La.cW;rw[h.de a]
theorem Good.aD {l:List Node} (h:Good l) (a:Act):az l a=La.aD l a:=by
 unfold az La.aD;rw[h.de a]
theorem Good.aH {l:List Node} (h:Good l) (a:Act) (v:Int):ck l a v=La.aH l a v:=by
 unfold ck La.aH;rw[h.cW a v]
def NmE (l:List Entry):Prop:=∀e,e∈l->e.name.length≤40
structure Nm (l:List Node):Prop where
 up:Up l
 nm:∀n,n∈l->NmE n.entries
theorem NmE.nil:NmE []:=λ_ h=>by cases h
theorem ui {s:List UInt8} (h:cu s=true):s.length≤40:=by
 unfold cu at h;rw[Bool.and_eq_true,Bool.and_eq_true,decide_eq_true_eq,decide_eq_true_eq] at h;omega
theorem NmE.enter {l:List Entry} (h:NmE l) {s:List UInt8} (hs:cu s=true) (f:Int):NmE (bu l s f):=λe he=>by
 rcases na he with rfl | he
 ·exact ui hs
 ·exact h e he
theorem NmE.leave {l:List Entry} (h:NmE l) (s:List UInt8):NmE (c_ l s):=λe he=>h e (kC he)
theorem Nm.find {l:List Node} (h:Nm l) (k:Int):NmE (aq l k).entries:=by
 unfold aq;cases e:aj l k with
 | none=>exact .nil
 | some n=>exact h.nm n ((ZO h.up).1 e).1
theorem Nm.put {l:List Node} (h:Nm l) {n:Node} (hn:NmE n.entries):Nm (aE l n):=
 ⟨(bl h.up n).1,λm hm=>by
  rcases fF hm with rfl | hm
  ·exact hn
  ·exact h.nm m hm⟩
theorem Nm.drop {l:List Node} (h:Nm l) (f:Int):Nm (ez l f):=⟨(gH h.up f).1,λm hm=>h.nm m (((gH h.up f).2 m).1 hm).1⟩
theorem Nm.to {l:List Node} (h:Nm l) (a:Act):NmE (toN l a).entries:=by
 unfold toN;split
 ·exact (h.find _).leave _
 ·exact h.find _
theorem Nm.apply {l:List Node} (h:Nm l) (a:Act) (v:Int):Nm (ck l a v):=by
 have hmk:Nm (dD l a v):=by
  unfold dD;split
  ·rename_i he;unfold cL at he;split at he
   ·split at he
    ·rename_i hr;refine (h.put ?_).put .nil;exact (h.find _).enter (dh hr).1 _
    ·rename_i hr;exact absurd he hr
   ·rename_i hr;exact absurd he hr
  ·exact h
 unfold ck;split
 ·exact hmk
 ·split
  ·exact hmk
  ·split
   ·unfold eh;split
    ·exact h.put (h.find _)
    ·exact h
   ·split
    ·unfold cH;split
     ·exact (h.put ((h.find _).leave _)).drop _
     ·exact h
    ·split
     ·unfold fT;split
      ·rename_i he;have hr:bO (toN l a) a.toName=0:=by
        unfold bx at he;split at he
        ·split at he
         ·split at he
          ·assumption
          ·rename_i hr;exact absurd he hr
         ·rename_i hr;exact absurd he hr
        ·rename_i hr;exact absurd he hr
       refine Nm.put ?_ ((h.to a).enter (dh hr).1 _);split
       ·exact h
       ·exact h.put ((h.find _).leave _)
      ·exact h
     ·exact h
theorem Wh.nm {l:List Node} (h:Wh l) {n:Node} (hn:n∈l):NmE n.entries:=λe he=>ui (h.name n.fid e.name e.fid ⟨n,hn,rfl,he⟩)
variable {Fa:Prop}
theorem tD {l:List Node} {a:Act} {v:Int} {n:Node} (he:aD l a=0) (h:n∈aH l a v):n.version=v\/n∈l:=by
 unfold aD at he;unfold aH at h;have hmk:n∈dD l a v->n.version=v\/n∈l:=λh=>by
  unfold dD at h;split at h
  ·rcases fF h with rfl | h
   ·exact .inl rfl
   ·rcases fF h with rfl | h
    ·exact .inl rfl
    ·exact .inr h
  ·exact .inr h
 split at h
 ·exact hmk h
 ·split at h
  ·exact hmk h
  ·split at h
   ·unfold eh at h;split at h
    ·rcases fF h with rfl | h
     ·exact .inl rfl
     ·exact .inr h
    ·exact .inr h
   ·split at h
    ·unfold cH at h;split at h
     ·rcases fF (Wy.1 h).1 with rfl | h
      ·exact .inl rfl
      ·exact .inr h
     ·exact .inr h
    ·split at h
     ·unfold cW at h;split at h
      ·rcases fF h with rfl | h
       ·exact .inl rfl
       ·split at h
        ·exact .inr h
        ·rcases fF h with rfl | h
         ·exact .inl rfl
         ·exact .inr h
      ·exact .inr h
     ·exact .inr h
theorem Hist.ver {p:List Past} {t:List Node} (h:Hist p t):∀n,n∈t->0≤n.version/\n.version≤(p.length:Int):=by
 induction h with
 | nil=>intro n hn;rw[List.mem_singleton.1 hn];simp[h_]
 | @snoc p t c a h ha he ih=>
  intro n hn;simp only[List.length_append,List.length_cons,List.length_nil]
  rcases tD he hn with h1 | h1
  ·rw[h1];omega
  ·have:=ih n h1;omega
theorem Hist.det {p:List Past} {t:List Node} (h:Hist p t):∀{t'},Hist p t'->t=t':=by
 induction h with
 | nil=>
  intro t' h';generalize hq:([]:List Past)=q at h';cases h' with
  | nil=>rfl
  | snoc c a _ _ _=>simp at hq
 | @snoc p t c a h ha he ih=>
  intro t' h';generalize hq:p++[⟨c,a⟩]=q at h';cases h' with
  | nil=>simp at hq
  | @snoc p2 t2 c2 a2 h2 _ _=>
   obtain ⟨h3,h4⟩:=List.append_inj' hq rfl;subst h3;injection h4 with h4
   injection h4 with h4 h5
   subst h5;rw[ih h2]
theorem Hist.back {p:List Past} {c:Int} {a:Act} {t':List Node} (h:Hist (p++[⟨c,a⟩]) t'):∃t,Hist p t/\aD t a=0/\t'=aH t a ((p.length+1:Nat):Int):=by
 generalize hq:p++[(⟨c,a⟩:Past)]=q at h;cases h with
 | nil=>simp at hq
 | @snoc p2 t2 c2 a2 h2 ha he=>
  obtain ⟨h3,h4⟩:=List.append_inj' hq rfl;subst h3;injection h4 with h4
  injection h4 with h4 h5
  subst h5;exact ⟨t2,h2,he,rfl⟩
def Hst (s:Srv) (n:Node):Prop:=n.version≤(s.past.length:Int)/\∀m,m∈s.tree->m.fid=n.fid->m.version=n.version->m=n
theorem Hst.at {s:Srv} (h:Hist s.past s.tree) {n:Node} (hn:n∈s.tree):Hst s n:=⟨(h.ver n hn).2,λ_ hm hf _=>oF h.bF.up hm hn hf⟩
theorem xk {p:List Past} {n:Node}:∀(q:List Past) {t t':List Node},Hist p t->Hist (p++q.reverse) t'->n.version≤(p.length:Int)->(∀m,m∈t->m.fid=n.fid->m.version=n.version->m=n) ->
  ∀m,m∈t'->m.fid=n.fid->m.version=n.version->m=n
 | [],t,t',h,h',_,hm=>by
  rw[List.reverse_nil,List.append_nil] at h';rw[←h.det h'];exact hm
 | x::q,t,t',h,h',hv,hm=>by
  rw[List.reverse_cons,←YQ] at h';obtain ⟨t2,h2,he,rfl⟩:=Hist.back (c:=x.client) (a:=x.act) h';have ih:=xk q h h2 hv hm;intro m hmm hf hver
  rcases tD he hmm with h3 | h3
  ·rw[h3] at hver;simp only[List.length_append,List.length_reverse] at hver;omega
  ·exact ih m h3 hf hver
structure Grown (s s':Srv):Prop where
 hist:Hist s'.past s'.tree
 past:∃q,s'.past=s.past++q
theorem Grown.refl {s:Srv} (h:Hist s.past s.tree):Grown s s:=⟨h,[],by simp⟩
theorem Grown.trans {a b c:Srv} (h:Grown a b) (k:Grown b c):Grown a c:=by
 obtain ⟨q,hq⟩:=h.past;obtain ⟨r,hr⟩:=k.past;exact ⟨k.hist,q++r,by rw[hr,hq,YQ]⟩
theorem Hst.grow {s s':Srv} (h:Hist s.past s.tree) (hg:Grown s s') {n:Node} (hn:Hst s n):Hst s' n:=by
 obtain ⟨q,hq⟩:=hg.past;have h1:=hg.hist;refine ⟨by rw[hq,List.length_append];have:=hn.1;omega,xk (p:=s.past) q.reverse h ?_ hn.1 hn.2⟩;rw[List.reverse_reverse,←hq];exact h1
theorem Cx {t:List Node} (hu:Up t) {k:Kept} (hd:k.dirty=false) (h:bE t k=false):∃n,n∈t/\n.fid=k.node.fid/\n.version=k.node.version:=by
 unfold bE at h;rw[hd,cE] at h;cases e:aj t k.node.fid with
 | none=>rw[e] at h;simp at h
 | some n=>
  rw[e] at h;simp only[Bool.not_false,Option.isSome_some,Bool.not_true,Option.getD_some,Yk,Bool.true_and,Bool.not_eq_false',beq_iff_eq] at h;obtain ⟨h1,h2⟩:=(ZO hu).1 e;exact ⟨n,h1,h2,h⟩
theorem uD {s:Srv} (hh:Hist s.past s.tree) {k:Kept} (hk:Hst s k.node) (hd:k.dirty=false) (h:bE s.tree k=false):k.node∈s.tree:=by
 obtain ⟨n,h1,h2,h3⟩:=Cx hh.bF.up hd h;rw[←hk.2 n h1 h2 h3];exact h1
structure ActS (a:Act):Prop where
 name:a.name.length≤40
 toName:a.toName.length≤40
 data:a.data.length≤20
theorem ActS.fit {a:Act} (h:ActS a):ActFit a:=⟨by have:=h.name;omega,by have:=h.toName;omega,by have:=h.data;omega⟩
structure HoardOK (h:Hoard):Prop where
 path:h.path.length≤40
 worth:1≤h.worth/\h.worth≤100
structure CInvF (Fa:Prop) (B T:Nat) (s:Srv) (c:Cli):Prop where
 room:3≤c.room/\c.room≤24
 nod:(c.cache.map λk=>k.node.fid).Nodup
 len:(c.cache.length:Int)≤c.room
 cX:∃r,k_ r (aM c.cache)
 data:∀k,k∈c.cache->k.node.data.length≤20
 ent:∀k,k∈c.cache->k.node.entries.length≤6
 eup:∀k,k∈c.cache->EUp k.node.entries
 nam:∀k,k∈c.cache->NmE k.node.entries
 here:c.away=false->c.log=[]/\∀k,k∈c.cache->k.dirty=false/\k.node∈s.tree
 hst:Fa->∀k,k∈c.cache->k.dirty=false->Hst s k.node
 log:c.log.length≤20
 logS:∀r,r∈c.log->ActS r.act
 rep:c.repair.length≤B
 repS:∀r,r∈c.repair->ActS r.act
 hoards:c.hoards.length≤6
 hoardS:∀h,h∈c.hoards->HoardOK h
 clock:0≤c.clock/\c.clock≤(T:Int)
 made:0≤c.made/\c.made≤(B:Int)
 logged:0≤c.logged/\c.logged≤(B:Int)
abbrev I' (B T:Nat) (s:Srv) (c:Cli):Prop:=CInvF True B T s c
theorem CInvF.mono {B B' T T':Nat} {s:Srv} {c:Cli} (h:CInvF Fa B T s c) (hB:B≤B') (hT:T≤T'):CInvF Fa B' T' s c:=
 { h with rep:=YW h.rep hB,clock:=⟨h.clock.1,by have:=h.clock.2;omega⟩,made:=⟨h.made.1,by have:=h.made.2;omega⟩,logged:=⟨h.logged.1,by have:=h.logged.2;omega⟩ }
theorem CInvF.new (B T:Nat) (s:Srv) (i room:Int) (h:3≤room/\room≤24):CInvF Fa B T s (pt i room) where
 room:=h
 nod:=List.Pairwise.nil
 len:=by simp[pt];omega
 cX:=⟨λ_=>0,λn hn=>by cases hn⟩
 data:=λk hk=>by cases hk
 ent:=λk hk=>by cases hk
 eup:=λk hk=>by cases hk
 nam:=λk hk=>by cases hk
 here:=λ_=>⟨rfl,λk hk=>by cases hk⟩
 hst:=λ_ k hk=>by cases hk
 log:=by simp[pt]
 logS:=λr hr=>by cases hr
 rep:=by simp[pt]
 repS:=λr hr=>by cases hr
 hoards:=by simp[pt]
 hoardS:=λr hr=>by cases hr
 clock:=by simp[pt]
 made:=by simp[pt]
 logged:=by simp[pt]
theorem tO {r:Int->Nat} {l m:List Node} (h:k_ r l) (hs:∀n,n∈m->∃o,o∈l/\o.fid=n.fid/\o.entries=n.entries):k_ r m:=λn hn e he=>by
 obtain ⟨o,h1,h2,h3⟩:=hs n hn;rw[←h3] at he;rw[←h2];exact h o h1 e he
theorem nr {l:List Kept} {n:Node}:n∈aM l↔∃k,k∈l/\k.node=n:=by
 unfold aM;exact Wq
structure Of (t:List Node) (l:List Kept):Prop where
 each:∀k,k∈l->∃n,n∈t/\n.fid=k.node.fid/\n.dir=k.node.dir/\n.data=k.node.data/\n.entries=k.node.entries
theorem Of.cX {t:List Node} {l:List Kept} (h:Of t l) (hf:∃r,k_ r t):∃r,k_ r (aM l):=by
 obtain ⟨r,hr⟩:=hf;refine ⟨r,tO hr λn hn=>?_⟩;obtain ⟨k,hk,rfl⟩:=nr.1 hn;obtain ⟨o,h1,h2,_,_,h5⟩:=h.each k hk;exact ⟨o,h1,h2,h5⟩
theorem Of.mem {t:List Node} {l:List Kept} (h:∀k,k∈l->k.node∈t):Of t l:=⟨λk hk=>⟨k.node,h k hk,rfl,rfl,rfl,rfl⟩⟩
structure UInvF (Fa:Prop) (B T:Nat) (u:U):Prop where
 srv:SrvOK B u.s
 cli:CInvF Fa B T u.s u.c
abbrev wc (B T:Nat) (u:U):Prop:=UInvF True B T u
theorem UInvF.mono {B B' T T':Nat} {u:U} (h:UInvF Fa B T u) (hB:B≤B') (hT:T≤T'):UInvF Fa B' T' u:=⟨h.srv.mono hB,h.cli.mono hB hT⟩
theorem oY (f w c:Int) (k:Kept):(fL f w c k).node=k.node:=by unfold fL;split<;>rfl
theorem zg (f w c:Int) (k:Kept):(fL f w c k).dirty=k.dirty:=by unfold fL;split<;>rfl
theorem iL {l:List Kept} {f w c:Int} {k:Kept} (h:k∈l.map (fL f w c)):∃x,x∈l/\x.node=k.node/\x.dirty=k.dirty:=by
 obtain ⟨x,hx,rfl⟩:=Wq.1 h;exact ⟨x,hx,(oY _ _ _ _).symm,(zg _ _ _ _).symm⟩
theorem uf (l:List Kept) (f w c:Int):(l.map (fL f w c)).map (λk=>k.node.fid)=l.map λk=>k.node.fid:=by
 rw[YX];exact Yb λk _=>by simp[oY]
theorem sa (l:List Kept) (f w c:Int):aM (l.map (fL f w c))=aM l:=by
 unfold aM;rw[YX];exact Yb λk _=>by simp[oY]
theorem nX {B T:Nat} {u:U} (h:UInvF Fa B T u) (f w:Int):UInvF Fa B (T+1) (cm u f w):=by
 obtain ⟨hs,h⟩:=h;refine ⟨hs,?_⟩;exact { h with
  nod:=by show (List.map _ (u.c.cache.map _)).Nodup;rw[uf];exact h.nod
  len:=by show ((List.map _ u.c.cache).length:Int)≤_;rw[List.length_map];exact h.len
  cX:=by show ∃r,k_ r (aM (u.c.cache.map _));rw[sa];exact h.cX
  data:=λk hk=>by obtain ⟨x,hx,h1,_⟩:=iL hk;rw[←h1];exact h.data x hx
  ent:=λk hk=>by obtain ⟨x,hx,h1,_⟩:=iL hk;rw[←h1];exact h.ent x hx
  eup:=λk hk=>by obtain ⟨x,hx,h1,_⟩:=iL hk;rw[←h1];exact h.eup x hx
  nam:=λk hk=>by obtain ⟨x,hx,h1,_⟩:=iL hk;rw[←h1];exact h.nam x hx
  here:=λha=>⟨(h.here ha).1,λk hk=>by obtain ⟨x,hx,h1,h2⟩:=iL hk;rw[←h1,←h2];exact (h.here ha).2 x hx⟩
  hst:=λhF k hk hd=>by obtain ⟨x,hx,h1,h2⟩:=iL hk;rw[←h1];exact h.hst hF x hx (h2.trans hd)
  clock:=by have:=h.clock;show 0≤u.c.clock+1/\u.c.clock+1≤((T+1:Nat):Int);omega }
theorem xz {l:List Kept} {f:Int} (h:bT l f=none):∀x,x∈l->x.node.fid≠f:=λx hx e=>by
 have:=W3.1 h x hx;simp[e] at this
theorem BL {l:List Kept} {f:Int} {i:Nat} (h:bT l f=some i):i<l.length/\(l.getD i default).node.fid=f:=by
 obtain ⟨h1,h2,_⟩:=W5.1 h;exact ⟨h1,by rw[Wi,Wj h1];exact of_decide_eq_true h2⟩
theorem fW {room:Int}:∀(f:Nat) (l L:List Kept),bM room f l=some L->L.Sublist l
 | 0,l,L,h=>by rw[bM] at h;injection h with h;subst h;exact List.Sublist.refl _
 | f+1,l,L,h=>by
  rw[bM] at h;split at h
  ·split at h
   ·cases h
   ·exact (fW f _ L h).trans (List.eraseIdx_sublist _ _)
  ·injection h with h;subst h;exact List.Sublist.refl _
theorem qg {room:Int} (hr:1≤room):∀(f:Nat) (l L:List Kept),bM room f l=some L->l.length<f->(L.length:Int)<room
 | 0,l,L,h,hf=>by omega
 | f+1,l,L,h,hf=>by
  rw[bM] at h;split at h
  ·rename_i hge;split at h
   ·cases h
   ·rename_i i hw;have hi:i<l.length:=fy l l.length i hw;exact qg hr f _ L h (by rw[List.length_eraseIdx,if_pos hi];omega)
  ·injection h with h;subst h;omega
structure Kp (l:List Kept) (room:Int) (k:Kept) (L:List Kept):Prop where
 mem:∀x,x∈L->(x∈l/\x.node.fid≠k.node.fid)\/(x.node=k.node/\x.dirty=k.dirty)
 nod:(L.map λx=>x.node.fid).Nodup
 len:(L.length:Int)≤room
 has:∃x,x∈L/\x.node=k.node/\x.dirty=k.dirty
theorem xS {l:List Kept} (h:(l.map λx=>x.node.fid).Nodup) {i j:Nat} {a b:Kept} (ha:l[i]? = some a) (hb:l[j]? = some b) (hf:a.node.fid=b.node.fid):i=j:=by
 have h1:=Wp.1 ha;have h2:=Wp.1 hb;obtain ⟨hi,h1⟩:=h1;obtain ⟨hj,h2⟩:=h2;refine (List.getElem_inj (xs:=l.map λx=>x.node.fid) (i:=i) (j:=j) (h₀:=WG) (h₁:=QC) h).1 ?_;rw[List.getElem_map,List.getElem_map,h1,h2,hf]
theorem Er {l:List Kept} {i:Nat} {k:Kept} (hi:i<l.length) (hf:(l.getD i default).node.fid=k.node.fid):(l.set i k).map (λx=>x.node.fid)=l.map λx=>x.node.fid:=by
 rw[List.map_set];refine List.ext_getElem? λj=>?_
 rw[YA];split
 ·rename_i e;subst e;rw[Wm,Wj hi];rw[Wi,Wj hi] at hf;simp only[List.length_map,hi,if_true,Option.map_some];exact congrArg some hf.symm
 ·rfl
theorem xy {l L:List Kept} {room:Int} {k:Kept} (hr:1≤room) (hn:(l.map λx=>x.node.fid).Nodup) (hl:(l.length:Int)≤room) (h:cK l room k=some L):Kp l room k L:=by
 unfold cK at h;cases e:bT l k.node.fid with
 | some i=>
  rw[e] at h;injection h with h
  subst h;obtain ⟨hi,hf⟩:=BL e;refine ⟨λx hx=>?_,?_,by rw[YL];exact hl,⟨{ k with worth:=lS k.worth (l.getD i default).worth },List.mem_iff_getElem.2 ⟨i,by simpa using hi,by simp⟩,rfl,rfl⟩⟩
  ·obtain ⟨j,hj⟩:=Wu hx;rw[YA] at hj;split at hj
   ·rename_i e2;subst e2;simp only[hi,if_true,Option.some.injEq] at hj;exact .inr ⟨by rw[←hj],by rw[←hj]⟩
   ·rename_i hne;refine .inl ⟨Wn hj,λhxf=>hne ?_⟩;refine xS hn (Wj hi) hj ?_;rw[Wi,Wj hi] at hf;exact hf.trans hxf.symm
  ·rw[Er hi (by exact hf)];exact hn
 | none=>
  rw[e] at h;obtain ⟨L0,h0,rfl⟩:=W7.1 h;have h1:=fW _ _ _ h0;have h2:=qg hr _ _ _ h0 (Nat.lt_succ_self _);have hno:=xz e;refine ⟨λx hx=>?_,?_,by rw[List.length_append];simp;omega,⟨k,by simp,rfl,rfl⟩⟩
  ·rcases List.mem_append.1 hx with hx | hx
   ·exact .inl ⟨h1.subset hx,hno x (h1.subset hx)⟩
   ·rw[List.mem_singleton.1 hx];exact .inr ⟨rfl,rfl⟩
  ·rw[List.map_append,List.nodup_append];refine ⟨hn.sublist (h1.map _),by simp,λa ha b hb=>?_⟩;obtain ⟨x,hx,rfl⟩:=Wq.1 ha;simp only[List.map_cons,List.map_nil,List.mem_singleton] at hb;rw[hb];exact hno x (h1.subset hx)
theorem CInvF.within {B T:Nat} {s:Srv} {c:Cli} (h:CInvF Fa B T s c) (hh:Hist s.past s.tree) {L:List Kept} (hn:(L.map λk=>k.node.fid).Nodup) (hl:(L.length:Int)≤c.room) (hm:∀k,k∈L->k.dirty=false/\k.node∈s.tree):CInvF Fa B T s { c with cache:=L }:=
 { h with
  nod:=hn
  len:=hl
  cX:=(Of.mem λk hk=>(hm k hk).2).cX hh.bF.cX
  data:=λk hk=>hh.bF.data _ (hm k hk).2
  ent:=λk hk=>hh.bF.ent _ (hm k hk).2
  eup:=λk hk=>(hh.whole.loc _ (hm k hk).2).eup
  nam:=λk hk=>hh.whole.nm (hm k hk).2
  here:=λha=>⟨(h.here ha).1,hm⟩
  hst:=λ_ k hk _=>Hst.at hh (hm k hk).2 }
theorem BG {B T:Nat} {u:U} (h:UInvF Fa B T u) (ha:u.c.away=false) {n:Node} (hn:n∈u.s.tree) (w c:Int):UInvF Fa B T (gg u ⟨n,false,w,c⟩):=by
 unfold gg;split
 ·rename_i l hl;have hk:=xy (by have:=h.cli.room;omega) h.cli.nod h.cli.len hl;refine ⟨h.srv,h.cli.within h.srv.hist hk.nod hk.len λx hx=>?_⟩
  rcases hk.mem x hx with ⟨h1,_⟩ | ⟨h1,h2⟩
  ·exact (h.cli.here ha).2 x h1
  ·exact ⟨h2,by rw[h1];exact hn⟩
 ·exact h
theorem bR {B T:Nat} {u:U} (h:UInvF Fa B T u) (f w:Int):UInvF Fa B (T+1) (bb u f w).u:=by
 unfold bb;split
 ·exact nX h f w
 ·split
  ·exact nX h f w
  ·rename_i ha;split
   ·exact nX h f w
   ·rename_i n hn;exact BG (nX h f w) (show u.c.away=false by simpa using ha) ((ZO h.srv.hist.bF.up).1 hn).1 w _
theorem AT {B:Nat} (w:Int):∀(l:List (List UInt8)) (T:Nat) (g:Got),UInvF Fa B T g.u->UInvF Fa B (T+l.length) (goR w l g).u
 | [],T,g,h=>by unfold goR;split<;>exact h
 | s::r,T,g,h=>by
  unfold goR;have hm:UInvF Fa B (T+(s::r).length) g.u:=h.mono (Wt _) y7;split
  ·exact hm
  ·split
   ·exact hm
   ·split
    ·exact hm
    ·rename_i f _;have:=AT w r (T+1) (bb g.u f w) (bR h f w)
     rwa [show T+1+r.length=T+(s::r).length by simp;omega] at this
theorem ku {B T:Nat} {u:U} (h:UInvF Fa B T u) (l:List (List UInt8)) (w:Int):UInvF Fa B (T+1+l.length) (goU u l w).u:=AT w l (T+1) _ (bR h 0 w)
theorem bX (s:List UInt8):(af s).1.length≤41/\∀x,x∈(af s).1->x.length≤40/\cu x=true:=by
 unfold af;split
 ·simp
 ·rename_i h1;split
  ·simp
  ·split
   ·simp
   ·split
    ·rename_i h4;have h2:=qL 47 (s.drop 1);have h5:(s.drop 1).length=s.length-1:=YJ;refine ⟨by show (cZ 47 (s.drop 1)).length≤41;omega,λx hx=>⟨?_,List.all_eq_true.1 h4 x hx⟩⟩;have h3:=mo 47 (s.drop 1) x hx;omega
    ·simp
theorem cw {B T:Nat} {u:U} (h:UInvF Fa B T u) (path:List UInt8):UInvF Fa B (T+42) (ai u path).u:=by
 unfold ai;split
 ·exact h.mono (Wt _) z8
 ·split
  ·exact h.mono (Wt _) z8
  ·refine (ku h _ 0).mono (Wt _) ?_;have:=(bX path).1;simp only[Wv];omega
theorem bI (u:U) (path:List UInt8):(ai u path).name.length≤40:=by
 unfold ai;split
 ·simp
 ·split
  ·simp
  ·rename_i h;refine ((bX path).2 _ ?_).1;have hi:(af path).1.length-1<(af path).1.length:=by omega
   rw[Wi,Wj hi];exact YO hi
variable {Fa:Prop}
theorem ni {l:List Node} (h:(l.map (·.fid)).Nodup):∀i,i<l.length->∀j,j<i->fY l j≠fY l i:=λi hi j hj e=>by
 unfold fY at e;rw[Wi,Wi,Wj hi,Wj (show j<l.length by omega)] at e;have:=(List.getElem_inj (xs:=l.map (·.fid)) (i:=j) (j:=i) (h₀:=j0) (h₁:=WG) h).1 (by rw[List.getElem_map,List.getElem_map];exact e);omega
theorem jj (l:List Kept):(aM l).map (·.fid)=l.map λk=>k.node.fid:=by unfold aM;rw[YX];rfl
theorem nB {l:List Kept} (h:(l.map λk=>k.node.fid).Nodup):rb l=true:=by
 refine decide_eq_true λi hi j hj=>?_
 have:=ni (l:=aM l) (by rw[jj];exact h) i (by simpa[aM] using hi) j hj;have hf:∀i,i<l.length->fY (aM l) i=wW l i:=λi hi=>by
  unfold fY wW aM;rw[Wi,Wi,Wm,Wj hi];rfl
 rwa [hf j z8,hf i hi] at this
theorem eX {c:Cli} (h:(c.cache.map λk=>k.node.fid).Nodup) (x:Node):x∈cI c↔∃k,k∈c.cache/\k.node=x:=by
 unfold cI;rw[uA _ (ni (by rw[jj];exact h)),nr]
theorem iW (c:Cli):Up (cI c):=ny _
theorem CB {c:Cli} (h:(c.cache.map λk=>k.node.fid).Nodup):(cI c).length=c.cache.length:=by
 unfold cI;rw[uz _ (ni (by rw[jj];exact h))];simp[aM]
theorem CInvF.bF {B T:Nat} {s:Srv} {c:Cli} (h:CInvF Fa B T s c):Good (cI c) where
 up:=iW c
 cX:=by
  obtain ⟨r,hr⟩:=h.cX;exact ⟨r,tO hr λn hn=>by
   obtain ⟨k,hk,rfl⟩:=(eX h.nod n).1 hn;exact ⟨k.node,nr.2 ⟨k,hk,rfl⟩,rfl,rfl⟩⟩
 len:=by rw[CB h.nod];have:=h.len;have:=h.room;omega
 data:=λn hn=>by obtain ⟨k,hk,rfl⟩:=(eX h.nod n).1 hn;exact h.data k hk
 ent:=λn hn=>by obtain ⟨k,hk,rfl⟩:=(eX h.nod n).1 hn;exact h.ent k hk
theorem CInvF.ri {B T:Nat} {s:Srv} {c:Cli} (h:CInvF Fa B T s c):Ri (cI c):=⟨iW c,λn hn=>by
 obtain ⟨k,hk,rfl⟩:=(eX h.nod n).1 hn;exact h.eup k hk⟩
theorem CInvF.nmT {B T:Nat} {s:Srv} {c:Cli} (h:CInvF Fa B T s c):Nm (cI c):=⟨iW c,λn hn=>by
 obtain ⟨k,hk,rfl⟩:=(eX h.nod n).1 hn;exact h.nam k hk⟩
theorem np {room clk:Int} (hr:1≤room) {was:List Node} {a:Act}:∀(N:List Node) {l L:List Kept},(l.map λx=>x.node.fid).Nodup->(l.length:Int)≤room->cj room clk was a N l=some L ->
  (L.map λx=>x.node.fid).Nodup/\(L.length:Int)≤room/\∀x,x∈L->(x∈l/\∀n,n∈N->aU was a n=true->n.fid≠x.node.fid)\/∃n,n∈N/\aU was a n=true/\x.node=(fJ was clk n).node/\x.dirty=true
 | [],l,L,hn,hl,h=>by
  rw[cj] at h;injection h with h
  subst h;exact ⟨hn,hl,λx hx=>.inl ⟨hx,λn hn=>by cases hn⟩⟩
 | n::r,l,L,hn,hl,h=>by
  rw[cj] at h;split at h
  ·rename_i hc;split at h
   ·cases h
   ·rename_i l' hk;have hp:=xy hr hn hl hk;obtain ⟨h1,h2,h3⟩:=np hr r hp.nod hp.len h;refine ⟨h1,h2,λx hx=>?_⟩
    rcases h3 x hx with ⟨h4,h5⟩ | ⟨m,h4,h5⟩
    ·rcases hp.mem x h4 with ⟨h6,h7⟩ | ⟨h6,h7⟩
     ·refine .inl ⟨h6,λm hm hcm=>?_⟩
      rcases List.mem_cons.1 hm with rfl | hm
      ·exact λe=>h7 e.symm
      ·exact h5 m hm hcm
     ·exact .inr ⟨n,List.mem_cons_self,hc,h6,h7⟩
    ·exact .inr ⟨m,List.mem_cons_of_mem _ h4,h5⟩
  ·rename_i hc;obtain ⟨h1,h2,h3⟩:=np hr r hn hl h;refine ⟨h1,h2,λx hx=>?_⟩
   rcases h3 x hx with ⟨h4,h5⟩ | ⟨m,h4,h5⟩
   ·refine .inl ⟨h4,λm hm hcm=>?_⟩
    rcases List.mem_cons.1 hm with rfl | hm
    ·exact absurd hcm hc
    ·exact h5 m hm hcm
   ·exact .inr ⟨m,List.mem_cons_of_mem _ h4,h5⟩
theorem yW {l L:List Rec} {r:Rec} (hl:l.length≤20) (h:dv l r=some L):L.length≤20/\∀x,x∈L->x∈l\/x=r:=by
 unfold dv at h;split at h
 ·injection h with h
  subst h;exact ⟨YW (Wr _ _) hl,λx hx=>.inl (Wy.1 hx).1⟩
 ·split at h
  ·cases h
  ·rename_i hlt;injection h with h
   subst h;refine ⟨by simp;omega,λx hx=>?_⟩
   rcases List.mem_append.1 hx with hx | hx
   ·exact .inl ((kY l r).subset hx)
   ·exact .inr (List.mem_singleton.1 hx)
theorem yo {a b:Node} (h:bW false a b=true):a.fid=b.fid/\a.dir=b.dir/\a.data=b.data/\a.entries=b.entries:=by
 unfold bW at h;simp only[Bool.and_eq_true,beq_iff_eq,decide_eq_true_eq] at h;exact ⟨h.1.1.1.1,h.1.1.1.2,h.1.1.2,h.1.2⟩
theorem wo {was:List Node} {a:Act} {n:Node} (h:aU was a n≠true):∃o,aj was n.fid=some o/\bW false o n=true:=by
 unfold aU at h;cases e:aj was n.fid with
 | none=>rw[e] at h;simp at h
 | some o=>
  rw[e] at h;refine ⟨o,rfl,?_⟩;simp only[Bool.not_eq_true,Bool.not_eq_false',Bool.and_eq_true] at h;exact h.1
theorem zK {c:Cli} {a:Act} (h:ActS a):ActS (eG c a):=by unfold eG;split;exact ⟨h.name,h.toName,h.data⟩;exact h
theorem Ip {B T:Nat} {s:Srv} {c:Cli} (h:CInvF Fa B T s c) {a:Act} (he:aD (cI c) (eG c a)=0) {L:List Kept} (hL:A3 c a=some L) :
  let L':=L.filter λk=>bg (kI c a) k.node.fid
  (L'.map λx=>x.node.fid).Nodup/\(L'.length:Int)≤c.room/\Of (kI c a) L'/\∀x,x∈L'->x.dirty=false->x∈c.cache:=by
 intro L';obtain ⟨h1,h2,h3⟩:=np (by have:=h.room;omega) _ h.nod h.len hL;have hg:=fq h.bF (eG c a) 0 he;refine ⟨h1.sublist ((List.filter_sublist).map _),?_,⟨λx hx=>?_⟩,λx hx hd=>?_⟩
 ·have:=Wr (λk:Kept=>bg (kI c a) k.node.fid) L
  show ((L.filter _).length:Int)≤_
  omega
 ·obtain ⟨hx,hat⟩:=Wy.1 hx
  rcases h3 x hx with ⟨h4,h5⟩ | ⟨n,h4,h5,h6,h7⟩
  ·rw[cE] at hat;obtain ⟨m,hm⟩:=YR.1 hat;obtain ⟨hm,hmf⟩:=(ZO hg.up).1 hm;have hno:aU (cI c) (eG c a) m≠true:=λhc=>h5 m hm hc hmf
   obtain ⟨o,ho,hs⟩:=wo hno;have hx2:aj (cI c) m.fid=some x.node:=(ZO (iW c)).2 ⟨(eX h.nod _).2 ⟨x,h4,rfl⟩,hmf.symm⟩;rw[hx2] at ho;injection ho with ho
   subst ho;obtain ⟨k1,k2,k3,k4⟩:=yo hs;exact ⟨m,hm,hmf,k2.symm,k3.symm,k4.symm⟩
  ·exact ⟨n,h4,by rw[h6];rfl,by rw[h6];rfl,by rw[h6];rfl,by rw[h6];rfl⟩
 ·obtain ⟨hx,_⟩:=Wy.1 hx
  rcases h3 x hx with ⟨h4,_⟩ | ⟨n,_,_,_,h7⟩
  ·exact h4
  ·rw[hd] at h7;cases h7
theorem Gi {B T:Nat} {u:U} (h:UInvF Fa B T u) (ha:u.c.away=true) {a:Act} (hs:ActS a) (seen:Int):UInvF Fa (B+1) T (pv u a seen).u:=by
 have hm:=h.mono (Nat.le_succ B) (Wt T);unfold pv;split
 ·exact hm
 ·rename_i he;have he:aD (cI u.c) (eG u.c a)=0:=by omega
  split
  ·exact hm
  ·rename_i log hlog;split
   ·exact hm
   ·rename_i L hL;obtain ⟨h1,h2,h3,h4⟩:=Ip h.cli he hL;have hg:=fq h.cli.bF (eG u.c a) 0 he;have hri:Ri (kI u.c a):=by unfold kI;rw[←h.cli.bF.aH];exact h.cli.ri.apply _ _
    have hnm:Nm (kI u.c a):=by unfold kI;rw[←h.cli.bF.aH];exact h.cli.nmT.apply _ _
    obtain ⟨g1,g2⟩:=yW h.cli.log hlog;refine ⟨hm.srv,?_⟩;have hc:=hm.cli;exact { hc with
     nod:=h1
     len:=h2
     cX:=h3.cX hg.cX
     data:=λk hk=>by obtain ⟨n,k1,_,_,k2,_⟩:=h3.each k hk;rw[←k2];exact hg.data n k1
     ent:=λk hk=>by obtain ⟨n,k1,_,_,_,k2⟩:=h3.each k hk;rw[←k2];exact hg.ent n k1
     eup:=λk hk=>by obtain ⟨n,k1,_,_,_,k2⟩:=h3.each k hk;rw[←k2];exact hri.eup n k1
     nam:=λk hk=>by obtain ⟨n,k1,_,_,_,k2⟩:=h3.each k hk;rw[←k2];exact hnm.nm n k1
     here:=λh0=>by simp only[ha] at h0;cases h0
     hst:=λhF k hk hd=>h.cli.hst hF k (h4 k hk hd) hd
     log:=g1
     logS:=λr hr=>by
      rcases g2 r hr with h5 | rfl
      ·exact h.cli.logS r h5
      ·exact zK hs
     made:=by have:=h.cli.made;show 0≤(if aN a=true then u.c.made+1 else u.c.made)/\(if aN a=true then u.c.made+1 else u.c.made)≤((B+1:Nat):Int);split<;>omega
     logged:=by have:=h.cli.logged;show 0≤u.c.logged+1/\u.c.logged+1≤((B+1:Nat):Int);omega }
theorem CInvF.grow {B B' T:Nat} {s s':Srv} {c:Cli} (h:CInvF Fa B T s c) (hB:B≤B') (hh:Hist s.past s.tree) (hg:Grown s s'):CInvF Fa B' T s' (cN s'.tree c):=by
 have hm:=h.mono hB (Wt T);unfold cN;split
 ·rename_i ha;exact { hm with here:=λh0=>(by rw[ha] at h0;cases h0),hst:=λhF k hk hd=>(h.hst hF k hk hd).grow hh hg }
 ·rename_i ha;have ha:c.away=false:=by simpa using ha
  unfold lL;have hsub:(c.cache.filter λk=>!bE s'.tree k).Sublist c.cache:=List.filter_sublist;have hin:∀k,k∈c.cache.filter (λk=>!bE s'.tree k)->k.dirty=false/\k.node∈s'.tree:=λk hk=>by
   obtain ⟨hk,hst⟩:=Wy.1 hk;have hd:=((h.here ha).2 k hk).1;exact ⟨hd,uD hg.hist ((Hst.at hh ((h.here ha).2 k hk).2).grow hh hg) hd (by simpa using hst)⟩
  exact { hm with
   nod:=h.nod.sublist (hsub.map _)
   len:=by have:=hsub.length_le;have:=h.len;show ((c.cache.filter _).length:Int)≤c.room;omega
   cX:=(Of.mem λk hk=>(hin k hk).2).cX hg.hist.bF.cX
   data:=λk hk=>h.data k (hsub.subset hk)
   ent:=λk hk=>h.ent k (hsub.subset hk)
   eup:=λk hk=>h.eup k (hsub.subset hk)
   nam:=λk hk=>h.nam k (hsub.subset hk)
   here:=λ_=>⟨(h.here ha).1,hin⟩
   hst:=λhF k hk hd=>(h.hst hF k (hsub.subset hk) hd).grow hh hg }
theorem FJ {s:Srv} {a:Act} (h:ActFit a):ActFit (doA s a):=by unfold doA;split;exact ⟨h.name,h.toName,h.data⟩;exact h
theorem xj {s:Srv} (h:Hist s.past s.tree) (c:Int) {a:Act} (ha:ActFit a) (he:doE s a=0):Grown s (doS s c a):=⟨Hist.snoc c _ h (FJ ha) he,_,rfl⟩
theorem rS {s:Srv} (h:Hist s.past s.tree) (c:Int) {log:List Rec} (hl:∀r,r∈log->ActFit r.act):Grown s (ll s c log):=⟨(JInv.rV h c s.next log hl).hist,_,rfl⟩
theorem Ds {B T:Nat} {u:U} (h:UInvF Fa B T u) (ha:u.c.away=false) {a:Act} (hs:ActS a):UInvF Fa (B+1) T (lh u a).u:=by
 unfold lh;split
 ·rename_i he;have hg:=xj h.srv.hist u.c.number hs.fit he;have:=h.cli.grow (Nat.le_succ B) h.srv.hist hg;unfold cN at this;rw[if_neg (by simp[ha])] at this;exact ⟨h.srv.step u.c.number hs.fit he,this⟩
 ·exact h.mono (Nat.le_succ B) (Wt T)
theorem jb {B T:Nat} {u:U} (h:UInvF Fa B T u) {a:Act} (hs:ActS a) (seen:Int):UInvF Fa (B+1) T (cY u a seen).u:=by
 unfold cY;split
 ·rename_i ha;exact Gi h ha hs seen
 ·rename_i ha;exact Ds h (by simpa using ha) hs
theorem A4 {B T:Nat} {g:Got} (h:UInvF Fa B T g.u) {data:List UInt8} (hd:data.length≤20):UInvF Fa (B+1) T (lu g data).u:=by
 unfold lu;split
 ·exact h.mono (Nat.le_succ B) (Wt T)
 ·exact jb h ⟨by simp[bZ],by simp[bZ],hd⟩ _
theorem CO {B T:Nat} {u:U} (h:UInvF Fa B T u) (path data:List UInt8):UInvF Fa (B+2) (T+100) (cB u path data).u:=by
 have hd:=cw h path;have hn:=bI u path;unfold cB;split
 ·exact hd.mono z8 z8
 ·split
  ·exact hd.mono z8 z8
  ·rename_i hdl;split
   ·rename_i f _;exact (A4 (bR hd f 0) z8).mono z8 z8
   ·have hm:=jb hd (a:=dy (ai u path).n.fid (ai u path).name) ⟨hn,by simp[dy],by simp[dy]⟩ (-1);split
    ·exact hm.mono z8 z8
    ·have:=(bX path).1;exact (A4 (ku hm (af path).1 0) z8).mono z8 z8
theorem BU {B T:Nat} {u:U} (h:UInvF Fa B T u) (path:List UInt8):UInvF Fa (B+2) (T+100) (gm u path).u:=by
 have hd:=cw h path;have hn:=bI u path;unfold gm;split
 ·exact hd.mono z8 z8
 ·exact (jb hd (a:=hY (ai u path).n.fid (ai u path).name) ⟨hn,by simp[hY],by simp[hY]⟩ (-1)).mono z8 z8
theorem qJ {B T:Nat} {u:U} (h:UInvF Fa B T u) (path:List UInt8):UInvF Fa B (T+43) (atU u path).u/\(atU u path).name.length≤40:=by
 have hd:=cw h path;have hn:=bI u path;unfold atU;split
 ·exact ⟨hd.mono z8 z8,by simp⟩
 ·split
  ·exact ⟨hd.mono z8 z8,by simp⟩
  ·rename_i f _;exact ⟨bR hd f 0,hn⟩
theorem zO {B T:Nat} {u:U} (h:UInvF Fa B T u) (path:List UInt8):UInvF Fa (B+2) (T+100) (bG u path).u:=by
 obtain ⟨hd,hn⟩:=qJ h path;unfold bG;split
 ·exact hd.mono z8 z8
 ·exact (jb hd (a:=cV (atU u path).n.fid (atU u path).d (atU u path).name) ⟨hn,by simp[cV],by simp[cV]⟩ _).mono z8 z8
theorem DR {B T:Nat} {u:U} (h:UInvF Fa B T u) (path to:List UInt8):UInvF Fa (B+2) (T+100) (dd u path to).u:=by
 obtain ⟨hd,hn⟩:=qJ h path;unfold dd;split
 ·exact hd.mono z8 z8
 ·have h2:=cw hd to;have hn2:=bI (atU u path).u to;split
  ·exact h2.mono z8 z8
  ·exact (jb h2 (a:=ep (atU u path).n.fid (atU u path).d (atU u path).name (ai (atU u path).u to).n.fid (ai (atU u path).u to).name) ⟨hn,hn2,by simp[ep]⟩ _).mono z8 z8
theorem oq:∀(l:List Rec) (vs:List Verdict),(∀r,r∈cz l vs->r∈l)/\(cz l vs).length≤l.length
 | [],vs=>by cases vs<;>exact ⟨λr hr=>(by cases hr),Wt _⟩
 | r::l,[]=>⟨λr hr=>(by cases hr),Yd _⟩
 | r::l,v::vs=>by
  obtain ⟨h1,h2⟩:=oq l vs;unfold cz;split
  ·exact ⟨λx hx=>List.mem_cons_of_mem _ (h1 x hx),by simp;omega⟩
  ·refine ⟨λx hx=>?_,by simp;omega⟩
   rcases List.mem_cons.1 hx with rfl | hx
   ·exact List.mem_cons_self
   ·exact List.mem_cons_of_mem _ (h1 x hx)
theorem CY {B T:Nat} {u:U} (h:UInvF Fa B T u) (hF:Fa):UInvF Fa (B+20) T (lf u):=by
 have hlf:∀r,r∈u.c.log->ActFit r.act:=λr hr=>(h.cli.logS r hr).fit
 have hg:=rS h.srv.hist u.c.number hlf;have hl:=h.cli.log;have hs:=(h.srv.take u.c.number hlf).mono (show B+u.c.log.length≤B+20 by omega);obtain ⟨r1,r2⟩:=oq u.c.log (aL u);have hc:=(h.cli).mono (show B≤B+20 by omega) (Wt T);have hsub:((u.c.cache.filter λk=>!k.dirty).filter λk=>!bE (g_ u).tree k).Sublist u.c.cache:=List.filter_sublist.trans List.filter_sublist;have hin:∀k,k∈(u.c.cache.filter λk=>!k.dirty).filter (λk=>!bE (g_ u).tree k)->k.dirty=false/\k.node∈(g_ u).tree:=λk hk=>by
  obtain ⟨hk,hst⟩:=Wy.1 hk;obtain ⟨hk,hd⟩:=Wy.1 hk;have hd:k.dirty=false:=by simpa using hd
  exact ⟨hd,uD hg.hist ((h.cli.hst hF k hk hd).grow h.srv.hist hg) hd (show bE (g_ u).tree k=false by simpa using hst)⟩
 refine ⟨hs,?_⟩;exact { hc with
  nod:=h.cli.nod.sublist (hsub.map _)
  len:=by have:=hsub.length_le;have:=h.cli.len;show ((List.filter _ (u.c.cache.filter _)).length:Int)≤u.c.room;omega
  cX:=(Of.mem λk hk=>(hin k hk).2).cX hg.hist.bF.cX
  data:=λk hk=>h.cli.data k (hsub.subset hk)
  ent:=λk hk=>h.cli.ent k (hsub.subset hk)
  eup:=λk hk=>h.cli.eup k (hsub.subset hk)
  nam:=λk hk=>h.cli.nam k (hsub.subset hk)
  here:=λ_=>⟨rfl,hin⟩
  hst:=λ_ k hk _=>Hst.at hg.hist (hin k hk).2
  log:=Yd _
  logS:=λr hr=>by cases hr
  rep:=by have:=h.cli.rep;show (u.c.repair++_).length≤_;rw[List.length_append];omega
  repS:=λr hr=>by
   rcases List.mem_append.1 hr with hr | hr
   ·exact h.cli.repS r hr
   ·exact h.cli.logS r (r1 r hr) }
theorem vT {s:List UInt8} (h:(af s).2=0):s.length≤40:=by
 unfold af at h;split at h
 ·cases h
 ·omega
theorem BB {B T:Nat} {u:U} (h:UInvF Fa B T u) (path:List UInt8) (w:Int):UInvF Fa B T (dL u path w).u:=by
 unfold dL;split
 ·exact h
 ·rename_i hs;have hs:=vT (s:=path) z8;split
  ·exact h
  ·rename_i hw;split
   ·exact h
   ·rename_i hm;have hfl:=Wr (λh:Hoard=>!(h.path==path)) u.c.hoards;have h6:=h.cli.hoards;refine ⟨h.srv,?_⟩;have hc:=h.cli;exact { hc with
     hoards:=by
      show (if 0<w then ch u.c.hoards path++[⟨path,w⟩] else ch u.c.hoards path).length≤6
      split
      ·rename_i h0;have:¬(ch u.c.hoards path).length≥6:=λh1=>hm ⟨h0,h1⟩
       simp;omega
      ·exact YW hfl h6
     hoardS:=λx hx=>by
      have hx:x∈(if 0<w then ch u.c.hoards path++[⟨path,w⟩] else ch u.c.hoards path):=hx;split at hx
      ·rcases List.mem_append.1 hx with hx | hx
       ·exact h.cli.hoardS x (Wy.1 hx).1
       ·rw[List.mem_singleton.1 hx];exact ⟨hs,by show 1≤w/\w≤100;omega⟩
      ·exact h.cli.hoardS x (Wy.1 hx).1 }
theorem s_ {B T:Nat} {g:GotV} (h:UInvF Fa B T g.u) (x:Hoard):UInvF Fa B (T+42) (fb g x).u:=by
 have:=(bX x.path).1;exact (ku h (af x.path).1 x.worth).mono (Wt _) z8
theorem sZ {B:Nat}:∀(l:List Hoard) (T:Nat) (g:GotV),UInvF Fa B T g.u->UInvF Fa B (T+42*l.length) (l.foldl fb g).u
 | [],T,g,h=>h
 | x::l,T,g,h=>by
  have:=sZ l (T+42) (fb g x) (s_ h x);rw[show T+42+42*l.length=T+42*(x::l).length by simp;omega] at this;exact this
theorem zJ (l:List Hoard):∀w,(bq l w).length≤l.length:=λw=>by
 have key:∀w,(bq l w).length+(l.filter λh=>decide (h.worth>((w:Nat):Int))).length≤l.length:=λw=>by
  induction w with
  | zero=>rw[bq,List.length_nil,W8];exact Wr _ _
  | succ w ih=>
   rw[bq,List.length_append];have h1:∀m:List Hoard,(m.filter λh=>h.worth==((w+1:Nat):Int)).length+(m.filter λh=>decide (h.worth>((w+1:Nat):Int))).length≤(m.filter λh=>decide (h.worth>((w:Nat):Int))).length:=λm=>by
    induction m with
    | nil=>simp
    | cons x m ihm=>
     simp only[List.filter_cons]
     by_cases e1:x.worth=((w+1:Nat):Int)
     ·rw[if_pos (by simpa using e1),if_neg j0,if_pos j0];simp only[List.length_cons];omega
     ·rw[if_neg (by simpa using e1)]
      by_cases e2:x.worth>((w+1:Nat):Int)
      ·rw[if_pos Qr,if_pos j0];simp only[List.length_cons];omega
      ·rw[if_neg Qr,if_neg (by simp only[decide_eq_true_eq];omega)];exact ihm
   have:=h1 l;omega
 have:=key w;omega
theorem CH {B T:Nat} {u:U} (h:UInvF Fa B T u):UInvF Fa B (T+252) (eL u).u:=by
 have:=zJ u.c.hoards 100;have h6:=h.cli.hoards;exact (sZ (bq u.c.hoards 100) T ⟨0,u⟩ h).mono (Wt _) z8
theorem Cz {B T:Nat} {u:U} (h:UInvF Fa B T u) (x:Step) (hF:x.kind=8->Fa):UInvF Fa (B+20) (T+300) (av u x).u:=by
 have hm:=h.mono (show B≤B+20 by omega) (show T≤T+300 by omega);unfold av;split
 ·split
  ·exact hm
  ·have:=(bX x.path).1;exact (ku h (af x.path).1 0).mono z8 z8
 ·split
  ·exact (CO h x.path x.data).mono z8 z8
  ·split
   ·exact (BU h x.path).mono z8 z8
   ·split
    ·exact (zO h x.path).mono z8 z8
    ·split
     ·exact (DR h x.path x.toPath).mono z8 z8
     ·split
      ·exact ⟨hm.srv,{ hm.cli with here:=λh0=>by cases h0 }⟩
      ·split
       ·rename_i h8;exact (CY h (hF h8)).mono z8 z8
       ·split
        ·exact (BB h x.path x.n).mono z8 z8
        ·split
         ·split
          ·exact hm
          ·exact (CH h).mono z8 z8
         ·exact hm
theorem sL {B T:Nat} {u:U} (h:wc B T u) (x:Step):wc (B+20) (T+300) (av u x).u:=Cz h x λ_=>trivial
theorem FZ (u:U) (k:Kept):(gg u k).s=u.s:=by unfold gg;split<;>rfl
theorem rP (u:U) (f w:Int):(bb u f w).u.s=u.s:=by
 unfold bb;split
 ·rfl
 ·split
  ·rfl
  ·split
   ·rfl
   ·exact FZ _ _
theorem HD (w:Int):∀(l:List (List UInt8)) (g:Got),(goR w l g).u.s=g.u.s
 | [],g=>by unfold goR;split<;>rfl
 | s::r,g=>by
  unfold goR;split
  ·rfl
  ·split
   ·rfl
   ·split
    ·rfl
    ·rw[HD w r,rP]
theorem AW (u:U) (l:List (List UInt8)) (w:Int):(goU u l w).u.s=u.s:=by unfold goU;rw[HD,rP]
theorem gR (u:U) (path:List UInt8):(ai u path).u.s=u.s:=by
 unfold ai;split
 ·rfl
 ·split
  ·rfl
  ·exact AW _ _ _
theorem wg (u:U) (path:List UInt8):(atU u path).u.s=u.s:=by
 unfold atU;split
 ·exact gR _ _
 ·split
  ·exact gR _ _
  ·show (bb _ _ _).u.s=_;rw[rP,gR]
theorem yJ:∀(l:List Hoard) (g:GotV),(l.foldl fb g).u.s=g.u.s
 | [],_=>rfl
 | x::l,g=>by rw[List.foldl_cons,yJ l];exact AW _ _ _
theorem FT (u:U) (f w:Int):(bb u f w).u.c.number=u.c.number/\(bb u f w).u.c.room=u.c.room/\(bb u f w).u.c.away=u.c.away/\(bb u f w).u.c.log=u.c.log/\(bb u f w).u.c.repair=u.c.repair/\(bb u f w).u.c.hoards=u.c.hoards/\(bb u f w).u.c.made=u.c.made/\(bb u f w).u.c.logged=u.c.logged:=by
 unfold bb;split
 ·exact ⟨rfl,rfl,rfl,rfl,rfl,rfl,rfl,rfl⟩
 ·split
  ·exact ⟨rfl,rfl,rfl,rfl,rfl,rfl,rfl,rfl⟩
  ·split
   ·exact ⟨rfl,rfl,rfl,rfl,rfl,rfl,rfl,rfl⟩
   ·show (gg _ _).c.number=_/\_
    unfold gg;split<;>exact ⟨rfl,rfl,rfl,rfl,rfl,rfl,rfl,rfl⟩
structure Idle (u u':U):Prop where
 s:u'.s=u.s
 number:u'.c.number=u.c.number
 room:u'.c.room=u.c.room
 away:u'.c.away=u.c.away
 log:u'.c.log=u.c.log
 rep:u'.c.repair=u.c.repair
 hoards:u'.c.hoards=u.c.hoards
 made:u'.c.made=u.c.made
 logged:u'.c.logged=u.c.logged
theorem Idle.refl (u:U):Idle u u:=⟨rfl,rfl,rfl,rfl,rfl,rfl,rfl,rfl,rfl⟩
theorem Idle.trans {a b c:U} (h:Idle a b) (k:Idle b c):Idle a c:=⟨k.s.trans h.s,k.number.trans h.number,k.room.trans h.room,k.away.trans h.away,k.log.trans h.log,k.rep.trans h.rep,k.hoards.trans h.hoards,k.made.trans h.made,k.logged.trans h.logged⟩
theorem tT (u:U) (f w:Int):Idle u (bb u f w).u:=by
 obtain ⟨h1,h2,h3,h4,h5,h6,h7,h8⟩:=FT u f w;exact ⟨rP u f w,h1,h2,h3,h4,h5,h6,h7,h8⟩
theorem xg (w:Int):∀(l:List (List UInt8)) (g:Got),Idle g.u (goR w l g).u
 | [],g=>by unfold goR;split<;>exact Idle.refl _
 | s::r,g=>by
  unfold goR;split
  ·exact Idle.refl _
  ·split
   ·exact Idle.refl _
   ·split
    ·exact Idle.refl _
    ·exact (tT _ _ _).trans (xg w r _)
theorem Dp (u:U) (l:List (List UInt8)) (w:Int):Idle u (goU u l w).u:=(tT u 0 w).trans (xg w l _)
theorem I6 (u:U) (a:Act) (seen:Int):(pv u a seen).u.s=u.s:=by
 unfold pv;split
 ·rfl
 ·split
  ·rfl
  ·split<;>rfl
theorem jC {B T:Nat} {u:U} (h:wc B T u) {a:Act} (hs:ActS a) (seen:Int):Grown u.s (cY u a seen).u.s:=by
 unfold cY;split
 ·rw[I6];exact Grown.refl h.srv.hist
 ·unfold lh;split
  ·rename_i he;exact xj h.srv.hist u.c.number hs.fit he
  ·exact Grown.refl h.srv.hist
theorem grown_of {u u' v:U} (hi:u'.s=u.s) (h:Grown u'.s v.s):Grown u.s v.s:=by rw[hi] at h;exact h
theorem ur {B T:Nat} {g:Got} (h:wc B T g.u) {data:List UInt8} (hd:data.length≤20):Grown g.u.s (lu g data).u.s:=by
 unfold lu;split
 ·exact Grown.refl h.srv.hist
 ·exact jC h ⟨by simp[bZ],by simp[bZ],hd⟩ _
theorem eJ {B T:Nat} {u v:U} (h:wc B T u) (hs:v.s=u.s):Grown u.s v.s:=by rw[hs];exact Grown.refl h.srv.hist
theorem yV {B T:Nat} {u:U} (h:wc B T u) (path data:List UInt8):Grown u.s (cB u path data).u.s:=by
 have hd:=cw h path;have hn:=bI u path;unfold cB;split
 ·exact eJ h (gR u path)
 ·split
  ·exact eJ h (gR u path)
  ·split
   ·rename_i f _;exact grown_of (u':=(bb (ai u path).u f 0).u) (by rw[rP,gR]) (ur (bR hd f 0) z8)
   ·have ha:ActS (dy (ai u path).n.fid (ai u path).name):=⟨hn,by simp[dy],by simp[dy]⟩;have hg:=jC hd ha (-1);have hm:=jb hd ha (-1);split
    ·exact grown_of (gR u path) hg
    ·exact grown_of (gR u path) (hg.trans (grown_of (u':=(goU _ _ _).u) (AW _ _ _) (ur (ku hm (af path).1 0) z8)))
theorem Am {B T:Nat} {u:U} (h:wc B T u) (x:Step):Grown u.s (av u x).u.s:=by
 unfold av;split
 ·split
  ·exact Grown.refl h.srv.hist
  ·exact eJ h (AW _ _ _)
 ·split
  ·exact yV h _ _
  ·split
   ·unfold gm;split
    ·exact eJ h (gR _ _)
    ·exact grown_of (gR u x.path) (jC (cw h x.path) ⟨bI u x.path,by simp[hY],by simp[hY]⟩ (-1))
   ·split
    ·unfold bG;obtain ⟨hd,hn⟩:=qJ h x.path;split
     ·exact eJ h (wg _ _)
     ·exact grown_of (wg u x.path) (jC hd ⟨hn,by simp[cV],by simp[cV]⟩ _)
    ·split
     ·unfold dd;obtain ⟨hd,hn⟩:=qJ h x.path;split
      ·exact eJ h (wg _ _)
      ·split
       ·exact eJ h (by rw[gR,wg])
       ·exact grown_of (u':=(ai (atU u x.path).u x.toPath).u) (by rw[gR,wg]) (jC (cw hd x.toPath) ⟨hn,bI _ _,by simp[ep]⟩ _)
     ·split
      ·exact Grown.refl h.srv.hist
      ·split
       ·exact rS h.srv.hist u.c.number λr hr=>(h.cli.logS r hr).fit
       ·split
        ·unfold dL;split
         ·exact Grown.refl h.srv.hist
         ·split
          ·exact Grown.refl h.srv.hist
          ·split<;>exact Grown.refl h.srv.hist
        ·split
         ·split
          ·exact Grown.refl h.srv.hist
          ·exact eJ h (yJ _ _)
         ·exact Grown.refl h.srv.hist
structure WInv (B T:Nat) (w:Wor):Prop where
 srv:SrvOK B w.s
 cli:∀c,c∈w.cs->I' B T w.s c
 len:w.cs.length≤3
theorem WInv.at {B T:Nat} {w:Wor} (h:WInv B T w) {i:Nat} (hi:i<w.cs.length):wc B T ⟨w.cs.getD i default,w.s⟩:=⟨h.srv,h.cli _ (YG hi)⟩
theorem CM {B T:Nat} {w:Wor} (h:WInv B T w) (x:Step):WInv (B+20) (T+300) (cg w x).w:=by
 unfold cg;split
 ·exact ⟨h.srv.mono z8,λc hc=>(h.cli c hc).mono z8 z8,h.len⟩
 ·rename_i hx;have hi:x.client.toNat<w.cs.length:=by omega
  have hu:=h.at hi;have h1:=sL hu x;have h2:=Am hu x;refine ⟨h1.srv,λc hc=>?_,by simp;exact h.len⟩;obtain ⟨d,hd,rfl⟩:=Wq.1 hc
  rcases Yf hd with hd | rfl
  ·exact ((h.cli d hd).mono (Wt B) (show T≤T+300 by omega)).grow z8 h.srv.hist h2
  ·exact h1.cli.grow (Wt _) h1.srv.hist (Grown.refl h1.srv.hist)
theorem A1 {rooms:List Int} (h:bB rooms=0):WInv 0 0 (dp rooms):=by
 unfold bB at h;split at h
 ·cases h
 ·split at h
  ·rename_i hr hall;refine ⟨SrvOK.new,λc hc=>?_,by simp[dp,jX];omega⟩;obtain ⟨j,hj,rfl⟩:=Wq.1 hc;have hj:j<rooms.length:=YK.1 hj;have:=List.all_eq_true.1 hall (rooms.getD j 0) (by rw[Wi,Wj hj];exact YO hj);simp only[Bool.and_eq_true,decide_eq_true_eq] at this;exact CInvF.new 0 0 _ j _ this
  ·cases h
theorem rn:∀(l:List Step) {B T:Nat} {w:Wor},WInv B T w->WInv (B+20*l.length) (T+300*l.length) (l.foldl (λw x=>(cg w x).w) w)
 | [],_,_,_,h=>h
 | x::l,B,T,w,h=>by
  have:=rn l (CM h x);rw[show B+20+20*l.length=B+20*(x::l).length by simp;omega,show T+300+300*l.length=T+300*(x::l).length by simp;omega] at this;exact this
theorem Bo {rooms:List Int} (h:bB rooms=0) (l:List Step):WInv (20*l.length) (300*l.length) (HX rooms l):=by
 have:=rn l (A1 h)
 rwa [W8,W8] at this
end La
