/- Texts of this claim, part 19: Jud3, Take, PCli, PReach, PNm, PWor, PWor2. No condition. -/
import Derived.Test.YtdcmhdkpfllnlaaGreatDoorYC18
set_option maxRecDepth 10000
set_option maxHeartbeats 4000000
set_option linter.unusedSimpArgs false
set_option linter.unusedVariables false
namespace La
open Go Go.Eng Go.Proofs
theorem tf (m:List (Int×Bool)) (l:List Int) (x:Int):jF m (l++[x])=bx (jF m l) x true:=by
 unfold jF;rw[List.foldl_append];rfl
noncomputable def ra (l:List Node) (next version:Int) (log:List Rec) (i:Nat):JG:=(log.take i).foldl iE (iz l next version)
theorem uQ (l:List Node) (next version:Int) {log:List Rec} {i:Nat} (h:i<log.length):ra l next version log (i+1)=iE (ra l next version log i) (log.getD i default):=by
 unfold ra;rw[ZT h,List.foldl_append];rfl
theorem yo {p:List Past} {l:List Node} (h:Hist p l) (next:Int) {log:List Rec} (hl:∀r,r∈log->ActFit r.act) {i:Nat} (hi:i≤log.length):JInv p 0 i next (ra l next ((p.length+1:Nat):Int) log i):=by
 have:=JInv.qB h 0 next (log.take i) (λr hr=>hl r (YB hr))
 rw[YF,Yx hi] at this;exact this
def jgB (s:JG):List (Nat×Blk):=[(45,.cells 145 2 (s.vs.map ZV)),(72,.cells 88 7 (s.done.map ZA)),(29,.cells 224 6 [kU s.j]),(25,.map (mI s.j.own)),(26,.map (mB s.j.ours)),(27,.map (mB s.j.lost))]
theorem EC (p:List Past) (l:List Node) (next:Int) (log:List Rec) (h:Hist p l) (hp:p.length≤80000000) (hn:next.natAbs≤80000000) (hlog:SmallL log) (hl2:log.length≤2000000) (hfit:∀r,r∈log->ActFit r.act) :
  af Tryz.prog 119 [.sl (l.map ZN),.int .i64 next,.int .i64 ((p.length+1:Nat):Int),.sl (log.map ZR)] []
   (λr _=>r=.tup [.sl ((bL l next ((p.length+1:Nat):Int) log).vs.map ZV),.sl ((bL l next ((p.length+1:Nat):Int) log).done.map ZA),.sl ((bL l next ((p.length+1:Nat):Int) log).j.l.map ZN),.int .i64 (bL l next ((p.length+1:Nat):Int) log).j.next]):=by
 have how:=lg l h.bH.small;have hlo:=kr log hlog;have hfin:bL l next ((p.length+1:Nat):Int) log=ra l next ((p.length+1:Nat):Int) log log.length:=by unfold ra;rw[W2];rfl
 have hinv:=λi=>@yo p l h next log hfit i
 have hsucc:=λi=>@uQ l next ((p.length+1:Nat):Int) log i
 have hz:ra l next ((p.length+1:Nat):Int) log 0=iz l next ((p.length+1:Nat):Int):=rfl
 rw[hfin];generalize ra l next ((p.length+1:Nat):Int) log=st at *
 refine ZF tK (Tryz.func119) rfl (λC=>?_);simp only[Tryz.ntmps119,Tryz.results119,go_sem];refine wG tK ?_;refine wC Tryz.func54 (hf:=(how)) (hk:=?_);refine wG tK ?_;refine wC Tryz.func46 (hf:=(hlo)) (hk:=?_);refine wG tK ?_;refine ah (le_empty 72 88 7 z7) ?_;refine ah (le_empty 45 145 2 z7) ?_;simp only[go_sem];refine ZL (λi:Nat=>i≤log.length) (λi=>log.length-i) (λi=>(13,.osl 45 2 0 (st i).vs.length)::(14,.osl 72 7 0 (st i).done.length)::(16,.any)::(17,.any)::(18,.any)::(20,.any)::(33,.int .i64 i)::u0 34 40 []) (λi=>jgB (st i)) 0 z8 ?_ λi hi=>?_
 ·rw[hz];simp only[iz,jgB,kU,mI,mB];simp only[go_sem];exact ZU w3 w3 p9
 unfold jgB kU;simp only[go_sem];refine wG tK ?_;refine wD (λh=>?_) (λh=>?_)
 ·have hlt:i<log.length:=by simp at h;omega
  have hg:(log.map ZR).getD i []=ZR (log.getD i default):=Fam.getD hlt;have hv:=hinv i z8;have hf:=hfit _ (YG hlt);have hsc:=hsucc i hlt;clear hinv hsucc;generalize log.getD i default=r at *;have hnx:=hv.next;have hvs:=hv.vlen;have hdl:=hv.len;have hone:=Jj (st i).j r hv.hist.bH hf z8 (by have:=hv.version;omega);have hst:st (i+1)=(if (iv (st i).j r).err=0 then ⟨{ fm (st i).j r with ours:=jF (fm (st i).j r).ours (bU (jS (st i).j r)) },(st i).vs++[iv (st i).j r],(st i).done++[jS (st i).j r]⟩ else ⟨wm (fm (st i).j r) r.act.fid,(st i).vs++[iv (st i).j r],(st i).done⟩):=by
   rw[hsc];unfold iE iv;rfl
  unfold jH jB kU ZR at hone;clear hsc hv;generalize iv (st i).j r=V at *;generalize jS (st i).j r=A at *;generalize fm (st i).j r=J at *;have hfd:=vU A;have hf3:=fu A;have how':=wi1 (i:=i) z8;refine wGq tK ?_ ?_ n9
  ·simp[hg,ZR,hlt]
  refine ZZ 16 rfl (rfl) ?_;simp only[go_sem];refine wP [29,25,26,27] Tryz.func159 (hf:=(hone)) (hk:=?_);refine wGq tK ?_ ?_ (by simp only[go_sem,ZV,ZA];try exact rfl)
  ·simp[ZV,ZA,rowsOf];omega
  by_cases hE:V.err=0
  ·rw[if_pos hE] at hst;refine wDF (hb:=u2) (hk:=?_);refine wG tK ?_;unfold ZA at hfd;refine wC Tryz.func154 (hf:=(hfd)) (hk:=?_);refine wG tK ?_;refine ZL (λk:Nat=>k≤(bU A).length) (λk=>(bU A).length-k) (λk=>(20,.any)::(59,.int .i64 k)::u0 60 9 []) (λk=>[(26,.map (mB (jF J.ours ((bU A).take k))))]) 0 z8 ?_ λk hk=>?_
   ·simp only[go_sem];exact ZU w3 (by simp[go_sem,jF]) w3
   simp only[go_sem];refine wG tK ?_;refine wD (λh=>?_) (λh=>?_)
   ·have hlk:k<(bU A).length:=by simp at h;omega
    have hgk:((bU A).map ZI).getD k []=ZI ((bU A).getD k default):=Fam.getD hlk;have htk:jF J.ours ((bU A).take (k+1))=bx (jF J.ours ((bU A).take k)) ((bU A).getD k default) true:=by rw[ZT hlk,tf]
    have hwk:IntKind.i64.wrap ((k:Int)+1)=((k+1:Nat):Int):=by rw[Eng.wrap_small z8 z8];rfl
    generalize (bU A).getD k default=f at *;refine wGq tK ?_ ?_ WV
    ·simp[hgk,ZI,hlk,AV.jY,AV.bc]
    refine ZB ⟨k+1,by omega,by omega,ZU ?_ ?_ ?_⟩
    ·simp[go_sem]
    ·simp[go_sem,htk]
    ·simp[go_sem]
   ·have e:k=(bU A).length:=by simp at h;omega
    subst e;refine wGq tK ?_ ?_ (by simp only[go_sem,ZA,how'];try exact rfl)
    ·simp[ZA,rowsOf];omega
    refine ZB ⟨i+1,by omega,by omega,ZU ?_ ?_ ?_⟩
    ·simp[go_sem,hst]
    ·simp[go_sem,hst,jgB,kU,ZV,ZA,W2]
    ·simp[go_sem,hst]
  ·rw[if_neg hE] at hst;refine wDT (hb:=u2) (hk:=?_);refine wG tK ?_;refine ZW ZM ?_;refine ZS rfl ?_;refine sN tK 7 ?_;refine sE ?_;refine dS tK ?_;refine wKd ?_
   try simp only[go_sem,gA,gB,gC]
   refine wG tK ?_ j7 Q3;refine ZB ⟨i+1,by omega,by omega,ZU ?_ ?_ ?_⟩
   ·simp[go_sem,hst]
   ·simp[go_sem,hst,jgB,kU,wm,ZV]
   ·simp[go_sem,hst]
 ·have e:i=log.length:=by simp at h;omega
  subst e;refine wG tK ?_;refine ZW ZM ?_;refine ZS rfl ?_;refine sG tK ?_;refine sE ?_;refine wKd ?_
  try simp only[go_sem,gA,gB,gC]
  refine wG tK ?_;refine ZZ 45 rfl (lM _) ?_;simp only[go_sem];refine ZZ 72 rfl (qn _) ?_;simp only[go_sem];refine wT ?_;simp
def fG (s:Srv) (c:Int) (done:List Act) (i:Nat):List Past:=s.past++(done.take i).map λa=>⟨c,a⟩
theorem qM (s:Srv) (c:Int) {done:List Act} {i:Nat} (h:i<done.length):fG s c done (i+1)=fG s c done i++[⟨c,done.getD i default⟩]:=by
 unfold fG;rw[ZT h,List.map_append,Yk];rfl
theorem th (s:Srv) (c:Int) (done:List Act) {i:Nat} (h:i≤done.length):(fG s c done i).length=s.past.length+i:=by
 unfold fG;simp;omega
theorem Iy (s:Srv) (h:SrvOK 40000000 s) (c:Int) (log:List Rec) (hlog:SmallL log) (hl2:log.length≤2000000) (hfit:∀r,r∈log->ActFit r.act) :
  af Tryz.prog 72 [.agg (ZQ s),.int .i64 c,.sl (log.map ZR)] []
   (λr _=>r=.tup [.agg (ZQ (jK s c log)),.sl ((bL s.tree s.next ((s.past.length+1:Nat):Int) log).vs.map ZV)]):=by
 have hn:=h.next;have hlen:=h.len;have hsp:SmallP s.past:=⟨by omega,λp hp=>by
  obtain ⟨st,_,_,h3⟩:=h.hist.st;obtain ⟨i,hi⟩:=W8 hp;have hil:=(W3.1 hi).1;have:=(h3 i hil).2.1.data
  rwa [show s.past.getD i default=p by rw[Wv,hi];rfl] at this⟩
 have hv:=tM s z8;have hso:=zt s h.hist.bH.small hsp;have hj:=EC s.past s.tree s.next log h.hist z8 z8 hlog hl2 hfit;have hinv:=(JInv.qB h.hist c s.next log hfit).len;have hT:jK s c log=⟨(bL s.tree s.next ((s.past.length+1:Nat):Int) log).j.l,(bL s.tree s.next ((s.past.length+1:Nat):Int) log).j.next,fG s c (bL s.tree s.next ((s.past.length+1:Nat):Int) log).done (bL s.tree s.next ((s.past.length+1:Nat):Int) log).done.length⟩:=by
  unfold jK fG;rw[W2]
 rw[hT];clear hT;unfold ZQ at hv hso ⊢;generalize bL s.tree s.next ((s.past.length+1:Nat):Int) log=g at *;have hsu:=λi=>@qM s c g.done i
 have hle:=λi=>@th s c g.done i
 have hz:fG s c g.done 0=s.past:=by simp[fG]
 generalize fG s c g.done=P at *;refine ZF tK (Tryz.func72) rfl (λC=>?_);simp only[Tryz.ntmps72,Tryz.results72,go_sem];refine wG tK ?_;refine ZZ 3 rfl (rfl) ?_;simp only[go_sem];refine ZW ZM ?_;refine ZS rfl ?_;refine sN tK 5 ?_;refine sC Tryz.func96 (hf:=(hv)) (hk:=?_);refine sN tK 1 ?_;refine sC Tryz.func119 (hf:=(hj)) (hk:=?_);refine sG tK ?_;refine sE ?_;refine wKd ?_
 try simp only[go_sem,gA,gB,gC]
 refine wG tK ?_;refine wCG [] 18 Tryz.func25 (hf:=(hso)) (hk:=?_);refine wG tK ?_;refine ZL (λi:Nat=>i≤g.done.length) (λi=>g.done.length-i) (λi=>(14,.any)::(29,.any)::(36,.int .i64 i)::u0 37 12 [])
  (λi=>[(12,.cells 30 3 [[.sl (g.j.l.map ZN),.int .i64 g.j.next,.osl 46 8 0 (P i).length]]),(46,.cells 120 8 ((P i).map ZP))]) 0 z8 ?_ λi hi=>?_
 ·rw[hz];simp only[go_sem];exact ZU w3 w3 w3
 simp only[go_sem];refine wG tK ?_;refine wD (λh=>?_) (λh=>?_)
 ·have hlt:i<g.done.length:=by simp at h;omega
  have hg:(g.done.map ZA).getD i []=ZA (g.done.getD i default):=Fam.getD hlt;have hs1:=hsu i hlt;have hl1:=hle i z8;have how':=wi1 (i:=i) z8;generalize g.done.getD i default=a at *;generalize P i=Q at *;refine wR ?_;refine wNq tK 4 ?_ ?_ z6 z6 (by simp only[go_sem,hg,ZA];try exact rfl)
  ·simp[hg,ZA,hlt]
  refine wR ?_;refine wN tK 6 ?_;refine ah (bB 46 12 z6 j6) ?_;refine wGq tK ?_ ?_ j7
  ·simp[rowsOf,ZP];omega
  refine ZB ⟨i+1,by omega,by omega,ZU ?_ ?_ ?_⟩
  ·simp[go_sem]
  ·simp[go_sem,hs1,ZP,W2]
  ·simp[go_sem]
 ·have e:i=g.done.length:=by simp at h;omega
  subst e;refine wG tK ?_;refine ZZ 46 rfl (dX _) ?_;simp only[go_sem];refine wT ?_;simp
end La
namespace La
open Go Go.Eng
structure Hoard where
 path:List UInt8
 worth:Int
deriving DecidableEq,Inhabited
structure Cli where
 number:Int
 away:Bool
 room:Int
 cache:List Kept
 log:List Rec
 repair:List Rec
 hoards:List Hoard
 clock:Int
 made:Int
 logged:Int
deriving DecidableEq,Inhabited
structure U where
 c:Cli
 s:Srv
structure Step where
 kind:Int
 client:Int
 n:Int
 path:List UInt8
 toPath:List UInt8
 data:List UInt8
deriving DecidableEq,Inhabited
structure Reply where
 err:Int
 n:Int
 m:Int
 data:List UInt8
deriving DecidableEq,Inhabited
structure Wor where
 s:Srv
 cs:List Cli
def fU (fid worth clk:Int) (k:Kept):Kept:=if k.node.fid=fid then { k with last:=clk,worth:=mn k.worth worth } else k
def ck (u:U) (fid worth:Int):U:=⟨{ u.c with clock:=u.c.clock+1,cache:=u.c.cache.map (fU fid worth (u.c.clock+1)) },u.s⟩
def gz (u:U) (k:Kept):U:=match cD u.c.cache u.c.room k with
 | some l=>⟨{ u.c with cache:=l },u.s⟩
 | none=>u
def aF (l:List Kept) (fid:Int):Option Node:=(l.find? λk=>k.node.fid==fid).map (·.node)
structure Got where
 n:Node
 e:Int
 u:U
def aU (u:U) (fid worth:Int):Got:=match aF u.c.cache fid with
 | some n=>⟨n,0,ck u fid worth⟩
 | none=>if u.c.away=true then ⟨al,12,ck u fid worth⟩ else match ak u.s.tree fid with
  | none=>⟨al,6,ck u fid worth⟩
  | some n=>⟨n,0,gz (ck u fid worth) ⟨n,false,worth,u.c.clock+1⟩⟩
def goR (worth:Int):List (List UInt8)->Got->Got
 | [],g=>if g.e=0 then g else ⟨al,g.e,g.u⟩
 | s::r,g=>if g.e≠0 then ⟨al,g.e,g.u⟩ else if g.n.dir=false then ⟨al,8,g.u⟩ else match av g.n s with
  | none=>⟨al,6,g.u⟩
  | some f=>goR worth r (aU g.u f worth)
def goU (u:U) (l:List (List UInt8)) (worth:Int):Got:=goR worth l (aU u 0 worth)
structure GotD where
 n:Node
 name:List UInt8
 e:Int
 u:U
def ag (u:U) (path:List UInt8):GotD:=
 if (ae path).2≠0 then ⟨al,[],(ae path).2,u⟩
 else if (ae path).1.length=0 then ⟨al,[],7,u⟩
 else ⟨(goU u ((ae path).1.take ((ae path).1.length-1)) 0).n,(ae path).1.getD ((ae path).1.length-1) [],
  if (goU u ((ae path).1.take ((ae path).1.length-1)) 0).e=0/\(goU u ((ae path).1.take ((ae path).1.length-1)) 0).n.dir=false then 8 else (goU u ((ae path).1.take ((ae path).1.length-1)) 0).e,
  (goU u ((ae path).1.take ((ae path).1.length-1)) 0).u⟩
def eO (c:Cli) (a:Act):Act:=if aS a=true then { a with fid:=-1-c.made } else a
def ue (a:Act) (seen:Int):Int:=if aS a=true then -1 else seen
def bO (c:Cli):List Node:=kG (aQ c.cache)
def aJ (was:List Node) (a:Act) (n:Node):Bool:=!((match ak was n.fid with
 | some o=>cg false o n
 | none=>false)&&(a.kind != 3||n.fid != a.fid))
def dV (was:List Node) (clk:Int) (n:Node):Kept:=⟨{ n with version:=((ak was n.fid).getD al).version },true,0,clk⟩
def bJ (room clk:Int) (was:List Node) (a:Act):List Node->List Kept->Option (List Kept)
 | [],l=>some l
 | n::r,l=>if aJ was a n=true then (match cD l room (dV was clk n) with
  | none=>none
  | some l'=>bJ room clk was a r l') else bJ room clk was a r l
structure GotE where
 e:Int
 u:U
def E1 (c:Cli) (a:Act) (seen:Int):Option (List Rec):=dG c.log ⟨eO c a,ue a seen,c.logged+1⟩
noncomputable def gk (c:Cli) (a:Act):List Node:=aN (bO c) (eO c a) 0
noncomputable def rL (c:Cli) (a:Act):Option (List Kept):=bJ c.room c.clock (bO c) (eO c a) (gk c a) c.cache
noncomputable def lO (u:U) (a:Act) (seen:Int):GotE:=
 if aH (bO u.c) (eO u.c a)≠0 then ⟨aH (bO u.c) (eO u.c a),u⟩ else match E1 u.c a seen with
 | none=>⟨5,u⟩
 | some log=>match rL u.c a with
  | none=>⟨5,u⟩
  | some l=>⟨0,⟨{ u.c with cache:=l.filter (λk=>bg (gk u.c a) k.node.fid),log:=log,logged:=u.c.logged+1,made:=if aS a=true then u.c.made+1 else u.c.made },u.s⟩⟩
def nM (c:Cli) (t:List Node):Cli:={ c with cache:=c.cache.filter λk=>!bN t k }
noncomputable def fk (u:U) (a:Act):GotE:=if doE u.s a=0 then ⟨0,⟨nM u.c (doS u.s u.c.number a).tree,doS u.s u.c.number a⟩⟩ else ⟨doE u.s a,u⟩
noncomputable def bQ (u:U) (a:Act) (seen:Int):GotE:=if u.c.away=true then lO u a seen else fk u a
def cI (n:Node):Int:=if n.fid<0 then -1 else n.version
def bK (d:Int) (name:List UInt8):Act:=⟨1,0,d,name,0,[],[]⟩
def iD (d:Int) (name:List UInt8):Act:=⟨2,0,d,name,0,[],[]⟩
def aw (fid:Int) (data:List UInt8):Act:=⟨3,fid,0,[],0,[],data⟩
def da (fid d:Int) (name:List UInt8):Act:=⟨4,fid,d,name,0,[],[]⟩
def eK (fid d:Int) (name:List UInt8) (to:Int) (toName:List UInt8):Act:=⟨5,fid,d,name,to,toName,[]⟩
noncomputable def fH (g:Got) (data:List UInt8):GotE:=if g.e≠0 then ⟨g.e,g.u⟩ else bQ g.u (aw g.n.fid data) (cI g.n)
noncomputable def a_ (u:U) (path data:List UInt8):GotE:=
 if (ag u path).e≠0 then ⟨(ag u path).e,(ag u path).u⟩
 else if data.length>20 then ⟨4,(ag u path).u⟩
 else match av (ag u path).n (ag u path).name with
 | some f=>fH (aU (ag u path).u f 0) data
 | none=>if (bQ (ag u path).u (bK (ag u path).n.fid (ag u path).name) (-1)).e≠0 then bQ (ag u path).u (bK (ag u path).n.fid (ag u path).name) (-1)
  else fH (goU (bQ (ag u path).u (bK (ag u path).n.fid (ag u path).name) (-1)).u (ae path).1 0) data
noncomputable def eU (u:U) (path:List UInt8):GotE:=
 if (ag u path).e≠0 then ⟨(ag u path).e,(ag u path).u⟩ else bQ (ag u path).u (iD (ag u path).n.fid (ag u path).name) (-1)
structure GotP where
 d:Int
 name:List UInt8
 n:Node
 e:Int
 u:U
def atU (u:U) (path:List UInt8):GotP:=
 if (ag u path).e≠0 then ⟨0,[],al,(ag u path).e,(ag u path).u⟩
 else match av (ag u path).n (ag u path).name with
 | none=>⟨0,[],al,6,(ag u path).u⟩
 | some f=>⟨(ag u path).n.fid,(ag u path).name,(aU (ag u path).u f 0).n,(aU (ag u path).u f 0).e,(aU (ag u path).u f 0).u⟩
noncomputable def bt (u:U) (path:List UInt8):GotE:=
 if (atU u path).e≠0 then ⟨(atU u path).e,(atU u path).u⟩
 else bQ (atU u path).u (da (atU u path).n.fid (atU u path).d (atU u path).name) (cI (atU u path).n)
noncomputable def cR (u:U) (path to:List UInt8):GotE:=
 if (atU u path).e≠0 then ⟨(atU u path).e,(atU u path).u⟩
 else if (ag (atU u path).u to).e≠0 then ⟨(ag (atU u path).u to).e,(ag (atU u path).u to).u⟩
 else bQ (ag (atU u path).u to).u (eK (atU u path).n.fid (atU u path).d (atU u path).name (ag (atU u path).u to).n.fid (ag (atU u path).u to).name) (cI (atU u path).n)
def bW:List Rec->List Verdict->List Rec
 | r::l,v::vs=>if v.err=0 then bW l vs else r::bW l vs
 | _,_=>[]
def cc (vs:List Verdict):Nat:=(vs.filter λv=>v.err==0).length
noncomputable def ay (u:U):List Verdict:=(bL u.s.tree u.s.next ((u.s.past.length+1:Nat):Int) u.c.log).vs
noncomputable def gW (u:U):Srv:=jK u.s u.c.number u.c.log
noncomputable def fY (u:U):U:=
 ⟨{ u.c with away:=false,log:=[],repair:=u.c.repair++bW u.c.log (ay u),cache:=(u.c.cache.filter λk=>!k.dirty).filter λk=>!bN (gW u).tree k },gW u⟩
def cx (l:List Hoard) (path:List UInt8):List Hoard:=l.filter λh=>!(h.path==path)
def cY (u:U) (path:List UInt8) (worth:Int):GotE:=
 if (ae path).2≠0 then ⟨(ae path).2,u⟩ else if worth<0\/worth>100 then ⟨3,u⟩
 else if 0<worth/\(cx u.c.hoards path).length≥6 then ⟨5,u⟩
 else ⟨0,⟨{ u.c with hoards:=if 0<worth then cx u.c.hoards path++[⟨path,worth⟩] else cx u.c.hoards path },u.s⟩⟩
def bs (l:List Hoard):Nat->List Hoard
 | 0=>[]
 | w+1=>l.filter (λh=>h.worth==((w+1:Nat):Int))++bs l w
structure GotV where
 n:Nat
 u:U
def fp (g:GotV) (h:Hoard):GotV:=⟨if (goU g.u (ae h.path).1 h.worth).e=0 then g.n+1 else g.n,(goU g.u (ae h.path).1 h.worth).u⟩
def eZ (u:U):GotV:=(bs u.c.hoards 100).foldl fp ⟨0,u⟩
def ml (l:List Entry):List UInt8:=l.flatMap λe=>e.name++[10]
structure GotS where
 u:U
 r:Reply
def fQ (kind:Int) (g:Got):Reply:=
 if g.e≠0 then ⟨g.e,0,0,[]⟩
 else if kind=1 then (if g.n.dir=true then ⟨9,0,0,[]⟩ else ⟨0,0,0,g.n.data⟩)
 else if g.n.dir=true then ⟨0,0,0,ml g.n.entries⟩ else ⟨8,0,0,[]⟩
def cA (e:Int):Reply:=⟨e,0,0,[]⟩
noncomputable def ai (u:U) (x:Step):GotS:=
 if x.kind=1\/x.kind=2 then (if (ae x.path).2≠0 then ⟨u,cA (ae x.path).2⟩ else ⟨(goU u (ae x.path).1 0).u,fQ x.kind (goU u (ae x.path).1 0)⟩)
 else if x.kind=3 then ⟨(a_ u x.path x.data).u,cA (a_ u x.path x.data).e⟩
 else if x.kind=4 then ⟨(eU u x.path).u,cA (eU u x.path).e⟩
 else if x.kind=5 then ⟨(bt u x.path).u,cA (bt u x.path).e⟩
 else if x.kind=6 then ⟨(cR u x.path x.toPath).u,cA (cR u x.path x.toPath).e⟩
 else if x.kind=7 then ⟨⟨{ u.c with away:=true },u.s⟩,cA 0⟩
 else if x.kind=8 then ⟨fY u,⟨0,cc (ay u),((ay u).length-cc (ay u):Nat),[]⟩⟩
 else if x.kind=9 then ⟨(cY u x.path x.n).u,cA (cY u x.path x.n).e⟩
 else if x.kind=10 then (if u.c.away=true then ⟨u,cA 12⟩ else ⟨(eZ u).u,⟨0,(eZ u).n,0,[]⟩⟩)
 else ⟨u,cA 1⟩
structure GotW where
 w:Wor
 r:Reply
def f_ (t:List Node) (c:Cli):Cli:=if c.away=true then c else nM c t
noncomputable def gT (w:Wor) (x:Step):GotW:=
 if x.client<0\/x.client≥w.cs.length then ⟨w,cA 6⟩
 else ⟨⟨(ai ⟨w.cs.getD x.client.toNat default,w.s⟩ x).u.s,(w.cs.set x.client.toNat (ai ⟨w.cs.getD x.client.toNat default,w.s⟩ x).u.c).map (f_ (ai ⟨w.cs.getD x.client.toNat default,w.s⟩ x).u.s.tree)⟩,(ai ⟨w.cs.getD x.client.toNat default,w.s⟩ x).r⟩
def oR (number room:Int):Cli:=⟨number,false,room,[],[],[],[],0,0,0⟩
def b_ (rooms:List Int):Int:=if rooms.length<1\/3<rooms.length then 5 else if rooms.all (λn=>decide (3≤n)&&decide (n≤24)) then 0 else 3
def nC (rooms:List Int) (i:Nat):List Cli:=(List.range i).map λ(j:Nat)=>oR (j:Int) (rooms.getD j 0)
def JY:Srv:=⟨[gr],1,[]⟩
def ET (rooms:List Int):Wor:=⟨JY,nC rooms rooms.length⟩
noncomputable def vH (rooms:List Int) (l:List Step):Wor:=l.foldl (λw x=>(gT w x).w) (ET rooms)
theorem MReach.head {m:List (Int×Node)} {k:Int} {n:Node} {e:Entry} {t:Int} (hn:bl m k=some n) (he:e∈n.entries) (h:MReach m e.fid t):MReach m k t:=by
 induction h with
 | refl=>exact .step .refl hn he
 | step _ hn' he' ih=>exact .step ih hn' he'
theorem rf {l:List Node} (hu:Up l) {k t:Int} (h:MReach (bI l) k t):Reach l k t:=by
 induction h with
 | refl=>exact .refl _
 | step _ hn he ih=>
  rw[cm hu] at hn;obtain ⟨h1,h2⟩:=(ZO hu).1 hn;subst h2;exact Reach.tail h1 he ih
theorem ku {l:List Node} (hu:Up l) (t:Int):∀(f:Nat) (k:Int),bp l t f k=some true->MReach (bI l) k t
 | 0,_,h=>by cases h
 | f+1,k,h=>by
  rw[bp] at h;split at h
  ·rename_i e;rw[e];exact .refl
  ·cases e:ak l k with
   | none=>rw[e] at h;cases h
   | some n=>
    rw[e] at h;simp only at h;split at h
    ·injection h with h
     obtain ⟨x,hx,hx2⟩:=List.any_eq_true.1 h;rw[Bool.and_eq_true] at hx2;have h3:bp l t f x.fid=some true:=by
      have:=hx2.2;cases h4:bp l t f x.fid with
      | none=>rw[h4] at this;cases this
      | some b=>rw[h4] at this;exact congrArg some this
     exact MReach.head (by rw[cm hu];exact e) hx (ku hu t f x.fid h3)
    ·cases h
open Classical in
theorem Good.within {l:List Node} (h:Good l) (t k:Int):jN l t k=decide (MReach (bI l) k t):=by
 obtain ⟨f,hf⟩:=h.ends t k;obtain ⟨r,hr⟩:=h.dc
 by_cases hm:MReach (bI l) k t
 ·rw[decide_eq_true hm];exact px h.up hr (rf h.up hm) f _ hf
 ·rw[decide_eq_false hm];cases hb:jN l t k with
  | false=>rfl
  | true=>rw[hb] at hf;exact absurd (ku h.up t f k hf) hm
theorem Good.dp {l:List Node} (h:Good l) (a:Act):bD l a=La.dp l a:=by
 unfold bD La.dp;rw[h.within a.to a.fid]
theorem Good.db {l:List Node} (h:Good l) (a:Act) (v:Int):gp l a v=La.db l a v:=by
 unfold gp La.db;rw[h.dp a]
theorem Good.aH {l:List Node} (h:Good l) (a:Act):aB l a=La.aH l a:=by
 unfold aB La.aH;rw[h.dp a]
theorem Good.aN {l:List Node} (h:Good l) (a:Act) (v:Int):cy l a v=La.aN l a v:=by
 unfold cy La.aN;rw[h.db a v]
def NmE (l:List Entry):Prop:=∀e,e∈l->e.name.length≤40
structure Nm (l:List Node):Prop where
 up:Up l
 nm:∀n,n∈l->NmE n.entries
theorem NmE.nil:NmE []:=λ_ h=>by cases h
theorem uY {s:List UInt8} (h:cE s=true):s.length≤40:=by
 unfold cE at h;rw[Bool.and_eq_true,Bool.and_eq_true,decide_eq_true_eq,decide_eq_true_eq] at h;omega
theorem NmE.enter {l:List Entry} (h:NmE l) {s:List UInt8} (hs:cE s=true) (f:Int):NmE (bz l s f):=λe he=>by
 rcases nH he with rfl | he
 ·exact uY hs
 ·exact h e he
theorem NmE.leave {l:List Entry} (h:NmE l) (s:List UInt8):NmE (de l s):=λe he=>h e (kX he)
theorem Nm.find {l:List Node} (h:Nm l) (k:Int):NmE (ar l k).entries:=by
 unfold ar;cases e:ak l k with
 | none=>exact .nil
 | some n=>exact h.nm n ((ZO h.up).1 e).1
theorem Nm.put {l:List Node} (h:Nm l) {n:Node} (hn:NmE n.entries):Nm (aD l n):=
 ⟨(bn h.up n).1,λm hm=>by
  rcases fV hm with rfl | hm
  ·exact hn
  ·exact h.nm m hm⟩
theorem Nm.drop {l:List Node} (h:Nm l) (f:Int):Nm (eQ l f):=⟨(gX h.up f).1,λm hm=>h.nm m (((gX h.up f).2 m).1 hm).1⟩
theorem Nm.to {l:List Node} (h:Nm l) (a:Act):NmE (toN l a).entries:=by
 unfold toN;split
 ·exact (h.find _).leave _
 ·exact h.find _
theorem Nm.apply {l:List Node} (h:Nm l) (a:Act) (v:Int):Nm (cy l a v):=by
 have hmk:Nm (dQ l a v):=by
  unfold dQ;split
  ·rename_i he;unfold cQ at he;split at he
   ·split at he
    ·rename_i hr;refine (h.put ?_).put .nil;exact (h.find _).enter (dv hr).1 _
    ·rename_i hr;exact absurd he hr
   ·rename_i hr;exact absurd he hr
  ·exact h
 unfold cy;split
 ·exact hmk
 ·split
  ·exact hmk
  ·split
   ·unfold dg;split
    ·exact h.put (h.find _)
    ·exact h
   ·split
    ·unfold cO;split
     ·exact (h.put ((h.find _).leave _)).drop _
     ·exact h
    ·split
     ·unfold gp;split
      ·rename_i he;have hr:cf (toN l a) a.toName=0:=by
        unfold bD at he;split at he
        ·split at he
         ·split at he
          ·assumption
          ·rename_i hr;exact absurd he hr
         ·rename_i hr;exact absurd he hr
        ·rename_i hr;exact absurd he hr
       refine Nm.put ?_ ((h.to a).enter (dv hr).1 _);split
       ·exact h
       ·exact h.put ((h.find _).leave _)
      ·exact h
     ·exact h
theorem Wh.nm {l:List Node} (h:Wh l) {n:Node} (hn:n∈l):NmE n.entries:=λe he=>uY (h.name n.fid e.name e.fid ⟨n,hn,rfl,he⟩)
variable {Fa:Prop}
theorem uu {l:List Node} {a:Act} {v:Int} {n:Node} (he:aH l a=0) (h:n∈aN l a v):n.version=v\/n∈l:=by
 unfold aH at he;unfold aN at h;have hmk:n∈dQ l a v->n.version=v\/n∈l:=λh=>by
  unfold dQ at h;split at h
  ·rcases fV h with rfl | h
   ·exact .inl rfl
   ·rcases fV h with rfl | h
    ·exact .inl rfl
    ·exact .inr h
  ·exact .inr h
 split at h
 ·exact hmk h
 ·split at h
  ·exact hmk h
  ·split at h
   ·unfold dg at h;split at h
    ·rcases fV h with rfl | h
     ·exact .inl rfl
     ·exact .inr h
    ·exact .inr h
   ·split at h
    ·unfold cO at h;split at h
     ·rcases fV (W9.1 h).1 with rfl | h
      ·exact .inl rfl
      ·exact .inr h
     ·exact .inr h
    ·split at h
     ·unfold db at h;split at h
      ·rcases fV h with rfl | h
       ·exact .inl rfl
       ·split at h
        ·exact .inr h
        ·rcases fV h with rfl | h
         ·exact .inl rfl
         ·exact .inr h
      ·exact .inr h
     ·exact .inr h
theorem Hist.ver {p:List Past} {t:List Node} (h:Hist p t):∀n,n∈t->0≤n.version/\n.version≤(p.length:Int):=by
 induction h with
 | nil=>intro n hn;rw[List.mem_singleton.1 hn];simp[gr]
 | @snoc p t c a h ha he ih=>
  intro n hn;simp only[List.length_append,List.length_cons,List.length_nil]
  rcases uu he hn with h1 | h1
  ·rw[h1];omega
  ·have:=ih n h1;omega
theorem Hist.det {p:List Past} {t:List Node} (h:Hist p t):∀{t'},Hist p t'->t=t':=by
 induction h with
 | nil=>
  intro t' h';generalize hq:([]:List Past)=q at h';cases h' with
  | nil=>rfl
  | snoc c a _ _ _=>simp at hq
 | @snoc p t c a h ha he ih=>
  intro t' h';generalize hq:p++[⟨c,a⟩]=q at h';cases h' with
  | nil=>simp at hq
  | @snoc p2 t2 c2 a2 h2 _ _=>
   obtain ⟨h3,h4⟩:=List.append_inj' hq rfl;subst h3;injection h4 with h4
   injection h4 with h4 h5
   subst h5;rw[ih h2]
theorem Hist.back {p:List Past} {c:Int} {a:Act} {t':List Node} (h:Hist (p++[⟨c,a⟩]) t'):∃t,Hist p t/\aH t a=0/\t'=aN t a ((p.length+1:Nat):Int):=by
 generalize hq:p++[(⟨c,a⟩:Past)]=q at h;cases h with
 | nil=>simp at hq
 | @snoc p2 t2 c2 a2 h2 ha he=>
  obtain ⟨h3,h4⟩:=List.append_inj' hq rfl;subst h3;injection h4 with h4
  injection h4 with h4 h5
  subst h5;exact ⟨t2,h2,he,rfl⟩
def Hst (s:Srv) (n:Node):Prop:=n.version≤(s.past.length:Int)/\∀m,m∈s.tree->m.fid=n.fid->m.version=n.version->m=n
theorem Hst.at {s:Srv} (h:Hist s.past s.tree) {n:Node} (hn:n∈s.tree):Hst s n:=⟨(h.ver n hn).2,λ_ hm hf _=>pv h.bH.up hm hn hf⟩
theorem yc {p:List Past} {n:Node}:∀(q:List Past) {t t':List Node},Hist p t->Hist (p++q.reverse) t'->n.version≤(p.length:Int)->(∀m,m∈t->m.fid=n.fid->m.version=n.version->m=n) ->
  ∀m,m∈t'->m.fid=n.fid->m.version=n.version->m=n
 | [],t,t',h,h',_,hm=>by
  rw[List.reverse_nil,List.append_nil] at h';rw[←h.det h'];exact hm
 | x::q,t,t',h,h',hv,hm=>by
  rw[List.reverse_cons,←Yk] at h';obtain ⟨t2,h2,he,rfl⟩:=Hist.back (c:=x.client) (a:=x.act) h';have ih:=yc q h h2 hv hm;intro m hmm hf hver
  rcases uu he hmm with h3 | h3
  ·rw[h3] at hver;simp only[List.length_append,List.length_reverse] at hver;omega
  ·exact ih m h3 hf hver
structure Grown (s s':Srv):Prop where
 hist:Hist s'.past s'.tree
 past:∃q,s'.past=s.past++q
theorem Grown.refl {s:Srv} (h:Hist s.past s.tree):Grown s s:=⟨h,[],by simp⟩
theorem Grown.trans {a b c:Srv} (h:Grown a b) (k:Grown b c):Grown a c:=by
 obtain ⟨q,hq⟩:=h.past;obtain ⟨r,hr⟩:=k.past;exact ⟨k.hist,q++r,by rw[hr,hq,Yk]⟩
theorem Hst.grow {s s':Srv} (h:Hist s.past s.tree) (hg:Grown s s') {n:Node} (hn:Hst s n):Hst s' n:=by
 obtain ⟨q,hq⟩:=hg.past;have h1:=hg.hist;refine ⟨by rw[hq,List.length_append];have:=hn.1;omega,yc (p:=s.past) q.reverse h ?_ hn.1 hn.2⟩;rw[List.reverse_reverse,←hq];exact h1
theorem Dt {t:List Node} (hu:Up t) {k:Kept} (hd:k.dirty=false) (h:bN t k=false):∃n,n∈t/\n.fid=k.node.fid/\n.version=k.node.version:=by
 unfold bN at h;rw[hd,cL] at h;cases e:ak t k.node.fid with
 | none=>rw[e] at h;simp at h
 | some n=>
  rw[e] at h;simp only[Bool.not_false,Option.isSome_some,Bool.not_true,Option.getD_some,Yw,Bool.true_and,Bool.not_eq_false',beq_iff_eq] at h;obtain ⟨h1,h2⟩:=(ZO hu).1 e;exact ⟨n,h1,h2,h⟩
theorem vn {s:Srv} (hh:Hist s.past s.tree) {k:Kept} (hk:Hst s k.node) (hd:k.dirty=false) (h:bN s.tree k=false):k.node∈s.tree:=by
 obtain ⟨n,h1,h2,h3⟩:=Dt hh.bH.up hd h;rw[←hk.2 n h1 h2 h3];exact h1
structure ActS (a:Act):Prop where
 name:a.name.length≤40
 toName:a.toName.length≤40
 data:a.data.length≤20
theorem ActS.fit {a:Act} (h:ActS a):ActFit a:=⟨by have:=h.name;omega,by have:=h.toName;omega,by have:=h.data;omega⟩
structure HoardOK (h:Hoard):Prop where
 path:h.path.length≤40
 worth:1≤h.worth/\h.worth≤100
structure CInvF (Fa:Prop) (B T:Nat) (s:Srv) (c:Cli):Prop where
 room:3≤c.room/\c.room≤24
 nod:(c.cache.map λk=>k.node.fid).Nodup
 len:(c.cache.length:Int)≤c.room
 dc:∃r,lF r (aQ c.cache)
 data:∀k,k∈c.cache->k.node.data.length≤20
 ent:∀k,k∈c.cache->k.node.entries.length≤6
 eup:∀k,k∈c.cache->EUp k.node.entries
 nam:∀k,k∈c.cache->NmE k.node.entries
 here:c.away=false->c.log=[]/\∀k,k∈c.cache->k.dirty=false/\k.node∈s.tree
 hst:Fa->∀k,k∈c.cache->k.dirty=false->Hst s k.node
 log:c.log.length≤20
 logS:∀r,r∈c.log->ActS r.act
 rep:c.repair.length≤B
 repS:∀r,r∈c.repair->ActS r.act
 hoards:c.hoards.length≤6
 hoardS:∀h,h∈c.hoards->HoardOK h
 clock:0≤c.clock/\c.clock≤(T:Int)
 made:0≤c.made/\c.made≤(B:Int)
 logged:0≤c.logged/\c.logged≤(B:Int)
abbrev J3 (B T:Nat) (s:Srv) (c:Cli):Prop:=CInvF True B T s c
theorem CInvF.mono {B B' T T':Nat} {s:Srv} {c:Cli} (h:CInvF Fa B T s c) (hB:B≤B') (hT:T≤T'):CInvF Fa B' T' s c:=
 { h with rep:=Yl h.rep hB,clock:=⟨h.clock.1,by have:=h.clock.2;omega⟩,made:=⟨h.made.1,by have:=h.made.2;omega⟩,logged:=⟨h.logged.1,by have:=h.logged.2;omega⟩ }
theorem CInvF.new (B T:Nat) (s:Srv) (i room:Int) (h:3≤room/\room≤24):CInvF Fa B T s (oR i room) where
 room:=h
 nod:=List.Pairwise.nil
 len:=by simp[oR];omega
 dc:=⟨λ_=>0,λn hn=>by cases hn⟩
 data:=λk hk=>by cases hk
 ent:=λk hk=>by cases hk
 eup:=λk hk=>by cases hk
 nam:=λk hk=>by cases hk
 here:=λ_=>⟨rfl,λk hk=>by cases hk⟩
 hst:=λ_ k hk=>by cases hk
 log:=by simp[oR]
 logS:=λr hr=>by cases hr
 rep:=by simp[oR]
 repS:=λr hr=>by cases hr
 hoards:=by simp[oR]
 hoardS:=λr hr=>by cases hr
 clock:=by simp[oR]
 made:=by simp[oR]
 logged:=by simp[oR]
theorem uF {r:Int->Nat} {l m:List Node} (h:lF r l) (hs:∀n,n∈m->∃o,o∈l/\o.fid=n.fid/\o.entries=n.entries):lF r m:=λn hn e he=>by
 obtain ⟨o,h1,h2,h3⟩:=hs n hn;rw[←h3] at he;rw[←h2];exact h o h1 e he
theorem nS {l:List Kept} {n:Node}:n∈aQ l↔∃k,k∈l/\k.node=n:=by
 unfold aQ;exact W5
structure Of (t:List Node) (l:List Kept):Prop where
 each:∀k,k∈l->∃n,n∈t/\n.fid=k.node.fid/\n.dir=k.node.dir/\n.data=k.node.data/\n.entries=k.node.entries
theorem Of.dc {t:List Node} {l:List Kept} (h:Of t l) (hf:∃r,lF r t):∃r,lF r (aQ l):=by
 obtain ⟨r,hr⟩:=hf;refine ⟨r,uF hr λn hn=>?_⟩;obtain ⟨k,hk,rfl⟩:=nS.1 hn;obtain ⟨o,h1,h2,_,_,h5⟩:=h.each k hk;exact ⟨o,h1,h2,h5⟩
theorem Of.mem {t:List Node} {l:List Kept} (h:∀k,k∈l->k.node∈t):Of t l:=⟨λk hk=>⟨k.node,h k hk,rfl,rfl,rfl,rfl⟩⟩
structure UInvF (Fa:Prop) (B T:Nat) (u:U):Prop where
 srv:SrvOK B u.s
 cli:CInvF Fa B T u.s u.c
abbrev iF (B T:Nat) (u:U):Prop:=UInvF True B T u
theorem UInvF.mono {B B' T T':Nat} {u:U} (h:UInvF Fa B T u) (hB:B≤B') (hT:T≤T'):UInvF Fa B' T' u:=⟨h.srv.mono hB,h.cli.mono hB hT⟩
theorem kg (f w c:Int) (k:Kept):(fU f w c k).node=k.node:=by unfold fU;split<;>rfl
theorem Ai (f w c:Int) (k:Kept):(fU f w c k).dirty=k.dirty:=by unfold fU;split<;>rfl
theorem jh {l:List Kept} {f w c:Int} {k:Kept} (h:k∈l.map (fU f w c)):∃x,x∈l/\x.node=k.node/\x.dirty=k.dirty:=by
 obtain ⟨x,hx,rfl⟩:=W5.1 h;exact ⟨x,hx,(kg _ _ _ _).symm,(Ai _ _ _ _).symm⟩
theorem uV (l:List Kept) (f w c:Int):(l.map (fU f w c)).map (λk=>k.node.fid)=l.map λk=>k.node.fid:=by
 rw[Yc];exact Ye λk _=>by simp[kg]
theorem sY (l:List Kept) (f w c:Int):aQ (l.map (fU f w c))=aQ l:=by
 unfold aQ;rw[Yc];exact Ye λk _=>by simp[kg]
theorem oN {B T:Nat} {u:U} (h:UInvF Fa B T u) (f w:Int):UInvF Fa B (T+1) (ck u f w):=by
 obtain ⟨hs,h⟩:=h;refine ⟨hs,?_⟩;exact { h with
  nod:=by show (List.map _ (u.c.cache.map _)).Nodup;rw[uV];exact h.nod
  len:=by show ((List.map _ u.c.cache).length:Int)≤_;rw[List.length_map];exact h.len
  dc:=by show ∃r,lF r (aQ (u.c.cache.map _));rw[sY];exact h.dc
  data:=λk hk=>by obtain ⟨x,hx,h1,_⟩:=jh hk;rw[←h1];exact h.data x hx
  ent:=λk hk=>by obtain ⟨x,hx,h1,_⟩:=jh hk;rw[←h1];exact h.ent x hx
  eup:=λk hk=>by obtain ⟨x,hx,h1,_⟩:=jh hk;rw[←h1];exact h.eup x hx
  nam:=λk hk=>by obtain ⟨x,hx,h1,_⟩:=jh hk;rw[←h1];exact h.nam x hx
  here:=λha=>⟨(h.here ha).1,λk hk=>by obtain ⟨x,hx,h1,h2⟩:=jh hk;rw[←h1,←h2];exact (h.here ha).2 x hx⟩
  hst:=λhF k hk hd=>by obtain ⟨x,hx,h1,h2⟩:=jh hk;rw[←h1];exact h.hst hF x hx (h2.trans hd)
  clock:=by have:=h.clock;show 0≤u.c.clock+1/\u.c.clock+1≤((T+1:Nat):Int);omega }
theorem yp {l:List Kept} {f:Int} (h:cj l f=none):∀x,x∈l->x.node.fid≠f:=λx hx e=>by
 have:=YK.1 h x hx;simp[e] at this
theorem CG {l:List Kept} {f:Int} {i:Nat} (h:cj l f=some i):i<l.length/\(l.getD i default).node.fid=f:=by
 obtain ⟨h1,h2,_⟩:=YM.1 h;exact ⟨h1,by rw[Wv,Ww h1];exact of_decide_eq_true h2⟩
theorem gu {room:Int}:∀(f:Nat) (l L:List Kept),bZ room f l=some L->L.Sublist l
 | 0,l,L,h=>by rw[bZ] at h;injection h with h;subst h;exact List.Sublist.refl _
 | f+1,l,L,h=>by
  rw[bZ] at h;split at h
  ·split at h
   ·cases h
   ·exact (gu f _ L h).trans (List.eraseIdx_sublist _ _)
  ·injection h with h;subst h;exact List.Sublist.refl _
theorem qP {room:Int} (hr:1≤room):∀(f:Nat) (l L:List Kept),bZ room f l=some L->l.length<f->(L.length:Int)<room
 | 0,l,L,h,hf=>by omega
 | f+1,l,L,h,hf=>by
  rw[bZ] at h;split at h
  ·rename_i hge;split at h
   ·cases h
   ·rename_i i hw;have hi:i<l.length:=fL l l.length i hw;exact qP hr f _ L h (by rw[List.length_eraseIdx,if_pos hi];omega)
  ·injection h with h;subst h;omega
structure Kp (l:List Kept) (room:Int) (k:Kept) (L:List Kept):Prop where
 mem:∀x,x∈L->(x∈l/\x.node.fid≠k.node.fid)\/(x.node=k.node/\x.dirty=k.dirty)
 nod:(L.map λx=>x.node.fid).Nodup
 len:(L.length:Int)≤room
 has:∃x,x∈L/\x.node=k.node/\x.dirty=k.dirty
theorem yL {l:List Kept} (h:(l.map λx=>x.node.fid).Nodup) {i j:Nat} {a b:Kept} (ha:l[i]? = some a) (hb:l[j]? = some b) (hf:a.node.fid=b.node.fid):i=j:=by
 have h1:=W3.1 ha;have h2:=W3.1 hb;obtain ⟨hi,h1⟩:=h1;obtain ⟨hj,h2⟩:=h2;refine (List.getElem_inj (xs:=l.map λx=>x.node.fid) (i:=i) (j:=j) (h₀:=WR) (h₁:=QI) h).1 ?_;rw[List.getElem_map,List.getElem_map,h1,h2,hf]
theorem Fo {l:List Kept} {i:Nat} {k:Kept} (hi:i<l.length) (hf:(l.getD i default).node.fid=k.node.fid):(l.set i k).map (λx=>x.node.fid)=l.map λx=>x.node.fid:=by
 rw[List.map_set];refine List.ext_getElem? λj=>?_
 rw[YV];split
 ·rename_i e;subst e;rw[Wz,Ww hi];rw[Wv,Ww hi] at hf;simp only[List.length_map,hi,if_true,Option.map_some];exact congrArg some hf.symm
 ·rfl
theorem sP {l L:List Kept} {room:Int} {k:Kept} (hr:1≤room) (hn:(l.map λx=>x.node.fid).Nodup) (hl:(l.length:Int)≤room) (h:cD l room k=some L):Kp l room k L:=by
 unfold cD at h;cases e:cj l k.node.fid with
 | some i=>
  rw[e] at h;injection h with h
  subst h;obtain ⟨hi,hf⟩:=CG e;refine ⟨λx hx=>?_,?_,by rw[Yi];exact hl,⟨{ k with worth:=mn k.worth (l.getD i default).worth },List.mem_iff_getElem.2 ⟨i,by simpa using hi,by simp⟩,rfl,rfl⟩⟩
  ·obtain ⟨j,hj⟩:=W8 hx;rw[YV] at hj;split at hj
   ·rename_i e2;subst e2;simp only[hi,if_true,Option.some.injEq] at hj;exact .inr ⟨by rw[←hj],by rw[←hj]⟩
   ·rename_i hne;refine .inl ⟨W1 hj,λhxf=>hne ?_⟩;refine yL hn (Ww hi) hj ?_;rw[Wv,Ww hi] at hf;exact hf.trans hxf.symm
  ·rw[Fo hi (by exact hf)];exact hn
 | none=>
  rw[e] at h;obtain ⟨L0,h0,rfl⟩:=YI.1 h;have h1:=gu _ _ _ h0;have h2:=qP hr _ _ _ h0 (Nat.lt_succ_self _);have hno:=yp e;refine ⟨λx hx=>?_,?_,by rw[List.length_append];simp;omega,⟨k,by simp,rfl,rfl⟩⟩
  ·rcases List.mem_append.1 hx with hx | hx
   ·exact .inl ⟨h1.subset hx,hno x (h1.subset hx)⟩
   ·rw[List.mem_singleton.1 hx];exact .inr ⟨rfl,rfl⟩
  ·rw[List.map_append,List.nodup_append];refine ⟨hn.sublist (h1.map _),by simp,λa ha b hb=>?_⟩;obtain ⟨x,hx,rfl⟩:=W5.1 ha;simp only[List.map_cons,List.map_nil,List.mem_singleton] at hb;rw[hb];exact hno x (h1.subset hx)
theorem CInvF.within {B T:Nat} {s:Srv} {c:Cli} (h:CInvF Fa B T s c) (hh:Hist s.past s.tree) {L:List Kept} (hn:(L.map λk=>k.node.fid).Nodup) (hl:(L.length:Int)≤c.room) (hm:∀k,k∈L->k.dirty=false/\k.node∈s.tree):CInvF Fa B T s { c with cache:=L }:=
 { h with
  nod:=hn
  len:=hl
  dc:=(Of.mem λk hk=>(hm k hk).2).dc hh.bH.dc
  data:=λk hk=>hh.bH.data _ (hm k hk).2
  ent:=λk hk=>hh.bH.ent _ (hm k hk).2
  eup:=λk hk=>(hh.whole.loc _ (hm k hk).2).eup
  nam:=λk hk=>hh.whole.nm (hm k hk).2
  here:=λha=>⟨(h.here ha).1,hm⟩
  hst:=λ_ k hk _=>Hst.at hh (hm k hk).2 }
theorem CD {B T:Nat} {u:U} (h:UInvF Fa B T u) (ha:u.c.away=false) {n:Node} (hn:n∈u.s.tree) (w c:Int):UInvF Fa B T (gz u ⟨n,false,w,c⟩):=by
 unfold gz;split
 ·rename_i l hl;have hk:=sP (by have:=h.cli.room;omega) h.cli.nod h.cli.len hl;refine ⟨h.srv,h.cli.within h.srv.hist hk.nod hk.len λx hx=>?_⟩
  rcases hk.mem x hx with ⟨h1,_⟩ | ⟨h1,h2⟩
  ·exact (h.cli.here ha).2 x h1
  ·exact ⟨h2,by rw[h1];exact hn⟩
 ·exact h
theorem bA {B T:Nat} {u:U} (h:UInvF Fa B T u) (f w:Int):UInvF Fa B (T+1) (aU u f w).u:=by
 unfold aU;split
 ·exact oN h f w
 ·split
  ·exact oN h f w
  ·rename_i ha;split
   ·exact oN h f w
   ·rename_i n hn;exact CD (oN h f w) (show u.c.away=false by simpa using ha) ((ZO h.srv.hist.bH.up).1 hn).1 w _
theorem BS {B:Nat} (w:Int):∀(l:List (List UInt8)) (T:Nat) (g:Got),UInvF Fa B T g.u->UInvF Fa B (T+l.length) (goR w l g).u
 | [],T,g,h=>by unfold goR;split<;>exact h
 | s::r,T,g,h=>by
  unfold goR;have hm:UInvF Fa B (T+(s::r).length) g.u:=h.mono (W7 _) y8;split
  ·exact hm
  ·split
   ·exact hm
   ·split
    ·exact hm
    ·rename_i f _;have:=BS w r (T+1) (aU g.u f w) (bA h f w)
     rwa [show T+1+r.length=T+(s::r).length by simp;omega] at this
theorem iJ {B T:Nat} {u:U} (h:UInvF Fa B T u) (l:List (List UInt8)) (w:Int):UInvF Fa B (T+1+l.length) (goU u l w).u:=BS w l (T+1) _ (bA h 0 w)
theorem bR (s:List UInt8):(ae s).1.length≤41/\∀x,x∈(ae s).1->x.length≤40/\cE x=true:=by
 unfold ae;split
 ·simp
 ·rename_i h1;split
  ·simp
  ·split
   ·simp
   ·split
    ·rename_i h4;have h2:=rA 47 (s.drop 1);have h5:(s.drop 1).length=s.length-1:=YY;refine ⟨by show (dd 47 (s.drop 1)).length≤41;omega,λx hx=>⟨?_,List.all_eq_true.1 h4 x hx⟩⟩;have h3:=mR 47 (s.drop 1) x hx;omega
    ·simp
theorem ch {B T:Nat} {u:U} (h:UInvF Fa B T u) (path:List UInt8):UInvF Fa B (T+42) (ag u path).u:=by
 unfold ag;split
 ·exact h.mono (W7 _) z8
 ·split
  ·exact h.mono (W7 _) z8
  ·refine (iJ h _ 0).mono (W7 _) ?_;have:=(bR path).1;simp only[YF];omega
theorem bF (u:U) (path:List UInt8):(ag u path).name.length≤40:=by
 unfold ag;split
 ·simp
 ·split
  ·simp
  ·rename_i h;refine ((bR path).2 _ ?_).1;have hi:(ae path).1.length-1<(ae path).1.length:=by omega
   rw[Wv,Ww hi];exact Yb hi
variable {Fa:Prop}
theorem nL {l:List Node} (h:(l.map (·.fid)).Nodup):∀i,i<l.length->∀j,j<i->gw l j≠gw l i:=λi hi j hj e=>by
 unfold gw at e;rw[Wv,Wv,Ww hi,Ww (show j<l.length by omega)] at e;have:=(List.getElem_inj (xs:=l.map (·.fid)) (i:=j) (j:=i) (h₀:=j0) (h₁:=WR) h).1 (by rw[List.getElem_map,List.getElem_map];exact e);omega
theorem jE (l:List Kept):(aQ l).map (·.fid)=l.map λk=>k.node.fid:=by unfold aQ;rw[Yc];rfl
theorem ob {l:List Kept} (h:(l.map λk=>k.node.fid).Nodup):rU l=true:=by
 refine decide_eq_true λi hi j hj=>?_
 have:=nL (l:=aQ l) (by rw[jE];exact h) i (by simpa[aQ] using hi) j hj;have hf:∀i,i<l.length->gw (aQ l) i=xN l i:=λi hi=>by
  unfold gw xN aQ;rw[Wv,Wv,Wz,Ww hi];rfl
 rwa [hf j z8,hf i hi] at this
theorem ey {c:Cli} (h:(c.cache.map λk=>k.node.fid).Nodup) (x:Node):x∈bO c↔∃k,k∈c.cache/\k.node=x:=by
 unfold bO;rw[vj _ (nL (by rw[jE];exact h)),nS]
theorem ij (c:Cli):Up (bO c):=nZ _
theorem Dy {c:Cli} (h:(c.cache.map λk=>k.node.fid).Nodup):(bO c).length=c.cache.length:=by
 unfold bO;rw[vh _ (nL (by rw[jE];exact h))];simp[aQ]
theorem CInvF.bH {B T:Nat} {s:Srv} {c:Cli} (h:CInvF Fa B T s c):Good (bO c) where
 up:=ij c
 dc:=by
  obtain ⟨r,hr⟩:=h.dc;exact ⟨r,uF hr λn hn=>by
   obtain ⟨k,hk,rfl⟩:=(ey h.nod n).1 hn;exact ⟨k.node,nS.2 ⟨k,hk,rfl⟩,rfl,rfl⟩⟩
 len:=by rw[Dy h.nod];have:=h.len;have:=h.room;omega
 data:=λn hn=>by obtain ⟨k,hk,rfl⟩:=(ey h.nod n).1 hn;exact h.data k hk
 ent:=λn hn=>by obtain ⟨k,hk,rfl⟩:=(ey h.nod n).1 hn;exact h.ent k hk
theorem CInvF.ri {B T:Nat} {s:Srv} {c:Cli} (h:CInvF Fa B T s c):Ri (bO c):=⟨ij c,λn hn=>by
 obtain ⟨k,hk,rfl⟩:=(ey h.nod n).1 hn;exact h.eup k hk⟩
theorem CInvF.nmT {B T:Nat} {s:Srv} {c:Cli} (h:CInvF Fa B T s c):Nm (bO c):=⟨ij c,λn hn=>by
 obtain ⟨k,hk,rfl⟩:=(ey h.nod n).1 hn;exact h.nam k hk⟩
theorem nQ {room clk:Int} (hr:1≤room) {was:List Node} {a:Act}:∀(N:List Node) {l L:List Kept},(l.map λx=>x.node.fid).Nodup->(l.length:Int)≤room->bJ room clk was a N l=some L ->
  (L.map λx=>x.node.fid).Nodup/\(L.length:Int)≤room/\∀x,x∈L->(x∈l/\∀n,n∈N->aJ was a n=true->n.fid≠x.node.fid)\/∃n,n∈N/\aJ was a n=true/\x.node=(dV was clk n).node/\x.dirty=true
 | [],l,L,hn,hl,h=>by
  rw[bJ] at h;injection h with h
  subst h;exact ⟨hn,hl,λx hx=>.inl ⟨hx,λn hn=>by cases hn⟩⟩
 | n::r,l,L,hn,hl,h=>by
  rw[bJ] at h;split at h
  ·rename_i hc;split at h
   ·cases h
   ·rename_i l' hk;have hp:=sP hr hn hl hk;obtain ⟨h1,h2,h3⟩:=nQ hr r hp.nod hp.len h;refine ⟨h1,h2,λx hx=>?_⟩
    rcases h3 x hx with ⟨h4,h5⟩ | ⟨m,h4,h5⟩
    ·rcases hp.mem x h4 with ⟨h6,h7⟩ | ⟨h6,h7⟩
     ·refine .inl ⟨h6,λm hm hcm=>?_⟩
      rcases List.mem_cons.1 hm with rfl | hm
      ·exact λe=>h7 e.symm
      ·exact h5 m hm hcm
     ·exact .inr ⟨n,List.mem_cons_self,hc,h6,h7⟩
    ·exact .inr ⟨m,List.mem_cons_of_mem _ h4,h5⟩
  ·rename_i hc;obtain ⟨h1,h2,h3⟩:=nQ hr r hn hl h;refine ⟨h1,h2,λx hx=>?_⟩
   rcases h3 x hx with ⟨h4,h5⟩ | ⟨m,h4,h5⟩
   ·refine .inl ⟨h4,λm hm hcm=>?_⟩
    rcases List.mem_cons.1 hm with rfl | hm
    ·exact absurd hcm hc
    ·exact h5 m hm hcm
   ·exact .inr ⟨m,List.mem_cons_of_mem _ h4,h5⟩
theorem zS {l L:List Rec} {r:Rec} (hl:l.length≤20) (h:dG l r=some L):L.length≤20/\∀x,x∈L->x∈l\/x=r:=by
 unfold dG at h;split at h
 ·injection h with h
  subst h;exact ⟨Yl (W6 _ _) hl,λx hx=>.inl (W9.1 hx).1⟩
 ·split at h
  ·cases h
  ·rename_i hlt;injection h with h
   subst h;refine ⟨by simp;omega,λx hx=>?_⟩
   rcases List.mem_append.1 hx with hx | hx
   ·exact .inl ((lD l r).subset hx)
   ·exact .inr (List.mem_singleton.1 hx)
theorem zg {a b:Node} (h:cg false a b=true):a.fid=b.fid/\a.dir=b.dir/\a.data=b.data/\a.entries=b.entries:=by
 unfold cg at h;simp only[Bool.and_eq_true,beq_iff_eq,decide_eq_true_eq] at h;exact ⟨h.1.1.1.1,h.1.1.1.2,h.1.1.2,h.1.2⟩
theorem xu {was:List Node} {a:Act} {n:Node} (h:aJ was a n≠true):∃o,ak was n.fid=some o/\cg false o n=true:=by
 unfold aJ at h;cases e:ak was n.fid with
 | none=>rw[e] at h;simp at h
 | some o=>
  rw[e] at h;refine ⟨o,rfl,?_⟩;simp only[Bool.not_eq_true,Bool.not_eq_false',Bool.and_eq_true] at h;exact h.1
theorem AM {c:Cli} {a:Act} (h:ActS a):ActS (eO c a):=by unfold eO;split;exact ⟨h.name,h.toName,h.data⟩;exact h
theorem Jk {B T:Nat} {s:Srv} {c:Cli} (h:CInvF Fa B T s c) {a:Act} (he:aH (bO c) (eO c a)=0) {L:List Kept} (hL:rL c a=some L) :
  let L':=L.filter λk=>bg (gk c a) k.node.fid
  (L'.map λx=>x.node.fid).Nodup/\(L'.length:Int)≤c.room/\Of (gk c a) L'/\∀x,x∈L'->x.dirty=false->x∈c.cache:=by
 intro L';obtain ⟨h1,h2,h3⟩:=nQ (by have:=h.room;omega) _ h.nod h.len hL;have hg:=fF h.bH (eO c a) 0 he;refine ⟨h1.sublist ((Y1).map _),?_,⟨λx hx=>?_⟩,λx hx hd=>?_⟩
 ·have:=W6 (λk:Kept=>bg (gk c a) k.node.fid) L
  show ((L.filter _).length:Int)≤_
  omega
 ·obtain ⟨hx,hat⟩:=W9.1 hx
  rcases h3 x hx with ⟨h4,h5⟩ | ⟨n,h4,h5,h6,h7⟩
  ·rw[cL] at hat;obtain ⟨m,hm⟩:=Yf.1 hat;obtain ⟨hm,hmf⟩:=(ZO hg.up).1 hm;have hno:aJ (bO c) (eO c a) m≠true:=λhc=>h5 m hm hc hmf
   obtain ⟨o,ho,hs⟩:=xu hno;have hx2:ak (bO c) m.fid=some x.node:=(ZO (ij c)).2 ⟨(ey h.nod _).2 ⟨x,h4,rfl⟩,hmf.symm⟩;rw[hx2] at ho;injection ho with ho
   subst ho;obtain ⟨k1,k2,k3,k4⟩:=zg hs;exact ⟨m,hm,hmf,k2.symm,k3.symm,k4.symm⟩
  ·exact ⟨n,h4,by rw[h6];rfl,by rw[h6];rfl,by rw[h6];rfl,by rw[h6];rfl⟩
 ·obtain ⟨hx,_⟩:=W9.1 hx
  rcases h3 x hx with ⟨h4,_⟩ | ⟨n,_,_,_,h7⟩
  ·exact h4
  ·rw[hd] at h7;cases h7
theorem Hf {B T:Nat} {u:U} (h:UInvF Fa B T u) (ha:u.c.away=true) {a:Act} (hs:ActS a) (seen:Int):UInvF Fa (B+1) T (lO u a seen).u:=by
 have hm:=h.mono (Nat.le_succ B) (W7 T);unfold lO;split
 ·exact hm
 ·rename_i he;have he:aH (bO u.c) (eO u.c a)=0:=by omega
  split
  ·exact hm
  ·rename_i log hlog;split
   ·exact hm
   ·rename_i L hL;obtain ⟨h1,h2,h3,h4⟩:=Jk h.cli he hL;have hg:=fF h.cli.bH (eO u.c a) 0 he;have hri:Ri (gk u.c a):=by unfold gk;rw[←h.cli.bH.aN];exact h.cli.ri.apply _ _
    have hnm:Nm (gk u.c a):=by unfold gk;rw[←h.cli.bH.aN];exact h.cli.nmT.apply _ _
    obtain ⟨g1,g2⟩:=zS h.cli.log hlog;refine ⟨hm.srv,?_⟩;have hc:=hm.cli;exact { hc with
     nod:=h1
     len:=h2
     dc:=h3.dc hg.dc
     data:=λk hk=>by obtain ⟨n,k1,_,_,k2,_⟩:=h3.each k hk;rw[←k2];exact hg.data n k1
     ent:=λk hk=>by obtain ⟨n,k1,_,_,_,k2⟩:=h3.each k hk;rw[←k2];exact hg.ent n k1
     eup:=λk hk=>by obtain ⟨n,k1,_,_,_,k2⟩:=h3.each k hk;rw[←k2];exact hri.eup n k1
     nam:=λk hk=>by obtain ⟨n,k1,_,_,_,k2⟩:=h3.each k hk;rw[←k2];exact hnm.nm n k1
     here:=λh0=>by simp only[ha] at h0;cases h0
     hst:=λhF k hk hd=>h.cli.hst hF k (h4 k hk hd) hd
     log:=g1
     logS:=λr hr=>by
      rcases g2 r hr with h5 | rfl
      ·exact h.cli.logS r h5
      ·exact AM hs
     made:=by have:=h.cli.made;show 0≤(if aS a=true then u.c.made+1 else u.c.made)/\(if aS a=true then u.c.made+1 else u.c.made)≤((B+1:Nat):Int);split<;>omega
     logged:=by have:=h.cli.logged;show 0≤u.c.logged+1/\u.c.logged+1≤((B+1:Nat):Int);omega }
theorem CInvF.grow {B B' T:Nat} {s s':Srv} {c:Cli} (h:CInvF Fa B T s c) (hB:B≤B') (hh:Hist s.past s.tree) (hg:Grown s s'):CInvF Fa B' T s' (f_ s'.tree c):=by
 have hm:=h.mono hB (W7 T);unfold f_;split
 ·rename_i ha;exact { hm with here:=λh0=>(by rw[ha] at h0;cases h0),hst:=λhF k hk hd=>(h.hst hF k hk hd).grow hh hg }
 ·rename_i ha;have ha:c.away=false:=by simpa using ha
  unfold nM;have hsub:(c.cache.filter λk=>!bN s'.tree k).Sublist c.cache:=Y1;have hin:∀k,k∈c.cache.filter (λk=>!bN s'.tree k)->k.dirty=false/\k.node∈s'.tree:=λk hk=>by
   obtain ⟨hk,hst⟩:=W9.1 hk;have hd:=((h.here ha).2 k hk).1;exact ⟨hd,vn hg.hist ((Hst.at hh ((h.here ha).2 k hk).2).grow hh hg) hd (by simpa using hst)⟩
  exact { hm with
   nod:=h.nod.sublist (hsub.map _)
   len:=by have:=hsub.length_le;have:=h.len;show ((c.cache.filter _).length:Int)≤c.room;omega
   dc:=(Of.mem λk hk=>(hin k hk).2).dc hg.hist.bH.dc
   data:=λk hk=>h.data k (hsub.subset hk)
   ent:=λk hk=>h.ent k (hsub.subset hk)
   eup:=λk hk=>h.eup k (hsub.subset hk)
   nam:=λk hk=>h.nam k (hsub.subset hk)
   here:=λ_=>⟨(h.here ha).1,hin⟩
   hst:=λhF k hk hd=>(h.hst hF k (hsub.subset hk) hd).grow hh hg }
theorem GC {s:Srv} {a:Act} (h:ActFit a):ActFit (doA s a):=by unfold doA;split;exact ⟨h.name,h.toName,h.data⟩;exact h
theorem x' {s:Srv} (h:Hist s.past s.tree) (c:Int) {a:Act} (ha:ActFit a) (he:doE s a=0):Grown s (doS s c a):=⟨Hist.snoc c _ h (GC ha) he,_,rfl⟩
theorem sJ {s:Srv} (h:Hist s.past s.tree) (c:Int) {log:List Rec} (hl:∀r,r∈log->ActFit r.act):Grown s (jK s c log):=⟨(JInv.qB h c s.next log hl).hist,_,rfl⟩
theorem yb {B T:Nat} {u:U} (h:UInvF Fa B T u) (ha:u.c.away=false) {a:Act} (hs:ActS a):UInvF Fa (B+1) T (fk u a).u:=by
 unfold fk;split
 ·rename_i he;have hg:=x' h.srv.hist u.c.number hs.fit he;have:=h.cli.grow (Nat.le_succ B) h.srv.hist hg;unfold f_ at this;rw[if_neg WX] at this;exact ⟨h.srv.step u.c.number hs.fit he,this⟩
 ·exact h.mono (Nat.le_succ B) (W7 T)
theorem iG {B T:Nat} {u:U} (h:UInvF Fa B T u) {a:Act} (hs:ActS a) (seen:Int):UInvF Fa (B+1) T (bQ u a seen).u:=by
 unfold bQ;split
 ·rename_i ha;exact Hf h ha hs seen
 ·rename_i ha;exact yb h (by simpa using ha) hs
theorem B0 {B T:Nat} {g:Got} (h:UInvF Fa B T g.u) {data:List UInt8} (hd:data.length≤20):UInvF Fa (B+1) T (fH g data).u:=by
 unfold fH;split
 ·exact h.mono (Nat.le_succ B) (W7 T)
 ·exact iG h ⟨by simp[aw],by simp[aw],hd⟩ _
theorem DK {B T:Nat} {u:U} (h:UInvF Fa B T u) (path data:List UInt8):UInvF Fa (B+2) (T+100) (a_ u path data).u:=by
 have hd:=ch h path;have hn:=bF u path;unfold a_;split
 ·exact hd.mono z8 z8
 ·split
  ·exact hd.mono z8 z8
  ·rename_i hdl;split
   ·rename_i f _;exact (B0 (bA hd f 0) z8).mono z8 z8
   ·have hm:=iG hd (a:=bK (ag u path).n.fid (ag u path).name) ⟨hn,by simp[bK],by simp[bK]⟩ (-1);split
    ·exact hm.mono z8 z8
    ·have:=(bR path).1;exact (B0 (iJ hm (ae path).1 0) z8).mono z8 z8
theorem CQ {B T:Nat} {u:U} (h:UInvF Fa B T u) (path:List UInt8):UInvF Fa (B+2) (T+100) (eU u path).u:=by
 have hd:=ch h path;have hn:=bF u path;unfold eU;split
 ·exact hd.mono z8 z8
 ·exact (iG hd (a:=iD (ag u path).n.fid (ag u path).name) ⟨hn,by simp[iD],by simp[iD]⟩ (-1)).mono z8 z8
theorem rv {B T:Nat} {u:U} (h:UInvF Fa B T u) (path:List UInt8):UInvF Fa B (T+43) (atU u path).u/\(atU u path).name.length≤40:=by
 have hd:=ch h path;have hn:=bF u path;unfold atU;split
 ·exact ⟨hd.mono z8 z8,by simp⟩
 ·split
  ·exact ⟨hd.mono z8 z8,by simp⟩
  ·rename_i f _;exact ⟨bA hd f 0,hn⟩
theorem AQ {B T:Nat} {u:U} (h:UInvF Fa B T u) (path:List UInt8):UInvF Fa (B+2) (T+100) (bt u path).u:=by
 obtain ⟨hd,hn⟩:=rv h path;unfold bt;split
 ·exact hd.mono z8 z8
 ·exact (iG hd (a:=da (atU u path).n.fid (atU u path).d (atU u path).name) ⟨hn,by simp[da],by simp[da]⟩ _).mono z8 z8
theorem ER {B T:Nat} {u:U} (h:UInvF Fa B T u) (path to:List UInt8):UInvF Fa (B+2) (T+100) (cR u path to).u:=by
 obtain ⟨hd,hn⟩:=rv h path;unfold cR;split
 ·exact hd.mono z8 z8
 ·have h2:=ch hd to;have hn2:=bF (atU u path).u to;split
  ·exact h2.mono z8 z8
  ·exact (iG h2 (a:=eK (atU u path).n.fid (atU u path).d (atU u path).name (ag (atU u path).u to).n.fid (ag (atU u path).u to).name) ⟨hn,hn2,by simp[eK]⟩ _).mono z8 z8
theorem o_:∀(l:List Rec) (vs:List Verdict),(∀r,r∈bW l vs->r∈l)/\(bW l vs).length≤l.length
 | [],vs=>by cases vs<;>exact ⟨λr hr=>(by cases hr),W7 _⟩
 | r::l,[]=>⟨λr hr=>(by cases hr),Yp _⟩
 | r::l,v::vs=>by
  obtain ⟨h1,h2⟩:=o_ l vs;unfold bW;split
  ·exact ⟨λx hx=>List.mem_cons_of_mem _ (h1 x hx),by simp;omega⟩
  ·refine ⟨λx hx=>?_,by simp;omega⟩
   rcases List.mem_cons.1 hx with rfl | hx
   ·exact List.mem_cons_self
   ·exact List.mem_cons_of_mem _ (h1 x hx)
theorem DX {B T:Nat} {u:U} (h:UInvF Fa B T u) (hF:Fa):UInvF Fa (B+20) T (fY u):=by
 have hlf:∀r,r∈u.c.log->ActFit r.act:=λr hr=>(h.cli.logS r hr).fit
 have hg:=sJ h.srv.hist u.c.number hlf;have hl:=h.cli.log;have hs:=(h.srv.take u.c.number hlf).mono (show B+u.c.log.length≤B+20 by omega);obtain ⟨r1,r2⟩:=o_ u.c.log (ay u);have hc:=(h.cli).mono (show B≤B+20 by omega) (W7 T);have hsub:((u.c.cache.filter λk=>!k.dirty).filter λk=>!bN (gW u).tree k).Sublist u.c.cache:=Y1.trans Y1;have hin:∀k,k∈(u.c.cache.filter λk=>!k.dirty).filter (λk=>!bN (gW u).tree k)->k.dirty=false/\k.node∈(gW u).tree:=λk hk=>by
  obtain ⟨hk,hst⟩:=W9.1 hk;obtain ⟨hk,hd⟩:=W9.1 hk;have hd:k.dirty=false:=by simpa using hd
  exact ⟨hd,vn hg.hist ((h.cli.hst hF k hk hd).grow h.srv.hist hg) hd (show bN (gW u).tree k=false by simpa using hst)⟩
 refine ⟨hs,?_⟩;exact { hc with
  nod:=h.cli.nod.sublist (hsub.map _)
  len:=by have:=hsub.length_le;have:=h.cli.len;show ((List.filter _ (u.c.cache.filter _)).length:Int)≤u.c.room;omega
  dc:=(Of.mem λk hk=>(hin k hk).2).dc hg.hist.bH.dc
  data:=λk hk=>h.cli.data k (hsub.subset hk)
  ent:=λk hk=>h.cli.ent k (hsub.subset hk)
  eup:=λk hk=>h.cli.eup k (hsub.subset hk)
  nam:=λk hk=>h.cli.nam k (hsub.subset hk)
  here:=λ_=>⟨rfl,hin⟩
  hst:=λ_ k hk _=>Hst.at hg.hist (hin k hk).2
  log:=Yp _
  logS:=λr hr=>by cases hr
  rep:=by have:=h.cli.rep;show (u.c.repair++_).length≤_;rw[List.length_append];omega
  repS:=λr hr=>by
   rcases List.mem_append.1 hr with hr | hr
   ·exact h.cli.repS r hr
   ·exact h.cli.logS r (r1 r hr) }
theorem xb {s:List UInt8} (h:(ae s).2=0):s.length≤40:=by
 unfold ae at h;split at h
 ·cases h
 ·omega
theorem Cy {B T:Nat} {u:U} (h:UInvF Fa B T u) (path:List UInt8) (w:Int):UInvF Fa B T (cY u path w).u:=by
 unfold cY;split
 ·exact h
 ·rename_i hs;have hs:=xb (s:=path) z8;split
  ·exact h
  ·rename_i hw;split
   ·exact h
   ·rename_i hm;have hfl:=W6 (λh:Hoard=>!(h.path==path)) u.c.hoards;have h6:=h.cli.hoards;refine ⟨h.srv,?_⟩;have hc:=h.cli;exact { hc with
     hoards:=by
      show (if 0<w then cx u.c.hoards path++[⟨path,w⟩] else cx u.c.hoards path).length≤6
      split
      ·rename_i h0;have:¬(cx u.c.hoards path).length≥6:=λh1=>hm ⟨h0,h1⟩
       simp;omega
      ·exact Yl hfl h6
     hoardS:=λx hx=>by
      have hx:x∈(if 0<w then cx u.c.hoards path++[⟨path,w⟩] else cx u.c.hoards path):=hx;split at hx
      ·rcases List.mem_append.1 hx with hx | hx
       ·exact h.cli.hoardS x (W9.1 hx).1
       ·rw[List.mem_singleton.1 hx];exact ⟨hs,by show 1≤w/\w≤100;omega⟩
      ·exact h.cli.hoardS x (W9.1 hx).1 }
theorem tO {B T:Nat} {g:GotV} (h:UInvF Fa B T g.u) (x:Hoard):UInvF Fa B (T+42) (fp g x).u:=by
 have:=(bR x.path).1;exact (iJ h (ae x.path).1 x.worth).mono (W7 _) z8
theorem tN {B:Nat}:∀(l:List Hoard) (T:Nat) (g:GotV),UInvF Fa B T g.u->UInvF Fa B (T+42*l.length) (l.foldl fp g).u
 | [],T,g,h=>h
 | x::l,T,g,h=>by
  have:=tN l (T+42) (fp g x) (tO h x);rw[show T+42+42*l.length=T+42*(x::l).length by simp;omega] at this;exact this
theorem AL (l:List Hoard):∀w,(bs l w).length≤l.length:=λw=>by
 have key:∀w,(bs l w).length+(l.filter λh=>decide (h.worth>((w:Nat):Int))).length≤l.length:=λw=>by
  induction w with
  | zero=>rw[bs,List.length_nil,YP];exact W6 _ _
  | succ w ih=>
   rw[bs,List.length_append];have h1:∀m:List Hoard,(m.filter λh=>h.worth==((w+1:Nat):Int)).length+(m.filter λh=>decide (h.worth>((w+1:Nat):Int))).length≤(m.filter λh=>decide (h.worth>((w:Nat):Int))).length:=λm=>by
    induction m with
    | nil=>simp
    | cons x m ihm=>
     simp only[List.filter_cons]
     by_cases e1:x.worth=((w+1:Nat):Int)
     ·rw[if_pos (by simpa using e1),if_neg j0,if_pos j0];simp only[List.length_cons];omega
     ·rw[if_neg (by simpa using e1)]
      by_cases e2:x.worth>((w+1:Nat):Int)
      ·rw[if_pos Q5,if_pos j0];simp only[List.length_cons];omega
      ·rw[if_neg Q5,if_neg (by simp only[decide_eq_true_eq];omega)];exact ihm
   have:=h1 l;omega
 have:=key w;omega
theorem DF {B T:Nat} {u:U} (h:UInvF Fa B T u):UInvF Fa B (T+252) (eZ u).u:=by
 have:=AL u.c.hoards 100;have h6:=h.cli.hoards;exact (tN (bs u.c.hoards 100) T ⟨0,u⟩ h).mono (W7 _) z8
theorem Dw {B T:Nat} {u:U} (h:UInvF Fa B T u) (x:Step) (hF:x.kind=8->Fa):UInvF Fa (B+20) (T+300) (ai u x).u:=by
 have hm:=h.mono (show B≤B+20 by omega) (show T≤T+300 by omega);unfold ai;split
 ·split
  ·exact hm
  ·have:=(bR x.path).1;exact (iJ h (ae x.path).1 0).mono z8 z8
 ·split
  ·exact (DK h x.path x.data).mono z8 z8
  ·split
   ·exact (CQ h x.path).mono z8 z8
   ·split
    ·exact (AQ h x.path).mono z8 z8
    ·split
     ·exact (ER h x.path x.toPath).mono z8 z8
     ·split
      ·exact ⟨hm.srv,{ hm.cli with here:=λh0=>by cases h0 }⟩
      ·split
       ·rename_i h8;exact (DX h (hF h8)).mono z8 z8
       ·split
        ·exact (Cy h x.path x.n).mono z8 z8
        ·split
         ·split
          ·exact hm
          ·exact (DF h).mono z8 z8
         ·exact hm
theorem ie {B T:Nat} {u:U} (h:iF B T u) (x:Step):iF (B+20) (T+300) (ai u x).u:=Dw h x λ_=>trivial
end La
