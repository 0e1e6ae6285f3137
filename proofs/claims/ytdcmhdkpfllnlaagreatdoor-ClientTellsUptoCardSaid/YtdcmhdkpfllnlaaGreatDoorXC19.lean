/- Texts of this claim, part 19: Jud3, Take, PCli, PReach, PNm, PWor, PWor2, PWor3. No condition. -/
import Derived.Test.YtdcmhdkpfllnlaaGreatDoorXC18
import Derived.Test.YtdcmhdkpfllnlaaGreatDoorXC8
import Derived.Test.YtdcmhdkpfllnlaaGreatDoorXC10
import Derived.Test.YtdcmhdkpfllnlaaGreatDoorXC17
import Derived.Test.YtdcmhdkpfllnlaaGreatDoorXC13
import Derived.Test.YtdcmhdkpfllnlaaGreatDoorXC15
import Derived.Test.YtdcmhdkpfllnlaaGreatDoorXC14
set_option maxRecDepth 10000
set_option maxHeartbeats 4000000
set_option linter.unusedSimpArgs false
set_option linter.unusedVariables false
namespace La
open Go Go.Eng Go.Proofs
theorem rO (m:List (Int×Bool)) (l:List Int) (x:Int):jb m (l++[x])=br (jb m l) x true:=by
 unfold jb;rw[List.foldl_append];rfl
noncomputable def qe (l:List Node) (next version:Int) (log:List Rec) (i:Nat):JG:=(log.take i).foldl kY (gX l next version)
theorem tF (l:List Node) (next version:Int) {log:List Rec} {i:Nat} (h:i<log.length):qe l next version log (i+1)=kY (qe l next version log i) (log.getD i default):=by
 unfold qe;rw[ZT h,List.foldl_append];rfl
theorem w_ {p:List Past} {l:List Node} (h:Hist p l) (next:Int) {log:List Rec} (hl:∀r,r∈log->ActFit r.act) {i:Nat} (hi:i≤log.length):JInv p 0 i next (qe l next ((p.length+1:Nat):Int) log i):=by
 have:=JInv.rC h 0 next (log.take i) (λr hr=>hl r (List.mem_of_mem_take hr))
 rw[List.length_take,Nat.min_eq_left hi] at this;exact this
def jgB (s:JG):List (Nat×Blk):=[(45,.cells 145 2 (s.vs.map ZV)),(72,.cells 88 7 (s.done.map ZA)),(29,.cells 224 6 [kn s.j]),(25,.map (mI s.j.own)),(26,.map (mB s.j.ours)),(27,.map (mB s.j.lost))]
theorem Dc (p:List Past) (l:List Node) (next:Int) (log:List Rec) (h:Hist p l) (hp:p.length≤80000000) (hn:next.natAbs≤80000000) (hlog:SmallL log) (hl2:log.length≤2000000) (hfit:∀r,r∈log->ActFit r.act) :
  ae Tryz.prog 119 [.sl (l.map ZN),.int .i64 next,.int .i64 ((p.length+1:Nat):Int),.sl (log.map ZR)] []
   (λr _=>r=.tup [.sl ((bQ l next ((p.length+1:Nat):Int) log).vs.map ZV),.sl ((bQ l next ((p.length+1:Nat):Int) log).done.map ZA),.sl ((bQ l next ((p.length+1:Nat):Int) log).j.l.map ZN),.int .i64 (bQ l next ((p.length+1:Nat):Int) log).j.next]):=by
 have how:=kz l h.bM.small;have hlo:=jM log hlog;have hfin:bQ l next ((p.length+1:Nat):Int) log=qe l next ((p.length+1:Nat):Int) log log.length:=by unfold qe;rw[List.take_length];rfl
 have hinv:=λi=>@w_ p l h next log hfit i
 have hsucc:=λi=>@tF l next ((p.length+1:Nat):Int) log i
 have hz:qe l next ((p.length+1:Nat):Int) log 0=gX l next ((p.length+1:Nat):Int):=rfl
 rw[hfin];generalize qe l next ((p.length+1:Nat):Int) log=st at *
 refine ZF tK (Tryz.func119) rfl (λC=>?_);simp only[Tryz.ntmps119,Tryz.results119,go_sem];refine wG tK ?_;refine wC Tryz.func54 (hf:=(how)) (hk:=?_);refine wG tK ?_;refine wC Tryz.func46 (hf:=(hlo)) (hk:=?_);refine wG tK ?_;refine ag (le_empty 72 88 7 z7) ?_;refine ag (le_empty 45 145 2 z7) ?_;simp only[go_sem];refine ZL (λi:Nat=>i≤log.length) (λi=>log.length-i) (λi=>[(13,.osl 45 2 0 (st i).vs.length),(14,.osl 72 7 0 (st i).done.length),(16,.any),(17,.any),(18,.any),(20,.any),(33,.int .i64 i),(34,.any),(35,.any),(36,.any),(37,.any),(38,.any),(39,.any),(40,.any),(41,.any),(42,.any),(43,.any),(44,.any),(45,.any),(46,.any),(47,.any),(48,.any),(49,.any),(50,.any),(51,.any),(52,.any),(53,.any),(54,.any),(55,.any),(56,.any),(57,.any),(58,.any),(59,.any),(60,.any),(61,.any),(62,.any),(63,.any),(64,.any),(65,.any),(66,.any),(67,.any),(68,.any),(69,.any),(70,.any),(71,.any),(72,.any),(73,.any)]) (λi=>jgB (st i)) 0 z8 ?_ λi hi=>?_
 ·rw[hz];simp only[gX,jgB,kn,mI,mB];simp only[go_sem];exact ZU w3 w3 v8
 unfold jgB kn;simp only[go_sem];refine wG tK ?_;refine wD (λh=>?_) (λh=>?_)
 ·have hlt:i<log.length:=by simp at h;omega
  have hg:(log.map ZR).getD i []=ZR (log.getD i default):=Fam.getD hlt;have hv:=hinv i z8;have hf:=hfit _ (YG hlt);have hsc:=hsucc i hlt;clear hinv hsucc;generalize log.getD i default=r at *;have hnx:=hv.next;have hvs:=hv.vlen;have hdl:=hv.len;have hone:=HJ (st i).j r hv.hist.bM hf z8 (by have:=hv.version;omega);have hst:st (i+1)=(if (jo (st i).j r).err=0 then ⟨{ eU (st i).j r with ours:=jb (eU (st i).j r).ours (bO (jn (st i).j r)) },(st i).vs++[jo (st i).j r],(st i).done++[jn (st i).j r]⟩ else ⟨uS (eU (st i).j r) r.act.fid,(st i).vs++[jo (st i).j r],(st i).done⟩):=by
   rw[hsc];unfold kY jo;rfl
  unfold jH jB kn ZR at hone;clear hsc hv;generalize jo (st i).j r=V at *;generalize jn (st i).j r=A at *;generalize eU (st i).j r=J at *;have hfd:=uE A;have hf3:=e_ A;have how':=wi1 (i:=i) z8;refine wGq tK ?_ ?_ s8
  ·simp[hg,ZR,hlt]
  refine ZZ 16 rfl (rfl) ?_;simp only[go_sem];refine wP [29,25,26,27] Tryz.func159 (hf:=(hone)) (hk:=?_);refine wGq tK ?_ ?_ (by simp only[go_sem,ZV,ZA];try exact rfl)
  ·simp[ZV,ZA,rowsOf];omega
  by_cases hE:V.err=0
  ·rw[if_pos hE] at hst;refine wDF (hb:=x8) (hk:=?_);refine wG tK ?_;unfold ZA at hfd;refine wC Tryz.func154 (hf:=(hfd)) (hk:=?_);refine wG tK ?_;refine ZL (λk:Nat=>k≤(bO A).length) (λk=>(bO A).length-k) (λk=>[(20,.any),(59,.int .i64 k),(60,.any),(61,.any),(62,.any),(63,.any),(64,.any),(65,.any),(66,.any),(67,.any),(68,.any)]) (λk=>[(26,.map (mB (jb J.ours ((bO A).take k))))]) 0 z8 ?_ λk hk=>?_
   ·simp only[go_sem];exact ZU w3 (by simp[go_sem,jb]) w3
   simp only[go_sem];refine wG tK ?_;refine wD (λh=>?_) (λh=>?_)
   ·have hlk:k<(bO A).length:=by simp at h;omega
    have hgk:((bO A).map ZI).getD k []=ZI ((bO A).getD k default):=Fam.getD hlk;have htk:jb J.ours ((bO A).take (k+1))=br (jb J.ours ((bO A).take k)) ((bO A).getD k default) true:=by rw[ZT hlk,rO]
    have hwk:IntKind.i64.wrap ((k:Int)+1)=((k+1:Nat):Int):=by rw[Eng.wrap_small z8 z8];rfl
    generalize (bO A).getD k default=f at *;refine wGq tK ?_ ?_ WD
    ·simp[hgk,ZI,hlk,AV.ju,AV.aX]
    refine ZB ⟨k+1,by omega,by omega,ZU ?_ ?_ ?_⟩
    ·simp[go_sem]
    ·simp[go_sem,htk]
    ·simp[go_sem]
   ·have e:k=(bO A).length:=by simp at h;omega
    subst e;refine wGq tK ?_ ?_ (by simp only[go_sem,ZA,how'];try exact rfl)
    ·simp[ZA,rowsOf];omega
    refine ZB ⟨i+1,by omega,by omega,ZU ?_ ?_ ?_⟩
    ·simp[go_sem,hst]
    ·simp[go_sem,hst,jgB,kn,ZV,ZA,List.take_length]
    ·simp[go_sem,hst]
  ·rw[if_neg hE] at hst;refine wDT (hb:=x8) (hk:=?_);refine wG tK ?_;refine ZW ZM ?_;refine ZS rfl ?_;refine sN tK 7 ?_;refine sE ?_;refine dS tK ?_;refine wKd ?_
   try simp only[go_sem,gA,gB,gC]
   refine wG tK ?_ j5 Qz;refine ZB ⟨i+1,by omega,by omega,ZU ?_ ?_ ?_⟩
   ·simp[go_sem,hst]
   ·simp[go_sem,hst,jgB,kn,uS,ZV]
   ·simp[go_sem,hst]
 ·have e:i=log.length:=by simp at h;omega
  subst e;refine wG tK ?_;refine ZW ZM ?_;refine ZS rfl ?_;refine sG tK ?_;refine sE ?_;refine wKd ?_
  try simp only[go_sem,gA,gB,gC]
  refine wG tK ?_;refine ZZ 45 rfl (la _) ?_;simp only[go_sem];refine ZZ 72 rfl (pw _) ?_;simp only[go_sem];refine wT ?_;simp
def fo (s:Srv) (c:Int) (done:List Act) (i:Nat):List Past:=s.past++(done.take i).map λa=>⟨c,a⟩
theorem pQ (s:Srv) (c:Int) {done:List Act} {i:Nat} (h:i<done.length):fo s c done (i+1)=fo s c done i++[⟨c,done.getD i default⟩]:=by
 unfold fo;rw[ZT h,List.map_append,List.append_assoc];rfl
theorem rQ (s:Srv) (c:Int) (done:List Act) {i:Nat} (h:i≤done.length):(fo s c done i).length=s.past.length+i:=by
 unfold fo;simp;omega
theorem G1 (s:Srv) (h:SrvOK 40000000 s) (c:Int) (log:List Rec) (hlog:SmallL log) (hl2:log.length≤2000000) (hfit:∀r,r∈log->ActFit r.act) :
  ae Tryz.prog 72 [.agg (ZQ s),.int .i64 c,.sl (log.map ZR)] []
   (λr _=>r=.tup [.agg (ZQ (kZ s c log)),.sl ((bQ s.tree s.next ((s.past.length+1:Nat):Int) log).vs.map ZV)]):=by
 have hn:=h.next;have hlen:=h.len;have hsp:SmallP s.past:=⟨by omega,λp hp=>by
  obtain ⟨st,_,_,h3⟩:=h.hist.st;obtain ⟨i,hi⟩:=List.getElem?_of_mem hp;have hil:=(List.getElem?_eq_some_iff.1 hi).1;have:=(h3 i hil).2.1.data
  rwa [show s.past.getD i default=p by rw[List.getD_eq_getElem?_getD,hi];rfl] at this⟩
 have hv:=su s z8;have hso:=ye s h.hist.bM.small hsp;have hj:=Dc s.past s.tree s.next log h.hist z8 z8 hlog hl2 hfit;have hinv:=(JInv.rC h.hist c s.next log hfit).len;have hT:kZ s c log=⟨(bQ s.tree s.next ((s.past.length+1:Nat):Int) log).j.l,(bQ s.tree s.next ((s.past.length+1:Nat):Int) log).j.next,fo s c (bQ s.tree s.next ((s.past.length+1:Nat):Int) log).done (bQ s.tree s.next ((s.past.length+1:Nat):Int) log).done.length⟩:=by
  unfold kZ fo;rw[List.take_length]
 rw[hT];clear hT;unfold ZQ at hv hso ⊢;generalize bQ s.tree s.next ((s.past.length+1:Nat):Int) log=g at *;have hsu:=λi=>@pQ s c g.done i
 have hle:=λi=>@rQ s c g.done i
 have hz:fo s c g.done 0=s.past:=by simp[fo]
 generalize fo s c g.done=P at *;refine ZF tK (Tryz.func72) rfl (λC=>?_);simp only[Tryz.ntmps72,Tryz.results72,go_sem];refine wG tK ?_;refine ZZ 3 rfl (rfl) ?_;simp only[go_sem];refine ZW ZM ?_;refine ZS rfl ?_;refine sN tK 5 ?_;refine sC Tryz.func96 (hf:=(hv)) (hk:=?_);refine sN tK 1 ?_;refine sC Tryz.func119 (hf:=(hj)) (hk:=?_);refine sG tK ?_;refine sE ?_;refine wKd ?_
 try simp only[go_sem,gA,gB,gC]
 refine wG tK ?_;refine wCG [] 18 Tryz.func25 (hf:=(hso)) (hk:=?_);refine wG tK ?_;refine ZL (λi:Nat=>i≤g.done.length) (λi=>g.done.length-i) (λi=>[(14,.any),(29,.any),(36,.int .i64 i),(37,.any),(38,.any),(39,.any),(40,.any),(41,.any),(42,.any),(43,.any),(44,.any),(45,.any),(46,.any),(47,.any),(48,.any)])
  (λi=>[(12,.cells 30 3 [[.sl (g.j.l.map ZN),.int .i64 g.j.next,.osl 46 8 0 (P i).length]]),(46,.cells 120 8 ((P i).map ZP))]) 0 z8 ?_ λi hi=>?_
 ·rw[hz];simp only[go_sem];exact ZU w3 w3 w3
 simp only[go_sem];refine wG tK ?_;refine wD (λh=>?_) (λh=>?_)
 ·have hlt:i<g.done.length:=by simp at h;omega
  have hg:(g.done.map ZA).getD i []=ZA (g.done.getD i default):=Fam.getD hlt;have hs1:=hsu i hlt;have hl1:=hle i z8;have how':=wi1 (i:=i) z8;generalize g.done.getD i default=a at *;generalize P i=Q at *;refine wR ?_;refine wNq tK 4 ?_ ?_ z6 z6 (by simp only[go_sem,hg,ZA];try exact rfl)
  ·simp[hg,ZA,hlt]
  refine wR ?_;refine wN tK 6 ?_;refine ag (bt 46 12 z6 j0) ?_;refine wGq tK ?_ ?_ j5
  ·simp[rowsOf,ZP];omega
  refine ZB ⟨i+1,by omega,by omega,ZU ?_ ?_ ?_⟩
  ·simp[go_sem]
  ·simp[go_sem,hs1,ZP,List.take_length]
  ·simp[go_sem]
 ·have e:i=g.done.length:=by simp at h;omega
  subst e;refine wG tK ?_;refine ZZ 46 rfl (dC _) ?_;simp only[go_sem];refine wT ?_;simp
end La
namespace La
open Go Go.Eng
structure Hoard where
 path:List UInt8
 worth:Int
deriving DecidableEq,Inhabited
structure Cli where
 number:Int
 away:Bool
 room:Int
 cache:List Kept
 log:List Rec
 repair:List Rec
 hoards:List Hoard
 clock:Int
 made:Int
 logged:Int
deriving DecidableEq,Inhabited
structure U where
 c:Cli
 s:Srv
structure Step where
 kind:Int
 client:Int
 n:Int
 path:List UInt8
 toPath:List UInt8
 data:List UInt8
deriving DecidableEq,Inhabited
structure Reply where
 err:Int
 n:Int
 m:Int
 data:List UInt8
deriving DecidableEq,Inhabited
structure Wor where
 s:Srv
 cs:List Cli
def fJ (fid worth clk:Int) (k:Kept):Kept:=if k.node.fid=fid then { k with last:=clk,worth:=lI k.worth worth } else k
def ch (u:U) (fid worth:Int):U:=⟨{ u.c with clock:=u.c.clock+1,cache:=u.c.cache.map (fJ fid worth (u.c.clock+1)) },u.s⟩
def fZ (u:U) (k:Kept):U:=match cH u.c.cache u.c.room k with
 | some l=>⟨{ u.c with cache:=l },u.s⟩
 | none=>u
def dx (l:List Kept) (fid:Int):Option Node:=(l.find? λk=>k.node.fid==fid).map (·.node)
structure Got where
 n:Node
 e:Int
 u:U
def ba (u:U) (fid worth:Int):Got:=match dx u.c.cache fid with
 | some n=>⟨n,0,ch u fid worth⟩
 | none=>if u.c.away=true then ⟨au,12,ch u fid worth⟩ else match aj u.s.tree fid with
  | none=>⟨au,6,ch u fid worth⟩
  | some n=>⟨n,0,fZ (ch u fid worth) ⟨n,false,worth,u.c.clock+1⟩⟩
def goR (worth:Int):List (List UInt8)->Got->Got
 | [],g=>if g.e=0 then g else ⟨au,g.e,g.u⟩
 | s::r,g=>if g.e≠0 then ⟨au,g.e,g.u⟩ else if g.n.dir=false then ⟨au,8,g.u⟩ else match a_ g.n s with
  | none=>⟨au,6,g.u⟩
  | some f=>goR worth r (ba g.u f worth)
def goU (u:U) (l:List (List UInt8)) (worth:Int):Got:=goR worth l (ba u 0 worth)
structure GotD where
 n:Node
 name:List UInt8
 e:Int
 u:U
def ai (u:U) (path:List UInt8):GotD:=
 if (af path).2≠0 then ⟨au,[],(af path).2,u⟩
 else if (af path).1.length=0 then ⟨au,[],7,u⟩
 else ⟨(goU u ((af path).1.take ((af path).1.length-1)) 0).n,(af path).1.getD ((af path).1.length-1) [],
  if (goU u ((af path).1.take ((af path).1.length-1)) 0).e=0/\(goU u ((af path).1.take ((af path).1.length-1)) 0).n.dir=false then 8 else (goU u ((af path).1.take ((af path).1.length-1)) 0).e,
  (goU u ((af path).1.take ((af path).1.length-1)) 0).u⟩
def ez (c:Cli) (a:Act):Act:=if aM a=true then { a with fid:=-1-c.made } else a
def sR (a:Act) (seen:Int):Int:=if aM a=true then -1 else seen
def cF (c:Cli):List Node:=jY (aL c.cache)
def aR (was:List Node) (a:Act) (n:Node):Bool:=!((match aj was n.fid with
 | some o=>bU false o n
 | none=>false)&&(a.kind != 3||n.fid != a.fid))
def fG (was:List Node) (clk:Int) (n:Node):Kept:=⟨{ n with version:=((aj was n.fid).getD au).version },true,0,clk⟩
def cf (room clk:Int) (was:List Node) (a:Act):List Node->List Kept->Option (List Kept)
 | [],l=>some l
 | n::r,l=>if aR was a n=true then (match cH l room (fG was clk n) with
  | none=>none
  | some l'=>cf room clk was a r l') else cf room clk was a r l
structure GotE where
 e:Int
 u:U
def HK (c:Cli) (a:Act) (seen:Int):Option (List Rec):=dn c.log ⟨ez c a,sR a seen,c.logged+1⟩
noncomputable def ky (c:Cli) (a:Act):List Node:=aG (cF c) (ez c a) 0
noncomputable def AD (c:Cli) (a:Act):Option (List Kept):=cf c.room c.clock (cF c) (ez c a) (ky c a) c.cache
noncomputable def oZ (u:U) (a:Act) (seen:Int):GotE:=
 if aC (cF u.c) (ez u.c a)≠0 then ⟨aC (cF u.c) (ez u.c a),u⟩ else match HK u.c a seen with
 | none=>⟨5,u⟩
 | some log=>match AD u.c a with
  | none=>⟨5,u⟩
  | some l=>⟨0,⟨{ u.c with cache:=l.filter (λk=>bf (ky u.c a) k.node.fid),log:=log,logged:=u.c.logged+1,made:=if aM a=true then u.c.made+1 else u.c.made },u.s⟩⟩
def mU (c:Cli) (t:List Node):Cli:={ c with cache:=c.cache.filter λk=>!bD t k }
noncomputable def kV (u:U) (a:Act):GotE:=if doE u.s a=0 then ⟨0,⟨mU u.c (doS u.s u.c.number a).tree,doS u.s u.c.number a⟩⟩ else ⟨doE u.s a,u⟩
noncomputable def cU (u:U) (a:Act) (seen:Int):GotE:=if u.c.away=true then oZ u a seen else kV u a
def cw (n:Node):Int:=if n.fid<0 then -1 else n.version
def dr (d:Int) (name:List UInt8):Act:=⟨1,0,d,name,0,[],[]⟩
def g_ (d:Int) (name:List UInt8):Act:=⟨2,0,d,name,0,[],[]⟩
def bX (fid:Int) (data:List UInt8):Act:=⟨3,fid,0,[],0,[],data⟩
def cR (fid d:Int) (name:List UInt8):Act:=⟨4,fid,d,name,0,[],[]⟩
def ef (fid d:Int) (name:List UInt8) (to:Int) (toName:List UInt8):Act:=⟨5,fid,d,name,to,toName,[]⟩
noncomputable def lf (g:Got) (data:List UInt8):GotE:=if g.e≠0 then ⟨g.e,g.u⟩ else cU g.u (bX g.n.fid data) (cw g.n)
noncomputable def cx (u:U) (path data:List UInt8):GotE:=
 if (ai u path).e≠0 then ⟨(ai u path).e,(ai u path).u⟩
 else if data.length>20 then ⟨4,(ai u path).u⟩
 else match a_ (ai u path).n (ai u path).name with
 | some f=>lf (ba (ai u path).u f 0) data
 | none=>if (cU (ai u path).u (dr (ai u path).n.fid (ai u path).name) (-1)).e≠0 then cU (ai u path).u (dr (ai u path).n.fid (ai u path).name) (-1)
  else lf (goU (cU (ai u path).u (dr (ai u path).n.fid (ai u path).name) (-1)).u (af path).1 0) data
noncomputable def gj (u:U) (path:List UInt8):GotE:=
 if (ai u path).e≠0 then ⟨(ai u path).e,(ai u path).u⟩ else cU (ai u path).u (g_ (ai u path).n.fid (ai u path).name) (-1)
structure GotP where
 d:Int
 name:List UInt8
 n:Node
 e:Int
 u:U
def atU (u:U) (path:List UInt8):GotP:=
 if (ai u path).e≠0 then ⟨0,[],au,(ai u path).e,(ai u path).u⟩
 else match a_ (ai u path).n (ai u path).name with
 | none=>⟨0,[],au,6,(ai u path).u⟩
 | some f=>⟨(ai u path).n.fid,(ai u path).name,(ba (ai u path).u f 0).n,(ba (ai u path).u f 0).e,(ba (ai u path).u f 0).u⟩
noncomputable def bC (u:U) (path:List UInt8):GotE:=
 if (atU u path).e≠0 then ⟨(atU u path).e,(atU u path).u⟩
 else cU (atU u path).u (cR (atU u path).n.fid (atU u path).d (atU u path).name) (cw (atU u path).n)
noncomputable def c_ (u:U) (path to:List UInt8):GotE:=
 if (atU u path).e≠0 then ⟨(atU u path).e,(atU u path).u⟩
 else if (ai (atU u path).u to).e≠0 then ⟨(ai (atU u path).u to).e,(ai (atU u path).u to).u⟩
 else cU (ai (atU u path).u to).u (ef (atU u path).n.fid (atU u path).d (atU u path).name (ai (atU u path).u to).n.fid (ai (atU u path).u to).name) (cw (atU u path).n)
def cv:List Rec->List Verdict->List Rec
 | r::l,v::vs=>if v.err=0 then cv l vs else r::cv l vs
 | _,_=>[]
def eZ (vs:List Verdict):Nat:=(vs.filter λv=>v.err==0).length
noncomputable def aK (u:U):List Verdict:=(bQ u.s.tree u.s.next ((u.s.past.length+1:Nat):Int) u.c.log).vs
noncomputable def gY (u:U):Srv:=kZ u.s u.c.number u.c.log
noncomputable def kT (u:U):U:=
 ⟨{ u.c with away:=false,log:=[],repair:=u.c.repair++cv u.c.log (aK u),cache:=(u.c.cache.filter λk=>!k.dirty).filter λk=>!bD (gY u).tree k },gY u⟩
def cd (l:List Hoard) (path:List UInt8):List Hoard:=l.filter λh=>!(h.path==path)
def dB (u:U) (path:List UInt8) (worth:Int):GotE:=
 if (af path).2≠0 then ⟨(af path).2,u⟩ else if worth<0\/worth>100 then ⟨3,u⟩
 else if 0<worth/\(cd u.c.hoards path).length≥6 then ⟨5,u⟩
 else ⟨0,⟨{ u.c with hoards:=if 0<worth then cd u.c.hoards path++[⟨path,worth⟩] else cd u.c.hoards path },u.s⟩⟩
def bo (l:List Hoard):Nat->List Hoard
 | 0=>[]
 | w+1=>l.filter (λh=>h.worth==((w+1:Nat):Int))++bo l w
structure GotV where
 n:Nat
 u:U
def eW (g:GotV) (h:Hoard):GotV:=⟨if (goU g.u (af h.path).1 h.worth).e=0 then g.n+1 else g.n,(goU g.u (af h.path).1 h.worth).u⟩
def eG (u:U):GotV:=(bo u.c.hoards 100).foldl eW ⟨0,u⟩
def mJ (l:List Entry):List UInt8:=l.flatMap λe=>e.name++[10]
structure GotS where
 u:U
 r:Reply
def fS (kind:Int) (g:Got):Reply:=
 if g.e≠0 then ⟨g.e,0,0,[]⟩
 else if kind=1 then (if g.n.dir=true then ⟨9,0,0,[]⟩ else ⟨0,0,0,g.n.data⟩)
 else if g.n.dir=true then ⟨0,0,0,mJ g.n.entries⟩ else ⟨8,0,0,[]⟩
def cy (e:Int):Reply:=⟨e,0,0,[]⟩
noncomputable def aw (u:U) (x:Step):GotS:=
 if x.kind=1\/x.kind=2 then (if (af x.path).2≠0 then ⟨u,cy (af x.path).2⟩ else ⟨(goU u (af x.path).1 0).u,fS x.kind (goU u (af x.path).1 0)⟩)
 else if x.kind=3 then ⟨(cx u x.path x.data).u,cy (cx u x.path x.data).e⟩
 else if x.kind=4 then ⟨(gj u x.path).u,cy (gj u x.path).e⟩
 else if x.kind=5 then ⟨(bC u x.path).u,cy (bC u x.path).e⟩
 else if x.kind=6 then ⟨(c_ u x.path x.toPath).u,cy (c_ u x.path x.toPath).e⟩
 else if x.kind=7 then ⟨⟨{ u.c with away:=true },u.s⟩,cy 0⟩
 else if x.kind=8 then ⟨kT u,⟨0,eZ (aK u),((aK u).length-eZ (aK u):Nat),[]⟩⟩
 else if x.kind=9 then ⟨(dB u x.path x.n).u,cy (dB u x.path x.n).e⟩
 else if x.kind=10 then (if u.c.away=true then ⟨u,cy 12⟩ else ⟨(eG u).u,⟨0,(eG u).n,0,[]⟩⟩)
 else ⟨u,cy 1⟩
structure GotW where
 w:Wor
 r:Reply
def fI (t:List Node) (c:Cli):Cli:=if c.away=true then c else mU c t
noncomputable def gr (w:Wor) (x:Step):GotW:=
 if x.client<0\/x.client≥w.cs.length then ⟨w,cy 6⟩
 else ⟨⟨(aw ⟨w.cs.getD x.client.toNat default,w.s⟩ x).u.s,(w.cs.set x.client.toNat (aw ⟨w.cs.getD x.client.toNat default,w.s⟩ x).u.c).map (fI (aw ⟨w.cs.getD x.client.toNat default,w.s⟩ x).u.s.tree)⟩,(aw ⟨w.cs.getD x.client.toNat default,w.s⟩ x).r⟩
def lL (number room:Int):Cli:=⟨number,false,room,[],[],[],[],0,0,0⟩
def dY (rooms:List Int):Int:=if rooms.length<1\/3<rooms.length then 5 else if rooms.all (λn=>decide (3≤n)&&decide (n≤24)) then 0 else 3
def mK (rooms:List Int) (i:Nat):List Cli:=(List.range i).map λ(j:Nat)=>lL (j:Int) (rooms.getD j 0)
def Iq:Srv:=⟨[jV],1,[]⟩
def Du (rooms:List Int):Wor:=⟨Iq,mK rooms rooms.length⟩
noncomputable def uo (rooms:List Int) (l:List Step):Wor:=l.foldl (λw x=>(gr w x).w) (Du rooms)
theorem MReach.head {m:List (Int×Node)} {k:Int} {n:Node} {e:Entry} {t:Int} (hn:bg m k=some n) (he:e∈n.entries) (h:MReach m e.fid t):MReach m k t:=by
 induction h with
 | refl=>exact .step .refl hn he
 | step _ hn' he' ih=>exact .step ih hn' he'
theorem qh {l:List Node} (hu:Up l) {k t:Int} (h:MReach (bB l) k t):Reach l k t:=by
 induction h with
 | refl=>exact .refl _
 | step _ hn he ih=>
  rw[cu hu] at hn;obtain ⟨h1,h2⟩:=(ZO hu).1 hn;subst h2;exact Reach.tail h1 he ih
theorem jO {l:List Node} (hu:Up l) (t:Int):∀(f:Nat) (k:Int),bk l t f k=some true->MReach (bB l) k t
 | 0,_,h=>by cases h
 | f+1,k,h=>by
  rw[bk] at h;split at h
  ·rename_i e;rw[e];exact .refl
  ·cases e:aj l k with
   | none=>rw[e] at h;cases h
   | some n=>
    rw[e] at h;simp only at h;split at h
    ·injection h with h
     obtain ⟨x,hx,hx2⟩:=List.any_eq_true.1 h;rw[Bool.and_eq_true] at hx2;have h3:bk l t f x.fid=some true:=by
      have:=hx2.2;cases h4:bk l t f x.fid with
      | none=>rw[h4] at this;cases this
      | some b=>rw[h4] at this;exact congrArg some this
     exact MReach.head (by rw[cu hu];exact e) hx (jO hu t f x.fid h3)
    ·cases h
open Classical in
theorem Good.within {l:List Node} (h:Good l) (t k:Int):jh l t k=decide (MReach (bB l) k t):=by
 obtain ⟨f,hf⟩:=h.ends t k;obtain ⟨r,hr⟩:=h.cT
 by_cases hm:MReach (bB l) k t
 ·rw[decide_eq_true hm];exact ov h.up hr (qh h.up hm) f _ hf
 ·rw[decide_eq_false hm];cases hb:jh l t k with
  | false=>rfl
  | true=>rw[hb] at hf;exact absurd (jO h.up t f k hf) hm
theorem Good.da {l:List Node} (h:Good l) (a:Act):bw l a=La.da l a:=by
 unfold bw La.da;rw[h.within a.to a.fid]
theorem Good.cS {l:List Node} (h:Good l) (a:Act) (v:Int):fR l a v=La.cS l a v:=by
 unfold fR La.cS;rw[h.da a]
theorem Good.aC {l:List Node} (h:Good l) (a:Act):ay l a=La.aC l a:=by
 unfold ay La.aC;rw[h.da a]
theorem Good.aG {l:List Node} (h:Good l) (a:Act) (v:Int):cg l a v=La.aG l a v:=by
 unfold cg La.aG;rw[h.cS a v]
def NmE (l:List Entry):Prop:=∀e,e∈l->e.name.length≤40
structure Nm (l:List Node):Prop where
 up:Up l
 nm:∀n,n∈l->NmE n.entries
theorem NmE.nil:NmE []:=λ_ h=>by cases h
theorem tO {s:List UInt8} (h:cq s=true):s.length≤40:=by
 unfold cq at h;rw[Bool.and_eq_true,Bool.and_eq_true,decide_eq_true_eq,decide_eq_true_eq] at h;omega
theorem NmE.enter {l:List Entry} (h:NmE l) {s:List UInt8} (hs:cq s=true) (f:Int):NmE (bs l s f):=λe he=>by
 rcases mQ he with rfl | he
 ·exact tO hs
 ·exact h e he
theorem NmE.leave {l:List Entry} (h:NmE l) (s:List UInt8):NmE (cW l s):=λe he=>h e (kq he)
theorem Nm.find {l:List Node} (h:Nm l) (k:Int):NmE (aq l k).entries:=by
 unfold aq;cases e:aj l k with
 | none=>exact .nil
 | some n=>exact h.nm n ((ZO h.up).1 e).1
theorem Nm.put {l:List Node} (h:Nm l) {n:Node} (hn:NmE n.entries):Nm (aD l n):=
 ⟨(bj h.up n).1,λm hm=>by
  rcases fC hm with rfl | hm
  ·exact hn
  ·exact h.nm m hm⟩
theorem Nm.drop {l:List Node} (h:Nm l) (f:Int):Nm (ep l f):=⟨(gw h.up f).1,λm hm=>h.nm m (((gw h.up f).2 m).1 hm).1⟩
theorem Nm.to {l:List Node} (h:Nm l) (a:Act):NmE (toN l a).entries:=by
 unfold toN;split
 ·exact (h.find _).leave _
 ·exact h.find _
theorem Nm.apply {l:List Node} (h:Nm l) (a:Act) (v:Int):Nm (cg l a v):=by
 have hmk:Nm (dw l a v):=by
  unfold dw;split
  ·rename_i he;unfold cI at he;split at he
   ·split at he
    ·rename_i hr;refine (h.put ?_).put .nil;exact (h.find _).enter (dd hr).1 _
    ·rename_i hr;exact absurd he hr
   ·rename_i hr;exact absurd he hr
  ·exact h
 unfold cg;split
 ·exact hmk
 ·split
  ·exact hmk
  ·split
   ·unfold ea;split
    ·exact h.put (h.find _)
    ·exact h
   ·split
    ·unfold cE;split
     ·exact (h.put ((h.find _).leave _)).drop _
     ·exact h
    ·split
     ·unfold fR;split
      ·rename_i he;have hr:bL (toN l a) a.toName=0:=by
        unfold bw at he;split at he
        ·split at he
         ·split at he
          ·assumption
          ·rename_i hr;exact absurd he hr
         ·rename_i hr;exact absurd he hr
        ·rename_i hr;exact absurd he hr
       refine Nm.put ?_ ((h.to a).enter (dd hr).1 _);split
       ·exact h
       ·exact h.put ((h.find _).leave _)
      ·exact h
     ·exact h
theorem Wh.nm {l:List Node} (h:Wh l) {n:Node} (hn:n∈l):NmE n.entries:=λe he=>tO (h.name n.fid e.name e.fid ⟨n,hn,rfl,he⟩)
theorem te {l:List Node} {a:Act} {v:Int} {n:Node} (he:aC l a=0) (h:n∈aG l a v):n.version=v\/n∈l:=by
 unfold aC at he;unfold aG at h;have hmk:n∈dw l a v->n.version=v\/n∈l:=λh=>by
  unfold dw at h;split at h
  ·rcases fC h with rfl | h
   ·exact .inl rfl
   ·rcases fC h with rfl | h
    ·exact .inl rfl
    ·exact .inr h
  ·exact .inr h
 split at h
 ·exact hmk h
 ·split at h
  ·exact hmk h
  ·split at h
   ·unfold ea at h;split at h
    ·rcases fC h with rfl | h
     ·exact .inl rfl
     ·exact .inr h
    ·exact .inr h
   ·split at h
    ·unfold cE at h;split at h
     ·rcases fC (List.mem_filter.1 h).1 with rfl | h
      ·exact .inl rfl
      ·exact .inr h
     ·exact .inr h
    ·split at h
     ·unfold cS at h;split at h
      ·rcases fC h with rfl | h
       ·exact .inl rfl
       ·split at h
        ·exact .inr h
        ·rcases fC h with rfl | h
         ·exact .inl rfl
         ·exact .inr h
      ·exact .inr h
     ·exact .inr h
theorem Hist.ver {p:List Past} {t:List Node} (h:Hist p t):∀n,n∈t->0≤n.version/\n.version≤(p.length:Int):=by
 induction h with
 | nil=>intro n hn;rw[List.mem_singleton.1 hn];simp[jV]
 | @snoc p t c a h ha he ih=>
  intro n hn;simp only[List.length_append,List.length_cons,List.length_nil]
  rcases te he hn with h1 | h1
  ·rw[h1];omega
  ·have:=ih n h1;omega
theorem Hist.det {p:List Past} {t:List Node} (h:Hist p t):∀{t'},Hist p t'->t=t':=by
 induction h with
 | nil=>
  intro t' h';generalize hq:([]:List Past)=q at h';cases h' with
  | nil=>rfl
  | snoc c a _ _ _=>simp at hq
 | @snoc p t c a h ha he ih=>
  intro t' h';generalize hq:p++[⟨c,a⟩]=q at h';cases h' with
  | nil=>simp at hq
  | @snoc p2 t2 c2 a2 h2 _ _=>
   obtain ⟨h3,h4⟩:=List.append_inj' hq rfl;subst h3;injection h4 with h4
   injection h4 with h4 h5
   subst h5;rw[ih h2]
theorem Hist.back {p:List Past} {c:Int} {a:Act} {t':List Node} (h:Hist (p++[⟨c,a⟩]) t'):∃t,Hist p t/\aC t a=0/\t'=aG t a ((p.length+1:Nat):Int):=by
 generalize hq:p++[(⟨c,a⟩:Past)]=q at h;cases h with
 | nil=>simp at hq
 | @snoc p2 t2 c2 a2 h2 ha he=>
  obtain ⟨h3,h4⟩:=List.append_inj' hq rfl;subst h3;injection h4 with h4
  injection h4 with h4 h5
  subst h5;exact ⟨t2,h2,he,rfl⟩
def Hst (s:Srv) (n:Node):Prop:=n.version≤(s.past.length:Int)/\∀m,m∈s.tree->m.fid=n.fid->m.version=n.version->m=n
theorem Hst.at {s:Srv} (h:Hist s.past s.tree) {n:Node} (hn:n∈s.tree):Hst s n:=⟨(h.ver n hn).2,λ_ hm hf _=>ot h.bM.up hm hn hf⟩
theorem wJ {p:List Past} {n:Node}:∀(q:List Past) {t t':List Node},Hist p t->Hist (p++q.reverse) t'->n.version≤(p.length:Int)->(∀m,m∈t->m.fid=n.fid->m.version=n.version->m=n) ->
  ∀m,m∈t'->m.fid=n.fid->m.version=n.version->m=n
 | [],t,t',h,h',_,hm=>by
  rw[List.reverse_nil,List.append_nil] at h';rw[←h.det h'];exact hm
 | x::q,t,t',h,h',hv,hm=>by
  rw[List.reverse_cons,←List.append_assoc] at h';obtain ⟨t2,h2,he,rfl⟩:=Hist.back (c:=x.client) (a:=x.act) h';have ih:=wJ q h h2 hv hm;intro m hmm hf hver
  rcases te he hmm with h3 | h3
  ·rw[h3] at hver;simp only[List.length_append,List.length_reverse] at hver;omega
  ·exact ih m h3 hf hver
structure Grown (s s':Srv):Prop where
 hist:Hist s'.past s'.tree
 past:∃q,s'.past=s.past++q
theorem Grown.refl {s:Srv} (h:Hist s.past s.tree):Grown s s:=⟨h,[],by simp⟩
theorem Grown.trans {a b c:Srv} (h:Grown a b) (k:Grown b c):Grown a c:=by
 obtain ⟨q,hq⟩:=h.past;obtain ⟨r,hr⟩:=k.past;exact ⟨k.hist,q++r,by rw[hr,hq,List.append_assoc]⟩
theorem Hst.grow {s s':Srv} (h:Hist s.past s.tree) (hg:Grown s s') {n:Node} (hn:Hst s n):Hst s' n:=by
 obtain ⟨q,hq⟩:=hg.past;have h1:=hg.hist;refine ⟨by rw[hq,List.length_append];have:=hn.1;omega,wJ (p:=s.past) q.reverse h ?_ hn.1 hn.2⟩;rw[List.reverse_reverse,←hq];exact h1
theorem Ca {t:List Node} (hu:Up t) {k:Kept} (hd:k.dirty=false) (h:bD t k=false):∃n,n∈t/\n.fid=k.node.fid/\n.version=k.node.version:=by
 unfold bD at h;rw[hd,cB] at h;cases e:aj t k.node.fid with
 | none=>rw[e] at h;simp at h
 | some n=>
  rw[e] at h;simp only[Bool.not_false,Option.isSome_some,Bool.not_true,Option.getD_some,Bool.false_or,Bool.true_and,Bool.not_eq_false',beq_iff_eq] at h;obtain ⟨h1,h2⟩:=(ZO hu).1 e;exact ⟨n,h1,h2,h⟩
theorem uc {s:Srv} (hh:Hist s.past s.tree) {k:Kept} (hk:Hst s k.node) (hd:k.dirty=false) (h:bD s.tree k=false):k.node∈s.tree:=by
 obtain ⟨n,h1,h2,h3⟩:=Ca hh.bM.up hd h;rw[←hk.2 n h1 h2 h3];exact h1
structure ActS (a:Act):Prop where
 name:a.name.length≤40
 toName:a.toName.length≤40
 data:a.data.length≤20
theorem ActS.fit {a:Act} (h:ActS a):ActFit a:=⟨by have:=h.name;omega,by have:=h.toName;omega,by have:=h.data;omega⟩
structure HoardOK (h:Hoard):Prop where
 path:h.path.length≤40
 worth:1≤h.worth/\h.worth≤100
structure CInv (B T:Nat) (s:Srv) (c:Cli):Prop where
 room:3≤c.room/\c.room≤24
 nod:(c.cache.map λk=>k.node.fid).Nodup
 len:(c.cache.length:Int)≤c.room
 cT:∃r,kQ r (aL c.cache)
 data:∀k,k∈c.cache->k.node.data.length≤20
 ent:∀k,k∈c.cache->k.node.entries.length≤6
 eup:∀k,k∈c.cache->EUp k.node.entries
 nam:∀k,k∈c.cache->NmE k.node.entries
 here:c.away=false->c.log=[]/\∀k,k∈c.cache->k.dirty=false/\k.node∈s.tree
 hst:∀k,k∈c.cache->k.dirty=false->Hst s k.node
 log:c.log.length≤20
 logS:∀r,r∈c.log->ActS r.act
 rep:c.repair.length≤B
 repS:∀r,r∈c.repair->ActS r.act
 hoards:c.hoards.length≤6
 hoardS:∀h,h∈c.hoards->HoardOK h
 clock:0≤c.clock/\c.clock≤(T:Int)
 made:0≤c.made/\c.made≤(B:Int)
 logged:0≤c.logged/\c.logged≤(B:Int)
theorem CInv.mono {B B' T T':Nat} {s:Srv} {c:Cli} (h:CInv B T s c) (hB:B≤B') (hT:T≤T'):CInv B' T' s c:=
 { h with rep:=Nat.le_trans h.rep hB,clock:=⟨h.clock.1,by have:=h.clock.2;omega⟩,made:=⟨h.made.1,by have:=h.made.2;omega⟩,logged:=⟨h.logged.1,by have:=h.logged.2;omega⟩ }
theorem CInv.new (B T:Nat) (s:Srv) (i room:Int) (h:3≤room/\room≤24):CInv B T s (lL i room) where
 room:=h
 nod:=List.Pairwise.nil
 len:=by simp[lL];omega
 cT:=⟨λ_=>0,λn hn=>by cases hn⟩
 data:=λk hk=>by cases hk
 ent:=λk hk=>by cases hk
 eup:=λk hk=>by cases hk
 nam:=λk hk=>by cases hk
 here:=λ_=>⟨rfl,λk hk=>by cases hk⟩
 hst:=λk hk=>by cases hk
 log:=by simp[lL]
 logS:=λr hr=>by cases hr
 rep:=by simp[lL]
 repS:=λr hr=>by cases hr
 hoards:=by simp[lL]
 hoardS:=λr hr=>by cases hr
 clock:=by simp[lL]
 made:=by simp[lL]
 logged:=by simp[lL]
theorem tt {r:Int->Nat} {l m:List Node} (h:kQ r l) (hs:∀n,n∈m->∃o,o∈l/\o.fid=n.fid/\o.entries=n.entries):kQ r m:=λn hn e he=>by
 obtain ⟨o,h1,h2,h3⟩:=hs n hn;rw[←h3] at he;rw[←h2];exact h o h1 e he
theorem m_ {l:List Kept} {n:Node}:n∈aL l↔∃k,k∈l/\k.node=n:=by
 unfold aL;exact List.mem_map
structure Of (t:List Node) (l:List Kept):Prop where
 each:∀k,k∈l->∃n,n∈t/\n.fid=k.node.fid/\n.dir=k.node.dir/\n.data=k.node.data/\n.entries=k.node.entries
theorem Of.cT {t:List Node} {l:List Kept} (h:Of t l) (hf:∃r,kQ r t):∃r,kQ r (aL l):=by
 obtain ⟨r,hr⟩:=hf;refine ⟨r,tt hr λn hn=>?_⟩;obtain ⟨k,hk,rfl⟩:=m_.1 hn;obtain ⟨o,h1,h2,_,_,h5⟩:=h.each k hk;exact ⟨o,h1,h2,h5⟩
theorem Of.mem {t:List Node} {l:List Kept} (h:∀k,k∈l->k.node∈t):Of t l:=⟨λk hk=>⟨k.node,h k hk,rfl,rfl,rfl,rfl⟩⟩
structure UInv (B T:Nat) (u:U):Prop where
 srv:SrvOK B u.s
 cli:CInv B T u.s u.c
theorem UInv.mono {B B' T T':Nat} {u:U} (h:UInv B T u) (hB:B≤B') (hT:T≤T'):UInv B' T' u:=⟨h.srv.mono hB,h.cli.mono hB hT⟩
theorem oN (f w c:Int) (k:Kept):(fJ f w c k).node=k.node:=by unfold fJ;split<;>rfl
theorem yN (f w c:Int) (k:Kept):(fJ f w c k).dirty=k.dirty:=by unfold fJ;split<;>rfl
theorem iG {l:List Kept} {f w c:Int} {k:Kept} (h:k∈l.map (fJ f w c)):∃x,x∈l/\x.node=k.node/\x.dirty=k.dirty:=by
 obtain ⟨x,hx,rfl⟩:=List.mem_map.1 h;exact ⟨x,hx,(oN _ _ _ _).symm,(yN _ _ _ _).symm⟩
theorem tL (l:List Kept) (f w c:Int):(l.map (fJ f w c)).map (λk=>k.node.fid)=l.map λk=>k.node.fid:=by
 rw[List.map_map];exact List.map_congr_left λk _=>by simp[oN]
theorem rI (l:List Kept) (f w c:Int):aL (l.map (fJ f w c))=aL l:=by
 unfold aL;rw[List.map_map];exact List.map_congr_left λk _=>by simp[oN]
theorem nN {B T:Nat} {u:U} (h:UInv B T u) (f w:Int):UInv B (T+1) (ch u f w):=by
 obtain ⟨hs,h⟩:=h;refine ⟨hs,?_⟩;exact { h with
  nod:=by show (List.map _ (u.c.cache.map _)).Nodup;rw[tL];exact h.nod
  len:=by show ((List.map _ u.c.cache).length:Int)≤_;rw[List.length_map];exact h.len
  cT:=by show ∃r,kQ r (aL (u.c.cache.map _));rw[rI];exact h.cT
  data:=λk hk=>by obtain ⟨x,hx,h1,_⟩:=iG hk;rw[←h1];exact h.data x hx
  ent:=λk hk=>by obtain ⟨x,hx,h1,_⟩:=iG hk;rw[←h1];exact h.ent x hx
  eup:=λk hk=>by obtain ⟨x,hx,h1,_⟩:=iG hk;rw[←h1];exact h.eup x hx
  nam:=λk hk=>by obtain ⟨x,hx,h1,_⟩:=iG hk;rw[←h1];exact h.nam x hx
  here:=λha=>⟨(h.here ha).1,λk hk=>by obtain ⟨x,hx,h1,h2⟩:=iG hk;rw[←h1,←h2];exact (h.here ha).2 x hx⟩
  hst:=λk hk hd=>by obtain ⟨x,hx,h1,h2⟩:=iG hk;rw[←h1];exact h.hst x hx (h2.trans hd)
  clock:=by have:=h.clock;show 0≤u.c.clock+1/\u.c.clock+1≤((T+1:Nat):Int);omega }
theorem xc {l:List Kept} {f:Int} (h:bR l f=none):∀x,x∈l->x.node.fid≠f:=λx hx e=>by
 have:=List.findIdx?_eq_none_iff.1 h x hx;simp[e] at this
theorem Bm {l:List Kept} {f:Int} {i:Nat} (h:bR l f=some i):i<l.length/\(l.getD i default).node.fid=f:=by
 obtain ⟨h1,h2,_⟩:=List.findIdx?_eq_some_iff_getElem.1 h;exact ⟨h1,by rw[List.getD_eq_getElem?_getD,List.getElem?_eq_getElem h1];exact of_decide_eq_true h2⟩
theorem fU {room:Int}:∀(f:Nat) (l L:List Kept),bJ room f l=some L->L.Sublist l
 | 0,l,L,h=>by rw[bJ] at h;injection h with h;subst h;exact List.Sublist.refl _
 | f+1,l,L,h=>by
  rw[bJ] at h;split at h
  ·split at h
   ·cases h
   ·exact (fU f _ L h).trans (List.eraseIdx_sublist _ _)
  ·injection h with h;subst h;exact List.Sublist.refl _
theorem pS {room:Int} (hr:1≤room):∀(f:Nat) (l L:List Kept),bJ room f l=some L->l.length<f->(L.length:Int)<room
 | 0,l,L,h,hf=>by omega
 | f+1,l,L,h,hf=>by
  rw[bJ] at h;split at h
  ·rename_i hge;split at h
   ·cases h
   ·rename_i i hw;have hi:i<l.length:=fv l l.length i hw;exact pS hr f _ L h (by rw[List.length_eraseIdx,if_pos hi];omega)
  ·injection h with h;subst h;omega
structure Kp (l:List Kept) (room:Int) (k:Kept) (L:List Kept):Prop where
 mem:∀x,x∈L->(x∈l/\x.node.fid≠k.node.fid)\/(x.node=k.node/\x.dirty=k.dirty)
 nod:(L.map λx=>x.node.fid).Nodup
 len:(L.length:Int)≤room
 has:∃x,x∈L/\x.node=k.node/\x.dirty=k.dirty
theorem xA {l:List Kept} (h:(l.map λx=>x.node.fid).Nodup) {i j:Nat} {a b:Kept} (ha:l[i]? = some a) (hb:l[j]? = some b) (hf:a.node.fid=b.node.fid):i=j:=by
 have h1:=List.getElem?_eq_some_iff.1 ha;have h2:=List.getElem?_eq_some_iff.1 hb;obtain ⟨hi,h1⟩:=h1;obtain ⟨hj,h2⟩:=h2;refine (List.getElem_inj (xs:=l.map λx=>x.node.fid) (i:=i) (j:=j) (h₀:=by simpa using hi) (h₁:=by simpa using hj) h).1 ?_;rw[List.getElem_map,List.getElem_map,h1,h2,hf]
theorem DX {l:List Kept} {i:Nat} {k:Kept} (hi:i<l.length) (hf:(l.getD i default).node.fid=k.node.fid):(l.set i k).map (λx=>x.node.fid)=l.map λx=>x.node.fid:=by
 rw[List.map_set];refine List.ext_getElem? λj=>?_
 rw[List.getElem?_set];split
 ·rename_i e;subst e;rw[List.getElem?_map,List.getElem?_eq_getElem hi];rw[List.getD_eq_getElem?_getD,List.getElem?_eq_getElem hi] at hf;simp only[List.length_map,hi,if_true,Option.map_some];exact congrArg some hf.symm
 ·rfl
theorem xb {l L:List Kept} {room:Int} {k:Kept} (hr:1≤room) (hn:(l.map λx=>x.node.fid).Nodup) (hl:(l.length:Int)≤room) (h:cH l room k=some L):Kp l room k L:=by
 unfold cH at h;cases e:bR l k.node.fid with
 | some i=>
  rw[e] at h;injection h with h
  subst h;obtain ⟨hi,hf⟩:=Bm e;refine ⟨λx hx=>?_,?_,by rw[List.length_set];exact hl,⟨{ k with worth:=lI k.worth (l.getD i default).worth },List.mem_iff_getElem.2 ⟨i,by simpa using hi,by simp⟩,rfl,rfl⟩⟩
  ·obtain ⟨j,hj⟩:=List.getElem?_of_mem hx;rw[List.getElem?_set] at hj;split at hj
   ·rename_i e2;subst e2;simp only[hi,if_true,Option.some.injEq] at hj;exact .inr ⟨by rw[←hj],by rw[←hj]⟩
   ·rename_i hne;refine .inl ⟨List.mem_of_getElem? hj,λhxf=>hne ?_⟩;refine xA hn (List.getElem?_eq_getElem hi) hj ?_;rw[List.getD_eq_getElem?_getD,List.getElem?_eq_getElem hi] at hf;exact hf.trans hxf.symm
  ·rw[DX hi (by exact hf)];exact hn
 | none=>
  rw[e] at h;obtain ⟨L0,h0,rfl⟩:=Option.map_eq_some_iff.1 h;have h1:=fU _ _ _ h0;have h2:=pS hr _ _ _ h0 (Nat.lt_succ_self _);have hno:=xc e;refine ⟨λx hx=>?_,?_,by rw[List.length_append];simp;omega,⟨k,by simp,rfl,rfl⟩⟩
  ·rcases List.mem_append.1 hx with hx | hx
   ·exact .inl ⟨h1.subset hx,hno x (h1.subset hx)⟩
   ·rw[List.mem_singleton.1 hx];exact .inr ⟨rfl,rfl⟩
  ·rw[List.map_append,List.nodup_append];refine ⟨hn.sublist (h1.map _),by simp,λa ha b hb=>?_⟩;obtain ⟨x,hx,rfl⟩:=List.mem_map.1 ha;simp only[List.map_cons,List.map_nil,List.mem_singleton] at hb;rw[hb];exact hno x (h1.subset hx)
theorem CInv.within {B T:Nat} {s:Srv} {c:Cli} (h:CInv B T s c) (hh:Hist s.past s.tree) {L:List Kept} (hn:(L.map λk=>k.node.fid).Nodup) (hl:(L.length:Int)≤c.room) (hm:∀k,k∈L->k.dirty=false/\k.node∈s.tree):CInv B T s { c with cache:=L }:=
 { h with
  nod:=hn
  len:=hl
  cT:=(Of.mem λk hk=>(hm k hk).2).cT hh.bM.cT
  data:=λk hk=>hh.bM.data _ (hm k hk).2
  ent:=λk hk=>hh.bM.ent _ (hm k hk).2
  eup:=λk hk=>(hh.whole.loc _ (hm k hk).2).eup
  nam:=λk hk=>hh.whole.nm (hm k hk).2
  here:=λha=>⟨(h.here ha).1,hm⟩
  hst:=λk hk _=>Hst.at hh (hm k hk).2 }
theorem Bj {B T:Nat} {u:U} (h:UInv B T u) (ha:u.c.away=false) {n:Node} (hn:n∈u.s.tree) (w c:Int):UInv B T (fZ u ⟨n,false,w,c⟩):=by
 unfold fZ;split
 ·rename_i l hl;have hk:=xb (by have:=h.cli.room;omega) h.cli.nod h.cli.len hl;refine ⟨h.srv,h.cli.within h.srv.hist hk.nod hk.len λx hx=>?_⟩
  rcases hk.mem x hx with ⟨h1,_⟩ | ⟨h1,h2⟩
  ·exact (h.cli.here ha).2 x h1
  ·exact ⟨h2,by rw[h1];exact hn⟩
 ·exact h
theorem bP {B T:Nat} {u:U} (h:UInv B T u) (f w:Int):UInv B (T+1) (ba u f w).u:=by
 unfold ba;split
 ·exact nN h f w
 ·split
  ·exact nN h f w
  ·rename_i ha;split
   ·exact nN h f w
   ·rename_i n hn;exact Bj (nN h f w) (show u.c.away=false by simpa using ha) ((ZO h.srv.hist.bM.up).1 hn).1 w _
theorem Aw {B:Nat} (w:Int):∀(l:List (List UInt8)) (T:Nat) (g:Got),UInv B T g.u->UInv B (T+l.length) (goR w l g).u
 | [],T,g,h=>by unfold goR;split<;>exact h
 | s::r,T,g,h=>by
  unfold goR;have hm:UInv B (T+(s::r).length) g.u:=h.mono (Nat.le_refl _) y8;split
  ·exact hm
  ·split
   ·exact hm
   ·split
    ·exact hm
    ·rename_i f _;have:=Aw w r (T+1) (ba g.u f w) (bP h f w)
     rwa [show T+1+r.length=T+(s::r).length by simp;omega] at this
theorem kj {B T:Nat} {u:U} (h:UInv B T u) (l:List (List UInt8)) (w:Int):UInv B (T+1+l.length) (goU u l w).u:=Aw w l (T+1) _ (bP h 0 w)
theorem bV (s:List UInt8):(af s).1.length≤41/\∀x,x∈(af s).1->x.length≤40/\cq x=true:=by
 unfold af;split
 ·simp
 ·rename_i h1;split
  ·simp
  ·split
   ·simp
   ·split
    ·rename_i h4;have h2:=qt 47 (s.drop 1);have h5:(s.drop 1).length=s.length-1:=List.length_drop;refine ⟨by show (cV 47 (s.drop 1)).length≤41;omega,λx hx=>⟨?_,List.all_eq_true.1 h4 x hx⟩⟩;have h3:=mb 47 (s.drop 1) x hx;omega
    ·simp
theorem ct {B T:Nat} {u:U} (h:UInv B T u) (path:List UInt8):UInv B (T+42) (ai u path).u:=by
 unfold ai;split
 ·exact h.mono (Nat.le_refl _) z8
 ·split
  ·exact h.mono (Nat.le_refl _) z8
  ·refine (kj h _ 0).mono (Nat.le_refl _) ?_;have:=(bV path).1;simp only[List.length_take];omega
theorem bF (u:U) (path:List UInt8):(ai u path).name.length≤40:=by
 unfold ai;split
 ·simp
 ·split
  ·simp
  ·rename_i h;refine ((bV path).2 _ ?_).1;have hi:(af path).1.length-1<(af path).1.length:=by omega
   rw[List.getD_eq_getElem?_getD,List.getElem?_eq_getElem hi];exact List.getElem_mem hi
theorem mT {l:List Node} (h:(l.map (·.fid)).Nodup):∀i,i<l.length->∀j,j<i->fW l j≠fW l i:=λi hi j hj e=>by
 unfold fW at e;rw[List.getD_eq_getElem?_getD,List.getD_eq_getElem?_getD,List.getElem?_eq_getElem hi,List.getElem?_eq_getElem (show j<l.length by omega)] at e;have:=(List.getElem_inj (xs:=l.map (·.fid)) (i:=j) (j:=i) (h₀:=by simp;omega) (h₁:=by simpa using hi) h).1 (by rw[List.getElem_map,List.getElem_map];exact e);omega
theorem ja (l:List Kept):(aL l).map (·.fid)=l.map λk=>k.node.fid:=by unfold aL;rw[List.map_map];rfl
theorem nq {l:List Kept} (h:(l.map λk=>k.node.fid).Nodup):qL l=true:=by
 refine decide_eq_true λi hi j hj=>?_
 have:=mT (l:=aL l) (by rw[ja];exact h) i (by simpa[aL] using hi) j hj;have hf:∀i,i<l.length->fW (aL l) i=wm l i:=λi hi=>by
  unfold fW wm aL;rw[List.getD_eq_getElem?_getD,List.getD_eq_getElem?_getD,List.getElem?_map,List.getElem?_eq_getElem hi];rfl
 rwa [hf j z8,hf i hi] at this
theorem eQ {c:Cli} (h:(c.cache.map λk=>k.node.fid).Nodup) (x:Node):x∈cF c↔∃k,k∈c.cache/\k.node=x:=by
 unfold cF;rw[t_ _ (mT (by rw[ja];exact h)),m_]
theorem iO (c:Cli):Up (cF c):=nk _
theorem Cd {c:Cli} (h:(c.cache.map λk=>k.node.fid).Nodup):(cF c).length=c.cache.length:=by
 unfold cF;rw[tZ _ (mT (by rw[ja];exact h))];simp[aL]
theorem CInv.bM {B T:Nat} {s:Srv} {c:Cli} (h:CInv B T s c):Good (cF c) where
 up:=iO c
 cT:=by
  obtain ⟨r,hr⟩:=h.cT;exact ⟨r,tt hr λn hn=>by
   obtain ⟨k,hk,rfl⟩:=(eQ h.nod n).1 hn;exact ⟨k.node,m_.2 ⟨k,hk,rfl⟩,rfl,rfl⟩⟩
 len:=by rw[Cd h.nod];have:=h.len;have:=h.room;omega
 data:=λn hn=>by obtain ⟨k,hk,rfl⟩:=(eQ h.nod n).1 hn;exact h.data k hk
 ent:=λn hn=>by obtain ⟨k,hk,rfl⟩:=(eQ h.nod n).1 hn;exact h.ent k hk
theorem CInv.ri {B T:Nat} {s:Srv} {c:Cli} (h:CInv B T s c):Ri (cF c):=⟨iO c,λn hn=>by
 obtain ⟨k,hk,rfl⟩:=(eQ h.nod n).1 hn;exact h.eup k hk⟩
theorem CInv.nmT {B T:Nat} {s:Srv} {c:Cli} (h:CInv B T s c):Nm (cF c):=⟨iO c,λn hn=>by
 obtain ⟨k,hk,rfl⟩:=(eQ h.nod n).1 hn;exact h.nam k hk⟩
theorem mY {room clk:Int} (hr:1≤room) {was:List Node} {a:Act}:∀(N:List Node) {l L:List Kept},(l.map λx=>x.node.fid).Nodup->(l.length:Int)≤room->cf room clk was a N l=some L ->
  (L.map λx=>x.node.fid).Nodup/\(L.length:Int)≤room/\∀x,x∈L->(x∈l/\∀n,n∈N->aR was a n=true->n.fid≠x.node.fid)\/∃n,n∈N/\aR was a n=true/\x.node=(fG was clk n).node/\x.dirty=true
 | [],l,L,hn,hl,h=>by
  rw[cf] at h;injection h with h
  subst h;exact ⟨hn,hl,λx hx=>.inl ⟨hx,λn hn=>by cases hn⟩⟩
 | n::r,l,L,hn,hl,h=>by
  rw[cf] at h;split at h
  ·rename_i hc;split at h
   ·cases h
   ·rename_i l' hk;have hp:=xb hr hn hl hk;obtain ⟨h1,h2,h3⟩:=mY hr r hp.nod hp.len h;refine ⟨h1,h2,λx hx=>?_⟩
    rcases h3 x hx with ⟨h4,h5⟩ | ⟨m,h4,h5⟩
    ·rcases hp.mem x h4 with ⟨h6,h7⟩ | ⟨h6,h7⟩
     ·refine .inl ⟨h6,λm hm hcm=>?_⟩
      rcases List.mem_cons.1 hm with rfl | hm
      ·exact λe=>h7 e.symm
      ·exact h5 m hm hcm
     ·exact .inr ⟨n,List.mem_cons_self,hc,h6,h7⟩
    ·exact .inr ⟨m,List.mem_cons_of_mem _ h4,h5⟩
  ·rename_i hc;obtain ⟨h1,h2,h3⟩:=mY hr r hn hl h;refine ⟨h1,h2,λx hx=>?_⟩
   rcases h3 x hx with ⟨h4,h5⟩ | ⟨m,h4,h5⟩
   ·refine .inl ⟨h4,λm hm hcm=>?_⟩
    rcases List.mem_cons.1 hm with rfl | hm
    ·exact absurd hcm hc
    ·exact h5 m hm hcm
   ·exact .inr ⟨m,List.mem_cons_of_mem _ h4,h5⟩
theorem yB {l L:List Rec} {r:Rec} (hl:l.length≤20) (h:dn l r=some L):L.length≤20/\∀x,x∈L->x∈l\/x=r:=by
 unfold dn at h;split at h
 ·injection h with h
  subst h;exact ⟨Nat.le_trans (List.length_filter_le _ _) hl,λx hx=>.inl (List.mem_filter.1 hx).1⟩
 ·split at h
  ·cases h
  ·rename_i hlt;injection h with h
   subst h;refine ⟨by simp;omega,λx hx=>?_⟩
   rcases List.mem_append.1 hx with hx | hx
   ·exact .inl ((kO l r).subset hx)
   ·exact .inr (List.mem_singleton.1 hx)
theorem xT {a b:Node} (h:bU false a b=true):a.fid=b.fid/\a.dir=b.dir/\a.data=b.data/\a.entries=b.entries:=by
 unfold bU at h;simp only[Bool.and_eq_true,beq_iff_eq,decide_eq_true_eq] at h;exact ⟨h.1.1.1.1,h.1.1.1.2,h.1.1.2,h.1.2⟩
theorem vP {was:List Node} {a:Act} {n:Node} (h:aR was a n≠true):∃o,aj was n.fid=some o/\bU false o n=true:=by
 unfold aR at h;cases e:aj was n.fid with
 | none=>rw[e] at h;simp at h
 | some o=>
  rw[e] at h;refine ⟨o,rfl,?_⟩;simp only[Bool.not_eq_true,Bool.not_eq_false',Bool.and_eq_true] at h;exact h.1
theorem zl {c:Cli} {a:Act} (h:ActS a):ActS (ez c a):=by unfold ez;split;exact ⟨h.name,h.toName,h.data⟩;exact h
theorem HL {B T:Nat} {s:Srv} {c:Cli} (h:CInv B T s c) {a:Act} (he:aC (cF c) (ez c a)=0) {L:List Kept} (hL:AD c a=some L) :
  let L':=L.filter λk=>bf (ky c a) k.node.fid
  (L'.map λx=>x.node.fid).Nodup/\(L'.length:Int)≤c.room/\Of (ky c a) L'/\∀x,x∈L'->x.dirty=false->x∈c.cache:=by
 intro L';obtain ⟨h1,h2,h3⟩:=mY (by have:=h.room;omega) _ h.nod h.len hL;have hg:=fm h.bM (ez c a) 0 he;refine ⟨h1.sublist ((List.filter_sublist).map _),?_,⟨λx hx=>?_⟩,λx hx hd=>?_⟩
 ·have:=List.length_filter_le (λk:Kept=>bf (ky c a) k.node.fid) L
  show ((L.filter _).length:Int)≤_
  omega
 ·obtain ⟨hx,hat⟩:=List.mem_filter.1 hx
  rcases h3 x hx with ⟨h4,h5⟩ | ⟨n,h4,h5,h6,h7⟩
  ·rw[cB] at hat;obtain ⟨m,hm⟩:=Option.isSome_iff_exists.1 hat;obtain ⟨hm,hmf⟩:=(ZO hg.up).1 hm;have hno:aR (cF c) (ez c a) m≠true:=λhc=>h5 m hm hc hmf
   obtain ⟨o,ho,hs⟩:=vP hno;have hx2:aj (cF c) m.fid=some x.node:=(ZO (iO c)).2 ⟨(eQ h.nod _).2 ⟨x,h4,rfl⟩,hmf.symm⟩;rw[hx2] at ho;injection ho with ho
   subst ho;obtain ⟨k1,k2,k3,k4⟩:=xT hs;exact ⟨m,hm,hmf,k2.symm,k3.symm,k4.symm⟩
  ·exact ⟨n,h4,by rw[h6];rfl,by rw[h6];rfl,by rw[h6];rfl,by rw[h6];rfl⟩
 ·obtain ⟨hx,_⟩:=List.mem_filter.1 hx
  rcases h3 x hx with ⟨h4,_⟩ | ⟨n,_,_,_,h7⟩
  ·exact h4
  ·rw[hd] at h7;cases h7
theorem FL {B T:Nat} {u:U} (h:UInv B T u) (ha:u.c.away=true) {a:Act} (hs:ActS a) (seen:Int):UInv (B+1) T (oZ u a seen).u:=by
 have hm:=h.mono (Nat.le_succ B) (Nat.le_refl T);unfold oZ;split
 ·exact hm
 ·rename_i he;have he:aC (cF u.c) (ez u.c a)=0:=by omega
  split
  ·exact hm
  ·rename_i log hlog;split
   ·exact hm
   ·rename_i L hL;obtain ⟨h1,h2,h3,h4⟩:=HL h.cli he hL;have hg:=fm h.cli.bM (ez u.c a) 0 he;have hri:Ri (ky u.c a):=by unfold ky;rw[←h.cli.bM.aG];exact h.cli.ri.apply _ _
    have hnm:Nm (ky u.c a):=by unfold ky;rw[←h.cli.bM.aG];exact h.cli.nmT.apply _ _
    obtain ⟨g1,g2⟩:=yB h.cli.log hlog;refine ⟨hm.srv,?_⟩;have hc:=hm.cli;exact { hc with
     nod:=h1
     len:=h2
     cT:=h3.cT hg.cT
     data:=λk hk=>by obtain ⟨n,k1,_,_,k2,_⟩:=h3.each k hk;rw[←k2];exact hg.data n k1
     ent:=λk hk=>by obtain ⟨n,k1,_,_,_,k2⟩:=h3.each k hk;rw[←k2];exact hg.ent n k1
     eup:=λk hk=>by obtain ⟨n,k1,_,_,_,k2⟩:=h3.each k hk;rw[←k2];exact hri.eup n k1
     nam:=λk hk=>by obtain ⟨n,k1,_,_,_,k2⟩:=h3.each k hk;rw[←k2];exact hnm.nm n k1
     here:=λh0=>by simp only[ha] at h0;cases h0
     hst:=λk hk hd=>h.cli.hst k (h4 k hk hd) hd
     log:=g1
     logS:=λr hr=>by
      rcases g2 r hr with h5 | rfl
      ·exact h.cli.logS r h5
      ·exact zl hs
     made:=by have:=h.cli.made;show 0≤(if aM a=true then u.c.made+1 else u.c.made)/\(if aM a=true then u.c.made+1 else u.c.made)≤((B+1:Nat):Int);split<;>omega
     logged:=by have:=h.cli.logged;show 0≤u.c.logged+1/\u.c.logged+1≤((B+1:Nat):Int);omega }
theorem CInv.grow {B B' T:Nat} {s s':Srv} {c:Cli} (h:CInv B T s c) (hB:B≤B') (hh:Hist s.past s.tree) (hg:Grown s s'):CInv B' T s' (fI s'.tree c):=by
 have hm:=h.mono hB (Nat.le_refl T);unfold fI;split
 ·rename_i ha;exact { hm with here:=λh0=>(by rw[ha] at h0;cases h0),hst:=λk hk hd=>(h.hst k hk hd).grow hh hg }
 ·rename_i ha;have ha:c.away=false:=by simpa using ha
  unfold mU;have hsub:(c.cache.filter λk=>!bD s'.tree k).Sublist c.cache:=List.filter_sublist;have hin:∀k,k∈c.cache.filter (λk=>!bD s'.tree k)->k.dirty=false/\k.node∈s'.tree:=λk hk=>by
   obtain ⟨hk,hst⟩:=List.mem_filter.1 hk;have hd:=((h.here ha).2 k hk).1;exact ⟨hd,uc hg.hist ((h.hst k hk hd).grow hh hg) hd (by simpa using hst)⟩
  exact { hm with
   nod:=h.nod.sublist (hsub.map _)
   len:=by have:=hsub.length_le;have:=h.len;show ((c.cache.filter _).length:Int)≤c.room;omega
   cT:=(Of.mem λk hk=>(hin k hk).2).cT hg.hist.bM.cT
   data:=λk hk=>h.data k (hsub.subset hk)
   ent:=λk hk=>h.ent k (hsub.subset hk)
   eup:=λk hk=>h.eup k (hsub.subset hk)
   nam:=λk hk=>h.nam k (hsub.subset hk)
   here:=λ_=>⟨(h.here ha).1,hin⟩
   hst:=λk hk hd=>(h.hst k (hsub.subset hk) hd).grow hh hg }
theorem E_ {s:Srv} {a:Act} (h:ActFit a):ActFit (doA s a):=by unfold doA;split;exact ⟨h.name,h.toName,h.data⟩;exact h
theorem wI {s:Srv} (h:Hist s.past s.tree) (c:Int) {a:Act} (ha:ActFit a) (he:doE s a=0):Grown s (doS s c a):=⟨Hist.snoc c _ h (E_ ha) he,_,rfl⟩
theorem rz {s:Srv} (h:Hist s.past s.tree) (c:Int) {log:List Rec} (hl:∀r,r∈log->ActFit r.act):Grown s (kZ s c log):=⟨(JInv.rC h c s.next log hl).hist,_,rfl⟩
theorem C4 {B T:Nat} {u:U} (h:UInv B T u) (ha:u.c.away=false) {a:Act} (hs:ActS a):UInv (B+1) T (kV u a).u:=by
 unfold kV;split
 ·rename_i he;have hg:=wI h.srv.hist u.c.number hs.fit he;have:=h.cli.grow (Nat.le_succ B) h.srv.hist hg;unfold fI at this;rw[if_neg (by simp[ha])] at this;exact ⟨h.srv.step u.c.number hs.fit he,this⟩
 ·exact h.mono (Nat.le_succ B) (Nat.le_refl T)
theorem iT {B T:Nat} {u:U} (h:UInv B T u) {a:Act} (hs:ActS a) (seen:Int):UInv (B+1) T (cU u a seen).u:=by
 unfold cU;split
 ·rename_i ha;exact FL h ha hs seen
 ·rename_i ha;exact C4 h (by simpa using ha) hs
theorem AE {B T:Nat} {g:Got} (h:UInv B T g.u) {data:List UInt8} (hd:data.length≤20):UInv (B+1) T (lf g data).u:=by
 unfold lf;split
 ·exact h.mono (Nat.le_succ B) (Nat.le_refl T)
 ·exact iT h ⟨by simp[bX],by simp[bX],hd⟩ _
theorem Cn {B T:Nat} {u:U} (h:UInv B T u) (path data:List UInt8):UInv (B+2) (T+100) (cx u path data).u:=by
 have hd:=ct h path;have hn:=bF u path;unfold cx;split
 ·exact hd.mono z8 z8
 ·split
  ·exact hd.mono z8 z8
  ·rename_i hdl;split
   ·rename_i f _;exact (AE (bP hd f 0) z8).mono z8 z8
   ·have hm:=iT hd (a:=dr (ai u path).n.fid (ai u path).name) ⟨hn,by simp[dr],by simp[dr]⟩ (-1);split
    ·exact hm.mono z8 z8
    ·have:=(bV path).1;exact (AE (kj hm (af path).1 0) z8).mono z8 z8
theorem Bv {B T:Nat} {u:U} (h:UInv B T u) (path:List UInt8):UInv (B+2) (T+100) (gj u path).u:=by
 have hd:=ct h path;have hn:=bF u path;unfold gj;split
 ·exact hd.mono z8 z8
 ·exact (iT hd (a:=g_ (ai u path).n.fid (ai u path).name) ⟨hn,by simp[g_],by simp[g_]⟩ (-1)).mono z8 z8
theorem qp {B T:Nat} {u:U} (h:UInv B T u) (path:List UInt8):UInv B (T+43) (atU u path).u/\(atU u path).name.length≤40:=by
 have hd:=ct h path;have hn:=bF u path;unfold atU;split
 ·exact ⟨hd.mono z8 z8,by simp⟩
 ·split
  ·exact ⟨hd.mono z8 z8,by simp⟩
  ·rename_i f _;exact ⟨bP hd f 0,hn⟩
theorem zo {B T:Nat} {u:U} (h:UInv B T u) (path:List UInt8):UInv (B+2) (T+100) (bC u path).u:=by
 obtain ⟨hd,hn⟩:=qp h path;unfold bC;split
 ·exact hd.mono z8 z8
 ·exact (iT hd (a:=cR (atU u path).n.fid (atU u path).d (atU u path).name) ⟨hn,by simp[cR],by simp[cR]⟩ _).mono z8 z8
theorem Ds {B T:Nat} {u:U} (h:UInv B T u) (path to:List UInt8):UInv (B+2) (T+100) (c_ u path to).u:=by
 obtain ⟨hd,hn⟩:=qp h path;unfold c_;split
 ·exact hd.mono z8 z8
 ·have h2:=ct hd to;have hn2:=bF (atU u path).u to;split
  ·exact h2.mono z8 z8
  ·exact (iT h2 (a:=ef (atU u path).n.fid (atU u path).d (atU u path).name (ai (atU u path).u to).n.fid (ai (atU u path).u to).name) ⟨hn,hn2,by simp[ef]⟩ _).mono z8 z8
theorem nZ:∀(l:List Rec) (vs:List Verdict),(∀r,r∈cv l vs->r∈l)/\(cv l vs).length≤l.length
 | [],vs=>by cases vs<;>exact ⟨λr hr=>(by cases hr),Nat.le_refl _⟩
 | r::l,[]=>⟨λr hr=>(by cases hr),Nat.zero_le _⟩
 | r::l,v::vs=>by
  obtain ⟨h1,h2⟩:=nZ l vs;unfold cv;split
  ·exact ⟨λx hx=>List.mem_cons_of_mem _ (h1 x hx),by simp;omega⟩
  ·refine ⟨λx hx=>?_,by simp;omega⟩
   rcases List.mem_cons.1 hx with rfl | hx
   ·exact List.mem_cons_self
   ·exact List.mem_cons_of_mem _ (h1 x hx)
theorem Cx {B T:Nat} {u:U} (h:UInv B T u):UInv (B+20) T (kT u):=by
 have hlf:∀r,r∈u.c.log->ActFit r.act:=λr hr=>(h.cli.logS r hr).fit
 have hg:=rz h.srv.hist u.c.number hlf;have hl:=h.cli.log;have hs:=(h.srv.take u.c.number hlf).mono (show B+u.c.log.length≤B+20 by omega);obtain ⟨r1,r2⟩:=nZ u.c.log (aK u);have hc:=(h.cli).mono (show B≤B+20 by omega) (Nat.le_refl T);have hsub:((u.c.cache.filter λk=>!k.dirty).filter λk=>!bD (gY u).tree k).Sublist u.c.cache:=List.filter_sublist.trans List.filter_sublist;have hin:∀k,k∈(u.c.cache.filter λk=>!k.dirty).filter (λk=>!bD (gY u).tree k)->k.dirty=false/\k.node∈(gY u).tree:=λk hk=>by
  obtain ⟨hk,hst⟩:=List.mem_filter.1 hk;obtain ⟨hk,hd⟩:=List.mem_filter.1 hk;have hd:k.dirty=false:=by simpa using hd
  exact ⟨hd,uc hg.hist ((h.cli.hst k hk hd).grow h.srv.hist hg) hd (show bD (gY u).tree k=false by simpa using hst)⟩
 refine ⟨hs,?_⟩;exact { hc with
  nod:=h.cli.nod.sublist (hsub.map _)
  len:=by have:=hsub.length_le;have:=h.cli.len;show ((List.filter _ (u.c.cache.filter _)).length:Int)≤u.c.room;omega
  cT:=(Of.mem λk hk=>(hin k hk).2).cT hg.hist.bM.cT
  data:=λk hk=>h.cli.data k (hsub.subset hk)
  ent:=λk hk=>h.cli.ent k (hsub.subset hk)
  eup:=λk hk=>h.cli.eup k (hsub.subset hk)
  nam:=λk hk=>h.cli.nam k (hsub.subset hk)
  here:=λ_=>⟨rfl,hin⟩
  hst:=λk hk _=>Hst.at hg.hist (hin k hk).2
  log:=Nat.zero_le _
  logS:=λr hr=>by cases hr
  rep:=by have:=h.cli.rep;show (u.c.repair++_).length≤_;rw[List.length_append];omega
  repS:=λr hr=>by
   rcases List.mem_append.1 hr with hr | hr
   ·exact h.cli.repS r hr
   ·exact h.cli.logS r (r1 r hr) }
theorem vw {s:List UInt8} (h:(af s).2=0):s.length≤40:=by
 unfold af at h;split at h
 ·cases h
 ·omega
theorem Be {B T:Nat} {u:U} (h:UInv B T u) (path:List UInt8) (w:Int):UInv B T (dB u path w).u:=by
 unfold dB;split
 ·exact h
 ·rename_i hs;have hs:=vw (s:=path) z8;split
  ·exact h
  ·rename_i hw;split
   ·exact h
   ·rename_i hm;have hfl:=List.length_filter_le (λh:Hoard=>!(h.path==path)) u.c.hoards;have h6:=h.cli.hoards;refine ⟨h.srv,?_⟩;have hc:=h.cli;exact { hc with
     hoards:=by
      show (if 0<w then cd u.c.hoards path++[⟨path,w⟩] else cd u.c.hoards path).length≤6
      split
      ·rename_i h0;have:¬(cd u.c.hoards path).length≥6:=λh1=>hm ⟨h0,h1⟩
       simp;omega
      ·exact Nat.le_trans hfl h6
     hoardS:=λx hx=>by
      have hx:x∈(if 0<w then cd u.c.hoards path++[⟨path,w⟩] else cd u.c.hoards path):=hx;split at hx
      ·rcases List.mem_append.1 hx with hx | hx
       ·exact h.cli.hoardS x (List.mem_filter.1 hx).1
       ·rw[List.mem_singleton.1 hx];exact ⟨hs,by show 1≤w/\w≤100;omega⟩
      ·exact h.cli.hoardS x (List.mem_filter.1 hx).1 }
theorem sw {B T:Nat} {g:GotV} (h:UInv B T g.u) (x:Hoard):UInv B (T+42) (eW g x).u:=by
 have:=(bV x.path).1;exact (kj h (af x.path).1 x.worth).mono (Nat.le_refl _) z8
theorem sv {B:Nat}:∀(l:List Hoard) (T:Nat) (g:GotV),UInv B T g.u->UInv B (T+42*l.length) (l.foldl eW g).u
 | [],T,g,h=>h
 | x::l,T,g,h=>by
  have:=sv l (T+42) (eW g x) (sw h x);rw[show T+42+42*l.length=T+42*(x::l).length by simp;omega] at this;exact this
theorem zk (l:List Hoard):∀w,(bo l w).length≤l.length:=λw=>by
 have key:∀w,(bo l w).length+(l.filter λh=>decide (h.worth>((w:Nat):Int))).length≤l.length:=λw=>by
  induction w with
  | zero=>rw[bo,List.length_nil,Nat.zero_add];exact List.length_filter_le _ _
  | succ w ih=>
   rw[bo,List.length_append];have h1:∀m:List Hoard,(m.filter λh=>h.worth==((w+1:Nat):Int)).length+(m.filter λh=>decide (h.worth>((w+1:Nat):Int))).length≤(m.filter λh=>decide (h.worth>((w:Nat):Int))).length:=λm=>by
    induction m with
    | nil=>simp
    | cons x m ihm=>
     simp only[List.filter_cons]
     by_cases e1:x.worth=((w+1:Nat):Int)
     ·rw[if_pos (by simpa using e1),if_neg k9,if_pos k9];simp only[List.length_cons];omega
     ·rw[if_neg (by simpa using e1)]
      by_cases e2:x.worth>((w+1:Nat):Int)
      ·rw[if_pos Qo,if_pos k9];simp only[List.length_cons];omega
      ·rw[if_neg Qo,if_neg (by simp only[decide_eq_true_eq];omega)];exact ihm
   have:=h1 l;omega
 have:=key w;omega
theorem Cj {B T:Nat} {u:U} (h:UInv B T u):UInv B (T+252) (eG u).u:=by
 have:=zk u.c.hoards 100;have h6:=h.cli.hoards;exact (sv (bo u.c.hoards 100) T ⟨0,u⟩ h).mono (Nat.le_refl _) z8
theorem sg {B T:Nat} {u:U} (h:UInv B T u) (x:Step):UInv (B+20) (T+300) (aw u x).u:=by
 have hm:=h.mono (show B≤B+20 by omega) (show T≤T+300 by omega);unfold aw;split
 ·split
  ·exact hm
  ·have:=(bV x.path).1;exact (kj h (af x.path).1 0).mono z8 z8
 ·split
  ·exact (Cn h x.path x.data).mono z8 z8
  ·split
   ·exact (Bv h x.path).mono z8 z8
   ·split
    ·exact (zo h x.path).mono z8 z8
    ·split
     ·exact (Ds h x.path x.toPath).mono z8 z8
     ·split
      ·exact ⟨hm.srv,{ hm.cli with here:=λh0=>by cases h0 }⟩
      ·split
       ·exact (Cx h).mono z8 z8
       ·split
        ·exact (Be h x.path x.n).mono z8 z8
        ·split
         ·split
          ·exact hm
          ·exact (Cj h).mono z8 z8
         ·exact hm
theorem Fp (u:U) (k:Kept):(fZ u k).s=u.s:=by unfold fZ;split<;>rfl
theorem rr (u:U) (f w:Int):(ba u f w).u.s=u.s:=by
 unfold ba;split
 ·rfl
 ·split
  ·rfl
  ·split
   ·rfl
   ·exact Fp _ _
theorem G9 (w:Int):∀(l:List (List UInt8)) (g:Got),(goR w l g).u.s=g.u.s
 | [],g=>by unfold goR;split<;>rfl
 | s::r,g=>by
  unfold goR;split
  ·rfl
  ·split
   ·rfl
   ·split
    ·rfl
    ·rw[G9 w r,rr]
theorem Ay (u:U) (l:List (List UInt8)) (w:Int):(goU u l w).u.s=u.s:=by unfold goU;rw[G9,rr]
theorem gO (u:U) (path:List UInt8):(ai u path).u.s=u.s:=by
 unfold ai;split
 ·rfl
 ·split
  ·rfl
  ·exact Ay _ _ _
theorem vJ (u:U) (path:List UInt8):(atU u path).u.s=u.s:=by
 unfold atU;split
 ·exact gO _ _
 ·split
  ·exact gO _ _
  ·show (ba _ _ _).u.s=_;rw[rr,gO]
theorem yn:∀(l:List Hoard) (g:GotV),(l.foldl eW g).u.s=g.u.s
 | [],_=>rfl
 | x::l,g=>by rw[List.foldl_cons,yn l];exact Ay _ _ _
theorem Fi (u:U) (f w:Int):(ba u f w).u.c.number=u.c.number/\(ba u f w).u.c.room=u.c.room/\(ba u f w).u.c.away=u.c.away/\(ba u f w).u.c.log=u.c.log/\(ba u f w).u.c.repair=u.c.repair/\(ba u f w).u.c.hoards=u.c.hoards/\(ba u f w).u.c.made=u.c.made/\(ba u f w).u.c.logged=u.c.logged:=by
 unfold ba;split
 ·exact ⟨rfl,rfl,rfl,rfl,rfl,rfl,rfl,rfl⟩
 ·split
  ·exact ⟨rfl,rfl,rfl,rfl,rfl,rfl,rfl,rfl⟩
  ·split
   ·exact ⟨rfl,rfl,rfl,rfl,rfl,rfl,rfl,rfl⟩
   ·show (fZ _ _).c.number=_/\_
    unfold fZ;split<;>exact ⟨rfl,rfl,rfl,rfl,rfl,rfl,rfl,rfl⟩
structure Idle (u u':U):Prop where
 s:u'.s=u.s
 number:u'.c.number=u.c.number
 room:u'.c.room=u.c.room
 away:u'.c.away=u.c.away
 log:u'.c.log=u.c.log
 rep:u'.c.repair=u.c.repair
 hoards:u'.c.hoards=u.c.hoards
 made:u'.c.made=u.c.made
 logged:u'.c.logged=u.c.logged
theorem Idle.refl (u:U):Idle u u:=⟨rfl,rfl,rfl,rfl,rfl,rfl,rfl,rfl,rfl⟩
theorem Idle.trans {a b c:U} (h:Idle a b) (k:Idle b c):Idle a c:=⟨k.s.trans h.s,k.number.trans h.number,k.room.trans h.room,k.away.trans h.away,k.log.trans h.log,k.rep.trans h.rep,k.hoards.trans h.hoards,k.made.trans h.made,k.logged.trans h.logged⟩
theorem tw (u:U) (f w:Int):Idle u (ba u f w).u:=by
 obtain ⟨h1,h2,h3,h4,h5,h6,h7,h8⟩:=Fi u f w;exact ⟨rr u f w,h1,h2,h3,h4,h5,h6,h7,h8⟩
theorem wE (w:Int):∀(l:List (List UInt8)) (g:Got),Idle g.u (goR w l g).u
 | [],g=>by unfold goR;split<;>exact Idle.refl _
 | s::r,g=>by
  unfold goR;split
  ·exact Idle.refl _
  ·split
   ·exact Idle.refl _
   ·split
    ·exact Idle.refl _
    ·exact (tw _ _ _).trans (wE w r _)
theorem C1 (u:U) (l:List (List UInt8)) (w:Int):Idle u (goU u l w).u:=(tw u 0 w).trans (wE w l _)
theorem Is (u:U) (a:Act) (seen:Int):(oZ u a seen).u.s=u.s:=by
 unfold oZ;split
 ·rfl
 ·split
  ·rfl
  ·split<;>rfl
theorem js {B T:Nat} {u:U} (h:UInv B T u) {a:Act} (hs:ActS a) (seen:Int):Grown u.s (cU u a seen).u.s:=by
 unfold cU;split
 ·rw[Is];exact Grown.refl h.srv.hist
 ·unfold kV;split
  ·rename_i he;exact wI h.srv.hist u.c.number hs.fit he
  ·exact Grown.refl h.srv.hist
theorem grown_of {u u' v:U} (hi:u'.s=u.s) (h:Grown u'.s v.s):Grown u.s v.s:=by rw[hi] at h;exact h
theorem tU {B T:Nat} {g:Got} (h:UInv B T g.u) {data:List UInt8} (hd:data.length≤20):Grown g.u.s (lf g data).u.s:=by
 unfold lf;split
 ·exact Grown.refl h.srv.hist
 ·exact js h ⟨by simp[bX],by simp[bX],hd⟩ _
theorem eC {B T:Nat} {u v:U} (h:UInv B T u) (hs:v.s=u.s):Grown u.s v.s:=by rw[hs];exact Grown.refl h.srv.hist
theorem yA {B T:Nat} {u:U} (h:UInv B T u) (path data:List UInt8):Grown u.s (cx u path data).u.s:=by
 have hd:=ct h path;have hn:=bF u path;unfold cx;split
 ·exact eC h (gO u path)
 ·split
  ·exact eC h (gO u path)
  ·split
   ·rename_i f _;exact grown_of (u':=(ba (ai u path).u f 0).u) (by rw[rr,gO]) (tU (bP hd f 0) z8)
   ·have ha:ActS (dr (ai u path).n.fid (ai u path).name):=⟨hn,by simp[dr],by simp[dr]⟩;have hg:=js hd ha (-1);have hm:=iT hd ha (-1);split
    ·exact grown_of (gO u path) hg
    ·exact grown_of (gO u path) (hg.trans (grown_of (u':=(goU _ _ _).u) (Ay _ _ _) (tU (kj hm (af path).1 0) z8)))
theorem zS {B T:Nat} {u:U} (h:UInv B T u) (x:Step):Grown u.s (aw u x).u.s:=by
 unfold aw;split
 ·split
  ·exact Grown.refl h.srv.hist
  ·exact eC h (Ay _ _ _)
 ·split
  ·exact yA h _ _
  ·split
   ·unfold gj;split
    ·exact eC h (gO _ _)
    ·exact grown_of (gO u x.path) (js (ct h x.path) ⟨bF u x.path,by simp[g_],by simp[g_]⟩ (-1))
   ·split
    ·unfold bC;obtain ⟨hd,hn⟩:=qp h x.path;split
     ·exact eC h (vJ _ _)
     ·exact grown_of (vJ u x.path) (js hd ⟨hn,by simp[cR],by simp[cR]⟩ _)
    ·split
     ·unfold c_;obtain ⟨hd,hn⟩:=qp h x.path;split
      ·exact eC h (vJ _ _)
      ·split
       ·exact eC h (by rw[gO,vJ])
       ·exact grown_of (u':=(ai (atU u x.path).u x.toPath).u) (by rw[gO,vJ]) (js (ct hd x.toPath) ⟨hn,bF _ _,by simp[ef]⟩ _)
     ·split
      ·exact Grown.refl h.srv.hist
      ·split
       ·exact rz h.srv.hist u.c.number λr hr=>(h.cli.logS r hr).fit
       ·split
        ·unfold dB;split
         ·exact Grown.refl h.srv.hist
         ·split
          ·exact Grown.refl h.srv.hist
          ·split<;>exact Grown.refl h.srv.hist
        ·split
         ·split
          ·exact Grown.refl h.srv.hist
          ·exact eC h (yn _ _)
         ·exact Grown.refl h.srv.hist
structure WInv (B T:Nat) (w:Wor):Prop where
 srv:SrvOK B w.s
 cli:∀c,c∈w.cs->CInv B T w.s c
 len:w.cs.length≤3
theorem WInv.at {B T:Nat} {w:Wor} (h:WInv B T w) {i:Nat} (hi:i<w.cs.length):UInv B T ⟨w.cs.getD i default,w.s⟩:=⟨h.srv,h.cli _ (YG hi)⟩
theorem Cm {B T:Nat} {w:Wor} (h:WInv B T w) (x:Step):WInv (B+20) (T+300) (gr w x).w:=by
 unfold gr;split
 ·exact ⟨h.srv.mono z8,λc hc=>(h.cli c hc).mono z8 z8,h.len⟩
 ·rename_i hx;have hi:x.client.toNat<w.cs.length:=by omega
  have hu:=h.at hi;have h1:=sg hu x;have h2:=zS hu x;refine ⟨h1.srv,λc hc=>?_,by simp;exact h.len⟩;obtain ⟨d,hd,rfl⟩:=List.mem_map.1 hc
  rcases List.mem_or_eq_of_mem_set hd with hd | rfl
  ·exact ((h.cli d hd).mono (Nat.le_refl B) (show T≤T+300 by omega)).grow z8 h.srv.hist h2
  ·exact h1.cli.grow (Nat.le_refl _) h1.srv.hist (Grown.refl h1.srv.hist)
theorem FF {rooms:List Int} (h:dY rooms=0):WInv 0 0 (Du rooms):=by
 unfold dY at h;split at h
 ·cases h
 ·split at h
  ·rename_i hr hall;refine ⟨SrvOK.new,λc hc=>?_,by simp[Du,mK];omega⟩;obtain ⟨j,hj,rfl⟩:=List.mem_map.1 hc;have hj:j<rooms.length:=List.mem_range.1 hj;have:=List.all_eq_true.1 hall (rooms.getD j 0) (by rw[List.getD_eq_getElem?_getD,List.getElem?_eq_getElem hj];exact List.getElem_mem hj);simp only[Bool.and_eq_true,decide_eq_true_eq] at this;exact CInv.new 0 0 _ j _ this
  ·cases h
theorem qQ:∀(l:List Step) {B T:Nat} {w:Wor},WInv B T w->WInv (B+20*l.length) (T+300*l.length) (l.foldl (λw x=>(gr w x).w) w)
 | [],_,_,_,h=>h
 | x::l,B,T,w,h=>by
  have:=qQ l (Cm h x);rw[show B+20+20*l.length=B+20*(x::l).length by simp;omega,show T+300+300*l.length=T+300*(x::l).length by simp;omega] at this;exact this
theorem tf {rooms:List Int} (h:dY rooms=0) (l:List Step):WInv (20*l.length) (300*l.length) (uo rooms l):=by
 have:=qQ l (FF h)
 rwa [Nat.zero_add,Nat.zero_add] at this
end La
