/- Texts of this claim, part 24: RJud. No condition. -/
import Derived.Test.YtdcmhdkpfllnlaaGreatDoorXC19
import Derived.Test.YtdcmhdkpfllnlaaGreatDoorXC20
import Derived.Test.YtdcmhdkpfllnlaaGreatDoorXC21
import Derived.Test.YtdcmhdkpfllnlaaGreatDoorXC11
import Derived.Test.YtdcmhdkpfllnlaaGreatDoorXC8
set_option maxRecDepth 10000
set_option maxHeartbeats 4000000
set_option linter.unusedSimpArgs false
set_option linter.unusedVariables false
namespace La
open Go Go.Eng Go.Proofs
theorem Bs {m:List (Int×Int)} {f x:Int}:gQ m f=false->dX (br m f x) f=m:=by
 intro h;have hno:∀{m:List (Int×Int)},gQ m f=false->∀q,q∈m->q.1≠f:=by
  intro m
  induction m with
  | nil=>intro _ q hq;cases hq
  | cons a r ih=>
   intro h q hq;unfold gQ at h ih;simp only[bg] at h;split at h
   ·simp at h
   ·rename_i hne
    rcases List.mem_cons.1 hq with rfl | hq
    ·exact hne
    ·exact ih h q hq
 have hfl:∀{m:List (Int×Int)},(∀q,q∈m->q.1≠f)->dX m f=m:=λhm=>List.filter_eq_self.2 λq hq=>by simp[hm q hq]
 have hn:=hno h;clear h
 induction m with
 | nil=>simp[br,dX]
 | cons a r ih=>
  have ha:=hn a List.mem_cons_self;have hr:∀q,q∈r->q.1≠f:=λq hq=>hn q (List.mem_cons_of_mem _ hq)
  simp only[br,if_neg ha];split
  ·have:=hfl hn;unfold dX at this ⊢;rw[List.filter_cons,if_neg y8];exact this
  ·have:=ih hr;unfold dX at this ⊢;rw[List.filter_cons,if_pos (by simp[ha]),this]
theorem rP {j:JS} {r:Rec} (h:aM r.act=false):cm j r=j.own:=by unfold cm;rw[h];rfl
theorem zQ {j:JS} {r:Rec} {a:Act} (hk:a.kind=r.act.kind) (h:aM r.act=true):eV j r a=false:=by
 unfold eV;rw[if_pos];left;left;rw[hk];unfold aM at h;simp only[Bool.or_eq_true,beq_iff_eq] at h;omega
theorem Cb {s:JG} {r:Rec} {e:Int} (he:iR s.j r=e) (h:e≠0):kY s r=⟨uS s.j r.act.fid,s.vs++[⟨e,0⟩],s.done⟩:=by
 subst he;unfold kY jo;rw[if_neg h,if_neg h];have:eU s.j r=s.j:=by
  unfold eU;unfold iR at h;split
  ·rfl
  ·rename_i h1;rw[if_neg h1] at h;split
   ·rfl
   ·rename_i h2;rw[if_neg h2] at h;cases hm:aM r.act with
    | false=>
     rw[rP hm] at h ⊢;split
     ·rfl
     ·split
      ·rfl
      ·rename_i h3 h4;rw[if_neg h3] at h;simp at h4;exact absurd h4 h
    | true=>
     have hs:eV { s.j with own:=cm s.j r } r (bE s.j r)=false:=zQ rfl hm;rw[hs] at h ⊢;simp only[Bool.false_eq_true,if_false] at h ⊢;rw[if_pos h];have hh:gQ s.j.own r.act.fid=false:=by
      cases e:gQ s.j.own r.act.fid with
      | false=>rfl
      | true=>exact absurd ⟨hm,.inl e⟩ h2
     simp only[if_true];unfold cm;rw[hm];simp only[if_true];rw[Bs hh]
 rw[this]
theorem zR {s:JG} {r:Rec} (h:iR s.j r=0):kY s r=⟨⟨aG s.j.l (bE s.j r) s.j.version,if aM r.act=true then s.j.next+1 else s.j.next,s.j.version+1,cm s.j r,jb s.j.ours (bO (bE s.j r)),s.j.lost⟩,s.vs++[⟨0,(bE s.j r).fid⟩],s.done++[bE s.j r]⟩:=by
 unfold kY jo;rw[if_pos h,if_pos h,h];unfold iR at h;split at h
 ·omega
 ·rename_i c1;split at h
  ·omega
  ·rename_i c2;split at h
   ·omega
   ·rename_i c3;have hJ:eU s.j r={ s.j with l:=aG s.j.l (bE s.j r) s.j.version,next:=if aM r.act=true then s.j.next+1 else s.j.next,version:=s.j.version+1,own:=cm s.j r }:=by
     unfold eU;rw[if_neg c1,if_neg c2,if_neg c3,if_neg Z9]
    have hA:jn s.j r=bE s.j r:=by unfold jn;rw[if_neg c1,if_neg c2]
    rw[hJ,hA]
theorem zg {α:Type} {n:Int} {v:α} (kvs:List (Int×α)) (k:Int):bg (br kvs n v) k=if k=n then some v else bg kvs k:=by
 induction kvs with
 | nil=>
  simp only[br,bg]
  by_cases e:n=k
  ·rw[if_pos e,if_pos e.symm]
  ·rw[if_neg e,if_neg (λh=>e h.symm)]
 | cons p r ih=>
  simp only[br];split
  ·rename_i hp;simp only[bg]
   by_cases e:n=k
   ·rw[if_pos e,if_pos e.symm]
   ·rw[if_neg e,if_neg (λh=>e h.symm),if_neg z8]
  ·split
   ·simp only[bg]
    by_cases e:n=k
    ·rw[if_pos e,if_pos e.symm]
    ·rw[if_neg e,if_neg (λh:k=n=>e h.symm)]
   ·simp only[bg]
    by_cases e:p.1=k
    ·rw[if_pos e,if_neg z8,if_pos e]
    ·rw[if_neg e,ih,if_neg e]
theorem uk (m:List (Int×Int)) (f x k:Int):atF (br m f x) k=if k=f then x else atF m k:=by
 unfold atF gQ Fh;rw[zg]
 by_cases e:k=f
 ·rw[if_pos e,if_pos e];rfl
 ·rw[if_neg e,if_neg e]
def atH (m:List (Int×Int)) (G Y N:Nat->Nat):List (Nat×Blk):=[(10,.cells 221 1 [[.mp 33]]),(33,.map (mI m))]++pins [10,33] G Y N
theorem HO (m:List (Int×Int)) (f:Int) (G Y N:Nat->Nat):ae Tryz.prog 162 [.int .i64 f,.ptr 10 1 0 0] (atH m G Y N) (λr H=>r=.int .i64 (atF m f)/\Holds (atH m G Y N) H):=by
 unfold atH;refine ZF tK (Tryz.func162) rfl (λC=>?_);simp only[Tryz.ntmps162,Tryz.results162,go_sem];refine wG tK ?_;cases h0:gQ m f with
 | true=>
  refine wDT (hb:=Zi) (hk:=?_);refine wG tK ?_;refine wU ?_ ?_
  ·unfold atF;rw[h0];rfl
  ·exact q9q
 | false=>
  refine wDF (hb:=Zi) (hk:=?_);refine wG tK ?_;refine wU ?_ ?_
  ·unfold atF;rw[h0];rfl
  ·exact q9q
noncomputable def uN (g:JG):AV:=.agg [.sl (g.vs.map ZV),.sl (g.done.map ZA),.rm (mN (bB g.j.l)),.int .i64 g.j.next]
def jgR (s:JG):List (Nat×Blk):=[(214,.cells 145 2 (s.vs.map ZV)),(177,.cells 88 7 (s.done.map ZA)),(9,.cells 201 4 [[.osl 214 2 0 s.vs.length,.osl 177 7 0 s.done.length,.rm (mN (bB s.j.l)),.int .i64 s.j.next]]),(33,.map (mI s.j.own)),(34,.map (mB s.j.lost)),(35,.map (mB s.j.ours))]
def rU (b:Bool):Int:=if b=true then 14 else 0
theorem BM (m:List (Int×Bool)) (l:List Int) (x:Int):rU ((l++[x]).any (cK m))=if cK m x=true then 14 else rU (l.any (cK m)):=by
 unfold rU;rw[List.any_append];cases l.any (cK m)<;>cases h:cK m x<;>simp[h]
theorem BN (p:List Past) (l:List Node) (next:Int) (log:List Rec) (h:Hist p l) (hp:p.length≤80000000) (hn:next.natAbs≤80000000) (hl2:log.length≤2000000) (hfit:∀r,r∈log->ActFit r.act) :
  ae Tryz.prog 134 [.rm (mN (bB l)),.int .i64 next,.int .i64 ((p.length+1:Nat):Int),.sl (log.map ZR)] []
   (λr _=>r=uN (bQ l next ((p.length+1:Nat):Int) log)):=by
 have hfin:bQ l next ((p.length+1:Nat):Int) log=qe l next ((p.length+1:Nat):Int) log log.length:=by unfold qe;rw[List.take_length];rfl
 have hinv:=λi=>@w_ p l h next log hfit i
 have hsucc:=λi=>@tF l next ((p.length+1:Nat):Int) log i
 have hz:qe l next ((p.length+1:Nat):Int) log 0=gX l next ((p.length+1:Nat):Int):=rfl
 rw[hfin];generalize qe l next ((p.length+1:Nat):Int) log=st at *
 refine ZF tK (Tryz.func134) rfl (λC=>?_);simp only[Tryz.ntmps134,Tryz.results134,go_sem];refine wG tK ?_;refine ag (le_empty 177 88 7 z7) ?_;refine ag (le_empty 214 145 2 z7) ?_;simp only[go_sem];refine ag (qB 9 ([[.osl 214 2 0 0,.osl 177 7 0 0,.rm (mN (bB l)),.int .i64 next]]) z6 WW) ?_;simp only[go_sem];refine ZL (λi:Nat=>i≤log.length) (λi=>log.length-i) (λi=>[(15,.any),(16,.any),(17,.any),(19,.any),(20,.any),(21,.any),(22,.any),(23,.any),(24,.any),(25,.any),(26,.any),(27,.any),(28,.any),(29,.any),(39,.int .i64 i),(40,.any),(41,.any),(42,.any),(43,.any),(44,.any),(45,.any),(46,.any),(47,.any),(48,.any),(49,.any),(50,.any),(51,.any),(52,.any),(53,.any),(54,.any),(55,.any),(56,.any),(57,.any),(58,.any),(59,.any),(60,.any),(61,.any),(62,.any),(63,.any),(64,.any),(65,.any),(66,.any),(67,.any),(68,.any),(69,.any),(70,.any),(71,.any),(72,.any),(73,.any),(74,.any),(75,.any),(76,.any),(77,.any),(78,.any),(79,.any),(80,.any),(81,.any),(82,.any),(83,.any),(84,.any),(85,.any),(86,.any),(87,.any),(88,.any),(89,.any),(90,.any),(91,.any),(92,.any),(93,.any),(94,.any),(95,.any),(96,.any),(97,.any),(98,.any),(99,.any),(100,.any),(101,.any),(102,.any),(103,.any),(104,.any),(105,.any),(106,.any),(107,.any),(108,.any),(109,.any),(110,.any),(111,.any),(112,.any),(113,.any),(114,.any),(115,.any),(116,.any),(117,.any),(118,.any),(119,.any),(120,.any),(121,.any),(122,.any),(123,.any),(124,.any),(125,.any),(126,.any),(127,.any),(128,.any),(129,.any),(130,.any),(131,.any),(132,.any),(133,.any),(134,.any),(135,.any),(136,.any),(137,.any),(138,.any),(139,.any),(140,.any),(141,.any),(142,.any),(143,.any),(144,.any),(145,.any),(146,.any),(147,.any),(148,.any),(149,.any),(150,.any),(151,.any),(152,.any),(153,.any),(154,.any),(155,.any),(156,.any),(157,.any),(158,.any),(159,.any),(160,.any),(161,.any),(162,.any),(163,.any),(164,.any),(165,.any),(166,.any),(167,.any),(168,.any),(169,.any),(170,.any),(171,.any),(172,.any),(173,.any),(174,.any),(175,.any),(176,.any),(177,.any),(178,.any),(179,.any),(180,.any),(181,.any),(182,.any),(183,.any),(184,.any),(185,.any),(186,.any),(187,.any),(188,.any),(189,.any),(190,.any),(191,.any),(192,.any),(193,.any),(194,.any),(195,.any),(196,.any),(197,.any),(198,.any),(199,.any),(200,.any),(201,.any),(202,.any),(203,.any),(204,.any),(205,.any),(206,.any),(207,.any),(208,.any),(209,.any),(210,.any),(211,.any),(212,.any),(213,.any),(214,.any),(215,.any),(216,.any),(217,.any),(218,.any),(219,.any)]) (λi=>jgR (st i)) 0 z8 ?_ λi hi=>?_
 ·rw[hz];simp only[gX,jgR,mI,mB];simp only[go_sem];exact ZU w3 w3 v8
 unfold jgR;simp only[go_sem];refine wG tK ?_;refine wD (λh=>?_) (λh=>?_)
 ·have hlt:i<log.length:=by simp at h;omega
  have hg:(log.map ZR).getD i []=ZR (log.getD i default):=Fam.getD hlt;have hv:=hinv i z8;have hf:=hfit _ (YG hlt);have hsc:=hsucc i hlt;clear hinv hsucc;generalize log.getD i default=r at *;have hnx:=hv.next;have hvs:=hv.vlen;have hdl:=hv.len;have hbad:∀e,iR (st i).j r=e->e≠0->st (i+1)=⟨uS (st i).j r.act.fid,(st i).vs++[⟨e,0⟩],(st i).done⟩:=λe h1 h2=>hsc.trans (Cb h1 h2)
  have hgood:iR (st i).j r=0->_:=λh1=>hsc.trans (zR h1)
  clear hsc;have hfd:=fp r.act;have hf3:=e_ r.act;have hoE:iR (st i).j r=if fT (st i).j r.act=true then 14 else if aM r.act=true/\(gQ (st i).j.own r.act.fid=true\/r.act.fid≥0) then 2 else if eV { (st i).j with own:=cm (st i).j r } r (bE (st i).j r)=true then 13 else aC (st i).j.l (bE (st i).j r):=rfl;have how':=wi1 (i:=i) z8;unfold ZA at hfd;refine wR ?_;refine wNq tK 4 ?_ ?_ z6 z6 s8
  ·simp[hg,ZR,hlt]
  refine wG tK ?_;refine wC Tryz.func132 (hf:=(hfd)) (hk:=?_);refine wG tK ?_;refine ZL (λk:Nat=>k≤(bO r.act).length) (λk=>(bO r.act).length-k) (λk=>[(17,.int .i64 (rU (((bO r.act).take k).any (cK (st i).j.lost)))),(19,.any),(48,.int .i64 k),(49,.any),(50,.any),(51,.any),(52,.any),(53,.any),(54,.any),(55,.any)]) (λk=>[]) 0 z8 ?_ λk hk=>?_
  ·simp only[go_sem];exact ZU (by simp[go_sem,rU]) w3 w3
  simp only[go_sem];refine wG tK ?_;refine wD (λh=>?_) (λh=>?_)
  ·have hlk:k<(bO r.act).length:=by simp at h;omega
   have hgk:((bO r.act).map ZI).getD k []=ZI ((bO r.act).getD k default):=Fam.getD hlk;have htk:=BM (st i).j.lost ((bO r.act).take k) ((bO r.act).getD k default);rw[←ZT hlk] at htk;have hwk:IntKind.i64.wrap ((k:Int)+1)=((k+1:Nat):Int):=by rw[Eng.wrap_small z8 z8];rfl
   generalize (bO r.act).getD k default=f at *;refine wGq tK ?_ ?_ (by simp only[go_sem,hgk,ZI];try exact rfl)
   ·simp[hgk,ZI,hlk]
   refine wD (λh=>?_) (λh=>?_)
   ·rw[h,if_pos rfl] at htk;refine wG tK ?_ (by simp only[go_sem,hwk];try exact rfl) (by simp[go_sem,hwk]);refine ZB ⟨k+1,by omega,by omega,ZU ?_ ?_ ?_⟩
    ·simp[go_sem,htk]
    ·simp[go_sem]
    ·simp[go_sem]
   ·rw[h,if_neg y8] at htk;refine wG tK ?_ (by simp only[go_sem,hwk];try exact rfl) (by simp[go_sem,hwk]);refine ZB ⟨k+1,by omega,by omega,ZU ?_ ?_ ?_⟩
    ·simp[go_sem,htk]
    ·simp[go_sem]
    ·simp[go_sem]
  have e:k=(bO r.act).length:=by simp at h;omega
  subst e;rw[List.take_length];rw[show (bO r.act).any (cK (st i).j.lost)=fT (st i).j r.act from rfl];clear hfd hfin hz hk hg h;have hup:=hv.hist.bM.up;have hwv:IntKind.i64.wrap (((p.length+1:Nat):Int)+((st i).done.length:Int))=(st i).j.version:=by rw[hv.version,Eng.wrap_small z8 z8];omega
  have hwn:IntKind.i64.wrap ((st i).j.next+1)=(st i).j.next+1:=Eng.wrap_small z8 z8;have hat:=HO (st i).j.own;unfold atH at hat;refine wR ?_;refine wN tK 8 ?_;refine al 63 z6 (λc63 h63=>?_);simp only[go_sem];have h63':c63=aM r.act:=by rw[←h63,eI];rfl
  clear h63;subst h63';cases h0:fT (st i).j r.act with
  | true=>
   have hoe:iR (st i).j r=14:=by rw[hoE,if_pos h0]
   rw[show rU true=14 from rfl];refine wN tK 1 ?_;refine wR ?_;refine wN tK 9 ?_;refine wR ?_;refine wN tK 13 ?_;refine wG tK ?_;refine wDF (hb:=y8) (hk:=?_);refine wG tK ?_;refine wDF (hb:=y8) (hk:=?_);refine wG tK ?_;have hst:=hbad _ hoe z8;refine wDT (hb:=Wa) (hk:=?_);refine wR ?_;refine wN tK 5 ?_;refine ag (bt 214 9 z6 j0) ?_;refine wGq tK ?_ ?_ j5
   ·simp[rowsOf,ZV];omega
   refine ZB ⟨i+1,by omega,by omega,ZU ?_ ?_ ?_⟩
   ·simp[go_sem,hst]
   ·simp[go_sem,hst,jgR,uS,ZV,List.take_length]
   ·simp[go_sem,hst]
  | false=>
   rw[show rU false=0 from rfl]
   apply H_
   ·intro key
    by_cases h1:aM r.act=false
    ·have ho:cm (st i).j r=(st i).j.own:=rP h1;have hnf:¬(aM r.act=true/\(gQ (st i).j.own r.act.fid=true\/r.act.fid≥0)):=λhh=>by rw[h1] at hh;cases hh.1
     refine wN tK 1 ?_;refine wR ?_;refine wN tK 9 ?_;refine wR ?_;refine wNq tK 13 ?_ ?_
     ·simp[go_sem,h1]
     refine wG tK ?_;refine wDF (hb:=(by simp[h1])) (hk:=?_);refine wG tK ?_;refine wDT (hb:=(rfl)) (hk:=?_);refine wG tK ?_;refine ZW ZM ?_;refine ZS rfl ?_;refine sN tK 3 ?_;refine du rfl rfl z7 w3 ⟨_,Tryz.func162,by kernel_rfl,rfl⟩ [10,33] w8 w3 y8 w3 w3 (hat r.act.fid) z6 w9 ?_;refine sN tK 3 ?_;refine du rfl rfl z7 w3 ⟨_,Tryz.func162,by kernel_rfl,rfl⟩ [10,33] w8 w3 y8 w3 w3 (hat r.act.dir) z6 w9 ?_;refine sN tK 1 ?_;refine sT tK ?_;refine sN tK 1 ?_;refine sT tK ?_;refine sE ?_;refine wKd ?_
     try simp only[go_sem,gA,gB,gC]
     refine wG tK ?_;refine wDF (hb:=(h1)) (hk:=?_);have eF:atF (cm (st i).j r) r.act.fid=atF (st i).j.own r.act.fid:=by rw[ho]
     have eD:atF (cm (st i).j r) r.act.dir=atF (st i).j.own r.act.dir:=by rw[ho]
     by_cases hk5:r.act.kind=5
     ·have eT:(if r.act.kind=5 then atF (cm (st i).j r) r.act.to else r.act.to)=atF (st i).j.own r.act.to:=by rw[if_pos hk5,ho]
      refine wG tK ?_;refine wDT (hb:=Z5) (hk:=?_);refine wG tK ?_;refine wP [10,33] Tryz.func162 (hf:=(hat r.act.to)) (hk:=?_);refine wN tK 2 ?_;have hrow:ZA (bE (st i).j r)=[.int .i64 r.act.kind,.int .i64 (atF (st i).j.own r.act.fid),.int .i64 (atF (st i).j.own r.act.dir),.str r.act.name,.int .i64 (atF (st i).j.own r.act.to),.str r.act.toName,.sl (r.act.data.map ZY)]:=by simp only[ZA,bE,eF,eD,eT]
      have hbF:(bE (st i).j r).fid=(atF (st i).j.own r.act.fid):=eF;refine wR ?_;refine ag (eN [40,41,42,43,44,45,46,47,48,49,50,51,52,53,54,55,56,57,58,59,60,61,62,63,64,65,66,67,68,69,70,71,72,73,74,75,76,77,78,79,80,81,82,83,84,85,86,87,88,89,90,91,92,93,94,95,96,97,98,99,100,101,102,103,104,105,106,107,108,109,110,111,112,113,114,115,116]) ?_;simp only[go_sem,List.map_cons,List.map_nil]
      revert hrow hbF hnf
      generalize atF (st i).j.own r.act.fid=F;generalize atF (st i).j.own r.act.dir=D;generalize atF (st i).j.own r.act.to=T;exact key F D T
     ·have eT:(if r.act.kind=5 then atF (cm (st i).j r) r.act.to else r.act.to)=r.act.to:=if_neg hk5;refine wG tK ?_;refine wDF (hb:=Z5) (hk:=?_);have hrow:ZA (bE (st i).j r)=[.int .i64 r.act.kind,.int .i64 (atF (st i).j.own r.act.fid),.int .i64 (atF (st i).j.own r.act.dir),.str r.act.name,.int .i64 r.act.to,.str r.act.toName,.sl (r.act.data.map ZY)]:=by simp only[ZA,bE,eF,eD,eT]
      have hbF:(bE (st i).j r).fid=(atF (st i).j.own r.act.fid):=eF;refine wR ?_;refine ag (eN [40,41,42,43,44,45,46,47,48,49,50,51,52,53,54,55,56,57,58,59,60,61,62,63,64,65,66,67,68,69,70,71,72,73,74,75,76,77,78,79,80,81,82,83,84,85,86,87,88,89,90,91,92,93,94,95,96,97,98,99,100,101,102,103,104,105,106,107,108,109,110,111,112,113,114,115,116]) ?_;simp only[go_sem,List.map_cons,List.map_nil]
      revert hrow hbF hnf
      exact key _ _ _
    ·have h1:aM r.act=true:=by simpa using h1
     have hk5:¬r.act.kind=5:=λe=>by simp[aM,e] at h1
     refine wN tK 1 ?_;refine wR ?_;refine wN tK 9 ?_;refine wR ?_;refine wNq tK 13 ?_ ?_
     ·simp[go_sem,h1]
     refine wG tK ?_;cases h2:(gQ (st i).j.own r.act.fid||decide (r.act.fid≥0)) with
     | true=>
      have hoe:iR (st i).j r=2:=by rw[hoE,if_neg Zi,if_pos ⟨h1,by simpa using h2⟩]
      refine wDT (hb:=(by simpa[eI,h1] using h2)) (hk:=?_);refine wG tK ?_;refine wDF (hb:=y8) (hk:=?_);refine wG tK ?_;have hst:=hbad _ hoe z8;refine wDT (hb:=Wa) (hk:=?_);refine wR ?_;refine wN tK 5 ?_;refine ag (bt 214 9 z6 j0) ?_;refine wGq tK ?_ ?_ j5
      ·simp[rowsOf,ZV];omega
      refine ZB ⟨i+1,by omega,by omega,ZU ?_ ?_ ?_⟩
      ·simp[go_sem,hst]
      ·simp[go_sem,hst,jgR,uS,ZV,List.take_length]
      ·simp[go_sem,hst]
     | false=>
      have ho:cm (st i).j r=br (st i).j.own r.act.fid (st i).j.next:=by unfold cm;rw[if_pos h1]
      have hnf:¬(aM r.act=true/\(gQ (st i).j.own r.act.fid=true\/r.act.fid≥0)):=λhh=>by
       have:=hh.2;simp only[Bool.or_eq_false_iff,decide_eq_false_iff_not] at h2
       rcases this with h | h
       ·rw[h2.1] at h;cases h
       ·exact h2.2 h
      refine wDF (hb:=(by simpa[eI,h1] using h2)) (hk:=?_);clear h2;refine wG tK ?_;refine wDT (hb:=(rfl)) (hk:=?_);refine wG tK ?_;refine ZW ZM ?_;refine ZS rfl ?_;refine sN tK 3 ?_;refine du rfl rfl z7 w3 ⟨_,Tryz.func162,by kernel_rfl,rfl⟩ [10,33] w8 w3 y8 w3 w3 (hat r.act.fid) z6 w9 ?_;refine sN tK 3 ?_;refine du rfl rfl z7 w3 ⟨_,Tryz.func162,by kernel_rfl,rfl⟩ [10,33] w8 w3 y8 w3 w3 (hat r.act.dir) z6 w9 ?_;refine sN tK 1 ?_;refine sT tK ?_;refine sN tK 1 ?_;refine sT tK ?_;refine sE ?_;refine wKd ?_
      try simp only[go_sem,gA,gB,gC]
      refine wG tK ?_;refine wDT (hb:=(h1)) (hk:=?_);have eF:atF (cm (st i).j r) r.act.fid=(st i).j.next:=by rw[ho,uk,if_pos rfl]
      have eT:(if r.act.kind=5 then atF (cm (st i).j r) r.act.to else r.act.to)=r.act.to:=if_neg hk5
      by_cases hdf:r.act.dir=r.act.fid
      ·have eD:atF (cm (st i).j r) r.act.dir=(st i).j.next:=by rw[ho,uk,if_pos hdf]
       refine wG tK ?_;refine wDT (hb:=(by simp[hdf])) (hk:=?_);refine wG tK ?_;refine wDF (hb:=Z5) (hk:=?_);have hrow:ZA (bE (st i).j r)=[.int .i64 r.act.kind,.int .i64 (st i).j.next,.int .i64 (st i).j.next,.str r.act.name,.int .i64 r.act.to,.str r.act.toName,.sl (r.act.data.map ZY)]:=by simp only[ZA,bE,eF,eD,eT]
       have hbF:(bE (st i).j r).fid=(st i).j.next:=eF;refine wR ?_;refine ag (eN [40,41,42,43,44,45,46,47,48,49,50,51,52,53,54,55,56,57,58,59,60,61,62,63,64,65,66,67,68,69,70,71,72,73,74,75,76,77,78,79,80,81,82,83,84,85,86,87,88,89,90,91,92,93,94,95,96,97,98,99,100,101,102,103,104,105,106,107,108,109,110,111,112,113,114,115,116]) ?_;simp only[go_sem,List.map_cons,List.map_nil]
       revert hrow hbF hnf
       exact key _ _ _
      ·have eD:atF (cm (st i).j r) r.act.dir=atF (st i).j.own r.act.dir:=by rw[ho,uk,if_neg hdf]
       refine wG tK ?_;refine wDF (hb:=(by simp[hdf])) (hk:=?_);refine wG tK ?_;refine wDF (hb:=Z5) (hk:=?_);have hrow:ZA (bE (st i).j r)=[.int .i64 r.act.kind,.int .i64 (st i).j.next,.int .i64 (atF (st i).j.own r.act.dir),.str r.act.name,.int .i64 r.act.to,.str r.act.toName,.sl (r.act.data.map ZY)]:=by simp only[ZA,bE,eF,eD,eT]
       have hbF:(bE (st i).j r).fid=(st i).j.next:=eF;refine wR ?_;refine ag (eN [40,41,42,43,44,45,46,47,48,49,50,51,52,53,54,55,56,57,58,59,60,61,62,63,64,65,66,67,68,69,70,71,72,73,74,75,76,77,78,79,80,81,82,83,84,85,86,87,88,89,90,91,92,93,94,95,96,97,98,99,100,101,102,103,104,105,106,107,108,109,110,111,112,113,114,115,116]) ?_;simp only[go_sem,List.map_cons,List.map_nil]
       revert hrow hbF hnf
       exact key _ _ _
   ·intro F D T hnf hrow hbF;have hap:=lN hv.hist.bM hv.hist.ri (qN (j:=(st i).j) hf) (st i).j.version;have hfd2:=fp (bE (st i).j r);have hf32:=e_ (bE (st i).j r);rw[hrow] at hap hfd2;have hbk:(bE (st i).j r).kind=r.act.kind:=rfl;clear hv hf;generalize bE (st i).j r=b at *;have hsb:eV { (st i).j with own:=cm (st i).j r } r b=(if ((r.act.kind≠3/\r.act.kind≠4)\/r.version<0)\/cK (st i).j.ours F=true then false else match aj (st i).j.l F with | none=>true | some n=>n.version != r.version):=by unfold eV;rw[hbk,hbF];rfl
    have hg1:bg (mN (bB (st i).j.l)) F=(aj (st i).j.l F).map λn=>AV.agg (ZN n):=by rw[gS,cu hup]
    apply Ia
    ·intro key2;cases hff:aj (st i).j.l F with
     | none=>
      rw[hff] at hg1 hsb;simp only[Option.map_none] at hg1 hsb;refine wN tK 4 ?_;refine wN tK 1 ?_ z6 z6 p4 Qj;refine wN tK 2 ?_;refine wN tK 4 ?_;refine wR ?_;refine wN tK 8 ?_;refine al 132 z6 (λc132 h132=>?_);simp only[go_sem];refine wN tK 5 ?_;refine al 137 z6 (λc137 h137=>?_);simp only[go_sem];refine wN tK 7 ?_;refine al 144 z6 (λc144 h144=>?_);simp only[go_sem];refine wN tK 11 ?_;refine al 155 z6 (λc155 h155=>?_);simp only[go_sem];have hc:c155=eV { (st i).j with own:=cm (st i).j r } r b:=by
       rw[←h155,←h144,←h137,←h132,hsb]
       by_cases k3:r.act.kind=3<;>by_cases k4:r.act.kind=4<;>by_cases kv:r.version<0<;>cases cK (st i).j.ours F<;>simp[k3,k4,kv]<;>omega
      clear h155 h144 h137 h132 hsb;refine ag (eN [117,118,119,120,121,122,123,124,125,126,127,128,129,130,131,132,133,134,135,136,137,138,139,140,141,142,143,144,145,146,147,148,149,150,151,152,153,154]) ?_;simp only[go_sem,List.map_cons,List.map_nil];refine ag (eN [24,25]) ?_;simp only[go_sem,List.map_cons,List.map_nil];refine ag (dh 24) ?_
      revert hc
      exact key2 c155
     | some n=>
      rw[hff] at hg1 hsb;simp only[Option.map_some] at hg1 hsb;refine wN tK 4 ?_;refine wN tK 1 ?_ z6 z6 u0 p8;refine wN tK 2 ?_;refine wN tK 4 ?_;refine wR ?_;refine wN tK 8 ?_;refine al 132 z6 (λc132 h132=>?_);simp only[go_sem];refine wN tK 5 ?_;refine al 137 z6 (λc137 h137=>?_);simp only[go_sem];refine wN tK 7 ?_;refine al 144 z6 (λc144 h144=>?_);simp only[go_sem];refine wN tK 11 ?_;refine al 155 z6 (λc155 h155=>?_);simp only[go_sem];have hc:c155=eV { (st i).j with own:=cm (st i).j r } r b:=by
       rw[←h155,←h144,←h137,←h132,hsb]
       by_cases k3:r.act.kind=3<;>by_cases k4:r.act.kind=4<;>by_cases kv:r.version<0<;>cases cK (st i).j.ours F<;>simp[k3,k4,kv]<;>omega
      clear h155 h144 h137 h132 hsb;refine ag (eN [117,118,119,120,121,122,123,124,125,126,127,128,129,130,131,132,133,134,135,136,137,138,139,140,141,142,143,144,145,146,147,148,149,150,151,152,153,154]) ?_;simp only[go_sem,List.map_cons,List.map_nil];refine ag (eN [24,25]) ?_;simp only[go_sem,List.map_cons,List.map_nil];refine ag (dh 24) ?_
      revert hc
      exact key2 c155
    intro c hc;refine wG tK ?_;cases c with
    | true=>
     have hoe:iR (st i).j r=13:=by rw[hoE,if_neg Zi,if_neg hnf,if_pos hc.symm]
     refine wDT (hb:=(rfl)) (hk:=?_);refine wG tK ?_;have hst:=hbad _ hoe z8;refine wDT (hb:=Wa) (hk:=?_);refine wR ?_;refine wN tK 5 ?_;refine ag (bt 214 9 z6 j0) ?_;refine wGq tK ?_ ?_ j5
     ·simp[rowsOf,ZV];omega
     refine ZB ⟨i+1,by omega,by omega,ZU ?_ ?_ ?_⟩
     ·simp[go_sem,hst]
     ·simp[go_sem,hst,jgR,uS,ZV,List.take_length]
     ·simp[go_sem,hst]
    | false=>
     have hoe:iR (st i).j r=aC (st i).j.l b:=by rw[hoE,if_neg Zi,if_neg hnf,if_neg (by rw[←hc];simp)]
     clear hoE hc;refine wDF (hb:=(rfl)) (hk:=?_);refine wG tK ?_ (by simp only[go_sem,hwv];try exact rfl) (by simp[go_sem,hwv]);generalize aC (st i).j.l b=E at *;generalize aG (st i).j.l b (st i).j.version=L at *
     by_cases hE:E=0
     ·rw[if_pos hE] at hap;have hst:=hgood (hoe.trans hE);clear hbad hgood;refine wC Tryz.func82 (hf:=(hap)) (hk:=?_);refine wG tK ?_;refine wDT (hb:=(rfl)) (hk:=?_);refine wR ?_;refine wN tK 3 ?_;refine wR ?_;refine wN tK 4 ?_;refine ag (bt 177 9 z6 j0) ?_;refine wNq tK 3 ?_ ?_
      ·simp[rowsOf,ZA];omega
      refine wR ?_;refine wN tK 6 ?_;refine ag (bt 214 9 z6 j0) ?_;refine wGq tK ?_ ?_
      ·simp[rowsOf,ZV];omega
      refine ag (dh 214) ?_;refine ag (yY 185 214 9 z6 z7 z7 z6 QQ QQ rfl z7 QJ QJ) ?_;refine wC Tryz.func132 (hf:=(hfd2)) (hk:=?_);refine wG tK ?_;refine ZL (λk:Nat=>k≤(bO b).length) (λk=>(bO b).length-k) (λk=>[(29,.any),(190,.int .i64 k),(191,.any),(192,.any),(193,.any),(194,.any),(195,.any),(196,.any)]) (λk=>[(35,.map (mB (jb (st i).j.ours ((bO b).take k))))]) 0 z8 ?_ λk hk=>?_
      ·simp only[go_sem];exact ZU w3 (by simp[go_sem,jb]) w3
      simp only[go_sem];refine wG tK ?_;refine wD (λh=>?_) (λh=>?_)
      ·have hlk:k<(bO b).length:=by simp at h;omega
       have hgk:((bO b).map ZI).getD k []=ZI ((bO b).getD k default):=Fam.getD hlk;have htk:jb (st i).j.ours ((bO b).take (k+1))=br (jb (st i).j.ours ((bO b).take k)) ((bO b).getD k default) true:=by rw[ZT hlk,rO]
       have hwk:IntKind.i64.wrap ((k:Int)+1)=((k+1:Nat):Int):=by rw[Eng.wrap_small z8 z8];rfl
       generalize (bO b).getD k default=f at *;refine wGq tK ?_ ?_ WD
       ·simp[hgk,ZI,hlk,AV.ju,AV.aX]
       refine ZB ⟨k+1,by omega,by omega,ZU ?_ ?_ ?_⟩
       ·simp[go_sem]
       ·simp[go_sem,htk]
       ·simp[go_sem]
      ·have e:k=(bO b).length:=by simp at h;omega
       subst e;rw[List.take_length];refine wG tK ?_;cases h1:aM r.act with
       | true=>
        have ho:cm (st i).j r=br (st i).j.own r.act.fid (st i).j.next:=by unfold cm;rw[if_pos h1]
        rw[h1] at hst;refine wDT (hb:=(rfl)) (hk:=?_);refine wG tK ?_ (by simp only[go_sem,hwn];try exact rfl) (by simp[go_sem,hwn]);refine wDF (hb:=(rfl)) (hk:=?_);refine wG tK ?_ j5 Qz;refine ZB ⟨i+1,by omega,by omega,ZU ?_ ?_ ?_⟩
        ·simp[go_sem,hst]
        ·simp[go_sem,hst,jgR,ZV,hrow,hbF,ho,h1]
        ·simp[go_sem,hst]
       | false=>
        have ho:cm (st i).j r=(st i).j.own:=rP h1;rw[h1] at hst;refine wDF (hb:=(rfl)) (hk:=?_);refine wG tK ?_ (by simp only[go_sem,hwn];try exact rfl) (by simp[go_sem,hwn]);refine wDF (hb:=(rfl)) (hk:=?_);refine wG tK ?_ j5 Qz;refine ZB ⟨i+1,by omega,by omega,ZU ?_ ?_ ?_⟩
        ·simp[go_sem,hst]
        ·simp[go_sem,hst,jgR,ZV,hrow,hbF,ho,h1]
        ·simp[go_sem,hst]
     ·rw[if_neg hE] at hap;refine wC Tryz.func82 (hf:=(hap)) (hk:=?_);refine wG tK ?_;refine wDF (hb:=x8) (hk:=?_);refine wG tK ?_;have hst:=hbad _ hoe z8;refine wDT (hb:=Wa) (hk:=?_);refine wR ?_;refine wN tK 5 ?_;refine ag (bt 214 9 z6 j0) ?_;refine wGq tK ?_ ?_ j5
      ·simp[rowsOf,ZV];omega
      refine ZB ⟨i+1,by omega,by omega,ZU ?_ ?_ ?_⟩
      ·simp[go_sem,hst]
      ·simp[go_sem,hst,jgR,uS,ZV,List.take_length]
      ·simp[go_sem,hst]
 ·have e:i=log.length:=by simp at h;omega
  subst e;refine wG tK ?_;refine ZZ 214 rfl (la _) ?_;simp only[go_sem];refine ZZ 177 rfl (pw _) ?_;simp only[go_sem];refine wG tK ?_;refine wT ?_;simp[uN]
end La
