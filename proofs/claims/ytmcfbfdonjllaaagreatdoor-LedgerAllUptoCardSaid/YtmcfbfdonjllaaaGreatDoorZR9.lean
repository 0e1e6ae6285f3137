/- Texts of this claim, part 9: RJud. No condition. -/
import Derived.Test.YtmcfbfdonjllaaaGreatDoorZR8
set_option maxRecDepth 10000
set_option maxHeartbeats 4000000
set_option linter.unusedSimpArgs false
set_option linter.unusedVariables false
namespace La
open Go Go.Eng Go.Proofs Go.Proofs.Tryz
theorem Ed {m:List (Int×Int)} {f x:Int}:iH m f=false->eB (aU m f x) f=m:=by
 intro h;have hno:∀{m:List (Int×Int)},iH m f=false->∀q,q∈m->q.1≠f:=by
  intro m
  induction m with
  | nil=>intro _ q hq;cases hq
  | cons a r ih=>
   intro h q hq;unfold iH at h ih;simp only[br] at h;split at h
   ·simp at h
   ·rename_i hne
    rcases List.mem_cons.1 hq with rfl | hq
    ·exact hne
    ·exact ih h q hq
 have hfl:∀{m:List (Int×Int)},(∀q,q∈m->q.1≠f)->eB m f=m:=λhm=>Ya.2 λq hq=>by simp[hm q hq]
 have hn:=hno h;clear h
 induction m with
 | nil=>simp[aU,eB]
 | cons a r ih=>
  have ha:=hn a List.mem_cons_self;have hr:∀q,q∈r->q.1≠f:=λq hq=>hn q (List.mem_cons_of_mem _ hq)
  simp only[aU,if_neg ha];split
  ·have:=hfl hn;unfold eB at this ⊢;rw[List.filter_cons,if_neg w8];exact this
  ·have:=ih hr;unfold eB at this ⊢;rw[List.filter_cons,if_pos Zc,this]
theorem ur {j:JS} {r:Rec} (h:aR r.act=false):cF j r=j.own:=by unfold cF;rw[h];rfl
theorem Cq {j:JS} {r:Rec} {a:Act} (hk:a.kind=r.act.kind) (h:aR r.act=true):fy j r a=false:=by
 unfold fy;rw[if_pos];left;left;rw[hk];unfold aR at h;simp only[Bool.or_eq_true,beq_iff_eq] at h;omega
theorem E2 {s:JG} {r:Rec} {e:Int} (he:jK s.j r=e) (h:e≠0):iT s r=⟨xV s.j r.act.fid,s.vs++[⟨e,0⟩],s.done⟩:=by
 subst he;unfold iT iK;rw[if_neg h,if_neg h];have:fx s.j r=s.j:=by
  unfold fx;unfold jK at h;split
  ·rfl
  ·rename_i h1;rw[if_neg h1] at h;split
   ·rfl
   ·rename_i h2;rw[if_neg h2] at h;cases hm:aR r.act with
    | false=>
     rw[ur hm] at h ⊢;split
     ·rfl
     ·split
      ·rfl
      ·rename_i h3 h4;rw[if_neg h3] at h;simp at h4;exact absurd h4 h
    | true=>
     have hs:fy { s.j with own:=cF s.j r } r (bV s.j r)=false:=Cq rfl hm;rw[hs] at h ⊢;simp only[Bool.false_eq_true,if_false] at h ⊢;rw[if_pos h];have hh:iH s.j.own r.act.fid=false:=by
      cases e:iH s.j.own r.act.fid with
      | false=>rfl
      | true=>exact absurd ⟨hm,.inl e⟩ h2
     simp only[if_true];unfold cF;rw[hm];simp only[if_true];rw[Ed hh]
 rw[this]
theorem Cr {s:JG} {r:Rec} (h:jK s.j r=0):iT s r=⟨⟨aK s.j.l (bV s.j r) s.j.version,if aR r.act=true then s.j.next+1 else s.j.next,s.j.version+1,cF s.j r,kj s.j.ours (cA (bV s.j r)),s.j.lost⟩,s.vs++[⟨0,(bV s.j r).fid⟩],s.done++[bV s.j r]⟩:=by
 unfold iT iK;rw[if_pos h,if_pos h,h];unfold jK at h;split at h
 ·omega
 ·rename_i c1;split at h
  ·omega
  ·rename_i c2;split at h
   ·omega
   ·rename_i c3;have hJ:fx s.j r={ s.j with l:=aK s.j.l (bV s.j r) s.j.version,next:=if aR r.act=true then s.j.next+1 else s.j.next,version:=s.j.version+1,own:=cF s.j r }:=by
     unfold fx;rw[if_neg c1,if_neg c2,if_neg c3,if_neg Z9]
    have hA:kz s.j r=bV s.j r:=by unfold kz;rw[if_neg c1,if_neg c2]
    rw[hJ,hA]
theorem oB {α:Type} {n:Int} {v:α} (kvs:List (Int×α)) (k:Int):br (aU kvs n v) k=if k=n then some v else br kvs k:=by
 induction kvs with
 | nil=>
  simp only[aU,br]
  by_cases e:n=k
  ·rw[if_pos e,if_pos e.symm]
  ·rw[if_neg e,if_neg (λh=>e h.symm)]
 | cons p r ih=>
  simp only[aU];split
  ·rename_i hp;simp only[br]
   by_cases e:n=k
   ·rw[if_pos e,if_pos e.symm]
   ·rw[if_neg e,if_neg (λh=>e h.symm),if_neg z8]
  ·split
   ·simp only[br]
    by_cases e:n=k
    ·rw[if_pos e,if_pos e.symm]
    ·rw[if_neg e,if_neg (λh:k=n=>e h.symm)]
   ·simp only[br]
    by_cases e:p.1=k
    ·rw[if_pos e,if_neg z8,if_pos e]
    ·rw[if_neg e,ih,if_neg e]
theorem xp (m:List (Int×Int)) (f x k:Int):atF (aU m f x) k=if k=f then x else atF m k:=by
 unfold atF iH f_;rw[oB]
 by_cases e:k=f
 ·rw[if_pos e,if_pos e];rfl
 ·rw[if_neg e,if_neg e]
def atH (m:List (Int×Int)) (G Y N:Nat->Nat):List (Nat×Blk):=[(10,.cells 74 1 [[.mp 33]]),(33,.map (mI m))]++pins [10,33] G Y N
theorem LO (m:List (Int×Int)) (f:Int) (G Y N:Nat->Nat):aj prog 168 [.int .i64 f,.ptr 10 1 0 0] (atH m G Y N) (λr H=>r=.int .i64 (atF m f)/\Holds (atH m G Y N) H):=by
 unfold atH;refine wSG func168 ntmps168 results168 λC=>?_
 cases h0:iH m f with
 | true=>
  refine wTG ?_ (hb:=Q3);refine wU ?_ ?_
  ·unfold atF;rw[h0];rfl
  ·exact q9
 | false=>
  refine wFG ?_ (hb:=Q3);refine wU ?_ ?_
  ·unfold atF;rw[h0];rfl
  ·exact q9
noncomputable def xP (g:JG):AV:=.agg [.sl (g.vs.map ZV),.sl (g.done.map ZA),.rm (mN (bQ g.j.l)),.int .i64 g.j.next]
def jgR (s:JG):List (Nat×Blk):=[(214,.cells 162 2 (s.vs.map ZV)),(177,.cells 49 7 (s.done.map ZA)),(9,.cells 215 4 [[.osl 214 2 0 s.vs.length,.osl 177 7 0 s.done.length,.rm (mN (bQ s.j.l)),.int .i64 s.j.next]]),(33,.map (mI s.j.own)),(34,.map (mB s.j.lost)),(35,.map (mB s.j.ours))]
def uy (b:Bool):Int:=if b=true then 14 else 0
theorem EA (m:List (Int×Bool)) (l:List Int) (x:Int):uy ((l++[x]).any (cE m))=if cE m x=true then 14 else uy (l.any (cE m)):=by
 unfold uy;rw[List.any_append];cases l.any (cE m)<;>cases h:cE m x<;>simp[h]
theorem EB (p:List Past) (l:List Node) (next:Int) (log:List Rec) (h:Hist p l) (hp:p.length<=80000000) (hn:next.natAbs<=80000000) (hl2:log.length<=2000000) (hfit:∀r,r∈log->ActFit r.act) :
  aj prog 137 [.rm (mN (bQ l)),.int .i64 next,.int .i64 ((p.length+1:Nat):Int),.sl (log.map ZR)] []
   (λr _=>r=xP (bM l next ((p.length+1:Nat):Int) log)):=by
 have hfin:bM l next ((p.length+1:Nat):Int) log=sc l next ((p.length+1:Nat):Int) log log.length:=by unfold sc;rw[W4];rfl
 have hinv:=λi=>@zJ p l h next log hfit i
 have hsucc:=λi=>@wh l next ((p.length+1:Nat):Int) log i
 have hz:sc l next ((p.length+1:Nat):Int) log 0=iP l next ((p.length+1:Nat):Int):=rfl
 rw[hfin];generalize sc l next ((p.length+1:Nat):Int) log=st at *
 refine wSG func137 ntmps137 results137 λC=>?_
 refine af (le_empty 177 49 7 z7) ?_;refine af (le_empty 214 162 2 z7) (wn ?_);refine af (i_ 9 ([[.osl 214 2 0 0,.osl 177 7 0 0,.rm (mN (bQ l)),.int .i64 next]]) z6 Qw) (wn ?_);refine wL log.length (λi=>(15,.any)::(16,.any)::(17,.any)::u0 19 11 ((39,.int .i64 i)::u0 40 180 [])) (λi=>jgR (st i)) ?_ λi hi=>?_
 ·rw[hz];simp only[iP,jgR,mI,mB];exact wY
 unfold jgR;simp only[go_sem];refine wGD (λh=>?_) (λh=>?_)
 ·have hlt:=lt1 h;have hg:=Fam.getD (f:=ZR) hlt;have hv:=hinv i z8;have hf:=hfit _ (YG hlt);have hsc:=hsucc i hlt;clear hinv hsucc;generalize log.getD i default=r at *;have hnx:=hv.next;have hvs:=hv.vlen;have hdl:=hv.len;have hbad:∀e,jK (st i).j r=e->e≠0->st (i+1)=⟨xV (st i).j r.act.fid,(st i).vs++[⟨e,0⟩],(st i).done⟩:=λe h1 h2=>hsc.trans (E2 h1 h2)
  have hgood:jK (st i).j r=0->_:=λh1=>hsc.trans (Cr h1)
  clear hsc;have hfd:=fM r.act;have hf3:=fA r.act;have hoE:jK (st i).j r=if gy (st i).j r.act=true then 14 else if aR r.act=true/\(iH (st i).j.own r.act.fid=true\/r.act.fid≥0) then 2 else if fy { (st i).j with own:=cF (st i).j r } r (bV (st i).j r)=true then 13 else aF (st i).j.l (bV (st i).j r):=rfl;have how':=wi1 (i:=i) z8;unfold ZA at hfd;refine wR ?_;refine wNq 4 ?_ ?_ z6 z6 u6
  ·simp[hg,ZR,hlt]
  refine wG ?_;refine wCg ?_ func135 (hf:=hfd);refine ZL (λk:Nat=>k<=(cA r.act).length) (λk=>(cA r.act).length-k) (λk=>(17,.int .i64 (uy (((cA r.act).take k).any (cE (st i).j.lost))))::(19,.any)::(48,.int .i64 k)::u0 49 7 []) (λk=>[]) 0 z8 ?_ λk hk=>?_
  ·simp only[go_sem];exact ZU (by simp[go_sem,uy]) w3 w3
  simp only[go_sem];refine wGD (λh=>?_) (λh=>?_)
  ·have hlk:=lt1 h;have hgk:((cA r.act).map ZI).getD k []=ZI ((cA r.act).getD k default):=Fam.getD hlk;have htk:=EA (st i).j.lost ((cA r.act).take k) ((cA r.act).getD k default);rw[<-ZT hlk] at htk;have hwk:IntKind.i64.wrap ((k:Int)+1)=((k+1:Nat):Int):=by rw[Eng.wrap_small z8 z8];rfl
   generalize (cA r.act).getD k default=f at *;refine wGq ?_ ?_ (by simp only[go_sem,hgk,ZI];try exact rfl)
   ·simp[hgk,ZI,hlk]
   refine wD (λh=>?_) (λh=>?_)
   ·rw[h,if_pos rfl] at htk;refine wG ?_ (by simp only[go_sem,hwk];try exact rfl) (by simp[go_sem,hwk]);exact ZB ⟨k+1,by omega,by omega,ZU j7 w3 w3⟩
   ·rw[h,if_neg w8] at htk;refine wG ?_ (by simp only[go_sem,hwk];try exact rfl) (by simp[go_sem,hwk]);exact ZB ⟨k+1,by omega,by omega,ZU j7 w3 w3⟩
  have e:k=(cA r.act).length:=by simp at h;omega
  subst e;rw[W4];rw[show (cA r.act).any (cE (st i).j.lost)=gy (st i).j r.act from rfl];clear hfd hfin hz hk hg h;have hup:=hv.hist.bR.up;have hwv:IntKind.i64.wrap (((p.length+1:Nat):Int)+((st i).done.length:Int))=(st i).j.version:=by rw[hv.version,Eng.wrap_small z8 z8];omega
  have hwn:IntKind.i64.wrap ((st i).j.next+1)=(st i).j.next+1:=Eng.wrap_small z8 z8;have hat:=LO (st i).j.own;unfold atH at hat;refine wR ?_;refine wN 8 ?_;refine wNm 63 λc63 h63=>?_
  have h63':c63=aR r.act:=by rw[<-h63,fe];rfl
  clear h63;subst h63';cases h0:gy (st i).j r.act with
  | true=>
   have hoe:jK (st i).j r=14:=by rw[hoE,if_pos h0]
   rw[show uy true=14 from rfl];refine wN 1 ?_;refine wR ?_;refine wN 9 ?_;refine wR ?_;refine wN 13 ?_;refine nt ?_ (hb:=w8);refine wFG ?_ (hb:=w8);have hst:=hbad _ hoe z8;refine wDT ?_ (hb:=Wy);refine wR ?_;refine wN 5 ?_;refine af (aY 214 9 z6 y9) ?_;refine wGq ?_ ?_ y6
   ·simp[rowsOf,ZV];omega
   exact ZB ⟨i+1,by omega,by omega,ZU s7 QZ s7⟩
  | false=>
   rw[show uy false=0 from rfl]
   apply Mc
   ·intro key
    by_cases h1:aR r.act=false
    ·have ho:cF (st i).j r=(st i).j.own:=ur h1;have hnf:¬(aR r.act=true/\(iH (st i).j.own r.act.fid=true\/r.act.fid≥0)):=λhh=>by rw[h1] at hh;cases hh.1
     refine wN 1 ?_;refine wR ?_;refine wN 9 ?_;refine wR ?_;refine wNq 13 ?_ ?_
     ·simp[go_sem,h1]
     refine nt ?_ (hb:=by simp[h1]);refine wDT ?_ (hb:=rfl);refine wGS ?_;refine sN 3 ?_;refine dW rfl rfl z7 w3 ⟨_,func168,by kernel_rfl,rfl⟩ [10,33] w6 w3 w8 w3 w3 (hat r.act.fid) z6 w7 ?_;refine sN 3 ?_;refine dW rfl rfl z7 w3 ⟨_,func168,by kernel_rfl,rfl⟩ [10,33] w6 w3 w8 w3 w3 (hat r.act.dir) z6 w7 ?_;refine sN 1 ?_;refine sT ?_;refine sN 1 ?_;refine sT ?_;refine wXG ?_;refine wDF ?_ (hb:=h1);have eF:atF (cF (st i).j r) r.act.fid=atF (st i).j.own r.act.fid:=by rw[ho]
     have eD:atF (cF (st i).j r) r.act.dir=atF (st i).j.own r.act.dir:=by rw[ho]
     by_cases hk5:r.act.kind=5
     ·have eT:(if r.act.kind=5 then atF (cF (st i).j r) r.act.to else r.act.to)=atF (st i).j.own r.act.to:=by rw[if_pos hk5,ho]
      refine Fe ?_ (hb:=WQ);refine wP ?_ [10,33] func168 (hf:=hat r.act.to);refine wN 2 ?_;have hrow:ZA (bV (st i).j r)=[.int .i64 r.act.kind,.int .i64 (atF (st i).j.own r.act.fid),.int .i64 (atF (st i).j.own r.act.dir),.str r.act.name,.int .i64 (atF (st i).j.own r.act.to),.str r.act.toName,.sl (r.act.data.map ZY)]:=by simp only[ZA,bV,eF,eD,eT]
      have hbF:(bV (st i).j r).fid=(atF (st i).j.own r.act.fid):=eF;refine wR ?_;refine af (fm [40,41,42,43,44,45,46,47,48,49,50,51,52,53,54,55,56,57,58,59,60,61,62,63,64,65,66,67,68,69,70,71,72,73,74,75,76,77,78,79,80,81,82,83,84,85,86,87,88,89,90,91,92,93,94,95,96,97,98,99,100,101,102,103,104,105,106,107,108,109,110,111,112,113,114,115,116]) ?_;simp only[go_sem,List.map_cons,List.map_nil]
      revert hrow hbF hnf
      generalize atF (st i).j.own r.act.fid=F;generalize atF (st i).j.own r.act.dir=D;generalize atF (st i).j.own r.act.to=T;exact key F D T
     ·have eT:(if r.act.kind=5 then atF (cF (st i).j r) r.act.to else r.act.to)=r.act.to:=if_neg hk5;refine wG ?_;refine wDF ?_ (hb:=WQ);have hrow:ZA (bV (st i).j r)=[.int .i64 r.act.kind,.int .i64 (atF (st i).j.own r.act.fid),.int .i64 (atF (st i).j.own r.act.dir),.str r.act.name,.int .i64 r.act.to,.str r.act.toName,.sl (r.act.data.map ZY)]:=by simp only[ZA,bV,eF,eD,eT]
      have hbF:(bV (st i).j r).fid=(atF (st i).j.own r.act.fid):=eF;refine wR ?_;refine af (fm [40,41,42,43,44,45,46,47,48,49,50,51,52,53,54,55,56,57,58,59,60,61,62,63,64,65,66,67,68,69,70,71,72,73,74,75,76,77,78,79,80,81,82,83,84,85,86,87,88,89,90,91,92,93,94,95,96,97,98,99,100,101,102,103,104,105,106,107,108,109,110,111,112,113,114,115,116]) ?_;simp only[go_sem,List.map_cons,List.map_nil]
      revert hrow hbF hnf
      exact key _ _ _
    ·have h1:aR r.act=true:=by simpa using h1
     have hk5:¬r.act.kind=5:=λe=>by simp[aR,e] at h1
     refine wN 1 ?_;refine wR ?_;refine wN 9 ?_;refine wR ?_;refine wNq 13 ?_ ?_
     ·simp[go_sem,h1]
     refine wG ?_;cases h2:(iH (st i).j.own r.act.fid||decide (r.act.fid≥0)) with
     | true=>
      have hoe:jK (st i).j r=2:=by rw[hoE,if_neg Q3,if_pos ⟨h1,by simpa using h2⟩]
      refine wTG ?_ (hb:=by simpa[fe,h1] using h2);refine wFG ?_ (hb:=w8);have hst:=hbad _ hoe z8;refine wDT ?_ (hb:=Wy);refine wR ?_;refine wN 5 ?_;refine af (aY 214 9 z6 y9) ?_;refine wGq ?_ ?_ y6
      ·simp[rowsOf,ZV];omega
      exact ZB ⟨i+1,by omega,by omega,ZU s7 QZ s7⟩
     | false=>
      have ho:cF (st i).j r=aU (st i).j.own r.act.fid (st i).j.next:=by unfold cF;rw[if_pos h1]
      have hnf:¬(aR r.act=true/\(iH (st i).j.own r.act.fid=true\/r.act.fid≥0)):=λhh=>by
       have:=hh.2;simp only[Bool.or_eq_false_iff,decide_eq_false_iff_not] at h2
       rcases this with h | h
       ·rw[h2.1] at h;cases h
       ·exact h2.2 h
      refine wDF ?_ (hb:=by simpa[fe,h1] using h2);clear h2;refine wG ?_;refine wDT ?_ (hb:=rfl);refine wGS ?_;refine sN 3 ?_;refine dW rfl rfl z7 w3 ⟨_,func168,by kernel_rfl,rfl⟩ [10,33] w6 w3 w8 w3 w3 (hat r.act.fid) z6 w7 ?_;refine sN 3 ?_;refine dW rfl rfl z7 w3 ⟨_,func168,by kernel_rfl,rfl⟩ [10,33] w6 w3 w8 w3 w3 (hat r.act.dir) z6 w7 ?_;refine sN 1 ?_;refine sT ?_;refine sN 1 ?_;refine sT ?_;refine wXG ?_;refine wDT ?_ (hb:=h1);have eF:atF (cF (st i).j r) r.act.fid=(st i).j.next:=by rw[ho,xp,if_pos rfl]
      have eT:(if r.act.kind=5 then atF (cF (st i).j r) r.act.to else r.act.to)=r.act.to:=if_neg hk5
      by_cases hdf:r.act.dir=r.act.fid
      ·have eD:atF (cF (st i).j r) r.act.dir=(st i).j.next:=by rw[ho,xp,if_pos hdf]
       refine Fe ?_ (hb:=by simp[hdf]);refine wDF ?_ (hb:=WQ);have hrow:ZA (bV (st i).j r)=[.int .i64 r.act.kind,.int .i64 (st i).j.next,.int .i64 (st i).j.next,.str r.act.name,.int .i64 r.act.to,.str r.act.toName,.sl (r.act.data.map ZY)]:=by simp only[ZA,bV,eF,eD,eT]
       have hbF:(bV (st i).j r).fid=(st i).j.next:=eF;refine wR ?_;refine af (fm [40,41,42,43,44,45,46,47,48,49,50,51,52,53,54,55,56,57,58,59,60,61,62,63,64,65,66,67,68,69,70,71,72,73,74,75,76,77,78,79,80,81,82,83,84,85,86,87,88,89,90,91,92,93,94,95,96,97,98,99,100,101,102,103,104,105,106,107,108,109,110,111,112,113,114,115,116]) ?_;simp only[go_sem,List.map_cons,List.map_nil]
       revert hrow hbF hnf
       exact key _ _ _
      ·have eD:atF (cF (st i).j r) r.act.dir=atF (st i).j.own r.act.dir:=by rw[ho,xp,if_neg hdf]
       refine nt ?_ (hb:=by simp[hdf]);refine wDF ?_ (hb:=WQ);have hrow:ZA (bV (st i).j r)=[.int .i64 r.act.kind,.int .i64 (st i).j.next,.int .i64 (atF (st i).j.own r.act.dir),.str r.act.name,.int .i64 r.act.to,.str r.act.toName,.sl (r.act.data.map ZY)]:=by simp only[ZA,bV,eF,eD,eT]
       have hbF:(bV (st i).j r).fid=(st i).j.next:=eF;refine wR ?_;refine af (fm [40,41,42,43,44,45,46,47,48,49,50,51,52,53,54,55,56,57,58,59,60,61,62,63,64,65,66,67,68,69,70,71,72,73,74,75,76,77,78,79,80,81,82,83,84,85,86,87,88,89,90,91,92,93,94,95,96,97,98,99,100,101,102,103,104,105,106,107,108,109,110,111,112,113,114,115,116]) ?_;simp only[go_sem,List.map_cons,List.map_nil]
       revert hrow hbF hnf
       exact key _ _ _
   ·intro F D T hnf hrow hbF;have hap:=mY hv.hist.bR hv.hist.ri (sV (j:=(st i).j) hf) (st i).j.version;have hfd2:=fM (bV (st i).j r);have hf32:=fA (bV (st i).j r);rw[hrow] at hap hfd2;have hbk:(bV (st i).j r).kind=r.act.kind:=rfl;clear hv hf;generalize bV (st i).j r=b at *;have hsb:fy { (st i).j with own:=cF (st i).j r } r b=(if ((r.act.kind≠3/\r.act.kind≠4)\/r.version<0)\/cE (st i).j.ours F=true then false else match ak (st i).j.l F with | none=>true | some n=>n.version != r.version):=by unfold fy;rw[hbk,hbF];rfl
    have hg1:br (mN (bQ (st i).j.l)) F=(ak (st i).j.l F).map λn=>AV.agg (ZN n):=by rw[iJ,cM hup]
    apply Md
    ·intro key2;cases hff:ak (st i).j.l F with
     | none=>
      rw[hff] at hg1 hsb;simp only[Option.map_none] at hg1 hsb;refine wN 4 ?_;refine wN 1 ?_ z6 z6 p6 Qm;refine wN 2 ?_;refine wN 4 ?_;refine wR ?_;refine wN 8 ?_;refine wNm 132 λc132 h132=>?_
      refine wN 5 ?_;refine wNm 137 λc137 h137=>?_
      refine wN 7 ?_;refine wNm 144 λc144 h144=>?_
      refine wN 11 ?_;refine wNm 155 λc155 h155=>?_
      have hc:c155=fy { (st i).j with own:=cF (st i).j r } r b:=by
       rw[<-h155,<-h144,<-h137,<-h132,hsb]
       by_cases k3:r.act.kind=3<;>by_cases k4:r.act.kind=4<;>by_cases kv:r.version<0<;>cases cE (st i).j.ours F<;>simp[k3,k4,kv]<;>omega
      clear h155 h144 h137 h132 hsb;refine af (fm [117,118,119,120,121,122,123,124,125,126,127,128,129,130,131,132,133,134,135,136,137,138,139,140,141,142,143,144,145,146,147,148,149,150,151,152,153,154]) ?_;simp only[go_sem,List.map_cons,List.map_nil];refine af (fm [24,25]) ?_;simp only[go_sem,List.map_cons,List.map_nil];refine af (lH 24) ?_
      revert hc
      exact key2 c155
     | some n=>
      rw[hff] at hg1 hsb;simp only[Option.map_some] at hg1 hsb;refine wN 4 ?_;refine wN 1 ?_ z6 z6 x8 n4;refine wN 2 ?_;refine wN 4 ?_;refine wR ?_;refine wN 8 ?_;refine wNm 132 λc132 h132=>?_
      refine wN 5 ?_;refine wNm 137 λc137 h137=>?_
      refine wN 7 ?_;refine wNm 144 λc144 h144=>?_
      refine wN 11 ?_;refine wNm 155 λc155 h155=>?_
      have hc:c155=fy { (st i).j with own:=cF (st i).j r } r b:=by
       rw[<-h155,<-h144,<-h137,<-h132,hsb]
       by_cases k3:r.act.kind=3<;>by_cases k4:r.act.kind=4<;>by_cases kv:r.version<0<;>cases cE (st i).j.ours F<;>simp[k3,k4,kv]<;>omega
      clear h155 h144 h137 h132 hsb;refine af (fm [117,118,119,120,121,122,123,124,125,126,127,128,129,130,131,132,133,134,135,136,137,138,139,140,141,142,143,144,145,146,147,148,149,150,151,152,153,154]) ?_;simp only[go_sem,List.map_cons,List.map_nil];refine af (fm [24,25]) ?_;simp only[go_sem,List.map_cons,List.map_nil];refine af (lH 24) ?_
      revert hc
      exact key2 c155
    intro c hc;refine wG ?_;cases c with
    | true=>
     have hoe:jK (st i).j r=13:=by rw[hoE,if_neg Q3,if_neg hnf,if_pos hc.symm]
     refine wTG ?_ (hb:=rfl);have hst:=hbad _ hoe z8;refine wDT ?_ (hb:=Wy);refine wR ?_;refine wN 5 ?_;refine af (aY 214 9 z6 y9) ?_;refine wGq ?_ ?_ y6
     ·simp[rowsOf,ZV];omega
     exact ZB ⟨i+1,by omega,by omega,ZU s7 QZ s7⟩
    | false=>
     have hoe:jK (st i).j r=aF (st i).j.l b:=by rw[hoE,if_neg Q3,if_neg hnf,if_neg (by rw[<-hc];simp)]
     clear hoE hc;refine wDF ?_ (hb:=rfl);refine wG ?_ (by simp only[go_sem,hwv];try exact rfl) (by simp[go_sem,hwv]);generalize aF (st i).j.l b=E at *;generalize aK (st i).j.l b (st i).j.version=L at *
     by_cases hE:E=0
     ·rw[if_pos hE] at hap;have hst:=hgood (hoe.trans hE);clear hbad hgood;refine wCg ?_ func95 (hf:=hap);refine wDT ?_ (hb:=rfl);refine wR ?_;refine wN 3 ?_;refine wR ?_;refine wN 4 ?_;refine af (aY 177 9 z6 y9) ?_;refine wNq 3 ?_ ?_
      ·simp[rowsOf,ZA];omega
      refine wR ?_;refine wN 6 ?_;refine af (aY 214 9 z6 y9) ?_;refine wGq ?_ ?_
      ·simp[rowsOf,ZV];omega
      refine af (lH 214) ?_;refine af (mO 185 214 9 z6 z7 z7 z6 j0 j0 rfl z7 j6 j6) ?_;refine wCg ?_ func135 (hf:=hfd2);refine ZL (λk:Nat=>k<=(cA b).length) (λk=>(cA b).length-k) (λk=>(29,.any)::(190,.int .i64 k)::u0 191 6 []) (λk=>[(35,.map (mB (kj (st i).j.ours ((cA b).take k))))]) 0 z8 ?_ λk hk=>?_
      ·simp only[go_sem];exact ZU w3 (by simp[go_sem,kj]) w3
      simp only[go_sem];refine wGD (λh=>?_) (λh=>?_)
      ·have hlk:=lt1 h;have hgk:((cA b).map ZI).getD k []=ZI ((cA b).getD k default):=Fam.getD hlk;have htk:kj (st i).j.ours ((cA b).take (k+1))=aU (kj (st i).j.ours ((cA b).take k)) ((cA b).getD k default) true:=by rw[ZT hlk,uq]
       have hwk:IntKind.i64.wrap ((k:Int)+1)=((k+1:Nat):Int):=by rw[Eng.wrap_small z8 z8];rfl
       generalize (cA b).getD k default=f at *;refine wGq ?_ ?_ WX
       ·simp[hgk,ZI,hlk,AV.kF,AV.aW]
       exact ZB ⟨k+1,by omega,by omega,ZU w3 j7 w3⟩
      ·have e:k=(cA b).length:=by simp at h;omega
       subst e;rw[W4];refine wG ?_;cases h1:aR r.act with
       | true=>
        have ho:cF (st i).j r=aU (st i).j.own r.act.fid (st i).j.next:=by unfold cF;rw[if_pos h1]
        rw[h1] at hst;refine wDT ?_ (hb:=rfl);refine wG ?_ (by simp only[go_sem,hwn];try exact rfl) (by simp[go_sem,hwn]);refine wDF ?_ (hb:=rfl);refine wG ?_ y6 u3;exact ZB ⟨i+1,by omega,by omega,ZU s7 (by simp[go_sem,hst,jgR,ZV,hrow,hbF,ho,h1]) s7⟩
       | false=>
        have ho:cF (st i).j r=(st i).j.own:=ur h1;rw[h1] at hst;refine wDF ?_ (hb:=rfl);refine wG ?_ (by simp only[go_sem,hwn];try exact rfl) (by simp[go_sem,hwn]);refine wDF ?_ (hb:=rfl);refine wG ?_ y6 u3;exact ZB ⟨i+1,by omega,by omega,ZU s7 (by simp[go_sem,hst,jgR,ZV,hrow,hbF,ho,h1]) s7⟩
     ·rw[if_neg hE] at hap;refine wCg ?_ func95 (hf:=hap);refine wFG ?_ (hb:=x6);have hst:=hbad _ hoe z8;refine wDT ?_ (hb:=Wy);refine wR ?_;refine wN 5 ?_;refine af (aY 214 9 z6 y9) ?_;refine wGq ?_ ?_ y6
      ·simp[rowsOf,ZV];omega
      exact ZB ⟨i+1,by omega,by omega,ZU s7 QZ s7⟩
 ·obtain rfl:=eq1 hi h;refine wG ?_;refine ZZ 214 rfl (mj _) (wn ?_);refine ZZ 177 rfl (re _) (wn ?_);refine wGT ?_;simp[xP]
end La
