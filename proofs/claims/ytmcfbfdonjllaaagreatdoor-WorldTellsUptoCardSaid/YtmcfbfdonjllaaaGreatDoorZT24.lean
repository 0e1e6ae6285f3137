/- Texts of this claim, part 24: RJud. No condition. -/
import Derived.Test.YtmcfbfdonjllaaaGreatDoorZT21
set_option maxRecDepth 10000
set_option maxHeartbeats 4000000
set_option linter.unusedSimpArgs false
set_option linter.unusedVariables false
namespace La
open Go Go.Eng Go.Proofs
theorem BR {m:List (Int×Int)} {f x:Int}:gT m f=false->ec (bt m f x) f=m:=by
 intro h;have hno:∀{m:List (Int×Int)},gT m f=false->∀q,q∈m->q.1≠f:=by
  intro m
  induction m with
  | nil=>intro _ q hq;cases hq
  | cons a r ih=>
   intro h q hq;unfold gT at h ih;simp only[bj] at h;split at h
   ·simp at h
   ·rename_i hne
    rcases List.mem_cons.1 hq with rfl | hq
    ·exact hne
    ·exact ih h q hq
 have hfl:∀{m:List (Int×Int)},(∀q,q∈m->q.1≠f)->ec m f=m:=λhm=>W9.2 λq hq=>by simp[hm q hq]
 have hn:=hno h;clear h
 induction m with
 | nil=>simp[bt,ec]
 | cons a r ih=>
  have ha:=hn a List.mem_cons_self;have hr:∀q,q∈r->q.1≠f:=λq hq=>hn q (List.mem_cons_of_mem _ hq)
  simp only[bt,if_neg ha];split
  ·have:=hfl hn;unfold ec at this ⊢;rw[List.filter_cons,if_neg y7];exact this
  ·have:=ih hr;unfold ec at this ⊢;rw[List.filter_cons,if_pos (by simp[ha]),this]
theorem si {j:JS} {r:Rec} (h:aN r.act=false):cr j r=j.own:=by unfold cr;rw[h];rfl
theorem Ak {j:JS} {r:Rec} {a:Act} (hk:a.kind=r.act.kind) (h:aN r.act=true):fa j r a=false:=by
 unfold fa;rw[if_pos];left;left;rw[hk];unfold aN at h;simp only[Bool.or_eq_true,beq_iff_eq] at h;omega
theorem Cy {s:JG} {r:Rec} {e:Int} (he:i_ s.j r=e) (h:e≠0):lk s r=⟨vp s.j r.act.fid,s.vs++[⟨e,0⟩],s.done⟩:=by
 subst he;unfold lk jx;rw[if_neg h,if_neg h];have:e_ s.j r=s.j:=by
  unfold e_;unfold i_ at h;split
  ·rfl
  ·rename_i h1;rw[if_neg h1] at h;split
   ·rfl
   ·rename_i h2;rw[if_neg h2] at h;cases hm:aN r.act with
    | false=>
     rw[si hm] at h ⊢;split
     ·rfl
     ·split
      ·rfl
      ·rename_i h3 h4;rw[if_neg h3] at h;simp at h4;exact absurd h4 h
    | true=>
     have hs:fa { s.j with own:=cr s.j r } r (bH s.j r)=false:=Ak rfl hm;rw[hs] at h ⊢;simp only[Bool.false_eq_true,if_false] at h ⊢;rw[if_pos h];have hh:gT s.j.own r.act.fid=false:=by
      cases e:gT s.j.own r.act.fid with
      | false=>rfl
      | true=>exact absurd ⟨hm,.inl e⟩ h2
     simp only[if_true];unfold cr;rw[hm];simp only[if_true];rw[BR hh]
 rw[this]
theorem Al {s:JG} {r:Rec} (h:i_ s.j r=0):lk s r=⟨⟨aH s.j.l (bH s.j r) s.j.version,if aN r.act=true then s.j.next+1 else s.j.next,s.j.version+1,cr s.j r,jk s.j.ours (bQ (bH s.j r)),s.j.lost⟩,s.vs++[⟨0,(bH s.j r).fid⟩],s.done++[bH s.j r]⟩:=by
 unfold lk jx;rw[if_pos h,if_pos h,h];unfold i_ at h;split at h
 ·omega
 ·rename_i c1;split at h
  ·omega
  ·rename_i c2;split at h
   ·omega
   ·rename_i c3;have hJ:e_ s.j r={ s.j with l:=aH s.j.l (bH s.j r) s.j.version,next:=if aN r.act=true then s.j.next+1 else s.j.next,version:=s.j.version+1,own:=cr s.j r }:=by
     unfold e_;rw[if_neg c1,if_neg c2,if_neg c3,if_neg WE]
    have hA:jw s.j r=bH s.j r:=by unfold jw;rw[if_neg c1,if_neg c2]
    rw[hJ,hA]
theorem zG {α:Type} {n:Int} {v:α} (kvs:List (Int×α)) (k:Int):bj (bt kvs n v) k=if k=n then some v else bj kvs k:=by
 induction kvs with
 | nil=>
  simp only[bt,bj]
  by_cases e:n=k
  ·rw[if_pos e,if_pos e.symm]
  ·rw[if_neg e,if_neg (λh=>e h.symm)]
 | cons p r ih=>
  simp only[bt];split
  ·rename_i hp;simp only[bj]
   by_cases e:n=k
   ·rw[if_pos e,if_pos e.symm]
   ·rw[if_neg e,if_neg (λh=>e h.symm),if_neg z8]
  ·split
   ·simp only[bj]
    by_cases e:n=k
    ·rw[if_pos e,if_pos e.symm]
    ·rw[if_neg e,if_neg (λh:k=n=>e h.symm)]
   ·simp only[bj]
    by_cases e:p.1=k
    ·rw[if_pos e,if_neg z8,if_pos e]
    ·rw[if_neg e,ih,if_neg e]
theorem uM (m:List (Int×Int)) (f x k:Int):atF (bt m f x) k=if k=f then x else atF m k:=by
 unfold atF gT FR;rw[zG]
 by_cases e:k=f
 ·rw[if_pos e,if_pos e];rfl
 ·rw[if_neg e,if_neg e]
def atH (m:List (Int×Int)) (G Y N:Nat->Nat):List (Nat×Blk):=[(10,.cells 74 1 [[.mp 33]]),(33,.map (mI m))]++pins [10,33] G Y N
theorem Is (m:List (Int×Int)) (f:Int) (G Y N:Nat->Nat):ae Tryz.prog 168 [.int .i64 f,.ptr 10 1 0 0] (atH m G Y N) (λr H=>r=.int .i64 (atF m f)/\Holds (atH m G Y N) H):=by
 unfold atH;refine ZF tK (Tryz.func168) rfl (λC=>?_);simp only[Tryz.ntmps168,Tryz.results168,go_sem];refine wG tK ?_;cases h0:gT m f with
 | true=>
  refine wDT (hb:=Qw) (hk:=?_);refine wG tK ?_;refine wU ?_ ?_
  ·unfold atF;rw[h0];rfl
  ·exact q9
 | false=>
  refine wDF (hb:=Qw) (hk:=?_);refine wG tK ?_;refine wU ?_ ?_
  ·unfold atF;rw[h0];rfl
  ·exact q9
noncomputable def vh (g:JG):AV:=.agg [.sl (g.vs.map ZV),.sl (g.done.map ZA),.rm (mN (bD g.j.l)),.int .i64 g.j.next]
def jgR (s:JG):List (Nat×Blk):=[(214,.cells 162 2 (s.vs.map ZV)),(177,.cells 49 7 (s.done.map ZA)),(9,.cells 215 4 [[.osl 214 2 0 s.vs.length,.osl 177 7 0 s.done.length,.rm (mN (bD s.j.l)),.int .i64 s.j.next]]),(33,.map (mI s.j.own)),(34,.map (mB s.j.lost)),(35,.map (mB s.j.ours))]
def su (b:Bool):Int:=if b=true then 14 else 0
theorem B7 (m:List (Int×Bool)) (l:List Int) (x:Int):su ((l++[x]).any (cO m))=if cO m x=true then 14 else su (l.any (cO m)):=by
 unfold su;rw[List.any_append];cases l.any (cO m)<;>cases h:cO m x<;>simp[h]
theorem B8 (p:List Past) (l:List Node) (next:Int) (log:List Rec) (h:Hist p l) (hp:p.length≤80000000) (hn:next.natAbs≤80000000) (hl2:log.length≤2000000) (hfit:∀r,r∈log->ActFit r.act) :
  ae Tryz.prog 137 [.rm (mN (bD l)),.int .i64 next,.int .i64 ((p.length+1:Nat):Int),.sl (log.map ZR)] []
   (λr _=>r=vh (bS l next ((p.length+1:Nat):Int) log)):=by
 have hfin:bS l next ((p.length+1:Nat):Int) log=qv l next ((p.length+1:Nat):Int) log log.length:=by unfold qv;rw[Wo];rfl
 have hinv:=λi=>@xx p l h next log hfit i
 have hsucc:=λi=>@ua l next ((p.length+1:Nat):Int) log i
 have hz:qv l next ((p.length+1:Nat):Int) log 0=gZ l next ((p.length+1:Nat):Int):=rfl
 rw[hfin];generalize qv l next ((p.length+1:Nat):Int) log=st at *
 refine ZF tK (Tryz.func137) rfl (λC=>?_);simp only[Tryz.ntmps137,Tryz.results137,go_sem];refine wG tK ?_;refine ag (le_empty 177 49 7 z7) ?_;refine ag (le_empty 214 162 2 z7) ?_;simp only[go_sem];refine ag (kB 9 ([[.osl 214 2 0 0,.osl 177 7 0 0,.rm (mN (bD l)),.int .i64 next]]) z6 Q6) ?_;simp only[go_sem];refine ZL (λi:Nat=>i≤log.length) (λi=>log.length-i) (λi=>(15,.any)::(16,.any)::(17,.any)::u0 19 11 ((39,.int .i64 i)::u0 40 180 [])) (λi=>jgR (st i)) 0 z8 ?_ λi hi=>?_
 ·rw[hz];simp only[gZ,jgR,mI,mB];simp only[go_sem];exact ZU w3 w3 s7
 unfold jgR;simp only[go_sem];refine wG tK ?_;refine wD (λh=>?_) (λh=>?_)
 ·have hlt:i<log.length:=by simp at h;omega
  have hg:(log.map ZR).getD i []=ZR (log.getD i default):=Fam.getD hlt;have hv:=hinv i z8;have hf:=hfit _ (YG hlt);have hsc:=hsucc i hlt;clear hinv hsucc;generalize log.getD i default=r at *;have hnx:=hv.next;have hvs:=hv.vlen;have hdl:=hv.len;have hbad:∀e,i_ (st i).j r=e->e≠0->st (i+1)=⟨vp (st i).j r.act.fid,(st i).vs++[⟨e,0⟩],(st i).done⟩:=λe h1 h2=>hsc.trans (Cy h1 h2)
  have hgood:i_ (st i).j r=0->_:=λh1=>hsc.trans (Al h1)
  clear hsc;have hfd:=fv r.act;have hf3:=ff r.act;have hoE:i_ (st i).j r=if fV (st i).j r.act=true then 14 else if aN r.act=true/\(gT (st i).j.own r.act.fid=true\/r.act.fid≥0) then 2 else if fa { (st i).j with own:=cr (st i).j r } r (bH (st i).j r)=true then 13 else aD (st i).j.l (bH (st i).j r):=rfl;have how':=wi1 (i:=i) z8;unfold ZA at hfd;refine wR ?_;refine wNq tK 4 ?_ ?_ z6 z6 p5
  ·simp[hg,ZR,hlt]
  refine wG tK ?_;refine wC Tryz.func135 (hf:=(hfd)) (hk:=?_);refine wG tK ?_;refine ZL (λk:Nat=>k≤(bQ r.act).length) (λk=>(bQ r.act).length-k) (λk=>(17,.int .i64 (su (((bQ r.act).take k).any (cO (st i).j.lost))))::(19,.any)::(48,.int .i64 k)::u0 49 7 []) (λk=>[]) 0 z8 ?_ λk hk=>?_
  ·simp only[go_sem];exact ZU (by simp[go_sem,su]) w3 w3
  simp only[go_sem];refine wG tK ?_;refine wD (λh=>?_) (λh=>?_)
  ·have hlk:k<(bQ r.act).length:=by simp at h;omega
   have hgk:((bQ r.act).map ZI).getD k []=ZI ((bQ r.act).getD k default):=Fam.getD hlk;have htk:=B7 (st i).j.lost ((bQ r.act).take k) ((bQ r.act).getD k default);rw[←ZT hlk] at htk;have hwk:IntKind.i64.wrap ((k:Int)+1)=((k+1:Nat):Int):=by rw[Eng.wrap_small z8 z8];rfl
   generalize (bQ r.act).getD k default=f at *;refine wGq tK ?_ ?_ (by simp only[go_sem,hgk,ZI];try exact rfl)
   ·simp[hgk,ZI,hlk]
   refine wD (λh=>?_) (λh=>?_)
   ·rw[h,if_pos rfl] at htk;refine wG tK ?_ (by simp only[go_sem,hwk];try exact rfl) (by simp[go_sem,hwk]);refine ZB ⟨k+1,by omega,by omega,ZU ?_ ?_ ?_⟩
    ·simp[go_sem,htk]
    ·simp[go_sem]
    ·simp[go_sem]
   ·rw[h,if_neg y7] at htk;refine wG tK ?_ (by simp only[go_sem,hwk];try exact rfl) (by simp[go_sem,hwk]);refine ZB ⟨k+1,by omega,by omega,ZU ?_ ?_ ?_⟩
    ·simp[go_sem,htk]
    ·simp[go_sem]
    ·simp[go_sem]
  have e:k=(bQ r.act).length:=by simp at h;omega
  subst e;rw[Wo];rw[show (bQ r.act).any (cO (st i).j.lost)=fV (st i).j r.act from rfl];clear hfd hfin hz hk hg h;have hup:=hv.hist.bF.up;have hwv:IntKind.i64.wrap (((p.length+1:Nat):Int)+((st i).done.length:Int))=(st i).j.version:=by rw[hv.version,Eng.wrap_small z8 z8];omega
  have hwn:IntKind.i64.wrap ((st i).j.next+1)=(st i).j.next+1:=Eng.wrap_small z8 z8;have hat:=Is (st i).j.own;unfold atH at hat;refine wR ?_;refine wN tK 8 ?_;refine ak 63 z6 (λc63 h63=>?_);simp only[go_sem];have h63':c63=aN r.act:=by rw[←h63,eO];rfl
  clear h63;subst h63';cases h0:fV (st i).j r.act with
  | true=>
   have hoe:i_ (st i).j r=14:=by rw[hoE,if_pos h0]
   rw[show su true=14 from rfl];refine wN tK 1 ?_;refine wR ?_;refine wN tK 9 ?_;refine wR ?_;refine wN tK 13 ?_;refine wG tK ?_;refine wDF (hb:=y7) (hk:=?_);refine wG tK ?_;refine wDF (hb:=y7) (hk:=?_);refine wG tK ?_;have hst:=hbad _ hoe z8;refine wDT (hb:=Wg) (hk:=?_);refine wR ?_;refine wN tK 5 ?_;refine ag (bh 214 9 z6 k9) ?_;refine wGq tK ?_ ?_ j5
   ·simp[rowsOf,ZV];omega
   refine ZB ⟨i+1,by omega,by omega,ZU ?_ ?_ ?_⟩
   ·simp[go_sem,hst]
   ·simp[go_sem,hst,jgR,vp,ZV,Wo]
   ·simp[go_sem,hst]
  | false=>
   rw[show su false=0 from rfl]
   apply IN
   ·intro key
    by_cases h1:aN r.act=false
    ·have ho:cr (st i).j r=(st i).j.own:=si h1;have hnf:¬(aN r.act=true/\(gT (st i).j.own r.act.fid=true\/r.act.fid≥0)):=λhh=>by rw[h1] at hh;cases hh.1
     refine wN tK 1 ?_;refine wR ?_;refine wN tK 9 ?_;refine wR ?_;refine wNq tK 13 ?_ ?_
     ·simp[go_sem,h1]
     refine wG tK ?_;refine wDF (hb:=(by simp[h1])) (hk:=?_);refine wG tK ?_;refine wDT (hb:=(rfl)) (hk:=?_);refine wG tK ?_;refine ZW ZM ?_;refine ZS rfl ?_;refine sN tK 3 ?_;refine dA rfl rfl z7 w3 ⟨_,Tryz.func168,by kernel_rfl,rfl⟩ [10,33] w8 w3 y7 w3 w3 (hat r.act.fid) z6 w9 ?_;refine sN tK 3 ?_;refine dA rfl rfl z7 w3 ⟨_,Tryz.func168,by kernel_rfl,rfl⟩ [10,33] w8 w3 y7 w3 w3 (hat r.act.dir) z6 w9 ?_;refine sN tK 1 ?_;refine sT tK ?_;refine sN tK 1 ?_;refine sT tK ?_;refine sE ?_;refine wKd ?_
     try simp only[go_sem,gA,gB,gC]
     refine wG tK ?_;refine wDF (hb:=(h1)) (hk:=?_);have eF:atF (cr (st i).j r) r.act.fid=atF (st i).j.own r.act.fid:=by rw[ho]
     have eD:atF (cr (st i).j r) r.act.dir=atF (st i).j.own r.act.dir:=by rw[ho]
     by_cases hk5:r.act.kind=5
     ·have eT:(if r.act.kind=5 then atF (cr (st i).j r) r.act.to else r.act.to)=atF (st i).j.own r.act.to:=by rw[if_pos hk5,ho]
      refine wG tK ?_;refine wDT (hb:=WA) (hk:=?_);refine wG tK ?_;refine wP [10,33] Tryz.func168 (hf:=(hat r.act.to)) (hk:=?_);refine wN tK 2 ?_;have hrow:ZA (bH (st i).j r)=[.int .i64 r.act.kind,.int .i64 (atF (st i).j.own r.act.fid),.int .i64 (atF (st i).j.own r.act.dir),.str r.act.name,.int .i64 (atF (st i).j.own r.act.to),.str r.act.toName,.sl (r.act.data.map ZY)]:=by simp only[ZA,bH,eF,eD,eT]
      have hbF:(bH (st i).j r).fid=(atF (st i).j.own r.act.fid):=eF;refine wR ?_;refine ag (eU [40,41,42,43,44,45,46,47,48,49,50,51,52,53,54,55,56,57,58,59,60,61,62,63,64,65,66,67,68,69,70,71,72,73,74,75,76,77,78,79,80,81,82,83,84,85,86,87,88,89,90,91,92,93,94,95,96,97,98,99,100,101,102,103,104,105,106,107,108,109,110,111,112,113,114,115,116]) ?_;simp only[go_sem,List.map_cons,List.map_nil]
      revert hrow hbF hnf
      generalize atF (st i).j.own r.act.fid=F;generalize atF (st i).j.own r.act.dir=D;generalize atF (st i).j.own r.act.to=T;exact key F D T
     ·have eT:(if r.act.kind=5 then atF (cr (st i).j r) r.act.to else r.act.to)=r.act.to:=if_neg hk5;refine wG tK ?_;refine wDF (hb:=WA) (hk:=?_);have hrow:ZA (bH (st i).j r)=[.int .i64 r.act.kind,.int .i64 (atF (st i).j.own r.act.fid),.int .i64 (atF (st i).j.own r.act.dir),.str r.act.name,.int .i64 r.act.to,.str r.act.toName,.sl (r.act.data.map ZY)]:=by simp only[ZA,bH,eF,eD,eT]
      have hbF:(bH (st i).j r).fid=(atF (st i).j.own r.act.fid):=eF;refine wR ?_;refine ag (eU [40,41,42,43,44,45,46,47,48,49,50,51,52,53,54,55,56,57,58,59,60,61,62,63,64,65,66,67,68,69,70,71,72,73,74,75,76,77,78,79,80,81,82,83,84,85,86,87,88,89,90,91,92,93,94,95,96,97,98,99,100,101,102,103,104,105,106,107,108,109,110,111,112,113,114,115,116]) ?_;simp only[go_sem,List.map_cons,List.map_nil]
      revert hrow hbF hnf
      exact key _ _ _
    ·have h1:aN r.act=true:=by simpa using h1
     have hk5:¬r.act.kind=5:=λe=>by simp[aN,e] at h1
     refine wN tK 1 ?_;refine wR ?_;refine wN tK 9 ?_;refine wR ?_;refine wNq tK 13 ?_ ?_
     ·simp[go_sem,h1]
     refine wG tK ?_;cases h2:(gT (st i).j.own r.act.fid||decide (r.act.fid≥0)) with
     | true=>
      have hoe:i_ (st i).j r=2:=by rw[hoE,if_neg Qw,if_pos ⟨h1,by simpa using h2⟩]
      refine wDT (hb:=(by simpa[eO,h1] using h2)) (hk:=?_);refine wG tK ?_;refine wDF (hb:=y7) (hk:=?_);refine wG tK ?_;have hst:=hbad _ hoe z8;refine wDT (hb:=Wg) (hk:=?_);refine wR ?_;refine wN tK 5 ?_;refine ag (bh 214 9 z6 k9) ?_;refine wGq tK ?_ ?_ j5
      ·simp[rowsOf,ZV];omega
      refine ZB ⟨i+1,by omega,by omega,ZU ?_ ?_ ?_⟩
      ·simp[go_sem,hst]
      ·simp[go_sem,hst,jgR,vp,ZV,Wo]
      ·simp[go_sem,hst]
     | false=>
      have ho:cr (st i).j r=bt (st i).j.own r.act.fid (st i).j.next:=by unfold cr;rw[if_pos h1]
      have hnf:¬(aN r.act=true/\(gT (st i).j.own r.act.fid=true\/r.act.fid≥0)):=λhh=>by
       have:=hh.2;simp only[Bool.or_eq_false_iff,decide_eq_false_iff_not] at h2
       rcases this with h | h
       ·rw[h2.1] at h;cases h
       ·exact h2.2 h
      refine wDF (hb:=(by simpa[eO,h1] using h2)) (hk:=?_);clear h2;refine wG tK ?_;refine wDT (hb:=(rfl)) (hk:=?_);refine wG tK ?_;refine ZW ZM ?_;refine ZS rfl ?_;refine sN tK 3 ?_;refine dA rfl rfl z7 w3 ⟨_,Tryz.func168,by kernel_rfl,rfl⟩ [10,33] w8 w3 y7 w3 w3 (hat r.act.fid) z6 w9 ?_;refine sN tK 3 ?_;refine dA rfl rfl z7 w3 ⟨_,Tryz.func168,by kernel_rfl,rfl⟩ [10,33] w8 w3 y7 w3 w3 (hat r.act.dir) z6 w9 ?_;refine sN tK 1 ?_;refine sT tK ?_;refine sN tK 1 ?_;refine sT tK ?_;refine sE ?_;refine wKd ?_
      try simp only[go_sem,gA,gB,gC]
      refine wG tK ?_;refine wDT (hb:=(h1)) (hk:=?_);have eF:atF (cr (st i).j r) r.act.fid=(st i).j.next:=by rw[ho,uM,if_pos rfl]
      have eT:(if r.act.kind=5 then atF (cr (st i).j r) r.act.to else r.act.to)=r.act.to:=if_neg hk5
      by_cases hdf:r.act.dir=r.act.fid
      ·have eD:atF (cr (st i).j r) r.act.dir=(st i).j.next:=by rw[ho,uM,if_pos hdf]
       refine wG tK ?_;refine wDT (hb:=(by simp[hdf])) (hk:=?_);refine wG tK ?_;refine wDF (hb:=WA) (hk:=?_);have hrow:ZA (bH (st i).j r)=[.int .i64 r.act.kind,.int .i64 (st i).j.next,.int .i64 (st i).j.next,.str r.act.name,.int .i64 r.act.to,.str r.act.toName,.sl (r.act.data.map ZY)]:=by simp only[ZA,bH,eF,eD,eT]
       have hbF:(bH (st i).j r).fid=(st i).j.next:=eF;refine wR ?_;refine ag (eU [40,41,42,43,44,45,46,47,48,49,50,51,52,53,54,55,56,57,58,59,60,61,62,63,64,65,66,67,68,69,70,71,72,73,74,75,76,77,78,79,80,81,82,83,84,85,86,87,88,89,90,91,92,93,94,95,96,97,98,99,100,101,102,103,104,105,106,107,108,109,110,111,112,113,114,115,116]) ?_;simp only[go_sem,List.map_cons,List.map_nil]
       revert hrow hbF hnf
       exact key _ _ _
      ·have eD:atF (cr (st i).j r) r.act.dir=atF (st i).j.own r.act.dir:=by rw[ho,uM,if_neg hdf]
       refine wG tK ?_;refine wDF (hb:=(by simp[hdf])) (hk:=?_);refine wG tK ?_;refine wDF (hb:=WA) (hk:=?_);have hrow:ZA (bH (st i).j r)=[.int .i64 r.act.kind,.int .i64 (st i).j.next,.int .i64 (atF (st i).j.own r.act.dir),.str r.act.name,.int .i64 r.act.to,.str r.act.toName,.sl (r.act.data.map ZY)]:=by simp only[ZA,bH,eF,eD,eT]
       have hbF:(bH (st i).j r).fid=(st i).j.next:=eF;refine wR ?_;refine ag (eU [40,41,42,43,44,45,46,47,48,49,50,51,52,53,54,55,56,57,58,59,60,61,62,63,64,65,66,67,68,69,70,71,72,73,74,75,76,77,78,79,80,81,82,83,84,85,86,87,88,89,90,91,92,93,94,95,96,97,98,99,100,101,102,103,104,105,106,107,108,109,110,111,112,113,114,115,116]) ?_;simp only[go_sem,List.map_cons,List.map_nil]
       revert hrow hbF hnf
       exact key _ _ _
   ·intro F D T hnf hrow hbF;have hap:=lW hv.hist.bF hv.hist.ri (rh (j:=(st i).j) hf) (st i).j.version;have hfd2:=fv (bH (st i).j r);have hf32:=ff (bH (st i).j r);rw[hrow] at hap hfd2;have hbk:(bH (st i).j r).kind=r.act.kind:=rfl;clear hv hf;generalize bH (st i).j r=b at *;have hsb:fa { (st i).j with own:=cr (st i).j r } r b=(if ((r.act.kind≠3/\r.act.kind≠4)\/r.version<0)\/cO (st i).j.ours F=true then false else match aj (st i).j.l F with | none=>true | some n=>n.version != r.version):=by unfold fa;rw[hbk,hbF];rfl
    have hg1:bj (mN (bD (st i).j.l)) F=(aj (st i).j.l F).map λn=>AV.agg (ZN n):=by rw[gV,cy hup]
    apply IP
    ·intro key2;cases hff:aj (st i).j.l F with
     | none=>
      rw[hff] at hg1 hsb;simp only[Option.map_none] at hg1 hsb;refine wN tK 4 ?_;refine wN tK 1 ?_ z6 z6 p7 Qm;refine wN tK 2 ?_;refine wN tK 4 ?_;refine wR ?_;refine wN tK 8 ?_;refine ak 132 z6 (λc132 h132=>?_);simp only[go_sem];refine wN tK 5 ?_;refine ak 137 z6 (λc137 h137=>?_);simp only[go_sem];refine wN tK 7 ?_;refine ak 144 z6 (λc144 h144=>?_);simp only[go_sem];refine wN tK 11 ?_;refine ak 155 z6 (λc155 h155=>?_);simp only[go_sem];have hc:c155=fa { (st i).j with own:=cr (st i).j r } r b:=by
       rw[←h155,←h144,←h137,←h132,hsb]
       by_cases k3:r.act.kind=3<;>by_cases k4:r.act.kind=4<;>by_cases kv:r.version<0<;>cases cO (st i).j.ours F<;>simp[k3,k4,kv]<;>omega
      clear h155 h144 h137 h132 hsb;refine ag (eU [117,118,119,120,121,122,123,124,125,126,127,128,129,130,131,132,133,134,135,136,137,138,139,140,141,142,143,144,145,146,147,148,149,150,151,152,153,154]) ?_;simp only[go_sem,List.map_cons,List.map_nil];refine ag (eU [24,25]) ?_;simp only[go_sem,List.map_cons,List.map_nil];refine ag (dq 24) ?_
      revert hc
      exact key2 c155
     | some n=>
      rw[hff] at hg1 hsb;simp only[Option.map_some] at hg1 hsb;refine wN tK 4 ?_;refine wN tK 1 ?_ z6 z6 u3 n9;refine wN tK 2 ?_;refine wN tK 4 ?_;refine wR ?_;refine wN tK 8 ?_;refine ak 132 z6 (λc132 h132=>?_);simp only[go_sem];refine wN tK 5 ?_;refine ak 137 z6 (λc137 h137=>?_);simp only[go_sem];refine wN tK 7 ?_;refine ak 144 z6 (λc144 h144=>?_);simp only[go_sem];refine wN tK 11 ?_;refine ak 155 z6 (λc155 h155=>?_);simp only[go_sem];have hc:c155=fa { (st i).j with own:=cr (st i).j r } r b:=by
       rw[←h155,←h144,←h137,←h132,hsb]
       by_cases k3:r.act.kind=3<;>by_cases k4:r.act.kind=4<;>by_cases kv:r.version<0<;>cases cO (st i).j.ours F<;>simp[k3,k4,kv]<;>omega
      clear h155 h144 h137 h132 hsb;refine ag (eU [117,118,119,120,121,122,123,124,125,126,127,128,129,130,131,132,133,134,135,136,137,138,139,140,141,142,143,144,145,146,147,148,149,150,151,152,153,154]) ?_;simp only[go_sem,List.map_cons,List.map_nil];refine ag (eU [24,25]) ?_;simp only[go_sem,List.map_cons,List.map_nil];refine ag (dq 24) ?_
      revert hc
      exact key2 c155
    intro c hc;refine wG tK ?_;cases c with
    | true=>
     have hoe:i_ (st i).j r=13:=by rw[hoE,if_neg Qw,if_neg hnf,if_pos hc.symm]
     refine wDT (hb:=(rfl)) (hk:=?_);refine wG tK ?_;have hst:=hbad _ hoe z8;refine wDT (hb:=Wg) (hk:=?_);refine wR ?_;refine wN tK 5 ?_;refine ag (bh 214 9 z6 k9) ?_;refine wGq tK ?_ ?_ j5
     ·simp[rowsOf,ZV];omega
     refine ZB ⟨i+1,by omega,by omega,ZU ?_ ?_ ?_⟩
     ·simp[go_sem,hst]
     ·simp[go_sem,hst,jgR,vp,ZV,Wo]
     ·simp[go_sem,hst]
    | false=>
     have hoe:i_ (st i).j r=aD (st i).j.l b:=by rw[hoE,if_neg Qw,if_neg hnf,if_neg (by rw[←hc];simp)]
     clear hoE hc;refine wDF (hb:=(rfl)) (hk:=?_);refine wG tK ?_ (by simp only[go_sem,hwv];try exact rfl) (by simp[go_sem,hwv]);generalize aD (st i).j.l b=E at *;generalize aH (st i).j.l b (st i).j.version=L at *
     by_cases hE:E=0
     ·rw[if_pos hE] at hap;have hst:=hgood (hoe.trans hE);clear hbad hgood;refine wC Tryz.func95 (hf:=(hap)) (hk:=?_);refine wG tK ?_;refine wDT (hb:=(rfl)) (hk:=?_);refine wR ?_;refine wN tK 3 ?_;refine wR ?_;refine wN tK 4 ?_;refine ag (bh 177 9 z6 k9) ?_;refine wNq tK 3 ?_ ?_
      ·simp[rowsOf,ZA];omega
      refine wR ?_;refine wN tK 6 ?_;refine ag (bh 214 9 z6 k9) ?_;refine wGq tK ?_ ?_
      ·simp[rowsOf,ZV];omega
      refine ag (dq 214) ?_;refine ag (zr 185 214 9 z6 z7 z7 z6 QT QT rfl z7 QM QM) ?_;refine wC Tryz.func135 (hf:=(hfd2)) (hk:=?_);refine wG tK ?_;refine ZL (λk:Nat=>k≤(bQ b).length) (λk=>(bQ b).length-k) (λk=>(29,.any)::(190,.int .i64 k)::u0 191 6 []) (λk=>[(35,.map (mB (jk (st i).j.ours ((bQ b).take k))))]) 0 z8 ?_ λk hk=>?_
      ·simp only[go_sem];exact ZU w3 (by simp[go_sem,jk]) w3
      simp only[go_sem];refine wG tK ?_;refine wD (λh=>?_) (λh=>?_)
      ·have hlk:k<(bQ b).length:=by simp at h;omega
       have hgk:((bQ b).map ZI).getD k []=ZI ((bQ b).getD k default):=Fam.getD hlk;have htk:jk (st i).j.ours ((bQ b).take (k+1))=bt (jk (st i).j.ours ((bQ b).take k)) ((bQ b).getD k default) true:=by rw[ZT hlk,sh]
       have hwk:IntKind.i64.wrap ((k:Int)+1)=((k+1:Nat):Int):=by rw[Eng.wrap_small z8 z8];rfl
       generalize (bQ b).getD k default=f at *;refine wGq tK ?_ ?_ WK
       ·simp[hgk,ZI,hlk,AV.jE,AV.aY]
       refine ZB ⟨k+1,by omega,by omega,ZU ?_ ?_ ?_⟩
       ·simp[go_sem]
       ·simp[go_sem,htk]
       ·simp[go_sem]
      ·have e:k=(bQ b).length:=by simp at h;omega
       subst e;rw[Wo];refine wG tK ?_;cases h1:aN r.act with
       | true=>
        have ho:cr (st i).j r=bt (st i).j.own r.act.fid (st i).j.next:=by unfold cr;rw[if_pos h1]
        rw[h1] at hst;refine wDT (hb:=(rfl)) (hk:=?_);refine wG tK ?_ (by simp only[go_sem,hwn];try exact rfl) (by simp[go_sem,hwn]);refine wDF (hb:=(rfl)) (hk:=?_);refine wG tK ?_ j5 Qf;refine ZB ⟨i+1,by omega,by omega,ZU ?_ ?_ ?_⟩
        ·simp[go_sem,hst]
        ·simp[go_sem,hst,jgR,ZV,hrow,hbF,ho,h1]
        ·simp[go_sem,hst]
       | false=>
        have ho:cr (st i).j r=(st i).j.own:=si h1;rw[h1] at hst;refine wDF (hb:=(rfl)) (hk:=?_);refine wG tK ?_ (by simp only[go_sem,hwn];try exact rfl) (by simp[go_sem,hwn]);refine wDF (hb:=(rfl)) (hk:=?_);refine wG tK ?_ j5 Qf;refine ZB ⟨i+1,by omega,by omega,ZU ?_ ?_ ?_⟩
        ·simp[go_sem,hst]
        ·simp[go_sem,hst,jgR,ZV,hrow,hbF,ho,h1]
        ·simp[go_sem,hst]
     ·rw[if_neg hE] at hap;refine wC Tryz.func95 (hf:=(hap)) (hk:=?_);refine wG tK ?_;refine wDF (hb:=u2) (hk:=?_);refine wG tK ?_;have hst:=hbad _ hoe z8;refine wDT (hb:=Wg) (hk:=?_);refine wR ?_;refine wN tK 5 ?_;refine ag (bh 214 9 z6 k9) ?_;refine wGq tK ?_ ?_ j5
      ·simp[rowsOf,ZV];omega
      refine ZB ⟨i+1,by omega,by omega,ZU ?_ ?_ ?_⟩
      ·simp[go_sem,hst]
      ·simp[go_sem,hst,jgR,vp,ZV,Wo]
      ·simp[go_sem,hst]
 ·have e:i=log.length:=by simp at h;omega
  subst e;refine wG tK ?_;refine ZZ 214 rfl (lq _) ?_;simp only[go_sem];refine ZZ 177 rfl (pJ _) ?_;simp only[go_sem];refine wG tK ?_;refine wT ?_;simp[vh]
end La
