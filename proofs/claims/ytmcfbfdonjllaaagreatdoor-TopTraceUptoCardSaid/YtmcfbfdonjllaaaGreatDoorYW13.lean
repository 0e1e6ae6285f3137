/- Texts of this claim, part 13: Cach2, Unl, Maps, PJud, Jud, Jud2, Jud3, Take, PBfs. No condition. -/
import Derived.Test.YtmcfbfdonjllaaaGreatDoorYW12
set_option maxRecDepth 10000
set_option maxHeartbeats 4000000
set_option linter.unusedSimpArgs false
set_option linter.unusedVariables false
namespace La
open Go Go.Eng Go.Proofs
theorem mV {l:List Kept} {fid:Int} {i:Nat} (h:dq l fid=some i):i<l.length:=(WK.1 h).1
def wg (l:List Kept) (fid now:Int):List Kept:=match dq l fid with
 | none=>l
 | some i=>l.set i { l.getD i default with last:=now }
theorem gJ {M:List Kept} {i:Nat} (h:i<M.length):(M.map ZK).getD i []=[.int .i64 (M.getD i default).node.fid,.bool (M.getD i default).node.dir,.sl ((M.getD i default).node.data.map ZY),.sl ((M.getD i default).node.entries.map ZE),.int .i64 (M.getD i default).node.version,.bool (M.getD i default).dirty,.int .i64 (M.getD i default).worth,.int .i64 (M.getD i default).last]:=by
 rw[Fam.getD h];rfl
theorem jv (M:List Kept) (i:Nat) (n:Kept):(M.map ZK).set i (ZK n)=(M.set i n).map ZK:=by rw[List.map_set]
def dU (at_:List Node) (k:Kept):Bool:=!k.dirty&&(!bz at_ k.node.fid||!(((af at_ k.node.fid).getD ax).version==k.node.version))
theorem BE (at_:List Node) (k:Kept) (hat:Small at_):ag Tryz.prog 81 [.agg (ZK k),.rp [.sl (at_.map ZN)] 0] [] (λr _=>r=.bool (dU at_ k)):=by
 unfold ZK;refine ZF tK (Tryz.func81) rfl (λC=>?_);simp only[Tryz.ntmps81,Tryz.results81,go_sem];refine wG tK ?_;refine wC Tryz.func82 (hf:=(eF at_ k.node.fid hat)) (hk:=?_);simp only[go_sem,gx];unfold dU;generalize (af at_ k.node.fid).getD ax=n;generalize bz at_ k.node.fid=b;refine wGq tK ?_ ?_ y6
 ·simp[ZN];exact λh=>⟨h,λhb=>⟨h,hb⟩⟩
 refine wT ?_;cases k.dirty<;>cases b<;>rfl
theorem sc (l:List Kept) (at_:List Node) (hl:SmallK l) (hat:Small at_):ag Tryz.prog 43 [.sl (l.map ZK),.sl (at_.map ZN)] [] (λr _=>r=.sl ((l.filter λk=>!dU at_ k).map ZK)):=by
 refine ZF tK (Tryz.func43) rfl (λC=>?_);simp only[Tryz.ntmps43,Tryz.results43,go_sem];refine wG tK ?_;refine ZZ 3 rfl (rfl) ?_;simp only[go_sem];refine wCG [] 978 Tryz.func68 (hf:=(ki l hl)) (hk:=?_);refine wG tK ?_;refine wCG [1000] 100 Tryz.func80 (hf:=(il l hl.len 1000 ⟨_,Go.Proofs.Tryz.func81,by kernel_rfl,rfl⟩ Qx j6 (λx _=>BE at_ x hat))) (hk:=?_);refine wG tK ?_;refine ZZ 1100 rfl QX ?_;simp only[go_sem];refine wT ?_;have hle:=WH (λk:Kept=>!dU at_ k) l;generalize l.filter (λk=>!dU at_ k)=d at *;rw[if_pos y7,ig y7]
def jw (f:Nat->Int) (g:Nat->AV):Nat->List (Int×AV)
 | 0=>[]
 | i+1=>eh (jw f g i) (f i) (g i)
theorem kS (f:Nat->Int) (g:Nat->AV):∀i,(jw f g i).Pairwise λa b=>a.1<b.1
 | 0=>List.Pairwise.nil
 | i+1=>eC (kS f g i)
theorem oK {f:Nat->Int} {g:Nat->AV} {k:Int}:∀{i},(∀j,j<i->f j≠k)->cQ (jw f g i) k=none
 | 0,_=>rfl
 | i+1,h=>by
  rw[jw,mY (kS f g i),if_neg (λe=>h i z7 e.symm)];exact oK λj hj=>h j z7
theorem oL {f:Nat->Int} {g:Nat->AV} {k:Int}:∀{i j},j<i->f j=k->(∀m,j<m->m<i->f m≠k)->cQ (jw f g i) k=some (g j)
 | 0,_,h,_,_=>by omega
 | i+1,j,h,he,hl=>by
  rw[jw,mY (kS f g i)]
  by_cases hj:j=i
  ·subst hj;rw[if_pos he.symm]
  ·rw[if_neg (λe=>hl i z7 z7 e.symm)];exact oL z7 he λm h1 h2=>hl m h1 z7
def xc (l:List Kept) (i:Nat):Int:=(l.getD i default).node.fid
def n_ (l:List Kept) (n:Nat):Prop:=∀i,i<n->∀j,j<i->xc l j≠xc l i
instance (l:List Kept) (n:Nat):Decidable (n_ l n):=by unfold n_;infer_instance
def rO (l:List Kept):Bool:=decide (n_ l l.length)
def ik (l:List Node) (i:Nat):Int:=(l.getD i default).fid
def qH (l:List Node) (i:Nat):List (Int×AV):=jw (ik l) (λi=>.agg (ZN (l.getD i default))) i
def GK (l:List Node):List (Int×AV):=qH l l.length
theorem D9 {l:List Node} (h:Up l) (k:Int):cQ (GK l) k=(af l k).map λn=>.agg (ZN n):=by
 unfold GK qH;cases e:af l k with
 | none=>
  have hn:=(dd h).1 e;exact oK λj hj=>hn _ (YG hj)
 | some n=>
  obtain ⟨hm,hf⟩:=(ZO h).1 e;obtain ⟨j,hj⟩:=Z9 hm;have hjl:j<l.length:=(Z8.1 hj).1;have hjd:=kK hj;rw[oL (j:=j) hjl (by unfold ik;rw[hjd];exact hf) λm h1 h2 h3=>by
   have:=h.lt h1 h2;unfold ik at h3;rw[hjd,hf,h3] at this;omega]
  simp only[Option.map_some,hjd]
theorem mg {α β:Type} (g:α->β):∀(m:List (Int×α)) (f:Int),cQ (m.map λp=>(p.1,g p.2)) f=(cQ m f).map g
 | [],_=>rfl
 | p::r,f=>by
  simp only[List.map_cons,cQ,mg g r f];split<;>rfl
theorem oM {α β:Type} (g:α->β):∀(m:List (Int×α)) (f:Int) (v:α),eh (m.map λp=>(p.1,g p.2)) f (g v)=(eh m f v).map λp=>(p.1,g p.2)
 | [],_,_=>rfl
 | p::r,f,v=>by
  simp only[List.map_cons,eh,oM g r f v];split
  ·rfl
  ·split<;>rfl
theorem D_ {α β:Type} (g:α->β) (m:List (Int×α)) (f:Int):nr (m.map λp=>(p.1,g p.2)) f=(nr m f).map λp=>(p.1,g p.2):=by
 unfold nr;rw[List.filter_map];rfl
def mI (m:List (Int×Int)):List (Int×AV):=m.map λp=>(p.1,.int .i64 p.2)
def mB (m:List (Int×Bool)):List (Int×AV):=m.map λp=>(p.1,.bool p.2)
def iX (m:List (Int×Bool)) (f:Int):Bool:=(cQ m f).getD false
def qY (m:List (Int×Int)) (f:Int):Int:=(cQ m f).getD 0
def ff (m:List (Int×Int)) (f:Int):Bool:=(cQ m f).isSome
@[go_sem] theorem JW (m:List (Int×Int)) (f:Int):(cQ (mI m) f).getD (.int .i64 0)=.int .i64 (qY m f):=by
 unfold mI qY;rw[mg (λx=>AV.int .i64 x)];cases cQ m f<;>rfl
@[go_sem] theorem JX (m:List (Int×Int)) (f:Int):(cQ (mI m) f).isSome=ff m f:=by
 unfold mI ff;rw[mg (λx=>AV.int .i64 x)];cases cQ m f<;>rfl
@[go_sem] theorem JY (m:List (Int×Int)) (f x:Int):eh (mI m) f (.int .i64 x)=mI (eh m f x):=oM (λx=>AV.int .i64 x) m f x
@[go_sem] theorem JV (m:List (Int×Int)) (f:Int):nr (mI m) f=mI (nr m f):=D_ (λx=>AV.int .i64 x) m f
@[go_sem] theorem JT (m:List (Int×Bool)) (f:Int):(cQ (mB m) f).getD (.bool false)=.bool (iX m f):=by
 unfold mB iX;rw[mg AV.bool];cases cQ m f<;>rfl
@[go_sem] theorem JU (m:List (Int×Bool)) (f:Int) (x:Bool):eh (mB m) f (.bool x)=mB (eh m f x):=oM AV.bool m f x
def mN (m:List (Int×Node)):List (Int×AV):=m.map λp=>(p.1,.agg (ZN p.2))
theorem D8 (m:List (Int×Node)) (k:Int):cQ (mN m) k=(cQ m k).map λn=>.agg (ZN n):=mg (λn=>AV.agg (ZN n)) m k
theorem Je (m:List (Int×Node)) (k:Int) (n:Node):eh (mN m) k (.agg (ZN n))=mN (eh m k n):=oM (λn=>AV.agg (ZN n)) m k n
def lA {α:Type} (m:List (Int×α)):Prop:=m.Pairwise λa b=>a.1<b.1
structure JS where
 l:List Node
 next:Int
 version:Int
 own:List (Int×Int)
 ours:List (Int×Bool)
 lost:List (Int×Bool)
def atF (m:List (Int×Int)) (f:Int):Int:=if ff m f=true then qY m f else f
def fk (j:JS) (a:Act):Bool:=(cc a).any (iX j.lost)
def gS (j:JS) (r:Rec) (a:Act):Bool:=
 if ((a.kind≠3/\a.kind≠4)\/r.version<0)\/iX j.ours a.fid=true then false
 else match af j.l a.fid with
  | none=>true
  | some n=>n.version != r.version
def cK (j:JS) (r:Rec):List (Int×Int):=if an r.act=true then eh j.own r.act.fid j.next else j.own
def dc (j:JS) (r:Rec):Act:={ r.act with fid:=atF (cK j r) r.act.fid,dir:=atF (cK j r) r.act.dir,to:=if r.act.kind=5 then atF (cK j r) r.act.to else r.act.to }
noncomputable def ml (j:JS) (r:Rec):Int:=
 if fk j r.act=true then 14
 else if an r.act=true/\(ff j.own r.act.fid=true\/r.act.fid≥0) then 2
 else if gS { j with own:=cK j r } r (dc j r)=true then 13
 else aB j.l (dc j r)
noncomputable def fi (j:JS) (r:Rec):JS:=
 if fk j r.act=true then j
 else if an r.act=true/\(ff j.own r.act.fid=true\/r.act.fid≥0) then j
 else if gS { j with own:=cK j r } r (dc j r)=true then { j with own:=cK j r }
 else if aB j.l (dc j r)≠0 then { j with own:=if an r.act=true then nr (cK j r) r.act.fid else cK j r }
 else { j with l:=aH j.l (dc j r) j.version,next:=if an r.act=true then j.next+1 else j.next,version:=j.version+1,own:=cK j r }
def kW (j:JS) (r:Rec):Act:=
 if fk j r.act=true then r.act
 else if an r.act=true/\(ff j.own r.act.fid=true\/r.act.fid≥0) then r.act
 else dc j r
noncomputable def jO (j:JS) (r:Rec):Verdict:=⟨ml j r,if ml j r=0 then (dc j r).fid else 0⟩
structure JG where
 j:JS
 vs:List Verdict
 done:List Act
def Jc (j:JS) (f:Int):JS:={ j with lost:=eh j.lost f true }
def oS (m:List (Int×Bool)) (l:List Int):List (Int×Bool):=l.foldl (λm f=>eh m f true) m
noncomputable def gm (s:JG) (r:Rec):JG:=
 if ml s.j r=0 then ⟨{ fi s.j r with ours:=oS (fi s.j r).ours (cc (kW s.j r)) },s.vs++[jO s.j r],s.done++[kW s.j r]⟩
 else ⟨Jc (fi s.j r) r.act.fid,s.vs++[jO s.j r],s.done⟩
def cX (l:List Node) (next version:Int):JG:=⟨⟨l,next,version,[],[],[]⟩,[],[]⟩
noncomputable def cP (l:List Node) (next version:Int) (log:List Rec):JG:=log.foldl gm (cX l next version)
noncomputable def po (s:Srv) (c:Int) (log:List Rec):Srv:=
 ⟨(cP s.tree s.next ((s.past.length+1:Nat):Int) log).j.l,(cP s.tree s.next ((s.past.length+1:Nat):Int) log).j.next,s.past++(cP s.tree s.next ((s.past.length+1:Nat):Int) log).done.map λa=>⟨c,a⟩⟩
inductive Hist:List Past->List Node->Prop
 | nil:Hist [] [aA]
 | snoc {p:List Past} {t:List Node} (c:Int) (a:Act) (h:Hist p t) (ha:ActFit a) (he:aB t a=0):Hist (p++[⟨c,a⟩]) (aH t a ((p.length+1:Nat):Int))
theorem Hist.bV {p:List Past} {t:List Node} (h:Hist p t):Good t:=by
 induction h with
 | nil=>exact uo
 | snoc c a h ha he ih=>exact iZ ih _ _ he
theorem Hist.st {p:List Past} {t:List Node} (h:Hist p t):∃st:Nat->List Node,st 0=[aA]/\st p.length=t /\
  ∀i,i<p.length->Good (st i)/\ActFit (p.getD i default).act/\aB (st i) (p.getD i default).act=0/\st (i+1)=aH (st i) (p.getD i default).act ((i+1:Nat):Int):=by
 induction h with
 | nil=>exact ⟨λ_=>[aA],rfl,rfl,λi hi=>by simp at hi⟩
 | @snoc p t c a h ha he ih=>
  obtain ⟨st,h0,h1,h2⟩:=ih;refine ⟨λi=>if i≤p.length then st i else aH t a ((p.length+1:Nat):Int),?_,?_,λi hi=>?_⟩
  ·simp[h0]
  ·show (if (p++[(⟨c,a⟩:Past)]).length≤p.length then _ else _)=_
   rw[if_neg y7]
  ·have hl:(p++[(⟨c,a⟩:Past)]).length=p.length+1:=by simp
   rw[hl] at hi
   by_cases e:i<p.length
   ·have hg:(p++[(⟨c,a⟩:Past)]).getD i default=p.getD i default:=by
     rw[Z1,WS e,Z1]
    rw[hg];simp only[show i≤p.length by omega,if_true,show i+1≤p.length by omega];exact h2 i e
   ·have e2:i=p.length:=by omega
    subst e2;have hg:(p++[(⟨c,a⟩:Past)]).getD p.length default=⟨c,a⟩:=by
     rw[Z1,WJ (WC _)];simp
    rw[hg];simp only[WC,if_true,show ¬p.length+1≤p.length by omega,if_false,h1];exact ⟨h.bV,ha,he,trivial⟩
theorem wo {j:JS} {r:Rec} (h:ActFit r.act):ActFit (dc j r):=⟨h.name,h.toName,h.data⟩
structure JInv (p:List Past) (c:Int) (k:Nat) (n0:Int) (s:JG):Prop where
 hist:Hist (p++s.done.map λa=>⟨c,a⟩) s.j.l
 version:s.j.version=((p.length+s.done.length+1:Nat):Int)
 len:s.done.length≤k
 vlen:s.vs.length=k
 next:n0≤s.j.next/\s.j.next≤n0+k
theorem JInv.step {p:List Past} {c:Int} {k:Nat} {n0:Int} {s:JG} (h:JInv p c k n0 s) {r:Rec} (hr:ActFit r.act):JInv p c (k+1) n0 (gm s r):=by
 unfold gm;have h1:=h.next;have h2:=h.len;have h3:=h.vlen
 by_cases he:ml s.j r=0
 ·rw[if_pos he];unfold ml at he;split at he
  ·omega
  ·rename_i c1;split at he
   ·omega
   ·rename_i c2;split at he
    ·omega
    ·rename_i c3;have hJ:fi s.j r={ s.j with l:=aH s.j.l (dc s.j r) s.j.version,next:=if an r.act=true then s.j.next+1 else s.j.next,version:=s.j.version+1,own:=cK s.j r }:=by
      unfold fi;rw[if_neg c1,if_neg c2,if_neg c3,if_neg Qb]
     have hA:kW s.j r=dc s.j r:=by unfold kW;rw[if_neg c1,if_neg c2]
     rw[hJ,hA];refine ⟨?_,?_,?_,?_,?_⟩
     ·have:=Hist.snoc c (dc s.j r) h.hist (wo hr) he;rw[List.length_append,List.length_map,←h.version] at this;simpa using this
     ·have:=h.version;simp only[List.length_append,List.length_cons,List.length_nil];omega
     ·simp only[List.length_append,List.length_cons,List.length_nil];omega
     ·simp only[List.length_append,List.length_cons,List.length_nil];omega
     ·simp only;split<;>omega
 ·rw[if_neg he];have hJ:(fi s.j r).l=s.j.l/\(fi s.j r).next=s.j.next/\(fi s.j r).version=s.j.version:=by
   unfold fi;unfold ml at he;split
   ·exact ⟨rfl,rfl,rfl⟩
   ·rename_i c1;rw[if_neg c1] at he;split
    ·exact ⟨rfl,rfl,rfl⟩
    ·rename_i c2;rw[if_neg c2] at he;split
     ·exact ⟨rfl,rfl,rfl⟩
     ·rename_i c3;rw[if_neg c3] at he;rw[if_pos he];exact ⟨rfl,rfl,rfl⟩
  obtain ⟨j1,j2,j3⟩:=hJ;refine ⟨?_,?_,?_,?_,?_⟩
  ·show Hist _ (fi s.j r).l
   rw[j1];exact h.hist
  ·show (fi s.j r).version=_
   rw[j3];exact h.version
  ·show s.done.length≤k+1;omega
  ·simp only[List.length_append,List.length_cons,List.length_nil];omega
  ·show n0≤(fi s.j r).next/\(fi s.j r).next≤n0+((k+1:Nat):Int)
   rw[j2];omega
theorem JInv.start {p:List Past} {t:List Node} (h:Hist p t) (c n0:Int):JInv p c 0 n0 (cX t n0 ((p.length+1:Nat):Int)):=
 ⟨by simpa[cX] using h,by simp[cX],by simp[cX],by simp[cX],by simp[cX]⟩
theorem JInv.xJ {p:List Past} {t:List Node} (h:Hist p t) (c n0:Int) (log:List Rec) (hl:∀r,r∈log->ActFit r.act):JInv p c log.length n0 (cP t n0 ((p.length+1:Nat):Int) log):=by
 have key:∀(l:List Rec) (k:Nat) (s:JG),(∀r,r∈l->ActFit r.act)->JInv p c k n0 s->JInv p c (k+l.length) n0 (l.foldl gm s):=λl=>by
  induction l with
  | nil=>exact λk s _ h=>h
  | cons r l ih=>
   intro k s hl h;have:=ih (k+1) (gm s r) (λx hx=>hl x (List.mem_cons_of_mem _ hx)) (h.step (hl r List.mem_cons_self));rw[List.foldl_cons,List.length_cons,show k+(l.length+1)=k+1+l.length by omega];exact this
 have:=key log 0 _ hl (JInv.start h c n0)
 rwa [WT] at this
structure SrvOK (k:Nat) (s:Srv):Prop where
 hist:Hist s.past s.tree
 len:s.past.length≤k
 next:1≤s.next/\s.next≤1+k
theorem SrvOK.new:SrvOK 0 ⟨[aA],1,[]⟩:=⟨.nil,by simp,by simp⟩
theorem SrvOK.mono {k m:Nat} {s:Srv} (h:SrvOK k s) (hk:k≤m):SrvOK m s:=⟨h.hist,by have:=h.len;omega,by have:=h.next;omega⟩
theorem SrvOK.step {k:Nat} {s:Srv} (h:SrvOK k s) (c:Int) {a:Act} (ha:ActFit a) (he:doE s a=0):SrvOK (k+1) (doS s c a):=by
 have h1:=h.len;have h2:=h.next;have hf:ActFit (doA s a):=by unfold doA;split;exact ⟨ha.name,ha.toName,ha.data⟩;exact ha
 refine ⟨Hist.snoc c _ h.hist hf he,by simp[doS];omega,?_⟩
 show 1≤(if an a=true then s.next+1 else s.next)/\(if an a=true then s.next+1 else s.next)≤1+((k+1:Nat):Int)
 split<;>omega
theorem SrvOK.take {k:Nat} {s:Srv} (h:SrvOK k s) (c:Int) {log:List Rec} (hl:∀r,r∈log->ActFit r.act):SrvOK (k+log.length) (po s c log):=by
 have h1:=h.len;have h2:=h.next;have hj:=JInv.xJ h.hist c s.next log hl;have h3:=hj.len;have h4:=hj.next;exact ⟨hj.hist,by simp only[po,List.length_append,List.length_map];omega,by show 1≤(cP s.tree s.next _ log).j.next/\(cP s.tree s.next _ log).j.next≤_;omega⟩
def kO (j:JS):List AV:=[.sl (j.l.map ZN),.int .i64 j.next,.int .i64 j.version,.mp 25,.mp 26,.mp 27]
def jB (j:JS):List (Nat×Blk):=[(29,.cells 200 6 [kO j]),(27,.map (mB j.lost)),(26,.map (mB j.ours)),(25,.map (mI j.own))]
def jH (j:JS) (G Y N:Nat->Nat):List (Nat×Blk):=jB j++pins [29,25,26,27] G Y N
def jcH (j:JS) (G Y N:Nat->Nat):List (Nat×Blk):=([(2,.cells 198 1 [[.ptr 29 6 0 0]])]++jB j)++pins [29,25,26,27,2] G Y N
def jaH (j:JS) (a:Act) (G Y N:Nat->Nat):List (Nat×Blk):=([(6,.cells 49 7 [ZA a])]++jB j)++pins [29,25,26,27,6] G Y N
def Holds (L H:List (Nat×Blk)):Prop:=∀i b,ae L i=some b->ae H i=some b
theorem YH (H:List (Nat×Blk)):Holds [] H:=λ_ _ h=>nomatch h
theorem ZH {L H:List (Nat×Blk)} {k:Nat} {B:Blk} (h:ae H k=some B) (hL:Holds L H):Holds ((k,B)::L) H:=λi b hb=>by
 simp only[ae] at hb;split at hb
 ·rename_i e;subst e;rw[h];exact hb
 ·exact hL i b hb
theorem I3 (j:JS) (f:Int) (G Y N:Nat->Nat):ag Tryz.prog 166 [.ptr 29 6 0 0,.int .i64 f] (jH j G Y N) (λr H=>r=.int .i64 (atF j.own f)/\Holds (jH j G Y N) H):=by
 unfold jH jB kO atF;refine ZF tK (Tryz.func166) rfl (λC=>?_);simp only[Tryz.ntmps166,Tryz.results166,go_sem];refine wR ?_;refine wN tK 1 ?_;refine wR ?_;refine wN tK 5 ?_;refine wG tK ?_;cases e:ff j.own f with
 | true=>
  refine wDT (hb:=(by simp[e])) (hk:=?_);refine wG tK ?_;refine wT ?_;exact ⟨rfl,λi b hb=>hb⟩
 | false=>
  refine wDF (hb:=(by simp[e])) (hk:=?_);refine wG tK ?_;refine wT ?_;exact ⟨rfl,λi b hb=>hb⟩
theorem GG (j:JS) (f:Int) (G Y N:Nat->Nat):ag Tryz.prog 193 [.int .i64 f,.ptr 2 1 0 0] (jcH j G Y N) (λr H=>r=.bool (iX j.lost f)/\Holds (jcH j G Y N) H):=by
 unfold jcH jB kO;refine ZF tK (Tryz.func193) rfl (λC=>?_);simp only[Tryz.ntmps193,Tryz.results193,go_sem];refine wG tK ?_;refine wT ?_;exact ⟨rfl,λi b hb=>hb⟩
theorem zD (j:JS) (l:List Int) (hlen:l.length≤100000000) (G Y N:Nat->Nat):ag Tryz.prog 219 [.sl (l.map ZI),.fn 193 [.ptr 2 1 0 0]] (jcH j G Y N)
  (λr H=>r=.int .i64 (dp (l.findIdx? (iX j.lost)))/\Holds (jcH j G Y N) H):=by
 unfold jcH jB kO;refine ZF tK (Tryz.func219) rfl (λC=>?_);simp only[Tryz.ntmps219,Tryz.results219,go_sem];refine wG tK ?_;refine ZL (λi:Nat=>i≤l.length/\∀x,x∈l.take i->iX j.lost x=false) (λi=>l.length-i) (λi=>(8,.int .i64 i)::(5,.any)::u3 9 10 []) (λ_=>[]) 0 ⟨by omega,by simp⟩ ?_ λi hi=>?_
 ·simp only[go_sem];exact ZU w4 w4 w4
 obtain ⟨hi,hno⟩:=hi;simp only[go_sem];refine wG tK ?_;refine wD (λh=>?_) (λh=>?_)
 ·have hlt:i<l.length:=by simp at h;omega
  have hg:(l.map ZI).getD i []=ZI (l.getD i default):=Fam.getD hlt;have htk:=ZT hlt;have hgi:l[i]? = some (l.getD i default):=by rw[Z1,Z2 hlt];rfl
  have hc:=GG j (l.getD i default);unfold jcH jB kO at hc;generalize l.getD i default=n at hg htk hgi hc;refine wGq tK ?_ ?_ (by simp only[go_sem,hg,ZI];try exact rfl)
  ·simp[hlt,ZI]
  refine wP [29,25,26,27,2] Tryz.func193 (hf:=(hc)) (hk:=?_);refine wG tK ?_;refine wD (λh=>?_) (λh=>?_)
  ·refine wG tK ?_;refine wU ?_ ?_
   ·rw[eK hgi hno h];rfl
   ·exact q9
  ·have hw:IntKind.i64.wrap ((i:Int)+1)=(i:Int)+1:=wrap_small z7 z7;refine wG tK ?_ k0 k9;refine ZB ⟨i+1,⟨by omega,?_⟩,by omega,ZU ?_ ?_ ?_⟩
   ·rw[htk];intro x hx
    rcases List.mem_append.1 hx with hx | hx
    ·exact hno x hx
    ·rw[List.mem_singleton.1 hx];exact h
   ·simp[go_sem]
   ·simp[go_sem]
   ·simp[go_sem]
 ·have e:i=l.length:=by simp at h;omega
  refine wG tK ?_;refine wU ?_ ?_
  ·rw[e,WA] at hno;rw[WL.2 hno];rfl
  ·exact q9
theorem zC (j:JS) (l:List Int) (hlen:l.length≤100000000) (G Y N:Nat->Nat):ag Tryz.prog 192 [.sl (l.map ZI),.fn 193 [.ptr 2 1 0 0]] (jcH j G Y N)
  (λr H=>r=.bool (l.any (iX j.lost))/\Holds (jcH j G Y N) H):=by
 have hc:=zD j l hlen;unfold jcH jB kO at hc ⊢;refine ZF tK (Tryz.func192) rfl (λC=>?_);simp only[Tryz.ntmps192,Tryz.results192,go_sem];refine wG tK ?_;refine wP [29,25,26,27,2] Tryz.func219 (hf:=(hc)) (hk:=?_);refine wG tK ?_;refine wU ?_ ?_
 ·rw[l_]
 ·exact q9
theorem EB (j:JS) (a:Act) (G Y N:Nat->Nat):ag Tryz.prog 165 [.ptr 29 6 0 0,.ptr 6 7 0 0] (jaH j a G Y N) (λr H=>r=.bool (fk j a)/\Holds (jaH j a G Y N) H):=by
 have hc:=zC j (cc a) (by have:=rZ a;omega);have hf:=vw a;unfold fk;generalize (cc a).any (iX j.lost)=z at hc ⊢;generalize cc a=l at hc hf;unfold jcH jB kO at hc;unfold ZA at hf;unfold jaH jB kO ZA;refine ZF tK (Tryz.func165) rfl (λC=>?_);simp only[Tryz.ntmps165,Tryz.results165,go_sem];refine wG tK ?_;refine wC Tryz.func126 (hf:=(hf)) (hk:=?_);refine wG tK ?_;refine wP [29,25,26,27,2] Tryz.func192 (hf:=(hc)) (hk:=?_);refine wG tK ?_;refine wU ?_ ?_
 ·rfl
 ·exact q9
theorem EP (j:JS) (r:Rec) (a:Act) (hl:Small j.l) (G Y N:Nat->Nat):ag Tryz.prog 167 [.ptr 29 6 0 0,.rp (ZR r) 0,.ptr 6 7 0 0] (jaH j a G Y N) (λx H=>x=.bool (gS j r a)/\Holds (jaH j a G Y N) H):=by
 have hf:=eF j.l a.fid hl;unfold gS;unfold jaH jB kO ZA ZR;refine ZF tK (Tryz.func167) rfl (λC=>?_);simp only[Tryz.ntmps167,Tryz.results167,go_sem];refine wG tK ?_;refine ZW ZM ?_;refine ZS rfl ?_;refine sN tK 12 ?_;refine fu 20 z6 (λc20 h20=>?_);simp only[go_sem];refine sN tK 7 ?_;refine fu 27 z6 (λc27 h27=>?_);simp only[go_sem];refine sG tK ?_;refine sE ?_;refine wKd ?_
 try simp only[go_sem,gA,gB,gC]
 refine wR ?_;refine bx 38 z6 (λc38 h38=>?_);simp only[go_sem];have hst:(((a.kind≠3/\a.kind≠4)\/r.version<0)\/iX j.ours a.fid=true)↔c38=true:=by
  subst h38 h27 h20;simp[fT,oo]
 clear h38 h27 h20;cases c38 with
 | true=>
  rw[if_pos (hst.2 rfl)];refine wDT (hb:=(rfl)) (hk:=?_);refine wG tK ?_;refine wU ?_ ?_
  ·rfl
  ·exact q9
 | false=>
  rw[if_neg (λh=>nomatch hst.1 h)];refine wDF (hb:=(rfl)) (hk:=?_);refine wG tK ?_;refine ZW ZM ?_;refine ZS rfl ?_;refine sN tK 8 ?_;refine sC Tryz.func82 (hf:=(hf)) (hk:=?_);simp only[go_sem,gx];rw[bP];cases af j.l a.fid with
  | none=>
   simp only[Option.getD_none,Option.isSome_none];refine sG tK ?_;refine sW tK ?_;simp only[go_sem,ZN,ax];refine sT tK ?_;refine sE ?_;refine dS tK ?_;refine wKd ?_
   try simp only[go_sem,gA,gB,gC]
   refine wG tK ?_;refine ZW ZM ?_;refine ZS rfl ?_;refine sG tK ?_;refine sE ?_;refine wKd ?_
   try simp only[go_sem,gA,gB,gC]
   refine wG tK ?_;refine wU ?_ ?_
   ·rfl
   ·exact q9
  | some n=>
   simp only[Option.getD_some,Option.isSome_some];refine sG tK ?_;refine sW tK ?_;simp only[go_sem,ZN];refine sT tK ?_;refine sE ?_;refine dS tK ?_;refine wKd ?_
   try simp only[go_sem,gA,gB,gC]
   refine wG tK ?_;refine ZW ZM ?_;refine ZS rfl ?_;refine sG tK ?_;refine sE ?_;refine wKd ?_
   try simp only[go_sem,gA,gB,gC]
   refine wG tK ?_;refine wU ?_ ?_
   ·rfl
   ·exact q9
theorem B7 {j:JS} {r:Rec} (h:fk j r.act=true):jO j r=⟨14,0⟩/\kW j r=r.act/\fi j r=j:=by
 simp[jO,kW,fi,ml,h]
theorem Ej {j:JS} {r:Rec} (h:fk j r.act=false) (h1:an r.act=true) (h2:ff j.own r.act.fid=true\/r.act.fid≥0):jO j r=⟨2,0⟩/\kW j r=r.act/\fi j r=j:=by
 simp[jO,kW,fi,ml,h,h1,h2]
theorem B8 {j:JS} {r:Rec} (h:fk j r.act=false) (h1:¬(an r.act=true/\(ff j.own r.act.fid=true\/r.act.fid≥0))) (h2:gS { j with own:=cK j r } r (dc j r)=true) :
  jO j r=⟨13,0⟩/\kW j r=dc j r/\fi j r={ j with own:=cK j r }:=by
 simp[jO,kW,fi,ml,h,h1,h2]
theorem GW {j:JS} {r:Rec} (h:fk j r.act=false) (h1:¬(an r.act=true/\(ff j.own r.act.fid=true\/r.act.fid≥0))) (h2:gS { j with own:=cK j r } r (dc j r)=false) (h3:aB j.l (dc j r)≠0) :
  jO j r=⟨aB j.l (dc j r),0⟩/\kW j r=dc j r/\fi j r={ j with own:=if an r.act=true then nr (cK j r) r.act.fid else cK j r }:=by
 simp[jO,kW,fi,ml,h,h1,h2,h3]
theorem Ei {j:JS} {r:Rec} (h:fk j r.act=false) (h1:¬(an r.act=true/\(ff j.own r.act.fid=true\/r.act.fid≥0))) (h2:gS { j with own:=cK j r } r (dc j r)=false) (h3:aB j.l (dc j r)=0) :
  jO j r=⟨0,(dc j r).fid⟩/\kW j r=dc j r/\fi j r={ j with l:=aH j.l (dc j r) j.version,next:=if an r.act=true then j.next+1 else j.next,version:=j.version+1,own:=cK j r }:=by
 simp[jO,kW,fi,ml,h,h1,h2,h3]
theorem Jh (j:JS) (r:Rec) (hg:Good j.l) (hr:ActFit r.act) (hn:j.next.natAbs≤90000000) (hv:j.version.natAbs≤90000000) (G Y N:Nat->Nat):ag Tryz.prog 125 [.ptr 29 6 0 0,.rp (ZR r) 0] (jH j G Y N)
  (λx H=>x=.tup [.agg (ZV (jO j r)),.agg (ZA (kW j r))]/\Holds (jH (fi j r) G Y N) H):=by
 have how:=lI r.act hr.data;have hre:=EB j r.act;have q0:=@B7 j r;have q1:=@Ej j r;have q2:=@B8 j r;have q3:=@GW j r;have q4:=@Ei j r;have hfid:∀f (G Y N:Nat->Nat),ag Tryz.prog 166 [.ptr 29 6 0 0,.int .i64 f] (jH { j with own:=cK j r } G Y N) (λx H=>x=.int .i64 (atF (cK j r) f)/\Holds (jH { j with own:=cK j r } G Y N) H):=λf=>I3 { j with own:=cK j r } f
 unfold jH jB kO at hfid;simp only at hfid;have hst:=EP { j with own:=cK j r } r (dc j r) hg.small;have hap:=nD hg (dc j r) j.version (wo hr);have hwn:IntKind.i64.wrap (j.next+1)=j.next+1:=Eng.wrap_small z7 z7;have hwv:IntKind.i64.wrap (j.version+1)=j.version+1:=Eng.wrap_small z7 z7;unfold jaH jB kO at hst;unfold pz at hap;generalize gS { j with own:=cK j r } r (dc j r)=st at *;generalize aB j.l (dc j r)=E at *;generalize aH j.l (dc j r) j.version=L at *;simp only[ZA,dc] at hst hap;generalize jO j r=V at *;generalize kW j r=A at *;generalize fi j r=J at *;unfold jaH jB kO ZA at hre;unfold ZA at how;unfold jH jB kO ZR;refine ZF tK (Tryz.func125) rfl (λC=>?_);simp only[Tryz.ntmps125,Tryz.results125,go_sem];refine wG tK ?_;refine wC Tryz.func67 (hf:=(how)) (hk:=?_);refine wG tK ?_;refine wP [29,25,26,27,6] Tryz.func165 (hf:=(hre)) (hk:=?_);cases h0:fk j r.act with
 | true=>
  obtain ⟨e1,e2,e3⟩:=q0 h0;refine wG tK ?_;refine wDT (hb:=(rfl)) (hk:=?_);refine wG tK ?_;refine ZW ZM ?_;refine ZS rfl ?_;refine sB tK ?_;refine sN tK 1 ?_;refine sT tK ?_;refine sT tK ?_;refine sE ?_;refine wKd ?_
  try simp only[go_sem,gA,gB,gC]
  refine wG tK ?_;refine wU ?_ ?_
  ·simp[ZV,ZA,e1,e2]
  ·rw[e3];simp only[pins,List.cons_append,List.nil_append,List.map_cons,List.map_nil]
   repeat' refine ZH ?_ ?_
   all_goals first | exact YH _ | rfl | simp[go_sem]
 | false=>
  clear q0;refine wG tK ?_;refine wDF (hb:=(rfl)) (hk:=?_);refine wR ?_;refine wN tK 8 ?_;refine bx 28 z6 (λc28 h28=>?_);simp only[go_sem];have h28':c28=an r.act:=by rw[←h28,oo];rfl
  clear h28;subst h28';refine wG tK ?_;cases h1:an r.act with
  | true=>
   refine wDT (hb:=(rfl)) (hk:=?_);refine wG tK ?_;refine ZW ZM ?_;refine ZS rfl ?_;refine sG tK ?_;refine sE ?_;refine wKd ?_
   try simp only[go_sem,gA,gB,gC]
   refine wG tK ?_;cases h2:(ff j.own r.act.fid||decide (r.act.fid≥0)) with
   | true=>
    obtain ⟨e1,e2,e3⟩:=q1 h0 h1 Zm;refine wDT (hb:=(by simpa[oo] using h2)) (hk:=?_);refine wG tK ?_;refine ZW ZM ?_;refine ZS rfl ?_;refine sB tK ?_;refine sN tK 1 ?_;refine sT tK ?_;refine sT tK ?_;refine sE ?_;refine wKd ?_
    try simp only[go_sem,gA,gB,gC]
    refine wG tK ?_;refine wU ?_ ?_
    ·simp[ZV,ZA,e1,e2]
    ·rw[e3];simp only[pins,List.cons_append,List.nil_append,List.map_cons,List.map_nil]
     repeat' refine ZH ?_ ?_
     all_goals first | exact YH _ | rfl | simp[go_sem]
   | false=>
    refine wDF (hb:=(by simpa[oo] using h2)) (hk:=?_);refine wG tK ?_;refine ZW ZM ?_;refine ZS rfl ?_;refine sN tK 10 ?_;refine sE ?_;refine dS tK ?_;refine wKd ?_
    try simp only[go_sem,gA,gB,gC]
    refine wG tK ?_;have ho:cK j r=eh j.own r.act.fid j.next:=by unfold cK;rw[if_pos h1]
    rw[←ho];have hnf:¬(an r.act=true/\(ff j.own r.act.fid=true\/r.act.fid≥0)):=λhh=>by
     have:=hh.2;simp only[Bool.or_eq_false_iff,decide_eq_false_iff_not] at h2
     rcases this with h | h
     ·rw[h2.1] at h;cases h
     ·exact h2.2 h
    clear h2;have hk5:¬r.act.kind=5:=λe=>by simp[an,e] at h1
    have hT:(if r.act.kind=5 then atF (cK j r) r.act.to else r.act.to)=r.act.to:=if_neg hk5;rw[hT] at hst hap
    -- the cc as they are here
    refine ZW ZM ?_;refine ZS rfl ?_;refine sN tK 3 ?_;refine gP rfl rfl z8 w4 ⟨_,Tryz.func166,by kernel_rfl,rfl⟩ [29,25,26,27] y8 w4 y7 w4 w4 (hfid r.act.fid) z6 y9 ?_;refine sN tK 3 ?_;refine gP rfl rfl z8 w4 ⟨_,Tryz.func166,by kernel_rfl,rfl⟩ [29,25,26,27] y8 w4 y7 w4 w4 (hfid r.act.dir) z6 y9 ?_;refine sN tK 1 ?_;refine sT tK ?_;refine sN tK 1 ?_;refine sT tK ?_;refine sE ?_;refine wKd ?_
    try simp only[go_sem,gA,gB,gC]
    refine wG tK ?_;refine wDF (hb:=(by simp[hk5])) (hk:=?_);refine wG tK ?_;refine wP [29,25,26,27,6] Tryz.func167 (hf:=(hst)) (hk:=?_);refine wG tK ?_;cases st with
    | true=>
     obtain ⟨e1,e2,e3⟩:=q2 h0 hnf rfl;refine wDT (hb:=(rfl)) (hk:=?_);refine wG tK ?_;refine ZW ZM ?_;refine ZS rfl ?_;refine sB tK ?_;refine sN tK 1 ?_;refine sT tK ?_;refine sT tK ?_;refine sE ?_;refine wKd ?_
     try simp only[go_sem,gA,gB,gC]
     refine wG tK ?_;refine wU ?_ ?_
     ·simp[ZV,ZA,e1,e2,dc,hk5]
     ·rw[e3];simp only[pins,List.cons_append,List.nil_append,List.map_cons,List.map_nil]
      repeat' refine ZH ?_ ?_
      all_goals first | exact YH _ | rfl | simp[go_sem]
    | false=>
     refine wDF (hb:=(rfl)) (hk:=?_);refine wG tK ?_
     by_cases hE:E=0
     ·obtain ⟨e1,e2,e3⟩:=q4 h0 hnf rfl hE;subst hE;rw[h1] at e3;simp only[if_true,Bool.false_eq_true,if_false] at hap e3;refine ZW ZM ?_;refine ZS rfl ?_;refine sN tK 9 ?_;refine sC Tryz.func109 (hf:=(hap)) (hk:=?_);refine sG tK ?_;refine sE ?_;refine wKd ?_
      try simp only[go_sem,gA,gB,gC]
      refine wG tK ?_;refine wDF (hb:=y7) (hk:=?_);refine wG tK ?_ p9 Qd;refine wDT (hb:=y7) (hk:=?_);refine wG tK ?_ p9 Qd;refine ZW ZM ?_;refine ZS rfl ?_;refine sN tK 2 ?_;refine sB tK ?_;refine sN tK 1 ?_;refine sT tK ?_;refine sT tK ?_;refine sE ?_;refine wKd ?_
      try simp only[go_sem,gA,gB,gC]
      refine wG tK ?_;refine wU ?_ ?_
      ·simp[ZV,ZA,e1,e2,dc,hk5]
      ·rw[e3];simp only[pins,List.cons_append,List.nil_append,List.map_cons,List.map_nil]
       repeat' refine ZH ?_ ?_
       all_goals first | exact YH _ | rfl | simp[go_sem]
     ·obtain ⟨e1,e2,e3⟩:=q3 h0 hnf rfl hE;rw[h1] at e3;simp only[hE,if_true,Bool.false_eq_true,if_false] at hap e3;refine ZW ZM ?_;refine ZS rfl ?_;refine sN tK 9 ?_;refine sC Tryz.func109 (hf:=(hap)) (hk:=?_);refine sG tK ?_;refine sE ?_;refine wKd ?_
      try simp only[go_sem,gA,gB,gC]
      refine wG tK ?_;refine wDT (hb:=n4) (hk:=?_);refine wG tK ?_;refine wDT (hb:=y7) (hk:=?_);refine wG tK ?_;refine ZW ZM ?_;refine ZS rfl ?_;refine sN tK 9 ?_;refine sE ?_;refine dS tK ?_;refine wKd ?_
      try simp only[go_sem,gA,gB,gC]
      refine wG tK ?_;refine ZW ZM ?_;refine ZS rfl ?_;refine sN tK 1 ?_;refine sB tK ?_;refine sN tK 1 ?_;refine sT tK ?_;refine sT tK ?_;refine sE ?_;refine wKd ?_
      try simp only[go_sem,gA,gB,gC]
      refine wG tK ?_;refine wU ?_ ?_
      ·simp[ZV,ZA,e1,e2,dc,hk5]
      ·rw[e3];simp only[pins,List.cons_append,List.nil_append,List.map_cons,List.map_nil]
       repeat' refine ZH ?_ ?_
       all_goals first | exact YH _ | rfl | simp[go_sem]
  | false=>
   refine wDF (hb:=(rfl)) (hk:=?_);refine wG tK ?_;have ho:cK j r=j.own:=by unfold cK;rw[h1];rfl
   have hnf:¬(an r.act=true/\(ff j.own r.act.fid=true\/r.act.fid≥0)):=λhh=>by rw[h1] at hh;cases hh.1
   rw[←ho]
   -- the cc as they are here
   refine ZW ZM ?_;refine ZS rfl ?_;refine sN tK 3 ?_;refine gP rfl rfl z8 w4 ⟨_,Tryz.func166,by kernel_rfl,rfl⟩ [29,25,26,27] y8 w4 y7 w4 w4 (hfid r.act.fid) z6 y9 ?_;refine sN tK 3 ?_;refine gP rfl rfl z8 w4 ⟨_,Tryz.func166,by kernel_rfl,rfl⟩ [29,25,26,27] y8 w4 y7 w4 w4 (hfid r.act.dir) z6 y9 ?_;refine sN tK 1 ?_;refine sT tK ?_;refine sN tK 1 ?_;refine sT tK ?_;refine sE ?_;refine wKd ?_
   try simp only[go_sem,gA,gB,gC]
   refine wG tK ?_
   by_cases hk5:r.act.kind=5
   ·have hT:(if r.act.kind=5 then atF (cK j r) r.act.to else r.act.to)=atF (cK j r) r.act.to:=if_pos hk5;rw[hT] at hst hap;refine wDT (hb:=(by simp[hk5])) (hk:=?_);refine wG tK ?_;refine wP [29,25,26,27] Tryz.func166 (hf:=(hfid r.act.to)) (hk:=?_);refine wG tK ?_;refine wP [29,25,26,27,6] Tryz.func167 (hf:=(hst)) (hk:=?_);refine wG tK ?_;cases st with
    | true=>
     obtain ⟨e1,e2,e3⟩:=q2 h0 hnf rfl;refine wDT (hb:=(rfl)) (hk:=?_);refine wG tK ?_;refine ZW ZM ?_;refine ZS rfl ?_;refine sB tK ?_;refine sN tK 1 ?_;refine sT tK ?_;refine sT tK ?_;refine sE ?_;refine wKd ?_
     try simp only[go_sem,gA,gB,gC]
     refine wG tK ?_;refine wU ?_ ?_
     ·simp[ZV,ZA,e1,e2,dc,hk5]
     ·rw[e3];simp only[pins,List.cons_append,List.nil_append,List.map_cons,List.map_nil]
      repeat' refine ZH ?_ ?_
      all_goals first | exact YH _ | rfl | simp[go_sem]
    | false=>
     refine wDF (hb:=(rfl)) (hk:=?_);refine wG tK ?_
     by_cases hE:E=0
     ·obtain ⟨e1,e2,e3⟩:=q4 h0 hnf rfl hE;subst hE;rw[h1] at e3;simp only[if_true,Bool.false_eq_true,if_false] at hap e3;refine ZW ZM ?_;refine ZS rfl ?_;refine sN tK 9 ?_;refine sC Tryz.func109 (hf:=(hap)) (hk:=?_);refine sG tK ?_;refine sE ?_;refine wKd ?_
      try simp only[go_sem,gA,gB,gC]
      refine wG tK ?_;refine wDF (hb:=y7) (hk:=?_);refine wG tK ?_ p9 Qd;refine wDF (hb:=y7) (hk:=?_);refine wG tK ?_ p9 Qd;refine ZW ZM ?_;refine ZS rfl ?_;refine sN tK 2 ?_;refine sB tK ?_;refine sN tK 1 ?_;refine sT tK ?_;refine sT tK ?_;refine sE ?_;refine wKd ?_
      try simp only[go_sem,gA,gB,gC]
      refine wG tK ?_;refine wU ?_ ?_
      ·simp[ZV,ZA,e1,e2,dc,hk5]
      ·rw[e3];simp only[pins,List.cons_append,List.nil_append,List.map_cons,List.map_nil]
       repeat' refine ZH ?_ ?_
       all_goals first | exact YH _ | rfl | simp[go_sem]
     ·obtain ⟨e1,e2,e3⟩:=q3 h0 hnf rfl hE;rw[h1] at e3;simp only[hE,if_true,Bool.false_eq_true,if_false] at hap e3;refine ZW ZM ?_;refine ZS rfl ?_;refine sN tK 9 ?_;refine sC Tryz.func109 (hf:=(hap)) (hk:=?_);refine sG tK ?_;refine sE ?_;refine wKd ?_
      try simp only[go_sem,gA,gB,gC]
      refine wG tK ?_;refine wDT (hb:=n4) (hk:=?_);refine wG tK ?_;refine wDF (hb:=y7) (hk:=?_);refine wG tK ?_;refine ZW ZM ?_;refine ZS rfl ?_;refine sN tK 1 ?_;refine sB tK ?_;refine sN tK 1 ?_;refine sT tK ?_;refine sT tK ?_;refine sE ?_;refine wKd ?_
      try simp only[go_sem,gA,gB,gC]
      refine wG tK ?_;refine wU ?_ ?_
      ·simp[ZV,ZA,e1,e2,dc,hk5]
      ·rw[e3];simp only[pins,List.cons_append,List.nil_append,List.map_cons,List.map_nil]
       repeat' refine ZH ?_ ?_
       all_goals first | exact YH _ | rfl | simp[go_sem]
   ·have hT:(if r.act.kind=5 then atF (cK j r) r.act.to else r.act.to)=r.act.to:=if_neg hk5;rw[hT] at hst hap;refine wDF (hb:=(by simp[hk5])) (hk:=?_);refine wG tK ?_;refine wP [29,25,26,27,6] Tryz.func167 (hf:=(hst)) (hk:=?_);refine wG tK ?_;cases st with
    | true=>
     obtain ⟨e1,e2,e3⟩:=q2 h0 hnf rfl;refine wDT (hb:=(rfl)) (hk:=?_);refine wG tK ?_;refine ZW ZM ?_;refine ZS rfl ?_;refine sB tK ?_;refine sN tK 1 ?_;refine sT tK ?_;refine sT tK ?_;refine sE ?_;refine wKd ?_
     try simp only[go_sem,gA,gB,gC]
     refine wG tK ?_;refine wU ?_ ?_
     ·simp[ZV,ZA,e1,e2,dc,hk5]
     ·rw[e3];simp only[pins,List.cons_append,List.nil_append,List.map_cons,List.map_nil]
      repeat' refine ZH ?_ ?_
      all_goals first | exact YH _ | rfl | simp[go_sem]
    | false=>
     refine wDF (hb:=(rfl)) (hk:=?_);refine wG tK ?_
     by_cases hE:E=0
     ·obtain ⟨e1,e2,e3⟩:=q4 h0 hnf rfl hE;subst hE;rw[h1] at e3;simp only[if_true,Bool.false_eq_true,if_false] at hap e3;refine ZW ZM ?_;refine ZS rfl ?_;refine sN tK 9 ?_;refine sC Tryz.func109 (hf:=(hap)) (hk:=?_);refine sG tK ?_;refine sE ?_;refine wKd ?_
      try simp only[go_sem,gA,gB,gC]
      refine wG tK ?_;refine wDF (hb:=y7) (hk:=?_);refine wG tK ?_ p9 Qd;refine wDF (hb:=y7) (hk:=?_);refine wG tK ?_ p9 Qd;refine ZW ZM ?_;refine ZS rfl ?_;refine sN tK 2 ?_;refine sB tK ?_;refine sN tK 1 ?_;refine sT tK ?_;refine sT tK ?_;refine sE ?_;refine wKd ?_
      try simp only[go_sem,gA,gB,gC]
      refine wG tK ?_;refine wU ?_ ?_
      ·simp[ZV,ZA,e1,e2,dc,hk5]
      ·rw[e3];simp only[pins,List.cons_append,List.nil_append,List.map_cons,List.map_nil]
       repeat' refine ZH ?_ ?_
       all_goals first | exact YH _ | rfl | simp[go_sem]
     ·obtain ⟨e1,e2,e3⟩:=q3 h0 hnf rfl hE;rw[h1] at e3;simp only[hE,if_true,Bool.false_eq_true,if_false] at hap e3;refine ZW ZM ?_;refine ZS rfl ?_;refine sN tK 9 ?_;refine sC Tryz.func109 (hf:=(hap)) (hk:=?_);refine sG tK ?_;refine sE ?_;refine wKd ?_
      try simp only[go_sem,gA,gB,gC]
      refine wG tK ?_;refine wDT (hb:=n4) (hk:=?_);refine wG tK ?_;refine wDF (hb:=y7) (hk:=?_);refine wG tK ?_;refine ZW ZM ?_;refine ZS rfl ?_;refine sN tK 1 ?_;refine sB tK ?_;refine sN tK 1 ?_;refine sT tK ?_;refine sT tK ?_;refine sE ?_;refine wKd ?_
      try simp only[go_sem,gA,gB,gC]
      refine wG tK ?_;refine wU ?_ ?_
      ·simp[ZV,ZA,e1,e2,dc,hk5]
      ·rw[e3];simp only[pins,List.cons_append,List.nil_append,List.map_cons,List.map_nil]
       repeat' refine ZH ?_ ?_
       all_goals first | exact YH _ | rfl | simp[go_sem]
theorem zH (m:List (Int×Bool)) (l:List Int) (x:Int):oS m (l++[x])=eh (oS m l) x true:=by
 unfold oS;rw[List.foldl_append];rfl
noncomputable def xI (l:List Node) (next version:Int) (log:List Rec) (i:Nat):JG:=(log.take i).foldl gm (cX l next version)
theorem BS (l:List Node) (next version:Int) {log:List Rec} {i:Nat} (h:i<log.length):xI l next version log (i+1)=gm (xI l next version log i) (log.getD i default):=by
 unfold xI;rw[ZT h,List.foldl_append];rfl
theorem DZ {p:List Past} {l:List Node} (h:Hist p l) (next:Int) {log:List Rec} (hl:∀r,r∈log->ActFit r.act) {i:Nat} (hi:i≤log.length):JInv p 0 i next (xI l next ((p.length+1:Nat):Int) log i):=by
 have:=JInv.xJ h 0 next (log.take i) (λr hr=>hl r (WI hr))
 rw[WO,W5 hi] at this;exact this
def jgB (s:JG):List (Nat×Blk):=[(45,.cells 162 2 (s.vs.map ZV)),(72,.cells 49 7 (s.done.map ZA)),(29,.cells 200 6 [kO s.j]),(25,.map (mI s.j.own)),(26,.map (mB s.j.ours)),(27,.map (mB s.j.lost))]
theorem D0 (p:List Past) (l:List Node) (next:Int) (log:List Rec) (h:Hist p l) (hp:p.length≤80000000) (hn:next.natAbs≤80000000) (hlog:SmallL log) (hl2:log.length≤2000000) (hfit:∀r,r∈log->ActFit r.act) :
  ag Tryz.prog 85 [.sl (l.map ZN),.int .i64 next,.int .i64 ((p.length+1:Nat):Int),.sl (log.map ZR)] []
   (λr _=>r=.tup [.sl ((cP l next ((p.length+1:Nat):Int) log).vs.map ZV),.sl ((cP l next ((p.length+1:Nat):Int) log).done.map ZA),.sl ((cP l next ((p.length+1:Nat):Int) log).j.l.map ZN),.int .i64 (cP l next ((p.length+1:Nat):Int) log).j.next]):=by
 have how:=k_ l h.bV.small;have hlo:=kk log hlog;have hfin:cP l next ((p.length+1:Nat):Int) log=xI l next ((p.length+1:Nat):Int) log log.length:=by unfold xI;rw[WA];rfl
 have hinv:=λi=>@DZ p l h next log hfit i
 have hsucc:=λi=>@BS l next ((p.length+1:Nat):Int) log i
 have hz:xI l next ((p.length+1:Nat):Int) log 0=cX l next ((p.length+1:Nat):Int):=rfl
 rw[hfin];generalize xI l next ((p.length+1:Nat):Int) log=st at *
 refine ZF tK (Tryz.func85) rfl (λC=>?_);simp only[Tryz.ntmps85,Tryz.results85,go_sem];refine wG tK ?_;refine wC Tryz.func66 (hf:=(how)) (hk:=?_);refine wG tK ?_;refine wC Tryz.func69 (hf:=(hlo)) (hk:=?_);refine wG tK ?_;refine bf (le_empty 72 49 7 z8) ?_;refine bf (le_empty 45 162 2 z8) ?_;simp only[go_sem];refine ZL (λi:Nat=>i≤log.length) (λi=>log.length-i) (λi=>(13,.osl 45 2 0 (st i).vs.length)::(14,.osl 72 7 0 (st i).done.length)::(16,.any)::(17,.any)::(18,.any)::(20,.any)::(33,.int .i64 i)::u3 34 40 []) (λi=>jgB (st i)) 0 z7 ?_ λi hi=>?_
 ·rw[hz];simp only[cX,jgB,kO,mI,mB];simp only[go_sem];exact ZU w4 w4 p8
 unfold jgB kO;simp only[go_sem];refine wG tK ?_;refine wD (λh=>?_) (λh=>?_)
 ·have hlt:i<log.length:=by simp at h;omega
  have hg:(log.map ZR).getD i []=ZR (log.getD i default):=Fam.getD hlt;have hv:=hinv i z7;have hf:=hfit _ (YG hlt);have hsc:=hsucc i hlt;clear hinv hsucc;generalize log.getD i default=r at *;have hnx:=hv.next;have hvs:=hv.vlen;have hdl:=hv.len;have hone:=Jh (st i).j r hv.hist.bV hf z7 (by have:=hv.version;omega);have hst:st (i+1)=(if (jO (st i).j r).err=0 then ⟨{ fi (st i).j r with ours:=oS (fi (st i).j r).ours (cc (kW (st i).j r)) },(st i).vs++[jO (st i).j r],(st i).done++[kW (st i).j r]⟩ else ⟨Jc (fi (st i).j r) r.act.fid,(st i).vs++[jO (st i).j r],(st i).done⟩):=by
   rw[hsc];unfold gm jO;rfl
  unfold jH jB kO ZR at hone;clear hsc hv;generalize jO (st i).j r=V at *;generalize kW (st i).j r=A at *;generalize fi (st i).j r=J at *;have hfd:=vw A;have hf3:=rZ A;have how':=wi1 (i:=i) z7;refine wGq tK ?_ ?_ QW
  ·simp[hg,ZR,hlt]
  refine ZZ 16 rfl (rfl) ?_;simp only[go_sem];refine wP [29,25,26,27] Tryz.func125 (hf:=(hone)) (hk:=?_);refine wGq tK ?_ ?_ (by simp only[go_sem,ZV,ZA];try exact rfl)
  ·simp[ZV,ZA,rowsOf];omega
  by_cases hE:V.err=0
  ·rw[if_pos hE] at hst;refine wDF (hb:=n4) (hk:=?_);refine wG tK ?_;unfold ZA at hfd;refine wC Tryz.func126 (hf:=(hfd)) (hk:=?_);refine wG tK ?_;refine ZL (λk:Nat=>k≤(cc A).length) (λk=>(cc A).length-k) (λk=>(20,.any)::(59,.int .i64 k)::u3 60 9 []) (λk=>[(26,.map (mB (oS J.ours ((cc A).take k))))]) 0 z7 ?_ λk hk=>?_
   ·simp only[go_sem];exact ZU w4 (by simp[go_sem,oS]) w4
   simp only[go_sem];refine wG tK ?_;refine wD (λh=>?_) (λh=>?_)
   ·have hlk:k<(cc A).length:=by simp at h;omega
    have hgk:((cc A).map ZI).getD k []=ZI ((cc A).getD k default):=Fam.getD hlk;have htk:oS J.ours ((cc A).take (k+1))=eh (oS J.ours ((cc A).take k)) ((cc A).getD k default) true:=by rw[ZT hlk,zH]
    have hwk:IntKind.i64.wrap ((k:Int)+1)=((k+1:Nat):Int):=by rw[Eng.wrap_small z7 z7];rfl
    generalize (cc A).getD k default=f at *;refine wGq tK ?_ ?_ (by simp only[go_sem,hgk,ZI,hwk];try exact rfl)
    ·simp[hgk,ZI,hlk,AV.wO,AV.bw]
    refine ZB ⟨k+1,by omega,by omega,ZU ?_ ?_ ?_⟩
    ·simp[go_sem]
    ·simp[go_sem,htk]
    ·simp[go_sem]
   ·have e:k=(cc A).length:=by simp at h;omega
    subst e;refine wGq tK ?_ ?_ (by simp only[go_sem,ZA,how'];try exact rfl)
    ·simp[ZA,rowsOf];omega
    refine ZB ⟨i+1,by omega,by omega,ZU ?_ ?_ ?_⟩
    ·simp[go_sem,hst]
    ·simp[go_sem,hst,jgB,kO,ZV,ZA,WA]
    ·simp[go_sem,hst]
  ·rw[if_neg hE] at hst;refine wDT (hb:=n4) (hk:=?_);refine wG tK ?_;refine ZW ZM ?_;refine ZS rfl ?_;refine sN tK 7 ?_;refine sE ?_;refine dS tK ?_;refine wKd ?_
   try simp only[go_sem,gA,gB,gC]
   refine wG tK ?_ j0 QF;refine ZB ⟨i+1,by omega,by omega,ZU ?_ ?_ ?_⟩
   ·simp[go_sem,hst]
   ·simp[go_sem,hst,jgB,kO,Jc,ZV]
   ·simp[go_sem,hst]
 ·have e:i=log.length:=by simp at h;omega
  subst e;refine wG tK ?_;refine ZW ZM ?_;refine ZS rfl ?_;refine sG tK ?_;refine sE ?_;refine wKd ?_
  try simp only[go_sem,gA,gB,gC]
  refine wG tK ?_;refine ZZ 45 rfl (rr _) ?_;simp only[go_sem];refine ZZ 72 rfl (wq _) ?_;simp only[go_sem];refine wT ?_;simp
def jP (s:Srv) (c:Int) (done:List Act) (i:Nat):List Past:=s.past++(done.take i).map λa=>⟨c,a⟩
theorem ye (s:Srv) (c:Int) {done:List Act} {i:Nat} (h:i<done.length):jP s c done (i+1)=jP s c done i++[⟨c,done.getD i default⟩]:=by
 unfold jP;rw[ZT h,List.map_append,Wa];rfl
theorem zI (s:Srv) (c:Int) (done:List Act) {i:Nat} (h:i≤done.length):(jP s c done i).length=s.past.length+i:=by
 unfold jP;simp;omega
theorem H6 (s:Srv) (h:SrvOK 40000000 s) (c:Int) (log:List Rec) (hlog:SmallL log) (hl2:log.length≤2000000) (hfit:∀r,r∈log->ActFit r.act) :
  ag Tryz.prog 45 [.agg (ZQ s),.int .i64 c,.sl (log.map ZR)] []
   (λr _=>r=.tup [.agg (ZQ (po s c log)),.sl ((cP s.tree s.next ((s.past.length+1:Nat):Int) log).vs.map ZV)]):=by
 have hn:=h.next;have hlen:=h.len;have hsp:SmallP s.past:=⟨by omega,λp hp=>by
  obtain ⟨st,_,_,h3⟩:=h.hist.st;obtain ⟨i,hi⟩:=Z9 hp;have hil:=(Z8.1 hi).1;have:=(h3 i hil).2.1.data
  rwa [show s.past.getD i default=p by rw[Z1,hi];rfl] at this⟩
 have hv:=tw s z7;have hso:=yt s h.hist.bV.small hsp;have hj:=D0 s.past s.tree s.next log h.hist z7 z7 hlog hl2 hfit;have hinv:=(JInv.xJ h.hist c s.next log hfit).len;have hT:po s c log=⟨(cP s.tree s.next ((s.past.length+1:Nat):Int) log).j.l,(cP s.tree s.next ((s.past.length+1:Nat):Int) log).j.next,jP s c (cP s.tree s.next ((s.past.length+1:Nat):Int) log).done (cP s.tree s.next ((s.past.length+1:Nat):Int) log).done.length⟩:=by
  unfold po jP;rw[WA]
 rw[hT];clear hT;unfold ZQ at hv hso ⊢;generalize cP s.tree s.next ((s.past.length+1:Nat):Int) log=g at *;have hsu:=λi=>@ye s c g.done i
 have hle:=λi=>@zI s c g.done i
 have hz:jP s c g.done 0=s.past:=by simp[jP]
 generalize jP s c g.done=P at *;refine ZF tK (Tryz.func45) rfl (λC=>?_);simp only[Tryz.ntmps45,Tryz.results45,go_sem];refine wG tK ?_;refine ZZ 3 rfl (rfl) ?_;simp only[go_sem];refine ZW ZM ?_;refine ZS rfl ?_;refine sN tK 5 ?_;refine sC Tryz.func86 (hf:=(hv)) (hk:=?_);refine sN tK 1 ?_;refine sC Tryz.func85 (hf:=(hj)) (hk:=?_);refine sG tK ?_;refine sE ?_;refine wKd ?_
 try simp only[go_sem,gA,gB,gC]
 refine wG tK ?_;refine wCG [] 18 Tryz.func40 (hf:=(hso)) (hk:=?_);refine wG tK ?_;refine ZL (λi:Nat=>i≤g.done.length) (λi=>g.done.length-i) (λi=>(14,.any)::(29,.any)::(36,.int .i64 i)::u3 37 12 [])
  (λi=>[(12,.cells 32 3 [[.sl (g.j.l.map ZN),.int .i64 g.j.next,.osl 46 8 0 (P i).length]]),(46,.cells 79 8 ((P i).map ZP))]) 0 z7 ?_ λi hi=>?_
 ·rw[hz];simp only[go_sem];exact ZU w4 w4 w4
 simp only[go_sem];refine wG tK ?_;refine wD (λh=>?_) (λh=>?_)
 ·have hlt:i<g.done.length:=by simp at h;omega
  have hg:(g.done.map ZA).getD i []=ZA (g.done.getD i default):=Fam.getD hlt;have hs1:=hsu i hlt;have hl1:=hle i z7;have how':=wi1 (i:=i) z7;generalize g.done.getD i default=a at *;generalize P i=Q at *;refine wR ?_;refine wNq tK 4 ?_ ?_ z6 z6 (by simp only[go_sem,hg,ZA];try exact rfl)
  ·simp[hg,ZA,hlt]
  refine wR ?_;refine wN tK 6 ?_;refine bf (dR 46 12 z6 j9) ?_;refine wGq tK ?_ ?_ j0
  ·simp[rowsOf,ZP];omega
  refine ZB ⟨i+1,by omega,by omega,ZU ?_ ?_ ?_⟩
  ·simp[go_sem]
  ·simp[go_sem,hs1,ZP,WA]
  ·simp[go_sem]
 ·have e:i=g.done.length:=by simp at h;omega
  subst e;refine wG tK ?_;refine ZZ 46 rfl (iD _) ?_;simp only[go_sem];refine wT ?_;simp
end La
namespace La
open Go Go.Eng
inductive MReach (m:List (Int×Node)) (k:Int):Int->Prop
 | refl:MReach m k k
 | step {x:Int} {n:Node} {e:Entry} (h:MReach m k x) (hn:cQ m x=some n) (he:e∈n.entries):MReach m k e.fid
def IT (m:List (Int×Node)):List Int:=m.flatMap λp=>p.2.entries.map (·.fid)
def E2 (m:List (Int×Node)) (had:List (Int×Bool)):Nat:=((IT m).filter λf=>!(iX had f)).length
structure BI (m:List (Int×Node)) (k:Int) (had:List (Int×Bool)) (T:List Int):Prop where
 rise:lA had
 sound:∀x,iX had x=true->MReach m k x
 start:iX had k=true
 todo:∀x,x∈T->iX had x=true
 shut:∀x,iX had x=true->x∉T->∀n,cQ m x=some n->∀e,e∈n.entries->iX had e.fid=true
 size:T.length+E2 m had≤(IT m).length+1
structure BJ (m:List (Int×Node)) (k:Int) (x:Int) (n:Node) (c:Nat) (j:Nat) (had:List (Int×Bool)) (T:List Int):Prop where
 at_:cQ m x=some n
 rise:lA had
 sound:∀x,iX had x=true->MReach m k x
 start:iX had k=true
 todo:∀x,x∈T->iX had x=true
 shut:∀x,iX had x=true->x∉T->∀n,cQ m x=some n->∀e,e∈n.entries->iX had e.fid=true
 done:∀e,e∈n.entries.take j->iX had e.fid=true
 head:∃r,T=x::r
 size:T.length+E2 m had≤c
end La
