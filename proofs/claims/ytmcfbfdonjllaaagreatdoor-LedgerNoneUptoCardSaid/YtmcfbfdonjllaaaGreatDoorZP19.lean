/- Texts of this claim, part 19: Maps, PJud, Jud, Jud2, Jud3, PBfs. No condition. -/
import Derived.Test.YtmcfbfdonjllaaaGreatDoorZP18
set_option maxRecDepth 10000
set_option maxHeartbeats 4000000
set_option linter.unusedSimpArgs false
set_option linter.unusedVariables false
namespace La
open Go Go.Eng Go.Proofs Go.Proofs.Tryz
theorem mU {α β:Type} (g:α->β):∀(m:List (Int×α)) (f:Int),bl (m.map λp=>(p.1,g p.2)) f=(bl m f).map g
 | [],_=>rfl
 | p::r,f=>by
  simp only[List.map_cons,bl,mU g r f];split<;>rfl
theorem pB {α β:Type} (g:α->β):∀(m:List (Int×α)) (f:Int) (v:α),aV (m.map λp=>(p.1,g p.2)) f (g v)=(aV m f v).map λp=>(p.1,g p.2)
 | [],_,_=>rfl
 | p::r,f,v=>by
  simp only[List.map_cons,aV,pB g r f v];split
  ·rfl
  ·split<;>rfl
theorem Ge {α β:Type} (g:α->β) (m:List (Int×α)) (f:Int):eu (m.map λp=>(p.1,g p.2)) f=(eu m f).map λp=>(p.1,g p.2):=by
 unfold eu;rw[List.filter_map];rfl
def mI (m:List (Int×Int)):List (Int×AV):=m.map λp=>(p.1,.int .i64 p.2)
def mB (m:List (Int×Bool)):List (Int×AV):=m.map λp=>(p.1,.bool p.2)
def cB (m:List (Int×Bool)) (f:Int):Bool:=(bl m f).getD false
def gr (m:List (Int×Int)) (f:Int):Int:=(bl m f).getD 0
def iH (m:List (Int×Int)) (f:Int):Bool:=(bl m f).isSome
@[go_sem] theorem Mu (m:List (Int×Int)) (f:Int):(bl (mI m) f).getD (.int .i64 0)=.int .i64 (gr m f):=by
 unfold mI gr;rw[mU (λx=>AV.int .i64 x)];cases bl m f<;>rfl
@[go_sem] theorem Mv (m:List (Int×Int)) (f:Int):(bl (mI m) f).isSome=iH m f:=by
 unfold mI iH;rw[mU (λx=>AV.int .i64 x)];cases bl m f<;>rfl
@[go_sem] theorem Mw (m:List (Int×Int)) (f x:Int):aV (mI m) f (.int .i64 x)=mI (aV m f x):=pB (λx=>AV.int .i64 x) m f x
@[go_sem] theorem Mt (m:List (Int×Int)) (f:Int):eu (mI m) f=mI (eu m f):=Ge (λx=>AV.int .i64 x) m f
@[go_sem] theorem Mr (m:List (Int×Bool)) (f:Int):(bl (mB m) f).getD (.bool false)=.bool (cB m f):=by
 unfold mB cB;rw[mU AV.bool];cases bl m f<;>rfl
@[go_sem] theorem Ms (m:List (Int×Bool)) (f:Int) (x:Bool):aV (mB m) f (.bool x)=mB (aV m f x):=pB AV.bool m f x
def mN (m:List (Int×Node)):List (Int×AV):=m.map λp=>(p.1,.agg (ZN p.2))
theorem gW (m:List (Int×Node)) (k:Int):bl (mN m) k=(bl m k).map λn=>.agg (ZN n):=mU (λn=>AV.agg (ZN n)) m k
theorem xM (m:List (Int×Node)) (k:Int) (n:Node):aV (mN m) k (.agg (ZN n))=mN (aV m k n):=pB (λn=>AV.agg (ZN n)) m k n
def dQ {α:Type} (m:List (Int×α)):Prop:=m.Pairwise λa b=>a.1<b.1
theorem kF {m:List (Int×Bool)} (h:dQ m) (f:Int) (b:Bool) (x:Int):cB (aV m f b) x=if x=f then b else cB m x:=by
 unfold cB;rw[kN h];split<;>rfl
structure JS where
 l:List Node
 next:Int
 version:Int
 own:List (Int×Int)
 ours:List (Int×Bool)
 lost:List (Int×Bool)
def atF (m:List (Int×Int)) (f:Int):Int:=if iH m f=true then gr m f else f
def gl (j:JS) (a:Act):Bool:=(cw a).any (cB j.lost)
def fx (j:JS) (r:Rec) (a:Act):Bool:=
 if ((a.kind≠3/\a.kind≠4)\/r.version<0)\/cB j.ours a.fid=true then false
 else match ak j.l a.fid with
  | none=>true
  | some n=>n.version != r.version
def cC (j:JS) (r:Rec):List (Int×Int):=if aR r.act=true then aV j.own r.act.fid j.next else j.own
def bQ (j:JS) (r:Rec):Act:={ r.act with fid:=atF (cC j r) r.act.fid,dir:=atF (cC j r) r.act.dir,to:=if r.act.kind=5 then atF (cC j r) r.act.to else r.act.to }
noncomputable def jQ (j:JS) (r:Rec):Int:=
 if gl j r.act=true then 14
 else if aR r.act=true/\(iH j.own r.act.fid=true\/r.act.fid≥0) then 2
 else if fx { j with own:=cC j r } r (bQ j r)=true then 13
 else aG j.l (bQ j r)
noncomputable def fw (j:JS) (r:Rec):JS:=
 if gl j r.act=true then j
 else if aR r.act=true/\(iH j.own r.act.fid=true\/r.act.fid≥0) then j
 else if fx { j with own:=cC j r } r (bQ j r)=true then { j with own:=cC j r }
 else if aG j.l (bQ j r)≠0 then { j with own:=if aR r.act=true then eu (cC j r) r.act.fid else cC j r }
 else { j with l:=aK j.l (bQ j r) j.version,next:=if aR r.act=true then j.next+1 else j.next,version:=j.version+1,own:=cC j r }
def kr (j:JS) (r:Rec):Act:=
 if gl j r.act=true then r.act
 else if aR r.act=true/\(iH j.own r.act.fid=true\/r.act.fid≥0) then r.act
 else bQ j r
noncomputable def ku (j:JS) (r:Rec):Verdict:=⟨jQ j r,if jQ j r=0 then (bQ j r).fid else 0⟩
structure JG where
 j:JS
 vs:List Verdict
 done:List Act
def xJ (j:JS) (f:Int):JS:={ j with lost:=aV j.lost f true }
def kc (m:List (Int×Bool)) (l:List Int):List (Int×Bool):=l.foldl (λm f=>aV m f true) m
noncomputable def mb (s:JG) (r:Rec):JG:=
 if jQ s.j r=0 then ⟨{ fw s.j r with ours:=kc (fw s.j r).ours (cw (kr s.j r)) },s.vs++[ku s.j r],s.done++[kr s.j r]⟩
 else ⟨xJ (fw s.j r) r.act.fid,s.vs++[ku s.j r],s.done⟩
def gn (l:List Node) (next version:Int):JG:=⟨⟨l,next,version,[],[],[]⟩,[],[]⟩
noncomputable def bM (l:List Node) (next version:Int) (log:List Rec):JG:=log.foldl mb (gn l next version)
noncomputable def iS (s:Srv) (c:Int) (log:List Rec):Srv:=
 ⟨(bM s.tree s.next ((s.past.length+1:Nat):Int) log).j.l,(bM s.tree s.next ((s.past.length+1:Nat):Int) log).j.next,s.past++(bM s.tree s.next ((s.past.length+1:Nat):Int) log).done.map λa=>⟨c,a⟩⟩
inductive Hist:List Past->List Node->Prop
 | nil:Hist [] [gN]
 | snoc {p:List Past} {t:List Node} (c:Int) (a:Act) (h:Hist p t) (ha:ActFit a) (he:aG t a=0):Hist (p++[⟨c,a⟩]) (aK t a ((p.length+1:Nat):Int))
theorem Hist.bs {p:List Past} {t:List Node} (h:Hist p t):Good t:=by
 induction h with
 | nil=>exact vR
 | snoc c a h ha he ih=>exact fH ih _ _ he
theorem Hist.st {p:List Past} {t:List Node} (h:Hist p t):∃st:Nat->List Node,st 0=[gN]/\st p.length=t /\
  ∀i,i<p.length->Good (st i)/\ActFit (p.getD i default).act/\aG (st i) (p.getD i default).act=0/\st (i+1)=aK (st i) (p.getD i default).act ((i+1:Nat):Int):=by
 induction h with
 | nil=>exact ⟨λ_=>[gN],rfl,rfl,λi hi=>by simp at hi⟩
 | @snoc p t c a h ha he ih=>
  obtain ⟨st,h0,h1,h2⟩:=ih;refine ⟨λi=>if i<=p.length then st i else aK t a ((p.length+1:Nat):Int),?_,?_,λi hi=>?_⟩
  ·simp[h0]
  ·show (if (p++[(⟨c,a⟩:Past)]).length<=p.length then _ else _)=_
   rw[if_neg w8]
  ·have hl:(p++[(⟨c,a⟩:Past)]).length=p.length+1:=by simp
   rw[hl] at hi
   by_cases e:i<p.length
   ·have hg:(p++[(⟨c,a⟩:Past)]).getD i default=p.getD i default:=by
     rw[List.getD_eq_getElem?_getD,YU e,List.getD_eq_getElem?_getD]
    rw[hg];simp only[show i<=p.length by omega,if_true,show i+1<=p.length by omega];exact h2 i e
   ·have e2:i=p.length:=by omega
    subst e2;have hg:(p++[(⟨c,a⟩:Past)]).getD p.length default=⟨c,a⟩:=by
     rw[List.getD_eq_getElem?_getD,YQ (YA _)];simp
    rw[hg];simp only[YA,if_true,show ¬p.length+1<=p.length by omega,if_false,h1];exact ⟨h.bs,ha,he,trivial⟩
theorem sY {j:JS} {r:Rec} (h:ActFit r.act):ActFit (bQ j r):=⟨h.name,h.toName,h.data⟩
structure JInv (p:List Past) (c:Int) (k:Nat) (n0:Int) (s:JG):Prop where
 hist:Hist (p++s.done.map λa=>⟨c,a⟩) s.j.l
 version:s.j.version=((p.length+s.done.length+1:Nat):Int)
 len:s.done.length<=k
 vlen:s.vs.length=k
 next:n0<=s.j.next/\s.j.next<=n0+k
theorem JInv.step {p:List Past} {c:Int} {k:Nat} {n0:Int} {s:JG} (h:JInv p c k n0 s) {r:Rec} (hr:ActFit r.act):JInv p c (k+1) n0 (mb s r):=by
 unfold mb;have h1:=h.next;have h2:=h.len;have h3:=h.vlen
 by_cases he:jQ s.j r=0
 ·rw[if_pos he];unfold jQ at he;split at he
  ·omega
  ·rename_i c1;split at he
   ·omega
   ·rename_i c2;split at he
    ·omega
    ·rename_i c3;have hJ:fw s.j r={ s.j with l:=aK s.j.l (bQ s.j r) s.j.version,next:=if aR r.act=true then s.j.next+1 else s.j.next,version:=s.j.version+1,own:=cC s.j r }:=by
      unfold fw;rw[if_neg c1,if_neg c2,if_neg c3,if_neg QB]
     have hA:kr s.j r=bQ s.j r:=by unfold kr;rw[if_neg c1,if_neg c2]
     rw[hJ,hA];refine ⟨?_,?_,?_,?_,?_⟩
     ·have:=Hist.snoc c (bQ s.j r) h.hist (sY hr) he;rw[List.length_append,List.length_map,<-h.version] at this;simpa using this
     ·have:=h.version;simp only[List.length_append,List.length_cons,List.length_nil];omega
     ·simp only[List.length_append,List.length_cons,List.length_nil];omega
     ·simp only[List.length_append,List.length_cons,List.length_nil];omega
     ·simp only;split<;>omega
 ·rw[if_neg he];have hJ:(fw s.j r).l=s.j.l/\(fw s.j r).next=s.j.next/\(fw s.j r).version=s.j.version:=by
   unfold fw;unfold jQ at he;split
   ·exact ⟨rfl,rfl,rfl⟩
   ·rename_i c1;rw[if_neg c1] at he;split
    ·exact ⟨rfl,rfl,rfl⟩
    ·rename_i c2;rw[if_neg c2] at he;split
     ·exact ⟨rfl,rfl,rfl⟩
     ·rename_i c3;rw[if_neg c3] at he;rw[if_pos he];exact ⟨rfl,rfl,rfl⟩
  obtain ⟨j1,j2,j3⟩:=hJ;refine ⟨?_,?_,?_,?_,?_⟩
  ·show Hist _ (fw s.j r).l
   rw[j1];exact h.hist
  ·show (fw s.j r).version=_
   rw[j3];exact h.version
  ·show s.done.length<=k+1;omega
  ·simp only[List.length_append,List.length_cons,List.length_nil];omega
  ·show n0<=(fw s.j r).next/\(fw s.j r).next<=n0+((k+1:Nat):Int)
   rw[j2];omega
theorem JInv.start {p:List Past} {t:List Node} (h:Hist p t) (c n0:Int):JInv p c 0 n0 (gn t n0 ((p.length+1:Nat):Int)):=
 ⟨by simpa[gn] using h,by simp[gn],by simp[gn],by simp[gn],by simp[gn]⟩
theorem JInv.rC {p:List Past} {t:List Node} (h:Hist p t) (c n0:Int) (log:List Rec) (hl:∀r,r∈log->ActFit r.act):JInv p c log.length n0 (bM t n0 ((p.length+1:Nat):Int) log):=by
 have key:∀(l:List Rec) (k:Nat) (s:JG),(∀r,r∈l->ActFit r.act)->JInv p c k n0 s->JInv p c (k+l.length) n0 (l.foldl mb s):=λl=>by
  induction l with
  | nil=>exact λk s _ h=>h
  | cons r l ih=>
   intro k s hl h;have:=ih (k+1) (mb s r) (λx hx=>hl x (List.mem_cons_of_mem _ hx)) (h.step (hl r List.mem_cons_self));rw[List.foldl_cons,List.length_cons,show k+(l.length+1)=k+1+l.length by omega];exact this
 have:=key log 0 _ hl (JInv.start h c n0)
 rwa [Yd] at this
structure SrvOK (k:Nat) (s:Srv):Prop where
 hist:Hist s.past s.tree
 len:s.past.length<=k
 next:1<=s.next/\s.next<=1+k
theorem SrvOK.new:SrvOK 0 ⟨[gN],1,[]⟩:=⟨.nil,by simp,by simp⟩
theorem SrvOK.mono {k m:Nat} {s:Srv} (h:SrvOK k s) (hk:k<=m):SrvOK m s:=⟨h.hist,by have:=h.len;omega,by have:=h.next;omega⟩
theorem SrvOK.step {k:Nat} {s:Srv} (h:SrvOK k s) (c:Int) {a:Act} (ha:ActFit a) (he:doE s a=0):SrvOK (k+1) (doS s c a):=by
 have h1:=h.len;have h2:=h.next;have hf:ActFit (doA s a):=by unfold doA;split;exact ⟨ha.name,ha.toName,ha.data⟩;exact ha
 refine ⟨Hist.snoc c _ h.hist hf he,by simp[doS];omega,?_⟩
 show 1<=(if aR a=true then s.next+1 else s.next)/\(if aR a=true then s.next+1 else s.next)<=1+((k+1:Nat):Int)
 split<;>omega
theorem SrvOK.take {k:Nat} {s:Srv} (h:SrvOK k s) (c:Int) {log:List Rec} (hl:∀r,r∈log->ActFit r.act):SrvOK (k+log.length) (iS s c log):=by
 have h1:=h.len;have h2:=h.next;have hj:=JInv.rC h.hist c s.next log hl;have h3:=hj.len;have h4:=hj.next;exact ⟨hj.hist,by simp only[iS,List.length_append,List.length_map];omega,by show 1<=(bM s.tree s.next _ log).j.next/\(bM s.tree s.next _ log).j.next<=_;omega⟩
def ly (j:JS):List AV:=[.sl (j.l.map ZN),.int .i64 j.next,.int .i64 j.version,.mp 25,.mp 26,.mp 27]
def jB (j:JS):List (Nat×Blk):=[(29,.cells 200 6 [ly j]),(27,.map (mB j.lost)),(26,.map (mB j.ours)),(25,.map (mI j.own))]
def jH (j:JS) (G Y N:Nat->Nat):List (Nat×Blk):=jB j++pins [29,25,26,27] G Y N
def jcH (j:JS) (G Y N:Nat->Nat):List (Nat×Blk):=([(2,.cells 198 1 [[.ptr 29 6 0 0]])]++jB j)++pins [29,25,26,27,2] G Y N
def jaH (j:JS) (a:Act) (G Y N:Nat->Nat):List (Nat×Blk):=([(6,.cells 49 7 [ZA a])]++jB j)++pins [29,25,26,27,6] G Y N
def Holds (L H:List (Nat×Blk)):Prop:=∀i b,aa L i=some b->aa H i=some b
theorem YH (H:List (Nat×Blk)):Holds [] H:=λ_ _ h=>nomatch h
theorem ZH {L H:List (Nat×Blk)} {k:Nat} {B:Blk} (h:aa H k=some B) (hL:Holds L H):Holds ((k,B)::L) H:=λi b hb=>by
 simp only[aa] at hb;split at hb
 ·rename_i e;subst e;rw[h];exact hb
 ·exact hL i b hb
theorem Lh (j:JS) (f:Int) (G Y N:Nat->Nat):ai prog 166 [.ptr 29 6 0 0,.int .i64 f] (jH j G Y N) (λr H=>r=.int .i64 (atF j.own f)/\Holds (jH j G Y N) H):=by
 unfold jH jB ly atF;refine wS func166 ntmps166 results166 λC=>?_
 refine wR ?_;refine wN 1 ?_;refine wR ?_;refine wN 5 ?_;refine wG ?_;cases e:iH j.own f with
 | true=>
  refine wDT ?_ (hb:=by simp[e]);refine wGT ?_;exact ⟨rfl,λi b hb=>hb⟩
 | false=>
  refine wDF ?_ (hb:=by simp[e]);refine wGT ?_;exact ⟨rfl,λi b hb=>hb⟩
theorem I1 (j:JS) (f:Int) (G Y N:Nat->Nat):ai prog 193 [.int .i64 f,.ptr 2 1 0 0] (jcH j G Y N) (λr H=>r=.bool (cB j.lost f)/\Holds (jcH j G Y N) H):=by
 unfold jcH jB ly;refine wS func193 ntmps193 results193 λC=>?_
 refine wGT ?_;exact ⟨rfl,λi b hb=>hb⟩
theorem BE (j:JS) (l:List Int) (hlen:l.length<=100000000) (G Y N:Nat->Nat):ai prog 219 [.sl (l.map ZI),.fn 193 [.ptr 2 1 0 0]] (jcH j G Y N)
  (λr H=>r=.int .i64 (cq (l.findIdx? (cB j.lost)))/\Holds (jcH j G Y N) H):=by
 unfold jcH jB ly;refine wSG func219 ntmps219 results219 λC=>?_
 refine ZL (λi:Nat=>i<=l.length/\∀x,x∈l.take i->cB j.lost x=false) (λi=>l.length-i) (λi=>(8,.int .i64 i)::(5,.any)::u0 9 10 []) (λ_=>[]) 0 ⟨by omega,by simp⟩ ?_ λi hi=>?_
 ·exact wZ
 obtain ⟨hi,hno⟩:=hi;simp only[go_sem];refine wGD (λh=>?_) (λh=>?_)
 ·have hlt:=lt1 h;have hg:=Fam.getD (f:=ZI) hlt;have htk:=ZT hlt;have hgi:l[i]? = some (l.getD i default):=by rw[List.getD_eq_getElem?_getD,W3 hlt];rfl
  have hc:=I1 j (l.getD i default);unfold jcH jB ly at hc;generalize l.getD i default=n at hg htk hgi hc;refine wGq ?_ ?_ Zl
  ·simp[hlt,ZI]
  refine wP ?_ [29,25,26,27,2] func193 (hf:=hc);refine wGD (λh=>?_) (λh=>?_)
  ·refine wG ?_;refine wU ?_ ?_
   ·rw[eN hgi hno h];rfl
   ·exact q9
  ·have hw:IntKind.i64.wrap ((i:Int)+1)=(i:Int)+1:=wrap_small z8 z8;refine wG ?_ w4 y7;refine ZB ⟨i+1,⟨by omega,?_⟩,by omega,ZU ?_ ?_ ?_⟩
   ·rw[htk];intro x hx
    rcases List.mem_append.1 hx with hx | hx
    ·exact hno x hx
    ·rw[List.mem_singleton.1 hx];exact h
   ·simp[go_sem]
   ·simp[go_sem]
   ·simp[go_sem]
 ·have e:i=l.length:=by simp at h;omega
  refine wG ?_;refine wU ?_ ?_
  ·rw[e,W7] at hno;rw[YO.2 hno];rfl
  ·exact q9
theorem BD (j:JS) (l:List Int) (hlen:l.length<=100000000) (G Y N:Nat->Nat):ai prog 192 [.sl (l.map ZI),.fn 193 [.ptr 2 1 0 0]] (jcH j G Y N)
  (λr H=>r=.bool (l.any (cB j.lost))/\Holds (jcH j G Y N) H):=by
 have hc:=BE j l hlen;unfold jcH jB ly at hc ⊢;refine wSG func192 ntmps192 results192 λC=>?_
 refine wP ?_ [29,25,26,27,2] func219 (hf:=hc);refine wG ?_;refine wU ?_ ?_
 ·rw[mM]
 ·exact q9
theorem GI (j:JS) (a:Act) (G Y N:Nat->Nat):ai prog 165 [.ptr 29 6 0 0,.ptr 6 7 0 0] (jaH j a G Y N) (λr H=>r=.bool (gl j a)/\Holds (jaH j a G Y N) H):=by
 have hc:=BD j (cw a) (by have:=fA a;omega);have hf:=xt a;unfold gl;generalize (cw a).any (cB j.lost)=z at hc ⊢;generalize cw a=l at hc hf;unfold jcH jB ly at hc;unfold ZA at hf;unfold jaH jB ly ZA;refine wSG func165 ntmps165 results165 λC=>?_
 refine wCg ?_ func126 (hf:=hf);refine wP ?_ [29,25,26,27,2] func192 (hf:=hc);refine wG ?_;refine wU ?_ ?_
 ·rfl
 ·exact q9
theorem G1 (j:JS) (r:Rec) (a:Act) (hl:Small j.l) (G Y N:Nat->Nat):ai prog 167 [.ptr 29 6 0 0,.rp (ZR r) 0,.ptr 6 7 0 0] (jaH j a G Y N) (λx H=>x=.bool (fx j r a)/\Holds (jaH j a G Y N) H):=by
 have hf:=dD j.l a.fid hl;unfold fx;unfold jaH jB ly ZA ZR;refine wS func167 ntmps167 results167 λC=>?_
 refine wGS ?_;refine sN 12 ?_;refine dh 20 z6 (λc20 h20=>?_);simp only[go_sem];refine sN 7 ?_;refine dh 27 z6 (λc27 h27=>?_);simp only[go_sem];refine sG ?_;refine wX ?_;refine wR ?_;refine wNm 38 λc38 h38=>?_
 have hst:(((a.kind≠3/\a.kind≠4)\/r.version<0)\/cB j.ours a.fid=true)↔c38=true:=by
  subst h38 h27 h20;simp[cS,fe]
 clear h38 h27 h20;cases c38 with
 | true=>
  rw[if_pos (hst.2 rfl)];refine wTG ?_ (hb:=rfl);refine wU ?_ ?_
  ·rfl
  ·exact q9
 | false=>
  rw[if_neg (λh=>nomatch hst.1 h)];refine wDF ?_ (hb:=rfl);refine wGS ?_;refine sN 8 ?_;refine sC ?_ func82 (hf:=hf);simp only[go_sem,fS];rw[cK];cases ak j.l a.fid with
  | none=>
   simp only[Option.getD_none,Option.isSome_none];refine sG ?_;refine sW ?_;simp only[go_sem,ZN,aw];refine sT ?_;refine sE ?_;refine dS ?_;refine wKn ?_;refine wGS ?_;refine sG ?_;refine wXG ?_;refine wU ?_ ?_
   ·rfl
   ·exact q9
  | some n=>
   simp only[Option.getD_some,Option.isSome_some];refine sG ?_;refine sW ?_;simp only[go_sem,ZN];refine sT ?_;refine sE ?_;refine dS ?_;refine wKn ?_;refine wGS ?_;refine sG ?_;refine wXG ?_;refine wU ?_ ?_
   ·rfl
   ·exact q9
theorem D6 {j:JS} {r:Rec} (h:gl j r.act=true):ku j r=⟨14,0⟩/\kr j r=r.act/\fw j r=j:=by
 simp[ku,kr,fw,jQ,h]
theorem Gu {j:JS} {r:Rec} (h:gl j r.act=false) (h1:aR r.act=true) (h2:iH j.own r.act.fid=true\/r.act.fid≥0):ku j r=⟨2,0⟩/\kr j r=r.act/\fw j r=j:=by
 simp[ku,kr,fw,jQ,h,h1,h2]
theorem D7 {j:JS} {r:Rec} (h:gl j r.act=false) (h1:¬(aR r.act=true/\(iH j.own r.act.fid=true\/r.act.fid≥0))) (h2:fx { j with own:=cC j r } r (bQ j r)=true) :
  ku j r=⟨13,0⟩/\kr j r=bQ j r/\fw j r={ j with own:=cC j r }:=by
 simp[ku,kr,fw,jQ,h,h1,h2]
theorem Je {j:JS} {r:Rec} (h:gl j r.act=false) (h1:¬(aR r.act=true/\(iH j.own r.act.fid=true\/r.act.fid≥0))) (h2:fx { j with own:=cC j r } r (bQ j r)=false) (h3:aG j.l (bQ j r)≠0) :
  ku j r=⟨aG j.l (bQ j r),0⟩/\kr j r=bQ j r/\fw j r={ j with own:=if aR r.act=true then eu (cC j r) r.act.fid else cC j r }:=by
 simp[ku,kr,fw,jQ,h,h1,h2,h3]
theorem Gt {j:JS} {r:Rec} (h:gl j r.act=false) (h1:¬(aR r.act=true/\(iH j.own r.act.fid=true\/r.act.fid≥0))) (h2:fx { j with own:=cC j r } r (bQ j r)=false) (h3:aG j.l (bQ j r)=0) :
  ku j r=⟨0,(bQ j r).fid⟩/\kr j r=bQ j r/\fw j r={ j with l:=aK j.l (bQ j r) j.version,next:=if aR r.act=true then j.next+1 else j.next,version:=j.version+1,own:=cC j r }:=by
 simp[ku,kr,fw,jQ,h,h1,h2,h3]
theorem Ls (j:JS) (r:Rec) (hg:Good j.l) (hr:ActFit r.act) (hn:j.next.natAbs<=90000000) (hv:j.version.natAbs<=90000000) (G Y N:Nat->Nat):ai prog 125 [.ptr 29 6 0 0,.rp (ZR r) 0] (jH j G Y N)
  (λx H=>x=.tup [.agg (ZV (ku j r)),.agg (ZA (kr j r))]/\Holds (jH (fw j r) G Y N) H):=by
 have how:=mi r.act hr.data;have hre:=GI j r.act;have q0:=@D6 j r;have q1:=@Gu j r;have q2:=@D7 j r;have q3:=@Je j r;have q4:=@Gt j r;have hfid:∀f (G Y N:Nat->Nat),ai prog 166 [.ptr 29 6 0 0,.int .i64 f] (jH { j with own:=cC j r } G Y N) (λx H=>x=.int .i64 (atF (cC j r) f)/\Holds (jH { j with own:=cC j r } G Y N) H):=λf=>Lh { j with own:=cC j r } f
 unfold jH jB ly at hfid;simp only at hfid;have hst:=G1 { j with own:=cC j r } r (bQ j r) hg.small;have hap:=lb hg (bQ j r) j.version (sY hr);have hwn:IntKind.i64.wrap (j.next+1)=j.next+1:=Eng.wrap_small z8 z8;have hwv:IntKind.i64.wrap (j.version+1)=j.version+1:=Eng.wrap_small z8 z8;unfold jaH jB ly at hst;unfold oh at hap;generalize fx { j with own:=cC j r } r (bQ j r)=st at *;generalize aG j.l (bQ j r)=E at *;generalize aK j.l (bQ j r) j.version=L at *;simp only[ZA,bQ] at hst hap;generalize ku j r=V at *;generalize kr j r=A at *;generalize fw j r=J at *;unfold jaH jB ly ZA at hre;unfold ZA at how;unfold jH jB ly ZR;refine wSG func125 ntmps125 results125 λC=>?_
 refine wCg ?_ func67 (hf:=how);refine wP ?_ [29,25,26,27,6] func165 (hf:=hre);cases h0:gl j r.act with
 | true=>
  obtain ⟨e1,e2,e3⟩:=q0 h0;refine wG ?_;refine wDT ?_ (hb:=rfl);refine wGS ?_;refine sB ?_;refine sN 1 ?_;refine sT ?_;refine sT ?_;refine wXG ?_;refine wU ?_ ?_
  ·simp[ZV,ZA,e1,e2]
  ·rw[e3];exact q9
 | false=>
  clear q0;refine wG ?_;refine wDF ?_ (hb:=rfl);refine wR ?_;refine wN 8 ?_;refine wNm 28 λc28 h28=>?_
  have h28':c28=aR r.act:=by rw[<-h28,fe];rfl
  clear h28;subst h28';refine wG ?_;cases h1:aR r.act with
  | true=>
   refine wDT ?_ (hb:=rfl);refine wGS ?_;refine sG ?_;refine wXG ?_;cases h2:(iH j.own r.act.fid||decide (r.act.fid≥0)) with
   | true=>
    obtain ⟨e1,e2,e3⟩:=q1 h0 h1 WY;refine wDT ?_ (hb:=by simpa[fe] using h2);refine wGS ?_;refine sB ?_;refine sN 1 ?_;refine sT ?_;refine sT ?_;refine wXG ?_;refine wU ?_ ?_
    ·simp[ZV,ZA,e1,e2]
    ·rw[e3];exact q9
   | false=>
    refine wDF ?_ (hb:=by simpa[fe] using h2);refine wGS ?_;refine sN 10 ?_;refine sE ?_;refine dS ?_;refine wKG ?_;have ho:cC j r=aV j.own r.act.fid j.next:=by unfold cC;rw[if_pos h1]
    rw[<-ho];have hnf:¬(aR r.act=true/\(iH j.own r.act.fid=true\/r.act.fid≥0)):=λhh=>by
     have:=hh.2;simp only[Bool.or_eq_false_iff,decide_eq_false_iff_not] at h2
     rcases this with h | h
     ·rw[h2.1] at h;cases h
     ·exact h2.2 h
    clear h2;have hk5:¬r.act.kind=5:=λe=>by simp[aR,e] at h1
    have hT:(if r.act.kind=5 then atF (cC j r) r.act.to else r.act.to)=r.act.to:=if_neg hk5;rw[hT] at hst hap
    -- the cw as they are here
    refine wO ?_;refine sN 3 ?_;refine dP rfl rfl z7 w3 ⟨_,func166,by kernel_rfl,rfl⟩ [29,25,26,27] w6 w3 w8 w3 w3 (hfid r.act.fid) z6 w7 ?_;refine sN 3 ?_;refine dP rfl rfl z7 w3 ⟨_,func166,by kernel_rfl,rfl⟩ [29,25,26,27] w6 w3 w8 w3 w3 (hfid r.act.dir) z6 w7 ?_;refine sN 1 ?_;refine sT ?_;refine sN 1 ?_;refine sT ?_;refine wXG ?_;refine wFG ?_ (hb:=WU);refine wP ?_ [29,25,26,27,6] func167 (hf:=hst);refine wG ?_;cases st with
    | true=>
     obtain ⟨e1,e2,e3⟩:=q2 h0 hnf rfl;refine wDT ?_ (hb:=rfl);refine wGS ?_;refine sB ?_;refine sN 1 ?_;refine sT ?_;refine sT ?_;refine wXG ?_;refine wU ?_ ?_
     ·simp[ZV,ZA,e1,e2,bQ,hk5]
     ·rw[e3];exact q9
    | false=>
     refine wFG ?_ (hb:=rfl)
     by_cases hE:E=0
     ·obtain ⟨e1,e2,e3⟩:=q4 h0 hnf rfl hE;subst hE;rw[h1] at e3;simp only[if_true,Bool.false_eq_true,if_false] at hap e3;refine wO ?_;refine sN 9 ?_;refine sC ?_ func109 (hf:=hap);refine sG ?_;refine wXG ?_;refine wDF ?_ (hb:=w8);refine wG ?_ QD Qz;refine wDT ?_ (hb:=w8);refine wG ?_ QD Qz;refine wO ?_;refine sN 2 ?_;refine sB ?_;refine sN 1 ?_;refine sT ?_;refine sT ?_;refine wXG ?_;refine wU ?_ ?_
      ·simp[ZV,ZA,e1,e2,bQ,hk5]
      ·rw[e3];exact q9
     ·obtain ⟨e1,e2,e3⟩:=q3 h0 hnf rfl hE;rw[h1] at e3;simp only[hE,if_true,Bool.false_eq_true,if_false] at hap e3;refine wO ?_;refine sN 9 ?_;refine sC ?_ func109 (hf:=hap);refine sG ?_;refine wXG ?_;refine wTG ?_ (hb:=j9);refine wDT ?_ (hb:=w8);refine wGS ?_;refine sN 9 ?_;refine sE ?_;refine dS ?_;refine wKn ?_;refine wGS ?_;refine sN 1 ?_;refine sB ?_;refine sN 1 ?_;refine sT ?_;refine sT ?_;refine wXG ?_;refine wU ?_ ?_
      ·simp[ZV,ZA,e1,e2,bQ,hk5]
      ·rw[e3];exact q9
  | false=>
   refine wFG ?_ (hb:=rfl);have ho:cC j r=j.own:=by unfold cC;rw[h1];rfl
   have hnf:¬(aR r.act=true/\(iH j.own r.act.fid=true\/r.act.fid≥0)):=λhh=>by rw[h1] at hh;cases hh.1
   rw[<-ho]
   -- the cw as they are here
   refine wO ?_;refine sN 3 ?_;refine dP rfl rfl z7 w3 ⟨_,func166,by kernel_rfl,rfl⟩ [29,25,26,27] w6 w3 w8 w3 w3 (hfid r.act.fid) z6 w7 ?_;refine sN 3 ?_;refine dP rfl rfl z7 w3 ⟨_,func166,by kernel_rfl,rfl⟩ [29,25,26,27] w6 w3 w8 w3 w3 (hfid r.act.dir) z6 w7 ?_;refine sN 1 ?_;refine sT ?_;refine sN 1 ?_;refine sT ?_;refine wXG ?_
   by_cases hk5:r.act.kind=5
   ·have hT:(if r.act.kind=5 then atF (cC j r) r.act.to else r.act.to)=atF (cC j r) r.act.to:=if_pos hk5;rw[hT] at hst hap;refine wTG ?_ (hb:=WU);refine wP ?_ [29,25,26,27] func166 (hf:=hfid r.act.to);refine wG ?_;refine wP ?_ [29,25,26,27,6] func167 (hf:=hst);refine wG ?_;cases st with
    | true=>
     obtain ⟨e1,e2,e3⟩:=q2 h0 hnf rfl;refine wDT ?_ (hb:=rfl);refine wGS ?_;refine sB ?_;refine sN 1 ?_;refine sT ?_;refine sT ?_;refine wXG ?_;refine wU ?_ ?_
     ·simp[ZV,ZA,e1,e2,bQ,hk5]
     ·rw[e3];exact q9
    | false=>
     refine wFG ?_ (hb:=rfl)
     by_cases hE:E=0
     ·obtain ⟨e1,e2,e3⟩:=q4 h0 hnf rfl hE;subst hE;rw[h1] at e3;simp only[if_true,Bool.false_eq_true,if_false] at hap e3;refine wO ?_;refine sN 9 ?_;refine sC ?_ func109 (hf:=hap);refine sG ?_;refine wXG ?_;refine wDF ?_ (hb:=w8);refine wG ?_ QD Qz;refine wDF ?_ (hb:=w8);refine wG ?_ QD Qz;refine wO ?_;refine sN 2 ?_;refine sB ?_;refine sN 1 ?_;refine sT ?_;refine sT ?_;refine wXG ?_;refine wU ?_ ?_
      ·simp[ZV,ZA,e1,e2,bQ,hk5]
      ·rw[e3];exact q9
     ·obtain ⟨e1,e2,e3⟩:=q3 h0 hnf rfl hE;rw[h1] at e3;simp only[hE,if_true,Bool.false_eq_true,if_false] at hap e3;refine wO ?_;refine sN 9 ?_;refine sC ?_ func109 (hf:=hap);refine sG ?_;refine wXG ?_;refine wTG ?_ (hb:=j9);refine wDF ?_ (hb:=w8);refine wGS ?_;refine sN 1 ?_;refine sB ?_;refine sN 1 ?_;refine sT ?_;refine sT ?_;refine wXG ?_;refine wU ?_ ?_
      ·simp[ZV,ZA,e1,e2,bQ,hk5]
      ·rw[e3];exact q9
   ·have hT:(if r.act.kind=5 then atF (cC j r) r.act.to else r.act.to)=r.act.to:=if_neg hk5;rw[hT] at hst hap;refine wFG ?_ (hb:=WU);refine wP ?_ [29,25,26,27,6] func167 (hf:=hst);refine wG ?_;cases st with
    | true=>
     obtain ⟨e1,e2,e3⟩:=q2 h0 hnf rfl;refine wDT ?_ (hb:=rfl);refine wGS ?_;refine sB ?_;refine sN 1 ?_;refine sT ?_;refine sT ?_;refine wXG ?_;refine wU ?_ ?_
     ·simp[ZV,ZA,e1,e2,bQ,hk5]
     ·rw[e3];exact q9
    | false=>
     refine wFG ?_ (hb:=rfl)
     by_cases hE:E=0
     ·obtain ⟨e1,e2,e3⟩:=q4 h0 hnf rfl hE;subst hE;rw[h1] at e3;simp only[if_true,Bool.false_eq_true,if_false] at hap e3;refine wO ?_;refine sN 9 ?_;refine sC ?_ func109 (hf:=hap);refine sG ?_;refine wXG ?_;refine wDF ?_ (hb:=w8);refine wG ?_ QD Qz;refine wDF ?_ (hb:=w8);refine wG ?_ QD Qz;refine wO ?_;refine sN 2 ?_;refine sB ?_;refine sN 1 ?_;refine sT ?_;refine sT ?_;refine wXG ?_;refine wU ?_ ?_
      ·simp[ZV,ZA,e1,e2,bQ,hk5]
      ·rw[e3];exact q9
     ·obtain ⟨e1,e2,e3⟩:=q3 h0 hnf rfl hE;rw[h1] at e3;simp only[hE,if_true,Bool.false_eq_true,if_false] at hap e3;refine wO ?_;refine sN 9 ?_;refine sC ?_ func109 (hf:=hap);refine sG ?_;refine wXG ?_;refine wTG ?_ (hb:=j9);refine wDF ?_ (hb:=w8);refine wGS ?_;refine sN 1 ?_;refine sB ?_;refine sN 1 ?_;refine sT ?_;refine sT ?_;refine wXG ?_;refine wU ?_ ?_
      ·simp[ZV,ZA,e1,e2,bQ,hk5]
      ·rw[e3];exact q9
theorem ug (m:List (Int×Bool)) (l:List Int) (x:Int):kc m (l++[x])=aV (kc m l) x true:=by
 unfold kc;rw[List.foldl_append];rfl
noncomputable def sd (l:List Node) (next version:Int) (log:List Rec) (i:Nat):JG:=(log.take i).foldl mb (gn l next version)
theorem vX (l:List Node) (next version:Int) {log:List Rec} {i:Nat} (h:i<log.length):sd l next version log (i+1)=mb (sd l next version log i) (log.getD i default):=by
 unfold sd;rw[ZT h,List.foldl_append];rfl
theorem zw {p:List Past} {l:List Node} (h:Hist p l) (next:Int) {log:List Rec} (hl:∀r,r∈log->ActFit r.act) {i:Nat} (hi:i<=log.length):JInv p 0 i next (sd l next ((p.length+1:Nat):Int) log i):=by
 have:=JInv.rC h 0 next (log.take i) (λr hr=>hl r (YJ hr))
 rw[YF,Yu hi] at this;exact this
def jgB (s:JG):List (Nat×Blk):=[(45,.cells 162 2 (s.vs.map ZV)),(72,.cells 49 7 (s.done.map ZA)),(29,.cells 200 6 [ly s.j]),(25,.map (mI s.j.own)),(26,.map (mB s.j.ours)),(27,.map (mB s.j.lost))]
theorem FZ (p:List Past) (l:List Node) (next:Int) (log:List Rec) (h:Hist p l) (hp:p.length<=80000000) (hn:next.natAbs<=80000000) (hlog:SmallL log) (hl2:log.length<=2000000) (hfit:∀r,r∈log->ActFit r.act) :
  ai prog 85 [.sl (l.map ZN),.int .i64 next,.int .i64 ((p.length+1:Nat):Int),.sl (log.map ZR)] []
   (λr _=>r=.tup [.sl ((bM l next ((p.length+1:Nat):Int) log).vs.map ZV),.sl ((bM l next ((p.length+1:Nat):Int) log).done.map ZA),.sl ((bM l next ((p.length+1:Nat):Int) log).j.l.map ZN),.int .i64 (bM l next ((p.length+1:Nat):Int) log).j.next]):=by
 have how:=lI l h.bs.small;have hlo:=kM log hlog;have hfin:bM l next ((p.length+1:Nat):Int) log=sd l next ((p.length+1:Nat):Int) log log.length:=by unfold sd;rw[W7];rfl
 have hinv:=λi=>@zw p l h next log hfit i
 have hsucc:=λi=>@vX l next ((p.length+1:Nat):Int) log i
 have hz:sd l next ((p.length+1:Nat):Int) log 0=gn l next ((p.length+1:Nat):Int):=rfl
 rw[hfin];generalize sd l next ((p.length+1:Nat):Int) log=st at *
 refine wSG func85 ntmps85 results85 λC=>?_
 refine wCg ?_ func66 (hf:=how);refine wCg ?_ func69 (hf:=hlo);refine af (le_empty 72 49 7 z7) ?_;refine af (le_empty 45 162 2 z7) (wn ?_);refine wL log.length (λi=>(13,.osl 45 2 0 (st i).vs.length)::(14,.osl 72 7 0 (st i).done.length)::(16,.any)::(17,.any)::(18,.any)::(20,.any)::(33,.int .i64 i)::u0 34 40 []) (λi=>jgB (st i)) ?_ λi hi=>?_
 ·rw[hz];simp only[gn,jgB,ly,mI,mB];exact wY
 unfold jgB ly;simp only[go_sem];refine wGD (λh=>?_) (λh=>?_)
 ·have hlt:=lt1 h;have hg:=Fam.getD (f:=ZR) hlt;have hv:=hinv i z8;have hf:=hfit _ (YG hlt);have hsc:=hsucc i hlt;clear hinv hsucc;generalize log.getD i default=r at *;have hnx:=hv.next;have hvs:=hv.vlen;have hdl:=hv.len;have hone:=Ls (st i).j r hv.hist.bs hf z8 (by have:=hv.version;omega);have hst:st (i+1)=(if (ku (st i).j r).err=0 then ⟨{ fw (st i).j r with ours:=kc (fw (st i).j r).ours (cw (kr (st i).j r)) },(st i).vs++[ku (st i).j r],(st i).done++[kr (st i).j r]⟩ else ⟨xJ (fw (st i).j r) r.act.fid,(st i).vs++[ku (st i).j r],(st i).done⟩):=by
   rw[hsc];unfold mb ku;rfl
  unfold jH jB ly ZR at hone;clear hsc hv;generalize ku (st i).j r=V at *;generalize kr (st i).j r=A at *;generalize fw (st i).j r=J at *;have hfd:=xt A;have hf3:=fA A;have how':=wi1 (i:=i) z8;refine wGq ?_ ?_ u7
  ·simp[hg,ZR,hlt]
  refine ZZ 16 rfl (rfl) (wn ?_);refine wP ?_ [29,25,26,27] func125 (hf:=hone);refine wGq ?_ ?_ (by simp only[go_sem,ZV,ZA];try exact rfl)
  ·simp[ZV,ZA,rowsOf];omega
  by_cases hE:V.err=0
  ·rw[if_pos hE] at hst;refine wFG ?_ (hb:=j9);unfold ZA at hfd;refine wCg ?_ func126 (hf:=hfd);refine ZL (λk:Nat=>k<=(cw A).length) (λk=>(cw A).length-k) (λk=>(20,.any)::(59,.int .i64 k)::u0 60 9 []) (λk=>[(26,.map (mB (kc J.ours ((cw A).take k))))]) 0 z8 ?_ λk hk=>?_
   ·simp only[go_sem];exact ZU w3 (by simp[go_sem,kc]) w3
   simp only[go_sem];refine wGD (λh=>?_) (λh=>?_)
   ·have hlk:=lt1 h;have hgk:((cw A).map ZI).getD k []=ZI ((cw A).getD k default):=Fam.getD hlk;have htk:kc J.ours ((cw A).take (k+1))=aV (kc J.ours ((cw A).take k)) ((cw A).getD k default) true:=by rw[ZT hlk,ug]
    have hwk:IntKind.i64.wrap ((k:Int)+1)=((k+1:Nat):Int):=by rw[Eng.wrap_small z8 z8];rfl
    generalize (cw A).getD k default=f at *;refine wGq ?_ ?_ Wa
    ·simp[hgk,ZI,hlk,AV.jw,AV.aT]
    exact ZB ⟨k+1,by omega,by omega,ZU w3 j7 w3⟩
   ·have e:k=(cw A).length:=by simp at h;omega
    subst e;refine wGq ?_ ?_ (by simp only[go_sem,ZA,how'];try exact rfl)
    ·simp[ZA,rowsOf];omega
    exact ZB ⟨i+1,by omega,by omega,ZU s7 (by simp[go_sem,hst,jgB,ly,ZV,ZA,W7]) s7⟩
  ·rw[if_neg hE] at hst;refine wDT ?_ (hb:=j9);refine wGS ?_;refine sN 7 ?_;refine sE ?_;refine dS ?_;refine wKn ?_;refine wG ?_ y6 u2;exact ZB ⟨i+1,by omega,by omega,ZU s7 (by simp[go_sem,hst,jgB,ly,xJ,ZV]) s7⟩
 ·obtain rfl:=eq1 hi h;refine wGS ?_;refine sG ?_;refine wXG ?_;refine ZZ 45 rfl (mf _) (wn ?_);refine ZZ 72 rfl (re _) (wn ?_);refine wT ?_;simp
end La
namespace La
open Go Go.Eng
inductive MReach (m:List (Int×Node)) (k:Int):Int->Prop
 | refl:MReach m k k
 | step {x:Int} {n:Node} {e:Entry} (h:MReach m k x) (hn:bl m x=some n) (he:e∈n.entries):MReach m k e.fid
def og (m:List (Int×Node)):List Int:=m.flatMap λp=>p.2.entries.map (·.fid)
theorem E6 {m:List (Int×Node)} {x:Int} {n:Node} {e:Entry} (hn:bl m x=some n) (he:e∈n.entries):e.fid∈og m:=
 List.mem_flatMap.2 ⟨_,df hn,W8.2 ⟨e,he,rfl⟩⟩
def h_ (m:List (Int×Node)) (had:List (Int×Bool)):Nat:=((og m).filter λf=>!(cB had f)).length
theorem Cm {m:List (Int×Node)} {had:List (Int×Bool)} (hr:dQ had) {f:Int} (hf:f∈og m) (h:cB had f=false):h_ m (aV had f true)+1<=h_ m had:=by
 unfold h_;generalize og m=l at hf;have hle:∀l:List Int,(l.filter λx=>!(cB (aV had f true) x)).length<=(l.filter λx=>!(cB had x)).length:=λl=>by
  induction l with
  | nil=>simp
  | cons x r ih=>
   rw[List.filter_cons,List.filter_cons,kF hr]
   by_cases hx:x=f
   ·subst hx;simp[h];omega
   ·simp only[hx,if_false];split<;>(try simp only[List.length_cons])<;>omega
 induction l with
 | nil=>cases hf
 | cons x r ih=>
  rw[List.filter_cons,List.filter_cons,kF hr]
  by_cases hx:x=f
  ·subst hx;have:=hle r;simp[h];omega
  ·have hf2:f∈r:=by
    rcases List.mem_cons.1 hf with h1 | h1
    ·exact absurd h1.symm hx
    ·exact h1
   have:=ih hf2;simp only[hx,if_false];split<;>(try simp only[List.length_cons])<;>omega
structure BI (m:List (Int×Node)) (k:Int) (had:List (Int×Bool)) (T:List Int):Prop where
 rise:dQ had
 sound:∀x,cB had x=true->MReach m k x
 start:cB had k=true
 todo:∀x,x∈T->cB had x=true
 shut:∀x,cB had x=true->x∉T->∀n,bl m x=some n->∀e,e∈n.entries->cB had e.fid=true
 size:T.length+h_ m had<=(og m).length+1
structure BJ (m:List (Int×Node)) (k:Int) (x:Int) (n:Node) (c:Nat) (j:Nat) (had:List (Int×Bool)) (T:List Int):Prop where
 at_:bl m x=some n
 rise:dQ had
 sound:∀x,cB had x=true->MReach m k x
 start:cB had k=true
 todo:∀x,x∈T->cB had x=true
 shut:∀x,cB had x=true->x∉T->∀n,bl m x=some n->∀e,e∈n.entries->cB had e.fid=true
 done:∀e,e∈n.entries.take j->cB had e.fid=true
 head:∃r,T=x::r
 size:T.length+h_ m had<=c
theorem BI.begin (m:List (Int×Node)) (k:Int):BI m k (aV [] k true) [k]:=by
 have hr:dQ ([]:List (Int×Bool)):=List.Pairwise.nil;have hg:∀x,cB (aV [] k true) x=true->x=k:=λx h=>by
  rw[kF hr] at h
  by_cases e:x=k
  ·exact e
  ·rw[if_neg e] at h;cases h
 refine ⟨cn hr,λx h=>by rw[hg x h];exact .refl,by rw[kF hr,if_pos rfl],λx h=>by rw[List.mem_singleton.1 h,kF hr,if_pos rfl],λx h hn=>absurd (List.mem_singleton.2 (hg x h)) hn,?_⟩;have:h_ m (aV [] k true)<=(og m).length:=YB _ _;simp;omega
theorem BI.inner {m:List (Int×Node)} {k:Int} {had:List (Int×Bool)} {x:Int} {r:List Int} (h:BI m k had (x::r)) {n:Node} (hn:bl m x=some n):BJ m k x n ((x::r).length+h_ m had) 0 had (x::r):=
 ⟨hn,h.rise,h.sound,h.start,h.todo,h.shut,λe he=>by simp at he,⟨r,rfl⟩,YA _⟩
theorem BI.none {m:List (Int×Node)} {k:Int} {had:List (Int×Bool)} {x:Int} {r:List Int} (h:BI m k had (x::r)) (hn:bl m x=none):BI m k had r:=
 ⟨h.rise,h.sound,h.start,λy hy=>h.todo y (List.mem_cons_of_mem _ hy),λy hy hno n hmn=>h.shut y hy (λhm=>by
  rcases List.mem_cons.1 hm with rfl | hm
  ·rw[hn] at hmn;cases hmn
  ·exact hno hm) n hmn,by have:=h.size;simp at this;omega⟩
theorem BJ.pop {m:List (Int×Node)} {k x:Int} {n:Node} {c:Nat} {had:List (Int×Bool)} {T:List Int} (h:BJ m k x n c n.entries.length had T) (hc:c<=(og m).length+1) :
  BI m k had (T.drop 1)/\(T.drop 1).length+h_ m had<c:=by
 obtain ⟨r,rfl⟩:=h.head;have hs:=h.size;simp only[List.length_cons] at hs;simp only[List.drop_succ_cons,List.drop_zero];refine ⟨⟨h.rise,h.sound,h.start,λy hy=>h.todo y (List.mem_cons_of_mem _ hy),λy hy hno n' hmn e he=>?_,by omega⟩,by omega⟩
 by_cases hyx:y=x
 ·subst hyx;rw[h.at_] at hmn;injection hmn with hmn;subst hmn
  exact h.done e (by rw[W7];exact he)
 ·exact h.shut y hy (λhm=>by
   rcases List.mem_cons.1 hm with h1 | h1
   ·exact hyx h1
   ·exact hno h1) n' hmn e he
theorem BJ.skip {m:List (Int×Node)} {k x:Int} {n:Node} {c j:Nat} {had:List (Int×Bool)} {T:List Int} (h:BJ m k x n c j had T) (hj:j<n.entries.length) (hb:cB had (n.entries.getD j default).fid=true):BJ m k x n c (j+1) had T:=
 ⟨h.at_,h.rise,h.sound,h.start,h.todo,h.shut,λe he=>by
  rw[ZT hj] at he
  rcases List.mem_append.1 he with he | he
  ·exact h.done e he
  ·rw[List.mem_singleton.1 he];exact hb,h.head,h.size⟩
theorem BJ.add {m:List (Int×Node)} {k x:Int} {n:Node} {c j:Nat} {had:List (Int×Bool)} {T:List Int} (h:BJ m k x n c j had T) (hj:j<n.entries.length) (hb:cB had (n.entries.getD j default).fid=false) :
  BJ m k x n c (j+1) (aV had (n.entries.getD j default).fid true) (T++[(n.entries.getD j default).fid]):=by
 have hmem:n.entries.getD j default∈n.entries:=YG hj;have htk:∀e,e∈n.entries.take (j+1)->e∈n.entries.take j\/e=n.entries.getD j default:=λe he=>by
  rw[ZT hj] at he
  rcases List.mem_append.1 he with he | he
  ·exact .inl he
  ·exact .inr (List.mem_singleton.1 he)
 generalize n.entries.getD j default=f at *;have hg:∀y,cB (aV had f.fid true) y=if y=f.fid then true else cB had y:=kF h.rise f.fid true;have hmono:∀y,cB had y=true->cB (aV had f.fid true) y=true:=λy hy=>by rw[hg];split<;>first | rfl | exact hy
 obtain ⟨r,hr⟩:=h.head;have hx:cB had x=true:=h.todo x (by rw[hr];simp);refine ⟨h.at_,cn h.rise,λy hy=>?_,hmono _ h.start,λy hy=>?_,λy hy hno n' hmn e he=>?_,λe he=>?_,⟨r++[f.fid],by rw[hr];rfl⟩,?_⟩
 ·rw[hg] at hy;split at hy
  ·rename_i e;subst e;exact .step (h.sound x hx) h.at_ hmem
  ·exact h.sound y hy
 ·rcases List.mem_append.1 hy with hy | hy
  ·exact hmono _ (h.todo y hy)
  ·rw[List.mem_singleton.1 hy,hg,if_pos rfl]
 ·rw[hg] at hy;split at hy
  ·rename_i e';exact absurd (YI _ (List.mem_singleton.2 e')) hno
  ·exact hmono _ (h.shut y hy (λhm=>hno (YS _ hm)) n' hmn e he)
 ·rcases htk e he with h1 | h1
  ·exact hmono _ (h.done e h1)
  ·rw[h1,hg,if_pos rfl]
 ·have:=Cm h.rise (E6 h.at_ hmem) hb;have:=h.size;simp only[List.length_append,List.length_cons,List.length_nil];omega
theorem BI.fin {m:List (Int×Node)} {k:Int} {had:List (Int×Bool)} (h:BI m k had []) (x:Int):cB had x=true↔MReach m k x:=by
 refine ⟨h.sound x,λhr=>?_⟩
 induction hr with
 | refl=>exact h.start
 | step hr hn he ih=>exact h.shut _ ih w8 _ hn _ he
end La
