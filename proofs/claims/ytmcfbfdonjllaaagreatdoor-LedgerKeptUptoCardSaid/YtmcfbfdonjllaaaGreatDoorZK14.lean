/- Texts of this claim, part 14: Cach, Cach2, Unl, Maps, PJud, Jud, Jud2, Jud3, PBfs. No condition. -/
import Derived.Test.YtmcfbfdonjllaaaGreatDoorZK13
set_option maxRecDepth 10000
set_option maxHeartbeats 4000000
set_option linter.unusedSimpArgs false
set_option linter.unusedVariables false
namespace La
open Go Go.Eng Go.Proofs
structure SmallK (l:List Kept):Prop where
 len:l.length≤100000000
 each:∀k,k∈l->k.node.Small
theorem SmallK.one {k:Kept} (h:k.node.Small):SmallK [k]:=⟨by simp,λx hx=>by rw[List.mem_singleton.1 hx];exact h⟩
theorem cu {n:Node} (h:n.Small):Small [n]:=⟨by simp,λx hx=>by rw[List.mem_singleton.1 hx];exact h⟩
theorem iF (l:List Kept) (hl:SmallK l):ae Tryz.prog 68 [.sl (l.map ZK)] [] (λr H=>r=.osl 22 8 0 (l.map ZK).length/\∀i b,aa [(22,.cells 138 8 (l.map ZK))] i=some b->aa H i=some b):=by
 have hlen:=hl.len;refine ZF tK (Tryz.func68) rfl (λC=>?_);simp only[Tryz.ntmps68,Tryz.results68,go_sem];refine wG tK ?_;refine ZL (λi:Nat=>i≤l.length) (λi=>l.length-i) (λi=>(3,.osl 22 8 0 i)::(5,.any)::(8,.int .i64 i)::u0 9 16 [])
  (λi=>[(22,.cells 138 8 ((l.take i).map ZK))]) 0 z7 ?_ λi hi=>?_
 ·simp only[go_sem];exact ZU w1 w1 s7
 simp only[go_sem];refine wG tK ?_;refine wD (λh=>?_) (λh=>?_)
 ·have hlt:i<l.length:=by simp at h;omega
  have hn:=hl.each _ (YG hlt);have hg:(l.map ZK).getD i []=ZK (l.getD i default):=Fam.getD hlt;have hs:=cw ZK hlt;generalize l.getD i default=n at hn hg hs;refine wGq tK ?_ ?_ Qa
  ·simp[hlt,ZK]
  refine ZZ 14 rfl (rfl) ?_;simp only[go_sem];refine wC Tryz.func66 (hf:=(jr [n.node] (cu hn))) (hk:=?_);have ht:List.take i (List.map ZK (List.take i l))=List.map ZK (List.take i l):=Zt y9;have hw:IntKind.i64.wrap ((i:Int)+1)=(i:Int)+1:=wrap_small z7 z7;refine wGq tK ?_ ?_ (by simp only[go_sem,ht,hw,ZN];try exact rfl)
  ·simp[rowsOf,ZN];omega
  refine ZB ⟨i+1,by omega,by omega,ZU ?_ ?_ ?_⟩
  ·simp[go_sem]
  ·simp[go_sem,hs,ZK]
  ·simp only[go_sem]
 ·have e:i=l.length:=by simp at h;omega
  subst e;refine wG tK ?_;refine wT ?_;simp[go_sem]
theorem pA (l:List Kept) (hl:SmallK l):ae Tryz.prog 68 [.sl (l.map ZK)] [] (λr _=>r=.sl (l.map ZK)):=ae.read (iF l hl) (bR _)
theorem xM (k:Kept) (fid:Int):ae Tryz.prog 188 [.agg (ZK k),.rp [.int .i64 fid] 0] [] (λr _=>r=.bool (k.node.fid==fid)):=by
 unfold ZK;refine ZF tK (Tryz.func188) rfl (λC=>?_);simp only[Tryz.ntmps188,Tryz.results188,go_sem];refine wG tK ?_;refine wT ?_;simp
def dN (l:List Kept) (fid:Int):Option Nat:=l.findIdx? λk=>k.node.fid==fid
theorem kM (l:List Kept) (fid:Int) (hlen:l.length≤100000000):ae Tryz.prog 157 [.sl (l.map ZK),.int .i64 fid] [] (λr _=>r=.int .i64 (cf (dN l fid))):=by
 refine ZF tK (Tryz.func157) rfl (λC=>?_);simp only[Tryz.ntmps157,Tryz.results157,go_sem];refine wG tK ?_;refine ZZ 3 rfl (rfl) ?_;simp only[go_sem];refine wC Tryz.func119 (hf:=(gr l hlen ⟨_,Go.Proofs.Tryz.func188,by kernel_rfl,rfl⟩ rfl (λx _=>xM x fid))) (hk:=?_);refine wG tK ?_;refine wT ?_;simp[dN]
def B5 (l:List Kept) (fid:Int):Bool:=l.any λk=>k.node.fid==fid
theorem Hb (l:List Kept) (fid:Int) (hlen:l.length≤100000000):ae Tryz.prog 143 [.sl (l.map ZK),.int .i64 fid] [] (λr _=>r=.bool (B5 l fid)):=by
 refine ZF tK (Tryz.func143) rfl (λC=>?_);simp only[Tryz.ntmps143,Tryz.results143,go_sem];refine wG tK ?_;refine wC Tryz.func157 (hf:=(kM l fid hlen)) (hk:=?_);refine wG tK ?_;refine wT ?_;rw[dN,jZ];rfl
theorem zO (k:Kept):ae Tryz.prog 160 [.agg (ZK k)] [] (λr _=>r=.bool k.dirty):=by
 unfold ZK;refine ZF tK (Tryz.func160) rfl (λC=>?_);simp only[Tryz.ntmps160,Tryz.results160,go_sem];refine wG tK ?_;refine wT ?_;simp
theorem BB (l:List Kept) (hl:SmallK l):ae Tryz.prog 114 [.sl (l.map ZK)] [] (λr _=>r=.sl ((l.filter λk=>!k.dirty).map ZK)):=by
 refine ZF tK (Tryz.func114) rfl (λC=>?_);simp only[Tryz.ntmps114,Tryz.results114,go_sem];refine wG tK ?_;refine wCG [] 978 Tryz.func68 (hf:=(iF l hl)) (hk:=?_);refine wG tK ?_;refine wCG [1000] 100 Tryz.func80 (hf:=(fI l hl.len 1000 ⟨_,Go.Proofs.Tryz.func160,by kernel_rfl,rfl⟩ rfl k8 (λx _=>zO x))) (hk:=?_);refine wG tK ?_;refine ZZ 1100 rfl QK ?_;simp only[go_sem];refine wT ?_;have hle:=Z5 (λk:Kept=>!k.dirty) l;generalize l.filter (λk=>!k.dirty)=d at *;rw[if_pos w7,fE w7]
theorem nP {l:List Kept} {fid:Int} {i:Nat} (h:dN l fid=some i):i<l.length:=(Z4.1 h).1
def ux (l:List Kept) (fid now:Int):List Kept:=match dN l fid with
 | none=>l
 | some i=>l.set i { l.getD i default with last:=now }
theorem e_ {M:List Kept} {i:Nat} (h:i<M.length):(M.map ZK).getD i []=[.int .i64 (M.getD i default).node.fid,.bool (M.getD i default).node.dir,.sl ((M.getD i default).node.data.map ZY),.sl ((M.getD i default).node.entries.map ZE),.int .i64 (M.getD i default).node.version,.bool (M.getD i default).dirty,.int .i64 (M.getD i default).worth,.int .i64 (M.getD i default).last]:=by
 rw[Fam.getD h];rfl
theorem gU (M:List Kept) (i:Nat) (n:Kept):(M.map ZK).set i (ZK n)=(M.set i n).map ZK:=by rw[List.map_set]
def db (at_:List Node) (k:Kept):Bool:=!k.dirty&&(!bn at_ k.node.fid||!(((al at_ k.node.fid).getD aC).version==k.node.version))
theorem zV (at_:List Node) (k:Kept) (hat:Small at_):ae Tryz.prog 81 [.agg (ZK k),.rp [.sl (at_.map ZN)] 0] [] (λr _=>r=.bool (db at_ k)):=by
 unfold ZK;refine ZF tK (Tryz.func81) rfl (λC=>?_);simp only[Tryz.ntmps81,Tryz.results81,go_sem];refine wG tK ?_;refine wC Tryz.func82 (hf:=(cA at_ k.node.fid hat)) (hk:=?_);simp only[go_sem,eu];unfold db;generalize (al at_ k.node.fid).getD aC=n;generalize bn at_ k.node.fid=b;refine wGq tK ?_ ?_ w3
 ·simp[ZN];exact λh=>⟨h,λhb=>⟨h,hb⟩⟩
 refine wT ?_;cases k.dirty<;>cases b<;>rfl
theorem qm (l:List Kept) (at_:List Node) (hl:SmallK l) (hat:Small at_):ae Tryz.prog 43 [.sl (l.map ZK),.sl (at_.map ZN)] [] (λr _=>r=.sl ((l.filter λk=>!db at_ k).map ZK)):=by
 refine ZF tK (Tryz.func43) rfl (λC=>?_);simp only[Tryz.ntmps43,Tryz.results43,go_sem];refine wG tK ?_;refine ZZ 3 rfl (rfl) ?_;simp only[go_sem];refine wCG [] 978 Tryz.func68 (hf:=(iF l hl)) (hk:=?_);refine wG tK ?_;refine wCG [1000] 100 Tryz.func80 (hf:=(fI l hl.len 1000 ⟨_,Go.Proofs.Tryz.func81,by kernel_rfl,rfl⟩ (by simp[AV.aX]) k8 (λx _=>zV at_ x hat))) (hk:=?_);refine wG tK ?_;refine ZZ 1100 rfl QK ?_;simp only[go_sem];refine wT ?_;have hle:=Z5 (λk:Kept=>!db at_ k) l;generalize l.filter (λk=>!db at_ k)=d at *;rw[if_pos w7,fE w7]
def jj (f:Nat->Int) (g:Nat->AV):Nat->List (Int×AV)
 | 0=>[]
 | i+1=>bY (jj f g i) (f i) (g i)
theorem jk (f:Nat->Int) (g:Nat->AV):∀i,(jj f g i).Pairwise λa b=>a.1<b.1
 | 0=>List.Pairwise.nil
 | i+1=>dD (jk f g i)
theorem mJ {f:Nat->Int} {g:Nat->AV} {k:Int}:∀{i},(∀j,j<i->f j≠k)->bF (jj f g i) k=none
 | 0,_=>rfl
 | i+1,h=>by
  rw[jj,sM (jk f g i),if_neg (λe=>h i z7 e.symm)];exact mJ λj hj=>h j z7
theorem mK {f:Nat->Int} {g:Nat->AV} {k:Int}:∀{i j},j<i->f j=k->(∀m,j<m->m<i->f m≠k)->bF (jj f g i) k=some (g j)
 | 0,_,h,_,_=>by omega
 | i+1,j,h,he,hl=>by
  rw[jj,sM (jk f g i)]
  by_cases hj:j=i
  ·subst hj;rw[if_pos he.symm]
  ·rw[if_neg (λe=>hl i z7 z7 e.symm)];exact mK z7 he λm h1 h2=>hl m h1 z7
def uX (l:List Kept) (i:Nat):Int:=(l.getD i default).node.fid
def lW (l:List Kept) (n:Nat):Prop:=∀i,i<n->∀j,j<i->uX l j≠uX l i
instance (l:List Kept) (n:Nat):Decidable (lW l n):=by unfold lW;infer_instance
def pH (l:List Kept):Bool:=decide (lW l l.length)
def fH (l:List Node) (i:Nat):Int:=(l.getD i default).fid
def zg (l:List Node) (i:Nat):List (Int×AV):=jj (fH l) (λi=>.agg (ZN (l.getD i default))) i
def Hj (l:List Node):List (Int×AV):=zg l l.length
theorem Ct {l:List Node} (h:Up l) (k:Int):bF (Hj l) k=(al l k).map λn=>.agg (ZN n):=by
 unfold Hj zg;cases e:al l k with
 | none=>
  have hn:=(gp h).1 e;exact mJ λj hj=>hn _ (YG hj)
 | some n=>
  obtain ⟨hm,hf⟩:=(ZO h).1 e;obtain ⟨j,hj⟩:=Z1 hm;have hjl:j<l.length:=(Zu.1 hj).1;have hjd:=i_ hj;rw[mK (j:=j) hjl (by unfold fH;rw[hjd];exact hf) λm h1 h2 h3=>by
   have:=h.lt h1 h2;unfold fH at h3;rw[hjd,hf,h3] at this;omega]
  simp only[Option.map_some,hjd]
theorem kf {α β:Type} (g:α->β):∀(m:List (Int×α)) (f:Int),bF (m.map λp=>(p.1,g p.2)) f=(bF m f).map g
 | [],_=>rfl
 | p::r,f=>by
  simp only[List.map_cons,bF,kf g r f];split<;>rfl
theorem mL {α β:Type} (g:α->β):∀(m:List (Int×α)) (f:Int) (v:α),bY (m.map λp=>(p.1,g p.2)) f (g v)=(bY m f v).map λp=>(p.1,g p.2)
 | [],_,_=>rfl
 | p::r,f,v=>by
  simp only[List.map_cons,bY,mL g r f v];split
  ·rfl
  ·split<;>rfl
theorem Cu {α β:Type} (g:α->β) (m:List (Int×α)) (f:Int):kX (m.map λp=>(p.1,g p.2)) f=(kX m f).map λp=>(p.1,g p.2):=by
 unfold kX;rw[List.filter_map];rfl
def mI (m:List (Int×Int)):List (Int×AV):=m.map λp=>(p.1,.int .i64 p.2)
def mB (m:List (Int×Bool)):List (Int×AV):=m.map λp=>(p.1,.bool p.2)
def eQ (m:List (Int×Bool)) (f:Int):Bool:=(bF m f).getD false
def rN (m:List (Int×Int)) (f:Int):Int:=(bF m f).getD 0
def mz (m:List (Int×Int)) (f:Int):Bool:=(bF m f).isSome
@[go_sem] theorem HX (m:List (Int×Int)) (f:Int):(bF (mI m) f).getD (.int .i64 0)=.int .i64 (rN m f):=by
 unfold mI rN;rw[kf (λx=>AV.int .i64 x)];cases bF m f<;>rfl
@[go_sem] theorem HY (m:List (Int×Int)) (f:Int):(bF (mI m) f).isSome=mz m f:=by
 unfold mI mz;rw[kf (λx=>AV.int .i64 x)];cases bF m f<;>rfl
@[go_sem] theorem HZ (m:List (Int×Int)) (f x:Int):bY (mI m) f (.int .i64 x)=mI (bY m f x):=mL (λx=>AV.int .i64 x) m f x
@[go_sem] theorem HW (m:List (Int×Int)) (f:Int):kX (mI m) f=mI (kX m f):=Cu (λx=>AV.int .i64 x) m f
@[go_sem] theorem HU (m:List (Int×Bool)) (f:Int):(bF (mB m) f).getD (.bool false)=.bool (eQ m f):=by
 unfold mB eQ;rw[kf AV.bool];cases bF m f<;>rfl
@[go_sem] theorem HV (m:List (Int×Bool)) (f:Int) (x:Bool):bY (mB m) f (.bool x)=mB (bY m f x):=mL AV.bool m f x
def mN (m:List (Int×Node)):List (Int×AV):=m.map λp=>(p.1,.agg (ZN p.2))
theorem Hh (m:List (Int×Node)) (k:Int):bF (mN m) k=(bF m k).map λn=>.agg (ZN n):=kf (λn=>AV.agg (ZN n)) m k
theorem Hi (m:List (Int×Node)) (k:Int) (n:Node):bY (mN m) k (.agg (ZN n))=mN (bY m k n):=mL (λn=>AV.agg (ZN n)) m k n
def pJ {α:Type} (m:List (Int×α)):Prop:=m.Pairwise λa b=>a.1<b.1
structure JS where
 l:List Node
 next:Int
 version:Int
 own:List (Int×Int)
 ours:List (Int×Bool)
 lost:List (Int×Bool)
def atF (m:List (Int×Int)) (f:Int):Int:=if mz m f=true then rN m f else f
def gI (j:JS) (a:Act):Bool:=(eW a).any (eQ j.lost)
def kC (j:JS) (r:Rec) (a:Act):Bool:=
 if ((a.kind≠3/\a.kind≠4)\/r.version<0)\/eQ j.ours a.fid=true then false
 else match al j.l a.fid with
  | none=>true
  | some n=>n.version != r.version
def ef (j:JS) (r:Rec):List (Int×Int):=if bd r.act=true then bY j.own r.act.fid j.next else j.own
def cZ (j:JS) (r:Rec):Act:={ r.act with fid:=atF (ef j r) r.act.fid,dir:=atF (ef j r) r.act.dir,to:=if r.act.kind=5 then atF (ef j r) r.act.to else r.act.to }
noncomputable def ph (j:JS) (r:Rec):Int:=
 if gI j r.act=true then 14
 else if bd r.act=true/\(mz j.own r.act.fid=true\/r.act.fid≥0) then 2
 else if kC { j with own:=ef j r } r (cZ j r)=true then 13
 else aO j.l (cZ j r)
noncomputable def eM (j:JS) (r:Rec):JS:=
 if gI j r.act=true then j
 else if bd r.act=true/\(mz j.own r.act.fid=true\/r.act.fid≥0) then j
 else if kC { j with own:=ef j r } r (cZ j r)=true then { j with own:=ef j r }
 else if aO j.l (cZ j r)≠0 then { j with own:=if bd r.act=true then kX (ef j r) r.act.fid else ef j r }
 else { j with l:=aQ j.l (cZ j r) j.version,next:=if bd r.act=true then j.next+1 else j.next,version:=j.version+1,own:=ef j r }
def jm (j:JS) (r:Rec):Act:=
 if gI j r.act=true then r.act
 else if bd r.act=true/\(mz j.own r.act.fid=true\/r.act.fid≥0) then r.act
 else cZ j r
noncomputable def gy (j:JS) (r:Rec):Verdict:=⟨ph j r,if ph j r=0 then (cZ j r).fid else 0⟩
structure JG where
 j:JS
 vs:List Verdict
 done:List Act
def Hf (j:JS) (f:Int):JS:={ j with lost:=bY j.lost f true }
def mO (m:List (Int×Bool)) (l:List Int):List (Int×Bool):=l.foldl (λm f=>bY m f true) m
noncomputable def jF (s:JG) (r:Rec):JG:=
 if ph s.j r=0 then ⟨{ eM s.j r with ours:=mO (eM s.j r).ours (eW (jm s.j r)) },s.vs++[gy s.j r],s.done++[jm s.j r]⟩
 else ⟨Hf (eM s.j r) r.act.fid,s.vs++[gy s.j r],s.done⟩
def im (l:List Node) (next version:Int):JG:=⟨⟨l,next,version,[],[],[]⟩,[],[]⟩
noncomputable def bX (l:List Node) (next version:Int) (log:List Rec):JG:=log.foldl jF (im l next version)
noncomputable def kD (s:Srv) (c:Int) (log:List Rec):Srv:=
 ⟨(bX s.tree s.next ((s.past.length+1:Nat):Int) log).j.l,(bX s.tree s.next ((s.past.length+1:Nat):Int) log).j.next,s.past++(bX s.tree s.next ((s.past.length+1:Nat):Int) log).done.map λa=>⟨c,a⟩⟩
inductive Hist:List Past->List Node->Prop
 | nil:Hist [] [eT]
 | snoc {p:List Past} {t:List Node} (c:Int) (a:Act) (h:Hist p t) (ha:ActFit a) (he:aO t a=0):Hist (p++[⟨c,a⟩]) (aQ t a ((p.length+1:Nat):Int))
theorem Hist.bW {p:List Past} {t:List Node} (h:Hist p t):Good t:=by
 induction h with
 | nil=>exact sr
 | snoc c a h ha he ih=>exact ja ih _ _ he
theorem Hist.st {p:List Past} {t:List Node} (h:Hist p t):∃st:Nat->List Node,st 0=[eT]/\st p.length=t /\
  ∀i,i<p.length->Good (st i)/\ActFit (p.getD i default).act/\aO (st i) (p.getD i default).act=0/\st (i+1)=aQ (st i) (p.getD i default).act ((i+1:Nat):Int):=by
 induction h with
 | nil=>exact ⟨λ_=>[eT],rfl,rfl,λi hi=>by simp at hi⟩
 | @snoc p t c a h ha he ih=>
  obtain ⟨st,h0,h1,h2⟩:=ih;refine ⟨λi=>if i≤p.length then st i else aQ t a ((p.length+1:Nat):Int),?_,?_,λi hi=>?_⟩
  ·simp[h0]
  ·show (if (p++[(⟨c,a⟩:Past)]).length≤p.length then _ else _)=_
   rw[if_neg w7]
  ·have hl:(p++[(⟨c,a⟩:Past)]).length=p.length+1:=by simp
   rw[hl] at hi
   by_cases e:i<p.length
   ·have hg:(p++[(⟨c,a⟩:Past)]).getD i default=p.getD i default:=by
     rw[Zo,WC e,Zo]
    rw[hg];simp only[show i≤p.length by omega,if_true,show i+1≤p.length by omega];exact h2 i e
   ·have e2:i=p.length:=by omega
    subst e2;have hg:(p++[(⟨c,a⟩:Past)]).getD p.length default=⟨c,a⟩:=by
     rw[Zo,Z8 (Zw _)];simp
    rw[hg];simp only[Zw,if_true,show ¬p.length+1≤p.length by omega,if_false,h1];exact ⟨h.bW,ha,he,trivial⟩
theorem uC {j:JS} {r:Rec} (h:ActFit r.act):ActFit (cZ j r):=⟨h.name,h.toName,h.data⟩
structure JInv (p:List Past) (c:Int) (k:Nat) (n0:Int) (s:JG):Prop where
 hist:Hist (p++s.done.map λa=>⟨c,a⟩) s.j.l
 version:s.j.version=((p.length+s.done.length+1:Nat):Int)
 len:s.done.length≤k
 vlen:s.vs.length=k
 next:n0≤s.j.next/\s.j.next≤n0+k
theorem JInv.step {p:List Past} {c:Int} {k:Nat} {n0:Int} {s:JG} (h:JInv p c k n0 s) {r:Rec} (hr:ActFit r.act):JInv p c (k+1) n0 (jF s r):=by
 unfold jF;have h1:=h.next;have h2:=h.len;have h3:=h.vlen
 by_cases he:ph s.j r=0
 ·rw[if_pos he];unfold ph at he;split at he
  ·omega
  ·rename_i c1;split at he
   ·omega
   ·rename_i c2;split at he
    ·omega
    ·rename_i c3;have hJ:eM s.j r={ s.j with l:=aQ s.j.l (cZ s.j r) s.j.version,next:=if bd r.act=true then s.j.next+1 else s.j.next,version:=s.j.version+1,own:=ef s.j r }:=by
      unfold eM;rw[if_neg c1,if_neg c2,if_neg c3,if_neg QG]
     have hA:jm s.j r=cZ s.j r:=by unfold jm;rw[if_neg c1,if_neg c2]
     rw[hJ,hA];refine ⟨?_,?_,?_,?_,?_⟩
     ·have:=Hist.snoc c (cZ s.j r) h.hist (uC hr) he;rw[List.length_append,List.length_map,←h.version] at this;simpa using this
     ·have:=h.version;simp only[List.length_append,List.length_cons,List.length_nil];omega
     ·simp only[List.length_append,List.length_cons,List.length_nil];omega
     ·simp only[List.length_append,List.length_cons,List.length_nil];omega
     ·simp only;split<;>omega
 ·rw[if_neg he];have hJ:(eM s.j r).l=s.j.l/\(eM s.j r).next=s.j.next/\(eM s.j r).version=s.j.version:=by
   unfold eM;unfold ph at he;split
   ·exact ⟨rfl,rfl,rfl⟩
   ·rename_i c1;rw[if_neg c1] at he;split
    ·exact ⟨rfl,rfl,rfl⟩
    ·rename_i c2;rw[if_neg c2] at he;split
     ·exact ⟨rfl,rfl,rfl⟩
     ·rename_i c3;rw[if_neg c3] at he;rw[if_pos he];exact ⟨rfl,rfl,rfl⟩
  obtain ⟨j1,j2,j3⟩:=hJ;refine ⟨?_,?_,?_,?_,?_⟩
  ·show Hist _ (eM s.j r).l
   rw[j1];exact h.hist
  ·show (eM s.j r).version=_
   rw[j3];exact h.version
  ·show s.done.length≤k+1;omega
  ·simp only[List.length_append,List.length_cons,List.length_nil];omega
  ·show n0≤(eM s.j r).next/\(eM s.j r).next≤n0+((k+1:Nat):Int)
   rw[j2];omega
theorem JInv.start {p:List Past} {t:List Node} (h:Hist p t) (c n0:Int):JInv p c 0 n0 (im t n0 ((p.length+1:Nat):Int)):=
 ⟨by simpa[im] using h,by simp[im],by simp[im],by simp[im],by simp[im]⟩
theorem JInv.qz {p:List Past} {t:List Node} (h:Hist p t) (c n0:Int) (log:List Rec) (hl:∀r,r∈log->ActFit r.act):JInv p c log.length n0 (bX t n0 ((p.length+1:Nat):Int) log):=by
 have key:∀(l:List Rec) (k:Nat) (s:JG),(∀r,r∈l->ActFit r.act)->JInv p c k n0 s->JInv p c (k+l.length) n0 (l.foldl jF s):=λl=>by
  induction l with
  | nil=>exact λk s _ h=>h
  | cons r l ih=>
   intro k s hl h;have:=ih (k+1) (jF s r) (λx hx=>hl x (List.mem_cons_of_mem _ hx)) (h.step (hl r List.mem_cons_self));rw[List.foldl_cons,List.length_cons,show k+(l.length+1)=k+1+l.length by omega];exact this
 have:=key log 0 _ hl (JInv.start h c n0)
 rwa [WK] at this
structure SrvOK (k:Nat) (s:Srv):Prop where
 hist:Hist s.past s.tree
 len:s.past.length≤k
 next:1≤s.next/\s.next≤1+k
theorem SrvOK.new:SrvOK 0 ⟨[eT],1,[]⟩:=⟨.nil,by simp,by simp⟩
theorem SrvOK.mono {k m:Nat} {s:Srv} (h:SrvOK k s) (hk:k≤m):SrvOK m s:=⟨h.hist,by have:=h.len;omega,by have:=h.next;omega⟩
theorem SrvOK.step {k:Nat} {s:Srv} (h:SrvOK k s) (c:Int) {a:Act} (ha:ActFit a) (he:doE s a=0):SrvOK (k+1) (doS s c a):=by
 have h1:=h.len;have h2:=h.next;have hf:ActFit (doA s a):=by unfold doA;split;exact ⟨ha.name,ha.toName,ha.data⟩;exact ha
 refine ⟨Hist.snoc c _ h.hist hf he,by simp[doS];omega,?_⟩
 show 1≤(if bd a=true then s.next+1 else s.next)/\(if bd a=true then s.next+1 else s.next)≤1+((k+1:Nat):Int)
 split<;>omega
theorem SrvOK.take {k:Nat} {s:Srv} (h:SrvOK k s) (c:Int) {log:List Rec} (hl:∀r,r∈log->ActFit r.act):SrvOK (k+log.length) (kD s c log):=by
 have h1:=h.len;have h2:=h.next;have hj:=JInv.qz h.hist c s.next log hl;have h3:=hj.len;have h4:=hj.next;exact ⟨hj.hist,by simp only[kD,List.length_append,List.length_map];omega,by show 1≤(bX s.tree s.next _ log).j.next/\(bX s.tree s.next _ log).j.next≤_;omega⟩
def jf (j:JS):List AV:=[.sl (j.l.map ZN),.int .i64 j.next,.int .i64 j.version,.mp 25,.mp 26,.mp 27]
def jB (j:JS):List (Nat×Blk):=[(29,.cells 200 6 [jf j]),(27,.map (mB j.lost)),(26,.map (mB j.ours)),(25,.map (mI j.own))]
def jH (j:JS) (G Y N:Nat->Nat):List (Nat×Blk):=jB j++pins [29,25,26,27] G Y N
def jcH (j:JS) (G Y N:Nat->Nat):List (Nat×Blk):=([(2,.cells 198 1 [[.ptr 29 6 0 0]])]++jB j)++pins [29,25,26,27,2] G Y N
def jaH (j:JS) (a:Act) (G Y N:Nat->Nat):List (Nat×Blk):=([(6,.cells 49 7 [ZA a])]++jB j)++pins [29,25,26,27,6] G Y N
def Holds (L H:List (Nat×Blk)):Prop:=∀i b,aa L i=some b->aa H i=some b
theorem YH (H:List (Nat×Blk)):Holds [] H:=λ_ _ h=>nomatch h
theorem ZH {L H:List (Nat×Blk)} {k:Nat} {B:Blk} (h:aa H k=some B) (hL:Holds L H):Holds ((k,B)::L) H:=λi b hb=>by
 simp only[aa] at hb;split at hb
 ·rename_i e;subst e;rw[h];exact hb
 ·exact hL i b hb
theorem G9 (j:JS) (f:Int) (G Y N:Nat->Nat):ae Tryz.prog 166 [.ptr 29 6 0 0,.int .i64 f] (jH j G Y N) (λr H=>r=.int .i64 (atF j.own f)/\Holds (jH j G Y N) H):=by
 unfold jH jB jf atF;refine ZF tK (Tryz.func166) rfl (λC=>?_);simp only[Tryz.ntmps166,Tryz.results166,go_sem];refine wR ?_;refine wN tK 1 ?_;refine wR ?_;refine wN tK 5 ?_;refine wG tK ?_;cases e:mz j.own f with
 | true=>
  refine wDT (hb:=(by simp[e])) (hk:=?_);refine wG tK ?_;refine wT ?_;exact ⟨rfl,λi b hb=>hb⟩
 | false=>
  refine wDF (hb:=(by simp[e])) (hk:=?_);refine wG tK ?_;refine wT ?_;exact ⟨rfl,λi b hb=>hb⟩
theorem ET (j:JS) (f:Int) (G Y N:Nat->Nat):ae Tryz.prog 193 [.int .i64 f,.ptr 2 1 0 0] (jcH j G Y N) (λr H=>r=.bool (eQ j.lost f)/\Holds (jcH j G Y N) H):=by
 unfold jcH jB jf;refine ZF tK (Tryz.func193) rfl (λC=>?_);simp only[Tryz.ntmps193,Tryz.results193,go_sem];refine wG tK ?_;refine wT ?_;exact ⟨rfl,λi b hb=>hb⟩
theorem xS (j:JS) (l:List Int) (hlen:l.length≤100000000) (G Y N:Nat->Nat):ae Tryz.prog 219 [.sl (l.map ZI),.fn 193 [.ptr 2 1 0 0]] (jcH j G Y N)
  (λr H=>r=.int .i64 (cf (l.findIdx? (eQ j.lost)))/\Holds (jcH j G Y N) H):=by
 unfold jcH jB jf;refine ZF tK (Tryz.func219) rfl (λC=>?_);simp only[Tryz.ntmps219,Tryz.results219,go_sem];refine wG tK ?_;refine ZL (λi:Nat=>i≤l.length/\∀x,x∈l.take i->eQ j.lost x=false) (λi=>l.length-i) (λi=>(8,.int .i64 i)::(5,.any)::u0 9 10 []) (λ_=>[]) 0 ⟨by omega,by simp⟩ ?_ λi hi=>?_
 ·simp only[go_sem];exact ZU w1 w1 w1
 obtain ⟨hi,hno⟩:=hi;simp only[go_sem];refine wG tK ?_;refine wD (λh=>?_) (λh=>?_)
 ·have hlt:i<l.length:=by simp at h;omega
  have hg:(l.map ZI).getD i []=ZI (l.getD i default):=Fam.getD hlt;have htk:=ZT hlt;have hgi:l[i]? = some (l.getD i default):=by rw[Zo,Zp hlt];rfl
  have hc:=ET j (l.getD i default);unfold jcH jB jf at hc;generalize l.getD i default=n at hg htk hgi hc;refine wGq tK ?_ ?_ (by simp only[go_sem,hg,ZI];try exact rfl)
  ·simp[hlt,ZI]
  refine wP [29,25,26,27,2] Tryz.func193 (hf:=(hc)) (hk:=?_);refine wG tK ?_;refine wD (λh=>?_) (λh=>?_)
  ·refine wG tK ?_;refine wU ?_ ?_
   ·rw[di hgi hno h];rfl
   ·exact q9
  ·have hw:IntKind.i64.wrap ((i:Int)+1)=(i:Int)+1:=wrap_small z7 z7;refine wG tK ?_ w6 k0;refine ZB ⟨i+1,⟨by omega,?_⟩,by omega,ZU ?_ ?_ ?_⟩
   ·rw[htk];intro x hx
    rcases List.mem_append.1 hx with hx | hx
    ·exact hno x hx
    ·rw[List.mem_singleton.1 hx];exact h
   ·simp[go_sem]
   ·simp[go_sem]
   ·simp[go_sem]
 ·have e:i=l.length:=by simp at h;omega
  refine wG tK ?_;refine wU ?_ ?_
  ·rw[e,Zy] at hno;rw[Z6.2 hno];rfl
  ·exact q9
theorem xR (j:JS) (l:List Int) (hlen:l.length≤100000000) (G Y N:Nat->Nat):ae Tryz.prog 192 [.sl (l.map ZI),.fn 193 [.ptr 2 1 0 0]] (jcH j G Y N)
  (λr H=>r=.bool (l.any (eQ j.lost))/\Holds (jcH j G Y N) H):=by
 have hc:=xS j l hlen;unfold jcH jB jf at hc ⊢;refine ZF tK (Tryz.func192) rfl (λC=>?_);simp only[Tryz.ntmps192,Tryz.results192,go_sem];refine wG tK ?_;refine wP [29,25,26,27,2] Tryz.func219 (hf:=(hc)) (hk:=?_);refine wG tK ?_;refine wU ?_ ?_
 ·rw[jZ]
 ·exact q9
theorem CY (j:JS) (a:Act) (G Y N:Nat->Nat):ae Tryz.prog 165 [.ptr 29 6 0 0,.ptr 6 7 0 0] (jaH j a G Y N) (λr H=>r=.bool (gI j a)/\Holds (jaH j a G Y N) H):=by
 have hc:=xR j (eW a) (by have:=qf a;omega);have hf:=tJ a;unfold gI;generalize (eW a).any (eQ j.lost)=z at hc ⊢;generalize eW a=l at hc hf;unfold jcH jB jf at hc;unfold ZA at hf;unfold jaH jB jf ZA;refine ZF tK (Tryz.func165) rfl (λC=>?_);simp only[Tryz.ntmps165,Tryz.results165,go_sem];refine wG tK ?_;refine wC Tryz.func126 (hf:=(hf)) (hk:=?_);refine wG tK ?_;refine wP [29,25,26,27,2] Tryz.func192 (hf:=(hc)) (hk:=?_);refine wG tK ?_;refine wU ?_ ?_
 ·rfl
 ·exact q9
theorem C_ (j:JS) (r:Rec) (a:Act) (hl:Small j.l) (G Y N:Nat->Nat):ae Tryz.prog 167 [.ptr 29 6 0 0,.rp (ZR r) 0,.ptr 6 7 0 0] (jaH j a G Y N) (λx H=>x=.bool (kC j r a)/\Holds (jaH j a G Y N) H):=by
 have hf:=cA j.l a.fid hl;unfold kC;unfold jaH jB jf ZA ZR;refine ZF tK (Tryz.func167) rfl (λC=>?_);simp only[Tryz.ntmps167,Tryz.results167,go_sem];refine wG tK ?_;refine ZW ZM ?_;refine ZS rfl ?_;refine sN tK 12 ?_;refine dU 20 z6 (λc20 h20=>?_);simp only[go_sem];refine sN tK 7 ?_;refine dU 27 z6 (λc27 h27=>?_);simp only[go_sem];refine sG tK ?_;refine sE ?_;refine wKd ?_
 try simp only[go_sem,gA,gB,gC]
 refine wR ?_;refine aV 38 z6 (λc38 h38=>?_);simp only[go_sem];have hst:(((a.kind≠3/\a.kind≠4)\/r.version<0)\/eQ j.ours a.fid=true)↔c38=true:=by
  subst h38 h27 h20;simp[eG,mi]
 clear h38 h27 h20;cases c38 with
 | true=>
  rw[if_pos (hst.2 rfl)];refine wDT (hb:=(rfl)) (hk:=?_);refine wG tK ?_;refine wU ?_ ?_
  ·rfl
  ·exact q9
 | false=>
  rw[if_neg (λh=>nomatch hst.1 h)];refine wDF (hb:=(rfl)) (hk:=?_);refine wG tK ?_;refine ZW ZM ?_;refine ZS rfl ?_;refine sN tK 8 ?_;refine sC Tryz.func82 (hf:=(hf)) (hk:=?_);simp only[go_sem,eu];rw[dd];cases al j.l a.fid with
  | none=>
   simp only[Option.getD_none,Option.isSome_none];refine sG tK ?_;refine sW tK ?_;simp only[go_sem,ZN,aC];refine sT tK ?_;refine sE ?_;refine dS tK ?_;refine wKd ?_
   try simp only[go_sem,gA,gB,gC]
   refine wG tK ?_;refine ZW ZM ?_;refine ZS rfl ?_;refine sG tK ?_;refine sE ?_;refine wKd ?_
   try simp only[go_sem,gA,gB,gC]
   refine wG tK ?_;refine wU ?_ ?_
   ·rfl
   ·exact q9
  | some n=>
   simp only[Option.getD_some,Option.isSome_some];refine sG tK ?_;refine sW tK ?_;simp only[go_sem,ZN];refine sT tK ?_;refine sE ?_;refine dS tK ?_;refine wKd ?_
   try simp only[go_sem,gA,gB,gC]
   refine wG tK ?_;refine ZW ZM ?_;refine ZS rfl ?_;refine sG tK ?_;refine sE ?_;refine wKd ?_
   try simp only[go_sem,gA,gB,gC]
   refine wG tK ?_;refine wU ?_ ?_
   ·rfl
   ·exact q9
theorem AA {j:JS} {r:Rec} (h:gI j r.act=true):gy j r=⟨14,0⟩/\jm j r=r.act/\eM j r=j:=by
 simp[gy,jm,eM,ph,h]
theorem CJ {j:JS} {r:Rec} (h:gI j r.act=false) (h1:bd r.act=true) (h2:mz j.own r.act.fid=true\/r.act.fid≥0):gy j r=⟨2,0⟩/\jm j r=r.act/\eM j r=j:=by
 simp[gy,jm,eM,ph,h,h1,h2]
theorem AB {j:JS} {r:Rec} (h:gI j r.act=false) (h1:¬(bd r.act=true/\(mz j.own r.act.fid=true\/r.act.fid≥0))) (h2:kC { j with own:=ef j r } r (cZ j r)=true) :
  gy j r=⟨13,0⟩/\jm j r=cZ j r/\eM j r={ j with own:=ef j r }:=by
 simp[gy,jm,eM,ph,h,h1,h2]
theorem E8 {j:JS} {r:Rec} (h:gI j r.act=false) (h1:¬(bd r.act=true/\(mz j.own r.act.fid=true\/r.act.fid≥0))) (h2:kC { j with own:=ef j r } r (cZ j r)=false) (h3:aO j.l (cZ j r)≠0) :
  gy j r=⟨aO j.l (cZ j r),0⟩/\jm j r=cZ j r/\eM j r={ j with own:=if bd r.act=true then kX (ef j r) r.act.fid else ef j r }:=by
 simp[gy,jm,eM,ph,h,h1,h2,h3]
theorem CI {j:JS} {r:Rec} (h:gI j r.act=false) (h1:¬(bd r.act=true/\(mz j.own r.act.fid=true\/r.act.fid≥0))) (h2:kC { j with own:=ef j r } r (cZ j r)=false) (h3:aO j.l (cZ j r)=0) :
  gy j r=⟨0,(cZ j r).fid⟩/\jm j r=cZ j r/\eM j r={ j with l:=aQ j.l (cZ j r) j.version,next:=if bd r.act=true then j.next+1 else j.next,version:=j.version+1,own:=ef j r }:=by
 simp[gy,jm,eM,ph,h,h1,h2,h3]
theorem Hm (j:JS) (r:Rec) (hg:Good j.l) (hr:ActFit r.act) (hn:j.next.natAbs≤90000000) (hv:j.version.natAbs≤90000000) (G Y N:Nat->Nat):ae Tryz.prog 125 [.ptr 29 6 0 0,.rp (ZR r) 0] (jH j G Y N)
  (λx H=>x=.tup [.agg (ZV (gy j r)),.agg (ZA (jm j r))]/\Holds (jH (eM j r) G Y N) H):=by
 have how:=jG r.act hr.data;have hre:=CY j r.act;have q0:=@AA j r;have q1:=@CJ j r;have q2:=@AB j r;have q3:=@E8 j r;have q4:=@CI j r;have hfid:∀f (G Y N:Nat->Nat),ae Tryz.prog 166 [.ptr 29 6 0 0,.int .i64 f] (jH { j with own:=ef j r } G Y N) (λx H=>x=.int .i64 (atF (ef j r) f)/\Holds (jH { j with own:=ef j r } G Y N) H):=λf=>G9 { j with own:=ef j r } f
 unfold jH jB jf at hfid;simp only at hfid;have hst:=C_ { j with own:=ef j r } r (cZ j r) hg.small;have hap:=iT hg (cZ j r) j.version (uC hr);have hwn:IntKind.i64.wrap (j.next+1)=j.next+1:=Eng.wrap_small z7 z7;have hwv:IntKind.i64.wrap (j.version+1)=j.version+1:=Eng.wrap_small z7 z7;unfold jaH jB jf at hst;unfold ll at hap;generalize kC { j with own:=ef j r } r (cZ j r)=st at *;generalize aO j.l (cZ j r)=E at *;generalize aQ j.l (cZ j r) j.version=L at *;simp only[ZA,cZ] at hst hap;generalize gy j r=V at *;generalize jm j r=A at *;generalize eM j r=J at *;unfold jaH jB jf ZA at hre;unfold ZA at how;unfold jH jB jf ZR;refine ZF tK (Tryz.func125) rfl (λC=>?_);simp only[Tryz.ntmps125,Tryz.results125,go_sem];refine wG tK ?_;refine wC Tryz.func67 (hf:=(how)) (hk:=?_);refine wG tK ?_;refine wP [29,25,26,27,6] Tryz.func165 (hf:=(hre)) (hk:=?_);cases h0:gI j r.act with
 | true=>
  obtain ⟨e1,e2,e3⟩:=q0 h0;refine wG tK ?_;refine wDT (hb:=(rfl)) (hk:=?_);refine wG tK ?_;refine ZW ZM ?_;refine ZS rfl ?_;refine sB tK ?_;refine sN tK 1 ?_;refine sT tK ?_;refine sT tK ?_;refine sE ?_;refine wKd ?_
  try simp only[go_sem,gA,gB,gC]
  refine wG tK ?_;refine wU ?_ ?_
  ·simp[ZV,ZA,e1,e2]
  ·rw[e3];simp only[pins,List.cons_append,List.nil_append,List.map_cons,List.map_nil]
   repeat' refine ZH ?_ ?_
   all_goals first | exact YH _ | rfl | simp[go_sem]
 | false=>
  clear q0;refine wG tK ?_;refine wDF (hb:=(rfl)) (hk:=?_);refine wR ?_;refine wN tK 8 ?_;refine aV 28 z6 (λc28 h28=>?_);simp only[go_sem];have h28':c28=bd r.act:=by rw[←h28,mi];rfl
  clear h28;subst h28';refine wG tK ?_;cases h1:bd r.act with
  | true=>
   refine wDT (hb:=(rfl)) (hk:=?_);refine wG tK ?_;refine ZW ZM ?_;refine ZS rfl ?_;refine sG tK ?_;refine sE ?_;refine wKd ?_
   try simp only[go_sem,gA,gB,gC]
   refine wG tK ?_;cases h2:(mz j.own r.act.fid||decide (r.act.fid≥0)) with
   | true=>
    obtain ⟨e1,e2,e3⟩:=q1 h0 h1 Q9;refine wDT (hb:=(by simpa[mi] using h2)) (hk:=?_);refine wG tK ?_;refine ZW ZM ?_;refine ZS rfl ?_;refine sB tK ?_;refine sN tK 1 ?_;refine sT tK ?_;refine sT tK ?_;refine sE ?_;refine wKd ?_
    try simp only[go_sem,gA,gB,gC]
    refine wG tK ?_;refine wU ?_ ?_
    ·simp[ZV,ZA,e1,e2]
    ·rw[e3];simp only[pins,List.cons_append,List.nil_append,List.map_cons,List.map_nil]
     repeat' refine ZH ?_ ?_
     all_goals first | exact YH _ | rfl | simp[go_sem]
   | false=>
    refine wDF (hb:=(by simpa[mi] using h2)) (hk:=?_);refine wG tK ?_;refine ZW ZM ?_;refine ZS rfl ?_;refine sN tK 10 ?_;refine sE ?_;refine dS tK ?_;refine wKd ?_
    try simp only[go_sem,gA,gB,gC]
    refine wG tK ?_;have ho:ef j r=bY j.own r.act.fid j.next:=by unfold ef;rw[if_pos h1]
    rw[←ho];have hnf:¬(bd r.act=true/\(mz j.own r.act.fid=true\/r.act.fid≥0)):=λhh=>by
     have:=hh.2;simp only[Bool.or_eq_false_iff,decide_eq_false_iff_not] at h2
     rcases this with h | h
     ·rw[h2.1] at h;cases h
     ·exact h2.2 h
    clear h2;have hk5:¬r.act.kind=5:=λe=>by simp[bd,e] at h1
    have hT:(if r.act.kind=5 then atF (ef j r) r.act.to else r.act.to)=r.act.to:=if_neg hk5;rw[hT] at hst hap
    -- the eW as they are here
    refine ZW ZM ?_;refine ZS rfl ?_;refine sN tK 3 ?_;refine fe rfl rfl z8 w1 ⟨_,Tryz.func166,by kernel_rfl,rfl⟩ [29,25,26,27] w4 w1 w7 w1 w1 (hfid r.act.fid) z6 w5 ?_;refine sN tK 3 ?_;refine fe rfl rfl z8 w1 ⟨_,Tryz.func166,by kernel_rfl,rfl⟩ [29,25,26,27] w4 w1 w7 w1 w1 (hfid r.act.dir) z6 w5 ?_;refine sN tK 1 ?_;refine sT tK ?_;refine sN tK 1 ?_;refine sT tK ?_;refine sE ?_;refine wKd ?_
    try simp only[go_sem,gA,gB,gC]
    refine wG tK ?_;refine wDF (hb:=(by simp[hk5])) (hk:=?_);refine wG tK ?_;refine wP [29,25,26,27,6] Tryz.func167 (hf:=(hst)) (hk:=?_);refine wG tK ?_;cases st with
    | true=>
     obtain ⟨e1,e2,e3⟩:=q2 h0 hnf rfl;refine wDT (hb:=(rfl)) (hk:=?_);refine wG tK ?_;refine ZW ZM ?_;refine ZS rfl ?_;refine sB tK ?_;refine sN tK 1 ?_;refine sT tK ?_;refine sT tK ?_;refine sE ?_;refine wKd ?_
     try simp only[go_sem,gA,gB,gC]
     refine wG tK ?_;refine wU ?_ ?_
     ·simp[ZV,ZA,e1,e2,cZ,hk5]
     ·rw[e3];simp only[pins,List.cons_append,List.nil_append,List.map_cons,List.map_nil]
      repeat' refine ZH ?_ ?_
      all_goals first | exact YH _ | rfl | simp[go_sem]
    | false=>
     refine wDF (hb:=(rfl)) (hk:=?_);refine wG tK ?_
     by_cases hE:E=0
     ·obtain ⟨e1,e2,e3⟩:=q4 h0 hnf rfl hE;subst hE;rw[h1] at e3;simp only[if_true,Bool.false_eq_true,if_false] at hap e3;refine ZW ZM ?_;refine ZS rfl ?_;refine sN tK 9 ?_;refine sC Tryz.func109 (hf:=(hap)) (hk:=?_);refine sG tK ?_;refine sE ?_;refine wKd ?_
      try simp only[go_sem,gA,gB,gC]
      refine wG tK ?_;refine wDF (hb:=w7) (hk:=?_);refine wG tK ?_ u9 QP;refine wDT (hb:=w7) (hk:=?_);refine wG tK ?_ u9 QP;refine ZW ZM ?_;refine ZS rfl ?_;refine sN tK 2 ?_;refine sB tK ?_;refine sN tK 1 ?_;refine sT tK ?_;refine sT tK ?_;refine sE ?_;refine wKd ?_
      try simp only[go_sem,gA,gB,gC]
      refine wG tK ?_;refine wU ?_ ?_
      ·simp[ZV,ZA,e1,e2,cZ,hk5]
      ·rw[e3];simp only[pins,List.cons_append,List.nil_append,List.map_cons,List.map_nil]
       repeat' refine ZH ?_ ?_
       all_goals first | exact YH _ | rfl | simp[go_sem]
     ·obtain ⟨e1,e2,e3⟩:=q3 h0 hnf rfl hE;rw[h1] at e3;simp only[hE,if_true,Bool.false_eq_true,if_false] at hap e3;refine ZW ZM ?_;refine ZS rfl ?_;refine sN tK 9 ?_;refine sC Tryz.func109 (hf:=(hap)) (hk:=?_);refine sG tK ?_;refine sE ?_;refine wKd ?_
      try simp only[go_sem,gA,gB,gC]
      refine wG tK ?_;refine wDT (hb:=s6) (hk:=?_);refine wG tK ?_;refine wDT (hb:=w7) (hk:=?_);refine wG tK ?_;refine ZW ZM ?_;refine ZS rfl ?_;refine sN tK 9 ?_;refine sE ?_;refine dS tK ?_;refine wKd ?_
      try simp only[go_sem,gA,gB,gC]
      refine wG tK ?_;refine ZW ZM ?_;refine ZS rfl ?_;refine sN tK 1 ?_;refine sB tK ?_;refine sN tK 1 ?_;refine sT tK ?_;refine sT tK ?_;refine sE ?_;refine wKd ?_
      try simp only[go_sem,gA,gB,gC]
      refine wG tK ?_;refine wU ?_ ?_
      ·simp[ZV,ZA,e1,e2,cZ,hk5]
      ·rw[e3];simp only[pins,List.cons_append,List.nil_append,List.map_cons,List.map_nil]
       repeat' refine ZH ?_ ?_
       all_goals first | exact YH _ | rfl | simp[go_sem]
  | false=>
   refine wDF (hb:=(rfl)) (hk:=?_);refine wG tK ?_;have ho:ef j r=j.own:=by unfold ef;rw[h1];rfl
   have hnf:¬(bd r.act=true/\(mz j.own r.act.fid=true\/r.act.fid≥0)):=λhh=>by rw[h1] at hh;cases hh.1
   rw[←ho]
   -- the eW as they are here
   refine ZW ZM ?_;refine ZS rfl ?_;refine sN tK 3 ?_;refine fe rfl rfl z8 w1 ⟨_,Tryz.func166,by kernel_rfl,rfl⟩ [29,25,26,27] w4 w1 w7 w1 w1 (hfid r.act.fid) z6 w5 ?_;refine sN tK 3 ?_;refine fe rfl rfl z8 w1 ⟨_,Tryz.func166,by kernel_rfl,rfl⟩ [29,25,26,27] w4 w1 w7 w1 w1 (hfid r.act.dir) z6 w5 ?_;refine sN tK 1 ?_;refine sT tK ?_;refine sN tK 1 ?_;refine sT tK ?_;refine sE ?_;refine wKd ?_
   try simp only[go_sem,gA,gB,gC]
   refine wG tK ?_
   by_cases hk5:r.act.kind=5
   ·have hT:(if r.act.kind=5 then atF (ef j r) r.act.to else r.act.to)=atF (ef j r) r.act.to:=if_pos hk5;rw[hT] at hst hap;refine wDT (hb:=(by simp[hk5])) (hk:=?_);refine wG tK ?_;refine wP [29,25,26,27] Tryz.func166 (hf:=(hfid r.act.to)) (hk:=?_);refine wG tK ?_;refine wP [29,25,26,27,6] Tryz.func167 (hf:=(hst)) (hk:=?_);refine wG tK ?_;cases st with
    | true=>
     obtain ⟨e1,e2,e3⟩:=q2 h0 hnf rfl;refine wDT (hb:=(rfl)) (hk:=?_);refine wG tK ?_;refine ZW ZM ?_;refine ZS rfl ?_;refine sB tK ?_;refine sN tK 1 ?_;refine sT tK ?_;refine sT tK ?_;refine sE ?_;refine wKd ?_
     try simp only[go_sem,gA,gB,gC]
     refine wG tK ?_;refine wU ?_ ?_
     ·simp[ZV,ZA,e1,e2,cZ,hk5]
     ·rw[e3];simp only[pins,List.cons_append,List.nil_append,List.map_cons,List.map_nil]
      repeat' refine ZH ?_ ?_
      all_goals first | exact YH _ | rfl | simp[go_sem]
    | false=>
     refine wDF (hb:=(rfl)) (hk:=?_);refine wG tK ?_
     by_cases hE:E=0
     ·obtain ⟨e1,e2,e3⟩:=q4 h0 hnf rfl hE;subst hE;rw[h1] at e3;simp only[if_true,Bool.false_eq_true,if_false] at hap e3;refine ZW ZM ?_;refine ZS rfl ?_;refine sN tK 9 ?_;refine sC Tryz.func109 (hf:=(hap)) (hk:=?_);refine sG tK ?_;refine sE ?_;refine wKd ?_
      try simp only[go_sem,gA,gB,gC]
      refine wG tK ?_;refine wDF (hb:=w7) (hk:=?_);refine wG tK ?_ u9 QP;refine wDF (hb:=w7) (hk:=?_);refine wG tK ?_ u9 QP;refine ZW ZM ?_;refine ZS rfl ?_;refine sN tK 2 ?_;refine sB tK ?_;refine sN tK 1 ?_;refine sT tK ?_;refine sT tK ?_;refine sE ?_;refine wKd ?_
      try simp only[go_sem,gA,gB,gC]
      refine wG tK ?_;refine wU ?_ ?_
      ·simp[ZV,ZA,e1,e2,cZ,hk5]
      ·rw[e3];simp only[pins,List.cons_append,List.nil_append,List.map_cons,List.map_nil]
       repeat' refine ZH ?_ ?_
       all_goals first | exact YH _ | rfl | simp[go_sem]
     ·obtain ⟨e1,e2,e3⟩:=q3 h0 hnf rfl hE;rw[h1] at e3;simp only[hE,if_true,Bool.false_eq_true,if_false] at hap e3;refine ZW ZM ?_;refine ZS rfl ?_;refine sN tK 9 ?_;refine sC Tryz.func109 (hf:=(hap)) (hk:=?_);refine sG tK ?_;refine sE ?_;refine wKd ?_
      try simp only[go_sem,gA,gB,gC]
      refine wG tK ?_;refine wDT (hb:=s6) (hk:=?_);refine wG tK ?_;refine wDF (hb:=w7) (hk:=?_);refine wG tK ?_;refine ZW ZM ?_;refine ZS rfl ?_;refine sN tK 1 ?_;refine sB tK ?_;refine sN tK 1 ?_;refine sT tK ?_;refine sT tK ?_;refine sE ?_;refine wKd ?_
      try simp only[go_sem,gA,gB,gC]
      refine wG tK ?_;refine wU ?_ ?_
      ·simp[ZV,ZA,e1,e2,cZ,hk5]
      ·rw[e3];simp only[pins,List.cons_append,List.nil_append,List.map_cons,List.map_nil]
       repeat' refine ZH ?_ ?_
       all_goals first | exact YH _ | rfl | simp[go_sem]
   ·have hT:(if r.act.kind=5 then atF (ef j r) r.act.to else r.act.to)=r.act.to:=if_neg hk5;rw[hT] at hst hap;refine wDF (hb:=(by simp[hk5])) (hk:=?_);refine wG tK ?_;refine wP [29,25,26,27,6] Tryz.func167 (hf:=(hst)) (hk:=?_);refine wG tK ?_;cases st with
    | true=>
     obtain ⟨e1,e2,e3⟩:=q2 h0 hnf rfl;refine wDT (hb:=(rfl)) (hk:=?_);refine wG tK ?_;refine ZW ZM ?_;refine ZS rfl ?_;refine sB tK ?_;refine sN tK 1 ?_;refine sT tK ?_;refine sT tK ?_;refine sE ?_;refine wKd ?_
     try simp only[go_sem,gA,gB,gC]
     refine wG tK ?_;refine wU ?_ ?_
     ·simp[ZV,ZA,e1,e2,cZ,hk5]
     ·rw[e3];simp only[pins,List.cons_append,List.nil_append,List.map_cons,List.map_nil]
      repeat' refine ZH ?_ ?_
      all_goals first | exact YH _ | rfl | simp[go_sem]
    | false=>
     refine wDF (hb:=(rfl)) (hk:=?_);refine wG tK ?_
     by_cases hE:E=0
     ·obtain ⟨e1,e2,e3⟩:=q4 h0 hnf rfl hE;subst hE;rw[h1] at e3;simp only[if_true,Bool.false_eq_true,if_false] at hap e3;refine ZW ZM ?_;refine ZS rfl ?_;refine sN tK 9 ?_;refine sC Tryz.func109 (hf:=(hap)) (hk:=?_);refine sG tK ?_;refine sE ?_;refine wKd ?_
      try simp only[go_sem,gA,gB,gC]
      refine wG tK ?_;refine wDF (hb:=w7) (hk:=?_);refine wG tK ?_ u9 QP;refine wDF (hb:=w7) (hk:=?_);refine wG tK ?_ u9 QP;refine ZW ZM ?_;refine ZS rfl ?_;refine sN tK 2 ?_;refine sB tK ?_;refine sN tK 1 ?_;refine sT tK ?_;refine sT tK ?_;refine sE ?_;refine wKd ?_
      try simp only[go_sem,gA,gB,gC]
      refine wG tK ?_;refine wU ?_ ?_
      ·simp[ZV,ZA,e1,e2,cZ,hk5]
      ·rw[e3];simp only[pins,List.cons_append,List.nil_append,List.map_cons,List.map_nil]
       repeat' refine ZH ?_ ?_
       all_goals first | exact YH _ | rfl | simp[go_sem]
     ·obtain ⟨e1,e2,e3⟩:=q3 h0 hnf rfl hE;rw[h1] at e3;simp only[hE,if_true,Bool.false_eq_true,if_false] at hap e3;refine ZW ZM ?_;refine ZS rfl ?_;refine sN tK 9 ?_;refine sC Tryz.func109 (hf:=(hap)) (hk:=?_);refine sG tK ?_;refine sE ?_;refine wKd ?_
      try simp only[go_sem,gA,gB,gC]
      refine wG tK ?_;refine wDT (hb:=s6) (hk:=?_);refine wG tK ?_;refine wDF (hb:=w7) (hk:=?_);refine wG tK ?_;refine ZW ZM ?_;refine ZS rfl ?_;refine sN tK 1 ?_;refine sB tK ?_;refine sN tK 1 ?_;refine sT tK ?_;refine sT tK ?_;refine sE ?_;refine wKd ?_
      try simp only[go_sem,gA,gB,gC]
      refine wG tK ?_;refine wU ?_ ?_
      ·simp[ZV,ZA,e1,e2,cZ,hk5]
      ·rw[e3];simp only[pins,List.cons_append,List.nil_append,List.map_cons,List.map_nil]
       repeat' refine ZH ?_ ?_
       all_goals first | exact YH _ | rfl | simp[go_sem]
theorem xX (m:List (Int×Bool)) (l:List Int) (x:Int):mO m (l++[x])=bY (mO m l) x true:=by
 unfold mO;rw[List.foldl_append];rfl
noncomputable def vz (l:List Node) (next version:Int) (log:List Rec) (i:Nat):JG:=(log.take i).foldl jF (im l next version)
theorem Ah (l:List Node) (next version:Int) {log:List Rec} {i:Nat} (h:i<log.length):vz l next version log (i+1)=jF (vz l next version log i) (log.getD i default):=by
 unfold vz;rw[ZT h,List.foldl_append];rfl
theorem Cf {p:List Past} {l:List Node} (h:Hist p l) (next:Int) {log:List Rec} (hl:∀r,r∈log->ActFit r.act) {i:Nat} (hi:i≤log.length):JInv p 0 i next (vz l next ((p.length+1:Nat):Int) log i):=by
 have:=JInv.qz h 0 next (log.take i) (λr hr=>hl r (Z3 hr))
 rw[Z9,Wo hi] at this;exact this
def jgB (s:JG):List (Nat×Blk):=[(45,.cells 162 2 (s.vs.map ZV)),(72,.cells 49 7 (s.done.map ZA)),(29,.cells 200 6 [jf s.j]),(25,.map (mI s.j.own)),(26,.map (mB s.j.ours)),(27,.map (mB s.j.lost))]
theorem Cg (p:List Past) (l:List Node) (next:Int) (log:List Rec) (h:Hist p l) (hp:p.length≤80000000) (hn:next.natAbs≤80000000) (hlog:SmallL log) (hl2:log.length≤2000000) (hfit:∀r,r∈log->ActFit r.act) :
  ae Tryz.prog 85 [.sl (l.map ZN),.int .i64 next,.int .i64 ((p.length+1:Nat):Int),.sl (log.map ZR)] []
   (λr _=>r=.tup [.sl ((bX l next ((p.length+1:Nat):Int) log).vs.map ZV),.sl ((bX l next ((p.length+1:Nat):Int) log).done.map ZA),.sl ((bX l next ((p.length+1:Nat):Int) log).j.l.map ZN),.int .i64 (bX l next ((p.length+1:Nat):Int) log).j.next]):=by
 have how:=jr l h.bW.small;have hlo:=iH log hlog;have hfin:bX l next ((p.length+1:Nat):Int) log=vz l next ((p.length+1:Nat):Int) log log.length:=by unfold vz;rw[Zy];rfl
 have hinv:=λi=>@Cf p l h next log hfit i
 have hsucc:=λi=>@Ah l next ((p.length+1:Nat):Int) log i
 have hz:vz l next ((p.length+1:Nat):Int) log 0=im l next ((p.length+1:Nat):Int):=rfl
 rw[hfin];generalize vz l next ((p.length+1:Nat):Int) log=st at *
 refine ZF tK (Tryz.func85) rfl (λC=>?_);simp only[Tryz.ntmps85,Tryz.results85,go_sem];refine wG tK ?_;refine wC Tryz.func66 (hf:=(how)) (hk:=?_);refine wG tK ?_;refine wC Tryz.func69 (hf:=(hlo)) (hk:=?_);refine wG tK ?_;refine ay (le_empty 72 49 7 z8) ?_;refine ay (le_empty 45 162 2 z8) ?_;simp only[go_sem];refine ZL (λi:Nat=>i≤log.length) (λi=>log.length-i) (λi=>(13,.osl 45 2 0 (st i).vs.length)::(14,.osl 72 7 0 (st i).done.length)::(16,.any)::(17,.any)::(18,.any)::(20,.any)::(33,.int .i64 i)::u0 34 40 []) (λi=>jgB (st i)) 0 z7 ?_ λi hi=>?_
 ·rw[hz];simp only[im,jgB,jf,mI,mB];simp only[go_sem];exact ZU w1 w1 s7
 unfold jgB jf;simp only[go_sem];refine wG tK ?_;refine wD (λh=>?_) (λh=>?_)
 ·have hlt:i<log.length:=by simp at h;omega
  have hg:(log.map ZR).getD i []=ZR (log.getD i default):=Fam.getD hlt;have hv:=hinv i z7;have hf:=hfit _ (YG hlt);have hsc:=hsucc i hlt;clear hinv hsucc;generalize log.getD i default=r at *;have hnx:=hv.next;have hvs:=hv.vlen;have hdl:=hv.len;have hone:=Hm (st i).j r hv.hist.bW hf z7 (by have:=hv.version;omega);have hst:st (i+1)=(if (gy (st i).j r).err=0 then ⟨{ eM (st i).j r with ours:=mO (eM (st i).j r).ours (eW (jm (st i).j r)) },(st i).vs++[gy (st i).j r],(st i).done++[jm (st i).j r]⟩ else ⟨Hf (eM (st i).j r) r.act.fid,(st i).vs++[gy (st i).j r],(st i).done⟩):=by
   rw[hsc];unfold jF gy;rfl
  unfold jH jB jf ZR at hone;clear hsc hv;generalize gy (st i).j r=V at *;generalize jm (st i).j r=A at *;generalize eM (st i).j r=J at *;have hfd:=tJ A;have hf3:=qf A;have how':=wi1 (i:=i) z7;refine wGq tK ?_ ?_ v7
  ·simp[hg,ZR,hlt]
  refine ZZ 16 rfl (rfl) ?_;simp only[go_sem];refine wP [29,25,26,27] Tryz.func125 (hf:=(hone)) (hk:=?_);refine wGq tK ?_ ?_ (by simp only[go_sem,ZV,ZA];try exact rfl)
  ·simp[ZV,ZA,rowsOf];omega
  by_cases hE:V.err=0
  ·rw[if_pos hE] at hst;refine wDF (hb:=s6) (hk:=?_);refine wG tK ?_;unfold ZA at hfd;refine wC Tryz.func126 (hf:=(hfd)) (hk:=?_);refine wG tK ?_;refine ZL (λk:Nat=>k≤(eW A).length) (λk=>(eW A).length-k) (λk=>(20,.any)::(59,.int .i64 k)::u0 60 9 []) (λk=>[(26,.map (mB (mO J.ours ((eW A).take k))))]) 0 z7 ?_ λk hk=>?_
   ·simp only[go_sem];exact ZU w1 (by simp[go_sem,mO]) w1
   simp only[go_sem];refine wG tK ?_;refine wD (λh=>?_) (λh=>?_)
   ·have hlk:k<(eW A).length:=by simp at h;omega
    have hgk:((eW A).map ZI).getD k []=ZI ((eW A).getD k default):=Fam.getD hlk;have htk:mO J.ours ((eW A).take (k+1))=bY (mO J.ours ((eW A).take k)) ((eW A).getD k default) true:=by rw[ZT hlk,xX]
    have hwk:IntKind.i64.wrap ((k:Int)+1)=((k+1:Nat):Int):=by rw[Eng.wrap_small z7 z7];rfl
    generalize (eW A).getD k default=f at *;refine wGq tK ?_ ?_ (by simp only[go_sem,hgk,ZI,hwk];try exact rfl)
    ·simp[hgk,ZI,hlk,AV.yT,AV.aX]
    refine ZB ⟨k+1,by omega,by omega,ZU ?_ ?_ ?_⟩
    ·simp[go_sem]
    ·simp[go_sem,htk]
    ·simp[go_sem]
   ·have e:k=(eW A).length:=by simp at h;omega
    subst e;refine wGq tK ?_ ?_ (by simp only[go_sem,ZA,how'];try exact rfl)
    ·simp[ZA,rowsOf];omega
    refine ZB ⟨i+1,by omega,by omega,ZU ?_ ?_ ?_⟩
    ·simp[go_sem,hst]
    ·simp[go_sem,hst,jgB,jf,ZV,ZA,Zy]
    ·simp[go_sem,hst]
  ·rw[if_neg hE] at hst;refine wDT (hb:=s6) (hk:=?_);refine wG tK ?_;refine ZW ZM ?_;refine ZS rfl ?_;refine sN tK 7 ?_;refine sE ?_;refine dS tK ?_;refine wKd ?_
   try simp only[go_sem,gA,gB,gC]
   refine wG tK ?_ y7 j8;refine ZB ⟨i+1,by omega,by omega,ZU ?_ ?_ ?_⟩
   ·simp[go_sem,hst]
   ·simp[go_sem,hst,jgB,jf,Hf,ZV]
   ·simp[go_sem,hst]
 ·have e:i=log.length:=by simp at h;omega
  subst e;refine wG tK ?_;refine ZW ZM ?_;refine ZS rfl ?_;refine sG tK ?_;refine sE ?_;refine wKd ?_
  try simp only[go_sem,gA,gB,gC]
  refine wG tK ?_;refine ZZ 45 rfl (pr _) ?_;simp only[go_sem];refine ZZ 72 rfl (uD _) ?_;simp only[go_sem];refine wT ?_;simp
end La
namespace La
open Go Go.Eng
inductive MReach (m:List (Int×Node)) (k:Int):Int->Prop
 | refl:MReach m k k
 | step {x:Int} {n:Node} {e:Entry} (h:MReach m k x) (hn:bF m x=some n) (he:e∈n.entries):MReach m k e.fid
def GY (m:List (Int×Node)):List Int:=m.flatMap λp=>p.2.entries.map (·.fid)
def De (m:List (Int×Node)) (had:List (Int×Bool)):Nat:=((GY m).filter λf=>!(eQ had f)).length
structure BI (m:List (Int×Node)) (k:Int) (had:List (Int×Bool)) (T:List Int):Prop where
 rise:pJ had
 sound:∀x,eQ had x=true->MReach m k x
 start:eQ had k=true
 todo:∀x,x∈T->eQ had x=true
 shut:∀x,eQ had x=true->x∉T->∀n,bF m x=some n->∀e,e∈n.entries->eQ had e.fid=true
 size:T.length+De m had≤(GY m).length+1
structure BJ (m:List (Int×Node)) (k:Int) (x:Int) (n:Node) (c:Nat) (j:Nat) (had:List (Int×Bool)) (T:List Int):Prop where
 at_:bF m x=some n
 rise:pJ had
 sound:∀x,eQ had x=true->MReach m k x
 start:eQ had k=true
 todo:∀x,x∈T->eQ had x=true
 shut:∀x,eQ had x=true->x∉T->∀n,bF m x=some n->∀e,e∈n.entries->eQ had e.fid=true
 done:∀e,e∈n.entries.take j->eQ had e.fid=true
 head:∃r,T=x::r
 size:T.length+De m had≤c
end La
