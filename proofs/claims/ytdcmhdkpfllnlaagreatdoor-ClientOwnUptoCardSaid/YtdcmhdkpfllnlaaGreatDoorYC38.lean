/- Texts of this claim, part 38: PCOwn, PCOwnA, RLaw9O. No condition. -/
import Derived.Test.YtdcmhdkpfllnlaaGreatDoorYC31
import Derived.Test.YtdcmhdkpfllnlaaGreatDoorYC30
import Derived.Test.YtdcmhdkpfllnlaaGreatDoorYC29
set_option maxRecDepth 10000
set_option maxHeartbeats 4000000
set_option linter.unusedSimpArgs false
set_option linter.unusedVariables false
namespace La
open Go Go.Eng
theorem iA {t:List Node}:∀(l:List (List UInt8)) {q:Node×Int},q.2≠0->tR t l q=(al,q.2)
 | [],q,h=>by unfold tR;rw[if_neg h]
 | s::r,q,h=>by unfold tR;rw[if_pos h]
theorem nu {t:List Node} (s:List UInt8) (r:List (List UInt8)) {q:Node×Int} (h:q.2=0):tR t (s::r) q=if q.1.dir=false then (al,8) else match av q.1 s with
  | none=>(al,6)
  | some f=>tR t r (dO t f):=by
 conv=>lhs;unfold tR
 rw[if_neg Zw];rfl
theorem Ft (t:List Node):∀(l m:List (List UInt8)) (q:Node×Int),tR t (l++m) q=tR t m (tR t l q)
 | [],m,q=>by
  rw[List.nil_append]
  by_cases h:q.2=0
  ·rw[show tR t [] q=q by unfold tR;rw[if_pos h]]
  ·rw[iA m h,iA [] h,iA m (show (al,q.2).2≠0 from h)]
 | s::r,m,q=>by
  rw[List.cons_append]
  by_cases h:q.2=0
  ·rw[nu _ _ h,nu _ _ h];split
   ·exact (iA (q:=(al,8)) m x8).symm
   ·cases av q.1 s with
    | none=>exact (iA (q:=(al,6)) m x8).symm
    | some f=>exact Ft t r m (dO t f)
  ·rw[iA _ h,iA (s::r) h,iA m (show (al,q.2).2≠0 from h)]
def upd (f:Int) (n2:Node) (m:Node):Node:=if m.fid=f then n2 else m
def iB (f:Int) (n2:Node) (q:Node×Int):Node×Int:=if q.2=0 then (upd f n2 q.1,q.2) else q
theorem Fv {t t2:List Node} {f:Int} {n n2:Node} (hup:Up t) (hf:ak t f=some n) (h2:∀k,ak t2 k=if k=f then some n2 else ak t k) (hfid:n2.fid=n.fid) (hdir:n2.dir=n.dir) (hent:n2.entries=n.entries) :
  ∀(l:List (List UInt8)) (q:Node×Int),(q.2=0->q.1∈t)->tR t2 l (iB f n2 q)=iB f n2 (tR t l q)
 | [],q,_=>by
  unfold tR
  by_cases h:q.2=0
  ·rw[if_pos h,if_pos (by unfold iB;rw[if_pos h];exact h)]
  ·rw[if_neg h];have:iB f n2 q=q:=by unfold iB;rw[if_neg h]
   rw[this,if_neg h];unfold iB;rw[if_neg h]
 | s::r,q,hq=>by
  by_cases h:q.2=0
  ·have hm:=hq h;have hsame:(upd f n2 q.1).dir=q.1.dir/\(upd f n2 q.1).entries=q.1.entries:=by
    unfold upd;split
    ·rename_i e;have:q.1=n:=by
      have h3:=(ZO hup).2 ⟨hm,e⟩;rw[hf] at h3;injection h3 with h3;exact h3.symm
     rw[this];exact ⟨hdir,hent⟩
    ·exact ⟨rfl,rfl⟩
   have he:av (upd f n2 q.1) s=av q.1 s:=by unfold av;rw[hsame.2]
   have hu:iB f n2 q=(upd f n2 q.1,q.2):=by unfold iB;rw[if_pos h]
   rw[hu,nu (q:=(upd f n2 q.1,q.2)) _ _ h,nu _ _ h];simp only[hsame.1,he];split
   ·rfl
   ·cases av q.1 s with
    | none=>rfl
    | some k=>
     simp only;have hs:dO t2 k=iB f n2 (dO t k):=by
      unfold dO;rw[h2 k]
      by_cases e:k=f
      ·subst e;rw[if_pos rfl,hf];have hnf:=((ZO hup).1 hf).2;simp[iB,upd,hnf]
      ·rw[if_neg e];cases e2:ak t k with
       | none=>rfl
       | some m=>
        have hmf:=((ZO hup).1 e2).2;simp[iB,upd,hmf,e]
     rw[hs];refine Fv hup hf h2 hfid hdir hent r (dO t k) λh0=>?_
     unfold dO at h0 ⊢;cases e2:ak t k with
     | none=>rw[e2] at h0;cases h0
     | some m=>exact ((ZO hup).1 e2).1
  ·have:iB f n2 q=q:=by unfold iB;rw[if_neg h]
   rw[this,iA _ h,iA _ h];unfold iB;rw[if_neg h]
theorem Fu {t:List Node} (hup:Up t):∀(l:List (List UInt8)) (q:Node×Int),(q.2=0->q.1∈t)->(tR t l q).2=0->(tR t l q).1∈t
 | [],q,hq,h=>by
  by_cases h0:q.2=0
  ·rw[show tR t [] q=q by unfold tR;rw[if_pos h0]];exact hq h0
  ·rw[iA [] h0] at h;exact absurd h h0
 | s::r,q,hq,h=>by
  by_cases h0:q.2=0
  ·rw[nu _ _ h0] at h ⊢;split at h
   ·cases h
   ·rename_i hd;rw[if_neg hd];cases he:av q.1 s with
    | none=>rw[he] at h;cases h
    | some f=>
     rw[he] at h;refine Fu hup r (dO t f) (λh1=>?_) h;unfold dO at h1 ⊢;cases e2:ak t f with
     | none=>rw[e2] at h1;cases h1
     | some m=>exact ((ZO hup).1 e2).1
  ·rw[iA _ h0] at h;exact absurd h h0
theorem vq {t:List Node} (hup:Up t) {k:Int} (h:(dO t k).2=0):(dO t k).1∈t:=by
 unfold dO at h ⊢;cases e2:ak t k with
 | none=>rw[e2] at h;cases h
 | some m=>exact ((ZO hup).1 e2).1
theorem Bj {B T:Nat} {u:U} (h:iF B T u) (ha:u.c.away=false) (l:List (List UInt8)) (n:Node) (hgo:tGo u.s.tree l=(n,0)) (data:List UInt8) (seen:Int) (he:(bQ u (aw n.fid data) seen).e=0) :
  kB 1 (tGo (bQ u (aw n.fid data) seen).u.s.tree l)=⟨0,0,0,data⟩:=by
 have hup:=h.srv.hist.bH.up;have hm:n∈u.s.tree:=by
  have:=Fu hup l (dO u.s.tree 0) (vq hup);unfold tGo at hgo;rw[hgo] at this;exact this rfl
 have hf:ak u.s.tree n.fid=some n:=(ZO hup).2 ⟨hm,rfl⟩;have hA:bQ u (aw n.fid data) seen=fk u (aw n.fid data):=by unfold bQ;rw[if_neg WX]
 rw[hA] at he ⊢;have hd:doA u.s (aw n.fid data)=aw n.fid data:=rfl;have hE:doE u.s (aw n.fid data)=df u.s.tree (aw n.fid data):=rfl
 by_cases h0:doE u.s (aw n.fid data)=0
 ·have hU:(fk u (aw n.fid data)).u.s=doS u.s u.c.number (aw n.fid data):=by unfold fk;rw[if_pos h0]
  rw[hU];have hS:df u.s.tree (aw n.fid data)=0:=by rw[←hE];exact h0
  have hdir:n.dir=false:=by
   unfold df at hS;rw[show (aw n.fid data).fid=n.fid from rfl,hf] at hS;cases e:n.dir with
   | false=>rfl
   | true=>simp[e] at hS
  have hT:(doS u.s u.c.number (aw n.fid data)).tree=aD u.s.tree { ar u.s.tree n.fid with data:=data,version:=((u.s.past.length+1:Nat):Int) }:=by
   show dg u.s.tree (aw n.fid data) _=_
   unfold dg;rw[if_pos hS];rfl
  rw[hT,show ar u.s.tree n.fid=n by unfold ar;rw[hf];rfl];generalize ((u.s.past.length+1:Nat):Int)=v;have h2:=λk=>kd hup { n with data:=data,version:=v } k
  have hr:=Fv (t2:=aD u.s.tree { n with data:=data,version:=v }) hup hf h2 rfl rfl rfl l (dO u.s.tree 0) (vq hup);have hs0:dO (aD u.s.tree { n with data:=data,version:=v }) 0=iB n.fid { n with data:=data,version:=v } (dO u.s.tree 0):=by
   unfold dO;rw[h2 0]
   by_cases e:(0:Int)=n.fid
   ·rw[if_pos e];rw[←e] at hf;rw[hf];simp[iB,upd]
   ·rw[if_neg e];cases e2:ak u.s.tree 0 with
    | none=>rfl
    | some m=>
     have hmf:=((ZO hup).1 e2).2;simp[iB,upd,hmf,e]
  unfold tGo at hgo ⊢;rw[hs0,hr,hgo];have:iB n.fid { n with data:=data,version:=v } (n,0)=({ n with data:=data,version:=v },0):=by simp[iB,upd]
  rw[this];unfold kB;simp[hdir]
 ·have:(fk u (aw n.fid data)).e=doE u.s (aw n.fid data):=by unfold fk;rw[if_neg h0]
  rw[this] at he;exact absurd he h0
theorem sK (u:U) (a:Act) (ha:u.c.away=false):(fk u a).u.c.away=false:=by
 unfold fk;split
 ·exact ha
 ·exact ha
theorem ur {u:U} (ha:u.c.away=false) (a:Act) (seen:Int):bQ u a seen=fk u a:=by unfold bQ;rw[if_neg WX]
theorem yU {B T:Nat} {g:Got} (h:iF B T g.u) (ha:g.u.c.away=false) (l:List (List UInt8)) (hgo:tGo g.u.s.tree l=(g.n,g.e)) (data:List UInt8) (he:(fH g data).e=0) :
  kB 1 (tGo (fH g data).u.s.tree l)=⟨0,0,0,data⟩/\(fH g data).u.c.away=false:=by
 unfold fH at he ⊢
 by_cases h0:g.e=0
 ·rw[if_neg Qh] at he ⊢;rw[h0] at hgo;refine ⟨Bj h ha l g.n hgo data _ he,?_⟩;rw[ur ha];exact sK _ _ ha
 ·rw[if_pos h0] at he;exact absurd he h0
theorem vt {l:List (List UInt8)} (h:l.length≠0):l.take (l.length-1)++[l.getD (l.length-1) []]=l:=by
 have hi:l.length-1<l.length:=by omega
 have:=ZT hi;rw[show l.length-1+1=l.length by omega,W2] at this;exact this.symm
theorem BE {B T:Nat} {u:U} (h:iF B T u) (ha:u.c.away=false) (path data:List UInt8) (he:(a_ u path data).e=0) :
  (ae path).2=0/\kB 1 (tGo (a_ u path data).u.s.tree (ae path).1)=⟨0,0,0,data⟩/\(a_ u path data).u.c.away=false:=by
 have hdi:=ch h path;have hdl:=fM u path;have hnm:=bF u path;have hda:(ag u path).u.c.away=false:=by rw[hdl.away];exact ha
 unfold a_ at he ⊢
 by_cases h0:(ag u path).e=0
 ·rw[if_neg Qh] at he ⊢
  by_cases h1:data.length>20
  ·rw[if_pos h1] at he;cases he
  ·rw[if_neg h1] at he ⊢
   -- what the directory is
   have hsp:(ae path).2=0/\(ae path).1.length≠0/\(goU u ((ae path).1.take ((ae path).1.length-1)) 0).e=0/\(goU u ((ae path).1.take ((ae path).1.length-1)) 0).n.dir=true /\
     (ag u path).n=(goU u ((ae path).1.take ((ae path).1.length-1)) 0).n/\(ag u path).name=(ae path).1.getD ((ae path).1.length-1) []:=by
    unfold ag at h0 ⊢
    by_cases c1:(ae path).2=0
    ·rw[if_neg (by simp[c1])] at h0 ⊢
     by_cases c2:(ae path).1.length=0
     ·rw[if_pos c2] at h0;cases h0
     ·rw[if_neg c2] at h0 ⊢;simp only at h0 ⊢
      by_cases c3:(goU u ((ae path).1.take ((ae path).1.length-1)) 0).e=0/\(goU u ((ae path).1.take ((ae path).1.length-1)) 0).n.dir=false
      ·rw[if_pos c3] at h0;cases h0
      ·rw[if_neg c3] at h0;refine ⟨c1,c2,h0,?_,trivial,trivial⟩;cases e:(goU u ((ae path).1.take ((ae path).1.length-1)) 0).n.dir with
       | true=>rfl
       | false=>exact absurd ⟨h0,e⟩ c3
    ·rw[if_pos c1] at h0;exact absurd h0 c1
   obtain ⟨s1,s2,s3,s4,s5,s6⟩:=hsp;refine ⟨s1,?_⟩;have hgd:=sF h ha ((ae path).1.take ((ae path).1.length-1)) 0;rw[s3,←s5] at hgd;rw[←s5] at s4;have hl:=vt s2;rw[←s6] at hl;cases hen:av (ag u path).n (ag u path).name with
   | some f=>
    rw[hen] at he;simp only at he ⊢;have hgi:=dJ (ag u path).u f 0;have hgh:=pM hdi hda f 0;refine yU (bA hdi f 0) (hgi.away.trans hda) (ae path).1 ?_ data he;rw[hgi.s,hgh,hdl.s];have:tGo u.s.tree (ae path).1=tR u.s.tree [(ag u path).name] ((ag u path).n,0):=by
     conv=>lhs;rw[←hl]
     unfold tGo at hgd ⊢;rw[Ft,←hgd]
    rw[this,nu (q:=((ag u path).n,0)) _ _ rfl,if_neg (by simp[s4]),hen]
    show tR u.s.tree [] (dO u.s.tree f)=dO u.s.tree f
    unfold tR;split
    ·rfl
    ·rename_i hne;unfold dO at hne ⊢;cases e2:ak u.s.tree f with
     | none=>rfl
     | some m=>rw[e2] at hne;exact absurd rfl hne
   | none=>
    rw[hen] at he;simp only at he ⊢;have hk:=ur hda (bK (ag u path).n.fid (ag u path).name) (-1);rw[hk] at he ⊢;have hki:=yb hdi hda (a:=bK (ag u path).n.fid (ag u path).name) ⟨hnm,by simp[bK],by simp[bK]⟩;have hka:=sK (ag u path).u (bK (ag u path).n.fid (ag u path).name) hda
    by_cases k0:(fk (ag u path).u (bK (ag u path).n.fid (ag u path).name)).e=0
    ·rw[if_neg (by simp[k0])] at he ⊢;have hgi:=kh (fk (ag u path).u (bK (ag u path).n.fid (ag u path).name)).u (ae path).1 0;have hgh:=sF hki hka (ae path).1 0;exact yU (iJ hki _ _) (hgi.away.trans hka) (ae path).1 (by rw[hgi.s];exact hgh.symm) data he
    ·rw[if_pos k0] at he;exact absurd he k0
 ·rw[if_pos h0] at he;exact absurd he h0
theorem E2 {B T:Nat} {u:U} (h:iF B T u) (ha:u.c.away=false) (x:Step) (hk:x.kind=3) (he:(ai u x).r.err=0) :
  (ai u x).u.c.away=false/\∀y:Step,y.kind=1->y.path=x.path->(ai (ai u x).u y).r=⟨0,0,0,x.data⟩:=by
 have hi:=ie h x;have hs:ai u x=⟨(a_ u x.path x.data).u,cA (a_ u x.path x.data).e⟩:=by
  unfold ai;rw[if_neg z8,if_pos hk]
 rw[hs] at he hi ⊢;have hw:=BE h ha x.path x.data he;refine ⟨hw.2.2,λy hy hp=>?_⟩;rw[vp hi hw.2.2 y (.inl hy),hy,hp];unfold B_;rw[if_neg (by simp[hw.1])];exact hw.2.1
def dE (N:Int->Option Node) (f:Int):Node×Int:=match N f with
 | some n=>(n,0)
 | none=>(al,12)
def aR (N:Int->Option Node):List (List UInt8)->Node×Int->Node×Int
 | [],q=>if q.2=0 then q else (al,q.2)
 | s::r,q=>if q.2≠0 then (al,q.2) else if q.1.dir=false then (al,8) else match av q.1 s with
  | none=>(al,6)
  | some f=>aR N r (dE N f)
def aGo (N:Int->Option Node) (l:List (List UInt8)):Node×Int:=aR N l (dE N 0)
theorem uZ (l:List Kept) (fid f w c:Int):aF (l.map (fU f w c)) fid=aF l fid:=by
 unfold aF
 induction l with
 | nil=>rfl
 | cons k r ih=>
  rw[List.map_cons,List.find?_cons,List.find?_cons,kg];split
  ·simp[kg]
  ·exact ih
theorem sA {u:U} (ha:u.c.away=true) (f w:Int):((aU u f w).n,(aU u f w).e)=dE (aF u.c.cache) f/\∀k,aF (aU u f w).u.c.cache k=aF u.c.cache k:=by
 unfold aU dE;cases hn:aF u.c.cache f with
 | some n=>exact ⟨rfl,λk=>uZ _ _ _ _ _⟩
 | none=>
  simp only[ha,if_true];exact ⟨trivial,λk=>uZ _ _ _ _ _⟩
theorem BR (w:Int):∀(l:List (List UInt8)) (g:Got) (N:Int->Option Node),g.u.c.away=true->(∀k,aF g.u.c.cache k=N k)->((goR w l g).n,(goR w l g).e)=aR N l (g.n,g.e)/\∀k,aF (goR w l g).u.c.cache k=N k
 | [],g,N,ha,hN=>by
  unfold goR aR;split
  ·exact ⟨rfl,hN⟩
  ·exact ⟨rfl,hN⟩
 | s::r,g,N,ha,hN=>by
  unfold goR aR;simp only;split
  ·exact ⟨rfl,hN⟩
  ·split
   ·exact ⟨rfl,hN⟩
   ·cases he:av g.n s with
    | none=>exact ⟨rfl,hN⟩
    | some f=>
     simp only;have hi:=dJ g.u f w;obtain ⟨h1,h2⟩:=sA ha f w;have hf:aF g.u.c.cache=N:=funext hN;obtain ⟨h3,h4⟩:=BR w r (aU g.u f w) N (hi.away.trans ha) (λk=>(h2 k).trans (hN k));rw[h3,h1,hf];exact ⟨rfl,h4⟩
theorem vY {u:U} (ha:u.c.away=true) (l:List (List UInt8)) (w:Int):((goU u l w).n,(goU u l w).e)=aGo (aF u.c.cache) l/\∀k,aF (goU u l w).u.c.cache k=aF u.c.cache k:=by
 have hi:=dJ u 0 w;obtain ⟨h1,h2⟩:=sA ha 0 w;obtain ⟨h3,h4⟩:=BR w l (aU u 0 w) (aF u.c.cache) (hi.away.trans ha) h2;unfold goU aGo;rw[h3,h1];exact ⟨rfl,h4⟩
theorem iZ {N:Int->Option Node}:∀(l:List (List UInt8)) {q:Node×Int},q.2≠0->aR N l q=(al,q.2)
 | [],q,h=>by unfold aR;rw[if_neg h]
 | s::r,q,h=>by unfold aR;rw[if_pos h]
theorem mP {N:Int->Option Node} (s:List UInt8) (r:List (List UInt8)) {q:Node×Int} (h:q.2=0):aR N (s::r) q=if q.1.dir=false then (al,8) else match av q.1 s with
  | none=>(al,6)
  | some f=>aR N r (dE N f):=by
 conv=>lhs;unfold aR
 rw[if_neg Zw]
theorem DO (N:Int->Option Node):∀(l m:List (List UInt8)) (q:Node×Int),aR N (l++m) q=aR N m (aR N l q)
 | [],m,q=>by
  rw[List.nil_append]
  by_cases h:q.2=0
  ·rw[show aR N [] q=q by unfold aR;rw[if_pos h]]
  ·rw[iZ m h,iZ [] h,iZ m (show (al,q.2).2≠0 from h)]
 | s::r,m,q=>by
  rw[List.cons_append]
  by_cases h:q.2=0
  ·rw[mP _ _ h,mP _ _ h];split
   ·exact (iZ (q:=(al,8)) m x8).symm
   ·cases av q.1 s with
    | none=>exact (iZ (q:=(al,6)) m x8).symm
    | some f=>exact DO N r m (dE N f)
  ·rw[iZ _ h,iZ (s::r) h,iZ m (show (al,q.2).2≠0 from h)]
structure Sub2 (N N2:Int->Option Node) (f:Int) (n n2:Node):Prop where
 at_:N f=some n
 at2:N2 f=some n2
 other:∀k,k≠f->N2 k=N k\/N2 k=none
 bU:∀k m,N k=some m->m.fid=k
 fid:n2.fid=n.fid
 dir:n2.dir=n.dir
 ent:n2.entries=n.entries
theorem DQ {N N2:Int->Option Node} {f:Int} {n n2:Node} (h:Sub2 N N2 f n n2):∀(l:List (List UInt8)) (k:Int),(aR N2 l (dE N2 k)).2=12\/aR N2 l (dE N2 k)=iB f n2 (aR N l (dE N k))
 | [],k=>by
  by_cases e:k=f
  ·subst e;right;have hn:n.fid=k:=h.bU k n h.at_;unfold dE;rw[h.at_,h.at2];simp[aR,iB,upd,hn]
  ·rcases h.other k e with h1 | h1
   ·unfold dE;rw[h1];cases e2:N k with
    | none=>left;rfl
    | some m=>
     right;have hm:=h.bU k m e2;simp[aR,iB,upd,hm,e]
   ·left;unfold dE;rw[h1];rfl
 | s::r,k=>by
  have one:∀m m2:Node,m2.dir=m.dir->m2.entries=m.entries->((aR N2 (s::r) (m2,0)).2=12\/aR N2 (s::r) (m2,0)=iB f n2 (aR N (s::r) (m,0))):=λm m2 hd he=>by
   have hee:av m2 s=av m s:=by unfold av;rw[he]
   rw[mP (q:=(m2,0)) _ _ rfl,mP (q:=(m,0)) _ _ rfl];simp only[hd,hee];split
   ·right;rfl
   ·cases av m s with
    | none=>right;rfl
    | some j=>exact DQ h r j
  by_cases e:k=f
  ·subst e;unfold dE;rw[h.at_,h.at2];exact one n n2 h.dir h.ent
  ·rcases h.other k e with h1 | h1
   ·unfold dE;rw[h1];cases e2:N k with
    | none=>left;simp only;rw[iZ (q:=(al,12)) _ x8]
    | some m=>exact one m m rfl rfl
   ·left;unfold dE;rw[h1];simp only;rw[iZ (q:=(al,12)) _ x8]
theorem ng {l:List Kept} {k:Int} {m:Node} (h:aF l k=some m):∃x,x∈l/\x.node=m/\m.fid=k:=by
 unfold aF at h;obtain ⟨x,hx,rfl⟩:=YI.1 h;exact ⟨x,List.mem_of_find?_eq_some hx,rfl,by simpa using List.find?_some hx⟩
theorem s_:∀{l:List Kept},(l.map λx=>x.node.fid).Nodup->∀{x:Kept},x∈l->aF l x.node.fid=some x.node
 | [],_,x,h=>by cases h
 | y::r,hn,x,h=>by
  rw[List.map_cons,List.nodup_cons] at hn;unfold aF;rw[List.find?_cons]
  by_cases e:y.node.fid=x.node.fid
  ·have:x=y:=by
    rcases List.mem_cons.1 h with h | h
    ·exact h
    ·exact absurd (W5.2 ⟨x,h,e.symm⟩) hn.1
   subst this;simp
  ·have hx:x∈r:=by
    rcases List.mem_cons.1 h with h | h
    ·subst h;exact absurd rfl e
    ·exact h
   have ih:=s_ hn.2 hx;unfold aF at ih;rw[show (y.node.fid==x.node.fid)=false by simpa using e];exact ih
theorem oJ {room clk:Int} {was:List Node} {a:Act}:∀(N:List Node) (l:List Kept),(∀m,m∈N->aJ was a m=false)->bJ room clk was a N l=some l
 | [],l,_=>rfl
 | n::r,l,h=>by
  unfold bJ;rw[h n List.mem_cons_self,if_neg y8];exact oJ r l λm hm=>h m (List.mem_cons_of_mem _ hm)
theorem qC {room clk:Int} {was:List Node} {a:Act} {f:Int} {nf:Node} (hnf:nf.fid=f) (hc:aJ was a nf=true):∀(N:List Node) (l:List Kept),Up N->nf∈N->(∀m,m∈N->m.fid≠f->aJ was a m=false)->bJ room clk was a N l=cD l room (dV was clk nf)
 | [],l,_,h,_=>by cases h
 | n::r,l,hu,h,ho=>by
  have hu':=List.pairwise_cons.1 hu;unfold bJ
  by_cases e:n.fid=f
  ·have hn:nf=n:=by
    rcases List.mem_cons.1 h with h | h
    ·exact h
    ·have:=hu'.1 nf h;omega
   subst hn;rw[hc,if_pos rfl];cases cD l room (dV was clk nf) with
   | none=>rfl
   | some l'=>
    exact oJ r l' λm hm=>ho m (List.mem_cons_of_mem _ hm) (by have:=hu'.1 m hm;omega)
  ·have hr:nf∈r:=by
    rcases List.mem_cons.1 h with h | h
    ·subst h;exact absurd hnf e
    ·exact h
   rw[ho n List.mem_cons_self e,if_neg y8];exact qC hnf hc r l hu'.2 hr λm hm=>ho m (List.mem_cons_of_mem _ hm)
theorem Bi {B T:Nat} {u:U} (h:iF B T u) (ha:u.c.away=true) (n:Node) (hn:aF u.c.cache n.fid=some n) (data:List UInt8) (seen:Int) (he:(bQ u (aw n.fid data) seen).e=0) :
  ∃n2,Sub2 (aF u.c.cache) (aF (bQ u (aw n.fid data) seen).u.c.cache) n.fid n n2/\n2.data=data/\n.dir=false:=by
 have hci:=h.cli;obtain ⟨k,hk,hkn,_⟩:=ng hn;have hup:=ij u.c;have hf:ak (bO u.c) n.fid=some n:=(ZO hup).2 ⟨(ey hci.nod n).2 ⟨k,hk,hkn⟩,rfl⟩;have hA:bQ u (aw n.fid data) seen=lO u (aw n.fid data) seen:=by unfold bQ;rw[if_pos ha]
 have hoA:eO u.c (aw n.fid data)=aw n.fid data:=rfl;rw[hA] at he ⊢;unfold lO at he ⊢;rw[hoA] at he ⊢
 by_cases h0:aH (bO u.c) (aw n.fid data)=0
 ·rw[if_neg Qh] at he ⊢;have hS:df (bO u.c) (aw n.fid data)=0:=h0;have hdir:n.dir=false:=by
   unfold df at hS;rw[show (aw n.fid data).fid=n.fid from rfl,hf] at hS;cases e:n.dir with
   | false=>rfl
   | true=>simp[e] at hS
  cases hlg:E1 u.c (aw n.fid data) seen with
  | none=>rw[hlg] at he;cases he
  | some log=>
   rw[hlg] at he;simp only at he ⊢;cases hkp:rL u.c (aw n.fid data) with
   | none=>rw[hkp] at he;cases he
   | some L=>
    simp only;have hnow:gk u.c (aw n.fid data)=aD (bO u.c) { n with data:=data,version:=0 }:=by
     unfold gk;rw[hoA]
     show dg (bO u.c) (aw n.fid data) 0=_
     unfold dg;rw[if_pos hS,show ar (bO u.c) (aw n.fid data).fid=n by unfold ar;rw[show (aw n.fid data).fid=n.fid from rfl,hf];rfl];rfl
    have hput:=bn hup { n with data:=data,version:=0 };have hK:cD u.c.cache u.c.room (dV (bO u.c) u.c.clock { n with data:=data,version:=0 })=some L:=by
     unfold rL at hkp;rw[hnow,hoA] at hkp;rw[←hkp];refine (qC (f:=n.fid) (nf:={ n with data:=data,version:=0 }) rfl ?_ _ _ hput.1 ((hput.2 { n with data:=data,version:=0 }).2 (.inl rfl)) λm hm hne=>?_).symm
     ·unfold aJ;simp[aw]
     ·rcases (hput.2 m).1 hm with rfl | ⟨hm,_⟩
      ·exact absurd rfl hne
      ·unfold aJ;rw[(ZO hup).2 ⟨hm,rfl⟩];simp[cg,aw,hne]
    have hp:=sP (by have:=hci.room;omega) hci.nod hci.len hK;have hnd:(dV (bO u.c) u.c.clock { n with data:=data,version:=0 }).node={ n with data:=data }:=by
     unfold dV
     show ({ n with data:=data,version:=((ak (bO u.c) n.fid).getD al).version }:Node)=_
     rw[hf];rfl
    obtain ⟨x,hx,hxn,_⟩:=hp.has;rw[hnd] at hxn;have hnodF:((L.filter λk=>bg (gk u.c (aw n.fid data)) k.node.fid).map λx=>x.node.fid).Nodup:=hp.nod.sublist (Y1.map _);refine ⟨{ n with data:=data },⟨hn,?_,λj hj=>?_,λj m hm=>(ng hm).choose_spec.2.2,rfl,rfl,rfl⟩,rfl,hdir⟩
    ·have hxf:x∈L.filter λk=>bg (gk u.c (aw n.fid data)) k.node.fid:=by
      refine W9.2 ⟨hx,?_⟩;rw[hxn,hnow];exact jz (kd hup { n with data:=data,version:=0 } n.fid▸if_pos rfl)
     have:=s_ hnodF hxf;rw[hxn] at this;exact this
    ·cases e:aF (L.filter λk=>bg (gk u.c (aw n.fid data)) k.node.fid) j with
     | none=>exact .inr rfl
     | some m=>
      obtain ⟨y,hy,rfl,hyf⟩:=ng e
      rcases hp.mem y (W9.1 hy).1 with ⟨h1,_⟩ | ⟨h1,_⟩
      ·left;rw[←hyf];exact (s_ hci.nod h1).symm
      ·rw[h1,hnd] at hyf;exact absurd hyf.symm hj
 ·rw[if_pos h0] at he;exact absurd he h0
theorem DP {N:Int->Option Node} (hN:∀k m,N k=some m->m.fid=k):∀(l:List (List UInt8)) (k:Int),(aR N l (dE N k)).2=0->N (aR N l (dE N k)).1.fid=some (aR N l (dE N k)).1
 | [],k,h=>by
  cases e:N k with
  | none=>unfold dE at h;rw[e] at h;cases h
  | some m=>
   have hm:=hN k m e;have:aR N [] (dE N k)=(m,0):=by unfold dE;rw[e];rfl
   rw[this]
   show N m.fid=some m
   rw[hm,e]
 | s::r,k,h=>by
  cases e:N k with
  | none=>
   unfold dE at h;rw[e] at h;simp only at h;rw[iZ (q:=(al,12)) _ x8] at h;cases h
  | some m=>
   have hs:dE N k=(m,0):=by unfold dE;rw[e]
   rw[hs] at h ⊢;rw[mP (q:=(m,0)) _ _ rfl] at h ⊢;split at h
   ·cases h
   ·rename_i hd;rw[if_neg hd];cases he:av m s with
    | none=>rw[he] at h;cases h
    | some j=>rw[he] at h;exact DP hN r j h
theorem yT {B T:Nat} {g:Got} (h:iF B T g.u) (ha:g.u.c.away=true) (l:List (List UInt8)) (hgo:aGo (aF g.u.c.cache) l=(g.n,g.e)) (data:List UInt8) (he:(fH g data).e=0) :
  (aGo (aF (fH g data).u.c.cache) l).2=12\/kB 1 (aGo (aF (fH g data).u.c.cache) l)=⟨0,0,0,data⟩:=by
 unfold fH at he ⊢
 by_cases h0:g.e=0
 ·rw[if_neg Qh] at he ⊢;rw[h0] at hgo;have hfids:∀k m,aF g.u.c.cache k=some m->m.fid=k:=λk m hm=>(ng hm).choose_spec.2.2
  have hn:=DP hfids l 0;unfold aGo at hgo;rw[hgo] at hn;obtain ⟨n2,hs,hd,hdir⟩:=Bi h ha g.n (hn rfl) data _ he;unfold aGo
  rcases DQ hs l 0 with h1 | h1
  ·exact .inl h1
  ·right;rw[h1,hgo];have:iB g.n.fid n2 (g.n,0)=(n2,0):=by simp[iB,upd]
   rw[this];unfold kB;simp[hs.dir,hdir,hd]
 ·rw[if_pos h0] at he;exact absurd he h0
theorem BD {B T:Nat} {u:U} (h:iF B T u) (ha:u.c.away=true) (path data:List UInt8) (he:(a_ u path data).e=0) :
  (ae path).2=0/\((aGo (aF (a_ u path data).u.c.cache) (ae path).1).2=12\/kB 1 (aGo (aF (a_ u path data).u.c.cache) (ae path).1)=⟨0,0,0,data⟩):=by
 have hdi:=ch h path;have hdl:=fM u path;have hnm:=bF u path;have hda:(ag u path).u.c.away=true:=by rw[hdl.away];exact ha
 have hdN:(ag u path).e=0->(ae path).2=0/\(ae path).1.length≠0/\aGo (aF u.c.cache) ((ae path).1.take ((ae path).1.length-1))=((ag u path).n,0)/\(ag u path).n.dir=true /\
   (ag u path).name=(ae path).1.getD ((ae path).1.length-1) []/\∀k,aF (ag u path).u.c.cache k=aF u.c.cache k:=λh0=>by
  obtain ⟨g1,g2⟩:=vY ha ((ae path).1.take ((ae path).1.length-1)) 0;unfold ag at h0 ⊢
  by_cases c1:(ae path).2=0
  ·rw[if_neg (by simp[c1])] at h0 ⊢
   by_cases c2:(ae path).1.length=0
   ·rw[if_pos c2] at h0;cases h0
   ·rw[if_neg c2] at h0 ⊢;simp only at h0 ⊢
    by_cases c3:(goU u ((ae path).1.take ((ae path).1.length-1)) 0).e=0/\(goU u ((ae path).1.take ((ae path).1.length-1)) 0).n.dir=false
    ·rw[if_pos c3] at h0;cases h0
    ·rw[if_neg c3] at h0;rw[h0] at g1;refine ⟨c1,c2,g1.symm,?_,trivial,g2⟩;cases e:(goU u ((ae path).1.take ((ae path).1.length-1)) 0).n.dir with
     | true=>rfl
     | false=>exact absurd ⟨h0,e⟩ c3
  ·rw[if_pos c1] at h0;exact absurd h0 c1
 unfold a_ at he ⊢
 by_cases h0:(ag u path).e=0
 ·rw[if_neg Qh] at he ⊢
  by_cases h1:data.length>20
  ·rw[if_pos h1] at he;cases he
  ·rw[if_neg h1] at he ⊢;obtain ⟨s1,s2,s3,s4,s6,s7⟩:=hdN h0;refine ⟨s1,?_⟩;have hl:=vt s2;rw[←s6] at hl;have hNf:aF (ag u path).u.c.cache=aF u.c.cache:=funext s7;cases hen:av (ag u path).n (ag u path).name with
   | some f=>
    rw[hen] at he;simp only at he ⊢;have hgi:=dJ (ag u path).u f 0;obtain ⟨k1,k2⟩:=sA hda f 0;refine yT (bA hdi f 0) (hgi.away.trans hda) (ae path).1 ?_ data he;have hk:aF (aU (ag u path).u f 0).u.c.cache=aF u.c.cache:=funext λk=>(k2 k).trans (s7 k)
    rw[hk,k1,hNf];have:aGo (aF u.c.cache) (ae path).1=aR (aF u.c.cache) [(ag u path).name] ((ag u path).n,0):=by
     conv=>lhs;rw[←hl]
     unfold aGo at s3 ⊢;rw[DO,s3]
    rw[this,mP (q:=((ag u path).n,0)) _ _ rfl,if_neg (by simp[s4]),hen]
    show aR (aF u.c.cache) [] (dE (aF u.c.cache) f)=dE (aF u.c.cache) f
    unfold aR;split
    ·rfl
    ·rename_i hne;unfold dE at hne ⊢;cases e2:aF u.c.cache f with
     | none=>rfl
     | some m=>rw[e2] at hne;exact absurd rfl hne
   | none=>
    rw[hen] at he;simp only at he ⊢;have hki:=iG hdi (a:=bK (ag u path).n.fid (ag u path).name) ⟨hnm,by simp[bK],by simp[bK]⟩ (-1);have hka:=(kI rfl hda (bK (ag u path).n.fid (ag u path).name) (-1)).away
    by_cases k0:(bQ (ag u path).u (bK (ag u path).n.fid (ag u path).name) (-1)).e=0
    ·rw[if_neg (by simp[k0])] at he ⊢;obtain ⟨k1,k2⟩:=vY hka (ae path).1 0;have hgi:=kh (bQ (ag u path).u (bK (ag u path).n.fid (ag u path).name) (-1)).u (ae path).1 0;exact yT (iJ hki _ _) (hgi.away.trans hka) (ae path).1 (by rw[show aF _=aF _ from funext k2];exact k1.symm) data he
    ·rw[if_pos k0] at he;exact absurd he k0
 ·rw[if_pos h0] at he;exact absurd he h0
theorem yQ {B T:Nat} {u:U} (h:iF B T u) (ha:u.c.away=true) (x:Step) (hk:x.kind=3) (he:(ai u x).r.err=0) :
  (ai u x).u.c.away=true/\∀y:Step,y.kind=1->y.path=x.path->(ai (ai u x).u y).r.err=12\/(ai (ai u x).u y).r=⟨0,0,0,x.data⟩:=by
 have haw:=(zu rfl ha x z8).away;have hs:ai u x=⟨(a_ u x.path x.data).u,cA (a_ u x.path x.data).e⟩:=by
  unfold ai;rw[if_neg z8,if_pos hk]
 rw[hs] at he haw ⊢;have hw:=BD h ha x.path x.data he;refine ⟨haw,λy hy hp=>?_⟩;have hr:(ai (a_ u x.path x.data).u y).r=kB 1 (aGo (aF (a_ u x.path x.data).u.c.cache) (ae x.path).1):=by
  have hg:=(vY haw (ae x.path).1 0).1;unfold ai;rw[if_pos (.inl hy),hp,if_neg (by simp[hw.1]),hy,←hg];rfl
 rw[hr]
 rcases hw.2 with h1 | h1
 ·left;unfold kB;rw[if_pos (by rw[h1];decide),h1]
 ·exact .inr h1
end La
namespace La
open Go Go.Eng Go.Proofs
theorem Hg {B T:Nat} {u:U} (h:iF B T u) (x y:Step) (hk:x.kind=3) (hy:y.kind=1) (hp:y.path=x.path) (he:(ai u x).r.err=0) :
  ((ai u x).u.c.away=true/\(ai (ai u x).u y).r.err=12)\/(ai (ai u x).u y).r=⟨0,0,0,x.data⟩:=by
 cases ha:u.c.away with
 | false=>exact .inr ((E2 h ha x hk he).2 y hy hp)
 | true=>exact ((yQ h ha x hk he).2 y hy hp).imp (λh2=>⟨(yQ h ha x hk he).1,h2⟩) id
theorem Cl (rooms:List Int) (l:List Step) (n:Int) (path:List UInt8) (data:List UInt8) (hr:rooms.length≤100000000) (hl:StepsOK l) (hp:path.length≤10000000) :
  af Tryz.prog 5 [.sl (rooms.map ZI),.sl (l.map ZX),.int .i64 n,.str path,.sl (data.map ZY)] [] (λr _=>r=.bool true):=by
 have hb:=nk rooms hr l hl;have hWi:b_ rooms=0->WInv (20*l.length) (300*l.length) (jO rooms l):=λhE=>oo hE l
 have hz:b_ rooms≠0->jO rooms l=kH:=λhE=>by unfold jO;rw[if_neg hE]
 have hll:=hl.len;generalize jO rooms l=W at *;unfold ee at hb;refine ZF tK (Tryz.func5) rfl (λC=>?_);simp only[Tryz.ntmps5,Tryz.results5,go_sem];refine wG tK ?_;refine wC Tryz.func16 (hf:=(vD)) (hk:=?_);refine wG tK ?_;refine wDF (hb:=(rfl)) (hk:=?_);refine wG tK ?_;refine wC Tryz.func8 (hf:=(hb)) (hk:=?_);refine wG tK ?_
 by_cases hc:n<0\/n≥W.cs.length
 ·refine wDT (hb:=j0) (hk:=?_);refine wG tK ?_;refine wT ?_;rfl
 ·refine wDF (hb:=j0) (hk:=?_);obtain ⟨k,rfl⟩:∃k:Nat,n=k:=⟨n.toNat,by omega⟩;have hk:k<W.cs.length:=by omega
  have hE:b_ rooms=0:=by
   by_cases h:b_ rooms=0
   ·exact h
   ·rw[hz h] at hk;simp[kH] at hk
  have hw:=hWi hE;have hu:=hw.at hk;have hg:(W.cs.map ZC).getD k []=ZC (W.cs.getD k default):=Fam.getD hk;generalize W.cs.getD k default=c at *;have hst:=ie hu ⟨3,(k:Int),0,path,[],data⟩;have hlaw:=Hg hu ⟨3,(k:Int),0,path,[],data⟩ ⟨1,(k:Int),0,path,[],[]⟩ rfl rfl rfl;have hdo:=lS c W.s hu z8 z8 ⟨3,(k:Int),0,path,[],data⟩ hp y8;rw[show ZX ⟨3,(k:Int),0,path,[],data⟩=[.int .i64 3,.int .i64 (k:Int),.int .i64 0,.str path,.str [],.sl (data.map ZY)] from rfl] at hdo;generalize ai ⟨c,W.s⟩ ⟨3,(k:Int),0,path,[],data⟩=g at *;have hdo2:af Tryz.prog 11 [.agg (ZC g.u.c),.agg (ZQ g.u.s),.agg [.int .i64 1,.int .i64 (k:Int),.int .i64 0,.str path,.str [],.nils]] [] (λr _=>r=dN (ai g.u ⟨1,(k:Int),0,path,[],[]⟩)):=
   af.wy (x:=⟨1,(k:Int),0,path,[],[]⟩) rfl (lS g.u.c g.u.s hst z8 z8 ⟨1,(k:Int),0,path,[],[]⟩ hp y8)
  simp only at hlaw;generalize ai g.u ⟨1,(k:Int),0,path,[],[]⟩=g2 at *;unfold dN at hdo hdo2;unfold ZC ZQ aT at *;refine wG tK ?_;refine ZW ZM ?_;refine ZS rfl ?_;refine sN tK 10 ?_ z6 z6 Qw WW;refine sB tK ?_;refine sC Tryz.func11 (hf:=(hdo)) (hk:=?_);refine sN tK 4 ?_;refine sW tK ?_;simp only[go_sem];refine sW tK ?_;simp only[go_sem];refine sW tK ?_;simp only[go_sem];refine sT tK ?_;refine sT tK ?_;refine sT tK ?_;refine sE ?_;refine wKd ?_
  try simp only[go_sem,gA,gB,gC]
  refine wG tK ?_;refine wD (λh=>?_) (λh=>?_)
  ·refine wG tK ?_;refine wT ?_;rfl
  have he:g.r.err=0:=by simpa using h
  refine wG tK ?_;refine wC Tryz.func11 (hf:=(hdo2)) (hk:=?_);refine wG tK ?_
  rcases hlaw he with ⟨ha,h12⟩ | h0
  ·refine wDT (hb:=(by simp[ha,h12])) (hk:=?_);refine wG tK ?_;refine wT ?_;rfl
  ·refine wDF (hb:=Qh) (hk:=?_);refine wG tK ?_ (by simp only[go_sem,h0,bne_self_eq_false,beq_self_eq_true,cond_true,cond_false];try exact rfl) (by simp[go_sem,h0,bne_self_eq_false,beq_self_eq_true,cond_true,cond_false]);refine wT ?_;simp[h0]
end La
