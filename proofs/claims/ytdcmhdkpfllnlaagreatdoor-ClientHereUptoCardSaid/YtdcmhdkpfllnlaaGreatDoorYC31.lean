/- Texts of this claim, part 31: PCHere. No condition. -/
import Derived.Test.YtdcmhdkpfllnlaaGreatDoorYC20
set_option maxRecDepth 10000
set_option maxHeartbeats 4000000
set_option linter.unusedSimpArgs false
set_option linter.unusedVariables false
namespace La
open Go Go.Eng
def dO (t:List Node) (f:Int):Node×Int:=match ak t f with
 | some n=>(n,0)
 | none=>(al,6)
def tR (t:List Node):List (List UInt8)->Node×Int->Node×Int
 | [],q=>if q.2=0 then q else (al,q.2)
 | s::r,q=>if q.2≠0 then (al,q.2) else if q.1.dir=false then (al,8) else match av q.1 s with
  | none=>(al,6)
  | some f=>tR t r (dO t f)
def tGo (t:List Node) (l:List (List UInt8)):Node×Int:=tR t l (dO t 0)
theorem pM {B T:Nat} {u:U} (h:iF B T u) (ha:u.c.away=false) (f w:Int):((aU u f w).n,(aU u f w).e)=dO u.s.tree f:=by
 unfold aU dO;cases hn:aF u.c.cache f with
 | some n=>
  unfold aF at hn;obtain ⟨k,hk,rfl⟩:=YI.1 hn;have hm:=List.mem_of_find?_eq_some hk;have hf:k.node.fid=f:=by simpa using List.find?_some hk
  have ht:=((h.cli.here ha).2 k hm).2;have:ak u.s.tree f=some k.node:=(ZO h.srv.hist.bH.up).2 ⟨ht,hf⟩;rw[this]
 | none=>
  simp only[ha,Bool.false_eq_true,if_false];cases ak u.s.tree f<;>rfl
theorem xY {B:Nat} {t:List Node} (w:Int):∀(l:List (List UInt8)) (T:Nat) (g:Got),iF B T g.u->g.u.c.away=false->g.u.s.tree=t->((goR w l g).n,(goR w l g).e)=tR t l (g.n,g.e)
 | [],T,g,h,ha,ht=>by
  unfold goR tR;split
  ·rfl
  ·rfl
 | s::r,T,g,h,ha,ht=>by
  unfold goR tR;simp only;split
  ·rfl
  ·split
   ·rfl
   ·cases he:av g.n s with
    | none=>rfl
    | some f=>
     simp only;have hi:=dJ g.u f w;have h2:=xY (t:=t) w r (T+1) (aU g.u f w) (bA h f w) (hi.away.trans ha) (by rw[hi.s];exact ht);rw[h2,pM h ha f w,ht]
theorem sF {B T:Nat} {u:U} (h:iF B T u) (ha:u.c.away=false) (l:List (List UInt8)) (w:Int):((goU u l w).n,(goU u l w).e)=tGo u.s.tree l:=by
 have hi:=dJ u 0 w;unfold goU tGo;have:=xY (t:=u.s.tree) w l (T+1) (aU u 0 w) (bA h 0 w) (hi.away.trans ha) (by rw[hi.s]);rw[this,pM h ha 0 w]
def kB (kind:Int) (q:Node×Int):Reply:=
 if q.2≠0 then ⟨q.2,0,0,[]⟩
 else if kind=1 then (if q.1.dir=true then ⟨9,0,0,[]⟩ else ⟨0,0,0,q.1.data⟩)
 else if q.1.dir=true then ⟨0,0,0,ml q.1.entries⟩ else ⟨8,0,0,[]⟩
def B_ (kind:Int) (t:List Node) (path:List UInt8):Reply:=if (ae path).2≠0 then cA (ae path).2 else kB kind (tGo t (ae path).1)
theorem vp {B T:Nat} {u:U} (h:iF B T u) (ha:u.c.away=false) (x:Step) (hk:x.kind=1\/x.kind=2):(ai u x).r=B_ x.kind u.s.tree x.path:=by
 have hg:=sF h ha (ae x.path).1 0;unfold ai B_;rw[if_pos hk,←hg];split
 ·rfl
 ·rfl
def ik (t:List Node):Int->List (List UInt8)->Int×Int
 | k,[]=>(k,0)
 | k,s::r=>match ak t k with
  | none=>(0,12)
  | some n=>if n.dir=false then (0,8) else match av n s with
   | none=>(0,6)
   | some f=>ik t f r
theorem Af {n:Node} {s:List UInt8} {f:Int} (hu:EUp n.entries) (h:av n s=some f):(⟨s,f⟩:Entry)∈n.entries:=(YE hu).1 h
theorem tP {t:List Node} (hw:Wh t):∀(l:List (List UInt8)) (k:Int) (n:Node),ak t k=some n ->
  (∃j m,ik t k l=(j,0)/\ak t j=some m/\tR t l (n,0)=(m,0))\/(∃e,e≠0/\ik t k l=(0,e)/\tR t l (n,0)=(al,e))
 | [],k,n,h=>.inl ⟨k,n,rfl,h,rfl⟩
 | s::r,k,n,h=>by
  obtain ⟨hm,hf⟩:=(ZO hw.bH.up).1 h;unfold ik tR;rw[h];simp only[ne_eq,not_true_eq_false,if_false];split
  ·exact .inr ⟨8,by decide,rfl,rfl⟩
  ·cases he:av n s with
   | none=>exact .inr ⟨6,by decide,rfl,rfl⟩
   | some f=>
    have hed:=Af (hw.loc n hm).eup he;obtain ⟨m,hm2,hf2⟩:=hw.there n.fid s f ⟨n,hm,rfl,hed⟩;have hfm:ak t f=some m:=(ZO hw.bH.up).2 ⟨hm2,hf2⟩;simp only;rw[show dO t f=(m,0) by unfold dO;rw[hfm]];exact tP hw r f m hfm
theorem Et {B T:Nat} {u:U} (h:iF B T u) (ha:u.c.away=false) (x:Step) (hk:x.kind=1) :
  ((ae x.path).2≠0->(ai u x).r.err=(ae x.path).2) /\
  ((ae x.path).2=0->(ik u.s.tree 0 (ae x.path).1).2≠0->(ai u x).r.err=(ik u.s.tree 0 (ae x.path).1).2) /\
  ((ae x.path).2=0->(ik u.s.tree 0 (ae x.path).1).2=0->∃m,ak u.s.tree (ik u.s.tree 0 (ae x.path).1).1=some m /\
   (m.dir=true->(ai u x).r.err=9)/\(m.dir=false->(ai u x).r.err=0/\(ai u x).r.data=m.data)):=by
 have hs:=vp h ha x (.inl hk);obtain ⟨n,hn,hf,hd⟩:=h.srv.hist.whole.root;have hroot:ak u.s.tree 0=some n:=(ZO h.srv.hist.bH.up).2 ⟨hn,hf⟩;have hg:tGo u.s.tree (ae x.path).1=tR u.s.tree (ae x.path).1 (n,0):=by unfold tGo dO;rw[hroot]
 rw[hs];unfold B_;rw[hg,hk];refine ⟨λh1=>by rw[if_pos h1];rfl,λh1 h2=>?_,λh1 h2=>?_⟩
 ·rw[if_neg (by simp[h1])]
  rcases tP h.srv.hist.whole (ae x.path).1 0 n hroot with ⟨j,m,h3,_,h4⟩ | ⟨e,h3,h4,h5⟩
  ·rw[h3] at h2;exact absurd rfl h2
  ·rw[h4,h5];unfold kB;rw[if_pos h3]
 ·rw[if_neg (by simp[h1])]
  rcases tP h.srv.hist.whole (ae x.path).1 0 n hroot with ⟨j,m,h3,h4,h5⟩ | ⟨e,h3,h4,h5⟩
  ·rw[h3,h5];refine ⟨m,h4,λh6=>?_,λh6=>?_⟩
   ·unfold kB;simp[h6]
   ·unfold kB;simp[h6]
  ·rw[h4] at h2;exact absurd h2 h3
end La
