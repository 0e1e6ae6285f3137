/- Texts of this claim, part 18: PRank, PGood, TSame, Ali2, Hof, Fid, Srv, Srv2, Cach, Cach2, Unl. No condition. -/
import Derived.Test.YtmcfbfdonjllaaaGreatDoorZP17
set_option maxRecDepth 10000
set_option maxHeartbeats 4000000
set_option linter.unusedSimpArgs false
set_option linter.unusedVariables false
namespace La
open Go Go.Eng
def lW (r:Int->Nat) (l:List Node):Prop:=∀n,n∈l->∀e,e∈n.entries->r e.fid<r n.fid
inductive Reach (l:List Node):Int->Int->Prop
 | refl (k:Int):Reach l k k
 | head (n:Node) (e:Entry) (t:Int) (hn:n∈l) (he:e∈n.entries) (h:Reach l e.fid t):Reach l n.fid t
theorem Reach.tail {l:List Node} {k:Int} {n:Node} (hn:n∈l) {e:Entry} (he:e∈n.entries) (h:Reach l k n.fid):Reach l k e.fid:=by
 generalize ht:n.fid=t at h
 induction h with
 | refl k=>subst ht;exact .head n e _ hn he (.refl _)
 | head m d t hm hd h ih=>exact .head m d _ hm hd (ih ht)
theorem rZ {l:List Node} (hu:Up l) {r:Int->Nat} (hr:lW r l) (t:Int):∀(f:Nat) (k:Int),r k<f->∃b,br l t f k=some b
 | 0,k,h=>by omega
 | f+1,k,h=>by
  rw[br];split
  ·exact ⟨_,rfl⟩
  ·cases e:ak l k with
   | none=>exact ⟨_,rfl⟩
   | some n=>
    obtain ⟨hn,hk⟩:=(ZO hu).1 e;simp only;rw[if_pos (List.all_eq_true.2 λx hx=>by
     have h1:=hr n hn x hx;obtain ⟨b,hb⟩:=rZ hu hr t f x.fid (by rw[hk] at h1;omega);rw[hb,Option.isSome_some,Bool.or_true])]
    exact ⟨_,rfl⟩
theorem pZ {l:List Node} (hu:Up l) {r:Int->Nat} (hr:lW r l) {k t:Int} (h:Reach l k t):∀(f:Nat) (b:Bool),br l t f k=some b->b=true:=by
 induction h with
 | refl k=>
  intro f b hb;cases f with
  | zero=>cases hb
  | succ f=>rw[br,if_pos rfl] at hb;injection hb with hb;exact hb.symm
 | head n e t hn he h ih=>
  intro f b hb;cases f with
  | zero=>cases hb
  | succ f=>
   rw[br] at hb;split at hb
   ·injection hb with hb;exact hb.symm
   ·rw[(ZO hu).2 ⟨hn,rfl⟩] at hb;simp only at hb;split at hb
    ·rename_i hall;injection hb with hb
     rw[<-hb,List.any_eq_true];have hne:decide (e.fid=n.fid)=false:=decide_eq_false λh0=>by have:=hr n hn e he;rw[h0] at this;omega
     have h1:=List.all_eq_true.1 hall e he;rw[hne,Yz] at h1;refine ⟨e,he,?_⟩;cases h2:br l t f e.fid with
     | none=>rw[h2] at h1;cases h1
     | some c=>rw[hne,ih f c h2];rfl
    ·cases hb
theorem om {l:List Entry} {s:List UInt8} {f:Int} {x:Entry} (h:x∈bD l s f):x=⟨s,f⟩\/x∈l:=by
 unfold bD at h;split at h
 ·rcases Yl h with h | h
  ·exact .inr h
  ·exact .inl h
 ·rcases List.mem_append.1 h with h | h
  ·exact .inr (YJ h)
  ·rcases List.mem_cons.1 h with h | h
   ·exact .inl h
   ·exact .inr (Yb h)
theorem lB {l:List Entry} {s:List UInt8} {x:Entry} (h:x∈dp l s):x∈l:=(YL.1 h).1
theorem fW {l:List Node} {n x:Node} (h:x∈aJ l n):x=n\/x∈l:=by
 unfold aJ at h;split at h
 ·rcases Yl h with h | h
  ·exact .inr h
  ·exact .inl h
 ·rcases List.mem_append.1 h with h | h
  ·exact .inr (YJ h)
  ·rcases List.mem_cons.1 h with h | h
   ·exact .inl h
   ·exact .inr (Yb h)
structure Good (l:List Node):Prop where
 up:Up l
 dd:∃r,lW r l
 len:l.length<=24
 data:∀n,n∈l->n.data.length<=20
 ent:∀n,n∈l->n.entries.length<=6
theorem Good.ends {l:List Node} (h:Good l) (t k:Int):∃f,br l t f k=some (kj l t k):=by
 obtain ⟨r,hr⟩:=h.dd;obtain ⟨b,hb⟩:=rZ h.up hr t (r k+1) k z8;exact ⟨_,by rw[Cs hb];exact hb⟩
theorem je {l:List Node} {k:Int} (h:eH l k=0):∃n,ak l k=some n/\ar l k=n/\n.dir=true:=by
 unfold eH at h;unfold ar;cases e:ak l k with
 | none=>rw[e] at h;cases h
 | some n=>
  rw[e] at h;simp only at h;cases hd:n.dir with
  | false=>rw[hd] at h;cases h
  | true=>exact ⟨n,rfl,rfl,hd⟩
theorem sL {l:List Node} {n:Node} (h:bf l n.fid=true):(aJ l n).length=l.length:=by
 unfold aJ;rw[if_pos h,YR]
theorem lx {l:List Node} {k:Int} {n:Node} (h:ak l k=some n):bf l k=true:=by rw[cK,h];rfl
theorem tB (l:List Entry) (s:List UInt8) (f:Int):(bD l s f).length<=l.length+1:=by
 unfold bD;split
 ·simp
 ·have:=qk l s;simp;omega
theorem tZ (l:List Entry) (s:List UInt8):(dp l s).length<=l.length:=YB _ _
theorem uv {n:Node} {s:List UInt8} (h:bX n s=0):n.entries.length<=5:=by
 unfold bX at h;split at h
 ·split at h
  ·cases h
  ·split at h
   ·cases h
   ·omega
 ·cases h
end La
namespace La
open Go Go.Eng Go.Proofs Go.Proofs.Tryz
theorem qz {l:List Node} (h:Good l) (a:Act) (v:Int) (he:cV l a=0):Good (dU l a v):=by
 have hL:dU l a v=aJ (aJ l { aB (ar l a.dir) a.name a.fid with version:=v }) (dT a v):=by unfold dU;rw[if_pos he]
 rw[hL];unfold cV at he;split at he
 ·rename_i hd;obtain ⟨n,hf,hg,_⟩:=je hd;rw[hg] at he ⊢;obtain ⟨hn,hnk⟩:=(ZO h.up).1 hf;split at he
  ·rename_i hro;have h5:=uv hro;split at he
   ·cases he
   ·rename_i hnew;have hno:bf l a.fid=false:=by
     cases e:bf l a.fid with
     | false=>rfl
     | true=>rw[e] at hnew;exact absurd rfl hnew
    have hnoN:∀x,x∈l->x.fid≠a.fid:=(eO h.up).1 (by
     cases e:ak l a.fid with
     | none=>rfl
     | some m=>rw[lx e] at hno;cases hno)
    split at he
    ·cases he
    ·rename_i h24;obtain ⟨r,hr⟩:=h.dd;have hfid:({ aB n a.name a.fid with version:=v }:Node).fid=n.fid:=rfl;have hu1:=bq h.up { aB n a.name a.fid with version:=v };refine ⟨(bq hu1.1 (dT a v)).1,⟨λx=>if x=a.fid then 0 else r x+1,λx hx e hx2=>?_⟩,?_,λx hx=>?_,λx hx=>?_⟩
     ·rcases fW hx with rfl | hx
      ·simp[dT] at hx2
      ·rcases fW hx with rfl | hx
       ·have hnf:n.fid≠a.fid:=hnoN n hn;have hx3:e∈bD n.entries a.name a.fid:=hx2
        show (if e.fid=a.fid then 0 else r e.fid+1)<(if n.fid=a.fid then 0 else r n.fid+1)
        rw[if_neg hnf]
        rcases om hx3 with rfl | hx3
        ·simp
        ·have:=hr n hn e hx3;split<;>omega
       ·have hnf:x.fid≠a.fid:=hnoN x hx;have:=hr x hx e hx2;simp only;rw[if_neg hnf];split<;>omega
     ·have h1:=rR (aJ l { aB n a.name a.fid with version:=v }) (dT a v);have h2:(aJ l { aB n a.name a.fid with version:=v }).length=l.length:=sL (by rw[hfid,hnk];exact lx hf);omega
     ·rcases fW hx with rfl | hx
      ·simp[dT]
      ·rcases fW hx with rfl | hx
       ·exact h.data n hn
       ·exact h.data x hx
     ·rcases fW hx with rfl | hx
      ·simp[dT]
      ·rcases fW hx with rfl | hx
       ·have:=tB n.entries a.name a.fid
        show (bD n.entries a.name a.fid).length<=6
        omega
       ·exact h.ent x hx
  ·rename_i hro;exact absurd he hro
 ·rename_i hd;exact absurd he hd
theorem tP {l:List Node} (h:Good l) (a:Act) (v:Int) (he:e_ l a=0):Good (ez l a v):=by
 have hL:ez l a v=aJ l { ar l a.fid with data:=a.data,version:=v }:=by unfold ez;rw[if_pos he]
 rw[hL];unfold e_ at he;cases hf:ak l a.fid with
 | none=>rw[hf] at he;cases he
 | some n=>
  rw[hf] at he;simp only at he;obtain ⟨hn,hnk⟩:=(ZO h.up).1 hf;have hg:ar l a.fid=n:=by unfold ar;rw[hf];rfl
  rw[hg];split at he
  ·cases he
  ·split at he
   ·cases he
   ·rename_i h20;obtain ⟨r,hr⟩:=h.dd;refine ⟨(bq h.up _).1,⟨r,λx hx e hx2=>?_⟩,?_,λx hx=>?_,λx hx=>?_⟩
    ·rcases fW hx with rfl | hx
     ·exact hr n hn e hx2
     ·exact hr x hx e hx2
    ·rw[sL (by show bf l n.fid=true;rw[hnk];exact lx hf)];exact h.len
    ·rcases fW hx with rfl | hx
     ·show a.data.length<=20;omega
     ·exact h.data x hx
    ·rcases fW hx with rfl | hx
     ·exact h.ent n hn
     ·exact h.ent x hx
theorem mV {l:List Node} {a:Act} (h:bF l a=0):∃n,ak l a.dir=some n/\ar l a.dir=n:=by
 unfold bF at h;split at h
 ·rename_i hd;obtain ⟨n,h1,h2,_⟩:=je hd;exact ⟨n,h1,h2⟩
 ·rename_i hd;exact absurd h hd
theorem tO {l:List Node} (h:Good l) {n:Node} (hn:n∈l) (hf:ak l n.fid=some n) (s:List UInt8) (v:Int) {r:Int->Nat} (hr:lW r l) :
  Good (aJ l { aE n s with version:=v })/\lW r (aJ l { aE n s with version:=v }):=by
 have hr2:lW r (aJ l { aE n s with version:=v }):=λx hx e hx2=>by
  rcases fW hx with rfl | hx
  ·exact hr n hn e (lB hx2)
  ·exact hr x hx e hx2
 refine ⟨⟨(bq h.up _).1,⟨r,hr2⟩,?_,λx hx=>?_,λx hx=>?_⟩,hr2⟩
 ·rw[sL (by show bf l n.fid=true;exact lx hf)];exact h.len
 ·rcases fW hx with rfl | hx
  ·exact h.data n hn
  ·exact h.data x hx
 ·rcases fW hx with rfl | hx
  ·have:=tZ n.entries s;have:=h.ent n hn
   show (dp n.entries s).length<=6
   omega
  ·exact h.ent x hx
theorem rA {l:List Node} (h:Good l) (a:Act) (v:Int) (he:cN l a=0):Good (cO l a v):=by
 have hL:cO l a v=eM (aJ l { aE (ar l a.dir) a.name with version:=v }) a.fid:=by unfold cO;rw[if_pos he]
 rw[hL];unfold cN at he;split at he
 ·rename_i hnm;obtain ⟨n,hf,hg⟩:=mV hnm;rw[hg];obtain ⟨hn,hnk⟩:=(ZO h.up).1 hf;obtain ⟨r,hr⟩:=h.dd;obtain ⟨h1,hr1⟩:=tO h hn (by rw[hnk];exact hf) a.name v hr;have hsub:∀x,x∈eM (aJ l { aE n a.name with version:=v }) a.fid->x∈aJ l { aE n a.name with version:=v }:=λx hx=>(YL.1 hx).1
  refine ⟨(il h1.up a.fid).1,⟨r,λx hx e hx2=>hr1 x (hsub x hx) e hx2⟩,?_,λx hx=>h1.data x (hsub x hx),λx hx=>h1.ent x (hsub x hx)⟩;have:=YB (λn:Node=>!(n.fid==a.fid)) (aJ l { aE n a.name with version:=v });have:=h1.len;unfold eM;omega
 ·rename_i hnm;exact absurd he hnm
open Classical in
theorem rB {l:List Node} (h:Good l) (a:Act) (v:Int) (he:du l a=0):Good (dj l a v):=by
 have hL:dj l a v=aJ (if a.to=a.dir then l else aJ l { aE (ar l a.dir) a.name with version:=v }) { aB (toN l a) a.toName a.fid with version:=v }:=by unfold dj;rw[if_pos he]
 rw[hL];unfold du at he;split at he
 ·rename_i hnm;obtain ⟨n,hf,hg⟩:=mV hnm;obtain ⟨hn,hnk⟩:=(ZO h.up).1 hf;split at he
  ·rename_i hdt;obtain ⟨t,htf,htg,_⟩:=je hdt;obtain ⟨htm,htk⟩:=(ZO h.up).1 htf;split at he
   ·rename_i hro;have h5:=uv hro;split at he
    ·split at he
     ·cases he
     ·rename_i hwb;obtain ⟨f,hw⟩:=h.ends a.to a.fid;obtain ⟨r,hr⟩:=h.dd;have hnr:¬Reach l a.fid a.to:=λhR=>by
       have:=pZ h.up hr hR f _ hw;exact hwb this
      -- the node that gets the entry: that directory, some entries less
      have hTf:(toN l a).fid=a.to:=by
       unfold toN;split
       ·rename_i htd;show (ar l a.dir).fid=a.to;rw[hg,hnk,htd]
       ·rw[htg,htk]
      have hTe:∀e,e∈(toN l a).entries->e∈t.entries:=λe hx=>by
       unfold toN at hx;split at hx
       ·rename_i htd;have h1:=lB hx;rw[hg] at h1;rw[htd,hf] at htf;injection htf with htf
        rwa [<-htf]
       ·rwa [htg] at hx
      have hTd:(toN l a).data.length<=20:=by
       unfold toN;split
       ·show (ar l a.dir).data.length<=20;rw[hg];exact h.data n hn
       ·rw[htg];exact h.data t htm
      have key:∀l1:List Node,Up l1->(∀x,x∈l1->x.data.length<=20/\x.entries.length<=6)->l1.length<=24->bf l1 a.to=true ->
        (∀x,x∈l1->∃y,y∈l/\y.fid=x.fid/\∀e,e∈x.entries->e∈y.entries)->Good (aJ l1 { aB (toN l a) a.toName a.fid with version:=v }):=λl1 hu1 hs1 hl1 ha1 hsub=>by
       let q:Int->Nat:=λx=>if Reach l a.fid x then r x else r x+(r a.fid+1)
       have hq:∀y,y∈l->∀e,e∈y.entries->q e.fid<q y.fid:=λy hy e hx=>by
        have h1:=hr y hy e hx
        show (if Reach l a.fid e.fid then r e.fid else r e.fid+(r a.fid+1))<(if Reach l a.fid y.fid then r y.fid else r y.fid+(r a.fid+1))
        by_cases hR:Reach l a.fid y.fid
        ·rw[if_pos hR,if_pos (hR.tail hy hx)];exact h1
        ·rw[if_neg hR];split<;>omega
       refine ⟨(bq hu1 _).1,⟨q,λx hx e hx2=>?_⟩,?_,λx hx=>?_,λx hx=>?_⟩
       ·rcases fW hx with rfl | hx
        ·have hx3:e∈bD (toN l a).entries a.toName a.fid:=hx2
         show q e.fid<q (toN l a).fid
         rw[hTf]
         rcases om hx3 with rfl | hx3
         ·show (if Reach l a.fid a.fid then r a.fid else r a.fid+(r a.fid+1))<(if Reach l a.fid a.to then r a.to else r a.to+(r a.fid+1))
          rw[if_pos (.refl _),if_neg hnr];omega
         ·have:=hq t htm e (hTe e hx3)
          rwa [htk] at this
        ·obtain ⟨y,hy,hyf,hye⟩:=hsub x hx;have:=hq y hy e (hye e hx2)
         rwa [hyf] at this
       ·rw[sL (by show bf l1 (toN l a).fid=true;rw[hTf];exact ha1)];exact hl1
       ·rcases fW hx with rfl | hx
        ·exact hTd
        ·exact (hs1 x hx).1
       ·rcases fW hx with rfl | hx
        ·have:=tB (toN l a).entries a.toName a.fid
         show (bD (toN l a).entries a.toName a.fid).length<=6
         omega
        ·exact (hs1 x hx).2
      split
      ·exact key l h.up (λx hx=>⟨h.data x hx,h.ent x hx⟩) h.len (lx htf) (λx hx=>⟨x,hx,rfl,λ_ h=>h⟩)
      ·rename_i htd;rw[hg];obtain ⟨h1,_⟩:=tO h hn (by rw[hnk];exact hf) a.name v hr;refine key _ h1.up (λx hx=>⟨h1.data x hx,h1.ent x hx⟩) h1.len ?_ (λx hx=>?_)
       ·have:ak (aJ l { aE n a.name with version:=v }) a.to=some t:=by
         rw[qp h.up,if_neg (λe=>htd (e.trans (show n.fid=a.dir from hnk)))];exact htf
        exact lx this
       ·rcases fW hx with rfl | hx
        ·exact ⟨n,hn,rfl,λe hx2=>lB hx2⟩
        ·exact ⟨x,hx,rfl,λ_ h=>h⟩
    ·cases he
   ·rename_i hro;exact absurd he hro
  ·rename_i hdt;exact absurd he hdt
 ·rename_i hnm;exact absurd he hnm
theorem fH {l:List Node} (h:Good l) (a:Act) (v:Int) (he:aG l a=0):Good (aK l a v):=by
 unfold aG at he;unfold aK;split at he
 ·rename_i h1;rw[if_pos h1];exact qz h a v he
 ·rename_i h1;rw[if_neg h1];split at he
  ·rename_i h2;rw[if_pos h2];exact qz h a v he
  ·rename_i h2;rw[if_neg h2];split at he
   ·rename_i h3;rw[if_pos h3];exact tP h a v he
   ·rename_i h3;rw[if_neg h3];split at he
    ·rename_i h4;rw[if_pos h4];exact rA h a v he
    ·rename_i h4;rw[if_neg h4];split at he
     ·rename_i h5;rw[if_pos h5];exact rB h a v he
     ·cases he
theorem vR:Good [⟨0,true,[],[],0⟩]:=⟨by unfold Up;simp,⟨λ_=>0,λn hn e he=>by rw[List.mem_singleton.1 hn] at he;simp at he⟩,by simp,λn hn=>by rw[List.mem_singleton.1 hn];simp,λn hn=>by rw[List.mem_singleton.1 hn];simp⟩
theorem Good.small {l:List Node} (h:Good l):Small l:=⟨by have:=h.len;omega,λn hn=>⟨by have:=h.data n hn;omega,by have:=h.ent n hn;omega⟩⟩
theorem Good.fit {l:List Node} (h:Good l) {a:Act} (h1:a.name.length<=100000000) (h2:a.toName.length<=100000000) (h3:a.data.length<=100000000):FitA l a:=
 ⟨h.small,by have:=h.len;omega,λn hn=>by have:=h.ent n hn;omega,h1,h2,h3⟩
structure ActFit (a:Act):Prop where
 name:a.name.length<=100000000
 toName:a.toName.length<=100000000
 data:a.data.length<=100000000
theorem lb {l:List Node} (h:Good l) (a:Act) (v:Int) (ha:ActFit a):Fo 109 [.sl (l.map ZN),.agg (ZA a),.int .i64 v] (oh l a v):=by
 obtain ⟨f,hf⟩:=h.ends a.to a.fid;exact E8 l a v (h.fit ha.name ha.toName ha.data) (λ_=>Ec l a v (h.fit ha.name ha.toName ha.data) f hf)
theorem xo (a b:List Node) (ha:Small a) (hb:Small b):Fo 121 [.sl (a.map ZN),.sl (b.map ZN),.fn 122 []] (.bool (gO false a b)):=by
 have hla:=ha.len;have hlb:=hb.len;refine wS func121 ntmps121 results121 λC=>?_
 refine wGD (λh=>?_) (λh=>?_)
 ·have hne:gO false a b=false:=by
   cases e:gO false a b with
   | false=>rfl
   | true=>have:=((kY false a b).1 e).1;simp[this] at h
  refine wGT ?_;simp[hne]
 have hl:a.length=b.length:=by simp at h;omega
 refine wG ?_;refine ZL (λi:Nat=>i<=a.length/\∀j,j<i->dg false (a.getD j default) (b.getD j default)=true) (λi=>a.length-i) (λi=>(7,.any)::(8,.any)::(9,.any)::(17,.int .i64 i)::u0 18 14 []) (λ_=>[]) 0 ⟨by omega,by omega⟩ ?_ λi hi=>?_
 ·exact wZ
 obtain ⟨hi,hs⟩:=hi;simp only[go_sem];refine wGD (λh=>?_) (λh=>?_)
 ·have hlt:=lt1 h;have hltb:i<b.length:=by omega
  have hga:=Fam.getD (f:=ZN) hlt;have hgb:=Fam.getD (f:=ZN) hltb;have hsm:=Ev _ _ (ha.each _ (YG hlt)) (hb.each _ (YG hltb));have hno:dg false (a.getD i default) (b.getD i default)=false->gO false a b=false:=λh0=>by
   cases e:gO false a b with
   | false=>rfl
   | true=>rw[((kY false a b).1 e).2 i hlt] at h0;cases h0
  have hyes:dg false (a.getD i default) (b.getD i default)=true->∀j,j<i+1->dg false (a.getD j default) (b.getD j default)=true:=λh0 j hj=>by
   rcases Nat.lt_succ_iff_lt_or_eq.1 hj with h1 | rfl
   ·exact hs j h1
   ·exact h0
  clear hs;generalize a.getD i default=x at hga hsm hno hyes;generalize b.getD i default=y at hgb hsm hno hyes;refine wGq ?_ ?_ (by simp only[go_sem,hga,hgb,ZN];try exact rfl)
  ·simp[hga,hgb,ZN,hlt,hltb]
  refine wC ?_ func122 (hf:=hsm);refine wGD (λh=>?_) (λh=>?_)
  ·have h0:dg false x y=false:=by simpa using h
   have:=hno h0;refine wGT ?_;simp[this]
  ·have h0:dg false x y=true:=by simpa using h
   have hw:=wi1 (i:=i) z8;refine wG ?_ w4 y7;refine ZB ⟨i+1,⟨by omega,hyes h0⟩,by omega,ZU ?_ ?_ ?_⟩
   ·simp[go_sem]
   ·simp[go_sem]
   ·simp[go_sem]
 ·obtain rfl:=eq1 hi h;have hab:gO false a b=true:=(kY false a b).2 ⟨hl,hs⟩;refine wGT ?_;simp[hab]
theorem kf (a b:List Node) (ha:Small a) (hb:Small b):Fo 84 [.sl (a.map ZN),.sl (b.map ZN)] (.bool (gO false a b)):=by
 refine wSG func84 ntmps84 results84 λC=>?_
 refine wC ?_ func121 (hf:=xo a b ha hb);refine wGT ?_;rfl
def gN:Node:=⟨0,true,[],[],0⟩
theorem kx (l:List Rec) (hlen:l.length<=100000000) {f:FuncId} {caps:List AV} {p:Rec->Bool} (hcal:aH prog f) (hpure:(caps.all AV.aT)=true)
  (hf:∀x,x∈l->ai prog f (.agg (ZR x)::caps) [] (λr _=>r=.bool (p x))) :
  Fo 186 [.sl (l.map ZR),.fn f caps] (.int .i64 (cq (l.findIdx? p))):=by
 have hcaps:=cf hpure;refine wSG func186 ntmps186 results186 λC=>?_
 refine ZL (λi:Nat=>i<=l.length/\∀x,x∈l.take i->p x=false) (λi=>l.length-i) (λi=>(8,.int .i64 i)::(5,.any)::u0 9 10 []) (λ_=>[]) 0 ⟨by omega,by simp⟩ ?_ λi hi=>?_
 ·simp only[go_sem];exact ZU w3 w3 k9
 obtain ⟨hi,hno⟩:=hi;simp only[go_sem];refine wGD (λh=>?_) (λh=>?_)
 ·have hlt:=lt1 h;have hn:=hf _ (YG hlt);have hg:=Fam.getD (f:=ZR) hlt;have htk:=ZT hlt;have hgi:l[i]? = some (l.getD i default):=by rw[List.getD_eq_getElem?_getD,W3 hlt];rfl
  generalize l.getD i default=n at hn hg htk hgi;refine wGq ?_ ?_ u7
  ·simp[hlt,ZR]
  refine dC rfl rfl z7 w3 hcal k9 (hn) w3 z6 ?_;refine wGD (λh=>?_) (λh=>?_)
  ·refine wGT ?_;rw[eN hgi hno h];rfl
  ·have hw:IntKind.i64.wrap ((i:Int)+1)=(i:Int)+1:=wrap_small z8 z8;refine wG ?_ w4 y7;refine ZB ⟨i+1,⟨by omega,?_⟩,by omega,ZU ?_ ?_ ?_⟩
   ·rw[htk];intro x hx
    rcases List.mem_append.1 hx with hx | hx
    ·exact hno x hx
    ·rw[List.mem_singleton.1 hx];exact h
   ·simp[go_sem]
   ·simp[go_sem]
   ·simp[go_sem,hcaps]
 ·have e:i=l.length:=by simp at h;omega
  refine wGT ?_;rw[e,W7] at hno;rw[YO.2 hno];rfl
theorem qR (l:List Rec) (hlen:l.length<=100000000) {f:FuncId} {caps:List AV} {p:Rec->Bool} (hcal:aH prog f) (hpure:(caps.all AV.aT)=true)
  (hf:∀x,x∈l->ai prog f (.agg (ZR x)::caps) [] (λr _=>r=.bool (p x))) :
  Fo 183 [.sl (l.map ZR),.fn f caps] (.bool (l.any p)):=by
 have hcaps:=cf hpure;refine wSG func183 ntmps183 results183 λC=>?_
 refine dC rfl rfl z7 w3 ⟨_,func186,by kernel_rfl,rfl⟩ k9 (kx l hlen hcal hpure hf) w3 z6 ?_;refine wGT ?_;rw[mM]
theorem ng (l:List Rec) (hlen:l.length<=100000000) (id:Nat) {f:FuncId} {caps:List AV} {p:Rec->Bool} (hcal:aH prog f) (hpure:(caps.all AV.aT)=true) (hid:id≠7)
  (hf:∀x,x∈l->ai prog f (.agg (ZR x)::caps) [] (λr _=>r=.bool (p x))) :
  ai prog 153 [.osl id 9 0 l.length,.fn f caps] [(id,.cells 51 9 (l.map ZR))] (λr H=>r=.osl id 9 0 (l.filter λx=>!p x).length /\
   ∀i b,aa [(id,.cells 51 9 ((l.filter λx=>!p x).map ZR++List.replicate (l.length-(l.filter λx=>!p x).length) [.int .i64 0,.int .i64 0,.int .i64 0,.str [],.int .i64 0,.str [],.nils,.int .i64 0,.int .i64 0]))] i=some b->aa H i=some b):=by
 have hcaps:=cf hpure;obtain ⟨q,hv,hq⟩:=fN hpure;refine wSG func153 ntmps153 results153 λC=>?_
 refine ny rfl rfl z7 w3 QZ Z5 ⟨_,func186,by kernel_rfl,rfl⟩ (kx l hlen hcal hpure hf) w3 z6 ?_;refine wGD (λh=>?_) (λh=>?_)
 ·refine wGT ?_;have hn:l.findIdx? p=none:=by
   cases e:l.findIdx? p with
   | none=>rfl
   | some k=>rw[e] at h;simp[cq] at h
  have hfl:l.filter (λx=>!p x)=l:=Ye.2 λx hx=>by
   simp[YO.1 hn x hx]
  rw[hfl];simp[aa]
 obtain ⟨k,hk⟩:∃k,l.findIdx? p=some k:=by
  cases e:l.findIdx? p with
  | none=>rw[e] at h;simp[cq] at h
  | some k=>exact ⟨k,rfl⟩
 have hkl:k<l.length:=(YN.1 hk).1;have hsp:=fi hk;rw[hk];have hw:IntKind.i64.wrap ((k:Int)+1)=((k+1:Nat):Int):=by rw[Eng.wrap_small z8 z8];rfl
 simp only[cq];refine wG ?_ w4 y7;refine ZL (λs:Nat×List Rec=>DelInv p l s.1 s.2) (λs=>l.length-s.1) (λs=>(5,.int .i64 (((l.take s.1).filter λx=>!p x).length:Nat))::(6,.int .i64 (s.1:Nat))::(7,.any)::u0 16 20 []) (λs=>[(id,.cells 51 9 (s.2.map ZR))]) (k+1,l) (DelInv.start hk) ?_ λs hs=>?_
 ·have el:((l.take (k+1)).filter λx=>!p x).length=k:=by rw[hsp];simp;omega
  simp only[go_sem,el];exact ZU w3 w3 k9
 obtain ⟨j,L⟩:=s;have hjl:=hs.le;have hL:=hs.len;have hlt:=hs.lt;simp only at hs hjl hL hlt;simp only[go_sem];refine wGD (λh=>?_) (λh=>?_)
 ·have hj:=lt1 h;have hn:=hf _ (YG hj);have hg:(L.map ZR).getD j []=ZR (l.getD j default):=by rw[Fam.getD z8,hs.get hj]
  have hkeep:=hs.F0 hj;have hskip:=hs.skip hj;have htk:=ZT hj;generalize l.getD j default=n at hn hg hkeep hskip htk;refine wGq ?_ ?_ (by simp only[go_sem,hg,ZR,hid,Ne.symm hid];try exact rfl)
  ·simp[ZR];omega
  refine dC rfl rfl z7 w3 hcal k9 (hn) w3 z6 ?_;generalize hm:((l.take j).filter λx=>!p x).length=m at hkeep hlt;have hw1:IntKind.i64.wrap ((j:Int)+1)=((j+1:Nat):Int):=by rw[Eng.wrap_small z8 z8];rfl
  have hw2:IntKind.i64.wrap ((m:Int)+1)=((m+1:Nat):Int):=by rw[Eng.wrap_small z8 z8];rfl
  refine wG ?_ QW WO;refine wD (λh=>?_) (λh=>?_)
  ·have hp:p n=false:=by simpa using h
   obtain ⟨hk1,hk2⟩:=hkeep hp;have aF:=pU ZR L m n;simp only[ZR] at aF;have hgl:(L.map ZR).getD m []=ZR (L.getD m default):=Fam.getD z8;simp only[ZR] at hgl;refine wGq ?_ ?_ v7
   ·simp[hid,Ne.symm hid];omega
   exact ZB ⟨(j+1,L.set m n),hk1,by simp only;omega,ZU QL Qd Qb⟩
  ·have hp:p n=true:=by simpa using h
   refine wG ?_ n4 Qc;have hsame:((l.take (j+1)).filter λx=>!p x).length=m:=by
    rw[<-hm,htk,List.filter_append];simp only[List.filter_cons,hp,Bool.not_true,Bool.false_eq_true,if_false,List.filter_nil,List.append_nil]
   exact ZB ⟨(j+1,L),hskip hp,by simp only;omega,ZU Zf Qo k9⟩
 have e:j=l.length:=by simp at h;omega
 subst e;have hfin:=hs.fin;rw[W7];generalize hd:(l.filter λx=>!p x)=d at *;have hdl:d.length<=l.length:=by rw[<-hd];exact YB _ _
 have hcl:=js ZR (d:=d) (L:=L) [.int .i64 0,.int .i64 0,.int .i64 0,.str [],.int .i64 0,.str [],.nils,.int .i64 0,.int .i64 0] hfin z8;rw[hL] at hcl;refine wGq ?_ ?_ n9
 ·simp only[not_false_eq_true,true_and];omega
 refine wT ?_;simp[aa]
theorem xt (a:Act):Fo 126 [.agg (ZA a)] (.sl ((cw a).map ZI)):=by
 unfold ZA;refine wS func126 ntmps126 results126 λC=>?_
 refine wGD (λh=>?_) (λh=>?_)
 ·refine wG ?_;refine ZZ 9 rfl (rfl) (wn ?_);refine wT ?_;simp[go_sem,cw,ZI,eq_of_beq h]
 ·refine wG ?_;have h1:a.kind≠3:=by simpa using h
  refine wD (λh=>?_) (λh=>?_)
  ·refine wG ?_;refine ZZ 18 rfl (rfl) (wn ?_);refine wT ?_;have h2:a.kind=5:=by simpa using h
   simp[go_sem,cw,ZI,h2]
  ·refine wG ?_;refine ZZ 23 rfl (rfl) (wn ?_);refine wT ?_;have h2:a.kind≠5:=by simpa using h
   simp[go_sem,cw,ZI,h1,h2]
theorem fA (a:Act):(cw a).length<=3:=by
 unfold cw;split
 ·simp
 ·split<;>simp
theorem FV (l:List Int) (hlen:l.length<=100000000) (v:Int):Fo 217 [.sl (l.map ZI),.int .i64 v] (.int .i64 (cq (l.findIdx? (v==·)))):=by
 refine wSG func217 ntmps217 results217 λC=>?_
 refine ZL (λi:Nat=>i<=l.length/\∀x,x∈l.take i->(v==x)=false) (λi=>l.length-i) (λi=>(8,.int .i64 i)::(5,.any)::u0 9 10 []) (λ_=>[]) 0 ⟨by omega,by simp⟩ ?_ λi hi=>?_
 ·exact wY
 obtain ⟨hi,hno⟩:=hi;simp only[go_sem];refine wGD (λh=>?_) (λh=>?_)
 ·have hlt:=lt1 h;have hg:=Fam.getD (f:=ZI) hlt;have htk:=ZT hlt;have hgi:l[i]? = some (l.getD i default):=by rw[List.getD_eq_getElem?_getD,W3 hlt];rfl
  generalize l.getD i default=n at hg htk hgi;refine wGq ?_ ?_ Zl
  ·simp[hlt]
  refine wD (λh=>?_) (λh=>?_)
  ·refine wGT ?_;rw[eN hgi hno h];rfl
  ·have hw:IntKind.i64.wrap ((i:Int)+1)=(i:Int)+1:=wrap_small z8 z8;refine wG ?_ w4 y7;refine ZB ⟨i+1,⟨by omega,?_⟩,by omega,ZU ?_ ?_ ?_⟩
   ·rw[htk];intro x hx
    rcases List.mem_append.1 hx with hx | hx
    ·exact hno x hx
    ·rw[List.mem_singleton.1 hx];exact h
   ·simp[go_sem]
   ·simp[go_sem]
   ·simp only[go_sem]
 ·have e:i=l.length:=by simp at h;omega
  refine wGT ?_;rw[e,W7] at hno;rw[YO.2 hno];rfl
theorem yD (l:List Int) (hlen:l.length<=100000000) (v:Int):Fo 187 [.sl (l.map ZI),.int .i64 v] (.bool (l.contains v)):=by
 refine wSG func187 ntmps187 results187 λC=>?_
 refine wC ?_ func217 (hf:=FV l hlen v);refine wGT ?_;rw[mM,List.contains_eq_any_beq]
theorem zX (r:Rec) (f:Int):ai prog 155 [.rp (ZR r) 0,.int .i64 f] [] (λx _=>x=.bool (r.names f)):=by
 unfold ZR;refine wSG func155 ntmps155 results155 λC=>?_
 refine wCg ?_ func126 (hf:=xt r.act);refine wC ?_ func187 (hf:=yD (cw r.act) (by have:=fA r.act;omega) f);refine wGT ?_;rfl
theorem cS (a b:Bool):(bif a then b else false)=(a&&b):=by cases a<;>rfl
theorem fe (a b:Bool):(bif a then true else b)=(a||b):=by cases a<;>rfl
theorem Ck (r:Rec) (d:Int) (n:List UInt8):ai prog 185 [.rp (ZR r) 0,.int .i64 d,.str n] [] (λx _=>x=.bool (fF r.act d n)):=by
 unfold ZR;refine wS func185 ntmps185 results185 λC=>?_
 refine wGD (λh=>?_) (λh=>?_)
 ·refine wG ?_;refine wDT ?_ (hb:=h);refine wR ?_;refine wN 6 ?_;refine wNm 24 λc24 h24=>?_
  refine wN 8 ?_;refine wNm 32 λc32 h32=>?_
  refine wGT ?_;subst h32 h24;have hk:=eq_of_beq h;simp[fF,hk,cS]
 ·refine wGD (λh=>?_) (λh=>?_)
  ·refine wG ?_;refine wDT ?_ (hb:=h);refine wR ?_;refine wN 6 ?_;refine wNm 24 λc24 h24=>?_
   refine wN 8 ?_;refine wNm 32 λc32 h32=>?_
   refine wGT ?_;subst h32 h24;have hk:=eq_of_beq h;simp[fF,hk,cS]
  ·refine wGD (λh=>?_) (λh=>?_)
   ·refine wR ?_;refine wN 6 ?_;refine wNm 24 λc24 h24=>?_
    refine wN 8 ?_;refine wNm 32 λc32 h32=>?_
    refine wGT ?_;subst h32 h24;have hk:=eq_of_beq h;simp[fF,hk,cS]
   ·refine wGD (λh=>?_) (λh=>?_)
    ·have hk:=eq_of_beq h;refine wR ?_;refine wN 6 ?_;refine wNm 40 λc40 h40=>?_
     refine wN 8 ?_;refine wNm 48 λc48 h48=>?_
     cases c48
     ·cases e3:(r.act.to==d)<;>cases e4:(r.act.toName==n)
      all_goals refine wG ?_ (by simp only[go_sem,e3,e4];try exact rfl) (by simp[go_sem,e3,e4])
      all_goals refine wT ?_
      all_goals rw[<-h40,cS] at h48
      all_goals simp[fF,hk,h48,e3,e4]
     ·refine wGT ?_;rw[<-h40,cS] at h48;simp[fF,hk,h48]
    ·refine wGT ?_
     simp_all [fF]
structure Srv where
 tree:List Node
 next:Int
 past:List Past
def ZQ (s:Srv):List AV:=[.sl (s.tree.map ZN),.int .i64 s.next,.sl (s.past.map ZP)]
@[go_sem,simp] theorem Jy (s:Srv):aA (ZQ s)=[]:=rfl
theorem uS (s:Srv) (h:s.past.length<=100000000):Fo 86 [.agg (ZQ s)] (.int .i64 ((s.past.length+1:Nat):Int)):=by
 have hw:IntKind.i64.wrap ((s.past.length:Int)+1)=((s.past.length+1:Nat):Int):=by rw[Eng.wrap_small z8 z8];rfl
 unfold ZQ;refine wS func86 ntmps86 results86 λC=>?_
 refine wG ?_ w4 y7;refine wT ?_;rfl
theorem GZ:Fo 33 [] (.agg [.sl [[.int .i64 0,.bool true,.nils,.nils,.int .i64 0]],.int .i64 1,.nils]):=by
 refine wSG func33 ntmps33 results33 λC=>?_
 refine wC ?_ func52 (hf:=Gk);refine wGT ?_;rfl
theorem Jw:Fo 33 [] (.agg (ZQ ⟨[gN],1,[]⟩)):=ai.iZ GZ rfl
structure SmallP (l:List Past):Prop where
 len:l.length<=90000000
 each:∀p,p∈l->p.act.data.length<=100000000
theorem sU (s:Srv) (ht:Small s.tree) (hp:SmallP s.past):Fo 40 [.agg (ZQ s)] (.agg (ZQ s)):=by
 have hlen:=hp.len;unfold ZQ;refine wSG func40 ntmps40 results40 λC=>?_
 refine ZZ 1 rfl (rfl) (wn ?_);refine wO ?_;refine sN 2 ?_;refine sC ?_ func66 (hf:=lI s.tree ht);refine sN 2 ?_;refine sB ?_;refine sW ?_;refine sE ?_;refine dS ?_;refine wKG ?_;refine af (CR 28 8 3 z7 z7) ?_;refine af (le_empty 28 79 8 z7) (wn ?_);refine wL s.past.length (λi=>(5,.any)::(15,.int .i64 i)::u0 16 15 [])
  (λi=>[(3,.cells 32 3 [[.sl (s.tree.map ZN),.int .i64 s.next,.osl 28 8 0 i]]),(28,.cells 79 8 ((s.past.take i).map ZP))]) ?_ λi hi=>?_
 ·exact wY
 simp only[go_sem];refine wGD (λh=>?_) (λh=>?_)
 ·have hlt:=lt1 h;have hw:=wi1 (i:=i) z8;have hg:=Fam.getD (f:=ZP) hlt;have hs:=dA ZP hlt;have ha:=hp.each _ (YG hlt);generalize s.past.getD i default=x at *;refine wGq ?_ ?_ Zm
  ·simp[hg,ZP,hlt]
  refine ZZ 5 rfl (rfl) (wn ?_);refine wO ?_;refine sN 6 ?_;refine sC ?_ func67 (hf:=mi x.act ha);simp only[go_sem,ZA];refine sB ?_;refine sW ?_;refine sE ?_;refine iV (aX 28 3 z6 y9) ?_;simp only[go_sem];refine dSq ?_ ?_
  ·simp[go_sem,rowsOf];refine ⟨by omega,by omega,λx hx y hy hr=>?_⟩;have h1:=YJ (YJ hx);have:=List.all_eq_true.1 (List.all_eq_true.1 (bH 28 s.past) x h1) y hy;simp only[Yo,List.contains_eq_mem,decide_eq_false_iff_not] at this;exact this hr
  simp only[go_sem];refine dS ?_;refine dS ?_;refine wKn ?_;refine wG ?_ w4 y7;refine ZB ⟨i+1,by omega,by omega,ZU ?_ ?_ ?_⟩
  ·simp[go_sem]
  ·simp[go_sem,hs,ZP,List.take_take]
  ·simp only[go_sem]
 ·obtain rfl:=eq1 hi h;refine wG ?_;refine ZZ 28 rfl (dX _) (wn ?_);refine wT ?_;simp
theorem AK (s:Srv) (ht:Small s.tree) (hp:SmallP s.past):ai prog 40 [.agg (ZQ s)] [] (λr H=>r=.agg [.sl (s.tree.map ZN),.int .i64 s.next,.osl 28 8 0 s.past.length]/\∀i b,aa [(28,.cells 79 8 (s.past.map ZP))] i=some b->aa H i=some b):=by
 have hlen:=hp.len;unfold ZQ;refine wSG func40 ntmps40 results40 λC=>?_
 refine ZZ 1 rfl (rfl) (wn ?_);refine wO ?_;refine sN 2 ?_;refine sC ?_ func66 (hf:=lI s.tree ht);refine sN 2 ?_;refine sB ?_;refine sW ?_;refine sE ?_;refine dS ?_;refine wKG ?_;refine af (CR 28 8 3 z7 z7) ?_;refine af (le_empty 28 79 8 z7) (wn ?_);refine wL s.past.length (λi=>(5,.any)::(15,.int .i64 i)::u0 16 15 [])
  (λi=>[(3,.cells 32 3 [[.sl (s.tree.map ZN),.int .i64 s.next,.osl 28 8 0 i]]),(28,.cells 79 8 ((s.past.take i).map ZP))]) ?_ λi hi=>?_
 ·exact wY
 simp only[go_sem];refine wGD (λh=>?_) (λh=>?_)
 ·have hlt:=lt1 h;have hw:=wi1 (i:=i) z8;have hg:=Fam.getD (f:=ZP) hlt;have hs:=dA ZP hlt;have ha:=hp.each _ (YG hlt);generalize s.past.getD i default=x at *;refine wGq ?_ ?_ Zm
  ·simp[hg,ZP,hlt]
  refine ZZ 5 rfl (rfl) (wn ?_);refine wO ?_;refine sN 6 ?_;refine sC ?_ func67 (hf:=mi x.act ha);simp only[go_sem,ZA];refine sB ?_;refine sW ?_;refine sE ?_;refine iV (aX 28 3 z6 y9) ?_;simp only[go_sem];refine dSq ?_ ?_
  ·simp[go_sem,rowsOf];refine ⟨by omega,by omega,λx hx y hy hr=>?_⟩;have h1:=YJ (YJ hx);have:=List.all_eq_true.1 (List.all_eq_true.1 (bH 28 s.past) x h1) y hy;simp only[Yo,List.contains_eq_mem,decide_eq_false_iff_not] at this;exact this hr
  simp only[go_sem];refine dS ?_;refine dS ?_;refine wKn ?_;refine wG ?_ w4 y7;refine ZB ⟨i+1,by omega,by omega,ZU ?_ ?_ ?_⟩
  ·simp[go_sem]
  ·simp[go_sem,hs,ZP,List.take_take]
  ·simp only[go_sem]
 ·obtain rfl:=eq1 hi h;refine wGT ?_;simp[go_sem]
theorem Kw:Fo 52 [] (.sl ([gN].map ZN)):=ai.iZ Gk rfl
theorem Eg (l:List Past) (st:Nat->List Node) (hlen:l.length<=90000000) (h0:st 0=[gN])
  (hs:∀i,i<l.length->Good (st i)/\ActFit (l.getD i default).act/\aG (st i) (l.getD i default).act=0/\st (i+1)=aK (st i) (l.getD i default).act ((i+1:Nat):Int)) :
  Fo 83 [.sl (l.map ZP)] (.tup [.sl ((st l.length).map ZN),.int .i64 0]):=by
 have hn:Fo 52 [] (.sl ((st 0).map ZN)):=by rw[h0];exact Kw
 refine wSG func83 ntmps83 results83 λC=>?_
 refine wCg ?_ func52 (hf:=hn);refine wL l.length (λi=>(4,.sl ((st i).map ZN))::u0 5 4 ((12,.int .i64 i)::u0 13 18 [])) (λ_=>[]) ?_ λi hi=>?_
 ·exact wZ
 simp only[go_sem];refine wGD (λh=>?_) (λh=>?_)
 ·have hlt:=lt1 h;have hg:=Fam.getD (f:=ZP) hlt;have hw:=wi1 (i:=i) z8;obtain ⟨h1,h2,h3,h4⟩:=hs i hlt;have hap:=lb h1 (l.getD i default).act ((i+1:Nat):Int) h2;unfold oh at hap;rw[if_pos h3,<-h4] at hap;generalize l.getD i default=a at hg hap;refine wGq ?_ ?_ (by simp only[go_sem,hg,ZP,hw];try exact rfl)
  ·simp[hg,hlt,ZP]
  refine ZZ 6 rfl (rfl) (wn ?_);refine wC ?_ func109 (hf:=hap);refine wGD (λh=>?_) (λh=>?_)
  ·cases h
  refine wG ?_ w4 y7;exact ZB ⟨i+1,by omega,by omega,ZU w3 w3 w3⟩
 ·obtain rfl:=eq1 hi h;refine wGT ?_;rfl
def aR (a:Act):Bool:=a.kind==1||a.kind==2
def doA (s:Srv) (a:Act):Act:=if aR a then { a with fid:=s.next } else a
noncomputable def doE (s:Srv) (a:Act):Int:=aG s.tree (doA s a)
noncomputable def doS (s:Srv) (c:Int) (a:Act):Srv:=⟨aK s.tree (doA s a) ((s.past.length+1:Nat):Int),if aR a then s.next+1 else s.next,s.past++[⟨c,doA s a⟩]⟩
noncomputable def doR (s:Srv) (c:Int) (a:Act):AV:=if doE s a=0 then .tup [.agg (ZQ (doS s c a)),.int .i64 0] else .tup [.agg [.nils,.int .i64 0,.nils],.int .i64 (doE s a)]
theorem Lf (s:Srv) (c:Int) (a:Act) (hg:Good s.tree) (hp:SmallP s.past) (ha:ActFit a) (hn:s.next.natAbs<=90000000):Fo 107 [.agg (ZQ s),.int .i64 c,.agg (ZA a)] (doR s c a):=by
 have hlen:=hp.len;have hw:IntKind.i64.wrap (s.next+1)=s.next+1:=Eng.wrap_small z8 z8;have hda:ActFit (doA s a):=by unfold doA;split;exact ⟨ha.name,ha.toName,ha.data⟩;exact ha
 have hv:=uS s z8;have hap:=lb hg (doA s a) ((s.past.length+1:Nat):Int) hda;have hso:=AK s hg.small hp;have how:=mi (doA s a) hda.data;unfold oh at hap;unfold doR doS doE;unfold ZQ at hv hso ⊢;refine wS func107 ntmps107 results107 λC=>?_
 refine wGq ?_ ?_ QX
 ·simp[ZA]
 refine ZZ 3 rfl (rfl) (wn ?_);refine wD (λh=>?_) (λh=>?_)
 ·have hm:aR a=true:=by unfold aR;revert h;cases (a.kind==1)<;>simp
  have hdo:doA s a={ a with fid:=s.next }:=by unfold doA;rw[if_pos hm]
  rw[hdo] at hap how ⊢;simp only[hm,if_true];generalize aG s.tree { a with fid:=s.next }=e at *;generalize aK s.tree { a with fid:=s.next } ((s.past.length+1:Nat):Int)=L at *;refine wG ?_
  by_cases he:e=0
  ·subst he;simp only[if_true] at hap ⊢;refine ZZ 5 rfl (rfl) (wn ?_);refine wO ?_;refine sN 4 ?_;refine sC ?_ func86 (hf:=hv);refine sC ?_ func109 (hf:=hap);refine sN 5 ?_;refine wXG ?_;refine wFG ?_ (hb:=w8);refine wCG ?_ [] 972 func40 (hf:=hso);refine wGS ?_;refine sN 4 ?_;refine sC ?_ func67 (hf:=how);simp only[go_sem,ZA];refine sB ?_;refine sW ?_;refine sE ?_;refine iV (aX 1000 11 z6 y9) ?_;simp only[go_sem];refine dSq ?_ ?_
   ·simp[go_sem,rowsOf];refine ⟨by omega,λx hx y hy hr=>?_⟩;have:=List.all_eq_true.1 (List.all_eq_true.1 (bH 1000 s.past) (ZP x) (W8.2 ⟨x,hx,rfl⟩)) y hy;simp only[Yo,List.contains_eq_mem,decide_eq_false_iff_not] at this;exact this hr
   simp only[go_sem];refine dS ?_;refine dS ?_;refine wKG ?_;refine wDT ?_ (hb:=by simpa[aR] using hm);refine wG ?_ w4 y7;refine ZZ 48 rfl Zw (wn ?_);refine wT ?_;rw[W4 w8];rfl
  ·simp only[he,if_false] at hap ⊢;refine ZZ 5 rfl (rfl) (wn ?_);refine wO ?_;refine sN 4 ?_;refine sC ?_ func86 (hf:=hv);refine sC ?_ func109 (hf:=hap);refine sN 5 ?_;refine wXG ?_;refine wDT ?_ (hb:=QB);refine wGT ?_;rfl
 ·have hm:aR a=false:=by unfold aR;revert h;cases (a.kind==1)<;>simp
  have hdo:doA s a=a:=by unfold doA;rw[if_neg (by rw[hm];simp)]
  rw[hdo] at hap how ⊢;simp only[hm,Bool.false_eq_true,if_false];generalize aG s.tree a=e at *;generalize aK s.tree a ((s.past.length+1:Nat):Int)=L at *;refine wG ?_
  by_cases he:e=0
  ·subst he;simp only[if_true] at hap ⊢;refine ZZ 5 rfl (rfl) (wn ?_);refine wO ?_;refine sN 4 ?_;refine sC ?_ func86 (hf:=hv);refine sC ?_ func109 (hf:=hap);refine sN 5 ?_;refine wXG ?_;refine wFG ?_ (hb:=w8);refine wCG ?_ [] 972 func40 (hf:=hso);refine wGS ?_;refine sN 4 ?_;refine sC ?_ func67 (hf:=how);simp only[go_sem,ZA];refine sB ?_;refine sW ?_;refine sE ?_;refine iV (aX 1000 11 z6 y9) ?_;simp only[go_sem];refine dSq ?_ ?_
   ·simp[go_sem,rowsOf];refine ⟨by omega,λx hx y hy hr=>?_⟩;have:=List.all_eq_true.1 (List.all_eq_true.1 (bH 1000 s.past) (ZP x) (W8.2 ⟨x,hx,rfl⟩)) y hy;simp only[Yo,List.contains_eq_mem,decide_eq_false_iff_not] at this;exact this hr
   simp only[go_sem];refine dS ?_;refine dS ?_;refine wKG ?_;refine wFG ?_ (hb:=by simpa[aR] using hm);refine ZZ 48 rfl Zw (wn ?_);refine wT ?_;rw[W4 w8];rfl
  ·simp only[he,if_false] at hap ⊢;refine ZZ 5 rfl (rfl) (wn ?_);refine wO ?_;refine sN 4 ?_;refine sC ?_ func86 (hf:=hv);refine sC ?_ func109 (hf:=hap);refine sN 5 ?_;refine wXG ?_;refine wDT ?_ (hb:=QB);refine wGT ?_;rfl
structure SmallK (l:List Kept):Prop where
 len:l.length<=100000000
 each:∀k,k∈l->k.node.Small
theorem SmallK.one {k:Kept} (h:k.node.Small):SmallK [k]:=⟨by simp,λx hx=>by rw[List.mem_singleton.1 hx];exact h⟩
theorem dy {n:Node} (h:n.Small):Small [n]:=⟨by simp,λx hx=>by rw[List.mem_singleton.1 hx];exact h⟩
theorem kJ (l:List Kept) (hl:SmallK l):ai prog 68 [.sl (l.map ZK)] [] (λr H=>r=.osl 22 8 0 (l.map ZK).length/\∀i b,aa [(22,.cells 138 8 (l.map ZK))] i=some b->aa H i=some b):=by
 have hlen:=hl.len;refine wSG func68 ntmps68 results68 λC=>?_
 refine wL l.length (λi=>(3,.osl 22 8 0 i)::(5,.any)::(8,.int .i64 i)::u0 9 16 [])
  (λi=>[(22,.cells 138 8 ((l.take i).map ZK))]) ?_ λi hi=>?_
 ·exact wY
 simp only[go_sem];refine wGD (λh=>?_) (λh=>?_)
 ·have hlt:=lt1 h;have hn:=hl.each _ (YG hlt);have hg:=Fam.getD (f:=ZK) hlt;have hs:=dA ZK hlt;generalize l.getD i default=n at hn hg hs;refine wGq ?_ ?_ j8
  ·simp[hlt,ZK]
  refine ZZ 14 rfl (rfl) (wn ?_);refine wC ?_ func66 (hf:=lI [n.node] (dy hn));have ht:List.take i (List.map ZK (List.take i l))=List.map ZK (List.take i l):=W4 k6;have hw:IntKind.i64.wrap ((i:Int)+1)=(i:Int)+1:=wrap_small z8 z8;refine wGq ?_ ?_ (by simp only[go_sem,ht,hw,ZN];try exact rfl)
  ·simp[rowsOf,ZN];omega
  refine ZB ⟨i+1,by omega,by omega,ZU ?_ ?_ ?_⟩
  ·simp[go_sem]
  ·simp[go_sem,hs,ZK]
  ·simp only[go_sem]
 ·obtain rfl:=eq1 hi h;refine wGT ?_;simp[go_sem]
theorem sD (l:List Kept) (hl:SmallK l):Fo 68 [.sl (l.map ZK)] (.sl (l.map ZK)):=ai.read (kJ l hl) (bg _)
theorem Bx (k:Kept) (fid:Int):Fo 188 [.agg (ZK k),.rp [.int .i64 fid] 0] (.bool (k.node.fid==fid)):=by
 unfold ZK;refine wS func188 ntmps188 results188 λC=>?_
 refine wGT ?_;simp
def b_ (l:List Kept) (fid:Int):Option Nat:=l.findIdx? λk=>k.node.fid==fid
theorem nE (l:List Kept) (fid:Int) (hlen:l.length<=100000000):Fo 157 [.sl (l.map ZK),.int .i64 fid] (.int .i64 (cq (b_ l fid))):=by
 refine wSG func157 ntmps157 results157 λC=>?_
 refine ZZ 3 rfl (rfl) (wn ?_);refine wC ?_ func119 (hf:=jz l hlen ⟨_,Go.Proofs.Tryz.func188,by kernel_rfl,rfl⟩ rfl (λx _=>Bx x fid));refine wGT ?_;simp[b_]
def FM (l:List Kept) (fid:Int):Bool:=l.any λk=>k.node.fid==fid
theorem Lk (l:List Kept) (fid:Int) (hlen:l.length<=100000000):Fo 143 [.sl (l.map ZK),.int .i64 fid] (.bool (FM l fid)):=by
 refine wSG func143 ntmps143 results143 λC=>?_
 refine wC ?_ func157 (hf:=nE l fid hlen);refine wGT ?_;rw[b_,mM];rfl
theorem Dk (k:Kept):Fo 160 [.agg (ZK k)] (.bool k.dirty):=by
 unfold ZK;refine wS func160 ntmps160 results160 λC=>?_
 refine wGT ?_;simp
theorem Fg (l:List Kept) (hl:SmallK l):Fo 114 [.sl (l.map ZK)] (.sl ((l.filter λk=>!k.dirty).map ZK)):=by
 refine wSG func114 ntmps114 results114 λC=>?_
 refine wCG ?_ [] 978 func68 (hf:=kJ l hl);refine wG ?_;refine wCG ?_ [1000] 100 func80 (hf:=iI l hl.len 1000 ⟨_,Go.Proofs.Tryz.func160,by kernel_rfl,rfl⟩ rfl x7 (λx _=>Dk x));refine wG ?_;refine ZZ 1100 rfl Qk (wn ?_);refine wT ?_;have hle:=YB (λk:Kept=>!k.dirty) l;generalize l.filter (λk=>!k.dirty)=d at *;rw[if_pos w8,iC w8]
theorem qF {l:List Kept} {fid:Int} {i:Nat} (h:b_ l fid=some i):i<l.length:=(YN.1 h).1
def ym (l:List Kept) (fid now:Int):List Kept:=match b_ l fid with
 | none=>l
 | some i=>l.set i { l.getD i default with last:=now }
theorem gV {M:List Kept} {i:Nat} (h:i<M.length):(M.map ZK).getD i []=[.int .i64 (M.getD i default).node.fid,.bool (M.getD i default).node.dir,.sl ((M.getD i default).node.data.map ZY),.sl ((M.getD i default).node.entries.map ZE),.int .i64 (M.getD i default).node.version,.bool (M.getD i default).dirty,.int .i64 (M.getD i default).worth,.int .i64 (M.getD i default).last]:=by
 rw[Fam.getD h];rfl
theorem jY (M:List Kept) (i:Nat) (n:Kept):(M.map ZK).set i (ZK n)=(M.set i n).map ZK:=by rw[List.map_set]
def bO (at_:List Node) (k:Kept):Bool:=!k.dirty&&(!bf at_ k.node.fid||!(((ak at_ k.node.fid).getD aw).version==k.node.version))
theorem Du (at_:List Node) (k:Kept) (hat:Small at_):Fo 81 [.agg (ZK k),.rp [.sl (at_.map ZN)] 0] (.bool (bO at_ k)):=by
 unfold ZK;refine wSG func81 ntmps81 results81 λC=>?_
 refine wC ?_ func82 (hf:=dD at_ k.node.fid hat);simp only[go_sem,fS];unfold bO;generalize (ak at_ k.node.fid).getD aw=n;generalize bf at_ k.node.fid=b;refine wGq ?_ ?_ w5
 ·simp[ZN];exact λh=>⟨h,λhb=>⟨h,hb⟩⟩
 refine wT ?_;cases k.dirty<;>cases b<;>rfl
theorem tL (l:List Kept) (at_:List Node) (hl:SmallK l) (hat:Small at_):Fo 43 [.sl (l.map ZK),.sl (at_.map ZN)] (.sl ((l.filter λk=>!bO at_ k).map ZK)):=by
 refine wSG func43 ntmps43 results43 λC=>?_
 refine ZZ 3 rfl (rfl) (wn ?_);refine wCG ?_ [] 978 func68 (hf:=kJ l hl);refine wG ?_;refine wCG ?_ [1000] 100 func80 (hf:=iI l hl.len 1000 ⟨_,Go.Proofs.Tryz.func81,by kernel_rfl,rfl⟩ (by simp[AV.aT]) x7 (λx _=>Du at_ x hat));refine wG ?_;refine ZZ 1100 rfl Qk (wn ?_);refine wT ?_;have hle:=YB (λk:Kept=>!bO at_ k) l;generalize l.filter (λk=>!bO at_ k)=d at *;rw[if_pos w8,iC w8]
def ic (f:Nat->Int) (g:Nat->AV):Nat->List (Int×AV)
 | 0=>[]
 | i+1=>aV (ic f g i) (f i) (g i)
theorem lE (f:Nat->Int) (g:Nat->AV):∀i,(ic f g i).Pairwise λa b=>a.1<b.1
 | 0=>List.Pairwise.nil
 | i+1=>cn (lE f g i)
theorem pz {f:Nat->Int} {g:Nat->AV} {k:Int}:∀{i},(∀j,j<i->f j≠k)->bl (ic f g i) k=none
 | 0,_=>rfl
 | i+1,h=>by
  rw[ic,kN (lE f g i),if_neg (λe=>h i z8 e.symm)];exact pz λj hj=>h j z8
theorem pA {f:Nat->Int} {g:Nat->AV} {k:Int}:∀{i j},j<i->f j=k->(∀m,j<m->m<i->f m≠k)->bl (ic f g i) k=some (g j)
 | 0,_,h,_,_=>by omega
 | i+1,j,h,he,hl=>by
  rw[ic,kN (lE f g i)]
  by_cases hj:j=i
  ·subst hj;rw[if_pos he.symm]
  ·rw[if_neg (λe=>hl i z8 z8 e.symm)];exact pA z8 he λm h1 h2=>hl m h1 z8
def yW (l:List Kept) (i:Nat):Int:=(l.getD i default).node.fid
def oU (l:List Kept) (n:Nat):Prop:=∀i,i<n->∀j,j<i->yW l j≠yW l i
instance (l:List Kept) (n:Nat):Decidable (oU l n):=by unfold oU;infer_instance
def sV (l:List Kept):Bool:=decide (oU l l.length)
def gq (l:List Node) (i:Nat):Int:=(l.getD i default).fid
def ix (l:List Node) (i:Nat):List (Int×AV):=ic (gq l) (λi=>.agg (ZN (l.getD i default))) i
def BK (l:List Node):List (Int×AV):=ix l l.length
theorem Mh (l:List Node) (hlen:l.length<=100000000):ai prog 27 [.sl (l.map ZN)] [] (λr H=>r=.mp 6/\∀i b,aa [(6,.map (BK l))] i=some b->aa H i=some b):=by
 refine wSG func27 ntmps27 results27 λC=>?_
 refine wL l.length (λi=>(3,.mp 6)::(5,.any)::(9,.int .i64 i)::u0 10 8 [])
  (λi=>[(6,.map (ix l i))]) ?_ λi hi=>?_
 ·simp only[go_sem];exact ZU w3 (by simp[go_sem,ix,ic]) Wj
 simp only[go_sem];refine wGD (λh=>?_) (λh=>?_)
 ·have hlt:=lt1 h;have hg:=Fam.getD (f:=ZN) hlt;have hw:=wi1 (i:=i) z8;have hput:ix l (i+1)=aV (ix l i) (l.getD i default).fid (.agg (ZN (l.getD i default))):=rfl;generalize l.getD i default=n at *;refine wGq ?_ ?_ (by simp only[go_sem,hg,ZN,hw];try exact rfl)
  ·simp[hg,ZN,hlt,AV.jw,AV.aT]
  refine ZB ⟨i+1,by omega,by omega,ZU ?_ ?_ ?_⟩
  ·simp[go_sem]
  ·simp[go_sem,hput,ZN]
  ·simp only[go_sem]
 ·obtain rfl:=eq1 hi h;refine wGT ?_;exact ⟨rfl,λi b hb=>hb⟩
theorem Gd {l:List Node} (h:Up l) (k:Int):bl (BK l) k=(ak l k).map λn=>.agg (ZN n):=by
 unfold BK ix;cases e:ak l k with
 | none=>
  have hn:=(eO h).1 e;exact pz λj hj=>hn _ (YG hj)
 | some n=>
  obtain ⟨hm,hf⟩:=(ZO h).1 e;obtain ⟨j,hj⟩:=YC hm;have hjl:j<l.length:=(W9.1 hj).1;have hjd:=jW hj;rw[pA (j:=j) hjl (by unfold gq;rw[hjd];exact hf) λm h1 h2 h3=>by
   have:=h.lt h1 h2;unfold gq at h3;rw[hjd,hf,h3] at this;omega]
  simp only[Option.map_some,hjd]
end La
