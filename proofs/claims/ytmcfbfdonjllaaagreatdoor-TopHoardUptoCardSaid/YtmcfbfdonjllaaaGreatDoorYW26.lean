/- Texts of this claim, part 26: PShort, PShort2, PAwK, PIso, PSim, PIds. No condition. -/
import Derived.Test.YtmcfbfdonjllaaaGreatDoorYW21
set_option maxRecDepth 10000
set_option maxHeartbeats 4000000
set_option linter.unusedSimpArgs false
set_option linter.unusedVariables false
namespace La
open Go Go.Eng
theorem nB (n:Node) (s:List UInt8):cZ n s=0↔de s=true/\isE n.entries s=false/\n.entries.length<6:=by
 unfold cZ;cases de s<;>cases isE n.entries s<;>simp<;>omega
theorem vq (l:List Node) (k:Int):gY l k=0↔∃d,af l k=some d/\d.dir=true:=by
 unfold gY;cases e:af l k with
 | none=>simp
 | some d=>cases hd:d.dir<;>simp[hd]
theorem aJ {l:List Node} {k:Int} {d:Node} (h:af l k=some d):bd l k=d:=by unfold bd;rw[h];rfl
theorem me (l:List Node) (a:Act):cC l a=0↔∃d,af l a.dir=some d/\d.dir=true/\cZ d a.name=0/\af l a.fid=none/\a.fid≠0/\l.length<24:=by
 unfold cC;constructor
 ·intro h
  by_cases h1:gY l a.dir=0
  ·rw[if_pos h1] at h;obtain ⟨d,hd,hdd⟩:=(vq _ _).1 h1;rw[aJ hd] at h
   by_cases h2:cZ d a.name=0
   ·rw[if_pos h2] at h
    by_cases h3:(bz l a.fid||a.fid==0)=true
    ·rw[if_pos h3] at h;cases h
    ·rw[if_neg h3] at h
     by_cases h4:l.length≥24
     ·rw[if_pos h4] at h;cases h
     ·rw[bP] at h3;cases e:af l a.fid with
      | none=>rw[e] at h3;exact ⟨d,hd,hdd,h2,rfl,by simpa using h3,by omega⟩
      | some x=>rw[e] at h3;simp at h3
   ·rw[if_neg h2] at h;exact absurd h h2
  ·rw[if_neg h1] at h;exact absurd h h1
 ·rintro ⟨d,hd,hdd,h2,h3,h4,h5⟩;rw[if_pos ((vq _ _).2 ⟨d,hd,hdd⟩),aJ hd,if_pos h2,if_neg (by rw[bP,h3];simpa using h4),if_neg z7]
theorem fA (l:List Node) (a:Act):cr l a=0↔∃x,af l a.fid=some x/\x.dir=false/\a.data.length≤20:=by
 unfold cr;cases e:af l a.fid with
 | none=>simp
 | some x=>cases hd:x.dir<;>simp[hd]
theorem sD (l:List Node) (a:Act):df l a=0↔∃d,af l a.dir=some d/\d.dir=true/\ay d a.name=some a.fid:=by
 unfold df;constructor
 ·intro h
  by_cases h1:gY l a.dir=0
  ·rw[if_pos h1] at h;obtain ⟨d,hd,hdd⟩:=(vq _ _).1 h1;rw[aJ hd] at h;refine ⟨d,hd,hdd,?_⟩;cases e:ay d a.name with
   | none=>rw[e] at h;cases h
   | some f=>
    rw[e] at h
    by_cases hf:f=a.fid
    ·rw[hf]
    ·simp only[hf,if_false] at h;cases h
  ·rw[if_neg h1] at h;exact absurd h h1
 ·rintro ⟨d,hd,hdd,h2⟩;rw[if_pos ((vq _ _).2 ⟨d,hd,hdd⟩),aJ hd,h2];simp
theorem jA (l:List Node) (a:Act):cv l a=0↔∃d x,af l a.dir=some d/\d.dir=true/\ay d a.name=some a.fid/\af l a.fid=some x/\x.entries=[]:=by
 unfold cv;constructor
 ·intro h
  by_cases h1:df l a=0
  ·rw[if_pos h1] at h;obtain ⟨d,hd,hdd,h2⟩:=(sD _ _).1 h1;cases e:af l a.fid with
   | none=>rw[e] at h;cases h
   | some x=>
    rw[e] at h;simp only at h
    by_cases hx:x.entries.length>0
    ·rw[if_pos hx] at h;cases h
    ·exact ⟨d,x,hd,hdd,h2,rfl,List.eq_nil_of_length_eq_zero z7⟩
  ·rw[if_neg h1] at h;exact absurd h h1
 ·rintro ⟨d,x,hd,hdd,h2,h3,h4⟩;rw[if_pos ((sD _ _).2 ⟨d,hd,hdd,h2⟩),h3];simp[h4]
def toD (a:Act) (d t:Node):Node:=if a.to=a.dir then aE d a.name else t
theorem qj {l:List Node} {a:Act} {d t:Node} (hd:af l a.dir=some d) (ht:af l a.to=some t):toN l a=toD a d t:=by
 unfold toN toD;rw[aJ hd,aJ ht]
theorem pe (l:List Node) (a:Act):dg l a=0↔∃d t x,af l a.dir=some d/\d.dir=true/\ay d a.name=some a.fid/\af l a.to=some t/\t.dir=true/\cZ (toD a d t) a.toName=0/\af l a.fid=some x/\¬MReach (f_ l) a.fid a.to:=by
 unfold dg;constructor
 ·intro h
  by_cases h1:df l a=0
  ·rw[if_pos h1] at h;obtain ⟨d,hd,hdd,h2⟩:=(sD _ _).1 h1
   by_cases h3:gY l a.to=0
   ·rw[if_pos h3] at h;obtain ⟨t,ht,htd⟩:=(vq _ _).1 h3;rw[qj hd ht] at h
    by_cases h4:cZ (toD a d t) a.toName=0
    ·rw[if_pos h4] at h;rw[bP] at h;cases e:af l a.fid with
     | none=>rw[e] at h;simp at h
     | some x=>
      rw[e] at h;refine ⟨d,t,x,hd,hdd,h2,ht,htd,h4,rfl,λhm=>?_⟩;simp[hm] at h
    ·rw[if_neg h4] at h;exact absurd h h4
   ·rw[if_neg h3] at h;exact absurd h h3
  ·rw[if_neg h1] at h;exact absurd h h1
 ·rintro ⟨d,t,x,hd,hdd,h2,ht,htd,h4,hx,hm⟩;rw[if_pos ((sD _ _).2 ⟨d,hd,hdd,h2⟩),if_pos ((vq _ _).2 ⟨t,ht,htd⟩),qj hd ht,if_pos h4,bP,hx];simp[hm]
structure TP where
 f:Option Int
 dat:Int->Prop
 D:Option Int
 n:List UInt8
def lR (P:TP) (x:Node):List Entry:=if P.D=some x.fid then aX x.entries P.n else x.entries
structure NR (P:TP) (x y:Node):Prop where
 fid:y.fid=x.fid
 dir:y.dir=x.dir
 data:P.dat x.fid->y.data=x.data
 ent:y.entries=lR P x
def TR (P:TP) (l l':List Node):Prop:=∀k,(P.f=some k->af l' k=none)/\(P.f≠some k->(af l k=none/\af l' k=none)\/∃x y,af l k=some x/\af l' k=some y/\NR P x y)
theorem TR.at {P:TP} {l l':List Node} (h:TR P l l') {k:Int} (hk:P.f≠some k) {x:Node} (hx:af l k=some x):∃y,af l' k=some y/\NR P x y:=by
 rcases (h k).2 hk with ⟨h1,_⟩ | ⟨x',y,h1,h2,h3⟩
 ·rw[hx] at h1;cases h1
 ·rw[hx] at h1;injection h1 with h1;subst h1;exact ⟨y,h2,h3⟩
theorem TR.no {P:TP} {l l':List Node} (h:TR P l l') {k:Int} (hx:af l k=none):af l' k=none:=by
 by_cases hk:P.f=some k
 ·exact (h k).1 hk
 ·rcases (h k).2 hk with ⟨_,h1⟩ | ⟨x',y,h1,h2,h3⟩
  ·exact h1
  ·rw[hx] at h1;cases h1
theorem TR.back {P:TP} {l l':List Node} (h:TR P l l') {k:Int} {y:Node} (hy:af l' k=some y):P.f≠some k/\∃x,af l k=some x/\NR P x y:=by
 have hk:P.f≠some k:=λhk=>by rw[(h k).1 hk] at hy;cases hy
 refine ⟨hk,?_⟩
 rcases (h k).2 hk with ⟨_,h1⟩ | ⟨x',y',h1,h2,h3⟩
 ·rw[hy] at h1;cases h1
 ·rw[hy] at h2;injection h2 with h2;subst h2;exact ⟨x',h1,h3⟩
theorem TR.put {P:TP} {l l':List Node} (hu:Up l) (hu':Up l') (h:TR P l l') {x y:Node} (hn:NR P x y) (hk:P.f≠some x.fid):TR P (aT l x) (aT l' y):=λk=>by
 rw[bU hu,bU hu',hn.fid]
 by_cases e:k=x.fid
 ·subst e;exact ⟨λh1=>absurd h1 hk,λ_=>.inr ⟨x,y,by rw[if_pos rfl],by rw[if_pos rfl],hn⟩⟩
 ·rw[if_neg e,if_neg e];exact h k
theorem TR.drop {P:TP} {l l':List Node} (hu:Up l) (hu':Up l') (h:TR P l l') (g:Int):TR P (dN l g) (dN l' g):=λk=>by
 rw[ec hu,ec hu']
 by_cases e:k=g
 ·rw[if_pos e,if_pos e];exact ⟨λ_=>rfl,λ_=>.inl ⟨rfl,rfl⟩⟩
 ·rw[if_neg e,if_neg e];exact h k
theorem Bh:∀(a b:List Int),a.Pairwise (·<·)->b.Pairwise (·<·)->(∀x,x∈a->x∈b)->a.length≤b.length
 | [],b,_,_,_=>by simp
 | x::a,b,ha,hb,h=>by
  obtain ⟨b1,b2,rfl⟩:=List.append_of_mem (h x List.mem_cons_self);have ha':=List.pairwise_cons.1 ha;have hb':=List.pairwise_append.1 hb;have:=Bh a b2 ha'.2 (List.pairwise_cons.1 hb'.2.1).2 λz hz=>by
   have h1:=ha'.1 z hz
   rcases List.mem_append.1 (h z (List.mem_cons_of_mem _ hz)) with h2 | h2
   ·have:=hb'.2.2 z h2 x List.mem_cons_self;omega
   ·rcases List.mem_cons.1 h2 with h3 | h3
    ·omega
    ·exact h3
  simp only[List.length_append,List.length_cons];omega
theorem TR.len {P:TP} {l l':List Node} (hu:Up l) (hu':Up l') (h:TR P l l'):l'.length≤l.length:=by
 have hp:∀{m:List Node},Up m->(m.map λn=>n.fid).Pairwise (·<·):=λhm=>List.pairwise_map.2 hm
 have:=Bh (l'.map λn=>n.fid) (l.map λn=>n.fid) (hp hu') (hp hu) λk hk=>by
  obtain ⟨y,hy,rfl⟩:=Z7.1 hk;obtain ⟨_,x,hx,hn⟩:=h.back ((ZO hu').2 ⟨hy,rfl⟩);obtain ⟨h1,h2⟩:=(ZO hu).1 hx;exact Z7.2 ⟨x,h1,h2⟩
 simpa using this
theorem DF {P:TP} {x:Node} {e:Entry} (h:e∈lR P x):e∈x.entries:=by
 unfold lR at h;split at h
 ·exact ef h
 ·exact h
theorem TR.reach {P:TP} {l l':List Node} (hu:Up l) (hu':Up l') (h:TR P l l') {a b:Int} (hr:MReach (f_ l') a b):MReach (f_ l) a b:=by
 induction hr with
 | refl=>exact .refl
 | step hr hn he ih=>
  rw[gf hu'] at hn;obtain ⟨_,x,hx,hxy⟩:=h.back hn;rw[hxy.ent] at he;exact .step ih (by rw[gf hu];exact hx) (DF he)
theorem rD:∀{a b:List Entry},EUp a->EUp b->(∀e,e∈a↔e∈b)->a=b
 | [],[],_,_,_=>rfl
 | [],q::b,_,_,h=>absurd ((h q).2 List.mem_cons_self) y7
 | p::a,[],_,_,h=>absurd ((h p).1 List.mem_cons_self) y7
 | p::a,q::b,ha,hb,h=>by
  have ha':=List.pairwise_cons.1 ha;have hb':=List.pairwise_cons.1 hb;have hpq:p=q:=by
   rcases List.mem_cons.1 ((h p).1 List.mem_cons_self) with e | e
   ·exact e
   ·rcases List.mem_cons.1 ((h q).2 List.mem_cons_self) with e2 | e2
    ·exact e2.symm
    ·exact absurd (Ab (hb'.1 p e) (ha'.1 q e2)) (rk _)
  subst hpq;refine congrArg _ (rD ha'.2 hb'.2 λr=>?_);constructor
  ·intro hr
   rcases List.mem_cons.1 ((h r).1 (List.mem_cons_of_mem _ hr)) with e | e
   ·subst e;exact absurd (ha'.1 _ hr) (rk _)
   ·exact e
  ·intro hr
   rcases List.mem_cons.1 ((h r).2 (List.mem_cons_of_mem _ hr)) with e | e
   ·subst e;exact absurd (hb'.1 _ hr) (rk _)
   ·exact e
theorem qE (l:List Entry) (s t:List UInt8):aX (aX l s) t=aX (aX l t) s:=by
 unfold aX;rw[List.filter_filter,List.filter_filter];exact List.filter_congr λe _=>Bool.and_comm _ _
theorem xP {l:List Entry} (h:EUp l) {s t:List UInt8} (hs:isE l s=false) (hst:s≠t) (f:Int):aX (aW l s f) t=aW (aX l t) s f/\isE (aX l t) s=false:=by
 have hl:EUp (aX l t):=eM h t;have hi:isE (aX l t) s=false:=by
  cases e:isE (aX l t) s with
  | false=>rfl
  | true=>
   obtain ⟨x,hx,hn⟩:=(iC hl s).1 e;rw[(iC h s).2 ⟨x,ef hx,hn⟩] at hs;cases hs
 refine ⟨?_,hi⟩;obtain ⟨a1,a2,_⟩:=c_ h hs f;obtain ⟨b1,b2,_⟩:=c_ hl hi f;refine rD (eM a1 t) b1 λe=>?_
 obtain ⟨m,g⟩:=e;rw[b2,kj,a2,kj];constructor
 ·rintro ⟨h1 | h1,h2⟩
  ·exact .inl h1
  ·exact .inr ⟨h1,h2⟩
 ·rintro (h1 | ⟨h1,h2⟩)
  ·exact ⟨.inl h1,by injection h1 with h3 _;rw[h3];exact hst⟩
  ·exact ⟨.inr h1,h2⟩
def tE (P:TP) (d:Int) (s:List UInt8):Prop:=¬(P.D=some d/\s=P.n)
theorem NR.entry {P:TP} {x y:Node} (h:NR P x y) (hx:EUp x.entries) {s:List UInt8} (hf:tE P x.fid s):ay y s=ay x s:=by
 have hy:EUp y.entries:=by
  rw[h.ent];unfold lR;split
  ·exact eM hx _
  ·exact hx
 have hm:∀g,(⟨s,g⟩:Entry)∈y.entries↔(⟨s,g⟩:Entry)∈x.entries:=λg=>by
  rw[h.ent];unfold lR;split
  ·rename_i hD;rw[kj];exact ⟨λh1=>h1.1,λh1=>⟨h1,λh2=>hf ⟨hD,h2⟩⟩⟩
  ·exact Iff.rfl
 cases e:ay x s with
 | some g=>exact (YE hy).2 ((hm g).2 ((YE hx).1 e))
 | none=>
  refine (gZ hy).2 λz hz hn=>?_
  obtain ⟨zn,zf⟩:=z;simp only at hn;subst hn;exact (gZ hx).1 e _ ((hm zf).1 hz) rfl
theorem NR.isE {P:TP} {x y:Node} (h:NR P x y) (hx:EUp x.entries) {s:List UInt8} (hf:tE P x.fid s):isE y.entries s=isE x.entries s:=by
 have:=h.entry hx hf;have h1:∀n:Node,La.isE n.entries s=(ay n s).isSome:=λn=>by
  unfold ay;split
  ·rename_i h;rw[h];rfl
  ·rename_i h;simpa using h
 rw[h1,h1,this]
theorem NR.JF {P:TP} {x y:Node} (h:NR P x y):y.entries.length≤x.entries.length:=by
 rw[h.ent];unfold lR;split
 ·exact sw _ _
 ·exact WC _
theorem NR.room {P:TP} {x y:Node} (h:NR P x y) (hx:EUp x.entries) {s:List UInt8} (hf:tE P x.fid s) (hr:cZ x s=0):cZ y s=0:=by
 obtain ⟨h1,h2,h3⟩:=(nB _ _).1 hr;exact (nB _ _).2 ⟨h1,by rw[h.isE hx hf];exact h2,by have:=h.JF;omega⟩
theorem NR.leave {P:TP} {x y:Node} (h:NR P x y) (s:List UInt8) (v:Int):NR P { aE x s with version:=v } { aE y s with version:=v }:=by
 refine ⟨h.fid,h.dir,h.data,?_⟩
 show aX y.entries s=lR P { aE x s with version:=v }
 rw[h.ent];unfold lR
 show aX (if P.D=some x.fid then _ else _) s=if P.D=some x.fid then aX (aX x.entries s) P.n else aX x.entries s
 split
 ·exact qE _ _ _
 ·rfl
theorem NR.enter {P:TP} {x y:Node} (h:NR P x y) (hx:EUp x.entries) {s:List UInt8} (hi:La.isE x.entries s=false) (hf:tE P x.fid s) (g:Int) (v:Int):NR P { bb x s g with version:=v } { bb y s g with version:=v }:=by
 refine ⟨h.fid,h.dir,h.data,?_⟩
 show aW y.entries s g=lR P { bb x s g with version:=v }
 rw[h.ent];unfold lR
 show aW (if P.D=some x.fid then _ else _) s g=if P.D=some x.fid then aX (aW x.entries s g) P.n else aW x.entries s g
 split
 ·rename_i hD;exact (xP hx hi (λe=>hf ⟨hD,e⟩) g).1.symm
 ·rfl
theorem NR.zz {P:TP} {x y:Node} (h:NR P x y) (s:List UInt8):NR P (aE x s) (aE y s):=by
 refine ⟨h.fid,h.dir,h.data,?_⟩
 show aX y.entries s=lR P (aE x s)
 rw[h.ent];unfold lR
 show aX (if P.D=some x.fid then _ else _) s=if P.D=some x.fid then aX (aX x.entries s) P.n else aX x.entries s
 split
 ·exact qE _ _ _
 ·rfl
structure Can (P:TP) (a:Act):Prop where
 cc:∀k,k∈cc a->P.f≠some k
 name:a.kind≠3->tE P a.dir a.name
 toName:a.kind=5->tE P a.to a.toName
theorem hX (a:Act):a.fid∈cc a:=by unfold cc;split<;>(try split)<;>simp
theorem lX {a:Act} (h:a.kind≠3):a.dir∈cc a:=by unfold cc;rw[if_neg h];split<;>simp
theorem AL {a:Act} (h:a.kind=5):a.to∈cc a:=by unfold cc;rw[if_neg z7,if_pos h];simp
theorem H8 {P:TP} {l l':List Node} (hl:Ri l) (hl':Ri l') (h:TR P l l') {a:Act} (hk:a.kind≠3) (hc:Can P a) (he:cC l a=0):cC l' a=0/\TR P (bE l a 0) (bE l' a 0):=by
 obtain ⟨d,hd,hdd,hr,hn,h0,hlen⟩:=(me _ _).1 he;have kd:=hc.cc _ (lX hk);have kf:=hc.cc _ (hX a);obtain ⟨d',hd',hdn⟩:=h.at kd hd;have hdf:=((ZO hl.up).1 hd).2;have hde:=hl.eup d ((ZO hl.up).1 hd).1;have hfr:tE P d.fid a.name:=by rw[hdf];exact hc.name hk
 have he':cC l' a=0:=(me _ _).2 ⟨d',hd',by rw[hdn.dir];exact hdd,hdn.room hde hfr hr,h.no hn,h0,by have:=h.len hl.up hl'.up;omega⟩;refine ⟨he',?_⟩;unfold bE;rw[if_pos he,if_pos he',aJ hd,aJ hd'];have hen:=hdn.enter hde ((nB _ _).1 hr).2.1 hfr a.fid 0;refine TR.put (aD hl.up _).1 (aD hl'.up _).1 (TR.put hl.up hl'.up h hen Ql) ⟨rfl,rfl,λ_=>rfl,?_⟩ kf;unfold lR dT;split<;>rfl
theorem yC {P:TP} {l l':List Node} (hl:Ri l) (hl':Ri l') (h:TR P l l') {a:Act} (hc:Can P a) (he:cr l a=0):cr l' a=0/\TR P (bM l a 0) (bM l' a 0):=by
 obtain ⟨x,hx,hxd,hn⟩:=(fA _ _).1 he;have kf:=hc.cc _ (hX a);obtain ⟨y,hy,hxy⟩:=h.at kf hx;have hxf:=((ZO hl.up).1 hx).2;have he':cr l' a=0:=(fA _ _).2 ⟨y,hy,by rw[hxy.dir];exact hxd,hn⟩;refine ⟨he',?_⟩;unfold bM;rw[if_pos he,if_pos he',aJ hx,aJ hy];exact TR.put hl.up hl'.up h ⟨hxy.fid,hxy.dir,λ_=>rfl,hxy.ent⟩ (by show P.f≠some x.fid;rw[hxf];exact kf)
theorem CJ {P:TP} {l l':List Node} (hl:Ri l) (hl':Ri l') (h:TR P l l') {a:Act} (hk:a.kind≠3) (hc:Can P a) (he:cv l a=0):cv l' a=0/\TR P (bX l a 0) (bX l' a 0):=by
 obtain ⟨d,x,hd,hdd,hen,hx,hxe⟩:=(jA _ _).1 he;have kd:=hc.cc _ (lX hk);have kf:=hc.cc _ (hX a);obtain ⟨d',hd',hdn⟩:=h.at kd hd;obtain ⟨y,hy,hxy⟩:=h.at kf hx;have hdf:=((ZO hl.up).1 hd).2;have hde:=hl.eup d ((ZO hl.up).1 hd).1;have hfr:tE P d.fid a.name:=by rw[hdf];exact hc.name hk
 have hye:y.entries=[]:=by
  have:=hxy.JF;rw[hxe] at this;exact List.eq_nil_of_length_eq_zero (by simpa using this)
 have he':cv l' a=0:=(jA _ _).2 ⟨d',y,hd',by rw[hdn.dir];exact hdd,by rw[hdn.entry hde hfr];exact hen,hy,hye⟩;refine ⟨he',?_⟩;unfold bX;rw[if_pos he,if_pos he',aJ hd,aJ hd'];exact TR.drop (aD hl.up _).1 (aD hl'.up _).1 (TR.put hl.up hl'.up h (hdn.leave _ _) Ql) _
theorem CK {P:TP} {l l':List Node} (hl:Ri l) (hl':Ri l') (h:TR P l l') {a:Act} (hk:a.kind=5) (hc:Can P a) (he:dg l a=0):dg l' a=0/\TR P (eQ l a 0) (eQ l' a 0):=by
 obtain ⟨d,t,x,hd,hdd,hen,ht,htd,hr,hx,hm⟩:=(pe _ _).1 he;have kd:=hc.cc _ (lX (a:=a) z7);have kf:=hc.cc _ (hX a);have kt:=hc.cc _ (AL hk);obtain ⟨d',hd',hdn⟩:=h.at kd hd;obtain ⟨t',ht',htn⟩:=h.at kt ht;obtain ⟨y,hy,hxy⟩:=h.at kf hx;have hdf:=((ZO hl.up).1 hd).2;have hde:=hl.eup d ((ZO hl.up).1 hd).1;have htf:=((ZO hl.up).1 ht).2;have hte:=hl.eup t ((ZO hl.up).1 ht).1;have hfr:tE P d.fid a.name:=by rw[hdf];exact hc.name z7
 have hTn:NR P (toD a d t) (toD a d' t'):=by
  unfold toD;split
  ·exact hdn.zz _
  ·exact htn
 have hTf:(toD a d t).fid=a.to:=by
  unfold toD;split
  ·rename_i e;rw[e];exact hdf
  ·exact htf
 have hTe:EUp (toD a d t).entries:=by
  unfold toD;split
  ·exact eM hde _
  ·exact hte
 have hfT:tE P (toD a d t).fid a.toName:=by rw[hTf];exact hc.toName hk
 have he':dg l' a=0:=(pe _ _).2 ⟨d',t',y,hd',by rw[hdn.dir];exact hdd,by rw[hdn.entry hde hfr];exact hen,ht',by rw[htn.dir];exact htd,hTn.room hTe hfT hr,hy,λhm'=>hm (h.reach hl.up hl'.up hm')⟩;refine ⟨he',?_⟩;unfold eQ;rw[if_pos he,if_pos he',qj hd ht,qj hd' ht',aJ hd,aJ hd'];have hen2:=hTn.enter hTe ((nB _ _).1 hr).2.1 hfT a.fid 0;have hkT:P.f≠some (toD a d t).fid:=by rw[hTf];exact kt
 by_cases e:a.to=a.dir
 ·rw[if_pos e,if_pos e];exact TR.put hl.up hl'.up h hen2 hkT
 ·rw[if_neg e,if_neg e];exact TR.put (aD hl.up _).1 (aD hl'.up _).1 (TR.put hl.up hl'.up h (hdn.leave _ _) Ql) hen2 hkT
theorem rF {l:List Node} {a:Act} (he:bt l a=0):a.kind=1\/a.kind=2\/a.kind=3\/a.kind=4\/a.kind=5:=by
 unfold bt at he
 by_cases k1:a.kind=1;· exact .inl k1
 by_cases k2:a.kind=2;· exact .inr (.inl k2)
 by_cases k3:a.kind=3;· exact .inr (.inr (.inl k3))
 by_cases k4:a.kind=4;· exact .inr (.inr (.inr (.inl k4)))
 by_cases k5:a.kind=5;· exact .inr (.inr (.inr (.inr k5)))
 rw[if_neg k1,if_neg k2,if_neg k3,if_neg k4,if_neg k5] at he;cases he
theorem iv (l:List Node) {a:Act} (k:a.kind=1\/a.kind=2) (v:Int):bt l a=cC l a/\bk l a v=bE l a v:=by
 unfold bt bk
 rcases k with k | k<;>simp[k]
theorem dJ (l:List Node) {a:Act} (k:a.kind=3) (v:Int):bt l a=cr l a/\bk l a v=bM l a v:=by unfold bt bk;simp[k]
theorem eA (l:List Node) {a:Act} (k:a.kind=4) (v:Int):bt l a=cv l a/\bk l a v=bX l a v:=by unfold bt bk;simp[k]
theorem gy (l:List Node) {a:Act} (k:a.kind=5) (v:Int):bt l a=dg l a/\bk l a v=eQ l a v:=by unfold bt bk;simp[k]
theorem pq {P:TP} {l l':List Node} (hl:Ri l) (hl':Ri l') (h:TR P l l') {a:Act} (hc:Can P a) (he:bt l a=0):bt l' a=0/\TR P (bk l a 0) (bk l' a 0):=by
 have hm:a.kind=1\/a.kind=2->bt l' a=0/\TR P (bk l a 0) (bk l' a 0):=λk=>by
  rw[(iv l k 0).1] at he;rw[(iv l k 0).2,(iv l' k 0).1,(iv l' k 0).2];exact H8 hl hl' h z7 hc he
 rcases rF he with k | k | k | k | k
 ·exact hm (.inl k)
 ·exact hm (.inr k)
 ·rw[(dJ l k 0).1] at he;rw[(dJ l k 0).2,(dJ l' k 0).1,(dJ l' k 0).2];exact yC hl hl' h hc he
 ·rw[(eA l k 0).1] at he;rw[(eA l k 0).2,(eA l' k 0).1,(eA l' k 0).2];exact CJ hl hl' h z7 hc he
 ·rw[(gy l k 0).1] at he;rw[(gy l k 0).2,(gy l' k 0).1,(gy l' k 0).2];exact CK hl hl' h k hc he
noncomputable def jh:List Act->List Node->Option (List Node)
 | [],l=>some l
 | a::al,l=>if bt l a=0 then jh al (bk l a 0) else none
theorem dv {a:Act} {al:List Act} {l m:List Node}:jh (a::al) l=some m↔bt l a=0/\jh al (bk l a 0)=some m:=by
 rw[jh]
 by_cases h:bt l a=0<;>simp[h]
theorem mr:∀{al bs:List Act} {l m:List Node},jh (al++bs) l=some m↔∃p,jh al l=some p/\jh bs p=some m
 | [],bs,l,m=>by simp[jh]
 | a::al,bs,l,m=>by
  rw[List.cons_append,dv,mr];constructor
  ·rintro ⟨h,p,h1,h2⟩;exact ⟨p,dv.2 ⟨h,h1⟩,h2⟩
  ·rintro ⟨p,h1,h2⟩;obtain ⟨h,h1⟩:=dv.1 h1;exact ⟨h,p,h1,h2⟩
theorem rK:∀{al:List Act} {l m:List Node},Ri l->jh al l=some m->Ri m
 | [],l,m,hl,h=>by rw[jh] at h;injection h with h;subst h;exact hl
 | a::al,l,m,hl,h=>by
  obtain ⟨_,h2⟩:=dv.1 h;exact rK (hl.apply a 0) h2
def PE:TP:=⟨none,λ_=>True,none,[]⟩
theorem Dj (a:Act):Can PE a:=⟨λ_ _ h=>u9,λ_ h=>(by cases h.1),λ_ h=>(by cases h.1)⟩
theorem NR.refl (x:Node):NR PE x x:=⟨rfl,rfl,λ_=>rfl,rfl⟩
theorem TR.refl (l:List Node):TR PE l l:=λk=>⟨λh=>u9,λ_=>by
 cases h:af l k with
 | none=>exact .inl ⟨rfl,rfl⟩
 | some x=>exact .inr ⟨x,x,rfl,rfl,NR.refl x⟩⟩
theorem TR.symm {l l':List Node} (h:TR PE l l'):TR PE l' l:=λk=>⟨λh=>u9,λhk=>by
 rcases (h k).2 hk with ⟨h1,h2⟩ | ⟨x,y,h1,h2,h3⟩
 ·exact .inl ⟨h2,h1⟩
 ·exact .inr ⟨y,x,h2,h1,h3.fid.symm,h3.dir.symm,λ_=>(h3.data trivial).symm,h3.ent.symm⟩⟩
theorem TR.trans {l m n:List Node} (h:TR PE l m) (g:TR PE m n):TR PE l n:=λk=>⟨λh=>u9,λhk=>by
 rcases (h k).2 hk with ⟨h1,h2⟩ | ⟨x,y,h1,h2,h3⟩
 ·exact .inl ⟨h1,g.no h2⟩
 ·obtain ⟨z,h4,h5⟩:=g.at hk h2;exact .inr ⟨x,z,h1,h4,h5.fid.trans h3.fid,h5.dir.trans h3.dir,λ_=>(h5.data trivial).trans (h3.data trivial),(h5.ent:z.entries=y.entries).trans h3.ent⟩⟩
theorem zU {P:TP} {l l':List Node} (hl:Ri l) (h:TR P l l') {a:Act} (hk:a.kind=3) (he:bt l a=0) (hf:P.f=some a.fid\/¬P.dat a.fid):TR P (bk l a 0) l':=by
 rw[(dJ l hk 0).1] at he;rw[(dJ l hk 0).2];obtain ⟨x,hx,hxd,hn⟩:=(fA _ _).1 he;have hxf:=((ZO hl.up).1 hx).2;unfold bM;rw[if_pos he,aJ hx];intro k;refine ⟨(h k).1,λhk2=>?_⟩;rw[bU hl.up]
 by_cases e:k=x.fid
 ·have e2:({ x with data:=a.data,version:=0 }:Node).fid=x.fid:=rfl;rw[e2,if_pos e];rw[e,hxf] at hk2;obtain ⟨y,hy,hxy⟩:=h.at hk2 hx;refine .inr ⟨_,y,rfl,by rw[e,hxf];exact hy,hxy.fid,hxy.dir,λhd=>?_,hxy.ent⟩
  rcases hf with hf | hf
  ·exact absurd hf hk2
  ·exact absurd (by rw[←hxf];exact hd) hf
 ·have e2:({ x with data:=a.data,version:=0 }:Node).fid=x.fid:=rfl;rw[e2,if_neg e];exact (h k).2 hk2
theorem ll {P:TP} (ra:Rec->Bool):∀(L:List Rec) {l l' m:List Node},Ri l->Ri l'->TR P l l'->jh (L.map (·.act)) l=some m->(∀r,r∈L->ra r=true->Can P r.act) ->
  (∀r,r∈L->ra r=false->r.act.kind=3/\(P.f=some r.act.fid\/¬P.dat r.act.fid))->∃m',jh ((L.filter ra).map (·.act)) l'=some m'/\TR P m m'
 | [],l,l',m,_,_,h,hm,_,_=>by
  rw[List.map_nil,jh] at hm;injection hm with hm;subst hm
  exact ⟨l',by rw[List.filter_nil,List.map_nil,jh],h⟩
 | r::L,l,l',m,hl,hl',h,hm,hc,hs=>by
  obtain ⟨he,hm2⟩:=dv.1 hm
  by_cases hk:ra r=true
  ·obtain ⟨he',h2⟩:=pq hl hl' h (hc r List.mem_cons_self hk) he;obtain ⟨m',h3,h4⟩:=ll ra L (hl.apply _ _) (hl'.apply _ _) h2 hm2 (λx hx=>hc x (List.mem_cons_of_mem _ hx)) (λx hx=>hs x (List.mem_cons_of_mem _ hx));exact ⟨m',by rw[List.filter_cons,if_pos hk,List.map_cons,dv];exact ⟨he',h3⟩,h4⟩
  ·have hk:=Bool.eq_false_iff.2 hk;obtain ⟨k3,hf⟩:=hs r List.mem_cons_self hk;obtain ⟨m',h3,h4⟩:=ll ra L (hl.apply _ _) hl' (zU hl h k3 he hf) hm2 (λx hx=>hc x (List.mem_cons_of_mem _ hx)) (λx hx=>hs x (List.mem_cons_of_mem _ hx));exact ⟨m',by rw[List.filter_cons,if_neg (by rw[hk];simp)];exact h3,h4⟩
def PW (f:Int):TP:=⟨none,λk=>k≠f,none,[]⟩
theorem yY (f:Int) (a:Act):Can (PW f) a:=⟨λ_ _ h=>u9,λ_ h=>(by cases h.1),λ_ h=>(by cases h.1)⟩
theorem FU (f:Int) (l:List Node):TR (PW f) l l:=λk=>⟨λh=>u9,λ_=>by
 cases h:af l k with
 | none=>exact .inl ⟨rfl,rfl⟩
 | some x=>exact .inr ⟨x,x,rfl,rfl,rfl,rfl,λ_=>rfl,rfl⟩⟩
theorem CE {l l':List Node} (hl:Ri l) (hl':Ri l') {a:Act} (h:TR (PW a.fid) l l') (hk:a.kind=3) (he:bt l a=0):bt l' a=0/\TR PE (bk l a 0) (bk l' a 0):=by
 refine ⟨(pq hl hl' h (yY _ a) he).1,?_⟩;rw[(dJ l hk 0).1] at he;rw[(dJ l hk 0).2,(dJ l' hk 0).2];have he':cr l' a=0:=(yC hl hl' h (yY _ a) he).1;obtain ⟨x,hx,hxd,hn⟩:=(fA _ _).1 he;obtain ⟨y,hy,hxy⟩:=h.at (by intro h;cases h) hx;have hxf:=((ZO hl.up).1 hx).2;unfold bM;rw[if_pos he,if_pos he',aJ hx,aJ hy];intro k;refine ⟨λh=>u9,λ_=>?_⟩;rw[bU hl.up,bU hl'.up];have e1:({ x with data:=a.data,version:=0 }:Node).fid=a.fid:=hxf;have e2:({ y with data:=a.data,version:=0 }:Node).fid=a.fid:=by show y.fid=_;rw[hxy.fid];exact hxf
 rw[e1,e2]
 by_cases e:k=a.fid
 ·rw[if_pos e,if_pos e];exact .inr ⟨_,_,rfl,rfl,hxy.fid,hxy.dir,λ_=>rfl,hxy.ent⟩
 ·rw[if_neg e,if_neg e]
  rcases (h k).2 (by intro h;cases h) with ⟨h1,h2⟩ | ⟨u,v,h1,h2,h3⟩
  ·exact .inl ⟨h1,h2⟩
  ·exact .inr ⟨u,v,h1,h2,h3.fid,h3.dir,λ_=>h3.data (by show u.fid≠a.fid;rw[((ZO hl.up).1 h1).2];exact e),h3.ent⟩
def PU (f D:Int) (n:List UInt8):TP:=⟨some f,λ_=>True,some D,n⟩
theorem FV {l:List Node} (hl:Ri l) {a:Act} (hk:a.kind=1\/a.kind=2) (he:bt l a=0):TR (PU a.fid a.dir a.name) (bk l a 0) l:=by
 rw[(iv l hk 0).1] at he;rw[(iv l hk 0).2];obtain ⟨d,hd,hdd,hr,hn,h0,hlen⟩:=(me _ _).1 he;have hdf:=((ZO hl.up).1 hd).2;have hde:=hl.eup d ((ZO hl.up).1 hd).1;unfold bE;rw[if_pos he,aJ hd];intro k;refine ⟨λhk=>?_,λhk=>?_⟩
 ·injection hk with hk
  subst hk;exact hn
 ·have hk:k≠a.fid:=λe=>hk (by rw[e];rfl)
  rw[bU (aD hl.up _).1,bU hl.up];have e1:(dT a 0).fid=a.fid:=rfl;have e2:({ bb d a.name a.fid with version:=0 }:Node).fid=a.dir:=hdf;rw[e1,e2,if_neg hk]
  by_cases e:k=a.dir
  ·rw[if_pos e,e,hd];refine .inr ⟨_,d,rfl,rfl,rfl,rfl,λ_=>rfl,?_⟩;unfold lR;rw[if_pos (by rw[e2];rfl)];exact (c_ hde ((nB _ _).1 hr).2.1 a.fid).2.2.symm
  ·rw[if_neg e];cases h:af l k with
   | none=>exact .inl ⟨rfl,rfl⟩
   | some x=>
    refine .inr ⟨x,x,rfl,rfl,rfl,rfl,λ_=>rfl,?_⟩;unfold lR;rw[if_neg];intro h2;injection h2 with h2
    rw[((ZO hl.up).1 h).2] at h2;exact e h2.symm
theorem Jz {l l':List Node} (hl:Ri l) {a:Act} (h:TR (PU a.fid a.dir a.name) l l') (hk:a.kind=4) (he:bt l a=0):TR PE (bk l a 0) l':=by
 rw[(eA l hk 0).1] at he;rw[(eA l hk 0).2];obtain ⟨d,x,hd,hdd,hen,hx,hxe⟩:=(jA _ _).1 he;have hdf:=((ZO hl.up).1 hd).2;unfold bX;rw[if_pos he,aJ hd];intro k;refine ⟨λh=>u9,λ_=>?_⟩;rw[ec (aD hl.up _).1,bU hl.up];have e2:({ aE d a.name with version:=0 }:Node).fid=a.dir:=hdf;rw[e2]
 by_cases e:k=a.fid
 ·rw[if_pos e];exact .inl ⟨rfl,(h k).1 (by rw[e];rfl)⟩
 ·rw[if_neg e];have hke:(PU a.fid a.dir a.name).f≠some k:=λh2=>e (by injection h2 with h2;exact h2.symm)
  by_cases e3:k=a.dir
  ·rw[if_pos e3];obtain ⟨y,hy,hxy⟩:=h.at hke (by rw[e3];exact hd);refine .inr ⟨_,y,rfl,hy,hxy.fid,hxy.dir,λ_=>hxy.data trivial,?_⟩;rw[hxy.ent];unfold lR;rw[if_pos (by rw[hdf];rfl)];rfl
  ·rw[if_neg e3]
   rcases (h k).2 hke with ⟨h1,h2⟩ | ⟨u,v,h1,h2,h3⟩
   ·exact .inl ⟨h1,h2⟩
   ·refine .inr ⟨u,v,h1,h2,h3.fid,h3.dir,λ_=>h3.data trivial,?_⟩;rw[h3.ent];unfold lR;rw[if_neg]
    ·rfl
    ·intro h4;injection h4 with h4
     rw[((ZO hl.up).1 h1).2] at h4;exact e3 h4.symm
theorem iJ {r:Rec} {f:Int}:r.names f=true↔f∈cc r.act:=by unfold Rec.names;rw[List.contains_iff_mem]
theorem BD {l:List Node} (hl:Ri l) {a:Act} {f:Int} (he:bt l a=0) (hf:af l f=none) (hm:¬((a.kind=1\/a.kind=2)/\a.fid=f)):f∉cc a/\af (bk l a 0) f=none:=by
 have hne:∀{k:Int} {x:Node},af l k=some x->k≠f:=λh e=>by rw[e,hf] at h;cases h
 have hput:∀{x:Node} {m:List Node},Up m->x.fid≠f->af m f=none->af (aT m x) f=none:=λhu hx hn=>by rw[bU hu,if_neg (λe=>hx e.symm)];exact hn
 have hmk:a.kind=1\/a.kind=2->f∉cc a/\af (bk l a 0) f=none:=λk=>by
  have he:=he;rw[(iv l k 0).1] at he;rw[(iv l k 0).2];obtain ⟨d,hd,hdd,hr,hn,h0,hlen⟩:=(me _ _).1 he;have hdf:=((ZO hl.up).1 hd).2;have h1:a.fid≠f:=λe=>hm ⟨k,e⟩
  have h2:=hne hd;refine ⟨?_,?_⟩
  ·unfold cc;rw[if_neg z7,if_neg z7];simp[Ne.symm h1,Ne.symm h2]
  ·unfold bE;rw[if_pos he,aJ hd];exact hput (aD hl.up _).1 h1 (hput hl.up (by show d.fid≠f;rw[hdf];exact h2) hf)
 rcases rF he with k | k | k | k | k
 ·exact hmk (.inl k)
 ·exact hmk (.inr k)
 ·rw[(dJ l k 0).1] at he;rw[(dJ l k 0).2];obtain ⟨x,hx,hxd,hn⟩:=(fA _ _).1 he;have hxf:=((ZO hl.up).1 hx).2;refine ⟨?_,?_⟩
  ·unfold cc;rw[if_pos k];simp[Ne.symm (hne hx)]
  ·unfold bM;rw[if_pos he,aJ hx];exact hput hl.up (by show x.fid≠f;rw[hxf];exact hne hx) hf
 ·rw[(eA l k 0).1] at he;rw[(eA l k 0).2];obtain ⟨d,x,hd,hdd,hen,hx,hxe⟩:=(jA _ _).1 he;have hdf:=((ZO hl.up).1 hd).2;refine ⟨?_,?_⟩
  ·unfold cc;rw[if_neg z7,if_neg z7];simp[Ne.symm (hne hx),Ne.symm (hne hd)]
  ·unfold bX;rw[if_pos he,aJ hd,ec (aD hl.up _).1];split
   ·rfl
   ·exact hput hl.up (by show d.fid≠f;rw[hdf];exact hne hd) hf
 ·rw[(gy l k 0).1] at he;rw[(gy l k 0).2];obtain ⟨d,t,x,hd,hdd,hen,ht,htd,hr,hx,hm⟩:=(pe _ _).1 he;have hdf:=((ZO hl.up).1 hd).2;have htf:=((ZO hl.up).1 ht).2;refine ⟨?_,?_⟩
  ·unfold cc;rw[if_neg z7,if_pos k];simp[Ne.symm (hne hx),Ne.symm (hne hd),Ne.symm (hne ht)]
  ·unfold eQ;rw[if_pos he,qj hd ht,aJ hd];have hT:(toD a d t).fid≠f:=by
    unfold toD;split
    ·show d.fid≠f;rw[hdf];exact hne hd
    ·rw[htf];exact hne ht
   refine hput ?_ hT ?_
   ·split
    ·exact hl.up
    ·exact (aD hl.up _).1
   ·split
    ·exact hf
    ·exact hput hl.up (by show d.fid≠f;rw[hdf];exact hne hd) hf
theorem xl {f:Int}:∀{L:List Rec} {l m:List Node},Ri l->jh (L.map (·.act)) l=some m->af l f=none->(∀r,r∈L->fg f r=false)->(∀r,r∈L->r.names f=false)/\af m f=none
 | [],l,m,_,h,hf,_=>by rw[List.map_nil,jh] at h;injection h with h;subst h;exact ⟨λr hr=>Zn,hf⟩
 | r::L,l,m,hl,h,hf,hm=>by
  obtain ⟨he,h2⟩:=dv.1 h;have hmr:=hm r List.mem_cons_self;have hnm:¬((r.act.kind=1\/r.act.kind=2)/\r.act.fid=f):=λ⟨k,e⟩=>by
   unfold fg at hmr
   rcases k with k | k<;>simp[k,e] at hmr
  obtain ⟨h3,h4⟩:=BD hl he hf hnm;obtain ⟨h5,h6⟩:=xl (hl.apply _ _) h2 h4 (λx hx=>hm x (List.mem_cons_of_mem _ hx));refine ⟨λx hx=>?_,h6⟩
  rcases List.mem_cons.1 hx with rfl | hx
  ·cases e:x.names f with
   | false=>rfl
   | true=>exact absurd (iJ.1 e) h3
  ·exact h5 x hx
theorem uR:∀{L:List Rec} {l m:List Node},jh (L.map (·.act)) l=some m->∀{x:Rec},x∈L->x.act.kind=1\/x.act.kind=2\/x.act.kind=3\/x.act.kind=4\/x.act.kind=5
 | [],l,m,_,x,hx=>(by cases hx)
 | r::L,l,m,h,x,hx=>by
  obtain ⟨he,h2⟩:=dv.1 h
  rcases List.mem_cons.1 hx with rfl | hx
  ·exact rF he
  ·exact uR h2 hx
structure Shrt (l0:List Node) (log:List Rec) (t:List Node):Prop where
 neg:∀r,r∈log->r.act.kind=1\/r.act.kind=2->r.act.fid<0
 runs:∃now,jh (log.map (·.act)) l0=some now/\TR PE now t
 ri:Ri t
theorem Shrt.start {l0:List Node} (h:Ri l0):Shrt l0 [] l0:=⟨λr hr=>Zn,⟨l0,by rw[List.map_nil,jh],TR.refl _⟩,h⟩
theorem Shrt.step {l0:List Node} (h0:Ri l0) (hpos:∀n,n∈l0->0≤n.fid) {log:List Rec} {t:List Node} (h:Shrt l0 log t) {r:Rec} (hr:r.act.kind=1\/r.act.kind=2->r.act.fid<0) (he:bt t r.act=0) {m:List Rec} (hm:dC log r=some m):Shrt l0 m (bk t r.act 0):=by
 obtain ⟨now,hnow,hE⟩:=h.runs;have hri:=rK h0 hnow;obtain ⟨hen,hEn⟩:=pq h.ri hri hE.symm (Dj r.act) he;unfold dC at hm
 by_cases hc:ea log r=true
 ·rw[if_pos hc] at hm;injection hm with hm
  subst hm;unfold ea at hc;cases hi:log.findIdx? (fg r.act.fid) with
  | none=>rw[hi] at hc;cases hc
  | some k=>
   rw[hi] at hc;simp only[Bool.and_eq_true,beq_iff_eq,Wm] at hc;obtain ⟨⟨⟨hk4,hD⟩,hN⟩,hbar⟩:=hc;obtain ⟨hkl,hmk,hno⟩:=WK.1 hi;have hgd:log.getD k default=log[k]:=by rw[Z1,Z2 hkl];rfl
   rw[hgd] at hD hN hbar;have hsp:log=log.take k++log[k]::log.drop (k+1):=by rw[←List.drop_eq_getElem_cons hkl,List.take_append_drop]
   have hpre:∀x,x∈log.take k->fg r.act.fid x=false:=λx hx=>by
    obtain ⟨j,hj⟩:=Z9 hx;rw[WQ] at hj;split at hj
    ·rename_i hjk;obtain ⟨hjl,hje⟩:=Z8.1 hj;have:=hno j hjk;rw[hje] at this;simpa using this
    ·cases hj
   generalize log.take k=pre at hsp hpre;generalize log.drop (k+1)=post at hsp hbar;generalize log[k]=mk at hsp hmk hD hN hbar;subst hsp;have hmf:mk.act.fid=r.act.fid/\(mk.act.kind=1\/mk.act.kind=2):=by
    unfold fg at hmk;simpa using hmk
   have hneg:r.act.fid<0:=by rw[←hmf.1];exact h.neg mk y7 hmf.2
   rw[List.map_append,mr] at hnow;obtain ⟨p,hp1,hp2⟩:=hnow;rw[List.map_cons,dv] at hp2;obtain ⟨hem,hp3⟩:=hp2;have hpri:=rK h0 hp1;have hf0:af l0 r.act.fid=none:=(dd h0.up).2 λx hx e=>by have:=hpos x hx;omega
   obtain ⟨hfr,hfp⟩:=xl h0 hp1 hf0 hpre;have hU:=FV hpri hmf.2 hem;rw[hmf.1,hD,hN] at hU;have hbar2:∀x,x∈post->bars r.act.fid mk.act.dir mk.act.name x=false:=λx hx=>by
    have:=List.any_eq_false.1 hbar x hx;simpa using this
   obtain ⟨now',hn1,hn2⟩:=ll (P:=PU r.act.fid r.act.dir r.act.name) (λx=>!(x.names r.act.fid)) post (hpri.apply _ _) hpri hU hp3 (λx hx hkeep=>by
    have hb:=hbar2 x hx;unfold bars at hb;rw[Bool.or_eq_false_iff] at hb;have ht:=hb.2;rw[hD,hN] at ht;have hnn:r.act.fid∉cc x.act:=λe=>by rw[iJ.2 e] at hkeep;cases hkeep
    refine ⟨λk hk e=>?_,λhk3 e=>?_,λhk5 e=>?_⟩
    ·injection e with e;subst e;exact hnn hk
    ·obtain ⟨e1,e2⟩:=e;injection e1 with e1
     change x.act.name=r.act.name at e2
     unfold gr at ht;rw[←e1,e2] at ht;split at ht
     ·simp at ht
     ·split at ht
      ·simp at ht
      ·rename_i n1 n2;have hkk:∀j,x.act.kind=j->j≠1/\j≠2/\j≠3/\j≠4/\j≠5:=λj hj=>⟨λe=>n1 (.inl (hj.trans e)),λe=>n1 (.inr (.inl (hj.trans e))),λe=>hk3 (hj.trans e),λe=>n1 (.inr (.inr (hj.trans e))),λe=>n2 (hj.trans e)⟩
       exact absurd (uR hp3 hx) (by have:=hkk _ rfl;omega)
    ·obtain ⟨e1,e2⟩:=e;injection e1 with e1
     change x.act.toName=r.act.name at e2
     unfold gr at ht;rw[if_neg z7,if_pos hk5,←e1,e2] at ht;simp at ht) (λx hx hkeep=>by
    have hb:=hbar2 x hx;unfold bars at hb;rw[Bool.or_eq_false_iff] at hb;have hn:x.names r.act.fid=true:=by simpa using hkeep
    have hk3:x.act.kind=3:=by
     have:=hb.1;rw[hn] at this;simpa using this
    have hfid:=iJ.1 hn;unfold cc at hfid;rw[if_pos hk3,List.mem_singleton] at hfid;exact ⟨hk3,.inl (by rw[←hfid];rfl)⟩)
   have hfl:(pre++mk::post).filter (λx=>!(x.names r.act.fid))=pre++post.filter (λx=>!(x.names r.act.fid)):=by
    rw[List.filter_append,List.filter_cons];have hmn:mk.names r.act.fid=true:=iJ.2 (by rw[←hmf.1];exact hX _);rw[if_neg (by simp[hmn]),WU.2 (λx hx=>by rw[hfr x hx];rfl)]
   refine ⟨λx hx=>h.neg x (WE.1 hx).1,⟨now',?_,?_⟩,h.ri.apply _ _⟩
   ·rw[hfl,List.map_append,mr];exact ⟨p,hp1,hn1⟩
   ·exact (hEn.trans (Jz hri hn2 hk4 hen)).symm
 ·rw[if_neg hc] at hm
  by_cases hl20:(dW log r).length≥20
  ·rw[if_pos hl20] at hm;cases hm
  rw[if_neg hl20] at hm;injection hm with hm
  subst hm;have hneg:∀x,x∈dW log r++[r]->x.act.kind=1\/x.act.kind=2->x.act.fid<0:=λx hx=>by
   rcases List.mem_append.1 hx with hx | hx
   ·exact h.neg x ((lz log r).subset hx)
   ·rw[List.mem_singleton.1 hx];exact hr
  refine ⟨hneg,?_,h.ri.apply _ _⟩
  by_cases hk3:r.act.kind=3
  ·have hus:dW log r=log.filter λx=>!(stored r x):=by unfold dW;rw[if_pos hk3]
   obtain ⟨m',h1,h2⟩:=ll (P:=PW r.act.fid) (λx=>!(stored r x)) log h0 h0 (FU _ _) hnow (λx _ _=>yY _ _) (λx _ hk=>by
    have hs:stored r x=true:=by simpa using hk
    unfold stored at hs;simp only[Bool.and_eq_true,beq_iff_eq] at hs;exact ⟨hs.1,.inr (by show ¬(x.act.fid≠r.act.fid);simp[hs.2])⟩)
   obtain ⟨h3,h4⟩:=CE hri (rK h0 h1) h2 hk3 hen;refine ⟨bk m' r.act 0,?_,(hEn.trans h4).symm⟩;rw[hus,List.map_append,mr];exact ⟨m',h1,dv.2 ⟨h3,by rw[List.map_nil,jh]⟩⟩
  ·have hus:dW log r=log:=by unfold dW;rw[if_neg hk3]
   refine ⟨bk now r.act 0,?_,hEn.symm⟩;rw[hus,List.map_append,mr];exact ⟨now,hnow,dv.2 ⟨hen,by rw[List.map_nil,jh]⟩⟩
def Full (l:List Kept):Prop:=∀k,k∈l->gg k=false
theorem gL {l:List Kept} (hn:(l.map λx=>x.node.fid).Nodup) {f:Int} {n:Node}:bg l f=some n↔∃x,x∈l/\x.node=n/\n.fid=f:=by
 constructor
 ·exact uE
 ·rintro ⟨x,hx,rfl,rfl⟩;exact oQ hn hx
theorem gM {l:List Kept} {f:Int}:bg l f=none↔∀x,x∈l->x.node.fid≠f:=by
 unfold bg;rw[Option.map_eq_none_iff,List.find?_eq_none];simp
theorem uw {l L:List Kept} {room:Int} {k:Kept} (hr:1≤room) (hn:(l.map λx=>x.node.fid).Nodup) (hl:(l.length:Int)≤room) (hF:Full l) (h:cB l room k=some L) :
  ∀f,bg L f=if f=k.node.fid then some k.node else bg l f:=λf=>by
 have hp:=ma hr hn hl h;have hs:=BV hl h
 by_cases e:f=k.node.fid
 ·rw[if_pos e];obtain ⟨x,hx,hxn,_⟩:=hp.has;exact (gL hp.nod).2 ⟨x,hx,hxn,e.symm⟩
 ·rw[if_neg e];cases e2:bg l f with
  | none=>
   rw[gM] at e2 ⊢;intro x hx
   rcases hp.mem x hx with ⟨h1,_⟩ | ⟨h1,_⟩
   ·exact e2 x h1
   ·rw[h1];exact λh=>e h.symm
  | some n=>
   obtain ⟨y,hy,hyn,hnf⟩:=(gL hn).1 e2
   rcases hs.each y hy with h1 | ⟨h1,_⟩
   ·unfold tM at h1;obtain ⟨x,hx,hxf⟩:=List.any_eq_true.1 h1;have hxf:x.node.fid=y.node.fid:=by simpa using hxf
    rcases hp.mem x hx with ⟨h2,_⟩ | ⟨h2,_⟩
    ·have h3:=oQ hn h2;rw[hxf,oQ hn hy] at h3;injection h3 with h3
     exact (gL hp.nod).2 ⟨x,hx,by rw[←h3];exact hyn,hnf⟩
    ·rw[h2] at hxf;exact absurd (by rw[←hnf,←hyn];exact hxf.symm) e
   ·rw[hF y hy] at h1;cases h1
theorem zx {l L:List Kept} {room:Int} {k:Kept} (hr:1≤room) (hn:(l.map λx=>x.node.fid).Nodup) (hl:(l.length:Int)≤room) (hF:Full l) (hk:gg k=false) (h:cB l room k=some L):Full L:=λx hx=>by
 rcases (ma hr hn hl h).mem x hx with ⟨h1,_⟩ | ⟨h1,h2⟩
 ·exact hF x h1
 ·unfold gg at hk ⊢;rw[h1,h2];exact hk
theorem kP {room clk:Int} (hr:1≤room) {was:List Node} {a:Act}:∀(N:List Node) {l L:List Kept},Up N->(l.map λx=>x.node.fid).Nodup->(l.length:Int)≤room->Full l->bK room clk was a N l=some L ->
  Full L/\(L.map λx=>x.node.fid).Nodup/\∀f,(∀n,n∈N->n.fid=f->aM was a n=true->bg L f=some (dD was clk n).node)/\((∀n,n∈N->n.fid=f->aM was a n=false)->bg L f=bg l f)
 | [],l,L,_,hn,hl,hF,h=>by
  rw[bK] at h;injection h with h
  subst h;exact ⟨hF,hn,λf=>⟨λn hn=>(by cases hn),λ_=>rfl⟩⟩
 | n::r,l,L,hu,hn,hl,hF,h=>by
  have hu':=List.pairwise_cons.1 hu;rw[bK] at h;split at h
  ·rename_i hc;split at h
   ·cases h
   ·rename_i l' hk;have hp:=ma hr hn hl hk;have hd:gg (dD was clk n)=false:=rfl;obtain ⟨h1,h2,h3⟩:=kP hr r hu'.2 hp.nod hp.len (zx hr hn hl hF hd hk) h;refine ⟨h1,h2,λf=>⟨λm hm hmf hcm=>?_,λhno=>?_⟩⟩
    ·rcases List.mem_cons.1 hm with rfl | hm
     ·rw[(h3 f).2 λq hq hqf=>by have:=hu'.1 q hq;omega,uw hr hn hl hF hk,if_pos (show f=(dD was clk m).node.fid from hmf.symm)]
     ·exact (h3 f).1 m hm hmf hcm
    ·have hnf:n.fid≠f:=λe=>by rw[hno n List.mem_cons_self e] at hc;cases hc
     rw[(h3 f).2 λq hq=>hno q (List.mem_cons_of_mem _ hq),uw hr hn hl hF hk,if_neg λe:f=(dD was clk n).node.fid=>hnf e.symm]
  ·rename_i hc;obtain ⟨h1,h2,h3⟩:=kP hr r hu'.2 hn hl hF h;refine ⟨h1,h2,λf=>⟨λm hm hmf hcm=>?_,λhno=>?_⟩⟩
   ·rcases List.mem_cons.1 hm with rfl | hm
    ·exact absurd hcm hc
    ·exact (h3 f).1 m hm hmf hcm
   ·exact (h3 f).2 λq hq=>hno q (List.mem_cons_of_mem _ hq)
theorem dY {c:Cli} (hn:(c.cache.map λk=>k.node.fid).Nodup) (f:Int):af (aU c) f=bg c.cache f:=by
 cases e:bg c.cache f with
 | none=>
  rw[dd (gu c)];intro x hx;obtain ⟨k,hk,rfl⟩:=(dV hn x).1 hx;exact gM.1 e k hk
 | some n=>
  obtain ⟨x,hx,hxn,hf⟩:=(gL hn).1 e;exact (ZO (gu c)).2 ⟨(dV hn n).2 ⟨x,hx,hxn⟩,hf⟩
variable {Fa:Prop}
theorem En {B T:Nat} {s:Srv} {c:Cli} (h:CInvF Fa B T s c) (hF:Full c.cache) {a:Act} (he:aB (aU c) (cd c a)=0) {L:List Kept} (hL:fy c a=some L) (c':Cli) (hc':c'.cache=L.filter λk=>bz (cJ c a) k.node.fid) :
  Full c'.cache/\TR PE (aU c') (cJ c a):=by
 have hg:=iZ h.bV (cd c a) 0 he;have hup:Up (cJ c a):=hg.up;obtain ⟨h1,h2,h3⟩:=kP (by have:=h.room;omega) (cJ c a) hup h.nod h.len hF hL;have hn':(c'.cache.map λk=>k.node.fid).Nodup:=by rw[hc'];exact h2.sublist ((Wz).map _)
 refine ⟨λk hk=>by rw[hc'] at hk;exact h1 k (WE.1 hk).1,λk=>⟨λe=>Zl,λ_=>?_⟩⟩;have ae:∀f,bz (cJ c a) f=true->bg c'.cache f=bg L f:=λf hf=>by
  cases e:bg L f with
  | none=>
   rw[gM] at e ⊢;intro x hx;rw[hc'] at hx;exact e x (WE.1 hx).1
  | some n=>
   obtain ⟨x,hx,hxn,hnf⟩:=(gL h2).1 e;exact (gL hn').2 ⟨x,by rw[hc'];exact WE.2 ⟨hx,by rw[hxn,hnf];exact hf⟩,hxn,hnf⟩
 cases e:af (cJ c a) k with
 | none=>
  refine .inl ⟨?_,rfl⟩;rw[dY hn',gM];intro x hx;rw[hc'] at hx;have h4:=(WE.1 hx).2;rw[bP] at h4;intro h5;rw[h5,e] at h4;cases h4
 | some n=>
  obtain ⟨hnm,hnf⟩:=(ZO hup).1 e;have hat:bz (cJ c a) k=true:=by rw[bP,e];rfl
  by_cases hch:aM (aU c) (cd c a) n=true
  ·refine .inr ⟨(dD (aU c) c.clock n).node,n,?_,rfl,⟨rfl,rfl,λ_=>rfl,rfl⟩⟩;rw[dY hn',ae k hat];exact (h3 k).1 n hnm hnf hch
  ·obtain ⟨o,ho,hs⟩:=qo hch;obtain ⟨k1,k2,k3,k4⟩:=qO hs;refine .inr ⟨o,n,?_,rfl,⟨k1.symm,k2.symm,λ_=>k3.symm,k4.symm⟩⟩;rw[dY hn',ae k hat,(h3 k).2 λq hq hqf=>?_,←dY h.nod,←hnf]
   ·exact ho
   ·have:q=n:=np hup hq hnm (hqf.trans hnf.symm);rw[this];simpa using hch
theorem dt {l:List Node} {k:Int} {x:Node} (h:af l k=some x):x.fid=k:=by
 unfold af at h;split at h
 ·rename_i e;injection h with h
  subst h;unfold bz at e;rw[Bool.and_eq_true,decide_eq_true_eq,decide_eq_true_eq] at e;exact e.2
 ·cases h
def sA (σ:Int->Int) (e:Entry):Entry:=⟨e.name,σ e.fid⟩
structure NS (σ:Int->Int) (x y:Node):Prop where
 dir:y.dir=x.dir
 data:y.data=x.data
 ent:y.entries=x.entries.map (sA σ)
structure SR (σ:Int->Int) (dom:Int->Prop) (A H:List Node):Prop where
 zero:σ 0=0
 d0:dom 0
 inj:∀k j,dom k->dom j->σ k=σ j->k=j
 dA:∀k x,af A k=some x->dom k/\∀e,e∈x.entries->dom e.fid
 fwd:∀k x,af A k=some x->∃y,af H (σ k)=some y/\NS σ x y
 bwd:∀m y,af H m=some y->∃k x,af A k=some x/\σ k=m
variable {σ:Int->Int} {dom:Int->Prop} {A H:List Node}
theorem SR.none (h:SR σ dom A H) {k:Int} (hk:dom k) (hn:af A k=none):af H (σ k)=none:=by
 cases e:af H (σ k) with
 | none=>rfl
 | some y=>
  obtain ⟨j,x,hx,hj⟩:=h.bwd _ _ e;rw[h.inj j k (h.dA j x hx).1 hk hj,hn] at hx;cases hx
theorem SR.both (h:SR σ dom A H) {k:Int} (hk:dom k):(af A k=Option.none/\af H (σ k)=Option.none)\/∃x y,af A k=some x/\af H (σ k)=some y/\NS σ x y:=by
 cases e:af A k with
 | none=>exact .inl ⟨rfl,h.none hk e⟩
 | some x=>
  obtain ⟨y,h1,h2⟩:=h.fwd k x e;exact .inr ⟨x,y,rfl,h1,h2⟩
theorem SR.put (h:SR σ dom A H) (hA:Up A) (hH:Up H) {x y:Node} (hn:NS σ x y) (hf:y.fid=σ x.fid) (hd:dom x.fid) (hde:∀e,e∈x.entries->dom e.fid):SR σ dom (aT A x) (aT H y) where
 zero:=h.zero
 d0:=h.d0
 inj:=h.inj
 dA:=λk z hz=>by
  rw[bU hA] at hz;split at hz
  ·rename_i e;injection hz with hz;subst hz;rw[e];exact ⟨hd,hde⟩
  ·exact h.dA k z hz
 fwd:=λk z hz=>by
  rw[bU hA] at hz;rw[bU hH];split at hz
  ·rename_i e;injection hz with hz;subst hz
   exact ⟨y,by rw[if_pos (by rw[e,hf])],hn⟩
  ·rename_i e;rw[if_neg λe2=>e (h.inj _ _ (h.dA k z hz).1 hd (e2.trans hf))];exact h.fwd k z hz
 bwd:=λm z hz=>by
  rw[bU hH] at hz;split at hz
  ·rename_i e;exact ⟨x.fid,x,by rw[bU hA,if_pos rfl],by rw[e,hf]⟩
  ·rename_i e;obtain ⟨k,w,hk,hm⟩:=h.bwd m z hz;exact ⟨k,w,by rw[bU hA,if_neg λe2=>e (by rw[←hm,e2,hf])];exact hk,hm⟩
theorem SR.drop (h:SR σ dom A H) (hA:Up A) (hH:Up H) {f:Int} (hd:dom f):SR σ dom (dN A f) (dN H (σ f)) where
 zero:=h.zero
 d0:=h.d0
 inj:=h.inj
 dA:=λk z hz=>by
  rw[ec hA] at hz;split at hz
  ·cases hz
  ·exact h.dA k z hz
 fwd:=λk z hz=>by
  rw[ec hA] at hz;split at hz
  ·cases hz
  ·rename_i e;rw[ec hH,if_neg λe2=>e (h.inj _ _ (h.dA k z hz).1 hd e2)];exact h.fwd k z hz
 bwd:=λm z hz=>by
  rw[ec hH] at hz;split at hz
  ·cases hz
  ·rename_i e;obtain ⟨k,w,hk,hm⟩:=h.bwd m z hz;exact ⟨k,w,by rw[ec hA,if_neg λe2=>e (by rw[←hm,e2])];exact hk,hm⟩
theorem SR.more (h:SR σ dom A H) {σ':Int->Int} {dom':Int->Prop} (hd:∀k,dom k->dom' k/\σ' k=σ k) (hi:∀k j,dom' k->dom' j->σ' k=σ' j->k=j):SR σ' dom' A H where
 zero:=(hd 0 h.d0).2.trans h.zero
 d0:=(hd 0 h.d0).1
 inj:=hi
 dA:=λk x hx=>⟨(hd k (h.dA k x hx).1).1,λe he=>(hd _ ((h.dA k x hx).2 e he)).1⟩
 fwd:=λk x hx=>by
  obtain ⟨y,h1,h2⟩:=h.fwd k x hx;refine ⟨y,by rw[(hd k (h.dA k x hx).1).2];exact h1,h2.dir,h2.data,?_⟩;rw[h2.ent];exact Wo λe he=>by unfold sA;rw[(hd _ ((h.dA k x hx).2 e he)).2]
 bwd:=λm y hy=>by
  obtain ⟨k,x,hx,hm⟩:=h.bwd m y hy;exact ⟨k,x,hx,by rw[(hd k (h.dA k x hx).1).2];exact hm⟩
theorem SR.len (h:SR σ dom A H) (hA:Up A) (hH:Up H):H.length=A.length:=by
 have hp:∀{m:List Node},Up m->(m.map λn=>n.fid).Nodup:=λhm=>(List.pairwise_map.2 hm).imp λh=>by omega
 have h1:((A.map λn=>n.fid).map σ).Nodup:=by
  rw[Wn];refine List.pairwise_map.2 (hA.imp_of_mem fun {a b} ha hb hlt e=>?_);have:=h.inj _ _ (h.dA _ _ ((ZO hA).2 ⟨ha,rfl⟩)).1 (h.dA _ _ ((ZO hA).2 ⟨hb,rfl⟩)).1 e;omega
 have:=((List.perm_ext_iff_of_nodup (hp hH) h1).2 λm=>?_).length_eq
 ·simpa using this
 ·constructor
  ·intro hm;obtain ⟨y,hy,rfl⟩:=Z7.1 hm;obtain ⟨k,x,hx,hk⟩:=h.bwd _ _ ((ZO hH).2 ⟨hy,rfl⟩);obtain ⟨hx1,hx2⟩:=(ZO hA).1 hx;exact Z7.2 ⟨k,Z7.2 ⟨x,hx1,hx2⟩,hk⟩
  ·intro hm;obtain ⟨k,hk,rfl⟩:=Z7.1 hm;obtain ⟨x,hx,rfl⟩:=Z7.1 hk;obtain ⟨y,hy,_⟩:=h.fwd _ _ ((ZO hA).2 ⟨hx,rfl⟩);obtain ⟨hy1,hy2⟩:=(ZO hH).1 hy;exact Z7.2 ⟨y,hy1,hy2⟩
theorem vu {l:List Entry} (h:EUp l) (σ:Int->Int):EUp (l.map (sA σ)):=List.pairwise_map.2 h
theorem AY {l:List Entry} (h:EUp l) (σ:Int->Int) (s:List UInt8):isE (l.map (sA σ)) s=isE l s:=by
 rw[W1,iC (vu h σ),iC h];constructor
 ·rintro ⟨e,he,hs⟩;obtain ⟨e0,h0,rfl⟩:=Z7.1 he;exact ⟨e0,h0,hs⟩
 ·rintro ⟨e,he,hs⟩;exact ⟨sA σ e,Z7.2 ⟨e,he,rfl⟩,hs⟩
theorem NS.eup {x y:Node} (h:NS σ x y) (hx:EUp x.entries):EUp y.entries:=by rw[h.ent];exact vu hx σ
theorem NS.entry {x y:Node} (h:NS σ x y) (hx:EUp x.entries) (s:List UInt8):ay y s=(ay x s).map σ:=by
 cases e:ay x s with
 | none=>
  rw[Option.map_none,gZ (h.eup hx)];intro q hq;rw[h.ent] at hq;obtain ⟨q0,h0,rfl⟩:=Z7.1 hq;exact (gZ hx).1 e q0 h0
 | some f=>
  rw[Option.map_some,YE (h.eup hx),h.ent];exact Z7.2 ⟨⟨s,f⟩,(YE hx).1 e,rfl⟩
theorem NS.room {x y:Node} (h:NS σ x y) (hx:EUp x.entries) (s:List UInt8):cZ y s=cZ x s:=by
 unfold cZ;rw[h.ent,AY hx,List.length_map]
theorem NS.leave {x y:Node} (h:NS σ x y) (s:List UInt8) (v w:Int):NS σ { aE x s with version:=v } { aE y s with version:=w } where
 dir:=h.dir
 data:=h.data
 ent:=by
  show aX y.entries s=(aX x.entries s).map (sA σ)
  unfold aX;rw[h.ent,List.filter_map];rfl
theorem NS.zz {x y:Node} (h:NS σ x y) (s:List UInt8):NS σ (aE x s) (aE y s):=⟨h.dir,h.data,(h.leave s 0 0).ent⟩
theorem NS.enter {x y:Node} (h:NS σ x y) (hx:EUp x.entries) {s:List UInt8} (hs:isE x.entries s=false) (f v w:Int):NS σ { bb x s f with version:=v } { bb y s (σ f) with version:=w } where
 dir:=h.dir
 data:=h.data
 ent:=by
  have hs2:isE y.entries s=false:=by rw[h.ent,AY hx];exact hs
  obtain ⟨a1,a2,_⟩:=c_ hx hs f;obtain ⟨b1,b2,_⟩:=c_ (h.eup hx) hs2 (σ f)
  show aW y.entries s (σ f)=(aW x.entries s f).map (sA σ)
  refine rD b1 (vu a1 σ) λe=>?_
  rw[b2,Z7];constructor
  ·rintro (rfl | he)
   ·exact ⟨⟨s,f⟩,(a2 _).2 (.inl rfl),rfl⟩
   ·rw[h.ent] at he;obtain ⟨e0,h0,rfl⟩:=Z7.1 he;exact ⟨e0,(a2 _).2 (.inr h0),rfl⟩
  ·rintro ⟨e0,h0,rfl⟩
   rcases (a2 _).1 h0 with rfl | h0
   ·exact .inl rfl
   ·exact .inr (by rw[h.ent];exact Z7.2 ⟨e0,h0,rfl⟩)
structure LikeA (σ:Int->Int) (a b:Act):Prop where
 kind:b.kind=a.kind
 fid:b.fid=σ a.fid
 dir:a.kind≠3->b.dir=σ a.dir/\b.name=a.name
 to:a.kind=5->b.to=σ a.to/\b.toName=a.toName
 data:a.kind=3->b.data=a.data
theorem SR.dir (h:SR σ dom A H) {k:Int} (hk:dom k):gY H (σ k)=gY A k:=by
 unfold gY
 rcases h.both hk with ⟨h1,h2⟩ | ⟨x,y,h1,h2,h3⟩
 ·rw[h1,h2]
 ·rw[h1,h2]
  show (if y.dir=true then (0:Int) else 8)=if x.dir=true then 0 else 8
  rw[h3.dir]
theorem SR.at (h:SR σ dom A H) {k:Int} (hk:dom k):bz H (σ k)=bz A k:=by
 rw[bP,bP]
 rcases h.both hk with ⟨h1,h2⟩ | ⟨x,y,h1,h2,h3⟩
 ·rw[h1,h2]
 ·rw[h1,h2];rfl
theorem SR.is0 (h:SR σ dom A H) {k:Int} (hk:dom k):(σ k==0)=(k==0):=by
 rw[W1,beq_iff_eq,beq_iff_eq];exact ⟨λe=>h.inj k 0 hk h.d0 (e.trans h.zero.symm),λe=>by rw[e,h.zero]⟩
theorem SR.named (h:SR σ dom A H) (hA:Ri A) {a b:Act} (hab:LikeA σ a b) (hk:a.kind≠3) (hd:dom a.dir) (hf:dom a.fid):df H b=df A a:=by
 unfold df;rw[(hab.dir hk).1,(hab.dir hk).2,h.dir hd]
 by_cases h1:gY A a.dir=0
 ·rw[if_pos h1,if_pos h1];obtain ⟨d,hd1,_⟩:=(vq _ _).1 h1;obtain ⟨y,hy,hn⟩:=h.fwd _ _ hd1;rw[aJ hd1,aJ hy,hn.entry (hA.eup d ((ZO hA.up).1 hd1).1)];cases e:ay d a.name with
  | none=>rfl
  | some f=>
   have hdf:=(h.dA _ _ hd1).2 _ ((YE (hA.eup d ((ZO hA.up).1 hd1).1)).1 e)
   show (if σ f=b.fid then (0:Int) else 13)=if f=a.fid then 0 else 13
   rw[hab.fid]
   by_cases e2:f=a.fid
   ·rw[if_pos e2,if_pos (by rw[e2])]
   ·rw[if_neg e2,if_neg λe3=>e2 (h.inj _ _ hdf hf e3)]
 ·rw[if_neg h1,if_neg h1]
theorem SR.reach (h:SR σ dom A H) (hA:Up A) (hH:Up H) {k m:Int} (hk:dom k):MReach (f_ H) (σ k) (σ m)->dom m->MReach (f_ A) k m:=by
 have key:∀q,MReach (f_ H) (σ k) q->∃j,dom j/\σ j=q/\MReach (f_ A) k j:=λq hr=>by
  induction hr with
  | refl=>exact ⟨k,hk,rfl,.refl⟩
  | @step x n e hr hn he ih=>
   obtain ⟨j,hj,hjx,hr2⟩:=ih;rw[gf hH] at hn;obtain ⟨j2,z,hz,hj2⟩:=h.bwd _ _ hn;have e1:j2=j:=h.inj _ _ (h.dA _ _ hz).1 hj (hj2.trans hjx.symm);subst e1;obtain ⟨y,hy,hy2⟩:=h.fwd _ _ hz;rw[hj2,hn] at hy;injection hy with hy
   subst hy;rw[hy2.ent] at he;obtain ⟨e0,h0,rfl⟩:=Z7.1 he;exact ⟨e0.fid,(h.dA _ _ hz).2 e0 h0,rfl,.step hr2 (by rw[gf hA];exact hz) h0⟩
 intro hr hm;obtain ⟨j,hj,he,h2⟩:=key _ hr;rw[←h.inj _ _ hj hm he];exact h2
theorem SR.Jl (h:SR σ dom A H) (hA:Up A) (hH:Up H) {k m:Int} (hr:MReach (f_ A) k m):MReach (f_ H) (σ k) (σ m):=by
 induction hr with
 | refl=>exact .refl
 | @step x n e hr hn he ih=>
  rw[gf hA] at hn;obtain ⟨y,hy,hy2⟩:=h.fwd _ _ hn;exact .step (e:=sA σ e) ih (by rw[gf hH];exact hy) (by rw[hy2.ent];exact Z7.2 ⟨e,he,rfl⟩)
theorem SR.toN (h:SR σ dom A H) (hA:Ri A) {a b:Act} (hab:LikeA σ a b) (hk:a.kind=5) (hd:dom a.dir) (ht:dom a.to) {d t:Node} (hdn:af A a.dir=some d) (htn:af A a.to=some t) :
  ∃y,La.toN H b=y/\NS σ (La.toN A a) y/\y.fid=σ a.to/\(La.toN A a).fid=a.to/\EUp (La.toN A a).entries/\∀e,e∈(La.toN A a).entries->dom e.fid:=by
 obtain ⟨d',hd',hn⟩:=h.fwd _ _ hdn;obtain ⟨t',ht',hm⟩:=h.fwd _ _ htn;have b1:=hab.dir z7;have b2:=hab.to hk;have f1:=(ZO hA.up).1 hdn;have f2:=(ZO hA.up).1 htn;refine ⟨_,rfl,?_⟩;unfold La.toN;rw[b1.1,b1.2,b2.1,aJ hdn,aJ htn,aJ hd',aJ ht']
 by_cases e:a.to=a.dir
 ·rw[if_pos e,if_pos (by rw[e])];refine ⟨hn.zz _,?_,by show d.fid=_;rw[f1.2,e],eM (hA.eup d f1.1) _,λq hq=>(h.dA _ _ hdn).2 q (ef hq)⟩
  show d'.fid=_
  rw[e];exact dt hd'
 ·rw[if_neg e,if_neg λe2=>e (h.inj _ _ ht hd e2)];exact ⟨hm,dt ht',f2.2,hA.eup t f2.1,(h.dA _ _ htn).2⟩
theorem SR.apply (h:SR σ dom A H) (hA:Ri A) (hH:Ri H) {a b:Act} (hab:LikeA σ a b) (hf:∀k,k∈cc a->dom k) (v w:Int):bt H b=bt A a/\(bt A a=0->SR σ dom (bk A a v) (bk H b w)):=by
 have kf:=hf _ (hX a);have hEn:∀{d:Node},af A a.dir=some d->EUp d.entries/\d.fid=a.dir:=λhd=>⟨hA.eup _ ((ZO hA.up).1 hd).1,((ZO hA.up).1 hd).2⟩
 have hmk:a.kind=1\/a.kind=2->cC H b=cC A a/\(cC A a=0->SR σ dom (bE A a v) (bE H b w)):=λk=>by
  have kd:=hf _ (lX (a:=a) z7);obtain ⟨b1,b2⟩:=hab.dir z7;have hE:cC H b=cC A a:=by
   unfold cC;rw[b1,b2,hab.fid,h.dir kd,h.at kf,h.is0 kf,h.len hA.up hH.up]
   by_cases h1:gY A a.dir=0
   ·obtain ⟨d,hd1,_⟩:=(vq _ _).1 h1;obtain ⟨y,hy,hn⟩:=h.fwd _ _ hd1;rw[aJ hd1,aJ hy,hn.room (hEn hd1).1]
   ·rw[if_neg h1,if_neg h1]
  refine ⟨hE,λh0=>?_⟩;unfold bE;rw[if_pos h0,if_pos (hE.trans h0)];obtain ⟨d,hd,hdd,hr,hn,hz,hlen⟩:=(me _ _).1 h0;obtain ⟨y,hy,hnd⟩:=h.fwd _ _ hd;obtain ⟨e1,e2⟩:=hEn hd;rw[b1,b2,hab.fid,aJ hd,aJ hy];have h2:=hnd.enter e1 ((nB _ _).1 hr).2.1 a.fid v w;refine SR.put (SR.put h hA.up hH.up h2 ?_ Q8 ?_) (aD hA.up _).1 (aD hH.up _).1 ⟨?_,rfl,rfl⟩ hab.fid kf λq hq=>by cases hq
  ·show y.fid=σ d.fid
   rw[e2];exact dt hy
  ·intro q hq
   rcases iV hq with rfl | hq
   ·exact kf
   ·exact (h.dA _ _ hd).2 q hq
  ·show (b.kind==2)=(a.kind==2)
   rw[hab.kind]
 unfold bt bk;rw[hab.kind]
 by_cases k1:a.kind=1
 ·simp only[k1,if_true];exact hmk (.inl k1)
 ·simp only[k1,if_false]
  by_cases k2:a.kind=2
  ·simp only[k2,if_true];exact hmk (.inr k2)
  ·simp only[k2,if_false]
   by_cases k3:a.kind=3
   ·simp only[k3,if_true];have b3:=hab.data k3;have hE:cr H b=cr A a:=by
     unfold cr;rw[hab.fid,b3]
     rcases h.both kf with ⟨h1,h2⟩ | ⟨x,y,h1,h2,h3⟩
     ·rw[h1,h2]
     ·rw[h1,h2]
      show (if y.dir=true then (9:Int) else _)=if x.dir=true then 9 else _
      rw[h3.dir]
    refine ⟨hE,λh0=>?_⟩;unfold bM;rw[if_pos h0,if_pos (hE.trans h0)];obtain ⟨x,hx,hxd,hn⟩:=(fA _ _).1 h0;obtain ⟨y,hy,hnx⟩:=h.fwd _ _ hx;rw[hab.fid,b3,aJ hx,aJ hy];have hxf:=dt hx;exact SR.put h hA.up hH.up ⟨hnx.dir,rfl,hnx.ent⟩ (by show y.fid=σ x.fid;rw[hxf];exact dt hy) (by show dom x.fid;rw[hxf];exact kf) (h.dA _ _ hx).2
   ·simp only[k3,if_false];have kd:=hf _ (lX k3);have hnm:=h.named hA hab k3 kd kf;obtain ⟨b1,b2⟩:=hab.dir k3
    by_cases k4:a.kind=4
    ·simp only[k4,if_true];have hE:cv H b=cv A a:=by
      unfold cv;rw[hnm,hab.fid]
      rcases h.both kf with ⟨h1,h2⟩ | ⟨x,y,h1,h2,h3⟩
      ·rw[h1,h2]
      ·rw[h1,h2]
       show (if _ then (if y.entries.length>0 then (10:Int) else 0) else _)=if _ then (if x.entries.length>0 then 10 else 0) else _
       rw[h3.ent,List.length_map]
     refine ⟨hE,λh0=>?_⟩;unfold bX;rw[if_pos h0,if_pos (hE.trans h0)];obtain ⟨d,x,hd,hdd,hen,hx,hxe⟩:=(jA _ _).1 h0;obtain ⟨y,hy,hnd⟩:=h.fwd _ _ hd;obtain ⟨e1,e2⟩:=hEn hd;rw[b1,b2,hab.fid,aJ hd,aJ hy];exact SR.drop (SR.put h hA.up hH.up (hnd.leave _ _ _) (by show y.fid=σ d.fid;rw[e2];exact dt hy) Q8 λq hq=>(h.dA _ _ hd).2 q (ef hq)) (aD hA.up _).1 (aD hH.up _).1 kf
    ·simp only[k4,if_false]
     by_cases k5:a.kind=5
     ·simp only[k5,if_true];have kt:=hf _ (AL k5);obtain ⟨b4,b5⟩:=hab.to k5;have hE:dg H b=dg A a:=by
       unfold dg;rw[hnm,b4,h.dir kt]
       by_cases h1:df A a=0
       ·rw[if_pos h1,if_pos h1]
        by_cases h2:gY A a.to=0
        ·rw[if_pos h2,if_pos h2];obtain ⟨d,hd,_,_⟩:=(sD _ _).1 h1;obtain ⟨t,ht,_⟩:=(vq _ _).1 h2;obtain ⟨y,hy,hny,_,_,heu,_⟩:=h.toN hA hab k5 kd kt hd ht;rw[hy,b5,hny.room heu,hab.fid,h.at kf];have hrr:MReach (f_ H) (σ a.fid) (σ a.to)↔MReach (f_ A) a.fid a.to:=⟨λhr=>h.reach hA.up hH.up kf hr kt,h.Jl hA.up hH.up⟩
         by_cases hr:MReach (f_ A) a.fid a.to
         ·simp only[hr,hrr.2 hr]
         ·have hr2:¬MReach (f_ H) (σ a.fid) (σ a.to):=λe=>hr (hrr.1 e)
          simp only[hr,hr2]
        ·rw[if_neg h2,if_neg h2]
       ·rw[if_neg h1,if_neg h1]
      refine ⟨hE,λh0=>?_⟩;unfold eQ;rw[if_pos h0,if_pos (hE.trans h0)];obtain ⟨d,t,x,hd,hdd,hen,ht,htd,hr,hx,hm⟩:=(pe _ _).1 h0;obtain ⟨y,hy,hnd⟩:=h.fwd _ _ hd;obtain ⟨e1,e2⟩:=hEn hd;obtain ⟨z,hz,hnz,hzf,htf,heu,hdz⟩:=h.toN hA hab k5 kd kt hd ht;rw[hz,b1,b2,b4,b5,hab.fid,aJ hd,aJ hy];rw[←qj hd ht] at hr;have h2:=hnz.enter heu ((nB _ _).1 hr).2.1 a.fid v w;have hdE:∀q,q∈aW (La.toN A a).entries a.toName a.fid->dom q.fid:=λq hq=>by
       rcases iV hq with rfl | hq
       ·exact kf
       ·exact hdz q hq
      have hzt:z.fid=σ (La.toN A a).fid:=by rw[htf];exact hzf
      have hdt:dom (La.toN A a).fid:=by rw[htf];exact kt
      by_cases e:a.to=a.dir
      ·rw[if_pos e,if_pos (by rw[e])];exact SR.put h hA.up hH.up h2 hzt hdt hdE
      ·rw[if_neg e,if_neg λe3=>e (h.inj _ _ kt kd e3)];exact SR.put (SR.put h hA.up hH.up (hnd.leave _ _ _) (by show y.fid=σ d.fid;rw[e2];exact dt hy) Q8 λq hq=>(h.dA _ _ hd).2 q (ef hq)) (aD hA.up _).1 (aD hH.up _).1 h2 hzt hdt hdE
     ·simp only[k5,if_false];exact ⟨trivial,λe=>by cases e⟩
variable {σ:Int->Int} {dom:Int->Prop} {A H:List Node}
structure QR (σ:Int->Int) (A:List Node) (p q:Node×Int):Prop where
 e:q.2=p.2
 n:p.2=0->af A p.1.fid=some p.1/\NS σ p.1 q.1/\q.1.fid=σ p.1.fid
theorem SR.child (h:SR σ dom A H) (hW:Wh H) {k:Int} {x:Node} {e:Entry} (hx:af A k=some x) (he:e∈x.entries):∃z,af A e.fid=some z:=by
 obtain ⟨y,hy,hn⟩:=h.fwd _ _ hx;have hm:=(ZO hW.bV.up).1 hy;obtain ⟨z,hz,hzf⟩:=hW.there y.fid e.name (σ e.fid) ⟨y,hm.1,rfl,by rw[hn.ent];exact Z7.2 ⟨e,he,rfl⟩⟩;obtain ⟨j,w,hw,hj⟩:=h.bwd _ _ ((ZO hW.bV.up).2 ⟨hz,hzf⟩);have:=h.inj _ _ (h.dA _ _ hw).1 ((h.dA _ _ hx).2 e he) hj;subst this;exact ⟨w,hw⟩
theorem SR.one (h:SR σ dom A H) {k:Int} {x:Node} (hx:af A k=some x):QR σ A (jn (af A) k) (d_ H (σ k)):=by
 obtain ⟨y,hy,hn⟩:=h.fwd _ _ hx;unfold jn d_;rw[hx,hy];exact ⟨rfl,λ_=>⟨by show af A x.fid=some x;rw[dt hx];exact hx,hn,by show y.fid=σ x.fid;rw[dt hx];exact dt hy⟩⟩
theorem SR.go (h:SR σ dom A H) (hA:Ri A) (hW:Wh H):∀(l:List (List UInt8)) {p q:Node×Int},QR σ A p q->QR σ A (aR (af A) l p) (tR H l q)
 | [],p,q,hq=>by
  unfold aR tR;rw[hq.e]
  by_cases e:p.2=0
  ·rw[if_pos e,if_pos e];exact hq
  ·rw[if_neg e,if_neg e];exact ⟨rfl,λe2=>absurd e2 e⟩
 | s::r,p,q,hq=>by
  unfold aR tR;rw[hq.e]
  by_cases e:p.2=0
  ·simp only[ne_eq,e,not_true_eq_false,if_false];obtain ⟨h1,h2,h3⟩:=hq.n e;rw[h2.dir]
   by_cases hd:p.1.dir=false
   ·rw[if_pos hd,if_pos hd];exact ⟨rfl,λe2=>by cases e2⟩
   ·rw[if_neg hd,if_neg hd];have heu:=hA.eup _ ((ZO hA.up).1 h1).1;rw[h2.entry heu];cases hen:ay p.1 s with
    | none=>exact ⟨rfl,λe2=>by cases e2⟩
    | some f=>
     obtain ⟨z,hz⟩:=h.child hW h1 ((YE heu).1 hen);exact h.go hA hW r (h.one hz)
  ·rw[if_pos e,if_pos e];exact ⟨rfl,λe2=>absurd e2 e⟩
theorem SR.congr (h:SR σ dom A H) {A':List Node} (he:∀k,af A' k=af A k):SR σ dom A' H:=
 ⟨h.zero,h.d0,h.inj,λk x hx=>h.dA k x (by rw[←he];exact hx),λk x hx=>h.fwd k x (by rw[←he];exact hx),λm y hy=>by
  obtain ⟨k,x,h1,h2⟩:=h.bwd m y hy;exact ⟨k,x,by rw[he];exact h1,h2⟩⟩
theorem SR.alike (h:SR σ dom A H) {A':List Node} (he:TR PE A A'):SR σ dom A' H where
 zero:=h.zero
 d0:=h.d0
 inj:=h.inj
 dA:=λk x hx=>by
  rcases (he k).2 Zu with ⟨_,h2⟩ | ⟨x',y',h1,h2,h3⟩
  ·rw[h2] at hx;cases hx
  ·rw[h2] at hx;injection hx with hx
   subst hx;have h4:y'.entries=x'.entries:=h3.ent;rw[h4];exact h.dA k x' h1
 fwd:=λk x hx=>by
  rcases (he k).2 Zu with ⟨_,h2⟩ | ⟨x',y',h1,h2,h3⟩
  ·rw[h2] at hx;cases hx
  ·rw[h2] at hx;injection hx with hx
   subst hx;obtain ⟨y,hy,hn⟩:=h.fwd k x' h1;have h4:y'.entries=x'.entries:=h3.ent;exact ⟨y,hy,hn.dir.trans h3.dir.symm,hn.data.trans (h3.data trivial).symm,by rw[h4];exact hn.ent⟩
 bwd:=λm y hy=>by
  obtain ⟨k,x,h1,h2⟩:=h.bwd m y hy
  rcases (he k).2 Zu with ⟨h3,_⟩ | ⟨x',y',_,h4,_⟩
  ·rw[h3] at h1;cases h1
  ·exact ⟨k,y',h4,h2⟩
structure AwI (u v:U):Prop where
 idle:Idle u v
 nk:∀k,bg v.c.cache k=bg u.c.cache k
 mem:∀k,k∈v.c.cache->∃x,x∈u.c.cache/\x.node=k.node/\x.dirty=k.dirty
theorem AwI.refl (u:U):AwI u u:=⟨Idle.refl u,λ_=>rfl,λk hk=>⟨k,hk,rfl,rfl⟩⟩
theorem AwI.trans {a b c:U} (h:AwI a b) (k:AwI b c):AwI a c:=⟨h.idle.trans k.idle,λi=>(k.nk i).trans (h.nk i),λx hx=>by
 obtain ⟨y,hy,h1,h2⟩:=k.mem x hx;obtain ⟨z,hz,h3,h4⟩:=h.mem y hy;exact ⟨z,hz,h3.trans h1,h4.trans h2⟩⟩
theorem se {u:U} (ha:u.c.away=true) (f w:Int):AwI u (aO u f w).u:=by
 refine ⟨dQ u f w,(oD ha f w).2,λk hk=>?_⟩;have hlook:(aO u f w).u=cj u f w:=by
  unfold aO;cases bg u.c.cache f with
  | some n=>rfl
  | none=>simp only[ha,if_true]
 rw[hlook] at hk;exact fZ hk
theorem AM (w:Int):∀(l:List (List UInt8)) (g:Got),g.u.c.away=true->AwI g.u (goR w l g).u
 | [],g,_=>by unfold goR;split<;>exact AwI.refl _
 | s::r,g,ha=>by
  unfold goR;split
  ·exact AwI.refl _
  ·split
   ·exact AwI.refl _
   ·split
    ·exact AwI.refl _
    ·exact (se ha _ _).trans (AM w r _ ((dQ _ _ _).away.trans ha))
theorem AQ {u:U} (ha:u.c.away=true) (l:List (List UInt8)) (w:Int):AwI u (goU u l w).u:=(se ha 0 w).trans (AM w l _ ((dQ _ _ _).away.trans ha))
theorem Dy {u:U} (ha:u.c.away=true) (path:List UInt8):AwI u (au u path).u:=by
 unfold au;split
 ·exact AwI.refl _
 ·split
  ·exact AwI.refl _
  ·exact AQ ha _ _
theorem AwI.tree {u v:U} (h:AwI u v) (hu:(u.c.cache.map λk=>k.node.fid).Nodup) (hv:(v.c.cache.map λk=>k.node.fid).Nodup) (k:Int):af (aU v.c) k=af (aU u.c) k:=by rw[dY hu,dY hv,h.nk]
theorem AwI.full {u v:U} (h:AwI u v) (hF:Full u.c.cache):Full v.c.cache:=λk hk=>by
 obtain ⟨x,hx,h1,h2⟩:=h.mem k hk;have:=hF x hx;unfold gg at this ⊢;rw[←h1,←h2];exact this
def ng (k:Int):Int:=-k
def dm (m k:Int):Prop:=-m≤k/\k≤0
structure LogI (log:List Rec) (t:List Node) (m:Int):Prop where
 shrt:∃t',Shrt [aA] log t'/\TR PE t t'
 made:∀r,r∈log->an r.act=true->-m≤r.act.fid/\r.act.fid<0
 nod:((log.filter λr=>an r.act).map λr=>r.act.fid).Nodup
 ver:∀r,r∈log->r.act.kind=3\/r.act.kind=4->r.version<0
structure HA (h a:U):Prop where
 hI:∃B T,ij B T h
 aI:∃B T,ij B T a
 hh:h.c.away=false
 aa:a.c.away=true
 sr:SR ng (dm a.c.made) (aU a.c) h.s.tree
 next:h.s.next=a.c.made+1
 m0:0≤a.c.made
 full:Full a.c.cache
 srv:a.s=bj
 log:LogI a.c.log (aU a.c) a.c.made
theorem HA.whole {h a:U} (R:HA h a):Wh h.s.tree:=by obtain ⟨B,T,hI⟩:=R.hI;exact hI.srv.hist.whole
theorem HA.ri {h a:U} (R:HA h a):Ri (aU a.c):=by obtain ⟨B,T,hI⟩:=R.aI;exact hI.cli.ri
theorem HA.nod {h a:U} (R:HA h a):(a.c.cache.map λk=>k.node.fid).Nodup:=by obtain ⟨B,T,hI⟩:=R.aI;exact hI.cli.nod
theorem HA.here {h a h':U} (R:HA h a) (hi:Idle h h') (hI:∃B T,ij B T h'):HA h' a:=
 { R with hI:=hI,hh:=hi.away.trans R.hh,sr:=by rw[hi.s];exact R.sr,next:=by rw[hi.s];exact R.next }
theorem HA.look {h a a':U} (R:HA h a) (hw:AwI a a') (hI:∃B T,ij B T a'):HA h a':=by
 have ht:∀k,af (aU a'.c) k=af (aU a.c) k:=hw.tree R.nod (by obtain ⟨B,T,hI⟩:=hI;exact hI.cli.nod);have htr:TR PE (aU a'.c) (aU a.c):=λk=>⟨λe=>Zl,λ_=>by
  have:=((TR.refl (aU a.c)) k).2 Zu;rw[ht];exact this⟩
 obtain ⟨t',h1,h2⟩:=R.log.shrt;exact { R with
  aI:=hI
  aa:=hw.idle.away.trans R.aa
  sr:=by rw[hw.idle.made];exact R.sr.congr ht
  next:=by rw[hw.idle.made];exact R.next
  m0:=by rw[hw.idle.made];exact R.m0
  full:=hw.full R.full
  srv:=hw.idle.s.trans R.srv
  log:=by rw[hw.idle.made,hw.idle.log];exact ⟨⟨t',h1,htr.trans h2⟩,R.log.made,R.log.nod,R.log.ver⟩ }
structure Seen (a:U) (n m:Node):Prop where
 at_:af (aU a.c) n.fid=some n
 ns:NS ng n m
 fid:m.fid=ng n.fid
theorem Seen.look {a a':U} {n m:Node} (h:Seen a n m) (ht:∀k,af (aU a'.c) k=af (aU a.c) k):Seen a' n m:=⟨by rw[ht];exact h.at_,h.ns,h.fid⟩
structure GR (g f:Got):Prop where
 e:g.e=f.e
 ha:HA g.u f.u
 n:f.e=0->Seen f.u f.n g.n
theorem AS {h a:U} (R:HA h a) (l:List (List UInt8)) (w:Int):GR (goU h l w) (goU a l w):=by
 obtain ⟨B,T,hI⟩:=R.hI;obtain ⟨B',T',aI⟩:=R.aI;have h1:=oE hI R.hh l w;have h2:=(AR R.aa l w).1;have hnk:bg a.c.cache=af (aU a.c):=funext λk=>(dY R.nod k).symm
 rw[hnk] at h2;obtain ⟨z,hz,hzf,_⟩:=R.whole.root;obtain ⟨k,x,hx,hk⟩:=R.sr.bwd 0 z ((ZO R.whole.bV.up).2 ⟨hz,hzf⟩);have hk0:k=0:=by unfold ng at hk;omega
 subst hk0;have hq:=R.sr.go R.ri R.whole l (R.sr.one hx);have h1':((goU h l w).n,(goU h l w).e)=tR h.s.tree l (d_ h.s.tree (ng 0)):=h1;unfold aGo at h2;rw[←h1',←h2] at hq;have hw:=AQ R.aa l w;have hI2:∃B T,ij B T (goU a l w).u:=⟨_,_,js aI l w⟩;have R2:=(R.here (iY h l w) ⟨_,_,js hI l w⟩).look hw hI2;exact ⟨hq.e,R2,λe=>by
  obtain ⟨q1,q2,q3⟩:=hq.n e;exact ⟨by rw[hw.tree R.nod R2.nod];exact q1,q2,q3⟩⟩
theorem xp {h a:U} (R:HA h a) {f:Int} {x:Node} (hx:af (aU a.c) f=some x) (w:Int):GR (aO h (ng f) w) (aO a f w)/\(aO a f w).e=0:=by
 obtain ⟨B,T,hI⟩:=R.hI;obtain ⟨B',T',aI⟩:=R.aI;have h1:=mS hI R.hh (ng f) w;have h2:=(oD R.aa f w).1;have hnk:bg a.c.cache=af (aU a.c):=funext λk=>(dY R.nod k).symm
 rw[hnk] at h2;have hq:=R.sr.one hx;rw[←h1,←h2] at hq;have hw:=se R.aa f w;have R2:=(R.here (dQ h (ng f) w) ⟨_,_,cg hI (ng f) w⟩).look hw ⟨_,_,cg aI f w⟩;refine ⟨⟨hq.e,R2,λe=>?_⟩,?_⟩
 ·obtain ⟨q1,q2,q3⟩:=hq.n e;exact ⟨by rw[hw.tree R.nod R2.nod];exact q1,q2,q3⟩
 ·have h3:((aO a f w).n,(aO a f w).e)=(x,0):=by rw[h2];unfold jn;rw[hx]
  exact (Prod.mk.inj h3).2
structure GD (g f:GotD):Prop where
 e:g.e=f.e
 name:g.name=f.name
 ha:HA g.u f.u
 n:f.e=0->Seen f.u f.n g.n
theorem ou {h a:U} (R:HA h a) (path:List UInt8):GD (au h path) (au a path):=by
 unfold au
 by_cases h1:(ah path).2≠0
 ·rw[if_pos h1,if_pos h1];exact ⟨rfl,rfl,R,λe=>absurd e h1⟩
 ·rw[if_neg h1,if_neg h1]
  by_cases h2:(ah path).1.length=0
  ·rw[if_pos h2,if_pos h2];exact ⟨rfl,rfl,R,λe=>by cases e⟩
  ·rw[if_neg h2,if_neg h2];have g:=AS R ((ah path).1.take ((ah path).1.length-1)) 0;generalize goU h ((ah path).1.take ((ah path).1.length-1)) 0=gh at *;generalize goU a ((ah path).1.take ((ah path).1.length-1)) 0=ga at *;have he:(if gh.e=0/\gh.n.dir=false then (8:Int) else gh.e)=if ga.e=0/\ga.n.dir=false then 8 else ga.e:=by
    rw[g.e]
    by_cases e:ga.e=0
    ·rw[(g.n e).ns.dir]
    ·simp[e]
   refine ⟨he,rfl,g.ha,λe=>g.n ?_⟩;have e:(if ga.e=0/\ga.n.dir=false then (8:Int) else ga.e)=0:=e;split at e
   ·cases e
   ·exact e
structure IdI (c:Cli):Prop where
 rise:(c.log.map (·.id)).Pairwise (·<·)
 bnd:∀r,r∈c.log->1≤r.id/\r.id≤c.logged
 pos:0≤c.logged
theorem kA {l m:List Rec} {r:Rec} (h:dC l r=some m):m.Sublist l\/∃k,k.Sublist l/\m=k++[r]:=by
 unfold dC at h;split at h
 ·injection h with h;subst h
  exact .inl Wz
 ·split at h
  ·cases h
  ·injection h with h
   exact .inr ⟨dW l r,lz l r,h.symm⟩
structure WId (w:Wor):Prop where
 ids:∀c,c∈w.cs->IdI c
end La
