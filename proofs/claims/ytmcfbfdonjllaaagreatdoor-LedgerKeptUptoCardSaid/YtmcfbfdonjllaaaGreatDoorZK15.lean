/- Texts of this claim, part 15: PWhole, PWh2, RTree, PApply, RWith, RName. No condition. -/
import Derived.Test.YtmcfbfdonjllaaaGreatDoorZK14
set_option maxRecDepth 10000
set_option maxHeartbeats 4000000
set_option linter.unusedSimpArgs false
set_option linter.unusedVariables false
namespace La
open Go Go.Eng
def Edge (l:List Node) (d:Int) (s:List UInt8) (f:Int):Prop:=∃n,n∈l/\n.fid=d/\(⟨s,f⟩:Entry)∈n.entries
def dJ (l:List Node) (f:Int):Prop:=∃n,n∈l/\n.fid=f
structure Loc (n:Node):Prop where
 eup:EUp n.entries
 file:n.dir=false->n.entries=[]
 dirD:n.dir=true->n.data=[]
structure Wh (l:List Node):Prop where
 bW:Good l
 loc:∀n,n∈l->Loc n
 name:∀d s f,Edge l d s f->de s=true
 there:∀d s f,Edge l d s f->dJ l f
 noroot:∀d s f,Edge l d s f->f≠0
 par:∀f,dJ l f->f≠0->∃d s,Edge l d s f
 one:∀d s d' s' f,Edge l d s f->Edge l d' s' f->d=d'/\s=s'
 root:∃n,n∈l/\n.fid=0/\n.dir=true
theorem ni {l:List Node} (h:Up l) {a b:Node} (ha:a∈l) (hb:b∈l) (hf:a.fid=b.fid):a=b:=by
 have h1:=(ZO h).2 ⟨ha,rfl⟩;have h2:=(ZO h).2 ⟨hb,hf.symm⟩;rw[h1] at h2;injection h2
theorem kG {l:List Node} (h:Up l) {n:Node} (hn:n∈l) {s:List UInt8} {f:Int}:Edge l n.fid s f↔(⟨s,f⟩:Entry)∈n.entries:=
 ⟨λ⟨m,hm,hf,he⟩=>by rw[ni h hm hn hf] at he;exact he,λhe=>⟨n,hn,rfl,he⟩⟩
theorem jQ {l:List Node} (h:Up l) (n:Node) {d:Int} {s:List UInt8} {f:Int}:Edge (aI l n) d s f↔(d=n.fid/\(⟨s,f⟩:Entry)∈n.entries)\/(d≠n.fid/\Edge l d s f):=by
 obtain ⟨_,h2⟩:=bf h n;constructor
 ·rintro ⟨m,hm,rfl,he⟩
  rcases (h2 m).1 hm with rfl | ⟨hm,hne⟩
  ·exact .inl ⟨rfl,he⟩
  ·exact .inr ⟨hne,m,hm,rfl,he⟩
 ·rintro (⟨rfl,he⟩ | ⟨hne,m,hm,rfl,he⟩)
  ·exact ⟨n,(h2 n).2 (.inl rfl),rfl,he⟩
  ·exact ⟨m,(h2 m).2 (.inr ⟨hm,hne⟩),rfl,he⟩
theorem kH {l:List Node} (h:Up l) (n:Node) {f:Int}:dJ (aI l n) f↔f=n.fid\/dJ l f:=by
 obtain ⟨_,h2⟩:=bf h n;constructor
 ·rintro ⟨m,hm,rfl⟩
  rcases (h2 m).1 hm with rfl | ⟨hm,hne⟩
  ·exact .inl rfl
  ·exact .inr ⟨m,hm,rfl⟩
 ·rintro (rfl | ⟨m,hm,rfl⟩)
  ·exact ⟨n,(h2 n).2 (.inl rfl),rfl⟩
  ·by_cases hne:m.fid=n.fid
   ·exact ⟨n,(h2 n).2 (.inl rfl),hne.symm⟩
   ·exact ⟨m,(h2 m).2 (.inr ⟨hm,hne⟩),rfl⟩
theorem zS {l:List Node} (k:Int) {d:Int} {s:List UInt8} {f:Int}:Edge (eo l k) d s f↔Edge l d s f/\d≠k:=by
 constructor
 ·rintro ⟨m,hm,rfl,he⟩;have:=Z0.1 hm;exact ⟨⟨m,this.1,rfl,he⟩,by simpa using this.2⟩
 ·rintro ⟨⟨m,hm,rfl,he⟩,hk⟩;exact ⟨m,Z0.2 ⟨hm,by simpa using hk⟩,rfl,he⟩
theorem B0 {l:List Node} (k:Int) {f:Int}:dJ (eo l k) f↔dJ l f/\f≠k:=by
 constructor
 ·rintro ⟨m,hm,rfl⟩;have:=Z0.1 hm;exact ⟨⟨m,this.1,rfl⟩,by simpa using this.2⟩
 ·rintro ⟨⟨m,hm,rfl⟩,hk⟩;exact ⟨m,Z0.2 ⟨hm,by simpa using hk⟩,rfl⟩
theorem sg {l:List Entry} (h:EUp l) {s0:List UInt8} (hs:isE l s0=false) (f0:Int) {s:List UInt8} {f:Int}:(⟨s,f⟩:Entry)∈bb l s0 f0↔(s=s0/\f=f0)\/(⟨s,f⟩:Entry)∈l:=by
 rw[(iy h hs f0).2.1];simp
theorem sH {l:List Entry} {s0 s:List UInt8} {f:Int}:(⟨s,f⟩:Entry)∈ct l s0↔(⟨s,f⟩:Entry)∈l/\s≠s0:=by
 unfold ct;rw[Z0];simp
theorem iG {l:List Entry} (h:EUp l) (s:List UInt8):EUp (ct l s):=h.sublist Wn
theorem fb {n:Node} {s:List UInt8} (h:eB n s=0):de s=true/\isE n.entries s=false:=by
 unfold eB at h;split at h
 ·rename_i h1;split at h
  ·omega
  ·rename_i h2;exact ⟨h1,by simpa using h2⟩
 ·omega
theorem CC {l:List Node} {k:Int} (hu:Up l) (h:bn l k=false):¬dJ l k:=by
 rintro ⟨m,hm,rfl⟩;have:=(ZO hu).2 ⟨hm,rfl⟩;rw[jd this] at h;cases h
theorem zF {l:List Node} (h:Wh l) (a:Act) (v:Int) (he:gv l a=0):Wh (dL l a v):=by
 have hg:=nM h.bW a v he;have hu:=h.bW.up;have hL:dL l a v=aI (aI l { aZ (aN l a.dir) a.name a.fid with version:=v }) (ey a v):=by unfold dL;rw[if_pos he]
 unfold gv at he;split at he
 case isFalse hd=>exact absurd he hd
 rename_i hd;obtain ⟨n,hf,hgn,hdir⟩:=fZ hd;rw[hgn] at he hL;obtain ⟨hn,hnk⟩:=(ZO hu).1 hf;split at he
 case isFalse hr=>exact absurd he hr
 rename_i hro;obtain ⟨hnm,hfree⟩:=fb hro;split at he
 ·omega
 rename_i hnew;have hno:bn l a.fid=false/\a.fid≠0:=by simpa using hnew
 have hnin:=CC hu hno.1;have hl:=h.loc n hn;have hu1:=(bf hu { aZ n a.name a.fid with version:=v }).1;have hnf:n.fid≠a.fid:=λe=>hnin ⟨n,hn,e⟩
 rw[hL] at hg ⊢;have hE:∀d s f,Edge (aI (aI l { aZ n a.name a.fid with version:=v }) (ey a v)) d s f↔Edge l d s f\/(d=n.fid/\s=a.name/\f=a.fid):=λd s f=>by
  rw[jQ hu1,jQ hu]
  show (d=a.fid/\(⟨s,f⟩:Entry)∈[])\/(d≠a.fid/\((d=n.fid/\(⟨s,f⟩:Entry)∈bb n.entries a.name a.fid)\/(d≠n.fid/\Edge l d s f)))↔_
  rw[sg hl.eup hfree];constructor
  ·rintro (⟨_,h0⟩ | ⟨h1,⟨rfl,h2 | h2⟩ | ⟨h2,h3⟩⟩)
   ·cases h0
   ·exact .inr ⟨rfl,h2⟩
   ·exact .inl ⟨n,hn,rfl,h2⟩
   ·exact .inl h3
  ·rintro (h1 | ⟨rfl,rfl,rfl⟩)
   ·refine .inr ⟨λe=>?_,?_⟩
    ·obtain ⟨m,hm,hmf,_⟩:=h1;exact hnin ⟨m,hm,hmf.trans e⟩
    ·by_cases hd:d=n.fid
     ·subst hd;exact .inl ⟨rfl,.inr ((kG hu hn).1 h1)⟩
     ·exact .inr ⟨hd,h1⟩
   ·exact .inr ⟨hnf,.inl ⟨rfl,.inl ⟨rfl,rfl⟩⟩⟩
 have hF:∀f,dJ (aI (aI l { aZ n a.name a.fid with version:=v }) (ey a v)) f↔f=a.fid\/dJ l f:=λf=>by
  rw[kH hu1,kH hu]
  show f=a.fid\/f=n.fid\/dJ l f↔_
  constructor
  ·rintro (h | rfl | h)
   ·exact .inl h
   ·exact .inr ⟨n,hn,rfl⟩
   ·exact .inr h
  ·rintro (h | h)
   ·exact .inl h
   ·exact .inr (.inr h)
 refine ⟨hg,λx hx=>?_,λd s f hd=>?_,λd s f hd=>?_,λd s f hd=>?_,λf hf h0=>?_,λd s d' s' f h1 h2=>?_,?_⟩
 ·rcases eF hx with rfl | hx
  ·exact ⟨by unfold EUp;simp[ey],λ_=>rfl,λ_=>rfl⟩
  ·rcases eF hx with rfl | hx
   ·exact ⟨(iy hl.eup hfree a.fid).1,λh0=>(by
     have h0:n.dir=false:=h0;rw[hdir] at h0;cases h0),hl.dirD⟩
   ·exact h.loc x hx
 ·rcases (hE d s f).1 hd with h1 | ⟨_,rfl,_⟩
  ·exact h.name d s f h1
  ·exact hnm
 ·rcases (hE d s f).1 hd with h1 | ⟨_,_,rfl⟩
  ·exact (hF f).2 (.inr (h.there d s f h1))
  ·exact (hF _).2 (.inl rfl)
 ·rcases (hE d s f).1 hd with h1 | ⟨_,_,rfl⟩
  ·exact h.noroot d s f h1
  ·exact hno.2
 ·rcases (hF f).1 hf with rfl | hf
  ·exact ⟨n.fid,a.name,(hE _ _ _).2 (.inr ⟨rfl,rfl,rfl⟩)⟩
  ·obtain ⟨d,s,h1⟩:=h.par f hf h0;exact ⟨d,s,(hE _ _ _).2 (.inl h1)⟩
 ·rcases (hE d s f).1 h1 with h1 | ⟨rfl,rfl,rfl⟩
  ·rcases (hE d' s' f).1 h2 with h2 | ⟨rfl,rfl,rfl⟩
   ·exact h.one d s d' s' f h1 h2
   ·exact absurd (h.there _ _ _ h1) hnin
  ·rcases (hE d' s' _).1 h2 with h2 | ⟨rfl,rfl,_⟩
   ·exact absurd (h.there _ _ _ h2) hnin
   ·exact ⟨rfl,rfl⟩
 ·obtain ⟨m,hm,hm0,hmd⟩:=h.root;have hmem:∀x,x∈aI l { aZ n a.name a.fid with version:=v }->x.fid≠a.fid->x∈aI (aI l { aZ n a.name a.fid with version:=v }) (ey a v):=λx hx hne=>((bf hu1 (ey a v)).2 x).2 (.inr ⟨hx,hne⟩)
  by_cases hmn:m.fid=n.fid
  ·refine ⟨{ aZ n a.name a.fid with version:=v },hmem _ (((bf hu _).2 _).2 (.inl rfl)) hnf,hmn.symm.trans hm0,hdir⟩
  ·exact ⟨m,hmem _ (((bf hu _).2 _).2 (.inr ⟨hm,hmn⟩)) (by rw[hm0];exact λe=>hno.2 e.symm),hm0,hmd⟩
theorem Dj {l:List Node} (h:Wh l) (a:Act) (v:Int) (he:iq l a=0):Wh (eh l a v):=by
 have hg:=qq h.bW a v he;have hu:=h.bW.up;have hL:eh l a v=aI l { aN l a.fid with data:=a.data,version:=v }:=by unfold eh;rw[if_pos he]
 unfold iq at he;cases hf:al l a.fid with
 | none=>rw[hf] at he;simp at he
 | some n=>
  rw[hf] at he;simp only at he;obtain ⟨hn,hnk⟩:=(ZO hu).1 hf;have hgn:aN l a.fid=n:=by unfold aN;rw[hf];rfl
  rw[hgn] at hL;split at he
  ·omega
  rename_i hdir;rw[hL] at hg ⊢;have hE:∀d s f,Edge (aI l { n with data:=a.data,version:=v }) d s f↔Edge l d s f:=λd s f=>by
   rw[jQ hu]
   show (d=n.fid/\(⟨s,f⟩:Entry)∈n.entries)\/(d≠n.fid/\Edge l d s f)↔_
   constructor
   ·rintro (⟨rfl,h1⟩ | ⟨_,h1⟩)
    ·exact ⟨n,hn,rfl,h1⟩
    ·exact h1
   ·intro h1
    by_cases hd:d=n.fid
    ·subst hd;exact .inl ⟨rfl,(kG hu hn).1 h1⟩
    ·exact .inr ⟨hd,h1⟩
  have hF:∀f,dJ (aI l { n with data:=a.data,version:=v }) f↔dJ l f:=λf=>by
   rw[kH hu]
   show f=n.fid\/dJ l f↔_
   constructor
   ·rintro (rfl | h)
    ·exact ⟨n,hn,rfl⟩
    ·exact h
   ·exact .inr
  refine ⟨hg,λx hx=>?_,λd s f hd=>h.name d s f ((hE _ _ _).1 hd),λd s f hd=>(hF _).2 (h.there d s f ((hE _ _ _).1 hd)),λd s f hd=>h.noroot d s f ((hE _ _ _).1 hd),λf hf h0=>?_,λd s d' s' f h1 h2=>h.one d s d' s' f ((hE _ _ _).1 h1) ((hE _ _ _).1 h2),?_⟩
  ·rcases eF hx with rfl | hx
   ·have hl:=h.loc n hn;exact ⟨hl.eup,hl.file,λh0=>absurd h0 hdir⟩
   ·exact h.loc x hx
  ·obtain ⟨d,s,h1⟩:=h.par f ((hF f).1 hf) h0;exact ⟨d,s,(hE _ _ _).2 h1⟩
  ·obtain ⟨m,hm,hm0,hmd⟩:=h.root;refine ⟨m,((bf hu _).2 m).2 (.inr ⟨hm,λe=>?_⟩),hm0,hmd⟩;have:m=n:=ni hu hm hn e;subst this;exact hdir hmd
theorem qK {l:List Node} (h:Wh l) {a:Act} (he:ee l a=0):∃n,al l a.dir=some n/\aN l a.dir=n/\n∈l/\n.fid=a.dir/\n.dir=true/\Edge l a.dir a.name a.fid:=by
 unfold ee at he;split at he
 case isFalse hd=>exact absurd he hd
 rename_i hd;obtain ⟨n,hf,hgn,hdir⟩:=fZ hd;obtain ⟨hn,hnk⟩:=(ZO h.bW.up).1 hf;rw[hgn] at he;cases e:bJ n a.name with
 | none=>rw[e] at he;simp at he
 | some f=>
  rw[e] at he;simp only at he;split at he
  case isFalse hd=>omega
  rename_i hff;subst hff;exact ⟨n,hf,hgn,hn,hnk,hdir,n,hn,hnk,(YE (h.loc n hn).eup).1 e⟩
theorem se {l:List Node} (hu:Up l) {n:Node} (hn:n∈l) (s0:List UInt8) (v:Int) {d:Int} {s:List UInt8} {f:Int}:Edge (aI l { aM n s0 with version:=v }) d s f↔Edge l d s f/\¬(d=n.fid/\s=s0):=by
 rw[jQ hu]
 show (d=n.fid/\(⟨s,f⟩:Entry)∈ct n.entries s0)\/(d≠n.fid/\Edge l d s f)↔_
 rw[sH];constructor
 ·rintro (⟨rfl,h1,h2⟩ | ⟨h1,h2⟩)
  ·exact ⟨⟨n,hn,rfl,h1⟩,λh=>h2 h.2⟩
  ·exact ⟨h2,λh=>h1 h.1⟩
 ·rintro ⟨h1,h2⟩
  by_cases hd:d=n.fid
  ·subst hd;exact .inl ⟨rfl,(kG hu hn).1 h1,λe=>h2 ⟨rfl,e⟩⟩
  ·exact .inr ⟨hd,h1⟩
theorem Bl {l:List Node} (h:Wh l) (a:Act) (v:Int) (he:d_ l a=0):Wh (cq l a v):=by
 have hg:=oB h.bW a v he;have hu:=h.bW.up;have hL:cq l a v=eo (aI l { aM (aN l a.dir) a.name with version:=v }) a.fid:=by unfold cq;rw[if_pos he]
 unfold d_ at he;split at he
 case isFalse hd=>exact absurd he hd
 rename_i hnd;obtain ⟨n,hf,hgn,hn,hnk,hdir,hed⟩:=qK h hnd;rw[hgn] at hL;cases hx:al l a.fid with
 | none=>rw[hx] at he;simp at he
 | some x=>
  rw[hx] at he;simp only at he;obtain ⟨hxm,hxf⟩:=(ZO hu).1 hx;have hxe:x.entries=[]:=by
   cases e:x.entries with
   | nil=>rfl
   | cons p q=>rw[e] at he;simp at he
  rw[hL] at hg ⊢;have hnoE:∀s f,¬Edge l a.fid s f:=λs f h1=>by
   rw[←hxf] at h1;have:=(kG hu hxm).1 h1;rw[hxe] at this;cases this
  have hE:∀d s f,Edge (eo (aI l { aM n a.name with version:=v }) a.fid) d s f↔Edge l d s f/\¬(d=a.dir/\s=a.name):=λd s f=>by
   rw[zS,se hu hn,hnk];constructor
   ·exact λh=>h.1
   ·exact λh=>⟨h,λe=>by subst e;exact hnoE s f h.1⟩
  have hF:∀f,dJ (eo (aI l { aM n a.name with version:=v }) a.fid) f↔dJ l f/\f≠a.fid:=λf=>by
   rw[B0,kH hu]
   show (f=n.fid\/dJ l f)/\f≠a.fid↔_
   constructor
   ·rintro ⟨rfl | h,h1⟩
    ·exact ⟨⟨n,hn,rfl⟩,h1⟩
    ·exact ⟨h,h1⟩
   ·rintro ⟨h,h1⟩;exact ⟨.inr h,h1⟩
  have hup1:=(bf hu { aM n a.name with version:=v });refine ⟨hg,λx hx=>?_,λd s f hd=>h.name d s f ((hE _ _ _).1 hd).1,λd s f hd=>(hF _).2 ⟨h.there d s f ((hE _ _ _).1 hd).1,λe=>?_⟩,λd s f hd=>h.noroot d s f ((hE _ _ _).1 hd).1,λf hf h0=>?_,λd s d' s' f h1 h2=>h.one d s d' s' f ((hE _ _ _).1 h1).1 ((hE _ _ _).1 h2).1,?_⟩
  ·rcases eF (Z0.1 hx).1 with rfl | hx
   ·have hl:=h.loc n hn;exact ⟨iG hl.eup _,λh0=>by
     show ct n.entries a.name=[]
     rw[hl.file h0];rfl,hl.dirD⟩
   ·exact h.loc x hx
  ·subst e;obtain ⟨h1,h2⟩:=(hE _ _ _).1 hd;exact h2 (h.one _ _ _ _ _ h1 hed)
  ·obtain ⟨h1,h2⟩:=(hF f).1 hf;obtain ⟨d,s,h3⟩:=h.par f h1 h0;refine ⟨d,s,(hE _ _ _).2 ⟨h3,λe=>?_⟩⟩;obtain ⟨rfl,rfl⟩:=e;obtain ⟨m,hm,hmf,hme⟩:=hed;obtain ⟨m',hm',hmf',hme'⟩:=h3;have:m=m':=ni hu hm hm' (hmf.trans hmf'.symm);subst this;have:=(h.loc m hm).eup.same hme hme' rfl;injection this with _ h5
   exact h2 h5.symm
  ·obtain ⟨m,hm,hm0,hmd⟩:=h.root;have h0:(0:Int)≠a.fid:=λe=>h.noroot _ _ _ hed e.symm
   by_cases hmn:m.fid=n.fid
   ·exact ⟨{ aM n a.name with version:=v },Z0.2 ⟨(hup1.2 _).2 (.inl rfl),by
     show (!(n.fid==a.fid))=true
     rw[←hmn,hm0];simpa using h0⟩,hmn.symm.trans hm0,hdir⟩
   ·exact ⟨m,Z0.2 ⟨(hup1.2 _).2 (.inr ⟨hm,hmn⟩),by rw[hm0];simpa using h0⟩,hm0,hmd⟩
theorem Bm {l:List Node} (h:Wh l) (a:Act) (v:Int) (he:cB l a=0):Wh (bZ l a v):=by
 have hg:=oC h.bW a v he;have hu:=h.bW.up;have hL:bZ l a v=aI (if a.to=a.dir then l else aI l { aM (aN l a.dir) a.name with version:=v }) { aZ (toN l a) a.toName a.fid with version:=v }:=by unfold bZ;rw[if_pos he]
 unfold cB at he;split at he
 case isFalse hd=>exact absurd he hd
 rename_i hnd;obtain ⟨n,hf,hgn,hn,hnk,hdir,hed⟩:=qK h hnd;split at he
 case isFalse hd=>exact absurd he hd
 rename_i hdt;obtain ⟨t,htf,htg,htdir⟩:=fZ hdt;obtain ⟨htm,htk⟩:=(ZO hu).1 htf;split at he
 case isFalse hd=>exact absurd he hd
 rename_i hro;obtain ⟨hnm,hfree⟩:=fb hro;rw[hgn] at hL;rw[hL] at hg ⊢
 -- the directory that gets the name
 have hT:(toN l a).fid=a.to/\(toN l a).dir=true/\EUp (toN l a).entries/\((toN l a).dir=true->(toN l a).data=[])/\∀s f,(⟨s,f⟩:Entry)∈(toN l a).entries↔Edge l a.to s f/\¬(a.to=a.dir/\s=a.name):=by
  unfold toN;split
  ·rename_i htd;rw[hgn];have hl:=h.loc n hn;refine ⟨hnk.trans htd.symm,hdir,iG hl.eup _,hl.dirD,λs f=>?_⟩
   show (⟨s,f⟩:Entry)∈ct n.entries a.name↔_
   rw[sH,htd,←hnk,kG hu hn];simp
  ·rename_i htd;rw[htg];have hl:=h.loc t htm;refine ⟨htk,htdir,hl.eup,hl.dirD,λs f=>?_⟩;rw[←htk,kG hu htm];constructor
   ·exact λh=>⟨h,λe=>htd (htk.symm.trans e.1)⟩
   ·exact λh=>h.1
 obtain ⟨hTf,hTd,hTe,hTda,hTm⟩:=hT;generalize hl1:(if a.to=a.dir then l else aI l { aM n a.name with version:=v })=l1 at hg ⊢;have hu1:Up l1:=by subst hl1;split;exact hu;exact (bf hu _).1
 have hE1:∀d s f,d≠a.to->(Edge l1 d s f↔Edge l d s f/\¬(d=a.dir/\s=a.name)):=λd s f hd=>by
  subst hl1;split
  ·rename_i htd;exact ⟨λh=>⟨h,λe=>hd (e.1.trans htd.symm)⟩,λh=>h.1⟩
  ·rw[se hu hn,hnk]
 have hF1:∀f,dJ l1 f↔dJ l f:=λf=>by
  subst hl1;split
  ·exact Iff.rfl
  ·rw[kH hu]
   show f=n.fid\/dJ l f↔_
   exact ⟨λh=>h.elim (λe=>⟨n,hn,e.symm⟩) id,.inr⟩
 have hE:∀d s f,Edge (aI l1 { aZ (toN l a) a.toName a.fid with version:=v }) d s f↔(Edge l d s f/\¬(d=a.dir/\s=a.name))\/(d=a.to/\s=a.toName/\f=a.fid):=λd s f=>by
  rw[jQ hu1]
  show (d=(toN l a).fid/\(⟨s,f⟩:Entry)∈bb (toN l a).entries a.toName a.fid)\/(d≠(toN l a).fid/\Edge l1 d s f)↔_
  rw[sg hTe hfree,hTm,hTf];constructor
  ·rintro (⟨rfl,h1 | h1⟩ | ⟨h1,h2⟩)
   ·exact .inr ⟨rfl,h1⟩
   ·exact .inl h1
   ·exact .inl ((hE1 d s f h1).1 h2)
  ·rintro (h1 | ⟨rfl,h1⟩)
   ·by_cases hd:d=a.to
    ·subst hd;exact .inl ⟨rfl,.inr h1⟩
    ·exact .inr ⟨hd,(hE1 d s f hd).2 h1⟩
   ·exact .inl ⟨rfl,.inl h1⟩
 have hF:∀f,dJ (aI l1 { aZ (toN l a) a.toName a.fid with version:=v }) f↔dJ l f:=λf=>by
  rw[kH hu1,hF1]
  show f=(toN l a).fid\/dJ l f↔_
  rw[hTf];exact ⟨λh=>h.elim (λe=>⟨t,htm,htk.trans e.symm⟩) id,.inr⟩
 have hthere:=h.there _ _ _ hed
 -- who leads to the fid that moves: its old place alone
 have hold:∀d s,Edge l d s a.fid->d=a.dir/\s=a.name:=λd s h1=>h.one _ _ _ _ _ h1 hed
 refine ⟨hg,λx hx=>?_,λd s f hd=>?_,λd s f hd=>?_,λd s f hd=>?_,λf hf h0=>?_,λd s d' s' f h1 h2=>?_,?_⟩
 ·rcases eF hx with rfl | hx
  ·exact ⟨(iy hTe hfree a.fid).1,λh0=>(by
    have h0:(toN l a).dir=false:=h0;rw[hTd] at h0;cases h0),hTda⟩
  ·subst hl1;split at hx
   ·exact h.loc x hx
   ·rcases eF hx with rfl | hx
    ·have hl:=h.loc n hn;exact ⟨iG hl.eup _,λh0=>by
      show ct n.entries a.name=[]
      rw[hl.file h0];rfl,hl.dirD⟩
    ·exact h.loc x hx
 ·rcases (hE d s f).1 hd with h1 | ⟨_,rfl,_⟩
  ·exact h.name d s f h1.1
  ·exact hnm
 ·rcases (hE d s f).1 hd with h1 | ⟨_,_,rfl⟩
  ·exact (hF f).2 (h.there d s f h1.1)
  ·exact (hF _).2 hthere
 ·rcases (hE d s f).1 hd with h1 | ⟨_,_,rfl⟩
  ·exact h.noroot d s f h1.1
  ·exact h.noroot _ _ _ hed
 ·by_cases hff:f=a.fid
  ·subst hff;exact ⟨a.to,a.toName,(hE _ _ _).2 (.inr ⟨rfl,rfl,rfl⟩)⟩
  ·obtain ⟨d,s,h1⟩:=h.par f ((hF f).1 hf) h0;refine ⟨d,s,(hE _ _ _).2 (.inl ⟨h1,λe=>?_⟩)⟩;obtain ⟨rfl,rfl⟩:=e;obtain ⟨m,hm,hmf,hme⟩:=hed;obtain ⟨m',hm',hmf',hme'⟩:=h1;have:m=m':=ni hu hm hm' (hmf.trans hmf'.symm);subst this;have:=(h.loc m hm).eup.same hme hme' rfl;injection this with _ h5
   exact hff h5.symm
 ·rcases (hE d s f).1 h1 with h1 | ⟨rfl,rfl,rfl⟩
  ·rcases (hE d' s' f).1 h2 with h2 | ⟨rfl,rfl,rfl⟩
   ·exact h.one d s d' s' f h1.1 h2.1
   ·exact absurd (hold d s h1.1) h1.2
  ·rcases (hE d' s' _).1 h2 with h2 | ⟨rfl,rfl,_⟩
   ·exact absurd (hold d' s' h2.1) h2.2
   ·exact ⟨rfl,rfl⟩
 ·obtain ⟨m,hm,hm0,hmd⟩:=h.root
  by_cases hmt:m.fid=a.to
  ·exact ⟨_,((bf hu1 _).2 _).2 (.inl rfl),hTf.trans (hmt.symm.trans hm0),hTd⟩
  ·have hml1:∃x,x∈l1/\x.fid=0/\x.dir=true:=by
    subst hl1;split
    ·exact ⟨m,hm,hm0,hmd⟩
    ·by_cases hmn:m.fid=n.fid
     ·exact ⟨{ aM n a.name with version:=v },((bf hu _).2 _).2 (.inl rfl),hmn.symm.trans hm0,hdir⟩
     ·exact ⟨m,((bf hu _).2 _).2 (.inr ⟨hm,hmn⟩),hm0,hmd⟩
   obtain ⟨x,hx,hx0,hxd⟩:=hml1;exact ⟨x,((bf hu1 _).2 _).2 (.inr ⟨hx,by
    show x.fid≠(toN l a).fid
    rw[hTf,hx0,←hm0];exact hmt⟩),hx0,hxd⟩
theorem Dh {l:List Node} (h:Wh l) (a:Act) (v:Int) (he:aO l a=0):Wh (aQ l a v):=by
 unfold aO at he;unfold aQ;split at he
 ·rename_i h1;rw[if_pos h1];exact zF h a v he
 ·rename_i h1;rw[if_neg h1];split at he
  ·rename_i h2;rw[if_pos h2];exact zF h a v he
  ·rename_i h2;rw[if_neg h2];split at he
   ·rename_i h3;rw[if_pos h3];exact Dj h a v he
   ·rename_i h3;rw[if_neg h3];split at he
    ·rename_i h4;rw[if_pos h4];exact Bl h a v he
    ·rename_i h4;rw[if_neg h4];split at he
     ·rename_i h5;rw[if_pos h5];exact Bm h a v he
     ·omega
theorem Gr:Wh [eT]:=by
 have hE:∀d s f,¬Edge [eT] d s f:=λd s f ⟨n,hn,_,he⟩=>by rw[List.mem_singleton.1 hn] at he;cases he
 exact ⟨sr,λn hn=>by rw[List.mem_singleton.1 hn];exact ⟨by unfold EUp;simp[eT],λ_=>rfl,λ_=>rfl⟩,λd s f h=>absurd h (hE d s f),λd s f h=>absurd h (hE d s f),λd s f h=>absurd h (hE d s f),
  λf ⟨n,hn,hf⟩ h0=>by rw[List.mem_singleton.1 hn] at hf;exact absurd hf.symm h0,λd s d' s' f h=>absurd h (hE d s f),⟨eT,List.mem_singleton.2 rfl,rfl,rfl⟩⟩
theorem Hist.whole {p:List Past} {t:List Node} (h:Hist p t):Wh t:=by
 induction h with
 | nil=>exact Gr
 | snoc c a h ha he ih=>exact Dh ih _ _ he
def kd (l:List Node):Nat->List (Int×Node)
 | 0=>[]
 | i+1=>bY (kd l i) (fH l i) (l.getD i default)
def qG (l:List Node):List (Int×Node):=kd l l.length
theorem vO (l:List Node):∀i,zg l i=mN (kd l i)
 | 0=>rfl
 | i+1=>by
  have ih:=vO l i
  show bY (zg l i) (fH l i) _=_
  rw[ih,Hi];rfl
theorem EW (l:List Node):Hj l=mN (qG l):=vO l l.length
theorem Au (l:List Node):pJ (qG l):=by
 have:∀i,pJ (kd l i):=λi=>by
  induction i with
  | zero=>exact List.Pairwise.nil
  | succ i ih=>exact dD ih
 exact this _
theorem vM {l:List Node} (h:Up l) (k:Int):bF (qG l) k=al l k:=by
 have h1:=Ct h k;rw[EW,Hh] at h1;cases e:bF (qG l) k with
 | none=>
  rw[e] at h1;cases e2:al l k with
  | none=>rfl
  | some n=>rw[e2] at h1;cases h1
 | some m=>
  rw[e] at h1;cases e2:al l k with
  | none=>rw[e2] at h1;cases h1
  | some n=>
   rw[e2] at h1;simp only[Option.map_some,Option.some.injEq,AV.agg.injEq] at h1
   -- the same nodes, as both come from the list
   have hm:∀i,i≤l.length->∀p,p∈kd l i->p.2∈l/\p.2.fid=p.1:=λi=>by
    induction i with
    | zero=>intro _ p hp;cases hp
    | succ i ih=>
     intro hi p hp;have hr:pJ (kd l i):=by
      have:∀j,pJ (kd l j):=λj=>by
       induction j with
       | zero=>exact List.Pairwise.nil
       | succ j ihj=>exact dD ihj
      exact this i
     rcases (bO hr p.1 p.2).1 hp with ⟨h1,h2⟩ | ⟨_,h2⟩
     ·rw[h1,h2];exact ⟨YG z7,rfl⟩
     ·exact ih z7 p h2
   obtain ⟨q1,q2⟩:=hm _ (Zw _) _ (gw e);rw[←e2];exact ((ZO h).2 ⟨q1,q2⟩).symm
theorem ji (l:List Node):∀i,pJ (kd l i)
 | 0=>List.Pairwise.nil
 | i+1=>dD (ji l i)
theorem sL (l:List Node):∀i,i≤l.length->∀p,p∈kd l i->p.2∈l
 | 0,_,p,hp=>by cases hp
 | i+1,hi,p,hp=>by
  rcases (bO (ji l i) p.1 p.2).1 hp with ⟨h1,h2⟩ | ⟨_,h2⟩
  ·rw[h2];exact YG z7
  ·exact sL l i z7 p h2
end La
namespace La
open Go Go.Eng Go.Proofs
end La
namespace La
open Go Go.Eng
open Classical in
noncomputable def kn (l:List Node) (a:Act):Int:=if ee l a=0 then (if lp l a.to=0 then (if eB (toN l a) a.toName=0 then (if bn l a.fid=true then (if decide (MReach (qG l) a.fid a.to)=true then 11 else 0) else 12) else eB (toN l a) a.toName) else lp l a.to) else ee l a
noncomputable def ko (l:List Node) (a:Act) (v:Int):List Node:=if kn l a=0 then aI (if a.to=a.dir then l else aI l { aM (aN l a.dir) a.name with version:=v }) { aZ (toN l a) a.toName a.fid with version:=v } else l
noncomputable def kR (l:List Node) (a:Act) (v:Int):List Node:=if a.kind=1 then dL l a v else if a.kind=2 then dL l a v else if a.kind=3 then eh l a v else if a.kind=4 then cq l a v else if a.kind=5 then ko l a v else l
structure Ri (l:List Node):Prop where
 up:Up l
 eup:∀n,n∈l->EUp n.entries
theorem Ri.find {l:List Node} (h:Ri l) (k:Int):EUp (aN l k).entries:=by
 unfold aN;cases e:al l k with
 | none=>exact List.Pairwise.nil
 | some n=>exact h.eup n ((ZO h.up).1 e).1
theorem Ri.put {l:List Node} (h:Ri l) {n:Node} (hn:EUp n.entries):Ri (aI l n):=
 ⟨(bf h.up n).1,λm hm=>by
  rcases eF hm with rfl | hm
  ·exact hn
  ·exact h.eup m hm⟩
theorem Ri.drop {l:List Node} (h:Ri l) (f:Int):Ri (eo l f):=⟨(ix h.up f).1,λm hm=>h.eup m (((ix h.up f).2 m).1 hm).1⟩
theorem Ri.to {l:List Node} (h:Ri l) (a:Act):EUp (toN l a).entries:=by
 unfold toN;split
 ·exact iG (h.find _) _
 ·exact h.find _
theorem Ri.apply {l:List Node} (h:Ri l) (a:Act) (v:Int):Ri (kR l a v):=by
 have hmk:Ri (dL l a v):=by
  unfold dL;split
  ·rename_i he;unfold gv at he;split at he
   ·split at he
    ·rename_i hr;refine (h.put ?_).put List.Pairwise.nil;exact (iy (h.find _) (fb hr).2 _).1
    ·rename_i hr;exact absurd he hr
   ·rename_i hr;exact absurd he hr
  ·exact h
 unfold kR;split
 ·exact hmk
 ·split
  ·exact hmk
  ·split
   ·unfold eh;split
    ·exact h.put (h.find _)
    ·exact h
   ·split
    ·unfold cq;split
     ·exact (h.put (iG (h.find _) _)).drop _
     ·exact h
    ·split
     ·unfold ko;split
      ·rename_i he;have hr:eB (toN l a) a.toName=0:=by
        unfold kn at he;split at he
        ·split at he
         ·split at he
          ·assumption
          ·rename_i hr;exact absurd he hr
         ·rename_i hr;exact absurd he hr
        ·rename_i hr;exact absurd he hr
       refine Ri.put ?_ (iy (h.to a) (fb hr).2 _).1;split
       ·exact h
       ·exact h.put (iG (h.find _) _)
      ·exact h
     ·exact h
end La
namespace La
open Go Go.Eng Go.Proofs
end La
