/- Texts of this claim, part 20: PWhole, PWh2, RTree, PApply. No condition. -/
import Derived.Test.YtmcfbfdonjllaaaGreatDoorZP19
set_option maxRecDepth 10000
set_option maxHeartbeats 4000000
set_option linter.unusedSimpArgs false
set_option linter.unusedVariables false
namespace La
open Go Go.Eng
def Edge (l:List Node) (d:Int) (s:List UInt8) (f:Int):Prop:=∃n,n∈l/\n.fid=d/\(⟨s,f⟩:Entry)∈n.entries
def d_ (l:List Node) (f:Int):Prop:=∃n,n∈l/\n.fid=f
structure Loc (n:Node):Prop where
 eup:EUp n.entries
 file:n.dir=false->n.entries=[]
 dirD:n.dir=true->n.data=[]
structure Wh (l:List Node):Prop where
 bs:Good l
 loc:∀n,n∈l->Loc n
 name:∀d s f,Edge l d s f->cr s=true
 there:∀d s f,Edge l d s f->d_ l f
 noroot:∀d s f,Edge l d s f->f≠0
 par:∀f,d_ l f->f≠0->∃d s,Edge l d s f
 one:∀d s d' s' f,Edge l d s f->Edge l d' s' f->d=d'/\s=s'
 root:∃n,n∈l/\n.fid=0/\n.dir=true
theorem nO {l:List Node} (h:Up l) {a b:Node} (ha:a∈l) (hb:b∈l) (hf:a.fid=b.fid):a=b:=by
 have h1:=(ZO h).2 ⟨ha,rfl⟩;have h2:=(ZO h).2 ⟨hb,hf.symm⟩;rw[h1] at h2;injection h2
theorem nz {l:List Node} (h:Up l) {n:Node} (hn:n∈l) {s:List UInt8} {f:Int}:Edge l n.fid s f↔(⟨s,f⟩:Entry)∈n.entries:=
 ⟨λ⟨m,hm,hf,he⟩=>by rw[nO h hm hn hf] at he;exact he,λhe=>⟨n,hn,rfl,he⟩⟩
theorem mw {l:List Node} (h:Up l) (n:Node) {d:Int} {s:List UInt8} {f:Int}:Edge (aJ l n) d s f↔(d=n.fid/\(⟨s,f⟩:Entry)∈n.entries)\/(d≠n.fid/\Edge l d s f):=by
 obtain ⟨_,h2⟩:=bq h n;constructor
 ·rintro ⟨m,hm,rfl,he⟩
  rcases (h2 m).1 hm with rfl | ⟨hm,hne⟩
  ·exact .inl ⟨rfl,he⟩
  ·exact .inr ⟨hne,m,hm,rfl,he⟩
 ·rintro (⟨rfl,he⟩ | ⟨hne,m,hm,rfl,he⟩)
  ·exact ⟨n,(h2 n).2 (.inl rfl),rfl,he⟩
  ·exact ⟨m,(h2 m).2 (.inr ⟨hm,hne⟩),rfl,he⟩
theorem nA {l:List Node} (h:Up l) (n:Node) {f:Int}:d_ (aJ l n) f↔f=n.fid\/d_ l f:=by
 obtain ⟨_,h2⟩:=bq h n;constructor
 ·rintro ⟨m,hm,rfl⟩
  rcases (h2 m).1 hm with rfl | ⟨hm,hne⟩
  ·exact .inl rfl
  ·exact .inr ⟨m,hm,rfl⟩
 ·rintro (rfl | ⟨m,hm,rfl⟩)
  ·exact ⟨n,(h2 n).2 (.inl rfl),rfl⟩
  ·by_cases hne:m.fid=n.fid
   ·exact ⟨n,(h2 n).2 (.inl rfl),hne.symm⟩
   ·exact ⟨m,(h2 m).2 (.inr ⟨hm,hne⟩),rfl⟩
theorem Dq {l:List Node} (k:Int) {d:Int} {s:List UInt8} {f:Int}:Edge (eM l k) d s f↔Edge l d s f/\d≠k:=by
 constructor
 ·rintro ⟨m,hm,rfl,he⟩;have:=YL.1 hm;exact ⟨⟨m,this.1,rfl,he⟩,by simpa using this.2⟩
 ·rintro ⟨⟨m,hm,rfl,he⟩,hk⟩;exact ⟨m,YL.2 ⟨hm,by simpa using hk⟩,rfl,he⟩
theorem FH {l:List Node} (k:Int) {f:Int}:d_ (eM l k) f↔d_ l f/\f≠k:=by
 constructor
 ·rintro ⟨m,hm,rfl⟩;have:=YL.1 hm;exact ⟨⟨m,this.1,rfl⟩,by simpa using this.2⟩
 ·rintro ⟨⟨m,hm,rfl⟩,hk⟩;exact ⟨m,YL.2 ⟨hm,by simpa using hk⟩,rfl⟩
theorem vK {l:List Entry} (h:EUp l) {s0:List UInt8} (hs:isE l s0=false) (f0:Int) {s:List UInt8} {f:Int}:(⟨s,f⟩:Entry)∈bD l s0 f0↔(s=s0/\f=f0)\/(⟨s,f⟩:Entry)∈l:=by
 rw[(kC h hs f0).2.1];simp
theorem wa {l:List Entry} {s0 s:List UInt8} {f:Int}:(⟨s,f⟩:Entry)∈dp l s0↔(⟨s,f⟩:Entry)∈l/\s≠s0:=by
 unfold dp;rw[YL];simp
theorem kK {l:List Entry} (h:EUp l) (s:List UInt8):EUp (dp l s):=h.sublist Y4
theorem dz {n:Node} {s:List UInt8} (h:bX n s=0):cr s=true/\isE n.entries s=false:=by
 unfold bX at h;split at h
 ·rename_i h1;split at h
  ·omega
  ·rename_i h2;exact ⟨h1,by simpa using h2⟩
 ·omega
theorem Gm {l:List Node} {k:Int} (hu:Up l) (h:bf l k=false):¬d_ l k:=by
 rintro ⟨m,hm,rfl⟩;have:=(ZO hu).2 ⟨hm,rfl⟩;rw[lx this] at h;cases h
theorem Dc {l:List Node} (h:Wh l) (a:Act) (v:Int) (he:cV l a=0):Wh (dU l a v):=by
 have hg:=qz h.bs a v he;have hu:=h.bs.up;have hL:dU l a v=aJ (aJ l { aB (ar l a.dir) a.name a.fid with version:=v }) (dT a v):=by unfold dU;rw[if_pos he]
 unfold cV at he;split at he
 case isFalse hd=>exact absurd he hd
 rename_i hd;obtain ⟨n,hf,hgn,hdir⟩:=je hd;rw[hgn] at he hL;obtain ⟨hn,hnk⟩:=(ZO hu).1 hf;split at he
 case isFalse hr=>exact absurd he hr
 rename_i hro;obtain ⟨hnm,hfree⟩:=dz hro;split at he
 ·omega
 rename_i hnew;have hno:bf l a.fid=false/\a.fid≠0:=by simpa using hnew
 have hnin:=Gm hu hno.1;have hl:=h.loc n hn;have hu1:=(bq hu { aB n a.name a.fid with version:=v }).1;have hnf:n.fid≠a.fid:=λe=>hnin ⟨n,hn,e⟩
 rw[hL] at hg ⊢;have hE:∀d s f,Edge (aJ (aJ l { aB n a.name a.fid with version:=v }) (dT a v)) d s f↔Edge l d s f\/(d=n.fid/\s=a.name/\f=a.fid):=λd s f=>by
  rw[mw hu1,mw hu]
  show (d=a.fid/\(⟨s,f⟩:Entry)∈[])\/(d≠a.fid/\((d=n.fid/\(⟨s,f⟩:Entry)∈bD n.entries a.name a.fid)\/(d≠n.fid/\Edge l d s f)))↔_
  rw[vK hl.eup hfree];constructor
  ·rintro (⟨_,h0⟩ | ⟨h1,⟨rfl,h2 | h2⟩ | ⟨h2,h3⟩⟩)
   ·cases h0
   ·exact .inr ⟨rfl,h2⟩
   ·exact .inl ⟨n,hn,rfl,h2⟩
   ·exact .inl h3
  ·rintro (h1 | ⟨rfl,rfl,rfl⟩)
   ·refine .inr ⟨λe=>?_,?_⟩
    ·obtain ⟨m,hm,hmf,_⟩:=h1;exact hnin ⟨m,hm,hmf.trans e⟩
    ·by_cases hd:d=n.fid
     ·subst hd;exact .inl ⟨rfl,.inr ((nz hu hn).1 h1)⟩
     ·exact .inr ⟨hd,h1⟩
   ·exact .inr ⟨hnf,.inl ⟨rfl,.inl ⟨rfl,rfl⟩⟩⟩
 have hF:∀f,d_ (aJ (aJ l { aB n a.name a.fid with version:=v }) (dT a v)) f↔f=a.fid\/d_ l f:=λf=>by
  rw[nA hu1,nA hu]
  show f=a.fid\/f=n.fid\/d_ l f↔_
  constructor
  ·rintro (h | rfl | h)
   ·exact .inl h
   ·exact .inr ⟨n,hn,rfl⟩
   ·exact .inr h
  ·rintro (h | h)
   ·exact .inl h
   ·exact .inr (.inr h)
 refine ⟨hg,λx hx=>?_,λd s f hd=>?_,λd s f hd=>?_,λd s f hd=>?_,λf hf h0=>?_,λd s d' s' f h1 h2=>?_,?_⟩
 ·rcases fW hx with rfl | hx
  ·exact ⟨by unfold EUp;simp[dT],λ_=>rfl,λ_=>rfl⟩
  ·rcases fW hx with rfl | hx
   ·exact ⟨(kC hl.eup hfree a.fid).1,λh0=>(by
     have h0:n.dir=false:=h0;rw[hdir] at h0;cases h0),hl.dirD⟩
   ·exact h.loc x hx
 ·rcases (hE d s f).1 hd with h1 | ⟨_,rfl,_⟩
  ·exact h.name d s f h1
  ·exact hnm
 ·rcases (hE d s f).1 hd with h1 | ⟨_,_,rfl⟩
  ·exact (hF f).2 (.inr (h.there d s f h1))
  ·exact (hF _).2 (.inl rfl)
 ·rcases (hE d s f).1 hd with h1 | ⟨_,_,rfl⟩
  ·exact h.noroot d s f h1
  ·exact hno.2
 ·rcases (hF f).1 hf with rfl | hf
  ·exact ⟨n.fid,a.name,(hE _ _ _).2 (.inr ⟨rfl,rfl,rfl⟩)⟩
  ·obtain ⟨d,s,h1⟩:=h.par f hf h0;exact ⟨d,s,(hE _ _ _).2 (.inl h1)⟩
 ·rcases (hE d s f).1 h1 with h1 | ⟨rfl,rfl,rfl⟩
  ·rcases (hE d' s' f).1 h2 with h2 | ⟨rfl,rfl,rfl⟩
   ·exact h.one d s d' s' f h1 h2
   ·exact absurd (h.there _ _ _ h1) hnin
  ·rcases (hE d' s' _).1 h2 with h2 | ⟨rfl,rfl,_⟩
   ·exact absurd (h.there _ _ _ h2) hnin
   ·exact ⟨rfl,rfl⟩
 ·obtain ⟨m,hm,hm0,hmd⟩:=h.root;have hmem:∀x,x∈aJ l { aB n a.name a.fid with version:=v }->x.fid≠a.fid->x∈aJ (aJ l { aB n a.name a.fid with version:=v }) (dT a v):=λx hx hne=>((bq hu1 (dT a v)).2 x).2 (.inr ⟨hx,hne⟩)
  by_cases hmn:m.fid=n.fid
  ·refine ⟨{ aB n a.name a.fid with version:=v },hmem _ (((bq hu _).2 _).2 (.inl rfl)) hnf,hmn.symm.trans hm0,hdir⟩
  ·exact ⟨m,hmem _ (((bq hu _).2 _).2 (.inr ⟨hm,hmn⟩)) (by rw[hm0];exact λe=>hno.2 e.symm),hm0,hmd⟩
theorem G' {l:List Node} (h:Wh l) (a:Act) (v:Int) (he:e_ l a=0):Wh (ez l a v):=by
 have hg:=tP h.bs a v he;have hu:=h.bs.up;have hL:ez l a v=aJ l { ar l a.fid with data:=a.data,version:=v }:=by unfold ez;rw[if_pos he]
 unfold e_ at he;cases hf:ak l a.fid with
 | none=>rw[hf] at he;simp at he
 | some n=>
  rw[hf] at he;simp only at he;obtain ⟨hn,hnk⟩:=(ZO hu).1 hf;have hgn:ar l a.fid=n:=by unfold ar;rw[hf];rfl
  rw[hgn] at hL;split at he
  ·omega
  rename_i hdir;rw[hL] at hg ⊢;have hE:∀d s f,Edge (aJ l { n with data:=a.data,version:=v }) d s f↔Edge l d s f:=λd s f=>by
   rw[mw hu]
   show (d=n.fid/\(⟨s,f⟩:Entry)∈n.entries)\/(d≠n.fid/\Edge l d s f)↔_
   constructor
   ·rintro (⟨rfl,h1⟩ | ⟨_,h1⟩)
    ·exact ⟨n,hn,rfl,h1⟩
    ·exact h1
   ·intro h1
    by_cases hd:d=n.fid
    ·subst hd;exact .inl ⟨rfl,(nz hu hn).1 h1⟩
    ·exact .inr ⟨hd,h1⟩
  have hF:∀f,d_ (aJ l { n with data:=a.data,version:=v }) f↔d_ l f:=λf=>by
   rw[nA hu]
   show f=n.fid\/d_ l f↔_
   constructor
   ·rintro (rfl | h)
    ·exact ⟨n,hn,rfl⟩
    ·exact h
   ·exact .inr
  refine ⟨hg,λx hx=>?_,λd s f hd=>h.name d s f ((hE _ _ _).1 hd),λd s f hd=>(hF _).2 (h.there d s f ((hE _ _ _).1 hd)),λd s f hd=>h.noroot d s f ((hE _ _ _).1 hd),λf hf h0=>?_,λd s d' s' f h1 h2=>h.one d s d' s' f ((hE _ _ _).1 h1) ((hE _ _ _).1 h2),?_⟩
  ·rcases fW hx with rfl | hx
   ·have hl:=h.loc n hn;exact ⟨hl.eup,hl.file,λh0=>absurd h0 hdir⟩
   ·exact h.loc x hx
  ·obtain ⟨d,s,h1⟩:=h.par f ((hF f).1 hf) h0;exact ⟨d,s,(hE _ _ _).2 h1⟩
  ·obtain ⟨m,hm,hm0,hmd⟩:=h.root;refine ⟨m,((bq hu _).2 m).2 (.inr ⟨hm,λe=>?_⟩),hm0,hmd⟩;have:m=n:=nO hu hm hn e;subst this;exact hdir hmd
theorem ua {l:List Node} (h:Wh l) {a:Act} (he:bF l a=0):∃n,ak l a.dir=some n/\ar l a.dir=n/\n∈l/\n.fid=a.dir/\n.dir=true/\Edge l a.dir a.name a.fid:=by
 unfold bF at he;split at he
 case isFalse hd=>exact absurd he hd
 rename_i hd;obtain ⟨n,hf,hgn,hdir⟩:=je hd;obtain ⟨hn,hnk⟩:=(ZO h.bs.up).1 hf;rw[hgn] at he;cases e:ba n a.name with
 | none=>rw[e] at he;simp at he
 | some f=>
  rw[e] at he;simp only at he;split at he
  case isFalse hd=>omega
  rename_i hff;subst hff;exact ⟨n,hf,hgn,hn,hnk,hdir,n,hn,hnk,(YE (h.loc n hn).eup).1 e⟩
theorem vH {l:List Node} (hu:Up l) {n:Node} (hn:n∈l) (s0:List UInt8) (v:Int) {d:Int} {s:List UInt8} {f:Int}:Edge (aJ l { aE n s0 with version:=v }) d s f↔Edge l d s f/\¬(d=n.fid/\s=s0):=by
 rw[mw hu]
 show (d=n.fid/\(⟨s,f⟩:Entry)∈dp n.entries s0)\/(d≠n.fid/\Edge l d s f)↔_
 rw[wa];constructor
 ·rintro (⟨rfl,h1,h2⟩ | ⟨h1,h2⟩)
  ·exact ⟨⟨n,hn,rfl,h1⟩,λh=>h2 h.2⟩
  ·exact ⟨h2,λh=>h1 h.1⟩
 ·rintro ⟨h1,h2⟩
  by_cases hd:d=n.fid
  ·subst hd;exact .inl ⟨rfl,(nz hu hn).1 h1,λe=>h2 ⟨rfl,e⟩⟩
  ·exact .inr ⟨hd,h1⟩
theorem EY {l:List Node} (h:Wh l) (a:Act) (v:Int) (he:cN l a=0):Wh (cO l a v):=by
 have hg:=rA h.bs a v he;have hu:=h.bs.up;have hL:cO l a v=eM (aJ l { aE (ar l a.dir) a.name with version:=v }) a.fid:=by unfold cO;rw[if_pos he]
 unfold cN at he;split at he
 case isFalse hd=>exact absurd he hd
 rename_i hnd;obtain ⟨n,hf,hgn,hn,hnk,hdir,hed⟩:=ua h hnd;rw[hgn] at hL;cases hx:ak l a.fid with
 | none=>rw[hx] at he;simp at he
 | some x=>
  rw[hx] at he;simp only at he;obtain ⟨hxm,hxf⟩:=(ZO hu).1 hx;have hxe:x.entries=[]:=by
   cases e:x.entries with
   | nil=>rfl
   | cons p q=>rw[e] at he;simp at he
  rw[hL] at hg ⊢;have hnoE:∀s f,¬Edge l a.fid s f:=λs f h1=>by
   rw[<-hxf] at h1;have:=(nz hu hxm).1 h1;rw[hxe] at this;cases this
  have hE:∀d s f,Edge (eM (aJ l { aE n a.name with version:=v }) a.fid) d s f↔Edge l d s f/\¬(d=a.dir/\s=a.name):=λd s f=>by
   rw[Dq,vH hu hn,hnk];constructor
   ·exact λh=>h.1
   ·exact λh=>⟨h,λe=>by subst e;exact hnoE s f h.1⟩
  have hF:∀f,d_ (eM (aJ l { aE n a.name with version:=v }) a.fid) f↔d_ l f/\f≠a.fid:=λf=>by
   rw[FH,nA hu]
   show (f=n.fid\/d_ l f)/\f≠a.fid↔_
   constructor
   ·rintro ⟨rfl | h,h1⟩
    ·exact ⟨⟨n,hn,rfl⟩,h1⟩
    ·exact ⟨h,h1⟩
   ·rintro ⟨h,h1⟩;exact ⟨.inr h,h1⟩
  have hup1:=(bq hu { aE n a.name with version:=v });refine ⟨hg,λx hx=>?_,λd s f hd=>h.name d s f ((hE _ _ _).1 hd).1,λd s f hd=>(hF _).2 ⟨h.there d s f ((hE _ _ _).1 hd).1,λe=>?_⟩,λd s f hd=>h.noroot d s f ((hE _ _ _).1 hd).1,λf hf h0=>?_,λd s d' s' f h1 h2=>h.one d s d' s' f ((hE _ _ _).1 h1).1 ((hE _ _ _).1 h2).1,?_⟩
  ·rcases fW (YL.1 hx).1 with rfl | hx
   ·have hl:=h.loc n hn;exact ⟨kK hl.eup _,λh0=>by
     show dp n.entries a.name=[]
     rw[hl.file h0];rfl,hl.dirD⟩
   ·exact h.loc x hx
  ·subst e;obtain ⟨h1,h2⟩:=(hE _ _ _).1 hd;exact h2 (h.one _ _ _ _ _ h1 hed)
  ·obtain ⟨h1,h2⟩:=(hF f).1 hf;obtain ⟨d,s,h3⟩:=h.par f h1 h0;refine ⟨d,s,(hE _ _ _).2 ⟨h3,λe=>?_⟩⟩;obtain ⟨rfl,rfl⟩:=e;obtain ⟨m,hm,hmf,hme⟩:=hed;obtain ⟨m',hm',hmf',hme'⟩:=h3;have:m=m':=nO hu hm hm' (hmf.trans hmf'.symm);subst this;have:=(h.loc m hm).eup.same hme hme' rfl;injection this with _ h5
   exact h2 h5.symm
  ·obtain ⟨m,hm,hm0,hmd⟩:=h.root;have h0:(0:Int)≠a.fid:=λe=>h.noroot _ _ _ hed e.symm
   by_cases hmn:m.fid=n.fid
   ·exact ⟨{ aE n a.name with version:=v },YL.2 ⟨(hup1.2 _).2 (.inl rfl),by
     show (!(n.fid==a.fid))=true
     rw[<-hmn,hm0];simpa using h0⟩,hmn.symm.trans hm0,hdir⟩
   ·exact ⟨m,YL.2 ⟨(hup1.2 _).2 (.inr ⟨hm,hmn⟩),by rw[hm0];simpa using h0⟩,hm0,hmd⟩
theorem EZ {l:List Node} (h:Wh l) (a:Act) (v:Int) (he:du l a=0):Wh (dj l a v):=by
 have hg:=rB h.bs a v he;have hu:=h.bs.up;have hL:dj l a v=aJ (if a.to=a.dir then l else aJ l { aE (ar l a.dir) a.name with version:=v }) { aB (toN l a) a.toName a.fid with version:=v }:=by unfold dj;rw[if_pos he]
 unfold du at he;split at he
 case isFalse hd=>exact absurd he hd
 rename_i hnd;obtain ⟨n,hf,hgn,hn,hnk,hdir,hed⟩:=ua h hnd;split at he
 case isFalse hd=>exact absurd he hd
 rename_i hdt;obtain ⟨t,htf,htg,htdir⟩:=je hdt;obtain ⟨htm,htk⟩:=(ZO hu).1 htf;split at he
 case isFalse hd=>exact absurd he hd
 rename_i hro;obtain ⟨hnm,hfree⟩:=dz hro;rw[hgn] at hL;rw[hL] at hg ⊢
 -- the directory that gets the name
 have hT:(toN l a).fid=a.to/\(toN l a).dir=true/\EUp (toN l a).entries/\((toN l a).dir=true->(toN l a).data=[])/\∀s f,(⟨s,f⟩:Entry)∈(toN l a).entries↔Edge l a.to s f/\¬(a.to=a.dir/\s=a.name):=by
  unfold toN;split
  ·rename_i htd;rw[hgn];have hl:=h.loc n hn;refine ⟨hnk.trans htd.symm,hdir,kK hl.eup _,hl.dirD,λs f=>?_⟩
   show (⟨s,f⟩:Entry)∈dp n.entries a.name↔_
   rw[wa,htd,<-hnk,nz hu hn];simp
  ·rename_i htd;rw[htg];have hl:=h.loc t htm;refine ⟨htk,htdir,hl.eup,hl.dirD,λs f=>?_⟩;rw[<-htk,nz hu htm];constructor
   ·exact λh=>⟨h,λe=>htd (htk.symm.trans e.1)⟩
   ·exact λh=>h.1
 obtain ⟨hTf,hTd,hTe,hTda,hTm⟩:=hT;generalize hl1:(if a.to=a.dir then l else aJ l { aE n a.name with version:=v })=l1 at hg ⊢;have hu1:Up l1:=by subst hl1;split;exact hu;exact (bq hu _).1
 have hE1:∀d s f,d≠a.to->(Edge l1 d s f↔Edge l d s f/\¬(d=a.dir/\s=a.name)):=λd s f hd=>by
  subst hl1;split
  ·rename_i htd;exact ⟨λh=>⟨h,λe=>hd (e.1.trans htd.symm)⟩,λh=>h.1⟩
  ·rw[vH hu hn,hnk]
 have hF1:∀f,d_ l1 f↔d_ l f:=λf=>by
  subst hl1;split
  ·exact Iff.rfl
  ·rw[nA hu]
   show f=n.fid\/d_ l f↔_
   exact ⟨λh=>h.elim (λe=>⟨n,hn,e.symm⟩) id,.inr⟩
 have hE:∀d s f,Edge (aJ l1 { aB (toN l a) a.toName a.fid with version:=v }) d s f↔(Edge l d s f/\¬(d=a.dir/\s=a.name))\/(d=a.to/\s=a.toName/\f=a.fid):=λd s f=>by
  rw[mw hu1]
  show (d=(toN l a).fid/\(⟨s,f⟩:Entry)∈bD (toN l a).entries a.toName a.fid)\/(d≠(toN l a).fid/\Edge l1 d s f)↔_
  rw[vK hTe hfree,hTm,hTf];constructor
  ·rintro (⟨rfl,h1 | h1⟩ | ⟨h1,h2⟩)
   ·exact .inr ⟨rfl,h1⟩
   ·exact .inl h1
   ·exact .inl ((hE1 d s f h1).1 h2)
  ·rintro (h1 | ⟨rfl,h1⟩)
   ·by_cases hd:d=a.to
    ·subst hd;exact .inl ⟨rfl,.inr h1⟩
    ·exact .inr ⟨hd,(hE1 d s f hd).2 h1⟩
   ·exact .inl ⟨rfl,.inl h1⟩
 have hF:∀f,d_ (aJ l1 { aB (toN l a) a.toName a.fid with version:=v }) f↔d_ l f:=λf=>by
  rw[nA hu1,hF1]
  show f=(toN l a).fid\/d_ l f↔_
  rw[hTf];exact ⟨λh=>h.elim (λe=>⟨t,htm,htk.trans e.symm⟩) id,.inr⟩
 have hthere:=h.there _ _ _ hed
 -- who leads to the fid that moves: its old place alone
 have hold:∀d s,Edge l d s a.fid->d=a.dir/\s=a.name:=λd s h1=>h.one _ _ _ _ _ h1 hed
 refine ⟨hg,λx hx=>?_,λd s f hd=>?_,λd s f hd=>?_,λd s f hd=>?_,λf hf h0=>?_,λd s d' s' f h1 h2=>?_,?_⟩
 ·rcases fW hx with rfl | hx
  ·exact ⟨(kC hTe hfree a.fid).1,λh0=>(by
    have h0:(toN l a).dir=false:=h0;rw[hTd] at h0;cases h0),hTda⟩
  ·subst hl1;split at hx
   ·exact h.loc x hx
   ·rcases fW hx with rfl | hx
    ·have hl:=h.loc n hn;exact ⟨kK hl.eup _,λh0=>by
      show dp n.entries a.name=[]
      rw[hl.file h0];rfl,hl.dirD⟩
    ·exact h.loc x hx
 ·rcases (hE d s f).1 hd with h1 | ⟨_,rfl,_⟩
  ·exact h.name d s f h1.1
  ·exact hnm
 ·rcases (hE d s f).1 hd with h1 | ⟨_,_,rfl⟩
  ·exact (hF f).2 (h.there d s f h1.1)
  ·exact (hF _).2 hthere
 ·rcases (hE d s f).1 hd with h1 | ⟨_,_,rfl⟩
  ·exact h.noroot d s f h1.1
  ·exact h.noroot _ _ _ hed
 ·by_cases hff:f=a.fid
  ·subst hff;exact ⟨a.to,a.toName,(hE _ _ _).2 (.inr ⟨rfl,rfl,rfl⟩)⟩
  ·obtain ⟨d,s,h1⟩:=h.par f ((hF f).1 hf) h0;refine ⟨d,s,(hE _ _ _).2 (.inl ⟨h1,λe=>?_⟩)⟩;obtain ⟨rfl,rfl⟩:=e;obtain ⟨m,hm,hmf,hme⟩:=hed;obtain ⟨m',hm',hmf',hme'⟩:=h1;have:m=m':=nO hu hm hm' (hmf.trans hmf'.symm);subst this;have:=(h.loc m hm).eup.same hme hme' rfl;injection this with _ h5
   exact hff h5.symm
 ·rcases (hE d s f).1 h1 with h1 | ⟨rfl,rfl,rfl⟩
  ·rcases (hE d' s' f).1 h2 with h2 | ⟨rfl,rfl,rfl⟩
   ·exact h.one d s d' s' f h1.1 h2.1
   ·exact absurd (hold d s h1.1) h1.2
  ·rcases (hE d' s' _).1 h2 with h2 | ⟨rfl,rfl,_⟩
   ·exact absurd (hold d' s' h2.1) h2.2
   ·exact ⟨rfl,rfl⟩
 ·obtain ⟨m,hm,hm0,hmd⟩:=h.root
  by_cases hmt:m.fid=a.to
  ·exact ⟨_,((bq hu1 _).2 _).2 (.inl rfl),hTf.trans (hmt.symm.trans hm0),hTd⟩
  ·have hml1:∃x,x∈l1/\x.fid=0/\x.dir=true:=by
    subst hl1;split
    ·exact ⟨m,hm,hm0,hmd⟩
    ·by_cases hmn:m.fid=n.fid
     ·exact ⟨{ aE n a.name with version:=v },((bq hu _).2 _).2 (.inl rfl),hmn.symm.trans hm0,hdir⟩
     ·exact ⟨m,((bq hu _).2 _).2 (.inr ⟨hm,hmn⟩),hm0,hmd⟩
   obtain ⟨x,hx,hx0,hxd⟩:=hml1;exact ⟨x,((bq hu1 _).2 _).2 (.inr ⟨hx,by
    show x.fid≠(toN l a).fid
    rw[hTf,hx0,<-hm0];exact hmt⟩),hx0,hxd⟩
theorem G8 {l:List Node} (h:Wh l) (a:Act) (v:Int) (he:aG l a=0):Wh (aK l a v):=by
 unfold aG at he;unfold aK;split at he
 ·rename_i h1;rw[if_pos h1];exact Dc h a v he
 ·rename_i h1;rw[if_neg h1];split at he
  ·rename_i h2;rw[if_pos h2];exact Dc h a v he
  ·rename_i h2;rw[if_neg h2];split at he
   ·rename_i h3;rw[if_pos h3];exact G' h a v he
   ·rename_i h3;rw[if_neg h3];split at he
    ·rename_i h4;rw[if_pos h4];exact EY h a v he
    ·rename_i h4;rw[if_neg h4];split at he
     ·rename_i h5;rw[if_pos h5];exact EZ h a v he
     ·omega
theorem KB:Wh [gN]:=by
 have hE:∀d s f,¬Edge [gN] d s f:=λd s f ⟨n,hn,_,he⟩=>by rw[List.mem_singleton.1 hn] at he;cases he
 exact ⟨vR,λn hn=>by rw[List.mem_singleton.1 hn];exact ⟨by unfold EUp;simp[gN],λ_=>rfl,λ_=>rfl⟩,λd s f h=>absurd h (hE d s f),λd s f h=>absurd h (hE d s f),λd s f h=>absurd h (hE d s f),
  λf ⟨n,hn,hf⟩ h0=>by rw[List.mem_singleton.1 hn] at hf;exact absurd hf.symm h0,λd s d' s' f h=>absurd h (hE d s f),⟨gN,List.mem_singleton.2 rfl,rfl,rfl⟩⟩
theorem Hist.whole {p:List Past} {t:List Node} (h:Hist p t):Wh t:=by
 induction h with
 | nil=>exact KB
 | snoc c a h ha he ih=>exact G8 ih _ _ he
def jZ (l:List Node):Nat->List (Int×Node)
 | 0=>[]
 | i+1=>aV (jZ l i) (gq l i) (l.getD i default)
def bI (l:List Node):List (Int×Node):=jZ l l.length
theorem zQ (l:List Node):∀i,ix l i=mN (jZ l i)
 | 0=>rfl
 | i+1=>by
  have ih:=zQ l i
  show aV (ix l i) (gq l i) _=_
  rw[ih,xM];rfl
theorem sI (l:List Node):BK l=mN (bI l):=zQ l l.length
theorem bA (l:List Node):dQ (bI l):=by
 have:∀i,dQ (jZ l i):=λi=>by
  induction i with
  | zero=>exact List.Pairwise.nil
  | succ i ih=>exact cn ih
 exact this _
theorem cc {l:List Node} (h:Up l) (k:Int):bl (bI l) k=ak l k:=by
 have h1:=Gd h k;rw[sI,gW] at h1;cases e:bl (bI l) k with
 | none=>
  rw[e] at h1;cases e2:ak l k with
  | none=>rfl
  | some n=>rw[e2] at h1;cases h1
 | some m=>
  rw[e] at h1;cases e2:ak l k with
  | none=>rw[e2] at h1;cases h1
  | some n=>
   rw[e2] at h1;simp only[Option.map_some,gL,AV.agg.injEq] at h1
   -- the same nodes, as both come from the list
   have hm:∀i,i<=l.length->∀p,p∈jZ l i->p.2∈l/\p.2.fid=p.1:=λi=>by
    induction i with
    | zero=>intro _ p hp;cases hp
    | succ i ih=>
     intro hi p hp;have hr:dQ (jZ l i):=by
      have:∀j,dQ (jZ l j):=λj=>by
       induction j with
       | zero=>exact List.Pairwise.nil
       | succ j ihj=>exact cn ihj
      exact this i
     rcases (cd hr p.1 p.2).1 hp with ⟨h1,h2⟩ | ⟨_,h2⟩
     ·rw[h1,h2];exact ⟨YG z8,rfl⟩
     ·exact ih z8 p h2
   obtain ⟨q1,q2⟩:=hm _ (YA _) _ (df e);rw[<-e2];exact ((ZO h).2 ⟨q1,q2⟩).symm
theorem jC (l:List Node):∀i,dQ (jZ l i)
 | 0=>List.Pairwise.nil
 | i+1=>cn (jC l i)
theorem qM (l:List Node):∀i,i<=l.length->∀p,p∈jZ l i->p.2∈l
 | 0,_,p,hp=>by cases hp
 | i+1,hi,p,hp=>by
  rcases (cd (jC l i) p.1 p.2).1 hp with ⟨h1,h2⟩ | ⟨_,h2⟩
  ·rw[h2];exact YG z8
  ·exact qM l i z8 p h2
theorem wh (l:List Node):∀i,(jZ l i).length<=i
 | 0=>YA _
 | i+1=>by
  have h1:=wh l i;have h2:=j_ (n:=gq l i) (v:=l.getD i default) (jC l i)
  show (aV (jZ l i) (gq l i) (l.getD i default)).length<=i+1
  rw[h2];cases (bl (jZ l i) (gq l i)).isSome<;>simp<;>omega
theorem za {α:Type} {f:α->List Int} {k:Nat}:∀{l:List α},(∀x,x∈l->(f x).length<=k)->(l.flatMap f).length<=k*l.length
 | [],_=>by simp
 | x::r,h=>by
  have h1:=za (l:=r) λy hy=>h y (List.mem_cons_of_mem _ hy)
  have h2:=h x List.mem_cons_self;simp only[List.flatMap_cons,List.length_append,List.length_cons,Nat.mul_add,Nat.mul_one];omega
theorem ta {l:List Node} {k:Nat} (h:∀n,n∈l->n.entries.length<=k):(og (bI l)).length<=k*l.length:=by
 have h1:(og (bI l)).length<=k*(bI l).length:=za λp hp=>by
  rw[List.length_map];exact h _ (qM l _ (YA _) p hp)
 exact Yn h1 (Nat.mul_le_mul_left _ (wh l _))
theorem xG (r:Int->Nat):∀(l:List Node) (n:Node),n∈l->r n.fid<=(l.map λn=>r n.fid).sum
 | [],n,h=>by cases h
 | m::l,n,h=>by
  simp only[List.map_cons,List.sum_cons]
  rcases List.mem_cons.1 h with rfl | h
  ·omega
  ·have:=xG r l n h;omega
theorem G_ {l:List Node} (h:Wh l) {f:Int} (hf:d_ l f):MReach (bI l) 0 f:=by
 obtain ⟨r,hr⟩:=h.bs.dd;have key:∀(k:Nat) (f:Int),d_ l f->(l.map λn=>r n.fid).sum-r f<=k->MReach (bI l) 0 f:=λk=>by
  induction k with
  | zero=>
   intro f hf hk
   by_cases h0:f=0
   ·subst h0;exact .refl
   ·obtain ⟨d,s,n,hn,hd,he⟩:=h.par f hf h0;have h1:=hr n hn _ he;have h2:=xG r l n hn;simp only at h1;omega
  | succ k ih=>
   intro f hf hk
   by_cases h0:f=0
   ·subst h0;exact .refl
   ·obtain ⟨d,s,n,hn,hd,he⟩:=h.par f hf h0;have h1:=hr n hn _ he;have h2:=xG r l n hn;simp only at h1;exact .step (ih n.fid ⟨n,hn,rfl⟩ z8) (by rw[cc h.bs.up];exact (ZO h.bs.up).2 ⟨hn,rfl⟩) he
 exact key _ f hf (YA _)
def Bq (m:List (Int×Int)) (f:Int):List (Int×Int):=aV m f (gr m f+1)
def eA (fs:List Int):List (Int×Int):=fs.foldl Bq []
def qg (f:Int) (fs:List Int):Nat:=(fs.filter λx=>x==f).length
theorem AP (fs:List Int) (f:Int):eA (fs++[f])=Bq (eA fs) f:=by unfold eA;rw[List.foldl_append];rfl
theorem vM:∀(fs:List Int) (m:List (Int×Int)),dQ m->dQ (fs.foldl Bq m)/\∀f,gr (fs.foldl Bq m) f=gr m f+qg f fs
 | [],m,h=>⟨h,λf=>by simp[qg]⟩
 | x::fs,m,h=>by
  obtain ⟨h1,h2⟩:=vM fs (Bq m x) (cn h);refine ⟨h1,λf=>?_⟩;rw[List.foldl_cons,h2];have hg:gr (Bq m x) f=if f=x then gr m x+1 else gr m f:=by
   unfold Bq gr;rw[kN h];split<;>rfl
  rw[hg];unfold qg;rw[List.filter_cons]
  by_cases e:f=x
  ·subst e;simp;omega
  ·rw[if_neg e,if_neg (by simpa using λh=>e h.symm)]
theorem uK (fs:List Int) (f:Int):gr (eA fs) f=qg f fs:=by
 have:=(vM fs [] List.Pairwise.nil).2 f;unfold eA;rw[this];simp[gr,bl]
theorem Io (f:Int) (fs:List Int):qg f fs<=fs.length:=YB _ _
theorem vC {f:Int} {fs:List Int} (h:f∉fs):qg f fs=0:=by
 unfold qg;rw[List.filter_eq_nil_iff.2 λx hx=>by
  intro hx2;rw[eq_of_beq hx2] at hx;exact h hx];rfl
theorem yC {f:Int}:∀{fs:List Int},fs.Nodup->f∈fs->qg f fs=1
 | [],_,h=>by cases h
 | x::fs,hn,h=>by
  rw[List.nodup_cons] at hn;unfold qg;rw[List.filter_cons]
  by_cases e:x=f
  ·subst e;have:=vC hn.1;unfold qg at this;simp[this]
  ·rw[if_neg We]
   rcases List.mem_cons.1 h with h | h
   ·exact absurd h.symm e
   ·exact yC hn.2 h
def fu (n:Node):List Int:=n.entries.map (·.fid)
def dr (l:List Node):List Int:=l.flatMap fu
theorem G9 {l:List Node} (h:Wh l):(dr l).Nodup:=by
 unfold dr List.Nodup;rw[List.pairwise_flatMap];refine ⟨λn hn=>?_,?_⟩
 ·unfold fu;rw[List.pairwise_map];refine ((h.loc n hn).eup).imp_of_mem fun {a b} ha hb hlt e=>?_
  have:=(h.one n.fid a.name n.fid b.name a.fid ⟨n,hn,rfl,ha⟩ ⟨n,hn,rfl,by rw[e];exact hb⟩).2;rw[this] at hlt;exact sj _ hlt
 ·refine (h.bs.up).imp_of_mem fun {a b} ha hb hlt x hx y hy e=>?_
  obtain ⟨p,hp,rfl⟩:=W8.1 hx;obtain ⟨q,hq,rfl⟩:=W8.1 hy;have:=(h.one a.fid p.name b.fid q.name p.fid ⟨a,ha,rfl,hp⟩ ⟨b,hb,rfl,by rw[e];exact hq⟩).1;omega
theorem rh {l:List Node} {f:Int}:f∈dr l↔∃d s,Edge l d s f:=by
 unfold dr fu;rw[List.mem_flatMap];constructor
 ·rintro ⟨n,hn,he⟩;obtain ⟨e,he2,rfl⟩:=W8.1 he;exact ⟨n.fid,e.name,n,hn,rfl,he2⟩
 ·rintro ⟨d,s,n,hn,_,he⟩;exact ⟨n,hn,W8.2 ⟨_,he,rfl⟩⟩
theorem KC {l:List Node} (h:Wh l):qg 0 (dr l)=0:=vC λhm=>by
 obtain ⟨d,s,he⟩:=rh.1 hm;exact h.noroot d s 0 he rfl
theorem L4 {l:List Node} (h:Wh l) {f:Int} (hf:d_ l f) (h0:f≠0):qg f (dr l)=1:=yC (G9 h) (rh.2 (h.par f hf h0))
theorem LZ {l:List Node} (h:Wh l) {n:Node} (hn:n∈l) (h0:n.fid=0):n.dir=true:=by
 obtain ⟨m,hm,hm0,hmd⟩:=h.root;rw[nO h.bs.up hn hm (h0.trans hm0.symm)];exact hmd
end La
namespace La
open Go Go.Eng Go.Proofs Go.Proofs.Tryz
theorem nh {α:Type}:∀{a b:List (Int×α)},dQ a->dQ b->(∀p,p∈a↔p∈b)->a=b
 | [],[],_,_,_=>rfl
 | [],q::b,_,_,h=>absurd ((h q).2 List.mem_cons_self) w8
 | p::a,[],_,_,h=>absurd ((h p).1 List.mem_cons_self) w8
 | p::a,q::b,ha,hb,h=>by
  have ha':=List.pairwise_cons.1 ha;have hb':=List.pairwise_cons.1 hb;have hpq:p=q:=by
   rcases List.mem_cons.1 ((h p).1 List.mem_cons_self) with e | e
   ·exact e
   ·rcases List.mem_cons.1 ((h q).2 List.mem_cons_self) with e2 | e2
    ·exact e2.symm
    ·have h1:=hb'.1 p e;have h2:=ha'.1 q e2;omega
  subst hpq;refine congrArg _ (nh ha'.2 hb'.2 λr=>?_);constructor
  ·intro hr
   rcases List.mem_cons.1 ((h r).1 (List.mem_cons_of_mem _ hr)) with e | e
   ·subst e;exact absurd (ha'.1 _ hr) z8
   ·exact e
  ·intro hr
   rcases List.mem_cons.1 ((h r).2 (List.mem_cons_of_mem _ hr)) with e | e
   ·subst e;exact absurd (hb'.1 _ hr) z8
   ·exact e
def ee {α:Type} (m:List (Int×α)) (seen:List Int):List (Int×α):=m.filter λp=>seen.contains p.1
theorem qX {α:Type} {m:List (Int×α)} (h:dQ m) {n:Int} {v:α} (hm:(n,v)∈m) {seen:List Int}:aV (ee m seen) n v=ee m (n::seen):=by
 have hr:dQ (ee m seen):=h.filter _;refine nh (cn hr) (h.filter _) λp=>?_
 obtain ⟨k,x⟩:=p;rw[cd hr];unfold ee;simp only[YL,List.contains_cons,Bool.or_eq_true,beq_iff_eq];constructor
 ·rintro (⟨rfl,rfl⟩ | ⟨h1,h2,h3⟩)
  ·exact ⟨hm,.inl rfl⟩
  ·exact ⟨h2,.inr h3⟩
 ·rintro ⟨h1,h2⟩
  by_cases e:k=n
  ·subst e;have a1:=bS h h1;have a2:=bS h hm;rw[a1] at a2;injection a2 with a2
   exact .inl ⟨rfl,a2⟩
  ·rcases h2 with h2 | h2
   ·exact absurd h2 e
   ·exact .inr ⟨e,h1,h2⟩
theorem qW {α:Type} {m:List (Int×α)} {seen:List Int} (h:∀p,p∈m->p.1∈seen):ee m seen=m:=by
 unfold ee;exact Ye.2 λp hp=>by simpa using h p hp
def n_ {α:Type}:List (Int×α)->List Int->Nat
 | [],_=>0
 | p::r,seen=>(if p.1∈seen then 0 else 1)+n_ r seen
theorem zI {α:Type} (n:Int) (seen:List Int):∀m:List (Int×α),n_ m (n::seen)<=n_ m seen
 | []=>YA _
 | p::r=>by
  have ih:=zI n seen r;unfold n_
  by_cases h:p.1∈seen
  ·rw[if_pos h,if_pos (List.mem_cons_of_mem _ h)];omega
  ·rw[if_neg h];split<;>omega
theorem mQ {α:Type} {n:Int} {v:α} {seen:List Int}:∀{m:List (Int×α)},(n,v)∈m->n∉seen->n_ m (n::seen)<n_ m seen
 | [],h,_=>by cases h
 | p::r,h,hs=>by
  have hle:=zI n seen r;unfold n_
  rcases List.mem_cons.1 h with rfl | h
  ·rw[if_pos List.mem_cons_self,if_neg hs];omega
  ·have ih:=mQ h hs
   by_cases h2:p.1∈seen
   ·rw[if_pos h2,if_pos (List.mem_cons_of_mem _ h2)];omega
   ·rw[if_neg h2];split<;>omega
theorem nM {α:Type} (m:List (Int×α)):ee m []=[]:=by unfold ee;simp
theorem BG {m:List (Int×Node)} {n:Int} {v:AV} (h:(n,v)∈mN m):∃nd,v=.agg (ZN nd)/\(n,nd)∈m:=by
 obtain ⟨p,hp,e⟩:=W8.1 h;injection e with e1 e2
 exact ⟨p.2,e2.symm,by rw[<-e1];exact hp⟩
theorem BF {m:List (Int×Node)} {n:Int} {nd:Node} (h:(n,nd)∈m):(n,AV.agg (ZN nd))∈mN m:=W8.2 ⟨_,h,rfl⟩
theorem xL (m:List (Int×Node)):(mN m).length=m.length:=by simp[mN]
theorem BH:([]:List (Int×AV))=mN []:=rfl
theorem jc (m:List (Int×Node)) (n:Node) (hr:dQ m):Fo 130 [.rm (mN m),.agg (ZN n)] (.rm (mN (aV m n.fid n))):=by
 unfold ZN;refine wSG func130 ntmps130 results130 λC=>?_
 refine tv tK rfl rfl rfl z7 z7 z7 ?_;refine wG ?_;refine ZL (λ_:List Int=>True) (λseen=>n_ m seen) (λ_=>(6,.any)::(7,.any)::u0 11 8 []) (λseen=>[(8,.map (mN (ee m seen))),(10,.iter (mN m) seen)]) [] trivial ?_ λseen _=>?_
 ·simp only[go_sem];exact ZU w3 (by simp[go_sem,nM,BH]) w3
 simp only[go_sem];refine wR ?_;refine xm rfl rfl z7 z7 (λhall=>?_) (λn v hnv hns=>?_)
 ·have hsa:ee m seen=m:=qW λp hp=>hall (p.1,.agg (ZN p.2)) (BF hp)
  rw[hsa];simp only[go_sem];refine wG ?_;refine wDF ?_ (hb:=rfl);refine wGq ?_ ?_
  ·simp[AV.jw,AV.aT]
  rw[show AV.agg [.int .i64 n.fid,.bool n.dir,.sl (n.data.map ZY),.sl (n.entries.map ZE),.int .i64 n.version]=.agg (ZN n) from rfl,xM];refine lj 8 rfl ?_;simp only[go_sem];refine wT ?_;rfl
 ·obtain ⟨nd,rfl,hmem⟩:=BG hnv;have hpt:=qX hr hmem (seen:=seen);have hlt:=mQ hmem hns;simp only[go_sem];refine wG ?_;refine wDT ?_ (hb:=rfl);refine wR ?_;refine tu rfl rfl z7 z7 (hnv) ?_;simp only[go_sem];refine wGq ?_ ?_ w5
  ·simp[ZN,AV.jw,AV.aT]
  exact ZB ⟨n::seen,hlt,ZU w3 (by simp[go_sem,<-hpt,<-xM,ZN]) w3⟩
theorem DY {α:Type} {m:List (Int×α)} (h:dQ m) {n:Int} {v:α} (hm:(n,v)∈m) (seen:List Int) (fid:Int) :
  (n≠fid->aV (eu (ee m seen) fid) n v=eu (ee m (n::seen)) fid)/\(n=fid->eu (ee m seen) fid=eu (ee m (n::seen)) fid):=by
 have hr:dQ (ee m seen):=h.filter _;refine ⟨λhne=>?_,λhe=>?_⟩
 ·rw[<-qX h hm];refine nh (cn (jl hr)) (jl (cn hr)) λp=>?_
  obtain ⟨k,x⟩:=p;rw[cd (jl hr)];unfold eu;rw[YL,YL,cd hr];simp only[Yo,beq_eq_false_iff_ne];constructor
  ·rintro (⟨rfl,rfl⟩ | ⟨h1,h2,h3⟩)
   ·exact ⟨.inl ⟨rfl,rfl⟩,hne⟩
   ·exact ⟨.inr ⟨h1,h2⟩,h3⟩
  ·rintro ⟨⟨rfl,rfl⟩ | ⟨h1,h2⟩,h3⟩
   ·exact .inl ⟨rfl,rfl⟩
   ·exact .inr ⟨h1,h2,h3⟩
 ·subst he;unfold eu ee;rw[List.filter_filter,List.filter_filter];refine List.filter_congr λp _=>?_
  simp only[List.contains_cons];cases h1:(p.1==n)<;>simp
theorem Gf {α:Type} (fid:Int):eu ([]:List (Int×α)) fid=[]:=rfl
theorem Ct (m:List (Int×Node)) (fid:Int) (hr:dQ m):Fo 133 [.rm (mN m),.int .i64 fid] (.rm (mN (eu m fid))):=by
 refine wSG func133 ntmps133 results133 λC=>?_
 refine tv tK rfl rfl rfl z7 z7 z7 ?_;refine wG ?_;refine ZL (λ_:List Int=>True) (λseen=>n_ m seen) (λ_=>(6,.any)::(7,.any)::u0 11 11 []) (λseen=>[(8,.map (mN (eu (ee m seen) fid))),(10,.iter (mN m) seen)]) [] trivial ?_ λseen _=>?_
 ·simp only[go_sem];exact ZU w3 (by simp[go_sem,nM,Gf,BH]) w3
 simp only[go_sem];refine wR ?_;refine xm rfl rfl z7 z7 (λhall=>?_) (λn v hnv hns=>?_)
 ·have hsa:ee m seen=m:=qW λp hp=>hall (p.1,.agg (ZN p.2)) (BF hp)
  rw[hsa];simp only[go_sem];refine mh ?_ (hb:=rfl);refine lj 8 rfl ?_;simp only[go_sem];refine wT ?_;rfl
 ·obtain ⟨nd,rfl,hmem⟩:=BG hnv;obtain ⟨hp1,hp2⟩:=DY hr hmem seen fid;have hlt:=mQ hmem hns;simp only[go_sem];refine wG ?_;refine wDT ?_ (hb:=rfl);refine wR ?_;refine tu rfl rfl z7 z7 (hnv) ?_;simp only[go_sem];refine wGq ?_ ?_ w5
  ·simp[ZN]
  by_cases hf:n=fid
  ·have hp2:=hp2 hf;refine wFG ?_ (hb:=by simp[hf]);exact ZB ⟨n::seen,hlt,ZU w3 (by simp[go_sem,<-hp2]) w3⟩
  ·have hp1:=hp1 hf;refine wDT ?_ (hb:=by simpa using hf);refine wGq ?_ ?_ w5
   ·simp[ZN,AV.jw,AV.aT]
   refine ZB ⟨n::seen,hlt,ZU ?_ ?_ ?_⟩
   ·simp[go_sem]
   ·simp[go_sem,<-hp1,<-xM,ZN]
   ·simp[go_sem]
def pJ (l:List Entry) (s:List UInt8):Option Entry:=l.find? λe=>e.name==s
def sP (l:List Entry) (s:List UInt8):AV:=match pJ l s with
 | some e=>.tup [.int .i64 e.fid,.bool true]
 | none=>.tup [.int .i64 0,.bool false]
theorem tI {l:List Entry} {s:List UInt8} (h:∀e,e∈l->(e.name==s)=false):pJ l s=none:=List.find?_eq_none.2 λe he=>by rw[h e he];simp
theorem xw {l:List Entry} {s:List UInt8} {i:Nat} (hi:i<l.length) (h:∀e,e∈l.take i->(e.name==s)=false) (hs:((l.getD i default).name==s)=true):pJ l s=some (l.getD i default):=by
 unfold pJ;have e:l=l.take i++(l.getD i default::l.drop (i+1)):=by rw[<-ck hi,List.take_append_drop]
 conv=>lhs;rw[e]
 rw[List.find?_append,List.find?_eq_none.2 (λe he=>by rw[h e he];simp),Option.none_or,List.find?_cons,hs]
theorem jn (n:Node) (s:List UInt8) (hn:n.entries.length<=100000000):Fo 91 [.agg (ZN n),.str s] (sP n.entries s):=by
 unfold sP ZN;refine wSG func91 ntmps91 results91 λC=>?_
 refine ZL (λi:Nat=>i<=n.entries.length/\∀e,e∈n.entries.take i->(e.name==s)=false) (λi=>n.entries.length-i) (λi=>(7,.any)::(11,.int .i64 i)::u0 12 10 []) (λ_=>[]) 0 ⟨by omega,by simp⟩ ?_ λi hi=>?_
 ·exact wZ
 obtain ⟨hi,hno⟩:=hi;simp only[go_sem];refine wGD (λh=>?_) (λh=>?_)
 ·have hlt:=lt1 h;have hg:=Fam.getD (f:=ZE) hlt;have hw:=wi1 (i:=i) z8;have hfs:=@xw n.entries s i hlt hno;have htk:=ZT hlt;generalize n.entries.getD i default=e at *;refine wGq ?_ ?_ s6
  ·simp[hg,ZE,hlt]
  cases hb:(e.name==s) with
  | true=>
   rw[hfs hb];refine wDT ?_ (hb:=w8);refine wGT ?_;rfl
  | false=>
   refine wDF ?_ (hb:=w8);refine wG ?_ w4 y7;refine ZB ⟨i+1,⟨by omega,?_⟩,by omega,ZU ?_ ?_ ?_⟩
   ·rw[htk];intro x hx
    rcases List.mem_append.1 hx with hx | hx
    ·exact hno x hx
    ·rw[List.mem_singleton.1 hx];exact hb
   ·simp[go_sem]
   ·simp[go_sem]
   ·simp[go_sem]
 ·obtain rfl:=eq1 hi h;rw[W7] at hno;rw[tI hno];refine wGT ?_;rfl
def cM (l:List Entry) (s:List UInt8):List Entry:=l.filter λe=>!(e.name==s)
def xX (n:Node) (s:List UInt8):Node:={ n with entries:=cM n.entries s }
theorem nJ (n:Node) (s:List UInt8) (hn:n.entries.length<=100000000):Fo 132 [.agg (ZN n),.str s] (.agg (ZN (xX n s))):=by
 have hz:cM (n.entries.take n.entries.length) s=cM n.entries s:=by rw[W7]
 unfold xX ZN;simp only;rw[<-hz];refine wSG func132 ntmps132 results132 λC=>?_
 refine af (le_empty 22 96 2 z7) (wn ?_);refine wL n.entries.length (λi=>(5,.osl 22 2 0 (cM (n.entries.take i) s).length)::(7,.any)::(11,.int .i64 i)::u0 12 12 []) (λi=>[(22,.cells 96 2 ((cM (n.entries.take i) s).map ZE))]) ?_ λi hi=>?_
 ·simp only[go_sem];exact ZU (by simp[go_sem,cM]) (by simp[go_sem,cM]) w3
 simp only[go_sem];refine wGD (λh=>?_) (λh=>?_)
 ·have hlt:=lt1 h;have hg:=Fam.getD (f:=ZE) hlt;have hw:=wi1 (i:=i) z8;have htk:cM (n.entries.take (i+1)) s=if ((n.entries.getD i default).name==s)=true then cM (n.entries.take i) s else cM (n.entries.take i) s++[n.entries.getD i default]:=by
   rw[ZT hlt];unfold cM;rw[List.filter_append,List.filter_cons];cases ((n.entries.getD i default).name==s)<;>simp
  have hll:(cM (n.entries.take i) s).length<=i:=by
   have:=YB (λe:Entry=>!(e.name==s)) (n.entries.take i);unfold cM;simp only[YF] at this;omega
  generalize n.entries.getD i default=e at *;refine wGq ?_ ?_ s6
  ·simp[hg,ZE,hlt]
  cases hb:(e.name==s) with
  | true=>
   rw[hb,if_pos rfl] at htk;refine wDF ?_ (hb:=w8);refine wG ?_ w4 y7;exact ZB ⟨i+1,by omega,by omega,ZU j7 j7 w3⟩
  | false=>
   rw[hb,if_neg Bool.false_ne_true] at htk;refine wDT ?_ (hb:=w8);refine wGq ?_ ?_ w4
   ·simp[rowsOf];omega
   exact ZB ⟨i+1,by omega,by omega,ZU j7 (by simp[go_sem,htk,ZE]) w3⟩
 ·obtain rfl:=eq1 hi h;refine wG ?_;refine ZZ 22 rfl (dx _) (wn ?_);refine wT ?_;simp
end La
namespace La
open Go Go.Eng
theorem CK {α:Type} {a b:List (Int×α)} (ha:dQ a) (hb:dQ b) (h:∀k,bl a k=bl b k):a=b:=
 nh ha hb λp=>by
  obtain ⟨k,x⟩:=p;constructor
  ·intro hp;exact df (by rw[<-h];exact bS ha hp)
  ·intro hp;exact df (by rw[h];exact bS hb hp)
theorem DZ {α:Type} {m:List (Int×α)} (h:dQ m) (f k:Int):bl (eu m f) k=if k=f then none else bl m k:=by
 have hd:dQ (eu m f):=jl h;have hm:∀x,(k,x)∈eu m f↔(k,x)∈m/\k≠f:=λx=>by
  unfold eu;rw[YL];simp
 by_cases e:k=f
 ·rw[if_pos e];cases e1:bl (eu m f) k with
  | none=>rfl
  | some x=>exact absurd e ((hm x).1 (df e1)).2
 ·rw[if_neg e];cases e1:bl m k with
  | none=>
   cases e2:bl (eu m f) k with
   | none=>rfl
   | some x=>
    have:=bS h ((hm x).1 (df e2)).1;rw[e1] at this;cases this
  | some x=>exact bS hd ((hm x).2 ⟨df e1,e⟩)
theorem gg {l:List Node} (h:Up l) (n:Node):aV (bI l) n.fid n=bI (aJ l n):=
 CK (cn (bA l)) (bA _) λk=>by
  rw[kN (bA l),cc h,cc (bq h n).1,qp h]
theorem Gc {l:List Node} (h:Up l) (f:Int):eu (bI l) f=bI (eM l f):=
 CK (jl (bA l)) (bA _) λk=>by
  rw[DZ (bA l),cc h,cc (il h f).1,Bg h]
theorem sH {l:List Node} (h:Up l):bI l=l.map λn=>(n.fid,n):=by
 refine nh (bA l) ?_ λp=>?_
 ·exact List.pairwise_map.2 h
 ·obtain ⟨k,x⟩:=p;rw[W8];constructor
  ·intro hp;have:=bS (bA l) hp;rw[cc h] at this;obtain ⟨h1,h2⟩:=(ZO h).1 this;exact ⟨x,h1,by rw[h2]⟩
  ·rintro ⟨n,hn,e⟩;injection e with e1 e2
   subst e1 e2;exact df (by rw[cc h];exact (ZO h).2 ⟨hn,rfl⟩)
theorem mS {l:List Node} (h:Up l):(bI l).length=l.length:=by rw[sH h,List.length_map]
theorem eh {n:Node} (h:EUp n.entries) (s:List UInt8):sP n.entries s=match ba n s with | some f=>.tup [.int .i64 f,.bool true] | none=>.tup [.int .i64 0,.bool false]:=by
 unfold sP;cases e:pJ n.entries s with
 | none=>
  have:ba n s=none:=(yT h).2 λx hx hn=>by
   have:=List.find?_eq_none.1 e x hx;simp[hn] at this
  rw[this]
 | some x=>
  have hx:x∈n.entries:=List.mem_of_find?_eq_some e;have hs:x.name=s:=by have:=List.find?_some e;simpa using this
  have:ba n s=some x.fid:=(YE h).2 (by rw[<-hs];exact hx);rw[this]
def mz (s:List UInt8) (f:Int) (q:Bool×List Entry) (e:Entry):Bool×List Entry:=if (!q.1&&Op.bytesLess s e.name)=true then (true,q.2++[⟨s,f⟩]++[e]) else (q.1,q.2++[e])
def kl (s:List UInt8) (f:Int) (l:List Entry):Bool×List Entry:=l.foldl (mz s f) (false,[])
def sM (l:List Entry) (s:List UInt8) (f:Int):List Entry:=if (kl s f (cM l s)).1=true then (kl s f (cM l s)).2 else (kl s f (cM l s)).2++[⟨s,f⟩]
def sO (n:Node) (s:List UInt8) (f:Int):Node:={ n with entries:=sM n.entries s f }
theorem yP (s:List UInt8) (f:Int) (l:List Entry):(kl s f l).2.length<=2*l.length:=by
 have:∀(l:List Entry) (q:Bool×List Entry),(l.foldl (mz s f) q).2.length<=q.2.length+2*l.length:=λl=>by
  induction l with
  | nil=>intro q;simp
  | cons e r ih=>
   intro q;have h1:=ih (mz s f q e);have h2:(mz s f q e).2.length<=q.2.length+2:=by unfold mz;split<;>simp
   rw[List.foldl_cons,List.length_cons];omega
 have:=this l (false,[]);simpa[kl] using this
theorem Dr (s:List UInt8) (f:Int) (l:List Entry) (e:Entry):kl s f (l++[e])=mz s f (kl s f l) e:=by unfold kl;rw[List.foldl_append];rfl
theorem yO (s:List UInt8) (f:Int):∀(l:List Entry) (b:Bool) (q:List Entry),(∀e,e∈l->e.name<s)->l.foldl (mz s f) (b,q)=(b,q++l)
 | [],b,q,_=>by simp
 | e::r,b,q,h=>by
  have h1:=h e List.mem_cons_self;have h2:Op.bytesLess s e.name=false:=by
   rw[eR];exact decide_eq_false λh3=>sj _ (uG h1 h3)
  rw[List.foldl_cons,show mz s f (b,q) e=(b,q++[e]) from by simp[mz,h2],yO s f r b _ λx hx=>h x (List.mem_cons_of_mem _ hx)];simp
theorem vJ (s:List UInt8) (f:Int):∀(l:List Entry) (q:List Entry),l.foldl (mz s f) (true,q)=(true,q++l)
 | [],q=>by simp
 | e::r,q=>by
  rw[List.foldl_cons,show mz s f (true,q) e=(true,q++[e]) from by simp[mz],vJ s f r];simp
theorem xW {l:List Entry} (h:EUp l) {s:List UInt8} (hs:isE l s=false) (f:Int):sM l s f=bD l s f:=by
 obtain ⟨h1,h2⟩:=h.parts hs;have hlv:cM l s=l:=by
  unfold cM;refine Ye.2 λe he=>?_
  have:e.name≠s:=λhn=>by
   have:=(pr h s).2 ⟨e,he,hn⟩;rw[hs] at this;cases this
  simpa using this
 unfold sM;rw[hlv];unfold bD;rw[hs,if_neg (show ¬(false=true) by simp)];have hl:kl s f l=(l.drop (aM l s)).foldl (mz s f) (false,l.take (aM l s)):=by
  unfold kl
  conv=>lhs;rw[<-List.take_append_drop (aM l s) l]
  rw[List.foldl_append,yO s f _ false [] h1];simp
 rw[hl];generalize hd:l.drop (aM l s)=d at h2 ⊢;cases d with
 | nil=>simp
 | cons e r=>
  have h3:Op.bytesLess s e.name=true:=by rw[eR];exact decide_eq_true (h2 e List.mem_cons_self)
  rw[List.foldl_cons,show mz s f (false,l.take (aM l s)) e=(true,l.take (aM l s)++[⟨s,f⟩]++[e]) from by simp[mz,h3],vJ];simp
theorem gi {n:Node} (h:EUp n.entries) {s:List UInt8} (hs:isE n.entries s=false) (f:Int):sO n s f=aB n s f:=by
 unfold sO aB;rw[xW h hs]
open Classical in
noncomputable def bG (l:List Node) (a:Act):Int:=if bF l a=0 then (if eH l a.to=0 then (if bX (toN l a) a.toName=0 then (if bf l a.fid=true then (if decide (MReach (bI l) a.fid a.to)=true then 11 else 0) else 12) else bX (toN l a) a.toName) else eH l a.to) else bF l a
noncomputable def gj (l:List Node) (a:Act) (v:Int):List Node:=if bG l a=0 then aJ (if a.to=a.dir then l else aJ l { aE (ar l a.dir) a.name with version:=v }) { aB (toN l a) a.toName a.fid with version:=v } else l
noncomputable def aC (l:List Node) (a:Act):Int:=if a.kind=1 then cV l a else if a.kind=2 then cV l a else if a.kind=3 then e_ l a else if a.kind=4 then cN l a else if a.kind=5 then bG l a else 1
noncomputable def cv (l:List Node) (a:Act) (v:Int):List Node:=if a.kind=1 then dU l a v else if a.kind=2 then dU l a v else if a.kind=3 then ez l a v else if a.kind=4 then cO l a v else if a.kind=5 then gj l a v else l
noncomputable def xV (l:List Node) (a:Act) (v:Int):AV:=if aC l a=0 then .tup [.rm (mN (bI (cv l a v))),.int .i64 0] else .tup [.nilm,.int .i64 (aC l a)]
structure Ri (l:List Node):Prop where
 up:Up l
 eup:∀n,n∈l->EUp n.entries
theorem Ri.find {l:List Node} (h:Ri l) (k:Int):EUp (ar l k).entries:=by
 unfold ar;cases e:ak l k with
 | none=>exact List.Pairwise.nil
 | some n=>exact h.eup n ((ZO h.up).1 e).1
theorem Ri.put {l:List Node} (h:Ri l) {n:Node} (hn:EUp n.entries):Ri (aJ l n):=
 ⟨(bq h.up n).1,λm hm=>by
  rcases fW hm with rfl | hm
  ·exact hn
  ·exact h.eup m hm⟩
theorem Ri.drop {l:List Node} (h:Ri l) (f:Int):Ri (eM l f):=⟨(il h.up f).1,λm hm=>h.eup m (((il h.up f).2 m).1 hm).1⟩
theorem Ri.to {l:List Node} (h:Ri l) (a:Act):EUp (toN l a).entries:=by
 unfold toN;split
 ·exact kK (h.find _) _
 ·exact h.find _
theorem Ri.apply {l:List Node} (h:Ri l) (a:Act) (v:Int):Ri (cv l a v):=by
 have hmk:Ri (dU l a v):=by
  unfold dU;split
  ·rename_i he;unfold cV at he;split at he
   ·split at he
    ·rename_i hr;refine (h.put ?_).put List.Pairwise.nil;exact (kC (h.find _) (dz hr).2 _).1
    ·rename_i hr;exact absurd he hr
   ·rename_i hr;exact absurd he hr
  ·exact h
 unfold cv;split
 ·exact hmk
 ·split
  ·exact hmk
  ·split
   ·unfold ez;split
    ·exact h.put (h.find _)
    ·exact h
   ·split
    ·unfold cO;split
     ·exact (h.put (kK (h.find _) _)).drop _
     ·exact h
    ·split
     ·unfold gj;split
      ·rename_i he;have hr:bX (toN l a) a.toName=0:=by
        unfold bG at he;split at he
        ·split at he
         ·split at he
          ·assumption
          ·rename_i hr;exact absurd he hr
         ·rename_i hr;exact absurd he hr
        ·rename_i hr;exact absurd he hr
       refine Ri.put ?_ (kC (h.to a) (dz hr).2 _).1;split
       ·exact h
       ·exact h.put (kK (h.find _) _)
      ·exact h
     ·exact h
end La
