/- Texts of this claim, part 14: PWhole, PWh2, Worst, Del, Keep, Srt, PSort, PKeep, PCli, RTree. No condition. -/
import Derived.Test.YtmcfbfdonjllaaaGreatDoorYW13
set_option maxRecDepth 10000
set_option maxHeartbeats 4000000
set_option linter.unusedSimpArgs false
set_option linter.unusedVariables false
namespace La
open Go Go.Eng
def Edge (l:List Node) (d:Int) (s:List UInt8) (f:Int):Prop:=∃n,n∈l/\n.fid=d/\(⟨s,f⟩:Entry)∈n.entries
def fb (l:List Node) (f:Int):Prop:=∃n,n∈l/\n.fid=f
structure Loc (n:Node):Prop where
 eup:EUp n.entries
 file:n.dir=false->n.entries=[]
 dirD:n.dir=true->n.data=[]
structure Wh (l:List Node):Prop where
 bV:Good l
 loc:∀n,n∈l->Loc n
 name:∀d s f,Edge l d s f->de s=true
 there:∀d s f,Edge l d s f->fb l f
 noroot:∀d s f,Edge l d s f->f≠0
 par:∀f,fb l f->f≠0->∃d s,Edge l d s f
 one:∀d s d' s' f,Edge l d s f->Edge l d' s' f->d=d'/\s=s'
 root:∃n,n∈l/\n.fid=0/\n.dir=true
theorem np {l:List Node} (h:Up l) {a b:Node} (ha:a∈l) (hb:b∈l) (hf:a.fid=b.fid):a=b:=by
 have h1:=(ZO h).2 ⟨ha,rfl⟩;have h2:=(ZO h).2 ⟨hb,hf.symm⟩;rw[h1] at h2;injection h2
theorem mP {l:List Node} (h:Up l) {n:Node} (hn:n∈l) {s:List UInt8} {f:Int}:Edge l n.fid s f↔(⟨s,f⟩:Entry)∈n.entries:=
 ⟨λ⟨m,hm,hf,he⟩=>by rw[np h hm hn hf] at he;exact he,λhe=>⟨n,hn,rfl,he⟩⟩
theorem lQ {l:List Node} (h:Up l) (n:Node) {d:Int} {s:List UInt8} {f:Int}:Edge (aT l n) d s f↔(d=n.fid/\(⟨s,f⟩:Entry)∈n.entries)\/(d≠n.fid/\Edge l d s f):=by
 obtain ⟨_,h2⟩:=aD h n;constructor
 ·rintro ⟨m,hm,rfl,he⟩
  rcases (h2 m).1 hm with rfl | ⟨hm,hne⟩
  ·exact .inl ⟨rfl,he⟩
  ·exact .inr ⟨hne,m,hm,rfl,he⟩
 ·rintro (⟨rfl,he⟩ | ⟨hne,m,hm,rfl,he⟩)
  ·exact ⟨n,(h2 n).2 (.inl rfl),rfl,he⟩
  ·exact ⟨m,(h2 m).2 (.inr ⟨hm,hne⟩),rfl,he⟩
theorem mQ {l:List Node} (h:Up l) (n:Node) {f:Int}:fb (aT l n) f↔f=n.fid\/fb l f:=by
 obtain ⟨_,h2⟩:=aD h n;constructor
 ·rintro ⟨m,hm,rfl⟩
  rcases (h2 m).1 hm with rfl | ⟨hm,hne⟩
  ·exact .inl rfl
  ·exact .inr ⟨m,hm,rfl⟩
 ·rintro (rfl | ⟨m,hm,rfl⟩)
  ·exact ⟨n,(h2 n).2 (.inl rfl),rfl⟩
  ·by_cases hne:m.fid=n.fid
   ·exact ⟨n,(h2 n).2 (.inl rfl),hne.symm⟩
   ·exact ⟨m,(h2 m).2 (.inr ⟨hm,hne⟩),rfl⟩
theorem BB {l:List Node} (k:Int) {d:Int} {s:List UInt8} {f:Int}:Edge (dN l k) d s f↔Edge l d s f/\d≠k:=by
 constructor
 ·rintro ⟨m,hm,rfl,he⟩;have:=WE.1 hm;exact ⟨⟨m,this.1,rfl,he⟩,by simpa using this.2⟩
 ·rintro ⟨⟨m,hm,rfl,he⟩,hk⟩;exact ⟨m,WE.2 ⟨hm,by simpa using hk⟩,rfl,he⟩
theorem DI {l:List Node} (k:Int) {f:Int}:fb (dN l k) f↔fb l f/\f≠k:=by
 constructor
 ·rintro ⟨m,hm,rfl⟩;have:=WE.1 hm;exact ⟨⟨m,this.1,rfl⟩,by simpa using this.2⟩
 ·rintro ⟨⟨m,hm,rfl⟩,hk⟩;exact ⟨m,WE.2 ⟨hm,by simpa using hk⟩,rfl⟩
theorem ug {l:List Entry} (h:EUp l) {s0:List UInt8} (hs:isE l s0=false) (f0:Int) {s:List UInt8} {f:Int}:(⟨s,f⟩:Entry)∈aW l s0 f0↔(s=s0/\f=f0)\/(⟨s,f⟩:Entry)∈l:=by
 rw[(c_ h hs f0).2.1];simp
theorem kj {l:List Entry} {s0 s:List UInt8} {f:Int}:(⟨s,f⟩:Entry)∈aX l s0↔(⟨s,f⟩:Entry)∈l/\s≠s0:=by
 unfold aX;rw[WE];simp
theorem eM {l:List Entry} (h:EUp l) (s:List UInt8):EUp (aX l s):=h.sublist Wz
theorem gN {n:Node} {s:List UInt8} (h:cZ n s=0):de s=true/\isE n.entries s=false:=by
 unfold cZ at h;split at h
 ·rename_i h1;split at h
  ·omega
  ·rename_i h2;exact ⟨h1,by simpa using h2⟩
 ·omega
theorem Ee {l:List Node} {k:Int} (hu:Up l) (h:bz l k=false):¬fb l k:=by
 rintro ⟨m,hm,rfl⟩;have:=(ZO hu).2 ⟨hm,rfl⟩;rw[kN this] at h;cases h
theorem Bn {l:List Node} (h:Wh l) (a:Act) (v:Int) (he:cC l a=0):Wh (bE l a v):=by
 have hg:=pQ h.bV a v he;have hu:=h.bV.up;have hL:bE l a v=aT (aT l { bb (bd l a.dir) a.name a.fid with version:=v }) (dT a v):=by unfold bE;rw[if_pos he]
 unfold cC at he;split at he
 case isFalse hd=>exact absurd he hd
 rename_i hd;obtain ⟨n,hf,hgn,hdir⟩:=iG hd;rw[hgn] at he hL;obtain ⟨hn,hnk⟩:=(ZO hu).1 hf;split at he
 case isFalse hr=>exact absurd he hr
 rename_i hro;obtain ⟨hnm,hfree⟩:=gN hro;split at he
 ·omega
 rename_i hnew;have hno:bz l a.fid=false/\a.fid≠0:=by simpa using hnew
 have hnin:=Ee hu hno.1;have hl:=h.loc n hn;have hu1:=(aD hu { bb n a.name a.fid with version:=v }).1;have hnf:n.fid≠a.fid:=λe=>hnin ⟨n,hn,e⟩
 rw[hL] at hg ⊢;have hE:∀d s f,Edge (aT (aT l { bb n a.name a.fid with version:=v }) (dT a v)) d s f↔Edge l d s f\/(d=n.fid/\s=a.name/\f=a.fid):=λd s f=>by
  rw[lQ hu1,lQ hu]
  show (d=a.fid/\(⟨s,f⟩:Entry)∈[])\/(d≠a.fid/\((d=n.fid/\(⟨s,f⟩:Entry)∈aW n.entries a.name a.fid)\/(d≠n.fid/\Edge l d s f)))↔_
  rw[ug hl.eup hfree];constructor
  ·rintro (⟨_,h0⟩ | ⟨h1,⟨rfl,h2 | h2⟩ | ⟨h2,h3⟩⟩)
   ·cases h0
   ·exact .inr ⟨rfl,h2⟩
   ·exact .inl ⟨n,hn,rfl,h2⟩
   ·exact .inl h3
  ·rintro (h1 | ⟨rfl,rfl,rfl⟩)
   ·refine .inr ⟨λe=>?_,?_⟩
    ·obtain ⟨m,hm,hmf,_⟩:=h1;exact hnin ⟨m,hm,hmf.trans e⟩
    ·by_cases hd:d=n.fid
     ·subst hd;exact .inl ⟨rfl,.inr ((mP hu hn).1 h1)⟩
     ·exact .inr ⟨hd,h1⟩
   ·exact .inr ⟨hnf,.inl ⟨rfl,.inl ⟨rfl,rfl⟩⟩⟩
 have hF:∀f,fb (aT (aT l { bb n a.name a.fid with version:=v }) (dT a v)) f↔f=a.fid\/fb l f:=λf=>by
  rw[mQ hu1,mQ hu]
  show f=a.fid\/f=n.fid\/fb l f↔_
  constructor
  ·rintro (h | rfl | h)
   ·exact .inl h
   ·exact .inr ⟨n,hn,rfl⟩
   ·exact .inr h
  ·rintro (h | h)
   ·exact .inl h
   ·exact .inr (.inr h)
 refine ⟨hg,λx hx=>?_,λd s f hd=>?_,λd s f hd=>?_,λd s f hd=>?_,λf hf h0=>?_,λd s d' s' f h1 h2=>?_,?_⟩
 ·rcases fO hx with rfl | hx
  ·exact ⟨by unfold EUp;simp[dT],λ_=>rfl,λ_=>rfl⟩
  ·rcases fO hx with rfl | hx
   ·exact ⟨(c_ hl.eup hfree a.fid).1,λh0=>(by
     have h0:n.dir=false:=h0;rw[hdir] at h0;cases h0),hl.dirD⟩
   ·exact h.loc x hx
 ·rcases (hE d s f).1 hd with h1 | ⟨_,rfl,_⟩
  ·exact h.name d s f h1
  ·exact hnm
 ·rcases (hE d s f).1 hd with h1 | ⟨_,_,rfl⟩
  ·exact (hF f).2 (.inr (h.there d s f h1))
  ·exact (hF _).2 (.inl rfl)
 ·rcases (hE d s f).1 hd with h1 | ⟨_,_,rfl⟩
  ·exact h.noroot d s f h1
  ·exact hno.2
 ·rcases (hF f).1 hf with rfl | hf
  ·exact ⟨n.fid,a.name,(hE _ _ _).2 (.inr ⟨rfl,rfl,rfl⟩)⟩
  ·obtain ⟨d,s,h1⟩:=h.par f hf h0;exact ⟨d,s,(hE _ _ _).2 (.inl h1)⟩
 ·rcases (hE d s f).1 h1 with h1 | ⟨rfl,rfl,rfl⟩
  ·rcases (hE d' s' f).1 h2 with h2 | ⟨rfl,rfl,rfl⟩
   ·exact h.one d s d' s' f h1 h2
   ·exact absurd (h.there _ _ _ h1) hnin
  ·rcases (hE d' s' _).1 h2 with h2 | ⟨rfl,rfl,_⟩
   ·exact absurd (h.there _ _ _ h2) hnin
   ·exact ⟨rfl,rfl⟩
 ·obtain ⟨m,hm,hm0,hmd⟩:=h.root;have hmem:∀x,x∈aT l { bb n a.name a.fid with version:=v }->x.fid≠a.fid->x∈aT (aT l { bb n a.name a.fid with version:=v }) (dT a v):=λx hx hne=>((aD hu1 (dT a v)).2 x).2 (.inr ⟨hx,hne⟩)
  by_cases hmn:m.fid=n.fid
  ·refine ⟨{ bb n a.name a.fid with version:=v },hmem _ (((aD hu _).2 _).2 (.inl rfl)) hnf,hmn.symm.trans hm0,hdir⟩
  ·exact ⟨m,hmem _ (((aD hu _).2 _).2 (.inr ⟨hm,hmn⟩)) (by rw[hm0];exact λe=>hno.2 e.symm),hm0,hmd⟩
theorem E8 {l:List Node} (h:Wh l) (a:Act) (v:Int) (he:cr l a=0):Wh (bM l a v):=by
 have hg:=sh h.bV a v he;have hu:=h.bV.up;have hL:bM l a v=aT l { bd l a.fid with data:=a.data,version:=v }:=by unfold bM;rw[if_pos he]
 unfold cr at he;cases hf:af l a.fid with
 | none=>rw[hf] at he;simp at he
 | some n=>
  rw[hf] at he;simp only at he;obtain ⟨hn,hnk⟩:=(ZO hu).1 hf;have hgn:bd l a.fid=n:=by unfold bd;rw[hf];rfl
  rw[hgn] at hL;split at he
  ·omega
  rename_i hdir;rw[hL] at hg ⊢;have hE:∀d s f,Edge (aT l { n with data:=a.data,version:=v }) d s f↔Edge l d s f:=λd s f=>by
   rw[lQ hu]
   show (d=n.fid/\(⟨s,f⟩:Entry)∈n.entries)\/(d≠n.fid/\Edge l d s f)↔_
   constructor
   ·rintro (⟨rfl,h1⟩ | ⟨_,h1⟩)
    ·exact ⟨n,hn,rfl,h1⟩
    ·exact h1
   ·intro h1
    by_cases hd:d=n.fid
    ·subst hd;exact .inl ⟨rfl,(mP hu hn).1 h1⟩
    ·exact .inr ⟨hd,h1⟩
  have hF:∀f,fb (aT l { n with data:=a.data,version:=v }) f↔fb l f:=λf=>by
   rw[mQ hu]
   show f=n.fid\/fb l f↔_
   constructor
   ·rintro (rfl | h)
    ·exact ⟨n,hn,rfl⟩
    ·exact h
   ·exact .inr
  refine ⟨hg,λx hx=>?_,λd s f hd=>h.name d s f ((hE _ _ _).1 hd),λd s f hd=>(hF _).2 (h.there d s f ((hE _ _ _).1 hd)),λd s f hd=>h.noroot d s f ((hE _ _ _).1 hd),λf hf h0=>?_,λd s d' s' f h1 h2=>h.one d s d' s' f ((hE _ _ _).1 h1) ((hE _ _ _).1 h2),?_⟩
  ·rcases fO hx with rfl | hx
   ·have hl:=h.loc n hn;exact ⟨hl.eup,hl.file,λh0=>absurd h0 hdir⟩
   ·exact h.loc x hx
  ·obtain ⟨d,s,h1⟩:=h.par f ((hF f).1 hf) h0;exact ⟨d,s,(hE _ _ _).2 h1⟩
  ·obtain ⟨m,hm,hm0,hmd⟩:=h.root;refine ⟨m,((aD hu _).2 m).2 (.inr ⟨hm,λe=>?_⟩),hm0,hmd⟩;have:m=n:=np hu hm hn e;subst this;exact hdir hmd
theorem sF {l:List Node} (h:Wh l) {a:Act} (he:df l a=0):∃n,af l a.dir=some n/\bd l a.dir=n/\n∈l/\n.fid=a.dir/\n.dir=true/\Edge l a.dir a.name a.fid:=by
 unfold df at he;split at he
 case isFalse hd=>exact absurd he hd
 rename_i hd;obtain ⟨n,hf,hgn,hdir⟩:=iG hd;obtain ⟨hn,hnk⟩:=(ZO h.bV.up).1 hf;rw[hgn] at he;cases e:ay n a.name with
 | none=>rw[e] at he;simp at he
 | some f=>
  rw[e] at he;simp only at he;split at he
  case isFalse hd=>omega
  rename_i hff;subst hff;exact ⟨n,hf,hgn,hn,hnk,hdir,n,hn,hnk,(YE (h.loc n hn).eup).1 e⟩
theorem uf {l:List Node} (hu:Up l) {n:Node} (hn:n∈l) (s0:List UInt8) (v:Int) {d:Int} {s:List UInt8} {f:Int}:Edge (aT l { aE n s0 with version:=v }) d s f↔Edge l d s f/\¬(d=n.fid/\s=s0):=by
 rw[lQ hu]
 show (d=n.fid/\(⟨s,f⟩:Entry)∈aX n.entries s0)\/(d≠n.fid/\Edge l d s f)↔_
 rw[kj];constructor
 ·rintro (⟨rfl,h1,h2⟩ | ⟨h1,h2⟩)
  ·exact ⟨⟨n,hn,rfl,h1⟩,λh=>h2 h.2⟩
  ·exact ⟨h2,λh=>h1 h.1⟩
 ·rintro ⟨h1,h2⟩
  by_cases hd:d=n.fid
  ·subst hd;exact .inl ⟨rfl,(mP hu hn).1 h1,λe=>h2 ⟨rfl,e⟩⟩
  ·exact .inr ⟨hd,h1⟩
theorem CW {l:List Node} (h:Wh l) (a:Act) (v:Int) (he:cv l a=0):Wh (bX l a v):=by
 have hg:=qz h.bV a v he;have hu:=h.bV.up;have hL:bX l a v=dN (aT l { aE (bd l a.dir) a.name with version:=v }) a.fid:=by unfold bX;rw[if_pos he]
 unfold cv at he;split at he
 case isFalse hd=>exact absurd he hd
 rename_i hnd;obtain ⟨n,hf,hgn,hn,hnk,hdir,hed⟩:=sF h hnd;rw[hgn] at hL;cases hx:af l a.fid with
 | none=>rw[hx] at he;simp at he
 | some x=>
  rw[hx] at he;simp only at he;obtain ⟨hxm,hxf⟩:=(ZO hu).1 hx;have hxe:x.entries=[]:=by
   cases e:x.entries with
   | nil=>rfl
   | cons p q=>rw[e] at he;simp at he
  rw[hL] at hg ⊢;have hnoE:∀s f,¬Edge l a.fid s f:=λs f h1=>by
   rw[←hxf] at h1;have:=(mP hu hxm).1 h1;rw[hxe] at this;cases this
  have hE:∀d s f,Edge (dN (aT l { aE n a.name with version:=v }) a.fid) d s f↔Edge l d s f/\¬(d=a.dir/\s=a.name):=λd s f=>by
   rw[BB,uf hu hn,hnk];constructor
   ·exact λh=>h.1
   ·exact λh=>⟨h,λe=>by subst e;exact hnoE s f h.1⟩
  have hF:∀f,fb (dN (aT l { aE n a.name with version:=v }) a.fid) f↔fb l f/\f≠a.fid:=λf=>by
   rw[DI,mQ hu]
   show (f=n.fid\/fb l f)/\f≠a.fid↔_
   constructor
   ·rintro ⟨rfl | h,h1⟩
    ·exact ⟨⟨n,hn,rfl⟩,h1⟩
    ·exact ⟨h,h1⟩
   ·rintro ⟨h,h1⟩;exact ⟨.inr h,h1⟩
  have hup1:=(aD hu { aE n a.name with version:=v });refine ⟨hg,λx hx=>?_,λd s f hd=>h.name d s f ((hE _ _ _).1 hd).1,λd s f hd=>(hF _).2 ⟨h.there d s f ((hE _ _ _).1 hd).1,λe=>?_⟩,λd s f hd=>h.noroot d s f ((hE _ _ _).1 hd).1,λf hf h0=>?_,λd s d' s' f h1 h2=>h.one d s d' s' f ((hE _ _ _).1 h1).1 ((hE _ _ _).1 h2).1,?_⟩
  ·rcases fO (WE.1 hx).1 with rfl | hx
   ·have hl:=h.loc n hn;exact ⟨eM hl.eup _,λh0=>by
     show aX n.entries a.name=[]
     rw[hl.file h0];rfl,hl.dirD⟩
   ·exact h.loc x hx
  ·subst e;obtain ⟨h1,h2⟩:=(hE _ _ _).1 hd;exact h2 (h.one _ _ _ _ _ h1 hed)
  ·obtain ⟨h1,h2⟩:=(hF f).1 hf;obtain ⟨d,s,h3⟩:=h.par f h1 h0;refine ⟨d,s,(hE _ _ _).2 ⟨h3,λe=>?_⟩⟩;obtain ⟨rfl,rfl⟩:=e;obtain ⟨m,hm,hmf,hme⟩:=hed;obtain ⟨m',hm',hmf',hme'⟩:=h3;have:m=m':=np hu hm hm' (hmf.trans hmf'.symm);subst this;have:=(h.loc m hm).eup.same hme hme' rfl;injection this with _ h5
   exact h2 h5.symm
  ·obtain ⟨m,hm,hm0,hmd⟩:=h.root;have h0:(0:Int)≠a.fid:=λe=>h.noroot _ _ _ hed e.symm
   by_cases hmn:m.fid=n.fid
   ·exact ⟨{ aE n a.name with version:=v },WE.2 ⟨(hup1.2 _).2 (.inl rfl),by
     show (!(n.fid==a.fid))=true
     rw[←hmn,hm0];simpa using h0⟩,hmn.symm.trans hm0,hdir⟩
   ·exact ⟨m,WE.2 ⟨(hup1.2 _).2 (.inr ⟨hm,hmn⟩),by rw[hm0];simpa using h0⟩,hm0,hmd⟩
theorem CX {l:List Node} (h:Wh l) (a:Act) (v:Int) (he:dB l a=0):Wh (dn l a v):=by
 have hg:=qC h.bV a v he;have hu:=h.bV.up;have hL:dn l a v=aT (if a.to=a.dir then l else aT l { aE (bd l a.dir) a.name with version:=v }) { bb (toN l a) a.toName a.fid with version:=v }:=by unfold dn;rw[if_pos he]
 unfold dB at he;split at he
 case isFalse hd=>exact absurd he hd
 rename_i hnd;obtain ⟨n,hf,hgn,hn,hnk,hdir,hed⟩:=sF h hnd;split at he
 case isFalse hd=>exact absurd he hd
 rename_i hdt;obtain ⟨t,htf,htg,htdir⟩:=iG hdt;obtain ⟨htm,htk⟩:=(ZO hu).1 htf;split at he
 case isFalse hd=>exact absurd he hd
 rename_i hro;obtain ⟨hnm,hfree⟩:=gN hro;rw[hgn] at hL;rw[hL] at hg ⊢
 -- the directory that gets the name
 have hT:(toN l a).fid=a.to/\(toN l a).dir=true/\EUp (toN l a).entries/\((toN l a).dir=true->(toN l a).data=[])/\∀s f,(⟨s,f⟩:Entry)∈(toN l a).entries↔Edge l a.to s f/\¬(a.to=a.dir/\s=a.name):=by
  unfold toN;split
  ·rename_i htd;rw[hgn];have hl:=h.loc n hn;refine ⟨hnk.trans htd.symm,hdir,eM hl.eup _,hl.dirD,λs f=>?_⟩
   show (⟨s,f⟩:Entry)∈aX n.entries a.name↔_
   rw[kj,htd,←hnk,mP hu hn];simp
  ·rename_i htd;rw[htg];have hl:=h.loc t htm;refine ⟨htk,htdir,hl.eup,hl.dirD,λs f=>?_⟩;rw[←htk,mP hu htm];constructor
   ·exact λh=>⟨h,λe=>htd (htk.symm.trans e.1)⟩
   ·exact λh=>h.1
 obtain ⟨hTf,hTd,hTe,hTda,hTm⟩:=hT;generalize hl1:(if a.to=a.dir then l else aT l { aE n a.name with version:=v })=l1 at hg ⊢;have hu1:Up l1:=by subst hl1;split;exact hu;exact (aD hu _).1
 have hE1:∀d s f,d≠a.to->(Edge l1 d s f↔Edge l d s f/\¬(d=a.dir/\s=a.name)):=λd s f hd=>by
  subst hl1;split
  ·rename_i htd;exact ⟨λh=>⟨h,λe=>hd (e.1.trans htd.symm)⟩,λh=>h.1⟩
  ·rw[uf hu hn,hnk]
 have hF1:∀f,fb l1 f↔fb l f:=λf=>by
  subst hl1;split
  ·exact Iff.rfl
  ·rw[mQ hu]
   show f=n.fid\/fb l f↔_
   exact ⟨λh=>h.elim (λe=>⟨n,hn,e.symm⟩) id,.inr⟩
 have hE:∀d s f,Edge (aT l1 { bb (toN l a) a.toName a.fid with version:=v }) d s f↔(Edge l d s f/\¬(d=a.dir/\s=a.name))\/(d=a.to/\s=a.toName/\f=a.fid):=λd s f=>by
  rw[lQ hu1]
  show (d=(toN l a).fid/\(⟨s,f⟩:Entry)∈aW (toN l a).entries a.toName a.fid)\/(d≠(toN l a).fid/\Edge l1 d s f)↔_
  rw[ug hTe hfree,hTm,hTf];constructor
  ·rintro (⟨rfl,h1 | h1⟩ | ⟨h1,h2⟩)
   ·exact .inr ⟨rfl,h1⟩
   ·exact .inl h1
   ·exact .inl ((hE1 d s f h1).1 h2)
  ·rintro (h1 | ⟨rfl,h1⟩)
   ·by_cases hd:d=a.to
    ·subst hd;exact .inl ⟨rfl,.inr h1⟩
    ·exact .inr ⟨hd,(hE1 d s f hd).2 h1⟩
   ·exact .inl ⟨rfl,.inl h1⟩
 have hF:∀f,fb (aT l1 { bb (toN l a) a.toName a.fid with version:=v }) f↔fb l f:=λf=>by
  rw[mQ hu1,hF1]
  show f=(toN l a).fid\/fb l f↔_
  rw[hTf];exact ⟨λh=>h.elim (λe=>⟨t,htm,htk.trans e.symm⟩) id,.inr⟩
 have hthere:=h.there _ _ _ hed
 -- who leads to the fid that moves: its old place alone
 have hold:∀d s,Edge l d s a.fid->d=a.dir/\s=a.name:=λd s h1=>h.one _ _ _ _ _ h1 hed
 refine ⟨hg,λx hx=>?_,λd s f hd=>?_,λd s f hd=>?_,λd s f hd=>?_,λf hf h0=>?_,λd s d' s' f h1 h2=>?_,?_⟩
 ·rcases fO hx with rfl | hx
  ·exact ⟨(c_ hTe hfree a.fid).1,λh0=>(by
    have h0:(toN l a).dir=false:=h0;rw[hTd] at h0;cases h0),hTda⟩
  ·subst hl1;split at hx
   ·exact h.loc x hx
   ·rcases fO hx with rfl | hx
    ·have hl:=h.loc n hn;exact ⟨eM hl.eup _,λh0=>by
      show aX n.entries a.name=[]
      rw[hl.file h0];rfl,hl.dirD⟩
    ·exact h.loc x hx
 ·rcases (hE d s f).1 hd with h1 | ⟨_,rfl,_⟩
  ·exact h.name d s f h1.1
  ·exact hnm
 ·rcases (hE d s f).1 hd with h1 | ⟨_,_,rfl⟩
  ·exact (hF f).2 (h.there d s f h1.1)
  ·exact (hF _).2 hthere
 ·rcases (hE d s f).1 hd with h1 | ⟨_,_,rfl⟩
  ·exact h.noroot d s f h1.1
  ·exact h.noroot _ _ _ hed
 ·by_cases hff:f=a.fid
  ·subst hff;exact ⟨a.to,a.toName,(hE _ _ _).2 (.inr ⟨rfl,rfl,rfl⟩)⟩
  ·obtain ⟨d,s,h1⟩:=h.par f ((hF f).1 hf) h0;refine ⟨d,s,(hE _ _ _).2 (.inl ⟨h1,λe=>?_⟩)⟩;obtain ⟨rfl,rfl⟩:=e;obtain ⟨m,hm,hmf,hme⟩:=hed;obtain ⟨m',hm',hmf',hme'⟩:=h1;have:m=m':=np hu hm hm' (hmf.trans hmf'.symm);subst this;have:=(h.loc m hm).eup.same hme hme' rfl;injection this with _ h5
   exact hff h5.symm
 ·rcases (hE d s f).1 h1 with h1 | ⟨rfl,rfl,rfl⟩
  ·rcases (hE d' s' f).1 h2 with h2 | ⟨rfl,rfl,rfl⟩
   ·exact h.one d s d' s' f h1.1 h2.1
   ·exact absurd (hold d s h1.1) h1.2
  ·rcases (hE d' s' _).1 h2 with h2 | ⟨rfl,rfl,_⟩
   ·exact absurd (hold d' s' h2.1) h2.2
   ·exact ⟨rfl,rfl⟩
 ·obtain ⟨m,hm,hm0,hmd⟩:=h.root
  by_cases hmt:m.fid=a.to
  ·exact ⟨_,((aD hu1 _).2 _).2 (.inl rfl),hTf.trans (hmt.symm.trans hm0),hTd⟩
  ·have hml1:∃x,x∈l1/\x.fid=0/\x.dir=true:=by
    subst hl1;split
    ·exact ⟨m,hm,hm0,hmd⟩
    ·by_cases hmn:m.fid=n.fid
     ·exact ⟨{ aE n a.name with version:=v },((aD hu _).2 _).2 (.inl rfl),hmn.symm.trans hm0,hdir⟩
     ·exact ⟨m,((aD hu _).2 _).2 (.inr ⟨hm,hmn⟩),hm0,hmd⟩
   obtain ⟨x,hx,hx0,hxd⟩:=hml1;exact ⟨x,((aD hu1 _).2 _).2 (.inr ⟨hx,by
    show x.fid≠(toN l a).fid
    rw[hTf,hx0,←hm0];exact hmt⟩),hx0,hxd⟩
theorem E6 {l:List Node} (h:Wh l) (a:Act) (v:Int) (he:aB l a=0):Wh (aH l a v):=by
 unfold aB at he;unfold aH;split at he
 ·rename_i h1;rw[if_pos h1];exact Bn h a v he
 ·rename_i h1;rw[if_neg h1];split at he
  ·rename_i h2;rw[if_pos h2];exact Bn h a v he
  ·rename_i h2;rw[if_neg h2];split at he
   ·rename_i h3;rw[if_pos h3];exact E8 h a v he
   ·rename_i h3;rw[if_neg h3];split at he
    ·rename_i h4;rw[if_pos h4];exact CW h a v he
    ·rename_i h4;rw[if_neg h4];split at he
     ·rename_i h5;rw[if_pos h5];exact CX h a v he
     ·omega
theorem Ih:Wh [aA]:=by
 have hE:∀d s f,¬Edge [aA] d s f:=λd s f ⟨n,hn,_,he⟩=>by rw[List.mem_singleton.1 hn] at he;cases he
 exact ⟨uo,λn hn=>by rw[List.mem_singleton.1 hn];exact ⟨by unfold EUp;simp[aA],λ_=>rfl,λ_=>rfl⟩,λd s f h=>absurd h (hE d s f),λd s f h=>absurd h (hE d s f),λd s f h=>absurd h (hE d s f),
  λf ⟨n,hn,hf⟩ h0=>by rw[List.mem_singleton.1 hn] at hf;exact absurd hf.symm h0,λd s d' s' f h=>absurd h (hE d s f),⟨aA,List.mem_singleton.2 rfl,rfl,rfl⟩⟩
theorem Hist.whole {p:List Past} {t:List Node} (h:Hist p t):Wh t:=by
 induction h with
 | nil=>exact Ih
 | snoc c a h ha he ih=>exact E6 ih _ _ he
def mf (l:List Node):Nat->List (Int×Node)
 | 0=>[]
 | i+1=>eh (mf l i) (ik l i) (l.getD i default)
def f_ (l:List Node):List (Int×Node):=mf l l.length
theorem xT (l:List Node):∀i,qH l i=mN (mf l i)
 | 0=>rfl
 | i+1=>by
  have ih:=xT l i
  show eh (qH l i) (ik l i) _=_
  rw[ih,Je];rfl
theorem A4 (l:List Node):GK l=mN (f_ l):=xT l l.length
theorem B3 (l:List Node):lA (f_ l):=by
 have:∀i,lA (mf l i):=λi=>by
  induction i with
  | zero=>exact List.Pairwise.nil
  | succ i ih=>exact eC ih
 exact this _
theorem gf {l:List Node} (h:Up l) (k:Int):cQ (f_ l) k=af l k:=by
 have h1:=D9 h k;rw[A4,D8] at h1;cases e:cQ (f_ l) k with
 | none=>
  rw[e] at h1;cases e2:af l k with
  | none=>rfl
  | some n=>rw[e2] at h1;cases h1
 | some m=>
  rw[e] at h1;cases e2:af l k with
  | none=>rw[e2] at h1;cases h1
  | some n=>
   rw[e2] at h1;simp only[Option.map_some,Option.some.injEq,AV.agg.injEq] at h1
   -- the same nodes, as both come from the list
   have hm:∀i,i≤l.length->∀p,p∈mf l i->p.2∈l/\p.2.fid=p.1:=λi=>by
    induction i with
    | zero=>intro _ p hp;cases hp
    | succ i ih=>
     intro hi p hp;have hr:lA (mf l i):=by
      have:∀j,lA (mf l j):=λj=>by
       induction j with
       | zero=>exact List.Pairwise.nil
       | succ j ihj=>exact eC ihj
      exact this i
     rcases (cT hr p.1 p.2).1 hp with ⟨h1,h2⟩ | ⟨_,h2⟩
     ·rw[h1,h2];exact ⟨YG z7,rfl⟩
     ·exact ih z7 p h2
   obtain ⟨q1,q2⟩:=hm _ (WC _) _ (jb e);rw[←e2];exact ((ZO h).2 ⟨q1,q2⟩).symm
theorem kR (l:List Node):∀i,lA (mf l i)
 | 0=>List.Pairwise.nil
 | i+1=>eC (kR l i)
theorem uB (l:List Node):∀i,i≤l.length->∀p,p∈mf l i->p.2∈l
 | 0,_,p,hp=>by cases hp
 | i+1,hi,p,hp=>by
  rcases (cT (kR l i) p.1 p.2).1 hp with ⟨h1,h2⟩ | ⟨_,h2⟩
  ·rw[h2];exact YG z7
  ·exact uB l i z7 p h2
def AK (n:Node):List Int:=n.entries.map (·.fid)
def kB (l:List Node):List Int:=l.flatMap AK
theorem E7 {l:List Node} (h:Wh l):(kB l).Nodup:=by
 unfold kB List.Nodup;rw[List.pairwise_flatMap];refine ⟨λn hn=>?_,?_⟩
 ·unfold AK;rw[List.pairwise_map];refine ((h.loc n hn).eup).imp_of_mem fun {a b} ha hb hlt e=>?_
  have:=(h.one n.fid a.name n.fid b.name a.fid ⟨n,hn,rfl,ha⟩ ⟨n,hn,rfl,by rw[e];exact hb⟩).2;rw[this] at hlt;exact rk _ hlt
 ·refine (h.bV.up).imp_of_mem fun {a b} ha hb hlt x hx y hy e=>?_
  obtain ⟨p,hp,rfl⟩:=Z7.1 hx;obtain ⟨q,hq,rfl⟩:=Z7.1 hy;have:=(h.one a.fid p.name b.fid q.name p.fid ⟨a,ha,rfl,hp⟩ ⟨b,hb,rfl,by rw[e];exact hq⟩).1;omega
theorem wu {l:List Node} {f:Int}:f∈kB l↔∃d s,Edge l d s f:=by
 unfold kB AK;rw[List.mem_flatMap];constructor
 ·rintro ⟨n,hn,he⟩;obtain ⟨e,he2,rfl⟩:=Z7.1 he;exact ⟨n.fid,e.name,n,hn,rfl,he2⟩
 ·rintro ⟨d,s,n,hn,_,he⟩;exact ⟨n,hn,Z7.2 ⟨_,he,rfl⟩⟩
end La
namespace La
open Go Go.Eng Go.Proofs
def orI (a b c:Int):Int:=if a≠0 then a else if b≠0 then b else c
theorem JM (a b c:Int):ag Tryz.prog 189 [.sl [[.int .i64 a],[.int .i64 b],[.int .i64 c]]] [] (λr _=>r=.int .i64 (orI a b c)):=by
 refine ZF tK (Tryz.func189) rfl (λC=>?_);simp only[Tryz.ntmps189,Tryz.results189,go_sem];refine wG tK ?_;refine ZL (λi:Nat=>i≤3/\(0<i->a=0)/\(1<i->b=0)/\(2<i->c=0)) (λi=>3-i) (λi=>(5,.any)::(8,.int .i64 i)::u3 9 8 []) (λ_=>[]) 0 z7 ?_ λi hi=>?_
 ·simp only[go_sem];exact ZU w4 w4 w4
 obtain ⟨hi,h1,h2,h3⟩:=hi;simp only[go_sem];refine wG tK ?_;refine wD (λh=>?_) (λh=>?_)
 ·have hlt:i<3:=by simp at h;omega
  have hw:=wi1 (i:=i) z7;obtain ⟨x,hg,hx⟩:∃x,[[AV.int .i64 a],[AV.int .i64 b],[AV.int .i64 c]].getD i []=[AV.int .i64 x]/\(x≠0->orI a b c=x)/\(x=0->(0<i+1->a=0)/\(1<i+1->b=0)/\(2<i+1->c=0)):=by
   rcases (show i=0\/i=1\/i=2 by omega) with rfl | rfl | rfl
   ·exact ⟨a,rfl,λh=>by simp[orI,h],λh=>⟨λ_=>h,λh=>by omega,λh=>by omega⟩⟩
   ·have ha:=h1 z7;exact ⟨b,rfl,λh=>by simp[orI,h,ha],λh=>⟨λ_=>ha,λ_=>h,λh=>by omega⟩⟩
   ·have ha:=h1 z7;have hb:=h2 z7;exact ⟨c,rfl,λh=>by simp[orI,ha,hb],λh=>⟨λ_=>ha,λ_=>hb,λ_=>h⟩⟩
  obtain ⟨hx1,hx2⟩:=hx;refine wGq tK ?_ ?_ x8
  ·simp[hg,hlt]
  refine wD (λh=>?_) (λh=>?_)
  ·refine wG tK ?_;refine wT ?_;rw[hx1 u6]
  ·refine wG tK ?_ k0 k9;refine ZB ⟨i+1,⟨by omega,hx2 u6⟩,by omega,ZU ?_ ?_ ?_⟩
   ·simp[go_sem]
   ·simp[go_sem]
   ·simp[go_sem]
 ·have e:i=3:=by simp at h;omega
  subst e;refine wG tK ?_;refine wT ?_;simp[orI,h1 z7,h2 z7,h3 z7]
def tI (a b:Kept):Int:=orI (jL a.worth b.worth) (jL a.last b.last) (jL a.node.fid b.node.fid)
def cH (l:List Kept):Nat->Option Nat
 | 0=>none
 | i+1=>
  if (l.getD i default).dirty||(l.getD i default).node.fid==0 then cH l i
  else match cH l i with
   | none=>some i
   | some b=>if tI (l.getD i default) (l.getD b default)<0 then some i else some b
theorem eU (l:List Kept):∀(i b:Nat),cH l i=some b->b<i
 | 0,b,h=>by cases h
 | i+1,b,h=>by
  simp only[cH] at h;have ih:=eU l i;split at h
  ·have:=ih b h;omega
  ·split at h
   ·injection h with h;omega
   ·rename_i b' e;have:=ih b' e;split at h
    ·injection h with h;omega
    ·injection h with h;omega
def nY (l:List Kept):Option Nat:=cH l l.length
theorem yM (l:List Kept) (hlen:l.length≤100000000):ag Tryz.prog 158 [.sl (l.map ZK)] [] (λr _=>r=.int .i64 (dp (nY l))):=by
 refine ZF tK (Tryz.func158) rfl (λC=>?_);simp only[Tryz.ntmps158,Tryz.results158,go_sem];refine wG tK ?_;refine ZL (λi:Nat=>i≤l.length) (λi=>l.length-i) (λi=>(3,.int .i64 (dp (cH l i)))::(4,.any)::(5,.any)::(8,.int .i64 i)::u3 9 47 []) (λ_=>[]) 0 z7 ?_ λi hi=>?_
 ·simp only[go_sem];exact ZU (by simp[go_sem];rfl) w4 w4
 simp only[go_sem];refine wG tK ?_;refine wD (λh=>?_) (λh=>?_)
 ·have hlt:i<l.length:=by simp at h;omega
  have hg:(l.map ZK).getD i []=ZK (l.getD i default):=Fam.getD hlt;have hw:=wi1 (i:=i) z7;have hwl:=eU l i;have hstep:cH l (i+1)=if (l.getD i default).dirty||(l.getD i default).node.fid==0 then cH l i else match cH l i with
   | none=>some i
   | some b=>if tI (l.getD i default) (l.getD b default)<0 then some i else some b:=rfl
  generalize l.getD i default=x at hg hstep;refine wGq tK ?_ ?_ Qm
  ·simp[hg,hlt,ZK]
  refine ZZ 5 rfl (rfl) ?_;simp only[go_sem];refine wD (λh=>?_) (λh=>?_)
  ·have hno:cH l (i+1)=cH l i:=by rw[hstep,if_pos u6]
   refine wG tK ?_ k0 k9;refine ZB ⟨i+1,by omega,by omega,ZU ?_ ?_ ?_⟩
   ·simp[go_sem,hno]
   ·simp[go_sem]
   ·simp[go_sem]
  ·have hyes:(x.dirty||x.node.fid==0)=false:=by simpa using h
   rw[hyes] at hstep;simp only[Bool.false_eq_true,if_false] at hstep;cases hb:cH l i with
   | none=>
    rw[hb] at hstep;simp only[dp];refine wG tK ?_;refine ZW ZM ?_;refine ZS rfl ?_;refine sN tK 3 ?_
    iterate 28 refine sS ?_
    refine sSB ?_;refine sN tK 1 ?_;refine sE ?_;refine wKd ?_;refine wDT (hb:=y7) (hk:=?_);refine wG tK ?_ k0 k9;refine ZB ⟨i+1,by omega,by omega,ZU ?_ ?_ ?_⟩
    ·simp[go_sem,hstep,dp]
    ·simp[go_sem]
    ·simp[go_sem]
   | some b=>
    rw[hb] at hstep;have hbl:=hwl b hb;have hgb:(l.map ZK).getD b []=ZK (l.getD b default):=Fam.getD z7;simp only at hstep;generalize l.getD b default=y at hgb hstep;simp only[dp];refine wG tK ?_;refine ZW ZM ?_;refine ZS rfl ?_;refine sN tK 3 ?_;refine fu 23 z6 (λc23 h23=>?_);simp only[go_sem];have hc:c23=false:=by rw[←h23];simp
    subst hc;refine sNq tK 7 ?_ ?_ z6 z6 Qk
    ·simp[hgb,ZK];omega
    refine sCC Tryz.func147 (hf:=λhb=>(iQ x.worth y.worth)) (hk:=?_);refine sNq tK 7 ?_ ?_ z6 z6 Qk
    ·simp[hgb,ZK];omega
    refine sCC Tryz.func147 (hf:=λhb=>(iQ x.last y.last)) (hk:=?_);refine sNq tK 9 ?_ ?_ z6 z6 Qk
    ·simp[hgb,ZK];omega
    refine sCC Tryz.func147 (hf:=λhb=>(iQ x.node.fid y.node.fid)) (hk:=?_);refine sW tK ?_;refine Cp rfl z8 z8 w4 z8 w4 ⟨_,Tryz.func189,by kernel_rfl,rfl⟩ (λhb=>(JM _ _ _)) w4 z6 z6 ?_;refine sN tK 2 ?_;refine sE ?_;refine wKd ?_
    by_cases hlt:tI x y<0
    ·refine wDT (hb:=(by simpa[tI] using hlt)) (hk:=?_);refine wG tK ?_ k0 k9;refine ZB ⟨i+1,by omega,by omega,ZU ?_ ?_ ?_⟩
     ·simp[go_sem,hstep,dp,hlt]
     ·simp[go_sem]
     ·simp[go_sem]
    ·refine wDF (hb:=(by simpa[tI] using hlt)) (hk:=?_);refine wG tK ?_ k0 k9;refine ZB ⟨i+1,by omega,by omega,ZU ?_ ?_ ?_⟩
     ·simp[go_sem,hstep,dp,hlt]
     ·simp[go_sem]
     ·simp[go_sem]
 ·have e:i=l.length:=by simp at h;omega
  subst e;refine wG tK ?_;refine wT ?_;rfl
theorem Dx (l:List Kept) (i:Nat) (hi:i<l.length):bq (l.map ZK) i (((l.map ZK).drop (i+1)).take (l.length-(i+1)))=(l.eraseIdx i).map ZK++(l.drop (l.length-1)).map ZK:=by
 unfold bq;have e1:((l.map ZK).drop (i+1)).take (l.length-(i+1))=(l.map ZK).drop (i+1):=Z4 y7;rw[e1,List.eraseIdx_eq_take_drop_succ,List.map_append,W7,List.map_drop,List.map_drop]
 congr 2
 simp;omega
theorem Bx (A Z:List (List AV)) (z:List AV) (n:Nat) (hA:A.length=n):(bq (A++Z) n [z]).take n=A:=by
 unfold bq;rw[Wa,List.take_append,←hA,List.take_append_length];simp
def dK (R:List (List AV)) (G Y N:Nat->Nat):List (Nat×Blk):=[(1000,.cells 138 8 R)]++pins [1000] G Y N
theorem Dw (l:List Kept) (i:Nat) (hi:i<l.length) (hlen:l.length≤100000000) (G Y Z:Nat->Nat) :
  ag Tryz.prog 159 [.osl 1000 8 0 l.length,.int .i64 i,.int .i64 ((i+1:Nat):Int)] (dK (l.map ZK) G Y Z) (λr H=>r=.osl 1000 8 0 (l.length-1)/\∀j b,ae (dK ((l.eraseIdx i).map ZK) G Y Z) j=some b->ae H j=some b):=by
 unfold dK;refine ZF tK (Tryz.func159) rfl (λC=>?_);simp only[Tryz.ntmps159,Tryz.results159,go_sem];refine wR ?_;refine wN tK 1 ?_;refine wR ?_;refine wN tK 5 ?_;refine cE rfl (yD tK rfl rfl (id:=1000) (s:=8) (off:=0) (len:=l.length) (l:=i) (h:=i+1) (m:=l.length) z8 z8 z8 z8 z7 z7 z7 z7 rfl z7) ?_;simp only[go_sem];refine wG tK ?_;refine wD (λh=>?_) (λh=>?_)
 ·simp at h;omega
 refine wG tK ?_;refine Gj 50 (t:=0) (id:=1000) (s:=8) (off:=0) (len:=l.length) z8 z8 z7 z7 z8 (λN hN1 hN2=>?_);simp only[go_sem];refine ZW ZM ?_;refine ZS rfl ?_;refine sN tK 2 ?_;refine zT tK rfl rfl rfl (id:=1000) (s:=8) (len:=l.length) (h:=i) (j:=50) (N:=N) z8 z8 z8 z7 z7 rfl z7 z6 z6 ?_;refine sNq tK 3 ?_ ?_
 ·simp;omega
 refine sE ?_;have hm:i+(l.length-(i+1))=l.length-1:=by omega
 have hE:(l.eraseIdx i).length=l.length-1:=by rw[Wx,if_pos hi]
 have hO:=Dx l i hi;refine fD rfl w9 rfl (tW tK rfl rfl (id:=1000) (s:=8) (i:=i) (j:=i+1) (m:=l.length-(i+1)) (N:=N) (e':=138) (R:=l.map ZK) z8 z8 z8 k7 k7 z7 rfl z7 (su l) (by rw[←List.map_drop,←W7];exact vD _)) rfl ?_;rw[hm,hO];have hR:((l.eraseIdx i).map ZK).length=l.length-1:=by rw[List.length_map,hE]
 have hZl:(l.drop (l.length-1)).length=1:=by simp;omega
 generalize (l.eraseIdx i).map ZK=A at *;generalize (l.drop (l.length-1))=W at *;refine dS tK ?_;refine wKd ?_
 try simp only[go_sem,gA,gB,gC]
 refine wR ?_;refine wN tK 2 ?_;refine bf (D5 28 z6) ?_;simp only[go_sem];refine wN tK 2 ?_;refine cE rfl (we tK rfl rfl (id:=1000) (s:=8) (len:=l.length-1) (cap:=N) (l:=l.length-1) (h:=l.length) z8 z8 z8 z7 z7 rfl z7) ?_;simp only[go_sem];refine wGq tK ?_ ?_
 ·simp[hR,hZl];omega
 have h1:l.length-(l.length-1)=1:=by omega
 simp only[go_sem,h1,List.replicate_one];refine bf (D5 6 z6) ?_;simp only[go_sem];refine bf (pU (id:=1000) (l.length-1) z6) ?_;simp only[go_sem,Bx A _ _ (l.length-1) hR];refine wT ?_;refine ⟨rfl,cY ?_ ?_⟩
 ·simp[go_sem]
 ·simp[go_sem]
def cG (room:Int):Nat->List Kept->Option (List Kept)
 | 0,l=>some l
 | f+1,l=>if (l.length:Int)≥room then (match nY l with
   | none=>none
   | some i=>cG room f (l.eraseIdx i)) else some l
def kT (a b:Int):Int:=if b>a then b else a
def cB (l:List Kept) (room:Int) (k:Kept):Option (List Kept):=match dq l k.node.fid with
 | some i=>some (l.set i { k with worth:=kT k.worth (l.getD i default).worth })
 | none=>(cG room (l.length+1) l).map λL=>L++[k]
def AZ (l:List Kept) (room:Int) (k:Kept):AV:=match cB l room k with
 | none=>.tup [.sl [],.int .i64 5]
 | some L=>.tup [.sl (L.map ZK),.int .i64 0]
def zw (l:List Kept) (room:Int) (k:Kept):AV:=match cB l room k with
 | none=>.tup [.nils,.int .i64 5]
 | some L=>.tup [.sl (L.map ZK),.int .i64 0]
theorem D3 (l:List Kept) (room:Int) (k:Kept) (hl:SmallK l) (hk:k.node.Small):ag Tryz.prog 112 [.sl (l.map ZK),.int .i64 room,.agg (ZK k)] [] (λr _=>r=zw l room k):=by
 have hlen:=hl.len;have e0:=gJ (M:=[k]) (i:=0) y7;refine ZF tK (Tryz.func112) rfl (λC=>?_);simp only[Tryz.ntmps112,Tryz.results112,go_sem];refine wGq tK ?_ ?_ QC
 ·simp
 refine wCG [] 978 Tryz.func68 (hf:=(ki l hl)) (hk:=?_);refine wGq tK ?_ ?_ QC
 ·simp
 refine ZZ 14 rfl (rfl) ?_;simp only[go_sem];refine wC Tryz.func68 (hf:=(rG [k] (SmallK.one hk))) (hk:=?_);refine wGq tK ?_ ?_ QC
 ·simp[ZK]
 refine wV Tryz.func157 (hf:=(mW l k.node.fid hlen)) (hk:=?_);refine wG tK ?_;unfold zw cB;cases e:dq l k.node.fid with
 | some i=>
  have hi:=mV e;have hg:=gJ hi;simp only[dp];refine wDT (hb:=y7) (hk:=?_);refine wG tK ?_;have hs:=jv l i { k with worth:=kT k.worth (l.getD i default).worth };simp only[ZK] at hs;unfold kT at hs;refine ZW ZM ?_;refine ZS rfl ?_;refine sNq tK 7 ?_ ?_ z6 z6 x8
  ·simp[hg];omega
  refine vU rfl rfl (q:=.i64) (q':=.i64) (u:=k.worth) (v:=(l.getD i default).worth) z8 z8 z6 z6 ?_;refine sN tK 1 ?_;refine sE ?_;refine dS tK ?_;refine wKd ?_
  try simp only[go_sem,gA,gB,gC]
  refine wGq tK ?_ ?_ Qn
  ·simp[hg];omega
  refine ZZ 1000 rfl (cW _) ?_;simp only[go_sem];refine wT ?_;rw[if_pos y7,Z4 y7];rfl
 | none=>
  simp only[dp];refine wDF (hb:=y7) (hk:=?_);refine wG tK ?_;refine ZZ 5 rfl (rfl) ?_;simp only[go_sem];refine ZL (λL:List Kept=>L.length≤l.length/\cG room (L.length+1) L=cG room (l.length+1) l) (λL=>L.length) (λL=>(8,.osl 1000 8 0 L.length)::u3 10 15 (u3 39 13 [])) (λL=>[(1000,.cells 138 8 (L.map ZK))]) l ⟨WC _,rfl⟩ ?_ λL hL=>?_
  ·simp only[go_sem];exact ZU w4 w4 w4
  obtain ⟨hLl,hLs⟩:=hL;simp only[go_sem];refine wG tK ?_;refine wD (λh=>?_) (λh=>?_)
  ·have hge:(L.length:Int)≥room:=by simpa using h
   rw[cG,if_pos hge] at hLs;refine wG tK ?_;refine wV Tryz.func158 (hf:=(yM L z7)) (hk:=?_);cases hw:nY L with
   | none=>
    rw[hw] at hLs;simp only at hLs;simp only[dp];refine wG tK ?_;refine wDT (hb:=y7) (hk:=?_);refine wG tK ?_;refine wT ?_;rw[←hLs];rfl
   | some i=>
    rw[hw] at hLs;simp only at hLs;have hi:i<L.length:=eU L L.length i hw;have hwr:=wi1 (i:=i) z7;have hE:(L.eraseIdx i).length=L.length-1:=by rw[Wx,if_pos hi]
    simp only[dp];refine wG tK ?_;refine wDF (hb:=y7) (hk:=?_);refine wG tK ?_ Qq (by simp[go_sem,hwr]);have hne:¬L=[]:=λh0=>by rw[h0] at hi;simp at hi
    refine cE rfl (ep rfl z8 w4 ⟨_,Tryz.func159,by kernel_rfl,rfl⟩ [1000] y8 w4 y7 Qo w4 w4 (Dw L i hi z7) y9) ?_;refine wG tK ?_;refine ZB ⟨L.eraseIdx i,⟨by omega,?_⟩,by omega,ZU ?_ ?_ ?_⟩
    ·rw[←hLs,hE];congr 1;omega
    ·simp[go_sem,hE]
    ·simp[go_sem]
    ·simp[go_sem]
  ·have hlt:¬(L.length:Int)≥room:=by simpa using h
   rw[cG,if_neg hlt] at hLs;refine wGq tK ?_ ?_
   ·simp[rowsOf];omega
   refine ZZ 55 rfl (by rw[List.all_append];first | (rw[cW];rfl) | (rw[←W7,cW];rfl)) ?_;simp only[go_sem];refine wT ?_;rw[←hLs,Z4 y7];simp[ZK]
theorem yc (n:Kept):ic (ZK n)=ZK n:=by
 have h1:kV (n.node.data.map ZY)=n.node.data.map ZY:=by rw[eN,Wn];rfl
 have h2:kV (n.node.entries.map ZE)=n.node.entries.map ZE:=by rw[eN,Wn];rfl
 simp only[ZK,ic,nrm,h1,h2]
theorem Eg (l:List Kept):kV (l.map ZK)=l.map ZK:=by
 rw[eN,Wn];exact Wo λk _=>yc k
theorem A1 (l:List Kept) (room:Int) (k:Kept) (hl:SmallK l) (hk:k.node.Small):ag Tryz.prog 112 [.sl (l.map ZK),.int .i64 room,.agg (ZK k)] [] (λr _=>r=AZ l room k):=by
 refine ag.kV (D3 l room k hl hk) ?_;unfold zw AZ;cases cB l room k with
 | none=>rfl
 | some L=>simp only[nrm,ic,Eg]
theorem H7 (a b:Node):ag Tryz.prog 146 [.agg (ZN a),.agg (ZN b)] [] (λr _=>r=.int .i64 (jL a.fid b.fid)):=by
 unfold ZN;refine ZF tK (Tryz.func146) rfl (λC=>?_);simp only[Tryz.ntmps146,Tryz.results146,go_sem];refine wG tK ?_;refine wC Tryz.func147 (hf:=(iQ a.fid b.fid)) (hk:=?_);refine wG tK ?_;refine wT ?_;rfl
def UpN (l:List Node):Prop:=∀i,0<i->i<l.length->(l.getD (i-1) default).fid≤(l.getD i default).fid
theorem BQ (l:List Node) (hl:UpN l) (hlen:l.length≤100000000):ag Tryz.prog 197 [.sl (l.map ZN),.int .i64 0,.int .i64 l.length,.fn 146 []] [] (λr _=>r=.tup []):=by
 refine ZF tK (Tryz.func197) rfl (λC=>?_);simp only[Tryz.ntmps197,Tryz.results197,go_sem];refine wG tK ?_;refine ZL (λi:Nat=>0<i/\(i≤l.length\/i=1)) (λi=>l.length+1-i) (λi=>(8,.int .i64 i)::(9,.any)::u3 12 41 []) (λ_=>[]) 1 z7 ?_ λi hi=>?_
 ·simp only[go_sem];exact ZU (by simp[go_sem];decide) w4 w4
 obtain ⟨hi0,hi⟩:=hi;simp only[go_sem];refine wG tK ?_;refine wD (λh=>?_) (λh=>?_)
 ·have hlt:i<l.length:=by simp at h;omega
  have hw:=wi1 (i:=i) z7;have hwm:IntKind.i64.wrap ((i:Int)-1)=((i-1:Nat):Int):=by rw[Eng.wrap_small z7 z7];omega
  have hup:=hl i hi0 hlt;have hg:(l.map ZN).getD i []=ZN (l.getD i default):=Fam.getD hlt;have hgm:(l.map ZN).getD (i-1) []=ZN (l.getD (i-1) default):=Fam.getD z7;generalize l.getD i default=x at *;generalize l.getD (i-1) default=y at *;refine wG tK ?_;refine ZL (λ_:Unit=>True) (λ_=>0) (λ_=>u3 18 35 []) (λ_=>[]) () trivial ?_ λ_ _=>?_
  ·simp only[go_sem];exact ZU w4 w4 w4
  simp only[go_sem];refine wG tK ?_;refine ZW ZM ?_;refine ZS rfl ?_;refine sN tK 4 ?_;refine fu 21 z6 (λc21 h21=>?_);simp only[go_sem];have hc:c21=true:=by rw[←h21];simp;omega
  subst hc;refine sNq tK 10 ?_ ?_ z6 z6 (by simp only[go_sem,hg,hgm,hwm,ZN];try exact rfl)
  ·simp[hg,hgm,hwm,ZN,hlt];omega
  refine sCC Tryz.func146 (hf:=λhb=>(H7 x y)) (hk:=?_);refine sN tK 2 ?_;refine sE ?_;refine wKd ?_;refine wDF (hb:=(by rw[vm];simp;exact hup)) (hk:=?_);refine wG tK ?_ k0 k9;refine ZB ⟨i+1,by omega,by omega,ZU ?_ ?_ ?_⟩
  ·simp[go_sem]
  ·simp[go_sem]
  ·simp[go_sem]
 ·refine wG tK ?_;refine kE ⟨_,_,rfl,trivial,.tup [],.inr (.inl rfl),rfl⟩
theorem Jj (l:List Node) (hl:UpN l) (hlen:l.length≤12) (lim:Int):ag Tryz.prog 171 [.sl (l.map ZN),.int .i64 0,.int .i64 l.length,.int .i64 lim,.fn 146 []] [] (λr _=>r=.tup []):=by
 have hw:IntKind.i64.wrap ((l.length:Int)-0)=(l.length:Int):=by rw[Eng.wrap_small z7 z7];omega
 refine ZF tK (Tryz.func171) rfl (λC=>?_);simp only[Tryz.ntmps171,Tryz.results171,go_sem];refine wG tK ?_;refine ZL (λ_:Unit=>True) (λ_=>0) (λ_=>[]) (λ_=>[]) () trivial ?_ λ_ _=>?_
 ·simp only[go_sem];exact ZU w4 w4 w4
 simp only[go_sem];refine wG tK ?_ k0 k9;refine wDT (hb:=k7) (hk:=?_);refine wG tK ?_;refine wC Tryz.func197 (hf:=(BQ l hl z7)) (hk:=?_);refine wG tK ?_;refine kF ⟨_,_,rfl,trivial,.tup [],.inr (.inl rfl),rfl⟩
def bA (l:List Kept):List Node:=l.map (·.node)
theorem yb (l:List Kept) (i:Nat) (h:i<l.length):(bA l).take (i+1)=(bA l).take i++[(l.getD i default).node]:=by
 unfold bA;rw[←W7,←W7,List.take_succ_eq_append_getElem h,List.map_append];rw[Z1,Z2 h];rfl
end La
namespace La
open Go Go.Eng
def lG (l:List Node):List Node:=(f_ l).map (·.2)
def CP (fid now:Int) (x:Kept):Kept:=if x.node.fid=fid then { x with last:=now } else x
theorem Ib {l:List Kept} (hu:rO l=true) (fid now:Int):wg l fid now=l.map (CP fid now):=by
 have hU:n_ l l.length:=of_decide_eq_true hu;unfold wg;cases hk:dq l fid with
 | none=>
  have hn:∀x,x∈l->x.node.fid≠fid:=λx hx e=>by
   have:=WL.1 hk x hx;simp[e] at this
  refine (List.ext_getElem? λj=>?_);rw[Z5];cases hj:l[j]? with
  | none=>rfl
  | some x=>simp[CP,hn x (Z6 hj)]
 | some p=>
  obtain ⟨hp,hpf,hno⟩:=WK.1 hk;have hpf:l[p].node.fid=fid:=by simpa using hpf
  have hat:∀j (hj:j<l.length),l[j].node.fid=fid->j=p:=λj hj e=>by
   have hf:∀i (hi:i<l.length),xc l i=l[i].node.fid:=λi hi=>by unfold xc;rw[Z1,Z2 hi];rfl
   rcases Nat.lt_trichotomy j p with h1 | h1 | h1
   ·exact absurd (by rw[hf j hj,hf p hp,e,hpf]) (hU p hp j h1)
   ·exact h1
   ·exact absurd (by rw[hf j hj,hf p hp,e,hpf]) (hU j hj p h1)
  refine List.ext_getElem? λj=>?_
  simp only;rw[Z5,Wl]
  by_cases hjp:p=j
  ·subst hjp;rw[if_pos rfl,if_pos hp,Z2 hp];simp[CP,hpf,Z1,Z2 hp]
  ·rw[if_neg hjp];cases hj:l[j]? with
   | none=>rfl
   | some x=>
    obtain ⟨hjl,hje⟩:=Z8.1 hj;have:x.node.fid≠fid:=λe=>hjp (hat j hjl (by rw[hje];exact e)).symm
    simp[CP,this]
theorem vM {l:List Kept} (h:SmallK l):Small (bA l):=⟨by unfold bA;rw[List.length_map];exact h.len,λx hx=>by
 obtain ⟨k,hk,rfl⟩:=Z7.1 hx;exact h.each k hk⟩
theorem pX (l:List Node):∀i,∀p,p∈mf l i->p.2.fid=p.1
 | 0,p,hp=>by cases hp
 | i+1,p,hp=>by
  obtain ⟨k,x⟩:=p;have:=(cT (kR l i) k x).1 hp
  rcases this with ⟨rfl,rfl⟩ | ⟨_,h⟩
  ·rfl
  ·exact pX l i _ h
theorem jF:∀p q:List Node,p.Pairwise (λa b=>a.fid<b.fid)->q.Pairwise (λa b=>a.fid<b.fid)->(∀x,x∈p↔x∈q)->p=q
 | [],q,_,_,h=>by
  cases q with
  | nil=>rfl
  | cons b q=>exact absurd ((h b).2 List.mem_cons_self) y7
 | a::p,[],_,_,h=>absurd ((h a).1 List.mem_cons_self) y7
 | a::p,b::q,hp,hq,h=>by
  obtain ⟨hp1,hp2⟩:=List.pairwise_cons.1 hp;obtain ⟨hq1,hq2⟩:=List.pairwise_cons.1 hq;have e:a=b:=by
   rcases List.mem_cons.1 ((h a).1 List.mem_cons_self) with h1 | h1
   ·exact h1
   ·rcases List.mem_cons.1 ((h b).2 List.mem_cons_self) with h2 | h2
    ·exact h2.symm
    ·have:=hp1 b h2;have:=hq1 a h1;omega
  subst e;rw[jF p q hp2 hq2 λx=>⟨λhx=>?_,λhx=>?_⟩]
  ·rcases List.mem_cons.1 ((h x).1 (List.mem_cons_of_mem _ hx)) with h1 | h1
   ·have:=hp1 x hx;rw[h1] at this;omega
   ·exact h1
  ·rcases List.mem_cons.1 ((h x).2 (List.mem_cons_of_mem _ hx)) with h1 | h1
   ·have:=hq1 x hx;rw[h1] at this;omega
   ·exact h1
theorem nS (l:List Node):(lG l).Pairwise λa b=>a.fid<b.fid:=by
 unfold lG;rw[List.pairwise_map];refine List.Pairwise.imp_of_mem ?_ (B3 l);intro a b ha hb h;rw[pX l _ a ha,pX l _ b hb];exact h
theorem uA (l:List Node) (hd:∀i,i<l.length->∀j,j<i->ik l j≠ik l i):∀i,i≤l.length->∀j,j<i->(ik l j,l.getD j default)∈mf l i
 | 0,_,_,h=>by omega
 | i+1,hi,j,hj=>by
  refine (cT (kR l i) _ _).2 ?_
  by_cases e:j=i
  ·subst e;exact .inl ⟨rfl,rfl⟩
  ·exact .inr ⟨hd i z7 j z7,uA l hd i z7 j z7⟩
theorem qh (l:List Node) (hd:∀i,i<l.length->∀j,j<i->ik l j≠ik l i) (x:Node):x∈lG l↔x∈l:=by
 constructor
 ·intro h;obtain ⟨p,hp,rfl⟩:=Z7.1 h;exact uB l _ (WC _) p hp
 ·intro h;obtain ⟨i,hi,rfl⟩:=List.getElem_of_mem h;refine Z7.2 ⟨(ik l i,l.getD i default),uA l hd _ (WC _) i hi,?_⟩;rw[Z1,Z2 hi];rfl
theorem tg (l:List Node) (hd:∀i,i<l.length->∀j,j<i->ik l j≠ik l i) (p:List Node) (hp:p.Perm l) (hs:p.Pairwise λa b=>a.fid≤b.fid):p=lG l:=by
 have hne:l.Pairwise λa b=>a.fid≠b.fid:=by
  rw[List.pairwise_iff_getElem];intro i j hi hj hij;have:=hd j hj i hij;unfold ik at this;rw[Z1,Z1,Z2 hi,Z2 hj] at this;exact this
 have hnp:p.Pairwise λa b=>a.fid≠b.fid:=(hp.pairwise_iff (λh=>Ne.symm h)).2 hne
 refine jF _ _ ?_ (nS l) λx=>by rw[qh l hd,hp.mem_iff]
 rw[List.pairwise_iff_getElem] at *;intro i j hi hj hij;have h1:=hs i j hi hj hij;have h2:=hnp i j hi hj hij;omega
theorem uT (l:List Node) (hd:∀i,i<l.length->∀j,j<i->ik l j≠ik l i):(lG l).length=l.length:=by
 have h1:=List.mergeSort_perm l (λa b=>decide (a.fid≤b.fid));have h2:=List.pairwise_mergeSort (le:=λa b:Node=>decide (a.fid≤b.fid)) (by intro a b c;simp;omega) (by intro a b;simp;omega) l;rw[←tg l hd _ h1 (h2.imp y7)];exact h1.length_eq
def gg (k:Kept):Bool:=!k.dirty&&!(k.node.fid==0)
theorem rU (a b:Int):(a<b/\jL a b=-1)\/(a=b/\jL a b=0)\/(b<a/\jL a b=1):=by
 unfold jL
 by_cases h:a<b
 ·exact .inl ⟨h,if_pos h⟩
 ·rw[if_neg h]
  by_cases h2:b<a
  ·exact .inr (.inr ⟨h2,if_pos h2⟩)
  ·exact .inr (.inl ⟨by omega,if_neg h2⟩)
theorem Gd {a b:Kept} (h:tI a b<0):a.worth≤b.worth:=by
 unfold tI orI at h
 rcases rU a.worth b.worth with ⟨h1,h2⟩ | ⟨h1,h2⟩ | ⟨h1,h2⟩
 ·omega
 ·omega
 ·rw[h2] at h;simp at h
theorem Gc {a b:Kept} (h:¬tI a b<0):b.worth≤a.worth:=by
 unfold tI orI at h
 rcases rU a.worth b.worth with ⟨h1,h2⟩ | ⟨h1,h2⟩ | ⟨h1,h2⟩
 ·rw[h2] at h;simp at h
 ·omega
 ·omega
theorem iF (l:List Kept):∀i,(cH l i=none->∀j,j<i->gg (l.getD j default)=false) /\
  ∀b,cH l i=some b->gg (l.getD b default)=true/\∀j,j<i->gg (l.getD j default)=true->(l.getD b default).worth≤(l.getD j default).worth
 | 0=>⟨λ_ j h=>by omega,λb h=>by cases h⟩
 | i+1=>by
  obtain ⟨ih1,ih2⟩:=iF l i
  by_cases hd:((l.getD i default).dirty||(l.getD i default).node.fid==0)=true
  ·have he:cH l (i+1)=cH l i:=by rw[cH,if_pos hd]
   have hm:gg (l.getD i default)=false:=by
    unfold gg
    revert hd
    cases (l.getD i default).dirty<;>cases ((l.getD i default).node.fid==0)<;>simp
   rw[he];refine ⟨λh j hj=>?_,λb h=>⟨(ih2 b h).1,λj hj hg=>?_⟩⟩
   ·by_cases e:j=i
    ·subst e;exact hm
    ·exact ih1 h j z7
   ·by_cases e:j=i
    ·subst e;rw[hm] at hg;cases hg
    ·exact (ih2 b h).2 j z7 hg
  ·have hm:gg (l.getD i default)=true:=by
    unfold gg
    revert hd
    cases (l.getD i default).dirty<;>cases ((l.getD i default).node.fid==0)<;>simp
   have he:cH l (i+1)=match cH l i with
    | none=>some i
    | some b=>if tI (l.getD i default) (l.getD b default)<0 then some i else some b:=by rw[cH,if_neg hd]<;>rfl
   rw[he];cases hw:cH l i with
   | none=>
    simp only;refine ⟨λh=>u9,λb h=>?_⟩;injection h with h
    subst h;refine ⟨hm,λj hj hg=>?_⟩
    by_cases e:j=i
    ·subst e;exact Int.le_refl _
    ·rw[ih1 hw j z7] at hg;cases hg
   | some c=>
    simp only;obtain ⟨k1,k2⟩:=ih2 c hw;split
    ·rename_i hlt;refine ⟨λh=>u9,λb h=>?_⟩;injection h with h
     subst h;refine ⟨hm,λj hj hg=>?_⟩
     by_cases e:j=i
     ·subst e;exact Int.le_refl _
     ·exact Int.le_trans (Gd hlt) (k2 j z7 hg)
    ·rename_i hge;refine ⟨λh=>u9,λb h=>?_⟩;injection h with h
     subst h;refine ⟨k1,λj hj hg=>?_⟩
     by_cases e:j=i
     ·subst e;exact Gc hge
     ·exact k2 j z7 hg
theorem lZ {l:List Kept} {k:Kept} (h:k∈l):tM l k.node.fid=true:=by
 unfold tM;rw[List.any_eq_true];exact ⟨k,h,beq_self_eq_true _⟩
structure Stays (l:List Kept) (room:Int) (k:Kept) (X:List Kept):Prop where
 len:(X.length:Int)≤room
 short:X.length≤l.length+1
 has:tM X k.node.fid=true
 each:∀y,y∈l->tM X y.node.fid=true\/(gg y=true/\∀z,z∈X->z.node.fid≠k.node.fid->gg z=true->y.worth≤z.worth)
theorem BU {l:List Kept} {room:Int} {k:Kept} (hr:(l.length:Int)≤room) (h:cB l room k=none):∀y,y∈l->gg y=false:=by
 unfold cB at h;cases hp:dq l k.node.fid with
 | some i=>rw[hp] at h;cases h
 | none=>
  rw[hp] at h;simp only[Option.map_eq_none_iff] at h;rw[cG] at h;split at h
  ·rename_i hge;cases hw:nY l with
   | none=>
    intro y hy;obtain ⟨j,hj⟩:=Z9 hy;have hjl:j<l.length:=(Z8.1 hj).1;have hjd:l.getD j default=y:=by rw[Z1,hj];rfl
    have:=(iF l l.length).1 hw j hjl
    rwa [hjd] at this
   | some i=>
    rw[hw] at h;simp only at h;have hi:i<l.length:=eU l l.length i hw;have hE:(l.eraseIdx i).length=l.length-1:=by rw[Wx,if_pos hi]
    obtain ⟨f,hf⟩:∃f,l.length=f+1:=⟨l.length-1,by omega⟩;rw[hf,cG,if_neg (by rw[hE];omega)] at h;cases h
  ·cases h
theorem BV {l:List Kept} {room:Int} {k:Kept} {X:List Kept} (hr:(l.length:Int)≤room) (h:cB l room k=some X):Stays l room k X:=by
 unfold cB at h;cases hp:dq l k.node.fid with
 | some i=>
  rw[hp] at h;simp only[Option.some.injEq] at h;subst h;have hi:=mV hp;have hif:(l.getD i default).node.fid=k.node.fid:=by
   obtain ⟨h1,h2,_⟩:=WK.1 hp;rw[Z1,Z2 h1];exact of_decide_eq_true h2
  have hk:tM (l.set i { k with worth:=kT k.worth (l.getD i default).worth }) k.node.fid=true:=
   lZ (k:={ k with worth:=kT k.worth (l.getD i default).worth }) (List.mem_iff_getElem.2 ⟨i,by simpa using hi,by simp⟩)
  refine ⟨by simpa using hr,by simp,hk,λy hy=>.inl ?_⟩;obtain ⟨j,hj⟩:=Z9 hy;have hjl:j<l.length:=(Z8.1 hj).1
  by_cases e:j=i
  ·subst e;have hjd:l.getD j default=y:=by rw[Z1,hj];rfl
   rw[←hjd,hif];rw[hjd] at hk ⊢;exact hk
  ·refine lZ (List.mem_iff_getElem?.2 ⟨j,?_⟩);rw[List.getElem?_set_ne (λh=>e h.symm)];exact hj
 | none=>
  rw[hp] at h;simp only[WN] at h;obtain ⟨L,h,rfl⟩:=h;have hk:tM (L++[k]) k.node.fid=true:=lZ y7;rw[cG] at h;split at h
  ·rename_i hge;cases hw:nY l with
   | none=>rw[hw] at h;cases h
   | some i=>
    rw[hw] at h;simp only at h;have hi:i<l.length:=eU l l.length i hw;have hE:(l.eraseIdx i).length=l.length-1:=by rw[Wx,if_pos hi]
    obtain ⟨f,hf⟩:∃f,l.length=f+1:=⟨l.length-1,by omega⟩;rw[hf,cG,if_neg (by rw[hE];omega)] at h;injection h with h
    subst h;obtain ⟨w1,w2⟩:=(iF l l.length).2 i hw;refine ⟨by rw[List.length_append,hE];simp;omega,by rw[List.length_append,hE];simp,hk,λy hy=>?_⟩;obtain ⟨j,hj⟩:=Z9 hy;have hjl:j<l.length:=(Z8.1 hj).1;have hjd:l.getD j default=y:=by rw[Z1,hj];rfl
    by_cases e:j=i
    ·subst e;rw[hjd] at w1 w2;refine .inr ⟨w1,λz hz hzk hzm=>?_⟩
     rcases List.mem_append.1 hz with hz | hz
     ·obtain ⟨m,hm⟩:=Z9 (List.mem_of_mem_eraseIdx hz);have hml:m<l.length:=(Z8.1 hm).1;have hmd:l.getD m default=z:=by rw[Z1,hm];rfl
      have:=w2 m hml (by rw[hmd];exact hzm)
      rwa [hmd] at this
     ·rw[List.mem_singleton.1 hz] at hzk;exact absurd rfl hzk
    ·refine .inl (lZ (WM _ ?_));refine List.mem_eraseIdx_iff_getElem?.2 ⟨j,e,hj⟩
  ·injection h with h
   subst h;refine ⟨by rw[List.length_append];simp;omega,by simp,hk,λy hy=>.inl (lZ (WM _ hy))⟩
structure Hoard where
 path:List UInt8
 worth:Int
deriving DecidableEq,Inhabited
structure Cli where
 number:Int
 away:Bool
 room:Int
 cache:List Kept
 log:List Rec
 repair:List Rec
 hoards:List Hoard
 clock:Int
 made:Int
 logged:Int
deriving DecidableEq,Inhabited
structure U where
 c:Cli
 s:Srv
structure Step where
 kind:Int
 client:Int
 n:Int
 path:List UInt8
 toPath:List UInt8
 data:List UInt8
deriving DecidableEq,Inhabited
structure Reply where
 err:Int
 n:Int
 m:Int
 data:List UInt8
deriving DecidableEq,Inhabited
structure Wor where
 s:Srv
 cs:List Cli
def eE (fid worth clk:Int) (k:Kept):Kept:=if k.node.fid=fid then { k with last:=clk,worth:=kT k.worth worth } else k
def cj (u:U) (fid worth:Int):U:=⟨{ u.c with clock:=u.c.clock+1,cache:=u.c.cache.map (eE fid worth (u.c.clock+1)) },u.s⟩
def ju (u:U) (k:Kept):U:=match cB u.c.cache u.c.room k with
 | some l=>⟨{ u.c with cache:=l },u.s⟩
 | none=>u
def bg (l:List Kept) (fid:Int):Option Node:=(l.find? λk=>k.node.fid==fid).map (·.node)
structure Got where
 n:Node
 e:Int
 u:U
def aO (u:U) (fid worth:Int):Got:=match bg u.c.cache fid with
 | some n=>⟨n,0,cj u fid worth⟩
 | none=>if u.c.away=true then ⟨ax,12,cj u fid worth⟩ else match af u.s.tree fid with
  | none=>⟨ax,6,cj u fid worth⟩
  | some n=>⟨n,0,ju (cj u fid worth) ⟨n,false,worth,u.c.clock+1⟩⟩
def goR (worth:Int):List (List UInt8)->Got->Got
 | [],g=>if g.e=0 then g else ⟨ax,g.e,g.u⟩
 | s::r,g=>if g.e≠0 then ⟨ax,g.e,g.u⟩ else if g.n.dir=false then ⟨ax,8,g.u⟩ else match ay g.n s with
  | none=>⟨ax,6,g.u⟩
  | some f=>goR worth r (aO g.u f worth)
def goU (u:U) (l:List (List UInt8)) (worth:Int):Got:=goR worth l (aO u 0 worth)
structure GotD where
 n:Node
 name:List UInt8
 e:Int
 u:U
def au (u:U) (path:List UInt8):GotD:=
 if (ah path).2≠0 then ⟨ax,[],(ah path).2,u⟩
 else if (ah path).1.length=0 then ⟨ax,[],7,u⟩
 else ⟨(goU u ((ah path).1.take ((ah path).1.length-1)) 0).n,(ah path).1.getD ((ah path).1.length-1) [],
  if (goU u ((ah path).1.take ((ah path).1.length-1)) 0).e=0/\(goU u ((ah path).1.take ((ah path).1.length-1)) 0).n.dir=false then 8 else (goU u ((ah path).1.take ((ah path).1.length-1)) 0).e,
  (goU u ((ah path).1.take ((ah path).1.length-1)) 0).u⟩
def cd (c:Cli) (a:Act):Act:=if an a=true then { a with fid:=-1-c.made } else a
def tN (a:Act) (seen:Int):Int:=if an a=true then -1 else seen
def aU (c:Cli):List Node:=lG (bA c.cache)
def aM (was:List Node) (a:Act) (n:Node):Bool:=!((match af was n.fid with
 | some o=>eS false o n
 | none=>false)&&(a.kind != 3||n.fid != a.fid))
def dD (was:List Node) (clk:Int) (n:Node):Kept:=⟨{ n with version:=((af was n.fid).getD ax).version },true,0,clk⟩
def bK (room clk:Int) (was:List Node) (a:Act):List Node->List Kept->Option (List Kept)
 | [],l=>some l
 | n::r,l=>if aM was a n=true then (match cB l room (dD was clk n) with
  | none=>none
  | some l'=>bK room clk was a r l') else bK room clk was a r l
structure GotE where
 e:Int
 u:U
def kY (c:Cli) (a:Act) (seen:Int):Option (List Rec):=dC c.log ⟨cd c a,tN a seen,c.logged+1⟩
noncomputable def cJ (c:Cli) (a:Act):List Node:=aH (aU c) (cd c a) 0
noncomputable def fy (c:Cli) (a:Act):Option (List Kept):=bK c.room c.clock (aU c) (cd c a) (cJ c a) c.cache
noncomputable def kZ (u:U) (a:Act) (seen:Int):GotE:=
 if aB (aU u.c) (cd u.c a)≠0 then ⟨aB (aU u.c) (cd u.c a),u⟩ else match kY u.c a seen with
 | none=>⟨5,u⟩
 | some log=>match fy u.c a with
  | none=>⟨5,u⟩
  | some l=>⟨0,⟨{ u.c with cache:=l.filter (λk=>bz (cJ u.c a) k.node.fid),log:=log,logged:=u.c.logged+1,made:=if an a=true then u.c.made+1 else u.c.made },u.s⟩⟩
def fV (c:Cli) (t:List Node):Cli:={ c with cache:=c.cache.filter λk=>!dU t k }
noncomputable def fo (u:U) (a:Act):GotE:=if doE u.s a=0 then ⟨0,⟨fV u.c (doS u.s u.c.number a).tree,doS u.s u.c.number a⟩⟩ else ⟨doE u.s a,u⟩
noncomputable def bC (u:U) (a:Act) (seen:Int):GotE:=if u.c.away=true then kZ u a seen else fo u a
def dZ (n:Node):Int:=if n.fid<0 then -1 else n.version
def aZ (d:Int) (name:List UInt8):Act:=⟨1,0,d,name,0,[],[]⟩
def lC (d:Int) (name:List UInt8):Act:=⟨2,0,d,name,0,[],[]⟩
def az (fid:Int) (data:List UInt8):Act:=⟨3,fid,0,[],0,[],data⟩
def aK (fid d:Int) (name:List UInt8):Act:=⟨4,fid,d,name,0,[],[]⟩
def fa (fid d:Int) (name:List UInt8) (to:Int) (toName:List UInt8):Act:=⟨5,fid,d,name,to,toName,[]⟩
noncomputable def jl (g:Got) (data:List UInt8):GotE:=if g.e≠0 then ⟨g.e,g.u⟩ else bC g.u (az g.n.fid data) (dZ g.n)
noncomputable def bn (u:U) (path data:List UInt8):GotE:=
 if (au u path).e≠0 then ⟨(au u path).e,(au u path).u⟩
 else if data.length>20 then ⟨4,(au u path).u⟩
 else match ay (au u path).n (au u path).name with
 | some f=>jl (aO (au u path).u f 0) data
 | none=>if (bC (au u path).u (aZ (au u path).n.fid (au u path).name) (-1)).e≠0 then bC (au u path).u (aZ (au u path).n.fid (au u path).name) (-1)
  else jl (goU (bC (au u path).u (aZ (au u path).n.fid (au u path).name) (-1)).u (ah path).1 0) data
noncomputable def fh (u:U) (path:List UInt8):GotE:=
 if (au u path).e≠0 then ⟨(au u path).e,(au u path).u⟩ else bC (au u path).u (lC (au u path).n.fid (au u path).name) (-1)
structure GotP where
 d:Int
 name:List UInt8
 n:Node
 e:Int
 u:U
def atU (u:U) (path:List UInt8):GotP:=
 if (au u path).e≠0 then ⟨0,[],ax,(au u path).e,(au u path).u⟩
 else match ay (au u path).n (au u path).name with
 | none=>⟨0,[],ax,6,(au u path).u⟩
 | some f=>⟨(au u path).n.fid,(au u path).name,(aO (au u path).u f 0).n,(aO (au u path).u f 0).e,(aO (au u path).u f 0).u⟩
noncomputable def cn (u:U) (path:List UInt8):GotE:=
 if (atU u path).e≠0 then ⟨(atU u path).e,(atU u path).u⟩
 else bC (atU u path).u (aK (atU u path).n.fid (atU u path).d (atU u path).name) (dZ (atU u path).n)
noncomputable def fJ (u:U) (path to:List UInt8):GotE:=
 if (atU u path).e≠0 then ⟨(atU u path).e,(atU u path).u⟩
 else if (au (atU u path).u to).e≠0 then ⟨(au (atU u path).u to).e,(au (atU u path).u to).u⟩
 else bC (au (atU u path).u to).u (fa (atU u path).n.fid (atU u path).d (atU u path).name (au (atU u path).u to).n.fid (au (atU u path).u to).name) (dZ (atU u path).n)
def cU:List Rec->List Verdict->List Rec
 | r::l,v::vs=>if v.err=0 then cU l vs else r::cU l vs
 | _,_=>[]
def fc (vs:List Verdict):Nat:=(vs.filter λv=>v.err==0).length
noncomputable def bm (u:U):List Verdict:=(cP u.s.tree u.s.next ((u.s.past.length+1:Nat):Int) u.c.log).vs
noncomputable def jo (u:U):Srv:=po u.s u.c.number u.c.log
noncomputable def cA (u:U):U:=
 ⟨{ u.c with away:=false,log:=[],repair:=u.c.repair++cU u.c.log (bm u),cache:=(u.c.cache.filter λk=>!k.dirty).filter λk=>!dU (jo u).tree k },jo u⟩
def ee (l:List Hoard) (path:List UInt8):List Hoard:=l.filter λh=>!(h.path==path)
def fX (u:U) (path:List UInt8) (worth:Int):GotE:=
 if (ah path).2≠0 then ⟨(ah path).2,u⟩ else if worth<0\/worth>100 then ⟨3,u⟩
 else if 0<worth/\(ee u.c.hoards path).length≥6 then ⟨5,u⟩
 else ⟨0,⟨{ u.c with hoards:=if 0<worth then ee u.c.hoards path++[⟨path,worth⟩] else ee u.c.hoards path },u.s⟩⟩
def bL (l:List Hoard):Nat->List Hoard
 | 0=>[]
 | w+1=>l.filter (λh=>h.worth==((w+1:Nat):Int))++bL l w
structure GotV where
 n:Nat
 u:U
def ir (g:GotV) (h:Hoard):GotV:=⟨if (goU g.u (ah h.path).1 h.worth).e=0 then g.n+1 else g.n,(goU g.u (ah h.path).1 h.worth).u⟩
def ji (u:U):GotV:=(bL u.c.hoards 100).foldl ir ⟨0,u⟩
def qG (l:List Entry):List UInt8:=l.flatMap λe=>e.name++[10]
structure GotS where
 u:U
 r:Reply
def jz (kind:Int) (g:Got):Reply:=
 if g.e≠0 then ⟨g.e,0,0,[]⟩
 else if kind=1 then (if g.n.dir=true then ⟨9,0,0,[]⟩ else ⟨0,0,0,g.n.data⟩)
 else if g.n.dir=true then ⟨0,0,0,qG g.n.entries⟩ else ⟨8,0,0,[]⟩
def bG (e:Int):Reply:=⟨e,0,0,[]⟩
noncomputable def ar (u:U) (x:Step):GotS:=
 if x.kind=1\/x.kind=2 then (if (ah x.path).2≠0 then ⟨u,bG (ah x.path).2⟩ else ⟨(goU u (ah x.path).1 0).u,jz x.kind (goU u (ah x.path).1 0)⟩)
 else if x.kind=3 then ⟨(bn u x.path x.data).u,bG (bn u x.path x.data).e⟩
 else if x.kind=4 then ⟨(fh u x.path).u,bG (fh u x.path).e⟩
 else if x.kind=5 then ⟨(cn u x.path).u,bG (cn u x.path).e⟩
 else if x.kind=6 then ⟨(fJ u x.path x.toPath).u,bG (fJ u x.path x.toPath).e⟩
 else if x.kind=7 then ⟨⟨{ u.c with away:=true },u.s⟩,bG 0⟩
 else if x.kind=8 then ⟨cA u,⟨0,fc (bm u),((bm u).length-fc (bm u):Nat),[]⟩⟩
 else if x.kind=9 then ⟨(fX u x.path x.n).u,bG (fX u x.path x.n).e⟩
 else if x.kind=10 then (if u.c.away=true then ⟨u,bG 12⟩ else ⟨(ji u).u,⟨0,(ji u).n,0,[]⟩⟩)
 else ⟨u,bG 1⟩
structure GotW where
 w:Wor
 r:Reply
def aS (t:List Node) (c:Cli):Cli:=if c.away=true then c else fV c t
noncomputable def ai (w:Wor) (x:Step):GotW:=
 if x.client<0\/x.client≥w.cs.length then ⟨w,bG 6⟩
 else ⟨⟨(ar ⟨w.cs.getD x.client.toNat default,w.s⟩ x).u.s,(w.cs.set x.client.toNat (ar ⟨w.cs.getD x.client.toNat default,w.s⟩ x).u.c).map (aS (ar ⟨w.cs.getD x.client.toNat default,w.s⟩ x).u.s.tree)⟩,(ar ⟨w.cs.getD x.client.toNat default,w.s⟩ x).r⟩
def eZ (number room:Int):Cli:=⟨number,false,room,[],[],[],[],0,0,0⟩
def cz (rooms:List Int):Int:=if rooms.length<1\/3<rooms.length then 5 else if rooms.all (λn=>decide (3≤n)&&decide (n≤24)) then 0 else 3
def nx (rooms:List Int) (i:Nat):List Cli:=(List.range i).map λ(j:Nat)=>eZ (j:Int) (rooms.getD j 0)
def bj:Srv:=⟨[aA],1,[]⟩
def bo (rooms:List Int):Wor:=⟨bj,nx rooms rooms.length⟩
noncomputable def IV (rooms:List Int) (l:List Step):Wor:=l.foldl (λw x=>(ai w x).w) (bo rooms)
end La
namespace La
open Go Go.Eng Go.Proofs
end La
