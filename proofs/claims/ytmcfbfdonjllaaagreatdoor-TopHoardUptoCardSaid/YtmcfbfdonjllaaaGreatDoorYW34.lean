/- Texts of this claim, part 34: PHrd, PHrd2, WHoard. No condition. -/
import Derived.Test.YtmcfbfdonjllaaaGreatDoorYW30
import Derived.Test.YtmcfbfdonjllaaaGreatDoorYW25
set_option maxRecDepth 10000
set_option maxHeartbeats 4000000
set_option linter.unusedSimpArgs false
set_option linter.unusedVariables false
namespace La
open Go Go.Eng
structure HI (S:List Int) (u:U):Prop where
 here:u.c.away=false
 inv:∃B T,ij B T u
 room:u.c.room=4
 has:∀f,f∈S->∃x,x∈u.c.cache/\x.node.fid=f/\(f≠0->1≤x.worth)
 oth:∀x,x∈u.c.cache->x.node.fid∉S->x.worth=0
theorem vJ (a b:Int):a≤kT a b/\b≤kT a b:=by unfold kT;split<;>omega
theorem outside {l:List Kept} {S:List Int} (hn:(l.map λx=>x.node.fid).Nodup) (h:S.length<l.length):∃x,x∈l/\x.node.fid∉S:=by
 by_cases hc:∃x,x∈l/\x.node.fid∉S
 ·exact hc
 ·exfalso
  have hs:∀f,f∈l.map (λx=>x.node.fid)->f∈S:=λf hf=>by
   obtain ⟨x,hx,rfl⟩:=Z7.1 hf
   by_cases e:x.node.fid∈S
   ·exact e
   ·exact absurd ⟨x,hx,e⟩ hc
  have key:∀(a b:List Int),a.Nodup->(∀f,f∈a->f∈b)->a.length≤b.length:=λa=>by
   induction a with
   | nil=>intro b _ _;simp
   | cons x a ih=>
    intro b ha hb;have ha:=List.nodup_cons.1 ha;obtain ⟨b1,b2,rfl⟩:=List.append_of_mem (hb x List.mem_cons_self);have:=ih (b1++b2) ha.2 λf hf=>by
     have h1:=hb f (List.mem_cons_of_mem _ hf)
     rcases List.mem_append.1 h1 with h1 | h1
     ·exact WM _ h1
     ·rcases List.mem_cons.1 h1 with rfl | h1
      ·exact absurd hf ha.1
      ·exact WB _ h1
    rw[List.length_append] at this;rw[List.length_cons,List.length_append,List.length_cons];omega
  have:=key _ S hn hs;rw[List.length_map] at this;omega
theorem HI.stay {S:List Int} {u:U} (h:HI S u) (hS:S=[]\/(0∈S/\S.length≤3)) {k:Kept} (hno:∀x,x∈u.c.cache->x.node.fid≠k.node.fid) {L:List Kept} (hk:cB u.c.cache u.c.room k=some L) :
  ∃L0,L=L0++[k]/\(∀x,x∈L0->x∈u.c.cache)/\∀g,g∈S->∀x,x∈u.c.cache->x.node.fid=g->(g≠0->1≤x.worth)->x∈L0:=by
 obtain ⟨B2,T2,hL⟩:=h.inv;have hnod:=hL.cli.nod;have hlen:=hL.cli.len;have hroom:=h.room;unfold cB at hk;have hpl:dq u.c.cache k.node.fid=none:=WL.2 λy hy=>by simpa using hno y hy
 rw[hpl] at hk;obtain ⟨L0,h0,rfl⟩:=WN.1 hk;refine ⟨L0,rfl,λx hx=>(gl _ _ _ h0).subset hx,λg hg x hx hxf hxw=>?_⟩;rw[cG] at h0;split at h0
 ·rename_i hge;have hlen4:u.c.cache.length=4:=by omega
  have hSl:S.length<u.c.cache.length:=by
   rcases hS with rfl | ⟨_,hS⟩
   ·cases hg
   ·omega
  obtain ⟨z,hz,hzS⟩:=outside hnod hSl;have hz0:=h.oth z hz hzS;have h0S:0∈S:=by
   rcases hS with rfl | ⟨hS,_⟩
   ·cases hg
   ·exact hS
  cases hwk:nY u.c.cache with
  | none=>rw[hwk] at h0;cases h0
  | some i=>
   rw[hwk] at h0;simp only at h0;have hi:i<u.c.cache.length:=eU _ _ i hwk;have hE:(u.c.cache.eraseIdx i).length=3:=by rw[Wx,if_pos hi];omega
   rw[hlen4,show (4:Nat)=3+1 from rfl,cG,if_neg (by rw[hE];omega)] at h0;injection h0 with h0
   subst h0;obtain ⟨w1,w2⟩:=(iF u.c.cache u.c.cache.length).2 i hwk;obtain ⟨j,hj⟩:=Z9 hx;have hjl:j<u.c.cache.length:=(Z8.1 hj).1;have hjd:u.c.cache.getD j default=x:=by rw[Z1,hj];rfl
   have hji:j≠i:=λe=>by
    subst e;rw[hjd] at w1 w2;obtain ⟨q,hq⟩:=Z9 hz;have hql:q<u.c.cache.length:=(Z8.1 hq).1;have hqd:u.c.cache.getD q default=z:=by rw[Z1,hq];rfl
    have hzd:z.dirty=false:=((hL.cli.here h.here).2 z hz).1;have hzm:gg z=true:=by
     unfold gg;rw[hzd];have:z.node.fid≠0:=λe=>hzS (by rw[e];exact h0S)
     simp[this]
    have h3:=w2 q hql (by rw[hqd];exact hzm);rw[hqd,hz0] at h3;have hx0:g≠0:=λe=>by
     unfold gg at w1;rw[hxf,e] at w1;simp at w1
    have:=hxw hx0;omega
   rw[List.mem_eraseIdx_iff_getElem?];exact ⟨j,hji,hj⟩
 ·injection h0 with h0
  subst h0;exact hx
theorem HI.JK {S:List Int} {u:U} (h:HI S u) (f w:Int) (hw:w=0\/(1≤w/\f∈S)):HI S (cj u f w):=by
 obtain ⟨B,T,hI⟩:=h.inv;refine ⟨h.here,⟨_,_,kl hI f w⟩,h.room,λg hg=>?_,λx hx hxS=>?_⟩
 ·obtain ⟨x,hx,hxf,hxw⟩:=h.has g hg;refine ⟨eE f w (u.c.clock+1) x,Z7.2 ⟨x,hx,rfl⟩,by rw[eB];exact hxf,λhg0=>?_⟩;have:=hxw hg0;unfold eE;split
  ·have:=(vJ x.worth w).1
   show 1≤kT x.worth w
   omega
  ·exact this
 ·obtain ⟨y,hy,rfl⟩:=Z7.1 hx;rw[eB] at hxS;have h0:=h.oth y hy hxS;unfold eE;split
  ·rename_i e
   show kT y.worth w=0
   rcases hw with rfl | ⟨_,hw⟩
   ·rw[h0];rfl
   ·rw[e] at hxS;exact absurd hw hxS
  ·exact h0
theorem HI.get {S:List Int} {u:U} (h:HI S u) (hS:S=[]\/(0∈S/\S.length≤3)) (f:Int):HI S (aO u f 0).u:=by
 obtain ⟨B,T,hI⟩:=h.inv;have hIg:=cg hI f 0;have hlook:=h.JK f 0 (.inl rfl);unfold aO at hIg ⊢;split
 ·exact hlook
 ·rename_i hnk;rw[if_neg (by simp[h.here])];split
  ·exact hlook
  ·rename_i n hn;have hnt:=(ZO hI.srv.hist.bV.up).1 hn;have hno:∀x,x∈(cj u f 0).c.cache->x.node.fid≠(⟨n,false,0,u.c.clock+1⟩:Kept).node.fid:=λx hx=>by
    obtain ⟨y,hy,h1,_⟩:=fZ hx;rw[←h1]
    show y.node.fid≠n.fid
    rw[hnt.2];exact gM.1 hnk y hy
   rw[hnk] at hIg;simp only[h.here,Bool.false_eq_true,if_false,hn] at hIg;unfold ju at hIg ⊢;cases hk:cB (cj u f 0).c.cache (cj u f 0).c.room ⟨n,false,0,u.c.clock+1⟩ with
   | none=>exact hlook
   | some L=>
    rw[hk] at hIg;obtain ⟨L0,rfl,k1,k2⟩:=hlook.stay hS hno hk;refine ⟨h.here,⟨_,_,hIg⟩,h.room,λg hg=>?_,λx hx hxS=>?_⟩
    ·obtain ⟨x,hx,hxf,hxw⟩:=hlook.has g hg;exact ⟨x,WM _ (k2 g hg x hx hxf hxw),hxf,hxw⟩
    ·rcases List.mem_append.1 hx with hx | hx
     ·exact hlook.oth x (k1 x hx) hxS
     ·rw[List.mem_singleton.1 hx]
theorem HI.more {S:List Int} {u:U} (h:HI S u) (hS:S=[]\/(0∈S/\S.length≤2)) {f w:Int} (hw:1≤w) {n:Node} (hn:af u.s.tree f=some n):HI (f::S) (aO u f w).u/\(aO u f w).n=n/\(aO u f w).e=0:=by
 obtain ⟨B,T,hI⟩:=h.inv;have hIg:=cg hI f w;have hgh:=mS hI h.here f w;have hgn:((aO u f w).n,(aO u f w).e)=(n,0):=by rw[hgh];unfold d_;rw[hn]
 refine ⟨?_,(Prod.mk.inj hgn).1,(Prod.mk.inj hgn).2⟩;have hlI:∃B T,ij B T (cj u f w):=⟨_,_,kl hI f w⟩;have hL1:HI S (cj u f w)\/True:=.inr trivial;have hlook:(∀g,g∈S->∃x,x∈(cj u f w).c.cache/\x.node.fid=g/\(g≠0->1≤x.worth))/\∀x,x∈(cj u f w).c.cache->x.node.fid∉f::S->x.worth=0:=by
  constructor
  ·intro g hg;obtain ⟨x,hx,hxf,hxw⟩:=h.has g hg;refine ⟨eE f w (u.c.clock+1) x,Z7.2 ⟨x,hx,rfl⟩,by rw[eB];exact hxf,λhg0=>?_⟩;have:=hxw hg0;unfold eE;split
   ·have:=(vJ x.worth w).1
    show 1≤kT x.worth w
    omega
   ·exact this
  ·intro x hx hxS;obtain ⟨y,hy,rfl⟩:=Z7.1 hx;rw[eB] at hxS;have h0:=h.oth y hy λe=>hxS (List.mem_cons_of_mem _ e)
   unfold eE;split
   ·rename_i e;exact absurd Q7 hxS
   ·exact h0
 clear hL1;unfold aO at hIg ⊢;cases hnk:bg u.c.cache f with
 | some m=>
  rw[hnk] at hIg;refine ⟨h.here,⟨_,_,hIg⟩,h.room,λg hg=>?_,hlook.2⟩
  rcases List.mem_cons.1 hg with rfl | hg
  ·obtain ⟨x,hx,hxm,hxf⟩:=uE hnk;refine ⟨eE g w (u.c.clock+1) x,Z7.2 ⟨x,hx,rfl⟩,by rw[eB,hxm];exact hxf,λ_=>?_⟩;unfold eE;rw[if_pos (by rw[hxm];exact hxf)];have:=(vJ x.worth w).2
   show 1≤kT x.worth w
   omega
  ·exact hlook.1 g hg
 | none=>
  rw[hnk] at hIg;simp only[h.here,Bool.false_eq_true,if_false,hn] at hIg ⊢;have hnt:=(ZO hI.srv.hist.bV.up).1 hn;have hno0:∀y,y∈u.c.cache->y.node.fid≠f:=gM.1 hnk;have hsame:(cj u f w).c.cache=u.c.cache:=by
   show u.c.cache.map (eE f w (u.c.clock+1))=u.c.cache
   refine (Wo λy hy=>?_).trans (List.map_id _);unfold eE;rw[if_neg (hno0 y hy)];rfl
  have hH:HI S (cj u f w):=⟨h.here,hlI,h.room,λg hg=>by rw[hsame];exact h.has g hg,λx hx=>by rw[hsame] at hx;exact h.oth x hx⟩;have hno:∀x,x∈(cj u f w).c.cache->x.node.fid≠(⟨n,false,w,u.c.clock+1⟩:Kept).node.fid:=λx hx=>by
   rw[hsame] at hx
   show x.node.fid≠n.fid
   rw[hnt.2];exact hno0 x hx
  have hS3:S=[]\/(0∈S/\S.length≤3):=by
   rcases hS with h1 | ⟨h1,h2⟩
   ·exact .inl h1
   ·exact .inr ⟨h1,by omega⟩
  unfold ju at hIg ⊢;cases hk:cB (cj u f w).c.cache (cj u f w).c.room ⟨n,false,w,u.c.clock+1⟩ with
  | none=>
   exfalso
   obtain ⟨B2,T2,hL⟩:=hlI;have hge:4≤(cj u f w).c.cache.length:=by
    have h1:=hk;unfold cB at h1;have hpl:dq (cj u f w).c.cache n.fid=none:=WL.2 λy hy=>by simpa using hno y hy
    rw[show (⟨n,false,w,u.c.clock+1⟩:Kept).node.fid=n.fid from rfl,hpl] at h1;simp only[Option.map_eq_none_iff] at h1;rw[cG] at h1;split at h1
    ·rename_i h2;have:=hH.room;omega
    ·cases h1
   obtain ⟨z,hz,hzS⟩:=outside (S:=0::S) hL.cli.nod (by
    rcases hS with rfl | ⟨_,hS⟩
    ·simp;omega
    ·simp;omega)
   have hzd:z.dirty=false:=((hL.cli.here h.here).2 z hz).1;have h1:=BU hL.cli.len hk z hz;unfold gg at h1;rw[hzd] at h1;have:z.node.fid≠0:=λe=>hzS Q7
   simp[this] at h1
  | some L=>
   rw[hk] at hIg;obtain ⟨L0,rfl,k1,k2⟩:=hH.stay hS3 hno hk;refine ⟨h.here,⟨_,_,hIg⟩,h.room,λg hg=>?_,λx hx hxS=>?_⟩
   ·rcases List.mem_cons.1 hg with rfl | hg
    ·exact ⟨⟨n,false,w,u.c.clock+1⟩,WB _ (List.mem_singleton.2 rfl),hnt.2,λ_=>hw⟩
    ·obtain ⟨x,hx,hxf,hxw⟩:=hH.has g hg;exact ⟨x,WM _ (k2 g hg x hx hxf hxw),hxf,hxw⟩
   ·rcases List.mem_append.1 hx with hx | hx
    ·exact hH.oth x (k1 x hx) λe=>hxS (List.mem_cons_of_mem _ e)
    ·rw[List.mem_singleton.1 hx] at hxS;exact absurd (by show n.fid∈_;rw[hnt.2];exact List.mem_cons_self) hxS
theorem DM {S:List Int} (hS:S=[]\/(0∈S/\S.length≤3)):∀(l:List (List UInt8)) (g:Got),HI S g.u->HI S (goR 0 l g).u
 | [],g,h=>by unfold goR;split<;>exact h
 | s::r,g,h=>by
  unfold goR;split
  ·exact h
  ·split
   ·exact h
   ·split
    ·exact h
    ·exact DM hS r _ (h.get hS _)
theorem zm {B T:Nat} {u:U} (h:ij B T u) (ha:u.c.away=false):aS u.s.tree u.c=u.c:=by
 unfold aS fV;rw[if_neg Qu];have:u.c.cache.filter (λk=>!dU u.s.tree k)=u.c.cache:=C7 λk hk=>by rw[CA h.srv.hist.bV.up ((h.cli.here ha).2 k hk).2];rfl
 rw[this]
structure T3 (t:List Node) (data:List UInt8):Prop where
 r:∃r,af t 0=some r/\r.dir=true/\ay r [100]=some 1
 d:∃d,af t 1=some d/\d.dir=true/\ay d [102]=some 2
 n:∃n,af t 2=some n/\n.dir=false/\n.data=data
def cq:List UInt8:=[47,100,47,102]
theorem vZ:ah cq=([[100],[102]],0):=by kernel_rfl
theorem Ie {u:U} {data:List UInt8} (h:HI [] u) (t:T3 u.s.tree data) {w:Int} (hw:1≤w):HI [2,1,0] (goU u [[100],[102]] w).u:=by
 obtain ⟨r,r1,r2,r3⟩:=t.r;obtain ⟨d,d1,d2,d3⟩:=t.d;obtain ⟨n,n1,n2,n3⟩:=t.n;obtain ⟨h1,e1,f1⟩:=h.more (.inl rfl) hw r1;have s1:=nJ u 0 w;unfold goU;generalize aO u 0 w=g at *;obtain ⟨h2,e2,f2⟩:=h1.more (.inr ⟨by simp,by simp⟩) hw (by rw[s1];exact d1);have s2:=nJ g.u 1 w;unfold goR;rw[if_neg (by rw[f1];simp),e1,if_neg (by rw[r2];simp),r3];simp only;generalize aO g.u 1 w=g' at *;obtain ⟨h3,_,_⟩:=h2.more (.inr ⟨by simp,by simp⟩) hw (by rw[s2,s1];exact n1);unfold goR;rw[if_neg (by rw[f2];simp),e2,if_neg (by rw[d2];simp),d3];simp only;unfold goR;split<;>exact h3
structure HW (S:List Int) (w:Wor) (data:List UInt8) (hs:List Hoard):Prop where
 c:∃c,w.cs=[c]/\HI S ⟨c,w.s⟩/\c.hoards=hs
 t:T3 w.s.tree data
theorem CC (u:U) {path:List UInt8} {l:List (List UInt8)} (h:ah path=(l,0)):(ar u ⟨1,0,0,path,[],[]⟩).r=jz 1 (goU u l 0):=by
 show (if (ah path).2≠0 then (⟨u,bG (ah path).2⟩:GotS) else ⟨(goU u (ah path).1 0).u,jz 1 (goU u (ah path).1 0)⟩).r=_
 rw[h,if_neg y7]
theorem HW.of {S:List Int} {c:Cli} {s:Srv} {x:Step} {data:List UInt8} {hs:List Hoard} (hx:x.client=0) (h:HI S (ar ⟨c,s⟩ x).u) (hh:(ar ⟨c,s⟩ x).u.c.hoards=hs) (ht:(ar ⟨c,s⟩ x).u.s=s) (t:T3 s.tree data):HW S (ai ⟨s,[c]⟩ x).w data hs:=by
 obtain ⟨B,T,hI⟩:=h.inv;rw[fN (w:=⟨s,[c]⟩) rfl hx,zm hI h.here];exact ⟨⟨_,rfl,h,hh⟩,by rw[ht];exact t⟩
theorem HW.read {S:List Int} (hS:S=[]\/(0∈S/\S.length≤3)) {w:Wor} {data:List UInt8} {hs:List Hoard} (h:HW S w data hs) (path:List UInt8):HW S (ai w ⟨1,0,0,path,[],[]⟩).w data hs:=by
 obtain ⟨c,hc,hI,hh⟩:=h.c;have hw:w=⟨w.s,[c]⟩:=by rw[←hc]
 rw[hw];have hst:(ar ⟨c,w.s⟩ ⟨1,0,0,path,[],[]⟩).u=⟨c,w.s⟩\/(ar ⟨c,w.s⟩ ⟨1,0,0,path,[],[]⟩).u=(goU ⟨c,w.s⟩ (ah path).1 0).u:=by
  show (if (ah path).2≠0 then (⟨⟨c,w.s⟩,_⟩:GotS) else ⟨(goU ⟨c,w.s⟩ (ah path).1 0).u,_⟩).u=_\/_
  split
  ·exact .inl rfl
  ·rename_i e;refine .inr ?_
   show (if (ah path).2≠0 then (⟨⟨c,w.s⟩,_⟩:GotS) else ⟨(goU ⟨c,w.s⟩ (ah path).1 0).u,_⟩).u=_
   rw[if_neg e]
 rcases hst with e | e
 ·exact HW.of rfl (by rw[e];exact hI) (by rw[e];exact hh) (by rw[e]) h.t
 ·refine HW.of rfl (by rw[e];exact DM hS _ _ (hI.get hS 0)) (by rw[e];exact (iY _ _ _).hoards.trans hh) (by rw[e];exact sf _ _ _) h.t
theorem HW.JH {w:Wor} {data:List UInt8} (h:HW [] w data []) {v:Int} (hv:1≤v/\v≤100):HW [] (ai w ⟨9,0,v,cq,[],[]⟩).w data [⟨cq,v⟩]:=by
 obtain ⟨c,hc,hI,hh⟩:=h.c;have hw:w=⟨w.s,[c]⟩:=by rw[←hc]
 rw[hw];have hst:(ar ⟨c,w.s⟩ ⟨9,0,v,cq,[],[]⟩).u=⟨{ c with hoards:=[⟨cq,v⟩] },w.s⟩:=by
  show (fX ⟨c,w.s⟩ cq v).u=_
  unfold fX;rw[vZ,hh,if_neg y7,if_neg z7,if_neg (by simp[ee]),if_pos z7];rfl
 obtain ⟨B,T,hu⟩:=hI.inv;have hst2:=ti hu ⟨9,0,v,cq,[],[]⟩;rw[hst] at hst2;exact HW.of rfl (by rw[hst];exact ⟨hI.here,⟨_,_,hst2⟩,hI.room,hI.has,hI.oth⟩) (by rw[hst]) (by rw[hst]) h.t
theorem uG {p:List UInt8}:∀(n:Nat) {v:Int},(1≤v/\v≤n->bL [⟨p,v⟩] n=[⟨p,v⟩])/\(v>n->bL [⟨p,v⟩] n=[])
 | 0,v=>⟨λh=>by have:=h.1;have:=h.2;omega,λ_=>rfl⟩
 | n+1,v=>by
  obtain ⟨h1,h2⟩:=uG (p:=p) n (v:=v);unfold bL;constructor
  ·intro h
   by_cases e:v=((n+1:Nat):Int)
   ·rw[List.filter_cons,if_pos Qz,h2 z7];rfl
   ·rw[List.filter_cons,if_neg Qz,h1 z7];rfl
  ·intro h;rw[List.filter_cons,if_neg k7,h2 z7];rfl
theorem HW.walk {w:Wor} {data:List UInt8} {v:Int} (hv:1≤v/\v≤100) (h:HW [] w data [⟨cq,v⟩]):HW [2,1,0] (ai w ⟨10,0,0,[],[],[]⟩).w data [⟨cq,v⟩]:=by
 obtain ⟨c,hc,hI,hh⟩:=h.c;have hw:w=⟨w.s,[c]⟩:=by rw[←hc]
 have ha:c.away=false:=hI.here;rw[hw];have hst:(ar ⟨c,w.s⟩ ⟨10,0,0,[],[],[]⟩).u=(goU ⟨c,w.s⟩ [[100],[102]] v).u:=by
  show (if c.away=true then (⟨⟨c,w.s⟩,_⟩:GotS) else ⟨(ji ⟨c,w.s⟩).u,_⟩).u=_
  rw[if_neg Qu]
  show ((bL c.hoards 100).foldl ir ⟨0,⟨c,w.s⟩⟩).u=_
  rw[hh,(uG 100).1 hv]
  show (goU ⟨c,w.s⟩ (ah cq).1 v).u=_
  rw[vZ]
 exact HW.of rfl (by rw[hst];exact Ie hI h.t hv.1) (by rw[hst];exact (iY _ _ _).hoards.trans hh) (by rw[hst];exact sf _ _ _) h.t
theorem HW.reads {S:List Int} (hS:S=[]\/(0∈S/\S.length≤3)) {data:List UInt8} {hs:List Hoard}:∀(l:List (List UInt8)) {w:Wor},HW S w data hs->HW S (bO w (l.map λp=>⟨1,0,0,p,[],[]⟩)) data hs
 | [],_,h=>h
 | p::l,_,h=>HW.reads hS l (h.read hS p)
theorem HW.last {w:Wor} {data:List UInt8} {hs:List Hoard} (h:HW [2,1,0] w data hs):(ai (ai w ba).w ⟨1,0,0,cq,[],[]⟩).r=⟨0,0,0,data⟩:=by
 obtain ⟨c,hc,hI,hh⟩:=h.c;have hw:w=⟨w.s,[c]⟩:=by rw[←hc]
 obtain ⟨B,T,hu⟩:=hI.inv;have hk:∀f,f∈([2,1,0]:List Int)->bg c.cache f=af w.s.tree f:=λf hf=>by
  obtain ⟨x,hx,hxf,_⟩:=hI.has f hf;have ht:=((hu.cli.here hI.here).2 x hx).2;rw[(gL hu.cli.nod).2 ⟨x,hx,rfl,hxf⟩,(ZO hu.srv.hist.bV.up).2 ⟨ht,hxf⟩]
 rw[hw,mH (x:=ba) rfl QZ];have ha:(⟨{ c with away:=true },w.s⟩:U).c.away=true:=rfl
 show (ai ⟨w.s,[{ c with away:=true }]⟩ ⟨1,0,0,cq,[],[]⟩).r=_
 rw[fN (w:=⟨w.s,[{ c with away:=true }]⟩) (c:={ c with away:=true }) rfl rfl]
 show (ar ⟨{ c with away:=true },w.s⟩ ⟨1,0,0,cq,[],[]⟩).r=_
 rw[CC _ vZ]
 show jz 1 (goU ⟨{ c with away:=true },w.s⟩ [[100],[102]] 0)=_
 have hg:=(AR ha [[100],[102]] 0).1;obtain ⟨r,r1,r2,r3⟩:=h.t.r;obtain ⟨d,d1,d2,d3⟩:=h.t.d;obtain ⟨n,n1,n2,n3⟩:=h.t.n;have hgo:aGo (bg c.cache) [[100],[102]]=(n,0):=by
  unfold aGo;rw[show jn (bg c.cache) 0=(r,0) from by unfold jn;rw[hk 0 y7,r1],Au _ _ rfl];simp only[r2,Bool.true_eq_false,if_false,r3];rw[show jn (bg c.cache) 1=(d,0) from by unfold jn;rw[hk 1 y7,d1],Au _ _ rfl];simp only[d2,Bool.true_eq_false,if_false,d3];rw[show jn (bg c.cache) 2=(n,0) from by unfold jn;rw[hk 2 y7,n1]];rfl
 have hg:((goU ⟨{ c with away:=true },w.s⟩ [[100],[102]] 0).n,(goU ⟨{ c with away:=true },w.s⟩ [[100],[102]] 0).e)=(n,0):=hg.trans hgo;obtain ⟨g1,g2⟩:=Prod.mk.inj hg;unfold jz;rw[g1,g2,if_neg y7,if_pos rfl,if_neg (by simp[n2]),n3]
def Rt:Node:=⟨0,true,[],[⟨[100],1⟩],1⟩
def Dd:Node:=⟨1,true,[],[⟨[102],2⟩],2⟩
def Ff (data:List UInt8):Node:=⟨2,false,data,[],3⟩
def W2 (data:List UInt8):Wor:=⟨⟨[Rt,Dd,Ff data],3,[⟨0,⟨2,1,0,[100],0,[],[]⟩⟩,⟨0,⟨1,2,1,[102],0,[],[]⟩⟩,⟨0,⟨3,2,0,[],0,[],data⟩⟩]⟩,[⟨0,false,4,[⟨Rt,false,0,4⟩,⟨Dd,false,0,5⟩],[],[],[],6,0,0⟩]⟩
def hdS:Step:=⟨4,0,0,[47,100],[],[]⟩
def fS (data:List UInt8):Step:=⟨3,0,0,cq,[],data⟩
def oP (k:Nat):List UInt8:=[47,97+k.toUInt8]
def c1d:Cli:=⟨0,false,4,[],[],[],[],1,0,0⟩
def s1d:Srv:=⟨[Rt,⟨1,true,[],[],1⟩],2,[⟨0,⟨2,1,0,[100],0,[],[]⟩⟩]⟩
def c2d:Cli:=⟨0,false,4,[⟨Rt,false,0,4⟩,⟨Dd,false,0,5⟩,⟨⟨2,false,[],[],2⟩,false,0,6⟩],[],[],[],6,0,0⟩
def s2d:Srv:=⟨[Rt,Dd,⟨2,false,[],[],2⟩],3,[⟨0,⟨2,1,0,[100],0,[],[]⟩⟩,⟨0,⟨1,2,1,[102],0,[],[]⟩⟩]⟩
theorem Dc:(ai (bo [4]) hdS).w=⟨s1d,[c1d]⟩:=by kernel_rfl
theorem De {data:List UInt8} (hd:data.length≤20):(ai ⟨s1d,[c1d]⟩ (fS data)).w=W2 data:=by
 have e1:bn ⟨c1d,s1d⟩ cq data=if data.length>20 then ⟨4,(au ⟨c1d,s1d⟩ cq).u⟩ else jl ⟨⟨2,false,[],[],2⟩,0,⟨c2d,s2d⟩⟩ data:=by kernel_rfl
 have he:cr s2d.tree (stA 2 data)=0:=(fA _ _).2 ⟨⟨2,false,[],[],2⟩,by kernel_rfl,rfl,hd⟩;have ht:doS s2d 0 (az 2 data)=(W2 data).s:=by
  have h1:aH s2d.tree (stA 2 data) 3=[Rt,Dd,Ff data]:=by
   show bM _ _ _=_
   unfold bM;rw[if_pos he]
   kernel_rfl
  show (⟨aH s2d.tree (stA 2 data) 3,3,_⟩:Srv)=_
  rw[h1];rfl
 have e2:jl ⟨⟨2,false,[],[],2⟩,0,⟨c2d,s2d⟩⟩ data=⟨0,⟨fV c2d (W2 data).s.tree,(W2 data).s⟩⟩:=by
  show fo ⟨c2d,s2d⟩ (az 2 data)=_
  unfold fo;rw[if_pos (show doE s2d (az 2 data)=0 from he)]
  show (⟨0,⟨fV _ (doS s2d 0 (az 2 data)).tree,doS s2d 0 (az 2 data)⟩⟩:GotE)=_
  rw[ht]
 rw[fN (w:=⟨s1d,[c1d]⟩) (c:=c1d) rfl rfl];have e3:ar ⟨c1d,s1d⟩ (fS data)=⟨⟨fV c2d (W2 data).s.tree,(W2 data).s⟩,bG 0⟩:=by
  show (⟨(bn _ cq data).u,bG (bn _ cq data).e⟩:GotS)=_
  rw[e1,if_neg z7,e2]
 rw[e3]
 change (_:Wor)=_
 kernel_rfl
theorem HW.start {w:Wor} {data:List UInt8} (hw:∃B T,WInv B T w) (h1:w.cs.length=1) (h2:(w.cs.getD 0 default).away=false) (h3:(w.cs.getD 0 default).room=4) (h4:(w.cs.getD 0 default).hoards=[]) (h5:(w.cs.getD 0 default).cache.all (λk=>k.worth==0)=true)
  (t:T3 w.s.tree data):HW [] w data []:=by
 obtain ⟨B,T,hw⟩:=hw;obtain ⟨c,hc⟩:=List.length_eq_one_iff.1 h1;rw[hc] at h2 h3 h4 h5;refine ⟨⟨c,hc,⟨h2,⟨B,T,hw.srv,hw.cli c (by rw[hc];exact List.mem_singleton.2 rfl)⟩,h3,λf hf=>(by cases hf),λx hx _=>?_⟩,h4⟩,t⟩;have:=List.all_eq_true.1 h5 x hx;simpa using this
def gi (n:Nat):List Step:=(List.range n).map λk=>⟨3,0,0,oP k,[],[120]⟩
def mm (n:Nat):List Step:=(List.range n).map λk=>⟨1,0,0,oP k,[],[]⟩
theorem T3.of {t:List Node} {data:List UInt8} {r d:Node} (h0:af t 0=some r) (r1:r.dir=true) (r2:ay r [100]=some 1) (h1:af t 1=some d) (d1:d.dir=true) (d2:ay d [102]=some 2) (h2:af t 2=some (Ff data)):T3 t data:=
 ⟨⟨r,h0,r1,r2⟩,⟨d,h1,d1,d2⟩,⟨Ff data,h2,rfl,rfl⟩⟩
theorem IU {data:List UInt8} (hd:data.length≤20):∀n,n≤5->HW [] (bO (W2 data) (gi n)) data []:=λn hn=>by
 have hr:cz [4]=0:=by decide
 have hW:∃B T,WInv B T (W2 data):=by
  have a1:=bl (oO hr) hdS;rw[Dc] at a1;have a2:=bl a1 (fS data);rw[De hd] at a2;exact ⟨_,_,a2⟩
 obtain ⟨B,T,hW⟩:=hW;have hWn:=G9 hW (gi n);have hcase:n=0\/n=1\/n=2\/n=3\/n=4\/n=5:=by omega
 rcases hcase with rfl | rfl | rfl | rfl | rfl | rfl
 ·exact HW.start hWn w9 w9 w9 w9 w9 (T3.of (r:=bd (bO (W2 data) (gi 0)).s.tree 0) (d:=Dd) w9 w9 w9 w9 rfl w9 w9)
 ·exact HW.start hWn w9 w9 w9 w9 w9 (T3.of (r:=bd (bO (W2 data) (gi 1)).s.tree 0) (d:=Dd) w9 w9 w9 w9 rfl w9 w9)
 ·exact HW.start hWn w9 w9 w9 w9 w9 (T3.of (r:=bd (bO (W2 data) (gi 2)).s.tree 0) (d:=Dd) w9 w9 w9 w9 rfl w9 w9)
 ·exact HW.start hWn w9 w9 w9 w9 w9 (T3.of (r:=bd (bO (W2 data) (gi 3)).s.tree 0) (d:=Dd) w9 w9 w9 w9 rfl w9 w9)
 ·exact HW.start hWn w9 w9 w9 w9 w9 (T3.of (r:=bd (bO (W2 data) (gi 4)).s.tree 0) (d:=Dd) w9 w9 w9 w9 rfl w9 w9)
 ·exact HW.start hWn w9 w9 w9 w9 w9 (T3.of (r:=bd (bO (W2 data) (gi 5)).s.tree 0) (d:=Dd) w9 w9 w9 w9 rfl w9 w9)
theorem BN {data:List UInt8} (hd:data.length≤20) {n:Nat} (hn:n≤5) {v:Int} (hv:1≤v/\v≤100) :
  ∃l,rsW (bo [4]) (hdS::fS data::(gi n++(⟨9,0,v,cq,[],[]⟩::⟨10,0,0,[],[],[]⟩::(mm n++[ba,⟨1,0,0,cq,[],[]⟩]))))=l++[⟨0,0,0,data⟩]:=by
 have h1:=(IU hd n hn).JH hv;have h2:=HW.walk hv h1;have h3:=HW.reads (.inr ⟨by simp,by simp⟩) ((List.range n).map oP) h2;have e:(((List.range n).map oP).map λp=>(⟨1,0,0,p,[],[]⟩:Step))=mm n:=by unfold mm;rw[Wn];rfl
 rw[e] at h3;have h4:=h3.last;rw[bF,Dc,bF,De hd,nd,bF,bF,nd,bF,bF,h4];have key:∀(a b c d e f:Reply) (X Y:List Reply),∃l,a::b::(X++(c::d::(Y++[e,f])))=l++[f]:=λa b c d e f X Y=>⟨a::b::(X++(c::d::(Y++[e]))),by simp⟩
 exact key _ _ _ _ _ _ _ _
end La
namespace La
open Go Go.Eng Go.Proofs
def hoA (data:List UInt8) (i:Nat):List Step:=hdS::fS data::gi i
def hoB (data:List UInt8) (n:Nat) (v:Int) (i:Nat):List Step:=hoA data n++(⟨9,0,v,cq,[],[]⟩::⟨10,0,0,[],[],[]⟩::mm i)
theorem AT (data:List UInt8) (i:Nat):(hoA data i).length=i+2:=by simp[hoA,gi]
theorem AU (data:List UInt8) (n:Nat) (v:Int) (i:Nat):(hoB data n v i).length=n+i+4:=by simp[hoB,AT,mm];omega
theorem DO (data:List UInt8) (i:Nat):hoA data (i+1)=hoA data i++[⟨3,0,0,oP i,[],[120]⟩]:=by simp[hoA,gi,List.range_succ]
theorem DP (data:List UInt8) (n:Nat) (v:Int) (i:Nat):hoB data n v (i+1)=hoB data n v i++[⟨1,0,0,oP i,[],[]⟩]:=by simp[hoB,mm,List.range_succ]
theorem I8 (data:List UInt8) {n i:Nat} (v:Int) (hn:n≤5) (hi:i≤5):StepsOK (hoB data n v i++[ba,⟨1,0,0,cq,[],[]⟩]):=⟨by rw[List.length_append,AU];simp;omega,λx hx=>by
 have key:x.path.length≤9/\x.toPath.length≤9:=by
  simp only[hoB,hoA,gi,mm,List.mem_append,List.mem_cons,Z7,List.not_mem_nil,or_false] at hx
  rcases hx with ((rfl | rfl | ⟨k,_,rfl⟩) | rfl | rfl | ⟨k,_,rfl⟩) | rfl | rfl<;>exact ⟨by simp[hdS,fS,cq,oP,ba],Wg _⟩
 omega⟩
theorem Iw {i:Nat} (h:i<5):∃c,List.drop i (97::List.take i [98,99,100,101])=[c]/\oP i=[47,c]:=by
 have:i=0\/i=1\/i=2\/i=3\/i=4:=by omega
 rcases this with rfl | rfl | rfl | rfl | rfl<;>exact ⟨_,rfl,rfl⟩
theorem yA (v m:Int) (data:List UInt8) (hd:data.length≤100000000):ag Tryz.prog 11 [.int .i64 v,.int .i64 m,.str data] [] (λr _=>r=.bool true):=by
 have s0:ag Tryz.prog 15 [.int .i64 0,.int .i64 4,.str [47,100],.str []] [] (λr _=>r=.agg (ZX hdS)):=aV 0 4 [47,100] [];have s1:ag Tryz.prog 15 [.int .i64 0,.int .i64 3,.str [47,100,47,102],.str data] [] (λr _=>r=.agg (ZX (fS data))):=aV 0 3 [47,100,47,102] data;have s2:ag Tryz.prog 15 [.int .i64 0,.int .i64 9,.str [47,100,47,102],.str []] [] (λr _=>r=.agg (ZX ⟨9,0,0,cq,[],[]⟩)):=aV 0 9 [47,100,47,102] [];have s3:ag Tryz.prog 15 [.int .i64 0,.int .i64 10,.str [],.str []] [] (λr _=>r=.agg (ZX ⟨10,0,0,[],[],[]⟩)):=aV 0 10 [] [];have s4:ag Tryz.prog 15 [.int .i64 0,.int .i64 7,.str [],.str []] [] (λr _=>r=.agg (ZX ba)):=aV 0 7 [] [];have s5:ag Tryz.prog 15 [.int .i64 0,.int .i64 1,.str [47,100,47,102],.str []] [] (λr _=>r=.agg (ZX ⟨1,0,0,cq,[],[]⟩)):=aV 0 1 [47,100,47,102] [];refine ZF tK (Tryz.func11) rfl (λC=>?_);simp only[Tryz.ntmps11,Tryz.results11,go_sem];refine wG tK ?_;refine wC Tryz.func13 (hf:=(ru)) (hk:=?_);refine wG tK ?_;refine wDF (hb:=(rfl)) (hk:=?_);refine wG tK ?_;refine bx 36 z6 (λc36 h36=>?_);simp only[go_sem];have hc:c36=false↔((1≤v/\v≤100)/\(0≤m/\m≤5)/\data.length≤20):=by
  rw[←h36];simp only[Bool.cond_true_left,Bool.or_eq_false_iff,decide_eq_false_iff_not];constructor
  ·rintro ⟨⟨⟨⟨h1,h2⟩,h3⟩,h4⟩,h5⟩;exact ⟨⟨by omega,by omega⟩,⟨by omega,by omega⟩,by omega⟩
  ·rintro ⟨⟨h1,h2⟩,⟨h3,h4⟩,h5⟩;exact ⟨⟨⟨⟨by omega,by omega⟩,by omega⟩,by omega⟩,by omega⟩
 clear h36;refine wD (λh=>?_) (λh=>?_)
 ·refine wG tK ?_;refine wT ?_;rfl
 obtain ⟨hv,⟨hm0,hm5⟩,hd⟩:=hc.1 h;clear hc;obtain ⟨n,rfl⟩:∃n:Nat,m=(n:Int):=⟨m.toNat,by omega⟩;have hn:n≤5:=by omega
 refine wG tK ?_;refine wC Tryz.func15 (hf:=(s0)) (hk:=?_);refine wG tK ?_;refine wC Tryz.func15 (hf:=(s1)) (hk:=?_);refine wGq tK ?_ ?_
 ·simp[bS];exact ⟨bT _,bT _⟩
 refine bf (xO 40 54) ?_;have hA0:hoA data 0=[hdS,fS data]:=rfl;have hAl:=AT data;have hAs:=DO data;refine ZL (λi:Nat=>i≤n) (λi=>n-i) (λi=>(7,.osl 54 6 0 (i+2))::(9,.any)::u3 15 26 ((42,.int .i64 i)::u3 43 13 []))
  (λi=>[(54,.cells 26 6 ((hoA data i).map ZX))]) 0 z7 ?_ λi hi=>?_
 ·rw[hA0];simp only[go_sem];exact ZU w4 w4 w4
 simp only[go_sem];refine wG tK ?_;refine wD (λh=>?_) (λh=>?_)
 ·have hlt:i<n:=by simp at h;omega
  have hw1:=wi1 (i:=i) z7;have hal:=hAl i;have has:=hAs i;obtain ⟨ch,hsl,hop⟩:=Iw (i:=i) z7;rw[hop] at has;have sk:ag Tryz.prog 15 [.int .i64 0,.int .i64 3,.str [47,ch],.str [120]] [] (λr _=>r=.agg (ZX ⟨3,0,0,[47,ch],[],[120]⟩)):=aV 0 3 [47,ch] [120];generalize hoA data i=Q at *;rw[←hal];have htq:List.take Q.length (Q.map ZX)=Q.map ZX:=Z4 y7;refine wGq tK ?_ ?_ (by simp only[go_sem,hw1,hsl];try exact rfl)
  ·simp[hsl];omega
  refine wC Tryz.func15 (hf:=(sk)) (hk:=?_);refine wGq tK ?_ ?_ x7
  ·simp[htq,bS]
   repeat' (first | exact bT _ | exact bH _ _ | exact λx _=>bH _ x | omega | apply And.intro)
  refine ZB ⟨i+1,by omega,by omega,ZU ?_ ?_ ?_⟩
  ·simp[go_sem];omega
  ·simp[go_sem,htq,has]
  ·simp[go_sem]
 ·have e:i=n:=by simp at h;omega
  subst e;have hB0:hoB data i v 0=hoA data i++[⟨9,0,v,cq,[],[]⟩,⟨10,0,0,[],[],[]⟩]:=rfl;have hBl:=AU data i v;have hBs:=DP data i v;have hal:=hAl i;generalize hoA data i=Q at *;rw[←hal];have htq:List.take Q.length (Q.map ZX)=Q.map ZX:=Z4 y7;refine wG tK ?_;refine wC Tryz.func15 (hf:=(s2)) (hk:=?_);refine wG tK ?_ (by simp only[go_sem,ZX];try exact rfl) (by simp[go_sem,ZX]);refine ZW ZM ?_;refine ZS rfl ?_;refine sN tK 2 ?_;refine sC Tryz.func15 (hf:=(s3)) (hk:=?_);refine Be tK rfl z8 z8 ?_ z8 z6 z6 ?_
  ·simp[bS];exact bT _
  refine sE ?_;simp only[go_sem,ZX,List.map_nil];refine dSq tK ?_ ?_
  ·simp[go_sem,htq,refs];exact ⟨by omega,λx _=>bH _ x⟩
  simp only[go_sem,htq];refine dS tK ?_;refine wKd ?_
  try simp only[go_sem,gA,gB,gC]
  refine wG tK ?_;refine bf (xO 63 77) ?_;obtain ⟨lr,hlaw⟩:=BN hd hn hv;have hE:hdS::fS data::(gi i++(⟨9,0,v,cq,[],[]⟩::⟨10,0,0,[],[],[]⟩::(mm i++[ba,⟨1,0,0,cq,[],[]⟩])))=hoB data i v i++[ba,⟨1,0,0,cq,[],[]⟩]:=by simp[hoB,hoA]
  rw[hE] at hlaw;clear hE;have hrl:=jC (hoB data i v i++[ba,⟨1,0,0,cq,[],[]⟩]) (bo [4]);have hp:=gv (rooms:=[4]) j6 (I8 data v hn hn) rfl (by rw[List.length_append,hBl];simp;omega) hlaw;rw[hlaw] at hrl;clear hlaw;refine ZL (λk:Nat=>k≤i) (λk=>i-k) (λk=>(7,.osl 77 6 0 (i+k+4))::(9,.any)::(10,.any)::(11,.any)::u3 15 49 ((65,.int .i64 k)::u3 66 13 []))
   (λk=>[(77,.cells 26 6 ((hoB data i v k).map ZX))]) 0 z7 ?_ λk hk=>?_
  ·rw[hB0];simp only[go_sem];exact ZU (by simp[go_sem,hal]) (by simp[go_sem,ZX]) w4
  simp only[go_sem];refine wG tK ?_;refine wD (λh=>?_) (λh=>?_)
  ·have hlt:k<i:=by simp at h;omega
   have hw1:IntKind.i64.wrap ((k:Int)+1)=((k+1:Nat):Int):=by rw[Eng.wrap_small z7 z7];rfl
   have hbl:=hBl k;have hbs:=hBs k;obtain ⟨ch,hsl,hop⟩:=Iw (i:=k) z7;rw[hop] at hbs;have sk:ag Tryz.prog 15 [.int .i64 0,.int .i64 1,.str [47,ch],.str []] [] (λr _=>r=.agg (ZX ⟨1,0,0,[47,ch],[],[]⟩)):=aV 0 1 [47,ch] [];generalize hoB data i v k=R at *;rw[←hbl];have htr:List.take R.length (R.map ZX)=R.map ZX:=Z4 y7;refine wGq tK ?_ ?_ (by simp only[go_sem,hw1,hsl];try exact rfl)
   ·simp[hsl];omega
   refine wC Tryz.func15 (hf:=(sk)) (hk:=?_);refine wGq tK ?_ ?_ x7
   ·simp[htr,bS]
    repeat' (first | exact bT _ | exact bH _ _ | exact λx _=>bH _ x | omega | apply And.intro)
   refine ZB ⟨k+1,by omega,by omega,ZU ?_ ?_ ?_⟩
   ·simp[go_sem];omega
   ·simp[go_sem,htr,hbs]
   ·simp[go_sem]
  ·have e:k=i:=by simp at h;omega
   subst e;have hbl:=hBl k;generalize hoB data k v k=R at *;rw[←hbl];have htr:List.take R.length (R.map ZX)=R.map ZX:=Z4 y7;have htk:∀X Y,List.take (R.length+2) (R.map ZX++[X,Y])=R.map ZX++[X,Y]:=λX Y=>Z4 y7
   refine wG tK ?_;refine wC Tryz.func15 (hf:=(s4)) (hk:=?_);refine wG tK ?_;refine wC Tryz.func15 (hf:=(s5)) (hk:=?_);refine wGq tK ?_ ?_
   ·simp[htr,bS]
    repeat' (first | exact bT _ | exact bH _ _ | exact λx _=>bH _ x | omega | apply And.intro)
   generalize bO (bo [4]) _=W at *;unfold bI at hp;simp only[List.map_cons,List.map_nil,ZI,List.map_append,ZX,ba] at hp;simp only[go_sem,ZX,ba,List.map_nil];refine ZZ 83 rfl (by rw[List.all_append,gp,W4];rfl) ?_;refine ZZ 85 rfl (rfl) ?_;simp only[go_sem,htk];refine wC Tryz.func16 (hf:=(hp)) (hk:=?_);refine wG tK ?_ Qc Zv;have hl2:lr.length=R.length+1:=by simpa using hrl
   refine wDF (hb:=(by simp[hl2];omega)) (hk:=?_);have hg:∀X,(lr.map aj++[X]).getD lr.length []=X:=λX=>by
    rw[Z1,WJ y7,List.length_map,Wf];rfl
   have hw2:IntKind.i64.wrap (((lr.length+1:Nat):Int)-1)=((lr.length:Nat):Int):=by rw[Eng.wrap_small z7 z7];omega
   refine wR ?_;refine wN tK 4 ?_ z6 z6 (by simp only[go_sem,hw2];try exact rfl) (by simp[go_sem,hw2]);refine wGq tK ?_ ?_ x8
   ·simp[hg]
   refine wT ?_;simp
end La
