/- Texts of this claim, part 27: PSim2, PSim3, PSimJ, PPathF, PPath. No condition. -/
import Derived.Test.YtmcfbfdonjllaaaGreatDoorYW26
set_option maxRecDepth 10000
set_option maxHeartbeats 4000000
set_option linter.unusedSimpArgs false
set_option linter.unusedVariables false
namespace La
open Go Go.Eng
structure LikeP (x y:Act):Prop where
 kind:y.kind=x.kind
 fid:an x=false->y.fid=ng x.fid
 dir:x.kind≠3->y.dir=ng x.dir/\y.name=x.name
 to:x.kind=5->y.to=ng x.to/\y.toName=x.toName
 data:x.kind=3->y.data=x.data
structure DomP (m:Int) (x:Act):Prop where
 fid:an x=false->dm m x.fid
 dir:x.kind≠3->dm m x.dir
 to:x.kind=5->dm m x.to
theorem km (x:Act):an x=true↔x.kind=1\/x.kind=2:=by unfold an;simp
theorem LikeP.made {x y:Act} (h:LikeP x y):an y=an x:=by unfold an;rw[h.kind]
theorem uH (c:Cli) (x:Act):(cd c x).kind=x.kind/\(cd c x).dir=x.dir/\(cd c x).name=x.name/\(cd c x).to=x.to/\(cd c x).toName=x.toName/\(cd c x).data=x.data:=by unfold cd;split<;>exact ⟨rfl,rfl,rfl,rfl,rfl,rfl⟩
theorem Dz (s:Srv) (x:Act):(doA s x).kind=x.kind/\(doA s x).dir=x.dir/\(doA s x).name=x.name/\(doA s x).to=x.to/\(doA s x).toName=x.toName/\(doA s x).data=x.data:=by unfold doA;split<;>exact ⟨rfl,rfl,rfl,rfl,rfl,rfl⟩
theorem gk:Ri [aA]:=⟨List.pairwise_singleton _ _,λn hn=>by rw[List.mem_singleton.1 hn];exact List.Pairwise.nil⟩
theorem LogI.add {log m:List Rec} {t t2:List Node} {md:Int} (h:LogI log t md) (hri:Ri t) {x:Act} {seen:Int} {c:Cli} (hc:c.made=md) (hm0:0≤md) (he:bt t (cd c x)=0) (ht:TR PE t2 (bk t (cd c x) 0)) (hv:x.kind=3\/x.kind=4->seen<0) {i:Int} (hadd:dC log ⟨cd c x,tN x seen,i⟩=some m) :
  LogI m t2 (if an x=true then md+1 else md):=by
 obtain ⟨t',h1,h2⟩:=h.shrt;obtain ⟨e1,e2⟩:=pq hri h1.ri h2 (Dj _) he;have hk:=uH c x;have hfid:an x=true->(cd c x).fid=-1-md:=λhmx=>by unfold cd;rw[if_pos hmx,hc]
 have hmk:an (cd c x)=an x:=by unfold an;rw[hk.1]
 have hle:md≤if an x=true then md+1 else md:=by split<;>omega
 have hneg:(cd c x).kind=1\/(cd c x).kind=2->(cd c x).fid<0:=λhkk=>by
  rw[hfid ((km x).2 (by rw[←hk.1];exact hkk))];omega
 refine ⟨⟨_,Shrt.step gk (λn hn=>by rw[List.mem_singleton.1 hn];exact Int.le_refl 0) h1 hneg e1 hadd,ht.trans e2⟩,λr hr hmr=>?_,?_,λr hr hkr=>?_⟩
 ·have hold:∀q,q∈log->an q.act=true->-(if an x=true then md+1 else md)≤q.act.fid/\q.act.fid<0:=λq hq hmq=>by have:=h.made q hq hmq;omega
  rcases kA hadd with hs | ⟨k,hs,rfl⟩
  ·exact hold r (hs.subset hr) hmr
  ·rcases List.mem_append.1 hr with hr | hr
   ·exact hold r (hs.subset hr) hmr
   ·rw[List.mem_singleton.1 hr] at hmr ⊢;have hmr:an (cd c x)=true:=hmr;rw[hmk] at hmr;rw[hfid hmr,if_pos hmr];omega
 ·rcases kA hadd with hs | ⟨k,hs,rfl⟩
  ·exact h.nod.sublist ((hs.filter _).map _)
  ·rw[List.filter_append,List.map_append,List.nodup_append];refine ⟨h.nod.sublist ((hs.filter _).map _),?_,λp hp q hq e=>?_⟩
   ·rw[List.filter_cons];split<;>simp
   ·rw[List.filter_cons] at hq;split at hq
    ·rename_i hmx;have hmx:an (cd c x)=true:=hmx;rw[hmk] at hmx;simp only[List.filter_nil,List.map_cons,List.map_nil,List.mem_singleton] at hq;obtain ⟨r,hr,rfl⟩:=Z7.1 hp;obtain ⟨hr,hmr⟩:=WE.1 hr;have:=(h.made r (hs.subset hr) hmr).1;rw[hfid hmx] at hq;omega
    ·cases hq
 ·rcases kA hadd with hs | ⟨k,hs,rfl⟩
  ·exact h.ver r (hs.subset hr) hkr
  ·rcases List.mem_append.1 hr with hr | hr
   ·exact h.ver r (hs.subset hr) hkr
   ·rw[List.mem_singleton.1 hr] at hkr ⊢;have hkr:(cd c x).kind=3\/(cd c x).kind=4:=hkr;rw[hk.1] at hkr
    show tN x seen<0
    unfold tN;split
    ·omega
    ·exact hv hkr
theorem Aw {h a:U} (R:HA h a) {x y:Act} (hx:ActS x) (hy:ActS y) (hl:LikeP x y) (hd:DomP a.c.made x) {seen seen':Int} (hv:x.kind=3\/x.kind=4->aB (aU a.c) x=0->seen<0) :
  ((bC a x seen).e=0->(bC h y seen').e=0/\HA (bC h y seen').u (bC a x seen).u)/\((bC a x seen).e≠0->(bC h y seen').e=0\/((bC h y seen').e=(bC a x seen).e/\HA (bC h y seen').u (bC a x seen).u)):=by
 obtain ⟨B,T,hI⟩:=R.hI;obtain ⟨B',T',aI⟩:=R.aI;have hIn:∃B T,ij B T (bC h y seen').u:=⟨_,_,gT hI hy seen'⟩;have aIn:∃B T,ij B T (bC a x seen).u:=⟨_,_,gT aI hx seen⟩;have hH:bC h y seen'=fo h y:=by unfold bC;rw[if_neg (by simp[R.hh])]
 have hA:bC a x seen=kZ a x seen:=by unfold bC;rw[if_pos R.aa]
 rw[hH] at hIn ⊢;rw[hA] at aIn ⊢;have hk:=uH a.c x;have hky:=Dz h.s y;have hmk:an (cd a.c x)=an x:=by unfold an;rw[hk.1]
 have hmy:=hl.made;have hlike:LikeA ng (cd a.c x) (doA h.s y):=by
  refine ⟨by rw[hky.1,hk.1,hl.kind],?_,λh3=>?_,λh5=>?_,λh3=>?_⟩
  ·unfold cd doA;rw[hmy]
   by_cases e:an x=true
   ·rw[if_pos e,if_pos e]
    show h.s.next=ng (-1-a.c.made)
    rw[R.next];unfold ng;omega
   ·rw[if_neg e,if_neg e];exact hl.fid Qz
  ·rw[hk.1] at h3;rw[hky.2.1,hky.2.2.1,hk.2.1,hk.2.2.1];exact hl.dir h3
  ·rw[hk.1] at h5;rw[hky.2.2.2.1,hky.2.2.2.2.1,hk.2.2.2.1,hk.2.2.2.2.1];exact hl.to h5
  ·rw[hk.1] at h3;rw[hky.2.2.2.2.2,hk.2.2.2.2.2];exact hl.data h3
 have hm0:=R.m0;have hsr:SR ng (dm (if an x=true then a.c.made+1 else a.c.made)) (aU a.c) h.s.tree:=R.sr.more (λk hkd=>⟨by unfold dm at hkd ⊢;split<;>omega,rfl⟩) λk j _ _ e=>by unfold ng at e;omega
 have hle:∀{k:Int},dm a.c.made k->dm (if an x=true then a.c.made+1 else a.c.made) k:=λhkd=>by unfold dm at hkd ⊢;split<;>omega
 have hfids:∀k,k∈cc (cd a.c x)->dm (if an x=true then a.c.made+1 else a.c.made) k:=λk hkm=>by
  have hF:dm (if an x=true then a.c.made+1 else a.c.made) (cd a.c x).fid:=by
   unfold cd
   by_cases e:an x=true
   ·rw[if_pos e,if_pos e];show dm _ (-1-a.c.made);unfold dm;omega
   ·rw[if_neg e,if_neg e];exact hd.fid Qz
  unfold cc at hkm;split at hkm
  ·rw[List.mem_singleton.1 hkm];exact hF
  ·rename_i h3;rw[hk.1] at h3;have hD:=hle (hd.dir h3);rw[←hk.2.1] at hD;split at hkm
   ·rename_i h5;rw[hk.1] at h5;have hT:=hle (hd.to h5);rw[←hk.2.2.2.1] at hT;simp only[List.mem_cons,List.not_mem_nil,or_false] at hkm
    rcases hkm with rfl | rfl | rfl
    ·exact hF
    ·exact hD
    ·exact hT
   ·simp only[List.mem_cons,List.not_mem_nil,or_false] at hkm
    rcases hkm with rfl | rfl
    ·exact hF
    ·exact hD
 have hgA:=aI.cli.bV;have hgH:=hI.srv.hist.bV;have hriH:Ri h.s.tree:=⟨hgH.up,λn hn=>(R.whole.loc n hn).eup⟩;obtain ⟨hE,hL⟩:=hsr.apply R.ri hriH hlike hfids 0 ((h.s.past.length+1:Nat):Int);have hE':doE h.s y=aB (aU a.c) (cd a.c x):=by unfold doE;rw[←hgH.aB,hE,hgA.aB]
 rw[hgA.aB] at hE hL;rw[hgA.aH,hgH.aH] at hL;unfold kZ at aIn ⊢;unfold fo at hIn ⊢;rw[hE'] at hIn ⊢
 by_cases e0:aB (aU a.c) (cd a.c x)=0
 ·rw[if_pos e0] at hIn;rw[if_neg (by simpa using e0)] at aIn;rw[if_neg (by simpa using e0),if_pos e0];cases hlog:kY a.c x seen with
  | none=>exact ⟨λe=>Zl,λ_=>.inl rfl⟩
  | some log=>
   rw[hlog] at aIn;cases hkp:fy a.c x with
   | none=>exact ⟨λe=>Zl,λ_=>.inl rfl⟩
   | some L=>
    rw[hkp] at aIn;refine ⟨λ_=>⟨rfl,?_⟩,λe=>absurd rfl e⟩;obtain ⟨f1,f2⟩:=En aI.cli R.full e0 hkp { a.c with cache:=L.filter (λk=>bz (cJ a.c x) k.node.fid),log:=log,logged:=a.c.logged+1,made:=if an x=true then a.c.made+1 else a.c.made } rfl;have hv':x.kind=3\/x.kind=4->seen<0:=λhkk=>hv hkk (by
     have:cd a.c x=x:=by
      unfold cd;rw[if_neg];intro hm;have:=(km x).1 hm;omega
     rw[←this];exact e0)
    have hlg:=R.log.add (t2:=aU { a.c with cache:=L.filter (λk=>bz (cJ a.c x) k.node.fid),log:=log,logged:=a.c.logged+1,made:=if an x=true then a.c.made+1 else a.c.made }) R.ri (c:=a.c) (x:=x) (seen:=seen) (m:=log) rfl hm0 (by rw[hgA.aB];exact e0) (by rw[hgA.aH];exact f2) hv' hlog;have hso:h.s.next+(if an y=true then 1 else 0)=(doS h.s h.c.number y).next:=by
     unfold doS;cases an y<;>simp
    exact {
     hI:=hIn
     aI:=aIn
     hh:=R.hh
     aa:=R.aa
     sr:=(hL e0).alike f2.symm
     next:=by
      show (doS h.s h.c.number y).next=(if an x=true then a.c.made+1 else a.c.made)+1
      rw[←hso,hmy,R.next];split<;>omega
     m0:=by show 0≤if an x=true then a.c.made+1 else a.c.made;split<;>omega
     full:=f1
     srv:=R.srv
     log:=hlg }
 ·rw[if_pos e0];rw[if_neg e0];exact ⟨λe=>absurd e e0,λ_=>.inr ⟨rfl,R⟩⟩
theorem HA.seen {h a:U} (R:HA h a) {n m:Node} (hs:Seen a n m) {x:Act} (hf:x.fid=n.fid) (hk:x.kind=3\/x.kind=4) (he:aB (aU a.c) x=0):dZ n<0:=by
 have hdm:=(R.sr.dA _ _ hs.at_).1;unfold dZ
 by_cases h0:n.fid<0
 ·rw[if_pos h0];omega
 ·exfalso
  have hn0:n.fid=0:=by unfold dm at hdm;omega
  obtain ⟨B',T',aI⟩:=R.aI;have he2:=he;rw[←aI.cli.bV.aB] at he2
  rcases hk with hk | hk
  ·rw[(dJ (aU a.c) hk 0).1] at he2;obtain ⟨z,hz,hzd,_⟩:=(fA _ _).1 he2;rw[hf,hn0] at hz;obtain ⟨y,hy,hny⟩:=R.sr.fwd _ _ hz;obtain ⟨w,hw,hwf,hwd⟩:=R.whole.root;have h1:=(ZO R.whole.bV.up).2 ⟨hw,hwf⟩;have h2:af h.s.tree 0=some y:=hy;rw[h1] at h2;injection h2 with h2
   rw[h2,hny.dir,hzd] at hwd;cases hwd
  ·rw[(eA (aU a.c) hk 0).1] at he2;obtain ⟨d,z,hd,hdd,hen,_⟩:=(jA _ _).1 he2;have hm:=(YE (R.ri.eup d ((ZO R.ri.up).1 hd).1)).1 hen;obtain ⟨y,hy,hny⟩:=R.sr.fwd _ _ hd;obtain ⟨hy1,hy2⟩:=(ZO R.whole.bV.up).1 hy;refine R.whole.noroot y.fid x.name 0 ⟨y,hy1,rfl,?_⟩ rfl;rw[hny.ent];exact Z7.2 ⟨_,hm,by unfold sA ng;rw[hf,hn0];rfl⟩
structure Gr (t2:List Node) (x y:Node):Prop where
 fid:y.fid=x.fid
 dir:y.dir=x.dir
 ent:∀s f,ay x s=some f->ay y s=some f
 at_:af t2 y.fid=some y
theorem Bl {t t2:List Node} (h:∀k x,af t k=some x->∃y,af t2 k=some y/\Gr t2 x y):∀(l:List (List UInt8)) (x y:Node),Gr t2 x y->(tR t l (x,0)).2=0->∃z,tR t2 l (y,0)=(z,0)/\Gr t2 (tR t l (x,0)).1 z
 | [],x,y,hg,_=>by unfold tR;exact ⟨y,rfl,hg⟩
 | s::r,x,y,hg,he=>by
  rw[nj s r (q:=(x,0)) rfl] at he ⊢;rw[nj s r (q:=(y,0)) rfl];simp only[hg.dir] at he ⊢
  by_cases hd:x.dir=false
  ·rw[if_pos hd] at he;cases he
  ·rw[if_neg hd] at he ⊢;rw[if_neg hd];cases hen:ay x s with
   | none=>rw[hen] at he;cases he
   | some f=>
    rw[hen] at he;rw[hg.ent s f hen];simp only at he ⊢;cases hf:af t f with
    | none=>
     rw[show d_ t f=(ax,6) from by unfold d_;rw[hf],ly r j6] at he;cases he
    | some w=>
     obtain ⟨w2,hw2,hg2⟩:=h f w hf;rw[show d_ t f=(w,0) from by unfold d_;rw[hf]] at he ⊢;rw[show d_ t2 f=(w2,0) from by unfold d_;rw[hw2]];exact Bl h r w w2 hg2 he
theorem GI {B T:Nat} {h:U} (hI:ij B T h) (hh:h.c.away=false) (path:List UInt8) {data:List UInt8} (hdl:data.length≤20) (hD:(au h path).e=0) (seen:Int)
  (he:(bC (au h path).u (aZ (au h path).n.fid (au h path).name) seen).e=0):(jl (goU (bC (au h path).u (aZ (au h path).n.fid (au h path).name) seen).u (ah path).1 0) data).e=0:=by
 have hDI:=dM hI path;have hdn:=cf h path;have hDs:=gz h path;have hDa:=(By h path).away.trans hh
 -- the walk to the directory
 have hwalk:tGo h.s.tree ((ah path).1.take ((ah path).1.length-1))=((au h path).n,0)/\(au h path).name=(ah path).1.getD ((ah path).1.length-1) []/\(ah path).1.length≠0:=by
  have hg:=oE hI hh ((ah path).1.take ((ah path).1.length-1)) 0;unfold au at hD ⊢;split at hD
  ·rename_i h1;exact absurd hD h1
  ·rename_i h1;rw[if_neg h1];split at hD
   ·cases hD
   ·rename_i h2;rw[if_neg h2];refine ⟨?_,rfl,h2⟩;rw[←hg];have hD:(if (goU h ((ah path).1.take ((ah path).1.length-1)) 0).e=0/\(goU h ((ah path).1.take ((ah path).1.length-1)) 0).n.dir=false then (8:Int) else (goU h ((ah path).1.take ((ah path).1.length-1)) 0).e)=0:=hD;split at hD
    ·cases hD
    ·rw[hD]
 obtain ⟨hw1,hw2,hw3⟩:=hwalk;have hsplit:=CH hw3;rw[←hw2] at hsplit;generalize au h path=D at *;have hIm:=gT hDI (a:=aZ D.n.fid D.name) ⟨hdn,by simp[aZ],by simp[aZ]⟩ seen;rw[tY hDa] at he hIm ⊢;have hgd:=hDI.srv.hist.bV;unfold fo at he hIm ⊢
 by_cases e0:doE D.u.s (aZ D.n.fid D.name)=0
 ·rw[if_pos e0] at he hIm ⊢
  -- the tree behind it
  have hak:(doA D.u.s (aZ D.n.fid D.name))=⟨1,D.u.s.next,D.n.fid,D.name,0,[],[]⟩:=rfl;have e1:cC D.u.s.tree ⟨1,D.u.s.next,D.n.fid,D.name,0,[],[]⟩=0:=e0;have ht2:(doS D.u.s D.u.c.number (aZ D.n.fid D.name)).tree=bE D.u.s.tree ⟨1,D.u.s.next,D.n.fid,D.name,0,[],[]⟩ ((D.u.s.past.length+1:Nat):Int):=rfl;obtain ⟨d,hd,hdd,hr,hn,hz,hlen⟩:=(me _ _).1 e1;simp only at hd hr hn hz;unfold bE at ht2;rw[if_pos e1,aJ hd] at ht2;simp only at ht2;have heup:EUp d.entries:=(hDI.srv.hist.whole.loc d ((ZO hgd.up).1 hd).1).eup;have hdf:=dt hd;have hfr:=((nB _ _).1 hr).2.1;obtain ⟨u1,u2,_⟩:=c_ heup hfr D.u.s.next;generalize hv:((D.u.s.past.length+1:Nat):Int)=v at *;have hfind:∀k,af (doS D.u.s D.u.c.number (aZ D.n.fid D.name)).tree k=if k=D.u.s.next then some (dT ⟨1,D.u.s.next,D.n.fid,D.name,0,[],[]⟩ v) else if k=d.fid then some { bb d D.name D.u.s.next with version:=v } else af D.u.s.tree k:=λk=>by
   rw[ht2,bU (aD hgd.up _).1,bU hgd.up];rfl
  have hnd:D.u.s.next≠d.fid:=λe=>by rw[e,hdf,hd] at hn;cases hn
  have hgrow:∀k x,af D.u.s.tree k=some x->∃y,af (doS D.u.s D.u.c.number (aZ D.n.fid D.name)).tree k=some y/\Gr (doS D.u.s D.u.c.number (aZ D.n.fid D.name)).tree x y:=λk x hx=>by
   have hkn:k≠D.u.s.next:=λe=>by rw[e,hn] at hx;cases hx
   have hxf:=dt hx
   by_cases ek:k=d.fid
   ·have hxd:x=d:=by rw[ek,hdf,hd] at hx;injection hx with hx;exact hx.symm
    subst hxd;refine ⟨{ bb x D.name D.u.s.next with version:=v },by rw[hfind,if_neg hkn,if_pos ek],rfl,rfl,λs f hsf=>?_,?_⟩
    ·rw[YE (n:={ bb x D.name D.u.s.next with version:=v }) u1];exact (u2 _).2 (.inr ((YE heup).1 hsf))
    ·show af _ x.fid=_
     rw[hfind,if_neg (by rw[hxf];exact hkn),if_pos rfl]
   ·exact ⟨x,by rw[hfind,if_neg hkn,if_neg ek];exact hx,rfl,rfl,λ_ _ h=>h,by rw[hxf,hfind,if_neg hkn,if_neg ek];exact hx⟩
  have hgo:=oE hIm hDa (ah path).1 0;have hroot:∃x0,af D.u.s.tree 0=some x0:=by
   obtain ⟨z,hz1,hz2,_⟩:=hDI.srv.hist.whole.root;exact ⟨z,(ZO hgd.up).2 ⟨hz1,hz2⟩⟩
  obtain ⟨x0,hx0⟩:=hroot;obtain ⟨y0,hy0,hg0⟩:=hgrow 0 x0 hx0;rw[←hDs] at hw1;unfold tGo at hw1;rw[show d_ D.u.s.tree 0=(x0,0) from by unfold d_;rw[hx0]] at hw1;obtain ⟨z,hz1,hz2⟩:=Bl hgrow ((ah path).1.take ((ah path).1.length-1)) x0 y0 hg0 (by rw[hw1]);rw[hw1] at hz2;have hzd:z={ bb d D.name D.u.s.next with version:=v }:=by
   have h1:=hz2.at_;rw[hz2.fid] at h1;have h1:af (doS D.u.s D.u.c.number (aZ D.n.fid D.name)).tree D.n.fid=some z:=h1;rw[hfind,if_neg (λe=>hnd (by rw[hdf];exact e.symm)),if_pos hdf.symm] at h1;injection h1 with h1
   exact h1.symm
  have hfin:tGo (doS D.u.s D.u.c.number (aZ D.n.fid D.name)).tree (ah path).1=(dT ⟨1,D.u.s.next,D.n.fid,D.name,0,[],[]⟩ v,0):=by
   unfold tGo;rw[show d_ (doS D.u.s D.u.c.number (aZ D.n.fid D.name)).tree 0=(y0,0) from by unfold d_;rw[hy0],←hsplit,EU,hz1,nj _ _ rfl];have hen:ay z D.name=some D.u.s.next:=by
    rw[hzd,YE (n:={ bb d D.name D.u.s.next with version:=v }) u1];exact (u2 _).2 (.inl rfl)
   have hzdir:z.dir=true:=by rw[hzd];exact hdd
   simp only[hen,hzdir,Bool.true_eq_false,if_false];rw[show d_ (doS D.u.s D.u.c.number (aZ D.n.fid D.name)).tree D.u.s.next=(dT ⟨1,D.u.s.next,D.n.fid,D.name,0,[],[]⟩ v,0) from by unfold d_;rw[hfind,if_pos rfl]];rfl
  simp only at hgo;rw[hfin] at hgo;obtain ⟨g1,g2⟩:=Prod.mk.inj hgo;have hia:=(iY (⟨fV D.u.c (doS D.u.s D.u.c.number (aZ D.n.fid D.name)).tree,doS D.u.s D.u.c.number (aZ D.n.fid D.name)⟩:U) (ah path).1 0);unfold jl;rw[if_neg (by rw[g2];simp),tY (hia.away.trans hDa),g1];unfold fo;have hs0:doE (goU (⟨fV D.u.c (doS D.u.s D.u.c.number (aZ D.n.fid D.name)).tree,doS D.u.s D.u.c.number (aZ D.n.fid D.name)⟩:U) (ah path).1 0).u.s (az (dT ⟨1,D.u.s.next,D.n.fid,D.name,0,[],[]⟩ v).fid data)=0:=by
   rw[hia.s]
   show cr (doS D.u.s D.u.c.number (aZ D.n.fid D.name)).tree (az D.u.s.next data)=0
   exact (fA _ _).2 ⟨dT ⟨1,D.u.s.next,D.n.fid,D.name,0,[],[]⟩ v,by show af _ D.u.s.next=_;rw[hfind,if_pos rfl],rfl,hdl⟩
  rw[if_pos hs0]
 ·rw[if_neg e0] at he;exact absurd he e0
def SE (g f:GotE):Prop:=g.e=f.e->HA g.u f.u
theorem SE.act {h a:U} (R:HA h a) {x y:Act} (hx:ActS x) (hy:ActS y) (hl:LikeP x y) (hd:DomP a.c.made x) {seen seen':Int} (hv:x.kind=3\/x.kind=4->aB (aU a.c) x=0->seen<0):SE (bC h y seen') (bC a x seen):=λe=>by
 obtain ⟨h1,h2⟩:=Aw R hx hy hl hd hv (seen':=seen')
 by_cases e0:(bC a x seen).e=0
 ·exact (h1 e0).2
 ·rcases h2 e0 with h3 | h3
  ·rw[h3] at e;exact absurd e.symm e0
  ·exact h3.2
theorem Seen.dom {h a:U} (R:HA h a) {n m:Node} (hs:Seen a n m):dm a.c.made n.fid:=(R.sr.dA _ _ hs.at_).1
theorem Aa {h a:U} (R:HA h a) {n m:Node} (hs:Seen a n m) {data:List UInt8} (hdl:data.length≤20):ActS (az n.fid data)/\ActS (az m.fid data)/\LikeP (az n.fid data) (az m.fid data)/\DomP a.c.made (az n.fid data)/\((az n.fid data).kind=3\/(az n.fid data).kind=4->aB (aU a.c) (az n.fid data)=0->dZ n<0):=
 ⟨⟨by simp[az],by simp[az],hdl⟩,⟨by simp[az],by simp[az],hdl⟩,⟨rfl,λ_=>hs.fid,λh=>absurd rfl h,λh=>u9,λ_=>rfl⟩,⟨λ_=>hs.dom R,λh=>absurd rfl h,λh=>u9⟩,λhk he=>R.seen hs rfl hk he⟩
theorem SE.put {g f:Got} (h:GR g f) {data:List UInt8} (hdl:data.length≤20):SE (jl g data) (jl f data):=by
 unfold jl;rw[h.e]
 by_cases e:f.e=0
 ·have e':¬f.e≠0:=by simpa using e
  rw[if_neg e',if_neg e'];obtain ⟨h1,h2,h3,h4,h5⟩:=Aa h.ha (h.n e) hdl;exact SE.act h.ha h1 h2 h3 h4 h5
 ·rw[if_pos e,if_pos e];exact λ_=>h.ha
theorem uD {h a:U} (R:HA h a) {n m:Node} (hs:Seen a n m) (k:Int) (hk:k=1\/k=2) {s:List UInt8} (hn:s.length≤40):ActS ⟨k,0,n.fid,s,0,[],[]⟩/\ActS ⟨k,0,m.fid,s,0,[],[]⟩/\LikeP ⟨k,0,n.fid,s,0,[],[]⟩ ⟨k,0,m.fid,s,0,[],[]⟩/\DomP a.c.made ⟨k,0,n.fid,s,0,[],[]⟩/\((⟨k,0,n.fid,s,0,[],[]⟩:Act).kind=3\/(⟨k,0,n.fid,s,0,[],[]⟩:Act).kind=4->aB (aU a.c) ⟨k,0,n.fid,s,0,[],[]⟩=0->(-1:Int)<0):=by
 have hm:∀p:Act,p.kind=k->an p=true:=λp hp=>(km p).2 (by rw[hp];exact hk)
 refine ⟨⟨hn,by simp,by simp⟩,⟨hn,by simp,by simp⟩,⟨rfl,λe=>?_,λ_=>⟨hs.fid,rfl⟩,λe=>?_,λe=>?_⟩,⟨λe=>?_,λ_=>hs.dom R,λe=>?_⟩,λ_ _=>by decide⟩
 ·rw[hm _ rfl] at e;cases e
 ·have e:k=5:=e;omega
 ·have e:k=3:=e;omega
 ·rw[hm _ rfl] at e;cases e
 ·have e:k=5:=e;omega
theorem GD.entry {g f:GotD} (h:GD g f) (e:f.e=0):ay g.n g.name=(ay f.n f.name).map ng/\∀k,ay f.n f.name=some k->∃x,af (aU f.u.c) k=some x:=by
 have hs:=h.n e;have heu:=h.ha.ri.eup _ ((ZO h.ha.ri.up).1 hs.at_).1;refine ⟨by rw[h.name,hs.ns.entry heu],λk hk=>?_⟩;exact h.ha.sr.child h.ha.whole hs.at_ ((YE heu).1 hk)
theorem SE.write {h a:U} (R:HA h a) (path data:List UInt8):SE (bn h path data) (bn a path data):=by
 have D:=ou R path;obtain ⟨B,T,hI⟩:=R.hI;have hmg:=λhdl hD seen he=>GI hI R.hh path (data:=data) hdl hD seen he
 have hn:=cf a path;unfold bn;generalize au h path=dh at *;generalize au a path=da at *;rw[D.e]
 by_cases e:da.e=0
 ·have e':¬da.e≠0:=by simpa using e
  rw[if_neg e',if_neg e']
  by_cases hdl:data.length>20
  ·rw[if_pos hdl,if_pos hdl];exact λ_=>D.ha
  ·rw[if_neg hdl,if_neg hdl];obtain ⟨h1,h2⟩:=D.entry e;rw[h1];cases hen:ay da.n da.name with
   | some f=>
    obtain ⟨x,hx⟩:=h2 f hen;exact SE.put (xp D.ha hx 0).1 z7
   | none=>
    have hs:=D.n e;obtain ⟨k1,k2,k3,k4,k5⟩:=uD D.ha hs 1 (.inl rfl) hn;have hr:=Aw D.ha k1 k2 k3 k4 k5 (seen':=-1);have hmg:=hmg z7 (D.e.trans e) (-1);rw[←D.name] at hr;have hnm:=D.name
    show SE (if (bC dh.u (aZ dh.n.fid dh.name) (-1)).e≠0 then _ else _) (if (bC da.u (aZ da.n.fid da.name) (-1)).e≠0 then _ else _)
    have hr1:(bC da.u (aZ da.n.fid da.name) (-1)).e=0->(bC dh.u (aZ dh.n.fid dh.name) (-1)).e=0/\HA (bC dh.u (aZ dh.n.fid dh.name) (-1)).u (bC da.u (aZ da.n.fid da.name) (-1)).u:=by rw[←hnm];exact hr.1
    have hr2:(bC da.u (aZ da.n.fid da.name) (-1)).e≠0->(bC dh.u (aZ dh.n.fid dh.name) (-1)).e=0\/((bC dh.u (aZ dh.n.fid dh.name) (-1)).e=(bC da.u (aZ da.n.fid da.name) (-1)).e/\HA (bC dh.u (aZ dh.n.fid dh.name) (-1)).u (bC da.u (aZ da.n.fid da.name) (-1)).u):=by rw[←hnm];exact hr.2
    by_cases e1:(bC da.u (aZ da.n.fid da.name) (-1)).e=0
    ·obtain ⟨e2,R2⟩:=hr1 e1;rw[if_neg QO,if_neg Zz];exact SE.put (AS R2 (ah path).1 0) z7
    ·rw[if_pos e1]
     rcases hr2 e1 with e2 | ⟨e2,R2⟩
     ·rw[if_neg QO];intro e3;rw[hmg e2] at e3;exact absurd e3.symm e1
     ·rw[if_pos (by rw[e2];exact e1)];exact λ_=>R2
 ·rw[if_pos e,if_pos e];exact λ_=>D.ha
theorem SE.JL {h a:U} (R:HA h a) (path:List UInt8):SE (fh h path) (fh a path):=by
 have D:=ou R path;have hn:=cf a path;unfold fh;generalize au h path=dh at *;generalize au a path=da at *;rw[D.e]
 by_cases e:da.e=0
 ·have e':¬da.e≠0:=by simpa using e
  rw[if_neg e',if_neg e'];obtain ⟨k1,k2,k3,k4,k5⟩:=uD D.ha (D.n e) 2 (.inr rfl) hn;have:=SE.act D.ha k1 k2 k3 k4 k5 (seen':=-1);rw[D.name];exact this
 ·rw[if_pos e,if_pos e];exact λ_=>D.ha
structure GP (g f:GotP):Prop where
 e:g.e=f.e
 name:g.name=f.name
 len:f.name.length≤40
 ha:HA g.u f.u
 n:f.e=0->Seen f.u f.n g.n/\g.d=ng f.d/\dm f.u.c.made f.d
theorem Ay {h a:U} (R:HA h a) (path:List UInt8):GP (atU h path) (atU a path):=by
 have D:=ou R path;have hn:=cf a path;unfold atU;generalize au h path=dh at *;generalize au a path=da at *;rw[D.e]
 by_cases e:da.e=0
 ·have e':¬da.e≠0:=by simpa using e
  rw[if_neg e',if_neg e'];obtain ⟨h1,h2⟩:=D.entry e;rw[h1];cases hen:ay da.n da.name with
  | none=>exact ⟨rfl,rfl,by simp,D.ha,λe=>by cases e⟩
  | some f=>
   obtain ⟨x,hx⟩:=h2 f hen;have g:=(xp D.ha hx 0).1;have hs:=D.n e;have hd:=hs.dom D.ha;have hmd:(aO da.u f 0).u.c.made=da.u.c.made:=(dQ da.u f 0).made;exact ⟨g.e,D.name,hn,g.ha,λe2=>⟨g.n e2,hs.fid,by rw[hmd];exact hd⟩⟩
 ·rw[if_pos e,if_pos e];exact ⟨rfl,rfl,by simp,D.ha,λe2=>absurd e2 e⟩
theorem SE.remove {h a:U} (R:HA h a) (path:List UInt8):SE (cn h path) (cn a path):=by
 have P:=Ay R path;unfold cn;generalize atU h path=ph at *;generalize atU a path=pa at *;rw[P.e]
 by_cases e:pa.e=0
 ·have e':¬pa.e≠0:=by simpa using e
  rw[if_neg e',if_neg e'];obtain ⟨hs,hd,hdm⟩:=P.n e;have hl:=P.len;exact SE.act P.ha (x:=aK pa.n.fid pa.d pa.name) (y:=aK ph.n.fid ph.d ph.name) ⟨hl,by simp[aK],by simp[aK]⟩ ⟨by rw[←P.name] at hl;exact hl,by simp[aK],by simp[aK]⟩ ⟨rfl,λ_=>hs.fid,λ_=>⟨hd,P.name⟩,λe=>Zl,λe=>Zl⟩ ⟨λ_=>hs.dom P.ha,λ_=>hdm,λe=>Zl⟩ λhk he=>P.ha.seen hs rfl hk he
 ·rw[if_pos e,if_pos e];exact λ_=>P.ha
theorem SE.move {h a:U} (R:HA h a) (path to:List UInt8):SE (fJ h path to) (fJ a path to):=by
 have P:=Ay R path;unfold fJ;have hdr:∀{v:U},v.c.away=true->AwI v (au v to).u:=λhv=>Dy hv to
 generalize atU h path=ph at *;generalize atU a path=pa at *;rw[P.e]
 by_cases e:pa.e=0
 ·have e':¬pa.e≠0:=by simpa using e
  rw[if_neg e',if_neg e'];obtain ⟨hs,hd,hdm⟩:=P.n e;have D:=ou P.ha to;have hn:=cf pa.u to;have hw:=hdr P.ha.aa;have hmd:=hw.idle.made;have ht:=hw.tree P.ha.nod D.ha.nod;generalize au ph.u to=dh at *;generalize au pa.u to=da at *;rw[D.e]
  by_cases e2:da.e=0
  ·have e2':¬da.e≠0:=by simpa using e2
   rw[if_neg e2',if_neg e2'];have hl:=P.len;have hs2:=hs.look ht;have ht2:=D.n e2;exact SE.act D.ha (x:=fa pa.n.fid pa.d pa.name da.n.fid da.name) (y:=fa ph.n.fid ph.d ph.name dh.n.fid dh.name) ⟨hl,hn,by simp[fa]⟩ ⟨by rw[←P.name] at hl;exact hl,by rw[←D.name] at hn;exact hn,by simp[fa]⟩ ⟨rfl,λ_=>hs.fid,λ_=>⟨hd,P.name⟩,λ_=>⟨ht2.fid,D.name⟩,λe=>Zl⟩ ⟨λ_=>hs2.dom D.ha,λ_=>by rw[hmd];exact hdm,λ_=>ht2.dom D.ha⟩ λhk=>by rcases hk with hk | hk<;>cases hk
  ·rw[if_pos e2,if_pos e2];exact λ_=>D.ha
 ·rw[if_pos e,if_pos e];exact λ_=>P.ha
theorem EL {h a:U} (R:HA h a) (x:Step) (hk:x.kind=3\/x.kind=4\/x.kind=5\/x.kind=6) (he:(ar h x).r.err=(ar a x).r.err):HA (ar h x).u (ar a x).u:=by
 unfold ar at he ⊢
 rcases hk with k | k | k | k
 ·simp only[k,(by decide:¬((3:Int)=1\/(3:Int)=2)),if_false,if_true] at he ⊢;exact SE.write R x.path x.data he
 ·simp only[k,(by decide:¬((4:Int)=1\/(4:Int)=2)),(by decide:¬((4:Int)=3)),if_false,if_true] at he ⊢;exact SE.JL R x.path he
 ·simp only[k,(by decide:¬((5:Int)=1\/(5:Int)=2)),(by decide:¬((5:Int)=3)),(by decide:¬((5:Int)=4)),if_false,if_true] at he ⊢;exact SE.remove R x.path he
 ·simp only[k,(by decide:¬((6:Int)=1\/(6:Int)=2)),(by decide:¬((6:Int)=3)),(by decide:¬((6:Int)=4)),(by decide:¬((6:Int)=5)),if_false,if_true] at he ⊢;exact SE.move R x.path x.toPath he
structure JI (t:List Node) (mk:List Int) (s:JG):Prop where
 ri:Ri t
 sr:SR (atF s.j.own) (λk=>k=0\/ff s.j.own k=true) t s.j.l
 own:∀k,ff s.j.own k=true->k<0/\k∈mk/\0<qY s.j.own k/\qY s.j.own k<s.j.next
 rise:lA s.j.own
 next:0<s.j.next
 lost:s.j.lost=[]
 vs:∀v,v∈s.vs->v.err=0
theorem EA {j:JS} (h:j.lost=[]) (a:Act):fk j a=false:=by
 unfold fk;rw[h];exact List.any_eq_false.2 λx _=>by simp[iX,cQ]
theorem yu {j:JS} {r:Rec} {a:Act} (h:a.kind=3\/a.kind=4->r.version<0):gS j r a=false:=by
 unfold gS;rw[if_pos]
 by_cases hk:a.kind=3\/a.kind=4
 ·exact .inl (.inr (h hk))
 ·exact .inl (.inl ⟨λe=>hk (.inl e),λe=>hk (.inr e)⟩)
theorem xx {m:List (Int×Int)} (h:lA m) (f v k:Int):ff (eh m f v) k=(k==f||ff m k):=by
 unfold ff;rw[mY h]
 by_cases e:k=f
 ·rw[if_pos e,e];simp
 ·rw[if_neg e,beq_eq_false_iff_ne.2 e,Wq]
theorem xn {m:List (Int×Int)} (h:lA m) (f v k:Int):qY (eh m f v) k=if k=f then v else qY m k:=by
 unfold qY;rw[mY h];split<;>rfl
theorem C' {m:List (Int×Int)} (h:lA m) (f v k:Int):atF (eh m f v) k=if k=f then v else atF m k:=by
 unfold atF;rw[xx h,xn h]
 by_cases e:k=f
 ·rw[if_pos e,if_pos e,if_pos (by simp[e])]
 ·rw[if_neg e,if_neg e,beq_eq_false_iff_ne.2 e,Wq]
theorem zk {l:List Node} {a:Act} (he:bt l a=0):∀k,k∈cc a->(an a=true/\k=a.fid)\/∃x,af l k=some x:=λk hk=>by
 have hmk:(a.kind=1\/a.kind=2)->(an a=true/\k=a.fid)\/∃x,af l k=some x:=λhkk=>by
  rw[(iv l hkk 0).1] at he;obtain ⟨d,hd,_⟩:=(me _ _).1 he;unfold cc at hk;rw[if_neg z7,if_neg z7] at hk;simp only[List.mem_cons,List.not_mem_nil,or_false] at hk
  rcases hk with rfl | rfl
  ·exact .inl ⟨(km a).2 hkk,rfl⟩
  ·exact .inr ⟨d,hd⟩
 rcases rF he with k1 | k1 | k1 | k1 | k1
 ·exact hmk (.inl k1)
 ·exact hmk (.inr k1)
 ·rw[(dJ l k1 0).1] at he;obtain ⟨x,hx,_⟩:=(fA _ _).1 he;unfold cc at hk;rw[if_pos k1,List.mem_singleton] at hk;exact .inr ⟨x,by rw[hk];exact hx⟩
 ·rw[(eA l k1 0).1] at he;obtain ⟨d,x,hd,_,_,hx,_⟩:=(jA _ _).1 he;unfold cc at hk;rw[if_neg z7,if_neg z7] at hk;simp only[List.mem_cons,List.not_mem_nil,or_false] at hk
  rcases hk with rfl | rfl
  ·exact .inr ⟨x,hx⟩
  ·exact .inr ⟨d,hd⟩
 ·rw[(gy l k1 0).1] at he;obtain ⟨d,t,x,hd,_,_,ht,_,_,hx,_⟩:=(pe _ _).1 he;unfold cc at hk;rw[if_neg z7,if_pos k1] at hk;simp only[List.mem_cons,List.not_mem_nil,or_false] at hk
  rcases hk with rfl | rfl | rfl
  ·exact .inr ⟨x,hx⟩
  ·exact .inr ⟨d,hd⟩
  ·exact .inr ⟨t,ht⟩
theorem JI.step {p:List Past} {t:List Node} {mk:List Int} {s:JG} (h:JI t mk s) (hH:Hist p s.j.l) {r:Rec} (he:bt t r.act=0) (hneg:an r.act=true->r.act.fid<0) (hnew:an r.act=true->r.act.fid∉mk) (hv:r.act.kind=3\/r.act.kind=4->r.version<0) :
  JI (bk t r.act 0) (if an r.act=true then r.act.fid::mk else mk) (gm s r):=by
 have hno:an r.act=true->ff s.j.own r.act.fid=false:=λhm=>by
  cases e:ff s.j.own r.act.fid with
  | false=>rfl
  | true=>exact absurd (h.own _ e).2.1 (hnew hm)
 have hg:=hH.bV;have hriH:Ri s.j.l:=⟨hg.up,λn hn=>(hH.whole.loc n hn).eup⟩
 -- the cc with the new one
 have hrise1:lA (cK s.j r):=by unfold cK;split;exact eC h.rise;exact h.rise
 have hhas:∀k,ff (cK s.j r) k=true↔(an r.act=true/\k=r.act.fid)\/ff s.j.own k=true:=λk=>by
  unfold cK
  by_cases hm:an r.act=true
  ·rw[if_pos hm,xx h.rise,Bool.or_eq_true,beq_iff_eq];simp[hm]
  ·rw[if_neg hm];simp[hm]
 have ae:∀k,qY (cK s.j r) k=if an r.act=true/\k=r.act.fid then s.j.next else qY s.j.own k:=λk=>by
  unfold cK
  by_cases hm:an r.act=true
  ·rw[if_pos hm,xn h.rise];simp[hm]
  ·rw[if_neg hm];simp[hm]
 have hat:∀k,atF (cK s.j r) k=if an r.act=true/\k=r.act.fid then s.j.next else atF s.j.own k:=λk=>by
  unfold cK
  by_cases hm:an r.act=true
  ·rw[if_pos hm,C' h.rise];simp[hm]
  ·rw[if_neg hm];simp[hm]
 have hval:∀k,(k=0\/ff s.j.own k=true)->0≤atF s.j.own k/\atF s.j.own k<s.j.next:=λk hk=>by
  have:=h.next
  rcases hk with rfl | hk
  ·rw[h.sr.zero];omega
  ·have h1:=h.own k hk;unfold atF;rw[if_pos hk];omega
 have hnot:∀k,(k=0\/ff s.j.own k=true)->¬(an r.act=true/\k=r.act.fid):=λk hk hc=>by
  obtain ⟨hm,rfl⟩:=hc
  rcases hk with hk | hk
  ·have:=hneg hm;omega
  ·rw[hno hm] at hk;cases hk
 have hsr:SR (atF (cK s.j r)) (λk=>k=0\/ff (cK s.j r) k=true) t s.j.l:=by
  refine h.sr.more (λk hk=>⟨?_,?_⟩) λk j hk hj e=>?_
  ·rcases hk with hk | hk
   ·exact .inl hk
   ·exact .inr ((hhas k).2 (.inr hk))
  ·rw[hat,if_neg (hnot k hk)]
  ·have hsp:∀k,(k=0\/ff (cK s.j r) k=true)->(an r.act=true/\k=r.act.fid)\/(k=0\/ff s.j.own k=true):=λk hk=>by
    rcases hk with hk | hk
    ·exact .inr (.inl hk)
    ·rcases (hhas k).1 hk with h1 | h1
     ·exact .inl h1
     ·exact .inr (.inr h1)
   rw[hat,hat] at e
   rcases hsp k hk with h1 | h1<;>rcases hsp j hj with h2 | h2
   ·rw[h1.2,h2.2]
   ·rw[if_pos h1,if_neg (hnot j h2)] at e;have:=hval j h2;omega
   ·rw[if_neg (hnot k h1),if_pos h2] at e;have:=hval k h1;omega
   ·rw[if_neg (hnot k h1),if_neg (hnot j h2)] at e;exact h.sr.inj k j h1 h2 e
 have hlike:LikeA (atF (cK s.j r)) r.act (dc s.j r):=by
  refine ⟨rfl,rfl,λ_=>⟨rfl,rfl⟩,λh5=>⟨?_,rfl⟩,λ_=>rfl⟩
  show (if r.act.kind=5 then _ else _)=_
  rw[if_pos h5]
 have hfd:∀k,k∈cc r.act->(k=0\/ff (cK s.j r) k=true):=λk hk=>by
  rcases zk he k hk with h1 | ⟨x,hx⟩
  ·exact .inr ((hhas k).2 (.inl h1))
  ·exact (hsr.dA k x hx).1
 obtain ⟨hE,hL⟩:=hsr.apply h.ri hriH hlike hfd 0 s.j.version;rw[he,hg.aB] at hE;have hL:=hL he;rw[hg.aH] at hL;have c1:¬fk s.j r.act=true:=by rw[EA h.lost];simp
 have c2:¬(an r.act=true/\(ff s.j.own r.act.fid=true\/r.act.fid≥0)):=λhc=>by
  obtain ⟨hm,hc⟩:=hc
  rcases hc with hc | hc
  ·rw[hno hm] at hc;cases hc
  ·have:=hneg hm;omega
 have c3:¬gS { s.j with own:=cK s.j r } r (dc s.j r)=true:=by rw[yu (j:={ s.j with own:=cK s.j r }) (a:=dc s.j r) hv];simp
 have hone:ml s.j r=0:=by unfold ml;rw[if_neg c1,if_neg c2,if_neg c3];exact hE
 have hJ:fi s.j r={ s.j with l:=aH s.j.l (dc s.j r) s.j.version,next:=if an r.act=true then s.j.next+1 else s.j.next,version:=s.j.version+1,own:=cK s.j r }:=by
  unfold fi;rw[if_neg c1,if_neg c2,if_neg c3,if_neg n4]
 unfold gm;rw[if_pos hone,hJ];refine ⟨h.ri.apply _ _,hL,λk hk=>?_,hrise1,?_,h.lost,λv hv=>?_⟩
 ·have hk:ff (cK s.j r) k=true:=hk
  show k<0/\k∈_/\0<qY (cK s.j r) k/\qY (cK s.j r) k<if an r.act=true then s.j.next+1 else s.j.next
  have hn:=h.next;rw[ae]
  rcases (hhas k).1 hk with ⟨hm,rfl⟩ | h1
  ·rw[if_pos hm,if_pos ⟨hm,rfl⟩,if_pos hm];exact ⟨hneg hm,List.mem_cons_self,hn,by omega⟩
  ·have h2:=h.own k h1;rw[if_neg (hnot k (.inr h1))];refine ⟨h2.1,?_,h2.2.2.1,by split<;>omega⟩;split
   ·exact List.mem_cons_of_mem _ h2.2.1
   ·exact h2.2.1
 ·show 0<if an r.act=true then s.j.next+1 else s.j.next
  have:=h.next;split<;>omega
 ·rcases List.mem_append.1 hv with hv | hv
  ·exact h.vs v hv
  ·rw[List.mem_singleton.1 hv];exact hone
theorem JI.run {c n0:Int}:∀(L:List Rec) {p:List Past} {k:Nat} {t now:List Node} {ms:List Int} {s:JG},JI t ms s->JInv p c k n0 s->jh (L.map (·.act)) t=some now->(∀r,r∈L->ActFit r.act)->(∀r,r∈L->an r.act=true->r.act.fid<0) ->
  (∀r,r∈L->an r.act=true->r.act.fid∉ms)->((L.filter λr=>an r.act).map λr=>r.act.fid).Nodup->(∀r,r∈L->r.act.kind=3\/r.act.kind=4->r.version<0)->∃ms',JI now ms' (L.foldl gm s)
 | [],_,_,_,_,ms,_,h,_,hr,_,_,_,_,_=>by
  rw[List.map_nil,jh] at hr;injection hr with hr
  subst hr;exact ⟨ms,h⟩
 | r::L,p,k,t,now,ms,s,h,hJ,hr,hf,hneg,hnew,hnod,hv=>by
  obtain ⟨he,h2⟩:=dv.1 hr;have h3:=h.step hJ.hist he (hneg r List.mem_cons_self) (hnew r List.mem_cons_self) (hv r List.mem_cons_self);refine JI.run L h3 (hJ.step (hf r List.mem_cons_self)) h2 (λq hq=>hf q (List.mem_cons_of_mem _ hq)) (λq hq=>hneg q (List.mem_cons_of_mem _ hq)) (λq hq hm=>?_) ?_ (λq hq=>hv q (List.mem_cons_of_mem _ hq))
  ·split
   ·rename_i hmr;rw[List.filter_cons,if_pos hmr,List.map_cons,List.nodup_cons] at hnod;intro hin
    rcases List.mem_cons.1 hin with e | hin
    ·exact hnod.1 (by rw[←e];exact Z7.2 ⟨q,WE.2 ⟨hq,hm⟩,rfl⟩)
    ·exact hnew q (List.mem_cons_of_mem _ hq) hm hin
   ·exact hnew q (List.mem_cons_of_mem _ hq) hm
  ·rw[List.filter_cons] at hnod;split at hnod
   ·rw[List.map_cons,List.nodup_cons] at hnod;exact hnod.2
   ·exact hnod
theorem Db {h a:U} (R:HA h a):(∀v,v∈bm a->v.err=0)/\∃t σ τ dom dom',SR σ dom t h.s.tree/\SR τ dom' t (jo a).tree:=by
 obtain ⟨t',hsh,htr⟩:=R.log.shrt;obtain ⟨now,hnow,hE⟩:=hsh.runs;obtain ⟨B',T',aI⟩:=R.aI;have hs:a.s=bj:=R.srv;have hfit:∀r,r∈a.c.log->ActFit r.act:=λr hr=>(aI.cli.logS r hr).fit
 have h0:JI [aA] [] (cX [aA] 1 ((([]:List Past).length+1:Nat):Int)):=by
  refine ⟨gk,⟨rfl,.inl rfl,λk j hk hj _=>?_,λk x hx=>?_,λk x hx=>?_,λm y hy=>?_⟩,λk hk=>(by cases hk),List.Pairwise.nil,(by show (0:Int)<1;decide),rfl,λv hv=>(by cases hv)⟩
  ·rcases hk with hk | hk
   ·rcases hj with hj | hj
    ·rw[hk,hj]
    ·cases hj
   ·cases hk
  ·obtain ⟨h1,h2⟩:=(ZO gk.up).1 hx;rw[List.mem_singleton] at h1;subst h1;exact ⟨.inl h2.symm,λe he=>by cases he⟩
  ·have hx0:=hx;obtain ⟨h1,h2⟩:=(ZO gk.up).1 hx;rw[List.mem_singleton] at h1;subst h1;subst h2;exact ⟨aA,hx0,rfl,rfl,rfl⟩
  ·have hy0:=hy;obtain ⟨h1,h2⟩:=(ZO gk.up).1 hy;rw[List.mem_singleton] at h1;subst h1;subst h2;exact ⟨0,aA,hy0,rfl⟩
 obtain ⟨mk',hJ⟩:=JI.run a.c.log h0 (JInv.start Hist.nil a.c.number 1) hnow hfit (λr hr hm=>(R.log.made r hr hm).2) (λr _ _ h=>u9) R.log.nod R.log.ver;have hb:bm a=(a.c.log.foldl gm (cX [aA] 1 ((([]:List Past).length+1:Nat):Int))).vs:=by unfold bm cP;rw[hs];rfl
 have hbs:(jo a).tree=(a.c.log.foldl gm (cX [aA] 1 ((([]:List Past).length+1:Nat):Int))).j.l:=by unfold jo po cP;rw[hs];rfl
 rw[hbs];exact ⟨λv hv=>hJ.vs v (by rw[←hb];exact hv),now,_,_,_,_,R.sr.alike (htr.trans hE.symm),hJ.sr⟩
def cR (N:Int->Option Node):Nat->Int->List UInt8->List UInt8
 | 0,_,_=>[]
 | f+1,k,p=>if ((N k).getD ax).dir=false then p++[61]++((N k).getD ax).data++[59]
  else ((N k).getD ax).entries.foldl (λs e=>s++cR N f e.fid (p++[47]++e.name)) (p++[47,59])
def wUp (r:Int->Nat) (t:List Node) (k:Int):Nat:=((t.filter λn=>decide (r n.fid≤r k)).map λn=>n.entries.length).sum
theorem nC (f:Node->Nat) (p:Node->Bool):∀(t:List Node),((t.filter p).map f).sum≤(t.map f).sum
 | []=>WC _
 | n::t=>by
  have ih:=nC f p t;rw[List.filter_cons,List.map_cons,List.sum_cons];split
  ·rw[List.map_cons,List.sum_cons];omega
  ·omega
theorem yI {r:Int->Nat} {n:Node} {k:Int} (hk:r k<r n.fid):∀{t:List Node},n∈t->wUp r t k+n.entries.length≤wUp r t n.fid
 | [],h=>by cases h
 | m::t,h=>by
  have mono:∀(t:List Node),wUp r t k≤wUp r t n.fid:=λt=>by
   induction t with
   | nil=>exact WC _
   | cons m t ih=>
    unfold wUp at ih ⊢;rw[List.filter_cons,List.filter_cons]
    by_cases h1:r m.fid≤r k
    ·rw[if_pos QJ,if_pos k7,List.map_cons,List.map_cons,List.sum_cons,List.sum_cons];omega
    ·rw[if_neg QJ];split
     ·rw[List.map_cons,List.sum_cons];omega
     ·exact ih
  rcases List.mem_cons.1 h with rfl | h
  ·have:=mono t;unfold wUp at this ⊢;rw[List.filter_cons,List.filter_cons,if_neg k7,if_pos y7,List.map_cons,List.sum_cons];omega
  ·have:=yI hk h;unfold wUp at this ⊢;rw[List.filter_cons,List.filter_cons]
   by_cases h1:r m.fid≤r k
   ·rw[if_pos QJ,if_pos k7,List.map_cons,List.map_cons,List.sum_cons,List.sum_cons];omega
   ·rw[if_neg QJ];split
    ·rw[List.map_cons,List.sum_cons];omega
    ·exact this
structure PTr (r:Int->Nat) (t:List Node):Prop where
 up:Up t
 cM:jV r t
 tot:(t.map λn=>n.entries.length).sum≤24
 name:∀n,n∈t->∀e,e∈n.entries->e.name.length≤40
 data:∀n,n∈t->n.data.length≤20
theorem PTr.w {r:Int->Nat} {t:List Node} (h:PTr r t) (k:Int):wUp r t k≤24:=Wk (nC _ _ _) h.tot
theorem PTr.sub {r:Int->Nat} {t:List Node} (h:PTr r t) {n:Node} (hn:n∈t) {e:Entry} (he:e∈n.entries):wUp r t e.fid+n.entries.length≤wUp r t n.fid/\1≤n.entries.length:=
 ⟨yI (h.cM n hn e he) hn,List.length_pos_of_mem he⟩
theorem H_ (b w:Nat) (hb:1≤b) (hw:b≤w):b*2 ^ (w-b)*2≤2 ^ w:=by
 have h1:b*2≤2 ^ b:=by
  clear hw
  induction b with
  | zero=>omega
  | succ b ih=>
   by_cases h0:b=0
   ·subst h0;decide
   ·have:=ih z7;rw[Nat.pow_succ];omega
 calc b*2 ^ (w-b)*2=b*2*2 ^ (w-b):=by rw[Nat.mul_assoc,Nat.mul_comm (2 ^ (w-b)) 2,←Nat.mul_assoc]
  _≤2 ^ b*2 ^ (w-b):=WG _ h1
  _=2 ^ w:=by rw[←Nat.pow_add];congr 1;omega
theorem xk {N:Int->Option Node} {f:Nat} {p:List UInt8} {X:Nat}:∀(l:List Entry) (s:List UInt8),(∀e,e∈l->(cR N f e.fid (p++[47]++e.name)).length≤X)->(l.foldl (λs e=>s++cR N f e.fid (p++[47]++e.name)) s).length≤s.length+l.length*X
 | [],s,_=>by simp
 | e::l,s,h=>by
  have ih:=xk l (s++cR N f e.fid (p++[47]++e.name)) λq hq=>h q (List.mem_cons_of_mem _ hq)
  have:=h e List.mem_cons_self;rw[List.length_append] at ih;rw[List.foldl_cons,List.length_cons,W6];omega
theorem uK {r:Int->Nat} {t:List Node} (h:PTr r t):∀(f:Nat) (k:Int) (p:List UInt8),p.length≤41*(24-wUp r t k)->(cR (af t) f k p).length≤2 ^ wUp r t k*1100
 | 0,_,_,_=>by unfold cR;simp
 | f+1,k,p,hp=>by
  have h1:1≤2 ^ wUp r t k:=Nat.one_le_two_pow;unfold cR;cases e:af t k with
  | none=>
   simp only[Option.getD_none,ax,if_true,List.length_append,List.length_cons,List.length_nil];omega
  | some n=>
   obtain ⟨hn,hf⟩:=(ZO h.up).1 e;have hd:=h.data n hn;simp only[Option.getD_some];split
   ·simp only[List.length_append,List.length_cons,List.length_nil];omega
   ·by_cases h0:n.entries=[]
    ·rw[h0,List.foldl_nil];simp only[List.length_append,List.length_cons,List.length_nil];omega
    ·have hb:1≤n.entries.length:=by
      cases hx:n.entries with
      | nil=>exact absurd hx h0
      | cons a l=>simp
     obtain ⟨e0,he0⟩:∃e,e∈n.entries:=⟨n.entries.head h0,List.head_mem h0⟩;have hs0:=(h.sub hn he0).1;rw[hf] at hs0;have hl:=xk (N:=af t) (f:=f) (p:=p) (X:=2 ^ (wUp r t k-n.entries.length)*1100) n.entries (p++[47,59]) λe he=>by
      have hs:=(h.sub hn he).1;rw[hf] at hs;have hw:=h.w k;have hnm:=h.name n hn e he;have ih:=uK h f e.fid (p++[47]++e.name) (by
       simp only[List.length_append,List.length_cons,List.length_nil];omega)
      refine Wk ih (WG _ (Nat.pow_le_pow_right j6 z7))
     have h2:=H_ n.entries.length (wUp r t k) hb z7;rw[List.length_append] at hl;have h3:n.entries.length*(2 ^ (wUp r t k-n.entries.length)*1100)=n.entries.length*2 ^ (wUp r t k-n.entries.length)*1100:=(Nat.mul_assoc _ _ _).symm;rw[h3] at hl;generalize n.entries.length*2 ^ (wUp r t k-n.entries.length)=y at *;have h4:2≤2 ^ wUp r t k:=by
      have:1≤wUp r t k:=by omega
      calc 2=2 ^ 1:=rfl
       _≤2 ^ wUp r t k:=Nat.pow_le_pow_right j6 this
     generalize 2 ^ wUp r t k=z at *;simp only[List.length_cons,List.length_nil] at hl;omega
theorem PTr.small {r:Int->Nat} {t:List Node} (h:PTr r t) {f:Nat} {k:Int} {p:List UInt8} (hp:p.length≤41*(24-wUp r t k)):(cR (af t) f k p).length≤20000000000:=by
 have h1:=uK h f k p hp;have h2:2 ^ wUp r t k≤2 ^ 24:=Nat.pow_le_pow_right j6 (h.w k);have h3:(2:Nat) ^ 24=16777216:=by decide
 omega
theorem PTr.of {t:List Node} (h:Wh t):∃r,PTr r t:=by
 obtain ⟨r,hr⟩:=h.bV.cM;refine ⟨r,h.bV.up,hr,?_,λn hn e he=>?_,h.bV.data⟩
 ·have hl:(kB t).length=(t.map λn=>n.entries.length).sum:=by
   unfold kB AK;rw[List.length_flatMap]
   congr 1
   exact Wo λn _=>by simp
  rw[←hl];have h1:∀f,f∈kB t->f∈t.map λn=>n.fid:=λf hf=>by
   obtain ⟨d,s,he⟩:=wu.1 hf;obtain ⟨n,hn,hnf⟩:=h.there d s f he;exact Z7.2 ⟨n,hn,hnf⟩
  have key:∀(a b:List Int),a.Nodup->(∀f,f∈a->f∈b)->a.length≤b.length:=λa=>by
   induction a with
   | nil=>intro b _ _;simp
   | cons x a ih=>
    intro b ha hb;have ha:=List.nodup_cons.1 ha;obtain ⟨b1,b2,rfl⟩:=List.append_of_mem (hb x List.mem_cons_self);have:=ih (b1++b2) ha.2 λf hf=>by
     have h1:=hb f (List.mem_cons_of_mem _ hf)
     rcases List.mem_append.1 h1 with h1 | h1
     ·exact WM _ h1
     ·rcases List.mem_cons.1 h1 with rfl | h1
      ·exact absurd hf ha.1
      ·exact WB _ h1
    rw[List.length_append] at this;rw[List.length_cons,List.length_append,List.length_cons];omega
  have:=key _ _ (E7 h) h1;rw[List.length_map] at this;have:=h.bV.len;omega
 ·exact h.nm hn e he
theorem SR.paths {σ:Int->Int} {dom:Int->Prop} {A H:List Node} (h:SR σ dom A H):∀(f:Nat) (k:Int) (p:List UInt8),dom k->cR (af H) f (σ k) p=cR (af A) f k p
 | 0,_,_,_=>rfl
 | f+1,k,p,hk=>by
  unfold cR
  rcases h.both hk with ⟨h1,h2⟩ | ⟨x,y,h1,h2,h3⟩
  ·rw[h1,h2];rfl
  ·rw[h1,h2];simp only[Option.getD_some];rw[h3.dir,h3.data,h3.ent,List.foldl_map];have hd:=(h.dA k x h1).2;split
   ·rfl
   ·generalize p++[47,59]=s;generalize hl:x.entries=l at hd;clear hl
    induction l generalizing s with
    | nil=>rfl
    | cons e l ih=>
     rw[List.foldl_cons,List.foldl_cons];have he:cR (af H) f (sA σ e).fid (p++[47]++(sA σ e).name)=cR (af A) f e.fid (p++[47]++e.name):=h.paths f e.fid _ (hd e List.mem_cons_self);rw[he];exact ih _ λq hq=>hd q (List.mem_cons_of_mem _ hq)
structure WR (wh wa:Wor):Prop where
 iw:∃B T,WInv B T wh
 r:∃ch ca,wh.cs=[ch]/\wa.cs=[ca]/\HA ⟨ch,wh.s⟩ ⟨ca,wa.s⟩
theorem fN {w:Wor} {c:Cli} (hc:w.cs=[c]) {x:Step} (hx:x.client=0):ai w x=⟨⟨(ar ⟨c,w.s⟩ x).u.s,[aS (ar ⟨c,w.s⟩ x).u.s.tree (ar ⟨c,w.s⟩ x).u.c]⟩,(ar ⟨c,w.s⟩ x).r⟩:=by
 unfold ai;rw[hc,hx,if_neg y7];rfl
theorem WR.step {wh wa:Wor} (h:WR wh wa) {x:Step} (hx:x.client=0) (hk:x.kind=3\/x.kind=4\/x.kind=5\/x.kind=6) (he:(ai wh x).r.err=(ai wa x).r.err):WR (ai wh x).w (ai wa x).w:=by
 obtain ⟨B,T,hw⟩:=h.iw;obtain ⟨ch,ca,h1,h2,R⟩:=h.r;have hwi:=bl hw x;rw[fN h1 hx] at he hwi ⊢;rw[fN h2 hx] at he ⊢;have R2:=EL R x hk he;refine ⟨⟨_,_,hwi⟩,_,_,rfl,rfl,?_⟩;have haw:aS (ar ⟨ca,wa.s⟩ x).u.s.tree (ar ⟨ca,wa.s⟩ x).u.c=(ar ⟨ca,wa.s⟩ x).u.c:=by unfold aS;rw[if_pos R2.aa]
 have hfr:(aS (ar ⟨ch,wh.s⟩ x).u.s.tree (ar ⟨ch,wh.s⟩ x).u.c).away=false:=by unfold aS;rw[if_neg (by simp[R2.hh])];exact R2.hh
 rw[haw];exact { R2 with
  hI:=⟨_,_,hwi.srv,hwi.cli _ (List.mem_singleton.2 rfl)⟩
  hh:=hfr }
theorem WR.run:∀(l:List Step) {wh wa:Wor},WR wh wa->(∀x,x∈l->x.client=0/\(x.kind=3\/x.kind=4\/x.kind=5\/x.kind=6)) ->
  (∃i,i<l.length/\((rsW wh l).getD i default).err≠((rsW wa l).getD i default).err)\/WR (bO wh l) (bO wa l)
 | [],_,_,h,_=>.inr h
 | x::l,wh,wa,h,hk=>by
  obtain ⟨k1,k2⟩:=hk x List.mem_cons_self
  by_cases he:(ai wh x).r.err=(ai wa x).r.err
  ·rcases WR.run l (h.step k1 k2 he) (λy hy=>hk y (List.mem_cons_of_mem _ hy)) with ⟨i,h1,h2⟩ | h1
   ·exact .inl ⟨i+1,by rw[List.length_cons];omega,h2⟩
   ·exact .inr h1
  ·exact .inl ⟨0,by simp,he⟩
def bR:Step:=⟨2,0,0,[47],[],[]⟩
def ba:Step:=⟨7,0,0,[],[],[]⟩
def bp:Step:=⟨8,0,0,[],[],[]⟩
def ez:Cli:=⟨0,false,24,[⟨aA,false,0,1⟩],[],[],[],1,0,0⟩
theorem ky:(ai (bo [24]) bR).w=⟨bj,[ez]⟩:=by kernel_rfl
theorem ER:WR ⟨bj,[ez]⟩ (ai ⟨bj,[ez]⟩ ba).w:=by
 have hr:cz [24]=0:=by decide
 have hw:=bl (oO hr) bR;rw[ky] at hw;have hw2:=bl hw ba;have ha:(ai ⟨bj,[ez]⟩ ba).w=⟨bj,[{ ez with away:=true }]⟩:=by kernel_rfl
 rw[ha] at hw2 ⊢;have ht:aU { ez with away:=true }=[aA]:=by kernel_rfl
 refine ⟨⟨_,_,hw⟩,_,_,rfl,rfl,?_⟩;exact {
  hI:=⟨_,_,hw.srv,hw.cli _ (List.mem_singleton.2 rfl)⟩
  aI:=⟨_,_,hw2.srv,hw2.cli _ (List.mem_singleton.2 rfl)⟩
  hh:=rfl
  aa:=rfl
  sr:=by
   rw[ht];have hf:∀k x,af [aA] k=some x->k=0/\x=aA:=λk x hx=>by
    obtain ⟨h1,h2⟩:=(ZO gk.up).1 hx;rw[List.mem_singleton] at h1;subst h1;exact ⟨h2.symm,rfl⟩
   have h0:af [aA] 0=some aA:=(ZO gk.up).2 ⟨List.mem_singleton.2 rfl,rfl⟩;refine ⟨rfl,⟨by decide,by decide⟩,λk j _ _ e=>by unfold ng at e;omega,λk x hx=>?_,λk x hx=>?_,λm y hy=>?_⟩
   ·obtain ⟨rfl,rfl⟩:=hf k x hx;exact ⟨⟨by decide,by decide⟩,λe he=>by cases he⟩
   ·obtain ⟨rfl,rfl⟩:=hf k x hx;exact ⟨aA,h0,rfl,rfl,rfl⟩
   ·obtain ⟨rfl,rfl⟩:=hf m y hy;exact ⟨0,aA,h0,rfl⟩
  next:=rfl
  m0:=Int.le_refl 0
  full:=λk hk=>by rw[List.mem_singleton.1 hk];rfl
  srv:=rfl
  log:=by rw[ht];exact ⟨⟨[aA],Shrt.start gk,TR.refl _⟩,λr hr=>Zn,List.Pairwise.nil,λr hr=>Zn⟩ }
theorem Bz {vs:List Verdict} (h:∀v,v∈vs->v.err=0):fc vs=vs.length:=by
 unfold fc;rw[WU.2 λv hv=>by rw[h v hv];rfl]
theorem CV {l:List Step} (hk:∀x,x∈l->x.client=0/\(x.kind=3\/x.kind=4\/x.kind=5\/x.kind=6)) :
  (∃i,i<l.length/\((rsW (bo [24]) (bR::l)).getD (i+1) default).err≠((rsW (bo [24]) (bR::ba::(l++[bp]))).getD (i+2) default).err) \/
  (((rsW (bo [24]) (bR::ba::(l++[bp]))).getD (l.length+2) default).m=0/\∀f p,cR (af (bO (bo [24]) (bR::l)).s.tree) f 0 p=cR (af (bO (bo [24]) (bR::ba::(l++[bp]))).s.tree) f 0 p):=by
 have e1:rsW (bo [24]) (bR::l)=(ai (bo [24]) bR).r::rsW ⟨bj,[ez]⟩ l:=by show _::rsW _ l=_;rw[ky]
 have e2:rsW (bo [24]) (bR::ba::(l++[bp]))=(ai (bo [24]) bR).r::(ai ⟨bj,[ez]⟩ ba).r::(rsW (ai ⟨bj,[ez]⟩ ba).w l++rsW (bO (ai ⟨bj,[ez]⟩ ba).w l) [bp]):=by
  show _::_::rsW (ai (ai (bo [24]) bR).w ba).w (l++[bp])=_
  rw[ky,nd]
 have e3:bO (bo [24]) (bR::l)=bO ⟨bj,[ez]⟩ l:=by show bO (ai (bo [24]) bR).w l=_;rw[ky]
 have e4:bO (bo [24]) (bR::ba::(l++[bp]))=(ai (bO (ai ⟨bj,[ez]⟩ ba).w l) bp).w:=by
  show bO (ai (ai (bo [24]) bR).w ba).w (l++[bp])=_
  rw[ky,td];rfl
 have hlen:=jC l (ai ⟨bj,[ez]⟩ ba).w;rw[e1,e2,e3,e4]
 rcases WR.run l ER hk with ⟨i,h1,h2⟩ | h
 ·refine .inl ⟨i,h1,?_⟩;rw[List.getD_cons_succ,show i+2=i+1+1 from rfl,List.getD_cons_succ,List.getD_cons_succ];have:(rsW (ai ⟨bj,[ez]⟩ ba).w l++rsW (bO (ai ⟨bj,[ez]⟩ ba).w l) [bp]).getD i default=(rsW (ai ⟨bj,[ez]⟩ ba).w l).getD i default:=by
   rw[Z1,WS z7,Z1]
  rw[this];exact h2
 ·refine .inr ?_;obtain ⟨ch,ca,h1,h2,R⟩:=h.r;obtain ⟨hvs,t,σ,τ,d,d',s1,s2⟩:=Db R;have hb:ai (bO (ai ⟨bj,[ez]⟩ ba).w l) bp=⟨⟨(cA ⟨ca,(bO (ai ⟨bj,[ez]⟩ ba).w l).s⟩).s,[aS (cA ⟨ca,(bO (ai ⟨bj,[ez]⟩ ba).w l).s⟩).s.tree (cA ⟨ca,(bO (ai ⟨bj,[ez]⟩ ba).w l).s⟩).c]⟩,⟨0,fc (bm ⟨ca,(bO (ai ⟨bj,[ez]⟩ ba).w l).s⟩),((bm ⟨ca,(bO (ai ⟨bj,[ez]⟩ ba).w l).s⟩).length-fc (bm ⟨ca,(bO (ai ⟨bj,[ez]⟩ ba).w l).s⟩):Nat),[]⟩⟩:=fN h2 rfl;refine ⟨?_,λf p=>?_⟩
  ·rw[show l.length+2=l.length+1+1 from rfl,List.getD_cons_succ,List.getD_cons_succ,Z1,WJ z7,hlen,Wf]
   show (ai (bO (ai ⟨bj,[ez]⟩ ba).w l) bp).r.m=0
   rw[hb,Bz hvs,Wf];rfl
  ·have q1:=s1.paths f 0 p s1.d0;have q2:=s2.paths f 0 p s2.d0;rw[s1.zero] at q1;rw[s2.zero] at q2;rw[hb]
   show _=cR (af (jo ⟨ca,(bO (ai ⟨bj,[ez]⟩ ba).w l).s⟩).tree) f 0 p
   rw[q2];exact q1
end La
