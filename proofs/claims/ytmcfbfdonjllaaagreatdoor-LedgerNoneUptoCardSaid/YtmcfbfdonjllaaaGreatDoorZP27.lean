/- Texts of this claim, part 27: PWor2, PWor3, PIds, PIds2, PCHere, PCAway, PFate, PBook. No condition. -/
import Derived.Test.YtmcfbfdonjllaaaGreatDoorZP26
import Derived.Test.YtmcfbfdonjllaaaGreatDoorZP25
set_option maxRecDepth 10000
set_option maxHeartbeats 4000000
set_option linter.unusedSimpArgs false
set_option linter.unusedVariables false
namespace La
open Go Go.Eng
variable {Fa:Prop}
theorem oz {l:List Node} (h:(l.map (·.fid)).Nodup):∀i,i<l.length->∀j,j<i->gq l j≠gq l i:=λi hi j hj e=>by
 unfold gq at e;rw[List.getD_eq_getElem?_getD,List.getD_eq_getElem?_getD,W3 hi,W3 (show j<l.length by omega)] at e;have:=(List.getElem_inj (xs:=l.map (·.fid)) (i:=j) (j:=i) (h₀:=k6) (h₁:=Z6) h).1 (by rw[List.getElem_map,List.getElem_map];exact e);omega
theorem kb (l:List Kept):(aO l).map (·.fid)=l.map λk=>k.node.fid:=by unfold aO;rw[Yi];rfl
theorem oT {l:List Kept} (h:(l.map λk=>k.node.fid).Nodup):sV l=true:=by
 refine decide_eq_true λi hi j hj=>?_
 have:=oz (l:=aO l) (by rw[kb];exact h) i (by simpa[aO] using hi) j hj;have hf:∀i,i<l.length->gq (aO l) i=yW l i:=λi hi=>by
  unfold gq yW aO;rw[List.getD_eq_getElem?_getD,List.getD_eq_getElem?_getD,W5,W3 hi];rfl
 rwa [hf j z8,hf i hi] at this
theorem fp {c:Cli} (h:(c.cache.map λk=>k.node.fid).Nodup) (x:Node):x∈cQ c↔∃k,k∈c.cache/\k.node=x:=by
 unfold cQ;rw[wH _ (oz (by rw[kb];exact h)),oF]
theorem jM (c:Cli):Up (cQ c):=oO _
theorem EO {c:Cli} (h:(c.cache.map λk=>k.node.fid).Nodup):(cQ c).length=c.cache.length:=by
 unfold cQ;rw[wE _ (oz (by rw[kb];exact h))];simp[aO]
theorem CInvF.bs {B T:Nat} {s:Srv} {c:Cli} (h:CInvF Fa B T s c):Good (cQ c) where
 up:=jM c
 dd:=by
  obtain ⟨r,hr⟩:=h.dd;exact ⟨r,vL hr λn hn=>by
   obtain ⟨k,hk,rfl⟩:=(fp h.nod n).1 hn;exact ⟨k.node,oF.2 ⟨k,hk,rfl⟩,rfl,rfl⟩⟩
 len:=by rw[EO h.nod];have:=h.len;have:=h.room;omega
 data:=λn hn=>by obtain ⟨k,hk,rfl⟩:=(fp h.nod n).1 hn;exact h.data k hk
 ent:=λn hn=>by obtain ⟨k,hk,rfl⟩:=(fp h.nod n).1 hn;exact h.ent k hk
theorem CInvF.ri {B T:Nat} {s:Srv} {c:Cli} (h:CInvF Fa B T s c):Ri (cQ c):=⟨jM c,λn hn=>by
 obtain ⟨k,hk,rfl⟩:=(fp h.nod n).1 hn;exact h.eup k hk⟩
theorem CInvF.nmT {B T:Nat} {s:Srv} {c:Cli} (h:CInvF Fa B T s c):Nm (cQ c):=⟨jM c,λn hn=>by
 obtain ⟨k,hk,rfl⟩:=(fp h.nod n).1 hn;exact h.nam k hk⟩
theorem oD {room clk:Int} (hr:1<=room) {was:List Node} {a:Act}:∀(N:List Node) {l L:List Kept},(l.map λx=>x.node.fid).Nodup->(l.length:Int)<=room->cu room clk was a N l=some L ->
  (L.map λx=>x.node.fid).Nodup/\(L.length:Int)<=room/\∀x,x∈L->(x∈l/\∀n,n∈N->aU was a n=true->n.fid≠x.node.fid)\/∃n,n∈N/\aU was a n=true/\x.node=(fZ was clk n).node/\x.dirty=true
 | [],l,L,hn,hl,h=>by
  rw[cu] at h;injection h with h
  subst h;exact ⟨hn,hl,λx hx=>.inl ⟨hx,λn hn=>by cases hn⟩⟩
 | n::r,l,L,hn,hl,h=>by
  rw[cu] at h;split at h
  ·rename_i hc;split at h
   ·cases h
   ·rename_i l' hk;have hp:=zx hr hn hl hk;obtain ⟨h1,h2,h3⟩:=oD hr r hp.nod hp.len h;refine ⟨h1,h2,λx hx=>?_⟩
    rcases h3 x hx with ⟨h4,h5⟩ | ⟨m,h4,h5⟩
    ·rcases hp.mem x h4 with ⟨h6,h7⟩ | ⟨h6,h7⟩
     ·refine .inl ⟨h6,λm hm hcm=>?_⟩
      rcases List.mem_cons.1 hm with rfl | hm
      ·exact λe=>h7 e.symm
      ·exact h5 m hm hcm
     ·exact .inr ⟨n,List.mem_cons_self,hc,h6,h7⟩
    ·exact .inr ⟨m,List.mem_cons_of_mem _ h4,h5⟩
  ·rename_i hc;obtain ⟨h1,h2,h3⟩:=oD hr r hn hl h;refine ⟨h1,h2,λx hx=>?_⟩
   rcases h3 x hx with ⟨h4,h5⟩ | ⟨m,h4,h5⟩
   ·refine .inl ⟨h4,λm hm hcm=>?_⟩
    rcases List.mem_cons.1 hm with rfl | hm
    ·exact absurd hcm hc
    ·exact h5 m hm hcm
   ·exact .inr ⟨m,List.mem_cons_of_mem _ h4,h5⟩
theorem A6 {l L:List Rec} {r:Rec} (hl:l.length<=20) (h:dm l r=some L):L.length<=20/\∀x,x∈L->x∈l\/x=r:=by
 unfold dm at h;split at h
 ·injection h with h
  subst h;exact ⟨Yn (YB _ _) hl,λx hx=>.inl (YL.1 hx).1⟩
 ·split at h
  ·cases h
  ·rename_i hlt;injection h with h
   subst h;refine ⟨by simp;omega,λx hx=>?_⟩
   rcases List.mem_append.1 hx with hx | hx
   ·exact .inl ((jb l r).subset hx)
   ·exact .inr (List.mem_singleton.1 hx)
theorem Ay {a b:Node} (h:dg false a b=true):a.fid=b.fid/\a.dir=b.dir/\a.data=b.data/\a.entries=b.entries:=by
 unfold dg at h;simp only[Bool.and_eq_true,beq_iff_eq,decide_eq_true_eq] at h;exact ⟨h.1.1.1.1,h.1.1.1.2,h.1.1.2,h.1.2⟩
theorem yB {was:List Node} {a:Act} {n:Node} (h:aU was a n≠true):∃o,ak was n.fid=some o/\dg false o n=true:=by
 unfold aU at h;cases e:ak was n.fid with
 | none=>rw[e] at h;simp at h
 | some o=>
  rw[e] at h;refine ⟨o,rfl,?_⟩;simp only[Bool.not_eq_true,Bool.not_eq_false',Bool.and_eq_true] at h;exact h.1
theorem BP {c:Cli} {a:Act} (h:ActS a):ActS (eV c a):=by unfold eV;split;exact ⟨h.name,h.toName,h.data⟩;exact h
theorem Lu {B T:Nat} {s:Srv} {c:Cli} (h:CInvF Fa B T s c) {a:Act} (he:aG (cQ c) (eV c a)=0) {L:List Kept} (hL:CW c a=some L) :
  let L':=L.filter λk=>bf (lH c a) k.node.fid
  (L'.map λx=>x.node.fid).Nodup/\(L'.length:Int)<=c.room/\Of (lH c a) L'/\∀x,x∈L'->x.dirty=false->x∈c.cache:=by
 intro L';obtain ⟨h1,h2,h3⟩:=oD (by have:=h.room;omega) _ h.nod h.len hL;have hg:=fH h.bs (eV c a) 0 he;refine ⟨h1.sublist ((Y4).map _),?_,⟨λx hx=>?_⟩,λx hx hd=>?_⟩
 ·have:=YB (λk:Kept=>bf (lH c a) k.node.fid) L
  show ((L.filter _).length:Int)<=_
  omega
 ·obtain ⟨hx,hat⟩:=YL.1 hx
  rcases h3 x hx with ⟨h4,h5⟩ | ⟨n,h4,h5,h6,h7⟩
  ·rw[cK] at hat;obtain ⟨m,hm⟩:=Yf.1 hat;obtain ⟨hm,hmf⟩:=(ZO hg.up).1 hm;have hno:aU (cQ c) (eV c a) m≠true:=λhc=>h5 m hm hc hmf
   obtain ⟨o,ho,hs⟩:=yB hno;have hx2:ak (cQ c) m.fid=some x.node:=(ZO (jM c)).2 ⟨(fp h.nod _).2 ⟨x,h4,rfl⟩,hmf.symm⟩;rw[hx2] at ho;injection ho with ho
   subst ho;obtain ⟨k1,k2,k3,k4⟩:=Ay hs;exact ⟨m,hm,hmf,k2.symm,k3.symm,k4.symm⟩
  ·exact ⟨n,h4,by rw[h6];rfl,by rw[h6];rfl,by rw[h6];rfl,by rw[h6];rfl⟩
 ·obtain ⟨hx,_⟩:=YL.1 hx
  rcases h3 x hx with ⟨h4,_⟩ | ⟨n,_,_,_,h7⟩
  ·exact h4
  ·rw[hd] at h7;cases h7
theorem Jg {B T:Nat} {u:U} (h:UInvF Fa B T u) (ha:u.c.away=true) {a:Act} (hs:ActS a) (seen:Int):UInvF Fa (B+1) T (kR u a seen).u:=by
 have hm:=h.mono (Nat.le_succ B) (YA T);unfold kR;split
 ·exact hm
 ·rename_i he;have he:aG (cQ u.c) (eV u.c a)=0:=by omega
  split
  ·exact hm
  ·rename_i log hlog;split
   ·exact hm
   ·rename_i L hL;obtain ⟨h1,h2,h3,h4⟩:=Lu h.cli he hL;have hg:=fH h.cli.bs (eV u.c a) 0 he;have hri:Ri (lH u.c a):=by unfold lH;rw[<-h.cli.bs.aK];exact h.cli.ri.apply _ _
    have hnm:Nm (lH u.c a):=by unfold lH;rw[<-h.cli.bs.aK];exact h.cli.nmT.apply _ _
    obtain ⟨g1,g2⟩:=A6 h.cli.log hlog;refine ⟨hm.srv,?_⟩;have hc:=hm.cli;exact { hc with
     nod:=h1
     len:=h2
     dd:=h3.dd hg.dd
     data:=λk hk=>by obtain ⟨n,k1,_,_,k2,_⟩:=h3.each k hk;rw[<-k2];exact hg.data n k1
     ent:=λk hk=>by obtain ⟨n,k1,_,_,_,k2⟩:=h3.each k hk;rw[<-k2];exact hg.ent n k1
     eup:=λk hk=>by obtain ⟨n,k1,_,_,_,k2⟩:=h3.each k hk;rw[<-k2];exact hri.eup n k1
     nam:=λk hk=>by obtain ⟨n,k1,_,_,_,k2⟩:=h3.each k hk;rw[<-k2];exact hnm.nm n k1
     here:=λh0=>by simp only[ha] at h0;cases h0
     hst:=λhF k hk hd=>h.cli.hst hF k (h4 k hk hd) hd
     log:=g1
     logS:=λr hr=>by
      rcases g2 r hr with h5 | rfl
      ·exact h.cli.logS r h5
      ·exact BP hs
     made:=by have:=h.cli.made;show 0<=(if aR a=true then u.c.made+1 else u.c.made)/\(if aR a=true then u.c.made+1 else u.c.made)<=((B+1:Nat):Int);split<;>omega
     logged:=by have:=h.cli.logged;show 0<=u.c.logged+1/\u.c.logged+1<=((B+1:Nat):Int);omega }
theorem CInvF.grow {B B' T:Nat} {s s':Srv} {c:Cli} (h:CInvF Fa B T s c) (hB:B<=B') (hh:Hist s.past s.tree) (hg:Grown s s'):CInvF Fa B' T s' (bE s'.tree c):=by
 have hm:=h.mono hB (YA T);unfold bE;split
 ·rename_i ha;exact { hm with here:=λh0=>(by rw[ha] at h0;cases h0),hst:=λhF k hk hd=>(h.hst hF k hk hd).grow hh hg }
 ·rename_i ha;have ha:c.away=false:=by simpa using ha
  unfold mH;have hsub:(c.cache.filter λk=>!bO s'.tree k).Sublist c.cache:=Y4;have hin:∀k,k∈c.cache.filter (λk=>!bO s'.tree k)->k.dirty=false/\k.node∈s'.tree:=λk hk=>by
   obtain ⟨hk,hst⟩:=YL.1 hk;have hd:=((h.here ha).2 k hk).1;exact ⟨hd,wM hg.hist ((Hst.at hh ((h.here ha).2 k hk).2).grow hh hg) hd (by simpa using hst)⟩
  exact { hm with
   nod:=h.nod.sublist (hsub.map _)
   len:=by have:=hsub.length_le;have:=h.len;show ((c.cache.filter _).length:Int)<=c.room;omega
   dd:=(Of.mem λk hk=>(hin k hk).2).dd hg.hist.bs.dd
   data:=λk hk=>h.data k (hsub.subset hk)
   ent:=λk hk=>h.ent k (hsub.subset hk)
   eup:=λk hk=>h.eup k (hsub.subset hk)
   nam:=λk hk=>h.nam k (hsub.subset hk)
   here:=λ_=>⟨(h.here ha).1,hin⟩
   hst:=λhF k hk hd=>(h.hst hF k (hsub.subset hk) hd).grow hh hg }
theorem Iv {s:Srv} {a:Act} (h:ActFit a):ActFit (doA s a):=by unfold doA;split;exact ⟨h.name,h.toName,h.data⟩;exact h
theorem zh {s:Srv} (h:Hist s.past s.tree) (c:Int) {a:Act} (ha:ActFit a) (he:doE s a=0):Grown s (doS s c a):=⟨Hist.snoc c _ h (Iv ha) he,_,rfl⟩
theorem tQ {s:Srv} (h:Hist s.past s.tree) (c:Int) {log:List Rec} (hl:∀r,r∈log->ActFit r.act):Grown s (iS s c log):=⟨(JInv.rC h c s.next log hl).hist,_,rfl⟩
theorem FO {B T:Nat} {u:U} (h:UInvF Fa B T u) (ha:u.c.away=false) {a:Act} (hs:ActS a):UInvF Fa (B+1) T (gw u a).u:=by
 unfold gw;split
 ·rename_i he;have hg:=zh h.srv.hist u.c.number hs.fit he;have:=h.cli.grow (Nat.le_succ B) h.srv.hist hg;unfold bE at this;rw[if_neg Zh] at this;exact ⟨h.srv.step u.c.number hs.fit he,this⟩
 ·exact h.mono (Nat.le_succ B) (YA T)
theorem jS {B T:Nat} {u:U} (h:UInvF Fa B T u) {a:Act} (hs:ActS a) (seen:Int):UInvF Fa (B+1) T (bY u a seen).u:=by
 unfold bY;split
 ·rename_i ha;exact Jg h ha hs seen
 ·rename_i ha;exact FO h (by simpa using ha) hs
theorem CX {B T:Nat} {g:Got} (h:UInvF Fa B T g.u) {data:List UInt8} (hd:data.length<=20):UInvF Fa (B+1) T (iz g data).u:=by
 unfold iz;split
 ·exact h.mono (Nat.le_succ B) (YA T)
 ·exact jS h ⟨by simp[cj],by simp[cj],hd⟩ _
theorem E0 {B T:Nat} {u:U} (h:UInvF Fa B T u) (path data:List UInt8):UInvF Fa (B+2) (T+100) (bK u path data).u:=by
 have hd:=cF h path;have hn:=bR u path;unfold bK;split
 ·exact hd.mono z8 z8
 ·split
  ·exact hd.mono z8 z8
  ·rename_i hdl;split
   ·rename_i f _;exact (CX (bZ hd f 0) z8).mono z8 z8
   ·have hm:=jS hd (a:=cU (ah u path).n.fid (ah u path).name) ⟨hn,by simp[cU],by simp[cU]⟩ (-1);split
    ·exact hm.mono z8 z8
    ·have:=(cg path).1;exact (CX (lr hm (ae path).1 0) z8).mono z8 z8
theorem D0 {B T:Nat} {u:U} (h:UInvF Fa B T u) (path:List UInt8):UInvF Fa (B+2) (T+100) (eS u path).u:=by
 have hd:=cF h path;have hn:=bR u path;unfold eS;split
 ·exact hd.mono z8 z8
 ·exact (jS hd (a:=iQ (ah u path).n.fid (ah u path).name) ⟨hn,by simp[iQ],by simp[iQ]⟩ (-1)).mono z8 z8
theorem sr {B T:Nat} {u:U} (h:UInvF Fa B T u) (path:List UInt8):UInvF Fa B (T+43) (atU u path).u/\(atU u path).name.length<=40:=by
 have hd:=cF h path;have hn:=bR u path;unfold atU;split
 ·exact ⟨hd.mono z8 z8,by simp⟩
 ·split
  ·exact ⟨hd.mono z8 z8,by simp⟩
  ·rename_i f _;exact ⟨bZ hd f 0,hn⟩
theorem BU {B T:Nat} {u:U} (h:UInvF Fa B T u) (path:List UInt8):UInvF Fa (B+2) (T+100) (bx u path).u:=by
 obtain ⟨hd,hn⟩:=sr h path;unfold bx;split
 ·exact hd.mono z8 z8
 ·exact (jS hd (a:=di (atU u path).n.fid (atU u path).d (atU u path).name) ⟨hn,by simp[di],by simp[di]⟩ _).mono z8 z8
theorem Gh {B T:Nat} {u:U} (h:UInvF Fa B T u) (path to:List UInt8):UInvF Fa (B+2) (T+100) (cW u path to).u:=by
 obtain ⟨hd,hn⟩:=sr h path;unfold cW;split
 ·exact hd.mono z8 z8
 ·have h2:=cF hd to;have hn2:=bR (atU u path).u to;split
  ·exact h2.mono z8 z8
  ·exact (jS h2 (a:=eG (atU u path).n.fid (atU u path).d (atU u path).name (ah (atU u path).u to).n.fid (ah (atU u path).u to).name) ⟨hn,hn2,by simp[eG]⟩ _).mono z8 z8
theorem pL:∀(l:List Rec) (vs:List Verdict),(∀r,r∈cG l vs->r∈l)/\(cG l vs).length<=l.length
 | [],vs=>by cases vs<;>exact ⟨λr hr=>(by cases hr),YA _⟩
 | r::l,[]=>⟨λr hr=>(by cases hr),Ys _⟩
 | r::l,v::vs=>by
  obtain ⟨h1,h2⟩:=pL l vs;unfold cG;split
  ·exact ⟨λx hx=>List.mem_cons_of_mem _ (h1 x hx),by simp;omega⟩
  ·refine ⟨λx hx=>?_,by simp;omega⟩
   rcases List.mem_cons.1 hx with rfl | hx
   ·exact List.mem_cons_self
   ·exact List.mem_cons_of_mem _ (h1 x hx)
theorem E_ {B T:Nat} {u:U} (h:UInvF Fa B T u) (hF:Fa):UInvF Fa (B+20) T (lY u):=by
 have hlf:∀r,r∈u.c.log->ActFit r.act:=λr hr=>(h.cli.logS r hr).fit
 have hg:=tQ h.srv.hist u.c.number hlf;have hl:=h.cli.log;have hs:=(h.srv.take u.c.number hlf).mono (show B+u.c.log.length<=B+20 by omega);obtain ⟨r1,r2⟩:=pL u.c.log (aD u);have hc:=(h.cli).mono (show B<=B+20 by omega) (YA T);have hsub:((u.c.cache.filter λk=>!k.dirty).filter λk=>!bO (iN u).tree k).Sublist u.c.cache:=Y4.trans Y4;have hin:∀k,k∈(u.c.cache.filter λk=>!k.dirty).filter (λk=>!bO (iN u).tree k)->k.dirty=false/\k.node∈(iN u).tree:=λk hk=>by
  obtain ⟨hk,hst⟩:=YL.1 hk;obtain ⟨hk,hd⟩:=YL.1 hk;have hd:k.dirty=false:=by simpa using hd
  exact ⟨hd,wM hg.hist ((h.cli.hst hF k hk hd).grow h.srv.hist hg) hd (show bO (iN u).tree k=false by simpa using hst)⟩
 refine ⟨hs,?_⟩;exact { hc with
  nod:=h.cli.nod.sublist (hsub.map _)
  len:=by have:=hsub.length_le;have:=h.cli.len;show ((List.filter _ (u.c.cache.filter _)).length:Int)<=u.c.room;omega
  dd:=(Of.mem λk hk=>(hin k hk).2).dd hg.hist.bs.dd
  data:=λk hk=>h.cli.data k (hsub.subset hk)
  ent:=λk hk=>h.cli.ent k (hsub.subset hk)
  eup:=λk hk=>h.cli.eup k (hsub.subset hk)
  nam:=λk hk=>h.cli.nam k (hsub.subset hk)
  here:=λ_=>⟨rfl,hin⟩
  hst:=λ_ k hk _=>Hst.at hg.hist (hin k hk).2
  log:=Ys _
  logS:=λr hr=>by cases hr
  rep:=by have:=h.cli.rep;show (u.c.repair++_).length<=_;rw[List.length_append];omega
  repS:=λr hr=>by
   rcases List.mem_append.1 hr with hr | hr
   ·exact h.cli.repS r hr
   ·exact h.cli.logS r (r1 r hr) }
theorem yh {s:List UInt8} (h:(ae s).2=0):s.length<=40:=by
 unfold ae at h;split at h
 ·cases h
 ·omega
theorem DG {B T:Nat} {u:U} (h:UInvF Fa B T u) (path:List UInt8) (w:Int):UInvF Fa B T (de u path w).u:=by
 unfold de;split
 ·exact h
 ·rename_i hs;have hs:=yh (s:=path) z8;split
  ·exact h
  ·rename_i hw;split
   ·exact h
   ·rename_i hm;have hfl:=YB (λh:Hoard=>!(h.path==path)) u.c.hoards;have h6:=h.cli.hoards;refine ⟨h.srv,?_⟩;have hc:=h.cli;exact { hc with
     hoards:=by
      show (if 0<w then ct u.c.hoards path++[⟨path,w⟩] else ct u.c.hoards path).length<=6
      split
      ·rename_i h0;have:¬(ct u.c.hoards path).length≥6:=λh1=>hm ⟨h0,h1⟩
       simp;omega
      ·exact Yn hfl h6
     hoardS:=λx hx=>by
      have hx:x∈(if 0<w then ct u.c.hoards path++[⟨path,w⟩] else ct u.c.hoards path):=hx;split at hx
      ·rcases List.mem_append.1 hx with hx | hx
       ·exact h.cli.hoardS x (YL.1 hx).1
       ·rw[List.mem_singleton.1 hx];exact ⟨hs,by show 1<=w/\w<=100;omega⟩
      ·exact h.cli.hoardS x (YL.1 hx).1 }
theorem uU {B T:Nat} {g:GotV} (h:UInvF Fa B T g.u) (x:Hoard):UInvF Fa B (T+42) (eB g x).u:=by
 have:=(cg x.path).1;exact (lr h (ae x.path).1 x.worth).mono (YA _) z8
theorem uT {B:Nat}:∀(l:List Hoard) (T:Nat) (g:GotV),UInvF Fa B T g.u->UInvF Fa B (T+42*l.length) (l.foldl eB g).u
 | [],T,g,h=>h
 | x::l,T,g,h=>by
  have:=uT l (T+42) (eB g x) (uU h x);rw[show T+42+42*l.length=T+42*(x::l).length by simp;omega] at this;exact this
theorem BO (l:List Hoard):∀w,(bu l w).length<=l.length:=λw=>by
 have key:∀w,(bu l w).length+(l.filter λh=>decide (h.worth>((w:Nat):Int))).length<=l.length:=λw=>by
  induction w with
  | zero=>rw[bu,List.length_nil,Yd];exact YB _ _
  | succ w ih=>
   rw[bu,List.length_append];have h1:∀m:List Hoard,(m.filter λh=>h.worth==((w+1:Nat):Int)).length+(m.filter λh=>decide (h.worth>((w+1:Nat):Int))).length<=(m.filter λh=>decide (h.worth>((w:Nat):Int))).length:=λm=>by
    induction m with
    | nil=>simp
    | cons x m ihm=>
     simp only[List.filter_cons]
     by_cases e1:x.worth=((w+1:Nat):Int)
     ·rw[if_pos (by simpa using e1),if_neg k6,if_pos k6];simp only[List.length_cons];omega
     ·rw[if_neg (by simpa using e1)]
      by_cases e2:x.worth>((w+1:Nat):Int)
      ·rw[if_pos Qw,if_pos k6];simp only[List.length_cons];omega
      ·rw[if_neg Qw,if_neg (by simp only[decide_eq_true_eq];omega)];exact ihm
   have:=h1 l;omega
 have:=key w;omega
theorem EW {B T:Nat} {u:U} (h:UInvF Fa B T u):UInvF Fa B (T+252) (fb u).u:=by
 have:=BO u.c.hoards 100;have h6:=h.cli.hoards;exact (uT (bu u.c.hoards 100) T ⟨0,u⟩ h).mono (YA _) z8
theorem EL {B T:Nat} {u:U} (h:UInvF Fa B T u) (x:Step) (hF:x.kind=8->Fa):UInvF Fa (B+20) (T+300) (an u x).u:=by
 have hm:=h.mono (show B<=B+20 by omega) (show T<=T+300 by omega);unfold an;split
 ·split
  ·exact hm
  ·have:=(cg x.path).1;exact (lr h (ae x.path).1 0).mono z8 z8
 ·split
  ·exact (E0 h x.path x.data).mono z8 z8
  ·split
   ·exact (D0 h x.path).mono z8 z8
   ·split
    ·exact (BU h x.path).mono z8 z8
    ·split
     ·exact (Gh h x.path x.toPath).mono z8 z8
     ·split
      ·exact ⟨hm.srv,{ hm.cli with here:=λh0=>by cases h0 }⟩
      ·split
       ·rename_i h8;exact (E_ h (hF h8)).mono z8 z8
       ·split
        ·exact (DG h x.path x.n).mono z8 z8
        ·split
         ·split
          ·exact hm
          ·exact (EW h).mono z8 z8
         ·exact hm
theorem pW {B T:Nat} {u:U} (h:yr B T u) (x:Step):yr (B+20) (T+300) (an u x).u:=EL h x λ_=>trivial
theorem IN (u:U) (k:Kept):(gx u k).s=u.s:=by unfold gx;split<;>rfl
theorem tN (u:U) (f w:Int):(bd u f w).u.s=u.s:=by
 unfold bd;split
 ·rfl
 ·split
  ·rfl
  ·split
   ·rfl
   ·exact IN _ _
theorem KJ (w:Int):∀(l:List (List UInt8)) (g:Got),(goR w l g).u.s=g.u.s
 | [],g=>by unfold goR;split<;>rfl
 | s::r,g=>by
  unfold goR;split
  ·rfl
  ·split
   ·rfl
   ·split
    ·rfl
    ·rw[KJ w r,tN]
theorem CN (u:U) (l:List (List UInt8)) (w:Int):(goU u l w).u.s=u.s:=by unfold goU;rw[KJ,tN]
theorem iE (u:U) (path:List UInt8):(ah u path).u.s=u.s:=by
 unfold ah;split
 ·rfl
 ·split
  ·rfl
  ·exact CN _ _ _
theorem yw (u:U) (path:List UInt8):(atU u path).u.s=u.s:=by
 unfold atU;split
 ·exact iE _ _
 ·split
  ·exact iE _ _
  ·show (bd _ _ _).u.s=_;rw[tN,iE]
theorem AS:∀(l:List Hoard) (g:GotV),(l.foldl eB g).u.s=g.u.s
 | [],_=>rfl
 | x::l,g=>by rw[List.foldl_cons,AS l];exact CN _ _ _
theorem IF (u:U) (f w:Int):(bd u f w).u.c.number=u.c.number/\(bd u f w).u.c.room=u.c.room/\(bd u f w).u.c.away=u.c.away/\(bd u f w).u.c.log=u.c.log/\(bd u f w).u.c.repair=u.c.repair/\(bd u f w).u.c.hoards=u.c.hoards/\(bd u f w).u.c.made=u.c.made/\(bd u f w).u.c.logged=u.c.logged:=by
 unfold bd;split
 ·exact ⟨rfl,rfl,rfl,rfl,rfl,rfl,rfl,rfl⟩
 ·split
  ·exact ⟨rfl,rfl,rfl,rfl,rfl,rfl,rfl,rfl⟩
  ·split
   ·exact ⟨rfl,rfl,rfl,rfl,rfl,rfl,rfl,rfl⟩
   ·show (gx _ _).c.number=_/\_
    unfold gx;split<;>exact ⟨rfl,rfl,rfl,rfl,rfl,rfl,rfl,rfl⟩
structure Idle (u u':U):Prop where
 s:u'.s=u.s
 number:u'.c.number=u.c.number
 room:u'.c.room=u.c.room
 away:u'.c.away=u.c.away
 log:u'.c.log=u.c.log
 rep:u'.c.repair=u.c.repair
 hoards:u'.c.hoards=u.c.hoards
 made:u'.c.made=u.c.made
 logged:u'.c.logged=u.c.logged
theorem Idle.refl (u:U):Idle u u:=⟨rfl,rfl,rfl,rfl,rfl,rfl,rfl,rfl,rfl⟩
theorem Idle.trans {a b c:U} (h:Idle a b) (k:Idle b c):Idle a c:=⟨k.s.trans h.s,k.number.trans h.number,k.room.trans h.room,k.away.trans h.away,k.log.trans h.log,k.rep.trans h.rep,k.hoards.trans h.hoards,k.made.trans h.made,k.logged.trans h.logged⟩
theorem gR (u:U) (f w:Int):Idle u (bd u f w).u:=by
 obtain ⟨h1,h2,h3,h4,h5,h6,h7,h8⟩:=IF u f w;exact ⟨tN u f w,h1,h2,h3,h4,h5,h6,h7,h8⟩
theorem zf (w:Int):∀(l:List (List UInt8)) (g:Got),Idle g.u (goR w l g).u
 | [],g=>by unfold goR;split<;>exact Idle.refl _
 | s::r,g=>by
  unfold goR;split
  ·exact Idle.refl _
  ·split
   ·exact Idle.refl _
   ·split
    ·exact Idle.refl _
    ·exact (gR _ _ _).trans (zf w r _)
theorem eP (u:U) (l:List (List UInt8)) (w:Int):Idle u (goU u l w).u:=(gR u 0 w).trans (zf w l _)
theorem cz (u:U) (path:List UInt8):Idle u (ah u path).u:=by
 unfold ah;split
 ·exact Idle.refl _
 ·split
  ·exact Idle.refl _
  ·exact eP _ _ _
theorem ig (u:U) (path:List UInt8):Idle u (atU u path).u:=by
 unfold atU;split
 ·exact cz _ _
 ·split
  ·exact cz _ _
  ·exact (cz _ _).trans (gR _ _ _)
theorem ki:∀(l:List Hoard) (g:GotV),Idle g.u (l.foldl eB g).u
 | [],_=>Idle.refl _
 | x::l,g=>(eP g.u (ae x.path).1 x.worth).trans (ki l (eB g x))
theorem KP (u:U) (a:Act) (seen:Int):(kR u a seen).u.s=u.s:=by
 unfold kR;split
 ·rfl
 ·split
  ·rfl
  ·split<;>rfl
theorem kB {B T:Nat} {u:U} (h:yr B T u) {a:Act} (hs:ActS a) (seen:Int):Grown u.s (bY u a seen).u.s:=by
 unfold bY;split
 ·rw[KP];exact Grown.refl h.srv.hist
 ·unfold gw;split
  ·rename_i he;exact zh h.srv.hist u.c.number hs.fit he
  ·exact Grown.refl h.srv.hist
theorem grown_of {u u' v:U} (hi:u'.s=u.s) (h:Grown u'.s v.s):Grown u.s v.s:=by rw[hi] at h;exact h
theorem wv {B T:Nat} {g:Got} (h:yr B T g.u) {data:List UInt8} (hd:data.length<=20):Grown g.u.s (iz g data).u.s:=by
 unfold iz;split
 ·exact Grown.refl h.srv.hist
 ·exact kB h ⟨by simp[cj],by simp[cj],hd⟩ _
theorem eZ {B T:Nat} {u v:U} (h:yr B T u) (hs:v.s=u.s):Grown u.s v.s:=by rw[hs];exact Grown.refl h.srv.hist
theorem A5 {B T:Nat} {u:U} (h:yr B T u) (path data:List UInt8):Grown u.s (bK u path data).u.s:=by
 have hd:=cF h path;have hn:=bR u path;unfold bK;split
 ·exact eZ h (iE u path)
 ·split
  ·exact eZ h (iE u path)
  ·split
   ·rename_i f _;exact grown_of (u':=(bd (ah u path).u f 0).u) (by rw[tN,iE]) (wv (bZ hd f 0) z8)
   ·have ha:ActS (cU (ah u path).n.fid (ah u path).name):=⟨hn,by simp[cU],by simp[cU]⟩;have hg:=kB hd ha (-1);have hm:=jS hd ha (-1);split
    ·exact grown_of (iE u path) hg
    ·exact grown_of (iE u path) (hg.trans (grown_of (u':=(goU _ _ _).u) (CN _ _ _) (wv (lr hm (ae path).1 0) z8)))
theorem oR {B T:Nat} {u:U} (h:yr B T u) (x:Step):Grown u.s (an u x).u.s:=by
 unfold an;split
 ·split
  ·exact Grown.refl h.srv.hist
  ·exact eZ h (CN _ _ _)
 ·split
  ·exact A5 h _ _
  ·split
   ·unfold eS;split
    ·exact eZ h (iE _ _)
    ·exact grown_of (iE u x.path) (kB (cF h x.path) ⟨bR u x.path,by simp[iQ],by simp[iQ]⟩ (-1))
   ·split
    ·unfold bx;obtain ⟨hd,hn⟩:=sr h x.path;split
     ·exact eZ h (yw _ _)
     ·exact grown_of (yw u x.path) (kB hd ⟨hn,by simp[di],by simp[di]⟩ _)
    ·split
     ·unfold cW;obtain ⟨hd,hn⟩:=sr h x.path;split
      ·exact eZ h (yw _ _)
      ·split
       ·exact eZ h (by rw[iE,yw])
       ·exact grown_of (u':=(ah (atU u x.path).u x.toPath).u) (by rw[iE,yw]) (kB (cF hd x.toPath) ⟨hn,bR _ _,by simp[eG]⟩ _)
     ·split
      ·exact Grown.refl h.srv.hist
      ·split
       ·exact tQ h.srv.hist u.c.number λr hr=>(h.cli.logS r hr).fit
       ·split
        ·unfold de;split
         ·exact Grown.refl h.srv.hist
         ·split
          ·exact Grown.refl h.srv.hist
          ·split<;>exact Grown.refl h.srv.hist
        ·split
         ·split
          ·exact Grown.refl h.srv.hist
          ·exact eZ h (AS _ _)
         ·exact Grown.refl h.srv.hist
structure WInv (B T:Nat) (w:Wor):Prop where
 srv:SrvOK B w.s
 cli:∀c,c∈w.cs->Mp B T w.s c
 len:w.cs.length<=3
theorem WInv.at {B T:Nat} {w:Wor} (h:WInv B T w) {i:Nat} (hi:i<w.cs.length):yr B T ⟨w.cs.getD i default,w.s⟩:=⟨h.srv,h.cli _ (YG hi)⟩
theorem k_ {B T:Nat} {w:Wor} (h:WInv B T w) (x:Step):WInv (B+20) (T+300) (ay w x).w:=by
 unfold ay;split
 ·exact ⟨h.srv.mono z8,λc hc=>(h.cli c hc).mono z8 z8,h.len⟩
 ·rename_i hx;have hi:x.client.toNat<w.cs.length:=by omega
  have hu:=h.at hi;have h1:=pW hu x;have h2:=oR hu x;refine ⟨h1.srv,λc hc=>?_,by simp;exact h.len⟩;obtain ⟨d,hd,rfl⟩:=W8.1 hc
  rcases Yl hd with hd | rfl
  ·exact ((h.cli d hd).mono (YA B) (show T<=T+300 by omega)).grow z8 h.srv.hist h2
  ·exact h1.cli.grow (YA _) h1.srv.hist (Grown.refl h1.srv.hist)
theorem sJ {rooms:List Int} (h:bw rooms=0):WInv 0 0 (kp rooms):=by
 unfold bw at h;split at h
 ·cases h
 ·split at h
  ·rename_i hr hall;refine ⟨SrvOK.new,λc hc=>?_,by simp[kp,iy];omega⟩;obtain ⟨j,hj,rfl⟩:=W8.1 hc;have hj:j<rooms.length:=Ya.1 hj;have:=List.all_eq_true.1 hall (rooms.getD j 0) (by rw[List.getD_eq_getElem?_getD,W3 hj];exact YY hj);simp only[Bool.and_eq_true,decide_eq_true_eq] at this;exact CInvF.new 0 0 _ j _ this
  ·cases h
theorem tf:∀(l:List Step) {B T:Nat} {w:Wor},WInv B T w->WInv (B+20*l.length) (T+300*l.length) (l.foldl (λw x=>(ay w x).w) w)
 | [],_,_,_,h=>h
 | x::l,B,T,w,h=>by
  have:=tf l (k_ h x);rw[show B+20+20*l.length=B+20*(x::l).length by simp;omega,show T+300+300*l.length=T+300*(x::l).length by simp;omega] at this;exact this
theorem vz {rooms:List Int} (h:bw rooms=0) (l:List Step):WInv (20*l.length) (300*l.length) (mm rooms l):=by
 have:=tf l (sJ h)
 rwa [Yd,Yd] at this
structure IdI (c:Cli):Prop where
 rise:(c.log.map (·.id)).Pairwise (·<·)
 bnd:∀r,r∈c.log->1<=r.id/\r.id<=c.logged
 pos:0<=c.logged
theorem IdI.same {c d:Cli} (h:IdI c) (h1:d.log=c.log) (h2:d.logged=c.logged):IdI d:=⟨by rw[h1];exact h.rise,by rw[h1,h2];exact h.bnd,by rw[h2];exact h.pos⟩
theorem IdI.idle {u v:U} (h:IdI u.c) (k:Idle u v):IdI v.c:=h.same k.log k.logged
theorem la {l m:List Rec} {r:Rec} (h:dm l r=some m):m.Sublist l\/∃k,k.Sublist l/\m=k++[r]:=by
 unfold dm at h;split at h
 ·injection h with h;subst h
  exact .inl Y4
 ·split at h
  ·cases h
  ·injection h with h
   exact .inr ⟨cI l r,jb l r,h.symm⟩
theorem IdI.own {u:U} (h:IdI u.c) (a:Act) (seen:Int):IdI (kR u a seen).u.c:=by
 unfold kR;split
 ·exact h
 ·split
  ·exact h
  ·rename_i log hlog;split
   ·exact h
   ·unfold BQ at hlog;refine ⟨?_,λr hr=>?_,?_⟩
    ·show (log.map (·.id)).Pairwise (·<·)
     rcases la hlog with h1 | ⟨k,h1,rfl⟩
     ·exact h.rise.sublist (h1.map _)
     ·rw[List.map_append,List.pairwise_append];refine ⟨h.rise.sublist (h1.map _),by simp,λx hx y hy=>?_⟩;obtain ⟨r,hr,rfl⟩:=W8.1 hx;simp only[List.map_cons,List.map_nil,List.mem_singleton] at hy;subst hy;have:=(h.bnd r (h1.subset hr)).2;omega
    ·have hr:r∈log:=hr
     show 1<=r.id/\r.id<=u.c.logged+1
     have hp:=h.pos
     rcases la hlog with h1 | ⟨k,h1,rfl⟩
     ·have:=h.bnd r (h1.subset hr);omega
     ·rcases List.mem_append.1 hr with hr | hr
      ·have:=h.bnd r (h1.subset hr);omega
      ·rw[List.mem_singleton.1 hr]
       show 1<=u.c.logged+1/\u.c.logged+1<=u.c.logged+1
       omega
    ·show 0<=u.c.logged+1
     have:=h.pos;omega
theorem IdI.here {u:U} (h:IdI u.c) (a:Act):IdI (gw u a).u.c:=by
 unfold gw;split
 ·exact h.same rfl rfl
 ·exact h
theorem IdI.act {u:U} (h:IdI u.c) (a:Act) (seen:Int):IdI (bY u a seen).u.c:=by
 unfold bY;split
 ·exact h.own a seen
 ·exact h.here a
theorem IdI.put {g:Got} (h:IdI g.u.c) (data:List UInt8):IdI (iz g data).u.c:=by
 unfold iz;split
 ·exact h
 ·exact h.act _ _
theorem IdI.write {u:U} (h:IdI u.c) (path data:List UInt8):IdI (bK u path data).u.c:=by
 have hd:=h.idle (cz u path);unfold bK;split
 ·exact hd
 ·split
  ·exact hd
  ·split
   ·exact IdI.put (hd.idle (gR _ _ _)) data
   ·have hk:=hd.act (cU (ah u path).n.fid (ah u path).name) (-1);split
    ·exact hk
    ·exact IdI.put (hk.idle (eP _ _ _)) data
theorem IdI.step {u:U} (h:IdI u.c) (x:Step):IdI (an u x).u.c:=by
 unfold an;split
 ·split
  ·exact h
  ·exact h.idle (eP _ _ _)
 ·split
  ·exact h.write _ _
  ·split
   ·have hd:=h.idle (cz u x.path);unfold eS;split
    ·exact hd
    ·exact hd.act _ _
   ·split
    ·have hd:=h.idle (ig u x.path);unfold bx;split
     ·exact hd
     ·exact hd.act _ _
    ·split
     ·have hd:=h.idle (ig u x.path);have he:=hd.idle (cz (atU u x.path).u x.toPath);unfold cW;split
      ·exact hd
      ·split
       ·exact he
       ·exact he.act _ _
     ·split
      ·exact h.same rfl rfl
      ·split
       ·exact ⟨List.Pairwise.nil,λr hr=>(by cases hr),h.pos⟩
       ·split
        ·unfold de;split
         ·exact h
         ·split
          ·exact h
          ·split
           ·exact h
           ·exact h.same rfl rfl
        ·split
         ·split
          ·exact h
          ·exact h.idle (ki _ ⟨0,u⟩)
         ·exact h
theorem IdI.new (i room:Int):IdI (pC i room):=⟨List.Pairwise.nil,λr hr=>(by cases hr),Int.le_refl 0⟩
theorem IdI.fresh {c:Cli} (h:IdI c) (t:List Node):IdI (bE t c):=by
 unfold bE;split
 ·exact h
 ·exact h.same rfl rfl
structure WId (w:Wor):Prop where
 ids:∀c,c∈w.cs->IdI c
theorem WId.step {w:Wor} (h:WId w) (x:Step):WId (ay w x).w:=by
 constructor;unfold ay;split
 ·exact h.ids
 ·rename_i hx;intro c hc;obtain ⟨d,hd,rfl⟩:=W8.1 hc;refine IdI.fresh ?_ _
  rcases Yl hd with hd | rfl
  ·exact h.ids d hd
  ·exact (h.ids _ (YG (show x.client.toNat<w.cs.length by omega))).step x
structure LS (c d:Cli):Prop where
 le:c.logged<=d.logged
 from_:∀r,r∈d.log->(∃q,q∈c.log/\q.id=r.id)\/(c.logged<r.id/\r.id<=d.logged)
 num:d.number=c.number
theorem LS.refl (c:Cli):LS c c:=⟨Int.le_refl _,λr hr=>.inl ⟨r,hr,rfl⟩,rfl⟩
theorem LS.trans {c d e:Cli} (h:LS c d) (k:LS d e):LS c e:=⟨Int.le_trans h.le k.le,λr hr=>by
 have h1:=h.le;have h2:=k.le
 rcases k.from_ r hr with ⟨q,hq,hi⟩ | ⟨h3,h4⟩
 ·rcases h.from_ q hq with ⟨p,hp,hi2⟩ | ⟨h5,h6⟩
  ·exact .inl ⟨p,hp,hi2.trans hi⟩
  ·exact .inr ⟨by omega,by omega⟩
 ·exact .inr ⟨by omega,h4⟩,k.num.trans h.num⟩
theorem LS.same {c d:Cli} (h1:d.log=c.log) (h2:d.logged=c.logged) (h3:d.number=c.number):LS c d:=⟨by rw[h2];exact Int.le_refl _,λr hr=>.inl ⟨r,by rw[<-h1];exact hr,rfl⟩,h3⟩
theorem Idle.ls {u v:U} (k:Idle u v):LS u.c v.c:=LS.same k.log k.logged k.number
theorem Lt (u:U) (a:Act) (seen:Int):LS u.c (kR u a seen).u.c:=by
 unfold kR;split
 ·exact LS.refl _
 ·split
  ·exact LS.refl _
  ·rename_i log hlog;split
   ·exact LS.refl _
   ·unfold BQ at hlog;refine ⟨?_,λr hr=>?_,rfl⟩
    ·show u.c.logged<=u.c.logged+1
     omega
    ·have hr:r∈log:=hr
     show _\/(u.c.logged<r.id/\r.id<=u.c.logged+1)
     rcases la hlog with h1 | ⟨k,h1,rfl⟩
     ·exact .inl ⟨r,h1.subset hr,rfl⟩
     ·rcases List.mem_append.1 hr with hr | hr
      ·exact .inl ⟨r,h1.subset hr,rfl⟩
      ·rw[List.mem_singleton.1 hr];exact .inr ⟨by show u.c.logged<u.c.logged+1;omega,by show u.c.logged+1<=u.c.logged+1;omega⟩
theorem sZ (u:U) (a:Act) (seen:Int):LS u.c (bY u a seen).u.c:=by
 unfold bY;split
 ·exact Lt u a seen
 ·unfold gw;split
  ·exact LS.same rfl rfl rfl
  ·exact LS.refl _
theorem Gx (g:Got) (data:List UInt8):LS g.u.c (iz g data).u.c:=by
 unfold iz;split
 ·exact LS.refl _
 ·exact sZ _ _ _
theorem He (u:U) (path data:List UInt8):LS u.c (bK u path data).u.c:=by
 have hd:=(cz u path).ls;unfold bK;split
 ·exact hd
 ·split
  ·exact hd
  ·split
   ·exact hd.trans ((gR _ _ _).ls.trans (Gx _ data))
   ·have hk:=hd.trans (sZ (ah u path).u (cU (ah u path).n.fid (ah u path).name) (-1));split
    ·exact hk
    ·exact hk.trans ((eP _ _ _).ls.trans (Gx _ data))
theorem C8 (u:U) (x:Step):LS u.c (an u x).u.c:=by
 unfold an;split
 ·split
  ·exact LS.refl _
  ·exact (eP _ _ _).ls
 ·split
  ·exact He _ _ _
  ·split
   ·have hd:=(cz u x.path).ls;unfold eS;split
    ·exact hd
    ·exact hd.trans (sZ _ _ _)
   ·split
    ·have hd:=(ig u x.path).ls;unfold bx;split
     ·exact hd
     ·exact hd.trans (sZ _ _ _)
    ·split
     ·have hd:=(ig u x.path).ls;have he:=hd.trans (cz (atU u x.path).u x.toPath).ls;unfold cW;split
      ·exact hd
      ·split
       ·exact he
       ·exact he.trans (sZ _ _ _)
     ·split
      ·exact LS.same rfl rfl rfl
      ·split
       ·exact ⟨Int.le_refl _,λr hr=>(by cases hr),rfl⟩
       ·split
        ·unfold de;split
         ·exact LS.refl _
         ·split
          ·exact LS.refl _
          ·split
           ·exact LS.refl _
           ·exact LS.same rfl rfl rfl
        ·split
         ·split
          ·exact LS.refl _
          ·exact (ki _ ⟨0,u⟩).ls
         ·exact LS.refl _
theorem zb (t:List Node) (c:Cli):LS c (bE t c):=by
 unfold bE;split
 ·exact LS.refl _
 ·exact LS.same rfl rfl rfl
def Ml (t:List Node) (f:Int):Node×Int:=match ak t f with
 | some n=>(n,0)
 | none=>(aw,6)
def tR (t:List Node):List (List UInt8)->Node×Int->Node×Int
 | [],q=>if q.2=0 then q else (aw,q.2)
 | s::r,q=>if q.2≠0 then (aw,q.2) else if q.1.dir=false then (aw,8) else match ba q.1 s with
  | none=>(aw,6)
  | some f=>tR t r (Ml t f)
structure AwG (g g':Got):Prop where
 n:g'.n=g.n
 e:g'.e=g.e
 c:g'.u.c=g.u.c
 away:g.u.c.away=true
structure AwD (g g':GotD):Prop where
 n:g'.n=g.n
 name:g'.name=g.name
 e:g'.e=g.e
 c:g'.u.c=g.u.c
 away:g.u.c.away=true
structure AwE (g g':GotE):Prop where
 e:g'.e=g.e
 c:g'.u.c=g.u.c
 away:g.u.c.away=true
theorem Jf {u u':U} (hc:u'.c=u.c) (ha:u.c.away=true) (a:Act) (seen:Int):AwE (kR u a seen) (kR u' a seen):=by
 unfold kR;rw[hc];split
 ·exact ⟨rfl,hc,ha⟩
 ·split
  ·exact ⟨rfl,hc,ha⟩
  ·split
   ·exact ⟨rfl,hc,ha⟩
   ·exact ⟨rfl,rfl,ha⟩
theorem H7 {u u':U} (hc:u'.c=u.c) (ha:u.c.away=true) (a:Act) (seen:Int):AwE (bY u a seen) (bY u' a seen):=by
 unfold bY;rw[hc,if_pos ha,if_pos ha];exact Jf hc ha a seen
structure AwP (g g':GotP):Prop where
 d:g'.d=g.d
 name:g'.name=g.name
 n:g'.n=g.n
 e:g'.e=g.e
 c:g'.u.c=g.u.c
 away:g.u.c.away=true
structure AwS (g g':GotS):Prop where
 r:g'.r=g.r
 c:g'.u.c=g.u.c
 away:g.u.c.away=true
theorem mY (u:U) (ha:u.c.away=true) (a:Act) (seen:Int):(bY u a seen).u.s=u.s:=by
 unfold bY;rw[if_pos ha];exact KP u a seen
theorem Al {g:Got} (ha:g.u.c.away=true) (data:List UInt8):(iz g data).u.s=g.u.s:=by
 unfold iz;split
 ·rfl
 ·exact mY _ ha _ _
theorem Cz (u:U) (ha:u.c.away=true) (path data:List UInt8):(bK u path data).u.s=u.s:=by
 have hd:=cz u path;have hda:(ah u path).u.c.away=true:=by rw[hd.away];exact ha
 unfold bK;split
 ·exact hd.s
 ·split
  ·exact hd.s
  ·split
   ·have h:=gR (ah u path).u;rw[Al (by rw[(h _ _).away];exact hda),(h _ _).s,hd.s]
   ·have k:=mY _ hda (cU (ah u path).n.fid (ah u path).name) (-1);have ka:=(H7 rfl hda (cU (ah u path).n.fid (ah u path).name) (-1)).away;split
    ·rw[k,hd.s]
    ·have h:=eP (bY (ah u path).u (cU (ah u path).n.fid (ah u path).name) (-1)).u (ae path).1 0;rw[Al (by rw[h.away];exact ka),h.s,k,hd.s]
theorem Mb (u:U) (ha:u.c.away=true) (x:Step) (hk:x.kind≠8):(an u x).u.s=u.s:=by
 unfold an;split
 ·split
  ·rfl
  ·exact (eP _ _ _).s
 ·split
  ·exact Cz u ha _ _
  ·split
   ·have hd:=cz u x.path;unfold eS;split
    ·exact hd.s
    ·exact (mY _ (by rw[hd.away];exact ha) _ _).trans hd.s
   ·split
    ·have hd:=ig u x.path;unfold bx;split
     ·exact hd.s
     ·exact (mY _ (by rw[hd.away];exact ha) _ _).trans hd.s
    ·split
     ·have hd:=ig u x.path;have he:=cz (atU u x.path).u x.toPath;unfold cW;split
      ·exact hd.s
      ·split
       ·exact he.s.trans hd.s
       ·exact (mY _ (by rw[he.away,hd.away];exact ha) _ _).trans (he.s.trans hd.s)
     ·split
      ·rfl
      ·split
       ·unfold de;split
        ·rfl
        ·split
         ·rfl
         ·split<;>rfl
       ·split
        ·rfl
        ·rfl
structure Fate where
 step:Int
 client:Int
 kind:Int
 whr:Int
deriving DecidableEq,Inhabited
structure Bk where
 fates:List Fate
 logs:List (List Nat)
def nS (fs:List Fate) (k:Nat) (w:Int):List Fate:=fs.set k { fs.getD k default with whr:=w }
def kn (step:Int) (ps:List Past) (b:Bk):Bk:={ b with fates:=b.fates++ps.map λp=>⟨step,p.client,p.act.kind,1⟩ }
def fP:List Nat->List Verdict->List Fate->List Fate
 | k::l,v::vs,fs=>fP l vs (nS fs k (if v.err=0 then 1 else 3))
 | _,_,fs=>fs
def nV (c:Nat) (vs:List Verdict) (b:Bk):Bk:=⟨fP (b.logs.getD c []) vs b.fates,b.logs.set c []⟩
def eL (now:List Rec):List Nat->List Rec->List Fate->List Fate
 | k::l,r::rs,fs=>eL now l rs (if (now.any λx=>x.id==r.id)=true then fs else nS fs k 4)
 | _,_,fs=>fs
def mg (step c:Int) (n:Nat):List Fate:=List.replicate n ⟨step,c,4,4⟩
def eJ (was:Cli) (ks:List Nat) (n:Nat) (id:Int):Nat:=match was.log.findIdx? λr=>r.id==id with
 | some i=>if was.logged<id then n+(id-was.logged-1).toNat else ks.getD i 0
 | none=>n+(id-was.logged-1).toNat
def mX (was:Cli) (ks:List Nat) (n:Nat):List Rec->List Fate->List Fate
 | r::rs,fs=>mX was ks n rs (fs.set (eJ was ks n r.id) { fs.getD (eJ was ks n r.id) default with kind:=r.act.kind,whr:=2 })
 | [],fs=>fs
def cL (step:Int) (c:Nat) (was now:Cli) (b:Bk):Bk:=
 ⟨mX was (b.logs.getD c []) b.fates.length now.log (eL now.log (b.logs.getD c []) was.log b.fates++mg step c (now.logged-was.logged).toNat),
  b.logs.set c (now.log.map λr=>eJ was (b.logs.getD c []) b.fates.length r.id)⟩
noncomputable def dR (w:Wor) (i:Nat) (x:Step) (b:Bk):Bk:=
 if x.client<0\/x.client≥w.cs.length then b
 else if x.kind=8 then nV x.client.toNat (aD ⟨w.cs.getD x.client.toNat default,w.s⟩) b
 else if (w.cs.getD x.client.toNat default).away=true then cL i x.client.toNat (w.cs.getD x.client.toNat default) ((ay w x).w.cs.getD x.client.toNat default) b
 else kn i ((ay w x).w.s.past.drop w.s.past.length) b
structure GotK where
 w:Wor
 b:Bk
 i:Nat
noncomputable def ga (rooms:List Int) (l:List Step):GotK:=l.foldl (λg x=>⟨(ay g.w x).w,dR g.w g.i x g.b,g.i+1⟩) ⟨kp rooms,⟨[],List.replicate rooms.length []⟩,0⟩
theorem Am (g:Got) (ha:g.u.c.away=false) (data:List UInt8):(iz g data).u.c.away=false:=by
 unfold iz;split
 ·exact ha
 ·rw[show bY g.u _ _=gw g.u _ from by unfold bY;rw[if_neg Zh]];unfold gw;split<;>exact ha
theorem oV (u:U) (ha:u.c.away=false) (a:Act) (seen:Int):(bY u a seen).u.c.away=false:=by
 unfold bY;rw[if_neg Zh];unfold gw;split<;>exact ha
theorem wQ (u:U) (ha:u.c.away=false) (x:Step) (hk:x.kind≠7):(an u x).u.c.away=false:=by
 unfold an;split
 ·split
  ·exact ha
  ·exact (eP _ _ _).away.trans ha
 ·split
  ·have hd:=(cz u x.path).away.trans ha;unfold bK;split
   ·exact hd
   ·split
    ·exact hd
    ·split
     ·exact Am _ ((gR _ _ _).away.trans hd) _
     ·have hk:=oV _ hd (cU (ah u x.path).n.fid (ah u x.path).name) (-1);split
      ·exact hk
      ·exact Am _ ((eP _ _ _).away.trans hk) _
  ·split
   ·have hd:=(cz u x.path).away.trans ha;unfold eS;split
    ·exact hd
    ·exact oV _ hd _ _
   ·split
    ·have hd:=(ig u x.path).away.trans ha;unfold bx;split
     ·exact hd
     ·exact oV _ hd _ _
    ·split
     ·have hd:=(ig u x.path).away.trans ha;have he:=(cz (atU u x.path).u x.toPath).away.trans hd;unfold cW;split
      ·exact hd
      ·split
       ·exact he
       ·exact oV _ he _ _
     ·split
      ·rfl
      ·split
       ·unfold de;split
        ·exact ha
        ·split
         ·exact ha
         ·split
          ·exact ha
          ·exact ha
       ·split
        ·rw[if_neg Zh];exact (ki _ ⟨0,u⟩).away.trans ha
        ·exact ha
structure HereB (w:Wor) (b:Bk):Prop where
 away:∀c,c∈w.cs->c.away=false
 fates:b.fates.map (λf=>(f.client,f.kind,f.whr))=w.s.past.map λp=>(p.client,p.act.kind,1)
theorem EN (s:Srv) (c:Int):iS s c []=s:=by
 unfold iS bM gn;simp
theorem HereB.step {B T:Nat} {w:Wor} {b:Bk} (hw:WInv B T w) (h:HereB w b) (i:Nat) (x:Step) (hk:x.kind≠7):HereB (ay w x).w (dR w i x b):=by
 by_cases hx:x.client<0\/x.client≥w.cs.length
 ·have h1:ay w x=⟨w,cA 6⟩:=by unfold ay;rw[if_pos hx]
  have h2:dR w i x b=b:=by unfold dR;rw[if_pos hx]
  rw[h1,h2];exact h
 ·have hi:x.client.toNat<w.cs.length:=by omega
  have hu:=hw.at hi;have hca:(w.cs.getD x.client.toNat default).away=false:=h.away _ (YG hi);have hst:=wQ ⟨w.cs.getD x.client.toNat default,w.s⟩ hca x hk;have hgr:=oR hu x;have hW:ay w x=⟨⟨(an ⟨w.cs.getD x.client.toNat default,w.s⟩ x).u.s,(w.cs.set x.client.toNat (an ⟨w.cs.getD x.client.toNat default,w.s⟩ x).u.c).map (bE (an ⟨w.cs.getD x.client.toNat default,w.s⟩ x).u.s.tree)⟩,(an ⟨w.cs.getD x.client.toNat default,w.s⟩ x).r⟩:=by
   unfold ay;rw[if_neg hx]
  have haw:∀c,c∈(ay w x).w.cs->c.away=false:=λc hc=>by
   rw[hW] at hc;obtain ⟨d,hd,rfl⟩:=W8.1 hc;have hd2:d.away=false:=by
    rcases Yl hd with hd | rfl
    ·exact h.away d hd
    ·exact hst
   unfold bE;rw[if_neg (by simp[hd2])];exact hd2
  refine ⟨haw,?_⟩;unfold dR;rw[if_neg hx]
  by_cases h8:x.kind=8
  ·rw[if_pos h8];have hlog:=(hu.cli.here hca).1;simp only at hlog;have hvs:aD ⟨w.cs.getD x.client.toNat default,w.s⟩=[]:=by
    unfold aD bM gn;simp only[hlog,List.foldl_nil]
   have hs:(ay w x).w.s=w.s:=by
    rw[hW]
    show (an ⟨w.cs.getD x.client.toNat default,w.s⟩ x).u.s=w.s
    unfold an;simp only[h8]
    show iS w.s _ (w.cs.getD x.client.toNat default).log=w.s
    rw[hlog];exact EN _ _
   rw[hvs,hs];have:(nV x.client.toNat [] b).fates=b.fates:=by
    unfold nV;cases b.logs.getD x.client.toNat []<;>rfl
   rw[this];exact h.fates
  ·rw[if_neg h8,if_neg (by rw[hca];simp)];obtain ⟨q,hq⟩:=hgr.past;have hp:(ay w x).w.s.past=w.s.past++q:=by rw[hW];exact hq
   unfold kn;simp only;rw[hp,List.drop_left,List.map_append,List.map_append,h.fates,Yi];rfl
theorem Gl {rooms:List Int} (hr:bw rooms=0):∀(l:List Step),(∀x,x∈l->x.kind≠7)->HereB (ga rooms l).w (ga rooms l).b/\(ga rooms l).w=mm rooms l/\(ga rooms l).i=l.length:=by
 have key:∀(l:List Step) (B T:Nat) (g:GotK),WInv B T g.w->HereB g.w g.b->(∀x,x∈l->x.kind≠7) ->
   HereB (l.foldl (λg x=>(⟨(ay g.w x).w,dR g.w g.i x g.b,g.i+1⟩:GotK)) g).w (l.foldl (λg x=>(⟨(ay g.w x).w,dR g.w g.i x g.b,g.i+1⟩:GotK)) g).b /\
   (l.foldl (λg x=>(⟨(ay g.w x).w,dR g.w g.i x g.b,g.i+1⟩:GotK)) g).w=l.foldl (λw x=>(ay w x).w) g.w /\
   (l.foldl (λg x=>(⟨(ay g.w x).w,dR g.w g.i x g.b,g.i+1⟩:GotK)) g).i=g.i+l.length:=λl=>by
  induction l with
  | nil=>exact λB T g hw hb _=>⟨hb,rfl,rfl⟩
  | cons x l ih=>
   intro B T g hw hb hk;have:=ih (B+20) (T+300) ⟨(ay g.w x).w,dR g.w g.i x g.b,g.i+1⟩ (k_ hw x) (hb.step hw g.i x (hk x List.mem_cons_self)) λy hy=>hk y (List.mem_cons_of_mem _ hy)
   refine ⟨this.1,this.2.1,?_⟩;rw[List.foldl_cons,this.2.2,List.length_cons]
   show g.i+1+l.length=g.i+(l.length+1)
   omega
 intro l hk;have h0:HereB (kp rooms) ⟨[],List.replicate rooms.length []⟩:=⟨λc hc=>by
  unfold kp iy at hc;obtain ⟨j,_,rfl⟩:=W8.1 hc;rfl,rfl⟩
 have:=key l 0 0 ⟨kp rooms,⟨[],List.replicate rooms.length []⟩,0⟩ (sJ hr) h0 hk;refine ⟨this.1,this.2.1,?_⟩;have h3:=this.2.2;unfold ga;rw[h3];exact Yd _
def BN (l:List Rec) (i:Nat):List (Int×Bool):=(l.take i).foldl (λm r=>aV m r.id true) []
theorem D5 {l:List Rec} {i:Nat} (h:i<l.length):BN l (i+1)=aV (BN l i) (l.getD i default).id true:=by
 unfold BN;rw[ZT h,List.foldl_append];rfl
theorem Dx (m:List (Int×Bool)) (f:Int) (v:Bool) (k:Int):cB (aV m f v) k=if k=f then v else cB m k:=by
 unfold cB;rw[oG]
 by_cases e:k=f
 ·rw[if_pos e,if_pos e];rfl
 ·rw[if_neg e,if_neg e]
theorem vP (m:List (Int×Int)) (f v k:Int):gr (aV m f v) k=if k=f then v else gr m k:=by
 unfold gr;rw[oG]
 by_cases e:k=f
 ·rw[if_pos e,if_pos e];rfl
 ·rw[if_neg e,if_neg e]
theorem Gn (l:List Rec) (k:Int):cB (BN l l.length) k=l.any λx=>x.id==k:=by
 unfold BN;rw[W7];have key:∀(l:List Rec) (m:List (Int×Bool)),cB (l.foldl (λm r=>aV m r.id true) m) k=(cB m k||l.any λx=>x.id==k):=λl=>by
  induction l with
  | nil=>intro m;simp
  | cons r l ih=>
   intro m;rw[List.foldl_cons,ih,Dx,List.any_cons]
   by_cases e:k=r.id
   ·rw[if_pos e];simp[e]
   ·rw[if_neg e,beq_eq_false_iff_ne.2 (λh=>e h.symm),Yz]
 rw[key l []];rfl
def zi (l:List Rec) (ks:List Nat):Nat->List (Int×Int)
 | 0=>[]
 | i+1=>aV (zi l ks i) (l.getD i default).id (ks.getD i 0:Nat)
theorem CP {l:List Rec} {ks:List Nat} (hr:(l.map (·.id)).Pairwise (·<·)):∀{i j:Nat},i<=l.length->j<i->gr (zi l ks i) (l.getD j default).id=(ks.getD j 0:Nat)
 | 0,j,_,h=>by omega
 | i+1,j,hi,hj=>by
  unfold zi;rw[vP]
  by_cases e:j=i
  ·subst e;rw[if_pos rfl]
  ·have hlt:(l.getD j default).id<(l.getD i default).id:=by
    have:=Yr.1 hr j i (by rw[List.length_map];omega) (by rw[List.length_map];omega) z8;rw[List.getD_eq_getElem?_getD,List.getD_eq_getElem?_getD,W3 z8,W3 z8];simpa using this
   rw[if_neg z8];exact CP hr z8 z8
def z_ (m:List (Int×Int)) (n:Nat) (a:Int):Nat->List (Int×Int)
 | 0=>m
 | i+1=>aV (z_ m n a i) (a+1+i) ((n+i:Nat):Int)
theorem CV (m:List (Int×Int)) (n:Nat) (a:Int) (k:Int):∀i:Nat,gr (z_ m n a i) k=if a<k/\k<=a+i then ((n+(k-a-1).toNat:Nat):Int) else gr m k
 | 0=>by rw[if_neg z8];rfl
 | i+1=>by
  unfold z_;rw[vP,CV m n a k i]
  by_cases e:k=a+1+i
  ·rw[if_pos e,if_pos z8]
   congr 2
   omega
  ·rw[if_neg e]
   by_cases h:a<k/\k<=a+i
   ·rw[if_pos h,if_pos z8]
   ·rw[if_neg h,if_neg z8]
theorem Gj {was now:Cli} (hw:IdI was) (hs:LS was now) (ks:List Nat) (n:Nat) {r:Rec} (hr:r∈now.log):gr (z_ (zi was.log ks was.log.length) n was.logged (now.logged-was.logged).toNat) r.id=(eJ was ks n r.id:Nat):=by
 have hle:=hs.le;rw[CV];unfold eJ
 rcases hs.from_ r hr with ⟨q,hq,hqi⟩ | ⟨h1,h2⟩
 ·have hb:=hw.bnd q hq;rw[hqi] at hb;rw[if_neg z8];cases e:was.log.findIdx? (λx=>x.id==r.id) with
  | none=>
   rw[YO] at e;exact absurd (e q hq) (by simp[hqi])
  | some i=>
   obtain ⟨hi,h3,_⟩:=YN.1 e;simp only;rw[if_neg z8];have h4:(was.log.getD i default).id=r.id:=by
    rw[List.getD_eq_getElem?_getD,W3 hi];simpa using h3
   rw[<-h4];exact CP hw.rise (YA _) hi
 ·rw[if_pos z8];cases e:was.log.findIdx? (λx=>x.id==r.id) with
  | none=>rfl
  | some i=>
   simp only;rw[if_pos h1]
end La
