/- Texts of this claim, part 37: CGo, CAct. No condition. -/
import Derived.Test.YtmcfbfdonjllaaaGreatDoorZP36
set_option maxRecDepth 10000
set_option maxHeartbeats 4000000
set_option linter.unusedSimpArgs false
set_option linter.unusedVariables false
namespace La
open Go Go.Eng Go.Proofs Go.Proofs.Tryz
variable {Fa:Prop}
theorem vQ (u:U) (f w:Int) (h:(bd u f w).e≠0):(bd u f w).n=aw:=by
 unfold bd at h ⊢;split
 ·rename_i n hn;rw[hn] at h;exact absurd rfl h
 ·rename_i hn;rw[hn] at h;simp only at h;split
  ·rfl
  ·rename_i ha;rw[if_neg ha] at h;split
   ·rfl
   ·rename_i n hf;rw[hf] at h;exact absurd rfl h
theorem xf {B T:Nat} (u:U) (h:UInvF Fa B T u) (hB:B<=40000000) (hT:T<=900000000000) (l:List (List UInt8)) (hl:l.length<=1000) (hls:∀x,x∈l->x.length<=1000) (worth:Int) (G Y N:Nat->Nat):ai prog 103 [.ptr 900 13 0 0,.sl (l.map aZ),.int .i64 worth] (cuH u G Y N)
  (λr H=>r=iG (goU u l worth)/\Holds (cuH (goU u l worth).u G Y N) H):=by
 have hg0:=mG u h hB z8 0 worth;have hi0:=bZ h 0 worth;have hn0:=jj h 0 worth;have hz0:=vQ u 0 worth;have hgo:goU u l worth=goR worth l (bd u 0 worth):=rfl;unfold cuH iG at hg0;unfold cuH iG;generalize bd u 0 worth=g0 at *;generalize goU u l worth=gF at *;refine wSG func103 ntmps103 results103 λC=>?_
 refine af (au 6) (wn ?_);refine wP ?_ [900] func106 (hf:=hg0);refine wGq ?_ ?_ w5
 ·simp[ZN]
 refine ZL (λq:Nat×Got=>q.1<=l.length/\gF=goR worth (l.drop q.1) q.2/\UInvF Fa B (T+1+q.1) q.2.u/\NodeOK q.2.n/\(q.2.e≠0->q.2.n=aw)) (λq=>l.length-q.1)
  (λq=>(9,.int .i64 q.2.e)::u0 10 4 ((22,.int .i64 q.1)::u0 23 30 []))
  (λq=>[(900,.cells 146 13 [bt q.2.u]),(8,.cells 94 5 [ZN q.2.n])]) (0,g0) ⟨Ys _,by rw[List.drop_zero];exact hgo,hi0,hn0,hz0⟩ ?_ λq hq=>?_
 ·simp only[go_sem];exact ZU w3 QT QT
 obtain ⟨i,g⟩:=q;obtain ⟨hi,hgf,hui,hno,hz⟩:=hq;simp only at hi hgf hui hno hz;simp only[go_sem];refine wGD (λh=>?_) (λh=>?_)
 ·have hlt:=lt1 h;have hg:=Fam.getD (f:=aZ) hlt;have hsl:=hls _ (YG hlt);rw[ck hlt] at hgf;generalize l.getD i default=s at *;have hw1:=wi1 (i:=i) z8;refine wGq ?_ ?_ Zr
  ·simp[hg,aZ,hlt]
  by_cases he:g.e=0
  ·have hent:=kD g.n s hno.small;refine wDF ?_ (hb:=QB);refine wG ?_ w5 QT;cases hd:g.n.dir with
   | false=>
    refine wTG ?_ (hb:=rfl);refine af (au 6) (wn ?_);refine wU ?_ ?_
    ·simp[hgf,goR,he,hd,ZN,aw]
    ·have e:gF.u=g.u:=by simp[hgf,goR,he,hd]
     rw[e];exact q9
   | true=>
    refine wFG ?_ (hb:=rfl);unfold ZN at hent;rw[hd] at hent;cases hen:ba g.n s with
    | none=>
     rw[hen] at hent;simp only[eU] at hent;refine wCg ?_ func104 (hf:=hent);refine wTG ?_ (hb:=rfl);refine af (au 6) (wn ?_);refine wU ?_ ?_
     ·simp[hgf,goR,he,hd,hen,ZN,aw]
     ·have e:gF.u=g.u:=by simp[hgf,goR,he,hd,hen]
      rw[e];exact q9
    | some f=>
     rw[hen] at hent;simp only[eU] at hent;have hg1:=mG g.u hui hB z8 f worth;unfold cuH iG at hg1;have hui2:=bZ hui f worth;have hno2:=jj hui f worth;have hz2:=vQ g.u f worth;have hgf2:gF=goR worth (l.drop (i+1)) (bd g.u f worth):=by rw[hgf,goR,if_neg QB,if_neg (by simp[hd]),hen]
     generalize bd g.u f worth=g2 at *;refine wCg ?_ func104 (hf:=hent);refine wFG ?_ (hb:=rfl);refine wP ?_ [900] func106 (hf:=hg1);refine wGq ?_ ?_ (by simp only[go_sem,ZN,hw1];try exact rfl)
     ·simp[ZN]
     refine ZB ⟨(i+1,g2),⟨by simp only;omega,hgf2,hui2.mono (YA _) (by simp only;omega),hno2,hz2⟩,by simp only;omega,ZU ?_ ?_ ?_⟩
     ·simp[go_sem]
     ·simp[go_sem,ZN]
     ·simp[go_sem]
  ·refine wTG ?_ (hb:=QB);refine af (au 6) (wn ?_);refine wU ?_ ?_
   ·simp[hgf,goR,he,ZN,aw]
   ·have e:gF.u=g.u:=by simp[hgf,goR,he]
    rw[e];exact q9
 ·have e:i=l.length:=by simp at h;omega
  subst e;rw[List.drop_length] at hgf;have hgu:gF.u=g.u:=by rw[hgf];unfold goR;split<;>rfl
  have hge:gF.e=g.e:=by rw[hgf];unfold goR;split<;>rfl
  have hgn:gF.n=g.n:=by
   rw[hgf];unfold goR;split
   ·rfl
   ·rename_i h0;exact (hz h0).symm
  refine wGq ?_ ?_ w5
  ·simp[ZN]
  refine wU ?_ ?_
  ·rw[hge,hgn];rfl
  ·rw[hgu];exact q9
theorem kS {B T:Nat} (u:U) (h:UInvF Fa B T u) (hB:B<=40000000) (hT:T<=900000000000) (path:List UInt8) (hp:path.length<=10000000) (G Y N:Nat->Nat):ai prog 73 [.ptr 900 13 0 0,.str path] (cuH u G Y N)
  (λr H=>r=.tup [.agg (ZN (ah u path).n),.str (ah u path).name,.int .i64 (ah u path).e]/\Holds (cuH (ah u path).u G Y N) H):=by
 have hsp:=nu path z8;have hsl:=cg path;have hdu:ah u path=if (ae path).2≠0 then ⟨aw,[],(ae path).2,u⟩
  else if (ae path).1.length=0 then ⟨aw,[],7,u⟩
  else ⟨(goU u ((ae path).1.take ((ae path).1.length-1)) 0).n,(ae path).1.getD ((ae path).1.length-1) [],
   if (goU u ((ae path).1.take ((ae path).1.length-1)) 0).e=0/\(goU u ((ae path).1.take ((ae path).1.length-1)) 0).n.dir=false then 8 else (goU u ((ae path).1.take ((ae path).1.length-1)) 0).e,
   (goU u ((ae path).1.take ((ae path).1.length-1)) 0).u⟩:=rfl
 generalize ah u path=dF at *;unfold cD at hsp;generalize ae path=S at *;obtain ⟨L,E⟩:=S;obtain ⟨hll,hlx⟩:=hsl;simp only at hdu hll hlx hsp;unfold cuH;refine wSG func73 ntmps73 results73 λC=>?_
 refine af (au 4) (wn ?_);refine wCg ?_ func102 (hf:=hsp)
 by_cases hE:E=0
 ·refine wFG ?_ (hb:=j9);rw[if_neg j9] at hdu
  by_cases hL:L.length=0
  ·rw[if_pos hL] at hdu;refine wTG ?_ (hb:=by simp[hL]);refine af (au 4) (wn ?_);refine wU ?_ ?_
   ·rw[hdu];simp[ZN,aw]
   ·rw[hdu];exact q9
  ·rw[if_neg hL] at hdu;have hw:IntKind.i64.wrap ((L.length:Int)-1)=((L.length-1:Nat):Int):=by rw[Eng.wrap_small z8 z8];omega
   have hgo:=xf u h hB hT (L.take (L.length-1)) QG (λx hx=>by have:=(hlx x (YJ hx)).1;omega) 0;have hgl:(L.map aZ).getD (L.length-1) []=[.str (L.getD (L.length-1) [])]:=by
    have hi:L.length-1<L.length:=by omega
    rw[List.getD_eq_getElem?_getD,W5,List.getD_eq_getElem?_getD,W3 hi];rfl
   have hLlt:L.length-1<L.length:=by omega
   have htk:(L.map aZ).take (L.length-1)=(L.take (L.length-1)).map aZ:=List.map_take.symm;unfold cuH iG at hgo;generalize goU u (L.take (L.length-1)) 0=g at *;refine wDF ?_ (hb:=by simp[hL]);refine wR ?_;refine wNq 6 ?_ ?_ z6 z6 (by simp only[go_sem,hw,htk];try exact rfl)
   ·simp[hw,htk];exact λ_ _=>rfl
   refine wP ?_ [900] func103 (hf:=hgo);refine wGq ?_ ?_ w5
   ·simp[ZN]
   by_cases hge:g.e=0
   ·cases hd:g.n.dir with
    | true=>
     have hdF:dF=⟨g.n,L.getD (L.length-1) [],g.e,g.u⟩:=by rw[hdu];simp[hd]
     rw[hdF];refine wDF ?_ (hb:=W2);refine wGS ?_;refine sN 7 ?_ z6 z6 p9 Qg;refine sN 1 ?_;refine sT ?_;refine sG ?_;refine wXG ?_;refine wU ?_ ?_
     ·first | (simp[ZN];done) | simp[ZN,hd]
     ·exact q9
    | false=>
     have hdF:dF=⟨g.n,L.getD (L.length-1) [],8,g.u⟩:=by rw[hdu];simp[hd,hge]
     rw[hdF];refine wTG ?_ (hb:=W2);refine wGS ?_;refine sN 7 ?_ z6 z6 p9 Qg;refine sN 1 ?_;refine sT ?_;refine sG ?_;refine wXG ?_;refine wU ?_ ?_
     ·first | (simp[ZN];done) | simp[ZN,hd]
     ·exact q9
   ·have hdF:dF=⟨g.n,L.getD (L.length-1) [],g.e,g.u⟩:=by rw[hdu];simp[hge]
    rw[hdF];refine wDF ?_ (hb:=x9);refine wGS ?_;refine sN 7 ?_ z6 z6 p9 Qg;refine sN 1 ?_;refine sT ?_;refine sG ?_;refine wXG ?_;refine wU ?_ ?_
    ·first | (simp[ZN];done) | simp[ZN,hd]
    ·exact q9
 ·rw[if_pos j9] at hdu;refine wTG ?_ (hb:=j9);refine af (au 4) (wn ?_);refine wU ?_ ?_
  ·rw[hdu];simp[ZN,aw]
  ·rw[hdu];exact q9
variable {Fa:Prop}
theorem SrvOK.Ak {k:Nat} {s:Srv} (h:SrvOK k s) (hk:k<=80000000):SmallP s.past:=⟨by have:=h.len;omega,λp hp=>by
 obtain ⟨st,_,_,h3⟩:=h.hist.st;obtain ⟨i,hi⟩:=YC hp;have hil:=(W9.1 hi).1;have:=(h3 i hil).2.1.data
 rwa [show s.past.getD i default=p by rw[List.getD_eq_getElem?_getD,hi];rfl] at this⟩
theorem E4 {B T:Nat} (u:U) (h:UInvF Fa B T u) (hB:B<=40000000) (haw:u.c.away=false) (a:Act) (ha:ActS a) (seen:Int) (G Y N:Nat->Nat):ai prog 74 [.ptr 900 13 0 0,.agg (ZA a),.int .i64 seen] (cuH u G Y N)
  (λr H=>r=.int .i64 (gw u a).e/\Holds (cuH (gw u a).u G Y N) H):=by
 have hpl:=h.srv.Ak z8;have hdo:=Lf u.s u.c.number a h.srv.hist.bs hpl ha.fit (by have:=h.srv.next;omega);have hW0:gw u a=if doE u.s a=0 then ⟨0,⟨mH u.c (doS u.s u.c.number a).tree,doS u.s u.c.number a⟩⟩ else ⟨doE u.s a,u⟩:=rfl;have hst:=λhe=>h.srv.step u.c.number ha.fit (a:=a) he
 have hsk:=h.ye;unfold doR at hdo;generalize gw u a=wF at *;generalize doS u.s u.c.number a=s2 at *;unfold ZA at hdo;unfold ZQ at hdo;unfold cuH bt ZA;refine wSG func74 ntmps74 results74 λC=>?_
 refine wTG ?_ (hb:=Q8)
 by_cases he:doE u.s a=0
 ·rw[if_pos he] at hdo hW0;have hs2:=hst he;have hfr:=tL u.c.cache s2.tree hsk hs2.hist.bs.small;refine wO ?_;refine sN 10 ?_;refine sC ?_ func107 (hf:=hdo);refine sN 3 ?_;refine sW ?_;refine sT ?_;refine sG ?_;refine wXG ?_;refine wDF ?_ (hb:=rfl);refine wGS ?_;refine sN 8 ?_;refine sC ?_ func43 (hf:=hfr);refine sG ?_;refine sE ?_;refine dS ?_;refine wKG ?_;refine wU ?_ ?_
  ·rw[hW0]
  ·rw[hW0];exact q9
 ·rw[if_neg he] at hdo hW0;refine wO ?_;refine sN 10 ?_;refine sC ?_ func107 (hf:=hdo);refine sN 3 ?_;refine sW ?_;refine sT ?_;refine sG ?_;refine wXG ?_;refine wTG ?_ (hb:=QB);refine wU ?_ ?_
  ·rw[hW0]
  ·rw[hW0];exact q9
theorem vB (u:U) (b:Act) (f:Int) (G Y N:Nat->Nat):ai prog 111 [.ptr 900 13 0 0,.rp (ZA b) 0,.int .i64 f] (cuH u G Y N) (λr H=>r=.bool (b.kind==3&&b.fid==f)/\Holds (cuH u G Y N) H):=by
 unfold ZA cuH;refine wS func111 ntmps111 results111 λC=>?_
 refine wR ?_;refine wN 1 ?_;refine wR ?_;refine wN 6 ?_;refine wNm 12 λc12 h12=>?_
 cases c12 with
 | true=>
  refine wG ?_;refine wU ?_ ?_
  ·rw[h12];simp
  ·exact q9
 | false=>
  refine wG ?_;refine wU ?_ ?_
  ·rw[h12];simp
  ·exact q9
theorem CA (L:List Node) (hL:Small L) (k:Kept):Fo 113 [.agg (ZK k),.rp [.sl (L.map ZN)] 0] (.bool (!bf L k.node.fid)):=by
 unfold ZK;refine wSG func113 ntmps113 results113 λC=>?_
 have hf:=dD L k.node.fid hL;unfold fS at hf;refine wC ?_ func82 (hf:=hf);refine wGq ?_ ?_ w5
 ·simp[ZN]
 refine wT ?_;rfl
theorem se (l:List Kept) (hlen:l.length<=100000000) {f:FuncId} {caps:List AV} {p:Kept->Bool} (hcal:aH prog f) (hpure:(caps.all AV.aT)=true)
  (hf:∀x,x∈l->ai prog f (.agg (ZK x)::caps) [] (λr _=>r=.bool (p x))) (hno:∀x,x∈l->p x=false) :
  Fo 80 [.sl (l.map ZK),.fn f caps] (.sl (l.map ZK)):=by
 have hcaps:=cf hpure;obtain ⟨q,hv,hq⟩:=fN hpure;have hix:=jz l hlen hcal hpure hf;have hn:l.findIdx? p=none:=YO.2 λx hx=>by simp[hno x hx]
 rw[hn] at hix;refine wSG func80 ntmps80 results80 λC=>?_
 refine dC rfl rfl z7 w3 ⟨_,func119,by kernel_rfl,rfl⟩ k9 (hix) w3 z6 ?_;refine wGD (λh=>?_) (λh=>?_)
 ·refine wGT ?_;rfl
 ·simp[cq] at h
theorem pt {l L:List Kept} {room:Int} {k:Kept} (h:cT l room k=some L) (hl:∀x,x∈l->x.node.Small) (hk:k.node.Small):∀x,x∈L->x.node.Small:=by
 unfold cT at h;cases e:b_ l k.node.fid with
 | some i=>
  rw[e] at h;injection h with h
  subst h;intro x hx
  rcases Yl hx with hx | rfl
  ·exact hl x hx
  ·exact hk
 | none=>
  rw[e] at h;obtain ⟨L0,h0,rfl⟩:=YX.1 h;intro x hx
  rcases List.mem_append.1 hx with hx | hx
  ·exact hl x ((gm _ _ _ h0).subset hx)
  ·rw[List.mem_singleton.1 hx];exact hk
theorem tV {l L:List Kept} {room:Int} {k:Kept} (h:cT l room k=some L):L.length<=l.length+1:=by
 unfold cT at h;cases e:b_ l k.node.fid with
 | some i=>rw[e] at h;injection h with h;subst h;rw[YR];omega
 | none=>
  rw[e] at h;obtain ⟨L0,h0,rfl⟩:=YX.1 h;have:=(gm _ _ _ h0).length_le;rw[List.length_append,List.length_cons,List.length_nil];omega
theorem Gi (k f n:Int):(k != 3||n != f)=!(k==3&&f==n):=by
 have h:(f==n)=(n==f):=by rw[Yv,beq_iff_eq,beq_iff_eq];exact eq_comm
 rw[h,Bool.not_and];rfl
theorem tg (W:List Node) (b:Act) (n:Node):aU W b n=!((ak W n.fid).isSome&&dg false ((ak W n.fid).getD aw) n&&!(b.kind==3&&b.fid==n.fid)):=by
 unfold aU;rw[Gi];cases ak W n.fid<;>rfl
theorem H8 {B T:Nat} (u:U) (h:UInvF Fa B T u) (hB:B<=40000000) (haw:u.c.away=true) (a:Act) (ha:ActS a) (seen:Int) (G Y N:Nat->Nat):ai prog 74 [.ptr 900 13 0 0,.agg (ZA a),.int .i64 seen] (cuH u G Y N)
  (λr H=>r=.int .i64 (kR u a seen).e/\Holds (cuH (kR u a seen).u G Y N) H):=by
 have hci:=h.cli;have hmd:=hci.made;have hlg:=hci.logged;have hcl:u.c.cache.length<=24:=by have:=hci.len;have:=hci.room;omega
 have hsk:=h.ye;have hgood:=hci.bs;have hri:=hci.ri;have hat:∀k,k∈u.c.cache->bf (cQ u.c) k.node.fid=true:=λk hk=>by rw[cK,(ZO (jM u.c)).2 ⟨(fp hci.nod k.node).2 ⟨k,hk,rfl⟩,rfl⟩];rfl
 have hct:Fo 108 [.sl (u.c.cache.map ZK)] (.sl ((cQ u.c).map ZN)):=yF u.c.cache hsk (oT hci.nod);have hbs:=BP (c:=u.c) ha;have hap:=lb hgood (eV u.c a) 0 hbs.fit;have hW0:kR u a seen=if aG (cQ u.c) (eV u.c a)≠0 then ⟨aG (cQ u.c) (eV u.c a),u⟩ else match dm u.c.log ⟨eV u.c a,vl a seen,u.c.logged+1⟩ with
  | none=>⟨5,u⟩
  | some log=>match cu u.c.room u.c.clock (cQ u.c) (eV u.c a) (aK (cQ u.c) (eV u.c a) 0) u.c.cache with
   | none=>⟨5,u⟩
   | some l=>⟨0,⟨{ u.c with cache:=l.filter (λk=>bf (aK (cQ u.c) (eV u.c a) 0) k.node.fid),log:=log,logged:=u.c.logged+1,made:=if aR a=true then u.c.made+1 else u.c.made },u.s⟩⟩:=rfl
 have hwm1:IntKind.i64.wrap (u.c.made+1)=u.c.made+1:=Eng.wrap_small z8 z8;have hwm:IntKind.i64.wrap (0-(u.c.made+1))=-1-u.c.made:=by rw[Eng.wrap_small z8 z8];omega
 have hwl1:IntKind.i64.wrap (u.c.logged+1)=u.c.logged+1:=Eng.wrap_small z8 z8;have hmb:(a.kind==1||a.kind==2)=aR a:=by unfold aR;rfl
 generalize kR u a seen=wF at *;generalize hWd:cQ u.c=W at *;unfold cuH bt ZA;refine wSG func74 ntmps74 results74 λC=>?_
 refine wFG ?_ (hb:=Q8);refine pe (λq:Int×Int=>q.1=(eV u.c a).fid/\q.2=vl a seen) (λq=>(2,.int .i64 q.2)::u0 67 8 [])
  (λq=>[(4,.cells 49 7 [[.int .i64 a.kind,.int .i64 q.1,.int .i64 a.dir,.str a.name,.int .i64 a.to,.str a.toName,.sl (a.data.map ZY)]])]) ?_ λq hq=>?_
 ·refine wD (λh=>?_) (λh=>?_)
  ·have hm:aR a=true:=by unfold aR;revert h;cases (a.kind==1)<;>simp
   refine wG ?_ (by simp only[go_sem,hwm1,hwm];try exact rfl) (by simp[go_sem,hwm1,hwm]);refine ZB ⟨(-1-u.c.made,-1),⟨by unfold eV;rw[if_pos hm],by unfold vl;rw[if_pos hm]⟩,ZU ?_ ?_ ?_⟩
   ·simp[go_sem]
   ·simp[go_sem]
   ·simp[go_sem]
  ·have hm:aR a=false:=by unfold aR;revert h;cases (a.kind==1)<;>simp
   refine wG ?_;refine ZB ⟨(a.fid,seen),⟨by unfold eV;rw[hm];rfl,by unfold vl;rw[hm];rfl⟩,ZU ?_ ?_ ?_⟩
   ·simp[go_sem]
   ·simp[go_sem]
   ·simp[go_sem]
 obtain ⟨F,V⟩:=q;obtain ⟨hF,hV⟩:=hq;simp only at hF hV;have hbE:(⟨a.kind,F,a.dir,a.name,a.to,a.toName,a.data⟩:Act)=eV u.c a:=by rw[hF];unfold eV;split<;>rfl
 rw[<-hV] at hW0;generalize eV u.c a=b at *;clear hF hV;simp only[go_sem];have hrow:ZA b=[.int .i64 a.kind,.int .i64 F,.int .i64 a.dir,.str a.name,.int .i64 a.to,.str a.toName,.sl (a.data.map ZY)]:=by rw[<-hbE];rfl
 have hrec:∀v i,ZR ⟨b,v,i⟩=[.int .i64 a.kind,.int .i64 F,.int .i64 a.dir,.str a.name,.int .i64 a.to,.str a.toName,.sl (a.data.map ZY),.int .i64 v,.int .i64 i]:=by intro v i;rw[<-hbE];rfl
 clear hbE;have hgl:=λhe=>fH hgood b 0 he
 have hss:=λhe=>@B7 W hgood hri b he
 rw[hrow] at hap;unfold oh at hap;generalize aG W b=e0 at *;generalize aK W b 0=L at *;refine ZZ 4 rfl (rfl) (wn ?_);refine wG ?_;refine wCg ?_ func108 (hf:=hct)
 by_cases hE:e0=0
 ·rw[if_pos hE] at hap;rw[if_neg j9] at hW0;have hgL:=hgl hE;have hss:=hss hE;have hLl:=hgL.len;have hadd:=K6 u.c.log ⟨b,V,u.c.logged+1⟩ ⟨by have:=hci.log;omega,λr hr=>by have:=(hci.logS r hr).data;show r.act.data.length<=_;omega⟩ Q4;rw[hrec] at hadd;refine wCg ?_ func109 (hf:=hap);refine wDF ?_ (hb:=rfl);refine ZZ 11 rfl (rfl) (wn ?_);refine wGS ?_;refine sN 13 ?_ z6 z6 n3 Qv;refine sB ?_;cases hlog:dm u.c.log ⟨b,V,u.c.logged+1⟩ with
  | none=>
   rw[hlog] at hadd hW0;simp only[fY] at hadd hW0;have hW:=hW0;refine sC ?_ func110 (hf:=hadd);refine sG ?_;refine wXG ?_;refine wTG ?_ (hb:=rfl);refine wU ?_ ?_
   ·rw[hW]
   ·rw[hW];exact q9
  | some log=>
   rw[hlog] at hadd hW0;simp only[fY] at hadd hW0;generalize hKA:cu u.c.room u.c.clock W b L u.c.cache=KA at hW0;refine sC ?_ func110 (hf:=hadd);refine sG ?_;refine wXG ?_;refine wFG ?_ (hb:=rfl);refine ZL (λq:Nat×List Kept×Bool=>q.1<=L.length/\cu u.c.room u.c.clock W b (L.drop q.1) q.2.1=KA/\q.2.1.length<=24+q.1/\(∀x,x∈q.2.1->x.node.Small)/\(q.2.2=false->q.2.1=u.c.cache/\∀n,n∈L.take q.1->aU W b n=false)) (λq=>L.length-q.1)
    (λq=>(12,.any)::(14,match q.2.2 with | true=>.osl 5000 8 0 q.2.1.length | false=>.sl (q.2.1.map ZK))::(16,.any)::(17,.any)::(18,.any)::(118,.int .i64 q.1)::u0 119 49 [])
    (λq=>match q.2.2 with | true=>[(5000,.cells 138 8 (q.2.1.map ZK))] | false=>[]) (0,u.c.cache,false) ⟨Ys _,by rw[List.drop_zero];exact hKA,by simp only;omega,hsk.each,λ_=>⟨rfl,λn hn=>by cases hn⟩⟩ ?_ λq hq=>?_
   ·exact wZ
   obtain ⟨i,l,fl⟩:=q;obtain ⟨hi,hka,hll,hsl0,hfl⟩:=hq;simp only at hi hka hll hsl0 hfl;have hsl:SmallK l:=⟨by omega,hsl0⟩;clear hKA;cases fl with
   | false=>
    obtain ⟨hlc,hno⟩:=hfl rfl;simp only[go_sem];refine wGD (λh=>?_) (λh=>?_)
    ·skip
     have hlt:=lt1 h;have hg:=Fam.getD (f:=ZN) hlt;have hw1:=wi1 (i:=i) z8;have hnm:=YG hlt;have htk:=ZT hlt;rw[ck hlt,cu] at hka;have hJ:aU W b (L.getD i default)=false->l=u.c.cache/\∀n,n∈L.take (i+1)->aU W b n=false:=λh1=>⟨hlc,λn hn=>by rw[htk] at hn;rcases List.mem_append.1 hn with hn | hn;exact hno n hn;rw[List.mem_singleton.1 hn];exact h1⟩
     generalize L.getD i default=n at *;have hns:=hgL.small.each n hnm;have hkns:(fZ W u.c.clock n).node.Small:=⟨hns.data,hns.entries⟩;have hfd0:=dD W n.fid hgood.small;unfold fS at hfd0;rw[cK] at hfd0;have hos:((ak W n.fid).getD aw).Small:=hgood.small.find n.fid;have hcb:=tg W b n;have hdk:fZ W u.c.clock n=⟨{ n with version:=((ak W n.fid).getD aw).version },true,0,u.c.clock⟩:=rfl;rw[hdk] at hka hkns;clear hdk;generalize (ak W n.fid).getD aw=o at *;generalize (ak W n.fid).isSome=ok at *;have hfd:Fo 82 [.sl (W.map ZN),.int .i64 n.fid] (.tup [.agg [.int .i64 o.fid,.bool o.dir,.sl (o.data.map ZY),.sl (o.entries.map ZE),.int .i64 o.version],.bool ok]):=hfd0;clear hfd0;have hsm:=kf [o] [n] (dy hos) (dy hns);rw[show gO false [o] [n]=dg false o n by simp[gO]] at hsm;have hcn:=vB u b n.fid;rw[hrow] at hcn;unfold cuH bt at hcn;simp only[List.map_cons,List.map_nil] at hsm;unfold ZN at hsm;generalize dg false o n=sm at *;generalize (b.kind==3&&b.fid==n.fid)=nb at *;refine wR ?_;refine wNq 4 ?_ ?_ z6 z6 x8
     ·simp[hg,ZN,hlt]
     refine wR ?_;refine wN 3 ?_;refine wC ?_ func82 (hf:=hfd);refine wN 6 ?_;refine jv ?_;refine qh ?_;refine qh ?_;refine pe (λj:Bool=>j=!aU W b n) (λj=>(143,.bool j)::u0 129 14 []) (λ_=>[]) ?_ λj hj=>?_
     ·rw[hcb,Bool.not_not];clear hcb;cases ok with
      | false=>
       refine wG ?_;refine fD (.bool false) rfl ?_;simp only[go_sem];refine wG ?_;refine fD (.bool false) rfl ?_;simp only[go_sem];refine wG ?_;exact ZB ⟨false,rfl,ZU w3 w3 w3⟩
      | true=>
       refine wG ?_;refine ZZ 132 rfl (rfl) ?_;refine ZZ 134 rfl (rfl) (wn ?_);refine wCC ?_ func84 (hf:=λhb=>(hsm));refine wN 2 ?_;cases sm with
       | false=>
        refine wG ?_;refine fD (.bool false) rfl ?_;simp only[go_sem];refine wG ?_;exact ZB ⟨false,by simp,ZU w3 w3 w3⟩
       | true=>
        refine wG ?_;refine wP ?_ [900] func111 (hf:=hcn);refine wG ?_;exact ZB ⟨!nb,by simp,ZU w3 w3 w3⟩
     clear hsm hcn hfd;simp only[go_sem];cases hch:aU W b n with
     | false=>
      rw[hch] at hj hka;simp only[Bool.not_false] at hj;subst hj;rw[if_neg Bool.false_ne_true] at hka;refine wDT ?_ (hb:=rfl);refine wG ?_ k8 p7;refine ZB ⟨(i+1,l,false),⟨by simp only;omega,hka,by simp only;omega,hsl0,λh0=>hJ hch⟩,by simp only;omega,ZU ?_ ?_ ?_⟩
      ·simp[go_sem]
      ·simp[go_sem]
      ·simp[go_sem]
     | true=>
      rw[hch] at hj hka;simp only[Bool.not_true] at hj;subst hj;rw[if_pos rfl] at hka;refine wFG ?_ (hb:=rfl)
      skip
      refine wO ?_;refine sN 12 ?_;refine sB ?_;cases hkk:cT l u.c.room ⟨{ n with version:=o.version },true,0,u.c.clock⟩ with
      | none=>
       have hkn:=xD hsl hkns hkk;rw[hkk] at hka;simp only at hka;rw[<-hka] at hW0;have hW:=hW0;refine sC ?_ func112 (hf:=hkn);refine sG ?_;refine wXG ?_;refine wTG ?_ (hb:=rfl);refine wU ?_ ?_
       ·rw[hW]
       ·rw[hW];exact q9
      | some l2=>
       have hkn:=vY hsl hkns hkk;rw[hkk] at hka;simp only at hka;have hl2:=tV hkk;have hs2:=pt hkk hsl.each hkns;refine g_ 4000 rfl rfl z7 w3 ⟨_,func112,by kernel_rfl,rfl⟩ w3 (hkn) w3 z7 z7 w3 z6 z6 ?_;refine sG ?_;refine wXG ?_;refine wDF ?_ (hb:=rfl);refine wG ?_ k8 p7;refine ZB ⟨(i+1,l2,true),⟨by simp only;omega,hka,by simp only;omega,hs2,λh0=>by cases h0⟩,by simp only;omega,ZU ?_ ?_ ?_⟩
       ·simp[go_sem]
       ·simp[go_sem]
       ·simp[go_sem]
    ·have e:i=L.length:=by simp at h;omega
     subst e;rw[Yt (YA _),cu] at hka;rw[<-hka] at hW0;simp only at hW0;have hfl:l.filter (λk=>bf L k.node.fid)=l:=Ye.2 λk hk=>hss (by rw[W7] at hno;exact hno) (hat k (by rw[<-hlc];exact hk))
     rw[hfl] at hW0;have hdl:=se (p:=λk=>!bf L k.node.fid) l z8 ⟨_,Go.Proofs.Tryz.func113,by kernel_rfl,rfl⟩ (caps:=[.rp [.sl (L.map ZN)] 0]) (by simp[AV.aT]) (λx _=>CA L hgL.small x) (λx hx=>by rw[hss (by rw[W7] at hno;exact hno) (hat x (by rw[<-hlc];exact hx))];rfl);refine wG ?_;refine wC ?_ func80 (hf:=hdl)
     skip
     refine wG ?_ n3 Qv;refine wD (λh=>?_) (λh=>?_)
     ·have hm:aR a=true:=by rw[<-hmb];exact h
      rw[if_pos hm] at hW0;refine wG ?_ Qp Wk;refine wU ?_ ?_
      ·rw[hW0]
      ·rw[hW0];exact q9
     ·have hm:aR a=false:=by rw[<-hmb];exact h
      rw[if_neg (by simp[hm])] at hW0;refine wG ?_;refine wU ?_ ?_
      ·rw[hW0]
      ·rw[hW0];exact q9
   | true=>
    simp only[go_sem];refine wGD (λh=>?_) (λh=>?_)
    ·skip
     have hlt:=lt1 h;have hg:=Fam.getD (f:=ZN) hlt;have hw1:=wi1 (i:=i) z8;have hnm:=YG hlt;have htk:=ZT hlt;rw[ck hlt,cu] at hka
     skip
     generalize L.getD i default=n at *;have hns:=hgL.small.each n hnm;have hkns:(fZ W u.c.clock n).node.Small:=⟨hns.data,hns.entries⟩;have hfd0:=dD W n.fid hgood.small;unfold fS at hfd0;rw[cK] at hfd0;have hos:((ak W n.fid).getD aw).Small:=hgood.small.find n.fid;have hcb:=tg W b n;have hdk:fZ W u.c.clock n=⟨{ n with version:=((ak W n.fid).getD aw).version },true,0,u.c.clock⟩:=rfl;rw[hdk] at hka hkns;clear hdk;generalize (ak W n.fid).getD aw=o at *;generalize (ak W n.fid).isSome=ok at *;have hfd:Fo 82 [.sl (W.map ZN),.int .i64 n.fid] (.tup [.agg [.int .i64 o.fid,.bool o.dir,.sl (o.data.map ZY),.sl (o.entries.map ZE),.int .i64 o.version],.bool ok]):=hfd0;clear hfd0;have hsm:=kf [o] [n] (dy hos) (dy hns);rw[show gO false [o] [n]=dg false o n by simp[gO]] at hsm;have hcn:=vB u b n.fid;rw[hrow] at hcn;unfold cuH bt at hcn;simp only[List.map_cons,List.map_nil] at hsm;unfold ZN at hsm;generalize dg false o n=sm at *;generalize (b.kind==3&&b.fid==n.fid)=nb at *;refine wR ?_;refine wNq 4 ?_ ?_ z6 z6 x8
     ·simp[hg,ZN,hlt]
     refine wR ?_;refine wN 3 ?_;refine wC ?_ func82 (hf:=hfd);refine wN 6 ?_;refine jv ?_;refine qh ?_;refine qh ?_;refine pe (λj:Bool=>j=!aU W b n) (λj=>(143,.bool j)::u0 129 14 []) (λ_=>[]) ?_ λj hj=>?_
     ·rw[hcb,Bool.not_not];clear hcb;cases ok with
      | false=>
       refine wG ?_;refine fD (.bool false) rfl ?_;simp only[go_sem];refine wG ?_;refine fD (.bool false) rfl ?_;simp only[go_sem];refine wG ?_;exact ZB ⟨false,rfl,ZU w3 w3 w3⟩
      | true=>
       refine wG ?_;refine ZZ 132 rfl (rfl) ?_;refine ZZ 134 rfl (rfl) (wn ?_);refine wCC ?_ func84 (hf:=λhb=>(hsm));refine wN 2 ?_;cases sm with
       | false=>
        refine wG ?_;refine fD (.bool false) rfl ?_;simp only[go_sem];refine wG ?_;exact ZB ⟨false,by simp,ZU w3 w3 w3⟩
       | true=>
        refine wG ?_;refine wP ?_ [900] func111 (hf:=hcn);refine wG ?_;exact ZB ⟨!nb,by simp,ZU w3 w3 w3⟩
     clear hsm hcn hfd;simp only[go_sem];cases hch:aU W b n with
     | false=>
      rw[hch] at hj hka;simp only[Bool.not_false] at hj;subst hj;rw[if_neg Bool.false_ne_true] at hka;refine wDT ?_ (hb:=rfl);refine wG ?_ k8 p7;refine ZB ⟨(i+1,l,true),⟨by simp only;omega,hka,by simp only;omega,hsl0,λh0=>by cases h0⟩,by simp only;omega,ZU ?_ ?_ ?_⟩
      ·simp[go_sem]
      ·simp[go_sem]
      ·simp[go_sem]
     | true=>
      rw[hch] at hj hka;simp only[Bool.not_true] at hj;subst hj;rw[if_pos rfl] at hka;refine wFG ?_ (hb:=rfl);refine ZZ 5000 rfl (bg _) ?_;simp only[go_sem,W4 (show (l.map ZK).length<=l.length by simp)];refine wO ?_;refine sN 12 ?_;refine sB ?_;cases hkk:cT l u.c.room ⟨{ n with version:=o.version },true,0,u.c.clock⟩ with
      | none=>
       have hkn:=xD hsl hkns hkk;rw[hkk] at hka;simp only at hka;rw[<-hka] at hW0;have hW:=hW0;refine sC ?_ func112 (hf:=hkn);refine sG ?_;refine wXG ?_;refine wTG ?_ (hb:=rfl);refine wU ?_ ?_
       ·rw[hW]
       ·rw[hW];exact q9
      | some l2=>
       have hkn:=vY hsl hkns hkk;rw[hkk] at hka;simp only at hka;have hl2:=tV hkk;have hs2:=pt hkk hsl.each hkns;refine g_ 4000 rfl rfl z7 w3 ⟨_,func112,by kernel_rfl,rfl⟩ w3 (hkn) w3 z7 z7 w3 z6 z6 ?_;refine sG ?_;refine wXG ?_;refine wDF ?_ (hb:=rfl);refine wG ?_ k8 p7;refine ZB ⟨(i+1,l2,true),⟨by simp only;omega,hka,by simp only;omega,hs2,λh0=>by cases h0⟩,by simp only;omega,ZU ?_ ?_ ?_⟩
       ·simp[go_sem]
       ·simp[go_sem]
       ·simp[go_sem]
    ·have e:i=L.length:=by simp at h;omega
     subst e;rw[Yt (YA _),cu] at hka;rw[<-hka] at hW0;simp only at hW0;have hle:=YB (λk:Kept=>bf L k.node.fid) l;have hdl:=iI (p:=λk=>!bf L k.node.fid) l hsl.len 5000 ⟨_,Go.Proofs.Tryz.func113,by kernel_rfl,rfl⟩ (caps:=[.rp [.sl (L.map ZN)] 0]) (by simp[AV.aT]) x7 (λx _=>CA L hgL.small x);simp only[Bool.not_not] at hdl;generalize l.filter (λk=>bf L k.node.fid)=d at *;refine wG ?_;refine wCG ?_ [5000] 100 func80 (hf:=hdl);refine ZZ 5100 rfl Qk ?_;simp only[go_sem,iC (show (d.map ZK).length=d.length by simp)]
     skip
     refine wG ?_ n3 Qv;refine wD (λh=>?_) (λh=>?_)
     ·have hm:aR a=true:=by rw[<-hmb];exact h
      rw[if_pos hm] at hW0;refine wG ?_ Qp Wk;refine wU ?_ ?_
      ·rw[hW0]
      ·rw[hW0];exact q9
     ·have hm:aR a=false:=by rw[<-hmb];exact h
      rw[if_neg (by simp[hm])] at hW0;refine wG ?_;refine wU ?_ ?_
      ·rw[hW0]
      ·rw[hW0];exact q9
 ·rw[if_neg hE] at hap;rw[if_pos j9] at hW0;have hW:=hW0;refine wCg ?_ func109 (hf:=hap);refine wTG ?_ (hb:=j9);refine wU ?_ ?_
  ·rw[hW]
  ·rw[hW];exact q9
end La
