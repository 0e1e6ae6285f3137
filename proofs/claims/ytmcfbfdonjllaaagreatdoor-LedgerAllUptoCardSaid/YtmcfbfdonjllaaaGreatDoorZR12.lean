/- Texts of this claim, part 12. No condition. -/
import Derived.Test.YtmcfbfdonjllaaaGreatDoorZR11
import Derived.Test.YtmcfbfdonjllaaaGreatDoorZR4
set_option maxRecDepth 10000
set_option maxHeartbeats 4000000
set_option linter.unusedSimpArgs false
set_option linter.unusedVariables false
namespace La
open Go Go.Eng Go.Proofs Go.Proofs.Tryz
theorem Xq:type_of% @List.getD_eq_getElem?_getD:=@List.getD_eq_getElem?_getD
variable {Fa:Prop}
theorem EL {B T:Nat} (u:U) (h:UInvF Fa B T u) (hB:B<=30000000) (hT:T<=800000000000) (path data:List UInt8) (hp:path.length<=10000000) (G Y N:Nat->Nat):aj prog 59 [.ptr 900 13 0 0,.str path,.sl (data.map ZY)] (uH u G Y N)
  (λr H=>r=.int .i64 (bI u path data).e/\Holds (uH (bI u path data).u G Y N) H):=by
 have hd:=mZ u h z8 z8 path hp;have hdi:=cK h path;have hdn:=ji h path;have hnm:=bW u path;have hW0:bI u path data=if (ah u path).e≠0 then ⟨(ah u path).e,(ah u path).u⟩
  else if data.length>20 then ⟨4,(ah u path).u⟩
  else match ba (ah u path).n (ah u path).name with
  | some f=>gb (bd (ah u path).u f 0) data
  | none=>if (bU (ah u path).u (cL (ah u path).n.fid (ah u path).name) (-1)).e≠0 then bU (ah u path).u (cL (ah u path).n.fid (ah u path).name) (-1)
   else gb (goU (bU (ah u path).u (cL (ah u path).n.fid (ah u path).name) (-1)).u (ae path).1 0) data:=rfl
 generalize ah u path=d at *;have hent:=js d.n d.name (by have:=hdn.ent;omega);rw[ew hdn.eup] at hent;unfold ZN at hent;unfold uH at hd;unfold uH;refine wSG func59 ntmps59 results59 λC=>?_
 refine wP ?_ [900] func60 (hf:=hd);refine wGq ?_ ?_ w5
 ·simp[ZN]
 by_cases hde:d.e=0
 ·rw[if_neg u4] at hW0;refine wFG ?_ (hb:=u4)
  by_cases hdl:data.length>20
  ·rw[if_pos hdl] at hW0;have hW:=hW0;refine wTG ?_ (hb:=k6);refine wU ?_ ?_
   ·rw[hW]
   ·rw[hW];exact q9
  ·rw[if_neg hdl] at hW0;refine wFG ?_ (hb:=k6);refine af (av 10) (wn ?_);cases hen:ba d.n d.name with
   | some f=>
    rw[hen] at hent hW0;simp only at hent hW0;have hg:=pO d.u hdi z8 z8 f 0;have hgi:=cg hdi f 0;unfold uH iG at hg;generalize bd d.u f 0=g at hg hgi hW0;refine wCg ?_ func91 (hf:=hent);refine wTG ?_ (hb:=rfl);refine wP ?_ [900] func90 (hf:=hg);refine wGq ?_ ?_ w5
    ·simp[ZN]
    by_cases hge:g.e=0
    ·have hW:bI u path data=bU g.u (cq g.n.fid data) (cO g.n):=by rw[hW0];unfold gb;rw[if_neg x9]
     have hact:=nI g.u hgi z8 z8 (cq g.n.fid data) ⟨by simp[cq],by simp[cq],by show data.length<=20;omega⟩ (cO g.n);have hse:=pQ g.n;unfold uH at hact;simp only[ZA,cq] at hact;rw[hW];unfold ZN at hse;simp only[cq];generalize bU g.u ⟨3,g.n.fid,0,[],0,[],data⟩ (cO g.n)=x at *;refine wDF ?_ (hb:=x9);refine wGS ?_;refine sN 4 ?_;refine sB ?_;refine sN 1 ?_;refine sC ?_ func92 (hf:=hse);refine ic rfl rfl z7 w3 ⟨_,func61,by kernel_rfl,rfl⟩ [900] w6 w3 w8 w3 w3 w3 (hact) z6 w7 ?_;refine sG ?_;refine wXG ?_;refine wU ?_ ?_
     ·rfl
     ·exact q9
    ·have hW:bI u path data=⟨g.e,g.u⟩:=by rw[hW0];unfold gb;rw[if_pos x9]
     refine wTG ?_ (hb:=x9);refine wU ?_ ?_
     ·rw[hW]
     ·rw[hW];exact q9
   | none=>
    rw[hen] at hent hW0;simp only at hent hW0;have hms:ActS (cL d.n.fid d.name):=⟨hnm,by simp[cL],by simp[cL]⟩;have hmk:=nI d.u hdi z8 z8 (cL d.n.fid d.name) hms (-1);have hmi:=j_ hdi hms (-1);generalize bU d.u (cL d.n.fid d.name) (-1)=x at hmk hmi hW0;unfold uH ZA at hmk;simp only[cL,List.map_nil] at hmk;have hmk2:∀G Y N:Nat->Nat,aj prog 61 [.ptr 900 13 0 0,.agg [.int .i64 1,.int .i64 0,.int .i64 d.n.fid,.str d.name,.int .i64 0,.str [],.nils],.int .i64 (-1)] _ _:=λG Y N=>aj.nrm rfl (hmk G Y N)
    refine wCg ?_ func91 (hf:=hent);refine wFG ?_ (hb:=rfl);refine wP ?_ [900] func61 (hf:=hmk2);refine wG ?_
    by_cases hxe:x.e=0
    ·rw[if_neg Zl] at hW0;have hsp:=ju path hp;have hsl:=cm path;unfold cG at hsp;generalize ae path=S at *;obtain ⟨L,E⟩:=S;obtain ⟨hll,hlx⟩:=hsl;simp only at hW0 hll hlx hsp;have hg:=uz x.u hmi z8 z8 L z8 (λy hy=>by have:=(hlx y hy).1;omega) 0;have hgi:=lC hmi L 0;unfold uH iG at hg;generalize goU x.u L 0=g at *;refine wTG ?_ (hb:=Zl);refine wCg ?_ func57 (hf:=hsp);refine wP ?_ [900] func58 (hf:=hg);refine wGq ?_ ?_ w5
     ·simp[ZN]
     by_cases hge:g.e=0
     ·have hW:bI u path data=bU g.u (cq g.n.fid data) (cO g.n):=by rw[hW0];unfold gb;rw[if_neg x9]
      have hact:=nI g.u hgi z8 z8 (cq g.n.fid data) ⟨by simp[cq],by simp[cq],by show data.length<=20;omega⟩ (cO g.n);have hse:=pQ g.n;unfold uH at hact;simp only[ZA,cq] at hact;rw[hW];unfold ZN at hse;simp only[cq];generalize bU g.u ⟨3,g.n.fid,0,[],0,[],data⟩ (cO g.n)=x at *;refine wDF ?_ (hb:=x9);refine wGS ?_;refine sN 4 ?_;refine sB ?_;refine sN 1 ?_;refine sC ?_ func92 (hf:=hse);refine ic rfl rfl z7 w3 ⟨_,func61,by kernel_rfl,rfl⟩ [900] w6 w3 w8 w3 w3 w3 (hact) z6 w7 ?_;refine sG ?_;refine wXG ?_;refine wU ?_ ?_
      ·rfl
      ·exact q9
     ·have hW:bI u path data=⟨g.e,g.u⟩:=by rw[hW0];unfold gb;rw[if_pos x9]
      refine wTG ?_ (hb:=x9);refine wU ?_ ?_
      ·rw[hW]
      ·rw[hW];exact q9
    ·rw[if_pos Zl] at hW0;have hW:=hW0;refine wFG ?_ (hb:=Zl);refine wTG ?_ (hb:=Zl);refine wU ?_ ?_
     ·rw[hW]
     ·rw[hW];exact q9
 ·rw[if_pos u4] at hW0;have hW:=hW0;refine wTG ?_ (hb:=u4);refine wU ?_ ?_
  ·rw[hW]
  ·rw[hW];exact q9
variable {Fa:Prop}
theorem zn {B T:Nat} {u:U} (h:UInvF Fa B T u) {f w:Int} (he:(bd u f w).e=0):(bd u f w).n.fid=f:=by
 unfold bd at he ⊢;cases hn:dZ u.c.cache f with
 | some n=>
  obtain ⟨k,_,_,hf⟩:=kU hn;exact hf
 | none=>
  rw[hn] at he;simp only at he ⊢;split
  ·rename_i ha;rw[if_pos ha] at he;cases he
  ·rename_i ha;rw[if_neg ha] at he;cases hf:ak u.s.tree f with
   | none=>rw[hf] at he;cases he
   | some n=>exact ((ZO h.srv.hist.bR.up).1 hf).2
theorem Cc {B T:Nat} (u:U) (h:UInvF Fa B T u) (hB:B<=30000000) (hT:T<=800000000000) (path to:List UInt8) (hp:path.length<=10000000) (G Y N:Nat->Nat):aj prog 62 [.ptr 900 13 0 0,.str path,.str to,.bool false] (uH u G Y N)
  (λr H=>r=.int .i64 (bu u path).e/\Holds (uH (bu u path).u G Y N) H):=by
 have hd:=mZ u h z8 z8 path hp;have hdi:=cK h path;have hdn:=ji h path;have hnm:=bW u path;have hE:(atU u path).e≠0->bu u path=⟨(atU u path).e,(atU u path).u⟩:=λh=>by unfold bu;rw[if_pos h]
 have hS:(atU u path).e=0->bu u path=bU (atU u path).u (dn (atU u path).n.fid (atU u path).d (atU u path).name) (cO (atU u path).n):=λh=>by unfold bu;rw[if_neg Z9]
 have hA:atU u path=if (ah u path).e≠0 then ⟨0,[],ax,(ah u path).e,(ah u path).u⟩
  else match ba (ah u path).n (ah u path).name with
  | none=>⟨0,[],ax,6,(ah u path).u⟩
  | some f=>⟨(ah u path).n.fid,(ah u path).name,(bd (ah u path).u f 0).n,(bd (ah u path).u f 0).e,(bd (ah u path).u f 0).u⟩:=rfl
 generalize bu u path=w at *;generalize ah u path=d at *;generalize atU u path=p at *;have hent:=js d.n d.name (by have:=hdn.ent;omega);rw[ew hdn.eup] at hent;unfold ZN at hent;unfold uH at hd;unfold uH;refine wSG func62 ntmps62 results62 λC=>?_
 refine wP ?_ [900] func60 (hf:=hd);refine wGq ?_ ?_ w5
 ·simp[ZN]
 by_cases hde:d.e=0
 ·rw[if_neg u4] at hA;refine wFG ?_ (hb:=u4);cases hen:ba d.n d.name with
  | none=>
   rw[hen] at hent hA;simp only at hent hA;have hW:=hE (by rw[hA];simp);rw[hA] at hW;refine wCg ?_ func91 (hf:=hent);refine wTG ?_ (hb:=rfl);refine wU ?_ ?_
   ·rw[hW]
   ·rw[hW];exact q9
  | some f=>
   rw[hen] at hent hA;simp only at hent hA;have hg:=pO d.u hdi z8 z8 f 0;have hgi:=cg hdi f 0;have hgf:=@zn Fa B (T+42) d.u hdi f 0;unfold uH iG at hg;generalize bd d.u f 0=g at hg hgi hA hgf;refine wCg ?_ func91 (hf:=hent);refine wFG ?_ (hb:=rfl);refine wP ?_ [900] func90 (hf:=hg);refine wGq ?_ ?_ w5
   ·simp[ZN]
   by_cases hge:g.e=0
   ·have hgf:=hgf hge;rw[hA] at hS;refine wFG ?_ (hb:=x9);refine af (av 15) (wn ?_)
    skip
    have hW:=hS hge;simp only[dn,hgf] at hW;have hact:=nI g.u hgi z8 z8 (dn f d.n.fid d.name) ⟨hnm,by simp[dn],by simp[dn]⟩ (cO g.n);have hse:=pQ g.n;unfold uH at hact;simp only[ZA,dn,List.map_nil] at hact;unfold ZN at hse;rw[hW];generalize bU g.u ⟨4,f,d.n.fid,d.name,0,[],[]⟩ (cO g.n)=x at *;refine wDF ?_ (hb:=rfl);refine wGS ?_;refine sN 3 ?_;refine sC ?_ func92 (hf:=hse);refine ic rfl rfl z7 w3 ⟨_,func61,by kernel_rfl,rfl⟩ [900] w6 w3 w8 w3 w3 w3 (hact) z6 w7 ?_;refine sG ?_;refine wXG ?_;refine wU ?_ ?_
    ·rfl
    ·exact q9
   ·have hW:=hE Wi;rw[hA] at hW;refine wTG ?_ (hb:=x9);refine wU ?_ ?_
    ·rw[hW]
    ·rw[hW];exact q9
 ·rw[if_pos u4] at hA;have hW:=hE Wj;rw[hA] at hW;refine wTG ?_ (hb:=u4);refine wU ?_ ?_
  ·rw[hW]
  ·rw[hW];exact q9
theorem G4 {B T:Nat} (u:U) (h:UInvF Fa B T u) (hB:B<=30000000) (hT:T<=800000000000) (path to:List UInt8) (hp:path.length<=10000000) (hto:to.length<=10000000) (G Y N:Nat->Nat):aj prog 62 [.ptr 900 13 0 0,.str path,.str to,.bool true] (uH u G Y N)
  (λr H=>r=.int .i64 (cN u path to).e/\Holds (uH (cN u path to).u G Y N) H):=by
 have hd:=mZ u h z8 z8 path hp;have hdi:=cK h path;have hdn:=ji h path;have hnm:=bW u path;have hE:(atU u path).e≠0->cN u path to=⟨(atU u path).e,(atU u path).u⟩:=λh=>by unfold cN;rw[if_pos h]
 have hM1:(atU u path).e=0->(ah (atU u path).u to).e≠0->cN u path to=⟨(ah (atU u path).u to).e,(ah (atU u path).u to).u⟩:=λh h2=>by unfold cN;rw[if_neg Z9,if_pos h2]
 have hM2:(atU u path).e=0->(ah (atU u path).u to).e=0->cN u path to=bU (ah (atU u path).u to).u (eL (atU u path).n.fid (atU u path).d (atU u path).name (ah (atU u path).u to).n.fid (ah (atU u path).u to).name) (cO (atU u path).n):=λh h2=>by
  unfold cN;rw[if_neg Z9,if_neg (by simp[h2])]
 have hS:=hM1;have hA:atU u path=if (ah u path).e≠0 then ⟨0,[],ax,(ah u path).e,(ah u path).u⟩
  else match ba (ah u path).n (ah u path).name with
  | none=>⟨0,[],ax,6,(ah u path).u⟩
  | some f=>⟨(ah u path).n.fid,(ah u path).name,(bd (ah u path).u f 0).n,(bd (ah u path).u f 0).e,(bd (ah u path).u f 0).u⟩:=rfl
 generalize cN u path to=w at *;generalize ah u path=d at *;generalize atU u path=p at *;have hent:=js d.n d.name (by have:=hdn.ent;omega);rw[ew hdn.eup] at hent;unfold ZN at hent;unfold uH at hd;unfold uH;refine wSG func62 ntmps62 results62 λC=>?_
 refine wP ?_ [900] func60 (hf:=hd);refine wGq ?_ ?_ w5
 ·simp[ZN]
 by_cases hde:d.e=0
 ·rw[if_neg u4] at hA;refine wFG ?_ (hb:=u4);cases hen:ba d.n d.name with
  | none=>
   rw[hen] at hent hA;simp only at hent hA;have hW:=hE (by rw[hA];simp);rw[hA] at hW;refine wCg ?_ func91 (hf:=hent);refine wTG ?_ (hb:=rfl);refine wU ?_ ?_
   ·rw[hW]
   ·rw[hW];exact q9
  | some f=>
   rw[hen] at hent hA;simp only at hent hA;have hg:=pO d.u hdi z8 z8 f 0;have hgi:=cg hdi f 0;have hgf:=@zn Fa B (T+42) d.u hdi f 0;unfold uH iG at hg;generalize bd d.u f 0=g at hg hgi hA hgf;refine wCg ?_ func91 (hf:=hent);refine wFG ?_ (hb:=rfl);refine wP ?_ [900] func90 (hf:=hg);refine wGq ?_ ?_ w5
   ·simp[ZN]
   by_cases hge:g.e=0
   ·have hgf:=hgf hge;rw[hA] at hS;refine wFG ?_ (hb:=x9);refine af (av 15) (wn ?_)
    skip
    have hd2:=mZ g.u hgi z8 z8 to hto;have hd2i:=cK hgi to;have hd2n:=bW g.u to;rw[hA] at hM1 hM2;simp only at hM1 hM2;have hM1:=hM1 hge;have hM2:=hM2 hge;unfold uH at hd2;generalize ah g.u to=q at *;refine wTG ?_ (hb:=rfl);refine wP ?_ [900] func60 (hf:=hd2);refine wGq ?_ ?_ w5
    ·simp[ZN]
    by_cases hqe:q.e=0
    ·have hW:=hM2 hqe;simp only[eL,hgf] at hW;have hact:=nI q.u hd2i z8 z8 (eL f d.n.fid d.name q.n.fid q.name) ⟨hnm,hd2n,by simp[eL]⟩ (cO g.n);have hse:=pQ g.n;unfold uH at hact;simp only[ZA,eL,List.map_nil] at hact;unfold ZN at hse;rw[hW];generalize bU q.u ⟨5,f,d.n.fid,d.name,q.n.fid,q.name,[]⟩ (cO g.n)=x at *;refine wDF ?_ (hb:=Z7);refine wGS ?_;refine sN 4 ?_;refine sT ?_;refine sN 1 ?_;refine sT ?_;refine sN 1 ?_;refine sT ?_;refine wX ?_;refine wGS ?_;refine sN 3 ?_;refine sC ?_ func92 (hf:=hse);refine ic rfl rfl z7 w3 ⟨_,func61,by kernel_rfl,rfl⟩ [900] w6 w3 w8 w3 w3 w3 (hact) z6 w7 ?_;refine sG ?_;refine wXG ?_;refine wU ?_ ?_
     ·rfl
     ·exact q9
    ·have hW:=hM1 hqe;refine wTG ?_ (hb:=Z7);refine wU ?_ ?_
     ·rw[hW]
     ·rw[hW];exact q9
   ·have hW:=hE Wi;rw[hA] at hW;refine wTG ?_ (hb:=x9);refine wU ?_ ?_
    ·rw[hW]
    ·rw[hW];exact q9
 ·rw[if_pos u4] at hA;have hW:=hE Wj;rw[hA] at hW;refine wTG ?_ (hb:=u4);refine wU ?_ ?_
  ·rw[hW]
  ·rw[hW];exact q9
theorem G8 {k:Nat} (s:Srv) (h:SrvOK k s) (hk:k<=70000000) (c:Int) (log:List Rec) (hl2:log.length<=2000000) (hfit:∀r,r∈log->ActFit r.act) :
  aj prog 99 [.agg (ZQ s),.int .i64 c,.sl (log.map ZR)] []
   (λr _=>r=.tup [.agg (ZQ (jU s c log)),.sl ((bM s.tree s.next ((s.past.length+1:Nat):Int) log).vs.map ZV)]):=by
 have hlen:=h.len;have hnx:=h.next;have hg:=h.hist.bR;have hof:=wE s.tree (by have:=hg.len;omega);have hj:=EB s.past s.tree s.next log h.hist z8 z8 hl2 hfit;have hji:=JInv.pt h.hist c s.next log hfit;have hinv:=hji.len;have hls:=sD (bM s.tree s.next ((s.past.length+1:Nat):Int) log).j.l hji.hist.bR.up (by have:=hji.hist.bR.len;omega);clear hji;have hT:jU s c log=⟨(bM s.tree s.next ((s.past.length+1:Nat):Int) log).j.l,(bM s.tree s.next ((s.past.length+1:Nat):Int) log).j.next,fL s c (bM s.tree s.next ((s.past.length+1:Nat):Int) log).done (bM s.tree s.next ((s.past.length+1:Nat):Int) log).done.length⟩:=by
  unfold jU fL;rw[W4]
 have hwp:IntKind.i64.wrap ((s.past.length:Int)+1)=((s.past.length+1:Nat):Int):=by rw[Eng.wrap_small z8 z8];rfl
 rw[hT];clear hT;unfold xP at hj;unfold ZQ;generalize bM s.tree s.next ((s.past.length+1:Nat):Int) log=g at *;have hsu:=λi=>@rN s c g.done i
 have hle:=λi=>@uu s c g.done i
 have hz:fL s c g.done 0=s.past:=by simp[fL]
 generalize fL s c g.done=P at *;refine wS func99 ntmps99 results99 λC=>?_
 refine wGS ?_;refine sN 2 ?_;refine sC ?_ func27 (hf:=hof);refine sN 7 ?_ z6 z6 QJ Zk;refine sC ?_ func137 (hf:=hj);refine sW ?_;refine sT ?_;refine wXG ?_;refine ZW ZM ?_;refine fO [(28,[28],[])] rfl (uD Wo) ?_;refine zN tK 2 (hk:=?_);refine zC func97 (hf:=hls) (hk:=?_);refine zN tK 2 (hk:=?_);refine zW tK (hk:=?_);refine zN tK 2 (hk:=?_);refine zA tK (h2:=?_) (h4:=?_) (h5:=?_) (h7:=?_) (h8:=?_) (hzz:=?_) (hn:=rfl) (hr:=rfl) (hk:=?_)
 ·exact jM _
 ·exact lT _
 ·rw[show tab.byt 79=96 from rfl];simp;omega
 ·simp
 ·exact bJ 28 s.past
 ·intro z hz;simp only[List.mem_cons,List.not_mem_nil,or_false] at hz;subst hz;exact .inl ⟨by decide,bJ 28 s.past⟩
 refine zB tK (hk:=?_);refine zW tK (hk:=?_);refine jS w9 z6 ?_;refine dS ?_;refine wKG ?_;refine af (mO 31 46 9 z6 z7 z7 z6 j0 j0 rfl z7 j6 j6) ?_;refine wL g.done.length (λi=>(11,.any)::(31,.any)::(36,.int .i64 i)::u0 37 12 [])
  (λi=>[(9,.cells 32 3 [[.sl (g.j.l.map ZN),.int .i64 g.j.next,.osl 46 8 0 (P i).length]]),(46,.cells 79 8 ((P i).map ZP))]) ?_ λi hi=>?_
 ·rw[hz];exact wZ
 simp only[go_sem];refine wGD (λh=>?_) (λh=>?_)
 ·have hlt:=lt1 h;have hg:=Fam.getD (f:=ZA) hlt;have hs1:=hsu i hlt;have hl1:=hle i z8;have how':=wi1 (i:=i) z8;generalize g.done.getD i default=a at *;generalize P i=Q at *;refine wR ?_;refine wNq 4 ?_ ?_ z6 z6 (by simp only[go_sem,hg,ZA];try exact rfl)
  ·simp[hg,ZA,hlt]
  refine wR ?_;refine wN 6 ?_;refine af (aY 46 9 z6 y9) ?_;refine wGq ?_ ?_ y6
  ·simp[rowsOf,ZP];omega
  exact ZB ⟨i+1,by omega,by omega,ZU w3 (by simp[go_sem,hs1,ZP,W4]) w3⟩
 ·obtain rfl:=eq1 hi h;refine wG ?_;refine ZZ 46 rfl (ea _) (wn ?_);refine wO ?_;refine sN 3 ?_;refine sT ?_;refine sG ?_;refine wX ?_;refine wGT ?_;simp
variable {Fa:Prop}
def vr (log:List Rec) (vs:List Verdict) (i:Nat):List Rec:=bY (log.take i) (vs.take i)
def iQ (vs:List Verdict) (i:Nat):Nat:=bL (vs.take i)
theorem oa (r:Rec) (v:Verdict):∀{l:List Rec} {vs:List Verdict},l.length=vs.length->bY (l++[r]) (vs++[v])=bY l vs++if v.err=0 then [] else [r]
 | [],[],_=>by
  simp only[List.nil_append,bY]
  first | done | (split<;>rfl)
 | [],_::_,h=>by simp at h
 | _::_,[],h=>by simp at h
 | a::l,b::vs,h=>by
  have ih:=oa r v (l:=l) (vs:=vs) x7;simp only[List.cons_append,bY];rw[ih];split
  ·rfl
  ·rfl
theorem Et {log:List Rec} {vs:List Verdict} {i:Nat} (h:i<vs.length) (hl:vs.length=log.length):vr log vs (i+1)=if (vs.getD i default).err=0 then vr log vs i else vr log vs i++[log.getD i default]:=by
 unfold vr;rw[ZT h,ZT (show i<log.length by omega),oa _ _ k6];split
 ·rw[List.append_nil]
 ·rfl
theorem tw {vs:List Verdict} {i:Nat} (h:i<vs.length):iQ vs (i+1)=if (vs.getD i default).err=0 then iQ vs i+1 else iQ vs i:=by
 unfold iQ bL;rw[ZT h,List.filter_append,List.length_append];generalize vs.getD i default=v
 by_cases e:v.err=0
 ·rw[if_pos e];simp[e]
 ·rw[if_neg e];simp[e]
theorem yW (vs:List Verdict) (i:Nat) (h:i<=vs.length):iQ vs i<=i:=by
 unfold iQ bL;have:=W8 (λv:Verdict=>v.err==0) (vs.take i);rw[YA] at this;omega
theorem pK:∀(l:List Rec) (vs:List Verdict),(bY l vs).length<=l.length
 | [],_=>by simp[bY]
 | _::_,[]=>by simp[bY]
 | a::l,b::vs=>by
  have ih:=pK l vs;simp only[bY];split
  ·simp only[List.length_cons];omega
  ·simp only[List.length_cons];omega
theorem GW (log:List Rec) (vs:List Verdict) (i:Nat):(vr log vs i).length<=log.length:=Yl (pK _ _) QI
def nR (c:Cli) (vs:List Verdict) (i:Nat):List Rec:=c.repair++vr c.log vs i
theorem wM {c:Cli} {vs:List Verdict} {i:Nat} (h:i<vs.length) (hl:vs.length=c.log.length):nR c vs (i+1)=if (vs.getD i default).err=0 then nR c vs i else nR c vs i++[c.log.getD i default]:=by
 unfold nR;rw[Et h hl];split
 ·rfl
 ·rw[List.append_assoc]
theorem AB (c:Cli) (vs:List Verdict) (i:Nat):(nR c vs i).length<=c.repair.length+c.log.length:=by
 unfold nR;rw[List.length_append];have:=GW c.log vs i;omega
def yL (u:U) (l:List Rec):U:=⟨{ u.c with repair:=l },u.s⟩
theorem GS {B T:Nat} (u:U) (h:UInvF Fa B T u) (hB:B<=40000000) (G Y N:Nat->Nat):aj prog 63 [.ptr 900 13 0 0] (uH u G Y N)
  (λr H=>r=.tup [.int .i64 (bL (aw u)),.int .i64 ((aw u).length-bL (aw u):Nat)]/\Holds (uH (gh u) G Y N) H):=by
 have hci:=h.cli;have hll:=hci.log;have hfit:∀r,r∈u.c.log->ActFit r.act:=λr hr=>(hci.logS r hr).fit
 have htk:=G8 u.s h.srv z8 u.c.number u.c.log z8 hfit;have hvl:(aw u).length=u.c.log.length:=(JInv.pt h.srv.hist u.c.number u.s.next u.c.log hfit).vlen;have hs2:=h.srv.take u.c.number hfit;have hrep:=hci.rep;have hcl:u.c.cache.length<=24:=by have:=hci.len;have:=hci.room;omega
 have hbU:gh u=⟨{ u.c with away:=false,log:=[],repair:=nR u.c (aw u) (aw u).length,cache:=(u.c.cache.filter λk=>!k.dirty).filter λk=>!bN (il u).tree k },il u⟩:=by
  unfold gh nR vr;rw[W4,hvl,W4]
 have hdn:bL (aw u)=iQ (aw u) (aw u).length:=by unfold iQ;rw[W4]
 rw[hbU,hdn];have hst:∀i,i<(aw u).length->_:=λi hi=>wM (c:=u.c) hi hvl
 have hsd:∀i,i<(aw u).length->_:=λi hi=>tw (vs:=aw u) hi
 have hdl:=yW (aw u);have hrl:=AB u.c (aw u);have h0:nR u.c (aw u) 0=u.c.repair:=by simp[nR,vr,bY]
 have h00:iQ (aw u) 0=0:=by simp[iQ,bL]
 have hof:=wE (il u).tree (by have:=hs2.hist.bR.len;unfold il;omega);have hfr:=oI (u.c.cache.filter λk=>!k.dirty) (il u).tree (Yl (W8 _ _) z8) hs2.hist.bR.up;unfold aw at *;unfold il at *;generalize (bM u.s.tree u.s.next ((u.s.past.length+1:Nat):Int) u.c.log).vs=vs at *;generalize jU u.s u.c.number u.c.log=s2 at *;generalize nR u.c vs=R at *;generalize iQ vs=D at *;clear hbU hdn;unfold ZQ at htk;unfold uH bx;refine wS func63 ntmps63 results63 λC=>?_
 refine wGS ?_;refine sN 14 ?_;refine sC ?_ func99 (hf:=htk);refine sN 3 ?_;refine sW ?_;refine sT ?_;refine sG ?_;refine wXG ?_;refine wL vs.length (λi=>(6,.int .i64 (D i:Nat))::(7,.any)::(8,.any)::(32,.int .i64 i)::u0 33 31 [])
  (λi=>[(900,.cells 121 13 [bx (yL u (R i))])]) ?_ λi hi=>?_
 ·rw[h00];unfold bx yL;rw[h0];exact wZ
 unfold bx yL;simp only[go_sem];refine wGD (λh=>?_) (λh=>?_)
 ·have hlt:=lt1 h;have hlt2:i<u.c.log.length:=by omega
  have hg:=Fam.getD (f:=ZV) hlt;have hgl:=Fam.getD (f:=ZR) hlt2;have hs1:=hst i hlt;have hs3:=hsd i hlt;have hl1:=hdl i z8;have hl2:=hrl i;have how':=wi1 (i:=i) z8;have hwd:IntKind.i64.wrap ((D i:Int)+1)=((D i+1:Nat):Int):=by rw[Eng.wrap_small z8 z8];rfl
  generalize u.c.log.getD i default=r at *;generalize vs.getD i default=v at *;generalize R i=Q at *;refine wR ?_;refine wNq 6 ?_ ?_ z6 z6 Zm
  ·simp[hg,ZV,hlt]
  refine wG ?_
  by_cases he:v.err=0
  ·rw[if_pos he] at hs1 hs3;refine wDT ?_ (hb:=QE);refine wG ?_ (by simp only[go_sem,hwd,how'];try exact rfl) (by simp[go_sem,hwd,how']);exact ZB ⟨i+1,by omega,by omega,ZU (by simp[go_sem,hs3]) (by simp[go_sem,hs1,bx,yL]) w3⟩
  ·rw[if_neg he] at hs1 hs3;have hnr2:∀id,bo id (.cells 51 9 (List.take Q.length (Q.map ZR)++[ZR r])):=λid=>by
    rw[show List.take Q.length (Q.map ZR)++[ZR r]=(Q++[r]).map ZR by simp];exact jd id _
   refine wFG ?_ (hb:=QE);refine ZW ZM ?_;refine fO [(43,[43],[]),(49,[49],[])] rfl (uD Wo) ?_;refine zN tK 1 (hk:=?_);refine zW tK (hk:=?_);refine zN tK 5 (hk:=?_);refine zA tK (h2:=?_) (h4:=?_) (h5:=?_) (h7:=?_) (h8:=?_) (hzz:=?_) (hn:=rfl) (hr:=rfl) (hk:=?_)
   ·exact vq _
   ·exact Az _
   ·rw[show tab.byt 51=104 from rfl];simp;omega
   ·simp
   ·exact jd 43 _
   ·intro z hz;simp only[List.mem_cons,List.not_mem_nil,or_false] at hz
    rcases hz with rfl | rfl
    ·exact .inl ⟨by decide,jd 43 _⟩
    ·exact .inr ⟨rfl,by decide⟩
   refine zN tK 6 (hk:=?_);refine zN tK 2 (h:=by simp only[go_sem,hgl,ZR];try exact rfl) (hp:=?_) (hk:=?_)
   ·simp[hgl,ZR,hlt2]
   refine zW tK (hk:=?_);refine zA tK (h2:=?_) (h4:=?_) (h5:=?_) (h7:=?_) (h8:=?_) (hzz:=?_) (hn:=rfl) (hr:=rfl) (hk:=?_)
   ·intro row h;simp at h;subst h;rfl
   ·rfl
   ·rw[show tab.byt 51=104 from rfl];simp;omega
   ·simp
   ·exact hnr2 49
   ·intro z hz;simp only[List.mem_cons,List.not_mem_nil,or_false] at hz
    rcases hz with rfl | rfl
    ·exact .inl ⟨by decide,hnr2 43⟩
    ·exact .inl ⟨by decide,hnr2 49⟩
   refine zN tK 3 (hk:=?_);refine jS w9 z6 ?_;refine dS ?_;refine wKn ?_;refine ZZ 59 rfl (by rw[List.all_append,dg];rfl) (wn ?_);refine wG ?_ y6 u3;refine ZB ⟨i+1,by omega,by omega,ZU ?_ ?_ ?_⟩
   ·simp[go_sem,hs3]
   ·simp[go_sem,hs1,bx,yL,ZR];exact W1 w8
   ·simp[go_sem]
 ·obtain rfl:=eq1 hi h;clear hst hsd;have hl1:=hdl vs.length (W7 _);generalize hD:D vs.length=d at *;generalize R vs.length=Q at *;refine wG ?_;refine af (le_empty 80 138 8 z7) (wn ?_);refine wL u.c.cache.length (λi=>(9,.osl 80 8 0 ((u.c.cache.take i).filter λk=>!k.dirty).length)::(11,.any)::(70,.int .i64 i)::u0 71 11 []) (λi=>[(80,.cells 138 8 (((u.c.cache.take i).filter λk=>!k.dirty).map ZK))]) ?_ λi hi=>?_
  ·exact wZ
  simp only[go_sem];refine wGD (λh=>?_) (λh=>?_)
  ·have hlt:=lt1 h;have hg:=Fam.getD (f:=ZK) hlt;have hw:=wi1 (i:=i) z8;have htk2:(u.c.cache.take (i+1)).filter (λk=>!k.dirty)=(u.c.cache.take i).filter (λk=>!k.dirty)++if (u.c.cache.getD i default).dirty=true then [] else [u.c.cache.getD i default]:=by
    rw[ZT hlt,List.filter_append,List.filter_cons];cases (u.c.cache.getD i default).dirty<;>simp
   have hll2:((u.c.cache.take i).filter λk=>!k.dirty).length<=i:=by
    have:=W8 (λk:Kept=>!k.dirty) (u.c.cache.take i);simp only[YA] at this;omega
   generalize (u.c.cache.take i).filter (λk=>!k.dirty)=F at htk2 hll2;generalize u.c.cache.getD i default=k at hg htk2;have htq:List.take F.length (F.map ZK)=F.map ZK:=W1 w8;refine wR ?_;refine wNq 4 ?_ ?_ z6 z6 j9
   ·simp[hg,ZK,hlt]
   refine wG ?_;cases hd:k.dirty with
   | true=>
    rw[hd,if_pos rfl,List.append_nil] at htk2;refine wDF ?_ (hb:=rfl);refine wG ?_ w4 y7;exact ZB ⟨i+1,by omega,by omega,ZU (by simp[go_sem,htk2]) (by simp[go_sem,htk2]) w3⟩
   | false=>
    rw[hd,if_neg w8] at htk2;refine wDT ?_ (hb:=rfl);refine wGq ?_ ?_ w4
    ·simp[htq,refs];omega
    exact ZB ⟨i+1,by omega,by omega,ZU (by simp[go_sem,htk2]) (by simp[go_sem,htk2,htq,ZK,hd]) w3⟩
  ·obtain rfl:=eq1 hi h;rw[W4];refine wG ?_;refine ZZ 80 rfl (bg _) (wn ?_);refine ZW ZM ?_;refine iq 2 [0,1,3,4,5,6,7,8,9,10,11,12,13,14] [0,1,0,2,3,4,5,6,7,8,9,10,11,12,13] rfl rfl rfl (λ_ _ _ h=>h) w9 w9 v8 z7 ?_
   try simp only[go_sem,gA,gB,gC]
   refine iq 1 [0,2,3,4,5,6,7,8,9,10,11,12,13] [0,0,1,2,3,4,5,6,7,8,9,10,11,12] rfl rfl rfl (λ_ _ _ h=>h) w9 w9 v8 z7 ?_
   try simp only[go_sem,gA,gB,gC]
   refine ZS rfl ?_;refine sN 5 ?_;refine sT ?_;refine sN 3 ?_;refine sT ?_;refine sN 2 ?_;refine sT ?_;refine wXG ?_;refine wCg ?_ func27 (hf:=hof);refine wC ?_ func39 (hf:=hfr);have hwl:IntKind.i64.wrap ((vs.length:Int)-(d:Int))=((vs.length-d:Nat):Int):=by rw[Eng.wrap_small z8 z8];omega
   refine wG ?_ (by simp only[go_sem,hwl];try exact rfl) (by simp[go_sem,hwl]);refine af (av 900) (wn ?_);refine wU ?_ ?_
   ·rfl
   ·exact q9
variable {Fa:Prop}
def gU (g:GotS):AV:=.tup [.agg (ZC g.u.c),.agg (ZQ g.u.s),.agg (bc g.r)]
theorem L9 (c:Cli) (s:Srv) (x:Step) (hk:x.kind=7):Fo 38 [.agg (ZC c),.agg (ZQ s),.agg (ZX x)] (gU (al ⟨c,s⟩ x)):=by
 obtain ⟨k,cl,n,path,toPath,data⟩:=x;simp only at hk;subst hk;have hW:al ⟨c,s⟩ ⟨7,cl,n,path,toPath,data⟩=⟨⟨{ c with away:=true },s⟩,cD 0⟩:=by unfold al;rfl
 rw[hW];unfold ZC ZQ ZX;refine wSG func38 ntmps38 results38 λC=>?_
 refine af (gR 22 900) ?_;refine af (av 10) (wn ?_);refine wFG ?_ (hb:=rfl);refine wFG ?_ (hb:=rfl);refine wFG ?_ (hb:=rfl);refine wFG ?_ (hb:=rfl);refine wFG ?_ (hb:=rfl);refine wFG ?_ (hb:=rfl);refine wDT ?_ (hb:=rfl);refine wGS ?_;refine sN 9 ?_;refine sT ?_;refine sT ?_;refine sT ?_;refine wX ?_;refine wGT ?_;rfl
theorem L5 {B T:Nat} (c:Cli) (s:Srv) (h:UInvF Fa B T ⟨c,s⟩) (hB:B<=30000000) (hT:T<=800000000000) (x:Step) (hp:x.path.length<=10000000) (hk:x.kind=3):Fo 38 [.agg (ZC c),.agg (ZQ s),.agg (ZX x)] (gU (al ⟨c,s⟩ x)):=by
 obtain ⟨k,cl,n,path,toPath,data⟩:=x;simp only at hk hp;subst hk;have hW:al ⟨c,s⟩ ⟨3,cl,n,path,toPath,data⟩=⟨(bI ⟨c,s⟩ path data).u,cD (bI ⟨c,s⟩ path data).e⟩:=by unfold al;rfl
 have hw:=EL ⟨c,s⟩ h hB hT path data hp;rw[hW];generalize bI ⟨c,s⟩ path data=w at *;unfold uH bx at hw;unfold ZC ZQ ZX;refine wSG func38 ntmps38 results38 λC=>?_
 refine af (gR 22 900) ?_;refine af (av 10) (wn ?_);refine wFG ?_ (hb:=rfl);refine wFG ?_ (hb:=rfl);refine wTG ?_ (hb:=rfl);refine wP ?_ [900] func59 (hf:=hw);refine wGS ?_;refine sN 9 ?_;refine sT ?_;refine sT ?_;refine sT ?_;refine wX ?_;refine wGT ?_;rfl
theorem L6 {B T:Nat} (c:Cli) (s:Srv) (h:UInvF Fa B T ⟨c,s⟩) (hB:B<=30000000) (hT:T<=800000000000) (x:Step) (hp:x.path.length<=10000000) (hk:x.kind=4):Fo 38 [.agg (ZC c),.agg (ZQ s),.agg (ZX x)] (gU (al ⟨c,s⟩ x)):=by
 obtain ⟨k,cl,n,path,toPath,data⟩:=x;simp only at hk hp;subst hk;have hW:al ⟨c,s⟩ ⟨4,cl,n,path,toPath,data⟩=⟨(d_ ⟨c,s⟩ path).u,cD (d_ ⟨c,s⟩ path).e⟩:=by unfold al;rfl
 have hM:d_ ⟨c,s⟩ path=if (ah ⟨c,s⟩ path).e≠0 then ⟨(ah ⟨c,s⟩ path).e,(ah ⟨c,s⟩ path).u⟩ else bU (ah ⟨c,s⟩ path).u (iS (ah ⟨c,s⟩ path).n.fid (ah ⟨c,s⟩ path).name) (-1):=rfl;have hd:=mZ ⟨c,s⟩ h z8 z8 path hp;have hdi:=cK h path;have hnm:=bW ⟨c,s⟩ path;rw[hW];generalize d_ ⟨c,s⟩ path=w at *;generalize ah ⟨c,s⟩ path=d at *;unfold uH bx at hd;unfold ZC ZQ ZX;refine wSG func38 ntmps38 results38 λC=>?_
 refine af (gR 22 900) ?_;refine af (av 10) (wn ?_);refine wFG ?_ (hb:=rfl);refine wFG ?_ (hb:=rfl);refine wFG ?_ (hb:=rfl);refine wTG ?_ (hb:=rfl);refine wP ?_ [900] func60 (hf:=hd);refine wGq ?_ ?_ w5
 ·simp[ZN]
 by_cases hde:d.e=0
 ·rw[if_neg u4] at hM;have hact:=nI d.u hdi z8 z8 (iS d.n.fid d.name) ⟨hnm,by simp[iS],by simp[iS]⟩ (-1);unfold uH bx at hact;simp only[ZA,iS,List.map_nil] at hact hM;generalize bU d.u ⟨2,0,d.n.fid,d.name,0,[],[]⟩ (-1)=y at *;rw[hM];refine wTG ?_ (hb:=u4);refine af (xS 123 z6 WD) (wn ?_);refine wP ?_ [900] func61 (hf:=hact);refine wGS ?_;refine sN 9 ?_;refine sT ?_;refine sT ?_;refine sT ?_;refine wX ?_;refine wGT ?_;rfl
 ·rw[if_pos u4] at hM;rw[hM];refine wDF ?_ (hb:=u4);refine wGS ?_;refine sN 9 ?_;refine sT ?_;refine sT ?_;refine sT ?_;refine wX ?_;refine wGT ?_;rfl
theorem L7 {B T:Nat} (c:Cli) (s:Srv) (h:UInvF Fa B T ⟨c,s⟩) (hB:B<=30000000) (hT:T<=800000000000) (x:Step) (hp:x.path.length<=10000000) (hk:x.kind=5):Fo 38 [.agg (ZC c),.agg (ZQ s),.agg (ZX x)] (gU (al ⟨c,s⟩ x)):=by
 obtain ⟨k,cl,n,path,toPath,data⟩:=x;simp only at hk hp;subst hk;have hW:al ⟨c,s⟩ ⟨5,cl,n,path,toPath,data⟩=⟨(bu ⟨c,s⟩ path).u,cD (bu ⟨c,s⟩ path).e⟩:=by unfold al;rfl
 have hw:=Cc ⟨c,s⟩ h hB hT path [] hp;rw[hW];generalize bu ⟨c,s⟩ path=w at *;unfold uH bx at hw;unfold ZC ZQ ZX;refine wSG func38 ntmps38 results38 λC=>?_
 refine af (gR 22 900) ?_;refine af (av 10) (wn ?_);refine wFG ?_ (hb:=rfl);refine wFG ?_ (hb:=rfl);refine wFG ?_ (hb:=rfl);refine wFG ?_ (hb:=rfl);refine wTG ?_ (hb:=rfl);refine wP ?_ [900] func62 (hf:=hw);refine wGS ?_;refine sN 9 ?_;refine sT ?_;refine sT ?_;refine sT ?_;refine wX ?_;refine wGT ?_;rfl
theorem L8 {B T:Nat} (c:Cli) (s:Srv) (h:UInvF Fa B T ⟨c,s⟩) (hB:B<=30000000) (hT:T<=800000000000) (x:Step) (hp:x.path.length<=10000000) (hq:x.toPath.length<=10000000) (hk:x.kind=6):Fo 38 [.agg (ZC c),.agg (ZQ s),.agg (ZX x)] (gU (al ⟨c,s⟩ x)):=by
 obtain ⟨k,cl,n,path,toPath,data⟩:=x;simp only at hk hp hq;subst hk;have hW:al ⟨c,s⟩ ⟨6,cl,n,path,toPath,data⟩=⟨(cN ⟨c,s⟩ path toPath).u,cD (cN ⟨c,s⟩ path toPath).e⟩:=by unfold al;rfl
 have hw:=G4 ⟨c,s⟩ h hB hT path toPath hp hq;rw[hW];generalize cN ⟨c,s⟩ path toPath=w at *;unfold uH bx at hw;unfold ZC ZQ ZX;refine wSG func38 ntmps38 results38 λC=>?_
 refine af (gR 22 900) ?_;refine af (av 10) (wn ?_);refine wFG ?_ (hb:=rfl);refine wFG ?_ (hb:=rfl);refine wFG ?_ (hb:=rfl);refine wFG ?_ (hb:=rfl);refine wFG ?_ (hb:=rfl);refine wTG ?_ (hb:=rfl);refine wP ?_ [900] func62 (hf:=hw);refine wGS ?_;refine sN 9 ?_;refine sT ?_;refine sT ?_;refine sT ?_;refine wX ?_;refine wGT ?_;rfl
theorem L_ {B T:Nat} (c:Cli) (s:Srv) (h:UInvF Fa B T ⟨c,s⟩) (hB:B<=30000000) (hT:T<=800000000000) (x:Step) (hk:x.kind=8):Fo 38 [.agg (ZC c),.agg (ZQ s),.agg (ZX x)] (gU (al ⟨c,s⟩ x)):=by
 obtain ⟨k,cl,n,path,toPath,data⟩:=x;simp only at hk;subst hk;have hW:al ⟨c,s⟩ ⟨8,cl,n,path,toPath,data⟩=⟨gh ⟨c,s⟩,⟨0,bL (aw ⟨c,s⟩),((aw ⟨c,s⟩).length-bL (aw ⟨c,s⟩):Nat),[]⟩⟩:=by unfold al;rfl
 have hw:=GS ⟨c,s⟩ h z8;rw[hW];generalize (aw ⟨c,s⟩).length-bL (aw ⟨c,s⟩)=m2 at *;generalize bL (aw ⟨c,s⟩)=m1 at *;generalize gh ⟨c,s⟩=w at *;unfold uH bx at hw;unfold ZC ZQ ZX;refine wSG func38 ntmps38 results38 λC=>?_
 refine af (gR 22 900) ?_;refine af (av 10) (wn ?_);refine wFG ?_ (hb:=rfl);refine wFG ?_ (hb:=rfl);refine wFG ?_ (hb:=rfl);refine wFG ?_ (hb:=rfl);refine wFG ?_ (hb:=rfl);refine wFG ?_ (hb:=rfl);refine wFG ?_ (hb:=rfl);refine wTG ?_ (hb:=rfl);refine wP ?_ [900] func63 (hf:=hw);refine wGS ?_;refine sN 9 ?_;refine sT ?_;refine sT ?_;refine sT ?_;refine wX ?_;refine wGT ?_;rfl
theorem Ma {B T:Nat} (c:Cli) (s:Srv) (h:UInvF Fa B T ⟨c,s⟩) (hB:B<=30000000) (hT:T<=800000000000) (x:Step) (hp:x.path.length<=10000000) (hk:x.kind=9):Fo 38 [.agg (ZC c),.agg (ZQ s),.agg (ZX x)] (gU (al ⟨c,s⟩ x)):=by
 obtain ⟨k,cl,n,path,toPath,data⟩:=x;simp only at hk hp;subst hk;have hW:al ⟨c,s⟩ ⟨9,cl,n,path,toPath,data⟩=⟨(cX ⟨c,s⟩ path n).u,cD (cX ⟨c,s⟩ path n).e⟩:=by unfold al;rfl
 have hw:=Cb ⟨c,s⟩ h path hp n;rw[hW];generalize cX ⟨c,s⟩ path n=w at *;unfold uH bx at hw;unfold ZC ZQ ZX;refine wSG func38 ntmps38 results38 λC=>?_
 refine af (gR 22 900) ?_;refine af (av 10) (wn ?_);refine wFG ?_ (hb:=rfl);refine wFG ?_ (hb:=rfl);refine wFG ?_ (hb:=rfl);refine wFG ?_ (hb:=rfl);refine wFG ?_ (hb:=rfl);refine wFG ?_ (hb:=rfl);refine wFG ?_ (hb:=rfl);refine wFG ?_ (hb:=rfl);refine wTG ?_ (hb:=rfl);refine wP ?_ [900] func64 (hf:=hw);refine wGS ?_;refine sN 9 ?_;refine sT ?_;refine sT ?_;refine sT ?_;refine wX ?_;refine wGT ?_;rfl
theorem G6 {B T:Nat} (c:Cli) (s:Srv) (h:UInvF Fa B T ⟨c,s⟩) (hB:B<=30000000) (hT:T<=800000000000) (x:Step) (hk:x.kind=10) (ha:c.away=true):Fo 38 [.agg (ZC c),.agg (ZQ s),.agg (ZX x)] (gU (al ⟨c,s⟩ x)):=by
 obtain ⟨k,cl,n,path,toPath,data⟩:=x;simp only at hk;subst hk;have hW:al ⟨c,s⟩ ⟨10,cl,n,path,toPath,data⟩=⟨⟨c,s⟩,cD 12⟩:=by unfold al;simp[ha]
 have hw:=AI ⟨c,s⟩ h ha;rw[hW];unfold uH bx at hw;unfold ZC ZQ ZX;refine wSG func38 ntmps38 results38 λC=>?_
 refine af (gR 22 900) ?_;refine af (av 10) (wn ?_);refine wFG ?_ (hb:=rfl);refine wFG ?_ (hb:=rfl);refine wFG ?_ (hb:=rfl);refine wFG ?_ (hb:=rfl);refine wFG ?_ (hb:=rfl);refine wFG ?_ (hb:=rfl);refine wFG ?_ (hb:=rfl);refine wFG ?_ (hb:=rfl);refine wFG ?_ (hb:=rfl);refine wTG ?_ (hb:=rfl);refine wP ?_ [900] func65 (hf:=hw);refine wGS ?_;refine sN 9 ?_;refine sT ?_;refine sT ?_;refine sT ?_;refine wX ?_;refine wGT ?_;rfl
theorem JH {B T:Nat} (c:Cli) (s:Srv) (h:UInvF Fa B T ⟨c,s⟩) (hB:B<=30000000) (hT:T<=800000000000) (x:Step) (hk:x.kind=10) (ha:c.away=false):Fo 38 [.agg (ZC c),.agg (ZQ s),.agg (ZX x)] (gU (al ⟨c,s⟩ x)):=by
 obtain ⟨k,cl,n,path,toPath,data⟩:=x;simp only at hk;subst hk;have hW:al ⟨c,s⟩ ⟨10,cl,n,path,toPath,data⟩=⟨(fb ⟨c,s⟩).u,⟨0,(fb ⟨c,s⟩).n,0,[]⟩⟩:=by unfold al;simp[ha]
 have hw:=AJ ⟨c,s⟩ h ha hB hT;rw[hW];generalize fb ⟨c,s⟩=w at *;unfold uH bx at hw;unfold ZC ZQ ZX;refine wSG func38 ntmps38 results38 λC=>?_
 refine af (gR 22 900) ?_;refine af (av 10) (wn ?_);refine wFG ?_ (hb:=rfl);refine wFG ?_ (hb:=rfl);refine wFG ?_ (hb:=rfl);refine wFG ?_ (hb:=rfl);refine wFG ?_ (hb:=rfl);refine wFG ?_ (hb:=rfl);refine wFG ?_ (hb:=rfl);refine wFG ?_ (hb:=rfl);refine wFG ?_ (hb:=rfl);refine wTG ?_ (hb:=rfl);refine wP ?_ [900] func65 (hf:=hw);refine wGS ?_;refine sN 9 ?_;refine sT ?_;refine sT ?_;refine sT ?_;refine wX ?_;refine wGT ?_;rfl
theorem Mb (c:Cli) (s:Srv) (x:Step) (hk:x.kind<1\/10<x.kind):Fo 38 [.agg (ZC c),.agg (ZQ s),.agg (ZX x)] (gU (al ⟨c,s⟩ x)):=by
 obtain ⟨k,cl,n,path,toPath,data⟩:=x;simp only at hk;have hW:al ⟨c,s⟩ ⟨k,cl,n,path,toPath,data⟩=⟨⟨c,s⟩,cD 1⟩:=by
  unfold al;simp only
  repeat rw[if_neg z8]
 rw[hW];unfold ZC ZQ ZX;refine wSG func38 ntmps38 results38 λC=>?_
 refine af (gR 22 900) ?_;refine af (av 10) (wn ?_);refine wFG ?_ (hb:=k6);refine wFG ?_ (hb:=k6);refine wFG ?_ (hb:=k6);refine wFG ?_ (hb:=k6);refine wFG ?_ (hb:=k6);refine wFG ?_ (hb:=k6);refine wFG ?_ (hb:=k6);refine wFG ?_ (hb:=k6);refine wFG ?_ (hb:=k6);refine wDF ?_ (hb:=k6);refine wGS ?_;refine sN 9 ?_;refine sT ?_;refine sT ?_;refine sT ?_;refine wX ?_;refine wGT ?_;rfl
variable {Fa:Prop}
def kP (l:List Entry) (i:Nat):List UInt8:=nX (l.take i)
theorem oz {l:List Entry} {i:Nat} (h:i<l.length):kP l (i+1)=kP l i++((l.getD i default).name++[10]):=by
 unfold kP nX;rw[ZT h,List.flatMap_append];simp
theorem zo {B T:Nat} {u:U} (h:UInvF Fa B T u) (f w:Int):NmE (bd u f w).n.entries:=by
 unfold bd;split
 ·rename_i n hn;obtain ⟨k,hk,rfl,_⟩:=kU hn;exact h.cli.nam k hk
 ·split
  ·exact .nil
  ·split
   ·exact .nil
   ·rename_i n hn;exact h.srv.hist.whole.nm ((ZO h.srv.hist.bR.up).1 hn).1
theorem C3 {B:Nat} (w:Int):∀(l:List (List UInt8)) (T:Nat) (g:Got),UInvF Fa B T g.u->NmE g.n.entries->NmE (goR w l g).n.entries
 | [],T,g,h,hn=>by
  unfold goR;split
  ·exact hn
  ·exact .nil
 | s::r,T,g,h,hn=>by
  unfold goR;split
  ·exact .nil
  ·split
   ·exact .nil
   ·split
    ·exact .nil
    ·rename_i f _;exact C3 w r (T+1) _ (cg h f w) (zo h f w)
theorem xL {B T:Nat} {u:U} (h:UInvF Fa B T u) (l:List (List UInt8)) (w:Int):NmE (goU u l w).n.entries:=C3 w l (T+1) _ (cg h 0 w) (zo h 0 w)
theorem qH {l:List Entry} (h:NmE l):∀i,i<=l.length->(kP l i).length<=41*i
 | 0,_=>by simp[kP,nX]
 | i+1,hi=>by
  have ih:=qH h i z8;have hn:=h (l.getD i default) (by rw[Xq,Wz (show i<l.length by omega)];exact YW _);rw[oz (show i<l.length by omega),List.length_append,List.length_append];simp only[List.length_cons,List.length_nil];omega
theorem L1 {B T:Nat} (c:Cli) (s:Srv) (h:UInvF Fa B T ⟨c,s⟩) (hB:B<=30000000) (hT:T<=800000000000) (x:Step) (hp:x.path.length<=10000000) (hk:x.kind=1):Fo 38 [.agg (ZC c),.agg (ZQ s),.agg (ZX x)] (gU (al ⟨c,s⟩ x)):=by
 obtain ⟨k,cl,n,path,toPath,data⟩:=x;simp only at hk hp;subst hk;have hW:al ⟨c,s⟩ ⟨1,cl,n,path,toPath,data⟩=if (ae path).2≠0 then ⟨⟨c,s⟩,cD (ae path).2⟩ else ⟨(goU ⟨c,s⟩ (ae path).1 0).u,gx 1 (goU ⟨c,s⟩ (ae path).1 0)⟩:=by unfold al;rfl
 have hsp:=ju path hp;have hsl:=cm path;have hgo:=uz ⟨c,s⟩ h z8 z8 (ae path).1 z8 (λx hx=>by have:=(hsl.2 x hx).1;omega) 0;have hno:=pn h (ae path).1 0;have hnam:=xL h (ae path).1 0;unfold cG at hsp;generalize goU ⟨c,s⟩ (ae path).1 0=g at *;generalize ae path=S at *;obtain ⟨L,E⟩:=S;simp only at hW hsp hgo;unfold uH bx iG at hgo;unfold ZC ZQ ZX;refine wSG func38 ntmps38 results38 λC=>?_
 refine af (gR 22 900) ?_;refine af (av 10) (wn ?_);refine wTG ?_ (hb:=rfl);refine wTG ?_ (hb:=rfl);refine wCg ?_ func57 (hf:=hsp)
 by_cases hE:E=0
 ·rw[if_neg x6] at hW;rw[hW];refine wFG ?_ (hb:=x6);refine wP ?_ [900] func58 (hf:=hgo);refine wGq ?_ ?_ w5
  ·simp[ZN]
  by_cases hge:g.e=0
  ·have hr:gx 1 g=if g.n.dir=true then ⟨9,0,0,[]⟩ else ⟨0,0,0,g.n.data⟩:=by unfold gx;rw[if_neg x9];rfl
   rw[hr];refine wFG ?_ (hb:=x9);cases hd:g.n.dir with
   | true=>
    refine wDT ?_ (hb:=rfl);refine wGS ?_;refine sN 9 ?_;refine sT ?_;refine sT ?_;refine sT ?_;refine wX ?_;refine wGT ?_;rfl
   | false=>
    refine wFG ?_ (hb:=rfl);refine wFG ?_ (hb:=rfl);refine wDT ?_ (hb:=rfl);refine wGS ?_;refine sN 9 ?_;refine sT ?_;refine sT ?_;refine sT ?_;refine wX ?_;refine wGT ?_;rfl
  ·have hr:gx 1 g=cD g.e:=by unfold gx;rw[if_pos hge];rfl
   rw[hr];refine wDT ?_ (hb:=x9);refine wGS ?_;refine sN 9 ?_;refine sT ?_;refine sT ?_;refine sT ?_;refine wX ?_;refine wGT ?_;rfl
 ·rw[if_pos hE] at hW;rw[hW];refine wDT ?_ (hb:=x6);refine wGS ?_;refine sN 3 ?_;refine sB ?_;refine sT ?_;refine sT ?_;refine sT ?_;refine wX ?_;refine af (av 8) (wn ?_);refine wGT ?_;rfl
theorem L4 {B T:Nat} (c:Cli) (s:Srv) (h:UInvF Fa B T ⟨c,s⟩) (hB:B<=30000000) (hT:T<=800000000000) (x:Step) (hp:x.path.length<=10000000) (hk:x.kind=2):Fo 38 [.agg (ZC c),.agg (ZQ s),.agg (ZX x)] (gU (al ⟨c,s⟩ x)):=by
 obtain ⟨k,cl,n,path,toPath,data⟩:=x;simp only at hk hp;subst hk;have hW:al ⟨c,s⟩ ⟨2,cl,n,path,toPath,data⟩=if (ae path).2≠0 then ⟨⟨c,s⟩,cD (ae path).2⟩ else ⟨(goU ⟨c,s⟩ (ae path).1 0).u,gx 2 (goU ⟨c,s⟩ (ae path).1 0)⟩:=by unfold al;rfl
 have hsp:=ju path hp;have hsl:=cm path;have hgo:=uz ⟨c,s⟩ h z8 z8 (ae path).1 z8 (λx hx=>by have:=(hsl.2 x hx).1;omega) 0;have hno:=pn h (ae path).1 0;have hnam:=xL h (ae path).1 0;unfold cG at hsp;generalize goU ⟨c,s⟩ (ae path).1 0=g at *;generalize ae path=S at *;obtain ⟨L,E⟩:=S;simp only at hW hsp hgo;unfold uH bx iG at hgo;unfold ZC ZQ ZX;refine wSG func38 ntmps38 results38 λC=>?_
 refine af (gR 22 900) ?_;refine wFG ?_ (hb:=rfl);refine wTG ?_ (hb:=rfl);refine wCg ?_ func57 (hf:=hsp)
 by_cases hE:E=0
 ·rw[if_neg x6] at hW;rw[hW];refine wFG ?_ (hb:=x6);refine wP ?_ [900] func58 (hf:=hgo);refine wGq ?_ ?_ w5
  ·simp[ZN]
  by_cases hge:g.e=0
  ·have hr:gx 2 g=if g.n.dir=true then ⟨0,0,0,nX g.n.entries⟩ else ⟨8,0,0,[]⟩:=by unfold gx;rw[if_neg x9];rfl
   rw[hr];refine wFG ?_ (hb:=x9);refine wFG ?_ (hb:=rfl);cases hd:g.n.dir with
   | true=>
    refine wFG ?_ (hb:=rfl);refine wFG ?_ (hb:=rfl);have hnm:=hnam;have hle:=hno.ent;have hD0:kP g.n.entries 0=[]:=rfl;have hDs:=λi=>@oz g.n.entries i
    have hDn:=qH hnm;have hDe:kP g.n.entries g.n.entries.length=nX g.n.entries:=by unfold kP;rw[W4]
    rw[if_pos rfl];generalize kP g.n.entries=D at *;generalize nX g.n.entries=DE at *;refine af (le_empty 62 5 1 z7) (wn ?_);refine af (i_ 10 ([[.int .i64 0,.int .i64 0,.int .i64 0,.osl 62 1 0 0]]) z6 Qw) (wn ?_);refine wL g.n.entries.length (λi=>(15,.any)::(51,.int .i64 i)::u0 52 13 [])
     (λi=>[(10,.cells 42 4 [[.int .i64 0,.int .i64 0,.int .i64 0,.osl 62 1 0 (D i).length]]),(62,.cells 5 1 ((D i).map ZY))]) ?_ λi hi=>?_
    ·rw[hD0];exact wZ
    simp only[go_sem];refine wGD (λh=>?_) (λh=>?_)
    ·have hlt:=lt1 h;have hg:=Fam.getD (f:=ZE) hlt;have hs1:=hDs i hlt;have hl1:=hDn i hi;have hl2:(g.n.entries.getD i default).name.length<=40:=hnm _ (by rw[Xq,Wz hlt];exact YW _);have how':=wi1 (i:=i) z8;generalize g.n.entries.getD i default=e at *;generalize D i=Di at *;have htq:List.take Di.length (Di.map ZY)=Di.map ZY:=W1 w8;refine wR ?_;refine wNq 4 ?_ ?_ z6 z6 s6
     ·simp[hg,ZE,hlt]
     refine wR ?_;refine wN 4 ?_;refine bE rfl (vz tK rfl rfl rfl rfl z7) ?_;simp only[go_sem];refine af (aY 62 10 z6 y9) ?_;refine wGq ?_ ?_ y6
     ·simp[htq,refs];refine ⟨⟨λrow hr=>?_,λ_ _=>rfl,by omega⟩,by omega,λrow hr y hy=>?_⟩
      ·obtain ⟨b,_,rfl⟩:=W5.1 hr;rfl
      ·rcases List.mem_append.1 (YF hr) with hr | hr<;>obtain ⟨b,_,rfl⟩:=W5.1 hr<;>simp only[ZY,List.mem_cons,List.not_mem_nil,or_false] at hy<;>subst hy<;>simp[refs]
     refine ZB ⟨i+1,by omega,by omega,ZU ?_ ?_ ?_⟩
     ·simp[go_sem]
     ·simp[go_sem,hs1,htq,ZY];exact ⟨by rw[W1 w8,List.append_assoc];rfl,by omega⟩
     ·simp[go_sem]
    ·obtain rfl:=eq1 hi h;rw[hDe];refine wG ?_;refine ZZ 62 rfl (lp _) (wn ?_);refine wGS ?_;refine sN 9 ?_;refine sT ?_;refine sT ?_;refine sT ?_;refine wX ?_;refine wGT ?_;rfl
   | false=>
    refine wDT ?_ (hb:=rfl);refine af (av 10) (wn ?_);refine wGS ?_;refine sN 9 ?_;refine sT ?_;refine sT ?_;refine sT ?_;refine wX ?_;refine wGT ?_;rfl
  ·have hr:gx 2 g=cD g.e:=by unfold gx;rw[if_pos hge];rfl
   rw[hr];refine wDT ?_ (hb:=x9);refine af (av 10) (wn ?_);refine wGS ?_;refine sN 9 ?_;refine sT ?_;refine sT ?_;refine sT ?_;refine wX ?_;refine wGT ?_;rfl
 ·rw[if_pos hE] at hW;rw[hW];refine wDT ?_ (hb:=x6);refine wGS ?_;refine sN 3 ?_;refine sB ?_;refine sT ?_;refine sT ?_;refine sT ?_;refine wX ?_;refine af (av 8) (wn ?_);refine wGT ?_;rfl
theorem G7 {B T:Nat} (c:Cli) (s:Srv) (h:UInvF Fa B T ⟨c,s⟩) (hB:B<=30000000) (hT:T<=800000000000) (x:Step) (hp:x.path.length<=10000000) (hq:x.toPath.length<=10000000):Fo 38 [.agg (ZC c),.agg (ZQ s),.agg (ZX x)] (gU (al ⟨c,s⟩ x)):=by
 by_cases h0:x.kind<1\/10<x.kind
 ·exact Mb c s x h0
 ·have hc:x.kind=1\/x.kind=2\/x.kind=3\/x.kind=4\/x.kind=5\/x.kind=6\/x.kind=7\/x.kind=8\/x.kind=9\/x.kind=10:=by omega
  rcases hc with h1 | h1 | h1 | h1 | h1 | h1 | h1 | h1 | h1 | h1
  ·exact L1 c s h hB hT x hp h1
  ·exact L4 c s h hB hT x hp h1
  ·exact L5 c s h hB hT x hp h1
  ·exact L6 c s h hB hT x hp h1
  ·exact L7 c s h hB hT x hp h1
  ·exact L8 c s h hB hT x hp hq h1
  ·exact L9 c s x h1
  ·exact L_ c s h hB hT x h1
  ·exact Ma c s h hB hT x hp h1
  ·cases ha:c.away with
   | true=>exact G6 c s h hB hT x h1 ha
   | false=>exact JH c s h hB hT x h1 ha
def jW (g:GotW):AV:=.tup [.agg (aV g.w),.agg (bc g.r)]
def csT (t:List Node) (cs:List Cli) (j:Nat) (c:Cli) (i:Nat):List Cli:=((cs.set j c).take i).map (bq t)
theorem FI {t:List Node} {cs:List Cli} {j:Nat} {c:Cli} {i:Nat} (h:i<cs.length):csT t cs j c (i+1)=csT t cs j c i++[bq t (if i=j then c else cs.getD i default)]:=by
 unfold csT;rw[ZT (show i<(cs.set j c).length by rw[YN];exact h),List.map_append];have:(cs.set j c).getD i default=if i=j then c else cs.getD i default:=by
  rw[Xq,YM]
  by_cases e:j=i
  ·subst e;rw[if_pos rfl,if_pos h,if_pos rfl];rfl
  ·rw[if_neg e,if_neg (λh=>e h.symm),Xq]
 rw[this];rfl
theorem IF {t:List Node} {cs:List Cli} {j:Nat} {c:Cli} {i:Nat} (h:i<=cs.length):(csT t cs j c i).length=i:=by
 unfold csT;rw[List.length_map,YA,YN];omega
theorem Cg {B T:Nat} (w:Wor) (h:WInv B T w) (hB:B<=30000000) (hT:T<=800000000000) (x:Step) (hp:x.path.length<=10000000) (hq:x.toPath.length<=10000000) (hb:x.client<0\/x.client≥w.cs.length):Fo 21 [.agg (aV w),.agg (ZX x)] (jW (au w x)):=by
 have h3:=h.len;have hW:au w x=⟨w,cD 6⟩:=by unfold au;rw[if_pos hb]
 rw[hW];unfold aV ZX;refine wS func21 ntmps21 results21 λC=>?_
 refine wR ?_;refine wN 4 ?_;refine wR ?_;refine wN 11 ?_;refine wNm 22 λc22 h22=>?_
 have hc:c22=true:=by
  rw[<-h22]
  by_cases h1:x.client<0
  ·simp[h1]
  ·simp[h1];omega
 clear h22;refine Fe ?_ (hb:=hc);refine af (av 5) (wn ?_);refine wT ?_;rfl
theorem EJ {B T:Nat} (w:Wor) (h:WInv B T w) (hB:B<=30000000) (hT:T<=800000000000) (x:Step) (hp:x.path.length<=10000000) (hq:x.toPath.length<=10000000) (hb:¬(x.client<0\/x.client≥w.cs.length)):Fo 21 [.agg (aV w),.agg (ZX x)] (jW (au w x)):=by
 have h3:=h.len;obtain ⟨k,cl,n,path,toPath,data⟩:=x;simp only at hb hp hq;obtain ⟨j,rfl⟩:∃j:Nat,cl=(j:Int):=⟨cl.toNat,by omega⟩;have hj:j<w.cs.length:=by omega
 have hu:=h.at hj;have hst:=G7 (w.cs.getD j default) w.s hu hB hT ⟨k,j,n,path,toPath,data⟩ hp hq;have hinv:=nr hu ⟨k,j,n,path,toPath,data⟩;have hW:au w ⟨k,j,n,path,toPath,data⟩=⟨⟨(al ⟨w.cs.getD j default,w.s⟩ ⟨k,j,n,path,toPath,data⟩).u.s,csT (al ⟨w.cs.getD j default,w.s⟩ ⟨k,j,n,path,toPath,data⟩).u.s.tree w.cs j (al ⟨w.cs.getD j default,w.s⟩ ⟨k,j,n,path,toPath,data⟩).u.c w.cs.length⟩,(al ⟨w.cs.getD j default,w.s⟩ ⟨k,j,n,path,toPath,data⟩).r⟩:=by
  unfold au csT;rw[if_neg hb,show w.cs.length=(w.cs.set j (al ⟨w.cs.getD j default,w.s⟩ ⟨k,j,n,path,toPath,data⟩).u.c).length by rw[YN],W4];rfl
 have hcx:∀i,i<w.cs.length->(w.cs.getD i default).cache.length<=24:=λi hi=>by have:=(h.at hi).cli.len;have:=(h.at hi).cli.room;simp only at *;omega
 rw[hW];have hg0:=Fam.getD (f:=ZC) hj;generalize w.cs.getD j default=c0 at hst hinv hg0 ⊢;generalize al ⟨c0,w.s⟩ ⟨k,j,n,path,toPath,data⟩=g at *;have hcg:g.u.c.cache.length<=24:=by have:=hinv.cli.len;have:=hinv.cli.room;omega
 have hof:=wE g.u.s.tree (by have:=hinv.srv.hist.bR.len;omega);have hfr0:=λl hl=>oI l g.u.s.tree hl hinv.srv.hist.bR.up
 have hcc:∀kk:Cli,kk.cache.length<=24->kk.cache.length<=90000000:=λkk hk=>by omega
 have hPs:=λi=>@FI g.u.s.tree w.cs j g.u.c i
 have hPl:=λi=>@IF g.u.s.tree w.cs j g.u.c i
 have hP0:csT g.u.s.tree w.cs j g.u.c 0=[]:=rfl;generalize csT g.u.s.tree w.cs j g.u.c=P at *;unfold gU ZC ZQ ZX bc at hst;unfold jW aV ZX bc;refine wS func21 ntmps21 results21 λC=>?_
 refine wR ?_;refine wN 4 ?_;refine wR ?_;refine wN 11 ?_;refine wNm 22 λc22 h22=>?_
 have hc:c22=false:=by
  rw[<-h22];have h1:¬((j:Int)<0):=by omega
  simp[h1];omega
 clear h22;refine wG ?_;refine wDF ?_ (hb:=hc);refine wGS ?_;refine sNq 9 ?_ ?_ z6 z6 (by simp only[go_sem,hg0,ZC];try exact rfl)
 ·simp[hg0,hj,ZC]
 refine sC ?_ func38 (hf:=hst);refine sN 4 ?_;refine sW ?_;refine sW ?_;refine sW ?_;refine sT ?_;refine sT ?_;refine sT ?_;refine wXG ?_;refine af (le_empty 68 47 10 z7) (wn ?_);refine af (i_ 9 ([[.sl (g.u.s.tree.map ZN),.int .i64 g.u.s.next,.sl (g.u.s.past.map ZP),.osl 68 10 0 0]]) z6 Qw) (wn ?_);refine wL w.cs.length (λi=>(10,.any)::(11,.any)::(44,.int .i64 i)::u0 45 26 [])
  (λi=>[(9,.cells 35 4 [[.sl (g.u.s.tree.map ZN),.int .i64 g.u.s.next,.sl (g.u.s.past.map ZP),.osl 68 10 0 (P i).length]]),(68,.cells 47 10 ((P i).map ZC))]) ?_ λi hi=>?_
 ·rw[hP0];exact wZ
 simp only[go_sem];refine wGD (λh=>?_) (λh=>?_)
 ·have hlt:=lt1 h;have hg1:=Fam.getD (f:=ZC) hlt;have how':=wi1 (i:=i) z8;have hs1:=hPs i hlt;have hl1:=hPl i hi;have hci:=hcx i hlt;generalize w.cs.getD i default=ci at *;generalize P i=Q at *;have htq:List.take Q.length (Q.map ZC)=Q.map ZC:=W1 w8;refine wR ?_;refine wNq 6 ?_ ?_ z6 z6 (by simp only[go_sem,hg1,ZC];try exact rfl)
  ·simp[hg1,ZC,hlt]
  refine wG ?_
  by_cases hij:i=j
  ·rw[if_pos hij] at hs1;refine wTG ?_ (hb:=by simp[hij]);have hin:=hcg;generalize hkv:g.u.c=kk at *;cases haw:kk.away with
   | true=>
    have hkk:bq g.u.s.tree kk=kk:=by unfold bq;rw[if_pos haw]
    refine wDF ?_ (hb:=Q7);refine wR ?_;refine wN 2 ?_;refine af (aY 68 9 z6 y9) ?_;refine wGq ?_ ?_ y6
    ·simp[htq,refs];omega
    exact ZB ⟨i+1,by omega,by omega,ZU w3 Q0 w3⟩
   | false=>
    have hkk:bq g.u.s.tree kk={ kk with cache:=kk.cache.filter λk=>!bN g.u.s.tree k }:=by unfold bq mH;rw[if_neg Q7]
    have hfr:=hfr0 kk.cache (hcc kk hin);refine wDT ?_ (hb:=Q7);refine wGS ?_;refine sN 4 ?_;refine sC ?_ func27 (hf:=hof);refine sC ?_ func39 (hf:=hfr);refine sN 1 ?_;refine sT ?_;refine wX ?_;refine wR ?_;refine wN 2 ?_;refine af (aY 68 9 z6 y9) ?_;refine wGq ?_ ?_ y6
    ·simp[htq,refs];omega
    exact ZB ⟨i+1,by omega,by omega,ZU w3 Q0 w3⟩
  ·rw[if_neg hij] at hs1;refine wFG ?_ (hb:=k6);have hin:=hci;generalize hkv:ci=kk at *;cases haw:kk.away with
   | true=>
    have hkk:bq g.u.s.tree kk=kk:=by unfold bq;rw[if_pos haw]
    refine wDF ?_ (hb:=Q7);refine wR ?_;refine wN 2 ?_;refine af (aY 68 9 z6 y9) ?_;refine wGq ?_ ?_ y6
    ·simp[htq,refs];omega
    exact ZB ⟨i+1,by omega,by omega,ZU w3 Q0 w3⟩
   | false=>
    have hkk:bq g.u.s.tree kk={ kk with cache:=kk.cache.filter λk=>!bN g.u.s.tree k }:=by unfold bq mH;rw[if_neg Q7]
    have hfr:=hfr0 kk.cache (hcc kk hin);refine wDT ?_ (hb:=Q7);refine wGS ?_;refine sN 4 ?_;refine sC ?_ func27 (hf:=hof);refine sC ?_ func39 (hf:=hfr);refine sN 1 ?_;refine sT ?_;refine wX ?_;refine wR ?_;refine wN 2 ?_;refine af (aY 68 9 z6 y9) ?_;refine wGq ?_ ?_ y6
    ·simp[htq,refs];omega
    exact ZB ⟨i+1,by omega,by omega,ZU w3 Q0 w3⟩
 ·obtain rfl:=eq1 hi h;have hl1:=hPl w.cs.length (W7 _);generalize P w.cs.length=Q at *;have htq:List.take Q.length (Q.map ZC)=Q.map ZC:=W1 w8;refine ZZ 68 rfl (im _) ?_;simp only[go_sem,htq];refine wGS ?_;refine sN 2 ?_;refine sT ?_;refine sT ?_;refine wX ?_;refine wGT ?_;rfl
theorem EK {B T:Nat} (w:Wor) (h:WInv B T w) (hB:B<=30000000) (hT:T<=800000000000) (x:Step) (hp:x.path.length<=10000000) (hq:x.toPath.length<=10000000):Fo 21 [.agg (aV w),.agg (ZX x)] (jW (au w x)):=by
 by_cases hb:x.client<0\/x.client≥w.cs.length
 ·exact Cg w h hB hT x hp hq hb
 ·exact EJ w h hB hT x hp hq hb
theorem vn:Fo 35 [] (.agg [.sl [[.int .i64 0,.bool true,.nils,.nils,.int .i64 0]],.int .i64 1,.nils]):=by
 refine wSG func35 ntmps35 results35 λC=>?_
 refine ZZ 2 rfl (rfl) (wn ?_);refine wT ?_;rfl
theorem ya:Fo 35 [] (.agg (ZQ ⟨[gS],1,[]⟩)):=aj.jb vn rfl
def p_:Wor:=⟨⟨[],0,[]⟩,[]⟩
def nY (rooms:List Int):AV:=.tup [.agg (aV (if bl rooms=0 then gr rooms else p_)),.int .i64 (bl rooms)]
theorem ui (rooms:List Int) (i:Nat):gq rooms (i+1)=gq rooms i++[oC (i:Int) (rooms.getD i 0)]:=by
 unfold gq;rw[List.range_succ,List.map_append];rfl
theorem wz (rooms:List Int) (i:Nat):(gq rooms i).length=i:=by unfold gq;simp
theorem kh (rooms:List Int) (hr:rooms.length<=100000000):Fo 18 [.sl (rooms.map ZI)] (nY rooms):=by
 have hns:=ya;unfold ZQ at hns;have hsu:=ui rooms;have hle:=wz rooms;have h0:gq rooms 0=[]:=rfl;have hW:nY rooms=.tup [.agg (aV (if bl rooms=0 then ⟨LH,gq rooms rooms.length⟩ else p_)),.int .i64 (bl rooms)]:=rfl;have hE:bl rooms=if rooms.length<1\/3<rooms.length then 5 else if rooms.all (λn=>decide (3<=n)&&decide (n<=24)) then 0 else 3:=rfl;rw[hW];generalize bl rooms=E at *;generalize gq rooms=P at *;clear hW;refine wS func18 ntmps18 results18 λC=>?_
 refine wR ?_;refine wN 2 ?_;refine wR ?_;refine wN 8 ?_;refine wNm 14 λc14 h14=>?_
 have hc:c14=true↔(rooms.length<1\/3<rooms.length):=by
  rw[<-h14]
  by_cases h1:rooms.length<1
  ·simp[h1];omega
  ·simp[h1];omega
 clear h14;refine wG ?_
 by_cases hb:rooms.length<1\/3<rooms.length
 ·rw[if_pos hb] at hE;subst hE;refine wTG ?_ (hb:=hc.2 hb);refine af (av 2) (wn ?_);refine wT ?_;rfl
 ·rw[if_neg hb] at hE;refine wFG ?_ (hb:=by simpa using λh0=>hb (hc.1 h0));refine wCg ?_ func35 (hf:=hns);refine af (le_empty 38 47 10 z7) (wn ?_);refine af (i_ 4 ([[.sl ([gS].map ZN),.int .i64 1,.sl [],.osl 38 10 0 0]]) z6 Qw) (wn ?_);refine ZL (λi:Nat=>i<=rooms.length/\(rooms.take i).all (λn=>decide (3<=n)&&decide (n<=24))=true) (λi=>rooms.length-i) (λi=>(5,.any)::(6,.any)::(20,.int .i64 i)::u0 21 21 [])
   (λi=>[(4,.cells 35 4 [[.sl ([gS].map ZN),.int .i64 1,.sl [],.osl 38 10 0 (P i).length]]),(38,.cells 47 10 ((P i).map ZC))]) 0 ⟨by omega,rfl⟩ ?_ λi hi=>?_
  ·rw[h0];exact wZ
  obtain ⟨hi,hall⟩:=hi;simp only[go_sem];refine wGD (λh=>?_) (λh=>?_)
  ·have hlt:=lt1 h;have hg:(rooms.map ZI).getD i []=[.int .i64 (rooms.getD i 0)]:=by
    rw[Xq,W2,Xq,Wz hlt];rfl
   have how':=wi1 (i:=i) z8;have hs1:=hsu i;have hl1:=hle i;have htk:rooms.take (i+1)=rooms.take i++[rooms.getD i 0]:=by
    rw[List.take_add_one,Xq,Wz hlt];rfl
   generalize hn:rooms.getD i 0=n at *;generalize P i=Q at *;have htq:List.take Q.length (Q.map ZC)=Q.map ZC:=W1 w8;refine wR ?_;refine wNq 5 ?_ ?_ z6 z6 u5
   ·simp[hg,hlt]
   refine wR ?_;refine wN 6 ?_;refine wNm 30 λc30 h30=>?_
   have hc3:c30=true↔¬(3<=n/\n<=24):=by
    rw[<-h30]
    by_cases h1:n<3
    ·simp[h1];omega
    ·simp[h1];omega
   clear h30;refine wG ?_
   by_cases hok:3<=n/\n<=24
   ·refine wDF ?_ (hb:=by simpa using λh0=>hc3.1 h0 hok);refine wR ?_;refine wN 5 ?_;refine af (xS 36 z6 WD) (wn ?_);refine af (aY 38 4 z6 y9) ?_;refine wGq ?_ ?_ y6
    ·simp[htq,refs]
     first | exact ⟨by intro row h;simp at h;subst h;rfl,by omega⟩ | omega
    refine ZB ⟨i+1,⟨by omega,by rw[htk,List.all_append,hall];simp[hok]⟩,by omega,ZU ?_ ?_ ?_⟩
    ·simp[go_sem]
    ·simp[go_sem,hs1,htq,ZC,oC]
    ·simp[go_sem]
   ·have hE3:E=3:=by
     rw[hE,if_neg];simp only[List.all_eq_true,Bool.and_eq_true,decide_eq_true_eq];intro hx;have:=hx n (by rw[<-hn,Xq,Wz hlt];exact YW _);exact hok this
    subst hE3;refine wTG ?_ (hb:=hc3.2 hok);refine af (av 2) (wn ?_);refine wT ?_;rfl
  ·obtain rfl:=eq1 hi h;rw[W4] at hall;rw[if_pos hall] at hE;subst hE;have hl1:=hle rooms.length;generalize P rooms.length=Q at *;have htq:List.take Q.length (Q.map ZC)=Q.map ZC:=W1 w8;refine wR ?_;refine ZZ 38 rfl (im _) ?_;simp only[go_sem,htq];refine wGT ?_;rfl
noncomputable def Bl (rooms:List Int) (l:List Step):Wor:=if bl rooms=0 then ll rooms l else p_
noncomputable def yM (rooms:List Int) (l:List Step) (i:Nat):Wor:=ll rooms (l.take i)
theorem DB {rooms:List Int} {l:List Step} {i:Nat} (h:i<l.length):yM rooms l (i+1)=(au (yM rooms l i) (l.getD i default)).w:=by
 unfold yM ll;rw[ZT h,List.foldl_append];rfl
theorem Fz {rooms:List Int} (h:bl rooms=0) (l:List Step) (i:Nat):WInv (20*l.length) (300*l.length) (yM rooms l i):=by
 have:=vD h (l.take i);rw[YA] at this;exact ⟨this.srv.mono z8,λc hc=>(this.cli c hc).mono z8 z8,this.len⟩
structure StepsOK (l:List Step):Prop where
 len:l.length<=1400000
 path:∀x,x∈l->x.path.length<=10000000/\x.toPath.length<=10000000
theorem Es (rooms:List Int) (hr:rooms.length<=100000000) (l:List Step) (hl:StepsOK l):Fo 31 [.sl (rooms.map ZI),.sl (l.map ZX)] (.agg (aV (Bl rooms l))):=by
 have hn:=kh rooms hr;have hll:=hl.len;unfold nY at hn;have hB0:Bl rooms l=if bl rooms=0 then yM rooms l l.length else p_:=by unfold Bl yM;rw[W4]
 have hinv:=λh i=>@Fz rooms h l i
 have hsu:=λi=>@DB rooms l i
 have hz:yM rooms l 0=gr rooms:=rfl;rw[hB0];generalize yM rooms l=F at *;rw[<-hz] at hn;clear hB0 hz;generalize bl rooms=E at *;generalize hW0:(if E=0 then F 0 else p_)=W0 at *;unfold aV at hn;refine wSG func31 ntmps31 results31 λC=>?_
 refine wCg ?_ func18 (hf:=hn)
 by_cases hE:E=0
 ·rw[if_pos hE] at hW0 ⊢;have hinv:=hinv hE;subst hW0;refine wFG ?_ (hb:=x6);refine wL l.length (λi=>(8,.any)::(9,.any)::(10,.any)::(21,.int .i64 i)::u0 22 12 [])
   (λi=>[(5,.cells 35 4 [aV (F i)])]) ?_ λi hi=>?_
  ·unfold aV;exact wZ
  unfold aV;simp only[go_sem];refine wGD (λh=>?_) (λh=>?_)
  ·have hlt:=lt1 h;have hg:=Fam.getD (f:=ZX) hlt;have how':=wi1 (i:=i) z8;have hpx:=hl.path (l.getD i default) (by rw[Xq,Wz hlt];exact YW _);have hw:=EK (F i) (hinv i) z8 z8 (l.getD i default) hpx.1 hpx.2;have hs1:=hsu i hlt;generalize l.getD i default=x at *;unfold jW aV ZX bc at hw;generalize au (F i) x=g at *;refine wR ?_;refine wNq 4 ?_ ?_ z6 z6 (by simp only[go_sem,hg,ZX];try exact rfl)
   ·simp[hg,ZX,hlt]
   refine wG ?_;refine wC ?_ func21 (hf:=hw);refine wG ?_ y6 u3;exact ZB ⟨i+1,by omega,by omega,ZU w3 Zz w3⟩
  ·obtain rfl:=eq1 hi h;refine wGT ?_;rfl
 ·rw[if_neg hE] at hW0 ⊢;subst hW0;refine wDT ?_ (hb:=x6);refine wGT ?_;rfl
theorem FA {rooms:List Int} (h:bl rooms=0) (l:List Step):WInv (20*l.length) (300*l.length) (Bl rooms l):=by
 unfold Bl;rw[if_pos h];exact vD h l
variable {Fa:Prop}
theorem oZ (d:List Hoard) (hd:d.length<=100000000):Fo 70 [.sl (d.map ZJ)] (.sl (d.map ZJ)):=by
 refine wSG func70 ntmps70 results70 λC=>?_
 refine mr tK rfl rfl rfl u1 u1 (λb hb=>?_);simp only[go_sem];refine wGD (λh=>?_) (λh=>?_)
 ·refine wG ?_;refine lr ⟨_,_,z7,by simp[go_sem],.sl [],.inr (.inr ⟨rfl,.inl rfl⟩),?_⟩;rw[hb h]
 ·refine wGq ?_ ?_
  ·simp;omega
  refine ZZ 7 rfl (eu _) (wn ?_);refine wT ?_;simp
structure SmallC (c:Cli):Prop where
 cache:SmallK c.cache
 log:SmallL c.log
 repair:SmallL c.repair
 hoards:c.hoards.length<=100000000
theorem CInvF.kB {B T:Nat} {s:Srv} {c:Cli} (h:CInvF Fa B T s c) (hB:B<=40000000):SmallC c where
 cache:=⟨by have:=h.len;have:=h.room;omega,λk hk=>⟨by have:=h.data k hk;omega,by have:=h.ent k hk;omega⟩⟩
 log:=⟨by have:=h.log;omega,λr hr=>by unfold Act.Small;have:=(h.logS r hr).data;omega⟩
 repair:=⟨by have:=h.rep;omega,λr hr=>by unfold Act.Small;have:=(h.repS r hr).data;omega⟩
 hoards:=by have:=h.hoards;omega
theorem xx (c:Cli) (h:SmallC c):Fo 41 [.agg (ZC c)] (.agg (ZC c)):=by
 have h1:=sA c.cache h.cache;have h2:=kQ c.log h.log;have h3:=kQ c.repair h.repair;have h4:=oZ c.hoards h.hoards;unfold ZC;refine wS func41 ntmps41 results41 λC=>?_
 refine wGS ?_;refine sN 2 ?_;refine sC ?_ func68 (hf:=h1);refine sN 2 ?_;refine sC ?_ func69 (hf:=h2);refine sN 2 ?_;refine sC ?_ func69 (hf:=h3);refine sN 2 ?_;refine sC ?_ func70 (hf:=h4);refine sN 1 ?_;refine sT ?_;refine sN 1 ?_;refine sT ?_;refine sN 1 ?_;refine sT ?_;refine sN 1 ?_;refine sT ?_;refine wX ?_;refine wGT ?_;rfl
theorem B9 {p:List Past} {t:List Node} (h:Hist p t) (hlen:p.length<=90000000):Fo 83 [.sl (p.map ZP)] (.tup [.sl (t.map ZN),.int .i64 0]):=by
 obtain ⟨st,h0,h1,h2⟩:=h.st;rw[<-h1];exact Ey p st hlen h0 h2
structure RightC (t:List Node) (c:Cli):Prop where
 room:(c.cache.length:Int)<=c.room
 log:c.away=false->c.log=[]
 here:c.away=false->∀k,k∈c.cache->k.dirty=false/\k.node∈t
 small:SmallC c
theorem G2 {p:List Past} {t:List Node} (h:Hist p t) (hlen:p.length<=90000000) (n:Int) (cs:List Cli) (hcl:cs.length<=1000) (hc:∀c,c∈cs->RightC t c) :
  Fo 44 [.agg (aV ⟨⟨t,n,p⟩,cs⟩)] (.bool true):=by
 have h1:=B9 h hlen;have hts:=h.bR.small;have h2:=kn t t hts hts;rw[uE] at h2;have hup:=h.bR.up;unfold aV;refine wSG func44 ntmps44 results44 λC=>?_
 refine wCg ?_ func83 (hf:=h1);refine wCC ?_ func84 (hf:=λhb=>(h2));refine nt ?_ (hb:=rfl);refine wL cs.length (λi=>(6,.any)::(8,.any)::(9,.any)::(10,.any)::(31,.int .i64 i)::u0 32 68 []) (λ_=>[]) ?_ λi hi=>?_
 ·exact wZ
 simp only[go_sem];refine wGD (λh=>?_) (λh=>?_)
 ·have hlt:=lt1 h;have hg:=Fam.getD (f:=ZC) hlt;have how':=wi1 (i:=i) z8;have hci:=hc (cs.getD i default) (YG hlt);generalize cs.getD i default=c at *;have hown:=xx c hci.small;have hroom:=hci.room;have hklen:=hci.small.cache.len;refine wR ?_;refine wNq 4 ?_ ?_ z6 z6 p9
  ·simp[hg,ZC,hlt]
  refine wR ?_;refine wN 7 ?_;refine wNm 41 λc41 h41=>?_
  have hc41:c41=false:=by rw[<-h41];simp;omega
  subst hc41;clear h41;unfold ZC at hown;cases haw:c.away with
  | true=>
   rw[haw] at hown;refine nt ?_ (hb:=rfl);refine wCg ?_ func41 (hf:=hown);refine wL c.cache.length (λq=>(8,.any)::(9,.any)::(10,.any)::(56,.int .i64 q)::u0 57 42 []) (λ_=>[]) ?_ λq hq=>?_
   ·exact wZ
   simp only[go_sem];refine wGD (λh=>?_) (λh=>?_)
   ·have hltq:=lt1 h;have hgq:=Fam.getD (f:=ZK) hltq;have howq:IntKind.i64.wrap ((q:Int)+1)=((q+1:Nat):Int):=by rw[Eng.wrap_small z8 z8];rfl
    generalize c.cache.getD q default=k at *;have hfd:=dM t k.node.fid hts;unfold fT at hfd;refine wGq ?_ ?_ (by simp only[go_sem,hgq,ZK];try exact rfl)
    ·simp[hgq,ZK,hltq]
    refine wC ?_ func82 (hf:=hfd);refine wGq ?_ ?_ (by simp only[go_sem,ZN,howq];try exact rfl)
    ·simp[ZN]
    refine fF (.bool false) rfl ?_;simp only[go_sem];refine wG ?_;refine wDF ?_ (hb:=rfl);refine wG ?_ (by simp only[go_sem,howq];try exact rfl) (by simp[go_sem,howq]);exact ZB ⟨q+1,by omega,by omega,ZU w3 w3 w3⟩
   ·refine wG ?_ y6 u3;exact ZB ⟨i+1,by omega,by omega,ZU w3 w3 w3⟩
  | false=>
   have hlog:=hci.log haw;have hhere:=hci.here haw;rw[haw] at hown;rw[hlog] at hown ⊢;refine nt ?_ (hb:=rfl);refine wCg ?_ func41 (hf:=hown);refine wL c.cache.length (λq=>(8,.any)::(9,.any)::(10,.any)::(56,.int .i64 q)::u0 57 42 []) (λ_=>[]) ?_ λq hq=>?_
   ·exact wZ
   simp only[go_sem];refine wGD (λh=>?_) (λh=>?_)
   ·have hltq:=lt1 h;have hgq:=Fam.getD (f:=ZK) hltq;have howq:IntKind.i64.wrap ((q:Int)+1)=((q+1:Nat):Int):=by rw[Eng.wrap_small z8 z8];rfl
    have hkm:c.cache.getD q default∈c.cache:=YG hltq;generalize c.cache.getD q default=k at *;obtain ⟨hkd,hkt⟩:=hhere k hkm;have hks:=hts.each k.node hkt;have hfk:ak t k.node.fid=some k.node:=(ZO hup).2 ⟨hkt,rfl⟩;have hat:bf t k.node.fid=true:=by
     cases e:bf t k.node.fid with
     | true=>rfl
     | false=>rw[tJ e] at hfk;cases hfk
    have hfd:=dM t k.node.fid hts;unfold fT at hfd;rw[hfk,hat] at hfd;simp only[Option.getD_some] at hfd;have hsn:=kn [k.node] [k.node] (dE hks) (dE hks);rw[uE] at hsn;simp only[List.map_cons,List.map_nil] at hsn;unfold ZN at hsn;refine wGq ?_ ?_ (by simp only[go_sem,hgq,ZK];try exact rfl)
    ·simp[hgq,ZK,hltq]
    refine wC ?_ func82 (hf:=hfd);refine wNq 6 ?_ ?_ z6 z6 w5
    ·simp[ZN]
    refine wR ?_;refine wN 4 ?_;refine wN 4 ?_ z6 z6 y8 k7;refine wN 4 ?_ z6 z6 y8 k7;refine wN 5 ?_ z6 z6 y8 k7;refine wN 1 ?_ z6 z6 y8 k7;refine wN 1 ?_ z6 z6 y8 k7;refine wN 1 ?_ z6 z6 y8 k7;refine wN 1 ?_ z6 z6 y8 k7;refine wN 1 ?_ z6 z6 y8 k7;refine wN 1 ?_ z6 z6 y8 k7;refine wN 1 ?_ z6 z6 y8 k7;refine ZZ 90 rfl (rfl) ?_;refine ZZ 93 rfl (rfl) (wn ?_);refine wCC ?_ func84 (hf:=λhb=>(hsn));refine wG ?_;refine wDF ?_ (hb:=by simp[hkd]);refine wG ?_ (by simp only[go_sem,howq];try exact rfl) (by simp[go_sem,howq]);exact ZB ⟨q+1,by omega,by omega,ZU w3 w3 w3⟩
   ·refine wG ?_ y6 u3;exact ZB ⟨i+1,by omega,by omega,ZU w3 w3 w3⟩
 ·refine wGT ?_;rfl
theorem qf (id:Nat) (x:Cli):∀y,y∈ZC x->¬id∈refs y:=λy hy=>by
 have:=List.all_eq_true.1 (List.all_eq_true.1 (xt id [x]) (ZC x) w8) y hy;simpa using this
def aq (f:Fate):List AV:=[.int .i64 f.step,.int .i64 f.client,.int .i64 f.kind,.int .i64 f.whr]
def cc (k:Nat):List AV:=[.int .i64 k]
def aS (l:List Nat):List AV:=[.sl (l.map cc)]
theorem mD:Fam aq 4:=⟨λ_=>rfl,λ_=>rfl,λ_=>rfl,λ_=>rfl⟩
@[go_sem,simp] theorem xF (l:List _):((l.map aq).all λrow=>row.all AV.aW)=true:=mD.eJ l
@[go_sem,simp] theorem vl (id:Nat) (l:List _):((l.map aq).all λrow=>row.all λx=>!(refs x).contains id)=true:=mD.jJ id l
@[go_sem,simp] theorem HC (e s:Nat) (l:List _):ay (.cells e s (l.map aq))=[]:=mD.ay e s l
@[go_sem,simp] theorem IN (id s:Nat) (rows:List (List AV)) (l:List _):(l.map aq).map (dq id s rows)=l.map aq:=Fam.dq (λ_ _ _ _=>rfl) id s rows l
theorem tF (id:Nat) (x:_):∀y,y∈aq x->¬id∈refs y:=λy hy=>by
 have:=List.all_eq_true.1 (List.all_eq_true.1 (vl id [x]) (aq x) w8) y hy;simpa using this
theorem oo:Fam cc 1:=⟨λ_=>rfl,λ_=>rfl,λ_=>rfl,λ_=>rfl⟩
@[go_sem,simp] theorem Ag (l:List _):((l.map cc).all λrow=>row.all AV.aW)=true:=oo.eJ l
@[go_sem,simp] theorem x' (id:Nat) (l:List _):((l.map cc).all λrow=>row.all λx=>!(refs x).contains id)=true:=oo.jJ id l
@[go_sem,simp] theorem Jk (e s:Nat) (l:List _):ay (.cells e s (l.map cc))=[]:=oo.ay e s l
@[go_sem,simp] theorem K1 (id s:Nat) (rows:List (List AV)) (l:List _):(l.map cc).map (dq id s rows)=l.map cc:=Fam.dq (λ_ _ _ _=>rfl) id s rows l
theorem Ei (id:Nat) (x:_):∀y,y∈cc x->¬id∈refs y:=λy hy=>by
 have:=List.all_eq_true.1 (List.all_eq_true.1 (x' id [x]) (cc x) w8) y hy;simpa using this
theorem om:Fam aS 1:=⟨λ_=>rfl,λ_=>rfl,λ_=>rfl,λ_=>rfl⟩
@[go_sem,simp] theorem Jb (id:Nat) (l:List _):((l.map aS).all λrow=>row.all λx=>!(refs x).contains id)=true:=om.jJ id l
@[go_sem,simp] theorem Jc (e s:Nat) (l:List _):ay (.cells e s (l.map aS))=[]:=om.ay e s l
@[go_sem,simp] theorem zX (id s:Nat) (rows:List (List AV)) (l:List _):(l.map aS).map (dq id s rows)=l.map aS:=Fam.dq (λ_ _ _ _=>rfl) id s rows l
@[go_sem,simp] theorem xU (a):aB (aS a)=[]:=om.free a
def bkB (b:Bk):List (Nat×Blk):=[(30,.cells 40 1 (b.logs.map aS)),(901,.cells 76 4 (b.fates.map aq)),(32,.cells 103 2 [[.osl 901 4 0 b.fates.length,.osl 30 1 0 b.logs.length]])]
def bkH (b:Bk) (G Y N:Nat->Nat):List (Nat×Blk):=bkB b++pins [32] G Y N
def nV (step:Int) (ps:List Past) (fs:List Fate) (i:Nat):List Fate:=fs++(ps.take i).map λp=>(⟨step,p.client,p.act.kind,1⟩:Fate)
theorem DS {step:Int} {ps:List Past} {fs:List Fate} {i:Nat} (h:i<=ps.length):(nV step ps fs i).length=fs.length+i:=by unfold nV;simp;omega
theorem Bz {step:Int} {ps:List Past} {fs:List Fate} {i:Nat} (h:i<ps.length):nV step ps fs (i+1)=nV step ps fs i++[⟨step,(ps.getD i default).client,(ps.getD i default).act.kind,1⟩]:=by
 unfold nV;rw[ZT h,List.map_append,List.append_assoc];rfl
theorem D8 (b:Bk) (step:Int) (ps:List Past) (hp:ps.length<=100000000) (hb:b.fates.length<=100000000) (G Y N:Nat->Nat):aj prog 48 [.ptr 32 2 0 0,.int .i64 step,.sl (ps.map ZP)] (bkH b G Y N) (λr H=>r=.tup []/\Holds (bkH (jD step ps b) G Y N) H):=by
 obtain ⟨fs,lg⟩:=b;simp only at hb;have hE:jD step ps ⟨fs,lg⟩=⟨nV step ps fs ps.length,lg⟩:=by unfold jD nV;rw[W4]
 have hW0:nV step ps fs 0=fs:=by unfold nV;simp
 have hWl:=λi=>@DS step ps fs i
 have hWs:=λi=>@Bz step ps fs i
 rw[hE];generalize nV step ps fs=W at *;unfold bkH bkB;refine wSG func48 ntmps48 results48 λC=>?_
 refine af (mO 901 27 32 z6 z7 z7 z6 j0 j0 rfl z7 j6 j6) ?_;refine wL ps.length (λi=>(7,.any)::(10,.int .i64 i)::u0 11 20 [])
  (λi=>[(27,.cells 76 4 ((W i).map aq)),(32,.cells 103 2 [[.osl 27 4 0 (W i).length,.osl 30 1 0 lg.length]])]) ?_ λi hi=>?_
 ·rw[hW0];exact wZ
 simp only[go_sem];refine wGD (λh=>?_) (λh=>?_)
 ·have hlt:=lt1 h;have how':=wi1 (i:=i) z8;have hg:=Fam.getD (f:=ZP) hlt;have hl1:=hWl i hi;have hs1:=hWs i hlt;generalize ps.getD i default=p at *;generalize W i=Q at *;have htq:List.take Q.length (Q.map aq)=Q.map aq:=W1 w8;refine wGq ?_ ?_ Zn
  ·simp[hg,ZP,hlt]
  refine ZW ZM ?_;refine iq 0 [1,2,3,4,5,6,7,8,9,10,11,12,13,14,15,16] [0,0,1,2,3,4,5,6,7,8,9,10,11,12,13,14,15] rfl rfl rfl (λ_ _ _ h=>h) w9 w9 v8 z7 ?_
  try simp only[go_sem,gA,gB,gC]
  refine ZS rfl ?_;refine sN 10 ?_;refine sB ?_;refine sW ?_;refine sE ?_;refine iX (aY 27 32 z6 y9) ?_;simp only[go_sem];refine dSq ?_ ?_
  ·simp[go_sem,rowsOf,htq,refs];exact ⟨by omega,λx _=>tF _ x⟩
  simp only[go_sem];refine dS ?_;refine dS ?_;refine dS ?_;refine wKn ?_;refine wG ?_ y6 u3;exact ZB ⟨i+1,by omega,by omega,ZU w3 (by simp[go_sem,hs1,htq,aq]) w3⟩
 ·obtain rfl:=eq1 hi h;refine wG ?_;refine af (mO 27 901 32 z6 z7 z7 z6 j0 j0 rfl z7 j6 j6) ?_;refine iE ⟨_,_,rfl,trivial,.tup [],.inr (.inl rfl),rfl,?_⟩;exact q9
theorem ta:∀(l:List Nat) (vs:List Verdict) (fs:List Fate) (k:Nat) (v:Verdict),l.length=vs.length->cJ (l++[k]) (vs++[v]) fs=fC (cJ l vs fs) k (if v.err=0 then 1 else 3)
 | [],[],fs,k,v,_=>rfl
 | j::l,u::vs,fs,k,v,h=>by
  simp only[List.cons_append,cJ];exact ta l vs _ k v x7
theorem uI (fs:List Fate) (k:Nat) (w:Int):(fC fs k w).length=fs.length:=by unfold fC;rw[YN]
theorem qb:∀(l:List Nat) (vs:List Verdict) (fs:List Fate),(cJ l vs fs).length=fs.length
 | [],_,fs=>by cases ‹List Verdict›<;>rfl
 | k::l,[],fs=>rfl
 | k::l,v::vs,fs=>by unfold cJ;rw[qb l vs,uI]
theorem iY (fs:List Fate) (k:Nat) (w:Int):(fC fs k w).map aq=(fs.map aq).set k [.int .i64 (fs.getD k default).step,.int .i64 (fs.getD k default).client,.int .i64 (fs.getD k default).kind,.int .i64 w]:=by
 unfold fC;rw[List.map_set];rfl
theorem ES (fs:List Fate) (k:Nat) (u w:Int) (hk:k<fs.length):fC (fC fs k u) k w=fC fs k w:=by
 unfold fC;rw[List.set_set,Xq,List.getElem?_set_self hk];rfl
def vc (ks:List Nat) (vs:List Verdict) (fs:List Fate) (i:Nat):List Fate:=cJ (ks.take i) (vs.take i) fs
theorem DA {ks:List Nat} {vs:List Verdict} {fs:List Fate} {i:Nat} (h:i<vs.length) (hk:vs.length<=ks.length):vc ks vs fs (i+1)=fC (vc ks vs fs i) (ks.getD i 0) (if (vs.getD i default).err=0 then 1 else 3):=by
 unfold vc;have e:ks.take (i+1)=ks.take i++[ks.getD i 0]:=by
  rw[List.take_add_one,Xq,Wz z8];rfl
 rw[e,ZT h,ta _ _ _ _ _ k6]
theorem tc:∀(ks:List Nat) (vs:List Verdict) (fs:List Fate),cJ (ks.take vs.length) vs fs=cJ ks vs fs
 | [],vs,fs=>by rw[List.take_nil]
 | k::ks,[],fs=>rfl
 | k::ks,v::vs,fs=>by
  show cJ (ks.take vs.length) vs _=cJ ks vs _
  exact tc ks vs _
theorem Fy (ks:List Nat) (vs:List Verdict) (fs:List Fate):vc ks vs fs vs.length=cJ ks vs fs:=by
 unfold vc;rw[W4];exact tc ks vs fs
theorem zZ (l:List (List Nat)):(l.map aS).map (λrow=>row.map qL)=l.map aS:=by
 rw[Yf];exact Yj λx _=>by simp[aS,qL]
theorem Gn (b:Bk) (c:Nat) (vs:List Verdict) (hc:c<b.logs.length) (hl:b.logs.length<=100000000) (hv:vs.length<=(b.logs.getD c []).length) (hv2:vs.length<=100000000) (hk:∀k,k∈b.logs.getD c []->k<b.fates.length) (hb:b.fates.length<=100000000) (G Y N:Nat->Nat) :
  aj prog 46 [.ptr 32 2 0 0,.int .i64 c,.sl (vs.map ZV)] (bkH b G Y N) (λr H=>r=.tup []/\Holds (bkH (rh c vs b) G Y N) H):=by
 obtain ⟨fs,lg⟩:=b;simp only at hc hl hv hk hb;have hE:rh c vs ⟨fs,lg⟩=⟨vc (lg.getD c []) vs fs vs.length,lg.set c []⟩:=by rw[Fy];rfl
 have hgl:(lg.map aS).getD c []=aS (lg.getD c []):=by
  rw[Xq,W2,Xq,Wz hc];rfl
 rw[hE];have hsl:(lg.set c []).map aS=(lg.map aS).set c [.sl []]:=by rw[List.map_set];rfl
 have hll:(lg.set c []).length=lg.length:=YN;generalize lg.set c []=lg2 at *;generalize lg.getD c []=ks at *;have hW0:vc ks vs fs 0=fs:=by unfold vc;rw[List.take_zero,List.take_zero];rfl
 have hWl:∀i,(vc ks vs fs i).length=fs.length:=λi=>qb _ _ _
 have hWs:=λi=>@DA ks vs fs i
 generalize vc ks vs fs=W at *;unfold bkH bkB;refine wSG func46 ntmps46 results46 λC=>?_
 refine wL vs.length (λi=>(6,.any)::(7,.any)::(10,.int .i64 i)::u0 11 40 [])
  (λi=>[(901,.cells 76 4 ((W i).map aq))]) ?_ λi hi=>?_
 ·rw[hW0];exact wZ
 simp only[go_sem];refine wGD (λh=>?_) (λh=>?_)
 ·have hlt:=lt1 h;have how':=wi1 (i:=i) z8;have hg:=Fam.getD (f:=ZV) hlt;have hWl0:=hWl i;have hWs1:=hWs i hlt hv;have hgk:(ks.map cc).getD i []=cc (ks.getD i 0):=by
   rw[Xq,W2,Xq,Wz z8];rfl
  have hkk:ks.getD i 0<fs.length:=hk _ (by rw[Xq,Wz z8];exact YW _);have hki:i<ks.length:=by omega
  generalize ks.getD i 0=k at *;generalize vs.getD i default=v at *;generalize W i=F at *;have hgf:(F.map aq).getD k []=aq (F.getD k default):=Fam.getD z8;have hs1:=iY F k 1;have hs3:=iY F k 3;have hlen1:=uI F k 1;have hkF:k<F.length:=by omega
  generalize F.getD k default=f at *;refine wGq ?_ ?_ Zm
  ·simp[hg,ZV,hlt]
  refine wO ?_;refine sNq 16 ?_ ?_ z6 z6 Z6
  ·simp[hgl,hgk,hgf,aS,cc,aq,hc,hki,hkF,hkk,hWl0]
  refine ey tK rfl rfl z7 z7 z7 p7 z6 ?_ z6 z6 z6 ?_
  ·simp[hgl,hgk,hgf,aS,cc,aq,hc,hki,hkF,hkk,hWl0]
  refine wX ?_;simp only[go_sem,hgf,aq,List.set_cons_succ,List.set_cons_zero,<-hs1];refine wG ?_
  by_cases he:v.err=0
  ·rw[if_pos he] at hWs1;refine wDF ?_ (hb:=QE);refine wG ?_ y6 u3;exact ZB ⟨i+1,by omega,by omega,ZU w3 (by simp[go_sem,hWs1]) w3⟩
  ·rw[if_neg he] at hWs1;have h33:=ES F k 1 3 hkF;generalize fC F k 1=F1 at *;have hkF1:k<F1.length:=by omega
   have hgf1:(F1.map aq).getD k []=aq (F1.getD k default):=Fam.getD z8;have hs31:=iY F1 k 3;rw[h33] at hs31;generalize F1.getD k default=f1 at *;refine wDT ?_ (hb:=QE);refine wGS ?_;refine sNq 16 ?_ ?_ z6 z6 (by simp only[go_sem,hgl,hgk,hgf1,aS,cc,aq];try exact rfl)
   ·simp[hgl,hgk,hgf1,aS,cc,aq,hc,hki,hkF1,hkk,hlen1,hWl0]
   refine ey tK rfl rfl z7 z7 z7 p7 z6 ?_ z6 z6 z6 ?_
   ·simp[hgl,hgk,hgf1,aS,cc,aq,hc,hki,hkF1,hkk,hlen1,hWl0]
   refine wX ?_;simp only[go_sem,hgf1,aq,List.set_cons_succ,List.set_cons_zero,<-hs31];refine wG ?_ y6 u3;exact ZB ⟨i+1,by omega,by omega,ZU w3 (by simp[go_sem,hWs1]) w3⟩
 ·obtain rfl:=eq1 hi h;refine wGq ?_ ?_ (by simp only[go_sem,hgl,aS];try exact rfl)
  ·simp[hc]
  refine af (av 30 z6 rfl) ?_;simp only[go_sem,List.map_set,zZ,List.map_cons,List.map_nil,List.set_cons_zero,qL,<-hsl];refine iE ⟨_,_,rfl,trivial,.tup [],.inr (.inl rfl),rfl,?_⟩;rw[hll,hWl];exact q9
end La
namespace La
open Go Go.Eng
theorem tz (now:List Rec):∀(l:List Nat) (rs:List Rec) (fs:List Fate) (k:Nat) (r:Rec),l.length=rs.length->cw now (l++[k]) (rs++[r]) fs=if (now.any λx=>x.id==r.id)=true then cw now l rs fs else fC (cw now l rs fs) k 4
 | [],[],fs,k,r,_=>rfl
 | j::l,u::rs,fs,k,r,h=>by
  simp only[List.cons_append,cw];exact tz now l rs _ k r x7
theorem qi (now:List Rec):∀(l:List Nat) (rs:List Rec) (fs:List Fate),(cw now l rs fs).length=fs.length
 | [],_,fs=>by cases ‹List Rec›<;>rfl
 | k::l,[],fs=>rfl
 | k::l,r::rs,fs=>by
  unfold cw;rw[qi now l rs];split
  ·rfl
  ·exact uI _ _ _
def vg (now:List Rec) (ks:List Nat) (rs:List Rec) (fs:List Fate) (i:Nat):List Fate:=cw now (ks.take i) (rs.take i) fs
theorem FV (now:List Rec) (ks:List Nat) (rs:List Rec) (fs:List Fate) (i:Nat):(vg now ks rs fs i).length=fs.length:=qi _ _ _ _
theorem DJ {now:List Rec} {ks:List Nat} {rs:List Rec} {fs:List Fate} {i:Nat} (h:i<rs.length) (hk:rs.length<=ks.length):vg now ks rs fs (i+1)=if (now.any λx=>x.id==(rs.getD i default).id)=true then vg now ks rs fs i else fC (vg now ks rs fs i) (ks.getD i 0) 4:=by
 unfold vg;have e:ks.take (i+1)=ks.take i++[ks.getD i 0]:=by
  rw[List.take_add_one,Xq,Wz z8];rfl
 rw[e,ZT h,tz _ _ _ _ _ _ k6]
theorem FU {now:List Rec} {ks:List Nat} {rs:List Rec} {fs:List Fate} (hk:ks.length=rs.length):vg now ks rs fs rs.length=cw now ks rs fs:=by
 unfold vg;rw[W4,W1 z8]
theorem Ej (step c:Int) (n:Nat):fo step c (n+1)=fo step c n++[⟨step,c,4,4⟩]:=by
 unfold fo;rw[List.replicate_succ',]
theorem Ah (step c:Int) (n:Nat):(fo step c n).length=n:=by unfold fo;exact Yr
def Jq (was:Cli) (ks:List Nat) (n:Nat) (r:Rec) (fs:List Fate):List Fate:=fs.set (dD was ks n r.id) { fs.getD (dD was ks n r.id) default with kind:=r.act.kind,whr:=2 }
theorem wA (was:Cli) (ks:List Nat) (n:Nat):∀(l:List Rec) (r:Rec) (fs:List Fate),iA was ks n (l++[r]) fs=Jq was ks n r (iA was ks n l fs)
 | [],r,fs=>rfl
 | x::l,r,fs=>by
  simp only[List.cons_append,iA];exact wA was ks n l r _
theorem uo (was:Cli) (ks:List Nat) (n:Nat):∀(l:List Rec) (fs:List Fate),(iA was ks n l fs).length=fs.length
 | [],fs=>rfl
 | x::l,fs=>by
  unfold iA;rw[uo was ks n l,YN]
theorem IW {was now:Cli} (hw:IdI was) (hs:LS was now) {ks:List Nat} (hks:ks.length=was.log.length) {n:Nat} (hk:∀k,k∈ks->k<n) {r:Rec} (hr:r∈now.log):dD was ks n r.id<n+(now.logged-was.logged).toNat:=by
 have hle:=hs.le;unfold dD
 rcases hs.from_ r hr with ⟨q,hq,hqi⟩ | ⟨h1,h2⟩
 ·have hb:=hw.bnd q hq;rw[hqi] at hb;cases e:was.log.findIdx? (λx=>x.id==r.id) with
  | none=>
   rw[YL] at e;exact absurd (e q hq) (by simp[hqi])
  | some i=>
   obtain ⟨hi,_,_⟩:=YK.1 e;simp only;rw[if_neg z8];have:=hk (ks.getD i 0) (by rw[Xq,Wz z8];exact YW _);omega
 ·cases e:was.log.findIdx? (λx=>x.id==r.id) with
  | none=>simp only;omega
  | some i=>
   simp only;rw[if_pos h1];omega
end La
namespace La
open Go Go.Eng Go.Proofs Go.Proofs.Tryz
theorem qF:∀l:List AV,nQ l l
 | []=>trivial
 | x::l=>⟨.inr (.inl rfl),qF l⟩
theorem pw:∀l:List (List AV),fk l l
 | []=>trivial
 | x::l=>⟨qF x,pw l⟩
theorem rE {a b:List AV} (h:nQ a b):∀(l:List (List AV)) (c:Nat),fk (l.set c a) (l.set c b)
 | [],_=>trivial
 | x::l,0=>⟨h,pw l⟩
 | x::l,c+1=>⟨qF x,rE h l c⟩
def nwF (step c:Int) (D:List Fate) (j:Nat):List Fate:=D++fo step c j
theorem GL (step c:Int) (D:List Fate):nwF step c D 0=D:=by unfold nwF fo;simp
theorem GK (step c:Int) (D:List Fate) (j:Nat):nwF step c D (j+1)=nwF step c D j++[⟨step,c,4,4⟩]:=by unfold nwF;rw[Ej,List.append_assoc]
theorem Jp (step c:Int) (D:List Fate) (j:Nat):(nwF step c D j).length=D.length+j:=by unfold nwF;rw[List.length_append,Ah]
theorem zY (id:Nat) (l:List (List Nat)):(l.map aS).map (λrow=>row.map (kill id))=l.map aS:=by
 rw[Yf];exact Yj λx _=>by simp[aS,kill,refs]
theorem D_ (p q:Nat) (l:List (List Nat)):(l.map aS).map (λrow=>row.map (mv1 p q))=l.map aS:=by
 rw[Yf];exact Yj λx _=>by simp[aS,mv1,kill,refs]
theorem mQ {l:List (List Nat)} {c id n e s x:Nat} (h:x∈ay (.cells e s ((l.map aS).set c [.osl id 1 0 n]))):x=id:=by
 simp only[ay,List.mem_flatMap] at h;obtain ⟨row,hr,hx⟩:=h
 rcases Yg hr with hr | rfl
 ·obtain ⟨y,_,rfl⟩:=W5.1 hr;rw[xU] at hx;cases hx
 ·simpa[aB,refs] using hx
def lgF (was:Cli) (ks:List Nat) (n:Nat) (l:List Rec) (E:List Fate) (i:Nat):List Fate:=iA was ks n (l.take i) E
theorem Gt {was:Cli} {ks:List Nat} {n:Nat} {l:List Rec} {E:List Fate} {i:Nat} (h:i<l.length):lgF was ks n l E (i+1)=Jq was ks n (l.getD i default) (lgF was ks n l E i):=by
 unfold lgF;rw[ZT h,wA]
theorem I' (was:Cli) (ks:List Nat) (n:Nat) (l:List Rec) (E:List Fate) (i:Nat):(lgF was ks n l E i).length=E.length:=uo _ _ _ _ _
def lgK (was:Cli) (ks:List Nat) (n:Nat) (l:List Rec) (i:Nat):List Nat:=(l.take i).map λr=>dD was ks n r.id
theorem Gu {was:Cli} {ks:List Nat} {n:Nat} {l:List Rec} {i:Nat} (h:i<l.length):lgK was ks n l (i+1)=lgK was ks n l i++[dD was ks n (l.getD i default).id]:=by
 unfold lgK;rw[ZT h,List.map_append];rfl
theorem Ja {was:Cli} {ks:List Nat} {n:Nat} {l:List Rec} {i:Nat} (h:i<=l.length):(lgK was ks n l i).length=i:=by unfold lgK;simp;omega
theorem BP (b:Bk) (step:Int) (c:Nat) (was now:Cli) (hcn:was.number=c) (hc:c<b.logs.length) (hll:b.logs.length<=100000000) (hks:(b.logs.getD c []).length=was.log.length) (hk:∀k,k∈b.logs.getD c []->k<b.fates.length) (hb:b.fates.length<=10000000)
  (hI:IdI was) (hS:LS was now) (hwl:was.log.length<=100000000) (hnl:now.log.length<=100000000) (hng:now.logged<=10000000) (G Y N:Nat->Nat) :
  aj prog 47 [.ptr 32 2 0 0,.int .i64 step,.rp (ZC was) 0,.rp (ZC now) 0] (bkH b G Y N) (λr H=>r=.tup []/\Holds (bkH (bT step c was now b) G Y N) H):=by
 obtain ⟨fs,lg⟩:=b;simp only at hc hll hks hk hb;have hgl:(lg.map aS).getD c []=aS (lg.getD c []):=by
  rw[Xq,W2,Xq,Wz hc];rfl
 have hle:=hS.le;have hpos:=hI.pos;have hM0:BZ now.log 0=[]:=rfl;have hMs:=λi=>@El now.log i
 have hMa:=GI now.log;generalize hMM:BZ now.log=M at *;have hH0:zt was.log (lg.getD c []) 0=[]:=rfl;have hHs:∀i,zt was.log (lg.getD c []) (i+1)=aU (zt was.log (lg.getD c []) i) (was.log.getD i default).id ((lg.getD c []).getD i 0:Nat):=λi=>rfl
 have hHad:=λ(r:Rec) (hr:r∈now.log)=>GF hI hS (lg.getD c []) fs.length hr
 unfold bkH bkB ZC;rw[hcn];refine wSG func47 ntmps47 results47 λC=>?_
 refine wL now.log.length (λi=>(11,.any)::(29,.int .i64 i)::u0 30 7 [])
  (λi=>[(23,.map (mB (M i)))]) ?_ λi hi=>?_
 ·rw[hM0];simp only[go_sem];exact ZU w3 (by simp[go_sem,mB]) w3
 simp only[go_sem];refine wGD (λh=>?_) (λh=>?_)
 ·have hlt:=lt1 h;have how':=wi1 (i:=i) z8;have hg:=Fam.getD (f:=ZR) hlt;have hMs1:=hMs i hlt;generalize now.log.getD i default=r at *;generalize M i=m at *;refine wGq ?_ ?_ (by simp only[go_sem,hg,ZR,how'];try exact rfl)
  ·simp[hg,ZR,hlt]
  exact ZB ⟨i+1,by omega,by omega,ZU w3 (by simp[go_sem,hMs1]) w3⟩
 ·obtain rfl:=eq1 hi h;refine wG ?_;generalize hks0:lg.getD c []=ks at *;generalize hHH:zt was.log ks=HM at *;have hF0:vg now.log ks was.log fs 0=fs:=by unfold vg;rw[List.take_zero,List.take_zero];rfl
  have hFl:=FV now.log ks was.log fs;have hFs:=λi (h:i<was.log.length)=>DJ (now:=now.log) (fs:=fs) h (show was.log.length<=ks.length by omega)
  have hFa:=FU (now:=now.log) (fs:=fs) hks;generalize vg now.log ks was.log fs=F at *;refine wL was.log.length (λi=>(11,.any)::u0 19 4 (u0 24 13 ((13,.any)::(14,.any)::(43,.int .i64 i)::u0 44 39 [])))
   (λi=>[(37,.map (mI (HM i))),(901,.cells 76 4 ((F i).map aq))]) ?_ λi hi=>?_
  ·rw[hH0,hF0];simp only[go_sem];exact ZU w3 (by simp[go_sem,mI]) w3
  simp only[go_sem];refine wGD (λh=>?_) (λh=>?_)
  ·have hlt:=lt1 h;have how':=wi1 (i:=i) z8;have hg:=Fam.getD (f:=ZR) hlt;have hHs1:=hHs i;have hFs1:=hFs i hlt;have hFl0:=hFl i;have hgk:(ks.map cc).getD i []=cc (ks.getD i 0):=by
    rw[Xq,W2,Xq,Wz z8];rfl
   have hkk:ks.getD i 0<fs.length:=hk _ (by rw[Xq,Wz z8];exact YW _);have hki:i<ks.length:=by omega
   generalize ks.getD i 0=k at *;have hMr:=hMa (was.log.getD i default).id;generalize was.log.getD i default=r at *;generalize HM i=m at *;generalize F i=D at *;have hgf:(D.map aq).getD k []=aq (D.getD k default):=Fam.getD z8;have hs4:=iY D k 4;generalize D.getD k default=f at *;refine wGq ?_ ?_ u6
   ·simp[hg,ZR,hlt]
   refine wO ?_;refine sNq 13 ?_ ?_ z6 z6 (by simp only[go_sem,hgl,hgk,aS,cc];try exact rfl)
   ·simp[hgl,hgk,aS,cc,hc,hki]
   refine sE ?_;refine dS ?_;refine wKG ?_;cases hx:now.log.any λx=>x.id==r.id with
   | true=>
    rw[hx,if_pos rfl] at hFs1;refine wDF ?_ (hb:=by simp[hMr,hx]);refine wG ?_ y6 u3;exact ZB ⟨i+1,by omega,by omega,ZU w3 (by simp[go_sem,hHs1,hFs1]) w3⟩
   | false=>
    rw[hx,if_neg j8] at hFs1;refine wDT ?_ (hb:=by simp[hMr,hx]);refine wGS ?_;refine sNq 16 ?_ ?_ z6 z6 Z6
    ·simp[hgl,hgk,hgf,aS,cc,aq,hc,hki,hkk,hFl0]
    refine ey tK rfl rfl z7 z7 z7 p7 z6 ?_ z6 z6 z6 ?_
    ·simp[hgl,hgk,hgf,aS,cc,aq,hc,hki,hkk,hFl0]
    refine wX ?_;simp only[go_sem,hgf,aq,List.set_cons_succ,List.set_cons_zero,<-hs4];refine wG ?_ y6 u3;exact ZB ⟨i+1,by omega,by omega,ZU w3 (by simp[go_sem,hHs1,hFs1]) w3⟩
  ·obtain rfl:=eq1 hi h;have hw0:IntKind.i64.wrap (was.logged+1)=was.logged+1:=Eng.wrap_small z8 z8;refine wG ?_ (by simp only[go_sem,hw0];try exact rfl) (by simp[go_sem,hw0]);have hDl:=hFl was.log.length;rw[hFa] at hDl;rw[hFa];generalize hDD:cw now.log ks was.log fs=D at *;rw[show fs.length=D.length by omega];refine af (mO 901 112 32 z6 z7 z7 z6 j0 j0 rfl z7 j6 j6) ?_;obtain ⟨t,ht⟩:∃t:Nat,now.logged=was.logged+t:=⟨(now.logged-was.logged).toNat,by omega⟩;have hE0:=GL step c D;have hEs:=GK step c D;have hEl:=Jp step c D;have hEa:∀j,nwF step c D j=D++fo step c j:=λj=>rfl
   generalize nwF step c D=E at *;have hX0:Ai (HM was.log.length) fs.length was.logged 0=HM was.log.length:=rfl;have hXs:∀j:Nat,Ai (HM was.log.length) fs.length was.logged (j+1)=aU (Ai (HM was.log.length) fs.length was.logged j) (was.logged+1+j) ((fs.length+j:Nat):Int):=λj=>rfl
   generalize Ai (HM was.log.length) fs.length was.logged=X at *;refine wL t (λj=>(14,.any)::(15,.int .i64 (was.logged+1+j))::u0 44 39 (u0 88 27 []))
    (λj=>[(37,.map (mI (X j))),(112,.cells 76 4 ((E j).map aq)),(32,.cells 103 2 [[.osl 112 4 0 (E j).length,.osl 30 1 0 lg.length]])]) ?_ λj hj=>?_
   ·rw[hX0,hE0];exact wZ
   simp only[go_sem];refine wGD (λh=>?_) (λh=>?_)
   ·have hlt:j<t:=by simp at h;omega
    have hw1:IntKind.i64.wrap (was.logged+1+j+1)=was.logged+1+((j+1:Nat):Int):=by rw[Eng.wrap_small z8 z8];omega
    have hEs1:=hEs j;have hEl1:=hEl j;have hXs1:=hXs j;generalize E j=Q at *;generalize X j=m at *;have htq:List.take Q.length (Q.map aq)=Q.map aq:=W1 w8;refine wR ?_;refine wN 8 ?_;refine wR ?_;refine wN 9 ?_;refine af (aY 112 32 z6 y9) (wn ?_);refine wGq ?_ ?_ k8
    ·simp[go_sem,rowsOf,htq,refs];omega
    exact ZB ⟨j+1,by omega,by omega,ZU w3 (by simp[go_sem,hEs1,hXs1,htq,aq,hEl1,hDl]) w3⟩
   ·have e:j=t:=by simp at h;omega
    subst e;refine wGq ?_ ?_
    ·simp[hc]
    simp only[go_sem,hgl,aS,List.set_cons_zero];refine af (le_empty 99 3 1 z7) ?_;refine af (i_ 30 ((lg.map aS).set c [.osl 99 1 0 0]) z6 (rE (a:=[.nils]) (b:=[.osl 99 1 0 0]) ⟨.inr (.inr ⟨rfl,.inr ⟨_,_,_,rfl⟩⟩),trivial⟩ _ _)) (wn ?_);have hEj:=hEl j;have hF0:lgF was ks fs.length now.log (E j) 0=E j:=rfl;have hFs:=λi=>@Gt was ks fs.length now.log (E j) i
    have hFl:=I' was ks fs.length now.log (E j);have hK0:lgK was ks fs.length now.log 0=[]:=rfl;have hKs:=λi=>@Gu was ks fs.length now.log i
    have hKl:=λi=>@Ja was ks fs.length now.log i
    have hlt4:=λ(r:Rec) (hr:r∈now.log)=>IW hI hS hks hk hr
    have htt:(now.logged-was.logged).toNat=j:=by omega
    rw[htt] at hHad hlt4;have hLa:lgF was ks fs.length now.log (E j) now.log.length=iA was ks fs.length now.log (E j):=by unfold lgF;rw[W4]
    have hKa:lgK was ks fs.length now.log now.log.length=now.log.map λr=>dD was ks fs.length r.id:=by unfold lgK;rw[W4]
    generalize lgF was ks fs.length now.log (E j)=L at *;generalize lgK was ks fs.length now.log=K at *;refine wL now.log.length (λi=>(17,.any)::(18,.any)::u0 115 9 ((126,.int .i64 i)::u0 127 41 []))
     (λi=>[(99,.cells 3 1 ((K i).map cc)),(30,.cells 40 1 ((lg.map aS).set c [.osl 99 1 0 (K i).length])),(112,.cells 76 4 ((L i).map aq))]) ?_ λi hi=>?_
    ·rw[hF0,hK0];simp only[go_sem];exact ZU w3 w3 (by simp[go_sem];exact λx hx=>by rw[mQ hx];simp)
    simp only[go_sem];refine wGD (λh=>?_) (λh=>?_)
    ·have hlt:=lt1 h;have how':=wi1 (i:=i) z8;have hg:=Fam.getD (f:=ZR) hlt;have hm:=YG hlt;have hH:=hHad _ hm;have hlt1:=hlt4 _ hm;have hFs1:=hFs i hlt;have hKs1:=hKs i hlt;have hFl0:=hFl i;have hKl0:=hKl i hi;generalize now.log.getD i default=r at *;generalize hkk:dD was ks fs.length r.id=k at *;generalize L i=D2 at *;generalize K i=Q at *;have htq:List.take Q.length (Q.map cc)=Q.map cc:=W1 w8;refine wGq ?_ ?_ u6
     ·simp[hg,ZR,hlt]
     have hkD:k<D2.length:=by omega
     have hgf:=Fam.getD (f:=aq) hkD;have hone:(Jq was ks fs.length r D2).map aq=(D2.map aq).set k [.int .i64 (D2.getD k default).step,.int .i64 (D2.getD k default).client,.int .i64 r.act.kind,.int .i64 2]:=by
      unfold Jq;rw[hkk,List.map_set];rfl
     generalize D2.getD k default=f at *;refine wO ?_;refine sNq 15 ?_ ?_ z6 z6 (by simp only[go_sem,hH,hgf,aq];try exact rfl)
     ·simp[hH,hgf,aq,hkD];exact ⟨rfl,by omega⟩
     refine ey tK rfl rfl z7 z7 z7 p7 z6 ?_ z6 z6 z6 ?_
     ·simp[hH,hgf,aq,hkD]
     refine sNq 2 ?_ ?_ z6 z6 (by simp only[go_sem,hH,hgf,aq];try exact rfl)
     ·simp[hH,hgf,aq,hkD];exact ⟨rfl,by omega⟩
     refine ey tK rfl rfl z7 z7 z7 p7 z6 ?_ z6 z6 z6 ?_
     ·simp[hH,hgf,aq,hkD]
     refine wX ?_;have hsg:∀y,((D2.map aq).set k y).getD k []=y:=λy=>by
      rw[Xq,YM,if_pos rfl,if_pos (by simpa using hkD)];rfl
     simp only[go_sem,hsg,hgf,aq,List.set_cons_succ,List.set_cons_zero,List.set_set,<-hone,cond_false];rw[<-hFs1];refine wG ?_;have hgc:∀y,((lg.map aS).set c y).getD c []=y:=λy=>by
      rw[Xq,YM,if_pos rfl,if_pos (by simpa using hc)];rfl
     have hfn:∀(a:Fate) x,x∈aq a->¬99∈refs x:=λa x h=>tF 99 a x h
     have hnn:∀(a:Nat) x,x∈cc a->¬99∈refs x:=λa x h=>Ei 99 a x h
     refine ZW ZM ?_;refine fO [(99,[162],[30])] rfl (uD ?_) ?_
     ·simp[go_sem,bo,hnn];exact λa _ x hx=>hfn a x hx
     refine zN tK 13 (h:=by simp only[go_sem,hgc,hc];try exact rfl) (hp:=by simp[go_sem,hgc,hc]) (hk:=?_);refine zW tK (hk:=?_);refine yA tK 30 (h2:=?_) (h5:=?_) (h7:=?_) (h8:=?_) (hn:=rfl) (hr:=rfl) (hr3:=rfl) (hk:=?_)
     ·exact λrow h=>by simp at h;subst h;rfl
     ·rw[show tab.byt 3=8 from rfl];simp;omega
     ·simp
     ·simp[bo,go_sem,refs,htq];exact λa _ x hx=>hnn a x hx
     refine jS w9 z6 ?_;have hkl:∀n,List.map (λrow=>List.map (kill 99) row) ((lg.map aS).set c [.osl 99 1 0 n])=(lg.map aS).set c [.any]:=λn=>by rw[List.map_set,zY];rfl
     rw[hkl];refine dSq ?_ ?_
     ·simp[hc];rfl
     refine dSq ?_ ?_
     ·simp[hc,hgc];exact ⟨(λh=>by cases h),rfl,rfl,W7 _⟩
     refine wKn ?_;simp only[go_sem,hgc,List.set_cons_zero,List.set_set];have hnr:∀n,(ay (.cells 40 1 ((lg.map aS).set c [.osl 165 1 0 n]))).contains 99=false:=λn=>by
      rw[Bool.eq_false_iff];intro h;have:=mQ (YS.1 h);omega
     have hmv:∀n,((lg.map aS).set c [.osl 165 1 0 n]).map (λrow=>row.map (mv1 165 99))=(lg.map aS).set c [.osl 99 1 0 n]:=λn=>by
      rw[List.map_set,D_];rfl
     refine af (lH 99 j0 (by simp only[go_sem,hnr];rfl) y9) ?_;refine af (mO 165 99 30 z6 z7 z7 z6 j0 j0 rfl z7 (hmv _) j6) ?_;refine wG ?_ y6 u3;refine ZB ⟨i+1,by omega,by omega,ZU ?_ ?_ ?_⟩
     ·simp[go_sem]
     ·simp[go_sem,hKs1,cc]
     ·simp[go_sem];exact λx hx=>by rw[mQ hx];simp
    ·obtain rfl:=eq1 hi h;refine wG ?_;refine ZZ 99 rfl (Ag _) ?_;have hfz:List.map (dq 99 1 (List.map cc (K now.log.length))) ((List.map aS lg).set c [AV.osl 99 1 0 (K now.log.length).length])=(lg.set c (K now.log.length)).map aS:=by
      rw[List.map_set,zX,List.map_set]
      congr 1
      simp[dq,frz,aS]
     simp only[go_sem,hfz];refine af (mO 112 901 32 z6 z7 z7 z6 j0 j0 rfl z7 j6 j6) ?_;refine iE ⟨_,_,rfl,trivial,.tup [],.inr (.inl rfl),rfl,?_⟩;have hfin:bT step c was now ⟨fs,lg⟩=⟨L now.log.length,lg.set c (K now.log.length)⟩:=by
      unfold bT;simp only;rw[hks0,hDD,htt,<-hEa,<-hLa,<-hKa]
     rw[hfin];simp only[hFl,YN]
     repeat' refine ZH ?_ ?_
     all_goals first | exact YH _ | rfl | simp[go_sem]
theorem KT (w:Wor) (hst:Small w.s.tree) (hsp:SmallP w.s.past) (hc:∀c,c∈w.cs->SmallC c) (hl:w.cs.length<=100000000):Fo 23 [.agg (aV w)] (.agg (aV w)):=by
 have hso:=sQ w.s hst hsp;unfold ZQ at hso;unfold aV;refine wSG func23 ntmps23 results23 λC=>?_
 refine ZZ 1 rfl (rfl) (wn ?_);refine wG ?_;refine wCg ?_ func40 (hf:=hso);refine af (le_empty 22 47 10 z7) (wn ?_);refine af (i_ 3 ([[.sl (w.s.tree.map ZN),.int .i64 w.s.next,.sl (w.s.past.map ZP),.osl 22 10 0 0]]) z6 Qw) (wn ?_);refine wL w.cs.length (λi=>(5,.any)::(13,.int .i64 i)::u0 14 11 [])
  (λi=>[(3,.cells 35 4 [[.sl (w.s.tree.map ZN),.int .i64 w.s.next,.sl (w.s.past.map ZP),.osl 22 10 0 i]]),(22,.cells 47 10 ((w.cs.take i).map ZC))]) ?_ λi hi=>?_
 ·exact wY
 simp only[go_sem];refine wGD (λh=>?_) (λh=>?_)
 ·have hlt:=lt1 h;have hw:=wi1 (i:=i) z8;have hg:=Fam.getD (f:=ZC) hlt;have hs:=dI ZC hlt;have hco:=xx _ (hc _ (YG hlt));generalize w.cs.getD i default=x at *;have hl1:(w.cs.take i).length=i:=by rw[YA];omega
  generalize w.cs.take i=Q at *;subst hl1;have htq:List.take Q.length (Q.map ZC)=Q.map ZC:=W1 w8;unfold ZC at hco;refine wGq ?_ ?_ p9
  ·simp[hg,ZC,hlt]
  refine ZZ 5 rfl (rfl) (wn ?_);refine wO ?_;refine sN 3 ?_;refine sC ?_ func41 (hf:=hco);refine sW ?_;refine sE ?_;refine iX (aY 22 3 z6 y9) ?_;simp only[go_sem];refine dSq ?_ ?_
  ·simp[go_sem,rowsOf,htq,refs];exact ⟨by omega,λx _=>qf _ x⟩
  simp only[go_sem];refine dS ?_;refine dS ?_;refine wKn ?_;refine wG ?_ w4 y7;refine ZB ⟨Q.length+1,by omega,by omega,ZU ?_ ?_ ?_⟩
  ·simp[go_sem]
  ·simp[go_sem,hs,htq,ZC]
  ·simp only[go_sem]
 ·obtain rfl:=eq1 hi h;refine wG ?_;refine ZZ 22 rfl (im _) (wn ?_);refine wT ?_;simp[aV]
theorem Hr (w:Wor) (hst:Small w.s.tree) (hsp:SmallP w.s.past) (hc:∀c,c∈w.cs->SmallC c) (hl:w.cs.length<=100000000):aj prog 23 [.agg (aV w)] [] (λr H=>r=.agg [.sl (w.s.tree.map ZN),.int .i64 w.s.next,.sl (w.s.past.map ZP),.osl 22 10 0 w.cs.length]/\∀i b,aa [(22,.cells 47 10 (w.cs.map ZC))] i=some b->aa H i=some b):=by
 have hso:=sQ w.s hst hsp;unfold ZQ at hso;unfold aV;refine wSG func23 ntmps23 results23 λC=>?_
 refine ZZ 1 rfl (rfl) (wn ?_);refine wG ?_;refine wCg ?_ func40 (hf:=hso);refine af (le_empty 22 47 10 z7) (wn ?_);refine af (i_ 3 ([[.sl (w.s.tree.map ZN),.int .i64 w.s.next,.sl (w.s.past.map ZP),.osl 22 10 0 0]]) z6 Qw) (wn ?_);refine wL w.cs.length (λi=>(5,.any)::(13,.int .i64 i)::u0 14 11 [])
  (λi=>[(3,.cells 35 4 [[.sl (w.s.tree.map ZN),.int .i64 w.s.next,.sl (w.s.past.map ZP),.osl 22 10 0 i]]),(22,.cells 47 10 ((w.cs.take i).map ZC))]) ?_ λi hi=>?_
 ·exact wY
 simp only[go_sem];refine wGD (λh=>?_) (λh=>?_)
 ·have hlt:=lt1 h;have hw:=wi1 (i:=i) z8;have hg:=Fam.getD (f:=ZC) hlt;have hs:=dI ZC hlt;have hco:=xx _ (hc _ (YG hlt));generalize w.cs.getD i default=x at *;have hl1:(w.cs.take i).length=i:=by rw[YA];omega
  generalize w.cs.take i=Q at *;subst hl1;have htq:List.take Q.length (Q.map ZC)=Q.map ZC:=W1 w8;unfold ZC at hco;refine wGq ?_ ?_ p9
  ·simp[hg,ZC,hlt]
  refine ZZ 5 rfl (rfl) (wn ?_);refine wO ?_;refine sN 3 ?_;refine sC ?_ func41 (hf:=hco);refine sW ?_;refine sE ?_;refine iX (aY 22 3 z6 y9) ?_;simp only[go_sem];refine dSq ?_ ?_
  ·simp[go_sem,rowsOf,htq,refs];exact ⟨by omega,λx _=>qf _ x⟩
  simp only[go_sem];refine dS ?_;refine dS ?_;refine wKn ?_;refine wG ?_ w4 y7;refine ZB ⟨Q.length+1,by omega,by omega,ZU ?_ ?_ ?_⟩
  ·simp[go_sem]
  ·simp[go_sem,hs,htq,ZC]
  ·simp only[go_sem]
 ·obtain rfl:=eq1 hi h;refine wGT ?_;simp[go_sem]
end La
namespace La
open Go Go.Eng
theorem jr {l:List Node} (h:Up l) (n:Node) {k:Int} (hk:bf l k=true):bf (aI l n) k=true:=by
 rw[cS] at hk ⊢;rw[qo h];split
 ·rfl
 ·exact hk
theorem uw {W:List Node} (hg:Good W) (hr:Ri W) {b:Act} (hk:b.kind=4) (he:cU W b=0):∃n,n∈cV W b 0/\aT W b n=true:=by
 have hL:cV W b 0=eQ (aI W { aE (ar W b.dir) b.name with version:=0 }) b.fid:=by unfold cV;rw[if_pos he]
 unfold cU at he;split at he
 ·rename_i hnm;obtain ⟨d,hf,hgd⟩:=mU hnm;obtain ⟨hd,hdf⟩:=(ZO hg.up).1 hf;have hent:ba d b.name=some b.fid:=by
   unfold bG at hnm;split at hnm
   ·rw[hgd] at hnm;cases e:ba d b.name with
    | none=>rw[e] at hnm;simp at hnm
    | some f=>
     rw[e] at hnm;simp only at hnm;split at hnm
     ·rename_i hff;rw[hff]
     ·simp at hnm
   ·rename_i hne;exact absurd hnm hne
  have hmem:(⟨b.name,b.fid⟩:Entry)∈d.entries:=(YE (hr.eup d hd)).1 hent;obtain ⟨r,hrk⟩:=hg.dr;have hne:d.fid≠b.fid:=λe=>by
   have:=hrk d hd _ hmem;simp only at this;rw[e] at this;omega
  rw[hL,hgd];refine ⟨{ aE d b.name with version:=0 },((ir (bt hg.up _).1 b.fid).2 _).2 ⟨((bt hg.up _).2 _).2 (.inl rfl),hne⟩,?_⟩;have hfd:ak W ({ aE d b.name with version:=0 }:Node).fid=some d:=by show ak W d.fid=_;rw[hdf];exact hf
  have hent2:decide (d.entries=({ aE d b.name with version:=0 }:Node).entries)=false:=by
   refine decide_eq_false λe=>?_
   have h2:(⟨b.name,b.fid⟩:Entry)∈dv d.entries b.name:=by
    have h3:=hmem;rw[e] at h3;exact h3
   unfold dv at h2;have:=(YI.1 h2).2;simp at this
  unfold aT;rw[hfd];simp only[dm,hent2,Bool.and_false,Bool.false_and,Bool.not_false]
 ·rename_i hnm;exact absurd he hnm
theorem Ci {W:List Node} (hg:Good W) (hr:Ri W) {b:Act} (he:aF W b=0) (hno:∀n,n∈aK W b 0->aT W b n=false) {k:Int} (hk:bf W k=true):bf (aK W b 0) k=true:=by
 unfold aF at he;unfold aK at hno ⊢;have hmk:da W b=0->bf (dY W b 0) k=true:=λh=>by
  unfold dY;rw[if_pos h];exact jr (bt hg.up _).1 _ (jr hg.up _ hk)
 split
 ·rename_i h1;rw[if_pos h1] at he;exact hmk he
 ·rename_i h1;rw[if_neg h1] at he hno;split
  ·rename_i h2;rw[if_pos h2] at he;exact hmk he
  ·rename_i h2;rw[if_neg h2] at he hno;split
   ·unfold eG;split
    ·exact jr hg.up _ hk
    ·exact hk
   ·rename_i h3;rw[if_neg h3] at he hno;split
    ·rename_i h4;rw[if_pos h4] at he hno;obtain ⟨n,hn,hc⟩:=uw hg hr h4 he;rw[hno n hn] at hc;cases hc
    ·split
     ·unfold dp;split
      ·split
       ·exact jr hg.up _ hk
       ·exact jr (bt hg.up _).1 _ (jr hg.up _ hk)
      ·exact hk
     ·exact hk
end La
namespace La
open Go Go.Eng Go.Proofs Go.Proofs.Tryz
theorem sa (l:List Hoard) (hlen:l.length<=100000000) {f:FuncId} {caps:List AV} {p:Hoard->Bool} (hcal:aJ prog f) (hpure:(caps.all AV.aW)=true)
  (hf:∀x,x∈l->aj prog f (.agg (ZJ x)::caps) [] (λr _=>r=.bool (p x))) :
  Fo 161 [.sl (l.map ZJ),.fn f caps] (.int .i64 (cv (l.findIdx? p))):=by
 have hcaps:=ck hpure;refine wSG func161 ntmps161 results161 λC=>?_
 refine ZL (λi:Nat=>i<=l.length/\∀x,x∈l.take i->p x=false) (λi=>l.length-i) (λi=>(8,.int .i64 i)::(5,.any)::u0 9 10 []) (λ_=>[]) 0 ⟨by omega,by simp⟩ ?_ λi hi=>?_
 ·simp only[go_sem];exact ZU w3 w3 k9
 obtain ⟨hi,hno⟩:=hi;simp only[go_sem];refine wGD (λh=>?_) (λh=>?_)
 ·have hlt:=lt1 h;have hn:=hf _ (YG hlt);have hg:=Fam.getD (f:=ZJ) hlt;have htk:=ZT hlt;have hgi:l[i]? = some (l.getD i default):=by rw[Xq,Wz hlt];rfl
  generalize l.getD i default=n at hn hg htk hgi;refine wGq ?_ ?_ Qn
  ·simp[hlt,ZJ]
  refine dL rfl rfl z7 w3 hcal k9 (hn) w3 z6 ?_;refine wGD (λh=>?_) (λh=>?_)
  ·refine wGT ?_;rw[eR hgi hno h];rfl
  ·have hw:IntKind.i64.wrap ((i:Int)+1)=(i:Int)+1:=wrap_small z8 z8;refine wG ?_ w4 y7;refine ZB ⟨i+1,⟨by omega,?_⟩,by omega,ZU ?_ ?_ ?_⟩
   ·rw[htk];intro x hx
    rcases List.mem_append.1 hx with hx | hx
    ·exact hno x hx
    ·rw[List.mem_singleton.1 hx];exact h
   ·simp[go_sem]
   ·simp[go_sem]
   ·simp[go_sem,hcaps]
 ·have e:i=l.length:=by simp at h;omega
  refine wGT ?_;rw[e,W4] at hno;rw[YL.2 hno];rfl
theorem qB (l:List Hoard) (hlen:l.length<=100000000) (id:Nat) {f:FuncId} {caps:List AV} {p:Hoard->Bool} (hcal:aJ prog f) (hpure:(caps.all AV.aW)=true) (hid:id≠7)
  (hf:∀x,x∈l->aj prog f (.agg (ZJ x)::caps) [] (λr _=>r=.bool (p x))) :
  aj prog 115 [.osl id 2 0 l.length,.fn f caps] [(id,.cells 118 2 (l.map ZJ))] (λr H=>r=.osl id 2 0 (l.filter λx=>!p x).length /\
   ∀i b,aa [(id,.cells 118 2 ((l.filter λx=>!p x).map ZJ++List.replicate (l.length-(l.filter λx=>!p x).length) [.str [],.int .i64 0]))] i=some b->aa H i=some b):=by
 have hcaps:=ck hpure;obtain ⟨q,hv,hq⟩:=fP hpure;refine wSG func115 ntmps115 results115 λC=>?_
 refine nx rfl rfl z7 w3 Qa Z3 ⟨_,func161,by kernel_rfl,rfl⟩ (sa l hlen hcal hpure hf) w3 z6 ?_;refine wGD (λh=>?_) (λh=>?_)
 ·refine wGT ?_;have hn:l.findIdx? p=none:=by
   cases e:l.findIdx? p with
   | none=>rfl
   | some k=>rw[e] at h;simp[cv] at h
  have hfl:l.filter (λx=>!p x)=l:=Ya.2 λx hx=>by
   simp[YL.1 hn x hx]
  rw[hfl];simp[aa]
 obtain ⟨k,hk⟩:∃k,l.findIdx? p=some k:=by
  cases e:l.findIdx? p with
  | none=>rw[e] at h;simp[cv] at h
  | some k=>exact ⟨k,rfl⟩
 have hkl:k<l.length:=(YK.1 hk).1;have hsp:=fi hk;rw[hk];have hw:IntKind.i64.wrap ((k:Int)+1)=((k+1:Nat):Int):=by rw[Eng.wrap_small z8 z8];rfl
 simp only[cv];refine wG ?_ w4 y7;refine ZL (λs:Nat×List Hoard=>DelInv p l s.1 s.2) (λs=>l.length-s.1) (λs=>(5,.int .i64 (((l.take s.1).filter λx=>!p x).length:Nat))::(6,.int .i64 (s.1:Nat))::(7,.any)::u0 16 20 []) (λs=>[(id,.cells 118 2 (s.2.map ZJ))]) (k+1,l) (DelInv.start hk) ?_ λs hs=>?_
 ·have el:((l.take (k+1)).filter λx=>!p x).length=k:=by rw[hsp];simp;omega
  simp only[go_sem,el];exact ZU w3 w3 k9
 obtain ⟨j,L⟩:=s;have hjl:=hs.le;have hL:=hs.len;have hlt:=hs.lt;simp only at hs hjl hL hlt;simp only[go_sem];refine wGD (λh=>?_) (λh=>?_)
 ·have hj:=lt1 h;have hn:=hf _ (YG hj);have hg:(L.map ZJ).getD j []=ZJ (l.getD j default):=by rw[Fam.getD z8,hs.get hj]
  have hkeep:=hs.Gj hj;have hskip:=hs.skip hj;have htk:=ZT hj;generalize l.getD j default=n at hn hg hkeep hskip htk;refine wGq ?_ ?_ (by simp only[go_sem,hg,ZJ,hid,Ne.symm hid];try exact rfl)
  ·simp[ZJ];omega
  refine dL rfl rfl z7 w3 hcal k9 (hn) w3 z6 ?_;generalize hm:((l.take j).filter λx=>!p x).length=m at hkeep hlt;have hw1:IntKind.i64.wrap ((j:Int)+1)=((j+1:Nat):Int):=by rw[Eng.wrap_small z8 z8];rfl
  have hw2:IntKind.i64.wrap ((m:Int)+1)=((m+1:Nat):Int):=by rw[Eng.wrap_small z8 z8];rfl
  refine wG ?_ QW WL;refine wD (λh=>?_) (λh=>?_)
  ·have hp:p n=false:=by simpa using h
   obtain ⟨hk1,hk2⟩:=hkeep hp;have aG:=pU ZJ L m n;simp only[ZJ] at aG;have hgl:(L.map ZJ).getD m []=ZJ (L.getD m default):=Fam.getD z8;simp only[ZJ] at hgl;refine wGq ?_ ?_ v7
   ·simp[hid,Ne.symm hid];omega
   exact ZB ⟨(j+1,L.set m n),hk1,by simp only;omega,ZU QM Qh Qd⟩
  ·have hp:p n=true:=by simpa using h
   refine wG ?_ QB Qe;have hsame:((l.take (j+1)).filter λx=>!p x).length=m:=by
    rw[<-hm,htk,List.filter_append];simp only[List.filter_cons,hp,Bool.not_true,Bool.false_eq_true,if_false,List.filter_nil,List.append_nil]
   exact ZB ⟨(j+1,L),hskip hp,by simp only;omega,ZU Zd Qp k9⟩
 have e:j=l.length:=by simp at h;omega
 subst e;have hfin:=hs.fin;rw[W4];generalize hd:(l.filter λx=>!p x)=d at *;have hdl:d.length<=l.length:=by rw[<-hd];exact W8 _ _
 have hcl:=jw ZJ (d:=d) (L:=L) [.str [],.int .i64 0] hfin z8;rw[hL] at hcl;refine wGq ?_ ?_ QC
 ·simp only[not_false_eq_true,true_and];omega
 refine wT ?_;simp[aa]
end La
namespace La
open Go Go.Eng
def eqW (w:Int) (l:List Hoard):List Hoard:=l.filter λh=>h.worth==w
theorem sw (w:Int) (l m:List Hoard):eqW w (l++m)=eqW w l++eqW w m:=List.filter_append l m
structure Stab (l P:List Hoard):Prop where
 same:∀w,eqW w P=eqW w l
 dr:P.Pairwise λa b=>b.worth<=a.worth
 mem:∀h,h∈P->h∈l
 len:P.length=l.length
theorem Stab.nil:Stab [] []:=⟨λ_=>rfl,List.Pairwise.nil,λ_ h=>h,rfl⟩
theorem Stab.ins {l P Q:List Hoard} {x:Hoard} (h:Stab l (P++Q)) (hP:∀p,p∈P->x.worth<=p.worth) (hQ:∀q,q∈Q->q.worth<x.worth):Stab (l++[x]) (P++x::Q):=by
 refine ⟨λw=>?_,?_,λy hy=>?_,?_⟩
 ·rw[sw w l,<-h.same w,sw w P,sw w P]
  show _++eqW w ([x]++Q)=_
  rw[sw]
  by_cases e:x.worth=w
  ·have:eqW w Q=[]:=by
    unfold eqW;rw[List.filter_eq_nil_iff];intro q hq;have:=hQ q hq;simp;omega
   rw[this];simp
  ·have:eqW w [x]=[]:=by
    unfold eqW;rw[List.filter_eq_nil_iff];intro q hq;rw[List.mem_singleton.1 hq];simpa using e
   rw[this];simp
 ·have hf:=List.pairwise_append.1 h.dr;refine List.pairwise_append.2 ⟨hf.1,List.pairwise_cons.2 ⟨λq hq=>by have:=hQ q hq;omega,hf.2.1⟩,λp hp y hy=>?_⟩
  rcases List.mem_cons.1 hy with rfl | hy
  ·exact hP p hp
  ·exact hf.2.2 p hp y hy
 ·rcases List.mem_append.1 hy with hy | hy
  ·exact YQ _ (h.mem y (YQ _ hy))
  ·rcases List.mem_cons.1 hy with rfl | hy
   ·simp
   ·exact YQ _ (h.mem y (YB _ hy))
 ·have:=h.len;simp only[List.length_append,List.length_cons,List.length_nil] at this ⊢;omega
theorem rM:∀(n:Nat) (P:List Hoard),P.Pairwise (λa b=>b.worth<=a.worth)->(∀h,h∈P->1<=h.worth)->bA P n=P.filter λh=>decide (h.worth<=(n:Int))
 | 0,P,_,hm=>by
  unfold bA
  symm
  rw[List.filter_eq_nil_iff];intro h hh;have:=hm h hh;simp;omega
 | n+1,P,hs,hm=>by
  rw[bA,rM n P hs hm];clear hm
  induction P with
  | nil=>rfl
  | cons p r ih=>
   have ih:=ih (List.pairwise_cons.1 hs).2;have hp:=(List.pairwise_cons.1 hs).1;rw[List.filter_cons,List.filter_cons,List.filter_cons]
   by_cases h1:p.worth=((n+1:Nat):Int)
   ·rw[if_pos Zb,if_neg k6,if_pos k6,List.cons_append,ih]
   ·rw[if_neg Zb]
    by_cases h2:p.worth<=(n:Int)
    ·rw[if_pos WU,if_pos k6,<-ih];have:r.filter (λh=>h.worth==((n+1:Nat):Int))=[]:=by
      rw[List.filter_eq_nil_iff];intro q hq;have:=hp q hq;simp;omega
     rw[this];rfl
    ·rw[if_neg WU,if_neg k6,ih]
theorem rL {l P:List Hoard} (h:∀w,eqW w P=eqW w l):∀n,bA P n=bA l n
 | 0=>rfl
 | n+1=>by
  unfold bA;rw[rL h n];exact congrArg (·++_) (h _)
theorem Stab.order {l P:List Hoard} (h:Stab l P) (hw:∀x,x∈l->1<=x.worth/\x.worth<=100):P=bA l 100:=by
 rw[<-rL h.same 100,rM 100 P h.dr λx hx=>(hw x (h.mem x hx)).1]
 symm
 rw[Ya];intro x hx;have:=(hw x (h.mem x hx)).2;simp;omega
end La
namespace La
open Go Go.Eng Go.Proofs Go.Proofs.Tryz
def hoH (l:List Hoard) (id:Nat) (G Y N:Nat->Nat):List (Nat×Blk):=[(id,.cells 118 2 (l.map ZJ))]++pins [id] G Y N
theorem IY (a b:Hoard) (ha:1<=a.worth/\a.worth<=100) (hb:1<=b.worth/\b.worth<=100):Fo 118 [.agg (ZJ a),.agg (ZJ b)] (.int .i64 (b.worth-a.worth)):=by
 have hw:IntKind.i64.wrap (b.worth-a.worth)=b.worth-a.worth:=Eng.wrap_small z8 z8;unfold ZJ;refine wS func118 ntmps118 results118 λC=>?_
 refine wG ?_ w4 y7;refine wT ?_;rfl
def iL (M T:List Hoard):List Hoard:=M++T
def jY (A:List Hoard) (x:Hoard) (T:List Hoard):List Hoard:=A++x::T
theorem zy (A:List Hoard) (x:Hoard) (T:List Hoard):(jY A x T).length=A.length+1+T.length:=by unfold jY;rw[List.length_append,List.length_cons];omega
theorem xO (A:List Hoard) (x:Hoard) (T:List Hoard):((jY A x T).map ZJ).getD A.length []=[.str x.path,.int .i64 x.worth]:=by
 have:((jY A x T).map ZJ).getD A.length []=ZJ ((jY A x T).getD A.length default):=Fam.getD (by rw[zy];omega);rw[this];unfold jY;rw[Xq,YO z8,Ym];rfl
theorem zz (A:List Hoard) (x y:Hoard) (T:List Hoard):((jY A x T).map ZJ).set A.length [.str y.path,.int .i64 y.worth]=(jY A y T).map ZJ:=by
 show List.set _ _ (ZJ y)=_
 unfold jY;rw[<-List.map_set,List.set_append_right _ _ z8,Ym];rfl
theorem tY (A:List Hoard) (y x:Hoard) (T:List Hoard):jY (A++[y]) x T=jY A y (x::T):=by unfold jY;simp
theorem Gc (l:List Hoard) (hlen:l.length<=19) (hwo:∀h,h∈l->1<=h.worth/\h.worth<=100) (G Y N:Nat->Nat):aj prog 190 [.osl 1000 2 0 l.length,.int .i64 0,.int .i64 l.length,.fn 118 []] (hoH l 1000 G Y N)
  (λr H=>r=.tup []/\Holds (hoH (bA l 100) 1000 G Y N) H):=by
 unfold hoH;refine wSG func190 ntmps190 results190 λC=>?_
 refine ZL (λq:Nat×List Hoard=>0<q.1/\(q.1<=l.length\/q.1=1)/\Stab (l.take q.1) q.2) (λq=>l.length+1-q.1) (λq=>(8,.int .i64 q.1)::(9,.any)::u0 12 41 []) (λq=>[(1000,.cells 118 2 ((iL q.2 (l.drop q.1)).map ZJ))]) (1,l.take 1) ⟨by simp,by simp,?_⟩ ?_ λq hq=>?_
 ·cases l with
  | nil=>exact Stab.nil
  | cons x r=>exact Stab.ins (P:=[]) (Q:=[]) Stab.nil (λp hp=>by cases hp) (λp hp=>by cases hp)
 ·have e0:iL (l.take 1) (l.drop 1)=l:=List.take_append_drop 1 l;simp only[go_sem,e0];exact ZU (by simp[go_sem];decide) w3 w3
 obtain ⟨i,M⟩:=q;obtain ⟨hi0,hi,hst⟩:=hq;simp only at hi0 hi hst;simp only[go_sem];refine wGD (λh=>?_) (λh=>?_)
 ·have hlt:=lt1 h;have hw:=wi1 (i:=i) z8;have hMl:M.length=i:=by rw[hst.len,YA];omega
  have htk:=ZT hlt;have hdr:iL M (l.drop i)=jY M (l.getD i default) (l.drop (i+1)):=by unfold iL jY;rw[cr hlt]
  have hxw:=hwo _ (YG hlt);have hMw:∀p,p∈M->1<=p.worth/\p.worth<=100:=λp hp=>hwo p (YF (hst.mem p hp))
  rw[hdr];have hRl:(l.drop (i+1)).length<=19:=by rw[YX];omega
  generalize hR:l.drop (i+1)=R at *;generalize l.getD i default=x at *;refine wG ?_;refine ZL (λq:List Hoard×List Hoard=>q.1++q.2=M/\∀p,p∈q.2->p.worth<x.worth) (λq=>q.1.length) (λq=>(9,.int .i64 q.1.length)::u0 18 35 []) (λq=>[(1000,.cells 118 2 ((jY q.1 x (iL q.2 R)).map ZJ))]) (M,[]) ⟨by simp,λp hp=>by cases hp⟩ ?_ λq hq=>?_
  ·have e0:iL [] R=R:=rfl;simp only[go_sem,e0];exact ZU (by simp[go_sem,hMl]) w3 w3
  obtain ⟨A,B⟩:=q;obtain ⟨hAB,hB⟩:=hq;simp only at hAB hB;have hAl:A.length<=19:=by have:=congrArg List.length hAB;simp at this;omega
  have hback:(∀p,p∈A->x.worth<=p.worth)->Stab (l.take (i+1)) (A++x::B):=λh=>by rw[htk];rw[<-hAB] at hst;exact Stab.ins hst h hB
  have hout:iL (A++x::B) R=jY A x (iL B R):=by unfold iL jY;simp
  have hout2:iL (A++x::B) (l.drop (i+1))=jY A x (iL B R):=by rw[hR];exact hout
  simp only[go_sem];refine wG ?_
  rcases List.eq_nil_or_concat A with hA | ⟨A',y,hA⟩
  ·subst hA;refine wO ?_;refine sN 4 ?_;refine ep 21 z6 (λc21 h21=>?_);simp only[go_sem];have hc:c21=false:=by rw[<-h21];simp
   subst hc
   iterate 11 refine sS ?_
   refine sSB ?_;refine sN 1 ?_;refine wX ?_;refine wDF ?_ (hb:=rfl);refine wG ?_ w4 y7;refine ZB ⟨(i+1,[]++x::B),⟨by simp only;omega,by simp only;omega,hback λp hp=>by cases hp⟩,by simp only;omega,ZU ?_ ?_ ?_⟩
   ·simp[go_sem]
   ·rw[hout2];simp[go_sem]
   ·simp[go_sem]
  ·rw[List.concat_eq_append] at hA;subst hA;have hj:((A'++[y]).length:Int)=((A'.length+1:Nat):Int):=by simp
   have hjn:(A'++[y]).length=A'.length+1:=by simp
   have hwm:IntKind.i64.wrap (((A'.length+1:Nat):Int)-1)=((A'.length:Nat):Int):=by rw[Eng.wrap_small z8 z8];omega
   have hyw:=hMw y (by rw[<-hAB];simp);have hcmp:=IY x y hxw hyw;unfold ZJ at hcmp;have hg:=xO (A'++[y]) x (iL B R);rw[hjn] at hg;have hgm:=xO A' y (x::iL B R);rw[<-tY] at hgm;have hT:(iL B R).length<=60:=by
    have:=congrArg List.length hAB;unfold iL;simp at this ⊢;omega
   have hAi:A'.length+1<l.length:=by have:=congrArg List.length hAB;simp at this;omega
   have hlen2:=zy (A'++[y]) x (iL B R);have hs1:=zz (A'++[y]) x y (iL B R);rw[hjn] at hlen2 hs1;have hs2:=zz A' y x (y::iL B R);rw[<-tY] at hs2;have hgm2:=xO A' y (y::iL B R);rw[<-tY] at hgm2;have hnext:jY A' x (iL (y::B) R)=jY A' x (y::iL B R):=rfl;generalize jY (A'++[y]) x (iL B R)=Q1 at *;generalize jY (A'++[y]) y (iL B R)=Q2 at *;rw[hjn];refine wO ?_;refine sN 4 ?_;refine ep 21 z6 (λc21 h21=>?_);simp only[go_sem];have hc:c21=true:=by rw[<-h21];simp
   subst hc;refine sNq 10 ?_ ?_ z6 z6 (by simp only[go_sem,hg,hgm,hwm,ZJ];try exact rfl)
   ·simp[hg,hgm,hwm,ZJ,hlen2];try omega
   refine sCC ?_ func118 (hf:=λhb=>(hcmp));refine sN 2 ?_;refine wX ?_;refine wD (λh=>?_) (λh=>?_)
   ·have hyx:y.worth<x.worth:=by simp at h;omega
    refine wG ?_;refine ZW ZM ?_;refine iq 2 [0,1,3,4,5,6,7,8,9,10,11,12,13,14,15,16,17] [0,1,0,2,3,4,5,6,7,8,9,10,11,12,13,14,15,16] rfl rfl rfl (λ_ _ _ h=>h) w9 w9 v8 z7 ?_
    try simp only[go_sem,gA,gB,gC]
    refine ZS rfl ?_;refine sNq 14 ?_ ?_ z6 z6 (by simp only[go_sem,hg,hgm,hwm];try exact rfl)
    ·simp[hg,hgm,hwm,hlen2];try omega
    refine ey tK rfl rfl z7 z7 z7 p7 z6 ?_ z6 z6 z6 ?_
    ·simp[hg,hgm,hwm,hlen2];try omega
    refine sNq 1 ?_ ?_
    ·simp[hg,hgm,hwm,hlen2];try omega
    refine ey tK rfl rfl z7 z7 z7 p7 z6 ?_ z6 z6 z6 ?_
    ·simp[hg,hgm,hwm,hlen2];try omega
    refine wX ?_;refine wG ?_ (by simp only[go_sem,hwm,hg,hgm,hs1,hgm2,hs2];try exact rfl) (by simp[go_sem,hwm,hg,hgm,hs1,hgm2,hs2]);refine ZB ⟨(A',y::B),⟨by rw[<-hAB];simp,λp hp=>?_⟩,by simp,ZU ?_ ?_ ?_⟩
    ·rcases List.mem_cons.1 hp with rfl | hp
     ·exact hyx
     ·exact hB p hp
    ·simp[go_sem]
    ·simp[go_sem,hnext]
    ·simp[go_sem]
   ·have hyx:x.worth<=y.worth:=by simp at h;omega
    refine wG ?_ w4 y7;refine ZB ⟨(i+1,(A'++[y])++x::B),⟨by simp only;omega,by simp only;omega,hback λp hp=>?_⟩,by simp only;omega,ZU ?_ ?_ ?_⟩
    ·have hf:=hst.dr;rw[<-hAB,List.pairwise_append] at hf
     rcases List.mem_append.1 hp with hp | hp
     ·have:=(List.pairwise_append.1 hf.1).2.2 p hp y w8;omega
     ·rw[List.mem_singleton.1 hp];exact hyx
    ·simp[go_sem]
    ·rw[hout2];simp[go_sem]
    ·simp[go_sem]
 ·have e:l.take i=l:=W1 (by simp at h;omega);rw[e] at hst;have hM:=hst.order hwo;have e0:iL M (l.drop i)=bA l 100:=by unfold iL;rw[Yq (by simp at h;omega),List.append_nil,hM]
  rw[e0];refine wG ?_;refine iE ⟨_,_,rfl,trivial,.tup [],.inr (.inl rfl),rfl,?_⟩;exact q9
theorem BB (l:List Hoard) (hne:¬l=[]) (hlen:l.length<=19) (hwo:∀h,h∈l->1<=h.worth/\h.worth<=100) (G Y N:Nat->Nat):aj prog 162 [.osl 1000 2 0 l.length,.int .i64 l.length,.fn 118 []] (hoH l 1000 G Y N)
  (λr H=>r=.tup []/\Holds (hoH (bA l 100) 1000 G Y N) H):=by
 have hs:=Gc l hlen hwo;unfold hoH at hs;unfold hoH;refine wSG func162 ntmps162 results162 λC=>?_
 refine ZL (λ_:Unit=>True) (λ_=>0) (λ_=>u0 11 12 []) (λ_=>[]) () trivial ?_ λ_ _=>?_
 ·exact wZ
 simp only[go_sem];refine nt ?_ (hb:=k6);refine bE rfl (eb rfl z7 w3 ⟨_,func190,by kernel_rfl,rfl⟩ [1000] w6 w3 w8 Zo w3 w3 (hs) w7) ?_;refine wG ?_;refine ZL (λ_:Unit=>True) (λ_=>0) (λ_=>u0 28 35 []) (λ_=>[]) () trivial ?_ λ_ _=>?_
 ·exact wZ
 simp only[go_sem];refine nt ?_ (hb:=k6);refine iE ⟨_,_,rfl,trivial,.tup [],.inr (.inl rfl),rfl,?_⟩;exact q9
theorem Gd (l:List Hoard) (hne:¬l=[]) (hlen:l.length<=19) (hwo:∀h,h∈l->1<=h.worth/\h.worth<=100) (G Y N:Nat->Nat):aj prog 117 [.osl 1000 2 0 l.length,.fn 118 []] (hoH l 1000 G Y N)
  (λr H=>r=.tup []/\Holds (hoH (bA l 100) 1000 G Y N) H):=by
 have hs:=BB l hne hlen hwo;unfold hoH at hs;unfold hoH;refine wSG func117 ntmps117 results117 λC=>?_
 refine bE rfl (eb rfl z7 w3 ⟨_,func162,by kernel_rfl,rfl⟩ [1000] w6 w3 w8 Zo w3 w3 (hs) w7) ?_;refine wG ?_;refine iE ⟨_,_,rfl,trivial,.tup [],.inr (.inl rfl),rfl,?_⟩;exact q9
theorem DX:Fo 190 [.sl [],.int .i64 0,.int .i64 0,.fn 118 []] (.tup []):=by
 refine wSG func190 ntmps190 results190 λC=>?_
 refine ZL (λ_:Unit=>True) (λ_=>0) (λ_=>[]) (λ_=>[]) () trivial ?_ λ_ _=>?_
 ·exact wZ
 simp only[go_sem];refine nt ?_ (hb:=j8);refine iE ⟨_,_,rfl,trivial,.tup [],.inr (.inl rfl),rfl⟩
theorem zw:Fo 162 [.sl [],.int .i64 0,.fn 118 []] (.tup []):=by
 refine wSG func162 ntmps162 results162 λC=>?_
 refine ZL (λ_:Unit=>True) (λ_=>0) (λ_=>[]) (λ_=>[]) () trivial ?_ λ_ _=>?_
 ·exact wZ
 simp only[go_sem];refine nt ?_ (hb:=j8);refine wCg ?_ func190 (hf:=DX);refine ZL (λ_:Unit=>True) (λ_=>0) (λ_=>[]) (λ_=>[]) () trivial ?_ λ_ _=>?_
 ·exact wZ
 simp only[go_sem];refine nt ?_ (hb:=j8);refine iE ⟨_,_,rfl,trivial,.tup [],.inr (.inl rfl),rfl⟩
theorem DY:Fo 117 [.sl [],.fn 118 []] (.tup []):=by
 refine wSG func117 ntmps117 results117 λC=>?_
 refine wCg ?_ func162 (hf:=zw);refine iE ⟨_,_,rfl,trivial,.tup [],.inr (.inl rfl),rfl⟩
theorem nT (d:List Hoard) (hd:d.length<=100000000):aj prog 70 [.sl (d.map ZJ)] [] (λr H=>r=.osl 7 2 0 d.length/\∀i b,aa [(7,.cells 118 2 (d.map ZJ))] i=some b->aa H i=some b):=by
 refine wSG func70 ntmps70 results70 λC=>?_
 refine mr tK rfl rfl rfl u1 u1 (λb hb=>?_);simp only[go_sem];refine wGD (λh=>?_) (λh=>?_)
 ·have hd0:d=[]:=by
   have:=hb h;cases d with
   | nil=>rfl
   | cons x r=>simp at this
  subst hd0;refine wG ?_;refine af (le_empty 7 118 2 z7) (wn ?_);refine lr ⟨_,_,z7,by simp[go_sem],.osl 7 2 0 0,.inr (.inr ⟨rfl,.inr ⟨7,2,0,rfl⟩⟩),?_⟩;simp[go_sem]
 ·refine wGq ?_ ?_
  ·simp;omega
  refine wT ?_;simp[go_sem]
theorem IC (n r:Int):aj prog 34 [.int .i64 n,.int .i64 r] [] (λx _=>x=.agg (ZC (oC n r))):=by
 refine aj.jb (X:=.agg [.int .i64 n,.bool false,.int .i64 r,.nils,.nils,.nils,.nils,.int .i64 0,.int .i64 0,.int .i64 0]) ?_ rfl;refine wS func34 ntmps34 results34 λC=>?_
 refine wGT ?_;rfl
theorem Hv (rooms:List Int) (hr:rooms.length<=100000000):Fo 20 [.sl (rooms.map ZI)] (.int .i64 (bl rooms)):=by
 have hE:bl rooms=if rooms.length<1\/3<rooms.length then 5 else if rooms.all (λn=>decide (3<=n)&&decide (n<=24)) then 0 else 3:=rfl;generalize bl rooms=E at *;refine wS func20 ntmps20 results20 λC=>?_
 refine wR ?_;refine wN 1 ?_;refine wR ?_;refine wN 8 ?_;refine wNm 12 λc12 h12=>?_
 have hc:c12=true↔(rooms.length<1\/3<rooms.length):=by
  rw[<-h12]
  by_cases h1:rooms.length<1
  ·simp[h1];omega
  ·simp[h1];omega
 clear h12;refine wG ?_
 by_cases hb:rooms.length<1\/3<rooms.length
 ·rw[if_pos hb] at hE;subst hE;refine wDT ?_ (hb:=hc.2 hb);refine wGT ?_;rfl
 ·rw[if_neg hb] at hE;refine wFG ?_ (hb:=by simpa using λh0=>hb (hc.1 h0));refine ZL (λi:Nat=>i<=rooms.length/\(rooms.take i).all (λn=>decide (3<=n)&&decide (n<=24))=true) (λi=>rooms.length-i) (λi=>(4,.any)::(15,.int .i64 i)::u0 16 10 []) (λ_=>[]) 0 ⟨by omega,rfl⟩ ?_ λi hi=>?_
  ·exact wZ
  obtain ⟨hi,hall⟩:=hi;simp only[go_sem];refine wGD (λh=>?_) (λh=>?_)
  ·have hlt:=lt1 h;have hg:(rooms.map ZI).getD i []=[.int .i64 (rooms.getD i 0)]:=by
    rw[Xq,W2,Xq,Wz hlt];rfl
   have how':=wi1 (i:=i) z8;have htk:rooms.take (i+1)=rooms.take i++[rooms.getD i 0]:=by
    rw[List.take_add_one,Xq,Wz hlt];rfl
   generalize hn:rooms.getD i 0=n at *;refine wR ?_;refine wNq 3 ?_ ?_ z6 z6 u5
   ·simp[hg,hlt]
   refine wR ?_;refine wN 6 ?_;refine wNm 24 λc24 h24=>?_
   have hc3:c24=true↔¬(3<=n/\n<=24):=by
    rw[<-h24]
    by_cases h1:n<3
    ·simp[h1];omega
    ·simp[h1];omega
   clear h24;refine wG ?_
   by_cases hok:3<=n/\n<=24
   ·refine wDF ?_ (hb:=by simpa using λh0=>hc3.1 h0 hok);refine wG ?_ y6 u3;refine ZB ⟨i+1,⟨by omega,by rw[htk,List.all_append,hall];simp[hok]⟩,by omega,ZU ?_ ?_ ?_⟩
    ·simp[go_sem]
    ·simp[go_sem]
    ·simp[go_sem]
   ·have hE3:E=3:=by
     rw[hE,if_neg];simp only[List.all_eq_true,Bool.and_eq_true,decide_eq_true_eq];intro hx;have:=hx n (by rw[<-hn,Xq,Wz hlt];exact YW _);exact hok this
    subst hE3;refine wDT ?_ (hb:=hc3.2 hok);refine wGT ?_;rfl
  ·obtain rfl:=eq1 hi h;rw[W4] at hall;rw[if_pos hall] at hE;subst hE;refine wGT ?_;rfl
theorem Dw (rooms:List Int) (hr:rooms.length<=100000000):Fo 17 [.sl (rooms.map ZI)] (nY rooms):=by
 have hns:=JK;unfold ZQ at hns;have hwr:=Hv rooms hr;have hsu:=ui rooms;have hle:=wz rooms;have h0:gq rooms 0=[]:=rfl;have hW:nY rooms=.tup [.agg (aV (if bl rooms=0 then ⟨LH,gq rooms rooms.length⟩ else p_)),.int .i64 (bl rooms)]:=rfl;have hE:bl rooms=0->rooms.length<=3:=λh=>by
  unfold bl at h;split at h
  ·cases h
  ·omega
 rw[hW];generalize bl rooms=E at *;generalize gq rooms=P at *;clear hW;refine wSG func17 ntmps17 results17 λC=>?_
 refine wCg ?_ func20 (hf:=hwr)
 by_cases hb:E=0
 ·have h3:=hE hb;subst hb;refine wFG ?_ (hb:=w8);refine wCg ?_ func33 (hf:=hns);refine af (le_empty 29 47 10 z7) (wn ?_);refine af (i_ 5 ([[.sl ([gS].map ZN),.int .i64 1,.sl [],.osl 29 10 0 0]]) z6 Qw) (wn ?_);refine wL rooms.length (λi=>(6,.any)::(7,.any)::(18,.int .i64 i)::u0 19 13 [])
   (λi=>[(5,.cells 35 4 [[.sl ([gS].map ZN),.int .i64 1,.sl [],.osl 29 10 0 (P i).length]]),(29,.cells 47 10 ((P i).map ZC))]) ?_ λi hi=>?_
  ·rw[h0];exact wZ
  simp only[go_sem];refine wGD (λh=>?_) (λh=>?_)
  ·have hlt:=lt1 h;have hg:(rooms.map ZI).getD i []=[.int .i64 (rooms.getD i 0)]:=by
    rw[Xq,W2,Xq,Wz hlt];rfl
   have how':=wi1 (i:=i) z8;have hs1:=hsu i;have hl1:=hle i;generalize hn:rooms.getD i 0=n at *;have hcn:=IC (i:Int) n;generalize P i=Q at *;have htq:List.take Q.length (Q.map ZC)=Q.map ZC:=W1 w8;unfold ZC at hcn;refine wR ?_;refine wNq 5 ?_ ?_ z6 z6 u5
   ·simp[hg,hlt]
   refine wO ?_;refine sN 4 ?_;refine sC ?_ func34 (hf:=hcn);refine sW ?_;refine sE ?_;refine iX (aY 29 5 z6 y9) ?_;simp only[go_sem];refine dSq ?_ ?_
   ·simp[go_sem,rowsOf,htq,refs];exact ⟨by omega,λx _=>qf _ x⟩
   simp only[go_sem];refine dS ?_;refine dS ?_;refine wKn ?_;refine wG ?_ y6 u3;exact ZB ⟨i+1,by omega,by omega,ZU w3 (by simp[go_sem,hs1,htq,ZC,oC]) w3⟩
  ·obtain rfl:=eq1 hi h;have hl1:=hle rooms.length;generalize P rooms.length=Q at *;have htq:List.take Q.length (Q.map ZC)=Q.map ZC:=W1 w8;refine wG ?_;refine ZZ 29 rfl (im _) ?_;simp only[go_sem,htq];refine wT ?_;rfl
 ·refine wTG ?_ (hb:=by simp[hb]);refine af (av 2) (wn ?_);refine wT ?_;rw[if_neg hb];rfl
end La
namespace La
open Go Go.Eng
def jN (rooms:List Int) (l:List Step):Int:=if bl rooms≠0 then bl rooms else if 80<l.length then 5 else 0
theorem oE {rooms:List Int} {l:List Step} (h:jN rooms l=0):bl rooms=0/\l.length<=80:=by
 unfold jN at h
 by_cases h1:bl rooms=0
 ·rw[if_neg Zb] at h
  by_cases h2:80<l.length
  ·rw[if_pos h2] at h;cases h
  ·exact ⟨h1,by omega⟩
 ·rw[if_pos h1] at h;exact absurd h h1
structure ModF (K:Nat->Prop) (fs fs':List Fate):Prop where
 len:fs'.length=fs.length
 step:∀k,(fs'.getD k default).step=(fs.getD k default).step
 client:∀k,(fs'.getD k default).client=(fs.getD k default).client
 same:∀k,¬K k->fs'.getD k default=fs.getD k default
theorem ModF.refl (K:Nat->Prop) (fs:List Fate):ModF K fs fs:=⟨rfl,λ_=>rfl,λ_=>rfl,λ_ _=>rfl⟩
theorem ModF.trans {K:Nat->Prop} {a b c:List Fate} (h:ModF K a b) (k:ModF K b c):ModF K a c:=⟨k.len.trans h.len,λi=>(k.step i).trans (h.step i),λi=>(k.client i).trans (h.client i),λi hi=>(k.same i hi).trans (h.same i hi)⟩
theorem de (fs:List Fate) (k:Nat) (f:Fate) (i:Nat):(fs.set k f).getD i default=if i=k/\k<fs.length then f else fs.getD i default:=by
 rw[Xq,YM]
 by_cases e:k=i
 ·subst e
  by_cases h:k<fs.length
  ·rw[if_pos rfl,if_pos h,if_pos ⟨rfl,h⟩];rfl
  ·rw[if_pos rfl,if_neg h,if_neg Z9,Xq,List.getElem?_eq_none z8]
 ·rw[if_neg e,if_neg (by intro h;exact e h.1.symm),Xq]
theorem C9 {K:Nat->Prop} (fs:List Fate) (k:Nat) (hk:K k) (g:Fate->Fate) (h1:∀f,(g f).step=f.step) (h2:∀f,(g f).client=f.client):ModF K fs (fs.set k (g (fs.getD k default))):=by
 refine ⟨by simp,λi=>?_,λi=>?_,λi hi=>?_⟩
 ·rw[de];split
  ·rename_i h;rw[h1,h.1]
  ·rfl
 ·rw[de];split
  ·rename_i h;rw[h2,h.1]
  ·rfl
 ·rw[de,if_neg];intro h;rw[h.1] at hi;exact hi hk
theorem Ac {K:Nat->Prop} (fs:List Fate) (k:Nat) (hk:K k) (w:Int):ModF K fs (fC fs k w):=C9 fs k hk (λf=>{ f with whr:=w }) (λ_=>rfl) (λ_=>rfl)
theorem uf {K:Nat->Prop}:∀(l:List Nat) (vs:List Verdict) (fs:List Fate),(∀k,k∈l->K k)->ModF K fs (cJ l vs fs)
 | [],_,fs,_=>by unfold cJ;exact ModF.refl _ _
 | _::_,[],fs,_=>by unfold cJ;exact ModF.refl _ _
 | k::l,v::vs,fs,h=>by
  unfold cJ;exact (Ac fs k (h k List.mem_cons_self) _).trans (uf l vs _ λi hi=>h i (List.mem_cons_of_mem _ hi))
theorem ug {K:Nat->Prop} (now:List Rec):∀(l:List Nat) (rs:List Rec) (fs:List Fate),(∀k,k∈l->K k)->ModF K fs (cw now l rs fs)
 | [],_,fs,_=>by unfold cw;exact ModF.refl _ _
 | _::_,[],fs,_=>by unfold cw;exact ModF.refl _ _
 | k::l,r::rs,fs,h=>by
  unfold cw;refine ModF.trans ?_ (ug now l rs _ λi hi=>h i (List.mem_cons_of_mem _ hi));split
  ·exact ModF.refl _ _
  ·exact Ac fs k (h k List.mem_cons_self) _
theorem sH {K:Nat->Prop} (was:Cli) (ks:List Nat) (n:Nat):∀(rs:List Rec) (fs:List Fate),(∀r,r∈rs->K (dD was ks n r.id))->ModF K fs (iA was ks n rs fs)
 | [],fs,_=>ModF.refl _ _
 | r::rs,fs,h=>by
  unfold iA;exact (C9 fs _ (h r List.mem_cons_self) (λf=>{ f with kind:=r.act.kind,whr:=2 }) (λ_=>rfl) (λ_=>rfl)).trans (sH was ks n rs _ λq hq=>h q (List.mem_cons_of_mem _ hq))
theorem B0 (was:Cli) (ks:List Nat) (n:Nat):∀(rs:List Rec) (fs:List Fate),(rs.map λr=>dD was ks n r.id).Nodup->(∀r,r∈rs->dD was ks n r.id<fs.length)->∀r,r∈rs ->
  ((iA was ks n rs fs).getD (dD was ks n r.id) default).whr=2/\((iA was ks n rs fs).getD (dD was ks n r.id) default).kind=r.act.kind
 | [],_,_,_,r,h=>by cases h
 | q::rs,fs,hn,hl,r,h=>by
  rw[List.map_cons,List.nodup_cons] at hn;unfold iA
  rcases List.mem_cons.1 h with rfl | h
  ·have hm:=sH (K:=λk=>k∈rs.map λr=>dD was ks n r.id) was ks n rs (fs.set (dD was ks n r.id) { fs.getD (dD was ks n r.id) default with kind:=r.act.kind,whr:=2 }) λq hq=>W5.2 ⟨q,hq,rfl⟩
   rw[hm.same _ hn.1,de,if_pos ⟨rfl,hl r List.mem_cons_self⟩];exact ⟨rfl,rfl⟩
  ·exact B0 was ks n rs _ hn.2 (λx hx=>by rw[YN];exact hl x (List.mem_cons_of_mem _ hx)) r h
theorem po {was:Cli} {ks:List Nat} {n:Nat} {id:Int} (h:was.logged<id):dD was ks n id=n+(id-was.logged-1).toNat:=by
 unfold dD;split
 ·rw[if_pos h]
 ·rfl
theorem nB {was:Cli} (hI:IdI was) {ks:List Nat} (n:Nat) (hl:ks.length=was.log.length) {q:Rec} (hq:q∈was.log):∃i,i<ks.length/\(was.log.getD i default).id=q.id/\dD was ks n q.id=ks.getD i 0:=by
 have hle:=(hI.bnd q hq).2;unfold dD;cases e:was.log.findIdx? λr=>r.id==q.id with
 | none=>
  have:=YL.1 e q hq;simp at this
 | some i=>
  obtain ⟨h1,h2,_⟩:=YK.1 e;refine ⟨i,by omega,?_,?_⟩
  ·rw[Xq,Wz h1];simpa using h2
  ·simp only;rw[if_neg z8]
theorem qt {l:List Nat} {i:Nat} (h:i<l.length):l.getD i 0∈l:=by
 rw[Xq,Wz h];exact YW _
theorem vZ {was now:Cli} (hI:IdI was) (hS:LS was now) {ks:List Nat} (n:Nat) (hl:ks.length=was.log.length) {r:Rec} (hr:r∈now.log) :
  (dD was ks n r.id∈ks)\/(n<=dD was ks n r.id/\dD was ks n r.id<n+(now.logged-was.logged).toNat):=by
 rcases hS.from_ r hr with ⟨q,hq,he⟩ | ⟨h1,h2⟩
 ·obtain ⟨i,h3,_,h5⟩:=nB hI n hl hq;rw[<-he,h5];exact .inl (qt h3)
 ·rw[po h1];exact .inr ⟨by omega,by omega⟩
theorem IX {was now:Cli} (hI:IdI was) (hS:LS was now) {ks:List Nat} {n:Nat} (hl:ks.length=was.log.length) (hn:ks.Nodup) (hlt:∀k,k∈ks->k<n) {r q:Rec} (hr:r∈now.log) (hq:q∈now.log) (he:dD was ks n r.id=dD was ks n q.id):r.id=q.id:=by
 rcases hS.from_ r hr with ⟨r',hr',er⟩ | ⟨h1,h2⟩
 ·rcases hS.from_ q hq with ⟨q',hq',eq⟩ | ⟨h3,h4⟩
  ·obtain ⟨i,i1,i2,i3⟩:=nB hI n hl hr';obtain ⟨j,j1,j2,j3⟩:=nB hI n hl hq';rw[<-er,<-eq,i3,j3] at he;rw[Xq,Xq,Wz i1,Wz j1] at he;have hij:i=j:=(List.getElem_inj (h₀:=i1) (h₁:=j1) hn).1 he;subst hij;rw[<-er,<-eq,<-i2,<-j2]
  ·obtain ⟨i,i1,i2,i3⟩:=nB hI n hl hr';have:=hlt _ (qt i1);rw[<-er,i3,po h3] at he;omega
 ·rcases hS.from_ q hq with ⟨q',hq',eq⟩ | ⟨h3,h4⟩
  ·obtain ⟨j,j1,j2,j3⟩:=nB hI n hl hq';have:=hlt _ (qt j1);rw[<-eq,j3,po h1] at he;omega
  ·rw[po h1,po h3] at he;omega
theorem vY {was now:Cli} (hI:IdI was) (hS:LS was now) (hJ:IdI now) {ks:List Nat} {n:Nat} (hl:ks.length=was.log.length) (hn:ks.Nodup) (hlt:∀k,k∈ks->k<n):(now.log.map λr=>dD was ks n r.id).Nodup:=by
 have key:∀(l:List Rec),(∀r,r∈l->r∈now.log)->(l.map (·.id)).Pairwise (·<·)->(l.map λr=>dD was ks n r.id).Nodup:=λl=>by
  induction l with
  | nil=>exact λ_ _=>List.Pairwise.nil
  | cons r l ih=>
   intro hm hp;rw[List.map_cons] at hp ⊢;have hp:=List.pairwise_cons.1 hp;rw[List.nodup_cons];refine ⟨λhin=>?_,ih (λq hq=>hm q (List.mem_cons_of_mem _ hq)) hp.2⟩;obtain ⟨q,hq,he⟩:=W5.1 hin;have h1:=IX hI hS hl hn hlt (hm q (List.mem_cons_of_mem _ hq)) (hm r List.mem_cons_self) he;have h2:=hp.1 q.id (W5.2 ⟨q,hq,rfl⟩);omega
 exact key now.log (λ_ h=>h) hJ.rise
structure LI (cs:List Cli) (b:Bk):Prop where
 len:b.logs.length=cs.length
 each:∀c,c<cs.length->(b.logs.getD c []).length=(cs.getD c default).log.length
 nod:∀c,c<cs.length->(b.logs.getD c []).Nodup
 at_:∀c,c<cs.length->∀k,k∈b.logs.getD c []->k<b.fates.length/\(b.fates.getD k default).whr=2/\(b.fates.getD k default).client=(c:Int)
structure ExtB (i:Int) (b b':Bk):Prop where
 len:b.fates.length<=b'.fates.length
 step:∀k,k<b.fates.length->(b'.fates.getD k default).step=(b.fates.getD k default).step/\(b'.fates.getD k default).client=(b.fates.getD k default).client
 same:∀k,k<b.fates.length->(b.fates.getD k default).whr≠2->b'.fates.getD k default=b.fates.getD k default
 new:∀k,b.fates.length<=k->k<b'.fates.length->(b'.fates.getD k default).step=i
theorem ExtB.refl (i:Int) (b:Bk):ExtB i b b:=⟨W7 _,λ_ _=>⟨rfl,rfl⟩,λ_ _ _=>rfl,λk h1 h2=>by omega⟩
theorem ig {α:Type} {a b:List α} {d:α} {k:Nat} (h:k<a.length):(a++b).getD k d=a.getD k d:=by
 rw[Xq,YP h,Xq]
theorem gk {α:Type} {a b:List α} {d:α} {k:Nat} (h:a.length<=k):(a++b).getD k d=b.getD (k-a.length) d:=by
 rw[Xq,YO h,Xq]
theorem D' {cs cs':List Cli} {b:Bk} (h:LI cs b) {j:Nat} (hj:j<cs.length) (hc:cs'.length=cs.length) (ho:∀c,c≠j->(cs'.getD c default).log=(cs.getD c default).log) (step:Int)
  (hI:IdI (cs.getD j default)) (hJ:IdI (cs'.getD j default)) (hS:LS (cs.getD j default) (cs'.getD j default)) :
  LI cs' (bT step j (cs.getD j default) (cs'.getD j default) b)/\ExtB step b (bT step j (cs.getD j default) (cs'.getD j default) b):=by
 have hl:=h.each j hj;have hnd:=h.nod j hj;have hat:=h.at_ j hj;have hlt:∀k,k∈b.logs.getD j []->k<b.fates.length:=λk hk=>(hat k hk).1
 have hnod:=vY hI hS hJ (n:=b.fates.length) hl hnd hlt;have hwh:=λr hr=>vZ (r:=r) hI hS b.fates.length hl hr
 have hother:∀c,c<cs.length->c≠j->∀k,k∈b.logs.getD c []->k∉b.logs.getD j []:=λc hcl hne k hk hk2=>by
  have h1:=(h.at_ c hcl k hk).2.2;have h2:=(hat k hk2).2.2;rw[h1] at h2;omega
 generalize hwas:cs.getD j default=was at *;generalize hnow:cs'.getD j default=now at *;generalize hks:b.logs.getD j []=ks at *;have hmd:=ug (K:=λk=>k∈ks) now.log ks was.log b.fates λ_ hk=>hk
 have hF1l:(cw now.log ks was.log b.fates++fo step j (now.logged-was.logged).toNat).length=b.fates.length+(now.logged-was.logged).toNat:=by
  rw[List.length_append,hmd.len];simp[fo]
 have hmn:=sH (K:=λk=>k∈ks\/b.fates.length<=k) was ks b.fates.length now.log (cw now.log ks was.log b.fates++fo step j (now.logged-was.logged).toNat) λr hr=>by
  rcases hwh r hr with h1 | h1
  ·exact .inl h1
  ·exact .inr h1.1
 have hnew:∀k,b.fates.length<=k->k<b.fates.length+(now.logged-was.logged).toNat->(cw now.log ks was.log b.fates++fo step j (now.logged-was.logged).toNat).getD k default=⟨step,j,4,4⟩:=λk h1 h2=>by
  rw[gk (by rw[hmd.len];exact h1),hmd.len];unfold fo;rw[Xq,Ys,if_pos z8];rfl
 have hfl:(bT step j was now b).fates.length=b.fates.length+(now.logged-was.logged).toNat:=by
  unfold bT;rw[hks]
  show (iA _ _ _ _ _).length=_
  rw[hmn.len,hF1l]
 have hold:∀k,k<b.fates.length->((bT step j was now b).fates.getD k default).step=(b.fates.getD k default).step/\((bT step j was now b).fates.getD k default).client=(b.fates.getD k default).client/\(k∉ks->(bT step j was now b).fates.getD k default=b.fates.getD k default):=λk hk=>by
  unfold bT;rw[hks];simp only;have e:(cw now.log ks was.log b.fates++fo step j (now.logged-was.logged).toNat).getD k default=(cw now.log ks was.log b.fates).getD k default:=ig (by rw[hmd.len];exact hk);refine ⟨by rw[hmn.step,e,hmd.step],by rw[hmn.client,e,hmd.client],λhn=>?_⟩;rw[hmn.same k (by intro h1;rcases h1 with h1 | h1;exact hn h1;omega),e,hmd.same k hn]
 have hlogs:(bT step j was now b).logs=b.logs.set j (now.log.map λr=>dD was ks b.fates.length r.id):=by unfold bT;rw[hks]
 have aa:∀c,(bT step j was now b).logs.getD c []=if c=j then now.log.map (λr=>dD was ks b.fates.length r.id) else b.logs.getD c []:=λc=>by
  rw[hlogs,Xq,YM]
  by_cases e:j=c
  ·subst e;rw[if_pos rfl,if_pos (by rw[h.len];exact hj),if_pos rfl];rfl
  ·rw[if_neg e,if_neg (λh=>e h.symm),Xq]
 have hwas':=hwas;refine ⟨⟨by rw[hlogs,YN,h.len,hc],λc hcl=>?_,λc hcl=>?_,λc hcl k hk=>?_⟩,⟨by rw[hfl];omega,λk hk=>⟨(hold k hk).1,(hold k hk).2.1⟩,λk hk hw=>(hold k hk).2.2 λhin=>hw (hat k hin).2.1,λk h1 h2=>?_⟩⟩
 ·rw[aa c]
  by_cases e:c=j
  ·subst e;rw[if_pos rfl,List.length_map,hnow]
  ·rw[if_neg e,ho c e];exact h.each c z8
 ·rw[aa c]
  by_cases e:c=j
  ·rw[if_pos e];exact hnod
  ·rw[if_neg e];exact h.nod c z8
 ·rw[aa c] at hk
  by_cases e:c=j
  ·rw[if_pos e] at hk;obtain ⟨r,hr,rfl⟩:=W5.1 hk;have hb:dD was ks b.fates.length r.id<b.fates.length+(now.logged-was.logged).toNat:=by
    rcases hwh r hr with h1 | h1
    ·have:=hlt _ h1;omega
    ·exact h1.2
   refine ⟨by rw[hfl];exact hb,?_,?_⟩
   ·have:=(B0 was ks b.fates.length now.log (cw now.log ks was.log b.fates++fo step j (now.logged-was.logged).toNat) hnod (λq hq=>by
     rw[hF1l]
     rcases hwh q hq with h1 | h1
     ·have:=hlt _ h1;omega
     ·exact h1.2) r hr).1
    unfold bT;rw[hks];exact this
   ·rw[e]
    rcases hwh r hr with h1 | h1
    ·rw[(hold _ (hlt _ h1)).2.1];exact (hat _ h1).2.2
    ·unfold bT;rw[hks]
     show ((iA was ks b.fates.length now.log (cw now.log ks was.log b.fates++fo step j (now.logged-was.logged).toNat)).getD (dD was ks b.fates.length r.id) default).client=(j:Int)
     rw[hmn.client,hnew _ h1.1 h1.2]
  ·rw[if_neg e] at hk;have hk0:=h.at_ c z8 k hk;have hnk:k∉ks:=by
    intro hin;have h1:=(hat k hin).2.2;rw[hk0.2.2] at h1;omega
   rw[(hold k hk0.1).2.2 hnk,hfl];exact ⟨by omega,hk0.2⟩
 ·rw[hfl] at h2;unfold bT;rw[hks]
  show ((iA was ks b.fates.length now.log (cw now.log ks was.log b.fates++fo step j (now.logged-was.logged).toNat)).getD k default).step=step
  rw[hmn.step,hnew k h1 h2]
theorem jl (t:List Node) (c:Cli):(bq t c).log=c.log:=by unfold bq;split<;>rfl
structure WorC (w:Wor) (x:Step) (j:Nat):Prop where
 len:(au w x).w.cs.length=w.cs.length
 at_:(au w x).w.cs.getD j default=bq (al ⟨w.cs.getD j default,w.s⟩ x).u.s.tree (al ⟨w.cs.getD j default,w.s⟩ x).u.c
 other:∀c,c<w.cs.length->c≠j->(au w x).w.cs.getD c default=bq (al ⟨w.cs.getD j default,w.s⟩ x).u.s.tree (w.cs.getD c default)
theorem sU {w:Wor} {x:Step} (hx:¬(x.client<0\/x.client≥w.cs.length)):WorC w x x.client.toNat:=by
 have hi:x.client.toNat<w.cs.length:=by omega
 have hW:(au w x).w.cs=(w.cs.set x.client.toNat (al ⟨w.cs.getD x.client.toNat default,w.s⟩ x).u.c).map (bq (al ⟨w.cs.getD x.client.toNat default,w.s⟩ x).u.s.tree):=by
  unfold au;rw[if_neg hx]
 generalize x.client.toNat=j at *;refine ⟨by rw[hW];simp,?_,λc hc hne=>?_⟩
 ·rw[hW,Xq,W2,YM,if_pos rfl,if_pos hi];rfl
 ·have e2:w.cs.getD c default=w.cs[c]:=by rw[Xq,Wz hc];rfl
  rw[e2,hW,Xq,W2,YM,if_neg (λh=>hne h.symm),Wz hc];rfl
theorem Fv {cs cs':List Cli} {b:Bk} (h:LI cs b) {j:Nat} (hj:j<cs.length) (hc:cs'.length=cs.length) (ho:∀c,c<cs.length->c≠j->(cs'.getD c default).log=(cs.getD c default).log) (hz:(cs'.getD j default).log=[]) (vs:List Verdict) (i:Int) :
  LI cs' (rh j vs b)/\ExtB i b (rh j vs b):=by
 have hat:=h.at_ j hj;have hm:=uf (K:=λk=>k∈b.logs.getD j []) (b.logs.getD j []) vs b.fates λ_ hk=>hk
 have aa:∀c,(rh j vs b).logs.getD c []=if c=j then [] else b.logs.getD c []:=λc=>by
  show (b.logs.set j []).getD c []=_
  rw[Xq,YM]
  by_cases e:j=c
  ·subst e;rw[if_pos rfl,if_pos (by rw[h.len];exact hj),if_pos rfl];rfl
  ·rw[if_neg e,if_neg (λh=>e h.symm),Xq]
 have hfl:(rh j vs b).fates.length=b.fates.length:=hm.len;refine ⟨⟨by show (b.logs.set j []).length=_;rw[YN,h.len,hc],λc hcl=>?_,λc hcl=>?_,λc hcl k hk=>?_⟩,⟨by rw[hfl];exact W7 _,λk _=>⟨hm.step k,hm.client k⟩,λk hk hw=>hm.same k λhin=>hw (hat k hin).2.1,λk h1 h2=>by rw[hfl] at h2;omega⟩⟩
 ·rw[aa c]
  by_cases e:c=j
  ·rw[if_pos e,e,hz];rfl
  ·rw[if_neg e,ho c z8 e];exact h.each c z8
 ·rw[aa c]
  by_cases e:c=j
  ·rw[if_pos e];exact List.Pairwise.nil
  ·rw[if_neg e];exact h.nod c z8
 ·rw[aa c] at hk
  by_cases e:c=j
  ·rw[if_pos e] at hk;cases hk
  ·rw[if_neg e] at hk;have hk0:=h.at_ c z8 k hk;have hnk:k∉b.logs.getD j []:=by
    intro hin;have h1:=(hat k hin).2.2;rw[hk0.2.2] at h1;omega
   refine ⟨by rw[hfl];exact hk0.1,?_⟩
   show ((cJ (b.logs.getD j []) vs b.fates).getD k default).whr=2/\((cJ (b.logs.getD j []) vs b.fates).getD k default).client=(c:Int)
   rw[hm.same k hnk];exact hk0.2
theorem F6 {cs cs':List Cli} {b:Bk} (h:LI cs b) (hc:cs'.length=cs.length) (ho:∀c,c<cs.length->(cs'.getD c default).log.length=(cs.getD c default).log.length) (i:Int) (ps:List Past):LI cs' (jD i ps b)/\ExtB i b (jD i ps b):=by
 have hl:∀k,k<b.fates.length->(jD i ps b).fates.getD k default=b.fates.getD k default:=λk hk=>ig hk
 refine ⟨⟨h.len.trans hc.symm,λc hcl=>(h.each c z8).trans (ho c z8).symm,λc hcl=>h.nod c z8,λc hcl k hk=>?_⟩,⟨?_,λk hk=>by rw[hl k hk];exact ⟨rfl,rfl⟩,λk hk _=>hl k hk,λk h1 h2=>?_⟩⟩
 ·have hk0:=h.at_ c z8 k hk;rw[hl k hk0.1];exact ⟨by show k<(b.fates++_).length;rw[List.length_append];omega,hk0.2⟩
 ·show b.fates.length<=(b.fates++_).length
  rw[List.length_append];omega
 ·show ((b.fates++ps.map λp=>(⟨i,p.client,p.act.kind,1⟩:Fate)).getD k default).step=i
  have h2:k<(b.fates++ps.map λp=>(⟨i,p.client,p.act.kind,1⟩:Fate)).length:=h2;rw[List.length_append,List.length_map] at h2;rw[gk h1,Xq,W2,Wz z8];rfl
theorem C0 {B T:Nat} {w:Wor} {b:Bk} (hw:WInv B T w) (hI:WId w) (h:LI w.cs b) (i:Nat) (x:Step):LI (au w x).w.cs (ef w i x b)/\ExtB i b (ef w i x b):=by
 by_cases hx:x.client<0\/x.client≥w.cs.length
 ·have h1:au w x=⟨w,cD 6⟩:=by unfold au;rw[if_pos hx]
  have h2:ef w i x b=b:=by unfold ef;rw[if_pos hx]
  rw[h1,h2];exact ⟨h,ExtB.refl _ _⟩
 ·have hc:=sU hx;have hi:x.client.toNat<w.cs.length:=by omega
  have hJ:=(hI.step x).ids ((au w x).w.cs.getD x.client.toNat default) (YG (by rw[hc.len];exact hi));have hIj:=hI.ids (w.cs.getD x.client.toNat default) (YG hi);have hu:=hw.at hi;have hlo:∀c,c<w.cs.length->c≠x.client.toNat->((au w x).w.cs.getD c default).log=(w.cs.getD c default).log:=λc hcl hne=>by rw[hc.other c hcl hne,jl]
  unfold ef;rw[if_neg hx]
  by_cases h8:x.kind=8
  ·rw[if_pos h8];refine Fv h hi hc.len hlo ?_ _ i;rw[hc.at_,jl];unfold al;simp only[h8];rfl
  ·rw[if_neg h8]
   by_cases ha:(w.cs.getD x.client.toNat default).away=true
   ·rw[if_pos ha];refine D' h hi hc.len (λc hne=>?_) i hIj hJ ?_
    ·by_cases hcl:c<w.cs.length
     ·exact hlo c hcl hne
     ·rw[Xq,Xq,List.getElem?_eq_none (by rw[hc.len];omega),List.getElem?_eq_none z8]
    ·rw[hc.at_];exact (yy ⟨w.cs.getD x.client.toNat default,w.s⟩ x).trans (tO _ _)
   ·have ha:(w.cs.getD x.client.toNat default).away=false:=by simpa using ha
    rw[if_neg (by rw[ha];simp)];refine F6 h hc.len (λc hcl=>?_) i _
    by_cases e:c=x.client.toNat
    ·subst e;have h0:=(hu.cli.here ha).1;simp only at h0;rw[h0,hc.at_,jl]
     by_cases h7:x.kind=7
     ·unfold al;simp only[h7]
      show (w.cs.getD x.client.toNat default).log.length=0
      rw[h0];rfl
     ·have hst:=xg ⟨w.cs.getD x.client.toNat default,w.s⟩ ha x h7;rw[((nr hu x).cli.here hst).1]
    ·rw[hlo c hcl e]
structure Kept2 (n:Nat) (b b':Bk):Prop where
 len:b.fates.length<=b'.fates.length
 old:∀k,k<b.fates.length->(b'.fates.getD k default).step=(b.fates.getD k default).step/\(b'.fates.getD k default).client=(b.fates.getD k default).client/\((b.fates.getD k default).whr≠2->b'.fates.getD k default=b.fates.getD k default)
 new:∀k,b.fates.length<=k->k<b'.fates.length->(n:Int)<=(b'.fates.getD k default).step
structure GoodK (B T:Nat) (g:GotK):Prop where
 w:WInv B T g.w
 ids:WId g.w
 li:LI g.w.cs g.b
theorem C5:∀(l:List Step) {B T:Nat} {g:GotK},GoodK B T g->GoodK (B+20*l.length) (T+300*l.length) (l.foldl (λg x=>(⟨(au g.w x).w,ef g.w g.i x g.b,g.i+1⟩:GotK)) g)/\(l.foldl (λg x=>(⟨(au g.w x).w,ef g.w g.i x g.b,g.i+1⟩:GotK)) g).i=g.i+l.length
 | [],_,_,_,h=>⟨h,rfl⟩
 | x::l,B,T,g,h=>by
  have:=C5 l (B:=B+20) (T:=T+300) (g:=⟨(au g.w x).w,ef g.w g.i x g.b,g.i+1⟩) ⟨lh h.w x,h.ids.step x,(C0 h.w h.ids h.li g.i x).1⟩;rw[show B+20*(x::l).length=B+20+20*l.length by simp;omega,show T+300*(x::l).length=T+300+300*l.length by simp;omega];refine ⟨this.1,?_⟩;rw[List.foldl_cons,this.2,List.length_cons]
  show g.i+1+l.length=g.i+(l.length+1)
  omega
theorem tV {rooms:List Int} (hr:bl rooms=0):GoodK 0 0 ⟨gr rooms,⟨[],List.replicate rooms.length []⟩,0⟩:=by
 have hcs:∀c,c∈(gr rooms).cs->c.log=[]/\IdI c:=λc hc=>by
  unfold gr gq at hc;obtain ⟨j,_,rfl⟩:=W5.1 hc;exact ⟨rfl,IdI.new _ _⟩
 have hlen:(gr rooms).cs.length=rooms.length:=by unfold gr gq;simp
 have hrep:∀c,(List.replicate rooms.length ([]:List Nat)).getD c []=[]:=λc=>by
  rw[Xq,Ys];split<;>rfl
 refine ⟨yb hr,⟨λc hc=>(hcs c hc).2⟩,⟨by rw[hlen];simp,λc hc=>?_,λc hc=>?_,λc hc k hk=>?_⟩⟩
 ·show ((List.replicate rooms.length ([]:List Nat)).getD c []).length=_
  rw[hrep,(hcs _ (YG hc)).1];rfl
 ·show ((List.replicate rooms.length ([]:List Nat)).getD c []).Nodup
  rw[hrep];exact List.Pairwise.nil
 ·have hk:k∈(List.replicate rooms.length ([]:List Nat)).getD c []:=hk;rw[hrep] at hk;cases hk
noncomputable def dC (rooms:List Int) (l:List Step) (i:Nat):GotK:=ly rooms (l.take i)
theorem rr {rooms:List Int} {l:List Step} {i:Nat} (h:i<l.length):dC rooms l (i+1)=⟨(au (dC rooms l i).w (l.getD i default)).w,ef (dC rooms l i).w (dC rooms l i).i (l.getD i default) (dC rooms l i).b,(dC rooms l i).i+1⟩:=by
 unfold dC ly;rw[ZT h,List.foldl_append];rfl
theorem rq {rooms:List Int} (hr:bl rooms=0) (l:List Step) (i:Nat) (hi:i<=l.length):GoodK (20*l.length) (300*l.length) (dC rooms l i)/\(dC rooms l i).i=i:=by
 have h:=C5 (l.take i) (tV hr);rw[YA,Yt hi] at h;obtain ⟨h1,h2⟩:=h;exact ⟨⟨⟨h1.w.srv.mono z8,λc hc=>(h1.w.cli c hc).mono z8 z8,h1.w.len⟩,h1.ids,h1.li⟩,h2.trans (Yc _)⟩
theorem F0 {rooms:List Int} (l:List Step):(ly rooms l).w=ll rooms l:=by
 have key:∀(l:List Step) (g:GotK),(l.foldl (λg x=>(⟨(au g.w x).w,ef g.w g.i x g.b,g.i+1⟩:GotK)) g).w=l.foldl (λw x=>(au w x).w) g.w:=λl=>by
  induction l with
  | nil=>exact λ_=>rfl
  | cons x l ih=>exact λg=>ih _
 exact key l _
theorem MI {w:Wor} {x:Step} (hx:¬(x.client<0\/x.client≥w.cs.length)):(au w x).w.s=(al ⟨w.cs.getD x.client.toNat default,w.s⟩ x).u.s:=by unfold au;rw[if_neg hx]
def Lj (w:Wor):Prop:=∀j,j<w.cs.length->(w.cs.getD j default).number=j
theorem Lj.step {w:Wor} (h:Lj w) (x:Step):Lj (au w x).w:=by
 by_cases hx:x.client<0\/x.client≥w.cs.length
 ·rw[show (au w x).w=w by unfold au;rw[if_pos hx]];exact h
 intro j hj;have hc:=sU hx;rw[hc.len] at hj;by_cases e:j=x.client.toNat
 ·subst e;rw[hc.at_,(tO _ _).num,(yy _ _).num];exact h _ hj
 rw[hc.other j hj e,(tO _ _).num];exact h j hj
theorem Bv {rooms:List Int} (l:List Step) (i:Nat):Lj (dC rooms l i).w:=by
 unfold dC;rw[F0];have key:∀(l:List Step) (w:Wor),Lj w->Lj (l.foldl (λw x=>(au w x).w) w):=λl=>by
  induction l with
  | nil=>exact λ_ h=>h
  | cons x l ih=>exact λw h=>ih _ (h.step x)
 refine key _ _ λj hj=>?_
 unfold gr gq at hj ⊢;simp only[List.length_map,List.length_range] at hj;rw[Xq,W2,Yo hj];rfl
theorem DM {B T:Nat} {w:Wor} {b:Bk} (hw:WInv B T w) (i:Nat) (x:Step):(ef w i x b).fates.length<=b.fates.length+(B+20):=by
 have hW:=lh hw x;unfold ef;split
 ·omega
 ·rename_i hx;split
  ·show (cJ _ _ b.fates).length<=_
   rw[qb];omega
  ·split
   ·unfold bT;simp only;rw[uo,List.length_append,qi,Ah];have h1:=(hw.cli (w.cs.getD x.client.toNat default) (YG z8)).logged;have h2:=(hW.cli ((au w x).w.cs.getD x.client.toNat default) (YG (by rw[(sU hx).len];omega))).logged;omega
   ·unfold jD;simp only;rw[List.length_append,List.length_map,YX];have:=hW.srv.len;omega
theorem tG {rooms:List Int} (hr:bl rooms=0) (l:List Step):∀i,i<=l.length->(dC rooms l i).b.fates.length<=i*(20*l.length+20)
 | 0,_=>by simp[dC,ly]
 | i+1,hi=>by
  rw[rr z8];have h:=tG hr l i z8;have h2:=DM (rq hr l i z8).1.w (dC rooms l i).i (l.getD i default) (b:=(dC rooms l i).b);rw[Yy];simp only;omega
theorem pg {rooms:List Int} (hr:bl rooms=0) (l:List Step) (hl:l.length<=80) (i:Nat) (hi:i<=l.length):(dC rooms l i).b.fates.length<=129600:=by
 have h:=tG hr l i hi;have h2:i*(20*l.length+20)<=80*1620:=Nat.mul_le_mul z8 z8;omega
noncomputable def lz (rooms:List Int) (l:List Step):List Fate:=if jN rooms l=0 then (ly rooms l).b.fates else []
theorem Bu (rooms:List Int) (l:List Step):(lz rooms l).length<=129600:=by
 unfold lz;split
 ·rename_i he;obtain ⟨h1,h2⟩:=oE he;have:=pg h1 l h2 l.length (W7 _);unfold dC at this
  rwa [W4] at this
 ·simp
theorem tv (vs:List Verdict) (v:Verdict):bL (vs++[v])=bL vs+if v.err=0 then 1 else 0:=by
 unfold bL;rw[List.filter_append,List.length_append]
 by_cases e:v.err=0
 ·rw[if_pos e];simp[e]
 ·rw[if_neg e];simp[e]
theorem BH (t:List Node) (n v:Int) (log:List Rec):(bM t n v log).done.length=bL (bM t n v log).vs:=by
 have key:∀(l:List Rec) (s:JG),s.done.length=bL s.vs->(l.foldl iT s).done.length=bL (l.foldl iT s).vs:=λl=>by
  induction l with
  | nil=>exact λs h=>h
  | cons r l ih=>
   intro s h;refine ih (iT s r) ?_;unfold iT
   by_cases e:jK s.j r=0
   ·rw[if_pos e]
    show (s.done++[_]).length=bL (s.vs++[iK s.j r])
    rw[tv,List.length_append,h,if_pos (show (iK s.j r).err=0 from e)];rfl
   ·rw[if_neg e]
    show s.done.length=bL (s.vs++[iK s.j r])
    rw[tv,h,if_neg (show ¬(iK s.j r).err=0 from e)];rfl
 exact key log _ rfl
theorem rP:∀(l:List Rec) (vs:List Verdict),l.length=vs.length->(bY l vs).length+bL vs=vs.length
 | [],[],_=>rfl
 | [],_::_,h=>by simp at h
 | _::_,[],h=>by simp at h
 | r::l,v::vs,h=>by
  have ih:=rP l vs x7;have hd:bL (v::vs)=bL vs+if v.err=0 then 1 else 0:=by
   unfold bL;rw[List.filter_cons]
   by_cases e:v.err=0
   ·simp[e]
   ·simp[e]
  unfold bY;rw[hd,List.length_cons]
  by_cases e:v.err=0
  ·rw[if_pos e,if_pos e];omega
  ·rw[if_neg e,if_neg e,List.length_cons];omega
structure BackOK (u:U):Prop where
 away:(gh u).c.away=false
 log:(gh u).c.log=[]
 done:bL (aw u)<=u.c.log.length
 vlen:(aw u).length=u.c.log.length
 repair:(gh u).c.repair.length=u.c.repair.length+(u.c.log.length-bL (aw u))
 past:(gh u).s.past.length=u.s.past.length+bL (aw u)
 clean:∀k,k∈(gh u).c.cache->k.dirty=false
theorem Fx {B T:Nat} {u:U} (h:xn B T u):BackOK u:=by
 have hfit:∀r,r∈u.c.log->ActFit r.act:=λr hr=>(h.cli.logS r hr).fit
 have hvl:(aw u).length=u.c.log.length:=(JInv.pt h.srv.hist u.c.number u.s.next u.c.log hfit).vlen;have hr:=rP u.c.log (aw u) hvl.symm;have hd:(bM u.s.tree u.s.next ((u.s.past.length+1:Nat):Int) u.c.log).done.length=bL (aw u):=BH _ _ _ _;refine ⟨rfl,rfl,by omega,hvl,?_,?_,λk hk=>?_⟩
 ·show (u.c.repair++bY u.c.log (aw u)).length=_
  rw[List.length_append];omega
 ·show (jU u.s u.c.number u.c.log).past.length=_
  unfold jU;rw[List.length_append,List.length_map,hd]
 ·have hk:k∈(u.c.cache.filter λk=>!k.dirty).filter λk=>!bN (il u).tree k:=hk
  have:=(YI.1 (YI.1 hk).1).2;simpa using this
def cnt (w:Int) (fs:List Fate):Nat:=fs.countP λf=>f.whr==w
theorem sr (w:Int) (a b:List Fate):cnt w (a++b)=cnt w a+cnt w b:=by unfold cnt;rw[List.countP_append]
theorem xw (w:Int):∀(fs:List Fate) (k:Nat) (f:Fate),k<fs.length->cnt w (fs.set k f)+(if (fs.getD k default).whr=w then 1 else 0)=cnt w fs+(if f.whr=w then 1 else 0)
 | [],_,_,h=>by simp at h
 | g::fs,0,f,_=>by
  unfold cnt;rw[List.set_cons_zero,List.countP_cons,List.countP_cons]
  show _+(if g.whr=w then 1 else 0)=_
  by_cases h1:g.whr=w<;>by_cases h2:f.whr=w<;>simp[h1,h2]
 | g::fs,k+1,f,h=>by
  have ih:=xw w fs k f x7;unfold cnt at ih ⊢;rw[List.set_cons_succ,List.countP_cons,List.countP_cons]
  show _+(if (fs.getD k default).whr=w then 1 else 0)=_
  omega
theorem yP:∀(ks:List Nat) (vs:List Verdict) (fs:List Fate),ks.length=vs.length->ks.Nodup->(∀k,k∈ks->k<fs.length/\(fs.getD k default).whr=2) ->
  cnt 1 (cJ ks vs fs)=cnt 1 fs+bL vs/\cnt 3 (cJ ks vs fs)=cnt 3 fs+(vs.length-bL vs)/\(∀k,k∈ks->((cJ ks vs fs).getD k default).whr≠2)/\bL vs<=vs.length
 | [],[],fs,_,_,_=>⟨rfl,rfl,λk h=>Ql,W7 _⟩
 | [],_::_,_,h,_,_=>by simp at h
 | _::_,[],_,h,_,_=>by simp at h
 | k::ks,v::vs,fs,hl,hn,hk=>by
  have hn:=List.nodup_cons.1 hn;have hk0:=hk k List.mem_cons_self;have hse:fC fs k (if v.err=0 then 1 else 3)=fs.set k { fs.getD k default with whr:=if v.err=0 then 1 else 3 }:=rfl;have hstep:=λw=>xw w fs k { fs.getD k default with whr:=if v.err=0 then 1 else 3 } hk0.1
  have hlen:(fs.set k { fs.getD k default with whr:=if v.err=0 then 1 else 3 }).length=fs.length:=YN;have hother:∀q,q∈ks->((fs.set k { fs.getD k default with whr:=if v.err=0 then 1 else 3 }).getD q default).whr=2:=λq hq=>by
   rw[de,if_neg WV];exact (hk q (List.mem_cons_of_mem _ hq)).2
  have ih:=yP ks vs (fs.set k { fs.getD k default with whr:=if v.err=0 then 1 else 3 }) QN hn.2 λq hq=>⟨by rw[hlen];exact (hk q (List.mem_cons_of_mem _ hq)).1,hother q hq⟩
  have hd:bL (v::vs)=bL vs+if v.err=0 then 1 else 0:=by
   unfold bL;rw[List.filter_cons]
   by_cases e:v.err=0
   ·simp[e]
   ·simp[e]
  have h1:=hstep 1;have h3:=hstep 3;rw[hk0.2] at h1 h3;have hb:cJ (k::ks) (v::vs) fs=cJ ks vs (fs.set k { fs.getD k default with whr:=if v.err=0 then 1 else 3 }):=rfl;rw[hb,hd,List.length_cons];obtain ⟨i1,i3,i2,i4⟩:=ih;refine ⟨?_,?_,λq hq=>?_,?_⟩
  ·rw[i1]
   by_cases e:v.err=0
   ·simp[e] at h1 ⊢;omega
   ·simp[e] at h1 ⊢;omega
  ·rw[i3]
   by_cases e:v.err=0
   ·simp[e] at h3 ⊢;omega
   ·simp[e] at h3 ⊢;omega
  ·rcases List.mem_cons.1 hq with rfl | hq
   ·have hm:=uf (K:=λq=>q∈ks) ks vs (fs.set q { fs.getD q default with whr:=if v.err=0 then 1 else 3 }) λ_ h=>h
    rw[hm.same q hn.1,de,if_pos ⟨rfl,hk0.1⟩]
    show (if v.err=0 then (1:Int) else 3)≠2
    split<;>decide
   ·exact i2 q hq
  ·split<;>omega
structure RelU (R:U->U->Prop):Prop where
 trans:∀{a b c:U},R a b->R b c->R a c
 idle:∀{u v:U},Idle u v->R u v
 act:∀(u:U) (a:Act) (seen:Int),R u (bU u a seen).u
 away:∀u:U,R u ⟨{ u.c with away:=true },u.s⟩
 back:∀u:U,R u (gh u)
 hoard:∀(u:U) (h:List Hoard),R u ⟨{ u.c with hoards:=h },u.s⟩
theorem RelU.put {R:U->U->Prop} (h:RelU R) (g:Got) (data:List UInt8):R g.u (gb g data).u:=by
 unfold gb;split
 ·exact h.idle (Idle.refl _)
 ·exact h.act _ _ _
theorem RelU.step {R:U->U->Prop} (h:RelU R) (u:U) (x:Step):R u (al u x).u:=by
 have h0:=h.idle (Idle.refl u);unfold al;split
 ·split
  ·exact h0
  ·exact h.idle (di _ _ _)
 ·split
  ·have hd:=h.idle (bz u x.path);unfold bI;split
   ·exact hd
   ·split
    ·exact hd
    ·split
     ·exact h.trans hd (h.trans (h.idle (fj _ _ _)) (h.put _ x.data))
     ·have hk:=h.trans hd (h.act (ah u x.path).u (cL (ah u x.path).n.fid (ah u x.path).name) (-1));split
      ·exact hk
      ·exact h.trans hk (h.trans (h.idle (di _ _ _)) (h.put _ x.data))
  ·split
   ·have hd:=h.idle (bz u x.path);unfold d_;split
    ·exact hd
    ·exact h.trans hd (h.act _ _ _)
   ·split
    ·have hd:=h.idle (ee u x.path);unfold bu;split
     ·exact hd
     ·exact h.trans hd (h.act _ _ _)
    ·split
     ·have hd:=h.idle (ee u x.path);have he:=h.trans hd (h.idle (bz (atU u x.path).u x.toPath));unfold cN;split
      ·exact hd
      ·split
       ·exact he
       ·exact h.trans he (h.act _ _ _)
     ·split
      ·exact h.away u
      ·split
       ·exact h.back u
       ·split
        ·unfold cX;split
         ·exact h0
         ·split
          ·exact h0
          ·split
           ·exact h0
           ·exact h.hoard u _
        ·split
         ·split
          ·exact h0
          ·exact h.idle (fZ _ ⟨0,u⟩)
         ·exact h0
theorem s_ {l:List Node} {a:Act} (he:aF l a=0):1<=a.kind/\a.kind<=5:=by
 by_cases h:1<=a.kind/\a.kind<=5
 ·exact h
 ·unfold aF at he;rw[if_neg z8,if_neg z8,if_neg z8,if_neg z8,if_neg z8] at he;cases he
theorem Hist.kind {p:List Past} {t:List Node} (h:Hist p t):∀q,q∈p->1<=q.act.kind/\q.act.kind<=5:=by
 induction h with
 | nil=>intro q hq;cases hq
 | @snoc p t c a h ha he ih=>
  intro q hq
  rcases List.mem_append.1 hq with hq | hq
  ·exact ih q hq
  ·rw[List.mem_singleton.1 hq];exact s_ he
structure LR (u v:U):Prop where
 num:v.c.number=u.c.number
 past:∃q,v.s.past=u.s.past++q/\∀p,p∈q->p.client=u.c.number
 log:∀r,r∈v.c.log->r∈u.c.log\/(1<=r.act.kind/\r.act.kind<=5)
theorem LR.same {u v:U} (h1:v.c.number=u.c.number) (h2:v.s=u.s) (h3:v.c.log=u.c.log):LR u v:=⟨h1,⟨[],by rw[h2,List.append_nil],λp hp=>(by cases hp)⟩,λr hr=>.inl (by rw[<-h3];exact hr)⟩
theorem LR.own (u:U) (a:Act) (seen:Int):LR u (jL u a seen).u:=by
 unfold jL;split
 ·exact LR.same rfl rfl rfl
 ·rename_i he;split
  ·exact LR.same rfl rfl rfl
  ·rename_i log hlog;split
   ·exact LR.same rfl rfl rfl
   ·unfold yf at hlog;refine ⟨rfl,⟨[],(List.append_nil _).symm,λp hp=>(by cases hp)⟩,λr hr=>?_⟩;have hr:r∈log:=hr
    rcases iU hlog with h1 | ⟨k,h1,rfl⟩
    ·exact .inl (h1.subset hr)
    ·rcases List.mem_append.1 hr with hr | hr
     ·exact .inl (h1.subset hr)
     ·rw[List.mem_singleton.1 hr];exact .inr (s_ (l:=cP u.c) (a:=eO u.c a) z8)
theorem LR.rel:RelU LR where
 trans:=λh k=>by
  obtain ⟨q,hq,hc⟩:=h.past;obtain ⟨r,hr,hd⟩:=k.past;refine ⟨k.num.trans h.num,⟨q++r,by rw[hr,hq,List.append_assoc],λp hp=>?_⟩,λr hr=>?_⟩
  ·rcases List.mem_append.1 hp with hp | hp
   ·exact hc p hp
   ·exact (hd p hp).trans h.num
  ·rcases k.log r hr with h1 | h1
   ·exact h.log r h1
   ·exact .inr h1
 idle:=λk=>LR.same k.number k.s k.log
 act:=λu a seen=>by
  unfold bU;split
  ·exact LR.own u a seen
  ·unfold fU;split
   ·exact ⟨rfl,⟨[⟨u.c.number,doA u.s a⟩],rfl,λp hp=>by rw[List.mem_singleton.1 hp]⟩,λr hr=>.inl hr⟩
   ·exact LR.same rfl rfl rfl
 away:=λu=>LR.same rfl rfl rfl
 back:=λu=>⟨rfl,⟨_,rfl,λp hp=>by obtain ⟨a,_,rfl⟩:=W5.1 hp;rfl⟩,λr hr=>Wr⟩
 hoard:=λu h=>LR.same rfl rfl rfl
theorem JN (u:U) (x:Step):LR u (al u x).u:=LR.rel.step u x
theorem oR (u:U) (a:Act) (seen:Int):(bU u a seen).u.c.repair=u.c.repair:=by
 unfold bU;split
 ·unfold jL;split
  ·rfl
  ·split
   ·rfl
   ·split<;>rfl
 ·unfold fU;split<;>rfl
theorem rT (u:U) (x:Step) (hk:x.kind≠8):(al u x).u.c.repair=u.c.repair:=by
 have hp:∀(g:Got) (data:List UInt8),(gb g data).u.c.repair=g.u.c.repair:=λg data=>by
  unfold gb;split
  ·rfl
  ·exact oR _ _ _
 unfold al;split
 ·split
  ·rfl
  ·exact (di _ _ _).rep
 ·split
  ·have hd:=(bz u x.path).rep;unfold bI;split
   ·exact hd
   ·split
    ·exact hd
    ·split
     ·exact (hp _ _).trans ((fj _ _ _).rep.trans hd)
     ·have hk:=(oR (ah u x.path).u (cL (ah u x.path).n.fid (ah u x.path).name) (-1)).trans hd;split
      ·exact hk
      ·exact (hp _ _).trans ((di _ _ _).rep.trans hk)
  ·split
   ·have hd:=(bz u x.path).rep;unfold d_;split
    ·exact hd
    ·exact (oR _ _ _).trans hd
   ·split
    ·have hd:=(ee u x.path).rep;unfold bu;split
     ·exact hd
     ·exact (oR _ _ _).trans hd
    ·split
     ·have hd:=(ee u x.path).rep;have he:=(bz (atU u x.path).u x.toPath).rep.trans hd;unfold cN;split
      ·exact hd
      ·split
       ·exact he
       ·exact (oR _ _ _).trans he
     ·split
      ·rfl
      ·split
       ·unfold cX;split
        ·rfl
        ·split
         ·rfl
         ·split<;>rfl
       ·split
        ·split
         ·rfl
         ·exact (fZ _ ⟨0,u⟩).rep
        ·rfl
theorem tj (w:Int):∀(fs:List Fate),cnt w fs=((List.range fs.length).filter λk=>(fs.getD k default).whr==w).length
 | []=>rfl
 | f::fs=>by
  have ih:=tj w fs;unfold cnt at ih ⊢;rw[List.length_cons,List.range_succ_eq_map,List.filter_cons,List.countP_cons,ih,List.filter_map];have h1:((λk=>((f::fs).getD k default).whr==w)∘Nat.succ)=λk=>(fs.getD k default).whr==w:=by funext k;rfl
  rw[h1]
  by_cases e:(f.whr==w)=true
  ·rw[if_pos e,if_pos (show (((f::fs).getD 0 default).whr==w)=true from e),List.length_cons,List.length_map]
  ·rw[if_neg e,if_neg (show ¬(((f::fs).getD 0 default).whr==w)=true from e),List.length_map];rfl
theorem Gr {a b:List Nat} (ha:a.Nodup) (hb:b.Nodup) (h:∀k,k∈a↔k∈b):a.length=b.length:=((List.perm_ext_iff_of_nodup ha hb).2 h).length_eq
theorem nH (n:Nat) (p:Nat->Bool):((List.range n).filter p).Nodup:=List.nodup_range.sublist Yw
theorem fW {n:Nat} {p:Nat->Bool} {k:Nat}:k∈(List.range n).filter p↔k<n/\p k=true:=by rw[YI,Yn]
theorem CR {K:Nat->Prop} {fs fs':List Fate} {w:Int} (h:ModF K fs fs') (h1:∀k,K k->(fs.getD k default).whr≠w/\(fs'.getD k default).whr≠w):cnt w fs'=cnt w fs:=by
 rw[tj,tj,h.len]
 congr 1
 refine List.filter_congr λk _=>?_
 by_cases hk:K k
 ·have:=h1 k hk;rw[beq_eq_false_iff_ne.2 this.1,beq_eq_false_iff_ne.2 this.2]
 ·rw[h.same k hk]
theorem IE (w step c:Int) (n:Nat) (h:w≠4):cnt w (fo step c n)=0:=by
 unfold cnt fo;rw[List.countP_replicate,if_neg];simp only[beq_iff_eq];exact λe=>h e.symm
theorem Hd (fs:List Fate) (k:Nat) (w:Int) (i:Nat):((fC fs k w).getD i default).whr=(fs.getD i default).whr\/((fC fs k w).getD i default).whr=w:=by
 unfold fC;rw[de];split
 ·exact .inr rfl
 ·exact .inl rfl
theorem pd (now:List Rec):∀(l:List Nat) (rs:List Rec) (fs:List Fate) (i:Nat),((cw now l rs fs).getD i default).whr=(fs.getD i default).whr\/((cw now l rs fs).getD i default).whr=4
 | [],_,fs,i=>by unfold cw;exact .inl rfl
 | _::_,[],fs,i=>by unfold cw;exact .inl rfl
 | k::l,r::rs,fs,i=>by
  unfold cw
  rcases pd now l rs (if (now.any λx=>x.id==r.id)=true then fs else fC fs k 4) i with h | h
  ·rw[h];split
   ·exact .inl rfl
   ·exact Hd fs k 4 i
  ·exact .inr h
theorem vM (now:List Rec):∀(l:List Nat) (rs:List Rec) (fs:List Fate) (i:Nat),l.length=rs.length->(∀k,k∈l->k<fs.length)->i<l.length->(now.any λx=>x.id==(rs.getD i default).id)=false ->
  ((cw now l rs fs).getD (l.getD i 0) default).whr=4
 | [],_,_,i,_,_,h,_=>by simp at h
 | _::_,[],_,_,h,_,_,_=>by simp at h
 | k::l,r::rs,fs,0,hl,hk,_,hn=>by
  have hn:(now.any λx=>x.id==r.id)=false:=hn;unfold cw;rw[hn]
  show ((cw now l rs (fC fs k 4)).getD k default).whr=4
  have h4:((fC fs k 4).getD k default).whr=4:=by
   unfold fC;rw[de,if_pos ⟨rfl,hk k List.mem_cons_self⟩]
  rcases pd now l rs (fC fs k 4) k with h | h
  ·rw[h,h4]
  ·exact h
 | k::l,r::rs,fs,i+1,hl,hk,hi,hn=>by
  unfold cw;refine vM now l rs _ i QN (λq hq=>?_) Q9 hn;split
  ·exact hk q (List.mem_cons_of_mem _ hq)
  ·unfold fC;rw[YN];exact hk q (List.mem_cons_of_mem _ hq)
theorem Da (was:Cli) (ks:List Nat) (n:Nat):∀(rs:List Rec) (fs:List Fate) (i:Nat),((iA was ks n rs fs).getD i default).whr=(fs.getD i default).whr\/((iA was ks n rs fs).getD i default).whr=2
 | [],fs,i=>.inl rfl
 | r::rs,fs,i=>by
  unfold iA
  rcases Da was ks n rs (fs.set (dD was ks n r.id) { fs.getD (dD was ks n r.id) default with kind:=r.act.kind,whr:=2 }) i with h | h
  ·rw[h,de];split
   ·exact .inr rfl
   ·exact .inl rfl
  ·exact .inr h
theorem vH:∀(ks:List Nat) (vs:List Verdict) (fs:List Fate),ks.length=vs.length->ks.Nodup->(∀k,k∈ks->k<fs.length/\(fs.getD k default).whr=2)->cnt 2 (cJ ks vs fs)+ks.length=cnt 2 fs
 | [],[],fs,_,_,_=>rfl
 | [],_::_,_,h,_,_=>by simp at h
 | _::_,[],_,h,_,_=>by simp at h
 | k::ks,v::vs,fs,hl,hn,hk=>by
  have hn:=List.nodup_cons.1 hn;have hk0:=hk k List.mem_cons_self;have hw:(if v.err=0 then (1:Int) else 3)≠2:=by split<;>decide
  have hstep:=xw 2 fs k { fs.getD k default with whr:=if v.err=0 then 1 else 3 } hk0.1;rw[if_pos hk0.2,if_neg (show ¬({ fs.getD k default with whr:=if v.err=0 then 1 else 3 }:Fate).whr=2 from hw)] at hstep;have ih:=vH ks vs (fC fs k (if v.err=0 then 1 else 3)) QN hn.2 λq hq=>⟨by unfold fC;rw[YN];exact (hk q (List.mem_cons_of_mem _ hq)).1,by
   unfold fC;rw[de,if_neg WV];exact (hk q (List.mem_cons_of_mem _ hq)).2⟩
  have hb:cJ (k::ks) (v::vs) fs=cJ ks vs (fC fs k (if v.err=0 then 1 else 3)):=rfl;rw[hb,List.length_cons];unfold fC at ih ⊢;omega
theorem Bq {b:Bk} {was now:Cli} {ks:List Nat} {j:Nat} (hks:b.logs.getD j []=ks) (hI:IdI was) (hJ:IdI now) (hS:LS was now) (hl:ks.length=was.log.length) (hnd:ks.Nodup) (hat:∀k,k∈ks->k<b.fates.length/\(b.fates.getD k default).whr=2) (step:Int) :
  cnt 2 (bT step j was now b).fates+was.log.length=cnt 2 b.fates+now.log.length/\cnt 1 (bT step j was now b).fates=cnt 1 b.fates/\cnt 3 (bT step j was now b).fates=cnt 3 b.fates:=by
 have hlt:∀k,k∈ks->k<b.fates.length:=λk hk=>(hat k hk).1
 have hnod:=vY hI hS hJ (n:=b.fates.length) hl hnd hlt;have hwh:=λr hr=>vZ (r:=r) hI hS b.fates.length hl hr
 have hB:(bT step j was now b).fates=iA was ks b.fates.length now.log (cw now.log ks was.log b.fates++fo step j (now.logged-was.logged).toNat):=by unfold bT;rw[hks]
 rw[hB];generalize b.fates=fs at *;have hmd:=ug (K:=λk=>k∈ks) now.log ks was.log fs λ_ hk=>hk
 generalize hF:cw now.log ks was.log fs=fs1 at *;generalize hM:(now.logged-was.logged).toNat=m at *;have hmn:=sH (K:=λk=>k∈now.log.map λr=>dD was ks fs.length r.id) was ks fs.length now.log (fs1++fo step j m) λr hr=>W5.2 ⟨r,hr,rfl⟩
 have hlen:(fs1++fo step j m).length=fs.length+m:=by rw[List.length_append,hmd.len];simp[fo]
 have hold:∀k,k<fs.length->(fs1++fo step j m).getD k default=fs1.getD k default:=λk hk=>ig (by rw[hmd.len];exact hk)
 have hnew:∀k,fs.length<=k->k<fs.length+m->((fs1++fo step j m).getD k default).whr=4:=λk h1 h2=>by
  rw[gk (by rw[hmd.len];exact h1),hmd.len];unfold fo;rw[Xq,Ys,if_pos z8];rfl
 have hin:∀r,r∈now.log->dD was ks fs.length r.id<fs.length+m:=λr hr=>by
  rcases hwh r hr with h1 | h1
  ·have:=hlt _ h1;omega
  ·omega
 have h13:∀w:Int,w≠2->w≠4->cnt w (iA was ks fs.length now.log (fs1++fo step j m))=cnt w fs:=λw h2 h4=>by
  have a1:cnt w fs1=cnt w fs:=CR hmd λk hk=>by
   have h0:=(hat k hk).2;refine ⟨by rw[h0];exact λe=>h2 e.symm,?_⟩
   rcases pd now.log ks was.log fs k with h | h
   ·rw[<-hF,h,h0];exact λe=>h2 e.symm
   ·rw[<-hF,h];exact λe=>h4 e.symm
  have a2:cnt w (iA was ks fs.length now.log (fs1++fo step j m))=cnt w (fs1++fo step j m):=CR hmn λk hk=>by
   have h0:((fs1++fo step j m).getD k default).whr≠w:=by
    obtain ⟨r,hr,rfl⟩:=W5.1 hk
    rcases hwh r hr with h1 | h1
    ·rw[hold _ (hlt _ h1)]
     rcases pd now.log ks was.log fs (dD was ks fs.length r.id) with h | h
     ·rw[<-hF,h,(hat _ h1).2];exact λe=>h2 e.symm
     ·rw[<-hF,h];exact λe=>h4 e.symm
    ·rw[hnew _ h1.1 h1.2];exact λe=>h4 e.symm
   refine ⟨h0,?_⟩
   rcases Da was ks fs.length now.log (fs1++fo step j m) k with h | h
   ·rw[h];exact h0
   ·rw[h];exact λe=>h2 e.symm
  rw[a2,sr,a1,IE _ _ _ _ h4];rfl
 refine ⟨?_,h13 1 j8 j8,h13 3 j8 j8⟩
 -- by places: those of no record of this log, and those of the log
 have e0:cnt 2 fs=((List.range fs.length).filter (λk=>(fs.getD k default).whr==2&&!(ks.contains k))).length+ks.length:=by
  rw[tj,<-List.length_append];refine Gr (nH _ _) (List.nodup_append.2 ⟨nH _ _,hnd,λa ha b hb e=>?_⟩) λk=>?_
  ·subst e;have:=(fW.1 ha).2;rw[Bool.and_eq_true,Yb,<-Bool.not_eq_true,YS] at this;exact this.2 hb
  ·rw[List.mem_append,fW,fW]
   by_cases hk:k∈ks
   ·exact ⟨λ_=>.inr hk,λ_=>⟨hlt k hk,by rw[beq_iff_eq];exact (hat k hk).2⟩⟩
   ·refine ⟨λh=>.inl ⟨h.1,?_⟩,λh=>?_⟩
    ·rw[h.2,Y0,Yb,<-Bool.not_eq_true,YS];exact hk
    ·rcases h with h | h
     ·exact ⟨h.1,(Bool.and_eq_true _ _▸h.2:_/\_).1⟩
     ·exact absurd h hk
 have e1:cnt 2 (iA was ks fs.length now.log (fs1++fo step j m))=((List.range fs.length).filter (λk=>(fs.getD k default).whr==2&&!(ks.contains k))).length+now.log.length:=by
  have hmap:(now.log.map λr=>dD was ks fs.length r.id).length=now.log.length:=List.length_map _;rw[tj,hmn.len,hlen,<-hmap,<-List.length_append];refine Gr (nH _ _) (List.nodup_append.2 ⟨nH _ _,hnod,λa ha b hb e=>?_⟩) λk=>?_
  ·subst e;have h1:=fW.1 ha;have h2:=h1.2;rw[Bool.and_eq_true,Yb,<-Bool.not_eq_true,YS] at h2;obtain ⟨r,hr,e⟩:=W5.1 hb
   rcases hwh r hr with h3 | h3
   ·rw[e] at h3;exact h2.2 h3
   ·have:=h1.1;omega
  ·rw[List.mem_append,fW,fW]
   by_cases hd:k∈now.log.map λr=>dD was ks fs.length r.id
   ·refine ⟨λ_=>.inr hd,λ_=>?_⟩;obtain ⟨r,hr,rfl⟩:=W5.1 hd;refine ⟨hin r hr,?_⟩;rw[beq_iff_eq];exact (B0 was ks fs.length now.log (fs1++fo step j m) hnod (λq hq=>by rw[hlen];exact hin q hq) r hr).1
   ·rw[hmn.same k hd]
    by_cases hk:k∈ks
    ·-- dropped
     have h4:(fs1.getD k default).whr=4:=by
      obtain ⟨i,hi,he⟩:=List.getElem_of_mem hk;have hke:ks.getD i 0=k:=by rw[Xq,Wz hi];exact he
      rw[<-hF,<-hke];refine vM now.log ks was.log fs i hl hlt hi ?_;cases ha:now.log.any (λx=>x.id==(was.log.getD i default).id) with
      | false=>rfl
      | true=>
       obtain ⟨r,hr,hre⟩:=List.any_eq_true.1 ha;have hre:r.id=(was.log.getD i default).id:=by simpa using hre
       refine absurd (W5.2 ⟨r,hr,?_⟩) hd;have hwm:was.log.getD i default∈was.log:=YG z8;obtain ⟨i2,h5,h6,h7⟩:=nB hI fs.length hl hwm;have hii:i2=i:=by
        have hp:=hI.rise;have hnd2:(was.log.map (·.id)).Nodup:=hp.imp (λh=>by omega);refine (List.getElem_inj (xs:=was.log.map (·.id)) (i:=i2) (j:=i) (h₀:=k6) (h₁:=k6) hnd2).1 ?_;rw[List.getElem_map,List.getElem_map];rw[Xq,Xq,Wz z8,Wz z8] at h6;exact h6
       rw[hre,h7,hii,hke]
     rw[hold k (hlt k hk),h4];refine ⟨λh=>(by cases h.2),λh=>?_⟩
     rcases h with h | h
     ·have:=h.2;rw[Bool.and_eq_true,Yb,<-Bool.not_eq_true,YS] at this;exact absurd hk this.2
     ·exact absurd h hd
    ·by_cases hkl:k<fs.length
     ·rw[hold k hkl,hmd.same k hk];refine ⟨λh=>.inl ⟨hkl,?_⟩,λh=>?_⟩
      ·rw[h.2,Y0,Yb,<-Bool.not_eq_true,YS];exact hk
      ·rcases h with h | h
       ·exact ⟨by omega,(Bool.and_eq_true _ _▸h.2:_/\_).1⟩
       ·exact absurd h hd
     ·constructor
      ·rintro ⟨h1,h2⟩;rw[hnew k z8 h1] at h2;cases h2
      ·rintro (⟨h1,_⟩ | h1)
       ·exact absurd h1 hkl
       ·exact absurd h1 hd
 rw[e0,e1,hl];omega
theorem Dr (f:Cli->Nat):∀(cs:List Cli) (j:Nat) (d:Cli),j<cs.length->((cs.set j d).map f).sum+f (cs.getD j default)=(cs.map f).sum+f d
 | [],_,_,h=>by simp at h
 | c::cs,0,d,_=>by
  show (f d+(cs.map f).sum)+f c=(f c+(cs.map f).sum)+f d
  omega
 | c::cs,j+1,d,h=>by
  have ih:=Dr f cs j d x7
  show (f c+((cs.set j d).map f).sum)+f (cs.getD j default)=(f c+(cs.map f).sum)+f d
  omega
theorem xK (t:List Node) (c:Cli):(bq t c).repair=c.repair:=by unfold bq;split<;>rfl
theorem pj (t:List Node) (c:Cli):(bq t c).number=c.number:=by unfold bq;split<;>rfl
theorem xm (f:Cli->Nat) (hf:∀t c,f (bq t c)=f c) {w:Wor} {x:Step} (hx:¬(x.client<0\/x.client≥w.cs.length)) :
  ((au w x).w.cs.map f).sum+f (w.cs.getD x.client.toNat default)=(w.cs.map f).sum+f (al ⟨w.cs.getD x.client.toNat default,w.s⟩ x).u.c:=by
 have hi:x.client.toNat<w.cs.length:=by omega
 have hW:(au w x).w.cs=(w.cs.set x.client.toNat (al ⟨w.cs.getD x.client.toNat default,w.s⟩ x).u.c).map (bq (al ⟨w.cs.getD x.client.toNat default,w.s⟩ x).u.s.tree):=by
  unfold au;rw[if_neg hx]
 rw[hW,Yf,show (f∘bq (al ⟨w.cs.getD x.client.toNat default,w.s⟩ x).u.s.tree)=f from by funext c;exact hf _ c];exact Dr f w.cs _ _ hi
theorem KS {w:Wor} {x:Step} (hx:¬(x.client<0\/x.client≥w.cs.length)):(au w x).w.s=(al ⟨w.cs.getD x.client.toNat default,w.s⟩ x).u.s:=by unfold au;rw[if_neg hx]
structure FateOK (l:List Step) (f:Fate):Prop where
 step:0<=f.step/\f.step<l.length
 client:f.client=(l.getD f.step.toNat default).client
 kind:1<=f.kind/\f.kind<=5
 whr:1<=f.whr/\f.whr<=4
theorem FateOK.more {l:List Step} {f:Fate} (h:FateOK l f) (x:Step):FateOK (l++[x]) f where
 step:=⟨h.step.1,by have:=h.step.2;rw[List.length_append,List.length_singleton];omega⟩
 client:=by
  have:=h.step;rw[h.client,ig z8]
 kind:=h.kind
 whr:=h.whr
theorem AN {P:Fate->Prop} {fs:List Fate} (h:∀f,f∈fs->P f) (k:Nat) {g:Fate->Fate} (hg:∀f,P f->P (g f)):∀f,f∈fs.set k (g (fs.getD k default))->P f:=λf hf=>by
 by_cases hk:k<fs.length
 ·rcases Yg hf with h1 | rfl
  ·exact h f h1
  ·exact hg _ (h _ (YG hk))
 ·rw[List.set_eq_of_length_le z8] at hf;exact h f hf
theorem w_ {l:List Step} {fs:List Fate} (h:∀f,f∈fs->FateOK l f) (k:Nat) {w:Int} (hw:1<=w/\w<=4):∀f,f∈fC fs k w->FateOK l f:=
 AN h k (g:=λf=>{ f with whr:=w }) λ_ hf=>⟨hf.step,hf.client,hf.kind,hw⟩
theorem vC {l:List Step}:∀(ks:List Nat) (vs:List Verdict) (fs:List Fate),(∀f,f∈fs->FateOK l f)->∀f,f∈cJ ks vs fs->FateOK l f
 | [],_,fs,h=>by unfold cJ;exact h
 | _::_,[],fs,h=>by unfold cJ;exact h
 | k::ks,v::vs,fs,h=>by
  unfold cJ;exact vC ks vs _ (w_ h k (by split<;>decide))
theorem vL {l:List Step} (now:List Rec):∀(ks:List Nat) (rs:List Rec) (fs:List Fate),(∀f,f∈fs->FateOK l f)->∀f,f∈cw now ks rs fs->FateOK l f
 | [],_,fs,h=>by unfold cw;exact h
 | _::_,[],fs,h=>by unfold cw;exact h
 | k::ks,r::rs,fs,h=>by
  unfold cw;refine vL now ks rs _ ?_;split
  ·exact h
  ·exact w_ h k j8
theorem Ao {l:List Step} (was:Cli) (ks:List Nat) (n:Nat):∀(rs:List Rec) (fs:List Fate),(∀r,r∈rs->1<=r.act.kind/\r.act.kind<=5)->(∀f,f∈fs->FateOK l f)->∀f,f∈iA was ks n rs fs->FateOK l f
 | [],fs,_,h=>h
 | r::rs,fs,hr,h=>by
  unfold iA;exact Ao was ks n rs _ (λq hq=>hr q (List.mem_cons_of_mem _ hq)) (AN h _ (g:=λf=>{ f with kind:=r.act.kind,whr:=2 }) λ_ hf=>⟨hf.step,hf.client,hr r List.mem_cons_self,by show (1:Int)<=2/\(2:Int)<=4;decide⟩)
structure LA (w:Wor) (b:Bk) (l:List Step):Prop where
 c1:cnt 1 b.fates=w.s.past.length
 c2:cnt 2 b.fates=(w.cs.map λc=>c.log.length).sum
 c3:cnt 3 b.fates=(w.cs.map λc=>c.repair.length).sum
 each:∀f,f∈b.fates->FateOK l f
 kinds:∀c,c∈w.cs->∀r,r∈c.log->1<=r.act.kind/\r.act.kind<=5
 num:∀j,j<w.cs.length->(w.cs.getD j default).number=j
theorem LA.step {B T:Nat} {w:Wor} {b:Bk} {l:List Step} (hw:WInv B T w) (hI:WId w) (hL:LI w.cs b) (h:LA w b l) (x:Step):LA (au w x).w (ef w l.length x b) (l++[x]):=by
 by_cases hx:x.client<0\/x.client≥w.cs.length
 ·have h1:au w x=⟨w,cD 6⟩:=by unfold au;rw[if_pos hx]
  have h2:ef w l.length x b=b:=by unfold ef;rw[if_pos hx]
  rw[h1,h2];exact { h with each:=λf hf=>(h.each f hf).more x }
 ·have hi:x.client.toNat<w.cs.length:=by omega
  have hu:=hw.at hi;have hc:=sU hx;have hs:=KS hx;have hr:=JN ⟨w.cs.getD x.client.toNat default,w.s⟩ x;have hnj:=h.num _ hi;have hkinds:∀c,c∈(au w x).w.cs->∀r,r∈c.log->1<=r.act.kind/\r.act.kind<=5:=λc hcm r hrm=>by
   unfold au at hcm;rw[if_neg hx] at hcm;obtain ⟨d,hd,rfl⟩:=W5.1 hcm;rw[jl] at hrm
   rcases Yg hd with hd | rfl
   ·exact h.kinds d hd r hrm
   ·rcases hr.log r hrm with h1 | h1
    ·exact h.kinds _ (YG hi) r h1
    ·exact h1
  have hnum:∀j,j<(au w x).w.cs.length->((au w x).w.cs.getD j default).number=j:=λj hj=>by
   rw[hc.len] at hj
   by_cases e:j=x.client.toNat
   ·rw[e,hc.at_,pj,hr.num];exact hnj
   ·rw[hc.other j hj e,pj];exact h.num j hj
  have s2:=xm (λc=>c.log.length) (λt c=>by rw[jl]) hx;have s3:=xm (λc=>c.repair.length) (λt c=>by rw[xK]) hx;have hnewF:FateOK (l++[x]) ⟨(l.length:Int),x.client,4,4⟩:=⟨by
   show (0:Int)<=(l.length:Int)/\(l.length:Int)<((l++[x]).length:Int)
   rw[List.length_append,List.length_singleton];omega,by
   show x.client=((l++[x]).getD (l.length:Int).toNat default).client
   rw[Int.toNat_natCast,gk (W7 _),Ym];rfl,by show (1:Int)<=4/\(4:Int)<=5;decide,by show (1:Int)<=4/\(4:Int)<=4;decide⟩
  have hmore:∀f,f∈b.fates->FateOK (l++[x]) f:=λf hf=>(h.each f hf).more x
  have hx0:0<=x.client:=by omega
  have hxc:((x.client.toNat:Nat):Int)=x.client:=Int.toNat_of_nonneg hx0;unfold ef;rw[if_neg hx]
  by_cases h8:x.kind=8
  ·rw[if_pos h8];have hst:al ⟨w.cs.getD x.client.toNat default,w.s⟩ x=⟨gh ⟨w.cs.getD x.client.toNat default,w.s⟩,⟨0,bL (aw ⟨w.cs.getD x.client.toNat default,w.s⟩),((aw ⟨w.cs.getD x.client.toNat default,w.s⟩).length-bL (aw ⟨w.cs.getD x.client.toNat default,w.s⟩):Nat),[]⟩⟩:=by
    unfold al;simp[h8]
   rw[hst] at s2 s3 hs;have hb:=Fx hu;have hll:(b.logs.getD x.client.toNat []).length=(aw ⟨w.cs.getD x.client.toNat default,w.s⟩).length:=by rw[hL.each _ hi,hb.vlen]
   have hat:=hL.at_ _ hi;obtain ⟨k1,k3,_,_⟩:=yP _ _ b.fates hll (hL.nod _ hi) λk hk=>⟨(hat k hk).1,(hat k hk).2.1⟩
   have k2:=vH _ _ b.fates hll (hL.nod _ hi) λk hk=>⟨(hat k hk).1,(hat k hk).2.1⟩
   have p1:=hb.past;have p2:=hb.log;have p3:=hb.repair;have p4:=hb.vlen;have p5:=hb.done;have q1:=h.c1;have q2:=h.c2;have q3:=h.c3;simp only at s2 s3 p1 p2 p3 p4 p5;rw[p2] at s2;rw[p3] at s3;rw[List.length_nil] at s2;refine ⟨?_,?_,?_,?_,hkinds,hnum⟩
   ·show cnt 1 (cJ _ _ _)=_
    rw[hs,p1,k1,q1]
   ·show cnt 2 (cJ _ _ _)=_
    omega
   ·show cnt 3 (cJ _ _ _)=_
    omega
   ·exact vC _ _ _ hmore
  ·rw[if_neg h8]
   by_cases ha:(w.cs.getD x.client.toNat default).away=true
   ·rw[if_pos ha];have hIj:=hI.ids (w.cs.getD x.client.toNat default) (YG hi);have hJ:=(hI.step x).ids ((au w x).w.cs.getD x.client.toNat default) (YG (by rw[hc.len];exact hi));have hS:LS (w.cs.getD x.client.toNat default) ((au w x).w.cs.getD x.client.toNat default):=by
     rw[hc.at_];exact (yy ⟨w.cs.getD x.client.toNat default,w.s⟩ x).trans (tO _ _)
    obtain ⟨k2,k1,k3⟩:=Bq (b:=b) (ks:=b.logs.getD x.client.toNat []) (j:=x.client.toNat) rfl hIj hJ hS (hL.each _ hi) (hL.nod _ hi) (λk hk=>⟨(hL.at_ _ hi k hk).1,(hL.at_ _ hi k hk).2.1⟩) (l.length:Int);have hS':=E3 ⟨w.cs.getD x.client.toNat default,w.s⟩ ha x h8;have hlg:((au w x).w.cs.getD x.client.toNat default).log=(al ⟨w.cs.getD x.client.toNat default,w.s⟩ x).u.c.log:=by rw[hc.at_,jl]
    have hrep:(al ⟨w.cs.getD x.client.toNat default,w.s⟩ x).u.c.repair=(w.cs.getD x.client.toNat default).repair:=rT _ x h8;rw[hrep] at s3;rw[hlg] at k2;have q2:=h.c2;have q3:=h.c3;refine ⟨?_,?_,?_,?_,hkinds,hnum⟩
    ·rw[k1,h.c1,hs,hS']
    ·omega
    ·omega
    ·intro f hf;refine Ao _ _ _ _ _ (λr hrm=>hkinds _ (YG (by rw[hc.len];exact hi)) r hrm) (λf hf=>?_) f hf
     rcases List.mem_append.1 hf with hf | hf
     ·exact vL _ _ _ _ hmore f hf
     ·rw[List.eq_of_mem_replicate hf,hxc];exact hnewF
   ·have ha':(w.cs.getD x.client.toNat default).away=false:=by simpa using ha
    rw[if_neg ha];obtain ⟨q,hq,hqc⟩:=hr.past;have hp:(au w x).w.s.past=w.s.past++q:=by rw[hs];exact hq
    have hgr:=oN hu x;have hk:∀p,p∈q->1<=p.act.kind/\p.act.kind<=5:=λp hpm=>hgr.hist.kind p (by rw[<-hs,hp];exact YB _ hpm)
    have hlog0:=(hu.cli.here ha').1;have hlog1:(al ⟨w.cs.getD x.client.toNat default,w.s⟩ x).u.c.log=[]:=by
     by_cases h7:x.kind=7
     ·unfold al;simp only[h7];exact hlog0
     ·exact ((nr hu x).cli.here (xg _ ha' x h7)).1
    have hrep:(al ⟨w.cs.getD x.client.toNat default,w.s⟩ x).u.c.repair=(w.cs.getD x.client.toNat default).repair:=rT _ x h8;rw[show (w.cs.getD x.client.toNat default).log=[] from hlog0,hlog1] at s2;rw[hrep] at s3;have hc0:∀w':Int,w'≠1->cnt w' (q.map λp=>(⟨(l.length:Int),p.client,p.act.kind,1⟩:Fate))=0:=λw' hw'=>by
     unfold cnt;rw[List.countP_map];refine List.countP_eq_zero.2 λp _=>?_
     simp only[Function.comp,beq_iff_eq];exact λe=>hw' e.symm
    have hc1:cnt 1 (q.map λp=>(⟨(l.length:Int),p.client,p.act.kind,1⟩:Fate))=q.length:=by
     unfold cnt;rw[List.countP_map];exact List.countP_eq_length.2 λp _=>rfl
    have hg:(jD (l.length:Int) ((au w x).w.s.past.drop w.s.past.length) b).fates=b.fates++q.map λp=>(⟨(l.length:Int),p.client,p.act.kind,1⟩:Fate):=by
     unfold jD;rw[hp,List.drop_left]
    have q1:=h.c1;have q2:=h.c2;have q3:=h.c3;refine ⟨?_,?_,?_,?_,hkinds,hnum⟩
    ·rw[hg,sr,hc1,hp,List.length_append];omega
    ·rw[hg,sr,hc0 2 j8];omega
    ·rw[hg,sr,hc0 3 j8];omega
    ·rw[hg];intro f hf
     rcases List.mem_append.1 hf with hf | hf
     ·exact hmore f hf
     ·obtain ⟨p,hpm,rfl⟩:=W5.1 hf;have hcl:p.client=x.client:=by rw[hqc p hpm,hnj,hxc]
      exact ⟨hnewF.step,by rw[hcl];exact hnewF.client,hk p hpm,by show (1:Int)<=1/\(1:Int)<=4;decide⟩
theorem Fq:∀(l:List Step) (B T:Nat) (g:GotK) (m:List Step),GoodK B T g->LA g.w g.b m->g.i=m.length ->
  LA (l.foldl (λg x=>(⟨(au g.w x).w,ef g.w g.i x g.b,g.i+1⟩:GotK)) g).w (l.foldl (λg x=>(⟨(au g.w x).w,ef g.w g.i x g.b,g.i+1⟩:GotK)) g).b (m++l) /\
  (l.foldl (λg x=>(⟨(au g.w x).w,ef g.w g.i x g.b,g.i+1⟩:GotK)) g).w=l.foldl (λw x=>(au w x).w) g.w
 | [],_,_,g,m,_,h,_=>by rw[List.append_nil];exact ⟨h,rfl⟩
 | x::l,B,T,g,m,hg,h,hi=>by
  have:=Fq l (B+20) (T+300) ⟨(au g.w x).w,ef g.w g.i x g.b,g.i+1⟩ (m++[x]) ⟨lh hg.w x,hg.ids.step x,(C0 hg.w hg.ids hg.li g.i x).1⟩
   (by rw[hi];exact h.step hg.w hg.ids hg.li x) (by show g.i+1=_;rw[hi];simp)
  rw[List.append_assoc] at this;exact this
theorem Ip {rooms:List Int} (hr:bl rooms=0) (l:List Step):LA (ll rooms l) (ly rooms l).b l:=by
 have hz:∀(f:Cli->Nat),(∀i r,f (oC i r)=0)->((gr rooms).cs.map f).sum=0:=λf hf=>by
  unfold gr gq;rw[Yf];generalize List.range rooms.length=m
  induction m with
  | nil=>rfl
  | cons a m ih=>rw[List.map_cons,List.sum_cons,ih];exact hf _ _
 have hk0:∀c,c∈(gr rooms).cs->∀r,r∈c.log->1<=r.act.kind/\r.act.kind<=5:=λc hc r hrm=>by
  unfold gr gq at hc;obtain ⟨j,_,rfl⟩:=W5.1 hc;cases hrm
 have hn0:∀j,j<(gr rooms).cs.length->((gr rooms).cs.getD j default).number=j:=λj hj=>by
  unfold gr gq at hj ⊢;simp only[List.length_map,List.length_range] at hj;rw[Xq,W2,Yo hj];rfl
 have h0:LA (gr rooms) ⟨[],List.replicate rooms.length []⟩ []:=⟨rfl,(hz _ λ_ _=>rfl).symm,(hz _ λ_ _=>rfl).symm,λf hf=>(by cases hf),hk0,hn0⟩;have:=Fq l 0 0 ⟨gr rooms,⟨[],List.replicate rooms.length []⟩,0⟩ [] (tV hr) h0 rfl;rw[List.nil_append] at this;unfold ll;rw[<-this.2];exact this.1
def atM (fs:List Fate) (i:Nat):List (Int×Int):=qY ((fs.take i).map (·.whr))
theorem Fu {fs:List Fate} {i:Nat} (h:i<fs.length):atM fs (i+1)=aU (atM fs i) (fs.getD i default).whr (f_ (atM fs i) (fs.getD i default).whr+1):=by
 unfold atM;rw[ZT h,List.map_append,List.map_cons,List.map_nil,A5];rfl
theorem Iq (fs:List Fate) (k:Int):f_ (atM fs fs.length) k=cnt k fs:=by
 unfold atM;rw[uO,W4];unfold DF cnt;rw[List.filter_map,List.length_map,<-List.countP_eq_length_filter];rfl
theorem zL:∀(m:List (Int×Int)) (k:Nat),dO m->(∀p,p∈m->(5-k:Int)<=p.1/\p.1<=4)->m.length<=k
 | [],_,_,_=>by simp
 | p::m,0,_,h=>by
  have:=h p List.mem_cons_self;omega
 | p::m,k+1,hr,h=>by
  have hr:=List.pairwise_cons.1 hr;have h1:=h p List.mem_cons_self;have:=zL m k hr.2 λq hq=>⟨by have:=hr.1 q hq;omega,(h q (List.mem_cons_of_mem _ hq)).2⟩
  rw[List.length_cons];omega
theorem wx {α:Type} {n:Int} {v:α} {p:Int×α}:∀{m:List (Int×α)},p∈aU m n v->p.1=n\/p∈m
 | [],h=>by
  simp only[aU,List.mem_singleton] at h;subst h;exact .inl rfl
 | q::m,h=>by
  unfold aU at h;split at h
  ·rcases List.mem_cons.1 h with rfl | h
   ·exact .inl rfl
   ·exact .inr (List.mem_cons_of_mem _ h)
  ·split at h
   ·rcases List.mem_cons.1 h with rfl | h
    ·exact .inl rfl
    ·exact .inr h
   ·rcases List.mem_cons.1 h with rfl | h
    ·exact .inr List.mem_cons_self
    ·rcases wx h with h | h
     ·exact .inl h
     ·exact .inr (List.mem_cons_of_mem _ h)
theorem tN:∀(fs:List Int) (m:List (Int×Int)) (p:Int×Int),p∈fs.foldl zx m->p.1∈fs\/p∈m
 | [],m,p,h=>.inr h
 | x::fs,m,p,h=>by
  rcases tN fs _ p h with h | h
  ·exact .inl (List.mem_cons_of_mem _ h)
  ·rcases wx h with h | h
   ·rw[h];exact .inl List.mem_cons_self
   ·exact .inr h
theorem Ir {fs:List Fate} (h:∀f,f∈fs->1<=f.whr/\f.whr<=4):(atM fs fs.length).length<=4:=by
 unfold atM;rw[W4];refine zL _ 4 (qp _ [] List.Pairwise.nil).1 λp hp=>?_
 rcases tN _ _ p hp with hp | hp
 ·obtain ⟨f,hf,he⟩:=W5.1 hp;have:=h f hf;rw[<-he];exact ⟨by omega,this.2⟩
 ·cases hp
theorem FG {fs:List Fate} (h:∀f,f∈fs->1<=f.whr/\f.whr<=4):cnt 0 fs=0:=by
 unfold cnt;rw[List.countP_eq_zero];intro f hf hc;have:=h f hf;have hc:f.whr=0:=by simpa using hc
 omega
theorem Dz (fs:List Fate) (i:Nat) (k:Int):0<=f_ (atM fs i) k/\f_ (atM fs i) k<=fs.length:=by
 unfold atM;rw[uO];have:=ID k ((fs.take i).map (·.whr));rw[List.length_map,YA] at this;omega
def qW (f:Cli->Nat) (cs:List Cli) (i:Nat):Nat:=((cs.take i).map f).sum
theorem qX {f:Cli->Nat} {cs:List Cli} {i:Nat} (h:i<cs.length):qW f cs (i+1)=qW f cs i+f (cs.getD i default):=by
 unfold qW;rw[ZT h,List.map_append,List.sum_append];simp
theorem A4 (f:Cli->Nat) (cs:List Cli):qW f cs cs.length=(cs.map f).sum:=by unfold qW;rw[W4]
theorem yC {f:Cli->Nat} {cs:List Cli} {M:Nat} (h:∀c,c∈cs->f c<=M):∀i,i<=cs.length->qW f cs i<=i*M
 | 0,_=>by simp[qW]
 | i+1,hi=>by
  rw[qX z8,Yy];have:=yC h i z8;have:=h _ (YG (show i<cs.length by omega));omega
end La
