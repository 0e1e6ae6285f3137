/- Texts of this claim, part 31: RWrite, RGone, RTake, RBack, RStep. No condition. -/
import Derived.Test.YtmcfbfdonjllaaaGreatDoorZP30
set_option maxRecDepth 10000
set_option maxHeartbeats 4000000
set_option linter.unusedSimpArgs false
set_option linter.unusedVariables false
namespace La
open Go Go.Eng Go.Proofs Go.Proofs.Tryz
variable {Fa:Prop}
theorem Eu {B T:Nat} (u:U) (h:UInvF Fa B T u) (hB:B<=30000000) (hT:T<=800000000000) (path data:List UInt8) (hp:path.length<=10000000) (G Y N:Nat->Nat):ai prog 59 [.ptr 900 13 0 0,.str path,.sl (data.map ZY)] (uH u G Y N)
  (λr H=>r=.int .i64 (bK u path data).e/\Holds (uH (bK u path data).u G Y N) H):=by
 have hd:=nf u h z8 z8 path hp;have hdi:=cF h path;have hdn:=jf h path;have hnm:=bR u path;have hW0:bK u path data=if (ah u path).e≠0 then ⟨(ah u path).e,(ah u path).u⟩
  else if data.length>20 then ⟨4,(ah u path).u⟩
  else match ba (ah u path).n (ah u path).name with
  | some f=>iz (bd (ah u path).u f 0) data
  | none=>if (bY (ah u path).u (cU (ah u path).n.fid (ah u path).name) (-1)).e≠0 then bY (ah u path).u (cU (ah u path).n.fid (ah u path).name) (-1)
   else iz (goU (bY (ah u path).u (cU (ah u path).n.fid (ah u path).name) (-1)).u (ae path).1 0) data:=rfl
 generalize ah u path=d at *;have hent:=jn d.n d.name (by have:=hdn.ent;omega);rw[eh hdn.eup] at hent;unfold ZN at hent;unfold uH at hd;unfold uH;refine wSG func59 ntmps59 results59 λC=>?_
 refine wP ?_ [900] func60 (hf:=hd);refine wGq ?_ ?_ w5
 ·simp[ZN]
 by_cases hde:d.e=0
 ·rw[if_neg u5] at hW0;refine wFG ?_ (hb:=u5)
  by_cases hdl:data.length>20
  ·rw[if_pos hdl] at hW0;have hW:=hW0;refine wTG ?_ (hb:=k6);refine wU ?_ ?_
   ·rw[hW]
   ·rw[hW];exact q9
  ·rw[if_neg hdl] at hW0;refine wFG ?_ (hb:=k6);refine af (au 10) (wn ?_);cases hen:ba d.n d.name with
   | some f=>
    rw[hen] at hent hW0;simp only at hent hW0;have hg:=pO d.u hdi z8 z8 f 0;have hgi:=bZ hdi f 0;unfold uH iG at hg;generalize bd d.u f 0=g at hg hgi hW0;refine wCg ?_ func91 (hf:=hent);refine wTG ?_ (hb:=rfl);refine wP ?_ [900] func90 (hf:=hg);refine wGq ?_ ?_ w5
    ·simp[ZN]
    by_cases hge:g.e=0
    ·have hW:bK u path data=bY g.u (cj g.n.fid data) (cH g.n):=by rw[hW0];unfold iz;rw[if_neg x9]
     have hact:=nH g.u hgi z8 z8 (cj g.n.fid data) ⟨by simp[cj],by simp[cj],by show data.length<=20;omega⟩ (cH g.n);have hse:=pQ g.n;unfold uH at hact;simp only[ZA,cj] at hact;rw[hW];unfold ZN at hse;simp only[cj];generalize bY g.u ⟨3,g.n.fid,0,[],0,[],data⟩ (cH g.n)=x at *;refine wDF ?_ (hb:=x9);refine wGS ?_;refine sN 4 ?_;refine sB ?_;refine sN 1 ?_;refine sC ?_ func92 (hf:=hse);refine hY rfl rfl z7 w3 ⟨_,func61,by kernel_rfl,rfl⟩ [900] w6 w3 w8 w3 w3 w3 (hact) z6 w7 ?_;refine sG ?_;refine wXG ?_;refine wU ?_ ?_
     ·rfl
     ·exact q9
    ·have hW:bK u path data=⟨g.e,g.u⟩:=by rw[hW0];unfold iz;rw[if_pos x9]
     refine wTG ?_ (hb:=x9);refine wU ?_ ?_
     ·rw[hW]
     ·rw[hW];exact q9
   | none=>
    rw[hen] at hent hW0;simp only at hent hW0;have hms:ActS (cU d.n.fid d.name):=⟨hnm,by simp[cU],by simp[cU]⟩;have hmk:=nH d.u hdi z8 z8 (cU d.n.fid d.name) hms (-1);have hmi:=jS hdi hms (-1);generalize bY d.u (cU d.n.fid d.name) (-1)=x at hmk hmi hW0;unfold uH ZA at hmk;simp only[cU,List.map_nil] at hmk;have hmk2:∀G Y N:Nat->Nat,ai prog 61 [.ptr 900 13 0 0,.agg [.int .i64 1,.int .i64 0,.int .i64 d.n.fid,.str d.name,.int .i64 0,.str [],.nils],.int .i64 (-1)] _ _:=λG Y N=>ai.nrm rfl (hmk G Y N)
    refine wCg ?_ func91 (hf:=hent);refine wFG ?_ (hb:=rfl);refine wP ?_ [900] func61 (hf:=hmk2);refine wG ?_
    by_cases hxe:x.e=0
    ·rw[if_neg Zs] at hW0;have hsp:=jq path hp;have hsl:=cg path;unfold cD at hsp;generalize ae path=S at *;obtain ⟨L,E⟩:=S;obtain ⟨hll,hlx⟩:=hsl;simp only at hW0 hll hlx hsp;have hg:=ur x.u hmi z8 z8 L z8 (λy hy=>by have:=(hlx y hy).1;omega) 0;have hgi:=lr hmi L 0;unfold uH iG at hg;generalize goU x.u L 0=g at *;refine wTG ?_ (hb:=Zs);refine wCg ?_ func57 (hf:=hsp);refine wP ?_ [900] func58 (hf:=hg);refine wGq ?_ ?_ w5
     ·simp[ZN]
     by_cases hge:g.e=0
     ·have hW:bK u path data=bY g.u (cj g.n.fid data) (cH g.n):=by rw[hW0];unfold iz;rw[if_neg x9]
      have hact:=nH g.u hgi z8 z8 (cj g.n.fid data) ⟨by simp[cj],by simp[cj],by show data.length<=20;omega⟩ (cH g.n);have hse:=pQ g.n;unfold uH at hact;simp only[ZA,cj] at hact;rw[hW];unfold ZN at hse;simp only[cj];generalize bY g.u ⟨3,g.n.fid,0,[],0,[],data⟩ (cH g.n)=x at *;refine wDF ?_ (hb:=x9);refine wGS ?_;refine sN 4 ?_;refine sB ?_;refine sN 1 ?_;refine sC ?_ func92 (hf:=hse);refine hY rfl rfl z7 w3 ⟨_,func61,by kernel_rfl,rfl⟩ [900] w6 w3 w8 w3 w3 w3 (hact) z6 w7 ?_;refine sG ?_;refine wXG ?_;refine wU ?_ ?_
      ·rfl
      ·exact q9
     ·have hW:bK u path data=⟨g.e,g.u⟩:=by rw[hW0];unfold iz;rw[if_pos x9]
      refine wTG ?_ (hb:=x9);refine wU ?_ ?_
      ·rw[hW]
      ·rw[hW];exact q9
    ·rw[if_pos Zs] at hW0;have hW:=hW0;refine wFG ?_ (hb:=Zs);refine wTG ?_ (hb:=Zs);refine wU ?_ ?_
     ·rw[hW]
     ·rw[hW];exact q9
 ·rw[if_pos u5] at hW0;have hW:=hW0;refine wTG ?_ (hb:=u5);refine wU ?_ ?_
  ·rw[hW]
  ·rw[hW];exact q9
variable {Fa:Prop}
theorem zd {B T:Nat} {u:U} (h:UInvF Fa B T u) {f w:Int} (he:(bd u f w).e=0):(bd u f w).n.fid=f:=by
 unfold bd at he ⊢;cases hn:dV u.c.cache f with
 | some n=>
  obtain ⟨k,_,_,hf⟩:=kP hn;exact hf
 | none=>
  rw[hn] at he;simp only at he ⊢;split
  ·rename_i ha;rw[if_pos ha] at he;cases he
  ·rename_i ha;rw[if_neg ha] at he;cases hf:ak u.s.tree f with
   | none=>rw[hf] at he;cases he
   | some n=>exact ((ZO h.srv.hist.bs.up).1 hf).2
theorem B2 {B T:Nat} (u:U) (h:UInvF Fa B T u) (hB:B<=30000000) (hT:T<=800000000000) (path to:List UInt8) (hp:path.length<=10000000) (G Y N:Nat->Nat):ai prog 62 [.ptr 900 13 0 0,.str path,.str to,.bool false] (uH u G Y N)
  (λr H=>r=.int .i64 (bx u path).e/\Holds (uH (bx u path).u G Y N) H):=by
 have hd:=nf u h z8 z8 path hp;have hdi:=cF h path;have hdn:=jf h path;have hnm:=bR u path;have hE:(atU u path).e≠0->bx u path=⟨(atU u path).e,(atU u path).u⟩:=λh=>by unfold bx;rw[if_pos h]
 have hS:(atU u path).e=0->bx u path=bY (atU u path).u (di (atU u path).n.fid (atU u path).d (atU u path).name) (cH (atU u path).n):=λh=>by unfold bx;rw[if_neg WC]
 have hA:atU u path=if (ah u path).e≠0 then ⟨0,[],aw,(ah u path).e,(ah u path).u⟩
  else match ba (ah u path).n (ah u path).name with
  | none=>⟨0,[],aw,6,(ah u path).u⟩
  | some f=>⟨(ah u path).n.fid,(ah u path).name,(bd (ah u path).u f 0).n,(bd (ah u path).u f 0).e,(bd (ah u path).u f 0).u⟩:=rfl
 generalize bx u path=w at *;generalize ah u path=d at *;generalize atU u path=p at *;have hent:=jn d.n d.name (by have:=hdn.ent;omega);rw[eh hdn.eup] at hent;unfold ZN at hent;unfold uH at hd;unfold uH;refine wSG func62 ntmps62 results62 λC=>?_
 refine wP ?_ [900] func60 (hf:=hd);refine wGq ?_ ?_ w5
 ·simp[ZN]
 by_cases hde:d.e=0
 ·rw[if_neg u5] at hA;refine wFG ?_ (hb:=u5);cases hen:ba d.n d.name with
  | none=>
   rw[hen] at hent hA;simp only at hent hA;have hW:=hE (by rw[hA];simp);rw[hA] at hW;refine wCg ?_ func91 (hf:=hent);refine wTG ?_ (hb:=rfl);refine wU ?_ ?_
   ·rw[hW]
   ·rw[hW];exact q9
  | some f=>
   rw[hen] at hent hA;simp only at hent hA;have hg:=pO d.u hdi z8 z8 f 0;have hgi:=bZ hdi f 0;have hgf:=@zd Fa B (T+42) d.u hdi f 0;unfold uH iG at hg;generalize bd d.u f 0=g at hg hgi hA hgf;refine wCg ?_ func91 (hf:=hent);refine wFG ?_ (hb:=rfl);refine wP ?_ [900] func90 (hf:=hg);refine wGq ?_ ?_ w5
   ·simp[ZN]
   by_cases hge:g.e=0
   ·have hgf:=hgf hge;rw[hA] at hS;refine wFG ?_ (hb:=x9);refine af (au 15) (wn ?_)
    skip
    have hW:=hS hge;simp only[di,hgf] at hW;have hact:=nH g.u hgi z8 z8 (di f d.n.fid d.name) ⟨hnm,by simp[di],by simp[di]⟩ (cH g.n);have hse:=pQ g.n;unfold uH at hact;simp only[ZA,di,List.map_nil] at hact;unfold ZN at hse;rw[hW];generalize bY g.u ⟨4,f,d.n.fid,d.name,0,[],[]⟩ (cH g.n)=x at *;refine wDF ?_ (hb:=rfl);refine wGS ?_;refine sN 3 ?_;refine sC ?_ func92 (hf:=hse);refine hY rfl rfl z7 w3 ⟨_,func61,by kernel_rfl,rfl⟩ [900] w6 w3 w8 w3 w3 w3 (hact) z6 w7 ?_;refine sG ?_;refine wXG ?_;refine wU ?_ ?_
    ·rfl
    ·exact q9
   ·have hW:=hE Wo;rw[hA] at hW;refine wTG ?_ (hb:=x9);refine wU ?_ ?_
    ·rw[hW]
    ·rw[hW];exact q9
 ·rw[if_pos u5] at hA;have hW:=hE Wp;rw[hA] at hW;refine wTG ?_ (hb:=u5);refine wU ?_ ?_
  ·rw[hW]
  ·rw[hW];exact q9
theorem GM {B T:Nat} (u:U) (h:UInvF Fa B T u) (hB:B<=30000000) (hT:T<=800000000000) (path to:List UInt8) (hp:path.length<=10000000) (hto:to.length<=10000000) (G Y N:Nat->Nat):ai prog 62 [.ptr 900 13 0 0,.str path,.str to,.bool true] (uH u G Y N)
  (λr H=>r=.int .i64 (cW u path to).e/\Holds (uH (cW u path to).u G Y N) H):=by
 have hd:=nf u h z8 z8 path hp;have hdi:=cF h path;have hdn:=jf h path;have hnm:=bR u path;have hE:(atU u path).e≠0->cW u path to=⟨(atU u path).e,(atU u path).u⟩:=λh=>by unfold cW;rw[if_pos h]
 have hM1:(atU u path).e=0->(ah (atU u path).u to).e≠0->cW u path to=⟨(ah (atU u path).u to).e,(ah (atU u path).u to).u⟩:=λh h2=>by unfold cW;rw[if_neg WC,if_pos h2]
 have hM2:(atU u path).e=0->(ah (atU u path).u to).e=0->cW u path to=bY (ah (atU u path).u to).u (eG (atU u path).n.fid (atU u path).d (atU u path).name (ah (atU u path).u to).n.fid (ah (atU u path).u to).name) (cH (atU u path).n):=λh h2=>by
  unfold cW;rw[if_neg WC,if_neg (by simp[h2])]
 have hS:=hM1;have hA:atU u path=if (ah u path).e≠0 then ⟨0,[],aw,(ah u path).e,(ah u path).u⟩
  else match ba (ah u path).n (ah u path).name with
  | none=>⟨0,[],aw,6,(ah u path).u⟩
  | some f=>⟨(ah u path).n.fid,(ah u path).name,(bd (ah u path).u f 0).n,(bd (ah u path).u f 0).e,(bd (ah u path).u f 0).u⟩:=rfl
 generalize cW u path to=w at *;generalize ah u path=d at *;generalize atU u path=p at *;have hent:=jn d.n d.name (by have:=hdn.ent;omega);rw[eh hdn.eup] at hent;unfold ZN at hent;unfold uH at hd;unfold uH;refine wSG func62 ntmps62 results62 λC=>?_
 refine wP ?_ [900] func60 (hf:=hd);refine wGq ?_ ?_ w5
 ·simp[ZN]
 by_cases hde:d.e=0
 ·rw[if_neg u5] at hA;refine wFG ?_ (hb:=u5);cases hen:ba d.n d.name with
  | none=>
   rw[hen] at hent hA;simp only at hent hA;have hW:=hE (by rw[hA];simp);rw[hA] at hW;refine wCg ?_ func91 (hf:=hent);refine wTG ?_ (hb:=rfl);refine wU ?_ ?_
   ·rw[hW]
   ·rw[hW];exact q9
  | some f=>
   rw[hen] at hent hA;simp only at hent hA;have hg:=pO d.u hdi z8 z8 f 0;have hgi:=bZ hdi f 0;have hgf:=@zd Fa B (T+42) d.u hdi f 0;unfold uH iG at hg;generalize bd d.u f 0=g at hg hgi hA hgf;refine wCg ?_ func91 (hf:=hent);refine wFG ?_ (hb:=rfl);refine wP ?_ [900] func90 (hf:=hg);refine wGq ?_ ?_ w5
   ·simp[ZN]
   by_cases hge:g.e=0
   ·have hgf:=hgf hge;rw[hA] at hS;refine wFG ?_ (hb:=x9);refine af (au 15) (wn ?_)
    skip
    have hd2:=nf g.u hgi z8 z8 to hto;have hd2i:=cF hgi to;have hd2n:=bR g.u to;rw[hA] at hM1 hM2;simp only at hM1 hM2;have hM1:=hM1 hge;have hM2:=hM2 hge;unfold uH at hd2;generalize ah g.u to=q at *;refine wTG ?_ (hb:=rfl);refine wP ?_ [900] func60 (hf:=hd2);refine wGq ?_ ?_ w5
    ·simp[ZN]
    by_cases hqe:q.e=0
    ·have hW:=hM2 hqe;simp only[eG,hgf] at hW;have hact:=nH q.u hd2i z8 z8 (eG f d.n.fid d.name q.n.fid q.name) ⟨hnm,hd2n,by simp[eG]⟩ (cH g.n);have hse:=pQ g.n;unfold uH at hact;simp only[ZA,eG,List.map_nil] at hact;unfold ZN at hse;rw[hW];generalize bY q.u ⟨5,f,d.n.fid,d.name,q.n.fid,q.name,[]⟩ (cH g.n)=x at *;refine wDF ?_ (hb:=Z9);refine wGS ?_;refine sN 4 ?_;refine sT ?_;refine sN 1 ?_;refine sT ?_;refine sN 1 ?_;refine sT ?_;refine wX ?_;refine wGS ?_;refine sN 3 ?_;refine sC ?_ func92 (hf:=hse);refine hY rfl rfl z7 w3 ⟨_,func61,by kernel_rfl,rfl⟩ [900] w6 w3 w8 w3 w3 w3 (hact) z6 w7 ?_;refine sG ?_;refine wXG ?_;refine wU ?_ ?_
     ·rfl
     ·exact q9
    ·have hW:=hM1 hqe;refine wTG ?_ (hb:=Z9);refine wU ?_ ?_
     ·rw[hW]
     ·rw[hW];exact q9
   ·have hW:=hE Wo;rw[hA] at hW;refine wTG ?_ (hb:=x9);refine wU ?_ ?_
    ·rw[hW]
    ·rw[hW];exact q9
 ·rw[if_pos u5] at hA;have hW:=hE Wp;rw[hA] at hW;refine wTG ?_ (hb:=u5);refine wU ?_ ?_
  ·rw[hW]
  ·rw[hW];exact q9
theorem GQ {k:Nat} (s:Srv) (h:SrvOK k s) (hk:k<=70000000) (c:Int) (log:List Rec) (hl2:log.length<=2000000) (hfit:∀r,r∈log->ActFit r.act) :
  ai prog 99 [.agg (ZQ s),.int .i64 c,.sl (log.map ZR)] []
   (λr _=>r=.tup [.agg (ZQ (iS s c log)),.sl ((bM s.tree s.next ((s.past.length+1:Nat):Int) log).vs.map ZV)]):=by
 have hlen:=h.len;have hnx:=h.next;have hg:=h.hist.bs;have hof:=wq s.tree (by have:=hg.len;omega);have hj:=Ej s.past s.tree s.next log h.hist z8 z8 hl2 hfit;have hji:=JInv.rC h.hist c s.next log hfit;have hinv:=hji.len;have hls:=sF (bM s.tree s.next ((s.past.length+1:Nat):Int) log).j.l hji.hist.bs.up (by have:=hji.hist.bs.len;omega);clear hji;have hT:iS s c log=⟨(bM s.tree s.next ((s.past.length+1:Nat):Int) log).j.l,(bM s.tree s.next ((s.past.length+1:Nat):Int) log).j.next,fJ s c (bM s.tree s.next ((s.past.length+1:Nat):Int) log).done (bM s.tree s.next ((s.past.length+1:Nat):Int) log).done.length⟩:=by
  unfold iS fJ;rw[W7]
 have hwp:IntKind.i64.wrap ((s.past.length:Int)+1)=((s.past.length+1:Nat):Int):=by rw[Eng.wrap_small z8 z8];rfl
 rw[hT];clear hT;unfold xC at hj;unfold ZQ;generalize bM s.tree s.next ((s.past.length+1:Nat):Int) log=g at *;have hsu:=λi=>@rQ s c g.done i
 have hle:=λi=>@ui s c g.done i
 have hz:fJ s c g.done 0=s.past:=by simp[fJ]
 generalize fJ s c g.done=P at *;refine wS func99 ntmps99 results99 λC=>?_
 refine wGS ?_;refine sN 2 ?_;refine sC ?_ func27 (hf:=hof);refine sN 7 ?_ z6 z6 QK Zp;refine sC ?_ func137 (hf:=hj);refine sW ?_;refine sT ?_;refine wXG ?_;refine ZW ZM ?_;refine fM [(28,[28],[])] rfl (uz Ws) ?_;refine zN tK 2 (hk:=?_);refine zC func97 (hf:=hls) (hk:=?_);refine zN tK 2 (hk:=?_);refine zW tK (hk:=?_);refine zN tK 2 (hk:=?_);refine zA tK (h2:=?_) (h4:=?_) (h5:=?_) (h7:=?_) (h8:=?_) (hzz:=?_) (hn:=rfl) (hr:=rfl) (hk:=?_)
 ·exact jE _
 ·exact lM _
 ·rw[show tab.byt 79=96 from rfl];simp;omega
 ·simp
 ·exact bH 28 s.past
 ·intro z hz;simp only[List.mem_cons,List.not_mem_nil,or_false] at hz;subst hz;exact .inl ⟨by decide,bH 28 s.past⟩
 refine zB tK (hk:=?_);refine zW tK (hk:=?_);refine jK w9 z6 ?_;refine dS ?_;refine wKG ?_;refine af (mP 31 46 9 z6 z7 z7 z6 j0 j0 rfl z7 j6 j6) ?_;refine wL g.done.length (λi=>(11,.any)::(31,.any)::(36,.int .i64 i)::u0 37 12 [])
  (λi=>[(9,.cells 32 3 [[.sl (g.j.l.map ZN),.int .i64 g.j.next,.osl 46 8 0 (P i).length]]),(46,.cells 79 8 ((P i).map ZP))]) ?_ λi hi=>?_
 ·rw[hz];exact wZ
 simp only[go_sem];refine wGD (λh=>?_) (λh=>?_)
 ·have hlt:=lt1 h;have hg:=Fam.getD (f:=ZA) hlt;have hs1:=hsu i hlt;have hl1:=hle i z8;have how':=wi1 (i:=i) z8;generalize g.done.getD i default=a at *;generalize P i=Q at *;refine wR ?_;refine wNq 4 ?_ ?_ z6 z6 (by simp only[go_sem,hg,ZA];try exact rfl)
  ·simp[hg,ZA,hlt]
  refine wR ?_;refine wN 6 ?_;refine af (aX 46 9 z6 y9) ?_;refine wGq ?_ ?_ y6
  ·simp[rowsOf,ZP];omega
  exact ZB ⟨i+1,by omega,by omega,ZU w3 (by simp[go_sem,hs1,ZP,W7]) w3⟩
 ·obtain rfl:=eq1 hi h;refine wG ?_;refine ZZ 46 rfl (dX _) (wn ?_);refine wO ?_;refine sN 3 ?_;refine sT ?_;refine sG ?_;refine wX ?_;refine wGT ?_;simp
variable {Fa:Prop}
def vn (log:List Rec) (vs:List Verdict) (i:Nat):List Rec:=cG (log.take i) (vs.take i)
def iO (vs:List Verdict) (i:Nat):Nat:=fz (vs.take i)
theorem oe (r:Rec) (v:Verdict):∀{l:List Rec} {vs:List Verdict},l.length=vs.length->cG (l++[r]) (vs++[v])=cG l vs++if v.err=0 then [] else [r]
 | [],[],_=>by
  simp only[List.nil_append,cG]
  first | done | (split<;>rfl)
 | [],_::_,h=>by simp at h
 | _::_,[],h=>by simp at h
 | a::l,b::vs,h=>by
  have ih:=oe r v (l:=l) (vs:=vs) u1;simp only[List.cons_append,cG];rw[ih];split
  ·rfl
  ·rfl
theorem Ea {log:List Rec} {vs:List Verdict} {i:Nat} (h:i<vs.length) (hl:vs.length=log.length):vn log vs (i+1)=if (vs.getD i default).err=0 then vn log vs i else vn log vs i++[log.getD i default]:=by
 unfold vn;rw[ZT h,ZT (show i<log.length by omega),oe _ _ k6];split
 ·rw[List.append_nil]
 ·rfl
theorem tw {vs:List Verdict} {i:Nat} (h:i<vs.length):iO vs (i+1)=if (vs.getD i default).err=0 then iO vs i+1 else iO vs i:=by
 unfold iO fz;rw[ZT h,List.filter_append,List.length_append];generalize vs.getD i default=v
 by_cases e:v.err=0
 ·rw[if_pos e];simp[e]
 ·rw[if_neg e];simp[e]
theorem yJ (vs:List Verdict) (i:Nat) (h:i<=vs.length):iO vs i<=i:=by
 unfold iO fz;have:=YB (λv:Verdict=>v.err==0) (vs.take i);rw[YF] at this;omega
theorem pK:∀(l:List Rec) (vs:List Verdict),(cG l vs).length<=l.length
 | [],_=>by simp[cG]
 | _::_,[]=>by simp[cG]
 | a::l,b::vs=>by
  have ih:=pK l vs;simp only[cG];split
  ·simp only[List.length_cons];omega
  ·simp only[List.length_cons];omega
theorem GC (log:List Rec) (vs:List Verdict) (i:Nat):(vn log vs i).length<=log.length:=Yn (pK _ _) QG
def nR (c:Cli) (vs:List Verdict) (i:Nat):List Rec:=c.repair++vn c.log vs i
theorem wy {c:Cli} {vs:List Verdict} {i:Nat} (h:i<vs.length) (hl:vs.length=c.log.length):nR c vs (i+1)=if (vs.getD i default).err=0 then nR c vs i else nR c vs i++[c.log.getD i default]:=by
 unfold nR;rw[Ea h hl];split
 ·rfl
 ·rw[List.append_assoc]
theorem Aq (c:Cli) (vs:List Verdict) (i:Nat):(nR c vs i).length<=c.repair.length+c.log.length:=by
 unfold nR;rw[List.length_append];have:=GC c.log vs i;omega
def yx (u:U) (l:List Rec):U:=⟨{ u.c with repair:=l },u.s⟩
theorem Gz {B T:Nat} (u:U) (h:UInvF Fa B T u) (hB:B<=40000000) (G Y N:Nat->Nat):ai prog 63 [.ptr 900 13 0 0] (uH u G Y N)
  (λr H=>r=.tup [.int .i64 (fz (aD u)),.int .i64 ((aD u).length-fz (aD u):Nat)]/\Holds (uH (lY u) G Y N) H):=by
 have hci:=h.cli;have hll:=hci.log;have hfit:∀r,r∈u.c.log->ActFit r.act:=λr hr=>(hci.logS r hr).fit
 have htk:=GQ u.s h.srv z8 u.c.number u.c.log z8 hfit;have hvl:(aD u).length=u.c.log.length:=(JInv.rC h.srv.hist u.c.number u.s.next u.c.log hfit).vlen;have hs2:=h.srv.take u.c.number hfit;have hrep:=hci.rep;have hcl:u.c.cache.length<=24:=by have:=hci.len;have:=hci.room;omega
 have hbU:lY u=⟨{ u.c with away:=false,log:=[],repair:=nR u.c (aD u) (aD u).length,cache:=(u.c.cache.filter λk=>!k.dirty).filter λk=>!bO (iN u).tree k },iN u⟩:=by
  unfold lY nR vn;rw[W7,hvl,W7]
 have hdn:fz (aD u)=iO (aD u) (aD u).length:=by unfold iO;rw[W7]
 rw[hbU,hdn];have hst:∀i,i<(aD u).length->_:=λi hi=>wy (c:=u.c) hi hvl
 have hsd:∀i,i<(aD u).length->_:=λi hi=>tw (vs:=aD u) hi
 have hdl:=yJ (aD u);have hrl:=Aq u.c (aD u);have h0:nR u.c (aD u) 0=u.c.repair:=by simp[nR,vn,cG]
 have h00:iO (aD u) 0=0:=by simp[iO,fz]
 have hof:=wq (iN u).tree (by have:=hs2.hist.bs.len;unfold iN;omega);have hfr:=oL (u.c.cache.filter λk=>!k.dirty) (iN u).tree (Yn (YB _ _) z8) hs2.hist.bs.up;unfold aD at *;unfold iN at *;generalize (bM u.s.tree u.s.next ((u.s.past.length+1:Nat):Int) u.c.log).vs=vs at *;generalize iS u.s u.c.number u.c.log=s2 at *;generalize nR u.c vs=R at *;generalize iO vs=D at *;clear hbU hdn;unfold ZQ at htk;unfold uH bt;refine wS func63 ntmps63 results63 λC=>?_
 refine wGS ?_;refine sN 14 ?_;refine sC ?_ func99 (hf:=htk);refine sN 3 ?_;refine sW ?_;refine sT ?_;refine sG ?_;refine wXG ?_;refine wL vs.length (λi=>(6,.int .i64 (D i:Nat))::(7,.any)::(8,.any)::(32,.int .i64 i)::u0 33 31 [])
  (λi=>[(900,.cells 121 13 [bt (yx u (R i))])]) ?_ λi hi=>?_
 ·rw[h00];unfold bt yx;rw[h0];exact wZ
 unfold bt yx;simp only[go_sem];refine wGD (λh=>?_) (λh=>?_)
 ·have hlt:=lt1 h;have hlt2:i<u.c.log.length:=by omega
  have hg:=Fam.getD (f:=ZV) hlt;have hgl:=Fam.getD (f:=ZR) hlt2;have hs1:=hst i hlt;have hs3:=hsd i hlt;have hl1:=hdl i z8;have hl2:=hrl i;have how':=wi1 (i:=i) z8;have hwd:IntKind.i64.wrap ((D i:Int)+1)=((D i+1:Nat):Int):=by rw[Eng.wrap_small z8 z8];rfl
  generalize u.c.log.getD i default=r at *;generalize vs.getD i default=v at *;generalize R i=Q at *;refine wR ?_;refine wNq 6 ?_ ?_ z6 z6 Zt
  ·simp[hg,ZV,hlt]
  refine wG ?_
  by_cases he:v.err=0
  ·rw[if_pos he] at hs1 hs3;refine wDT ?_ (hb:=QB);refine wG ?_ (by simp only[go_sem,hwd,how'];try exact rfl) (by simp[go_sem,hwd,how']);exact ZB ⟨i+1,by omega,by omega,ZU (by simp[go_sem,hs3]) (by simp[go_sem,hs1,bt,yx]) w3⟩
  ·rw[if_neg he] at hs1 hs3;have hnr2:∀id,bo id (.cells 51 9 (List.take Q.length (Q.map ZR)++[ZR r])):=λid=>by
    rw[show List.take Q.length (Q.map ZR)++[ZR r]=(Q++[r]).map ZR by simp];exact ja id _
   refine wFG ?_ (hb:=QB);refine ZW ZM ?_;refine fM [(43,[43],[]),(49,[49],[])] rfl (uz Ws) ?_;refine zN tK 1 (hk:=?_);refine zW tK (hk:=?_);refine zN tK 5 (hk:=?_);refine zA tK (h2:=?_) (h4:=?_) (h5:=?_) (h7:=?_) (h8:=?_) (hzz:=?_) (hn:=rfl) (hr:=rfl) (hk:=?_)
   ·exact vm _
   ·exact Ao _
   ·rw[show tab.byt 51=104 from rfl];simp;omega
   ·simp
   ·exact ja 43 _
   ·intro z hz;simp only[List.mem_cons,List.not_mem_nil,or_false] at hz
    rcases hz with rfl | rfl
    ·exact .inl ⟨by decide,ja 43 _⟩
    ·exact .inr ⟨rfl,by decide⟩
   refine zN tK 6 (hk:=?_);refine zN tK 2 (h:=by simp only[go_sem,hgl,ZR];try exact rfl) (hp:=?_) (hk:=?_)
   ·simp[hgl,ZR,hlt2]
   refine zW tK (hk:=?_);refine zA tK (h2:=?_) (h4:=?_) (h5:=?_) (h7:=?_) (h8:=?_) (hzz:=?_) (hn:=rfl) (hr:=rfl) (hk:=?_)
   ·intro row h;simp at h;subst h;rfl
   ·rfl
   ·rw[show tab.byt 51=104 from rfl];simp;omega
   ·simp
   ·exact hnr2 49
   ·intro z hz;simp only[List.mem_cons,List.not_mem_nil,or_false] at hz
    rcases hz with rfl | rfl
    ·exact .inl ⟨by decide,hnr2 43⟩
    ·exact .inl ⟨by decide,hnr2 49⟩
   refine zN tK 3 (hk:=?_);refine jK w9 z6 ?_;refine dS ?_;refine wKn ?_;refine ZZ 59 rfl (by rw[List.all_append,da];rfl) (wn ?_);refine wG ?_ y6 u2;refine ZB ⟨i+1,by omega,by omega,ZU ?_ ?_ ?_⟩
   ·simp[go_sem,hs3]
   ·simp[go_sem,hs1,bt,yx,ZR];exact W4 w8
   ·simp[go_sem]
 ·obtain rfl:=eq1 hi h;clear hst hsd;have hl1:=hdl vs.length (YA _);generalize hD:D vs.length=d at *;generalize R vs.length=Q at *;refine wG ?_;refine af (le_empty 80 138 8 z7) (wn ?_);refine wL u.c.cache.length (λi=>(9,.osl 80 8 0 ((u.c.cache.take i).filter λk=>!k.dirty).length)::(11,.any)::(70,.int .i64 i)::u0 71 11 []) (λi=>[(80,.cells 138 8 (((u.c.cache.take i).filter λk=>!k.dirty).map ZK))]) ?_ λi hi=>?_
  ·exact wZ
  simp only[go_sem];refine wGD (λh=>?_) (λh=>?_)
  ·have hlt:=lt1 h;have hg:=Fam.getD (f:=ZK) hlt;have hw:=wi1 (i:=i) z8;have htk2:(u.c.cache.take (i+1)).filter (λk=>!k.dirty)=(u.c.cache.take i).filter (λk=>!k.dirty)++if (u.c.cache.getD i default).dirty=true then [] else [u.c.cache.getD i default]:=by
    rw[ZT hlt,List.filter_append,List.filter_cons];cases (u.c.cache.getD i default).dirty<;>simp
   have hll2:((u.c.cache.take i).filter λk=>!k.dirty).length<=i:=by
    have:=YB (λk:Kept=>!k.dirty) (u.c.cache.take i);simp only[YF] at this;omega
   generalize (u.c.cache.take i).filter (λk=>!k.dirty)=F at htk2 hll2;generalize u.c.cache.getD i default=k at hg htk2;have htq:List.take F.length (F.map ZK)=F.map ZK:=W4 w8;refine wR ?_;refine wNq 4 ?_ ?_ z6 z6 j8
   ·simp[hg,ZK,hlt]
   refine wG ?_;cases hd:k.dirty with
   | true=>
    rw[hd,if_pos rfl,List.append_nil] at htk2;refine wDF ?_ (hb:=rfl);refine wG ?_ w4 y7;exact ZB ⟨i+1,by omega,by omega,ZU (by simp[go_sem,htk2]) (by simp[go_sem,htk2]) w3⟩
   | false=>
    rw[hd,if_neg w8] at htk2;refine wDT ?_ (hb:=rfl);refine wGq ?_ ?_ w4
    ·simp[htq,refs];omega
    exact ZB ⟨i+1,by omega,by omega,ZU (by simp[go_sem,htk2]) (by simp[go_sem,htk2,htq,ZK,hd]) w3⟩
  ·obtain rfl:=eq1 hi h;rw[W7];refine wG ?_;refine ZZ 80 rfl (bg _) (wn ?_);refine ZW ZM ?_;refine ik 2 [0,1,3,4,5,6,7,8,9,10,11,12,13,14] [0,1,0,2,3,4,5,6,7,8,9,10,11,12,13] rfl rfl rfl (λ_ _ _ h=>h) w9 w9 v8 z7 ?_
   try simp only[go_sem,gA,gB,gC]
   refine ik 1 [0,2,3,4,5,6,7,8,9,10,11,12,13] [0,0,1,2,3,4,5,6,7,8,9,10,11,12] rfl rfl rfl (λ_ _ _ h=>h) w9 w9 v8 z7 ?_
   try simp only[go_sem,gA,gB,gC]
   refine ZS rfl ?_;refine sN 5 ?_;refine sT ?_;refine sN 3 ?_;refine sT ?_;refine sN 2 ?_;refine sT ?_;refine wXG ?_;refine wCg ?_ func27 (hf:=hof);refine wC ?_ func39 (hf:=hfr);have hwl:IntKind.i64.wrap ((vs.length:Int)-(d:Int))=((vs.length-d:Nat):Int):=by rw[Eng.wrap_small z8 z8];omega
   refine wG ?_ (by simp only[go_sem,hwl];try exact rfl) (by simp[go_sem,hwl]);refine af (au 900) (wn ?_);refine wU ?_ ?_
   ·rfl
   ·exact q9
variable {Fa:Prop}
def gP (g:GotS):AV:=.tup [.agg (ZC g.u.c),.agg (ZQ g.u.s),.agg (bc g.r)]
theorem LO (c:Cli) (s:Srv) (x:Step) (hk:x.kind=7):Fo 38 [.agg (ZC c),.agg (ZQ s),.agg (ZX x)] (gP (an ⟨c,s⟩ x)):=by
 obtain ⟨k,cl,n,path,toPath,data⟩:=x;simp only at hk;subst hk;have hW:an ⟨c,s⟩ ⟨7,cl,n,path,toPath,data⟩=⟨⟨{ c with away:=true },s⟩,cA 0⟩:=by unfold an;rfl
 rw[hW];unfold ZC ZQ ZX;refine wSG func38 ntmps38 results38 λC=>?_
 refine af (gy 22 900) ?_;refine af (au 10) (wn ?_);refine wFG ?_ (hb:=rfl);refine wFG ?_ (hb:=rfl);refine wFG ?_ (hb:=rfl);refine wFG ?_ (hb:=rfl);refine wFG ?_ (hb:=rfl);refine wFG ?_ (hb:=rfl);refine wDT ?_ (hb:=rfl);refine wGS ?_;refine sN 9 ?_;refine sT ?_;refine sT ?_;refine sT ?_;refine wX ?_;refine wGT ?_;rfl
theorem LK {B T:Nat} (c:Cli) (s:Srv) (h:UInvF Fa B T ⟨c,s⟩) (hB:B<=30000000) (hT:T<=800000000000) (x:Step) (hp:x.path.length<=10000000) (hk:x.kind=3):Fo 38 [.agg (ZC c),.agg (ZQ s),.agg (ZX x)] (gP (an ⟨c,s⟩ x)):=by
 obtain ⟨k,cl,n,path,toPath,data⟩:=x;simp only at hk hp;subst hk;have hW:an ⟨c,s⟩ ⟨3,cl,n,path,toPath,data⟩=⟨(bK ⟨c,s⟩ path data).u,cA (bK ⟨c,s⟩ path data).e⟩:=by unfold an;rfl
 have hw:=Eu ⟨c,s⟩ h hB hT path data hp;rw[hW];generalize bK ⟨c,s⟩ path data=w at *;unfold uH bt at hw;unfold ZC ZQ ZX;refine wSG func38 ntmps38 results38 λC=>?_
 refine af (gy 22 900) ?_;refine af (au 10) (wn ?_);refine wFG ?_ (hb:=rfl);refine wFG ?_ (hb:=rfl);refine wTG ?_ (hb:=rfl);refine wP ?_ [900] func59 (hf:=hw);refine wGS ?_;refine sN 9 ?_;refine sT ?_;refine sT ?_;refine sT ?_;refine wX ?_;refine wGT ?_;rfl
theorem LL {B T:Nat} (c:Cli) (s:Srv) (h:UInvF Fa B T ⟨c,s⟩) (hB:B<=30000000) (hT:T<=800000000000) (x:Step) (hp:x.path.length<=10000000) (hk:x.kind=4):Fo 38 [.agg (ZC c),.agg (ZQ s),.agg (ZX x)] (gP (an ⟨c,s⟩ x)):=by
 obtain ⟨k,cl,n,path,toPath,data⟩:=x;simp only at hk hp;subst hk;have hW:an ⟨c,s⟩ ⟨4,cl,n,path,toPath,data⟩=⟨(eS ⟨c,s⟩ path).u,cA (eS ⟨c,s⟩ path).e⟩:=by unfold an;rfl
 have hM:eS ⟨c,s⟩ path=if (ah ⟨c,s⟩ path).e≠0 then ⟨(ah ⟨c,s⟩ path).e,(ah ⟨c,s⟩ path).u⟩ else bY (ah ⟨c,s⟩ path).u (iQ (ah ⟨c,s⟩ path).n.fid (ah ⟨c,s⟩ path).name) (-1):=rfl;have hd:=nf ⟨c,s⟩ h z8 z8 path hp;have hdi:=cF h path;have hnm:=bR ⟨c,s⟩ path;rw[hW];generalize eS ⟨c,s⟩ path=w at *;generalize ah ⟨c,s⟩ path=d at *;unfold uH bt at hd;unfold ZC ZQ ZX;refine wSG func38 ntmps38 results38 λC=>?_
 refine af (gy 22 900) ?_;refine af (au 10) (wn ?_);refine wFG ?_ (hb:=rfl);refine wFG ?_ (hb:=rfl);refine wFG ?_ (hb:=rfl);refine wTG ?_ (hb:=rfl);refine wP ?_ [900] func60 (hf:=hd);refine wGq ?_ ?_ w5
 ·simp[ZN]
 by_cases hde:d.e=0
 ·rw[if_neg u5] at hM;have hact:=nH d.u hdi z8 z8 (iQ d.n.fid d.name) ⟨hnm,by simp[iQ],by simp[iQ]⟩ (-1);unfold uH bt at hact;simp only[ZA,iQ,List.map_nil] at hact hM;generalize bY d.u ⟨2,0,d.n.fid,d.name,0,[],[]⟩ (-1)=y at *;rw[hM];refine wTG ?_ (hb:=u5);refine af (xF 123 z6 WH) (wn ?_);refine wP ?_ [900] func61 (hf:=hact);refine wGS ?_;refine sN 9 ?_;refine sT ?_;refine sT ?_;refine sT ?_;refine wX ?_;refine wGT ?_;rfl
 ·rw[if_pos u5] at hM;rw[hM];refine wDF ?_ (hb:=u5);refine wGS ?_;refine sN 9 ?_;refine sT ?_;refine sT ?_;refine sT ?_;refine wX ?_;refine wGT ?_;rfl
theorem LM {B T:Nat} (c:Cli) (s:Srv) (h:UInvF Fa B T ⟨c,s⟩) (hB:B<=30000000) (hT:T<=800000000000) (x:Step) (hp:x.path.length<=10000000) (hk:x.kind=5):Fo 38 [.agg (ZC c),.agg (ZQ s),.agg (ZX x)] (gP (an ⟨c,s⟩ x)):=by
 obtain ⟨k,cl,n,path,toPath,data⟩:=x;simp only at hk hp;subst hk;have hW:an ⟨c,s⟩ ⟨5,cl,n,path,toPath,data⟩=⟨(bx ⟨c,s⟩ path).u,cA (bx ⟨c,s⟩ path).e⟩:=by unfold an;rfl
 have hw:=B2 ⟨c,s⟩ h hB hT path [] hp;rw[hW];generalize bx ⟨c,s⟩ path=w at *;unfold uH bt at hw;unfold ZC ZQ ZX;refine wSG func38 ntmps38 results38 λC=>?_
 refine af (gy 22 900) ?_;refine af (au 10) (wn ?_);refine wFG ?_ (hb:=rfl);refine wFG ?_ (hb:=rfl);refine wFG ?_ (hb:=rfl);refine wFG ?_ (hb:=rfl);refine wTG ?_ (hb:=rfl);refine wP ?_ [900] func62 (hf:=hw);refine wGS ?_;refine sN 9 ?_;refine sT ?_;refine sT ?_;refine sT ?_;refine wX ?_;refine wGT ?_;rfl
theorem LN {B T:Nat} (c:Cli) (s:Srv) (h:UInvF Fa B T ⟨c,s⟩) (hB:B<=30000000) (hT:T<=800000000000) (x:Step) (hp:x.path.length<=10000000) (hq:x.toPath.length<=10000000) (hk:x.kind=6):Fo 38 [.agg (ZC c),.agg (ZQ s),.agg (ZX x)] (gP (an ⟨c,s⟩ x)):=by
 obtain ⟨k,cl,n,path,toPath,data⟩:=x;simp only at hk hp hq;subst hk;have hW:an ⟨c,s⟩ ⟨6,cl,n,path,toPath,data⟩=⟨(cW ⟨c,s⟩ path toPath).u,cA (cW ⟨c,s⟩ path toPath).e⟩:=by unfold an;rfl
 have hw:=GM ⟨c,s⟩ h hB hT path toPath hp hq;rw[hW];generalize cW ⟨c,s⟩ path toPath=w at *;unfold uH bt at hw;unfold ZC ZQ ZX;refine wSG func38 ntmps38 results38 λC=>?_
 refine af (gy 22 900) ?_;refine af (au 10) (wn ?_);refine wFG ?_ (hb:=rfl);refine wFG ?_ (hb:=rfl);refine wFG ?_ (hb:=rfl);refine wFG ?_ (hb:=rfl);refine wFG ?_ (hb:=rfl);refine wTG ?_ (hb:=rfl);refine wP ?_ [900] func62 (hf:=hw);refine wGS ?_;refine sN 9 ?_;refine sT ?_;refine sT ?_;refine sT ?_;refine wX ?_;refine wGT ?_;rfl
theorem LP {B T:Nat} (c:Cli) (s:Srv) (h:UInvF Fa B T ⟨c,s⟩) (hB:B<=30000000) (hT:T<=800000000000) (x:Step) (hk:x.kind=8):Fo 38 [.agg (ZC c),.agg (ZQ s),.agg (ZX x)] (gP (an ⟨c,s⟩ x)):=by
 obtain ⟨k,cl,n,path,toPath,data⟩:=x;simp only at hk;subst hk;have hW:an ⟨c,s⟩ ⟨8,cl,n,path,toPath,data⟩=⟨lY ⟨c,s⟩,⟨0,fz (aD ⟨c,s⟩),((aD ⟨c,s⟩).length-fz (aD ⟨c,s⟩):Nat),[]⟩⟩:=by unfold an;rfl
 have hw:=Gz ⟨c,s⟩ h z8;rw[hW];generalize (aD ⟨c,s⟩).length-fz (aD ⟨c,s⟩)=m2 at *;generalize fz (aD ⟨c,s⟩)=m1 at *;generalize lY ⟨c,s⟩=w at *;unfold uH bt at hw;unfold ZC ZQ ZX;refine wSG func38 ntmps38 results38 λC=>?_
 refine af (gy 22 900) ?_;refine af (au 10) (wn ?_);refine wFG ?_ (hb:=rfl);refine wFG ?_ (hb:=rfl);refine wFG ?_ (hb:=rfl);refine wFG ?_ (hb:=rfl);refine wFG ?_ (hb:=rfl);refine wFG ?_ (hb:=rfl);refine wFG ?_ (hb:=rfl);refine wTG ?_ (hb:=rfl);refine wP ?_ [900] func63 (hf:=hw);refine wGS ?_;refine sN 9 ?_;refine sT ?_;refine sT ?_;refine sT ?_;refine wX ?_;refine wGT ?_;rfl
theorem LQ {B T:Nat} (c:Cli) (s:Srv) (h:UInvF Fa B T ⟨c,s⟩) (hB:B<=30000000) (hT:T<=800000000000) (x:Step) (hp:x.path.length<=10000000) (hk:x.kind=9):Fo 38 [.agg (ZC c),.agg (ZQ s),.agg (ZX x)] (gP (an ⟨c,s⟩ x)):=by
 obtain ⟨k,cl,n,path,toPath,data⟩:=x;simp only at hk hp;subst hk;have hW:an ⟨c,s⟩ ⟨9,cl,n,path,toPath,data⟩=⟨(de ⟨c,s⟩ path n).u,cA (de ⟨c,s⟩ path n).e⟩:=by unfold an;rfl
 have hw:=B0 ⟨c,s⟩ h path hp n;rw[hW];generalize de ⟨c,s⟩ path n=w at *;unfold uH bt at hw;unfold ZC ZQ ZX;refine wSG func38 ntmps38 results38 λC=>?_
 refine af (gy 22 900) ?_;refine af (au 10) (wn ?_);refine wFG ?_ (hb:=rfl);refine wFG ?_ (hb:=rfl);refine wFG ?_ (hb:=rfl);refine wFG ?_ (hb:=rfl);refine wFG ?_ (hb:=rfl);refine wFG ?_ (hb:=rfl);refine wFG ?_ (hb:=rfl);refine wFG ?_ (hb:=rfl);refine wTG ?_ (hb:=rfl);refine wP ?_ [900] func64 (hf:=hw);refine wGS ?_;refine sN 9 ?_;refine sT ?_;refine sT ?_;refine sT ?_;refine wX ?_;refine wGT ?_;rfl
theorem GO {B T:Nat} (c:Cli) (s:Srv) (h:UInvF Fa B T ⟨c,s⟩) (hB:B<=30000000) (hT:T<=800000000000) (x:Step) (hk:x.kind=10) (ha:c.away=true):Fo 38 [.agg (ZC c),.agg (ZQ s),.agg (ZX x)] (gP (an ⟨c,s⟩ x)):=by
 obtain ⟨k,cl,n,path,toPath,data⟩:=x;simp only at hk;subst hk;have hW:an ⟨c,s⟩ ⟨10,cl,n,path,toPath,data⟩=⟨⟨c,s⟩,cA 12⟩:=by unfold an;simp[ha]
 have hw:=Aw ⟨c,s⟩ h ha;rw[hW];unfold uH bt at hw;unfold ZC ZQ ZX;refine wSG func38 ntmps38 results38 λC=>?_
 refine af (gy 22 900) ?_;refine af (au 10) (wn ?_);refine wFG ?_ (hb:=rfl);refine wFG ?_ (hb:=rfl);refine wFG ?_ (hb:=rfl);refine wFG ?_ (hb:=rfl);refine wFG ?_ (hb:=rfl);refine wFG ?_ (hb:=rfl);refine wFG ?_ (hb:=rfl);refine wFG ?_ (hb:=rfl);refine wFG ?_ (hb:=rfl);refine wTG ?_ (hb:=rfl);refine wP ?_ [900] func65 (hf:=hw);refine wGS ?_;refine sN 9 ?_;refine sT ?_;refine sT ?_;refine sT ?_;refine wX ?_;refine wGT ?_;rfl
theorem Jt {B T:Nat} (c:Cli) (s:Srv) (h:UInvF Fa B T ⟨c,s⟩) (hB:B<=30000000) (hT:T<=800000000000) (x:Step) (hk:x.kind=10) (ha:c.away=false):Fo 38 [.agg (ZC c),.agg (ZQ s),.agg (ZX x)] (gP (an ⟨c,s⟩ x)):=by
 obtain ⟨k,cl,n,path,toPath,data⟩:=x;simp only at hk;subst hk;have hW:an ⟨c,s⟩ ⟨10,cl,n,path,toPath,data⟩=⟨(fb ⟨c,s⟩).u,⟨0,(fb ⟨c,s⟩).n,0,[]⟩⟩:=by unfold an;simp[ha]
 have hw:=Ax ⟨c,s⟩ h ha hB hT;rw[hW];generalize fb ⟨c,s⟩=w at *;unfold uH bt at hw;unfold ZC ZQ ZX;refine wSG func38 ntmps38 results38 λC=>?_
 refine af (gy 22 900) ?_;refine af (au 10) (wn ?_);refine wFG ?_ (hb:=rfl);refine wFG ?_ (hb:=rfl);refine wFG ?_ (hb:=rfl);refine wFG ?_ (hb:=rfl);refine wFG ?_ (hb:=rfl);refine wFG ?_ (hb:=rfl);refine wFG ?_ (hb:=rfl);refine wFG ?_ (hb:=rfl);refine wFG ?_ (hb:=rfl);refine wTG ?_ (hb:=rfl);refine wP ?_ [900] func65 (hf:=hw);refine wGS ?_;refine sN 9 ?_;refine sT ?_;refine sT ?_;refine sT ?_;refine wX ?_;refine wGT ?_;rfl
theorem LR (c:Cli) (s:Srv) (x:Step) (hk:x.kind<1\/10<x.kind):Fo 38 [.agg (ZC c),.agg (ZQ s),.agg (ZX x)] (gP (an ⟨c,s⟩ x)):=by
 obtain ⟨k,cl,n,path,toPath,data⟩:=x;simp only at hk;have hW:an ⟨c,s⟩ ⟨k,cl,n,path,toPath,data⟩=⟨⟨c,s⟩,cA 1⟩:=by
  unfold an;simp only
  repeat rw[if_neg z8]
 rw[hW];unfold ZC ZQ ZX;refine wSG func38 ntmps38 results38 λC=>?_
 refine af (gy 22 900) ?_;refine af (au 10) (wn ?_);refine wFG ?_ (hb:=k6);refine wFG ?_ (hb:=k6);refine wFG ?_ (hb:=k6);refine wFG ?_ (hb:=k6);refine wFG ?_ (hb:=k6);refine wFG ?_ (hb:=k6);refine wFG ?_ (hb:=k6);refine wFG ?_ (hb:=k6);refine wFG ?_ (hb:=k6);refine wDF ?_ (hb:=k6);refine wGS ?_;refine sN 9 ?_;refine sT ?_;refine sT ?_;refine sT ?_;refine wX ?_;refine wGT ?_;rfl
end La
