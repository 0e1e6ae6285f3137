/- Texts of this claim, part 38: CWrite, CHoard, CBack, CDo. No condition. -/
import Derived.Test.YtmcfbfdonjllaaaGreatDoorZP37
import Derived.Test.YtmcfbfdonjllaaaGreatDoorZP34
set_option maxRecDepth 10000
set_option maxHeartbeats 4000000
set_option linter.unusedSimpArgs false
set_option linter.unusedVariables false
namespace La
open Go Go.Eng Go.Proofs Go.Proofs.Tryz
variable {Fa:Prop}
theorem p_ {B T:Nat} (u:U) (h:UInvF Fa B T u) (hB:B<=40000000) (hT:T<=900000000000) (a:Act) (ha:ActS a) (seen:Int) (G Y N:Nat->Nat):ai prog 74 [.ptr 900 13 0 0,.agg (ZA a),.int .i64 seen] (cuH u G Y N)
  (λr H=>r=.int .i64 (bY u a seen).e/\Holds (cuH (bY u a seen).u G Y N) H):=by
 unfold bY;cases e:u.c.away with
 | true=>exact H8 u h hB e a ha seen G Y N
 | false=>exact E4 u h hB e a ha seen G Y N
theorem sQ (u:U) (n:Node) (G Y N:Nat->Nat):ai prog 105 [.ptr 900 13 0 0,.rp (ZN n) 0] (cuH u G Y N) (λr H=>r=.int .i64 (cH n)/\Holds (cuH u G Y N) H):=by
 unfold ZN cuH;refine wS func105 ntmps105 results105 λC=>?_
 refine wGD (λh=>?_) (λh=>?_)
 ·refine wG ?_;refine wU ?_ ?_
  ·simp at h;simp[cH,h]
  ·exact q9
 ·refine wG ?_;refine wU ?_ ?_
  ·simp at h;unfold cH;rw[if_neg z8]
  ·exact q9
theorem qw {B T:Nat} {u:U} (h:UInvF Fa B T u) {f w:Int} (he:(bd u f w).e=0):(bd u f w).n.fid=f:=by
 unfold bd at he ⊢;cases hn:dV u.c.cache f with
 | some n=>
  obtain ⟨k,_,_,hf⟩:=kP hn;exact hf
 | none=>
  rw[hn] at he;simp only at he ⊢;split
  ·rename_i ha;rw[if_pos ha] at he;cases he
  ·rename_i ha;rw[if_neg ha] at he;cases hf:ak u.s.tree f with
   | none=>rw[hf] at he;cases he
   | some n=>exact ((ZO h.srv.hist.bs.up).1 hf).2
theorem Hf {B T:Nat} (u:U) (h:UInvF Fa B T u) (hB:B<=30000000) (hT:T<=800000000000) (path data:List UInt8) (hp:path.length<=10000000) (G Y N:Nat->Nat):ai prog 72 [.ptr 900 13 0 0,.str path,.sl (data.map ZY)] (cuH u G Y N)
  (λr H=>r=.int .i64 (bK u path data).e/\Holds (cuH (bK u path data).u G Y N) H):=by
 have hd:=kS u h z8 z8 path hp;have hdi:=cF h path;have hdn:=jf h path;have hnm:=bR u path;have hW0:bK u path data=if (ah u path).e≠0 then ⟨(ah u path).e,(ah u path).u⟩
  else if data.length>20 then ⟨4,(ah u path).u⟩
  else match ba (ah u path).n (ah u path).name with
  | some f=>iz (bd (ah u path).u f 0) data
  | none=>if (bY (ah u path).u (cU (ah u path).n.fid (ah u path).name) (-1)).e≠0 then bY (ah u path).u (cU (ah u path).n.fid (ah u path).name) (-1)
   else iz (goU (bY (ah u path).u (cU (ah u path).n.fid (ah u path).name) (-1)).u (ae path).1 0) data:=rfl
 generalize ah u path=d at *;have hent:=kD d.n d.name hdn.small;unfold ZN at hent;unfold cuH at hd;unfold cuH;refine wSG func72 ntmps72 results72 λC=>?_
 refine wP ?_ [900] func73 (hf:=hd);refine wGq ?_ ?_ w5
 ·simp[ZN]
 by_cases hde:d.e=0
 ·rw[if_neg u5] at hW0;refine wFG ?_ (hb:=u5)
  by_cases hdl:data.length>20
  ·rw[if_pos hdl] at hW0;have hW:=hW0;refine wTG ?_ (hb:=k6);refine wU ?_ ?_
   ·rw[hW]
   ·rw[hW];exact q9
  ·rw[if_neg hdl] at hW0;refine wFG ?_ (hb:=k6);cases hen:ba d.n d.name with
   | some f=>
    rw[hen] at hent hW0;simp only[eU] at hent;simp only at hent hW0;have hg:=mG d.u hdi z8 z8 f 0;have hgi:=bZ hdi f 0;have hgf:=@qw Fa B (T+42) d.u hdi f 0;unfold cuH iG at hg;generalize bd d.u f 0=g at hg hgi hW0 hgf;refine wCg ?_ func104 (hf:=hent);refine wFG ?_ (hb:=rfl);refine wP ?_ [900] func106 (hf:=hg);refine wGq ?_ ?_ w5
    ·simp[ZN]
    by_cases hge:g.e=0
    ·have hgf:=hgf hge;have hW:bK u path data=bY g.u (cj g.n.fid data) (cH g.n):=by rw[hW0];unfold iz;rw[if_neg x9]
     have hact:=p_ g.u hgi z8 z8 (cj g.n.fid data) ⟨by simp[cj],by simp[cj],by show data.length<=20;omega⟩ (cH g.n);have hse:=sQ g.u g.n;unfold cuH at hact hse;unfold ZN at hse;simp only[ZA,cj] at hact;rw[hW];simp only[cj];generalize bY g.u ⟨3,g.n.fid,0,[],0,[],data⟩ (cH g.n)=x at *;rw[hgf] at hact;refine wDF ?_ (hb:=x9);refine ZZ 17 rfl (rfl) (wn ?_);refine wR ?_;refine wN 5 ?_;refine wP ?_ [900] func105 (hf:=hse);refine wN 0 ?_;refine wP ?_ [900] func74 (hf:=hact);refine wG ?_;refine wU ?_ ?_
     ·rfl
     ·exact q9
    ·have hW:bK u path data=⟨g.e,g.u⟩:=by rw[hW0];unfold iz;rw[if_pos x9]
     refine wTG ?_ (hb:=x9);refine wU ?_ ?_
     ·rw[hW]
     ·rw[hW];exact q9
   | none=>
    rw[hen] at hent hW0;simp only[eU] at hent;simp only at hent hW0;have hms:ActS (cU d.n.fid d.name):=⟨hnm,by simp[cU],by simp[cU]⟩;have hmk:=p_ d.u hdi z8 z8 (cU d.n.fid d.name) hms (-1);have hmi:=jS hdi hms (-1);generalize bY d.u (cU d.n.fid d.name) (-1)=x at hmk hmi hW0;unfold cuH ZA at hmk;simp only[cU,List.map_nil] at hmk;have hmk2:∀G Y N:Nat->Nat,ai prog 74 [.ptr 900 13 0 0,.agg [.int .i64 1,.int .i64 0,.int .i64 d.n.fid,.str d.name,.int .i64 0,.str [],.nils],.int .i64 (-1)] _ _:=λG Y N=>ai.nrm rfl (hmk G Y N)
    refine wCg ?_ func104 (hf:=hent);refine wTG ?_ (hb:=rfl);refine wP ?_ [900] func74 (hf:=hmk2);refine wG ?_
    by_cases hxe:x.e=0
    ·rw[if_neg Zs] at hW0;have hsp:=nu path z8;have hsl:=cg path;unfold cD at hsp;generalize ae path=S at *;obtain ⟨L,E⟩:=S;obtain ⟨hll,hlx⟩:=hsl;simp only at hW0 hll hlx hsp;have hg:=xf x.u hmi z8 z8 L z8 (λy hy=>by have:=(hlx y hy).1;omega) 0;have hgi:=lr hmi L 0;unfold cuH iG at hg;generalize goU x.u L 0=g at *;refine wFG ?_ (hb:=Zs);refine wCg ?_ func102 (hf:=hsp);refine wP ?_ [900] func103 (hf:=hg);refine wGq ?_ ?_ w5
     ·simp[ZN]
     by_cases hge:g.e=0
     ·have hW:bK u path data=bY g.u (cj g.n.fid data) (cH g.n):=by rw[hW0];unfold iz;rw[if_neg x9]
      have hact:=p_ g.u hgi z8 z8 (cj g.n.fid data) ⟨by simp[cj],by simp[cj],by show data.length<=20;omega⟩ (cH g.n);have hse:=sQ g.u g.n;unfold cuH at hact hse;unfold ZN at hse;simp only[ZA,cj] at hact;rw[hW];simp only[cj];generalize bY g.u ⟨3,g.n.fid,0,[],0,[],data⟩ (cH g.n)=x at *;refine wDF ?_ (hb:=x9);refine ZZ 15 rfl (rfl) (wn ?_);refine wGS ?_;refine sN 4 ?_;refine sB ?_;refine sN 1 ?_;refine dP rfl rfl z7 w3 ⟨_,func105,by kernel_rfl,rfl⟩ [900] w6 w3 w8 w3 w3 (hse) z6 w7 ?_;refine hY rfl rfl z7 w3 ⟨_,func74,by kernel_rfl,rfl⟩ [900] w6 w3 w8 w3 w3 w3 (hact) z6 w7 ?_;refine sG ?_;refine wXG ?_;refine wU ?_ ?_
      ·rfl
      ·exact q9
     ·have hW:bK u path data=⟨g.e,g.u⟩:=by rw[hW0];unfold iz;rw[if_pos x9]
      refine wTG ?_ (hb:=x9);refine wU ?_ ?_
      ·rw[hW]
      ·rw[hW];exact q9
    ·rw[if_pos Zs] at hW0;have hW:=hW0;refine wTG ?_ (hb:=Zs);refine wU ?_ ?_
     ·rw[hW]
     ·rw[hW];exact q9
 ·rw[if_pos u5] at hW0;have hW:=hW0;refine wTG ?_ (hb:=u5);refine wU ?_ ?_
  ·rw[hW]
  ·rw[hW];exact q9
theorem BV {B T:Nat} (u:U) (h:UInvF Fa B T u) (hB:B<=30000000) (hT:T<=800000000000) (path:List UInt8) (hp:path.length<=10000000) (G Y N:Nat->Nat):ai prog 75 [.ptr 900 13 0 0,.str path] (cuH u G Y N)
  (λr H=>r=.int .i64 (bx u path).e/\Holds (cuH (bx u path).u G Y N) H):=by
 have hd:=kS u h z8 z8 path hp;have hdi:=cF h path;have hdn:=jf h path;have hnm:=bR u path;have hE:(atU u path).e≠0->bx u path=⟨(atU u path).e,(atU u path).u⟩:=λh=>by unfold bx;rw[if_pos h]
 have hS:(atU u path).e=0->bx u path=bY (atU u path).u (di (atU u path).n.fid (atU u path).d (atU u path).name) (cH (atU u path).n):=λh=>by unfold bx;rw[if_neg WC]
 have hA:atU u path=if (ah u path).e≠0 then ⟨0,[],aw,(ah u path).e,(ah u path).u⟩
  else match ba (ah u path).n (ah u path).name with
  | none=>⟨0,[],aw,6,(ah u path).u⟩
  | some f=>⟨(ah u path).n.fid,(ah u path).name,(bd (ah u path).u f 0).n,(bd (ah u path).u f 0).e,(bd (ah u path).u f 0).u⟩:=rfl
 generalize bx u path=w at *;generalize ah u path=d at *;generalize atU u path=p at *;have hent:=kD d.n d.name hdn.small;unfold ZN at hent;unfold cuH at hd;unfold cuH;refine wSG func75 ntmps75 results75 λC=>?_
 refine wP ?_ [900] func73 (hf:=hd);refine wGq ?_ ?_ w5
 ·simp[ZN]
 by_cases hde:d.e=0
 ·rw[if_neg u5] at hA;refine wFG ?_ (hb:=u5);cases hen:ba d.n d.name with
  | none=>
   rw[hen] at hent hA;simp only[eU] at hent;simp only at hent hA;have hW:=hE (by rw[hA];simp);rw[hA] at hW;refine wCg ?_ func104 (hf:=hent);refine wTG ?_ (hb:=rfl);refine wU ?_ ?_
   ·rw[hW]
   ·rw[hW];exact q9
  | some f=>
   rw[hen] at hent hA;simp only[eU] at hent;simp only at hent hA;have hg:=mG d.u hdi z8 z8 f 0;have hgi:=bZ hdi f 0;have hgf:=@qw Fa B (T+42) d.u hdi f 0;unfold cuH iG at hg;generalize bd d.u f 0=g at hg hgi hA hgf;refine wCg ?_ func104 (hf:=hent);refine wFG ?_ (hb:=rfl);refine wP ?_ [900] func106 (hf:=hg);refine wGq ?_ ?_ w5
   ·simp[ZN]
   by_cases hge:g.e=0
   ·have hgf:=hgf hge;rw[hA] at hS;refine wDF ?_ (hb:=x9)
    skip
    have hW:=hS hge;simp only[di,hgf] at hW;have hact:=p_ g.u hgi z8 z8 (di f d.n.fid d.name) ⟨hnm,by simp[di],by simp[di]⟩ (cH g.n);have hse:=sQ g.u g.n;unfold cuH at hact hse;simp only[ZA,di,List.map_nil] at hact;unfold ZN at hse;rw[hW];generalize bY g.u ⟨4,f,d.n.fid,d.name,0,[],[]⟩ (cH g.n)=x at *;have hact2:∀G Y N:Nat->Nat,ai prog 74 [.ptr 900 13 0 0,.agg [.int .i64 4,.int .i64 f,.int .i64 d.n.fid,.str d.name,.int .i64 0,.str [],.nils],.int .i64 (cH g.n)] _ _:=λG Y N=>ai.nrm rfl (hact G Y N)
    refine ZZ 10 rfl (rfl) (wn ?_);refine wGS ?_;refine sN 5 ?_;refine sB ?_;refine sN 1 ?_;refine dP rfl rfl z7 w3 ⟨_,func105,by kernel_rfl,rfl⟩ [900] w6 w3 w8 w3 w3 (hse) z6 w7 ?_;refine hY rfl rfl z7 w3 ⟨_,func74,by kernel_rfl,rfl⟩ [900] w6 w3 w8 w3 w3 w3 (hact2) z6 w7 ?_;refine sG ?_;refine wXG ?_;refine wU ?_ ?_
    ·rfl
    ·exact q9
   ·have hW:=hE Wo;rw[hA] at hW;refine wTG ?_ (hb:=x9);refine wU ?_ ?_
    ·rw[hW]
    ·rw[hW];exact q9
 ·rw[if_pos u5] at hA;have hW:=hE Wp;rw[hA] at hW;refine wTG ?_ (hb:=u5);refine wU ?_ ?_
  ·rw[hW]
  ·rw[hW];exact q9
theorem I8 {B T:Nat} (u:U) (h:UInvF Fa B T u) (hB:B<=30000000) (hT:T<=800000000000) (path to:List UInt8) (hp:path.length<=10000000) (hto:to.length<=10000000) (G Y N:Nat->Nat):ai prog 76 [.ptr 900 13 0 0,.str path,.str to] (cuH u G Y N)
  (λr H=>r=.int .i64 (cW u path to).e/\Holds (cuH (cW u path to).u G Y N) H):=by
 have hd:=kS u h z8 z8 path hp;have hdi:=cF h path;have hdn:=jf h path;have hnm:=bR u path;have hE:(atU u path).e≠0->cW u path to=⟨(atU u path).e,(atU u path).u⟩:=λh=>by unfold cW;rw[if_pos h]
 have hM1:(atU u path).e=0->(ah (atU u path).u to).e≠0->cW u path to=⟨(ah (atU u path).u to).e,(ah (atU u path).u to).u⟩:=λh h2=>by unfold cW;rw[if_neg WC,if_pos h2]
 have hM2:(atU u path).e=0->(ah (atU u path).u to).e=0->cW u path to=bY (ah (atU u path).u to).u (eG (atU u path).n.fid (atU u path).d (atU u path).name (ah (atU u path).u to).n.fid (ah (atU u path).u to).name) (cH (atU u path).n):=λh h2=>by
  unfold cW;rw[if_neg WC,if_neg (by simp[h2])]
 have hS:=hM1;have hA:atU u path=if (ah u path).e≠0 then ⟨0,[],aw,(ah u path).e,(ah u path).u⟩
  else match ba (ah u path).n (ah u path).name with
  | none=>⟨0,[],aw,6,(ah u path).u⟩
  | some f=>⟨(ah u path).n.fid,(ah u path).name,(bd (ah u path).u f 0).n,(bd (ah u path).u f 0).e,(bd (ah u path).u f 0).u⟩:=rfl
 generalize cW u path to=w at *;generalize ah u path=d at *;generalize atU u path=p at *;have hent:=kD d.n d.name hdn.small;unfold ZN at hent;unfold cuH at hd;unfold cuH;refine wSG func76 ntmps76 results76 λC=>?_
 refine wP ?_ [900] func73 (hf:=hd);refine wGq ?_ ?_ w5
 ·simp[ZN]
 by_cases hde:d.e=0
 ·rw[if_neg u5] at hA;refine wFG ?_ (hb:=u5);cases hen:ba d.n d.name with
  | none=>
   rw[hen] at hent hA;simp only[eU] at hent;simp only at hent hA;have hW:=hE (by rw[hA];simp);rw[hA] at hW;refine wCg ?_ func104 (hf:=hent);refine wTG ?_ (hb:=rfl);refine wU ?_ ?_
   ·rw[hW]
   ·rw[hW];exact q9
  | some f=>
   rw[hen] at hent hA;simp only[eU] at hent;simp only at hent hA;have hg:=mG d.u hdi z8 z8 f 0;have hgi:=bZ hdi f 0;have hgf:=@qw Fa B (T+42) d.u hdi f 0;unfold cuH iG at hg;generalize bd d.u f 0=g at hg hgi hA hgf;refine wCg ?_ func104 (hf:=hent);refine wFG ?_ (hb:=rfl);refine wP ?_ [900] func106 (hf:=hg);refine wGq ?_ ?_ w5
   ·simp[ZN]
   by_cases hge:g.e=0
   ·have hgf:=hgf hge;rw[hA] at hS;refine wDF ?_ (hb:=x9)
    skip
    have hd2:=kS g.u hgi z8 z8 to hto;have hd2i:=cF hgi to;have hd2n:=bR g.u to;rw[hA] at hM1 hM2;simp only at hM1 hM2;have hM1:=hM1 hge;have hM2:=hM2 hge;unfold cuH at hd2;generalize ah g.u to=q at *;refine wG ?_;refine wP ?_ [900] func73 (hf:=hd2);refine wGq ?_ ?_ w5
    ·simp[ZN]
    by_cases hqe:q.e=0
    ·have hW:=hM2 hqe;simp only[eG,hgf] at hW;have hact:=p_ q.u hd2i z8 z8 (eG f d.n.fid d.name q.n.fid q.name) ⟨hnm,hd2n,by simp[eG]⟩ (cH g.n);have hse:=sQ q.u g.n;unfold cuH at hact hse;simp only[ZA,eG,List.map_nil] at hact;unfold ZN at hse;rw[hW];generalize bY q.u ⟨5,f,d.n.fid,d.name,q.n.fid,q.name,[]⟩ (cH g.n)=x at *;have hact2:∀G Y N:Nat->Nat,ai prog 74 [.ptr 900 13 0 0,.agg [.int .i64 5,.int .i64 f,.int .i64 d.n.fid,.str d.name,.int .i64 q.n.fid,.str q.name,.nils],.int .i64 (cH g.n)] _ _:=λG Y N=>ai.nrm rfl (hact G Y N)
     refine wDF ?_ (hb:=Z9);refine ZZ 12 rfl (rfl) (wn ?_);refine wGS ?_;refine sN 8 ?_;refine sB ?_;refine sN 1 ?_;refine dP rfl rfl z7 w3 ⟨_,func105,by kernel_rfl,rfl⟩ [900] w6 w3 w8 w3 w3 (hse) z6 w7 ?_;refine hY rfl rfl z7 w3 ⟨_,func74,by kernel_rfl,rfl⟩ [900] w6 w3 w8 w3 w3 w3 (hact2) z6 w7 ?_;refine sG ?_;refine wXG ?_;refine wU ?_ ?_
     ·rfl
     ·exact q9
    ·have hW:=hM1 hqe;refine wTG ?_ (hb:=Z9);refine wU ?_ ?_
     ·rw[hW]
     ·rw[hW];exact q9
   ·have hW:=hE Wo;rw[hA] at hW;refine wTG ?_ (hb:=x9);refine wU ?_ ?_
    ·rw[hW]
    ·rw[hW];exact q9
 ·rw[if_pos u5] at hA;have hW:=hE Wp;rw[hA] at hW;refine wTG ?_ (hb:=u5);refine wU ?_ ?_
  ·rw[hW]
  ·rw[hW];exact q9
variable {Fa:Prop}
theorem DD (path:List UInt8) (h:Hoard):Fo 116 [.agg (ZJ h),.rp [.str path] 0] (.bool (h.path==path)):=by
 unfold ZJ;refine wS func116 ntmps116 results116 λC=>?_
 refine wGT ?_;rfl
theorem DF {B T:Nat} (u:U) (h:UInvF Fa B T u) (path:List UInt8) (hp:path.length<=10000000) (w:Int) (G Y N:Nat->Nat):ai prog 78 [.ptr 900 13 0 0,.str path,.int .i64 w] (cuH u G Y N)
  (λr H=>r=.int .i64 (de u path w).e/\Holds (cuH (de u path w).u G Y N) H):=by
 have hsp:=nu path z8;have h6:=h.cli.hoards;have hW0:de u path w=if (ae path).2≠0 then ⟨(ae path).2,u⟩ else if w<0\/w>100 then ⟨3,u⟩
  else if 0<w/\(ct u.c.hoards path).length≥6 then ⟨5,u⟩
  else ⟨0,⟨{ u.c with hoards:=if 0<w then ct u.c.hoards path++[⟨path,w⟩] else ct u.c.hoards path },u.s⟩⟩:=rfl
 have hcl:=nW u.c.hoards z8;have hdl:=qD (p:=λx=>x.path==path) u.c.hoards z8 1007 ⟨_,Go.Proofs.Tryz.func116,by kernel_rfl,rfl⟩ (caps:=[.rp [.str path] 0]) (by simp[AV.aT]) x7 (λx _=>DD path x);have hfl:u.c.hoards.filter (λx=>!(x.path==path))=ct u.c.hoards path:=rfl;rw[hfl] at hdl;have hFl:(ct u.c.hoards path).length<=u.c.hoards.length:=YB _ _;generalize ct u.c.hoards path=F at *;have htq:List.take F.length (F.map ZJ++List.replicate (u.c.hoards.length-F.length) [AV.str [],AV.int .i64 0])=F.map ZJ:=iC w8;generalize de u path w=wF at *;unfold cD at hsp;generalize ae path=S at *;obtain ⟨L,E⟩:=S;simp only at hW0 hsp;unfold cuH bt;refine wSG func78 ntmps78 results78 λC=>?_
 refine ZZ 4 rfl (rfl) (wn ?_);refine wCg ?_ func102 (hf:=hsp)
 by_cases hE:E=0
 ·rw[if_neg j9] at hW0;refine wDF ?_ (hb:=j9);refine wR ?_;refine wN 6 ?_;refine wNm 23 λc23 h23=>?_
  have hc:c23=true↔(w<0\/w>100):=by
   rw[<-h23];cases e1:decide (w<0)<;>simp at e1<;>simp[e1]<;>omega
  clear h23;refine wG ?_
  by_cases hwr:w<0\/w>100
  ·rw[if_pos hwr] at hW0;have hW:=hW0;refine wTG ?_ (hb:=hc.2 hwr);refine wU ?_ ?_
   ·rw[hW]
   ·rw[hW];exact q9
  ·rw[if_neg hwr] at hW0;refine wFG ?_ (hb:=by simpa using λh0=>hwr (hc.1 h0));refine wCG ?_ [] 1000 func70 (hf:=hcl);refine wG ?_;refine wCG ?_ [1007] 100 func115 (hf:=hdl);refine wG ?_
   by_cases hw0:0<w
   ·refine wTG ?_ (hb:=Wt)
    by_cases hfl:F.length≥6
    ·rw[if_pos ⟨hw0,hfl⟩] at hW0;have hW:=hW0;refine wTG ?_ (hb:=k6);refine wU ?_ ?_
     ·rw[hW]
     ·rw[hW];exact q9
    ·rw[if_neg (λh=>hfl h.2),if_pos hw0] at hW0;have hW:=hW0;refine wDF ?_ (hb:=k6);refine wR ?_;refine wNq 6 ?_ ?_ z6 z6 (by simp only[go_sem,htq];try exact rfl)
     ·simp[htq,refs]
      first | exact ⟨by intro row h;simp at h;subst h;rfl,by omega⟩ | omega
     refine wN 1 ?_;refine ZZ 42 rfl (by rw[List.all_append,ef];rfl) (wn ?_);have htq2:List.take (F.length+1) (F.map ZJ++[[AV.str path,AV.int .i64 w]])=(F++[(⟨path,w⟩:Hoard)]).map ZJ:=by rw[W4 w8,List.map_append];rfl
     rw[htq2];refine wG ?_;refine wU ?_ ?_
     ·rw[hW]
     ·rw[hW];exact q9
   ·rw[if_neg (λh=>hw0 h.1),if_neg hw0] at hW0;have hW:=hW0;refine wDF ?_ (hb:=Wt);refine ZZ 1107 rfl (by rw[List.all_append,ef,Y3];exact jG _ rfl) ?_;simp only[go_sem,htq];refine wG ?_;refine wU ?_ ?_
    ·rw[hW]
    ·rw[hW];exact q9
 ·rw[if_pos j9] at hW0;have hW:=hW0;refine wTG ?_ (hb:=j9);refine wU ?_ ?_
  ·rw[hW]
  ·rw[hW];exact q9
theorem lG {l:List Hoard} {h:Hoard}:∀{n:Nat},h∈bu l n->h∈l
 | 0,hm=>by cases hm
 | n+1,hm=>by
  rw[bu] at hm
  rcases List.mem_append.1 hm with hm | hm
  ·exact (YL.1 hm).1
  ·exact lG hm
theorem l_ (x:Hoard) (l:List Hoard):∀n:Nat,(bu (x::l) n).length=(bu l n).length+if 1<=x.worth/\x.worth<=(n:Int) then 1 else 0
 | 0=>by
  rw[if_neg z8];rfl
 | n+1=>by
  rw[bu,bu,List.length_append,List.length_append,l_ x l n,List.filter_cons]
  by_cases h1:x.worth=((n+1:Nat):Int)
  ·rw[if_pos Zc,if_neg z8,if_pos z8,List.length_cons];omega
  ·rw[if_neg Zc]
   by_cases h2:1<=x.worth/\x.worth<=(n:Int)
   ·rw[if_pos h2,if_pos z8];omega
   ·rw[if_neg h2,if_neg z8];omega
theorem rN:∀(l:List Hoard),(∀h,h∈l->1<=h.worth/\h.worth<=100)->(bu l 100).length=l.length
 | [],_=>by
  cases e:bu ([]:List Hoard) 100 with
  | nil=>rfl
  | cons x r=>
   have:=lG (l:=[]) (h:=x) (n:=100) (by rw[e];simp);cases this
 | x::l,h=>by
  have h1:=h x List.mem_cons_self;rw[l_,if_pos ⟨h1.1,by omega⟩,rN l λy hy=>h y (List.mem_cons_of_mem _ hy)];rfl
theorem Cq {B T:Nat} (u:U) (h:UInvF Fa B T u) (ha:u.c.away=true) (G Y N:Nat->Nat):ai prog 79 [.ptr 900 13 0 0] (cuH u G Y N)
  (λr H=>r=.tup [.int .i64 0,.int .i64 12]/\Holds (cuH u G Y N) H):=by
 unfold cuH bt;refine wSG func79 ntmps79 results79 λC=>?_
 refine wTG ?_ (hb:=ha);refine wU ?_ ?_
 ·rfl
 ·exact q9
theorem Cr {B T:Nat} (u:U) (h:UInvF Fa B T u) (ha:u.c.away=false) (hB:B<=30000000) (hT:T<=800000000000) (G Y N:Nat->Nat):ai prog 79 [.ptr 900 13 0 0] (cuH u G Y N)
  (λr H=>r=.tup [.int .i64 ((fb u).n:Int),.int .i64 0]/\Holds (cuH (fb u).u G Y N) H):=by
 have h6:=h.cli.hoards;have hhS:=h.cli.hoardS;have hhS':∀x,x∈u.c.hoards->1<=x.worth/\x.worth<=100:=λx hx=>(hhS x hx).worth
 have hV:fb u=(bu u.c.hoards 100).foldl eB ⟨0,u⟩:=rfl;have h0:VI Fa B T u ⟨0,u⟩ 0:=⟨h,Idle.refl u,YA _⟩;have hcl:=nW u.c.hoards z8;have hoS:∀x,x∈bu u.c.hoards 100->HoardOK x:=λx hx=>hhS x (lG hx)
 generalize fb u=vF at *;unfold cuH;refine wS func79 ntmps79 results79 λC=>?_
 refine wG ?_ Z3 Z0;refine wFG ?_ (hb:=ha)
 by_cases hne:u.c.hoards=[]
 ·have hO:bu u.c.hoards 100=[]:=by
   cases e:bu u.c.hoards 100 with
   | nil=>rfl
   | cons x r=>
    have:=lG (l:=u.c.hoards) (h:=x) (n:=100) (by rw[e];simp);rw[hne] at this;cases this
  rw[hO,List.foldl_nil] at hV;rw[hne] at hcl ⊢;refine wCG ?_ [] 993 func70 (hf:=hcl);refine ZZ 1000 rfl (rfl) (wn ?_);refine wG ?_;refine wCg ?_ func117 (hf:=DI);refine ZL (λ_:Unit=>True) (λ_=>0) (λ_=>[]) (λ_=>[]) () trivial ?_ λ_ _=>?_
  ·simp only[go_sem];exact ZU w3 Z0 w3
  simp only[go_sem];refine mh ?_ (hb:=x7);rw[hV];refine wU ?_ ?_
  ·rfl
  ·rw[show bt u=_ from rfl];unfold bt;rw[hne];exact q9
 ·have hst:=FU u.c.hoards hne z8 hhS';have hOl:(bu u.c.hoards 100).length=u.c.hoards.length:=by
   exact rN _ hhS'
  unfold hoH at hst;generalize hOd:bu u.c.hoards 100=O at *;refine wCG ?_ [] 993 func70 (hf:=hcl);refine wG ?_;refine bC rfl (dY rfl z7 w3 ⟨_,func117,by kernel_rfl,rfl⟩ [1000] w6 w3 w8 Zo w3 w3 (hst) w7) ?_;refine ZZ 1000 rfl (ef _) ?_;simp only[go_sem,W4 (show (O.map ZJ).length<=u.c.hoards.length by simp[hOl]),hOl,YA,if_true];refine wG ?_
  skip
  refine ZL (λq:Nat×GotV=>q.1<=O.length/\vF=(O.drop q.1).foldl eB q.2/\VI Fa B T u q.2 q.1) (λq=>O.length-q.1)
   (λq=>(5,.int .i64 (q.2.n:Int))::(27,.int .i64 (q.1:Int))::u0 7 5 (u0 28 23 [])) (λq=>[(900,.cells 146 13 [bt q.2.u])]) (0,⟨0,u⟩) ⟨Ys _,by rw[List.drop_zero];exact hV,h0⟩ ?_ λq hq=>?_
  ·simp only[go_sem];exact ZU w3 Z0 w3
  obtain ⟨i,g⟩:=q;obtain ⟨hi,hvf,hvi⟩:=hq;simp only at hi hvf hvi;simp only[go_sem];refine wGD (λh=>?_) (λh=>?_)
  ·have hlt:=lt1 h;have hg:=Fam.getD (f:=ZJ) hlt;have hwi:=wi1 (i:=i) z8;have hok:=hoS _ (YG hlt);rw[ck hlt,List.foldl_cons] at hvf;generalize O.getD i default=x at *;have hst:=hvi.step x;have hsp:=nu x.path (by have:=hok.path;omega);have hsl:=cg x.path;have hvs:eB g x=⟨if (goU g.u (ae x.path).1 x.worth).e=0 then g.n+1 else g.n,(goU g.u (ae x.path).1 x.worth).u⟩:=rfl;have hgo:=xf g.u hvi.inv z8 z8 (ae x.path).1 (by have:=hsl.1;omega) (λy hy=>by have:=(hsl.2 y hy).1;omega) x.worth;rw[hvs] at hvf hst;unfold cD at hsp;unfold cuH iG at hgo;generalize goU g.u (ae x.path).1 x.worth=q at *;generalize (ae x.path).1=L at *;have hgn:=hvi.n;have hwn:IntKind.i64.wrap ((g.n:Int)+1)=((g.n+1:Nat):Int):=by rw[Eng.wrap_small z8 z8];rfl
   refine wGq ?_ ?_ Qm
   ·simp[hg,ZJ,hlt]
   refine wCg ?_ func102 (hf:=hsp);refine wP ?_ [900] func103 (hf:=hgo);refine wGq ?_ ?_ w5
   ·simp[ZN]
   by_cases hqe:q.e=0
   ·rw[if_pos hqe] at hvf hst;refine wDT ?_ (hb:=Z9);refine wG ?_ (by simp only[go_sem,hwn,hwi];try exact rfl) (by simp[go_sem,hwn,hwi]);refine ZB ⟨(i+1,⟨g.n+1,q.u⟩),⟨by simp only;omega,hvf,hst⟩,by simp only;omega,ZU ?_ ?_ ?_⟩
    ·simp[go_sem]
    ·simp[go_sem]
    ·simp[go_sem]
   ·rw[if_neg hqe] at hvf hst;refine wDF ?_ (hb:=Z9);refine wG ?_ QU WG;refine ZB ⟨(i+1,⟨g.n,q.u⟩),⟨by simp only;omega,hvf,hst⟩,by simp only;omega,ZU ?_ ?_ ?_⟩
    ·simp[go_sem]
    ·simp[go_sem]
    ·simp[go_sem]
  ·have e:i=O.length:=by simp at h;omega
   subst e;rw[List.drop_length,List.foldl_nil] at hvf;refine wG ?_;rw[hvf];refine wU ?_ ?_
   ·rfl
   ·exact q9
variable {Fa:Prop}
def rW (u:U) (away:Bool) (id n:Nat):List AV:=[.int .i64 u.c.number,.bool away,.int .i64 u.c.room,.sl (u.c.cache.map ZK),.sl (u.c.log.map ZR),.osl id 9 0 n,.sl (u.c.hoards.map ZJ),.int .i64 u.c.clock,.int .i64 u.c.made,.int .i64 u.c.logged,.sl (u.s.tree.map ZN),.int .i64 u.s.next,.sl (u.s.past.map ZP)]
def Lb (u:U) (G Y N:Nat->Nat):List (Nat×Blk):=[(19,.cells 146 13 [rW u u.c.away 901 u.c.repair.length]),(901,.cells 51 9 (u.c.repair.map ZR))]++pins [19] G Y N
def Fl (u:U) (G Y N:Nat->Nat):List (Nat×Blk):=[(19,.cells 146 13 [bt u])]++pins [19] G Y N
theorem Ib {B T:Nat} (u:U) (h:UInvF Fa B T u) (hB:B<=40000000) (G Y N:Nat->Nat):ai prog 77 [.ptr 19 13 0 0] (Lb u G Y N)
  (λr H=>r=.tup [.int .i64 (fz (aD u)),.int .i64 ((aD u).length-fz (aD u):Nat)]/\Holds (Fl (lY u) G Y N) H):=by
 have hci:=h.cli;have hll:=hci.log;have hfit:∀r,r∈u.c.log->ActFit r.act:=λr hr=>(hci.logS r hr).fit
 have hsl:SmallL u.c.log:=⟨by omega,λr hr=>by have:=(hci.logS r hr).data;show r.act.data.length<=_;omega⟩;have htk:=Db u.s (h.srv.mono z8) u.c.number u.c.log hsl z8 hfit;have hvl:(aD u).length=u.c.log.length:=(JInv.rC h.srv.hist u.c.number u.s.next u.c.log hfit).vlen;have hs2:=h.srv.take u.c.number hfit;have hrep:=hci.rep;have hsk:=h.ye;have hbU:lY u=⟨{ u.c with away:=false,log:=[],repair:=nR u.c (aD u) (aD u).length,cache:=(u.c.cache.filter λk=>!k.dirty).filter λk=>!bO (iN u).tree k },iN u⟩:=by
  unfold lY nR vn;rw[W7,hvl,W7]
 have hdn:fz (aD u)=iO (aD u) (aD u).length:=by unfold iO;rw[W7]
 rw[hbU,hdn];have hst:∀i,i<(aD u).length->_:=λi hi=>wy (c:=u.c) hi hvl
 have hsd:∀i,i<(aD u).length->_:=λi hi=>tw (vs:=aD u) hi
 have hdl:=yJ (aD u);have hrl:=Aq u.c (aD u);have h0:nR u.c (aD u) 0=u.c.repair:=by simp[nR,vn,cG]
 have h00:iO (aD u) 0=0:=by simp[iO,fz]
 have hcn:=Fg u.c.cache hsk;have hfl:=YB (λk:Kept=>!k.dirty) u.c.cache;have hfr:=tL (u.c.cache.filter λk=>!k.dirty) (iN u).tree ⟨by have:=hsk.len;omega,λk hk=>hsk.each k (YL.1 hk).1⟩ hs2.hist.bs.small;unfold aD at *;unfold iN at *;generalize (bM u.s.tree u.s.next ((u.s.past.length+1:Nat):Int) u.c.log).vs=vs at *;generalize iS u.s u.c.number u.c.log=s2 at *;generalize nR u.c vs=R at *;generalize iO vs=D at *;clear hbU hdn;unfold ZQ at htk;unfold Lb rW Fl bt;refine wS func77 ntmps77 results77 λC=>?_
 refine wGS ?_;refine sN 14 ?_;refine sC ?_ func45 (hf:=htk);refine sN 3 ?_;refine sW ?_;refine sT ?_;refine sG ?_;refine wX ?_;refine af (mP 901 59 19 z6 z7 z7 z6 j0 j0 rfl z7 j6 j6) ?_;refine wG ?_;refine wL vs.length (λi=>(2,.int .i64 (D i:Nat))::(3,.int .i64 ((i-D i:Nat):Int))::(6,.any)::(7,.any)::(32,.int .i64 i)::u0 33 31 [])
  (λi=>[(19,.cells 146 13 [rW u false 59 (R i).length]),(59,.cells 51 9 ((R i).map ZR))]) ?_ λi hi=>?_
 ·rw[h00,h0];unfold rW;exact wZ
 unfold rW;simp only[go_sem];refine wGD (λh=>?_) (λh=>?_)
 ·have hlt:=lt1 h;have hlt2:i<u.c.log.length:=by omega
  have hg:=Fam.getD (f:=ZV) hlt;have hgl:=Fam.getD (f:=ZR) hlt2;have hs1:=hst i hlt;have hs3:=hsd i hlt;have hl1:=hdl i z8;have hl2:=hrl i;have how':=wi1 (i:=i) z8;have hwd:IntKind.i64.wrap ((D i:Int)+1)=((D i+1:Nat):Int):=by rw[Eng.wrap_small z8 z8];rfl
  have hwr:IntKind.i64.wrap (((i-D i:Nat):Int)+1)=((i-D i+1:Nat):Int):=by rw[Eng.wrap_small z8 z8];rfl
  have hsub1:i+1-(D i+1)=i-D i:=by omega
  have hsub2:i+1-D i=i-D i+1:=by omega
  generalize u.c.log.getD i default=r at *;generalize vs.getD i default=v at *;generalize R i=Q at *;have htq:List.take Q.length (Q.map ZR)=Q.map ZR:=W4 w8;refine wR ?_;refine wNq 6 ?_ ?_ z6 z6 Zt
  ·simp[hg,ZV,hlt]
  refine wG ?_
  by_cases he:v.err=0
  ·rw[if_pos he] at hs1 hs3;refine wDT ?_ (hb:=QB);refine wG ?_ (by simp only[go_sem,hwd,how'];try exact rfl) (by simp[go_sem,hwd,how']);exact ZB ⟨i+1,by omega,by omega,ZU (by simp[go_sem,hs3,hsub1]) (by simp[go_sem,hs1,rW]) w3⟩
  ·rw[if_neg he] at hs1 hs3;refine wDF ?_ (hb:=QB);refine wG ?_ Zz (by simp[go_sem,hwr]);refine ZW ZM ?_;refine ik 0 [1,2,3,4,5,6,7,8,9,10,11,12,13,14,15,16,17,18,19] [0,0,1,2,3,4,5,6,7,8,9,10,11,12,13,14,15,16,17,18] rfl rfl rfl (λ_ _ _ h=>h) w9 w9 v8 z7 ?_
   try simp only[go_sem,gA,gB,gC]
   refine ZS rfl ?_;refine sNq 13 ?_ ?_ z6 z6 (by simp only[go_sem,hgl,ZR];try exact rfl)
   ·simp[hgl,ZR,hlt2]
   refine sW ?_;refine sE ?_;refine iV (aX 59 19 z6 y9) ?_;simp only[go_sem];refine dSq ?_ ?_
   ·simp[go_sem,rowsOf,htq];refine ⟨by omega,λx hx y hy hr=>?_⟩;have:=List.all_eq_true.1 (List.all_eq_true.1 (ja 59 Q) (ZR x) (W8.2 ⟨x,hx,rfl⟩)) y hy;simp only[Yo,List.contains_eq_mem,decide_eq_false_iff_not] at this;exact this hr
   simp only[go_sem];refine dS ?_;refine dS ?_;refine dS ?_;refine dS ?_;refine wKn ?_;refine wG ?_ y6 u2;exact ZB ⟨i+1,by omega,by omega,ZU (by simp[go_sem,hs3,hsub2,hs1]) (by simp[go_sem,hs1,rW,htq,ZR]) w3⟩
 ·obtain rfl:=eq1 hi h;clear hst hsd;have hl1:=hdl vs.length (YA _);generalize hD:D vs.length=d at *;generalize R vs.length=Q at *;have htq:List.take Q.length (Q.map ZR)=Q.map ZR:=W4 w8;refine ZZ 59 rfl (da _) ?_;simp only[go_sem,htq];refine wGS ?_;refine sN 6 ?_;refine sC ?_ func114 (hf:=hcn);refine sN 2 ?_;refine sC ?_ func43 (hf:=hfr);refine sG ?_;refine sE ?_;refine dS ?_;refine wKG ?_;refine af (au 19) (wn ?_);refine wU ?_ ?_
  ·rfl
  ·exact q9
variable {Fa:Prop}
def ss (c:Cli):List AV:=[.int .i64 c.number,.bool c.away,.int .i64 c.room,.sl (c.cache.map ZK),.sl (c.log.map ZR),.osl 901 9 0 c.repair.length,.sl (c.hoards.map ZJ),.int .i64 c.clock,.int .i64 c.made,.int .i64 c.logged]
theorem yE (c:Cli) (h:SmallC c):ai prog 41 [.agg (ZC c)] [] (λr H=>r=.agg (ss c)/\∀i b,aa [(901,.cells 51 9 (c.repair.map ZR))] i=some b->aa H i=some b):=by
 have h1:=sD c.cache h.cache;have h2:=kM c.log h.log;have h3:=qK c.repair h.repair;have h4:=pd c.hoards h.hoards;unfold ZC ss;refine wS func41 ntmps41 results41 λC=>?_
 refine wGS ?_;refine sN 2 ?_;refine sC ?_ func68 (hf:=h1);refine sN 2 ?_;refine sC ?_ func69 (hf:=h2);refine sN 2 ?_;refine g_ 882 rfl rfl z7 w3 ⟨_,func69,by kernel_rfl,rfl⟩ w3 (h3) w3 z7 z7 w3 z6 z6 ?_;refine sN 2 ?_;refine sC ?_ func70 (hf:=h4);refine sN 1 ?_;refine sT ?_;refine sN 1 ?_;refine sT ?_;refine sN 1 ?_;refine sT ?_;refine sN 1 ?_;refine sT ?_;refine wX ?_;refine wGT ?_;simp[go_sem]
def oc (u:U) (x:Step):GotS:=if (ae x.path).2≠0 then ⟨u,cA (ae x.path).2⟩ else ⟨(goU u (ae x.path).1 0).u,gk x.kind (goU u (ae x.path).1 0)⟩
theorem C0 {B T:Nat} (u:U) (h:UInvF Fa B T u) (hB:B<=30000000) (hT:T<=800000000000) (x:Step) (hp:x.path.length<=10000000) (hk:x.kind=1\/x.kind=2) (G Y N:Nat->Nat):ai prog 71 [.ptr 900 13 0 0,.rp (ZX x) 0] (cuH u G Y N)
  (λr H=>r=.agg (bc (oc u x).r)/\Holds (cuH (oc u x).u G Y N) H):=by
 have hsp:=nu x.path z8;have hsl:=cg x.path;have hgo:=xf u h z8 z8 (ae x.path).1 z8 (λy hy=>by have:=(hsl.2 y hy).1;omega) 0;have hno:=pk h (ae x.path).1 0;have hnam:=xy h (ae x.path).1 0;have hW:oc u x=if (ae x.path).2≠0 then ⟨u,cA (ae x.path).2⟩ else ⟨(goU u (ae x.path).1 0).u,gk x.kind (goU u (ae x.path).1 0)⟩:=rfl;generalize oc u x=wF at *;unfold cD at hsp;generalize goU u (ae x.path).1 0=g at *;generalize ae x.path=S at *;obtain ⟨L,E⟩:=S;simp only at hW hsp hgo;unfold cuH iG at hgo;unfold cuH ZX;refine wSG func71 ntmps71 results71 λC=>?_
 refine af (au 4) (wn ?_);refine wCg ?_ func102 (hf:=hsp)
 by_cases hE:E=0
 ·rw[if_neg j9] at hW;rw[hW];refine wFG ?_ (hb:=j9);refine wP ?_ [900] func103 (hf:=hgo);refine wGq ?_ ?_ w5
  ·simp[ZN]
  by_cases hge:g.e=0
  ·refine wFG ?_ (hb:=x9)
   rcases hk with hk | hk
   ·have hr:gk x.kind g=if g.n.dir=true then ⟨9,0,0,[]⟩ else ⟨0,0,0,g.n.data⟩:=by unfold gk;rw[if_neg x9,if_pos hk]
    rw[hr];cases hd:g.n.dir with
    | true=>
     refine wTG ?_ (hb:=QM);refine af (au 4) (wn ?_);refine wU ?_ ?_
     ·rfl
     ·exact q9
    | false=>
     refine wFG ?_ (hb:=QM);refine wTG ?_ (hb:=QM);refine wU ?_ ?_
     ·rfl
     ·exact q9
   ·have hr:gk x.kind g=if g.n.dir=true then ⟨0,0,0,oa g.n.entries⟩ else ⟨8,0,0,[]⟩:=by unfold gk;rw[if_neg x9,if_neg z8]
    rw[hr];refine wFG ?_ (hb:=QM);refine wFG ?_ (hb:=QM);cases hd:g.n.dir with
    | false=>
     refine wTG ?_ (hb:=rfl);refine af (au 4) (wn ?_);refine wU ?_ ?_
     ·rfl
     ·exact q9
    | true=>
     refine wFG ?_ (hb:=rfl);have hle:=hno.ent;have hD0:kL g.n.entries 0=[]:=rfl;have hDs:=λi=>@oE g.n.entries i
     have hDn:=qJ hnam;have hDe:kL g.n.entries g.n.entries.length=oa g.n.entries:=by unfold kL;rw[W7]
     rw[if_pos rfl];generalize kL g.n.entries=D at *;generalize oa g.n.entries=DE at *;refine af (le_empty 71 5 1 z7) (wn ?_);refine wL g.n.entries.length (λi=>(8,.osl 71 1 0 (D i).length)::(10,.any)::(62,.int .i64 i)::u0 63 10 [])
      (λi=>[(71,.cells 5 1 ((D i).map ZY))]) ?_ λi hi=>?_
     ·rw[hD0];exact wZ
     simp only[go_sem];refine wGD (λh=>?_) (λh=>?_)
     ·have hlt:=lt1 h;have hg:=Fam.getD (f:=ZE) hlt;have hs1:=hDs i hlt;have hl1:=hDn i hi;have hl2:(g.n.entries.getD i default).name.length<=40:=hnam _ (by rw[List.getD_eq_getElem?_getD,W3 hlt];exact YY _);have how':=wi1 (i:=i) z8;generalize g.n.entries.getD i default=e at *;generalize D i=Di at *;have htq:List.take Di.length (Di.map ZY)=Di.map ZY:=W4 w8;refine wR ?_;refine wNq 4 ?_ ?_ z6 z6 s6
      ·simp[hg,ZE,hlt]
      refine wR ?_;refine wN 3 ?_;refine bC rfl (yk tK rfl rfl rfl rfl z7 z7 (by show fy _ _ _ _ _ (.sl (e.name.map ZY))=_;simp only[go_sem,htq];exact rfl) ?_ z6) ?_
      ·simp[go_sem,htq];exact ⟨by omega,λx hx=>fV (uR g.u) hx 71⟩
      refine wGq ?_ ?_ y6
      ·simp[htq,refs];refine ⟨by omega,λx hx=>fV (uR g.u) hx 69,λrow hr y hy=>?_⟩
       rcases List.mem_append.1 (YJ hr) with hr | hr<;>obtain ⟨b,_,rfl⟩:=W8.1 hr<;>simp only[ZY,List.mem_cons,List.not_mem_nil,or_false] at hy<;>subst hy<;>simp[refs]
      refine ZB ⟨i+1,by omega,by omega,ZU ?_ ?_ ?_⟩
      ·simp[go_sem,hs1];omega
      ·simp[go_sem,hs1,htq,ZY];rw[W4 w8,List.append_assoc]
      ·simp[go_sem]
     ·obtain rfl:=eq1 hi h;rw[hDe];refine ZZ 71 rfl (lh _) (wn ?_);refine wG ?_;refine wU ?_ ?_
      ·simp[bc]
      ·exact q9
  ·have hr:gk x.kind g=cA g.e:=by unfold gk;rw[if_pos hge];rfl
   rw[hr];refine wTG ?_ (hb:=x9);refine af (au 4) (wn ?_);refine wU ?_ ?_
   ·rfl
   ·exact q9
 ·rw[if_pos hE] at hW;rw[hW];refine wTG ?_ (hb:=j9);refine af (au 4) (wn ?_);refine wU ?_ ?_
  ·rfl
  ·exact q9
end La
