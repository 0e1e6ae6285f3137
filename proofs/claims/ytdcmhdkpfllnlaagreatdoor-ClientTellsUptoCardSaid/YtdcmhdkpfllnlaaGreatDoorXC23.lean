/- Texts of this claim, part 23: RWrite, RGone. No condition. -/
import Derived.Test.YtdcmhdkpfllnlaaGreatDoorXC22
import Derived.Test.YtdcmhdkpfllnlaaGreatDoorXC8
set_option maxRecDepth 10000
set_option maxHeartbeats 4000000
set_option linter.unusedSimpArgs false
set_option linter.unusedVariables false
namespace La
open Go Go.Eng Go.Proofs
theorem BW {B T:Nat} (u:U) (h:UInv B T u) (hB:B≤30000000) (hT:T≤800000000000) (path data:List UInt8) (hp:path.length≤10000000) (G Y N:Nat->Nat):ae Tryz.prog 36 [.ptr 900 13 0 0,.str path,.sl (data.map ZY)] (uH u G Y N)
  (λr H=>r=.int .i64 (cx u path data).e/\Holds (uH (cx u path data).u G Y N) H):=by
 have hd:=lO u h z8 z8 path hp;have hdi:=ct h path;have hdn:=ig h path;have hnm:=bF u path;have hW0:cx u path data=if (ai u path).e≠0 then ⟨(ai u path).e,(ai u path).u⟩
  else if data.length>20 then ⟨4,(ai u path).u⟩
  else match a_ (ai u path).n (ai u path).name with
  | some f=>lf (ba (ai u path).u f 0) data
  | none=>if (cU (ai u path).u (dr (ai u path).n.fid (ai u path).name) (-1)).e≠0 then cU (ai u path).u (dr (ai u path).n.fid (ai u path).name) (-1)
   else lf (goU (cU (ai u path).u (dr (ai u path).n.fid (ai u path).name) (-1)).u (af path).1 0) data:=rfl
 generalize ai u path=d at *;have hent:=iv d.n d.name (by have:=hdn.ent;omega);rw[dU hdn.eup] at hent;unfold ZN at hent;unfold uH at hd;unfold uH;refine ZF tK (Tryz.func36) rfl (λC=>?_);simp only[Tryz.ntmps36,Tryz.results36,go_sem];refine wG tK ?_;refine wP [900] Tryz.func37 (hf:=(hd)) (hk:=?_);refine wGq tK ?_ ?_ w6
 ·simp[ZN]
 by_cases hde:d.e=0
 ·rw[if_neg u5] at hW0;refine wDF (hb:=u5) (hk:=?_);refine wG tK ?_
  by_cases hdl:data.length>20
  ·rw[if_pos hdl] at hW0;have hW:=hW0;refine wDT (hb:=k9) (hk:=?_);refine wG tK ?_;refine wU ?_ ?_
   ·rw[hW]
   ·rw[hW];simp only[pins,List.cons_append,List.nil_append,List.map_cons,List.map_nil]
    repeat' refine ZH ?_ ?_
    all_goals first | exact YH _ | rfl | simp[go_sem]
  ·rw[if_neg hdl] at hW0;refine wDF (hb:=k9) (hk:=?_);refine wG tK ?_;refine ag (ar 10) ?_;simp only[go_sem];cases hen:a_ d.n d.name with
   | some f=>
    rw[hen] at hent hW0;simp only at hent hW0;have hg:=n_ d.u hdi z8 z8 f 0;have hgi:=bP hdi f 0;unfold uH gP at hg;generalize ba d.u f 0=g at hg hgi hW0;refine wC Tryz.func50 (hf:=(hent)) (hk:=?_);refine wG tK ?_;refine wDT (hb:=(rfl)) (hk:=?_);refine wG tK ?_;refine wP [900] Tryz.func78 (hf:=(hg)) (hk:=?_);refine wGq tK ?_ ?_ w6
    ·simp[ZN]
    by_cases hge:g.e=0
    ·have hW:cx u path data=cU g.u (bX g.n.fid data) (cw g.n):=by rw[hW0];unfold lf;rw[if_neg u1]
     have hact:=mq g.u hgi z8 z8 (bX g.n.fid data) ⟨by simp[bX],by simp[bX],by show data.length≤20;omega⟩ (cw g.n);have hse:=ob g.n;unfold uH at hact;simp only[ZA,bX] at hact;rw[hW];unfold ZN at hse;simp only[bX];generalize cU g.u ⟨3,g.n.fid,0,[],0,[],data⟩ (cw g.n)=x at *;refine wDF (hb:=u1) (hk:=?_);refine wG tK ?_;refine ZW ZM ?_;refine ZS rfl ?_;refine sN tK 4 ?_;refine sB tK ?_;refine sN tK 1 ?_;refine sC Tryz.func79 (hf:=(hse)) (hk:=?_);refine gn rfl rfl z7 w3 ⟨_,Tryz.func38,by kernel_rfl,rfl⟩ [900] w8 w3 y8 w3 w3 w3 (hact) z6 w9 ?_;refine sG tK ?_;refine sE ?_;refine wKd ?_
     try simp only[go_sem,gA,gB,gC]
     refine wG tK ?_;refine wU ?_ ?_
     ·rfl
     ·exact q9q
    ·have hW:cx u path data=⟨g.e,g.u⟩:=by rw[hW0];unfold lf;rw[if_pos u1]
     refine wDT (hb:=u1) (hk:=?_);refine wG tK ?_;refine wU ?_ ?_
     ·rw[hW]
     ·rw[hW];simp only[pins,List.cons_append,List.nil_append,List.map_cons,List.map_nil]
      repeat' refine ZH ?_ ?_
      all_goals first | exact YH _ | rfl | simp[go_sem]
   | none=>
    rw[hen] at hent hW0;simp only at hent hW0;have hms:ActS (dr d.n.fid d.name):=⟨hnm,by simp[dr],by simp[dr]⟩;have hmk:=mq d.u hdi z8 z8 (dr d.n.fid d.name) hms (-1);have hmi:=iT hdi hms (-1);generalize cU d.u (dr d.n.fid d.name) (-1)=x at hmk hmi hW0;unfold uH ZA at hmk;simp only[dr,List.map_nil] at hmk;have hmk2:∀G Y N:Nat->Nat,ae Tryz.prog 38 [.ptr 900 13 0 0,.agg [.int .i64 1,.int .i64 0,.int .i64 d.n.fid,.str d.name,.int .i64 0,.str [],.nils],.int .i64 (-1)] _ _:=λG Y N=>ae.nrm rfl (hmk G Y N)
    refine wC Tryz.func50 (hf:=(hent)) (hk:=?_);refine wG tK ?_;refine wDF (hb:=(rfl)) (hk:=?_);refine wG tK ?_;refine wP [900] Tryz.func38 (hf:=(hmk2)) (hk:=?_);refine wG tK ?_
    by_cases hxe:x.e=0
    ·rw[if_neg Q9] at hW0;have hsp:=iw path hp;have hsl:=bV path;unfold cn at hsp;generalize af path=S at *;obtain ⟨L,E⟩:=S;obtain ⟨hll,hlx⟩:=hsl;simp only at hW0 hll hlx hsp;have hg:=rV x.u hmi z8 z8 L z8 (λy hy=>by have:=(hlx y hy).1;omega) 0;have hgi:=kj hmi L 0;unfold uH gP at hg;generalize goU x.u L 0=g at *;refine wDT (hb:=Q9) (hk:=?_);refine wG tK ?_;refine wC Tryz.func17 (hf:=(hsp)) (hk:=?_);refine wG tK ?_;refine wP [900] Tryz.func35 (hf:=(hg)) (hk:=?_);refine wGq tK ?_ ?_ w6
     ·simp[ZN]
     by_cases hge:g.e=0
     ·have hW:cx u path data=cU g.u (bX g.n.fid data) (cw g.n):=by rw[hW0];unfold lf;rw[if_neg u1]
      have hact:=mq g.u hgi z8 z8 (bX g.n.fid data) ⟨by simp[bX],by simp[bX],by show data.length≤20;omega⟩ (cw g.n);have hse:=ob g.n;unfold uH at hact;simp only[ZA,bX] at hact;rw[hW];unfold ZN at hse;simp only[bX];generalize cU g.u ⟨3,g.n.fid,0,[],0,[],data⟩ (cw g.n)=x at *;refine wDF (hb:=u1) (hk:=?_);refine wG tK ?_;refine ZW ZM ?_;refine ZS rfl ?_;refine sN tK 4 ?_;refine sB tK ?_;refine sN tK 1 ?_;refine sC Tryz.func79 (hf:=(hse)) (hk:=?_);refine gn rfl rfl z7 w3 ⟨_,Tryz.func38,by kernel_rfl,rfl⟩ [900] w8 w3 y8 w3 w3 w3 (hact) z6 w9 ?_;refine sG tK ?_;refine sE ?_;refine wKd ?_
      try simp only[go_sem,gA,gB,gC]
      refine wG tK ?_;refine wU ?_ ?_
      ·rfl
      ·exact q9q
     ·have hW:cx u path data=⟨g.e,g.u⟩:=by rw[hW0];unfold lf;rw[if_pos u1]
      refine wDT (hb:=u1) (hk:=?_);refine wG tK ?_;refine wU ?_ ?_
      ·rw[hW]
      ·rw[hW];simp only[pins,List.cons_append,List.nil_append,List.map_cons,List.map_nil]
       repeat' refine ZH ?_ ?_
       all_goals first | exact YH _ | rfl | simp[go_sem]
    ·rw[if_pos Q9] at hW0;have hW:=hW0;refine wDF (hb:=Q9) (hk:=?_);refine wG tK ?_;refine wDT (hb:=Q9) (hk:=?_);refine wG tK ?_;refine wU ?_ ?_
     ·rw[hW]
     ·rw[hW];simp only[pins,List.cons_append,List.nil_append,List.map_cons,List.map_nil]
      repeat' refine ZH ?_ ?_
      all_goals first | exact YH _ | rfl | simp[go_sem]
 ·rw[if_pos u5] at hW0;have hW:=hW0;refine wDT (hb:=u5) (hk:=?_);refine wG tK ?_;refine wU ?_ ?_
  ·rw[hW]
  ·rw[hW];simp only[pins,List.cons_append,List.nil_append,List.map_cons,List.map_nil]
   repeat' refine ZH ?_ ?_
   all_goals first | exact YH _ | rfl | simp[go_sem]
theorem jC {B T:Nat} {u:U} (h:UInv B T u) {f w:Int} (he:(ba u f w).e=0):(ba u f w).n.fid=f:=by
 unfold ba at he ⊢;cases hn:dx u.c.cache f with
 | some n=>
  obtain ⟨k,_,_,hf⟩:=jP hn;exact hf
 | none=>
  rw[hn] at he;simp only at he ⊢;split
  ·rename_i ha;rw[if_pos ha] at he;cases he
  ·rename_i ha;rw[if_neg ha] at he;cases hf:aj u.s.tree f with
   | none=>rw[hf] at he;cases he
   | some n=>exact ((ZO h.srv.hist.bM.up).1 hf).2
theorem zw {B T:Nat} (u:U) (h:UInv B T u) (hB:B≤30000000) (hT:T≤800000000000) (path to:List UInt8) (hp:path.length≤10000000) (G Y N:Nat->Nat):ae Tryz.prog 39 [.ptr 900 13 0 0,.str path,.str to,.bool false] (uH u G Y N)
  (λr H=>r=.int .i64 (bC u path).e/\Holds (uH (bC u path).u G Y N) H):=by
 have hd:=lO u h z8 z8 path hp;have hdi:=ct h path;have hdn:=ig h path;have hnm:=bF u path;have hE:(atU u path).e≠0->bC u path=⟨(atU u path).e,(atU u path).u⟩:=λh=>by unfold bC;rw[if_pos h]
 have hS:(atU u path).e=0->bC u path=cU (atU u path).u (cR (atU u path).n.fid (atU u path).d (atU u path).name) (cw (atU u path).n):=λh=>by unfold bC;rw[if_neg Z9]
 have hA:atU u path=if (ai u path).e≠0 then ⟨0,[],au,(ai u path).e,(ai u path).u⟩
  else match a_ (ai u path).n (ai u path).name with
  | none=>⟨0,[],au,6,(ai u path).u⟩
  | some f=>⟨(ai u path).n.fid,(ai u path).name,(ba (ai u path).u f 0).n,(ba (ai u path).u f 0).e,(ba (ai u path).u f 0).u⟩:=rfl
 generalize bC u path=w at *;generalize ai u path=d at *;generalize atU u path=p at *;have hent:=iv d.n d.name (by have:=hdn.ent;omega);rw[dU hdn.eup] at hent;unfold ZN at hent;unfold uH at hd;unfold uH;refine ZF tK (Tryz.func39) rfl (λC=>?_);simp only[Tryz.ntmps39,Tryz.results39,go_sem];refine wG tK ?_;refine wP [900] Tryz.func37 (hf:=(hd)) (hk:=?_);refine wGq tK ?_ ?_ w6
 ·simp[ZN]
 by_cases hde:d.e=0
 ·rw[if_neg u5] at hA;refine wDF (hb:=u5) (hk:=?_);refine wG tK ?_;cases hen:a_ d.n d.name with
  | none=>
   rw[hen] at hent hA;simp only at hent hA;have hW:=hE (by rw[hA];simp);rw[hA] at hW;refine wC Tryz.func50 (hf:=(hent)) (hk:=?_);refine wG tK ?_;refine wDT (hb:=(rfl)) (hk:=?_);refine wG tK ?_;refine wU ?_ ?_
   ·rw[hW]
   ·rw[hW];simp only[pins,List.cons_append,List.nil_append,List.map_cons,List.map_nil]
    repeat' refine ZH ?_ ?_
    all_goals first | exact YH _ | rfl | simp[go_sem]
  | some f=>
   rw[hen] at hent hA;simp only at hent hA;have hg:=n_ d.u hdi z8 z8 f 0;have hgi:=bP hdi f 0;have hgf:=@jC B (T+42) d.u hdi f 0;unfold uH gP at hg;generalize ba d.u f 0=g at hg hgi hA hgf;refine wC Tryz.func50 (hf:=(hent)) (hk:=?_);refine wG tK ?_;refine wDF (hb:=(rfl)) (hk:=?_);refine wG tK ?_;refine wP [900] Tryz.func78 (hf:=(hg)) (hk:=?_);refine wGq tK ?_ ?_ w6
   ·simp[ZN]
   by_cases hge:g.e=0
   ·have hgf:=hgf hge;rw[hA] at hS;refine wDF (hb:=u1) (hk:=?_);refine wG tK ?_;refine ag (ar 15) ?_;simp only[go_sem]
    skip
    have hW:=hS hge;simp only[cR,hgf] at hW;have hact:=mq g.u hgi z8 z8 (cR f d.n.fid d.name) ⟨hnm,by simp[cR],by simp[cR]⟩ (cw g.n);have hse:=ob g.n;unfold uH at hact;simp only[ZA,cR,List.map_nil] at hact;unfold ZN at hse;rw[hW];generalize cU g.u ⟨4,f,d.n.fid,d.name,0,[],[]⟩ (cw g.n)=x at *;refine wDF (hb:=(rfl)) (hk:=?_);refine wG tK ?_;refine ZW ZM ?_;refine ZS rfl ?_;refine sN tK 3 ?_;refine sC Tryz.func79 (hf:=(hse)) (hk:=?_);refine gn rfl rfl z7 w3 ⟨_,Tryz.func38,by kernel_rfl,rfl⟩ [900] w8 w3 y8 w3 w3 w3 (hact) z6 w9 ?_;refine sG tK ?_;refine sE ?_;refine wKd ?_
    try simp only[go_sem,gA,gB,gC]
    refine wG tK ?_;refine wU ?_ ?_
    ·rfl
    ·exact q9q
   ·have hW:=hE WL;rw[hA] at hW;refine wDT (hb:=u1) (hk:=?_);refine wG tK ?_;refine wU ?_ ?_
    ·rw[hW]
    ·rw[hW];simp only[pins,List.cons_append,List.nil_append,List.map_cons,List.map_nil]
     repeat' refine ZH ?_ ?_
     all_goals first | exact YH _ | rfl | simp[go_sem]
 ·rw[if_pos u5] at hA;have hW:=hE WM;rw[hA] at hW;refine wDT (hb:=u5) (hk:=?_);refine wG tK ?_;refine wU ?_ ?_
  ·rw[hW]
  ·rw[hW];simp only[pins,List.cons_append,List.nil_append,List.map_cons,List.map_nil]
   repeat' refine ZH ?_ ?_
   all_goals first | exact YH _ | rfl | simp[go_sem]
theorem DP {B T:Nat} (u:U) (h:UInv B T u) (hB:B≤30000000) (hT:T≤800000000000) (path to:List UInt8) (hp:path.length≤10000000) (hto:to.length≤10000000) (G Y N:Nat->Nat):ae Tryz.prog 39 [.ptr 900 13 0 0,.str path,.str to,.bool true] (uH u G Y N)
  (λr H=>r=.int .i64 (c_ u path to).e/\Holds (uH (c_ u path to).u G Y N) H):=by
 have hd:=lO u h z8 z8 path hp;have hdi:=ct h path;have hdn:=ig h path;have hnm:=bF u path;have hE:(atU u path).e≠0->c_ u path to=⟨(atU u path).e,(atU u path).u⟩:=λh=>by unfold c_;rw[if_pos h]
 have hM1:(atU u path).e=0->(ai (atU u path).u to).e≠0->c_ u path to=⟨(ai (atU u path).u to).e,(ai (atU u path).u to).u⟩:=λh h2=>by unfold c_;rw[if_neg Z9,if_pos h2]
 have hM2:(atU u path).e=0->(ai (atU u path).u to).e=0->c_ u path to=cU (ai (atU u path).u to).u (ef (atU u path).n.fid (atU u path).d (atU u path).name (ai (atU u path).u to).n.fid (ai (atU u path).u to).name) (cw (atU u path).n):=λh h2=>by
  unfold c_;rw[if_neg Z9,if_neg (by simp[h2])]
 have hS:=hM1;have hA:atU u path=if (ai u path).e≠0 then ⟨0,[],au,(ai u path).e,(ai u path).u⟩
  else match a_ (ai u path).n (ai u path).name with
  | none=>⟨0,[],au,6,(ai u path).u⟩
  | some f=>⟨(ai u path).n.fid,(ai u path).name,(ba (ai u path).u f 0).n,(ba (ai u path).u f 0).e,(ba (ai u path).u f 0).u⟩:=rfl
 generalize c_ u path to=w at *;generalize ai u path=d at *;generalize atU u path=p at *;have hent:=iv d.n d.name (by have:=hdn.ent;omega);rw[dU hdn.eup] at hent;unfold ZN at hent;unfold uH at hd;unfold uH;refine ZF tK (Tryz.func39) rfl (λC=>?_);simp only[Tryz.ntmps39,Tryz.results39,go_sem];refine wG tK ?_;refine wP [900] Tryz.func37 (hf:=(hd)) (hk:=?_);refine wGq tK ?_ ?_ w6
 ·simp[ZN]
 by_cases hde:d.e=0
 ·rw[if_neg u5] at hA;refine wDF (hb:=u5) (hk:=?_);refine wG tK ?_;cases hen:a_ d.n d.name with
  | none=>
   rw[hen] at hent hA;simp only at hent hA;have hW:=hE (by rw[hA];simp);rw[hA] at hW;refine wC Tryz.func50 (hf:=(hent)) (hk:=?_);refine wG tK ?_;refine wDT (hb:=(rfl)) (hk:=?_);refine wG tK ?_;refine wU ?_ ?_
   ·rw[hW]
   ·rw[hW];simp only[pins,List.cons_append,List.nil_append,List.map_cons,List.map_nil]
    repeat' refine ZH ?_ ?_
    all_goals first | exact YH _ | rfl | simp[go_sem]
  | some f=>
   rw[hen] at hent hA;simp only at hent hA;have hg:=n_ d.u hdi z8 z8 f 0;have hgi:=bP hdi f 0;have hgf:=@jC B (T+42) d.u hdi f 0;unfold uH gP at hg;generalize ba d.u f 0=g at hg hgi hA hgf;refine wC Tryz.func50 (hf:=(hent)) (hk:=?_);refine wG tK ?_;refine wDF (hb:=(rfl)) (hk:=?_);refine wG tK ?_;refine wP [900] Tryz.func78 (hf:=(hg)) (hk:=?_);refine wGq tK ?_ ?_ w6
   ·simp[ZN]
   by_cases hge:g.e=0
   ·have hgf:=hgf hge;rw[hA] at hS;refine wDF (hb:=u1) (hk:=?_);refine wG tK ?_;refine ag (ar 15) ?_;simp only[go_sem]
    skip
    have hd2:=lO g.u hgi z8 z8 to hto;have hd2i:=ct hgi to;have hd2n:=bF g.u to;rw[hA] at hM1 hM2;simp only at hM1 hM2;have hM1:=hM1 hge;have hM2:=hM2 hge;unfold uH at hd2;generalize ai g.u to=q at *;refine wDT (hb:=(rfl)) (hk:=?_);refine wG tK ?_;refine wP [900] Tryz.func37 (hf:=(hd2)) (hk:=?_);refine wGq tK ?_ ?_ w6
    ·simp[ZN]
    by_cases hqe:q.e=0
    ·have hW:=hM2 hqe;simp only[ef,hgf] at hW;have hact:=mq q.u hd2i z8 z8 (ef f d.n.fid d.name q.n.fid q.name) ⟨hnm,hd2n,by simp[ef]⟩ (cw g.n);have hse:=ob g.n;unfold uH at hact;simp only[ZA,ef,List.map_nil] at hact;unfold ZN at hse;rw[hW];generalize cU q.u ⟨5,f,d.n.fid,d.name,q.n.fid,q.name,[]⟩ (cw g.n)=x at *;refine wDF (hb:=Zo) (hk:=?_);refine wG tK ?_;refine ZW ZM ?_;refine ZS rfl ?_;refine sN tK 4 ?_;refine sT tK ?_;refine sN tK 1 ?_;refine sT tK ?_;refine sN tK 1 ?_;refine sT tK ?_;refine sE ?_;refine wKd ?_
     try simp only[go_sem,gA,gB,gC]
     refine wG tK ?_;refine ZW ZM ?_;refine ZS rfl ?_;refine sN tK 3 ?_;refine sC Tryz.func79 (hf:=(hse)) (hk:=?_);refine gn rfl rfl z7 w3 ⟨_,Tryz.func38,by kernel_rfl,rfl⟩ [900] w8 w3 y8 w3 w3 w3 (hact) z6 w9 ?_;refine sG tK ?_;refine sE ?_;refine wKd ?_
     try simp only[go_sem,gA,gB,gC]
     refine wG tK ?_;refine wU ?_ ?_
     ·rfl
     ·exact q9q
    ·have hW:=hM1 hqe;refine wDT (hb:=Zo) (hk:=?_);refine wG tK ?_;refine wU ?_ ?_
     ·rw[hW]
     ·rw[hW];simp only[pins,List.cons_append,List.nil_append,List.map_cons,List.map_nil]
      repeat' refine ZH ?_ ?_
      all_goals first | exact YH _ | rfl | simp[go_sem]
   ·have hW:=hE WL;rw[hA] at hW;refine wDT (hb:=u1) (hk:=?_);refine wG tK ?_;refine wU ?_ ?_
    ·rw[hW]
    ·rw[hW];simp only[pins,List.cons_append,List.nil_append,List.map_cons,List.map_nil]
     repeat' refine ZH ?_ ?_
     all_goals first | exact YH _ | rfl | simp[go_sem]
 ·rw[if_pos u5] at hA;have hW:=hE WM;rw[hA] at hW;refine wDT (hb:=u5) (hk:=?_);refine wG tK ?_;refine wU ?_ ?_
  ·rw[hW]
  ·rw[hW];simp only[pins,List.cons_append,List.nil_append,List.map_cons,List.map_nil]
   repeat' refine ZH ?_ ?_
   all_goals first | exact YH _ | rfl | simp[go_sem]
end La
