/- Texts of this claim, part 23: RWrite, RGone. No condition. -/
import Derived.Test.YtdcmhdkpfllnlaaGreatDoorYC22
set_option maxRecDepth 10000
set_option maxHeartbeats 4000000
set_option linter.unusedSimpArgs false
set_option linter.unusedVariables false
namespace La
open Go Go.Eng Go.Proofs
variable {Fa:Prop}
theorem Dc {B T:Nat} (u:U) (h:UInvF Fa B T u) (hB:B≤30000000) (hT:T≤800000000000) (path data:List UInt8) (hp:path.length≤10000000) (G Y N:Nat->Nat):af Tryz.prog 36 [.ptr 900 13 0 0,.str path,.sl (data.map ZY)] (uH u G Y N)
  (λr H=>r=.int .i64 (a_ u path data).e/\Holds (uH (a_ u path data).u G Y N) H):=by
 have hd:=mz u h z8 z8 path hp;have hdi:=ch h path;have hdn:=iP h path;have hnm:=bF u path;have hW0:a_ u path data=if (ag u path).e≠0 then ⟨(ag u path).e,(ag u path).u⟩
  else if data.length>20 then ⟨4,(ag u path).u⟩
  else match av (ag u path).n (ag u path).name with
  | some f=>fH (aU (ag u path).u f 0) data
  | none=>if (bQ (ag u path).u (bK (ag u path).n.fid (ag u path).name) (-1)).e≠0 then bQ (ag u path).u (bK (ag u path).n.fid (ag u path).name) (-1)
   else fH (goU (bQ (ag u path).u (bK (ag u path).n.fid (ag u path).name) (-1)).u (ae path).1 0) data:=rfl
 generalize ag u path=d at *;have hent:=gM d.n d.name (by have:=hdn.ent;omega);rw[du hdn.eup] at hent;unfold ZN at hent;unfold uH at hd;unfold uH;refine ZF tK (Tryz.func36) rfl (λC=>?_);simp only[Tryz.ntmps36,Tryz.results36,go_sem];refine wG tK ?_;refine wP [900] Tryz.func37 (hf:=(hd)) (hk:=?_);refine wGq tK ?_ ?_ w6
 ·simp[ZN]
 by_cases hde:d.e=0
 ·rw[if_neg s9] at hW0;refine wDF (hb:=s9) (hk:=?_);refine wG tK ?_
  by_cases hdl:data.length>20
  ·rw[if_pos hdl] at hW0;have hW:=hW0;refine wDT (hb:=j0) (hk:=?_);refine wG tK ?_;refine wU ?_ ?_
   ·rw[hW]
   ·rw[hW];simp only[pins,List.cons_append,List.nil_append,List.map_cons,List.map_nil]
    repeat' refine ZH ?_ ?_
    all_goals first | exact YH _ | rfl | simp[go_sem]
  ·rw[if_neg hdl] at hW0;refine wDF (hb:=j0) (hk:=?_);refine wG tK ?_;refine ah (ax 10) ?_;simp only[go_sem];cases hen:av d.n d.name with
   | some f=>
    rw[hen] at hent hW0;simp only at hent hW0;have hg:=pe d.u hdi z8 z8 f 0;have hgi:=bA hdi f 0;unfold uH im at hg;generalize aU d.u f 0=g at hg hgi hW0;refine wC Tryz.func50 (hf:=(hent)) (hk:=?_);refine wG tK ?_;refine wDT (hb:=(rfl)) (hk:=?_);refine wG tK ?_;refine wP [900] Tryz.func78 (hf:=(hg)) (hk:=?_);refine wGq tK ?_ ?_ w6
    ·simp[ZN]
    by_cases hge:g.e=0
    ·have hW:a_ u path data=bQ g.u (aw g.n.fid data) (cI g.n):=by rw[hW0];unfold fH;rw[if_neg u7]
     have hact:=nj g.u hgi z8 z8 (aw g.n.fid data) ⟨by simp[aw],by simp[aw],by show data.length≤20;omega⟩ (cI g.n);have hse:=pg g.n;unfold uH at hact;simp only[ZA,aw] at hact;rw[hW];unfold ZN at hse;simp only[aw];generalize bQ g.u ⟨3,g.n.fid,0,[],0,[],data⟩ (cI g.n)=x at *;refine wDF (hb:=u7) (hk:=?_);refine wG tK ?_;refine ZW ZM ?_;refine ZS rfl ?_;refine sN tK 4 ?_;refine sB tK ?_;refine sN tK 1 ?_;refine sC Tryz.func79 (hf:=(hse)) (hk:=?_);refine gQ rfl rfl z7 w3 ⟨_,Tryz.func38,by kernel_rfl,rfl⟩ [900] w8 w3 y8 w3 w3 w3 (hact) z6 y6 ?_;refine sG tK ?_;refine sE ?_;refine wKd ?_
     try simp only[go_sem,gA,gB,gC]
     refine wG tK ?_;refine wU ?_ ?_
     ·rfl
     ·exact q9
    ·have hW:a_ u path data=⟨g.e,g.u⟩:=by rw[hW0];unfold fH;rw[if_pos u7]
     refine wDT (hb:=u7) (hk:=?_);refine wG tK ?_;refine wU ?_ ?_
     ·rw[hW]
     ·rw[hW];simp only[pins,List.cons_append,List.nil_append,List.map_cons,List.map_nil]
      repeat' refine ZH ?_ ?_
      all_goals first | exact YH _ | rfl | simp[go_sem]
   | none=>
    rw[hen] at hent hW0;simp only at hent hW0;have hms:ActS (bK d.n.fid d.name):=⟨hnm,by simp[bK],by simp[bK]⟩;have hmk:=nj d.u hdi z8 z8 (bK d.n.fid d.name) hms (-1);have hmi:=iG hdi hms (-1);generalize bQ d.u (bK d.n.fid d.name) (-1)=x at hmk hmi hW0;unfold uH ZA at hmk;simp only[bK,List.map_nil] at hmk;have hmk2:∀G Y N:Nat->Nat,af Tryz.prog 38 [.ptr 900 13 0 0,.agg [.int .i64 1,.int .i64 0,.int .i64 d.n.fid,.str d.name,.int .i64 0,.str [],.nils],.int .i64 (-1)] _ _:=λG Y N=>af.nrm rfl (hmk G Y N)
    refine wC Tryz.func50 (hf:=(hent)) (hk:=?_);refine wG tK ?_;refine wDF (hb:=(rfl)) (hk:=?_);refine wG tK ?_;refine wP [900] Tryz.func38 (hf:=(hmk2)) (hk:=?_);refine wG tK ?_
    by_cases hxe:x.e=0
    ·rw[if_neg Zo] at hW0;have hsp:=gN path hp;have hsl:=bR path;unfold cw at hsp;generalize ae path=S at *;obtain ⟨L,E⟩:=S;obtain ⟨hll,hlx⟩:=hsl;simp only at hW0 hll hlx hsp;have hg:=tq x.u hmi z8 z8 L z8 (λy hy=>by have:=(hlx y hy).1;omega) 0;have hgi:=iJ hmi L 0;unfold uH im at hg;generalize goU x.u L 0=g at *;refine wDT (hb:=Zo) (hk:=?_);refine wG tK ?_;refine wC Tryz.func17 (hf:=(hsp)) (hk:=?_);refine wG tK ?_;refine wP [900] Tryz.func35 (hf:=(hg)) (hk:=?_);refine wGq tK ?_ ?_ w6
     ·simp[ZN]
     by_cases hge:g.e=0
     ·have hW:a_ u path data=bQ g.u (aw g.n.fid data) (cI g.n):=by rw[hW0];unfold fH;rw[if_neg u7]
      have hact:=nj g.u hgi z8 z8 (aw g.n.fid data) ⟨by simp[aw],by simp[aw],by show data.length≤20;omega⟩ (cI g.n);have hse:=pg g.n;unfold uH at hact;simp only[ZA,aw] at hact;rw[hW];unfold ZN at hse;simp only[aw];generalize bQ g.u ⟨3,g.n.fid,0,[],0,[],data⟩ (cI g.n)=x at *;refine wDF (hb:=u7) (hk:=?_);refine wG tK ?_;refine ZW ZM ?_;refine ZS rfl ?_;refine sN tK 4 ?_;refine sB tK ?_;refine sN tK 1 ?_;refine sC Tryz.func79 (hf:=(hse)) (hk:=?_);refine gQ rfl rfl z7 w3 ⟨_,Tryz.func38,by kernel_rfl,rfl⟩ [900] w8 w3 y8 w3 w3 w3 (hact) z6 y6 ?_;refine sG tK ?_;refine sE ?_;refine wKd ?_
      try simp only[go_sem,gA,gB,gC]
      refine wG tK ?_;refine wU ?_ ?_
      ·rfl
      ·exact q9
     ·have hW:a_ u path data=⟨g.e,g.u⟩:=by rw[hW0];unfold fH;rw[if_pos u7]
      refine wDT (hb:=u7) (hk:=?_);refine wG tK ?_;refine wU ?_ ?_
      ·rw[hW]
      ·rw[hW];simp only[pins,List.cons_append,List.nil_append,List.map_cons,List.map_nil]
       repeat' refine ZH ?_ ?_
       all_goals first | exact YH _ | rfl | simp[go_sem]
    ·rw[if_pos Zo] at hW0;have hW:=hW0;refine wDF (hb:=Zo) (hk:=?_);refine wG tK ?_;refine wDT (hb:=Zo) (hk:=?_);refine wG tK ?_;refine wU ?_ ?_
     ·rw[hW]
     ·rw[hW];simp only[pins,List.cons_append,List.nil_append,List.map_cons,List.map_nil]
      repeat' refine ZH ?_ ?_
      all_goals first | exact YH _ | rfl | simp[go_sem]
 ·rw[if_pos s9] at hW0;have hW:=hW0;refine wDT (hb:=s9) (hk:=?_);refine wG tK ?_;refine wU ?_ ?_
  ·rw[hW]
  ·rw[hW];simp only[pins,List.cons_append,List.nil_append,List.map_cons,List.map_nil]
   repeat' refine ZH ?_ ?_
   all_goals first | exact YH _ | rfl | simp[go_sem]
variable {Fa:Prop}
theorem xW {B T:Nat} {u:U} (h:UInvF Fa B T u) {f w:Int} (he:(aU u f w).e=0):(aU u f w).n.fid=f:=by
 unfold aU at he ⊢;cases hn:aF u.c.cache f with
 | some n=>
  obtain ⟨k,_,_,hf⟩:=kx hn;exact hf
 | none=>
  rw[hn] at he;simp only at he ⊢;split
  ·rename_i ha;rw[if_pos ha] at he;cases he
  ·rename_i ha;rw[if_neg ha] at he;cases hf:ak u.s.tree f with
   | none=>rw[hf] at he;cases he
   | some n=>exact ((ZO h.srv.hist.bH.up).1 hf).2
theorem AX {B T:Nat} (u:U) (h:UInvF Fa B T u) (hB:B≤30000000) (hT:T≤800000000000) (path to:List UInt8) (hp:path.length≤10000000) (G Y N:Nat->Nat):af Tryz.prog 39 [.ptr 900 13 0 0,.str path,.str to,.bool false] (uH u G Y N)
  (λr H=>r=.int .i64 (bt u path).e/\Holds (uH (bt u path).u G Y N) H):=by
 have hd:=mz u h z8 z8 path hp;have hdi:=ch h path;have hdn:=iP h path;have hnm:=bF u path;have hE:(atU u path).e≠0->bt u path=⟨(atU u path).e,(atU u path).u⟩:=λh=>by unfold bt;rw[if_pos h]
 have hS:(atU u path).e=0->bt u path=bQ (atU u path).u (da (atU u path).n.fid (atU u path).d (atU u path).name) (cI (atU u path).n):=λh=>by unfold bt;rw[if_neg Zw]
 have hA:atU u path=if (ag u path).e≠0 then ⟨0,[],al,(ag u path).e,(ag u path).u⟩
  else match av (ag u path).n (ag u path).name with
  | none=>⟨0,[],al,6,(ag u path).u⟩
  | some f=>⟨(ag u path).n.fid,(ag u path).name,(aU (ag u path).u f 0).n,(aU (ag u path).u f 0).e,(aU (ag u path).u f 0).u⟩:=rfl
 generalize bt u path=w at *;generalize ag u path=d at *;generalize atU u path=p at *;have hent:=gM d.n d.name (by have:=hdn.ent;omega);rw[du hdn.eup] at hent;unfold ZN at hent;unfold uH at hd;unfold uH;refine ZF tK (Tryz.func39) rfl (λC=>?_);simp only[Tryz.ntmps39,Tryz.results39,go_sem];refine wG tK ?_;refine wP [900] Tryz.func37 (hf:=(hd)) (hk:=?_);refine wGq tK ?_ ?_ w6
 ·simp[ZN]
 by_cases hde:d.e=0
 ·rw[if_neg s9] at hA;refine wDF (hb:=s9) (hk:=?_);refine wG tK ?_;cases hen:av d.n d.name with
  | none=>
   rw[hen] at hent hA;simp only at hent hA;have hW:=hE (by rw[hA];simp);rw[hA] at hW;refine wC Tryz.func50 (hf:=(hent)) (hk:=?_);refine wG tK ?_;refine wDT (hb:=(rfl)) (hk:=?_);refine wG tK ?_;refine wU ?_ ?_
   ·rw[hW]
   ·rw[hW];simp only[pins,List.cons_append,List.nil_append,List.map_cons,List.map_nil]
    repeat' refine ZH ?_ ?_
    all_goals first | exact YH _ | rfl | simp[go_sem]
  | some f=>
   rw[hen] at hent hA;simp only at hent hA;have hg:=pe d.u hdi z8 z8 f 0;have hgi:=bA hdi f 0;have hgf:=@xW Fa B (T+42) d.u hdi f 0;unfold uH im at hg;generalize aU d.u f 0=g at hg hgi hA hgf;refine wC Tryz.func50 (hf:=(hent)) (hk:=?_);refine wG tK ?_;refine wDF (hb:=(rfl)) (hk:=?_);refine wG tK ?_;refine wP [900] Tryz.func78 (hf:=(hg)) (hk:=?_);refine wGq tK ?_ ?_ w6
   ·simp[ZN]
   by_cases hge:g.e=0
   ·have hgf:=hgf hge;rw[hA] at hS;refine wDF (hb:=u7) (hk:=?_);refine wG tK ?_;refine ah (ax 15) ?_;simp only[go_sem]
    skip
    have hW:=hS hge;simp only[da,hgf] at hW;have hact:=nj g.u hgi z8 z8 (da f d.n.fid d.name) ⟨hnm,by simp[da],by simp[da]⟩ (cI g.n);have hse:=pg g.n;unfold uH at hact;simp only[ZA,da,List.map_nil] at hact;unfold ZN at hse;rw[hW];generalize bQ g.u ⟨4,f,d.n.fid,d.name,0,[],[]⟩ (cI g.n)=x at *;refine wDF (hb:=(rfl)) (hk:=?_);refine wG tK ?_;refine ZW ZM ?_;refine ZS rfl ?_;refine sN tK 3 ?_;refine sC Tryz.func79 (hf:=(hse)) (hk:=?_);refine gQ rfl rfl z7 w3 ⟨_,Tryz.func38,by kernel_rfl,rfl⟩ [900] w8 w3 y8 w3 w3 w3 (hact) z6 y6 ?_;refine sG tK ?_;refine sE ?_;refine wKd ?_
    try simp only[go_sem,gA,gB,gC]
    refine wG tK ?_;refine wU ?_ ?_
    ·rfl
    ·exact q9
   ·have hW:=hE Wg;rw[hA] at hW;refine wDT (hb:=u7) (hk:=?_);refine wG tK ?_;refine wU ?_ ?_
    ·rw[hW]
    ·rw[hW];simp only[pins,List.cons_append,List.nil_append,List.map_cons,List.map_nil]
     repeat' refine ZH ?_ ?_
     all_goals first | exact YH _ | rfl | simp[go_sem]
 ·rw[if_pos s9] at hA;have hW:=hE Wi;rw[hA] at hW;refine wDT (hb:=s9) (hk:=?_);refine wG tK ?_;refine wU ?_ ?_
  ·rw[hW]
  ·rw[hW];simp only[pins,List.cons_append,List.nil_append,List.map_cons,List.map_nil]
   repeat' refine ZH ?_ ?_
   all_goals first | exact YH _ | rfl | simp[go_sem]
theorem Fc {B T:Nat} (u:U) (h:UInvF Fa B T u) (hB:B≤30000000) (hT:T≤800000000000) (path to:List UInt8) (hp:path.length≤10000000) (hto:to.length≤10000000) (G Y N:Nat->Nat):af Tryz.prog 39 [.ptr 900 13 0 0,.str path,.str to,.bool true] (uH u G Y N)
  (λr H=>r=.int .i64 (cR u path to).e/\Holds (uH (cR u path to).u G Y N) H):=by
 have hd:=mz u h z8 z8 path hp;have hdi:=ch h path;have hdn:=iP h path;have hnm:=bF u path;have hE:(atU u path).e≠0->cR u path to=⟨(atU u path).e,(atU u path).u⟩:=λh=>by unfold cR;rw[if_pos h]
 have hM1:(atU u path).e=0->(ag (atU u path).u to).e≠0->cR u path to=⟨(ag (atU u path).u to).e,(ag (atU u path).u to).u⟩:=λh h2=>by unfold cR;rw[if_neg Zw,if_pos h2]
 have hM2:(atU u path).e=0->(ag (atU u path).u to).e=0->cR u path to=bQ (ag (atU u path).u to).u (eK (atU u path).n.fid (atU u path).d (atU u path).name (ag (atU u path).u to).n.fid (ag (atU u path).u to).name) (cI (atU u path).n):=λh h2=>by
  unfold cR;rw[if_neg Zw,if_neg (by simp[h2])]
 have hS:=hM1;have hA:atU u path=if (ag u path).e≠0 then ⟨0,[],al,(ag u path).e,(ag u path).u⟩
  else match av (ag u path).n (ag u path).name with
  | none=>⟨0,[],al,6,(ag u path).u⟩
  | some f=>⟨(ag u path).n.fid,(ag u path).name,(aU (ag u path).u f 0).n,(aU (ag u path).u f 0).e,(aU (ag u path).u f 0).u⟩:=rfl
 generalize cR u path to=w at *;generalize ag u path=d at *;generalize atU u path=p at *;have hent:=gM d.n d.name (by have:=hdn.ent;omega);rw[du hdn.eup] at hent;unfold ZN at hent;unfold uH at hd;unfold uH;refine ZF tK (Tryz.func39) rfl (λC=>?_);simp only[Tryz.ntmps39,Tryz.results39,go_sem];refine wG tK ?_;refine wP [900] Tryz.func37 (hf:=(hd)) (hk:=?_);refine wGq tK ?_ ?_ w6
 ·simp[ZN]
 by_cases hde:d.e=0
 ·rw[if_neg s9] at hA;refine wDF (hb:=s9) (hk:=?_);refine wG tK ?_;cases hen:av d.n d.name with
  | none=>
   rw[hen] at hent hA;simp only at hent hA;have hW:=hE (by rw[hA];simp);rw[hA] at hW;refine wC Tryz.func50 (hf:=(hent)) (hk:=?_);refine wG tK ?_;refine wDT (hb:=(rfl)) (hk:=?_);refine wG tK ?_;refine wU ?_ ?_
   ·rw[hW]
   ·rw[hW];simp only[pins,List.cons_append,List.nil_append,List.map_cons,List.map_nil]
    repeat' refine ZH ?_ ?_
    all_goals first | exact YH _ | rfl | simp[go_sem]
  | some f=>
   rw[hen] at hent hA;simp only at hent hA;have hg:=pe d.u hdi z8 z8 f 0;have hgi:=bA hdi f 0;have hgf:=@xW Fa B (T+42) d.u hdi f 0;unfold uH im at hg;generalize aU d.u f 0=g at hg hgi hA hgf;refine wC Tryz.func50 (hf:=(hent)) (hk:=?_);refine wG tK ?_;refine wDF (hb:=(rfl)) (hk:=?_);refine wG tK ?_;refine wP [900] Tryz.func78 (hf:=(hg)) (hk:=?_);refine wGq tK ?_ ?_ w6
   ·simp[ZN]
   by_cases hge:g.e=0
   ·have hgf:=hgf hge;rw[hA] at hS;refine wDF (hb:=u7) (hk:=?_);refine wG tK ?_;refine ah (ax 15) ?_;simp only[go_sem]
    skip
    have hd2:=mz g.u hgi z8 z8 to hto;have hd2i:=ch hgi to;have hd2n:=bF g.u to;rw[hA] at hM1 hM2;simp only at hM1 hM2;have hM1:=hM1 hge;have hM2:=hM2 hge;unfold uH at hd2;generalize ag g.u to=q at *;refine wDT (hb:=(rfl)) (hk:=?_);refine wG tK ?_;refine wP [900] Tryz.func37 (hf:=(hd2)) (hk:=?_);refine wGq tK ?_ ?_ w6
    ·simp[ZN]
    by_cases hqe:q.e=0
    ·have hW:=hM2 hqe;simp only[eK,hgf] at hW;have hact:=nj q.u hd2i z8 z8 (eK f d.n.fid d.name q.n.fid q.name) ⟨hnm,hd2n,by simp[eK]⟩ (cI g.n);have hse:=pg g.n;unfold uH at hact;simp only[ZA,eK,List.map_nil] at hact;unfold ZN at hse;rw[hW];generalize bQ q.u ⟨5,f,d.n.fid,d.name,q.n.fid,q.name,[]⟩ (cI g.n)=x at *;refine wDF (hb:=Z4) (hk:=?_);refine wG tK ?_;refine ZW ZM ?_;refine ZS rfl ?_;refine sN tK 4 ?_;refine sT tK ?_;refine sN tK 1 ?_;refine sT tK ?_;refine sN tK 1 ?_;refine sT tK ?_;refine sE ?_;refine wKd ?_
     try simp only[go_sem,gA,gB,gC]
     refine wG tK ?_;refine ZW ZM ?_;refine ZS rfl ?_;refine sN tK 3 ?_;refine sC Tryz.func79 (hf:=(hse)) (hk:=?_);refine gQ rfl rfl z7 w3 ⟨_,Tryz.func38,by kernel_rfl,rfl⟩ [900] w8 w3 y8 w3 w3 w3 (hact) z6 y6 ?_;refine sG tK ?_;refine sE ?_;refine wKd ?_
     try simp only[go_sem,gA,gB,gC]
     refine wG tK ?_;refine wU ?_ ?_
     ·rfl
     ·exact q9
    ·have hW:=hM1 hqe;refine wDT (hb:=Z4) (hk:=?_);refine wG tK ?_;refine wU ?_ ?_
     ·rw[hW]
     ·rw[hW];simp only[pins,List.cons_append,List.nil_append,List.map_cons,List.map_nil]
      repeat' refine ZH ?_ ?_
      all_goals first | exact YH _ | rfl | simp[go_sem]
   ·have hW:=hE Wg;rw[hA] at hW;refine wDT (hb:=u7) (hk:=?_);refine wG tK ?_;refine wU ?_ ?_
    ·rw[hW]
    ·rw[hW];simp only[pins,List.cons_append,List.nil_append,List.map_cons,List.map_nil]
     repeat' refine ZH ?_ ?_
     all_goals first | exact YH _ | rfl | simp[go_sem]
 ·rw[if_pos s9] at hA;have hW:=hE Wi;rw[hA] at hW;refine wDT (hb:=s9) (hk:=?_);refine wG tK ?_;refine wU ?_ ?_
  ·rw[hW]
  ·rw[hW];simp only[pins,List.cons_append,List.nil_append,List.map_cons,List.map_nil]
   repeat' refine ZH ?_ ?_
   all_goals first | exact YH _ | rfl | simp[go_sem]
end La
