/- Texts of this claim, part 23: RWrite, RGone. No condition. -/
import Derived.Test.YtmcfbfdonjllaaaGreatDoorZT22
set_option maxRecDepth 10000
set_option maxHeartbeats 4000000
set_option linter.unusedSimpArgs false
set_option linter.unusedVariables false
namespace La
open Go Go.Eng Go.Proofs
variable {Fa:Prop}
theorem Cg {B T:Nat} (u:U) (h:UInvF Fa B T u) (hB:B≤30000000) (hT:T≤800000000000) (path data:List UInt8) (hp:path.length≤10000000) (G Y N:Nat->Nat):ae Tryz.prog 59 [.ptr 900 13 0 0,.str path,.sl (data.map ZY)] (uH u G Y N)
  (λr H=>r=.int .i64 (cB u path data).e/\Holds (uH (cB u path data).u G Y N) H):=by
 have hd:=lX u h z8 z8 path hp;have hdi:=cw h path;have hdn:=iq h path;have hnm:=bI u path;have hW0:cB u path data=if (ai u path).e≠0 then ⟨(ai u path).e,(ai u path).u⟩
  else if data.length>20 then ⟨4,(ai u path).u⟩
  else match ba (ai u path).n (ai u path).name with
  | some f=>lu (bb (ai u path).u f 0) data
  | none=>if (cY (ai u path).u (dy (ai u path).n.fid (ai u path).name) (-1)).e≠0 then cY (ai u path).u (dy (ai u path).n.fid (ai u path).name) (-1)
   else lu (goU (cY (ai u path).u (dy (ai u path).n.fid (ai u path).name) (-1)).u (af path).1 0) data:=rfl
 generalize ai u path=d at *;have hent:=iA d.n d.name (by have:=hdn.ent;omega);rw[d_ hdn.eup] at hent;unfold ZN at hent;unfold uH at hd;unfold uH;refine ZF tK (Tryz.func59) rfl (λC=>?_);simp only[Tryz.ntmps59,Tryz.results59,go_sem];refine wG tK ?_;refine wP [900] Tryz.func60 (hf:=(hd)) (hk:=?_);refine wGq tK ?_ ?_ w6
 ·simp[ZN]
 by_cases hde:d.e=0
 ·rw[if_neg u9] at hW0;refine wDF (hb:=u9) (hk:=?_);refine wG tK ?_
  by_cases hdl:data.length>20
  ·rw[if_pos hdl] at hW0;have hW:=hW0;refine wDT (hb:=j0) (hk:=?_);refine wG tK ?_;refine wU ?_ ?_
   ·rw[hW]
   ·rw[hW];simp only[pins,List.cons_append,List.nil_append,List.map_cons,List.map_nil]
    repeat' refine ZH ?_ ?_
    all_goals first | exact YH _ | rfl | simp[go_sem]
  ·rw[if_neg hdl] at hW0;refine wDF (hb:=j0) (hk:=?_);refine wG tK ?_;refine ag (au 10) ?_;simp only[go_sem];cases hen:ba d.n d.name with
   | some f=>
    rw[hen] at hent hW0;simp only at hent hW0;have hg:=ot d.u hdi z8 z8 f 0;have hgi:=bR hdi f 0;unfold uH gS at hg;generalize bb d.u f 0=g at hg hgi hW0;refine wC Tryz.func91 (hf:=(hent)) (hk:=?_);refine wG tK ?_;refine wDT (hb:=(rfl)) (hk:=?_);refine wG tK ?_;refine wP [900] Tryz.func90 (hf:=(hg)) (hk:=?_);refine wGq tK ?_ ?_ w6
    ·simp[ZN]
    by_cases hge:g.e=0
    ·have hW:cB u path data=cY g.u (bZ g.n.fid data) (cA g.n):=by rw[hW0];unfold lu;rw[if_neg u4]
     have hact:=mF g.u hgi z8 z8 (bZ g.n.fid data) ⟨by simp[bZ],by simp[bZ],by show data.length≤20;omega⟩ (cA g.n);have hse:=ov g.n;unfold uH at hact;simp only[ZA,bZ] at hact;rw[hW];unfold ZN at hse;simp only[bZ];generalize cY g.u ⟨3,g.n.fid,0,[],0,[],data⟩ (cA g.n)=x at *;refine wDF (hb:=u4) (hk:=?_);refine wG tK ?_;refine ZW ZM ?_;refine ZS rfl ?_;refine sN tK 4 ?_;refine sB tK ?_;refine sN tK 1 ?_;refine sC Tryz.func92 (hf:=(hse)) (hk:=?_);refine gr rfl rfl z7 w3 ⟨_,Tryz.func61,by kernel_rfl,rfl⟩ [900] w8 w3 y7 w3 w3 w3 (hact) z6 w9 ?_;refine sG tK ?_;refine sE ?_;refine wKd ?_
     try simp only[go_sem,gA,gB,gC]
     refine wG tK ?_;refine wU ?_ ?_
     ·rfl
     ·exact q9
    ·have hW:cB u path data=⟨g.e,g.u⟩:=by rw[hW0];unfold lu;rw[if_pos u4]
     refine wDT (hb:=u4) (hk:=?_);refine wG tK ?_;refine wU ?_ ?_
     ·rw[hW]
     ·rw[hW];simp only[pins,List.cons_append,List.nil_append,List.map_cons,List.map_nil]
      repeat' refine ZH ?_ ?_
      all_goals first | exact YH _ | rfl | simp[go_sem]
   | none=>
    rw[hen] at hent hW0;simp only at hent hW0;have hms:ActS (dy d.n.fid d.name):=⟨hnm,by simp[dy],by simp[dy]⟩;have hmk:=mF d.u hdi z8 z8 (dy d.n.fid d.name) hms (-1);have hmi:=jb hdi hms (-1);generalize cY d.u (dy d.n.fid d.name) (-1)=x at hmk hmi hW0;unfold uH ZA at hmk;simp only[dy,List.map_nil] at hmk;have hmk2:∀G Y N:Nat->Nat,ae Tryz.prog 61 [.ptr 900 13 0 0,.agg [.int .i64 1,.int .i64 0,.int .i64 d.n.fid,.str d.name,.int .i64 0,.str [],.nils],.int .i64 (-1)] _ _:=λG Y N=>ae.nrm rfl (hmk G Y N)
    refine wC Tryz.func91 (hf:=(hent)) (hk:=?_);refine wG tK ?_;refine wDF (hb:=(rfl)) (hk:=?_);refine wG tK ?_;refine wP [900] Tryz.func61 (hf:=(hmk2)) (hk:=?_);refine wG tK ?_
    by_cases hxe:x.e=0
    ·rw[if_neg Zf] at hW0;have hsp:=iB path hp;have hsl:=bX path;unfold ct at hsp;generalize af path=S at *;obtain ⟨L,E⟩:=S;obtain ⟨hll,hlx⟩:=hsl;simp only at hW0 hll hlx hsp;have hg:=sv x.u hmi z8 z8 L z8 (λy hy=>by have:=(hlx y hy).1;omega) 0;have hgi:=ku hmi L 0;unfold uH gS at hg;generalize goU x.u L 0=g at *;refine wDT (hb:=Zf) (hk:=?_);refine wG tK ?_;refine wC Tryz.func57 (hf:=(hsp)) (hk:=?_);refine wG tK ?_;refine wP [900] Tryz.func58 (hf:=(hg)) (hk:=?_);refine wGq tK ?_ ?_ w6
     ·simp[ZN]
     by_cases hge:g.e=0
     ·have hW:cB u path data=cY g.u (bZ g.n.fid data) (cA g.n):=by rw[hW0];unfold lu;rw[if_neg u4]
      have hact:=mF g.u hgi z8 z8 (bZ g.n.fid data) ⟨by simp[bZ],by simp[bZ],by show data.length≤20;omega⟩ (cA g.n);have hse:=ov g.n;unfold uH at hact;simp only[ZA,bZ] at hact;rw[hW];unfold ZN at hse;simp only[bZ];generalize cY g.u ⟨3,g.n.fid,0,[],0,[],data⟩ (cA g.n)=x at *;refine wDF (hb:=u4) (hk:=?_);refine wG tK ?_;refine ZW ZM ?_;refine ZS rfl ?_;refine sN tK 4 ?_;refine sB tK ?_;refine sN tK 1 ?_;refine sC Tryz.func92 (hf:=(hse)) (hk:=?_);refine gr rfl rfl z7 w3 ⟨_,Tryz.func61,by kernel_rfl,rfl⟩ [900] w8 w3 y7 w3 w3 w3 (hact) z6 w9 ?_;refine sG tK ?_;refine sE ?_;refine wKd ?_
      try simp only[go_sem,gA,gB,gC]
      refine wG tK ?_;refine wU ?_ ?_
      ·rfl
      ·exact q9
     ·have hW:cB u path data=⟨g.e,g.u⟩:=by rw[hW0];unfold lu;rw[if_pos u4]
      refine wDT (hb:=u4) (hk:=?_);refine wG tK ?_;refine wU ?_ ?_
      ·rw[hW]
      ·rw[hW];simp only[pins,List.cons_append,List.nil_append,List.map_cons,List.map_nil]
       repeat' refine ZH ?_ ?_
       all_goals first | exact YH _ | rfl | simp[go_sem]
    ·rw[if_pos Zf] at hW0;have hW:=hW0;refine wDF (hb:=Zf) (hk:=?_);refine wG tK ?_;refine wDT (hb:=Zf) (hk:=?_);refine wG tK ?_;refine wU ?_ ?_
     ·rw[hW]
     ·rw[hW];simp only[pins,List.cons_append,List.nil_append,List.map_cons,List.map_nil]
      repeat' refine ZH ?_ ?_
      all_goals first | exact YH _ | rfl | simp[go_sem]
 ·rw[if_pos u9] at hW0;have hW:=hW0;refine wDT (hb:=u9) (hk:=?_);refine wG tK ?_;refine wU ?_ ?_
  ·rw[hW]
  ·rw[hW];simp only[pins,List.cons_append,List.nil_append,List.map_cons,List.map_nil]
   repeat' refine ZH ?_ ?_
   all_goals first | exact YH _ | rfl | simp[go_sem]
variable {Fa:Prop}
theorem xe {B T:Nat} {u:U} (h:UInvF Fa B T u) {f w:Int} (he:(bb u f w).e=0):(bb u f w).n.fid=f:=by
 unfold bb at he ⊢;cases hn:dE u.c.cache f with
 | some n=>
  obtain ⟨k,_,_,hf⟩:=jZ hn;exact hf
 | none=>
  rw[hn] at he;simp only at he ⊢;split
  ·rename_i ha;rw[if_pos ha] at he;cases he
  ·rename_i ha;rw[if_neg ha] at he;cases hf:aj u.s.tree f with
   | none=>rw[hf] at he;cases he
   | some n=>exact ((ZO h.srv.hist.bF.up).1 hf).2
theorem zU {B T:Nat} (u:U) (h:UInvF Fa B T u) (hB:B≤30000000) (hT:T≤800000000000) (path to:List UInt8) (hp:path.length≤10000000) (G Y N:Nat->Nat):ae Tryz.prog 62 [.ptr 900 13 0 0,.str path,.str to,.bool false] (uH u G Y N)
  (λr H=>r=.int .i64 (bG u path).e/\Holds (uH (bG u path).u G Y N) H):=by
 have hd:=lX u h z8 z8 path hp;have hdi:=cw h path;have hdn:=iq h path;have hnm:=bI u path;have hE:(atU u path).e≠0->bG u path=⟨(atU u path).e,(atU u path).u⟩:=λh=>by unfold bG;rw[if_pos h]
 have hS:(atU u path).e=0->bG u path=cY (atU u path).u (cV (atU u path).n.fid (atU u path).d (atU u path).name) (cA (atU u path).n):=λh=>by unfold bG;rw[if_neg WE]
 have hA:atU u path=if (ai u path).e≠0 then ⟨0,[],aw,(ai u path).e,(ai u path).u⟩
  else match ba (ai u path).n (ai u path).name with
  | none=>⟨0,[],aw,6,(ai u path).u⟩
  | some f=>⟨(ai u path).n.fid,(ai u path).name,(bb (ai u path).u f 0).n,(bb (ai u path).u f 0).e,(bb (ai u path).u f 0).u⟩:=rfl
 generalize bG u path=w at *;generalize ai u path=d at *;generalize atU u path=p at *;have hent:=iA d.n d.name (by have:=hdn.ent;omega);rw[d_ hdn.eup] at hent;unfold ZN at hent;unfold uH at hd;unfold uH;refine ZF tK (Tryz.func62) rfl (λC=>?_);simp only[Tryz.ntmps62,Tryz.results62,go_sem];refine wG tK ?_;refine wP [900] Tryz.func60 (hf:=(hd)) (hk:=?_);refine wGq tK ?_ ?_ w6
 ·simp[ZN]
 by_cases hde:d.e=0
 ·rw[if_neg u9] at hA;refine wDF (hb:=u9) (hk:=?_);refine wG tK ?_;cases hen:ba d.n d.name with
  | none=>
   rw[hen] at hent hA;simp only at hent hA;have hW:=hE (by rw[hA];simp);rw[hA] at hW;refine wC Tryz.func91 (hf:=(hent)) (hk:=?_);refine wG tK ?_;refine wDT (hb:=(rfl)) (hk:=?_);refine wG tK ?_;refine wU ?_ ?_
   ·rw[hW]
   ·rw[hW];simp only[pins,List.cons_append,List.nil_append,List.map_cons,List.map_nil]
    repeat' refine ZH ?_ ?_
    all_goals first | exact YH _ | rfl | simp[go_sem]
  | some f=>
   rw[hen] at hent hA;simp only at hent hA;have hg:=ot d.u hdi z8 z8 f 0;have hgi:=bR hdi f 0;have hgf:=@xe Fa B (T+42) d.u hdi f 0;unfold uH gS at hg;generalize bb d.u f 0=g at hg hgi hA hgf;refine wC Tryz.func91 (hf:=(hent)) (hk:=?_);refine wG tK ?_;refine wDF (hb:=(rfl)) (hk:=?_);refine wG tK ?_;refine wP [900] Tryz.func90 (hf:=(hg)) (hk:=?_);refine wGq tK ?_ ?_ w6
   ·simp[ZN]
   by_cases hge:g.e=0
   ·have hgf:=hgf hge;rw[hA] at hS;refine wDF (hb:=u4) (hk:=?_);refine wG tK ?_;refine ag (au 15) ?_;simp only[go_sem]
    skip
    have hW:=hS hge;simp only[cV,hgf] at hW;have hact:=mF g.u hgi z8 z8 (cV f d.n.fid d.name) ⟨hnm,by simp[cV],by simp[cV]⟩ (cA g.n);have hse:=ov g.n;unfold uH at hact;simp only[ZA,cV,List.map_nil] at hact;unfold ZN at hse;rw[hW];generalize cY g.u ⟨4,f,d.n.fid,d.name,0,[],[]⟩ (cA g.n)=x at *;refine wDF (hb:=(rfl)) (hk:=?_);refine wG tK ?_;refine ZW ZM ?_;refine ZS rfl ?_;refine sN tK 3 ?_;refine sC Tryz.func92 (hf:=(hse)) (hk:=?_);refine gr rfl rfl z7 w3 ⟨_,Tryz.func61,by kernel_rfl,rfl⟩ [900] w8 w3 y7 w3 w3 w3 (hact) z6 w9 ?_;refine sG tK ?_;refine sE ?_;refine wKd ?_
    try simp only[go_sem,gA,gB,gC]
    refine wG tK ?_;refine wU ?_ ?_
    ·rfl
    ·exact q9
   ·have hW:=hE WS;rw[hA] at hW;refine wDT (hb:=u4) (hk:=?_);refine wG tK ?_;refine wU ?_ ?_
    ·rw[hW]
    ·rw[hW];simp only[pins,List.cons_append,List.nil_append,List.map_cons,List.map_nil]
     repeat' refine ZH ?_ ?_
     all_goals first | exact YH _ | rfl | simp[go_sem]
 ·rw[if_pos u9] at hA;have hW:=hE WT;rw[hA] at hW;refine wDT (hb:=u9) (hk:=?_);refine wG tK ?_;refine wU ?_ ?_
  ·rw[hW]
  ·rw[hW];simp only[pins,List.cons_append,List.nil_append,List.map_cons,List.map_nil]
   repeat' refine ZH ?_ ?_
   all_goals first | exact YH _ | rfl | simp[go_sem]
theorem Ec {B T:Nat} (u:U) (h:UInvF Fa B T u) (hB:B≤30000000) (hT:T≤800000000000) (path to:List UInt8) (hp:path.length≤10000000) (hto:to.length≤10000000) (G Y N:Nat->Nat):ae Tryz.prog 62 [.ptr 900 13 0 0,.str path,.str to,.bool true] (uH u G Y N)
  (λr H=>r=.int .i64 (dd u path to).e/\Holds (uH (dd u path to).u G Y N) H):=by
 have hd:=lX u h z8 z8 path hp;have hdi:=cw h path;have hdn:=iq h path;have hnm:=bI u path;have hE:(atU u path).e≠0->dd u path to=⟨(atU u path).e,(atU u path).u⟩:=λh=>by unfold dd;rw[if_pos h]
 have hM1:(atU u path).e=0->(ai (atU u path).u to).e≠0->dd u path to=⟨(ai (atU u path).u to).e,(ai (atU u path).u to).u⟩:=λh h2=>by unfold dd;rw[if_neg WE,if_pos h2]
 have hM2:(atU u path).e=0->(ai (atU u path).u to).e=0->dd u path to=cY (ai (atU u path).u to).u (ep (atU u path).n.fid (atU u path).d (atU u path).name (ai (atU u path).u to).n.fid (ai (atU u path).u to).name) (cA (atU u path).n):=λh h2=>by
  unfold dd;rw[if_neg WE,if_neg (by simp[h2])]
 have hS:=hM1;have hA:atU u path=if (ai u path).e≠0 then ⟨0,[],aw,(ai u path).e,(ai u path).u⟩
  else match ba (ai u path).n (ai u path).name with
  | none=>⟨0,[],aw,6,(ai u path).u⟩
  | some f=>⟨(ai u path).n.fid,(ai u path).name,(bb (ai u path).u f 0).n,(bb (ai u path).u f 0).e,(bb (ai u path).u f 0).u⟩:=rfl
 generalize dd u path to=w at *;generalize ai u path=d at *;generalize atU u path=p at *;have hent:=iA d.n d.name (by have:=hdn.ent;omega);rw[d_ hdn.eup] at hent;unfold ZN at hent;unfold uH at hd;unfold uH;refine ZF tK (Tryz.func62) rfl (λC=>?_);simp only[Tryz.ntmps62,Tryz.results62,go_sem];refine wG tK ?_;refine wP [900] Tryz.func60 (hf:=(hd)) (hk:=?_);refine wGq tK ?_ ?_ w6
 ·simp[ZN]
 by_cases hde:d.e=0
 ·rw[if_neg u9] at hA;refine wDF (hb:=u9) (hk:=?_);refine wG tK ?_;cases hen:ba d.n d.name with
  | none=>
   rw[hen] at hent hA;simp only at hent hA;have hW:=hE (by rw[hA];simp);rw[hA] at hW;refine wC Tryz.func91 (hf:=(hent)) (hk:=?_);refine wG tK ?_;refine wDT (hb:=(rfl)) (hk:=?_);refine wG tK ?_;refine wU ?_ ?_
   ·rw[hW]
   ·rw[hW];simp only[pins,List.cons_append,List.nil_append,List.map_cons,List.map_nil]
    repeat' refine ZH ?_ ?_
    all_goals first | exact YH _ | rfl | simp[go_sem]
  | some f=>
   rw[hen] at hent hA;simp only at hent hA;have hg:=ot d.u hdi z8 z8 f 0;have hgi:=bR hdi f 0;have hgf:=@xe Fa B (T+42) d.u hdi f 0;unfold uH gS at hg;generalize bb d.u f 0=g at hg hgi hA hgf;refine wC Tryz.func91 (hf:=(hent)) (hk:=?_);refine wG tK ?_;refine wDF (hb:=(rfl)) (hk:=?_);refine wG tK ?_;refine wP [900] Tryz.func90 (hf:=(hg)) (hk:=?_);refine wGq tK ?_ ?_ w6
   ·simp[ZN]
   by_cases hge:g.e=0
   ·have hgf:=hgf hge;rw[hA] at hS;refine wDF (hb:=u4) (hk:=?_);refine wG tK ?_;refine ag (au 15) ?_;simp only[go_sem]
    skip
    have hd2:=lX g.u hgi z8 z8 to hto;have hd2i:=cw hgi to;have hd2n:=bI g.u to;rw[hA] at hM1 hM2;simp only at hM1 hM2;have hM1:=hM1 hge;have hM2:=hM2 hge;unfold uH at hd2;generalize ai g.u to=q at *;refine wDT (hb:=(rfl)) (hk:=?_);refine wG tK ?_;refine wP [900] Tryz.func60 (hf:=(hd2)) (hk:=?_);refine wGq tK ?_ ?_ w6
    ·simp[ZN]
    by_cases hqe:q.e=0
    ·have hW:=hM2 hqe;simp only[ep,hgf] at hW;have hact:=mF q.u hd2i z8 z8 (ep f d.n.fid d.name q.n.fid q.name) ⟨hnm,hd2n,by simp[ep]⟩ (cA g.n);have hse:=ov g.n;unfold uH at hact;simp only[ZA,ep,List.map_nil] at hact;unfold ZN at hse;rw[hW];generalize cY q.u ⟨5,f,d.n.fid,d.name,q.n.fid,q.name,[]⟩ (cA g.n)=x at *;refine wDF (hb:=Zt) (hk:=?_);refine wG tK ?_;refine ZW ZM ?_;refine ZS rfl ?_;refine sN tK 4 ?_;refine sT tK ?_;refine sN tK 1 ?_;refine sT tK ?_;refine sN tK 1 ?_;refine sT tK ?_;refine sE ?_;refine wKd ?_
     try simp only[go_sem,gA,gB,gC]
     refine wG tK ?_;refine ZW ZM ?_;refine ZS rfl ?_;refine sN tK 3 ?_;refine sC Tryz.func92 (hf:=(hse)) (hk:=?_);refine gr rfl rfl z7 w3 ⟨_,Tryz.func61,by kernel_rfl,rfl⟩ [900] w8 w3 y7 w3 w3 w3 (hact) z6 w9 ?_;refine sG tK ?_;refine sE ?_;refine wKd ?_
     try simp only[go_sem,gA,gB,gC]
     refine wG tK ?_;refine wU ?_ ?_
     ·rfl
     ·exact q9
    ·have hW:=hM1 hqe;refine wDT (hb:=Zt) (hk:=?_);refine wG tK ?_;refine wU ?_ ?_
     ·rw[hW]
     ·rw[hW];simp only[pins,List.cons_append,List.nil_append,List.map_cons,List.map_nil]
      repeat' refine ZH ?_ ?_
      all_goals first | exact YH _ | rfl | simp[go_sem]
   ·have hW:=hE WS;rw[hA] at hW;refine wDT (hb:=u4) (hk:=?_);refine wG tK ?_;refine wU ?_ ?_
    ·rw[hW]
    ·rw[hW];simp only[pins,List.cons_append,List.nil_append,List.map_cons,List.map_nil]
     repeat' refine ZH ?_ ?_
     all_goals first | exact YH _ | rfl | simp[go_sem]
 ·rw[if_pos u9] at hA;have hW:=hE WT;rw[hA] at hW;refine wDT (hb:=u9) (hk:=?_);refine wG tK ?_;refine wU ?_ ?_
  ·rw[hW]
  ·rw[hW];simp only[pins,List.cons_append,List.nil_append,List.map_cons,List.map_nil]
   repeat' refine ZH ?_ ?_
   all_goals first | exact YH _ | rfl | simp[go_sem]
end La
