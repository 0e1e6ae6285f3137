/- Texts of this claim, part 22: RAct. No condition. -/
import Derived.Test.YtmcfbfdonjllaaaGreatDoorZT21
set_option maxRecDepth 10000
set_option maxHeartbeats 4000000
set_option linter.unusedSimpArgs false
set_option linter.unusedVariables false
namespace La
open Go Go.Eng Go.Proofs
variable {Fa:Prop}
theorem ov (n:Node):ae Tryz.prog 92 [.agg (ZN n)] [] (λr _=>r=.int .i64 (cA n)):=by
 unfold ZN;refine ZF tK (Tryz.func92) rfl (λC=>?_);simp only[Tryz.ntmps92,Tryz.results92,go_sem];refine wG tK ?_;refine wD (λh=>?_) (λh=>?_)
 ·refine wG tK ?_;refine wT ?_;simp at h;simp[cA,h]
 ·refine wG tK ?_;refine wT ?_;simp at h;unfold cA;rw[if_neg z8]
theorem BZ {B T:Nat} (u:U) (h:UInvF Fa B T u) (hB:B≤40000000) (haw:u.c.away=false) (a:Act) (ha:ActS a) (seen:Int) (G Y N:Nat->Nat):ae Tryz.prog 61 [.ptr 900 13 0 0,.agg (ZA a),.int .i64 seen] (uH u G Y N)
  (λr H=>r=.int .i64 (lh u a).e/\Holds (uH (lh u a).u G Y N) H):=by
 have hdo:=Iv u.s h.srv z8 u.c.number a ha.fit;have hW0:lh u a=if doE u.s a=0 then ⟨0,⟨lL u.c (doS u.s u.c.number a).tree,doS u.s u.c.number a⟩⟩ else ⟨doE u.s a,u⟩:=rfl;have hst:=λhe=>h.srv.step u.c.number ha.fit (a:=a) he
 have hcl:u.c.cache.length≤24:=by have:=h.cli.len;have:=h.cli.room;omega
 unfold Iu at hdo;generalize lh u a=wF at *;generalize doS u.s u.c.number a=s2 at *;unfold ZA at hdo;unfold ZQ at hdo;unfold uH bo ZA;refine ZF tK (Tryz.func61) rfl (λC=>?_);simp only[Tryz.ntmps61,Tryz.results61,go_sem];refine wG tK ?_;refine wDT (hb:=Qy) (hk:=?_);refine wG tK ?_
 by_cases he:doE u.s a=0
 ·rw[if_pos he] at hdo hW0;have hs2:=hst he;have hof:=um s2.tree (by have:=hs2.hist.bF.len;omega);have hfr:=nw u.c.cache s2.tree z8 hs2.hist.bF.up;refine ZW ZM ?_;refine ZS rfl ?_;refine sN tK 10 ?_;refine sC Tryz.func93 (hf:=(hdo)) (hk:=?_);refine sN tK 3 ?_;refine sW tK ?_;refine sT tK ?_;refine sG tK ?_;refine sE ?_;refine wKd ?_
  try simp only[go_sem,gA,gB,gC]
  refine wG tK ?_;refine wDT (hb:=(rfl)) (hk:=?_);refine wG tK ?_;refine ZW ZM ?_;refine ZS rfl ?_;refine sN tK 8 ?_;refine sC Tryz.func27 (hf:=(hof)) (hk:=?_);refine sC Tryz.func39 (hf:=(hfr)) (hk:=?_);refine sG tK ?_;refine sE ?_;refine dS tK ?_;refine wKd ?_
  try simp only[go_sem,gA,gB,gC]
  refine wG tK ?_;refine wU ?_ ?_
  ·rw[hW0]
  ·rw[hW0];simp only[pins,List.cons_append,List.nil_append,List.map_cons,List.map_nil]
   repeat' refine ZH ?_ ?_
   all_goals first | exact YH _ | rfl | simp[go_sem]
 ·rw[if_neg he] at hdo hW0;refine ZW ZM ?_;refine ZS rfl ?_;refine sN tK 10 ?_;refine sC Tryz.func93 (hf:=(hdo)) (hk:=?_);refine sN tK 3 ?_;refine sW tK ?_;refine sT tK ?_;refine sG tK ?_;refine sE ?_;refine wKd ?_
  try simp only[go_sem,gA,gB,gC]
  refine wG tK ?_;refine wDF (hb:=QL) (hk:=?_);refine wG tK ?_;refine wU ?_ ?_
  ·rw[hW0]
  ·rw[hW0];simp only[pins,List.cons_append,List.nil_append,List.map_cons,List.map_nil]
   repeat' refine ZH ?_ ?_
   all_goals first | exact YH _ | rfl | simp[go_sem]
theorem BP {l:List Node} (hd:(l.map (·.fid)).Nodup):bD (kh l)=bD l:=by
 rw[qS (ny l)];unfold kh;rw[YX];refine (Yb λp hp=>?_).trans (List.map_id _);obtain ⟨k,n⟩:=p;have:=mC l _ (k,n) hp;simp only[Function.comp,id_eq];rw[this]
theorem mz {l L:List Kept} {room:Int} {k:Kept} (h:cK l room k=some L):L.length≤l.length+1:=by
 unfold cK at h;cases e:bT l k.node.fid with
 | some i=>rw[e] at h;injection h with h;subst h;rw[YL];omega
 | none=>
  rw[e] at h;obtain ⟨L0,h0,rfl⟩:=W7.1 h;have:=(fW _ _ _ h0).length_le;rw[List.length_append,List.length_cons,List.length_nil];omega
theorem D0 {B T:Nat} (u:U) (h:UInvF Fa B T u) (hB:B≤40000000) (haw:u.c.away=true) (a:Act) (ha:ActS a) (seen:Int) (G Y N:Nat->Nat):ae Tryz.prog 61 [.ptr 900 13 0 0,.agg (ZA a),.int .i64 seen] (uH u G Y N)
  (λr H=>r=.int .i64 (pv u a seen).e/\Holds (uH (pv u a seen).u G Y N) H):=by
 have hci:=h.cli;have hmd:=hci.made;have hlg:=hci.logged;have hcl:u.c.cache.length≤24:=by have:=hci.len;have:=hci.room;omega
 have hgood:=hci.bF;have hkt:=F2 u.c.cache z8;rw[show bD (aM u.c.cache)=bD (cI u.c) from (BP (by rw[jj];exact hci.nod)).symm] at hkt;have hbs:=zK (c:=u.c) ha;have hap:=lW hgood hci.ri hbs.fit 0;have hW0:pv u a seen=if aD (cI u.c) (eG u.c a)≠0 then ⟨aD (cI u.c) (eG u.c a),u⟩ else match dv u.c.log ⟨eG u.c a,tq a seen,u.c.logged+1⟩ with
  | none=>⟨5,u⟩
  | some log=>match cj u.c.room u.c.clock (cI u.c) (eG u.c a) (aH (cI u.c) (eG u.c a) 0) u.c.cache with
   | none=>⟨5,u⟩
   | some l=>⟨0,⟨{ u.c with cache:=l.filter (λk=>bg (aH (cI u.c) (eG u.c a) 0) k.node.fid),log:=log,logged:=u.c.logged+1,made:=if aN a=true then u.c.made+1 else u.c.made },u.s⟩⟩:=rfl
 have hwm:IntKind.i64.wrap (-1-u.c.made)=-1-u.c.made:=Eng.wrap_small z8 z8;have hwm1:IntKind.i64.wrap (u.c.made+1)=u.c.made+1:=Eng.wrap_small z8 z8;have hwl1:IntKind.i64.wrap (u.c.logged+1)=u.c.logged+1:=Eng.wrap_small z8 z8;generalize pv u a seen=wF at *;generalize hWd:cI u.c=W at *;unfold uH bo ZA;refine ZF tK (Tryz.func61) rfl (λC=>?_);simp only[Tryz.ntmps61,Tryz.results61,go_sem];refine wG tK ?_;refine wDF (hb:=Qy) (hk:=?_);refine wG tK ?_;refine wD (λh=>?_) (λh=>?_)
 ·have hmk:=h;have hm:aN a=true:=by unfold aN;revert h;cases (a.kind==1)<;>simp
  have hbE:eG u.c a=⟨a.kind,-1-u.c.made,a.dir,a.name,a.to,a.toName,a.data⟩:=by unfold eG;rw[if_pos hm]
  have hvE:tq a seen=-1:=by unfold tq;rw[if_pos hm]
  rw[hvE] at hW0;simp only[hm,if_true] at hW0;rw[hbE] at hap hW0 hbs;refine wG tK ?_ (by simp only[go_sem,hwm];try exact rfl) (by simp[go_sem,hwm]);generalize -1-u.c.made=F at *;obtain ⟨V,hV⟩:∃V:Int,V=-1:=⟨_,rfl⟩;rw[←hV] at hW0;rw[←hV];obtain ⟨b,hbD⟩:∃b:Act,b=⟨a.kind,F,a.dir,a.name,a.to,a.toName,a.data⟩:=⟨_,rfl⟩;rw[←hbD] at hap hW0 hbs;have hrow:ZA b=[.int .i64 a.kind,.int .i64 F,.int .i64 a.dir,.str a.name,.int .i64 a.to,.str a.toName,.sl (a.data.map ZY)]:=by rw[hbD];rfl
  have hrec:∀v i,ZR ⟨b,v,i⟩=[.int .i64 a.kind,.int .i64 F,.int .i64 a.dir,.str a.name,.int .i64 a.to,.str a.toName,.sl (a.data.map ZY),.int .i64 v,.int .i64 i]:=by intro v i;rw[hbD];rfl
  have hbk:b.kind=a.kind:=by rw[hbD]
  have hbf:b.fid=F:=by rw[hbD]
  clear hbD;have hgl:=λhe=>fq hgood b 0 he
  rw[hrow] at hap;have hgW:∀k,bj (mN (bD W)) k=(aj W k).map λn=>AV.agg (ZN n):=λk=>by rw[gV,cy hgood.up]
  generalize aD W b=e0 at *;generalize aH W b 0=L at *;refine wC Tryz.func94 (hf:=(hkt)) (hk:=?_);refine wG tK ?_
  by_cases hE:e0=0
  ·rw[if_pos hE] at hap;rw[if_neg u2] at hW0;have hgL:=hgl hE;have hLl:=hgL.len;have hls:=qR L hgL.up z8;have hadd:=uu u.c.log ⟨b,V,u.c.logged+1⟩ ⟨by have:=hci.log;omega,λr hr=>by have:=(hci.logS r hr).data;show r.act.data.length≤_;omega⟩ Qv;rw[hrec] at hadd;refine wC Tryz.func95 (hf:=(hap)) (hk:=?_);refine wG tK ?_;refine wDF (hb:=(rfl)) (hk:=?_);refine wG tK ?_;refine ZW ZM ?_;refine ZS rfl ?_;refine sN tK 13 ?_ z6 z6 QB Qq;refine sB tK ?_;cases hlog:dv u.c.log ⟨b,V,u.c.logged+1⟩ with
   | none=>
    rw[hlog] at hadd hW0;simp only[fH] at hadd hW0;have hW:=hW0;refine sC Tryz.func96 (hf:=(hadd)) (hk:=?_);refine sG tK ?_;refine sE ?_;refine wKd ?_
    try simp only[go_sem,gA,gB,gC]
    refine wG tK ?_;refine wDT (hb:=(rfl)) (hk:=?_);refine wG tK ?_;refine wU ?_ ?_
    ·rw[hW]
    ·rw[hW];simp only[pins,List.cons_append,List.nil_append,List.map_cons,List.map_nil]
     repeat' refine ZH ?_ ?_
     all_goals first | exact YH _ | rfl | simp[go_sem]
   | some log=>
    rw[hlog] at hadd hW0;simp only[fH] at hadd hW0;generalize hKA:cj u.c.room u.c.clock W b L u.c.cache=KA at hW0;refine sC Tryz.func96 (hf:=(hadd)) (hk:=?_);refine sG tK ?_;refine sE ?_;refine wKd ?_
    try simp only[go_sem,gA,gB,gC]
    refine wG tK ?_;refine wDF (hb:=(rfl)) (hk:=?_);refine wG tK ?_;refine wC Tryz.func97 (hf:=(hls)) (hk:=?_);refine wG tK ?_;refine ZL (λq:Nat×List Kept=>q.1≤L.length/\cj u.c.room u.c.clock W b (L.drop q.1) q.2=KA/\q.2.length≤24+q.1) (λq=>L.length-q.1) (λq=>(12,.any)::(14,.sl (q.2.map ZK))::(16,.any)::(17,.any)::(18,.any)::(124,.int .i64 q.1)::u0 125 52 []) (λ_=>[]) (0,u.c.cache) ⟨Yd _,by rw[List.drop_zero];exact hKA,by simp only;omega⟩ ?_ λq hq=>?_
    ·simp only[go_sem];exact ZU w3 w3 w3
    obtain ⟨i,l⟩:=q;obtain ⟨hi,hka,hll⟩:=hq;simp only at hi hka hll;clear hKA;simp only[go_sem];refine wG tK ?_;refine wD (λh=>?_) (λh=>?_)
    ·have hlt:i<L.length:=by simp at h;omega
     have hg:(L.map ZN).getD i []=ZN (L.getD i default):=Fam.getD hlt;have hw1:=wi1 (i:=i) z8;have hnm:=YG hlt;rw[b_ hlt,cj] at hka;generalize L.getD i default=n at *;have hns:=hgL.small.each n hnm;have hg1:=hgW n.fid;cases hff:aj W n.fid with
     | some o=>
      rw[hff] at hg1;simp only[Option.map_some] at hg1;have hos:=hgood.small.each o ((ZO hgood.up).1 hff).1;have hsm:=jl o n false hos hns;have hcb:aU W b n=!(bW false o n&&(a.kind != 3||n.fid != F)):=by unfold aU;rw[hff,hbk,hbf]
      have hdk:fJ W u.c.clock n=⟨{ n with version:=o.version },true,0,u.c.clock⟩:=by unfold fJ;rw[hff];rfl
      unfold ZN at hsm;generalize bW false o n=sm at *;refine wR ?_;refine wNq tK 4 ?_ ?_ z6 z6 s8
      ·simp[hg,ZN,hlt]
      refine wR ?_;refine wN tK 10 ?_ z6 z6 u3 n9;refine wG tK ?_;refine wCC Tryz.func87 (hf:=λhb=>(hsm)) (hk:=?_);refine wNq tK 13 ?_ ?_
      ·simp[go_sem];intro e;exact ⟨e,λe2=>⟨e,e2⟩⟩
      refine ak 152 z6 (λc152 h152=>?_);simp only[go_sem];have hc:c152=(sm&&(a.kind != 3||n.fid != F)):=by
       rw[←h152];cases sm<;>cases (a.kind != 3)<;>simp
      clear h152;rw[←hc] at hcb;refine wG tK ?_;cases c152 with
      | true=>
       have hch:aU W b n=false:=by rw[hcb];rfl
       rw[hch,if_neg Bool.false_ne_true] at hka;refine wDT (hb:=(rfl)) (hk:=?_);refine wG tK ?_ j7 n4;refine ZB ⟨(i+1,l),⟨by simp only;omega,hka,by simp only;omega⟩,by simp only;omega,ZU ?_ ?_ ?_⟩
       ·simp[go_sem]
       ·simp[go_sem]
       ·simp[go_sem]
      | false=>
       have hch:(aU W b n=true)=True:=by rw[hcb];simp
       simp only[hch,if_true] at hka;have hch:True=True:=rfl;refine wDF (hb:=(rfl)) (hk:=?_);refine wG tK ?_;refine ZW ZM ?_;refine ZS rfl ?_;refine sN tK 12 ?_;refine sB tK ?_;cases hkk:cK l u.c.room (⟨{ n with version:=o.version },true,0,u.c.clock⟩:Kept) with
       | none=>
        have hkn:=l_ z8 hkk;rw[hdk,hkk] at hka;simp only at hka;rw[←hka] at hW0;have hW:=hW0;refine sC Tryz.func98 (hf:=(hkn)) (hk:=?_);refine sG tK ?_;refine sE ?_;refine wKd ?_
        try simp only[go_sem,gA,gB,gC]
        refine wG tK ?_;refine wDT (hb:=(rfl)) (hk:=?_);refine wG tK ?_;refine wU ?_ ?_
        ·rw[hW]
        ·rw[hW];simp only[pins,List.cons_append,List.nil_append,List.map_cons,List.map_nil]
         repeat' refine ZH ?_ ?_
         all_goals first | exact YH _ | rfl | simp[go_sem]
       | some l2=>
        have hkn:=kd z8 hkk;rw[hdk,hkk] at hka;simp only at hka;have hl2:=mz hkk;refine sC Tryz.func98 (hf:=(hkn)) (hk:=?_);refine sG tK ?_;refine sE ?_;refine wKd ?_
        try simp only[go_sem,gA,gB,gC]
        refine wG tK ?_;refine wDF (hb:=(rfl)) (hk:=?_);refine wG tK ?_ j7 n4;refine ZB ⟨(i+1,l2),⟨by simp only;omega,hka,by simp only;omega⟩,by simp only;omega,ZU ?_ ?_ ?_⟩
        ·simp[go_sem]
        ·simp[go_sem]
        ·simp[go_sem]
     | none=>
      rw[hff] at hg1;simp only[Option.map_none] at hg1;have hch:(aU W b n=true)=True:=by unfold aU;rw[hff];simp
      have hdk:fJ W u.c.clock n=⟨{ n with version:=0 },true,0,u.c.clock⟩:=by unfold fJ;rw[hff];rfl
      simp only[hch,if_true] at hka;have hch:True=True:=rfl;refine wR ?_;refine wNq tK 4 ?_ ?_ z6 z6 s8
      ·simp[hg,ZN,hlt]
      refine wR ?_;refine wN tK 10 ?_ z6 z6 u3 n9;refine wG tK ?_;refine fI (.bool false) rfl ?_;simp only[go_sem];refine wG tK ?_;refine wDF (hb:=(rfl)) (hk:=?_);refine wG tK ?_;refine ZW ZM ?_;refine ZS rfl ?_;refine sN tK 12 ?_;refine sB tK ?_;cases hkk:cK l u.c.room (⟨{ n with version:=0 },true,0,u.c.clock⟩:Kept) with
      | none=>
       have hkn:=l_ z8 hkk;rw[hdk,hkk] at hka;simp only at hka;rw[←hka] at hW0;have hW:=hW0;refine sC Tryz.func98 (hf:=(hkn)) (hk:=?_);refine sG tK ?_;refine sE ?_;refine wKd ?_
       try simp only[go_sem,gA,gB,gC]
       refine wG tK ?_;refine wDT (hb:=(rfl)) (hk:=?_);refine wG tK ?_;refine wU ?_ ?_
       ·rw[hW]
       ·rw[hW];simp only[pins,List.cons_append,List.nil_append,List.map_cons,List.map_nil]
        repeat' refine ZH ?_ ?_
        all_goals first | exact YH _ | rfl | simp[go_sem]
      | some l2=>
       have hkn:=kd z8 hkk;rw[hdk,hkk] at hka;simp only at hka;have hl2:=mz hkk;refine sC Tryz.func98 (hf:=(hkn)) (hk:=?_);refine sG tK ?_;refine sE ?_;refine wKd ?_
       try simp only[go_sem,gA,gB,gC]
       refine wG tK ?_;refine wDF (hb:=(rfl)) (hk:=?_);refine wG tK ?_ j7 n4;refine ZB ⟨(i+1,l2),⟨by simp only;omega,hka,by simp only;omega⟩,by simp only;omega,ZU ?_ ?_ ?_⟩
       ·simp[go_sem]
       ·simp[go_sem]
       ·simp[go_sem]
    ·have e:i=L.length:=by simp at h;omega
     subst e;rw[Ya (Wt _),cj] at hka;rw[←hka] at hW0;simp only at hW0;have hll:l.length≤48:=by omega
     clear hka hi h;refine wG tK ?_;refine ag (le_empty 195 138 8 z7) ?_;simp only[go_sem];refine ZL (λi:Nat=>i≤l.length) (λi=>l.length-i) (λi=>(19,.osl 195 8 0 ((l.take i).filter λk=>bg L k.node.fid).length)::(21,.any)::(22,.any)::(23,.any)::(179,.int .i64 i)::u0 180 17 []) (λi=>[(195,.cells 138 8 (((l.take i).filter λk=>bg L k.node.fid).map ZK))]) 0 z8 ?_ λi hi=>?_
     ·simp only[go_sem];exact ZU w3 w3 w3
     simp only[go_sem];refine wG tK ?_;refine wD (λh=>?_) (λh=>?_)
     ·have hlt:i<l.length:=by simp at h;omega
      have hg:(l.map ZK).getD i []=ZK (l.getD i default):=Fam.getD hlt;have hw:=wi1 (i:=i) z8;have htk:(l.take (i+1)).filter (λk=>bg L k.node.fid)=(l.take i).filter (λk=>bg L k.node.fid)++if bg L (l.getD i default).node.fid=true then [l.getD i default] else []:=by
       rw[ZT hlt,List.filter_append,List.filter_cons];cases bg L (l.getD i default).node.fid<;>simp
      have hll2:((l.take i).filter λk=>bg L k.node.fid).length≤i:=by
       have:=Wr (λk=>bg L k.node.fid) (l.take i);simp only[Wv] at this;omega
      clear hW0;generalize (l.take i).filter (λk=>bg L k.node.fid)=D at htk hll2;generalize l.getD i default=k at hg htk;have hg1:bj (mN (bD L)) k.node.fid=(aj L k.node.fid).map λn=>AV.agg (ZN n):=by rw[gV,cy hgL.up]
      have hst:bg L k.node.fid=(aj L k.node.fid).isSome:=cE _ _;have htq:List.take D.length (D.map ZK)=D.map ZK:=Wl y7;cases hff:aj L k.node.fid with
      | none=>
       rw[hff] at hg1 hst;simp only[Option.map_none] at hg1;rw[hst,if_neg y7] at htk;refine wR ?_;refine wNq tK 4 ?_ ?_ z6 z6 x9
       ·simp[hg,ZK,hlt]
       refine wR ?_;refine wN tK 11 ?_ z6 z6 p7 Qm;refine wG tK ?_;refine wDF (hb:=(rfl)) (hk:=?_);refine wG tK ?_ w5 k0;refine ZB ⟨i+1,by omega,by omega,ZU ?_ ?_ ?_⟩
       ·simp[go_sem,htk]
       ·simp[go_sem,htk]
       ·simp[go_sem]
      | some n=>
       rw[hff] at hg1 hst;simp only[Option.map_some] at hg1;rw[hst,if_pos y7] at htk;refine wR ?_;refine wNq tK 4 ?_ ?_ z6 z6 x9
       ·simp[hg,ZK,hlt]
       refine wR ?_;refine wN tK 11 ?_ z6 z6 u3 n9;refine wG tK ?_;refine wDT (hb:=(rfl)) (hk:=?_);refine wGq tK ?_ ?_ w5
       ·simp[htq,refs];omega
       refine ZB ⟨i+1,by omega,by omega,ZU ?_ ?_ ?_⟩
       ·simp[go_sem,htk]
       ·simp[go_sem,htk,htq,ZK]
       ·simp[go_sem]
     ·have e:i=l.length:=by simp at h;omega
      subst e;rw[Wo];refine wG tK ?_;refine ZZ 195 rfl (bc _) ?_;simp only[go_sem];refine wG tK ?_ QB Qq;refine wDT (hb:=(hmk)) (hk:=?_);refine wG tK ?_ Qn WQ;refine wU ?_ ?_
      ·rw[hW0]
      ·rw[hW0];simp only[pins,List.cons_append,List.nil_append,List.map_cons,List.map_nil]
       repeat' refine ZH ?_ ?_
       all_goals first | exact YH _ | rfl | simp[go_sem]
  ·rw[if_neg hE] at hap;rw[if_pos u2] at hW0;have hW:=hW0;refine wC Tryz.func95 (hf:=(hap)) (hk:=?_);refine wG tK ?_;refine wDT (hb:=u2) (hk:=?_);refine wG tK ?_;refine wU ?_ ?_
   ·rw[hW]
   ·rw[hW];simp only[pins,List.cons_append,List.nil_append,List.map_cons,List.map_nil]
    repeat' refine ZH ?_ ?_
    all_goals first | exact YH _ | rfl | simp[go_sem]
 ·have hm:aN a=false:=by unfold aN;revert h;cases (a.kind==1)<;>simp
  have hmk:=h;have hbE:eG u.c a=⟨a.kind,a.fid,a.dir,a.name,a.to,a.toName,a.data⟩:=by unfold eG;rw[hm];rfl
  have hvE:tq a seen=seen:=by unfold tq;rw[hm];rfl
  rw[hvE] at hW0;simp only[hm,Bool.false_eq_true,if_false] at hW0;rw[hbE] at hap hW0 hbs;refine wG tK ?_;generalize a.fid=F at *;generalize seen=V at *;obtain ⟨b,hbD⟩:∃b:Act,b=⟨a.kind,F,a.dir,a.name,a.to,a.toName,a.data⟩:=⟨_,rfl⟩;rw[←hbD] at hap hW0 hbs;have hrow:ZA b=[.int .i64 a.kind,.int .i64 F,.int .i64 a.dir,.str a.name,.int .i64 a.to,.str a.toName,.sl (a.data.map ZY)]:=by rw[hbD];rfl
  have hrec:∀v i,ZR ⟨b,v,i⟩=[.int .i64 a.kind,.int .i64 F,.int .i64 a.dir,.str a.name,.int .i64 a.to,.str a.toName,.sl (a.data.map ZY),.int .i64 v,.int .i64 i]:=by intro v i;rw[hbD];rfl
  have hbk:b.kind=a.kind:=by rw[hbD]
  have hbf:b.fid=F:=by rw[hbD]
  clear hbD;have hgl:=λhe=>fq hgood b 0 he
  rw[hrow] at hap;have hgW:∀k,bj (mN (bD W)) k=(aj W k).map λn=>AV.agg (ZN n):=λk=>by rw[gV,cy hgood.up]
  generalize aD W b=e0 at *;generalize aH W b 0=L at *;refine wC Tryz.func94 (hf:=(hkt)) (hk:=?_);refine wG tK ?_
  by_cases hE:e0=0
  ·rw[if_pos hE] at hap;rw[if_neg u2] at hW0;have hgL:=hgl hE;have hLl:=hgL.len;have hls:=qR L hgL.up z8;have hadd:=uu u.c.log ⟨b,V,u.c.logged+1⟩ ⟨by have:=hci.log;omega,λr hr=>by have:=(hci.logS r hr).data;show r.act.data.length≤_;omega⟩ Qv;rw[hrec] at hadd;refine wC Tryz.func95 (hf:=(hap)) (hk:=?_);refine wG tK ?_;refine wDF (hb:=(rfl)) (hk:=?_);refine wG tK ?_;refine ZW ZM ?_;refine ZS rfl ?_;refine sN tK 13 ?_ z6 z6 QB Qq;refine sB tK ?_;cases hlog:dv u.c.log ⟨b,V,u.c.logged+1⟩ with
   | none=>
    rw[hlog] at hadd hW0;simp only[fH] at hadd hW0;have hW:=hW0;refine sC Tryz.func96 (hf:=(hadd)) (hk:=?_);refine sG tK ?_;refine sE ?_;refine wKd ?_
    try simp only[go_sem,gA,gB,gC]
    refine wG tK ?_;refine wDT (hb:=(rfl)) (hk:=?_);refine wG tK ?_;refine wU ?_ ?_
    ·rw[hW]
    ·rw[hW];simp only[pins,List.cons_append,List.nil_append,List.map_cons,List.map_nil]
     repeat' refine ZH ?_ ?_
     all_goals first | exact YH _ | rfl | simp[go_sem]
   | some log=>
    rw[hlog] at hadd hW0;simp only[fH] at hadd hW0;generalize hKA:cj u.c.room u.c.clock W b L u.c.cache=KA at hW0;refine sC Tryz.func96 (hf:=(hadd)) (hk:=?_);refine sG tK ?_;refine sE ?_;refine wKd ?_
    try simp only[go_sem,gA,gB,gC]
    refine wG tK ?_;refine wDF (hb:=(rfl)) (hk:=?_);refine wG tK ?_;refine wC Tryz.func97 (hf:=(hls)) (hk:=?_);refine wG tK ?_;refine ZL (λq:Nat×List Kept=>q.1≤L.length/\cj u.c.room u.c.clock W b (L.drop q.1) q.2=KA/\q.2.length≤24+q.1) (λq=>L.length-q.1) (λq=>(12,.any)::(14,.sl (q.2.map ZK))::(16,.any)::(17,.any)::(18,.any)::(124,.int .i64 q.1)::u0 125 52 []) (λ_=>[]) (0,u.c.cache) ⟨Yd _,by rw[List.drop_zero];exact hKA,by simp only;omega⟩ ?_ λq hq=>?_
    ·simp only[go_sem];exact ZU w3 w3 w3
    obtain ⟨i,l⟩:=q;obtain ⟨hi,hka,hll⟩:=hq;simp only at hi hka hll;clear hKA;simp only[go_sem];refine wG tK ?_;refine wD (λh=>?_) (λh=>?_)
    ·have hlt:i<L.length:=by simp at h;omega
     have hg:(L.map ZN).getD i []=ZN (L.getD i default):=Fam.getD hlt;have hw1:=wi1 (i:=i) z8;have hnm:=YG hlt;rw[b_ hlt,cj] at hka;generalize L.getD i default=n at *;have hns:=hgL.small.each n hnm;have hg1:=hgW n.fid;cases hff:aj W n.fid with
     | some o=>
      rw[hff] at hg1;simp only[Option.map_some] at hg1;have hos:=hgood.small.each o ((ZO hgood.up).1 hff).1;have hsm:=jl o n false hos hns;have hcb:aU W b n=!(bW false o n&&(a.kind != 3||n.fid != F)):=by unfold aU;rw[hff,hbk,hbf]
      have hdk:fJ W u.c.clock n=⟨{ n with version:=o.version },true,0,u.c.clock⟩:=by unfold fJ;rw[hff];rfl
      unfold ZN at hsm;generalize bW false o n=sm at *;refine wR ?_;refine wNq tK 4 ?_ ?_ z6 z6 s8
      ·simp[hg,ZN,hlt]
      refine wR ?_;refine wN tK 10 ?_ z6 z6 u3 n9;refine wG tK ?_;refine wCC Tryz.func87 (hf:=λhb=>(hsm)) (hk:=?_);refine wNq tK 13 ?_ ?_
      ·simp[go_sem];intro e;exact ⟨e,λe2=>⟨e,e2⟩⟩
      refine ak 152 z6 (λc152 h152=>?_);simp only[go_sem];have hc:c152=(sm&&(a.kind != 3||n.fid != F)):=by
       rw[←h152];cases sm<;>cases (a.kind != 3)<;>simp
      clear h152;rw[←hc] at hcb;refine wG tK ?_;cases c152 with
      | true=>
       have hch:aU W b n=false:=by rw[hcb];rfl
       rw[hch,if_neg Bool.false_ne_true] at hka;refine wDT (hb:=(rfl)) (hk:=?_);refine wG tK ?_ j7 n4;refine ZB ⟨(i+1,l),⟨by simp only;omega,hka,by simp only;omega⟩,by simp only;omega,ZU ?_ ?_ ?_⟩
       ·simp[go_sem]
       ·simp[go_sem]
       ·simp[go_sem]
      | false=>
       have hch:(aU W b n=true)=True:=by rw[hcb];simp
       simp only[hch,if_true] at hka;have hch:True=True:=rfl;refine wDF (hb:=(rfl)) (hk:=?_);refine wG tK ?_;refine ZW ZM ?_;refine ZS rfl ?_;refine sN tK 12 ?_;refine sB tK ?_;cases hkk:cK l u.c.room (⟨{ n with version:=o.version },true,0,u.c.clock⟩:Kept) with
       | none=>
        have hkn:=l_ z8 hkk;rw[hdk,hkk] at hka;simp only at hka;rw[←hka] at hW0;have hW:=hW0;refine sC Tryz.func98 (hf:=(hkn)) (hk:=?_);refine sG tK ?_;refine sE ?_;refine wKd ?_
        try simp only[go_sem,gA,gB,gC]
        refine wG tK ?_;refine wDT (hb:=(rfl)) (hk:=?_);refine wG tK ?_;refine wU ?_ ?_
        ·rw[hW]
        ·rw[hW];simp only[pins,List.cons_append,List.nil_append,List.map_cons,List.map_nil]
         repeat' refine ZH ?_ ?_
         all_goals first | exact YH _ | rfl | simp[go_sem]
       | some l2=>
        have hkn:=kd z8 hkk;rw[hdk,hkk] at hka;simp only at hka;have hl2:=mz hkk;refine sC Tryz.func98 (hf:=(hkn)) (hk:=?_);refine sG tK ?_;refine sE ?_;refine wKd ?_
        try simp only[go_sem,gA,gB,gC]
        refine wG tK ?_;refine wDF (hb:=(rfl)) (hk:=?_);refine wG tK ?_ j7 n4;refine ZB ⟨(i+1,l2),⟨by simp only;omega,hka,by simp only;omega⟩,by simp only;omega,ZU ?_ ?_ ?_⟩
        ·simp[go_sem]
        ·simp[go_sem]
        ·simp[go_sem]
     | none=>
      rw[hff] at hg1;simp only[Option.map_none] at hg1;have hch:(aU W b n=true)=True:=by unfold aU;rw[hff];simp
      have hdk:fJ W u.c.clock n=⟨{ n with version:=0 },true,0,u.c.clock⟩:=by unfold fJ;rw[hff];rfl
      simp only[hch,if_true] at hka;have hch:True=True:=rfl;refine wR ?_;refine wNq tK 4 ?_ ?_ z6 z6 s8
      ·simp[hg,ZN,hlt]
      refine wR ?_;refine wN tK 10 ?_ z6 z6 u3 n9;refine wG tK ?_;refine fI (.bool false) rfl ?_;simp only[go_sem];refine wG tK ?_;refine wDF (hb:=(rfl)) (hk:=?_);refine wG tK ?_;refine ZW ZM ?_;refine ZS rfl ?_;refine sN tK 12 ?_;refine sB tK ?_;cases hkk:cK l u.c.room (⟨{ n with version:=0 },true,0,u.c.clock⟩:Kept) with
      | none=>
       have hkn:=l_ z8 hkk;rw[hdk,hkk] at hka;simp only at hka;rw[←hka] at hW0;have hW:=hW0;refine sC Tryz.func98 (hf:=(hkn)) (hk:=?_);refine sG tK ?_;refine sE ?_;refine wKd ?_
       try simp only[go_sem,gA,gB,gC]
       refine wG tK ?_;refine wDT (hb:=(rfl)) (hk:=?_);refine wG tK ?_;refine wU ?_ ?_
       ·rw[hW]
       ·rw[hW];simp only[pins,List.cons_append,List.nil_append,List.map_cons,List.map_nil]
        repeat' refine ZH ?_ ?_
        all_goals first | exact YH _ | rfl | simp[go_sem]
      | some l2=>
       have hkn:=kd z8 hkk;rw[hdk,hkk] at hka;simp only at hka;have hl2:=mz hkk;refine sC Tryz.func98 (hf:=(hkn)) (hk:=?_);refine sG tK ?_;refine sE ?_;refine wKd ?_
       try simp only[go_sem,gA,gB,gC]
       refine wG tK ?_;refine wDF (hb:=(rfl)) (hk:=?_);refine wG tK ?_ j7 n4;refine ZB ⟨(i+1,l2),⟨by simp only;omega,hka,by simp only;omega⟩,by simp only;omega,ZU ?_ ?_ ?_⟩
       ·simp[go_sem]
       ·simp[go_sem]
       ·simp[go_sem]
    ·have e:i=L.length:=by simp at h;omega
     subst e;rw[Ya (Wt _),cj] at hka;rw[←hka] at hW0;simp only at hW0;have hll:l.length≤48:=by omega
     clear hka hi h;refine wG tK ?_;refine ag (le_empty 195 138 8 z7) ?_;simp only[go_sem];refine ZL (λi:Nat=>i≤l.length) (λi=>l.length-i) (λi=>(19,.osl 195 8 0 ((l.take i).filter λk=>bg L k.node.fid).length)::(21,.any)::(22,.any)::(23,.any)::(179,.int .i64 i)::u0 180 17 []) (λi=>[(195,.cells 138 8 (((l.take i).filter λk=>bg L k.node.fid).map ZK))]) 0 z8 ?_ λi hi=>?_
     ·simp only[go_sem];exact ZU w3 w3 w3
     simp only[go_sem];refine wG tK ?_;refine wD (λh=>?_) (λh=>?_)
     ·have hlt:i<l.length:=by simp at h;omega
      have hg:(l.map ZK).getD i []=ZK (l.getD i default):=Fam.getD hlt;have hw:=wi1 (i:=i) z8;have htk:(l.take (i+1)).filter (λk=>bg L k.node.fid)=(l.take i).filter (λk=>bg L k.node.fid)++if bg L (l.getD i default).node.fid=true then [l.getD i default] else []:=by
       rw[ZT hlt,List.filter_append,List.filter_cons];cases bg L (l.getD i default).node.fid<;>simp
      have hll2:((l.take i).filter λk=>bg L k.node.fid).length≤i:=by
       have:=Wr (λk=>bg L k.node.fid) (l.take i);simp only[Wv] at this;omega
      clear hW0;generalize (l.take i).filter (λk=>bg L k.node.fid)=D at htk hll2;generalize l.getD i default=k at hg htk;have hg1:bj (mN (bD L)) k.node.fid=(aj L k.node.fid).map λn=>AV.agg (ZN n):=by rw[gV,cy hgL.up]
      have hst:bg L k.node.fid=(aj L k.node.fid).isSome:=cE _ _;have htq:List.take D.length (D.map ZK)=D.map ZK:=Wl y7;cases hff:aj L k.node.fid with
      | none=>
       rw[hff] at hg1 hst;simp only[Option.map_none] at hg1;rw[hst,if_neg y7] at htk;refine wR ?_;refine wNq tK 4 ?_ ?_ z6 z6 x9
       ·simp[hg,ZK,hlt]
       refine wR ?_;refine wN tK 11 ?_ z6 z6 p7 Qm;refine wG tK ?_;refine wDF (hb:=(rfl)) (hk:=?_);refine wG tK ?_ w5 k0;refine ZB ⟨i+1,by omega,by omega,ZU ?_ ?_ ?_⟩
       ·simp[go_sem,htk]
       ·simp[go_sem,htk]
       ·simp[go_sem]
      | some n=>
       rw[hff] at hg1 hst;simp only[Option.map_some] at hg1;rw[hst,if_pos y7] at htk;refine wR ?_;refine wNq tK 4 ?_ ?_ z6 z6 x9
       ·simp[hg,ZK,hlt]
       refine wR ?_;refine wN tK 11 ?_ z6 z6 u3 n9;refine wG tK ?_;refine wDT (hb:=(rfl)) (hk:=?_);refine wGq tK ?_ ?_ w5
       ·simp[htq,refs];omega
       refine ZB ⟨i+1,by omega,by omega,ZU ?_ ?_ ?_⟩
       ·simp[go_sem,htk]
       ·simp[go_sem,htk,htq,ZK]
       ·simp[go_sem]
     ·have e:i=l.length:=by simp at h;omega
      subst e;rw[Wo];refine wG tK ?_;refine ZZ 195 rfl (bc _) ?_;simp only[go_sem];refine wG tK ?_ QB Qq;refine wDF (hb:=(hmk)) (hk:=?_);refine wG tK ?_ Qn WQ;refine wU ?_ ?_
      ·rw[hW0]
      ·rw[hW0];simp only[pins,List.cons_append,List.nil_append,List.map_cons,List.map_nil]
       repeat' refine ZH ?_ ?_
       all_goals first | exact YH _ | rfl | simp[go_sem]
  ·rw[if_neg hE] at hap;rw[if_pos u2] at hW0;have hW:=hW0;refine wC Tryz.func95 (hf:=(hap)) (hk:=?_);refine wG tK ?_;refine wDT (hb:=u2) (hk:=?_);refine wG tK ?_;refine wU ?_ ?_
   ·rw[hW]
   ·rw[hW];simp only[pins,List.cons_append,List.nil_append,List.map_cons,List.map_nil]
    repeat' refine ZH ?_ ?_
    all_goals first | exact YH _ | rfl | simp[go_sem]
theorem mF {B T:Nat} (u:U) (h:UInvF Fa B T u) (hB:B≤40000000) (hT:T≤900000000000) (a:Act) (ha:ActS a) (seen:Int) (G Y N:Nat->Nat):ae Tryz.prog 61 [.ptr 900 13 0 0,.agg (ZA a),.int .i64 seen] (uH u G Y N)
  (λr H=>r=.int .i64 (cY u a seen).e/\Holds (uH (cY u a seen).u G Y N) H):=by
 unfold cY;cases e:u.c.away with
 | true=>exact D0 u h hB e a ha seen G Y N
 | false=>exact BZ u h hB e a ha seen G Y N
end La
