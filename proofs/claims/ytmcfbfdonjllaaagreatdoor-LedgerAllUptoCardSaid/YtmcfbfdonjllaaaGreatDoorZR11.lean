/- Texts of this claim, part 11: RAct. No condition. -/
import Derived.Test.YtmcfbfdonjllaaaGreatDoorZR10
set_option maxRecDepth 10000
set_option maxHeartbeats 4000000
set_option linter.unusedSimpArgs false
set_option linter.unusedVariables false
namespace La
open Go Go.Eng Go.Proofs Go.Proofs.Tryz
variable {Fa:Prop}
theorem pQ (n:Node):Fo 92 [.agg (ZN n)] (.int .i64 (cO n)):=by
 unfold ZN;refine wS func92 ntmps92 results92 λC=>?_
 refine wGD (λh=>?_) (λh=>?_)
 ·refine wGT ?_;simp at h;simp[cO,h]
 ·refine wGT ?_;simp at h;unfold cO;rw[if_neg z8]
theorem Ep {B T:Nat} (u:U) (h:UInvF Fa B T u) (hB:B<=40000000) (haw:u.c.away=false) (a:Act) (ha:ActS a) (seen:Int) (G Y N:Nat->Nat):aj prog 61 [.ptr 900 13 0 0,.agg (ZA a),.int .i64 seen] (uH u G Y N)
  (λr H=>r=.int .i64 (fU u a).e/\Holds (uH (fU u a).u G Y N) H):=by
 have hdo:=LQ u.s h.srv z8 u.c.number a ha.fit;have hW0:fU u a=if doE u.s a=0 then ⟨0,⟨mH u.c (doS u.s u.c.number a).tree,doS u.s u.c.number a⟩⟩ else ⟨doE u.s a,u⟩:=rfl;have hst:=λhe=>h.srv.step u.c.number ha.fit (a:=a) he
 have hcl:u.c.cache.length<=24:=by have:=h.cli.len;have:=h.cli.room;omega
 unfold LP at hdo;generalize fU u a=wF at *;generalize doS u.s u.c.number a=s2 at *;unfold ZA at hdo;unfold ZQ at hdo;unfold uH bx ZA;refine wSG func61 ntmps61 results61 λC=>?_
 refine wTG ?_ (hb:=Q7)
 by_cases he:doE u.s a=0
 ·rw[if_pos he] at hdo hW0;have hs2:=hst he;have hof:=wE s2.tree (by have:=hs2.hist.bR.len;omega);have hfr:=oI u.c.cache s2.tree z8 hs2.hist.bR.up;refine wO ?_;refine sN 10 ?_;refine sC ?_ func93 (hf:=hdo);refine sN 3 ?_;refine sW ?_;refine sT ?_;refine sG ?_;refine wXG ?_;refine wDT ?_ (hb:=rfl);refine wGS ?_;refine sN 8 ?_;refine sC ?_ func27 (hf:=hof);refine sC ?_ func39 (hf:=hfr);refine sG ?_;refine sE ?_;refine dS ?_;refine wKG ?_;refine wU ?_ ?_
  ·rw[hW0]
  ·rw[hW0];exact q9
 ·rw[if_neg he] at hdo hW0;refine wO ?_;refine sN 10 ?_;refine sC ?_ func93 (hf:=hdo);refine sN 3 ?_;refine sW ?_;refine sT ?_;refine sG ?_;refine wXG ?_;refine wFG ?_ (hb:=QE);refine wU ?_ ?_
  ·rw[hW0]
  ·rw[hW0];exact q9
theorem Eb {l:List Node} (hd:(l.map (·.fid)).Nodup):bQ (lf l)=bQ l:=by
 rw[sF (oK l)];unfold lf;rw[Yf];refine (Yj λp hp=>?_).trans (List.map_id _);obtain ⟨k,n⟩:=p;have:=nF l _ (k,n) hp;simp only[Function.comp,id_eq];rw[this]
theorem nD {l L:List Kept} {room:Int} {k:Kept} (h:c_ l room k=some L):L.length<=l.length+1:=by
 unfold c_ at h;cases e:ch l k.node.fid with
 | some i=>rw[e] at h;injection h with h;subst h;rw[YN];omega
 | none=>
  rw[e] at h;obtain ⟨L0,h0,rfl⟩:=YV.1 h;have:=(gz _ _ _ h0).length_le;rw[List.length_append,List.length_cons,List.length_nil];omega
theorem GR {B T:Nat} (u:U) (h:UInvF Fa B T u) (hB:B<=40000000) (haw:u.c.away=true) (a:Act) (ha:ActS a) (seen:Int) (G Y N:Nat->Nat):aj prog 61 [.ptr 900 13 0 0,.agg (ZA a),.int .i64 seen] (uH u G Y N)
  (λr H=>r=.int .i64 (jL u a seen).e/\Holds (uH (jL u a seen).u G Y N) H):=by
 have hci:=h.cli;have hmd:=hci.made;have hlg:=hci.logged;have hcl:u.c.cache.length<=24:=by have:=hci.len;have:=hci.room;omega
 have hgood:=hci.bR;have hkt:=I6 u.c.cache z8;rw[show bQ (aO u.c.cache)=bQ (cP u.c) from (Eb (by rw[ki];exact hci.nod)).symm] at hkt;have hbs:=B2 (c:=u.c) ha;have hap:=mY hgood hci.ri hbs.fit 0;have hW0:jL u a seen=if aF (cP u.c) (eO u.c a)≠0 then ⟨aF (cP u.c) (eO u.c a),u⟩ else match dt u.c.log ⟨eO u.c a,vp a seen,u.c.logged+1⟩ with
  | none=>⟨5,u⟩
  | some log=>match cy u.c.room u.c.clock (cP u.c) (eO u.c a) (aK (cP u.c) (eO u.c a) 0) u.c.cache with
   | none=>⟨5,u⟩
   | some l=>⟨0,⟨{ u.c with cache:=l.filter (λk=>bf (aK (cP u.c) (eO u.c a) 0) k.node.fid),log:=log,logged:=u.c.logged+1,made:=if aR a=true then u.c.made+1 else u.c.made },u.s⟩⟩:=rfl
 have hwm:IntKind.i64.wrap (-1-u.c.made)=-1-u.c.made:=Eng.wrap_small z8 z8;have hwm1:IntKind.i64.wrap (u.c.made+1)=u.c.made+1:=Eng.wrap_small z8 z8;have hwl1:IntKind.i64.wrap (u.c.logged+1)=u.c.logged+1:=Eng.wrap_small z8 z8;generalize jL u a seen=wF at *;generalize hWd:cP u.c=W at *;unfold uH bx ZA;refine wSG func61 ntmps61 results61 λC=>?_
 refine wDF ?_ (hb:=Q7);refine wGD (λh=>?_) (λh=>?_)
 ·have hmk:=h;have hm:aR a=true:=by unfold aR;revert h;cases (a.kind==1)<;>simp
  have hbE:eO u.c a=⟨a.kind,-1-u.c.made,a.dir,a.name,a.to,a.toName,a.data⟩:=by unfold eO;rw[if_pos hm]
  have hvE:vp a seen=-1:=by unfold vp;rw[if_pos hm]
  rw[hvE] at hW0;simp only[hm,if_true] at hW0;rw[hbE] at hap hW0 hbs;refine wG ?_ (by simp only[go_sem,hwm];try exact rfl) (by simp[go_sem,hwm]);generalize -1-u.c.made=F at *;obtain ⟨V,hV⟩:∃V:Int,V=-1:=⟨_,rfl⟩;rw[<-hV] at hW0;rw[<-hV];obtain ⟨b,hbD⟩:∃b:Act,b=⟨a.kind,F,a.dir,a.name,a.to,a.toName,a.data⟩:=⟨_,rfl⟩;rw[<-hbD] at hap hW0 hbs;have hrow:ZA b=[.int .i64 a.kind,.int .i64 F,.int .i64 a.dir,.str a.name,.int .i64 a.to,.str a.toName,.sl (a.data.map ZY)]:=by rw[hbD];rfl
  have hrec:∀v i,ZR ⟨b,v,i⟩=[.int .i64 a.kind,.int .i64 F,.int .i64 a.dir,.str a.name,.int .i64 a.to,.str a.toName,.sl (a.data.map ZY),.int .i64 v,.int .i64 i]:=by intro v i;rw[hbD];rfl
  have hbk:b.kind=a.kind:=by rw[hbD]
  have hbf:b.fid=F:=by rw[hbD]
  clear hbD;have hgl:=λhe=>fJ hgood b 0 he
  rw[hrow] at hap;have hgW:∀k,br (mN (bQ W)) k=(ak W k).map λn=>AV.agg (ZN n):=λk=>by rw[iJ,cM hgood.up]
  generalize aF W b=e0 at *;generalize aK W b 0=L at *;refine wCg ?_ func94 (hf:=hkt)
  by_cases hE:e0=0
  ·rw[if_pos hE] at hap;rw[if_neg x6] at hW0;have hgL:=hgl hE;have hLl:=hgL.len;have hls:=sD L hgL.up z8;have hadd:=wJ u.c.log ⟨b,V,u.c.logged+1⟩ ⟨by have:=hci.log;omega,λr hr=>by have:=(hci.logS r hr).data;show r.act.data.length<=_;omega⟩ Q4;rw[hrec] at hadd;refine wCg ?_ func95 (hf:=hap);refine wDF ?_ (hb:=rfl);refine wGS ?_;refine sN 13 ?_ z6 z6 QA Qu;refine sB ?_;cases hlog:dt u.c.log ⟨b,V,u.c.logged+1⟩ with
   | none=>
    rw[hlog] at hadd hW0;simp only[gg] at hadd hW0;have hW:=hW0;refine sC ?_ func96 (hf:=hadd);refine sG ?_;refine wXG ?_;refine wTG ?_ (hb:=rfl);refine wU ?_ ?_
    ·rw[hW]
    ·rw[hW];exact q9
   | some log=>
    rw[hlog] at hadd hW0;simp only[gg] at hadd hW0;generalize hKA:cy u.c.room u.c.clock W b L u.c.cache=KA at hW0;refine sC ?_ func96 (hf:=hadd);refine sG ?_;refine wXG ?_;refine wFG ?_ (hb:=rfl);refine wCg ?_ func97 (hf:=hls);refine ZL (λq:Nat×List Kept=>q.1<=L.length/\cy u.c.room u.c.clock W b (L.drop q.1) q.2=KA/\q.2.length<=24+q.1) (λq=>L.length-q.1) (λq=>(12,.any)::(14,.sl (q.2.map ZK))::(16,.any)::(17,.any)::(18,.any)::(124,.int .i64 q.1)::u0 125 52 []) (λ_=>[]) (0,u.c.cache) ⟨Yp _,by rw[List.drop_zero];exact hKA,by simp only;omega⟩ ?_ λq hq=>?_
    ·exact wZ
    obtain ⟨i,l⟩:=q;obtain ⟨hi,hka,hll⟩:=hq;simp only at hi hka hll;clear hKA;simp only[go_sem];refine wGD (λh=>?_) (λh=>?_)
    ·have hlt:=lt1 h;have hg:=Fam.getD (f:=ZN) hlt;have hw1:=wi1 (i:=i) z8;have hnm:=YG hlt;rw[cr hlt,cy] at hka;generalize L.getD i default=n at *;have hns:=hgL.small.each n hnm;have hg1:=hgW n.fid;cases hff:ak W n.fid with
     | some o=>
      rw[hff] at hg1;simp only[Option.map_some] at hg1;have hos:=hgood.small.each o ((ZO hgood.up).1 hff).1;have hsm:=rQ o n false hos hns;have hcb:aT W b n=!(dm false o n&&(a.kind != 3||n.fid != F)):=by unfold aT;rw[hff,hbk,hbf]
      have hdk:gi W u.c.clock n=⟨{ n with version:=o.version },true,0,u.c.clock⟩:=by unfold gi;rw[hff];rfl
      unfold ZN at hsm;generalize dm false o n=sm at *;refine wR ?_;refine wNq 4 ?_ ?_ z6 z6 u9
      ·simp[hg,ZN,hlt]
      refine wR ?_;refine wN 10 ?_ z6 z6 x8 n4;refine wG ?_;refine wCC ?_ func87 (hf:=λhb=>(hsm));refine wNq 13 ?_ ?_
      ·simp[go_sem];intro e;exact ⟨e,λe2=>⟨e,e2⟩⟩
      refine wNm 152 λc152 h152=>?_
      have hc:c152=(sm&&(a.kind != 3||n.fid != F)):=by
       rw[<-h152];cases sm<;>cases (a.kind != 3)<;>simp
      clear h152;rw[<-hc] at hcb;refine wG ?_;cases c152 with
      | true=>
       have hch:aT W b n=false:=by rw[hcb];rfl
       rw[hch,if_neg Bool.false_ne_true] at hka;refine wDT ?_ (hb:=rfl);refine wG ?_ k8 p8;refine ZB ⟨(i+1,l),⟨by simp only;omega,hka,by simp only;omega⟩,by simp only;omega,ZU ?_ ?_ ?_⟩
       ·simp[go_sem]
       ·simp[go_sem]
       ·simp[go_sem]
      | false=>
       have hch:(aT W b n=true)=True:=by rw[hcb];simp
       simp only[hch,if_true] at hka;have hch:True=True:=rfl;refine wDF ?_ (hb:=rfl);refine wGS ?_;refine sN 12 ?_;refine sB ?_;cases hkk:c_ l u.c.room (⟨{ n with version:=o.version },true,0,u.c.clock⟩:Kept) with
       | none=>
        have hkn:=nf z8 hkk;rw[hdk,hkk] at hka;simp only at hka;rw[<-hka] at hW0;have hW:=hW0;refine sC ?_ func98 (hf:=hkn);refine sG ?_;refine wXG ?_;refine wTG ?_ (hb:=rfl);refine wU ?_ ?_
        ·rw[hW]
        ·rw[hW];exact q9
       | some l2=>
        have hkn:=kZ z8 hkk;rw[hdk,hkk] at hka;simp only at hka;have hl2:=nD hkk;refine sC ?_ func98 (hf:=hkn);refine sG ?_;refine wXG ?_;refine wDF ?_ (hb:=rfl);refine wG ?_ k8 p8;refine ZB ⟨(i+1,l2),⟨by simp only;omega,hka,by simp only;omega⟩,by simp only;omega,ZU ?_ ?_ ?_⟩
        ·simp[go_sem]
        ·simp[go_sem]
        ·simp[go_sem]
     | none=>
      rw[hff] at hg1;simp only[Option.map_none] at hg1;have hch:(aT W b n=true)=True:=by unfold aT;rw[hff];simp
      have hdk:gi W u.c.clock n=⟨{ n with version:=0 },true,0,u.c.clock⟩:=by unfold gi;rw[hff];rfl
      simp only[hch,if_true] at hka;have hch:True=True:=rfl;refine wR ?_;refine wNq 4 ?_ ?_ z6 z6 u9
      ·simp[hg,ZN,hlt]
      refine wR ?_;refine wN 10 ?_ z6 z6 x8 n4;refine wG ?_;refine fF (.bool false) rfl ?_;simp only[go_sem];refine wG ?_;refine wDF ?_ (hb:=rfl);refine wGS ?_;refine sN 12 ?_;refine sB ?_;cases hkk:c_ l u.c.room (⟨{ n with version:=0 },true,0,u.c.clock⟩:Kept) with
      | none=>
       have hkn:=nf z8 hkk;rw[hdk,hkk] at hka;simp only at hka;rw[<-hka] at hW0;have hW:=hW0;refine sC ?_ func98 (hf:=hkn);refine sG ?_;refine wXG ?_;refine wTG ?_ (hb:=rfl);refine wU ?_ ?_
       ·rw[hW]
       ·rw[hW];exact q9
      | some l2=>
       have hkn:=kZ z8 hkk;rw[hdk,hkk] at hka;simp only at hka;have hl2:=nD hkk;refine sC ?_ func98 (hf:=hkn);refine sG ?_;refine wXG ?_;refine wDF ?_ (hb:=rfl);refine wG ?_ k8 p8;refine ZB ⟨(i+1,l2),⟨by simp only;omega,hka,by simp only;omega⟩,by simp only;omega,ZU ?_ ?_ ?_⟩
       ·simp[go_sem]
       ·simp[go_sem]
       ·simp[go_sem]
    ·have e:i=L.length:=by simp at h;omega
     subst e;rw[Yq (W7 _),cy] at hka;rw[<-hka] at hW0;simp only at hW0;have hll:l.length<=48:=by omega
     clear hka hi h;refine wG ?_;refine af (le_empty 195 138 8 z7) (wn ?_);refine wL l.length (λi=>(19,.osl 195 8 0 ((l.take i).filter λk=>bf L k.node.fid).length)::(21,.any)::(22,.any)::(23,.any)::(179,.int .i64 i)::u0 180 17 []) (λi=>[(195,.cells 138 8 (((l.take i).filter λk=>bf L k.node.fid).map ZK))]) ?_ λi hi=>?_
     ·exact wZ
     simp only[go_sem];refine wGD (λh=>?_) (λh=>?_)
     ·have hlt:=lt1 h;have hg:=Fam.getD (f:=ZK) hlt;have hw:=wi1 (i:=i) z8;have htk:(l.take (i+1)).filter (λk=>bf L k.node.fid)=(l.take i).filter (λk=>bf L k.node.fid)++if bf L (l.getD i default).node.fid=true then [l.getD i default] else []:=by
       rw[ZT hlt,List.filter_append,List.filter_cons];cases bf L (l.getD i default).node.fid<;>simp
      have hll2:((l.take i).filter λk=>bf L k.node.fid).length<=i:=by
       have:=W8 (λk=>bf L k.node.fid) (l.take i);simp only[YA] at this;omega
      clear hW0;generalize (l.take i).filter (λk=>bf L k.node.fid)=D at htk hll2;generalize l.getD i default=k at hg htk;have hg1:br (mN (bQ L)) k.node.fid=(ak L k.node.fid).map λn=>AV.agg (ZN n):=by rw[iJ,cM hgL.up]
      have hst:bf L k.node.fid=(ak L k.node.fid).isSome:=cS _ _;have htq:List.take D.length (D.map ZK)=D.map ZK:=W1 w8;cases hff:ak L k.node.fid with
      | none=>
       rw[hff] at hg1 hst;simp only[Option.map_none] at hg1;rw[hst,if_neg w8] at htk;refine wR ?_;refine wNq 4 ?_ ?_ z6 z6 j9
       ·simp[hg,ZK,hlt]
       refine wR ?_;refine wN 11 ?_ z6 z6 p6 Qm;refine wG ?_;refine wDF ?_ (hb:=rfl);refine wG ?_ w4 y7;exact ZB ⟨i+1,by omega,by omega,ZU j7 j7 w3⟩
      | some n=>
       rw[hff] at hg1 hst;simp only[Option.map_some] at hg1;rw[hst,if_pos w8] at htk;refine wR ?_;refine wNq 4 ?_ ?_ z6 z6 j9
       ·simp[hg,ZK,hlt]
       refine wR ?_;refine wN 11 ?_ z6 z6 x8 n4;refine wG ?_;refine wDT ?_ (hb:=rfl);refine wGq ?_ ?_ w4
       ·simp[htq,refs];omega
       exact ZB ⟨i+1,by omega,by omega,ZU j7 Wf w3⟩
     ·obtain rfl:=eq1 hi h;rw[W4];refine wG ?_;refine ZZ 195 rfl (bg _) (wn ?_);refine wG ?_ QA Qu;refine wDT ?_ (hb:=hmk);refine wG ?_ Qq We;refine wU ?_ ?_
      ·rw[hW0]
      ·rw[hW0];exact q9
  ·rw[if_neg hE] at hap;rw[if_pos x6] at hW0;have hW:=hW0;refine wCg ?_ func95 (hf:=hap);refine wTG ?_ (hb:=x6);refine wU ?_ ?_
   ·rw[hW]
   ·rw[hW];exact q9
 ·have hm:aR a=false:=by unfold aR;revert h;cases (a.kind==1)<;>simp
  have hmk:=h;have hbE:eO u.c a=⟨a.kind,a.fid,a.dir,a.name,a.to,a.toName,a.data⟩:=by unfold eO;rw[hm];rfl
  have hvE:vp a seen=seen:=by unfold vp;rw[hm];rfl
  rw[hvE] at hW0;simp only[hm,Bool.false_eq_true,if_false] at hW0;rw[hbE] at hap hW0 hbs;refine wG ?_;generalize a.fid=F at *;generalize seen=V at *;obtain ⟨b,hbD⟩:∃b:Act,b=⟨a.kind,F,a.dir,a.name,a.to,a.toName,a.data⟩:=⟨_,rfl⟩;rw[<-hbD] at hap hW0 hbs;have hrow:ZA b=[.int .i64 a.kind,.int .i64 F,.int .i64 a.dir,.str a.name,.int .i64 a.to,.str a.toName,.sl (a.data.map ZY)]:=by rw[hbD];rfl
  have hrec:∀v i,ZR ⟨b,v,i⟩=[.int .i64 a.kind,.int .i64 F,.int .i64 a.dir,.str a.name,.int .i64 a.to,.str a.toName,.sl (a.data.map ZY),.int .i64 v,.int .i64 i]:=by intro v i;rw[hbD];rfl
  have hbk:b.kind=a.kind:=by rw[hbD]
  have hbf:b.fid=F:=by rw[hbD]
  clear hbD;have hgl:=λhe=>fJ hgood b 0 he
  rw[hrow] at hap;have hgW:∀k,br (mN (bQ W)) k=(ak W k).map λn=>AV.agg (ZN n):=λk=>by rw[iJ,cM hgood.up]
  generalize aF W b=e0 at *;generalize aK W b 0=L at *;refine wCg ?_ func94 (hf:=hkt)
  by_cases hE:e0=0
  ·rw[if_pos hE] at hap;rw[if_neg x6] at hW0;have hgL:=hgl hE;have hLl:=hgL.len;have hls:=sD L hgL.up z8;have hadd:=wJ u.c.log ⟨b,V,u.c.logged+1⟩ ⟨by have:=hci.log;omega,λr hr=>by have:=(hci.logS r hr).data;show r.act.data.length<=_;omega⟩ Q4;rw[hrec] at hadd;refine wCg ?_ func95 (hf:=hap);refine wDF ?_ (hb:=rfl);refine wGS ?_;refine sN 13 ?_ z6 z6 QA Qu;refine sB ?_;cases hlog:dt u.c.log ⟨b,V,u.c.logged+1⟩ with
   | none=>
    rw[hlog] at hadd hW0;simp only[gg] at hadd hW0;have hW:=hW0;refine sC ?_ func96 (hf:=hadd);refine sG ?_;refine wXG ?_;refine wTG ?_ (hb:=rfl);refine wU ?_ ?_
    ·rw[hW]
    ·rw[hW];exact q9
   | some log=>
    rw[hlog] at hadd hW0;simp only[gg] at hadd hW0;generalize hKA:cy u.c.room u.c.clock W b L u.c.cache=KA at hW0;refine sC ?_ func96 (hf:=hadd);refine sG ?_;refine wXG ?_;refine wFG ?_ (hb:=rfl);refine wCg ?_ func97 (hf:=hls);refine ZL (λq:Nat×List Kept=>q.1<=L.length/\cy u.c.room u.c.clock W b (L.drop q.1) q.2=KA/\q.2.length<=24+q.1) (λq=>L.length-q.1) (λq=>(12,.any)::(14,.sl (q.2.map ZK))::(16,.any)::(17,.any)::(18,.any)::(124,.int .i64 q.1)::u0 125 52 []) (λ_=>[]) (0,u.c.cache) ⟨Yp _,by rw[List.drop_zero];exact hKA,by simp only;omega⟩ ?_ λq hq=>?_
    ·exact wZ
    obtain ⟨i,l⟩:=q;obtain ⟨hi,hka,hll⟩:=hq;simp only at hi hka hll;clear hKA;simp only[go_sem];refine wGD (λh=>?_) (λh=>?_)
    ·have hlt:=lt1 h;have hg:=Fam.getD (f:=ZN) hlt;have hw1:=wi1 (i:=i) z8;have hnm:=YG hlt;rw[cr hlt,cy] at hka;generalize L.getD i default=n at *;have hns:=hgL.small.each n hnm;have hg1:=hgW n.fid;cases hff:ak W n.fid with
     | some o=>
      rw[hff] at hg1;simp only[Option.map_some] at hg1;have hos:=hgood.small.each o ((ZO hgood.up).1 hff).1;have hsm:=rQ o n false hos hns;have hcb:aT W b n=!(dm false o n&&(a.kind != 3||n.fid != F)):=by unfold aT;rw[hff,hbk,hbf]
      have hdk:gi W u.c.clock n=⟨{ n with version:=o.version },true,0,u.c.clock⟩:=by unfold gi;rw[hff];rfl
      unfold ZN at hsm;generalize dm false o n=sm at *;refine wR ?_;refine wNq 4 ?_ ?_ z6 z6 u9
      ·simp[hg,ZN,hlt]
      refine wR ?_;refine wN 10 ?_ z6 z6 x8 n4;refine wG ?_;refine wCC ?_ func87 (hf:=λhb=>(hsm));refine wNq 13 ?_ ?_
      ·simp[go_sem];intro e;exact ⟨e,λe2=>⟨e,e2⟩⟩
      refine wNm 152 λc152 h152=>?_
      have hc:c152=(sm&&(a.kind != 3||n.fid != F)):=by
       rw[<-h152];cases sm<;>cases (a.kind != 3)<;>simp
      clear h152;rw[<-hc] at hcb;refine wG ?_;cases c152 with
      | true=>
       have hch:aT W b n=false:=by rw[hcb];rfl
       rw[hch,if_neg Bool.false_ne_true] at hka;refine wDT ?_ (hb:=rfl);refine wG ?_ k8 p8;refine ZB ⟨(i+1,l),⟨by simp only;omega,hka,by simp only;omega⟩,by simp only;omega,ZU ?_ ?_ ?_⟩
       ·simp[go_sem]
       ·simp[go_sem]
       ·simp[go_sem]
      | false=>
       have hch:(aT W b n=true)=True:=by rw[hcb];simp
       simp only[hch,if_true] at hka;have hch:True=True:=rfl;refine wDF ?_ (hb:=rfl);refine wGS ?_;refine sN 12 ?_;refine sB ?_;cases hkk:c_ l u.c.room (⟨{ n with version:=o.version },true,0,u.c.clock⟩:Kept) with
       | none=>
        have hkn:=nf z8 hkk;rw[hdk,hkk] at hka;simp only at hka;rw[<-hka] at hW0;have hW:=hW0;refine sC ?_ func98 (hf:=hkn);refine sG ?_;refine wXG ?_;refine wTG ?_ (hb:=rfl);refine wU ?_ ?_
        ·rw[hW]
        ·rw[hW];exact q9
       | some l2=>
        have hkn:=kZ z8 hkk;rw[hdk,hkk] at hka;simp only at hka;have hl2:=nD hkk;refine sC ?_ func98 (hf:=hkn);refine sG ?_;refine wXG ?_;refine wDF ?_ (hb:=rfl);refine wG ?_ k8 p8;refine ZB ⟨(i+1,l2),⟨by simp only;omega,hka,by simp only;omega⟩,by simp only;omega,ZU ?_ ?_ ?_⟩
        ·simp[go_sem]
        ·simp[go_sem]
        ·simp[go_sem]
     | none=>
      rw[hff] at hg1;simp only[Option.map_none] at hg1;have hch:(aT W b n=true)=True:=by unfold aT;rw[hff];simp
      have hdk:gi W u.c.clock n=⟨{ n with version:=0 },true,0,u.c.clock⟩:=by unfold gi;rw[hff];rfl
      simp only[hch,if_true] at hka;have hch:True=True:=rfl;refine wR ?_;refine wNq 4 ?_ ?_ z6 z6 u9
      ·simp[hg,ZN,hlt]
      refine wR ?_;refine wN 10 ?_ z6 z6 x8 n4;refine wG ?_;refine fF (.bool false) rfl ?_;simp only[go_sem];refine wG ?_;refine wDF ?_ (hb:=rfl);refine wGS ?_;refine sN 12 ?_;refine sB ?_;cases hkk:c_ l u.c.room (⟨{ n with version:=0 },true,0,u.c.clock⟩:Kept) with
      | none=>
       have hkn:=nf z8 hkk;rw[hdk,hkk] at hka;simp only at hka;rw[<-hka] at hW0;have hW:=hW0;refine sC ?_ func98 (hf:=hkn);refine sG ?_;refine wXG ?_;refine wTG ?_ (hb:=rfl);refine wU ?_ ?_
       ·rw[hW]
       ·rw[hW];exact q9
      | some l2=>
       have hkn:=kZ z8 hkk;rw[hdk,hkk] at hka;simp only at hka;have hl2:=nD hkk;refine sC ?_ func98 (hf:=hkn);refine sG ?_;refine wXG ?_;refine wDF ?_ (hb:=rfl);refine wG ?_ k8 p8;refine ZB ⟨(i+1,l2),⟨by simp only;omega,hka,by simp only;omega⟩,by simp only;omega,ZU ?_ ?_ ?_⟩
       ·simp[go_sem]
       ·simp[go_sem]
       ·simp[go_sem]
    ·obtain rfl:=eq1 hi h;rw[Yq (W7 _),cy] at hka;rw[<-hka] at hW0;simp only at hW0;have hll:l.length<=48:=by omega
     clear hka hi h;refine wG ?_;refine af (le_empty 195 138 8 z7) (wn ?_);refine wL l.length (λi=>(19,.osl 195 8 0 ((l.take i).filter λk=>bf L k.node.fid).length)::(21,.any)::(22,.any)::(23,.any)::(179,.int .i64 i)::u0 180 17 []) (λi=>[(195,.cells 138 8 (((l.take i).filter λk=>bf L k.node.fid).map ZK))]) ?_ λi hi=>?_
     ·exact wZ
     simp only[go_sem];refine wGD (λh=>?_) (λh=>?_)
     ·have hlt:=lt1 h;have hg:=Fam.getD (f:=ZK) hlt;have hw:=wi1 (i:=i) z8;have htk:(l.take (i+1)).filter (λk=>bf L k.node.fid)=(l.take i).filter (λk=>bf L k.node.fid)++if bf L (l.getD i default).node.fid=true then [l.getD i default] else []:=by
       rw[ZT hlt,List.filter_append,List.filter_cons];cases bf L (l.getD i default).node.fid<;>simp
      have hll2:((l.take i).filter λk=>bf L k.node.fid).length<=i:=by
       have:=W8 (λk=>bf L k.node.fid) (l.take i);simp only[YA] at this;omega
      clear hW0;generalize (l.take i).filter (λk=>bf L k.node.fid)=D at htk hll2;generalize l.getD i default=k at hg htk;have hg1:br (mN (bQ L)) k.node.fid=(ak L k.node.fid).map λn=>AV.agg (ZN n):=by rw[iJ,cM hgL.up]
      have hst:bf L k.node.fid=(ak L k.node.fid).isSome:=cS _ _;have htq:List.take D.length (D.map ZK)=D.map ZK:=W1 w8;cases hff:ak L k.node.fid with
      | none=>
       rw[hff] at hg1 hst;simp only[Option.map_none] at hg1;rw[hst,if_neg w8] at htk;refine wR ?_;refine wNq 4 ?_ ?_ z6 z6 j9
       ·simp[hg,ZK,hlt]
       refine wR ?_;refine wN 11 ?_ z6 z6 p6 Qm;refine wG ?_;refine wDF ?_ (hb:=rfl);refine wG ?_ w4 y7;exact ZB ⟨i+1,by omega,by omega,ZU j7 j7 w3⟩
      | some n=>
       rw[hff] at hg1 hst;simp only[Option.map_some] at hg1;rw[hst,if_pos w8] at htk;refine wR ?_;refine wNq 4 ?_ ?_ z6 z6 j9
       ·simp[hg,ZK,hlt]
       refine wR ?_;refine wN 11 ?_ z6 z6 x8 n4;refine wG ?_;refine wDT ?_ (hb:=rfl);refine wGq ?_ ?_ w4
       ·simp[htq,refs];omega
       exact ZB ⟨i+1,by omega,by omega,ZU j7 Wf w3⟩
     ·obtain rfl:=eq1 hi h;rw[W4];refine wG ?_;refine ZZ 195 rfl (bg _) (wn ?_);refine wG ?_ QA Qu;refine wDF ?_ (hb:=hmk);refine wG ?_ Qq We;refine wU ?_ ?_
      ·rw[hW0]
      ·rw[hW0];exact q9
  ·rw[if_neg hE] at hap;rw[if_pos x6] at hW0;have hW:=hW0;refine wCg ?_ func95 (hf:=hap);refine wTG ?_ (hb:=x6);refine wU ?_ ?_
   ·rw[hW]
   ·rw[hW];exact q9
theorem nI {B T:Nat} (u:U) (h:UInvF Fa B T u) (hB:B<=40000000) (hT:T<=900000000000) (a:Act) (ha:ActS a) (seen:Int) (G Y N:Nat->Nat):aj prog 61 [.ptr 900 13 0 0,.agg (ZA a),.int .i64 seen] (uH u G Y N)
  (λr H=>r=.int .i64 (bU u a seen).e/\Holds (uH (bU u a seen).u G Y N) H):=by
 unfold bU;cases e:u.c.away with
 | true=>exact GR u h hB e a ha seen G Y N
 | false=>exact Ep u h hB e a ha seen G Y N
end La
