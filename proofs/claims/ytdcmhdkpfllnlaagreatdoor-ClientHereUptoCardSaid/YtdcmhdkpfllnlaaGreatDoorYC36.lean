/- Texts of this claim, part 36: RWalk, RLaw9H. No condition. -/
import Derived.Test.YtdcmhdkpfllnlaaGreatDoorYC31
import Derived.Test.YtdcmhdkpfllnlaaGreatDoorYC29
set_option maxRecDepth 10000
set_option maxHeartbeats 4000000
set_option linter.unusedSimpArgs false
set_option linter.unusedVariables false
namespace La
open Go Go.Eng Go.Proofs
theorem Fj (l:List Node) (hu:Up l) (hne:∀n,n∈l->EUp n.entries/\n.entries.length≤100000000) (q:List (List UInt8)) (hq:q.length≤100000000) :
  af Tryz.prog 19 [.rm (mN (bI l)),.sl (q.map aV)] [] (λr _=>r=.tup [.int .i64 (ik l 0 q).1,.int .i64 (ik l 0 q).2]):=by
 refine ZF tK (Tryz.func19) rfl (λC=>?_);simp only[Tryz.ntmps19,Tryz.results19,go_sem];refine wG tK ?_;refine ZL (λs:Nat×Int=>s.1≤q.length/\ik l s.2 (q.drop s.1)=ik l 0 q) (λs=>q.length-s.1) (λs=>(6,.int .i64 s.2)::u0 8 4 ((14,.int .i64 s.1)::u0 15 24 [])) (λ_=>[]) (0,0) ⟨by simp,rfl⟩ ?_ λs hs=>?_
 ·simp only[go_sem];exact ZU w3 w3 w3
 obtain ⟨i,k⟩:=s;obtain ⟨hi,hw⟩:=hs;simp only at hi hw;simp only[go_sem];refine wG tK ?_;refine wD (λh=>?_) (λh=>?_)
 ·have hlt:i<q.length:=by simp at h;omega
  have hg:(q.map aV).getD i []=[.str (q.getD i default)]:=Fam.getD hlt;have hd:q.drop i=q.getD i default::q.drop (i+1):=bT hlt;have hwi:=wi1 (i:=i) z8;generalize q.getD i default=x at hg hd;rw[hd] at hw;simp only[ik] at hw;have hgm:bl (mN (bI l)) k=(ak l k).map λn=>AV.agg (ZN n):=by rw[gi,cm hu]
  have hmem:∀n,ak l k=some n->n∈l:=λn h=>((ZO hu).1 h).1
  generalize hfd:ak l k=o at hw hgm hmem;cases o with
  | none=>
   simp only[Option.map_none] at hw hgm;refine wG tK ?_ (by simp only[go_sem,hg,hgm,hlt];try exact rfl) (by simp[go_sem,hg,hgm,hlt]);refine wD (λh=>?_) (λh=>?_)
   ·refine wG tK ?_;refine wT ?_;simp[←hw]
   ·cases h
  | some n=>
   simp only[Option.map_some] at hw hgm;have hn:=hne n (hmem n rfl);have hent:=gM n x hn.2;rw[du hn.1] at hent;refine wG tK ?_ (by simp only[go_sem,hg,hgm,hlt,ZN];try exact rfl) (by simp[go_sem,hg,hgm,hlt,ZN]);refine wD (λh=>?_) (λh=>?_)
   ·cases h
   refine wGq tK ?_ ?_ w6
   ·simp[ZN]
   refine wD (λh=>?_) (λh=>?_)
   ·have hdir:n.dir=false:=by simpa using h
    rw[if_pos hdir] at hw;refine wG tK ?_;refine wT ?_;simp[←hw]
   have hdir:n.dir=true:=by simpa using h
   rw[if_neg (by simp[hdir])] at hw;unfold ZN at hent;refine wGq tK ?_ ?_ w6
   ·simp[ZN]
   cases he:av n x with
   | none=>
    rw[he] at hw hent;simp only at hw hent;refine wC Tryz.func50 (hf:=(hent)) (hk:=?_);refine wG tK ?_;refine wD (λh=>?_) (λh=>?_)
    ·refine wG tK ?_;refine wT ?_;simp[←hw]
    ·cases h
   | some j=>
    rw[he] at hw hent;simp only at hw hent;refine wC Tryz.func50 (hf:=(hent)) (hk:=?_);refine wG tK ?_;refine wD (λh=>?_) (λh=>?_)
    ·cases h
    refine wG tK ?_ Qy Wf;refine ZB ⟨(i+1,j),⟨by omega,hw⟩,by simp only;omega,ZU ?_ ?_ ?_⟩
    ·simp[go_sem,hwi]
    ·simp[go_sem]
    ·simp[go_sem]
 ·have e:i=q.length:=by simp at h;omega
  rw[e,List.drop_length] at hw;simp only[ik] at hw;refine wG tK ?_;refine wT ?_;simp[←hw]
theorem z_ (rooms:List Int) (l:List Step) (n:Int) (path:List UInt8) (hr:rooms.length≤100000000) (hl:StepsOK l) (hp:path.length≤10000000) :
  af Tryz.prog 4 [.sl (rooms.map ZI),.sl (l.map ZX),.int .i64 n,.str path] [] (λr _=>r=.bool true):=by
 have hb:=nk rooms hr l hl;have hWi:b_ rooms=0->WInv (20*l.length) (300*l.length) (jO rooms l):=λhE=>oo hE l
 have hz:b_ rooms≠0->jO rooms l=kH:=λhE=>by unfold jO;rw[if_neg hE]
 have hll:=hl.len;generalize jO rooms l=W at *;unfold ee at hb;refine ZF tK (Tryz.func4) rfl (λC=>?_);simp only[Tryz.ntmps4,Tryz.results4,go_sem];refine wG tK ?_;refine wC Tryz.func16 (hf:=(vD)) (hk:=?_);refine wG tK ?_;refine wDF (hb:=(rfl)) (hk:=?_);refine wG tK ?_;refine wC Tryz.func8 (hf:=(hb)) (hk:=?_);refine wN tK 2 ?_
 by_cases hc0:n<0
 ·have e1:decide (n<0)=true:=by simp[hc0]
  refine dq ?_;refine wR ?_;refine wN tK 10 ?_ z6 z6 Zy (by simp[go_sem,e1,cond_true,cond_false])
  iterate 6 refine dT (.bool false) rfl ?_
  simp only[go_sem];refine wG tK ?_ QW Q6;refine wDT (hb:=(rfl)) (hk:=?_);refine wG tK ?_;refine wT ?_;rfl
 have e1:decide (n<0)=false:=by simp;omega
 obtain ⟨k,rfl⟩:∃k:Nat,n=k:=⟨n.toNat,by omega⟩
 by_cases hk0:k≥W.cs.length
 ·have e2:decide ((k:Int)≥(W.cs.length:Int))=true:=by simp;omega
  refine dq ?_;refine wR ?_;refine wN tK 10 ?_ z6 z6 Zp (by simp[go_sem,e1,e2,cond_true,cond_false])
  iterate 6 refine dT (.bool false) rfl ?_
  simp only[go_sem];refine wG tK ?_ QW Q6;refine wDT (hb:=(rfl)) (hk:=?_);refine wG tK ?_;refine wT ?_;rfl
 have e2:decide ((k:Int)≥(W.cs.length:Int))=false:=by simp;omega
 have hk:k<W.cs.length:=by omega
 have hE:b_ rooms=0:=by
  by_cases h:b_ rooms=0
  ·exact h
  ·rw[hz h] at hk;simp[kH] at hk
 have hw:=hWi hE;have hu:=hw.at hk;have hg:(W.cs.map ZC).getD k []=ZC (W.cs.getD k default):=Fam.getD hk;generalize W.cs.getD k default=c at *;have hlaw:=λha=>Et hu ha ⟨1,(k:Int),0,path,[],[]⟩ rfl
 have hdo:af Tryz.prog 11 [.agg (ZC c),.agg (ZQ W.s),.agg [.int .i64 1,.int .i64 (k:Int),.int .i64 0,.str path,.str [],.nils]] [] (λr _=>r=dN (ai ⟨c,W.s⟩ ⟨1,(k:Int),0,path,[],[]⟩)):=
  af.wy (x:=⟨1,(k:Int),0,path,[],[]⟩) rfl (lS c W.s hu z8 z8 ⟨1,(k:Int),0,path,[],[]⟩ hp y8)
 have hup:Up W.s.tree:=hu.srv.hist.bH.up;have hne:∀n,n∈W.s.tree->EUp n.entries/\n.entries.length≤100000000:=λn hm=>⟨(hu.srv.hist.whole.loc n hm).eup,by have:=hu.srv.hist.bH.ent n hm;omega⟩
 have hsl:=bR path;have hsp:=gN path hp;have hof:=te W.s.tree hu.srv.hist.bH.small.len;have hwk:=Fj W.s.tree hup hne (ae path).1 z8;simp only at hlaw;generalize ai ⟨c,W.s⟩ ⟨1,(k:Int),0,path,[],[]⟩=g at *;generalize ae path=S at *;obtain ⟨L,E⟩:=S;simp only at hlaw hwk;have hgm:bl (mN (bI W.s.tree)) (ik W.s.tree 0 L).1=(ak W.s.tree (ik W.s.tree 0 L).1).map λn=>AV.agg (ZN n):=by rw[gi,cm hup]
 generalize ik W.s.tree 0 L=V at *;obtain ⟨f,e⟩:=V;simp only at hlaw hwk hgm;unfold dN at hdo;unfold cw at hsp;unfold ZC ZQ aT at *;refine wG tK ?_ (by simp only[go_sem,e1,e2,hg,hk,cond_true,cond_false];try exact rfl) (by simp[go_sem,e1,e2,hg,hk,cond_true,cond_false]);cases ha:c.away with
 | true=>
  refine wDT (hb:=WX) (hk:=?_);refine wG tK ?_;refine wT ?_;rfl
 | false=>
 refine wDF (hb:=WX) (hk:=?_);obtain ⟨hA,hB,hC⟩:=hlaw ha;refine wG tK ?_;refine ZW ZM ?_;refine ZS rfl ?_;refine sN tK 9 ?_ z6 z6 Qw WW;refine sB tK ?_;refine sC Tryz.func11 (hf:=(hdo)) (hk:=?_);refine sN tK 4 ?_;refine sW tK ?_;simp only[go_sem];refine sW tK ?_;simp only[go_sem];refine sW tK ?_;simp only[go_sem];refine sT tK ?_;refine sT tK ?_;refine sT tK ?_;refine sE ?_;refine wKd ?_
 try simp only[go_sem,gA,gB,gC]
 refine wG tK ?_;refine wC Tryz.func17 (hf:=(hsp)) (hk:=?_);refine wG tK ?_
 by_cases hE0:E=0
 ·refine wDF (hb:=(by simp[hE0])) (hk:=?_);refine wG tK ?_;refine wC Tryz.func18 (hf:=(hof)) (hk:=?_);refine wG tK ?_;refine wC Tryz.func19 (hf:=(hwk)) (hk:=?_);refine wG tK ?_
  by_cases he0:e=0
  ·refine wDF (hb:=(by simp[he0])) (hk:=?_);obtain ⟨m,hm,hm1,hm2⟩:=hC hE0 he0;rw[hm] at hgm;simp only[Option.map_some] at hgm;refine wG tK ?_ (by simp only[go_sem,hgm,ZN];try exact rfl) (by simp[go_sem,hgm,ZN]);cases hmd:m.dir with
   | true=>
    refine wDT (hb:=(rfl)) (hk:=?_);refine wG tK ?_;refine wT ?_;simp[hm1 hmd]
   | false=>
    refine wDF (hb:=(rfl)) (hk:=?_);refine wG tK ?_ (by simp only[go_sem,hgm,ZN];try exact rfl) (by simp[go_sem,hgm,ZN]);refine wT ?_;simp[(hm2 hmd).1,(hm2 hmd).2]
  ·refine wDT (hb:=(by simp[he0])) (hk:=?_);refine wG tK ?_;refine wT ?_;simp[hB hE0 he0]
 ·refine wDT (hb:=(by simp[hE0])) (hk:=?_);refine wG tK ?_;refine wT ?_;simp[hA hE0]
end La
