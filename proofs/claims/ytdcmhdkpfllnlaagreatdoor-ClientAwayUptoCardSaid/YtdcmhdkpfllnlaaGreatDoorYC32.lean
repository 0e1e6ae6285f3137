/- Texts of this claim, part 32: RLaw9A. No condition. -/
import Derived.Test.YtdcmhdkpfllnlaaGreatDoorYC29
import Derived.Test.YtdcmhdkpfllnlaaGreatDoorYC30
set_option maxRecDepth 10000
set_option maxHeartbeats 4000000
set_option linter.unusedSimpArgs false
set_option linter.unusedVariables false
namespace La
open Go Go.Eng Go.Proofs
theorem zY (rooms:List Int) (l:List Step) (x:Step) (hr:rooms.length≤100000000) (hl:StepsOK l) (hx:x.path.length≤10000000/\x.toPath.length≤10000000) :
  af Tryz.prog 6 [.sl (rooms.map ZI),.sl (l.map ZX),.agg (ZX x)] [] (λr _=>r=.bool true):=by
 have hb:=nk rooms hr l hl;have hWi:b_ rooms=0->WInv (20*l.length) (300*l.length) (jO rooms l):=λhE=>oo hE l
 have hz:b_ rooms≠0->jO rooms l=kH:=λhE=>by unfold jO;rw[if_neg hE]
 have hll:=hl.len;generalize jO rooms l=W at *;unfold ee at hb;obtain ⟨kind,cl,n,path,toPath,data⟩:=x;rw[show ZX ⟨kind,cl,n,path,toPath,data⟩=[.int .i64 kind,.int .i64 cl,.int .i64 n,.str path,.str toPath,.sl (data.map ZY)] from rfl];refine ZF tK (Tryz.func6) rfl (λC=>?_);simp only[Tryz.ntmps6,Tryz.results6,go_sem];refine wG tK ?_;refine wC Tryz.func16 (hf:=(vD)) (hk:=?_);refine wG tK ?_;refine wDF (hb:=(rfl)) (hk:=?_);refine wG tK ?_;refine wC Tryz.func8 (hf:=(hb)) (hk:=?_);refine wN tK 2 ?_
 by_cases hc0:cl<0
 ·have e1:decide (cl<0)=true:=by simp[hc0]
  refine dq ?_;refine wR ?_;refine wN tK 12 ?_ z6 z6 Zy (by simp[go_sem,e1,cond_true,cond_false])
  iterate 8 refine dT (.bool false) rfl ?_
  simp only[go_sem];refine wG tK ?_ QW Q6;refine wDT (hb:=(rfl)) (hk:=?_);refine wG tK ?_;refine wT ?_;rfl
 have e1:decide (cl<0)=false:=by simp;omega
 obtain ⟨k,rfl⟩:∃k:Nat,cl=k:=⟨cl.toNat,by omega⟩
 by_cases hk0:k≥W.cs.length
 ·have e2:decide ((k:Int)≥(W.cs.length:Int))=true:=by simp;omega
  refine dq ?_;refine wR ?_;refine wN tK 12 ?_ z6 z6 Zp (by simp[go_sem,e1,e2,cond_true,cond_false])
  iterate 8 refine dT (.bool false) rfl ?_
  simp only[go_sem];refine wG tK ?_ QW Q6;refine wDT (hb:=(rfl)) (hk:=?_);refine wG tK ?_;refine wT ?_;rfl
 have e2:decide ((k:Int)≥(W.cs.length:Int))=false:=by simp;omega
 have hk:k<W.cs.length:=by omega
 have hE:b_ rooms=0:=by
  by_cases h:b_ rooms=0
  ·exact h
  ·rw[hz h] at hk;simp[kH] at hk
 have hw:=hWi hE;have hu:=hw.at hk;have hg:(W.cs.map ZC).getD k []=ZC (W.cs.getD k default):=Fam.getD hk;generalize W.cs.getD k default=c at *;have hdo:=lS c W.s hu z8 z8 ⟨kind,(k:Int),n,path,toPath,data⟩ hx.1 hx.2;have hst:=ie hu ⟨kind,(k:Int),n,path,toPath,data⟩;have hA:c.away=true->UInvF False (20*l.length) (300*l.length) ⟨c,⟨[gr],1,[]⟩⟩:=λha=>
  ⟨SrvOK.new.mono z8,{ hu.cli with here:=λh=>(by rw[ha] at h;cases h),hst:=λh=>h.elim }⟩
 have hdo2:=λha=>lS c ⟨[gr],1,[]⟩ (hA ha) z8 z8 ⟨kind,(k:Int),n,path,toPath,data⟩ hx.1 hx.2
 have hsk:=λha hk8=>Dv ⟨c,W.s⟩ ha ⟨kind,(k:Int),n,path,toPath,data⟩ hk8
 have haw:=λha hk8=>zu (u:=⟨c,W.s⟩) (u':=⟨c,⟨[gr],1,[]⟩⟩) rfl ha ⟨kind,(k:Int),n,path,toPath,data⟩ hk8
 have h1:=rn W.s hu.srv.hist.bH.small (by have:=hu.srv.len;simp only at this;omega);have h2:=rk (ai ⟨c,W.s⟩ ⟨kind,(k:Int),n,path,toPath,data⟩).u.c (hst.cli.qg z8);have h3:=tx (ai ⟨c,W.s⟩ ⟨kind,(k:Int),n,path,toPath,data⟩).r;have hns:=la;generalize ai ⟨c,W.s⟩ ⟨kind,(k:Int),n,path,toPath,data⟩=g at *;generalize ai ⟨c,⟨[gr],1,[]⟩⟩ ⟨kind,(k:Int),n,path,toPath,data⟩=g2 at *;unfold dN at hdo hdo2;rw[show ZX ⟨kind,(k:Int),n,path,toPath,data⟩=[.int .i64 kind,.int .i64 (k:Int),.int .i64 n,.str path,.str toPath,.sl (data.map ZY)] from rfl] at hdo hdo2;unfold ZC ZQ aT at *;refine wGq tK ?_ ?_ (by simp only[go_sem,e1,e2,hg,cond_true,cond_false];try exact rfl)
 ·simp[e1,e2,hg,hk]
 by_cases hc:c.away=false\/kind=8
 ·refine wDT (hb:=(by rcases hc with h | h<;>simp[h])) (hk:=?_);refine wG tK ?_;refine wT ?_;rfl
 have ha:c.away=true:=by
  cases h:c.away with
  | true=>rfl
  | false=>exact absurd (.inl h) hc
 have hk8:kind≠8:=λh=>hc (.inr h)
 refine wDF (hb:=(by simp[ha,hk8])) (hk:=?_);have es:=hsk ha hk8;obtain ⟨ec,er,eaw⟩:=haw ha hk8;have hd2:=hdo2 ha;rw[es] at hdo;rw[ec,er] at hd2;refine wG tK ?_;refine ZW ZM ?_;refine ZS rfl ?_;refine sN tK 9 ?_ z6 z6 Qw WW;refine sC Tryz.func11 (hf:=(hdo)) (hk:=?_);refine sN tK 4 ?_;refine sW tK ?_;simp only[go_sem];refine sW tK ?_;simp only[go_sem];refine sW tK ?_;simp only[go_sem];refine sT tK ?_;refine sT tK ?_;refine sT tK ?_;refine sE ?_;refine wKd ?_
 try simp only[go_sem,gA,gB,gC]
 refine wG tK ?_;refine ZW ZM ?_;refine ZS rfl ?_;refine sN tK 6 ?_ z6 z6 Qw WW;refine sC Tryz.func20 (hf:=(hns)) (hk:=?_);refine sN tK 1 ?_;refine sC Tryz.func11 (hf:=(hd2)) (hk:=?_);refine sN tK 4 ?_;refine sW tK ?_;simp only[go_sem];refine sW tK ?_;simp only[go_sem];refine sW tK ?_;simp only[go_sem];refine sT tK ?_;refine sT tK ?_;refine sT tK ?_;refine sE ?_;refine wKd ?_
 try simp only[go_sem,gA,gB,gC]
 refine wG tK ?_;refine wC Tryz.func13 (hf:=(h1)) (hk:=?_);refine wG tK ?_;refine wCC Tryz.func9 (hf:=λhb=>(h2)) (hk:=?_);refine wG tK ?_;refine wCC Tryz.func14 (hf:=λhb=>(h3)) (hk:=?_);refine wG tK ?_;refine wT ?_;simp[eaw]
end La
