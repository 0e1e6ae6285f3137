/- Texts of this claim, part 31: WAli10. No condition. -/
import Derived.Test.YtmcfbfdonjllaaaGreatDoorYW25
set_option maxRecDepth 10000
set_option maxHeartbeats 4000000
set_option linter.unusedSimpArgs false
set_option linter.unusedVariables false
namespace La
open Go Go.Eng Go.Proofs
def l10:List Step:=[⟨4,0,0,[47,100],[],[]⟩,⟨2,1,0,[47],[],[]⟩]
def a10:Step:=⟨7,0,0,[],[],[]⟩
theorem I_:rsW (bo [5,5]) l10=[⟨0,0,0,[]⟩,⟨0,0,0,[100,10]⟩]:=by kernel_rfl
theorem JA:(ai (bO (bo [5,5]) l10) a10).r.err=0:=by kernel_rfl
theorem FW:(ai (bO (bo [5,5]) l10) a10).w.cs.length=2:=by kernel_rfl
theorem C5:((ai (bO (bo [5,5]) l10) a10).w.cs.getD 0 default).away=true:=by kernel_rfl
theorem Js {α} [Inhabited α] {l:List α} (h:l.length=2):l=[l.getD 0 default,l.getD 1 default]:=by
 match l,h with
 | [a,b],_=>rfl
theorem Ax:ag Tryz.prog 24 [] [] (λr _=>r=.bool true):=by
 have hp:=gv (rooms:=[5,5]) (l:=l10) j6 ⟨by decide,λx hx=>by
  simp only[l10,List.mem_cons,List.not_mem_nil,or_false] at hx
  rcases hx with rfl | rfl<;>exact ⟨by decide,by decide⟩⟩ rfl j6 I_
 have hi:=mu (rooms:=[5,5]) rfl l10;have hd:=Ao _ hi j6 j6 a10 j6 j6;have hi2:=bl hi a10;have ho:=Bp _ hi2.srv.hist.bV.small (hi2.srv.uJ j6) (hi2.lq j6) (by have:=hi2.len;omega);have hwr:=yT [] j6;have e1:=JA;have e2:=Js FW;have e3:=C5;clear hi hi2;generalize ai (bO (bo [5,5]) l10) a10=g at *;generalize bO (bo [5,5]) l10=W at *;generalize g.w.cs.getD 0 default=c at *;generalize g.w.cs.getD 1 default=d at *;unfold mG at hd;unfold bI at hp hd ho;rw[e2] at hd ho;simp only[l10,a10,ZX,aj,List.map_cons,List.map_nil,ZY,ZI,ZC,e1,e3] at hp hd ho hwr;refine ZF tK (Tryz.func24) rfl (λC=>?_);simp only[Tryz.ntmps24,Tryz.results24,go_sem];refine wG tK ?_;refine bf (ct 10) ?_;refine ZZ 10 rfl (rfl) ?_;refine ZZ 7 rfl (rfl) ?_;simp only[go_sem];refine wC Tryz.func16 (hf:=(hp)) (hk:=?_);refine wG tK ?_;refine bf (rH 17 z6 Qh) ?_;simp only[go_sem];refine wC Tryz.func28 (hf:=(hd)) (hk:=?_);refine wGq tK ?_ ?_
 ·simp[vd]
 refine wCC Tryz.func23 (hf:=λhb=>(ho)) (hk:=?_);refine wG tK ?_;refine wCC Tryz.func20 (hf:=λhb=>(by exact ag.nrm rfl (hwr))) (hk:=?_);refine wG tK ?_;refine wT ?_;rfl
end La
