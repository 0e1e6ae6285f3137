/- The law TopBoth is true of the program: its card TopBothUptoCardSaid. No condition. -/
import Derived.Test.YtmcfbfdonjllaaaGreatDoorYW32
import Derived.Test.YtmcfbfdonjllaaaGreatDoorYW22
set_option maxRecDepth 10000
set_option maxHeartbeats 4000000
set_option linter.unusedSimpArgs false
set_option linter.unusedVariables false
namespace Go.Proofs.YtmcfbfdonjllaaaGreatDoor.topBoth
open Go Go.ChangeShapes Go.WideShapes Go.ChangeAt Go.RowKit Go.Eng
theorem eI (H:Type) (enc:TypeId×Value->H) (W:World) (base:Nat) (args:Array Value) (ds gs:List (DataW H)) (before:List MemPlace)
  (hval:∀(j:Nat) t v,Tryz.f4.params[j]? = some t->args[j]? = some v->Value.okWide Tryz.prog W .any base t v)
  (hW:DataW.Whole enc Tryz.prog Tryz.f4.params.toList Rows.topBothSpec.vars false W args.toList ds gs before) (hk:Rows.uptoSmall H (ds++gs)=true)
  (hL:laidMetH Tryz.prog Rows.topBothUptoRow.laid W) (hshp:W.ShapedOpen Tryz.prog) :
  Calls Tryz.prog 4 args W λe W'=>∃v,e=.returned v/\Rows.topBothSpec.post enc Tryz.prog Tryz.f4 false true false false W args v W':=by
 have hW':=hW;obtain ⟨p,q,hA0,hV,rfl,hfz,hnd⟩:=hW;have hA:DataW.TrodAll enc Tryz.prog W 0 (λ_=>true) true Tryz.f4.params.toList args.toList ds p:=hA0;rw[Tryz.params4] at hA hval;obtain ⟨v0,vs0,d0,ds0,p0,q0,hargs,rfl,rfl,h0,r0⟩:=trodAll_cons hA;obtain ⟨v1,vs1,d1,ds1,p1,q1,rfl,rfl,rfl,h1,r1⟩:=trodAll_cons r0;obtain ⟨v2,vs2,d2,ds2,p2,q2,rfl,rfl,rfl,h2,r2⟩:=trodAll_cons r1;obtain ⟨v3,vs3,d3,ds3,p3,q3,rfl,rfl,rfl,h3,r3⟩:=trodAll_cons r2;obtain ⟨rfl,rfl,rfl⟩:=trodAll_nil r3;obtain rfl:args=#[v0,v1,v2,v3]:=by cases args;simp_all
 obtain ⟨rfl,rfl⟩:=trodVars_none hV;have hk2:Rows.uptoBulkAll [d0,d1,d2,d3]≤1048576:=of_decide_eq_true hk;simp only[Rows.uptoBulkAll] at hk2;obtain ⟨x0,o0,s0,c0⟩:=La.cD (La.fz Tryz.underlying9 (La.cT9)) h0;obtain ⟨b0,rfl⟩:=okWide_string Tryz.underlying9 (hval 0 9 v0 rfl rfl);have R0:=La.dj c0 (λ_ h=>nomatch h);obtain ⟨x1,o1,s1,c1⟩:=La.cD (La.fz Tryz.underlying9 (La.cT9)) h1;obtain ⟨b1,rfl⟩:=okWide_string Tryz.underlying9 (hval 1 9 v1 rfl rfl);have R1:=La.dj c1 (λ_ h=>nomatch h);obtain ⟨x2,o2,s2,c2⟩:=La.cD (La.fz Tryz.underlying9 (La.cT9)) h2;obtain ⟨b2,rfl⟩:=okWide_string Tryz.underlying9 (hval 2 9 v2 rfl rfl);have R2:=La.dj c2 (λ_ h=>nomatch h);obtain ⟨x3,o3,s3,c3⟩:=La.cD (La.fz Tryz.underlying9 (La.cT9)) h3;obtain ⟨b3,rfl⟩:=okWide_string Tryz.underlying9 (hval 3 9 v3 rfl rfl);have R3:=La.dj c3 (λ_ h=>nomatch h);refine (fC (La.Ag x0 x1 x2 x3 z7 z7 z7 z7) (w:=W) (vs:=[.string b0,.string b1,.string b2,.string b3]) rfl (S:=λb=>b<W.heap.size) (λj x h=>?_) (λ_ h=>h) ⟨λ_ h=>h.elim,trivial⟩).mono λe W' ⟨v,μ,S',he,hv,hf⟩=>?_
 ·rcases j with _ | _ | _ | _ | j
  ·simp only[List.getElem?_cons_zero,List.getElem?_cons_succ,Option.some.injEq] at h;subst h;exact R0
  ·simp only[List.getElem?_cons_zero,List.getElem?_cons_succ,Option.some.injEq] at h;subst h;exact R1
  ·simp only[List.getElem?_cons_zero,List.getElem?_cons_succ,Option.some.injEq] at h;subst h;exact R2
  ·simp only[List.getElem?_cons_zero,List.getElem?_cons_succ,Option.some.injEq] at h;subst h;exact R3
  ·simp at h
 subst he;obtain rfl:=hv.cS;exact ⟨_,rfl,iK La.laid La.uQ La.full (by rw[Tryz.params4];decide) rfl Tryz.underlying4 rfl hW' hf rfl rfl rfl⟩
theorem eL (os:Os):laidMet Tryz.prog Rows.topBothUptoRow.laid ((La.bY os).forCall (λ_ _=>0) ⟨#[],#[.string ⟨#[]⟩,.string ⟨#[]⟩,.string ⟨#[]⟩,.string ⟨#[]⟩],[]⟩).memory:=
 laidMet_of_run' 8 w9 w9
theorem reads (os:Os) {H:Type} (enc:TypeId×Value->H):∃places,DataW.whole enc Tryz.prog ((La.bY os).forCall (λ_ _=>0) ⟨#[],#[.string ⟨#[]⟩,.string ⟨#[]⟩,.string ⟨#[]⟩,.string ⟨#[]⟩],[]⟩).memory Tryz.f4.params.toList Rows.topBothSpec.vars false (#[.string ⟨#[]⟩,.string ⟨#[]⟩,.string ⟨#[]⟩,.string ⟨#[]⟩]:Array Value).toList 8=some ([.lit (.string []),.lit (.string []),.lit (.string []),.lit (.string [])],[],places):=
 ⟨[],by kernel_rfl⟩
theorem lifted (os:Os) (started:os.Started) (H:Type) (enc:TypeId×Value->H) (F:Stop.Interp) :
  ReturnsInHanded {} Tryz.checked os 4 .any ((Rows.OpenSpec.upto Rows.topBothSpec).preRow enc Tryz.prog Tryz.f4 Rows.topBothUptoRow.domain false Rows.topBothUptoRow.laid) (((Rows.OpenSpec.upto Rows.topBothSpec).at F).post enc Tryz.prog Tryz.f4 false true false false):=by
 obtain ⟨places,hx⟩:=reads os enc;refine returnsInHanded_of_row (C:=Tryz.checked) (s:=Rows.OpenSpec.upto Rows.topBothSpec) La.own started w9 Tryz.func4
  (witness_row_at (enc:=enc) (C:=Tryz.checked) false (La.bY os) #[.string ⟨#[]⟩,.string ⟨#[]⟩,.string ⟨#[]⟩,.string ⟨#[]⟩] rfl w9 w9 w9
   (OpenSpec.preRow_of_cond 8 hx w9 (λk hk=>by cases hk;kernel_rfl) w9 (eL os))) ?_
 intro W base args ds gs before hval hW _ hk _ hL hsh _;exact eI H enc W base args ds gs before hval hW (hk _ rfl) hL hsh
theorem over:Rows.topBothUptoRow.holds Tryz.pinned (Rows.OpenSpec.upto Rows.topBothSpec):=
 OpenClaim.holds_of_cond 4 Tryz.f4 rfl rfl rfl rfl rfl rfl rfl ⟨rfl,rfl,rfl,rfl,rfl⟩ rfl rfl rfl rfl rfl w9 Tryz.func4 w9
  (of_decide_eq_true w9) k8
  (λos started H enc _ F=>by rw[OpenClaim.pre_eq_preRow];exact lifted os started H enc F)
theorem plain (f:FuncId) (fn:Func) (hf:Tryz.pinned.checked.prog.funcNamed "longabsence/latop.TopBoth" = some f) (hfn:Tryz.pinned.checked.prog.funcs[f]? = some fn) :
  false=Tryz.pinned.checked.prog.looks []/\∀(j:Nat) t,fn.params[j]? = some t->Tryz.pinned.checked.prog.wantsStandIn t=false:=by
 obtain rfl:f=4:=Wr ((show Tryz.prog.funcNamed "longabsence/latop.TopBoth" = some 4 by kernel_rfl).symm.trans hf) |>.symm
 obtain rfl:fn=Tryz.f4:=(Wr (Tryz.func4.symm.trans hfn)).symm;refine ⟨by kernel_rfl,λj t ht=>?_⟩;rw[Tryz.params4] at ht
 rcases j with _ | _ | _ | _ | j
 ·obtain rfl:t=9:=by simpa using ht.symm
  exact (show Tryz.prog.wantsStandIn 9=false by kernel_rfl)
 ·obtain rfl:t=9:=by simpa using ht.symm
  exact (show Tryz.prog.wantsStandIn 9=false by kernel_rfl)
 ·obtain rfl:t=9:=by simpa using ht.symm
  exact (show Tryz.prog.wantsStandIn 9=false by kernel_rfl)
 ·obtain rfl:t=9:=by simpa using ht.symm
  exact (show Tryz.prog.wantsStandIn 9=false by kernel_rfl)
 ·simp at ht
theorem proved:Rows.TopBothUptoCardSaid:=
 Claim7.holds_tied_plain_at .later [] _ _ _ _ over (λ_ h=>by cases h) w9 (λ_ h=>by cases h) topBothUpto_row_tie rfl ⟨rfl,rfl⟩ w9 rfl plain w9
end Go.Proofs.YtmcfbfdonjllaaaGreatDoor.topBoth
