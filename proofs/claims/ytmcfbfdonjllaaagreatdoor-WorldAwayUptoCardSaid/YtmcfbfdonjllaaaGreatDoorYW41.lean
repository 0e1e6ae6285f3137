/- The law WorldAway is true of the program: its card WorldAwayUptoCardSaid. No condition. -/
import Derived.Test.YtmcfbfdonjllaaaGreatDoorYW40
import Derived.Test.YtmcfbfdonjllaaaGreatDoorYW22
set_option maxRecDepth 10000
set_option maxHeartbeats 4000000
set_option linter.unusedSimpArgs false
set_option linter.unusedVariables false
namespace Go.Proofs.YtmcfbfdonjllaaaGreatDoor.worldAway
open Go Go.ChangeShapes Go.WideShapes Go.ChangeAt Go.RowKit Go.Eng
theorem eI (H:Type) (enc:TypeId×Value->H) (W:World) (base:Nat) (args:Array Value) (ds gs:List (DataW H)) (before:List MemPlace)
  (hval:∀(j:Nat) t v,Tryz.f6.params[j]? = some t->args[j]? = some v->Value.okWide Tryz.prog W .any base t v)
  (hW:DataW.Whole enc Tryz.prog Tryz.f6.params.toList Rows.worldAwaySpec.vars false W args.toList ds gs before) (hk:Rows.uptoSmall H (ds++gs)=true)
  (hL:laidMetH Tryz.prog Rows.worldAwayUptoRow.laid W) (hshp:W.ShapedOpen Tryz.prog) :
  Calls Tryz.prog 6 args W λe W'=>∃v,e=.returned v/\Rows.worldAwaySpec.post enc Tryz.prog Tryz.f6 false true false false W args v W':=by
 have hW':=hW;obtain ⟨p,q,hA0,hV,rfl,hfz,hnd⟩:=hW;have hA:DataW.TrodAll enc Tryz.prog W 0 (λ_=>true) true Tryz.f6.params.toList args.toList ds p:=hA0;rw[Tryz.params6] at hA hval;obtain ⟨v0,vs0,d0,ds0,p0,q0,hargs,rfl,rfl,h0,r0⟩:=trodAll_cons hA;obtain ⟨rfl,rfl,rfl⟩:=trodAll_nil r0;obtain rfl:args=#[v0]:=by cases args;simp_all
 obtain ⟨rfl,rfl⟩:=trodVars_none hV;have hk2:Rows.uptoBulkAll [d0]≤1048576:=of_decide_eq_true hk;simp only[Rows.uptoBulkAll] at hk2;obtain ⟨x0,o0,s0,c0⟩:=La.cD (La.uN) h0;obtain ⟨a0,len0,cap0,rfl⟩:=okWide_slice Tryz.underlying28 (hval 0 28 v0 rfl rfl);have R0:=La.dj c0 (λ_ h=>nomatch h);refine (fC (La.E4 x0 (La.yw z7)) (w:=W) (vs:=[.slice a0 len0 cap0]) rfl (S:=λb=>b<W.heap.size) (λj x h=>?_) (λ_ h=>h) ⟨λ_ h=>h.elim,trivial⟩).mono λe W' ⟨v,μ,S',he,hv,hf⟩=>?_
 ·rcases j with _ | j
  ·simp only[List.getElem?_cons_zero,List.getElem?_cons_succ,Option.some.injEq] at h;subst h;exact R0
  ·simp at h
 subst he;obtain rfl:=hv.cS;exact ⟨_,rfl,iK La.laid La.uQ La.full (by rw[Tryz.params6];decide) rfl Tryz.underlying4 rfl hW' hf rfl rfl rfl⟩
theorem eL (os:Os):laidMet Tryz.prog Rows.worldAwayUptoRow.laid ((La.bY os).forCall (λ_ _=>0) ⟨#[],#[.slice none 0 0],[]⟩).memory:=
 laidMet_of_run' 8 w9 w9
theorem reads (os:Os) {H:Type} (enc:TypeId×Value->H):∃places,DataW.whole enc Tryz.prog ((La.bY os).forCall (λ_ _=>0) ⟨#[],#[.slice none 0 0],[]⟩).memory Tryz.f6.params.toList Rows.worldAwaySpec.vars false (#[.slice none 0 0]:Array Value).toList 8=some ([.nil],[],places):=
 ⟨[],by kernel_rfl⟩
theorem lifted (os:Os) (started:os.Started) (H:Type) (enc:TypeId×Value->H) (F:Stop.Interp) :
  ReturnsInHanded {} Tryz.checked os 6 .any ((Rows.OpenSpec.upto Rows.worldAwaySpec).preRow enc Tryz.prog Tryz.f6 Rows.worldAwayUptoRow.domain false Rows.worldAwayUptoRow.laid) (((Rows.OpenSpec.upto Rows.worldAwaySpec).at F).post enc Tryz.prog Tryz.f6 false true false false):=by
 obtain ⟨places,hx⟩:=reads os enc;refine returnsInHanded_of_row (C:=Tryz.checked) (s:=Rows.OpenSpec.upto Rows.worldAwaySpec) La.own started w9 Tryz.func6
  (witness_row_at (enc:=enc) (C:=Tryz.checked) false (La.bY os) #[.slice none 0 0] rfl w9 w9 w9
   (OpenSpec.preRow_of_cond 8 hx w9 (λk hk=>by cases hk;kernel_rfl) w9 (eL os))) ?_
 intro W base args ds gs before hval hW _ hk _ hL hsh _;exact eI H enc W base args ds gs before hval hW (hk _ rfl) hL hsh
theorem over:Rows.worldAwayUptoRow.holds Tryz.pinned (Rows.OpenSpec.upto Rows.worldAwaySpec):=
 OpenClaim.holds_of_cond 6 Tryz.f6 rfl rfl rfl rfl rfl rfl rfl ⟨rfl,rfl,rfl,rfl,rfl⟩ rfl rfl rfl rfl rfl w9 Tryz.func6 w9
  (of_decide_eq_true w9) k8
  (λos started H enc _ F=>by rw[OpenClaim.pre_eq_preRow];exact lifted os started H enc F)
theorem plain (f:FuncId) (fn:Func) (hf:Tryz.pinned.checked.prog.funcNamed "longabsence/lalaw10.WorldAway" = some f) (hfn:Tryz.pinned.checked.prog.funcs[f]? = some fn) :
  false=Tryz.pinned.checked.prog.looks []/\∀(j:Nat) t,fn.params[j]? = some t->Tryz.pinned.checked.prog.wantsStandIn t=false:=by
 obtain rfl:f=6:=Wr ((show Tryz.prog.funcNamed "longabsence/lalaw10.WorldAway" = some 6 by kernel_rfl).symm.trans hf) |>.symm
 obtain rfl:fn=Tryz.f6:=(Wr (Tryz.func6.symm.trans hfn)).symm;refine ⟨by kernel_rfl,λj t ht=>?_⟩;rw[Tryz.params6] at ht
 rcases j with _ | j
 ·obtain rfl:t=28:=by simpa using ht.symm
  exact (show Tryz.prog.wantsStandIn 28=false by kernel_rfl)
 ·simp at ht
theorem proved:Rows.WorldAwayUptoCardSaid:=
 Claim7.holds_tied_plain_at .later [] _ _ _ _ over (λ_ h=>by cases h) w9 (λ_ h=>by cases h) worldAwayUpto_row_tie rfl ⟨rfl,rfl⟩ w9 rfl plain w9
end Go.Proofs.YtmcfbfdonjllaaaGreatDoor.worldAway
