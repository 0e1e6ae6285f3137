/- The law LedgerNone is true of the program: its card LedgerNoneUptoCardSaid. No condition. -/
import Derived.Test.YtmcfbfdonjllaaaGreatDoorZP39
set_option maxRecDepth 10000
set_option maxHeartbeats 4000000
set_option linter.unusedSimpArgs false
set_option linter.unusedVariables false
namespace Go.Proofs.YtmcfbfdonjllaaaGreatDoor.ledgerNone
open Go Go.ChangeShapes Go.WideShapes Go.ChangeAt Go.RowKit Go.Eng
theorem Fj (H:Type) (enc:TypeId×Value->H) (W:World) (base:Nat) (args:Array Value) (ds gs:List (DataW H)) (before:List MemPlace)
  (hval:∀(j:Nat) t v,Tryz.f10.params[j]? = some t->args[j]? = some v->Value.okWide Tryz.prog W .any base t v)
  (hW:DataW.Whole enc Tryz.prog Tryz.f10.params.toList Rows.ledgerNoneSpec.vars false W args.toList ds gs before) (hk:Rows.uptoSmall H (ds++gs)=true)
  (hL:laidMetH Tryz.prog Rows.ledgerNoneUptoRow.laid W) (hshp:W.ShapedOpen Tryz.prog) :
  Calls Tryz.prog 10 args W λe W'=>∃v,e=.returned v/\Rows.ledgerNoneSpec.post enc Tryz.prog Tryz.f10 false true false false W args v W':=by
 have hW':=hW;obtain ⟨p,q,hA0,hV,rfl,hfz,hnd⟩:=hW;have hA:DataW.TrodAll enc Tryz.prog W 0 (λ_=>true) true Tryz.f10.params.toList args.toList ds p:=hA0;rw[Tryz.params10] at hA hval;obtain ⟨v0,vs0,d0,ds0,p0,q0,hargs,rfl,rfl,h0,r0⟩:=trodAll_cons hA;obtain ⟨v1,vs1,d1,ds1,p1,q1,rfl,rfl,rfl,h1,r1⟩:=trodAll_cons r0;obtain ⟨rfl,rfl,rfl⟩:=trodAll_nil r1;obtain rfl:args=#[v0,v1]:=by cases args;simp_all
 obtain ⟨rfl,rfl⟩:=trodVars_none hV;have hk2:Rows.uptoBulkAll [d0,d1]<=1048576:=of_decide_eq_true hk;simp only[Rows.uptoBulkAll] at hk2;obtain ⟨x0,o0,s0,c0⟩:=La.Ai (La.GF) h0;obtain ⟨a0,len0,cap0,rfl⟩:=okWide_slice Tryz.underlying40 (hval 0 40 v0 rfl rfl);have R0:=La.CY c0 (λ_ h=>nomatch h);obtain ⟨x1,o1,s1,c1⟩:=La.Ai (La.Ee) h1;obtain ⟨a1,len1,cap1,rfl⟩:=okWide_slice Tryz.underlying28 (hval 1 28 v1 rfl rfl);have R1:=La.CY c1 (λ_ h=>nomatch h);refine (yz (La.G7 x0 x1 (La.FW z8) (La.G2 z8)) (w:=W) (vs:=[.slice a0 len0 cap0,.slice a1 len1 cap1]) rfl (S:=λb=>b<W.heap.size) (λj x h=>?_) (λ_ h=>h) ⟨λ_ h=>h.elim,trivial⟩).mono λe W' ⟨v,μ,S',he,hv,hf⟩=>?_
 ·rcases j with _ | _ | j
  ·simp only[List.getElem?_cons_zero,List.getElem?_cons_succ,gL] at h;subst h;exact R0
  ·simp only[List.getElem?_cons_zero,List.getElem?_cons_succ,gL] at h;subst h;exact R1
  ·simp at h
 subst he;obtain rfl:=hv.eQ;exact ⟨_,rfl,D8 La.laid La.Mj La.full (by rw[Tryz.params10];decide) rfl Tryz.underlying4 rfl hW' hf rfl rfl rfl⟩
theorem F4 (os:Os):laidMet Tryz.prog Rows.ledgerNoneUptoRow.laid ((La.qG os).forCall (λ_ _=>0) ⟨#[],#[.slice none 0 0,.slice none 0 0],[]⟩).memory:=
 laidMet_of_run' 8 w9 w9
theorem reads (os:Os) {H:Type} (enc:TypeId×Value->H):∃places,DataW.whole enc Tryz.prog ((La.qG os).forCall (λ_ _=>0) ⟨#[],#[.slice none 0 0,.slice none 0 0],[]⟩).memory Tryz.f10.params.toList Rows.ledgerNoneSpec.vars false (#[.slice none 0 0,.slice none 0 0]:Array Value).toList 8=some ([.nil,.nil],[],places):=
 ⟨[],by kernel_rfl⟩
theorem lifted (os:Os) (started:os.Started) (H:Type) (enc:TypeId×Value->H) (F:Stop.Interp) :
  ReturnsInHanded {} Tryz.checked os 10 .any ((Rows.OpenSpec.upto Rows.ledgerNoneSpec).preRow enc Tryz.prog Tryz.f10 Rows.ledgerNoneUptoRow.domain false Rows.ledgerNoneUptoRow.laid) (((Rows.OpenSpec.upto Rows.ledgerNoneSpec).at F).post enc Tryz.prog Tryz.f10 false true false false):=by
 obtain ⟨places,hx⟩:=reads os enc;refine returnsInHanded_of_row (C:=Tryz.checked) (s:=Rows.OpenSpec.upto Rows.ledgerNoneSpec) La.own started w9 Tryz.func10
  (witness_row_at (enc:=enc) (C:=Tryz.checked) false (La.qG os) #[.slice none 0 0,.slice none 0 0] rfl w9 w9 w9
   (OpenSpec.preRow_of_cond 8 hx w9 (λk hk=>by cases hk;kernel_rfl) w9 (F4 os))) ?_
 intro W base args ds gs before hval hW _ hk _ hL hsh _;exact Fj H enc W base args ds gs before hval hW (hk _ rfl) hL hsh
theorem Mq {a b:Bool} (h:a=true) (k:b=true):(a&&b)=true:=by rw[h,k];rfl
theorem c1:(Rows.ledgerNoneUptoRow.inPlace==Tryz.pinned.checked.prog.inPlace 10)=true:=by kernel_rfl
theorem c2:(Rows.ledgerNoneUptoRow.unfollowed==Tryz.pinned.checked.prog.unfollowed 10)=true:=by kernel_rfl
theorem c3:(Rows.ledgerNoneUptoRow.recurses==Tryz.pinned.checked.prog.recurses 10)=true:=by kernel_rfl
theorem c4:(Rows.ledgerNoneUptoRow.named==Tryz.pinned.checked.prog.varsNamed 10)=true:=by kernel_rfl
theorem closed:joinedFacts Tryz.pinned.checked.prog 10 Tryz.f10 (Rows.OpenSpec.upto Rows.ledgerNoneSpec).bare Rows.ledgerNoneUptoRow=true:=by
 unfold joinedFacts
 repeat' with_reducible refine Mq ?_ ?_
 all_goals first | with_reducible exact c1 | with_reducible exact c2 | with_reducible exact c3 | with_reducible exact c4 | kernel_rfl
theorem over:Rows.ledgerNoneUptoRow.holds Tryz.pinned (Rows.OpenSpec.upto Rows.ledgerNoneSpec):=
 OpenClaim.holds_of_cond 10 Tryz.f10 rfl rfl rfl rfl rfl rfl rfl ⟨rfl,rfl,rfl,rfl,rfl⟩ rfl rfl rfl rfl rfl w9 Tryz.func10 closed
  (of_decide_eq_true w9) (by unfold Func.isWrapper;first | (rw[if_pos (by decide +kernel)];kernel_rfl) | (rw[if_neg (by decide +kernel)];exact ⟨rfl,rfl⟩))
  (λos started H enc _ F=>by rw[OpenClaim.pre_eq_preRow];exact lifted os started H enc F)
theorem plain (f:FuncId) (fn:Func) (hf:Tryz.pinned.checked.prog.funcNamed "longabsence/lalaw12.LedgerNone" = some f) (hfn:Tryz.pinned.checked.prog.funcs[f]? = some fn) :
  false=Tryz.pinned.checked.prog.looks []/\∀(j:Nat) t,fn.params[j]? = some t->Tryz.pinned.checked.prog.wantsStandIn t=false:=by
 obtain rfl:f=10:=Option.some.inj ((show Tryz.prog.funcNamed "longabsence/lalaw12.LedgerNone" = some 10 by kernel_rfl).symm.trans hf) |>.symm
 obtain rfl:fn=Tryz.f10:=(Option.some.inj (Tryz.func10.symm.trans hfn)).symm;refine ⟨by kernel_rfl,λj t ht=>?_⟩;rw[Tryz.params10] at ht
 rcases j with _ | _ | j
 ·obtain rfl:t=40:=by simpa using ht.symm
  exact (show Tryz.prog.wantsStandIn 40=false by kernel_rfl)
 ·obtain rfl:t=28:=by simpa using ht.symm
  exact (show Tryz.prog.wantsStandIn 28=false by kernel_rfl)
 ·simp at ht
theorem proved:Rows.LedgerNoneUptoCardSaid:=
 Claim7.holds_tied_plain_at .later [] _ _ _ _ over (λ_ h=>by cases h) w9 (λ_ h=>by cases h) ledgerNoneUpto_row_tie rfl ⟨rfl,rfl⟩ w9 rfl plain w9
end Go.Proofs.YtmcfbfdonjllaaaGreatDoor.ledgerNone
