/- The law LedgerAll is true of the program: its card LedgerAllUptoCardSaid. No condition. -/
import Derived.Test.YtmcfbfdonjllaaaGreatDoorZR14
import Derived.Test.YtmcfbfdonjllaaaGreatDoorZR13
set_option maxRecDepth 10000
set_option maxHeartbeats 4000000
set_option linter.unusedSimpArgs false
set_option linter.unusedVariables false
namespace Go.Proofs.YtmcfbfdonjllaaaGreatDoor.ledgerAll
open Go Go.ChangeShapes Go.WideShapes Go.ChangeAt Go.RowKit Go.Eng
theorem FH (H:Type) (enc:TypeId×Value->H) (W:World) (base:Nat) (args:Array Value) (ds gs:List (DataW H)) (before:List MemPlace)
  (hval:∀(j:Nat) t v,Tryz.f8.params[j]? = some t->args[j]? = some v->Value.okWide Tryz.prog W .any base t v)
  (hW:DataW.Whole enc Tryz.prog Tryz.f8.params.toList Rows.ledgerAllSpec.vars false W args.toList ds gs before) (hk:Rows.uptoSmall H (ds++gs)=true)
  (hL:laidMetH Tryz.prog Rows.ledgerAllUptoRow.laid W) (hshp:W.ShapedOpen Tryz.prog) :
  Calls Tryz.prog 8 args W λe W'=>∃v,e=.returned v/\Rows.ledgerAllSpec.post enc Tryz.prog Tryz.f8 false true false false W args v W':=by
 have hW':=hW;obtain ⟨p,q,hA0,hV,rfl,hfz,hnd⟩:=hW;have hA:DataW.TrodAll enc Tryz.prog W 0 (λ_=>true) true Tryz.f8.params.toList args.toList ds p:=hA0;rw[Tryz.params8] at hA hval;obtain ⟨v0,vs0,d0,ds0,p0,q0,hargs,rfl,rfl,h0,r0⟩:=trodAll_cons hA;obtain ⟨v1,vs1,d1,ds1,p1,q1,rfl,rfl,rfl,h1,r1⟩:=trodAll_cons r0;obtain ⟨rfl,rfl,rfl⟩:=trodAll_nil r1;obtain rfl:args=#[v0,v1]:=by cases args;simp_all
 obtain ⟨rfl,rfl⟩:=trodVars_none hV;have hk2:Rows.uptoBulkAll [d0,d1]<=1048576:=of_decide_eq_true hk;simp only[Rows.uptoBulkAll] at hk2;obtain ⟨x0,o0,s0,c0⟩:=La.As (La.GY) h0;obtain ⟨a0,len0,cap0,rfl⟩:=okWide_slice Tryz.underlying40 (hval 0 40 v0 rfl rfl);have R0:=La.Dd c0 (λ_ h=>nomatch h);obtain ⟨x1,o1,s1,c1⟩:=La.As (La.Ex) h1;obtain ⟨a1,len1,cap1,rfl⟩:=okWide_slice Tryz.underlying28 (hval 1 28 v1 rfl rfl);have R1:=La.Dd c1 (λ_ h=>nomatch h);refine (yN (La.KP x0 x1 (La.Gf z8) (La.Hi z8)) (w:=W) (vs:=[.slice a0 len0 cap0,.slice a1 len1 cap1]) rfl (S:=λb=>b<W.heap.size) (λj x h=>?_) (λ_ h=>h) ⟨λ_ h=>h.elim,trivial⟩).mono λe W' ⟨v,μ,S',he,hv,hf⟩=>?_
 ·rcases j with _ | _ | j
  ·simp only[List.getElem?_cons_zero,List.getElem?_cons_succ,gL] at h;subst h;exact R0
  ·simp only[List.getElem?_cons_zero,List.getElem?_cons_succ,gL] at h;subst h;exact R1
  ·simp at h
 subst he;obtain rfl:=hv.eU;exact ⟨_,rfl,Eo La.laid La.Mt La.full (by rw[Tryz.params8];decide) rfl Tryz.underlying4 rfl hW' hf rfl rfl rfl⟩
theorem Gm (os:Os):laidMet Tryz.prog Rows.ledgerAllUptoRow.laid ((La.qE os).forCall (λ_ _=>0) ⟨#[],#[.slice none 0 0,.slice none 0 0],[]⟩).memory:=
 laidMet_of_run' 8 w9 w9
theorem reads (os:Os) {H:Type} (enc:TypeId×Value->H):∃places,DataW.whole enc Tryz.prog ((La.qE os).forCall (λ_ _=>0) ⟨#[],#[.slice none 0 0,.slice none 0 0],[]⟩).memory Tryz.f8.params.toList Rows.ledgerAllSpec.vars false (#[.slice none 0 0,.slice none 0 0]:Array Value).toList 8=some ([.nil,.nil],[],places):=
 ⟨[],by kernel_rfl⟩
theorem lifted (os:Os) (started:os.Started) (H:Type) (enc:TypeId×Value->H) (F:Stop.Interp) :
  ReturnsInHanded {} Tryz.checked os 8 .any ((Rows.OpenSpec.upto Rows.ledgerAllSpec).preRow enc Tryz.prog Tryz.f8 Rows.ledgerAllUptoRow.domain false Rows.ledgerAllUptoRow.laid) (((Rows.OpenSpec.upto Rows.ledgerAllSpec).at F).post enc Tryz.prog Tryz.f8 false true false false):=by
 obtain ⟨places,hx⟩:=reads os enc;refine returnsInHanded_of_row (C:=Tryz.checked) (s:=Rows.OpenSpec.upto Rows.ledgerAllSpec) La.own started w9 Tryz.func8
  (witness_row_at (enc:=enc) (C:=Tryz.checked) false (La.qE os) #[.slice none 0 0,.slice none 0 0] rfl w9 w9 w9
   (OpenSpec.preRow_of_cond 8 hx w9 (λk hk=>by cases hk;kernel_rfl) w9 (Gm os))) ?_
 intro W base args ds gs before hval hW _ hk _ hL hsh _;exact FH H enc W base args ds gs before hval hW (hk _ rfl) hL hsh
theorem MA {a b:Bool} (h:a=true) (k:b=true):(a&&b)=true:=by rw[h,k];rfl
theorem c1:(Rows.ledgerAllUptoRow.inPlace==Tryz.pinned.checked.prog.inPlace 8)=true:=by kernel_rfl
theorem c2:(Rows.ledgerAllUptoRow.unfollowed==Tryz.pinned.checked.prog.unfollowed 8)=true:=by kernel_rfl
theorem c3:(Rows.ledgerAllUptoRow.recurses==Tryz.pinned.checked.prog.recurses 8)=true:=by kernel_rfl
theorem c4:(Rows.ledgerAllUptoRow.named==Tryz.pinned.checked.prog.varsNamed 8)=true:=by kernel_rfl
theorem closed:joinedFacts Tryz.pinned.checked.prog 8 Tryz.f8 (Rows.OpenSpec.upto Rows.ledgerAllSpec).bare Rows.ledgerAllUptoRow=true:=by
 unfold joinedFacts
 repeat' with_reducible refine MA ?_ ?_
 all_goals first | with_reducible exact c1 | with_reducible exact c2 | with_reducible exact c3 | with_reducible exact c4 | kernel_rfl
theorem over:Rows.ledgerAllUptoRow.holds Tryz.pinned (Rows.OpenSpec.upto Rows.ledgerAllSpec):=
 OpenClaim.holds_of_cond 8 Tryz.f8 rfl rfl rfl rfl rfl rfl rfl ⟨rfl,rfl,rfl,rfl,rfl⟩ rfl rfl rfl rfl rfl w9 Tryz.func8 closed
  (of_decide_eq_true w9) (by unfold Func.isWrapper;first | (rw[if_pos (by decide +kernel)];kernel_rfl) | (rw[if_neg (by decide +kernel)];exact ⟨rfl,rfl⟩))
  (λos started H enc _ F=>by rw[OpenClaim.pre_eq_preRow];exact lifted os started H enc F)
theorem plain (f:FuncId) (fn:Func) (hf:Tryz.pinned.checked.prog.funcNamed "longabsence/lalaw12.LedgerAll" = some f) (hfn:Tryz.pinned.checked.prog.funcs[f]? = some fn) :
  false=Tryz.pinned.checked.prog.looks []/\∀(j:Nat) t,fn.params[j]? = some t->Tryz.pinned.checked.prog.wantsStandIn t=false:=by
 obtain rfl:f=8:=Option.some.inj ((show Tryz.prog.funcNamed "longabsence/lalaw12.LedgerAll" = some 8 by kernel_rfl).symm.trans hf) |>.symm
 obtain rfl:fn=Tryz.f8:=(Option.some.inj (Tryz.func8.symm.trans hfn)).symm;refine ⟨by kernel_rfl,λj t ht=>?_⟩;rw[Tryz.params8] at ht
 rcases j with _ | _ | j
 ·obtain rfl:t=40:=by simpa using ht.symm
  exact (show Tryz.prog.wantsStandIn 40=false by kernel_rfl)
 ·obtain rfl:t=28:=by simpa using ht.symm
  exact (show Tryz.prog.wantsStandIn 28=false by kernel_rfl)
 ·simp at ht
theorem proved:Rows.LedgerAllUptoCardSaid:=
 Claim7.holds_tied_plain_at .later [] _ _ _ _ over (λ_ h=>by cases h) w9 (λ_ h=>by cases h) ledgerAllUpto_row_tie rfl ⟨rfl,rfl⟩ w9 rfl plain w9
end Go.Proofs.YtmcfbfdonjllaaaGreatDoor.ledgerAll
