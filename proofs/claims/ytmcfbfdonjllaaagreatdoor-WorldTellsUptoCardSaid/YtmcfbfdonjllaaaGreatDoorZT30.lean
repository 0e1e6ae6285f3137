/- The law WorldTells is true of the program: its card WorldTellsUptoCardSaid. No condition. -/
import Derived.Test.YtmcfbfdonjllaaaGreatDoorZT29
set_option maxRecDepth 10000
set_option maxHeartbeats 4000000
set_option linter.unusedSimpArgs false
set_option linter.unusedVariables false
namespace Go.Proofs.YtmcfbfdonjllaaaGreatDoor.worldTells
open Go Go.ChangeShapes Go.WideShapes Go.ChangeAt Go.RowKit Go.Eng
theorem C4 (H:Type) (enc:TypeId×Value->H) (W:World) (base:Nat) (args:Array Value) (ds gs:List (DataW H)) (before:List MemPlace)
  (hval:∀(j:Nat) t v,Tryz.f5.params[j]? = some t->args[j]? = some v->Value.okWide Tryz.prog W .any base t v)
  (hW:DataW.Whole enc Tryz.prog Tryz.f5.params.toList Rows.worldTellsSpec.vars false W args.toList ds gs before) (hk:Rows.uptoSmall H (ds++gs)=true)
  (hL:laidMetH Tryz.prog Rows.worldTellsUptoRow.laid W) (hshp:W.ShapedOpen Tryz.prog) :
  Calls Tryz.prog 5 args W λe W'=>∃v,e=.returned v/\Rows.worldTellsSpec.post enc Tryz.prog Tryz.f5 false true false false W args v W':=by
 have hW':=hW;obtain ⟨p,q,hA0,hV,rfl,hfz,hnd⟩:=hW;have hA:DataW.TrodAll enc Tryz.prog W 0 (λ_=>true) true Tryz.f5.params.toList args.toList ds p:=hA0;rw[Tryz.params5] at hA hval;obtain ⟨v0,vs0,d0,ds0,p0,q0,hargs,rfl,rfl,h0,r0⟩:=trodAll_cons hA;obtain ⟨v1,vs1,d1,ds1,p1,q1,rfl,rfl,rfl,h1,r1⟩:=trodAll_cons r0;obtain ⟨rfl,rfl,rfl⟩:=trodAll_nil r1;obtain rfl:args=#[v0,v1]:=by cases args;simp_all
 obtain ⟨rfl,rfl⟩:=trodVars_none hV;have hk2:Rows.uptoBulkAll [d0,d1]≤1048576:=of_decide_eq_true hk;simp only[Rows.uptoBulkAll] at hk2;obtain ⟨x0,o0,s0,c0⟩:=La.xW (La.D7) h0;obtain ⟨a0,len0,cap0,rfl⟩:=okWide_slice Tryz.underlying40 (hval 0 40 v0 rfl rfl);have R0:=La.A5 c0 (λ_ h=>nomatch h);obtain ⟨x1,o1,s1,c1⟩:=La.xW (La.B5) h1;obtain ⟨a1,len1,cap1,rfl⟩:=okWide_slice Tryz.underlying28 (hval 1 28 v1 rfl rfl);have R1:=La.A5 c1 (λ_ h=>nomatch h);refine (wi (La.CJ x0 x1 (La.Dz z8) (La.Ev z8)) (w:=W) (vs:=[.slice a0 len0 cap0,.slice a1 len1 cap1]) rfl (S:=λb=>b<W.heap.size) (λj x h=>?_) (λ_ h=>h) ⟨λ_ h=>h.elim,trivial⟩).mono λe W' ⟨v,μ,S',he,hv,hf⟩=>?_
 ·rcases j with _ | _ | j
  ·simp only[List.getElem?_cons_zero,List.getElem?_cons_succ,Option.some.injEq] at h;subst h;exact R0
  ·simp only[List.getElem?_cons_zero,List.getElem?_cons_succ,Option.some.injEq] at h;subst h;exact R1
  ·simp at h
 subst he;obtain rfl:=hv.eC;exact ⟨_,rfl,BY La.laid La.I7 La.full (by rw[Tryz.params5];decide) rfl Tryz.underlying4 rfl hW' hf rfl rfl rfl⟩
theorem DH (os:Os):laidMet Tryz.prog Rows.worldTellsUptoRow.laid ((La.ph os).forCall (λ_ _=>0) ⟨#[],#[.slice none 0 0,.slice none 0 0],[]⟩).memory:=
 laidMet_of_run' 8 w4 w4
theorem reads (os:Os) {H:Type} (enc:TypeId×Value->H):∃places,DataW.whole enc Tryz.prog ((La.ph os).forCall (λ_ _=>0) ⟨#[],#[.slice none 0 0,.slice none 0 0],[]⟩).memory Tryz.f5.params.toList Rows.worldTellsSpec.vars false (#[.slice none 0 0,.slice none 0 0]:Array Value).toList 8=some ([.nil,.nil],[],places):=
 ⟨[],by kernel_rfl⟩
theorem lifted (os:Os) (started:os.Started) (H:Type) (enc:TypeId×Value->H) (F:Stop.Interp) :
  ReturnsInHanded {} Tryz.checked os 5 .any ((Rows.OpenSpec.upto Rows.worldTellsSpec).preRow enc Tryz.prog Tryz.f5 Rows.worldTellsUptoRow.domain false Rows.worldTellsUptoRow.laid) (((Rows.OpenSpec.upto Rows.worldTellsSpec).at F).post enc Tryz.prog Tryz.f5 false true false false):=by
 obtain ⟨places,hx⟩:=reads os enc;refine returnsInHanded_of_row (C:=Tryz.checked) (s:=Rows.OpenSpec.upto Rows.worldTellsSpec) La.own started w4 Tryz.func5
  (witness_row_at (enc:=enc) (C:=Tryz.checked) false (La.ph os) #[.slice none 0 0,.slice none 0 0] rfl w4 w4 w4
   (OpenSpec.preRow_of_cond 8 hx w4 (λk hk=>by cases hk;kernel_rfl) w4 (DH os))) ?_
 intro W base args ds gs before hval hW _ hk _ hL hsh _;exact C4 H enc W base args ds gs before hval hW (hk _ rfl) hL hsh
theorem Ja {a b:Bool} (h:a=true) (k:b=true):(a&&b)=true:=by rw[h,k];rfl
theorem c1:(Rows.worldTellsUptoRow.inPlace==Tryz.pinned.checked.prog.inPlace 5)=true:=by kernel_rfl
theorem c2:(Rows.worldTellsUptoRow.unfollowed==Tryz.pinned.checked.prog.unfollowed 5)=true:=by kernel_rfl
theorem c3:(Rows.worldTellsUptoRow.recurses==Tryz.pinned.checked.prog.recurses 5)=true:=by kernel_rfl
theorem c4:(Rows.worldTellsUptoRow.named==Tryz.pinned.checked.prog.varsNamed 5)=true:=by kernel_rfl
theorem closed:joinedFacts Tryz.pinned.checked.prog 5 Tryz.f5 (Rows.OpenSpec.upto Rows.worldTellsSpec).bare Rows.worldTellsUptoRow=true:=by
 unfold joinedFacts
 repeat' with_reducible refine Ja ?_ ?_
 all_goals first | with_reducible exact c1 | with_reducible exact c2 | with_reducible exact c3 | with_reducible exact c4 | kernel_rfl
theorem over:Rows.worldTellsUptoRow.holds Tryz.pinned (Rows.OpenSpec.upto Rows.worldTellsSpec):=
 OpenClaim.holds_of_cond 5 Tryz.f5 rfl rfl rfl rfl rfl rfl rfl ⟨rfl,rfl,rfl,rfl,rfl⟩ rfl rfl rfl rfl rfl w4 Tryz.func5 closed
  (of_decide_eq_true w4) (by unfold Func.isWrapper;first | (rw[if_pos (by decide +kernel)];kernel_rfl) | (rw[if_neg (by decide +kernel)];exact ⟨rfl,rfl⟩))
  (λos started H enc _ F=>by rw[OpenClaim.pre_eq_preRow];exact lifted os started H enc F)
theorem plain (f:FuncId) (fn:Func) (hf:Tryz.pinned.checked.prog.funcNamed "longabsence/lalaw10.WorldTells" = some f) (hfn:Tryz.pinned.checked.prog.funcs[f]? = some fn) :
  false=Tryz.pinned.checked.prog.looks []/\∀(j:Nat) t,fn.params[j]? = some t->Tryz.pinned.checked.prog.wantsStandIn t=false:=by
 obtain rfl:f=5:=Option.some.inj ((show Tryz.prog.funcNamed "longabsence/lalaw10.WorldTells" = some 5 by kernel_rfl).symm.trans hf) |>.symm
 obtain rfl:fn=Tryz.f5:=(Option.some.inj (Tryz.func5.symm.trans hfn)).symm;refine ⟨by kernel_rfl,λj t ht=>?_⟩;rw[Tryz.params5] at ht
 rcases j with _ | _ | j
 ·obtain rfl:t=40:=by simpa using ht.symm
  exact (show Tryz.prog.wantsStandIn 40=false by kernel_rfl)
 ·obtain rfl:t=28:=by simpa using ht.symm
  exact (show Tryz.prog.wantsStandIn 28=false by kernel_rfl)
 ·simp at ht
theorem proved:Rows.WorldTellsUptoCardSaid:=
 Claim7.holds_tied_plain_at .later [] _ _ _ _ over (λ_ h=>by cases h) w4 (λ_ h=>by cases h) worldTellsUpto_row_tie rfl ⟨rfl,rfl⟩ w4 rfl plain w4
end Go.Proofs.YtmcfbfdonjllaaaGreatDoor.worldTells
