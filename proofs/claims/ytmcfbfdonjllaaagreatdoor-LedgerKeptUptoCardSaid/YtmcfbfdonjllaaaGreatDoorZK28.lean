/- The law LedgerKept is true of the program: its card LedgerKeptUptoCardSaid. No condition. -/
import Derived.Test.YtmcfbfdonjllaaaGreatDoorZK27
set_option maxRecDepth 10000
set_option maxHeartbeats 4000000
set_option linter.unusedSimpArgs false
set_option linter.unusedVariables false
namespace Go.Proofs.YtmcfbfdonjllaaaGreatDoor.ledgerKept
open Go Go.ChangeShapes Go.WideShapes Go.ChangeAt Go.RowKit Go.Eng
theorem BE (H:Type) (enc:TypeId×Value->H) (W:World) (base:Nat) (args:Array Value) (ds gs:List (DataW H)) (before:List MemPlace)
  (hval:∀(j:Nat) t v,Tryz.f9.params[j]? = some t->args[j]? = some v->Value.okWide Tryz.prog W .any base t v)
  (hW:DataW.Whole enc Tryz.prog Tryz.f9.params.toList Rows.ledgerKeptSpec.vars false W args.toList ds gs before) (hk:Rows.uptoSmall H (ds++gs)=true)
  (hL:laidMetH Tryz.prog Rows.ledgerKeptUptoRow.laid W) (hshp:W.ShapedOpen Tryz.prog) :
  Calls Tryz.prog 9 args W λe W'=>∃v,e=.returned v/\Rows.ledgerKeptSpec.post enc Tryz.prog Tryz.f9 false true false false W args v W':=by
 have hW':=hW;obtain ⟨p,q,hA0,hV,rfl,hfz,hnd⟩:=hW;have hA:DataW.TrodAll enc Tryz.prog W 0 (λ_=>true) true Tryz.f9.params.toList args.toList ds p:=hA0;rw[Tryz.params9] at hA hval;obtain ⟨v0,vs0,d0,ds0,p0,q0,hargs,rfl,rfl,h0,r0⟩:=trodAll_cons hA;obtain ⟨v1,vs1,d1,ds1,p1,q1,rfl,rfl,rfl,h1,r1⟩:=trodAll_cons r0;obtain ⟨v2,vs2,d2,ds2,p2,q2,rfl,rfl,rfl,h2,r2⟩:=trodAll_cons r1;obtain ⟨rfl,rfl,rfl⟩:=trodAll_nil r2;obtain rfl:args=#[v0,v1,v2]:=by cases args;simp_all
 obtain ⟨rfl,rfl⟩:=trodVars_none hV;have hk2:Rows.uptoBulkAll [d0,d1,d2]≤1048576:=of_decide_eq_true hk;simp only[Rows.uptoBulkAll] at hk2;obtain ⟨x0,o0,s0,c0⟩:=La.qR (La.CV) h0;obtain ⟨a0,len0,cap0,rfl⟩:=okWide_slice Tryz.underlying40 (hval 0 40 v0 rfl rfl);have R0:=La.ud c0 (λ_ h=>nomatch h);obtain ⟨x1,o1,s1,c1⟩:=La.qR (La.AJ) h1;obtain ⟨a1,len1,cap1,rfl⟩:=okWide_slice Tryz.underlying28 (hval 1 28 v1 rfl rfl);have R1:=La.ud c1 (λ_ h=>nomatch h);obtain ⟨x2,o2,s2,c2⟩:=La.qR (La.wu 3 Tryz.underlying3 rfl) h2;obtain ⟨b2,rfl⟩:=okWide_int Tryz.underlying3 (hval 2 3 v2 rfl rfl);have R2:=La.ud c2 (λ_ h=>nomatch h);refine (uG (La.Dg x0 x1 x2 (La.Cc z7) (La.C' z7)) (w:=W) (vs:=[.slice a0 len0 cap0,.slice a1 len1 cap1,.int .i64 b2]) rfl (S:=λb=>b<W.heap.size) (λj x h=>?_) (λ_ h=>h) ⟨λ_ h=>h.elim,trivial⟩).mono λe W' ⟨v,μ,S',he,hv,hf⟩=>?_
 ·rcases j with _ | _ | _ | j
  ·simp only[List.getElem?_cons_zero,List.getElem?_cons_succ,Option.some.injEq] at h;subst h;exact R0
  ·simp only[List.getElem?_cons_zero,List.getElem?_cons_succ,Option.some.injEq] at h;subst h;exact R1
  ·simp only[List.getElem?_cons_zero,List.getElem?_cons_succ,Option.some.injEq] at h;subst h;exact R2
  ·simp at h
 subst he;obtain rfl:=hv.dj;exact ⟨_,rfl,AD La.laid La.HN La.full (by rw[Tryz.params9];decide) rfl Tryz.underlying4 rfl hW' hf rfl rfl rfl⟩
theorem Cl (os:Os):laidMet Tryz.prog Rows.ledgerKeptUptoRow.laid ((La.nQ os).forCall (λ_ _=>0) ⟨#[],#[.slice none 0 0,.slice none 0 0,.int .i64 0],[]⟩).memory:=
 laidMet_of_run' 8 w8 w8
theorem reads (os:Os) {H:Type} (enc:TypeId×Value->H):∃places,DataW.whole enc Tryz.prog ((La.nQ os).forCall (λ_ _=>0) ⟨#[],#[.slice none 0 0,.slice none 0 0,.int .i64 0],[]⟩).memory Tryz.f9.params.toList Rows.ledgerKeptSpec.vars false (#[.slice none 0 0,.slice none 0 0,.int .i64 0]:Array Value).toList 8=some ([.nil,.nil,.lit (.int .i64 0)],[],places):=
 ⟨[],by kernel_rfl⟩
theorem lifted (os:Os) (started:os.Started) (H:Type) (enc:TypeId×Value->H) (F:Stop.Interp) :
  ReturnsInHanded {} Tryz.checked os 9 .any ((Rows.OpenSpec.upto Rows.ledgerKeptSpec).preRow enc Tryz.prog Tryz.f9 Rows.ledgerKeptUptoRow.domain false Rows.ledgerKeptUptoRow.laid) (((Rows.OpenSpec.upto Rows.ledgerKeptSpec).at F).post enc Tryz.prog Tryz.f9 false true false false):=by
 obtain ⟨places,hx⟩:=reads os enc;refine returnsInHanded_of_row (C:=Tryz.checked) (s:=Rows.OpenSpec.upto Rows.ledgerKeptSpec) La.own started w8 Tryz.func9
  (witness_row_at (enc:=enc) (C:=Tryz.checked) false (La.nQ os) #[.slice none 0 0,.slice none 0 0,.int .i64 0] rfl w8 w8 w8
   (OpenSpec.preRow_of_cond 8 hx w8 (λk hk=>by cases hk;kernel_rfl) w8 (Cl os))) ?_
 intro W base args ds gs before hval hW _ hk _ hL hsh _;exact BE H enc W base args ds gs before hval hW (hk _ rfl) hL hsh
theorem HT {a b:Bool} (h:a=true) (k:b=true):(a&&b)=true:=by rw[h,k];rfl
theorem c1:(Rows.ledgerKeptUptoRow.inPlace==Tryz.pinned.checked.prog.inPlace 9)=true:=by kernel_rfl
theorem c2:(Rows.ledgerKeptUptoRow.unfollowed==Tryz.pinned.checked.prog.unfollowed 9)=true:=by kernel_rfl
theorem c3:(Rows.ledgerKeptUptoRow.recurses==Tryz.pinned.checked.prog.recurses 9)=true:=by kernel_rfl
theorem c4:(Rows.ledgerKeptUptoRow.named==Tryz.pinned.checked.prog.varsNamed 9)=true:=by kernel_rfl
theorem closed:joinedFacts Tryz.pinned.checked.prog 9 Tryz.f9 (Rows.OpenSpec.upto Rows.ledgerKeptSpec).bare Rows.ledgerKeptUptoRow=true:=by
 unfold joinedFacts
 repeat' with_reducible refine HT ?_ ?_
 all_goals first | with_reducible exact c1 | with_reducible exact c2 | with_reducible exact c3 | with_reducible exact c4 | kernel_rfl
theorem over:Rows.ledgerKeptUptoRow.holds Tryz.pinned (Rows.OpenSpec.upto Rows.ledgerKeptSpec):=
 OpenClaim.holds_of_cond 9 Tryz.f9 rfl rfl rfl rfl rfl rfl rfl ⟨rfl,rfl,rfl,rfl,rfl⟩ rfl rfl rfl rfl rfl w8 Tryz.func9 closed
  (of_decide_eq_true w8) (by unfold Func.isWrapper;first | (rw[if_pos (by decide +kernel)];kernel_rfl) | (rw[if_neg (by decide +kernel)];exact ⟨rfl,rfl⟩))
  (λos started H enc _ F=>by rw[OpenClaim.pre_eq_preRow];exact lifted os started H enc F)
theorem plain (f:FuncId) (fn:Func) (hf:Tryz.pinned.checked.prog.funcNamed "longabsence/lalaw12.LedgerKept" = some f) (hfn:Tryz.pinned.checked.prog.funcs[f]? = some fn) :
  false=Tryz.pinned.checked.prog.looks []/\∀(j:Nat) t,fn.params[j]? = some t->Tryz.pinned.checked.prog.wantsStandIn t=false:=by
 obtain rfl:f=9:=Option.some.inj ((show Tryz.prog.funcNamed "longabsence/lalaw12.LedgerKept" = some 9 by kernel_rfl).symm.trans hf) |>.symm
 obtain rfl:fn=Tryz.f9:=(Option.some.inj (Tryz.func9.symm.trans hfn)).symm;refine ⟨by kernel_rfl,λj t ht=>?_⟩;rw[Tryz.params9] at ht
 rcases j with _ | _ | _ | j
 ·obtain rfl:t=40:=by simpa using ht.symm
  exact (show Tryz.prog.wantsStandIn 40=false by kernel_rfl)
 ·obtain rfl:t=28:=by simpa using ht.symm
  exact (show Tryz.prog.wantsStandIn 28=false by kernel_rfl)
 ·obtain rfl:t=3:=by simpa using ht.symm
  exact (show Tryz.prog.wantsStandIn 3=false by kernel_rfl)
 ·simp at ht
theorem proved:Rows.LedgerKeptUptoCardSaid:=
 Claim7.holds_tied_plain_at .later [] _ _ _ _ over (λ_ h=>by cases h) w8 (λ_ h=>by cases h) ledgerKeptUpto_row_tie rfl ⟨rfl,rfl⟩ w8 rfl plain w8
end Go.Proofs.YtmcfbfdonjllaaaGreatDoor.ledgerKept
