/- The law ClientAway is true of the program: its card ClientAwayUptoCardSaid. No condition. -/
import Derived.Test.YtdcmhdkpfllnlaaGreatDoorYC32
set_option maxRecDepth 10000
set_option maxHeartbeats 4000000
set_option linter.unusedSimpArgs false
set_option linter.unusedVariables false
namespace Go.Proofs.YtdcmhdkpfllnlaaGreatDoor.clientAway
open Go Go.ChangeShapes Go.WideShapes Go.ChangeAt Go.RowKit Go.Eng
theorem jd (H:Type) (enc:TypeId×Value->H) (W:World) (base:Nat) (args:Array Value) (ds gs:List (DataW H)) (before:List MemPlace)
  (hval:∀(j:Nat) t v,Tryz.f6.params[j]? = some t->args[j]? = some v->Value.okWide Tryz.prog W .any base t v)
  (hW:DataW.Whole enc Tryz.prog Tryz.f6.params.toList Rows.clientAwaySpec.vars false W args.toList ds gs before) (hk:Rows.uptoSmall H (ds++gs)=true)
  (hL:laidMetH Tryz.prog Rows.clientAwayUptoRow.laid W) (hshp:W.ShapedOpen Tryz.prog) :
  Calls Tryz.prog 6 args W λe W'=>∃v,e=.returned v/\Rows.clientAwaySpec.post enc Tryz.prog Tryz.f6 false true false false W args v W':=by
 have hW':=hW;obtain ⟨p,q,hA0,hV,rfl,hfz,hnd⟩:=hW;have hA:DataW.TrodAll enc Tryz.prog W 0 (λ_=>true) true Tryz.f6.params.toList args.toList ds p:=hA0;rw[Tryz.params6] at hA hval;obtain ⟨v0,vs0,d0,ds0,p0,q0,hargs,rfl,rfl,h0,r0⟩:=trodAll_cons hA;obtain ⟨v1,vs1,d1,ds1,p1,q1,rfl,rfl,rfl,h1,r1⟩:=trodAll_cons r0;obtain ⟨v2,vs2,d2,ds2,p2,q2,rfl,rfl,rfl,h2,r2⟩:=trodAll_cons r1;obtain ⟨rfl,rfl,rfl⟩:=trodAll_nil r2;obtain rfl:args=#[v0,v1,v2]:=by cases args;simp_all
 obtain ⟨rfl,rfl⟩:=trodVars_none hV;have hk2:Rows.uptoBulkAll [d0,d1,d2]≤1048576:=of_decide_eq_true hk;simp only[Rows.uptoBulkAll] at hk2;obtain ⟨x0,o0,s0,c0⟩:=La.c_ (La.pd) h0;obtain ⟨a0,len0,cap0,rfl⟩:=okWide_slice Tryz.underlying22 (hval 0 22 v0 rfl rfl);have R0:=La.eJ c0 (λ_ h=>nomatch h);obtain ⟨x1,o1,s1,c1⟩:=La.c_ (La.np) h1;obtain ⟨a1,len1,cap1,rfl⟩:=okWide_slice Tryz.underlying23 (hval 1 23 v1 rfl rfl);have R1:=La.eJ c1 (λ_ h=>nomatch h);obtain ⟨x2,o2,s2,c2⟩:=La.c_ (La.yZ) h2;obtain ⟨cs2,rfl,_⟩:=okWide_struct Tryz.underlying26 (hval 2 26 v2 rfl rfl);have R2:=La.Hm c2;refine (jw (La.zY x0 x1 x2 (La.oH z8) (La.pr z8) (La.Bh z8)) (w:=W) (vs:=[.slice a0 len0 cap0,.slice a1 len1 cap1,.agg cs2]) rfl (S:=λb=>b<W.heap.size) (λj x h=>?_) (λ_ h=>h) ⟨λ_ h=>h.elim,trivial⟩).mono λe W' ⟨v,μ,S',he,hv,hf⟩=>?_
 ·rcases j with _ | _ | _ | j
  ·simp only[List.getElem?_cons_zero,List.getElem?_cons_succ,Option.some.injEq] at h;subst h;exact R0
  ·simp only[List.getElem?_cons_zero,List.getElem?_cons_succ,Option.some.injEq] at h;subst h;exact R1
  ·simp only[List.getElem?_cons_zero,List.getElem?_cons_succ,Option.some.injEq] at h;subst h;exact R2
  ·simp at h
 subst he;obtain rfl:=hv.dn;exact ⟨_,rfl,ni La.laid La.B8 La.full (by rw[Tryz.params6];decide) rfl Tryz.underlying4 rfl hW' hf rfl rfl rfl⟩
theorem jg (os:Os):laidMet Tryz.prog Rows.clientAwayUptoRow.laid ((La.dh os).forCall (λ_ _=>0) ⟨#[],#[.slice none 0 0,.slice none 0 0,.agg #[.int .i64 0,.int .i64 0,.int .i64 0,.string ⟨#[]⟩,.string ⟨#[]⟩,.slice none 0 0]],[]⟩).memory:=
 laidMet_of_run' 8 w4 w4
theorem reads (os:Os) {H:Type} (enc:TypeId×Value->H):∃places,DataW.whole enc Tryz.prog ((La.dh os).forCall (λ_ _=>0) ⟨#[],#[.slice none 0 0,.slice none 0 0,.agg #[.int .i64 0,.int .i64 0,.int .i64 0,.string ⟨#[]⟩,.string ⟨#[]⟩,.slice none 0 0]],[]⟩).memory Tryz.f6.params.toList Rows.clientAwaySpec.vars false (#[.slice none 0 0,.slice none 0 0,.agg #[.int .i64 0,.int .i64 0,.int .i64 0,.string ⟨#[]⟩,.string ⟨#[]⟩,.slice none 0 0]]:Array Value).toList 8=some ([.nil,.nil,.agg [.lit (.int .i64 0),.lit (.int .i64 0),.lit (.int .i64 0),.lit (.string []),.lit (.string []),.nil]],[],places):=
 ⟨[],by kernel_rfl⟩
theorem lifted (os:Os) (started:os.Started) (H:Type) (enc:TypeId×Value->H) (F:Stop.Interp) :
  ReturnsInHanded {} Tryz.checked os 6 .any ((Rows.OpenSpec.upto Rows.clientAwaySpec).preRow enc Tryz.prog Tryz.f6 Rows.clientAwayUptoRow.domain false Rows.clientAwayUptoRow.laid) (((Rows.OpenSpec.upto Rows.clientAwaySpec).at F).post enc Tryz.prog Tryz.f6 false true false false):=by
 obtain ⟨places,hx⟩:=reads os enc;refine returnsInHanded_of_row (C:=Tryz.checked) (s:=Rows.OpenSpec.upto Rows.clientAwaySpec) La.own started w4 Tryz.func6
  (witness_row_at (enc:=enc) (C:=Tryz.checked) false (La.dh os) #[.slice none 0 0,.slice none 0 0,.agg #[.int .i64 0,.int .i64 0,.int .i64 0,.string ⟨#[]⟩,.string ⟨#[]⟩,.slice none 0 0]] rfl w4 w4 w4
   (OpenSpec.preRow_of_cond 8 hx w4 (λk hk=>by cases hk;kernel_rfl) w4 (jg os))) ?_
 intro W base args ds gs before hval hW _ hk _ hL hsh _;exact jd H enc W base args ds gs before hval hW (hk _ rfl) hL hsh
theorem over:Rows.clientAwayUptoRow.holds Tryz.pinned (Rows.OpenSpec.upto Rows.clientAwaySpec):=
 OpenClaim.holds_of_cond 6 Tryz.f6 rfl rfl rfl rfl rfl rfl rfl ⟨rfl,rfl,rfl,rfl,rfl⟩ rfl rfl rfl rfl rfl w4 Tryz.func6 w4
  (of_decide_eq_true w4) u4
  (λos started H enc _ F=>by rw[OpenClaim.pre_eq_preRow];exact lifted os started H enc F)
theorem plain (f:FuncId) (fn:Func) (hf:Tryz.pinned.checked.prog.funcNamed "longabsence/lalaw9.ClientAway" = some f) (hfn:Tryz.pinned.checked.prog.funcs[f]? = some fn) :
  false=Tryz.pinned.checked.prog.looks []/\∀(j:Nat) t,fn.params[j]? = some t->Tryz.pinned.checked.prog.wantsStandIn t=false:=by
 obtain rfl:f=6:=Option.some.inj ((show Tryz.prog.funcNamed "longabsence/lalaw9.ClientAway" = some 6 by kernel_rfl).symm.trans hf) |>.symm
 obtain rfl:fn=Tryz.f6:=(Option.some.inj (Tryz.func6.symm.trans hfn)).symm;refine ⟨by kernel_rfl,λj t ht=>?_⟩;rw[Tryz.params6] at ht
 rcases j with _ | _ | _ | j
 ·obtain rfl:t=22:=by simpa using ht.symm
  exact (show Tryz.prog.wantsStandIn 22=false by kernel_rfl)
 ·obtain rfl:t=23:=by simpa using ht.symm
  exact (show Tryz.prog.wantsStandIn 23=false by kernel_rfl)
 ·obtain rfl:t=26:=by simpa using ht.symm
  exact (show Tryz.prog.wantsStandIn 26=false by kernel_rfl)
 ·simp at ht
theorem proved:Rows.ClientAwayUptoCardSaid:=
 Claim7.holds_tied_plain_at .later [] _ _ _ _ over (λ_ h=>by cases h) w4 (λ_ h=>by cases h) clientAwayUpto_row_tie rfl ⟨rfl,rfl⟩ w4 rfl plain w4
end Go.Proofs.YtdcmhdkpfllnlaaGreatDoor.clientAway
