/- The law ClientOwn is true of the program: its card ClientOwnUptoCardSaid. No condition. -/
import Derived.Test.YtdcmhdkpfllnlaaGreatDoorYC38
set_option maxRecDepth 10000
set_option maxHeartbeats 4000000
set_option linter.unusedSimpArgs false
set_option linter.unusedVariables false
namespace Go.Proofs.YtdcmhdkpfllnlaaGreatDoor.clientOwn
open Go Go.ChangeShapes Go.WideShapes Go.ChangeAt Go.RowKit Go.Eng
theorem jd (H:Type) (enc:TypeId×Value->H) (W:World) (base:Nat) (args:Array Value) (ds gs:List (DataW H)) (before:List MemPlace)
  (hval:∀(j:Nat) t v,Tryz.f5.params[j]? = some t->args[j]? = some v->Value.okWide Tryz.prog W .any base t v)
  (hW:DataW.Whole enc Tryz.prog Tryz.f5.params.toList Rows.clientOwnSpec.vars false W args.toList ds gs before) (hk:Rows.uptoSmall H (ds++gs)=true)
  (hL:laidMetH Tryz.prog Rows.clientOwnUptoRow.laid W) (hshp:W.ShapedOpen Tryz.prog) :
  Calls Tryz.prog 5 args W λe W'=>∃v,e=.returned v/\Rows.clientOwnSpec.post enc Tryz.prog Tryz.f5 false true false false W args v W':=by
 have hW':=hW;obtain ⟨p,q,hA0,hV,rfl,hfz,hnd⟩:=hW;have hA:DataW.TrodAll enc Tryz.prog W 0 (λ_=>true) true Tryz.f5.params.toList args.toList ds p:=hA0;rw[Tryz.params5] at hA hval;obtain ⟨v0,vs0,d0,ds0,p0,q0,hargs,rfl,rfl,h0,r0⟩:=trodAll_cons hA;obtain ⟨v1,vs1,d1,ds1,p1,q1,rfl,rfl,rfl,h1,r1⟩:=trodAll_cons r0;obtain ⟨v2,vs2,d2,ds2,p2,q2,rfl,rfl,rfl,h2,r2⟩:=trodAll_cons r1;obtain ⟨v3,vs3,d3,ds3,p3,q3,rfl,rfl,rfl,h3,r3⟩:=trodAll_cons r2;obtain ⟨v4,vs4,d4,ds4,p4,q4,rfl,rfl,rfl,h4,r4⟩:=trodAll_cons r3;obtain ⟨rfl,rfl,rfl⟩:=trodAll_nil r4;obtain rfl:args=#[v0,v1,v2,v3,v4]:=by cases args;simp_all
 obtain ⟨rfl,rfl⟩:=trodVars_none hV;have hk2:Rows.uptoBulkAll [d0,d1,d2,d3,d4]≤1048576:=of_decide_eq_true hk;simp only[Rows.uptoBulkAll] at hk2;obtain ⟨x0,o0,s0,c0⟩:=La.c_ (La.pd) h0;obtain ⟨a0,len0,cap0,rfl⟩:=okWide_slice Tryz.underlying22 (hval 0 22 v0 rfl rfl);have R0:=La.eJ c0 (λ_ h=>nomatch h);obtain ⟨x1,o1,s1,c1⟩:=La.c_ (La.np) h1;obtain ⟨a1,len1,cap1,rfl⟩:=okWide_slice Tryz.underlying23 (hval 1 23 v1 rfl rfl);have R1:=La.eJ c1 (λ_ h=>nomatch h);obtain ⟨x2,o2,s2,c2⟩:=La.c_ (La.tk 3 Tryz.underlying3 rfl) h2;obtain ⟨b2,rfl⟩:=okWide_int Tryz.underlying3 (hval 2 3 v2 rfl rfl);have R2:=La.eJ c2 (λ_ h=>nomatch h);obtain ⟨x3,o3,s3,c3⟩:=La.c_ (La.rR Tryz.underlying9 (La.cT9)) h3;obtain ⟨b3,rfl⟩:=okWide_string Tryz.underlying9 (hval 3 9 v3 rfl rfl);have R3:=La.eJ c3 (λ_ h=>nomatch h);obtain ⟨x4,o4,s4,c4⟩:=La.c_ (La.ve) h4;obtain ⟨a4,len4,cap4,rfl⟩:=okWide_slice Tryz.underlying24 (hval 4 24 v4 rfl rfl);have R4:=La.eJ c4 (λ_ h=>nomatch h);refine (jw (La.Cl x0 x1 x2 x3 x4 (La.oH z8) (La.pr z8) z8) (w:=W) (vs:=[.slice a0 len0 cap0,.slice a1 len1 cap1,.int .i64 b2,.string b3,.slice a4 len4 cap4]) rfl (S:=λb=>b<W.heap.size) (λj x h=>?_) (λ_ h=>h) ⟨λ_ h=>h.elim,trivial⟩).mono λe W' ⟨v,μ,S',he,hv,hf⟩=>?_
 ·rcases j with _ | _ | _ | _ | _ | j
  ·simp only[List.getElem?_cons_zero,List.getElem?_cons_succ,Option.some.injEq] at h;subst h;exact R0
  ·simp only[List.getElem?_cons_zero,List.getElem?_cons_succ,Option.some.injEq] at h;subst h;exact R1
  ·simp only[List.getElem?_cons_zero,List.getElem?_cons_succ,Option.some.injEq] at h;subst h;exact R2
  ·simp only[List.getElem?_cons_zero,List.getElem?_cons_succ,Option.some.injEq] at h;subst h;exact R3
  ·simp only[List.getElem?_cons_zero,List.getElem?_cons_succ,Option.some.injEq] at h;subst h;exact R4
  ·simp at h
 subst he;obtain rfl:=hv.dn;exact ⟨_,rfl,ni La.laid La.B8 La.full (by rw[Tryz.params5];decide) rfl Tryz.underlying4 rfl hW' hf rfl rfl rfl⟩
theorem jg (os:Os):laidMet Tryz.prog Rows.clientOwnUptoRow.laid ((La.dh os).forCall (λ_ _=>0) ⟨#[],#[.slice none 0 0,.slice none 0 0,.int .i64 0,.string ⟨#[]⟩,.slice none 0 0],[]⟩).memory:=
 laidMet_of_run' 8 w4 w4
theorem reads (os:Os) {H:Type} (enc:TypeId×Value->H):∃places,DataW.whole enc Tryz.prog ((La.dh os).forCall (λ_ _=>0) ⟨#[],#[.slice none 0 0,.slice none 0 0,.int .i64 0,.string ⟨#[]⟩,.slice none 0 0],[]⟩).memory Tryz.f5.params.toList Rows.clientOwnSpec.vars false (#[.slice none 0 0,.slice none 0 0,.int .i64 0,.string ⟨#[]⟩,.slice none 0 0]:Array Value).toList 8=some ([.nil,.nil,.lit (.int .i64 0),.lit (.string []),.nil],[],places):=
 ⟨[],by kernel_rfl⟩
theorem lifted (os:Os) (started:os.Started) (H:Type) (enc:TypeId×Value->H) (F:Stop.Interp) :
  ReturnsInHanded {} Tryz.checked os 5 .any ((Rows.OpenSpec.upto Rows.clientOwnSpec).preRow enc Tryz.prog Tryz.f5 Rows.clientOwnUptoRow.domain false Rows.clientOwnUptoRow.laid) (((Rows.OpenSpec.upto Rows.clientOwnSpec).at F).post enc Tryz.prog Tryz.f5 false true false false):=by
 obtain ⟨places,hx⟩:=reads os enc;refine returnsInHanded_of_row (C:=Tryz.checked) (s:=Rows.OpenSpec.upto Rows.clientOwnSpec) La.own started w4 Tryz.func5
  (witness_row_at (enc:=enc) (C:=Tryz.checked) false (La.dh os) #[.slice none 0 0,.slice none 0 0,.int .i64 0,.string ⟨#[]⟩,.slice none 0 0] rfl w4 w4 w4
   (OpenSpec.preRow_of_cond 8 hx w4 (λk hk=>by cases hk;kernel_rfl) w4 (jg os))) ?_
 intro W base args ds gs before hval hW _ hk _ hL hsh _;exact jd H enc W base args ds gs before hval hW (hk _ rfl) hL hsh
theorem over:Rows.clientOwnUptoRow.holds Tryz.pinned (Rows.OpenSpec.upto Rows.clientOwnSpec):=
 OpenClaim.holds_of_cond 5 Tryz.f5 rfl rfl rfl rfl rfl rfl rfl ⟨rfl,rfl,rfl,rfl,rfl⟩ rfl rfl rfl rfl rfl w4 Tryz.func5 w4
  (of_decide_eq_true w4) u4
  (λos started H enc _ F=>by rw[OpenClaim.pre_eq_preRow];exact lifted os started H enc F)
theorem plain (f:FuncId) (fn:Func) (hf:Tryz.pinned.checked.prog.funcNamed "longabsence/lalaw9.ClientOwn" = some f) (hfn:Tryz.pinned.checked.prog.funcs[f]? = some fn) :
  false=Tryz.pinned.checked.prog.looks []/\∀(j:Nat) t,fn.params[j]? = some t->Tryz.pinned.checked.prog.wantsStandIn t=false:=by
 obtain rfl:f=5:=Option.some.inj ((show Tryz.prog.funcNamed "longabsence/lalaw9.ClientOwn" = some 5 by kernel_rfl).symm.trans hf) |>.symm
 obtain rfl:fn=Tryz.f5:=(Option.some.inj (Tryz.func5.symm.trans hfn)).symm;refine ⟨by kernel_rfl,λj t ht=>?_⟩;rw[Tryz.params5] at ht
 rcases j with _ | _ | _ | _ | _ | j
 ·obtain rfl:t=22:=by simpa using ht.symm
  exact (show Tryz.prog.wantsStandIn 22=false by kernel_rfl)
 ·obtain rfl:t=23:=by simpa using ht.symm
  exact (show Tryz.prog.wantsStandIn 23=false by kernel_rfl)
 ·obtain rfl:t=3:=by simpa using ht.symm
  exact (show Tryz.prog.wantsStandIn 3=false by kernel_rfl)
 ·obtain rfl:t=9:=by simpa using ht.symm
  exact (show Tryz.prog.wantsStandIn 9=false by kernel_rfl)
 ·obtain rfl:t=24:=by simpa using ht.symm
  exact (show Tryz.prog.wantsStandIn 24=false by kernel_rfl)
 ·simp at ht
theorem proved:Rows.ClientOwnUptoCardSaid:=
 Claim7.holds_tied_plain_at .later [] _ _ _ _ over (λ_ h=>by cases h) w4 (λ_ h=>by cases h) clientOwnUpto_row_tie rfl ⟨rfl,rfl⟩ w4 rfl plain w4
end Go.Proofs.YtdcmhdkpfllnlaaGreatDoor.clientOwn
