/- Texts of this claim, part 32: WBoth. No condition. -/
import Derived.Test.YtmcfbfdonjllaaaGreatDoorYW25
import Derived.Test.YtmcfbfdonjllaaaGreatDoorYW29
set_option maxRecDepth 10000
set_option maxHeartbeats 4000000
set_option linter.unusedSimpArgs false
set_option linter.unusedVariables false
namespace La
open Go Go.Eng Go.Proofs
theorem Ag (p q a b:List UInt8) (hp:p.length≤100000000) (hq:q.length≤100000000) (ha:a.length≤100000000) (hb:b.length≤100000000):ag Tryz.prog 4 [.str p,.str q,.str a,.str b] [] (λr _=>r=.bool true):=by
 have hwp:=rP p hp;have hwq:=rP q hq;have s0:ag Tryz.prog 15 [.int .i64 0,.int .i64 2,.str [47],.str []] [] (λr _=>r=.agg (ZX (ja 0))):=aV 0 2 [47] [];have s1:ag Tryz.prog 15 [.int .i64 1,.int .i64 2,.str [47],.str []] [] (λr _=>r=.agg (ZX (ja 1))):=aV 1 2 [47] [];have s2:ag Tryz.prog 15 [.int .i64 0,.int .i64 7,.str [],.str []] [] (λr _=>r=.agg (ZX (eH 0))):=aV 0 7 [] [];have s3:ag Tryz.prog 15 [.int .i64 1,.int .i64 7,.str [],.str []] [] (λr _=>r=.agg (ZX (eH 1))):=aV 1 7 [] [];have s4:ag Tryz.prog 15 [.int .i64 0,.int .i64 3,.str (47::p),.str a] [] (λr _=>r=.agg (ZX (wrS 0 p a))):=aV 0 3 (47::p) a;have s5:ag Tryz.prog 15 [.int .i64 1,.int .i64 3,.str (47::q),.str b] [] (λr _=>r=.agg (ZX (wrS 1 q b))):=aV 1 3 (47::q) b;have s6:ag Tryz.prog 15 [.int .i64 1,.int .i64 8,.str [],.str []] [] (λr _=>r=.agg (ZX (cx 1))):=aV 1 8 [] [];have s7:ag Tryz.prog 15 [.int .i64 0,.int .i64 8,.str [],.str []] [] (λr _=>r=.agg (ZX (cx 0))):=aV 0 8 [] [];have s8:ag Tryz.prog 15 [.int .i64 1,.int .i64 1,.str (47::p),.str []] [] (λr _=>r=.agg (ZX (rdS 1 p))):=aV 1 1 (47::p) [];have s9:ag Tryz.prog 15 [.int .i64 0,.int .i64 1,.str (47::q),.str []] [] (λr _=>r=.agg (ZX (rdS 0 q))):=aV 0 1 (47::q) [];refine ZF tK (Tryz.func4) rfl (λC=>?_);simp only[Tryz.ntmps4,Tryz.results4,go_sem];refine wG tK ?_;refine wC Tryz.func13 (hf:=(ru)) (hk:=?_);refine wG tK ?_;refine wDF (hb:=(rfl)) (hk:=?_);refine wG tK ?_;refine wC Tryz.func14 (hf:=(hwp)) (hk:=?_);refine wG tK ?_;refine wCC Tryz.func14 (hf:=λhb=>(hwq)) (hk:=?_);refine wN tK 17 ?_;refine bx 39 z6 (λc39 h39=>?_);simp only[go_sem];have hc:c39=false↔(cV p=true/\cV q=true/\p≠q/\a.length≤20/\b.length≤20):=by
  rw[←h39];simp only[Bool.cond_true_left,Bool.or_eq_false_iff,decide_eq_false_iff_not,Bool.not_eq_false',beq_eq_false_iff_ne,ne_eq];constructor
  ·rintro ⟨⟨⟨⟨h1,h2⟩,h3⟩,h4⟩,h5⟩;exact ⟨h1,h2,h3,by omega,by omega⟩
  ·rintro ⟨h1,h2,h3,h4,h5⟩;exact ⟨⟨⟨⟨h1,h2⟩,h3⟩,by omega⟩,by omega⟩
 clear h39;refine wG tK ?_;refine wD (λh=>?_) (λh=>?_)
 ·refine wG tK ?_;refine wT ?_;rfl
 obtain ⟨hwp,hwq,hne,ha,hb⟩:=hc.1 h;clear hc;have h8p:p.length≤8:=by
  unfold cV at hwp;simp only[Bool.and_eq_true,decide_eq_true_eq] at hwp;omega
 have h8q:q.length≤8:=by
  unfold cV at hwq;simp only[Bool.and_eq_true,decide_eq_true_eq] at hwq;omega
 refine wGq tK ?_ ?_
 ·simp;omega
 refine wC Tryz.func15 (hf:=(s0)) (hk:=?_);refine wG tK ?_;refine wC Tryz.func15 (hf:=(s1)) (hk:=?_);refine wG tK ?_;refine wC Tryz.func15 (hf:=(s2)) (hk:=?_);refine wG tK ?_;refine wC Tryz.func15 (hf:=(s3)) (hk:=?_);refine wG tK ?_;refine wC Tryz.func15 (hf:=(s4)) (hk:=?_);refine wG tK ?_;refine wC Tryz.func15 (hf:=(s5)) (hk:=?_);refine wG tK ?_;refine wC Tryz.func15 (hf:=(s6)) (hk:=?_);refine wG tK ?_;refine wC Tryz.func15 (hf:=(s7)) (hk:=?_);refine wG tK ?_;refine wC Tryz.func15 (hf:=(s8)) (hk:=?_);refine wG tK ?_;refine wC Tryz.func15 (hf:=(s9)) (hk:=?_);refine wGq tK ?_ ?_
 ·simp[bS]
  repeat' (first | exact bT _ | apply And.intro)
 obtain ⟨r0,r1,r2,r3,r4,r5,hrs⟩:=Df hwp hwq hne ha hb;have hpl:=gv (rooms:=[4,4]) j6 ⟨by simp,λx hx=>by
  have key:x.path.length≤9/\x.toPath.length≤9:=by
   simp only[List.mem_cons,List.not_mem_nil,or_false] at hx
   rcases hx with rfl | rfl | rfl | rfl | rfl | rfl | rfl | rfl | rfl | rfl<;>exact ⟨by simp[ja,eH,wrS,cx,rdS]<;>omega,Wg _⟩
  omega⟩ rfl y7 hrs
 generalize bO (bo [4,4]) _=W at *;unfold bI at hpl;simp only[List.map_cons,List.map_nil,ZI,ZX,ja,eH,wrS,cx,rdS] at hpl;simp only[go_sem,ZX,ja,eH,wrS,cx,rdS,List.map_nil];refine ZZ 60 rfl Qx ?_;refine ZZ 62 rfl (rfl) ?_;simp only[go_sem];refine wC Tryz.func16 (hf:=(hpl)) (hk:=?_);refine wG tK ?_ Qc Zv;refine wDF (hb:=y7) (hk:=?_);refine wGq tK ?_ ?_
 ·simp
 refine wT ?_;simp
end La
