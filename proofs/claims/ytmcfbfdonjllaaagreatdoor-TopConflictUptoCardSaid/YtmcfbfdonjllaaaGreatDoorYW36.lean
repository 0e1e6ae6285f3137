/- Texts of this claim, part 36: WConf. No condition. -/
import Derived.Test.YtmcfbfdonjllaaaGreatDoorYW25
import Derived.Test.YtmcfbfdonjllaaaGreatDoorYW30
set_option maxRecDepth 10000
set_option maxHeartbeats 4000000
set_option linter.unusedSimpArgs false
set_option linter.unusedVariables false
namespace La
open Go Go.Eng Go.Proofs
theorem wE {first:Bool} {p a b:List UInt8} (hp:p.length≤8):StepsOK (lM first p a b):=⟨by unfold lM;cases first<;>simp,λx hx=>by
 have key:x.path.length≤9/\x.toPath.length≤9:=by
  have hx:x=wrS 0 p bZ\/x=rdS 0 p\/x=eH 0\/x=wrS 0 p a\/x=wrS 1 p b\/x=cx 0:=by
   unfold lM at hx;cases first<;>simp at hx<;>grind
  rcases hx with rfl | rfl | rfl | rfl | rfl | rfl<;>exact ⟨by simp[eH,wrS,cx,rdS]<;>omega,Wg _⟩
 omega⟩
theorem tl (p a b:List UInt8) (first:Bool) (hp:p.length≤100000000) (ha:a.length≤100000000) (hb:b.length≤100000000):ag Tryz.prog 3 [.str p,.str a,.str b,.bool first] [] (λr _=>r=.bool true):=by
 have hwp:=rP p hp;have s1:ag Tryz.prog 15 [.int .i64 0,.int .i64 3,.str (47::p),.str bZ] [] (λr _=>r=.agg (ZX (wrS 0 p bZ))):=aV 0 3 (47::p) bZ;have s2:ag Tryz.prog 15 [.int .i64 0,.int .i64 1,.str (47::p),.str []] [] (λr _=>r=.agg (ZX (rdS 0 p))):=aV 0 1 (47::p) [];have s3:ag Tryz.prog 15 [.int .i64 0,.int .i64 7,.str [],.str []] [] (λr _=>r=.agg (ZX (eH 0))):=aV 0 7 [] [];have s4:ag Tryz.prog 15 [.int .i64 0,.int .i64 3,.str (47::p),.str a] [] (λr _=>r=.agg (ZX (wrS 0 p a))):=aV 0 3 (47::p) a;have s5:ag Tryz.prog 15 [.int .i64 1,.int .i64 3,.str (47::p),.str b] [] (λr _=>r=.agg (ZX (wrS 1 p b))):=aV 1 3 (47::p) b;have s6:ag Tryz.prog 15 [.int .i64 0,.int .i64 8,.str [],.str []] [] (λr _=>r=.agg (ZX (cx 0))):=aV 0 8 [] [];have s7:ag Tryz.prog 15 [.int .i64 0,.int .i64 1,.str (47::p),.str []] [] (λr _=>r=.agg (ZX (rdS 0 p))):=aV 0 1 (47::p) [];refine ZF tK (Tryz.func3) rfl (λC=>?_);simp only[Tryz.ntmps3,Tryz.results3,go_sem];refine wG tK ?_;refine wC Tryz.func13 (hf:=(ru)) (hk:=?_);refine wG tK ?_;refine wDF (hb:=(rfl)) (hk:=?_);refine wG tK ?_;refine wC Tryz.func14 (hf:=(hwp)) (hk:=?_);refine wG tK ?_;refine bx 28 z6 (λc28 h28=>?_);simp only[go_sem];have hc:c28=false↔(cV p=true/\a.length≤20/\b.length≤20):=by
  rw[←h28];simp only[Bool.cond_true_left,Bool.or_eq_false_iff,decide_eq_false_iff_not,Bool.not_eq_false'];constructor
  ·rintro ⟨⟨h1,h2⟩,h3⟩;exact ⟨h1,by omega,by omega⟩
  ·rintro ⟨h1,h2,h3⟩;exact ⟨⟨h1,by omega⟩,by omega⟩
 clear h28;refine wD (λh=>?_) (λh=>?_)
 ·refine wG tK ?_;refine wT ?_;rfl
 obtain ⟨hwp,ha,hb⟩:=hc.1 h;clear hc;have h8p:p.length≤8:=by
  unfold cV at hwp;simp only[Bool.and_eq_true,decide_eq_true_eq] at hwp;omega
 refine wGq tK ?_ ?_
 ·simp;omega
 refine wC Tryz.func15 (hf:=(s1)) (hk:=?_);refine wG tK ?_;refine wC Tryz.func15 (hf:=(s2)) (hk:=?_);refine wG tK ?_;refine wC Tryz.func15 (hf:=(s3)) (hk:=?_);refine wGq tK ?_ ?_
 ·simp[bS]
  repeat' (first | exact bT _ | apply And.intro)
 cases first with
 | true=>
  refine wDT (hb:=(rfl)) (hk:=?_);refine wG tK ?_;refine wC Tryz.func15 (hf:=(s4)) (hk:=?_);refine wG tK ?_;refine wC Tryz.func15 (hf:=(s5)) (hk:=?_);refine wGq tK ?_ ?_
  ·simp[bS]
   repeat' (first | exact bT _ | exact bH _ _ | apply And.intro)
  refine wC Tryz.func15 (hf:=(s6)) (hk:=?_);refine wG tK ?_;refine wC Tryz.func15 (hf:=(s7)) (hk:=?_);refine wGq tK ?_ ?_
  ·simp[bS]
   repeat' (first | exact bT _ | exact bH _ _ | apply And.intro)
  obtain ⟨⟨r0,r1,r2,r3,r4,hrs⟩,c,y,hcs,hrep⟩:=wH hwp ha hb true;have hpl:=gv (rooms:=[4,4]) j6 (wE h8p) rfl (by simp[lM]) hrs;generalize bO (bo [4,4]) _=W at *;unfold bI at hpl;rw[hcs] at hpl;simp only[lM,if_true,if_false,Bool.false_eq_true,List.cons_append,List.nil_append,List.map_cons,List.map_nil,ZI,ZX,eH,wrS,cx,rdS,ZC,hrep,ZR,stA] at hpl;simp only[go_sem,ZX,eH,wrS,cx,rdS,List.map_nil];refine ZZ 61 rfl Qx ?_;refine ZZ 63 rfl (rfl) ?_;simp only[go_sem];refine wC Tryz.func16 (hf:=(hpl)) (hk:=?_);refine wG tK ?_ Qc Zv;refine wDF (hb:=y7) (hk:=?_);refine wR ?_;refine wNq tK 14 ?_ ?_ z6 z6 j5
  ·simp
  refine wNq tK 7 ?_ ?_ z6 z6 j5
  ·simp
  refine wNq tK 9 ?_ ?_ z6 z6 j5
  ·simp
  refine wNq tK 9 ?_ ?_ z6 z6 j5
  ·simp
  refine wNq tK 6 ?_ ?_ z6 z6 j5
  ·simp
  refine wG tK ?_;refine wT ?_;simp
 | false=>
  refine wDF (hb:=(rfl)) (hk:=?_);refine wG tK ?_;refine wC Tryz.func15 (hf:=(s5)) (hk:=?_);refine wG tK ?_;refine wC Tryz.func15 (hf:=(s4)) (hk:=?_);refine wGq tK ?_ ?_
  ·simp[bS]
   repeat' (first | exact bT _ | exact bH _ _ | apply And.intro)
  refine wC Tryz.func15 (hf:=(s6)) (hk:=?_);refine wG tK ?_;refine wC Tryz.func15 (hf:=(s7)) (hk:=?_);refine wGq tK ?_ ?_
  ·simp[bS]
   repeat' (first | exact bT _ | exact bH _ _ | apply And.intro)
  obtain ⟨⟨r0,r1,r2,r3,r4,hrs⟩,c,y,hcs,hrep⟩:=wH hwp ha hb false;have hpl:=gv (rooms:=[4,4]) j6 (wE h8p) rfl (by simp[lM]) hrs;generalize bO (bo [4,4]) _=W at *;unfold bI at hpl;rw[hcs] at hpl;simp only[lM,if_true,if_false,Bool.false_eq_true,List.cons_append,List.nil_append,List.map_cons,List.map_nil,ZI,ZX,eH,wrS,cx,rdS,ZC,hrep,ZR,stA] at hpl;simp only[go_sem,ZX,eH,wrS,cx,rdS,List.map_nil];refine ZZ 61 rfl Qx ?_;refine ZZ 63 rfl (rfl) ?_;simp only[go_sem];refine wC Tryz.func16 (hf:=(hpl)) (hk:=?_);refine wG tK ?_ Qc Zv;refine wDF (hb:=y7) (hk:=?_);refine wR ?_;refine wNq tK 14 ?_ ?_ z6 z6 j5
  ·simp
  refine wNq tK 7 ?_ ?_ z6 z6 j5
  ·simp
  refine wNq tK 9 ?_ ?_ z6 z6 j5
  ·simp
  refine wNq tK 9 ?_ ?_ z6 z6 j5
  ·simp
  refine wNq tK 6 ?_ ?_ z6 z6 j5
  ·simp
  refine wG tK ?_;refine wT ?_;simp
end La
