/- Texts of this claim, part 38: WTrace. No condition. -/
import Derived.Test.YtmcfbfdonjllaaaGreatDoorYW25
import Derived.Test.YtmcfbfdonjllaaaGreatDoorYW28
set_option maxRecDepth 10000
set_option maxHeartbeats 4000000
set_option linter.unusedSimpArgs false
set_option linter.unusedVariables false
namespace La
open Go Go.Eng Go.Proofs
def ud:List UInt8:=[100,97,116,97]
theorem sK (dir:Bool) (s data:List UInt8):∀n,ey dir s data (n+1)=ey dir s data n++[mkS dir s data,rmS s]
 | 0=>rfl
 | n+1=>by
  show mkS dir s data::rmS s::ey dir s data (n+1)=mkS dir s data::rmS s::ey dir s data n++_
  rw[sK dir s data n];rfl
def jT (dir:Bool) (name:List UInt8) (i:Nat):List Step:=bR::ba::ey dir name ud i
theorem lx (dir:Bool) (name:List UInt8) (i:Nat):(jT dir name i).length=2*i+2:=by unfold jT;simp[sL]
theorem yv (dir:Bool) (name:List UInt8) (i:Nat):jT dir name (i+1)=jT dir name i++[mkS dir name ud,rmS name]:=by
 unfold jT;rw[sK];rfl
theorem uI {dir:Bool} {s data:List UInt8} {x:Step}:∀{n:Nat},x∈ey dir s data n->x=mkS dir s data\/x=rmS s
 | 0,h=>by cases h
 | n+1,h=>by
  rcases List.mem_cons.1 h with h | h
  ·exact .inl h
  ·rcases List.mem_cons.1 h with h | h
   ·exact .inr h
   ·exact uI h
theorem CD {dir:Bool} {name:List UInt8} (hn:name.length≤8) {n:Nat} (h:n≤20):StepsOK (jT dir name n++[bp]):=⟨by rw[List.length_append,lx];simp;omega,λx hx=>by
 have key:x.path.length≤9/\x.toPath.length≤9:=by
  rcases List.mem_append.1 hx with hx | hx
  ·rcases List.mem_cons.1 hx with rfl | hx
   ·exact ⟨by decide,by decide⟩
   ·rcases List.mem_cons.1 hx with rfl | hx
    ·exact ⟨by decide,by decide⟩
    ·rcases uI hx with rfl | rfl
     ·exact ⟨by show (47::name).length≤9;rw[List.length_cons];omega,Wg _⟩
     ·exact ⟨by show (47::name).length≤9;rw[List.length_cons];omega,Wg _⟩
  ·rw[List.mem_singleton.1 hx];exact ⟨by decide,by decide⟩
 omega⟩
theorem yB (times:Int) (name:List UInt8) (dir:Bool) (hn:name.length≤100000000):ag Tryz.prog 12 [.int .i64 times,.str name,.bool dir] [] (λr _=>r=.bool true):=by
 have hw:=rP name hn;have a1:=aV 0 2 [47] []
 change ag _ _ _ _ λr _=>r=.agg (ZX bR) at a1
 have a2:=aV 0 7 [] []
 change ag _ _ _ _ λr _=>r=.agg (ZX ba) at a2
 have a3:=aV 0 8 [] []
 change ag _ _ _ _ λr _=>r=.agg (ZX bp) at a3
 have s1:=aV 0 (if dir=true then 4 else 3) (47::name) ud
 change ag _ _ _ _ λr _=>r=.agg (ZX (mkS dir name ud)) at s1
 have s2:=aV 0 5 (47::name) []
 change ag _ _ _ _ λr _=>r=.agg (ZX (rmS name)) at s2
 refine ZF tK (Tryz.func12) rfl (λC=>?_);simp only[Tryz.ntmps12,Tryz.results12,go_sem];refine wG tK ?_;refine wC Tryz.func13 (hf:=(ru)) (hk:=?_);refine wG tK ?_;refine wDF (hb:=(rfl)) (hk:=?_);refine wG tK ?_;refine wCC Tryz.func14 (hf:=λhb=>(hw)) (hk:=?_);refine wN tK 2 ?_;refine bx 27 z6 (λc27 h27=>?_);simp only[go_sem];have hc:c27=false↔((0≤times/\times≤20)/\cV name=true):=by
  rw[←h27]
  by_cases h1:times<0
  ·simp[h1];omega
  ·by_cases h2:times>20
   ·simp[h2];omega
   ·simp[h1,h2];omega
 clear h27;refine wG tK ?_;refine wD (λh=>?_) (λh=>?_)
 ·refine wG tK ?_;refine wT ?_;rfl
 obtain ⟨⟨ht0,ht1⟩,hword⟩:=hc.1 h;clear hc;obtain ⟨n,rfl⟩:∃n:Nat,times=(n:Int):=⟨times.toNat,by omega⟩;have hn20:n≤20:=by omega
 refine wG tK ?_;refine wC Tryz.func15 (hf:=(a1)) (hk:=?_);refine wG tK ?_;refine wC Tryz.func15 (hf:=(a2)) (hk:=?_);refine wGq tK ?_ ?_
 ·simp[bS];exact ⟨bT _,bT _⟩
 refine bf (xO 30 44) ?_;have hlaw:=CL hword (data:=ud) j6 dir n;have hL:bR::ba::(ey dir name ud n++[bp])=jT dir name n++[bp]:=rfl;rw[hL] at hlaw;clear hL;have h8:name.length≤8:=by
  unfold cV at hword;simp only[Bool.and_eq_true,decide_eq_true_eq] at hword;omega
 have hso:=CD (dir:=dir) h8 hn20;have hp:=gv (rooms:=[4]) j6 hso rfl (by rw[List.length_append,lx];simp;omega) rfl;have hrl:=jC (jT dir name n++[bp]) (bo [4]);rw[List.length_append,lx] at hrl;clear hso;have hP0:jT dir name 0=[bR,ba]:=rfl;have hPl:=λi=>lx dir name i
 have hPs:=λi=>yv dir name i
 generalize jT dir name=P at *;refine ZL (λi:Nat=>i≤n) (λi=>n-i) (λi=>(7,.osl 44 6 0 (2*i+2))::(8,.any)::(30,.any)::(32,.int .i64 i)::u3 33 13 [])
  (λi=>[(44,.cells 26 6 ((P i).map ZX))]) 0 z7 ?_ λi hi=>?_
 ·rw[hP0];simp only[go_sem];exact ZU w4 (by simp[go_sem,bR,ba]) w4
 simp only[go_sem];refine wG tK ?_;refine wD (λh=>?_) (λh=>?_)
 ·have hlt:i<n:=by simp at h;omega
  have how':=wi1 (i:=i) z7;have hl0:=hPl i;have hs1:=hPs i;generalize P i=Q at *;rw[←hl0];have htq:List.take Q.length (Q.map ZX)=Q.map ZX:=Z4 y7;cases dir with
  | true=>
   refine wG tK ?_;refine wDT (hb:=(rfl)) (hk:=?_);refine wGq tK ?_ ?_
   ·simp;omega
   refine wC Tryz.func15 (hf:=(s1)) (hk:=?_);refine wGq tK ?_ ?_
   ·simp;omega
   refine wC Tryz.func15 (hf:=(s2)) (hk:=?_);refine wGq tK ?_ ?_ j0
   ·simp[htq,bS]
    repeat' (first | exact bT _ | exact bH _ _ | exact λx _=>bH _ x | omega | apply And.intro)
   refine ZB ⟨i+1,by omega,by omega,ZU ?_ ?_ ?_⟩
   ·simp[go_sem];omega
   ·simp[go_sem,htq,hs1]
   ·simp[go_sem]
  | false=>
   refine wG tK ?_;refine wDF (hb:=(rfl)) (hk:=?_);refine wGq tK ?_ ?_
   ·simp;omega
   refine wC Tryz.func15 (hf:=(s1)) (hk:=?_);refine wGq tK ?_ ?_
   ·simp;omega
   refine wC Tryz.func15 (hf:=(s2)) (hk:=?_);refine wGq tK ?_ ?_ j0
   ·simp[htq,bS]
    repeat' (first | exact bT _ | exact bH _ _ | exact λx _=>bH _ x | omega | apply And.intro)
   refine ZB ⟨i+1,by omega,by omega,ZU ?_ ?_ ?_⟩
   ·simp[go_sem];omega
   ·simp[go_sem,htq,hs1]
   ·simp[go_sem]
 ·have e:i=n:=by simp at h;omega
  subst e;refine wG tK ?_;refine wC Tryz.func15 (hf:=(a3)) (hk:=?_);have hl0:=hPl i;have hE:(P i++[bp]).length=2*i+3:=by simp[hl0]
  generalize P i=Q at *;rw[←hl0];have htq:List.take Q.length (Q.map ZX)=Q.map ZX:=Z4 y7;refine wGq tK ?_ ?_
  ·simp[htq,bS]
   repeat' (first | exact bT _ | exact bH _ _ | exact λx _=>bH _ x | omega | apply And.intro)
  obtain ⟨hl1,hl2,hl3,hl4⟩:=hlaw;generalize rsW (bo [4]) (Q++[bp])=rs at *;generalize bO (bo [4]) (Q++[bp])=W at *;unfold bI at hp;simp only[List.map_cons,List.map_nil,ZI,List.map_append,ZX,bp] at hp;rw[hl4] at hp;have htk:∀X,List.take (Q.length+1) (Q.map ZX++[X])=Q.map ZX++[X]:=λX=>Z4 y7
  simp only[go_sem,ZX,bp,List.map_nil];refine ZZ 49 rfl (by rw[List.all_append,gp,W4];rfl) ?_;refine ZZ 51 rfl (rfl) ?_;simp only[go_sem,htk];refine wC Tryz.func16 (hf:=(hp)) (hk:=?_);refine wG tK ?_;have hrl':rs.length=2*i+3:=by rw[hrl];rfl
  have hQ1:Q.length+1=2*i+3:=by omega
  refine wDF (hb:=(by simp[hrl',hQ1])) (hk:=?_);refine wG tK ?_;refine ZL (λk:Nat=>k≤rs.length) (λk=>rs.length-k) (λk=>(13,.any)::(68,.int .i64 k)::u3 15 51 (u3 69 7 [])) (λ_=>[]) 0 z7 ?_ λk hk=>?_
  ·simp only[go_sem];exact ZU w4 w4 w4
  simp only[go_sem];refine wG tK ?_;refine wD (λh=>?_) (λh=>?_)
  ·have hlt:k<rs.length:=by simp at h;omega
   have hg:(rs.map aj).getD k []=aj (rs.getD k default):=Fam.getD hlt;have how':IntKind.i64.wrap ((k:Int)+1)=((k+1:Nat):Int):=by rw[Eng.wrap_small z7 z7];rfl
   have he:=hl1 _ (YG hlt);generalize rs.getD k default=r at *;refine wGq tK ?_ ?_ (by simp only[go_sem,hg,aj];try exact rfl)
   ·simp[hg,aj,hlt]
   refine wDF (hb:=Qb) (hk:=?_);refine wG tK ?_ j0 QF;refine ZB ⟨k+1,by omega,by omega,ZU ?_ ?_ ?_⟩
   ·simp[go_sem]
   ·simp[go_sem]
   ·simp[go_sem]
  ·have e:k=rs.length:=by simp at h;omega
   subst e;have hw2:IntKind.i64.wrap ((rs.length:Int)-1)=((2*i+2:Nat):Int):=by rw[hrl',Eng.wrap_small z7 z7];omega
   have hlt:2*i+2<rs.length:=by omega
   have hg:(rs.map aj).getD (2*i+2) []=aj (rs.getD (2*i+2) default):=Fam.getD hlt;generalize rs.getD (2*i+2) default=r at *;refine wGq tK ?_ ?_ (by simp only[go_sem,hw2,hg,aj];try exact rfl)
   ·simp[hg,aj,hlt];omega
   refine wT ?_;rw[hl2,hl3];rfl
end La
