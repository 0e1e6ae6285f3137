/- Texts of this claim, part 18: RList, PSort, CKeep, RSame, Jud, Jud2. No condition. -/
import Derived.Test.YtmcfbfdonjllaaaGreatDoorZT17
set_option maxRecDepth 10000
set_option maxHeartbeats 4000000
set_option linter.unusedSimpArgs false
set_option linter.unusedVariables false
namespace La
open Go Go.Eng Go.Proofs
theorem vw {α:Type} {n:Int} {v:α} [Inhabited α]:∀(S:List (Int×α)) (k:Nat),k≤S.length->(∀j,j<k->(S.getD j default).1<n)->(∀h:k<S.length,n<(S.getD k default).1)->bt S n v=S.take k++(n,v)::S.drop k
 | [],k,hk,_,_=>by
  have:k=0:=by simpa using hk
  subst this;rfl
 | p::S,0,_,_,h=>by
  have:=h y7;simp only[List.getD_cons_zero] at this;simp only[bt,List.take_zero,List.drop_zero,List.nil_append];rw[if_neg z8,if_pos this]
 | p::S,k+1,hk,h1,h2=>by
  have h0:=h1 0 z8;simp only[List.getD_cons_zero] at h0;have ih:=vw (n:=n) (v:=v) S k Zs (λj hj=>by have:=h1 (j+1) z8;simpa using this) (λh=>by have:=h2 v8;simpa using this);simp only[bt,List.take_succ_cons,List.drop_succ_cons,List.cons_append];rw[if_neg z8,if_neg z8,ih]
def dO (p:Int×Node):List AV:=ZN p.2
theorem lI:Fam dO 5:=⟨λ_=>rfl,λ_=>rfl,λ_=>rfl,λ_=>rfl⟩
@[go_sem,simp] theorem HK (l:List _):Eng.rowsOf 5 (l.map dO):=lI.rowsOf l
@[go_sem,simp] theorem I0 (l:List _):((l.map dO).all λrow=>row.all AV.leaf)=true:=lI.jc l
@[go_sem,simp] theorem Cd (l:List _):((l.map dO).all λrow=>row.all AV.aY)=true:=lI.eM l
@[go_sem,simp] theorem IA (id:Nat) (l:List _):((l.map dO).all λrow=>row.all λx=>!(refs x).contains id)=true:=lI.jY id l
@[go_sem,simp] theorem IB (e s:Nat) (l:List _):aB (.cells e s (l.map dO))=[]:=lI.aB e s l
@[go_sem,simp] theorem IZ (id s:Nat) (rows:List (List AV)) (l:List _):(l.map dO).map (dB id s rows)=l.map dO:=Fam.dB (λ_ _ _ _=>rfl) id s rows l
theorem qC (nd:Node):rowsOf 5 [[AV.int .i64 nd.fid,.bool nd.dir,.sl (nd.data.map ZY),.sl (nd.entries.map ZE),.int .i64 nd.version]]:=by
 intro row h;rw[List.mem_singleton] at h;subst h;rfl
theorem DK (m:List (Int×Node)) (hr:ej m) (hkf:∀p,p∈m->p.2.fid=p.1) (hlen:m.length≤50000000):ae Tryz.prog 97 [.rm (mN m)] [] (λr _=>r=.sl (m.map dO)):=by
 refine ZF tK (Tryz.func97) rfl (λC=>?_);simp only[Tryz.ntmps97,Tryz.results97,go_sem];refine wG tK ?_;refine rD tK rfl rfl rfl z7 z7 z7 ?_;refine wG tK ?_;refine ag (le_empty 99 94 5 z7) ?_;simp only[go_sem];refine ZL (λ_:List Int=>True) (λseen=>mT m seen) (λseen=>(3,.osl 99 5 0 (dV m seen).length)::(5,.any)::(6,.any)::u0 9 32 []) (λseen=>[(99,.cells 94 5 ((dV m seen).map dO)),(8,.iter (mN m) seen)]) [] trivial ?_ λseen _=>?_
 ·simp only[go_sem];exact ZU (by simp[go_sem,mL]) (by simp[go_sem,mL,zF]) w3
 simp only[go_sem];refine wR ?_;refine uW rfl rfl z7 z7 (λhall=>?_) (λn v hnv hns=>?_)
 ·have hsa:dV m seen=m:=pC λp hp=>hall (p.1,.agg (ZN p.2)) (zD hp)
  rw[hsa];simp only[go_sem];refine wG tK ?_;refine wDF (hb:=(rfl)) (hk:=?_);refine wG tK ?_;refine ZZ 99 rfl (Cd _) ?_;simp only[go_sem];refine wT ?_;simp
 ·obtain ⟨nd,rfl,hmem⟩:=zE hnv;have hpt:=pD hr hmem (seen:=seen);have hlt:=lQ hmem hns;have hfid:nd.fid=n:=hkf _ hmem;have hsub:∀p,p∈dV m seen->p.2.fid=p.1/\p.1≠n:=λp hp=>by
   have h1:=Wy.1 hp;refine ⟨hkf p h1.1,λe=>hns ?_⟩;have:=h1.2;rw[e] at this;simpa using this
  have hsl:(dV m seen).length≤m.length:=Wr _ _;have hsr:ej (dV m seen):=hr.filter _;simp only[go_sem];refine wG tK ?_;refine wDT (hb:=(rfl)) (hk:=?_);refine wR ?_;refine rC rfl rfl z7 z7 (hnv) ?_;simp only[go_sem];refine wGq tK ?_ ?_ w6
  ·simp[ZN,AV.jE,AV.aY]
  clear hlt hnv;have hlt:=lQ hmem hns;generalize hS:dV m seen=S at *;refine ZL (λk:Nat=>k≤S.length/\∀j,j<k->(S.getD j default).1<n) (λk=>S.length-k) (λk=>(6,.int .i64 k)::u0 13 16 []) (λ_=>[]) 0 ⟨by omega,by omega⟩ ?_ λk hk=>?_
  ·simp only[go_sem];exact ZU w3 w3 w3
  obtain ⟨hk,hk2⟩:=hk;simp only[go_sem];refine wG tK ?_;refine ZW ZM ?_;refine ZS rfl ?_
  by_cases hkl:k<S.length
  ·have hg:(S.map dO).getD k []=dO (S.getD k default):=Fam.getD hkl;have hw:IntKind.i64.wrap ((k:Int)+1)=((k+1:Nat):Int):=by rw[Eng.wrap_small z8 z8];rfl
   have hmk:=hsub _ (YG hkl);have hat:(∀h:k<S.length,n<(S.getD k default).1)->bt S n nd=S.take k++(n,nd)::S.drop k:=vw S k hk hk2;have hk3:(S.getD k default).1<n->∀j,j<k+1->(S.getD j default).1<n:=λh0 j hj=>by
    rcases Nat.lt_succ_iff_lt_or_eq.1 hj with h1 | rfl
    ·exact hk2 j h1
    ·exact h0
   generalize S.getD k default=q at hg hmk hat hk3;refine sNq tK 14 ?_ ?_ z6 z6 (by simp only[go_sem,hg,dO,ZN];try exact rfl)
   ·simp[hg,dO,ZN,hkl]
   refine sE ?_;refine wKd ?_
   try simp only[go_sem,gA,gB,gC]
   refine wD (λh=>?_) (λh=>?_)
   ·have hqn:q.1<n:=by
     rw[←hmk.1,←hfid];simpa[hkl] using h
    refine wG tK ?_ w5 k0;refine ZB ⟨k+1,⟨by omega,hk3 hqn⟩,by omega,ZU ?_ ?_ ?_⟩
    ·simp[go_sem]
    ·simp[go_sem]
    ·simp[go_sem]
   ·have hqn:¬q.1<n:=by
     rw[←hmk.1,←hfid];simpa[hkl] using h
    have hput:=hat λ_=>by have:=hmk.2;omega
    have hA1:List.take k (S.map dO)=(S.take k).map dO:=by rw[Yh]
    have hB1:List.take (S.length-k) (List.drop k (S.map dO))=(S.drop k).map dO:=by rw[←Yn,Wl y7]
    have hlA:(S.take k).length=k:=by rw[Wv];omega
    have hlB:(S.drop k).length=S.length-k:=YJ;generalize S.take k=A at hA1 hlA hput;generalize S.drop k=B at hB1 hlB hput;subst hlA;have htk:List.take (A.length+1) (A.map dO++[[AV.int .i64 nd.fid,.bool nd.dir,.sl (nd.data.map ZY),.sl (nd.entries.map ZE),.int .i64 nd.version]])=A.map dO++[[AV.int .i64 nd.fid,.bool nd.dir,.sl (nd.data.map ZY),.sl (nd.entries.map ZE),.int .i64 nd.version]]:=Wl y7;refine wG tK ?_;refine ZW ZM ?_;refine cd 1 [0,2,3,4,5,6,7,8,9,10,11,12] [0,0,1,2,3,4,5,6,7,8,9,10,11] rfl rfl rfl (λ_ _ _ h=>h) w4 w4 x6 z7 ?_;simp only[go_sem,gA,gB,gC];refine cd 1 [0,2,3,4,5,6,7,8,9,10,11] [0,0,1,2,3,4,5,6,7,8,9,10] rfl rfl rfl (λ_ _ _ h=>h) w4 w4 x6 z7 ?_;simp only[go_sem,gA,gB,gC];refine ey 1 [0,2,3,4,5,6,7,8,9,10] [0,0,1,2,3,4,5,6,7,8,9] rfl rfl (λ_ _ _ h=>h) w4 w4 x6 (iD tK rfl rfl rfl u5 z7 (.inl ⟨rfl,rfl⟩) (.inr ⟨_,rfl,_,z7⟩) p9 p9) ?_;simp only[go_sem,gA,gB,gC];refine cd 5 [0,1,2,3,4,6,7,8,9] [0,1,2,3,4,0,5,6,7,8] rfl rfl rfl (λ_ _ _ h=>h) w4 w4 x6 z7 ?_;simp only[go_sem,gA,gB,gC];refine cd 5 [0,1,2,3,4,6,7,8] [0,1,2,3,4,0,5,6,7] rfl rfl rfl (λ_ _ _ h=>h) w4 w4 x6 z7 ?_;simp only[go_sem,gA,gB,gC];refine ey 5 [0,1,2,3,4,6,7] [0,1,2,3,4,0,5,6] rfl rfl (λ_ _ _ h=>h) w4 w4 x6 (iD tK rfl rfl rfl u5 z7 (.inr ⟨_,rfl,_,z7⟩) (.inl ⟨rfl,rfl⟩) p9 p9) ?_;simp only[go_sem,gA,gB,gC];refine De (n:=7) w4 rfl ?_;refine dX (i:=0) (j:=2) w4 rfl rfl rfl rfl (YT tK rfl z7 w3) (YT tK rfl z7 w3) ?_ ?_
    ·refine dX (i:=1) (j:=2) w4 rfl rfl rfl rfl (YT tK rfl y6 ?_) (YT tK rfl y6 ?_) ?_ ?_
     ·skip
      try simp only[go_sem,hA1,hB1,htk,gD,gE,gF,gG,gA,gB,gC]
      simp;omega
     ·skip
      first | trivial | simp[go_sem,hA1,hB1,htk,gD,gE,gF,gG,gA,gB,gC]
     ·try simp only[go_sem,hA1,hB1,htk,gD,gE,gF,gG,gA,gB,gC]
      refine YD (i:=2) w4 rfl rfl (YT tK rfl z7 w3) ?_
      try simp only[go_sem,hA1,hB1,htk,gD,gE,gF,gG,gA,gB,gC]
      refine YD (i:=3) w4 rfl rfl (YT tK rfl z7 w3) ?_
      try simp only[go_sem,hA1,hB1,htk,gD,gE,gF,gG,gA,gB,gC]
      refine YD (i:=4) w4 rfl rfl (YT tK rfl y6 ?_) ?_
      ·simp[go_sem,qC,hA1,hB1,htk,gD,gE,gF,gG,gA,gB,gC];omega
      try simp only[go_sem,hA1,hB1,htk,gD,gE,gF,gG,gA,gB,gC]
      refine YD (i:=5) w4 rfl rfl (YT tK rfl j6 ?_) ?_
      ·simp[go_sem,hA1,hB1,htk,gD,gE,gF,gG,gA,gB,gC,hlB];omega
      try simp only[go_sem,hA1,hB1,htk,gD,gE,gF,gG,gA,gB,gC]
      refine YD (i:=6) w4 rfl rfl (YT tK rfl z7 w3) ?_;refine cT w4 ?_;simp only[go_sem,gA,gB,gC];refine ag (dq 99) ?_;refine ag (dj 40 99) ?_;refine wG tK ?_;refine ZB ⟨n::seen,hlt,ZU ?_ ?_ ?_⟩
      ·simp[go_sem,←hpt,hput,hlB];omega
      ·simp[go_sem,←hpt,hput,dO,ZN,htk,hB1]
      ·simp[go_sem]
     ·try simp only[go_sem,hA1,hB1,htk,gD,gE,gF,gG,gA,gB,gC]
      refine dX (i:=1) (j:=3) w4 rfl rfl rfl rfl (YT tK rfl y6 ?_) (YT tK rfl y6 ?_) ?_ ?_
      ·skip
       try simp only[go_sem,hA1,hB1,htk,gD,gE,gF,gG,gA,gB,gC]
       simp;omega
      ·skip
       first | trivial | simp[go_sem,hA1,hB1,htk,gD,gE,gF,gG,gA,gB,gC]
      ·try simp only[go_sem,hA1,hB1,htk,gD,gE,gF,gG,gA,gB,gC]
       refine YD (i:=3) w4 rfl rfl (YT tK rfl z7 w3) ?_
       try simp only[go_sem,hA1,hB1,htk,gD,gE,gF,gG,gA,gB,gC]
       refine YD (i:=4) w4 rfl rfl (YT tK rfl y6 ?_) ?_
       ·simp[go_sem,qC,hA1,hB1,htk,gD,gE,gF,gG,gA,gB,gC];omega
       try simp only[go_sem,hA1,hB1,htk,gD,gE,gF,gG,gA,gB,gC]
       refine YD (i:=5) w4 rfl rfl (YT tK rfl j6 ?_) ?_
       ·simp[go_sem,hA1,hB1,htk,gD,gE,gF,gG,gA,gB,gC,hlB];omega
       try simp only[go_sem,hA1,hB1,htk,gD,gE,gF,gG,gA,gB,gC]
       refine YD (i:=6) w4 rfl rfl (YT tK rfl z7 w3) ?_;refine cT w4 ?_;simp only[go_sem,gA,gB,gC];refine ag (dq 99) ?_;refine ag (dj 40 99) ?_;refine wG tK ?_;refine ZB ⟨n::seen,hlt,ZU ?_ ?_ ?_⟩
       ·simp[go_sem,←hpt,hput,hlB];omega
       ·simp[go_sem,←hpt,hput,dO,ZN,htk,hB1]
       ·simp[go_sem]
      ·try simp only[go_sem,hA1,hB1,htk,gD,gE,gF,gG,gA,gB,gC]
       refine YD (i:=1) w4 rfl rfl (YT tK rfl y6 ?_) ?_
       ·skip
        try simp only[go_sem,hA1,hB1,htk,gD,gE,gF,gG,gA,gB,gC]
        simp;omega
       try simp only[go_sem,hA1,hB1,htk,gD,gE,gF,gG,gA,gB,gC]
       refine YD (i:=4) w4 rfl rfl (YT tK rfl y6 ?_) ?_
       ·simp[go_sem,qC,hA1,hB1,htk,gD,gE,gF,gG,gA,gB,gC];omega
       try simp only[go_sem,hA1,hB1,htk,gD,gE,gF,gG,gA,gB,gC]
       refine YD (i:=5) w4 rfl rfl (YT tK rfl j6 ?_) ?_
       ·simp[go_sem,hA1,hB1,htk,gD,gE,gF,gG,gA,gB,gC,hlB];omega
       try simp only[go_sem,hA1,hB1,htk,gD,gE,gF,gG,gA,gB,gC]
       refine YD (i:=6) w4 rfl rfl (YT tK rfl z7 w3) ?_;refine cT w4 ?_;simp only[go_sem,gA,gB,gC];refine ag (dq 99) ?_;refine ag (dj 40 99) ?_;refine wG tK ?_;refine ZB ⟨n::seen,hlt,ZU ?_ ?_ ?_⟩
       ·simp[go_sem,←hpt,hput,hlB];omega
       ·simp[go_sem,←hpt,hput,dO,ZN,htk,hB1]
       ·simp[go_sem]
    ·try simp only[go_sem,hA1,hB1,htk,gD,gE,gF,gG,gA,gB,gC]
     refine dX (i:=0) (j:=3) w4 rfl rfl rfl rfl (YT tK rfl y6 ?_) (YT tK rfl y6 ?_) ?_ ?_
     ·skip
      first | trivial | simp[go_sem,hA1,hB1,htk,gD,gE,gF,gG,gA,gB,gC]
     ·skip
      first | trivial | simp[go_sem,hA1,hB1,htk,gD,gE,gF,gG,gA,gB,gC]
     ·try simp only[go_sem,hA1,hB1,htk,gD,gE,gF,gG,gA,gB,gC]
      refine dX (i:=1) (j:=3) w4 rfl rfl rfl rfl (YT tK rfl y6 ?_) (YT tK rfl y6 ?_) ?_ ?_
      ·skip
       try simp only[go_sem,hA1,hB1,htk,gD,gE,gF,gG,gA,gB,gC]
       simp;omega
      ·skip
       first | trivial | simp[go_sem,hA1,hB1,htk,gD,gE,gF,gG,gA,gB,gC]
      ·try simp only[go_sem,hA1,hB1,htk,gD,gE,gF,gG,gA,gB,gC]
       refine YD (i:=3) w4 rfl rfl (YT tK rfl z7 w3) ?_
       try simp only[go_sem,hA1,hB1,htk,gD,gE,gF,gG,gA,gB,gC]
       refine YD (i:=4) w4 rfl rfl (YT tK rfl y6 ?_) ?_
       ·simp[go_sem,qC,hA1,hB1,htk,gD,gE,gF,gG,gA,gB,gC];omega
       try simp only[go_sem,hA1,hB1,htk,gD,gE,gF,gG,gA,gB,gC]
       refine YD (i:=5) w4 rfl rfl (YT tK rfl j6 ?_) ?_
       ·simp[go_sem,hA1,hB1,htk,gD,gE,gF,gG,gA,gB,gC,hlB];omega
       try simp only[go_sem,hA1,hB1,htk,gD,gE,gF,gG,gA,gB,gC]
       refine YD (i:=6) w4 rfl rfl (YT tK rfl z7 w3) ?_;refine cT w4 ?_;simp only[go_sem,gA,gB,gC];refine ag (dq 99) ?_;refine ag (dj 40 99) ?_;refine wG tK ?_;refine ZB ⟨n::seen,hlt,ZU ?_ ?_ ?_⟩
       ·simp[go_sem,←hpt,hput,hlB];omega
       ·simp[go_sem,←hpt,hput,dO,ZN,htk,hB1]
       ·simp[go_sem]
      ·try simp only[go_sem,hA1,hB1,htk,gD,gE,gF,gG,gA,gB,gC]
       refine YD (i:=1) w4 rfl rfl (YT tK rfl y6 ?_) ?_
       ·skip
        try simp only[go_sem,hA1,hB1,htk,gD,gE,gF,gG,gA,gB,gC]
        simp;omega
       try simp only[go_sem,hA1,hB1,htk,gD,gE,gF,gG,gA,gB,gC]
       refine YD (i:=4) w4 rfl rfl (YT tK rfl y6 ?_) ?_
       ·simp[go_sem,qC,hA1,hB1,htk,gD,gE,gF,gG,gA,gB,gC];omega
       try simp only[go_sem,hA1,hB1,htk,gD,gE,gF,gG,gA,gB,gC]
       refine YD (i:=5) w4 rfl rfl (YT tK rfl j6 ?_) ?_
       ·simp[go_sem,hA1,hB1,htk,gD,gE,gF,gG,gA,gB,gC,hlB];omega
       try simp only[go_sem,hA1,hB1,htk,gD,gE,gF,gG,gA,gB,gC]
       refine YD (i:=6) w4 rfl rfl (YT tK rfl z7 w3) ?_;refine cT w4 ?_;simp only[go_sem,gA,gB,gC];refine ag (dq 99) ?_;refine ag (dj 40 99) ?_;refine wG tK ?_;refine ZB ⟨n::seen,hlt,ZU ?_ ?_ ?_⟩
       ·simp[go_sem,←hpt,hput,hlB];omega
       ·simp[go_sem,←hpt,hput,dO,ZN,htk,hB1]
       ·simp[go_sem]
     ·try simp only[go_sem,hA1,hB1,htk,gD,gE,gF,gG,gA,gB,gC]
      refine YD (i:=0) w4 rfl rfl (YT tK rfl z7 w3) ?_
      try simp only[go_sem,hA1,hB1,htk,gD,gE,gF,gG,gA,gB,gC]
      refine YD (i:=1) w4 rfl rfl (YT tK rfl y6 ?_) ?_
      ·skip
       try simp only[go_sem,hA1,hB1,htk,gD,gE,gF,gG,gA,gB,gC]
       simp;omega
      try simp only[go_sem,hA1,hB1,htk,gD,gE,gF,gG,gA,gB,gC]
      refine YD (i:=4) w4 rfl rfl (YT tK rfl y6 ?_) ?_
      ·simp[go_sem,qC,hA1,hB1,htk,gD,gE,gF,gG,gA,gB,gC];omega
      try simp only[go_sem,hA1,hB1,htk,gD,gE,gF,gG,gA,gB,gC]
      refine YD (i:=5) w4 rfl rfl (YT tK rfl j6 ?_) ?_
      ·simp[go_sem,hA1,hB1,htk,gD,gE,gF,gG,gA,gB,gC,hlB];omega
      try simp only[go_sem,hA1,hB1,htk,gD,gE,gF,gG,gA,gB,gC]
      refine YD (i:=6) w4 rfl rfl (YT tK rfl z7 w3) ?_;refine cT w4 ?_;simp only[go_sem,gA,gB,gC];refine ag (dq 99) ?_;refine ag (dj 40 99) ?_;refine wG tK ?_;refine ZB ⟨n::seen,hlt,ZU ?_ ?_ ?_⟩
      ·simp[go_sem,←hpt,hput,hlB];omega
      ·simp[go_sem,←hpt,hput,dO,ZN,htk,hB1]
      ·simp[go_sem]
  ·have hkl2:k=S.length:=by omega
   have hput:bt S n nd=S.take k++(n,nd)::S.drop k:=vw S k hk hk2 λh=>absurd h hkl
   have hdf:decide ((k:Int)<(S.length:Int))=false:=decide_eq_false z8;refine sN tK 5 ?_;rw[hdf]
   iterate 7 refine sS ?_
   refine sSB ?_;refine sN tK 1 ?_;refine sE ?_;refine wKd ?_
   try simp only[go_sem,gA,gB,gC]
   refine wD (λh=>?_) (λh=>?_)
   ·exfalso;simp at h
   have hA1:List.take k (S.map dO)=(S.take k).map dO:=by rw[Yh]
   have hB1:List.take (S.length-k) (List.drop k (S.map dO))=(S.drop k).map dO:=by rw[←Yn,Wl y7]
   have hlA:(S.take k).length=k:=by rw[Wv];omega
   have hlB:(S.drop k).length=S.length-k:=YJ;generalize S.take k=A at hA1 hlA hput;generalize S.drop k=B at hB1 hlB hput;subst hlA;have htk:List.take (A.length+1) (A.map dO++[[AV.int .i64 nd.fid,.bool nd.dir,.sl (nd.data.map ZY),.sl (nd.entries.map ZE),.int .i64 nd.version]])=A.map dO++[[AV.int .i64 nd.fid,.bool nd.dir,.sl (nd.data.map ZY),.sl (nd.entries.map ZE),.int .i64 nd.version]]:=Wl y7;refine wG tK ?_;refine ZW ZM ?_;refine cd 1 [0,2,3,4,5,6,7,8,9,10,11,12] [0,0,1,2,3,4,5,6,7,8,9,10,11] rfl rfl rfl (λ_ _ _ h=>h) w4 w4 x6 z7 ?_;simp only[go_sem,gA,gB,gC];refine cd 1 [0,2,3,4,5,6,7,8,9,10,11] [0,0,1,2,3,4,5,6,7,8,9,10] rfl rfl rfl (λ_ _ _ h=>h) w4 w4 x6 z7 ?_;simp only[go_sem,gA,gB,gC];refine ey 1 [0,2,3,4,5,6,7,8,9,10] [0,0,1,2,3,4,5,6,7,8,9] rfl rfl (λ_ _ _ h=>h) w4 w4 x6 (iD tK rfl rfl rfl u5 z7 (.inl ⟨rfl,rfl⟩) (.inr ⟨_,rfl,_,z7⟩) p9 p9) ?_;simp only[go_sem,gA,gB,gC];refine cd 5 [0,1,2,3,4,6,7,8,9] [0,1,2,3,4,0,5,6,7,8] rfl rfl rfl (λ_ _ _ h=>h) w4 w4 x6 z7 ?_;simp only[go_sem,gA,gB,gC];refine cd 5 [0,1,2,3,4,6,7,8] [0,1,2,3,4,0,5,6,7] rfl rfl rfl (λ_ _ _ h=>h) w4 w4 x6 z7 ?_;simp only[go_sem,gA,gB,gC];refine ey 5 [0,1,2,3,4,6,7] [0,1,2,3,4,0,5,6] rfl rfl (λ_ _ _ h=>h) w4 w4 x6 (iD tK rfl rfl rfl u5 z7 (.inr ⟨_,rfl,_,z7⟩) (.inl ⟨rfl,rfl⟩) p9 p9) ?_;simp only[go_sem,gA,gB,gC];refine De (n:=7) w4 rfl ?_;refine dX (i:=0) (j:=2) w4 rfl rfl rfl rfl (YT tK rfl z7 w3) (YT tK rfl z7 w3) ?_ ?_
   ·refine dX (i:=1) (j:=2) w4 rfl rfl rfl rfl (YT tK rfl y6 ?_) (YT tK rfl y6 ?_) ?_ ?_
    ·skip
     try simp only[go_sem,hA1,hB1,htk,gD,gE,gF,gG,gA,gB,gC]
     simp;omega
    ·skip
     first | trivial | simp[go_sem,hA1,hB1,htk,gD,gE,gF,gG,gA,gB,gC]
    ·try simp only[go_sem,hA1,hB1,htk,gD,gE,gF,gG,gA,gB,gC]
     refine YD (i:=2) w4 rfl rfl (YT tK rfl z7 w3) ?_
     try simp only[go_sem,hA1,hB1,htk,gD,gE,gF,gG,gA,gB,gC]
     refine YD (i:=3) w4 rfl rfl (YT tK rfl z7 w3) ?_
     try simp only[go_sem,hA1,hB1,htk,gD,gE,gF,gG,gA,gB,gC]
     refine YD (i:=4) w4 rfl rfl (YT tK rfl y6 ?_) ?_
     ·simp[go_sem,qC,hA1,hB1,htk,gD,gE,gF,gG,gA,gB,gC];omega
     try simp only[go_sem,hA1,hB1,htk,gD,gE,gF,gG,gA,gB,gC]
     refine YD (i:=5) w4 rfl rfl (YT tK rfl j6 ?_) ?_
     ·simp[go_sem,hA1,hB1,htk,gD,gE,gF,gG,gA,gB,gC,hlB];omega
     try simp only[go_sem,hA1,hB1,htk,gD,gE,gF,gG,gA,gB,gC]
     refine YD (i:=6) w4 rfl rfl (YT tK rfl z7 w3) ?_;refine cT w4 ?_;simp only[go_sem,gA,gB,gC];refine ag (dq 99) ?_;refine ag (dj 40 99) ?_;refine wG tK ?_;refine ZB ⟨n::seen,hlt,ZU ?_ ?_ ?_⟩
     ·simp[go_sem,←hpt,hput,hlB];omega
     ·simp[go_sem,←hpt,hput,dO,ZN,htk,hB1]
     ·simp[go_sem]
    ·try simp only[go_sem,hA1,hB1,htk,gD,gE,gF,gG,gA,gB,gC]
     refine dX (i:=1) (j:=3) w4 rfl rfl rfl rfl (YT tK rfl y6 ?_) (YT tK rfl y6 ?_) ?_ ?_
     ·skip
      try simp only[go_sem,hA1,hB1,htk,gD,gE,gF,gG,gA,gB,gC]
      simp;omega
     ·skip
      first | trivial | simp[go_sem,hA1,hB1,htk,gD,gE,gF,gG,gA,gB,gC]
     ·try simp only[go_sem,hA1,hB1,htk,gD,gE,gF,gG,gA,gB,gC]
      refine YD (i:=3) w4 rfl rfl (YT tK rfl z7 w3) ?_
      try simp only[go_sem,hA1,hB1,htk,gD,gE,gF,gG,gA,gB,gC]
      refine YD (i:=4) w4 rfl rfl (YT tK rfl y6 ?_) ?_
      ·simp[go_sem,qC,hA1,hB1,htk,gD,gE,gF,gG,gA,gB,gC];omega
      try simp only[go_sem,hA1,hB1,htk,gD,gE,gF,gG,gA,gB,gC]
      refine YD (i:=5) w4 rfl rfl (YT tK rfl j6 ?_) ?_
      ·simp[go_sem,hA1,hB1,htk,gD,gE,gF,gG,gA,gB,gC,hlB];omega
      try simp only[go_sem,hA1,hB1,htk,gD,gE,gF,gG,gA,gB,gC]
      refine YD (i:=6) w4 rfl rfl (YT tK rfl z7 w3) ?_;refine cT w4 ?_;simp only[go_sem,gA,gB,gC];refine ag (dq 99) ?_;refine ag (dj 40 99) ?_;refine wG tK ?_;refine ZB ⟨n::seen,hlt,ZU ?_ ?_ ?_⟩
      ·simp[go_sem,←hpt,hput,hlB];omega
      ·simp[go_sem,←hpt,hput,dO,ZN,htk,hB1]
      ·simp[go_sem]
     ·try simp only[go_sem,hA1,hB1,htk,gD,gE,gF,gG,gA,gB,gC]
      refine YD (i:=1) w4 rfl rfl (YT tK rfl y6 ?_) ?_
      ·skip
       try simp only[go_sem,hA1,hB1,htk,gD,gE,gF,gG,gA,gB,gC]
       simp;omega
      try simp only[go_sem,hA1,hB1,htk,gD,gE,gF,gG,gA,gB,gC]
      refine YD (i:=4) w4 rfl rfl (YT tK rfl y6 ?_) ?_
      ·simp[go_sem,qC,hA1,hB1,htk,gD,gE,gF,gG,gA,gB,gC];omega
      try simp only[go_sem,hA1,hB1,htk,gD,gE,gF,gG,gA,gB,gC]
      refine YD (i:=5) w4 rfl rfl (YT tK rfl j6 ?_) ?_
      ·simp[go_sem,hA1,hB1,htk,gD,gE,gF,gG,gA,gB,gC,hlB];omega
      try simp only[go_sem,hA1,hB1,htk,gD,gE,gF,gG,gA,gB,gC]
      refine YD (i:=6) w4 rfl rfl (YT tK rfl z7 w3) ?_;refine cT w4 ?_;simp only[go_sem,gA,gB,gC];refine ag (dq 99) ?_;refine ag (dj 40 99) ?_;refine wG tK ?_;refine ZB ⟨n::seen,hlt,ZU ?_ ?_ ?_⟩
      ·simp[go_sem,←hpt,hput,hlB];omega
      ·simp[go_sem,←hpt,hput,dO,ZN,htk,hB1]
      ·simp[go_sem]
   ·try simp only[go_sem,hA1,hB1,htk,gD,gE,gF,gG,gA,gB,gC]
    refine dX (i:=0) (j:=3) w4 rfl rfl rfl rfl (YT tK rfl y6 ?_) (YT tK rfl y6 ?_) ?_ ?_
    ·skip
     first | trivial | simp[go_sem,hA1,hB1,htk,gD,gE,gF,gG,gA,gB,gC]
    ·skip
     first | trivial | simp[go_sem,hA1,hB1,htk,gD,gE,gF,gG,gA,gB,gC]
    ·try simp only[go_sem,hA1,hB1,htk,gD,gE,gF,gG,gA,gB,gC]
     refine dX (i:=1) (j:=3) w4 rfl rfl rfl rfl (YT tK rfl y6 ?_) (YT tK rfl y6 ?_) ?_ ?_
     ·skip
      try simp only[go_sem,hA1,hB1,htk,gD,gE,gF,gG,gA,gB,gC]
      simp;omega
     ·skip
      first | trivial | simp[go_sem,hA1,hB1,htk,gD,gE,gF,gG,gA,gB,gC]
     ·try simp only[go_sem,hA1,hB1,htk,gD,gE,gF,gG,gA,gB,gC]
      refine YD (i:=3) w4 rfl rfl (YT tK rfl z7 w3) ?_
      try simp only[go_sem,hA1,hB1,htk,gD,gE,gF,gG,gA,gB,gC]
      refine YD (i:=4) w4 rfl rfl (YT tK rfl y6 ?_) ?_
      ·simp[go_sem,qC,hA1,hB1,htk,gD,gE,gF,gG,gA,gB,gC];omega
      try simp only[go_sem,hA1,hB1,htk,gD,gE,gF,gG,gA,gB,gC]
      refine YD (i:=5) w4 rfl rfl (YT tK rfl j6 ?_) ?_
      ·simp[go_sem,hA1,hB1,htk,gD,gE,gF,gG,gA,gB,gC,hlB];omega
      try simp only[go_sem,hA1,hB1,htk,gD,gE,gF,gG,gA,gB,gC]
      refine YD (i:=6) w4 rfl rfl (YT tK rfl z7 w3) ?_;refine cT w4 ?_;simp only[go_sem,gA,gB,gC];refine ag (dq 99) ?_;refine ag (dj 40 99) ?_;refine wG tK ?_;refine ZB ⟨n::seen,hlt,ZU ?_ ?_ ?_⟩
      ·simp[go_sem,←hpt,hput,hlB];omega
      ·simp[go_sem,←hpt,hput,dO,ZN,htk,hB1]
      ·simp[go_sem]
     ·try simp only[go_sem,hA1,hB1,htk,gD,gE,gF,gG,gA,gB,gC]
      refine YD (i:=1) w4 rfl rfl (YT tK rfl y6 ?_) ?_
      ·skip
       try simp only[go_sem,hA1,hB1,htk,gD,gE,gF,gG,gA,gB,gC]
       simp;omega
      try simp only[go_sem,hA1,hB1,htk,gD,gE,gF,gG,gA,gB,gC]
      refine YD (i:=4) w4 rfl rfl (YT tK rfl y6 ?_) ?_
      ·simp[go_sem,qC,hA1,hB1,htk,gD,gE,gF,gG,gA,gB,gC];omega
      try simp only[go_sem,hA1,hB1,htk,gD,gE,gF,gG,gA,gB,gC]
      refine YD (i:=5) w4 rfl rfl (YT tK rfl j6 ?_) ?_
      ·simp[go_sem,hA1,hB1,htk,gD,gE,gF,gG,gA,gB,gC,hlB];omega
      try simp only[go_sem,hA1,hB1,htk,gD,gE,gF,gG,gA,gB,gC]
      refine YD (i:=6) w4 rfl rfl (YT tK rfl z7 w3) ?_;refine cT w4 ?_;simp only[go_sem,gA,gB,gC];refine ag (dq 99) ?_;refine ag (dj 40 99) ?_;refine wG tK ?_;refine ZB ⟨n::seen,hlt,ZU ?_ ?_ ?_⟩
      ·simp[go_sem,←hpt,hput,hlB];omega
      ·simp[go_sem,←hpt,hput,dO,ZN,htk,hB1]
      ·simp[go_sem]
    ·try simp only[go_sem,hA1,hB1,htk,gD,gE,gF,gG,gA,gB,gC]
     refine YD (i:=0) w4 rfl rfl (YT tK rfl z7 w3) ?_
     try simp only[go_sem,hA1,hB1,htk,gD,gE,gF,gG,gA,gB,gC]
     refine YD (i:=1) w4 rfl rfl (YT tK rfl y6 ?_) ?_
     ·skip
      try simp only[go_sem,hA1,hB1,htk,gD,gE,gF,gG,gA,gB,gC]
      simp;omega
     try simp only[go_sem,hA1,hB1,htk,gD,gE,gF,gG,gA,gB,gC]
     refine YD (i:=4) w4 rfl rfl (YT tK rfl y6 ?_) ?_
     ·simp[go_sem,qC,hA1,hB1,htk,gD,gE,gF,gG,gA,gB,gC];omega
     try simp only[go_sem,hA1,hB1,htk,gD,gE,gF,gG,gA,gB,gC]
     refine YD (i:=5) w4 rfl rfl (YT tK rfl j6 ?_) ?_
     ·simp[go_sem,hA1,hB1,htk,gD,gE,gF,gG,gA,gB,gC,hlB];omega
     try simp only[go_sem,hA1,hB1,htk,gD,gE,gF,gG,gA,gB,gC]
     refine YD (i:=6) w4 rfl rfl (YT tK rfl z7 w3) ?_;refine cT w4 ?_;simp only[go_sem,gA,gB,gC];refine ag (dq 99) ?_;refine ag (dj 40 99) ?_;refine wG tK ?_;refine ZB ⟨n::seen,hlt,ZU ?_ ?_ ?_⟩
     ·simp[go_sem,←hpt,hput,hlB];omega
     ·simp[go_sem,←hpt,hput,dO,ZN,htk,hB1]
     ·simp[go_sem]
theorem qR (l:List Node) (hu:Up l) (hlen:l.length≤50000000):ae Tryz.prog 97 [.rm (mN (bD l))] [] (λr _=>r=.sl (l.map ZN)):=by
 have h:=DK (bD l) (br l) (λp hp=>by
  rw[qS hu] at hp;obtain ⟨n,_,rfl⟩:=Wq.1 hp;rfl) (by rw[lR hu];exact hlen)
 have e:(bD l).map dO=l.map ZN:=by
  rw[qS hu,YX];rfl
 rwa [e] at h
end La
namespace La
open Go Go.Eng
def kh (l:List Node):List Node:=(bD l).map (·.2)
def CD (fid now:Int) (x:Kept):Kept:=if x.node.fid=fid then { x with last:=now } else x
theorem z_ (v:Bool) (x:Node):bW v x x=true:=by simp[bW]
theorem Aa (v:Bool) (l:List Node):er v l l=true:=(fD v l l).2 ⟨rfl,λj _=>z_ v _⟩
theorem Hv {l:List Kept} (hu:rb l=true) (fid now:Int):vY l fid now=l.map (CD fid now):=by
 have hU:nE l l.length:=of_decide_eq_true hu;unfold vY;cases hk:bT l fid with
 | none=>
  have hn:∀x,x∈l->x.node.fid≠fid:=λx hx e=>by
   have:=W3.1 hk x hx;simp[e] at this
  refine (List.ext_getElem? λj=>?_);rw[Wm];cases hj:l[j]? with
  | none=>rfl
  | some x=>simp[CD,hn x (Wn hj)]
 | some p=>
  obtain ⟨hp,hpf,hno⟩:=W5.1 hk;have hpf:l[p].node.fid=fid:=by simpa using hpf
  have hat:∀j (hj:j<l.length),l[j].node.fid=fid->j=p:=λj hj e=>by
   have hf:∀i (hi:i<l.length),wW l i=l[i].node.fid:=λi hi=>by unfold wW;rw[Wi,Wj hi];rfl
   rcases Nat.lt_trichotomy j p with h1 | h1 | h1
   ·exact absurd (by rw[hf j hj,hf p hp,e,hpf]) (hU p hp j h1)
   ·exact h1
   ·exact absurd (by rw[hf j hj,hf p hp,e,hpf]) (hU j hj p h1)
  refine List.ext_getElem? λj=>?_
  simp only;rw[Wm,YA]
  by_cases hjp:p=j
  ·subst hjp;rw[if_pos rfl,if_pos hp,Wj hp];simp[CD,hpf,Wi,Wj hp]
  ·rw[if_neg hjp];cases hj:l[j]? with
   | none=>rfl
   | some x=>
    obtain ⟨hjl,hje⟩:=Wp.1 hj;have:x.node.fid≠fid:=λe=>hjp (hat j hjl (by rw[hje];exact e)).symm
    simp[CD,this]
theorem vC {l:List Kept} (h:SmallK l):Small (aM l):=⟨by unfold aM;rw[List.length_map];exact h.len,λx hx=>by
 obtain ⟨k,hk,rfl⟩:=Wq.1 hx;exact h.each k hk⟩
theorem mC (l:List Node):∀i,∀p,p∈jh l i->p.2.fid=p.1
 | 0,p,hp=>by cases hp
 | i+1,p,hp=>by
  obtain ⟨k,x⟩:=p;have:=(bU (iM l i) k x).1 hp
  rcases this with ⟨rfl,rfl⟩ | ⟨_,h⟩
  ·rfl
  ·exact mC l i _ h
theorem qn:∀p q:List Node,p.Pairwise (λa b=>a.fid<b.fid)->q.Pairwise (λa b=>a.fid<b.fid)->(∀x,x∈p↔x∈q)->p=q
 | [],q,_,_,h=>by
  cases q with
  | nil=>rfl
  | cons b q=>exact absurd ((h b).2 List.mem_cons_self) y7
 | a::p,[],_,_,h=>absurd ((h a).1 List.mem_cons_self) y7
 | a::p,b::q,hp,hq,h=>by
  obtain ⟨hp1,hp2⟩:=List.pairwise_cons.1 hp;obtain ⟨hq1,hq2⟩:=List.pairwise_cons.1 hq;have e:a=b:=by
   rcases List.mem_cons.1 ((h a).1 List.mem_cons_self) with h1 | h1
   ·exact h1
   ·rcases List.mem_cons.1 ((h b).2 List.mem_cons_self) with h2 | h2
    ·exact h2.symm
    ·have:=hp1 b h2;have:=hq1 a h1;omega
  subst e;rw[qn p q hp2 hq2 λx=>⟨λhx=>?_,λhx=>?_⟩]
  ·rcases List.mem_cons.1 ((h x).1 (List.mem_cons_of_mem _ hx)) with h1 | h1
   ·have:=hp1 x hx;rw[h1] at this;omega
   ·exact h1
  ·rcases List.mem_cons.1 ((h x).2 (List.mem_cons_of_mem _ hx)) with h1 | h1
   ·have:=hq1 x hx;rw[h1] at this;omega
   ·exact h1
theorem ny (l:List Node):(kh l).Pairwise λa b=>a.fid<b.fid:=by
 unfold kh;rw[List.pairwise_map];refine List.Pairwise.imp_of_mem ?_ (br l);intro a b ha hb h;rw[mC l _ a ha,mC l _ b hb];exact h
theorem ug (l:List Node) (hd:∀i,i<l.length->∀j,j<i->fY l j≠fY l i):∀i,i≤l.length->∀j,j<i->(fY l j,l.getD j default)∈jh l i
 | 0,_,_,h=>by omega
 | i+1,hi,j,hj=>by
  refine (bU (iM l i) _ _).2 ?_
  by_cases e:j=i
  ·subst e;exact .inl ⟨rfl,rfl⟩
  ·exact .inr ⟨hd i z8 j z8,ug l hd i z8 j z8⟩
theorem uA (l:List Node) (hd:∀i,i<l.length->∀j,j<i->fY l j≠fY l i) (x:Node):x∈kh l↔x∈l:=by
 constructor
 ·intro h;obtain ⟨p,hp,rfl⟩:=Wq.1 h;exact pr l _ (Wt _) p hp
 ·intro h;obtain ⟨i,hi,rfl⟩:=List.getElem_of_mem h;refine Wq.2 ⟨(fY l i,l.getD i default),ug l hd _ (Wt _) i hi,?_⟩;rw[Wi,Wj hi];rfl
theorem sJ (l:List Node) (hd:∀i,i<l.length->∀j,j<i->fY l j≠fY l i) (p:List Node) (hp:p.Perm l) (hs:p.Pairwise λa b=>a.fid≤b.fid):p=kh l:=by
 have hne:l.Pairwise λa b=>a.fid≠b.fid:=by
  rw[List.pairwise_iff_getElem];intro i j hi hj hij;have:=hd j hj i hij;unfold fY at this;rw[Wi,Wi,Wj hi,Wj hj] at this;exact this
 have hnp:p.Pairwise λa b=>a.fid≠b.fid:=(hp.pairwise_iff (λh=>Ne.symm h)).2 hne
 refine qn _ _ ?_ (ny l) λx=>by rw[uA l hd,hp.mem_iff]
 rw[List.pairwise_iff_getElem] at *;intro i j hi hj hij;have h1:=hs i j hi hj hij;have h2:=hnp i j hi hj hij;omega
theorem uz (l:List Node) (hd:∀i,i<l.length->∀j,j<i->fY l j≠fY l i):(kh l).length=l.length:=by
 have h1:=List.mergeSort_perm l (λa b=>decide (a.fid≤b.fid));have h2:=List.pairwise_mergeSort (le:=λa b:Node=>decide (a.fid≤b.fid)) (by intro a b c;simp;omega) (by intro a b;simp;omega) l;rw[←sJ l hd _ h1 (h2.imp y7)];exact h1.length_eq
end La
namespace La
open Go Go.Eng Go.Proofs
theorem vj {l:List Kept} {room:Int} {k:Kept} (hl:SmallK l) (hk:k.node.Small) (h:cK l room k=none):ae Tryz.prog 112 [.sl (l.map ZK),.int .i64 room,.agg (ZK k)] [] (λr _=>r=.tup [.sl (([]:List Kept).map ZK),.int .i64 5]):=by
 have:=AX l room k hl hk;unfold pS at this;rw[h] at this;exact this
theorem DG {l L:List Kept} {room:Int} {k:Kept} (hl:SmallK l) (hk:k.node.Small) (h:cK l room k=some L):ae Tryz.prog 112 [.sl (l.map ZK),.int .i64 room,.agg (ZK k)] [] (λr _=>r=.tup [.sl (L.map ZK),.int .i64 0]):=by
 have:=AX l room k hl hk;unfold pS at this;rw[h] at this;exact this
theorem l_ {l:List Kept} {room:Int} {k:Kept} (hl:l.length≤90000000) (h:cK l room k=none):ae Tryz.prog 98 [.sl (l.map ZK),.int .i64 room,.agg (ZK k)] [] (λr _=>r=.tup [.sl (([]:List Kept).map ZK),.int .i64 5]):=by
 have:=yf l room k hl;unfold pS at this;rw[h] at this;exact this
theorem kd {l L:List Kept} {room:Int} {k:Kept} (hl:l.length≤90000000) (h:cK l room k=some L):ae Tryz.prog 98 [.sl (l.map ZK),.int .i64 room,.agg (ZK k)] [] (λr _=>r=.tup [.sl (L.map ZK),.int .i64 0]):=by
 have:=yf l room k hl;unfold pS at this;rw[h] at this;exact this
theorem tw (a:List Kept) (ha:SmallK a):ae Tryz.prog 55 [.sl (a.map ZK),.sl (a.map ZK)] [] (λr _=>r=.bool true):=by
 have:=yn a a ha ha;simpa using this
theorem Ci (a:List Node) (ha:Small a):ae Tryz.prog 53 [.sl (a.map ZN),.sl (a.map ZN),.bool true] [] (λr _=>r=.bool true):=by
 have:=Gw a a true ha ha
 rwa [Aa] at this
theorem tx (l:List Past) (hl:l.length≤100000000):ae Tryz.prog 54 [.sl (l.map ZP),.sl (l.map ZP)] [] (λr _=>r=.bool true):=by
 refine ZF tK (Tryz.func54) rfl (λC=>?_);simp only[Tryz.ntmps54,Tryz.results54,go_sem];refine wG tK ?_;refine wDF (hb:=y7) (hk:=?_);refine wG tK ?_;refine ZL (λi:Nat=>i≤l.length) (λi=>l.length-i) (λi=>(13,.int .i64 i)::(5,.any)::u0 14 28 []) (λ_=>[]) 0 z8 ?_ λi hi=>?_
 ·simp only[go_sem];exact ZU w3 w3 s7
 simp only[go_sem];refine wG tK ?_;refine wD (λh=>?_) (λh=>?_)
 ·have hlt:i<l.length:=by simp at h;omega
  have hg:(l.map ZP).getD i []=ZP (l.getD i default):=Fam.getD hlt;have hw:=wi1 (i:=i) z8;generalize l.getD i default=x at hg;have hsa:=sA x.act x.act;rw[decide_eq_true (rfl:x.act=x.act)] at hsa;unfold ZA at hsa;refine wG tK ?_;refine ZW ZM ?_;refine ZS rfl ?_;refine sNq tK 12 ?_ ?_ z6 z6 Qk
  ·simp[hg,ZP,hlt]
  refine sNq tK 10 ?_ ?_ z6 z6 Qk
  ·simp[hg,ZP,hlt]
  refine sCC Tryz.func88 (hf:=λhb=>(hsa)) (hk:=?_);refine sN tK 2 ?_;refine sE ?_;refine wKd ?_;refine wG tK ?_;refine wDF (hb:=y7) (hk:=?_);refine wG tK ?_ w5 k0;refine ZB ⟨i+1,by omega,by omega,ZU ?_ ?_ ?_⟩
  ·simp[go_sem]
  ·simp[go_sem]
  ·simp[go_sem]
 ·refine wG tK ?_;refine wT ?_;rfl
theorem qE (s:Srv) (ht:Small s.tree) (hp:s.past.length≤100000000):ae Tryz.prog 36 [.agg (ZQ s),.agg (ZQ s)] [] (λr _=>r=.bool true):=by
 have h1:=Ci s.tree ht;have h2:=tx s.past hp;unfold ZQ;refine ZF tK (Tryz.func36) rfl (λC=>?_);simp only[Tryz.ntmps36,Tryz.results36,go_sem];refine wR ?_;refine wN tK 3 ?_;refine wR ?_;refine wN tK 6 ?_;refine ak 10 z6 (λc10 h10=>?_);simp only[go_sem];have hc:c10=true:=by rw[←h10];simp
 subst hc;clear h10;refine wN tK 4 ?_;refine wCC Tryz.func53 (hf:=λhb=>(h1)) (hk:=?_);refine wN tK 2 ?_;refine ak 17 z6 (λc17 h17=>?_);simp only[go_sem];have hc:c17=true:=by rw[←h17];rfl
 subst hc;clear h17;refine wN tK 4 ?_;refine wCC Tryz.func54 (hf:=λhb=>(h2)) (hk:=?_);refine wG tK ?_;refine wT ?_;rfl
def kz (j:JS):List AV:=[.sl (j.l.map ZN),.int .i64 j.next,.int .i64 j.version,.mp 25,.mp 26,.mp 27]
def jB (j:JS):List (Nat×Blk):=[(29,.cells 200 6 [kz j]),(27,.map (mB j.lost)),(26,.map (mB j.ours)),(25,.map (mI j.own))]
def jH (j:JS) (G Y N:Nat->Nat):List (Nat×Blk):=jB j++pins [29,25,26,27] G Y N
def jcH (j:JS) (G Y N:Nat->Nat):List (Nat×Blk):=([(2,.cells 198 1 [[.ptr 29 6 0 0]])]++jB j)++pins [29,25,26,27,2] G Y N
def jaH (j:JS) (a:Act) (G Y N:Nat->Nat):List (Nat×Blk):=([(6,.cells 49 7 [ZA a])]++jB j)++pins [29,25,26,27,6] G Y N
def Holds (L H:List (Nat×Blk)):Prop:=∀i b,aa L i=some b->aa H i=some b
theorem YH (H:List (Nat×Blk)):Holds [] H:=λ_ _ h=>nomatch h
theorem ZH {L H:List (Nat×Blk)} {k:Nat} {B:Blk} (h:aa H k=some B) (hL:Holds L H):Holds ((k,B)::L) H:=λi b hb=>by
 simp only[aa] at hb;split at hb
 ·rename_i e;subst e;rw[h];exact hb
 ·exact hL i b hb
theorem H_ (j:JS) (f:Int) (G Y N:Nat->Nat):ae Tryz.prog 166 [.ptr 29 6 0 0,.int .i64 f] (jH j G Y N) (λr H=>r=.int .i64 (atF j.own f)/\Holds (jH j G Y N) H):=by
 unfold jH jB kz atF;refine ZF tK (Tryz.func166) rfl (λC=>?_);simp only[Tryz.ntmps166,Tryz.results166,go_sem];refine wR ?_;refine wN tK 1 ?_;refine wR ?_;refine wN tK 5 ?_;refine wG tK ?_;cases e:gT j.own f with
 | true=>
  refine wDT (hb:=(by simp[e])) (hk:=?_);refine wG tK ?_;refine wT ?_;exact ⟨rfl,λi b hb=>hb⟩
 | false=>
  refine wDF (hb:=(by simp[e])) (hk:=?_);refine wG tK ?_;refine wT ?_;exact ⟨rfl,λi b hb=>hb⟩
theorem F7 (j:JS) (f:Int) (G Y N:Nat->Nat):ae Tryz.prog 193 [.int .i64 f,.ptr 2 1 0 0] (jcH j G Y N) (λr H=>r=.bool (cO j.lost f)/\Holds (jcH j G Y N) H):=by
 unfold jcH jB kz;refine ZF tK (Tryz.func193) rfl (λC=>?_);simp only[Tryz.ntmps193,Tryz.results193,go_sem];refine wG tK ?_;refine wT ?_;exact ⟨rfl,λi b hb=>hb⟩
theorem zz (j:JS) (l:List Int) (hlen:l.length≤100000000) (G Y N:Nat->Nat):ae Tryz.prog 219 [.sl (l.map ZI),.fn 193 [.ptr 2 1 0 0]] (jcH j G Y N)
  (λr H=>r=.int .i64 (cc (l.findIdx? (cO j.lost)))/\Holds (jcH j G Y N) H):=by
 unfold jcH jB kz;refine ZF tK (Tryz.func219) rfl (λC=>?_);simp only[Tryz.ntmps219,Tryz.results219,go_sem];refine wG tK ?_;refine ZL (λi:Nat=>i≤l.length/\∀x,x∈l.take i->cO j.lost x=false) (λi=>l.length-i) (λi=>(8,.int .i64 i)::(5,.any)::u0 9 10 []) (λ_=>[]) 0 ⟨by omega,by simp⟩ ?_ λi hi=>?_
 ·simp only[go_sem];exact ZU w3 w3 w3
 obtain ⟨hi,hno⟩:=hi;simp only[go_sem];refine wG tK ?_;refine wD (λh=>?_) (λh=>?_)
 ·have hlt:i<l.length:=by simp at h;omega
  have hg:(l.map ZI).getD i []=ZI (l.getD i default):=Fam.getD hlt;have htk:=ZT hlt;have hgi:l[i]? = some (l.getD i default):=by rw[Wi,Wj hlt];rfl
  have hc:=F7 j (l.getD i default);unfold jcH jB kz at hc;generalize l.getD i default=n at hg htk hgi hc;refine wGq tK ?_ ?_ Q9
  ·simp[hlt,ZI]
  refine wP [29,25,26,27,2] Tryz.func193 (hf:=(hc)) (hk:=?_);refine wG tK ?_;refine wD (λh=>?_) (λh=>?_)
  ·refine wG tK ?_;refine wU ?_ ?_
   ·rw[eA hgi hno h];rfl
   ·exact q9
  ·have hw:IntKind.i64.wrap ((i:Int)+1)=(i:Int)+1:=wrap_small z8 z8;refine wG tK ?_ w5 k0;refine ZB ⟨i+1,⟨by omega,?_⟩,by omega,ZU ?_ ?_ ?_⟩
   ·rw[htk];intro x hx
    rcases List.mem_append.1 hx with hx | hx
    ·exact hno x hx
    ·rw[List.mem_singleton.1 hx];exact h
   ·simp[go_sem]
   ·simp[go_sem]
   ·simp[go_sem]
 ·have e:i=l.length:=by simp at h;omega
  refine wG tK ?_;refine wU ?_ ?_
  ·rw[e,Wo] at hno;rw[W3.2 hno];rfl
  ·exact q9
theorem zy (j:JS) (l:List Int) (hlen:l.length≤100000000) (G Y N:Nat->Nat):ae Tryz.prog 192 [.sl (l.map ZI),.fn 193 [.ptr 2 1 0 0]] (jcH j G Y N)
  (λr H=>r=.bool (l.any (cO j.lost))/\Holds (jcH j G Y N) H):=by
 have hc:=zz j l hlen;unfold jcH jB kz at hc ⊢;refine ZF tK (Tryz.func192) rfl (λC=>?_);simp only[Tryz.ntmps192,Tryz.results192,go_sem];refine wG tK ?_;refine wP [29,25,26,27,2] Tryz.func219 (hf:=(hc)) (hk:=?_);refine wG tK ?_;refine wU ?_ ?_
 ·rw[lO]
 ·exact q9
theorem Ea (j:JS) (a:Act) (G Y N:Nat->Nat):ae Tryz.prog 165 [.ptr 29 6 0 0,.ptr 6 7 0 0] (jaH j a G Y N) (λr H=>r=.bool (fV j a)/\Holds (jaH j a G Y N) H):=by
 have hc:=zy j (bQ a) (by have:=ff a;omega);have hf:=uZ a;unfold fV;generalize (bQ a).any (cO j.lost)=z at hc ⊢;generalize bQ a=l at hc hf;unfold jcH jB kz at hc;unfold ZA at hf;unfold jaH jB kz ZA;refine ZF tK (Tryz.func165) rfl (λC=>?_);simp only[Tryz.ntmps165,Tryz.results165,go_sem];refine wG tK ?_;refine wC Tryz.func126 (hf:=(hf)) (hk:=?_);refine wG tK ?_;refine wP [29,25,26,27,2] Tryz.func192 (hf:=(hc)) (hk:=?_);refine wG tK ?_;refine wU ?_ ?_
 ·rfl
 ·exact q9
theorem Eu (j:JS) (r:Rec) (a:Act) (hl:Small j.l) (G Y N:Nat->Nat):ae Tryz.prog 167 [.ptr 29 6 0 0,.rp (ZR r) 0,.ptr 6 7 0 0] (jaH j a G Y N) (λx H=>x=.bool (fa j r a)/\Holds (jaH j a G Y N) H):=by
 have hf:=eo j.l a.fid hl;unfold fa;unfold jaH jB kz ZA ZR;refine ZF tK (Tryz.func167) rfl (λC=>?_);simp only[Tryz.ntmps167,Tryz.results167,go_sem];refine wG tK ?_;refine ZW ZM ?_;refine ZS rfl ?_;refine sN tK 12 ?_;refine dW 20 z6 (λc20 h20=>?_);simp only[go_sem];refine sN tK 7 ?_;refine dW 27 z6 (λc27 h27=>?_);simp only[go_sem];refine sG tK ?_;refine sE ?_;refine wKd ?_
 try simp only[go_sem,gA,gB,gC]
 refine wR ?_;refine ak 38 z6 (λc38 h38=>?_);simp only[go_sem];have hst:(((a.kind≠3/\a.kind≠4)\/r.version<0)\/cO j.ours a.fid=true)↔c38=true:=by
  subst h38 h27 h20;simp[cJ,eO]
 clear h38 h27 h20;cases c38 with
 | true=>
  rw[if_pos (hst.2 rfl)];refine wDT (hb:=(rfl)) (hk:=?_);refine wG tK ?_;refine wU ?_ ?_
  ·rfl
  ·exact q9
 | false=>
  rw[if_neg (λh=>nomatch hst.1 h)];refine wDF (hb:=(rfl)) (hk:=?_);refine wG tK ?_;refine ZW ZM ?_;refine ZS rfl ?_;refine sN tK 8 ?_;refine sC Tryz.func82 (hf:=(hf)) (hk:=?_);simp only[go_sem,gf];rw[cE];cases aj j.l a.fid with
  | none=>
   simp only[Option.getD_none,Option.isSome_none];refine sG tK ?_;refine sW tK ?_;simp only[go_sem,ZN,aw];refine sT tK ?_;refine sE ?_;refine dS tK ?_;refine wKd ?_
   try simp only[go_sem,gA,gB,gC]
   refine wG tK ?_;refine ZW ZM ?_;refine ZS rfl ?_;refine sG tK ?_;refine sE ?_;refine wKd ?_
   try simp only[go_sem,gA,gB,gC]
   refine wG tK ?_;refine wU ?_ ?_
   ·rfl
   ·exact q9
  | some n=>
   simp only[Option.getD_some,Option.isSome_some];refine sG tK ?_;refine sW tK ?_;simp only[go_sem,ZN];refine sT tK ?_;refine sE ?_;refine dS tK ?_;refine wKd ?_
   try simp only[go_sem,gA,gB,gC]
   refine wG tK ?_;refine ZW ZM ?_;refine ZS rfl ?_;refine sG tK ?_;refine sE ?_;refine wKd ?_
   try simp only[go_sem,gA,gB,gC]
   refine wG tK ?_;refine wU ?_ ?_
   ·rfl
   ·exact q9
theorem BW {j:JS} {r:Rec} (h:fV j r.act=true):jx j r=⟨14,0⟩/\jw j r=r.act/\e_ j r=j:=by
 simp[jx,jw,e_,i_,h]
theorem DW {j:JS} {r:Rec} (h:fV j r.act=false) (h1:aN r.act=true) (h2:gT j.own r.act.fid=true\/r.act.fid≥0):jx j r=⟨2,0⟩/\jw j r=r.act/\e_ j r=j:=by
 simp[jx,jw,e_,i_,h,h1,h2]
theorem BX {j:JS} {r:Rec} (h:fV j r.act=false) (h1:¬(aN r.act=true/\(gT j.own r.act.fid=true\/r.act.fid≥0))) (h2:fa { j with own:=cr j r } r (bH j r)=true) :
  jx j r=⟨13,0⟩/\jw j r=bH j r/\e_ j r={ j with own:=cr j r }:=by
 simp[jx,jw,e_,i_,h,h1,h2]
theorem Gh {j:JS} {r:Rec} (h:fV j r.act=false) (h1:¬(aN r.act=true/\(gT j.own r.act.fid=true\/r.act.fid≥0))) (h2:fa { j with own:=cr j r } r (bH j r)=false) (h3:aD j.l (bH j r)≠0) :
  jx j r=⟨aD j.l (bH j r),0⟩/\jw j r=bH j r/\e_ j r={ j with own:=if aN r.act=true then ec (cr j r) r.act.fid else cr j r }:=by
 simp[jx,jw,e_,i_,h,h1,h2,h3]
theorem DV {j:JS} {r:Rec} (h:fV j r.act=false) (h1:¬(aN r.act=true/\(gT j.own r.act.fid=true\/r.act.fid≥0))) (h2:fa { j with own:=cr j r } r (bH j r)=false) (h3:aD j.l (bH j r)=0) :
  jx j r=⟨0,(bH j r).fid⟩/\jw j r=bH j r/\e_ j r={ j with l:=aH j.l (bH j r) j.version,next:=if aN r.act=true then j.next+1 else j.next,version:=j.version+1,own:=cr j r }:=by
 simp[jx,jw,e_,i_,h,h1,h2,h3]
theorem Im (j:JS) (r:Rec) (hg:Good j.l) (hr:ActFit r.act) (hn:j.next.natAbs≤90000000) (hv:j.version.natAbs≤90000000) (G Y N:Nat->Nat):ae Tryz.prog 125 [.ptr 29 6 0 0,.rp (ZR r) 0] (jH j G Y N)
  (λx H=>x=.tup [.agg (ZV (jx j r)),.agg (ZA (jw j r))]/\Holds (jH (e_ j r) G Y N) H):=by
 have how:=lx r.act hr.data;have hre:=Ea j r.act;have q0:=@BW j r;have q1:=@DW j r;have q2:=@BX j r;have q3:=@Gh j r;have q4:=@DV j r;have hfid:∀f (G Y N:Nat->Nat),ae Tryz.prog 166 [.ptr 29 6 0 0,.int .i64 f] (jH { j with own:=cr j r } G Y N) (λx H=>x=.int .i64 (atF (cr j r) f)/\Holds (jH { j with own:=cr j r } G Y N) H):=λf=>H_ { j with own:=cr j r } f
 unfold jH jB kz at hfid;simp only at hfid;have hst:=Eu { j with own:=cr j r } r (bH j r) hg.small;have hap:=m_ hg (bH j r) j.version (rh hr);have hwn:IntKind.i64.wrap (j.next+1)=j.next+1:=Eng.wrap_small z8 z8;have hwv:IntKind.i64.wrap (j.version+1)=j.version+1:=Eng.wrap_small z8 z8;unfold jaH jB kz at hst;unfold oJ at hap;generalize fa { j with own:=cr j r } r (bH j r)=st at *;generalize aD j.l (bH j r)=E at *;generalize aH j.l (bH j r) j.version=L at *;simp only[ZA,bH] at hst hap;generalize jx j r=V at *;generalize jw j r=A at *;generalize e_ j r=J at *;unfold jaH jB kz ZA at hre;unfold ZA at how;unfold jH jB kz ZR;refine ZF tK (Tryz.func125) rfl (λC=>?_);simp only[Tryz.ntmps125,Tryz.results125,go_sem];refine wG tK ?_;refine wC Tryz.func67 (hf:=(how)) (hk:=?_);refine wG tK ?_;refine wP [29,25,26,27,6] Tryz.func165 (hf:=(hre)) (hk:=?_);cases h0:fV j r.act with
 | true=>
  obtain ⟨e1,e2,e3⟩:=q0 h0;refine wG tK ?_;refine wDT (hb:=(rfl)) (hk:=?_);refine wG tK ?_;refine ZW ZM ?_;refine ZS rfl ?_;refine sB tK ?_;refine sN tK 1 ?_;refine sT tK ?_;refine sT tK ?_;refine sE ?_;refine wKd ?_
  try simp only[go_sem,gA,gB,gC]
  refine wG tK ?_;refine wU ?_ ?_
  ·simp[ZV,ZA,e1,e2]
  ·rw[e3];simp only[pins,List.cons_append,List.nil_append,List.map_cons,List.map_nil]
   repeat' refine ZH ?_ ?_
   all_goals first | exact YH _ | rfl | simp[go_sem]
 | false=>
  clear q0;refine wG tK ?_;refine wDF (hb:=(rfl)) (hk:=?_);refine wR ?_;refine wN tK 8 ?_;refine ak 28 z6 (λc28 h28=>?_);simp only[go_sem];have h28':c28=aN r.act:=by rw[←h28,eO];rfl
  clear h28;subst h28';refine wG tK ?_;cases h1:aN r.act with
  | true=>
   refine wDT (hb:=(rfl)) (hk:=?_);refine wG tK ?_;refine ZW ZM ?_;refine ZS rfl ?_;refine sG tK ?_;refine sE ?_;refine wKd ?_
   try simp only[go_sem,gA,gB,gC]
   refine wG tK ?_;cases h2:(gT j.own r.act.fid||decide (r.act.fid≥0)) with
   | true=>
    obtain ⟨e1,e2,e3⟩:=q1 h0 h1 WH;refine wDT (hb:=(by simpa[eO] using h2)) (hk:=?_);refine wG tK ?_;refine ZW ZM ?_;refine ZS rfl ?_;refine sB tK ?_;refine sN tK 1 ?_;refine sT tK ?_;refine sT tK ?_;refine sE ?_;refine wKd ?_
    try simp only[go_sem,gA,gB,gC]
    refine wG tK ?_;refine wU ?_ ?_
    ·simp[ZV,ZA,e1,e2]
    ·rw[e3];simp only[pins,List.cons_append,List.nil_append,List.map_cons,List.map_nil]
     repeat' refine ZH ?_ ?_
     all_goals first | exact YH _ | rfl | simp[go_sem]
   | false=>
    refine wDF (hb:=(by simpa[eO] using h2)) (hk:=?_);refine wG tK ?_;refine ZW ZM ?_;refine ZS rfl ?_;refine sN tK 10 ?_;refine sE ?_;refine dS tK ?_;refine wKd ?_
    try simp only[go_sem,gA,gB,gC]
    refine wG tK ?_;have ho:cr j r=bt j.own r.act.fid j.next:=by unfold cr;rw[if_pos h1]
    rw[←ho];have hnf:¬(aN r.act=true/\(gT j.own r.act.fid=true\/r.act.fid≥0)):=λhh=>by
     have:=hh.2;simp only[Bool.or_eq_false_iff,decide_eq_false_iff_not] at h2
     rcases this with h | h
     ·rw[h2.1] at h;cases h
     ·exact h2.2 h
    clear h2;have hk5:¬r.act.kind=5:=λe=>by simp[aN,e] at h1
    have hT:(if r.act.kind=5 then atF (cr j r) r.act.to else r.act.to)=r.act.to:=if_neg hk5;rw[hT] at hst hap
    -- the bQ as they are here
    refine ZW ZM ?_;refine ZS rfl ?_;refine sN tK 3 ?_;refine dA rfl rfl z7 w3 ⟨_,Tryz.func166,by kernel_rfl,rfl⟩ [29,25,26,27] w8 w3 y7 w3 w3 (hfid r.act.fid) z6 w9 ?_;refine sN tK 3 ?_;refine dA rfl rfl z7 w3 ⟨_,Tryz.func166,by kernel_rfl,rfl⟩ [29,25,26,27] w8 w3 y7 w3 w3 (hfid r.act.dir) z6 w9 ?_;refine sN tK 1 ?_;refine sT tK ?_;refine sN tK 1 ?_;refine sT tK ?_;refine sE ?_;refine wKd ?_
    try simp only[go_sem,gA,gB,gC]
    refine wG tK ?_;refine wDF (hb:=WA) (hk:=?_);refine wG tK ?_;refine wP [29,25,26,27,6] Tryz.func167 (hf:=(hst)) (hk:=?_);refine wG tK ?_;cases st with
    | true=>
     obtain ⟨e1,e2,e3⟩:=q2 h0 hnf rfl;refine wDT (hb:=(rfl)) (hk:=?_);refine wG tK ?_;refine ZW ZM ?_;refine ZS rfl ?_;refine sB tK ?_;refine sN tK 1 ?_;refine sT tK ?_;refine sT tK ?_;refine sE ?_;refine wKd ?_
     try simp only[go_sem,gA,gB,gC]
     refine wG tK ?_;refine wU ?_ ?_
     ·simp[ZV,ZA,e1,e2,bH,hk5]
     ·rw[e3];simp only[pins,List.cons_append,List.nil_append,List.map_cons,List.map_nil]
      repeat' refine ZH ?_ ?_
      all_goals first | exact YH _ | rfl | simp[go_sem]
    | false=>
     refine wDF (hb:=(rfl)) (hk:=?_);refine wG tK ?_
     by_cases hE:E=0
     ·obtain ⟨e1,e2,e3⟩:=q4 h0 hnf rfl hE;subst hE;rw[h1] at e3;simp only[if_true,Bool.false_eq_true,if_false] at hap e3;refine ZW ZM ?_;refine ZS rfl ?_;refine sN tK 9 ?_;refine sC Tryz.func109 (hf:=(hap)) (hk:=?_);refine sG tK ?_;refine sE ?_;refine wKd ?_
      try simp only[go_sem,gA,gB,gC]
      refine wG tK ?_;refine wDF (hb:=y7) (hk:=?_);refine wG tK ?_ QH Qs;refine wDT (hb:=y7) (hk:=?_);refine wG tK ?_ QH Qs;refine ZW ZM ?_;refine ZS rfl ?_;refine sN tK 2 ?_;refine sB tK ?_;refine sN tK 1 ?_;refine sT tK ?_;refine sT tK ?_;refine sE ?_;refine wKd ?_
      try simp only[go_sem,gA,gB,gC]
      refine wG tK ?_;refine wU ?_ ?_
      ·simp[ZV,ZA,e1,e2,bH,hk5]
      ·rw[e3];simp only[pins,List.cons_append,List.nil_append,List.map_cons,List.map_nil]
       repeat' refine ZH ?_ ?_
       all_goals first | exact YH _ | rfl | simp[go_sem]
     ·obtain ⟨e1,e2,e3⟩:=q3 h0 hnf rfl hE;rw[h1] at e3;simp only[hE,if_true,Bool.false_eq_true,if_false] at hap e3;refine ZW ZM ?_;refine ZS rfl ?_;refine sN tK 9 ?_;refine sC Tryz.func109 (hf:=(hap)) (hk:=?_);refine sG tK ?_;refine sE ?_;refine wKd ?_
      try simp only[go_sem,gA,gB,gC]
      refine wG tK ?_;refine wDT (hb:=u2) (hk:=?_);refine wG tK ?_;refine wDT (hb:=y7) (hk:=?_);refine wG tK ?_;refine ZW ZM ?_;refine ZS rfl ?_;refine sN tK 9 ?_;refine sE ?_;refine dS tK ?_;refine wKd ?_
      try simp only[go_sem,gA,gB,gC]
      refine wG tK ?_;refine ZW ZM ?_;refine ZS rfl ?_;refine sN tK 1 ?_;refine sB tK ?_;refine sN tK 1 ?_;refine sT tK ?_;refine sT tK ?_;refine sE ?_;refine wKd ?_
      try simp only[go_sem,gA,gB,gC]
      refine wG tK ?_;refine wU ?_ ?_
      ·simp[ZV,ZA,e1,e2,bH,hk5]
      ·rw[e3];simp only[pins,List.cons_append,List.nil_append,List.map_cons,List.map_nil]
       repeat' refine ZH ?_ ?_
       all_goals first | exact YH _ | rfl | simp[go_sem]
  | false=>
   refine wDF (hb:=(rfl)) (hk:=?_);refine wG tK ?_;have ho:cr j r=j.own:=by unfold cr;rw[h1];rfl
   have hnf:¬(aN r.act=true/\(gT j.own r.act.fid=true\/r.act.fid≥0)):=λhh=>by rw[h1] at hh;cases hh.1
   rw[←ho]
   -- the bQ as they are here
   refine ZW ZM ?_;refine ZS rfl ?_;refine sN tK 3 ?_;refine dA rfl rfl z7 w3 ⟨_,Tryz.func166,by kernel_rfl,rfl⟩ [29,25,26,27] w8 w3 y7 w3 w3 (hfid r.act.fid) z6 w9 ?_;refine sN tK 3 ?_;refine dA rfl rfl z7 w3 ⟨_,Tryz.func166,by kernel_rfl,rfl⟩ [29,25,26,27] w8 w3 y7 w3 w3 (hfid r.act.dir) z6 w9 ?_;refine sN tK 1 ?_;refine sT tK ?_;refine sN tK 1 ?_;refine sT tK ?_;refine sE ?_;refine wKd ?_
   try simp only[go_sem,gA,gB,gC]
   refine wG tK ?_
   by_cases hk5:r.act.kind=5
   ·have hT:(if r.act.kind=5 then atF (cr j r) r.act.to else r.act.to)=atF (cr j r) r.act.to:=if_pos hk5;rw[hT] at hst hap;refine wDT (hb:=WA) (hk:=?_);refine wG tK ?_;refine wP [29,25,26,27] Tryz.func166 (hf:=(hfid r.act.to)) (hk:=?_);refine wG tK ?_;refine wP [29,25,26,27,6] Tryz.func167 (hf:=(hst)) (hk:=?_);refine wG tK ?_;cases st with
    | true=>
     obtain ⟨e1,e2,e3⟩:=q2 h0 hnf rfl;refine wDT (hb:=(rfl)) (hk:=?_);refine wG tK ?_;refine ZW ZM ?_;refine ZS rfl ?_;refine sB tK ?_;refine sN tK 1 ?_;refine sT tK ?_;refine sT tK ?_;refine sE ?_;refine wKd ?_
     try simp only[go_sem,gA,gB,gC]
     refine wG tK ?_;refine wU ?_ ?_
     ·simp[ZV,ZA,e1,e2,bH,hk5]
     ·rw[e3];simp only[pins,List.cons_append,List.nil_append,List.map_cons,List.map_nil]
      repeat' refine ZH ?_ ?_
      all_goals first | exact YH _ | rfl | simp[go_sem]
    | false=>
     refine wDF (hb:=(rfl)) (hk:=?_);refine wG tK ?_
     by_cases hE:E=0
     ·obtain ⟨e1,e2,e3⟩:=q4 h0 hnf rfl hE;subst hE;rw[h1] at e3;simp only[if_true,Bool.false_eq_true,if_false] at hap e3;refine ZW ZM ?_;refine ZS rfl ?_;refine sN tK 9 ?_;refine sC Tryz.func109 (hf:=(hap)) (hk:=?_);refine sG tK ?_;refine sE ?_;refine wKd ?_
      try simp only[go_sem,gA,gB,gC]
      refine wG tK ?_;refine wDF (hb:=y7) (hk:=?_);refine wG tK ?_ QH Qs;refine wDF (hb:=y7) (hk:=?_);refine wG tK ?_ QH Qs;refine ZW ZM ?_;refine ZS rfl ?_;refine sN tK 2 ?_;refine sB tK ?_;refine sN tK 1 ?_;refine sT tK ?_;refine sT tK ?_;refine sE ?_;refine wKd ?_
      try simp only[go_sem,gA,gB,gC]
      refine wG tK ?_;refine wU ?_ ?_
      ·simp[ZV,ZA,e1,e2,bH,hk5]
      ·rw[e3];simp only[pins,List.cons_append,List.nil_append,List.map_cons,List.map_nil]
       repeat' refine ZH ?_ ?_
       all_goals first | exact YH _ | rfl | simp[go_sem]
     ·obtain ⟨e1,e2,e3⟩:=q3 h0 hnf rfl hE;rw[h1] at e3;simp only[hE,if_true,Bool.false_eq_true,if_false] at hap e3;refine ZW ZM ?_;refine ZS rfl ?_;refine sN tK 9 ?_;refine sC Tryz.func109 (hf:=(hap)) (hk:=?_);refine sG tK ?_;refine sE ?_;refine wKd ?_
      try simp only[go_sem,gA,gB,gC]
      refine wG tK ?_;refine wDT (hb:=u2) (hk:=?_);refine wG tK ?_;refine wDF (hb:=y7) (hk:=?_);refine wG tK ?_;refine ZW ZM ?_;refine ZS rfl ?_;refine sN tK 1 ?_;refine sB tK ?_;refine sN tK 1 ?_;refine sT tK ?_;refine sT tK ?_;refine sE ?_;refine wKd ?_
      try simp only[go_sem,gA,gB,gC]
      refine wG tK ?_;refine wU ?_ ?_
      ·simp[ZV,ZA,e1,e2,bH,hk5]
      ·rw[e3];simp only[pins,List.cons_append,List.nil_append,List.map_cons,List.map_nil]
       repeat' refine ZH ?_ ?_
       all_goals first | exact YH _ | rfl | simp[go_sem]
   ·have hT:(if r.act.kind=5 then atF (cr j r) r.act.to else r.act.to)=r.act.to:=if_neg hk5;rw[hT] at hst hap;refine wDF (hb:=WA) (hk:=?_);refine wG tK ?_;refine wP [29,25,26,27,6] Tryz.func167 (hf:=(hst)) (hk:=?_);refine wG tK ?_;cases st with
    | true=>
     obtain ⟨e1,e2,e3⟩:=q2 h0 hnf rfl;refine wDT (hb:=(rfl)) (hk:=?_);refine wG tK ?_;refine ZW ZM ?_;refine ZS rfl ?_;refine sB tK ?_;refine sN tK 1 ?_;refine sT tK ?_;refine sT tK ?_;refine sE ?_;refine wKd ?_
     try simp only[go_sem,gA,gB,gC]
     refine wG tK ?_;refine wU ?_ ?_
     ·simp[ZV,ZA,e1,e2,bH,hk5]
     ·rw[e3];simp only[pins,List.cons_append,List.nil_append,List.map_cons,List.map_nil]
      repeat' refine ZH ?_ ?_
      all_goals first | exact YH _ | rfl | simp[go_sem]
    | false=>
     refine wDF (hb:=(rfl)) (hk:=?_);refine wG tK ?_
     by_cases hE:E=0
     ·obtain ⟨e1,e2,e3⟩:=q4 h0 hnf rfl hE;subst hE;rw[h1] at e3;simp only[if_true,Bool.false_eq_true,if_false] at hap e3;refine ZW ZM ?_;refine ZS rfl ?_;refine sN tK 9 ?_;refine sC Tryz.func109 (hf:=(hap)) (hk:=?_);refine sG tK ?_;refine sE ?_;refine wKd ?_
      try simp only[go_sem,gA,gB,gC]
      refine wG tK ?_;refine wDF (hb:=y7) (hk:=?_);refine wG tK ?_ QH Qs;refine wDF (hb:=y7) (hk:=?_);refine wG tK ?_ QH Qs;refine ZW ZM ?_;refine ZS rfl ?_;refine sN tK 2 ?_;refine sB tK ?_;refine sN tK 1 ?_;refine sT tK ?_;refine sT tK ?_;refine sE ?_;refine wKd ?_
      try simp only[go_sem,gA,gB,gC]
      refine wG tK ?_;refine wU ?_ ?_
      ·simp[ZV,ZA,e1,e2,bH,hk5]
      ·rw[e3];simp only[pins,List.cons_append,List.nil_append,List.map_cons,List.map_nil]
       repeat' refine ZH ?_ ?_
       all_goals first | exact YH _ | rfl | simp[go_sem]
     ·obtain ⟨e1,e2,e3⟩:=q3 h0 hnf rfl hE;rw[h1] at e3;simp only[hE,if_true,Bool.false_eq_true,if_false] at hap e3;refine ZW ZM ?_;refine ZS rfl ?_;refine sN tK 9 ?_;refine sC Tryz.func109 (hf:=(hap)) (hk:=?_);refine sG tK ?_;refine sE ?_;refine wKd ?_
      try simp only[go_sem,gA,gB,gC]
      refine wG tK ?_;refine wDT (hb:=u2) (hk:=?_);refine wG tK ?_;refine wDF (hb:=y7) (hk:=?_);refine wG tK ?_;refine ZW ZM ?_;refine ZS rfl ?_;refine sN tK 1 ?_;refine sB tK ?_;refine sN tK 1 ?_;refine sT tK ?_;refine sT tK ?_;refine sE ?_;refine wKd ?_
      try simp only[go_sem,gA,gB,gC]
      refine wG tK ?_;refine wU ?_ ?_
      ·simp[ZV,ZA,e1,e2,bH,hk5]
      ·rw[e3];simp only[pins,List.cons_append,List.nil_append,List.map_cons,List.map_nil]
       repeat' refine ZH ?_ ?_
       all_goals first | exact YH _ | rfl | simp[go_sem]
end La
