/- Texts of this claim, part 18: RList, PSort, CKeep, RSame, Jud, Jud2. No condition. -/
import Derived.Test.YtdcmhdkpfllnlaaGreatDoorYC17
set_option maxRecDepth 10000
set_option maxHeartbeats 4000000
set_option linter.unusedSimpArgs false
set_option linter.unusedVariables false
namespace La
open Go Go.Eng Go.Proofs
theorem wx {α:Type} {n:Int} {v:α} [Inhabited α]:∀(S:List (Int×α)) (k:Nat),k≤S.length->(∀j,j<k->(S.getD j default).1<n)->(∀h:k<S.length,n<(S.getD k default).1)->bx S n v=S.take k++(n,v)::S.drop k
 | [],k,hk,_,_=>by
  have:k=0:=by simpa using hk
  subst this;rfl
 | p::S,0,_,_,h=>by
  have:=h y8;simp only[List.getD_cons_zero] at this;simp only[bx,List.take_zero,List.drop_zero,List.nil_append];rw[if_neg z8,if_pos this]
 | p::S,k+1,hk,h1,h2=>by
  have h0:=h1 0 z8;simp only[List.getD_cons_zero] at h0;have ih:=wx (n:=n) (v:=v) S k Z2 (λj hj=>by have:=h1 (j+1) z8;simpa using this) (λh=>by have:=h2 p5;simpa using this);simp only[bx,List.take_succ_cons,List.drop_succ_cons,List.cons_append];rw[if_neg z8,if_neg z8,ih]
def dZ (p:Int×Node):List AV:=ZN p.2
theorem ma:Fam dZ 5:=⟨λ_=>rfl,λ_=>rfl,λ_=>rfl,λ_=>rfl⟩
@[go_sem,simp] theorem IP (l:List _):Eng.rowsOf 5 (l.map dZ):=ma.rowsOf l
@[go_sem,simp] theorem JT (l:List _):((l.map dZ).all λrow=>row.all AV.leaf)=true:=ma.jv l
@[go_sem,simp] theorem C' (l:List _):((l.map dZ).all λrow=>row.all AV.bc)=true:=ma.fB l
@[go_sem,simp] theorem Ju (id:Nat) (l:List _):((l.map dZ).all λrow=>row.all λx=>!(refs x).contains id)=true:=ma.lJ id l
@[go_sem,simp] theorem Jv (e s:Nat) (l:List _):aG (.cells e s (l.map dZ))=[]:=ma.aG e s l
@[go_sem,simp] theorem JR (id s:Nat) (rows:List (List AV)) (l:List _):(l.map dZ).map (ef id s rows)=l.map dZ:=Fam.ef (λ_ _ _ _=>rfl) id s rows l
theorem rj (nd:Node):rowsOf 5 [[AV.int .i64 nd.fid,.bool nd.dir,.sl (nd.data.map ZY),.sl (nd.entries.map ZE),.int .i64 nd.version]]:=by
 intro row h;rw[List.mem_singleton] at h;subst h;rfl
theorem EI (m:List (Int×Node)) (hr:eG m) (hkf:∀p,p∈m->p.2.fid=p.1) (hlen:m.length≤50000000):af Tryz.prog 84 [.rm (mN m)] [] (λr _=>r=.sl (m.map dZ)):=by
 refine ZF tK (Tryz.func84) rfl (λC=>?_);simp only[Tryz.ntmps84,Tryz.results84,go_sem];refine wG tK ?_;refine si tK rfl rfl rfl z7 z7 z7 ?_;refine wG tK ?_;refine ah (le_empty 99 62 5 z7) ?_;simp only[go_sem];refine ZL (λ_:List Int=>True) (λseen=>nB m seen) (λseen=>(3,.osl 99 5 0 (ek m seen).length)::(5,.any)::(6,.any)::u0 9 32 []) (λseen=>[(99,.cells 62 5 ((ek m seen).map dZ)),(8,.iter (mN m) seen)]) [] trivial ?_ λseen _=>?_
 ·simp only[go_sem];exact ZU (by simp[go_sem,nt]) (by simp[go_sem,nt,AF]) w3
 simp only[go_sem];refine wR ?_;refine vQ rfl rfl z7 z7 (λhall=>?_) (λn v hnv hns=>?_)
 ·have hsa:ek m seen=m:=qd λp hp=>hall (p.1,.agg (ZN p.2)) (AD hp)
  rw[hsa];simp only[go_sem];refine wG tK ?_;refine wDF (hb:=(rfl)) (hk:=?_);refine wG tK ?_;refine ZZ 99 rfl (C' _) ?_;simp only[go_sem];refine wT ?_;simp
 ·obtain ⟨nd,rfl,hmem⟩:=AE hnv;have hpt:=qe hr hmem (seen:=seen);have hlt:=mj hmem hns;have hfid:nd.fid=n:=hkf _ hmem;have hsub:∀p,p∈ek m seen->p.2.fid=p.1/\p.1≠n:=λp hp=>by
   have h1:=W9.1 hp;refine ⟨hkf p h1.1,λe=>hns ?_⟩;have:=h1.2;rw[e] at this;simpa using this
  have hsl:(ek m seen).length≤m.length:=W6 _ _;have hsr:eG (ek m seen):=hr.filter _;simp only[go_sem];refine wG tK ?_;refine wDT (hb:=(rfl)) (hk:=?_);refine wR ?_;refine sh rfl rfl z7 z7 (hnv) ?_;simp only[go_sem];refine wGq tK ?_ ?_ w6
  ·simp[ZN,AV.jY,AV.bc]
  clear hlt hnv;have hlt:=mj hmem hns;generalize hS:ek m seen=S at *;refine ZL (λk:Nat=>k≤S.length/\∀j,j<k->(S.getD j default).1<n) (λk=>S.length-k) (λk=>(6,.int .i64 k)::u0 13 16 []) (λ_=>[]) 0 ⟨by omega,by omega⟩ ?_ λk hk=>?_
  ·simp only[go_sem];exact ZU w3 w3 w3
  obtain ⟨hk,hk2⟩:=hk;simp only[go_sem];refine wG tK ?_;refine ZW ZM ?_;refine ZS rfl ?_
  by_cases hkl:k<S.length
  ·have hg:(S.map dZ).getD k []=dZ (S.getD k default):=Fam.getD hkl;have hw:IntKind.i64.wrap ((k:Int)+1)=((k+1:Nat):Int):=by rw[Eng.wrap_small z8 z8];rfl
   have hmk:=hsub _ (YG hkl);have hat:(∀h:k<S.length,n<(S.getD k default).1)->bx S n nd=S.take k++(n,nd)::S.drop k:=wx S k hk hk2;have hk3:(S.getD k default).1<n->∀j,j<k+1->(S.getD j default).1<n:=λh0 j hj=>by
    rcases Nat.lt_succ_iff_lt_or_eq.1 hj with h1 | rfl
    ·exact hk2 j h1
    ·exact h0
   generalize S.getD k default=q at hg hmk hat hk3;refine sNq tK 14 ?_ ?_ z6 z6 (by simp only[go_sem,hg,dZ,ZN];try exact rfl)
   ·simp[hg,dZ,ZN,hkl]
   refine sE ?_;refine wKd ?_
   try simp only[go_sem,gA,gB,gC]
   refine wD (λh=>?_) (λh=>?_)
   ·have hqn:q.1<n:=by
     rw[←hmk.1,←hfid];simpa[hkl] using h
    refine wG tK ?_ w5 k7;refine ZB ⟨k+1,⟨by omega,hk3 hqn⟩,by omega,ZU ?_ ?_ ?_⟩
    ·simp[go_sem]
    ·simp[go_sem]
    ·simp[go_sem]
   ·have hqn:¬q.1<n:=by
     rw[←hmk.1,←hfid];simpa[hkl] using h
    have hput:=hat λ_=>by have:=hmk.2;omega
    have hA1:List.take k (S.map dZ)=(S.take k).map dZ:=by rw[Yt]
    have hB1:List.take (S.length-k) (List.drop k (S.map dZ))=(S.drop k).map dZ:=by rw[←Y0,Wy y8]
    have hlA:(S.take k).length=k:=by rw[YF];omega
    have hlB:(S.drop k).length=S.length-k:=YY;generalize S.take k=A at hA1 hlA hput;generalize S.drop k=B at hB1 hlB hput;subst hlA;have htk:List.take (A.length+1) (A.map dZ++[[AV.int .i64 nd.fid,.bool nd.dir,.sl (nd.data.map ZY),.sl (nd.entries.map ZE),.int .i64 nd.version]])=A.map dZ++[[AV.int .i64 nd.fid,.bool nd.dir,.sl (nd.data.map ZY),.sl (nd.entries.map ZE),.int .i64 nd.version]]:=Wy y8;refine wG tK ?_;refine ZW ZM ?_;refine cu 1 [0,2,3,4,5,6,7,8,9,10,11,12] [0,0,1,2,3,4,5,6,7,8,9,10,11] rfl rfl rfl (λ_ _ _ h=>h) w4 w4 x6 z7 ?_;simp only[go_sem,gA,gB,gC];refine cu 1 [0,2,3,4,5,6,7,8,9,10,11] [0,0,1,2,3,4,5,6,7,8,9,10] rfl rfl rfl (λ_ _ _ h=>h) w4 w4 x6 z7 ?_;simp only[go_sem,gA,gB,gC];refine eP 1 [0,2,3,4,5,6,7,8,9,10] [0,0,1,2,3,4,5,6,7,8,9] rfl rfl (λ_ _ _ h=>h) w4 w4 x6 (iY tK rfl rfl rfl x8 z7 (.inl ⟨rfl,rfl⟩) (.inr ⟨_,rfl,_,z7⟩) QD QD) ?_;simp only[go_sem,gA,gB,gC];refine cu 5 [0,1,2,3,4,6,7,8,9] [0,1,2,3,4,0,5,6,7,8] rfl rfl rfl (λ_ _ _ h=>h) w4 w4 x6 z7 ?_;simp only[go_sem,gA,gB,gC];refine cu 5 [0,1,2,3,4,6,7,8] [0,1,2,3,4,0,5,6,7] rfl rfl rfl (λ_ _ _ h=>h) w4 w4 x6 z7 ?_;simp only[go_sem,gA,gB,gC];refine eP 5 [0,1,2,3,4,6,7] [0,1,2,3,4,0,5,6] rfl rfl (λ_ _ _ h=>h) w4 w4 x6 (iY tK rfl rfl rfl x8 z7 (.inr ⟨_,rfl,_,z7⟩) (.inl ⟨rfl,rfl⟩) QD QD) ?_;simp only[go_sem,gA,gB,gC];refine Eg (n:=7) w4 rfl ?_;refine ep (i:=0) (j:=2) w4 rfl rfl rfl rfl (YT tK rfl z7 w3) (YT tK rfl z7 w3) ?_ ?_
    ·refine ep (i:=1) (j:=2) w4 rfl rfl rfl rfl (YT tK rfl y7 ?_) (YT tK rfl y7 ?_) ?_ ?_
     ·skip
      try simp only[go_sem,hA1,hB1,htk,gD,gE,gF,gG,gA,gB,gC]
      simp;omega
     ·skip
      first | trivial | simp[go_sem,hA1,hB1,htk,gD,gE,gF,gG,gA,gB,gC]
     ·try simp only[go_sem,hA1,hB1,htk,gD,gE,gF,gG,gA,gB,gC]
      refine YD (i:=2) w4 rfl rfl (YT tK rfl z7 w3) ?_
      try simp only[go_sem,hA1,hB1,htk,gD,gE,gF,gG,gA,gB,gC]
      refine YD (i:=3) w4 rfl rfl (YT tK rfl z7 w3) ?_
      try simp only[go_sem,hA1,hB1,htk,gD,gE,gF,gG,gA,gB,gC]
      refine YD (i:=4) w4 rfl rfl (YT tK rfl y7 ?_) ?_
      ·simp[go_sem,rj,hA1,hB1,htk,gD,gE,gF,gG,gA,gB,gC];omega
      try simp only[go_sem,hA1,hB1,htk,gD,gE,gF,gG,gA,gB,gC]
      refine YD (i:=5) w4 rfl rfl (YT tK rfl j5 ?_) ?_
      ·simp[go_sem,hA1,hB1,htk,gD,gE,gF,gG,gA,gB,gC,hlB];omega
      try simp only[go_sem,hA1,hB1,htk,gD,gE,gF,gG,gA,gB,gC]
      refine YD (i:=6) w4 rfl rfl (YT tK rfl z7 w3) ?_;refine cX w4 ?_;simp only[go_sem,gA,gB,gC];refine ah (dA 99) ?_;refine ah (dw 40 99) ?_;refine wG tK ?_;refine ZB ⟨n::seen,hlt,ZU ?_ ?_ ?_⟩
      ·simp[go_sem,←hpt,hput,hlB];omega
      ·simp[go_sem,←hpt,hput,dZ,ZN,htk,hB1]
      ·simp[go_sem]
     ·try simp only[go_sem,hA1,hB1,htk,gD,gE,gF,gG,gA,gB,gC]
      refine ep (i:=1) (j:=3) w4 rfl rfl rfl rfl (YT tK rfl y7 ?_) (YT tK rfl y7 ?_) ?_ ?_
      ·skip
       try simp only[go_sem,hA1,hB1,htk,gD,gE,gF,gG,gA,gB,gC]
       simp;omega
      ·skip
       first | trivial | simp[go_sem,hA1,hB1,htk,gD,gE,gF,gG,gA,gB,gC]
      ·try simp only[go_sem,hA1,hB1,htk,gD,gE,gF,gG,gA,gB,gC]
       refine YD (i:=3) w4 rfl rfl (YT tK rfl z7 w3) ?_
       try simp only[go_sem,hA1,hB1,htk,gD,gE,gF,gG,gA,gB,gC]
       refine YD (i:=4) w4 rfl rfl (YT tK rfl y7 ?_) ?_
       ·simp[go_sem,rj,hA1,hB1,htk,gD,gE,gF,gG,gA,gB,gC];omega
       try simp only[go_sem,hA1,hB1,htk,gD,gE,gF,gG,gA,gB,gC]
       refine YD (i:=5) w4 rfl rfl (YT tK rfl j5 ?_) ?_
       ·simp[go_sem,hA1,hB1,htk,gD,gE,gF,gG,gA,gB,gC,hlB];omega
       try simp only[go_sem,hA1,hB1,htk,gD,gE,gF,gG,gA,gB,gC]
       refine YD (i:=6) w4 rfl rfl (YT tK rfl z7 w3) ?_;refine cX w4 ?_;simp only[go_sem,gA,gB,gC];refine ah (dA 99) ?_;refine ah (dw 40 99) ?_;refine wG tK ?_;refine ZB ⟨n::seen,hlt,ZU ?_ ?_ ?_⟩
       ·simp[go_sem,←hpt,hput,hlB];omega
       ·simp[go_sem,←hpt,hput,dZ,ZN,htk,hB1]
       ·simp[go_sem]
      ·try simp only[go_sem,hA1,hB1,htk,gD,gE,gF,gG,gA,gB,gC]
       refine YD (i:=1) w4 rfl rfl (YT tK rfl y7 ?_) ?_
       ·skip
        try simp only[go_sem,hA1,hB1,htk,gD,gE,gF,gG,gA,gB,gC]
        simp;omega
       try simp only[go_sem,hA1,hB1,htk,gD,gE,gF,gG,gA,gB,gC]
       refine YD (i:=4) w4 rfl rfl (YT tK rfl y7 ?_) ?_
       ·simp[go_sem,rj,hA1,hB1,htk,gD,gE,gF,gG,gA,gB,gC];omega
       try simp only[go_sem,hA1,hB1,htk,gD,gE,gF,gG,gA,gB,gC]
       refine YD (i:=5) w4 rfl rfl (YT tK rfl j5 ?_) ?_
       ·simp[go_sem,hA1,hB1,htk,gD,gE,gF,gG,gA,gB,gC,hlB];omega
       try simp only[go_sem,hA1,hB1,htk,gD,gE,gF,gG,gA,gB,gC]
       refine YD (i:=6) w4 rfl rfl (YT tK rfl z7 w3) ?_;refine cX w4 ?_;simp only[go_sem,gA,gB,gC];refine ah (dA 99) ?_;refine ah (dw 40 99) ?_;refine wG tK ?_;refine ZB ⟨n::seen,hlt,ZU ?_ ?_ ?_⟩
       ·simp[go_sem,←hpt,hput,hlB];omega
       ·simp[go_sem,←hpt,hput,dZ,ZN,htk,hB1]
       ·simp[go_sem]
    ·try simp only[go_sem,hA1,hB1,htk,gD,gE,gF,gG,gA,gB,gC]
     refine ep (i:=0) (j:=3) w4 rfl rfl rfl rfl (YT tK rfl y7 ?_) (YT tK rfl y7 ?_) ?_ ?_
     ·skip
      first | trivial | simp[go_sem,hA1,hB1,htk,gD,gE,gF,gG,gA,gB,gC]
     ·skip
      first | trivial | simp[go_sem,hA1,hB1,htk,gD,gE,gF,gG,gA,gB,gC]
     ·try simp only[go_sem,hA1,hB1,htk,gD,gE,gF,gG,gA,gB,gC]
      refine ep (i:=1) (j:=3) w4 rfl rfl rfl rfl (YT tK rfl y7 ?_) (YT tK rfl y7 ?_) ?_ ?_
      ·skip
       try simp only[go_sem,hA1,hB1,htk,gD,gE,gF,gG,gA,gB,gC]
       simp;omega
      ·skip
       first | trivial | simp[go_sem,hA1,hB1,htk,gD,gE,gF,gG,gA,gB,gC]
      ·try simp only[go_sem,hA1,hB1,htk,gD,gE,gF,gG,gA,gB,gC]
       refine YD (i:=3) w4 rfl rfl (YT tK rfl z7 w3) ?_
       try simp only[go_sem,hA1,hB1,htk,gD,gE,gF,gG,gA,gB,gC]
       refine YD (i:=4) w4 rfl rfl (YT tK rfl y7 ?_) ?_
       ·simp[go_sem,rj,hA1,hB1,htk,gD,gE,gF,gG,gA,gB,gC];omega
       try simp only[go_sem,hA1,hB1,htk,gD,gE,gF,gG,gA,gB,gC]
       refine YD (i:=5) w4 rfl rfl (YT tK rfl j5 ?_) ?_
       ·simp[go_sem,hA1,hB1,htk,gD,gE,gF,gG,gA,gB,gC,hlB];omega
       try simp only[go_sem,hA1,hB1,htk,gD,gE,gF,gG,gA,gB,gC]
       refine YD (i:=6) w4 rfl rfl (YT tK rfl z7 w3) ?_;refine cX w4 ?_;simp only[go_sem,gA,gB,gC];refine ah (dA 99) ?_;refine ah (dw 40 99) ?_;refine wG tK ?_;refine ZB ⟨n::seen,hlt,ZU ?_ ?_ ?_⟩
       ·simp[go_sem,←hpt,hput,hlB];omega
       ·simp[go_sem,←hpt,hput,dZ,ZN,htk,hB1]
       ·simp[go_sem]
      ·try simp only[go_sem,hA1,hB1,htk,gD,gE,gF,gG,gA,gB,gC]
       refine YD (i:=1) w4 rfl rfl (YT tK rfl y7 ?_) ?_
       ·skip
        try simp only[go_sem,hA1,hB1,htk,gD,gE,gF,gG,gA,gB,gC]
        simp;omega
       try simp only[go_sem,hA1,hB1,htk,gD,gE,gF,gG,gA,gB,gC]
       refine YD (i:=4) w4 rfl rfl (YT tK rfl y7 ?_) ?_
       ·simp[go_sem,rj,hA1,hB1,htk,gD,gE,gF,gG,gA,gB,gC];omega
       try simp only[go_sem,hA1,hB1,htk,gD,gE,gF,gG,gA,gB,gC]
       refine YD (i:=5) w4 rfl rfl (YT tK rfl j5 ?_) ?_
       ·simp[go_sem,hA1,hB1,htk,gD,gE,gF,gG,gA,gB,gC,hlB];omega
       try simp only[go_sem,hA1,hB1,htk,gD,gE,gF,gG,gA,gB,gC]
       refine YD (i:=6) w4 rfl rfl (YT tK rfl z7 w3) ?_;refine cX w4 ?_;simp only[go_sem,gA,gB,gC];refine ah (dA 99) ?_;refine ah (dw 40 99) ?_;refine wG tK ?_;refine ZB ⟨n::seen,hlt,ZU ?_ ?_ ?_⟩
       ·simp[go_sem,←hpt,hput,hlB];omega
       ·simp[go_sem,←hpt,hput,dZ,ZN,htk,hB1]
       ·simp[go_sem]
     ·try simp only[go_sem,hA1,hB1,htk,gD,gE,gF,gG,gA,gB,gC]
      refine YD (i:=0) w4 rfl rfl (YT tK rfl z7 w3) ?_
      try simp only[go_sem,hA1,hB1,htk,gD,gE,gF,gG,gA,gB,gC]
      refine YD (i:=1) w4 rfl rfl (YT tK rfl y7 ?_) ?_
      ·skip
       try simp only[go_sem,hA1,hB1,htk,gD,gE,gF,gG,gA,gB,gC]
       simp;omega
      try simp only[go_sem,hA1,hB1,htk,gD,gE,gF,gG,gA,gB,gC]
      refine YD (i:=4) w4 rfl rfl (YT tK rfl y7 ?_) ?_
      ·simp[go_sem,rj,hA1,hB1,htk,gD,gE,gF,gG,gA,gB,gC];omega
      try simp only[go_sem,hA1,hB1,htk,gD,gE,gF,gG,gA,gB,gC]
      refine YD (i:=5) w4 rfl rfl (YT tK rfl j5 ?_) ?_
      ·simp[go_sem,hA1,hB1,htk,gD,gE,gF,gG,gA,gB,gC,hlB];omega
      try simp only[go_sem,hA1,hB1,htk,gD,gE,gF,gG,gA,gB,gC]
      refine YD (i:=6) w4 rfl rfl (YT tK rfl z7 w3) ?_;refine cX w4 ?_;simp only[go_sem,gA,gB,gC];refine ah (dA 99) ?_;refine ah (dw 40 99) ?_;refine wG tK ?_;refine ZB ⟨n::seen,hlt,ZU ?_ ?_ ?_⟩
      ·simp[go_sem,←hpt,hput,hlB];omega
      ·simp[go_sem,←hpt,hput,dZ,ZN,htk,hB1]
      ·simp[go_sem]
  ·have hkl2:k=S.length:=by omega
   have hput:bx S n nd=S.take k++(n,nd)::S.drop k:=wx S k hk hk2 λh=>absurd h hkl
   have hdf:decide ((k:Int)<(S.length:Int))=false:=decide_eq_false z8;refine sN tK 5 ?_;rw[hdf]
   iterate 7 refine sS ?_
   refine sSB ?_;refine sN tK 1 ?_;refine sE ?_;refine wKd ?_
   try simp only[go_sem,gA,gB,gC]
   refine wD (λh=>?_) (λh=>?_)
   ·exfalso;simp at h
   have hA1:List.take k (S.map dZ)=(S.take k).map dZ:=by rw[Yt]
   have hB1:List.take (S.length-k) (List.drop k (S.map dZ))=(S.drop k).map dZ:=by rw[←Y0,Wy y8]
   have hlA:(S.take k).length=k:=by rw[YF];omega
   have hlB:(S.drop k).length=S.length-k:=YY;generalize S.take k=A at hA1 hlA hput;generalize S.drop k=B at hB1 hlB hput;subst hlA;have htk:List.take (A.length+1) (A.map dZ++[[AV.int .i64 nd.fid,.bool nd.dir,.sl (nd.data.map ZY),.sl (nd.entries.map ZE),.int .i64 nd.version]])=A.map dZ++[[AV.int .i64 nd.fid,.bool nd.dir,.sl (nd.data.map ZY),.sl (nd.entries.map ZE),.int .i64 nd.version]]:=Wy y8;refine wG tK ?_;refine ZW ZM ?_;refine cu 1 [0,2,3,4,5,6,7,8,9,10,11,12] [0,0,1,2,3,4,5,6,7,8,9,10,11] rfl rfl rfl (λ_ _ _ h=>h) w4 w4 x6 z7 ?_;simp only[go_sem,gA,gB,gC];refine cu 1 [0,2,3,4,5,6,7,8,9,10,11] [0,0,1,2,3,4,5,6,7,8,9,10] rfl rfl rfl (λ_ _ _ h=>h) w4 w4 x6 z7 ?_;simp only[go_sem,gA,gB,gC];refine eP 1 [0,2,3,4,5,6,7,8,9,10] [0,0,1,2,3,4,5,6,7,8,9] rfl rfl (λ_ _ _ h=>h) w4 w4 x6 (iY tK rfl rfl rfl x8 z7 (.inl ⟨rfl,rfl⟩) (.inr ⟨_,rfl,_,z7⟩) QD QD) ?_;simp only[go_sem,gA,gB,gC];refine cu 5 [0,1,2,3,4,6,7,8,9] [0,1,2,3,4,0,5,6,7,8] rfl rfl rfl (λ_ _ _ h=>h) w4 w4 x6 z7 ?_;simp only[go_sem,gA,gB,gC];refine cu 5 [0,1,2,3,4,6,7,8] [0,1,2,3,4,0,5,6,7] rfl rfl rfl (λ_ _ _ h=>h) w4 w4 x6 z7 ?_;simp only[go_sem,gA,gB,gC];refine eP 5 [0,1,2,3,4,6,7] [0,1,2,3,4,0,5,6] rfl rfl (λ_ _ _ h=>h) w4 w4 x6 (iY tK rfl rfl rfl x8 z7 (.inr ⟨_,rfl,_,z7⟩) (.inl ⟨rfl,rfl⟩) QD QD) ?_;simp only[go_sem,gA,gB,gC];refine Eg (n:=7) w4 rfl ?_;refine ep (i:=0) (j:=2) w4 rfl rfl rfl rfl (YT tK rfl z7 w3) (YT tK rfl z7 w3) ?_ ?_
   ·refine ep (i:=1) (j:=2) w4 rfl rfl rfl rfl (YT tK rfl y7 ?_) (YT tK rfl y7 ?_) ?_ ?_
    ·skip
     try simp only[go_sem,hA1,hB1,htk,gD,gE,gF,gG,gA,gB,gC]
     simp;omega
    ·skip
     first | trivial | simp[go_sem,hA1,hB1,htk,gD,gE,gF,gG,gA,gB,gC]
    ·try simp only[go_sem,hA1,hB1,htk,gD,gE,gF,gG,gA,gB,gC]
     refine YD (i:=2) w4 rfl rfl (YT tK rfl z7 w3) ?_
     try simp only[go_sem,hA1,hB1,htk,gD,gE,gF,gG,gA,gB,gC]
     refine YD (i:=3) w4 rfl rfl (YT tK rfl z7 w3) ?_
     try simp only[go_sem,hA1,hB1,htk,gD,gE,gF,gG,gA,gB,gC]
     refine YD (i:=4) w4 rfl rfl (YT tK rfl y7 ?_) ?_
     ·simp[go_sem,rj,hA1,hB1,htk,gD,gE,gF,gG,gA,gB,gC];omega
     try simp only[go_sem,hA1,hB1,htk,gD,gE,gF,gG,gA,gB,gC]
     refine YD (i:=5) w4 rfl rfl (YT tK rfl j5 ?_) ?_
     ·simp[go_sem,hA1,hB1,htk,gD,gE,gF,gG,gA,gB,gC,hlB];omega
     try simp only[go_sem,hA1,hB1,htk,gD,gE,gF,gG,gA,gB,gC]
     refine YD (i:=6) w4 rfl rfl (YT tK rfl z7 w3) ?_;refine cX w4 ?_;simp only[go_sem,gA,gB,gC];refine ah (dA 99) ?_;refine ah (dw 40 99) ?_;refine wG tK ?_;refine ZB ⟨n::seen,hlt,ZU ?_ ?_ ?_⟩
     ·simp[go_sem,←hpt,hput,hlB];omega
     ·simp[go_sem,←hpt,hput,dZ,ZN,htk,hB1]
     ·simp[go_sem]
    ·try simp only[go_sem,hA1,hB1,htk,gD,gE,gF,gG,gA,gB,gC]
     refine ep (i:=1) (j:=3) w4 rfl rfl rfl rfl (YT tK rfl y7 ?_) (YT tK rfl y7 ?_) ?_ ?_
     ·skip
      try simp only[go_sem,hA1,hB1,htk,gD,gE,gF,gG,gA,gB,gC]
      simp;omega
     ·skip
      first | trivial | simp[go_sem,hA1,hB1,htk,gD,gE,gF,gG,gA,gB,gC]
     ·try simp only[go_sem,hA1,hB1,htk,gD,gE,gF,gG,gA,gB,gC]
      refine YD (i:=3) w4 rfl rfl (YT tK rfl z7 w3) ?_
      try simp only[go_sem,hA1,hB1,htk,gD,gE,gF,gG,gA,gB,gC]
      refine YD (i:=4) w4 rfl rfl (YT tK rfl y7 ?_) ?_
      ·simp[go_sem,rj,hA1,hB1,htk,gD,gE,gF,gG,gA,gB,gC];omega
      try simp only[go_sem,hA1,hB1,htk,gD,gE,gF,gG,gA,gB,gC]
      refine YD (i:=5) w4 rfl rfl (YT tK rfl j5 ?_) ?_
      ·simp[go_sem,hA1,hB1,htk,gD,gE,gF,gG,gA,gB,gC,hlB];omega
      try simp only[go_sem,hA1,hB1,htk,gD,gE,gF,gG,gA,gB,gC]
      refine YD (i:=6) w4 rfl rfl (YT tK rfl z7 w3) ?_;refine cX w4 ?_;simp only[go_sem,gA,gB,gC];refine ah (dA 99) ?_;refine ah (dw 40 99) ?_;refine wG tK ?_;refine ZB ⟨n::seen,hlt,ZU ?_ ?_ ?_⟩
      ·simp[go_sem,←hpt,hput,hlB];omega
      ·simp[go_sem,←hpt,hput,dZ,ZN,htk,hB1]
      ·simp[go_sem]
     ·try simp only[go_sem,hA1,hB1,htk,gD,gE,gF,gG,gA,gB,gC]
      refine YD (i:=1) w4 rfl rfl (YT tK rfl y7 ?_) ?_
      ·skip
       try simp only[go_sem,hA1,hB1,htk,gD,gE,gF,gG,gA,gB,gC]
       simp;omega
      try simp only[go_sem,hA1,hB1,htk,gD,gE,gF,gG,gA,gB,gC]
      refine YD (i:=4) w4 rfl rfl (YT tK rfl y7 ?_) ?_
      ·simp[go_sem,rj,hA1,hB1,htk,gD,gE,gF,gG,gA,gB,gC];omega
      try simp only[go_sem,hA1,hB1,htk,gD,gE,gF,gG,gA,gB,gC]
      refine YD (i:=5) w4 rfl rfl (YT tK rfl j5 ?_) ?_
      ·simp[go_sem,hA1,hB1,htk,gD,gE,gF,gG,gA,gB,gC,hlB];omega
      try simp only[go_sem,hA1,hB1,htk,gD,gE,gF,gG,gA,gB,gC]
      refine YD (i:=6) w4 rfl rfl (YT tK rfl z7 w3) ?_;refine cX w4 ?_;simp only[go_sem,gA,gB,gC];refine ah (dA 99) ?_;refine ah (dw 40 99) ?_;refine wG tK ?_;refine ZB ⟨n::seen,hlt,ZU ?_ ?_ ?_⟩
      ·simp[go_sem,←hpt,hput,hlB];omega
      ·simp[go_sem,←hpt,hput,dZ,ZN,htk,hB1]
      ·simp[go_sem]
   ·try simp only[go_sem,hA1,hB1,htk,gD,gE,gF,gG,gA,gB,gC]
    refine ep (i:=0) (j:=3) w4 rfl rfl rfl rfl (YT tK rfl y7 ?_) (YT tK rfl y7 ?_) ?_ ?_
    ·skip
     first | trivial | simp[go_sem,hA1,hB1,htk,gD,gE,gF,gG,gA,gB,gC]
    ·skip
     first | trivial | simp[go_sem,hA1,hB1,htk,gD,gE,gF,gG,gA,gB,gC]
    ·try simp only[go_sem,hA1,hB1,htk,gD,gE,gF,gG,gA,gB,gC]
     refine ep (i:=1) (j:=3) w4 rfl rfl rfl rfl (YT tK rfl y7 ?_) (YT tK rfl y7 ?_) ?_ ?_
     ·skip
      try simp only[go_sem,hA1,hB1,htk,gD,gE,gF,gG,gA,gB,gC]
      simp;omega
     ·skip
      first | trivial | simp[go_sem,hA1,hB1,htk,gD,gE,gF,gG,gA,gB,gC]
     ·try simp only[go_sem,hA1,hB1,htk,gD,gE,gF,gG,gA,gB,gC]
      refine YD (i:=3) w4 rfl rfl (YT tK rfl z7 w3) ?_
      try simp only[go_sem,hA1,hB1,htk,gD,gE,gF,gG,gA,gB,gC]
      refine YD (i:=4) w4 rfl rfl (YT tK rfl y7 ?_) ?_
      ·simp[go_sem,rj,hA1,hB1,htk,gD,gE,gF,gG,gA,gB,gC];omega
      try simp only[go_sem,hA1,hB1,htk,gD,gE,gF,gG,gA,gB,gC]
      refine YD (i:=5) w4 rfl rfl (YT tK rfl j5 ?_) ?_
      ·simp[go_sem,hA1,hB1,htk,gD,gE,gF,gG,gA,gB,gC,hlB];omega
      try simp only[go_sem,hA1,hB1,htk,gD,gE,gF,gG,gA,gB,gC]
      refine YD (i:=6) w4 rfl rfl (YT tK rfl z7 w3) ?_;refine cX w4 ?_;simp only[go_sem,gA,gB,gC];refine ah (dA 99) ?_;refine ah (dw 40 99) ?_;refine wG tK ?_;refine ZB ⟨n::seen,hlt,ZU ?_ ?_ ?_⟩
      ·simp[go_sem,←hpt,hput,hlB];omega
      ·simp[go_sem,←hpt,hput,dZ,ZN,htk,hB1]
      ·simp[go_sem]
     ·try simp only[go_sem,hA1,hB1,htk,gD,gE,gF,gG,gA,gB,gC]
      refine YD (i:=1) w4 rfl rfl (YT tK rfl y7 ?_) ?_
      ·skip
       try simp only[go_sem,hA1,hB1,htk,gD,gE,gF,gG,gA,gB,gC]
       simp;omega
      try simp only[go_sem,hA1,hB1,htk,gD,gE,gF,gG,gA,gB,gC]
      refine YD (i:=4) w4 rfl rfl (YT tK rfl y7 ?_) ?_
      ·simp[go_sem,rj,hA1,hB1,htk,gD,gE,gF,gG,gA,gB,gC];omega
      try simp only[go_sem,hA1,hB1,htk,gD,gE,gF,gG,gA,gB,gC]
      refine YD (i:=5) w4 rfl rfl (YT tK rfl j5 ?_) ?_
      ·simp[go_sem,hA1,hB1,htk,gD,gE,gF,gG,gA,gB,gC,hlB];omega
      try simp only[go_sem,hA1,hB1,htk,gD,gE,gF,gG,gA,gB,gC]
      refine YD (i:=6) w4 rfl rfl (YT tK rfl z7 w3) ?_;refine cX w4 ?_;simp only[go_sem,gA,gB,gC];refine ah (dA 99) ?_;refine ah (dw 40 99) ?_;refine wG tK ?_;refine ZB ⟨n::seen,hlt,ZU ?_ ?_ ?_⟩
      ·simp[go_sem,←hpt,hput,hlB];omega
      ·simp[go_sem,←hpt,hput,dZ,ZN,htk,hB1]
      ·simp[go_sem]
    ·try simp only[go_sem,hA1,hB1,htk,gD,gE,gF,gG,gA,gB,gC]
     refine YD (i:=0) w4 rfl rfl (YT tK rfl z7 w3) ?_
     try simp only[go_sem,hA1,hB1,htk,gD,gE,gF,gG,gA,gB,gC]
     refine YD (i:=1) w4 rfl rfl (YT tK rfl y7 ?_) ?_
     ·skip
      try simp only[go_sem,hA1,hB1,htk,gD,gE,gF,gG,gA,gB,gC]
      simp;omega
     try simp only[go_sem,hA1,hB1,htk,gD,gE,gF,gG,gA,gB,gC]
     refine YD (i:=4) w4 rfl rfl (YT tK rfl y7 ?_) ?_
     ·simp[go_sem,rj,hA1,hB1,htk,gD,gE,gF,gG,gA,gB,gC];omega
     try simp only[go_sem,hA1,hB1,htk,gD,gE,gF,gG,gA,gB,gC]
     refine YD (i:=5) w4 rfl rfl (YT tK rfl j5 ?_) ?_
     ·simp[go_sem,hA1,hB1,htk,gD,gE,gF,gG,gA,gB,gC,hlB];omega
     try simp only[go_sem,hA1,hB1,htk,gD,gE,gF,gG,gA,gB,gC]
     refine YD (i:=6) w4 rfl rfl (YT tK rfl z7 w3) ?_;refine cX w4 ?_;simp only[go_sem,gA,gB,gC];refine ah (dA 99) ?_;refine ah (dw 40 99) ?_;refine wG tK ?_;refine ZB ⟨n::seen,hlt,ZU ?_ ?_ ?_⟩
     ·simp[go_sem,←hpt,hput,hlB];omega
     ·simp[go_sem,←hpt,hput,dZ,ZN,htk,hB1]
     ·simp[go_sem]
theorem rJ (l:List Node) (hu:Up l) (hlen:l.length≤50000000):af Tryz.prog 84 [.rm (mN (bI l))] [] (λr _=>r=.sl (l.map ZN)):=by
 have h:=EI (bI l) (bu l) (λp hp=>by
  rw[rK hu] at hp;obtain ⟨n,_,rfl⟩:=W5.1 hp;rfl) (by rw[mm hu];exact hlen)
 have e:(bI l).map dZ=l.map ZN:=by
  rw[rK hu,Yc];rfl
 rwa [e] at h
end La
namespace La
open Go Go.Eng
def kG (l:List Node):List Node:=(bI l).map (·.2)
def DA (fid now:Int) (x:Kept):Kept:=if x.node.fid=fid then { x with last:=now } else x
theorem A4 (v:Bool) (x:Node):cg v x x=true:=by simp[cg]
theorem A5 (v:Bool) (l:List Node):eL v l l=true:=(fS v l l).2 ⟨rfl,λj _=>A4 v _⟩
theorem IA {l:List Kept} (hu:rU l=true) (fid now:Int):xg l fid now=l.map (DA fid now):=by
 have hU:og l l.length:=of_decide_eq_true hu;unfold xg;cases hk:cj l fid with
 | none=>
  have hn:∀x,x∈l->x.node.fid≠fid:=λx hx e=>by
   have:=YK.1 hk x hx;simp[e] at this
  refine (List.ext_getElem? λj=>?_);rw[Wz];cases hj:l[j]? with
  | none=>rfl
  | some x=>simp[DA,hn x (W1 hj)]
 | some p=>
  obtain ⟨hp,hpf,hno⟩:=YM.1 hk;have hpf:l[p].node.fid=fid:=by simpa using hpf
  have hat:∀j (hj:j<l.length),l[j].node.fid=fid->j=p:=λj hj e=>by
   have hf:∀i (hi:i<l.length),xN l i=l[i].node.fid:=λi hi=>by unfold xN;rw[Wv,Ww hi];rfl
   rcases Nat.lt_trichotomy j p with h1 | h1 | h1
   ·exact absurd (by rw[hf j hj,hf p hp,e,hpf]) (hU p hp j h1)
   ·exact h1
   ·exact absurd (by rw[hf j hj,hf p hp,e,hpf]) (hU j hj p h1)
  refine List.ext_getElem? λj=>?_
  simp only;rw[Wz,YV]
  by_cases hjp:p=j
  ·subst hjp;rw[if_pos rfl,if_pos hp,Ww hp];simp[DA,hpf,Wv,Ww hp]
  ·rw[if_neg hjp];cases hj:l[j]? with
   | none=>rfl
   | some x=>
    obtain ⟨hjl,hje⟩:=W3.1 hj;have:x.node.fid≠fid:=λe=>hjp (hat j hjl (by rw[hje];exact e)).symm
    simp[DA,this]
theorem wB {l:List Kept} (h:SmallK l):Small (aQ l):=⟨by unfold aQ;rw[List.length_map];exact h.len,λx hx=>by
 obtain ⟨k,hk,rfl⟩:=W5.1 hx;exact h.each k hk⟩
theorem mZ (l:List Node):∀i,∀p,p∈jC l i->p.2.fid=p.1
 | 0,p,hp=>by cases hp
 | i+1,p,hp=>by
  obtain ⟨k,x⟩:=p;have:=(cn (ji l i) k x).1 hp
  rcases this with ⟨rfl,rfl⟩ | ⟨_,h⟩
  ·rfl
  ·exact mZ l i _ h
theorem qV:∀p q:List Node,p.Pairwise (λa b=>a.fid<b.fid)->q.Pairwise (λa b=>a.fid<b.fid)->(∀x,x∈p↔x∈q)->p=q
 | [],q,_,_,h=>by
  cases q with
  | nil=>rfl
  | cons b q=>exact absurd ((h b).2 List.mem_cons_self) y8
 | a::p,[],_,_,h=>absurd ((h a).1 List.mem_cons_self) y8
 | a::p,b::q,hp,hq,h=>by
  obtain ⟨hp1,hp2⟩:=List.pairwise_cons.1 hp;obtain ⟨hq1,hq2⟩:=List.pairwise_cons.1 hq;have e:a=b:=by
   rcases List.mem_cons.1 ((h a).1 List.mem_cons_self) with h1 | h1
   ·exact h1
   ·rcases List.mem_cons.1 ((h b).2 List.mem_cons_self) with h2 | h2
    ·exact h2.symm
    ·have:=hp1 b h2;have:=hq1 a h1;omega
  subst e;rw[qV p q hp2 hq2 λx=>⟨λhx=>?_,λhx=>?_⟩]
  ·rcases List.mem_cons.1 ((h x).1 (List.mem_cons_of_mem _ hx)) with h1 | h1
   ·have:=hp1 x hx;rw[h1] at this;omega
   ·exact h1
  ·rcases List.mem_cons.1 ((h x).2 (List.mem_cons_of_mem _ hx)) with h1 | h1
   ·have:=hq1 x hx;rw[h1] at this;omega
   ·exact h1
theorem nZ (l:List Node):(kG l).Pairwise λa b=>a.fid<b.fid:=by
 unfold kG;rw[List.pairwise_map];refine List.Pairwise.imp_of_mem ?_ (bu l);intro a b ha hb h;rw[mZ l _ a ha,mZ l _ b hb];exact h
theorem uW (l:List Node) (hd:∀i,i<l.length->∀j,j<i->gw l j≠gw l i):∀i,i≤l.length->∀j,j<i->(gw l j,l.getD j default)∈jC l i
 | 0,_,_,h=>by omega
 | i+1,hi,j,hj=>by
  refine (cn (ji l i) _ _).2 ?_
  by_cases e:j=i
  ·subst e;exact .inl ⟨rfl,rfl⟩
  ·exact .inr ⟨hd i z8 j z8,uW l hd i z8 j z8⟩
theorem vj (l:List Node) (hd:∀i,i<l.length->∀j,j<i->gw l j≠gw l i) (x:Node):x∈kG l↔x∈l:=by
 constructor
 ·intro h;obtain ⟨p,hp,rfl⟩:=W5.1 h;exact pW l _ (W7 _) p hp
 ·intro h;obtain ⟨i,hi,rfl⟩:=List.getElem_of_mem h;refine W5.2 ⟨(gw l i,l.getD i default),uW l hd _ (W7 _) i hi,?_⟩;rw[Wv,Ww hi];rfl
theorem tB (l:List Node) (hd:∀i,i<l.length->∀j,j<i->gw l j≠gw l i) (p:List Node) (hp:p.Perm l) (hs:p.Pairwise λa b=>a.fid≤b.fid):p=kG l:=by
 have hne:l.Pairwise λa b=>a.fid≠b.fid:=by
  rw[List.pairwise_iff_getElem];intro i j hi hj hij;have:=hd j hj i hij;unfold gw at this;rw[Wv,Wv,Ww hi,Ww hj] at this;exact this
 have hnp:p.Pairwise λa b=>a.fid≠b.fid:=(hp.pairwise_iff (λh=>Ne.symm h)).2 hne
 refine qV _ _ ?_ (nZ l) λx=>by rw[vj l hd,hp.mem_iff]
 rw[List.pairwise_iff_getElem] at *;intro i j hi hj hij;have h1:=hs i j hi hj hij;have h2:=hnp i j hi hj hij;omega
theorem vh (l:List Node) (hd:∀i,i<l.length->∀j,j<i->gw l j≠gw l i):(kG l).length=l.length:=by
 have h1:=List.mergeSort_perm l (λa b=>decide (a.fid≤b.fid));have h2:=List.pairwise_mergeSort (le:=λa b:Node=>decide (a.fid≤b.fid)) (by intro a b c;simp;omega) (by intro a b;simp;omega) l;rw[←tB l hd _ h1 (h2.imp y8)];exact h1.length_eq
end La
namespace La
open Go Go.Eng Go.Proofs
theorem wg {l:List Kept} {room:Int} {k:Kept} (hl:SmallK l) (hk:k.node.Small) (h:cD l room k=none):af Tryz.prog 69 [.sl (l.map ZK),.int .i64 room,.agg (ZK k)] [] (λr _=>r=.tup [.sl (([]:List Kept).map ZK),.int .i64 5]):=by
 have:=BV l room k hl hk;unfold qD at this;rw[h] at this;exact this
theorem EF {l L:List Kept} {room:Int} {k:Kept} (hl:SmallK l) (hk:k.node.Small) (h:cD l room k=some L):af Tryz.prog 69 [.sl (l.map ZK),.int .i64 room,.agg (ZK k)] [] (λr _=>r=.tup [.sl (L.map ZK),.int .i64 0]):=by
 have:=BV l room k hl hk;unfold qD at this;rw[h] at this;exact this
theorem mD {l:List Kept} {room:Int} {k:Kept} (hl:l.length≤90000000) (h:cD l room k=none):af Tryz.prog 85 [.sl (l.map ZK),.int .i64 room,.agg (ZK k)] [] (λr _=>r=.tup [.sl (([]:List Kept).map ZK),.int .i64 5]):=by
 have:=za l room k hl;unfold qD at this;rw[h] at this;exact this
theorem kD {l L:List Kept} {room:Int} {k:Kept} (hl:l.length≤90000000) (h:cD l room k=some L):af Tryz.prog 85 [.sl (l.map ZK),.int .i64 room,.agg (ZK k)] [] (λr _=>r=.tup [.sl (L.map ZK),.int .i64 0]):=by
 have:=za l room k hl;unfold qD at this;rw[h] at this;exact this
theorem ui (a:List Kept) (ha:SmallK a):af Tryz.prog 23 [.sl (a.map ZK),.sl (a.map ZK)] [] (λr _=>r=.bool true):=by
 have:=zf a a ha ha;simpa using this
theorem De (a:List Node) (ha:Small a):af Tryz.prog 43 [.sl (a.map ZN),.sl (a.map ZN),.bool true] [] (λr _=>r=.bool true):=by
 have:=Hu a a true ha ha
 rwa [A5] at this
theorem uj (l:List Past) (hl:l.length≤100000000):af Tryz.prog 44 [.sl (l.map ZP),.sl (l.map ZP)] [] (λr _=>r=.bool true):=by
 refine ZF tK (Tryz.func44) rfl (λC=>?_);simp only[Tryz.ntmps44,Tryz.results44,go_sem];refine wG tK ?_;refine wDF (hb:=y8) (hk:=?_);refine wG tK ?_;refine ZL (λi:Nat=>i≤l.length) (λi=>l.length-i) (λi=>(13,.int .i64 i)::(5,.any)::u0 14 28 []) (λ_=>[]) 0 z8 ?_ λi hi=>?_
 ·simp only[go_sem];exact ZU w3 w3 p9
 simp only[go_sem];refine wG tK ?_;refine wD (λh=>?_) (λh=>?_)
 ·have hlt:i<l.length:=by simp at h;omega
  have hg:(l.map ZP).getD i []=ZP (l.getD i default):=Fam.getD hlt;have hw:=wi1 (i:=i) z8;generalize l.getD i default=x at hg;have hsa:=tv x.act x.act;rw[decide_eq_true (rfl:x.act=x.act)] at hsa;unfold ZA at hsa;refine wG tK ?_;refine ZW ZM ?_;refine ZS rfl ?_;refine sNq tK 12 ?_ ?_ z6 z6 Qt
  ·simp[hg,ZP,hlt]
  refine sNq tK 10 ?_ ?_ z6 z6 Qt
  ·simp[hg,ZP,hlt]
  refine sCC Tryz.func53 (hf:=λhb=>(hsa)) (hk:=?_);refine sN tK 2 ?_;refine sE ?_;refine wKd ?_;refine wG tK ?_;refine wDF (hb:=y8) (hk:=?_);refine wG tK ?_ w5 k7;refine ZB ⟨i+1,by omega,by omega,ZU ?_ ?_ ?_⟩
  ·simp[go_sem]
  ·simp[go_sem]
  ·simp[go_sem]
 ·refine wG tK ?_;refine wT ?_;rfl
theorem rn (s:Srv) (ht:Small s.tree) (hp:s.past.length≤100000000):af Tryz.prog 13 [.agg (ZQ s),.agg (ZQ s)] [] (λr _=>r=.bool true):=by
 have h1:=De s.tree ht;have h2:=uj s.past hp;unfold ZQ;refine ZF tK (Tryz.func13) rfl (λC=>?_);simp only[Tryz.ntmps13,Tryz.results13,go_sem];refine wR ?_;refine wN tK 3 ?_;refine wR ?_;refine wN tK 6 ?_;refine aq 10 z6 (λc10 h10=>?_);simp only[go_sem];have hc:c10=true:=by rw[←h10];simp
 subst hc;clear h10;refine wN tK 4 ?_;refine wCC Tryz.func43 (hf:=λhb=>(h1)) (hk:=?_);refine wN tK 2 ?_;refine aq 17 z6 (λc17 h17=>?_);simp only[go_sem];have hc:c17=true:=by rw[←h17];rfl
 subst hc;clear h17;refine wN tK 4 ?_;refine wCC Tryz.func44 (hf:=λhb=>(h2)) (hk:=?_);refine wG tK ?_;refine wT ?_;rfl
def kU (j:JS):List AV:=[.sl (j.l.map ZN),.int .i64 j.next,.int .i64 j.version,.mp 25,.mp 26,.mp 27]
def jB (j:JS):List (Nat×Blk):=[(29,.cells 224 6 [kU j]),(27,.map (mB j.lost)),(26,.map (mB j.ours)),(25,.map (mI j.own))]
def jH (j:JS) (G Y N:Nat->Nat):List (Nat×Blk):=jB j++pins [29,25,26,27] G Y N
def jcH (j:JS) (G Y N:Nat->Nat):List (Nat×Blk):=([(2,.cells 220 1 [[.ptr 29 6 0 0]])]++jB j)++pins [29,25,26,27,2] G Y N
def jaH (j:JS) (a:Act) (G Y N:Nat->Nat):List (Nat×Blk):=([(6,.cells 88 7 [ZA a])]++jB j)++pins [29,25,26,27,6] G Y N
def Holds (L H:List (Nat×Blk)):Prop:=∀i b,aa L i=some b->aa H i=some b
theorem YH (H:List (Nat×Blk)):Holds [] H:=λ_ _ h=>nomatch h
theorem ZH {L H:List (Nat×Blk)} {k:Nat} {B:Blk} (h:aa H k=some B) (hL:Holds L H):Holds ((k,B)::L) H:=λi b hb=>by
 simp only[aa] at hb;split at hb
 ·rename_i e;subst e;rw[h];exact hb
 ·exact hL i b hb
theorem Ja (j:JS) (f:Int) (G Y N:Nat->Nat):af Tryz.prog 188 [.ptr 29 6 0 0,.int .i64 f] (jH j G Y N) (λr H=>r=.int .i64 (atF j.own f)/\Holds (jH j G Y N) H):=by
 unfold jH jB kU atF;refine ZF tK (Tryz.func188) rfl (λC=>?_);simp only[Tryz.ntmps188,Tryz.results188,go_sem];refine wR ?_;refine wN tK 1 ?_;refine wR ?_;refine wN tK 5 ?_;refine wG tK ?_;cases e:iq j.own f with
 | true=>
  refine wDT (hb:=(by simp[e])) (hk:=?_);refine wG tK ?_;refine wT ?_;exact ⟨rfl,λi b hb=>hb⟩
 | false=>
  refine wDF (hb:=(by simp[e])) (hk:=?_);refine wG tK ?_;refine wT ?_;exact ⟨rfl,λi b hb=>hb⟩
theorem G1 (j:JS) (f:Int) (G Y N:Nat->Nat):af Tryz.prog 206 [.int .i64 f,.ptr 2 1 0 0] (jcH j G Y N) (λr H=>r=.bool (cT j.lost f)/\Holds (jcH j G Y N) H):=by
 unfold jcH jB kU;refine ZF tK (Tryz.func206) rfl (λC=>?_);simp only[Tryz.ntmps206,Tryz.results206,go_sem];refine wG tK ?_;refine wT ?_;exact ⟨rfl,λi b hb=>hb⟩
theorem AB (j:JS) (l:List Int) (hlen:l.length≤100000000) (G Y N:Nat->Nat):af Tryz.prog 217 [.sl (l.map ZI),.fn 206 [.ptr 2 1 0 0]] (jcH j G Y N)
  (λr H=>r=.int .i64 (ct (l.findIdx? (cT j.lost)))/\Holds (jcH j G Y N) H):=by
 unfold jcH jB kU;refine ZF tK (Tryz.func217) rfl (λC=>?_);simp only[Tryz.ntmps217,Tryz.results217,go_sem];refine wG tK ?_;refine ZL (λi:Nat=>i≤l.length/\∀x,x∈l.take i->cT j.lost x=false) (λi=>l.length-i) (λi=>(8,.int .i64 i)::(5,.any)::u0 9 10 []) (λ_=>[]) 0 ⟨by omega,by simp⟩ ?_ λi hi=>?_
 ·simp only[go_sem];exact ZU w3 w3 w3
 obtain ⟨hi,hno⟩:=hi;simp only[go_sem];refine wG tK ?_;refine wD (λh=>?_) (λh=>?_)
 ·have hlt:i<l.length:=by simp at h;omega
  have hg:(l.map ZI).getD i []=ZI (l.getD i default):=Fam.getD hlt;have htk:=ZT hlt;have hgi:l[i]? = some (l.getD i default):=by rw[Wv,Ww hlt];rfl
  have hc:=G1 j (l.getD i default);unfold jcH jB kU at hc;generalize l.getD i default=n at hg htk hgi hc;refine wGq tK ?_ ?_ Zi
  ·simp[hlt,ZI]
  refine wP [29,25,26,27,2] Tryz.func206 (hf:=(hc)) (hk:=?_);refine wG tK ?_;refine wD (λh=>?_) (λh=>?_)
  ·refine wG tK ?_;refine wU ?_ ?_
   ·rw[eR hgi hno h];rfl
   ·exact q9
  ·have hw:IntKind.i64.wrap ((i:Int)+1)=(i:Int)+1:=wrap_small z8 z8;refine wG tK ?_ w5 k7;refine ZB ⟨i+1,⟨by omega,?_⟩,by omega,ZU ?_ ?_ ?_⟩
   ·rw[htk];intro x hx
    rcases List.mem_append.1 hx with hx | hx
    ·exact hno x hx
    ·rw[List.mem_singleton.1 hx];exact h
   ·simp[go_sem]
   ·simp[go_sem]
   ·simp[go_sem]
 ·have e:i=l.length:=by simp at h;omega
  refine wG tK ?_;refine wU ?_ ?_
  ·rw[e,W2] at hno;rw[YK.2 hno];rfl
  ·exact q9
theorem AA (j:JS) (l:List Int) (hlen:l.length≤100000000) (G Y N:Nat->Nat):af Tryz.prog 205 [.sl (l.map ZI),.fn 206 [.ptr 2 1 0 0]] (jcH j G Y N)
  (λr H=>r=.bool (l.any (cT j.lost))/\Holds (jcH j G Y N) H):=by
 have hc:=AB j l hlen;unfold jcH jB kU at hc ⊢;refine ZF tK (Tryz.func205) rfl (λC=>?_);simp only[Tryz.ntmps205,Tryz.results205,go_sem];refine wG tK ?_;refine wP [29,25,26,27,2] Tryz.func217 (hf:=(hc)) (hk:=?_);refine wG tK ?_;refine wU ?_ ?_
 ·rw[mh]
 ·exact q9
theorem E' (j:JS) (a:Act) (G Y N:Nat->Nat):af Tryz.prog 187 [.ptr 29 6 0 0,.ptr 6 7 0 0] (jaH j a G Y N) (λr H=>r=.bool (gq j a)/\Holds (jaH j a G Y N) H):=by
 have hc:=AA j (bU a) (by have:=fu a;omega);have hf:=vU a;unfold gq;generalize (bU a).any (cT j.lost)=z at hc ⊢;generalize bU a=l at hc hf;unfold jcH jB kU at hc;unfold ZA at hf;unfold jaH jB kU ZA;refine ZF tK (Tryz.func187) rfl (λC=>?_);simp only[Tryz.ntmps187,Tryz.results187,go_sem];refine wG tK ?_;refine wC Tryz.func154 (hf:=(hf)) (hk:=?_);refine wG tK ?_;refine wP [29,25,26,27,2] Tryz.func205 (hf:=(hc)) (hk:=?_);refine wG tK ?_;refine wU ?_ ?_
 ·rfl
 ·exact q9
theorem Fq (j:JS) (r:Rec) (a:Act) (hl:Small j.l) (G Y N:Nat->Nat):af Tryz.prog 189 [.ptr 29 6 0 0,.rp (ZR r) 0,.ptr 6 7 0 0] (jaH j a G Y N) (λx H=>x=.bool (fo j r a)/\Holds (jaH j a G Y N) H):=by
 have hf:=eI j.l a.fid hl;unfold fo;unfold jaH jB kU ZA ZR;refine ZF tK (Tryz.func189) rfl (λC=>?_);simp only[Tryz.ntmps189,Tryz.results189,go_sem];refine wG tK ?_;refine ZW ZM ?_;refine ZS rfl ?_;refine sN tK 12 ?_;refine eo 20 z6 (λc20 h20=>?_);simp only[go_sem];refine sN tK 7 ?_;refine eo 27 z6 (λc27 h27=>?_);simp only[go_sem];refine sG tK ?_;refine sE ?_;refine wKd ?_
 try simp only[go_sem,gA,gB,gC]
 refine wR ?_;refine aq 38 z6 (λc38 h38=>?_);simp only[go_sem];have hst:(((a.kind≠3/\a.kind≠4)\/r.version<0)\/cT j.ours a.fid=true)↔c38=true:=by
  subst h38 h27 h20;simp[cP,fb]
 clear h38 h27 h20;cases c38 with
 | true=>
  rw[if_pos (hst.2 rfl)];refine wDT (hb:=(rfl)) (hk:=?_);refine wG tK ?_;refine wU ?_ ?_
  ·rfl
  ·exact q9
 | false=>
  rw[if_neg (λh=>nomatch hst.1 h)];refine wDF (hb:=(rfl)) (hk:=?_);refine wG tK ?_;refine ZW ZM ?_;refine ZS rfl ?_;refine sN tK 8 ?_;refine sC Tryz.func66 (hf:=(hf)) (hk:=?_);simp only[go_sem,gy];rw[cL];cases ak j.l a.fid with
  | none=>
   simp only[Option.getD_none,Option.isSome_none];refine sG tK ?_;refine sW tK ?_;simp only[go_sem,ZN,al];refine sT tK ?_;refine sE ?_;refine dS tK ?_;refine wKd ?_
   try simp only[go_sem,gA,gB,gC]
   refine wG tK ?_;refine ZW ZM ?_;refine ZS rfl ?_;refine sG tK ?_;refine sE ?_;refine wKd ?_
   try simp only[go_sem,gA,gB,gC]
   refine wG tK ?_;refine wU ?_ ?_
   ·rfl
   ·exact q9
  | some n=>
   simp only[Option.getD_some,Option.isSome_some];refine sG tK ?_;refine sW tK ?_;simp only[go_sem,ZN];refine sT tK ?_;refine sE ?_;refine dS tK ?_;refine wKd ?_
   try simp only[go_sem,gA,gB,gC]
   refine wG tK ?_;refine ZW ZM ?_;refine ZS rfl ?_;refine sG tK ?_;refine sE ?_;refine wKd ?_
   try simp only[go_sem,gA,gB,gC]
   refine wG tK ?_;refine wU ?_ ?_
   ·rfl
   ·exact q9
theorem CW {j:JS} {r:Rec} (h:gq j r.act=true):iv j r=⟨14,0⟩/\jS j r=r.act/\fm j r=j:=by
 simp[iv,jS,fm,jk,h]
theorem EY {j:JS} {r:Rec} (h:gq j r.act=false) (h1:aS r.act=true) (h2:iq j.own r.act.fid=true\/r.act.fid≥0):iv j r=⟨2,0⟩/\jS j r=r.act/\fm j r=j:=by
 simp[iv,jS,fm,jk,h,h1,h2]
theorem CX {j:JS} {r:Rec} (h:gq j r.act=false) (h1:¬(aS r.act=true/\(iq j.own r.act.fid=true\/r.act.fid≥0))) (h2:fo { j with own:=cC j r } r (bS j r)=true) :
  iv j r=⟨13,0⟩/\jS j r=bS j r/\fm j r={ j with own:=cC j r }:=by
 simp[iv,jS,fm,jk,h,h1,h2]
theorem Hd {j:JS} {r:Rec} (h:gq j r.act=false) (h1:¬(aS r.act=true/\(iq j.own r.act.fid=true\/r.act.fid≥0))) (h2:fo { j with own:=cC j r } r (bS j r)=false) (h3:aH j.l (bS j r)≠0) :
  iv j r=⟨aH j.l (bS j r),0⟩/\jS j r=bS j r/\fm j r={ j with own:=if aS r.act=true then eB (cC j r) r.act.fid else cC j r }:=by
 simp[iv,jS,fm,jk,h,h1,h2,h3]
theorem EX {j:JS} {r:Rec} (h:gq j r.act=false) (h1:¬(aS r.act=true/\(iq j.own r.act.fid=true\/r.act.fid≥0))) (h2:fo { j with own:=cC j r } r (bS j r)=false) (h3:aH j.l (bS j r)=0) :
  iv j r=⟨0,(bS j r).fid⟩/\jS j r=bS j r/\fm j r={ j with l:=aN j.l (bS j r) j.version,next:=if aS r.act=true then j.next+1 else j.next,version:=j.version+1,own:=cC j r }:=by
 simp[iv,jS,fm,jk,h,h1,h2,h3]
theorem Jj (j:JS) (r:Rec) (hg:Good j.l) (hr:ActFit r.act) (hn:j.next.natAbs≤90000000) (hv:j.version.natAbs≤90000000) (G Y N:Nat->Nat):af Tryz.prog 159 [.ptr 29 6 0 0,.rp (ZR r) 0] (jH j G Y N)
  (λx H=>x=.tup [.agg (ZV (iv j r)),.agg (ZA (jS j r))]/\Holds (jH (fm j r) G Y N) H):=by
 have how:=lP r.act hr.data;have hre:=E' j r.act;have q0:=@CW j r;have q1:=@EY j r;have q2:=@CX j r;have q3:=@Hd j r;have q4:=@EX j r;have hfid:∀f (G Y N:Nat->Nat),af Tryz.prog 188 [.ptr 29 6 0 0,.int .i64 f] (jH { j with own:=cC j r } G Y N) (λx H=>x=.int .i64 (atF (cC j r) f)/\Holds (jH { j with own:=cC j r } G Y N) H):=λf=>Ja { j with own:=cC j r } f
 unfold jH jB kU at hfid;simp only at hfid;have hst:=Fq { j with own:=cC j r } r (bS j r) hg.small;have hap:=nG hg (bS j r) j.version (rW hr);have hwn:IntKind.i64.wrap (j.next+1)=j.next+1:=Eng.wrap_small z8 z8;have hwv:IntKind.i64.wrap (j.version+1)=j.version+1:=Eng.wrap_small z8 z8;unfold jaH jB kU at hst;unfold pz at hap;generalize fo { j with own:=cC j r } r (bS j r)=st at *;generalize aH j.l (bS j r)=E at *;generalize aN j.l (bS j r) j.version=L at *;simp only[ZA,bS] at hst hap;generalize iv j r=V at *;generalize jS j r=A at *;generalize fm j r=J at *;unfold jaH jB kU ZA at hre;unfold ZA at how;unfold jH jB kU ZR;refine ZF tK (Tryz.func159) rfl (λC=>?_);simp only[Tryz.ntmps159,Tryz.results159,go_sem];refine wG tK ?_;refine wC Tryz.func55 (hf:=(how)) (hk:=?_);refine wG tK ?_;refine wP [29,25,26,27,6] Tryz.func187 (hf:=(hre)) (hk:=?_);cases h0:gq j r.act with
 | true=>
  obtain ⟨e1,e2,e3⟩:=q0 h0;refine wG tK ?_;refine wDT (hb:=(rfl)) (hk:=?_);refine wG tK ?_;refine ZW ZM ?_;refine ZS rfl ?_;refine sB tK ?_;refine sN tK 1 ?_;refine sT tK ?_;refine sT tK ?_;refine sE ?_;refine wKd ?_
  try simp only[go_sem,gA,gB,gC]
  refine wG tK ?_;refine wU ?_ ?_
  ·simp[ZV,ZA,e1,e2]
  ·rw[e3];simp only[pins,List.cons_append,List.nil_append,List.map_cons,List.map_nil]
   repeat' refine ZH ?_ ?_
   all_goals first | exact YH _ | rfl | simp[go_sem]
 | false=>
  clear q0;refine wG tK ?_;refine wDF (hb:=(rfl)) (hk:=?_);refine wR ?_;refine wN tK 8 ?_;refine aq 28 z6 (λc28 h28=>?_);simp only[go_sem];have h28':c28=aS r.act:=by rw[←h28,fb];rfl
  clear h28;subst h28';refine wG tK ?_;cases h1:aS r.act with
  | true=>
   refine wDT (hb:=(rfl)) (hk:=?_);refine wG tK ?_;refine ZW ZM ?_;refine ZS rfl ?_;refine sG tK ?_;refine sE ?_;refine wKd ?_
   try simp only[go_sem,gA,gB,gC]
   refine wG tK ?_;cases h2:(iq j.own r.act.fid||decide (r.act.fid≥0)) with
   | true=>
    obtain ⟨e1,e2,e3⟩:=q1 h0 h1 WS;refine wDT (hb:=(by simpa[fb] using h2)) (hk:=?_);refine wG tK ?_;refine ZW ZM ?_;refine ZS rfl ?_;refine sB tK ?_;refine sN tK 1 ?_;refine sT tK ?_;refine sT tK ?_;refine sE ?_;refine wKd ?_
    try simp only[go_sem,gA,gB,gC]
    refine wG tK ?_;refine wU ?_ ?_
    ·simp[ZV,ZA,e1,e2]
    ·rw[e3];simp only[pins,List.cons_append,List.nil_append,List.map_cons,List.map_nil]
     repeat' refine ZH ?_ ?_
     all_goals first | exact YH _ | rfl | simp[go_sem]
   | false=>
    refine wDF (hb:=(by simpa[fb] using h2)) (hk:=?_);refine wG tK ?_;refine ZW ZM ?_;refine ZS rfl ?_;refine sN tK 10 ?_;refine sE ?_;refine dS tK ?_;refine wKd ?_
    try simp only[go_sem,gA,gB,gC]
    refine wG tK ?_;have ho:cC j r=bx j.own r.act.fid j.next:=by unfold cC;rw[if_pos h1]
    rw[←ho];have hnf:¬(aS r.act=true/\(iq j.own r.act.fid=true\/r.act.fid≥0)):=λhh=>by
     have:=hh.2;simp only[Bool.or_eq_false_iff,decide_eq_false_iff_not] at h2
     rcases this with h | h
     ·rw[h2.1] at h;cases h
     ·exact h2.2 h
    clear h2;have hk5:¬r.act.kind=5:=λe=>by simp[aS,e] at h1
    have hT:(if r.act.kind=5 then atF (cC j r) r.act.to else r.act.to)=r.act.to:=if_neg hk5;rw[hT] at hst hap
    -- the bU as they are here
    refine ZW ZM ?_;refine ZS rfl ?_;refine sN tK 3 ?_;refine dM rfl rfl z7 w3 ⟨_,Tryz.func188,by kernel_rfl,rfl⟩ [29,25,26,27] w8 w3 y8 w3 w3 (hfid r.act.fid) z6 y6 ?_;refine sN tK 3 ?_;refine dM rfl rfl z7 w3 ⟨_,Tryz.func188,by kernel_rfl,rfl⟩ [29,25,26,27] w8 w3 y8 w3 w3 (hfid r.act.dir) z6 y6 ?_;refine sN tK 1 ?_;refine sT tK ?_;refine sN tK 1 ?_;refine sT tK ?_;refine sE ?_;refine wKd ?_
    try simp only[go_sem,gA,gB,gC]
    refine wG tK ?_;refine wDF (hb:=WM) (hk:=?_);refine wG tK ?_;refine wP [29,25,26,27,6] Tryz.func189 (hf:=(hst)) (hk:=?_);refine wG tK ?_;cases st with
    | true=>
     obtain ⟨e1,e2,e3⟩:=q2 h0 hnf rfl;refine wDT (hb:=(rfl)) (hk:=?_);refine wG tK ?_;refine ZW ZM ?_;refine ZS rfl ?_;refine sB tK ?_;refine sN tK 1 ?_;refine sT tK ?_;refine sT tK ?_;refine sE ?_;refine wKd ?_
     try simp only[go_sem,gA,gB,gC]
     refine wG tK ?_;refine wU ?_ ?_
     ·simp[ZV,ZA,e1,e2,bS,hk5]
     ·rw[e3];simp only[pins,List.cons_append,List.nil_append,List.map_cons,List.map_nil]
      repeat' refine ZH ?_ ?_
      all_goals first | exact YH _ | rfl | simp[go_sem]
    | false=>
     refine wDF (hb:=(rfl)) (hk:=?_);refine wG tK ?_
     by_cases hE:E=0
     ·obtain ⟨e1,e2,e3⟩:=q4 h0 hnf rfl hE;subst hE;rw[h1] at e3;simp only[if_true,Bool.false_eq_true,if_false] at hap e3;refine ZW ZM ?_;refine ZS rfl ?_;refine sN tK 9 ?_;refine sC Tryz.func64 (hf:=(hap)) (hk:=?_);refine sG tK ?_;refine sE ?_;refine wKd ?_
      try simp only[go_sem,gA,gB,gC]
      refine wG tK ?_;refine wDF (hb:=y8) (hk:=?_);refine wG tK ?_ QO Q8;refine wDT (hb:=y8) (hk:=?_);refine wG tK ?_ QO Q8;refine ZW ZM ?_;refine ZS rfl ?_;refine sN tK 2 ?_;refine sB tK ?_;refine sN tK 1 ?_;refine sT tK ?_;refine sT tK ?_;refine sE ?_;refine wKd ?_
      try simp only[go_sem,gA,gB,gC]
      refine wG tK ?_;refine wU ?_ ?_
      ·simp[ZV,ZA,e1,e2,bS,hk5]
      ·rw[e3];simp only[pins,List.cons_append,List.nil_append,List.map_cons,List.map_nil]
       repeat' refine ZH ?_ ?_
       all_goals first | exact YH _ | rfl | simp[go_sem]
     ·obtain ⟨e1,e2,e3⟩:=q3 h0 hnf rfl hE;rw[h1] at e3;simp only[hE,if_true,Bool.false_eq_true,if_false] at hap e3;refine ZW ZM ?_;refine ZS rfl ?_;refine sN tK 9 ?_;refine sC Tryz.func64 (hf:=(hap)) (hk:=?_);refine sG tK ?_;refine sE ?_;refine wKd ?_
      try simp only[go_sem,gA,gB,gC]
      refine wG tK ?_;refine wDT (hb:=u2) (hk:=?_);refine wG tK ?_;refine wDT (hb:=y8) (hk:=?_);refine wG tK ?_;refine ZW ZM ?_;refine ZS rfl ?_;refine sN tK 9 ?_;refine sE ?_;refine dS tK ?_;refine wKd ?_
      try simp only[go_sem,gA,gB,gC]
      refine wG tK ?_;refine ZW ZM ?_;refine ZS rfl ?_;refine sN tK 1 ?_;refine sB tK ?_;refine sN tK 1 ?_;refine sT tK ?_;refine sT tK ?_;refine sE ?_;refine wKd ?_
      try simp only[go_sem,gA,gB,gC]
      refine wG tK ?_;refine wU ?_ ?_
      ·simp[ZV,ZA,e1,e2,bS,hk5]
      ·rw[e3];simp only[pins,List.cons_append,List.nil_append,List.map_cons,List.map_nil]
       repeat' refine ZH ?_ ?_
       all_goals first | exact YH _ | rfl | simp[go_sem]
  | false=>
   refine wDF (hb:=(rfl)) (hk:=?_);refine wG tK ?_;have ho:cC j r=j.own:=by unfold cC;rw[h1];rfl
   have hnf:¬(aS r.act=true/\(iq j.own r.act.fid=true\/r.act.fid≥0)):=λhh=>by rw[h1] at hh;cases hh.1
   rw[←ho]
   -- the bU as they are here
   refine ZW ZM ?_;refine ZS rfl ?_;refine sN tK 3 ?_;refine dM rfl rfl z7 w3 ⟨_,Tryz.func188,by kernel_rfl,rfl⟩ [29,25,26,27] w8 w3 y8 w3 w3 (hfid r.act.fid) z6 y6 ?_;refine sN tK 3 ?_;refine dM rfl rfl z7 w3 ⟨_,Tryz.func188,by kernel_rfl,rfl⟩ [29,25,26,27] w8 w3 y8 w3 w3 (hfid r.act.dir) z6 y6 ?_;refine sN tK 1 ?_;refine sT tK ?_;refine sN tK 1 ?_;refine sT tK ?_;refine sE ?_;refine wKd ?_
   try simp only[go_sem,gA,gB,gC]
   refine wG tK ?_
   by_cases hk5:r.act.kind=5
   ·have hT:(if r.act.kind=5 then atF (cC j r) r.act.to else r.act.to)=atF (cC j r) r.act.to:=if_pos hk5;rw[hT] at hst hap;refine wDT (hb:=WM) (hk:=?_);refine wG tK ?_;refine wP [29,25,26,27] Tryz.func188 (hf:=(hfid r.act.to)) (hk:=?_);refine wG tK ?_;refine wP [29,25,26,27,6] Tryz.func189 (hf:=(hst)) (hk:=?_);refine wG tK ?_;cases st with
    | true=>
     obtain ⟨e1,e2,e3⟩:=q2 h0 hnf rfl;refine wDT (hb:=(rfl)) (hk:=?_);refine wG tK ?_;refine ZW ZM ?_;refine ZS rfl ?_;refine sB tK ?_;refine sN tK 1 ?_;refine sT tK ?_;refine sT tK ?_;refine sE ?_;refine wKd ?_
     try simp only[go_sem,gA,gB,gC]
     refine wG tK ?_;refine wU ?_ ?_
     ·simp[ZV,ZA,e1,e2,bS,hk5]
     ·rw[e3];simp only[pins,List.cons_append,List.nil_append,List.map_cons,List.map_nil]
      repeat' refine ZH ?_ ?_
      all_goals first | exact YH _ | rfl | simp[go_sem]
    | false=>
     refine wDF (hb:=(rfl)) (hk:=?_);refine wG tK ?_
     by_cases hE:E=0
     ·obtain ⟨e1,e2,e3⟩:=q4 h0 hnf rfl hE;subst hE;rw[h1] at e3;simp only[if_true,Bool.false_eq_true,if_false] at hap e3;refine ZW ZM ?_;refine ZS rfl ?_;refine sN tK 9 ?_;refine sC Tryz.func64 (hf:=(hap)) (hk:=?_);refine sG tK ?_;refine sE ?_;refine wKd ?_
      try simp only[go_sem,gA,gB,gC]
      refine wG tK ?_;refine wDF (hb:=y8) (hk:=?_);refine wG tK ?_ QO Q8;refine wDF (hb:=y8) (hk:=?_);refine wG tK ?_ QO Q8;refine ZW ZM ?_;refine ZS rfl ?_;refine sN tK 2 ?_;refine sB tK ?_;refine sN tK 1 ?_;refine sT tK ?_;refine sT tK ?_;refine sE ?_;refine wKd ?_
      try simp only[go_sem,gA,gB,gC]
      refine wG tK ?_;refine wU ?_ ?_
      ·simp[ZV,ZA,e1,e2,bS,hk5]
      ·rw[e3];simp only[pins,List.cons_append,List.nil_append,List.map_cons,List.map_nil]
       repeat' refine ZH ?_ ?_
       all_goals first | exact YH _ | rfl | simp[go_sem]
     ·obtain ⟨e1,e2,e3⟩:=q3 h0 hnf rfl hE;rw[h1] at e3;simp only[hE,if_true,Bool.false_eq_true,if_false] at hap e3;refine ZW ZM ?_;refine ZS rfl ?_;refine sN tK 9 ?_;refine sC Tryz.func64 (hf:=(hap)) (hk:=?_);refine sG tK ?_;refine sE ?_;refine wKd ?_
      try simp only[go_sem,gA,gB,gC]
      refine wG tK ?_;refine wDT (hb:=u2) (hk:=?_);refine wG tK ?_;refine wDF (hb:=y8) (hk:=?_);refine wG tK ?_;refine ZW ZM ?_;refine ZS rfl ?_;refine sN tK 1 ?_;refine sB tK ?_;refine sN tK 1 ?_;refine sT tK ?_;refine sT tK ?_;refine sE ?_;refine wKd ?_
      try simp only[go_sem,gA,gB,gC]
      refine wG tK ?_;refine wU ?_ ?_
      ·simp[ZV,ZA,e1,e2,bS,hk5]
      ·rw[e3];simp only[pins,List.cons_append,List.nil_append,List.map_cons,List.map_nil]
       repeat' refine ZH ?_ ?_
       all_goals first | exact YH _ | rfl | simp[go_sem]
   ·have hT:(if r.act.kind=5 then atF (cC j r) r.act.to else r.act.to)=r.act.to:=if_neg hk5;rw[hT] at hst hap;refine wDF (hb:=WM) (hk:=?_);refine wG tK ?_;refine wP [29,25,26,27,6] Tryz.func189 (hf:=(hst)) (hk:=?_);refine wG tK ?_;cases st with
    | true=>
     obtain ⟨e1,e2,e3⟩:=q2 h0 hnf rfl;refine wDT (hb:=(rfl)) (hk:=?_);refine wG tK ?_;refine ZW ZM ?_;refine ZS rfl ?_;refine sB tK ?_;refine sN tK 1 ?_;refine sT tK ?_;refine sT tK ?_;refine sE ?_;refine wKd ?_
     try simp only[go_sem,gA,gB,gC]
     refine wG tK ?_;refine wU ?_ ?_
     ·simp[ZV,ZA,e1,e2,bS,hk5]
     ·rw[e3];simp only[pins,List.cons_append,List.nil_append,List.map_cons,List.map_nil]
      repeat' refine ZH ?_ ?_
      all_goals first | exact YH _ | rfl | simp[go_sem]
    | false=>
     refine wDF (hb:=(rfl)) (hk:=?_);refine wG tK ?_
     by_cases hE:E=0
     ·obtain ⟨e1,e2,e3⟩:=q4 h0 hnf rfl hE;subst hE;rw[h1] at e3;simp only[if_true,Bool.false_eq_true,if_false] at hap e3;refine ZW ZM ?_;refine ZS rfl ?_;refine sN tK 9 ?_;refine sC Tryz.func64 (hf:=(hap)) (hk:=?_);refine sG tK ?_;refine sE ?_;refine wKd ?_
      try simp only[go_sem,gA,gB,gC]
      refine wG tK ?_;refine wDF (hb:=y8) (hk:=?_);refine wG tK ?_ QO Q8;refine wDF (hb:=y8) (hk:=?_);refine wG tK ?_ QO Q8;refine ZW ZM ?_;refine ZS rfl ?_;refine sN tK 2 ?_;refine sB tK ?_;refine sN tK 1 ?_;refine sT tK ?_;refine sT tK ?_;refine sE ?_;refine wKd ?_
      try simp only[go_sem,gA,gB,gC]
      refine wG tK ?_;refine wU ?_ ?_
      ·simp[ZV,ZA,e1,e2,bS,hk5]
      ·rw[e3];simp only[pins,List.cons_append,List.nil_append,List.map_cons,List.map_nil]
       repeat' refine ZH ?_ ?_
       all_goals first | exact YH _ | rfl | simp[go_sem]
     ·obtain ⟨e1,e2,e3⟩:=q3 h0 hnf rfl hE;rw[h1] at e3;simp only[hE,if_true,Bool.false_eq_true,if_false] at hap e3;refine ZW ZM ?_;refine ZS rfl ?_;refine sN tK 9 ?_;refine sC Tryz.func64 (hf:=(hap)) (hk:=?_);refine sG tK ?_;refine sE ?_;refine wKd ?_
      try simp only[go_sem,gA,gB,gC]
      refine wG tK ?_;refine wDT (hb:=u2) (hk:=?_);refine wG tK ?_;refine wDF (hb:=y8) (hk:=?_);refine wG tK ?_;refine ZW ZM ?_;refine ZS rfl ?_;refine sN tK 1 ?_;refine sB tK ?_;refine sN tK 1 ?_;refine sT tK ?_;refine sT tK ?_;refine sE ?_;refine wKd ?_
      try simp only[go_sem,gA,gB,gC]
      refine wG tK ?_;refine wU ?_ ?_
      ·simp[ZV,ZA,e1,e2,bS,hk5]
      ·rw[e3];simp only[pins,List.cons_append,List.nil_append,List.map_cons,List.map_nil]
       repeat' refine ZH ?_ ?_
       all_goals first | exact YH _ | rfl | simp[go_sem]
end La
