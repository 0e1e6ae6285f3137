/- Texts of this claim, part 12: Apply, Rename, PBack, PRank, PGood, TSame, Ali2, Hof, Fid, Srv, Srv2, Cach. No condition. -/
import Derived.Test.YtmcfbfdonjllaaaGreatDoorYW11
set_option maxRecDepth 10000
set_option maxHeartbeats 4000000
set_option linter.unusedSimpArgs false
set_option linter.unusedVariables false
namespace La
open Go Go.Eng Go.Proofs
open Classical in
noncomputable def jJ (l:List Node) (fid k:Int):Bool:=decide (∃f,bB l fid f k=some true)
def toN (l:List Node) (a:Act):Node:=if a.to=a.dir then aE (bd l a.dir) a.name else bd l a.to
noncomputable def dB (l:List Node) (a:Act):Int:=if df l a=0 then (if gY l a.to=0 then (if cZ (toN l a) a.toName=0 then (if bz l a.fid=true then (if jJ l a.to a.fid=true then 11 else 0) else 12) else cZ (toN l a) a.toName) else gY l a.to) else df l a
noncomputable def dn (l:List Node) (a:Act) (v:Int):List Node:=if dB l a=0 then aT (if a.to=a.dir then l else aT l { aE (bd l a.dir) a.name with version:=v }) { bb (toN l a) a.toName a.fid with version:=v } else l
noncomputable def aB (l:List Node) (a:Act):Int:=if a.kind=1 then cC l a else if a.kind=2 then cC l a else if a.kind=3 then cr l a else if a.kind=4 then cv l a else if a.kind=5 then dB l a else 1
noncomputable def aH (l:List Node) (a:Act) (v:Int):List Node:=if a.kind=1 then bE l a v else if a.kind=2 then bE l a v else if a.kind=3 then bM l a v else if a.kind=4 then bX l a v else if a.kind=5 then dn l a v else l
noncomputable def pz (l:List Node) (a:Act) (v:Int):AV:=if aB l a=0 then .tup [.sl ((aH l a v).map ZN),.int .i64 0] else .tup [.sl [],.int .i64 (aB l a)]
structure FitA (l:List Node) (a:Act):Prop where
 small:Small l
 len:l.length≤99999990
 ent:∀n,n∈l->n.entries.length≤99999990
 name:a.name.length≤100000000
 toName:a.toName.length≤100000000
 data:a.data.length≤100000000
theorem Bt (l:List Node) (a:Act) (v:Int) (hf:FitA l a)
  (hren:a.kind=5->∀(G Y N:Nat->Nat),ag Tryz.prog 151 [.ptr 15 9 0 0] (dH (ZD l a v) G Y N) (λr H=>r=.int .i64 (dB l a)/\∀i b,ae (dH (ZD (dn l a v) a v) G Y N) i=some b->ae H i=some b)) :
  ag Tryz.prog 109 [.sl (l.map ZN),.agg (ZA a),.int .i64 v] [] (λr _=>r=if aB l a=0 then .tup [.sl ((aH l a v).map ZN),.int .i64 0] else .tup [.nils,.int .i64 (aB l a)]):=by
 have hl:=hf.small;have c1:=GJ l a v hl hf.len hf.ent hf.name;have c3:=ET l a v hl hf.data;have c4:=Ca l a v hl hf.len hf.name;generalize hE:aB l a=e;generalize hL:aH l a v=L;refine ZF tK (Tryz.func109) rfl (λC=>?_);simp only[Tryz.ntmps109,Tryz.results109,go_sem];refine wGq tK ?_ ?_ Qt
 ·simp
 refine ZZ 4 rfl (rfl) ?_;simp only[go_sem];refine ZW ZM ?_;refine ZS rfl ?_;refine sG tK ?_;refine sC Tryz.func66 (hf:=(k_ l hl)) (hk:=?_);refine sN tK 2 ?_ z6 z6 Qt (by simp[go_sem,ZA]);refine sB tK ?_;refine sW tK ?_;refine sE ?_;refine dS tK ?_;refine wKd ?_
 try simp only[go_sem,gA,gB,gC]
 refine wG tK ?_;refine wD (λh=>?_) (λh=>?_)
 ·have hk:a.kind=1:=by simpa using h
  have q1:cC l a=e:=by rw[←hE];simp[aB,hk]
  have q2:bE l a v=L:=by rw[←hL];simp[aH,hk]
  rw[q1,q2] at c1;refine wG tK ?_;refine wDT (hb:=QM) (hk:=?_);refine wG tK ?_;refine wP [15] Tryz.func148 (hf:=(c1)) (hk:=?_);refine wG tK ?_;refine wD (λh=>?_) (λh=>?_)
  ·have he:e≠0:=by simpa using h
   refine wG tK ?_;refine wT ?_;simp[he]
  ·have he:e=0:=by simpa using h
   refine wGq tK ?_ ?_ k6
   ·simp[ZD]
   refine wT ?_;simp[he]
 have hk1:¬a.kind=1:=by simpa using h
 refine wG tK ?_
 by_cases hk2:a.kind=2
 ·have hk:a.kind=2:=hk2;have q1:cC l a=e:=by rw[←hE];simp[aB,hk]
  have q2:bE l a v=L:=by rw[←hL];simp[aH,hk]
  rw[q1,q2] at c1;refine wDT (hb:=QM) (hk:=?_);refine wG tK ?_;refine wP [15] Tryz.func148 (hf:=(c1)) (hk:=?_);refine wG tK ?_;refine wD (λh=>?_) (λh=>?_)
  ·have he:e≠0:=by simpa using h
   refine wG tK ?_;refine wT ?_;simp[he]
  ·have he:e=0:=by simpa using h
   refine wGq tK ?_ ?_ k6
   ·simp[ZD]
   refine wT ?_;simp[he]
 refine wDF (hb:=(by simpa using hk2)) (hk:=?_);refine wG tK ?_;refine wD (λh=>?_) (λh=>?_)
 ·have hk:a.kind=3:=by simpa using h
  have q1:cr l a=e:=by rw[←hE];simp[aB,hk]
  have q2:bM l a v=L:=by rw[←hL];simp[aH,hk]
  rw[q1,q2] at c3;refine wG tK ?_;refine wP [15] Tryz.func149 (hf:=(c3)) (hk:=?_);refine wG tK ?_;refine wD (λh=>?_) (λh=>?_)
  ·have he:e≠0:=by simpa using h
   refine wG tK ?_;refine wT ?_;simp[he]
  ·have he:e=0:=by simpa using h
   refine wGq tK ?_ ?_ k6
   ·simp[ZD]
   refine wT ?_;simp[he]
 have hk3:¬a.kind=3:=by simpa using h
 refine wG tK ?_;refine wD (λh=>?_) (λh=>?_)
 ·have hk:a.kind=4:=by simpa using h
  have q1:cv l a=e:=by rw[←hE];simp[aB,hk]
  have q2:bX l a v=L:=by rw[←hL];simp[aH,hk]
  rw[q1,q2] at c4;refine wG tK ?_;refine wP [15] Tryz.func150 (hf:=(c4)) (hk:=?_);refine wG tK ?_;refine wD (λh=>?_) (λh=>?_)
  ·have he:e≠0:=by simpa using h
   refine wG tK ?_;refine wT ?_;simp[he]
  ·have he:e=0:=by simpa using h
   refine wGq tK ?_ ?_ k6
   ·simp[ZD]
   refine wT ?_;simp[he]
 have hk4:¬a.kind=4:=by simpa using h
 refine wG tK ?_;refine wD (λh=>?_) (λh=>?_)
 ·have hk:a.kind=5:=by simpa using h
  have c5:=hren hk;have q1:dB l a=e:=by rw[←hE];simp[aB,hk]
  have q2:dn l a v=L:=by rw[←hL];simp[aH,hk]
  rw[q1,q2] at c5;refine wG tK ?_;refine wP [15] Tryz.func151 (hf:=(c5)) (hk:=?_);refine wG tK ?_;refine wD (λh=>?_) (λh=>?_)
  ·have he:e≠0:=by simpa using h
   refine wG tK ?_;refine wT ?_;simp[he]
  ·have he:e=0:=by simpa using h
   refine wGq tK ?_ ?_ k6
   ·simp[ZD]
   refine wT ?_;simp[he]
 have hk5:¬a.kind=5:=by simpa using h
 have q1:e=1:=by rw[←hE];simp[aB,hk1,hk2,hk3,hk4,hk5]
 subst q1;refine wG tK ?_;refine wDT (hb:=y7) (hk:=?_);refine wG tK ?_;refine wT ?_;simp
theorem C_ (l:List Node) (a:Act) (v:Int) (hf:FitA l a)
  (hren:a.kind=5->∀(G Y N:Nat->Nat),ag Tryz.prog 151 [.ptr 15 9 0 0] (dH (ZD l a v) G Y N) (λr H=>r=.int .i64 (dB l a)/\∀i b,ae (dH (ZD (dn l a v) a v) G Y N) i=some b->ae H i=some b)) :
  ag Tryz.prog 109 [.sl (l.map ZN),.agg (ZA a),.int .i64 v] [] (λr _=>r=pz l a v):=by
 refine ag.kV (Bt l a v hf hren) ?_;unfold pz;split
 ·have h1:kV ((aH l a v).map ZN)=(aH l a v).map ZN:=by
   rw[eN,Wn];exact Wo λn _=>qJ n
  simp only[nrm,ic,h1]
 ·rfl
end La
namespace La
open Go Go.Eng Go.Proofs
theorem pt (l:List Node) (fid:Int):∀(f:Nat) (k:Int) (b:Bool),bB l fid f k=some b->bB l fid (f+1) k=some b
 | 0,_,_,h=>by cases h
 | f+1,k,b,h=>by
  rw[bB] at h ⊢
  by_cases hk:fid=k
  ·rw[if_pos hk] at h ⊢;exact h
  ·rw[if_neg hk] at h ⊢;cases e:af l k with
   | none=>rw[e] at h;exact h
   | some n=>
    rw[e] at h;simp only at h ⊢;split at h
    ·rename_i hall;injection h with h
     have key:∀x,x∈n.entries->decide (x.fid=k)=false->bB l fid (f+1) x.fid=bB l fid f x.fid:=λx hx hne=>by
      have h1:=List.all_eq_true.1 hall x hx;rw[hne,Wq] at h1;cases h2:bB l fid f x.fid with
      | none=>rw[h2] at h1;cases h1
      | some c=>exact pt l fid f x.fid c h2
     rw[if_pos (List.all_eq_true.2 λx hx=>by
      cases hne:decide (x.fid=k) with
      | true=>rfl
      | false=>rw[key x hx hne,←hne];exact List.all_eq_true.1 hall x hx),←h]
     congr 1
     rw[W1,List.any_eq_true,List.any_eq_true];constructor
     ·rintro ⟨x,hx,h3⟩;refine ⟨x,hx,?_⟩;cases hne:decide (x.fid=k) with
      | true=>rw[hne] at h3;exact h3
      | false=>rw[key x hx hne,hne] at h3;exact h3
     ·rintro ⟨x,hx,h3⟩;refine ⟨x,hx,?_⟩;cases hne:decide (x.fid=k) with
      | true=>rw[hne] at h3;exact h3
      | false=>rw[hne] at h3;rw[key x hx hne];exact h3
    ·cases h
theorem tA {l:List Node} {fid k:Int} {b:Bool} {f g:Nat} (hfg:f≤g) (h:bB l fid f k=some b):bB l fid g k=some b:=by
 obtain ⟨d,rfl⟩:=Nat.exists_eq_add_of_le hfg;clear hfg
 induction d with
 | zero=>exact h
 | succ d ih=>exact pt l fid _ k b ih
open Classical in
theorem Ap {l:List Node} {fid k:Int} {b:Bool} {f:Nat} (h:bB l fid f k=some b):jJ l fid k=b:=by
 unfold jJ;cases b with
 | true=>exact decide_eq_true ⟨f,h⟩
 | false=>
  refine decide_eq_false ?_;rintro ⟨g,hg⟩
  rcases Nat.le_total f g with hle | hle
  ·rw[tA hle h] at hg;cases hg
  ·rw[tA hle hg] at h;cases h
theorem sd {l:List Node} (hl:Small l) (k:Int):(bd l k).Small:=hl.find k
theorem Cb (l:List Node) (a:Act) (v:Int) (hf:FitA l a) (f:Nat) (hw:bB l a.to f a.fid=some (jJ l a.to a.fid)) (G Y N:Nat->Nat):ag Tryz.prog 151 [.ptr 15 9 0 0] (dH (ZD l a v) G Y N)
  (λr H=>r=.int .i64 (dB l a)/\∀i b,ae (dH (ZD (dn l a v) a v) G Y N) i=some b->ae H i=some b):=by
 have hl:=hf.small;have hlen:=hf.len;have hmE:dn l a v=if dB l a=0 then aT (if a.to=a.dir then l else aT l { aE (bd l a.dir) a.name with version:=v }) { bb (toN l a) a.toName a.fid with version:=v } else l:=rfl;rw[hmE];unfold dB;have hwi:=vc l hl a.to f a.fid _ hw;generalize jJ l a.to a.fid=wb at hwi;have hsn:=sd hl a.dir;have hst:=sd hl a.to;have hent:∀k,(bd l k).entries.length≤99999990:=λk=>by
  unfold bd;cases e:af l k with
  | none=>simp[ax]
  | some n=>exact hf.ent n (pN e)
 have hlv:=xQ (bd l a.dir) a.name hsn;have hls:=oI hsn a.name;have hto:(toN l a).Small:=by unfold toN;split;exact hls;exact hst
 have htoe:(toN l a).entries.length≤99999990:=by
  unfold toN;split
  ·have h1:=WH (λe:Entry=>!(e.name==a.name)) (bd l a.dir).entries;have h2:=hent a.dir;have h3:(aE (bd l a.dir) a.name).entries.length≤(bd l a.dir).entries.length:=h1;omega
  ·exact hent a.to
 have hroom:=Ba (toN l a) a.toName hto hf.toName;have hent2:=wZ (toN l a) a.toName a.fid hto;have hens:=ov hto a.toName a.fid z7;have hp1:=qa l a v (aE (bd l a.dir) a.name) hl hls;have hl1:Small (if a.to=a.dir then l else aT l { aE (bd l a.dir) a.name with version:=v }):=by
  split
  ·exact hl
  ·exact nP hl ⟨hls.data,hls.entries⟩ z7
 have hp2:=qa (if a.to=a.dir then l else aT l { aE (bd l a.dir) a.name with version:=v }) a v (bb (toN l a) a.toName a.fid) hl1 hens;have hT:toN l a=if a.to=a.dir then aE (bd l a.dir) a.name else bd l a.to:=rfl;unfold dH;refine ZF tK (Tryz.func151) rfl (λC=>?_);simp only[Tryz.ntmps151,Tryz.results151,go_sem];refine wG tK ?_;refine wP [15] Tryz.func178 (hf:=(xV l a v hl hf.name)) (hk:=?_);generalize aT (if a.to=a.dir then l else aT l { aE (bd l a.dir) a.name with version:=v }) { bb (toN l a) a.toName a.fid with version:=v }=l2 at hp2;generalize bb (toN l a) a.toName a.fid=en at hent2 hp2;generalize toN l a=T at *;generalize aE (bd l a.dir) a.name=lv at *;generalize bd l a.dir=n at *;generalize hge:df l a=e;refine wGq tK ?_ ?_ y6
 ·simp[ZN]
 refine wD (λh=>?_) (λh=>?_)
 ·have he:e≠0:=by simpa using h
  refine wG tK ?_;refine wU ?_ (cY ?_ ?_)
  ·simp[he]
  ·simp[go_sem,ZD,he]
  ·simp[go_sem]
 have he:e=0:=by simpa using h
 subst he;simp only[if_true];refine wGq tK ?_ ?_ k6
 ·simp[ZD]
 refine wP [15] Tryz.func174 (hf:=(zd l a v a.to hl)) (hk:=?_);generalize bd l a.to=m at *;generalize hgd:gY l a.to=e;refine wGq tK ?_ ?_ y6
 ·simp[ZN]
 refine wD (λh=>?_) (λh=>?_)
 ·have he:e≠0:=by simpa using h
  refine wG tK ?_;refine wU ?_ (cY ?_ ?_)
  ·simp[he]
  ·simp[go_sem,ZD,he]
  ·simp[go_sem]
 have he:e=0:=by simpa using h
 subst he;simp only[if_true];refine wG tK ?_;refine ZW ZM ?_;refine ZS rfl ?_;refine sNq tK 11 ?_ ?_ z6 z6 k6
 ·simp[ZD]
 refine sE ?_;refine wKd ?_
 try simp only[go_sem,gA,gB,gC]
 refine wD (λh=>?_) (λh=>?_)
 ·have htd:a.to=a.dir:=by simpa using h
  simp only[htd,if_true] at hT hp2;subst hT;refine wG tK ?_;refine ZW ZM ?_;refine ZS rfl ?_;refine sNq tK 6 ?_ ?_ z6 z6 v7
  ·simp[ZD,ZN]
  refine sC Tryz.func179 (hf:=(hlv)) (hk:=?_);refine sE ?_;refine dSq tK ?_ ?_
  ·simp[go_sem,ZN]
  refine wKd ?_
  try simp only[go_sem,gA,gB,gC]
  refine wG tK ?_;refine ZW ZM ?_;refine ZS rfl ?_;refine sNq tK 6 ?_ ?_ z6 z6 v7
  ·simp[ZD,ZN]
  refine sC Tryz.func175 (hf:=(hroom)) (hk:=?_);refine sE ?_;refine dS tK ?_;refine wKd ?_
  try simp only[go_sem,gA,gB,gC]
  generalize hgr:cZ T a.toName=e;refine wG tK ?_;refine wD (λh=>?_) (λh=>?_)
  ·have he:e≠0:=by simpa using h
   refine wG tK ?_;refine wU ?_ (cY ?_ ?_)
   ·simp[he]
   ·simp[go_sem,ZD,he]
   ·simp[go_sem]
  have he:e=0:=by simpa using h
  subst he;simp only[if_true];refine wG tK ?_;refine ZW ZM ?_;refine ZS rfl ?_;refine sNq tK 9 ?_ ?_ z6 z6 k6
  ·simp[ZD]
  refine sC Tryz.func82 (hf:=(eF l a.fid hl)) (hk:=?_);simp only[go_sem,gx];generalize hgx:(af l a.fid).getD ax=x;generalize hga:bz l a.fid=ia;refine sG tK ?_;refine sW tK ?_;simp only[go_sem,ZN];refine sT tK ?_;refine sE ?_;refine dS tK ?_;refine wKd ?_
  try simp only[go_sem,gA,gB,gC]
  refine wG tK ?_;refine wD (λh=>?_) (λh=>?_)
  ·have h0:ia=false:=by simpa using h
   subst h0;refine wG tK ?_;refine wU ?_ (cY ?_ ?_)
   ·simp
   ·simp[go_sem,ZD]
   ·simp[go_sem]
  have h0:ia=true:=by simpa using h
  subst h0;simp only[if_true];refine wG tK ?_;refine ZW ZM ?_;refine ZS rfl ?_;refine sNq tK 14 ?_ ?_ z6 z6 k6
  ·simp[ZD]
  refine sC Tryz.func181 (hf:=(hwi)) (hk:=?_);refine sE ?_;refine wKd ?_
  try simp only[go_sem,gA,gB,gC]
  refine wD (λh=>?_) (λh=>?_)
  ·have h0:wb=true:=by simpa using h
   subst h0;refine wG tK ?_;refine wU ?_ (cY ?_ ?_)
   ·simp
   ·simp[go_sem,ZD]
   ·simp[go_sem]
  have h0:wb=false:=by simpa using h
  subst h0;simp only[Bool.false_eq_true,if_false,if_true];refine wG tK ?_;refine ZW ZM ?_;refine ZS rfl ?_;refine sNq tK 11 ?_ ?_ z6 z6 k6
  ·simp[ZD]
  refine sE ?_;refine wKd ?_
  try simp only[go_sem,gA,gB,gC]
  refine wDF (hb:=(by simp[htd])) (hk:=?_);refine wG tK ?_;refine ZW ZM ?_;refine ZS rfl ?_;refine sNq tK 12 ?_ ?_ z6 z6 v7
  ·simp[ZD,ZN]
  refine sC Tryz.func177 (hf:=(hent2)) (hk:=?_);refine sE ?_;refine fD rfl w9 rfl (wTP [15] Tryz.func176 (hf:=(hp2))) rfl ?_;refine wKd ?_
  try simp only[go_sem,gA,gB,gC]
  refine wG tK ?_;refine wU ?_ (cY ?_ ?_)
  ·simp
  ·simp[go_sem,ZD]
  ·simp[go_sem]
 ·have htd:¬a.to=a.dir:=by simpa using h
  simp only[htd,if_false] at hT hp2;subst hT;generalize aT l { lv with version:=v }=l1 at *;refine wG tK ?_;refine ZW ZM ?_;refine ZS rfl ?_;refine sNq tK 6 ?_ ?_ z6 z6 v7
  ·simp[ZD,ZN]
  refine sC Tryz.func175 (hf:=(hroom)) (hk:=?_);refine sE ?_;refine dS tK ?_;refine wKd ?_
  try simp only[go_sem,gA,gB,gC]
  generalize hgr:cZ T a.toName=e;refine wG tK ?_;refine wD (λh=>?_) (λh=>?_)
  ·have he:e≠0:=by simpa using h
   refine wG tK ?_;refine wU ?_ (cY ?_ ?_)
   ·simp[he]
   ·simp[go_sem,ZD,he]
   ·simp[go_sem]
  have he:e=0:=by simpa using h
  subst he;simp only[if_true];refine wG tK ?_;refine ZW ZM ?_;refine ZS rfl ?_;refine sNq tK 9 ?_ ?_ z6 z6 k6
  ·simp[ZD]
  refine sC Tryz.func82 (hf:=(eF l a.fid hl)) (hk:=?_);simp only[go_sem,gx];generalize hgx:(af l a.fid).getD ax=x;generalize hga:bz l a.fid=ia;refine sG tK ?_;refine sW tK ?_;simp only[go_sem,ZN];refine sT tK ?_;refine sE ?_;refine dS tK ?_;refine wKd ?_
  try simp only[go_sem,gA,gB,gC]
  refine wG tK ?_;refine wD (λh=>?_) (λh=>?_)
  ·have h0:ia=false:=by simpa using h
   subst h0;refine wG tK ?_;refine wU ?_ (cY ?_ ?_)
   ·simp
   ·simp[go_sem,ZD]
   ·simp[go_sem]
  have h0:ia=true:=by simpa using h
  subst h0;simp only[if_true];refine wG tK ?_;refine ZW ZM ?_;refine ZS rfl ?_;refine sNq tK 14 ?_ ?_ z6 z6 k6
  ·simp[ZD]
  refine sC Tryz.func181 (hf:=(hwi)) (hk:=?_);refine sE ?_;refine wKd ?_
  try simp only[go_sem,gA,gB,gC]
  refine wD (λh=>?_) (λh=>?_)
  ·have h0:wb=true:=by simpa using h
   subst h0;refine wG tK ?_;refine wU ?_ (cY ?_ ?_)
   ·simp
   ·simp[go_sem,ZD]
   ·simp[go_sem]
  have h0:wb=false:=by simpa using h
  subst h0;simp only[Bool.false_eq_true,if_false,if_true];refine wG tK ?_;refine ZW ZM ?_;refine ZS rfl ?_;refine sNq tK 11 ?_ ?_ z6 z6 k6
  ·simp[ZD]
  refine sE ?_;refine wKd ?_
  try simp only[go_sem,gA,gB,gC]
  refine wDT (hb:=(by simp[htd])) (hk:=?_);refine wG tK ?_;refine ZW ZM ?_;refine ZS rfl ?_;refine sNq tK 7 ?_ ?_ z6 z6 v7
  ·simp[ZD,ZN]
  refine sC Tryz.func179 (hf:=(hlv)) (hk:=?_);refine sE ?_;refine fD rfl w9 rfl (wTP [15] Tryz.func176 (hf:=(hp1))) rfl ?_;refine wKd ?_
  try simp only[go_sem,gA,gB,gC]
  refine wG tK ?_;refine ZW ZM ?_;refine ZS rfl ?_;refine sNq tK 12 ?_ ?_ z6 z6 v7
  ·simp[ZD,ZN]
  refine sC Tryz.func177 (hf:=(hent2)) (hk:=?_);refine sE ?_;refine fD rfl w9 rfl (wTP [15] Tryz.func176 (hf:=(hp2))) rfl ?_;refine wKd ?_
  try simp only[go_sem,gA,gB,gC]
  refine wG tK ?_;refine wU ?_ (cY ?_ ?_)
  ·simp
  ·simp[go_sem,ZD]
  ·simp[go_sem]
end La
namespace La
open Go
theorem bU {l:List Node} (h:Up l) (n:Node) (k:Int):af (aT l n) k=if k=n.fid then some n else af l k:=by
 by_cases e:k=n.fid
 ·subst e;rw[if_pos rfl];exact zK h n
 ·rw[if_neg e];exact (zL h n e).symm
theorem ec {l:List Node} (h:Up l) (f k:Int):af (dN l f) k=if k=f then none else af l k:=by
 obtain ⟨h1,h2⟩:=iT h f
 by_cases e:k=f
 ·subst e;rw[if_pos rfl];exact (dd h1).2 λx hx=>((h2 x).1 hx).2
 ·rw[if_neg e];cases e1:af l k with
  | none=>
   rw[dd h1];exact λx hx=>(dd h).1 e1 x ((h2 x).1 hx).1
  | some x=>
   obtain ⟨k1,k2⟩:=(ZO h).1 e1;exact (ZO h1).2 ⟨(h2 x).2 ⟨k1,by rw[k2];exact e⟩,k2⟩
end La
namespace La
open Go Go.Eng
def jV (r:Int->Nat) (l:List Node):Prop:=∀n,n∈l->∀e,e∈n.entries->r e.fid<r n.fid
inductive Reach (l:List Node):Int->Int->Prop
 | refl (k:Int):Reach l k k
 | head (n:Node) (e:Entry) (t:Int) (hn:n∈l) (he:e∈n.entries) (h:Reach l e.fid t):Reach l n.fid t
theorem Reach.tail {l:List Node} {k:Int} {n:Node} (hn:n∈l) {e:Entry} (he:e∈n.entries) (h:Reach l k n.fid):Reach l k e.fid:=by
 generalize ht:n.fid=t at h
 induction h with
 | refl k=>subst ht;exact .head n e _ hn he (.refl _)
 | head m d t hm hd h ih=>exact .head m d _ hm hd (ih ht)
theorem qV {l:List Node} (hu:Up l) {r:Int->Nat} (hr:jV r l) (t:Int):∀(f:Nat) (k:Int),r k<f->∃b,bB l t f k=some b
 | 0,k,h=>by omega
 | f+1,k,h=>by
  rw[bB];split
  ·exact ⟨_,rfl⟩
  ·cases e:af l k with
   | none=>exact ⟨_,rfl⟩
   | some n=>
    obtain ⟨hn,hk⟩:=(ZO hu).1 e;simp only;rw[if_pos (List.all_eq_true.2 λx hx=>by
     have h1:=hr n hn x hx;obtain ⟨b,hb⟩:=qV hu hr t f x.fid (by rw[hk] at h1;omega);rw[hb,Option.isSome_some,Bool.or_true])]
    exact ⟨_,rfl⟩
theorem pv {l:List Node} (hu:Up l) {r:Int->Nat} (hr:jV r l) {k t:Int} (h:Reach l k t):∀(f:Nat) (b:Bool),bB l t f k=some b->b=true:=by
 induction h with
 | refl k=>
  intro f b hb;cases f with
  | zero=>cases hb
  | succ f=>rw[bB,if_pos rfl] at hb;injection hb with hb;exact hb.symm
 | head n e t hn he h ih=>
  intro f b hb;cases f with
  | zero=>cases hb
  | succ f=>
   rw[bB] at hb;split at hb
   ·injection hb with hb;exact hb.symm
   ·rw[(ZO hu).2 ⟨hn,rfl⟩] at hb;simp only at hb;split at hb
    ·rename_i hall;injection hb with hb
     rw[←hb,List.any_eq_true];have hne:decide (e.fid=n.fid)=false:=decide_eq_false λh0=>by have:=hr n hn e he;rw[h0] at this;omega
     have h1:=List.all_eq_true.1 hall e he;rw[hne,Wq] at h1;refine ⟨e,he,?_⟩;cases h2:bB l t f e.fid with
     | none=>rw[h2] at h1;cases h1
     | some c=>rw[hne,ih f c h2];rfl
    ·cases hb
theorem iV {l:List Entry} {s:List UInt8} {f:Int} {x:Entry} (h:x∈aW l s f):x=⟨s,f⟩\/x∈l:=by
 unfold aW at h;split at h
 ·rcases Wt h with h | h
  ·exact .inr h
  ·exact .inl h
 ·rcases List.mem_append.1 h with h | h
  ·exact .inr (WI h)
  ·rcases List.mem_cons.1 h with h | h
   ·exact .inl h
   ·exact .inr (WX h)
theorem ef {l:List Entry} {s:List UInt8} {x:Entry} (h:x∈aX l s):x∈l:=(WE.1 h).1
theorem fO {l:List Node} {n x:Node} (h:x∈aT l n):x=n\/x∈l:=by
 unfold aT at h;split at h
 ·rcases Wt h with h | h
  ·exact .inr h
  ·exact .inl h
 ·rcases List.mem_append.1 h with h | h
  ·exact .inr (WI h)
  ·rcases List.mem_cons.1 h with h | h
   ·exact .inl h
   ·exact .inr (WX h)
structure Good (l:List Node):Prop where
 up:Up l
 cM:∃r,jV r l
 len:l.length≤24
 data:∀n,n∈l->n.data.length≤20
 ent:∀n,n∈l->n.entries.length≤6
theorem Good.ends {l:List Node} (h:Good l) (t k:Int):∃f,bB l t f k=some (jJ l t k):=by
 obtain ⟨r,hr⟩:=h.cM;obtain ⟨b,hb⟩:=qV h.up hr t (r k+1) k z7;exact ⟨_,by rw[Ap hb];exact hb⟩
theorem iG {l:List Node} {k:Int} (h:gY l k=0):∃n,af l k=some n/\bd l k=n/\n.dir=true:=by
 unfold gY at h;unfold bd;cases e:af l k with
 | none=>rw[e] at h;cases h
 | some n=>
  rw[e] at h;simp only at h;cases hd:n.dir with
  | false=>rw[hd] at h;cases h
  | true=>exact ⟨n,rfl,rfl,hd⟩
theorem rJ {l:List Node} {n:Node} (h:bz l n.fid=true):(aT l n).length=l.length:=by
 unfold aT;rw[if_pos h,Wp]
theorem kN {l:List Node} {k:Int} {n:Node} (h:af l k=some n):bz l k=true:=by rw[bP,h];rfl
theorem rX (l:List Entry) (s:List UInt8) (f:Int):(aW l s f).length≤l.length+1:=by
 unfold aW;split
 ·simp
 ·have:=pL l s;simp;omega
theorem sw (l:List Entry) (s:List UInt8):(aX l s).length≤l.length:=WH _ _
theorem ta {n:Node} {s:List UInt8} (h:cZ n s=0):n.entries.length≤5:=by
 unfold cZ at h;split at h
 ·split at h
  ·cases h
  ·split at h
   ·cases h
   ·omega
 ·cases h
end La
namespace La
open Go Go.Eng Go.Proofs
theorem pQ {l:List Node} (h:Good l) (a:Act) (v:Int) (he:cC l a=0):Good (bE l a v):=by
 have hL:bE l a v=aT (aT l { bb (bd l a.dir) a.name a.fid with version:=v }) (dT a v):=by unfold bE;rw[if_pos he]
 rw[hL];unfold cC at he;split at he
 ·rename_i hd;obtain ⟨n,hf,hg,_⟩:=iG hd;rw[hg] at he ⊢;obtain ⟨hn,hnk⟩:=(ZO h.up).1 hf;split at he
  ·rename_i hro;have h5:=ta hro;split at he
   ·cases he
   ·rename_i hnew;have hno:bz l a.fid=false:=by
     cases e:bz l a.fid with
     | false=>rfl
     | true=>rw[e] at hnew;exact absurd rfl hnew
    have hnoN:∀x,x∈l->x.fid≠a.fid:=(dd h.up).1 (by
     cases e:af l a.fid with
     | none=>rfl
     | some m=>rw[kN e] at hno;cases hno)
    split at he
    ·cases he
    ·rename_i h24;obtain ⟨r,hr⟩:=h.cM;have hfid:({ bb n a.name a.fid with version:=v }:Node).fid=n.fid:=rfl;have hu1:=aD h.up { bb n a.name a.fid with version:=v };refine ⟨(aD hu1.1 (dT a v)).1,⟨λx=>if x=a.fid then 0 else r x+1,λx hx e hx2=>?_⟩,?_,λx hx=>?_,λx hx=>?_⟩
     ·rcases fO hx with rfl | hx
      ·simp[dT] at hx2
      ·rcases fO hx with rfl | hx
       ·have hnf:n.fid≠a.fid:=hnoN n hn;have hx3:e∈aW n.entries a.name a.fid:=hx2
        show (if e.fid=a.fid then 0 else r e.fid+1)<(if n.fid=a.fid then 0 else r n.fid+1)
        rw[if_neg hnf]
        rcases iV hx3 with rfl | hx3
        ·simp
        ·have:=hr n hn e hx3;split<;>omega
       ·have hnf:x.fid≠a.fid:=hnoN x hx;have:=hr x hx e hx2;simp only;rw[if_neg hnf];split<;>omega
     ·have h1:=qN (aT l { bb n a.name a.fid with version:=v }) (dT a v);have h2:(aT l { bb n a.name a.fid with version:=v }).length=l.length:=rJ (by rw[hfid,hnk];exact kN hf);omega
     ·rcases fO hx with rfl | hx
      ·simp[dT]
      ·rcases fO hx with rfl | hx
       ·exact h.data n hn
       ·exact h.data x hx
     ·rcases fO hx with rfl | hx
      ·simp[dT]
      ·rcases fO hx with rfl | hx
       ·have:=rX n.entries a.name a.fid
        show (aW n.entries a.name a.fid).length≤6
        omega
       ·exact h.ent x hx
  ·rename_i hro;exact absurd he hro
 ·rename_i hd;exact absurd he hd
theorem sh {l:List Node} (h:Good l) (a:Act) (v:Int) (he:cr l a=0):Good (bM l a v):=by
 have hL:bM l a v=aT l { bd l a.fid with data:=a.data,version:=v }:=by unfold bM;rw[if_pos he]
 rw[hL];unfold cr at he;cases hf:af l a.fid with
 | none=>rw[hf] at he;cases he
 | some n=>
  rw[hf] at he;simp only at he;obtain ⟨hn,hnk⟩:=(ZO h.up).1 hf;have hg:bd l a.fid=n:=by unfold bd;rw[hf];rfl
  rw[hg];split at he
  ·cases he
  ·split at he
   ·cases he
   ·rename_i h20;obtain ⟨r,hr⟩:=h.cM;refine ⟨(aD h.up _).1,⟨r,λx hx e hx2=>?_⟩,?_,λx hx=>?_,λx hx=>?_⟩
    ·rcases fO hx with rfl | hx
     ·exact hr n hn e hx2
     ·exact hr x hx e hx2
    ·rw[rJ (by show bz l n.fid=true;rw[hnk];exact kN hf)];exact h.len
    ·rcases fO hx with rfl | hx
     ·show a.data.length≤20;omega
     ·exact h.data x hx
    ·rcases fO hx with rfl | hx
     ·exact h.ent n hn
     ·exact h.ent x hx
theorem mi {l:List Node} {a:Act} (h:df l a=0):∃n,af l a.dir=some n/\bd l a.dir=n:=by
 unfold df at h;split at h
 ·rename_i hd;obtain ⟨n,h1,h2,_⟩:=iG hd;exact ⟨n,h1,h2⟩
 ·rename_i hd;exact absurd h hd
theorem sg {l:List Node} (h:Good l) {n:Node} (hn:n∈l) (hf:af l n.fid=some n) (s:List UInt8) (v:Int) {r:Int->Nat} (hr:jV r l) :
  Good (aT l { aE n s with version:=v })/\jV r (aT l { aE n s with version:=v }):=by
 have hr2:jV r (aT l { aE n s with version:=v }):=λx hx e hx2=>by
  rcases fO hx with rfl | hx
  ·exact hr n hn e (ef hx2)
  ·exact hr x hx e hx2
 refine ⟨⟨(aD h.up _).1,⟨r,hr2⟩,?_,λx hx=>?_,λx hx=>?_⟩,hr2⟩
 ·rw[rJ (by show bz l n.fid=true;exact kN hf)];exact h.len
 ·rcases fO hx with rfl | hx
  ·exact h.data n hn
  ·exact h.data x hx
 ·rcases fO hx with rfl | hx
  ·have:=sw n.entries s;have:=h.ent n hn
   show (aX n.entries s).length≤6
   omega
  ·exact h.ent x hx
theorem qz {l:List Node} (h:Good l) (a:Act) (v:Int) (he:cv l a=0):Good (bX l a v):=by
 have hL:bX l a v=dN (aT l { aE (bd l a.dir) a.name with version:=v }) a.fid:=by unfold bX;rw[if_pos he]
 rw[hL];unfold cv at he;split at he
 ·rename_i hnm;obtain ⟨n,hf,hg⟩:=mi hnm;rw[hg];obtain ⟨hn,hnk⟩:=(ZO h.up).1 hf;obtain ⟨r,hr⟩:=h.cM;obtain ⟨h1,hr1⟩:=sg h hn (by rw[hnk];exact hf) a.name v hr;have hsub:∀x,x∈dN (aT l { aE n a.name with version:=v }) a.fid->x∈aT l { aE n a.name with version:=v }:=λx hx=>(WE.1 hx).1
  refine ⟨(iT h1.up a.fid).1,⟨r,λx hx e hx2=>hr1 x (hsub x hx) e hx2⟩,?_,λx hx=>h1.data x (hsub x hx),λx hx=>h1.ent x (hsub x hx)⟩;have:=WH (λn:Node=>!(n.fid==a.fid)) (aT l { aE n a.name with version:=v });have:=h1.len;unfold dN;omega
 ·rename_i hnm;exact absurd he hnm
open Classical in
theorem qC {l:List Node} (h:Good l) (a:Act) (v:Int) (he:dB l a=0):Good (dn l a v):=by
 have hL:dn l a v=aT (if a.to=a.dir then l else aT l { aE (bd l a.dir) a.name with version:=v }) { bb (toN l a) a.toName a.fid with version:=v }:=by unfold dn;rw[if_pos he]
 rw[hL];unfold dB at he;split at he
 ·rename_i hnm;obtain ⟨n,hf,hg⟩:=mi hnm;obtain ⟨hn,hnk⟩:=(ZO h.up).1 hf;split at he
  ·rename_i hdt;obtain ⟨t,htf,htg,_⟩:=iG hdt;obtain ⟨htm,htk⟩:=(ZO h.up).1 htf;split at he
   ·rename_i hro;have h5:=ta hro;split at he
    ·split at he
     ·cases he
     ·rename_i hwb;obtain ⟨f,hw⟩:=h.ends a.to a.fid;obtain ⟨r,hr⟩:=h.cM;have hnr:¬Reach l a.fid a.to:=λhR=>by
       have:=pv h.up hr hR f _ hw;exact hwb this
      -- the node that gets the entry: that directory, some entries less
      have hTf:(toN l a).fid=a.to:=by
       unfold toN;split
       ·rename_i htd;show (bd l a.dir).fid=a.to;rw[hg,hnk,htd]
       ·rw[htg,htk]
      have hTe:∀e,e∈(toN l a).entries->e∈t.entries:=λe hx=>by
       unfold toN at hx;split at hx
       ·rename_i htd;have h1:=ef hx;rw[hg] at h1;rw[htd,hf] at htf;injection htf with htf
        rwa [←htf]
       ·rwa [htg] at hx
      have hTd:(toN l a).data.length≤20:=by
       unfold toN;split
       ·show (bd l a.dir).data.length≤20;rw[hg];exact h.data n hn
       ·rw[htg];exact h.data t htm
      have key:∀l1:List Node,Up l1->(∀x,x∈l1->x.data.length≤20/\x.entries.length≤6)->l1.length≤24->bz l1 a.to=true ->
        (∀x,x∈l1->∃y,y∈l/\y.fid=x.fid/\∀e,e∈x.entries->e∈y.entries)->Good (aT l1 { bb (toN l a) a.toName a.fid with version:=v }):=λl1 hu1 hs1 hl1 ha1 hsub=>by
       let q:Int->Nat:=λx=>if Reach l a.fid x then r x else r x+(r a.fid+1)
       have hq:∀y,y∈l->∀e,e∈y.entries->q e.fid<q y.fid:=λy hy e hx=>by
        have h1:=hr y hy e hx
        show (if Reach l a.fid e.fid then r e.fid else r e.fid+(r a.fid+1))<(if Reach l a.fid y.fid then r y.fid else r y.fid+(r a.fid+1))
        by_cases hR:Reach l a.fid y.fid
        ·rw[if_pos hR,if_pos (hR.tail hy hx)];exact h1
        ·rw[if_neg hR];split<;>omega
       refine ⟨(aD hu1 _).1,⟨q,λx hx e hx2=>?_⟩,?_,λx hx=>?_,λx hx=>?_⟩
       ·rcases fO hx with rfl | hx
        ·have hx3:e∈aW (toN l a).entries a.toName a.fid:=hx2
         show q e.fid<q (toN l a).fid
         rw[hTf]
         rcases iV hx3 with rfl | hx3
         ·show (if Reach l a.fid a.fid then r a.fid else r a.fid+(r a.fid+1))<(if Reach l a.fid a.to then r a.to else r a.to+(r a.fid+1))
          rw[if_pos (.refl _),if_neg hnr];omega
         ·have:=hq t htm e (hTe e hx3)
          rwa [htk] at this
        ·obtain ⟨y,hy,hyf,hye⟩:=hsub x hx;have:=hq y hy e (hye e hx2)
         rwa [hyf] at this
       ·rw[rJ (by show bz l1 (toN l a).fid=true;rw[hTf];exact ha1)];exact hl1
       ·rcases fO hx with rfl | hx
        ·exact hTd
        ·exact (hs1 x hx).1
       ·rcases fO hx with rfl | hx
        ·have:=rX (toN l a).entries a.toName a.fid
         show (aW (toN l a).entries a.toName a.fid).length≤6
         omega
        ·exact (hs1 x hx).2
      split
      ·exact key l h.up (λx hx=>⟨h.data x hx,h.ent x hx⟩) h.len (kN htf) (λx hx=>⟨x,hx,rfl,λ_ h=>h⟩)
      ·rename_i htd;rw[hg];obtain ⟨h1,_⟩:=sg h hn (by rw[hnk];exact hf) a.name v hr;refine key _ h1.up (λx hx=>⟨h1.data x hx,h1.ent x hx⟩) h1.len ?_ (λx hx=>?_)
       ·have:af (aT l { aE n a.name with version:=v }) a.to=some t:=by
         rw[bU h.up,if_neg (λe=>htd (e.trans (show n.fid=a.dir from hnk)))];exact htf
        exact kN this
       ·rcases fO hx with rfl | hx
        ·exact ⟨n,hn,rfl,λe hx2=>ef hx2⟩
        ·exact ⟨x,hx,rfl,λ_ h=>h⟩
    ·cases he
   ·rename_i hro;exact absurd he hro
  ·rename_i hdt;exact absurd he hdt
 ·rename_i hnm;exact absurd he hnm
theorem iZ {l:List Node} (h:Good l) (a:Act) (v:Int) (he:aB l a=0):Good (aH l a v):=by
 unfold aB at he;unfold aH;split at he
 ·rename_i h1;rw[if_pos h1];exact pQ h a v he
 ·rename_i h1;rw[if_neg h1];split at he
  ·rename_i h2;rw[if_pos h2];exact pQ h a v he
  ·rename_i h2;rw[if_neg h2];split at he
   ·rename_i h3;rw[if_pos h3];exact sh h a v he
   ·rename_i h3;rw[if_neg h3];split at he
    ·rename_i h4;rw[if_pos h4];exact qz h a v he
    ·rename_i h4;rw[if_neg h4];split at he
     ·rename_i h5;rw[if_pos h5];exact qC h a v he
     ·cases he
theorem uo:Good [⟨0,true,[],[],0⟩]:=⟨by unfold Up;simp,⟨λ_=>0,λn hn e he=>by rw[List.mem_singleton.1 hn] at he;simp at he⟩,by simp,λn hn=>by rw[List.mem_singleton.1 hn];simp,λn hn=>by rw[List.mem_singleton.1 hn];simp⟩
theorem Good.small {l:List Node} (h:Good l):Small l:=⟨by have:=h.len;omega,λn hn=>⟨by have:=h.data n hn;omega,by have:=h.ent n hn;omega⟩⟩
theorem Good.fit {l:List Node} (h:Good l) {a:Act} (h1:a.name.length≤100000000) (h2:a.toName.length≤100000000) (h3:a.data.length≤100000000):FitA l a:=
 ⟨h.small,by have:=h.len;omega,λn hn=>by have:=h.ent n hn;omega,h1,h2,h3⟩
structure ActFit (a:Act):Prop where
 name:a.name.length≤100000000
 toName:a.toName.length≤100000000
 data:a.data.length≤100000000
theorem nD {l:List Node} (h:Good l) (a:Act) (v:Int) (ha:ActFit a):ag Tryz.prog 109 [.sl (l.map ZN),.agg (ZA a),.int .i64 v] [] (λr _=>r=pz l a v):=by
 obtain ⟨f,hf⟩:=h.ends a.to a.fid;exact C_ l a v (h.fit ha.name ha.toName ha.data) (λ_=>Cb l a v (h.fit ha.name ha.toName ha.data) f hf)
theorem vt (a b:List Node) (ha:Small a) (hb:Small b):ag Tryz.prog 121 [.sl (a.map ZN),.sl (b.map ZN),.fn 122 []] [] (λr _=>r=.bool (ie false a b)):=by
 have hla:=ha.len;have hlb:=hb.len;refine ZF tK (Tryz.func121) rfl (λC=>?_);simp only[Tryz.ntmps121,Tryz.results121,go_sem];refine wG tK ?_;refine wD (λh=>?_) (λh=>?_)
 ·have hne:ie false a b=false:=by
   cases e:ie false a b with
   | false=>rfl
   | true=>have:=((nf false a b).1 e).1;simp[this] at h
  refine wG tK ?_;refine wT ?_;simp[hne]
 have hl:a.length=b.length:=by simp at h;omega
 refine wG tK ?_;refine ZL (λi:Nat=>i≤a.length/\∀j,j<i->eS false (a.getD j default) (b.getD j default)=true) (λi=>a.length-i) (λi=>(7,.any)::(8,.any)::(9,.any)::(17,.int .i64 i)::u3 18 14 []) (λ_=>[]) 0 ⟨by omega,by omega⟩ ?_ λi hi=>?_
 ·simp only[go_sem];exact ZU w4 w4 w4
 obtain ⟨hi,hs⟩:=hi;simp only[go_sem];refine wG tK ?_;refine wD (λh=>?_) (λh=>?_)
 ·have hlt:i<a.length:=by simp at h;omega
  have hltb:i<b.length:=by omega
  have hga:(a.map ZN).getD i []=ZN (a.getD i default):=Fam.getD hlt;have hgb:(b.map ZN).getD i []=ZN (b.getD i default):=Fam.getD hltb;have hsm:=Ck _ _ (ha.each _ (YG hlt)) (hb.each _ (YG hltb));have hno:eS false (a.getD i default) (b.getD i default)=false->ie false a b=false:=λh0=>by
   cases e:ie false a b with
   | false=>rfl
   | true=>rw[((nf false a b).1 e).2 i hlt] at h0;cases h0
  have hyes:eS false (a.getD i default) (b.getD i default)=true->∀j,j<i+1->eS false (a.getD j default) (b.getD j default)=true:=λh0 j hj=>by
   rcases Nat.lt_succ_iff_lt_or_eq.1 hj with h1 | rfl
   ·exact hs j h1
   ·exact h0
  clear hs;generalize a.getD i default=x at hga hsm hno hyes;generalize b.getD i default=y at hgb hsm hno hyes;refine wGq tK ?_ ?_ (by simp only[go_sem,hga,hgb,ZN];try exact rfl)
  ·simp[hga,hgb,ZN,hlt,hltb]
  refine wC Tryz.func122 (hf:=(hsm)) (hk:=?_);refine wG tK ?_;refine wD (λh=>?_) (λh=>?_)
  ·have h0:eS false x y=false:=by simpa using h
   have:=hno h0;refine wG tK ?_;refine wT ?_;simp[this]
  ·have h0:eS false x y=true:=by simpa using h
   have hw:=wi1 (i:=i) z7;refine wG tK ?_ k0 k9;refine ZB ⟨i+1,⟨by omega,hyes h0⟩,by omega,ZU ?_ ?_ ?_⟩
   ·simp[go_sem]
   ·simp[go_sem]
   ·simp[go_sem]
 ·have e:i=a.length:=by simp at h;omega
  subst e;have hab:ie false a b=true:=(nf false a b).2 ⟨hl,hs⟩;refine wG tK ?_;refine wT ?_;simp[hab]
theorem qR (a b:List Node) (ha:Small a) (hb:Small b):ag Tryz.prog 84 [.sl (a.map ZN),.sl (b.map ZN)] [] (λr _=>r=.bool (ie false a b)):=by
 refine ZF tK (Tryz.func84) rfl (λC=>?_);simp only[Tryz.ntmps84,Tryz.results84,go_sem];refine wG tK ?_;refine wC Tryz.func121 (hf:=(vt a b ha hb)) (hk:=?_);refine wG tK ?_;refine wT ?_;rfl
def aA:Node:=⟨0,true,[],[],0⟩
theorem jQ (l:List Rec) (hlen:l.length≤100000000) {f:FuncId} {caps:List AV} {p:Rec->Bool} (hcal:aP Tryz.prog f) (hpure:(caps.all AV.bw)=true)
  (hf:∀x,x∈l->ag Tryz.prog f (.agg (ZR x)::caps) [] (λr _=>r=.bool (p x))) :
  ag Tryz.prog 186 [.sl (l.map ZR),.fn f caps] [] (λr _=>r=.int .i64 (dp (l.findIdx? p))):=by
 have hcaps:=cu hpure;refine ZF tK (Tryz.func186) rfl (λC=>?_);simp only[Tryz.ntmps186,Tryz.results186,go_sem];refine wG tK ?_;refine ZL (λi:Nat=>i≤l.length/\∀x,x∈l.take i->p x=false) (λi=>l.length-i) (λi=>(8,.int .i64 i)::(5,.any)::u3 9 10 []) (λ_=>[]) 0 ⟨by omega,by simp⟩ ?_ λi hi=>?_
 ·simp only[go_sem];exact ZU w4 w4 j8
 obtain ⟨hi,hno⟩:=hi;simp only[go_sem];refine wG tK ?_;refine wD (λh=>?_) (λh=>?_)
 ·have hlt:i<l.length:=by simp at h;omega
  have hn:=hf _ (YG hlt);have hg:(l.map ZR).getD i []=ZR (l.getD i default):=Fam.getD hlt;have htk:=ZT hlt;have hgi:l[i]? = some (l.getD i default):=by rw[Z1,Z2 hlt];rfl
  generalize l.getD i default=n at hn hg htk hgi;refine wGq tK ?_ ?_ QW
  ·simp[hlt,ZR]
  refine eb rfl rfl z8 w4 hcal j8 (hn) w4 z6 ?_;refine wG tK ?_;refine wD (λh=>?_) (λh=>?_)
  ·refine wG tK ?_;refine wT ?_;rw[eK hgi hno h];rfl
  ·have hw:IntKind.i64.wrap ((i:Int)+1)=(i:Int)+1:=wrap_small z7 z7;refine wG tK ?_ k0 k9;refine ZB ⟨i+1,⟨by omega,?_⟩,by omega,ZU ?_ ?_ ?_⟩
   ·rw[htk];intro x hx
    rcases List.mem_append.1 hx with hx | hx
    ·exact hno x hx
    ·rw[List.mem_singleton.1 hx];exact h
   ·simp[go_sem]
   ·simp[go_sem]
   ·simp[go_sem,hcaps]
 ·have e:i=l.length:=by simp at h;omega
  refine wG tK ?_;refine wT ?_;rw[e,WA] at hno;rw[WL.2 hno];rfl
theorem qb (l:List Rec) (hlen:l.length≤100000000) {f:FuncId} {caps:List AV} {p:Rec->Bool} (hcal:aP Tryz.prog f) (hpure:(caps.all AV.bw)=true)
  (hf:∀x,x∈l->ag Tryz.prog f (.agg (ZR x)::caps) [] (λr _=>r=.bool (p x))) :
  ag Tryz.prog 183 [.sl (l.map ZR),.fn f caps] [] (λr _=>r=.bool (l.any p)):=by
 have hcaps:=cu hpure;refine ZF tK (Tryz.func183) rfl (λC=>?_);simp only[Tryz.ntmps183,Tryz.results183,go_sem];refine wG tK ?_;refine eb rfl rfl z8 w4 ⟨_,Tryz.func186,by kernel_rfl,rfl⟩ j8 (jQ l hlen hcal hpure hf) w4 z6 ?_;refine wG tK ?_;refine wT ?_;rw[l_]
theorem mo (l:List Rec) (hlen:l.length≤100000000) (id:Nat) {f:FuncId} {caps:List AV} {p:Rec->Bool} (hcal:aP Tryz.prog f) (hpure:(caps.all AV.bw)=true) (hid:id≠7)
  (hf:∀x,x∈l->ag Tryz.prog f (.agg (ZR x)::caps) [] (λr _=>r=.bool (p x))) :
  ag Tryz.prog 153 [.osl id 9 0 l.length,.fn f caps] [(id,.cells 51 9 (l.map ZR))] (λr H=>r=.osl id 9 0 (l.filter λx=>!p x).length /\
   ∀i b,ae [(id,.cells 51 9 ((l.filter λx=>!p x).map ZR++List.replicate (l.length-(l.filter λx=>!p x).length) [.int .i64 0,.int .i64 0,.int .i64 0,.str [],.int .i64 0,.str [],.nils,.int .i64 0,.int .i64 0]))] i=some b->ae H i=some b):=by
 have hcaps:=cu hpure;obtain ⟨q,hv,hq⟩:=fB hpure;refine ZF tK (Tryz.func153) rfl (λC=>?_);simp only[Tryz.ntmps153,Tryz.results153,go_sem];refine wG tK ?_;refine mM rfl rfl z8 w4 QN Qv ⟨_,Tryz.func186,by kernel_rfl,rfl⟩ (jQ l hlen hcal hpure hf) w4 z6 ?_;refine wG tK ?_;refine wD (λh=>?_) (λh=>?_)
 ·refine wG tK ?_;refine wT ?_;have hn:l.findIdx? p=none:=by
   cases e:l.findIdx? p with
   | none=>rfl
   | some k=>rw[e] at h;simp[dp] at h
  have hfl:l.filter (λx=>!p x)=l:=WU.2 λx hx=>by
   simp[WL.1 hn x hx]
  rw[hfl];simp[ae]
 obtain ⟨k,hk⟩:∃k,l.findIdx? p=some k:=by
  cases e:l.findIdx? p with
  | none=>rw[e] at h;simp[dp] at h
  | some k=>exact ⟨k,rfl⟩
 have hkl:k<l.length:=(WK.1 hk).1;have hsp:=eX hk;rw[hk];have hw:IntKind.i64.wrap ((k:Int)+1)=((k+1:Nat):Int):=by rw[Eng.wrap_small z7 z7];rfl
 simp only[dp];refine wG tK ?_ k0 k9;refine ZL (λs:Nat×List Rec=>DelInv p l s.1 s.2) (λs=>l.length-s.1) (λs=>(5,.int .i64 (((l.take s.1).filter λx=>!p x).length:Nat))::(6,.int .i64 (s.1:Nat))::(7,.any)::u3 16 20 []) (λs=>[(id,.cells 51 9 (s.2.map ZR))]) (k+1,l) (DelInv.start hk) ?_ λs hs=>?_
 ·have el:((l.take (k+1)).filter λx=>!p x).length=k:=by rw[hsp];simp;omega
  simp only[go_sem,el];exact ZU w4 w4 j8
 obtain ⟨j,L⟩:=s;have hjl:=hs.le;have hL:=hs.len;have hlt:=hs.lt;simp only at hs hjl hL hlt;simp only[go_sem];refine wG tK ?_;refine wD (λh=>?_) (λh=>?_)
 ·have hj:j<l.length:=by simp at h;omega
  have hn:=hf _ (YG hj);have hg:(L.map ZR).getD j []=ZR (l.getD j default):=by rw[Fam.getD z7,hs.get hj]
  have hkeep:=hs.ra hj;have hskip:=hs.skip hj;have htk:=ZT hj;generalize l.getD j default=n at hn hg hkeep hskip htk;refine wGq tK ?_ ?_ (by simp only[go_sem,hg,ZR,hid,Ne.symm hid];try exact rfl)
  ·simp[ZR];omega
  refine eb rfl rfl z8 w4 hcal j8 (hn) w4 z6 ?_;generalize hm:((l.take j).filter λx=>!p x).length=m at hkeep hlt;have hw1:IntKind.i64.wrap ((j:Int)+1)=((j+1:Nat):Int):=by rw[Eng.wrap_small z7 z7];rfl
  have hw2:IntKind.i64.wrap ((m:Int)+1)=((m+1:Nat):Int):=by rw[Eng.wrap_small z7 z7];rfl
  refine wG tK ?_ QL Zd;refine wD (λh=>?_) (λh=>?_)
  ·have hp:p n=false:=by simpa using h
   obtain ⟨hk1,hk2⟩:=hkeep hp;have bD:=pj ZR L m n;simp only[ZR] at bD;have hgl:(L.map ZR).getD m []=ZR (L.getD m default):=Fam.getD z7;simp only[ZR] at hgl;refine wGq tK ?_ ?_ u4
   ·simp[hid,Ne.symm hid];omega
   refine ZB ⟨(j+1,L.set m n),hk1,by simp only;omega,ZU ?_ ?_ ?_⟩
   ·simp[go_sem,hk2]
   ·simp[go_sem,hid,Ne.symm hid,bD]
   ·simp[go_sem,hcaps,-List.map_set]
  ·have hp:p n=true:=by simpa using h
   refine wG tK ?_ p4 QQ;have hsame:((l.take (j+1)).filter λx=>!p x).length=m:=by
    rw[←hm,htk,List.filter_append];simp only[List.filter_cons,hp,Bool.not_true,Bool.false_eq_true,if_false,List.filter_nil,List.append_nil]
   refine ZB ⟨(j+1,L),hskip hp,by simp only;omega,ZU ?_ ?_ ?_⟩
   ·simp[go_sem,hsame,hm]
   ·simp[go_sem,hid,Ne.symm hid]
   ·simp[go_sem,hcaps]
 have e:j=l.length:=by simp at h;omega
 subst e;have hfin:=hs.fin;rw[WA];generalize hd:(l.filter λx=>!p x)=d at *;have hdl:d.length≤l.length:=by rw[←hd];exact WH _ _
 have hcl:=iP ZR (d:=d) (L:=L) [.int .i64 0,.int .i64 0,.int .i64 0,.str [],.int .i64 0,.str [],.nils,.int .i64 0,.int .i64 0] hfin z7;rw[hL] at hcl;refine wGq tK ?_ ?_ p5
 ·simp only[not_false_eq_true,true_and];omega
 refine wT ?_;simp[ae]
theorem vw (a:Act):ag Tryz.prog 126 [.agg (ZA a)] [] (λr _=>r=.sl ((cc a).map ZI)):=by
 unfold ZA;refine ZF tK (Tryz.func126) rfl (λC=>?_);simp only[Tryz.ntmps126,Tryz.results126,go_sem];refine wG tK ?_;refine wD (λh=>?_) (λh=>?_)
 ·refine wG tK ?_;refine ZZ 9 rfl (rfl) ?_;simp only[go_sem];refine wT ?_;simp[go_sem,cc,ZI,eq_of_beq h]
 ·refine wG tK ?_;have h1:a.kind≠3:=by simpa using h
  refine wD (λh=>?_) (λh=>?_)
  ·refine wG tK ?_;refine ZZ 18 rfl (rfl) ?_;simp only[go_sem];refine wT ?_;have h2:a.kind=5:=by simpa using h
   simp[go_sem,cc,ZI,h2]
  ·refine wG tK ?_;refine ZZ 23 rfl (rfl) ?_;simp only[go_sem];refine wT ?_;have h2:a.kind≠5:=by simpa using h
   simp[go_sem,cc,ZI,h1,h2]
theorem rZ (a:Act):(cc a).length≤3:=by
 unfold cc;split
 ·simp
 ·split<;>simp
theorem DV (l:List Int) (hlen:l.length≤100000000) (v:Int):ag Tryz.prog 217 [.sl (l.map ZI),.int .i64 v] [] (λr _=>r=.int .i64 (dp (l.findIdx? (v==·)))):=by
 refine ZF tK (Tryz.func217) rfl (λC=>?_);simp only[Tryz.ntmps217,Tryz.results217,go_sem];refine wG tK ?_;refine ZL (λi:Nat=>i≤l.length/\∀x,x∈l.take i->(v==x)=false) (λi=>l.length-i) (λi=>(8,.int .i64 i)::(5,.any)::u3 9 10 []) (λ_=>[]) 0 ⟨by omega,by simp⟩ ?_ λi hi=>?_
 ·simp only[go_sem];exact ZU w4 w4 p8
 obtain ⟨hi,hno⟩:=hi;simp only[go_sem];refine wG tK ?_;refine wD (λh=>?_) (λh=>?_)
 ·have hlt:i<l.length:=by simp at h;omega
  have hg:(l.map ZI).getD i []=ZI (l.getD i default):=Fam.getD hlt;have htk:=ZT hlt;have hgi:l[i]? = some (l.getD i default):=by rw[Z1,Z2 hlt];rfl
  generalize l.getD i default=n at hg htk hgi;refine wGq tK ?_ ?_ (by simp only[go_sem,hg,ZI];try exact rfl)
  ·simp[hlt]
  refine wD (λh=>?_) (λh=>?_)
  ·refine wG tK ?_;refine wT ?_;rw[eK hgi hno h];rfl
  ·have hw:IntKind.i64.wrap ((i:Int)+1)=(i:Int)+1:=wrap_small z7 z7;refine wG tK ?_ k0 k9;refine ZB ⟨i+1,⟨by omega,?_⟩,by omega,ZU ?_ ?_ ?_⟩
   ·rw[htk];intro x hx
    rcases List.mem_append.1 hx with hx | hx
    ·exact hno x hx
    ·rw[List.mem_singleton.1 hx];exact h
   ·simp[go_sem]
   ·simp[go_sem]
   ·simp only[go_sem]
 ·have e:i=l.length:=by simp at h;omega
  refine wG tK ?_;refine wT ?_;rw[e,WA] at hno;rw[WL.2 hno];rfl
theorem wI (l:List Int) (hlen:l.length≤100000000) (v:Int):ag Tryz.prog 187 [.sl (l.map ZI),.int .i64 v] [] (λr _=>r=.bool (l.contains v)):=by
 refine ZF tK (Tryz.func187) rfl (λC=>?_);simp only[Tryz.ntmps187,Tryz.results187,go_sem];refine wG tK ?_;refine wC Tryz.func217 (hf:=(DV l hlen v)) (hk:=?_);refine wG tK ?_;refine wT ?_;rw[l_,List.contains_eq_any_beq]
theorem xW (r:Rec) (f:Int):ag Tryz.prog 155 [.rp (ZR r) 0,.int .i64 f] [] (λx _=>x=.bool (r.names f)):=by
 unfold ZR;refine ZF tK (Tryz.func155) rfl (λC=>?_);simp only[Tryz.ntmps155,Tryz.results155,go_sem];refine wG tK ?_;refine wC Tryz.func126 (hf:=(vw r.act)) (hk:=?_);refine wG tK ?_;refine wC Tryz.func187 (hf:=(wI (cc r.act) (by have:=rZ r.act;omega) f)) (hk:=?_);refine wG tK ?_;refine wT ?_;rfl
theorem fT (a b:Bool):(bif a then b else false)=(a&&b):=by cases a<;>rfl
theorem oo (a b:Bool):(bif a then true else b)=(a||b):=by cases a<;>rfl
theorem Ah (r:Rec) (d:Int) (n:List UInt8):ag Tryz.prog 185 [.rp (ZR r) 0,.int .i64 d,.str n] [] (λx _=>x=.bool (gr r.act d n)):=by
 unfold ZR;refine ZF tK (Tryz.func185) rfl (λC=>?_);simp only[Tryz.ntmps185,Tryz.results185,go_sem];refine wG tK ?_;refine wD (λh=>?_) (λh=>?_)
 ·refine wG tK ?_;refine wDT (hb:=(h)) (hk:=?_);refine wR ?_;refine wN tK 6 ?_;refine bx 24 z6 (λc24 h24=>?_);simp only[go_sem];refine wN tK 8 ?_;refine bx 32 z6 (λc32 h32=>?_);simp only[go_sem];refine wG tK ?_;refine wT ?_;subst h32 h24;have hk:=eq_of_beq h;simp[gr,hk,fT]
 ·refine wG tK ?_;refine wD (λh=>?_) (λh=>?_)
  ·refine wG tK ?_;refine wDT (hb:=(h)) (hk:=?_);refine wR ?_;refine wN tK 6 ?_;refine bx 24 z6 (λc24 h24=>?_);simp only[go_sem];refine wN tK 8 ?_;refine bx 32 z6 (λc32 h32=>?_);simp only[go_sem];refine wG tK ?_;refine wT ?_;subst h32 h24;have hk:=eq_of_beq h;simp[gr,hk,fT]
  ·refine wG tK ?_;refine wD (λh=>?_) (λh=>?_)
   ·refine wR ?_;refine wN tK 6 ?_;refine bx 24 z6 (λc24 h24=>?_);simp only[go_sem];refine wN tK 8 ?_;refine bx 32 z6 (λc32 h32=>?_);simp only[go_sem];refine wG tK ?_;refine wT ?_;subst h32 h24;have hk:=eq_of_beq h;simp[gr,hk,fT]
   ·refine wG tK ?_;refine wD (λh=>?_) (λh=>?_)
    ·have hk:=eq_of_beq h;refine wR ?_;refine wN tK 6 ?_;refine bx 40 z6 (λc40 h40=>?_);simp only[go_sem];refine wN tK 8 ?_;refine bx 48 z6 (λc48 h48=>?_);simp only[go_sem];cases c48
     ·cases e3:(r.act.to==d)<;>cases e4:(r.act.toName==n)
      all_goals refine wG tK ?_ (by simp only[go_sem,e3,e4];try exact rfl) (by simp[go_sem,e3,e4])
      all_goals refine wT ?_
      all_goals rw[←h40,fT] at h48
      all_goals simp[gr,hk,h48,e3,e4]
     ·refine wG tK ?_;refine wT ?_;rw[←h40,fT] at h48;simp[gr,hk,h48]
    ·refine wG tK ?_;refine wT ?_
     simp_all [gr]
structure Srv where
 tree:List Node
 next:Int
 past:List Past
def ZQ (s:Srv):List AV:=[.sl (s.tree.map ZN),.int .i64 s.next,.sl (s.past.map ZP)]
@[go_sem,simp] theorem Hc (s:Srv):aL (ZQ s)=[]:=rfl
theorem tw (s:Srv) (h:s.past.length≤100000000):ag Tryz.prog 86 [.agg (ZQ s)] [] (λr _=>r=.int .i64 ((s.past.length+1:Nat):Int)):=by
 have hw:IntKind.i64.wrap ((s.past.length:Int)+1)=((s.past.length+1:Nat):Int):=by rw[Eng.wrap_small z7 z7];rfl
 unfold ZQ;refine ZF tK (Tryz.func86) rfl (λC=>?_);simp only[Tryz.ntmps86,Tryz.results86,go_sem];refine wG tK ?_ k0 k9;refine wT ?_;rfl
theorem EM:ag Tryz.prog 33 [] [] (λr _=>r=.agg [.sl [[.int .i64 0,.bool true,.nils,.nils,.int .i64 0]],.int .i64 1,.nils]):=by
 refine ZF tK (Tryz.func33) rfl (λC=>?_);simp only[Tryz.ntmps33,Tryz.results33,go_sem];refine wG tK ?_;refine wC Tryz.func52 (hf:=(Jg)) (hk:=?_);refine wG tK ?_;refine wT ?_;rfl
theorem Ha:ag Tryz.prog 33 [] [] (λr _=>r=.agg (ZQ ⟨[aA],1,[]⟩)):=ag.kV EM rfl
structure SmallP (l:List Past):Prop where
 len:l.length≤90000000
 each:∀p,p∈l->p.act.data.length≤100000000
theorem rN (s:Srv) (ht:Small s.tree) (hp:SmallP s.past):ag Tryz.prog 40 [.agg (ZQ s)] [] (λr _=>r=.agg (ZQ s)):=by
 have hlen:=hp.len;unfold ZQ;refine ZF tK (Tryz.func40) rfl (λC=>?_);simp only[Tryz.ntmps40,Tryz.results40,go_sem];refine wG tK ?_;refine ZZ 1 rfl (rfl) ?_;simp only[go_sem];refine ZW ZM ?_;refine ZS rfl ?_;refine sN tK 2 ?_;refine sC Tryz.func66 (hf:=(k_ s.tree ht)) (hk:=?_);refine sN tK 2 ?_;refine sB tK ?_;refine sW tK ?_;refine sE ?_;refine dS tK ?_;refine wKd ?_
 try simp only[go_sem,gA,gB,gC]
 refine wG tK ?_;refine bf (A2 28 8 3 z8 z8) ?_;refine bf (le_empty 28 79 8 z8) ?_;simp only[go_sem];refine ZL (λi:Nat=>i≤s.past.length) (λi=>s.past.length-i) (λi=>(5,.any)::(15,.int .i64 i)::u3 16 15 [])
  (λi=>[(3,.cells 32 3 [[.sl (s.tree.map ZN),.int .i64 s.next,.osl 28 8 0 i]]),(28,.cells 79 8 ((s.past.take i).map ZP))]) 0 z7 ?_ λi hi=>?_
 ·simp only[go_sem];exact ZU w4 w4 p8
 simp only[go_sem];refine wG tK ?_;refine wD (λh=>?_) (λh=>?_)
 ·have hlt:i<s.past.length:=by simp at h;omega
  have hw:=wi1 (i:=i) z7;have hg:(s.past.map ZP).getD i []=ZP (s.past.getD i default):=Fam.getD hlt;have hs:=dE ZP hlt;have ha:=hp.each _ (YG hlt);generalize s.past.getD i default=x at *;refine wGq tK ?_ ?_ (by simp only[go_sem,hg,ZP];try exact rfl)
  ·simp[hg,ZP,hlt]
  refine ZZ 5 rfl (rfl) ?_;simp only[go_sem];refine ZW ZM ?_;refine ZS rfl ?_;refine sN tK 6 ?_;refine sC Tryz.func67 (hf:=(lI x.act ha)) (hk:=?_);simp only[go_sem,ZA];refine sB tK ?_;refine sW tK ?_;refine sE ?_;refine jr (dR 28 3 z6 j9) ?_;simp only[go_sem];refine dSq tK ?_ ?_
  ·simp[go_sem,rowsOf];refine ⟨by omega,by omega,λx hx y hy hr=>?_⟩;have h1:=WI (WI hx);have:=List.all_eq_true.1 (List.all_eq_true.1 (gW 28 s.past) x h1) y hy;simp only[Wm,List.contains_eq_mem,decide_eq_false_iff_not] at this;exact this hr
  simp only[go_sem];refine dS tK ?_;refine dS tK ?_;refine wKd ?_
  try simp only[go_sem,gA,gB,gC]
  refine wG tK ?_ k0 k9;refine ZB ⟨i+1,by omega,by omega,ZU ?_ ?_ ?_⟩
  ·simp[go_sem]
  ·simp[go_sem,hs,ZP,List.take_take]
  ·simp only[go_sem]
 ·have e:i=s.past.length:=by simp at h;omega
  subst e;refine wG tK ?_;refine ZZ 28 rfl (iD _) ?_;simp only[go_sem];refine wT ?_;simp
theorem yt (s:Srv) (ht:Small s.tree) (hp:SmallP s.past):ag Tryz.prog 40 [.agg (ZQ s)] [] (λr H=>r=.agg [.sl (s.tree.map ZN),.int .i64 s.next,.osl 28 8 0 s.past.length]/\∀i b,ae [(28,.cells 79 8 (s.past.map ZP))] i=some b->ae H i=some b):=by
 have hlen:=hp.len;unfold ZQ;refine ZF tK (Tryz.func40) rfl (λC=>?_);simp only[Tryz.ntmps40,Tryz.results40,go_sem];refine wG tK ?_;refine ZZ 1 rfl (rfl) ?_;simp only[go_sem];refine ZW ZM ?_;refine ZS rfl ?_;refine sN tK 2 ?_;refine sC Tryz.func66 (hf:=(k_ s.tree ht)) (hk:=?_);refine sN tK 2 ?_;refine sB tK ?_;refine sW tK ?_;refine sE ?_;refine dS tK ?_;refine wKd ?_
 try simp only[go_sem,gA,gB,gC]
 refine wG tK ?_;refine bf (A2 28 8 3 z8 z8) ?_;refine bf (le_empty 28 79 8 z8) ?_;simp only[go_sem];refine ZL (λi:Nat=>i≤s.past.length) (λi=>s.past.length-i) (λi=>(5,.any)::(15,.int .i64 i)::u3 16 15 [])
  (λi=>[(3,.cells 32 3 [[.sl (s.tree.map ZN),.int .i64 s.next,.osl 28 8 0 i]]),(28,.cells 79 8 ((s.past.take i).map ZP))]) 0 z7 ?_ λi hi=>?_
 ·simp only[go_sem];exact ZU w4 w4 p8
 simp only[go_sem];refine wG tK ?_;refine wD (λh=>?_) (λh=>?_)
 ·have hlt:i<s.past.length:=by simp at h;omega
  have hw:=wi1 (i:=i) z7;have hg:(s.past.map ZP).getD i []=ZP (s.past.getD i default):=Fam.getD hlt;have hs:=dE ZP hlt;have ha:=hp.each _ (YG hlt);generalize s.past.getD i default=x at *;refine wGq tK ?_ ?_ (by simp only[go_sem,hg,ZP];try exact rfl)
  ·simp[hg,ZP,hlt]
  refine ZZ 5 rfl (rfl) ?_;simp only[go_sem];refine ZW ZM ?_;refine ZS rfl ?_;refine sN tK 6 ?_;refine sC Tryz.func67 (hf:=(lI x.act ha)) (hk:=?_);simp only[go_sem,ZA];refine sB tK ?_;refine sW tK ?_;refine sE ?_;refine jr (dR 28 3 z6 j9) ?_;simp only[go_sem];refine dSq tK ?_ ?_
  ·simp[go_sem,rowsOf];refine ⟨by omega,by omega,λx hx y hy hr=>?_⟩;have h1:=WI (WI hx);have:=List.all_eq_true.1 (List.all_eq_true.1 (gW 28 s.past) x h1) y hy;simp only[Wm,List.contains_eq_mem,decide_eq_false_iff_not] at this;exact this hr
  simp only[go_sem];refine dS tK ?_;refine dS tK ?_;refine wKd ?_
  try simp only[go_sem,gA,gB,gC]
  refine wG tK ?_ k0 k9;refine ZB ⟨i+1,by omega,by omega,ZU ?_ ?_ ?_⟩
  ·simp[go_sem]
  ·simp[go_sem,hs,ZP,List.take_take]
  ·simp only[go_sem]
 ·have e:i=s.past.length:=by simp at h;omega
  subst e;refine wG tK ?_;refine wT ?_;simp[go_sem]
def an (a:Act):Bool:=a.kind==1||a.kind==2
def doA (s:Srv) (a:Act):Act:=if an a then { a with fid:=s.next } else a
noncomputable def doE (s:Srv) (a:Act):Int:=aB s.tree (doA s a)
noncomputable def doS (s:Srv) (c:Int) (a:Act):Srv:=⟨aH s.tree (doA s a) ((s.past.length+1:Nat):Int),if an a then s.next+1 else s.next,s.past++[⟨c,doA s a⟩]⟩
noncomputable def doR (s:Srv) (c:Int) (a:Act):AV:=if doE s a=0 then .tup [.agg (ZQ (doS s c a)),.int .i64 0] else .tup [.agg [.nils,.int .i64 0,.nils],.int .i64 (doE s a)]
theorem I2 (s:Srv) (c:Int) (a:Act) (hg:Good s.tree) (hp:SmallP s.past) (ha:ActFit a) (hn:s.next.natAbs≤90000000):ag Tryz.prog 107 [.agg (ZQ s),.int .i64 c,.agg (ZA a)] [] (λr _=>r=doR s c a):=by
 have hlen:=hp.len;have hw:IntKind.i64.wrap (s.next+1)=s.next+1:=Eng.wrap_small z7 z7;have hda:ActFit (doA s a):=by unfold doA;split;exact ⟨ha.name,ha.toName,ha.data⟩;exact ha
 have hv:=tw s z7;have hap:=nD hg (doA s a) ((s.past.length+1:Nat):Int) hda;have hso:=yt s hg.small hp;have how:=lI (doA s a) hda.data;unfold pz at hap;unfold doR doS doE;unfold ZQ at hv hso ⊢;refine ZF tK (Tryz.func107) rfl (λC=>?_);simp only[Tryz.ntmps107,Tryz.results107,go_sem];refine wGq tK ?_ ?_ Qt
 ·simp[ZA]
 refine ZZ 3 rfl (rfl) ?_;simp only[go_sem];refine wD (λh=>?_) (λh=>?_)
 ·have hm:an a=true:=by unfold an;revert h;cases (a.kind==1)<;>simp
  have hdo:doA s a={ a with fid:=s.next }:=by unfold doA;rw[if_pos hm]
  rw[hdo] at hap how ⊢;simp only[hm,if_true];generalize aB s.tree { a with fid:=s.next }=e at *;generalize aH s.tree { a with fid:=s.next } ((s.past.length+1:Nat):Int)=L at *;refine wG tK ?_
  by_cases he:e=0
  ·subst he;simp only[if_true] at hap ⊢;refine ZZ 5 rfl (rfl) ?_;simp only[go_sem];refine ZW ZM ?_;refine ZS rfl ?_;refine sN tK 4 ?_;refine sC Tryz.func86 (hf:=(hv)) (hk:=?_);refine sC Tryz.func109 (hf:=(hap)) (hk:=?_);refine sN tK 5 ?_;refine sE ?_;refine wKd ?_
   try simp only[go_sem,gA,gB,gC]
   refine wG tK ?_;refine wDF (hb:=y7) (hk:=?_);refine wG tK ?_;refine wCG [] 972 Tryz.func40 (hf:=(hso)) (hk:=?_);refine wG tK ?_;refine ZW ZM ?_;refine ZS rfl ?_;refine sN tK 4 ?_;refine sC Tryz.func67 (hf:=(how)) (hk:=?_);simp only[go_sem,ZA];refine sB tK ?_;refine sW tK ?_;refine sE ?_;refine jr (dR 1000 11 z6 j9) ?_;simp only[go_sem];refine dSq tK ?_ ?_
   ·simp[go_sem,rowsOf];refine ⟨by omega,λx hx y hy hr=>?_⟩;have:=List.all_eq_true.1 (List.all_eq_true.1 (gW 1000 s.past) (ZP x) (Z7.2 ⟨x,hx,rfl⟩)) y hy;simp only[Wm,List.contains_eq_mem,decide_eq_false_iff_not] at this;exact this hr
   simp only[go_sem];refine dS tK ?_;refine dS tK ?_;refine wKd ?_
   try simp only[go_sem,gA,gB,gC]
   refine wG tK ?_;refine wDT (hb:=(by simpa[an] using hm)) (hk:=?_);refine wG tK ?_ k0 k9;refine ZZ 48 rfl (by rw[List.all_append,iD];rfl) ?_;simp only[go_sem];refine wT ?_;rw[Z4 y7];rfl
  ·simp only[he,if_false] at hap ⊢;refine ZZ 5 rfl (rfl) ?_;simp only[go_sem];refine ZW ZM ?_;refine ZS rfl ?_;refine sN tK 4 ?_;refine sC Tryz.func86 (hf:=(hv)) (hk:=?_);refine sC Tryz.func109 (hf:=(hap)) (hk:=?_);refine sN tK 5 ?_;refine sE ?_;refine wKd ?_
   try simp only[go_sem,gA,gB,gC]
   refine wG tK ?_;refine wDT (hb:=Qb) (hk:=?_);refine wG tK ?_;refine wT ?_;rfl
 ·have hm:an a=false:=by unfold an;revert h;cases (a.kind==1)<;>simp
  have hdo:doA s a=a:=by unfold doA;rw[if_neg (by rw[hm];simp)]
  rw[hdo] at hap how ⊢;simp only[hm,Bool.false_eq_true,if_false];generalize aB s.tree a=e at *;generalize aH s.tree a ((s.past.length+1:Nat):Int)=L at *;refine wG tK ?_
  by_cases he:e=0
  ·subst he;simp only[if_true] at hap ⊢;refine ZZ 5 rfl (rfl) ?_;simp only[go_sem];refine ZW ZM ?_;refine ZS rfl ?_;refine sN tK 4 ?_;refine sC Tryz.func86 (hf:=(hv)) (hk:=?_);refine sC Tryz.func109 (hf:=(hap)) (hk:=?_);refine sN tK 5 ?_;refine sE ?_;refine wKd ?_
   try simp only[go_sem,gA,gB,gC]
   refine wG tK ?_;refine wDF (hb:=y7) (hk:=?_);refine wG tK ?_;refine wCG [] 972 Tryz.func40 (hf:=(hso)) (hk:=?_);refine wG tK ?_;refine ZW ZM ?_;refine ZS rfl ?_;refine sN tK 4 ?_;refine sC Tryz.func67 (hf:=(how)) (hk:=?_);simp only[go_sem,ZA];refine sB tK ?_;refine sW tK ?_;refine sE ?_;refine jr (dR 1000 11 z6 j9) ?_;simp only[go_sem];refine dSq tK ?_ ?_
   ·simp[go_sem,rowsOf];refine ⟨by omega,λx hx y hy hr=>?_⟩;have:=List.all_eq_true.1 (List.all_eq_true.1 (gW 1000 s.past) (ZP x) (Z7.2 ⟨x,hx,rfl⟩)) y hy;simp only[Wm,List.contains_eq_mem,decide_eq_false_iff_not] at this;exact this hr
   simp only[go_sem];refine dS tK ?_;refine dS tK ?_;refine wKd ?_
   try simp only[go_sem,gA,gB,gC]
   refine wG tK ?_;refine wDF (hb:=(by simpa[an] using hm)) (hk:=?_);refine wG tK ?_;refine ZZ 48 rfl (by rw[List.all_append,iD];rfl) ?_;simp only[go_sem];refine wT ?_;rw[Z4 y7];rfl
  ·simp only[he,if_false] at hap ⊢;refine ZZ 5 rfl (rfl) ?_;simp only[go_sem];refine ZW ZM ?_;refine ZS rfl ?_;refine sN tK 4 ?_;refine sC Tryz.func86 (hf:=(hv)) (hk:=?_);refine sC Tryz.func109 (hf:=(hap)) (hk:=?_);refine sN tK 5 ?_;refine sE ?_;refine wKd ?_
   try simp only[go_sem,gA,gB,gC]
   refine wG tK ?_;refine wDT (hb:=Qb) (hk:=?_);refine wG tK ?_;refine wT ?_;rfl
structure SmallK (l:List Kept):Prop where
 len:l.length≤100000000
 each:∀k,k∈l->k.node.Small
theorem SmallK.one {k:Kept} (h:k.node.Small):SmallK [k]:=⟨by simp,λx hx=>by rw[List.mem_singleton.1 hx];exact h⟩
theorem fp {n:Node} (h:n.Small):Small [n]:=⟨by simp,λx hx=>by rw[List.mem_singleton.1 hx];exact h⟩
theorem ki (l:List Kept) (hl:SmallK l):ag Tryz.prog 68 [.sl (l.map ZK)] [] (λr H=>r=.osl 22 8 0 (l.map ZK).length/\∀i b,ae [(22,.cells 138 8 (l.map ZK))] i=some b->ae H i=some b):=by
 have hlen:=hl.len;refine ZF tK (Tryz.func68) rfl (λC=>?_);simp only[Tryz.ntmps68,Tryz.results68,go_sem];refine wG tK ?_;refine ZL (λi:Nat=>i≤l.length) (λi=>l.length-i) (λi=>(3,.osl 22 8 0 i)::(5,.any)::(8,.int .i64 i)::u3 9 16 [])
  (λi=>[(22,.cells 138 8 ((l.take i).map ZK))]) 0 z7 ?_ λi hi=>?_
 ·simp only[go_sem];exact ZU w4 w4 p8
 simp only[go_sem];refine wG tK ?_;refine wD (λh=>?_) (λh=>?_)
 ·have hlt:i<l.length:=by simp at h;omega
  have hn:=hl.each _ (YG hlt);have hg:(l.map ZK).getD i []=ZK (l.getD i default):=Fam.getD hlt;have hs:=dE ZK hlt;generalize l.getD i default=n at hn hg hs;refine wGq tK ?_ ?_ Qm
  ·simp[hlt,ZK]
  refine ZZ 14 rfl (rfl) ?_;simp only[go_sem];refine wC Tryz.func66 (hf:=(k_ [n.node] (fp hn))) (hk:=?_);have ht:List.take i (List.map ZK (List.take i l))=List.map ZK (List.take i l):=Z4 k7;have hw:IntKind.i64.wrap ((i:Int)+1)=(i:Int)+1:=wrap_small z7 z7;refine wGq tK ?_ ?_ (by simp only[go_sem,ht,hw,ZN];try exact rfl)
  ·simp[rowsOf,ZN];omega
  refine ZB ⟨i+1,by omega,by omega,ZU ?_ ?_ ?_⟩
  ·simp[go_sem]
  ·simp[go_sem,hs,ZK]
  ·simp only[go_sem]
 ·have e:i=l.length:=by simp at h;omega
  subst e;refine wG tK ?_;refine wT ?_;simp[go_sem]
theorem rG (l:List Kept) (hl:SmallK l):ag Tryz.prog 68 [.sl (l.map ZK)] [] (λr _=>r=.sl (l.map ZK)):=ag.read (ki l hl) (cW _)
theorem zy (k:Kept) (fid:Int):ag Tryz.prog 188 [.agg (ZK k),.rp [.int .i64 fid] 0] [] (λr _=>r=.bool (k.node.fid==fid)):=by
 unfold ZK;refine ZF tK (Tryz.func188) rfl (λC=>?_);simp only[Tryz.ntmps188,Tryz.results188,go_sem];refine wG tK ?_;refine wT ?_;simp
def dq (l:List Kept) (fid:Int):Option Nat:=l.findIdx? λk=>k.node.fid==fid
theorem mW (l:List Kept) (fid:Int) (hlen:l.length≤100000000):ag Tryz.prog 157 [.sl (l.map ZK),.int .i64 fid] [] (λr _=>r=.int .i64 (dp (dq l fid))):=by
 refine ZF tK (Tryz.func157) rfl (λC=>?_);simp only[Tryz.ntmps157,Tryz.results157,go_sem];refine wG tK ?_;refine ZZ 3 rfl (rfl) ?_;simp only[go_sem];refine wC Tryz.func119 (hf:=(i_ l hlen ⟨_,Go.Proofs.Tryz.func188,by kernel_rfl,rfl⟩ rfl (λx _=>zy x fid))) (hk:=?_);refine wG tK ?_;refine wT ?_;simp[dq]
def tM (l:List Kept) (fid:Int):Bool:=l.any λk=>k.node.fid==fid
theorem I6 (l:List Kept) (fid:Int) (hlen:l.length≤100000000):ag Tryz.prog 143 [.sl (l.map ZK),.int .i64 fid] [] (λr _=>r=.bool (tM l fid)):=by
 refine ZF tK (Tryz.func143) rfl (λC=>?_);simp only[Tryz.ntmps143,Tryz.results143,go_sem];refine wG tK ?_;refine wC Tryz.func157 (hf:=(mW l fid hlen)) (hk:=?_);refine wG tK ?_;refine wT ?_;rw[dq,l_];rfl
theorem Bw (k:Kept):ag Tryz.prog 160 [.agg (ZK k)] [] (λr _=>r=.bool k.dirty):=by
 unfold ZK;refine ZF tK (Tryz.func160) rfl (λC=>?_);simp only[Tryz.ntmps160,Tryz.results160,go_sem];refine wG tK ?_;refine wT ?_;simp
theorem Dm (l:List Kept) (hl:SmallK l):ag Tryz.prog 114 [.sl (l.map ZK)] [] (λr _=>r=.sl ((l.filter λk=>!k.dirty).map ZK)):=by
 refine ZF tK (Tryz.func114) rfl (λC=>?_);simp only[Tryz.ntmps114,Tryz.results114,go_sem];refine wG tK ?_;refine wCG [] 978 Tryz.func68 (hf:=(ki l hl)) (hk:=?_);refine wG tK ?_;refine wCG [1000] 100 Tryz.func80 (hf:=(il l hl.len 1000 ⟨_,Go.Proofs.Tryz.func160,by kernel_rfl,rfl⟩ rfl j6 (λx _=>Bw x))) (hk:=?_);refine wG tK ?_;refine ZZ 1100 rfl QX ?_;simp only[go_sem];refine wT ?_;have hle:=WH (λk:Kept=>!k.dirty) l;generalize l.filter (λk=>!k.dirty)=d at *;rw[if_pos y7,ig y7]
end La
