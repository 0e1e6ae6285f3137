/- Texts of this claim, part 13: Apply, Rename, PBack, PRank, PGood, TSame, Ali2, Hof, Fid, Srv, Srv2. No condition. -/
import Derived.Test.YtmcfbfdonjllaaaGreatDoorZK12
set_option maxRecDepth 10000
set_option maxHeartbeats 4000000
set_option linter.unusedSimpArgs false
set_option linter.unusedVariables false
namespace La
open Go Go.Eng Go.Proofs
open Classical in
noncomputable def hY (l:List Node) (fid k:Int):Bool:=decide (∃f,aS l fid f k=some true)
def toN (l:List Node) (a:Act):Node:=if a.to=a.dir then aM (aN l a.dir) a.name else aN l a.to
noncomputable def cB (l:List Node) (a:Act):Int:=if ee l a=0 then (if lp l a.to=0 then (if eB (toN l a) a.toName=0 then (if bn l a.fid=true then (if hY l a.to a.fid=true then 11 else 0) else 12) else eB (toN l a) a.toName) else lp l a.to) else ee l a
noncomputable def bZ (l:List Node) (a:Act) (v:Int):List Node:=if cB l a=0 then aI (if a.to=a.dir then l else aI l { aM (aN l a.dir) a.name with version:=v }) { aZ (toN l a) a.toName a.fid with version:=v } else l
noncomputable def aO (l:List Node) (a:Act):Int:=if a.kind=1 then gv l a else if a.kind=2 then gv l a else if a.kind=3 then iq l a else if a.kind=4 then d_ l a else if a.kind=5 then cB l a else 1
noncomputable def aQ (l:List Node) (a:Act) (v:Int):List Node:=if a.kind=1 then dL l a v else if a.kind=2 then dL l a v else if a.kind=3 then eh l a v else if a.kind=4 then cq l a v else if a.kind=5 then bZ l a v else l
noncomputable def ll (l:List Node) (a:Act) (v:Int):AV:=if aO l a=0 then .tup [.sl ((aQ l a v).map ZN),.int .i64 0] else .tup [.sl [],.int .i64 (aO l a)]
structure FitA (l:List Node) (a:Act):Prop where
 small:Small l
 len:l.length≤99999990
 ent:∀n,n∈l->n.entries.length≤99999990
 name:a.name.length≤100000000
 toName:a.toName.length≤100000000
 data:a.data.length≤100000000
theorem zL (l:List Node) (a:Act) (v:Int) (hf:FitA l a)
  (hren:a.kind=5->∀(G Y N:Nat->Nat),ae Tryz.prog 151 [.ptr 15 9 0 0] (dH (ZD l a v) G Y N) (λr H=>r=.int .i64 (cB l a)/\∀i b,aa (dH (ZD (bZ l a v) a v) G Y N) i=some b->aa H i=some b)) :
  ae Tryz.prog 109 [.sl (l.map ZN),.agg (ZA a),.int .i64 v] [] (λr _=>r=if aO l a=0 then .tup [.sl ((aQ l a v).map ZN),.int .i64 0] else .tup [.nils,.int .i64 (aO l a)]):=by
 have hl:=hf.small;have c1:=EV l a v hl hf.len hf.ent hf.name;have c3:=Da l a v hl hf.data;have c4:=AF l a v hl hf.len hf.name;generalize hE:aO l a=e;generalize hL:aQ l a v=L;refine ZF tK (Tryz.func109) rfl (λC=>?_);simp only[Tryz.ntmps109,Tryz.results109,go_sem];refine wGq tK ?_ ?_ Qi
 ·simp
 refine ZZ 4 rfl (rfl) ?_;simp only[go_sem];refine ZW ZM ?_;refine ZS rfl ?_;refine sG tK ?_;refine sC Tryz.func66 (hf:=(jr l hl)) (hk:=?_);refine sN tK 2 ?_ z6 z6 Qi (by simp[go_sem,ZA]);refine sB tK ?_;refine sW tK ?_;refine sE ?_;refine dS tK ?_;refine wKd ?_
 try simp only[go_sem,gA,gB,gC]
 refine wG tK ?_;refine wD (λh=>?_) (λh=>?_)
 ·have hk:a.kind=1:=by simpa using h
  have q1:gv l a=e:=by rw[←hE];simp[aO,hk]
  have q2:dL l a v=L:=by rw[←hL];simp[aQ,hk]
  rw[q1,q2] at c1;refine wG tK ?_;refine wDT (hb:=QD) (hk:=?_);refine wG tK ?_;refine wP [15] Tryz.func148 (hf:=(c1)) (hk:=?_);refine wG tK ?_;refine wD (λh=>?_) (λh=>?_)
  ·have he:e≠0:=by simpa using h
   refine wG tK ?_;refine wT ?_;simp[he]
  ·have he:e=0:=by simpa using h
   refine wGq tK ?_ ?_ y6
   ·simp[ZD]
   refine wT ?_;simp[he]
 have hk1:¬a.kind=1:=by simpa using h
 refine wG tK ?_
 by_cases hk2:a.kind=2
 ·have hk:a.kind=2:=hk2;have q1:gv l a=e:=by rw[←hE];simp[aO,hk]
  have q2:dL l a v=L:=by rw[←hL];simp[aQ,hk]
  rw[q1,q2] at c1;refine wDT (hb:=QD) (hk:=?_);refine wG tK ?_;refine wP [15] Tryz.func148 (hf:=(c1)) (hk:=?_);refine wG tK ?_;refine wD (λh=>?_) (λh=>?_)
  ·have he:e≠0:=by simpa using h
   refine wG tK ?_;refine wT ?_;simp[he]
  ·have he:e=0:=by simpa using h
   refine wGq tK ?_ ?_ y6
   ·simp[ZD]
   refine wT ?_;simp[he]
 refine wDF (hb:=(by simpa using hk2)) (hk:=?_);refine wG tK ?_;refine wD (λh=>?_) (λh=>?_)
 ·have hk:a.kind=3:=by simpa using h
  have q1:iq l a=e:=by rw[←hE];simp[aO,hk]
  have q2:eh l a v=L:=by rw[←hL];simp[aQ,hk]
  rw[q1,q2] at c3;refine wG tK ?_;refine wP [15] Tryz.func149 (hf:=(c3)) (hk:=?_);refine wG tK ?_;refine wD (λh=>?_) (λh=>?_)
  ·have he:e≠0:=by simpa using h
   refine wG tK ?_;refine wT ?_;simp[he]
  ·have he:e=0:=by simpa using h
   refine wGq tK ?_ ?_ y6
   ·simp[ZD]
   refine wT ?_;simp[he]
 have hk3:¬a.kind=3:=by simpa using h
 refine wG tK ?_;refine wD (λh=>?_) (λh=>?_)
 ·have hk:a.kind=4:=by simpa using h
  have q1:d_ l a=e:=by rw[←hE];simp[aO,hk]
  have q2:cq l a v=L:=by rw[←hL];simp[aQ,hk]
  rw[q1,q2] at c4;refine wG tK ?_;refine wP [15] Tryz.func150 (hf:=(c4)) (hk:=?_);refine wG tK ?_;refine wD (λh=>?_) (λh=>?_)
  ·have he:e≠0:=by simpa using h
   refine wG tK ?_;refine wT ?_;simp[he]
  ·have he:e=0:=by simpa using h
   refine wGq tK ?_ ?_ y6
   ·simp[ZD]
   refine wT ?_;simp[he]
 have hk4:¬a.kind=4:=by simpa using h
 refine wG tK ?_;refine wD (λh=>?_) (λh=>?_)
 ·have hk:a.kind=5:=by simpa using h
  have c5:=hren hk;have q1:cB l a=e:=by rw[←hE];simp[aO,hk]
  have q2:bZ l a v=L:=by rw[←hL];simp[aQ,hk]
  rw[q1,q2] at c5;refine wG tK ?_;refine wP [15] Tryz.func151 (hf:=(c5)) (hk:=?_);refine wG tK ?_;refine wD (λh=>?_) (λh=>?_)
  ·have he:e≠0:=by simpa using h
   refine wG tK ?_;refine wT ?_;simp[he]
  ·have he:e=0:=by simpa using h
   refine wGq tK ?_ ?_ y6
   ·simp[ZD]
   refine wT ?_;simp[he]
 have hk5:¬a.kind=5:=by simpa using h
 have q1:e=1:=by rw[←hE];simp[aO,hk1,hk2,hk3,hk4,hk5]
 subst q1;refine wG tK ?_;refine wDT (hb:=w7) (hk:=?_);refine wG tK ?_;refine wT ?_;simp
theorem Bu (l:List Node) (a:Act) (v:Int) (hf:FitA l a)
  (hren:a.kind=5->∀(G Y N:Nat->Nat),ae Tryz.prog 151 [.ptr 15 9 0 0] (dH (ZD l a v) G Y N) (λr H=>r=.int .i64 (cB l a)/\∀i b,aa (dH (ZD (bZ l a v) a v) G Y N) i=some b->aa H i=some b)) :
  ae Tryz.prog 109 [.sl (l.map ZN),.agg (ZA a),.int .i64 v] [] (λr _=>r=ll l a v):=by
 refine ae.ie (zL l a v hf hren) ?_;unfold ll;split
 ·have h1:ie ((aQ l a v).map ZN)=(aQ l a v).map ZN:=by
   rw[dn,WX];exact Wg λn _=>oJ n
  simp only[nrm,fA,h1]
 ·rfl
end La
namespace La
open Go Go.Eng Go.Proofs
theorem nj (l:List Node) (fid:Int):∀(f:Nat) (k:Int) (b:Bool),aS l fid f k=some b->aS l fid (f+1) k=some b
 | 0,_,_,h=>by cases h
 | f+1,k,b,h=>by
  rw[aS] at h ⊢
  by_cases hk:fid=k
  ·rw[if_pos hk] at h ⊢;exact h
  ·rw[if_neg hk] at h ⊢;cases e:al l k with
   | none=>rw[e] at h;exact h
   | some n=>
    rw[e] at h;simp only at h ⊢;split at h
    ·rename_i hall;injection h with h
     have key:∀x,x∈n.entries->decide (x.fid=k)=false->aS l fid (f+1) x.fid=aS l fid f x.fid:=λx hx hne=>by
      have h1:=List.all_eq_true.1 hall x hx;rw[hne,Wj] at h1;cases h2:aS l fid f x.fid with
      | none=>rw[h2] at h1;cases h1
      | some c=>exact nj l fid f x.fid c h2
     rw[if_pos (List.all_eq_true.2 λx hx=>by
      cases hne:decide (x.fid=k) with
      | true=>rfl
      | false=>rw[key x hx hne,←hne];exact List.all_eq_true.1 hall x hx),←h]
     congr 1
     rw[Bool.eq_iff_iff,List.any_eq_true,List.any_eq_true];constructor
     ·rintro ⟨x,hx,h3⟩;refine ⟨x,hx,?_⟩;cases hne:decide (x.fid=k) with
      | true=>rw[hne] at h3;exact h3
      | false=>rw[key x hx hne,hne] at h3;exact h3
     ·rintro ⟨x,hx,h3⟩;refine ⟨x,hx,?_⟩;cases hne:decide (x.fid=k) with
      | true=>rw[hne] at h3;exact h3
      | false=>rw[hne] at h3;rw[key x hx hne];exact h3
    ·cases h
theorem rC {l:List Node} {fid k:Int} {b:Bool} {f g:Nat} (hfg:f≤g) (h:aS l fid f k=some b):aS l fid g k=some b:=by
 obtain ⟨d,rfl⟩:=Nat.exists_eq_add_of_le hfg;clear hfg
 induction d with
 | zero=>exact h
 | succ d ih=>exact nj l fid _ k b ih
open Classical in
theorem yF {l:List Node} {fid k:Int} {b:Bool} {f:Nat} (h:aS l fid f k=some b):hY l fid k=b:=by
 unfold hY;cases b with
 | true=>exact decide_eq_true ⟨f,h⟩
 | false=>
  refine decide_eq_false ?_;rintro ⟨g,hg⟩
  rcases Nat.le_total f g with hle | hle
  ·rw[rC hle h] at hg;cases hg
  ·rw[rC hle hg] at h;cases h
theorem qn {l:List Node} (hl:Small l) (k:Int):(aN l k).Small:=hl.find k
theorem AG (l:List Node) (a:Act) (v:Int) (hf:FitA l a) (f:Nat) (hw:aS l a.to f a.fid=some (hY l a.to a.fid)) (G Y N:Nat->Nat):ae Tryz.prog 151 [.ptr 15 9 0 0] (dH (ZD l a v) G Y N)
  (λr H=>r=.int .i64 (cB l a)/\∀i b,aa (dH (ZD (bZ l a v) a v) G Y N) i=some b->aa H i=some b):=by
 have hl:=hf.small;have hlen:=hf.len;have hmE:bZ l a v=if cB l a=0 then aI (if a.to=a.dir then l else aI l { aM (aN l a.dir) a.name with version:=v }) { aZ (toN l a) a.toName a.fid with version:=v } else l:=rfl;rw[hmE];unfold cB;have hwi:=tl l hl a.to f a.fid _ hw;generalize hY l a.to a.fid=wb at hwi;have hsn:=qn hl a.dir;have hst:=qn hl a.to;have hent:∀k,(aN l k).entries.length≤99999990:=λk=>by
  unfold aN;cases e:al l k with
  | none=>simp[aC]
  | some n=>exact hf.ent n (nH e)
 have hlv:=vH (aN l a.dir) a.name hsn;have hls:=mF hsn a.name;have hto:(toN l a).Small:=by unfold toN;split;exact hls;exact hst
 have htoe:(toN l a).entries.length≤99999990:=by
  unfold toN;split
  ·have h1:=Z5 (λe:Entry=>!(e.name==a.name)) (aN l a.dir).entries;have h2:=hent a.dir;have h3:(aM (aN l a.dir) a.name).entries.length≤(aN l a.dir).entries.length:=h1;omega
  ·exact hent a.to
 have hroom:=zu (toN l a) a.toName hto hf.toName;have hent2:=uU (toN l a) a.toName a.fid hto;have hens:=mn hto a.toName a.fid z7;have hp1:=oa l a v (aM (aN l a.dir) a.name) hl hls;have hl1:Small (if a.to=a.dir then l else aI l { aM (aN l a.dir) a.name with version:=v }):=by
  split
  ·exact hl
  ·exact lI hl ⟨hls.data,hls.entries⟩ z7
 have hp2:=oa (if a.to=a.dir then l else aI l { aM (aN l a.dir) a.name with version:=v }) a v (aZ (toN l a) a.toName a.fid) hl1 hens;have hT:toN l a=if a.to=a.dir then aM (aN l a.dir) a.name else aN l a.to:=rfl;unfold dH;refine ZF tK (Tryz.func151) rfl (λC=>?_);simp only[Tryz.ntmps151,Tryz.results151,go_sem];refine wG tK ?_;refine wP [15] Tryz.func178 (hf:=(vR l a v hl hf.name)) (hk:=?_);generalize aI (if a.to=a.dir then l else aI l { aM (aN l a.dir) a.name with version:=v }) { aZ (toN l a) a.toName a.fid with version:=v }=l2 at hp2;generalize aZ (toN l a) a.toName a.fid=en at hent2 hp2;generalize toN l a=T at *;generalize aM (aN l a.dir) a.name=lv at *;generalize aN l a.dir=n at *;generalize hge:ee l a=e;refine wGq tK ?_ ?_ w3
 ·simp[ZN]
 refine wD (λh=>?_) (λh=>?_)
 ·have he:e≠0:=by simpa using h
  refine wG tK ?_;refine wU ?_ (bT ?_ ?_)
  ·simp[he]
  ·simp[go_sem,ZD,he]
  ·simp[go_sem]
 have he:e=0:=by simpa using h
 subst he;simp only[if_true];refine wGq tK ?_ ?_ y6
 ·simp[ZD]
 refine wP [15] Tryz.func174 (hf:=(xw l a v a.to hl)) (hk:=?_);generalize aN l a.to=m at *;generalize hgd:lp l a.to=e;refine wGq tK ?_ ?_ w3
 ·simp[ZN]
 refine wD (λh=>?_) (λh=>?_)
 ·have he:e≠0:=by simpa using h
  refine wG tK ?_;refine wU ?_ (bT ?_ ?_)
  ·simp[he]
  ·simp[go_sem,ZD,he]
  ·simp[go_sem]
 have he:e=0:=by simpa using h
 subst he;simp only[if_true];refine wG tK ?_;refine ZW ZM ?_;refine ZS rfl ?_;refine sNq tK 11 ?_ ?_ z6 z6 y6
 ·simp[ZD]
 refine sE ?_;refine wKd ?_
 try simp only[go_sem,gA,gB,gC]
 refine wD (λh=>?_) (λh=>?_)
 ·have htd:a.to=a.dir:=by simpa using h
  simp only[htd,if_true] at hT hp2;subst hT;refine wG tK ?_;refine ZW ZM ?_;refine ZS rfl ?_;refine sNq tK 6 ?_ ?_ z6 z6 u3
  ·simp[ZD,ZN]
  refine sC Tryz.func179 (hf:=(hlv)) (hk:=?_);refine sE ?_;refine dSq tK ?_ ?_
  ·simp[go_sem,ZN]
  refine wKd ?_
  try simp only[go_sem,gA,gB,gC]
  refine wG tK ?_;refine ZW ZM ?_;refine ZS rfl ?_;refine sNq tK 6 ?_ ?_ z6 z6 u3
  ·simp[ZD,ZN]
  refine sC Tryz.func175 (hf:=(hroom)) (hk:=?_);refine sE ?_;refine dS tK ?_;refine wKd ?_
  try simp only[go_sem,gA,gB,gC]
  generalize hgr:eB T a.toName=e;refine wG tK ?_;refine wD (λh=>?_) (λh=>?_)
  ·have he:e≠0:=by simpa using h
   refine wG tK ?_;refine wU ?_ (bT ?_ ?_)
   ·simp[he]
   ·simp[go_sem,ZD,he]
   ·simp[go_sem]
  have he:e=0:=by simpa using h
  subst he;simp only[if_true];refine wG tK ?_;refine ZW ZM ?_;refine ZS rfl ?_;refine sNq tK 9 ?_ ?_ z6 z6 y6
  ·simp[ZD]
  refine sC Tryz.func82 (hf:=(cA l a.fid hl)) (hk:=?_);simp only[go_sem,eu];generalize hgx:(al l a.fid).getD aC=x;generalize hga:bn l a.fid=ia;refine sG tK ?_;refine sW tK ?_;simp only[go_sem,ZN];refine sT tK ?_;refine sE ?_;refine dS tK ?_;refine wKd ?_
  try simp only[go_sem,gA,gB,gC]
  refine wG tK ?_;refine wD (λh=>?_) (λh=>?_)
  ·have h0:ia=false:=by simpa using h
   subst h0;refine wG tK ?_;refine wU ?_ (bT ?_ ?_)
   ·simp
   ·simp[go_sem,ZD]
   ·simp[go_sem]
  have h0:ia=true:=by simpa using h
  subst h0;simp only[if_true];refine wG tK ?_;refine ZW ZM ?_;refine ZS rfl ?_;refine sNq tK 14 ?_ ?_ z6 z6 y6
  ·simp[ZD]
  refine sC Tryz.func181 (hf:=(hwi)) (hk:=?_);refine sE ?_;refine wKd ?_
  try simp only[go_sem,gA,gB,gC]
  refine wD (λh=>?_) (λh=>?_)
  ·have h0:wb=true:=by simpa using h
   subst h0;refine wG tK ?_;refine wU ?_ (bT ?_ ?_)
   ·simp
   ·simp[go_sem,ZD]
   ·simp[go_sem]
  have h0:wb=false:=by simpa using h
  subst h0;simp only[Bool.false_eq_true,if_false,if_true];refine wG tK ?_;refine ZW ZM ?_;refine ZS rfl ?_;refine sNq tK 11 ?_ ?_ z6 z6 y6
  ·simp[ZD]
  refine sE ?_;refine wKd ?_
  try simp only[go_sem,gA,gB,gC]
  refine wDF (hb:=(by simp[htd])) (hk:=?_);refine wG tK ?_;refine ZW ZM ?_;refine ZS rfl ?_;refine sNq tK 12 ?_ ?_ z6 z6 u3
  ·simp[ZD,ZN]
  refine sC Tryz.func177 (hf:=(hent2)) (hk:=?_);refine sE ?_;refine ek rfl w8 rfl (wTP [15] Tryz.func176 (hf:=(hp2))) rfl ?_;refine wKd ?_
  try simp only[go_sem,gA,gB,gC]
  refine wG tK ?_;refine wU ?_ (bT ?_ ?_)
  ·simp
  ·simp[go_sem,ZD]
  ·simp[go_sem]
 ·have htd:¬a.to=a.dir:=by simpa using h
  simp only[htd,if_false] at hT hp2;subst hT;generalize aI l { lv with version:=v }=l1 at *;refine wG tK ?_;refine ZW ZM ?_;refine ZS rfl ?_;refine sNq tK 6 ?_ ?_ z6 z6 u3
  ·simp[ZD,ZN]
  refine sC Tryz.func175 (hf:=(hroom)) (hk:=?_);refine sE ?_;refine dS tK ?_;refine wKd ?_
  try simp only[go_sem,gA,gB,gC]
  generalize hgr:eB T a.toName=e;refine wG tK ?_;refine wD (λh=>?_) (λh=>?_)
  ·have he:e≠0:=by simpa using h
   refine wG tK ?_;refine wU ?_ (bT ?_ ?_)
   ·simp[he]
   ·simp[go_sem,ZD,he]
   ·simp[go_sem]
  have he:e=0:=by simpa using h
  subst he;simp only[if_true];refine wG tK ?_;refine ZW ZM ?_;refine ZS rfl ?_;refine sNq tK 9 ?_ ?_ z6 z6 y6
  ·simp[ZD]
  refine sC Tryz.func82 (hf:=(cA l a.fid hl)) (hk:=?_);simp only[go_sem,eu];generalize hgx:(al l a.fid).getD aC=x;generalize hga:bn l a.fid=ia;refine sG tK ?_;refine sW tK ?_;simp only[go_sem,ZN];refine sT tK ?_;refine sE ?_;refine dS tK ?_;refine wKd ?_
  try simp only[go_sem,gA,gB,gC]
  refine wG tK ?_;refine wD (λh=>?_) (λh=>?_)
  ·have h0:ia=false:=by simpa using h
   subst h0;refine wG tK ?_;refine wU ?_ (bT ?_ ?_)
   ·simp
   ·simp[go_sem,ZD]
   ·simp[go_sem]
  have h0:ia=true:=by simpa using h
  subst h0;simp only[if_true];refine wG tK ?_;refine ZW ZM ?_;refine ZS rfl ?_;refine sNq tK 14 ?_ ?_ z6 z6 y6
  ·simp[ZD]
  refine sC Tryz.func181 (hf:=(hwi)) (hk:=?_);refine sE ?_;refine wKd ?_
  try simp only[go_sem,gA,gB,gC]
  refine wD (λh=>?_) (λh=>?_)
  ·have h0:wb=true:=by simpa using h
   subst h0;refine wG tK ?_;refine wU ?_ (bT ?_ ?_)
   ·simp
   ·simp[go_sem,ZD]
   ·simp[go_sem]
  have h0:wb=false:=by simpa using h
  subst h0;simp only[Bool.false_eq_true,if_false,if_true];refine wG tK ?_;refine ZW ZM ?_;refine ZS rfl ?_;refine sNq tK 11 ?_ ?_ z6 z6 y6
  ·simp[ZD]
  refine sE ?_;refine wKd ?_
  try simp only[go_sem,gA,gB,gC]
  refine wDT (hb:=(by simp[htd])) (hk:=?_);refine wG tK ?_;refine ZW ZM ?_;refine ZS rfl ?_;refine sNq tK 7 ?_ ?_ z6 z6 u3
  ·simp[ZD,ZN]
  refine sC Tryz.func179 (hf:=(hlv)) (hk:=?_);refine sE ?_;refine ek rfl w8 rfl (wTP [15] Tryz.func176 (hf:=(hp1))) rfl ?_;refine wKd ?_
  try simp only[go_sem,gA,gB,gC]
  refine wG tK ?_;refine ZW ZM ?_;refine ZS rfl ?_;refine sNq tK 12 ?_ ?_ z6 z6 u3
  ·simp[ZD,ZN]
  refine sC Tryz.func177 (hf:=(hent2)) (hk:=?_);refine sE ?_;refine ek rfl w8 rfl (wTP [15] Tryz.func176 (hf:=(hp2))) rfl ?_;refine wKd ?_
  try simp only[go_sem,gA,gB,gC]
  refine wG tK ?_;refine wU ?_ (bT ?_ ?_)
  ·simp
  ·simp[go_sem,ZD]
  ·simp[go_sem]
end La
namespace La
open Go
theorem si {l:List Node} (h:Up l) (n:Node) (k:Int):al (aI l n) k=if k=n.fid then some n else al l k:=by
 by_cases e:k=n.fid
 ·subst e;rw[if_pos rfl];exact x_ h n
 ·rw[if_neg e];exact (x' h n e).symm
end La
namespace La
open Go Go.Eng
def jA (r:Int->Nat) (l:List Node):Prop:=∀n,n∈l->∀e,e∈n.entries->r e.fid<r n.fid
inductive Reach (l:List Node):Int->Int->Prop
 | refl (k:Int):Reach l k k
 | head (n:Node) (e:Entry) (t:Int) (hn:n∈l) (he:e∈n.entries) (h:Reach l e.fid t):Reach l n.fid t
theorem Reach.tail {l:List Node} {k:Int} {n:Node} (hn:n∈l) {e:Entry} (he:e∈n.entries) (h:Reach l k n.fid):Reach l k e.fid:=by
 generalize ht:n.fid=t at h
 induction h with
 | refl k=>subst ht;exact .head n e _ hn he (.refl _)
 | head m d t hm hd h ih=>exact .head m d _ hm hd (ih ht)
theorem oX {l:List Node} (hu:Up l) {r:Int->Nat} (hr:jA r l) (t:Int):∀(f:Nat) (k:Int),r k<f->∃b,aS l t f k=some b
 | 0,k,h=>by omega
 | f+1,k,h=>by
  rw[aS];split
  ·exact ⟨_,rfl⟩
  ·cases e:al l k with
   | none=>exact ⟨_,rfl⟩
   | some n=>
    obtain ⟨hn,hk⟩:=(ZO hu).1 e;simp only;rw[if_pos (List.all_eq_true.2 λx hx=>by
     have h1:=hr n hn x hx;obtain ⟨b,hb⟩:=oX hu hr t f x.fid (by rw[hk] at h1;omega);rw[hb,Option.isSome_some,Bool.or_true])]
    exact ⟨_,rfl⟩
theorem nk {l:List Node} (hu:Up l) {r:Int->Nat} (hr:jA r l) {k t:Int} (h:Reach l k t):∀(f:Nat) (b:Bool),aS l t f k=some b->b=true:=by
 induction h with
 | refl k=>
  intro f b hb;cases f with
  | zero=>cases hb
  | succ f=>rw[aS,if_pos rfl] at hb;injection hb with hb;exact hb.symm
 | head n e t hn he h ih=>
  intro f b hb;cases f with
  | zero=>cases hb
  | succ f=>
   rw[aS] at hb;split at hb
   ·injection hb with hb;exact hb.symm
   ·rw[(ZO hu).2 ⟨hn,rfl⟩] at hb;simp only at hb;split at hb
    ·rename_i hall;injection hb with hb
     rw[←hb,List.any_eq_true];have hne:decide (e.fid=n.fid)=false:=decide_eq_false λh0=>by have:=hr n hn e he;rw[h0] at this;omega
     have h1:=List.all_eq_true.1 hall e he;rw[hne,Wj] at h1;refine ⟨e,he,?_⟩;cases h2:aS l t f e.fid with
     | none=>rw[h2] at h1;cases h1
     | some c=>rw[hne,ih f c h2];rfl
    ·cases hb
theorem lq {l:List Entry} {s:List UInt8} {f:Int} {x:Entry} (h:x∈bb l s f):x=⟨s,f⟩\/x∈l:=by
 unfold bb at h;split at h
 ·rcases WU h with h | h
  ·exact .inr h
  ·exact .inl h
 ·rcases List.mem_append.1 h with h | h
  ·exact .inr (Z3 h)
  ·rcases List.mem_cons.1 h with h | h
   ·exact .inl h
   ·exact .inr (WS h)
theorem jg {l:List Entry} {s:List UInt8} {x:Entry} (h:x∈ct l s):x∈l:=(Z0.1 h).1
theorem eF {l:List Node} {n x:Node} (h:x∈aI l n):x=n\/x∈l:=by
 unfold aI at h;split at h
 ·rcases WU h with h | h
  ·exact .inr h
  ·exact .inl h
 ·rcases List.mem_append.1 h with h | h
  ·exact .inr (Z3 h)
  ·rcases List.mem_cons.1 h with h | h
   ·exact .inl h
   ·exact .inr (WS h)
structure Good (l:List Node):Prop where
 up:Up l
 cc:∃r,jA r l
 len:l.length≤24
 data:∀n,n∈l->n.data.length≤20
 ent:∀n,n∈l->n.entries.length≤6
theorem Good.ends {l:List Node} (h:Good l) (t k:Int):∃f,aS l t f k=some (hY l t k):=by
 obtain ⟨r,hr⟩:=h.cc;obtain ⟨b,hb⟩:=oX h.up hr t (r k+1) k z7;exact ⟨_,by rw[yF hb];exact hb⟩
theorem fZ {l:List Node} {k:Int} (h:lp l k=0):∃n,al l k=some n/\aN l k=n/\n.dir=true:=by
 unfold lp at h;unfold aN;cases e:al l k with
 | none=>rw[e] at h;cases h
 | some n=>
  rw[e] at h;simp only at h;cases hd:n.dir with
  | false=>rw[hd] at h;cases h
  | true=>exact ⟨n,rfl,rfl,hd⟩
theorem pD {l:List Node} {n:Node} (h:bn l n.fid=true):(aI l n).length=l.length:=by
 unfold aI;rw[if_pos h,WD]
theorem jd {l:List Node} {k:Int} {n:Node} (h:al l k=some n):bn l k=true:=by rw[dd,h];rfl
theorem p_ (l:List Entry) (s:List UInt8) (f:Int):(bb l s f).length≤l.length+1:=by
 unfold bb;split
 ·simp
 ·have:=nF l s;simp;omega
theorem xN (l:List Entry) (s:List UInt8):(ct l s).length≤l.length:=Z5 _ _
theorem qW {n:Node} {s:List UInt8} (h:eB n s=0):n.entries.length≤5:=by
 unfold eB at h;split at h
 ·split at h
  ·cases h
  ·split at h
   ·cases h
   ·omega
 ·cases h
end La
namespace La
open Go Go.Eng Go.Proofs
theorem nM {l:List Node} (h:Good l) (a:Act) (v:Int) (he:gv l a=0):Good (dL l a v):=by
 have hL:dL l a v=aI (aI l { aZ (aN l a.dir) a.name a.fid with version:=v }) (ey a v):=by unfold dL;rw[if_pos he]
 rw[hL];unfold gv at he;split at he
 ·rename_i hd;obtain ⟨n,hf,hg,_⟩:=fZ hd;rw[hg] at he ⊢;obtain ⟨hn,hnk⟩:=(ZO h.up).1 hf;split at he
  ·rename_i hro;have h5:=qW hro;split at he
   ·cases he
   ·rename_i hnew;have hno:bn l a.fid=false:=by
     cases e:bn l a.fid with
     | false=>rfl
     | true=>rw[e] at hnew;exact absurd rfl hnew
    have hnoN:∀x,x∈l->x.fid≠a.fid:=(gp h.up).1 (by
     cases e:al l a.fid with
     | none=>rfl
     | some m=>rw[jd e] at hno;cases hno)
    split at he
    ·cases he
    ·rename_i h24;obtain ⟨r,hr⟩:=h.cc;have hfid:({ aZ n a.name a.fid with version:=v }:Node).fid=n.fid:=rfl;have hu1:=bf h.up { aZ n a.name a.fid with version:=v };refine ⟨(bf hu1.1 (ey a v)).1,⟨λx=>if x=a.fid then 0 else r x+1,λx hx e hx2=>?_⟩,?_,λx hx=>?_,λx hx=>?_⟩
     ·rcases eF hx with rfl | hx
      ·simp[ey] at hx2
      ·rcases eF hx with rfl | hx
       ·have hnf:n.fid≠a.fid:=hnoN n hn;have hx3:e∈bb n.entries a.name a.fid:=hx2
        show (if e.fid=a.fid then 0 else r e.fid+1)<(if n.fid=a.fid then 0 else r n.fid+1)
        rw[if_neg hnf]
        rcases lq hx3 with rfl | hx3
        ·simp
        ·have:=hr n hn e hx3;split<;>omega
       ·have hnf:x.fid≠a.fid:=hnoN x hx;have:=hr x hx e hx2;simp only;rw[if_neg hnf];split<;>omega
     ·have h1:=oN (aI l { aZ n a.name a.fid with version:=v }) (ey a v);have h2:(aI l { aZ n a.name a.fid with version:=v }).length=l.length:=pD (by rw[hfid,hnk];exact jd hf);omega
     ·rcases eF hx with rfl | hx
      ·simp[ey]
      ·rcases eF hx with rfl | hx
       ·exact h.data n hn
       ·exact h.data x hx
     ·rcases eF hx with rfl | hx
      ·simp[ey]
      ·rcases eF hx with rfl | hx
       ·have:=p_ n.entries a.name a.fid
        show (bb n.entries a.name a.fid).length≤6
        omega
       ·exact h.ent x hx
  ·rename_i hro;exact absurd he hro
 ·rename_i hd;exact absurd he hd
theorem qq {l:List Node} (h:Good l) (a:Act) (v:Int) (he:iq l a=0):Good (eh l a v):=by
 have hL:eh l a v=aI l { aN l a.fid with data:=a.data,version:=v }:=by unfold eh;rw[if_pos he]
 rw[hL];unfold iq at he;cases hf:al l a.fid with
 | none=>rw[hf] at he;cases he
 | some n=>
  rw[hf] at he;simp only at he;obtain ⟨hn,hnk⟩:=(ZO h.up).1 hf;have hg:aN l a.fid=n:=by unfold aN;rw[hf];rfl
  rw[hg];split at he
  ·cases he
  ·split at he
   ·cases he
   ·rename_i h20;obtain ⟨r,hr⟩:=h.cc;refine ⟨(bf h.up _).1,⟨r,λx hx e hx2=>?_⟩,?_,λx hx=>?_,λx hx=>?_⟩
    ·rcases eF hx with rfl | hx
     ·exact hr n hn e hx2
     ·exact hr x hx e hx2
    ·rw[pD (by show bn l n.fid=true;rw[hnk];exact jd hf)];exact h.len
    ·rcases eF hx with rfl | hx
     ·show a.data.length≤20;omega
     ·exact h.data x hx
    ·rcases eF hx with rfl | hx
     ·exact h.ent n hn
     ·exact h.ent x hx
theorem kh {l:List Node} {a:Act} (h:ee l a=0):∃n,al l a.dir=some n/\aN l a.dir=n:=by
 unfold ee at h;split at h
 ·rename_i hd;obtain ⟨n,h1,h2,_⟩:=fZ hd;exact ⟨n,h1,h2⟩
 ·rename_i hd;exact absurd h hd
theorem qp {l:List Node} (h:Good l) {n:Node} (hn:n∈l) (hf:al l n.fid=some n) (s:List UInt8) (v:Int) {r:Int->Nat} (hr:jA r l) :
  Good (aI l { aM n s with version:=v })/\jA r (aI l { aM n s with version:=v }):=by
 have hr2:jA r (aI l { aM n s with version:=v }):=λx hx e hx2=>by
  rcases eF hx with rfl | hx
  ·exact hr n hn e (jg hx2)
  ·exact hr x hx e hx2
 refine ⟨⟨(bf h.up _).1,⟨r,hr2⟩,?_,λx hx=>?_,λx hx=>?_⟩,hr2⟩
 ·rw[pD (by show bn l n.fid=true;exact jd hf)];exact h.len
 ·rcases eF hx with rfl | hx
  ·exact h.data n hn
  ·exact h.data x hx
 ·rcases eF hx with rfl | hx
  ·have:=xN n.entries s;have:=h.ent n hn
   show (ct n.entries s).length≤6
   omega
  ·exact h.ent x hx
theorem oB {l:List Node} (h:Good l) (a:Act) (v:Int) (he:d_ l a=0):Good (cq l a v):=by
 have hL:cq l a v=eo (aI l { aM (aN l a.dir) a.name with version:=v }) a.fid:=by unfold cq;rw[if_pos he]
 rw[hL];unfold d_ at he;split at he
 ·rename_i hnm;obtain ⟨n,hf,hg⟩:=kh hnm;rw[hg];obtain ⟨hn,hnk⟩:=(ZO h.up).1 hf;obtain ⟨r,hr⟩:=h.cc;obtain ⟨h1,hr1⟩:=qp h hn (by rw[hnk];exact hf) a.name v hr;have hsub:∀x,x∈eo (aI l { aM n a.name with version:=v }) a.fid->x∈aI l { aM n a.name with version:=v }:=λx hx=>(Z0.1 hx).1
  refine ⟨(ix h1.up a.fid).1,⟨r,λx hx e hx2=>hr1 x (hsub x hx) e hx2⟩,?_,λx hx=>h1.data x (hsub x hx),λx hx=>h1.ent x (hsub x hx)⟩;have:=Z5 (λn:Node=>!(n.fid==a.fid)) (aI l { aM n a.name with version:=v });have:=h1.len;unfold eo;omega
 ·rename_i hnm;exact absurd he hnm
open Classical in
theorem oC {l:List Node} (h:Good l) (a:Act) (v:Int) (he:cB l a=0):Good (bZ l a v):=by
 have hL:bZ l a v=aI (if a.to=a.dir then l else aI l { aM (aN l a.dir) a.name with version:=v }) { aZ (toN l a) a.toName a.fid with version:=v }:=by unfold bZ;rw[if_pos he]
 rw[hL];unfold cB at he;split at he
 ·rename_i hnm;obtain ⟨n,hf,hg⟩:=kh hnm;obtain ⟨hn,hnk⟩:=(ZO h.up).1 hf;split at he
  ·rename_i hdt;obtain ⟨t,htf,htg,_⟩:=fZ hdt;obtain ⟨htm,htk⟩:=(ZO h.up).1 htf;split at he
   ·rename_i hro;have h5:=qW hro;split at he
    ·split at he
     ·cases he
     ·rename_i hwb;obtain ⟨f,hw⟩:=h.ends a.to a.fid;obtain ⟨r,hr⟩:=h.cc;have hnr:¬Reach l a.fid a.to:=λhR=>by
       have:=nk h.up hr hR f _ hw;exact hwb this
      -- the node that gets the entry: that directory, some entries less
      have hTf:(toN l a).fid=a.to:=by
       unfold toN;split
       ·rename_i htd;show (aN l a.dir).fid=a.to;rw[hg,hnk,htd]
       ·rw[htg,htk]
      have hTe:∀e,e∈(toN l a).entries->e∈t.entries:=λe hx=>by
       unfold toN at hx;split at hx
       ·rename_i htd;have h1:=jg hx;rw[hg] at h1;rw[htd,hf] at htf;injection htf with htf
        rwa [←htf]
       ·rwa [htg] at hx
      have hTd:(toN l a).data.length≤20:=by
       unfold toN;split
       ·show (aN l a.dir).data.length≤20;rw[hg];exact h.data n hn
       ·rw[htg];exact h.data t htm
      have key:∀l1:List Node,Up l1->(∀x,x∈l1->x.data.length≤20/\x.entries.length≤6)->l1.length≤24->bn l1 a.to=true ->
        (∀x,x∈l1->∃y,y∈l/\y.fid=x.fid/\∀e,e∈x.entries->e∈y.entries)->Good (aI l1 { aZ (toN l a) a.toName a.fid with version:=v }):=λl1 hu1 hs1 hl1 ha1 hsub=>by
       let q:Int->Nat:=λx=>if Reach l a.fid x then r x else r x+(r a.fid+1)
       have hq:∀y,y∈l->∀e,e∈y.entries->q e.fid<q y.fid:=λy hy e hx=>by
        have h1:=hr y hy e hx
        show (if Reach l a.fid e.fid then r e.fid else r e.fid+(r a.fid+1))<(if Reach l a.fid y.fid then r y.fid else r y.fid+(r a.fid+1))
        by_cases hR:Reach l a.fid y.fid
        ·rw[if_pos hR,if_pos (hR.tail hy hx)];exact h1
        ·rw[if_neg hR];split<;>omega
       refine ⟨(bf hu1 _).1,⟨q,λx hx e hx2=>?_⟩,?_,λx hx=>?_,λx hx=>?_⟩
       ·rcases eF hx with rfl | hx
        ·have hx3:e∈bb (toN l a).entries a.toName a.fid:=hx2
         show q e.fid<q (toN l a).fid
         rw[hTf]
         rcases lq hx3 with rfl | hx3
         ·show (if Reach l a.fid a.fid then r a.fid else r a.fid+(r a.fid+1))<(if Reach l a.fid a.to then r a.to else r a.to+(r a.fid+1))
          rw[if_pos (.refl _),if_neg hnr];omega
         ·have:=hq t htm e (hTe e hx3)
          rwa [htk] at this
        ·obtain ⟨y,hy,hyf,hye⟩:=hsub x hx;have:=hq y hy e (hye e hx2)
         rwa [hyf] at this
       ·rw[pD (by show bn l1 (toN l a).fid=true;rw[hTf];exact ha1)];exact hl1
       ·rcases eF hx with rfl | hx
        ·exact hTd
        ·exact (hs1 x hx).1
       ·rcases eF hx with rfl | hx
        ·have:=p_ (toN l a).entries a.toName a.fid
         show (bb (toN l a).entries a.toName a.fid).length≤6
         omega
        ·exact (hs1 x hx).2
      split
      ·exact key l h.up (λx hx=>⟨h.data x hx,h.ent x hx⟩) h.len (jd htf) (λx hx=>⟨x,hx,rfl,λ_ h=>h⟩)
      ·rename_i htd;rw[hg];obtain ⟨h1,_⟩:=qp h hn (by rw[hnk];exact hf) a.name v hr;refine key _ h1.up (λx hx=>⟨h1.data x hx,h1.ent x hx⟩) h1.len ?_ (λx hx=>?_)
       ·have:al (aI l { aM n a.name with version:=v }) a.to=some t:=by
         rw[si h.up,if_neg (λe=>htd (e.trans (show n.fid=a.dir from hnk)))];exact htf
        exact jd this
       ·rcases eF hx with rfl | hx
        ·exact ⟨n,hn,rfl,λe hx2=>jg hx2⟩
        ·exact ⟨x,hx,rfl,λ_ h=>h⟩
    ·cases he
   ·rename_i hro;exact absurd he hro
  ·rename_i hdt;exact absurd he hdt
 ·rename_i hnm;exact absurd he hnm
theorem ja {l:List Node} (h:Good l) (a:Act) (v:Int) (he:aO l a=0):Good (aQ l a v):=by
 unfold aO at he;unfold aQ;split at he
 ·rename_i h1;rw[if_pos h1];exact nM h a v he
 ·rename_i h1;rw[if_neg h1];split at he
  ·rename_i h2;rw[if_pos h2];exact nM h a v he
  ·rename_i h2;rw[if_neg h2];split at he
   ·rename_i h3;rw[if_pos h3];exact qq h a v he
   ·rename_i h3;rw[if_neg h3];split at he
    ·rename_i h4;rw[if_pos h4];exact oB h a v he
    ·rename_i h4;rw[if_neg h4];split at he
     ·rename_i h5;rw[if_pos h5];exact oC h a v he
     ·cases he
theorem sr:Good [⟨0,true,[],[],0⟩]:=⟨by unfold Up;simp,⟨λ_=>0,λn hn e he=>by rw[List.mem_singleton.1 hn] at he;simp at he⟩,by simp,λn hn=>by rw[List.mem_singleton.1 hn];simp,λn hn=>by rw[List.mem_singleton.1 hn];simp⟩
theorem Good.small {l:List Node} (h:Good l):Small l:=⟨by have:=h.len;omega,λn hn=>⟨by have:=h.data n hn;omega,by have:=h.ent n hn;omega⟩⟩
theorem Good.fit {l:List Node} (h:Good l) {a:Act} (h1:a.name.length≤100000000) (h2:a.toName.length≤100000000) (h3:a.data.length≤100000000):FitA l a:=
 ⟨h.small,by have:=h.len;omega,λn hn=>by have:=h.ent n hn;omega,h1,h2,h3⟩
structure ActFit (a:Act):Prop where
 name:a.name.length≤100000000
 toName:a.toName.length≤100000000
 data:a.data.length≤100000000
theorem iT {l:List Node} (h:Good l) (a:Act) (v:Int) (ha:ActFit a):ae Tryz.prog 109 [.sl (l.map ZN),.agg (ZA a),.int .i64 v] [] (λr _=>r=ll l a v):=by
 obtain ⟨f,hf⟩:=h.ends a.to a.fid;exact Bu l a v (h.fit ha.name ha.toName ha.data) (λ_=>AG l a v (h.fit ha.name ha.toName ha.data) f hf)
theorem tF (a b:List Node) (ha:Small a) (hb:Small b):ae Tryz.prog 121 [.sl (a.map ZN),.sl (b.map ZN),.fn 122 []] [] (λr _=>r=.bool (eU false a b)):=by
 have hla:=ha.len;have hlb:=hb.len;refine ZF tK (Tryz.func121) rfl (λC=>?_);simp only[Tryz.ntmps121,Tryz.results121,go_sem];refine wG tK ?_;refine wD (λh=>?_) (λh=>?_)
 ·have hne:eU false a b=false:=by
   cases e:eU false a b with
   | false=>rfl
   | true=>have:=((iQ false a b).1 e).1;simp[this] at h
  refine wG tK ?_;refine wT ?_;simp[hne]
 have hl:a.length=b.length:=by simp at h;omega
 refine wG tK ?_;refine ZL (λi:Nat=>i≤a.length/\∀j,j<i->dM false (a.getD j default) (b.getD j default)=true) (λi=>a.length-i) (λi=>(7,.any)::(8,.any)::(9,.any)::(17,.int .i64 i)::u0 18 14 []) (λ_=>[]) 0 ⟨by omega,by omega⟩ ?_ λi hi=>?_
 ·simp only[go_sem];exact ZU w1 w1 w1
 obtain ⟨hi,hs⟩:=hi;simp only[go_sem];refine wG tK ?_;refine wD (λh=>?_) (λh=>?_)
 ·have hlt:i<a.length:=by simp at h;omega
  have hltb:i<b.length:=by omega
  have hga:(a.map ZN).getD i []=ZN (a.getD i default):=Fam.getD hlt;have hgb:(b.map ZN).getD i []=ZN (b.getD i default):=Fam.getD hltb;have hsm:=AR _ _ (ha.each _ (YG hlt)) (hb.each _ (YG hltb));have hno:dM false (a.getD i default) (b.getD i default)=false->eU false a b=false:=λh0=>by
   cases e:eU false a b with
   | false=>rfl
   | true=>rw[((iQ false a b).1 e).2 i hlt] at h0;cases h0
  have hyes:dM false (a.getD i default) (b.getD i default)=true->∀j,j<i+1->dM false (a.getD j default) (b.getD j default)=true:=λh0 j hj=>by
   rcases Nat.lt_succ_iff_lt_or_eq.1 hj with h1 | rfl
   ·exact hs j h1
   ·exact h0
  clear hs;generalize a.getD i default=x at hga hsm hno hyes;generalize b.getD i default=y at hgb hsm hno hyes;refine wGq tK ?_ ?_ (by simp only[go_sem,hga,hgb,ZN];try exact rfl)
  ·simp[hga,hgb,ZN,hlt,hltb]
  refine wC Tryz.func122 (hf:=(hsm)) (hk:=?_);refine wG tK ?_;refine wD (λh=>?_) (λh=>?_)
  ·have h0:dM false x y=false:=by simpa using h
   have:=hno h0;refine wG tK ?_;refine wT ?_;simp[this]
  ·have h0:dM false x y=true:=by simpa using h
   have hw:=wi1 (i:=i) z7;refine wG tK ?_ w6 k0;refine ZB ⟨i+1,⟨by omega,hyes h0⟩,by omega,ZU ?_ ?_ ?_⟩
   ·simp[go_sem]
   ·simp[go_sem]
   ·simp[go_sem]
 ·have e:i=a.length:=by simp at h;omega
  subst e;have hab:eU false a b=true:=(iQ false a b).2 ⟨hl,hs⟩;refine wG tK ?_;refine wT ?_;simp[hab]
theorem gZ (a b:List Node) (ha:Small a) (hb:Small b):ae Tryz.prog 84 [.sl (a.map ZN),.sl (b.map ZN)] [] (λr _=>r=.bool (eU false a b)):=by
 refine ZF tK (Tryz.func84) rfl (λC=>?_);simp only[Tryz.ntmps84,Tryz.results84,go_sem];refine wG tK ?_;refine wC Tryz.func121 (hf:=(tF a b ha hb)) (hk:=?_);refine wG tK ?_;refine wT ?_;rfl
def eT:Node:=⟨0,true,[],[],0⟩
theorem ij (l:List Rec) (hlen:l.length≤100000000) {f:FuncId} {caps:List AV} {p:Rec->Bool} (hcal:ax Tryz.prog f) (hpure:(caps.all AV.aX)=true)
  (hf:∀x,x∈l->ae Tryz.prog f (.agg (ZR x)::caps) [] (λr _=>r=.bool (p x))) :
  ae Tryz.prog 186 [.sl (l.map ZR),.fn f caps] [] (λr _=>r=.int .i64 (cf (l.findIdx? p))):=by
 have hcaps:=br hpure;refine ZF tK (Tryz.func186) rfl (λC=>?_);simp only[Tryz.ntmps186,Tryz.results186,go_sem];refine wG tK ?_;refine ZL (λi:Nat=>i≤l.length/\∀x,x∈l.take i->p x=false) (λi=>l.length-i) (λi=>(8,.int .i64 i)::(5,.any)::u0 9 10 []) (λ_=>[]) 0 ⟨by omega,by simp⟩ ?_ λi hi=>?_
 ·simp only[go_sem];exact ZU w1 w1 k9
 obtain ⟨hi,hno⟩:=hi;simp only[go_sem];refine wG tK ?_;refine wD (λh=>?_) (λh=>?_)
 ·have hlt:i<l.length:=by simp at h;omega
  have hn:=hf _ (YG hlt);have hg:(l.map ZR).getD i []=ZR (l.getD i default):=Fam.getD hlt;have htk:=ZT hlt;have hgi:l[i]? = some (l.getD i default):=by rw[Zo,Zp hlt];rfl
  generalize l.getD i default=n at hn hg htk hgi;refine wGq tK ?_ ?_ v7
  ·simp[hlt,ZR]
  refine cM rfl rfl z8 w1 hcal k9 (hn) w1 z6 ?_;refine wG tK ?_;refine wD (λh=>?_) (λh=>?_)
  ·refine wG tK ?_;refine wT ?_;rw[di hgi hno h];rfl
  ·have hw:IntKind.i64.wrap ((i:Int)+1)=(i:Int)+1:=wrap_small z7 z7;refine wG tK ?_ w6 k0;refine ZB ⟨i+1,⟨by omega,?_⟩,by omega,ZU ?_ ?_ ?_⟩
   ·rw[htk];intro x hx
    rcases List.mem_append.1 hx with hx | hx
    ·exact hno x hx
    ·rw[List.mem_singleton.1 hx];exact h
   ·simp[go_sem]
   ·simp[go_sem]
   ·simp[go_sem,hcaps]
 ·have e:i=l.length:=by simp at h;omega
  refine wG tK ?_;refine wT ?_;rw[e,Zy] at hno;rw[Z6.2 hno];rfl
theorem ob (l:List Rec) (hlen:l.length≤100000000) {f:FuncId} {caps:List AV} {p:Rec->Bool} (hcal:ax Tryz.prog f) (hpure:(caps.all AV.aX)=true)
  (hf:∀x,x∈l->ae Tryz.prog f (.agg (ZR x)::caps) [] (λr _=>r=.bool (p x))) :
  ae Tryz.prog 183 [.sl (l.map ZR),.fn f caps] [] (λr _=>r=.bool (l.any p)):=by
 have hcaps:=br hpure;refine ZF tK (Tryz.func183) rfl (λC=>?_);simp only[Tryz.ntmps183,Tryz.results183,go_sem];refine wG tK ?_;refine cM rfl rfl z8 w1 ⟨_,Tryz.func186,by kernel_rfl,rfl⟩ k9 (ij l hlen hcal hpure hf) w1 z6 ?_;refine wG tK ?_;refine wT ?_;rw[jZ]
theorem kp (l:List Rec) (hlen:l.length≤100000000) (id:Nat) {f:FuncId} {caps:List AV} {p:Rec->Bool} (hcal:ax Tryz.prog f) (hpure:(caps.all AV.aX)=true) (hid:id≠7)
  (hf:∀x,x∈l->ae Tryz.prog f (.agg (ZR x)::caps) [] (λr _=>r=.bool (p x))) :
  ae Tryz.prog 153 [.osl id 9 0 l.length,.fn f caps] [(id,.cells 51 9 (l.map ZR))] (λr H=>r=.osl id 9 0 (l.filter λx=>!p x).length /\
   ∀i b,aa [(id,.cells 51 9 ((l.filter λx=>!p x).map ZR++List.replicate (l.length-(l.filter λx=>!p x).length) [.int .i64 0,.int .i64 0,.int .i64 0,.str [],.int .i64 0,.str [],.nils,.int .i64 0,.int .i64 0]))] i=some b->aa H i=some b):=by
 have hcaps:=br hpure;obtain ⟨q,hv,hq⟩:=ej hpure;refine ZF tK (Tryz.func153) rfl (λC=>?_);simp only[Tryz.ntmps153,Tryz.results153,go_sem];refine wG tK ?_;refine kF rfl rfl z8 w1 QE Qk ⟨_,Tryz.func186,by kernel_rfl,rfl⟩ (ij l hlen hcal hpure hf) w1 z6 ?_;refine wG tK ?_;refine wD (λh=>?_) (λh=>?_)
 ·refine wG tK ?_;refine wT ?_;have hn:l.findIdx? p=none:=by
   cases e:l.findIdx? p with
   | none=>rfl
   | some k=>rw[e] at h;simp[cf] at h
  have hfl:l.filter (λx=>!p x)=l:=WV.2 λx hx=>by
   simp[Z6.1 hn x hx]
  rw[hfl];simp[aa]
 obtain ⟨k,hk⟩:∃k,l.findIdx? p=some k:=by
  cases e:l.findIdx? p with
  | none=>rw[e] at h;simp[cf] at h
  | some k=>exact ⟨k,rfl⟩
 have hkl:k<l.length:=(Z4.1 hk).1;have hsp:=dA hk;rw[hk];have hw:IntKind.i64.wrap ((k:Int)+1)=((k+1:Nat):Int):=by rw[Eng.wrap_small z7 z7];rfl
 simp only[cf];refine wG tK ?_ w6 k0;refine ZL (λs:Nat×List Rec=>DelInv p l s.1 s.2) (λs=>l.length-s.1) (λs=>(5,.int .i64 (((l.take s.1).filter λx=>!p x).length:Nat))::(6,.int .i64 (s.1:Nat))::(7,.any)::u0 16 20 []) (λs=>[(id,.cells 51 9 (s.2.map ZR))]) (k+1,l) (DelInv.start hk) ?_ λs hs=>?_
 ·have el:((l.take (k+1)).filter λx=>!p x).length=k:=by rw[hsp];simp;omega
  simp only[go_sem,el];exact ZU w1 w1 k9
 obtain ⟨j,L⟩:=s;have hjl:=hs.le;have hL:=hs.len;have hlt:=hs.lt;simp only at hs hjl hL hlt;simp only[go_sem];refine wG tK ?_;refine wD (λh=>?_) (λh=>?_)
 ·have hj:j<l.length:=by simp at h;omega
  have hn:=hf _ (YG hj);have hg:(L.map ZR).getD j []=ZR (l.getD j default):=by rw[Fam.getD z7,hs.get hj]
  have hkeep:=hs.Ch hj;have hskip:=hs.skip hj;have htk:=ZT hj;generalize l.getD j default=n at hn hg hkeep hskip htk;refine wGq tK ?_ ?_ (by simp only[go_sem,hg,ZR,hid,Ne.symm hid];try exact rfl)
  ·simp[ZR];omega
  refine cM rfl rfl z8 w1 hcal k9 (hn) w1 z6 ?_;generalize hm:((l.take j).filter λx=>!p x).length=m at hkeep hlt;have hw1:IntKind.i64.wrap ((j:Int)+1)=((j+1:Nat):Int):=by rw[Eng.wrap_small z7 z7];rfl
  have hw2:IntKind.i64.wrap ((m:Int)+1)=((m+1:Nat):Int):=by rw[Eng.wrap_small z7 z7];rfl
  refine wG tK ?_ QC Qx;refine wD (λh=>?_) (λh=>?_)
  ·have hp:p n=false:=by simpa using h
   obtain ⟨hk1,hk2⟩:=hkeep hp;have aB:=na ZR L m n;simp only[ZR] at aB;have hgl:(L.map ZR).getD m []=ZR (L.getD m default):=Fam.getD z7;simp only[ZR] at hgl;refine wGq tK ?_ ?_ x8
   ·simp[hid,Ne.symm hid];omega
   refine ZB ⟨(j+1,L.set m n),hk1,by simp only;omega,ZU ?_ ?_ ?_⟩
   ·simp[go_sem,hk2]
   ·simp[go_sem,hid,Ne.symm hid,aB]
   ·simp[go_sem,hcaps,-List.map_set]
  ·have hp:p n=true:=by simpa using h
   refine wG tK ?_ u4 QF;have hsame:((l.take (j+1)).filter λx=>!p x).length=m:=by
    rw[←hm,htk,List.filter_append];simp only[List.filter_cons,hp,Bool.not_true,Bool.false_eq_true,if_false,List.filter_nil,List.append_nil]
   refine ZB ⟨(j+1,L),hskip hp,by simp only;omega,ZU ?_ ?_ ?_⟩
   ·simp[go_sem,hsame,hm]
   ·simp[go_sem,hid,Ne.symm hid]
   ·simp[go_sem,hcaps]
 have e:j=l.length:=by simp at h;omega
 subst e;have hfin:=hs.fin;rw[Zy];generalize hd:(l.filter λx=>!p x)=d at *;have hdl:d.length≤l.length:=by rw[←hd];exact Z5 _ _
 have hcl:=gk ZR (d:=d) (L:=L) [.int .i64 0,.int .i64 0,.int .i64 0,.str [],.int .i64 0,.str [],.nils,.int .i64 0,.int .i64 0] hfin z7;rw[hL] at hcl;refine wGq tK ?_ ?_ u5
 ·simp only[not_false_eq_true,true_and];omega
 refine wT ?_;simp[aa]
theorem tJ (a:Act):ae Tryz.prog 126 [.agg (ZA a)] [] (λr _=>r=.sl ((eW a).map ZI)):=by
 unfold ZA;refine ZF tK (Tryz.func126) rfl (λC=>?_);simp only[Tryz.ntmps126,Tryz.results126,go_sem];refine wG tK ?_;refine wD (λh=>?_) (λh=>?_)
 ·refine wG tK ?_;refine ZZ 9 rfl (rfl) ?_;simp only[go_sem];refine wT ?_;simp[go_sem,eW,ZI,eq_of_beq h]
 ·refine wG tK ?_;have h1:a.kind≠3:=by simpa using h
  refine wD (λh=>?_) (λh=>?_)
  ·refine wG tK ?_;refine ZZ 18 rfl (rfl) ?_;simp only[go_sem];refine wT ?_;have h2:a.kind=5:=by simpa using h
   simp[go_sem,eW,ZI,h2]
  ·refine wG tK ?_;refine ZZ 23 rfl (rfl) ?_;simp only[go_sem];refine wT ?_;have h2:a.kind≠5:=by simpa using h
   simp[go_sem,eW,ZI,h1,h2]
theorem qf (a:Act):(eW a).length≤3:=by
 unfold eW;split
 ·simp
 ·split<;>simp
theorem Cb (l:List Int) (hlen:l.length≤100000000) (v:Int):ae Tryz.prog 217 [.sl (l.map ZI),.int .i64 v] [] (λr _=>r=.int .i64 (cf (l.findIdx? (v==·)))):=by
 refine ZF tK (Tryz.func217) rfl (λC=>?_);simp only[Tryz.ntmps217,Tryz.results217,go_sem];refine wG tK ?_;refine ZL (λi:Nat=>i≤l.length/\∀x,x∈l.take i->(v==x)=false) (λi=>l.length-i) (λi=>(8,.int .i64 i)::(5,.any)::u0 9 10 []) (λ_=>[]) 0 ⟨by omega,by simp⟩ ?_ λi hi=>?_
 ·simp only[go_sem];exact ZU w1 w1 s7
 obtain ⟨hi,hno⟩:=hi;simp only[go_sem];refine wG tK ?_;refine wD (λh=>?_) (λh=>?_)
 ·have hlt:i<l.length:=by simp at h;omega
  have hg:(l.map ZI).getD i []=ZI (l.getD i default):=Fam.getD hlt;have htk:=ZT hlt;have hgi:l[i]? = some (l.getD i default):=by rw[Zo,Zp hlt];rfl
  generalize l.getD i default=n at hg htk hgi;refine wGq tK ?_ ?_ (by simp only[go_sem,hg,ZI];try exact rfl)
  ·simp[hlt]
  refine wD (λh=>?_) (λh=>?_)
  ·refine wG tK ?_;refine wT ?_;rw[di hgi hno h];rfl
  ·have hw:IntKind.i64.wrap ((i:Int)+1)=(i:Int)+1:=wrap_small z7 z7;refine wG tK ?_ w6 k0;refine ZB ⟨i+1,⟨by omega,?_⟩,by omega,ZU ?_ ?_ ?_⟩
   ·rw[htk];intro x hx
    rcases List.mem_append.1 hx with hx | hx
    ·exact hno x hx
    ·rw[List.mem_singleton.1 hx];exact h
   ·simp[go_sem]
   ·simp[go_sem]
   ·simp only[go_sem]
 ·have e:i=l.length:=by simp at h;omega
  refine wG tK ?_;refine wT ?_;rw[e,Zy] at hno;rw[Z6.2 hno];rfl
theorem uL (l:List Int) (hlen:l.length≤100000000) (v:Int):ae Tryz.prog 187 [.sl (l.map ZI),.int .i64 v] [] (λr _=>r=.bool (l.contains v)):=by
 refine ZF tK (Tryz.func187) rfl (λC=>?_);simp only[Tryz.ntmps187,Tryz.results187,go_sem];refine wG tK ?_;refine wC Tryz.func217 (hf:=(Cb l hlen v)) (hk:=?_);refine wG tK ?_;refine wT ?_;rw[jZ,List.contains_eq_any_beq]
theorem vS (r:Rec) (f:Int):ae Tryz.prog 155 [.rp (ZR r) 0,.int .i64 f] [] (λx _=>x=.bool (r.names f)):=by
 unfold ZR;refine ZF tK (Tryz.func155) rfl (λC=>?_);simp only[Tryz.ntmps155,Tryz.results155,go_sem];refine wG tK ?_;refine wC Tryz.func126 (hf:=(tJ r.act)) (hk:=?_);refine wG tK ?_;refine wC Tryz.func187 (hf:=(uL (eW r.act) (by have:=qf r.act;omega) f)) (hk:=?_);refine wG tK ?_;refine wT ?_;rfl
theorem eG (a b:Bool):(bif a then b else false)=(a&&b):=by cases a<;>rfl
theorem mi (a b:Bool):(bif a then true else b)=(a||b):=by cases a<;>rfl
theorem yw (r:Rec) (d:Int) (n:List UInt8):ae Tryz.prog 185 [.rp (ZR r) 0,.int .i64 d,.str n] [] (λx _=>x=.bool (gY r.act d n)):=by
 unfold ZR;refine ZF tK (Tryz.func185) rfl (λC=>?_);simp only[Tryz.ntmps185,Tryz.results185,go_sem];refine wG tK ?_;refine wD (λh=>?_) (λh=>?_)
 ·refine wG tK ?_;refine wDT (hb:=(h)) (hk:=?_);refine wR ?_;refine wN tK 6 ?_;refine aV 24 z6 (λc24 h24=>?_);simp only[go_sem];refine wN tK 8 ?_;refine aV 32 z6 (λc32 h32=>?_);simp only[go_sem];refine wG tK ?_;refine wT ?_;subst h32 h24;have hk:=eq_of_beq h;simp[gY,hk,eG]
 ·refine wG tK ?_;refine wD (λh=>?_) (λh=>?_)
  ·refine wG tK ?_;refine wDT (hb:=(h)) (hk:=?_);refine wR ?_;refine wN tK 6 ?_;refine aV 24 z6 (λc24 h24=>?_);simp only[go_sem];refine wN tK 8 ?_;refine aV 32 z6 (λc32 h32=>?_);simp only[go_sem];refine wG tK ?_;refine wT ?_;subst h32 h24;have hk:=eq_of_beq h;simp[gY,hk,eG]
  ·refine wG tK ?_;refine wD (λh=>?_) (λh=>?_)
   ·refine wR ?_;refine wN tK 6 ?_;refine aV 24 z6 (λc24 h24=>?_);simp only[go_sem];refine wN tK 8 ?_;refine aV 32 z6 (λc32 h32=>?_);simp only[go_sem];refine wG tK ?_;refine wT ?_;subst h32 h24;have hk:=eq_of_beq h;simp[gY,hk,eG]
   ·refine wG tK ?_;refine wD (λh=>?_) (λh=>?_)
    ·have hk:=eq_of_beq h;refine wR ?_;refine wN tK 6 ?_;refine aV 40 z6 (λc40 h40=>?_);simp only[go_sem];refine wN tK 8 ?_;refine aV 48 z6 (λc48 h48=>?_);simp only[go_sem];cases c48
     ·cases e3:(r.act.to==d)<;>cases e4:(r.act.toName==n)
      all_goals refine wG tK ?_ (by simp only[go_sem,e3,e4];try exact rfl) (by simp[go_sem,e3,e4])
      all_goals refine wT ?_
      all_goals rw[←h40,eG] at h48
      all_goals simp[gY,hk,h48,e3,e4]
     ·refine wG tK ?_;refine wT ?_;rw[←h40,eG] at h48;simp[gY,hk,h48]
    ·refine wG tK ?_;refine wT ?_
     simp_all [gY]
structure Srv where
 tree:List Node
 next:Int
 past:List Past
def ZQ (s:Srv):List AV:=[.sl (s.tree.map ZN),.int .i64 s.next,.sl (s.past.map ZP)]
@[go_sem,simp] theorem Fs (s:Srv):av (ZQ s)=[]:=rfl
theorem rz (s:Srv) (h:s.past.length≤100000000):ae Tryz.prog 86 [.agg (ZQ s)] [] (λr _=>r=.int .i64 ((s.past.length+1:Nat):Int)):=by
 have hw:IntKind.i64.wrap ((s.past.length:Int)+1)=((s.past.length+1:Nat):Int):=by rw[Eng.wrap_small z7 z7];rfl
 unfold ZQ;refine ZF tK (Tryz.func86) rfl (λC=>?_);simp only[Tryz.ntmps86,Tryz.results86,go_sem];refine wG tK ?_ w6 k0;refine wT ?_;rfl
theorem C8:ae Tryz.prog 33 [] [] (λr _=>r=.agg [.sl [[.int .i64 0,.bool true,.nils,.nils,.int .i64 0]],.int .i64 1,.nils]):=by
 refine ZF tK (Tryz.func33) rfl (λC=>?_);simp only[Tryz.ntmps33,Tryz.results33,go_sem];refine wG tK ?_;refine wC Tryz.func52 (hf:=(CA)) (hk:=?_);refine wG tK ?_;refine wT ?_;rfl
theorem Fp:ae Tryz.prog 33 [] [] (λr _=>r=.agg (ZQ ⟨[eT],1,[]⟩)):=ae.ie C8 rfl
structure SmallP (l:List Past):Prop where
 len:l.length≤90000000
 each:∀p,p∈l->p.act.data.length≤100000000
theorem pG (s:Srv) (ht:Small s.tree) (hp:SmallP s.past):ae Tryz.prog 40 [.agg (ZQ s)] [] (λr _=>r=.agg (ZQ s)):=by
 have hlen:=hp.len;unfold ZQ;refine ZF tK (Tryz.func40) rfl (λC=>?_);simp only[Tryz.ntmps40,Tryz.results40,go_sem];refine wG tK ?_;refine ZZ 1 rfl (rfl) ?_;simp only[go_sem];refine ZW ZM ?_;refine ZS rfl ?_;refine sN tK 2 ?_;refine sC Tryz.func66 (hf:=(jr s.tree ht)) (hk:=?_);refine sN tK 2 ?_;refine sB tK ?_;refine sW tK ?_;refine sE ?_;refine dS tK ?_;refine wKd ?_
 try simp only[go_sem,gA,gB,gC]
 refine wG tK ?_;refine ay (ze 28 8 3 z8 z8) ?_;refine ay (le_empty 28 79 8 z8) ?_;simp only[go_sem];refine ZL (λi:Nat=>i≤s.past.length) (λi=>s.past.length-i) (λi=>(5,.any)::(15,.int .i64 i)::u0 16 15 [])
  (λi=>[(3,.cells 32 3 [[.sl (s.tree.map ZN),.int .i64 s.next,.osl 28 8 0 i]]),(28,.cells 79 8 ((s.past.take i).map ZP))]) 0 z7 ?_ λi hi=>?_
 ·simp only[go_sem];exact ZU w1 w1 s7
 simp only[go_sem];refine wG tK ?_;refine wD (λh=>?_) (λh=>?_)
 ·have hlt:i<s.past.length:=by simp at h;omega
  have hw:=wi1 (i:=i) z7;have hg:(s.past.map ZP).getD i []=ZP (s.past.getD i default):=Fam.getD hlt;have hs:=cw ZP hlt;have ha:=hp.each _ (YG hlt);generalize s.past.getD i default=x at *;refine wGq tK ?_ ?_ Qb
  ·simp[hg,ZP,hlt]
  refine ZZ 5 rfl (rfl) ?_;simp only[go_sem];refine ZW ZM ?_;refine ZS rfl ?_;refine sN tK 6 ?_;refine sC Tryz.func67 (hf:=(jG x.act ha)) (hk:=?_);simp only[go_sem,ZA];refine sB tK ?_;refine sW tK ?_;refine sE ?_;refine fT (bK 28 3 z6 k6) ?_;simp only[go_sem];refine dSq tK ?_ ?_
  ·simp[go_sem,rowsOf];refine ⟨by omega,by omega,λx hx y hy hr=>?_⟩;have h1:=Z3 (Z3 hx);have:=List.all_eq_true.1 (List.all_eq_true.1 (fq 28 s.past) x h1) y hy;simp only[WQ,List.contains_eq_mem,decide_eq_false_iff_not] at this;exact this hr
  simp only[go_sem];refine dS tK ?_;refine dS tK ?_;refine wKd ?_
  try simp only[go_sem,gA,gB,gC]
  refine wG tK ?_ w6 k0;refine ZB ⟨i+1,by omega,by omega,ZU ?_ ?_ ?_⟩
  ·simp[go_sem]
  ·simp[go_sem,hs,ZP,List.take_take]
  ·simp only[go_sem]
 ·have e:i=s.past.length:=by simp at h;omega
  subst e;refine wG tK ?_;refine ZZ 28 rfl (fV _) ?_;simp only[go_sem];refine wT ?_;simp
theorem wS (s:Srv) (ht:Small s.tree) (hp:SmallP s.past):ae Tryz.prog 40 [.agg (ZQ s)] [] (λr H=>r=.agg [.sl (s.tree.map ZN),.int .i64 s.next,.osl 28 8 0 s.past.length]/\∀i b,aa [(28,.cells 79 8 (s.past.map ZP))] i=some b->aa H i=some b):=by
 have hlen:=hp.len;unfold ZQ;refine ZF tK (Tryz.func40) rfl (λC=>?_);simp only[Tryz.ntmps40,Tryz.results40,go_sem];refine wG tK ?_;refine ZZ 1 rfl (rfl) ?_;simp only[go_sem];refine ZW ZM ?_;refine ZS rfl ?_;refine sN tK 2 ?_;refine sC Tryz.func66 (hf:=(jr s.tree ht)) (hk:=?_);refine sN tK 2 ?_;refine sB tK ?_;refine sW tK ?_;refine sE ?_;refine dS tK ?_;refine wKd ?_
 try simp only[go_sem,gA,gB,gC]
 refine wG tK ?_;refine ay (ze 28 8 3 z8 z8) ?_;refine ay (le_empty 28 79 8 z8) ?_;simp only[go_sem];refine ZL (λi:Nat=>i≤s.past.length) (λi=>s.past.length-i) (λi=>(5,.any)::(15,.int .i64 i)::u0 16 15 [])
  (λi=>[(3,.cells 32 3 [[.sl (s.tree.map ZN),.int .i64 s.next,.osl 28 8 0 i]]),(28,.cells 79 8 ((s.past.take i).map ZP))]) 0 z7 ?_ λi hi=>?_
 ·simp only[go_sem];exact ZU w1 w1 s7
 simp only[go_sem];refine wG tK ?_;refine wD (λh=>?_) (λh=>?_)
 ·have hlt:i<s.past.length:=by simp at h;omega
  have hw:=wi1 (i:=i) z7;have hg:(s.past.map ZP).getD i []=ZP (s.past.getD i default):=Fam.getD hlt;have hs:=cw ZP hlt;have ha:=hp.each _ (YG hlt);generalize s.past.getD i default=x at *;refine wGq tK ?_ ?_ Qb
  ·simp[hg,ZP,hlt]
  refine ZZ 5 rfl (rfl) ?_;simp only[go_sem];refine ZW ZM ?_;refine ZS rfl ?_;refine sN tK 6 ?_;refine sC Tryz.func67 (hf:=(jG x.act ha)) (hk:=?_);simp only[go_sem,ZA];refine sB tK ?_;refine sW tK ?_;refine sE ?_;refine fT (bK 28 3 z6 k6) ?_;simp only[go_sem];refine dSq tK ?_ ?_
  ·simp[go_sem,rowsOf];refine ⟨by omega,by omega,λx hx y hy hr=>?_⟩;have h1:=Z3 (Z3 hx);have:=List.all_eq_true.1 (List.all_eq_true.1 (fq 28 s.past) x h1) y hy;simp only[WQ,List.contains_eq_mem,decide_eq_false_iff_not] at this;exact this hr
  simp only[go_sem];refine dS tK ?_;refine dS tK ?_;refine wKd ?_
  try simp only[go_sem,gA,gB,gC]
  refine wG tK ?_ w6 k0;refine ZB ⟨i+1,by omega,by omega,ZU ?_ ?_ ?_⟩
  ·simp[go_sem]
  ·simp[go_sem,hs,ZP,List.take_take]
  ·simp only[go_sem]
 ·have e:i=s.past.length:=by simp at h;omega
  subst e;refine wG tK ?_;refine wT ?_;simp[go_sem]
theorem Gm:ae Tryz.prog 52 [] [] (λr _=>r=.sl ([eT].map ZN)):=ae.ie CA rfl
theorem AK (l:List Past) (st:Nat->List Node) (hlen:l.length≤90000000) (h0:st 0=[eT])
  (hs:∀i,i<l.length->Good (st i)/\ActFit (l.getD i default).act/\aO (st i) (l.getD i default).act=0/\st (i+1)=aQ (st i) (l.getD i default).act ((i+1:Nat):Int)) :
  ae Tryz.prog 83 [.sl (l.map ZP)] [] (λr _=>r=.tup [.sl ((st l.length).map ZN),.int .i64 0]):=by
 have hn:ae Tryz.prog 52 [] [] (λr _=>r=.sl ((st 0).map ZN)):=by rw[h0];exact Gm
 refine ZF tK (Tryz.func83) rfl (λC=>?_);simp only[Tryz.ntmps83,Tryz.results83,go_sem];refine wG tK ?_;refine wC Tryz.func52 (hf:=(hn)) (hk:=?_);refine wG tK ?_;refine ZL (λi:Nat=>i≤l.length) (λi=>l.length-i) (λi=>(4,.sl ((st i).map ZN))::u0 5 4 ((12,.int .i64 i)::u0 13 18 [])) (λ_=>[]) 0 z7 ?_ λi hi=>?_
 ·simp only[go_sem];exact ZU w1 w1 w1
 simp only[go_sem];refine wG tK ?_;refine wD (λh=>?_) (λh=>?_)
 ·have hlt:i<l.length:=by simp at h;omega
  have hg:(l.map ZP).getD i []=ZP (l.getD i default):=Fam.getD hlt;have hw:=wi1 (i:=i) z7;obtain ⟨h1,h2,h3,h4⟩:=hs i hlt;have hap:=iT h1 (l.getD i default).act ((i+1:Nat):Int) h2;unfold ll at hap;rw[if_pos h3,←h4] at hap;generalize l.getD i default=a at hg hap;refine wGq tK ?_ ?_ (by simp only[go_sem,hg,ZP,hw];try exact rfl)
  ·simp[hg,hlt,ZP]
  refine ZZ 6 rfl (rfl) ?_;simp only[go_sem];refine wC Tryz.func109 (hf:=(hap)) (hk:=?_);refine wG tK ?_;refine wD (λh=>?_) (λh=>?_)
  ·cases h
  refine wG tK ?_ w6 k0;refine ZB ⟨i+1,by omega,by omega,ZU ?_ ?_ ?_⟩
  ·simp[go_sem]
  ·simp[go_sem]
  ·simp[go_sem]
 ·have e:i=l.length:=by simp at h;omega
  subst e;refine wG tK ?_;refine wT ?_;rfl
def bd (a:Act):Bool:=a.kind==1||a.kind==2
def doA (s:Srv) (a:Act):Act:=if bd a then { a with fid:=s.next } else a
noncomputable def doE (s:Srv) (a:Act):Int:=aO s.tree (doA s a)
noncomputable def doS (s:Srv) (c:Int) (a:Act):Srv:=⟨aQ s.tree (doA s a) ((s.past.length+1:Nat):Int),if bd a then s.next+1 else s.next,s.past++[⟨c,doA s a⟩]⟩
noncomputable def doR (s:Srv) (c:Int) (a:Act):AV:=if doE s a=0 then .tup [.agg (ZQ (doS s c a)),.int .i64 0] else .tup [.agg [.nils,.int .i64 0,.nils],.int .i64 (doE s a)]
theorem G5 (s:Srv) (c:Int) (a:Act) (hg:Good s.tree) (hp:SmallP s.past) (ha:ActFit a) (hn:s.next.natAbs≤90000000):ae Tryz.prog 107 [.agg (ZQ s),.int .i64 c,.agg (ZA a)] [] (λr _=>r=doR s c a):=by
 have hlen:=hp.len;have hw:IntKind.i64.wrap (s.next+1)=s.next+1:=Eng.wrap_small z7 z7;have hda:ActFit (doA s a):=by unfold doA;split;exact ⟨ha.name,ha.toName,ha.data⟩;exact ha
 have hv:=rz s z7;have hap:=iT hg (doA s a) ((s.past.length+1:Nat):Int) hda;have hso:=wS s hg.small hp;have how:=jG (doA s a) hda.data;unfold ll at hap;unfold doR doS doE;unfold ZQ at hv hso ⊢;refine ZF tK (Tryz.func107) rfl (λC=>?_);simp only[Tryz.ntmps107,Tryz.results107,go_sem];refine wGq tK ?_ ?_ Qi
 ·simp[ZA]
 refine ZZ 3 rfl (rfl) ?_;simp only[go_sem];refine wD (λh=>?_) (λh=>?_)
 ·have hm:bd a=true:=by unfold bd;revert h;cases (a.kind==1)<;>simp
  have hdo:doA s a={ a with fid:=s.next }:=by unfold doA;rw[if_pos hm]
  rw[hdo] at hap how ⊢;simp only[hm,if_true];generalize aO s.tree { a with fid:=s.next }=e at *;generalize aQ s.tree { a with fid:=s.next } ((s.past.length+1:Nat):Int)=L at *;refine wG tK ?_
  by_cases he:e=0
  ·subst he;simp only[if_true] at hap ⊢;refine ZZ 5 rfl (rfl) ?_;simp only[go_sem];refine ZW ZM ?_;refine ZS rfl ?_;refine sN tK 4 ?_;refine sC Tryz.func86 (hf:=(hv)) (hk:=?_);refine sC Tryz.func109 (hf:=(hap)) (hk:=?_);refine sN tK 5 ?_;refine sE ?_;refine wKd ?_
   try simp only[go_sem,gA,gB,gC]
   refine wG tK ?_;refine wDF (hb:=w7) (hk:=?_);refine wG tK ?_;refine wCG [] 972 Tryz.func40 (hf:=(hso)) (hk:=?_);refine wG tK ?_;refine ZW ZM ?_;refine ZS rfl ?_;refine sN tK 4 ?_;refine sC Tryz.func67 (hf:=(how)) (hk:=?_);simp only[go_sem,ZA];refine sB tK ?_;refine sW tK ?_;refine sE ?_;refine fT (bK 1000 11 z6 k6) ?_;simp only[go_sem];refine dSq tK ?_ ?_
   ·simp[go_sem,rowsOf];refine ⟨by omega,λx hx y hy hr=>?_⟩;have:=List.all_eq_true.1 (List.all_eq_true.1 (fq 1000 s.past) (ZP x) (Zv.2 ⟨x,hx,rfl⟩)) y hy;simp only[WQ,List.contains_eq_mem,decide_eq_false_iff_not] at this;exact this hr
   simp only[go_sem];refine dS tK ?_;refine dS tK ?_;refine wKd ?_
   try simp only[go_sem,gA,gB,gC]
   refine wG tK ?_;refine wDT (hb:=(by simpa[bd] using hm)) (hk:=?_);refine wG tK ?_ w6 k0;refine ZZ 48 rfl (by rw[List.all_append,fV];rfl) ?_;simp only[go_sem];refine wT ?_;rw[Zt w7];rfl
  ·simp only[he,if_false] at hap ⊢;refine ZZ 5 rfl (rfl) ?_;simp only[go_sem];refine ZW ZM ?_;refine ZS rfl ?_;refine sN tK 4 ?_;refine sC Tryz.func86 (hf:=(hv)) (hk:=?_);refine sC Tryz.func109 (hf:=(hap)) (hk:=?_);refine sN tK 5 ?_;refine sE ?_;refine wKd ?_
   try simp only[go_sem,gA,gB,gC]
   refine wG tK ?_;refine wDT (hb:=QG) (hk:=?_);refine wG tK ?_;refine wT ?_;rfl
 ·have hm:bd a=false:=by unfold bd;revert h;cases (a.kind==1)<;>simp
  have hdo:doA s a=a:=by unfold doA;rw[if_neg (by rw[hm];simp)]
  rw[hdo] at hap how ⊢;simp only[hm,Bool.false_eq_true,if_false];generalize aO s.tree a=e at *;generalize aQ s.tree a ((s.past.length+1:Nat):Int)=L at *;refine wG tK ?_
  by_cases he:e=0
  ·subst he;simp only[if_true] at hap ⊢;refine ZZ 5 rfl (rfl) ?_;simp only[go_sem];refine ZW ZM ?_;refine ZS rfl ?_;refine sN tK 4 ?_;refine sC Tryz.func86 (hf:=(hv)) (hk:=?_);refine sC Tryz.func109 (hf:=(hap)) (hk:=?_);refine sN tK 5 ?_;refine sE ?_;refine wKd ?_
   try simp only[go_sem,gA,gB,gC]
   refine wG tK ?_;refine wDF (hb:=w7) (hk:=?_);refine wG tK ?_;refine wCG [] 972 Tryz.func40 (hf:=(hso)) (hk:=?_);refine wG tK ?_;refine ZW ZM ?_;refine ZS rfl ?_;refine sN tK 4 ?_;refine sC Tryz.func67 (hf:=(how)) (hk:=?_);simp only[go_sem,ZA];refine sB tK ?_;refine sW tK ?_;refine sE ?_;refine fT (bK 1000 11 z6 k6) ?_;simp only[go_sem];refine dSq tK ?_ ?_
   ·simp[go_sem,rowsOf];refine ⟨by omega,λx hx y hy hr=>?_⟩;have:=List.all_eq_true.1 (List.all_eq_true.1 (fq 1000 s.past) (ZP x) (Zv.2 ⟨x,hx,rfl⟩)) y hy;simp only[WQ,List.contains_eq_mem,decide_eq_false_iff_not] at this;exact this hr
   simp only[go_sem];refine dS tK ?_;refine dS tK ?_;refine wKd ?_
   try simp only[go_sem,gA,gB,gC]
   refine wG tK ?_;refine wDF (hb:=(by simpa[bd] using hm)) (hk:=?_);refine wG tK ?_;refine ZZ 48 rfl (by rw[List.all_append,fV];rfl) ?_;simp only[go_sem];refine wT ?_;rw[Zt w7];rfl
  ·simp only[he,if_false] at hap ⊢;refine ZZ 5 rfl (rfl) ?_;simp only[go_sem];refine ZW ZM ?_;refine ZS rfl ?_;refine sN tK 4 ?_;refine sC Tryz.func86 (hf:=(hv)) (hk:=?_);refine sC Tryz.func109 (hf:=(hap)) (hk:=?_);refine sN tK 5 ?_;refine sE ?_;refine wKd ?_
   try simp only[go_sem,gA,gB,gC]
   refine wG tK ?_;refine wDT (hb:=QG) (hk:=?_);refine wG tK ?_;refine wT ?_;rfl
end La
