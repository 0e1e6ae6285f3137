/- Texts of this claim, part 13: Make, Rise, Walk, Within, Apply, Rename, PBack, PRank, PGood, TSame, Ali2, Hof. No condition. -/
import Derived.Test.YtdcmhdkpfllnlaaGreatDoorYC12
set_option maxRecDepth 10000
set_option maxHeartbeats 4000000
set_option linter.unusedSimpArgs false
set_option linter.unusedVariables false
namespace La
open Go Go.Eng Go.Proofs
def bC (l:List Node) (a:Act):Int:=if eM l a.dir=0 then (match av (ar l a.dir) a.name with
 | none=>6
 | some f=>if f=a.fid then 0 else 13) else eM l a.dir
theorem yE (l:List Node) (a:Act) (v:Int) (hl:Small l) (hname:a.name.length≤100000000) (G Y N:Nat->Nat):af Tryz.prog 144 [.ptr 15 9 0 0] (dH (ZD l a v) G Y N)
  (λr H=>r=.tup [.agg (ZN (ar l a.dir)),.int .i64 (bC l a)]/\∀i b,aa (dH (ZD l a v) G Y N) i=some b->aa H i=some b):=by
 have hsm:(ar l a.dir).Small:=hl.find a.dir;unfold bC;unfold dH;refine ZF tK (Tryz.func144) rfl (λC=>?_);simp only[Tryz.ntmps144,Tryz.results144,go_sem];refine wGq tK ?_ ?_ k9
 ·simp[ZD]
 refine wP [15] Tryz.func140 (hf:=(Ac l a v a.dir hl)) (hk:=?_);generalize hgn:ar l a.dir=n at hsm;generalize hge:eM l a.dir=e;refine wGq tK ?_ ?_ w6
 ·simp[ZN]
 refine wD (λh=>?_) (λh=>?_)
 ·have he:e≠0:=by simpa using h
  refine wGq tK ?_ ?_ w6
  ·simp[ZN]
  refine wU ?_ (cV ?_ ?_)
  ·simp[ZN,he]
  ·simp[go_sem,ZD]
  ·simp[go_sem]
 have he:e=0:=by simpa using h
 subst he;refine wG tK ?_;refine ZW ZM ?_;refine ZS rfl ?_;refine sNq tK 6 ?_ ?_ z6 z6 QZ
 ·simp[ZN,ZD]
 refine sC Tryz.func58 (hf:=(kb n a.name hsm)) (hk:=?_);cases hen:av n a.name with
 | none=>
  simp only[eV];refine sG tK ?_;refine sE ?_;refine wKd ?_
  try simp only[go_sem,gA,gB,gC]
  refine wG tK ?_;refine wD (λh=>?_) (λh=>?_)
  ·refine wGq tK ?_ ?_ w6
   ·simp[ZN]
   refine wU ?_ (cV ?_ ?_)
   ·simp[ZN]
   ·simp[go_sem,ZD]
   ·simp[go_sem]
  ·cases h
 | some f=>
  simp only[eV];refine sG tK ?_;refine sE ?_;refine wKd ?_
  try simp only[go_sem,gA,gB,gC]
  refine wG tK ?_;refine wD (λh=>?_) (λh=>?_)
  ·cases h
  refine wGq tK ?_ ?_ k9
  ·simp[ZD]
  refine wD (λh=>?_) (λh=>?_)
  ·have hf:¬f=a.fid:=by simpa using h
   refine wGq tK ?_ ?_ w6
   ·simp[ZN]
   refine wU ?_ (cV ?_ ?_)
   ·simp[ZN,hf]
   ·simp[go_sem,ZD]
   ·simp[go_sem]
  ·have hf:f=a.fid:=by simpa using h
   refine wGq tK ?_ ?_ w6
   ·simp[ZN]
   refine wU ?_ (cV ?_ ?_)
   ·simp[ZN,hf]
   ·simp[go_sem,ZD]
   ·simp[go_sem]
def cQ (l:List Node) (a:Act):Int:=if eM l a.dir=0 then (if cf (ar l a.dir) a.name=0 then (if (bg l a.fid||a.fid==0)=true then 13 else if l.length≥24 then 5 else 0) else cf (ar l a.dir) a.name) else eM l a.dir
def dP (a:Act) (v:Int):Node:=⟨a.fid,a.kind==2,[],[],v⟩
def dQ (l:List Node) (a:Act) (v:Int):List Node:=if cQ l a=0 then aD (aD l { aA (ar l a.dir) a.name a.fid with version:=v }) (dP a v) else l
theorem G3 (l:List Node) (a:Act) (v:Int) (hl:Small l) (hlen:l.length≤99999990) (hent:∀n,n∈l->n.entries.length≤99999990) (hname:a.name.length≤100000000) (G Y N:Nat->Nat):af Tryz.prog 101 [.ptr 15 9 0 0] (dH (ZD l a v) G Y N)
  (λr H=>r=.int .i64 (cQ l a)/\∀i b,aa (dH (ZD (dQ l a v) a v) G Y N) i=some b->aa H i=some b):=by
 have hsm:(ar l a.dir).Small:=hl.find a.dir;have hen:(ar l a.dir).entries.length≤99999999:=by
  unfold ar;cases e:ak l a.dir with
  | none=>simp[al]
  | some n=>have:=hent n (pJ e);simp only[Option.getD_some];omega
 have hmE:dQ l a v=if cQ l a=0 then aD (aD l { aA (ar l a.dir) a.name a.fid with version:=v }) (dP a v) else l:=rfl;rw[hmE];unfold cQ;unfold dH;refine ZF tK (Tryz.func101) rfl (λC=>?_);simp only[Tryz.ntmps101,Tryz.results101,go_sem];refine wGq tK ?_ ?_ k9
 ·simp[ZD]
 refine wP [15] Tryz.func140 (hf:=(Ac l a v a.dir hl)) (hk:=?_);have hee:=xJ (ar l a.dir) a.name a.fid hsm;have hes:=oB hsm a.name a.fid hen;have hsv:({ aA (ar l a.dir) a.name a.fid with version:=v }:Node).Small:=⟨hes.data,hes.entries⟩;have hl1:=nU hl hsv z8;have hp1:=pY l a v (aA (ar l a.dir) a.name a.fid) hl hes;have hp2:=pY (aD l { aA (ar l a.dir) a.name a.fid with version:=v }) a v (dP a 0) hl1 ⟨by simp[dP],by simp[dP]⟩;have hmv:({ dP a 0 with version:=v }:Node)=dP a v:=rfl;rw[hmv] at hp2;generalize aD (aD l { aA (ar l a.dir) a.name a.fid with version:=v }) (dP a v)=l2 at hp2;generalize aD l { aA (ar l a.dir) a.name a.fid with version:=v }=l1 at hp1 hp2 hl1;have hp3:∀(G Y N:Nat->Nat),af Tryz.prog 142 [.ptr 15 9 0 0,.agg [.int .i64 a.fid,.bool (a.kind==2),.nils,.nils,.int .i64 0]] (dH (ZD l1 a v) G Y N) (λr H=>r=.tup []/\∀i b,aa (dH (ZD l2 a v) G Y N) i=some b->aa H i=some b):=λG Y N=>af.nrm rfl (hp2 G Y N)
 generalize aA (ar l a.dir) a.name a.fid=en at hee hp1;generalize hgn:ar l a.dir=n at hsm hee;generalize hge:eM l a.dir=e;refine wGq tK ?_ ?_ w6
 ·simp[ZN]
 refine wD (λh=>?_) (λh=>?_)
 ·have he:e≠0:=by simpa using h
  refine wG tK ?_;refine wU ?_ (cV ?_ ?_)
  ·simp[he]
  ·simp[go_sem,ZD,he]
  ·simp[go_sem]
 have he:e=0:=by simpa using h
 subst he;simp only[if_true];refine wG tK ?_;refine ZW ZM ?_;refine ZS rfl ?_;refine sNq tK 6 ?_ ?_ z6 z6 QZ
 ·simp[ZN,ZD]
 refine sC Tryz.func141 (hf:=(B5 n a.name hsm hname)) (hk:=?_);generalize hre:cf n a.name=e2;refine sG tK ?_;refine sE ?_;refine wKd ?_
 try simp only[go_sem,gA,gB,gC]
 refine wG tK ?_;refine wD (λh=>?_) (λh=>?_)
 ·have he:e2≠0:=by simpa using h
  refine wG tK ?_;refine wU ?_ (cV ?_ ?_)
  ·simp[he]
  ·simp[go_sem,ZD,he]
  ·simp[go_sem]
 have he:e2=0:=by simpa using h
 subst he;simp only[if_true];refine wG tK ?_;refine ZW ZM ?_;refine ZS rfl ?_;refine sNq tK 9 ?_ ?_ z6 z6 k9
 ·simp[ZD]
 refine sC Tryz.func66 (hf:=(eI l a.fid hl)) (hk:=?_);simp only[go_sem,gy];generalize (ak l a.fid).getD al=x;generalize bg l a.fid=z;refine sG tK ?_;refine sW tK ?_;simp only[go_sem,ZN];refine sT tK ?_;refine sE ?_;refine dS tK ?_;refine wKd ?_
 try simp only[go_sem,gA,gB,gC]
 refine wR ?_;refine wN tK 1 ?_;refine aq 44 z6 (λc44 h44=>?_);simp only[go_sem];subst h44;cases hz:(z||a.fid==0) with
 | true=>
  refine wNq tK 8 ?_ ?_ z6 z6 k9
  ·cases z<;>simp[ZD]
  have hb:(bif z then true else a.fid==0)=true:=by rw[←hz];cases z<;>rfl
  simp only[go_sem,hb];refine wG tK ?_;refine wD (λh=>?_) (λh=>?_)
  ·refine wG tK ?_;refine wU ?_ (cV ?_ ?_)
   ·simp
   ·simp[go_sem,ZD]
   ·simp[go_sem]
  ·cases h
 | false=>
  refine wNq tK 8 ?_ ?_ z6 z6 k9
  ·cases z<;>simp[ZD]
  have hb:(bif z then true else a.fid==0)=false:=by rw[←hz];cases z<;>rfl
  simp only[go_sem,hb];refine wG tK ?_;refine wD (λh=>?_) (λh=>?_)
  ·cases h
  refine wGq tK ?_ ?_ k9
  ·simp[ZD]
  refine wD (λh=>?_) (λh=>?_)
  ·have h24:l.length≥24:=by simp at h;omega
   refine wG tK ?_;refine wU ?_ (cV ?_ ?_)
   ·simp[h24]
   ·simp[go_sem,ZD,h24]
   ·simp[go_sem]
  have h24:¬l.length≥24:=by simp at h;omega
  simp only[h24,if_false,if_true];refine wG tK ?_;refine ZW ZM ?_;refine ZS rfl ?_;refine sNq tK 12 ?_ ?_ z6 z6 QZ
  ·simp[ZN,ZD]
  refine sC Tryz.func143 (hf:=(hee)) (hk:=?_);refine sE ?_;refine eu rfl w4 rfl (wTP [15] Tryz.func142 (hf:=(hp1))) rfl ?_;refine wKd ?_
  try simp only[go_sem,gA,gB,gC]
  refine wG tK ?_;refine ZW ZM ?_;refine ZS rfl ?_;refine sNq tK 12 ?_ ?_ z6 z6 QZ
  ·simp[ZN,ZD]
  refine sB tK ?_;refine sE ?_;refine eu rfl w4 rfl (wTP [15] Tryz.func142 (hf:=(hp3))) rfl ?_;refine wKd ?_
  try simp only[go_sem,gA,gB,gC]
  refine wG tK ?_;refine wU ?_ (cV ?_ ?_)
  ·simp
  ·simp[go_sem]
  ·simp[go_sem]
def cN (l:List Node) (a:Act):Int:=if bC l a=0 then (match ak l a.fid with
 | none=>12
 | some x=>if x.entries.length>0 then 10 else 0) else bC l a
def cO (l:List Node) (a:Act) (v:Int):List Node:=if cN l a=0 then eQ (aD l { aC (ar l a.dir) a.name with version:=v }) a.fid else l
theorem C1 (l:List Node) (a:Act) (v:Int) (hl:Small l) (hlen:l.length≤99999990) (hname:a.name.length≤100000000) (G Y N:Nat->Nat):af Tryz.prog 103 [.ptr 15 9 0 0] (dH (ZD l a v) G Y N)
  (λr H=>r=.int .i64 (cN l a)/\∀i b,aa (dH (ZD (cO l a v) a v) G Y N) i=some b->aa H i=some b):=by
 have hsm:(ar l a.dir).Small:=hl.find a.dir;have hmE:cO l a v=if cN l a=0 then eQ (aD l { aC (ar l a.dir) a.name with version:=v }) a.fid else l:=rfl;rw[hmE];unfold cN;unfold dH;refine ZF tK (Tryz.func103) rfl (λC=>?_);simp only[Tryz.ntmps103,Tryz.results103,go_sem];refine wG tK ?_;refine wP [15] Tryz.func144 (hf:=(yE l a v hl hname)) (hk:=?_);have hee:=yx (ar l a.dir) a.name hsm;have hes:=oM hsm a.name;have hsv:({ aC (ar l a.dir) a.name with version:=v }:Node).Small:=⟨hes.data,hes.entries⟩;have hl1:=nU hl hsv z8;have hp1:=pY l a v (aC (ar l a.dir) a.name) hl hes;have hp2:=GF (aD l { aC (ar l a.dir) a.name with version:=v }) a.fid hl1;generalize eQ (aD l { aC (ar l a.dir) a.name with version:=v }) a.fid=l2 at hp2;generalize aD l { aC (ar l a.dir) a.name with version:=v }=l1 at hp1 hp2 hl1;generalize aC (ar l a.dir) a.name=en at hee hp1;generalize hgn:ar l a.dir=n at hsm hee;generalize hge:bC l a=e;refine wGq tK ?_ ?_ w6
 ·simp[ZN]
 refine wD (λh=>?_) (λh=>?_)
 ·have he:e≠0:=by simpa using h
  refine wG tK ?_;refine wU ?_ (cV ?_ ?_)
  ·simp[he]
  ·simp[go_sem,ZD,he]
  ·simp[go_sem]
 have he:e=0:=by simpa using h
 subst he;simp only[if_true];refine wG tK ?_;refine ZW ZM ?_;refine ZS rfl ?_;refine sNq tK 9 ?_ ?_ z6 z6 k9
 ·simp[ZD]
 refine sC Tryz.func66 (hf:=(eI l a.fid hl)) (hk:=?_);simp only[go_sem,gy];rw[cL];cases hfd:ak l a.fid with
 | none=>
  simp only[Option.getD_none,Option.isSome_none];refine sG tK ?_;refine sW tK ?_;simp only[go_sem,ZN,al];refine sT tK ?_;refine sE ?_;refine dS tK ?_;refine wKd ?_
  try simp only[go_sem,gA,gB,gC]
  refine wG tK ?_;refine wD (λh=>?_) (λh=>?_)
  ·refine wG tK ?_;refine wU ?_ (cV ?_ ?_)
   ·simp
   ·simp[go_sem,ZD]
   ·simp[go_sem]
  ·cases h
 | some x=>
  simp only[Option.getD_some,Option.isSome_some];refine sG tK ?_;refine sW tK ?_;simp only[go_sem,ZN];refine sT tK ?_;refine sE ?_;refine dS tK ?_;refine wKd ?_
  try simp only[go_sem,gA,gB,gC]
  refine wG tK ?_;refine wD (λh=>?_) (λh=>?_)
  ·cases h
  refine wG tK ?_;refine wD (λh=>?_) (λh=>?_)
  ·have h0:x.entries.length>0:=by have h2:=of_decide_eq_true h;omega
   refine wG tK ?_;refine wU ?_ (cV ?_ ?_)
   ·simp[h0]
   ·simp[go_sem,ZD,h0]
   ·simp[go_sem]
  have h0:¬x.entries.length>0:=by have h2:=of_decide_eq_false h;omega
  simp only[h0,if_false,if_true];refine wG tK ?_;refine ZW ZM ?_;refine ZS rfl ?_;refine sNq tK 7 ?_ ?_ z6 z6 QZ
  ·simp[ZN,ZD]
  refine sC Tryz.func145 (hf:=(hee)) (hk:=?_);refine sE ?_;refine eu rfl w4 rfl (wTP [15] Tryz.func142 (hf:=(hp1))) rfl ?_;refine wKd ?_
  try simp only[go_sem,gA,gB,gC]
  refine wG tK ?_;refine ZW ZM ?_;refine ZS rfl ?_;refine sNq tK 10 ?_ ?_ z6 z6 k9
  ·simp[ZD]
  refine sC Tryz.func146 (hf:=(hp2)) (hk:=?_);refine sNq tK 2 ?_ ?_ z6 z6 k9
  ·simp[ZD]
  refine sE ?_;refine dSq tK ?_ ?_
  ·simp[go_sem,ZD]
  refine wKd ?_
  try simp only[go_sem,gA,gB,gC]
  refine wG tK ?_;refine wU ?_ (cV ?_ ?_)
  ·simp
  ·simp[go_sem,ZD]
  ·simp[go_sem]
def df (l:List Node) (a:Act):Int:=match ak l a.fid with
 | none=>12
 | some n=>if n.dir then 9 else if a.data.length>20 then 4 else 0
def dg (l:List Node) (a:Act) (v:Int):List Node:=if df l a=0 then aD l { ar l a.fid with data:=a.data,version:=v } else l
theorem Fs (l:List Node) (a:Act) (v:Int) (hl:Small l) (ha:a.data.length≤100000000) (G Y N:Nat->Nat):af Tryz.prog 102 [.ptr 15 9 0 0] (dH (ZD l a v) G Y N)
  (λr H=>r=.int .i64 (df l a)/\∀i b,aa (dH (ZD (dg l a v) a v) G Y N) i=some b->aa H i=some b):=by
 have hsm:(ar l a.fid).Small:=hl.find a.fid;have hmE:dg l a v=if df l a=0 then aD l { ar l a.fid with data:=a.data,version:=v } else l:=rfl;rw[hmE];have hp1:=pY l a v { ar l a.fid with data:=a.data } hl ⟨ha,hsm.entries⟩;have hlet:({ ({ ar l a.fid with data:=a.data }:Node) with version:=v }:Node)={ ar l a.fid with data:=a.data,version:=v }:=rfl;rw[hlet] at hp1;generalize aD l { ar l a.fid with data:=a.data,version:=v }=l2 at hp1;unfold df;unfold ar at hp1;unfold dH;refine ZF tK (Tryz.func102) rfl (λC=>?_);simp only[Tryz.ntmps102,Tryz.results102,go_sem];refine wG tK ?_;refine ZW ZM ?_;refine ZS rfl ?_;refine sNq tK 9 ?_ ?_ z6 z6 k9
 ·simp[ZD]
 refine sC Tryz.func66 (hf:=(eI l a.fid hl)) (hk:=?_);simp only[go_sem,gy];rw[cL];cases hfd:ak l a.fid with
 | none=>
  simp only[Option.getD_none,Option.isSome_none];refine sG tK ?_;refine sW tK ?_;simp only[go_sem,ZN,al];refine sT tK ?_;refine sE ?_;refine dS tK ?_;refine wKd ?_
  try simp only[go_sem,gA,gB,gC]
  refine wG tK ?_;refine wD (λh=>?_) (λh=>?_)
  ·refine wG tK ?_;refine wU ?_ (cV ?_ ?_)
   ·simp
   ·simp[go_sem,ZD]
   ·simp[go_sem]
  ·cases h
 | some x=>
  rw[hfd] at hp1;simp only[Option.getD_some,Option.isSome_some] at hp1 ⊢;refine sG tK ?_;refine sW tK ?_;simp only[go_sem,ZN];refine sT tK ?_;refine sE ?_;refine dS tK ?_;refine wKd ?_
  try simp only[go_sem,gA,gB,gC]
  refine wG tK ?_;refine wD (λh=>?_) (λh=>?_)
  ·cases h
  refine wG tK ?_;refine wD (λh=>?_) (λh=>?_)
  ·have h0:x.dir=true:=h;refine wG tK ?_;refine wU ?_ (cV ?_ ?_)
   ·simp[h0]
   ·simp[go_sem,ZD,h0]
   ·simp[go_sem]
  have h0:x.dir=false:=h;refine wGq tK ?_ ?_ k9
  ·simp[ZD]
  refine wD (λh=>?_) (λh=>?_)
  ·have h1:a.data.length>20:=by simp at h;omega
   refine wG tK ?_;refine wU ?_ (cV ?_ ?_)
   ·simp[h0,h1]
   ·simp[go_sem,ZD,h0,h1]
   ·simp[go_sem]
  have h1:¬a.data.length>20:=by simp at h;omega
  have hs0:(if x.dir=true then (9:Int) else if a.data.length>20 then 4 else 0)=0:=by simp[h0,h1]
  simp only[hs0,if_true];refine wGq tK ?_ ?_ k9
  ·simp[ZD]
  refine wP [15] Tryz.func142 (hf:=(hp1)) (hk:=?_);refine wG tK ?_;refine wU ?_ (cV ?_ ?_)
  ·simp
  ·simp[go_sem,ZD]
  ·simp[go_sem]
def eL (v:Bool):List Node->List Node->Bool
 | [],[]=>true
 | x::a,y::b=>cg v x y&&eL v a b
 | _,_=>false
theorem fS (v:Bool):∀(a b:List Node),eL v a b=true↔a.length=b.length/\∀j,j<a.length->cg v (a.getD j default) (b.getD j default)=true
 | [],[]=>by simp[eL]
 | [],_::_=>by simp[eL]
 | _::_,[]=>by simp[eL]
 | x::a,y::b=>by
  rw[eL,Bool.and_eq_true,fS v a b];constructor
  ·rintro ⟨h1,h2,h3⟩;refine ⟨by simp[h2],λj hj=>?_⟩;cases j with
   | zero=>simpa using h1
   | succ j=>simpa using h3 j QI
  ·rintro ⟨h2,h3⟩;refine ⟨by simpa using h3 0 y8,by simpa using h2,λj hj=>by simpa using h3 (j+1) QI⟩
theorem Hu (a b:List Node) (v:Bool) (ha:Small a) (hb:Small b):af Tryz.prog 43 [.sl (a.map ZN),.sl (b.map ZN),.bool v] [] (λr _=>r=.bool (eL v a b)):=by
 have hla:=ha.len;have hlb:=hb.len;refine ZF tK (Tryz.func43) rfl (λC=>?_);simp only[Tryz.ntmps43,Tryz.results43,go_sem];refine wG tK ?_;refine wD (λh=>?_) (λh=>?_)
 ·have hne:eL v a b=false:=by
   cases e:eL v a b with
   | false=>rfl
   | true=>have:=((fS v a b).1 e).1;simp[this] at h
  refine wG tK ?_;refine wT ?_;simp[hne]
 have hl:a.length=b.length:=by simp at h;omega
 refine wG tK ?_;refine ZL (λi:Nat=>i≤a.length/\∀j,j<i->cg v (a.getD j default) (b.getD j default)=true) (λi=>a.length-i) (λi=>(7,.any)::(15,.int .i64 i)::u0 16 14 []) (λ_=>[]) 0 ⟨by omega,by omega⟩ ?_ λi hi=>?_
 ·simp only[go_sem];exact ZU w3 w3 w3
 obtain ⟨hi,hs⟩:=hi;simp only[go_sem];refine wG tK ?_;refine wD (λh=>?_) (λh=>?_)
 ·have hlt:i<a.length:=by simp at h;omega
  have hltb:i<b.length:=by omega
  have hga:(a.map ZN).getD i []=ZN (a.getD i default):=Fam.getD hlt;have hgb:(b.map ZN).getD i []=ZN (b.getD i default):=Fam.getD hltb;have hsm:=jG _ _ v (ha.each _ (YG hlt)) (hb.each _ (YG hltb));have hno:cg v (a.getD i default) (b.getD i default)=false->eL v a b=false:=λh0=>by
   cases e:eL v a b with
   | false=>rfl
   | true=>rw[((fS v a b).1 e).2 i hlt] at h0;cases h0
  have hyes:cg v (a.getD i default) (b.getD i default)=true->∀j,j<i+1->cg v (a.getD j default) (b.getD j default)=true:=λh0 j hj=>by
   rcases Nat.lt_succ_iff_lt_or_eq.1 hj with h1 | rfl
   ·exact hs j h1
   ·exact h0
  clear hs;generalize a.getD i default=x at hga hsm hno hyes;generalize b.getD i default=y at hgb hsm hno hyes;refine wG tK ?_;refine ZW ZM ?_;refine ZS rfl ?_;refine sNq tK 9 ?_ ?_ z6 z6 WU
  ·simp[hga,hgb,ZN,hlt,hltb]
  refine sC Tryz.func52 (hf:=(hsm)) (hk:=?_);refine sG tK ?_;refine sE ?_;refine wKd ?_;refine wD (λh=>?_) (λh=>?_)
  ·have h0:cg v x y=false:=by simpa using h
   have:=hno h0;refine wG tK ?_;refine wT ?_;simp[this]
  ·have h0:cg v x y=true:=by simpa using h
   have hw:=wi1 (i:=i) z8;refine wG tK ?_ w5 k7;refine ZB ⟨i+1,⟨by omega,hyes h0⟩,by omega,ZU ?_ ?_ ?_⟩
   ·simp[go_sem]
   ·simp[go_sem]
   ·simp[go_sem]
 ·have e:i=a.length:=by simp at h;omega
  subst e;have hab:eL v a b=true:=(fS v a b).2 ⟨hl,hs⟩;refine wG tK ?_;refine wT ?_;simp[hab]
def bp (l:List Node) (fid:Int):Nat->Int->Option Bool
 | 0,_=>none
 | f+1,k=>if fid=k then some true else match ak l k with
  | none=>some false
  | some n=>if n.entries.all (λe=>decide (e.fid=k)||(bp l fid f e.fid).isSome) then some (n.entries.any λe=>!(decide (e.fid=k))&&(bp l fid f e.fid).getD false) else none
theorem zI (l:List Node) (fid k:Int) (e:Entry) (b:Bool) (h:e.fid≠k->af Tryz.prog 147 [.sl (l.map ZN),.int .i64 fid,.int .i64 e.fid] [] (λr _=>r=.bool b)) :
  af Tryz.prog 184 [.agg (ZE e),.rp [.int .i64 k] 0,.rp [.sl (l.map ZN)] 0,.rp [.int .i64 fid] 0] [] (λr _=>r=.bool (!(decide (e.fid=k))&&b)):=by
 unfold ZE;refine ZF tK (Tryz.func184) rfl (λC=>?_);simp only[Tryz.ntmps184,Tryz.results184,go_sem];refine wR ?_;refine wN tK 2 ?_;refine wR ?_;refine ZZ 4 rfl (rfl) ?_;simp only[go_sem];refine wN tK 4 ?_;refine aq 9 z6 (λc9 h9=>?_);simp only[go_sem];cases c9 with
 | true=>
  have hne:e.fid≠k:=by simpa using h9
  refine wG tK ?_;refine wCC Tryz.func147 (hf:=λhb=>(h hne)) (hk:=?_);refine wG tK ?_;refine wT ?_;simp[hne]
 | false=>
  have hne:e.fid=k:=by simpa using h9
  refine wG tK ?_;refine dT (.bool false) rfl ?_;simp only[go_sem];refine wG tK ?_;refine wT ?_;simp[hne]
theorem zJ (l:List Node) (hl:Small l) (fid:Int) (f:Nat) (ih:∀(k:Int) (b:Bool),bp l fid f k=some b->af Tryz.prog 147 [.sl (l.map ZN),.int .i64 fid,.int .i64 k] [] (λr _=>r=.bool b)) (k:Int) (b:Bool) (hb:bp l fid (f+1) k=some b) :
  af Tryz.prog 147 [.sl (l.map ZN),.int .i64 fid,.int .i64 k] [] (λr _=>r=.bool b):=by
 unfold bp at hb;refine ZF tK (Tryz.func147) rfl (λC=>?_);simp only[Tryz.ntmps147,Tryz.results147,go_sem];refine wG tK ?_;refine wD (λh=>?_) (λh=>?_)
 ·have e:fid=k:=by simpa using h
  rw[if_pos e] at hb;refine wG tK ?_;refine wT ?_;simpa using hb
 have e:¬fid=k:=by simpa using h
 rw[if_neg e] at hb;refine ZZ 3 rfl (rfl) ?_;refine ZZ 4 rfl (rfl) ?_;refine ZZ 5 rfl (rfl) ?_;simp only[go_sem];refine wG tK ?_;refine wC Tryz.func66 (hf:=(eI l k hl)) (hk:=?_);have hsm:=hl.find k;simp only[go_sem,gy];rw[cL];generalize hfd:ak l k=o at hb hsm;cases o with
 | none=>
  simp only[Option.getD_none,Option.isSome_none] at hb ⊢;refine wGq tK ?_ ?_ QY
  ·simp[ZN]
  refine wD (λh=>?_) (λh=>?_)
  ·refine wG tK ?_;refine wT ?_;simpa using hb
  ·cases h
 | some n=>
  simp only[Option.getD_some,Option.isSome_some] at hb hsm ⊢;split at hb
  ·rename_i hall;injection hb with hb
   have hcl:=nI n.entries hsm.entries (f:=184) (caps:=[.rp [.int .i64 k] 0,.rp [.sl (l.map ZN)] 0,.rp [.int .i64 fid] 0]) (p:=λe=>!(decide (e.fid=k))&&(bp l fid f e.fid).getD false) ⟨_,Go.Proofs.Tryz.func184,by kernel_rfl,rfl⟩ rfl (λx hx=>zI l fid k x ((bp l fid f x.fid).getD false) (λhne=>by
    have h1:=List.all_eq_true.1 hall x hx;simp only[hne,decide_false,Yw] at h1;cases h2:bp l fid f x.fid with
    | none=>rw[h2] at h1;cases h1
    | some c=>exact ih x.fid c h2))
   refine wGq tK ?_ ?_ w6
   ·simp[ZN]
   refine wD (λh=>?_) (λh=>?_)
   ·cases h
   refine wGq tK ?_ ?_ w6
   ·simp[ZN]
   refine wC Tryz.func183 (hf:=(hcl)) (hk:=?_);refine wG tK ?_;refine wT ?_;simpa using hb
  ·cases hb
theorem vB (l:List Node) (hl:Small l) (fid:Int):∀(f:Nat) (k:Int) (b:Bool),bp l fid f k=some b->af Tryz.prog 147 [.sl (l.map ZN),.int .i64 fid,.int .i64 k] [] (λr _=>r=.bool b)
 | 0,_,_,h=>by cases h
 | f+1,k,b,h=>zJ l hl fid f (vB l hl fid f) k b h
theorem Dd (a b:Node) (ha:a.Small) (hb:b.Small):af Tryz.prog 112 [.agg (ZN a),.agg (ZN b)] [] (λr _=>r=.bool (cg false a b)):=by
 have hla:=ha.entries;have hlb:=hb.entries;unfold ZN;refine ZF tK (Tryz.func112) rfl (λC=>?_);simp only[Tryz.ntmps112,Tryz.results112,go_sem];refine wR ?_;refine wN tK 3 ?_;refine wR ?_;refine ZZ 2 rfl (rfl) ?_;refine ZZ 3 rfl (rfl) ?_;simp only[go_sem];refine wN tK 5 ?_;refine aq 9 z6 (λc9 h9=>?_);simp only[go_sem];refine wN tK 7 ?_;refine aq 16 z6 (λc16 h16=>?_);simp only[go_sem];refine wN tK 5 ?_;refine wCC Tryz.func113 (hf:=λhb=>(tW a.data b.data)) (hk:=?_);refine wN tK 1 ?_;refine aq 23 z6 (λc23 h23=>?_);simp only[go_sem];refine wN tK 5 ?_;refine wCC Tryz.func114 (hf:=λhb=>(qY a.entries b.entries hla hlb)) (hk:=?_);refine wG tK ?_;refine wT ?_;subst h23 h16 h9;unfold cg;cases (a.fid==b.fid)<;>cases (a.dir==b.dir)<;>cases (a.data==b.data)<;>cases decide (a.entries=b.entries)<;>rfl
end La
namespace La
open Go Go.Eng Go.Proofs
open Classical in
noncomputable def jN (l:List Node) (fid k:Int):Bool:=decide (∃f,bp l fid f k=some true)
def toN (l:List Node) (a:Act):Node:=if a.to=a.dir then aC (ar l a.dir) a.name else ar l a.to
noncomputable def dp (l:List Node) (a:Act):Int:=if bC l a=0 then (if eM l a.to=0 then (if cf (toN l a) a.toName=0 then (if bg l a.fid=true then (if jN l a.to a.fid=true then 11 else 0) else 12) else cf (toN l a) a.toName) else eM l a.to) else bC l a
noncomputable def db (l:List Node) (a:Act) (v:Int):List Node:=if dp l a=0 then aD (if a.to=a.dir then l else aD l { aC (ar l a.dir) a.name with version:=v }) { aA (toN l a) a.toName a.fid with version:=v } else l
noncomputable def aH (l:List Node) (a:Act):Int:=if a.kind=1 then cQ l a else if a.kind=2 then cQ l a else if a.kind=3 then df l a else if a.kind=4 then cN l a else if a.kind=5 then dp l a else 1
noncomputable def aN (l:List Node) (a:Act) (v:Int):List Node:=if a.kind=1 then dQ l a v else if a.kind=2 then dQ l a v else if a.kind=3 then dg l a v else if a.kind=4 then cO l a v else if a.kind=5 then db l a v else l
noncomputable def pz (l:List Node) (a:Act) (v:Int):AV:=if aH l a=0 then .tup [.sl ((aN l a v).map ZN),.int .i64 0] else .tup [.sl [],.int .i64 (aH l a)]
structure FitA (l:List Node) (a:Act):Prop where
 small:Small l
 len:l.length≤99999990
 ent:∀n,n∈l->n.entries.length≤99999990
 name:a.name.length≤100000000
 toName:a.toName.length≤100000000
 data:a.data.length≤100000000
theorem Ch (l:List Node) (a:Act) (v:Int) (hf:FitA l a)
  (hren:a.kind=5->∀(G Y N:Nat->Nat),af Tryz.prog 104 [.ptr 15 9 0 0] (dH (ZD l a v) G Y N) (λr H=>r=.int .i64 (dp l a)/\∀i b,aa (dH (ZD (db l a v) a v) G Y N) i=some b->aa H i=some b)) :
  af Tryz.prog 64 [.sl (l.map ZN),.agg (ZA a),.int .i64 v] [] (λr _=>r=if aH l a=0 then .tup [.sl ((aN l a v).map ZN),.int .i64 0] else .tup [.nils,.int .i64 (aH l a)]):=by
 have hl:=hf.small;have c1:=G3 l a v hl hf.len hf.ent hf.name;have c3:=Fs l a v hl hf.data;have c4:=C1 l a v hl hf.len hf.name;generalize hE:aH l a=e;generalize hL:aN l a v=L;refine ZF tK (Tryz.func64) rfl (λC=>?_);simp only[Tryz.ntmps64,Tryz.results64,go_sem];refine wGq tK ?_ ?_ Qg
 ·simp
 refine ZZ 4 rfl (rfl) ?_;simp only[go_sem];refine ZW ZM ?_;refine ZS rfl ?_;refine sG tK ?_;refine sC Tryz.func54 (hf:=(lg l hl)) (hk:=?_);refine sN tK 2 ?_ z6 z6 Qg (by simp[go_sem,ZA]);refine sB tK ?_;refine sW tK ?_;refine sE ?_;refine dS tK ?_;refine wKd ?_
 try simp only[go_sem,gA,gB,gC]
 refine wG tK ?_;refine wD (λh=>?_) (λh=>?_)
 ·have hk:a.kind=1:=by simpa using h
  have q1:cQ l a=e:=by rw[←hE];simp[aH,hk]
  have q2:dQ l a v=L:=by rw[←hL];simp[aN,hk]
  rw[q1,q2] at c1;refine wG tK ?_;refine wDT (hb:=QD) (hk:=?_);refine wG tK ?_;refine wP [15] Tryz.func101 (hf:=(c1)) (hk:=?_);refine wG tK ?_;refine wD (λh=>?_) (λh=>?_)
  ·have he:e≠0:=by simpa using h
   refine wG tK ?_;refine wT ?_;simp[he]
  ·have he:e=0:=by simpa using h
   refine wGq tK ?_ ?_ k9
   ·simp[ZD]
   refine wT ?_;simp[he]
 have hk1:¬a.kind=1:=by simpa using h
 refine wG tK ?_
 by_cases hk2:a.kind=2
 ·have hk:a.kind=2:=hk2;have q1:cQ l a=e:=by rw[←hE];simp[aH,hk]
  have q2:dQ l a v=L:=by rw[←hL];simp[aN,hk]
  rw[q1,q2] at c1;refine wDT (hb:=QD) (hk:=?_);refine wG tK ?_;refine wP [15] Tryz.func101 (hf:=(c1)) (hk:=?_);refine wG tK ?_;refine wD (λh=>?_) (λh=>?_)
  ·have he:e≠0:=by simpa using h
   refine wG tK ?_;refine wT ?_;simp[he]
  ·have he:e=0:=by simpa using h
   refine wGq tK ?_ ?_ k9
   ·simp[ZD]
   refine wT ?_;simp[he]
 refine wDF (hb:=(by simpa using hk2)) (hk:=?_);refine wG tK ?_;refine wD (λh=>?_) (λh=>?_)
 ·have hk:a.kind=3:=by simpa using h
  have q1:df l a=e:=by rw[←hE];simp[aH,hk]
  have q2:dg l a v=L:=by rw[←hL];simp[aN,hk]
  rw[q1,q2] at c3;refine wG tK ?_;refine wP [15] Tryz.func102 (hf:=(c3)) (hk:=?_);refine wG tK ?_;refine wD (λh=>?_) (λh=>?_)
  ·have he:e≠0:=by simpa using h
   refine wG tK ?_;refine wT ?_;simp[he]
  ·have he:e=0:=by simpa using h
   refine wGq tK ?_ ?_ k9
   ·simp[ZD]
   refine wT ?_;simp[he]
 have hk3:¬a.kind=3:=by simpa using h
 refine wG tK ?_;refine wD (λh=>?_) (λh=>?_)
 ·have hk:a.kind=4:=by simpa using h
  have q1:cN l a=e:=by rw[←hE];simp[aH,hk]
  have q2:cO l a v=L:=by rw[←hL];simp[aN,hk]
  rw[q1,q2] at c4;refine wG tK ?_;refine wP [15] Tryz.func103 (hf:=(c4)) (hk:=?_);refine wG tK ?_;refine wD (λh=>?_) (λh=>?_)
  ·have he:e≠0:=by simpa using h
   refine wG tK ?_;refine wT ?_;simp[he]
  ·have he:e=0:=by simpa using h
   refine wGq tK ?_ ?_ k9
   ·simp[ZD]
   refine wT ?_;simp[he]
 have hk4:¬a.kind=4:=by simpa using h
 refine wG tK ?_;refine wD (λh=>?_) (λh=>?_)
 ·have hk:a.kind=5:=by simpa using h
  have c5:=hren hk;have q1:dp l a=e:=by rw[←hE];simp[aH,hk]
  have q2:db l a v=L:=by rw[←hL];simp[aN,hk]
  rw[q1,q2] at c5;refine wG tK ?_;refine wP [15] Tryz.func104 (hf:=(c5)) (hk:=?_);refine wG tK ?_;refine wD (λh=>?_) (λh=>?_)
  ·have he:e≠0:=by simpa using h
   refine wG tK ?_;refine wT ?_;simp[he]
  ·have he:e=0:=by simpa using h
   refine wGq tK ?_ ?_ k9
   ·simp[ZD]
   refine wT ?_;simp[he]
 have hk5:¬a.kind=5:=by simpa using h
 have q1:e=1:=by rw[←hE];simp[aH,hk1,hk2,hk3,hk4,hk5]
 subst q1;refine wG tK ?_;refine wDT (hb:=y8) (hk:=?_);refine wG tK ?_;refine wT ?_;simp
theorem DV (l:List Node) (a:Act) (v:Int) (hf:FitA l a)
  (hren:a.kind=5->∀(G Y N:Nat->Nat),af Tryz.prog 104 [.ptr 15 9 0 0] (dH (ZD l a v) G Y N) (λr H=>r=.int .i64 (dp l a)/\∀i b,aa (dH (ZD (db l a v) a v) G Y N) i=some b->aa H i=some b)) :
  af Tryz.prog 64 [.sl (l.map ZN),.agg (ZA a),.int .i64 v] [] (λr _=>r=pz l a v):=by
 refine af.iu (Ch l a v hf hren) ?_;unfold pz;split
 ·have h1:iu ((aN l a v).map ZN)=(aN l a v).map ZN:=by
   rw[cH,Yc];exact Ye λn _=>mu n
  simp only[nrm,dz,h1]
 ·rfl
end La
namespace La
open Go Go.Eng Go.Proofs
theorem pw (l:List Node) (fid:Int):∀(f:Nat) (k:Int) (b:Bool),bp l fid f k=some b->bp l fid (f+1) k=some b
 | 0,_,_,h=>by cases h
 | f+1,k,b,h=>by
  rw[bp] at h ⊢
  by_cases hk:fid=k
  ·rw[if_pos hk] at h ⊢;exact h
  ·rw[if_neg hk] at h ⊢;cases e:ak l k with
   | none=>rw[e] at h;exact h
   | some n=>
    rw[e] at h;simp only at h ⊢;split at h
    ·rename_i hall;injection h with h
     have key:∀x,x∈n.entries->decide (x.fid=k)=false->bp l fid (f+1) x.fid=bp l fid f x.fid:=λx hx hne=>by
      have h1:=List.all_eq_true.1 hall x hx;rw[hne,Yw] at h1;cases h2:bp l fid f x.fid with
      | none=>rw[h2] at h1;cases h1
      | some c=>exact pw l fid f x.fid c h2
     rw[if_pos (List.all_eq_true.2 λx hx=>by
      cases hne:decide (x.fid=k) with
      | true=>rfl
      | false=>rw[key x hx hne,←hne];exact List.all_eq_true.1 hall x hx),←h]
     congr 1
     rw[Ym,List.any_eq_true,List.any_eq_true];constructor
     ·rintro ⟨x,hx,h3⟩;refine ⟨x,hx,?_⟩;cases hne:decide (x.fid=k) with
      | true=>rw[hne] at h3;exact h3
      | false=>rw[key x hx hne,hne] at h3;exact h3
     ·rintro ⟨x,hx,h3⟩;refine ⟨x,hx,?_⟩;cases hne:decide (x.fid=k) with
      | true=>rw[hne] at h3;exact h3
      | false=>rw[hne] at h3;rw[key x hx hne];exact h3
    ·cases h
theorem tQ {l:List Node} {fid k:Int} {b:Bool} {f g:Nat} (hfg:f≤g) (h:bp l fid f k=some b):bp l fid g k=some b:=by
 obtain ⟨d,rfl⟩:=Nat.exists_eq_add_of_le hfg;clear hfg
 induction d with
 | zero=>exact h
 | succ d ih=>exact pw l fid _ k b ih
open Classical in
theorem Bx {l:List Node} {fid k:Int} {b:Bool} {f:Nat} (h:bp l fid f k=some b):jN l fid k=b:=by
 unfold jN;cases b with
 | true=>exact decide_eq_true ⟨f,h⟩
 | false=>
  refine decide_eq_false ?_;rintro ⟨g,hg⟩
  rcases Nat.le_total f g with hle | hle
  ·rw[tQ hle h] at hg;cases hg
  ·rw[tQ hle hg] at h;cases h
theorem sy {l:List Node} (hl:Small l) (k:Int):(ar l k).Small:=hl.find k
theorem C2 (l:List Node) (a:Act) (v:Int) (hf:FitA l a) (f:Nat) (hw:bp l a.to f a.fid=some (jN l a.to a.fid)) (G Y N:Nat->Nat):af Tryz.prog 104 [.ptr 15 9 0 0] (dH (ZD l a v) G Y N)
  (λr H=>r=.int .i64 (dp l a)/\∀i b,aa (dH (ZD (db l a v) a v) G Y N) i=some b->aa H i=some b):=by
 have hl:=hf.small;have hlen:=hf.len;have hmE:db l a v=if dp l a=0 then aD (if a.to=a.dir then l else aD l { aC (ar l a.dir) a.name with version:=v }) { aA (toN l a) a.toName a.fid with version:=v } else l:=rfl;rw[hmE];unfold dp;have hwi:=vB l hl a.to f a.fid _ hw;generalize jN l a.to a.fid=wb at hwi;have hsn:=sy hl a.dir;have hst:=sy hl a.to;have hent:∀k,(ar l k).entries.length≤99999990:=λk=>by
  unfold ar;cases e:ak l k with
  | none=>simp[al]
  | some n=>exact hf.ent n (pJ e)
 have hlv:=yx (ar l a.dir) a.name hsn;have hls:=oM hsn a.name;have hto:(toN l a).Small:=by unfold toN;split;exact hls;exact hst
 have htoe:(toN l a).entries.length≤99999990:=by
  unfold toN;split
  ·have h1:=W6 (λe:Entry=>!(e.name==a.name)) (ar l a.dir).entries;have h2:=hent a.dir;have h3:(aC (ar l a.dir) a.name).entries.length≤(ar l a.dir).entries.length:=h1;omega
  ·exact hent a.to
 have hroom:=B5 (toN l a) a.toName hto hf.toName;have hent2:=xJ (toN l a) a.toName a.fid hto;have hens:=oB hto a.toName a.fid z8;have hp1:=pY l a v (aC (ar l a.dir) a.name) hl hls;have hl1:Small (if a.to=a.dir then l else aD l { aC (ar l a.dir) a.name with version:=v }):=by
  split
  ·exact hl
  ·exact nU hl ⟨hls.data,hls.entries⟩ z8
 have hp2:=pY (if a.to=a.dir then l else aD l { aC (ar l a.dir) a.name with version:=v }) a v (aA (toN l a) a.toName a.fid) hl1 hens;have hT:toN l a=if a.to=a.dir then aC (ar l a.dir) a.name else ar l a.to:=rfl;unfold dH;refine ZF tK (Tryz.func104) rfl (λC=>?_);simp only[Tryz.ntmps104,Tryz.results104,go_sem];refine wG tK ?_;refine wP [15] Tryz.func144 (hf:=(yE l a v hl hf.name)) (hk:=?_);generalize aD (if a.to=a.dir then l else aD l { aC (ar l a.dir) a.name with version:=v }) { aA (toN l a) a.toName a.fid with version:=v }=l2 at hp2;generalize aA (toN l a) a.toName a.fid=en at hent2 hp2;generalize toN l a=T at *;generalize aC (ar l a.dir) a.name=lv at *;generalize ar l a.dir=n at *;generalize hge:bC l a=e;refine wGq tK ?_ ?_ w6
 ·simp[ZN]
 refine wD (λh=>?_) (λh=>?_)
 ·have he:e≠0:=by simpa using h
  refine wG tK ?_;refine wU ?_ (cV ?_ ?_)
  ·simp[he]
  ·simp[go_sem,ZD,he]
  ·simp[go_sem]
 have he:e=0:=by simpa using h
 subst he;simp only[if_true];refine wGq tK ?_ ?_ k9
 ·simp[ZD]
 refine wP [15] Tryz.func140 (hf:=(Ac l a v a.to hl)) (hk:=?_);generalize ar l a.to=m at *;generalize hgd:eM l a.to=e;refine wGq tK ?_ ?_ w6
 ·simp[ZN]
 refine wD (λh=>?_) (λh=>?_)
 ·have he:e≠0:=by simpa using h
  refine wG tK ?_;refine wU ?_ (cV ?_ ?_)
  ·simp[he]
  ·simp[go_sem,ZD,he]
  ·simp[go_sem]
 have he:e=0:=by simpa using h
 subst he;simp only[if_true];refine wG tK ?_;refine ZW ZM ?_;refine ZS rfl ?_;refine sNq tK 11 ?_ ?_ z6 z6 k9
 ·simp[ZD]
 refine sE ?_;refine wKd ?_
 try simp only[go_sem,gA,gB,gC]
 refine wD (λh=>?_) (λh=>?_)
 ·have htd:a.to=a.dir:=by simpa using h
  simp only[htd,if_true] at hT hp2;subst hT;refine wG tK ?_;refine ZW ZM ?_;refine ZS rfl ?_;refine sNq tK 6 ?_ ?_ z6 z6 QE
  ·simp[ZD,ZN]
  refine sC Tryz.func145 (hf:=(hlv)) (hk:=?_);refine sE ?_;refine dSq tK ?_ ?_
  ·simp[go_sem,ZN]
  refine wKd ?_
  try simp only[go_sem,gA,gB,gC]
  refine wG tK ?_;refine ZW ZM ?_;refine ZS rfl ?_;refine sNq tK 6 ?_ ?_ z6 z6 QE
  ·simp[ZD,ZN]
  refine sC Tryz.func141 (hf:=(hroom)) (hk:=?_);refine sE ?_;refine dS tK ?_;refine wKd ?_
  try simp only[go_sem,gA,gB,gC]
  generalize hgr:cf T a.toName=e;refine wG tK ?_;refine wD (λh=>?_) (λh=>?_)
  ·have he:e≠0:=by simpa using h
   refine wG tK ?_;refine wU ?_ (cV ?_ ?_)
   ·simp[he]
   ·simp[go_sem,ZD,he]
   ·simp[go_sem]
  have he:e=0:=by simpa using h
  subst he;simp only[if_true];refine wG tK ?_;refine ZW ZM ?_;refine ZS rfl ?_;refine sNq tK 9 ?_ ?_ z6 z6 k9
  ·simp[ZD]
  refine sC Tryz.func66 (hf:=(eI l a.fid hl)) (hk:=?_);simp only[go_sem,gy];generalize hgx:(ak l a.fid).getD al=x;generalize hga:bg l a.fid=ia;refine sG tK ?_;refine sW tK ?_;simp only[go_sem,ZN];refine sT tK ?_;refine sE ?_;refine dS tK ?_;refine wKd ?_
  try simp only[go_sem,gA,gB,gC]
  refine wG tK ?_;refine wD (λh=>?_) (λh=>?_)
  ·have h0:ia=false:=by simpa using h
   subst h0;refine wG tK ?_;refine wU ?_ (cV ?_ ?_)
   ·simp
   ·simp[go_sem,ZD]
   ·simp[go_sem]
  have h0:ia=true:=by simpa using h
  subst h0;simp only[if_true];refine wG tK ?_;refine ZW ZM ?_;refine ZS rfl ?_;refine sNq tK 14 ?_ ?_ z6 z6 k9
  ·simp[ZD]
  refine sC Tryz.func147 (hf:=(hwi)) (hk:=?_);refine sE ?_;refine wKd ?_
  try simp only[go_sem,gA,gB,gC]
  refine wD (λh=>?_) (λh=>?_)
  ·have h0:wb=true:=by simpa using h
   subst h0;refine wG tK ?_;refine wU ?_ (cV ?_ ?_)
   ·simp
   ·simp[go_sem,ZD]
   ·simp[go_sem]
  have h0:wb=false:=by simpa using h
  subst h0;simp only[Bool.false_eq_true,if_false,if_true];refine wG tK ?_;refine ZW ZM ?_;refine ZS rfl ?_;refine sNq tK 11 ?_ ?_ z6 z6 k9
  ·simp[ZD]
  refine sE ?_;refine wKd ?_
  try simp only[go_sem,gA,gB,gC]
  refine wDF (hb:=(by simp[htd])) (hk:=?_);refine wG tK ?_;refine ZW ZM ?_;refine ZS rfl ?_;refine sNq tK 12 ?_ ?_ z6 z6 QE
  ·simp[ZD,ZN]
  refine sC Tryz.func143 (hf:=(hent2)) (hk:=?_);refine sE ?_;refine eu rfl w4 rfl (wTP [15] Tryz.func142 (hf:=(hp2))) rfl ?_;refine wKd ?_
  try simp only[go_sem,gA,gB,gC]
  refine wG tK ?_;refine wU ?_ (cV ?_ ?_)
  ·simp
  ·simp[go_sem,ZD]
  ·simp[go_sem]
 ·have htd:¬a.to=a.dir:=by simpa using h
  simp only[htd,if_false] at hT hp2;subst hT;generalize aD l { lv with version:=v }=l1 at *;refine wG tK ?_;refine ZW ZM ?_;refine ZS rfl ?_;refine sNq tK 6 ?_ ?_ z6 z6 QE
  ·simp[ZD,ZN]
  refine sC Tryz.func141 (hf:=(hroom)) (hk:=?_);refine sE ?_;refine dS tK ?_;refine wKd ?_
  try simp only[go_sem,gA,gB,gC]
  generalize hgr:cf T a.toName=e;refine wG tK ?_;refine wD (λh=>?_) (λh=>?_)
  ·have he:e≠0:=by simpa using h
   refine wG tK ?_;refine wU ?_ (cV ?_ ?_)
   ·simp[he]
   ·simp[go_sem,ZD,he]
   ·simp[go_sem]
  have he:e=0:=by simpa using h
  subst he;simp only[if_true];refine wG tK ?_;refine ZW ZM ?_;refine ZS rfl ?_;refine sNq tK 9 ?_ ?_ z6 z6 k9
  ·simp[ZD]
  refine sC Tryz.func66 (hf:=(eI l a.fid hl)) (hk:=?_);simp only[go_sem,gy];generalize hgx:(ak l a.fid).getD al=x;generalize hga:bg l a.fid=ia;refine sG tK ?_;refine sW tK ?_;simp only[go_sem,ZN];refine sT tK ?_;refine sE ?_;refine dS tK ?_;refine wKd ?_
  try simp only[go_sem,gA,gB,gC]
  refine wG tK ?_;refine wD (λh=>?_) (λh=>?_)
  ·have h0:ia=false:=by simpa using h
   subst h0;refine wG tK ?_;refine wU ?_ (cV ?_ ?_)
   ·simp
   ·simp[go_sem,ZD]
   ·simp[go_sem]
  have h0:ia=true:=by simpa using h
  subst h0;simp only[if_true];refine wG tK ?_;refine ZW ZM ?_;refine ZS rfl ?_;refine sNq tK 14 ?_ ?_ z6 z6 k9
  ·simp[ZD]
  refine sC Tryz.func147 (hf:=(hwi)) (hk:=?_);refine sE ?_;refine wKd ?_
  try simp only[go_sem,gA,gB,gC]
  refine wD (λh=>?_) (λh=>?_)
  ·have h0:wb=true:=by simpa using h
   subst h0;refine wG tK ?_;refine wU ?_ (cV ?_ ?_)
   ·simp
   ·simp[go_sem,ZD]
   ·simp[go_sem]
  have h0:wb=false:=by simpa using h
  subst h0;simp only[Bool.false_eq_true,if_false,if_true];refine wG tK ?_;refine ZW ZM ?_;refine ZS rfl ?_;refine sNq tK 11 ?_ ?_ z6 z6 k9
  ·simp[ZD]
  refine sE ?_;refine wKd ?_
  try simp only[go_sem,gA,gB,gC]
  refine wDT (hb:=(by simp[htd])) (hk:=?_);refine wG tK ?_;refine ZW ZM ?_;refine ZS rfl ?_;refine sNq tK 7 ?_ ?_ z6 z6 QE
  ·simp[ZD,ZN]
  refine sC Tryz.func145 (hf:=(hlv)) (hk:=?_);refine sE ?_;refine eu rfl w4 rfl (wTP [15] Tryz.func142 (hf:=(hp1))) rfl ?_;refine wKd ?_
  try simp only[go_sem,gA,gB,gC]
  refine wG tK ?_;refine ZW ZM ?_;refine ZS rfl ?_;refine sNq tK 12 ?_ ?_ z6 z6 QE
  ·simp[ZD,ZN]
  refine sC Tryz.func143 (hf:=(hent2)) (hk:=?_);refine sE ?_;refine eu rfl w4 rfl (wTP [15] Tryz.func142 (hf:=(hp2))) rfl ?_;refine wKd ?_
  try simp only[go_sem,gA,gB,gC]
  refine wG tK ?_;refine wU ?_ (cV ?_ ?_)
  ·simp
  ·simp[go_sem,ZD]
  ·simp[go_sem]
end La
namespace La
open Go
theorem kd {l:List Node} (h:Up l) (n:Node) (k:Int):ak (aD l n) k=if k=n.fid then some n else ak l k:=by
 by_cases e:k=n.fid
 ·subst e;rw[if_pos rfl];exact AN h n
 ·rw[if_neg e];exact (AO h n e).symm
theorem Ag {l:List Node} (h:Up l) (f k:Int):ak (eQ l f) k=if k=f then none else ak l k:=by
 obtain ⟨h1,h2⟩:=gX h f
 by_cases e:k=f
 ·subst e;rw[if_pos rfl];exact (eS h1).2 λx hx=>((h2 x).1 hx).2
 ·rw[if_neg e];cases e1:ak l k with
  | none=>
   rw[eS h1];exact λx hx=>(eS h).1 e1 x ((h2 x).1 hx).1
  | some x=>
   obtain ⟨k1,k2⟩:=(ZO h).1 e1;exact (ZO h1).2 ⟨(h2 x).2 ⟨k1,by rw[k2];exact e⟩,k2⟩
end La
namespace La
open Go Go.Eng
def lF (r:Int->Nat) (l:List Node):Prop:=∀n,n∈l->∀e,e∈n.entries->r e.fid<r n.fid
inductive Reach (l:List Node):Int->Int->Prop
 | refl (k:Int):Reach l k k
 | head (n:Node) (e:Entry) (t:Int) (hn:n∈l) (he:e∈n.entries) (h:Reach l e.fid t):Reach l n.fid t
theorem Reach.tail {l:List Node} {k:Int} {n:Node} (hn:n∈l) {e:Entry} (he:e∈n.entries) (h:Reach l k n.fid):Reach l k e.fid:=by
 generalize ht:n.fid=t at h
 induction h with
 | refl k=>subst ht;exact .head n e _ hn he (.refl _)
 | head m d t hm hd h ih=>exact .head m d _ hm hd (ih ht)
theorem qX {l:List Node} (hu:Up l) {r:Int->Nat} (hr:lF r l) (t:Int):∀(f:Nat) (k:Int),r k<f->∃b,bp l t f k=some b
 | 0,k,h=>by omega
 | f+1,k,h=>by
  rw[bp];split
  ·exact ⟨_,rfl⟩
  ·cases e:ak l k with
   | none=>exact ⟨_,rfl⟩
   | some n=>
    obtain ⟨hn,hk⟩:=(ZO hu).1 e;simp only;rw[if_pos (List.all_eq_true.2 λx hx=>by
     have h1:=hr n hn x hx;obtain ⟨b,hb⟩:=qX hu hr t f x.fid (by rw[hk] at h1;omega);rw[hb,Option.isSome_some,Bool.or_true])]
    exact ⟨_,rfl⟩
theorem px {l:List Node} (hu:Up l) {r:Int->Nat} (hr:lF r l) {k t:Int} (h:Reach l k t):∀(f:Nat) (b:Bool),bp l t f k=some b->b=true:=by
 induction h with
 | refl k=>
  intro f b hb;cases f with
  | zero=>cases hb
  | succ f=>rw[bp,if_pos rfl] at hb;injection hb with hb;exact hb.symm
 | head n e t hn he h ih=>
  intro f b hb;cases f with
  | zero=>cases hb
  | succ f=>
   rw[bp] at hb;split at hb
   ·injection hb with hb;exact hb.symm
   ·rw[(ZO hu).2 ⟨hn,rfl⟩] at hb;simp only at hb;split at hb
    ·rename_i hall;injection hb with hb
     rw[←hb,List.any_eq_true];have hne:decide (e.fid=n.fid)=false:=decide_eq_false λh0=>by have:=hr n hn e he;rw[h0] at this;omega
     have h1:=List.all_eq_true.1 hall e he;rw[hne,Yw] at h1;refine ⟨e,he,?_⟩;cases h2:bp l t f e.fid with
     | none=>rw[h2] at h1;cases h1
     | some c=>rw[hne,ih f c h2];rfl
    ·cases hb
theorem nH {l:List Entry} {s:List UInt8} {f:Int} {x:Entry} (h:x∈bz l s f):x=⟨s,f⟩\/x∈l:=by
 unfold bz at h;split at h
 ·rcases Yr h with h | h
  ·exact .inr h
  ·exact .inl h
 ·rcases List.mem_append.1 h with h | h
  ·exact .inr (YB h)
  ·rcases List.mem_cons.1 h with h | h
   ·exact .inl h
   ·exact .inr (YS h)
theorem kX {l:List Entry} {s:List UInt8} {x:Entry} (h:x∈de l s):x∈l:=(W9.1 h).1
theorem fV {l:List Node} {n x:Node} (h:x∈aD l n):x=n\/x∈l:=by
 unfold aD at h;split at h
 ·rcases Yr h with h | h
  ·exact .inr h
  ·exact .inl h
 ·rcases List.mem_append.1 h with h | h
  ·exact .inr (YB h)
  ·rcases List.mem_cons.1 h with h | h
   ·exact .inl h
   ·exact .inr (YS h)
structure Good (l:List Node):Prop where
 up:Up l
 dc:∃r,lF r l
 len:l.length≤24
 data:∀n,n∈l->n.data.length≤20
 ent:∀n,n∈l->n.entries.length≤6
theorem Good.ends {l:List Node} (h:Good l) (t k:Int):∃f,bp l t f k=some (jN l t k):=by
 obtain ⟨r,hr⟩:=h.dc;obtain ⟨b,hb⟩:=qX h.up hr t (r k+1) k z8;exact ⟨_,by rw[Bx hb];exact hb⟩
theorem iO {l:List Node} {k:Int} (h:eM l k=0):∃n,ak l k=some n/\ar l k=n/\n.dir=true:=by
 unfold eM at h;unfold ar;cases e:ak l k with
 | none=>rw[e] at h;cases h
 | some n=>
  rw[e] at h;simp only at h;cases hd:n.dir with
  | false=>rw[hd] at h;cases h
  | true=>exact ⟨n,rfl,rfl,hd⟩
theorem rN {l:List Node} {n:Node} (h:bg l n.fid=true):(aD l n).length=l.length:=by
 unfold aD;rw[if_pos h,Yi]
theorem jz {l:List Node} {k:Int} {n:Node} (h:ak l k=some n):bg l k=true:=by rw[cL,h];rfl
theorem sr (l:List Entry) (s:List UInt8) (f:Int):(bz l s f).length≤l.length+1:=by
 unfold bz;split
 ·simp
 ·have:=pH l s;simp;omega
theorem sX (l:List Entry) (s:List UInt8):(de l s).length≤l.length:=W6 _ _
theorem tr {n:Node} {s:List UInt8} (h:cf n s=0):n.entries.length≤5:=by
 unfold cf at h;split at h
 ·split at h
  ·cases h
  ·split at h
   ·cases h
   ·omega
 ·cases h
end La
namespace La
open Go Go.Eng Go.Proofs
theorem pN {l:List Node} (h:Good l) (a:Act) (v:Int) (he:cQ l a=0):Good (dQ l a v):=by
 have hL:dQ l a v=aD (aD l { aA (ar l a.dir) a.name a.fid with version:=v }) (dP a v):=by unfold dQ;rw[if_pos he]
 rw[hL];unfold cQ at he;split at he
 ·rename_i hd;obtain ⟨n,hf,hg,_⟩:=iO hd;rw[hg] at he ⊢;obtain ⟨hn,hnk⟩:=(ZO h.up).1 hf;split at he
  ·rename_i hro;have h5:=tr hro;split at he
   ·cases he
   ·rename_i hnew;have hno:bg l a.fid=false:=by
     cases e:bg l a.fid with
     | false=>rfl
     | true=>rw[e] at hnew;exact absurd rfl hnew
    have hnoN:∀x,x∈l->x.fid≠a.fid:=(eS h.up).1 (by
     cases e:ak l a.fid with
     | none=>rfl
     | some m=>rw[jz e] at hno;cases hno)
    split at he
    ·cases he
    ·rename_i h24;obtain ⟨r,hr⟩:=h.dc;have hfid:({ aA n a.name a.fid with version:=v }:Node).fid=n.fid:=rfl;have hu1:=bn h.up { aA n a.name a.fid with version:=v };refine ⟨(bn hu1.1 (dP a v)).1,⟨λx=>if x=a.fid then 0 else r x+1,λx hx e hx2=>?_⟩,?_,λx hx=>?_,λx hx=>?_⟩
     ·rcases fV hx with rfl | hx
      ·simp[dP] at hx2
      ·rcases fV hx with rfl | hx
       ·have hnf:n.fid≠a.fid:=hnoN n hn;have hx3:e∈bz n.entries a.name a.fid:=hx2
        show (if e.fid=a.fid then 0 else r e.fid+1)<(if n.fid=a.fid then 0 else r n.fid+1)
        rw[if_neg hnf]
        rcases nH hx3 with rfl | hx3
        ·simp
        ·have:=hr n hn e hx3;split<;>omega
       ·have hnf:x.fid≠a.fid:=hnoN x hx;have:=hr x hx e hx2;simp only;rw[if_neg hnf];split<;>omega
     ·have h1:=qN (aD l { aA n a.name a.fid with version:=v }) (dP a v);have h2:(aD l { aA n a.name a.fid with version:=v }).length=l.length:=rN (by rw[hfid,hnk];exact jz hf);omega
     ·rcases fV hx with rfl | hx
      ·simp[dP]
      ·rcases fV hx with rfl | hx
       ·exact h.data n hn
       ·exact h.data x hx
     ·rcases fV hx with rfl | hx
      ·simp[dP]
      ·rcases fV hx with rfl | hx
       ·have:=sr n.entries a.name a.fid
        show (bz n.entries a.name a.fid).length≤6
        omega
       ·exact h.ent x hx
  ·rename_i hro;exact absurd he hro
 ·rename_i hd;exact absurd he hd
theorem sI {l:List Node} (h:Good l) (a:Act) (v:Int) (he:df l a=0):Good (dg l a v):=by
 have hL:dg l a v=aD l { ar l a.fid with data:=a.data,version:=v }:=by unfold dg;rw[if_pos he]
 rw[hL];unfold df at he;cases hf:ak l a.fid with
 | none=>rw[hf] at he;cases he
 | some n=>
  rw[hf] at he;simp only at he;obtain ⟨hn,hnk⟩:=(ZO h.up).1 hf;have hg:ar l a.fid=n:=by unfold ar;rw[hf];rfl
  rw[hg];split at he
  ·cases he
  ·split at he
   ·cases he
   ·rename_i h20;obtain ⟨r,hr⟩:=h.dc;refine ⟨(bn h.up _).1,⟨r,λx hx e hx2=>?_⟩,?_,λx hx=>?_,λx hx=>?_⟩
    ·rcases fV hx with rfl | hx
     ·exact hr n hn e hx2
     ·exact hr x hx e hx2
    ·rw[rN (by show bg l n.fid=true;rw[hnk];exact jz hf)];exact h.len
    ·rcases fV hx with rfl | hx
     ·show a.data.length≤20;omega
     ·exact h.data x hx
    ·rcases fV hx with rfl | hx
     ·exact h.ent n hn
     ·exact h.ent x hx
theorem mq {l:List Node} {a:Act} (h:bC l a=0):∃n,ak l a.dir=some n/\ar l a.dir=n:=by
 unfold bC at h;split at h
 ·rename_i hd;obtain ⟨n,h1,h2,_⟩:=iO hd;exact ⟨n,h1,h2⟩
 ·rename_i hd;exact absurd h hd
theorem sH {l:List Node} (h:Good l) {n:Node} (hn:n∈l) (hf:ak l n.fid=some n) (s:List UInt8) (v:Int) {r:Int->Nat} (hr:lF r l) :
  Good (aD l { aC n s with version:=v })/\lF r (aD l { aC n s with version:=v }):=by
 have hr2:lF r (aD l { aC n s with version:=v }):=λx hx e hx2=>by
  rcases fV hx with rfl | hx
  ·exact hr n hn e (kX hx2)
  ·exact hr x hx e hx2
 refine ⟨⟨(bn h.up _).1,⟨r,hr2⟩,?_,λx hx=>?_,λx hx=>?_⟩,hr2⟩
 ·rw[rN (by show bg l n.fid=true;exact jz hf)];exact h.len
 ·rcases fV hx with rfl | hx
  ·exact h.data n hn
  ·exact h.data x hx
 ·rcases fV hx with rfl | hx
  ·have:=sX n.entries s;have:=h.ent n hn
   show (de n.entries s).length≤6
   omega
  ·exact h.ent x hx
theorem qz {l:List Node} (h:Good l) (a:Act) (v:Int) (he:cN l a=0):Good (cO l a v):=by
 have hL:cO l a v=eQ (aD l { aC (ar l a.dir) a.name with version:=v }) a.fid:=by unfold cO;rw[if_pos he]
 rw[hL];unfold cN at he;split at he
 ·rename_i hnm;obtain ⟨n,hf,hg⟩:=mq hnm;rw[hg];obtain ⟨hn,hnk⟩:=(ZO h.up).1 hf;obtain ⟨r,hr⟩:=h.dc;obtain ⟨h1,hr1⟩:=sH h hn (by rw[hnk];exact hf) a.name v hr;have hsub:∀x,x∈eQ (aD l { aC n a.name with version:=v }) a.fid->x∈aD l { aC n a.name with version:=v }:=λx hx=>(W9.1 hx).1
  refine ⟨(gX h1.up a.fid).1,⟨r,λx hx e hx2=>hr1 x (hsub x hx) e hx2⟩,?_,λx hx=>h1.data x (hsub x hx),λx hx=>h1.ent x (hsub x hx)⟩;have:=W6 (λn:Node=>!(n.fid==a.fid)) (aD l { aC n a.name with version:=v });have:=h1.len;unfold eQ;omega
 ·rename_i hnm;exact absurd he hnm
open Classical in
theorem qA {l:List Node} (h:Good l) (a:Act) (v:Int) (he:dp l a=0):Good (db l a v):=by
 have hL:db l a v=aD (if a.to=a.dir then l else aD l { aC (ar l a.dir) a.name with version:=v }) { aA (toN l a) a.toName a.fid with version:=v }:=by unfold db;rw[if_pos he]
 rw[hL];unfold dp at he;split at he
 ·rename_i hnm;obtain ⟨n,hf,hg⟩:=mq hnm;obtain ⟨hn,hnk⟩:=(ZO h.up).1 hf;split at he
  ·rename_i hdt;obtain ⟨t,htf,htg,_⟩:=iO hdt;obtain ⟨htm,htk⟩:=(ZO h.up).1 htf;split at he
   ·rename_i hro;have h5:=tr hro;split at he
    ·split at he
     ·cases he
     ·rename_i hwb;obtain ⟨f,hw⟩:=h.ends a.to a.fid;obtain ⟨r,hr⟩:=h.dc;have hnr:¬Reach l a.fid a.to:=λhR=>by
       have:=px h.up hr hR f _ hw;exact hwb this
      -- the node that gets the entry: that directory, some entries less
      have hTf:(toN l a).fid=a.to:=by
       unfold toN;split
       ·rename_i htd;show (ar l a.dir).fid=a.to;rw[hg,hnk,htd]
       ·rw[htg,htk]
      have hTe:∀e,e∈(toN l a).entries->e∈t.entries:=λe hx=>by
       unfold toN at hx;split at hx
       ·rename_i htd;have h1:=kX hx;rw[hg] at h1;rw[htd,hf] at htf;injection htf with htf
        rwa [←htf]
       ·rwa [htg] at hx
      have hTd:(toN l a).data.length≤20:=by
       unfold toN;split
       ·show (ar l a.dir).data.length≤20;rw[hg];exact h.data n hn
       ·rw[htg];exact h.data t htm
      have key:∀l1:List Node,Up l1->(∀x,x∈l1->x.data.length≤20/\x.entries.length≤6)->l1.length≤24->bg l1 a.to=true ->
        (∀x,x∈l1->∃y,y∈l/\y.fid=x.fid/\∀e,e∈x.entries->e∈y.entries)->Good (aD l1 { aA (toN l a) a.toName a.fid with version:=v }):=λl1 hu1 hs1 hl1 ha1 hsub=>by
       let q:Int->Nat:=λx=>if Reach l a.fid x then r x else r x+(r a.fid+1)
       have hq:∀y,y∈l->∀e,e∈y.entries->q e.fid<q y.fid:=λy hy e hx=>by
        have h1:=hr y hy e hx
        show (if Reach l a.fid e.fid then r e.fid else r e.fid+(r a.fid+1))<(if Reach l a.fid y.fid then r y.fid else r y.fid+(r a.fid+1))
        by_cases hR:Reach l a.fid y.fid
        ·rw[if_pos hR,if_pos (hR.tail hy hx)];exact h1
        ·rw[if_neg hR];split<;>omega
       refine ⟨(bn hu1 _).1,⟨q,λx hx e hx2=>?_⟩,?_,λx hx=>?_,λx hx=>?_⟩
       ·rcases fV hx with rfl | hx
        ·have hx3:e∈bz (toN l a).entries a.toName a.fid:=hx2
         show q e.fid<q (toN l a).fid
         rw[hTf]
         rcases nH hx3 with rfl | hx3
         ·show (if Reach l a.fid a.fid then r a.fid else r a.fid+(r a.fid+1))<(if Reach l a.fid a.to then r a.to else r a.to+(r a.fid+1))
          rw[if_pos (.refl _),if_neg hnr];omega
         ·have:=hq t htm e (hTe e hx3)
          rwa [htk] at this
        ·obtain ⟨y,hy,hyf,hye⟩:=hsub x hx;have:=hq y hy e (hye e hx2)
         rwa [hyf] at this
       ·rw[rN (by show bg l1 (toN l a).fid=true;rw[hTf];exact ha1)];exact hl1
       ·rcases fV hx with rfl | hx
        ·exact hTd
        ·exact (hs1 x hx).1
       ·rcases fV hx with rfl | hx
        ·have:=sr (toN l a).entries a.toName a.fid
         show (bz (toN l a).entries a.toName a.fid).length≤6
         omega
        ·exact (hs1 x hx).2
      split
      ·exact key l h.up (λx hx=>⟨h.data x hx,h.ent x hx⟩) h.len (jz htf) (λx hx=>⟨x,hx,rfl,λ_ h=>h⟩)
      ·rename_i htd;rw[hg];obtain ⟨h1,_⟩:=sH h hn (by rw[hnk];exact hf) a.name v hr;refine key _ h1.up (λx hx=>⟨h1.data x hx,h1.ent x hx⟩) h1.len ?_ (λx hx=>?_)
       ·have:ak (aD l { aC n a.name with version:=v }) a.to=some t:=by
         rw[kd h.up,if_neg (λe=>htd (e.trans (show n.fid=a.dir from hnk)))];exact htf
        exact jz this
       ·rcases fV hx with rfl | hx
        ·exact ⟨n,hn,rfl,λe hx2=>kX hx2⟩
        ·exact ⟨x,hx,rfl,λ_ h=>h⟩
    ·cases he
   ·rename_i hro;exact absurd he hro
  ·rename_i hdt;exact absurd he hdt
 ·rename_i hnm;exact absurd he hnm
theorem fF {l:List Node} (h:Good l) (a:Act) (v:Int) (he:aH l a=0):Good (aN l a v):=by
 unfold aH at he;unfold aN;split at he
 ·rename_i h1;rw[if_pos h1];exact pN h a v he
 ·rename_i h1;rw[if_neg h1];split at he
  ·rename_i h2;rw[if_pos h2];exact pN h a v he
  ·rename_i h2;rw[if_neg h2];split at he
   ·rename_i h3;rw[if_pos h3];exact sI h a v he
   ·rename_i h3;rw[if_neg h3];split at he
    ·rename_i h4;rw[if_pos h4];exact qz h a v he
    ·rename_i h4;rw[if_neg h4];split at he
     ·rename_i h5;rw[if_pos h5];exact qA h a v he
     ·cases he
theorem uK:Good [⟨0,true,[],[],0⟩]:=⟨by unfold Up;simp,⟨λ_=>0,λn hn e he=>by rw[List.mem_singleton.1 hn] at he;simp at he⟩,by simp,λn hn=>by rw[List.mem_singleton.1 hn];simp,λn hn=>by rw[List.mem_singleton.1 hn];simp⟩
theorem Good.small {l:List Node} (h:Good l):Small l:=⟨by have:=h.len;omega,λn hn=>⟨by have:=h.data n hn;omega,by have:=h.ent n hn;omega⟩⟩
theorem Good.fit {l:List Node} (h:Good l) {a:Act} (h1:a.name.length≤100000000) (h2:a.toName.length≤100000000) (h3:a.data.length≤100000000):FitA l a:=
 ⟨h.small,by have:=h.len;omega,λn hn=>by have:=h.ent n hn;omega,h1,h2,h3⟩
structure ActFit (a:Act):Prop where
 name:a.name.length≤100000000
 toName:a.toName.length≤100000000
 data:a.data.length≤100000000
theorem nG {l:List Node} (h:Good l) (a:Act) (v:Int) (ha:ActFit a):af Tryz.prog 64 [.sl (l.map ZN),.agg (ZA a),.int .i64 v] [] (λr _=>r=pz l a v):=by
 obtain ⟨f,hf⟩:=h.ends a.to a.fid;exact DV l a v (h.fit ha.name ha.toName ha.data) (λ_=>C2 l a v (h.fit ha.name ha.toName ha.data) f hf)
theorem vS (a b:List Node) (ha:Small a) (hb:Small b):af Tryz.prog 111 [.sl (a.map ZN),.sl (b.map ZN),.fn 112 []] [] (λr _=>r=.bool (eL false a b)):=by
 have hla:=ha.len;have hlb:=hb.len;refine ZF tK (Tryz.func111) rfl (λC=>?_);simp only[Tryz.ntmps111,Tryz.results111,go_sem];refine wG tK ?_;refine wD (λh=>?_) (λh=>?_)
 ·have hne:eL false a b=false:=by
   cases e:eL false a b with
   | false=>rfl
   | true=>have:=((fS false a b).1 e).1;simp[this] at h
  refine wG tK ?_;refine wT ?_;simp[hne]
 have hl:a.length=b.length:=by simp at h;omega
 refine wG tK ?_;refine ZL (λi:Nat=>i≤a.length/\∀j,j<i->cg false (a.getD j default) (b.getD j default)=true) (λi=>a.length-i) (λi=>(7,.any)::(8,.any)::(9,.any)::(17,.int .i64 i)::u0 18 14 []) (λ_=>[]) 0 ⟨by omega,by omega⟩ ?_ λi hi=>?_
 ·simp only[go_sem];exact ZU w3 w3 w3
 obtain ⟨hi,hs⟩:=hi;simp only[go_sem];refine wG tK ?_;refine wD (λh=>?_) (λh=>?_)
 ·have hlt:i<a.length:=by simp at h;omega
  have hltb:i<b.length:=by omega
  have hga:(a.map ZN).getD i []=ZN (a.getD i default):=Fam.getD hlt;have hgb:(b.map ZN).getD i []=ZN (b.getD i default):=Fam.getD hltb;have hsm:=Dd _ _ (ha.each _ (YG hlt)) (hb.each _ (YG hltb));have hno:cg false (a.getD i default) (b.getD i default)=false->eL false a b=false:=λh0=>by
   cases e:eL false a b with
   | false=>rfl
   | true=>rw[((fS false a b).1 e).2 i hlt] at h0;cases h0
  have hyes:cg false (a.getD i default) (b.getD i default)=true->∀j,j<i+1->cg false (a.getD j default) (b.getD j default)=true:=λh0 j hj=>by
   rcases Nat.lt_succ_iff_lt_or_eq.1 hj with h1 | rfl
   ·exact hs j h1
   ·exact h0
  clear hs;generalize a.getD i default=x at hga hsm hno hyes;generalize b.getD i default=y at hgb hsm hno hyes;refine wGq tK ?_ ?_ WU
  ·simp[hga,hgb,ZN,hlt,hltb]
  refine wC Tryz.func112 (hf:=(hsm)) (hk:=?_);refine wG tK ?_;refine wD (λh=>?_) (λh=>?_)
  ·have h0:cg false x y=false:=by simpa using h
   have:=hno h0;refine wG tK ?_;refine wT ?_;simp[this]
  ·have h0:cg false x y=true:=by simpa using h
   have hw:=wi1 (i:=i) z8;refine wG tK ?_ w5 k7;refine ZB ⟨i+1,⟨by omega,hyes h0⟩,by omega,ZU ?_ ?_ ?_⟩
   ·simp[go_sem]
   ·simp[go_sem]
   ·simp[go_sem]
 ·have e:i=a.length:=by simp at h;omega
  subst e;have hab:eL false a b=true:=(fS false a b).2 ⟨hl,hs⟩;refine wG tK ?_;refine wT ?_;simp[hab]
theorem qS (a b:List Node) (ha:Small a) (hb:Small b):af Tryz.prog 67 [.sl (a.map ZN),.sl (b.map ZN)] [] (λr _=>r=.bool (eL false a b)):=by
 refine ZF tK (Tryz.func67) rfl (λC=>?_);simp only[Tryz.ntmps67,Tryz.results67,go_sem];refine wG tK ?_;refine wC Tryz.func111 (hf:=(vS a b ha hb)) (hk:=?_);refine wG tK ?_;refine wT ?_;rfl
def gr:Node:=⟨0,true,[],[],0⟩
theorem jT (l:List Rec) (hlen:l.length≤100000000) {f:FuncId} {caps:List AV} {p:Rec->Bool} (hcal:aP Tryz.prog f) (hpure:(caps.all AV.bc)=true)
  (hf:∀x,x∈l->af Tryz.prog f (.agg (ZR x)::caps) [] (λr _=>r=.bool (p x))) :
  af Tryz.prog 152 [.sl (l.map ZR),.fn f caps] [] (λr _=>r=.int .i64 (ct (l.findIdx? p))):=by
 have hcaps:=cq hpure;refine ZF tK (Tryz.func152) rfl (λC=>?_);simp only[Tryz.ntmps152,Tryz.results152,go_sem];refine wG tK ?_;refine ZL (λi:Nat=>i≤l.length/\∀x,x∈l.take i->p x=false) (λi=>l.length-i) (λi=>(8,.int .i64 i)::(5,.any)::u0 9 10 []) (λ_=>[]) 0 ⟨by omega,by simp⟩ ?_ λi hi=>?_
 ·simp only[go_sem];exact ZU w3 w3 u5
 obtain ⟨hi,hno⟩:=hi;simp only[go_sem];refine wG tK ?_;refine wD (λh=>?_) (λh=>?_)
 ·have hlt:i<l.length:=by simp at h;omega
  have hn:=hf _ (YG hlt);have hg:(l.map ZR).getD i []=ZR (l.getD i default):=Fam.getD hlt;have htk:=ZT hlt;have hgi:l[i]? = some (l.getD i default):=by rw[Wv,Ww hlt];rfl
  generalize l.getD i default=n at hn hg htk hgi;refine wGq tK ?_ ?_ n9
  ·simp[hlt,ZR]
  refine dR rfl rfl z7 w3 hcal u5 (hn) w3 z6 ?_;refine wG tK ?_;refine wD (λh=>?_) (λh=>?_)
  ·refine wG tK ?_;refine wT ?_;rw[eR hgi hno h];rfl
  ·have hw:IntKind.i64.wrap ((i:Int)+1)=(i:Int)+1:=wrap_small z8 z8;refine wG tK ?_ w5 k7;refine ZB ⟨i+1,⟨by omega,?_⟩,by omega,ZU ?_ ?_ ?_⟩
   ·rw[htk];intro x hx
    rcases List.mem_append.1 hx with hx | hx
    ·exact hno x hx
    ·rw[List.mem_singleton.1 hx];exact h
   ·simp[go_sem]
   ·simp[go_sem]
   ·simp[go_sem,hcaps]
 ·have e:i=l.length:=by simp at h;omega
  refine wG tK ?_;refine wT ?_;rw[e,W2] at hno;rw[YK.2 hno];rfl
theorem pZ (l:List Rec) (hlen:l.length≤100000000) {f:FuncId} {caps:List AV} {p:Rec->Bool} (hcal:aP Tryz.prog f) (hpure:(caps.all AV.bc)=true)
  (hf:∀x,x∈l->af Tryz.prog f (.agg (ZR x)::caps) [] (λr _=>r=.bool (p x))) :
  af Tryz.prog 149 [.sl (l.map ZR),.fn f caps] [] (λr _=>r=.bool (l.any p)):=by
 have hcaps:=cq hpure;refine ZF tK (Tryz.func149) rfl (λC=>?_);simp only[Tryz.ntmps149,Tryz.results149,go_sem];refine wG tK ?_;refine dR rfl rfl z7 w3 ⟨_,Tryz.func152,by kernel_rfl,rfl⟩ u5 (jT l hlen hcal hpure hf) w3 z6 ?_;refine wG tK ?_;refine wT ?_;rw[mh]
theorem mA (l:List Rec) (hlen:l.length≤100000000) (id:Nat) {f:FuncId} {caps:List AV} {p:Rec->Bool} (hcal:aP Tryz.prog f) (hpure:(caps.all AV.bc)=true) (hid:id≠7)
  (hf:∀x,x∈l->af Tryz.prog f (.agg (ZR x)::caps) [] (λr _=>r=.bool (p x))) :
  af Tryz.prog 106 [.osl id 9 0 l.length,.fn f caps] [(id,.cells 116 9 (l.map ZR))] (λr H=>r=.osl id 9 0 (l.filter λx=>!p x).length /\
   ∀i b,aa [(id,.cells 116 9 ((l.filter λx=>!p x).map ZR++List.replicate (l.length-(l.filter λx=>!p x).length) [.int .i64 0,.int .i64 0,.int .i64 0,.str [],.int .i64 0,.str [],.nils,.int .i64 0,.int .i64 0]))] i=some b->aa H i=some b):=by
 have hcaps:=cq hpure;obtain ⟨q,hv,hq⟩:=fK hpure;refine ZF tK (Tryz.func106) rfl (λC=>?_);simp only[Tryz.ntmps106,Tryz.results106,go_sem];refine wG tK ?_;refine mS rfl rfl z7 w3 Qj Z1 ⟨_,Tryz.func152,by kernel_rfl,rfl⟩ (jT l hlen hcal hpure hf) w3 z6 ?_;refine wG tK ?_;refine wD (λh=>?_) (λh=>?_)
 ·refine wG tK ?_;refine wT ?_;have hn:l.findIdx? p=none:=by
   cases e:l.findIdx? p with
   | none=>rfl
   | some k=>rw[e] at h;simp[ct] at h
  have hfl:l.filter (λx=>!p x)=l:=YR.2 λx hx=>by
   simp[YK.1 hn x hx]
  rw[hfl];simp[aa]
 obtain ⟨k,hk⟩:∃k,l.findIdx? p=some k:=by
  cases e:l.findIdx? p with
  | none=>rw[e] at h;simp[ct] at h
  | some k=>exact ⟨k,rfl⟩
 have hkl:k<l.length:=(YM.1 hk).1;have hsp:=ff hk;rw[hk];have hw:IntKind.i64.wrap ((k:Int)+1)=((k+1:Nat):Int):=by rw[Eng.wrap_small z8 z8];rfl
 simp only[ct];refine wG tK ?_ w5 k7;refine ZL (λs:Nat×List Rec=>DelInv p l s.1 s.2) (λs=>l.length-s.1) (λs=>(5,.int .i64 (((l.take s.1).filter λx=>!p x).length:Nat))::(6,.int .i64 (s.1:Nat))::(7,.any)::u0 16 20 []) (λs=>[(id,.cells 116 9 (s.2.map ZR))]) (k+1,l) (DelInv.start hk) ?_ λs hs=>?_
 ·have el:((l.take (k+1)).filter λx=>!p x).length=k:=by rw[hsp];simp;omega
  simp only[go_sem,el];exact ZU w3 w3 u5
 obtain ⟨j,L⟩:=s;have hjl:=hs.le;have hL:=hs.len;have hlt:=hs.lt;simp only at hs hjl hL hlt;simp only[go_sem];refine wG tK ?_;refine wD (λh=>?_) (λh=>?_)
 ·have hj:j<l.length:=by simp at h;omega
  have hn:=hf _ (YG hj);have hg:(L.map ZR).getD j []=ZR (l.getD j default):=by rw[Fam.getD z8,hs.get hj]
  have hkeep:=hs.ED hj;have hskip:=hs.skip hj;have htk:=ZT hj;generalize l.getD j default=n at hn hg hkeep hskip htk;refine wGq tK ?_ ?_ (by simp only[go_sem,hg,ZR,hid,Ne.symm hid];try exact rfl)
  ·simp[ZR];omega
  refine dR rfl rfl z7 w3 hcal u5 (hn) w3 z6 ?_;generalize hm:((l.take j).filter λx=>!p x).length=m at hkeep hlt;have hw1:IntKind.i64.wrap ((j:Int)+1)=((j+1:Nat):Int):=by rw[Eng.wrap_small z8 z8];rfl
  have hw2:IntKind.i64.wrap ((m:Int)+1)=((m+1:Nat):Int):=by rw[Eng.wrap_small z8 z8];rfl
  refine wG tK ?_ Qf WG;refine wD (λh=>?_) (λh=>?_)
  ·have hp:p n=false:=by simpa using h
   obtain ⟨hk1,hk2⟩:=hkeep hp;have ba:=po ZR L m n;simp only[ZR] at ba;have hgl:(L.map ZR).getD m []=ZR (L.getD m default):=Fam.getD z8;simp only[ZR] at hgl;refine wGq tK ?_ ?_ n3
   ·simp[hid,Ne.symm hid];omega
   refine ZB ⟨(j+1,L.set m n),hk1,by simp only;omega,ZU ?_ ?_ ?_⟩
   ·simp[go_sem,hk2]
   ·simp[go_sem,hid,Ne.symm hid,ba]
   ·simp[go_sem,hcaps,-List.map_set]
  ·have hp:p n=true:=by simpa using h
   refine wG tK ?_ QJ Ql;have hsame:((l.take (j+1)).filter λx=>!p x).length=m:=by
    rw[←hm,htk,List.filter_append];simp only[List.filter_cons,hp,Bool.not_true,Bool.false_eq_true,if_false,List.filter_nil,List.append_nil]
   refine ZB ⟨(j+1,L),hskip hp,by simp only;omega,ZU ?_ ?_ ?_⟩
   ·simp[go_sem,hsame,hm]
   ·simp[go_sem,hid,Ne.symm hid]
   ·simp[go_sem,hcaps]
 have e:j=l.length:=by simp at h;omega
 subst e;have hfin:=hs.fin;rw[W2];generalize hd:(l.filter λx=>!p x)=d at *;have hdl:d.length≤l.length:=by rw[←hd];exact W6 _ _
 have hcl:=ja ZR (d:=d) (L:=L) [.int .i64 0,.int .i64 0,.int .i64 0,.str [],.int .i64 0,.str [],.nils,.int .i64 0,.int .i64 0] hfin z8;rw[hL] at hcl;refine wGq tK ?_ ?_ QK
 ·simp only[not_false_eq_true,true_and];omega
 refine wT ?_;simp[aa]
end La
