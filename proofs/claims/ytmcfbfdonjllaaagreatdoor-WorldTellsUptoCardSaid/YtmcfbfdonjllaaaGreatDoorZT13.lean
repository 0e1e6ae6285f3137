/- Texts of this claim, part 13: Make, Rise, Walk, Within, Apply, Rename, PBack, PRank, PGood, TSame, Ali2, Hof. No condition. -/
import Derived.Test.YtmcfbfdonjllaaaGreatDoorZT12
set_option maxRecDepth 10000
set_option maxHeartbeats 4000000
set_option linter.unusedSimpArgs false
set_option linter.unusedVariables false
namespace La
open Go Go.Eng Go.Proofs
def bw (l:List Node) (a:Act):Int:=if eu l a.dir=0 then (match ba (aq l a.dir) a.name with
 | none=>6
 | some f=>if f=a.fid then 0 else 13) else eu l a.dir
theorem xM (l:List Node) (a:Act) (v:Int) (hl:Small l) (hname:a.name.length≤100000000) (G Y N:Nat->Nat):ae Tryz.prog 178 [.ptr 15 9 0 0] (dH (ZD l a v) G Y N)
  (λr H=>r=.tup [.agg (ZN (aq l a.dir)),.int .i64 (bw l a)]/\∀i b,aa (dH (ZD l a v) G Y N) i=some b->aa H i=some b):=by
 have hsm:(aq l a.dir).Small:=hl.find a.dir;unfold bw;unfold dH;refine ZF tK (Tryz.func178) rfl (λC=>?_);simp only[Tryz.ntmps178,Tryz.results178,go_sem];refine wGq tK ?_ ?_ k7
 ·simp[ZD]
 refine wP [15] Tryz.func174 (hf:=(zb l a v a.dir hl)) (hk:=?_);generalize hgn:aq l a.dir=n at hsm;generalize hge:eu l a.dir=e;refine wGq tK ?_ ?_ w6
 ·simp[ZN]
 refine wD (λh=>?_) (λh=>?_)
 ·have he:e≠0:=by simpa using h
  refine wGq tK ?_ ?_ w6
  ·simp[ZN]
  refine wU ?_ (cR ?_ ?_)
  ·simp[ZN,he]
  ·simp[go_sem,ZD]
  ·simp[go_sem]
 have he:e=0:=by simpa using h
 subst he;refine wG tK ?_;refine ZW ZM ?_;refine ZS rfl ?_;refine sNq tK 6 ?_ ?_ z6 z6 QR
 ·simp[ZN,ZD]
 refine sC Tryz.func104 (hf:=(jI n a.name hsm)) (hk:=?_);cases hen:ba n a.name with
 | none=>
  simp only[eE];refine sG tK ?_;refine sE ?_;refine wKd ?_
  try simp only[go_sem,gA,gB,gC]
  refine wG tK ?_;refine wD (λh=>?_) (λh=>?_)
  ·refine wGq tK ?_ ?_ w6
   ·simp[ZN]
   refine wU ?_ (cR ?_ ?_)
   ·simp[ZN]
   ·simp[go_sem,ZD]
   ·simp[go_sem]
  ·cases h
 | some f=>
  simp only[eE];refine sG tK ?_;refine sE ?_;refine wKd ?_
  try simp only[go_sem,gA,gB,gC]
  refine wG tK ?_;refine wD (λh=>?_) (λh=>?_)
  ·cases h
  refine wGq tK ?_ ?_ k7
  ·simp[ZD]
  refine wD (λh=>?_) (λh=>?_)
  ·have hf:¬f=a.fid:=by simpa using h
   refine wGq tK ?_ ?_ w6
   ·simp[ZN]
   refine wU ?_ (cR ?_ ?_)
   ·simp[ZN,hf]
   ·simp[go_sem,ZD]
   ·simp[go_sem]
  ·have hf:f=a.fid:=by simpa using h
   refine wGq tK ?_ ?_ w6
   ·simp[ZN]
   refine wU ?_ (cR ?_ ?_)
   ·simp[ZN,hf]
   ·simp[go_sem,ZD]
   ·simp[go_sem]
def cL (l:List Node) (a:Act):Int:=if eu l a.dir=0 then (if bO (aq l a.dir) a.name=0 then (if (bg l a.fid||a.fid==0)=true then 13 else if l.length≥24 then 5 else 0) else bO (aq l a.dir) a.name) else eu l a.dir
def dC (a:Act) (v:Int):Node:=⟨a.fid,a.kind==2,[],[],v⟩
def dD (l:List Node) (a:Act) (v:Int):List Node:=if cL l a=0 then aE (aE l { ay (aq l a.dir) a.name a.fid with version:=v }) (dC a v) else l
theorem F9 (l:List Node) (a:Act) (v:Int) (hl:Small l) (hlen:l.length≤99999990) (hent:∀n,n∈l->n.entries.length≤99999990) (hname:a.name.length≤100000000) (G Y N:Nat->Nat):ae Tryz.prog 148 [.ptr 15 9 0 0] (dH (ZD l a v) G Y N)
  (λr H=>r=.int .i64 (cL l a)/\∀i b,aa (dH (ZD (dD l a v) a v) G Y N) i=some b->aa H i=some b):=by
 have hsm:(aq l a.dir).Small:=hl.find a.dir;have hen:(aq l a.dir).entries.length≤99999999:=by
  unfold aq;cases e:aj l a.dir with
  | none=>simp[aw]
  | some n=>have:=hent n (oV e);simp only[Option.getD_some];omega
 have hmE:dD l a v=if cL l a=0 then aE (aE l { ay (aq l a.dir) a.name a.fid with version:=v }) (dC a v) else l:=rfl;rw[hmE];unfold cL;unfold dH;refine ZF tK (Tryz.func148) rfl (λC=>?_);simp only[Tryz.ntmps148,Tryz.results148,go_sem];refine wGq tK ?_ ?_ k7
 ·simp[ZD]
 refine wP [15] Tryz.func174 (hf:=(zb l a v a.dir hl)) (hk:=?_);have hee:=wM (aq l a.dir) a.name a.fid hsm;have hes:=nN hsm a.name a.fid hen;have hsv:({ ay (aq l a.dir) a.name a.fid with version:=v }:Node).Small:=⟨hes.data,hes.entries⟩;have hl1:=nt hl hsv z8;have hp1:=px l a v (ay (aq l a.dir) a.name a.fid) hl hes;have hp2:=px (aE l { ay (aq l a.dir) a.name a.fid with version:=v }) a v (dC a 0) hl1 ⟨by simp[dC],by simp[dC]⟩;have hmv:({ dC a 0 with version:=v }:Node)=dC a v:=rfl;rw[hmv] at hp2;generalize aE (aE l { ay (aq l a.dir) a.name a.fid with version:=v }) (dC a v)=l2 at hp2;generalize aE l { ay (aq l a.dir) a.name a.fid with version:=v }=l1 at hp1 hp2 hl1;have hp3:∀(G Y N:Nat->Nat),ae Tryz.prog 176 [.ptr 15 9 0 0,.agg [.int .i64 a.fid,.bool (a.kind==2),.nils,.nils,.int .i64 0]] (dH (ZD l1 a v) G Y N) (λr H=>r=.tup []/\∀i b,aa (dH (ZD l2 a v) G Y N) i=some b->aa H i=some b):=λG Y N=>ae.nrm rfl (hp2 G Y N)
 generalize ay (aq l a.dir) a.name a.fid=en at hee hp1;generalize hgn:aq l a.dir=n at hsm hee;generalize hge:eu l a.dir=e;refine wGq tK ?_ ?_ w6
 ·simp[ZN]
 refine wD (λh=>?_) (λh=>?_)
 ·have he:e≠0:=by simpa using h
  refine wG tK ?_;refine wU ?_ (cR ?_ ?_)
  ·simp[he]
  ·simp[go_sem,ZD,he]
  ·simp[go_sem]
 have he:e=0:=by simpa using h
 subst he;simp only[if_true];refine wG tK ?_;refine ZW ZM ?_;refine ZS rfl ?_;refine sNq tK 6 ?_ ?_ z6 z6 QR
 ·simp[ZN,ZD]
 refine sC Tryz.func175 (hf:=(Bb n a.name hsm hname)) (hk:=?_);generalize hre:bO n a.name=e2;refine sG tK ?_;refine sE ?_;refine wKd ?_
 try simp only[go_sem,gA,gB,gC]
 refine wG tK ?_;refine wD (λh=>?_) (λh=>?_)
 ·have he:e2≠0:=by simpa using h
  refine wG tK ?_;refine wU ?_ (cR ?_ ?_)
  ·simp[he]
  ·simp[go_sem,ZD,he]
  ·simp[go_sem]
 have he:e2=0:=by simpa using h
 subst he;simp only[if_true];refine wG tK ?_;refine ZW ZM ?_;refine ZS rfl ?_;refine sNq tK 9 ?_ ?_ z6 z6 k7
 ·simp[ZD]
 refine sC Tryz.func82 (hf:=(eo l a.fid hl)) (hk:=?_);simp only[go_sem,gf];generalize (aj l a.fid).getD aw=x;generalize bg l a.fid=z;refine sG tK ?_;refine sW tK ?_;simp only[go_sem,ZN];refine sT tK ?_;refine sE ?_;refine dS tK ?_;refine wKd ?_
 try simp only[go_sem,gA,gB,gC]
 refine wR ?_;refine wN tK 1 ?_;refine ak 44 z6 (λc44 h44=>?_);simp only[go_sem];subst h44;cases hz:(z||a.fid==0) with
 | true=>
  refine wNq tK 8 ?_ ?_ z6 z6 k7
  ·cases z<;>simp[ZD]
  have hb:(bif z then true else a.fid==0)=true:=by rw[←hz];cases z<;>rfl
  simp only[go_sem,hb];refine wG tK ?_;refine wD (λh=>?_) (λh=>?_)
  ·refine wG tK ?_;refine wU ?_ (cR ?_ ?_)
   ·simp
   ·simp[go_sem,ZD]
   ·simp[go_sem]
  ·cases h
 | false=>
  refine wNq tK 8 ?_ ?_ z6 z6 k7
  ·cases z<;>simp[ZD]
  have hb:(bif z then true else a.fid==0)=false:=by rw[←hz];cases z<;>rfl
  simp only[go_sem,hb];refine wG tK ?_;refine wD (λh=>?_) (λh=>?_)
  ·cases h
  refine wGq tK ?_ ?_ k7
  ·simp[ZD]
  refine wD (λh=>?_) (λh=>?_)
  ·have h24:l.length≥24:=by simp at h;omega
   refine wG tK ?_;refine wU ?_ (cR ?_ ?_)
   ·simp[h24]
   ·simp[go_sem,ZD,h24]
   ·simp[go_sem]
  have h24:¬l.length≥24:=by simp at h;omega
  simp only[h24,if_false,if_true];refine wG tK ?_;refine ZW ZM ?_;refine ZS rfl ?_;refine sNq tK 12 ?_ ?_ z6 z6 QR
  ·simp[ZN,ZD]
  refine sC Tryz.func177 (hf:=(hee)) (hk:=?_);refine sE ?_;refine dY rfl w4 rfl (wTP [15] Tryz.func176 (hf:=(hp1))) rfl ?_;refine wKd ?_
  try simp only[go_sem,gA,gB,gC]
  refine wG tK ?_;refine ZW ZM ?_;refine ZS rfl ?_;refine sNq tK 12 ?_ ?_ z6 z6 QR
  ·simp[ZN,ZD]
  refine sB tK ?_;refine sE ?_;refine dY rfl w4 rfl (wTP [15] Tryz.func176 (hf:=(hp3))) rfl ?_;refine wKd ?_
  try simp only[go_sem,gA,gB,gC]
  refine wG tK ?_;refine wU ?_ (cR ?_ ?_)
  ·simp
  ·simp[go_sem]
  ·simp[go_sem]
def cG (l:List Node) (a:Act):Int:=if bw l a=0 then (match aj l a.fid with
 | none=>12
 | some x=>if x.entries.length>0 then 10 else 0) else bw l a
def cH (l:List Node) (a:Act) (v:Int):List Node:=if cG l a=0 then ez (aE l { aA (aq l a.dir) a.name with version:=v }) a.fid else l
theorem B2 (l:List Node) (a:Act) (v:Int) (hl:Small l) (hlen:l.length≤99999990) (hname:a.name.length≤100000000) (G Y N:Nat->Nat):ae Tryz.prog 150 [.ptr 15 9 0 0] (dH (ZD l a v) G Y N)
  (λr H=>r=.int .i64 (cG l a)/\∀i b,aa (dH (ZD (cH l a v) a v) G Y N) i=some b->aa H i=some b):=by
 have hsm:(aq l a.dir).Small:=hl.find a.dir;have hmE:cH l a v=if cG l a=0 then ez (aE l { aA (aq l a.dir) a.name with version:=v }) a.fid else l:=rfl;rw[hmE];unfold cG;unfold dH;refine ZF tK (Tryz.func150) rfl (λC=>?_);simp only[Tryz.ntmps150,Tryz.results150,go_sem];refine wG tK ?_;refine wP [15] Tryz.func178 (hf:=(xM l a v hl hname)) (hk:=?_);have hee:=xF (aq l a.dir) a.name hsm;have hes:=nW hsm a.name;have hsv:({ aA (aq l a.dir) a.name with version:=v }:Node).Small:=⟨hes.data,hes.entries⟩;have hl1:=nt hl hsv z8;have hp1:=px l a v (aA (aq l a.dir) a.name) hl hes;have hp2:=FL (aE l { aA (aq l a.dir) a.name with version:=v }) a.fid hl1;generalize ez (aE l { aA (aq l a.dir) a.name with version:=v }) a.fid=l2 at hp2;generalize aE l { aA (aq l a.dir) a.name with version:=v }=l1 at hp1 hp2 hl1;generalize aA (aq l a.dir) a.name=en at hee hp1;generalize hgn:aq l a.dir=n at hsm hee;generalize hge:bw l a=e;refine wGq tK ?_ ?_ w6
 ·simp[ZN]
 refine wD (λh=>?_) (λh=>?_)
 ·have he:e≠0:=by simpa using h
  refine wG tK ?_;refine wU ?_ (cR ?_ ?_)
  ·simp[he]
  ·simp[go_sem,ZD,he]
  ·simp[go_sem]
 have he:e=0:=by simpa using h
 subst he;simp only[if_true];refine wG tK ?_;refine ZW ZM ?_;refine ZS rfl ?_;refine sNq tK 9 ?_ ?_ z6 z6 k7
 ·simp[ZD]
 refine sC Tryz.func82 (hf:=(eo l a.fid hl)) (hk:=?_);simp only[go_sem,gf];rw[cE];cases hfd:aj l a.fid with
 | none=>
  simp only[Option.getD_none,Option.isSome_none];refine sG tK ?_;refine sW tK ?_;simp only[go_sem,ZN,aw];refine sT tK ?_;refine sE ?_;refine dS tK ?_;refine wKd ?_
  try simp only[go_sem,gA,gB,gC]
  refine wG tK ?_;refine wD (λh=>?_) (λh=>?_)
  ·refine wG tK ?_;refine wU ?_ (cR ?_ ?_)
   ·simp
   ·simp[go_sem,ZD]
   ·simp[go_sem]
  ·cases h
 | some x=>
  simp only[Option.getD_some,Option.isSome_some];refine sG tK ?_;refine sW tK ?_;simp only[go_sem,ZN];refine sT tK ?_;refine sE ?_;refine dS tK ?_;refine wKd ?_
  try simp only[go_sem,gA,gB,gC]
  refine wG tK ?_;refine wD (λh=>?_) (λh=>?_)
  ·cases h
  refine wG tK ?_;refine wD (λh=>?_) (λh=>?_)
  ·have h0:x.entries.length>0:=by have h2:=of_decide_eq_true h;omega
   refine wG tK ?_;refine wU ?_ (cR ?_ ?_)
   ·simp[h0]
   ·simp[go_sem,ZD,h0]
   ·simp[go_sem]
  have h0:¬x.entries.length>0:=by have h2:=of_decide_eq_false h;omega
  simp only[h0,if_false,if_true];refine wG tK ?_;refine ZW ZM ?_;refine ZS rfl ?_;refine sNq tK 7 ?_ ?_ z6 z6 QR
  ·simp[ZN,ZD]
  refine sC Tryz.func179 (hf:=(hee)) (hk:=?_);refine sE ?_;refine dY rfl w4 rfl (wTP [15] Tryz.func176 (hf:=(hp1))) rfl ?_;refine wKd ?_
  try simp only[go_sem,gA,gB,gC]
  refine wG tK ?_;refine ZW ZM ?_;refine ZS rfl ?_;refine sNq tK 10 ?_ ?_ z6 z6 k7
  ·simp[ZD]
  refine sC Tryz.func180 (hf:=(hp2)) (hk:=?_);refine sNq tK 2 ?_ ?_ z6 z6 k7
  ·simp[ZD]
  refine sE ?_;refine dSq tK ?_ ?_
  ·simp[go_sem,ZD]
  refine wKd ?_
  try simp only[go_sem,gA,gB,gC]
  refine wG tK ?_;refine wU ?_ (cR ?_ ?_)
  ·simp
  ·simp[go_sem,ZD]
  ·simp[go_sem]
def eK (l:List Node) (a:Act):Int:=match aj l a.fid with
 | none=>12
 | some n=>if n.dir then 9 else if a.data.length>20 then 4 else 0
def eh (l:List Node) (a:Act) (v:Int):List Node:=if eK l a=0 then aE l { aq l a.fid with data:=a.data,version:=v } else l
theorem Ew (l:List Node) (a:Act) (v:Int) (hl:Small l) (ha:a.data.length≤100000000) (G Y N:Nat->Nat):ae Tryz.prog 149 [.ptr 15 9 0 0] (dH (ZD l a v) G Y N)
  (λr H=>r=.int .i64 (eK l a)/\∀i b,aa (dH (ZD (eh l a v) a v) G Y N) i=some b->aa H i=some b):=by
 have hsm:(aq l a.fid).Small:=hl.find a.fid;have hmE:eh l a v=if eK l a=0 then aE l { aq l a.fid with data:=a.data,version:=v } else l:=rfl;rw[hmE];have hp1:=px l a v { aq l a.fid with data:=a.data } hl ⟨ha,hsm.entries⟩;have hlet:({ ({ aq l a.fid with data:=a.data }:Node) with version:=v }:Node)={ aq l a.fid with data:=a.data,version:=v }:=rfl;rw[hlet] at hp1;generalize aE l { aq l a.fid with data:=a.data,version:=v }=l2 at hp1;unfold eK;unfold aq at hp1;unfold dH;refine ZF tK (Tryz.func149) rfl (λC=>?_);simp only[Tryz.ntmps149,Tryz.results149,go_sem];refine wG tK ?_;refine ZW ZM ?_;refine ZS rfl ?_;refine sNq tK 9 ?_ ?_ z6 z6 k7
 ·simp[ZD]
 refine sC Tryz.func82 (hf:=(eo l a.fid hl)) (hk:=?_);simp only[go_sem,gf];rw[cE];cases hfd:aj l a.fid with
 | none=>
  simp only[Option.getD_none,Option.isSome_none];refine sG tK ?_;refine sW tK ?_;simp only[go_sem,ZN,aw];refine sT tK ?_;refine sE ?_;refine dS tK ?_;refine wKd ?_
  try simp only[go_sem,gA,gB,gC]
  refine wG tK ?_;refine wD (λh=>?_) (λh=>?_)
  ·refine wG tK ?_;refine wU ?_ (cR ?_ ?_)
   ·simp
   ·simp[go_sem,ZD]
   ·simp[go_sem]
  ·cases h
 | some x=>
  rw[hfd] at hp1;simp only[Option.getD_some,Option.isSome_some] at hp1 ⊢;refine sG tK ?_;refine sW tK ?_;simp only[go_sem,ZN];refine sT tK ?_;refine sE ?_;refine dS tK ?_;refine wKd ?_
  try simp only[go_sem,gA,gB,gC]
  refine wG tK ?_;refine wD (λh=>?_) (λh=>?_)
  ·cases h
  refine wG tK ?_;refine wD (λh=>?_) (λh=>?_)
  ·have h0:x.dir=true:=h;refine wG tK ?_;refine wU ?_ (cR ?_ ?_)
   ·simp[h0]
   ·simp[go_sem,ZD,h0]
   ·simp[go_sem]
  have h0:x.dir=false:=h;refine wGq tK ?_ ?_ k7
  ·simp[ZD]
  refine wD (λh=>?_) (λh=>?_)
  ·have h1:a.data.length>20:=by simp at h;omega
   refine wG tK ?_;refine wU ?_ (cR ?_ ?_)
   ·simp[h0,h1]
   ·simp[go_sem,ZD,h0,h1]
   ·simp[go_sem]
  have h1:¬a.data.length>20:=by simp at h;omega
  have hs0:(if x.dir=true then (9:Int) else if a.data.length>20 then 4 else 0)=0:=by simp[h0,h1]
  simp only[hs0,if_true];refine wGq tK ?_ ?_ k7
  ·simp[ZD]
  refine wP [15] Tryz.func176 (hf:=(hp1)) (hk:=?_);refine wG tK ?_;refine wU ?_ (cR ?_ ?_)
  ·simp
  ·simp[go_sem,ZD]
  ·simp[go_sem]
def er (v:Bool):List Node->List Node->Bool
 | [],[]=>true
 | x::a,y::b=>bW v x y&&er v a b
 | _,_=>false
theorem fD (v:Bool):∀(a b:List Node),er v a b=true↔a.length=b.length/\∀j,j<a.length->bW v (a.getD j default) (b.getD j default)=true
 | [],[]=>by simp[er]
 | [],_::_=>by simp[er]
 | _::_,[]=>by simp[er]
 | x::a,y::b=>by
  rw[er,Bool.and_eq_true,fD v a b];constructor
  ·rintro ⟨h1,h2,h3⟩;refine ⟨by simp[h2],λj hj=>?_⟩;cases j with
   | zero=>simpa using h1
   | succ j=>simpa using h3 j QC
  ·rintro ⟨h2,h3⟩;refine ⟨by simpa using h3 0 y7,by simpa using h2,λj hj=>by simpa using h3 (j+1) QC⟩
theorem Gw (a b:List Node) (v:Bool) (ha:Small a) (hb:Small b):ae Tryz.prog 53 [.sl (a.map ZN),.sl (b.map ZN),.bool v] [] (λr _=>r=.bool (er v a b)):=by
 have hla:=ha.len;have hlb:=hb.len;refine ZF tK (Tryz.func53) rfl (λC=>?_);simp only[Tryz.ntmps53,Tryz.results53,go_sem];refine wG tK ?_;refine wD (λh=>?_) (λh=>?_)
 ·have hne:er v a b=false:=by
   cases e:er v a b with
   | false=>rfl
   | true=>have:=((fD v a b).1 e).1;simp[this] at h
  refine wG tK ?_;refine wT ?_;simp[hne]
 have hl:a.length=b.length:=by simp at h;omega
 refine wG tK ?_;refine ZL (λi:Nat=>i≤a.length/\∀j,j<i->bW v (a.getD j default) (b.getD j default)=true) (λi=>a.length-i) (λi=>(7,.any)::(15,.int .i64 i)::u0 16 14 []) (λ_=>[]) 0 ⟨by omega,by omega⟩ ?_ λi hi=>?_
 ·simp only[go_sem];exact ZU w3 w3 w3
 obtain ⟨hi,hs⟩:=hi;simp only[go_sem];refine wG tK ?_;refine wD (λh=>?_) (λh=>?_)
 ·have hlt:i<a.length:=by simp at h;omega
  have hltb:i<b.length:=by omega
  have hga:(a.map ZN).getD i []=ZN (a.getD i default):=Fam.getD hlt;have hgb:(b.map ZN).getD i []=ZN (b.getD i default):=Fam.getD hltb;have hsm:=jl _ _ v (ha.each _ (YG hlt)) (hb.each _ (YG hltb));have hno:bW v (a.getD i default) (b.getD i default)=false->er v a b=false:=λh0=>by
   cases e:er v a b with
   | false=>rfl
   | true=>rw[((fD v a b).1 e).2 i hlt] at h0;cases h0
  have hyes:bW v (a.getD i default) (b.getD i default)=true->∀j,j<i+1->bW v (a.getD j default) (b.getD j default)=true:=λh0 j hj=>by
   rcases Nat.lt_succ_iff_lt_or_eq.1 hj with h1 | rfl
   ·exact hs j h1
   ·exact h0
  clear hs;generalize a.getD i default=x at hga hsm hno hyes;generalize b.getD i default=y at hgb hsm hno hyes;refine wG tK ?_;refine ZW ZM ?_;refine ZS rfl ?_;refine sNq tK 9 ?_ ?_ z6 z6 WJ
  ·simp[hga,hgb,ZN,hlt,hltb]
  refine sC Tryz.func87 (hf:=(hsm)) (hk:=?_);refine sG tK ?_;refine sE ?_;refine wKd ?_;refine wD (λh=>?_) (λh=>?_)
  ·have h0:bW v x y=false:=by simpa using h
   have:=hno h0;refine wG tK ?_;refine wT ?_;simp[this]
  ·have h0:bW v x y=true:=by simpa using h
   have hw:=wi1 (i:=i) z8;refine wG tK ?_ w5 k0;refine ZB ⟨i+1,⟨by omega,hyes h0⟩,by omega,ZU ?_ ?_ ?_⟩
   ·simp[go_sem]
   ·simp[go_sem]
   ·simp[go_sem]
 ·have e:i=a.length:=by simp at h;omega
  subst e;have hab:er v a b=true:=(fD v a b).2 ⟨hl,hs⟩;refine wG tK ?_;refine wT ?_;simp[hab]
theorem Il:ae Tryz.prog 52 [] [] (λr _=>r=.sl [[.int .i64 0,.bool true,.nils,.nils,.int .i64 0]]):=by
 refine ZF tK (Tryz.func52) rfl (λC=>?_);simp only[Tryz.ntmps52,Tryz.results52,go_sem];refine wG tK ?_;refine ZZ 2 rfl (rfl) ?_;simp only[go_sem];refine wT ?_;rfl
def bn (l:List Node) (fid:Int):Nat->Int->Option Bool
 | 0,_=>none
 | f+1,k=>if fid=k then some true else match aj l k with
  | none=>some false
  | some n=>if n.entries.all (λe=>decide (e.fid=k)||(bn l fid f e.fid).isSome) then some (n.entries.any λe=>!(decide (e.fid=k))&&(bn l fid f e.fid).getD false) else none
theorem yM (l:List Node) (fid k:Int) (e:Entry) (b:Bool) (h:e.fid≠k->ae Tryz.prog 181 [.sl (l.map ZN),.int .i64 fid,.int .i64 e.fid] [] (λr _=>r=.bool b)) :
  ae Tryz.prog 215 [.agg (ZE e),.rp [.int .i64 k] 0,.rp [.sl (l.map ZN)] 0,.rp [.int .i64 fid] 0] [] (λr _=>r=.bool (!(decide (e.fid=k))&&b)):=by
 unfold ZE;refine ZF tK (Tryz.func215) rfl (λC=>?_);simp only[Tryz.ntmps215,Tryz.results215,go_sem];refine wR ?_;refine wN tK 2 ?_;refine wR ?_;refine ZZ 4 rfl (rfl) ?_;simp only[go_sem];refine wN tK 4 ?_;refine ak 9 z6 (λc9 h9=>?_);simp only[go_sem];cases c9 with
 | true=>
  have hne:e.fid≠k:=by simpa using h9
  refine wG tK ?_;refine wCC Tryz.func181 (hf:=λhb=>(h hne)) (hk:=?_);refine wG tK ?_;refine wT ?_;simp[hne]
 | false=>
  have hne:e.fid=k:=by simpa using h9
  refine wG tK ?_;refine fI (.bool false) rfl ?_;simp only[go_sem];refine wG tK ?_;refine wT ?_;simp[hne]
theorem yN (l:List Node) (hl:Small l) (fid:Int) (f:Nat) (ih:∀(k:Int) (b:Bool),bn l fid f k=some b->ae Tryz.prog 181 [.sl (l.map ZN),.int .i64 fid,.int .i64 k] [] (λr _=>r=.bool b)) (k:Int) (b:Bool) (hb:bn l fid (f+1) k=some b) :
  ae Tryz.prog 181 [.sl (l.map ZN),.int .i64 fid,.int .i64 k] [] (λr _=>r=.bool b):=by
 unfold bn at hb;refine ZF tK (Tryz.func181) rfl (λC=>?_);simp only[Tryz.ntmps181,Tryz.results181,go_sem];refine wG tK ?_;refine wD (λh=>?_) (λh=>?_)
 ·have e:fid=k:=by simpa using h
  rw[if_pos e] at hb;refine wG tK ?_;refine wT ?_;simpa using hb
 have e:¬fid=k:=by simpa using h
 rw[if_neg e] at hb;refine ZZ 3 rfl (rfl) ?_;refine ZZ 4 rfl (rfl) ?_;refine ZZ 5 rfl (rfl) ?_;simp only[go_sem];refine wG tK ?_;refine wC Tryz.func82 (hf:=(eo l k hl)) (hk:=?_);have hsm:=hl.find k;simp only[go_sem,gf];rw[cE];generalize hfd:aj l k=o at hb hsm;cases o with
 | none=>
  simp only[Option.getD_none,Option.isSome_none] at hb ⊢;refine wGq tK ?_ ?_ QQ
  ·simp[ZN]
  refine wD (λh=>?_) (λh=>?_)
  ·refine wG tK ?_;refine wT ?_;simpa using hb
  ·cases h
 | some n=>
  simp only[Option.getD_some,Option.isSome_some] at hb hsm ⊢;split at hb
  ·rename_i hall;injection hb with hb
   have hcl:=nf n.entries hsm.entries (f:=215) (caps:=[.rp [.int .i64 k] 0,.rp [.sl (l.map ZN)] 0,.rp [.int .i64 fid] 0]) (p:=λe=>!(decide (e.fid=k))&&(bn l fid f e.fid).getD false) ⟨_,Go.Proofs.Tryz.func215,by kernel_rfl,rfl⟩ rfl (λx hx=>yM l fid k x ((bn l fid f x.fid).getD false) (λhne=>by
    have h1:=List.all_eq_true.1 hall x hx;simp only[hne,decide_false,Yk] at h1;cases h2:bn l fid f x.fid with
    | none=>rw[h2] at h1;cases h1
    | some c=>exact ih x.fid c h2))
   refine wGq tK ?_ ?_ w6
   ·simp[ZN]
   refine wD (λh=>?_) (λh=>?_)
   ·cases h
   refine wGq tK ?_ ?_ w6
   ·simp[ZN]
   refine wC Tryz.func214 (hf:=(hcl)) (hk:=?_);refine wG tK ?_;refine wT ?_;simpa using hb
  ·cases hb
theorem uK (l:List Node) (hl:Small l) (fid:Int):∀(f:Nat) (k:Int) (b:Bool),bn l fid f k=some b->ae Tryz.prog 181 [.sl (l.map ZN),.int .i64 fid,.int .i64 k] [] (λr _=>r=.bool b)
 | 0,_,_,h=>by cases h
 | f+1,k,b,h=>yN l hl fid f (uK l hl fid f) k b h
theorem Ch (a b:Node) (ha:a.Small) (hb:b.Small):ae Tryz.prog 122 [.agg (ZN a),.agg (ZN b)] [] (λr _=>r=.bool (bW false a b)):=by
 have hla:=ha.entries;have hlb:=hb.entries;unfold ZN;refine ZF tK (Tryz.func122) rfl (λC=>?_);simp only[Tryz.ntmps122,Tryz.results122,go_sem];refine wR ?_;refine wN tK 3 ?_;refine wR ?_;refine ZZ 2 rfl (rfl) ?_;refine ZZ 3 rfl (rfl) ?_;simp only[go_sem];refine wN tK 5 ?_;refine ak 9 z6 (λc9 h9=>?_);simp only[go_sem];refine wN tK 7 ?_;refine ak 16 z6 (λc16 h16=>?_);simp only[go_sem];refine wN tK 5 ?_;refine wCC Tryz.func123 (hf:=λhb=>(tf a.data b.data)) (hk:=?_);refine wN tK 1 ?_;refine ak 23 z6 (λc23 h23=>?_);simp only[go_sem];refine wN tK 5 ?_;refine wCC Tryz.func124 (hf:=λhb=>(qq a.entries b.entries hla hlb)) (hk:=?_);refine wG tK ?_;refine wT ?_;subst h23 h16 h9;unfold bW;cases (a.fid==b.fid)<;>cases (a.dir==b.dir)<;>cases (a.data==b.data)<;>cases decide (a.entries=b.entries)<;>rfl
end La
namespace La
open Go Go.Eng Go.Proofs
open Classical in
noncomputable def jr (l:List Node) (fid k:Int):Bool:=decide (∃f,bn l fid f k=some true)
def toN (l:List Node) (a:Act):Node:=if a.to=a.dir then aA (aq l a.dir) a.name else aq l a.to
noncomputable def de (l:List Node) (a:Act):Int:=if bw l a=0 then (if eu l a.to=0 then (if bO (toN l a) a.toName=0 then (if bg l a.fid=true then (if jr l a.to a.fid=true then 11 else 0) else 12) else bO (toN l a) a.toName) else eu l a.to) else bw l a
noncomputable def cW (l:List Node) (a:Act) (v:Int):List Node:=if de l a=0 then aE (if a.to=a.dir then l else aE l { aA (aq l a.dir) a.name with version:=v }) { ay (toN l a) a.toName a.fid with version:=v } else l
noncomputable def aD (l:List Node) (a:Act):Int:=if a.kind=1 then cL l a else if a.kind=2 then cL l a else if a.kind=3 then eK l a else if a.kind=4 then cG l a else if a.kind=5 then de l a else 1
noncomputable def aH (l:List Node) (a:Act) (v:Int):List Node:=if a.kind=1 then dD l a v else if a.kind=2 then dD l a v else if a.kind=3 then eh l a v else if a.kind=4 then cH l a v else if a.kind=5 then cW l a v else l
noncomputable def oJ (l:List Node) (a:Act) (v:Int):AV:=if aD l a=0 then .tup [.sl ((aH l a v).map ZN),.int .i64 0] else .tup [.sl [],.int .i64 (aD l a)]
structure FitA (l:List Node) (a:Act):Prop where
 small:Small l
 len:l.length≤99999990
 ent:∀n,n∈l->n.entries.length≤99999990
 name:a.name.length≤100000000
 toName:a.toName.length≤100000000
 data:a.data.length≤100000000
theorem Bm (l:List Node) (a:Act) (v:Int) (hf:FitA l a)
  (hren:a.kind=5->∀(G Y N:Nat->Nat),ae Tryz.prog 151 [.ptr 15 9 0 0] (dH (ZD l a v) G Y N) (λr H=>r=.int .i64 (de l a)/\∀i b,aa (dH (ZD (cW l a v) a v) G Y N) i=some b->aa H i=some b)) :
  ae Tryz.prog 109 [.sl (l.map ZN),.agg (ZA a),.int .i64 v] [] (λr _=>r=if aD l a=0 then .tup [.sl ((aH l a v).map ZN),.int .i64 0] else .tup [.nils,.int .i64 (aD l a)]):=by
 have hl:=hf.small;have c1:=F9 l a v hl hf.len hf.ent hf.name;have c3:=Ew l a v hl hf.data;have c4:=B2 l a v hl hf.len hf.name;generalize hE:aD l a=e;generalize hL:aH l a v=L;refine ZF tK (Tryz.func109) rfl (λC=>?_);simp only[Tryz.ntmps109,Tryz.results109,go_sem];refine wGq tK ?_ ?_ QX
 ·simp
 refine ZZ 4 rfl (rfl) ?_;simp only[go_sem];refine ZW ZM ?_;refine ZS rfl ?_;refine sG tK ?_;refine sC Tryz.func66 (hf:=(kJ l hl)) (hk:=?_);refine sN tK 2 ?_ z6 z6 QX (by simp[go_sem,ZA]);refine sB tK ?_;refine sW tK ?_;refine sE ?_;refine dS tK ?_;refine wKd ?_
 try simp only[go_sem,gA,gB,gC]
 refine wG tK ?_;refine wD (λh=>?_) (λh=>?_)
 ·have hk:a.kind=1:=by simpa using h
  have q1:cL l a=e:=by rw[←hE];simp[aD,hk]
  have q2:dD l a v=L:=by rw[←hL];simp[aH,hk]
  rw[q1,q2] at c1;refine wG tK ?_;refine wDT (hb:=p9) (hk:=?_);refine wG tK ?_;refine wP [15] Tryz.func148 (hf:=(c1)) (hk:=?_);refine wG tK ?_;refine wD (λh=>?_) (λh=>?_)
  ·have he:e≠0:=by simpa using h
   refine wG tK ?_;refine wT ?_;simp[he]
  ·have he:e=0:=by simpa using h
   refine wGq tK ?_ ?_ k7
   ·simp[ZD]
   refine wT ?_;simp[he]
 have hk1:¬a.kind=1:=by simpa using h
 refine wG tK ?_
 by_cases hk2:a.kind=2
 ·have hk:a.kind=2:=hk2;have q1:cL l a=e:=by rw[←hE];simp[aD,hk]
  have q2:dD l a v=L:=by rw[←hL];simp[aH,hk]
  rw[q1,q2] at c1;refine wDT (hb:=p9) (hk:=?_);refine wG tK ?_;refine wP [15] Tryz.func148 (hf:=(c1)) (hk:=?_);refine wG tK ?_;refine wD (λh=>?_) (λh=>?_)
  ·have he:e≠0:=by simpa using h
   refine wG tK ?_;refine wT ?_;simp[he]
  ·have he:e=0:=by simpa using h
   refine wGq tK ?_ ?_ k7
   ·simp[ZD]
   refine wT ?_;simp[he]
 refine wDF (hb:=(by simpa using hk2)) (hk:=?_);refine wG tK ?_;refine wD (λh=>?_) (λh=>?_)
 ·have hk:a.kind=3:=by simpa using h
  have q1:eK l a=e:=by rw[←hE];simp[aD,hk]
  have q2:eh l a v=L:=by rw[←hL];simp[aH,hk]
  rw[q1,q2] at c3;refine wG tK ?_;refine wP [15] Tryz.func149 (hf:=(c3)) (hk:=?_);refine wG tK ?_;refine wD (λh=>?_) (λh=>?_)
  ·have he:e≠0:=by simpa using h
   refine wG tK ?_;refine wT ?_;simp[he]
  ·have he:e=0:=by simpa using h
   refine wGq tK ?_ ?_ k7
   ·simp[ZD]
   refine wT ?_;simp[he]
 have hk3:¬a.kind=3:=by simpa using h
 refine wG tK ?_;refine wD (λh=>?_) (λh=>?_)
 ·have hk:a.kind=4:=by simpa using h
  have q1:cG l a=e:=by rw[←hE];simp[aD,hk]
  have q2:cH l a v=L:=by rw[←hL];simp[aH,hk]
  rw[q1,q2] at c4;refine wG tK ?_;refine wP [15] Tryz.func150 (hf:=(c4)) (hk:=?_);refine wG tK ?_;refine wD (λh=>?_) (λh=>?_)
  ·have he:e≠0:=by simpa using h
   refine wG tK ?_;refine wT ?_;simp[he]
  ·have he:e=0:=by simpa using h
   refine wGq tK ?_ ?_ k7
   ·simp[ZD]
   refine wT ?_;simp[he]
 have hk4:¬a.kind=4:=by simpa using h
 refine wG tK ?_;refine wD (λh=>?_) (λh=>?_)
 ·have hk:a.kind=5:=by simpa using h
  have c5:=hren hk;have q1:de l a=e:=by rw[←hE];simp[aD,hk]
  have q2:cW l a v=L:=by rw[←hL];simp[aH,hk]
  rw[q1,q2] at c5;refine wG tK ?_;refine wP [15] Tryz.func151 (hf:=(c5)) (hk:=?_);refine wG tK ?_;refine wD (λh=>?_) (λh=>?_)
  ·have he:e≠0:=by simpa using h
   refine wG tK ?_;refine wT ?_;simp[he]
  ·have he:e=0:=by simpa using h
   refine wGq tK ?_ ?_ k7
   ·simp[ZD]
   refine wT ?_;simp[he]
 have hk5:¬a.kind=5:=by simpa using h
 have q1:e=1:=by rw[←hE];simp[aD,hk1,hk2,hk3,hk4,hk5]
 subst q1;refine wG tK ?_;refine wDT (hb:=y7) (hk:=?_);refine wG tK ?_;refine wT ?_;simp
theorem CX (l:List Node) (a:Act) (v:Int) (hf:FitA l a)
  (hren:a.kind=5->∀(G Y N:Nat->Nat),ae Tryz.prog 151 [.ptr 15 9 0 0] (dH (ZD l a v) G Y N) (λr H=>r=.int .i64 (de l a)/\∀i b,aa (dH (ZD (cW l a v) a v) G Y N) i=some b->aa H i=some b)) :
  ae Tryz.prog 109 [.sl (l.map ZN),.agg (ZA a),.int .i64 v] [] (λr _=>r=oJ l a v):=by
 refine ae.iO (Bm l a v hf hren) ?_;unfold oJ;split
 ·have h1:iO ((aH l a v).map ZN)=(aH l a v).map ZN:=by
   rw[dz,YX];exact Yb λn _=>p_ n
  simp only[nrm,eW,h1]
 ·rfl
end La
namespace La
open Go Go.Eng Go.Proofs
theorem oG (l:List Node) (fid:Int):∀(f:Nat) (k:Int) (b:Bool),bn l fid f k=some b->bn l fid (f+1) k=some b
 | 0,_,_,h=>by cases h
 | f+1,k,b,h=>by
  rw[bn] at h ⊢
  by_cases hk:fid=k
  ·rw[if_pos hk] at h ⊢;exact h
  ·rw[if_neg hk] at h ⊢;cases e:aj l k with
   | none=>rw[e] at h;exact h
   | some n=>
    rw[e] at h;simp only at h ⊢;split at h
    ·rename_i hall;injection h with h
     have key:∀x,x∈n.entries->decide (x.fid=k)=false->bn l fid (f+1) x.fid=bn l fid f x.fid:=λx hx hne=>by
      have h1:=List.all_eq_true.1 hall x hx;rw[hne,Yk] at h1;cases h2:bn l fid f x.fid with
      | none=>rw[h2] at h1;cases h1
      | some c=>exact oG l fid f x.fid c h2
     rw[if_pos (List.all_eq_true.2 λx hx=>by
      cases hne:decide (x.fid=k) with
      | true=>rfl
      | false=>rw[key x hx hne,←hne];exact List.all_eq_true.1 hall x hx),←h]
     congr 1
     rw[YZ,List.any_eq_true,List.any_eq_true];constructor
     ·rintro ⟨x,hx,h3⟩;refine ⟨x,hx,?_⟩;cases hne:decide (x.fid=k) with
      | true=>rw[hne] at h3;exact h3
      | false=>rw[key x hx hne,hne] at h3;exact h3
     ·rintro ⟨x,hx,h3⟩;refine ⟨x,hx,?_⟩;cases hne:decide (x.fid=k) with
      | true=>rw[hne] at h3;exact h3
      | false=>rw[hne] at h3;rw[key x hx hne];exact h3
    ·cases h
theorem ta {l:List Node} {fid k:Int} {b:Bool} {f g:Nat} (hfg:f≤g) (h:bn l fid f k=some b):bn l fid g k=some b:=by
 obtain ⟨d,rfl⟩:=Nat.exists_eq_add_of_le hfg;clear hfg
 induction d with
 | zero=>exact h
 | succ d ih=>exact oG l fid _ k b ih
open Classical in
theorem AB {l:List Node} {fid k:Int} {b:Bool} {f:Nat} (h:bn l fid f k=some b):jr l fid k=b:=by
 unfold jr;cases b with
 | true=>exact decide_eq_true ⟨f,h⟩
 | false=>
  refine decide_eq_false ?_;rintro ⟨g,hg⟩
  rcases Nat.le_total f g with hle | hle
  ·rw[ta hle h] at hg;cases hg
  ·rw[ta hle hg] at h;cases h
theorem rO {l:List Node} (hl:Small l) (k:Int):(aq l k).Small:=hl.find k
theorem B3 (l:List Node) (a:Act) (v:Int) (hf:FitA l a) (f:Nat) (hw:bn l a.to f a.fid=some (jr l a.to a.fid)) (G Y N:Nat->Nat):ae Tryz.prog 151 [.ptr 15 9 0 0] (dH (ZD l a v) G Y N)
  (λr H=>r=.int .i64 (de l a)/\∀i b,aa (dH (ZD (cW l a v) a v) G Y N) i=some b->aa H i=some b):=by
 have hl:=hf.small;have hlen:=hf.len;have hmE:cW l a v=if de l a=0 then aE (if a.to=a.dir then l else aE l { aA (aq l a.dir) a.name with version:=v }) { ay (toN l a) a.toName a.fid with version:=v } else l:=rfl;rw[hmE];unfold de;have hwi:=uK l hl a.to f a.fid _ hw;generalize jr l a.to a.fid=wb at hwi;have hsn:=rO hl a.dir;have hst:=rO hl a.to;have hent:∀k,(aq l k).entries.length≤99999990:=λk=>by
  unfold aq;cases e:aj l k with
  | none=>simp[aw]
  | some n=>exact hf.ent n (oV e)
 have hlv:=xF (aq l a.dir) a.name hsn;have hls:=nW hsn a.name;have hto:(toN l a).Small:=by unfold toN;split;exact hls;exact hst
 have htoe:(toN l a).entries.length≤99999990:=by
  unfold toN;split
  ·have h1:=Wr (λe:Entry=>!(e.name==a.name)) (aq l a.dir).entries;have h2:=hent a.dir;have h3:(aA (aq l a.dir) a.name).entries.length≤(aq l a.dir).entries.length:=h1;omega
  ·exact hent a.to
 have hroom:=Bb (toN l a) a.toName hto hf.toName;have hent2:=wM (toN l a) a.toName a.fid hto;have hens:=nN hto a.toName a.fid z8;have hp1:=px l a v (aA (aq l a.dir) a.name) hl hls;have hl1:Small (if a.to=a.dir then l else aE l { aA (aq l a.dir) a.name with version:=v }):=by
  split
  ·exact hl
  ·exact nt hl ⟨hls.data,hls.entries⟩ z8
 have hp2:=px (if a.to=a.dir then l else aE l { aA (aq l a.dir) a.name with version:=v }) a v (ay (toN l a) a.toName a.fid) hl1 hens;have hT:toN l a=if a.to=a.dir then aA (aq l a.dir) a.name else aq l a.to:=rfl;unfold dH;refine ZF tK (Tryz.func151) rfl (λC=>?_);simp only[Tryz.ntmps151,Tryz.results151,go_sem];refine wG tK ?_;refine wP [15] Tryz.func178 (hf:=(xM l a v hl hf.name)) (hk:=?_);generalize aE (if a.to=a.dir then l else aE l { aA (aq l a.dir) a.name with version:=v }) { ay (toN l a) a.toName a.fid with version:=v }=l2 at hp2;generalize ay (toN l a) a.toName a.fid=en at hent2 hp2;generalize toN l a=T at *;generalize aA (aq l a.dir) a.name=lv at *;generalize aq l a.dir=n at *;generalize hge:bw l a=e;refine wGq tK ?_ ?_ w6
 ·simp[ZN]
 refine wD (λh=>?_) (λh=>?_)
 ·have he:e≠0:=by simpa using h
  refine wG tK ?_;refine wU ?_ (cR ?_ ?_)
  ·simp[he]
  ·simp[go_sem,ZD,he]
  ·simp[go_sem]
 have he:e=0:=by simpa using h
 subst he;simp only[if_true];refine wGq tK ?_ ?_ k7
 ·simp[ZD]
 refine wP [15] Tryz.func174 (hf:=(zb l a v a.to hl)) (hk:=?_);generalize aq l a.to=m at *;generalize hgd:eu l a.to=e;refine wGq tK ?_ ?_ w6
 ·simp[ZN]
 refine wD (λh=>?_) (λh=>?_)
 ·have he:e≠0:=by simpa using h
  refine wG tK ?_;refine wU ?_ (cR ?_ ?_)
  ·simp[he]
  ·simp[go_sem,ZD,he]
  ·simp[go_sem]
 have he:e=0:=by simpa using h
 subst he;simp only[if_true];refine wG tK ?_;refine ZW ZM ?_;refine ZS rfl ?_;refine sNq tK 11 ?_ ?_ z6 z6 k7
 ·simp[ZD]
 refine sE ?_;refine wKd ?_
 try simp only[go_sem,gA,gB,gC]
 refine wD (λh=>?_) (λh=>?_)
 ·have htd:a.to=a.dir:=by simpa using h
  simp only[htd,if_true] at hT hp2;subst hT;refine wG tK ?_;refine ZW ZM ?_;refine ZS rfl ?_;refine sNq tK 6 ?_ ?_ z6 z6 n3
  ·simp[ZD,ZN]
  refine sC Tryz.func179 (hf:=(hlv)) (hk:=?_);refine sE ?_;refine dSq tK ?_ ?_
  ·simp[go_sem,ZN]
  refine wKd ?_
  try simp only[go_sem,gA,gB,gC]
  refine wG tK ?_;refine ZW ZM ?_;refine ZS rfl ?_;refine sNq tK 6 ?_ ?_ z6 z6 n3
  ·simp[ZD,ZN]
  refine sC Tryz.func175 (hf:=(hroom)) (hk:=?_);refine sE ?_;refine dS tK ?_;refine wKd ?_
  try simp only[go_sem,gA,gB,gC]
  generalize hgr:bO T a.toName=e;refine wG tK ?_;refine wD (λh=>?_) (λh=>?_)
  ·have he:e≠0:=by simpa using h
   refine wG tK ?_;refine wU ?_ (cR ?_ ?_)
   ·simp[he]
   ·simp[go_sem,ZD,he]
   ·simp[go_sem]
  have he:e=0:=by simpa using h
  subst he;simp only[if_true];refine wG tK ?_;refine ZW ZM ?_;refine ZS rfl ?_;refine sNq tK 9 ?_ ?_ z6 z6 k7
  ·simp[ZD]
  refine sC Tryz.func82 (hf:=(eo l a.fid hl)) (hk:=?_);simp only[go_sem,gf];generalize hgx:(aj l a.fid).getD aw=x;generalize hga:bg l a.fid=ia;refine sG tK ?_;refine sW tK ?_;simp only[go_sem,ZN];refine sT tK ?_;refine sE ?_;refine dS tK ?_;refine wKd ?_
  try simp only[go_sem,gA,gB,gC]
  refine wG tK ?_;refine wD (λh=>?_) (λh=>?_)
  ·have h0:ia=false:=by simpa using h
   subst h0;refine wG tK ?_;refine wU ?_ (cR ?_ ?_)
   ·simp
   ·simp[go_sem,ZD]
   ·simp[go_sem]
  have h0:ia=true:=by simpa using h
  subst h0;simp only[if_true];refine wG tK ?_;refine ZW ZM ?_;refine ZS rfl ?_;refine sNq tK 14 ?_ ?_ z6 z6 k7
  ·simp[ZD]
  refine sC Tryz.func181 (hf:=(hwi)) (hk:=?_);refine sE ?_;refine wKd ?_
  try simp only[go_sem,gA,gB,gC]
  refine wD (λh=>?_) (λh=>?_)
  ·have h0:wb=true:=by simpa using h
   subst h0;refine wG tK ?_;refine wU ?_ (cR ?_ ?_)
   ·simp
   ·simp[go_sem,ZD]
   ·simp[go_sem]
  have h0:wb=false:=by simpa using h
  subst h0;simp only[Bool.false_eq_true,if_false,if_true];refine wG tK ?_;refine ZW ZM ?_;refine ZS rfl ?_;refine sNq tK 11 ?_ ?_ z6 z6 k7
  ·simp[ZD]
  refine sE ?_;refine wKd ?_
  try simp only[go_sem,gA,gB,gC]
  refine wDF (hb:=(by simp[htd])) (hk:=?_);refine wG tK ?_;refine ZW ZM ?_;refine ZS rfl ?_;refine sNq tK 12 ?_ ?_ z6 z6 n3
  ·simp[ZD,ZN]
  refine sC Tryz.func177 (hf:=(hent2)) (hk:=?_);refine sE ?_;refine dY rfl w4 rfl (wTP [15] Tryz.func176 (hf:=(hp2))) rfl ?_;refine wKd ?_
  try simp only[go_sem,gA,gB,gC]
  refine wG tK ?_;refine wU ?_ (cR ?_ ?_)
  ·simp
  ·simp[go_sem,ZD]
  ·simp[go_sem]
 ·have htd:¬a.to=a.dir:=by simpa using h
  simp only[htd,if_false] at hT hp2;subst hT;generalize aE l { lv with version:=v }=l1 at *;refine wG tK ?_;refine ZW ZM ?_;refine ZS rfl ?_;refine sNq tK 6 ?_ ?_ z6 z6 n3
  ·simp[ZD,ZN]
  refine sC Tryz.func175 (hf:=(hroom)) (hk:=?_);refine sE ?_;refine dS tK ?_;refine wKd ?_
  try simp only[go_sem,gA,gB,gC]
  generalize hgr:bO T a.toName=e;refine wG tK ?_;refine wD (λh=>?_) (λh=>?_)
  ·have he:e≠0:=by simpa using h
   refine wG tK ?_;refine wU ?_ (cR ?_ ?_)
   ·simp[he]
   ·simp[go_sem,ZD,he]
   ·simp[go_sem]
  have he:e=0:=by simpa using h
  subst he;simp only[if_true];refine wG tK ?_;refine ZW ZM ?_;refine ZS rfl ?_;refine sNq tK 9 ?_ ?_ z6 z6 k7
  ·simp[ZD]
  refine sC Tryz.func82 (hf:=(eo l a.fid hl)) (hk:=?_);simp only[go_sem,gf];generalize hgx:(aj l a.fid).getD aw=x;generalize hga:bg l a.fid=ia;refine sG tK ?_;refine sW tK ?_;simp only[go_sem,ZN];refine sT tK ?_;refine sE ?_;refine dS tK ?_;refine wKd ?_
  try simp only[go_sem,gA,gB,gC]
  refine wG tK ?_;refine wD (λh=>?_) (λh=>?_)
  ·have h0:ia=false:=by simpa using h
   subst h0;refine wG tK ?_;refine wU ?_ (cR ?_ ?_)
   ·simp
   ·simp[go_sem,ZD]
   ·simp[go_sem]
  have h0:ia=true:=by simpa using h
  subst h0;simp only[if_true];refine wG tK ?_;refine ZW ZM ?_;refine ZS rfl ?_;refine sNq tK 14 ?_ ?_ z6 z6 k7
  ·simp[ZD]
  refine sC Tryz.func181 (hf:=(hwi)) (hk:=?_);refine sE ?_;refine wKd ?_
  try simp only[go_sem,gA,gB,gC]
  refine wD (λh=>?_) (λh=>?_)
  ·have h0:wb=true:=by simpa using h
   subst h0;refine wG tK ?_;refine wU ?_ (cR ?_ ?_)
   ·simp
   ·simp[go_sem,ZD]
   ·simp[go_sem]
  have h0:wb=false:=by simpa using h
  subst h0;simp only[Bool.false_eq_true,if_false,if_true];refine wG tK ?_;refine ZW ZM ?_;refine ZS rfl ?_;refine sNq tK 11 ?_ ?_ z6 z6 k7
  ·simp[ZD]
  refine sE ?_;refine wKd ?_
  try simp only[go_sem,gA,gB,gC]
  refine wDT (hb:=(by simp[htd])) (hk:=?_);refine wG tK ?_;refine ZW ZM ?_;refine ZS rfl ?_;refine sNq tK 7 ?_ ?_ z6 z6 n3
  ·simp[ZD,ZN]
  refine sC Tryz.func179 (hf:=(hlv)) (hk:=?_);refine sE ?_;refine dY rfl w4 rfl (wTP [15] Tryz.func176 (hf:=(hp1))) rfl ?_;refine wKd ?_
  try simp only[go_sem,gA,gB,gC]
  refine wG tK ?_;refine ZW ZM ?_;refine ZS rfl ?_;refine sNq tK 12 ?_ ?_ z6 z6 n3
  ·simp[ZD,ZN]
  refine sC Tryz.func177 (hf:=(hent2)) (hk:=?_);refine sE ?_;refine dY rfl w4 rfl (wTP [15] Tryz.func176 (hf:=(hp2))) rfl ?_;refine wKd ?_
  try simp only[go_sem,gA,gB,gC]
  refine wG tK ?_;refine wU ?_ (cR ?_ ?_)
  ·simp
  ·simp[go_sem,ZD]
  ·simp[go_sem]
end La
namespace La
open Go
theorem oW {l:List Node} (h:Up l) (n:Node) (k:Int):aj (aE l n) k=if k=n.fid then some n else aj l k:=by
 by_cases e:k=n.fid
 ·subst e;rw[if_pos rfl];exact zL h n
 ·rw[if_neg e];exact (zM h n e).symm
theorem ze {l:List Node} (h:Up l) (f k:Int):aj (ez l f) k=if k=f then none else aj l k:=by
 obtain ⟨h1,h2⟩:=gH h f
 by_cases e:k=f
 ·subst e;rw[if_pos rfl];exact (eB h1).2 λx hx=>((h2 x).1 hx).2
 ·rw[if_neg e];cases e1:aj l k with
  | none=>
   rw[eB h1];exact λx hx=>(eB h).1 e1 x ((h2 x).1 hx).1
  | some x=>
   obtain ⟨k1,k2⟩:=(ZO h).1 e1;exact (ZO h1).2 ⟨(h2 x).2 ⟨k1,by rw[k2];exact e⟩,k2⟩
end La
namespace La
open Go Go.Eng
def k_ (r:Int->Nat) (l:List Node):Prop:=∀n,n∈l->∀e,e∈n.entries->r e.fid<r n.fid
inductive Reach (l:List Node):Int->Int->Prop
 | refl (k:Int):Reach l k k
 | head (n:Node) (e:Entry) (t:Int) (hn:n∈l) (he:e∈n.entries) (h:Reach l e.fid t):Reach l n.fid t
theorem Reach.tail {l:List Node} {k:Int} {n:Node} (hn:n∈l) {e:Entry} (he:e∈n.entries) (h:Reach l k n.fid):Reach l k e.fid:=by
 generalize ht:n.fid=t at h
 induction h with
 | refl k=>subst ht;exact .head n e _ hn he (.refl _)
 | head m d t hm hd h ih=>exact .head m d _ hm hd (ih ht)
theorem qp {l:List Node} (hu:Up l) {r:Int->Nat} (hr:k_ r l) (t:Int):∀(f:Nat) (k:Int),r k<f->∃b,bn l t f k=some b
 | 0,k,h=>by omega
 | f+1,k,h=>by
  rw[bn];split
  ·exact ⟨_,rfl⟩
  ·cases e:aj l k with
   | none=>exact ⟨_,rfl⟩
   | some n=>
    obtain ⟨hn,hk⟩:=(ZO hu).1 e;simp only;rw[if_pos (List.all_eq_true.2 λx hx=>by
     have h1:=hr n hn x hx;obtain ⟨b,hb⟩:=qp hu hr t f x.fid (by rw[hk] at h1;omega);rw[hb,Option.isSome_some,Bool.or_true])]
    exact ⟨_,rfl⟩
theorem oH {l:List Node} (hu:Up l) {r:Int->Nat} (hr:k_ r l) {k t:Int} (h:Reach l k t):∀(f:Nat) (b:Bool),bn l t f k=some b->b=true:=by
 induction h with
 | refl k=>
  intro f b hb;cases f with
  | zero=>cases hb
  | succ f=>rw[bn,if_pos rfl] at hb;injection hb with hb;exact hb.symm
 | head n e t hn he h ih=>
  intro f b hb;cases f with
  | zero=>cases hb
  | succ f=>
   rw[bn] at hb;split at hb
   ·injection hb with hb;exact hb.symm
   ·rw[(ZO hu).2 ⟨hn,rfl⟩] at hb;simp only at hb;split at hb
    ·rename_i hall;injection hb with hb
     rw[←hb,List.any_eq_true];have hne:decide (e.fid=n.fid)=false:=decide_eq_false λh0=>by have:=hr n hn e he;rw[h0] at this;omega
     have h1:=List.all_eq_true.1 hall e he;rw[hne,Yk] at h1;refine ⟨e,he,?_⟩;cases h2:bn l t f e.fid with
     | none=>rw[h2] at h1;cases h1
     | some c=>rw[hne,ih f c h2];rfl
    ·cases hb
theorem na {l:List Entry} {s:List UInt8} {f:Int} {x:Entry} (h:x∈bu l s f):x=⟨s,f⟩\/x∈l:=by
 unfold bu at h;split at h
 ·rcases Yf h with h | h
  ·exact .inr h
  ·exact .inl h
 ·rcases List.mem_append.1 h with h | h
  ·exact .inr (Wx h)
  ·rcases List.mem_cons.1 h with h | h
   ·exact .inl h
   ·exact .inr (YB h)
theorem kC {l:List Entry} {s:List UInt8} {x:Entry} (h:x∈c_ l s):x∈l:=(Wy.1 h).1
theorem fF {l:List Node} {n x:Node} (h:x∈aE l n):x=n\/x∈l:=by
 unfold aE at h;split at h
 ·rcases Yf h with h | h
  ·exact .inr h
  ·exact .inl h
 ·rcases List.mem_append.1 h with h | h
  ·exact .inr (Wx h)
  ·rcases List.mem_cons.1 h with h | h
   ·exact .inl h
   ·exact .inr (YB h)
structure Good (l:List Node):Prop where
 up:Up l
 cX:∃r,k_ r l
 len:l.length≤24
 data:∀n,n∈l->n.data.length≤20
 ent:∀n,n∈l->n.entries.length≤6
theorem Good.ends {l:List Node} (h:Good l) (t k:Int):∃f,bn l t f k=some (jr l t k):=by
 obtain ⟨r,hr⟩:=h.cX;obtain ⟨b,hb⟩:=qp h.up hr t (r k+1) k z8;exact ⟨_,by rw[AB hb];exact hb⟩
theorem im {l:List Node} {k:Int} (h:eu l k=0):∃n,aj l k=some n/\aq l k=n/\n.dir=true:=by
 unfold eu at h;unfold aq;cases e:aj l k with
 | none=>rw[e] at h;cases h
 | some n=>
  rw[e] at h;simp only at h;cases hd:n.dir with
  | false=>rw[hd] at h;cases h
  | true=>exact ⟨n,rfl,rfl,hd⟩
theorem qU {l:List Node} {n:Node} (h:bg l n.fid=true):(aE l n).length=l.length:=by
 unfold aE;rw[if_pos h,YL]
theorem ky {l:List Node} {k:Int} {n:Node} (h:aj l k=some n):bg l k=true:=by rw[cE,h];rfl
theorem rH (l:List Entry) (s:List UInt8) (f:Int):(bu l s f).length≤l.length+1:=by
 unfold bu;split
 ·simp
 ·have:=oT l s;simp;omega
theorem r_ (l:List Entry) (s:List UInt8):(c_ l s).length≤l.length:=Wr _ _
theorem sw {n:Node} {s:List UInt8} (h:bO n s=0):n.entries.length≤5:=by
 unfold bO at h;split at h
 ·split at h
  ·cases h
  ·split at h
   ·cases h
   ·omega
 ·cases h
end La
namespace La
open Go Go.Eng Go.Proofs
theorem o_ {l:List Node} (h:Good l) (a:Act) (v:Int) (he:cL l a=0):Good (dD l a v):=by
 have hL:dD l a v=aE (aE l { ay (aq l a.dir) a.name a.fid with version:=v }) (dC a v):=by unfold dD;rw[if_pos he]
 rw[hL];unfold cL at he;split at he
 ·rename_i hd;obtain ⟨n,hf,hg,_⟩:=im hd;rw[hg] at he ⊢;obtain ⟨hn,hnk⟩:=(ZO h.up).1 hf;split at he
  ·rename_i hro;have h5:=sw hro;split at he
   ·cases he
   ·rename_i hnew;have hno:bg l a.fid=false:=by
     cases e:bg l a.fid with
     | false=>rfl
     | true=>rw[e] at hnew;exact absurd rfl hnew
    have hnoN:∀x,x∈l->x.fid≠a.fid:=(eB h.up).1 (by
     cases e:aj l a.fid with
     | none=>rfl
     | some m=>rw[ky e] at hno;cases hno)
    split at he
    ·cases he
    ·rename_i h24;obtain ⟨r,hr⟩:=h.cX;have hfid:({ ay n a.name a.fid with version:=v }:Node).fid=n.fid:=rfl;have hu1:=bl h.up { ay n a.name a.fid with version:=v };refine ⟨(bl hu1.1 (dC a v)).1,⟨λx=>if x=a.fid then 0 else r x+1,λx hx e hx2=>?_⟩,?_,λx hx=>?_,λx hx=>?_⟩
     ·rcases fF hx with rfl | hx
      ·simp[dC] at hx2
      ·rcases fF hx with rfl | hx
       ·have hnf:n.fid≠a.fid:=hnoN n hn;have hx3:e∈bu n.entries a.name a.fid:=hx2
        show (if e.fid=a.fid then 0 else r e.fid+1)<(if n.fid=a.fid then 0 else r n.fid+1)
        rw[if_neg hnf]
        rcases na hx3 with rfl | hx3
        ·simp
        ·have:=hr n hn e hx3;split<;>omega
       ·have hnf:x.fid≠a.fid:=hnoN x hx;have:=hr x hx e hx2;simp only;rw[if_neg hnf];split<;>omega
     ·have h1:=qf (aE l { ay n a.name a.fid with version:=v }) (dC a v);have h2:(aE l { ay n a.name a.fid with version:=v }).length=l.length:=qU (by rw[hfid,hnk];exact ky hf);omega
     ·rcases fF hx with rfl | hx
      ·simp[dC]
      ·rcases fF hx with rfl | hx
       ·exact h.data n hn
       ·exact h.data x hx
     ·rcases fF hx with rfl | hx
      ·simp[dC]
      ·rcases fF hx with rfl | hx
       ·have:=rH n.entries a.name a.fid
        show (bu n.entries a.name a.fid).length≤6
        omega
       ·exact h.ent x hx
  ·rename_i hro;exact absurd he hro
 ·rename_i hd;exact absurd he hd
theorem rR {l:List Node} (h:Good l) (a:Act) (v:Int) (he:eK l a=0):Good (eh l a v):=by
 have hL:eh l a v=aE l { aq l a.fid with data:=a.data,version:=v }:=by unfold eh;rw[if_pos he]
 rw[hL];unfold eK at he;cases hf:aj l a.fid with
 | none=>rw[hf] at he;cases he
 | some n=>
  rw[hf] at he;simp only at he;obtain ⟨hn,hnk⟩:=(ZO h.up).1 hf;have hg:aq l a.fid=n:=by unfold aq;rw[hf];rfl
  rw[hg];split at he
  ·cases he
  ·split at he
   ·cases he
   ·rename_i h20;obtain ⟨r,hr⟩:=h.cX;refine ⟨(bl h.up _).1,⟨r,λx hx e hx2=>?_⟩,?_,λx hx=>?_,λx hx=>?_⟩
    ·rcases fF hx with rfl | hx
     ·exact hr n hn e hx2
     ·exact hr x hx e hx2
    ·rw[qU (by show bg l n.fid=true;rw[hnk];exact ky hf)];exact h.len
    ·rcases fF hx with rfl | hx
     ·show a.data.length≤20;omega
     ·exact h.data x hx
    ·rcases fF hx with rfl | hx
     ·exact h.ent n hn
     ·exact h.ent x hx
theorem lU {l:List Node} {a:Act} (h:bw l a=0):∃n,aj l a.dir=some n/\aq l a.dir=n:=by
 unfold bw at h;split at h
 ·rename_i hd;obtain ⟨n,h1,h2,_⟩:=im hd;exact ⟨n,h1,h2⟩
 ·rename_i hd;exact absurd h hd
theorem rQ {l:List Node} (h:Good l) {n:Node} (hn:n∈l) (hf:aj l n.fid=some n) (s:List UInt8) (v:Int) {r:Int->Nat} (hr:k_ r l) :
  Good (aE l { aA n s with version:=v })/\k_ r (aE l { aA n s with version:=v }):=by
 have hr2:k_ r (aE l { aA n s with version:=v }):=λx hx e hx2=>by
  rcases fF hx with rfl | hx
  ·exact hr n hn e (kC hx2)
  ·exact hr x hx e hx2
 refine ⟨⟨(bl h.up _).1,⟨r,hr2⟩,?_,λx hx=>?_,λx hx=>?_⟩,hr2⟩
 ·rw[qU (by show bg l n.fid=true;exact ky hf)];exact h.len
 ·rcases fF hx with rfl | hx
  ·exact h.data n hn
  ·exact h.data x hx
 ·rcases fF hx with rfl | hx
  ·have:=r_ n.entries s;have:=h.ent n hn
   show (c_ n.entries s).length≤6
   omega
  ·exact h.ent x hx
theorem pQ {l:List Node} (h:Good l) (a:Act) (v:Int) (he:cG l a=0):Good (cH l a v):=by
 have hL:cH l a v=ez (aE l { aA (aq l a.dir) a.name with version:=v }) a.fid:=by unfold cH;rw[if_pos he]
 rw[hL];unfold cG at he;split at he
 ·rename_i hnm;obtain ⟨n,hf,hg⟩:=lU hnm;rw[hg];obtain ⟨hn,hnk⟩:=(ZO h.up).1 hf;obtain ⟨r,hr⟩:=h.cX;obtain ⟨h1,hr1⟩:=rQ h hn (by rw[hnk];exact hf) a.name v hr;have hsub:∀x,x∈ez (aE l { aA n a.name with version:=v }) a.fid->x∈aE l { aA n a.name with version:=v }:=λx hx=>(Wy.1 hx).1
  refine ⟨(gH h1.up a.fid).1,⟨r,λx hx e hx2=>hr1 x (hsub x hx) e hx2⟩,?_,λx hx=>h1.data x (hsub x hx),λx hx=>h1.ent x (hsub x hx)⟩;have:=Wr (λn:Node=>!(n.fid==a.fid)) (aE l { aA n a.name with version:=v });have:=h1.len;unfold ez;omega
 ·rename_i hnm;exact absurd he hnm
open Classical in
theorem pR {l:List Node} (h:Good l) (a:Act) (v:Int) (he:de l a=0):Good (cW l a v):=by
 have hL:cW l a v=aE (if a.to=a.dir then l else aE l { aA (aq l a.dir) a.name with version:=v }) { ay (toN l a) a.toName a.fid with version:=v }:=by unfold cW;rw[if_pos he]
 rw[hL];unfold de at he;split at he
 ·rename_i hnm;obtain ⟨n,hf,hg⟩:=lU hnm;obtain ⟨hn,hnk⟩:=(ZO h.up).1 hf;split at he
  ·rename_i hdt;obtain ⟨t,htf,htg,_⟩:=im hdt;obtain ⟨htm,htk⟩:=(ZO h.up).1 htf;split at he
   ·rename_i hro;have h5:=sw hro;split at he
    ·split at he
     ·cases he
     ·rename_i hwb;obtain ⟨f,hw⟩:=h.ends a.to a.fid;obtain ⟨r,hr⟩:=h.cX;have hnr:¬Reach l a.fid a.to:=λhR=>by
       have:=oH h.up hr hR f _ hw;exact hwb this
      -- the node that gets the entry: that directory, some entries less
      have hTf:(toN l a).fid=a.to:=by
       unfold toN;split
       ·rename_i htd;show (aq l a.dir).fid=a.to;rw[hg,hnk,htd]
       ·rw[htg,htk]
      have hTe:∀e,e∈(toN l a).entries->e∈t.entries:=λe hx=>by
       unfold toN at hx;split at hx
       ·rename_i htd;have h1:=kC hx;rw[hg] at h1;rw[htd,hf] at htf;injection htf with htf
        rwa [←htf]
       ·rwa [htg] at hx
      have hTd:(toN l a).data.length≤20:=by
       unfold toN;split
       ·show (aq l a.dir).data.length≤20;rw[hg];exact h.data n hn
       ·rw[htg];exact h.data t htm
      have key:∀l1:List Node,Up l1->(∀x,x∈l1->x.data.length≤20/\x.entries.length≤6)->l1.length≤24->bg l1 a.to=true ->
        (∀x,x∈l1->∃y,y∈l/\y.fid=x.fid/\∀e,e∈x.entries->e∈y.entries)->Good (aE l1 { ay (toN l a) a.toName a.fid with version:=v }):=λl1 hu1 hs1 hl1 ha1 hsub=>by
       let q:Int->Nat:=λx=>if Reach l a.fid x then r x else r x+(r a.fid+1)
       have hq:∀y,y∈l->∀e,e∈y.entries->q e.fid<q y.fid:=λy hy e hx=>by
        have h1:=hr y hy e hx
        show (if Reach l a.fid e.fid then r e.fid else r e.fid+(r a.fid+1))<(if Reach l a.fid y.fid then r y.fid else r y.fid+(r a.fid+1))
        by_cases hR:Reach l a.fid y.fid
        ·rw[if_pos hR,if_pos (hR.tail hy hx)];exact h1
        ·rw[if_neg hR];split<;>omega
       refine ⟨(bl hu1 _).1,⟨q,λx hx e hx2=>?_⟩,?_,λx hx=>?_,λx hx=>?_⟩
       ·rcases fF hx with rfl | hx
        ·have hx3:e∈bu (toN l a).entries a.toName a.fid:=hx2
         show q e.fid<q (toN l a).fid
         rw[hTf]
         rcases na hx3 with rfl | hx3
         ·show (if Reach l a.fid a.fid then r a.fid else r a.fid+(r a.fid+1))<(if Reach l a.fid a.to then r a.to else r a.to+(r a.fid+1))
          rw[if_pos (.refl _),if_neg hnr];omega
         ·have:=hq t htm e (hTe e hx3)
          rwa [htk] at this
        ·obtain ⟨y,hy,hyf,hye⟩:=hsub x hx;have:=hq y hy e (hye e hx2)
         rwa [hyf] at this
       ·rw[qU (by show bg l1 (toN l a).fid=true;rw[hTf];exact ha1)];exact hl1
       ·rcases fF hx with rfl | hx
        ·exact hTd
        ·exact (hs1 x hx).1
       ·rcases fF hx with rfl | hx
        ·have:=rH (toN l a).entries a.toName a.fid
         show (bu (toN l a).entries a.toName a.fid).length≤6
         omega
        ·exact (hs1 x hx).2
      split
      ·exact key l h.up (λx hx=>⟨h.data x hx,h.ent x hx⟩) h.len (ky htf) (λx hx=>⟨x,hx,rfl,λ_ h=>h⟩)
      ·rename_i htd;rw[hg];obtain ⟨h1,_⟩:=rQ h hn (by rw[hnk];exact hf) a.name v hr;refine key _ h1.up (λx hx=>⟨h1.data x hx,h1.ent x hx⟩) h1.len ?_ (λx hx=>?_)
       ·have:aj (aE l { aA n a.name with version:=v }) a.to=some t:=by
         rw[oW h.up,if_neg (λe=>htd (e.trans (show n.fid=a.dir from hnk)))];exact htf
        exact ky this
       ·rcases fF hx with rfl | hx
        ·exact ⟨n,hn,rfl,λe hx2=>kC hx2⟩
        ·exact ⟨x,hx,rfl,λ_ h=>h⟩
    ·cases he
   ·rename_i hro;exact absurd he hro
  ·rename_i hdt;exact absurd he hdt
 ·rename_i hnm;exact absurd he hnm
theorem fq {l:List Node} (h:Good l) (a:Act) (v:Int) (he:aD l a=0):Good (aH l a v):=by
 unfold aD at he;unfold aH;split at he
 ·rename_i h1;rw[if_pos h1];exact o_ h a v he
 ·rename_i h1;rw[if_neg h1];split at he
  ·rename_i h2;rw[if_pos h2];exact o_ h a v he
  ·rename_i h2;rw[if_neg h2];split at he
   ·rename_i h3;rw[if_pos h3];exact rR h a v he
   ·rename_i h3;rw[if_neg h3];split at he
    ·rename_i h4;rw[if_pos h4];exact pQ h a v he
    ·rename_i h4;rw[if_neg h4];split at he
     ·rename_i h5;rw[if_pos h5];exact pR h a v he
     ·cases he
theorem tV:Good [⟨0,true,[],[],0⟩]:=⟨by unfold Up;simp,⟨λ_=>0,λn hn e he=>by rw[List.mem_singleton.1 hn] at he;simp at he⟩,by simp,λn hn=>by rw[List.mem_singleton.1 hn];simp,λn hn=>by rw[List.mem_singleton.1 hn];simp⟩
theorem Good.small {l:List Node} (h:Good l):Small l:=⟨by have:=h.len;omega,λn hn=>⟨by have:=h.data n hn;omega,by have:=h.ent n hn;omega⟩⟩
theorem Good.fit {l:List Node} (h:Good l) {a:Act} (h1:a.name.length≤100000000) (h2:a.toName.length≤100000000) (h3:a.data.length≤100000000):FitA l a:=
 ⟨h.small,by have:=h.len;omega,λn hn=>by have:=h.ent n hn;omega,h1,h2,h3⟩
structure ActFit (a:Act):Prop where
 name:a.name.length≤100000000
 toName:a.toName.length≤100000000
 data:a.data.length≤100000000
theorem m_ {l:List Node} (h:Good l) (a:Act) (v:Int) (ha:ActFit a):ae Tryz.prog 109 [.sl (l.map ZN),.agg (ZA a),.int .i64 v] [] (λr _=>r=oJ l a v):=by
 obtain ⟨f,hf⟩:=h.ends a.to a.fid;exact CX l a v (h.fit ha.name ha.toName ha.data) (λ_=>B3 l a v (h.fit ha.name ha.toName ha.data) f hf)
theorem uY (a b:List Node) (ha:Small a) (hb:Small b):ae Tryz.prog 121 [.sl (a.map ZN),.sl (b.map ZN),.fn 122 []] [] (λr _=>r=.bool (er false a b)):=by
 have hla:=ha.len;have hlb:=hb.len;refine ZF tK (Tryz.func121) rfl (λC=>?_);simp only[Tryz.ntmps121,Tryz.results121,go_sem];refine wG tK ?_;refine wD (λh=>?_) (λh=>?_)
 ·have hne:er false a b=false:=by
   cases e:er false a b with
   | false=>rfl
   | true=>have:=((fD false a b).1 e).1;simp[this] at h
  refine wG tK ?_;refine wT ?_;simp[hne]
 have hl:a.length=b.length:=by simp at h;omega
 refine wG tK ?_;refine ZL (λi:Nat=>i≤a.length/\∀j,j<i->bW false (a.getD j default) (b.getD j default)=true) (λi=>a.length-i) (λi=>(7,.any)::(8,.any)::(9,.any)::(17,.int .i64 i)::u0 18 14 []) (λ_=>[]) 0 ⟨by omega,by omega⟩ ?_ λi hi=>?_
 ·simp only[go_sem];exact ZU w3 w3 w3
 obtain ⟨hi,hs⟩:=hi;simp only[go_sem];refine wG tK ?_;refine wD (λh=>?_) (λh=>?_)
 ·have hlt:i<a.length:=by simp at h;omega
  have hltb:i<b.length:=by omega
  have hga:(a.map ZN).getD i []=ZN (a.getD i default):=Fam.getD hlt;have hgb:(b.map ZN).getD i []=ZN (b.getD i default):=Fam.getD hltb;have hsm:=Ch _ _ (ha.each _ (YG hlt)) (hb.each _ (YG hltb));have hno:bW false (a.getD i default) (b.getD i default)=false->er false a b=false:=λh0=>by
   cases e:er false a b with
   | false=>rfl
   | true=>rw[((fD false a b).1 e).2 i hlt] at h0;cases h0
  have hyes:bW false (a.getD i default) (b.getD i default)=true->∀j,j<i+1->bW false (a.getD j default) (b.getD j default)=true:=λh0 j hj=>by
   rcases Nat.lt_succ_iff_lt_or_eq.1 hj with h1 | rfl
   ·exact hs j h1
   ·exact h0
  clear hs;generalize a.getD i default=x at hga hsm hno hyes;generalize b.getD i default=y at hgb hsm hno hyes;refine wGq tK ?_ ?_ WJ
  ·simp[hga,hgb,ZN,hlt,hltb]
  refine wC Tryz.func122 (hf:=(hsm)) (hk:=?_);refine wG tK ?_;refine wD (λh=>?_) (λh=>?_)
  ·have h0:bW false x y=false:=by simpa using h
   have:=hno h0;refine wG tK ?_;refine wT ?_;simp[this]
  ·have h0:bW false x y=true:=by simpa using h
   have hw:=wi1 (i:=i) z8;refine wG tK ?_ w5 k0;refine ZB ⟨i+1,⟨by omega,hyes h0⟩,by omega,ZU ?_ ?_ ?_⟩
   ·simp[go_sem]
   ·simp[go_sem]
   ·simp[go_sem]
 ·have e:i=a.length:=by simp at h;omega
  subst e;have hab:er false a b=true:=(fD false a b).2 ⟨hl,hs⟩;refine wG tK ?_;refine wT ?_;simp[hab]
theorem qj (a b:List Node) (ha:Small a) (hb:Small b):ae Tryz.prog 84 [.sl (a.map ZN),.sl (b.map ZN)] [] (λr _=>r=.bool (er false a b)):=by
 refine ZF tK (Tryz.func84) rfl (λC=>?_);simp only[Tryz.ntmps84,Tryz.results84,go_sem];refine wG tK ?_;refine wC Tryz.func121 (hf:=(uY a b ha hb)) (hk:=?_);refine wG tK ?_;refine wT ?_;rfl
def h_:Node:=⟨0,true,[],[],0⟩
theorem jy (l:List Rec) (hlen:l.length≤100000000) {f:FuncId} {caps:List AV} {p:Rec->Bool} (hcal:aJ Tryz.prog f) (hpure:(caps.all AV.aY)=true)
  (hf:∀x,x∈l->ae Tryz.prog f (.agg (ZR x)::caps) [] (λr _=>r=.bool (p x))) :
  ae Tryz.prog 186 [.sl (l.map ZR),.fn f caps] [] (λr _=>r=.int .i64 (cc (l.findIdx? p))):=by
 have hcaps:=bV hpure;refine ZF tK (Tryz.func186) rfl (λC=>?_);simp only[Tryz.ntmps186,Tryz.results186,go_sem];refine wG tK ?_;refine ZL (λi:Nat=>i≤l.length/\∀x,x∈l.take i->p x=false) (λi=>l.length-i) (λi=>(8,.int .i64 i)::(5,.any)::u0 9 10 []) (λ_=>[]) 0 ⟨by omega,by simp⟩ ?_ λi hi=>?_
 ·simp only[go_sem];exact ZU w3 w3 u1
 obtain ⟨hi,hno⟩:=hi;simp only[go_sem];refine wG tK ?_;refine wD (λh=>?_) (λh=>?_)
 ·have hlt:i<l.length:=by simp at h;omega
  have hn:=hf _ (YG hlt);have hg:(l.map ZR).getD i []=ZR (l.getD i default):=Fam.getD hlt;have htk:=ZT hlt;have hgi:l[i]? = some (l.getD i default):=by rw[Wi,Wj hlt];rfl
  generalize l.getD i default=n at hn hg htk hgi;refine wGq tK ?_ ?_ p5
  ·simp[hlt,ZR]
  refine dG rfl rfl z7 w3 hcal u1 (hn) w3 z6 ?_;refine wG tK ?_;refine wD (λh=>?_) (λh=>?_)
  ·refine wG tK ?_;refine wT ?_;rw[eA hgi hno h];rfl
  ·have hw:IntKind.i64.wrap ((i:Int)+1)=(i:Int)+1:=wrap_small z8 z8;refine wG tK ?_ w5 k0;refine ZB ⟨i+1,⟨by omega,?_⟩,by omega,ZU ?_ ?_ ?_⟩
   ·rw[htk];intro x hx
    rcases List.mem_append.1 hx with hx | hx
    ·exact hno x hx
    ·rw[List.mem_singleton.1 hx];exact h
   ·simp[go_sem]
   ·simp[go_sem]
   ·simp[go_sem,hcaps]
 ·have e:i=l.length:=by simp at h;omega
  refine wG tK ?_;refine wT ?_;rw[e,Wo] at hno;rw[W3.2 hno];rfl
theorem py (l:List Rec) (hlen:l.length≤100000000) {f:FuncId} {caps:List AV} {p:Rec->Bool} (hcal:aJ Tryz.prog f) (hpure:(caps.all AV.aY)=true)
  (hf:∀x,x∈l->ae Tryz.prog f (.agg (ZR x)::caps) [] (λr _=>r=.bool (p x))) :
  ae Tryz.prog 183 [.sl (l.map ZR),.fn f caps] [] (λr _=>r=.bool (l.any p)):=by
 have hcaps:=bV hpure;refine ZF tK (Tryz.func183) rfl (λC=>?_);simp only[Tryz.ntmps183,Tryz.results183,go_sem];refine wG tK ?_;refine dG rfl rfl z7 w3 ⟨_,Tryz.func186,by kernel_rfl,rfl⟩ u1 (jy l hlen hcal hpure hf) w3 z6 ?_;refine wG tK ?_;refine wT ?_;rw[lO]
theorem lY (l:List Rec) (hlen:l.length≤100000000) (id:Nat) {f:FuncId} {caps:List AV} {p:Rec->Bool} (hcal:aJ Tryz.prog f) (hpure:(caps.all AV.aY)=true) (hid:id≠7)
  (hf:∀x,x∈l->ae Tryz.prog f (.agg (ZR x)::caps) [] (λr _=>r=.bool (p x))) :
  ae Tryz.prog 153 [.osl id 9 0 l.length,.fn f caps] [(id,.cells 51 9 (l.map ZR))] (λr H=>r=.osl id 9 0 (l.filter λx=>!p x).length /\
   ∀i b,aa [(id,.cells 51 9 ((l.filter λx=>!p x).map ZR++List.replicate (l.length-(l.filter λx=>!p x).length) [.int .i64 0,.int .i64 0,.int .i64 0,.str [],.int .i64 0,.str [],.nils,.int .i64 0,.int .i64 0]))] i=some b->aa H i=some b):=by
 have hcaps:=bV hpure;obtain ⟨q,hv,hq⟩:=fx hpure;refine ZF tK (Tryz.func153) rfl (λC=>?_);simp only[Tryz.ntmps153,Tryz.results153,go_sem];refine wG tK ?_;refine mq rfl rfl z7 w3 QZ Zr ⟨_,Tryz.func186,by kernel_rfl,rfl⟩ (jy l hlen hcal hpure hf) w3 z6 ?_;refine wG tK ?_;refine wD (λh=>?_) (λh=>?_)
 ·refine wG tK ?_;refine wT ?_;have hn:l.findIdx? p=none:=by
   cases e:l.findIdx? p with
   | none=>rfl
   | some k=>rw[e] at h;simp[cc] at h
  have hfl:l.filter (λx=>!p x)=l:=W9.2 λx hx=>by
   simp[W3.1 hn x hx]
  rw[hfl];simp[aa]
 obtain ⟨k,hk⟩:∃k,l.findIdx? p=some k:=by
  cases e:l.findIdx? p with
  | none=>rw[e] at h;simp[cc] at h
  | some k=>exact ⟨k,rfl⟩
 have hkl:k<l.length:=(W5.1 hk).1;have hsp:=eR hk;rw[hk];have hw:IntKind.i64.wrap ((k:Int)+1)=((k+1:Nat):Int):=by rw[Eng.wrap_small z8 z8];rfl
 simp only[cc];refine wG tK ?_ w5 k0;refine ZL (λs:Nat×List Rec=>DelInv p l s.1 s.2) (λs=>l.length-s.1) (λs=>(5,.int .i64 (((l.take s.1).filter λx=>!p x).length:Nat))::(6,.int .i64 (s.1:Nat))::(7,.any)::u0 16 20 []) (λs=>[(id,.cells 51 9 (s.2.map ZR))]) (k+1,l) (DelInv.start hk) ?_ λs hs=>?_
 ·have el:((l.take (k+1)).filter λx=>!p x).length=k:=by rw[hsp];simp;omega
  simp only[go_sem,el];exact ZU w3 w3 u1
 obtain ⟨j,L⟩:=s;have hjl:=hs.le;have hL:=hs.len;have hlt:=hs.lt;simp only at hs hjl hL hlt;simp only[go_sem];refine wG tK ?_;refine wD (λh=>?_) (λh=>?_)
 ·have hj:j<l.length:=by simp at h;omega
  have hn:=hf _ (YG hj);have hg:(L.map ZR).getD j []=ZR (l.getD j default):=by rw[Fam.getD z8,hs.get hj]
  have hkeep:=hs.DD hj;have hskip:=hs.skip hj;have htk:=ZT hj;generalize l.getD j default=n at hn hg hkeep hskip htk;refine wGq tK ?_ ?_ (by simp only[go_sem,hg,ZR,hid,Ne.symm hid];try exact rfl)
  ·simp[ZR];omega
  refine dG rfl rfl z7 w3 hcal u1 (hn) w3 z6 ?_;generalize hm:((l.take j).filter λx=>!p x).length=m at hkeep hlt;have hw1:IntKind.i64.wrap ((j:Int)+1)=((j+1:Nat):Int):=by rw[Eng.wrap_small z8 z8];rfl
  have hw2:IntKind.i64.wrap ((m:Int)+1)=((m+1:Nat):Int):=by rw[Eng.wrap_small z8 z8];rfl
  refine wG tK ?_ QW Z4;refine wD (λh=>?_) (λh=>?_)
  ·have hp:p n=false:=by simpa using h
   obtain ⟨hk1,hk2⟩:=hkeep hp;have aQ:=oC ZR L m n;simp only[ZR] at aQ;have hgl:(L.map ZR).getD m []=ZR (L.getD m default):=Fam.getD z8;simp only[ZR] at hgl;refine wGq tK ?_ ?_ s9
   ·simp[hid,Ne.symm hid];omega
   refine ZB ⟨(j+1,L.set m n),hk1,by simp only;omega,ZU ?_ ?_ ?_⟩
   ·simp[go_sem,hk2]
   ·simp[go_sem,hid,Ne.symm hid,aQ]
   ·simp[go_sem,hcaps,-List.map_set]
  ·have hp:p n=true:=by simpa using h
   refine wG tK ?_ QD Qb;have hsame:((l.take (j+1)).filter λx=>!p x).length=m:=by
    rw[←hm,htk,List.filter_append];simp only[List.filter_cons,hp,Bool.not_true,Bool.false_eq_true,if_false,List.filter_nil,List.append_nil]
   refine ZB ⟨(j+1,L),hskip hp,by simp only;omega,ZU ?_ ?_ ?_⟩
   ·simp[go_sem,hsame,hm]
   ·simp[go_sem,hid,Ne.symm hid]
   ·simp[go_sem,hcaps]
 have e:j=l.length:=by simp at h;omega
 subst e;have hfin:=hs.fin;rw[Wo];generalize hd:(l.filter λx=>!p x)=d at *;have hdl:d.length≤l.length:=by rw[←hd];exact Wr _ _
 have hcl:=iF ZR (d:=d) (L:=L) [.int .i64 0,.int .i64 0,.int .i64 0,.str [],.int .i64 0,.str [],.nils,.int .i64 0,.int .i64 0] hfin z8;rw[hL] at hcl;refine wGq tK ?_ ?_ QE
 ·simp only[not_false_eq_true,true_and];omega
 refine wT ?_;simp[aa]
end La
