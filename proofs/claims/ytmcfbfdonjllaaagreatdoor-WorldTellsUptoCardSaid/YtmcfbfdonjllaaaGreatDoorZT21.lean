/- Texts of this claim, part 21: RAdd, RAdd2. No condition. -/
import Derived.Test.YtmcfbfdonjllaaaGreatDoorZT20
set_option maxRecDepth 10000
set_option maxHeartbeats 4000000
set_option linter.unusedSimpArgs false
set_option linter.unusedVariables false
namespace La
open Go Go.Eng Go.Proofs
@[go_sem,simp] theorem HL (s:Nat) (r:List AV) (l:List (List AV)):Eng.rowsOf s (r::l)↔r.length=s/\Eng.rowsOf s l:=by
 unfold Eng.rowsOf;constructor
 ·exact λh=>⟨h r y7,λx hx=>h x (by simp[hx])⟩
 ·rintro ⟨h1,h2⟩ x hx
  rcases List.mem_cons.1 hx with rfl | hx
  ·exact h1
  ·exact h2 x hx
@[go_sem,simp] theorem IC (s:Nat):Eng.rowsOf s []:=λ_ h=>by simp at h
theorem fv (a:Act):ae Tryz.prog 135 [.agg (ZA a)] [] (λr _=>r=.sl ((bQ a).map ZI)):=by
 unfold ZA;refine ZF tK (Tryz.func135) rfl (λC=>?_);simp only[Tryz.ntmps135,Tryz.results135,go_sem];refine wG tK ?_;refine wD (λh=>?_) (λh=>?_)
 ·have h1:a.kind≠3:=by simpa using h
  refine wG tK ?_;refine wD (λh=>?_) (λh=>?_)
  ·have h2:a.kind=5:=by simpa using h
   refine wG tK ?_;refine ZZ 22 rfl (rfl) ?_;simp only[go_sem];refine wT ?_;simp[go_sem,bQ,ZI,h2]
  ·have h2:a.kind≠5:=by simpa using h
   refine wG tK ?_;refine ZZ 14 rfl (rfl) ?_;simp only[go_sem];refine wT ?_;simp[go_sem,bQ,ZI,h1,h2]
 ·have h1:a.kind=3:=by simpa using h
  refine wG tK ?_;refine wDF (hb:=(by rw[h1];rfl)) (hk:=?_);refine wG tK ?_;refine ZZ 6 rfl (rfl) ?_;simp only[go_sem];refine wT ?_;simp[go_sem,bQ,ZI,h1]
theorem ou (l:List Int) (hlen:l.length≤100000000) (v:Int):ae Tryz.prog 134 [.sl (l.map ZI),.int .i64 v] [] (λr _=>r=.bool (l.contains v)):=by
 refine ZF tK (Tryz.func134) rfl (λC=>?_);simp only[Tryz.ntmps134,Tryz.results134,go_sem];refine wG tK ?_;refine ZL (λi:Nat=>i≤l.length/\v∉l.take i) (λi=>l.length-i) (λi=>(9,.int .i64 i)::(6,.any)::u0 10 7 []) (λ_=>[]) 0 ⟨by omega,by simp⟩ ?_ λi hi=>?_
 ·simp only[go_sem];exact ZU w3 w3 s7
 obtain ⟨hi,hno⟩:=hi;simp only[go_sem];refine wG tK ?_;refine wD (λh=>?_) (λh=>?_)
 ·have hlt:i<l.length:=by simp at h;omega
  have hg:(l.map ZI).getD i []=ZI (l.getD i default):=Fam.getD hlt;have htk:=ZT hlt;have hm:=YG hlt;generalize l.getD i default=n at hg htk hm;refine wGq tK ?_ ?_ Q9
  ·simp[hlt]
  refine wD (λh=>?_) (λh=>?_)
  ·refine wG tK ?_;refine wT ?_;have e:n=v:=eq_of_beq h;subst e;rw[List.contains_iff_mem.2 hm]
  ·have hw:IntKind.i64.wrap ((i:Int)+1)=(i:Int)+1:=wrap_small z8 z8;have hne:n≠v:=by simpa using h
   refine wG tK ?_ w5 k0;refine ZB ⟨i+1,⟨by omega,?_⟩,by omega,ZU ?_ ?_ ?_⟩
   ·rw[htk];intro hx
    rcases List.mem_append.1 hx with hx | hx
    ·exact hno hx
    ·exact hne (List.mem_singleton.1 hx).symm
   ·simp[go_sem]
   ·simp[go_sem]
   ·simp only[go_sem]
 ·have e:i=l.length:=by simp at h;omega
  refine wG tK ?_;refine wT ?_;rw[e,Wo] at hno;rw[show l.contains v=false from by simpa using hno]
def keeps (r x:Rec):Bool:=!(r.act.kind==3&&stored r x)
theorem lp (l:List Rec) (r:Rec):cM l r=l.filter (keeps r):=by
 unfold cM;split
 ·rename_i h
  congr 1
  funext x
  simp[keeps,h]
 ·rename_i h;rw[W9.2];intro x _;simp[keeps,h]
def here (d:Int) (n:List UInt8) (b:Act):Bool:=
 ((((b.kind==1||b.kind==2)||b.kind==4)||b.kind==5)&&b.dir==d&&b.name==n)||(b.kind==5&&b.to==d&&b.toName==n)
theorem ve (d:Int) (n:List UInt8) (b:Act):here d n b=fp b d n:=by
 unfold here fp
 by_cases h1:b.kind=1
 ·simp[h1]
 ·by_cases h2:b.kind=2
  ·simp[h2]
  ·by_cases h4:b.kind=4
   ·simp[h4]
   ·by_cases h5:b.kind=5
    ·simp[h5]
    ·simp[h1,h2,h4,h5]
def dm (l:List Rec) (r:Rec) (i:Nat):List Rec:=(l.take i).filter λx=>!(x.names r.act.fid)
def qI (l:List Rec) (r:Rec) (i:Nat):Int:=(l.take i).foldl (cv r) 0
def bC (l:List Rec) (r:Rec) (i:Nat):List Rec:=(l.take i).filter (keeps r)
theorem uu (l:List Rec) (r:Rec) (hl:SmallL l) (hr:r.act.Small):ae Tryz.prog 96 [.sl (l.map ZR),.agg (ZR r)] [] (λx _=>x=fH (dv l r)):=by
 have hlen:=hl.len;refine ZF tK (Tryz.func96) rfl (λC=>?_);simp only[Tryz.ntmps96,Tryz.results96,go_sem];refine wGq tK ?_ ?_ u7
 ·simp[go_sem]
 refine ZZ 3 rfl (rfl) ?_;refine ZZ 6 rfl (rfl) ?_;simp only[go_sem];refine wD (λh=>?_) (λh=>?_)
 ·have hk4:r.act.kind=4:=eq_of_beq h;refine wG tK ?_;refine ZL (λi:Nat=>i≤l.length) (λi=>l.length-i) (λi=>(24,.int .i64 (i:Nat))::(8,.int .i64 (qI l r i))::(7,.osl 135 9 0 (dm l r i).length)::u0 9 8 (u0 25 112 [])) (λi=>[(135,.cells 51 9 ((dm l r i).map ZR))]) 0 z8 ?_ λi hi=>?_
  ·simp only[go_sem];exact ZU (by simp[go_sem,dm,qI]) (by simp[go_sem,dm]) w3
  simp only[go_sem];refine wG tK ?_;refine wD (λh=>?_) (λh=>?_)
  ·have hlt:i<l.length:=by have:=of_decide_eq_true h;omega
   have hg:(l.map ZR).getD i []=ZR (l.getD i default):=Fam.getD hlt;have htk:=ZT hlt;generalize l.getD i default=x at hg htk;refine wR ?_;refine wNq tK 4 ?_ ?_ z6 z6 p5
   ·simp[hlt]
   refine ZZ 10 rfl (rfl) ?_;simp only[go_sem];refine wR ?_;refine wNq tK 4 ?_ ?_
   ·simp[go_sem]
   refine ZZ 11 rfl (rfl) ?_;simp only[go_sem];have hst:qI l r (i+1)=cv r (qI l r i) x:=by
    unfold qI;rw[htk,List.foldl_append];rfl
   have hout:dm l r (i+1)=if x.names r.act.fid then dm l r i else dm l r i++[x]:=by
    unfold dm;rw[htk,List.filter_append]
    by_cases hk:x.names r.act.fid=true<;>simp[hk]
   have hol:(dm l r i).length≤l.length:=by unfold dm;have:=Wr (λx:Rec=>!x.names r.act.fid) (l.take i);simp at this;omega
   have hw:=wi1 (i:=i) z8;clear hg htk;generalize qI l r i=s at hst;refine wR ?_;refine wN tK 3 ?_;refine ak 32 z6 (λc32 h32=>?_);simp only[go_sem];refine wN tK 5 ?_;refine ak 37 z6 (λc37 h37=>?_);simp only[go_sem];refine wN tK 1 ?_;refine wR ?_;refine wN tK 6 ?_;refine ak 43 z6 (λc43 h43=>?_);simp only[go_sem];refine wN tK 5 ?_;refine ak 48 z6 (λc48 h48=>?_);simp only[go_sem];refine wN tK 1 ?_;refine wR ?_;refine wN tK 8 ?_;refine ak 56 z6 (λc56 h56=>?_);simp only[go_sem];refine wN tK 7 ?_;refine ak 63 z6 (λc63 h63=>?_);simp only[go_sem];refine wNq tK 19 ?_ ?_
   ·simp[go_sem];exact ⟨λa=>⟨a,λb=>⟨a,b⟩⟩,λa=>⟨a,λb c=>⟨a,b,c⟩⟩⟩
   refine ak 82 z6 (λc82 h82=>?_);simp only[go_sem];refine wN tK 1 ?_;refine wR ?_;refine wN tK 2 ?_;refine ak 85 z6 (λc85 h85=>?_);simp only[go_sem];refine wN tK 3 ?_;refine ak 88 z6 (λc88 h88=>?_);simp only[go_sem];refine wN tK 7 ?_;refine ak 95 z6 (λc95 h95=>?_);simp only[go_sem];have hA:c95=(s==0&&eb r.act.fid x):=by
    rw[←h95,←h88,←h85,←h37,←h32];simp only[cJ,eO,eb,Bool.and_assoc];cases (s==0)<;>cases (x.act.fid==r.act.fid)<;>simp
   have hB:c82=fp x.act r.act.dir r.act.name:=by
    rw[←ve,←h82,←h63,←h56,←h48,←h43,←h37,←h32];simp only[cJ,eO,here]
   clear h82 h63 h56 h48 h43 h88 h85 h95;refine wG tK ?_;refine wD (λh=>?_) (λh=>?_)
   ·have hs:s=0/\eb r.act.fid x=true:=by
     have:c95=true:=h;rw[hA,Bool.and_eq_true] at this;exact ⟨eq_of_beq this.1,this.2⟩
    refine wR ?_;refine wN tK 1 ?_;refine wR ?_;refine wN tK 5 ?_;refine ak 100 z6 (λc100 h100=>?_);simp only[go_sem];refine wN tK 7 ?_;refine ak 107 z6 (λc107 h107=>?_);simp only[go_sem];have hC:c107=(x.act.dir==r.act.dir&&x.act.name==r.act.name):=by rw[←h107,←h100,cJ]
    refine wG tK ?_;refine wD (λh=>?_) (λh=>?_)
    ·have hstv:qI l r (i+1)=1:=by
      have h1:c107=true:=h;rw[hC,Bool.and_eq_true] at h1;rw[hst,hs.1];simp[cv,hs.2,eq_of_beq h1.1,eq_of_beq h1.2]
     refine wG tK ?_;refine ZW ZM ?_;refine ZS rfl ?_;refine sN tK 1 ?_;refine sC Tryz.func135 (hf:=(fv x.act)) (hk:=?_);refine sN tK 2 ?_;refine sC Tryz.func134 (hf:=(ou (bQ x.act) Zh r.act.fid)) (hk:=?_);refine sN tK 1 ?_;refine sE ?_;refine wKd ?_;refine wD (λh=>?_) (λh=>?_)
     ·have hnm:x.names r.act.fid=false:=by simpa[Rec.names] using h
      have hon:dm l r (i+1)=dm l r i++[x]:=by rw[hout,hnm];rfl
      refine wGq tK ?_ ?_ QI
      ·simp[go_sem];omega
      refine ZB ⟨i+1,by omega,by omega,ZU ?_ ?_ ?_⟩
      ·simp[go_sem,hstv,hon]
      ·simp[go_sem,hon,ZR]
      ·simp[go_sem]
     ·have hnm:x.names r.act.fid=true:=by simpa[Rec.names] using h
      have hon:dm l r (i+1)=dm l r i:=by rw[hout,hnm];rfl
      refine wG tK ?_ w5 k0;refine ZB ⟨i+1,by omega,by omega,ZU ?_ ?_ ?_⟩
      ·simp[go_sem,hstv,hon]
      ·simp[go_sem,hon]
      ·simp[go_sem]
    ·have hstv:qI l r (i+1)=2:=by
      have h1:c107=false:=h;have h2:¬(x.act.dir=r.act.dir/\x.act.name=r.act.name):=by
       rintro ⟨e1,e2⟩;rw[hC,e1,e2] at h1;simp at h1
      rw[hst,hs.1];simp only[cv,hs.2,if_true,if_neg h2]
     refine wG tK ?_;refine ZW ZM ?_;refine ZS rfl ?_;refine sN tK 1 ?_;refine sC Tryz.func135 (hf:=(fv x.act)) (hk:=?_);refine sN tK 2 ?_;refine sC Tryz.func134 (hf:=(ou (bQ x.act) Zh r.act.fid)) (hk:=?_);refine sN tK 1 ?_;refine sE ?_;refine wKd ?_;refine wD (λh=>?_) (λh=>?_)
     ·have hnm:x.names r.act.fid=false:=by simpa[Rec.names] using h
      have hon:dm l r (i+1)=dm l r i++[x]:=by rw[hout,hnm];rfl
      refine wGq tK ?_ ?_ QI
      ·simp[go_sem];omega
      refine ZB ⟨i+1,by omega,by omega,ZU ?_ ?_ ?_⟩
      ·simp[go_sem,hstv,hon]
      ·simp[go_sem,hon,ZR]
      ·simp[go_sem]
     ·have hnm:x.names r.act.fid=true:=by simpa[Rec.names] using h
      have hon:dm l r (i+1)=dm l r i:=by rw[hout,hnm];rfl
      refine wG tK ?_ w5 k0;refine ZB ⟨i+1,by omega,by omega,ZU ?_ ?_ ?_⟩
      ·simp[go_sem,hstv,hon]
      ·simp[go_sem,hon]
      ·simp[go_sem]
   ·have hs0:¬(s=0/\eb r.act.fid x=true):=by
     rintro ⟨e1,e2⟩;have h1:c95=false:=h;rw[hA,e1,e2] at h1;cases h1
    refine wG tK ?_;refine ZW ZM ?_;refine ZS rfl ?_;refine sN tK 2 ?_;refine dW 110 z6 (λc110 h110=>?_);simp only[go_sem];refine sN tK 4 ?_;refine sCC Tryz.func135 (hf:=λhb=>(fv x.act)) (hk:=?_);refine sN tK 2 ?_;refine sCC Tryz.func134 (hf:=λhb=>(ou (bQ x.act) Zh r.act.fid)) (hk:=?_);refine sNq tK 7 ?_ ?_
    ·simp[go_sem];exact ⟨λa b=>⟨⟨a,b⟩,λc=>⟨⟨a,b⟩,c⟩⟩,λa=>⟨a,λb=>⟨a,b⟩⟩⟩
    refine dW 125 z6 (λc125 h125=>?_);simp only[go_sem];refine sN tK 1 ?_;refine sE ?_;refine wKd ?_;have hD:c125=(s==1&&bars r.act.fid r.act.dir r.act.name x):=by
     rw[←h125,←h110,hB];simp only[cJ,eO,bars,Rec.names];cases (s==1)<;>cases (fp x.act r.act.dir r.act.name)<;>simp[Bool.and_comm]
    refine wD (λh=>?_) (λh=>?_)
    ·have hstv:qI l r (i+1)=2:=by
      have h1:c125=true:=h;rw[hD,Bool.and_eq_true] at h1;rw[hst,eq_of_beq h1.1];simp[cv,h1.2]
     refine wG tK ?_;refine ZW ZM ?_;refine ZS rfl ?_;refine sN tK 1 ?_;refine sC Tryz.func135 (hf:=(fv x.act)) (hk:=?_);refine sN tK 2 ?_;refine sC Tryz.func134 (hf:=(ou (bQ x.act) Zh r.act.fid)) (hk:=?_);refine sN tK 1 ?_;refine sE ?_;refine wKd ?_;refine wD (λh=>?_) (λh=>?_)
     ·have hnm:x.names r.act.fid=false:=by simpa[Rec.names] using h
      have hon:dm l r (i+1)=dm l r i++[x]:=by rw[hout,hnm];rfl
      refine wGq tK ?_ ?_ QI
      ·simp[go_sem];omega
      refine ZB ⟨i+1,by omega,by omega,ZU ?_ ?_ ?_⟩
      ·simp[go_sem,hstv,hon]
      ·simp[go_sem,hon,ZR]
      ·simp[go_sem]
     ·have hnm:x.names r.act.fid=true:=by simpa[Rec.names] using h
      have hon:dm l r (i+1)=dm l r i:=by rw[hout,hnm];rfl
      refine wG tK ?_ w5 k0;refine ZB ⟨i+1,by omega,by omega,ZU ?_ ?_ ?_⟩
      ·simp[go_sem,hstv,hon]
      ·simp[go_sem,hon]
      ·simp[go_sem]
    ·have hstv:qI l r (i+1)=s:=by
      have h1:c125=false:=h;rw[hst];unfold cv
      by_cases e0:s=0
      ·have hnm:eb r.act.fid x=false:=by
        cases e:eb r.act.fid x with
        | false=>rfl
        | true=>exact absurd ⟨e0,e⟩ hs0
       simp[e0,hnm]
      ·by_cases e1:s=1
       ·have hnb:bars r.act.fid r.act.dir r.act.name x=false:=by
         rw[hD,e1] at h1;simpa using h1
        simp[e1,hnb]
       ·simp[e0,e1]
     refine wG tK ?_;refine ZW ZM ?_;refine ZS rfl ?_;refine sN tK 1 ?_;refine sC Tryz.func135 (hf:=(fv x.act)) (hk:=?_);refine sN tK 2 ?_;refine sC Tryz.func134 (hf:=(ou (bQ x.act) Zh r.act.fid)) (hk:=?_);refine sN tK 1 ?_;refine sE ?_;refine wKd ?_;refine wD (λh=>?_) (λh=>?_)
     ·have hnm:x.names r.act.fid=false:=by simpa[Rec.names] using h
      have hon:dm l r (i+1)=dm l r i++[x]:=by rw[hout,hnm];rfl
      refine wGq tK ?_ ?_ QI
      ·simp[go_sem];omega
      refine ZB ⟨i+1,by omega,by omega,ZU ?_ ?_ ?_⟩
      ·simp[go_sem,hstv,hon]
      ·simp[go_sem,hon,ZR]
      ·simp[go_sem]
     ·have hnm:x.names r.act.fid=true:=by simpa[Rec.names] using h
      have hon:dm l r (i+1)=dm l r i:=by rw[hout,hnm];rfl
      refine wG tK ?_ w5 k0;refine ZB ⟨i+1,by omega,by omega,ZU ?_ ?_ ?_⟩
      ·simp[go_sem,hstv,hon]
      ·simp[go_sem,hon]
      ·simp[go_sem]
  ·have e:i=l.length:=by have:=of_decide_eq_false h;omega
   subst e;have hout:dm l r l.length=l.filter λx=>!(x.names r.act.fid):=by unfold dm;rw[Wo]
   have hst:(qI l r l.length==1)=ek l r:=by
    unfold qI;rw[Wo,lb r hk4]
   refine wG tK ?_;refine wD (λh=>?_) (λh=>?_)
   ·have hc:ek l r=true:=by rw[←hst];exact h
    refine wG tK ?_;refine ZZ 135 rfl (cS _) ?_;simp only[go_sem];refine wT ?_;simp[dv,hc,fH,hout]
   ·have hc:ek l r=false:=by rw[←hst];exact h
    refine wG tK ?_;refine ZL (λi:Nat=>i≤l.length) (λi=>l.length-i) (λi=>(142,.int .i64 (i:Nat))::(7,.osl 166 9 0 (bC l r i).length)::u0 8 132 (u0 143 25 [])) (λi=>[(166,.cells 51 9 ((bC l r i).map ZR))]) 0 z8 ?_ λi hi=>?_
    ·simp only[go_sem];exact ZU WZ WZ w3
    simp only[go_sem];refine wG tK ?_;refine wD (λh=>?_) (λh=>?_)
    ·have hlt:i<l.length:=by have:=of_decide_eq_true h;omega
     have hg:(l.map ZR).getD i []=ZR (l.getD i default):=Fam.getD hlt;have htk:=ZT hlt;generalize l.getD i default=x at hg htk;have hkl:(bC l r i).length≤l.length:=by unfold bC;have:=Wr (keeps r) (l.take i);simp at this;omega
     have hkn:bC l r (i+1)=if keeps r x then bC l r i++[x] else bC l r i:=by
      unfold bC;rw[htk,List.filter_append]
      by_cases hk:keeps r x=true<;>simp[hk]
     have hw:=wi1 (i:=i) z8;refine wR ?_;refine wNq tK 4 ?_ ?_ z6 z6 p5
     ·simp[hlt]
     refine ZZ 16 rfl (rfl) ?_;simp only[go_sem];refine wR ?_;refine wN tK 3 ?_;refine ak 148 z6 (λc148 h148=>?_);simp only[go_sem];refine wN tK 6 ?_;refine ak 154 z6 (λc154 h154=>?_);simp only[go_sem];refine wN tK 8 ?_;refine ak 162 z6 (λc162 h162=>?_);simp only[go_sem];have hK:c162=keeps r x:=by
      rw[←h162,←h154,←h148];simp only[eO,keeps,stored,bne];generalize (r.act.kind==3)=a1;generalize (x.act.kind==3)=a2;generalize (x.act.fid==r.act.fid)=a3;cases a1<;>cases a2<;>cases a3<;>rfl
     refine wG tK ?_;refine wD (λh=>?_) (λh=>?_)
     ·have hk2:bC l r (i+1)=bC l r i++[x]:=by rw[hkn,←hK,show c162=true from h];rfl
      refine wGq tK ?_ ?_ QI
      ·simp[go_sem];omega
      refine ZB ⟨i+1,by omega,by omega,ZU ?_ ?_ ?_⟩
      ·simp[go_sem,hk2]
      ·simp[go_sem,hk2,ZR]
      ·simp[go_sem]
     ·have hk2:bC l r (i+1)=bC l r i:=by rw[hkn,←hK,show c162=false from h];rfl
      refine wG tK ?_ w5 k0;refine ZB ⟨i+1,by omega,by omega,ZU ?_ ?_ ?_⟩
      ·simp[go_sem,hk2]
      ·simp[go_sem,hk2]
      ·simp[go_sem]
    have e:i=l.length:=by have:=of_decide_eq_false h;omega
    subst e;have hkept:bC l r l.length=cM l r:=by unfold bC;rw[Wo,lp]
    have hul:=(kY l r).length_le;rw[hkept];have hadd:dv l r=if (cM l r).length≥20 then none else some (cM l r++[r]):=by simp only[dv,hc,Bool.false_eq_true,if_false]
    rw[hadd];generalize cM l r=d at hul;refine wG tK ?_;refine wD (λh=>?_) (λh=>?_)
    ·have hd:d.length≥20:=by have h2:=of_decide_eq_true h;omega
     refine wG tK ?_;refine wT ?_;rw[if_pos hd];rfl
    ·have hd:¬d.length≥20:=by have h2:=of_decide_eq_false h;omega
     refine wGq tK ?_ ?_ u7
     ·simp[go_sem];omega
     refine ZZ 174 rfl Qe ?_;simp only[go_sem];refine wT ?_;rw[if_neg hd];simp only[fH,List.map_append,List.map_cons,List.map_nil,ZR];rw[Wl y7]
 ·have hc:ek l r=false:=by
   unfold ek;split
   ·rfl
   ·have:(r.act.kind==4)=false:=h;rw[this];rfl
  refine wG tK ?_;refine ZL (λi:Nat=>i≤l.length) (λi=>l.length-i) (λi=>(142,.int .i64 (i:Nat))::(7,.osl 166 9 0 (bC l r i).length)::u0 8 132 (u0 143 25 [])) (λi=>[(166,.cells 51 9 ((bC l r i).map ZR))]) 0 z8 ?_ λi hi=>?_
  ·simp only[go_sem];exact ZU WZ WZ w3
  simp only[go_sem];refine wG tK ?_;refine wD (λh=>?_) (λh=>?_)
  ·have hlt:i<l.length:=by have:=of_decide_eq_true h;omega
   have hg:(l.map ZR).getD i []=ZR (l.getD i default):=Fam.getD hlt;have htk:=ZT hlt;generalize l.getD i default=x at hg htk;have hkl:(bC l r i).length≤l.length:=by unfold bC;have:=Wr (keeps r) (l.take i);simp at this;omega
   have hkn:bC l r (i+1)=if keeps r x then bC l r i++[x] else bC l r i:=by
    unfold bC;rw[htk,List.filter_append]
    by_cases hk:keeps r x=true<;>simp[hk]
   have hw:=wi1 (i:=i) z8;refine wR ?_;refine wNq tK 4 ?_ ?_ z6 z6 p5
   ·simp[hlt]
   refine ZZ 16 rfl (rfl) ?_;simp only[go_sem];refine wR ?_;refine wN tK 3 ?_;refine ak 148 z6 (λc148 h148=>?_);simp only[go_sem];refine wN tK 6 ?_;refine ak 154 z6 (λc154 h154=>?_);simp only[go_sem];refine wN tK 8 ?_;refine ak 162 z6 (λc162 h162=>?_);simp only[go_sem];have hK:c162=keeps r x:=by
    rw[←h162,←h154,←h148];simp only[eO,keeps,stored,bne];generalize (r.act.kind==3)=a1;generalize (x.act.kind==3)=a2;generalize (x.act.fid==r.act.fid)=a3;cases a1<;>cases a2<;>cases a3<;>rfl
   refine wG tK ?_;refine wD (λh=>?_) (λh=>?_)
   ·have hk2:bC l r (i+1)=bC l r i++[x]:=by rw[hkn,←hK,show c162=true from h];rfl
    refine wGq tK ?_ ?_ QI
    ·simp[go_sem];omega
    refine ZB ⟨i+1,by omega,by omega,ZU ?_ ?_ ?_⟩
    ·simp[go_sem,hk2]
    ·simp[go_sem,hk2,ZR]
    ·simp[go_sem]
   ·have hk2:bC l r (i+1)=bC l r i:=by rw[hkn,←hK,show c162=false from h];rfl
    refine wG tK ?_ w5 k0;refine ZB ⟨i+1,by omega,by omega,ZU ?_ ?_ ?_⟩
    ·simp[go_sem,hk2]
    ·simp[go_sem,hk2]
    ·simp[go_sem]
  have e:i=l.length:=by have:=of_decide_eq_false h;omega
  subst e;have hkept:bC l r l.length=cM l r:=by unfold bC;rw[Wo,lp]
  have hul:=(kY l r).length_le;rw[hkept];have hadd:dv l r=if (cM l r).length≥20 then none else some (cM l r++[r]):=by simp only[dv,hc,Bool.false_eq_true,if_false]
  rw[hadd];generalize cM l r=d at hul;refine wG tK ?_;refine wD (λh=>?_) (λh=>?_)
  ·have hd:d.length≥20:=by have h2:=of_decide_eq_true h;omega
   refine wG tK ?_;refine wT ?_;rw[if_pos hd];rfl
  ·have hd:¬d.length≥20:=by have h2:=of_decide_eq_false h;omega
   refine wGq tK ?_ ?_ u7
   ·simp[go_sem];omega
   refine ZZ 174 rfl Qe ?_;simp only[go_sem];refine wT ?_;rw[if_neg hd];simp only[fH,List.map_append,List.map_cons,List.map_nil,ZR];rw[Wl y7]
end La
