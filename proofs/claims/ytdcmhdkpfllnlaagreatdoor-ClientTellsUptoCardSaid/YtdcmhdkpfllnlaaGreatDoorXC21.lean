/- Texts of this claim, part 21: RAdd, RAdd2. No condition. -/
import Derived.Test.YtdcmhdkpfllnlaaGreatDoorXC20
import Derived.Test.YtdcmhdkpfllnlaaGreatDoorXC8
set_option maxRecDepth 10000
set_option maxHeartbeats 4000000
set_option linter.unusedSimpArgs false
set_option linter.unusedVariables false
namespace La
open Go Go.Eng Go.Proofs
@[go_sem,simp] theorem He (s:Nat) (r:List AV) (l:List (List AV)):Eng.rowsOf s (r::l)↔r.length=s/\Eng.rowsOf s l:=by
 unfold Eng.rowsOf;constructor
 ·exact λh=>⟨h r y8,λx hx=>h x (by simp[hx])⟩
 ·rintro ⟨h1,h2⟩ x hx
  rcases List.mem_cons.1 hx with rfl | hx
  ·exact h1
  ·exact h2 x hx
@[go_sem,simp] theorem HX (s:Nat):Eng.rowsOf s []:=λ_ h=>by simp at h
theorem fp (a:Act):ae Tryz.prog 132 [.agg (ZA a)] [] (λr _=>r=.sl ((bO a).map ZI)):=by
 unfold ZA;refine ZF tK (Tryz.func132) rfl (λC=>?_);simp only[Tryz.ntmps132,Tryz.results132,go_sem];refine wG tK ?_;refine wD (λh=>?_) (λh=>?_)
 ·have h1:a.kind≠3:=by simpa using h
  refine wG tK ?_;refine wD (λh=>?_) (λh=>?_)
  ·have h2:a.kind=5:=by simpa using h
   refine wG tK ?_;refine ZZ 22 rfl (rfl) ?_;simp only[go_sem];refine wT ?_;simp[go_sem,bO,ZI,h2]
  ·have h2:a.kind≠5:=by simpa using h
   refine wG tK ?_;refine ZZ 14 rfl (rfl) ?_;simp only[go_sem];refine wT ?_;simp[go_sem,bO,ZI,h1,h2]
 ·have h1:a.kind=3:=by simpa using h
  refine wG tK ?_;refine wDF (hb:=(by rw[h1];rfl)) (hk:=?_);refine wG tK ?_;refine ZZ 6 rfl (rfl) ?_;simp only[go_sem];refine wT ?_;simp[go_sem,bO,ZI,h1]
theorem oa (l:List Int) (hlen:l.length≤100000000) (v:Int):ae Tryz.prog 131 [.sl (l.map ZI),.int .i64 v] [] (λr _=>r=.bool (l.contains v)):=by
 refine ZF tK (Tryz.func131) rfl (λC=>?_);simp only[Tryz.ntmps131,Tryz.results131,go_sem];refine wG tK ?_;refine ZL (λi:Nat=>i≤l.length/\v∉l.take i) (λi=>l.length-i) (λi=>[(9,.int .i64 i),(6,.any),(10,.any),(11,.any),(12,.any),(13,.any),(14,.any),(15,.any),(16,.any)]) (λ_=>[]) 0 ⟨by omega,by simp⟩ ?_ λi hi=>?_
 ·simp only[go_sem];exact ZU w3 w3 v8
 obtain ⟨hi,hno⟩:=hi;simp only[go_sem];refine wG tK ?_;refine wD (λh=>?_) (λh=>?_)
 ·have hlt:i<l.length:=by simp at h;omega
  have hg:(l.map ZI).getD i []=ZI (l.getD i default):=Fam.getD hlt;have htk:=ZT hlt;have hm:=YG hlt;generalize l.getD i default=n at hg htk hm;refine wGq tK ?_ ?_ Q3
  ·simp[hlt]
  refine wD (λh=>?_) (λh=>?_)
  ·refine wG tK ?_;refine wT ?_;have e:n=v:=eq_of_beq h;subst e;rw[List.contains_iff_mem.2 hm]
  ·have hw:IntKind.i64.wrap ((i:Int)+1)=(i:Int)+1:=wrap_small z8 z8;have hne:n≠v:=by simpa using h
   refine wG tK ?_ w5 k0;refine ZB ⟨i+1,⟨by omega,?_⟩,by omega,ZU ?_ ?_ ?_⟩
   ·rw[htk];intro hx
    rcases List.mem_append.1 hx with hx | hx
    ·exact hno hx
    ·exact hne (List.mem_singleton.1 hx).symm
   ·simp[go_sem]
   ·simp[go_sem]
   ·simp only[go_sem]
 ·have e:i=l.length:=by simp at h;omega
  refine wG tK ?_;refine wT ?_;rw[e,List.take_length] at hno;rw[show l.contains v=false from by simpa using hno]
def keeps (r x:Rec):Bool:=!(r.act.kind==3&&stored r x)
theorem k_ (l:List Rec) (r:Rec):cJ l r=l.filter (keeps r):=by
 unfold cJ;split
 ·rename_i h
  congr 1
  funext x
  simp[keeps,h]
 ·rename_i h;rw[List.filter_eq_self.2];intro x _;simp[keeps,h]
def here (d:Int) (n:List UInt8) (b:Act):Bool:=
 ((((b.kind==1||b.kind==2)||b.kind==4)||b.kind==5)&&b.dir==d&&b.name==n)||(b.kind==5&&b.to==d&&b.toName==n)
theorem uK (d:Int) (n:List UInt8) (b:Act):here d n b=fk b d n:=by
 unfold here fk
 by_cases h1:b.kind=1
 ·simp[h1]
 ·by_cases h2:b.kind=2
  ·simp[h2]
  ·by_cases h4:b.kind=4
   ·simp[h4]
   ·by_cases h5:b.kind=5
    ·simp[h5]
    ·simp[h1,h2,h4,h5]
def df (l:List Rec) (r:Rec) (i:Nat):List Rec:=(l.take i).filter λx=>!(x.names r.act.fid)
def qo (l:List Rec) (r:Rec) (i:Nat):Int:=(l.take i).foldl (cr r) 0
def bA (l:List Rec) (r:Rec) (i:Nat):List Rec:=(l.take i).filter (keeps r)
theorem tV (l:List Rec) (r:Rec) (hl:SmallL l) (hr:r.act.Small):ae Tryz.prog 83 [.sl (l.map ZR),.agg (ZR r)] [] (λx _=>x=fE (dn l r)):=by
 have hlen:=hl.len;refine ZF tK (Tryz.func83) rfl (λC=>?_);simp only[Tryz.ntmps83,Tryz.results83,go_sem];refine wGq tK ?_ ?_ u3
 ·simp[go_sem]
 refine ZZ 3 rfl (rfl) ?_;refine ZZ 6 rfl (rfl) ?_;simp only[go_sem];refine wD (λh=>?_) (λh=>?_)
 ·have hk4:r.act.kind=4:=eq_of_beq h;refine wG tK ?_;refine ZL (λi:Nat=>i≤l.length) (λi=>l.length-i) (λi=>[(24,.int .i64 (i:Nat)),(8,.int .i64 (qo l r i)),(7,.osl 135 9 0 (df l r i).length),(9,.any),(10,.any),(11,.any),(12,.any),(13,.any),(14,.any),(15,.any),(16,.any),(25,.any),(26,.any),(27,.any),(28,.any),(29,.any),(30,.any),(31,.any),(32,.any),(33,.any),(34,.any),(35,.any),(36,.any),(37,.any),(38,.any),(39,.any),(40,.any),(41,.any),(42,.any),(43,.any),(44,.any),(45,.any),(46,.any),(47,.any),(48,.any),(49,.any),(50,.any),(51,.any),(52,.any),(53,.any),(54,.any),(55,.any),(56,.any),(57,.any),(58,.any),(59,.any),(60,.any),(61,.any),(62,.any),(63,.any),(64,.any),(65,.any),(66,.any),(67,.any),(68,.any),(69,.any),(70,.any),(71,.any),(72,.any),(73,.any),(74,.any),(75,.any),(76,.any),(77,.any),(78,.any),(79,.any),(80,.any),(81,.any),(82,.any),(83,.any),(84,.any),(85,.any),(86,.any),(87,.any),(88,.any),(89,.any),(90,.any),(91,.any),(92,.any),(93,.any),(94,.any),(95,.any),(96,.any),(97,.any),(98,.any),(99,.any),(100,.any),(101,.any),(102,.any),(103,.any),(104,.any),(105,.any),(106,.any),(107,.any),(108,.any),(109,.any),(110,.any),(111,.any),(112,.any),(113,.any),(114,.any),(115,.any),(116,.any),(117,.any),(118,.any),(119,.any),(120,.any),(121,.any),(122,.any),(123,.any),(124,.any),(125,.any),(126,.any),(127,.any),(128,.any),(129,.any),(130,.any),(131,.any),(132,.any),(133,.any),(134,.any),(135,.any),(136,.any)]) (λi=>[(135,.cells 116 9 ((df l r i).map ZR))]) 0 z8 ?_ λi hi=>?_
  ·simp only[go_sem];exact ZU (by simp[go_sem,df,qo]) (by simp[go_sem,df]) w3
  simp only[go_sem];refine wG tK ?_;refine wD (λh=>?_) (λh=>?_)
  ·have hlt:i<l.length:=by have:=of_decide_eq_true h;omega
   have hg:(l.map ZR).getD i []=ZR (l.getD i default):=Fam.getD hlt;have htk:=ZT hlt;generalize l.getD i default=x at hg htk;refine wR ?_;refine wNq tK 4 ?_ ?_ z6 z6 s8
   ·simp[hlt]
   refine ZZ 10 rfl (rfl) ?_;simp only[go_sem];refine wR ?_;refine wNq tK 4 ?_ ?_
   ·simp[go_sem]
   refine ZZ 11 rfl (rfl) ?_;simp only[go_sem];have hst:qo l r (i+1)=cr r (qo l r i) x:=by
    unfold qo;rw[htk,List.foldl_append];rfl
   have hout:df l r (i+1)=if x.names r.act.fid then df l r i else df l r i++[x]:=by
    unfold df;rw[htk,List.filter_append]
    by_cases hk:x.names r.act.fid=true<;>simp[hk]
   have hol:(df l r i).length≤l.length:=by unfold df;have:=List.length_filter_le (λx:Rec=>!x.names r.act.fid) (l.take i);simp at this;omega
   have hw:=wi1 (i:=i) z8;clear hg htk;generalize qo l r i=s at hst;refine wR ?_;refine wN tK 3 ?_;refine al 32 z6 (λc32 h32=>?_);simp only[go_sem];refine wN tK 5 ?_;refine al 37 z6 (λc37 h37=>?_);simp only[go_sem];refine wN tK 1 ?_;refine wR ?_;refine wN tK 6 ?_;refine al 43 z6 (λc43 h43=>?_);simp only[go_sem];refine wN tK 5 ?_;refine al 48 z6 (λc48 h48=>?_);simp only[go_sem];refine wN tK 1 ?_;refine wR ?_;refine wN tK 8 ?_;refine al 56 z6 (λc56 h56=>?_);simp only[go_sem];refine wN tK 7 ?_;refine al 63 z6 (λc63 h63=>?_);simp only[go_sem];refine wNq tK 19 ?_ ?_
   ·simp[go_sem];exact ⟨λa=>⟨a,λb=>⟨a,b⟩⟩,λa=>⟨a,λb c=>⟨a,b,c⟩⟩⟩
   refine al 82 z6 (λc82 h82=>?_);simp only[go_sem];refine wN tK 1 ?_;refine wR ?_;refine wN tK 2 ?_;refine al 85 z6 (λc85 h85=>?_);simp only[go_sem];refine wN tK 3 ?_;refine al 88 z6 (λc88 h88=>?_);simp only[go_sem];refine wN tK 7 ?_;refine al 95 z6 (λc95 h95=>?_);simp only[go_sem];have hA:c95=(s==0&&dW r.act.fid x):=by
    rw[←h95,←h88,←h85,←h37,←h32];simp only[cG,eI,dW,Bool.and_assoc];cases (s==0)<;>cases (x.act.fid==r.act.fid)<;>simp
   have hB:c82=fk x.act r.act.dir r.act.name:=by
    rw[←uK,←h82,←h63,←h56,←h48,←h43,←h37,←h32];simp only[cG,eI,here]
   clear h82 h63 h56 h48 h43 h88 h85 h95;refine wG tK ?_;refine wD (λh=>?_) (λh=>?_)
   ·have hs:s=0/\dW r.act.fid x=true:=by
     have:c95=true:=h;rw[hA,Bool.and_eq_true] at this;exact ⟨eq_of_beq this.1,this.2⟩
    refine wR ?_;refine wN tK 1 ?_;refine wR ?_;refine wN tK 5 ?_;refine al 100 z6 (λc100 h100=>?_);simp only[go_sem];refine wN tK 7 ?_;refine al 107 z6 (λc107 h107=>?_);simp only[go_sem];have hC:c107=(x.act.dir==r.act.dir&&x.act.name==r.act.name):=by rw[←h107,←h100,cG]
    refine wG tK ?_;refine wD (λh=>?_) (λh=>?_)
    ·have hstv:qo l r (i+1)=1:=by
      have h1:c107=true:=h;rw[hC,Bool.and_eq_true] at h1;rw[hst,hs.1];simp[cr,hs.2,eq_of_beq h1.1,eq_of_beq h1.2]
     refine wG tK ?_;refine ZW ZM ?_;refine ZS rfl ?_;refine sN tK 1 ?_;refine sC Tryz.func132 (hf:=(fp x.act)) (hk:=?_);refine sN tK 2 ?_;refine sC Tryz.func131 (hf:=(oa (bO x.act) Za r.act.fid)) (hk:=?_);refine sN tK 1 ?_;refine sE ?_;refine wKd ?_;refine wD (λh=>?_) (λh=>?_)
     ·have hnm:x.names r.act.fid=false:=by simpa[Rec.names] using h
      have hon:df l r (i+1)=df l r i++[x]:=by rw[hout,hnm];rfl
      refine wGq tK ?_ ?_ QG
      ·simp[go_sem];omega
      refine ZB ⟨i+1,by omega,by omega,ZU ?_ ?_ ?_⟩
      ·simp[go_sem,hstv,hon]
      ·simp[go_sem,hon,ZR]
      ·simp[go_sem]
     ·have hnm:x.names r.act.fid=true:=by simpa[Rec.names] using h
      have hon:df l r (i+1)=df l r i:=by rw[hout,hnm];rfl
      refine wG tK ?_ w5 k0;refine ZB ⟨i+1,by omega,by omega,ZU ?_ ?_ ?_⟩
      ·simp[go_sem,hstv,hon]
      ·simp[go_sem,hon]
      ·simp[go_sem]
    ·have hstv:qo l r (i+1)=2:=by
      have h1:c107=false:=h;have h2:¬(x.act.dir=r.act.dir/\x.act.name=r.act.name):=by
       rintro ⟨e1,e2⟩;rw[hC,e1,e2] at h1;simp at h1
      rw[hst,hs.1];simp only[cr,hs.2,if_true,if_neg h2]
     refine wG tK ?_;refine ZW ZM ?_;refine ZS rfl ?_;refine sN tK 1 ?_;refine sC Tryz.func132 (hf:=(fp x.act)) (hk:=?_);refine sN tK 2 ?_;refine sC Tryz.func131 (hf:=(oa (bO x.act) Za r.act.fid)) (hk:=?_);refine sN tK 1 ?_;refine sE ?_;refine wKd ?_;refine wD (λh=>?_) (λh=>?_)
     ·have hnm:x.names r.act.fid=false:=by simpa[Rec.names] using h
      have hon:df l r (i+1)=df l r i++[x]:=by rw[hout,hnm];rfl
      refine wGq tK ?_ ?_ QG
      ·simp[go_sem];omega
      refine ZB ⟨i+1,by omega,by omega,ZU ?_ ?_ ?_⟩
      ·simp[go_sem,hstv,hon]
      ·simp[go_sem,hon,ZR]
      ·simp[go_sem]
     ·have hnm:x.names r.act.fid=true:=by simpa[Rec.names] using h
      have hon:df l r (i+1)=df l r i:=by rw[hout,hnm];rfl
      refine wG tK ?_ w5 k0;refine ZB ⟨i+1,by omega,by omega,ZU ?_ ?_ ?_⟩
      ·simp[go_sem,hstv,hon]
      ·simp[go_sem,hon]
      ·simp[go_sem]
   ·have hs0:¬(s=0/\dW r.act.fid x=true):=by
     rintro ⟨e1,e2⟩;have h1:c95=false:=h;rw[hA,e1,e2] at h1;cases h1
    refine wG tK ?_;refine ZW ZM ?_;refine ZS rfl ?_;refine sN tK 2 ?_;refine dP 110 z6 (λc110 h110=>?_);simp only[go_sem];refine sN tK 4 ?_;refine sCC Tryz.func132 (hf:=λhb=>(fp x.act)) (hk:=?_);refine sN tK 2 ?_;refine sCC Tryz.func131 (hf:=λhb=>(oa (bO x.act) Za r.act.fid)) (hk:=?_);refine sNq tK 7 ?_ ?_
    ·simp[go_sem];exact ⟨λa b=>⟨⟨a,b⟩,λc=>⟨⟨a,b⟩,c⟩⟩,λa=>⟨a,λb=>⟨a,b⟩⟩⟩
    refine dP 125 z6 (λc125 h125=>?_);simp only[go_sem];refine sN tK 1 ?_;refine sE ?_;refine wKd ?_;have hD:c125=(s==1&&bars r.act.fid r.act.dir r.act.name x):=by
     rw[←h125,←h110,hB];simp only[cG,eI,bars,Rec.names];cases (s==1)<;>cases (fk x.act r.act.dir r.act.name)<;>simp[Bool.and_comm]
    refine wD (λh=>?_) (λh=>?_)
    ·have hstv:qo l r (i+1)=2:=by
      have h1:c125=true:=h;rw[hD,Bool.and_eq_true] at h1;rw[hst,eq_of_beq h1.1];simp[cr,h1.2]
     refine wG tK ?_;refine ZW ZM ?_;refine ZS rfl ?_;refine sN tK 1 ?_;refine sC Tryz.func132 (hf:=(fp x.act)) (hk:=?_);refine sN tK 2 ?_;refine sC Tryz.func131 (hf:=(oa (bO x.act) Za r.act.fid)) (hk:=?_);refine sN tK 1 ?_;refine sE ?_;refine wKd ?_;refine wD (λh=>?_) (λh=>?_)
     ·have hnm:x.names r.act.fid=false:=by simpa[Rec.names] using h
      have hon:df l r (i+1)=df l r i++[x]:=by rw[hout,hnm];rfl
      refine wGq tK ?_ ?_ QG
      ·simp[go_sem];omega
      refine ZB ⟨i+1,by omega,by omega,ZU ?_ ?_ ?_⟩
      ·simp[go_sem,hstv,hon]
      ·simp[go_sem,hon,ZR]
      ·simp[go_sem]
     ·have hnm:x.names r.act.fid=true:=by simpa[Rec.names] using h
      have hon:df l r (i+1)=df l r i:=by rw[hout,hnm];rfl
      refine wG tK ?_ w5 k0;refine ZB ⟨i+1,by omega,by omega,ZU ?_ ?_ ?_⟩
      ·simp[go_sem,hstv,hon]
      ·simp[go_sem,hon]
      ·simp[go_sem]
    ·have hstv:qo l r (i+1)=s:=by
      have h1:c125=false:=h;rw[hst];unfold cr
      by_cases e0:s=0
      ·have hnm:dW r.act.fid x=false:=by
        cases e:dW r.act.fid x with
        | false=>rfl
        | true=>exact absurd ⟨e0,e⟩ hs0
       simp[e0,hnm]
      ·by_cases e1:s=1
       ·have hnb:bars r.act.fid r.act.dir r.act.name x=false:=by
         rw[hD,e1] at h1;simpa using h1
        simp[e1,hnb]
       ·simp[e0,e1]
     refine wG tK ?_;refine ZW ZM ?_;refine ZS rfl ?_;refine sN tK 1 ?_;refine sC Tryz.func132 (hf:=(fp x.act)) (hk:=?_);refine sN tK 2 ?_;refine sC Tryz.func131 (hf:=(oa (bO x.act) Za r.act.fid)) (hk:=?_);refine sN tK 1 ?_;refine sE ?_;refine wKd ?_;refine wD (λh=>?_) (λh=>?_)
     ·have hnm:x.names r.act.fid=false:=by simpa[Rec.names] using h
      have hon:df l r (i+1)=df l r i++[x]:=by rw[hout,hnm];rfl
      refine wGq tK ?_ ?_ QG
      ·simp[go_sem];omega
      refine ZB ⟨i+1,by omega,by omega,ZU ?_ ?_ ?_⟩
      ·simp[go_sem,hstv,hon]
      ·simp[go_sem,hon,ZR]
      ·simp[go_sem]
     ·have hnm:x.names r.act.fid=true:=by simpa[Rec.names] using h
      have hon:df l r (i+1)=df l r i:=by rw[hout,hnm];rfl
      refine wG tK ?_ w5 k0;refine ZB ⟨i+1,by omega,by omega,ZU ?_ ?_ ?_⟩
      ·simp[go_sem,hstv,hon]
      ·simp[go_sem,hon]
      ·simp[go_sem]
  ·have e:i=l.length:=by have:=of_decide_eq_false h;omega
   subst e;have hout:df l r l.length=l.filter λx=>!(x.names r.act.fid):=by unfold df;rw[List.take_length]
   have hst:(qo l r l.length==1)=ec l r:=by
    unfold qo;rw[List.take_length,kS r hk4]
   refine wG tK ?_;refine wD (λh=>?_) (λh=>?_)
   ·have hc:ec l r=true:=by rw[←hst];exact h
    refine wG tK ?_;refine ZZ 135 rfl (cO _) ?_;simp only[go_sem];refine wT ?_;simp[dn,hc,fE,hout]
   ·have hc:ec l r=false:=by rw[←hst];exact h
    refine wG tK ?_;refine ZL (λi:Nat=>i≤l.length) (λi=>l.length-i) (λi=>[(142,.int .i64 (i:Nat)),(7,.osl 166 9 0 (bA l r i).length),(8,.any),(9,.any),(10,.any),(11,.any),(12,.any),(13,.any),(14,.any),(15,.any),(16,.any),(17,.any),(18,.any),(19,.any),(20,.any),(21,.any),(22,.any),(23,.any),(24,.any),(25,.any),(26,.any),(27,.any),(28,.any),(29,.any),(30,.any),(31,.any),(32,.any),(33,.any),(34,.any),(35,.any),(36,.any),(37,.any),(38,.any),(39,.any),(40,.any),(41,.any),(42,.any),(43,.any),(44,.any),(45,.any),(46,.any),(47,.any),(48,.any),(49,.any),(50,.any),(51,.any),(52,.any),(53,.any),(54,.any),(55,.any),(56,.any),(57,.any),(58,.any),(59,.any),(60,.any),(61,.any),(62,.any),(63,.any),(64,.any),(65,.any),(66,.any),(67,.any),(68,.any),(69,.any),(70,.any),(71,.any),(72,.any),(73,.any),(74,.any),(75,.any),(76,.any),(77,.any),(78,.any),(79,.any),(80,.any),(81,.any),(82,.any),(83,.any),(84,.any),(85,.any),(86,.any),(87,.any),(88,.any),(89,.any),(90,.any),(91,.any),(92,.any),(93,.any),(94,.any),(95,.any),(96,.any),(97,.any),(98,.any),(99,.any),(100,.any),(101,.any),(102,.any),(103,.any),(104,.any),(105,.any),(106,.any),(107,.any),(108,.any),(109,.any),(110,.any),(111,.any),(112,.any),(113,.any),(114,.any),(115,.any),(116,.any),(117,.any),(118,.any),(119,.any),(120,.any),(121,.any),(122,.any),(123,.any),(124,.any),(125,.any),(126,.any),(127,.any),(128,.any),(129,.any),(130,.any),(131,.any),(132,.any),(133,.any),(134,.any),(135,.any),(136,.any),(137,.any),(138,.any),(139,.any),(143,.any),(144,.any),(145,.any),(146,.any),(147,.any),(148,.any),(149,.any),(150,.any),(151,.any),(152,.any),(153,.any),(154,.any),(155,.any),(156,.any),(157,.any),(158,.any),(159,.any),(160,.any),(161,.any),(162,.any),(163,.any),(164,.any),(165,.any),(166,.any),(167,.any)]) (λi=>[(166,.cells 116 9 ((bA l r i).map ZR))]) 0 z8 ?_ λi hi=>?_
    ·simp only[go_sem];exact ZU WT WT w3
    simp only[go_sem];refine wG tK ?_;refine wD (λh=>?_) (λh=>?_)
    ·have hlt:i<l.length:=by have:=of_decide_eq_true h;omega
     have hg:(l.map ZR).getD i []=ZR (l.getD i default):=Fam.getD hlt;have htk:=ZT hlt;generalize l.getD i default=x at hg htk;have hkl:(bA l r i).length≤l.length:=by unfold bA;have:=List.length_filter_le (keeps r) (l.take i);simp at this;omega
     have hkn:bA l r (i+1)=if keeps r x then bA l r i++[x] else bA l r i:=by
      unfold bA;rw[htk,List.filter_append]
      by_cases hk:keeps r x=true<;>simp[hk]
     have hw:=wi1 (i:=i) z8;refine wR ?_;refine wNq tK 4 ?_ ?_ z6 z6 s8
     ·simp[hlt]
     refine ZZ 16 rfl (rfl) ?_;simp only[go_sem];refine wR ?_;refine wN tK 3 ?_;refine al 148 z6 (λc148 h148=>?_);simp only[go_sem];refine wN tK 6 ?_;refine al 154 z6 (λc154 h154=>?_);simp only[go_sem];refine wN tK 8 ?_;refine al 162 z6 (λc162 h162=>?_);simp only[go_sem];have hK:c162=keeps r x:=by
      rw[←h162,←h154,←h148];simp only[eI,keeps,stored,bne];generalize (r.act.kind==3)=a1;generalize (x.act.kind==3)=a2;generalize (x.act.fid==r.act.fid)=a3;cases a1<;>cases a2<;>cases a3<;>rfl
     refine wG tK ?_;refine wD (λh=>?_) (λh=>?_)
     ·have hk2:bA l r (i+1)=bA l r i++[x]:=by rw[hkn,←hK,show c162=true from h];rfl
      refine wGq tK ?_ ?_ QG
      ·simp[go_sem];omega
      refine ZB ⟨i+1,by omega,by omega,ZU ?_ ?_ ?_⟩
      ·simp[go_sem,hk2]
      ·simp[go_sem,hk2,ZR]
      ·simp[go_sem]
     ·have hk2:bA l r (i+1)=bA l r i:=by rw[hkn,←hK,show c162=false from h];rfl
      refine wG tK ?_ w5 k0;refine ZB ⟨i+1,by omega,by omega,ZU ?_ ?_ ?_⟩
      ·simp[go_sem,hk2]
      ·simp[go_sem,hk2]
      ·simp[go_sem]
    have e:i=l.length:=by have:=of_decide_eq_false h;omega
    subst e;have hkept:bA l r l.length=cJ l r:=by unfold bA;rw[List.take_length,k_]
    have hul:=(kO l r).length_le;rw[hkept];have hadd:dn l r=if (cJ l r).length≥20 then none else some (cJ l r++[r]):=by simp only[dn,hc,Bool.false_eq_true,if_false]
    rw[hadd];generalize cJ l r=d at hul;refine wG tK ?_;refine wD (λh=>?_) (λh=>?_)
    ·have hd:d.length≥20:=by have h2:=of_decide_eq_true h;omega
     refine wG tK ?_;refine wT ?_;rw[if_pos hd];rfl
    ·have hd:¬d.length≥20:=by have h2:=of_decide_eq_false h;omega
     refine wGq tK ?_ ?_ u3
     ·simp[go_sem];omega
     refine ZZ 174 rfl Qc ?_;simp only[go_sem];refine wT ?_;rw[if_neg hd];simp only[fE,List.map_append,List.map_cons,List.map_nil,ZR];rw[List.take_of_length_le y8]
 ·have hc:ec l r=false:=by
   unfold ec;split
   ·rfl
   ·have:(r.act.kind==4)=false:=h;rw[this];rfl
  refine wG tK ?_;refine ZL (λi:Nat=>i≤l.length) (λi=>l.length-i) (λi=>[(142,.int .i64 (i:Nat)),(7,.osl 166 9 0 (bA l r i).length),(8,.any),(9,.any),(10,.any),(11,.any),(12,.any),(13,.any),(14,.any),(15,.any),(16,.any),(17,.any),(18,.any),(19,.any),(20,.any),(21,.any),(22,.any),(23,.any),(24,.any),(25,.any),(26,.any),(27,.any),(28,.any),(29,.any),(30,.any),(31,.any),(32,.any),(33,.any),(34,.any),(35,.any),(36,.any),(37,.any),(38,.any),(39,.any),(40,.any),(41,.any),(42,.any),(43,.any),(44,.any),(45,.any),(46,.any),(47,.any),(48,.any),(49,.any),(50,.any),(51,.any),(52,.any),(53,.any),(54,.any),(55,.any),(56,.any),(57,.any),(58,.any),(59,.any),(60,.any),(61,.any),(62,.any),(63,.any),(64,.any),(65,.any),(66,.any),(67,.any),(68,.any),(69,.any),(70,.any),(71,.any),(72,.any),(73,.any),(74,.any),(75,.any),(76,.any),(77,.any),(78,.any),(79,.any),(80,.any),(81,.any),(82,.any),(83,.any),(84,.any),(85,.any),(86,.any),(87,.any),(88,.any),(89,.any),(90,.any),(91,.any),(92,.any),(93,.any),(94,.any),(95,.any),(96,.any),(97,.any),(98,.any),(99,.any),(100,.any),(101,.any),(102,.any),(103,.any),(104,.any),(105,.any),(106,.any),(107,.any),(108,.any),(109,.any),(110,.any),(111,.any),(112,.any),(113,.any),(114,.any),(115,.any),(116,.any),(117,.any),(118,.any),(119,.any),(120,.any),(121,.any),(122,.any),(123,.any),(124,.any),(125,.any),(126,.any),(127,.any),(128,.any),(129,.any),(130,.any),(131,.any),(132,.any),(133,.any),(134,.any),(135,.any),(136,.any),(137,.any),(138,.any),(139,.any),(143,.any),(144,.any),(145,.any),(146,.any),(147,.any),(148,.any),(149,.any),(150,.any),(151,.any),(152,.any),(153,.any),(154,.any),(155,.any),(156,.any),(157,.any),(158,.any),(159,.any),(160,.any),(161,.any),(162,.any),(163,.any),(164,.any),(165,.any),(166,.any),(167,.any)]) (λi=>[(166,.cells 116 9 ((bA l r i).map ZR))]) 0 z8 ?_ λi hi=>?_
  ·simp only[go_sem];exact ZU WT WT w3
  simp only[go_sem];refine wG tK ?_;refine wD (λh=>?_) (λh=>?_)
  ·have hlt:i<l.length:=by have:=of_decide_eq_true h;omega
   have hg:(l.map ZR).getD i []=ZR (l.getD i default):=Fam.getD hlt;have htk:=ZT hlt;generalize l.getD i default=x at hg htk;have hkl:(bA l r i).length≤l.length:=by unfold bA;have:=List.length_filter_le (keeps r) (l.take i);simp at this;omega
   have hkn:bA l r (i+1)=if keeps r x then bA l r i++[x] else bA l r i:=by
    unfold bA;rw[htk,List.filter_append]
    by_cases hk:keeps r x=true<;>simp[hk]
   have hw:=wi1 (i:=i) z8;refine wR ?_;refine wNq tK 4 ?_ ?_ z6 z6 s8
   ·simp[hlt]
   refine ZZ 16 rfl (rfl) ?_;simp only[go_sem];refine wR ?_;refine wN tK 3 ?_;refine al 148 z6 (λc148 h148=>?_);simp only[go_sem];refine wN tK 6 ?_;refine al 154 z6 (λc154 h154=>?_);simp only[go_sem];refine wN tK 8 ?_;refine al 162 z6 (λc162 h162=>?_);simp only[go_sem];have hK:c162=keeps r x:=by
    rw[←h162,←h154,←h148];simp only[eI,keeps,stored,bne];generalize (r.act.kind==3)=a1;generalize (x.act.kind==3)=a2;generalize (x.act.fid==r.act.fid)=a3;cases a1<;>cases a2<;>cases a3<;>rfl
   refine wG tK ?_;refine wD (λh=>?_) (λh=>?_)
   ·have hk2:bA l r (i+1)=bA l r i++[x]:=by rw[hkn,←hK,show c162=true from h];rfl
    refine wGq tK ?_ ?_ QG
    ·simp[go_sem];omega
    refine ZB ⟨i+1,by omega,by omega,ZU ?_ ?_ ?_⟩
    ·simp[go_sem,hk2]
    ·simp[go_sem,hk2,ZR]
    ·simp[go_sem]
   ·have hk2:bA l r (i+1)=bA l r i:=by rw[hkn,←hK,show c162=false from h];rfl
    refine wG tK ?_ w5 k0;refine ZB ⟨i+1,by omega,by omega,ZU ?_ ?_ ?_⟩
    ·simp[go_sem,hk2]
    ·simp[go_sem,hk2]
    ·simp[go_sem]
  have e:i=l.length:=by have:=of_decide_eq_false h;omega
  subst e;have hkept:bA l r l.length=cJ l r:=by unfold bA;rw[List.take_length,k_]
  have hul:=(kO l r).length_le;rw[hkept];have hadd:dn l r=if (cJ l r).length≥20 then none else some (cJ l r++[r]):=by simp only[dn,hc,Bool.false_eq_true,if_false]
  rw[hadd];generalize cJ l r=d at hul;refine wG tK ?_;refine wD (λh=>?_) (λh=>?_)
  ·have hd:d.length≥20:=by have h2:=of_decide_eq_true h;omega
   refine wG tK ?_;refine wT ?_;rw[if_pos hd];rfl
  ·have hd:¬d.length≥20:=by have h2:=of_decide_eq_false h;omega
   refine wGq tK ?_ ?_ u3
   ·simp[go_sem];omega
   refine ZZ 174 rfl Qc ?_;simp only[go_sem];refine wT ?_;rw[if_neg hd];simp only[fE,List.map_append,List.map_cons,List.map_nil,ZR];rw[List.take_of_length_le y8]
end La
