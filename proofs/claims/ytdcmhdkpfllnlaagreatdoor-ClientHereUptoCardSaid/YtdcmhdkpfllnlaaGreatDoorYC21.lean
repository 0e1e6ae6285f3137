/- Texts of this claim, part 21: Add, Add2, RAdd, RAdd2. No condition. -/
import Derived.Test.YtdcmhdkpfllnlaaGreatDoorYC14
set_option maxRecDepth 10000
set_option maxHeartbeats 4000000
set_option linter.unusedSimpArgs false
set_option linter.unusedVariables false
namespace La
open Go Go.Eng Go.Proofs
theorem CJ (x:Rec) (f:Int):af Tryz.prog 185 [.agg (ZR x),.rp [.int .i64 f] 0] [] (λr _=>r=.bool (eA f x)):=by
 unfold ZR;refine ZF tK (Tryz.func185) rfl (λC=>?_);simp only[Tryz.ntmps185,Tryz.results185,go_sem];cases e1:(x.act.fid==f)<;>cases e2:(x.act.kind==1)<;>cases e3:(x.act.kind==2)
 all_goals refine wG tK ?_ (by simp only[go_sem,e1,e2,e3];try exact rfl) (by simp[go_sem,e1,e2,e3])
 all_goals refine wT ?_
 all_goals simp[eA,e1,e2,e3]
theorem G2 (l:List Rec) (hl:l.length≤100000000) (f:Int):af Tryz.prog 148 [.sl (l.map ZR),.int .i64 f] [] (λr _=>r=.int .i64 (ct (l.findIdx? (eA f)))):=by
 refine ZF tK (Tryz.func148) rfl (λC=>?_);simp only[Tryz.ntmps148,Tryz.results148,go_sem];refine wG tK ?_;refine ZZ 3 rfl (rfl) ?_;simp only[go_sem];refine wC Tryz.func152 (hf:=(jT l hl ⟨_,Go.Proofs.Tryz.func185,by kernel_rfl,rfl⟩ rfl (λx _=>CJ x f))) (hk:=?_);refine wG tK ?_;refine wT ?_;rfl
theorem Gm (x r m:Rec):af Tryz.prog 150 [.agg (ZR x),.rp [.rp (ZR r) 0] 0,.rp [.rp (ZR m) 0] 0] [] (λb _=>b=.bool (bars r.act.fid m.act.dir m.act.name x)):=by
 refine ZF tK (Tryz.func150) rfl (λC=>?_);simp only[Tryz.ntmps150,Tryz.results150,go_sem];refine wGq tK ?_ ?_ s8
 ·simp
 refine ZZ 3 rfl (rfl) ?_;simp only[go_sem];refine ZW ZM ?_;refine ZS rfl ?_;refine sN tK 4 ?_;refine eo 8 z6 (λc8 h8=>?_);simp only[go_sem];refine sN tK 6 ?_;refine sCC Tryz.func108 (hf:=λhb=>(yF x r.act.fid)) (hk:=?_);refine sN tK 1 ?_;refine eo 16 z6 (λc16 h16=>?_);simp only[go_sem];refine sN tK 9 ?_;refine sCC Tryz.func151 (hf:=λhb=>(Bo x m.act.dir m.act.name)) (hk:=?_);refine sN tK 2 ?_;refine sE ?_;refine wKd ?_;refine wG tK ?_;refine wT ?_;subst h16 h8;simp only[bars,cP,fb]
def pC (l:List Rec) (r:Rec) (k:Nat):Bool:=
 (l.getD k default).act.dir==r.act.dir&&(l.getD k default).act.name==r.act.name&&!((l.drop (k+1)).any (bars r.act.fid (l.getD k default).act.dir (l.getD k default).act.name))
theorem zU {l:List Rec} {r:Rec} {k:Nat} (hk:l.findIdx? (eA r.act.fid)=some k):eH l r=(r.act.kind==4&&pC l r k):=by
 unfold eH pC;rw[hk];simp only[Bool.and_assoc]
theorem zV (l:List Rec) (hl:l.length≤100000000) (r:Rec):af Tryz.prog 105 [.sl (l.map ZR),.rp (ZR r) 0] [] (λb _=>b=.bool (eH l r)):=by
 refine ZF tK (Tryz.func105) rfl (λC=>?_);simp only[Tryz.ntmps105,Tryz.results105,go_sem];refine wGq tK ?_ ?_ s8
 ·simp
 refine wC Tryz.func148 (hf:=(G2 l hl r.act.fid)) (hk:=?_);cases e1:(r.act.kind != 4)
 ·refine wG tK ?_ (by simp only[go_sem,e1,ZR];try exact rfl) (by simp[go_sem,e1,ZR]);refine wD (λh=>?_) (λh=>?_)
  ·refine wG tK ?_;refine wT ?_;have:l.findIdx? (eA r.act.fid)=none:=by
    cases e:l.findIdx? (eA r.act.fid) with
    | none=>rfl
    | some k=>
     rw[e] at h;have h2:decide ((k:Int)<0)=true:=h;rw[decide_eq_true_eq] at h2;omega
   simp[eH,this]
  ·obtain ⟨k,hk⟩:∃k,l.findIdx? (eA r.act.fid)=some k:=by
    cases e:l.findIdx? (eA r.act.fid) with
    | none=>rw[e] at h;simp[ct] at h
    | some k=>exact ⟨k,rfl⟩
   have hkl:k<l.length:=(YM.1 hk).1;have hg:(l.map ZR).getD k []=ZR (l.getD k default):=Fam.getD hkl;rw[zU hk,hk];unfold pC;simp only[ct];generalize l.getD k default=m at hg;refine wGq tK ?_ ?_ n9
   ·simp[hkl]
   have hw:IntKind.i64.wrap ((k:Int)+1)=((k+1:Nat):Int):=by rw[Eng.wrap_small z8 z8];rfl
   have hd:List.drop (k+1) (l.map ZR)=(l.drop (k+1)).map ZR:=Y0.symm;refine ZZ 3 rfl (rfl) ?_;refine ZZ 6 rfl (rfl) ?_;simp only[go_sem];refine ZW ZM ?_;refine ZS rfl ?_;refine sN tK 10 ?_;refine eo 37 z6 (λc37 h37=>?_);simp only[go_sem];refine sN tK 12 ?_;refine eo 49 z6 (λc49 h49=>?_);simp only[go_sem];refine sNq tK 6 ?_ ?_ z6 z6 (by simp only[go_sem,hw,hd];try exact rfl)
   ·simp[go_sem];intro h;exact ⟨h,by omega,by omega,λ_ _=>rfl⟩
   refine sCC Tryz.func149 (hf:=λhb=>(pZ (l.drop (k+1)) j0 ⟨_,Go.Proofs.Tryz.func150,by kernel_rfl,rfl⟩ rfl (λx _=>Gm x r m))) (hk:=?_);refine sN tK 3 ?_;refine sE ?_;refine wKd ?_;refine wG tK ?_;refine wT ?_;subst h49 h37;have hk4:(r.act.kind==4)=true:=by simpa using e1
   rw[hk4];simp only[cP,Bool.true_and]
 ·refine wG tK ?_ (by simp only[go_sem,e1,ZR];try exact rfl) (by simp[go_sem,e1,ZR]);refine wDT (hb:=(rfl)) (hk:=?_);refine wG tK ?_;refine wT ?_;have hk4:(r.act.kind==4)=false:=by simpa using e1
  unfold eH;split
  ·rfl
  ·rw[hk4];rfl
theorem AH (x r:Rec):af Tryz.prog 107 [.agg (ZR x),.rp (ZR r) 0] [] (λb _=>b=.bool (x.names r.act.fid)):=by
 refine ZF tK (Tryz.func107) rfl (λC=>?_);simp only[Tryz.ntmps107,Tryz.results107,go_sem];refine wGq tK ?_ ?_ s8
 ·simp
 refine ZZ 2 rfl (rfl) ?_;simp only[go_sem];refine wC Tryz.func108 (hf:=(yF x r.act.fid)) (hk:=?_);refine wG tK ?_;refine wT ?_;rfl
theorem zw (x r:Rec):af Tryz.prog 109 [.agg (ZR x),.rp (ZR r) 0] [] (λb _=>b=.bool (stored r x)):=by
 refine ZF tK (Tryz.func109) rfl (λC=>?_);simp only[Tryz.ntmps109,Tryz.results109,go_sem];refine wR ?_;refine wN tK 2 ?_ z6 z6 s8 (by simp[go_sem,ZR]);refine wR ?_;refine wN tK 4 ?_;refine aq 7 z6 (λc7 h7=>?_);simp only[go_sem];refine wG tK ?_ s8 (by simp[go_sem,ZR]);refine wT ?_;subst h7;rw[cP];rfl
def fX:Option (List Rec)->AV
 | some x=>.tup [.sl (x.map ZR),.int .i64 0]
 | none=>.tup [.nils,.int .i64 5]
theorem I2 (l:List Rec) (r:Rec) (hl:SmallL l) (hr:r.act.Small):af Tryz.prog 65 [.sl (l.map ZR),.agg (ZR r)] [] (λx _=>x=fX (dG l r)):=by
 have hlen:=hl.len;refine ZF tK (Tryz.func65) rfl (λC=>?_);simp only[Tryz.ntmps65,Tryz.results65,go_sem];refine wGq tK ?_ ?_ s8
 ·simp
 refine ZZ 3 rfl (rfl) ?_;simp only[go_sem];refine wCG [] 100 Tryz.func46 (hf:=(pU l hl)) (hk:=?_);refine wG tK ?_;refine wV Tryz.func105 (hf:=(zV l hlen r)) (hk:=?_);refine wG tK ?_;refine wD (λh=>?_) (λh=>?_)
 ·refine wG tK ?_;refine wCG [119] 100 Tryz.func106 (hf:=(mA l hlen 119 ⟨_,Go.Proofs.Tryz.func107,by kernel_rfl,rfl⟩ rfl x8 (λx _=>AH x r))) (hk:=?_);refine wG tK ?_;refine ZZ 219 rfl (by rw[List.all_append,cW,Bool.true_and];exact jn _ rfl) ?_;simp only[go_sem];refine wT ?_;have hle:=W6 (λx:Rec=>!x.names r.act.fid) l;simp only[dG,h,if_true,fX];generalize (l.filter λx=>!x.names r.act.fid)=d at *;rw[if_pos y8,ig y8]
 ·have hh:eH l r=false:=h;refine wG tK ?_;refine wD (λh=>?_) (λh=>?_)
  ·refine wG tK ?_;refine wCG [119] 100 Tryz.func106 (hf:=(mA l hlen 119 ⟨_,Go.Proofs.Tryz.func109,by kernel_rfl,rfl⟩ rfl x8 (λx _=>zw x r))) (hk:=?_);have hle:=W6 (λx:Rec=>!stored r x) l;have hadd:dG l r=if (l.filter λx=>!stored r x).length≥20 then none else some ((l.filter λx=>!stored r x)++[r]):=by
    have hk:r.act.kind=3:=eq_of_beq WY;simp only[dG,hh,Bool.false_eq_true,if_false,cS,hk,if_true]
   rw[hadd];have hsub:∀x,x∈(l.filter λx=>!stored r x)->x.act.Small:=λx hx=>hl.each x (W9.1 hx).1
   generalize (l.filter λx=>!stored r x)=d at hle hsub;refine wG tK ?_;refine wD (λh=>?_) (λh=>?_)
   ·have hd:d.length≥20:=by have h2:=of_decide_eq_true h;omega
    refine wG tK ?_;refine wT ?_;rw[if_pos hd];rfl
   ·have hd:¬d.length≥20:=by have h2:=of_decide_eq_false h;omega
    refine wGq tK ?_ ?_ s8
    ·simp
    refine ZZ 26 rfl (rfl) ?_;simp only[go_sem];refine wC Tryz.func46 (hf:=(kr [r] ⟨by simp,λx hx=>by rw[List.mem_singleton.1 hx];exact hr⟩)) (hk:=?_);have ht:(d.map ZR++List.replicate (l.length-d.length) [AV.int .i64 0,.int .i64 0,.int .i64 0,.str [],.int .i64 0,.str [],.nils,.int .i64 0,.int .i64 0]).take d.length=d.map ZR:=ig y8;refine wGq tK ?_ ?_ (by simp only[go_sem,ht,ZR];try exact rfl)
    ·simp[rowsOf];omega
    refine ZZ 28 rfl Qo ?_;simp only[go_sem];refine wG tK ?_;refine wT ?_;rw[if_neg hd];simp only[fX,List.map_append,List.map_cons,List.map_nil,ZR];rw[Wy y8]
  ·have hadd:dG l r=if l.length≥20 then none else some (l++[r]):=by
    have hk:¬r.act.kind=3:=by simpa using h
    simp only[dG,hh,Bool.false_eq_true,if_false,cS,hk]
   rw[hadd];refine wG tK ?_;refine wD (λh=>?_) (λh=>?_)
   ·have hd:l.length≥20:=by have h2:=of_decide_eq_true h;omega
    refine wG tK ?_;refine wT ?_;rw[if_pos hd];rfl
   ·have hd:¬l.length≥20:=by have h2:=of_decide_eq_false h;omega
    refine wGq tK ?_ ?_ s8
    ·simp
    refine ZZ 26 rfl (rfl) ?_;simp only[go_sem];refine wC Tryz.func46 (hf:=(kr [r] ⟨by simp,λx hx=>by rw[List.mem_singleton.1 hx];exact hr⟩)) (hk:=?_);refine wGq tK ?_ ?_ s8
    ·simp[rowsOf];omega
    refine ZZ 28 rfl Qo ?_;simp only[go_sem];refine wG tK ?_;refine wT ?_;rw[if_neg hd];simp only[fX,List.map_append,List.map_cons,List.map_nil,ZR];rw[Wy y8]
@[go_sem,simp] theorem IQ (s:Nat) (r:List AV) (l:List (List AV)):Eng.rowsOf s (r::l)↔r.length=s/\Eng.rowsOf s l:=by
 unfold Eng.rowsOf;constructor
 ·exact λh=>⟨h r y8,λx hx=>h x (by simp[hx])⟩
 ·rintro ⟨h1,h2⟩ x hx
  rcases List.mem_cons.1 hx with rfl | hx
  ·exact h1
  ·exact h2 x hx
@[go_sem,simp] theorem Jw (s:Nat):Eng.rowsOf s []:=λ_ h=>by simp at h
theorem fI (a:Act):af Tryz.prog 132 [.agg (ZA a)] [] (λr _=>r=.sl ((bU a).map ZI)):=by
 unfold ZA;refine ZF tK (Tryz.func132) rfl (λC=>?_);simp only[Tryz.ntmps132,Tryz.results132,go_sem];refine wG tK ?_;refine wD (λh=>?_) (λh=>?_)
 ·have h1:a.kind≠3:=by simpa using h
  refine wG tK ?_;refine wD (λh=>?_) (λh=>?_)
  ·have h2:a.kind=5:=by simpa using h
   refine wG tK ?_;refine ZZ 22 rfl (rfl) ?_;simp only[go_sem];refine wT ?_;simp[go_sem,bU,ZI,h2]
  ·have h2:a.kind≠5:=by simpa using h
   refine wG tK ?_;refine ZZ 14 rfl (rfl) ?_;simp only[go_sem];refine wT ?_;simp[go_sem,bU,ZI,h1,h2]
 ·have h1:a.kind=3:=by simpa using h
  refine wG tK ?_;refine wDF (hb:=(by rw[h1];rfl)) (hk:=?_);refine wG tK ?_;refine ZZ 6 rfl (rfl) ?_;simp only[go_sem];refine wT ?_;simp[go_sem,bU,ZI,h1]
theorem pf (l:List Int) (hlen:l.length≤100000000) (v:Int):af Tryz.prog 131 [.sl (l.map ZI),.int .i64 v] [] (λr _=>r=.bool (l.contains v)):=by
 refine ZF tK (Tryz.func131) rfl (λC=>?_);simp only[Tryz.ntmps131,Tryz.results131,go_sem];refine wG tK ?_;refine ZL (λi:Nat=>i≤l.length/\v∉l.take i) (λi=>l.length-i) (λi=>(9,.int .i64 i)::(6,.any)::u0 10 7 []) (λ_=>[]) 0 ⟨by omega,by simp⟩ ?_ λi hi=>?_
 ·simp only[go_sem];exact ZU w3 w3 p9
 obtain ⟨hi,hno⟩:=hi;simp only[go_sem];refine wG tK ?_;refine wD (λh=>?_) (λh=>?_)
 ·have hlt:i<l.length:=by simp at h;omega
  have hg:(l.map ZI).getD i []=ZI (l.getD i default):=Fam.getD hlt;have htk:=ZT hlt;have hm:=YG hlt;generalize l.getD i default=n at hg htk hm;refine wGq tK ?_ ?_ Zi
  ·simp[hlt]
  refine wD (λh=>?_) (λh=>?_)
  ·refine wG tK ?_;refine wT ?_;have e:n=v:=eq_of_beq h;subst e;rw[List.contains_iff_mem.2 hm]
  ·have hw:IntKind.i64.wrap ((i:Int)+1)=(i:Int)+1:=wrap_small z8 z8;have hne:n≠v:=by simpa using h
   refine wG tK ?_ w5 k7;refine ZB ⟨i+1,⟨by omega,?_⟩,by omega,ZU ?_ ?_ ?_⟩
   ·rw[htk];intro hx
    rcases List.mem_append.1 hx with hx | hx
    ·exact hno hx
    ·exact hne (List.mem_singleton.1 hx).symm
   ·simp[go_sem]
   ·simp[go_sem]
   ·simp only[go_sem]
 ·have e:i=l.length:=by simp at h;omega
  refine wG tK ?_;refine wT ?_;rw[e,W2] at hno;rw[show l.contains v=false from by simpa using hno]
def keeps (r x:Rec):Bool:=!(r.act.kind==3&&stored r x)
theorem lL (l:List Rec) (r:Rec):cS l r=l.filter (keeps r):=by
 unfold cS;split
 ·rename_i h
  congr 1
  funext x
  simp[keeps,h]
 ·rename_i h;rw[YR.2];intro x _;simp[keeps,h]
def here (d:Int) (n:List UInt8) (b:Act):Bool:=
 ((((b.kind==1||b.kind==2)||b.kind==4)||b.kind==5)&&b.dir==d&&b.name==n)||(b.kind==5&&b.to==d&&b.toName==n)
theorem v_ (d:Int) (n:List UInt8) (b:Act):here d n b=fE b d n:=by
 unfold here fE
 by_cases h1:b.kind=1
 ·simp[h1]
 ·by_cases h2:b.kind=2
  ·simp[h2]
  ·by_cases h4:b.kind=4
   ·simp[h4]
   ·by_cases h5:b.kind=5
    ·simp[h5]
    ·simp[h1,h2,h4,h5]
def dx (l:List Rec) (r:Rec) (i:Nat):List Rec:=(l.take i).filter λx=>!(x.names r.act.fid)
def ru (l:List Rec) (r:Rec) (i:Nat):Int:=(l.take i).foldl (cF r) 0
def bM (l:List Rec) (r:Rec) (i:Nat):List Rec:=(l.take i).filter (keeps r)
theorem vc (l:List Rec) (r:Rec) (hl:SmallL l) (hr:r.act.Small):af Tryz.prog 83 [.sl (l.map ZR),.agg (ZR r)] [] (λx _=>x=fX (dG l r)):=by
 have hlen:=hl.len;refine ZF tK (Tryz.func83) rfl (λC=>?_);simp only[Tryz.ntmps83,Tryz.results83,go_sem];refine wGq tK ?_ ?_ s8
 ·simp[go_sem]
 refine ZZ 3 rfl (rfl) ?_;refine ZZ 6 rfl (rfl) ?_;simp only[go_sem];refine wD (λh=>?_) (λh=>?_)
 ·have hk4:r.act.kind=4:=eq_of_beq h;refine wG tK ?_;refine ZL (λi:Nat=>i≤l.length) (λi=>l.length-i) (λi=>(24,.int .i64 (i:Nat))::(8,.int .i64 (ru l r i))::(7,.osl 135 9 0 (dx l r i).length)::u0 9 8 (u0 25 112 [])) (λi=>[(135,.cells 116 9 ((dx l r i).map ZR))]) 0 z8 ?_ λi hi=>?_
  ·simp only[go_sem];exact ZU (by simp[go_sem,dx,ru]) (by simp[go_sem,dx]) w3
  simp only[go_sem];refine wG tK ?_;refine wD (λh=>?_) (λh=>?_)
  ·have hlt:i<l.length:=by have:=of_decide_eq_true h;omega
   have hg:(l.map ZR).getD i []=ZR (l.getD i default):=Fam.getD hlt;have htk:=ZT hlt;generalize l.getD i default=x at hg htk;refine wR ?_;refine wNq tK 4 ?_ ?_ z6 z6 n9
   ·simp[hlt]
   refine ZZ 10 rfl (rfl) ?_;simp only[go_sem];refine wR ?_;refine wNq tK 4 ?_ ?_
   ·simp[go_sem]
   refine ZZ 11 rfl (rfl) ?_;simp only[go_sem];have hst:ru l r (i+1)=cF r (ru l r i) x:=by
    unfold ru;rw[htk,List.foldl_append];rfl
   have hout:dx l r (i+1)=if x.names r.act.fid then dx l r i else dx l r i++[x]:=by
    unfold dx;rw[htk,List.filter_append]
    by_cases hk:x.names r.act.fid=true<;>simp[hk]
   have hol:(dx l r i).length≤l.length:=by unfold dx;have:=W6 (λx:Rec=>!x.names r.act.fid) (l.take i);simp at this;omega
   have hw:=wi1 (i:=i) z8;clear hg htk;generalize ru l r i=s at hst;refine wR ?_;refine wN tK 3 ?_;refine aq 32 z6 (λc32 h32=>?_);simp only[go_sem];refine wN tK 5 ?_;refine aq 37 z6 (λc37 h37=>?_);simp only[go_sem];refine wN tK 1 ?_;refine wR ?_;refine wN tK 6 ?_;refine aq 43 z6 (λc43 h43=>?_);simp only[go_sem];refine wN tK 5 ?_;refine aq 48 z6 (λc48 h48=>?_);simp only[go_sem];refine wN tK 1 ?_;refine wR ?_;refine wN tK 8 ?_;refine aq 56 z6 (λc56 h56=>?_);simp only[go_sem];refine wN tK 7 ?_;refine aq 63 z6 (λc63 h63=>?_);simp only[go_sem];refine wNq tK 19 ?_ ?_
   ·simp[go_sem];exact ⟨λa=>⟨a,λb=>⟨a,b⟩⟩,λa=>⟨a,λb c=>⟨a,b,c⟩⟩⟩
   refine aq 82 z6 (λc82 h82=>?_);simp only[go_sem];refine wN tK 1 ?_;refine wR ?_;refine wN tK 2 ?_;refine aq 85 z6 (λc85 h85=>?_);simp only[go_sem];refine wN tK 3 ?_;refine aq 88 z6 (λc88 h88=>?_);simp only[go_sem];refine wN tK 7 ?_;refine aq 95 z6 (λc95 h95=>?_);simp only[go_sem];have hA:c95=(s==0&&eA r.act.fid x):=by
    rw[←h95,←h88,←h85,←h37,←h32];simp only[cP,fb,eA,Bool.and_assoc];cases (s==0)<;>cases (x.act.fid==r.act.fid)<;>simp
   have hB:c82=fE x.act r.act.dir r.act.name:=by
    rw[←v_,←h82,←h63,←h56,←h48,←h43,←h37,←h32];simp only[cP,fb,here]
   clear h82 h63 h56 h48 h43 h88 h85 h95;refine wG tK ?_;refine wD (λh=>?_) (λh=>?_)
   ·have hs:s=0/\eA r.act.fid x=true:=by
     have:c95=true:=h;rw[hA,Bool.and_eq_true] at this;exact ⟨eq_of_beq this.1,this.2⟩
    refine wR ?_;refine wN tK 1 ?_;refine wR ?_;refine wN tK 5 ?_;refine aq 100 z6 (λc100 h100=>?_);simp only[go_sem];refine wN tK 7 ?_;refine aq 107 z6 (λc107 h107=>?_);simp only[go_sem];have hC:c107=(x.act.dir==r.act.dir&&x.act.name==r.act.name):=by rw[←h107,←h100,cP]
    refine wG tK ?_;refine wD (λh=>?_) (λh=>?_)
    ·have hstv:ru l r (i+1)=1:=by
      have h1:c107=true:=h;rw[hC,Bool.and_eq_true] at h1;rw[hst,hs.1];simp[cF,hs.2,eq_of_beq h1.1,eq_of_beq h1.2]
     refine wG tK ?_;refine ZW ZM ?_;refine ZS rfl ?_;refine sN tK 1 ?_;refine sC Tryz.func132 (hf:=(fI x.act)) (hk:=?_);refine sN tK 2 ?_;refine sC Tryz.func131 (hf:=(pf (bU x.act) Zq r.act.fid)) (hk:=?_);refine sN tK 1 ?_;refine sE ?_;refine wKd ?_;refine wD (λh=>?_) (λh=>?_)
     ·have hnm:x.names r.act.fid=false:=by simpa[Rec.names] using h
      have hon:dx l r (i+1)=dx l r i++[x]:=by rw[hout,hnm];rfl
      refine wGq tK ?_ ?_ QQ
      ·simp[go_sem];omega
      refine ZB ⟨i+1,by omega,by omega,ZU ?_ ?_ ?_⟩
      ·simp[go_sem,hstv,hon]
      ·simp[go_sem,hon,ZR]
      ·simp[go_sem]
     ·have hnm:x.names r.act.fid=true:=by simpa[Rec.names] using h
      have hon:dx l r (i+1)=dx l r i:=by rw[hout,hnm];rfl
      refine wG tK ?_ w5 k7;refine ZB ⟨i+1,by omega,by omega,ZU ?_ ?_ ?_⟩
      ·simp[go_sem,hstv,hon]
      ·simp[go_sem,hon]
      ·simp[go_sem]
    ·have hstv:ru l r (i+1)=2:=by
      have h1:c107=false:=h;have h2:¬(x.act.dir=r.act.dir/\x.act.name=r.act.name):=by
       rintro ⟨e1,e2⟩;rw[hC,e1,e2] at h1;simp at h1
      rw[hst,hs.1];simp only[cF,hs.2,if_true,if_neg h2]
     refine wG tK ?_;refine ZW ZM ?_;refine ZS rfl ?_;refine sN tK 1 ?_;refine sC Tryz.func132 (hf:=(fI x.act)) (hk:=?_);refine sN tK 2 ?_;refine sC Tryz.func131 (hf:=(pf (bU x.act) Zq r.act.fid)) (hk:=?_);refine sN tK 1 ?_;refine sE ?_;refine wKd ?_;refine wD (λh=>?_) (λh=>?_)
     ·have hnm:x.names r.act.fid=false:=by simpa[Rec.names] using h
      have hon:dx l r (i+1)=dx l r i++[x]:=by rw[hout,hnm];rfl
      refine wGq tK ?_ ?_ QQ
      ·simp[go_sem];omega
      refine ZB ⟨i+1,by omega,by omega,ZU ?_ ?_ ?_⟩
      ·simp[go_sem,hstv,hon]
      ·simp[go_sem,hon,ZR]
      ·simp[go_sem]
     ·have hnm:x.names r.act.fid=true:=by simpa[Rec.names] using h
      have hon:dx l r (i+1)=dx l r i:=by rw[hout,hnm];rfl
      refine wG tK ?_ w5 k7;refine ZB ⟨i+1,by omega,by omega,ZU ?_ ?_ ?_⟩
      ·simp[go_sem,hstv,hon]
      ·simp[go_sem,hon]
      ·simp[go_sem]
   ·have hs0:¬(s=0/\eA r.act.fid x=true):=by
     rintro ⟨e1,e2⟩;have h1:c95=false:=h;rw[hA,e1,e2] at h1;cases h1
    refine wG tK ?_;refine ZW ZM ?_;refine ZS rfl ?_;refine sN tK 2 ?_;refine eo 110 z6 (λc110 h110=>?_);simp only[go_sem];refine sN tK 4 ?_;refine sCC Tryz.func132 (hf:=λhb=>(fI x.act)) (hk:=?_);refine sN tK 2 ?_;refine sCC Tryz.func131 (hf:=λhb=>(pf (bU x.act) Zq r.act.fid)) (hk:=?_);refine sNq tK 7 ?_ ?_
    ·simp[go_sem];exact ⟨λa b=>⟨⟨a,b⟩,λc=>⟨⟨a,b⟩,c⟩⟩,λa=>⟨a,λb=>⟨a,b⟩⟩⟩
    refine eo 125 z6 (λc125 h125=>?_);simp only[go_sem];refine sN tK 1 ?_;refine sE ?_;refine wKd ?_;have hD:c125=(s==1&&bars r.act.fid r.act.dir r.act.name x):=by
     rw[←h125,←h110,hB];simp only[cP,fb,bars,Rec.names];cases (s==1)<;>cases (fE x.act r.act.dir r.act.name)<;>simp[Bool.and_comm]
    refine wD (λh=>?_) (λh=>?_)
    ·have hstv:ru l r (i+1)=2:=by
      have h1:c125=true:=h;rw[hD,Bool.and_eq_true] at h1;rw[hst,eq_of_beq h1.1];simp[cF,h1.2]
     refine wG tK ?_;refine ZW ZM ?_;refine ZS rfl ?_;refine sN tK 1 ?_;refine sC Tryz.func132 (hf:=(fI x.act)) (hk:=?_);refine sN tK 2 ?_;refine sC Tryz.func131 (hf:=(pf (bU x.act) Zq r.act.fid)) (hk:=?_);refine sN tK 1 ?_;refine sE ?_;refine wKd ?_;refine wD (λh=>?_) (λh=>?_)
     ·have hnm:x.names r.act.fid=false:=by simpa[Rec.names] using h
      have hon:dx l r (i+1)=dx l r i++[x]:=by rw[hout,hnm];rfl
      refine wGq tK ?_ ?_ QQ
      ·simp[go_sem];omega
      refine ZB ⟨i+1,by omega,by omega,ZU ?_ ?_ ?_⟩
      ·simp[go_sem,hstv,hon]
      ·simp[go_sem,hon,ZR]
      ·simp[go_sem]
     ·have hnm:x.names r.act.fid=true:=by simpa[Rec.names] using h
      have hon:dx l r (i+1)=dx l r i:=by rw[hout,hnm];rfl
      refine wG tK ?_ w5 k7;refine ZB ⟨i+1,by omega,by omega,ZU ?_ ?_ ?_⟩
      ·simp[go_sem,hstv,hon]
      ·simp[go_sem,hon]
      ·simp[go_sem]
    ·have hstv:ru l r (i+1)=s:=by
      have h1:c125=false:=h;rw[hst];unfold cF
      by_cases e0:s=0
      ·have hnm:eA r.act.fid x=false:=by
        cases e:eA r.act.fid x with
        | false=>rfl
        | true=>exact absurd ⟨e0,e⟩ hs0
       simp[e0,hnm]
      ·by_cases e1:s=1
       ·have hnb:bars r.act.fid r.act.dir r.act.name x=false:=by
         rw[hD,e1] at h1;simpa using h1
        simp[e1,hnb]
       ·simp[e0,e1]
     refine wG tK ?_;refine ZW ZM ?_;refine ZS rfl ?_;refine sN tK 1 ?_;refine sC Tryz.func132 (hf:=(fI x.act)) (hk:=?_);refine sN tK 2 ?_;refine sC Tryz.func131 (hf:=(pf (bU x.act) Zq r.act.fid)) (hk:=?_);refine sN tK 1 ?_;refine sE ?_;refine wKd ?_;refine wD (λh=>?_) (λh=>?_)
     ·have hnm:x.names r.act.fid=false:=by simpa[Rec.names] using h
      have hon:dx l r (i+1)=dx l r i++[x]:=by rw[hout,hnm];rfl
      refine wGq tK ?_ ?_ QQ
      ·simp[go_sem];omega
      refine ZB ⟨i+1,by omega,by omega,ZU ?_ ?_ ?_⟩
      ·simp[go_sem,hstv,hon]
      ·simp[go_sem,hon,ZR]
      ·simp[go_sem]
     ·have hnm:x.names r.act.fid=true:=by simpa[Rec.names] using h
      have hon:dx l r (i+1)=dx l r i:=by rw[hout,hnm];rfl
      refine wG tK ?_ w5 k7;refine ZB ⟨i+1,by omega,by omega,ZU ?_ ?_ ?_⟩
      ·simp[go_sem,hstv,hon]
      ·simp[go_sem,hon]
      ·simp[go_sem]
  ·have e:i=l.length:=by have:=of_decide_eq_false h;omega
   subst e;have hout:dx l r l.length=l.filter λx=>!(x.names r.act.fid):=by unfold dx;rw[W2]
   have hst:(ru l r l.length==1)=eH l r:=by
    unfold ru;rw[W2,lH r hk4]
   refine wG tK ?_;refine wD (λh=>?_) (λh=>?_)
   ·have hc:eH l r=true:=by rw[←hst];exact h
    refine wG tK ?_;refine ZZ 135 rfl (cW _) ?_;simp only[go_sem];refine wT ?_;simp[dG,hc,fX,hout]
   ·have hc:eH l r=false:=by rw[←hst];exact h
    refine wG tK ?_;refine ZL (λi:Nat=>i≤l.length) (λi=>l.length-i) (λi=>(142,.int .i64 (i:Nat))::(7,.osl 166 9 0 (bM l r i).length)::u0 8 132 (u0 143 25 [])) (λi=>[(166,.cells 116 9 ((bM l r i).map ZR))]) 0 z8 ?_ λi hi=>?_
    ·simp only[go_sem];exact ZU Wn Wn w3
    simp only[go_sem];refine wG tK ?_;refine wD (λh=>?_) (λh=>?_)
    ·have hlt:i<l.length:=by have:=of_decide_eq_true h;omega
     have hg:(l.map ZR).getD i []=ZR (l.getD i default):=Fam.getD hlt;have htk:=ZT hlt;generalize l.getD i default=x at hg htk;have hkl:(bM l r i).length≤l.length:=by unfold bM;have:=W6 (keeps r) (l.take i);simp at this;omega
     have hkn:bM l r (i+1)=if keeps r x then bM l r i++[x] else bM l r i:=by
      unfold bM;rw[htk,List.filter_append]
      by_cases hk:keeps r x=true<;>simp[hk]
     have hw:=wi1 (i:=i) z8;refine wR ?_;refine wNq tK 4 ?_ ?_ z6 z6 n9
     ·simp[hlt]
     refine ZZ 16 rfl (rfl) ?_;simp only[go_sem];refine wR ?_;refine wN tK 3 ?_;refine aq 148 z6 (λc148 h148=>?_);simp only[go_sem];refine wN tK 6 ?_;refine aq 154 z6 (λc154 h154=>?_);simp only[go_sem];refine wN tK 8 ?_;refine aq 162 z6 (λc162 h162=>?_);simp only[go_sem];have hK:c162=keeps r x:=by
      rw[←h162,←h154,←h148];simp only[fb,keeps,stored,bne];generalize (r.act.kind==3)=a1;generalize (x.act.kind==3)=a2;generalize (x.act.fid==r.act.fid)=a3;cases a1<;>cases a2<;>cases a3<;>rfl
     refine wG tK ?_;refine wD (λh=>?_) (λh=>?_)
     ·have hk2:bM l r (i+1)=bM l r i++[x]:=by rw[hkn,←hK,show c162=true from h];rfl
      refine wGq tK ?_ ?_ QQ
      ·simp[go_sem];omega
      refine ZB ⟨i+1,by omega,by omega,ZU ?_ ?_ ?_⟩
      ·simp[go_sem,hk2]
      ·simp[go_sem,hk2,ZR]
      ·simp[go_sem]
     ·have hk2:bM l r (i+1)=bM l r i:=by rw[hkn,←hK,show c162=false from h];rfl
      refine wG tK ?_ w5 k7;refine ZB ⟨i+1,by omega,by omega,ZU ?_ ?_ ?_⟩
      ·simp[go_sem,hk2]
      ·simp[go_sem,hk2]
      ·simp[go_sem]
    have e:i=l.length:=by have:=of_decide_eq_false h;omega
    subst e;have hkept:bM l r l.length=cS l r:=by unfold bM;rw[W2,lL]
    have hul:=(lD l r).length_le;rw[hkept];have hadd:dG l r=if (cS l r).length≥20 then none else some (cS l r++[r]):=by simp only[dG,hc,Bool.false_eq_true,if_false]
    rw[hadd];generalize cS l r=d at hul;refine wG tK ?_;refine wD (λh=>?_) (λh=>?_)
    ·have hd:d.length≥20:=by have h2:=of_decide_eq_true h;omega
     refine wG tK ?_;refine wT ?_;rw[if_pos hd];rfl
    ·have hd:¬d.length≥20:=by have h2:=of_decide_eq_false h;omega
     refine wGq tK ?_ ?_ s8
     ·simp[go_sem];omega
     refine ZZ 174 rfl Qo ?_;simp only[go_sem];refine wT ?_;rw[if_neg hd];simp only[fX,List.map_append,List.map_cons,List.map_nil,ZR];rw[Wy y8]
 ·have hc:eH l r=false:=by
   unfold eH;split
   ·rfl
   ·have:(r.act.kind==4)=false:=h;rw[this];rfl
  refine wG tK ?_;refine ZL (λi:Nat=>i≤l.length) (λi=>l.length-i) (λi=>(142,.int .i64 (i:Nat))::(7,.osl 166 9 0 (bM l r i).length)::u0 8 132 (u0 143 25 [])) (λi=>[(166,.cells 116 9 ((bM l r i).map ZR))]) 0 z8 ?_ λi hi=>?_
  ·simp only[go_sem];exact ZU Wn Wn w3
  simp only[go_sem];refine wG tK ?_;refine wD (λh=>?_) (λh=>?_)
  ·have hlt:i<l.length:=by have:=of_decide_eq_true h;omega
   have hg:(l.map ZR).getD i []=ZR (l.getD i default):=Fam.getD hlt;have htk:=ZT hlt;generalize l.getD i default=x at hg htk;have hkl:(bM l r i).length≤l.length:=by unfold bM;have:=W6 (keeps r) (l.take i);simp at this;omega
   have hkn:bM l r (i+1)=if keeps r x then bM l r i++[x] else bM l r i:=by
    unfold bM;rw[htk,List.filter_append]
    by_cases hk:keeps r x=true<;>simp[hk]
   have hw:=wi1 (i:=i) z8;refine wR ?_;refine wNq tK 4 ?_ ?_ z6 z6 n9
   ·simp[hlt]
   refine ZZ 16 rfl (rfl) ?_;simp only[go_sem];refine wR ?_;refine wN tK 3 ?_;refine aq 148 z6 (λc148 h148=>?_);simp only[go_sem];refine wN tK 6 ?_;refine aq 154 z6 (λc154 h154=>?_);simp only[go_sem];refine wN tK 8 ?_;refine aq 162 z6 (λc162 h162=>?_);simp only[go_sem];have hK:c162=keeps r x:=by
    rw[←h162,←h154,←h148];simp only[fb,keeps,stored,bne];generalize (r.act.kind==3)=a1;generalize (x.act.kind==3)=a2;generalize (x.act.fid==r.act.fid)=a3;cases a1<;>cases a2<;>cases a3<;>rfl
   refine wG tK ?_;refine wD (λh=>?_) (λh=>?_)
   ·have hk2:bM l r (i+1)=bM l r i++[x]:=by rw[hkn,←hK,show c162=true from h];rfl
    refine wGq tK ?_ ?_ QQ
    ·simp[go_sem];omega
    refine ZB ⟨i+1,by omega,by omega,ZU ?_ ?_ ?_⟩
    ·simp[go_sem,hk2]
    ·simp[go_sem,hk2,ZR]
    ·simp[go_sem]
   ·have hk2:bM l r (i+1)=bM l r i:=by rw[hkn,←hK,show c162=false from h];rfl
    refine wG tK ?_ w5 k7;refine ZB ⟨i+1,by omega,by omega,ZU ?_ ?_ ?_⟩
    ·simp[go_sem,hk2]
    ·simp[go_sem,hk2]
    ·simp[go_sem]
  have e:i=l.length:=by have:=of_decide_eq_false h;omega
  subst e;have hkept:bM l r l.length=cS l r:=by unfold bM;rw[W2,lL]
  have hul:=(lD l r).length_le;rw[hkept];have hadd:dG l r=if (cS l r).length≥20 then none else some (cS l r++[r]):=by simp only[dG,hc,Bool.false_eq_true,if_false]
  rw[hadd];generalize cS l r=d at hul;refine wG tK ?_;refine wD (λh=>?_) (λh=>?_)
  ·have hd:d.length≥20:=by have h2:=of_decide_eq_true h;omega
   refine wG tK ?_;refine wT ?_;rw[if_pos hd];rfl
  ·have hd:¬d.length≥20:=by have h2:=of_decide_eq_false h;omega
   refine wGq tK ?_ ?_ s8
   ·simp[go_sem];omega
   refine ZZ 174 rfl Qo ?_;simp only[go_sem];refine wT ?_;rw[if_neg hd];simp only[fX,List.map_append,List.map_cons,List.map_nil,ZR];rw[Wy y8]
end La
