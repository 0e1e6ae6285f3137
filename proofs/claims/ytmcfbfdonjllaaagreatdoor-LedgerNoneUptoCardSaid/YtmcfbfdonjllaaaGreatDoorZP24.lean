/- Texts of this claim, part 24: Add, Add2, RAdd. No condition. -/
import Derived.Test.YtmcfbfdonjllaaaGreatDoorZP18
set_option maxRecDepth 10000
set_option maxHeartbeats 4000000
set_option linter.unusedSimpArgs false
set_option linter.unusedVariables false
namespace La
open Go Go.Eng Go.Proofs Go.Proofs.Tryz
theorem DV (x:Rec) (f:Int):Fo 216 [.agg (ZR x),.rp [.int .i64 f] 0] (.bool (ep f x)):=by
 unfold ZR;refine wS func216 ntmps216 results216 λC=>?_
 cases e1:(x.act.fid==f)<;>cases e2:(x.act.kind==1)<;>cases e3:(x.act.kind==2)
 all_goals refine wG ?_ (by simp only[go_sem,e1,e2,e3];try exact rfl) (by simp[go_sem,e1,e2,e3])
 all_goals refine wT ?_
 all_goals simp[ep,e1,e2,e3]
theorem I3 (l:List Rec) (hl:l.length<=100000000) (f:Int):Fo 182 [.sl (l.map ZR),.int .i64 f] (.int .i64 (cq (l.findIdx? (ep f)))):=by
 refine wSG func182 ntmps182 results182 λC=>?_
 refine ZZ 3 rfl (rfl) (wn ?_);refine wC ?_ func186 (hf:=kx l hl ⟨_,Go.Proofs.Tryz.func216,by kernel_rfl,rfl⟩ rfl (λx _=>DV x f));refine wGT ?_;rfl
theorem Ic (x r m:Rec):ai prog 184 [.agg (ZR x),.rp [.rp (ZR r) 0] 0,.rp [.rp (ZR m) 0] 0] [] (λb _=>b=.bool (bars r.act.fid m.act.dir m.act.name x)):=by
 refine wS func184 ntmps184 results184 λC=>?_
 refine wGq ?_ ?_ u4
 ·simp
 refine ZZ 3 rfl (rfl) (wn ?_);refine wO ?_;refine sN 4 ?_;refine dh 8 z6 (λc8 h8=>?_);simp only[go_sem];refine sN 6 ?_;refine sCC ?_ func155 (hf:=λhb=>(zX x r.act.fid));refine sN 1 ?_;refine dh 16 z6 (λc16 h16=>?_);simp only[go_sem];refine sN 9 ?_;refine sCC ?_ func185 (hf:=λhb=>(Ck x m.act.dir m.act.name));refine sN 2 ?_;refine sE ?_;refine wKd ?_;refine wGT ?_;subst h16 h8;simp only[bars,cS,fe]
def qb (l:List Rec) (r:Rec) (k:Nat):Bool:=
 (l.getD k default).act.dir==r.act.dir&&(l.getD k default).act.name==r.act.name&&!((l.drop (k+1)).any (bars r.act.fid (l.getD k default).act.dir (l.getD k default).act.name))
theorem A8 {l:List Rec} {r:Rec} {k:Nat} (hk:l.findIdx? (ep r.act.fid)=some k):eE l r=(r.act.kind==4&&qb l r k):=by
 unfold eE qb;rw[hk];simp only[Bool.and_assoc]
theorem A9 (l:List Rec) (hl:l.length<=100000000) (r:Rec):ai prog 152 [.sl (l.map ZR),.rp (ZR r) 0] [] (λb _=>b=.bool (eE l r)):=by
 refine wS func152 ntmps152 results152 λC=>?_
 refine wGq ?_ ?_ u4
 ·simp
 refine wC ?_ func182 (hf:=I3 l hl r.act.fid);cases e1:(r.act.kind != 4)
 ·refine wG ?_ (by simp only[go_sem,e1,ZR];try exact rfl) (by simp[go_sem,e1,ZR]);refine wD (λh=>?_) (λh=>?_)
  ·refine wGT ?_;have:l.findIdx? (ep r.act.fid)=none:=by
    cases e:l.findIdx? (ep r.act.fid) with
    | none=>rfl
    | some k=>
     rw[e] at h;have h2:decide ((k:Int)<0)=true:=h;rw[decide_eq_true_eq] at h2;omega
   simp[eE,this]
  ·obtain ⟨k,hk⟩:∃k,l.findIdx? (ep r.act.fid)=some k:=by
    cases e:l.findIdx? (ep r.act.fid) with
    | none=>rw[e] at h;simp[cq] at h
    | some k=>exact ⟨k,rfl⟩
   have hkl:k<l.length:=(YN.1 hk).1;have hg:=Fam.getD (f:=ZR) hkl;rw[A8 hk,hk];unfold qb;simp only[cq];generalize l.getD k default=m at hg;refine wGq ?_ ?_ u7
   ·simp[hkl]
   have hw:IntKind.i64.wrap ((k:Int)+1)=((k+1:Nat):Int):=by rw[Eng.wrap_small z8 z8];rfl
   have hd:List.drop (k+1) (l.map ZR)=(l.drop (k+1)).map ZR:=List.map_drop.symm;refine ZZ 3 rfl (rfl) ?_;refine ZZ 6 rfl (rfl) (wn ?_);refine wO ?_;refine sN 10 ?_;refine dh 37 z6 (λc37 h37=>?_);simp only[go_sem];refine sN 12 ?_;refine dh 49 z6 (λc49 h49=>?_);simp only[go_sem];refine sNq 6 ?_ ?_ z6 z6 (by simp only[go_sem,hw,hd];try exact rfl)
   ·simp[go_sem];intro h;exact ⟨h,by omega,by omega,λ_ _=>rfl⟩
   refine sCC ?_ func183 (hf:=λhb=>(qR (l.drop (k+1)) k6 ⟨_,Go.Proofs.Tryz.func184,by kernel_rfl,rfl⟩ rfl (λx _=>Ic x r m)));refine sN 3 ?_;refine sE ?_;refine wKd ?_;refine wGT ?_;subst h49 h37;have hk4:(r.act.kind==4)=true:=by simpa using e1
   rw[hk4];simp only[cS,Y3]
 ·refine wG ?_ (by simp only[go_sem,e1,ZR];try exact rfl) (by simp[go_sem,e1,ZR]);refine wDT ?_ (hb:=rfl);refine wGT ?_;have hk4:(r.act.kind==4)=false:=by simpa using e1
  unfold eE;split
  ·rfl
  ·rw[hk4];rfl
theorem BL (x r:Rec):ai prog 154 [.agg (ZR x),.rp (ZR r) 0] [] (λb _=>b=.bool (x.names r.act.fid)):=by
 refine wS func154 ntmps154 results154 λC=>?_
 refine wGq ?_ ?_ u4
 ·simp
 refine ZZ 2 rfl (rfl) (wn ?_);refine wC ?_ func155 (hf:=zX x r.act.fid);refine wGT ?_;rfl
theorem AL (x r:Rec):ai prog 156 [.agg (ZR x),.rp (ZR r) 0] [] (λb _=>b=.bool (stored r x)):=by
 refine wS func156 ntmps156 results156 λC=>?_
 refine wR ?_;refine wN 2 ?_ z6 z6 u4 (by simp[go_sem,ZR]);refine wR ?_;refine wN 4 ?_;refine wNm 7 λc7 h7=>?_
 refine wG ?_ u4 (by simp[go_sem,ZR]);refine wT ?_;subst h7;rw[cS];rfl
def fY:Option (List Rec)->AV
 | some x=>.tup [.sl (x.map ZR),.int .i64 0]
 | none=>.tup [.nils,.int .i64 5]
theorem K6 (l:List Rec) (r:Rec) (hl:SmallL l) (hr:r.act.Small):ai prog 110 [.sl (l.map ZR),.agg (ZR r)] [] (λx _=>x=fY (dm l r)):=by
 have hlen:=hl.len;refine wS func110 ntmps110 results110 λC=>?_
 refine wGq ?_ ?_ u4
 ·simp
 refine ZZ 3 rfl (rfl) (wn ?_);refine wCG ?_ [] 100 func69 (hf:=qK l hl);refine wG ?_;refine wV ?_ func152 (hf:=A9 l hlen r);refine wGD (λh=>?_) (λh=>?_)
 ·refine wG ?_;refine wCG ?_ [119] 100 func153 (hf:=ng l hlen 119 ⟨_,Go.Proofs.Tryz.func154,by kernel_rfl,rfl⟩ rfl x7 (λx _=>BL x r));refine wG ?_;refine ZZ 219 rfl (by rw[List.all_append,da,Y3];exact jG _ rfl) (wn ?_);refine wT ?_;have hle:=YB (λx:Rec=>!x.names r.act.fid) l;simp only[dm,h,if_true,fY];generalize (l.filter λx=>!x.names r.act.fid)=d at *;rw[if_pos w8,iC w8]
 ·have hh:eE l r=false:=h;refine wGD (λh=>?_) (λh=>?_)
  ·refine wG ?_;refine wCG ?_ [119] 100 func153 (hf:=ng l hlen 119 ⟨_,Go.Proofs.Tryz.func156,by kernel_rfl,rfl⟩ rfl x7 (λx _=>AL x r));have hle:=YB (λx:Rec=>!stored r x) l;have hadd:dm l r=if (l.filter λx=>!stored r x).length≥20 then none else some ((l.filter λx=>!stored r x)++[r]):=by
    have hk:r.act.kind=3:=eq_of_beq (by assumption);simp only[dm,hh,Bool.false_eq_true,if_false,cI,hk,if_true]
   rw[hadd];have hsub:∀x,x∈(l.filter λx=>!stored r x)->x.act.Small:=λx hx=>hl.each x (YL.1 hx).1
   generalize (l.filter λx=>!stored r x)=d at hle hsub;refine wGD (λh=>?_) (λh=>?_)
   ·have hd:d.length≥20:=by have h2:=of_decide_eq_true h;omega
    refine wGT ?_;rw[if_pos hd];rfl
   ·have hd:¬d.length≥20:=by have h2:=of_decide_eq_false h;omega
    refine wGq ?_ ?_ u4
    ·simp
    refine ZZ 26 rfl (rfl) (wn ?_);refine wC ?_ func69 (hf:=kM [r] ⟨by simp,λx hx=>by rw[List.mem_singleton.1 hx];exact hr⟩);have ht:(d.map ZR++List.replicate (l.length-d.length) [AV.int .i64 0,.int .i64 0,.int .i64 0,.str [],.int .i64 0,.str [],.nils,.int .i64 0,.int .i64 0]).take d.length=d.map ZR:=iC w8;refine wGq ?_ ?_ (by simp only[go_sem,ht,ZR];try exact rfl)
    ·simp[rowsOf];omega
    refine ZZ 28 rfl Qe (wn ?_);refine wGT ?_;rw[if_neg hd];simp only[fY,List.map_append,List.map_cons,List.map_nil,ZR];rw[W4 w8]
  ·have hadd:dm l r=if l.length≥20 then none else some (l++[r]):=by
    have hk:¬r.act.kind=3:=by simpa using h
    simp only[dm,hh,Bool.false_eq_true,if_false,cI,hk]
   rw[hadd];refine wGD (λh=>?_) (λh=>?_)
   ·have hd:l.length≥20:=by have h2:=of_decide_eq_true h;omega
    refine wGT ?_;rw[if_pos hd];rfl
   ·have hd:¬l.length≥20:=by have h2:=of_decide_eq_false h;omega
    refine wGq ?_ ?_ u4
    ·simp
    refine ZZ 26 rfl (rfl) (wn ?_);refine wC ?_ func69 (hf:=kM [r] ⟨by simp,λx hx=>by rw[List.mem_singleton.1 hx];exact hr⟩);refine wGq ?_ ?_ u4
    ·simp[rowsOf];omega
    refine ZZ 28 rfl Qe (wn ?_);refine wGT ?_;rw[if_neg hd];simp only[fY,List.map_append,List.map_cons,List.map_nil,ZR];rw[W4 w8]
@[go_sem,simp] theorem KT (s:Nat) (r:List AV) (l:List (List AV)):Eng.rowsOf s (r::l)↔r.length=s/\Eng.rowsOf s l:=by
 unfold Eng.rowsOf;constructor
 ·exact λh=>⟨h r w8,λx hx=>h x (by simp[hx])⟩
 ·rintro ⟨h1,h2⟩ x hx
  rcases List.mem_cons.1 hx with rfl | hx
  ·exact h1
  ·exact h2 x hx
@[go_sem,simp] theorem LG (s:Nat):Eng.rowsOf s []:=λ_ h=>by simp at h
theorem fK (a:Act):Fo 135 [.agg (ZA a)] (.sl ((cw a).map ZI)):=by
 unfold ZA;refine wS func135 ntmps135 results135 λC=>?_
 refine wGD (λh=>?_) (λh=>?_)
 ·have h1:a.kind≠3:=by simpa using h
  refine wGD (λh=>?_) (λh=>?_)
  ·have h2:a.kind=5:=by simpa using h
   refine wG ?_;refine ZZ 22 rfl (rfl) (wn ?_);refine wT ?_;simp[go_sem,cw,ZI,h2]
  ·have h2:a.kind≠5:=by simpa using h
   refine wG ?_;refine ZZ 14 rfl (rfl) (wn ?_);refine wT ?_;simp[go_sem,cw,ZI,h1,h2]
 ·have h1:a.kind=3:=by simpa using h
  refine mh ?_ (hb:=by rw[h1];rfl);refine ZZ 6 rfl (rfl) (wn ?_);refine wT ?_;simp[go_sem,cw,ZI,h1]
theorem pP (l:List Int) (hlen:l.length<=100000000) (v:Int):Fo 134 [.sl (l.map ZI),.int .i64 v] (.bool (l.contains v)):=by
 refine wSG func134 ntmps134 results134 λC=>?_
 refine ZL (λi:Nat=>i<=l.length/\v∉l.take i) (λi=>l.length-i) (λi=>(9,.int .i64 i)::(6,.any)::u0 10 7 []) (λ_=>[]) 0 ⟨by omega,by simp⟩ ?_ λi hi=>?_
 ·exact wY
 obtain ⟨hi,hno⟩:=hi;simp only[go_sem];refine wGD (λh=>?_) (λh=>?_)
 ·have hlt:=lt1 h;have hg:=Fam.getD (f:=ZI) hlt;have htk:=ZT hlt;have hm:=YG hlt;generalize l.getD i default=n at hg htk hm;refine wGq ?_ ?_ Zl
  ·simp[hlt]
  refine wD (λh=>?_) (λh=>?_)
  ·refine wGT ?_;have e:n=v:=eq_of_beq h;subst e;rw[Yh.2 hm]
  ·have hw:IntKind.i64.wrap ((i:Int)+1)=(i:Int)+1:=wrap_small z8 z8;have hne:n≠v:=by simpa using h
   refine wG ?_ w4 y7;refine ZB ⟨i+1,⟨by omega,?_⟩,by omega,ZU ?_ ?_ ?_⟩
   ·rw[htk];intro hx
    rcases List.mem_append.1 hx with hx | hx
    ·exact hno hx
    ·exact hne (List.mem_singleton.1 hx).symm
   ·simp[go_sem]
   ·simp[go_sem]
   ·simp only[go_sem]
 ·have e:i=l.length:=by simp at h;omega
  refine wGT ?_;rw[e,W7] at hno;rw[show l.contains v=false from by simpa using hno]
end La
