/- Texts of this claim, part 6: RWith, RName. No condition. -/
import Derived.Test.YtmcfbfdonjllaaaGreatDoorZR5
set_option maxRecDepth 10000
set_option maxHeartbeats 4000000
set_option linter.unusedSimpArgs false
set_option linter.unusedVariables false
namespace La
open Go Go.Eng Go.Proofs Go.Proofs.Tryz
theorem yY {α:Type} {L T:List α} {off:Nat} (h:off<=L.length) (ht:L.drop off=T):L.length=off+T.length:=by
 have:=congrArg List.length ht;rw[YX] at this;omega
theorem LU {L:List Int} {off off':Nat} (h:off<=L.length) (ho:off'=off\/off'=0) (f:Int) :
  (((L.map ZI).drop (off-off')).take (off'+(L.length-off))++[ZI f])=(((L.drop (off-off')).take (off'+(L.length-off)))++[f]).map ZI /\
  ((((L.drop (off-off')).take (off'+(L.length-off)))++[f]).drop off')=L.drop off++[f]/\(((L.drop (off-off')).take (off'+(L.length-off)))++[f]).length=off'+(L.length-off+1):=by
 have hl:((L.drop (off-off')).take (off'+(L.length-off))).length=off'+(L.length-off):=by simp;omega
 refine ⟨?_,?_,?_⟩
 ·rw[List.map_append,List.map_take,List.map_drop];rfl
 ·rw[List.drop_append_of_le_length z8,List.drop_take,List.drop_drop];have e:off-off'+off'=off:=by rcases ho with rfl | rfl<;>omega
  rw[e,Yk]
  congr 1
  exact W1 w8
 ·rw[List.length_append,hl];simp;omega
theorem Fm {m:List (Int×Node)} {x:Int} {n:Node} (h:br m x=some n):n.entries.length<=(oT m).length:=by
 have h1:=dj h;unfold oT;clear h
 induction m with
 | nil=>cases h1
 | cons p r ih=>
  simp only[List.flatMap_cons,List.length_append,List.length_map]
  rcases List.mem_cons.1 h1 with rfl | h1
  ·simp only;omega
  ·have:=ih h1;omega
theorem Gw (k:Int):aU ([]:List (Int×AV)) k (.bool true)=mB (aU [] k true):=rfl
open Classical in
theorem Cf (m:List (Int×Node)) (fid inn:Int) (hsz:(oT m).length<=90000000):Fo 50 [.rm (mN m),.int .i64 fid,.int .i64 inn] (.bool (decide (MReach m inn fid))):=by
 refine wS func50 ntmps50 results50 λC=>?_
 refine wGq ?_ ?_
 ·simp[go_sem,AV.kF,AV.aW]
 refine ZL (λs:List (Int×Bool)×Nat×List Int=>s.2.1<=s.2.2.length/\BI m inn s.1 (s.2.2.drop s.2.1)) (λs=>(s.2.2.length-s.2.1)+ie m s.1) (λs=>(8,.osl 15 1 s.2.1 (s.2.2.length-s.2.1))::(10,.any)::u0 14 32 [])
  (λs=>[(11,.map (mB s.1)),(15,.cells 3 1 (s.2.2.map ZI))]) (aU [] inn true,0,[inn]) ⟨by simp,BI.begin m inn⟩ ?_ λs hs=>?_
 ·simp only[go_sem];exact ZU w3 (by simp[go_sem,Gw,ZI]) w3
 obtain ⟨had,off,L⟩:=s;obtain ⟨hoff,hbi⟩:=hs;simp only at hoff hbi;simp only[go_sem];refine wGD (λh=>?_) (λh=>?_)
 ·have hlt:off<L.length:=by have:=lt1 h;omega
  have hg:=Fam.getD (f:=ZI) hlt;have hdr:=cr hlt;have hl1:L.length-off=(L.drop (off+1)).length+1:=by rw[YX];omega
  generalize hx:L.getD off default=x at *;have hbi0:=hbi;rw[hdr] at hbi0;cases hm:br m x with
  | none=>
   have hmg:br (mN m) x=none:=by rw[iJ,hm];rfl
   refine wGq ?_ ?_ (by simp only[go_sem,hg,ZI,hmg];try exact rfl)
   ·simp[hg,ZI];omega
   refine ZL (λ_:Unit=>True) (λ_=>0) (λ_=>[]) (λ_=>[]) () trivial ?_ λ_ _=>?_
   ·exact wZ
   simp only[go_sem];refine wGD (λh=>?_) (λh=>?_)
   ·cases h
   refine wGq ?_ ?_
   ·simp;omega
   refine ZB ⟨(had,off+1,L),⟨by simp only;omega,by simp only;exact hbi0.none hm⟩,by simp only;omega,ZU ?_ ?_ ?_⟩
   ·simp[go_sem];omega
   ·simp[go_sem]
   ·simp[go_sem]
  | some n=>
   have hmg:br (mN m) x=some (.agg (ZN n)):=by rw[iJ,hm];rfl
   have hbj:=hbi0.inner hm;have hel:=Fm hm;have hc:(x::L.drop (off+1)).length+ie m had=L.length-off+ie m had:=by simp only[List.length_cons];omega
   rw[hc,<-hdr] at hbj;have hcs:L.length-off+ie m had<=(oT m).length+1:=by have:=hbi.size;rw[YX] at this;exact this
   refine wGq ?_ ?_ (by simp only[go_sem,hg,ZI,hmg,ZN];try exact rfl)
   ·simp[hg,ZI,hmg,ZN];omega
   refine ZL (λs:Nat×List (Int×Bool)×Nat×List Int=>s.1<=n.entries.length/\s.2.2.1<=s.2.2.2.length/\BJ m inn x n (L.length-off+ie m had) s.1 s.2.1 (s.2.2.2.drop s.2.2.1)) (λs=>n.entries.length-s.1)
    (λs=>(8,.osl 15 1 s.2.2.1 (s.2.2.2.length-s.2.2.1))::(10,.any)::(14,.any)::(15,.any)::(16,.any)::(20,.any)::(21,.any)::(26,.int .i64 s.1)::u0 27 19 []) (λs=>[(11,.map (mB s.2.1)),(15,.cells 3 1 (s.2.2.2.map ZI))]) (0,had,off,L) ⟨by simp,hoff,hbj⟩ ?_ λs hs=>?_
   ·exact wZ
   obtain ⟨j,had2,off2,L2⟩:=s;obtain ⟨hj,hoff2,hb⟩:=hs;simp only at hj hoff2 hb;simp only[go_sem];refine wGD (λh=>?_) (λh=>?_)
   ·have hjl:=lt1 h;have hge:=Fam.getD (f:=ZE) hjl;have hw:IntKind.i64.wrap ((j:Int)+1)=((j+1:Nat):Int):=by rw[Eng.wrap_small z8 z8];rfl
    have hskip:=hb.skip hjl;have hadd:=hb.add hjl;generalize n.entries.getD j default=f at *;refine wGq ?_ ?_ (by simp only[go_sem,hge,ZE];try exact rfl)
    ·simp[hge,ZE,hjl]
    cases hgb:cE had2 f.fid with
    | true=>
     refine wDF ?_ (hb:=w8);refine wG ?_ w4 y7;refine ZB ⟨(j+1,had2,off2,L2),⟨by simp only;omega,hoff2,hskip hgb⟩,by simp only;omega,ZU ?_ ?_ ?_⟩
     ·simp[go_sem]
     ·simp[go_sem]
     ·simp[go_sem]
    | false=>
     refine wDT ?_ (hb:=w8);refine wR ?_;refine wN 3 ?_;refine wNq 1 ?_ ?_
     ·simp[AV.kF,AV.aW]
     refine wR ?_;refine wN 4 ?_;have hcs2:=hb.size;rw[YX] at hcs2;obtain ⟨q,hq⟩:=hb.head;have hlq:=yY hoff2 hq;simp only[List.length_cons] at hlq;refine Br tK rfl rfl z7 z7 z7 z7 (by intro _ _ _ _ h;cases h;rfl) z7 z8 k6 z7 j8 (by simp only[go_sem];decide) (by simp[rowsOf]) w3 (by simp[go_sem];omega) w3 (by simp[go_sem,ZI]) λoff' ho=>?_
     obtain ⟨b1,b2,b3⟩:=LU hoff2 ho f.fid;have b1':List.take (off'+(L2.length-off2)) (List.drop (off2-off') (List.map ZI L2))++[[.int .i64 f.fid]]=List.map ZI (List.take (off'+(L2.length-off2)) (List.drop (off2-off') L2)++[f.fid]):=b1;clear b1;generalize List.take (off'+(L2.length-off2)) (List.drop (off2-off') L2)++[f.fid]=L3 at *;simp only[go_sem];rw[b1'];refine wG ?_ w4 y7;refine ZB ⟨(j+1,aU had2 f.fid true,off',L3),⟨by simp only;omega,by simp only;omega,by simp only;rw[b2];exact hadd hgb⟩,by simp only;omega,ZU ?_ ?_ ?_⟩
     ·simp[go_sem];omega
     ·simp[go_sem]
     ·simp[go_sem]
   ·have e:j=n.entries.length:=by simp at h;omega
    subst e;obtain ⟨h1,h2⟩:=hb.pop hcs;obtain ⟨q,hq⟩:=hb.head;have hlq:=yY hoff2 hq;simp only[List.length_cons] at hlq;refine wGq ?_ ?_
    ·simp;omega
    refine ZB ⟨(had2,off2+1,L2),⟨by simp only;omega,by simp only;rw[<-List.drop_drop];exact h1⟩,?_,ZU ?_ ?_ ?_⟩
    ·simp only;rw[YX,YX] at h2;omega
    ·simp[go_sem];omega
    ·simp[go_sem]
    ·simp[go_sem]
 ·have e:L.drop off=[]:=List.drop_eq_nil_of_le (by simp at h;omega);rw[e] at hbi;have hf:=hbi.fin fid;refine wGT ?_;cases hgb:cE had fid with
  | true=>rw[decide_eq_true (hf.1 hgb)];rfl
  | false=>rw[decide_eq_false λhh=>by rw[hf.2 hh] at hgb;cases hgb];rfl
theorem AG (s:List UInt8) (hs:s.length<=100000000):Fo 49 [.str s] (.bool (cH s)):=by
 refine wSG func49 ntmps49 results49 λC=>?_
 refine ZL (λi:Nat=>i<=s.length/\∀j,j<i->okC (s.getD j 0)=true) (λi=>s.length-i) (λi=>(3,.any)::(4,.any)::(7,.int .i64 i)::u0 8 29 []) (λ_=>[]) 0 ⟨by omega,by omega⟩ ?_ λi hi=>?_
 ·exact wZ
 obtain ⟨hi,hs2⟩:=hi;simp only[go_sem];refine wGD (λh=>?_) (λh=>?_)
 ·have hlt:=lt1 h;have hw:=wi1 (i:=i) z8;have hno:okC (s.getD i 0)=false->cH s=false:=λh0=>by
   cases e:s.all okC with
   | false=>unfold cH;rw[e,Bool.and_false]
   | true=>
    have:=List.all_eq_true.1 e (s.getD i 0) (by rw[List.getD_eq_getElem?_getD,Wz hlt];exact YW hlt);rw[this] at h0;cases h0
  have hyes:okC (s.getD i 0)=true->∀j,j<i+1->okC (s.getD j 0)=true:=λh0 j hj=>by
   rcases Nat.lt_succ_iff_lt_or_eq.1 hj with h1 | rfl
   ·exact hs2 j h1
   ·exact h0
  refine wR ?_;refine wN 2 ?_;refine wR ?_;refine wN 2 ?_;refine wNq 1 ?_ ?_
  ·simp;omega
  refine wN 1 ?_;refine wR ?_;generalize s.getD i 0=c at hno hyes;have hc:okC c=((decide ((c.toNat:Int)≥97)&&decide ((c.toNat:Int)<=122))||(decide ((c.toNat:Int)≥48)&&decide ((c.toNat:Int)<=57))):=by
   unfold okC;rw[Yu];simp only[Bool.or_eq_true,Bool.and_eq_true,decide_eq_true_eq];omega
  generalize hf1:decide ((c.toNat:Int)≥97)=f1 at hc;generalize hf2:decide ((c.toNat:Int)<=122)=f2 at hc;generalize hf3:decide ((c.toNat:Int)≥48)=f3 at hc;generalize hf4:decide ((c.toNat:Int)<=57)=f4 at hc;refine wNq 14 ?_ ?_ z6 z6 WH
  ·cases f1<;>cases f2<;>cases f3<;>cases f4<;>simp
  have hb:(bif (bif f1 then f2 else false) then true else (bif f3 then f4 else false))=okC c:=by
   rw[hc];cases f1<;>cases f2<;>cases f3<;>cases f4<;>rfl
  simp only[go_sem,hb];refine wGD (λh=>?_) (λh=>?_)
  ·have h0:okC c=false:=by simpa using h
   refine wGT ?_;rw[hno h0]
  ·have h0:okC c=true:=by simpa using h
   refine wG ?_ w4 y7;refine ZB ⟨i+1,⟨by omega,hyes h0⟩,by omega,ZU ?_ ?_ ?_⟩
   ·simp[go_sem]
   ·simp[go_sem]
   ·simp[go_sem]
 ·have e:i=s.length:=by simp at h;omega
  have:s.all okC=true:=List.all_eq_true.2 λx hx=>by
   obtain ⟨j,hj⟩:=W9 hx;have:=hs2 j (by rw[e];exact (W6.1 hj).1)
   rwa [List.getD_eq_getElem?_getD,hj] at this
  refine wGT ?_;unfold cH;rw[this,cZ,Bool.and_true];have h1:decide ((s.length:Int)>0)=decide (1<=s.length):=by rw[Yu];simp only[decide_eq_true_eq];omega
  have h2:decide ((s.length:Int)<=8)=decide (s.length<=8):=by rw[Yu];simp only[decide_eq_true_eq];omega
  rw[h1,h2]
end La
