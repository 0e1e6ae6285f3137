/- Texts of this claim, part 17: Worst, Del, Keep, PKeep, Srt, RCache, RKeepK, RFreshK. No condition. -/
import Derived.Test.YtmcfbfdonjllaaaGreatDoorZT16
set_option maxRecDepth 10000
set_option maxHeartbeats 4000000
set_option linter.unusedSimpArgs false
set_option linter.unusedVariables false
namespace La
open Go Go.Eng Go.Proofs
def orI (a b c:Int):Int:=if a≠0 then a else if b≠0 then b else c
theorem I5 (a b c:Int):ae Tryz.prog 189 [.sl [[.int .i64 a],[.int .i64 b],[.int .i64 c]]] [] (λr _=>r=.int .i64 (orI a b c)):=by
 refine ZF tK (Tryz.func189) rfl (λC=>?_);simp only[Tryz.ntmps189,Tryz.results189,go_sem];refine wG tK ?_;refine ZL (λi:Nat=>i≤3/\(0<i->a=0)/\(1<i->b=0)/\(2<i->c=0)) (λi=>3-i) (λi=>(5,.any)::(8,.int .i64 i)::u0 9 8 []) (λ_=>[]) 0 z8 ?_ λi hi=>?_
 ·simp only[go_sem];exact ZU w3 w3 w3
 obtain ⟨hi,h1,h2,h3⟩:=hi;simp only[go_sem];refine wG tK ?_;refine wD (λh=>?_) (λh=>?_)
 ·have hlt:i<3:=by simp at h;omega
  have hw:=wi1 (i:=i) z8;obtain ⟨x,hg,hx⟩:∃x,[[AV.int .i64 a],[AV.int .i64 b],[AV.int .i64 c]].getD i []=[AV.int .i64 x]/\(x≠0->orI a b c=x)/\(x=0->(0<i+1->a=0)/\(1<i+1->b=0)/\(2<i+1->c=0)):=by
   rcases (show i=0\/i=1\/i=2 by omega) with rfl | rfl | rfl
   ·exact ⟨a,rfl,λh=>by simp[orI,h],λh=>⟨λ_=>h,λh=>by omega,λh=>by omega⟩⟩
   ·have ha:=h1 z8;exact ⟨b,rfl,λh=>by simp[orI,h,ha],λh=>⟨λ_=>ha,λ_=>h,λh=>by omega⟩⟩
   ·have ha:=h1 z8;have hb:=h2 z8;exact ⟨c,rfl,λh=>by simp[orI,ha,hb],λh=>⟨λ_=>ha,λ_=>hb,λ_=>h⟩⟩
  obtain ⟨hx1,hx2⟩:=hx;refine wGq tK ?_ ?_ v7
  ·simp[hg,hlt]
  refine wD (λh=>?_) (λh=>?_)
  ·refine wG tK ?_;refine wT ?_;rw[hx1 v8]
  ·refine wG tK ?_ w5 k0;refine ZB ⟨i+1,⟨by omega,hx2 v8⟩,by omega,ZU ?_ ?_ ?_⟩
   ·simp[go_sem]
   ·simp[go_sem]
   ·simp[go_sem]
 ·have e:i=3:=by simp at h;omega
  subst e;refine wG tK ?_;refine wT ?_;simp[orI,h1 z8,h2 z8,h3 z8]
def rz (a b:Kept):Int:=orI (iG a.worth b.worth) (iG a.last b.last) (iG a.node.fid b.node.fid)
def cP (l:List Kept):Nat->Option Nat
 | 0=>none
 | i+1=>
  if (l.getD i default).dirty||(l.getD i default).node.fid==0 then cP l i
  else match cP l i with
   | none=>some i
   | some b=>if rz (l.getD i default) (l.getD b default)<0 then some i else some b
theorem fy (l:List Kept):∀(i b:Nat),cP l i=some b->b<i
 | 0,b,h=>by cases h
 | i+1,b,h=>by
  simp only[cP] at h;have ih:=fy l i;split at h
  ·have:=ih b h;omega
  ·split at h
   ·injection h with h;omega
   ·rename_i b' e;have:=ih b' e;split at h
    ·injection h with h;omega
    ·injection h with h;omega
def pH (l:List Kept):Option Nat:=cP l l.length
theorem yO (l:List Kept) (hlen:l.length≤100000000):ae Tryz.prog 158 [.sl (l.map ZK)] [] (λr _=>r=.int .i64 (cc (pH l))):=by
 refine ZF tK (Tryz.func158) rfl (λC=>?_);simp only[Tryz.ntmps158,Tryz.results158,go_sem];refine wG tK ?_;refine ZL (λi:Nat=>i≤l.length) (λi=>l.length-i) (λi=>(3,.int .i64 (cc (cP l i)))::(4,.any)::(5,.any)::(8,.int .i64 i)::u0 9 47 []) (λ_=>[]) 0 z8 ?_ λi hi=>?_
 ·simp only[go_sem];exact ZU (by simp[go_sem];rfl) w3 w3
 simp only[go_sem];refine wG tK ?_;refine wD (λh=>?_) (λh=>?_)
 ·have hlt:i<l.length:=by simp at h;omega
  have hg:(l.map ZK).getD i []=ZK (l.getD i default):=Fam.getD hlt;have hw:=wi1 (i:=i) z8;have hwl:=fy l i;have hstep:cP l (i+1)=if (l.getD i default).dirty||(l.getD i default).node.fid==0 then cP l i else match cP l i with
   | none=>some i
   | some b=>if rz (l.getD i default) (l.getD b default)<0 then some i else some b:=rfl
  generalize l.getD i default=x at hg hstep;refine wGq tK ?_ ?_ x9
  ·simp[hg,hlt,ZK]
  refine ZZ 5 rfl (rfl) ?_;simp only[go_sem];refine wD (λh=>?_) (λh=>?_)
  ·have hno:cP l (i+1)=cP l i:=by rw[hstep,if_pos v8]
   refine wG tK ?_ w5 k0;refine ZB ⟨i+1,by omega,by omega,ZU ?_ ?_ ?_⟩
   ·simp[go_sem,hno]
   ·simp[go_sem]
   ·simp[go_sem]
  ·have hyes:(x.dirty||x.node.fid==0)=false:=by simpa using h
   rw[hyes] at hstep;simp only[Bool.false_eq_true,if_false] at hstep;cases hb:cP l i with
   | none=>
    rw[hb] at hstep;simp only[cc];refine wG tK ?_;refine ZW ZM ?_;refine ZS rfl ?_;refine sN tK 3 ?_
    iterate 28 refine sS ?_
    refine sSB ?_;refine sN tK 1 ?_;refine sE ?_;refine wKd ?_;refine wDT (hb:=y7) (hk:=?_);refine wG tK ?_ w5 k0;refine ZB ⟨i+1,by omega,by omega,ZU ?_ ?_ ?_⟩
    ·simp[go_sem,hstep,cc]
    ·simp[go_sem]
    ·simp[go_sem]
   | some b=>
    rw[hb] at hstep;have hbl:=hwl b hb;have hgb:(l.map ZK).getD b []=ZK (l.getD b default):=Fam.getD z8;simp only at hstep;generalize l.getD b default=y at hgb hstep;simp only[cc];refine wG tK ?_;refine ZW ZM ?_;refine ZS rfl ?_;refine sN tK 3 ?_;refine dW 23 z6 (λc23 h23=>?_);simp only[go_sem];have hc:c23=false:=by rw[←h23];simp
    subst hc;refine sNq tK 7 ?_ ?_ z6 z6 Qh
    ·simp[hgb,ZK];omega
    refine sCC Tryz.func147 (hf:=λhb=>(iH x.worth y.worth)) (hk:=?_);refine sNq tK 7 ?_ ?_ z6 z6 Qh
    ·simp[hgb,ZK];omega
    refine sCC Tryz.func147 (hf:=λhb=>(iH x.last y.last)) (hk:=?_);refine sNq tK 9 ?_ ?_ z6 z6 Qh
    ·simp[hgb,ZK];omega
    refine sCC Tryz.func147 (hf:=λhb=>(iH x.node.fid y.node.fid)) (hk:=?_);refine sW tK ?_;refine Cn rfl z7 z7 w3 z7 w3 ⟨_,Tryz.func189,by kernel_rfl,rfl⟩ (λhb=>(I5 _ _ _)) w3 z6 z6 ?_;refine sN tK 2 ?_;refine sE ?_;refine wKd ?_
    by_cases hlt:rz x y<0
    ·refine wDT (hb:=(by simpa[rz] using hlt)) (hk:=?_);refine wG tK ?_ w5 k0;refine ZB ⟨i+1,by omega,by omega,ZU ?_ ?_ ?_⟩
     ·simp[go_sem,hstep,cc,hlt]
     ·simp[go_sem]
     ·simp[go_sem]
    ·refine wDF (hb:=(by simpa[rz] using hlt)) (hk:=?_);refine wG tK ?_ w5 k0;refine ZB ⟨i+1,by omega,by omega,ZU ?_ ?_ ?_⟩
     ·simp[go_sem,hstep,cc,hlt]
     ·simp[go_sem]
     ·simp[go_sem]
 ·have e:i=l.length:=by simp at h;omega
  subst e;refine wG tK ?_;refine wT ?_;rfl
theorem Dd (l:List Kept) (i:Nat) (hi:i<l.length):aX (l.map ZK) i (((l.map ZK).drop (i+1)).take (l.length-(i+1)))=(l.eraseIdx i).map ZK++(l.drop (l.length-1)).map ZK:=by
 unfold aX;have e1:((l.map ZK).drop (i+1)).take (l.length-(i+1))=(l.map ZK).drop (i+1):=Wl y7;rw[e1,List.eraseIdx_eq_take_drop_succ,List.map_append,Yh,Yn,Yn]
 congr 2
 simp;omega
theorem Bq (A Z:List (List AV)) (z:List AV) (n:Nat) (hA:A.length=n):(aX (A++Z) n [z]).take n=A:=by
 unfold aX;rw[YQ,List.take_append,←hA,List.take_append_length];simp
def dK (R:List (List AV)) (G Y N:Nat->Nat):List (Nat×Blk):=[(1000,.cells 138 8 R)]++pins [1000] G Y N
theorem Dc (l:List Kept) (i:Nat) (hi:i<l.length) (hlen:l.length≤100000000) (G Y Z:Nat->Nat) :
  ae Tryz.prog 159 [.osl 1000 8 0 l.length,.int .i64 i,.int .i64 ((i+1:Nat):Int)] (dK (l.map ZK) G Y Z) (λr H=>r=.osl 1000 8 0 (l.length-1)/\∀j b,aa (dK ((l.eraseIdx i).map ZK) G Y Z) j=some b->aa H j=some b):=by
 unfold dK;refine ZF tK (Tryz.func159) rfl (λC=>?_);simp only[Tryz.ntmps159,Tryz.results159,go_sem];refine wR ?_;refine wN tK 1 ?_;refine wR ?_;refine wN tK 5 ?_;refine bP rfl (yH tK rfl rfl (id:=1000) (s:=8) (off:=0) (len:=l.length) (l:=i) (h:=i+1) (m:=l.length) z7 z7 z7 z7 z8 z8 z8 z8 rfl z8) ?_;simp only[go_sem];refine wG tK ?_;refine wD (λh=>?_) (λh=>?_)
 ·simp at h;omega
 refine wG tK ?_;refine FI 50 (t:=0) (id:=1000) (s:=8) (off:=0) (len:=l.length) z7 z7 z8 z8 z7 (λN hN1 hN2=>?_);simp only[go_sem];refine ZW ZM ?_;refine ZS rfl ?_;refine sN tK 2 ?_;refine Ae tK rfl rfl rfl (id:=1000) (s:=8) (len:=l.length) (h:=i) (j:=50) (N:=N) z7 z7 z7 z8 z8 rfl z8 z6 z6 ?_;refine sNq tK 3 ?_ ?_
 ·simp;omega
 refine sE ?_;have hm:i+(l.length-(i+1))=l.length-1:=by omega
 have hE:(l.eraseIdx i).length=l.length-1:=by rw[List.length_eraseIdx,if_pos hi]
 have hO:=Dd l i hi;refine dY rfl w4 rfl (tB tK rfl rfl (id:=1000) (s:=8) (i:=i) (j:=i+1) (m:=l.length-(i+1)) (N:=N) (e':=138) (R:=l.map ZK) z7 z7 z7 j0 j0 z8 rfl z8 (rX l) (by rw[←Yn,←Yh];exact vl _)) rfl ?_;rw[hm,hO];have hR:((l.eraseIdx i).map ZK).length=l.length-1:=by rw[List.length_map,hE]
 have hZl:(l.drop (l.length-1)).length=1:=by simp;omega
 generalize (l.eraseIdx i).map ZK=A at *;generalize (l.drop (l.length-1))=W at *;refine dS tK ?_;refine wKd ?_
 try simp only[go_sem,gA,gB,gC]
 refine wR ?_;refine wN tK 2 ?_;refine ag (DI 28 z6) ?_;simp only[go_sem];refine wN tK 2 ?_;refine bP rfl (vX tK rfl rfl (id:=1000) (s:=8) (len:=l.length-1) (cap:=N) (l:=l.length-1) (h:=l.length) z7 z7 z7 z8 z8 rfl z8) ?_;simp only[go_sem];refine wGq tK ?_ ?_
 ·simp[hR,hZl];omega
 have h1:l.length-(l.length-1)=1:=by omega
 simp only[go_sem,h1,List.replicate_one];refine ag (DI 6 z6) ?_;simp only[go_sem];refine ag (pk (id:=1000) (l.length-1) z6) ?_;simp only[go_sem,Bq A _ _ (l.length-1) hR];refine wT ?_;refine ⟨rfl,cR ?_ ?_⟩
 ·simp[go_sem]
 ·simp[go_sem]
def bM (room:Int):Nat->List Kept->Option (List Kept)
 | 0,l=>some l
 | f+1,l=>if (l.length:Int)≥room then (match pH l with
   | none=>none
   | some i=>bM room f (l.eraseIdx i)) else some l
def lS (a b:Int):Int:=if b>a then b else a
def cK (l:List Kept) (room:Int) (k:Kept):Option (List Kept):=match bT l k.node.fid with
 | some i=>some (l.set i { k with worth:=lS k.worth (l.getD i default).worth })
 | none=>(bM room (l.length+1) l).map λL=>L++[k]
def pS (l:List Kept) (room:Int) (k:Kept):AV:=match cK l room k with
 | none=>.tup [.sl [],.int .i64 5]
 | some L=>.tup [.sl (L.map ZK),.int .i64 0]
def pf (l:List Kept) (room:Int) (k:Kept):AV:=match cK l room k with
 | none=>.tup [.nils,.int .i64 5]
 | some L=>.tup [.sl (L.map ZK),.int .i64 0]
theorem DF (l:List Kept) (room:Int) (k:Kept) (hl:SmallK l) (hk:k.node.Small):ae Tryz.prog 112 [.sl (l.map ZK),.int .i64 room,.agg (ZK k)] [] (λr _=>r=pf l room k):=by
 have hlen:=hl.len;have e0:=gl (M:=[k]) (i:=0) y7;refine ZF tK (Tryz.func112) rfl (λC=>?_);simp only[Tryz.ntmps112,Tryz.results112,go_sem];refine wGq tK ?_ ?_ QG
 ·simp
 refine wCG [] 978 Tryz.func68 (hf:=(jR l hl)) (hk:=?_);refine wGq tK ?_ ?_ QG
 ·simp
 refine ZZ 14 rfl (rfl) ?_;simp only[go_sem];refine wC Tryz.func68 (hf:=(qQ [k] (SmallK.one hk))) (hk:=?_);refine wGq tK ?_ ?_ QG
 ·simp[ZK]
 refine wV Tryz.func157 (hf:=(mA l k.node.fid hlen)) (hk:=?_);refine wG tK ?_;unfold pf cK;cases e:bT l k.node.fid with
 | some i=>
  have hi:=pg e;have hg:=gl hi;simp only[cc];refine wDT (hb:=y7) (hk:=?_);refine wG tK ?_;have hs:=jg l i { k with worth:=lS k.worth (l.getD i default).worth };simp only[ZK] at hs;unfold lS at hs;refine ZW ZM ?_;refine ZS rfl ?_;refine sNq tK 7 ?_ ?_ z6 z6 v7
  ·simp[hg];omega
  refine vP rfl rfl (q:=.i64) (q':=.i64) (u:=k.worth) (v:=(l.getD i default).worth) z7 z7 z6 z6 ?_;refine sN tK 1 ?_;refine sE ?_;refine dS tK ?_;refine wKd ?_
  try simp only[go_sem,gA,gB,gC]
  refine wGq tK ?_ ?_ Za
  ·simp[hg];omega
  refine ZZ 1000 rfl (bc _) ?_;simp only[go_sem];refine wT ?_;rw[if_pos y7,Wl y7];rfl
 | none=>
  simp only[cc];refine wDF (hb:=y7) (hk:=?_);refine wG tK ?_;refine ZZ 5 rfl (rfl) ?_;simp only[go_sem];refine ZL (λL:List Kept=>L.length≤l.length/\bM room (L.length+1) L=bM room (l.length+1) l) (λL=>L.length) (λL=>(8,.osl 1000 8 0 L.length)::u0 10 15 (u0 39 13 [])) (λL=>[(1000,.cells 138 8 (L.map ZK))]) l ⟨Wt _,rfl⟩ ?_ λL hL=>?_
  ·simp only[go_sem];exact ZU w3 w3 w3
  obtain ⟨hLl,hLs⟩:=hL;simp only[go_sem];refine wG tK ?_;refine wD (λh=>?_) (λh=>?_)
  ·have hge:(L.length:Int)≥room:=by simpa using h
   rw[bM,if_pos hge] at hLs;refine wG tK ?_;refine wV Tryz.func158 (hf:=(yO L z8)) (hk:=?_);cases hw:pH L with
   | none=>
    rw[hw] at hLs;simp only at hLs;simp only[cc];refine wG tK ?_;refine wDT (hb:=y7) (hk:=?_);refine wG tK ?_;refine wT ?_;rw[←hLs];rfl
   | some i=>
    rw[hw] at hLs;simp only at hLs;have hi:i<L.length:=fy L L.length i hw;have hwr:=wi1 (i:=i) z8;have hE:(L.eraseIdx i).length=L.length-1:=by rw[List.length_eraseIdx,if_pos hi]
    simp only[cc];refine wG tK ?_;refine wDF (hb:=y7) (hk:=?_);refine wG tK ?_ Zl (by simp[go_sem,hwr]);have hne:¬L=[]:=λh0=>by rw[h0] at hi;simp at hi
    refine bP rfl (dQ rfl z7 w3 ⟨_,Tryz.func159,by kernel_rfl,rfl⟩ [1000] w8 w3 y7 Zb w3 w3 (Dc L i hi z8) w9) ?_;refine wG tK ?_;refine ZB ⟨L.eraseIdx i,⟨by omega,?_⟩,by omega,ZU ?_ ?_ ?_⟩
    ·rw[←hLs,hE];congr 1;omega
    ·simp[go_sem,hE]
    ·simp[go_sem]
    ·simp[go_sem]
  ·have hlt:¬(L.length:Int)≥room:=by simpa using h
   rw[bM,if_neg hlt] at hLs;refine wGq tK ?_ ?_
   ·simp[rowsOf];omega
   refine ZZ 55 rfl (by rw[List.all_append];first | (rw[bc];rfl) | (rw[←Yh,bc];rfl)) ?_;simp only[go_sem];refine wT ?_;rw[←hLs,Wl y7];simp[ZK]
theorem xU (n:Kept):eW (ZK n)=ZK n:=by
 have h1:iO (n.node.data.map ZY)=n.node.data.map ZY:=by rw[dz,YX];rfl
 have h2:iO (n.node.entries.map ZE)=n.node.entries.map ZE:=by rw[dz,YX];rfl
 simp only[ZK,eW,nrm,h1,h2]
theorem DU (l:List Kept):iO (l.map ZK)=l.map ZK:=by
 rw[dz,YX];exact Yb λk _=>xU k
theorem AX (l:List Kept) (room:Int) (k:Kept) (hl:SmallK l) (hk:k.node.Small):ae Tryz.prog 112 [.sl (l.map ZK),.int .i64 room,.agg (ZK k)] [] (λr _=>r=pS l room k):=by
 refine ae.iO (DF l room k hl hk) ?_;unfold pf pS;cases cK l room k with
 | none=>rfl
 | some L=>simp only[nrm,eW,DU]
end La
namespace La
open Go Go.Eng
def HE (k:Kept):Bool:=!k.dirty&&!(k.node.fid==0)
theorem ru (a b:Int):(a<b/\iG a b=-1)\/(a=b/\iG a b=0)\/(b<a/\iG a b=1):=by
 unfold iG
 by_cases h:a<b
 ·exact .inl ⟨h,if_pos h⟩
 ·rw[if_neg h]
  by_cases h2:b<a
  ·exact .inr (.inr ⟨h2,if_pos h2⟩)
  ·exact .inr (.inl ⟨by omega,if_neg h2⟩)
structure Stays (l:List Kept) (room:Int) (k:Kept) (X:List Kept):Prop where
 len:(X.length:Int)≤room
 short:X.length≤l.length+1
 has:Dr X k.node.fid=true
 each:∀y,y∈l->Dr X y.node.fid=true\/(HE y=true/\∀z,z∈X->z.node.fid≠k.node.fid->HE z=true->y.worth≤z.worth)
end La
namespace La
open Go Go.Eng Go.Proofs
theorem Hu (a b:Node):ae Tryz.prog 146 [.agg (ZN a),.agg (ZN b)] [] (λr _=>r=.int .i64 (iG a.fid b.fid)):=by
 unfold ZN;refine ZF tK (Tryz.func146) rfl (λC=>?_);simp only[Tryz.ntmps146,Tryz.results146,go_sem];refine wG tK ?_;refine wC Tryz.func147 (hf:=(iH a.fid b.fid)) (hk:=?_);refine wG tK ?_;refine wT ?_;rfl
def UpN (l:List Node):Prop:=∀i,0<i->i<l.length->(l.getD (i-1) default).fid≤(l.getD i default).fid
theorem BE (l:List Node) (hl:UpN l) (hlen:l.length≤100000000):ae Tryz.prog 197 [.sl (l.map ZN),.int .i64 0,.int .i64 l.length,.fn 146 []] [] (λr _=>r=.tup []):=by
 refine ZF tK (Tryz.func197) rfl (λC=>?_);simp only[Tryz.ntmps197,Tryz.results197,go_sem];refine wG tK ?_;refine ZL (λi:Nat=>0<i/\(i≤l.length\/i=1)) (λi=>l.length+1-i) (λi=>(8,.int .i64 i)::(9,.any)::u0 12 41 []) (λ_=>[]) 1 z8 ?_ λi hi=>?_
 ·simp only[go_sem];exact ZU (by simp[go_sem];decide) w3 w3
 obtain ⟨hi0,hi⟩:=hi;simp only[go_sem];refine wG tK ?_;refine wD (λh=>?_) (λh=>?_)
 ·have hlt:i<l.length:=by simp at h;omega
  have hw:=wi1 (i:=i) z8;have hwm:IntKind.i64.wrap ((i:Int)-1)=((i-1:Nat):Int):=by rw[Eng.wrap_small z8 z8];omega
  have hup:=hl i hi0 hlt;have hg:(l.map ZN).getD i []=ZN (l.getD i default):=Fam.getD hlt;have hgm:(l.map ZN).getD (i-1) []=ZN (l.getD (i-1) default):=Fam.getD z8;generalize l.getD i default=x at *;generalize l.getD (i-1) default=y at *;refine wG tK ?_;refine ZL (λ_:Unit=>True) (λ_=>0) (λ_=>u0 18 35 []) (λ_=>[]) () trivial ?_ λ_ _=>?_
  ·simp only[go_sem];exact ZU w3 w3 w3
  simp only[go_sem];refine wG tK ?_;refine ZW ZM ?_;refine ZS rfl ?_;refine sN tK 4 ?_;refine dW 21 z6 (λc21 h21=>?_);simp only[go_sem];have hc:c21=true:=by rw[←h21];simp;omega
  subst hc;refine sNq tK 10 ?_ ?_ z6 z6 (by simp only[go_sem,hg,hgm,hwm,ZN];try exact rfl)
  ·simp[hg,hgm,hwm,ZN,hlt];omega
  refine sCC Tryz.func146 (hf:=λhb=>(Hu x y)) (hk:=?_);refine sN tK 2 ?_;refine sE ?_;refine wKd ?_;refine wDF (hb:=(by rw[uR];simp;exact hup)) (hk:=?_);refine wG tK ?_ w5 k0;refine ZB ⟨i+1,by omega,by omega,ZU ?_ ?_ ?_⟩
  ·simp[go_sem]
  ·simp[go_sem]
  ·simp[go_sem]
 ·refine wG tK ?_;refine kn ⟨_,_,rfl,trivial,.tup [],.inr (.inl rfl),rfl⟩
theorem Iq (l:List Node) (hl:UpN l) (hlen:l.length≤12) (lim:Int):ae Tryz.prog 171 [.sl (l.map ZN),.int .i64 0,.int .i64 l.length,.int .i64 lim,.fn 146 []] [] (λr _=>r=.tup []):=by
 have hw:IntKind.i64.wrap ((l.length:Int)-0)=(l.length:Int):=by rw[Eng.wrap_small z8 z8];omega
 refine ZF tK (Tryz.func171) rfl (λC=>?_);simp only[Tryz.ntmps171,Tryz.results171,go_sem];refine wG tK ?_;refine ZL (λ_:Unit=>True) (λ_=>0) (λ_=>[]) (λ_=>[]) () trivial ?_ λ_ _=>?_
 ·simp only[go_sem];exact ZU w3 w3 w3
 simp only[go_sem];refine wG tK ?_ w5 k0;refine wDT (hb:=j0) (hk:=?_);refine wG tK ?_;refine wC Tryz.func197 (hf:=(BE l hl z8)) (hk:=?_);refine wG tK ?_;refine ko ⟨_,_,rfl,trivial,.tup [],.inr (.inl rfl),rfl⟩
def aM (l:List Kept):List Node:=l.map (·.node)
theorem xR (l:List Kept) (i:Nat) (h:i<l.length):(aM l).take (i+1)=(aM l).take i++[(l.getD i default).node]:=by
 unfold aM;rw[←Yh,←Yh,List.take_succ_eq_append_getElem h,List.map_append];rw[Wi,Wj h];rfl
theorem rv {a b:Int}:iG a b<0↔a<b:=by rcases ru a b with ⟨h,e⟩ | ⟨h,e⟩ | ⟨h,e⟩<;>rw[e]<;>omega
theorem mn {a b:Int}:iG a b=0↔a=b:=by rcases ru a b with ⟨h,e⟩ | ⟨h,e⟩ | ⟨h,e⟩<;>rw[e]<;>omega
theorem C3 {a b:Kept}:rz a b<0↔(a.worth≠b.worth/\a.worth<b.worth)\/(a.worth=b.worth/\((a.last≠b.last/\a.last<b.last)\/(a.last=b.last/\a.node.fid<b.node.fid))):=by
 unfold rz orI
 by_cases h1:a.worth=b.worth
 ·rw[if_neg (by simp[mn,h1])]
  by_cases h2:a.last=b.last
  ·rw[if_neg (by simp[mn,h2]),rv];simp[h1,h2]
  ·rw[if_pos (by simp[mn,h2]),rv];simp[h1,h2]
 ·rw[if_pos (by simp[mn,h1]),rv];simp[h1]
theorem EC (a b:Kept):ae Tryz.prog 136 [.agg (ZK a),.agg (ZK b)] [] (λr _=>r=.bool (decide (rz a b<0))):=by
 have hk:=@C3 a b;unfold ZK;refine ZF tK (Tryz.func136) rfl (λC=>?_);simp only[Tryz.ntmps136,Tryz.results136,go_sem];refine wG tK ?_;refine wD (λh=>?_) (λh=>?_)
 ·have h1:a.worth≠b.worth:=by simpa using h
  refine wG tK ?_;refine wT ?_;simp[hk,h1]
 have h1:a.worth=b.worth:=by simpa using h
 refine wG tK ?_;refine wD (λh=>?_) (λh=>?_)
 ·have h2:a.last≠b.last:=by simpa using h
  refine wG tK ?_;refine wT ?_;simp[hk,h1,h2]
 have h2:a.last=b.last:=by simpa using h
 refine wG tK ?_;refine wT ?_;simp[hk,h1,h2]
theorem Em (x y:Node):bW true x y=decide (x=y):=by
 obtain ⟨a,b,c,d,e⟩:=x;obtain ⟨a',b',c',d',e'⟩:=y;rw[YZ];simp[bW,and_assoc]
theorem yn (a b:List Kept) (ha:SmallK a) (hb:SmallK b):ae Tryz.prog 55 [.sl (a.map ZK),.sl (b.map ZK)] [] (λr _=>r=.bool (decide (a=b))):=by
 have hal:=ha.len;have hbl:=hb.len;refine ZF tK (Tryz.func55) rfl (λC=>?_);simp only[Tryz.ntmps55,Tryz.results55,go_sem];refine wG tK ?_;refine wD (λh=>?_) (λh=>?_)
 ·refine wG tK ?_;refine wT ?_;have hne:a≠b:=by rintro rfl;simp at h
  simp[hne]
 have hl:a.length=b.length:=by simp at h;omega
 refine wG tK ?_;refine ZL (λi:Nat=>i≤a.length/\a.take i=b.take i) (λi=>a.length-i) (λi=>(13,.int .i64 i)::(5,.any)::u0 14 54 []) (λ_=>[]) 0 ⟨by omega,rfl⟩ ?_ λi hi=>?_
 ·simp only[go_sem];exact ZU w3 w3 s7
 obtain ⟨hi,ht⟩:=hi;simp only[go_sem];refine wG tK ?_;refine wD (λh=>?_) (λh=>?_)
 ·have hlt:i<a.length:=by simp at h;omega
  have hltb:i<b.length:=by omega
  have hg:(a.map ZK).getD i []=ZK (a.getD i default):=Fam.getD hlt;have hgb:(b.map ZK).getD i []=ZK (b.getD i default):=Fam.getD hltb;have hxs:=ha.each _ (YG hlt);have hys:=hb.each _ (YG hltb);refine wG tK ?_;refine ZW ZM ?_;refine ZS rfl ?_;have ga:=ZT hlt;have gb:=ZT hltb;generalize a.getD i default=x at hg ga hxs;generalize b.getD i default=y at hgb gb hys;have hsn:=jl x.node y.node true hxs hys;rw[Em] at hsn;unfold ZN at hsn;refine sN tK 1 ?_ z6 z6 w7 y9;refine sN tK 1 ?_ z6 z6 w7 y9;refine sN tK 1 ?_ z6 z6 w7 y9;refine sN tK 1 ?_ z6 z6 w7 y9;refine sN tK 1 ?_ z6 z6 w7 y9;refine sN tK 1 ?_ z6 z6 w7 y9;refine sN tK 1 ?_ z6 z6 w7 y9;refine sN tK 1 ?_ z6 z6 w7 y9;refine sN tK 1 ?_ z6 z6 w7 y9;refine sN tK 1 ?_ z6 z6 w7 y9;refine sC Tryz.func87 (hf:=(hsn)) (hk:=?_);generalize h0:decide (x.node=y.node)=c0;refine sN tK 1 ?_ z6 z6 w7 y9;refine sN tK 1 ?_ z6 z6 w7 y9;refine sN tK 1 ?_ z6 z6 w7 y9;refine sN tK 1 ?_ z6 z6 w7 y9;refine sN tK 1 ?_ z6 z6 w7 y9;refine sN tK 1 ?_ z6 z6 w7 y9;refine sN tK 1 ?_ z6 z6 w7 y9;refine sN tK 1 ?_ z6 z6 w7 y9;refine sN tK 1 ?_ z6 z6 w7 y9;refine sN tK 1 ?_ z6 z6 w7 y9;refine sN tK 1 ?_ z6 z6 w7 y9;refine sN tK 1 ?_ z6 z6 w7 y9;refine sN tK 1 ?_ z6 z6 w7 y9;refine sN tK 1 ?_ z6 z6 w7 y9;generalize h1:(bif !c0 then true else x.dirty != y.dirty)=c1;refine sN tK 1 ?_ z6 z6 w7 y9;refine sN tK 1 ?_ z6 z6 w7 y9;refine sN tK 1 ?_ z6 z6 w7 y9;refine sN tK 1 ?_ z6 z6 w7 y9;refine sN tK 1 ?_ z6 z6 w7 y9;refine sN tK 1 ?_ z6 z6 w7 y9;refine sN tK 1 ?_ z6 z6 w7 y9;refine sN tK 1 ?_ z6 z6 w7 y9;refine sN tK 1 ?_ z6 z6 w7 y9;refine sN tK 1 ?_ z6 z6 w7 y9;refine sN tK 1 ?_ z6 z6 w7 y9;refine sN tK 1 ?_ z6 z6 w7 y9;refine sN tK 1 ?_ z6 z6 w7 y9;generalize h2:(bif c1 then true else x.worth != y.worth)=c2;refine sN tK 1 ?_ z6 z6 w7 y9;refine sN tK 1 ?_ z6 z6 w7 y9;refine sN tK 1 ?_ z6 z6 w7 y9;refine sN tK 1 ?_ z6 z6 w7 y9;refine sN tK 1 ?_ z6 z6 w7 y9;refine sN tK 1 ?_ z6 z6 w7 y9;refine sN tK 1 ?_ z6 z6 w7 y9;refine sN tK 1 ?_ z6 z6 w7 y9;refine sN tK 1 ?_ z6 z6 w7 y9;refine sN tK 1 ?_ z6 z6 w7 y9;refine sN tK 1 ?_ z6 z6 w7 y9;refine sN tK 1 ?_ z6 z6 w7 y9;refine sN tK 1 ?_ z6 z6 w7 y9;generalize h3:(bif c2 then true else x.last != y.last)=c3;refine sE ?_;refine wKd ?_;have hx:(x=y)↔c3=false:=by
   subst h3 h2 h1 h0;obtain ⟨xa,xv,xi,xl⟩:=x;obtain ⟨ya,yv,yi,yl⟩:=y;simp only[Kept.mk.injEq,Bool.cond_eq_ite]
   by_cases e1:xa=ya<;>by_cases e2:xv=yv<;>by_cases e3:xi=yi<;>by_cases e4:xl=yl<;>simp[e1,e2,e3,e4]
  refine wD (λh=>?_) (λh=>?_)
  ·refine wG tK ?_;refine wT ?_;have hne:a≠b:=by
    intro he;rw[←he,ga] at gb;have e:=List.append_cancel_left gb;injection e with e
    rw[hx.1 e] at h;cases h
   simp[hne]
  ·refine wG tK ?_;have hw:IntKind.i64.wrap ((i:Int)+1)=(i:Int)+1:=wrap_small z8 z8;refine ZB ⟨i+1,⟨by omega,by rw[ga,gb,ht,hx.2 h]⟩,by omega,ZU ?_ ?_ ?_⟩
   ·simp[go_sem,hw]
   ·simp[go_sem]
   ·simp only[go_sem]
 ·have e:i=a.length:=by simp at h;omega
  refine wG tK ?_;refine wT ?_;have:a=b:=by
   rw[e,Wo,hl,Wo] at ht;exact ht
  simp[this]
theorem F2 (l:List Kept) (hlen:l.length≤100000000):ae Tryz.prog 94 [.sl (l.map ZK)] [] (λr _=>r=.rm (mN (bD (aM l)))):=by
 rw[←vu];refine ZF tK (Tryz.func94) rfl (λC=>?_);simp only[Tryz.ntmps94,Tryz.results94,go_sem];refine wG tK ?_;refine ZL (λi:Nat=>i≤l.length) (λi=>l.length-i) (λi=>(3,.mp 6)::(5,.any)::(9,.int .i64 i)::u0 10 10 [])
  (λi=>[(6,.map (jV (aM l) i))]) 0 z8 ?_ λi hi=>?_
 ·simp only[go_sem];exact ZU w3 (by simp[go_sem,jV,ij]) s7
 simp only[go_sem];refine wG tK ?_;refine wD (λh=>?_) (λh=>?_)
 ·have hlt:i<l.length:=by simp at h;omega
  have hg:(l.map ZK).getD i []=ZK (l.getD i default):=Fam.getD hlt;have hw:=wi1 (i:=i) z8;have hnd:(aM l).getD i default=(l.getD i default).node:=by
   unfold aM;rw[Wi,Wm,Wi,Wj hlt];rfl
  have hput:jV (aM l) (i+1)=bt (jV (aM l) i) ((aM l).getD i default).fid (.agg (ZN ((aM l).getD i default))):=rfl;rw[hnd] at hput;generalize l.getD i default=n at *;refine wGq tK ?_ ?_ (by simp only[go_sem,hg,ZK,hw];try exact rfl)
  ·simp[hg,ZK,hlt,AV.jE,AV.aY]
  refine ZB ⟨i+1,by omega,by omega,ZU ?_ ?_ ?_⟩
  ·simp[go_sem]
  ·simp[go_sem,hput,ZN]
  ·simp only[go_sem]
 ·have e:i=l.length:=by simp at h;omega
  subst e;have hN:BQ (aM l)=jV (aM l) l.length:=by unfold BQ aM;rw[List.length_map]
  rw[hN];refine wG tK ?_;refine km 6 rfl ?_;simp only[go_sem];refine wT ?_;rfl
theorem um (l:List Node) (hlen:l.length≤100000000):ae Tryz.prog 27 [.sl (l.map ZN)] [] (λr _=>r=.rm (mN (bD l))):=by
 rw[←vu];refine ZF tK (Tryz.func27) rfl (λC=>?_);simp only[Tryz.ntmps27,Tryz.results27,go_sem];refine wG tK ?_;refine ZL (λi:Nat=>i≤l.length) (λi=>l.length-i) (λi=>(3,.mp 6)::(5,.any)::(9,.int .i64 i)::u0 10 8 [])
  (λi=>[(6,.map (jV l i))]) 0 z8 ?_ λi hi=>?_
 ·simp only[go_sem];exact ZU w3 (by simp[go_sem,jV,ij]) s7
 simp only[go_sem];refine wG tK ?_;refine wD (λh=>?_) (λh=>?_)
 ·have hlt:i<l.length:=by simp at h;omega
  have hg:(l.map ZN).getD i []=ZN (l.getD i default):=Fam.getD hlt;have hw:=wi1 (i:=i) z8;have hput:jV l (i+1)=bt (jV l i) (l.getD i default).fid (.agg (ZN (l.getD i default))):=rfl;generalize l.getD i default=n at *;refine wGq tK ?_ ?_ (by simp only[go_sem,hg,ZN,hw];try exact rfl)
  ·simp[hg,ZN,hlt,AV.jE,AV.aY]
  refine ZB ⟨i+1,by omega,by omega,ZU ?_ ?_ ?_⟩
  ·simp[go_sem]
  ·simp[go_sem,hput,ZN]
  ·simp only[go_sem]
 ·have e:i=l.length:=by simp at h;omega
  subst e;unfold BQ;refine wG tK ?_;refine km 6 rfl ?_;simp only[go_sem];refine wT ?_;rfl
theorem kA {p:Kept} {x:AV} (h:x∈ZK p):refs x=[]:=by
 simp only[ZK,List.mem_cons,List.not_mem_nil,or_false] at h
 rcases h with rfl | rfl | rfl | rfl | rfl | rfl | rfl | rfl<;>rfl
def wK (k x:Kept):Kept:={ k with worth:=lS k.worth x.worth }
def rkS (k:Kept) (q:Bool×List Kept) (x:Kept):Bool×List Kept:=if (x.node.fid==k.node.fid&&!q.1)=true then (true,q.2++[wK k x]) else (q.1,q.2++[x])
def rkT (k:Kept) (l:List Kept):Bool×List Kept:=l.foldl (rkS k) (false,[])
theorem Eb (k:Kept) (l:List Kept) (x:Kept):rkT k (l++[x])=rkS k (rkT k l) x:=by unfold rkT;rw[List.foldl_append];rfl
theorem Ba (k:Kept) (l:List Kept):(rkT k l).2.length=l.length:=by
 have:∀(l:List Kept) (q:Bool×List Kept),(l.foldl (rkS k) q).2.length=q.2.length+l.length:=λl=>by
  induction l with
  | nil=>intro q;rfl
  | cons x r ih=>intro q;rw[List.foldl_cons,ih];unfold rkS;split<;>simp<;>omega
 have:=this l (false,[]);simpa[rkT] using this
theorem yd (k:Kept):∀(l acc:List Kept),l.foldl (rkS k) (true,acc)=(true,acc++l)
 | [],acc=>by simp
 | x::r,acc=>by rw[List.foldl_cons,show rkS k (true,acc) x=(true,acc++[x]) from by simp[rkS],yd k r];simp
theorem ux (k:Kept):∀(l acc:List Kept),l.foldl (rkS k) (false,acc)=match bT l k.node.fid with
  | none=>(false,acc++l)
  | some i=>(true,acc++l.set i (wK k (l.getD i default)))
 | [],acc=>by simp[bT]
 | x::r,acc=>by
  rw[List.foldl_cons]
  by_cases h:x.node.fid=k.node.fid
  ·rw[show rkS k (false,acc) x=(true,acc++[wK k x]) from by simp[rkS,h],yd];have:bT (x::r) k.node.fid=some 0:=by unfold bT;rw[List.findIdx?_cons];simp[h]
   rw[this];simp
  ·rw[show rkS k (false,acc) x=(false,acc++[x]) from by simp[rkS,h],ux k r];have:bT (x::r) k.node.fid=(bT r k.node.fid).map (·+1):=by unfold bT;rw[List.findIdx?_cons];simp[h]
   rw[this];cases bT r k.node.fid<;>simp
theorem ye (k:Kept) (l:List Kept):rkT k l=match bT l k.node.fid with
  | none=>(false,l)
  | some i=>(true,l.set i (wK k (l.getD i default))):=by
 unfold rkT;rw[ux];cases bT l k.node.fid<;>simp
theorem zp {l:List Kept} {room:Int} {k:Kept} (h:(rkT k l).1=true):cK l room k=some (rkT k l).2:=by
 unfold cK;rw[ye] at h ⊢;cases e:bT l k.node.fid with
 | none=>rw[e] at h;cases h
 | some i=>rfl
theorem zo {l:List Kept} {room:Int} {k:Kept} (h:(rkT k l).1=false):(rkT k l).2=l/\cK l room k=(bM room (l.length+1) l).map λL=>L++[k]:=by
 unfold cK;rw[ye] at h ⊢;cases e:bT l k.node.fid with
 | none=>exact ⟨rfl,rfl⟩
 | some i=>rw[e] at h;cases h
theorem B9 (l:List Kept) (room:Int) (k:Kept) (hl:l.length≤90000000):ae Tryz.prog 98 [.sl (l.map ZK),.int .i64 room,.agg (ZK k)] [] (λr _=>r=pf l room k):=by
 unfold pf;have hz:rkT k (l.take l.length)=rkT k l:=by rw[Wo]
 refine ZF tK (Tryz.func98) rfl (λC=>?_);simp only[Tryz.ntmps98,Tryz.results98,go_sem];refine wGq tK ?_ ?_ QG
 ·simp
 refine ag (le_empty 46 138 8 z7) ?_;simp only[go_sem];refine ZL (λi:Nat=>i≤l.length) (λi=>l.length-i) (λi=>(8,.osl 46 8 0 i)::(9,.bool (rkT k (l.take i)).1)::(11,.any)::(12,.any)::(18,.int .i64 i)::u0 19 29 []) (λi=>[(46,.cells 138 8 ((rkT k (l.take i)).2.map ZK))]) 0 z8 ?_ λi hi=>?_
 ·simp only[go_sem];exact ZU (by simp[go_sem,rkT]) (by simp[go_sem,rkT]) w3
 simp only[go_sem];refine wG tK ?_;refine wD (λh=>?_) (λh=>?_)
 ·have hlt:i<l.length:=by simp at h;omega
  have hg:(l.map ZK).getD i []=ZK (l.getD i default):=Fam.getD hlt;have hw:=wi1 (i:=i) z8;have htk:rkT k (l.take (i+1))=rkS k (rkT k (l.take i)) (l.getD i default):=by rw[ZT hlt,Eb]
  have hql:=Ba k (l.take i);rw[Wv,Yj hi] at hql;generalize l.getD i default=x at hg htk;generalize rkT k (l.take i)=q at *;unfold rkS at htk;have htq:List.take i (q.2.map ZK)=q.2.map ZK:=Wl (by simp[hql]);refine wR ?_;refine wNq tK 4 ?_ ?_ z6 z6 x9
  ·simp[hg,ZK,hlt]
  cases hb:(x.node.fid==k.node.fid&&!q.1) with
  | true=>
   rw[hb,if_pos rfl] at htk;rw[Bool.and_eq_true] at hb;refine wG tK ?_;refine wDT (hb:=(by simp[hb.1,hb.2])) (hk:=?_);refine wG tK ?_;refine wD (λh=>?_) (λh=>?_)
   ·have hm:lS k.worth x.worth=x.worth:=by unfold lS;rw[if_pos v8]
    refine wGq tK ?_ ?_ w5
    ·simp[htq,refs,hql];exact ⟨by intro row h;simp at h;subst h;rfl,by omega,λx _ y hy=>by rw[kA hy];simp⟩
    refine ZB ⟨i+1,by omega,by omega,ZU ?_ ?_ ?_⟩
    ·simp[go_sem,htk]
    ·simp[go_sem,htk,htq,ZK,wK,hm]
    ·simp[go_sem]
   ·have hm:lS k.worth x.worth=k.worth:=by unfold lS;rw[if_neg v8]
    refine wGq tK ?_ ?_ w5
    ·simp[htq,refs,hql];exact ⟨by intro row h;simp at h;subst h;rfl,by omega,λx _ y hy=>by rw[kA hy];simp⟩
    refine ZB ⟨i+1,by omega,by omega,ZU ?_ ?_ ?_⟩
    ·simp[go_sem,htk]
    ·simp[go_sem,htk,htq,ZK,wK,hm]
    ·simp[go_sem]
  | false=>
   rw[hb,if_neg Bool.false_ne_true] at htk;refine wG tK ?_;refine wDF (hb:=(by simpa[show ∀a b:Bool,(bif a then b else false)=(a&&b) from λa b=>by cases a<;>rfl] using hb)) (hk:=?_);refine wGq tK ?_ ?_ w5
   ·simp[htq,refs,hql];exact ⟨by intro row h;simp at h;subst h;rfl,by omega,λx _ y hy=>by rw[kA hy];simp⟩
   refine ZB ⟨i+1,by omega,by omega,ZU ?_ ?_ ?_⟩
   ·simp[go_sem,htk]
   ·simp[go_sem,htk,htq,ZK]
   ·simp[go_sem]
 have e:i=l.length:=by simp at h;omega
 subst e;rw[hz];clear hz h;have hql:=Ba k l;cases hb:(rkT k l).1 with
 | true=>
  rw[zp hb];refine wG tK ?_;refine wDT (hb:=y7) (hk:=?_);refine wG tK ?_;refine ZZ 46 rfl (bc _) ?_;simp only[go_sem];refine wT ?_;simp[hql];exact Wl (by simp[hql])
 | false=>
  obtain ⟨h1,h2⟩:=zo (room:=room) hb;rw[h1,h2];rw[h1] at hql;clear hi h1 h2;refine wG tK ?_;refine wDF (hb:=y7) (hk:=?_);refine wG tK ?_;refine ZL (λL:List Kept=>bM room (L.length+1) L=bM room (l.length+1) l/\L.length≤l.length) (λL=>L.length) (λL=>(8,.osl 46 8 0 L.length)::(13,.any)::(14,.any)::(15,.any)::u0 50 46 []) (λL=>[(46,.cells 138 8 (L.map ZK))]) l ⟨rfl,Wt _⟩ ?_ λL hL=>?_
  ·simp only[go_sem];exact ZU w3 w3 w3
  obtain ⟨hsh,hLl⟩:=hL;rw[←hsh];simp only[go_sem];refine wG tK ?_;refine wD (λh=>?_) (λh=>?_)
  ·have hge:(L.length:Int)≥room:=by simpa using h
   refine wG tK ?_;refine ZL (λj:Nat=>j≤L.length) (λj=>L.length-j) (λj=>(13,.int .i64 (cc (cP L j)))::(14,.any)::(15,.any)::(56,.int .i64 j)::u0 57 27 []) (λ_=>[]) 0 z8 ?_ λj hj=>?_
   ·simp only[go_sem];exact ZU (by simp[go_sem,cP,cc]) w3 w3
   simp only[go_sem];refine wG tK ?_;refine wD (λh=>?_) (λh=>?_)
   ·have hlt:j<L.length:=by simp at h;omega
    have hg:(L.map ZK).getD j []=ZK (L.getD j default):=Fam.getD hlt;have hw:IntKind.i64.wrap ((j:Int)+1)=((j+1:Nat):Int):=by rw[Eng.wrap_small z8 z8];rfl
    have hwa:cP L (j+1)=if (L.getD j default).dirty||(L.getD j default).node.fid==0 then cP L j
      else match cP L j with
       | none=>some j
       | some b=>if rz (L.getD j default) (L.getD b default)<0 then some j else some b:=rfl
    have hwl:=fy L j;generalize L.getD j default=x at hg hwa;refine wGq tK ?_ ?_ x9
    ·simp[hg,ZK,hlt]
    refine ZW ZM ?_;refine ZS rfl ?_;cases hd:x.dirty with
    | true=>
     rw[hd,Bool.true_or,if_pos rfl] at hwa;refine sN tK 4 ?_ z6 z6 (by simp only[go_sem,hd];try exact rfl) (by simp[go_sem,hd])
     try simp only[hd,Bool.not_true]
     iterate 3 refine sS ?_
     refine sSB ?_;refine sN tK 2 ?_;refine sS ?_;refine sSB ?_;refine sSB ?_
     iterate 5 refine sS ?_
     refine sSB ?_;refine sSB ?_;refine sN tK 1 ?_;refine sE ?_;refine wKd ?_
     try simp only[go_sem,gA,gB,gC]
     refine wD (λh=>?_) (λh=>?_)
     ·exfalso;simp at h
     refine wG tK ?_ w5 k0;refine ZB ⟨j+1,by omega,by omega,ZU ?_ ?_ ?_⟩
     ·simp[go_sem,hwa]
     ·simp[go_sem]
     ·simp[go_sem]
    | false=>
     by_cases hf:x.node.fid=0
     ·have hf0:(x.node.fid==0)=true:=by simp[hf]
      have hf1:(x.node.fid != 0)=false:=by simp[hf]
      rw[hd,hf0,Bool.or_true,if_pos rfl] at hwa;refine sN tK 10 ?_ z6 z6 (by simp only[go_sem,hd,hf1];try exact rfl) (by simp[go_sem,hd,hf1])
      try simp only[hd,hf1,Bool.not_false,cond_true]
      refine sS ?_;refine sSB ?_;refine sSB ?_
      iterate 5 refine sS ?_
      refine sSB ?_;refine sSB ?_;refine sN tK 1 ?_;refine sE ?_;refine wKd ?_
      try simp only[go_sem,gA,gB,gC]
      refine wD (λh=>?_) (λh=>?_)
      ·exfalso;simp at h
      refine wG tK ?_ w5 k0;refine ZB ⟨j+1,by omega,by omega,ZU ?_ ?_ ?_⟩
      ·simp[go_sem,hwa]
      ·simp[go_sem]
      ·simp[go_sem]
     ·have hf0:(x.node.fid==0)=false:=by simp[hf]
      have hf1:(x.node.fid != 0)=true:=by simp[hf]
      rw[hd,hf0,Ym,if_neg Bool.false_ne_true] at hwa;cases hwb:cP L j with
      | none=>
       rw[hwb] at hwa;simp only at hwa;refine sN tK 13 ?_ z6 z6 (by simp only[go_sem,hd,hf1,cc];try exact rfl) (by simp[go_sem,hd,hf1,cc])
       try simp only[hd,hf1,Bool.not_false,cond_true,show decide ((-1:Int)<0)=true from rfl,beq_self_eq_true,Bool.true_and,Bool.and_true]
       iterate 5 refine sS ?_
       refine sSB ?_;refine sN tK 2 ?_;refine sE ?_;refine wKd ?_
       try simp only[go_sem,gA,gB,gC]
       refine wD (λh=>?_) (λh=>?_)
       ·refine wG tK ?_ w5 k0;refine ZB ⟨j+1,by omega,by omega,ZU ?_ ?_ ?_⟩
        ·simp[go_sem,hwa,cc]
        ·simp[go_sem]
        ·simp[go_sem]
       ·exfalso;simp at h
      | some b=>
       rw[hwb] at hwa;simp only at hwa;have hbj:=hwl b hwb;have hgb:(L.map ZK).getD b []=ZK (L.getD b default):=Fam.getD z8;have hneg:decide ((b:Int)<0)=false:=decide_eq_false z8;generalize L.getD b default=y at hgb hwa;refine sN tK 13 ?_ z6 z6 (by simp only[go_sem,hd,hf1,cc,hneg];try exact rfl) (by simp[go_sem,hd,hf1,cc,hneg])
       try simp only[hd,hf1,hneg,Bool.not_false,cond_true,beq_self_eq_true,Bool.true_and,Bool.and_true]
       refine sNq tK 5 ?_ ?_ z6 z6 Qh
       ·simp[hgb,ZK];omega
       have hws:=EC x y;unfold ZK at hws;rw[hd] at hws;refine sCC Tryz.func136 (hf:=λhb=>(hws)) (hk:=?_);refine sN tK 2 ?_;refine sE ?_;refine wKd ?_
       try simp only[go_sem,gA,gB,gC]
       refine wD (λh=>?_) (λh=>?_)
       ·have hc:rz x y<0:=by simpa using h
        rw[if_pos hc] at hwa;refine wG tK ?_ w5 k0;refine ZB ⟨j+1,by omega,by omega,ZU ?_ ?_ ?_⟩
        ·simp[go_sem,hwa,cc]
        ·simp[go_sem]
        ·simp[go_sem]
       ·have hc:¬rz x y<0:=by simpa using h
        rw[if_neg hc] at hwa;refine wG tK ?_ w5 k0;refine ZB ⟨j+1,by omega,by omega,ZU ?_ ?_ ?_⟩
        ·simp[go_sem,hwa,cc]
        ·simp[go_sem]
        ·simp[go_sem]
   ·have e:j=L.length:=by simp at h;omega
    subst e;have hwk:cP L L.length=pH L:=rfl;rw[hwk];cases hwb:pH L with
    | none=>
     have hn:bM room (L.length+1) L=none:=by rw[bM,if_pos hge,hwb]
     rw[hn];refine wG tK ?_ (by simp only[go_sem,cc];try exact rfl) (by simp[go_sem,cc]);refine wD (λh=>?_) (λh=>?_)
     ·refine wG tK ?_;refine wT ?_;rfl
     ·exfalso;simp at h
    | some b=>
     have hbl:b<L.length:=fy L L.length b hwb;have hsh2:bM room (L.length+1) L=bM room L.length (L.eraseIdx b):=by rw[bM,if_pos hge,hwb]
     have hel:(L.eraseIdx b).length+1=L.length:=by rw[List.length_eraseIdx,if_pos hbl];omega
     have her:L.eraseIdx b=L.take b++L.drop (b+1):=List.eraseIdx_eq_take_drop_succ L b;have hneg:decide ((b:Int)<0)=false:=decide_eq_false z8;have hwb1:IntKind.i64.wrap ((b:Int)+1)=((b+1:Nat):Int):=by rw[Eng.wrap_small z8 z8];rfl
     have hA1:List.take b (L.map ZK)=(L.take b).map ZK:=by rw[Yh]
     have hB1:List.take (L.length-(b+1)) (List.drop (b+1) (L.map ZK))=(L.drop (b+1)).map ZK:=by rw[←Yn,Wl y7]
     have hlA:(L.take b).length=b:=by rw[Wv];omega
     have hlB:(L.drop (b+1)).length=L.length-(b+1):=YJ;generalize L.take b=A at hA1 hlA her;generalize L.drop (b+1)=B at hB1 hlB her;subst hlA;refine wG tK ?_ (by simp only[go_sem,cc];try exact rfl) (by simp[go_sem,cc]);refine wD (λh=>?_) (λh=>?_)
     ·exfalso;simp at h;omega
     refine wG tK ?_;refine ZW ZM ?_;refine cd 1 [0,2,3,4,5,6,7,8,9,10] [0,0,1,2,3,4,5,6,7,8,9] rfl rfl rfl (λ_ _ _ h=>h) w4 w4 x6 z7 ?_;simp only[go_sem,gA,gB,gC];refine cd 1 [0,2,3,4,5,6,7,8,9] [0,0,1,2,3,4,5,6,7,8] rfl rfl rfl (λ_ _ _ h=>h) w4 w4 x6 z7 ?_;simp only[go_sem,gA,gB,gC];refine ey 1 [0,2,3,4,5,6,7,8] [0,0,1,2,3,4,5,6,7] rfl rfl (λ_ _ _ h=>h) w4 w4 x6 (iD tK rfl rfl rfl u5 z7 (.inl ⟨rfl,rfl⟩) (.inr ⟨_,rfl,_,z7⟩) (by simp[hbl,Nat.le_of_lt hbl]) (by simp[hbl,Nat.le_of_lt hbl])) ?_;simp only[go_sem,gA,gB,gC];refine cd 2 [0,1,3,4,5,6,7] [0,1,0,2,3,4,5,6] rfl rfl rfl (λ_ _ _ h=>h) w4 w4 x6 z7 ?_;simp only[go_sem,gA,gB,gC];refine cd 2 [0,1,3,4,5,6] [0,1,0,2,3,4,5] rfl rfl rfl (λ_ _ _ h=>h) w4 w4 x6 z7 ?_;simp only[go_sem,gA,gB,gC];refine ey 2 [0,1,3,4,5] [0,1,0,2,3,4] rfl rfl (λ_ _ _ h=>h) w4 w4 x6 (Fu rfl z7 z7) ?_;simp only[go_sem,hwb1,gA,gB,gC];refine ey 2 [0,1,3,4] [0,1,0,2,3] rfl rfl (λ_ _ _ h=>h) w4 w4 x6 (iD tK rfl rfl rfl u5 z7 (.inr ⟨_,rfl,_,z7⟩) (.inl ⟨rfl,rfl⟩) (by simp[hbl,Nat.succ_le_of_lt hbl]) (by simp[hbl,Nat.succ_le_of_lt hbl])) ?_;simp only[go_sem,gA,gB,gC];refine De (n:=4) w4 rfl ?_;refine YD (i:=0) w4 rfl rfl (YT tK rfl z7 w3) ?_
     try simp only[go_sem,hA1,hB1,gD,gE,gF,gG,hwb1,gA,gB,gC]
     refine YD (i:=1) w4 rfl rfl (YT tK rfl Qx ?_) ?_
     ·simp[go_sem,hA1,hB1,gD,gE,gF,gG,hwb1,gA,gB,gC];omega
     try simp only[go_sem,hA1,hB1,gD,gE,gF,gG,hwb1,gA,gB,gC]
     refine YD (i:=2) w4 rfl rfl (YT tK rfl Qx ?_) ?_
     ·simp[go_sem,hA1,hB1,gD,gE,gF,gG,hwb1,gA,gB,gC,hlB];omega
     try simp only[go_sem,hA1,hB1,gD,gE,gF,gG,hwb1,gA,gB,gC]
     refine YD (i:=3) w4 rfl rfl (YT tK rfl z7 w3) ?_;refine cT w4 ?_;simp only[go_sem,gA,gB,gC];refine ag (dq 46) ?_;refine ag (dj 95 46) ?_;refine wG tK ?_;have her2:L.eraseIdx A.length=A++B:=her;have hlen2:(A++B).length+1=L.length:=by rw[←her];exact hel
     refine ZB ⟨A++B,⟨by rw[hsh2,her,hlen2],by omega⟩,by omega,ZU ?_ ?_ ?_⟩
     ·simp[go_sem,hlB]
     ·simp[go_sem,hB1]
     ·simp[go_sem]
  ·have hlt:¬(L.length:Int)≥room:=by simpa using h
   have hn:bM room (L.length+1) L=some L:=by rw[bM,if_neg hlt]
   rw[hn];refine wGq tK ?_ ?_
   ·simp;exact ⟨by intro row h;simp at h;subst h;rfl,by omega⟩
   rw[show List.map ZK L++[[AV.int .i64 k.node.fid,.bool k.node.dir,.sl (k.node.data.map ZY),.sl (k.node.entries.map ZE),.int .i64 k.node.version,.bool k.dirty,.int .i64 k.worth,.int .i64 k.last]]=(L++[k]).map ZK by simp[ZK]];refine ZZ 99 rfl (bc _) ?_;simp only[go_sem];refine wT ?_;simp;exact Wl y7
theorem yf (l:List Kept) (room:Int) (k:Kept) (hl:l.length≤90000000):ae Tryz.prog 98 [.sl (l.map ZK),.int .i64 room,.agg (ZK k)] [] (λr _=>r=pS l room k):=by
 have h:=B9 l room k hl;unfold pf at h;unfold pS;cases e:cK l room k with
 | none=>
  rw[e] at h;exact h.iO rfl
 | some L=>
  rw[e] at h;exact h
theorem nw (l:List Kept) (at_:List Node) (hl:l.length≤90000000) (hu:Up at_):ae Tryz.prog 39 [.sl (l.map ZK),.rm (mN (bD at_))] [] (λr _=>r=.sl ((l.filter λk=>!bE at_ k).map ZK)):=by
 have hgf:∀k,bj (mN (bD at_)) k=(aj at_ k).map λn=>AV.agg (ZN n):=λk=>by rw[gV,cy hu]
 refine ZF tK (Tryz.func39) rfl (λC=>?_);simp only[Tryz.ntmps39,Tryz.results39,go_sem];refine wG tK ?_;refine ag (le_empty 40 138 8 z7) ?_;simp only[go_sem];refine ZL (λi:Nat=>i≤l.length) (λi=>l.length-i) (λi=>(5,.osl 40 8 0 ((l.take i).filter λk=>!bE at_ k).length)::(7,.any)::(8,.any)::(9,.any)::(12,.int .i64 i)::u0 13 29 []) (λi=>[(40,.cells 138 8 (((l.take i).filter λk=>!bE at_ k).map ZK))]) 0 z8 ?_ λi hi=>?_
 ·simp only[go_sem];exact ZU w3 w3 w3
 simp only[go_sem];refine wG tK ?_;refine wD (λh=>?_) (λh=>?_)
 ·have hlt:i<l.length:=by simp at h;omega
  have hg:(l.map ZK).getD i []=ZK (l.getD i default):=Fam.getD hlt;have hw:=wi1 (i:=i) z8;have htk:(l.take (i+1)).filter (λk=>!bE at_ k)=(l.take i).filter (λk=>!bE at_ k)++if bE at_ (l.getD i default)=true then [] else [l.getD i default]:=by
   rw[ZT hlt,List.filter_append,List.filter_cons];cases bE at_ (l.getD i default)<;>simp
  have hll:((l.take i).filter λk=>!bE at_ k).length≤i:=by
   have:=Wr (λk=>!bE at_ k) (l.take i);simp only[Wv] at this;omega
  generalize (l.take i).filter (λk=>!bE at_ k)=D at htk hll;generalize l.getD i default=k at hg htk;have hg1:=hgf k.node.fid;have hst:bE at_ k=(!k.dirty&&(!(aj at_ k.node.fid).isSome||!(((aj at_ k.node.fid).getD aw).version==k.node.version))):=by unfold bE;rw[cE]
  have htq:List.take D.length (D.map ZK)=D.map ZK:=Wl y7;cases hff:aj at_ k.node.fid with
  | none=>
   rw[hff] at hg1 hst;simp only[Option.map_none] at hg1;refine wR ?_;refine wNq tK 4 ?_ ?_ z6 z6 x9
   ·simp[hg,ZK,hlt]
   refine wR ?_;refine wN tK 11 ?_ z6 z6 p7 Qm;cases hd:k.dirty with
   | true=>
    rw[hd] at hst;rw[hst,if_neg y7] at htk;refine wG tK ?_ Qd Zj;refine wDT (hb:=y7) (hk:=?_);refine wGq tK ?_ ?_ w5
    ·simp[htq,refs];exact ⟨by intro row h;simp at h;subst h;rfl,by omega⟩
    refine ZB ⟨i+1,by omega,by omega,ZU ?_ ?_ ?_⟩
    ·simp[go_sem,htk]
    ·simp[go_sem,htk,htq,ZK,hd]
    ·simp[go_sem]
   | false=>
    rw[hd] at hst;rw[hst,if_pos y7] at htk;refine wG tK ?_ Qd Zj;refine wDF (hb:=y7) (hk:=?_);refine wG tK ?_ w5 k0;refine ZB ⟨i+1,by omega,by omega,ZU ?_ ?_ ?_⟩
    ·simp[go_sem,htk]
    ·simp[go_sem,htk]
    ·simp[go_sem]
  | some n=>
   rw[hff] at hg1 hst;simp only[Option.map_some] at hg1;refine wR ?_;refine wNq tK 4 ?_ ?_ z6 z6 x9
   ·simp[hg,ZK,hlt]
   refine wR ?_;refine wN tK 11 ?_ z6 z6 u3 n9;cases hd:k.dirty with
   | true=>
    rw[hd] at hst;rw[hst,if_neg y7] at htk;refine wG tK ?_ Qd Zj;refine wDT (hb:=y7) (hk:=?_);refine wGq tK ?_ ?_ w5
    ·simp[htq,refs];exact ⟨by intro row h;simp at h;subst h;rfl,by omega⟩
    refine ZB ⟨i+1,by omega,by omega,ZU ?_ ?_ ?_⟩
    ·simp[go_sem,htk]
    ·simp[go_sem,htk,htq,ZK,hd]
    ·simp[go_sem]
   | false=>
    rw[hd] at hst;cases hv:(n.version==k.node.version) with
    | true=>
     rw[hst,if_neg (by simp[hv])] at htk;refine wG tK ?_ Zc (by simp[go_sem,hd,hv,cond_true,cond_false]);refine wDT (hb:=y7) (hk:=?_);refine wGq tK ?_ ?_ w5
     ·simp[htq,refs];exact ⟨by intro row h;simp at h;subst h;rfl,by omega⟩
     refine ZB ⟨i+1,by omega,by omega,ZU ?_ ?_ ?_⟩
     ·simp[go_sem,htk]
     ·simp[go_sem,htk,htq,ZK,hd]
     ·simp[go_sem]
    | false=>
     rw[hst,if_pos (by simp[hv])] at htk;refine wG tK ?_ Zc (by simp[go_sem,hd,hv,cond_true,cond_false]);refine wDF (hb:=y7) (hk:=?_);refine wG tK ?_ w5 k0;refine ZB ⟨i+1,by omega,by omega,ZU ?_ ?_ ?_⟩
     ·simp[go_sem,htk]
     ·simp[go_sem,htk]
     ·simp[go_sem]
 ·have e:i=l.length:=by simp at h;omega
  subst e;rw[Wo];refine wG tK ?_;refine ZZ 40 rfl (bc _) ?_;simp only[go_sem];refine wT ?_;simp
end La
