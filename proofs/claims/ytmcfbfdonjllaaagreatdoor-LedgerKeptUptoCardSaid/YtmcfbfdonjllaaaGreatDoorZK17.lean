/- Texts of this claim, part 17: RList, Worst, Del, Keep, PKeep, Srt, RCache, PReach, RDo, Add, Add2, RAdd. No condition. -/
import Derived.Test.YtmcfbfdonjllaaaGreatDoorZK16
set_option maxRecDepth 10000
set_option maxHeartbeats 4000000
set_option linter.unusedSimpArgs false
set_option linter.unusedVariables false
namespace La
open Go Go.Eng Go.Proofs
def orI (a b c:Int):Int:=if a≠0 then a else if b≠0 then b else c
theorem HL (a b c:Int):ae Tryz.prog 189 [.sl [[.int .i64 a],[.int .i64 b],[.int .i64 c]]] [] (λr _=>r=.int .i64 (orI a b c)):=by
 refine ZF tK (Tryz.func189) rfl (λC=>?_);simp only[Tryz.ntmps189,Tryz.results189,go_sem];refine wG tK ?_;refine ZL (λi:Nat=>i≤3/\(0<i->a=0)/\(1<i->b=0)/\(2<i->c=0)) (λi=>3-i) (λi=>(5,.any)::(8,.int .i64 i)::u0 9 8 []) (λ_=>[]) 0 z7 ?_ λi hi=>?_
 ·simp only[go_sem];exact ZU w1 w1 w1
 obtain ⟨hi,h1,h2,h3⟩:=hi;simp only[go_sem];refine wG tK ?_;refine wD (λh=>?_) (λh=>?_)
 ·have hlt:i<3:=by simp at h;omega
  have hw:=wi1 (i:=i) z7;obtain ⟨x,hg,hx⟩:∃x,[[AV.int .i64 a],[AV.int .i64 b],[AV.int .i64 c]].getD i []=[AV.int .i64 x]/\(x≠0->orI a b c=x)/\(x=0->(0<i+1->a=0)/\(1<i+1->b=0)/\(2<i+1->c=0)):=by
   rcases (show i=0\/i=1\/i=2 by omega) with rfl | rfl | rfl
   ·exact ⟨a,rfl,λh=>by simp[orI,h],λh=>⟨λ_=>h,λh=>by omega,λh=>by omega⟩⟩
   ·have ha:=h1 z7;exact ⟨b,rfl,λh=>by simp[orI,h,ha],λh=>⟨λ_=>ha,λ_=>h,λh=>by omega⟩⟩
   ·have ha:=h1 z7;have hb:=h2 z7;exact ⟨c,rfl,λh=>by simp[orI,ha,hb],λh=>⟨λ_=>ha,λ_=>hb,λ_=>h⟩⟩
  obtain ⟨hx1,hx2⟩:=hx;refine wGq tK ?_ ?_ x6
  ·simp[hg,hlt]
  refine wD (λh=>?_) (λh=>?_)
  ·refine wG tK ?_;refine wT ?_;rw[hx1 j5]
  ·refine wG tK ?_ w6 k0;refine ZB ⟨i+1,⟨by omega,hx2 j5⟩,by omega,ZU ?_ ?_ ?_⟩
   ·simp[go_sem]
   ·simp[go_sem]
   ·simp[go_sem]
 ·have e:i=3:=by simp at h;omega
  subst e;refine wG tK ?_;refine wT ?_;simp[orI,h1 z7,h2 z7,h3 z7]
def BD (a b:Kept):Int:=orI (jL a.worth b.worth) (jL a.last b.last) (jL a.node.fid b.node.fid)
def ea (l:List Kept):Nat->Option Nat
 | 0=>none
 | i+1=>
  if (l.getD i default).dirty||(l.getD i default).node.fid==0 then ea l i
  else match ea l i with
   | none=>some i
   | some b=>if BD (l.getD i default) (l.getD b default)<0 then some i else some b
theorem gO (l:List Kept):∀(i b:Nat),ea l i=some b->b<i
 | 0,b,h=>by cases h
 | i+1,b,h=>by
  simp only[ea] at h;have ih:=gO l i;split at h
  ·have:=ih b h;omega
  ·split at h
   ·injection h with h;omega
   ·rename_i b' e;have:=ih b' e;split at h
    ·injection h with h;omega
    ·injection h with h;omega
def uz (l:List Kept):Option Nat:=ea l l.length
theorem xg (l:List Kept) (hlen:l.length≤100000000):ae Tryz.prog 158 [.sl (l.map ZK)] [] (λr _=>r=.int .i64 (cf (uz l))):=by
 refine ZF tK (Tryz.func158) rfl (λC=>?_);simp only[Tryz.ntmps158,Tryz.results158,go_sem];refine wG tK ?_;refine ZL (λi:Nat=>i≤l.length) (λi=>l.length-i) (λi=>(3,.int .i64 (cf (ea l i)))::(4,.any)::(5,.any)::(8,.int .i64 i)::u0 9 47 []) (λ_=>[]) 0 z7 ?_ λi hi=>?_
 ·simp only[go_sem];exact ZU (by simp[go_sem];rfl) w1 w1
 simp only[go_sem];refine wG tK ?_;refine wD (λh=>?_) (λh=>?_)
 ·have hlt:i<l.length:=by simp at h;omega
  have hg:(l.map ZK).getD i []=ZK (l.getD i default):=Fam.getD hlt;have hw:=wi1 (i:=i) z7;have hwl:=gO l i;have hstep:ea l (i+1)=if (l.getD i default).dirty||(l.getD i default).node.fid==0 then ea l i else match ea l i with
   | none=>some i
   | some b=>if BD (l.getD i default) (l.getD b default)<0 then some i else some b:=rfl
  generalize l.getD i default=x at hg hstep;refine wGq tK ?_ ?_ Qa
  ·simp[hg,hlt,ZK]
  refine ZZ 5 rfl (rfl) ?_;simp only[go_sem];refine wD (λh=>?_) (λh=>?_)
  ·have hno:ea l (i+1)=ea l i:=by rw[hstep,if_pos j5]
   refine wG tK ?_ w6 k0;refine ZB ⟨i+1,by omega,by omega,ZU ?_ ?_ ?_⟩
   ·simp[go_sem,hno]
   ·simp[go_sem]
   ·simp[go_sem]
  ·have hyes:(x.dirty||x.node.fid==0)=false:=by simpa using h
   rw[hyes] at hstep;simp only[Bool.false_eq_true,if_false] at hstep;cases hb:ea l i with
   | none=>
    rw[hb] at hstep;simp only[cf];refine wG tK ?_;refine ZW ZM ?_;refine ZS rfl ?_;refine sN tK 3 ?_
    iterate 28 refine sS ?_
    refine sSB ?_;refine sN tK 1 ?_;refine sE ?_;refine wKd ?_;refine wDT (hb:=w7) (hk:=?_);refine wG tK ?_ w6 k0;refine ZB ⟨i+1,by omega,by omega,ZU ?_ ?_ ?_⟩
    ·simp[go_sem,hstep,cf]
    ·simp[go_sem]
    ·simp[go_sem]
   | some b=>
    rw[hb] at hstep;have hbl:=hwl b hb;have hgb:(l.map ZK).getD b []=ZK (l.getD b default):=Fam.getD z7;simp only at hstep;generalize l.getD b default=y at hgb hstep;simp only[cf];refine wG tK ?_;refine ZW ZM ?_;refine ZS rfl ?_;refine sN tK 3 ?_;refine dU 23 z6 (λc23 h23=>?_);simp only[go_sem];have hc:c23=false:=by rw[←h23];simp
    subst hc;refine sNq tK 7 ?_ ?_ z6 z6 QZ
    ·simp[hgb,ZK];omega
    refine sCC Tryz.func147 (hf:=λhb=>(gl x.worth y.worth)) (hk:=?_);refine sNq tK 7 ?_ ?_ z6 z6 QZ
    ·simp[hgb,ZK];omega
    refine sCC Tryz.func147 (hf:=λhb=>(gl x.last y.last)) (hk:=?_);refine sNq tK 9 ?_ ?_ z6 z6 QZ
    ·simp[hgb,ZK];omega
    refine sCC Tryz.func147 (hf:=λhb=>(gl x.node.fid y.node.fid)) (hk:=?_);refine sW tK ?_;refine AX rfl z8 z8 w1 z8 w1 ⟨_,Tryz.func189,by kernel_rfl,rfl⟩ (λhb=>(HL _ _ _)) w1 z6 z6 ?_;refine sN tK 2 ?_;refine sE ?_;refine wKd ?_
    by_cases hlt:BD x y<0
    ·refine wDT (hb:=(by simpa[BD] using hlt)) (hk:=?_);refine wG tK ?_ w6 k0;refine ZB ⟨i+1,by omega,by omega,ZU ?_ ?_ ?_⟩
     ·simp[go_sem,hstep,cf,hlt]
     ·simp[go_sem]
     ·simp[go_sem]
    ·refine wDF (hb:=(by simpa[BD] using hlt)) (hk:=?_);refine wG tK ?_ w6 k0;refine ZB ⟨i+1,by omega,by omega,ZU ?_ ?_ ?_⟩
     ·simp[go_sem,hstep,cf,hlt]
     ·simp[go_sem]
     ·simp[go_sem]
 ·have e:i=l.length:=by simp at h;omega
  subst e;refine wG tK ?_;refine wT ?_;rfl
theorem BP (l:List Kept) (i:Nat) (hi:i<l.length):aP (l.map ZK) i (((l.map ZK).drop (i+1)).take (l.length-(i+1)))=(l.eraseIdx i).map ZK++(l.drop (l.length-1)).map ZK:=by
 unfold aP;have e1:((l.map ZK).drop (i+1)).take (l.length-(i+1))=(l.map ZK).drop (i+1):=Zt w7;rw[e1,List.eraseIdx_eq_take_drop_succ,List.map_append,Wt,List.map_drop,List.map_drop]
 congr 2
 simp;omega
theorem zP (A Z:List (List AV)) (z:List AV) (n:Nat) (hA:A.length=n):(aP (A++Z) n [z]).take n=A:=by
 unfold aP;rw[WT,List.take_append,←hA,List.take_append_length];simp
def dK (R:List (List AV)) (G Y N:Nat->Nat):List (Nat×Blk):=[(1000,.cells 138 8 R)]++pins [1000] G Y N
theorem BO (l:List Kept) (i:Nat) (hi:i<l.length) (hlen:l.length≤100000000) (G Y Z:Nat->Nat) :
  ae Tryz.prog 159 [.osl 1000 8 0 l.length,.int .i64 i,.int .i64 ((i+1:Nat):Int)] (dK (l.map ZK) G Y Z) (λr H=>r=.osl 1000 8 0 (l.length-1)/\∀j b,aa (dK ((l.eraseIdx i).map ZK) G Y Z) j=some b->aa H j=some b):=by
 unfold dK;refine ZF tK (Tryz.func159) rfl (λC=>?_);simp only[Tryz.ntmps159,Tryz.results159,go_sem];refine wR ?_;refine wN tK 1 ?_;refine wR ?_;refine wN tK 5 ?_;refine bk rfl (w_ tK rfl rfl (id:=1000) (s:=8) (off:=0) (len:=l.length) (l:=i) (h:=i+1) (m:=l.length) z8 z8 z8 z8 z7 z7 z7 z7 rfl z7) ?_;simp only[go_sem];refine wG tK ?_;refine wD (λh=>?_) (λh=>?_)
 ·simp at h;omega
 refine wG tK ?_;refine Ep 50 (t:=0) (id:=1000) (s:=8) (off:=0) (len:=l.length) z8 z8 z7 z7 z8 (λN hN1 hN2=>?_);simp only[go_sem];refine ZW ZM ?_;refine ZS rfl ?_;refine sN tK 2 ?_;refine yl tK rfl rfl rfl (id:=1000) (s:=8) (len:=l.length) (h:=i) (j:=50) (N:=N) z8 z8 z8 z7 z7 rfl z7 z6 z6 ?_;refine sNq tK 3 ?_ ?_
 ·simp;omega
 refine sE ?_;have hm:i+(l.length-(i+1))=l.length-1:=by omega
 have hE:(l.eraseIdx i).length=l.length-1:=by rw[List.length_eraseIdx,if_pos hi]
 have hO:=BP l i hi;refine ek rfl w8 rfl (rS tK rfl rfl (id:=1000) (s:=8) (i:=i) (j:=i+1) (m:=l.length-(i+1)) (N:=N) (e':=138) (R:=l.map ZK) z8 z8 z8 y9 y9 z7 rfl z7 (qB l) (by rw[←List.map_drop,←Wt];exact tQ _)) rfl ?_;rw[hm,hO];have hR:((l.eraseIdx i).map ZK).length=l.length-1:=by rw[List.length_map,hE]
 have hZl:(l.drop (l.length-1)).length=1:=by simp;omega
 generalize (l.eraseIdx i).map ZK=A at *;generalize (l.drop (l.length-1))=W at *;refine dS tK ?_;refine wKd ?_
 try simp only[go_sem,gA,gB,gC]
 refine wR ?_;refine wN tK 2 ?_;refine ay (Cn 28 z6) ?_;simp only[go_sem];refine wN tK 2 ?_;refine bk rfl (uw tK rfl rfl (id:=1000) (s:=8) (len:=l.length-1) (cap:=N) (l:=l.length-1) (h:=l.length) z8 z8 z8 z7 z7 rfl z7) ?_;simp only[go_sem];refine wGq tK ?_ ?_
 ·simp[hR,hZl];omega
 have h1:l.length-(l.length-1)=1:=by omega
 simp only[go_sem,h1,List.replicate_one];refine ay (Cn 6 z6) ?_;simp only[go_sem];refine ay (nU (id:=1000) (l.length-1) z6) ?_;simp only[go_sem,zP A _ _ (l.length-1) hR];refine wT ?_;refine ⟨rfl,bT ?_ ?_⟩
 ·simp[go_sem]
 ·simp[go_sem]
def df (room:Int):Nat->List Kept->Option (List Kept)
 | 0,l=>some l
 | f+1,l=>if (l.length:Int)≥room then (match uz l with
   | none=>none
   | some i=>df room f (l.eraseIdx i)) else some l
def rO (a b:Int):Int:=if b>a then b else a
def eK (l:List Kept) (room:Int) (k:Kept):Option (List Kept):=match dN l k.node.fid with
 | some i=>some (l.set i { k with worth:=rO k.worth (l.getD i default).worth })
 | none=>(df room (l.length+1) l).map λL=>L++[k]
def zb (l:List Kept) (room:Int) (k:Kept):AV:=match eK l room k with
 | none=>.tup [.sl [],.int .i64 5]
 | some L=>.tup [.sl (L.map ZK),.int .i64 0]
def xL (l:List Kept) (room:Int) (k:Kept):AV:=match eK l room k with
 | none=>.tup [.nils,.int .i64 5]
 | some L=>.tup [.sl (L.map ZK),.int .i64 0]
theorem Ci (l:List Kept) (room:Int) (k:Kept) (hl:SmallK l) (hk:k.node.Small):ae Tryz.prog 112 [.sl (l.map ZK),.int .i64 room,.agg (ZK k)] [] (λr _=>r=xL l room k):=by
 have hlen:=hl.len;have e0:=e_ (M:=[k]) (i:=0) w7;refine ZF tK (Tryz.func112) rfl (λC=>?_);simp only[Tryz.ntmps112,Tryz.results112,go_sem];refine wGq tK ?_ ?_ p7
 ·simp
 refine wCG [] 978 Tryz.func68 (hf:=(iF l hl)) (hk:=?_);refine wGq tK ?_ ?_ p7
 ·simp
 refine ZZ 14 rfl (rfl) ?_;simp only[go_sem];refine wC Tryz.func68 (hf:=(pA [k] (SmallK.one hk))) (hk:=?_);refine wGq tK ?_ ?_ p7
 ·simp[ZK]
 refine wV Tryz.func157 (hf:=(kM l k.node.fid hlen)) (hk:=?_);refine wG tK ?_;unfold xL eK;cases e:dN l k.node.fid with
 | some i=>
  have hi:=nP e;have hg:=e_ hi;simp only[cf];refine wDT (hb:=w7) (hk:=?_);refine wG tK ?_;have hs:=gU l i { k with worth:=rO k.worth (l.getD i default).worth };simp only[ZK] at hs;unfold rO at hs;refine ZW ZM ?_;refine ZS rfl ?_;refine sNq tK 7 ?_ ?_ z6 z6 x6
  ·simp[hg];omega
  refine uj rfl rfl (q:=.i64) (q':=.i64) (u:=k.worth) (v:=(l.getD i default).worth) z8 z8 z6 z6 ?_;refine sN tK 1 ?_;refine sE ?_;refine dS tK ?_;refine wKd ?_
  try simp only[go_sem,gA,gB,gC]
  refine wGq tK ?_ ?_ Qc
  ·simp[hg];omega
  refine ZZ 1000 rfl (bR _) ?_;simp only[go_sem];refine wT ?_;rw[if_pos w7,Zt w7];rfl
 | none=>
  simp only[cf];refine wDF (hb:=w7) (hk:=?_);refine wG tK ?_;refine ZZ 5 rfl (rfl) ?_;simp only[go_sem];refine ZL (λL:List Kept=>L.length≤l.length/\df room (L.length+1) L=df room (l.length+1) l) (λL=>L.length) (λL=>(8,.osl 1000 8 0 L.length)::u0 10 15 (u0 39 13 [])) (λL=>[(1000,.cells 138 8 (L.map ZK))]) l ⟨Zw _,rfl⟩ ?_ λL hL=>?_
  ·simp only[go_sem];exact ZU w1 w1 w1
  obtain ⟨hLl,hLs⟩:=hL;simp only[go_sem];refine wG tK ?_;refine wD (λh=>?_) (λh=>?_)
  ·have hge:(L.length:Int)≥room:=by simpa using h
   rw[df,if_pos hge] at hLs;refine wG tK ?_;refine wV Tryz.func158 (hf:=(xg L z7)) (hk:=?_);cases hw:uz L with
   | none=>
    rw[hw] at hLs;simp only at hLs;simp only[cf];refine wG tK ?_;refine wDT (hb:=w7) (hk:=?_);refine wG tK ?_;refine wT ?_;rw[←hLs];rfl
   | some i=>
    rw[hw] at hLs;simp only at hLs;have hi:i<L.length:=gO L L.length i hw;have hwr:=wi1 (i:=i) z7;have hE:(L.eraseIdx i).length=L.length-1:=by rw[List.length_eraseIdx,if_pos hi]
    simp only[cf];refine wG tK ?_;refine wDF (hb:=w7) (hk:=?_);refine wG tK ?_ Qf (by simp[go_sem,hwr]);have hne:¬L=[]:=λh0=>by rw[h0] at hi;simp at hi
    refine bk rfl (cR rfl z8 w1 ⟨_,Tryz.func159,by kernel_rfl,rfl⟩ [1000] w4 w1 w7 Qd w1 w1 (BO L i hi z7) w5) ?_;refine wG tK ?_;refine ZB ⟨L.eraseIdx i,⟨by omega,?_⟩,by omega,ZU ?_ ?_ ?_⟩
    ·rw[←hLs,hE];congr 1;omega
    ·simp[go_sem,hE]
    ·simp[go_sem]
    ·simp[go_sem]
  ·have hlt:¬(L.length:Int)≥room:=by simpa using h
   rw[df,if_neg hlt] at hLs;refine wGq tK ?_ ?_
   ·simp[rowsOf];omega
   refine ZZ 55 rfl (by rw[List.all_append];first | (rw[bR];rfl) | (rw[←Wt,bR];rfl)) ?_;simp only[go_sem];refine wT ?_;rw[←hLs,Zt w7];simp[ZK]
theorem wc (n:Kept):fA (ZK n)=ZK n:=by
 have h1:ie (n.node.data.map ZY)=n.node.data.map ZY:=by rw[dn,WX];rfl
 have h2:ie (n.node.entries.map ZE)=n.node.entries.map ZE:=by rw[dn,WX];rfl
 simp only[ZK,fA,nrm,h1,h2]
theorem CE (l:List Kept):ie (l.map ZK)=l.map ZK:=by
 rw[dn,WX];exact Wg λk _=>wc k
theorem zd (l:List Kept) (room:Int) (k:Kept) (hl:SmallK l) (hk:k.node.Small):ae Tryz.prog 112 [.sl (l.map ZK),.int .i64 room,.agg (ZK k)] [] (λr _=>r=zb l room k):=by
 refine ae.ie (Ci l room k hl hk) ?_;unfold xL zb;cases eK l room k with
 | none=>rfl
 | some L=>simp only[nrm,fA,CE]
end La
namespace La
open Go Go.Eng
def GD (k:Kept):Bool:=!k.dirty&&!(k.node.fid==0)
structure Stays (l:List Kept) (room:Int) (k:Kept) (X:List Kept):Prop where
 len:(X.length:Int)≤room
 short:X.length≤l.length+1
 has:B5 X k.node.fid=true
 each:∀y,y∈l->B5 X y.node.fid=true\/(GD y=true/\∀z,z∈X->z.node.fid≠k.node.fid->GD z=true->y.worth≤z.worth)
end La
namespace La
open Go Go.Eng Go.Proofs
theorem Gl (a b:Node):ae Tryz.prog 146 [.agg (ZN a),.agg (ZN b)] [] (λr _=>r=.int .i64 (jL a.fid b.fid)):=by
 unfold ZN;refine ZF tK (Tryz.func146) rfl (λC=>?_);simp only[Tryz.ntmps146,Tryz.results146,go_sem];refine wG tK ?_;refine wC Tryz.func147 (hf:=(gl a.fid b.fid)) (hk:=?_);refine wG tK ?_;refine wT ?_;rfl
def UpN (l:List Node):Prop:=∀i,0<i->i<l.length->(l.getD (i-1) default).fid≤(l.getD i default).fid
theorem Af (l:List Node) (hl:UpN l) (hlen:l.length≤100000000):ae Tryz.prog 197 [.sl (l.map ZN),.int .i64 0,.int .i64 l.length,.fn 146 []] [] (λr _=>r=.tup []):=by
 refine ZF tK (Tryz.func197) rfl (λC=>?_);simp only[Tryz.ntmps197,Tryz.results197,go_sem];refine wG tK ?_;refine ZL (λi:Nat=>0<i/\(i≤l.length\/i=1)) (λi=>l.length+1-i) (λi=>(8,.int .i64 i)::(9,.any)::u0 12 41 []) (λ_=>[]) 1 z7 ?_ λi hi=>?_
 ·simp only[go_sem];exact ZU (by simp[go_sem];decide) w1 w1
 obtain ⟨hi0,hi⟩:=hi;simp only[go_sem];refine wG tK ?_;refine wD (λh=>?_) (λh=>?_)
 ·have hlt:i<l.length:=by simp at h;omega
  have hw:=wi1 (i:=i) z7;have hwm:IntKind.i64.wrap ((i:Int)-1)=((i-1:Nat):Int):=by rw[Eng.wrap_small z7 z7];omega
  have hup:=hl i hi0 hlt;have hg:(l.map ZN).getD i []=ZN (l.getD i default):=Fam.getD hlt;have hgm:(l.map ZN).getD (i-1) []=ZN (l.getD (i-1) default):=Fam.getD z7;generalize l.getD i default=x at *;generalize l.getD (i-1) default=y at *;refine wG tK ?_;refine ZL (λ_:Unit=>True) (λ_=>0) (λ_=>u0 18 35 []) (λ_=>[]) () trivial ?_ λ_ _=>?_
  ·simp only[go_sem];exact ZU w1 w1 w1
  simp only[go_sem];refine wG tK ?_;refine ZW ZM ?_;refine ZS rfl ?_;refine sN tK 4 ?_;refine dU 21 z6 (λc21 h21=>?_);simp only[go_sem];have hc:c21=true:=by rw[←h21];simp;omega
  subst hc;refine sNq tK 10 ?_ ?_ z6 z6 (by simp only[go_sem,hg,hgm,hwm,ZN];try exact rfl)
  ·simp[hg,hgm,hwm,ZN,hlt];omega
  refine sCC Tryz.func146 (hf:=λhb=>(Gl x y)) (hk:=?_);refine sN tK 2 ?_;refine sE ?_;refine wKd ?_;refine wDF (hb:=(by rw[tz];simp;exact hup)) (hk:=?_);refine wG tK ?_ w6 k0;refine ZB ⟨i+1,by omega,by omega,ZU ?_ ?_ ?_⟩
  ·simp[go_sem]
  ·simp[go_sem]
  ·simp[go_sem]
 ·refine wG tK ?_;refine fF ⟨_,_,rfl,trivial,.tup [],.inr (.inl rfl),rfl⟩
theorem Hp (l:List Node) (hl:UpN l) (hlen:l.length≤12) (lim:Int):ae Tryz.prog 171 [.sl (l.map ZN),.int .i64 0,.int .i64 l.length,.int .i64 lim,.fn 146 []] [] (λr _=>r=.tup []):=by
 have hw:IntKind.i64.wrap ((l.length:Int)-0)=(l.length:Int):=by rw[Eng.wrap_small z7 z7];omega
 refine ZF tK (Tryz.func171) rfl (λC=>?_);simp only[Tryz.ntmps171,Tryz.results171,go_sem];refine wG tK ?_;refine ZL (λ_:Unit=>True) (λ_=>0) (λ_=>[]) (λ_=>[]) () trivial ?_ λ_ _=>?_
 ·simp only[go_sem];exact ZU w1 w1 w1
 simp only[go_sem];refine wG tK ?_ w6 k0;refine wDT (hb:=y9) (hk:=?_);refine wG tK ?_;refine wC Tryz.func197 (hf:=(Af l hl z7)) (hk:=?_);refine wG tK ?_;refine iX ⟨_,_,rfl,trivial,.tup [],.inr (.inl rfl),rfl⟩
def aR (l:List Kept):List Node:=l.map (·.node)
theorem v_ (l:List Kept) (i:Nat) (h:i<l.length):(aR l).take (i+1)=(aR l).take i++[(l.getD i default).node]:=by
 unfold aR;rw[←Wt,←Wt,List.take_succ_eq_append_getElem h,List.map_append];rw[Zo,Zp h];rfl
end La
namespace La
open Go Go.Eng
theorem MReach.head {m:List (Int×Node)} {k:Int} {n:Node} {e:Entry} {t:Int} (hn:bF m k=some n) (he:e∈n.entries) (h:MReach m e.fid t):MReach m k t:=by
 induction h with
 | refl=>exact .step .refl hn he
 | step _ hn' he' ih=>exact .step ih hn' he'
theorem pj {l:List Node} (hu:Up l) {k t:Int} (h:MReach (qG l) k t):Reach l k t:=by
 induction h with
 | refl=>exact .refl _
 | step _ hn he ih=>
  rw[vM hu] at hn;obtain ⟨h1,h2⟩:=(ZO hu).1 hn;subst h2;exact Reach.tail h1 he ih
theorem iI {l:List Node} (hu:Up l) (t:Int):∀(f:Nat) (k:Int),aS l t f k=some true->MReach (qG l) k t
 | 0,_,h=>by cases h
 | f+1,k,h=>by
  rw[aS] at h;split at h
  ·rename_i e;rw[e];exact .refl
  ·cases e:al l k with
   | none=>rw[e] at h;cases h
   | some n=>
    rw[e] at h;simp only at h;split at h
    ·injection h with h
     obtain ⟨x,hx,hx2⟩:=List.any_eq_true.1 h;rw[Bool.and_eq_true] at hx2;have h3:aS l t f x.fid=some true:=by
      have:=hx2.2;cases h4:aS l t f x.fid with
      | none=>rw[h4] at this;cases this
      | some b=>rw[h4] at this;exact congrArg some this
     exact MReach.head (by rw[vM hu];exact e) hx (iI hu t f x.fid h3)
    ·cases h
open Classical in
theorem Good.within {l:List Node} (h:Good l) (t k:Int):hY l t k=decide (MReach (qG l) k t):=by
 obtain ⟨f,hf⟩:=h.ends t k;obtain ⟨r,hr⟩:=h.cc
 by_cases hm:MReach (qG l) k t
 ·rw[decide_eq_true hm];exact nk h.up hr (pj h.up hm) f _ hf
 ·rw[decide_eq_false hm];cases hb:hY l t k with
  | false=>rfl
  | true=>rw[hb] at hf;exact absurd (iI h.up t f k hf) hm
theorem Good.cB {l:List Node} (h:Good l) (a:Act):kn l a=La.cB l a:=by
 unfold kn La.cB;rw[h.within a.to a.fid]
theorem Good.bZ {l:List Node} (h:Good l) (a:Act) (v:Int):ko l a v=La.bZ l a v:=by
 unfold ko La.bZ;rw[h.cB a]
theorem Good.aQ {l:List Node} (h:Good l) (a:Act) (v:Int):kR l a v=La.aQ l a v:=by
 unfold kR La.aQ;rw[h.bZ a v]
end La
namespace La
open Go Go.Eng Go.Proofs
theorem As (x:Rec) (f:Int):ae Tryz.prog 216 [.agg (ZR x),.rp [.int .i64 f] 0] [] (λr _=>r=.bool (je f x)):=by
 unfold ZR;refine ZF tK (Tryz.func216) rfl (λC=>?_);simp only[Tryz.ntmps216,Tryz.results216,go_sem];cases e1:(x.act.fid==f)<;>cases e2:(x.act.kind==1)<;>cases e3:(x.act.kind==2)
 all_goals refine wG tK ?_ (by simp only[go_sem,e1,e2,e3];try exact rfl) (by simp[go_sem,e1,e2,e3])
 all_goals refine wT ?_
 all_goals simp[je,e1,e2,e3]
theorem EU (l:List Rec) (hl:l.length≤100000000) (f:Int):ae Tryz.prog 182 [.sl (l.map ZR),.int .i64 f] [] (λr _=>r=.int .i64 (cf (l.findIdx? (je f)))):=by
 refine ZF tK (Tryz.func182) rfl (λC=>?_);simp only[Tryz.ntmps182,Tryz.results182,go_sem];refine wG tK ?_;refine ZZ 3 rfl (rfl) ?_;simp only[go_sem];refine wC Tryz.func186 (hf:=(ij l hl ⟨_,Go.Proofs.Tryz.func216,by kernel_rfl,rfl⟩ rfl (λx _=>As x f))) (hk:=?_);refine wG tK ?_;refine wT ?_;rfl
theorem Eb (x r m:Rec):ae Tryz.prog 184 [.agg (ZR x),.rp [.rp (ZR r) 0] 0,.rp [.rp (ZR m) 0] 0] [] (λb _=>b=.bool (bars r.act.fid m.act.dir m.act.name x)):=by
 refine ZF tK (Tryz.func184) rfl (λC=>?_);simp only[Tryz.ntmps184,Tryz.results184,go_sem];refine wGq tK ?_ ?_ x7
 ·simp
 refine ZZ 3 rfl (rfl) ?_;simp only[go_sem];refine ZW ZM ?_;refine ZS rfl ?_;refine sN tK 4 ?_;refine dU 8 z6 (λc8 h8=>?_);simp only[go_sem];refine sN tK 6 ?_;refine sCC Tryz.func155 (hf:=λhb=>(vS x r.act.fid)) (hk:=?_);refine sN tK 1 ?_;refine dU 16 z6 (λc16 h16=>?_);simp only[go_sem];refine sN tK 9 ?_;refine sCC Tryz.func185 (hf:=λhb=>(yw x m.act.dir m.act.name)) (hk:=?_);refine sN tK 2 ?_;refine sE ?_;refine wKd ?_;refine wG tK ?_;refine wT ?_;subst h16 h8;simp only[bars,eG,mi]
def nu (l:List Rec) (r:Rec) (k:Nat):Bool:=
 (l.getD k default).act.dir==r.act.dir&&(l.getD k default).act.name==r.act.name&&!((l.drop (k+1)).any (bars r.act.fid (l.getD k default).act.dir (l.getD k default).act.name))
theorem xp {l:List Rec} {r:Rec} {k:Nat} (hk:l.findIdx? (je r.act.fid)=some k):iW l r=(r.act.kind==4&&nu l r k):=by
 unfold iW nu;rw[hk];simp only[Bool.and_assoc]
theorem xq (l:List Rec) (hl:l.length≤100000000) (r:Rec):ae Tryz.prog 152 [.sl (l.map ZR),.rp (ZR r) 0] [] (λb _=>b=.bool (iW l r)):=by
 refine ZF tK (Tryz.func152) rfl (λC=>?_);simp only[Tryz.ntmps152,Tryz.results152,go_sem];refine wGq tK ?_ ?_ x7
 ·simp
 refine wC Tryz.func182 (hf:=(EU l hl r.act.fid)) (hk:=?_);cases e1:(r.act.kind != 4)
 ·refine wG tK ?_ (by simp only[go_sem,e1,ZR];try exact rfl) (by simp[go_sem,e1,ZR]);refine wD (λh=>?_) (λh=>?_)
  ·refine wG tK ?_;refine wT ?_;have:l.findIdx? (je r.act.fid)=none:=by
    cases e:l.findIdx? (je r.act.fid) with
    | none=>rfl
    | some k=>
     rw[e] at h;have h2:decide ((k:Int)<0)=true:=h;rw[decide_eq_true_eq] at h2;omega
   simp[iW,this]
  ·obtain ⟨k,hk⟩:∃k,l.findIdx? (je r.act.fid)=some k:=by
    cases e:l.findIdx? (je r.act.fid) with
    | none=>rw[e] at h;simp[cf] at h
    | some k=>exact ⟨k,rfl⟩
   have hkl:k<l.length:=(Z4.1 hk).1;have hg:(l.map ZR).getD k []=ZR (l.getD k default):=Fam.getD hkl;rw[xp hk,hk];unfold nu;simp only[cf];generalize l.getD k default=m at hg;refine wGq tK ?_ ?_ v7
   ·simp[hkl]
   have hw:IntKind.i64.wrap ((k:Int)+1)=((k+1:Nat):Int):=by rw[Eng.wrap_small z7 z7];rfl
   have hd:List.drop (k+1) (l.map ZR)=(l.drop (k+1)).map ZR:=List.map_drop.symm;refine ZZ 3 rfl (rfl) ?_;refine ZZ 6 rfl (rfl) ?_;simp only[go_sem];refine ZW ZM ?_;refine ZS rfl ?_;refine sN tK 10 ?_;refine dU 37 z6 (λc37 h37=>?_);simp only[go_sem];refine sN tK 12 ?_;refine dU 49 z6 (λc49 h49=>?_);simp only[go_sem];refine sNq tK 6 ?_ ?_ z6 z6 (by simp only[go_sem,hw,hd];try exact rfl)
   ·simp[go_sem];intro h;exact ⟨h,by omega,by omega,λ_ _=>rfl⟩
   refine sCC Tryz.func183 (hf:=λhb=>(ob (l.drop (k+1)) y9 ⟨_,Go.Proofs.Tryz.func184,by kernel_rfl,rfl⟩ rfl (λx _=>Eb x r m))) (hk:=?_);refine sN tK 3 ?_;refine sE ?_;refine wKd ?_;refine wG tK ?_;refine wT ?_;subst h49 h37;have hk4:(r.act.kind==4)=true:=by simpa using e1
   rw[hk4];simp only[eG,Wr]
 ·refine wG tK ?_ (by simp only[go_sem,e1,ZR];try exact rfl) (by simp[go_sem,e1,ZR]);refine wDT (hb:=(rfl)) (hk:=?_);refine wG tK ?_;refine wT ?_;have hk4:(r.act.kind==4)=false:=by simpa using e1
  unfold iW;split
  ·rfl
  ·rw[hk4];rfl
theorem xT (x r:Rec):ae Tryz.prog 154 [.agg (ZR x),.rp (ZR r) 0] [] (λb _=>b=.bool (x.names r.act.fid)):=by
 refine ZF tK (Tryz.func154) rfl (λC=>?_);simp only[Tryz.ntmps154,Tryz.results154,go_sem];refine wGq tK ?_ ?_ x7
 ·simp
 refine ZZ 2 rfl (rfl) ?_;simp only[go_sem];refine wC Tryz.func155 (hf:=(vS x r.act.fid)) (hk:=?_);refine wG tK ?_;refine wT ?_;rfl
theorem wW (x r:Rec):ae Tryz.prog 156 [.agg (ZR x),.rp (ZR r) 0] [] (λb _=>b=.bool (stored r x)):=by
 refine ZF tK (Tryz.func156) rfl (λC=>?_);simp only[Tryz.ntmps156,Tryz.results156,go_sem];refine wR ?_;refine wN tK 2 ?_ z6 z6 x7 (by simp[go_sem,ZR]);refine wR ?_;refine wN tK 4 ?_;refine aV 7 z6 (λc7 h7=>?_);simp only[go_sem];refine wG tK ?_ x7 (by simp[go_sem,ZR]);refine wT ?_;subst h7;rw[eG];rfl
def np:Option (List Rec)->AV
 | some x=>.tup [.sl (x.map ZR),.int .i64 0]
 | none=>.tup [.nils,.int .i64 5]
theorem GX (l:List Rec) (r:Rec) (hl:SmallL l) (hr:r.act.Small):ae Tryz.prog 110 [.sl (l.map ZR),.agg (ZR r)] [] (λx _=>x=np (eV l r)):=by
 have hlen:=hl.len;refine ZF tK (Tryz.func110) rfl (λC=>?_);simp only[Tryz.ntmps110,Tryz.results110,go_sem];refine wGq tK ?_ ?_ x7
 ·simp
 refine ZZ 3 rfl (rfl) ?_;simp only[go_sem];refine wCG [] 100 Tryz.func69 (hf:=(nV l hl)) (hk:=?_);refine wG tK ?_;refine wV Tryz.func152 (hf:=(xq l hlen r)) (hk:=?_);refine wG tK ?_;refine wD (λh=>?_) (λh=>?_)
 ·refine wG tK ?_;refine wCG [119] 100 Tryz.func153 (hf:=(kp l hlen 119 ⟨_,Go.Proofs.Tryz.func154,by kernel_rfl,rfl⟩ rfl k8 (λx _=>xT x r))) (hk:=?_);refine wG tK ?_;refine ZZ 219 rfl (by rw[List.all_append,eA,Wr];exact gH _ rfl) ?_;simp only[go_sem];refine wT ?_;have hle:=Z5 (λx:Rec=>!x.names r.act.fid) l;simp only[eV,h,if_true,np];generalize (l.filter λx=>!x.names r.act.fid)=d at *;rw[if_pos w7,fE w7]
 ·have hh:iW l r=false:=h;refine wG tK ?_;refine wD (λh=>?_) (λh=>?_)
  ·refine wG tK ?_;refine wCG [119] 100 Tryz.func153 (hf:=(kp l hlen 119 ⟨_,Go.Proofs.Tryz.func156,by kernel_rfl,rfl⟩ rfl k8 (λx _=>wW x r))) (hk:=?_);have hle:=Z5 (λx:Rec=>!stored r x) l;have hadd:eV l r=if (l.filter λx=>!stored r x).length≥20 then none else some ((l.filter λx=>!stored r x)++[r]):=by
    have hk:r.act.kind=3:=eq_of_beq Zc;simp only[eV,hh,Bool.false_eq_true,if_false,gN,hk,if_true]
   rw[hadd];have hsub:∀x,x∈(l.filter λx=>!stored r x)->x.act.Small:=λx hx=>hl.each x (Z0.1 hx).1
   generalize (l.filter λx=>!stored r x)=d at hle hsub;refine wG tK ?_;refine wD (λh=>?_) (λh=>?_)
   ·have hd:d.length≥20:=by have h2:=of_decide_eq_true h;omega
    refine wG tK ?_;refine wT ?_;rw[if_pos hd];rfl
   ·have hd:¬d.length≥20:=by have h2:=of_decide_eq_false h;omega
    refine wGq tK ?_ ?_ x7
    ·simp
    refine ZZ 26 rfl (rfl) ?_;simp only[go_sem];refine wC Tryz.func69 (hf:=(iH [r] ⟨by simp,λx hx=>by rw[List.mem_singleton.1 hx];exact hr⟩)) (hk:=?_);have ht:(d.map ZR++List.replicate (l.length-d.length) [AV.int .i64 0,.int .i64 0,.int .i64 0,.str [],.int .i64 0,.str [],.nils,.int .i64 0,.int .i64 0]).take d.length=d.map ZR:=fE w7;refine wGq tK ?_ ?_ (by simp only[go_sem,ht,ZR];try exact rfl)
    ·simp[rowsOf];omega
    refine ZZ 28 rfl (by rw[List.all_append,eA,Wr];rfl) ?_;simp only[go_sem];refine wG tK ?_;refine wT ?_;rw[if_neg hd];simp only[np,List.map_append,List.map_cons,List.map_nil,ZR];rw[Zt w7]
  ·have hadd:eV l r=if l.length≥20 then none else some (l++[r]):=by
    have hk:¬r.act.kind=3:=by simpa using h
    simp only[eV,hh,Bool.false_eq_true,if_false,gN,hk]
   rw[hadd];refine wG tK ?_;refine wD (λh=>?_) (λh=>?_)
   ·have hd:l.length≥20:=by have h2:=of_decide_eq_true h;omega
    refine wG tK ?_;refine wT ?_;rw[if_pos hd];rfl
   ·have hd:¬l.length≥20:=by have h2:=of_decide_eq_false h;omega
    refine wGq tK ?_ ?_ x7
    ·simp
    refine ZZ 26 rfl (rfl) ?_;simp only[go_sem];refine wC Tryz.func69 (hf:=(iH [r] ⟨by simp,λx hx=>by rw[List.mem_singleton.1 hx];exact hr⟩)) (hk:=?_);refine wGq tK ?_ ?_ x7
    ·simp[rowsOf];omega
    refine ZZ 28 rfl (by rw[List.all_append,eA,Wr];rfl) ?_;simp only[go_sem];refine wG tK ?_;refine wT ?_;rw[if_neg hd];simp only[np,List.map_append,List.map_cons,List.map_nil,ZR];rw[Zt w7]
@[go_sem,simp] theorem GM (s:Nat) (r:List AV) (l:List (List AV)):Eng.rowsOf s (r::l)↔r.length=s/\Eng.rowsOf s l:=by
 unfold Eng.rowsOf;constructor
 ·exact λh=>⟨h r w7,λx hx=>h x (by simp[hx])⟩
 ·rintro ⟨h1,h2⟩ x hx
  rcases List.mem_cons.1 hx with rfl | hx
  ·exact h1
  ·exact h2 x hx
@[go_sem,simp] theorem Hu (s:Nat):Eng.rowsOf s []:=λ_ h=>by simp at h
end La
