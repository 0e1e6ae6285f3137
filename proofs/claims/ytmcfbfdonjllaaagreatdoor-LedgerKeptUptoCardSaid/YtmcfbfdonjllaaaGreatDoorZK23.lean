/- Texts of this claim, part 23: PCAct, HofH, PIns, CSort, RSame, RSameC, WWrong, PPlay, PLedg, PLedg2, PCBack, PLedg3. No condition. -/
import Derived.Test.YtmcfbfdonjllaaaGreatDoorZK22
set_option maxRecDepth 10000
set_option maxHeartbeats 4000000
set_option linter.unusedSimpArgs false
set_option linter.unusedVariables false
namespace La
open Go Go.Eng
theorem gg {l:List Node} (h:Up l) (n:Node) {k:Int} (hk:bn l k=true):bn (aI l n) k=true:=by
 rw[dd] at hk ⊢;rw[si h];split
 ·rfl
 ·exact hk
theorem qT {W:List Node} (hg:Good W) (hr:Ri W) {b:Act} (hk:b.kind=4) (he:d_ W b=0):∃n,n∈cq W b 0/\bB W b n=true:=by
 have hL:cq W b 0=eo (aI W { aM (aN W b.dir) b.name with version:=0 }) b.fid:=by unfold cq;rw[if_pos he]
 unfold d_ at he;split at he
 ·rename_i hnm;obtain ⟨d,hf,hgd⟩:=kh hnm;obtain ⟨hd,hdf⟩:=(ZO hg.up).1 hf;have hent:bJ d b.name=some b.fid:=by
   unfold ee at hnm;split at hnm
   ·rw[hgd] at hnm;cases e:bJ d b.name with
    | none=>rw[e] at hnm;simp at hnm
    | some f=>
     rw[e] at hnm;simp only at hnm;split at hnm
     ·rename_i hff;rw[hff]
     ·simp at hnm
   ·rename_i hne;exact absurd hnm hne
  have hmem:(⟨b.name,b.fid⟩:Entry)∈d.entries:=(YE (hr.eup d hd)).1 hent;obtain ⟨r,hrk⟩:=hg.cc;have hne:d.fid≠b.fid:=λe=>by
   have:=hrk d hd _ hmem;simp only at this;rw[e] at this;omega
  rw[hL,hgd];refine ⟨{ aM d b.name with version:=0 },((ix (bf hg.up _).1 b.fid).2 _).2 ⟨((bf hg.up _).2 _).2 (.inl rfl),hne⟩,?_⟩;have hfd:al W ({ aM d b.name with version:=0 }:Node).fid=some d:=by show al W d.fid=_;rw[hdf];exact hf
  have hent2:decide (d.entries=({ aM d b.name with version:=0 }:Node).entries)=false:=by
   refine decide_eq_false λe=>?_
   have h2:(⟨b.name,b.fid⟩:Entry)∈ct d.entries b.name:=by
    have h3:=hmem;rw[e] at h3;exact h3
   unfold ct at h2;have:=(Z0.1 h2).2;simp at this
  unfold bB;rw[hfd];simp only[dM,hent2,Bool.and_false,Bool.false_and,Bool.not_false]
 ·rename_i hnm;exact absurd he hnm
theorem yi {W:List Node} (hg:Good W) (hr:Ri W) {b:Act} (he:aO W b=0) (hno:∀n,n∈aQ W b 0->bB W b n=false) {k:Int} (hk:bn W k=true):bn (aQ W b 0) k=true:=by
 unfold aO at he;unfold aQ at hno ⊢;have hmk:gv W b=0->bn (dL W b 0) k=true:=λh=>by
  unfold dL;rw[if_pos h];exact gg (bf hg.up _).1 _ (gg hg.up _ hk)
 split
 ·rename_i h1;rw[if_pos h1] at he;exact hmk he
 ·rename_i h1;rw[if_neg h1] at he hno;split
  ·rename_i h2;rw[if_pos h2] at he;exact hmk he
  ·rename_i h2;rw[if_neg h2] at he hno;split
   ·unfold eh;split
    ·exact gg hg.up _ hk
    ·exact hk
   ·rename_i h3;rw[if_neg h3] at he hno;split
    ·rename_i h4;rw[if_pos h4] at he hno;obtain ⟨n,hn,hc⟩:=qT hg hr h4 he;rw[hno n hn] at hc;cases hc
    ·split
     ·unfold bZ;split
      ·split
       ·exact gg hg.up _ hk
       ·exact gg (bf hg.up _).1 _ (gg hg.up _ hk)
      ·exact hk
     ·exact hk
end La
namespace La
open Go Go.Eng Go.Proofs
theorem pd (l:List Hoard) (hlen:l.length≤100000000) {f:FuncId} {caps:List AV} {p:Hoard->Bool} (hcal:ax Tryz.prog f) (hpure:(caps.all AV.aX)=true)
  (hf:∀x,x∈l->ae Tryz.prog f (.agg (ZJ x)::caps) [] (λr _=>r=.bool (p x))) :
  ae Tryz.prog 161 [.sl (l.map ZJ),.fn f caps] [] (λr _=>r=.int .i64 (cf (l.findIdx? p))):=by
 have hcaps:=br hpure;refine ZF tK (Tryz.func161) rfl (λC=>?_);simp only[Tryz.ntmps161,Tryz.results161,go_sem];refine wG tK ?_;refine ZL (λi:Nat=>i≤l.length/\∀x,x∈l.take i->p x=false) (λi=>l.length-i) (λi=>(8,.int .i64 i)::(5,.any)::u0 9 10 []) (λ_=>[]) 0 ⟨by omega,by simp⟩ ?_ λi hi=>?_
 ·simp only[go_sem];exact ZU w1 w1 k9
 obtain ⟨hi,hno⟩:=hi;simp only[go_sem];refine wG tK ?_;refine wD (λh=>?_) (λh=>?_)
 ·have hlt:i<l.length:=by simp at h;omega
  have hn:=hf _ (YG hlt);have hg:(l.map ZJ).getD i []=ZJ (l.getD i default):=Fam.getD hlt;have htk:=ZT hlt;have hgi:l[i]? = some (l.getD i default):=by rw[Zo,Zp hlt];rfl
  generalize l.getD i default=n at hn hg htk hgi;refine wGq tK ?_ ?_ (by simp only[go_sem,hg,ZJ];try exact rfl)
  ·simp[hlt,ZJ]
  refine cM rfl rfl z8 w1 hcal k9 (hn) w1 z6 ?_;refine wG tK ?_;refine wD (λh=>?_) (λh=>?_)
  ·refine wG tK ?_;refine wT ?_;rw[di hgi hno h];rfl
  ·have hw:IntKind.i64.wrap ((i:Int)+1)=(i:Int)+1:=wrap_small z7 z7;refine wG tK ?_ w6 k0;refine ZB ⟨i+1,⟨by omega,?_⟩,by omega,ZU ?_ ?_ ?_⟩
   ·rw[htk];intro x hx
    rcases List.mem_append.1 hx with hx | hx
    ·exact hno x hx
    ·rw[List.mem_singleton.1 hx];exact h
   ·simp[go_sem]
   ·simp[go_sem]
   ·simp[go_sem,hcaps]
 ·have e:i=l.length:=by simp at h;omega
  refine wG tK ?_;refine wT ?_;rw[e,Zy] at hno;rw[Z6.2 hno];rfl
theorem nO (l:List Hoard) (hlen:l.length≤100000000) (id:Nat) {f:FuncId} {caps:List AV} {p:Hoard->Bool} (hcal:ax Tryz.prog f) (hpure:(caps.all AV.aX)=true) (hid:id≠7)
  (hf:∀x,x∈l->ae Tryz.prog f (.agg (ZJ x)::caps) [] (λr _=>r=.bool (p x))) :
  ae Tryz.prog 115 [.osl id 2 0 l.length,.fn f caps] [(id,.cells 118 2 (l.map ZJ))] (λr H=>r=.osl id 2 0 (l.filter λx=>!p x).length /\
   ∀i b,aa [(id,.cells 118 2 ((l.filter λx=>!p x).map ZJ++List.replicate (l.length-(l.filter λx=>!p x).length) [.str [],.int .i64 0]))] i=some b->aa H i=some b):=by
 have hcaps:=br hpure;obtain ⟨q,hv,hq⟩:=ej hpure;refine ZF tK (Tryz.func115) rfl (λC=>?_);simp only[Tryz.ntmps115,Tryz.results115,go_sem];refine wG tK ?_;refine kF rfl rfl z8 w1 QE Qk ⟨_,Tryz.func161,by kernel_rfl,rfl⟩ (pd l hlen hcal hpure hf) w1 z6 ?_;refine wG tK ?_;refine wD (λh=>?_) (λh=>?_)
 ·refine wG tK ?_;refine wT ?_;have hn:l.findIdx? p=none:=by
   cases e:l.findIdx? p with
   | none=>rfl
   | some k=>rw[e] at h;simp[cf] at h
  have hfl:l.filter (λx=>!p x)=l:=WV.2 λx hx=>by
   simp[Z6.1 hn x hx]
  rw[hfl];simp[aa]
 obtain ⟨k,hk⟩:∃k,l.findIdx? p=some k:=by
  cases e:l.findIdx? p with
  | none=>rw[e] at h;simp[cf] at h
  | some k=>exact ⟨k,rfl⟩
 have hkl:k<l.length:=(Z4.1 hk).1;have hsp:=dA hk;rw[hk];have hw:IntKind.i64.wrap ((k:Int)+1)=((k+1:Nat):Int):=by rw[Eng.wrap_small z7 z7];rfl
 simp only[cf];refine wG tK ?_ w6 k0;refine ZL (λs:Nat×List Hoard=>DelInv p l s.1 s.2) (λs=>l.length-s.1) (λs=>(5,.int .i64 (((l.take s.1).filter λx=>!p x).length:Nat))::(6,.int .i64 (s.1:Nat))::(7,.any)::u0 16 20 []) (λs=>[(id,.cells 118 2 (s.2.map ZJ))]) (k+1,l) (DelInv.start hk) ?_ λs hs=>?_
 ·have el:((l.take (k+1)).filter λx=>!p x).length=k:=by rw[hsp];simp;omega
  simp only[go_sem,el];exact ZU w1 w1 k9
 obtain ⟨j,L⟩:=s;have hjl:=hs.le;have hL:=hs.len;have hlt:=hs.lt;simp only at hs hjl hL hlt;simp only[go_sem];refine wG tK ?_;refine wD (λh=>?_) (λh=>?_)
 ·have hj:j<l.length:=by simp at h;omega
  have hn:=hf _ (YG hj);have hg:(L.map ZJ).getD j []=ZJ (l.getD j default):=by rw[Fam.getD z7,hs.get hj]
  have hkeep:=hs.Ch hj;have hskip:=hs.skip hj;have htk:=ZT hj;generalize l.getD j default=n at hn hg hkeep hskip htk;refine wGq tK ?_ ?_ (by simp only[go_sem,hg,ZJ,hid,Ne.symm hid];try exact rfl)
  ·simp[ZJ];omega
  refine cM rfl rfl z8 w1 hcal k9 (hn) w1 z6 ?_;generalize hm:((l.take j).filter λx=>!p x).length=m at hkeep hlt;have hw1:IntKind.i64.wrap ((j:Int)+1)=((j+1:Nat):Int):=by rw[Eng.wrap_small z7 z7];rfl
  have hw2:IntKind.i64.wrap ((m:Int)+1)=((m+1:Nat):Int):=by rw[Eng.wrap_small z7 z7];rfl
  refine wG tK ?_ QC Qx;refine wD (λh=>?_) (λh=>?_)
  ·have hp:p n=false:=by simpa using h
   obtain ⟨hk1,hk2⟩:=hkeep hp;have aB:=na ZJ L m n;simp only[ZJ] at aB;have hgl:(L.map ZJ).getD m []=ZJ (L.getD m default):=Fam.getD z7;simp only[ZJ] at hgl;refine wGq tK ?_ ?_ x8
   ·simp[hid,Ne.symm hid];omega
   refine ZB ⟨(j+1,L.set m n),hk1,by simp only;omega,ZU ?_ ?_ ?_⟩
   ·simp[go_sem,hk2]
   ·simp[go_sem,hid,Ne.symm hid,aB]
   ·simp[go_sem,hcaps,-List.map_set]
  ·have hp:p n=true:=by simpa using h
   refine wG tK ?_ u4 QF;have hsame:((l.take (j+1)).filter λx=>!p x).length=m:=by
    rw[←hm,htk,List.filter_append];simp only[List.filter_cons,hp,Bool.not_true,Bool.false_eq_true,if_false,List.filter_nil,List.append_nil]
   refine ZB ⟨(j+1,L),hskip hp,by simp only;omega,ZU ?_ ?_ ?_⟩
   ·simp[go_sem,hsame,hm]
   ·simp[go_sem,hid,Ne.symm hid]
   ·simp[go_sem,hcaps]
 have e:j=l.length:=by simp at h;omega
 subst e;have hfin:=hs.fin;rw[Zy];generalize hd:(l.filter λx=>!p x)=d at *;have hdl:d.length≤l.length:=by rw[←hd];exact Z5 _ _
 have hcl:=gk ZJ (d:=d) (L:=L) [.str [],.int .i64 0] hfin z7;rw[hL] at hcl;refine wGq tK ?_ ?_ u5
 ·simp only[not_false_eq_true,true_and];omega
 refine wT ?_;simp[aa]
end La
namespace La
open Go Go.Eng
def eqW (w:Int) (l:List Hoard):List Hoard:=l.filter λh=>h.worth==w
theorem py (w:Int) (l m:List Hoard):eqW w (l++m)=eqW w l++eqW w m:=List.filter_append l m
structure Stab (l P:List Hoard):Prop where
 same:∀w,eqW w P=eqW w l
 cc:P.Pairwise λa b=>b.worth≤a.worth
 mem:∀h,h∈P->h∈l
 len:P.length=l.length
theorem Stab.nil:Stab [] []:=⟨λ_=>rfl,List.Pairwise.nil,λ_ h=>h,rfl⟩
theorem Stab.ins {l P Q:List Hoard} {x:Hoard} (h:Stab l (P++Q)) (hP:∀p,p∈P->x.worth≤p.worth) (hQ:∀q,q∈Q->q.worth<x.worth):Stab (l++[x]) (P++x::Q):=by
 refine ⟨λw=>?_,?_,λy hy=>?_,?_⟩
 ·rw[py w l,←h.same w,py w P,py w P]
  show _++eqW w ([x]++Q)=_
  rw[py]
  by_cases e:x.worth=w
  ·have:eqW w Q=[]:=by
    unfold eqW;rw[List.filter_eq_nil_iff];intro q hq;have:=hQ q hq;simp;omega
   rw[this];simp
  ·have:eqW w [x]=[]:=by
    unfold eqW;rw[List.filter_eq_nil_iff];intro q hq;rw[List.mem_singleton.1 hq];simpa using e
   rw[this];simp
 ·have hf:=List.pairwise_append.1 h.cc;refine List.pairwise_append.2 ⟨hf.1,List.pairwise_cons.2 ⟨λq hq=>by have:=hQ q hq;omega,hf.2.1⟩,λp hp y hy=>?_⟩
  rcases List.mem_cons.1 hy with rfl | hy
  ·exact hP p hp
  ·exact hf.2.2 p hp y hy
 ·rcases List.mem_append.1 hy with hy | hy
  ·exact WH _ (h.mem y (WH _ hy))
  ·rcases List.mem_cons.1 hy with rfl | hy
   ·simp
   ·exact WH _ (h.mem y (Zz _ hy))
 ·have:=h.len;simp only[List.length_append,List.length_cons,List.length_nil] at this ⊢;omega
theorem oM:∀(n:Nat) (P:List Hoard),P.Pairwise (λa b=>b.worth≤a.worth)->(∀h,h∈P->1≤h.worth)->bj P n=P.filter λh=>decide (h.worth≤(n:Int))
 | 0,P,_,hm=>by
  unfold bj
  symm
  rw[List.filter_eq_nil_iff];intro h hh;have:=hm h hh;simp;omega
 | n+1,P,hs,hm=>by
  rw[bj,oM n P hs hm];clear hm
  induction P with
  | nil=>rfl
  | cons p r ih=>
   have ih:=ih (List.pairwise_cons.1 hs).2;have hp:=(List.pairwise_cons.1 hs).1;rw[List.filter_cons,List.filter_cons,List.filter_cons]
   by_cases h1:p.worth=((n+1:Nat):Int)
   ·rw[if_pos QO,if_neg y9,if_pos y9,List.cons_append,ih]
   ·rw[if_neg QO]
    by_cases h2:p.worth≤(n:Int)
    ·rw[if_pos Q9,if_pos y9,←ih];have:r.filter (λh=>h.worth==((n+1:Nat):Int))=[]:=by
      rw[List.filter_eq_nil_iff];intro q hq;have:=hp q hq;simp;omega
     rw[this];rfl
    ·rw[if_neg Q9,if_neg y9,ih]
theorem oL {l P:List Hoard} (h:∀w,eqW w P=eqW w l):∀n,bj P n=bj l n
 | 0=>rfl
 | n+1=>by
  unfold bj;rw[oL h n];exact congrArg (·++_) (h _)
theorem Stab.order {l P:List Hoard} (h:Stab l P) (hw:∀x,x∈l->1≤x.worth/\x.worth≤100):P=bj l 100:=by
 rw[←oL h.same 100,oM 100 P h.cc λx hx=>(hw x (h.mem x hx)).1]
 symm
 rw[WV];intro x hx;have:=(hw x (h.mem x hx)).2;simp;omega
end La
namespace La
open Go Go.Eng Go.Proofs
def hoH (l:List Hoard) (id:Nat) (G Y N:Nat->Nat):List (Nat×Blk):=[(id,.cells 118 2 (l.map ZJ))]++pins [id] G Y N
theorem EF (a b:Hoard) (ha:1≤a.worth/\a.worth≤100) (hb:1≤b.worth/\b.worth≤100):ae Tryz.prog 118 [.agg (ZJ a),.agg (ZJ b)] [] (λr _=>r=.int .i64 (b.worth-a.worth)):=by
 have hw:IntKind.i64.wrap (b.worth-a.worth)=b.worth-a.worth:=Eng.wrap_small z7 z7;unfold ZJ;refine ZF tK (Tryz.func118) rfl (λC=>?_);simp only[Tryz.ntmps118,Tryz.results118,go_sem];refine wG tK ?_ w6 k0;refine wT ?_;rfl
def fK (M T:List Hoard):List Hoard:=M++T
def gP (A:List Hoard) (x:Hoard) (T:List Hoard):List Hoard:=A++x::T
theorem vn (A:List Hoard) (x:Hoard) (T:List Hoard):(gP A x T).length=A.length+1+T.length:=by unfold gP;rw[List.length_append,List.length_cons];omega
theorem tO (A:List Hoard) (x:Hoard) (T:List Hoard):((gP A x T).map ZJ).getD A.length []=[.str x.path,.int .i64 x.worth]:=by
 have:((gP A x T).map ZJ).getD A.length []=ZJ ((gP A x T).getD A.length default):=Fam.getD (by rw[vn];omega);rw[this];unfold gP;rw[Zo,Z8 z7,WY];rfl
theorem vp (A:List Hoard) (x y:Hoard) (T:List Hoard):((gP A x T).map ZJ).set A.length [.str y.path,.int .i64 y.worth]=(gP A y T).map ZJ:=by
 show List.set _ _ (ZJ y)=_
 unfold gP;rw[←List.map_set,List.set_append_right _ _ z7,WY];rfl
theorem qu (A:List Hoard) (y x:Hoard) (T:List Hoard):gP (A++[y]) x T=gP A y (x::T):=by unfold gP;simp
theorem B_ (l:List Hoard) (hlen:l.length≤19) (hwo:∀h,h∈l->1≤h.worth/\h.worth≤100) (G Y N:Nat->Nat):ae Tryz.prog 190 [.osl 1000 2 0 l.length,.int .i64 0,.int .i64 l.length,.fn 118 []] (hoH l 1000 G Y N)
  (λr H=>r=.tup []/\Holds (hoH (bj l 100) 1000 G Y N) H):=by
 unfold hoH;refine ZF tK (Tryz.func190) rfl (λC=>?_);simp only[Tryz.ntmps190,Tryz.results190,go_sem];refine wG tK ?_;refine ZL (λq:Nat×List Hoard=>0<q.1/\(q.1≤l.length\/q.1=1)/\Stab (l.take q.1) q.2) (λq=>l.length+1-q.1) (λq=>(8,.int .i64 q.1)::(9,.any)::u0 12 41 []) (λq=>[(1000,.cells 118 2 ((fK q.2 (l.drop q.1)).map ZJ))]) (1,l.take 1) ⟨by simp,by simp,?_⟩ ?_ λq hq=>?_
 ·cases l with
  | nil=>exact Stab.nil
  | cons x r=>exact Stab.ins (P:=[]) (Q:=[]) Stab.nil (λp hp=>by cases hp) (λp hp=>by cases hp)
 ·have e0:fK (l.take 1) (l.drop 1)=l:=Wq 1 l;simp only[go_sem,e0];exact ZU (by simp[go_sem];decide) w1 w1
 obtain ⟨i,M⟩:=q;obtain ⟨hi0,hi,hst⟩:=hq;simp only at hi0 hi hst;simp only[go_sem];refine wG tK ?_;refine wD (λh=>?_) (λh=>?_)
 ·have hlt:i<l.length:=by simp at h;omega
  have hw:=wi1 (i:=i) z7;have hMl:M.length=i:=by rw[hst.len,Z9];omega
  have htk:=ZT hlt;have hdr:fK M (l.drop i)=gP M (l.getD i default) (l.drop (i+1)):=by unfold fK gP;rw[cH hlt]
  have hxw:=hwo _ (YG hlt);have hMw:∀p,p∈M->1≤p.worth/\p.worth≤100:=λp hp=>hwo p (Z3 (hst.mem p hp))
  rw[hdr];have hRl:(l.drop (i+1)).length≤19:=by rw[Wa];omega
  generalize hR:l.drop (i+1)=R at *;generalize l.getD i default=x at *;refine wG tK ?_;refine ZL (λq:List Hoard×List Hoard=>q.1++q.2=M/\∀p,p∈q.2->p.worth<x.worth) (λq=>q.1.length) (λq=>(9,.int .i64 q.1.length)::u0 18 35 []) (λq=>[(1000,.cells 118 2 ((gP q.1 x (fK q.2 R)).map ZJ))]) (M,[]) ⟨by simp,λp hp=>by cases hp⟩ ?_ λq hq=>?_
  ·have e0:fK [] R=R:=rfl;simp only[go_sem,e0];exact ZU (by simp[go_sem,hMl]) w1 w1
  obtain ⟨A,B⟩:=q;obtain ⟨hAB,hB⟩:=hq;simp only at hAB hB;have hAl:A.length≤19:=by have:=congrArg List.length hAB;simp at this;omega
  have hback:(∀p,p∈A->x.worth≤p.worth)->Stab (l.take (i+1)) (A++x::B):=λh=>by rw[htk];rw[←hAB] at hst;exact Stab.ins hst h hB
  have hout:fK (A++x::B) R=gP A x (fK B R):=by unfold fK gP;simp
  have hout2:fK (A++x::B) (l.drop (i+1))=gP A x (fK B R):=by rw[hR];exact hout
  simp only[go_sem];refine wG tK ?_
  rcases List.eq_nil_or_concat A with hA | ⟨A',y,hA⟩
  ·subst hA;refine ZW ZM ?_;refine ZS rfl ?_;refine sN tK 4 ?_;refine dU 21 z6 (λc21 h21=>?_);simp only[go_sem];have hc:c21=false:=by rw[←h21];simp
   subst hc
   iterate 11 refine sS ?_
   refine sSB ?_;refine sN tK 1 ?_;refine sE ?_;refine wKd ?_
   try simp only[go_sem,gA,gB,gC]
   refine wDF (hb:=(rfl)) (hk:=?_);refine wG tK ?_ w6 k0;refine ZB ⟨(i+1,[]++x::B),⟨by simp only;omega,by simp only;omega,hback λp hp=>by cases hp⟩,by simp only;omega,ZU ?_ ?_ ?_⟩
   ·simp[go_sem]
   ·rw[hout2];simp[go_sem]
   ·simp[go_sem]
  ·rw[List.concat_eq_append] at hA;subst hA;have hj:((A'++[y]).length:Int)=((A'.length+1:Nat):Int):=by simp
   have hjn:(A'++[y]).length=A'.length+1:=by simp
   have hwm:IntKind.i64.wrap (((A'.length+1:Nat):Int)-1)=((A'.length:Nat):Int):=by rw[Eng.wrap_small z7 z7];omega
   have hyw:=hMw y (by rw[←hAB];simp);have hcmp:=EF x y hxw hyw;unfold ZJ at hcmp;have hg:=tO (A'++[y]) x (fK B R);rw[hjn] at hg;have hgm:=tO A' y (x::fK B R);rw[←qu] at hgm;have hT:(fK B R).length≤60:=by
    have:=congrArg List.length hAB;unfold fK;simp at this ⊢;omega
   have hAi:A'.length+1<l.length:=by have:=congrArg List.length hAB;simp at this;omega
   have hlen2:=vn (A'++[y]) x (fK B R);have hs1:=vp (A'++[y]) x y (fK B R);rw[hjn] at hlen2 hs1;have hs2:=vp A' y x (y::fK B R);rw[←qu] at hs2;have hgm2:=tO A' y (y::fK B R);rw[←qu] at hgm2;have hnext:gP A' x (fK (y::B) R)=gP A' x (y::fK B R):=rfl;generalize gP (A'++[y]) x (fK B R)=Q1 at *;generalize gP (A'++[y]) y (fK B R)=Q2 at *;rw[hjn];refine ZW ZM ?_;refine ZS rfl ?_;refine sN tK 4 ?_;refine dU 21 z6 (λc21 h21=>?_);simp only[go_sem];have hc:c21=true:=by rw[←h21];simp
   subst hc;refine sNq tK 10 ?_ ?_ z6 z6 (by simp only[go_sem,hg,hgm,hwm,ZJ];try exact rfl)
   ·simp[hg,hgm,hwm,ZJ,hlen2];try omega
   refine sCC Tryz.func118 (hf:=λhb=>(hcmp)) (hk:=?_);refine sN tK 2 ?_;refine sE ?_;refine wKd ?_
   try simp only[go_sem,gA,gB,gC]
   refine wD (λh=>?_) (λh=>?_)
   ·have hyx:y.worth<x.worth:=by simp at h;omega
    refine wG tK ?_;refine ZW ZM ?_;refine jP 2 [0,1,3,4,5,6,7,8,9,10,11,12,13,14,15,16,17] [0,1,0,2,3,4,5,6,7,8,9,10,11,12,13,14,15,16] rfl rfl rfl (λ_ _ _ h=>h) w8 w8 Zg z8 ?_
    try simp only[go_sem,gA,gB,gC]
    refine ZS rfl ?_;refine sNq tK 14 ?_ ?_ z6 z6 (by simp only[go_sem,hg,hgm,hwm];try exact rfl)
    ·simp[hg,hgm,hwm,hlen2];try omega
    refine cY tK rfl rfl z8 z8 z8 u2 z6 ?_ z6 z6 z6 ?_
    ·simp[hg,hgm,hwm,hlen2];try omega
    refine sNq tK 1 ?_ ?_
    ·simp[hg,hgm,hwm,hlen2];try omega
    refine cY tK rfl rfl z8 z8 z8 u2 z6 ?_ z6 z6 z6 ?_
    ·simp[hg,hgm,hwm,hlen2];try omega
    refine sE ?_;refine wKd ?_
    try simp only[go_sem,gA,gB,gC]
    refine wG tK ?_ (by simp only[go_sem,hwm,hg,hgm,hs1,hgm2,hs2];try exact rfl) (by simp[go_sem,hwm,hg,hgm,hs1,hgm2,hs2]);refine ZB ⟨(A',y::B),⟨by rw[←hAB];simp,λp hp=>?_⟩,by simp,ZU ?_ ?_ ?_⟩
    ·rcases List.mem_cons.1 hp with rfl | hp
     ·exact hyx
     ·exact hB p hp
    ·simp[go_sem]
    ·simp[go_sem,hnext]
    ·simp[go_sem]
   ·have hyx:x.worth≤y.worth:=by simp at h;omega
    refine wG tK ?_ w6 k0;refine ZB ⟨(i+1,(A'++[y])++x::B),⟨by simp only;omega,by simp only;omega,hback λp hp=>?_⟩,by simp only;omega,ZU ?_ ?_ ?_⟩
    ·have hf:=hst.cc;rw[←hAB,List.pairwise_append] at hf
     rcases List.mem_append.1 hp with hp | hp
     ·have:=(List.pairwise_append.1 hf.1).2.2 p hp y w7;omega
     ·rw[List.mem_singleton.1 hp];exact hyx
    ·simp[go_sem]
    ·rw[hout2];simp[go_sem]
    ·simp[go_sem]
 ·have e:l.take i=l:=Zt (by simp at h;omega);rw[e] at hst;have hM:=hst.order hwo;have e0:fK M (l.drop i)=bj l 100:=by unfold fK;rw[Wm (by simp at h;omega),List.append_nil,hM]
  rw[e0];refine wG tK ?_;refine fF ⟨_,_,rfl,trivial,.tup [],.inr (.inl rfl),rfl,?_⟩;simp only[pins,List.cons_append,List.nil_append,List.map_cons,List.map_nil]
  repeat' refine ZH ?_ ?_
  all_goals first | exact YH _ | rfl | simp[go_sem]
theorem xF (l:List Hoard) (hne:¬l=[]) (hlen:l.length≤19) (hwo:∀h,h∈l->1≤h.worth/\h.worth≤100) (G Y N:Nat->Nat):ae Tryz.prog 162 [.osl 1000 2 0 l.length,.int .i64 l.length,.fn 118 []] (hoH l 1000 G Y N)
  (λr H=>r=.tup []/\Holds (hoH (bj l 100) 1000 G Y N) H):=by
 have hs:=B_ l hlen hwo;unfold hoH at hs;unfold hoH;refine ZF tK (Tryz.func162) rfl (λC=>?_);simp only[Tryz.ntmps162,Tryz.results162,go_sem];refine wG tK ?_;refine ZL (λ_:Unit=>True) (λ_=>0) (λ_=>u0 11 12 []) (λ_=>[]) () trivial ?_ λ_ _=>?_
 ·simp only[go_sem];exact ZU w1 w1 w1
 simp only[go_sem];refine wG tK ?_;refine wDF (hb:=y9) (hk:=?_);refine wG tK ?_;refine bk rfl (cR rfl z8 w1 ⟨_,Tryz.func190,by kernel_rfl,rfl⟩ [1000] w4 w1 w7 Qd w1 w1 (hs) w5) ?_;refine wG tK ?_;refine ZL (λ_:Unit=>True) (λ_=>0) (λ_=>u0 28 35 []) (λ_=>[]) () trivial ?_ λ_ _=>?_
 ·simp only[go_sem];exact ZU w1 w1 w1
 simp only[go_sem];refine wG tK ?_;refine wDF (hb:=y9) (hk:=?_);refine wG tK ?_;refine fF ⟨_,_,rfl,trivial,.tup [],.inr (.inl rfl),rfl,?_⟩;simp only[pins,List.cons_append,List.nil_append,List.map_cons,List.map_nil]
 repeat' refine ZH ?_ ?_
 all_goals first | exact YH _ | rfl | simp[go_sem]
theorem Ca (l:List Hoard) (hne:¬l=[]) (hlen:l.length≤19) (hwo:∀h,h∈l->1≤h.worth/\h.worth≤100) (G Y N:Nat->Nat):ae Tryz.prog 117 [.osl 1000 2 0 l.length,.fn 118 []] (hoH l 1000 G Y N)
  (λr H=>r=.tup []/\Holds (hoH (bj l 100) 1000 G Y N) H):=by
 have hs:=xF l hne hlen hwo;unfold hoH at hs;unfold hoH;refine ZF tK (Tryz.func117) rfl (λC=>?_);simp only[Tryz.ntmps117,Tryz.results117,go_sem];refine wG tK ?_;refine bk rfl (cR rfl z8 w1 ⟨_,Tryz.func162,by kernel_rfl,rfl⟩ [1000] w4 w1 w7 Qd w1 w1 (hs) w5) ?_;refine wG tK ?_;refine fF ⟨_,_,rfl,trivial,.tup [],.inr (.inl rfl),rfl,?_⟩;simp only[pins,List.cons_append,List.nil_append,List.map_cons,List.map_nil]
 repeat' refine ZH ?_ ?_
 all_goals first | exact YH _ | rfl | simp[go_sem]
theorem Ad:ae Tryz.prog 190 [.sl [],.int .i64 0,.int .i64 0,.fn 118 []] [] (λr _=>r=.tup []):=by
 refine ZF tK (Tryz.func190) rfl (λC=>?_);simp only[Tryz.ntmps190,Tryz.results190,go_sem];refine wG tK ?_;refine ZL (λ_:Unit=>True) (λ_=>0) (λ_=>[]) (λ_=>[]) () trivial ?_ λ_ _=>?_
 ·simp only[go_sem];exact ZU w1 w1 w1
 simp only[go_sem];refine wG tK ?_;refine wDF (hb:=k8) (hk:=?_);refine wG tK ?_;refine fF ⟨_,_,rfl,trivial,.tup [],.inr (.inl rfl),rfl⟩
theorem vm:ae Tryz.prog 162 [.sl [],.int .i64 0,.fn 118 []] [] (λr _=>r=.tup []):=by
 refine ZF tK (Tryz.func162) rfl (λC=>?_);simp only[Tryz.ntmps162,Tryz.results162,go_sem];refine wG tK ?_;refine ZL (λ_:Unit=>True) (λ_=>0) (λ_=>[]) (λ_=>[]) () trivial ?_ λ_ _=>?_
 ·simp only[go_sem];exact ZU w1 w1 w1
 simp only[go_sem];refine wG tK ?_;refine wDF (hb:=k8) (hk:=?_);refine wG tK ?_;refine wC Tryz.func190 (hf:=(Ad)) (hk:=?_);refine wG tK ?_;refine ZL (λ_:Unit=>True) (λ_=>0) (λ_=>[]) (λ_=>[]) () trivial ?_ λ_ _=>?_
 ·simp only[go_sem];exact ZU w1 w1 w1
 simp only[go_sem];refine wG tK ?_;refine wDF (hb:=k8) (hk:=?_);refine wG tK ?_;refine fF ⟨_,_,rfl,trivial,.tup [],.inr (.inl rfl),rfl⟩
theorem Ae:ae Tryz.prog 117 [.sl [],.fn 118 []] [] (λr _=>r=.tup []):=by
 refine ZF tK (Tryz.func117) rfl (λC=>?_);simp only[Tryz.ntmps117,Tryz.results117,go_sem];refine wG tK ?_;refine wC Tryz.func162 (hf:=(vm)) (hk:=?_);refine wG tK ?_;refine fF ⟨_,_,rfl,trivial,.tup [],.inr (.inl rfl),rfl⟩
theorem k_ (d:List Hoard) (hd:d.length≤100000000):ae Tryz.prog 70 [.sl (d.map ZJ)] [] (λr H=>r=.osl 7 2 0 d.length/\∀i b,aa [(7,.cells 118 2 (d.map ZJ))] i=some b->aa H i=some b):=by
 refine ZF tK (Tryz.func70) rfl (λC=>?_);simp only[Tryz.ntmps70,Tryz.results70,go_sem];refine wG tK ?_;refine jN tK rfl rfl rfl j6 j6 (λb hb=>?_);simp only[go_sem];refine wG tK ?_;refine wD (λh=>?_) (λh=>?_)
 ·have hd0:d=[]:=by
   have:=hb h;cases d with
   | nil=>rfl
   | cons x r=>simp at this
  subst hd0;refine wG tK ?_;refine ay (le_empty 7 118 2 z8) ?_;simp only[go_sem];refine iX ⟨_,_,z8,by simp[go_sem],.osl 7 2 0 0,.inr (.inr ⟨rfl,.inr ⟨7,2,0,rfl⟩⟩),?_⟩;simp[go_sem]
 ·refine wGq tK ?_ ?_
  ·simp;omega
  refine wT ?_;simp[go_sem]
theorem Ek (n r:Int):ae Tryz.prog 34 [.int .i64 n,.int .i64 r] [] (λx _=>x=.agg (ZC (lG n r))):=by
 refine ae.ie (X:=.agg [.int .i64 n,.bool false,.int .i64 r,.nils,.nils,.nils,.nils,.int .i64 0,.int .i64 0,.int .i64 0]) ?_ rfl;refine ZF tK (Tryz.func34) rfl (λC=>?_);simp only[Tryz.ntmps34,Tryz.results34,go_sem];refine wG tK ?_;refine wT ?_;rfl
theorem Dp (rooms:List Int) (hr:rooms.length≤100000000):ae Tryz.prog 20 [.sl (rooms.map ZI)] [] (λr _=>r=.int .i64 (bc rooms)):=by
 have hE:bc rooms=if rooms.length<1\/3<rooms.length then 5 else if rooms.all (λn=>decide (3≤n)&&decide (n≤24)) then 0 else 3:=rfl;generalize bc rooms=E at *;refine ZF tK (Tryz.func20) rfl (λC=>?_);simp only[Tryz.ntmps20,Tryz.results20,go_sem];refine wR ?_;refine wN tK 1 ?_;refine wR ?_;refine wN tK 8 ?_;refine aV 12 z6 (λc12 h12=>?_);simp only[go_sem];have hc:c12=true↔(rooms.length<1\/3<rooms.length):=by
  rw[←h12]
  by_cases h1:rooms.length<1
  ·simp[h1];omega
  ·simp[h1];omega
 clear h12;refine wG tK ?_
 by_cases hb:rooms.length<1\/3<rooms.length
 ·rw[if_pos hb] at hE;subst hE;refine wDT (hb:=(hc.2 hb)) (hk:=?_);refine wG tK ?_;refine wT ?_;rfl
 ·rw[if_neg hb] at hE;refine wDF (hb:=(by simpa using λh0=>hb (hc.1 h0))) (hk:=?_);refine wG tK ?_;refine ZL (λi:Nat=>i≤rooms.length/\(rooms.take i).all (λn=>decide (3≤n)&&decide (n≤24))=true) (λi=>rooms.length-i) (λi=>(4,.any)::(15,.int .i64 i)::u0 16 10 []) (λ_=>[]) 0 ⟨by omega,rfl⟩ ?_ λi hi=>?_
  ·simp only[go_sem];exact ZU w1 w1 w1
  obtain ⟨hi,hall⟩:=hi;simp only[go_sem];refine wG tK ?_;refine wD (λh=>?_) (λh=>?_)
  ·have hlt:i<rooms.length:=by simp at h;omega
   have hg:(rooms.map ZI).getD i []=[.int .i64 (rooms.getD i 0)]:=by
    rw[Zo,Zr,Zo,Zp hlt];rfl
   have how':=wi1 (i:=i) z7;have htk:rooms.take (i+1)=rooms.take i++[rooms.getD i 0]:=by
    rw[List.take_add_one,Zo,Zp hlt];rfl
   generalize hn:rooms.getD i 0=n at *;refine wR ?_;refine wNq tK 3 ?_ ?_ z6 z6 x6
   ·simp[hg,hlt]
   refine wR ?_;refine wN tK 6 ?_;refine aV 24 z6 (λc24 h24=>?_);simp only[go_sem];have hc3:c24=true↔¬(3≤n/\n≤24):=by
    rw[←h24]
    by_cases h1:n<3
    ·simp[h1];omega
    ·simp[h1];omega
   clear h24;refine wG tK ?_
   by_cases hok:3≤n/\n≤24
   ·refine wDF (hb:=(by simpa using λh0=>hc3.1 h0 hok)) (hk:=?_);refine wG tK ?_ y7 j8;refine ZB ⟨i+1,⟨by omega,by rw[htk,List.all_append,hall];simp[hok]⟩,by omega,ZU ?_ ?_ ?_⟩
    ·simp[go_sem]
    ·simp[go_sem]
    ·simp[go_sem]
   ·have hE3:E=3:=by
     rw[hE,if_neg];simp only[List.all_eq_true,Bool.and_eq_true,decide_eq_true_eq];intro hx;have:=hx n (by rw[←hn,Zo,Zp hlt];exact WR _);exact hok this
    subst hE3;refine wDT (hb:=(hc3.2 hok)) (hk:=?_);refine wG tK ?_;refine wT ?_;rfl
  ·have e:i=rooms.length:=by simp at h;omega
   subst e;rw[Zy] at hall;rw[if_pos hall] at hE;subst hE;refine wG tK ?_;refine wT ?_;rfl
theorem zG (rooms:List Int) (hr:rooms.length≤100000000):ae Tryz.prog 17 [.sl (rooms.map ZI)] [] (λr _=>r=qM rooms):=by
 have hns:=Fp;unfold ZQ at hns;have hwr:=Dp rooms hr;have hsu:=qL rooms;have hle:=sP rooms;have h0:eS rooms 0=[]:=rfl;have hW:qM rooms=.tup [.agg (bo (if bc rooms=0 then ⟨Hl,eS rooms rooms.length⟩ else zJ)),.int .i64 (bc rooms)]:=rfl;have hE:bc rooms=0->rooms.length≤3:=λh=>by
  unfold bc at h;split at h
  ·cases h
  ·omega
 rw[hW];generalize bc rooms=E at *;generalize eS rooms=P at *;clear hW;refine ZF tK (Tryz.func17) rfl (λC=>?_);simp only[Tryz.ntmps17,Tryz.results17,go_sem];refine wG tK ?_;refine wC Tryz.func20 (hf:=(hwr)) (hk:=?_);refine wG tK ?_
 by_cases hb:E=0
 ·have h3:=hE hb;subst hb;refine wDF (hb:=w7) (hk:=?_);refine wG tK ?_;refine wC Tryz.func33 (hf:=(hns)) (hk:=?_);refine wG tK ?_;refine ay (le_empty 29 47 10 z8) ?_;simp only[go_sem];refine ay (kN 5 ([[.sl ([eT].map ZN),.int .i64 1,.sl [],.osl 29 10 0 0]]) z6 Za) ?_;simp only[go_sem];refine ZL (λi:Nat=>i≤rooms.length) (λi=>rooms.length-i) (λi=>(6,.any)::(7,.any)::(18,.int .i64 i)::u0 19 13 [])
   (λi=>[(5,.cells 35 4 [[.sl ([eT].map ZN),.int .i64 1,.sl [],.osl 29 10 0 (P i).length]]),(29,.cells 47 10 ((P i).map ZC))]) 0 z7 ?_ λi hi=>?_
  ·rw[h0];simp only[go_sem];exact ZU w1 w1 w1
  simp only[go_sem];refine wG tK ?_;refine wD (λh=>?_) (λh=>?_)
  ·have hlt:i<rooms.length:=by simp at h;omega
   have hg:(rooms.map ZI).getD i []=[.int .i64 (rooms.getD i 0)]:=by
    rw[Zo,Zr,Zo,Zp hlt];rfl
   have how':=wi1 (i:=i) z7;have hs1:=hsu i;have hl1:=hle i;generalize hn:rooms.getD i 0=n at *;have hcn:=Ek (i:Int) n;generalize P i=Q at *;have htq:List.take Q.length (Q.map ZC)=Q.map ZC:=Zt w7;unfold ZC at hcn;refine wR ?_;refine wNq tK 5 ?_ ?_ z6 z6 x6
   ·simp[hg,hlt]
   refine ZW ZM ?_;refine ZS rfl ?_;refine sN tK 4 ?_;refine sC Tryz.func34 (hf:=(hcn)) (hk:=?_);refine sW tK ?_;refine sE ?_;refine fT (bK 29 5 z6 k6) ?_;simp only[go_sem];refine dSq tK ?_ ?_
   ·simp[go_sem,rowsOf,htq,refs];exact ⟨by omega,λx _=>nw _ x⟩
   simp only[go_sem];refine dS tK ?_;refine dS tK ?_;refine wKd ?_
   try simp only[go_sem,gA,gB,gC]
   refine wG tK ?_ y7 j8;refine ZB ⟨i+1,by omega,by omega,ZU ?_ ?_ ?_⟩
   ·simp[go_sem]
   ·simp[go_sem,hs1,htq,ZC,lG]
   ·simp[go_sem]
  ·have e:i=rooms.length:=by simp at h;omega
   subst e;have hl1:=hle rooms.length;generalize P rooms.length=Q at *;have htq:List.take Q.length (Q.map ZC)=Q.map ZC:=Zt w7;refine wG tK ?_;refine ZZ 29 rfl (gT _) ?_;simp only[go_sem,htq];refine wT ?_;rfl
 ·refine wDT (hb:=(by simp[hb])) (hk:=?_);refine wG tK ?_;refine ay (bl 2) ?_;simp only[go_sem];refine wT ?_;rw[if_neg hb];rfl
end La
namespace La
open Go Go.Eng
def gz (rooms:List Int) (l:List Step):Int:=if bc rooms≠0 then bc rooms else if 80<l.length then 5 else 0
theorem jv {rooms:List Int} {l:List Step} (h:gz rooms l=0):bc rooms=0/\l.length≤80:=by
 unfold gz at h
 by_cases h1:bc rooms=0
 ·rw[if_neg QO] at h
  by_cases h2:80<l.length
  ·rw[if_pos h2] at h;cases h
  ·exact ⟨h1,by omega⟩
 ·rw[if_pos h1] at h;exact absurd h h1
structure ModF (K:Nat->Prop) (fs fs':List Fate):Prop where
 len:fs'.length=fs.length
 step:∀k,(fs'.getD k default).step=(fs.getD k default).step
 client:∀k,(fs'.getD k default).client=(fs.getD k default).client
 same:∀k,¬K k->fs'.getD k default=fs.getD k default
theorem ModF.refl (K:Nat->Prop) (fs:List Fate):ModF K fs fs:=⟨rfl,λ_=>rfl,λ_=>rfl,λ_ _=>rfl⟩
theorem ModF.trans {K:Nat->Prop} {a b c:List Fate} (h:ModF K a b) (k:ModF K b c):ModF K a c:=⟨k.len.trans h.len,λi=>(k.step i).trans (h.step i),λi=>(k.client i).trans (h.client i),λi hi=>(k.same i hi).trans (h.same i hi)⟩
theorem bS (fs:List Fate) (k:Nat) (f:Fate) (i:Nat):(fs.set k f).getD i default=if i=k/\k<fs.length then f else fs.getD i default:=by
 rw[Zo,Z7]
 by_cases e:k=i
 ·subst e
  by_cases h:k<fs.length
  ·rw[if_pos rfl,if_pos h,if_pos ⟨rfl,h⟩];rfl
  ·rw[if_pos rfl,if_neg h,if_neg (by simp[h]),Zo,List.getElem?_eq_none z7]
 ·rw[if_neg e,if_neg (by intro h;exact e h.1.symm),Zo]
theorem zh {K:Nat->Prop} (fs:List Fate) (k:Nat) (hk:K k) (g:Fate->Fate) (h1:∀f,(g f).step=f.step) (h2:∀f,(g f).client=f.client):ModF K fs (fs.set k (g (fs.getD k default))):=by
 refine ⟨by simp,λi=>?_,λi=>?_,λi hi=>?_⟩
 ·rw[bS];split
  ·rename_i h;rw[h1,h.1]
  ·rfl
 ·rw[bS];split
  ·rename_i h;rw[h2,h.1]
  ·rfl
 ·rw[bS,if_neg];intro h;rw[h.1] at hi;exact hi hk
theorem vP {K:Nat->Prop} (fs:List Fate) (k:Nat) (hk:K k) (w:Int):ModF K fs (dV fs k w):=zh fs k hk (λf=>{ f with whr:=w }) (λ_=>rfl) (λ_=>rfl)
theorem qI {K:Nat->Prop}:∀(l:List Nat) (vs:List Verdict) (fs:List Fate),(∀k,k∈l->K k)->ModF K fs (bI l vs fs)
 | [],_,fs,_=>by unfold bI;exact ModF.refl _ _
 | _::_,[],fs,_=>by unfold bI;exact ModF.refl _ _
 | k::l,v::vs,fs,h=>by
  unfold bI;exact (vP fs k (h k List.mem_cons_self) _).trans (qI l vs _ λi hi=>h i (List.mem_cons_of_mem _ hi))
theorem qJ {K:Nat->Prop} (now:List Rec):∀(l:List Nat) (rs:List Rec) (fs:List Fate),(∀k,k∈l->K k)->ModF K fs (bu now l rs fs)
 | [],_,fs,_=>by unfold bu;exact ModF.refl _ _
 | _::_,[],fs,_=>by unfold bu;exact ModF.refl _ _
 | k::l,r::rs,fs,h=>by
  unfold bu;refine ModF.trans ?_ (qJ now l rs _ λi hi=>h i (List.mem_cons_of_mem _ hi));split
  ·exact ModF.refl _ _
  ·exact vP fs k (h k List.mem_cons_self) _
theorem pB {K:Nat->Prop} (was:Cli) (ks:List Nat) (n:Nat):∀(rs:List Rec) (fs:List Fate),(∀r,r∈rs->K (cr was ks n r.id))->ModF K fs (fz was ks n rs fs)
 | [],fs,_=>ModF.refl _ _
 | r::rs,fs,h=>by
  unfold fz;exact (zh fs _ (h r List.mem_cons_self) (λf=>{ f with kind:=r.act.kind,whr:=2 }) (λ_=>rfl) (λ_=>rfl)).trans (pB was ks n rs _ λq hq=>h q (List.mem_cons_of_mem _ hq))
theorem xV (was:Cli) (ks:List Nat) (n:Nat):∀(rs:List Rec) (fs:List Fate),(rs.map λr=>cr was ks n r.id).Nodup->(∀r,r∈rs->cr was ks n r.id<fs.length)->∀r,r∈rs ->
  ((fz was ks n rs fs).getD (cr was ks n r.id) default).whr=2/\((fz was ks n rs fs).getD (cr was ks n r.id) default).kind=r.act.kind
 | [],_,_,_,r,h=>by cases h
 | q::rs,fs,hn,hl,r,h=>by
  rw[List.map_cons,List.nodup_cons] at hn;unfold fz
  rcases List.mem_cons.1 h with rfl | h
  ·have hm:=pB (K:=λk=>k∈rs.map λr=>cr was ks n r.id) was ks n rs (fs.set (cr was ks n r.id) { fs.getD (cr was ks n r.id) default with kind:=r.act.kind,whr:=2 }) λq hq=>Zv.2 ⟨q,hq,rfl⟩
   rw[hm.same _ hn.1,bS,if_pos ⟨rfl,hl r List.mem_cons_self⟩];exact ⟨rfl,rfl⟩
  ·exact xV was ks n rs _ hn.2 (λx hx=>by rw[WD];exact hl x (List.mem_cons_of_mem _ hx)) r h
theorem my {was:Cli} {ks:List Nat} {n:Nat} {id:Int} (h:was.logged<id):cr was ks n id=n+(id-was.logged-1).toNat:=by
 unfold cr;split
 ·rw[if_pos h]
 ·rfl
theorem kK {was:Cli} (hI:IdI was) {ks:List Nat} (n:Nat) (hl:ks.length=was.log.length) {q:Rec} (hq:q∈was.log):∃i,i<ks.length/\(was.log.getD i default).id=q.id/\cr was ks n q.id=ks.getD i 0:=by
 have hle:=(hI.bnd q hq).2;unfold cr;cases e:was.log.findIdx? λr=>r.id==q.id with
 | none=>
  have:=Z6.1 e q hq;simp at this
 | some i=>
  obtain ⟨h1,h2,_⟩:=Z4.1 e;refine ⟨i,by omega,?_,?_⟩
  ·rw[Zo,Zp h1];simpa using h2
  ·simp only;rw[if_neg z7]
theorem nJ {l:List Nat} {i:Nat} (h:i<l.length):l.getD i 0∈l:=by
 rw[Zo,Zp h];exact WR _
theorem sv {was now:Cli} (hI:IdI was) (hS:LS was now) {ks:List Nat} (n:Nat) (hl:ks.length=was.log.length) {r:Rec} (hr:r∈now.log) :
  (cr was ks n r.id∈ks)\/(n≤cr was ks n r.id/\cr was ks n r.id<n+(now.logged-was.logged).toNat):=by
 rcases hS.from_ r hr with ⟨q,hq,he⟩ | ⟨h1,h2⟩
 ·obtain ⟨i,h3,_,h5⟩:=kK hI n hl hq;rw[←he,h5];exact .inl (nJ h3)
 ·rw[my h1];exact .inr ⟨by omega,by omega⟩
theorem EE {was now:Cli} (hI:IdI was) (hS:LS was now) {ks:List Nat} {n:Nat} (hl:ks.length=was.log.length) (hn:ks.Nodup) (hlt:∀k,k∈ks->k<n) {r q:Rec} (hr:r∈now.log) (hq:q∈now.log) (he:cr was ks n r.id=cr was ks n q.id):r.id=q.id:=by
 rcases hS.from_ r hr with ⟨r',hr',er⟩ | ⟨h1,h2⟩
 ·rcases hS.from_ q hq with ⟨q',hq',eq⟩ | ⟨h3,h4⟩
  ·obtain ⟨i,i1,i2,i3⟩:=kK hI n hl hr';obtain ⟨j,j1,j2,j3⟩:=kK hI n hl hq';rw[←er,←eq,i3,j3] at he;rw[Zo,Zo,Zp i1,Zp j1] at he;have hij:i=j:=(List.getElem_inj (h₀:=i1) (h₁:=j1) hn).1 he;subst hij;rw[←er,←eq,←i2,←j2]
  ·obtain ⟨i,i1,i2,i3⟩:=kK hI n hl hr';have:=hlt _ (nJ i1);rw[←er,i3,my h3] at he;omega
 ·rcases hS.from_ q hq with ⟨q',hq',eq⟩ | ⟨h3,h4⟩
  ·obtain ⟨j,j1,j2,j3⟩:=kK hI n hl hq';have:=hlt _ (nJ j1);rw[←eq,j3,my h1] at he;omega
  ·rw[my h1,my h3] at he;omega
theorem su {was now:Cli} (hI:IdI was) (hS:LS was now) (hJ:IdI now) {ks:List Nat} {n:Nat} (hl:ks.length=was.log.length) (hn:ks.Nodup) (hlt:∀k,k∈ks->k<n):(now.log.map λr=>cr was ks n r.id).Nodup:=by
 have key:∀(l:List Rec),(∀r,r∈l->r∈now.log)->(l.map (·.id)).Pairwise (·<·)->(l.map λr=>cr was ks n r.id).Nodup:=λl=>by
  induction l with
  | nil=>exact λ_ _=>List.Pairwise.nil
  | cons r l ih=>
   intro hm hp;rw[List.map_cons] at hp ⊢;have hp:=List.pairwise_cons.1 hp;rw[List.nodup_cons];refine ⟨λhin=>?_,ih (λq hq=>hm q (List.mem_cons_of_mem _ hq)) hp.2⟩;obtain ⟨q,hq,he⟩:=Zv.1 hin;have h1:=EE hI hS hl hn hlt (hm q (List.mem_cons_of_mem _ hq)) (hm r List.mem_cons_self) he;have h2:=hp.1 q.id (Zv.2 ⟨q,hq,rfl⟩);omega
 exact key now.log (λ_ h=>h) hJ.rise
structure LI (cs:List Cli) (b:Bk):Prop where
 len:b.logs.length=cs.length
 each:∀c,c<cs.length->(b.logs.getD c []).length=(cs.getD c default).log.length
 nod:∀c,c<cs.length->(b.logs.getD c []).Nodup
 at_:∀c,c<cs.length->∀k,k∈b.logs.getD c []->k<b.fates.length/\(b.fates.getD k default).whr=2/\(b.fates.getD k default).client=(c:Int)
structure ExtB (i:Int) (b b':Bk):Prop where
 len:b.fates.length≤b'.fates.length
 step:∀k,k<b.fates.length->(b'.fates.getD k default).step=(b.fates.getD k default).step/\(b'.fates.getD k default).client=(b.fates.getD k default).client
 same:∀k,k<b.fates.length->(b.fates.getD k default).whr≠2->b'.fates.getD k default=b.fates.getD k default
 new:∀k,b.fates.length≤k->k<b'.fates.length->(b'.fates.getD k default).step=i
theorem ExtB.refl (i:Int) (b:Bk):ExtB i b b:=⟨Zw _,λ_ _=>⟨rfl,rfl⟩,λ_ _ _=>rfl,λk h1 h2=>by omega⟩
theorem fm {α:Type} {a b:List α} {d:α} {k:Nat} (h:k<a.length):(a++b).getD k d=a.getD k d:=by
 rw[Zo,WC h,Zo]
theorem eI {α:Type} {a b:List α} {d:α} {k:Nat} (h:a.length≤k):(a++b).getD k d=b.getD (k-a.length) d:=by
 rw[Zo,Z8 h,Zo]
theorem Ar {cs cs':List Cli} {b:Bk} (h:LI cs b) {j:Nat} (hj:j<cs.length) (hc:cs'.length=cs.length) (ho:∀c,c≠j->(cs'.getD c default).log=(cs.getD c default).log) (step:Int)
  (hI:IdI (cs.getD j default)) (hJ:IdI (cs'.getD j default)) (hS:LS (cs.getD j default) (cs'.getD j default)) :
  LI cs' (bm step j (cs.getD j default) (cs'.getD j default) b)/\ExtB step b (bm step j (cs.getD j default) (cs'.getD j default) b):=by
 have hl:=h.each j hj;have hnd:=h.nod j hj;have hat:=h.at_ j hj;have hlt:∀k,k∈b.logs.getD j []->k<b.fates.length:=λk hk=>(hat k hk).1
 have hnod:=su hI hS hJ (n:=b.fates.length) hl hnd hlt;have hwh:=λr hr=>sv (r:=r) hI hS b.fates.length hl hr
 have hother:∀c,c<cs.length->c≠j->∀k,k∈b.logs.getD c []->k∉b.logs.getD j []:=λc hcl hne k hk hk2=>by
  have h1:=(h.at_ c hcl k hk).2.2;have h2:=(hat k hk2).2.2;rw[h1] at h2;omega
 generalize hwas:cs.getD j default=was at *;generalize hnow:cs'.getD j default=now at *;generalize hks:b.logs.getD j []=ks at *;have hmd:=qJ (K:=λk=>k∈ks) now.log ks was.log b.fates λ_ hk=>hk
 have hF1l:(bu now.log ks was.log b.fates++dE step j (now.logged-was.logged).toNat).length=b.fates.length+(now.logged-was.logged).toNat:=by
  rw[List.length_append,hmd.len];simp[dE]
 have hmn:=pB (K:=λk=>k∈ks\/b.fates.length≤k) was ks b.fates.length now.log (bu now.log ks was.log b.fates++dE step j (now.logged-was.logged).toNat) λr hr=>by
  rcases hwh r hr with h1 | h1
  ·exact .inl h1
  ·exact .inr h1.1
 have hnew:∀k,b.fates.length≤k->k<b.fates.length+(now.logged-was.logged).toNat->(bu now.log ks was.log b.fates++dE step j (now.logged-was.logged).toNat).getD k default=⟨step,j,4,4⟩:=λk h1 h2=>by
  rw[eI (by rw[hmd.len];exact h1),hmd.len];unfold dE;rw[Zo,Wi,if_pos z7];rfl
 have hfl:(bm step j was now b).fates.length=b.fates.length+(now.logged-was.logged).toNat:=by
  unfold bm;rw[hks]
  show (fz _ _ _ _ _).length=_
  rw[hmn.len,hF1l]
 have hold:∀k,k<b.fates.length->((bm step j was now b).fates.getD k default).step=(b.fates.getD k default).step/\((bm step j was now b).fates.getD k default).client=(b.fates.getD k default).client/\(k∉ks->(bm step j was now b).fates.getD k default=b.fates.getD k default):=λk hk=>by
  unfold bm;rw[hks];simp only;have e:(bu now.log ks was.log b.fates++dE step j (now.logged-was.logged).toNat).getD k default=(bu now.log ks was.log b.fates).getD k default:=fm (by rw[hmd.len];exact hk);refine ⟨by rw[hmn.step,e,hmd.step],by rw[hmn.client,e,hmd.client],λhn=>?_⟩;rw[hmn.same k (by intro h1;rcases h1 with h1 | h1;exact hn h1;omega),e,hmd.same k hn]
 have hlogs:(bm step j was now b).logs=b.logs.set j (now.log.map λr=>cr was ks b.fates.length r.id):=by unfold bm;rw[hks]
 have aa:∀c,(bm step j was now b).logs.getD c []=if c=j then now.log.map (λr=>cr was ks b.fates.length r.id) else b.logs.getD c []:=λc=>by
  rw[hlogs,Zo,Z7]
  by_cases e:j=c
  ·subst e;rw[if_pos rfl,if_pos (by rw[h.len];exact hj),if_pos rfl];rfl
  ·rw[if_neg e,if_neg (λh=>e h.symm),Zo]
 have hwas':=hwas;refine ⟨⟨by rw[hlogs,WD,h.len,hc],λc hcl=>?_,λc hcl=>?_,λc hcl k hk=>?_⟩,⟨by rw[hfl];omega,λk hk=>⟨(hold k hk).1,(hold k hk).2.1⟩,λk hk hw=>(hold k hk).2.2 λhin=>hw (hat k hin).2.1,λk h1 h2=>?_⟩⟩
 ·rw[aa c]
  by_cases e:c=j
  ·subst e;rw[if_pos rfl,List.length_map,hnow]
  ·rw[if_neg e,ho c e];exact h.each c z7
 ·rw[aa c]
  by_cases e:c=j
  ·rw[if_pos e];exact hnod
  ·rw[if_neg e];exact h.nod c z7
 ·rw[aa c] at hk
  by_cases e:c=j
  ·rw[if_pos e] at hk;obtain ⟨r,hr,rfl⟩:=Zv.1 hk;have hb:cr was ks b.fates.length r.id<b.fates.length+(now.logged-was.logged).toNat:=by
    rcases hwh r hr with h1 | h1
    ·have:=hlt _ h1;omega
    ·exact h1.2
   refine ⟨by rw[hfl];exact hb,?_,?_⟩
   ·have:=(xV was ks b.fates.length now.log (bu now.log ks was.log b.fates++dE step j (now.logged-was.logged).toNat) hnod (λq hq=>by
     rw[hF1l]
     rcases hwh q hq with h1 | h1
     ·have:=hlt _ h1;omega
     ·exact h1.2) r hr).1
    unfold bm;rw[hks];exact this
   ·rw[e]
    rcases hwh r hr with h1 | h1
    ·rw[(hold _ (hlt _ h1)).2.1];exact (hat _ h1).2.2
    ·unfold bm;rw[hks]
     show ((fz was ks b.fates.length now.log (bu now.log ks was.log b.fates++dE step j (now.logged-was.logged).toNat)).getD (cr was ks b.fates.length r.id) default).client=(j:Int)
     rw[hmn.client,hnew _ h1.1 h1.2]
  ·rw[if_neg e] at hk;have hk0:=h.at_ c z7 k hk;have hnk:k∉ks:=by
    intro hin;have h1:=(hat k hin).2.2;rw[hk0.2.2] at h1;omega
   rw[(hold k hk0.1).2.2 hnk,hfl];exact ⟨by omega,hk0.2⟩
 ·rw[hfl] at h2;unfold bm;rw[hks]
  show ((fz was ks b.fates.length now.log (bu now.log ks was.log b.fates++dE step j (now.logged-was.logged).toNat)).getD k default).step=step
  rw[hmn.step,hnew k h1 h2]
theorem gb (t:List Node) (c:Cli):(bp t c).log=c.log:=by unfold bp;split<;>rfl
structure WorC (w:Wor) (x:Step) (j:Nat):Prop where
 len:(aq w x).w.cs.length=w.cs.length
 at_:(aq w x).w.cs.getD j default=bp (aw ⟨w.cs.getD j default,w.s⟩ x).u.s.tree (aw ⟨w.cs.getD j default,w.s⟩ x).u.c
 other:∀c,c<w.cs.length->c≠j->(aq w x).w.cs.getD c default=bp (aw ⟨w.cs.getD j default,w.s⟩ x).u.s.tree (w.cs.getD c default)
theorem pI {w:Wor} {x:Step} (hx:¬(x.client<0\/x.client≥w.cs.length)):WorC w x x.client.toNat:=by
 have hi:x.client.toNat<w.cs.length:=by omega
 have hW:(aq w x).w.cs=(w.cs.set x.client.toNat (aw ⟨w.cs.getD x.client.toNat default,w.s⟩ x).u.c).map (bp (aw ⟨w.cs.getD x.client.toNat default,w.s⟩ x).u.s.tree):=by
  unfold aq;rw[if_neg hx]
 generalize x.client.toNat=j at *;refine ⟨by rw[hW];simp,?_,λc hc hne=>?_⟩
 ·rw[hW,Zo,Zr,Z7,if_pos rfl,if_pos hi];rfl
 ·have e2:w.cs.getD c default=w.cs[c]:=by rw[Zo,Zp hc];rfl
  rw[e2,hW,Zo,Zr,Z7,if_neg (λh=>hne h.symm),Zp hc];rfl
theorem Bv {cs cs':List Cli} {b:Bk} (h:LI cs b) {j:Nat} (hj:j<cs.length) (hc:cs'.length=cs.length) (ho:∀c,c<cs.length->c≠j->(cs'.getD c default).log=(cs.getD c default).log) (hz:(cs'.getD j default).log=[]) (vs:List Verdict) (i:Int) :
  LI cs' (oq j vs b)/\ExtB i b (oq j vs b):=by
 have hat:=h.at_ j hj;have hm:=qI (K:=λk=>k∈b.logs.getD j []) (b.logs.getD j []) vs b.fates λ_ hk=>hk
 have aa:∀c,(oq j vs b).logs.getD c []=if c=j then [] else b.logs.getD c []:=λc=>by
  show (b.logs.set j []).getD c []=_
  rw[Zo,Z7]
  by_cases e:j=c
  ·subst e;rw[if_pos rfl,if_pos (by rw[h.len];exact hj),if_pos rfl];rfl
  ·rw[if_neg e,if_neg (λh=>e h.symm),Zo]
 have hfl:(oq j vs b).fates.length=b.fates.length:=hm.len;refine ⟨⟨by show (b.logs.set j []).length=_;rw[WD,h.len,hc],λc hcl=>?_,λc hcl=>?_,λc hcl k hk=>?_⟩,⟨by rw[hfl];exact Zw _,λk _=>⟨hm.step k,hm.client k⟩,λk hk hw=>hm.same k λhin=>hw (hat k hin).2.1,λk h1 h2=>by rw[hfl] at h2;omega⟩⟩
 ·rw[aa c]
  by_cases e:c=j
  ·rw[if_pos e,e,hz];rfl
  ·rw[if_neg e,ho c z7 e];exact h.each c z7
 ·rw[aa c]
  by_cases e:c=j
  ·rw[if_pos e];exact List.Pairwise.nil
  ·rw[if_neg e];exact h.nod c z7
 ·rw[aa c] at hk
  by_cases e:c=j
  ·rw[if_pos e] at hk;cases hk
  ·rw[if_neg e] at hk;have hk0:=h.at_ c z7 k hk;have hnk:k∉b.logs.getD j []:=by
    intro hin;have h1:=(hat k hin).2.2;rw[hk0.2.2] at h1;omega
   refine ⟨by rw[hfl];exact hk0.1,?_⟩
   show ((bI (b.logs.getD j []) vs b.fates).getD k default).whr=2/\((bI (b.logs.getD j []) vs b.fates).getD k default).client=(c:Int)
   rw[hm.same k hnk];exact hk0.2
theorem B4 {cs cs':List Cli} {b:Bk} (h:LI cs b) (hc:cs'.length=cs.length) (ho:∀c,c<cs.length->(cs'.getD c default).log.length=(cs.getD c default).log.length) (i:Int) (ps:List Past):LI cs' (gq i ps b)/\ExtB i b (gq i ps b):=by
 have hl:∀k,k<b.fates.length->(gq i ps b).fates.getD k default=b.fates.getD k default:=λk hk=>fm hk
 refine ⟨⟨h.len.trans hc.symm,λc hcl=>(h.each c z7).trans (ho c z7).symm,λc hcl=>h.nod c z7,λc hcl k hk=>?_⟩,⟨?_,λk hk=>by rw[hl k hk];exact ⟨rfl,rfl⟩,λk hk _=>hl k hk,λk h1 h2=>?_⟩⟩
 ·have hk0:=h.at_ c z7 k hk;rw[hl k hk0.1];exact ⟨by show k<(b.fates++_).length;rw[List.length_append];omega,hk0.2⟩
 ·show b.fates.length≤(b.fates++_).length
  rw[List.length_append];omega
 ·show ((b.fates++ps.map λp=>(⟨i,p.client,p.act.kind,1⟩:Fate)).getD k default).step=i
  have h2:k<(b.fates++ps.map λp=>(⟨i,p.client,p.act.kind,1⟩:Fate)).length:=h2;rw[List.length_append,List.length_map] at h2;rw[eI h1,Zo,Zr,Zp z7];rfl
theorem tI {B T:Nat} {w:Wor} {b:Bk} (hw:WInv B T w) (hI:WId w) (h:LI w.cs b) (i:Nat) (x:Step):LI (aq w x).w.cs (cx w i x b)/\ExtB i b (cx w i x b):=by
 by_cases hx:x.client<0\/x.client≥w.cs.length
 ·have h1:aq w x=⟨w,cz 6⟩:=by unfold aq;rw[if_pos hx]
  have h2:cx w i x b=b:=by unfold cx;rw[if_pos hx]
  rw[h1,h2];exact ⟨h,ExtB.refl _ _⟩
 ·have hc:=pI hx;have hi:x.client.toNat<w.cs.length:=by omega
  have hJ:=(hI.step x).ids ((aq w x).w.cs.getD x.client.toNat default) (YG (by rw[hc.len];exact hi));have hIj:=hI.ids (w.cs.getD x.client.toNat default) (YG hi);have hu:=hw.at hi;have hlo:∀c,c<w.cs.length->c≠x.client.toNat->((aq w x).w.cs.getD c default).log=(w.cs.getD c default).log:=λc hcl hne=>by rw[hc.other c hcl hne,gb]
  unfold cx;rw[if_neg hx]
  by_cases h8:x.kind=8
  ·rw[if_pos h8];refine Bv h hi hc.len hlo ?_ _ i;rw[hc.at_,gb];unfold aw;simp only[h8];rfl
  ·rw[if_neg h8]
   by_cases ha:(w.cs.getD x.client.toNat default).away=true
   ·rw[if_pos ha];refine Ar h hi hc.len (λc hne=>?_) i hIj hJ ?_
    ·by_cases hcl:c<w.cs.length
     ·exact hlo c hcl hne
     ·rw[Zo,Zo,List.getElem?_eq_none (by rw[hc.len];omega),List.getElem?_eq_none z7]
    ·rw[hc.at_];exact (ur ⟨w.cs.getD x.client.toNat default,w.s⟩ x).trans (qk _ _)
   ·have ha:(w.cs.getD x.client.toNat default).away=false:=by simpa using ha
    rw[if_neg (by rw[ha];simp)];refine B4 h hc.len (λc hcl=>?_) i _
    by_cases e:c=x.client.toNat
    ·subst e;have h0:=(hu.cli.here ha).1;simp only at h0;rw[h0,hc.at_,gb]
     by_cases h7:x.kind=7
     ·unfold aw;simp only[h7]
      show (w.cs.getD x.client.toNat default).log.length=0
      rw[h0];rfl
     ·have hst:=tg ⟨w.cs.getD x.client.toNat default,w.s⟩ ha x h7;rw[((nf hu x).cli.here hst).1]
    ·rw[hlo c hcl e]
structure Kept2 (n:Nat) (b b':Bk):Prop where
 len:b.fates.length≤b'.fates.length
 old:∀k,k<b.fates.length->(b'.fates.getD k default).step=(b.fates.getD k default).step/\(b'.fates.getD k default).client=(b.fates.getD k default).client/\((b.fates.getD k default).whr≠2->b'.fates.getD k default=b.fates.getD k default)
 new:∀k,b.fates.length≤k->k<b'.fates.length->(n:Int)≤(b'.fates.getD k default).step
theorem Kept2.refl (n:Nat) (b:Bk):Kept2 n b b:=⟨Zw _,λ_ _=>⟨rfl,rfl,λ_=>rfl⟩,λk h1 h2=>by omega⟩
theorem Kept2.ext {n i:Nat} {a b c:Bk} (h:Kept2 n a b) (k:ExtB i b c) (hi:n≤i):Kept2 n a c:=by
 have hl:=h.len;have kl:=k.len;refine ⟨by omega,λq hq=>?_,λq h1 h2=>?_⟩
 ·have o:=h.old q hq;have s:=k.step q z7;refine ⟨s.1.trans o.1,s.2.trans o.2.1,λhw=>?_⟩;have e:=o.2.2 hw;rw[k.same q z7 (by rw[e];exact hw),e]
 ·by_cases hq:q<b.fates.length
  ·rw[(k.step q hq).1];exact h.new q h1 hq
  ·rw[k.new q z7 h2];omega
theorem zc:∀(l:List Step) (B T n:Nat) (a:Bk) (g:GotK),WInv B T g.w->WId g.w->LI g.w.cs g.b->n≤g.i->Kept2 n a g.b ->
  Kept2 n a (l.foldl (λg x=>(⟨(aq g.w x).w,cx g.w g.i x g.b,g.i+1⟩:GotK)) g).b
 | [],_,_,_,_,_,_,_,_,_,h=>h
 | x::l,B,T,n,a,g,hw,hI,hL,hn,h=>by
  obtain ⟨h1,h2⟩:=tI hw hI hL g.i x;exact zc l (B+20) (T+300) n a ⟨(aq g.w x).w,cx g.w g.i x g.b,g.i+1⟩ (iR hw x) (hI.step x) h1 (by show n≤g.i+1;omega) (h.ext h2 hn)
structure GoodK (B T:Nat) (g:GotK):Prop where
 w:WInv B T g.w
 ids:WId g.w
 li:LI g.w.cs g.b
theorem tN:∀(l:List Step) {B T:Nat} {g:GotK},GoodK B T g->GoodK (B+20*l.length) (T+300*l.length) (l.foldl (λg x=>(⟨(aq g.w x).w,cx g.w g.i x g.b,g.i+1⟩:GotK)) g)/\(l.foldl (λg x=>(⟨(aq g.w x).w,cx g.w g.i x g.b,g.i+1⟩:GotK)) g).i=g.i+l.length
 | [],_,_,_,h=>⟨h,rfl⟩
 | x::l,B,T,g,h=>by
  have:=tN l (B:=B+20) (T:=T+300) (g:=⟨(aq g.w x).w,cx g.w g.i x g.b,g.i+1⟩) ⟨iR h.w x,h.ids.step x,(tI h.w h.ids h.li g.i x).1⟩;rw[show B+20*(x::l).length=B+20+20*l.length by simp;omega,show T+300*(x::l).length=T+300+300*l.length by simp;omega];refine ⟨this.1,?_⟩;rw[List.foldl_cons,this.2,List.length_cons]
  show g.i+1+l.length=g.i+(l.length+1)
  omega
theorem lC {rooms:List Int} (hr:bc rooms=0):GoodK 0 0 ⟨fJ rooms,⟨[],List.replicate rooms.length []⟩,0⟩:=by
 have hcs:∀c,c∈(fJ rooms).cs->c.log=[]/\IdI c:=λc hc=>by
  unfold fJ eS at hc;obtain ⟨j,_,rfl⟩:=Zv.1 hc;exact ⟨rfl,IdI.new _ _⟩
 have hlen:(fJ rooms).cs.length=rooms.length:=by unfold fJ eS;simp
 have hrep:∀c,(List.replicate rooms.length ([]:List Nat)).getD c []=[]:=λc=>by
  rw[Zo,Wi];split<;>rfl
 refine ⟨zk hr,⟨λc hc=>(hcs c hc).2⟩,⟨by rw[hlen];simp,λc hc=>?_,λc hc=>?_,λc hc k hk=>?_⟩⟩
 ·show ((List.replicate rooms.length ([]:List Nat)).getD c []).length=_
  rw[hrep,(hcs _ (YG hc)).1];rfl
 ·show ((List.replicate rooms.length ([]:List Nat)).getD c []).Nodup
  rw[hrep];exact List.Pairwise.nil
 ·have hk:k∈(List.replicate rooms.length ([]:List Nat)).getD c []:=hk;rw[hrep] at hk;cases hk
theorem Ck {rooms:List Int} (hr:bc rooms=0) (l:List Step) (n:Nat) (hn:n≤l.length):Kept2 n (cI rooms (l.take n)).b (cI rooms l).b:=by
 have h1:=tN (l.take n) (lC hr);have hl:(l.take n).length=n:=by rw[Z9];omega
 have hi:(cI rooms (l.take n)).i=n:=by
  have:=h1.2;rw[hl] at this;unfold cI;rw[this];exact WK _
 have hs:(cI rooms l)=(l.drop n).foldl (λg x=>(⟨(aq g.w x).w,cx g.w g.i x g.b,g.i+1⟩:GotK)) (cI rooms (l.take n)):=by
  unfold cI;rw[←List.foldl_append,Wq]
 rw[hs];exact zc (l.drop n) _ _ n _ (cI rooms (l.take n)) h1.1.w h1.1.ids h1.1.li (by rw[hi];exact Zw _) (Kept2.refl _ _)
theorem pV (vs:List Verdict) (v:Verdict):bC (vs++[v])=bC vs+if v.err=0 then 1 else 0:=by
 unfold bC;rw[List.filter_append,List.length_append]
 by_cases e:v.err=0
 ·rw[if_pos e];simp[e]
 ·rw[if_neg e];simp[e]
theorem xK (t:List Node) (n v:Int) (log:List Rec):(bX t n v log).done.length=bC (bX t n v log).vs:=by
 have key:∀(l:List Rec) (s:JG),s.done.length=bC s.vs->(l.foldl jF s).done.length=bC (l.foldl jF s).vs:=λl=>by
  induction l with
  | nil=>exact λs h=>h
  | cons r l ih=>
   intro s h;refine ih (jF s r) ?_;unfold jF
   by_cases e:ph s.j r=0
   ·rw[if_pos e]
    show (s.done++[_]).length=bC (s.vs++[gy s.j r])
    rw[pV,List.length_append,h,if_pos (show (gy s.j r).err=0 from e)];rfl
   ·rw[if_neg e]
    show s.done.length=bC (s.vs++[gy s.j r])
    rw[pV,h,if_neg (show ¬(gy s.j r).err=0 from e)];rfl
 exact key log _ rfl
theorem oO:∀(l:List Rec) (vs:List Verdict),l.length=vs.length->(bs l vs).length+bC vs=vs.length
 | [],[],_=>rfl
 | [],_::_,h=>by simp at h
 | _::_,[],h=>by simp at h
 | r::l,v::vs,h=>by
  have ih:=oO l vs j5;have hd:bC (v::vs)=bC vs+if v.err=0 then 1 else 0:=by
   unfold bC;rw[List.filter_cons]
   by_cases e:v.err=0
   ·simp[e]
   ·simp[e]
  unfold bs;rw[hd,List.length_cons]
  by_cases e:v.err=0
  ·rw[if_pos e,if_pos e];omega
  ·rw[if_neg e,if_neg e,List.length_cons];omega
structure BackOK (u:U):Prop where
 away:(gR u).c.away=false
 log:(gR u).c.log=[]
 done:bC (aJ u)≤u.c.log.length
 vlen:(aJ u).length=u.c.log.length
 repair:(gR u).c.repair.length=u.c.repair.length+(u.c.log.length-bC (aJ u))
 past:(gR u).s.past.length=u.s.past.length+bC (aJ u)
 clean:∀k,k∈(gR u).c.cache->k.dirty=false
theorem Bx {B T:Nat} {u:U} (h:tq B T u):BackOK u:=by
 have hfit:∀r,r∈u.c.log->ActFit r.act:=λr hr=>(h.cli.logS r hr).fit
 have hvl:(aJ u).length=u.c.log.length:=(JInv.qz h.srv.hist u.c.number u.s.next u.c.log hfit).vlen;have hr:=oO u.c.log (aJ u) hvl.symm;have hd:(bX u.s.tree u.s.next ((u.s.past.length+1:Nat):Int) u.c.log).done.length=bC (aJ u):=xK _ _ _ _;refine ⟨rfl,rfl,by omega,hvl,?_,?_,λk hk=>?_⟩
 ·show (u.c.repair++bs u.c.log (aJ u)).length=_
  rw[List.length_append];omega
 ·show (kD u.s u.c.number u.c.log).past.length=_
  unfold kD;rw[List.length_append,List.length_map,hd]
 ·have hk:k∈(u.c.cache.filter λk=>!k.dirty).filter λk=>!db (jJ u).tree k:=hk
  have:=(Z0.1 (Z0.1 hk).1).2;simpa using this
def cnt (w:Int) (fs:List Fate):Nat:=fs.countP λf=>f.whr==w
theorem pw (w:Int) (a b:List Fate):cnt w (a++b)=cnt w a+cnt w b:=by unfold cnt;rw[List.countP_append]
theorem tA (w:Int):∀(fs:List Fate) (k:Nat) (f:Fate),k<fs.length->cnt w (fs.set k f)+(if (fs.getD k default).whr=w then 1 else 0)=cnt w fs+(if f.whr=w then 1 else 0)
 | [],_,_,h=>by simp at h
 | g::fs,0,f,_=>by
  unfold cnt;rw[List.set_cons_zero,List.countP_cons,List.countP_cons]
  show _+(if g.whr=w then 1 else 0)=_
  by_cases h1:g.whr=w<;>by_cases h2:f.whr=w<;>simp[h1,h2]
 | g::fs,k+1,f,h=>by
  have ih:=tA w fs k f j5;unfold cnt at ih ⊢;rw[List.set_cons_succ,List.countP_cons,List.countP_cons]
  show _+(if (fs.getD k default).whr=w then 1 else 0)=_
  omega
theorem uK:∀(ks:List Nat) (vs:List Verdict) (fs:List Fate),ks.length=vs.length->ks.Nodup->(∀k,k∈ks->k<fs.length/\(fs.getD k default).whr=2) ->
  cnt 1 (bI ks vs fs)=cnt 1 fs+bC vs/\cnt 3 (bI ks vs fs)=cnt 3 fs+(vs.length-bC vs)/\(∀k,k∈ks->((bI ks vs fs).getD k default).whr≠2)/\bC vs≤vs.length
 | [],[],fs,_,_,_=>⟨rfl,rfl,λk h=>QM,Zw _⟩
 | [],_::_,_,h,_,_=>by simp at h
 | _::_,[],_,h,_,_=>by simp at h
 | k::ks,v::vs,fs,hl,hn,hk=>by
  have hn:=List.nodup_cons.1 hn;have hk0:=hk k List.mem_cons_self;have hse:dV fs k (if v.err=0 then 1 else 3)=fs.set k { fs.getD k default with whr:=if v.err=0 then 1 else 3 }:=rfl;have hstep:=λw=>tA w fs k { fs.getD k default with whr:=if v.err=0 then 1 else 3 } hk0.1
  have hlen:(fs.set k { fs.getD k default with whr:=if v.err=0 then 1 else 3 }).length=fs.length:=WD;have hother:∀q,q∈ks->((fs.set k { fs.getD k default with whr:=if v.err=0 then 1 else 3 }).getD q default).whr=2:=λq hq=>by
   rw[bS,if_neg Q7];exact (hk q (List.mem_cons_of_mem _ hq)).2
  have ih:=uK ks vs (fs.set k { fs.getD k default with whr:=if v.err=0 then 1 else 3 }) p8 hn.2 λq hq=>⟨by rw[hlen];exact (hk q (List.mem_cons_of_mem _ hq)).1,hother q hq⟩
  have hd:bC (v::vs)=bC vs+if v.err=0 then 1 else 0:=by
   unfold bC;rw[List.filter_cons]
   by_cases e:v.err=0
   ·simp[e]
   ·simp[e]
  have h1:=hstep 1;have h3:=hstep 3;rw[hk0.2] at h1 h3;have hb:bI (k::ks) (v::vs) fs=bI ks vs (fs.set k { fs.getD k default with whr:=if v.err=0 then 1 else 3 }):=rfl;rw[hb,hd,List.length_cons];obtain ⟨i1,i3,i2,i4⟩:=ih;refine ⟨?_,?_,λq hq=>?_,?_⟩
  ·rw[i1]
   by_cases e:v.err=0
   ·simp[e] at h1 ⊢;omega
   ·simp[e] at h1 ⊢;omega
  ·rw[i3]
   by_cases e:v.err=0
   ·simp[e] at h3 ⊢;omega
   ·simp[e] at h3 ⊢;omega
  ·rcases List.mem_cons.1 hq with rfl | hq
   ·have hm:=qI (K:=λq=>q∈ks) ks vs (fs.set q { fs.getD q default with whr:=if v.err=0 then 1 else 3 }) λ_ h=>h
    rw[hm.same q hn.1,bS,if_pos ⟨rfl,hk0.1⟩]
    show (if v.err=0 then (1:Int) else 3)≠2
    split<;>decide
   ·exact i2 q hq
  ·split<;>omega
end La
