/- Texts of this claim, part 26: RSameC, PCAct, HofH, PIns, CSort, OpnE, LaidG. No condition. -/
import Derived.Test.YtdcmhdkpfllnlaaGreatDoorYC25
import Derived.ChangeArms
import Derived.Test.YtdcmhdkpfllnlaaGreatDoorCards
import Derived.Test.YtdcmhdkpfllnlaaGreatDoorTie
import Derived.Deep.DeepHandedRow
import Derived.Lib.LaidTab
set_option maxRecDepth 10000
set_option maxHeartbeats 4000000
set_option linter.unusedSimpArgs false
set_option linter.unusedVariables false
namespace La
open Go Go.Eng Go.Proofs
theorem Gw (n r:Int):af Tryz.prog 10 [.int .i64 n,.int .i64 r] [] (λx _=>x=.agg (ZC (oR n r))):=by
 refine af.iu (X:=.agg [.int .i64 n,.bool false,.int .i64 r,.nils,.nils,.nils,.nils,.int .i64 0,.int .i64 0,.int .i64 0]) ?_ rfl;refine ZF tK (Tryz.func10) rfl (λC=>?_);simp only[Tryz.ntmps10,Tryz.results10,go_sem];refine wG tK ?_;refine wT ?_;rfl
theorem tx (r:Reply):af Tryz.prog 14 [.agg (aT r),.agg (aT r)] [] (λx _=>x=.bool true):=by
 unfold aT;refine ZF tK (Tryz.func14) rfl (λC=>?_);simp only[Tryz.ntmps14,Tryz.results14,go_sem];refine wG tK ?_ (by simp only[go_sem,beq_self_eq_true,cond_true];try exact rfl) (by simp[go_sem,beq_self_eq_true,cond_true]);refine wT ?_;rfl
theorem rk (c:Cli) (h:SmallC c):af Tryz.prog 9 [.agg (ZC c),.agg (ZC c)] [] (λx _=>x=.bool true):=by
 have h1:=ui c.cache h.cache;have hho:=h.hoards;have h2:=tw c.log c.log h.log.len h.log.len;have h3:=tw c.repair c.repair h.repair.len h.repair.len;rw[decide_eq_true (rfl:c.log=c.log)] at h2;rw[decide_eq_true (rfl:c.repair=c.repair)] at h3;unfold ZC;refine ZF tK (Tryz.func9) rfl (λC=>?_);simp only[Tryz.ntmps9,Tryz.results9,go_sem];refine wR ?_;refine wN tK 3 ?_;refine wR ?_;simp only[go_sem,List.append_eq,List.cons_append,List.nil_append,List.toList_toArray];refine wN tK 6 ?_ z6 z6 j8 x9;refine wN tK 7 ?_ z6 z6 j8 x9;refine wN tK 7 ?_ z6 z6 j8 x9;refine wN tK 7 ?_ z6 z6 j8 x9;refine wN tK 7 ?_ z6 z6 j8 x9;refine wN tK 7 ?_ z6 z6 j8 x9;refine wN tK 4 ?_ z6 z6 j8 x9;refine wCC Tryz.func23 (hf:=λhb=>(h1)) (hk:=?_);refine wN tK 3 ?_ z6 z6 QN Qc;refine wN tK 4 ?_ z6 z6 j8 x9;refine wCC Tryz.func24 (hf:=λhb=>(h2)) (hk:=?_);refine wN tK 3 ?_ z6 z6 QN Qc;refine wN tK 4 ?_ z6 z6 j8 x9;refine wCC Tryz.func24 (hf:=λhb=>(h3)) (hk:=?_);refine wN tK 3 ?_ z6 z6 QN Qc;refine wN tK 8 ?_ z6 z6 j8 x9;refine wG tK ?_;refine wDF (hb:=(rfl)) (hk:=?_);refine wG tK ?_;refine ZL (λi:Nat=>i≤c.hoards.length) (λi=>c.hoards.length-i) (λi=>(82,.int .i64 i)::(5,.any)::u0 83 14 []) (λ_=>[]) 0 z8 ?_ λi hi=>?_
 ·simp only[go_sem];exact ZU w3 w3 w3
 simp only[go_sem];refine wG tK ?_;refine wD (λh=>?_) (λh=>?_)
 ·have hlt:i<c.hoards.length:=by simp at h;omega
  have hg:(c.hoards.map ZJ).getD i []=ZJ (c.hoards.getD i default):=Fam.getD hlt;have hw:=wi1 (i:=i) z8;generalize c.hoards.getD i default=x at hg;refine wG tK ?_;refine ZW ZM ?_;refine ZS rfl ?_;refine sNq tK 10 ?_ ?_ z6 z6 Qa
  ·simp[hg,ZJ,hlt]
  refine sE ?_;refine eu rfl w4 rfl (tI tK rfl (tys:=[9,3]) w4 z7 z7 z6 Qi) rfl ?_;refine wKd ?_;simp only[go_sem];refine wG tK ?_;refine wDF (hb:=y8) (hk:=?_);refine wG tK ?_ w5 k7;refine ZB ⟨i+1,by omega,by omega,ZU ?_ ?_ ?_⟩
  ·simp[go_sem];exact hw
  ·simp[go_sem]
  ·simp[go_sem]
 ·refine wG tK ?_;refine wT ?_;rfl
end La
namespace La
open Go Go.Eng
theorem iW {l:List Node} (h:Up l) (n:Node) {k:Int} (hk:bg l k=true):bg (aD l n) k=true:=by
 rw[cL] at hk ⊢;rw[kd h];split
 ·rfl
 ·exact hk
theorem tj {W:List Node} (hg:Good W) (hr:Ri W) {b:Act} (hk:b.kind=4) (he:cN W b=0):∃n,n∈cO W b 0/\aJ W b n=true:=by
 have hL:cO W b 0=eQ (aD W { aC (ar W b.dir) b.name with version:=0 }) b.fid:=by unfold cO;rw[if_pos he]
 unfold cN at he;split at he
 ·rename_i hnm;obtain ⟨d,hf,hgd⟩:=mq hnm;obtain ⟨hd,hdf⟩:=(ZO hg.up).1 hf;have hent:av d b.name=some b.fid:=by
   unfold bC at hnm;split at hnm
   ·rw[hgd] at hnm;cases e:av d b.name with
    | none=>rw[e] at hnm;simp at hnm
    | some f=>
     rw[e] at hnm;simp only at hnm;split at hnm
     ·rename_i hff;rw[hff]
     ·simp at hnm
   ·rename_i hne;exact absurd hnm hne
  have hmem:(⟨b.name,b.fid⟩:Entry)∈d.entries:=(YE (hr.eup d hd)).1 hent;obtain ⟨r,hrk⟩:=hg.dc;have hne:d.fid≠b.fid:=λe=>by
   have:=hrk d hd _ hmem;simp only at this;rw[e] at this;omega
  rw[hL,hgd];refine ⟨{ aC d b.name with version:=0 },((gX (bn hg.up _).1 b.fid).2 _).2 ⟨((bn hg.up _).2 _).2 (.inl rfl),hne⟩,?_⟩;have hfd:ak W ({ aC d b.name with version:=0 }:Node).fid=some d:=by show ak W d.fid=_;rw[hdf];exact hf
  have hent2:decide (d.entries=({ aC d b.name with version:=0 }:Node).entries)=false:=by
   refine decide_eq_false λe=>?_
   have h2:(⟨b.name,b.fid⟩:Entry)∈de d.entries b.name:=by
    have h3:=hmem;rw[e] at h3;exact h3
   unfold de at h2;have:=(W9.1 h2).2;simp at this
  unfold aJ;rw[hfd];simp only[cg,hent2,Bool.and_false,Bool.false_and,Bool.not_false]
 ·rename_i hnm;exact absurd he hnm
theorem A6 {W:List Node} (hg:Good W) (hr:Ri W) {b:Act} (he:aH W b=0) (hno:∀n,n∈aN W b 0->aJ W b n=false) {k:Int} (hk:bg W k=true):bg (aN W b 0) k=true:=by
 unfold aH at he;unfold aN at hno ⊢;have hmk:cQ W b=0->bg (dQ W b 0) k=true:=λh=>by
  unfold dQ;rw[if_pos h];exact iW (bn hg.up _).1 _ (iW hg.up _ hk)
 split
 ·rename_i h1;rw[if_pos h1] at he;exact hmk he
 ·rename_i h1;rw[if_neg h1] at he hno;split
  ·rename_i h2;rw[if_pos h2] at he;exact hmk he
  ·rename_i h2;rw[if_neg h2] at he hno;split
   ·unfold dg;split
    ·exact iW hg.up _ hk
    ·exact hk
   ·rename_i h3;rw[if_neg h3] at he hno;split
    ·rename_i h4;rw[if_pos h4] at he hno;obtain ⟨n,hn,hc⟩:=tj hg hr h4 he;rw[hno n hn] at hc;cases hc
    ·split
     ·unfold db;split
      ·split
       ·exact iW hg.up _ hk
       ·exact iW (bn hg.up _).1 _ (iW hg.up _ hk)
      ·exact hk
     ·exact hk
end La
namespace La
open Go Go.Eng Go.Proofs
theorem q_ (l:List Hoard) (hlen:l.length≤100000000) {f:FuncId} {caps:List AV} {p:Hoard->Bool} (hcal:aP Tryz.prog f) (hpure:(caps.all AV.bc)=true)
  (hf:∀x,x∈l->af Tryz.prog f (.agg (ZJ x)::caps) [] (λr _=>r=.bool (p x))) :
  af Tryz.prog 121 [.sl (l.map ZJ),.fn f caps] [] (λr _=>r=.int .i64 (ct (l.findIdx? p))):=by
 have hcaps:=cq hpure;refine ZF tK (Tryz.func121) rfl (λC=>?_);simp only[Tryz.ntmps121,Tryz.results121,go_sem];refine wG tK ?_;refine ZL (λi:Nat=>i≤l.length/\∀x,x∈l.take i->p x=false) (λi=>l.length-i) (λi=>(8,.int .i64 i)::(5,.any)::u0 9 10 []) (λ_=>[]) 0 ⟨by omega,by simp⟩ ?_ λi hi=>?_
 ·simp only[go_sem];exact ZU w3 w3 u5
 obtain ⟨hi,hno⟩:=hi;simp only[go_sem];refine wG tK ?_;refine wD (λh=>?_) (λh=>?_)
 ·have hlt:i<l.length:=by simp at h;omega
  have hn:=hf _ (YG hlt);have hg:(l.map ZJ).getD i []=ZJ (l.getD i default):=Fam.getD hlt;have htk:=ZT hlt;have hgi:l[i]? = some (l.getD i default):=by rw[Wv,Ww hlt];rfl
  generalize l.getD i default=n at hn hg htk hgi;refine wGq tK ?_ ?_ Qa
  ·simp[hlt,ZJ]
  refine dR rfl rfl z7 w3 hcal u5 (hn) w3 z6 ?_;refine wG tK ?_;refine wD (λh=>?_) (λh=>?_)
  ·refine wG tK ?_;refine wT ?_;rw[eR hgi hno h];rfl
  ·have hw:IntKind.i64.wrap ((i:Int)+1)=(i:Int)+1:=wrap_small z8 z8;refine wG tK ?_ w5 k7;refine ZB ⟨i+1,⟨by omega,?_⟩,by omega,ZU ?_ ?_ ?_⟩
   ·rw[htk];intro x hx
    rcases List.mem_append.1 hx with hx | hx
    ·exact hno x hx
    ·rw[List.mem_singleton.1 hx];exact h
   ·simp[go_sem]
   ·simp[go_sem]
   ·simp[go_sem,hcaps]
 ·have e:i=l.length:=by simp at h;omega
  refine wG tK ?_;refine wT ?_;rw[e,W2] at hno;rw[YK.2 hno];rfl
theorem pP (l:List Hoard) (hlen:l.length≤100000000) (id:Nat) {f:FuncId} {caps:List AV} {p:Hoard->Bool} (hcal:aP Tryz.prog f) (hpure:(caps.all AV.bc)=true) (hid:id≠7)
  (hf:∀x,x∈l->af Tryz.prog f (.agg (ZJ x)::caps) [] (λr _=>r=.bool (p x))) :
  af Tryz.prog 74 [.osl id 2 0 l.length,.fn f caps] [(id,.cells 76 2 (l.map ZJ))] (λr H=>r=.osl id 2 0 (l.filter λx=>!p x).length /\
   ∀i b,aa [(id,.cells 76 2 ((l.filter λx=>!p x).map ZJ++List.replicate (l.length-(l.filter λx=>!p x).length) [.str [],.int .i64 0]))] i=some b->aa H i=some b):=by
 have hcaps:=cq hpure;obtain ⟨q,hv,hq⟩:=fK hpure;refine ZF tK (Tryz.func74) rfl (λC=>?_);simp only[Tryz.ntmps74,Tryz.results74,go_sem];refine wG tK ?_;refine mS rfl rfl z7 w3 Qj Z1 ⟨_,Tryz.func121,by kernel_rfl,rfl⟩ (q_ l hlen hcal hpure hf) w3 z6 ?_;refine wG tK ?_;refine wD (λh=>?_) (λh=>?_)
 ·refine wG tK ?_;refine wT ?_;have hn:l.findIdx? p=none:=by
   cases e:l.findIdx? p with
   | none=>rfl
   | some k=>rw[e] at h;simp[ct] at h
  have hfl:l.filter (λx=>!p x)=l:=YR.2 λx hx=>by
   simp[YK.1 hn x hx]
  rw[hfl];simp[aa]
 obtain ⟨k,hk⟩:∃k,l.findIdx? p=some k:=by
  cases e:l.findIdx? p with
  | none=>rw[e] at h;simp[ct] at h
  | some k=>exact ⟨k,rfl⟩
 have hkl:k<l.length:=(YM.1 hk).1;have hsp:=ff hk;rw[hk];have hw:IntKind.i64.wrap ((k:Int)+1)=((k+1:Nat):Int):=by rw[Eng.wrap_small z8 z8];rfl
 simp only[ct];refine wG tK ?_ w5 k7;refine ZL (λs:Nat×List Hoard=>DelInv p l s.1 s.2) (λs=>l.length-s.1) (λs=>(5,.int .i64 (((l.take s.1).filter λx=>!p x).length:Nat))::(6,.int .i64 (s.1:Nat))::(7,.any)::u0 16 20 []) (λs=>[(id,.cells 76 2 (s.2.map ZJ))]) (k+1,l) (DelInv.start hk) ?_ λs hs=>?_
 ·have el:((l.take (k+1)).filter λx=>!p x).length=k:=by rw[hsp];simp;omega
  simp only[go_sem,el];exact ZU w3 w3 u5
 obtain ⟨j,L⟩:=s;have hjl:=hs.le;have hL:=hs.len;have hlt:=hs.lt;simp only at hs hjl hL hlt;simp only[go_sem];refine wG tK ?_;refine wD (λh=>?_) (λh=>?_)
 ·have hj:j<l.length:=by simp at h;omega
  have hn:=hf _ (YG hj);have hg:(L.map ZJ).getD j []=ZJ (l.getD j default):=by rw[Fam.getD z8,hs.get hj]
  have hkeep:=hs.ED hj;have hskip:=hs.skip hj;have htk:=ZT hj;generalize l.getD j default=n at hn hg hkeep hskip htk;refine wGq tK ?_ ?_ (by simp only[go_sem,hg,ZJ,hid,Ne.symm hid];try exact rfl)
  ·simp[ZJ];omega
  refine dR rfl rfl z7 w3 hcal u5 (hn) w3 z6 ?_;generalize hm:((l.take j).filter λx=>!p x).length=m at hkeep hlt;have hw1:IntKind.i64.wrap ((j:Int)+1)=((j+1:Nat):Int):=by rw[Eng.wrap_small z8 z8];rfl
  have hw2:IntKind.i64.wrap ((m:Int)+1)=((m+1:Nat):Int):=by rw[Eng.wrap_small z8 z8];rfl
  refine wG tK ?_ Qf WG;refine wD (λh=>?_) (λh=>?_)
  ·have hp:p n=false:=by simpa using h
   obtain ⟨hk1,hk2⟩:=hkeep hp;have ba:=po ZJ L m n;simp only[ZJ] at ba;have hgl:(L.map ZJ).getD m []=ZJ (L.getD m default):=Fam.getD z8;simp only[ZJ] at hgl;refine wGq tK ?_ ?_ n3
   ·simp[hid,Ne.symm hid];omega
   refine ZB ⟨(j+1,L.set m n),hk1,by simp only;omega,ZU ?_ ?_ ?_⟩
   ·simp[go_sem,hk2]
   ·simp[go_sem,hid,Ne.symm hid,ba]
   ·simp[go_sem,hcaps,-List.map_set]
  ·have hp:p n=true:=by simpa using h
   refine wG tK ?_ QJ Ql;have hsame:((l.take (j+1)).filter λx=>!p x).length=m:=by
    rw[←hm,htk,List.filter_append];simp only[List.filter_cons,hp,Bool.not_true,Bool.false_eq_true,if_false,List.filter_nil,List.append_nil]
   refine ZB ⟨(j+1,L),hskip hp,by simp only;omega,ZU ?_ ?_ ?_⟩
   ·simp[go_sem,hsame,hm]
   ·simp[go_sem,hid,Ne.symm hid]
   ·simp[go_sem,hcaps]
 have e:j=l.length:=by simp at h;omega
 subst e;have hfin:=hs.fin;rw[W2];generalize hd:(l.filter λx=>!p x)=d at *;have hdl:d.length≤l.length:=by rw[←hd];exact W6 _ _
 have hcl:=ja ZJ (d:=d) (L:=L) [.str [],.int .i64 0] hfin z8;rw[hL] at hcl;refine wGq tK ?_ ?_ QK
 ·simp only[not_false_eq_true,true_and];omega
 refine wT ?_;simp[aa]
end La
namespace La
open Go Go.Eng
def eqW (w:Int) (l:List Hoard):List Hoard:=l.filter λh=>h.worth==w
theorem rD (w:Int) (l m:List Hoard):eqW w (l++m)=eqW w l++eqW w m:=List.filter_append l m
structure Stab (l P:List Hoard):Prop where
 same:∀w,eqW w P=eqW w l
 dc:P.Pairwise λa b=>b.worth≤a.worth
 mem:∀h,h∈P->h∈l
 len:P.length=l.length
theorem Stab.nil:Stab [] []:=⟨λ_=>rfl,List.Pairwise.nil,λ_ h=>h,rfl⟩
theorem Stab.ins {l P Q:List Hoard} {x:Hoard} (h:Stab l (P++Q)) (hP:∀p,p∈P->x.worth≤p.worth) (hQ:∀q,q∈Q->q.worth<x.worth):Stab (l++[x]) (P++x::Q):=by
 refine ⟨λw=>?_,?_,λy hy=>?_,?_⟩
 ·rw[rD w l,←h.same w,rD w P,rD w P]
  show _++eqW w ([x]++Q)=_
  rw[rD]
  by_cases e:x.worth=w
  ·have:eqW w Q=[]:=by
    unfold eqW;rw[List.filter_eq_nil_iff];intro q hq;have:=hQ q hq;simp;omega
   rw[this];simp
  ·have:eqW w [x]=[]:=by
    unfold eqW;rw[List.filter_eq_nil_iff];intro q hq;rw[List.mem_singleton.1 hq];simpa using e
   rw[this];simp
 ·have hf:=List.pairwise_append.1 h.dc;refine List.pairwise_append.2 ⟨hf.1,List.pairwise_cons.2 ⟨λq hq=>by have:=hQ q hq;omega,hf.2.1⟩,λp hp y hy=>?_⟩
  rcases List.mem_cons.1 hy with rfl | hy
  ·exact hP p hp
  ·exact hf.2.2 p hp y hy
 ·rcases List.mem_append.1 hy with hy | hy
  ·exact YJ _ (h.mem y (YJ _ hy))
  ·rcases List.mem_cons.1 hy with rfl | hy
   ·simp
   ·exact YJ _ (h.mem y (YA _ hy))
 ·have:=h.len;simp only[List.length_append,List.length_cons,List.length_nil] at this ⊢;omega
theorem qL:∀(n:Nat) (P:List Hoard),P.Pairwise (λa b=>b.worth≤a.worth)->(∀h,h∈P->1≤h.worth)->bs P n=P.filter λh=>decide (h.worth≤(n:Int))
 | 0,P,_,hm=>by
  unfold bs
  symm
  rw[List.filter_eq_nil_iff];intro h hh;have:=hm h hh;simp;omega
 | n+1,P,hs,hm=>by
  rw[bs,qL n P hs hm];clear hm
  induction P with
  | nil=>rfl
  | cons p r ih=>
   have ih:=ih (List.pairwise_cons.1 hs).2;have hp:=(List.pairwise_cons.1 hs).1;rw[List.filter_cons,List.filter_cons,List.filter_cons]
   by_cases h1:p.worth=((n+1:Nat):Int)
   ·rw[if_pos Z3,if_neg j0,if_pos j0,List.cons_append,ih]
   ·rw[if_neg Z3]
    by_cases h2:p.worth≤(n:Int)
    ·rw[if_pos WS,if_pos j0,←ih];have:r.filter (λh=>h.worth==((n+1:Nat):Int))=[]:=by
      rw[List.filter_eq_nil_iff];intro q hq;have:=hp q hq;simp;omega
     rw[this];rfl
    ·rw[if_neg WS,if_neg j0,ih]
theorem qK {l P:List Hoard} (h:∀w,eqW w P=eqW w l):∀n,bs P n=bs l n
 | 0=>rfl
 | n+1=>by
  unfold bs;rw[qK h n];exact congrArg (·++_) (h _)
theorem Stab.order {l P:List Hoard} (h:Stab l P) (hw:∀x,x∈l->1≤x.worth/\x.worth≤100):P=bs l 100:=by
 rw[←qK h.same 100,qL 100 P h.dc λx hx=>(hw x (h.mem x hx)).1]
 symm
 rw[YR];intro x hx;have:=(hw x (h.mem x hx)).2;simp;omega
end La
namespace La
open Go Go.Eng Go.Proofs
def hoH (l:List Hoard) (id:Nat) (G Y N:Nat->Nat):List (Nat×Blk):=[(id,.cells 76 2 (l.map ZJ))]++pins [id] G Y N
theorem GN (a b:Hoard) (ha:1≤a.worth/\a.worth≤100) (hb:1≤b.worth/\b.worth≤100):af Tryz.prog 77 [.agg (ZJ a),.agg (ZJ b)] [] (λr _=>r=.int .i64 (b.worth-a.worth)):=by
 have hw:IntKind.i64.wrap (b.worth-a.worth)=b.worth-a.worth:=Eng.wrap_small z8 z8;unfold ZJ;refine ZF tK (Tryz.func77) rfl (λC=>?_);simp only[Tryz.ntmps77,Tryz.results77,go_sem];refine wG tK ?_ w5 k7;refine wT ?_;rfl
def iw (M T:List Hoard):List Hoard:=M++T
def jt (A:List Hoard) (x:Hoard) (T:List Hoard):List Hoard:=A++x::T
theorem ye (A:List Hoard) (x:Hoard) (T:List Hoard):(jt A x T).length=A.length+1+T.length:=by unfold jt;rw[List.length_append,List.length_cons];omega
theorem wc (A:List Hoard) (x:Hoard) (T:List Hoard):((jt A x T).map ZJ).getD A.length []=[.str x.path,.int .i64 x.worth]:=by
 have:((jt A x T).map ZJ).getD A.length []=ZJ ((jt A x T).getD A.length default):=Fam.getD (by rw[ye];omega);rw[this];unfold jt;rw[Wv,YN z8,Yo];rfl
theorem yf (A:List Hoard) (x y:Hoard) (T:List Hoard):((jt A x T).map ZJ).set A.length [.str y.path,.int .i64 y.worth]=(jt A y T).map ZJ:=by
 show List.set _ _ (ZJ y)=_
 unfold jt;rw[←List.map_set,List.set_append_right _ _ z8,Yo];rfl
theorem sL (A:List Hoard) (y x:Hoard) (T:List Hoard):jt (A++[y]) x T=jt A y (x::T):=by unfold jt;simp
theorem Ex (l:List Hoard) (hlen:l.length≤19) (hwo:∀h,h∈l->1≤h.worth/\h.worth≤100) (G Y N:Nat->Nat):af Tryz.prog 160 [.osl 1000 2 0 l.length,.int .i64 0,.int .i64 l.length,.fn 77 []] (hoH l 1000 G Y N)
  (λr H=>r=.tup []/\Holds (hoH (bs l 100) 1000 G Y N) H):=by
 unfold hoH;refine ZF tK (Tryz.func160) rfl (λC=>?_);simp only[Tryz.ntmps160,Tryz.results160,go_sem];refine wG tK ?_;refine ZL (λq:Nat×List Hoard=>0<q.1/\(q.1≤l.length\/q.1=1)/\Stab (l.take q.1) q.2) (λq=>l.length+1-q.1) (λq=>(8,.int .i64 q.1)::(9,.any)::u0 12 41 []) (λq=>[(1000,.cells 76 2 ((iw q.2 (l.drop q.1)).map ZJ))]) (1,l.take 1) ⟨by simp,by simp,?_⟩ ?_ λq hq=>?_
 ·cases l with
  | nil=>exact Stab.nil
  | cons x r=>exact Stab.ins (P:=[]) (Q:=[]) Stab.nil (λp hp=>by cases hp) (λp hp=>by cases hp)
 ·have e0:iw (l.take 1) (l.drop 1)=l:=Yu 1 l;simp only[go_sem,e0];exact ZU (by simp[go_sem];decide) w3 w3
 obtain ⟨i,M⟩:=q;obtain ⟨hi0,hi,hst⟩:=hq;simp only at hi0 hi hst;simp only[go_sem];refine wG tK ?_;refine wD (λh=>?_) (λh=>?_)
 ·have hlt:i<l.length:=by simp at h;omega
  have hw:=wi1 (i:=i) z8;have hMl:M.length=i:=by rw[hst.len,YF];omega
  have htk:=ZT hlt;have hdr:iw M (l.drop i)=jt M (l.getD i default) (l.drop (i+1)):=by unfold iw jt;rw[bT hlt]
  have hxw:=hwo _ (YG hlt);have hMw:∀p,p∈M->1≤p.worth/\p.worth≤100:=λp hp=>hwo p (YB (hst.mem p hp))
  rw[hdr];have hRl:(l.drop (i+1)).length≤19:=by rw[YY];omega
  generalize hR:l.drop (i+1)=R at *;generalize l.getD i default=x at *;refine wG tK ?_;refine ZL (λq:List Hoard×List Hoard=>q.1++q.2=M/\∀p,p∈q.2->p.worth<x.worth) (λq=>q.1.length) (λq=>(9,.int .i64 q.1.length)::u0 18 35 []) (λq=>[(1000,.cells 76 2 ((jt q.1 x (iw q.2 R)).map ZJ))]) (M,[]) ⟨by simp,λp hp=>by cases hp⟩ ?_ λq hq=>?_
  ·have e0:iw [] R=R:=rfl;simp only[go_sem,e0];exact ZU (by simp[go_sem,hMl]) w3 w3
  obtain ⟨A,B⟩:=q;obtain ⟨hAB,hB⟩:=hq;simp only at hAB hB;have hAl:A.length≤19:=by have:=congrArg List.length hAB;simp at this;omega
  have hback:(∀p,p∈A->x.worth≤p.worth)->Stab (l.take (i+1)) (A++x::B):=λh=>by rw[htk];rw[←hAB] at hst;exact Stab.ins hst h hB
  have hout:iw (A++x::B) R=jt A x (iw B R):=by unfold iw jt;simp
  have hout2:iw (A++x::B) (l.drop (i+1))=jt A x (iw B R):=by rw[hR];exact hout
  simp only[go_sem];refine wG tK ?_
  rcases List.eq_nil_or_concat A with hA | ⟨A',y,hA⟩
  ·subst hA;refine ZW ZM ?_;refine ZS rfl ?_;refine sN tK 4 ?_;refine eo 21 z6 (λc21 h21=>?_);simp only[go_sem];have hc:c21=false:=by rw[←h21];simp
   subst hc
   iterate 11 refine sS ?_
   refine sSB ?_;refine sN tK 1 ?_;refine sE ?_;refine wKd ?_
   try simp only[go_sem,gA,gB,gC]
   refine wDF (hb:=(rfl)) (hk:=?_);refine wG tK ?_ w5 k7;refine ZB ⟨(i+1,[]++x::B),⟨by simp only;omega,by simp only;omega,hback λp hp=>by cases hp⟩,by simp only;omega,ZU ?_ ?_ ?_⟩
   ·simp[go_sem]
   ·rw[hout2];simp[go_sem]
   ·simp[go_sem]
  ·rw[List.concat_eq_append] at hA;subst hA;have hj:((A'++[y]).length:Int)=((A'.length+1:Nat):Int):=by simp
   have hjn:(A'++[y]).length=A'.length+1:=by simp
   have hwm:IntKind.i64.wrap (((A'.length+1:Nat):Int)-1)=((A'.length:Nat):Int):=by rw[Eng.wrap_small z8 z8];omega
   have hyw:=hMw y (by rw[←hAB];simp);have hcmp:=GN x y hxw hyw;unfold ZJ at hcmp;have hg:=wc (A'++[y]) x (iw B R);rw[hjn] at hg;have hgm:=wc A' y (x::iw B R);rw[←sL] at hgm;have hT:(iw B R).length≤60:=by
    have:=congrArg List.length hAB;unfold iw;simp at this ⊢;omega
   have hAi:A'.length+1<l.length:=by have:=congrArg List.length hAB;simp at this;omega
   have hlen2:=ye (A'++[y]) x (iw B R);have hs1:=yf (A'++[y]) x y (iw B R);rw[hjn] at hlen2 hs1;have hs2:=yf A' y x (y::iw B R);rw[←sL] at hs2;have hgm2:=wc A' y (y::iw B R);rw[←sL] at hgm2;have hnext:jt A' x (iw (y::B) R)=jt A' x (y::iw B R):=rfl;generalize jt (A'++[y]) x (iw B R)=Q1 at *;generalize jt (A'++[y]) y (iw B R)=Q2 at *;rw[hjn];refine ZW ZM ?_;refine ZS rfl ?_;refine sN tK 4 ?_;refine eo 21 z6 (λc21 h21=>?_);simp only[go_sem];have hc:c21=true:=by rw[←h21];simp
   subst hc;refine sNq tK 10 ?_ ?_ z6 z6 (by simp only[go_sem,hg,hgm,hwm,ZJ];try exact rfl)
   ·simp[hg,hgm,hwm,ZJ,hlen2];try omega
   refine sCC Tryz.func77 (hf:=λhb=>(hcmp)) (hk:=?_);refine sN tK 2 ?_;refine sE ?_;refine wKd ?_
   try simp only[go_sem,gA,gB,gC]
   refine wD (λh=>?_) (λh=>?_)
   ·have hyx:y.worth<x.worth:=by simp at h;omega
    refine wG tK ?_;refine ZW ZM ?_;refine jy 2 [0,1,3,4,5,6,7,8,9,10,11,12,13,14,15,16,17] [0,1,0,2,3,4,5,6,7,8,9,10,11,12,13,14,15,16] rfl rfl rfl (λ_ _ _ h=>h) w4 w4 x6 z7 ?_
    try simp only[go_sem,gA,gB,gC]
    refine ZS rfl ?_;refine sNq tK 14 ?_ ?_ z6 z6 (by simp only[go_sem,hg,hgm,hwm];try exact rfl)
    ·simp[hg,hgm,hwm,hlen2];try omega
    refine qf tK rfl rfl z7 z7 z7 (by first | trivial | simp[go_sem]) z6 ?_ z6 z6 z6 ?_
    ·simp[hg,hgm,hwm,hlen2];try omega
    refine sNq tK 1 ?_ ?_
    ·simp[hg,hgm,hwm,hlen2];try omega
    refine qf tK rfl rfl z7 z7 z7 (by first | trivial | simp[go_sem]) z6 ?_ z6 z6 z6 ?_
    ·simp[hg,hgm,hwm,hlen2];try omega
    refine sE ?_;refine wKd ?_
    try simp only[go_sem,gA,gB,gC]
    refine wG tK ?_ (by simp only[go_sem,hwm,hg,hgm,hs1,hgm2,hs2];try exact rfl) (by simp[go_sem,hwm,hg,hgm,hs1,hgm2,hs2]);refine ZB ⟨(A',y::B),⟨by rw[←hAB];simp,λp hp=>?_⟩,by simp,ZU ?_ ?_ ?_⟩
    ·rcases List.mem_cons.1 hp with rfl | hp
     ·exact hyx
     ·exact hB p hp
    ·simp[go_sem]
    ·simp[go_sem,hnext]
    ·simp[go_sem]
   ·have hyx:x.worth≤y.worth:=by simp at h;omega
    refine wG tK ?_ w5 k7;refine ZB ⟨(i+1,(A'++[y])++x::B),⟨by simp only;omega,by simp only;omega,hback λp hp=>?_⟩,by simp only;omega,ZU ?_ ?_ ?_⟩
    ·have hf:=hst.dc;rw[←hAB,List.pairwise_append] at hf
     rcases List.mem_append.1 hp with hp | hp
     ·have:=(List.pairwise_append.1 hf.1).2.2 p hp y y8;omega
     ·rw[List.mem_singleton.1 hp];exact hyx
    ·simp[go_sem]
    ·rw[hout2];simp[go_sem]
    ·simp[go_sem]
 ·have e:l.take i=l:=Wy (by simp at h;omega);rw[e] at hst;have hM:=hst.order hwo;have e0:iw M (l.drop i)=bs l 100:=by unfold iw;rw[Yn (by simp at h;omega),List.append_nil,hM]
  rw[e0];refine wG tK ?_;refine kN ⟨_,_,rfl,trivial,.tup [],.inr (.inl rfl),rfl,?_⟩;simp only[pins,List.cons_append,List.nil_append,List.map_cons,List.map_nil]
  repeat' refine ZH ?_ ?_
  all_goals first | exact YH _ | rfl | simp[go_sem]
theorem Al (l:List Hoard) (hne:¬l=[]) (hlen:l.length≤19) (hwo:∀h,h∈l->1≤h.worth/\h.worth≤100) (G Y N:Nat->Nat):af Tryz.prog 122 [.osl 1000 2 0 l.length,.int .i64 l.length,.fn 77 []] (hoH l 1000 G Y N)
  (λr H=>r=.tup []/\Holds (hoH (bs l 100) 1000 G Y N) H):=by
 have hs:=Ex l hlen hwo;unfold hoH at hs;unfold hoH;refine ZF tK (Tryz.func122) rfl (λC=>?_);simp only[Tryz.ntmps122,Tryz.results122,go_sem];refine wG tK ?_;refine ZL (λ_:Unit=>True) (λ_=>0) (λ_=>u0 11 12 []) (λ_=>[]) () trivial ?_ λ_ _=>?_
 ·simp only[go_sem];exact ZU w3 w3 w3
 simp only[go_sem];refine wG tK ?_;refine wDF (hb:=j0) (hk:=?_);refine wG tK ?_;refine bY rfl (ea rfl z7 w3 ⟨_,Tryz.func160,by kernel_rfl,rfl⟩ [1000] w8 w3 y8 Zk w3 w3 (hs) y6) ?_;refine wG tK ?_;refine ZL (λ_:Unit=>True) (λ_=>0) (λ_=>u0 28 35 []) (λ_=>[]) () trivial ?_ λ_ _=>?_
 ·simp only[go_sem];exact ZU w3 w3 w3
 simp only[go_sem];refine wG tK ?_;refine wDF (hb:=j0) (hk:=?_);refine wG tK ?_;refine kN ⟨_,_,rfl,trivial,.tup [],.inr (.inl rfl),rfl,?_⟩;simp only[pins,List.cons_append,List.nil_append,List.map_cons,List.map_nil]
 repeat' refine ZH ?_ ?_
 all_goals first | exact YH _ | rfl | simp[go_sem]
theorem Ey (l:List Hoard) (hne:¬l=[]) (hlen:l.length≤19) (hwo:∀h,h∈l->1≤h.worth/\h.worth≤100) (G Y N:Nat->Nat):af Tryz.prog 76 [.osl 1000 2 0 l.length,.fn 77 []] (hoH l 1000 G Y N)
  (λr H=>r=.tup []/\Holds (hoH (bs l 100) 1000 G Y N) H):=by
 have hs:=Al l hne hlen hwo;unfold hoH at hs;unfold hoH;refine ZF tK (Tryz.func76) rfl (λC=>?_);simp only[Tryz.ntmps76,Tryz.results76,go_sem];refine wG tK ?_;refine bY rfl (ea rfl z7 w3 ⟨_,Tryz.func122,by kernel_rfl,rfl⟩ [1000] w8 w3 y8 Zk w3 w3 (hs) y6) ?_;refine wG tK ?_;refine kN ⟨_,_,rfl,trivial,.tup [],.inr (.inl rfl),rfl,?_⟩;simp only[pins,List.cons_append,List.nil_append,List.map_cons,List.map_nil]
 repeat' refine ZH ?_ ?_
 all_goals first | exact YH _ | rfl | simp[go_sem]
theorem Cz:af Tryz.prog 160 [.sl [],.int .i64 0,.int .i64 0,.fn 77 []] [] (λr _=>r=.tup []):=by
 refine ZF tK (Tryz.func160) rfl (λC=>?_);simp only[Tryz.ntmps160,Tryz.results160,go_sem];refine wG tK ?_;refine ZL (λ_:Unit=>True) (λ_=>0) (λ_=>[]) (λ_=>[]) () trivial ?_ λ_ _=>?_
 ·simp only[go_sem];exact ZU w3 w3 w3
 simp only[go_sem];refine wG tK ?_;refine wDF (hb:=x8) (hk:=?_);refine wG tK ?_;refine kN ⟨_,_,rfl,trivial,.tup [],.inr (.inl rfl),rfl⟩
theorem yd:af Tryz.prog 122 [.sl [],.int .i64 0,.fn 77 []] [] (λr _=>r=.tup []):=by
 refine ZF tK (Tryz.func122) rfl (λC=>?_);simp only[Tryz.ntmps122,Tryz.results122,go_sem];refine wG tK ?_;refine ZL (λ_:Unit=>True) (λ_=>0) (λ_=>[]) (λ_=>[]) () trivial ?_ λ_ _=>?_
 ·simp only[go_sem];exact ZU w3 w3 w3
 simp only[go_sem];refine wG tK ?_;refine wDF (hb:=x8) (hk:=?_);refine wG tK ?_;refine wC Tryz.func160 (hf:=(Cz)) (hk:=?_);refine wG tK ?_;refine ZL (λ_:Unit=>True) (λ_=>0) (λ_=>[]) (λ_=>[]) () trivial ?_ λ_ _=>?_
 ·simp only[go_sem];exact ZU w3 w3 w3
 simp only[go_sem];refine wG tK ?_;refine wDF (hb:=x8) (hk:=?_);refine wG tK ?_;refine kN ⟨_,_,rfl,trivial,.tup [],.inr (.inl rfl),rfl⟩
theorem CA:af Tryz.prog 76 [.sl [],.fn 77 []] [] (λr _=>r=.tup []):=by
 refine ZF tK (Tryz.func76) rfl (λC=>?_);simp only[Tryz.ntmps76,Tryz.results76,go_sem];refine wG tK ?_;refine wC Tryz.func122 (hf:=(yd)) (hk:=?_);refine wG tK ?_;refine kN ⟨_,_,rfl,trivial,.tup [],.inr (.inl rfl),rfl⟩
theorem ny (d:List Hoard) (hd:d.length≤100000000):af Tryz.prog 47 [.sl (d.map ZJ)] [] (λr H=>r=.osl 7 2 0 d.length/\∀i b,aa [(7,.cells 76 2 (d.map ZJ))] i=some b->aa H i=some b):=by
 refine ZF tK (Tryz.func47) rfl (λC=>?_);simp only[Tryz.ntmps47,Tryz.results47,go_sem];refine wG tK ?_;refine lV tK rfl rfl rfl v8 v8 (λb hb=>?_);simp only[go_sem];refine wG tK ?_;refine wD (λh=>?_) (λh=>?_)
 ·have hd0:d=[]:=by
   have:=hb h;cases d with
   | nil=>rfl
   | cons x r=>simp at this
  subst hd0;refine wG tK ?_;refine ah (le_empty 7 76 2 z7) ?_;simp only[go_sem];refine kO ⟨_,_,z7,by simp[go_sem],.osl 7 2 0 0,.inr (.inr ⟨rfl,.inr ⟨7,2,0,rfl⟩⟩),?_⟩;simp[go_sem]
 ·refine wGq tK ?_ ?_
  ·simp;omega
  refine wT ?_;simp[go_sem]
end La
namespace La
open Go Go.Eng Go.Proofs Go.Proofs.YtdcmhdkpfllnlaaGreatDoor
def RdC (w:World) (cs:List Value) (xs:List AV):Prop:=cs.length=xs.length/\∀(j:Nat) y,xs[j]? = some y->RdP (λb=>b<w.heap.size) w (cs.getD j undef) y
theorem Hn {w:World} {cs:List Value} {off:Nat} (h:cs.length=off):RdC w (cs.drop off) []:=
 ⟨by simp;omega,λj y hj=>by simp at hj⟩
theorem kA {w:World} {cs:List Value} {xs ys:List AV} (off s:Nat) (h:RdC w ((cs.drop off).take s) xs) (hs:xs.length=s) (k:RdC w (cs.drop (off+s)) ys):RdC w (cs.drop off) (xs++ys):=by
 obtain ⟨h1,h2⟩:=h;obtain ⟨k1,k2⟩:=k;have hl:(cs.drop off).length=s+(cs.drop (off+s)).length:=by
  simp only[YF,YY] at h1 k1 ⊢;omega
 refine ⟨by rw[List.length_append,hl,hs,k1],λj y hj=>?_⟩
 by_cases hjs:j<s
 ·rw[YO z8] at hj;have:=h2 j y hj
  rwa [Wv,YL,if_pos hjs,←Wv] at this
 ·rw[YN z8,hs] at hj;have:=k2 (j-s) y hj;rw[Wv,YX] at this;rw[Wv,YX]
  rwa [show off+s+(j-s)=off+j from by omega] at this
structure Rep (t:TypeId) {α:Type} (f:α->List AV) (q:α->Prop) (sz:α->Nat):Prop where
 size:∀x,(f x).length=(Tryz.prog).cellsOf t
 opn:∀{H:Type} (enc:TypeId×Value->H) (w:World) (n:Nat) (cs:List Value) (y:DataW H×List MemPlace),DataW.trod enc Tryz.prog w 0 (λ_=>true) true n t cs=some y ->
  ∃x:α,q x/\sz x≤Rows.uptoBulk y.1/\RdC w cs (f x)
theorem ZG {t:TypeId} {n:Nat} (h:tab.siz t=n) (h0:n≠0):(Tryz.prog).cellsOf t=n:=by
 obtain ⟨i,h1,h2,_⟩:=tK.siz t (by rw[h];exact h0);unfold Program.cellsOf;rw[h1];simp[h2,h]
theorem cT3:(Tryz.prog).cellsOf 3=1:=ZG (t:=3) (n:=1) rfl x8
theorem cT5:(Tryz.prog).cellsOf 5=1:=ZG (t:=5) (n:=1) rfl x8
theorem cT9:(Tryz.prog).cellsOf 9=1:=ZG (t:=9) (n:=1) rfl x8
theorem JV:(Tryz.prog).cellsOf 22=1:=ZG (t:=22) (n:=1) rfl x8
theorem JW:(Tryz.prog).cellsOf 23=1:=ZG (t:=23) (n:=1) rfl x8
theorem I4:(Tryz.prog).cellsOf 24=1:=ZG (t:=24) (n:=1) rfl x8
theorem I5:(Tryz.prog).cellsOf 26=6:=ZG (t:=26) (n:=6) rfl x8
theorem B3 {t:TypeId} (ht:(Tryz.prog).underlying t=some (.int .i64)) (hs:(Tryz.prog).cellsOf t=1):Rep t (λn:Int=>[AV.int .i64 n]) (λn=>-9223372036854775808≤n/\n≤9223372036854775807) (λ_=>1) where
 size:=λ_=>by rw[hs];rfl
 opn:=λenc w n cs y h=>by
  obtain ⟨m,rfl,rfl,hw⟩:=DataW.trod_int ht h;refine ⟨m,?_,by simp[Rows.uptoBulk],rfl,λj y hj=>?_⟩
  ·simpa[Lit.wf,IntKind.min,IntKind.max,IntKind.bits,IntKind.signed] using hw
  ·cases j with
   | zero=>simp only[List.getElem?_cons_zero,Option.some.injEq] at hj;subst hj;exact .int _ _
   | succ j=>simp at hj
theorem rR {t:TypeId} (ht:(Tryz.prog).underlying t=some .string) (hs:(Tryz.prog).cellsOf t=1):Rep t (λs:List UInt8=>[AV.str s]) (λ_=>True) (λs=>s.length+1) where
 size:=λ_=>by rw[hs];rfl
 opn:=λenc w n cs y h=>by
  obtain ⟨s,rfl,rfl,_⟩:=DataW.trod_string ht h;refine ⟨s.data.toList,trivial,by simp[Rows.uptoBulk],rfl,λj y hj=>?_⟩;cases j with
  | zero=>simp only[List.getElem?_cons_zero,Option.some.injEq] at hj;subst hj;exact .str _ _ rfl
  | succ j=>simp at hj
theorem E9 {t:TypeId} (ht:(Tryz.prog).underlying t=some (.int .u8)) (hs:(Tryz.prog).cellsOf t=1):Rep t ZY (λ_=>True) (λ_=>1) where
 size:=λ_=>by rw[hs];rfl
 opn:=λenc w n cs y h=>by
  obtain ⟨m,rfl,rfl,hw⟩:=DataW.trod_int ht h;have hb:0≤m/\m≤255:=by simpa[Lit.wf,IntKind.min,IntKind.max,IntKind.bits,IntKind.signed] using hw
  refine ⟨UInt8.ofNat m.toNat,trivial,by simp[Rows.uptoBulk],rfl,λj y hj=>?_⟩;cases j with
  | zero=>
   simp only[ZY,List.getElem?_cons_zero,Option.some.injEq] at hj;subst hj;have:((UInt8.ofNat m.toNat).toNat:Int)=m:=by
    rw[UInt8.toNat_ofNat'];omega
   rw[this];exact .int _ _
  | succ j=>simp[ZY] at hj
def szL {α:Type} (sz:α->Nat):List α->Nat
 | []=>0
 | x::r=>sz x+szL sz r
theorem Ce {α:Type} {sz:α->Nat} {x:α}:∀{l:List α},x∈l->sz x≤szL sz l
 | y::r,h=>by
  rcases List.mem_cons.1 h with rfl | h
  ·simp only[szL];omega
  ·have:=Ce (sz:=sz) h;simp only[szL];omega
theorem Cd {α:Type} {sz:α->Nat} (h:∀x,1≤sz x):∀(l:List α),l.length≤szL sz l
 | []=>W7 _
 | x::r=>by have:=Cd h r;have:=h x;simp only[szL,List.length_cons];omega
theorem u_ {α H:Type} {q:α->Prop} {sz:α->Nat} {R:Nat->α->Prop}:∀(elems:List (DataW H×List MemPlace)) (i0:Nat),(∀(i:Nat) y,elems[i]? = some y->∃x,q x/\sz x≤Rows.uptoBulk y.1/\R (i0+i) x) ->
  ∃l:List α,l.length=elems.length/\(∀x,x∈l->q x)/\szL sz l≤Rows.uptoBulkAll (elems.map (·.1))/\∀(i:Nat) x,l[i]? = some x->R (i0+i) x
 | [],_,_=>⟨[],rfl,λx h=>by simp at h,by simp[szL],λi x h=>by simp at h⟩
 | y::r,i0,h=>by
  obtain ⟨x,h1,h2,h3⟩:=h 0 y rfl;obtain ⟨l,k1,k2,k3,k4⟩:=u_ (R:=R) r (i0+1) (λi z hz=>by rw[show i0+1+i=i0+(i+1) from by omega];exact h (i+1) z Zf);refine ⟨x::l,by simp[k1],λz hz=>?_,?_,λi z hz=>?_⟩
  ·rcases List.mem_cons.1 hz with rfl | hz
   ·exact h1
   ·exact k2 z hz
  ·simp only[szL,List.map_cons,Rows.uptoBulkAll];omega
  ·cases i with
   | zero=>simp only[List.getElem?_cons_zero,Option.some.injEq] at hz;subst hz;exact h3
   | succ i=>rw[show i0+(i+1)=i0+1+i from by omega];exact k4 i z Zf
theorem zX {w:World} {a:Addr} {n:Nat} {cs:List Value} (h:w.cells? 0 a n=some cs):cs.length=n/\∀i,i<n->w.cell? (a.add i)=cs[i]?:=by
 unfold World.cells? at h;rw[if_pos (Yp _)] at h;have hl:=mapM_some_length h;refine ⟨by simpa using hl,λi hi=>?_⟩;exact mapM_some_get h i i (by simp[hi])
theorem qa {t e:TypeId} {α:Type} {f:α->List AV} {q:α->Prop} {sz:α->Nat} (ht:(Tryz.prog).underlying t=some (.slice e)) (hs:(Tryz.prog).cellsOf t=1) (he:Rep e f q sz) (hsz:(Tryz.prog).cellsOf e≠0) :
  Rep t (λl:List α=>[AV.sl (l.map f)]) (λl=>∀x,x∈l->q x) (λl=>szL sz l+1) where
 size:=λ_=>by rw[hs];rfl
 opn:=λenc w n cs y h=>by
  rcases DataW.trod_slice ht h with ⟨rfl,rfl⟩ | ⟨a,len,cap,elems,rest,m,rfl,rfl,rfl,h1,h2,h3,h4,h5,_⟩
  ·refine ⟨[],λx hx=>by simp at hx,by simp[szL,Rows.uptoBulk],rfl,λj y hj=>?_⟩;cases j with
   | zero=>
    simp only[List.map_nil,List.getElem?_cons_zero,Option.some.injEq] at hj;subst hj;exact .sl none 0 0 [] 0 0 0 (λ_ _=>undef) rfl (W7 _) (λrow h=>by simp at h) (λh=>by omega) (λi j h=>by omega) (λi row h=>by simp at h)
   | succ j=>simp at hj
  ·have key:∀(i:Nat) y,elems[i]? = some y->∃x,q x/\sz x≤Rows.uptoBulk y.1/\(∃cs,w.cells? 0 (a.add ((0+i)*(Tryz.prog).cellsOf e)) ((Tryz.prog).cellsOf e)=some cs/\RdC w cs (f x)):=λi y hy=>by
    have hi:i<len:=by rw[←h4];exact (W3.1 hy).1
    have:=h5 i hi;rw[hy] at this;obtain ⟨cs,k1,k2⟩:=Option.bind_eq_some_iff.1 this;obtain ⟨x,q1,q2,q3⟩:=he.opn enc w m cs y k2;exact ⟨x,q1,q2,cs,by rw[YP];exact k1,q3⟩
   obtain ⟨l,l1,l2,l3,l4⟩:=u_ (q:=q) (sz:=sz) (R:=λi x=>∃cs,w.cells? 0 (a.add (i*(Tryz.prog).cellsOf e)) ((Tryz.prog).cellsOf e)=some cs/\RdC w cs (f x)) elems 0 key;refine ⟨l,l2,by simp only[Rows.uptoBulk];omega,rfl,λj y hj=>?_⟩;cases j with
   | succ j=>simp at hj
   | zero=>
    simp only[List.getElem?_cons_zero,Option.some.injEq] at hj;subst hj;have hcell:∀i j,i<l.length->j<(Tryz.prog).cellsOf e->∃(b:a.spot=none\/True) (x:α) (cs:List Value),l[i]? = some x/\RdC w cs (f x)/\w.cell? (a.add (i*(Tryz.prog).cellsOf e) |>.add j)=cs[j]?/\j<cs.length:=λi j hi hj=>by
     obtain ⟨cs,k1,k2⟩:=l4 i l[i] (Ww hi);obtain ⟨c1,c2⟩:=zX k1;rw[YP] at c2;exact ⟨.inr trivial,l[i],cs,Ww hi,k2,c2 j hj,by omega⟩
    by_cases h0:l.length=0
    ·have:l=[]:=List.eq_nil_of_length_eq_zero h0;subst this;simp only[List.map_nil];have e0:len=0:=by rw[←h4,←l1];rfl
     subst e0;exact .sl (some a) 0 cap [] 0 0 0 (λ_ _=>undef) rfl (Yp _) (λrow h=>by simp at h) (λh=>by omega) (λi j h=>by omega) (λi row h=>by simp at h)
    ·have hspot:a.spot=none/\a.block<w.heap.size:=by
      obtain ⟨_,x,cs,_,_,c3,c4⟩:=hcell 0 0 z8 z8;rw[Ww c4] at c3;have c3':w.cell? a=some cs[0]:=by simpa[Addr.add] using c3
      unfold World.cell? at c3';split at c3'
      ·rename_i c e' f' hb;split at c3'
       ·cases c3'
       ·rename_i hsp;refine ⟨?_,?_⟩
        ·cases e:a.spot with
         | none=>rfl
         | some k=>rw[e] at hsp;simp at hsp
        ·exact (YU.1 hb).1
      ·cases c3'
     obtain ⟨ab,ao,asp⟩:=a;simp only at hspot;obtain ⟨rfl,hlt⟩:=hspot;have hadd:∀(i j:Nat),((⟨ab,ao,none⟩:Addr).add (i*(Tryz.prog).cellsOf e) |>.add j)=⟨ab,ao+(i*(Tryz.prog).cellsOf e+j),none⟩:=λi j=>by
      rw[add_plain,add_plain,Nat.add_assoc]
     refine .sl (some ⟨ab,ao,none⟩) len cap (l.map f) ((Tryz.prog).cellsOf e) ab ao (λi j=>(w.cell? ⟨ab,ao+(i*(Tryz.prog).cellsOf e+j),none⟩).getD undef) (by simp[l1,h4]) h2 (λrow hr=>?_) (λ_=>⟨rfl,hlt⟩) (λi j hi hj=>?_) (λi row hrow j x hx=>?_)
     ·obtain ⟨x,_,rfl⟩:=W5.1 hr;exact he.size x
     ·obtain ⟨_,x,cs,_,_,c3,c4⟩:=hcell i j z8 hj;rw[hadd,Ww c4] at c3;rw[c3];rfl
     ·rw[Wz] at hrow;cases e1:l[i]? with
      | none=>rw[e1] at hrow;cases hrow
      | some x0=>
       rw[e1] at hrow;simp only[Option.map_some,Option.some.injEq] at hrow;subst hrow;have hi:i<l.length:=(W3.1 e1).1;have hj:j<(Tryz.prog).cellsOf e:=by rw[←he.size x0];exact (W3.1 hx).1
       obtain ⟨_,x1,cs,c1,c2,c3,c4⟩:=hcell i j hi hj;rw[e1] at c1;injection c1 with c1
       subst c1;have:=c2.2 j x hx;rw[hadd,Ww c4] at c3;simp only[c3,Option.getD_some]
       rwa [Wv,Ww c4] at this
theorem tk (t:TypeId) (ht:(Tryz.prog).underlying t=some (.int .i64)) (hs:tab.siz t=1):Rep t (λn:Int=>[AV.int .i64 n]) (λ_=>True) (λ_=>1):=
 ⟨(B3 ht (ZG hs x8)).size,λenc w n cs y h=>by
  obtain ⟨x,_,h2,h3⟩:=(B3 ht (ZG hs x8)).opn enc w n cs y h;exact ⟨x,trivial,h2,h3⟩⟩
theorem tE {α:Type}:∀(l:List α),szL (λ_=>1) l=l.length
 | []=>rfl
 | x::r=>by simp only[szL,tE r,List.length_cons];omega
theorem ve:Rep 24 (λl:List UInt8=>[AV.sl (l.map ZY)]) (λ_=>True) (λl=>szL (λ_=>1) l+1):=
 ⟨λ_=>by rw[I4];rfl,λenc w n cs y h=>by
  obtain ⟨x,_,h2,h3⟩:=(qa (f:=ZY) (q:=λ_=>True) (sz:=(λ_=>1)) Tryz.underlying24 (I4) (E9 Tryz.underlying5 (cT5)) (by rw[cT5];decide)).opn enc w n cs y h;exact ⟨x,trivial,h2,h3⟩⟩
theorem pd:Rep 22 (λl:List Int=>[AV.sl (l.map ZI)]) (λ_=>True) (λl=>szL (λ_=>1) l+1):=
 ⟨λ_=>by rw[JV];rfl,λenc w n cs y h=>by
  obtain ⟨x,_,h2,h3⟩:=(qa (f:=ZI) (q:=λ_=>True) (sz:=(λ_=>1)) Tryz.underlying22 (JV) (tk 3 Tryz.underlying3 rfl) (by rw[cT3];decide)).opn enc w n cs y h;exact ⟨x,trivial,h2,h3⟩⟩
def Step.sz (x:Step):Nat:=x.path.length+x.toPath.length+x.data.length+1
theorem yZ:Rep 26 ZX (λ_=>True) Step.sz where
 size:=λx=>by rw[I5];rfl
 opn:=λenc w n cs y h=>by
  obtain ⟨xs,m,rfl,rfl,hl,hxl,hf⟩:=DataW.trod_struct Tryz.underlying26 h;obtain ⟨y0,y1,y2,y3,y4,y5,rfl⟩:∃y0 y1 y2 y3 y4 y5,xs=[y0,y1,y2,y3,y4,y5]:=by
   have hxl:xs.length=6:=hxl
   match xs,hxl with
   | [a0,a1,a2,a3,a4,a5],_=>exact ⟨a0,a1,a2,a3,a4,a5,rfl⟩
  have e0:DataW.trod enc Tryz.prog w 0 (λ_=>true) true m 3 ((cs.drop 0).take ((Tryz.prog).cellsOf 3))=some y0:=hf 0 _ rfl;obtain ⟨x0,q0,s0,r0⟩:=(tk 3 Tryz.underlying3 rfl).opn enc w m _ _ e0;rw[cT3] at r0;have e1:DataW.trod enc Tryz.prog w 0 (λ_=>true) true m 3 ((cs.drop 1).take ((Tryz.prog).cellsOf 3))=some y1:=hf 1 _ rfl;obtain ⟨x1,q1,s1,r1⟩:=(tk 3 Tryz.underlying3 rfl).opn enc w m _ _ e1;rw[cT3] at r1;have e2:DataW.trod enc Tryz.prog w 0 (λ_=>true) true m 3 ((cs.drop 2).take ((Tryz.prog).cellsOf 3))=some y2:=hf 2 _ rfl;obtain ⟨x2,q2,s2,r2⟩:=(tk 3 Tryz.underlying3 rfl).opn enc w m _ _ e2;rw[cT3] at r2;have e3:DataW.trod enc Tryz.prog w 0 (λ_=>true) true m 9 ((cs.drop 3).take ((Tryz.prog).cellsOf 9))=some y3:=hf 3 _ rfl;obtain ⟨x3,q3,s3,r3⟩:=(rR Tryz.underlying9 (cT9)).opn enc w m _ _ e3;rw[cT9] at r3;have e4:DataW.trod enc Tryz.prog w 0 (λ_=>true) true m 9 ((cs.drop 4).take ((Tryz.prog).cellsOf 9))=some y4:=hf 4 _ rfl;obtain ⟨x4,q4,s4,r4⟩:=(rR Tryz.underlying9 (cT9)).opn enc w m _ _ e4;rw[cT9] at r4;have e5:DataW.trod enc Tryz.prog w 0 (λ_=>true) true m 24 ((cs.drop 5).take ((Tryz.prog).cellsOf 24))=some y5:=hf 5 _ rfl;obtain ⟨x5,q5,s5,r5⟩:=(ve).opn enc w m _ _ e5;rw[I4] at r5;refine ⟨⟨x0,x1,x2,x3,x4,x5⟩,trivial,?_,?_⟩
  ·simp only[tE] at s5;simp only[Step.sz,Rows.uptoBulk,Rows.uptoBulkAll,List.map_cons,List.map_nil];omega
  ·have hl:cs.length=6:=by rw[hl,I5]
   have:=kA 0 1 r0 rfl (kA 1 1 r1 rfl (kA 2 1 r2 rfl (kA 3 1 r3 rfl (kA 4 1 r4 rfl (kA 5 1 r5 rfl (Hn hl))))));rw[List.drop_zero] at this;exact this
theorem np:Rep 23 (λl:List Step=>[AV.sl (l.map ZX)]) (λ_=>True) (λl=>szL Step.sz l+1):=
 ⟨λ_=>by rw[JW];rfl,λenc w n cs y h=>by
  obtain ⟨x,_,h2,h3⟩:=(qa (f:=ZX) (q:=λ_=>True) (sz:=Step.sz) Tryz.underlying23 (JW) (yZ) (by rw[I5];decide)).opn enc w n cs y h;exact ⟨x,trivial,h2,h3⟩⟩
theorem c_ {t:TypeId} {α:Type} {f:α->List AV} {q:α->Prop} {sz:α->Nat} (h:Rep t f q sz) {H:Type} {enc:TypeId×Value->H} {w:World} {v:Value} {d:DataW H} {ps:List MemPlace}
  (hd:DataW.Trod enc Tryz.prog w 0 (λ_=>true) true t v d ps):∃x,q x/\sz x≤Rows.uptoBulk d/\RdC w v.cells.toList (f x):=by
 obtain ⟨n,hn⟩:=hd;exact h.opn enc w n _ _ hn
theorem eJ {w:World} {v:Value} {x:AV} (h:RdC w v.cells.toList [x]) (hv:∀cs,v≠.agg cs):RdP (λb=>b<w.heap.size) w v x:=by
 have:=h.2 0 x rfl;cases v with
 | agg cs=>exact absurd rfl (hv cs)
 | _=>exact this
theorem Hm {w:World} {cs:Array Value} {xs:List AV} (h:RdC w (Value.agg cs).cells.toList xs):RdP (λb=>b<w.heap.size) w (.agg cs) (.agg xs):=by
 refine .agg cs xs (by have h1:cs.toList.length=xs.length:=h.1;simpa using h1) λj y hj=>?_
 have:=h.2 j y hj
 rwa [Wv,YQ,←Wx] at this
theorem oH {l:List Int} (h:szL (λ_=>1) l≤1048576):l.length≤100000000:=by rw[tE] at h;omega
theorem pr {l:List Step} (h:szL Step.sz l≤1048576):StepsOK l:=
 ⟨by have:=Cd (sz:=Step.sz) (λr=>by unfold Step.sz;omega) l;omega,λx hx=>by
  have:=Ce (sz:=Step.sz) hx;have h2:x.sz=x.path.length+x.toPath.length+x.data.length+1:=rfl;exact ⟨by omega,by omega⟩⟩
theorem Bh {x:Step} (h:Step.sz x≤1048576):x.path.length≤10000000/\x.toPath.length≤10000000:=by
 unfold Step.sz at h;omega
def put (w:World) (b:Nat) (l:List Value):World:=
 { w with heap:=w.heap.modify b fun
   | .cells _ t frozen=>.cells l.toArray t frozen
   | o=>o }
noncomputable def dh (os:Os):World:=
 put (put (World.holding Tryz.prog os ⟨#[],#[],[]⟩) 1 (Pinned.utf8FirstZ.map λ(n:Nat)=>Value.int .u8 n)) 2 [.int .u8 128,.int .u8 191,.int .u8 160,.int .u8 191,.int .u8 128,.int .u8 159,.int .u8 144,.int .u8 191,.int .u8 128,.int .u8 143,.int .u8 0,.int .u8 0,.int .u8 0,.int .u8 0,.int .u8 0,.int .u8 0,.int .u8 0,.int .u8 0,.int .u8 0,.int .u8 0,.int .u8 0,.int .u8 0,.int .u8 0,.int .u8 0,.int .u8 0,.int .u8 0,.int .u8 0,.int .u8 0,.int .u8 0,.int .u8 0,.int .u8 0,.int .u8 0]
end La
