/- Texts of this claim, part 26: RSameW, WNo, WOwn, PCAct, HofH, PIns, CSort, WWrong, PPlay, OpnE, LaidG. No condition. -/
import Derived.Test.YtmcfbfdonjllaaaGreatDoorZT25
import Derived.ChangeArms
import Derived.Test.YtmcfbfdonjllaaaGreatDoorCards
import Derived.Test.YtmcfbfdonjllaaaGreatDoorTie
import Derived.Deep.DeepHandedRow
import Derived.Lib.LaidTab
set_option maxRecDepth 10000
set_option maxHeartbeats 4000000
set_option linter.unusedSimpArgs false
set_option linter.unusedVariables false
namespace La
open Go Go.Eng Go.Proofs
theorem mf (w:Wor) (ht:Small w.s.tree) (hp:w.s.past.length≤100000000) (hc:∀c,c∈w.cs->SmallC c) (hl:w.cs.length≤100000000):ae Tryz.prog 19 [.agg (aT w),.agg (aT w)] [] (λr _=>r=.bool true):=by
 have h1:=qE w.s ht hp;unfold ZQ at h1;unfold aT;refine ZF tK (Tryz.func19) rfl (λC=>?_);simp only[Tryz.ntmps19,Tryz.results19,go_sem];refine wR ?_;refine wN tK 3 ?_;refine wR ?_;refine wN tK 4 ?_;refine wC Tryz.func36 (hf:=(h1)) (hk:=?_);refine wG tK ?_ k8 j8;refine wDF (hb:=y7) (hk:=?_);refine wG tK ?_;refine ZL (λi:Nat=>i≤w.cs.length) (λi=>w.cs.length-i) (λi=>(24,.int .i64 i)::(5,.any)::u0 25 15 []) (λ_=>[]) 0 z8 ?_ λi hi=>?_
 ·simp only[go_sem];exact ZU w3 w3 w3
 simp only[go_sem];refine wG tK ?_;refine wD (λh=>?_) (λh=>?_)
 ·have hlt:i<w.cs.length:=by simp at h;omega
  have hg:(w.cs.map ZC).getD i []=ZC (w.cs.getD i default):=Fam.getD hlt;have hw:=wi1 (i:=i) z8;have h2:=qD _ (hc _ (YG hlt));generalize w.cs.getD i default=x at hg h2;unfold ZC at h2;refine wG tK ?_;refine ZW ZM ?_;refine ZS rfl ?_;refine sNq tK 10 ?_ ?_ z6 z6 QJ
  ·simp[hg,ZC,hlt]
  refine sC Tryz.func37 (hf:=(h2)) (hk:=?_);refine sN tK 1 ?_;refine sE ?_;refine wKd ?_
  try simp only[go_sem,gA,gB,gC]
  refine wG tK ?_;refine wDF (hb:=y7) (hk:=?_);refine wG tK ?_ w5 k0;refine ZB ⟨i+1,by omega,by omega,ZU ?_ ?_ ?_⟩
  ·simp[go_sem]
  ·simp[go_sem]
  ·simp[go_sem]
 ·refine wG tK ?_;refine wT ?_;rfl
theorem oO (id:Nat) (x:Cli):∀y,y∈ZC x->¬id∈refs y:=λy hy=>by
 have:=List.all_eq_true.1 (List.all_eq_true.1 (uQ id [x]) (ZC x) y7) y hy;simpa using this
theorem Bk (w:Wor) (hst:Small w.s.tree) (hsp:SmallP w.s.past) (hc:∀c,c∈w.cs->SmallC c) (hl:w.cs.length≤100000000):ae Tryz.prog 23 [.agg (aT w)] [] (λr _=>r=.agg (aT w)):=by
 have hso:=ra w.s hst hsp;unfold ZQ at hso;unfold aT;refine ZF tK (Tryz.func23) rfl (λC=>?_);simp only[Tryz.ntmps23,Tryz.results23,go_sem];refine wG tK ?_;refine ZZ 1 rfl (rfl) ?_;simp only[go_sem];refine wG tK ?_;refine wC Tryz.func40 (hf:=(hso)) (hk:=?_);refine wG tK ?_;refine ag (le_empty 22 47 10 z7) ?_;simp only[go_sem];refine ag (kB 3 ([[.sl (w.s.tree.map ZN),.int .i64 w.s.next,.sl (w.s.past.map ZP),.osl 22 10 0 0]]) z6 Q6) ?_;simp only[go_sem];refine ZL (λi:Nat=>i≤w.cs.length) (λi=>w.cs.length-i) (λi=>(5,.any)::(13,.int .i64 i)::u0 14 11 [])
  (λi=>[(3,.cells 35 4 [[.sl (w.s.tree.map ZN),.int .i64 w.s.next,.sl (w.s.past.map ZP),.osl 22 10 0 i]]),(22,.cells 47 10 ((w.cs.take i).map ZC))]) 0 z8 ?_ λi hi=>?_
 ·simp only[go_sem];exact ZU w3 w3 s7
 simp only[go_sem];refine wG tK ?_;refine wD (λh=>?_) (λh=>?_)
 ·have hlt:i<w.cs.length:=by simp at h;omega
  have hw:=wi1 (i:=i) z8;have hg:(w.cs.map ZC).getD i []=ZC (w.cs.getD i default):=Fam.getD hlt;have hs:=di ZC hlt;have hco:=AM _ (hc _ (YG hlt));generalize w.cs.getD i default=x at *;have hl1:(w.cs.take i).length=i:=by rw[Wv];omega
  generalize w.cs.take i=Q at *;subst hl1;have htq:List.take Q.length (Q.map ZC)=Q.map ZC:=Wl y7;unfold ZC at hco;refine wGq tK ?_ ?_ QJ
  ·simp[hg,ZC,hlt]
  refine ZZ 5 rfl (rfl) ?_;simp only[go_sem];refine ZW ZM ?_;refine ZS rfl ?_;refine sN tK 3 ?_;refine sC Tryz.func41 (hf:=(hco)) (hk:=?_);refine sW tK ?_;refine sE ?_;refine jf (bh 22 3 z6 k9) ?_;simp only[go_sem];refine dSq tK ?_ ?_
  ·simp[go_sem,rowsOf,htq,refs];exact ⟨by omega,λx _=>oO _ x⟩
  simp only[go_sem];refine dS tK ?_;refine dS tK ?_;refine wKd ?_
  try simp only[go_sem,gA,gB,gC]
  refine wG tK ?_ w5 k0;refine ZB ⟨Q.length+1,by omega,by omega,ZU ?_ ?_ ?_⟩
  ·simp[go_sem]
  ·simp[go_sem,hs,htq,ZC]
  ·simp only[go_sem]
 ·have e:i=w.cs.length:=by simp at h;omega
  subst e;refine wG tK ?_;refine ZZ 22 rfl (gz _) ?_;simp only[go_sem];refine wT ?_;simp[aT]
theorem ED (w:Wor) (hst:Small w.s.tree) (hsp:SmallP w.s.past) (hc:∀c,c∈w.cs->SmallC c) (hl:w.cs.length≤100000000):ae Tryz.prog 23 [.agg (aT w)] [] (λr H=>r=.agg [.sl (w.s.tree.map ZN),.int .i64 w.s.next,.sl (w.s.past.map ZP),.osl 22 10 0 w.cs.length]/\∀i b,aa [(22,.cells 47 10 (w.cs.map ZC))] i=some b->aa H i=some b):=by
 have hso:=ra w.s hst hsp;unfold ZQ at hso;unfold aT;refine ZF tK (Tryz.func23) rfl (λC=>?_);simp only[Tryz.ntmps23,Tryz.results23,go_sem];refine wG tK ?_;refine ZZ 1 rfl (rfl) ?_;simp only[go_sem];refine wG tK ?_;refine wC Tryz.func40 (hf:=(hso)) (hk:=?_);refine wG tK ?_;refine ag (le_empty 22 47 10 z7) ?_;simp only[go_sem];refine ag (kB 3 ([[.sl (w.s.tree.map ZN),.int .i64 w.s.next,.sl (w.s.past.map ZP),.osl 22 10 0 0]]) z6 Q6) ?_;simp only[go_sem];refine ZL (λi:Nat=>i≤w.cs.length) (λi=>w.cs.length-i) (λi=>(5,.any)::(13,.int .i64 i)::u0 14 11 [])
  (λi=>[(3,.cells 35 4 [[.sl (w.s.tree.map ZN),.int .i64 w.s.next,.sl (w.s.past.map ZP),.osl 22 10 0 i]]),(22,.cells 47 10 ((w.cs.take i).map ZC))]) 0 z8 ?_ λi hi=>?_
 ·simp only[go_sem];exact ZU w3 w3 s7
 simp only[go_sem];refine wG tK ?_;refine wD (λh=>?_) (λh=>?_)
 ·have hlt:i<w.cs.length:=by simp at h;omega
  have hw:=wi1 (i:=i) z8;have hg:(w.cs.map ZC).getD i []=ZC (w.cs.getD i default):=Fam.getD hlt;have hs:=di ZC hlt;have hco:=AM _ (hc _ (YG hlt));generalize w.cs.getD i default=x at *;have hl1:(w.cs.take i).length=i:=by rw[Wv];omega
  generalize w.cs.take i=Q at *;subst hl1;have htq:List.take Q.length (Q.map ZC)=Q.map ZC:=Wl y7;unfold ZC at hco;refine wGq tK ?_ ?_ QJ
  ·simp[hg,ZC,hlt]
  refine ZZ 5 rfl (rfl) ?_;simp only[go_sem];refine ZW ZM ?_;refine ZS rfl ?_;refine sN tK 3 ?_;refine sC Tryz.func41 (hf:=(hco)) (hk:=?_);refine sW tK ?_;refine sE ?_;refine jf (bh 22 3 z6 k9) ?_;simp only[go_sem];refine dSq tK ?_ ?_
  ·simp[go_sem,rowsOf,htq,refs];exact ⟨by omega,λx _=>oO _ x⟩
  simp only[go_sem];refine dS tK ?_;refine dS tK ?_;refine wKd ?_
  try simp only[go_sem,gA,gB,gC]
  refine wG tK ?_ w5 k0;refine ZB ⟨Q.length+1,by omega,by omega,ZU ?_ ?_ ?_⟩
  ·simp[go_sem]
  ·simp[go_sem,hs,htq,ZC]
  ·simp only[go_sem]
 ·have e:i=w.cs.length:=by simp at h;omega
  subst e;refine wG tK ?_;refine wT ?_;simp[go_sem]
end La
namespace La
open Go Go.Eng
theorem iz {l:List Node} (h:Up l) (n:Node) {k:Int} (hk:bg l k=true):bg (aE l n) k=true:=by
 rw[cE] at hk ⊢;rw[oW h];split
 ·rfl
 ·exact hk
theorem sr {W:List Node} (hg:Good W) (hr:Ri W) {b:Act} (hk:b.kind=4) (he:cG W b=0):∃n,n∈cH W b 0/\aU W b n=true:=by
 have hL:cH W b 0=ez (aE W { aA (aq W b.dir) b.name with version:=0 }) b.fid:=by unfold cH;rw[if_pos he]
 unfold cG at he;split at he
 ·rename_i hnm;obtain ⟨d,hf,hgd⟩:=lU hnm;obtain ⟨hd,hdf⟩:=(ZO hg.up).1 hf;have hent:ba d b.name=some b.fid:=by
   unfold bw at hnm;split at hnm
   ·rw[hgd] at hnm;cases e:ba d b.name with
    | none=>rw[e] at hnm;simp at hnm
    | some f=>
     rw[e] at hnm;simp only at hnm;split at hnm
     ·rename_i hff;rw[hff]
     ·simp at hnm
   ·rename_i hne;exact absurd hnm hne
  have hmem:(⟨b.name,b.fid⟩:Entry)∈d.entries:=(YE (hr.eup d hd)).1 hent;obtain ⟨r,hrk⟩:=hg.cX;have hne:d.fid≠b.fid:=λe=>by
   have:=hrk d hd _ hmem;simp only at this;rw[e] at this;omega
  rw[hL,hgd];refine ⟨{ aA d b.name with version:=0 },((gH (bl hg.up _).1 b.fid).2 _).2 ⟨((bl hg.up _).2 _).2 (.inl rfl),hne⟩,?_⟩;have hfd:aj W ({ aA d b.name with version:=0 }:Node).fid=some d:=by show aj W d.fid=_;rw[hdf];exact hf
  have hent2:decide (d.entries=({ aA d b.name with version:=0 }:Node).entries)=false:=by
   refine decide_eq_false λe=>?_
   have h2:(⟨b.name,b.fid⟩:Entry)∈c_ d.entries b.name:=by
    have h3:=hmem;rw[e] at h3;exact h3
   unfold c_ at h2;have:=(Wy.1 h2).2;simp at this
  unfold aU;rw[hfd];simp only[bW,hent2,Bool.and_false,Bool.false_and,Bool.not_false]
 ·rename_i hnm;exact absurd he hnm
theorem Ab {W:List Node} (hg:Good W) (hr:Ri W) {b:Act} (he:aD W b=0) (hno:∀n,n∈aH W b 0->aU W b n=false) {k:Int} (hk:bg W k=true):bg (aH W b 0) k=true:=by
 unfold aD at he;unfold aH at hno ⊢;have hmk:cL W b=0->bg (dD W b 0) k=true:=λh=>by
  unfold dD;rw[if_pos h];exact iz (bl hg.up _).1 _ (iz hg.up _ hk)
 split
 ·rename_i h1;rw[if_pos h1] at he;exact hmk he
 ·rename_i h1;rw[if_neg h1] at he hno;split
  ·rename_i h2;rw[if_pos h2] at he;exact hmk he
  ·rename_i h2;rw[if_neg h2] at he hno;split
   ·unfold eh;split
    ·exact iz hg.up _ hk
    ·exact hk
   ·rename_i h3;rw[if_neg h3] at he hno;split
    ·rename_i h4;rw[if_pos h4] at he hno;obtain ⟨n,hn,hc⟩:=sr hg hr h4 he;rw[hno n hn] at hc;cases hc
    ·split
     ·unfold cW;split
      ·split
       ·exact iz hg.up _ hk
       ·exact iz (bl hg.up _).1 _ (iz hg.up _ hk)
      ·exact hk
     ·exact hk
end La
namespace La
open Go Go.Eng Go.Proofs
theorem qu (l:List Hoard) (hlen:l.length≤100000000) {f:FuncId} {caps:List AV} {p:Hoard->Bool} (hcal:aJ Tryz.prog f) (hpure:(caps.all AV.aY)=true)
  (hf:∀x,x∈l->ae Tryz.prog f (.agg (ZJ x)::caps) [] (λr _=>r=.bool (p x))) :
  ae Tryz.prog 161 [.sl (l.map ZJ),.fn f caps] [] (λr _=>r=.int .i64 (cc (l.findIdx? p))):=by
 have hcaps:=bV hpure;refine ZF tK (Tryz.func161) rfl (λC=>?_);simp only[Tryz.ntmps161,Tryz.results161,go_sem];refine wG tK ?_;refine ZL (λi:Nat=>i≤l.length/\∀x,x∈l.take i->p x=false) (λi=>l.length-i) (λi=>(8,.int .i64 i)::(5,.any)::u0 9 10 []) (λ_=>[]) 0 ⟨by omega,by simp⟩ ?_ λi hi=>?_
 ·simp only[go_sem];exact ZU w3 w3 u1
 obtain ⟨hi,hno⟩:=hi;simp only[go_sem];refine wG tK ?_;refine wD (λh=>?_) (λh=>?_)
 ·have hlt:i<l.length:=by simp at h;omega
  have hn:=hf _ (YG hlt);have hg:(l.map ZJ).getD i []=ZJ (l.getD i default):=Fam.getD hlt;have htk:=ZT hlt;have hgi:l[i]? = some (l.getD i default):=by rw[Wi,Wj hlt];rfl
  generalize l.getD i default=n at hn hg htk hgi;refine wGq tK ?_ ?_ QS
  ·simp[hlt,ZJ]
  refine dG rfl rfl z7 w3 hcal u1 (hn) w3 z6 ?_;refine wG tK ?_;refine wD (λh=>?_) (λh=>?_)
  ·refine wG tK ?_;refine wT ?_;rw[eA hgi hno h];rfl
  ·have hw:IntKind.i64.wrap ((i:Int)+1)=(i:Int)+1:=wrap_small z8 z8;refine wG tK ?_ w5 k0;refine ZB ⟨i+1,⟨by omega,?_⟩,by omega,ZU ?_ ?_ ?_⟩
   ·rw[htk];intro x hx
    rcases List.mem_append.1 hx with hx | hx
    ·exact hno x hx
    ·rw[List.mem_singleton.1 hx];exact h
   ·simp[go_sem]
   ·simp[go_sem]
   ·simp[go_sem,hcaps]
 ·have e:i=l.length:=by simp at h;omega
  refine wG tK ?_;refine wT ?_;rw[e,Wo] at hno;rw[W3.2 hno];rfl
theorem pe (l:List Hoard) (hlen:l.length≤100000000) (id:Nat) {f:FuncId} {caps:List AV} {p:Hoard->Bool} (hcal:aJ Tryz.prog f) (hpure:(caps.all AV.aY)=true) (hid:id≠7)
  (hf:∀x,x∈l->ae Tryz.prog f (.agg (ZJ x)::caps) [] (λr _=>r=.bool (p x))) :
  ae Tryz.prog 115 [.osl id 2 0 l.length,.fn f caps] [(id,.cells 118 2 (l.map ZJ))] (λr H=>r=.osl id 2 0 (l.filter λx=>!p x).length /\
   ∀i b,aa [(id,.cells 118 2 ((l.filter λx=>!p x).map ZJ++List.replicate (l.length-(l.filter λx=>!p x).length) [.str [],.int .i64 0]))] i=some b->aa H i=some b):=by
 have hcaps:=bV hpure;obtain ⟨q,hv,hq⟩:=fx hpure;refine ZF tK (Tryz.func115) rfl (λC=>?_);simp only[Tryz.ntmps115,Tryz.results115,go_sem];refine wG tK ?_;refine mq rfl rfl z7 w3 QZ Zr ⟨_,Tryz.func161,by kernel_rfl,rfl⟩ (qu l hlen hcal hpure hf) w3 z6 ?_;refine wG tK ?_;refine wD (λh=>?_) (λh=>?_)
 ·refine wG tK ?_;refine wT ?_;have hn:l.findIdx? p=none:=by
   cases e:l.findIdx? p with
   | none=>rfl
   | some k=>rw[e] at h;simp[cc] at h
  have hfl:l.filter (λx=>!p x)=l:=W9.2 λx hx=>by
   simp[W3.1 hn x hx]
  rw[hfl];simp[aa]
 obtain ⟨k,hk⟩:∃k,l.findIdx? p=some k:=by
  cases e:l.findIdx? p with
  | none=>rw[e] at h;simp[cc] at h
  | some k=>exact ⟨k,rfl⟩
 have hkl:k<l.length:=(W5.1 hk).1;have hsp:=eR hk;rw[hk];have hw:IntKind.i64.wrap ((k:Int)+1)=((k+1:Nat):Int):=by rw[Eng.wrap_small z8 z8];rfl
 simp only[cc];refine wG tK ?_ w5 k0;refine ZL (λs:Nat×List Hoard=>DelInv p l s.1 s.2) (λs=>l.length-s.1) (λs=>(5,.int .i64 (((l.take s.1).filter λx=>!p x).length:Nat))::(6,.int .i64 (s.1:Nat))::(7,.any)::u0 16 20 []) (λs=>[(id,.cells 118 2 (s.2.map ZJ))]) (k+1,l) (DelInv.start hk) ?_ λs hs=>?_
 ·have el:((l.take (k+1)).filter λx=>!p x).length=k:=by rw[hsp];simp;omega
  simp only[go_sem,el];exact ZU w3 w3 u1
 obtain ⟨j,L⟩:=s;have hjl:=hs.le;have hL:=hs.len;have hlt:=hs.lt;simp only at hs hjl hL hlt;simp only[go_sem];refine wG tK ?_;refine wD (λh=>?_) (λh=>?_)
 ·have hj:j<l.length:=by simp at h;omega
  have hn:=hf _ (YG hj);have hg:(L.map ZJ).getD j []=ZJ (l.getD j default):=by rw[Fam.getD z8,hs.get hj]
  have hkeep:=hs.DD hj;have hskip:=hs.skip hj;have htk:=ZT hj;generalize l.getD j default=n at hn hg hkeep hskip htk;refine wGq tK ?_ ?_ (by simp only[go_sem,hg,ZJ,hid,Ne.symm hid];try exact rfl)
  ·simp[ZJ];omega
  refine dG rfl rfl z7 w3 hcal u1 (hn) w3 z6 ?_;generalize hm:((l.take j).filter λx=>!p x).length=m at hkeep hlt;have hw1:IntKind.i64.wrap ((j:Int)+1)=((j+1:Nat):Int):=by rw[Eng.wrap_small z8 z8];rfl
  have hw2:IntKind.i64.wrap ((m:Int)+1)=((m+1:Nat):Int):=by rw[Eng.wrap_small z8 z8];rfl
  refine wG tK ?_ QW Z4;refine wD (λh=>?_) (λh=>?_)
  ·have hp:p n=false:=by simpa using h
   obtain ⟨hk1,hk2⟩:=hkeep hp;have aQ:=oC ZJ L m n;simp only[ZJ] at aQ;have hgl:(L.map ZJ).getD m []=ZJ (L.getD m default):=Fam.getD z8;simp only[ZJ] at hgl;refine wGq tK ?_ ?_ s9
   ·simp[hid,Ne.symm hid];omega
   refine ZB ⟨(j+1,L.set m n),hk1,by simp only;omega,ZU ?_ ?_ ?_⟩
   ·simp[go_sem,hk2]
   ·simp[go_sem,hid,Ne.symm hid,aQ]
   ·simp[go_sem,hcaps,-List.map_set]
  ·have hp:p n=true:=by simpa using h
   refine wG tK ?_ QD Qb;have hsame:((l.take (j+1)).filter λx=>!p x).length=m:=by
    rw[←hm,htk,List.filter_append];simp only[List.filter_cons,hp,Bool.not_true,Bool.false_eq_true,if_false,List.filter_nil,List.append_nil]
   refine ZB ⟨(j+1,L),hskip hp,by simp only;omega,ZU ?_ ?_ ?_⟩
   ·simp[go_sem,hsame,hm]
   ·simp[go_sem,hid,Ne.symm hid]
   ·simp[go_sem,hcaps]
 have e:j=l.length:=by simp at h;omega
 subst e;have hfin:=hs.fin;rw[Wo];generalize hd:(l.filter λx=>!p x)=d at *;have hdl:d.length≤l.length:=by rw[←hd];exact Wr _ _
 have hcl:=iF ZJ (d:=d) (L:=L) [.str [],.int .i64 0] hfin z8;rw[hL] at hcl;refine wGq tK ?_ ?_ QE
 ·simp only[not_false_eq_true,true_and];omega
 refine wT ?_;simp[aa]
end La
namespace La
open Go Go.Eng
def eqW (w:Int) (l:List Hoard):List Hoard:=l.filter λh=>h.worth==w
theorem qN (w:Int) (l m:List Hoard):eqW w (l++m)=eqW w l++eqW w m:=List.filter_append l m
structure Stab (l P:List Hoard):Prop where
 same:∀w,eqW w P=eqW w l
 cX:P.Pairwise λa b=>b.worth≤a.worth
 mem:∀h,h∈P->h∈l
 len:P.length=l.length
theorem Stab.nil:Stab [] []:=⟨λ_=>rfl,List.Pairwise.nil,λ_ h=>h,rfl⟩
theorem Stab.ins {l P Q:List Hoard} {x:Hoard} (h:Stab l (P++Q)) (hP:∀p,p∈P->x.worth≤p.worth) (hQ:∀q,q∈Q->q.worth<x.worth):Stab (l++[x]) (P++x::Q):=by
 refine ⟨λw=>?_,?_,λy hy=>?_,?_⟩
 ·rw[qN w l,←h.same w,qN w P,qN w P]
  show _++eqW w ([x]++Q)=_
  rw[qN]
  by_cases e:x.worth=w
  ·have:eqW w Q=[]:=by
    unfold eqW;rw[List.filter_eq_nil_iff];intro q hq;have:=hQ q hq;simp;omega
   rw[this];simp
  ·have:eqW w [x]=[]:=by
    unfold eqW;rw[List.filter_eq_nil_iff];intro q hq;rw[List.mem_singleton.1 hq];simpa using e
   rw[this];simp
 ·have hf:=List.pairwise_append.1 h.cX;refine List.pairwise_append.2 ⟨hf.1,List.pairwise_cons.2 ⟨λq hq=>by have:=hQ q hq;omega,hf.2.1⟩,λp hp y hy=>?_⟩
  rcases List.mem_cons.1 hy with rfl | hy
  ·exact hP p hp
  ·exact hf.2.2 p hp y hy
 ·rcases List.mem_append.1 hy with hy | hy
  ·exact W2 _ (h.mem y (W2 _ hy))
  ·rcases List.mem_cons.1 hy with rfl | hy
   ·simp
   ·exact W2 _ (h.mem y (Ww _ hy))
 ·have:=h.len;simp only[List.length_append,List.length_cons,List.length_nil] at this ⊢;omega
theorem qd:∀(n:Nat) (P:List Hoard),P.Pairwise (λa b=>b.worth≤a.worth)->(∀h,h∈P->1≤h.worth)->bq P n=P.filter λh=>decide (h.worth≤(n:Int))
 | 0,P,_,hm=>by
  unfold bq
  symm
  rw[List.filter_eq_nil_iff];intro h hh;have:=hm h hh;simp;omega
 | n+1,P,hs,hm=>by
  rw[bq,qd n P hs hm];clear hm
  induction P with
  | nil=>rfl
  | cons p r ih=>
   have ih:=ih (List.pairwise_cons.1 hs).2;have hp:=(List.pairwise_cons.1 hs).1;rw[List.filter_cons,List.filter_cons,List.filter_cons]
   by_cases h1:p.worth=((n+1:Nat):Int)
   ·rw[if_pos Q7,if_neg j0,if_pos j0,List.cons_append,ih]
   ·rw[if_neg Q7]
    by_cases h2:p.worth≤(n:Int)
    ·rw[if_pos WH,if_pos j0,←ih];have:r.filter (λh=>h.worth==((n+1:Nat):Int))=[]:=by
      rw[List.filter_eq_nil_iff];intro q hq;have:=hp q hq;simp;omega
     rw[this];rfl
    ·rw[if_neg WH,if_neg j0,ih]
theorem qb {l P:List Hoard} (h:∀w,eqW w P=eqW w l):∀n,bq P n=bq l n
 | 0=>rfl
 | n+1=>by
  unfold bq;rw[qb h n];exact congrArg (·++_) (h _)
theorem Stab.order {l P:List Hoard} (h:Stab l P) (hw:∀x,x∈l->1≤x.worth/\x.worth≤100):P=bq l 100:=by
 rw[←qb h.same 100,qd 100 P h.cX λx hx=>(hw x (h.mem x hx)).1]
 symm
 rw[W9];intro x hx;have:=(hw x (h.mem x hx)).2;simp;omega
end La
namespace La
open Go Go.Eng Go.Proofs
def hoH (l:List Hoard) (id:Nat) (G Y N:Nat->Nat):List (Nat×Blk):=[(id,.cells 118 2 (l.map ZJ))]++pins [id] G Y N
theorem FU (a b:Hoard) (ha:1≤a.worth/\a.worth≤100) (hb:1≤b.worth/\b.worth≤100):ae Tryz.prog 118 [.agg (ZJ a),.agg (ZJ b)] [] (λr _=>r=.int .i64 (b.worth-a.worth)):=by
 have hw:IntKind.i64.wrap (b.worth-a.worth)=b.worth-a.worth:=Eng.wrap_small z8 z8;unfold ZJ;refine ZF tK (Tryz.func118) rfl (λC=>?_);simp only[Tryz.ntmps118,Tryz.results118,go_sem];refine wG tK ?_ w5 k0;refine wT ?_;rfl
def gW (M T:List Hoard):List Hoard:=M++T
def iZ (A:List Hoard) (x:Hoard) (T:List Hoard):List Hoard:=A++x::T
theorem xn (A:List Hoard) (x:Hoard) (T:List Hoard):(iZ A x T).length=A.length+1+T.length:=by unfold iZ;rw[List.length_append,List.length_cons];omega
theorem vg (A:List Hoard) (x:Hoard) (T:List Hoard):((iZ A x T).map ZJ).getD A.length []=[.str x.path,.int .i64 x.worth]:=by
 have:((iZ A x T).map ZJ).getD A.length []=ZJ ((iZ A x T).getD A.length default):=Fam.getD (by rw[xn];omega);rw[this];unfold iZ;rw[Wi,W1 z8,YY];rfl
theorem xo (A:List Hoard) (x y:Hoard) (T:List Hoard):((iZ A x T).map ZJ).set A.length [.str y.path,.int .i64 y.worth]=(iZ A y T).map ZJ:=by
 show List.set _ _ (ZJ y)=_
 unfold iZ;rw[←List.map_set,List.set_append_right _ _ z8,YY];rfl
theorem rT (A:List Hoard) (y x:Hoard) (T:List Hoard):iZ (A++[y]) x T=iZ A y (x::T):=by unfold iZ;simp
theorem Dw (l:List Hoard) (hlen:l.length≤19) (hwo:∀h,h∈l->1≤h.worth/\h.worth≤100) (G Y N:Nat->Nat):ae Tryz.prog 190 [.osl 1000 2 0 l.length,.int .i64 0,.int .i64 l.length,.fn 118 []] (hoH l 1000 G Y N)
  (λr H=>r=.tup []/\Holds (hoH (bq l 100) 1000 G Y N) H):=by
 unfold hoH;refine ZF tK (Tryz.func190) rfl (λC=>?_);simp only[Tryz.ntmps190,Tryz.results190,go_sem];refine wG tK ?_;refine ZL (λq:Nat×List Hoard=>0<q.1/\(q.1≤l.length\/q.1=1)/\Stab (l.take q.1) q.2) (λq=>l.length+1-q.1) (λq=>(8,.int .i64 q.1)::(9,.any)::u0 12 41 []) (λq=>[(1000,.cells 118 2 ((gW q.2 (l.drop q.1)).map ZJ))]) (1,l.take 1) ⟨by simp,by simp,?_⟩ ?_ λq hq=>?_
 ·cases l with
  | nil=>exact Stab.nil
  | cons x r=>exact Stab.ins (P:=[]) (Q:=[]) Stab.nil (λp hp=>by cases hp) (λp hp=>by cases hp)
 ·have e0:gW (l.take 1) (l.drop 1)=l:=Yc 1 l;simp only[go_sem,e0];exact ZU (by simp[go_sem];decide) w3 w3
 obtain ⟨i,M⟩:=q;obtain ⟨hi0,hi,hst⟩:=hq;simp only at hi0 hi hst;simp only[go_sem];refine wG tK ?_;refine wD (λh=>?_) (λh=>?_)
 ·have hlt:i<l.length:=by simp at h;omega
  have hw:=wi1 (i:=i) z8;have hMl:M.length=i:=by rw[hst.len,Wv];omega
  have htk:=ZT hlt;have hdr:gW M (l.drop i)=iZ M (l.getD i default) (l.drop (i+1)):=by unfold gW iZ;rw[b_ hlt]
  have hxw:=hwo _ (YG hlt);have hMw:∀p,p∈M->1≤p.worth/\p.worth≤100:=λp hp=>hwo p (Wx (hst.mem p hp))
  rw[hdr];have hRl:(l.drop (i+1)).length≤19:=by rw[YJ];omega
  generalize hR:l.drop (i+1)=R at *;generalize l.getD i default=x at *;refine wG tK ?_;refine ZL (λq:List Hoard×List Hoard=>q.1++q.2=M/\∀p,p∈q.2->p.worth<x.worth) (λq=>q.1.length) (λq=>(9,.int .i64 q.1.length)::u0 18 35 []) (λq=>[(1000,.cells 118 2 ((iZ q.1 x (gW q.2 R)).map ZJ))]) (M,[]) ⟨by simp,λp hp=>by cases hp⟩ ?_ λq hq=>?_
  ·have e0:gW [] R=R:=rfl;simp only[go_sem,e0];exact ZU (by simp[go_sem,hMl]) w3 w3
  obtain ⟨A,B⟩:=q;obtain ⟨hAB,hB⟩:=hq;simp only at hAB hB;have hAl:A.length≤19:=by have:=congrArg List.length hAB;simp at this;omega
  have hback:(∀p,p∈A->x.worth≤p.worth)->Stab (l.take (i+1)) (A++x::B):=λh=>by rw[htk];rw[←hAB] at hst;exact Stab.ins hst h hB
  have hout:gW (A++x::B) R=iZ A x (gW B R):=by unfold gW iZ;simp
  have hout2:gW (A++x::B) (l.drop (i+1))=iZ A x (gW B R):=by rw[hR];exact hout
  simp only[go_sem];refine wG tK ?_
  rcases List.eq_nil_or_concat A with hA | ⟨A',y,hA⟩
  ·subst hA;refine ZW ZM ?_;refine ZS rfl ?_;refine sN tK 4 ?_;refine dW 21 z6 (λc21 h21=>?_);simp only[go_sem];have hc:c21=false:=by rw[←h21];simp
   subst hc
   iterate 11 refine sS ?_
   refine sSB ?_;refine sN tK 1 ?_;refine sE ?_;refine wKd ?_
   try simp only[go_sem,gA,gB,gC]
   refine wDF (hb:=(rfl)) (hk:=?_);refine wG tK ?_ w5 k0;refine ZB ⟨(i+1,[]++x::B),⟨by simp only;omega,by simp only;omega,hback λp hp=>by cases hp⟩,by simp only;omega,ZU ?_ ?_ ?_⟩
   ·simp[go_sem]
   ·rw[hout2];simp[go_sem]
   ·simp[go_sem]
  ·rw[List.concat_eq_append] at hA;subst hA;have hj:((A'++[y]).length:Int)=((A'.length+1:Nat):Int):=by simp
   have hjn:(A'++[y]).length=A'.length+1:=by simp
   have hwm:IntKind.i64.wrap (((A'.length+1:Nat):Int)-1)=((A'.length:Nat):Int):=by rw[Eng.wrap_small z8 z8];omega
   have hyw:=hMw y (by rw[←hAB];simp);have hcmp:=FU x y hxw hyw;unfold ZJ at hcmp;have hg:=vg (A'++[y]) x (gW B R);rw[hjn] at hg;have hgm:=vg A' y (x::gW B R);rw[←rT] at hgm;have hT:(gW B R).length≤60:=by
    have:=congrArg List.length hAB;unfold gW;simp at this ⊢;omega
   have hAi:A'.length+1<l.length:=by have:=congrArg List.length hAB;simp at this;omega
   have hlen2:=xn (A'++[y]) x (gW B R);have hs1:=xo (A'++[y]) x y (gW B R);rw[hjn] at hlen2 hs1;have hs2:=xo A' y x (y::gW B R);rw[←rT] at hs2;have hgm2:=vg A' y (y::gW B R);rw[←rT] at hgm2;have hnext:iZ A' x (gW (y::B) R)=iZ A' x (y::gW B R):=rfl;generalize iZ (A'++[y]) x (gW B R)=Q1 at *;generalize iZ (A'++[y]) y (gW B R)=Q2 at *;rw[hjn];refine ZW ZM ?_;refine ZS rfl ?_;refine sN tK 4 ?_;refine dW 21 z6 (λc21 h21=>?_);simp only[go_sem];have hc:c21=true:=by rw[←h21];simp
   subst hc;refine sNq tK 10 ?_ ?_ z6 z6 (by simp only[go_sem,hg,hgm,hwm,ZJ];try exact rfl)
   ·simp[hg,hgm,hwm,ZJ,hlen2];try omega
   refine sCC Tryz.func118 (hf:=λhb=>(hcmp)) (hk:=?_);refine sN tK 2 ?_;refine sE ?_;refine wKd ?_
   try simp only[go_sem,gA,gB,gC]
   refine wD (λh=>?_) (λh=>?_)
   ·have hyx:y.worth<x.worth:=by simp at h;omega
    refine wG tK ?_;refine ZW ZM ?_;refine je 2 [0,1,3,4,5,6,7,8,9,10,11,12,13,14,15,16,17] [0,1,0,2,3,4,5,6,7,8,9,10,11,12,13,14,15,16] rfl rfl rfl (λ_ _ _ h=>h) w4 w4 x6 z7 ?_
    try simp only[go_sem,gA,gB,gC]
    refine ZS rfl ?_;refine sNq tK 14 ?_ ?_ z6 z6 (by simp only[go_sem,hg,hgm,hwm];try exact rfl)
    ·simp[hg,hgm,hwm,hlen2];try omega
    refine kg tK rfl rfl z7 z7 z7 Qz z6 ?_ z6 z6 z6 ?_
    ·simp[hg,hgm,hwm,hlen2];try omega
    refine sNq tK 1 ?_ ?_
    ·simp[hg,hgm,hwm,hlen2];try omega
    refine kg tK rfl rfl z7 z7 z7 Qz z6 ?_ z6 z6 z6 ?_
    ·simp[hg,hgm,hwm,hlen2];try omega
    refine sE ?_;refine wKd ?_
    try simp only[go_sem,gA,gB,gC]
    refine wG tK ?_ (by simp only[go_sem,hwm,hg,hgm,hs1,hgm2,hs2];try exact rfl) (by simp[go_sem,hwm,hg,hgm,hs1,hgm2,hs2]);refine ZB ⟨(A',y::B),⟨by rw[←hAB];simp,λp hp=>?_⟩,by simp,ZU ?_ ?_ ?_⟩
    ·rcases List.mem_cons.1 hp with rfl | hp
     ·exact hyx
     ·exact hB p hp
    ·simp[go_sem]
    ·simp[go_sem,hnext]
    ·simp[go_sem]
   ·have hyx:x.worth≤y.worth:=by simp at h;omega
    refine wG tK ?_ w5 k0;refine ZB ⟨(i+1,(A'++[y])++x::B),⟨by simp only;omega,by simp only;omega,hback λp hp=>?_⟩,by simp only;omega,ZU ?_ ?_ ?_⟩
    ·have hf:=hst.cX;rw[←hAB,List.pairwise_append] at hf
     rcases List.mem_append.1 hp with hp | hp
     ·have:=(List.pairwise_append.1 hf.1).2.2 p hp y y7;omega
     ·rw[List.mem_singleton.1 hp];exact hyx
    ·simp[go_sem]
    ·rw[hout2];simp[go_sem]
    ·simp[go_sem]
 ·have e:l.take i=l:=Wl (by simp at h;omega);rw[e] at hst;have hM:=hst.order hwo;have e0:gW M (l.drop i)=bq l 100:=by unfold gW;rw[Ya (by simp at h;omega),List.append_nil,hM]
  rw[e0];refine wG tK ?_;refine kn ⟨_,_,rfl,trivial,.tup [],.inr (.inl rfl),rfl,?_⟩;simp only[pins,List.cons_append,List.nil_append,List.map_cons,List.map_nil]
  repeat' refine ZH ?_ ?_
  all_goals first | exact YH _ | rfl | simp[go_sem]
theorem zi (l:List Hoard) (hne:¬l=[]) (hlen:l.length≤19) (hwo:∀h,h∈l->1≤h.worth/\h.worth≤100) (G Y N:Nat->Nat):ae Tryz.prog 162 [.osl 1000 2 0 l.length,.int .i64 l.length,.fn 118 []] (hoH l 1000 G Y N)
  (λr H=>r=.tup []/\Holds (hoH (bq l 100) 1000 G Y N) H):=by
 have hs:=Dw l hlen hwo;unfold hoH at hs;unfold hoH;refine ZF tK (Tryz.func162) rfl (λC=>?_);simp only[Tryz.ntmps162,Tryz.results162,go_sem];refine wG tK ?_;refine ZL (λ_:Unit=>True) (λ_=>0) (λ_=>u0 11 12 []) (λ_=>[]) () trivial ?_ λ_ _=>?_
 ·simp only[go_sem];exact ZU w3 w3 w3
 simp only[go_sem];refine wG tK ?_;refine wDF (hb:=j0) (hk:=?_);refine wG tK ?_;refine bP rfl (dQ rfl z7 w3 ⟨_,Tryz.func190,by kernel_rfl,rfl⟩ [1000] w8 w3 y7 Zb w3 w3 (hs) w9) ?_;refine wG tK ?_;refine ZL (λ_:Unit=>True) (λ_=>0) (λ_=>u0 28 35 []) (λ_=>[]) () trivial ?_ λ_ _=>?_
 ·simp only[go_sem];exact ZU w3 w3 w3
 simp only[go_sem];refine wG tK ?_;refine wDF (hb:=j0) (hk:=?_);refine wG tK ?_;refine kn ⟨_,_,rfl,trivial,.tup [],.inr (.inl rfl),rfl,?_⟩;simp only[pins,List.cons_append,List.nil_append,List.map_cons,List.map_nil]
 repeat' refine ZH ?_ ?_
 all_goals first | exact YH _ | rfl | simp[go_sem]
theorem Dx (l:List Hoard) (hne:¬l=[]) (hlen:l.length≤19) (hwo:∀h,h∈l->1≤h.worth/\h.worth≤100) (G Y N:Nat->Nat):ae Tryz.prog 117 [.osl 1000 2 0 l.length,.fn 118 []] (hoH l 1000 G Y N)
  (λr H=>r=.tup []/\Holds (hoH (bq l 100) 1000 G Y N) H):=by
 have hs:=zi l hne hlen hwo;unfold hoH at hs;unfold hoH;refine ZF tK (Tryz.func117) rfl (λC=>?_);simp only[Tryz.ntmps117,Tryz.results117,go_sem];refine wG tK ?_;refine bP rfl (dQ rfl z7 w3 ⟨_,Tryz.func162,by kernel_rfl,rfl⟩ [1000] w8 w3 y7 Zb w3 w3 (hs) w9) ?_;refine wG tK ?_;refine kn ⟨_,_,rfl,trivial,.tup [],.inr (.inl rfl),rfl,?_⟩;simp only[pins,List.cons_append,List.nil_append,List.map_cons,List.map_nil]
 repeat' refine ZH ?_ ?_
 all_goals first | exact YH _ | rfl | simp[go_sem]
theorem BC:ae Tryz.prog 190 [.sl [],.int .i64 0,.int .i64 0,.fn 118 []] [] (λr _=>r=.tup []):=by
 refine ZF tK (Tryz.func190) rfl (λC=>?_);simp only[Tryz.ntmps190,Tryz.results190,go_sem];refine wG tK ?_;refine ZL (λ_:Unit=>True) (λ_=>0) (λ_=>[]) (λ_=>[]) () trivial ?_ λ_ _=>?_
 ·simp only[go_sem];exact ZU w3 w3 w3
 simp only[go_sem];refine wG tK ?_;refine wDF (hb:=u5) (hk:=?_);refine wG tK ?_;refine kn ⟨_,_,rfl,trivial,.tup [],.inr (.inl rfl),rfl⟩
theorem xm:ae Tryz.prog 162 [.sl [],.int .i64 0,.fn 118 []] [] (λr _=>r=.tup []):=by
 refine ZF tK (Tryz.func162) rfl (λC=>?_);simp only[Tryz.ntmps162,Tryz.results162,go_sem];refine wG tK ?_;refine ZL (λ_:Unit=>True) (λ_=>0) (λ_=>[]) (λ_=>[]) () trivial ?_ λ_ _=>?_
 ·simp only[go_sem];exact ZU w3 w3 w3
 simp only[go_sem];refine wG tK ?_;refine wDF (hb:=u5) (hk:=?_);refine wG tK ?_;refine wC Tryz.func190 (hf:=(BC)) (hk:=?_);refine wG tK ?_;refine ZL (λ_:Unit=>True) (λ_=>0) (λ_=>[]) (λ_=>[]) () trivial ?_ λ_ _=>?_
 ·simp only[go_sem];exact ZU w3 w3 w3
 simp only[go_sem];refine wG tK ?_;refine wDF (hb:=u5) (hk:=?_);refine wG tK ?_;refine kn ⟨_,_,rfl,trivial,.tup [],.inr (.inl rfl),rfl⟩
theorem BD:ae Tryz.prog 117 [.sl [],.fn 118 []] [] (λr _=>r=.tup []):=by
 refine ZF tK (Tryz.func117) rfl (λC=>?_);simp only[Tryz.ntmps117,Tryz.results117,go_sem];refine wG tK ?_;refine wC Tryz.func162 (hf:=(xm)) (hk:=?_);refine wG tK ?_;refine kn ⟨_,_,rfl,trivial,.tup [],.inr (.inl rfl),rfl⟩
theorem mQ (d:List Hoard) (hd:d.length≤100000000):ae Tryz.prog 70 [.sl (d.map ZJ)] [] (λr H=>r=.osl 7 2 0 d.length/\∀i b,aa [(7,.cells 118 2 (d.map ZJ))] i=some b->aa H i=some b):=by
 refine ZF tK (Tryz.func70) rfl (λC=>?_);simp only[Tryz.ntmps70,Tryz.results70,go_sem];refine wG tK ?_;refine lC tK rfl rfl rfl u6 u6 (λb hb=>?_);simp only[go_sem];refine wG tK ?_;refine wD (λh=>?_) (λh=>?_)
 ·have hd0:d=[]:=by
   have:=hb h;cases d with
   | nil=>rfl
   | cons x r=>simp at this
  subst hd0;refine wG tK ?_;refine ag (le_empty 7 118 2 z7) ?_;simp only[go_sem];refine ko ⟨_,_,z7,by simp[go_sem],.osl 7 2 0 0,.inr (.inr ⟨rfl,.inr ⟨7,2,0,rfl⟩⟩),?_⟩;simp[go_sem]
 ·refine wGq tK ?_ ?_
  ·simp;omega
  refine wT ?_;simp[go_sem]
theorem tc (rooms:List Int) (hr:rooms.length≤100000000):ae Tryz.prog 20 [.sl (rooms.map ZI)] [] (λr _=>r=.int .i64 (bB rooms)):=by
 have hE:bB rooms=if rooms.length<1\/3<rooms.length then 5 else if rooms.all (λn=>decide (3≤n)&&decide (n≤24)) then 0 else 3:=rfl;generalize bB rooms=E at *;refine ZF tK (Tryz.func20) rfl (λC=>?_);simp only[Tryz.ntmps20,Tryz.results20,go_sem];refine wR ?_;refine wN tK 1 ?_;refine wR ?_;refine wN tK 8 ?_;refine ak 12 z6 (λc12 h12=>?_);simp only[go_sem];have hc:c12=true↔(rooms.length<1\/3<rooms.length):=by
  rw[←h12]
  by_cases h1:rooms.length<1
  ·simp[h1];omega
  ·simp[h1];omega
 clear h12;refine wG tK ?_
 by_cases hb:rooms.length<1\/3<rooms.length
 ·rw[if_pos hb] at hE;subst hE;refine wDT (hb:=(hc.2 hb)) (hk:=?_);refine wG tK ?_;refine wT ?_;rfl
 ·rw[if_neg hb] at hE;refine wDF (hb:=(by simpa using λh0=>hb (hc.1 h0))) (hk:=?_);refine wG tK ?_;refine ZL (λi:Nat=>i≤rooms.length/\(rooms.take i).all (λn=>decide (3≤n)&&decide (n≤24))=true) (λi=>rooms.length-i) (λi=>(4,.any)::(15,.int .i64 i)::u0 16 10 []) (λ_=>[]) 0 ⟨by omega,rfl⟩ ?_ λi hi=>?_
  ·simp only[go_sem];exact ZU w3 w3 w3
  obtain ⟨hi,hall⟩:=hi;simp only[go_sem];refine wG tK ?_;refine wD (λh=>?_) (λh=>?_)
  ·have hlt:i<rooms.length:=by simp at h;omega
   have hg:(rooms.map ZI).getD i []=[.int .i64 (rooms.getD i 0)]:=by
    rw[Wi,Wm,Wi,Wj hlt];rfl
   have how':=wi1 (i:=i) z8;have htk:rooms.take (i+1)=rooms.take i++[rooms.getD i 0]:=by
    rw[List.take_add_one,Wi,Wj hlt];rfl
   generalize hn:rooms.getD i 0=n at *;refine wR ?_;refine wNq tK 3 ?_ ?_ z6 z6 v7
   ·simp[hg,hlt]
   refine wR ?_;refine wN tK 6 ?_;refine ak 24 z6 (λc24 h24=>?_);simp only[go_sem];have hc3:c24=true↔¬(3≤n/\n≤24):=by
    rw[←h24]
    by_cases h1:n<3
    ·simp[h1];omega
    ·simp[h1];omega
   clear h24;refine wG tK ?_
   by_cases hok:3≤n/\n≤24
   ·refine wDF (hb:=(by simpa using λh0=>hc3.1 h0 hok)) (hk:=?_);refine wG tK ?_ j5 Qf;refine ZB ⟨i+1,⟨by omega,by rw[htk,List.all_append,hall];simp[hok]⟩,by omega,ZU ?_ ?_ ?_⟩
    ·simp[go_sem]
    ·simp[go_sem]
    ·simp[go_sem]
   ·have hE3:E=3:=by
     rw[hE,if_neg];simp only[List.all_eq_true,Bool.and_eq_true,decide_eq_true_eq];intro hx;have:=hx n (by rw[←hn,Wi,Wj hlt];exact YO _);exact hok this
    subst hE3;refine wDT (hb:=(hc3.2 hok)) (hk:=?_);refine wG tK ?_;refine wT ?_;rfl
  ·have e:i=rooms.length:=by simp at h;omega
   subst e;rw[Wo] at hall;rw[if_pos hall] at hE;subst hE;refine wG tK ?_;refine wT ?_;rfl
theorem re (rooms:List Int) (hr:rooms.length≤100000000):ae Tryz.prog 17 [.sl (rooms.map ZI)] [] (λr _=>r=pX rooms):=by
 have hns:=GA;unfold ZQ at hns;have hwr:=tc rooms hr;have hsu:=sd rooms;have hle:=uj rooms;have h0:jX rooms 0=[]:=rfl;have hW:pX rooms=.tup [.agg (aT (if bB rooms=0 then ⟨Ik,jX rooms rooms.length⟩ else mZ)),.int .i64 (bB rooms)]:=rfl;have hE:bB rooms=0->rooms.length≤3:=λh=>by
  unfold bB at h;split at h
  ·cases h
  ·omega
 rw[hW];generalize bB rooms=E at *;generalize jX rooms=P at *;clear hW;refine ZF tK (Tryz.func17) rfl (λC=>?_);simp only[Tryz.ntmps17,Tryz.results17,go_sem];refine wG tK ?_;refine wC Tryz.func20 (hf:=(hwr)) (hk:=?_);refine wG tK ?_
 by_cases hb:E=0
 ·have h3:=hE hb;subst hb;refine wDF (hb:=y7) (hk:=?_);refine wG tK ?_;refine wC Tryz.func33 (hf:=(hns)) (hk:=?_);refine wG tK ?_;refine ag (le_empty 29 47 10 z7) ?_;simp only[go_sem];refine ag (kB 5 ([[.sl ([h_].map ZN),.int .i64 1,.sl [],.osl 29 10 0 0]]) z6 Q6) ?_;simp only[go_sem];refine ZL (λi:Nat=>i≤rooms.length) (λi=>rooms.length-i) (λi=>(6,.any)::(7,.any)::(18,.int .i64 i)::u0 19 13 [])
   (λi=>[(5,.cells 35 4 [[.sl ([h_].map ZN),.int .i64 1,.sl [],.osl 29 10 0 (P i).length]]),(29,.cells 47 10 ((P i).map ZC))]) 0 z8 ?_ λi hi=>?_
  ·rw[h0];simp only[go_sem];exact ZU w3 w3 w3
  simp only[go_sem];refine wG tK ?_;refine wD (λh=>?_) (λh=>?_)
  ·have hlt:i<rooms.length:=by simp at h;omega
   have hg:(rooms.map ZI).getD i []=[.int .i64 (rooms.getD i 0)]:=by
    rw[Wi,Wm,Wi,Wj hlt];rfl
   have how':=wi1 (i:=i) z8;have hs1:=hsu i;have hl1:=hle i;generalize hn:rooms.getD i 0=n at *;have hcn:=FE (i:Int) n;generalize P i=Q at *;have htq:List.take Q.length (Q.map ZC)=Q.map ZC:=Wl y7;unfold ZC at hcn;refine wR ?_;refine wNq tK 5 ?_ ?_ z6 z6 v7
   ·simp[hg,hlt]
   refine ZW ZM ?_;refine ZS rfl ?_;refine sN tK 4 ?_;refine sC Tryz.func34 (hf:=(hcn)) (hk:=?_);refine sW tK ?_;refine sE ?_;refine jf (bh 29 5 z6 k9) ?_;simp only[go_sem];refine dSq tK ?_ ?_
   ·simp[go_sem,rowsOf,htq,refs];exact ⟨by omega,λx _=>oO _ x⟩
   simp only[go_sem];refine dS tK ?_;refine dS tK ?_;refine wKd ?_
   try simp only[go_sem,gA,gB,gC]
   refine wG tK ?_ j5 Qf;refine ZB ⟨i+1,by omega,by omega,ZU ?_ ?_ ?_⟩
   ·simp[go_sem]
   ·simp[go_sem,hs1,htq,ZC,pt]
   ·simp[go_sem]
  ·have e:i=rooms.length:=by simp at h;omega
   subst e;have hl1:=hle rooms.length;generalize P rooms.length=Q at *;have htq:List.take Q.length (Q.map ZC)=Q.map ZC:=Wl y7;refine wG tK ?_;refine ZZ 29 rfl (gz _) ?_;simp only[go_sem,htq];refine wT ?_;rfl
 ·refine wDT (hb:=(by simp[hb])) (hk:=?_);refine wG tK ?_;refine ag (au 2) ?_;simp only[go_sem];refine wT ?_;rw[if_neg hb];rfl
end La
namespace La
open Go Go.Eng
noncomputable def rsW:Wor->List Step->List Reply
 | _,[]=>[]
 | w,x::l=>(cg w x).r::rsW (cg w x).w l
noncomputable def iV (w:Wor) (l:List Step):Wor:=l.foldl (λw x=>(cg w x).w) w
theorem qY:∀(l:List Step) (w:Wor),(rsW w l).length=l.length
 | [],_=>rfl
 | x::l,w=>by unfold rsW;rw[List.length_cons,List.length_cons,qY l]
theorem vN:∀(l m:List Step) (w:Wor),rsW w (l++m)=rsW w l++rsW (iV w l) m
 | [],m,w=>rfl
 | x::l,m,w=>by
  show (cg w x).r::rsW (cg w x).w (l++m)=_
  rw[vN l m];rfl
theorem Ei (l m:List Step) (w:Wor):iV w (l++m)=iV (iV w l) m:=by unfold iV;rw[List.foldl_append]
def iQ (rooms:List Int) (l:List Step):Int:=if bB rooms≠0 then bB rooms else if 80<l.length then 5 else 0
noncomputable def xZ (rooms:List Int) (l:List Step):Wor:=if iQ rooms l=0 then iV (dp rooms) l else ⟨⟨[],0,[]⟩,[]⟩
noncomputable def xY (rooms:List Int) (l:List Step):List Reply:=if iQ rooms l=0 then rsW (dp rooms) l else []
theorem so {rooms:List Int} {l:List Step} (h:iQ rooms l=0):bB rooms=0/\l.length≤80:=by
 unfold iQ at h
 by_cases h1:bB rooms=0
 ·rw[if_neg Q7] at h
  by_cases h2:80<l.length
  ·rw[if_pos h2] at h;cases h
  ·exact ⟨h1,by omega⟩
 ·rw[if_pos h1] at h;exact absurd h h1
theorem uy {w:Wor} {l:List Step} {i:Nat} (h:i<l.length):iV w (l.take (i+1))=(cg (iV w (l.take i)) (l.getD i default)).w:=by
 rw[ZT h,Ei];rfl
theorem yj {w:Wor} {l:List Step} {i:Nat} (h:i<l.length):rsW w (l.take (i+1))=rsW w (l.take i)++[(cg (iV w (l.take i)) (l.getD i default)).r]:=by
 rw[ZT h,vN];rfl
theorem Ej {rooms:List Int} (h:bB rooms=0) (l:List Step):WInv (20*l.length) (300*l.length) (iV (dp rooms) l):=Bo h l
theorem mY {rooms:List Int} (h:bB rooms=0) (l:List Step) (i:Nat):WInv (20*l.length) (300*l.length) (iV (dp rooms) (l.take i)):=by
 have:=Ej h (l.take i);rw[Wv] at this;exact ⟨this.srv.mono z8,λc hc=>(this.cli c hc).mono z8 z8,this.len⟩
end La
namespace La
open Go Go.Eng Go.Proofs Go.Proofs.YtmcfbfdonjllaaaGreatDoor
def RdC (w:World) (cs:List Value) (xs:List AV):Prop:=cs.length=xs.length/\∀(j:Nat) y,xs[j]? = some y->RdP (λb=>b<w.heap.size) w (cs.getD j undef) y
theorem Gp {w:World} {cs:List Value} {off:Nat} (h:cs.length=off):RdC w (cs.drop off) []:=
 ⟨by simp;omega,λj y hj=>by simp at hj⟩
theorem kb {w:World} {cs:List Value} {xs ys:List AV} (off s:Nat) (h:RdC w ((cs.drop off).take s) xs) (hs:xs.length=s) (k:RdC w (cs.drop (off+s)) ys):RdC w (cs.drop off) (xs++ys):=by
 obtain ⟨h1,h2⟩:=h;obtain ⟨k1,k2⟩:=k;have hl:(cs.drop off).length=s+(cs.drop (off+s)).length:=by
  simp only[Wv,YJ] at h1 k1 ⊢;omega
 refine ⟨by rw[List.length_append,hl,hs,k1],λj y hj=>?_⟩
 by_cases hjs:j<s
 ·rw[W6 z8] at hj;have:=h2 j y hj
  rwa [Wi,W4,if_pos hjs,←Wi] at this
 ·rw[W1 z8,hs] at hj;have:=k2 (j-s) y hj;rw[Wi,YI] at this;rw[Wi,YI]
  rwa [show off+s+(j-s)=off+j from by omega] at this
structure Rep (t:TypeId) {α:Type} (f:α->List AV) (q:α->Prop) (sz:α->Nat):Prop where
 size:∀x,(f x).length=(Tryz.prog).cellsOf t
 opn:∀{H:Type} (enc:TypeId×Value->H) (w:World) (n:Nat) (cs:List Value) (y:DataW H×List MemPlace),DataW.trod enc Tryz.prog w 0 (λ_=>true) true n t cs=some y ->
  ∃x:α,q x/\sz x≤Rows.uptoBulk y.1/\RdC w cs (f x)
theorem ZG {t:TypeId} {n:Nat} (h:tab.siz t=n) (h0:n≠0):(Tryz.prog).cellsOf t=n:=by
 obtain ⟨i,h1,h2,_⟩:=tK.siz t (by rw[h];exact h0);unfold Program.cellsOf;rw[h1];simp[h2,h]
theorem cT3:(Tryz.prog).cellsOf 3=1:=ZG (t:=3) (n:=1) rfl u5
theorem cT4:(Tryz.prog).cellsOf 4=1:=ZG (t:=4) (n:=1) rfl u5
theorem cT5:(Tryz.prog).cellsOf 5=1:=ZG (t:=5) (n:=1) rfl u5
theorem cT9:(Tryz.prog).cellsOf 9=1:=ZG (t:=9) (n:=1) rfl u5
theorem HZ:(Tryz.prog).cellsOf 24=1:=ZG (t:=24) (n:=1) rfl u5
theorem H0:(Tryz.prog).cellsOf 26=6:=ZG (t:=26) (n:=6) rfl u5
theorem I2:(Tryz.prog).cellsOf 28=1:=ZG (t:=28) (n:=1) rfl u5
theorem I3:(Tryz.prog).cellsOf 40=1:=ZG (t:=40) (n:=1) rfl u5
theorem A9 {t:TypeId} (ht:(Tryz.prog).underlying t=some (.int .i64)) (hs:(Tryz.prog).cellsOf t=1):Rep t (λn:Int=>[AV.int .i64 n]) (λn=>-9223372036854775808≤n/\n≤9223372036854775807) (λ_=>1) where
 size:=λ_=>by rw[hs];rfl
 opn:=λenc w n cs y h=>by
  obtain ⟨m,rfl,rfl,hw⟩:=DataW.trod_int ht h;refine ⟨m,?_,by simp[Rows.uptoBulk],rfl,λj y hj=>?_⟩
  ·simpa[Lit.wf,IntKind.min,IntKind.max,IntKind.bits,IntKind.signed] using hw
  ·cases j with
   | zero=>simp only[List.getElem?_cons_zero,Option.some.injEq] at hj;subst hj;exact .int _ _
   | succ j=>simp at hj
theorem A_ {t:TypeId} (ht:(Tryz.prog).underlying t=some .string) (hs:(Tryz.prog).cellsOf t=1):Rep t (λs:List UInt8=>[AV.str s]) (λ_=>True) (λs=>s.length+1) where
 size:=λ_=>by rw[hs];rfl
 opn:=λenc w n cs y h=>by
  obtain ⟨s,rfl,rfl,_⟩:=DataW.trod_string ht h;refine ⟨s.data.toList,trivial,by simp[Rows.uptoBulk],rfl,λj y hj=>?_⟩;cases j with
  | zero=>simp only[List.getElem?_cons_zero,Option.some.injEq] at hj;subst hj;exact .str _ _ rfl
  | succ j=>simp at hj
theorem D6 {t:TypeId} (ht:(Tryz.prog).underlying t=some (.int .u8)) (hs:(Tryz.prog).cellsOf t=1):Rep t ZY (λ_=>True) (λ_=>1) where
 size:=λ_=>by rw[hs];rfl
 opn:=λenc w n cs y h=>by
  obtain ⟨m,rfl,rfl,hw⟩:=DataW.trod_int ht h;have hb:0≤m/\m≤255:=by simpa[Lit.wf,IntKind.min,IntKind.max,IntKind.bits,IntKind.signed] using hw
  refine ⟨UInt8.ofNat m.toNat,trivial,by simp[Rows.uptoBulk],rfl,λj y hj=>?_⟩;cases j with
  | zero=>
   simp only[ZY,List.getElem?_cons_zero,Option.some.injEq] at hj;subst hj;have:((UInt8.ofNat m.toNat).toNat:Int)=m:=by
    rw[UInt8.toNat_ofNat'];omega
   rw[this];exact .int _ _
  | succ j=>simp[ZY] at hj
def szL {α:Type} (sz:α->Nat):List α->Nat
 | []=>0
 | x::r=>sz x+szL sz r
theorem Bi {α:Type} {sz:α->Nat} {x:α}:∀{l:List α},x∈l->sz x≤szL sz l
 | y::r,h=>by
  rcases List.mem_cons.1 h with rfl | h
  ·simp only[szL];omega
  ·have:=Bi (sz:=sz) h;simp only[szL];omega
theorem Bh {α:Type} {sz:α->Nat} (h:∀x,1≤sz x):∀(l:List α),l.length≤szL sz l
 | []=>Wt _
 | x::r=>by have:=Bh h r;have:=h x;simp only[szL,List.length_cons];omega
theorem uq {α H:Type} {q:α->Prop} {sz:α->Nat} {R:Nat->α->Prop}:∀(elems:List (DataW H×List MemPlace)) (i0:Nat),(∀(i:Nat) y,elems[i]? = some y->∃x,q x/\sz x≤Rows.uptoBulk y.1/\R (i0+i) x) ->
  ∃l:List α,l.length=elems.length/\(∀x,x∈l->q x)/\szL sz l≤Rows.uptoBulkAll (elems.map (·.1))/\∀(i:Nat) x,l[i]? = some x->R (i0+i) x
 | [],_,_=>⟨[],rfl,λx h=>by simp at h,by simp[szL],λi x h=>by simp at h⟩
 | y::r,i0,h=>by
  obtain ⟨x,h1,h2,h3⟩:=h 0 y rfl;obtain ⟨l,k1,k2,k3,k4⟩:=uq (R:=R) r (i0+1) (λi z hz=>by rw[show i0+1+i=i0+(i+1) from by omega];exact h (i+1) z Q4);refine ⟨x::l,by simp[k1],λz hz=>?_,?_,λi z hz=>?_⟩
  ·rcases List.mem_cons.1 hz with rfl | hz
   ·exact h1
   ·exact k2 z hz
  ·simp only[szL,List.map_cons,Rows.uptoBulkAll];omega
  ·cases i with
   | zero=>simp only[List.getElem?_cons_zero,Option.some.injEq] at hz;subst hz;exact h3
   | succ i=>rw[show i0+(i+1)=i0+1+i from by omega];exact k4 i z Q4
theorem y_ {w:World} {a:Addr} {n:Nat} {cs:List Value} (h:w.cells? 0 a n=some cs):cs.length=n/\∀i,i<n->w.cell? (a.add i)=cs[i]?:=by
 unfold World.cells? at h;rw[if_pos (Yd _)] at h;have hl:=mapM_some_length h;refine ⟨by simpa using hl,λi hi=>?_⟩;exact mapM_some_get h i i (by simp[hi])
theorem pA {t e:TypeId} {α:Type} {f:α->List AV} {q:α->Prop} {sz:α->Nat} (ht:(Tryz.prog).underlying t=some (.slice e)) (hs:(Tryz.prog).cellsOf t=1) (he:Rep e f q sz) (hsz:(Tryz.prog).cellsOf e≠0) :
  Rep t (λl:List α=>[AV.sl (l.map f)]) (λl=>∀x,x∈l->q x) (λl=>szL sz l+1) where
 size:=λ_=>by rw[hs];rfl
 opn:=λenc w n cs y h=>by
  rcases DataW.trod_slice ht h with ⟨rfl,rfl⟩ | ⟨a,len,cap,elems,rest,m,rfl,rfl,rfl,h1,h2,h3,h4,h5,_⟩
  ·refine ⟨[],λx hx=>by simp at hx,by simp[szL,Rows.uptoBulk],rfl,λj y hj=>?_⟩;cases j with
   | zero=>
    simp only[List.map_nil,List.getElem?_cons_zero,Option.some.injEq] at hj;subst hj;exact .sl none 0 0 [] 0 0 0 (λ_ _=>undef) rfl (Wt _) (λrow h=>by simp at h) (λh=>by omega) (λi j h=>by omega) (λi row h=>by simp at h)
   | succ j=>simp at hj
  ·have key:∀(i:Nat) y,elems[i]? = some y->∃x,q x/\sz x≤Rows.uptoBulk y.1/\(∃cs,w.cells? 0 (a.add ((0+i)*(Tryz.prog).cellsOf e)) ((Tryz.prog).cellsOf e)=some cs/\RdC w cs (f x)):=λi y hy=>by
    have hi:i<len:=by rw[←h4];exact (Wp.1 hy).1
    have:=h5 i hi;rw[hy] at this;obtain ⟨cs,k1,k2⟩:=Option.bind_eq_some_iff.1 this;obtain ⟨x,q1,q2,q3⟩:=he.opn enc w m cs y k2;exact ⟨x,q1,q2,cs,by rw[W8];exact k1,q3⟩
   obtain ⟨l,l1,l2,l3,l4⟩:=uq (q:=q) (sz:=sz) (R:=λi x=>∃cs,w.cells? 0 (a.add (i*(Tryz.prog).cellsOf e)) ((Tryz.prog).cellsOf e)=some cs/\RdC w cs (f x)) elems 0 key;refine ⟨l,l2,by simp only[Rows.uptoBulk];omega,rfl,λj y hj=>?_⟩;cases j with
   | succ j=>simp at hj
   | zero=>
    simp only[List.getElem?_cons_zero,Option.some.injEq] at hj;subst hj;have hcell:∀i j,i<l.length->j<(Tryz.prog).cellsOf e->∃(b:a.spot=none\/True) (x:α) (cs:List Value),l[i]? = some x/\RdC w cs (f x)/\w.cell? (a.add (i*(Tryz.prog).cellsOf e) |>.add j)=cs[j]?/\j<cs.length:=λi j hi hj=>by
     obtain ⟨cs,k1,k2⟩:=l4 i l[i] (Wj hi);obtain ⟨c1,c2⟩:=y_ k1;rw[W8] at c2;exact ⟨.inr trivial,l[i],cs,Wj hi,k2,c2 j hj,by omega⟩
    by_cases h0:l.length=0
    ·have:l=[]:=List.eq_nil_of_length_eq_zero h0;subst this;simp only[List.map_nil];have e0:len=0:=by rw[←h4,←l1];rfl
     subst e0;exact .sl (some a) 0 cap [] 0 0 0 (λ_ _=>undef) rfl (Yd _) (λrow h=>by simp at h) (λh=>by omega) (λi j h=>by omega) (λi row h=>by simp at h)
    ·have hspot:a.spot=none/\a.block<w.heap.size:=by
      obtain ⟨_,x,cs,_,_,c3,c4⟩:=hcell 0 0 z8 z8;rw[Wj c4] at c3;have c3':w.cell? a=some cs[0]:=by simpa[Addr.add] using c3
      unfold World.cell? at c3';split at c3'
      ·rename_i c e' f' hb;split at c3'
       ·cases c3'
       ·rename_i hsp;refine ⟨?_,?_⟩
        ·cases e:a.spot with
         | none=>rfl
         | some k=>rw[e] at hsp;simp at hsp
        ·exact (YC.1 hb).1
      ·cases c3'
     obtain ⟨ab,ao,asp⟩:=a;simp only at hspot;obtain ⟨rfl,hlt⟩:=hspot;have hadd:∀(i j:Nat),((⟨ab,ao,none⟩:Addr).add (i*(Tryz.prog).cellsOf e) |>.add j)=⟨ab,ao+(i*(Tryz.prog).cellsOf e+j),none⟩:=λi j=>by
      rw[add_plain,add_plain,Nat.add_assoc]
     refine .sl (some ⟨ab,ao,none⟩) len cap (l.map f) ((Tryz.prog).cellsOf e) ab ao (λi j=>(w.cell? ⟨ab,ao+(i*(Tryz.prog).cellsOf e+j),none⟩).getD undef) (by simp[l1,h4]) h2 (λrow hr=>?_) (λ_=>⟨rfl,hlt⟩) (λi j hi hj=>?_) (λi row hrow j x hx=>?_)
     ·obtain ⟨x,_,rfl⟩:=Wq.1 hr;exact he.size x
     ·obtain ⟨_,x,cs,_,_,c3,c4⟩:=hcell i j z8 hj;rw[hadd,Wj c4] at c3;rw[c3];rfl
     ·rw[Wm] at hrow;cases e1:l[i]? with
      | none=>rw[e1] at hrow;cases hrow
      | some x0=>
       rw[e1] at hrow;simp only[Option.map_some,Option.some.injEq] at hrow;subst hrow;have hi:i<l.length:=(Wp.1 e1).1;have hj:j<(Tryz.prog).cellsOf e:=by rw[←he.size x0];exact (Wp.1 hx).1
       obtain ⟨_,x1,cs,c1,c2,c3,c4⟩:=hcell i j hi hj;rw[e1] at c1;injection c1 with c1
       subst c1;have:=c2.2 j x hx;rw[hadd,Wj c4] at c3;simp only[c3,Option.getD_some]
       rwa [Wi,Wj c4] at this
theorem A8 (t:TypeId) (ht:(Tryz.prog).underlying t=some (.int .i64)) (hs:tab.siz t=1):Rep t (λn:Int=>[AV.int .i64 n]) (λ_=>True) (λ_=>1):=
 ⟨(A9 ht (ZG hs u5)).size,λenc w n cs y h=>by
  obtain ⟨x,_,h2,h3⟩:=(A9 ht (ZG hs u5)).opn enc w n cs y h;exact ⟨x,trivial,h2,h3⟩⟩
theorem sO {α:Type}:∀(l:List α),szL (λ_=>1) l=l.length
 | []=>rfl
 | x::r=>by simp only[szL,sO r,List.length_cons];omega
theorem B4:Rep 24 (λl:List UInt8=>[AV.sl (l.map ZY)]) (λ_=>True) (λl=>szL (λ_=>1) l+1):=
 ⟨λ_=>by rw[HZ];rfl,λenc w n cs y h=>by
  obtain ⟨x,_,h2,h3⟩:=(pA (f:=ZY) (q:=λ_=>True) (sz:=(λ_=>1)) Tryz.underlying24 (HZ) (D6 Tryz.underlying5 (cT5)) (by rw[cT5];decide)).opn enc w n cs y h;exact ⟨x,trivial,h2,h3⟩⟩
theorem D7:Rep 40 (λl:List Int=>[AV.sl (l.map ZI)]) (λ_=>True) (λl=>szL (λ_=>1) l+1):=
 ⟨λ_=>by rw[I3];rfl,λenc w n cs y h=>by
  obtain ⟨x,_,h2,h3⟩:=(pA (f:=ZI) (q:=λ_=>True) (sz:=(λ_=>1)) Tryz.underlying40 (I3) (A8 3 Tryz.underlying3 rfl) (by rw[cT3];decide)).opn enc w n cs y h;exact ⟨x,trivial,h2,h3⟩⟩
def Step.sz (x:Step):Nat:=x.path.length+x.toPath.length+x.data.length+1
theorem D8:Rep 26 ZX (λ_=>True) Step.sz where
 size:=λx=>by rw[H0];rfl
 opn:=λenc w n cs y h=>by
  obtain ⟨xs,m,rfl,rfl,hl,hxl,hf⟩:=DataW.trod_struct Tryz.underlying26 h;obtain ⟨y0,y1,y2,y3,y4,y5,rfl⟩:∃y0 y1 y2 y3 y4 y5,xs=[y0,y1,y2,y3,y4,y5]:=by
   have hxl:xs.length=6:=hxl
   match xs,hxl with
   | [a0,a1,a2,a3,a4,a5],_=>exact ⟨a0,a1,a2,a3,a4,a5,rfl⟩
  have e0:DataW.trod enc Tryz.prog w 0 (λ_=>true) true m 3 ((cs.drop 0).take ((Tryz.prog).cellsOf 3))=some y0:=hf 0 _ rfl;obtain ⟨x0,q0,s0,r0⟩:=(A8 3 Tryz.underlying3 rfl).opn enc w m _ _ e0;rw[cT3] at r0;have e1:DataW.trod enc Tryz.prog w 0 (λ_=>true) true m 3 ((cs.drop 1).take ((Tryz.prog).cellsOf 3))=some y1:=hf 1 _ rfl;obtain ⟨x1,q1,s1,r1⟩:=(A8 3 Tryz.underlying3 rfl).opn enc w m _ _ e1;rw[cT3] at r1;have e2:DataW.trod enc Tryz.prog w 0 (λ_=>true) true m 3 ((cs.drop 2).take ((Tryz.prog).cellsOf 3))=some y2:=hf 2 _ rfl;obtain ⟨x2,q2,s2,r2⟩:=(A8 3 Tryz.underlying3 rfl).opn enc w m _ _ e2;rw[cT3] at r2;have e3:DataW.trod enc Tryz.prog w 0 (λ_=>true) true m 9 ((cs.drop 3).take ((Tryz.prog).cellsOf 9))=some y3:=hf 3 _ rfl;obtain ⟨x3,q3,s3,r3⟩:=(A_ Tryz.underlying9 (cT9)).opn enc w m _ _ e3;rw[cT9] at r3;have e4:DataW.trod enc Tryz.prog w 0 (λ_=>true) true m 9 ((cs.drop 4).take ((Tryz.prog).cellsOf 9))=some y4:=hf 4 _ rfl;obtain ⟨x4,q4,s4,r4⟩:=(A_ Tryz.underlying9 (cT9)).opn enc w m _ _ e4;rw[cT9] at r4;have e5:DataW.trod enc Tryz.prog w 0 (λ_=>true) true m 24 ((cs.drop 5).take ((Tryz.prog).cellsOf 24))=some y5:=hf 5 _ rfl;obtain ⟨x5,q5,s5,r5⟩:=(B4).opn enc w m _ _ e5;rw[HZ] at r5;refine ⟨⟨x0,x1,x2,x3,x4,x5⟩,trivial,?_,?_⟩
  ·simp only[sO] at s5;simp only[Step.sz,Rows.uptoBulk,Rows.uptoBulkAll,List.map_cons,List.map_nil];omega
  ·have hl:cs.length=6:=by rw[hl,H0]
   have:=kb 0 1 r0 rfl (kb 1 1 r1 rfl (kb 2 1 r2 rfl (kb 3 1 r3 rfl (kb 4 1 r4 rfl (kb 5 1 r5 rfl (Gp hl))))));rw[List.drop_zero] at this;exact this
theorem B5:Rep 28 (λl:List Step=>[AV.sl (l.map ZX)]) (λ_=>True) (λl=>szL Step.sz l+1):=
 ⟨λ_=>by rw[I2];rfl,λenc w n cs y h=>by
  obtain ⟨x,_,h2,h3⟩:=(pA (f:=ZX) (q:=λ_=>True) (sz:=Step.sz) Tryz.underlying28 (I2) (D8) (by rw[H0];decide)).opn enc w n cs y h;exact ⟨x,trivial,h2,h3⟩⟩
theorem xW {t:TypeId} {α:Type} {f:α->List AV} {q:α->Prop} {sz:α->Nat} (h:Rep t f q sz) {H:Type} {enc:TypeId×Value->H} {w:World} {v:Value} {d:DataW H} {ps:List MemPlace}
  (hd:DataW.Trod enc Tryz.prog w 0 (λ_=>true) true t v d ps):∃x,q x/\sz x≤Rows.uptoBulk d/\RdC w v.cells.toList (f x):=by
 obtain ⟨n,hn⟩:=hd;exact h.opn enc w n _ _ hn
theorem A5 {w:World} {v:Value} {x:AV} (h:RdC w v.cells.toList [x]) (hv:∀cs,v≠.agg cs):RdP (λb=>b<w.heap.size) w v x:=by
 have:=h.2 0 x rfl;cases v with
 | agg cs=>exact absurd rfl (hv cs)
 | _=>exact this
theorem Dz {l:List Int} (h:szL (λ_=>1) l≤1048576):l.length≤100000000:=by rw[sO] at h;omega
theorem Ev {l:List Step} (h:szL Step.sz l≤1048576):StepsOK l:=
 ⟨by have:=Bh (sz:=Step.sz) (λr=>by unfold Step.sz;omega) l;omega,λx hx=>by
  have:=Bi (sz:=Step.sz) hx;have h2:x.sz=x.path.length+x.toPath.length+x.data.length+1:=rfl;exact ⟨by omega,by omega⟩⟩
def put (w:World) (b:Nat) (l:List Value):World:=
 { w with heap:=w.heap.modify b fun
   | .cells _ t frozen=>.cells l.toArray t frozen
   | o=>o }
noncomputable def ph (os:Os):World:=
 put (put (World.holding Tryz.prog os ⟨#[],#[],[]⟩) 1 (Pinned.utf8FirstZ.map λ(n:Nat)=>Value.int .u8 n)) 2 [.int .u8 128,.int .u8 191,.int .u8 160,.int .u8 191,.int .u8 128,.int .u8 159,.int .u8 144,.int .u8 191,.int .u8 128,.int .u8 143,.int .u8 0,.int .u8 0,.int .u8 0,.int .u8 0,.int .u8 0,.int .u8 0,.int .u8 0,.int .u8 0,.int .u8 0,.int .u8 0,.int .u8 0,.int .u8 0,.int .u8 0,.int .u8 0,.int .u8 0,.int .u8 0,.int .u8 0,.int .u8 0,.int .u8 0,.int .u8 0,.int .u8 0,.int .u8 0]
end La
