/- Texts of this claim, part 14: Fid, Srv, Srv2, Cach, Cach2, Unl, PJud, PWhole, PWh2. No condition. -/
import Derived.Test.YtdcmhdkpfllnlaaGreatDoorYC13
set_option maxRecDepth 10000
set_option maxHeartbeats 4000000
set_option linter.unusedSimpArgs false
set_option linter.unusedVariables false
namespace La
open Go Go.Eng Go.Proofs
theorem vU (a:Act):af Tryz.prog 154 [.agg (ZA a)] [] (λr _=>r=.sl ((bU a).map ZI)):=by
 unfold ZA;refine ZF tK (Tryz.func154) rfl (λC=>?_);simp only[Tryz.ntmps154,Tryz.results154,go_sem];refine wG tK ?_;refine wD (λh=>?_) (λh=>?_)
 ·refine wG tK ?_;refine ZZ 9 rfl (rfl) ?_;simp only[go_sem];refine wT ?_;simp[go_sem,bU,ZI,eq_of_beq h]
 ·refine wG tK ?_;have h1:a.kind≠3:=by simpa using h
  refine wD (λh=>?_) (λh=>?_)
  ·refine wG tK ?_;refine ZZ 18 rfl (rfl) ?_;simp only[go_sem];refine wT ?_;have h2:a.kind=5:=by simpa using h
   simp[go_sem,bU,ZI,h2]
  ·refine wG tK ?_;refine ZZ 23 rfl (rfl) ?_;simp only[go_sem];refine wT ?_;have h2:a.kind≠5:=by simpa using h
   simp[go_sem,bU,ZI,h1,h2]
theorem fu (a:Act):(bU a).length≤3:=by
 unfold bU;split
 ·simp
 ·split<;>simp
theorem Ez (l:List Int) (hlen:l.length≤100000000) (v:Int):af Tryz.prog 186 [.sl (l.map ZI),.int .i64 v] [] (λr _=>r=.int .i64 (ct (l.findIdx? (v==·)))):=by
 refine ZF tK (Tryz.func186) rfl (λC=>?_);simp only[Tryz.ntmps186,Tryz.results186,go_sem];refine wG tK ?_;refine ZL (λi:Nat=>i≤l.length/\∀x,x∈l.take i->(v==x)=false) (λi=>l.length-i) (λi=>(8,.int .i64 i)::(5,.any)::u0 9 10 []) (λ_=>[]) 0 ⟨by omega,by simp⟩ ?_ λi hi=>?_
 ·simp only[go_sem];exact ZU w3 w3 p9
 obtain ⟨hi,hno⟩:=hi;simp only[go_sem];refine wG tK ?_;refine wD (λh=>?_) (λh=>?_)
 ·have hlt:i<l.length:=by simp at h;omega
  have hg:(l.map ZI).getD i []=ZI (l.getD i default):=Fam.getD hlt;have htk:=ZT hlt;have hgi:l[i]? = some (l.getD i default):=by rw[Wv,Ww hlt];rfl
  generalize l.getD i default=n at hg htk hgi;refine wGq tK ?_ ?_ Zi
  ·simp[hlt]
  refine wD (λh=>?_) (λh=>?_)
  ·refine wG tK ?_;refine wT ?_;rw[eR hgi hno h];rfl
  ·have hw:IntKind.i64.wrap ((i:Int)+1)=(i:Int)+1:=wrap_small z8 z8;refine wG tK ?_ w5 k7;refine ZB ⟨i+1,⟨by omega,?_⟩,by omega,ZU ?_ ?_ ?_⟩
   ·rw[htk];intro x hx
    rcases List.mem_append.1 hx with hx | hx
    ·exact hno x hx
    ·rw[List.mem_singleton.1 hx];exact h
   ·simp[go_sem]
   ·simp[go_sem]
   ·simp only[go_sem]
 ·have e:i=l.length:=by simp at h;omega
  refine wG tK ?_;refine wT ?_;rw[e,W2] at hno;rw[YK.2 hno];rfl
theorem xw (l:List Int) (hlen:l.length≤100000000) (v:Int):af Tryz.prog 153 [.sl (l.map ZI),.int .i64 v] [] (λr _=>r=.bool (l.contains v)):=by
 refine ZF tK (Tryz.func153) rfl (λC=>?_);simp only[Tryz.ntmps153,Tryz.results153,go_sem];refine wG tK ?_;refine wC Tryz.func186 (hf:=(Ez l hlen v)) (hk:=?_);refine wG tK ?_;refine wT ?_;rw[mh,List.contains_eq_any_beq]
theorem yF (r:Rec) (f:Int):af Tryz.prog 108 [.rp (ZR r) 0,.int .i64 f] [] (λx _=>x=.bool (r.names f)):=by
 unfold ZR;refine ZF tK (Tryz.func108) rfl (λC=>?_);simp only[Tryz.ntmps108,Tryz.results108,go_sem];refine wG tK ?_;refine wC Tryz.func154 (hf:=(vU r.act)) (hk:=?_);refine wG tK ?_;refine wC Tryz.func153 (hf:=(xw (bU r.act) (by have:=fu r.act;omega) f)) (hk:=?_);refine wG tK ?_;refine wT ?_;rfl
theorem cP (a b:Bool):(bif a then b else false)=(a&&b):=by cases a<;>rfl
theorem fb (a b:Bool):(bif a then true else b)=(a||b):=by cases a<;>rfl
theorem Bo (r:Rec) (d:Int) (n:List UInt8):af Tryz.prog 151 [.rp (ZR r) 0,.int .i64 d,.str n] [] (λx _=>x=.bool (fE r.act d n)):=by
 unfold ZR;refine ZF tK (Tryz.func151) rfl (λC=>?_);simp only[Tryz.ntmps151,Tryz.results151,go_sem];refine wG tK ?_;refine wD (λh=>?_) (λh=>?_)
 ·refine wG tK ?_;refine wDT (hb:=(h)) (hk:=?_);refine wR ?_;refine wN tK 6 ?_;refine aq 24 z6 (λc24 h24=>?_);simp only[go_sem];refine wN tK 8 ?_;refine aq 32 z6 (λc32 h32=>?_);simp only[go_sem];refine wG tK ?_;refine wT ?_;subst h32 h24;have hk:=eq_of_beq h;simp[fE,hk,cP]
 ·refine wG tK ?_;refine wD (λh=>?_) (λh=>?_)
  ·refine wG tK ?_;refine wDT (hb:=(h)) (hk:=?_);refine wR ?_;refine wN tK 6 ?_;refine aq 24 z6 (λc24 h24=>?_);simp only[go_sem];refine wN tK 8 ?_;refine aq 32 z6 (λc32 h32=>?_);simp only[go_sem];refine wG tK ?_;refine wT ?_;subst h32 h24;have hk:=eq_of_beq h;simp[fE,hk,cP]
  ·refine wG tK ?_;refine wD (λh=>?_) (λh=>?_)
   ·refine wR ?_;refine wN tK 6 ?_;refine aq 24 z6 (λc24 h24=>?_);simp only[go_sem];refine wN tK 8 ?_;refine aq 32 z6 (λc32 h32=>?_);simp only[go_sem];refine wG tK ?_;refine wT ?_;subst h32 h24;have hk:=eq_of_beq h;simp[fE,hk,cP]
   ·refine wG tK ?_;refine wD (λh=>?_) (λh=>?_)
    ·have hk:=eq_of_beq h;refine wR ?_;refine wN tK 6 ?_;refine aq 40 z6 (λc40 h40=>?_);simp only[go_sem];refine wN tK 8 ?_;refine aq 48 z6 (λc48 h48=>?_);simp only[go_sem];cases c48
     ·cases e3:(r.act.to==d)<;>cases e4:(r.act.toName==n)
      all_goals refine wG tK ?_ (by simp only[go_sem,e3,e4];try exact rfl) (by simp[go_sem,e3,e4])
      all_goals refine wT ?_
      all_goals rw[←h40,cP] at h48
      all_goals simp[fE,hk,h48,e3,e4]
     ·refine wG tK ?_;refine wT ?_;rw[←h40,cP] at h48;simp[fE,hk,h48]
    ·refine wG tK ?_;refine wT ?_
     simp_all [fE]
structure Srv where
 tree:List Node
 next:Int
 past:List Past
def ZQ (s:Srv):List AV:=[.sl (s.tree.map ZN),.int .i64 s.next,.sl (s.past.map ZP)]
@[go_sem,simp] theorem Hz (s:Srv):aE (ZQ s)=[]:=rfl
theorem tM (s:Srv) (h:s.past.length≤100000000):af Tryz.prog 96 [.agg (ZQ s)] [] (λr _=>r=.int .i64 ((s.past.length+1:Nat):Int)):=by
 have hw:IntKind.i64.wrap ((s.past.length:Int)+1)=((s.past.length+1:Nat):Int):=by rw[Eng.wrap_small z8 z8];rfl
 unfold ZQ;refine ZF tK (Tryz.func96) rfl (λC=>?_);simp only[Tryz.ntmps96,Tryz.results96,go_sem];refine wG tK ?_ w5 k7;refine wT ?_;rfl
structure SmallP (l:List Past):Prop where
 len:l.length≤90000000
 each:∀p,p∈l->p.act.data.length≤100000000
theorem Ca (s:Srv) (ht:Small s.tree) (hp:SmallP s.past):af Tryz.prog 25 [.agg (ZQ s)] [] (λr _=>r=.agg (ZQ s)):=by
 have hlen:=hp.len;unfold ZQ;refine ZF tK (Tryz.func25) rfl (λC=>?_);simp only[Tryz.ntmps25,Tryz.results25,go_sem];refine wG tK ?_;refine ZZ 1 rfl (rfl) ?_;simp only[go_sem];refine ZW ZM ?_;refine ZS rfl ?_;refine sN tK 2 ?_;refine sC Tryz.func54 (hf:=(lg s.tree ht)) (hk:=?_);refine sN tK 2 ?_;refine sB tK ?_;refine sW tK ?_;refine sE ?_;refine dS tK ?_;refine wKd ?_
 try simp only[go_sem,gA,gB,gC]
 refine wG tK ?_;refine ah (BW 28 8 3 z7 z7) ?_;refine ah (le_empty 28 120 8 z7) ?_;simp only[go_sem];refine ZL (λi:Nat=>i≤s.past.length) (λi=>s.past.length-i) (λi=>(5,.any)::(15,.int .i64 i)::u0 16 15 [])
  (λi=>[(3,.cells 30 3 [[.sl (s.tree.map ZN),.int .i64 s.next,.osl 28 8 0 i]]),(28,.cells 120 8 ((s.past.take i).map ZP))]) 0 z8 ?_ λi hi=>?_
 ·simp only[go_sem];exact ZU w3 w3 p9
 simp only[go_sem];refine wG tK ?_;refine wD (λh=>?_) (λh=>?_)
 ·have hlt:i<s.past.length:=by simp at h;omega
  have hw:=wi1 (i:=i) z8;have hg:(s.past.map ZP).getD i []=ZP (s.past.getD i default):=Fam.getD hlt;have hs:=fz ZP hlt;have ha:=hp.each _ (YG hlt);generalize s.past.getD i default=x at *;refine wGq tK ?_ ?_ Qt
  ·simp[hg,ZP,hlt]
  refine ZZ 5 rfl (rfl) ?_;simp only[go_sem];refine ZW ZM ?_;refine ZS rfl ?_;refine sN tK 6 ?_;refine sC Tryz.func55 (hf:=(lP x.act ha)) (hk:=?_);simp only[go_sem,ZA];refine sB tK ?_;refine sW tK ?_;refine sE ?_;refine oA (bB 28 3 z6 j6) ?_;simp only[go_sem];refine dSq tK ?_ ?_
  ·simp[go_sem,rowsOf];refine ⟨by omega,by omega,λx hx y hy hr=>?_⟩;have h1:=YB (YB hx);have:=List.all_eq_true.1 (List.all_eq_true.1 (bE 28 s.past) x h1) y hy;simp only[Yh,List.contains_eq_mem,decide_eq_false_iff_not] at this;exact this hr
  simp only[go_sem];refine dS tK ?_;refine dS tK ?_;refine wKd ?_
  try simp only[go_sem,gA,gB,gC]
  refine wG tK ?_ w5 k7;refine ZB ⟨i+1,by omega,by omega,ZU ?_ ?_ ?_⟩
  ·simp[go_sem]
  ·simp[go_sem,hs,ZP,List.take_take]
  ·simp only[go_sem]
 ·have e:i=s.past.length:=by simp at h;omega
  subst e;refine wG tK ?_;refine ZZ 28 rfl (dX _) ?_;simp only[go_sem];refine wT ?_;simp
theorem zt (s:Srv) (ht:Small s.tree) (hp:SmallP s.past):af Tryz.prog 25 [.agg (ZQ s)] [] (λr H=>r=.agg [.sl (s.tree.map ZN),.int .i64 s.next,.osl 28 8 0 s.past.length]/\∀i b,aa [(28,.cells 120 8 (s.past.map ZP))] i=some b->aa H i=some b):=by
 have hlen:=hp.len;unfold ZQ;refine ZF tK (Tryz.func25) rfl (λC=>?_);simp only[Tryz.ntmps25,Tryz.results25,go_sem];refine wG tK ?_;refine ZZ 1 rfl (rfl) ?_;simp only[go_sem];refine ZW ZM ?_;refine ZS rfl ?_;refine sN tK 2 ?_;refine sC Tryz.func54 (hf:=(lg s.tree ht)) (hk:=?_);refine sN tK 2 ?_;refine sB tK ?_;refine sW tK ?_;refine sE ?_;refine dS tK ?_;refine wKd ?_
 try simp only[go_sem,gA,gB,gC]
 refine wG tK ?_;refine ah (BW 28 8 3 z7 z7) ?_;refine ah (le_empty 28 120 8 z7) ?_;simp only[go_sem];refine ZL (λi:Nat=>i≤s.past.length) (λi=>s.past.length-i) (λi=>(5,.any)::(15,.int .i64 i)::u0 16 15 [])
  (λi=>[(3,.cells 30 3 [[.sl (s.tree.map ZN),.int .i64 s.next,.osl 28 8 0 i]]),(28,.cells 120 8 ((s.past.take i).map ZP))]) 0 z8 ?_ λi hi=>?_
 ·simp only[go_sem];exact ZU w3 w3 p9
 simp only[go_sem];refine wG tK ?_;refine wD (λh=>?_) (λh=>?_)
 ·have hlt:i<s.past.length:=by simp at h;omega
  have hw:=wi1 (i:=i) z8;have hg:(s.past.map ZP).getD i []=ZP (s.past.getD i default):=Fam.getD hlt;have hs:=fz ZP hlt;have ha:=hp.each _ (YG hlt);generalize s.past.getD i default=x at *;refine wGq tK ?_ ?_ Qt
  ·simp[hg,ZP,hlt]
  refine ZZ 5 rfl (rfl) ?_;simp only[go_sem];refine ZW ZM ?_;refine ZS rfl ?_;refine sN tK 6 ?_;refine sC Tryz.func55 (hf:=(lP x.act ha)) (hk:=?_);simp only[go_sem,ZA];refine sB tK ?_;refine sW tK ?_;refine sE ?_;refine oA (bB 28 3 z6 j6) ?_;simp only[go_sem];refine dSq tK ?_ ?_
  ·simp[go_sem,rowsOf];refine ⟨by omega,by omega,λx hx y hy hr=>?_⟩;have h1:=YB (YB hx);have:=List.all_eq_true.1 (List.all_eq_true.1 (bE 28 s.past) x h1) y hy;simp only[Yh,List.contains_eq_mem,decide_eq_false_iff_not] at this;exact this hr
  simp only[go_sem];refine dS tK ?_;refine dS tK ?_;refine wKd ?_
  try simp only[go_sem,gA,gB,gC]
  refine wG tK ?_ w5 k7;refine ZB ⟨i+1,by omega,by omega,ZU ?_ ?_ ?_⟩
  ·simp[go_sem]
  ·simp[go_sem,hs,ZP,List.take_take]
  ·simp only[go_sem]
 ·have e:i=s.past.length:=by simp at h;omega
  subst e;refine wG tK ?_;refine wT ?_;simp[go_sem]
def aS (a:Act):Bool:=a.kind==1||a.kind==2
def doA (s:Srv) (a:Act):Act:=if aS a then { a with fid:=s.next } else a
noncomputable def doE (s:Srv) (a:Act):Int:=aH s.tree (doA s a)
noncomputable def doS (s:Srv) (c:Int) (a:Act):Srv:=⟨aN s.tree (doA s a) ((s.past.length+1:Nat):Int),if aS a then s.next+1 else s.next,s.past++[⟨c,doA s a⟩]⟩
noncomputable def doR (s:Srv) (c:Int) (a:Act):AV:=if doE s a=0 then .tup [.agg (ZQ (doS s c a)),.int .i64 0] else .tup [.agg [.nils,.int .i64 0,.nils],.int .i64 (doE s a)]
theorem I9 (s:Srv) (c:Int) (a:Act) (hg:Good s.tree) (hp:SmallP s.past) (ha:ActFit a) (hn:s.next.natAbs≤90000000):af Tryz.prog 61 [.agg (ZQ s),.int .i64 c,.agg (ZA a)] [] (λr _=>r=doR s c a):=by
 have hlen:=hp.len;have hw:IntKind.i64.wrap (s.next+1)=s.next+1:=Eng.wrap_small z8 z8;have hda:ActFit (doA s a):=by unfold doA;split;exact ⟨ha.name,ha.toName,ha.data⟩;exact ha
 have hv:=tM s z8;have hap:=nG hg (doA s a) ((s.past.length+1:Nat):Int) hda;have hso:=zt s hg.small hp;have how:=lP (doA s a) hda.data;unfold pz at hap;unfold doR doS doE;unfold ZQ at hv hso ⊢;refine ZF tK (Tryz.func61) rfl (λC=>?_);simp only[Tryz.ntmps61,Tryz.results61,go_sem];refine wGq tK ?_ ?_ Qg
 ·simp[ZA]
 refine ZZ 3 rfl (rfl) ?_;simp only[go_sem];refine wD (λh=>?_) (λh=>?_)
 ·have hm:aS a=true:=by unfold aS;revert h;cases (a.kind==1)<;>simp
  have hdo:doA s a={ a with fid:=s.next }:=by unfold doA;rw[if_pos hm]
  rw[hdo] at hap how ⊢;simp only[hm,if_true];generalize aH s.tree { a with fid:=s.next }=e at *;generalize aN s.tree { a with fid:=s.next } ((s.past.length+1:Nat):Int)=L at *;refine wG tK ?_
  by_cases he:e=0
  ·subst he;simp only[if_true] at hap ⊢;refine ZZ 5 rfl (rfl) ?_;simp only[go_sem];refine ZW ZM ?_;refine ZS rfl ?_;refine sN tK 4 ?_;refine sC Tryz.func96 (hf:=(hv)) (hk:=?_);refine sC Tryz.func64 (hf:=(hap)) (hk:=?_);refine sN tK 5 ?_;refine sE ?_;refine wKd ?_
   try simp only[go_sem,gA,gB,gC]
   refine wG tK ?_;refine wDF (hb:=y8) (hk:=?_);refine wG tK ?_;refine wCG [] 972 Tryz.func25 (hf:=(hso)) (hk:=?_);refine wG tK ?_;refine ZW ZM ?_;refine ZS rfl ?_;refine sN tK 4 ?_;refine sC Tryz.func55 (hf:=(how)) (hk:=?_);simp only[go_sem,ZA];refine sB tK ?_;refine sW tK ?_;refine sE ?_;refine oA (bB 1000 11 z6 j6) ?_;simp only[go_sem];refine dSq tK ?_ ?_
   ·simp[go_sem,rowsOf];refine ⟨by omega,λx hx y hy hr=>?_⟩;have:=List.all_eq_true.1 (List.all_eq_true.1 (bE 1000 s.past) (ZP x) (W5.2 ⟨x,hx,rfl⟩)) y hy;simp only[Yh,List.contains_eq_mem,decide_eq_false_iff_not] at this;exact this hr
   simp only[go_sem];refine dS tK ?_;refine dS tK ?_;refine wKd ?_
   try simp only[go_sem,gA,gB,gC]
   refine wG tK ?_;refine wDT (hb:=(by simpa[aS] using hm)) (hk:=?_);refine wG tK ?_ w5 k7;refine ZZ 48 rfl Zr ?_;simp only[go_sem];refine wT ?_;rw[Wy y8];rfl
  ·simp only[he,if_false] at hap ⊢;refine ZZ 5 rfl (rfl) ?_;simp only[go_sem];refine ZW ZM ?_;refine ZS rfl ?_;refine sN tK 4 ?_;refine sC Tryz.func96 (hf:=(hv)) (hk:=?_);refine sC Tryz.func64 (hf:=(hap)) (hk:=?_);refine sN tK 5 ?_;refine sE ?_;refine wKd ?_
   try simp only[go_sem,gA,gB,gC]
   refine wG tK ?_;refine wDT (hb:=QS) (hk:=?_);refine wG tK ?_;refine wT ?_;rfl
 ·have hm:aS a=false:=by unfold aS;revert h;cases (a.kind==1)<;>simp
  have hdo:doA s a=a:=by unfold doA;rw[if_neg (by rw[hm];simp)]
  rw[hdo] at hap how ⊢;simp only[hm,Bool.false_eq_true,if_false];generalize aH s.tree a=e at *;generalize aN s.tree a ((s.past.length+1:Nat):Int)=L at *;refine wG tK ?_
  by_cases he:e=0
  ·subst he;simp only[if_true] at hap ⊢;refine ZZ 5 rfl (rfl) ?_;simp only[go_sem];refine ZW ZM ?_;refine ZS rfl ?_;refine sN tK 4 ?_;refine sC Tryz.func96 (hf:=(hv)) (hk:=?_);refine sC Tryz.func64 (hf:=(hap)) (hk:=?_);refine sN tK 5 ?_;refine sE ?_;refine wKd ?_
   try simp only[go_sem,gA,gB,gC]
   refine wG tK ?_;refine wDF (hb:=y8) (hk:=?_);refine wG tK ?_;refine wCG [] 972 Tryz.func25 (hf:=(hso)) (hk:=?_);refine wG tK ?_;refine ZW ZM ?_;refine ZS rfl ?_;refine sN tK 4 ?_;refine sC Tryz.func55 (hf:=(how)) (hk:=?_);simp only[go_sem,ZA];refine sB tK ?_;refine sW tK ?_;refine sE ?_;refine oA (bB 1000 11 z6 j6) ?_;simp only[go_sem];refine dSq tK ?_ ?_
   ·simp[go_sem,rowsOf];refine ⟨by omega,λx hx y hy hr=>?_⟩;have:=List.all_eq_true.1 (List.all_eq_true.1 (bE 1000 s.past) (ZP x) (W5.2 ⟨x,hx,rfl⟩)) y hy;simp only[Yh,List.contains_eq_mem,decide_eq_false_iff_not] at this;exact this hr
   simp only[go_sem];refine dS tK ?_;refine dS tK ?_;refine wKd ?_
   try simp only[go_sem,gA,gB,gC]
   refine wG tK ?_;refine wDF (hb:=(by simpa[aS] using hm)) (hk:=?_);refine wG tK ?_;refine ZZ 48 rfl Zr ?_;simp only[go_sem];refine wT ?_;rw[Wy y8];rfl
  ·simp only[he,if_false] at hap ⊢;refine ZZ 5 rfl (rfl) ?_;simp only[go_sem];refine ZW ZM ?_;refine ZS rfl ?_;refine sN tK 4 ?_;refine sC Tryz.func96 (hf:=(hv)) (hk:=?_);refine sC Tryz.func64 (hf:=(hap)) (hk:=?_);refine sN tK 5 ?_;refine sE ?_;refine wKd ?_
   try simp only[go_sem,gA,gB,gC]
   refine wG tK ?_;refine wDT (hb:=QS) (hk:=?_);refine wG tK ?_;refine wT ?_;rfl
structure SmallK (l:List Kept):Prop where
 len:l.length≤100000000
 each:∀k,k∈l->k.node.Small
theorem SmallK.one {k:Kept} (h:k.node.Small):SmallK [k]:=⟨by simp,λx hx=>by rw[List.mem_singleton.1 hx];exact h⟩
theorem fw {n:Node} (h:n.Small):Small [n]:=⟨by simp,λx hx=>by rw[List.mem_singleton.1 hx];exact h⟩
theorem ko (l:List Kept) (hl:SmallK l):af Tryz.prog 45 [.sl (l.map ZK)] [] (λr H=>r=.osl 22 8 0 (l.map ZK).length/\∀i b,aa [(22,.cells 67 8 (l.map ZK))] i=some b->aa H i=some b):=by
 have hlen:=hl.len;refine ZF tK (Tryz.func45) rfl (λC=>?_);simp only[Tryz.ntmps45,Tryz.results45,go_sem];refine wG tK ?_;refine ZL (λi:Nat=>i≤l.length) (λi=>l.length-i) (λi=>(3,.osl 22 8 0 i)::(5,.any)::(8,.int .i64 i)::u0 9 16 [])
  (λi=>[(22,.cells 67 8 ((l.take i).map ZK))]) 0 z8 ?_ λi hi=>?_
 ·simp only[go_sem];exact ZU w3 w3 p9
 simp only[go_sem];refine wG tK ?_;refine wD (λh=>?_) (λh=>?_)
 ·have hlt:i<l.length:=by simp at h;omega
  have hn:=hl.each _ (YG hlt);have hg:(l.map ZK).getD i []=ZK (l.getD i default):=Fam.getD hlt;have hs:=fz ZK hlt;generalize l.getD i default=n at hn hg hs;refine wGq tK ?_ ?_ u1
  ·simp[hlt,ZK]
  refine ZZ 14 rfl (rfl) ?_;simp only[go_sem];refine wC Tryz.func54 (hf:=(lg [n.node] (fw hn))) (hk:=?_);have ht:List.take i (List.map ZK (List.take i l))=List.map ZK (List.take i l):=Wy j0;have hw:IntKind.i64.wrap ((i:Int)+1)=(i:Int)+1:=wrap_small z8 z8;refine wGq tK ?_ ?_ (by simp only[go_sem,ht,hw,ZN];try exact rfl)
  ·simp[rowsOf,ZN];omega
  refine ZB ⟨i+1,by omega,by omega,ZU ?_ ?_ ?_⟩
  ·simp[go_sem]
  ·simp[go_sem,hs,ZK]
  ·simp only[go_sem]
 ·have e:i=l.length:=by simp at h;omega
  subst e;refine wG tK ?_;refine wT ?_;simp[go_sem]
theorem rH (l:List Kept) (hl:SmallK l):af Tryz.prog 45 [.sl (l.map ZK)] [] (λr _=>r=.sl (l.map ZK)):=af.read (ko l hl) (bh _)
theorem Au (k:Kept) (fid:Int):af Tryz.prog 157 [.agg (ZK k),.rp [.int .i64 fid] 0] [] (λr _=>r=.bool (k.node.fid==fid)):=by
 unfold ZK;refine ZF tK (Tryz.func157) rfl (λC=>?_);simp only[Tryz.ntmps157,Tryz.results157,go_sem];refine wG tK ?_;refine wT ?_;simp
def cj (l:List Kept) (fid:Int):Option Nat:=l.findIdx? λk=>k.node.fid==fid
theorem mY (l:List Kept) (fid:Int) (hlen:l.length≤100000000):af Tryz.prog 115 [.sl (l.map ZK),.int .i64 fid] [] (λr _=>r=.int .i64 (ct (cj l fid))):=by
 refine ZF tK (Tryz.func115) rfl (λC=>?_);simp only[Tryz.ntmps115,Tryz.results115,go_sem];refine wG tK ?_;refine ZZ 3 rfl (rfl) ?_;simp only[go_sem];refine wC Tryz.func118 (hf:=(jf l hlen ⟨_,Go.Proofs.Tryz.func157,by kernel_rfl,rfl⟩ rfl (λx _=>Au x fid))) (hk:=?_);refine wG tK ?_;refine wT ?_;simp[cj]
def Es (l:List Kept) (fid:Int):Bool:=l.any λk=>k.node.fid==fid
theorem Jd (l:List Kept) (fid:Int) (hlen:l.length≤100000000):af Tryz.prog 94 [.sl (l.map ZK),.int .i64 fid] [] (λr _=>r=.bool (Es l fid)):=by
 refine ZF tK (Tryz.func94) rfl (λC=>?_);simp only[Tryz.ntmps94,Tryz.results94,go_sem];refine wG tK ?_;refine wC Tryz.func115 (hf:=(mY l fid hlen)) (hk:=?_);refine wG tK ?_;refine wT ?_;rw[cj,mh];rfl
theorem Ck (k:Kept):af Tryz.prog 120 [.agg (ZK k)] [] (λr _=>r=.bool k.dirty):=by
 unfold ZK;refine ZF tK (Tryz.func120) rfl (λC=>?_);simp only[Tryz.ntmps120,Tryz.results120,go_sem];refine wG tK ?_;refine wT ?_;simp
theorem D3 (l:List Kept) (hl:SmallK l):af Tryz.prog 73 [.sl (l.map ZK)] [] (λr _=>r=.sl ((l.filter λk=>!k.dirty).map ZK)):=by
 refine ZF tK (Tryz.func73) rfl (λC=>?_);simp only[Tryz.ntmps73,Tryz.results73,go_sem];refine wG tK ?_;refine wCG [] 978 Tryz.func45 (hf:=(ko l hl)) (hk:=?_);refine wG tK ?_;refine wCG [1000] 100 Tryz.func70 (hf:=(ir l hl.len 1000 ⟨_,Go.Proofs.Tryz.func120,by kernel_rfl,rfl⟩ rfl x8 (λx _=>Ck x))) (hk:=?_);refine wG tK ?_;refine ZZ 1100 rfl Qu ?_;simp only[go_sem];refine wT ?_;have hle:=W6 (λk:Kept=>!k.dirty) l;generalize l.filter (λk=>!k.dirty)=d at *;rw[if_pos y8,ig y8]
theorem pR {l:List Kept} {fid:Int} {i:Nat} (h:cj l fid=some i):i<l.length:=(YM.1 h).1
def xg (l:List Kept) (fid now:Int):List Kept:=match cj l fid with
 | none=>l
 | some i=>l.set i { l.getD i default with last:=now }
theorem gK {M:List Kept} {i:Nat} (h:i<M.length):(M.map ZK).getD i []=[.int .i64 (M.getD i default).node.fid,.bool (M.getD i default).node.dir,.sl ((M.getD i default).node.data.map ZY),.sl ((M.getD i default).node.entries.map ZE),.int .i64 (M.getD i default).node.version,.bool (M.getD i default).dirty,.int .i64 (M.getD i default).worth,.int .i64 (M.getD i default).last]:=by
 rw[Fam.getD h];rfl
theorem jA (M:List Kept) (i:Nat) (n:Kept):(M.map ZK).set i (ZK n)=(M.set i n).map ZK:=by rw[List.map_set]
def bN (at_:List Node) (k:Kept):Bool:=!k.dirty&&(!bg at_ k.node.fid||!(((ak at_ k.node.fid).getD al).version==k.node.version))
theorem Cq (at_:List Node) (k:Kept) (hat:Small at_):af Tryz.prog 97 [.agg (ZK k),.rp [.sl (at_.map ZN)] 0] [] (λr _=>r=.bool (bN at_ k)):=by
 unfold ZK;refine ZF tK (Tryz.func97) rfl (λC=>?_);simp only[Tryz.ntmps97,Tryz.results97,go_sem];refine wG tK ?_;refine wC Tryz.func66 (hf:=(eI at_ k.node.fid hat)) (hk:=?_);simp only[go_sem,gy];unfold bN;generalize (ak at_ k.node.fid).getD al=n;generalize bg at_ k.node.fid=b;refine wGq tK ?_ ?_ w6
 ·simp[ZN];exact λh=>⟨h,λhb=>⟨h,hb⟩⟩
 refine wT ?_;cases k.dirty<;>cases b<;>rfl
theorem xU (l:List Kept) (at_:List Node) (hl:SmallK l) (hat:Small at_):af Tryz.prog 62 [.sl (l.map ZK),.sl (at_.map ZN)] [] (λr _=>r=.sl ((l.filter λk=>!bN at_ k).map ZK)):=by
 refine ZF tK (Tryz.func62) rfl (λC=>?_);simp only[Tryz.ntmps62,Tryz.results62,go_sem];refine wG tK ?_;refine ZZ 3 rfl (rfl) ?_;simp only[go_sem];refine wCG [] 978 Tryz.func45 (hf:=(ko l hl)) (hk:=?_);refine wG tK ?_;refine wCG [1000] 100 Tryz.func70 (hf:=(ir l hl.len 1000 ⟨_,Go.Proofs.Tryz.func97,by kernel_rfl,rfl⟩ (by simp[AV.bc]) x8 (λx _=>Cq at_ x hat))) (hk:=?_);refine wG tK ?_;refine ZZ 1100 rfl Qu ?_;simp only[go_sem];refine wT ?_;have hle:=W6 (λk:Kept=>!bN at_ k) l;generalize l.filter (λk=>!bN at_ k)=d at *;rw[if_pos y8,ig y8]
def iL (f:Nat->Int) (g:Nat->AV):Nat->List (Int×AV)
 | 0=>[]
 | i+1=>bx (iL f g i) (f i) (g i)
theorem k_ (f:Nat->Int) (g:Nat->AV):∀i,(iL f g i).Pairwise λa b=>a.1<b.1
 | 0=>List.Pairwise.nil
 | i+1=>cB (k_ f g i)
theorem oO {f:Nat->Int} {g:Nat->AV} {k:Int}:∀{i},(∀j,j<i->f j≠k)->bl (iL f g i) k=none
 | 0,_=>rfl
 | i+1,h=>by
  rw[iL,m_ (k_ f g i),if_neg (λe=>h i z8 e.symm)];exact oO λj hj=>h j z8
theorem oP {f:Nat->Int} {g:Nat->AV} {k:Int}:∀{i j},j<i->f j=k->(∀m,j<m->m<i->f m≠k)->bl (iL f g i) k=some (g j)
 | 0,_,h,_,_=>by omega
 | i+1,j,h,he,hl=>by
  rw[iL,m_ (k_ f g i)]
  by_cases hj:j=i
  ·subst hj;rw[if_pos he.symm]
  ·rw[if_neg (λe=>hl i z8 z8 e.symm)];exact oP z8 he λm h1 h2=>hl m h1 z8
def xN (l:List Kept) (i:Nat):Int:=(l.getD i default).node.fid
def og (l:List Kept) (n:Nat):Prop:=∀i,i<n->∀j,j<i->xN l j≠xN l i
instance (l:List Kept) (n:Nat):Decidable (og l n):=by unfold og;infer_instance
def rU (l:List Kept):Bool:=decide (og l l.length)
def gw (l:List Node) (i:Nat):Int:=(l.getD i default).fid
def ks (l:List Node) (i:Nat):List (Int×AV):=iL (gw l) (λi=>.agg (ZN (l.getD i default))) i
def CL (l:List Node):List (Int×AV):=ks l l.length
theorem EL {l:List Node} (h:Up l) (k:Int):bl (CL l) k=(ak l k).map λn=>.agg (ZN n):=by
 unfold CL ks;cases e:ak l k with
 | none=>
  have hn:=(eS h).1 e;exact oO λj hj=>hn _ (YG hj)
 | some n=>
  obtain ⟨hm,hf⟩:=(ZO h).1 e;obtain ⟨j,hj⟩:=W8 hm;have hjl:j<l.length:=(W3.1 hj).1;have hjd:=kS hj;rw[oP (j:=j) hjl (by unfold gw;rw[hjd];exact hf) λm h1 h2 h3=>by
   have:=h.lt h1 h2;unfold gw at h3;rw[hjd,hf,h3] at this;omega]
  simp only[Option.map_some,hjd]
structure JS where
 l:List Node
 next:Int
 version:Int
 own:List (Int×Int)
 ours:List (Int×Bool)
 lost:List (Int×Bool)
def atF (m:List (Int×Int)) (f:Int):Int:=if iq m f=true then GL m f else f
def gq (j:JS) (a:Act):Bool:=(bU a).any (cT j.lost)
def fo (j:JS) (r:Rec) (a:Act):Bool:=
 if ((a.kind≠3/\a.kind≠4)\/r.version<0)\/cT j.ours a.fid=true then false
 else match ak j.l a.fid with
  | none=>true
  | some n=>n.version != r.version
def cC (j:JS) (r:Rec):List (Int×Int):=if aS r.act=true then bx j.own r.act.fid j.next else j.own
def bS (j:JS) (r:Rec):Act:={ r.act with fid:=atF (cC j r) r.act.fid,dir:=atF (cC j r) r.act.dir,to:=if r.act.kind=5 then atF (cC j r) r.act.to else r.act.to }
noncomputable def jk (j:JS) (r:Rec):Int:=
 if gq j r.act=true then 14
 else if aS r.act=true/\(iq j.own r.act.fid=true\/r.act.fid≥0) then 2
 else if fo { j with own:=cC j r } r (bS j r)=true then 13
 else aH j.l (bS j r)
noncomputable def fm (j:JS) (r:Rec):JS:=
 if gq j r.act=true then j
 else if aS r.act=true/\(iq j.own r.act.fid=true\/r.act.fid≥0) then j
 else if fo { j with own:=cC j r } r (bS j r)=true then { j with own:=cC j r }
 else if aH j.l (bS j r)≠0 then { j with own:=if aS r.act=true then eB (cC j r) r.act.fid else cC j r }
 else { j with l:=aN j.l (bS j r) j.version,next:=if aS r.act=true then j.next+1 else j.next,version:=j.version+1,own:=cC j r }
def jS (j:JS) (r:Rec):Act:=
 if gq j r.act=true then r.act
 else if aS r.act=true/\(iq j.own r.act.fid=true\/r.act.fid≥0) then r.act
 else bS j r
noncomputable def iv (j:JS) (r:Rec):Verdict:=⟨jk j r,if jk j r=0 then (bS j r).fid else 0⟩
structure JG where
 j:JS
 vs:List Verdict
 done:List Act
def wm (j:JS) (f:Int):JS:={ j with lost:=bx j.lost f true }
def jF (m:List (Int×Bool)) (l:List Int):List (Int×Bool):=l.foldl (λm f=>bx m f true) m
noncomputable def iE (s:JG) (r:Rec):JG:=
 if jk s.j r=0 then ⟨{ fm s.j r with ours:=jF (fm s.j r).ours (bU (jS s.j r)) },s.vs++[iv s.j r],s.done++[jS s.j r]⟩
 else ⟨wm (fm s.j r) r.act.fid,s.vs++[iv s.j r],s.done⟩
def iz (l:List Node) (next version:Int):JG:=⟨⟨l,next,version,[],[],[]⟩,[],[]⟩
noncomputable def bL (l:List Node) (next version:Int) (log:List Rec):JG:=log.foldl iE (iz l next version)
noncomputable def jK (s:Srv) (c:Int) (log:List Rec):Srv:=
 ⟨(bL s.tree s.next ((s.past.length+1:Nat):Int) log).j.l,(bL s.tree s.next ((s.past.length+1:Nat):Int) log).j.next,s.past++(bL s.tree s.next ((s.past.length+1:Nat):Int) log).done.map λa=>⟨c,a⟩⟩
inductive Hist:List Past->List Node->Prop
 | nil:Hist [] [gr]
 | snoc {p:List Past} {t:List Node} (c:Int) (a:Act) (h:Hist p t) (ha:ActFit a) (he:aH t a=0):Hist (p++[⟨c,a⟩]) (aN t a ((p.length+1:Nat):Int))
theorem Hist.bH {p:List Past} {t:List Node} (h:Hist p t):Good t:=by
 induction h with
 | nil=>exact uK
 | snoc c a h ha he ih=>exact fF ih _ _ he
theorem Hist.st {p:List Past} {t:List Node} (h:Hist p t):∃st:Nat->List Node,st 0=[gr]/\st p.length=t /\
  ∀i,i<p.length->Good (st i)/\ActFit (p.getD i default).act/\aH (st i) (p.getD i default).act=0/\st (i+1)=aN (st i) (p.getD i default).act ((i+1:Nat):Int):=by
 induction h with
 | nil=>exact ⟨λ_=>[gr],rfl,rfl,λi hi=>by simp at hi⟩
 | @snoc p t c a h ha he ih=>
  obtain ⟨st,h0,h1,h2⟩:=ih;refine ⟨λi=>if i≤p.length then st i else aN t a ((p.length+1:Nat):Int),?_,?_,λi hi=>?_⟩
  ·simp[h0]
  ·show (if (p++[(⟨c,a⟩:Past)]).length≤p.length then _ else _)=_
   rw[if_neg y8]
  ·have hl:(p++[(⟨c,a⟩:Past)]).length=p.length+1:=by simp
   rw[hl] at hi
   by_cases e:i<p.length
   ·have hg:(p++[(⟨c,a⟩:Past)]).getD i default=p.getD i default:=by
     rw[Wv,YO e,Wv]
    rw[hg];simp only[show i≤p.length by omega,if_true,show i+1≤p.length by omega];exact h2 i e
   ·have e2:i=p.length:=by omega
    subst e2;have hg:(p++[(⟨c,a⟩:Past)]).getD p.length default=⟨c,a⟩:=by
     rw[Wv,YN (W7 _)];simp
    rw[hg];simp only[W7,if_true,show ¬p.length+1≤p.length by omega,if_false,h1];exact ⟨h.bH,ha,he,trivial⟩
theorem rW {j:JS} {r:Rec} (h:ActFit r.act):ActFit (bS j r):=⟨h.name,h.toName,h.data⟩
structure JInv (p:List Past) (c:Int) (k:Nat) (n0:Int) (s:JG):Prop where
 hist:Hist (p++s.done.map λa=>⟨c,a⟩) s.j.l
 version:s.j.version=((p.length+s.done.length+1:Nat):Int)
 len:s.done.length≤k
 vlen:s.vs.length=k
 next:n0≤s.j.next/\s.j.next≤n0+k
theorem JInv.step {p:List Past} {c:Int} {k:Nat} {n0:Int} {s:JG} (h:JInv p c k n0 s) {r:Rec} (hr:ActFit r.act):JInv p c (k+1) n0 (iE s r):=by
 unfold iE;have h1:=h.next;have h2:=h.len;have h3:=h.vlen
 by_cases he:jk s.j r=0
 ·rw[if_pos he];unfold jk at he;split at he
  ·omega
  ·rename_i c1;split at he
   ·omega
   ·rename_i c2;split at he
    ·omega
    ·rename_i c3;have hJ:fm s.j r={ s.j with l:=aN s.j.l (bS s.j r) s.j.version,next:=if aS r.act=true then s.j.next+1 else s.j.next,version:=s.j.version+1,own:=cC s.j r }:=by
      unfold fm;rw[if_neg c1,if_neg c2,if_neg c3,if_neg QS]
     have hA:jS s.j r=bS s.j r:=by unfold jS;rw[if_neg c1,if_neg c2]
     rw[hJ,hA];refine ⟨?_,?_,?_,?_,?_⟩
     ·have:=Hist.snoc c (bS s.j r) h.hist (rW hr) he;rw[List.length_append,List.length_map,←h.version] at this;simpa using this
     ·have:=h.version;simp only[List.length_append,List.length_cons,List.length_nil];omega
     ·simp only[List.length_append,List.length_cons,List.length_nil];omega
     ·simp only[List.length_append,List.length_cons,List.length_nil];omega
     ·simp only;split<;>omega
 ·rw[if_neg he];have hJ:(fm s.j r).l=s.j.l/\(fm s.j r).next=s.j.next/\(fm s.j r).version=s.j.version:=by
   unfold fm;unfold jk at he;split
   ·exact ⟨rfl,rfl,rfl⟩
   ·rename_i c1;rw[if_neg c1] at he;split
    ·exact ⟨rfl,rfl,rfl⟩
    ·rename_i c2;rw[if_neg c2] at he;split
     ·exact ⟨rfl,rfl,rfl⟩
     ·rename_i c3;rw[if_neg c3] at he;rw[if_pos he];exact ⟨rfl,rfl,rfl⟩
  obtain ⟨j1,j2,j3⟩:=hJ;refine ⟨?_,?_,?_,?_,?_⟩
  ·show Hist _ (fm s.j r).l
   rw[j1];exact h.hist
  ·show (fm s.j r).version=_
   rw[j3];exact h.version
  ·show s.done.length≤k+1;omega
  ·simp only[List.length_append,List.length_cons,List.length_nil];omega
  ·show n0≤(fm s.j r).next/\(fm s.j r).next≤n0+((k+1:Nat):Int)
   rw[j2];omega
theorem JInv.start {p:List Past} {t:List Node} (h:Hist p t) (c n0:Int):JInv p c 0 n0 (iz t n0 ((p.length+1:Nat):Int)):=
 ⟨by simpa[iz] using h,by simp[iz],by simp[iz],by simp[iz],by simp[iz]⟩
theorem JInv.qB {p:List Past} {t:List Node} (h:Hist p t) (c n0:Int) (log:List Rec) (hl:∀r,r∈log->ActFit r.act):JInv p c log.length n0 (bL t n0 ((p.length+1:Nat):Int) log):=by
 have key:∀(l:List Rec) (k:Nat) (s:JG),(∀r,r∈l->ActFit r.act)->JInv p c k n0 s->JInv p c (k+l.length) n0 (l.foldl iE s):=λl=>by
  induction l with
  | nil=>exact λk s _ h=>h
  | cons r l ih=>
   intro k s hl h;have:=ih (k+1) (iE s r) (λx hx=>hl x (List.mem_cons_of_mem _ hx)) (h.step (hl r List.mem_cons_self));rw[List.foldl_cons,List.length_cons,show k+(l.length+1)=k+1+l.length by omega];exact this
 have:=key log 0 _ hl (JInv.start h c n0)
 rwa [YP] at this
structure SrvOK (k:Nat) (s:Srv):Prop where
 hist:Hist s.past s.tree
 len:s.past.length≤k
 next:1≤s.next/\s.next≤1+k
theorem SrvOK.new:SrvOK 0 ⟨[gr],1,[]⟩:=⟨.nil,by simp,by simp⟩
theorem SrvOK.mono {k m:Nat} {s:Srv} (h:SrvOK k s) (hk:k≤m):SrvOK m s:=⟨h.hist,by have:=h.len;omega,by have:=h.next;omega⟩
theorem SrvOK.step {k:Nat} {s:Srv} (h:SrvOK k s) (c:Int) {a:Act} (ha:ActFit a) (he:doE s a=0):SrvOK (k+1) (doS s c a):=by
 have h1:=h.len;have h2:=h.next;have hf:ActFit (doA s a):=by unfold doA;split;exact ⟨ha.name,ha.toName,ha.data⟩;exact ha
 refine ⟨Hist.snoc c _ h.hist hf he,by simp[doS];omega,?_⟩
 show 1≤(if aS a=true then s.next+1 else s.next)/\(if aS a=true then s.next+1 else s.next)≤1+((k+1:Nat):Int)
 split<;>omega
theorem SrvOK.take {k:Nat} {s:Srv} (h:SrvOK k s) (c:Int) {log:List Rec} (hl:∀r,r∈log->ActFit r.act):SrvOK (k+log.length) (jK s c log):=by
 have h1:=h.len;have h2:=h.next;have hj:=JInv.qB h.hist c s.next log hl;have h3:=hj.len;have h4:=hj.next;exact ⟨hj.hist,by simp only[jK,List.length_append,List.length_map];omega,by show 1≤(bL s.tree s.next _ log).j.next/\(bL s.tree s.next _ log).j.next≤_;omega⟩
end La
namespace La
open Go Go.Eng
def Edge (l:List Node) (d:Int) (s:List UInt8) (f:Int):Prop:=∃n,n∈l/\n.fid=d/\(⟨s,f⟩:Entry)∈n.entries
def fj (l:List Node) (f:Int):Prop:=∃n,n∈l/\n.fid=f
structure Loc (n:Node):Prop where
 eup:EUp n.entries
 file:n.dir=false->n.entries=[]
 dirD:n.dir=true->n.data=[]
structure Wh (l:List Node):Prop where
 bH:Good l
 loc:∀n,n∈l->Loc n
 name:∀d s f,Edge l d s f->cE s=true
 there:∀d s f,Edge l d s f->fj l f
 noroot:∀d s f,Edge l d s f->f≠0
 par:∀f,fj l f->f≠0->∃d s,Edge l d s f
 one:∀d s d' s' f,Edge l d s f->Edge l d' s' f->d=d'/\s=s'
 root:∃n,n∈l/\n.fid=0/\n.dir=true
theorem pv {l:List Node} (h:Up l) {a b:Node} (ha:a∈l) (hb:b∈l) (hf:a.fid=b.fid):a=b:=by
 have h1:=(ZO h).2 ⟨ha,rfl⟩;have h2:=(ZO h).2 ⟨hb,hf.symm⟩;rw[h1] at h2;injection h2
theorem mT {l:List Node} (h:Up l) {n:Node} (hn:n∈l) {s:List UInt8} {f:Int}:Edge l n.fid s f↔(⟨s,f⟩:Entry)∈n.entries:=
 ⟨λ⟨m,hm,hf,he⟩=>by rw[pv h hm hn hf] at he;exact he,λhe=>⟨n,hn,rfl,he⟩⟩
theorem lW {l:List Node} (h:Up l) (n:Node) {d:Int} {s:List UInt8} {f:Int}:Edge (aD l n) d s f↔(d=n.fid/\(⟨s,f⟩:Entry)∈n.entries)\/(d≠n.fid/\Edge l d s f):=by
 obtain ⟨_,h2⟩:=bn h n;constructor
 ·rintro ⟨m,hm,rfl,he⟩
  rcases (h2 m).1 hm with rfl | ⟨hm,hne⟩
  ·exact .inl ⟨rfl,he⟩
  ·exact .inr ⟨hne,m,hm,rfl,he⟩
 ·rintro (⟨rfl,he⟩ | ⟨hne,m,hm,rfl,he⟩)
  ·exact ⟨n,(h2 n).2 (.inl rfl),rfl,he⟩
  ·exact ⟨m,(h2 m).2 (.inr ⟨hm,hne⟩),rfl,he⟩
theorem mU {l:List Node} (h:Up l) (n:Node) {f:Int}:fj (aD l n) f↔f=n.fid\/fj l f:=by
 obtain ⟨_,h2⟩:=bn h n;constructor
 ·rintro ⟨m,hm,rfl⟩
  rcases (h2 m).1 hm with rfl | ⟨hm,hne⟩
  ·exact .inl rfl
  ·exact .inr ⟨m,hm,rfl⟩
 ·rintro (rfl | ⟨m,hm,rfl⟩)
  ·exact ⟨n,(h2 n).2 (.inl rfl),rfl⟩
  ·by_cases hne:m.fid=n.fid
   ·exact ⟨n,(h2 n).2 (.inl rfl),hne.symm⟩
   ·exact ⟨m,(h2 m).2 (.inr ⟨hm,hne⟩),rfl⟩
theorem Co {l:List Node} (k:Int) {d:Int} {s:List UInt8} {f:Int}:Edge (eQ l k) d s f↔Edge l d s f/\d≠k:=by
 constructor
 ·rintro ⟨m,hm,rfl,he⟩;have:=W9.1 hm;exact ⟨⟨m,this.1,rfl,he⟩,by simpa using this.2⟩
 ·rintro ⟨⟨m,hm,rfl,he⟩,hk⟩;exact ⟨m,W9.2 ⟨hm,by simpa using hk⟩,rfl,he⟩
theorem Em {l:List Node} (k:Int) {f:Int}:fj (eQ l k) f↔fj l f/\f≠k:=by
 constructor
 ·rintro ⟨m,hm,rfl⟩;have:=W9.1 hm;exact ⟨⟨m,this.1,rfl⟩,by simpa using this.2⟩
 ·rintro ⟨⟨m,hm,rfl⟩,hk⟩;exact ⟨m,W9.2 ⟨hm,by simpa using hk⟩,rfl⟩
theorem uE {l:List Entry} (h:EUp l) {s0:List UInt8} (hs:isE l s0=false) (f0:Int) {s:List UInt8} {f:Int}:(⟨s,f⟩:Entry)∈bz l s0 f0↔(s=s0/\f=f0)\/(⟨s,f⟩:Entry)∈l:=by
 rw[(j_ h hs f0).2.1];simp
theorem uU {l:List Entry} {s0 s:List UInt8} {f:Int}:(⟨s,f⟩:Entry)∈de l s0↔(⟨s,f⟩:Entry)∈l/\s≠s0:=by
 unfold de;rw[W9];simp
theorem kp {l:List Entry} (h:EUp l) (s:List UInt8):EUp (de l s):=h.sublist Y1
theorem dv {n:Node} {s:List UInt8} (h:cf n s=0):cE s=true/\isE n.entries s=false:=by
 unfold cf at h;split at h
 ·rename_i h1;split at h
  ·omega
  ·rename_i h2;exact ⟨h1,by simpa using h2⟩
 ·omega
theorem EV {l:List Node} {k:Int} (hu:Up l) (h:bg l k=false):¬fj l k:=by
 rintro ⟨m,hm,rfl⟩;have:=(ZO hu).2 ⟨hm,rfl⟩;rw[jz this] at h;cases h
theorem Cf {l:List Node} (h:Wh l) (a:Act) (v:Int) (he:cQ l a=0):Wh (dQ l a v):=by
 have hg:=pN h.bH a v he;have hu:=h.bH.up;have hL:dQ l a v=aD (aD l { aA (ar l a.dir) a.name a.fid with version:=v }) (dP a v):=by unfold dQ;rw[if_pos he]
 unfold cQ at he;split at he
 case isFalse hd=>exact absurd he hd
 rename_i hd;obtain ⟨n,hf,hgn,hdir⟩:=iO hd;rw[hgn] at he hL;obtain ⟨hn,hnk⟩:=(ZO hu).1 hf;split at he
 case isFalse hr=>exact absurd he hr
 rename_i hro;obtain ⟨hnm,hfree⟩:=dv hro;split at he
 ·omega
 rename_i hnew;have hno:bg l a.fid=false/\a.fid≠0:=by simpa using hnew
 have hnin:=EV hu hno.1;have hl:=h.loc n hn;have hu1:=(bn hu { aA n a.name a.fid with version:=v }).1;have hnf:n.fid≠a.fid:=λe=>hnin ⟨n,hn,e⟩
 rw[hL] at hg ⊢;have hE:∀d s f,Edge (aD (aD l { aA n a.name a.fid with version:=v }) (dP a v)) d s f↔Edge l d s f\/(d=n.fid/\s=a.name/\f=a.fid):=λd s f=>by
  rw[lW hu1,lW hu]
  show (d=a.fid/\(⟨s,f⟩:Entry)∈[])\/(d≠a.fid/\((d=n.fid/\(⟨s,f⟩:Entry)∈bz n.entries a.name a.fid)\/(d≠n.fid/\Edge l d s f)))↔_
  rw[uE hl.eup hfree];constructor
  ·rintro (⟨_,h0⟩ | ⟨h1,⟨rfl,h2 | h2⟩ | ⟨h2,h3⟩⟩)
   ·cases h0
   ·exact .inr ⟨rfl,h2⟩
   ·exact .inl ⟨n,hn,rfl,h2⟩
   ·exact .inl h3
  ·rintro (h1 | ⟨rfl,rfl,rfl⟩)
   ·refine .inr ⟨λe=>?_,?_⟩
    ·obtain ⟨m,hm,hmf,_⟩:=h1;exact hnin ⟨m,hm,hmf.trans e⟩
    ·by_cases hd:d=n.fid
     ·subst hd;exact .inl ⟨rfl,.inr ((mT hu hn).1 h1)⟩
     ·exact .inr ⟨hd,h1⟩
   ·exact .inr ⟨hnf,.inl ⟨rfl,.inl ⟨rfl,rfl⟩⟩⟩
 have hF:∀f,fj (aD (aD l { aA n a.name a.fid with version:=v }) (dP a v)) f↔f=a.fid\/fj l f:=λf=>by
  rw[mU hu1,mU hu]
  show f=a.fid\/f=n.fid\/fj l f↔_
  constructor
  ·rintro (h | rfl | h)
   ·exact .inl h
   ·exact .inr ⟨n,hn,rfl⟩
   ·exact .inr h
  ·rintro (h | h)
   ·exact .inl h
   ·exact .inr (.inr h)
 refine ⟨hg,λx hx=>?_,λd s f hd=>?_,λd s f hd=>?_,λd s f hd=>?_,λf hf h0=>?_,λd s d' s' f h1 h2=>?_,?_⟩
 ·rcases fV hx with rfl | hx
  ·exact ⟨by unfold EUp;simp[dP],λ_=>rfl,λ_=>rfl⟩
  ·rcases fV hx with rfl | hx
   ·exact ⟨(j_ hl.eup hfree a.fid).1,λh0=>(by
     have h0:n.dir=false:=h0;rw[hdir] at h0;cases h0),hl.dirD⟩
   ·exact h.loc x hx
 ·rcases (hE d s f).1 hd with h1 | ⟨_,rfl,_⟩
  ·exact h.name d s f h1
  ·exact hnm
 ·rcases (hE d s f).1 hd with h1 | ⟨_,_,rfl⟩
  ·exact (hF f).2 (.inr (h.there d s f h1))
  ·exact (hF _).2 (.inl rfl)
 ·rcases (hE d s f).1 hd with h1 | ⟨_,_,rfl⟩
  ·exact h.noroot d s f h1
  ·exact hno.2
 ·rcases (hF f).1 hf with rfl | hf
  ·exact ⟨n.fid,a.name,(hE _ _ _).2 (.inr ⟨rfl,rfl,rfl⟩)⟩
  ·obtain ⟨d,s,h1⟩:=h.par f hf h0;exact ⟨d,s,(hE _ _ _).2 (.inl h1)⟩
 ·rcases (hE d s f).1 h1 with h1 | ⟨rfl,rfl,rfl⟩
  ·rcases (hE d' s' f).1 h2 with h2 | ⟨rfl,rfl,rfl⟩
   ·exact h.one d s d' s' f h1 h2
   ·exact absurd (h.there _ _ _ h1) hnin
  ·rcases (hE d' s' _).1 h2 with h2 | ⟨rfl,rfl,_⟩
   ·exact absurd (h.there _ _ _ h2) hnin
   ·exact ⟨rfl,rfl⟩
 ·obtain ⟨m,hm,hm0,hmd⟩:=h.root;have hmem:∀x,x∈aD l { aA n a.name a.fid with version:=v }->x.fid≠a.fid->x∈aD (aD l { aA n a.name a.fid with version:=v }) (dP a v):=λx hx hne=>((bn hu1 (dP a v)).2 x).2 (.inr ⟨hx,hne⟩)
  by_cases hmn:m.fid=n.fid
  ·refine ⟨{ aA n a.name a.fid with version:=v },hmem _ (((bn hu _).2 _).2 (.inl rfl)) hnf,hmn.symm.trans hm0,hdir⟩
  ·exact ⟨m,hmem _ (((bn hu _).2 _).2 (.inr ⟨hm,hmn⟩)) (by rw[hm0];exact λe=>hno.2 e.symm),hm0,hmd⟩
theorem FA {l:List Node} (h:Wh l) (a:Act) (v:Int) (he:df l a=0):Wh (dg l a v):=by
 have hg:=sI h.bH a v he;have hu:=h.bH.up;have hL:dg l a v=aD l { ar l a.fid with data:=a.data,version:=v }:=by unfold dg;rw[if_pos he]
 unfold df at he;cases hf:ak l a.fid with
 | none=>rw[hf] at he;simp at he
 | some n=>
  rw[hf] at he;simp only at he;obtain ⟨hn,hnk⟩:=(ZO hu).1 hf;have hgn:ar l a.fid=n:=by unfold ar;rw[hf];rfl
  rw[hgn] at hL;split at he
  ·omega
  rename_i hdir;rw[hL] at hg ⊢;have hE:∀d s f,Edge (aD l { n with data:=a.data,version:=v }) d s f↔Edge l d s f:=λd s f=>by
   rw[lW hu]
   show (d=n.fid/\(⟨s,f⟩:Entry)∈n.entries)\/(d≠n.fid/\Edge l d s f)↔_
   constructor
   ·rintro (⟨rfl,h1⟩ | ⟨_,h1⟩)
    ·exact ⟨n,hn,rfl,h1⟩
    ·exact h1
   ·intro h1
    by_cases hd:d=n.fid
    ·subst hd;exact .inl ⟨rfl,(mT hu hn).1 h1⟩
    ·exact .inr ⟨hd,h1⟩
  have hF:∀f,fj (aD l { n with data:=a.data,version:=v }) f↔fj l f:=λf=>by
   rw[mU hu]
   show f=n.fid\/fj l f↔_
   constructor
   ·rintro (rfl | h)
    ·exact ⟨n,hn,rfl⟩
    ·exact h
   ·exact .inr
  refine ⟨hg,λx hx=>?_,λd s f hd=>h.name d s f ((hE _ _ _).1 hd),λd s f hd=>(hF _).2 (h.there d s f ((hE _ _ _).1 hd)),λd s f hd=>h.noroot d s f ((hE _ _ _).1 hd),λf hf h0=>?_,λd s d' s' f h1 h2=>h.one d s d' s' f ((hE _ _ _).1 h1) ((hE _ _ _).1 h2),?_⟩
  ·rcases fV hx with rfl | hx
   ·have hl:=h.loc n hn;exact ⟨hl.eup,hl.file,λh0=>absurd h0 hdir⟩
   ·exact h.loc x hx
  ·obtain ⟨d,s,h1⟩:=h.par f ((hF f).1 hf) h0;exact ⟨d,s,(hE _ _ _).2 h1⟩
  ·obtain ⟨m,hm,hm0,hmd⟩:=h.root;refine ⟨m,((bn hu _).2 m).2 (.inr ⟨hm,λe=>?_⟩),hm0,hmd⟩;have:m=n:=pv hu hm hn e;subst this;exact hdir hmd
theorem sZ {l:List Node} (h:Wh l) {a:Act} (he:bC l a=0):∃n,ak l a.dir=some n/\ar l a.dir=n/\n∈l/\n.fid=a.dir/\n.dir=true/\Edge l a.dir a.name a.fid:=by
 unfold bC at he;split at he
 case isFalse hd=>exact absurd he hd
 rename_i hd;obtain ⟨n,hf,hgn,hdir⟩:=iO hd;obtain ⟨hn,hnk⟩:=(ZO h.bH.up).1 hf;rw[hgn] at he;cases e:av n a.name with
 | none=>rw[e] at he;simp at he
 | some f=>
  rw[e] at he;simp only at he;split at he
  case isFalse hd=>omega
  rename_i hff;subst hff;exact ⟨n,hf,hgn,hn,hnk,hdir,n,hn,hnk,(YE (h.loc n hn).eup).1 e⟩
theorem uB {l:List Node} (hu:Up l) {n:Node} (hn:n∈l) (s0:List UInt8) (v:Int) {d:Int} {s:List UInt8} {f:Int}:Edge (aD l { aC n s0 with version:=v }) d s f↔Edge l d s f/\¬(d=n.fid/\s=s0):=by
 rw[lW hu]
 show (d=n.fid/\(⟨s,f⟩:Entry)∈de n.entries s0)\/(d≠n.fid/\Edge l d s f)↔_
 rw[uU];constructor
 ·rintro (⟨rfl,h1,h2⟩ | ⟨h1,h2⟩)
  ·exact ⟨⟨n,hn,rfl,h1⟩,λh=>h2 h.2⟩
  ·exact ⟨h2,λh=>h1 h.1⟩
 ·rintro ⟨h1,h2⟩
  by_cases hd:d=n.fid
  ·subst hd;exact .inl ⟨rfl,(mT hu hn).1 h1,λe=>h2 ⟨rfl,e⟩⟩
  ·exact .inr ⟨hd,h1⟩
theorem DG {l:List Node} (h:Wh l) (a:Act) (v:Int) (he:cN l a=0):Wh (cO l a v):=by
 have hg:=qz h.bH a v he;have hu:=h.bH.up;have hL:cO l a v=eQ (aD l { aC (ar l a.dir) a.name with version:=v }) a.fid:=by unfold cO;rw[if_pos he]
 unfold cN at he;split at he
 case isFalse hd=>exact absurd he hd
 rename_i hnd;obtain ⟨n,hf,hgn,hn,hnk,hdir,hed⟩:=sZ h hnd;rw[hgn] at hL;cases hx:ak l a.fid with
 | none=>rw[hx] at he;simp at he
 | some x=>
  rw[hx] at he;simp only at he;obtain ⟨hxm,hxf⟩:=(ZO hu).1 hx;have hxe:x.entries=[]:=by
   cases e:x.entries with
   | nil=>rfl
   | cons p q=>rw[e] at he;simp at he
  rw[hL] at hg ⊢;have hnoE:∀s f,¬Edge l a.fid s f:=λs f h1=>by
   rw[←hxf] at h1;have:=(mT hu hxm).1 h1;rw[hxe] at this;cases this
  have hE:∀d s f,Edge (eQ (aD l { aC n a.name with version:=v }) a.fid) d s f↔Edge l d s f/\¬(d=a.dir/\s=a.name):=λd s f=>by
   rw[Co,uB hu hn,hnk];constructor
   ·exact λh=>h.1
   ·exact λh=>⟨h,λe=>by subst e;exact hnoE s f h.1⟩
  have hF:∀f,fj (eQ (aD l { aC n a.name with version:=v }) a.fid) f↔fj l f/\f≠a.fid:=λf=>by
   rw[Em,mU hu]
   show (f=n.fid\/fj l f)/\f≠a.fid↔_
   constructor
   ·rintro ⟨rfl | h,h1⟩
    ·exact ⟨⟨n,hn,rfl⟩,h1⟩
    ·exact ⟨h,h1⟩
   ·rintro ⟨h,h1⟩;exact ⟨.inr h,h1⟩
  have hup1:=(bn hu { aC n a.name with version:=v });refine ⟨hg,λx hx=>?_,λd s f hd=>h.name d s f ((hE _ _ _).1 hd).1,λd s f hd=>(hF _).2 ⟨h.there d s f ((hE _ _ _).1 hd).1,λe=>?_⟩,λd s f hd=>h.noroot d s f ((hE _ _ _).1 hd).1,λf hf h0=>?_,λd s d' s' f h1 h2=>h.one d s d' s' f ((hE _ _ _).1 h1).1 ((hE _ _ _).1 h2).1,?_⟩
  ·rcases fV (W9.1 hx).1 with rfl | hx
   ·have hl:=h.loc n hn;exact ⟨kp hl.eup _,λh0=>by
     show de n.entries a.name=[]
     rw[hl.file h0];rfl,hl.dirD⟩
   ·exact h.loc x hx
  ·subst e;obtain ⟨h1,h2⟩:=(hE _ _ _).1 hd;exact h2 (h.one _ _ _ _ _ h1 hed)
  ·obtain ⟨h1,h2⟩:=(hF f).1 hf;obtain ⟨d,s,h3⟩:=h.par f h1 h0;refine ⟨d,s,(hE _ _ _).2 ⟨h3,λe=>?_⟩⟩;obtain ⟨rfl,rfl⟩:=e;obtain ⟨m,hm,hmf,hme⟩:=hed;obtain ⟨m',hm',hmf',hme'⟩:=h3;have:m=m':=pv hu hm hm' (hmf.trans hmf'.symm);subst this;have:=(h.loc m hm).eup.same hme hme' rfl;injection this with _ h5
   exact h2 h5.symm
  ·obtain ⟨m,hm,hm0,hmd⟩:=h.root;have h0:(0:Int)≠a.fid:=λe=>h.noroot _ _ _ hed e.symm
   by_cases hmn:m.fid=n.fid
   ·exact ⟨{ aC n a.name with version:=v },W9.2 ⟨(hup1.2 _).2 (.inl rfl),by
     show (!(n.fid==a.fid))=true
     rw[←hmn,hm0];simpa using h0⟩,hmn.symm.trans hm0,hdir⟩
   ·exact ⟨m,W9.2 ⟨(hup1.2 _).2 (.inr ⟨hm,hmn⟩),by rw[hm0];simpa using h0⟩,hm0,hmd⟩
theorem DH {l:List Node} (h:Wh l) (a:Act) (v:Int) (he:dp l a=0):Wh (db l a v):=by
 have hg:=qA h.bH a v he;have hu:=h.bH.up;have hL:db l a v=aD (if a.to=a.dir then l else aD l { aC (ar l a.dir) a.name with version:=v }) { aA (toN l a) a.toName a.fid with version:=v }:=by unfold db;rw[if_pos he]
 unfold dp at he;split at he
 case isFalse hd=>exact absurd he hd
 rename_i hnd;obtain ⟨n,hf,hgn,hn,hnk,hdir,hed⟩:=sZ h hnd;split at he
 case isFalse hd=>exact absurd he hd
 rename_i hdt;obtain ⟨t,htf,htg,htdir⟩:=iO hdt;obtain ⟨htm,htk⟩:=(ZO hu).1 htf;split at he
 case isFalse hd=>exact absurd he hd
 rename_i hro;obtain ⟨hnm,hfree⟩:=dv hro;rw[hgn] at hL;rw[hL] at hg ⊢
 -- the directory that gets the name
 have hT:(toN l a).fid=a.to/\(toN l a).dir=true/\EUp (toN l a).entries/\((toN l a).dir=true->(toN l a).data=[])/\∀s f,(⟨s,f⟩:Entry)∈(toN l a).entries↔Edge l a.to s f/\¬(a.to=a.dir/\s=a.name):=by
  unfold toN;split
  ·rename_i htd;rw[hgn];have hl:=h.loc n hn;refine ⟨hnk.trans htd.symm,hdir,kp hl.eup _,hl.dirD,λs f=>?_⟩
   show (⟨s,f⟩:Entry)∈de n.entries a.name↔_
   rw[uU,htd,←hnk,mT hu hn];simp
  ·rename_i htd;rw[htg];have hl:=h.loc t htm;refine ⟨htk,htdir,hl.eup,hl.dirD,λs f=>?_⟩;rw[←htk,mT hu htm];constructor
   ·exact λh=>⟨h,λe=>htd (htk.symm.trans e.1)⟩
   ·exact λh=>h.1
 obtain ⟨hTf,hTd,hTe,hTda,hTm⟩:=hT;generalize hl1:(if a.to=a.dir then l else aD l { aC n a.name with version:=v })=l1 at hg ⊢;have hu1:Up l1:=by subst hl1;split;exact hu;exact (bn hu _).1
 have hE1:∀d s f,d≠a.to->(Edge l1 d s f↔Edge l d s f/\¬(d=a.dir/\s=a.name)):=λd s f hd=>by
  subst hl1;split
  ·rename_i htd;exact ⟨λh=>⟨h,λe=>hd (e.1.trans htd.symm)⟩,λh=>h.1⟩
  ·rw[uB hu hn,hnk]
 have hF1:∀f,fj l1 f↔fj l f:=λf=>by
  subst hl1;split
  ·exact Iff.rfl
  ·rw[mU hu]
   show f=n.fid\/fj l f↔_
   exact ⟨λh=>h.elim (λe=>⟨n,hn,e.symm⟩) id,.inr⟩
 have hE:∀d s f,Edge (aD l1 { aA (toN l a) a.toName a.fid with version:=v }) d s f↔(Edge l d s f/\¬(d=a.dir/\s=a.name))\/(d=a.to/\s=a.toName/\f=a.fid):=λd s f=>by
  rw[lW hu1]
  show (d=(toN l a).fid/\(⟨s,f⟩:Entry)∈bz (toN l a).entries a.toName a.fid)\/(d≠(toN l a).fid/\Edge l1 d s f)↔_
  rw[uE hTe hfree,hTm,hTf];constructor
  ·rintro (⟨rfl,h1 | h1⟩ | ⟨h1,h2⟩)
   ·exact .inr ⟨rfl,h1⟩
   ·exact .inl h1
   ·exact .inl ((hE1 d s f h1).1 h2)
  ·rintro (h1 | ⟨rfl,h1⟩)
   ·by_cases hd:d=a.to
    ·subst hd;exact .inl ⟨rfl,.inr h1⟩
    ·exact .inr ⟨hd,(hE1 d s f hd).2 h1⟩
   ·exact .inl ⟨rfl,.inl h1⟩
 have hF:∀f,fj (aD l1 { aA (toN l a) a.toName a.fid with version:=v }) f↔fj l f:=λf=>by
  rw[mU hu1,hF1]
  show f=(toN l a).fid\/fj l f↔_
  rw[hTf];exact ⟨λh=>h.elim (λe=>⟨t,htm,htk.trans e.symm⟩) id,.inr⟩
 have hthere:=h.there _ _ _ hed
 -- who leads to the fid that moves: its old place alone
 have hold:∀d s,Edge l d s a.fid->d=a.dir/\s=a.name:=λd s h1=>h.one _ _ _ _ _ h1 hed
 refine ⟨hg,λx hx=>?_,λd s f hd=>?_,λd s f hd=>?_,λd s f hd=>?_,λf hf h0=>?_,λd s d' s' f h1 h2=>?_,?_⟩
 ·rcases fV hx with rfl | hx
  ·exact ⟨(j_ hTe hfree a.fid).1,λh0=>(by
    have h0:(toN l a).dir=false:=h0;rw[hTd] at h0;cases h0),hTda⟩
  ·subst hl1;split at hx
   ·exact h.loc x hx
   ·rcases fV hx with rfl | hx
    ·have hl:=h.loc n hn;exact ⟨kp hl.eup _,λh0=>by
      show de n.entries a.name=[]
      rw[hl.file h0];rfl,hl.dirD⟩
    ·exact h.loc x hx
 ·rcases (hE d s f).1 hd with h1 | ⟨_,rfl,_⟩
  ·exact h.name d s f h1.1
  ·exact hnm
 ·rcases (hE d s f).1 hd with h1 | ⟨_,_,rfl⟩
  ·exact (hF f).2 (h.there d s f h1.1)
  ·exact (hF _).2 hthere
 ·rcases (hE d s f).1 hd with h1 | ⟨_,_,rfl⟩
  ·exact h.noroot d s f h1.1
  ·exact h.noroot _ _ _ hed
 ·by_cases hff:f=a.fid
  ·subst hff;exact ⟨a.to,a.toName,(hE _ _ _).2 (.inr ⟨rfl,rfl,rfl⟩)⟩
  ·obtain ⟨d,s,h1⟩:=h.par f ((hF f).1 hf) h0;refine ⟨d,s,(hE _ _ _).2 (.inl ⟨h1,λe=>?_⟩)⟩;obtain ⟨rfl,rfl⟩:=e;obtain ⟨m,hm,hmf,hme⟩:=hed;obtain ⟨m',hm',hmf',hme'⟩:=h1;have:m=m':=pv hu hm hm' (hmf.trans hmf'.symm);subst this;have:=(h.loc m hm).eup.same hme hme' rfl;injection this with _ h5
   exact hff h5.symm
 ·rcases (hE d s f).1 h1 with h1 | ⟨rfl,rfl,rfl⟩
  ·rcases (hE d' s' f).1 h2 with h2 | ⟨rfl,rfl,rfl⟩
   ·exact h.one d s d' s' f h1.1 h2.1
   ·exact absurd (hold d s h1.1) h1.2
  ·rcases (hE d' s' _).1 h2 with h2 | ⟨rfl,rfl,_⟩
   ·exact absurd (hold d' s' h2.1) h2.2
   ·exact ⟨rfl,rfl⟩
 ·obtain ⟨m,hm,hm0,hmd⟩:=h.root
  by_cases hmt:m.fid=a.to
  ·exact ⟨_,((bn hu1 _).2 _).2 (.inl rfl),hTf.trans (hmt.symm.trans hm0),hTd⟩
  ·have hml1:∃x,x∈l1/\x.fid=0/\x.dir=true:=by
    subst hl1;split
    ·exact ⟨m,hm,hm0,hmd⟩
    ·by_cases hmn:m.fid=n.fid
     ·exact ⟨{ aC n a.name with version:=v },((bn hu _).2 _).2 (.inl rfl),hmn.symm.trans hm0,hdir⟩
     ·exact ⟨m,((bn hu _).2 _).2 (.inr ⟨hm,hmn⟩),hm0,hmd⟩
   obtain ⟨x,hx,hx0,hxd⟩:=hml1;exact ⟨x,((bn hu1 _).2 _).2 (.inr ⟨hx,by
    show x.fid≠(toN l a).fid
    rw[hTf,hx0,←hm0];exact hmt⟩),hx0,hxd⟩
theorem Fz {l:List Node} (h:Wh l) (a:Act) (v:Int) (he:aH l a=0):Wh (aN l a v):=by
 unfold aH at he;unfold aN;split at he
 ·rename_i h1;rw[if_pos h1];exact Cf h a v he
 ·rename_i h1;rw[if_neg h1];split at he
  ·rename_i h2;rw[if_pos h2];exact Cf h a v he
  ·rename_i h2;rw[if_neg h2];split at he
   ·rename_i h3;rw[if_pos h3];exact FA h a v he
   ·rename_i h3;rw[if_neg h3];split at he
    ·rename_i h4;rw[if_pos h4];exact DG h a v he
    ·rename_i h4;rw[if_neg h4];split at he
     ·rename_i h5;rw[if_pos h5];exact DH h a v he
     ·omega
theorem IC:Wh [gr]:=by
 have hE:∀d s f,¬Edge [gr] d s f:=λd s f ⟨n,hn,_,he⟩=>by rw[List.mem_singleton.1 hn] at he;cases he
 exact ⟨uK,λn hn=>by rw[List.mem_singleton.1 hn];exact ⟨by unfold EUp;simp[gr],λ_=>rfl,λ_=>rfl⟩,λd s f h=>absurd h (hE d s f),λd s f h=>absurd h (hE d s f),λd s f h=>absurd h (hE d s f),
  λf ⟨n,hn,hf⟩ h0=>by rw[List.mem_singleton.1 hn] at hf;exact absurd hf.symm h0,λd s d' s' f h=>absurd h (hE d s f),⟨gr,List.mem_singleton.2 rfl,rfl,rfl⟩⟩
theorem Hist.whole {p:List Past} {t:List Node} (h:Hist p t):Wh t:=by
 induction h with
 | nil=>exact IC
 | snoc c a h ha he ih=>exact Fz ih _ _ he
def jC (l:List Node):Nat->List (Int×Node)
 | 0=>[]
 | i+1=>bx (jC l i) (gw l i) (l.getD i default)
def bI (l:List Node):List (Int×Node):=jC l l.length
theorem yC (l:List Node):∀i,ks l i=mN (jC l i)
 | 0=>rfl
 | i+1=>by
  have ih:=yC l i
  show bx (ks l i) (gw l i) _=_
  rw[ih,wu];rfl
theorem wv (l:List Node):CL l=mN (bI l):=yC l l.length
theorem bu (l:List Node):eG (bI l):=by
 have:∀i,eG (jC l i):=λi=>by
  induction i with
  | zero=>exact List.Pairwise.nil
  | succ i ih=>exact cB ih
 exact this _
theorem cm {l:List Node} (h:Up l) (k:Int):bl (bI l) k=ak l k:=by
 have h1:=EL h k;rw[wv,gi] at h1;cases e:bl (bI l) k with
 | none=>
  rw[e] at h1;cases e2:ak l k with
  | none=>rfl
  | some n=>rw[e2] at h1;cases h1
 | some m=>
  rw[e] at h1;cases e2:ak l k with
  | none=>rw[e2] at h1;cases h1
  | some n=>
   rw[e2] at h1;simp only[Option.map_some,Option.some.injEq,AV.agg.injEq] at h1
   -- the same nodes, as both come from the list
   have hm:∀i,i≤l.length->∀p,p∈jC l i->p.2∈l/\p.2.fid=p.1:=λi=>by
    induction i with
    | zero=>intro _ p hp;cases hp
    | succ i ih=>
     intro hi p hp;have hr:eG (jC l i):=by
      have:∀j,eG (jC l j):=λj=>by
       induction j with
       | zero=>exact List.Pairwise.nil
       | succ j ihj=>exact cB ihj
      exact this i
     rcases (cn hr p.1 p.2).1 hp with ⟨h1,h2⟩ | ⟨_,h2⟩
     ·rw[h1,h2];exact ⟨YG z8,rfl⟩
     ·exact ih z8 p h2
   obtain ⟨q1,q2⟩:=hm _ (W7 _) _ (cZ e);rw[←e2];exact ((ZO h).2 ⟨q1,q2⟩).symm
theorem ji (l:List Node):∀i,eG (jC l i)
 | 0=>List.Pairwise.nil
 | i+1=>cB (ji l i)
theorem pW (l:List Node):∀i,i≤l.length->∀p,p∈jC l i->p.2∈l
 | 0,_,p,hp=>by cases hp
 | i+1,hi,p,hp=>by
  rcases (cn (ji l i) p.1 p.2).1 hp with ⟨h1,h2⟩ | ⟨_,h2⟩
  ·rw[h2];exact YG z8
  ·exact pW l i z8 p h2
theorem uX (l:List Node):∀i,(jC l i).length≤i
 | 0=>W7 _
 | i+1=>by
  have h1:=uX l i;have h2:=jD (n:=gw l i) (v:=l.getD i default) (ji l i)
  show (bx (jC l i) (gw l i) (l.getD i default)).length≤i+1
  rw[h2];cases (bl (jC l i) (gw l i)).isSome<;>simp<;>omega
theorem xT {α:Type} {f:α->List Int} {k:Nat}:∀{l:List α},(∀x,x∈l->(f x).length≤k)->(l.flatMap f).length≤k*l.length
 | [],_=>by simp
 | x::r,h=>by
  have h1:=xT (l:=r) λy hy=>h y (List.mem_cons_of_mem _ hy)
  have h2:=h x List.mem_cons_self;simp only[List.flatMap_cons,List.length_append,List.length_cons,Nat.mul_add,Nat.mul_one];omega
theorem zT {l:List Node} {k:Nat} (h:∀n,n∈l->n.entries.length≤k):(oh (bI l)).length≤k*l.length:=by
 have h1:(oh (bI l)).length≤k*(bI l).length:=xT λp hp=>by
  rw[List.length_map];exact h _ (pW l _ (W7 _) p hp)
 exact Yl h1 (Nat.mul_le_mul_left _ (uX l _))
end La
