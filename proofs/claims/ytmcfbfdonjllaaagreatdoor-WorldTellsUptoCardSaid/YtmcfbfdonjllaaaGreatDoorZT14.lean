/- Texts of this claim, part 14: Fid, Srv, Srv2, Cach, Cach2, Unl, PJud, PWhole, PWh2. No condition. -/
import Derived.Test.YtmcfbfdonjllaaaGreatDoorZT13
set_option maxRecDepth 10000
set_option maxHeartbeats 4000000
set_option linter.unusedSimpArgs false
set_option linter.unusedVariables false
namespace La
open Go Go.Eng Go.Proofs
theorem uZ (a:Act):ae Tryz.prog 126 [.agg (ZA a)] [] (λr _=>r=.sl ((bQ a).map ZI)):=by
 unfold ZA;refine ZF tK (Tryz.func126) rfl (λC=>?_);simp only[Tryz.ntmps126,Tryz.results126,go_sem];refine wG tK ?_;refine wD (λh=>?_) (λh=>?_)
 ·refine wG tK ?_;refine ZZ 9 rfl (rfl) ?_;simp only[go_sem];refine wT ?_;simp[go_sem,bQ,ZI,eq_of_beq h]
 ·refine wG tK ?_;have h1:a.kind≠3:=by simpa using h
  refine wD (λh=>?_) (λh=>?_)
  ·refine wG tK ?_;refine ZZ 18 rfl (rfl) ?_;simp only[go_sem];refine wT ?_;have h2:a.kind=5:=by simpa using h
   simp[go_sem,bQ,ZI,h2]
  ·refine wG tK ?_;refine ZZ 23 rfl (rfl) ?_;simp only[go_sem];refine wT ?_;have h2:a.kind≠5:=by simpa using h
   simp[go_sem,bQ,ZI,h1,h2]
theorem ff (a:Act):(bQ a).length≤3:=by
 unfold bQ;split
 ·simp
 ·split<;>simp
theorem Dy (l:List Int) (hlen:l.length≤100000000) (v:Int):ae Tryz.prog 217 [.sl (l.map ZI),.int .i64 v] [] (λr _=>r=.int .i64 (cc (l.findIdx? (v==·)))):=by
 refine ZF tK (Tryz.func217) rfl (λC=>?_);simp only[Tryz.ntmps217,Tryz.results217,go_sem];refine wG tK ?_;refine ZL (λi:Nat=>i≤l.length/\∀x,x∈l.take i->(v==x)=false) (λi=>l.length-i) (λi=>(8,.int .i64 i)::(5,.any)::u0 9 10 []) (λ_=>[]) 0 ⟨by omega,by simp⟩ ?_ λi hi=>?_
 ·simp only[go_sem];exact ZU w3 w3 s7
 obtain ⟨hi,hno⟩:=hi;simp only[go_sem];refine wG tK ?_;refine wD (λh=>?_) (λh=>?_)
 ·have hlt:i<l.length:=by simp at h;omega
  have hg:(l.map ZI).getD i []=ZI (l.getD i default):=Fam.getD hlt;have htk:=ZT hlt;have hgi:l[i]? = some (l.getD i default):=by rw[Wi,Wj hlt];rfl
  generalize l.getD i default=n at hg htk hgi;refine wGq tK ?_ ?_ Q9
  ·simp[hlt]
  refine wD (λh=>?_) (λh=>?_)
  ·refine wG tK ?_;refine wT ?_;rw[eA hgi hno h];rfl
  ·have hw:IntKind.i64.wrap ((i:Int)+1)=(i:Int)+1:=wrap_small z8 z8;refine wG tK ?_ w5 k0;refine ZB ⟨i+1,⟨by omega,?_⟩,by omega,ZU ?_ ?_ ?_⟩
   ·rw[htk];intro x hx
    rcases List.mem_append.1 hx with hx | hx
    ·exact hno x hx
    ·rw[List.mem_singleton.1 hx];exact h
   ·simp[go_sem]
   ·simp[go_sem]
   ·simp only[go_sem]
 ·have e:i=l.length:=by simp at h;omega
  refine wG tK ?_;refine wT ?_;rw[e,Wo] at hno;rw[W3.2 hno];rfl
theorem wq (l:List Int) (hlen:l.length≤100000000) (v:Int):ae Tryz.prog 187 [.sl (l.map ZI),.int .i64 v] [] (λr _=>r=.bool (l.contains v)):=by
 refine ZF tK (Tryz.func187) rfl (λC=>?_);simp only[Tryz.ntmps187,Tryz.results187,go_sem];refine wG tK ?_;refine wC Tryz.func217 (hf:=(Dy l hlen v)) (hk:=?_);refine wG tK ?_;refine wT ?_;rw[lO,List.contains_eq_any_beq]
theorem xN (r:Rec) (f:Int):ae Tryz.prog 155 [.rp (ZR r) 0,.int .i64 f] [] (λx _=>x=.bool (r.names f)):=by
 unfold ZR;refine ZF tK (Tryz.func155) rfl (λC=>?_);simp only[Tryz.ntmps155,Tryz.results155,go_sem];refine wG tK ?_;refine wC Tryz.func126 (hf:=(uZ r.act)) (hk:=?_);refine wG tK ?_;refine wC Tryz.func187 (hf:=(wq (bQ r.act) (by have:=ff r.act;omega) f)) (hk:=?_);refine wG tK ?_;refine wT ?_;rfl
theorem cJ (a b:Bool):(bif a then b else false)=(a&&b):=by cases a<;>rfl
theorem eO (a b:Bool):(bif a then true else b)=(a||b):=by cases a<;>rfl
theorem Ar (r:Rec) (d:Int) (n:List UInt8):ae Tryz.prog 185 [.rp (ZR r) 0,.int .i64 d,.str n] [] (λx _=>x=.bool (fp r.act d n)):=by
 unfold ZR;refine ZF tK (Tryz.func185) rfl (λC=>?_);simp only[Tryz.ntmps185,Tryz.results185,go_sem];refine wG tK ?_;refine wD (λh=>?_) (λh=>?_)
 ·refine wG tK ?_;refine wDT (hb:=(h)) (hk:=?_);refine wR ?_;refine wN tK 6 ?_;refine ak 24 z6 (λc24 h24=>?_);simp only[go_sem];refine wN tK 8 ?_;refine ak 32 z6 (λc32 h32=>?_);simp only[go_sem];refine wG tK ?_;refine wT ?_;subst h32 h24;have hk:=eq_of_beq h;simp[fp,hk,cJ]
 ·refine wG tK ?_;refine wD (λh=>?_) (λh=>?_)
  ·refine wG tK ?_;refine wDT (hb:=(h)) (hk:=?_);refine wR ?_;refine wN tK 6 ?_;refine ak 24 z6 (λc24 h24=>?_);simp only[go_sem];refine wN tK 8 ?_;refine ak 32 z6 (λc32 h32=>?_);simp only[go_sem];refine wG tK ?_;refine wT ?_;subst h32 h24;have hk:=eq_of_beq h;simp[fp,hk,cJ]
  ·refine wG tK ?_;refine wD (λh=>?_) (λh=>?_)
   ·refine wR ?_;refine wN tK 6 ?_;refine ak 24 z6 (λc24 h24=>?_);simp only[go_sem];refine wN tK 8 ?_;refine ak 32 z6 (λc32 h32=>?_);simp only[go_sem];refine wG tK ?_;refine wT ?_;subst h32 h24;have hk:=eq_of_beq h;simp[fp,hk,cJ]
   ·refine wG tK ?_;refine wD (λh=>?_) (λh=>?_)
    ·have hk:=eq_of_beq h;refine wR ?_;refine wN tK 6 ?_;refine ak 40 z6 (λc40 h40=>?_);simp only[go_sem];refine wN tK 8 ?_;refine ak 48 z6 (λc48 h48=>?_);simp only[go_sem];cases c48
     ·cases e3:(r.act.to==d)<;>cases e4:(r.act.toName==n)
      all_goals refine wG tK ?_ (by simp only[go_sem,e3,e4];try exact rfl) (by simp[go_sem,e3,e4])
      all_goals refine wT ?_
      all_goals rw[←h40,cJ] at h48
      all_goals simp[fp,hk,h48,e3,e4]
     ·refine wG tK ?_;refine wT ?_;rw[←h40,cJ] at h48;simp[fp,hk,h48]
    ·refine wG tK ?_;refine wT ?_
     simp_all [fp]
structure Srv where
 tree:List Node
 next:Int
 past:List Past
def ZQ (s:Srv):List AV:=[.sl (s.tree.map ZN),.int .i64 s.next,.sl (s.past.map ZP)]
@[go_sem,simp] theorem GC (s:Srv):aC (ZQ s)=[]:=rfl
theorem sY (s:Srv) (h:s.past.length≤100000000):ae Tryz.prog 86 [.agg (ZQ s)] [] (λr _=>r=.int .i64 ((s.past.length+1:Nat):Int)):=by
 have hw:IntKind.i64.wrap ((s.past.length:Int)+1)=((s.past.length+1:Nat):Int):=by rw[Eng.wrap_small z8 z8];rfl
 unfold ZQ;refine ZF tK (Tryz.func86) rfl (λC=>?_);simp only[Tryz.ntmps86,Tryz.results86,go_sem];refine wG tK ?_ w5 k0;refine wT ?_;rfl
theorem Es:ae Tryz.prog 33 [] [] (λr _=>r=.agg [.sl [[.int .i64 0,.bool true,.nils,.nils,.int .i64 0]],.int .i64 1,.nils]):=by
 refine ZF tK (Tryz.func33) rfl (λC=>?_);simp only[Tryz.ntmps33,Tryz.results33,go_sem];refine wG tK ?_;refine wC Tryz.func52 (hf:=(Il)) (hk:=?_);refine wG tK ?_;refine wT ?_;rfl
theorem GA:ae Tryz.prog 33 [] [] (λr _=>r=.agg (ZQ ⟨[h_],1,[]⟩)):=ae.iO Es rfl
structure SmallP (l:List Past):Prop where
 len:l.length≤90000000
 each:∀p,p∈l->p.act.data.length≤100000000
theorem ra (s:Srv) (ht:Small s.tree) (hp:SmallP s.past):ae Tryz.prog 40 [.agg (ZQ s)] [] (λr _=>r=.agg (ZQ s)):=by
 have hlen:=hp.len;unfold ZQ;refine ZF tK (Tryz.func40) rfl (λC=>?_);simp only[Tryz.ntmps40,Tryz.results40,go_sem];refine wG tK ?_;refine ZZ 1 rfl (rfl) ?_;simp only[go_sem];refine ZW ZM ?_;refine ZS rfl ?_;refine sN tK 2 ?_;refine sC Tryz.func66 (hf:=(kJ s.tree ht)) (hk:=?_);refine sN tK 2 ?_;refine sB tK ?_;refine sW tK ?_;refine sE ?_;refine dS tK ?_;refine wKd ?_
 try simp only[go_sem,gA,gB,gC]
 refine wG tK ?_;refine ag (AY 28 8 3 z7 z7) ?_;refine ag (le_empty 28 79 8 z7) ?_;simp only[go_sem];refine ZL (λi:Nat=>i≤s.past.length) (λi=>s.past.length-i) (λi=>(5,.any)::(15,.int .i64 i)::u0 16 15 [])
  (λi=>[(3,.cells 32 3 [[.sl (s.tree.map ZN),.int .i64 s.next,.osl 28 8 0 i]]),(28,.cells 79 8 ((s.past.take i).map ZP))]) 0 z8 ?_ λi hi=>?_
 ·simp only[go_sem];exact ZU w3 w3 s7
 simp only[go_sem];refine wG tK ?_;refine wD (λh=>?_) (λh=>?_)
 ·have hlt:i<s.past.length:=by simp at h;omega
  have hw:=wi1 (i:=i) z8;have hg:(s.past.map ZP).getD i []=ZP (s.past.getD i default):=Fam.getD hlt;have hs:=di ZP hlt;have ha:=hp.each _ (YG hlt);generalize s.past.getD i default=x at *;refine wGq tK ?_ ?_ Qk
  ·simp[hg,ZP,hlt]
  refine ZZ 5 rfl (rfl) ?_;simp only[go_sem];refine ZW ZM ?_;refine ZS rfl ?_;refine sN tK 6 ?_;refine sC Tryz.func67 (hf:=(lx x.act ha)) (hk:=?_);simp only[go_sem,ZA];refine sB tK ?_;refine sW tK ?_;refine sE ?_;refine jf (bh 28 3 z6 k9) ?_;simp only[go_sem];refine dSq tK ?_ ?_
  ·simp[go_sem,rowsOf];refine ⟨by omega,by omega,λx hx y hy hr=>?_⟩;have h1:=Wx (Wx hx);have:=List.all_eq_true.1 (List.all_eq_true.1 (bz 28 s.past) x h1) y hy;simp only[YU,List.contains_eq_mem,decide_eq_false_iff_not] at this;exact this hr
  simp only[go_sem];refine dS tK ?_;refine dS tK ?_;refine wKd ?_
  try simp only[go_sem,gA,gB,gC]
  refine wG tK ?_ w5 k0;refine ZB ⟨i+1,by omega,by omega,ZU ?_ ?_ ?_⟩
  ·simp[go_sem]
  ·simp[go_sem,hs,ZP,List.take_take]
  ·simp only[go_sem]
 ·have e:i=s.past.length:=by simp at h;omega
  subst e;refine wG tK ?_;refine ZZ 28 rfl (dM _) ?_;simp only[go_sem];refine wT ?_;simp
theorem yC (s:Srv) (ht:Small s.tree) (hp:SmallP s.past):ae Tryz.prog 40 [.agg (ZQ s)] [] (λr H=>r=.agg [.sl (s.tree.map ZN),.int .i64 s.next,.osl 28 8 0 s.past.length]/\∀i b,aa [(28,.cells 79 8 (s.past.map ZP))] i=some b->aa H i=some b):=by
 have hlen:=hp.len;unfold ZQ;refine ZF tK (Tryz.func40) rfl (λC=>?_);simp only[Tryz.ntmps40,Tryz.results40,go_sem];refine wG tK ?_;refine ZZ 1 rfl (rfl) ?_;simp only[go_sem];refine ZW ZM ?_;refine ZS rfl ?_;refine sN tK 2 ?_;refine sC Tryz.func66 (hf:=(kJ s.tree ht)) (hk:=?_);refine sN tK 2 ?_;refine sB tK ?_;refine sW tK ?_;refine sE ?_;refine dS tK ?_;refine wKd ?_
 try simp only[go_sem,gA,gB,gC]
 refine wG tK ?_;refine ag (AY 28 8 3 z7 z7) ?_;refine ag (le_empty 28 79 8 z7) ?_;simp only[go_sem];refine ZL (λi:Nat=>i≤s.past.length) (λi=>s.past.length-i) (λi=>(5,.any)::(15,.int .i64 i)::u0 16 15 [])
  (λi=>[(3,.cells 32 3 [[.sl (s.tree.map ZN),.int .i64 s.next,.osl 28 8 0 i]]),(28,.cells 79 8 ((s.past.take i).map ZP))]) 0 z8 ?_ λi hi=>?_
 ·simp only[go_sem];exact ZU w3 w3 s7
 simp only[go_sem];refine wG tK ?_;refine wD (λh=>?_) (λh=>?_)
 ·have hlt:i<s.past.length:=by simp at h;omega
  have hw:=wi1 (i:=i) z8;have hg:(s.past.map ZP).getD i []=ZP (s.past.getD i default):=Fam.getD hlt;have hs:=di ZP hlt;have ha:=hp.each _ (YG hlt);generalize s.past.getD i default=x at *;refine wGq tK ?_ ?_ Qk
  ·simp[hg,ZP,hlt]
  refine ZZ 5 rfl (rfl) ?_;simp only[go_sem];refine ZW ZM ?_;refine ZS rfl ?_;refine sN tK 6 ?_;refine sC Tryz.func67 (hf:=(lx x.act ha)) (hk:=?_);simp only[go_sem,ZA];refine sB tK ?_;refine sW tK ?_;refine sE ?_;refine jf (bh 28 3 z6 k9) ?_;simp only[go_sem];refine dSq tK ?_ ?_
  ·simp[go_sem,rowsOf];refine ⟨by omega,by omega,λx hx y hy hr=>?_⟩;have h1:=Wx (Wx hx);have:=List.all_eq_true.1 (List.all_eq_true.1 (bz 28 s.past) x h1) y hy;simp only[YU,List.contains_eq_mem,decide_eq_false_iff_not] at this;exact this hr
  simp only[go_sem];refine dS tK ?_;refine dS tK ?_;refine wKd ?_
  try simp only[go_sem,gA,gB,gC]
  refine wG tK ?_ w5 k0;refine ZB ⟨i+1,by omega,by omega,ZU ?_ ?_ ?_⟩
  ·simp[go_sem]
  ·simp[go_sem,hs,ZP,List.take_take]
  ·simp only[go_sem]
 ·have e:i=s.past.length:=by simp at h;omega
  subst e;refine wG tK ?_;refine wT ?_;simp[go_sem]
def aN (a:Act):Bool:=a.kind==1||a.kind==2
def doA (s:Srv) (a:Act):Act:=if aN a then { a with fid:=s.next } else a
noncomputable def doE (s:Srv) (a:Act):Int:=aD s.tree (doA s a)
noncomputable def doS (s:Srv) (c:Int) (a:Act):Srv:=⟨aH s.tree (doA s a) ((s.past.length+1:Nat):Int),if aN a then s.next+1 else s.next,s.past++[⟨c,doA s a⟩]⟩
noncomputable def doR (s:Srv) (c:Int) (a:Act):AV:=if doE s a=0 then .tup [.agg (ZQ (doS s c a)),.int .i64 0] else .tup [.agg [.nils,.int .i64 0,.nils],.int .i64 (doE s a)]
theorem H7 (s:Srv) (c:Int) (a:Act) (hg:Good s.tree) (hp:SmallP s.past) (ha:ActFit a) (hn:s.next.natAbs≤90000000):ae Tryz.prog 107 [.agg (ZQ s),.int .i64 c,.agg (ZA a)] [] (λr _=>r=doR s c a):=by
 have hlen:=hp.len;have hw:IntKind.i64.wrap (s.next+1)=s.next+1:=Eng.wrap_small z8 z8;have hda:ActFit (doA s a):=by unfold doA;split;exact ⟨ha.name,ha.toName,ha.data⟩;exact ha
 have hv:=sY s z8;have hap:=m_ hg (doA s a) ((s.past.length+1:Nat):Int) hda;have hso:=yC s hg.small hp;have how:=lx (doA s a) hda.data;unfold oJ at hap;unfold doR doS doE;unfold ZQ at hv hso ⊢;refine ZF tK (Tryz.func107) rfl (λC=>?_);simp only[Tryz.ntmps107,Tryz.results107,go_sem];refine wGq tK ?_ ?_ QX
 ·simp[ZA]
 refine ZZ 3 rfl (rfl) ?_;simp only[go_sem];refine wD (λh=>?_) (λh=>?_)
 ·have hm:aN a=true:=by unfold aN;revert h;cases (a.kind==1)<;>simp
  have hdo:doA s a={ a with fid:=s.next }:=by unfold doA;rw[if_pos hm]
  rw[hdo] at hap how ⊢;simp only[hm,if_true];generalize aD s.tree { a with fid:=s.next }=e at *;generalize aH s.tree { a with fid:=s.next } ((s.past.length+1:Nat):Int)=L at *;refine wG tK ?_
  by_cases he:e=0
  ·subst he;simp only[if_true] at hap ⊢;refine ZZ 5 rfl (rfl) ?_;simp only[go_sem];refine ZW ZM ?_;refine ZS rfl ?_;refine sN tK 4 ?_;refine sC Tryz.func86 (hf:=(hv)) (hk:=?_);refine sC Tryz.func109 (hf:=(hap)) (hk:=?_);refine sN tK 5 ?_;refine sE ?_;refine wKd ?_
   try simp only[go_sem,gA,gB,gC]
   refine wG tK ?_;refine wDF (hb:=y7) (hk:=?_);refine wG tK ?_;refine wCG [] 972 Tryz.func40 (hf:=(hso)) (hk:=?_);refine wG tK ?_;refine ZW ZM ?_;refine ZS rfl ?_;refine sN tK 4 ?_;refine sC Tryz.func67 (hf:=(how)) (hk:=?_);simp only[go_sem,ZA];refine sB tK ?_;refine sW tK ?_;refine sE ?_;refine jf (bh 1000 11 z6 k9) ?_;simp only[go_sem];refine dSq tK ?_ ?_
   ·simp[go_sem,rowsOf];refine ⟨by omega,λx hx y hy hr=>?_⟩;have:=List.all_eq_true.1 (List.all_eq_true.1 (bz 1000 s.past) (ZP x) (Wq.2 ⟨x,hx,rfl⟩)) y hy;simp only[YU,List.contains_eq_mem,decide_eq_false_iff_not] at this;exact this hr
   simp only[go_sem];refine dS tK ?_;refine dS tK ?_;refine wKd ?_
   try simp only[go_sem,gA,gB,gC]
   refine wG tK ?_;refine wDT (hb:=(by simpa[aN] using hm)) (hk:=?_);refine wG tK ?_ w5 k0;refine ZZ 48 rfl Zi ?_;simp only[go_sem];refine wT ?_;rw[Wl y7];rfl
  ·simp only[he,if_false] at hap ⊢;refine ZZ 5 rfl (rfl) ?_;simp only[go_sem];refine ZW ZM ?_;refine ZS rfl ?_;refine sN tK 4 ?_;refine sC Tryz.func86 (hf:=(hv)) (hk:=?_);refine sC Tryz.func109 (hf:=(hap)) (hk:=?_);refine sN tK 5 ?_;refine sE ?_;refine wKd ?_
   try simp only[go_sem,gA,gB,gC]
   refine wG tK ?_;refine wDT (hb:=QL) (hk:=?_);refine wG tK ?_;refine wT ?_;rfl
 ·have hm:aN a=false:=by unfold aN;revert h;cases (a.kind==1)<;>simp
  have hdo:doA s a=a:=by unfold doA;rw[if_neg (by rw[hm];simp)]
  rw[hdo] at hap how ⊢;simp only[hm,Bool.false_eq_true,if_false];generalize aD s.tree a=e at *;generalize aH s.tree a ((s.past.length+1:Nat):Int)=L at *;refine wG tK ?_
  by_cases he:e=0
  ·subst he;simp only[if_true] at hap ⊢;refine ZZ 5 rfl (rfl) ?_;simp only[go_sem];refine ZW ZM ?_;refine ZS rfl ?_;refine sN tK 4 ?_;refine sC Tryz.func86 (hf:=(hv)) (hk:=?_);refine sC Tryz.func109 (hf:=(hap)) (hk:=?_);refine sN tK 5 ?_;refine sE ?_;refine wKd ?_
   try simp only[go_sem,gA,gB,gC]
   refine wG tK ?_;refine wDF (hb:=y7) (hk:=?_);refine wG tK ?_;refine wCG [] 972 Tryz.func40 (hf:=(hso)) (hk:=?_);refine wG tK ?_;refine ZW ZM ?_;refine ZS rfl ?_;refine sN tK 4 ?_;refine sC Tryz.func67 (hf:=(how)) (hk:=?_);simp only[go_sem,ZA];refine sB tK ?_;refine sW tK ?_;refine sE ?_;refine jf (bh 1000 11 z6 k9) ?_;simp only[go_sem];refine dSq tK ?_ ?_
   ·simp[go_sem,rowsOf];refine ⟨by omega,λx hx y hy hr=>?_⟩;have:=List.all_eq_true.1 (List.all_eq_true.1 (bz 1000 s.past) (ZP x) (Wq.2 ⟨x,hx,rfl⟩)) y hy;simp only[YU,List.contains_eq_mem,decide_eq_false_iff_not] at this;exact this hr
   simp only[go_sem];refine dS tK ?_;refine dS tK ?_;refine wKd ?_
   try simp only[go_sem,gA,gB,gC]
   refine wG tK ?_;refine wDF (hb:=(by simpa[aN] using hm)) (hk:=?_);refine wG tK ?_;refine ZZ 48 rfl Zi ?_;simp only[go_sem];refine wT ?_;rw[Wl y7];rfl
  ·simp only[he,if_false] at hap ⊢;refine ZZ 5 rfl (rfl) ?_;simp only[go_sem];refine ZW ZM ?_;refine ZS rfl ?_;refine sN tK 4 ?_;refine sC Tryz.func86 (hf:=(hv)) (hk:=?_);refine sC Tryz.func109 (hf:=(hap)) (hk:=?_);refine sN tK 5 ?_;refine sE ?_;refine wKd ?_
   try simp only[go_sem,gA,gB,gC]
   refine wG tK ?_;refine wDT (hb:=QL) (hk:=?_);refine wG tK ?_;refine wT ?_;rfl
structure SmallK (l:List Kept):Prop where
 len:l.length≤100000000
 each:∀k,k∈l->k.node.Small
theorem SmallK.one {k:Kept} (h:k.node.Small):SmallK [k]:=⟨by simp,λx hx=>by rw[List.mem_singleton.1 hx];exact h⟩
theorem fh {n:Node} (h:n.Small):Small [n]:=⟨by simp,λx hx=>by rw[List.mem_singleton.1 hx];exact h⟩
theorem jR (l:List Kept) (hl:SmallK l):ae Tryz.prog 68 [.sl (l.map ZK)] [] (λr H=>r=.osl 22 8 0 (l.map ZK).length/\∀i b,aa [(22,.cells 138 8 (l.map ZK))] i=some b->aa H i=some b):=by
 have hlen:=hl.len;refine ZF tK (Tryz.func68) rfl (λC=>?_);simp only[Tryz.ntmps68,Tryz.results68,go_sem];refine wG tK ?_;refine ZL (λi:Nat=>i≤l.length) (λi=>l.length-i) (λi=>(3,.osl 22 8 0 i)::(5,.any)::(8,.int .i64 i)::u0 9 16 [])
  (λi=>[(22,.cells 138 8 ((l.take i).map ZK))]) 0 z8 ?_ λi hi=>?_
 ·simp only[go_sem];exact ZU w3 w3 s7
 simp only[go_sem];refine wG tK ?_;refine wD (λh=>?_) (λh=>?_)
 ·have hlt:i<l.length:=by simp at h;omega
  have hn:=hl.each _ (YG hlt);have hg:(l.map ZK).getD i []=ZK (l.getD i default):=Fam.getD hlt;have hs:=di ZK hlt;generalize l.getD i default=n at hn hg hs;refine wGq tK ?_ ?_ x9
  ·simp[hlt,ZK]
  refine ZZ 14 rfl (rfl) ?_;simp only[go_sem];refine wC Tryz.func66 (hf:=(kJ [n.node] (fh hn))) (hk:=?_);have ht:List.take i (List.map ZK (List.take i l))=List.map ZK (List.take i l):=Wl j0;have hw:IntKind.i64.wrap ((i:Int)+1)=(i:Int)+1:=wrap_small z8 z8;refine wGq tK ?_ ?_ (by simp only[go_sem,ht,hw,ZN];try exact rfl)
  ·simp[rowsOf,ZN];omega
  refine ZB ⟨i+1,by omega,by omega,ZU ?_ ?_ ?_⟩
  ·simp[go_sem]
  ·simp[go_sem,hs,ZK]
  ·simp only[go_sem]
 ·have e:i=l.length:=by simp at h;omega
  subst e;refine wG tK ?_;refine wT ?_;simp[go_sem]
theorem qQ (l:List Kept) (hl:SmallK l):ae Tryz.prog 68 [.sl (l.map ZK)] [] (λr _=>r=.sl (l.map ZK)):=ae.read (jR l hl) (bc _)
theorem zq (k:Kept) (fid:Int):ae Tryz.prog 188 [.agg (ZK k),.rp [.int .i64 fid] 0] [] (λr _=>r=.bool (k.node.fid==fid)):=by
 unfold ZK;refine ZF tK (Tryz.func188) rfl (λC=>?_);simp only[Tryz.ntmps188,Tryz.results188,go_sem];refine wG tK ?_;refine wT ?_;simp
def bT (l:List Kept) (fid:Int):Option Nat:=l.findIdx? λk=>k.node.fid==fid
theorem mA (l:List Kept) (fid:Int) (hlen:l.length≤100000000):ae Tryz.prog 157 [.sl (l.map ZK),.int .i64 fid] [] (λr _=>r=.int .i64 (cc (bT l fid))):=by
 refine ZF tK (Tryz.func157) rfl (λC=>?_);simp only[Tryz.ntmps157,Tryz.results157,go_sem];refine wG tK ?_;refine ZZ 3 rfl (rfl) ?_;simp only[go_sem];refine wC Tryz.func119 (hf:=(iK l hlen ⟨_,Go.Proofs.Tryz.func188,by kernel_rfl,rfl⟩ rfl (λx _=>zq x fid))) (hk:=?_);refine wG tK ?_;refine wT ?_;simp[bT]
def Dr (l:List Kept) (fid:Int):Bool:=l.any λk=>k.node.fid==fid
theorem Ic (l:List Kept) (fid:Int) (hlen:l.length≤100000000):ae Tryz.prog 143 [.sl (l.map ZK),.int .i64 fid] [] (λr _=>r=.bool (Dr l fid)):=by
 refine ZF tK (Tryz.func143) rfl (λC=>?_);simp only[Tryz.ntmps143,Tryz.results143,go_sem];refine wG tK ?_;refine wC Tryz.func157 (hf:=(mA l fid hlen)) (hk:=?_);refine wG tK ?_;refine wT ?_;rw[bT,lO];rfl
theorem Bp (k:Kept):ae Tryz.prog 160 [.agg (ZK k)] [] (λr _=>r=.bool k.dirty):=by
 unfold ZK;refine ZF tK (Tryz.func160) rfl (λC=>?_);simp only[Tryz.ntmps160,Tryz.results160,go_sem];refine wG tK ?_;refine wT ?_;simp
theorem C1 (l:List Kept) (hl:SmallK l):ae Tryz.prog 114 [.sl (l.map ZK)] [] (λr _=>r=.sl ((l.filter λk=>!k.dirty).map ZK)):=by
 refine ZF tK (Tryz.func114) rfl (λC=>?_);simp only[Tryz.ntmps114,Tryz.results114,go_sem];refine wG tK ?_;refine wCG [] 978 Tryz.func68 (hf:=(jR l hl)) (hk:=?_);refine wG tK ?_;refine wCG [1000] 100 Tryz.func80 (hf:=(gU l hl.len 1000 ⟨_,Go.Proofs.Tryz.func160,by kernel_rfl,rfl⟩ rfl u5 (λx _=>Bp x))) (hk:=?_);refine wG tK ?_;refine ZZ 1100 rfl Ql ?_;simp only[go_sem];refine wT ?_;have hle:=Wr (λk:Kept=>!k.dirty) l;generalize l.filter (λk=>!k.dirty)=d at *;rw[if_pos y7,gQ y7]
theorem pg {l:List Kept} {fid:Int} {i:Nat} (h:bT l fid=some i):i<l.length:=(W5.1 h).1
def vY (l:List Kept) (fid now:Int):List Kept:=match bT l fid with
 | none=>l
 | some i=>l.set i { l.getD i default with last:=now }
theorem gl {M:List Kept} {i:Nat} (h:i<M.length):(M.map ZK).getD i []=[.int .i64 (M.getD i default).node.fid,.bool (M.getD i default).node.dir,.sl ((M.getD i default).node.data.map ZY),.sl ((M.getD i default).node.entries.map ZE),.int .i64 (M.getD i default).node.version,.bool (M.getD i default).dirty,.int .i64 (M.getD i default).worth,.int .i64 (M.getD i default).last]:=by
 rw[Fam.getD h];rfl
theorem jg (M:List Kept) (i:Nat) (n:Kept):(M.map ZK).set i (ZK n)=(M.set i n).map ZK:=by rw[List.map_set]
def bE (at_:List Node) (k:Kept):Bool:=!k.dirty&&(!bg at_ k.node.fid||!(((aj at_ k.node.fid).getD aw).version==k.node.version))
theorem Bu (at_:List Node) (k:Kept) (hat:Small at_):ae Tryz.prog 81 [.agg (ZK k),.rp [.sl (at_.map ZN)] 0] [] (λr _=>r=.bool (bE at_ k)):=by
 unfold ZK;refine ZF tK (Tryz.func81) rfl (λC=>?_);simp only[Tryz.ntmps81,Tryz.results81,go_sem];refine wG tK ?_;refine wC Tryz.func82 (hf:=(eo at_ k.node.fid hat)) (hk:=?_);simp only[go_sem,gf];unfold bE;generalize (aj at_ k.node.fid).getD aw=n;generalize bg at_ k.node.fid=b;refine wGq tK ?_ ?_ w6
 ·simp[ZN];exact λh=>⟨h,λhb=>⟨h,hb⟩⟩
 refine wT ?_;cases k.dirty<;>cases b<;>rfl
theorem rN (l:List Kept) (at_:List Node) (hl:SmallK l) (hat:Small at_):ae Tryz.prog 43 [.sl (l.map ZK),.sl (at_.map ZN)] [] (λr _=>r=.sl ((l.filter λk=>!bE at_ k).map ZK)):=by
 refine ZF tK (Tryz.func43) rfl (λC=>?_);simp only[Tryz.ntmps43,Tryz.results43,go_sem];refine wG tK ?_;refine ZZ 3 rfl (rfl) ?_;simp only[go_sem];refine wCG [] 978 Tryz.func68 (hf:=(jR l hl)) (hk:=?_);refine wG tK ?_;refine wCG [1000] 100 Tryz.func80 (hf:=(gU l hl.len 1000 ⟨_,Go.Proofs.Tryz.func81,by kernel_rfl,rfl⟩ (by simp[AV.aY]) u5 (λx _=>Bu at_ x hat))) (hk:=?_);refine wG tK ?_;refine ZZ 1100 rfl Ql ?_;simp only[go_sem];refine wT ?_;have hle:=Wr (λk:Kept=>!bE at_ k) l;generalize l.filter (λk=>!bE at_ k)=d at *;rw[if_pos y7,gQ y7]
def ij (f:Nat->Int) (g:Nat->AV):Nat->List (Int×AV)
 | 0=>[]
 | i+1=>bt (ij f g i) (f i) (g i)
theorem kF (f:Nat->Int) (g:Nat->AV):∀i,(ij f g i).Pairwise λa b=>a.1<b.1
 | 0=>List.Pairwise.nil
 | i+1=>cq (kF f g i)
theorem nY {f:Nat->Int} {g:Nat->AV} {k:Int}:∀{i},(∀j,j<i->f j≠k)->bj (ij f g i) k=none
 | 0,_=>rfl
 | i+1,h=>by
  rw[ij,mD (kF f g i),if_neg (λe=>h i z8 e.symm)];exact nY λj hj=>h j z8
theorem nZ {f:Nat->Int} {g:Nat->AV} {k:Int}:∀{i j},j<i->f j=k->(∀m,j<m->m<i->f m≠k)->bj (ij f g i) k=some (g j)
 | 0,_,h,_,_=>by omega
 | i+1,j,h,he,hl=>by
  rw[ij,mD (kF f g i)]
  by_cases hj:j=i
  ·subst hj;rw[if_pos he.symm]
  ·rw[if_neg (λe=>hl i z8 z8 e.symm)];exact nZ z8 he λm h1 h2=>hl m h1 z8
def wW (l:List Kept) (i:Nat):Int:=(l.getD i default).node.fid
def nE (l:List Kept) (n:Nat):Prop:=∀i,i<n->∀j,j<i->wW l j≠wW l i
instance (l:List Kept) (n:Nat):Decidable (nE l n):=by unfold nE;infer_instance
def rb (l:List Kept):Bool:=decide (nE l l.length)
def fY (l:List Node) (i:Nat):Int:=(l.getD i default).fid
def jV (l:List Node) (i:Nat):List (Int×AV):=ij (fY l) (λi=>.agg (ZN (l.getD i default))) i
def BQ (l:List Node):List (Int×AV):=jV l l.length
theorem DN {l:List Node} (h:Up l) (k:Int):bj (BQ l) k=(aj l k).map λn=>.agg (ZN n):=by
 unfold BQ jV;cases e:aj l k with
 | none=>
  have hn:=(eB h).1 e;exact nY λj hj=>hn _ (YG hj)
 | some n=>
  obtain ⟨hm,hf⟩:=(ZO h).1 e;obtain ⟨j,hj⟩:=Wu hm;have hjl:j<l.length:=(Wp.1 hj).1;have hjd:=ks hj;rw[nZ (j:=j) hjl (by unfold fY;rw[hjd];exact hf) λm h1 h2 h3=>by
   have:=h.lt h1 h2;unfold fY at h3;rw[hjd,hf,h3] at this;omega]
  simp only[Option.map_some,hjd]
structure JS where
 l:List Node
 next:Int
 version:Int
 own:List (Int×Int)
 ours:List (Int×Bool)
 lost:List (Int×Bool)
def atF (m:List (Int×Int)) (f:Int):Int:=if gT m f=true then FR m f else f
def fV (j:JS) (a:Act):Bool:=(bQ a).any (cO j.lost)
def fa (j:JS) (r:Rec) (a:Act):Bool:=
 if ((a.kind≠3/\a.kind≠4)\/r.version<0)\/cO j.ours a.fid=true then false
 else match aj j.l a.fid with
  | none=>true
  | some n=>n.version != r.version
def cr (j:JS) (r:Rec):List (Int×Int):=if aN r.act=true then bt j.own r.act.fid j.next else j.own
def bH (j:JS) (r:Rec):Act:={ r.act with fid:=atF (cr j r) r.act.fid,dir:=atF (cr j r) r.act.dir,to:=if r.act.kind=5 then atF (cr j r) r.act.to else r.act.to }
noncomputable def i_ (j:JS) (r:Rec):Int:=
 if fV j r.act=true then 14
 else if aN r.act=true/\(gT j.own r.act.fid=true\/r.act.fid≥0) then 2
 else if fa { j with own:=cr j r } r (bH j r)=true then 13
 else aD j.l (bH j r)
noncomputable def e_ (j:JS) (r:Rec):JS:=
 if fV j r.act=true then j
 else if aN r.act=true/\(gT j.own r.act.fid=true\/r.act.fid≥0) then j
 else if fa { j with own:=cr j r } r (bH j r)=true then { j with own:=cr j r }
 else if aD j.l (bH j r)≠0 then { j with own:=if aN r.act=true then ec (cr j r) r.act.fid else cr j r }
 else { j with l:=aH j.l (bH j r) j.version,next:=if aN r.act=true then j.next+1 else j.next,version:=j.version+1,own:=cr j r }
def jw (j:JS) (r:Rec):Act:=
 if fV j r.act=true then r.act
 else if aN r.act=true/\(gT j.own r.act.fid=true\/r.act.fid≥0) then r.act
 else bH j r
noncomputable def jx (j:JS) (r:Rec):Verdict:=⟨i_ j r,if i_ j r=0 then (bH j r).fid else 0⟩
structure JG where
 j:JS
 vs:List Verdict
 done:List Act
def vp (j:JS) (f:Int):JS:={ j with lost:=bt j.lost f true }
def jk (m:List (Int×Bool)) (l:List Int):List (Int×Bool):=l.foldl (λm f=>bt m f true) m
noncomputable def lk (s:JG) (r:Rec):JG:=
 if i_ s.j r=0 then ⟨{ e_ s.j r with ours:=jk (e_ s.j r).ours (bQ (jw s.j r)) },s.vs++[jx s.j r],s.done++[jw s.j r]⟩
 else ⟨vp (e_ s.j r) r.act.fid,s.vs++[jx s.j r],s.done⟩
def gZ (l:List Node) (next version:Int):JG:=⟨⟨l,next,version,[],[],[]⟩,[],[]⟩
noncomputable def bS (l:List Node) (next version:Int) (log:List Rec):JG:=log.foldl lk (gZ l next version)
noncomputable def ll (s:Srv) (c:Int) (log:List Rec):Srv:=
 ⟨(bS s.tree s.next ((s.past.length+1:Nat):Int) log).j.l,(bS s.tree s.next ((s.past.length+1:Nat):Int) log).j.next,s.past++(bS s.tree s.next ((s.past.length+1:Nat):Int) log).done.map λa=>⟨c,a⟩⟩
inductive Hist:List Past->List Node->Prop
 | nil:Hist [] [h_]
 | snoc {p:List Past} {t:List Node} (c:Int) (a:Act) (h:Hist p t) (ha:ActFit a) (he:aD t a=0):Hist (p++[⟨c,a⟩]) (aH t a ((p.length+1:Nat):Int))
theorem Hist.bF {p:List Past} {t:List Node} (h:Hist p t):Good t:=by
 induction h with
 | nil=>exact tV
 | snoc c a h ha he ih=>exact fq ih _ _ he
theorem Hist.st {p:List Past} {t:List Node} (h:Hist p t):∃st:Nat->List Node,st 0=[h_]/\st p.length=t /\
  ∀i,i<p.length->Good (st i)/\ActFit (p.getD i default).act/\aD (st i) (p.getD i default).act=0/\st (i+1)=aH (st i) (p.getD i default).act ((i+1:Nat):Int):=by
 induction h with
 | nil=>exact ⟨λ_=>[h_],rfl,rfl,λi hi=>by simp at hi⟩
 | @snoc p t c a h ha he ih=>
  obtain ⟨st,h0,h1,h2⟩:=ih;refine ⟨λi=>if i≤p.length then st i else aH t a ((p.length+1:Nat):Int),?_,?_,λi hi=>?_⟩
  ·simp[h0]
  ·show (if (p++[(⟨c,a⟩:Past)]).length≤p.length then _ else _)=_
   rw[if_neg y7]
  ·have hl:(p++[(⟨c,a⟩:Past)]).length=p.length+1:=by simp
   rw[hl] at hi
   by_cases e:i<p.length
   ·have hg:(p++[(⟨c,a⟩:Past)]).getD i default=p.getD i default:=by
     rw[Wi,W6 e,Wi]
    rw[hg];simp only[show i≤p.length by omega,if_true,show i+1≤p.length by omega];exact h2 i e
   ·have e2:i=p.length:=by omega
    subst e2;have hg:(p++[(⟨c,a⟩:Past)]).getD p.length default=⟨c,a⟩:=by
     rw[Wi,W1 (Wt _)];simp
    rw[hg];simp only[Wt,if_true,show ¬p.length+1≤p.length by omega,if_false,h1];exact ⟨h.bF,ha,he,trivial⟩
theorem rh {j:JS} {r:Rec} (h:ActFit r.act):ActFit (bH j r):=⟨h.name,h.toName,h.data⟩
structure JInv (p:List Past) (c:Int) (k:Nat) (n0:Int) (s:JG):Prop where
 hist:Hist (p++s.done.map λa=>⟨c,a⟩) s.j.l
 version:s.j.version=((p.length+s.done.length+1:Nat):Int)
 len:s.done.length≤k
 vlen:s.vs.length=k
 next:n0≤s.j.next/\s.j.next≤n0+k
theorem JInv.step {p:List Past} {c:Int} {k:Nat} {n0:Int} {s:JG} (h:JInv p c k n0 s) {r:Rec} (hr:ActFit r.act):JInv p c (k+1) n0 (lk s r):=by
 unfold lk;have h1:=h.next;have h2:=h.len;have h3:=h.vlen
 by_cases he:i_ s.j r=0
 ·rw[if_pos he];unfold i_ at he;split at he
  ·omega
  ·rename_i c1;split at he
   ·omega
   ·rename_i c2;split at he
    ·omega
    ·rename_i c3;have hJ:e_ s.j r={ s.j with l:=aH s.j.l (bH s.j r) s.j.version,next:=if aN r.act=true then s.j.next+1 else s.j.next,version:=s.j.version+1,own:=cr s.j r }:=by
      unfold e_;rw[if_neg c1,if_neg c2,if_neg c3,if_neg QL]
     have hA:jw s.j r=bH s.j r:=by unfold jw;rw[if_neg c1,if_neg c2]
     rw[hJ,hA];refine ⟨?_,?_,?_,?_,?_⟩
     ·have:=Hist.snoc c (bH s.j r) h.hist (rh hr) he;rw[List.length_append,List.length_map,←h.version] at this;simpa using this
     ·have:=h.version;simp only[List.length_append,List.length_cons,List.length_nil];omega
     ·simp only[List.length_append,List.length_cons,List.length_nil];omega
     ·simp only[List.length_append,List.length_cons,List.length_nil];omega
     ·simp only;split<;>omega
 ·rw[if_neg he];have hJ:(e_ s.j r).l=s.j.l/\(e_ s.j r).next=s.j.next/\(e_ s.j r).version=s.j.version:=by
   unfold e_;unfold i_ at he;split
   ·exact ⟨rfl,rfl,rfl⟩
   ·rename_i c1;rw[if_neg c1] at he;split
    ·exact ⟨rfl,rfl,rfl⟩
    ·rename_i c2;rw[if_neg c2] at he;split
     ·exact ⟨rfl,rfl,rfl⟩
     ·rename_i c3;rw[if_neg c3] at he;rw[if_pos he];exact ⟨rfl,rfl,rfl⟩
  obtain ⟨j1,j2,j3⟩:=hJ;refine ⟨?_,?_,?_,?_,?_⟩
  ·show Hist _ (e_ s.j r).l
   rw[j1];exact h.hist
  ·show (e_ s.j r).version=_
   rw[j3];exact h.version
  ·show s.done.length≤k+1;omega
  ·simp only[List.length_append,List.length_cons,List.length_nil];omega
  ·show n0≤(e_ s.j r).next/\(e_ s.j r).next≤n0+((k+1:Nat):Int)
   rw[j2];omega
theorem JInv.start {p:List Past} {t:List Node} (h:Hist p t) (c n0:Int):JInv p c 0 n0 (gZ t n0 ((p.length+1:Nat):Int)):=
 ⟨by simpa[gZ] using h,by simp[gZ],by simp[gZ],by simp[gZ],by simp[gZ]⟩
theorem JInv.rV {p:List Past} {t:List Node} (h:Hist p t) (c n0:Int) (log:List Rec) (hl:∀r,r∈log->ActFit r.act):JInv p c log.length n0 (bS t n0 ((p.length+1:Nat):Int) log):=by
 have key:∀(l:List Rec) (k:Nat) (s:JG),(∀r,r∈l->ActFit r.act)->JInv p c k n0 s->JInv p c (k+l.length) n0 (l.foldl lk s):=λl=>by
  induction l with
  | nil=>exact λk s _ h=>h
  | cons r l ih=>
   intro k s hl h;have:=ih (k+1) (lk s r) (λx hx=>hl x (List.mem_cons_of_mem _ hx)) (h.step (hl r List.mem_cons_self));rw[List.foldl_cons,List.length_cons,show k+(l.length+1)=k+1+l.length by omega];exact this
 have:=key log 0 _ hl (JInv.start h c n0)
 rwa [W8] at this
structure SrvOK (k:Nat) (s:Srv):Prop where
 hist:Hist s.past s.tree
 len:s.past.length≤k
 next:1≤s.next/\s.next≤1+k
theorem SrvOK.new:SrvOK 0 ⟨[h_],1,[]⟩:=⟨.nil,by simp,by simp⟩
theorem SrvOK.mono {k m:Nat} {s:Srv} (h:SrvOK k s) (hk:k≤m):SrvOK m s:=⟨h.hist,by have:=h.len;omega,by have:=h.next;omega⟩
theorem SrvOK.step {k:Nat} {s:Srv} (h:SrvOK k s) (c:Int) {a:Act} (ha:ActFit a) (he:doE s a=0):SrvOK (k+1) (doS s c a):=by
 have h1:=h.len;have h2:=h.next;have hf:ActFit (doA s a):=by unfold doA;split;exact ⟨ha.name,ha.toName,ha.data⟩;exact ha
 refine ⟨Hist.snoc c _ h.hist hf he,by simp[doS];omega,?_⟩
 show 1≤(if aN a=true then s.next+1 else s.next)/\(if aN a=true then s.next+1 else s.next)≤1+((k+1:Nat):Int)
 split<;>omega
theorem SrvOK.take {k:Nat} {s:Srv} (h:SrvOK k s) (c:Int) {log:List Rec} (hl:∀r,r∈log->ActFit r.act):SrvOK (k+log.length) (ll s c log):=by
 have h1:=h.len;have h2:=h.next;have hj:=JInv.rV h.hist c s.next log hl;have h3:=hj.len;have h4:=hj.next;exact ⟨hj.hist,by simp only[ll,List.length_append,List.length_map];omega,by show 1≤(bS s.tree s.next _ log).j.next/\(bS s.tree s.next _ log).j.next≤_;omega⟩
end La
namespace La
open Go Go.Eng
def Edge (l:List Node) (d:Int) (s:List UInt8) (f:Int):Prop:=∃n,n∈l/\n.fid=d/\(⟨s,f⟩:Entry)∈n.entries
def eY (l:List Node) (f:Int):Prop:=∃n,n∈l/\n.fid=f
structure Loc (n:Node):Prop where
 eup:EUp n.entries
 file:n.dir=false->n.entries=[]
 dirD:n.dir=true->n.data=[]
structure Wh (l:List Node):Prop where
 bF:Good l
 loc:∀n,n∈l->Loc n
 name:∀d s f,Edge l d s f->cu s=true
 there:∀d s f,Edge l d s f->eY l f
 noroot:∀d s f,Edge l d s f->f≠0
 par:∀f,eY l f->f≠0->∃d s,Edge l d s f
 one:∀d s d' s' f,Edge l d s f->Edge l d' s' f->d=d'/\s=s'
 root:∃n,n∈l/\n.fid=0/\n.dir=true
theorem oF {l:List Node} (h:Up l) {a b:Node} (ha:a∈l) (hb:b∈l) (hf:a.fid=b.fid):a=b:=by
 have h1:=(ZO h).2 ⟨ha,rfl⟩;have h2:=(ZO h).2 ⟨hb,hf.symm⟩;rw[h1] at h2;injection h2
theorem mr {l:List Node} (h:Up l) {n:Node} (hn:n∈l) {s:List UInt8} {f:Int}:Edge l n.fid s f↔(⟨s,f⟩:Entry)∈n.entries:=
 ⟨λ⟨m,hm,hf,he⟩=>by rw[oF h hm hn hf] at he;exact he,λhe=>⟨n,hn,rfl,he⟩⟩
theorem lD {l:List Node} (h:Up l) (n:Node) {d:Int} {s:List UInt8} {f:Int}:Edge (aE l n) d s f↔(d=n.fid/\(⟨s,f⟩:Entry)∈n.entries)\/(d≠n.fid/\Edge l d s f):=by
 obtain ⟨_,h2⟩:=bl h n;constructor
 ·rintro ⟨m,hm,rfl,he⟩
  rcases (h2 m).1 hm with rfl | ⟨hm,hne⟩
  ·exact .inl ⟨rfl,he⟩
  ·exact .inr ⟨hne,m,hm,rfl,he⟩
 ·rintro (⟨rfl,he⟩ | ⟨hne,m,hm,rfl,he⟩)
  ·exact ⟨n,(h2 n).2 (.inl rfl),rfl,he⟩
  ·exact ⟨m,(h2 m).2 (.inr ⟨hm,hne⟩),rfl,he⟩
theorem mu {l:List Node} (h:Up l) (n:Node) {f:Int}:eY (aE l n) f↔f=n.fid\/eY l f:=by
 obtain ⟨_,h2⟩:=bl h n;constructor
 ·rintro ⟨m,hm,rfl⟩
  rcases (h2 m).1 hm with rfl | ⟨hm,hne⟩
  ·exact .inl rfl
  ·exact .inr ⟨m,hm,rfl⟩
 ·rintro (rfl | ⟨m,hm,rfl⟩)
  ·exact ⟨n,(h2 n).2 (.inl rfl),rfl⟩
  ·by_cases hne:m.fid=n.fid
   ·exact ⟨n,(h2 n).2 (.inl rfl),hne.symm⟩
   ·exact ⟨m,(h2 m).2 (.inr ⟨hm,hne⟩),rfl⟩
theorem Bs {l:List Node} (k:Int) {d:Int} {s:List UInt8} {f:Int}:Edge (ez l k) d s f↔Edge l d s f/\d≠k:=by
 constructor
 ·rintro ⟨m,hm,rfl,he⟩;have:=Wy.1 hm;exact ⟨⟨m,this.1,rfl,he⟩,by simpa using this.2⟩
 ·rintro ⟨⟨m,hm,rfl,he⟩,hk⟩;exact ⟨m,Wy.2 ⟨hm,by simpa using hk⟩,rfl,he⟩
theorem Dl {l:List Node} (k:Int) {f:Int}:eY (ez l k) f↔eY l f/\f≠k:=by
 constructor
 ·rintro ⟨m,hm,rfl⟩;have:=Wy.1 hm;exact ⟨⟨m,this.1,rfl⟩,by simpa using this.2⟩
 ·rintro ⟨⟨m,hm,rfl⟩,hk⟩;exact ⟨m,Wy.2 ⟨hm,by simpa using hk⟩,rfl⟩
theorem tN {l:List Entry} (h:EUp l) {s0:List UInt8} (hs:isE l s0=false) (f0:Int) {s:List UInt8} {f:Int}:(⟨s,f⟩:Entry)∈bu l s0 f0↔(s=s0/\f=f0)\/(⟨s,f⟩:Entry)∈l:=by
 rw[(jG h hs f0).2.1];simp
theorem ue {l:List Entry} {s0 s:List UInt8} {f:Int}:(⟨s,f⟩:Entry)∈c_ l s0↔(⟨s,f⟩:Entry)∈l/\s≠s0:=by
 unfold c_;rw[Wy];simp
theorem jS {l:List Entry} (h:EUp l) (s:List UInt8):EUp (c_ l s):=h.sublist List.filter_sublist
theorem dh {n:Node} {s:List UInt8} (h:bO n s=0):cu s=true/\isE n.entries s=false:=by
 unfold bO at h;split at h
 ·rename_i h1;split at h
  ·omega
  ·rename_i h2;exact ⟨h1,by simpa using h2⟩
 ·omega
theorem DT {l:List Node} {k:Int} (hu:Up l) (h:bg l k=false):¬eY l k:=by
 rintro ⟨m,hm,rfl⟩;have:=(ZO hu).2 ⟨hm,rfl⟩;rw[ky this] at h;cases h
theorem Bj {l:List Node} (h:Wh l) (a:Act) (v:Int) (he:cL l a=0):Wh (dD l a v):=by
 have hg:=o_ h.bF a v he;have hu:=h.bF.up;have hL:dD l a v=aE (aE l { ay (aq l a.dir) a.name a.fid with version:=v }) (dC a v):=by unfold dD;rw[if_pos he]
 unfold cL at he;split at he
 case isFalse hd=>exact absurd he hd
 rename_i hd;obtain ⟨n,hf,hgn,hdir⟩:=im hd;rw[hgn] at he hL;obtain ⟨hn,hnk⟩:=(ZO hu).1 hf;split at he
 case isFalse hr=>exact absurd he hr
 rename_i hro;obtain ⟨hnm,hfree⟩:=dh hro;split at he
 ·omega
 rename_i hnew;have hno:bg l a.fid=false/\a.fid≠0:=by simpa using hnew
 have hnin:=DT hu hno.1;have hl:=h.loc n hn;have hu1:=(bl hu { ay n a.name a.fid with version:=v }).1;have hnf:n.fid≠a.fid:=λe=>hnin ⟨n,hn,e⟩
 rw[hL] at hg ⊢;have hE:∀d s f,Edge (aE (aE l { ay n a.name a.fid with version:=v }) (dC a v)) d s f↔Edge l d s f\/(d=n.fid/\s=a.name/\f=a.fid):=λd s f=>by
  rw[lD hu1,lD hu]
  show (d=a.fid/\(⟨s,f⟩:Entry)∈[])\/(d≠a.fid/\((d=n.fid/\(⟨s,f⟩:Entry)∈bu n.entries a.name a.fid)\/(d≠n.fid/\Edge l d s f)))↔_
  rw[tN hl.eup hfree];constructor
  ·rintro (⟨_,h0⟩ | ⟨h1,⟨rfl,h2 | h2⟩ | ⟨h2,h3⟩⟩)
   ·cases h0
   ·exact .inr ⟨rfl,h2⟩
   ·exact .inl ⟨n,hn,rfl,h2⟩
   ·exact .inl h3
  ·rintro (h1 | ⟨rfl,rfl,rfl⟩)
   ·refine .inr ⟨λe=>?_,?_⟩
    ·obtain ⟨m,hm,hmf,_⟩:=h1;exact hnin ⟨m,hm,hmf.trans e⟩
    ·by_cases hd:d=n.fid
     ·subst hd;exact .inl ⟨rfl,.inr ((mr hu hn).1 h1)⟩
     ·exact .inr ⟨hd,h1⟩
   ·exact .inr ⟨hnf,.inl ⟨rfl,.inl ⟨rfl,rfl⟩⟩⟩
 have hF:∀f,eY (aE (aE l { ay n a.name a.fid with version:=v }) (dC a v)) f↔f=a.fid\/eY l f:=λf=>by
  rw[mu hu1,mu hu]
  show f=a.fid\/f=n.fid\/eY l f↔_
  constructor
  ·rintro (h | rfl | h)
   ·exact .inl h
   ·exact .inr ⟨n,hn,rfl⟩
   ·exact .inr h
  ·rintro (h | h)
   ·exact .inl h
   ·exact .inr (.inr h)
 refine ⟨hg,λx hx=>?_,λd s f hd=>?_,λd s f hd=>?_,λd s f hd=>?_,λf hf h0=>?_,λd s d' s' f h1 h2=>?_,?_⟩
 ·rcases fF hx with rfl | hx
  ·exact ⟨by unfold EUp;simp[dC],λ_=>rfl,λ_=>rfl⟩
  ·rcases fF hx with rfl | hx
   ·exact ⟨(jG hl.eup hfree a.fid).1,λh0=>(by
     have h0:n.dir=false:=h0;rw[hdir] at h0;cases h0),hl.dirD⟩
   ·exact h.loc x hx
 ·rcases (hE d s f).1 hd with h1 | ⟨_,rfl,_⟩
  ·exact h.name d s f h1
  ·exact hnm
 ·rcases (hE d s f).1 hd with h1 | ⟨_,_,rfl⟩
  ·exact (hF f).2 (.inr (h.there d s f h1))
  ·exact (hF _).2 (.inl rfl)
 ·rcases (hE d s f).1 hd with h1 | ⟨_,_,rfl⟩
  ·exact h.noroot d s f h1
  ·exact hno.2
 ·rcases (hF f).1 hf with rfl | hf
  ·exact ⟨n.fid,a.name,(hE _ _ _).2 (.inr ⟨rfl,rfl,rfl⟩)⟩
  ·obtain ⟨d,s,h1⟩:=h.par f hf h0;exact ⟨d,s,(hE _ _ _).2 (.inl h1)⟩
 ·rcases (hE d s f).1 h1 with h1 | ⟨rfl,rfl,rfl⟩
  ·rcases (hE d' s' f).1 h2 with h2 | ⟨rfl,rfl,rfl⟩
   ·exact h.one d s d' s' f h1 h2
   ·exact absurd (h.there _ _ _ h1) hnin
  ·rcases (hE d' s' _).1 h2 with h2 | ⟨rfl,rfl,_⟩
   ·exact absurd (h.there _ _ _ h2) hnin
   ·exact ⟨rfl,rfl⟩
 ·obtain ⟨m,hm,hm0,hmd⟩:=h.root;have hmem:∀x,x∈aE l { ay n a.name a.fid with version:=v }->x.fid≠a.fid->x∈aE (aE l { ay n a.name a.fid with version:=v }) (dC a v):=λx hx hne=>((bl hu1 (dC a v)).2 x).2 (.inr ⟨hx,hne⟩)
  by_cases hmn:m.fid=n.fid
  ·refine ⟨{ ay n a.name a.fid with version:=v },hmem _ (((bl hu _).2 _).2 (.inl rfl)) hnf,hmn.symm.trans hm0,hdir⟩
  ·exact ⟨m,hmem _ (((bl hu _).2 _).2 (.inr ⟨hm,hmn⟩)) (by rw[hm0];exact λe=>hno.2 e.symm),hm0,hmd⟩
theorem EB {l:List Node} (h:Wh l) (a:Act) (v:Int) (he:eK l a=0):Wh (eh l a v):=by
 have hg:=rR h.bF a v he;have hu:=h.bF.up;have hL:eh l a v=aE l { aq l a.fid with data:=a.data,version:=v }:=by unfold eh;rw[if_pos he]
 unfold eK at he;cases hf:aj l a.fid with
 | none=>rw[hf] at he;simp at he
 | some n=>
  rw[hf] at he;simp only at he;obtain ⟨hn,hnk⟩:=(ZO hu).1 hf;have hgn:aq l a.fid=n:=by unfold aq;rw[hf];rfl
  rw[hgn] at hL;split at he
  ·omega
  rename_i hdir;rw[hL] at hg ⊢;have hE:∀d s f,Edge (aE l { n with data:=a.data,version:=v }) d s f↔Edge l d s f:=λd s f=>by
   rw[lD hu]
   show (d=n.fid/\(⟨s,f⟩:Entry)∈n.entries)\/(d≠n.fid/\Edge l d s f)↔_
   constructor
   ·rintro (⟨rfl,h1⟩ | ⟨_,h1⟩)
    ·exact ⟨n,hn,rfl,h1⟩
    ·exact h1
   ·intro h1
    by_cases hd:d=n.fid
    ·subst hd;exact .inl ⟨rfl,(mr hu hn).1 h1⟩
    ·exact .inr ⟨hd,h1⟩
  have hF:∀f,eY (aE l { n with data:=a.data,version:=v }) f↔eY l f:=λf=>by
   rw[mu hu]
   show f=n.fid\/eY l f↔_
   constructor
   ·rintro (rfl | h)
    ·exact ⟨n,hn,rfl⟩
    ·exact h
   ·exact .inr
  refine ⟨hg,λx hx=>?_,λd s f hd=>h.name d s f ((hE _ _ _).1 hd),λd s f hd=>(hF _).2 (h.there d s f ((hE _ _ _).1 hd)),λd s f hd=>h.noroot d s f ((hE _ _ _).1 hd),λf hf h0=>?_,λd s d' s' f h1 h2=>h.one d s d' s' f ((hE _ _ _).1 h1) ((hE _ _ _).1 h2),?_⟩
  ·rcases fF hx with rfl | hx
   ·have hl:=h.loc n hn;exact ⟨hl.eup,hl.file,λh0=>absurd h0 hdir⟩
   ·exact h.loc x hx
  ·obtain ⟨d,s,h1⟩:=h.par f ((hF f).1 hf) h0;exact ⟨d,s,(hE _ _ _).2 h1⟩
  ·obtain ⟨m,hm,hm0,hmd⟩:=h.root;refine ⟨m,((bl hu _).2 m).2 (.inr ⟨hm,λe=>?_⟩),hm0,hmd⟩;have:m=n:=oF hu hm hn e;subst this;exact hdir hmd
theorem sc {l:List Node} (h:Wh l) {a:Act} (he:bw l a=0):∃n,aj l a.dir=some n/\aq l a.dir=n/\n∈l/\n.fid=a.dir/\n.dir=true/\Edge l a.dir a.name a.fid:=by
 unfold bw at he;split at he
 case isFalse hd=>exact absurd he hd
 rename_i hd;obtain ⟨n,hf,hgn,hdir⟩:=im hd;obtain ⟨hn,hnk⟩:=(ZO h.bF.up).1 hf;rw[hgn] at he;cases e:ba n a.name with
 | none=>rw[e] at he;simp at he
 | some f=>
  rw[e] at he;simp only at he;split at he
  case isFalse hd=>omega
  rename_i hff;subst hff;exact ⟨n,hf,hgn,hn,hnk,hdir,n,hn,hnk,(YE (h.loc n hn).eup).1 e⟩
theorem tJ {l:List Node} (hu:Up l) {n:Node} (hn:n∈l) (s0:List UInt8) (v:Int) {d:Int} {s:List UInt8} {f:Int}:Edge (aE l { aA n s0 with version:=v }) d s f↔Edge l d s f/\¬(d=n.fid/\s=s0):=by
 rw[lD hu]
 show (d=n.fid/\(⟨s,f⟩:Entry)∈c_ n.entries s0)\/(d≠n.fid/\Edge l d s f)↔_
 rw[ue];constructor
 ·rintro (⟨rfl,h1,h2⟩ | ⟨h1,h2⟩)
  ·exact ⟨⟨n,hn,rfl,h1⟩,λh=>h2 h.2⟩
  ·exact ⟨h2,λh=>h1 h.1⟩
 ·rintro ⟨h1,h2⟩
  by_cases hd:d=n.fid
  ·subst hd;exact .inl ⟨rfl,(mr hu hn).1 h1,λe=>h2 ⟨rfl,e⟩⟩
  ·exact .inr ⟨hd,h1⟩
theorem CK {l:List Node} (h:Wh l) (a:Act) (v:Int) (he:cG l a=0):Wh (cH l a v):=by
 have hg:=pQ h.bF a v he;have hu:=h.bF.up;have hL:cH l a v=ez (aE l { aA (aq l a.dir) a.name with version:=v }) a.fid:=by unfold cH;rw[if_pos he]
 unfold cG at he;split at he
 case isFalse hd=>exact absurd he hd
 rename_i hnd;obtain ⟨n,hf,hgn,hn,hnk,hdir,hed⟩:=sc h hnd;rw[hgn] at hL;cases hx:aj l a.fid with
 | none=>rw[hx] at he;simp at he
 | some x=>
  rw[hx] at he;simp only at he;obtain ⟨hxm,hxf⟩:=(ZO hu).1 hx;have hxe:x.entries=[]:=by
   cases e:x.entries with
   | nil=>rfl
   | cons p q=>rw[e] at he;simp at he
  rw[hL] at hg ⊢;have hnoE:∀s f,¬Edge l a.fid s f:=λs f h1=>by
   rw[←hxf] at h1;have:=(mr hu hxm).1 h1;rw[hxe] at this;cases this
  have hE:∀d s f,Edge (ez (aE l { aA n a.name with version:=v }) a.fid) d s f↔Edge l d s f/\¬(d=a.dir/\s=a.name):=λd s f=>by
   rw[Bs,tJ hu hn,hnk];constructor
   ·exact λh=>h.1
   ·exact λh=>⟨h,λe=>by subst e;exact hnoE s f h.1⟩
  have hF:∀f,eY (ez (aE l { aA n a.name with version:=v }) a.fid) f↔eY l f/\f≠a.fid:=λf=>by
   rw[Dl,mu hu]
   show (f=n.fid\/eY l f)/\f≠a.fid↔_
   constructor
   ·rintro ⟨rfl | h,h1⟩
    ·exact ⟨⟨n,hn,rfl⟩,h1⟩
    ·exact ⟨h,h1⟩
   ·rintro ⟨h,h1⟩;exact ⟨.inr h,h1⟩
  have hup1:=(bl hu { aA n a.name with version:=v });refine ⟨hg,λx hx=>?_,λd s f hd=>h.name d s f ((hE _ _ _).1 hd).1,λd s f hd=>(hF _).2 ⟨h.there d s f ((hE _ _ _).1 hd).1,λe=>?_⟩,λd s f hd=>h.noroot d s f ((hE _ _ _).1 hd).1,λf hf h0=>?_,λd s d' s' f h1 h2=>h.one d s d' s' f ((hE _ _ _).1 h1).1 ((hE _ _ _).1 h2).1,?_⟩
  ·rcases fF (Wy.1 hx).1 with rfl | hx
   ·have hl:=h.loc n hn;exact ⟨jS hl.eup _,λh0=>by
     show c_ n.entries a.name=[]
     rw[hl.file h0];rfl,hl.dirD⟩
   ·exact h.loc x hx
  ·subst e;obtain ⟨h1,h2⟩:=(hE _ _ _).1 hd;exact h2 (h.one _ _ _ _ _ h1 hed)
  ·obtain ⟨h1,h2⟩:=(hF f).1 hf;obtain ⟨d,s,h3⟩:=h.par f h1 h0;refine ⟨d,s,(hE _ _ _).2 ⟨h3,λe=>?_⟩⟩;obtain ⟨rfl,rfl⟩:=e;obtain ⟨m,hm,hmf,hme⟩:=hed;obtain ⟨m',hm',hmf',hme'⟩:=h3;have:m=m':=oF hu hm hm' (hmf.trans hmf'.symm);subst this;have:=(h.loc m hm).eup.same hme hme' rfl;injection this with _ h5
   exact h2 h5.symm
  ·obtain ⟨m,hm,hm0,hmd⟩:=h.root;have h0:(0:Int)≠a.fid:=λe=>h.noroot _ _ _ hed e.symm
   by_cases hmn:m.fid=n.fid
   ·exact ⟨{ aA n a.name with version:=v },Wy.2 ⟨(hup1.2 _).2 (.inl rfl),by
     show (!(n.fid==a.fid))=true
     rw[←hmn,hm0];simpa using h0⟩,hmn.symm.trans hm0,hdir⟩
   ·exact ⟨m,Wy.2 ⟨(hup1.2 _).2 (.inr ⟨hm,hmn⟩),by rw[hm0];simpa using h0⟩,hm0,hmd⟩
theorem CL {l:List Node} (h:Wh l) (a:Act) (v:Int) (he:de l a=0):Wh (cW l a v):=by
 have hg:=pR h.bF a v he;have hu:=h.bF.up;have hL:cW l a v=aE (if a.to=a.dir then l else aE l { aA (aq l a.dir) a.name with version:=v }) { ay (toN l a) a.toName a.fid with version:=v }:=by unfold cW;rw[if_pos he]
 unfold de at he;split at he
 case isFalse hd=>exact absurd he hd
 rename_i hnd;obtain ⟨n,hf,hgn,hn,hnk,hdir,hed⟩:=sc h hnd;split at he
 case isFalse hd=>exact absurd he hd
 rename_i hdt;obtain ⟨t,htf,htg,htdir⟩:=im hdt;obtain ⟨htm,htk⟩:=(ZO hu).1 htf;split at he
 case isFalse hd=>exact absurd he hd
 rename_i hro;obtain ⟨hnm,hfree⟩:=dh hro;rw[hgn] at hL;rw[hL] at hg ⊢
 -- the directory that gets the name
 have hT:(toN l a).fid=a.to/\(toN l a).dir=true/\EUp (toN l a).entries/\((toN l a).dir=true->(toN l a).data=[])/\∀s f,(⟨s,f⟩:Entry)∈(toN l a).entries↔Edge l a.to s f/\¬(a.to=a.dir/\s=a.name):=by
  unfold toN;split
  ·rename_i htd;rw[hgn];have hl:=h.loc n hn;refine ⟨hnk.trans htd.symm,hdir,jS hl.eup _,hl.dirD,λs f=>?_⟩
   show (⟨s,f⟩:Entry)∈c_ n.entries a.name↔_
   rw[ue,htd,←hnk,mr hu hn];simp
  ·rename_i htd;rw[htg];have hl:=h.loc t htm;refine ⟨htk,htdir,hl.eup,hl.dirD,λs f=>?_⟩;rw[←htk,mr hu htm];constructor
   ·exact λh=>⟨h,λe=>htd (htk.symm.trans e.1)⟩
   ·exact λh=>h.1
 obtain ⟨hTf,hTd,hTe,hTda,hTm⟩:=hT;generalize hl1:(if a.to=a.dir then l else aE l { aA n a.name with version:=v })=l1 at hg ⊢;have hu1:Up l1:=by subst hl1;split;exact hu;exact (bl hu _).1
 have hE1:∀d s f,d≠a.to->(Edge l1 d s f↔Edge l d s f/\¬(d=a.dir/\s=a.name)):=λd s f hd=>by
  subst hl1;split
  ·rename_i htd;exact ⟨λh=>⟨h,λe=>hd (e.1.trans htd.symm)⟩,λh=>h.1⟩
  ·rw[tJ hu hn,hnk]
 have hF1:∀f,eY l1 f↔eY l f:=λf=>by
  subst hl1;split
  ·exact Iff.rfl
  ·rw[mu hu]
   show f=n.fid\/eY l f↔_
   exact ⟨λh=>h.elim (λe=>⟨n,hn,e.symm⟩) id,.inr⟩
 have hE:∀d s f,Edge (aE l1 { ay (toN l a) a.toName a.fid with version:=v }) d s f↔(Edge l d s f/\¬(d=a.dir/\s=a.name))\/(d=a.to/\s=a.toName/\f=a.fid):=λd s f=>by
  rw[lD hu1]
  show (d=(toN l a).fid/\(⟨s,f⟩:Entry)∈bu (toN l a).entries a.toName a.fid)\/(d≠(toN l a).fid/\Edge l1 d s f)↔_
  rw[tN hTe hfree,hTm,hTf];constructor
  ·rintro (⟨rfl,h1 | h1⟩ | ⟨h1,h2⟩)
   ·exact .inr ⟨rfl,h1⟩
   ·exact .inl h1
   ·exact .inl ((hE1 d s f h1).1 h2)
  ·rintro (h1 | ⟨rfl,h1⟩)
   ·by_cases hd:d=a.to
    ·subst hd;exact .inl ⟨rfl,.inr h1⟩
    ·exact .inr ⟨hd,(hE1 d s f hd).2 h1⟩
   ·exact .inl ⟨rfl,.inl h1⟩
 have hF:∀f,eY (aE l1 { ay (toN l a) a.toName a.fid with version:=v }) f↔eY l f:=λf=>by
  rw[mu hu1,hF1]
  show f=(toN l a).fid\/eY l f↔_
  rw[hTf];exact ⟨λh=>h.elim (λe=>⟨t,htm,htk.trans e.symm⟩) id,.inr⟩
 have hthere:=h.there _ _ _ hed
 -- who leads to the fid that moves: its old place alone
 have hold:∀d s,Edge l d s a.fid->d=a.dir/\s=a.name:=λd s h1=>h.one _ _ _ _ _ h1 hed
 refine ⟨hg,λx hx=>?_,λd s f hd=>?_,λd s f hd=>?_,λd s f hd=>?_,λf hf h0=>?_,λd s d' s' f h1 h2=>?_,?_⟩
 ·rcases fF hx with rfl | hx
  ·exact ⟨(jG hTe hfree a.fid).1,λh0=>(by
    have h0:(toN l a).dir=false:=h0;rw[hTd] at h0;cases h0),hTda⟩
  ·subst hl1;split at hx
   ·exact h.loc x hx
   ·rcases fF hx with rfl | hx
    ·have hl:=h.loc n hn;exact ⟨jS hl.eup _,λh0=>by
      show c_ n.entries a.name=[]
      rw[hl.file h0];rfl,hl.dirD⟩
    ·exact h.loc x hx
 ·rcases (hE d s f).1 hd with h1 | ⟨_,rfl,_⟩
  ·exact h.name d s f h1.1
  ·exact hnm
 ·rcases (hE d s f).1 hd with h1 | ⟨_,_,rfl⟩
  ·exact (hF f).2 (h.there d s f h1.1)
  ·exact (hF _).2 hthere
 ·rcases (hE d s f).1 hd with h1 | ⟨_,_,rfl⟩
  ·exact h.noroot d s f h1.1
  ·exact h.noroot _ _ _ hed
 ·by_cases hff:f=a.fid
  ·subst hff;exact ⟨a.to,a.toName,(hE _ _ _).2 (.inr ⟨rfl,rfl,rfl⟩)⟩
  ·obtain ⟨d,s,h1⟩:=h.par f ((hF f).1 hf) h0;refine ⟨d,s,(hE _ _ _).2 (.inl ⟨h1,λe=>?_⟩)⟩;obtain ⟨rfl,rfl⟩:=e;obtain ⟨m,hm,hmf,hme⟩:=hed;obtain ⟨m',hm',hmf',hme'⟩:=h1;have:m=m':=oF hu hm hm' (hmf.trans hmf'.symm);subst this;have:=(h.loc m hm).eup.same hme hme' rfl;injection this with _ h5
   exact hff h5.symm
 ·rcases (hE d s f).1 h1 with h1 | ⟨rfl,rfl,rfl⟩
  ·rcases (hE d' s' f).1 h2 with h2 | ⟨rfl,rfl,rfl⟩
   ·exact h.one d s d' s' f h1.1 h2.1
   ·exact absurd (hold d s h1.1) h1.2
  ·rcases (hE d' s' _).1 h2 with h2 | ⟨rfl,rfl,_⟩
   ·exact absurd (hold d' s' h2.1) h2.2
   ·exact ⟨rfl,rfl⟩
 ·obtain ⟨m,hm,hm0,hmd⟩:=h.root
  by_cases hmt:m.fid=a.to
  ·exact ⟨_,((bl hu1 _).2 _).2 (.inl rfl),hTf.trans (hmt.symm.trans hm0),hTd⟩
  ·have hml1:∃x,x∈l1/\x.fid=0/\x.dir=true:=by
    subst hl1;split
    ·exact ⟨m,hm,hm0,hmd⟩
    ·by_cases hmn:m.fid=n.fid
     ·exact ⟨{ aA n a.name with version:=v },((bl hu _).2 _).2 (.inl rfl),hmn.symm.trans hm0,hdir⟩
     ·exact ⟨m,((bl hu _).2 _).2 (.inr ⟨hm,hmn⟩),hm0,hmd⟩
   obtain ⟨x,hx,hx0,hxd⟩:=hml1;exact ⟨x,((bl hu1 _).2 _).2 (.inr ⟨hx,by
    show x.fid≠(toN l a).fid
    rw[hTf,hx0,←hm0];exact hmt⟩),hx0,hxd⟩
theorem EA {l:List Node} (h:Wh l) (a:Act) (v:Int) (he:aD l a=0):Wh (aH l a v):=by
 unfold aD at he;unfold aH;split at he
 ·rename_i h1;rw[if_pos h1];exact Bj h a v he
 ·rename_i h1;rw[if_neg h1];split at he
  ·rename_i h2;rw[if_pos h2];exact Bj h a v he
  ·rename_i h2;rw[if_neg h2];split at he
   ·rename_i h3;rw[if_pos h3];exact EB h a v he
   ·rename_i h3;rw[if_neg h3];split at he
    ·rename_i h4;rw[if_pos h4];exact CK h a v he
    ·rename_i h4;rw[if_neg h4];split at he
     ·rename_i h5;rw[if_pos h5];exact CL h a v he
     ·omega
theorem Hy:Wh [h_]:=by
 have hE:∀d s f,¬Edge [h_] d s f:=λd s f ⟨n,hn,_,he⟩=>by rw[List.mem_singleton.1 hn] at he;cases he
 exact ⟨tV,λn hn=>by rw[List.mem_singleton.1 hn];exact ⟨by unfold EUp;simp[h_],λ_=>rfl,λ_=>rfl⟩,λd s f h=>absurd h (hE d s f),λd s f h=>absurd h (hE d s f),λd s f h=>absurd h (hE d s f),
  λf ⟨n,hn,hf⟩ h0=>by rw[List.mem_singleton.1 hn] at hf;exact absurd hf.symm h0,λd s d' s' f h=>absurd h (hE d s f),⟨h_,List.mem_singleton.2 rfl,rfl,rfl⟩⟩
theorem Hist.whole {p:List Past} {t:List Node} (h:Hist p t):Wh t:=by
 induction h with
 | nil=>exact Hy
 | snoc c a h ha he ih=>exact EA ih _ _ he
def jh (l:List Node):Nat->List (Int×Node)
 | 0=>[]
 | i+1=>bt (jh l i) (fY l i) (l.getD i default)
def bD (l:List Node):List (Int×Node):=jh l l.length
theorem xK (l:List Node):∀i,jV l i=mN (jh l i)
 | 0=>rfl
 | i+1=>by
  have ih:=xK l i
  show bt (jV l i) (fY l i) _=_
  rw[ih,vt];rfl
theorem vu (l:List Node):BQ l=mN (bD l):=xK l l.length
theorem br (l:List Node):ej (bD l):=by
 have:∀i,ej (jh l i):=λi=>by
  induction i with
  | zero=>exact List.Pairwise.nil
  | succ i ih=>exact cq ih
 exact this _
theorem cy {l:List Node} (h:Up l) (k:Int):bj (bD l) k=aj l k:=by
 have h1:=DN h k;rw[vu,gV] at h1;cases e:bj (bD l) k with
 | none=>
  rw[e] at h1;cases e2:aj l k with
  | none=>rfl
  | some n=>rw[e2] at h1;cases h1
 | some m=>
  rw[e] at h1;cases e2:aj l k with
  | none=>rw[e2] at h1;cases h1
  | some n=>
   rw[e2] at h1;simp only[Option.map_some,Option.some.injEq,AV.agg.injEq] at h1
   -- the same nodes, as both come from the list
   have hm:∀i,i≤l.length->∀p,p∈jh l i->p.2∈l/\p.2.fid=p.1:=λi=>by
    induction i with
    | zero=>intro _ p hp;cases hp
    | succ i ih=>
     intro hi p hp;have hr:ej (jh l i):=by
      have:∀j,ej (jh l j):=λj=>by
       induction j with
       | zero=>exact List.Pairwise.nil
       | succ j ihj=>exact cq ihj
      exact this i
     rcases (bU hr p.1 p.2).1 hp with ⟨h1,h2⟩ | ⟨_,h2⟩
     ·rw[h1,h2];exact ⟨YG z8,rfl⟩
     ·exact ih z8 p h2
   obtain ⟨q1,q2⟩:=hm _ (Wt _) _ (cU e);rw[←e2];exact ((ZO h).2 ⟨q1,q2⟩).symm
theorem iM (l:List Node):∀i,ej (jh l i)
 | 0=>List.Pairwise.nil
 | i+1=>cq (iM l i)
theorem pr (l:List Node):∀i,i≤l.length->∀p,p∈jh l i->p.2∈l
 | 0,_,p,hp=>by cases hp
 | i+1,hi,p,hp=>by
  rcases (bU (iM l i) p.1 p.2).1 hp with ⟨h1,h2⟩ | ⟨_,h2⟩
  ·rw[h2];exact YG z8
  ·exact pr l i z8 p h2
theorem uh (l:List Node):∀i,(jh l i).length≤i
 | 0=>Wt _
 | i+1=>by
  have h1:=uh l i;have h2:=ji (n:=fY l i) (v:=l.getD i default) (iM l i)
  show (bt (jh l i) (fY l i) (l.getD i default)).length≤i+1
  rw[h2];cases (bj (jh l i) (fY l i)).isSome<;>simp<;>omega
theorem xc {α:Type} {f:α->List Int} {k:Nat}:∀{l:List α},(∀x,x∈l->(f x).length≤k)->(l.flatMap f).length≤k*l.length
 | [],_=>by simp
 | x::r,h=>by
  have h1:=xc (l:=r) λy hy=>h y (List.mem_cons_of_mem _ hy)
  have h2:=h x List.mem_cons_self;simp only[List.flatMap_cons,List.length_append,List.length_cons,Nat.mul_add,Nat.mul_one];omega
theorem yX {l:List Node} {k:Nat} (h:∀n,n∈l->n.entries.length≤k):(nF (bD l)).length≤k*l.length:=by
 have h1:(nF (bD l)).length≤k*(bD l).length:=xc λp hp=>by
  rw[List.length_map];exact h _ (pr l _ (Wt _) p hp)
 exact YW h1 (Nat.mul_le_mul_left _ (uh l _))
end La
