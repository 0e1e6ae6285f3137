/- Texts of this claim, part 14: Fid, Srv, Srv2, Cach, Cach2, Unl, PJud, PWhole, PWh2. No condition. -/
import Derived.Test.YtdcmhdkpfllnlaaGreatDoorXC13
import Derived.Test.YtdcmhdkpfllnlaaGreatDoorXC10
import Derived.Test.YtdcmhdkpfllnlaaGreatDoorXC8
import Derived.Test.YtdcmhdkpfllnlaaGreatDoorXC9
import Derived.Test.YtdcmhdkpfllnlaaGreatDoorXC12
set_option maxRecDepth 10000
set_option maxHeartbeats 4000000
set_option linter.unusedSimpArgs false
set_option linter.unusedVariables false
namespace La
open Go Go.Eng Go.Proofs
theorem uE (a:Act):ae Tryz.prog 154 [.agg (ZA a)] [] (λr _=>r=.sl ((bO a).map ZI)):=by
 unfold ZA;refine ZF tK (Tryz.func154) rfl (λC=>?_);simp only[Tryz.ntmps154,Tryz.results154,go_sem];refine wG tK ?_;refine wD (λh=>?_) (λh=>?_)
 ·refine wG tK ?_;refine ZZ 9 rfl (rfl) ?_;simp only[go_sem];refine wT ?_;simp[go_sem,bO,ZI,eq_of_beq h]
 ·refine wG tK ?_;have h1:a.kind≠3:=by simpa using h
  refine wD (λh=>?_) (λh=>?_)
  ·refine wG tK ?_;refine ZZ 18 rfl (rfl) ?_;simp only[go_sem];refine wT ?_;have h2:a.kind=5:=by simpa using h
   simp[go_sem,bO,ZI,h2]
  ·refine wG tK ?_;refine ZZ 23 rfl (rfl) ?_;simp only[go_sem];refine wT ?_;have h2:a.kind≠5:=by simpa using h
   simp[go_sem,bO,ZI,h1,h2]
theorem e_ (a:Act):(bO a).length≤3:=by
 unfold bO;split
 ·simp
 ·split<;>simp
theorem C_ (l:List Int) (hlen:l.length≤100000000) (v:Int):ae Tryz.prog 186 [.sl (l.map ZI),.int .i64 v] [] (λr _=>r=.int .i64 (bZ (l.findIdx? (v==·)))):=by
 refine ZF tK (Tryz.func186) rfl (λC=>?_);simp only[Tryz.ntmps186,Tryz.results186,go_sem];refine wG tK ?_;refine ZL (λi:Nat=>i≤l.length/\∀x,x∈l.take i->(v==x)=false) (λi=>l.length-i) (λi=>[(8,.int .i64 i),(5,.any),(9,.any),(10,.any),(11,.any),(12,.any),(13,.any),(14,.any),(15,.any),(16,.any),(17,.any),(18,.any)]) (λ_=>[]) 0 ⟨by omega,by simp⟩ ?_ λi hi=>?_
 ·simp only[go_sem];exact ZU w3 w3 v8
 obtain ⟨hi,hno⟩:=hi;simp only[go_sem];refine wG tK ?_;refine wD (λh=>?_) (λh=>?_)
 ·have hlt:i<l.length:=by simp at h;omega
  have hg:(l.map ZI).getD i []=ZI (l.getD i default):=Fam.getD hlt;have htk:=ZT hlt;have hgi:l[i]? = some (l.getD i default):=by rw[List.getD_eq_getElem?_getD,List.getElem?_eq_getElem hlt];rfl
  generalize l.getD i default=n at hg htk hgi;refine wGq tK ?_ ?_ Q3
  ·simp[hlt]
  refine wD (λh=>?_) (λh=>?_)
  ·refine wG tK ?_;refine wT ?_;rw[er hgi hno h];rfl
  ·have hw:IntKind.i64.wrap ((i:Int)+1)=(i:Int)+1:=wrap_small z8 z8;refine wG tK ?_ w5 k0;refine ZB ⟨i+1,⟨by omega,?_⟩,by omega,ZU ?_ ?_ ?_⟩
   ·rw[htk];intro x hx
    rcases List.mem_append.1 hx with hx | hx
    ·exact hno x hx
    ·rw[List.mem_singleton.1 hx];exact h
   ·simp[go_sem]
   ·simp[go_sem]
   ·simp only[go_sem]
 ·have e:i=l.length:=by simp at h;omega
  refine wG tK ?_;refine wT ?_;rw[e,List.take_length] at hno;rw[List.findIdx?_eq_none_iff.2 hno];rfl
theorem vR (l:List Int) (hlen:l.length≤100000000) (v:Int):ae Tryz.prog 153 [.sl (l.map ZI),.int .i64 v] [] (λr _=>r=.bool (l.contains v)):=by
 refine ZF tK (Tryz.func153) rfl (λC=>?_);simp only[Tryz.ntmps153,Tryz.results153,go_sem];refine wG tK ?_;refine wC Tryz.func186 (hf:=(C_ l hlen v)) (hk:=?_);refine wG tK ?_;refine wT ?_;rw[lE,List.contains_eq_any_beq]
theorem xt (r:Rec) (f:Int):ae Tryz.prog 108 [.rp (ZR r) 0,.int .i64 f] [] (λx _=>x=.bool (r.names f)):=by
 unfold ZR;refine ZF tK (Tryz.func108) rfl (λC=>?_);simp only[Tryz.ntmps108,Tryz.results108,go_sem];refine wG tK ?_;refine wC Tryz.func154 (hf:=(uE r.act)) (hk:=?_);refine wG tK ?_;refine wC Tryz.func153 (hf:=(vR (bO r.act) (by have:=e_ r.act;omega) f)) (hk:=?_);refine wG tK ?_;refine wT ?_;rfl
theorem cG (a b:Bool):(bif a then b else false)=(a&&b):=by cases a<;>rfl
theorem eI (a b:Bool):(bif a then true else b)=(a||b):=by cases a<;>rfl
theorem zZ (r:Rec) (d:Int) (n:List UInt8):ae Tryz.prog 151 [.rp (ZR r) 0,.int .i64 d,.str n] [] (λx _=>x=.bool (fk r.act d n)):=by
 unfold ZR;refine ZF tK (Tryz.func151) rfl (λC=>?_);simp only[Tryz.ntmps151,Tryz.results151,go_sem];refine wG tK ?_;refine wD (λh=>?_) (λh=>?_)
 ·refine wG tK ?_;refine wDT (hb:=(h)) (hk:=?_);refine wR ?_;refine wN tK 6 ?_;refine al 24 z6 (λc24 h24=>?_);simp only[go_sem];refine wN tK 8 ?_;refine al 32 z6 (λc32 h32=>?_);simp only[go_sem];refine wG tK ?_;refine wT ?_;subst h32 h24;have hk:=eq_of_beq h;simp[fk,hk,cG]
 ·refine wG tK ?_;refine wD (λh=>?_) (λh=>?_)
  ·refine wG tK ?_;refine wDT (hb:=(h)) (hk:=?_);refine wR ?_;refine wN tK 6 ?_;refine al 24 z6 (λc24 h24=>?_);simp only[go_sem];refine wN tK 8 ?_;refine al 32 z6 (λc32 h32=>?_);simp only[go_sem];refine wG tK ?_;refine wT ?_;subst h32 h24;have hk:=eq_of_beq h;simp[fk,hk,cG]
  ·refine wG tK ?_;refine wD (λh=>?_) (λh=>?_)
   ·refine wR ?_;refine wN tK 6 ?_;refine al 24 z6 (λc24 h24=>?_);simp only[go_sem];refine wN tK 8 ?_;refine al 32 z6 (λc32 h32=>?_);simp only[go_sem];refine wG tK ?_;refine wT ?_;subst h32 h24;have hk:=eq_of_beq h;simp[fk,hk,cG]
   ·refine wG tK ?_;refine wD (λh=>?_) (λh=>?_)
    ·have hk:=eq_of_beq h;refine wR ?_;refine wN tK 6 ?_;refine al 40 z6 (λc40 h40=>?_);simp only[go_sem];refine wN tK 8 ?_;refine al 48 z6 (λc48 h48=>?_);simp only[go_sem];cases c48
     ·cases e3:(r.act.to==d)<;>cases e4:(r.act.toName==n)
      all_goals refine wG tK ?_ (by simp only[go_sem,e3,e4];try exact rfl) (by simp[go_sem,e3,e4])
      all_goals refine wT ?_
      all_goals rw[←h40,cG] at h48
      all_goals simp[fk,hk,h48,e3,e4]
     ·refine wG tK ?_;refine wT ?_;rw[←h40,cG] at h48;simp[fk,hk,h48]
    ·refine wG tK ?_;refine wT ?_
     simp_all [fk]
structure Srv where
 tree:List Node
 next:Int
 past:List Past
def ZQ (s:Srv):List AV:=[.sl (s.tree.map ZN),.int .i64 s.next,.sl (s.past.map ZP)]
@[go_sem,simp] theorem F5 (s:Srv):aA (ZQ s)=[]:=rfl
theorem su (s:Srv) (h:s.past.length≤100000000):ae Tryz.prog 96 [.agg (ZQ s)] [] (λr _=>r=.int .i64 ((s.past.length+1:Nat):Int)):=by
 have hw:IntKind.i64.wrap ((s.past.length:Int)+1)=((s.past.length+1:Nat):Int):=by rw[Eng.wrap_small z8 z8];rfl
 unfold ZQ;refine ZF tK (Tryz.func96) rfl (λC=>?_);simp only[Tryz.ntmps96,Tryz.results96,go_sem];refine wG tK ?_ w5 k0;refine wT ?_;rfl
structure SmallP (l:List Past):Prop where
 len:l.length≤90000000
 each:∀p,p∈l->p.act.data.length≤100000000
theorem AQ (s:Srv) (ht:Small s.tree) (hp:SmallP s.past):ae Tryz.prog 25 [.agg (ZQ s)] [] (λr _=>r=.agg (ZQ s)):=by
 have hlen:=hp.len;unfold ZQ;refine ZF tK (Tryz.func25) rfl (λC=>?_);simp only[Tryz.ntmps25,Tryz.results25,go_sem];refine wG tK ?_;refine ZZ 1 rfl (rfl) ?_;simp only[go_sem];refine ZW ZM ?_;refine ZS rfl ?_;refine sN tK 2 ?_;refine sC Tryz.func54 (hf:=(kz s.tree ht)) (hk:=?_);refine sN tK 2 ?_;refine sB tK ?_;refine sW tK ?_;refine sE ?_;refine dS tK ?_;refine wKd ?_
 try simp only[go_sem,gA,gB,gC]
 refine wG tK ?_;refine ag (AA 28 8 3 z7 z7) ?_;refine ag (le_empty 28 120 8 z7) ?_;simp only[go_sem];refine ZL (λi:Nat=>i≤s.past.length) (λi=>s.past.length-i) (λi=>[(5,.any),(15,.int .i64 i),(16,.any),(17,.any),(18,.any),(19,.any),(20,.any),(21,.any),(22,.any),(23,.any),(24,.any),(25,.any),(26,.any),(27,.any),(28,.any),(29,.any),(30,.any)])
  (λi=>[(3,.cells 30 3 [[.sl (s.tree.map ZN),.int .i64 s.next,.osl 28 8 0 i]]),(28,.cells 120 8 ((s.past.take i).map ZP))]) 0 z8 ?_ λi hi=>?_
 ·simp only[go_sem];exact ZU w3 w3 v8
 simp only[go_sem];refine wG tK ?_;refine wD (λh=>?_) (λh=>?_)
 ·have hlt:i<s.past.length:=by simp at h;omega
  have hw:=wi1 (i:=i) z8;have hg:(s.past.map ZP).getD i []=ZP (s.past.getD i default):=Fam.getD hlt;have hs:=ff ZP hlt;have ha:=hp.each _ (YG hlt);generalize s.past.getD i default=x at *;refine wGq tK ?_ ?_ Qh
  ·simp[hg,ZP,hlt]
  refine ZZ 5 rfl (rfl) ?_;simp only[go_sem];refine ZW ZM ?_;refine ZS rfl ?_;refine sN tK 6 ?_;refine sC Tryz.func55 (hf:=(lg x.act ha)) (hk:=?_);simp only[go_sem,ZA];refine sB tK ?_;refine sW tK ?_;refine sE ?_;refine nC (bt 28 3 z6 j0) ?_;simp only[go_sem];refine dSq tK ?_ ?_
  ·simp[go_sem,rowsOf];refine ⟨by omega,by omega,λx hx y hy hr=>?_⟩;have h1:=List.mem_of_mem_take (List.mem_of_mem_take hx);have:=List.all_eq_true.1 (List.all_eq_true.1 (bx 28 s.past) x h1) y hy;simp only[Bool.not_eq_true',List.contains_eq_mem,decide_eq_false_iff_not] at this;exact this hr
  simp only[go_sem];refine dS tK ?_;refine dS tK ?_;refine wKd ?_
  try simp only[go_sem,gA,gB,gC]
  refine wG tK ?_ w5 k0;refine ZB ⟨i+1,by omega,by omega,ZU ?_ ?_ ?_⟩
  ·simp[go_sem]
  ·simp[go_sem,hs,ZP,List.take_take]
  ·simp only[go_sem]
 ·have e:i=s.past.length:=by simp at h;omega
  subst e;refine wG tK ?_;refine ZZ 28 rfl (dC _) ?_;simp only[go_sem];refine wT ?_;simp
theorem ye (s:Srv) (ht:Small s.tree) (hp:SmallP s.past):ae Tryz.prog 25 [.agg (ZQ s)] [] (λr H=>r=.agg [.sl (s.tree.map ZN),.int .i64 s.next,.osl 28 8 0 s.past.length]/\∀i b,aa [(28,.cells 120 8 (s.past.map ZP))] i=some b->aa H i=some b):=by
 have hlen:=hp.len;unfold ZQ;refine ZF tK (Tryz.func25) rfl (λC=>?_);simp only[Tryz.ntmps25,Tryz.results25,go_sem];refine wG tK ?_;refine ZZ 1 rfl (rfl) ?_;simp only[go_sem];refine ZW ZM ?_;refine ZS rfl ?_;refine sN tK 2 ?_;refine sC Tryz.func54 (hf:=(kz s.tree ht)) (hk:=?_);refine sN tK 2 ?_;refine sB tK ?_;refine sW tK ?_;refine sE ?_;refine dS tK ?_;refine wKd ?_
 try simp only[go_sem,gA,gB,gC]
 refine wG tK ?_;refine ag (AA 28 8 3 z7 z7) ?_;refine ag (le_empty 28 120 8 z7) ?_;simp only[go_sem];refine ZL (λi:Nat=>i≤s.past.length) (λi=>s.past.length-i) (λi=>[(5,.any),(15,.int .i64 i),(16,.any),(17,.any),(18,.any),(19,.any),(20,.any),(21,.any),(22,.any),(23,.any),(24,.any),(25,.any),(26,.any),(27,.any),(28,.any),(29,.any),(30,.any)])
  (λi=>[(3,.cells 30 3 [[.sl (s.tree.map ZN),.int .i64 s.next,.osl 28 8 0 i]]),(28,.cells 120 8 ((s.past.take i).map ZP))]) 0 z8 ?_ λi hi=>?_
 ·simp only[go_sem];exact ZU w3 w3 v8
 simp only[go_sem];refine wG tK ?_;refine wD (λh=>?_) (λh=>?_)
 ·have hlt:i<s.past.length:=by simp at h;omega
  have hw:=wi1 (i:=i) z8;have hg:(s.past.map ZP).getD i []=ZP (s.past.getD i default):=Fam.getD hlt;have hs:=ff ZP hlt;have ha:=hp.each _ (YG hlt);generalize s.past.getD i default=x at *;refine wGq tK ?_ ?_ Qh
  ·simp[hg,ZP,hlt]
  refine ZZ 5 rfl (rfl) ?_;simp only[go_sem];refine ZW ZM ?_;refine ZS rfl ?_;refine sN tK 6 ?_;refine sC Tryz.func55 (hf:=(lg x.act ha)) (hk:=?_);simp only[go_sem,ZA];refine sB tK ?_;refine sW tK ?_;refine sE ?_;refine nC (bt 28 3 z6 j0) ?_;simp only[go_sem];refine dSq tK ?_ ?_
  ·simp[go_sem,rowsOf];refine ⟨by omega,by omega,λx hx y hy hr=>?_⟩;have h1:=List.mem_of_mem_take (List.mem_of_mem_take hx);have:=List.all_eq_true.1 (List.all_eq_true.1 (bx 28 s.past) x h1) y hy;simp only[Bool.not_eq_true',List.contains_eq_mem,decide_eq_false_iff_not] at this;exact this hr
  simp only[go_sem];refine dS tK ?_;refine dS tK ?_;refine wKd ?_
  try simp only[go_sem,gA,gB,gC]
  refine wG tK ?_ w5 k0;refine ZB ⟨i+1,by omega,by omega,ZU ?_ ?_ ?_⟩
  ·simp[go_sem]
  ·simp[go_sem,hs,ZP,List.take_take]
  ·simp only[go_sem]
 ·have e:i=s.past.length:=by simp at h;omega
  subst e;refine wG tK ?_;refine wT ?_;simp[go_sem]
def aM (a:Act):Bool:=a.kind==1||a.kind==2
def doA (s:Srv) (a:Act):Act:=if aM a then { a with fid:=s.next } else a
noncomputable def doE (s:Srv) (a:Act):Int:=aC s.tree (doA s a)
noncomputable def doS (s:Srv) (c:Int) (a:Act):Srv:=⟨aG s.tree (doA s a) ((s.past.length+1:Nat):Int),if aM a then s.next+1 else s.next,s.past++[⟨c,doA s a⟩]⟩
noncomputable def doR (s:Srv) (c:Int) (a:Act):AV:=if doE s a=0 then .tup [.agg (ZQ (doS s c a)),.int .i64 0] else .tup [.agg [.nils,.int .i64 0,.nils],.int .i64 (doE s a)]
theorem Hx (s:Srv) (c:Int) (a:Act) (hg:Good s.tree) (hp:SmallP s.past) (ha:ActFit a) (hn:s.next.natAbs≤90000000):ae Tryz.prog 61 [.agg (ZQ s),.int .i64 c,.agg (ZA a)] [] (λr _=>r=doR s c a):=by
 have hlen:=hp.len;have hw:IntKind.i64.wrap (s.next+1)=s.next+1:=Eng.wrap_small z8 z8;have hda:ActFit (doA s a):=by unfold doA;split;exact ⟨ha.name,ha.toName,ha.data⟩;exact ha
 have hv:=su s z8;have hap:=mP hg (doA s a) ((s.past.length+1:Nat):Int) hda;have hso:=ye s hg.small hp;have how:=lg (doA s a) hda.data;unfold oz at hap;unfold doR doS doE;unfold ZQ at hv hso ⊢;refine ZF tK (Tryz.func61) rfl (λC=>?_);simp only[Tryz.ntmps61,Tryz.results61,go_sem];refine wGq tK ?_ ?_ QV
 ·simp[ZA]
 refine ZZ 3 rfl (rfl) ?_;simp only[go_sem];refine wD (λh=>?_) (λh=>?_)
 ·have hm:aM a=true:=by unfold aM;revert h;cases (a.kind==1)<;>simp
  have hdo:doA s a={ a with fid:=s.next }:=by unfold doA;rw[if_pos hm]
  rw[hdo] at hap how ⊢;simp only[hm,if_true];generalize aC s.tree { a with fid:=s.next }=e at *;generalize aG s.tree { a with fid:=s.next } ((s.past.length+1:Nat):Int)=L at *;refine wG tK ?_
  by_cases he:e=0
  ·subst he;simp only[if_true] at hap ⊢;refine ZZ 5 rfl (rfl) ?_;simp only[go_sem];refine ZW ZM ?_;refine ZS rfl ?_;refine sN tK 4 ?_;refine sC Tryz.func96 (hf:=(hv)) (hk:=?_);refine sC Tryz.func64 (hf:=(hap)) (hk:=?_);refine sN tK 5 ?_;refine sE ?_;refine wKd ?_
   try simp only[go_sem,gA,gB,gC]
   refine wG tK ?_;refine wDF (hb:=y8) (hk:=?_);refine wG tK ?_;refine wCG [] 972 Tryz.func25 (hf:=(hso)) (hk:=?_);refine wG tK ?_;refine ZW ZM ?_;refine ZS rfl ?_;refine sN tK 4 ?_;refine sC Tryz.func55 (hf:=(how)) (hk:=?_);simp only[go_sem,ZA];refine sB tK ?_;refine sW tK ?_;refine sE ?_;refine nC (bt 1000 11 z6 j0) ?_;simp only[go_sem];refine dSq tK ?_ ?_
   ·simp[go_sem,rowsOf];refine ⟨by omega,λx hx y hy hr=>?_⟩;have:=List.all_eq_true.1 (List.all_eq_true.1 (bx 1000 s.past) (ZP x) (List.mem_map.2 ⟨x,hx,rfl⟩)) y hy;simp only[Bool.not_eq_true',List.contains_eq_mem,decide_eq_false_iff_not] at this;exact this hr
   simp only[go_sem];refine dS tK ?_;refine dS tK ?_;refine wKd ?_
   try simp only[go_sem,gA,gB,gC]
   refine wG tK ?_;refine wDT (hb:=(by simpa[aM] using hm)) (hk:=?_);refine wG tK ?_ w5 k0;refine ZZ 48 rfl Zb ?_;simp only[go_sem];refine wT ?_;rw[List.take_of_length_le y8];rfl
  ·simp only[he,if_false] at hap ⊢;refine ZZ 5 rfl (rfl) ?_;simp only[go_sem];refine ZW ZM ?_;refine ZS rfl ?_;refine sN tK 4 ?_;refine sC Tryz.func96 (hf:=(hv)) (hk:=?_);refine sC Tryz.func64 (hf:=(hap)) (hk:=?_);refine sN tK 5 ?_;refine sE ?_;refine wKd ?_
   try simp only[go_sem,gA,gB,gC]
   refine wG tK ?_;refine wDT (hb:=QI) (hk:=?_);refine wG tK ?_;refine wT ?_;rfl
 ·have hm:aM a=false:=by unfold aM;revert h;cases (a.kind==1)<;>simp
  have hdo:doA s a=a:=by unfold doA;rw[if_neg (by rw[hm];simp)]
  rw[hdo] at hap how ⊢;simp only[hm,Bool.false_eq_true,if_false];generalize aC s.tree a=e at *;generalize aG s.tree a ((s.past.length+1:Nat):Int)=L at *;refine wG tK ?_
  by_cases he:e=0
  ·subst he;simp only[if_true] at hap ⊢;refine ZZ 5 rfl (rfl) ?_;simp only[go_sem];refine ZW ZM ?_;refine ZS rfl ?_;refine sN tK 4 ?_;refine sC Tryz.func96 (hf:=(hv)) (hk:=?_);refine sC Tryz.func64 (hf:=(hap)) (hk:=?_);refine sN tK 5 ?_;refine sE ?_;refine wKd ?_
   try simp only[go_sem,gA,gB,gC]
   refine wG tK ?_;refine wDF (hb:=y8) (hk:=?_);refine wG tK ?_;refine wCG [] 972 Tryz.func25 (hf:=(hso)) (hk:=?_);refine wG tK ?_;refine ZW ZM ?_;refine ZS rfl ?_;refine sN tK 4 ?_;refine sC Tryz.func55 (hf:=(how)) (hk:=?_);simp only[go_sem,ZA];refine sB tK ?_;refine sW tK ?_;refine sE ?_;refine nC (bt 1000 11 z6 j0) ?_;simp only[go_sem];refine dSq tK ?_ ?_
   ·simp[go_sem,rowsOf];refine ⟨by omega,λx hx y hy hr=>?_⟩;have:=List.all_eq_true.1 (List.all_eq_true.1 (bx 1000 s.past) (ZP x) (List.mem_map.2 ⟨x,hx,rfl⟩)) y hy;simp only[Bool.not_eq_true',List.contains_eq_mem,decide_eq_false_iff_not] at this;exact this hr
   simp only[go_sem];refine dS tK ?_;refine dS tK ?_;refine wKd ?_
   try simp only[go_sem,gA,gB,gC]
   refine wG tK ?_;refine wDF (hb:=(by simpa[aM] using hm)) (hk:=?_);refine wG tK ?_;refine ZZ 48 rfl Zb ?_;simp only[go_sem];refine wT ?_;rw[List.take_of_length_le y8];rfl
  ·simp only[he,if_false] at hap ⊢;refine ZZ 5 rfl (rfl) ?_;simp only[go_sem];refine ZW ZM ?_;refine ZS rfl ?_;refine sN tK 4 ?_;refine sC Tryz.func96 (hf:=(hv)) (hk:=?_);refine sC Tryz.func64 (hf:=(hap)) (hk:=?_);refine sN tK 5 ?_;refine sE ?_;refine wKd ?_
   try simp only[go_sem,gA,gB,gC]
   refine wG tK ?_;refine wDT (hb:=QI) (hk:=?_);refine wG tK ?_;refine wT ?_;rfl
structure SmallK (l:List Kept):Prop where
 len:l.length≤100000000
 each:∀k,k∈l->k.node.Small
theorem SmallK.one {k:Kept} (h:k.node.Small):SmallK [k]:=⟨by simp,λx hx=>by rw[List.mem_singleton.1 hx];exact h⟩
theorem fb {n:Node} (h:n.Small):Small [n]:=⟨by simp,λx hx=>by rw[List.mem_singleton.1 hx];exact h⟩
theorem jJ (l:List Kept) (hl:SmallK l):ae Tryz.prog 45 [.sl (l.map ZK)] [] (λr H=>r=.osl 22 8 0 (l.map ZK).length/\∀i b,aa [(22,.cells 67 8 (l.map ZK))] i=some b->aa H i=some b):=by
 have hlen:=hl.len;refine ZF tK (Tryz.func45) rfl (λC=>?_);simp only[Tryz.ntmps45,Tryz.results45,go_sem];refine wG tK ?_;refine ZL (λi:Nat=>i≤l.length) (λi=>l.length-i) (λi=>[(3,.osl 22 8 0 i),(5,.any),(8,.int .i64 i),(9,.any),(10,.any),(11,.any),(12,.any),(13,.any),(14,.any),(15,.any),(16,.any),(17,.any),(18,.any),(19,.any),(20,.any),(21,.any),(22,.any),(23,.any),(24,.any)])
  (λi=>[(22,.cells 67 8 ((l.take i).map ZK))]) 0 z8 ?_ λi hi=>?_
 ·simp only[go_sem];exact ZU w3 w3 v8
 simp only[go_sem];refine wG tK ?_;refine wD (λh=>?_) (λh=>?_)
 ·have hlt:i<l.length:=by simp at h;omega
  have hn:=hl.each _ (YG hlt);have hg:(l.map ZK).getD i []=ZK (l.getD i default):=Fam.getD hlt;have hs:=ff ZK hlt;generalize l.getD i default=n at hn hg hs;refine wGq tK ?_ ?_ x7
  ·simp[hlt,ZK]
  refine ZZ 14 rfl (rfl) ?_;simp only[go_sem];refine wC Tryz.func54 (hf:=(kz [n.node] (fb hn))) (hk:=?_);have ht:List.take i (List.map ZK (List.take i l))=List.map ZK (List.take i l):=List.take_of_length_le k9;have hw:IntKind.i64.wrap ((i:Int)+1)=(i:Int)+1:=wrap_small z8 z8;refine wGq tK ?_ ?_ (by simp only[go_sem,ht,hw,ZN];try exact rfl)
  ·simp[rowsOf,ZN];omega
  refine ZB ⟨i+1,by omega,by omega,ZU ?_ ?_ ?_⟩
  ·simp[go_sem]
  ·simp[go_sem,hs,ZK]
  ·simp only[go_sem]
 ·have e:i=l.length:=by simp at h;omega
  subst e;refine wG tK ?_;refine wT ?_;simp[go_sem]
theorem qA (l:List Kept) (hl:SmallK l):ae Tryz.prog 45 [.sl (l.map ZK)] [] (λr _=>r=.sl (l.map ZK)):=ae.read (jJ l hl) (bb _)
theorem yX (k:Kept) (fid:Int):ae Tryz.prog 157 [.agg (ZK k),.rp [.int .i64 fid] 0] [] (λr _=>r=.bool (k.node.fid==fid)):=by
 unfold ZK;refine ZF tK (Tryz.func157) rfl (λC=>?_);simp only[Tryz.ntmps157,Tryz.results157,go_sem];refine wG tK ?_;refine wT ?_;simp
def bR (l:List Kept) (fid:Int):Option Nat:=l.findIdx? λk=>k.node.fid==fid
theorem ml (l:List Kept) (fid:Int) (hlen:l.length≤100000000):ae Tryz.prog 115 [.sl (l.map ZK),.int .i64 fid] [] (λr _=>r=.int .i64 (bZ (bR l fid))):=by
 refine ZF tK (Tryz.func115) rfl (λC=>?_);simp only[Tryz.ntmps115,Tryz.results115,go_sem];refine wG tK ?_;refine ZZ 3 rfl (rfl) ?_;simp only[go_sem];refine wC Tryz.func118 (hf:=(iF l hlen ⟨_,Go.Proofs.Tryz.func157,by kernel_rfl,rfl⟩ rfl (λx _=>yX x fid))) (hk:=?_);refine wG tK ?_;refine wT ?_;simp[bR]
def C3 (l:List Kept) (fid:Int):Bool:=l.any λk=>k.node.fid==fid
theorem HD (l:List Kept) (fid:Int) (hlen:l.length≤100000000):ae Tryz.prog 94 [.sl (l.map ZK),.int .i64 fid] [] (λr _=>r=.bool (C3 l fid)):=by
 refine ZF tK (Tryz.func94) rfl (λC=>?_);simp only[Tryz.ntmps94,Tryz.results94,go_sem];refine wG tK ?_;refine wC Tryz.func115 (hf:=(ml l fid hlen)) (hk:=?_);refine wG tK ?_;refine wT ?_;rw[bR,lE];rfl
theorem A4 (k:Kept):ae Tryz.prog 120 [.agg (ZK k)] [] (λr _=>r=.bool k.dirty):=by
 unfold ZK;refine ZF tK (Tryz.func120) rfl (λC=>?_);simp only[Tryz.ntmps120,Tryz.results120,go_sem];refine wG tK ?_;refine wT ?_;simp
theorem CC (l:List Kept) (hl:SmallK l):ae Tryz.prog 73 [.sl (l.map ZK)] [] (λr _=>r=.sl ((l.filter λk=>!k.dirty).map ZK)):=by
 refine ZF tK (Tryz.func73) rfl (λC=>?_);simp only[Tryz.ntmps73,Tryz.results73,go_sem];refine wG tK ?_;refine wCG [] 978 Tryz.func45 (hf:=(jJ l hl)) (hk:=?_);refine wG tK ?_;refine wCG [1000] 100 Tryz.func70 (hf:=(gR l hl.len 1000 ⟨_,Go.Proofs.Tryz.func120,by kernel_rfl,rfl⟩ rfl u4 (λx _=>A4 x))) (hk:=?_);refine wG tK ?_;refine ZZ 1100 rfl Qi ?_;simp only[go_sem];refine wT ?_;have hle:=List.length_filter_le (λk:Kept=>!k.dirty) l;generalize l.filter (λk=>!k.dirty)=d at *;rw[if_pos y8,gN y8]
theorem oS {l:List Kept} {fid:Int} {i:Nat} (h:bR l fid=some i):i<l.length:=(List.findIdx?_eq_some_iff_getElem.1 h).1
def vD (l:List Kept) (fid now:Int):List Kept:=match bR l fid with
 | none=>l
 | some i=>l.set i { l.getD i default with last:=now }
theorem gi {M:List Kept} {i:Nat} (h:i<M.length):(M.map ZK).getD i []=[.int .i64 (M.getD i default).node.fid,.bool (M.getD i default).node.dir,.sl ((M.getD i default).node.data.map ZY),.sl ((M.getD i default).node.entries.map ZE),.int .i64 (M.getD i default).node.version,.bool (M.getD i default).dirty,.int .i64 (M.getD i default).worth,.int .i64 (M.getD i default).last]:=by
 rw[Fam.getD h];rfl
theorem iX (M:List Kept) (i:Nat) (n:Kept):(M.map ZK).set i (ZK n)=(M.set i n).map ZK:=by rw[List.map_set]
def bD (at_:List Node) (k:Kept):Bool:=!k.dirty&&(!bf at_ k.node.fid||!(((aj at_ k.node.fid).getD au).version==k.node.version))
theorem A9 (at_:List Node) (k:Kept) (hat:Small at_):ae Tryz.prog 97 [.agg (ZK k),.rp [.sl (at_.map ZN)] 0] [] (λr _=>r=.bool (bD at_ k)):=by
 unfold ZK;refine ZF tK (Tryz.func97) rfl (λC=>?_);simp only[Tryz.ntmps97,Tryz.results97,go_sem];refine wG tK ?_;refine wC Tryz.func66 (hf:=(ee at_ k.node.fid hat)) (hk:=?_);simp only[go_sem,fY];unfold bD;generalize (aj at_ k.node.fid).getD au=n;generalize bf at_ k.node.fid=b;refine wGq tK ?_ ?_ w6
 ·simp[ZN];exact λh=>⟨h,λhb=>⟨h,hb⟩⟩
 refine wT ?_;cases k.dirty<;>cases b<;>rfl
theorem wz (l:List Kept) (at_:List Node) (hl:SmallK l) (hat:Small at_):ae Tryz.prog 62 [.sl (l.map ZK),.sl (at_.map ZN)] [] (λr _=>r=.sl ((l.filter λk=>!bD at_ k).map ZK)):=by
 refine ZF tK (Tryz.func62) rfl (λC=>?_);simp only[Tryz.ntmps62,Tryz.results62,go_sem];refine wG tK ?_;refine ZZ 3 rfl (rfl) ?_;simp only[go_sem];refine wCG [] 978 Tryz.func45 (hf:=(jJ l hl)) (hk:=?_);refine wG tK ?_;refine wCG [1000] 100 Tryz.func70 (hf:=(gR l hl.len 1000 ⟨_,Go.Proofs.Tryz.func97,by kernel_rfl,rfl⟩ (by simp[AV.aX]) u4 (λx _=>A9 at_ x hat))) (hk:=?_);refine wG tK ?_;refine ZZ 1100 rfl Qi ?_;simp only[go_sem];refine wT ?_;have hle:=List.length_filter_le (λk:Kept=>!bD at_ k) l;generalize l.filter (λk=>!bD at_ k)=d at *;rw[if_pos y8,gN y8]
def h_ (f:Nat->Int) (g:Nat->AV):Nat->List (Int×AV)
 | 0=>[]
 | i+1=>br (h_ f g i) (f i) (g i)
theorem ku (f:Nat->Int) (g:Nat->AV):∀i,(h_ f g i).Pairwise λa b=>a.1<b.1
 | 0=>List.Pairwise.nil
 | i+1=>ck (ku f g i)
theorem nO {f:Nat->Int} {g:Nat->AV} {k:Int}:∀{i},(∀j,j<i->f j≠k)->bg (h_ f g i) k=none
 | 0,_=>rfl
 | i+1,h=>by
  rw[h_,mn (ku f g i),if_neg (λe=>h i z8 e.symm)];exact nO λj hj=>h j z8
theorem nP {f:Nat->Int} {g:Nat->AV} {k:Int}:∀{i j},j<i->f j=k->(∀m,j<m->m<i->f m≠k)->bg (h_ f g i) k=some (g j)
 | 0,_,h,_,_=>by omega
 | i+1,j,h,he,hl=>by
  rw[h_,mn (ku f g i)]
  by_cases hj:j=i
  ·subst hj;rw[if_pos he.symm]
  ·rw[if_neg (λe=>hl i z8 z8 e.symm)];exact nP z8 he λm h1 h2=>hl m h1 z8
def wm (l:List Kept) (i:Nat):Int:=(l.getD i default).node.fid
def nt (l:List Kept) (n:Nat):Prop:=∀i,i<n->∀j,j<i->wm l j≠wm l i
instance (l:List Kept) (n:Nat):Decidable (nt l n):=by unfold nt;infer_instance
def qL (l:List Kept):Bool:=decide (nt l l.length)
def fW (l:List Node) (i:Nat):Int:=(l.getD i default).fid
def jN (l:List Node) (i:Nat):List (Int×AV):=h_ (fW l) (λi=>.agg (ZN (l.getD i default))) i
def Br (l:List Node):List (Int×AV):=jN l l.length
theorem Dn {l:List Node} (h:Up l) (k:Int):bg (Br l) k=(aj l k).map λn=>.agg (ZN n):=by
 unfold Br jN;cases e:aj l k with
 | none=>
  have hn:=(eu h).1 e;exact nO λj hj=>hn _ (YG hj)
 | some n=>
  obtain ⟨hm,hf⟩:=(ZO h).1 e;obtain ⟨j,hj⟩:=List.getElem?_of_mem hm;have hjl:j<l.length:=(List.getElem?_eq_some_iff.1 hj).1;have hjd:=ki hj;rw[nP (j:=j) hjl (by unfold fW;rw[hjd];exact hf) λm h1 h2 h3=>by
   have:=h.lt h1 h2;unfold fW at h3;rw[hjd,hf,h3] at this;omega]
  simp only[Option.map_some,hjd]
structure JS where
 l:List Node
 next:Int
 version:Int
 own:List (Int×Int)
 ours:List (Int×Bool)
 lost:List (Int×Bool)
def atF (m:List (Int×Int)) (f:Int):Int:=if gQ m f=true then Fh m f else f
def fT (j:JS) (a:Act):Bool:=(bO a).any (cK j.lost)
def eV (j:JS) (r:Rec) (a:Act):Bool:=
 if ((a.kind≠3/\a.kind≠4)\/r.version<0)\/cK j.ours a.fid=true then false
 else match aj j.l a.fid with
  | none=>true
  | some n=>n.version != r.version
def cm (j:JS) (r:Rec):List (Int×Int):=if aM r.act=true then br j.own r.act.fid j.next else j.own
def bE (j:JS) (r:Rec):Act:={ r.act with fid:=atF (cm j r) r.act.fid,dir:=atF (cm j r) r.act.dir,to:=if r.act.kind=5 then atF (cm j r) r.act.to else r.act.to }
noncomputable def iR (j:JS) (r:Rec):Int:=
 if fT j r.act=true then 14
 else if aM r.act=true/\(gQ j.own r.act.fid=true\/r.act.fid≥0) then 2
 else if eV { j with own:=cm j r } r (bE j r)=true then 13
 else aC j.l (bE j r)
noncomputable def eU (j:JS) (r:Rec):JS:=
 if fT j r.act=true then j
 else if aM r.act=true/\(gQ j.own r.act.fid=true\/r.act.fid≥0) then j
 else if eV { j with own:=cm j r } r (bE j r)=true then { j with own:=cm j r }
 else if aC j.l (bE j r)≠0 then { j with own:=if aM r.act=true then dX (cm j r) r.act.fid else cm j r }
 else { j with l:=aG j.l (bE j r) j.version,next:=if aM r.act=true then j.next+1 else j.next,version:=j.version+1,own:=cm j r }
def jn (j:JS) (r:Rec):Act:=
 if fT j r.act=true then r.act
 else if aM r.act=true/\(gQ j.own r.act.fid=true\/r.act.fid≥0) then r.act
 else bE j r
noncomputable def jo (j:JS) (r:Rec):Verdict:=⟨iR j r,if iR j r=0 then (bE j r).fid else 0⟩
structure JG where
 j:JS
 vs:List Verdict
 done:List Act
def uS (j:JS) (f:Int):JS:={ j with lost:=br j.lost f true }
def jb (m:List (Int×Bool)) (l:List Int):List (Int×Bool):=l.foldl (λm f=>br m f true) m
noncomputable def kY (s:JG) (r:Rec):JG:=
 if iR s.j r=0 then ⟨{ eU s.j r with ours:=jb (eU s.j r).ours (bO (jn s.j r)) },s.vs++[jo s.j r],s.done++[jn s.j r]⟩
 else ⟨uS (eU s.j r) r.act.fid,s.vs++[jo s.j r],s.done⟩
def gX (l:List Node) (next version:Int):JG:=⟨⟨l,next,version,[],[],[]⟩,[],[]⟩
noncomputable def bQ (l:List Node) (next version:Int) (log:List Rec):JG:=log.foldl kY (gX l next version)
noncomputable def kZ (s:Srv) (c:Int) (log:List Rec):Srv:=
 ⟨(bQ s.tree s.next ((s.past.length+1:Nat):Int) log).j.l,(bQ s.tree s.next ((s.past.length+1:Nat):Int) log).j.next,s.past++(bQ s.tree s.next ((s.past.length+1:Nat):Int) log).done.map λa=>⟨c,a⟩⟩
inductive Hist:List Past->List Node->Prop
 | nil:Hist [] [jV]
 | snoc {p:List Past} {t:List Node} (c:Int) (a:Act) (h:Hist p t) (ha:ActFit a) (he:aC t a=0):Hist (p++[⟨c,a⟩]) (aG t a ((p.length+1:Nat):Int))
theorem Hist.bM {p:List Past} {t:List Node} (h:Hist p t):Good t:=by
 induction h with
 | nil=>exact tz
 | snoc c a h ha he ih=>exact fm ih _ _ he
theorem Hist.st {p:List Past} {t:List Node} (h:Hist p t):∃st:Nat->List Node,st 0=[jV]/\st p.length=t /\
  ∀i,i<p.length->Good (st i)/\ActFit (p.getD i default).act/\aC (st i) (p.getD i default).act=0/\st (i+1)=aG (st i) (p.getD i default).act ((i+1:Nat):Int):=by
 induction h with
 | nil=>exact ⟨λ_=>[jV],rfl,rfl,λi hi=>by simp at hi⟩
 | @snoc p t c a h ha he ih=>
  obtain ⟨st,h0,h1,h2⟩:=ih;refine ⟨λi=>if i≤p.length then st i else aG t a ((p.length+1:Nat):Int),?_,?_,λi hi=>?_⟩
  ·simp[h0]
  ·show (if (p++[(⟨c,a⟩:Past)]).length≤p.length then _ else _)=_
   rw[if_neg y8]
  ·have hl:(p++[(⟨c,a⟩:Past)]).length=p.length+1:=by simp
   rw[hl] at hi
   by_cases e:i<p.length
   ·have hg:(p++[(⟨c,a⟩:Past)]).getD i default=p.getD i default:=by
     rw[List.getD_eq_getElem?_getD,List.getElem?_append_left e,List.getD_eq_getElem?_getD]
    rw[hg];simp only[show i≤p.length by omega,if_true,show i+1≤p.length by omega];exact h2 i e
   ·have e2:i=p.length:=by omega
    subst e2;have hg:(p++[(⟨c,a⟩:Past)]).getD p.length default=⟨c,a⟩:=by
     rw[List.getD_eq_getElem?_getD,List.getElem?_append_right (Nat.le_refl _)];simp
    rw[hg];simp only[Nat.le_refl,if_true,show ¬p.length+1≤p.length by omega,if_false,h1];exact ⟨h.bM,ha,he,trivial⟩
theorem qN {j:JS} {r:Rec} (h:ActFit r.act):ActFit (bE j r):=⟨h.name,h.toName,h.data⟩
structure JInv (p:List Past) (c:Int) (k:Nat) (n0:Int) (s:JG):Prop where
 hist:Hist (p++s.done.map λa=>⟨c,a⟩) s.j.l
 version:s.j.version=((p.length+s.done.length+1:Nat):Int)
 len:s.done.length≤k
 vlen:s.vs.length=k
 next:n0≤s.j.next/\s.j.next≤n0+k
theorem JInv.step {p:List Past} {c:Int} {k:Nat} {n0:Int} {s:JG} (h:JInv p c k n0 s) {r:Rec} (hr:ActFit r.act):JInv p c (k+1) n0 (kY s r):=by
 unfold kY;have h1:=h.next;have h2:=h.len;have h3:=h.vlen
 by_cases he:iR s.j r=0
 ·rw[if_pos he];unfold iR at he;split at he
  ·omega
  ·rename_i c1;split at he
   ·omega
   ·rename_i c2;split at he
    ·omega
    ·rename_i c3;have hJ:eU s.j r={ s.j with l:=aG s.j.l (bE s.j r) s.j.version,next:=if aM r.act=true then s.j.next+1 else s.j.next,version:=s.j.version+1,own:=cm s.j r }:=by
      unfold eU;rw[if_neg c1,if_neg c2,if_neg c3,if_neg QI]
     have hA:jn s.j r=bE s.j r:=by unfold jn;rw[if_neg c1,if_neg c2]
     rw[hJ,hA];refine ⟨?_,?_,?_,?_,?_⟩
     ·have:=Hist.snoc c (bE s.j r) h.hist (qN hr) he;rw[List.length_append,List.length_map,←h.version] at this;simpa using this
     ·have:=h.version;simp only[List.length_append,List.length_cons,List.length_nil];omega
     ·simp only[List.length_append,List.length_cons,List.length_nil];omega
     ·simp only[List.length_append,List.length_cons,List.length_nil];omega
     ·simp only;split<;>omega
 ·rw[if_neg he];have hJ:(eU s.j r).l=s.j.l/\(eU s.j r).next=s.j.next/\(eU s.j r).version=s.j.version:=by
   unfold eU;unfold iR at he;split
   ·exact ⟨rfl,rfl,rfl⟩
   ·rename_i c1;rw[if_neg c1] at he;split
    ·exact ⟨rfl,rfl,rfl⟩
    ·rename_i c2;rw[if_neg c2] at he;split
     ·exact ⟨rfl,rfl,rfl⟩
     ·rename_i c3;rw[if_neg c3] at he;rw[if_pos he];exact ⟨rfl,rfl,rfl⟩
  obtain ⟨j1,j2,j3⟩:=hJ;refine ⟨?_,?_,?_,?_,?_⟩
  ·show Hist _ (eU s.j r).l
   rw[j1];exact h.hist
  ·show (eU s.j r).version=_
   rw[j3];exact h.version
  ·show s.done.length≤k+1;omega
  ·simp only[List.length_append,List.length_cons,List.length_nil];omega
  ·show n0≤(eU s.j r).next/\(eU s.j r).next≤n0+((k+1:Nat):Int)
   rw[j2];omega
theorem JInv.start {p:List Past} {t:List Node} (h:Hist p t) (c n0:Int):JInv p c 0 n0 (gX t n0 ((p.length+1:Nat):Int)):=
 ⟨by simpa[gX] using h,by simp[gX],by simp[gX],by simp[gX],by simp[gX]⟩
theorem JInv.rC {p:List Past} {t:List Node} (h:Hist p t) (c n0:Int) (log:List Rec) (hl:∀r,r∈log->ActFit r.act):JInv p c log.length n0 (bQ t n0 ((p.length+1:Nat):Int) log):=by
 have key:∀(l:List Rec) (k:Nat) (s:JG),(∀r,r∈l->ActFit r.act)->JInv p c k n0 s->JInv p c (k+l.length) n0 (l.foldl kY s):=λl=>by
  induction l with
  | nil=>exact λk s _ h=>h
  | cons r l ih=>
   intro k s hl h;have:=ih (k+1) (kY s r) (λx hx=>hl x (List.mem_cons_of_mem _ hx)) (h.step (hl r List.mem_cons_self));rw[List.foldl_cons,List.length_cons,show k+(l.length+1)=k+1+l.length by omega];exact this
 have:=key log 0 _ hl (JInv.start h c n0)
 rwa [Nat.zero_add] at this
structure SrvOK (k:Nat) (s:Srv):Prop where
 hist:Hist s.past s.tree
 len:s.past.length≤k
 next:1≤s.next/\s.next≤1+k
theorem SrvOK.new:SrvOK 0 ⟨[jV],1,[]⟩:=⟨.nil,by simp,by simp⟩
theorem SrvOK.mono {k m:Nat} {s:Srv} (h:SrvOK k s) (hk:k≤m):SrvOK m s:=⟨h.hist,by have:=h.len;omega,by have:=h.next;omega⟩
theorem SrvOK.step {k:Nat} {s:Srv} (h:SrvOK k s) (c:Int) {a:Act} (ha:ActFit a) (he:doE s a=0):SrvOK (k+1) (doS s c a):=by
 have h1:=h.len;have h2:=h.next;have hf:ActFit (doA s a):=by unfold doA;split;exact ⟨ha.name,ha.toName,ha.data⟩;exact ha
 refine ⟨Hist.snoc c _ h.hist hf he,by simp[doS];omega,?_⟩
 show 1≤(if aM a=true then s.next+1 else s.next)/\(if aM a=true then s.next+1 else s.next)≤1+((k+1:Nat):Int)
 split<;>omega
theorem SrvOK.take {k:Nat} {s:Srv} (h:SrvOK k s) (c:Int) {log:List Rec} (hl:∀r,r∈log->ActFit r.act):SrvOK (k+log.length) (kZ s c log):=by
 have h1:=h.len;have h2:=h.next;have hj:=JInv.rC h.hist c s.next log hl;have h3:=hj.len;have h4:=hj.next;exact ⟨hj.hist,by simp only[kZ,List.length_append,List.length_map];omega,by show 1≤(bQ s.tree s.next _ log).j.next/\(bQ s.tree s.next _ log).j.next≤_;omega⟩
end La
namespace La
open Go Go.Eng
def Edge (l:List Node) (d:Int) (s:List UInt8) (f:Int):Prop:=∃n,n∈l/\n.fid=d/\(⟨s,f⟩:Entry)∈n.entries
def eR (l:List Node) (f:Int):Prop:=∃n,n∈l/\n.fid=f
structure Loc (n:Node):Prop where
 eup:EUp n.entries
 file:n.dir=false->n.entries=[]
 dirD:n.dir=true->n.data=[]
structure Wh (l:List Node):Prop where
 bM:Good l
 loc:∀n,n∈l->Loc n
 name:∀d s f,Edge l d s f->cq s=true
 there:∀d s f,Edge l d s f->eR l f
 noroot:∀d s f,Edge l d s f->f≠0
 par:∀f,eR l f->f≠0->∃d s,Edge l d s f
 one:∀d s d' s' f,Edge l d s f->Edge l d' s' f->d=d'/\s=s'
 root:∃n,n∈l/\n.fid=0/\n.dir=true
theorem ot {l:List Node} (h:Up l) {a b:Node} (ha:a∈l) (hb:b∈l) (hf:a.fid=b.fid):a=b:=by
 have h1:=(ZO h).2 ⟨ha,rfl⟩;have h2:=(ZO h).2 ⟨hb,hf.symm⟩;rw[h1] at h2;injection h2
theorem mf {l:List Node} (h:Up l) {n:Node} (hn:n∈l) {s:List UInt8} {f:Int}:Edge l n.fid s f↔(⟨s,f⟩:Entry)∈n.entries:=
 ⟨λ⟨m,hm,hf,he⟩=>by rw[ot h hm hn hf] at he;exact he,λhe=>⟨n,hn,rfl,he⟩⟩
theorem lq {l:List Node} (h:Up l) (n:Node) {d:Int} {s:List UInt8} {f:Int}:Edge (aD l n) d s f↔(d=n.fid/\(⟨s,f⟩:Entry)∈n.entries)\/(d≠n.fid/\Edge l d s f):=by
 obtain ⟨_,h2⟩:=bj h n;constructor
 ·rintro ⟨m,hm,rfl,he⟩
  rcases (h2 m).1 hm with rfl | ⟨hm,hne⟩
  ·exact .inl ⟨rfl,he⟩
  ·exact .inr ⟨hne,m,hm,rfl,he⟩
 ·rintro (⟨rfl,he⟩ | ⟨hne,m,hm,rfl,he⟩)
  ·exact ⟨n,(h2 n).2 (.inl rfl),rfl,he⟩
  ·exact ⟨m,(h2 m).2 (.inr ⟨hm,hne⟩),rfl,he⟩
theorem mg {l:List Node} (h:Up l) (n:Node) {f:Int}:eR (aD l n) f↔f=n.fid\/eR l f:=by
 obtain ⟨_,h2⟩:=bj h n;constructor
 ·rintro ⟨m,hm,rfl⟩
  rcases (h2 m).1 hm with rfl | ⟨hm,hne⟩
  ·exact .inl rfl
  ·exact .inr ⟨m,hm,rfl⟩
 ·rintro (rfl | ⟨m,hm,rfl⟩)
  ·exact ⟨n,(h2 n).2 (.inl rfl),rfl⟩
  ·by_cases hne:m.fid=n.fid
   ·exact ⟨n,(h2 n).2 (.inl rfl),hne.symm⟩
   ·exact ⟨m,(h2 m).2 (.inr ⟨hm,hne⟩),rfl⟩
theorem A7 {l:List Node} (k:Int) {d:Int} {s:List UInt8} {f:Int}:Edge (ep l k) d s f↔Edge l d s f/\d≠k:=by
 constructor
 ·rintro ⟨m,hm,rfl,he⟩;have:=List.mem_filter.1 hm;exact ⟨⟨m,this.1,rfl,he⟩,by simpa using this.2⟩
 ·rintro ⟨⟨m,hm,rfl,he⟩,hk⟩;exact ⟨m,List.mem_filter.2 ⟨hm,by simpa using hk⟩,rfl,he⟩
theorem CY {l:List Node} (k:Int) {f:Int}:eR (ep l k) f↔eR l f/\f≠k:=by
 constructor
 ·rintro ⟨m,hm,rfl⟩;have:=List.mem_filter.1 hm;exact ⟨⟨m,this.1,rfl⟩,by simpa using this.2⟩
 ·rintro ⟨⟨m,hm,rfl⟩,hk⟩;exact ⟨m,List.mem_filter.2 ⟨hm,by simpa using hk⟩,rfl⟩
theorem tr {l:List Entry} (h:EUp l) {s0:List UInt8} (hs:isE l s0=false) (f0:Int) {s:List UInt8} {f:Int}:(⟨s,f⟩:Entry)∈bs l s0 f0↔(s=s0/\f=f0)\/(⟨s,f⟩:Entry)∈l:=by
 rw[(jw h hs f0).2.1];simp
theorem tJ {l:List Entry} {s0 s:List UInt8} {f:Int}:(⟨s,f⟩:Entry)∈cW l s0↔(⟨s,f⟩:Entry)∈l/\s≠s0:=by
 unfold cW;rw[List.mem_filter];simp
theorem jK {l:List Entry} (h:EUp l) (s:List UInt8):EUp (cW l s):=h.sublist List.filter_sublist
theorem dd {n:Node} {s:List UInt8} (h:bL n s=0):cq s=true/\isE n.entries s=false:=by
 unfold bL at h;split at h
 ·rename_i h1;split at h
  ·omega
  ·rename_i h2;exact ⟨h1,by simpa using h2⟩
 ·omega
theorem Dw {l:List Node} {k:Int} (hu:Up l) (h:bf l k=false):¬eR l k:=by
 rintro ⟨m,hm,rfl⟩;have:=(ZO hu).2 ⟨hm,rfl⟩;rw[km this] at h;cases h
theorem AW {l:List Node} (h:Wh l) (a:Act) (v:Int) (he:cI l a=0):Wh (dw l a v):=by
 have hg:=oO h.bM a v he;have hu:=h.bM.up;have hL:dw l a v=aD (aD l { ax (aq l a.dir) a.name a.fid with version:=v }) (dv a v):=by unfold dw;rw[if_pos he]
 unfold cI at he;split at he
 case isFalse hd=>exact absurd he hd
 rename_i hd;obtain ⟨n,hf,hgn,hdir⟩:=ie hd;rw[hgn] at he hL;obtain ⟨hn,hnk⟩:=(ZO hu).1 hf;split at he
 case isFalse hr=>exact absurd he hr
 rename_i hro;obtain ⟨hnm,hfree⟩:=dd hro;split at he
 ·omega
 rename_i hnew;have hno:bf l a.fid=false/\a.fid≠0:=by simpa using hnew
 have hnin:=Dw hu hno.1;have hl:=h.loc n hn;have hu1:=(bj hu { ax n a.name a.fid with version:=v }).1;have hnf:n.fid≠a.fid:=λe=>hnin ⟨n,hn,e⟩
 rw[hL] at hg ⊢;have hE:∀d s f,Edge (aD (aD l { ax n a.name a.fid with version:=v }) (dv a v)) d s f↔Edge l d s f\/(d=n.fid/\s=a.name/\f=a.fid):=λd s f=>by
  rw[lq hu1,lq hu]
  show (d=a.fid/\(⟨s,f⟩:Entry)∈[])\/(d≠a.fid/\((d=n.fid/\(⟨s,f⟩:Entry)∈bs n.entries a.name a.fid)\/(d≠n.fid/\Edge l d s f)))↔_
  rw[tr hl.eup hfree];constructor
  ·rintro (⟨_,h0⟩ | ⟨h1,⟨rfl,h2 | h2⟩ | ⟨h2,h3⟩⟩)
   ·cases h0
   ·exact .inr ⟨rfl,h2⟩
   ·exact .inl ⟨n,hn,rfl,h2⟩
   ·exact .inl h3
  ·rintro (h1 | ⟨rfl,rfl,rfl⟩)
   ·refine .inr ⟨λe=>?_,?_⟩
    ·obtain ⟨m,hm,hmf,_⟩:=h1;exact hnin ⟨m,hm,hmf.trans e⟩
    ·by_cases hd:d=n.fid
     ·subst hd;exact .inl ⟨rfl,.inr ((mf hu hn).1 h1)⟩
     ·exact .inr ⟨hd,h1⟩
   ·exact .inr ⟨hnf,.inl ⟨rfl,.inl ⟨rfl,rfl⟩⟩⟩
 have hF:∀f,eR (aD (aD l { ax n a.name a.fid with version:=v }) (dv a v)) f↔f=a.fid\/eR l f:=λf=>by
  rw[mg hu1,mg hu]
  show f=a.fid\/f=n.fid\/eR l f↔_
  constructor
  ·rintro (h | rfl | h)
   ·exact .inl h
   ·exact .inr ⟨n,hn,rfl⟩
   ·exact .inr h
  ·rintro (h | h)
   ·exact .inl h
   ·exact .inr (.inr h)
 refine ⟨hg,λx hx=>?_,λd s f hd=>?_,λd s f hd=>?_,λd s f hd=>?_,λf hf h0=>?_,λd s d' s' f h1 h2=>?_,?_⟩
 ·rcases fC hx with rfl | hx
  ·exact ⟨by unfold EUp;simp[dv],λ_=>rfl,λ_=>rfl⟩
  ·rcases fC hx with rfl | hx
   ·exact ⟨(jw hl.eup hfree a.fid).1,λh0=>(by
     have h0:n.dir=false:=h0;rw[hdir] at h0;cases h0),hl.dirD⟩
   ·exact h.loc x hx
 ·rcases (hE d s f).1 hd with h1 | ⟨_,rfl,_⟩
  ·exact h.name d s f h1
  ·exact hnm
 ·rcases (hE d s f).1 hd with h1 | ⟨_,_,rfl⟩
  ·exact (hF f).2 (.inr (h.there d s f h1))
  ·exact (hF _).2 (.inl rfl)
 ·rcases (hE d s f).1 hd with h1 | ⟨_,_,rfl⟩
  ·exact h.noroot d s f h1
  ·exact hno.2
 ·rcases (hF f).1 hf with rfl | hf
  ·exact ⟨n.fid,a.name,(hE _ _ _).2 (.inr ⟨rfl,rfl,rfl⟩)⟩
  ·obtain ⟨d,s,h1⟩:=h.par f hf h0;exact ⟨d,s,(hE _ _ _).2 (.inl h1)⟩
 ·rcases (hE d s f).1 h1 with h1 | ⟨rfl,rfl,rfl⟩
  ·rcases (hE d' s' f).1 h2 with h2 | ⟨rfl,rfl,rfl⟩
   ·exact h.one d s d' s' f h1 h2
   ·exact absurd (h.there _ _ _ h1) hnin
  ·rcases (hE d' s' _).1 h2 with h2 | ⟨rfl,rfl,_⟩
   ·exact absurd (h.there _ _ _ h2) hnin
   ·exact ⟨rfl,rfl⟩
 ·obtain ⟨m,hm,hm0,hmd⟩:=h.root;have hmem:∀x,x∈aD l { ax n a.name a.fid with version:=v }->x.fid≠a.fid->x∈aD (aD l { ax n a.name a.fid with version:=v }) (dv a v):=λx hx hne=>((bj hu1 (dv a v)).2 x).2 (.inr ⟨hx,hne⟩)
  by_cases hmn:m.fid=n.fid
  ·refine ⟨{ ax n a.name a.fid with version:=v },hmem _ (((bj hu _).2 _).2 (.inl rfl)) hnf,hmn.symm.trans hm0,hdir⟩
  ·exact ⟨m,hmem _ (((bj hu _).2 _).2 (.inr ⟨hm,hmn⟩)) (by rw[hm0];exact λe=>hno.2 e.symm),hm0,hmd⟩
theorem D7 {l:List Node} (h:Wh l) (a:Act) (v:Int) (he:eE l a=0):Wh (ea l a v):=by
 have hg:=rv h.bM a v he;have hu:=h.bM.up;have hL:ea l a v=aD l { aq l a.fid with data:=a.data,version:=v }:=by unfold ea;rw[if_pos he]
 unfold eE at he;cases hf:aj l a.fid with
 | none=>rw[hf] at he;simp at he
 | some n=>
  rw[hf] at he;simp only at he;obtain ⟨hn,hnk⟩:=(ZO hu).1 hf;have hgn:aq l a.fid=n:=by unfold aq;rw[hf];rfl
  rw[hgn] at hL;split at he
  ·omega
  rename_i hdir;rw[hL] at hg ⊢;have hE:∀d s f,Edge (aD l { n with data:=a.data,version:=v }) d s f↔Edge l d s f:=λd s f=>by
   rw[lq hu]
   show (d=n.fid/\(⟨s,f⟩:Entry)∈n.entries)\/(d≠n.fid/\Edge l d s f)↔_
   constructor
   ·rintro (⟨rfl,h1⟩ | ⟨_,h1⟩)
    ·exact ⟨n,hn,rfl,h1⟩
    ·exact h1
   ·intro h1
    by_cases hd:d=n.fid
    ·subst hd;exact .inl ⟨rfl,(mf hu hn).1 h1⟩
    ·exact .inr ⟨hd,h1⟩
  have hF:∀f,eR (aD l { n with data:=a.data,version:=v }) f↔eR l f:=λf=>by
   rw[mg hu]
   show f=n.fid\/eR l f↔_
   constructor
   ·rintro (rfl | h)
    ·exact ⟨n,hn,rfl⟩
    ·exact h
   ·exact .inr
  refine ⟨hg,λx hx=>?_,λd s f hd=>h.name d s f ((hE _ _ _).1 hd),λd s f hd=>(hF _).2 (h.there d s f ((hE _ _ _).1 hd)),λd s f hd=>h.noroot d s f ((hE _ _ _).1 hd),λf hf h0=>?_,λd s d' s' f h1 h2=>h.one d s d' s' f ((hE _ _ _).1 h1) ((hE _ _ _).1 h2),?_⟩
  ·rcases fC hx with rfl | hx
   ·have hl:=h.loc n hn;exact ⟨hl.eup,hl.file,λh0=>absurd h0 hdir⟩
   ·exact h.loc x hx
  ·obtain ⟨d,s,h1⟩:=h.par f ((hF f).1 hf) h0;exact ⟨d,s,(hE _ _ _).2 h1⟩
  ·obtain ⟨m,hm,hm0,hmd⟩:=h.root;refine ⟨m,((bj hu _).2 m).2 (.inr ⟨hm,λe=>?_⟩),hm0,hmd⟩;have:m=n:=ot hu hm hn e;subst this;exact hdir hmd
theorem rJ {l:List Node} (h:Wh l) {a:Act} (he:bu l a=0):∃n,aj l a.dir=some n/\aq l a.dir=n/\n∈l/\n.fid=a.dir/\n.dir=true/\Edge l a.dir a.name a.fid:=by
 unfold bu at he;split at he
 case isFalse hd=>exact absurd he hd
 rename_i hd;obtain ⟨n,hf,hgn,hdir⟩:=ie hd;obtain ⟨hn,hnk⟩:=(ZO h.bM.up).1 hf;rw[hgn] at he;cases e:a_ n a.name with
 | none=>rw[e] at he;simp at he
 | some f=>
  rw[e] at he;simp only at he;split at he
  case isFalse hd=>omega
  rename_i hff;subst hff;exact ⟨n,hf,hgn,hn,hnk,hdir,n,hn,hnk,(YE (h.loc n hn).eup).1 e⟩
theorem tl {l:List Node} (hu:Up l) {n:Node} (hn:n∈l) (s0:List UInt8) (v:Int) {d:Int} {s:List UInt8} {f:Int}:Edge (aD l { az n s0 with version:=v }) d s f↔Edge l d s f/\¬(d=n.fid/\s=s0):=by
 rw[lq hu]
 show (d=n.fid/\(⟨s,f⟩:Entry)∈cW n.entries s0)\/(d≠n.fid/\Edge l d s f)↔_
 rw[tJ];constructor
 ·rintro (⟨rfl,h1,h2⟩ | ⟨h1,h2⟩)
  ·exact ⟨⟨n,hn,rfl,h1⟩,λh=>h2 h.2⟩
  ·exact ⟨h2,λh=>h1 h.1⟩
 ·rintro ⟨h1,h2⟩
  by_cases hd:d=n.fid
  ·subst hd;exact .inl ⟨rfl,(mf hu hn).1 h1,λe=>h2 ⟨rfl,e⟩⟩
  ·exact .inr ⟨hd,h1⟩
theorem Ck {l:List Node} (h:Wh l) (a:Act) (v:Int) (he:cD l a=0):Wh (cE l a v):=by
 have hg:=pE h.bM a v he;have hu:=h.bM.up;have hL:cE l a v=ep (aD l { az (aq l a.dir) a.name with version:=v }) a.fid:=by unfold cE;rw[if_pos he]
 unfold cD at he;split at he
 case isFalse hd=>exact absurd he hd
 rename_i hnd;obtain ⟨n,hf,hgn,hn,hnk,hdir,hed⟩:=rJ h hnd;rw[hgn] at hL;cases hx:aj l a.fid with
 | none=>rw[hx] at he;simp at he
 | some x=>
  rw[hx] at he;simp only at he;obtain ⟨hxm,hxf⟩:=(ZO hu).1 hx;have hxe:x.entries=[]:=by
   cases e:x.entries with
   | nil=>rfl
   | cons p q=>rw[e] at he;simp at he
  rw[hL] at hg ⊢;have hnoE:∀s f,¬Edge l a.fid s f:=λs f h1=>by
   rw[←hxf] at h1;have:=(mf hu hxm).1 h1;rw[hxe] at this;cases this
  have hE:∀d s f,Edge (ep (aD l { az n a.name with version:=v }) a.fid) d s f↔Edge l d s f/\¬(d=a.dir/\s=a.name):=λd s f=>by
   rw[A7,tl hu hn,hnk];constructor
   ·exact λh=>h.1
   ·exact λh=>⟨h,λe=>by subst e;exact hnoE s f h.1⟩
  have hF:∀f,eR (ep (aD l { az n a.name with version:=v }) a.fid) f↔eR l f/\f≠a.fid:=λf=>by
   rw[CY,mg hu]
   show (f=n.fid\/eR l f)/\f≠a.fid↔_
   constructor
   ·rintro ⟨rfl | h,h1⟩
    ·exact ⟨⟨n,hn,rfl⟩,h1⟩
    ·exact ⟨h,h1⟩
   ·rintro ⟨h,h1⟩;exact ⟨.inr h,h1⟩
  have hup1:=(bj hu { az n a.name with version:=v });refine ⟨hg,λx hx=>?_,λd s f hd=>h.name d s f ((hE _ _ _).1 hd).1,λd s f hd=>(hF _).2 ⟨h.there d s f ((hE _ _ _).1 hd).1,λe=>?_⟩,λd s f hd=>h.noroot d s f ((hE _ _ _).1 hd).1,λf hf h0=>?_,λd s d' s' f h1 h2=>h.one d s d' s' f ((hE _ _ _).1 h1).1 ((hE _ _ _).1 h2).1,?_⟩
  ·rcases fC (List.mem_filter.1 hx).1 with rfl | hx
   ·have hl:=h.loc n hn;exact ⟨jK hl.eup _,λh0=>by
     show cW n.entries a.name=[]
     rw[hl.file h0];rfl,hl.dirD⟩
   ·exact h.loc x hx
  ·subst e;obtain ⟨h1,h2⟩:=(hE _ _ _).1 hd;exact h2 (h.one _ _ _ _ _ h1 hed)
  ·obtain ⟨h1,h2⟩:=(hF f).1 hf;obtain ⟨d,s,h3⟩:=h.par f h1 h0;refine ⟨d,s,(hE _ _ _).2 ⟨h3,λe=>?_⟩⟩;obtain ⟨rfl,rfl⟩:=e;obtain ⟨m,hm,hmf,hme⟩:=hed;obtain ⟨m',hm',hmf',hme'⟩:=h3;have:m=m':=ot hu hm hm' (hmf.trans hmf'.symm);subst this;have:=(h.loc m hm).eup.same hme hme' rfl;injection this with _ h5
   exact h2 h5.symm
  ·obtain ⟨m,hm,hm0,hmd⟩:=h.root;have h0:(0:Int)≠a.fid:=λe=>h.noroot _ _ _ hed e.symm
   by_cases hmn:m.fid=n.fid
   ·exact ⟨{ az n a.name with version:=v },List.mem_filter.2 ⟨(hup1.2 _).2 (.inl rfl),by
     show (!(n.fid==a.fid))=true
     rw[←hmn,hm0];simpa using h0⟩,hmn.symm.trans hm0,hdir⟩
   ·exact ⟨m,List.mem_filter.2 ⟨(hup1.2 _).2 (.inr ⟨hm,hmn⟩),by rw[hm0];simpa using h0⟩,hm0,hmd⟩
theorem Cl {l:List Node} (h:Wh l) (a:Act) (v:Int) (he:da l a=0):Wh (cS l a v):=by
 have hg:=pF h.bM a v he;have hu:=h.bM.up;have hL:cS l a v=aD (if a.to=a.dir then l else aD l { az (aq l a.dir) a.name with version:=v }) { ax (toN l a) a.toName a.fid with version:=v }:=by unfold cS;rw[if_pos he]
 unfold da at he;split at he
 case isFalse hd=>exact absurd he hd
 rename_i hnd;obtain ⟨n,hf,hgn,hn,hnk,hdir,hed⟩:=rJ h hnd;split at he
 case isFalse hd=>exact absurd he hd
 rename_i hdt;obtain ⟨t,htf,htg,htdir⟩:=ie hdt;obtain ⟨htm,htk⟩:=(ZO hu).1 htf;split at he
 case isFalse hd=>exact absurd he hd
 rename_i hro;obtain ⟨hnm,hfree⟩:=dd hro;rw[hgn] at hL;rw[hL] at hg ⊢
 -- the directory that gets the name
 have hT:(toN l a).fid=a.to/\(toN l a).dir=true/\EUp (toN l a).entries/\((toN l a).dir=true->(toN l a).data=[])/\∀s f,(⟨s,f⟩:Entry)∈(toN l a).entries↔Edge l a.to s f/\¬(a.to=a.dir/\s=a.name):=by
  unfold toN;split
  ·rename_i htd;rw[hgn];have hl:=h.loc n hn;refine ⟨hnk.trans htd.symm,hdir,jK hl.eup _,hl.dirD,λs f=>?_⟩
   show (⟨s,f⟩:Entry)∈cW n.entries a.name↔_
   rw[tJ,htd,←hnk,mf hu hn];simp
  ·rename_i htd;rw[htg];have hl:=h.loc t htm;refine ⟨htk,htdir,hl.eup,hl.dirD,λs f=>?_⟩;rw[←htk,mf hu htm];constructor
   ·exact λh=>⟨h,λe=>htd (htk.symm.trans e.1)⟩
   ·exact λh=>h.1
 obtain ⟨hTf,hTd,hTe,hTda,hTm⟩:=hT;generalize hl1:(if a.to=a.dir then l else aD l { az n a.name with version:=v })=l1 at hg ⊢;have hu1:Up l1:=by subst hl1;split;exact hu;exact (bj hu _).1
 have hE1:∀d s f,d≠a.to->(Edge l1 d s f↔Edge l d s f/\¬(d=a.dir/\s=a.name)):=λd s f hd=>by
  subst hl1;split
  ·rename_i htd;exact ⟨λh=>⟨h,λe=>hd (e.1.trans htd.symm)⟩,λh=>h.1⟩
  ·rw[tl hu hn,hnk]
 have hF1:∀f,eR l1 f↔eR l f:=λf=>by
  subst hl1;split
  ·exact Iff.rfl
  ·rw[mg hu]
   show f=n.fid\/eR l f↔_
   exact ⟨λh=>h.elim (λe=>⟨n,hn,e.symm⟩) id,.inr⟩
 have hE:∀d s f,Edge (aD l1 { ax (toN l a) a.toName a.fid with version:=v }) d s f↔(Edge l d s f/\¬(d=a.dir/\s=a.name))\/(d=a.to/\s=a.toName/\f=a.fid):=λd s f=>by
  rw[lq hu1]
  show (d=(toN l a).fid/\(⟨s,f⟩:Entry)∈bs (toN l a).entries a.toName a.fid)\/(d≠(toN l a).fid/\Edge l1 d s f)↔_
  rw[tr hTe hfree,hTm,hTf];constructor
  ·rintro (⟨rfl,h1 | h1⟩ | ⟨h1,h2⟩)
   ·exact .inr ⟨rfl,h1⟩
   ·exact .inl h1
   ·exact .inl ((hE1 d s f h1).1 h2)
  ·rintro (h1 | ⟨rfl,h1⟩)
   ·by_cases hd:d=a.to
    ·subst hd;exact .inl ⟨rfl,.inr h1⟩
    ·exact .inr ⟨hd,(hE1 d s f hd).2 h1⟩
   ·exact .inl ⟨rfl,.inl h1⟩
 have hF:∀f,eR (aD l1 { ax (toN l a) a.toName a.fid with version:=v }) f↔eR l f:=λf=>by
  rw[mg hu1,hF1]
  show f=(toN l a).fid\/eR l f↔_
  rw[hTf];exact ⟨λh=>h.elim (λe=>⟨t,htm,htk.trans e.symm⟩) id,.inr⟩
 have hthere:=h.there _ _ _ hed
 -- who leads to the fid that moves: its old place alone
 have hold:∀d s,Edge l d s a.fid->d=a.dir/\s=a.name:=λd s h1=>h.one _ _ _ _ _ h1 hed
 refine ⟨hg,λx hx=>?_,λd s f hd=>?_,λd s f hd=>?_,λd s f hd=>?_,λf hf h0=>?_,λd s d' s' f h1 h2=>?_,?_⟩
 ·rcases fC hx with rfl | hx
  ·exact ⟨(jw hTe hfree a.fid).1,λh0=>(by
    have h0:(toN l a).dir=false:=h0;rw[hTd] at h0;cases h0),hTda⟩
  ·subst hl1;split at hx
   ·exact h.loc x hx
   ·rcases fC hx with rfl | hx
    ·have hl:=h.loc n hn;exact ⟨jK hl.eup _,λh0=>by
      show cW n.entries a.name=[]
      rw[hl.file h0];rfl,hl.dirD⟩
    ·exact h.loc x hx
 ·rcases (hE d s f).1 hd with h1 | ⟨_,rfl,_⟩
  ·exact h.name d s f h1.1
  ·exact hnm
 ·rcases (hE d s f).1 hd with h1 | ⟨_,_,rfl⟩
  ·exact (hF f).2 (h.there d s f h1.1)
  ·exact (hF _).2 hthere
 ·rcases (hE d s f).1 hd with h1 | ⟨_,_,rfl⟩
  ·exact h.noroot d s f h1.1
  ·exact h.noroot _ _ _ hed
 ·by_cases hff:f=a.fid
  ·subst hff;exact ⟨a.to,a.toName,(hE _ _ _).2 (.inr ⟨rfl,rfl,rfl⟩)⟩
  ·obtain ⟨d,s,h1⟩:=h.par f ((hF f).1 hf) h0;refine ⟨d,s,(hE _ _ _).2 (.inl ⟨h1,λe=>?_⟩)⟩;obtain ⟨rfl,rfl⟩:=e;obtain ⟨m,hm,hmf,hme⟩:=hed;obtain ⟨m',hm',hmf',hme'⟩:=h1;have:m=m':=ot hu hm hm' (hmf.trans hmf'.symm);subst this;have:=(h.loc m hm).eup.same hme hme' rfl;injection this with _ h5
   exact hff h5.symm
 ·rcases (hE d s f).1 h1 with h1 | ⟨rfl,rfl,rfl⟩
  ·rcases (hE d' s' f).1 h2 with h2 | ⟨rfl,rfl,rfl⟩
   ·exact h.one d s d' s' f h1.1 h2.1
   ·exact absurd (hold d s h1.1) h1.2
  ·rcases (hE d' s' _).1 h2 with h2 | ⟨rfl,rfl,_⟩
   ·exact absurd (hold d' s' h2.1) h2.2
   ·exact ⟨rfl,rfl⟩
 ·obtain ⟨m,hm,hm0,hmd⟩:=h.root
  by_cases hmt:m.fid=a.to
  ·exact ⟨_,((bj hu1 _).2 _).2 (.inl rfl),hTf.trans (hmt.symm.trans hm0),hTd⟩
  ·have hml1:∃x,x∈l1/\x.fid=0/\x.dir=true:=by
    subst hl1;split
    ·exact ⟨m,hm,hm0,hmd⟩
    ·by_cases hmn:m.fid=n.fid
     ·exact ⟨{ az n a.name with version:=v },((bj hu _).2 _).2 (.inl rfl),hmn.symm.trans hm0,hdir⟩
     ·exact ⟨m,((bj hu _).2 _).2 (.inr ⟨hm,hmn⟩),hm0,hmd⟩
   obtain ⟨x,hx,hx0,hxd⟩:=hml1;exact ⟨x,((bj hu1 _).2 _).2 (.inr ⟨hx,by
    show x.fid≠(toN l a).fid
    rw[hTf,hx0,←hm0];exact hmt⟩),hx0,hxd⟩
theorem D6 {l:List Node} (h:Wh l) (a:Act) (v:Int) (he:aC l a=0):Wh (aG l a v):=by
 unfold aC at he;unfold aG;split at he
 ·rename_i h1;rw[if_pos h1];exact AW h a v he
 ·rename_i h1;rw[if_neg h1];split at he
  ·rename_i h2;rw[if_pos h2];exact AW h a v he
  ·rename_i h2;rw[if_neg h2];split at he
   ·rename_i h3;rw[if_pos h3];exact D7 h a v he
   ·rename_i h3;rw[if_neg h3];split at he
    ·rename_i h4;rw[if_pos h4];exact Ck h a v he
    ·rename_i h4;rw[if_neg h4];split at he
     ·rename_i h5;rw[if_pos h5];exact Cl h a v he
     ·omega
theorem G5:Wh [jV]:=by
 have hE:∀d s f,¬Edge [jV] d s f:=λd s f ⟨n,hn,_,he⟩=>by rw[List.mem_singleton.1 hn] at he;cases he
 exact ⟨tz,λn hn=>by rw[List.mem_singleton.1 hn];exact ⟨by unfold EUp;simp[jV],λ_=>rfl,λ_=>rfl⟩,λd s f h=>absurd h (hE d s f),λd s f h=>absurd h (hE d s f),λd s f h=>absurd h (hE d s f),
  λf ⟨n,hn,hf⟩ h0=>by rw[List.mem_singleton.1 hn] at hf;exact absurd hf.symm h0,λd s d' s' f h=>absurd h (hE d s f),⟨jV,List.mem_singleton.2 rfl,rfl,rfl⟩⟩
theorem Hist.whole {p:List Past} {t:List Node} (h:Hist p t):Wh t:=by
 induction h with
 | nil=>exact G5
 | snoc c a h ha he ih=>exact D6 ih _ _ he
def iY (l:List Node):Nat->List (Int×Node)
 | 0=>[]
 | i+1=>br (iY l i) (fW l i) (l.getD i default)
def bB (l:List Node):List (Int×Node):=iY l l.length
theorem xp (l:List Node):∀i,jN l i=mN (iY l i)
 | 0=>rfl
 | i+1=>by
  have ih:=xp l i
  show br (jN l i) (fW l i) _=_
  rw[ih,uV];rfl
theorem uW (l:List Node):Br l=mN (bB l):=xp l l.length
theorem bp (l:List Node):eb (bB l):=by
 have:∀i,eb (iY l i):=λi=>by
  induction i with
  | zero=>exact List.Pairwise.nil
  | succ i ih=>exact ck ih
 exact this _
theorem cu {l:List Node} (h:Up l) (k:Int):bg (bB l) k=aj l k:=by
 have h1:=Dn h k;rw[uW,gS] at h1;cases e:bg (bB l) k with
 | none=>
  rw[e] at h1;cases e2:aj l k with
  | none=>rfl
  | some n=>rw[e2] at h1;cases h1
 | some m=>
  rw[e] at h1;cases e2:aj l k with
  | none=>rw[e2] at h1;cases h1
  | some n=>
   rw[e2] at h1;simp only[Option.map_some,Option.some.injEq,AV.agg.injEq] at h1
   -- the same nodes, as both come from the list
   have hm:∀i,i≤l.length->∀p,p∈iY l i->p.2∈l/\p.2.fid=p.1:=λi=>by
    induction i with
    | zero=>intro _ p hp;cases hp
    | succ i ih=>
     intro hi p hp;have hr:eb (iY l i):=by
      have:∀j,eb (iY l j):=λj=>by
       induction j with
       | zero=>exact List.Pairwise.nil
       | succ j ihj=>exact ck ihj
      exact this i
     rcases (bS hr p.1 p.2).1 hp with ⟨h1,h2⟩ | ⟨_,h2⟩
     ·rw[h1,h2];exact ⟨YG z8,rfl⟩
     ·exact ih z8 p h2
   obtain ⟨q1,q2⟩:=hm _ (Nat.le_refl _) _ (cQ e);rw[←e2];exact ((ZO h).2 ⟨q1,q2⟩).symm
theorem iH (l:List Node):∀i,eb (iY l i)
 | 0=>List.Pairwise.nil
 | i+1=>ck (iH l i)
theorem oY (l:List Node):∀i,i≤l.length->∀p,p∈iY l i->p.2∈l
 | 0,_,p,hp=>by cases hp
 | i+1,hi,p,hp=>by
  rcases (bS (iH l i) p.1 p.2).1 hp with ⟨h1,h2⟩ | ⟨_,h2⟩
  ·rw[h2];exact YG z8
  ·exact oY l i z8 p h2
theorem tN (l:List Node):∀i,(iY l i).length≤i
 | 0=>Nat.le_refl _
 | i+1=>by
  have h1:=tN l i;have h2:=iZ (n:=fW l i) (v:=l.getD i default) (iH l i)
  show (br (iY l i) (fW l i) (l.getD i default)).length≤i+1
  rw[h2];cases (bg (iY l i) (fW l i)).isSome<;>simp<;>omega
theorem wy {α:Type} {f:α->List Int} {k:Nat}:∀{l:List α},(∀x,x∈l->(f x).length≤k)->(l.flatMap f).length≤k*l.length
 | [],_=>by simp
 | x::r,h=>by
  have h1:=wy (l:=r) λy hy=>h y (List.mem_cons_of_mem _ hy)
  have h2:=h x List.mem_cons_self;simp only[List.flatMap_cons,List.length_append,List.length_cons,Nat.mul_add,Nat.mul_one];omega
theorem yC {l:List Node} {k:Nat} (h:∀n,n∈l->n.entries.length≤k):(nu (bB l)).length≤k*l.length:=by
 have h1:(nu (bB l)).length≤k*(bB l).length:=wy λp hp=>by
  rw[List.length_map];exact h _ (oY l _ (Nat.le_refl _) p hp)
 exact Nat.le_trans h1 (Nat.mul_le_mul_left _ (tN l _))
end La
