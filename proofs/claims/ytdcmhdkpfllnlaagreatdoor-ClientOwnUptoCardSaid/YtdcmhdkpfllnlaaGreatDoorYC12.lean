/- Texts of this claim, part 12: Aux, Maps, PBfs, Hof2, Enter, Doer, SameN, PutsS. No condition. -/
import Derived.Test.YtdcmhdkpfllnlaaGreatDoorYC10
set_option maxRecDepth 10000
set_option maxHeartbeats 4000000
set_option linter.unusedSimpArgs false
set_option linter.unusedVariables false
namespace La
open Go Go.Eng Go.Proofs
theorem mh {α:Type} {p:α->Bool} (l:List α):decide (ct (l.findIdx? p)≥0)=l.any p:=by
 cases h:l.findIdx? p with
 | none=>
  rw[YK] at h;have:l.any p=false:=by rw[List.any_eq_false];intro x hx;simp[h x hx]
  rw[this];rfl
 | some k=>
  have:l.any p=true:=by
   obtain ⟨hk,h1,_⟩:=YM.1 h;exact List.any_eq_true.2 ⟨_,Yb hk,h1⟩
  rw[this];simp[ct]
theorem fK:∀{l:List AV},(l.all AV.bc)=true->∃q,(∀h,fA h l=some (q,l))/\q
 | [],_=>⟨True,λ_=>rfl,trivial⟩
 | x::r,hp=>by
  simp only[List.all_cons,Bool.and_eq_true] at hp;obtain ⟨q,h1,h2⟩:=fK hp.2;have hx:∀h,view h x=some (True,x):=λh=>by
   cases x with
   | osl=>cases hp.1
   | ptr=>cases hp.1
   | mp=>cases hp.1
   | fn=>cases hp.1
   | agg=>cases hp.1
   | any=>cases hp.1
   | tup=>cases hp.1
   | cnd=>cases hp.1
   | exs=>cases hp.1
   | _=>rfl
  exact ⟨True/\q,λh=>by simp only[fA,hx,h1],trivial,h2⟩
theorem cq:∀{l:List AV},(l.all AV.bc)=true->aE l=[]
 | [],_=>rfl
 | x::r,hp=>by
  simp only[List.all_cons,Bool.and_eq_true] at hp;have hx:refs x=[]:=by cases x<;>first | rfl | cases hp.1
  simp only[aE,hx,cq hp.2,List.append_nil]
theorem ff {α:Type} {l:List α} {p:α->Bool} {j:Nat} (h:l.findIdx? p=some j):(l.take (j+1)).filter (λx=>!p x)=l.take j:=by
 obtain ⟨hk,h1,h2⟩:=YM.1 h;rw[List.take_succ_eq_append_getElem hk,List.filter_append];have e1:(l.take j).filter (λx=>!p x)=l.take j:=YR.2 λx hx=>by
  obtain ⟨i,hi⟩:=W8 hx;rw[YL] at hi;split at hi
  ·rename_i hij;have:=h2 i hij;have e:l[i]? = some l[i]:=Ww z8;rw[e] at hi;injection hi with hi
   rw[←hi];simpa using this
  ·cases hi
 rw[e1];simp[h1]
structure DelInv {α:Type} (p:α->Bool) (l:List α) (j:Nat) (L:List α):Prop where
 le:j≤l.length
 len:L.length=l.length
 drop:L.drop j=l.drop j
 take:L.take ((l.take j).filter λx=>!p x).length=(l.take j).filter λx=>!p x
 lt:((l.take j).filter λx=>!p x).length<j
theorem DelInv.start {α:Type} {p:α->Bool} {l:List α} {k:Nat} (h:l.findIdx? p=some k):DelInv p l (k+1) l:=by
 have hk:k<l.length:=(YM.1 h).1;have e:=ff h;have el:(l.take k).length=k:=by simp;omega
 refine ⟨hk,rfl,rfl,?_,?_⟩
 ·rw[e,el]
 ·rw[e,el];omega
theorem DelInv.get {α:Type} [Inhabited α] {p:α->Bool} {l L:List α} {j:Nat} (h:DelInv p l j L) (hj:j<l.length):L.getD j default=l.getD j default:=by
 have:=h.drop;rw[bT hj,bT (show j<L.length by rw[h.len];exact hj)] at this;injection this
theorem DelInv.skip {α:Type} [Inhabited α] {p:α->Bool} {l L:List α} {j:Nat} (h:DelInv p l j L) (hj:j<l.length) (hp:p (l.getD j default)=true):DelInv p l (j+1) L:=by
 have e:(l.take (j+1)).filter (λx=>!p x)=(l.take j).filter λx=>!p x:=by
  rw[ZT hj,List.filter_append];simp only[List.filter_cons,hp,List.filter_nil,Bool.not_true,Bool.false_eq_true,if_false,List.append_nil]
 refine ⟨hj,h.len,?_,?_,?_⟩
 ·rw[←List.drop_drop,←List.drop_drop,h.drop]
 ·rw[e];exact h.take
 ·rw[e];have:=h.lt;omega
theorem DelInv.ED {α:Type} [Inhabited α] {p:α->Bool} {l L:List α} {j:Nat} (h:DelInv p l j L) (hj:j<l.length) (hp:p (l.getD j default)=false) :
  DelInv p l (j+1) (L.set ((l.take j).filter λx=>!p x).length (l.getD j default))/\((l.take (j+1)).filter λx=>!p x).length=((l.take j).filter λx=>!p x).length+1:=by
 have e:(l.take (j+1)).filter (λx=>!p x)=(l.take j).filter (λx=>!p x)++[l.getD j default]:=by
  rw[ZT hj,List.filter_append];simp only[List.filter_cons,hp,List.filter_nil,Bool.not_false,if_true]
 have hlt:=h.lt;have hlen:=h.len;have htk:=h.take;generalize hd:(l.take j).filter (λx=>!p x)=d at *;refine ⟨⟨hj,by simp[hlen],?_,?_,?_⟩,by rw[e];simp⟩
 ·have:(L.set d.length (l.getD j default)).drop (j+1)=L.drop (j+1):=by
   rw[List.drop_set];rw[if_pos z8]
  rw[this,←List.drop_drop,←List.drop_drop,h.drop]
 ·rw[e];simp only[List.length_append,List.length_cons,List.length_nil,YP];rw[List.take_succ_eq_append_getElem j0,List.take_set_of_le (W7 _),htk];simp
 ·rw[e];simp;omega
theorem DelInv.fin {α:Type} {p:α->Bool} {l L:List α} (h:DelInv p l l.length L):L.take (l.filter λx=>!p x).length=l.filter λx=>!p x:=by
 have:=h.take
 rwa [W2] at this
theorem po {α:Type} (f:α->List AV) (l:List α) (i:Nat) (x:α):(l.map f).set i (f x)=(l.set i x).map f:=by rw[List.map_set]
theorem ja {α:Type} (f:α->List AV) {L:List α} {d:List α} (z:List AV) (h:L.take d.length=d) (hd:d.length≤L.length) :
  bb (L.map f) d.length (List.replicate (L.length-d.length) z)=d.map f++List.replicate (L.length-d.length) z:=by
 unfold bb;rw[←Yt,h,List.drop_eq_nil_of_le j0,List.append_nil]
@[go_sem,simp] theorem Hq (e s:Nat) (a b:List (List AV)):Eng.aG (.cells e s (a++b))=Eng.aG (.cells e s a)++Eng.aG (.cells e s b):=by
 simp only[Eng.aG,List.flatMap_append]
@[go_sem,simp] theorem JQ (e s n:Nat) (z:List AV) (h:aE z=[]):Eng.aG (.cells e s (List.replicate n z))=[]:=by
 simp only[Eng.aG]
 induction n with
 | zero=>rfl
 | succ n ih=>simp only[List.replicate_succ,List.flatMap_cons,h,ih,List.append_nil]
attribute [go_sem] List.map_append List.map_replicate
theorem ig {α:Type} {a b:List α} {n:Nat} (h:n=a.length):(a++b).take n=a:=by subst h;simp
theorem jn (n:Nat) {z:List AV} (h:(z.all AV.bc)=true):((List.replicate n z).all λrow=>row.all AV.bc)=true:=by
 rw[List.all_eq_true];intro row hr;rw[(Yy.1 hr).2];exact h
theorem mo {α β:Type} (g:α->β):∀(m:List (Int×α)) (f:Int),bl (m.map λp=>(p.1,g p.2)) f=(bl m f).map g
 | [],_=>rfl
 | p::r,f=>by
  simp only[List.map_cons,bl,mo g r f];split<;>rfl
theorem oQ {α β:Type} (g:α->β):∀(m:List (Int×α)) (f:Int) (v:α),bx (m.map λp=>(p.1,g p.2)) f (g v)=(bx m f v).map λp=>(p.1,g p.2)
 | [],_,_=>rfl
 | p::r,f,v=>by
  simp only[List.map_cons,bx,oQ g r f v];split
  ·rfl
  ·split<;>rfl
theorem EM {α β:Type} (g:α->β) (m:List (Int×α)) (f:Int):eB (m.map λp=>(p.1,g p.2)) f=(eB m f).map λp=>(p.1,g p.2):=by
 unfold eB;rw[List.filter_map];rfl
def mI (m:List (Int×Int)):List (Int×AV):=m.map λp=>(p.1,.int .i64 p.2)
def mB (m:List (Int×Bool)):List (Int×AV):=m.map λp=>(p.1,.bool p.2)
def cT (m:List (Int×Bool)) (f:Int):Bool:=(bl m f).getD false
def GL (m:List (Int×Int)) (f:Int):Int:=(bl m f).getD 0
def iq (m:List (Int×Int)) (f:Int):Bool:=(bl m f).isSome
@[go_sem] theorem Ka (m:List (Int×Int)) (f:Int):(bl (mI m) f).getD (.int .i64 0)=.int .i64 (GL m f):=by
 unfold mI GL;rw[mo (λx=>AV.int .i64 x)];cases bl m f<;>rfl
@[go_sem] theorem Kb (m:List (Int×Int)) (f:Int):(bl (mI m) f).isSome=iq m f:=by
 unfold mI iq;rw[mo (λx=>AV.int .i64 x)];cases bl m f<;>rfl
@[go_sem] theorem Kc (m:List (Int×Int)) (f x:Int):bx (mI m) f (.int .i64 x)=mI (bx m f x):=oQ (λx=>AV.int .i64 x) m f x
@[go_sem] theorem J' (m:List (Int×Int)) (f:Int):eB (mI m) f=mI (eB m f):=EM (λx=>AV.int .i64 x) m f
@[go_sem] theorem J9 (m:List (Int×Bool)) (f:Int):(bl (mB m) f).getD (.bool false)=.bool (cT m f):=by
 unfold mB cT;rw[mo AV.bool];cases bl m f<;>rfl
@[go_sem] theorem J_ (m:List (Int×Bool)) (f:Int) (x:Bool):bx (mB m) f (.bool x)=mB (bx m f x):=oQ AV.bool m f x
def mN (m:List (Int×Node)):List (Int×AV):=m.map λp=>(p.1,.agg (ZN p.2))
theorem gi (m:List (Int×Node)) (k:Int):bl (mN m) k=(bl m k).map λn=>.agg (ZN n):=mo (λn=>AV.agg (ZN n)) m k
theorem wu (m:List (Int×Node)) (k:Int) (n:Node):bx (mN m) k (.agg (ZN n))=mN (bx m k n):=oQ (λn=>AV.agg (ZN n)) m k n
def eG {α:Type} (m:List (Int×α)):Prop:=m.Pairwise λa b=>a.1<b.1
theorem kf {m:List (Int×Bool)} (h:eG m) (f:Int) (b:Bool) (x:Int):cT (bx m f b) x=if x=f then b else cT m x:=by
 unfold cT;rw[m_ h];split<;>rfl
end La
namespace La
open Go Go.Eng
inductive MReach (m:List (Int×Node)) (k:Int):Int->Prop
 | refl:MReach m k k
 | step {x:Int} {n:Node} {e:Entry} (h:MReach m k x) (hn:bl m x=some n) (he:e∈n.entries):MReach m k e.fid
def oh (m:List (Int×Node)):List Int:=m.flatMap λp=>p.2.entries.map (·.fid)
theorem DT {m:List (Int×Node)} {x:Int} {n:Node} {e:Entry} (hn:bl m x=some n) (he:e∈n.entries):e.fid∈oh m:=
 List.mem_flatMap.2 ⟨_,cZ hn,W5.2 ⟨e,he,rfl⟩⟩
def gS (m:List (Int×Node)) (had:List (Int×Bool)):Nat:=((oh m).filter λf=>!(cT had f)).length
theorem Br {m:List (Int×Node)} {had:List (Int×Bool)} (hr:eG had) {f:Int} (hf:f∈oh m) (h:cT had f=false):gS m (bx had f true)+1≤gS m had:=by
 unfold gS;generalize oh m=l at hf;have hle:∀l:List Int,(l.filter λx=>!(cT (bx had f true) x)).length≤(l.filter λx=>!(cT had x)).length:=λl=>by
  induction l with
  | nil=>simp
  | cons x r ih=>
   rw[List.filter_cons,List.filter_cons,kf hr]
   by_cases hx:x=f
   ·subst hx;simp[h];omega
   ·simp only[hx,if_false];split<;>(try simp only[List.length_cons])<;>omega
 induction l with
 | nil=>cases hf
 | cons x r ih=>
  rw[List.filter_cons,List.filter_cons,kf hr]
  by_cases hx:x=f
  ·subst hx;have:=hle r;simp[h];omega
  ·have hf2:f∈r:=by
    rcases List.mem_cons.1 hf with h1 | h1
    ·exact absurd h1.symm hx
    ·exact h1
   have:=ih hf2;simp only[hx,if_false];split<;>(try simp only[List.length_cons])<;>omega
structure BI (m:List (Int×Node)) (k:Int) (had:List (Int×Bool)) (T:List Int):Prop where
 rise:eG had
 sound:∀x,cT had x=true->MReach m k x
 start:cT had k=true
 todo:∀x,x∈T->cT had x=true
 shut:∀x,cT had x=true->x∉T->∀n,bl m x=some n->∀e,e∈n.entries->cT had e.fid=true
 size:T.length+gS m had≤(oh m).length+1
structure BJ (m:List (Int×Node)) (k:Int) (x:Int) (n:Node) (c:Nat) (j:Nat) (had:List (Int×Bool)) (T:List Int):Prop where
 at_:bl m x=some n
 rise:eG had
 sound:∀x,cT had x=true->MReach m k x
 start:cT had k=true
 todo:∀x,x∈T->cT had x=true
 shut:∀x,cT had x=true->x∉T->∀n,bl m x=some n->∀e,e∈n.entries->cT had e.fid=true
 done:∀e,e∈n.entries.take j->cT had e.fid=true
 head:∃r,T=x::r
 size:T.length+gS m had≤c
theorem BI.begin (m:List (Int×Node)) (k:Int):BI m k (bx [] k true) [k]:=by
 have hr:eG ([]:List (Int×Bool)):=List.Pairwise.nil;have hg:∀x,cT (bx [] k true) x=true->x=k:=λx h=>by
  rw[kf hr] at h
  by_cases e:x=k
  ·exact e
  ·rw[if_neg e] at h;cases h
 refine ⟨cB hr,λx h=>by rw[hg x h];exact .refl,by rw[kf hr,if_pos rfl],λx h=>by rw[List.mem_singleton.1 h,kf hr,if_pos rfl],λx h hn=>absurd (List.mem_singleton.2 (hg x h)) hn,?_⟩;have:gS m (bx [] k true)≤(oh m).length:=W6 _ _;simp;omega
theorem BI.inner {m:List (Int×Node)} {k:Int} {had:List (Int×Bool)} {x:Int} {r:List Int} (h:BI m k had (x::r)) {n:Node} (hn:bl m x=some n):BJ m k x n ((x::r).length+gS m had) 0 had (x::r):=
 ⟨hn,h.rise,h.sound,h.start,h.todo,h.shut,λe he=>by simp at he,⟨r,rfl⟩,W7 _⟩
theorem BI.none {m:List (Int×Node)} {k:Int} {had:List (Int×Bool)} {x:Int} {r:List Int} (h:BI m k had (x::r)) (hn:bl m x=none):BI m k had r:=
 ⟨h.rise,h.sound,h.start,λy hy=>h.todo y (List.mem_cons_of_mem _ hy),λy hy hno n hmn=>h.shut y hy (λhm=>by
  rcases List.mem_cons.1 hm with rfl | hm
  ·rw[hn] at hmn;cases hmn
  ·exact hno hm) n hmn,by have:=h.size;simp at this;omega⟩
theorem BJ.pop {m:List (Int×Node)} {k x:Int} {n:Node} {c:Nat} {had:List (Int×Bool)} {T:List Int} (h:BJ m k x n c n.entries.length had T) (hc:c≤(oh m).length+1) :
  BI m k had (T.drop 1)/\(T.drop 1).length+gS m had<c:=by
 obtain ⟨r,rfl⟩:=h.head;have hs:=h.size;simp only[List.length_cons] at hs;simp only[List.drop_succ_cons,List.drop_zero];refine ⟨⟨h.rise,h.sound,h.start,λy hy=>h.todo y (List.mem_cons_of_mem _ hy),λy hy hno n' hmn e he=>?_,by omega⟩,by omega⟩
 by_cases hyx:y=x
 ·subst hyx;rw[h.at_] at hmn;injection hmn with hmn;subst hmn
  exact h.done e (by rw[W2];exact he)
 ·exact h.shut y hy (λhm=>by
   rcases List.mem_cons.1 hm with h1 | h1
   ·exact hyx h1
   ·exact hno h1) n' hmn e he
theorem BJ.skip {m:List (Int×Node)} {k x:Int} {n:Node} {c j:Nat} {had:List (Int×Bool)} {T:List Int} (h:BJ m k x n c j had T) (hj:j<n.entries.length) (hb:cT had (n.entries.getD j default).fid=true):BJ m k x n c (j+1) had T:=
 ⟨h.at_,h.rise,h.sound,h.start,h.todo,h.shut,λe he=>by
  rw[ZT hj] at he
  rcases List.mem_append.1 he with he | he
  ·exact h.done e he
  ·rw[List.mem_singleton.1 he];exact hb,h.head,h.size⟩
theorem BJ.add {m:List (Int×Node)} {k x:Int} {n:Node} {c j:Nat} {had:List (Int×Bool)} {T:List Int} (h:BJ m k x n c j had T) (hj:j<n.entries.length) (hb:cT had (n.entries.getD j default).fid=false) :
  BJ m k x n c (j+1) (bx had (n.entries.getD j default).fid true) (T++[(n.entries.getD j default).fid]):=by
 have hmem:n.entries.getD j default∈n.entries:=YG hj;have htk:∀e,e∈n.entries.take (j+1)->e∈n.entries.take j\/e=n.entries.getD j default:=λe he=>by
  rw[ZT hj] at he
  rcases List.mem_append.1 he with he | he
  ·exact .inl he
  ·exact .inr (List.mem_singleton.1 he)
 generalize n.entries.getD j default=f at *;have hg:∀y,cT (bx had f.fid true) y=if y=f.fid then true else cT had y:=kf h.rise f.fid true;have hmono:∀y,cT had y=true->cT (bx had f.fid true) y=true:=λy hy=>by rw[hg];split<;>first | rfl | exact hy
 obtain ⟨r,hr⟩:=h.head;have hx:cT had x=true:=h.todo x (by rw[hr];simp);refine ⟨h.at_,cB h.rise,λy hy=>?_,hmono _ h.start,λy hy=>?_,λy hy hno n' hmn e he=>?_,λe he=>?_,⟨r++[f.fid],by rw[hr];rfl⟩,?_⟩
 ·rw[hg] at hy;split at hy
  ·rename_i e;subst e;exact .step (h.sound x hx) h.at_ hmem
  ·exact h.sound y hy
 ·rcases List.mem_append.1 hy with hy | hy
  ·exact hmono _ (h.todo y hy)
  ·rw[List.mem_singleton.1 hy,hg,if_pos rfl]
 ·rw[hg] at hy;split at hy
  ·rename_i e';exact absurd (YA _ (List.mem_singleton.2 e')) hno
  ·exact hmono _ (h.shut y hy (λhm=>hno (YJ _ hm)) n' hmn e he)
 ·rcases htk e he with h1 | h1
  ·exact hmono _ (h.done e h1)
  ·rw[h1,hg,if_pos rfl]
 ·have:=Br h.rise (DT h.at_ hmem) hb;have:=h.size;simp only[List.length_append,List.length_cons,List.length_nil];omega
theorem BI.fin {m:List (Int×Node)} {k:Int} {had:List (Int×Bool)} (h:BI m k had []) (x:Int):cT had x=true↔MReach m k x:=by
 refine ⟨h.sound x,λhr=>?_⟩
 induction hr with
 | refl=>exact h.start
 | step hr hn he ih=>exact h.shut _ ih y8 _ hn _ he
end La
namespace La
open Go Go.Eng Go.Proofs
theorem td (l:List Node) (hlen:l.length≤100000000) {f:FuncId} {caps:List AV} {p:Node->Bool} (hcal:aP Tryz.prog f) (hpure:(caps.all AV.bc)=true)
  (hf:∀x,x∈l->af Tryz.prog f (.agg (ZN x)::caps) [] (λr _=>r=.bool (p x))) :
  af Tryz.prog 204 [.sl (l.map ZN),.fn f caps] [] (λr _=>r=.int .i64 (ct (l.findIdx? p))):=by
 have hcaps:=cq hpure;refine ZF tK (Tryz.func204) rfl (λC=>?_);simp only[Tryz.ntmps204,Tryz.results204,go_sem];refine wG tK ?_;refine ZL (λi:Nat=>i≤l.length/\∀x,x∈l.take i->p x=false) (λi=>l.length-i) (λi=>(8,.int .i64 i)::(5,.any)::u0 9 10 []) (λ_=>[]) 0 ⟨by omega,by simp⟩ ?_ λi hi=>?_
 ·simp only[go_sem];exact ZU w3 w3 u5
 obtain ⟨hi,hno⟩:=hi;simp only[go_sem];refine wG tK ?_;refine wD (λh=>?_) (λh=>?_)
 ·have hlt:i<l.length:=by simp at h;omega
  have hn:=hf _ (YG hlt);have hg:(l.map ZN).getD i []=ZN (l.getD i default):=Fam.getD hlt;have htk:=ZT hlt;have hgi:l[i]? = some (l.getD i default):=by rw[Wv,Ww hlt];rfl
  generalize l.getD i default=n at hn hg htk hgi;refine wGq tK ?_ ?_ p8
  ·simp[hlt,ZN]
  refine dR rfl rfl z7 w3 hcal u5 (hn) w3 z6 ?_;refine wG tK ?_;refine wD (λh=>?_) (λh=>?_)
  ·refine wG tK ?_;refine wT ?_;rw[eR hgi hno h];rfl
  ·have hw:IntKind.i64.wrap ((i:Int)+1)=(i:Int)+1:=wrap_small z8 z8;refine wG tK ?_ w5 k7;refine ZB ⟨i+1,⟨by omega,?_⟩,by omega,ZU ?_ ?_ ?_⟩
   ·rw[htk];intro x hx
    rcases List.mem_append.1 hx with hx | hx
    ·exact hno x hx
    ·rw[List.mem_singleton.1 hx];exact h
   ·simp[go_sem]
   ·simp[go_sem]
   ·simp[go_sem,hcaps]
 ·have e:i=l.length:=by simp at h;omega
  refine wG tK ?_;refine wT ?_;rw[e,W2] at hno;rw[YK.2 hno];rfl
theorem re (l:List Node) (hlen:l.length≤100000000) (id:Nat) {f:FuncId} {caps:List AV} {p:Node->Bool} (hcal:aP Tryz.prog f) (hpure:(caps.all AV.bc)=true) (hid:id≠7)
  (hf:∀x,x∈l->af Tryz.prog f (.agg (ZN x)::caps) [] (λr _=>r=.bool (p x))) :
  af Tryz.prog 181 [.osl id 5 0 l.length,.fn f caps] [(id,.cells 62 5 (l.map ZN))] (λr H=>r=.osl id 5 0 (l.filter λx=>!p x).length /\
   ∀i b,aa [(id,.cells 62 5 ((l.filter λx=>!p x).map ZN++List.replicate (l.length-(l.filter λx=>!p x).length) [.int .i64 0,.bool false,.nils,.nils,.int .i64 0]))] i=some b->aa H i=some b):=by
 have hcaps:=cq hpure;obtain ⟨q,hv,hq⟩:=fK hpure;refine ZF tK (Tryz.func181) rfl (λC=>?_);simp only[Tryz.ntmps181,Tryz.results181,go_sem];refine wG tK ?_;refine mS rfl rfl z7 w3 Qj Z1 ⟨_,Tryz.func204,by kernel_rfl,rfl⟩ (td l hlen hcal hpure hf) w3 z6 ?_;refine wG tK ?_;refine wD (λh=>?_) (λh=>?_)
 ·refine wG tK ?_;refine wT ?_;have hn:l.findIdx? p=none:=by
   cases e:l.findIdx? p with
   | none=>rfl
   | some k=>rw[e] at h;simp[ct] at h
  have hfl:l.filter (λx=>!p x)=l:=YR.2 λx hx=>by
   simp[YK.1 hn x hx]
  rw[hfl];simp[aa]
 obtain ⟨k,hk⟩:∃k,l.findIdx? p=some k:=by
  cases e:l.findIdx? p with
  | none=>rw[e] at h;simp[ct] at h
  | some k=>exact ⟨k,rfl⟩
 have hkl:k<l.length:=(YM.1 hk).1;have hsp:=ff hk;rw[hk];have hw:IntKind.i64.wrap ((k:Int)+1)=((k+1:Nat):Int):=by rw[Eng.wrap_small z8 z8];rfl
 simp only[ct];refine wG tK ?_ w5 k7;refine ZL (λs:Nat×List Node=>DelInv p l s.1 s.2) (λs=>l.length-s.1) (λs=>(5,.int .i64 (((l.take s.1).filter λx=>!p x).length:Nat))::(6,.int .i64 (s.1:Nat))::(7,.any)::u0 16 20 []) (λs=>[(id,.cells 62 5 (s.2.map ZN))]) (k+1,l) (DelInv.start hk) ?_ λs hs=>?_
 ·have el:((l.take (k+1)).filter λx=>!p x).length=k:=by rw[hsp];simp;omega
  simp only[go_sem,el];exact ZU w3 w3 u5
 obtain ⟨j,L⟩:=s;have hjl:=hs.le;have hL:=hs.len;have hlt:=hs.lt;simp only at hs hjl hL hlt;simp only[go_sem];refine wG tK ?_;refine wD (λh=>?_) (λh=>?_)
 ·have hj:j<l.length:=by simp at h;omega
  have hn:=hf _ (YG hj);have hg:(L.map ZN).getD j []=ZN (l.getD j default):=by rw[Fam.getD z8,hs.get hj]
  have hkeep:=hs.ED hj;have hskip:=hs.skip hj;have htk:=ZT hj;generalize l.getD j default=n at hn hg hkeep hskip htk;refine wGq tK ?_ ?_ (by simp only[go_sem,hg,ZN,hid,Ne.symm hid];try exact rfl)
  ·simp[ZN];omega
  refine dR rfl rfl z7 w3 hcal u5 (hn) w3 z6 ?_;generalize hm:((l.take j).filter λx=>!p x).length=m at hkeep hlt;have hw1:IntKind.i64.wrap ((j:Int)+1)=((j+1:Nat):Int):=by rw[Eng.wrap_small z8 z8];rfl
  have hw2:IntKind.i64.wrap ((m:Int)+1)=((m+1:Nat):Int):=by rw[Eng.wrap_small z8 z8];rfl
  refine wG tK ?_ Qf WG;refine wD (λh=>?_) (λh=>?_)
  ·have hp:p n=false:=by simpa using h
   obtain ⟨hk1,hk2⟩:=hkeep hp;have ba:=po ZN L m n;simp only[ZN] at ba;have hgl:(L.map ZN).getD m []=ZN (L.getD m default):=Fam.getD z8;simp only[ZN] at hgl;refine wGq tK ?_ ?_ n3
   ·simp[hid,Ne.symm hid];omega
   refine ZB ⟨(j+1,L.set m n),hk1,by simp only;omega,ZU ?_ ?_ ?_⟩
   ·simp[go_sem,hk2]
   ·simp[go_sem,hid,Ne.symm hid,ba]
   ·simp[go_sem,hcaps,-List.map_set]
  ·have hp:p n=true:=by simpa using h
   refine wG tK ?_ QJ Ql;have hsame:((l.take (j+1)).filter λx=>!p x).length=m:=by
    rw[←hm,htk,List.filter_append];simp only[List.filter_cons,hp,Bool.not_true,Bool.false_eq_true,if_false,List.filter_nil,List.append_nil]
   refine ZB ⟨(j+1,L),hskip hp,by simp only;omega,ZU ?_ ?_ ?_⟩
   ·simp[go_sem,hsame,hm]
   ·simp[go_sem,hid,Ne.symm hid]
   ·simp[go_sem,hcaps]
 have e:j=l.length:=by simp at h;omega
 subst e;have hfin:=hs.fin;rw[W2];generalize hd:(l.filter λx=>!p x)=d at *;have hdl:d.length≤l.length:=by rw[←hd];exact W6 _ _
 have hcl:=ja ZN (d:=d) (L:=L) [.int .i64 0,.bool false,.nils,.nils,.int .i64 0] hfin z8;rw[hL] at hcl;refine wGq tK ?_ ?_ QK
 ·simp only[not_false_eq_true,true_and];omega
 refine wT ?_;simp[aa]
theorem lI (l:List Entry) (hlen:l.length≤100000000) {f:FuncId} {caps:List AV} {p:Entry->Bool} (hcal:aP Tryz.prog f) (hpure:(caps.all AV.bc)=true)
  (hf:∀x,x∈l->af Tryz.prog f (.agg (ZE x)::caps) [] (λr _=>r=.bool (p x))) :
  af Tryz.prog 203 [.sl (l.map ZE),.fn f caps] [] (λr _=>r=.int .i64 (ct (l.findIdx? p))):=by
 have hcaps:=cq hpure;refine ZF tK (Tryz.func203) rfl (λC=>?_);simp only[Tryz.ntmps203,Tryz.results203,go_sem];refine wG tK ?_;refine ZL (λi:Nat=>i≤l.length/\∀x,x∈l.take i->p x=false) (λi=>l.length-i) (λi=>(8,.int .i64 i)::(5,.any)::u0 9 10 []) (λ_=>[]) 0 ⟨by omega,by simp⟩ ?_ λi hi=>?_
 ·simp only[go_sem];exact ZU w3 w3 u5
 obtain ⟨hi,hno⟩:=hi;simp only[go_sem];refine wG tK ?_;refine wD (λh=>?_) (λh=>?_)
 ·have hlt:i<l.length:=by simp at h;omega
  have hn:=hf _ (YG hlt);have hg:(l.map ZE).getD i []=ZE (l.getD i default):=Fam.getD hlt;have htk:=ZT hlt;have hgi:l[i]? = some (l.getD i default):=by rw[Wv,Ww hlt];rfl
  generalize l.getD i default=n at hn hg htk hgi;refine wGq tK ?_ ?_ n4
  ·simp[hlt,ZE]
  refine dR rfl rfl z7 w3 hcal u5 (hn) w3 z6 ?_;refine wG tK ?_;refine wD (λh=>?_) (λh=>?_)
  ·refine wG tK ?_;refine wT ?_;rw[eR hgi hno h];rfl
  ·have hw:IntKind.i64.wrap ((i:Int)+1)=(i:Int)+1:=wrap_small z8 z8;refine wG tK ?_ w5 k7;refine ZB ⟨i+1,⟨by omega,?_⟩,by omega,ZU ?_ ?_ ?_⟩
   ·rw[htk];intro x hx
    rcases List.mem_append.1 hx with hx | hx
    ·exact hno x hx
    ·rw[List.mem_singleton.1 hx];exact h
   ·simp[go_sem]
   ·simp[go_sem]
   ·simp[go_sem,hcaps]
 ·have e:i=l.length:=by simp at h;omega
  refine wG tK ?_;refine wT ?_;rw[e,W2] at hno;rw[YK.2 hno];rfl
theorem pG (l:List Entry) (hlen:l.length≤100000000) (id:Nat) {f:FuncId} {caps:List AV} {p:Entry->Bool} (hcal:aP Tryz.prog f) (hpure:(caps.all AV.bc)=true) (hid:id≠7)
  (hf:∀x,x∈l->af Tryz.prog f (.agg (ZE x)::caps) [] (λr _=>r=.bool (p x))) :
  af Tryz.prog 179 [.osl id 2 0 l.length,.fn f caps] [(id,.cells 101 2 (l.map ZE))] (λr H=>r=.osl id 2 0 (l.filter λx=>!p x).length /\
   ∀i b,aa [(id,.cells 101 2 ((l.filter λx=>!p x).map ZE++List.replicate (l.length-(l.filter λx=>!p x).length) [.str [],.int .i64 0]))] i=some b->aa H i=some b):=by
 have hcaps:=cq hpure;obtain ⟨q,hv,hq⟩:=fK hpure;refine ZF tK (Tryz.func179) rfl (λC=>?_);simp only[Tryz.ntmps179,Tryz.results179,go_sem];refine wG tK ?_;refine mS rfl rfl z7 w3 Qj Z1 ⟨_,Tryz.func203,by kernel_rfl,rfl⟩ (lI l hlen hcal hpure hf) w3 z6 ?_;refine wG tK ?_;refine wD (λh=>?_) (λh=>?_)
 ·refine wG tK ?_;refine wT ?_;have hn:l.findIdx? p=none:=by
   cases e:l.findIdx? p with
   | none=>rfl
   | some k=>rw[e] at h;simp[ct] at h
  have hfl:l.filter (λx=>!p x)=l:=YR.2 λx hx=>by
   simp[YK.1 hn x hx]
  rw[hfl];simp[aa]
 obtain ⟨k,hk⟩:∃k,l.findIdx? p=some k:=by
  cases e:l.findIdx? p with
  | none=>rw[e] at h;simp[ct] at h
  | some k=>exact ⟨k,rfl⟩
 have hkl:k<l.length:=(YM.1 hk).1;have hsp:=ff hk;rw[hk];have hw:IntKind.i64.wrap ((k:Int)+1)=((k+1:Nat):Int):=by rw[Eng.wrap_small z8 z8];rfl
 simp only[ct];refine wG tK ?_ w5 k7;refine ZL (λs:Nat×List Entry=>DelInv p l s.1 s.2) (λs=>l.length-s.1) (λs=>(5,.int .i64 (((l.take s.1).filter λx=>!p x).length:Nat))::(6,.int .i64 (s.1:Nat))::(7,.any)::u0 16 20 []) (λs=>[(id,.cells 101 2 (s.2.map ZE))]) (k+1,l) (DelInv.start hk) ?_ λs hs=>?_
 ·have el:((l.take (k+1)).filter λx=>!p x).length=k:=by rw[hsp];simp;omega
  simp only[go_sem,el];exact ZU w3 w3 u5
 obtain ⟨j,L⟩:=s;have hjl:=hs.le;have hL:=hs.len;have hlt:=hs.lt;simp only at hs hjl hL hlt;simp only[go_sem];refine wG tK ?_;refine wD (λh=>?_) (λh=>?_)
 ·have hj:j<l.length:=by simp at h;omega
  have hn:=hf _ (YG hj);have hg:(L.map ZE).getD j []=ZE (l.getD j default):=by rw[Fam.getD z8,hs.get hj]
  have hkeep:=hs.ED hj;have hskip:=hs.skip hj;have htk:=ZT hj;generalize l.getD j default=n at hn hg hkeep hskip htk;refine wGq tK ?_ ?_ (by simp only[go_sem,hg,ZE,hid,Ne.symm hid];try exact rfl)
  ·simp[ZE];omega
  refine dR rfl rfl z7 w3 hcal u5 (hn) w3 z6 ?_;generalize hm:((l.take j).filter λx=>!p x).length=m at hkeep hlt;have hw1:IntKind.i64.wrap ((j:Int)+1)=((j+1:Nat):Int):=by rw[Eng.wrap_small z8 z8];rfl
  have hw2:IntKind.i64.wrap ((m:Int)+1)=((m+1:Nat):Int):=by rw[Eng.wrap_small z8 z8];rfl
  refine wG tK ?_ Qf WG;refine wD (λh=>?_) (λh=>?_)
  ·have hp:p n=false:=by simpa using h
   obtain ⟨hk1,hk2⟩:=hkeep hp;have ba:=po ZE L m n;simp only[ZE] at ba;have hgl:(L.map ZE).getD m []=ZE (L.getD m default):=Fam.getD z8;simp only[ZE] at hgl;refine wGq tK ?_ ?_ n3
   ·simp[hid,Ne.symm hid];omega
   refine ZB ⟨(j+1,L.set m n),hk1,by simp only;omega,ZU ?_ ?_ ?_⟩
   ·simp[go_sem,hk2]
   ·simp[go_sem,hid,Ne.symm hid,ba]
   ·simp[go_sem,hcaps,-List.map_set]
  ·have hp:p n=true:=by simpa using h
   refine wG tK ?_ QJ Ql;have hsame:((l.take (j+1)).filter λx=>!p x).length=m:=by
    rw[←hm,htk,List.filter_append];simp only[List.filter_cons,hp,Bool.not_true,Bool.false_eq_true,if_false,List.filter_nil,List.append_nil]
   refine ZB ⟨(j+1,L),hskip hp,by simp only;omega,ZU ?_ ?_ ?_⟩
   ·simp[go_sem,hsame,hm]
   ·simp[go_sem,hid,Ne.symm hid]
   ·simp[go_sem,hcaps]
 have e:j=l.length:=by simp at h;omega
 subst e;have hfin:=hs.fin;rw[W2];generalize hd:(l.filter λx=>!p x)=d at *;have hdl:d.length≤l.length:=by rw[←hd];exact W6 _ _
 have hcl:=ja ZE (d:=d) (L:=L) [.str [],.int .i64 0] hfin z8;rw[hL] at hcl;refine wGq tK ?_ ?_ QK
 ·simp only[not_false_eq_true,true_and];omega
 refine wT ?_;simp[aa]
theorem nI (l:List Entry) (hlen:l.length≤100000000) {f:FuncId} {caps:List AV} {p:Entry->Bool} (hcal:aP Tryz.prog f) (hpure:(caps.all AV.bc)=true)
  (hf:∀x,x∈l->af Tryz.prog f (.agg (ZE x)::caps) [] (λr _=>r=.bool (p x))) :
  af Tryz.prog 183 [.sl (l.map ZE),.fn f caps] [] (λr _=>r=.bool (l.any p)):=by
 have hcaps:=cq hpure;refine ZF tK (Tryz.func183) rfl (λC=>?_);simp only[Tryz.ntmps183,Tryz.results183,go_sem];refine wG tK ?_;refine dR rfl rfl z7 w3 ⟨_,Tryz.func203,by kernel_rfl,rfl⟩ u5 (lI l hlen hcal hpure hf) w3 z6 ?_;refine wG tK ?_;refine wT ?_;rw[mh]
theorem jf (l:List Kept) (hlen:l.length≤100000000) {f:FuncId} {caps:List AV} {p:Kept->Bool} (hcal:aP Tryz.prog f) (hpure:(caps.all AV.bc)=true)
  (hf:∀x,x∈l->af Tryz.prog f (.agg (ZK x)::caps) [] (λr _=>r=.bool (p x))) :
  af Tryz.prog 118 [.sl (l.map ZK),.fn f caps] [] (λr _=>r=.int .i64 (ct (l.findIdx? p))):=by
 have hcaps:=cq hpure;refine ZF tK (Tryz.func118) rfl (λC=>?_);simp only[Tryz.ntmps118,Tryz.results118,go_sem];refine wG tK ?_;refine ZL (λi:Nat=>i≤l.length/\∀x,x∈l.take i->p x=false) (λi=>l.length-i) (λi=>(8,.int .i64 i)::(5,.any)::u0 9 10 []) (λ_=>[]) 0 ⟨by omega,by simp⟩ ?_ λi hi=>?_
 ·simp only[go_sem];exact ZU w3 w3 u5
 obtain ⟨hi,hno⟩:=hi;simp only[go_sem];refine wG tK ?_;refine wD (λh=>?_) (λh=>?_)
 ·have hlt:i<l.length:=by simp at h;omega
  have hn:=hf _ (YG hlt);have hg:(l.map ZK).getD i []=ZK (l.getD i default):=Fam.getD hlt;have htk:=ZT hlt;have hgi:l[i]? = some (l.getD i default):=by rw[Wv,Ww hlt];rfl
  generalize l.getD i default=n at hn hg htk hgi;refine wGq tK ?_ ?_ u1
  ·simp[hlt,ZK]
  refine dR rfl rfl z7 w3 hcal u5 (hn) w3 z6 ?_;refine wG tK ?_;refine wD (λh=>?_) (λh=>?_)
  ·refine wG tK ?_;refine wT ?_;rw[eR hgi hno h];rfl
  ·have hw:IntKind.i64.wrap ((i:Int)+1)=(i:Int)+1:=wrap_small z8 z8;refine wG tK ?_ w5 k7;refine ZB ⟨i+1,⟨by omega,?_⟩,by omega,ZU ?_ ?_ ?_⟩
   ·rw[htk];intro x hx
    rcases List.mem_append.1 hx with hx | hx
    ·exact hno x hx
    ·rw[List.mem_singleton.1 hx];exact h
   ·simp[go_sem]
   ·simp[go_sem]
   ·simp[go_sem,hcaps]
 ·have e:i=l.length:=by simp at h;omega
  refine wG tK ?_;refine wT ?_;rw[e,W2] at hno;rw[YK.2 hno];rfl
theorem ir (l:List Kept) (hlen:l.length≤100000000) (id:Nat) {f:FuncId} {caps:List AV} {p:Kept->Bool} (hcal:aP Tryz.prog f) (hpure:(caps.all AV.bc)=true) (hid:id≠7)
  (hf:∀x,x∈l->af Tryz.prog f (.agg (ZK x)::caps) [] (λr _=>r=.bool (p x))) :
  af Tryz.prog 70 [.osl id 8 0 l.length,.fn f caps] [(id,.cells 67 8 (l.map ZK))] (λr H=>r=.osl id 8 0 (l.filter λx=>!p x).length /\
   ∀i b,aa [(id,.cells 67 8 ((l.filter λx=>!p x).map ZK++List.replicate (l.length-(l.filter λx=>!p x).length) [.int .i64 0,.bool false,.nils,.nils,.int .i64 0,.bool false,.int .i64 0,.int .i64 0]))] i=some b->aa H i=some b):=by
 have hcaps:=cq hpure;obtain ⟨q,hv,hq⟩:=fK hpure;refine ZF tK (Tryz.func70) rfl (λC=>?_);simp only[Tryz.ntmps70,Tryz.results70,go_sem];refine wG tK ?_;refine mS rfl rfl z7 w3 Qj Z1 ⟨_,Tryz.func118,by kernel_rfl,rfl⟩ (jf l hlen hcal hpure hf) w3 z6 ?_;refine wG tK ?_;refine wD (λh=>?_) (λh=>?_)
 ·refine wG tK ?_;refine wT ?_;have hn:l.findIdx? p=none:=by
   cases e:l.findIdx? p with
   | none=>rfl
   | some k=>rw[e] at h;simp[ct] at h
  have hfl:l.filter (λx=>!p x)=l:=YR.2 λx hx=>by
   simp[YK.1 hn x hx]
  rw[hfl];simp[aa]
 obtain ⟨k,hk⟩:∃k,l.findIdx? p=some k:=by
  cases e:l.findIdx? p with
  | none=>rw[e] at h;simp[ct] at h
  | some k=>exact ⟨k,rfl⟩
 have hkl:k<l.length:=(YM.1 hk).1;have hsp:=ff hk;rw[hk];have hw:IntKind.i64.wrap ((k:Int)+1)=((k+1:Nat):Int):=by rw[Eng.wrap_small z8 z8];rfl
 simp only[ct];refine wG tK ?_ w5 k7;refine ZL (λs:Nat×List Kept=>DelInv p l s.1 s.2) (λs=>l.length-s.1) (λs=>(5,.int .i64 (((l.take s.1).filter λx=>!p x).length:Nat))::(6,.int .i64 (s.1:Nat))::(7,.any)::u0 16 20 []) (λs=>[(id,.cells 67 8 (s.2.map ZK))]) (k+1,l) (DelInv.start hk) ?_ λs hs=>?_
 ·have el:((l.take (k+1)).filter λx=>!p x).length=k:=by rw[hsp];simp;omega
  simp only[go_sem,el];exact ZU w3 w3 u5
 obtain ⟨j,L⟩:=s;have hjl:=hs.le;have hL:=hs.len;have hlt:=hs.lt;simp only at hs hjl hL hlt;simp only[go_sem];refine wG tK ?_;refine wD (λh=>?_) (λh=>?_)
 ·have hj:j<l.length:=by simp at h;omega
  have hn:=hf _ (YG hj);have hg:(L.map ZK).getD j []=ZK (l.getD j default):=by rw[Fam.getD z8,hs.get hj]
  have hkeep:=hs.ED hj;have hskip:=hs.skip hj;have htk:=ZT hj;generalize l.getD j default=n at hn hg hkeep hskip htk;refine wGq tK ?_ ?_ (by simp only[go_sem,hg,ZK,hid,Ne.symm hid];try exact rfl)
  ·simp[ZK];omega
  refine dR rfl rfl z7 w3 hcal u5 (hn) w3 z6 ?_;generalize hm:((l.take j).filter λx=>!p x).length=m at hkeep hlt;have hw1:IntKind.i64.wrap ((j:Int)+1)=((j+1:Nat):Int):=by rw[Eng.wrap_small z8 z8];rfl
  have hw2:IntKind.i64.wrap ((m:Int)+1)=((m+1:Nat):Int):=by rw[Eng.wrap_small z8 z8];rfl
  refine wG tK ?_ Qf WG;refine wD (λh=>?_) (λh=>?_)
  ·have hp:p n=false:=by simpa using h
   obtain ⟨hk1,hk2⟩:=hkeep hp;have ba:=po ZK L m n;simp only[ZK] at ba;have hgl:(L.map ZK).getD m []=ZK (L.getD m default):=Fam.getD z8;simp only[ZK] at hgl;refine wGq tK ?_ ?_ n3
   ·simp[hid,Ne.symm hid];omega
   refine ZB ⟨(j+1,L.set m n),hk1,by simp only;omega,ZU ?_ ?_ ?_⟩
   ·simp[go_sem,hk2]
   ·simp[go_sem,hid,Ne.symm hid,ba]
   ·simp[go_sem,hcaps,-List.map_set]
  ·have hp:p n=true:=by simpa using h
   refine wG tK ?_ QJ Ql;have hsame:((l.take (j+1)).filter λx=>!p x).length=m:=by
    rw[←hm,htk,List.filter_append];simp only[List.filter_cons,hp,Bool.not_true,Bool.false_eq_true,if_false,List.filter_nil,List.append_nil]
   refine ZB ⟨(j+1,L),hskip hp,by simp only;omega,ZU ?_ ?_ ?_⟩
   ·simp[go_sem,hsame,hm]
   ·simp[go_sem,hid,Ne.symm hid]
   ·simp[go_sem,hcaps]
 have e:j=l.length:=by simp at h;omega
 subst e;have hfin:=hs.fin;rw[W2];generalize hd:(l.filter λx=>!p x)=d at *;have hdl:d.length≤l.length:=by rw[←hd];exact W6 _ _
 have hcl:=ja ZK (d:=d) (L:=L) [.int .i64 0,.bool false,.nils,.nils,.int .i64 0,.bool false,.int .i64 0,.int .i64 0] hfin z8;rw[hL] at hcl;refine wGq tK ?_ ?_ QK
 ·simp only[not_false_eq_true,true_and];omega
 refine wT ?_;simp[aa]
theorem Cn (n:Node) (f:Int):af Tryz.prog 182 [.agg (ZN n),.rp [.int .i64 f] 0] [] (λr _=>r=.bool (n.fid==f)):=by
 unfold ZN;refine ZF tK (Tryz.func182) rfl (λC=>?_);simp only[Tryz.ntmps182,Tryz.results182,go_sem];refine wG tK ?_;refine wT ?_;simp
theorem GF (l:List Node) (f:Int) (hl:Small l):af Tryz.prog 146 [.sl (l.map ZN),.int .i64 f] [] (λr _=>r=.sl ((eQ l f).map ZN)):=by
 have hlen:=hl.len;refine ZF tK (Tryz.func146) rfl (λC=>?_);simp only[Tryz.ntmps146,Tryz.results146,go_sem];refine wG tK ?_;refine ZZ 3 rfl (rfl) ?_;simp only[go_sem];refine wCG [] 100 Tryz.func54 (hf:=(rM l hl)) (hk:=?_);refine wG tK ?_;refine wCG [123] 100 Tryz.func181 (hf:=(re l hlen 123 ⟨_,Go.Proofs.Tryz.func182,by kernel_rfl,rfl⟩ rfl x8 (λx _=>Cn x f))) (hk:=?_);refine wG tK ?_;refine ZZ 223 rfl (by rw[List.all_append,fi,Bool.true_and];exact jn _ rfl) ?_;simp only[go_sem];refine wT ?_;have hle:=W6 (λx:Node=>!(x.fid==f)) l;have hd:(l.filter λx:Node=>!(x.fid==f))=eQ l f:=rfl;rw[hd] at hle;simp only[hd];generalize eQ l f=d at *;rw[if_pos y8,ig y8]
theorem Aw (e:Entry) (s:List UInt8):af Tryz.prog 180 [.agg (ZE e),.rp [.str s] 0] [] (λr _=>r=.bool (e.name==s)):=by
 unfold ZE;refine ZF tK (Tryz.func180) rfl (λC=>?_);simp only[Tryz.ntmps180,Tryz.results180,go_sem];refine wG tK ?_;refine wT ?_;simp
theorem yx (n:Node) (s:List UInt8) (hn:n.Small):af Tryz.prog 145 [.agg (ZN n),.str s] [] (λr _=>r=.agg (ZN (aC n s))):=by
 have hlen:=hn.entries;refine ZF tK (Tryz.func145) rfl (λC=>?_);simp only[Tryz.ntmps145,Tryz.results145,go_sem];refine wGq tK ?_ ?_ w6
 ·simp[ZN]
 refine ZZ 7 rfl (rfl) ?_;refine ZZ 3 rfl (rfl) ?_;simp only[go_sem];refine wCG [] 0 Tryz.func54 (hf:=(yR n hn)) (hk:=?_);refine wGq tK ?_ ?_ (by simp only[go_sem,kT];try exact rfl)
 ·simp[kT]
 refine ah (bB 1000 5 z6 j6) ?_;refine ah (bB 1000 23 z6 j6) ?_;simp only[go_sem];refine wCG [1000] 100 Tryz.func179 (hf:=(pG n.entries hlen 1000 ⟨_,Go.Proofs.Tryz.func180,by kernel_rfl,rfl⟩ rfl x8 (λx _=>Aw x s))) (hk:=?_);refine ZZ 1100 rfl (by rw[List.all_append,dt,Bool.true_and];exact jn _ rfl) ?_;simp only[go_sem];have hle:=W6 (λx:Entry=>!(x.name==s)) n.entries;have hd:(n.entries.filter λx:Entry=>!(x.name==s))=de n.entries s:=rfl;have hr:ZN (aC n s)=[.int .i64 n.fid,.bool n.dir,.sl (n.data.map ZY),.sl ((de n.entries s).map ZE),.int .i64 n.version]:=rfl;simp only[hd] at hle ⊢;rw[hr];generalize de n.entries s=d at *;simp only[go_sem,if_pos (show d.length≤(d.map ZE++List.replicate (n.entries.length-d.length) [AV.str [],AV.int .i64 0]).length by simp),ig (show d.length=(d.map ZE).length by simp)];refine wG tK ?_;refine wT ?_;simp
theorem t_ (l M:List Entry) (i:Nat) (hi:i≤l.length) (hlen:l.length≤100000000) (hM:l.take i++⟨[],0⟩::l.drop i=M) :
  af Tryz.prog 178 [.osl 1000 2 0 l.length,.int .i64 i,.osl 28 2 0 1] [(28,.cells 101 2 [[.str [],.int .i64 0]]),(1000,.cells 101 2 (l.map ZE))]
   (λr H=>r=.osl 7 2 0 (l.length+1)/\∀i' b,aa [(7,.cells 101 2 (M.map ZE))] i'=some b->aa H i'=some b):=by
 subst hM;have hL:(l.map ZE).length=l.length:=List.length_map ..;have:=af.IN (rows':=(l.take i++⟨[],0⟩::l.drop i).map ZE) 7 (vR (l.map ZE) i z8 z8 (qZ l) (tZ l) (λid=>lZ id l)) (by
  rw[List.map_append,List.map_cons,List.map_append,List.map_cons,←Yt,←Y0,nA,nA];rfl) (yg (λid=>lZ id l) x8)
 rw[hL] at this;exact this
theorem qu {M:List Entry} {i:Nat} (h:i<M.length):(M.map ZE).getD i []=[.str (M.getD i default).name,.int .i64 (M.getD i default).fid]:=by
 rw[Fam.getD h];rfl
theorem xJ (n:Node) (s:List UInt8) (f:Int) (hn:n.Small):af Tryz.prog 143 [.agg (ZN n),.str s,.int .i64 f] [] (λr _=>r=.agg (ZN (aA n s f))):=by
 have hlen:=hn.entries;refine ZF tK (Tryz.func143) rfl (λC=>?_);simp only[Tryz.ntmps143,Tryz.results143,go_sem];refine wGq tK ?_ ?_ w6
 ·simp[ZN]
 refine ZZ 11 rfl (rfl) ?_;refine ZZ 3 rfl (rfl) ?_;simp only[go_sem];refine wCG [] 0 Tryz.func54 (hf:=(yR n hn)) (hk:=?_);refine wG tK ?_;refine wV Tryz.func91 (hf:=(oC n.entries s hlen ⟨_,Go.Proofs.Tryz.func177,by kernel_rfl,rfl⟩ (λe=>xI e s))) (hk:=?_);refine wG tK ?_;have hple:=pH n.entries s;refine wD (λh=>?_) (λh=>?_)
 ·have hat:isE n.entries s=false:=by simpa using h
  refine wG tK ?_;refine ah (bB 1000 7 z6 j6) ?_;refine ah (bB 1000 23 z6 j6) ?_;simp only[go_sem];have hM:(n.entries.take (aO n.entries s)++⟨[],0⟩::n.entries.drop (aO n.entries s)).length=n.entries.length+1:=by simp;omega
  have hS:(n.entries.take (aO n.entries s)++⟨[],0⟩::n.entries.drop (aO n.entries s)).set (aO n.entries s) ⟨s,f⟩=bz n.entries s f:=by
   unfold bz;rw[hat,if_neg y8,List.set_append_right _ _ QR,YF,Yx hple,Yo];rfl
  generalize hMd:n.entries.take (aO n.entries s)++⟨[],0⟩::n.entries.drop (aO n.entries s)=M at *;refine wCG [1000,28] 200 Tryz.func178 (hf:=(t_ n.entries M (aO n.entries s) hple hlen hMd)) (hk:=?_);refine wN tK 2 ?_;have hE:(bz n.entries s f).length=n.entries.length+1:=by rw[←hS,Yi,hM]
  have hlt:aO n.entries s<(M).length:=by omega
  have hg:=qu hlt;have hq:((M).map ZE).set (aO n.entries s) [.str s,.int .i64 f]=(bz n.entries s f).map ZE:=by
   rw[←hS,List.map_set];rfl
  refine wR ?_;refine wN tK 6 ?_;refine wNq tK 1 ?_ ?_
  ·exact ⟨by simp,by omega,by omega⟩
  refine wNq tK 1 ?_ ?_
  ·exact ⟨by simp,by omega⟩
  simp only[go_sem,hg,hq];refine ZZ 207 rfl (dt _) ?_;have hr:ZN (aA n s f)=[.int .i64 n.fid,.bool n.dir,.sl (n.data.map ZY),.sl ((bz n.entries s f).map ZE),.int .i64 n.version]:=rfl;rw[hr];have hE2:=Wy (l:=(bz n.entries s f).map ZE) (i:=(bz n.entries s f).length) y8;simp only[go_sem,←hE,hE2];refine wG tK ?_;refine wT ?_;simp
 ·have hat:isE n.entries s=true:=by simpa using h
  have hpl:aO n.entries s<n.entries.length:=by
   unfold isE at hat;rw[Bool.and_eq_true] at hat;exact of_decide_eq_true hat.1
  have hS:n.entries.set (aO n.entries s) ⟨s,f⟩=bz n.entries s f:=by
   unfold bz;rw[hat,if_pos rfl]
  have hE:(bz n.entries s f).length=n.entries.length:=by rw[←hS,Yi]
  have hlt:aO n.entries s<(n.entries).length:=by omega
  have hg:=qu hlt;have hq:((n.entries).map ZE).set (aO n.entries s) [.str s,.int .i64 f]=(bz n.entries s f).map ZE:=by
   rw[←hS,List.map_set];rfl
  refine wR ?_;refine wN tK 6 ?_;refine wNq tK 1 ?_ ?_
  ·exact ⟨by simp,by omega,by omega⟩
  refine wNq tK 1 ?_ ?_
  ·exact ⟨by simp,by omega⟩
  simp only[go_sem,hg,hq];refine ZZ 1000 rfl (dt _) ?_;have hr:ZN (aA n s f)=[.int .i64 n.fid,.bool n.dir,.sl (n.data.map ZY),.sl ((bz n.entries s f).map ZE),.int .i64 n.version]:=rfl;rw[hr];have hE2:=Wy (l:=(bz n.entries s f).map ZE) (i:=(bz n.entries s f).length) y8;simp only[go_sem,←hE,hE2];refine wG tK ?_;refine wT ?_;simp
theorem hold {K H:List (Nat×Blk)} (h:∀p,p∈K->aa H p.1=some p.2):∀i b,aa K i=some b->aa H i=some b:=λi b hb=>h (i,b) (bk hb)
theorem cV {a b:Nat} {x y:Blk} {H:List (Nat×Blk)} (h1:aa H a=some x) (h2:aa H b=some y):∀i c,(if a=i then some x else if b=i then some y else none)=some c->aa H i=some c:=λi c hc=>by
 by_cases e1:a=i
 ·subst e1;rw[if_pos rfl] at hc;rw[h1,hc]
 ·rw[if_neg e1] at hc
  by_cases e2:b=i
  ·subst e2;rw[if_pos rfl] at hc;rw[h2,hc]
  ·rw[if_neg e2] at hc;cases hc
def ar (l:List Node) (k:Int):Node:=(ak l k).getD al
def eM (l:List Node) (k:Int):Int:=match ak l k with
 | none=>12
 | some n=>if n.dir then 0 else 8
def cf (n:Node) (s:List UInt8):Int:=if cE s then (if isE n.entries s then 7 else if n.entries.length≥6 then 5 else 0) else 7
def ZD (l:List Node) (a:Act) (v:Int):List AV:=[.sl (l.map ZN),.int .i64 a.kind,.int .i64 a.fid,.int .i64 a.dir,.str a.name,.int .i64 a.to,.str a.toName,.sl (a.data.map ZY),.int .i64 v]
@[go_sem,simp] theorem FH (l:List Node) (a:Act) (v:Int):aE (ZD l a v)=[]:=rfl
def dH (R:List AV) (G Y N:Nat->Nat):List (Nat×Blk):=[(15,.cells 169 9 [R])]++pins [15] G Y N
theorem B5 (n:Node) (s:List UInt8) (hn:n.Small) (hs:s.length≤100000000):af Tryz.prog 141 [.agg (ZN n),.str s] [] (λr _=>r=.int .i64 (cf n s)):=by
 have hlen:=hn.entries;refine ZF tK (Tryz.func141) rfl (λC=>?_);simp only[Tryz.ntmps141,Tryz.results141,go_sem];refine wGq tK ?_ ?_ w6
 ·simp
 refine wC Tryz.func90 (hf:=(BX s hs)) (hk:=?_);refine wG tK ?_;refine wD (λh=>?_) (λh=>?_)
 ·have h0:cE s=false:=by simpa using h
  refine wG tK ?_;refine wT ?_;simp[cf,h0]
 have h0:cE s=true:=by simpa using h
 refine wGq tK ?_ ?_ w6
 ·simp[ZN]
 refine wC Tryz.func58 (hf:=(kb n s hn)) (hk:=?_);cases he:isE n.entries s with
 | true=>
  have e1:av n s=some (n.entries.getD (aO n.entries s) default).fid:=by unfold av;rw[if_pos he]
  rw[e1];simp only[eV];refine wG tK ?_;refine wD (λh=>?_) (λh=>?_)
  ·refine wG tK ?_;refine wT ?_;simp[cf,h0,he]
  ·cases h
 | false=>
  have e1:av n s=none:=by unfold av;rw[if_neg QS]
  rw[e1];simp only[eV];refine wG tK ?_;refine wD (λh=>?_) (λh=>?_)
  ·cases h
  refine wGq tK ?_ ?_ w6
  ·simp[ZN]
  refine wD (λh=>?_) (λh=>?_)
  ·have h6:6≤n.entries.length:=by simp at h;omega
   refine wG tK ?_;refine wT ?_;simp[cf,h0,he,h6]
  ·have h6:¬6≤n.entries.length:=by simp at h;omega
   refine wG tK ?_;refine wT ?_;simp[cf,h0,he,h6]
theorem Ac (l:List Node) (a:Act) (v k:Int) (hl:Small l) (G Y N:Nat->Nat):af Tryz.prog 140 [.ptr 15 9 0 0,.int .i64 k] (dH (ZD l a v) G Y N)
  (λr H=>r=.tup [.agg (ZN (ar l k)),.int .i64 (eM l k)]/\∀i b,aa (dH (ZD l a v) G Y N) i=some b->aa H i=some b):=by
 unfold dH;refine ZF tK (Tryz.func140) rfl (λC=>?_);simp only[Tryz.ntmps140,Tryz.results140,go_sem];refine wGq tK ?_ ?_ k9
 ·simp[ZD]
 refine wC Tryz.func66 (hf:=(eI l k hl)) (hk:=?_);simp only[go_sem,gy];rw[cL];unfold ar eM;generalize ak l k=o;cases o with
 | none=>
  simp only[Option.getD_none,Option.isSome_none];refine wGq tK ?_ ?_ QY
  ·simp[ZN]
  refine wD (λh=>?_) (λh=>?_)
  ·refine wGq tK ?_ ?_ QY
   ·simp[ZN]
   refine wU ?_ (cV ?_ ?_)
   ·simp[ZN,al]
   ·simp[go_sem,ZD]
   ·simp[go_sem]
  ·cases h
 | some n=>
  simp only[Option.getD_some,Option.isSome_some];refine wGq tK ?_ ?_ w6
  ·simp[ZN]
  refine wD (λh=>?_) (λh=>?_)
  ·cases h
  refine wGq tK ?_ ?_ w6
  ·simp[ZN]
  refine wD (λh=>?_) (λh=>?_)
  ·have hd:n.dir=false:=by simpa using h
   refine wGq tK ?_ ?_ w6
   ·simp[ZN]
   refine wU ?_ (cV ?_ ?_)
   ·simp[ZN,hd]
   ·simp[go_sem,ZD]
   ·simp[go_sem]
  ·have hd:n.dir=true:=by simpa using h
   refine wGq tK ?_ ?_ w6
   ·simp[ZN]
   refine wU ?_ (cV ?_ ?_)
   ·simp[ZN,hd]
   ·simp[go_sem,ZD]
   ·simp[go_sem]
theorem pY (l:List Node) (a:Act) (v:Int) (n:Node) (hl:Small l) (hn:n.Small) (G Y N:Nat->Nat):af Tryz.prog 142 [.ptr 15 9 0 0,.agg (ZN n)] (dH (ZD l a v) G Y N)
  (λr H=>r=.tup []/\∀i b,aa (dH (ZD (aD l { n with version:=v }) a v) G Y N) i=some b->aa H i=some b):=by
 have hp:=Jm l ({ n with version:=v }:Node) hl ⟨hn.data,hn.entries⟩;unfold dH;refine ZF tK (Tryz.func142) rfl (λC=>?_);simp only[Tryz.ntmps142,Tryz.results142,go_sem];refine wGq tK ?_ ?_ QE
 ·simp[ZD]
 refine ZZ 3 rfl (rfl) ?_;simp only[go_sem];refine ZW ZM ?_;refine ZS rfl ?_;refine sG tK ?_;refine sC Tryz.func176 (hf:=(hp)) (hk:=?_);refine sG tK ?_;refine sE ?_;refine dS tK ?_;refine wKd ?_
 try simp only[go_sem,gA,gB,gC]
 refine kN ⟨_,_,rfl,trivial,.tup [],.inr (.inl rfl),rfl,cV ?_ ?_⟩
 ·simp[go_sem,ZD]
 ·simp[go_sem]
theorem tW (a b:List UInt8):af Tryz.prog 113 [.sl (a.map ZY),.sl (b.map ZY)] [] (λr _=>r=.bool (a==b)):=by
 refine ZF tK (Tryz.func113) rfl (λC=>?_);simp only[Tryz.ntmps113,Tryz.results113,go_sem];refine wGq tK ?_ ?_
 ·simp
 refine wT ?_;simp
theorem vu {α:Type} [Inhabited α] [DecidableEq α] {a b:List α} {i:Nat} (h:a.take i=b.take i) (ha:i<a.length) (hb:i<b.length) (e:a.getD i default=b.getD i default):a.take (i+1)=b.take (i+1):=by
 rw[ZT ha,ZT hb,h,e]
theorem vr {α:Type} [Inhabited α] {a b:List α} {i:Nat} (e:¬a.getD i default=b.getD i default):a≠b:=by rintro rfl;exact e rfl
theorem qY (a b:List Entry) (ha:a.length≤100000000) (hb:b.length≤100000000):af Tryz.prog 114 [.sl (a.map ZE),.sl (b.map ZE)] [] (λr _=>r=.bool (decide (a=b))):=by
 refine ZF tK (Tryz.func114) rfl (λC=>?_);simp only[Tryz.ntmps114,Tryz.results114,go_sem];refine wG tK ?_;refine wD (λh=>?_) (λh=>?_)
 ·have hne:a≠b:=by rintro rfl;simp at h
  refine wG tK ?_;refine wT ?_;simp[hne]
 have hl:a.length=b.length:=by simp at h;omega
 refine wG tK ?_;refine ZL (λi:Nat=>i≤a.length/\a.take i=b.take i) (λi=>a.length-i) (λi=>(5,.any)::(13,.int .i64 i)::u0 14 12 []) (λ_=>[]) 0 ⟨by omega,by simp⟩ ?_ λi hi=>?_
 ·simp only[go_sem];exact ZU w3 w3 w3
 obtain ⟨hi,hs⟩:=hi;simp only[go_sem];refine wG tK ?_;refine wD (λh=>?_) (λh=>?_)
 ·have hlt:i<a.length:=by simp at h;omega
  have hltb:i<b.length:=by omega
  have hga:(a.map ZE).getD i []=ZE (a.getD i default):=Fam.getD hlt;have hgb:(b.map ZE).getD i []=ZE (b.getD i default):=Fam.getD hltb;have htk:=vu hs hlt hltb;have htd:=vr (a:=a) (b:=b) (i:=i);generalize a.getD i default=x at hga htk htd;generalize b.getD i default=y at hgb htk htd;refine wG tK ?_;refine ZW ZM ?_;refine ZS rfl ?_;refine sNq tK 8 ?_ ?_ z6 z6 WT
  ·simp[hga,hgb,ZE,hlt,hltb]
  refine sE ?_;refine eu rfl w4 rfl (tI tK rfl (tys:=[9,3]) w4 z7 z7 z6 Qi) rfl ?_;refine wKd ?_;have hxy:(x.name==y.name&&x.fid==y.fid)=decide (x=y):=by
   obtain ⟨n1,f1⟩:=x;obtain ⟨n2,f2⟩:=y
   by_cases h1:n1=n2<;>by_cases h2:f1=f2<;>simp[h1,h2]
  simp only[go_sem,Bool.and_true,hxy];refine wG tK ?_;refine wD (λh=>?_) (λh=>?_)
  ·have hne:x≠y:=by simpa using h
   have:=htd hne;refine wG tK ?_;refine wT ?_;simp[this]
  ·have heq:x=y:=by simpa using h
   have hw:=wi1 (i:=i) z8;refine wG tK ?_ w5 k7;refine ZB ⟨i+1,⟨by omega,htk heq⟩,by omega,ZU ?_ ?_ ?_⟩
   ·simp[go_sem];exact hw
   ·simp[go_sem]
   ·simp[go_sem]
 ·have e:i=a.length:=by simp at h;omega
  have hab:a=b:=by
   rw[e,W2,hl,W2] at hs;exact hs
  refine wG tK ?_;refine wT ?_;simp[hab]
def cg (v:Bool) (a b:Node):Bool:=a.fid==b.fid&&a.dir==b.dir&&a.data==b.data&&decide (a.entries=b.entries)&&(!v||a.version==b.version)
theorem jG (a b:Node) (v:Bool) (ha:a.Small) (hb:b.Small):af Tryz.prog 52 [.agg (ZN a),.agg (ZN b),.bool v] [] (λr _=>r=.bool (cg v a b)):=by
 have hla:=ha.entries;have hlb:=hb.entries;unfold ZN;refine ZF tK (Tryz.func52) rfl (λC=>?_);simp only[Tryz.ntmps52,Tryz.results52,go_sem];refine wR ?_;refine wN tK 3 ?_;refine wR ?_;refine ZZ 3 rfl (rfl) ?_;refine ZZ 4 rfl (rfl) ?_;simp only[go_sem];refine wN tK 5 ?_;refine aq 12 z6 (λc12 h12=>?_);simp only[go_sem];refine wN tK 7 ?_;refine aq 19 z6 (λc19 h19=>?_);simp only[go_sem];refine wN tK 9 ?_;refine aq 28 z6 (λc28 h28=>?_);simp only[go_sem];refine wN tK 9 ?_;refine aq 37 z6 (λc37 h37=>?_);simp only[go_sem];refine wNq tK 10 ?_ ?_
 ·cases c37<;>cases v<;>simp
 refine aq 47 z6 (λc47 h47=>?_);simp only[go_sem];have hdiff:c47=!(a.fid==b.fid&&a.dir==b.dir&&a.data==b.data&&(a.entries.length==b.entries.length)&&(!v||a.version==b.version)):=by
  subst h47 h37 h28 h19 h12;have e:((a.entries.length:Int) != (b.entries.length:Int))=!(a.entries.length==b.entries.length):=by
   rw[Ym];simp;omega
  rw[e];simp only[bne];cases (a.fid==b.fid)<;>cases (a.dir==b.dir)<;>cases (a.data==b.data)<;>cases (a.entries.length==b.entries.length)<;>cases v<;>cases (a.version==b.version)<;>rfl
 refine wD (λh=>?_) (λh=>?_)
 ·rw[hdiff] at h;refine wG tK ?_;refine wT ?_;have:cg v a b=false:=by
   unfold cg;have hn:decide (a.entries=b.entries)=true->(a.entries.length==b.entries.length)=true:=λh=>by
    rw[of_decide_eq_true h];simp
   revert h hn
   cases (a.fid==b.fid)<;>cases (a.dir==b.dir)<;>cases (a.data==b.data)<;>cases (a.entries.length==b.entries.length)<;>cases v<;>cases (a.version==b.version)<;>cases decide (a.entries=b.entries)<;>simp
  rw[this]
 rw[hdiff] at h;have hl:a.entries.length=b.entries.length:=by
  revert h
  cases e:(a.entries.length==b.entries.length)
  ·simp
  ·intro _;simpa using e
 have hsn:cg v a b=decide (a.entries=b.entries):=by
  unfold cg
  revert h
  cases (a.fid==b.fid)<;>cases (a.dir==b.dir)<;>cases (a.data==b.data)<;>cases (a.entries.length==b.entries.length)<;>cases v<;>cases (a.version==b.version)<;>simp
 rw[hsn];clear h12 h19 h28 h37 h47;refine wG tK ?_;refine ZL (λi:Nat=>i≤a.entries.length/\a.entries.take i=b.entries.take i) (λi=>a.entries.length-i) (λi=>(7,.any)::(51,.int .i64 i)::u0 52 14 []) (λ_=>[]) 0 ⟨by omega,by simp⟩ ?_ λi hi=>?_
 ·simp only[go_sem];exact ZU w3 w3 w3
 obtain ⟨hi,hs⟩:=hi;simp only[go_sem];refine wG tK ?_;refine wD (λh=>?_) (λh=>?_)
 ·have hlt:i<a.entries.length:=by simp at h;omega
  have hltb:i<b.entries.length:=by omega
  have hga:(a.entries.map ZE).getD i []=ZE (a.entries.getD i default):=Fam.getD hlt;have hgb:(b.entries.map ZE).getD i []=ZE (b.entries.getD i default):=Fam.getD hltb;have htk:=vu hs hlt hltb;have htd:=vr (a:=a.entries) (b:=b.entries) (i:=i);generalize a.entries.getD i default=x at hga htk htd;generalize b.entries.getD i default=y at hgb htk htd;refine wG tK ?_;refine ZW ZM ?_;refine ZS rfl ?_;refine sNq tK 10 ?_ ?_ z6 z6 WT
  ·simp[hga,hgb,ZE,hlt,hltb]
  refine sE ?_;refine eu rfl w4 rfl (tI tK rfl (tys:=[9,3]) w4 z7 z7 z6 Qi) rfl ?_;refine wKd ?_;have hxy:(x.name==y.name&&x.fid==y.fid)=decide (x=y):=by
   obtain ⟨n1,f1⟩:=x;obtain ⟨n2,f2⟩:=y
   by_cases h1:n1=n2<;>by_cases h2:f1=f2<;>simp[h1,h2]
  simp only[go_sem,Bool.and_true,hxy];refine wG tK ?_;refine wD (λh=>?_) (λh=>?_)
  ·have hne:x≠y:=by simpa using h
   have:=htd hne;refine wG tK ?_;refine wT ?_;simp[this]
  ·have heq:x=y:=by simpa using h
   have hw:=wi1 (i:=i) z8;refine wG tK ?_ w5 k7;refine ZB ⟨i+1,⟨by omega,htk heq⟩,by omega,ZU ?_ ?_ ?_⟩
   ·simp[go_sem];exact hw
   ·simp[go_sem]
   ·simp[go_sem]
 ·have e:i=a.entries.length:=by simp at h;omega
  have hab:a.entries=b.entries:=by
   rw[e,W2,hl,W2] at hs;exact hs
  refine wG tK ?_;refine wT ?_;simp[hab]
theorem nU {l:List Node} (hl:Small l) {n:Node} (hn:n.Small) (hlen:l.length≤99999999):Small (aD l n):=by
 refine ⟨by have:=qN l n;omega,λx hx=>?_⟩;unfold aD at hx;split at hx
 ·rcases Yr hx with h | rfl
  ·exact hl.each x h
  ·exact hn
 ·rcases List.mem_append.1 hx with h | h
  ·exact hl.each x (YB h)
  ·rcases List.mem_cons.1 h with rfl | h
   ·exact hn
   ·exact hl.each x (YS h)
theorem oB {n:Node} (hn:n.Small) (s:List UInt8) (f:Int) (h:n.entries.length≤99999999):(aA n s f).Small:=by
 refine ⟨hn.data,?_⟩
 show (bz n.entries s f).length≤_
 unfold bz;split
 ·simp;omega
 ·have:=pH n.entries s;simp;omega
theorem oM {n:Node} (hn:n.Small) (s:List UInt8):(aC n s).Small:=
 ⟨hn.data,by
  have:=W6 (λe:Entry=>!(e.name==s)) n.entries;have:=hn.entries
  show (de n.entries s).length≤_
  unfold de;omega⟩
end La
