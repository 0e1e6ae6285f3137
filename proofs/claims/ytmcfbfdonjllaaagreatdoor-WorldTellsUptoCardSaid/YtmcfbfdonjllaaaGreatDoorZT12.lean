/- Texts of this claim, part 12: Aux, Maps, PBfs, Hof2, Enter, Doer, SameN, PutsS. No condition. -/
import Derived.Test.YtmcfbfdonjllaaaGreatDoorZT10
set_option maxRecDepth 10000
set_option maxHeartbeats 4000000
set_option linter.unusedSimpArgs false
set_option linter.unusedVariables false
namespace La
open Go Go.Eng Go.Proofs
theorem lO {α:Type} {p:α->Bool} (l:List α):decide (cc (l.findIdx? p)≥0)=l.any p:=by
 cases h:l.findIdx? p with
 | none=>
  rw[W3] at h;have:l.any p=false:=by rw[List.any_eq_false];intro x hx;simp[h x hx]
  rw[this];rfl
 | some k=>
  have:l.any p=true:=by
   obtain ⟨hk,h1,_⟩:=W5.1 h;exact List.any_eq_true.2 ⟨_,YO hk,h1⟩
  rw[this];simp[cc]
theorem fx:∀{l:List AV},(l.all AV.aY)=true->∃q,(∀h,fk h l=some (q,l))/\q
 | [],_=>⟨True,λ_=>rfl,trivial⟩
 | x::r,hp=>by
  simp only[List.all_cons,Bool.and_eq_true] at hp;obtain ⟨q,h1,h2⟩:=fx hp.2;have hx:∀h,view h x=some (True,x):=λh=>by
   cases x with
   | osl=>cases hp.1
   | ptr=>cases hp.1
   | mp=>cases hp.1
   | fn=>cases hp.1
   | agg=>cases hp.1
   | any=>cases hp.1
   | tup=>cases hp.1
   | cnd=>cases hp.1
   | exs=>cases hp.1
   | _=>rfl
  exact ⟨True/\q,λh=>by simp only[fk,hx,h1],trivial,h2⟩
theorem bV:∀{l:List AV},(l.all AV.aY)=true->aC l=[]
 | [],_=>rfl
 | x::r,hp=>by
  simp only[List.all_cons,Bool.and_eq_true] at hp;have hx:refs x=[]:=by cases x<;>first | rfl | cases hp.1
  simp only[aC,hx,bV hp.2,List.append_nil]
theorem eR {α:Type} {l:List α} {p:α->Bool} {j:Nat} (h:l.findIdx? p=some j):(l.take (j+1)).filter (λx=>!p x)=l.take j:=by
 obtain ⟨hk,h1,h2⟩:=W5.1 h;rw[List.take_succ_eq_append_getElem hk,List.filter_append];have e1:(l.take j).filter (λx=>!p x)=l.take j:=W9.2 λx hx=>by
  obtain ⟨i,hi⟩:=Wu hx;rw[W4] at hi;split at hi
  ·rename_i hij;have:=h2 i hij;have e:l[i]? = some l[i]:=Wj z8;rw[e] at hi;injection hi with hi
   rw[←hi];simpa using this
  ·cases hi
 rw[e1];simp[h1]
structure DelInv {α:Type} (p:α->Bool) (l:List α) (j:Nat) (L:List α):Prop where
 le:j≤l.length
 len:L.length=l.length
 drop:L.drop j=l.drop j
 take:L.take ((l.take j).filter λx=>!p x).length=(l.take j).filter λx=>!p x
 lt:((l.take j).filter λx=>!p x).length<j
theorem DelInv.start {α:Type} {p:α->Bool} {l:List α} {k:Nat} (h:l.findIdx? p=some k):DelInv p l (k+1) l:=by
 have hk:k<l.length:=(W5.1 h).1;have e:=eR h;have el:(l.take k).length=k:=by simp;omega
 refine ⟨hk,rfl,rfl,?_,?_⟩
 ·rw[e,el]
 ·rw[e,el];omega
theorem DelInv.get {α:Type} [Inhabited α] {p:α->Bool} {l L:List α} {j:Nat} (h:DelInv p l j L) (hj:j<l.length):L.getD j default=l.getD j default:=by
 have:=h.drop;rw[b_ hj,b_ (show j<L.length by rw[h.len];exact hj)] at this;injection this
theorem DelInv.skip {α:Type} [Inhabited α] {p:α->Bool} {l L:List α} {j:Nat} (h:DelInv p l j L) (hj:j<l.length) (hp:p (l.getD j default)=true):DelInv p l (j+1) L:=by
 have e:(l.take (j+1)).filter (λx=>!p x)=(l.take j).filter λx=>!p x:=by
  rw[ZT hj,List.filter_append];simp only[List.filter_cons,hp,List.filter_nil,Bool.not_true,Bool.false_eq_true,if_false,List.append_nil]
 refine ⟨hj,h.len,?_,?_,?_⟩
 ·rw[←List.drop_drop,←List.drop_drop,h.drop]
 ·rw[e];exact h.take
 ·rw[e];have:=h.lt;omega
theorem DelInv.DD {α:Type} [Inhabited α] {p:α->Bool} {l L:List α} {j:Nat} (h:DelInv p l j L) (hj:j<l.length) (hp:p (l.getD j default)=false) :
  DelInv p l (j+1) (L.set ((l.take j).filter λx=>!p x).length (l.getD j default))/\((l.take (j+1)).filter λx=>!p x).length=((l.take j).filter λx=>!p x).length+1:=by
 have e:(l.take (j+1)).filter (λx=>!p x)=(l.take j).filter (λx=>!p x)++[l.getD j default]:=by
  rw[ZT hj,List.filter_append];simp only[List.filter_cons,hp,List.filter_nil,Bool.not_false,if_true]
 have hlt:=h.lt;have hlen:=h.len;have htk:=h.take;generalize hd:(l.take j).filter (λx=>!p x)=d at *;refine ⟨⟨hj,by simp[hlen],?_,?_,?_⟩,by rw[e];simp⟩
 ·have:(L.set d.length (l.getD j default)).drop (j+1)=L.drop (j+1):=by
   rw[List.drop_set];rw[if_pos z8]
  rw[this,←List.drop_drop,←List.drop_drop,h.drop]
 ·rw[e];simp only[List.length_append,List.length_cons,List.length_nil,W8];rw[List.take_succ_eq_append_getElem j0,List.take_set_of_le (Wt _),htk];simp
 ·rw[e];simp;omega
theorem DelInv.fin {α:Type} {p:α->Bool} {l L:List α} (h:DelInv p l l.length L):L.take (l.filter λx=>!p x).length=l.filter λx=>!p x:=by
 have:=h.take
 rwa [Wo] at this
theorem oC {α:Type} (f:α->List AV) (l:List α) (i:Nat) (x:α):(l.map f).set i (f x)=(l.set i x).map f:=by rw[List.map_set]
theorem iF {α:Type} (f:α->List AV) {L:List α} {d:List α} (z:List AV) (h:L.take d.length=d) (hd:d.length≤L.length) :
  aX (L.map f) d.length (List.replicate (L.length-d.length) z)=d.map f++List.replicate (L.length-d.length) z:=by
 unfold aX;rw[←Yh,h,List.drop_eq_nil_of_le j0,List.append_nil]
@[go_sem,simp] theorem Gs (e s:Nat) (a b:List (List AV)):Eng.aB (.cells e s (a++b))=Eng.aB (.cells e s a)++Eng.aB (.cells e s b):=by
 simp only[Eng.aB,List.flatMap_append]
@[go_sem,simp] theorem IY (e s n:Nat) (z:List AV) (h:aC z=[]):Eng.aB (.cells e s (List.replicate n z))=[]:=by
 simp only[Eng.aB]
 induction n with
 | zero=>rfl
 | succ n ih=>simp only[List.replicate_succ,List.flatMap_cons,h,ih,List.append_nil]
attribute [go_sem] List.map_append List.map_replicate
theorem gQ {α:Type} {a b:List α} {n:Nat} (h:n=a.length):(a++b).take n=a:=by subst h;simp
theorem iS (n:Nat) {z:List AV} (h:(z.all AV.aY)=true):((List.replicate n z).all λrow=>row.all AV.aY)=true:=by
 rw[List.all_eq_true];intro row hr;rw[(Yl.1 hr).2];exact h
theorem lT {α β:Type} (g:α->β):∀(m:List (Int×α)) (f:Int),bj (m.map λp=>(p.1,g p.2)) f=(bj m f).map g
 | [],_=>rfl
 | p::r,f=>by
  simp only[List.map_cons,bj,lT g r f];split<;>rfl
theorem n_ {α β:Type} (g:α->β):∀(m:List (Int×α)) (f:Int) (v:α),bt (m.map λp=>(p.1,g p.2)) f (g v)=(bt m f v).map λp=>(p.1,g p.2)
 | [],_,_=>rfl
 | p::r,f,v=>by
  simp only[List.map_cons,bt,n_ g r f v];split
  ·rfl
  ·split<;>rfl
theorem DO {α β:Type} (g:α->β) (m:List (Int×α)) (f:Int):ec (m.map λp=>(p.1,g p.2)) f=(ec m f).map λp=>(p.1,g p.2):=by
 unfold ec;rw[List.filter_map];rfl
def mI (m:List (Int×Int)):List (Int×AV):=m.map λp=>(p.1,.int .i64 p.2)
def mB (m:List (Int×Bool)):List (Int×AV):=m.map λp=>(p.1,.bool p.2)
def cO (m:List (Int×Bool)) (f:Int):Bool:=(bj m f).getD false
def FR (m:List (Int×Int)) (f:Int):Int:=(bj m f).getD 0
def gT (m:List (Int×Int)) (f:Int):Bool:=(bj m f).isSome
@[go_sem] theorem Je (m:List (Int×Int)) (f:Int):(bj (mI m) f).getD (.int .i64 0)=.int .i64 (FR m f):=by
 unfold mI FR;rw[lT (λx=>AV.int .i64 x)];cases bj m f<;>rfl
@[go_sem] theorem Jf (m:List (Int×Int)) (f:Int):(bj (mI m) f).isSome=gT m f:=by
 unfold mI gT;rw[lT (λx=>AV.int .i64 x)];cases bj m f<;>rfl
@[go_sem] theorem Jg (m:List (Int×Int)) (f x:Int):bt (mI m) f (.int .i64 x)=mI (bt m f x):=n_ (λx=>AV.int .i64 x) m f x
@[go_sem] theorem Jd (m:List (Int×Int)) (f:Int):ec (mI m) f=mI (ec m f):=DO (λx=>AV.int .i64 x) m f
@[go_sem] theorem Jb (m:List (Int×Bool)) (f:Int):(bj (mB m) f).getD (.bool false)=.bool (cO m f):=by
 unfold mB cO;rw[lT AV.bool];cases bj m f<;>rfl
@[go_sem] theorem Jc (m:List (Int×Bool)) (f:Int) (x:Bool):bt (mB m) f (.bool x)=mB (bt m f x):=n_ AV.bool m f x
def mN (m:List (Int×Node)):List (Int×AV):=m.map λp=>(p.1,.agg (ZN p.2))
theorem gV (m:List (Int×Node)) (k:Int):bj (mN m) k=(bj m k).map λn=>.agg (ZN n):=lT (λn=>AV.agg (ZN n)) m k
theorem vt (m:List (Int×Node)) (k:Int) (n:Node):bt (mN m) k (.agg (ZN n))=mN (bt m k n):=n_ (λn=>AV.agg (ZN n)) m k n
def ej {α:Type} (m:List (Int×α)):Prop:=m.Pairwise λa b=>a.1<b.1
theorem jL {m:List (Int×Bool)} (h:ej m) (f:Int) (b:Bool) (x:Int):cO (bt m f b) x=if x=f then b else cO m x:=by
 unfold cO;rw[mD h];split<;>rfl
end La
namespace La
open Go Go.Eng
inductive MReach (m:List (Int×Node)) (k:Int):Int->Prop
 | refl:MReach m k k
 | step {x:Int} {n:Node} {e:Entry} (h:MReach m k x) (hn:bj m x=some n) (he:e∈n.entries):MReach m k e.fid
def nF (m:List (Int×Node)):List Int:=m.flatMap λp=>p.2.entries.map (·.fid)
theorem CV {m:List (Int×Node)} {x:Int} {n:Node} {e:Entry} (hn:bj m x=some n) (he:e∈n.entries):e.fid∈nF m:=
 List.mem_flatMap.2 ⟨_,cU hn,Wq.2 ⟨e,he,rfl⟩⟩
def gv (m:List (Int×Node)) (had:List (Int×Bool)):Nat:=((nF m).filter λf=>!(cO had f)).length
theorem Au {m:List (Int×Node)} {had:List (Int×Bool)} (hr:ej had) {f:Int} (hf:f∈nF m) (h:cO had f=false):gv m (bt had f true)+1≤gv m had:=by
 unfold gv;generalize nF m=l at hf;have hle:∀l:List Int,(l.filter λx=>!(cO (bt had f true) x)).length≤(l.filter λx=>!(cO had x)).length:=λl=>by
  induction l with
  | nil=>simp
  | cons x r ih=>
   rw[List.filter_cons,List.filter_cons,jL hr]
   by_cases hx:x=f
   ·subst hx;simp[h];omega
   ·simp only[hx,if_false];split<;>(try simp only[List.length_cons])<;>omega
 induction l with
 | nil=>cases hf
 | cons x r ih=>
  rw[List.filter_cons,List.filter_cons,jL hr]
  by_cases hx:x=f
  ·subst hx;have:=hle r;simp[h];omega
  ·have hf2:f∈r:=by
    rcases List.mem_cons.1 hf with h1 | h1
    ·exact absurd h1.symm hx
    ·exact h1
   have:=ih hf2;simp only[hx,if_false];split<;>(try simp only[List.length_cons])<;>omega
structure BI (m:List (Int×Node)) (k:Int) (had:List (Int×Bool)) (T:List Int):Prop where
 rise:ej had
 sound:∀x,cO had x=true->MReach m k x
 start:cO had k=true
 todo:∀x,x∈T->cO had x=true
 shut:∀x,cO had x=true->x∉T->∀n,bj m x=some n->∀e,e∈n.entries->cO had e.fid=true
 size:T.length+gv m had≤(nF m).length+1
structure BJ (m:List (Int×Node)) (k:Int) (x:Int) (n:Node) (c:Nat) (j:Nat) (had:List (Int×Bool)) (T:List Int):Prop where
 at_:bj m x=some n
 rise:ej had
 sound:∀x,cO had x=true->MReach m k x
 start:cO had k=true
 todo:∀x,x∈T->cO had x=true
 shut:∀x,cO had x=true->x∉T->∀n,bj m x=some n->∀e,e∈n.entries->cO had e.fid=true
 done:∀e,e∈n.entries.take j->cO had e.fid=true
 head:∃r,T=x::r
 size:T.length+gv m had≤c
theorem BI.begin (m:List (Int×Node)) (k:Int):BI m k (bt [] k true) [k]:=by
 have hr:ej ([]:List (Int×Bool)):=List.Pairwise.nil;have hg:∀x,cO (bt [] k true) x=true->x=k:=λx h=>by
  rw[jL hr] at h
  by_cases e:x=k
  ·exact e
  ·rw[if_neg e] at h;cases h
 refine ⟨cq hr,λx h=>by rw[hg x h];exact .refl,by rw[jL hr,if_pos rfl],λx h=>by rw[List.mem_singleton.1 h,jL hr,if_pos rfl],λx h hn=>absurd (List.mem_singleton.2 (hg x h)) hn,?_⟩;have:gv m (bt [] k true)≤(nF m).length:=Wr _ _;simp;omega
theorem BI.inner {m:List (Int×Node)} {k:Int} {had:List (Int×Bool)} {x:Int} {r:List Int} (h:BI m k had (x::r)) {n:Node} (hn:bj m x=some n):BJ m k x n ((x::r).length+gv m had) 0 had (x::r):=
 ⟨hn,h.rise,h.sound,h.start,h.todo,h.shut,λe he=>by simp at he,⟨r,rfl⟩,Wt _⟩
theorem BI.none {m:List (Int×Node)} {k:Int} {had:List (Int×Bool)} {x:Int} {r:List Int} (h:BI m k had (x::r)) (hn:bj m x=none):BI m k had r:=
 ⟨h.rise,h.sound,h.start,λy hy=>h.todo y (List.mem_cons_of_mem _ hy),λy hy hno n hmn=>h.shut y hy (λhm=>by
  rcases List.mem_cons.1 hm with rfl | hm
  ·rw[hn] at hmn;cases hmn
  ·exact hno hm) n hmn,by have:=h.size;simp at this;omega⟩
theorem BJ.pop {m:List (Int×Node)} {k x:Int} {n:Node} {c:Nat} {had:List (Int×Bool)} {T:List Int} (h:BJ m k x n c n.entries.length had T) (hc:c≤(nF m).length+1) :
  BI m k had (T.drop 1)/\(T.drop 1).length+gv m had<c:=by
 obtain ⟨r,rfl⟩:=h.head;have hs:=h.size;simp only[List.length_cons] at hs;simp only[List.drop_succ_cons,List.drop_zero];refine ⟨⟨h.rise,h.sound,h.start,λy hy=>h.todo y (List.mem_cons_of_mem _ hy),λy hy hno n' hmn e he=>?_,by omega⟩,by omega⟩
 by_cases hyx:y=x
 ·subst hyx;rw[h.at_] at hmn;injection hmn with hmn;subst hmn
  exact h.done e (by rw[Wo];exact he)
 ·exact h.shut y hy (λhm=>by
   rcases List.mem_cons.1 hm with h1 | h1
   ·exact hyx h1
   ·exact hno h1) n' hmn e he
theorem BJ.skip {m:List (Int×Node)} {k x:Int} {n:Node} {c j:Nat} {had:List (Int×Bool)} {T:List Int} (h:BJ m k x n c j had T) (hj:j<n.entries.length) (hb:cO had (n.entries.getD j default).fid=true):BJ m k x n c (j+1) had T:=
 ⟨h.at_,h.rise,h.sound,h.start,h.todo,h.shut,λe he=>by
  rw[ZT hj] at he
  rcases List.mem_append.1 he with he | he
  ·exact h.done e he
  ·rw[List.mem_singleton.1 he];exact hb,h.head,h.size⟩
theorem BJ.add {m:List (Int×Node)} {k x:Int} {n:Node} {c j:Nat} {had:List (Int×Bool)} {T:List Int} (h:BJ m k x n c j had T) (hj:j<n.entries.length) (hb:cO had (n.entries.getD j default).fid=false) :
  BJ m k x n c (j+1) (bt had (n.entries.getD j default).fid true) (T++[(n.entries.getD j default).fid]):=by
 have hmem:n.entries.getD j default∈n.entries:=YG hj;have htk:∀e,e∈n.entries.take (j+1)->e∈n.entries.take j\/e=n.entries.getD j default:=λe he=>by
  rw[ZT hj] at he
  rcases List.mem_append.1 he with he | he
  ·exact .inl he
  ·exact .inr (List.mem_singleton.1 he)
 generalize n.entries.getD j default=f at *;have hg:∀y,cO (bt had f.fid true) y=if y=f.fid then true else cO had y:=jL h.rise f.fid true;have hmono:∀y,cO had y=true->cO (bt had f.fid true) y=true:=λy hy=>by rw[hg];split<;>first | rfl | exact hy
 obtain ⟨r,hr⟩:=h.head;have hx:cO had x=true:=h.todo x (by rw[hr];simp);refine ⟨h.at_,cq h.rise,λy hy=>?_,hmono _ h.start,λy hy=>?_,λy hy hno n' hmn e he=>?_,λe he=>?_,⟨r++[f.fid],by rw[hr];rfl⟩,?_⟩
 ·rw[hg] at hy;split at hy
  ·rename_i e;subst e;exact .step (h.sound x hx) h.at_ hmem
  ·exact h.sound y hy
 ·rcases List.mem_append.1 hy with hy | hy
  ·exact hmono _ (h.todo y hy)
  ·rw[List.mem_singleton.1 hy,hg,if_pos rfl]
 ·rw[hg] at hy;split at hy
  ·rename_i e';exact absurd (Ww _ (List.mem_singleton.2 e')) hno
  ·exact hmono _ (h.shut y hy (λhm=>hno (W2 _ hm)) n' hmn e he)
 ·rcases htk e he with h1 | h1
  ·exact hmono _ (h.done e h1)
  ·rw[h1,hg,if_pos rfl]
 ·have:=Au h.rise (CV h.at_ hmem) hb;have:=h.size;simp only[List.length_append,List.length_cons,List.length_nil];omega
theorem BI.fin {m:List (Int×Node)} {k:Int} {had:List (Int×Bool)} (h:BI m k had []) (x:Int):cO had x=true↔MReach m k x:=by
 refine ⟨h.sound x,λhr=>?_⟩
 induction hr with
 | refl=>exact h.start
 | step hr hn he ih=>exact h.shut _ ih y7 _ hn _ he
end La
namespace La
open Go Go.Eng Go.Proofs
theorem sg (l:List Node) (hlen:l.length≤100000000) {f:FuncId} {caps:List AV} {p:Node->Bool} (hcal:aJ Tryz.prog f) (hpure:(caps.all AV.aY)=true)
  (hf:∀x,x∈l->ae Tryz.prog f (.agg (ZN x)::caps) [] (λr _=>r=.bool (p x))) :
  ae Tryz.prog 233 [.sl (l.map ZN),.fn f caps] [] (λr _=>r=.int .i64 (cc (l.findIdx? p))):=by
 have hcaps:=bV hpure;refine ZF tK (Tryz.func233) rfl (λC=>?_);simp only[Tryz.ntmps233,Tryz.results233,go_sem];refine wG tK ?_;refine ZL (λi:Nat=>i≤l.length/\∀x,x∈l.take i->p x=false) (λi=>l.length-i) (λi=>(8,.int .i64 i)::(5,.any)::u0 9 10 []) (λ_=>[]) 0 ⟨by omega,by simp⟩ ?_ λi hi=>?_
 ·simp only[go_sem];exact ZU w3 w3 u1
 obtain ⟨hi,hno⟩:=hi;simp only[go_sem];refine wG tK ?_;refine wD (λh=>?_) (λh=>?_)
 ·have hlt:i<l.length:=by simp at h;omega
  have hn:=hf _ (YG hlt);have hg:(l.map ZN).getD i []=ZN (l.getD i default):=Fam.getD hlt;have htk:=ZT hlt;have hgi:l[i]? = some (l.getD i default):=by rw[Wi,Wj hlt];rfl
  generalize l.getD i default=n at hn hg htk hgi;refine wGq tK ?_ ?_ s8
  ·simp[hlt,ZN]
  refine dG rfl rfl z7 w3 hcal u1 (hn) w3 z6 ?_;refine wG tK ?_;refine wD (λh=>?_) (λh=>?_)
  ·refine wG tK ?_;refine wT ?_;rw[eA hgi hno h];rfl
  ·have hw:IntKind.i64.wrap ((i:Int)+1)=(i:Int)+1:=wrap_small z8 z8;refine wG tK ?_ w5 k0;refine ZB ⟨i+1,⟨by omega,?_⟩,by omega,ZU ?_ ?_ ?_⟩
   ·rw[htk];intro x hx
    rcases List.mem_append.1 hx with hx | hx
    ·exact hno x hx
    ·rw[List.mem_singleton.1 hx];exact h
   ·simp[go_sem]
   ·simp[go_sem]
   ·simp[go_sem,hcaps]
 ·have e:i=l.length:=by simp at h;omega
  refine wG tK ?_;refine wT ?_;rw[e,Wo] at hno;rw[W3.2 hno];rfl
theorem qz (l:List Node) (hlen:l.length≤100000000) (id:Nat) {f:FuncId} {caps:List AV} {p:Node->Bool} (hcal:aJ Tryz.prog f) (hpure:(caps.all AV.aY)=true) (hid:id≠7)
  (hf:∀x,x∈l->ae Tryz.prog f (.agg (ZN x)::caps) [] (λr _=>r=.bool (p x))) :
  ae Tryz.prog 212 [.osl id 5 0 l.length,.fn f caps] [(id,.cells 94 5 (l.map ZN))] (λr H=>r=.osl id 5 0 (l.filter λx=>!p x).length /\
   ∀i b,aa [(id,.cells 94 5 ((l.filter λx=>!p x).map ZN++List.replicate (l.length-(l.filter λx=>!p x).length) [.int .i64 0,.bool false,.nils,.nils,.int .i64 0]))] i=some b->aa H i=some b):=by
 have hcaps:=bV hpure;obtain ⟨q,hv,hq⟩:=fx hpure;refine ZF tK (Tryz.func212) rfl (λC=>?_);simp only[Tryz.ntmps212,Tryz.results212,go_sem];refine wG tK ?_;refine mq rfl rfl z7 w3 QZ Zr ⟨_,Tryz.func233,by kernel_rfl,rfl⟩ (sg l hlen hcal hpure hf) w3 z6 ?_;refine wG tK ?_;refine wD (λh=>?_) (λh=>?_)
 ·refine wG tK ?_;refine wT ?_;have hn:l.findIdx? p=none:=by
   cases e:l.findIdx? p with
   | none=>rfl
   | some k=>rw[e] at h;simp[cc] at h
  have hfl:l.filter (λx=>!p x)=l:=W9.2 λx hx=>by
   simp[W3.1 hn x hx]
  rw[hfl];simp[aa]
 obtain ⟨k,hk⟩:∃k,l.findIdx? p=some k:=by
  cases e:l.findIdx? p with
  | none=>rw[e] at h;simp[cc] at h
  | some k=>exact ⟨k,rfl⟩
 have hkl:k<l.length:=(W5.1 hk).1;have hsp:=eR hk;rw[hk];have hw:IntKind.i64.wrap ((k:Int)+1)=((k+1:Nat):Int):=by rw[Eng.wrap_small z8 z8];rfl
 simp only[cc];refine wG tK ?_ w5 k0;refine ZL (λs:Nat×List Node=>DelInv p l s.1 s.2) (λs=>l.length-s.1) (λs=>(5,.int .i64 (((l.take s.1).filter λx=>!p x).length:Nat))::(6,.int .i64 (s.1:Nat))::(7,.any)::u0 16 20 []) (λs=>[(id,.cells 94 5 (s.2.map ZN))]) (k+1,l) (DelInv.start hk) ?_ λs hs=>?_
 ·have el:((l.take (k+1)).filter λx=>!p x).length=k:=by rw[hsp];simp;omega
  simp only[go_sem,el];exact ZU w3 w3 u1
 obtain ⟨j,L⟩:=s;have hjl:=hs.le;have hL:=hs.len;have hlt:=hs.lt;simp only at hs hjl hL hlt;simp only[go_sem];refine wG tK ?_;refine wD (λh=>?_) (λh=>?_)
 ·have hj:j<l.length:=by simp at h;omega
  have hn:=hf _ (YG hj);have hg:(L.map ZN).getD j []=ZN (l.getD j default):=by rw[Fam.getD z8,hs.get hj]
  have hkeep:=hs.DD hj;have hskip:=hs.skip hj;have htk:=ZT hj;generalize l.getD j default=n at hn hg hkeep hskip htk;refine wGq tK ?_ ?_ (by simp only[go_sem,hg,ZN,hid,Ne.symm hid];try exact rfl)
  ·simp[ZN];omega
  refine dG rfl rfl z7 w3 hcal u1 (hn) w3 z6 ?_;generalize hm:((l.take j).filter λx=>!p x).length=m at hkeep hlt;have hw1:IntKind.i64.wrap ((j:Int)+1)=((j+1:Nat):Int):=by rw[Eng.wrap_small z8 z8];rfl
  have hw2:IntKind.i64.wrap ((m:Int)+1)=((m+1:Nat):Int):=by rw[Eng.wrap_small z8 z8];rfl
  refine wG tK ?_ QW Z4;refine wD (λh=>?_) (λh=>?_)
  ·have hp:p n=false:=by simpa using h
   obtain ⟨hk1,hk2⟩:=hkeep hp;have aQ:=oC ZN L m n;simp only[ZN] at aQ;have hgl:(L.map ZN).getD m []=ZN (L.getD m default):=Fam.getD z8;simp only[ZN] at hgl;refine wGq tK ?_ ?_ s9
   ·simp[hid,Ne.symm hid];omega
   refine ZB ⟨(j+1,L.set m n),hk1,by simp only;omega,ZU ?_ ?_ ?_⟩
   ·simp[go_sem,hk2]
   ·simp[go_sem,hid,Ne.symm hid,aQ]
   ·simp[go_sem,hcaps,-List.map_set]
  ·have hp:p n=true:=by simpa using h
   refine wG tK ?_ QD Qb;have hsame:((l.take (j+1)).filter λx=>!p x).length=m:=by
    rw[←hm,htk,List.filter_append];simp only[List.filter_cons,hp,Bool.not_true,Bool.false_eq_true,if_false,List.filter_nil,List.append_nil]
   refine ZB ⟨(j+1,L),hskip hp,by simp only;omega,ZU ?_ ?_ ?_⟩
   ·simp[go_sem,hsame,hm]
   ·simp[go_sem,hid,Ne.symm hid]
   ·simp[go_sem,hcaps]
 have e:j=l.length:=by simp at h;omega
 subst e;have hfin:=hs.fin;rw[Wo];generalize hd:(l.filter λx=>!p x)=d at *;have hdl:d.length≤l.length:=by rw[←hd];exact Wr _ _
 have hcl:=iF ZN (d:=d) (L:=L) [.int .i64 0,.bool false,.nils,.nils,.int .i64 0] hfin z8;rw[hL] at hcl;refine wGq tK ?_ ?_ QE
 ·simp only[not_false_eq_true,true_and];omega
 refine wT ?_;simp[aa]
theorem lg (l:List Entry) (hlen:l.length≤100000000) {f:FuncId} {caps:List AV} {p:Entry->Bool} (hcal:aJ Tryz.prog f) (hpure:(caps.all AV.aY)=true)
  (hf:∀x,x∈l->ae Tryz.prog f (.agg (ZE x)::caps) [] (λr _=>r=.bool (p x))) :
  ae Tryz.prog 232 [.sl (l.map ZE),.fn f caps] [] (λr _=>r=.int .i64 (cc (l.findIdx? p))):=by
 have hcaps:=bV hpure;refine ZF tK (Tryz.func232) rfl (λC=>?_);simp only[Tryz.ntmps232,Tryz.results232,go_sem];refine wG tK ?_;refine ZL (λi:Nat=>i≤l.length/\∀x,x∈l.take i->p x=false) (λi=>l.length-i) (λi=>(8,.int .i64 i)::(5,.any)::u0 9 10 []) (λ_=>[]) 0 ⟨by omega,by simp⟩ ?_ λi hi=>?_
 ·simp only[go_sem];exact ZU w3 w3 u1
 obtain ⟨hi,hno⟩:=hi;simp only[go_sem];refine wG tK ?_;refine wD (λh=>?_) (λh=>?_)
 ·have hlt:i<l.length:=by simp at h;omega
  have hn:=hf _ (YG hlt);have hg:(l.map ZE).getD i []=ZE (l.getD i default):=Fam.getD hlt;have htk:=ZT hlt;have hgi:l[i]? = some (l.getD i default):=by rw[Wi,Wj hlt];rfl
  generalize l.getD i default=n at hn hg htk hgi;refine wGq tK ?_ ?_ p4
  ·simp[hlt,ZE]
  refine dG rfl rfl z7 w3 hcal u1 (hn) w3 z6 ?_;refine wG tK ?_;refine wD (λh=>?_) (λh=>?_)
  ·refine wG tK ?_;refine wT ?_;rw[eA hgi hno h];rfl
  ·have hw:IntKind.i64.wrap ((i:Int)+1)=(i:Int)+1:=wrap_small z8 z8;refine wG tK ?_ w5 k0;refine ZB ⟨i+1,⟨by omega,?_⟩,by omega,ZU ?_ ?_ ?_⟩
   ·rw[htk];intro x hx
    rcases List.mem_append.1 hx with hx | hx
    ·exact hno x hx
    ·rw[List.mem_singleton.1 hx];exact h
   ·simp[go_sem]
   ·simp[go_sem]
   ·simp[go_sem,hcaps]
 ·have e:i=l.length:=by simp at h;omega
  refine wG tK ?_;refine wT ?_;rw[e,Wo] at hno;rw[W3.2 hno];rfl
theorem oS (l:List Entry) (hlen:l.length≤100000000) (id:Nat) {f:FuncId} {caps:List AV} {p:Entry->Bool} (hcal:aJ Tryz.prog f) (hpure:(caps.all AV.aY)=true) (hid:id≠7)
  (hf:∀x,x∈l->ae Tryz.prog f (.agg (ZE x)::caps) [] (λr _=>r=.bool (p x))) :
  ae Tryz.prog 210 [.osl id 2 0 l.length,.fn f caps] [(id,.cells 96 2 (l.map ZE))] (λr H=>r=.osl id 2 0 (l.filter λx=>!p x).length /\
   ∀i b,aa [(id,.cells 96 2 ((l.filter λx=>!p x).map ZE++List.replicate (l.length-(l.filter λx=>!p x).length) [.str [],.int .i64 0]))] i=some b->aa H i=some b):=by
 have hcaps:=bV hpure;obtain ⟨q,hv,hq⟩:=fx hpure;refine ZF tK (Tryz.func210) rfl (λC=>?_);simp only[Tryz.ntmps210,Tryz.results210,go_sem];refine wG tK ?_;refine mq rfl rfl z7 w3 QZ Zr ⟨_,Tryz.func232,by kernel_rfl,rfl⟩ (lg l hlen hcal hpure hf) w3 z6 ?_;refine wG tK ?_;refine wD (λh=>?_) (λh=>?_)
 ·refine wG tK ?_;refine wT ?_;have hn:l.findIdx? p=none:=by
   cases e:l.findIdx? p with
   | none=>rfl
   | some k=>rw[e] at h;simp[cc] at h
  have hfl:l.filter (λx=>!p x)=l:=W9.2 λx hx=>by
   simp[W3.1 hn x hx]
  rw[hfl];simp[aa]
 obtain ⟨k,hk⟩:∃k,l.findIdx? p=some k:=by
  cases e:l.findIdx? p with
  | none=>rw[e] at h;simp[cc] at h
  | some k=>exact ⟨k,rfl⟩
 have hkl:k<l.length:=(W5.1 hk).1;have hsp:=eR hk;rw[hk];have hw:IntKind.i64.wrap ((k:Int)+1)=((k+1:Nat):Int):=by rw[Eng.wrap_small z8 z8];rfl
 simp only[cc];refine wG tK ?_ w5 k0;refine ZL (λs:Nat×List Entry=>DelInv p l s.1 s.2) (λs=>l.length-s.1) (λs=>(5,.int .i64 (((l.take s.1).filter λx=>!p x).length:Nat))::(6,.int .i64 (s.1:Nat))::(7,.any)::u0 16 20 []) (λs=>[(id,.cells 96 2 (s.2.map ZE))]) (k+1,l) (DelInv.start hk) ?_ λs hs=>?_
 ·have el:((l.take (k+1)).filter λx=>!p x).length=k:=by rw[hsp];simp;omega
  simp only[go_sem,el];exact ZU w3 w3 u1
 obtain ⟨j,L⟩:=s;have hjl:=hs.le;have hL:=hs.len;have hlt:=hs.lt;simp only at hs hjl hL hlt;simp only[go_sem];refine wG tK ?_;refine wD (λh=>?_) (λh=>?_)
 ·have hj:j<l.length:=by simp at h;omega
  have hn:=hf _ (YG hj);have hg:(L.map ZE).getD j []=ZE (l.getD j default):=by rw[Fam.getD z8,hs.get hj]
  have hkeep:=hs.DD hj;have hskip:=hs.skip hj;have htk:=ZT hj;generalize l.getD j default=n at hn hg hkeep hskip htk;refine wGq tK ?_ ?_ (by simp only[go_sem,hg,ZE,hid,Ne.symm hid];try exact rfl)
  ·simp[ZE];omega
  refine dG rfl rfl z7 w3 hcal u1 (hn) w3 z6 ?_;generalize hm:((l.take j).filter λx=>!p x).length=m at hkeep hlt;have hw1:IntKind.i64.wrap ((j:Int)+1)=((j+1:Nat):Int):=by rw[Eng.wrap_small z8 z8];rfl
  have hw2:IntKind.i64.wrap ((m:Int)+1)=((m+1:Nat):Int):=by rw[Eng.wrap_small z8 z8];rfl
  refine wG tK ?_ QW Z4;refine wD (λh=>?_) (λh=>?_)
  ·have hp:p n=false:=by simpa using h
   obtain ⟨hk1,hk2⟩:=hkeep hp;have aQ:=oC ZE L m n;simp only[ZE] at aQ;have hgl:(L.map ZE).getD m []=ZE (L.getD m default):=Fam.getD z8;simp only[ZE] at hgl;refine wGq tK ?_ ?_ s9
   ·simp[hid,Ne.symm hid];omega
   refine ZB ⟨(j+1,L.set m n),hk1,by simp only;omega,ZU ?_ ?_ ?_⟩
   ·simp[go_sem,hk2]
   ·simp[go_sem,hid,Ne.symm hid,aQ]
   ·simp[go_sem,hcaps,-List.map_set]
  ·have hp:p n=true:=by simpa using h
   refine wG tK ?_ QD Qb;have hsame:((l.take (j+1)).filter λx=>!p x).length=m:=by
    rw[←hm,htk,List.filter_append];simp only[List.filter_cons,hp,Bool.not_true,Bool.false_eq_true,if_false,List.filter_nil,List.append_nil]
   refine ZB ⟨(j+1,L),hskip hp,by simp only;omega,ZU ?_ ?_ ?_⟩
   ·simp[go_sem,hsame,hm]
   ·simp[go_sem,hid,Ne.symm hid]
   ·simp[go_sem,hcaps]
 have e:j=l.length:=by simp at h;omega
 subst e;have hfin:=hs.fin;rw[Wo];generalize hd:(l.filter λx=>!p x)=d at *;have hdl:d.length≤l.length:=by rw[←hd];exact Wr _ _
 have hcl:=iF ZE (d:=d) (L:=L) [.str [],.int .i64 0] hfin z8;rw[hL] at hcl;refine wGq tK ?_ ?_ QE
 ·simp only[not_false_eq_true,true_and];omega
 refine wT ?_;simp[aa]
theorem nf (l:List Entry) (hlen:l.length≤100000000) {f:FuncId} {caps:List AV} {p:Entry->Bool} (hcal:aJ Tryz.prog f) (hpure:(caps.all AV.aY)=true)
  (hf:∀x,x∈l->ae Tryz.prog f (.agg (ZE x)::caps) [] (λr _=>r=.bool (p x))) :
  ae Tryz.prog 214 [.sl (l.map ZE),.fn f caps] [] (λr _=>r=.bool (l.any p)):=by
 have hcaps:=bV hpure;refine ZF tK (Tryz.func214) rfl (λC=>?_);simp only[Tryz.ntmps214,Tryz.results214,go_sem];refine wG tK ?_;refine dG rfl rfl z7 w3 ⟨_,Tryz.func232,by kernel_rfl,rfl⟩ u1 (lg l hlen hcal hpure hf) w3 z6 ?_;refine wG tK ?_;refine wT ?_;rw[lO]
theorem iK (l:List Kept) (hlen:l.length≤100000000) {f:FuncId} {caps:List AV} {p:Kept->Bool} (hcal:aJ Tryz.prog f) (hpure:(caps.all AV.aY)=true)
  (hf:∀x,x∈l->ae Tryz.prog f (.agg (ZK x)::caps) [] (λr _=>r=.bool (p x))) :
  ae Tryz.prog 119 [.sl (l.map ZK),.fn f caps] [] (λr _=>r=.int .i64 (cc (l.findIdx? p))):=by
 have hcaps:=bV hpure;refine ZF tK (Tryz.func119) rfl (λC=>?_);simp only[Tryz.ntmps119,Tryz.results119,go_sem];refine wG tK ?_;refine ZL (λi:Nat=>i≤l.length/\∀x,x∈l.take i->p x=false) (λi=>l.length-i) (λi=>(8,.int .i64 i)::(5,.any)::u0 9 10 []) (λ_=>[]) 0 ⟨by omega,by simp⟩ ?_ λi hi=>?_
 ·simp only[go_sem];exact ZU w3 w3 u1
 obtain ⟨hi,hno⟩:=hi;simp only[go_sem];refine wG tK ?_;refine wD (λh=>?_) (λh=>?_)
 ·have hlt:i<l.length:=by simp at h;omega
  have hn:=hf _ (YG hlt);have hg:(l.map ZK).getD i []=ZK (l.getD i default):=Fam.getD hlt;have htk:=ZT hlt;have hgi:l[i]? = some (l.getD i default):=by rw[Wi,Wj hlt];rfl
  generalize l.getD i default=n at hn hg htk hgi;refine wGq tK ?_ ?_ x9
  ·simp[hlt,ZK]
  refine dG rfl rfl z7 w3 hcal u1 (hn) w3 z6 ?_;refine wG tK ?_;refine wD (λh=>?_) (λh=>?_)
  ·refine wG tK ?_;refine wT ?_;rw[eA hgi hno h];rfl
  ·have hw:IntKind.i64.wrap ((i:Int)+1)=(i:Int)+1:=wrap_small z8 z8;refine wG tK ?_ w5 k0;refine ZB ⟨i+1,⟨by omega,?_⟩,by omega,ZU ?_ ?_ ?_⟩
   ·rw[htk];intro x hx
    rcases List.mem_append.1 hx with hx | hx
    ·exact hno x hx
    ·rw[List.mem_singleton.1 hx];exact h
   ·simp[go_sem]
   ·simp[go_sem]
   ·simp[go_sem,hcaps]
 ·have e:i=l.length:=by simp at h;omega
  refine wG tK ?_;refine wT ?_;rw[e,Wo] at hno;rw[W3.2 hno];rfl
theorem gU (l:List Kept) (hlen:l.length≤100000000) (id:Nat) {f:FuncId} {caps:List AV} {p:Kept->Bool} (hcal:aJ Tryz.prog f) (hpure:(caps.all AV.aY)=true) (hid:id≠7)
  (hf:∀x,x∈l->ae Tryz.prog f (.agg (ZK x)::caps) [] (λr _=>r=.bool (p x))) :
  ae Tryz.prog 80 [.osl id 8 0 l.length,.fn f caps] [(id,.cells 138 8 (l.map ZK))] (λr H=>r=.osl id 8 0 (l.filter λx=>!p x).length /\
   ∀i b,aa [(id,.cells 138 8 ((l.filter λx=>!p x).map ZK++List.replicate (l.length-(l.filter λx=>!p x).length) [.int .i64 0,.bool false,.nils,.nils,.int .i64 0,.bool false,.int .i64 0,.int .i64 0]))] i=some b->aa H i=some b):=by
 have hcaps:=bV hpure;obtain ⟨q,hv,hq⟩:=fx hpure;refine ZF tK (Tryz.func80) rfl (λC=>?_);simp only[Tryz.ntmps80,Tryz.results80,go_sem];refine wG tK ?_;refine mq rfl rfl z7 w3 QZ Zr ⟨_,Tryz.func119,by kernel_rfl,rfl⟩ (iK l hlen hcal hpure hf) w3 z6 ?_;refine wG tK ?_;refine wD (λh=>?_) (λh=>?_)
 ·refine wG tK ?_;refine wT ?_;have hn:l.findIdx? p=none:=by
   cases e:l.findIdx? p with
   | none=>rfl
   | some k=>rw[e] at h;simp[cc] at h
  have hfl:l.filter (λx=>!p x)=l:=W9.2 λx hx=>by
   simp[W3.1 hn x hx]
  rw[hfl];simp[aa]
 obtain ⟨k,hk⟩:∃k,l.findIdx? p=some k:=by
  cases e:l.findIdx? p with
  | none=>rw[e] at h;simp[cc] at h
  | some k=>exact ⟨k,rfl⟩
 have hkl:k<l.length:=(W5.1 hk).1;have hsp:=eR hk;rw[hk];have hw:IntKind.i64.wrap ((k:Int)+1)=((k+1:Nat):Int):=by rw[Eng.wrap_small z8 z8];rfl
 simp only[cc];refine wG tK ?_ w5 k0;refine ZL (λs:Nat×List Kept=>DelInv p l s.1 s.2) (λs=>l.length-s.1) (λs=>(5,.int .i64 (((l.take s.1).filter λx=>!p x).length:Nat))::(6,.int .i64 (s.1:Nat))::(7,.any)::u0 16 20 []) (λs=>[(id,.cells 138 8 (s.2.map ZK))]) (k+1,l) (DelInv.start hk) ?_ λs hs=>?_
 ·have el:((l.take (k+1)).filter λx=>!p x).length=k:=by rw[hsp];simp;omega
  simp only[go_sem,el];exact ZU w3 w3 u1
 obtain ⟨j,L⟩:=s;have hjl:=hs.le;have hL:=hs.len;have hlt:=hs.lt;simp only at hs hjl hL hlt;simp only[go_sem];refine wG tK ?_;refine wD (λh=>?_) (λh=>?_)
 ·have hj:j<l.length:=by simp at h;omega
  have hn:=hf _ (YG hj);have hg:(L.map ZK).getD j []=ZK (l.getD j default):=by rw[Fam.getD z8,hs.get hj]
  have hkeep:=hs.DD hj;have hskip:=hs.skip hj;have htk:=ZT hj;generalize l.getD j default=n at hn hg hkeep hskip htk;refine wGq tK ?_ ?_ (by simp only[go_sem,hg,ZK,hid,Ne.symm hid];try exact rfl)
  ·simp[ZK];omega
  refine dG rfl rfl z7 w3 hcal u1 (hn) w3 z6 ?_;generalize hm:((l.take j).filter λx=>!p x).length=m at hkeep hlt;have hw1:IntKind.i64.wrap ((j:Int)+1)=((j+1:Nat):Int):=by rw[Eng.wrap_small z8 z8];rfl
  have hw2:IntKind.i64.wrap ((m:Int)+1)=((m+1:Nat):Int):=by rw[Eng.wrap_small z8 z8];rfl
  refine wG tK ?_ QW Z4;refine wD (λh=>?_) (λh=>?_)
  ·have hp:p n=false:=by simpa using h
   obtain ⟨hk1,hk2⟩:=hkeep hp;have aQ:=oC ZK L m n;simp only[ZK] at aQ;have hgl:(L.map ZK).getD m []=ZK (L.getD m default):=Fam.getD z8;simp only[ZK] at hgl;refine wGq tK ?_ ?_ s9
   ·simp[hid,Ne.symm hid];omega
   refine ZB ⟨(j+1,L.set m n),hk1,by simp only;omega,ZU ?_ ?_ ?_⟩
   ·simp[go_sem,hk2]
   ·simp[go_sem,hid,Ne.symm hid,aQ]
   ·simp[go_sem,hcaps,-List.map_set]
  ·have hp:p n=true:=by simpa using h
   refine wG tK ?_ QD Qb;have hsame:((l.take (j+1)).filter λx=>!p x).length=m:=by
    rw[←hm,htk,List.filter_append];simp only[List.filter_cons,hp,Bool.not_true,Bool.false_eq_true,if_false,List.filter_nil,List.append_nil]
   refine ZB ⟨(j+1,L),hskip hp,by simp only;omega,ZU ?_ ?_ ?_⟩
   ·simp[go_sem,hsame,hm]
   ·simp[go_sem,hid,Ne.symm hid]
   ·simp[go_sem,hcaps]
 have e:j=l.length:=by simp at h;omega
 subst e;have hfin:=hs.fin;rw[Wo];generalize hd:(l.filter λx=>!p x)=d at *;have hdl:d.length≤l.length:=by rw[←hd];exact Wr _ _
 have hcl:=iF ZK (d:=d) (L:=L) [.int .i64 0,.bool false,.nils,.nils,.int .i64 0,.bool false,.int .i64 0,.int .i64 0] hfin z8;rw[hL] at hcl;refine wGq tK ?_ ?_ QE
 ·simp only[not_false_eq_true,true_and];omega
 refine wT ?_;simp[aa]
theorem Br (n:Node) (f:Int):ae Tryz.prog 213 [.agg (ZN n),.rp [.int .i64 f] 0] [] (λr _=>r=.bool (n.fid==f)):=by
 unfold ZN;refine ZF tK (Tryz.func213) rfl (λC=>?_);simp only[Tryz.ntmps213,Tryz.results213,go_sem];refine wG tK ?_;refine wT ?_;simp
theorem FL (l:List Node) (f:Int) (hl:Small l):ae Tryz.prog 180 [.sl (l.map ZN),.int .i64 f] [] (λr _=>r=.sl ((ez l f).map ZN)):=by
 have hlen:=hl.len;refine ZF tK (Tryz.func180) rfl (λC=>?_);simp only[Tryz.ntmps180,Tryz.results180,go_sem];refine wG tK ?_;refine ZZ 3 rfl (rfl) ?_;simp only[go_sem];refine wCG [] 100 Tryz.func66 (hf:=(qT l hl)) (hk:=?_);refine wG tK ?_;refine wCG [123] 100 Tryz.func212 (hf:=(qz l hlen 123 ⟨_,Go.Proofs.Tryz.func213,by kernel_rfl,rfl⟩ rfl u5 (λx _=>Br x f))) (hk:=?_);refine wG tK ?_;refine ZZ 223 rfl (by rw[List.all_append,eV,Bool.true_and];exact iS _ rfl) ?_;simp only[go_sem];refine wT ?_;have hle:=Wr (λx:Node=>!(x.fid==f)) l;have hd:(l.filter λx:Node=>!(x.fid==f))=ez l f:=rfl;rw[hd] at hle;simp only[hd];generalize ez l f=d at *;rw[if_pos y7,gQ y7]
theorem zt (e:Entry) (s:List UInt8):ae Tryz.prog 211 [.agg (ZE e),.rp [.str s] 0] [] (λr _=>r=.bool (e.name==s)):=by
 unfold ZE;refine ZF tK (Tryz.func211) rfl (λC=>?_);simp only[Tryz.ntmps211,Tryz.results211,go_sem];refine wG tK ?_;refine wT ?_;simp
theorem xF (n:Node) (s:List UInt8) (hn:n.Small):ae Tryz.prog 179 [.agg (ZN n),.str s] [] (λr _=>r=.agg (ZN (aA n s))):=by
 have hlen:=hn.entries;refine ZF tK (Tryz.func179) rfl (λC=>?_);simp only[Tryz.ntmps179,Tryz.results179,go_sem];refine wGq tK ?_ ?_ w6
 ·simp[ZN]
 refine ZZ 7 rfl (rfl) ?_;refine ZZ 3 rfl (rfl) ?_;simp only[go_sem];refine wCG [] 0 Tryz.func66 (hf:=(xX n hn)) (hk:=?_);refine wGq tK ?_ ?_ (by simp only[go_sem,kx];try exact rfl)
 ·simp[kx]
 refine ag (bh 1000 5 z6 k9) ?_;refine ag (bh 1000 23 z6 k9) ?_;simp only[go_sem];refine wCG [1000] 100 Tryz.func210 (hf:=(oS n.entries hlen 1000 ⟨_,Go.Proofs.Tryz.func211,by kernel_rfl,rfl⟩ rfl u5 (λx _=>zt x s))) (hk:=?_);refine ZZ 1100 rfl (by rw[List.all_append,dg,Bool.true_and];exact iS _ rfl) ?_;simp only[go_sem];have hle:=Wr (λx:Entry=>!(x.name==s)) n.entries;have hd:(n.entries.filter λx:Entry=>!(x.name==s))=c_ n.entries s:=rfl;have hr:ZN (aA n s)=[.int .i64 n.fid,.bool n.dir,.sl (n.data.map ZY),.sl ((c_ n.entries s).map ZE),.int .i64 n.version]:=rfl;simp only[hd] at hle ⊢;rw[hr];generalize c_ n.entries s=d at *;simp only[go_sem,if_pos (show d.length≤(d.map ZE++List.replicate (n.entries.length-d.length) [AV.str [],AV.int .i64 0]).length by simp),gQ (show d.length=(d.map ZE).length by simp)];refine wG tK ?_;refine wT ?_;simp
theorem tj (l M:List Entry) (i:Nat) (hi:i≤l.length) (hlen:l.length≤100000000) (hM:l.take i++⟨[],0⟩::l.drop i=M) :
  ae Tryz.prog 209 [.osl 1000 2 0 l.length,.int .i64 i,.osl 28 2 0 1] [(28,.cells 96 2 [[.str [],.int .i64 0]]),(1000,.cells 96 2 (l.map ZE))]
   (λr H=>r=.osl 7 2 0 (l.length+1)/\∀i' b,aa [(7,.cells 96 2 (M.map ZE))] i'=some b->aa H i'=some b):=by
 subst hM;have hL:(l.map ZE).length=l.length:=List.length_map ..;have:=ae.HJ (rows':=(l.take i++⟨[],0⟩::l.drop i).map ZE) 7 (uX (l.map ZE) i z8 z8 (qt l) (ti l) (λid=>lG id l)) (by
  rw[List.map_append,List.map_cons,List.map_append,List.map_cons,←Yh,←Yn,mS,mS];rfl) (xp (λid=>lG id l) u5)
 rw[hL] at this;exact this
theorem pN {M:List Entry} {i:Nat} (h:i<M.length):(M.map ZE).getD i []=[.str (M.getD i default).name,.int .i64 (M.getD i default).fid]:=by
 rw[Fam.getD h];rfl
theorem wM (n:Node) (s:List UInt8) (f:Int) (hn:n.Small):ae Tryz.prog 177 [.agg (ZN n),.str s,.int .i64 f] [] (λr _=>r=.agg (ZN (ay n s f))):=by
 have hlen:=hn.entries;refine ZF tK (Tryz.func177) rfl (λC=>?_);simp only[Tryz.ntmps177,Tryz.results177,go_sem];refine wGq tK ?_ ?_ w6
 ·simp[ZN]
 refine ZZ 11 rfl (rfl) ?_;refine ZZ 3 rfl (rfl) ?_;simp only[go_sem];refine wCG [] 0 Tryz.func66 (hf:=(xX n hn)) (hk:=?_);refine wG tK ?_;refine wV Tryz.func140 (hf:=(nO n.entries s hlen ⟨_,Go.Proofs.Tryz.func208,by kernel_rfl,rfl⟩ (λe=>wL e s))) (hk:=?_);refine wG tK ?_;have hple:=oT n.entries s;refine wD (λh=>?_) (λh=>?_)
 ·have hat:isE n.entries s=false:=by simpa using h
  refine wG tK ?_;refine ag (bh 1000 7 z6 k9) ?_;refine ag (bh 1000 23 z6 k9) ?_;simp only[go_sem];have hM:(n.entries.take (aI n.entries s)++⟨[],0⟩::n.entries.drop (aI n.entries s)).length=n.entries.length+1:=by simp;omega
  have hS:(n.entries.take (aI n.entries s)++⟨[],0⟩::n.entries.drop (aI n.entries s)).set (aI n.entries s) ⟨s,f⟩=bu n.entries s f:=by
   unfold bu;rw[hat,if_neg y7,List.set_append_right _ _ QK,Wv,Yj hple,YY];rfl
  generalize hMd:n.entries.take (aI n.entries s)++⟨[],0⟩::n.entries.drop (aI n.entries s)=M at *;refine wCG [1000,28] 200 Tryz.func209 (hf:=(tj n.entries M (aI n.entries s) hple hlen hMd)) (hk:=?_);refine wN tK 2 ?_;have hE:(bu n.entries s f).length=n.entries.length+1:=by rw[←hS,YL,hM]
  have hlt:aI n.entries s<(M).length:=by omega
  have hg:=pN hlt;have hq:((M).map ZE).set (aI n.entries s) [.str s,.int .i64 f]=(bu n.entries s f).map ZE:=by
   rw[←hS,List.map_set];rfl
  refine wR ?_;refine wN tK 6 ?_;refine wNq tK 1 ?_ ?_
  ·exact ⟨by simp,by omega,by omega⟩
  refine wNq tK 1 ?_ ?_
  ·exact ⟨by simp,by omega⟩
  simp only[go_sem,hg,hq];refine ZZ 207 rfl (dg _) ?_;have hr:ZN (ay n s f)=[.int .i64 n.fid,.bool n.dir,.sl (n.data.map ZY),.sl ((bu n.entries s f).map ZE),.int .i64 n.version]:=rfl;rw[hr];have hE2:=Wl (l:=(bu n.entries s f).map ZE) (i:=(bu n.entries s f).length) y7;simp only[go_sem,←hE,hE2];refine wG tK ?_;refine wT ?_;simp
 ·have hat:isE n.entries s=true:=by simpa using h
  have hpl:aI n.entries s<n.entries.length:=by
   unfold isE at hat;rw[Bool.and_eq_true] at hat;exact of_decide_eq_true hat.1
  have hS:n.entries.set (aI n.entries s) ⟨s,f⟩=bu n.entries s f:=by
   unfold bu;rw[hat,if_pos rfl]
  have hE:(bu n.entries s f).length=n.entries.length:=by rw[←hS,YL]
  have hlt:aI n.entries s<(n.entries).length:=by omega
  have hg:=pN hlt;have hq:((n.entries).map ZE).set (aI n.entries s) [.str s,.int .i64 f]=(bu n.entries s f).map ZE:=by
   rw[←hS,List.map_set];rfl
  refine wR ?_;refine wN tK 6 ?_;refine wNq tK 1 ?_ ?_
  ·exact ⟨by simp,by omega,by omega⟩
  refine wNq tK 1 ?_ ?_
  ·exact ⟨by simp,by omega⟩
  simp only[go_sem,hg,hq];refine ZZ 1000 rfl (dg _) ?_;have hr:ZN (ay n s f)=[.int .i64 n.fid,.bool n.dir,.sl (n.data.map ZY),.sl ((bu n.entries s f).map ZE),.int .i64 n.version]:=rfl;rw[hr];have hE2:=Wl (l:=(bu n.entries s f).map ZE) (i:=(bu n.entries s f).length) y7;simp only[go_sem,←hE,hE2];refine wG tK ?_;refine wT ?_;simp
theorem hold {K H:List (Nat×Blk)} (h:∀p,p∈K->aa H p.1=some p.2):∀i b,aa K i=some b->aa H i=some b:=λi b hb=>h (i,b) (bf hb)
theorem cR {a b:Nat} {x y:Blk} {H:List (Nat×Blk)} (h1:aa H a=some x) (h2:aa H b=some y):∀i c,(if a=i then some x else if b=i then some y else none)=some c->aa H i=some c:=λi c hc=>by
 by_cases e1:a=i
 ·subst e1;rw[if_pos rfl] at hc;rw[h1,hc]
 ·rw[if_neg e1] at hc
  by_cases e2:b=i
  ·subst e2;rw[if_pos rfl] at hc;rw[h2,hc]
  ·rw[if_neg e2] at hc;cases hc
def aq (l:List Node) (k:Int):Node:=(aj l k).getD aw
def eu (l:List Node) (k:Int):Int:=match aj l k with
 | none=>12
 | some n=>if n.dir then 0 else 8
def bO (n:Node) (s:List UInt8):Int:=if cu s then (if isE n.entries s then 7 else if n.entries.length≥6 then 5 else 0) else 7
def ZD (l:List Node) (a:Act) (v:Int):List AV:=[.sl (l.map ZN),.int .i64 a.kind,.int .i64 a.fid,.int .i64 a.dir,.str a.name,.int .i64 a.to,.str a.toName,.sl (a.data.map ZY),.int .i64 v]
@[go_sem,simp] theorem EK (l:List Node) (a:Act) (v:Int):aC (ZD l a v)=[]:=rfl
def dH (R:List AV) (G Y N:Nat->Nat):List (Nat×Blk):=[(15,.cells 228 9 [R])]++pins [15] G Y N
theorem Bb (n:Node) (s:List UInt8) (hn:n.Small) (hs:s.length≤100000000):ae Tryz.prog 175 [.agg (ZN n),.str s] [] (λr _=>r=.int .i64 (bO n s)):=by
 have hlen:=hn.entries;refine ZF tK (Tryz.func175) rfl (λC=>?_);simp only[Tryz.ntmps175,Tryz.results175,go_sem];refine wGq tK ?_ ?_ w6
 ·simp
 refine wC Tryz.func139 (hf:=(AZ s hs)) (hk:=?_);refine wG tK ?_;refine wD (λh=>?_) (λh=>?_)
 ·have h0:cu s=false:=by simpa using h
  refine wG tK ?_;refine wT ?_;simp[bO,h0]
 have h0:cu s=true:=by simpa using h
 refine wGq tK ?_ ?_ w6
 ·simp[ZN]
 refine wC Tryz.func104 (hf:=(jI n s hn)) (hk:=?_);cases he:isE n.entries s with
 | true=>
  have e1:ba n s=some (n.entries.getD (aI n.entries s) default).fid:=by unfold ba;rw[if_pos he]
  rw[e1];simp only[eE];refine wG tK ?_;refine wD (λh=>?_) (λh=>?_)
  ·refine wG tK ?_;refine wT ?_;simp[bO,h0,he]
  ·cases h
 | false=>
  have e1:ba n s=none:=by unfold ba;rw[if_neg QL]
  rw[e1];simp only[eE];refine wG tK ?_;refine wD (λh=>?_) (λh=>?_)
  ·cases h
  refine wGq tK ?_ ?_ w6
  ·simp[ZN]
  refine wD (λh=>?_) (λh=>?_)
  ·have h6:6≤n.entries.length:=by simp at h;omega
   refine wG tK ?_;refine wT ?_;simp[bO,h0,he,h6]
  ·have h6:¬6≤n.entries.length:=by simp at h;omega
   refine wG tK ?_;refine wT ?_;simp[bO,h0,he,h6]
theorem zb (l:List Node) (a:Act) (v k:Int) (hl:Small l) (G Y N:Nat->Nat):ae Tryz.prog 174 [.ptr 15 9 0 0,.int .i64 k] (dH (ZD l a v) G Y N)
  (λr H=>r=.tup [.agg (ZN (aq l k)),.int .i64 (eu l k)]/\∀i b,aa (dH (ZD l a v) G Y N) i=some b->aa H i=some b):=by
 unfold dH;refine ZF tK (Tryz.func174) rfl (λC=>?_);simp only[Tryz.ntmps174,Tryz.results174,go_sem];refine wGq tK ?_ ?_ k7
 ·simp[ZD]
 refine wC Tryz.func82 (hf:=(eo l k hl)) (hk:=?_);simp only[go_sem,gf];rw[cE];unfold aq eu;generalize aj l k=o;cases o with
 | none=>
  simp only[Option.getD_none,Option.isSome_none];refine wGq tK ?_ ?_ QQ
  ·simp[ZN]
  refine wD (λh=>?_) (λh=>?_)
  ·refine wGq tK ?_ ?_ QQ
   ·simp[ZN]
   refine wU ?_ (cR ?_ ?_)
   ·simp[ZN,aw]
   ·simp[go_sem,ZD]
   ·simp[go_sem]
  ·cases h
 | some n=>
  simp only[Option.getD_some,Option.isSome_some];refine wGq tK ?_ ?_ w6
  ·simp[ZN]
  refine wD (λh=>?_) (λh=>?_)
  ·cases h
  refine wGq tK ?_ ?_ w6
  ·simp[ZN]
  refine wD (λh=>?_) (λh=>?_)
  ·have hd:n.dir=false:=by simpa using h
   refine wGq tK ?_ ?_ w6
   ·simp[ZN]
   refine wU ?_ (cR ?_ ?_)
   ·simp[ZN,hd]
   ·simp[go_sem,ZD]
   ·simp[go_sem]
  ·have hd:n.dir=true:=by simpa using h
   refine wGq tK ?_ ?_ w6
   ·simp[ZN]
   refine wU ?_ (cR ?_ ?_)
   ·simp[ZN,hd]
   ·simp[go_sem,ZD]
   ·simp[go_sem]
theorem px (l:List Node) (a:Act) (v:Int) (n:Node) (hl:Small l) (hn:n.Small) (G Y N:Nat->Nat):ae Tryz.prog 176 [.ptr 15 9 0 0,.agg (ZN n)] (dH (ZD l a v) G Y N)
  (λr H=>r=.tup []/\∀i b,aa (dH (ZD (aE l { n with version:=v }) a v) G Y N) i=some b->aa H i=some b):=by
 have hp:=Ir l ({ n with version:=v }:Node) hl ⟨hn.data,hn.entries⟩;unfold dH;refine ZF tK (Tryz.func176) rfl (λC=>?_);simp only[Tryz.ntmps176,Tryz.results176,go_sem];refine wGq tK ?_ ?_ n3
 ·simp[ZD]
 refine ZZ 3 rfl (rfl) ?_;simp only[go_sem];refine ZW ZM ?_;refine ZS rfl ?_;refine sG tK ?_;refine sC Tryz.func207 (hf:=(hp)) (hk:=?_);refine sG tK ?_;refine sE ?_;refine dS tK ?_;refine wKd ?_
 try simp only[go_sem,gA,gB,gC]
 refine kn ⟨_,_,rfl,trivial,.tup [],.inr (.inl rfl),rfl,cR ?_ ?_⟩
 ·simp[go_sem,ZD]
 ·simp[go_sem]
theorem tf (a b:List UInt8):ae Tryz.prog 123 [.sl (a.map ZY),.sl (b.map ZY)] [] (λr _=>r=.bool (a==b)):=by
 refine ZF tK (Tryz.func123) rfl (λC=>?_);simp only[Tryz.ntmps123,Tryz.results123,go_sem];refine wGq tK ?_ ?_
 ·simp
 refine wT ?_;simp
theorem uF {α:Type} [Inhabited α] [DecidableEq α] {a b:List α} {i:Nat} (h:a.take i=b.take i) (ha:i<a.length) (hb:i<b.length) (e:a.getD i default=b.getD i default):a.take (i+1)=b.take (i+1):=by
 rw[ZT ha,ZT hb,h,e]
theorem uE {α:Type} [Inhabited α] {a b:List α} {i:Nat} (e:¬a.getD i default=b.getD i default):a≠b:=by rintro rfl;exact e rfl
theorem qq (a b:List Entry) (ha:a.length≤100000000) (hb:b.length≤100000000):ae Tryz.prog 124 [.sl (a.map ZE),.sl (b.map ZE)] [] (λr _=>r=.bool (decide (a=b))):=by
 refine ZF tK (Tryz.func124) rfl (λC=>?_);simp only[Tryz.ntmps124,Tryz.results124,go_sem];refine wG tK ?_;refine wD (λh=>?_) (λh=>?_)
 ·have hne:a≠b:=by rintro rfl;simp at h
  refine wG tK ?_;refine wT ?_;simp[hne]
 have hl:a.length=b.length:=by simp at h;omega
 refine wG tK ?_;refine ZL (λi:Nat=>i≤a.length/\a.take i=b.take i) (λi=>a.length-i) (λi=>(5,.any)::(13,.int .i64 i)::u0 14 12 []) (λ_=>[]) 0 ⟨by omega,by simp⟩ ?_ λi hi=>?_
 ·simp only[go_sem];exact ZU w3 w3 w3
 obtain ⟨hi,hs⟩:=hi;simp only[go_sem];refine wG tK ?_;refine wD (λh=>?_) (λh=>?_)
 ·have hlt:i<a.length:=by simp at h;omega
  have hltb:i<b.length:=by omega
  have hga:(a.map ZE).getD i []=ZE (a.getD i default):=Fam.getD hlt;have hgb:(b.map ZE).getD i []=ZE (b.getD i default):=Fam.getD hltb;have htk:=uF hs hlt hltb;have htd:=uE (a:=a) (b:=b) (i:=i);generalize a.getD i default=x at hga htk htd;generalize b.getD i default=y at hgb htk htd;refine wG tK ?_;refine ZW ZM ?_;refine ZS rfl ?_;refine sNq tK 8 ?_ ?_ z6 z6 WI
  ·simp[hga,hgb,ZE,hlt,hltb]
  refine sE ?_;refine dY rfl w4 rfl (sU tK rfl (tys:=[9,3]) w4 z7 z7 z6 QY) rfl ?_;refine wKd ?_;have hxy:(x.name==y.name&&x.fid==y.fid)=decide (x=y):=by
   obtain ⟨n1,f1⟩:=x;obtain ⟨n2,f2⟩:=y
   by_cases h1:n1=n2<;>by_cases h2:f1=f2<;>simp[h1,h2]
  simp only[go_sem,Bool.and_true,hxy];refine wG tK ?_;refine wD (λh=>?_) (λh=>?_)
  ·have hne:x≠y:=by simpa using h
   have:=htd hne;refine wG tK ?_;refine wT ?_;simp[this]
  ·have heq:x=y:=by simpa using h
   have hw:=wi1 (i:=i) z8;refine wG tK ?_ w5 k0;refine ZB ⟨i+1,⟨by omega,htk heq⟩,by omega,ZU ?_ ?_ ?_⟩
   ·simp[go_sem];exact hw
   ·simp[go_sem]
   ·simp[go_sem]
 ·have e:i=a.length:=by simp at h;omega
  have hab:a=b:=by
   rw[e,Wo,hl,Wo] at hs;exact hs
  refine wG tK ?_;refine wT ?_;simp[hab]
def bW (v:Bool) (a b:Node):Bool:=a.fid==b.fid&&a.dir==b.dir&&a.data==b.data&&decide (a.entries=b.entries)&&(!v||a.version==b.version)
theorem jl (a b:Node) (v:Bool) (ha:a.Small) (hb:b.Small):ae Tryz.prog 87 [.agg (ZN a),.agg (ZN b),.bool v] [] (λr _=>r=.bool (bW v a b)):=by
 have hla:=ha.entries;have hlb:=hb.entries;unfold ZN;refine ZF tK (Tryz.func87) rfl (λC=>?_);simp only[Tryz.ntmps87,Tryz.results87,go_sem];refine wR ?_;refine wN tK 3 ?_;refine wR ?_;refine ZZ 3 rfl (rfl) ?_;refine ZZ 4 rfl (rfl) ?_;simp only[go_sem];refine wN tK 5 ?_;refine ak 12 z6 (λc12 h12=>?_);simp only[go_sem];refine wN tK 7 ?_;refine ak 19 z6 (λc19 h19=>?_);simp only[go_sem];refine wN tK 9 ?_;refine ak 28 z6 (λc28 h28=>?_);simp only[go_sem];refine wN tK 9 ?_;refine ak 37 z6 (λc37 h37=>?_);simp only[go_sem];refine wNq tK 10 ?_ ?_
 ·cases c37<;>cases v<;>simp
 refine ak 47 z6 (λc47 h47=>?_);simp only[go_sem];have hdiff:c47=!(a.fid==b.fid&&a.dir==b.dir&&a.data==b.data&&(a.entries.length==b.entries.length)&&(!v||a.version==b.version)):=by
  subst h47 h37 h28 h19 h12;have e:((a.entries.length:Int) != (b.entries.length:Int))=!(a.entries.length==b.entries.length):=by
   rw[YZ];simp;omega
  rw[e];simp only[bne];cases (a.fid==b.fid)<;>cases (a.dir==b.dir)<;>cases (a.data==b.data)<;>cases (a.entries.length==b.entries.length)<;>cases v<;>cases (a.version==b.version)<;>rfl
 refine wD (λh=>?_) (λh=>?_)
 ·rw[hdiff] at h;refine wG tK ?_;refine wT ?_;have:bW v a b=false:=by
   unfold bW;have hn:decide (a.entries=b.entries)=true->(a.entries.length==b.entries.length)=true:=λh=>by
    rw[of_decide_eq_true h];simp
   revert h hn
   cases (a.fid==b.fid)<;>cases (a.dir==b.dir)<;>cases (a.data==b.data)<;>cases (a.entries.length==b.entries.length)<;>cases v<;>cases (a.version==b.version)<;>cases decide (a.entries=b.entries)<;>simp
  rw[this]
 rw[hdiff] at h;have hl:a.entries.length=b.entries.length:=by
  revert h
  cases e:(a.entries.length==b.entries.length)
  ·simp
  ·intro _;simpa using e
 have hsn:bW v a b=decide (a.entries=b.entries):=by
  unfold bW
  revert h
  cases (a.fid==b.fid)<;>cases (a.dir==b.dir)<;>cases (a.data==b.data)<;>cases (a.entries.length==b.entries.length)<;>cases v<;>cases (a.version==b.version)<;>simp
 rw[hsn];clear h12 h19 h28 h37 h47;refine wG tK ?_;refine ZL (λi:Nat=>i≤a.entries.length/\a.entries.take i=b.entries.take i) (λi=>a.entries.length-i) (λi=>(7,.any)::(51,.int .i64 i)::u0 52 14 []) (λ_=>[]) 0 ⟨by omega,by simp⟩ ?_ λi hi=>?_
 ·simp only[go_sem];exact ZU w3 w3 w3
 obtain ⟨hi,hs⟩:=hi;simp only[go_sem];refine wG tK ?_;refine wD (λh=>?_) (λh=>?_)
 ·have hlt:i<a.entries.length:=by simp at h;omega
  have hltb:i<b.entries.length:=by omega
  have hga:(a.entries.map ZE).getD i []=ZE (a.entries.getD i default):=Fam.getD hlt;have hgb:(b.entries.map ZE).getD i []=ZE (b.entries.getD i default):=Fam.getD hltb;have htk:=uF hs hlt hltb;have htd:=uE (a:=a.entries) (b:=b.entries) (i:=i);generalize a.entries.getD i default=x at hga htk htd;generalize b.entries.getD i default=y at hgb htk htd;refine wG tK ?_;refine ZW ZM ?_;refine ZS rfl ?_;refine sNq tK 10 ?_ ?_ z6 z6 WI
  ·simp[hga,hgb,ZE,hlt,hltb]
  refine sE ?_;refine dY rfl w4 rfl (sU tK rfl (tys:=[9,3]) w4 z7 z7 z6 QY) rfl ?_;refine wKd ?_;have hxy:(x.name==y.name&&x.fid==y.fid)=decide (x=y):=by
   obtain ⟨n1,f1⟩:=x;obtain ⟨n2,f2⟩:=y
   by_cases h1:n1=n2<;>by_cases h2:f1=f2<;>simp[h1,h2]
  simp only[go_sem,Bool.and_true,hxy];refine wG tK ?_;refine wD (λh=>?_) (λh=>?_)
  ·have hne:x≠y:=by simpa using h
   have:=htd hne;refine wG tK ?_;refine wT ?_;simp[this]
  ·have heq:x=y:=by simpa using h
   have hw:=wi1 (i:=i) z8;refine wG tK ?_ w5 k0;refine ZB ⟨i+1,⟨by omega,htk heq⟩,by omega,ZU ?_ ?_ ?_⟩
   ·simp[go_sem];exact hw
   ·simp[go_sem]
   ·simp[go_sem]
 ·have e:i=a.entries.length:=by simp at h;omega
  have hab:a.entries=b.entries:=by
   rw[e,Wo,hl,Wo] at hs;exact hs
  refine wG tK ?_;refine wT ?_;simp[hab]
theorem nt {l:List Node} (hl:Small l) {n:Node} (hn:n.Small) (hlen:l.length≤99999999):Small (aE l n):=by
 refine ⟨by have:=qf l n;omega,λx hx=>?_⟩;unfold aE at hx;split at hx
 ·rcases Yf hx with h | rfl
  ·exact hl.each x h
  ·exact hn
 ·rcases List.mem_append.1 hx with h | h
  ·exact hl.each x (Wx h)
  ·rcases List.mem_cons.1 h with rfl | h
   ·exact hn
   ·exact hl.each x (YB h)
theorem nN {n:Node} (hn:n.Small) (s:List UInt8) (f:Int) (h:n.entries.length≤99999999):(ay n s f).Small:=by
 refine ⟨hn.data,?_⟩
 show (bu n.entries s f).length≤_
 unfold bu;split
 ·simp;omega
 ·have:=oT n.entries s;simp;omega
theorem nW {n:Node} (hn:n.Small) (s:List UInt8):(aA n s).Small:=
 ⟨hn.data,by
  have:=Wr (λe:Entry=>!(e.name==s)) n.entries;have:=hn.entries
  show (c_ n.entries s).length≤_
  unfold c_;omega⟩
end La
