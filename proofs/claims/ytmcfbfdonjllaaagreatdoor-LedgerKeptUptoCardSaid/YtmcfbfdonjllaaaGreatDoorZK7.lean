/- Texts of this claim, part 7: Mod, EngQ, Bas, PTree, EngAC, EngAD, EngAE, EngAF, EngAG, EngAH. No condition. -/
import Derived.ReadAgain
import Derived.ChangeSame
import Derived.ChangeBears
import Derived.OpenShut
import Derived.RowKit
import Derived.WalkKit
import Derived.ProofKit
import Derived.Test.YtmcfbfdonjllaaaGreatDoorZK6
import Derived.Test.YtmcfbfdonjllaaaGreatDoorRows
import Derived.JoinedCond
import Derived.Laws.StructEq
import Derived.Lib.SlBytesConst
set_option maxRecDepth 10000
set_option maxHeartbeats 4000000
set_option linter.unusedSimpArgs false
set_option linter.unusedVariables false
namespace La
open Go Go.Eng
structure Entry where
 name:List UInt8
 fid:Int
deriving DecidableEq,Inhabited
structure Node where
 fid:Int
 dir:Bool
 data:List UInt8
 entries:List Entry
 version:Int
deriving DecidableEq,Inhabited
structure Act where
 kind:Int
 fid:Int
 dir:Int
 name:List UInt8
 to:Int
 toName:List UInt8
 data:List UInt8
deriving DecidableEq,Inhabited
structure Rec where
 act:Act
 version:Int
 id:Int
deriving DecidableEq,Inhabited
def i (n:Int):AV:=.int .i64 n
def ZY (b:UInt8):List AV:=[.int .u8 (b.toNat:Int)]
def ZI (n:Int):List AV:=[.int .i64 n]
def ZE (e:Entry):List AV:=[.str e.name,.int .i64 e.fid]
def ZN (n:Node):List AV:=[.int .i64 n.fid,.bool n.dir,.sl (n.data.map ZY),.sl (n.entries.map ZE),.int .i64 n.version]
def ZA (a:Act):List AV:=[.int .i64 a.kind,.int .i64 a.fid,.int .i64 a.dir,.str a.name,.int .i64 a.to,.str a.toName,.sl (a.data.map ZY)]
def ZR (r:Rec):List AV:=[.int .i64 r.act.kind,.int .i64 r.act.fid,.int .i64 r.act.dir,.str r.act.name,.int .i64 r.act.to,.str r.act.toName,.sl (r.act.data.map ZY),.int .i64 r.version,.int .i64 r.id]
structure Fam {α:Type} (f:α->List AV) (n:Nat):Prop where
 len:∀a,(f a).length=n
 leaf:∀a,(f a).all AV.leaf=true
 pure:∀a,(f a).all AV.aX=true
 free:∀a,av (f a)=[]
section
variable {α:Type} {f:α->List AV} {n:Nat}
theorem Fam.rowsOf (h:Fam f n) (l:List α):Eng.rowsOf n (l.map f):=by
 intro row hr;obtain ⟨a,_,rfl⟩:=Zv.1 hr;exact h.len a
theorem Fam.lZ (h:Fam f n) (l:List α):((l.map f).all λrow=>row.all AV.leaf)=true:=by
 rw[List.all_eq_true];intro row hr;obtain ⟨a,_,rfl⟩:=Zv.1 hr;exact h.leaf a
theorem Fam.dX (h:Fam f n) (l:List α):((l.map f).all λrow=>row.all AV.aX)=true:=by
 rw[List.all_eq_true];intro row hr;obtain ⟨a,_,rfl⟩:=Zv.1 hr;exact h.pure a
theorem Fam.iJ (h:Fam f n) (id:Nat) (l:List α):((l.map f).all λrow=>row.all λx=>!(refs x).contains id)=true:=by
 rw[List.all_eq_true];intro row hr;obtain ⟨a,_,rfl⟩:=Zv.1 hr;rw[List.all_eq_true];intro x hx;obtain ⟨j,hj⟩:=Z1 hx;have:refs x=[]:=by
  have h1:∀i,i∈refs x->i∈av (f a):=λi hi=>aL hj hi
  rw[h.free a] at h1;exact List.eq_nil_iff_forall_not_mem.2 λi hi=>by simpa using h1 i hi
 rw[this];rfl
theorem Fam.au (h:Fam f n) (e s:Nat) (l:List α):Eng.au (.cells e s (l.map f))=[]:=by
 simp only[Eng.au]
 induction l with
 | nil=>rfl
 | cons a r ih=>simp only[List.map_cons,List.flatMap_cons,h.free a,ih,List.nil_append]
theorem Fam.eR (h:∀a (off:Nat),Eng.eR off (f a)=f a) (off:Nat) (l:List α):(l.map f).map (Eng.eR off)=l.map f:=by
 induction l with
 | nil=>rfl
 | cons a r ih=>simp only[List.map_cons,h a off,ih]
theorem Fam.cm (h:∀a (id s:Nat) (rows:List (List AV)),Eng.cm id s rows (f a)=f a) (id s:Nat) (rows:List (List AV)) (l:List α):(l.map f).map (Eng.cm id s rows)=l.map f:=by
 induction l with
 | nil=>rfl
 | cons a r ih=>simp only[List.map_cons,h a id s rows,ih]
end
@[go_sem,simp] theorem Gk {α:Type} (f:α->List AV) (l:List α):(l.map f).take l.length=l.map f:=Zt w7
theorem cw {α:Type} [Inhabited α] (f:α->List AV) {l:List α} {i:Nat} (h:i<l.length):(l.take (i+1)).map f=(l.take i).map f++[f (l.getD i default)]:=by
 rw[List.take_succ_eq_append_getElem h,List.map_append,Zo,Zp h];rfl
theorem ZT {α:Type} [Inhabited α] {l:List α} {i:Nat} (h:i<l.length):l.take (i+1)=l.take i++[l.getD i default]:=by
 rw[List.take_succ_eq_append_getElem h,Zo,Zp h];rfl
theorem cH {α:Type} [Inhabited α] {l:List α} {i:Nat} (h:i<l.length):l.drop i=l.getD i default::l.drop (i+1):=by
 rw[List.drop_eq_getElem_cons h,Zo,Zp h];rfl
def cf:Option Nat->Int
 | none=>-1
 | some k=>k
theorem di {α:Type} {p:α->Bool}:∀{l:List α} {i:Nat} {x:α},l[i]? = some x->(∀y,y∈l.take i->p y=false)->p x=true->l.findIdx? p=some i
 | [],i,x,h,_,_=>by simp at h
 | y::r,0,x,h,_,hp=>by
  simp only[List.getElem?_cons_zero,Option.some.injEq] at h;subst h;simp[List.findIdx?_cons,hp]
 | y::r,i+1,x,h,hn,hp=>by
  have h0:=hn y w7;rw[List.findIdx?_cons,h0];simp only[Bool.false_eq_true,if_false];rw[di (l:=r) (i:=i) j5 (λz hz=>hn z (by simp[hz])) hp];rfl
structure Node.Small (n:Node):Prop where
 data:n.data.length≤100000000
 entries:n.entries.length≤100000000
structure Small (l:List Node):Prop where
 len:l.length≤100000000
 each:∀n,n∈l->n.Small
theorem YG {α:Type} [Inhabited α] {l:List α} {i:Nat} (h:i<l.length):l.getD i default∈l:=by
 rw[Zo,Zp h];exact WR h
theorem Fam.getD {α:Type} [Inhabited α] {f:α->List AV} {l:List α} {i:Nat} (h:i<l.length):(l.map f).getD i []=f (l.getD i default):=by
 rw[Zo,Zr,Zo,Zp h];rfl
theorem fu:Fam ZY 1:=⟨λ_=>rfl,λ_=>rfl,λ_=>rfl,λ_=>rfl⟩
@[go_sem,simp] theorem Bz (l:List _):Eng.rowsOf 1 (l.map ZY):=fu.rowsOf l
@[go_sem,simp] theorem Ee (l:List _):((l.map ZY).all λrow=>row.all AV.leaf)=true:=fu.lZ l
@[go_sem,simp] theorem mb (l:List _):((l.map ZY).all λrow=>row.all AV.aX)=true:=fu.dX l
@[go_sem,simp] theorem Dr (id:Nat) (l:List _):((l.map ZY).all λrow=>row.all λx=>!(refs x).contains id)=true:=fu.iJ id l
@[go_sem,simp] theorem Ds (e s:Nat) (l:List _):au (.cells e s (l.map ZY))=[]:=fu.au e s l
@[go_sem,simp] theorem Ed (id s:Nat) (rows:List (List AV)) (l:List _):(l.map ZY).map (cm id s rows)=l.map ZY:=Fam.cm (λ_ _ _ _=>rfl) id s rows l
theorem dy:Fam ZE 2:=⟨λ_=>rfl,λ_=>rfl,λ_=>rfl,λ_=>rfl⟩
@[go_sem,simp] theorem oZ (l:List _):Eng.rowsOf 2 (l.map ZE):=dy.rowsOf l
@[go_sem,simp] theorem rK (l:List _):((l.map ZE).all λrow=>row.all AV.leaf)=true:=dy.lZ l
@[go_sem,simp] theorem fk (l:List _):((l.map ZE).all λrow=>row.all AV.aX)=true:=dy.dX l
@[go_sem,simp] theorem jS (id:Nat) (l:List _):((l.map ZE).all λrow=>row.all λx=>!(refs x).contains id)=true:=dy.iJ id l
@[go_sem,simp] theorem BW (e s:Nat) (l:List _):au (.cells e s (l.map ZE))=[]:=dy.au e s l
@[go_sem,simp] theorem Dv (off:Nat) (l:List _):(l.map ZE).map (eR off)=l.map ZE:=Fam.eR (λ_ _=>rfl) off l
@[go_sem,simp] theorem Du (id s:Nat) (rows:List (List AV)) (l:List _):(l.map ZE).map (cm id s rows)=l.map ZE:=Fam.cm (λ_ _ _ _=>rfl) id s rows l
theorem et:Fam ZN 5:=⟨λ_=>rfl,λ_=>rfl,λ_=>rfl,λ_=>rfl⟩
@[go_sem,simp] theorem qO (l:List _):Eng.rowsOf 5 (l.map ZN):=et.rowsOf l
@[go_sem,simp] theorem tY (l:List _):((l.map ZN).all λrow=>row.all AV.leaf)=true:=et.lZ l
@[go_sem,simp] theorem dG (l:List _):((l.map ZN).all λrow=>row.all AV.aX)=true:=et.dX l
@[go_sem,simp] theorem lf (id:Nat) (l:List _):((l.map ZN).all λrow=>row.all λx=>!(refs x).contains id)=true:=et.iJ id l
@[go_sem,simp] theorem DD (e s:Nat) (l:List _):au (.cells e s (l.map ZN))=[]:=et.au e s l
@[go_sem,simp] theorem E5 (off:Nat) (l:List _):(l.map ZN).map (eR off)=l.map ZN:=Fam.eR (λ_ _=>rfl) off l
@[go_sem,simp] theorem E3 (id s:Nat) (rows:List (List AV)) (l:List _):(l.map ZN).map (cm id s rows)=l.map ZN:=Fam.cm (λ_ _ _ _=>rfl) id s rows l
theorem iY:Fam ZA 7:=⟨λ_=>rfl,λ_=>rfl,λ_=>rfl,λ_=>rfl⟩
@[go_sem,simp] theorem uD (l:List _):((l.map ZA).all λrow=>row.all AV.aX)=true:=iY.dX l
@[go_sem,simp] theorem D5 (id:Nat) (l:List _):((l.map ZA).all λrow=>row.all λx=>!(refs x).contains id)=true:=iY.iJ id l
@[go_sem,simp] theorem D6 (e s:Nat) (l:List _):au (.cells e s (l.map ZA))=[]:=iY.au e s l
@[go_sem,simp] theorem Gu (id s:Nat) (rows:List (List AV)) (l:List _):(l.map ZA).map (cm id s rows)=l.map ZA:=Fam.cm (λ_ _ _ _=>rfl) id s rows l
theorem iZ:Fam ZR 9:=⟨λ_=>rfl,λ_=>rfl,λ_=>rfl,λ_=>rfl⟩
@[go_sem,simp] theorem eA (l:List _):((l.map ZR).all λrow=>row.all AV.aX)=true:=iZ.dX l
@[go_sem,simp] theorem ue (id:Nat) (l:List _):((l.map ZR).all λrow=>row.all λx=>!(refs x).contains id)=true:=iZ.iJ id l
@[go_sem,simp] theorem Fh (e s:Nat) (l:List _):au (.cells e s (l.map ZR))=[]:=iZ.au e s l
@[go_sem,simp] theorem GK (off:Nat) (l:List _):(l.map ZR).map (eR off)=l.map ZR:=Fam.eR (λ_ _=>rfl) off l
@[go_sem,simp] theorem GJ (id s:Nat) (rows:List (List AV)) (l:List _):(l.map ZR).map (cm id s rows)=l.map ZR:=Fam.cm (λ_ _ _ _=>rfl) id s rows l
@[go_sem,simp] theorem BX (a):av (ZE a)=[]:=dy.free a
@[go_sem,simp] theorem DF (a):av (ZN a)=[]:=et.free a
@[go_sem,simp] theorem D7 (a):av (ZA a)=[]:=iY.free a
@[go_sem,simp] theorem Fi (a):av (ZR a)=[]:=iZ.free a
@[go_sem,simp] theorem HG (l:List UInt8):(l.map ZY).map Eng.byteOf=l:=by
 rw[WX];have:Eng.byteOf∘ZY=id:=by
  funext b
  show UInt8.ofNat ((b.toNat:Int)).toNat=b
  simp
 rw[this,List.map_id]
@[go_sem,simp] theorem GZ (b:UInt8):Bq (ZY b):=⟨_,rfl⟩
end La
namespace Go.Eng
open Go.ChangeShapes Go.WideShapes Go.RowKit
section
variable {H:Type} {enc:TypeId×Value->H} {P:Program}
theorem Frm.at {W W':World} (h:Frm (λ_=>False) W W') {b:Nat} (hb:b<W.heap.size):W'.heap[b]? = W.heap[b]?:=h.block b hb (λh=>h)
theorem Frm.kept {W W':World} (h:Frm (λ_=>False) W W') (may:MemPlace->Prop):W.keptBut W' may:=by
 refine ⟨h.os,h.output,λi hi=>?_⟩;rw[h.at hi];split
 ·rename_i c t fr c' t' fr' h1 h2;rw[h1] at h2;simp only[Option.some.injEq,Obj.cells.injEq] at h2;obtain ⟨rfl,rfl,rfl⟩:=h2;exact ⟨rfl,rfl,rfl,λ_ _=>rfl⟩
 ·rename_i es c es' c' h1 h2;rw[h1] at h2;simp only[Option.some.injEq,Obj.map.injEq] at h2;obtain ⟨rfl,rfl⟩:=h2;exact .inr ⟨rfl,rfl⟩
 ·rfl
theorem oT {W W':World} (h:Frm (λ_=>False) W W') {b:Nat} {sp:Nat->Bool} {held:Bool}:∀{ts:List TypeId} {vs:List Value} {ds:List (DataW H)} {ps:List MemPlace},
  DataW.TrodAll enc P W b sp held ts vs ds ps->(∀p∈ps,p.block<W.heap.size)->DataW.TrodAll enc P W' b sp held ts vs ds ps
 | [],[],[],_,h,_=>h
 | _::_,_::_,_::_,_,⟨p,q,⟨n,h1⟩,h2,e⟩,hl=>by
  subst e;refine ⟨p,q,⟨n,DataW.trod_carry n _ _ _ h1 λx hx=>?_⟩,oT h h2 (λx hx=>hl x (Zz _ hx)),rfl⟩;have hb:=hl x (WH _ hx);cases x with
  | cell b off=>exact nv (h.at hb)
  | map b=>exact h.at hb
theorem AD (hl:laidOutB P=true) (hm:mapsRowed P=true) (hz:∀t e,t<P.types.size->P.underlying t=some (.slice e)->0<P.cellsOf e) {f:Func} {s:ChangeSpec} {W W':World} {args:Array Value} {ds gs:List (DataW H)} {before:List MemPlace} {tb:TypeId}
  (hts:∀t∈f.params.toList,t<P.types.size) (hv:s.vars=[]) (hb:P.underlying tb=some .bool) (hr:f.resultTypes=#[tb])
  (hW:DataW.Whole enc P f.params.toList s.vars false W args.toList ds gs before) (hf:Frm (λ_=>False) W W')
  (h1:(s.fn H (ds++gs)).results=[.lit (.bool true)]) (h2:(s.fn H (ds++gs)).args=ds) (h3:(s.fn H (ds++gs)).vars=[]) :
  s.post enc P f false true false false W args (.bool true) W':=by
 have hW':=hW;obtain ⟨p,q,hA,hV,rfl,hfz,hnd⟩:=hW;rw[hv] at hV;obtain ⟨rfl,rfl⟩:=trodVars_none hV;have hlt:∀x∈p,x.block<W.heap.size:=λx hx=>hA.lt x hx
 refine ⟨ds,[],p++[],[],p,[],hW',?_,?_,?_,hf.kept _,λh=>nomatch h⟩
 ·rw[h1,hr];exact trodAll_cons_mk (shut_bool hb _) trodAll_mk0
 ·rw[h2];exact oT hf (DataW.TrodAll.respare (kids_rows hl hm) hz hts hA (λx hx=>by simpa using hlt x hx)) hlt
 ·rw[h3,hv];rfl
end
end Go.Eng
namespace La
open Go Go.Eng Go.Proofs
theorem ZM:(Tryz.prog).follows .mixedOrders=true:=by kernel_rfl
theorem own:ownKnob Tryz.prog.godebug=none:=by kernel_rfl
theorem laid:laidOutB Tryz.prog=true:=by kernel_rfl
theorem HN:mapsRowed Tryz.prog=true:=by kernel_rfl
theorem full:∀t e,t<Tryz.prog.types.size->Tryz.prog.underlying t=some (.slice e)->0<Tryz.prog.cellsOf e:=slices_full_of _ w8
end La
namespace La
def bsearch (lt:Nat->Bool):Nat->Nat->Nat->Nat
 | 0,lo,_=>lo
 | f+1,lo,hi=>if lo<hi then (if lt ((lo+hi) / 2) then bsearch lt f ((lo+hi) / 2+1) hi else bsearch lt f lo ((lo+hi) / 2)) else lo
theorem fQ (lt:Nat->Bool):∀(f g lo hi:Nat),hi-lo≤f->hi-lo≤g->bsearch lt f lo hi=bsearch lt g lo hi
 | 0,0,_,_,_,_=>rfl
 | 0,g+1,lo,hi,h,_=>by
  unfold bsearch;rw[if_neg z7]
 | f+1,0,lo,hi,_,h=>by
  unfold bsearch;rw[if_neg z7]
 | f+1,g+1,lo,hi,h1,h2=>by
  unfold bsearch
  by_cases h:lo<hi
  ·rw[if_pos h,if_pos h]
   by_cases hl:lt ((lo+hi) / 2)=true
   ·rw[if_pos hl,if_pos hl];exact fQ lt f g _ _ z7 z7
   ·rw[if_neg hl,if_neg hl];exact fQ lt f g _ _ z7 z7
  ·rw[if_neg h,if_neg h]
theorem fR (lt:Nat->Bool) (n:Nat) (hmono:∀i j,i≤j->j<n->lt j=true->lt i=true):∀(f lo hi:Nat),hi-lo≤f->lo≤hi->hi≤n->(∀i,i<lo->lt i=true)->(∀i,hi≤i->i<n->lt i=false) ->
  bsearch lt f lo hi≤n/\(∀i,i<bsearch lt f lo hi->lt i=true)/\∀i,bsearch lt f lo hi≤i->i<n->lt i=false
 | 0,lo,hi,h,hle,hn,h1,h2=>by
  have:lo=hi:=by omega
  subst this;exact ⟨hn,h1,h2⟩
 | f+1,lo,hi,h,hle,hn,h1,h2=>by
  unfold bsearch
  by_cases hlt:lo<hi
  ·rw[if_pos hlt]
   by_cases hl:lt ((lo+hi) / 2)=true
   ·rw[if_pos hl];exact fR lt n hmono f _ _ z7 z7 hn (λi hi'=>hmono i ((lo+hi) / 2) z7 z7 hl) h2
   ·rw[if_neg hl];refine fR lt n hmono f _ _ z7 z7 z7 h1 λi hi1 hi2=>?_
    cases e:lt i with
    | false=>rfl
    | true=>exact absurd (hmono _ i hi1 hi2 e) hl
  ·rw[if_neg hlt];have:lo=hi:=by omega
   subst this;exact ⟨hn,h1,h2⟩
theorem iU (lt:Nat->Bool):∀(f lo hi:Nat),lo≤hi->lo≤bsearch lt f lo hi/\bsearch lt f lo hi≤hi
 | 0,lo,hi,h=>⟨Zw _,h⟩
 | f+1,lo,hi,h=>by
  unfold bsearch
  by_cases hlt:lo<hi
  ·rw[if_pos hlt];split
   ·have:=iU lt f ((lo+hi) / 2+1) hi z7;omega
   ·have:=iU lt f lo ((lo+hi) / 2) z7;omega
  ·rw[if_neg hlt];omega
def placeOf (l:List Node) (fid:Int):Nat:=bsearch (λi=>decide ((l.getD i default).fid<fid)) l.length 0 l.length
def bn (l:List Node) (fid:Int):Bool:=decide (placeOf l fid<l.length)&&decide ((l.getD (placeOf l fid) default).fid=fid)
def al (l:List Node) (fid:Int):Option Node:=if bn l fid then some (l.getD (placeOf l fid) default) else none
def aI (l:List Node) (n:Node):List Node:=if bn l n.fid then l.set (placeOf l n.fid) n else l.take (placeOf l n.fid)++n::l.drop (placeOf l n.fid)
def eo (l:List Node) (fid:Int):List Node:=l.filter λn=>!(n.fid==fid)
theorem ju (l:List Node) (fid:Int):placeOf l fid≤l.length:=(iU _ _ _ _ (Wl _)).2
def Up (l:List Node):Prop:=l.Pairwise λa b=>a.fid<b.fid
theorem Up.lt {l:List Node} (h:Up l) {i j:Nat} (hij:i<j) (hj:j<l.length):(l.getD i default).fid<(l.getD j default).fid:=by
 have:=Wp.1 h i j z7 hj hij;rw[Zo,Zo,Zp z7,Zp hj];exact this
theorem Up.place {l:List Node} (h:Up l) (fid:Int):(∀i,i<placeOf l fid->(l.getD i default).fid<fid)/\∀i,placeOf l fid≤i->i<l.length->fid≤(l.getD i default).fid:=by
 have:=fR (λi=>decide ((l.getD i default).fid<fid)) l.length (λi j hij hj hl=>by
  rcases Nat.lt_or_eq_of_le hij with h1 | rfl
  ·have:=h.lt h1 hj;have h2:=of_decide_eq_true hl;exact decide_eq_true z7
  ·exact hl) l.length 0 l.length z7 z7 (Zw _) (λi hi=>by omega) (λi h1 h2=>by omega)
 obtain ⟨_,h2,h3⟩:=this;exact ⟨λi hi=>of_decide_eq_true (h2 i hi),λi hi hl=>by have:=of_decide_eq_false (h3 i hi hl);omega⟩
theorem i_ {l:List Node} {x:Node} {i:Nat} (h:l[i]? = some x):l.getD i default=x:=by rw[Zo,h];rfl
theorem ZO {l:List Node} (h:Up l) {fid:Int} {x:Node}:al l fid=some x↔x∈l/\x.fid=fid:=by
 obtain ⟨p1,p2⟩:=h.place fid;unfold al bn;constructor
 ·intro hf;split at hf
  ·rename_i hc;rw[Bool.and_eq_true] at hc;have h1:=of_decide_eq_true hc.1;have h2:=of_decide_eq_true hc.2;injection hf with hf
   subst hf;exact ⟨YG h1,h2⟩
  ·cases hf
 ·rintro ⟨hx,rfl⟩;obtain ⟨i,hi⟩:=Z1 hx;have hil:i<l.length:=(Zu.1 hi).1;have hix:=i_ hi;have hpi:placeOf l x.fid=i:=by
   rcases Nat.lt_trichotomy (placeOf l x.fid) i with h1 | h1 | h1
   ·have:=p2 _ (Zw _) z7;have h3:=h.lt h1 hil;rw[hix] at h3;omega
   ·exact h1
   ·have:=p1 i h1;rw[hix] at this;omega
  rw[hpi,hix,if_pos (by simp[hil])]
theorem gp {l:List Node} (h:Up l) {fid:Int}:al l fid=none↔∀x,x∈l->x.fid≠fid:=by
 constructor
 ·intro hf x hx hxf;rw[(ZO h).2 ⟨hx,hxf⟩] at hf;cases hf
 ·intro hf;cases e:al l fid with
  | none=>rfl
  | some x=>
   obtain ⟨h1,h2⟩:=(ZO h).1 e;exact absurd h2 (hf x h1)
theorem bf {l:List Node} (h:Up l) (n:Node):Up (aI l n)/\∀x,x∈aI l n↔x=n\/(x∈l/\x.fid≠n.fid):=by
 obtain ⟨p1,p2⟩:=h.place n.fid;have hle:=ju l n.fid;unfold aI;generalize hp:placeOf l n.fid=p at *;have hmem:∀x,x∈l↔x∈l.take p\/x∈l.drop p:=λx=>by
  have:=List.mem_append (a:=x) (s:=l.take p) (t:=l.drop p);rw[Wq] at this;exact this
 have ht:∀x,x∈l.take p->x.fid<n.fid:=λx hx=>by
  obtain ⟨i,hi⟩:=Z1 hx;rw[WE] at hi;split at hi
  ·rename_i hip;have:=p1 i hip
   rwa [i_ hi] at this
  ·cases hi
 have hd:∀x,x∈l.drop p->n.fid≤x.fid:=λx hx=>by
  obtain ⟨i,hi⟩:=Z1 hx;rw[WJ] at hi;have:=p2 (p+i) z7 (Zu.1 hi).1
  rwa [i_ hi] at this
 by_cases hat:bn l n.fid=true
 ·rw[if_pos hat];unfold bn at hat;rw[Bool.and_eq_true] at hat;have hpl:p<l.length:=by have:=of_decide_eq_true hat.1;omega
  have hpf:(l.getD p default).fid=n.fid:=by have:=of_decide_eq_true hat.2;rw[hp] at this;exact this
  have aB:l.set p n=l.take p++n::l.drop (p+1):=by
   rw[List.set_eq_take_append_cons_drop,if_pos hpl]
  have hdd:l.drop p=l.getD p default::l.drop (p+1):=cH hpl;have hd1:∀x,x∈l.drop (p+1)->n.fid<x.fid:=λx hx=>by
   obtain ⟨i,hi⟩:=Z1 hx;rw[WJ] at hi;have:=h.lt (i:=p) (j:=p+1+i) z7 (Zu.1 hi).1;rw[i_ hi,hpf] at this;exact this
  rw[aB];refine ⟨?_,λx=>?_⟩
  ·refine List.pairwise_append.2 ⟨h.sublist (List.take_sublist _ _),List.pairwise_cons.2 ⟨hd1,h.sublist (List.drop_sublist _ _)⟩,λa ha b hb=>?_⟩
   rcases List.mem_cons.1 hb with rfl | hb
   ·exact ht a ha
   ·have:=ht a ha;have:=hd1 b hb;omega
  ·rw[hmem,hdd];simp only[List.mem_append,List.mem_cons];constructor
   ·rintro (h1 | h1 | h1)
    ·exact .inr ⟨.inl h1,by have:=ht x h1;omega⟩
    ·exact .inl h1
    ·exact .inr ⟨.inr (.inr h1),by have:=hd1 x h1;omega⟩
   ·rintro (h1 | ⟨h1 | rfl | h1,h2⟩)
    ·exact .inr (.inl h1)
    ·exact .inl h1
    ·exact absurd hpf h2
    ·exact .inr (.inr h1)
 ·rw[if_neg hat];have hd1:∀x,x∈l.drop p->n.fid<x.fid:=λx hx=>by
   obtain ⟨i,hi⟩:=Z1 hx;rw[WJ] at hi;have hil:p+i<l.length:=(Zu.1 hi).1;have h0:¬(l.getD p default).fid=n.fid:=by
    intro e
    apply hat
    unfold bn;rw[hp,Bool.and_eq_true];exact ⟨decide_eq_true z7,decide_eq_true e⟩
   have h1:=p2 p (Zw _) z7
   by_cases hi0:i=0
   ·subst hi0;rw[Nat.add_zero] at hi;rw[i_ hi] at h0 h1;omega
   ·have:=h.lt (i:=p) (j:=p+i) z7 hil;rw[i_ hi] at this;omega
  refine ⟨?_,λx=>?_⟩
  ·refine List.pairwise_append.2 ⟨h.sublist (List.take_sublist _ _),List.pairwise_cons.2 ⟨hd1,h.sublist (List.drop_sublist _ _)⟩,λa ha b hb=>?_⟩
   rcases List.mem_cons.1 hb with rfl | hb
   ·exact ht a ha
   ·have:=ht a ha;have:=hd1 b hb;omega
  ·rw[hmem];simp only[List.mem_append,List.mem_cons];constructor
   ·rintro (h1 | h1 | h1)
    ·exact .inr ⟨.inl h1,by have:=ht x h1;omega⟩
    ·exact .inl h1
    ·exact .inr ⟨.inr h1,by have:=hd1 x h1;omega⟩
   ·rintro (h1 | ⟨h1 | h1,h2⟩)
    ·exact .inr (.inl h1)
    ·exact .inl h1
    ·exact .inr (.inr h1)
theorem ix {l:List Node} (h:Up l) (fid:Int):Up (eo l fid)/\∀x,x∈eo l fid↔x∈l/\x.fid≠fid:=
 ⟨h.sublist Wn,λx=>by unfold eo;rw[Z0];simp⟩
theorem x_ {l:List Node} (h:Up l) (n:Node):al (aI l n) n.fid=some n:=by
 obtain ⟨h1,h2⟩:=bf h n;exact (ZO h1).2 ⟨(h2 n).2 (.inl rfl),rfl⟩
theorem x' {l:List Node} (h:Up l) (n:Node) {other:Int} (ho:other≠n.fid):al l other=al (aI l n) other:=by
 obtain ⟨h1,h2⟩:=bf h n;cases e:al l other with
 | none=>
  symm
  rw[gp h1];intro x hx
  rcases (h2 x).1 hx with rfl | ⟨hx,_⟩
  ·exact Ne.symm ho
  ·exact (gp h).1 e x hx
 | some x=>
  obtain ⟨k1,k2⟩:=(ZO h).1 e
  symm
  exact (ZO h1).2 ⟨(h2 x).2 (.inr ⟨k1,by rw[k2];exact ho⟩),k2⟩
end La
namespace Go.Eng
section
variable {P:Program} {T:Tab} {C:Ctx} {σ σ':St} {Ret:St->Prop} {k:List It}
theorem zA:∀H,sub [] H=[]
 | []=>rfl
 | p::r=>by simp[sub,zA r]
theorem yU:∀H,del [] H=H
 | []=>rfl
 | p::r=>by simp[del,yU r]
theorem Ak (l:List AV):l.map (fN [])=l:=by
 have:fN []=id:=by funext x;simp[fN]
 rw[this,List.map_id]
theorem ff {ops:Array Oper} {Q:Exit->Act->World->Prop} {k n:Nat} {acc:cL} {o:Oper} {l:List Oper} {c:Operand} {args:Array Operand} {ats:Array TypeId} (off:Nat) (ho:o.op=.call { callee:=.value c,args,argTypes:=ats }) (hg:o.guard=none) {p:Prop} {f:FuncId} {xs:List AV}
  (h:ar σ c args.toList=some (p,f,xs)) (hp:p) (hc:ax P f) (hx:av xs=[]) {K:List (Nat×Blk)} {r:AV} (hf:ae P f xs [] λr' H'=>r'=r/\∀id b,aa K id=some b->aa H' id=some b) (hc3:closed K (refs r)=true)
  {r2:AV} (hr:ren off r=r2) {K2:List (Nat×Blk)} (hK:pk off K=K2) (hn:(K2.all λb=>(aa σ.hp b.1).isNone)=true)
  {sk:List Loc×List Loc} (hs:((Sp.mk o.dst r2 K2 (bx ops o.guard++(ew σ c++aK σ args.toList))).wr,bx ops o.guard++(ew σ c++aK σ args.toList))=sk)
  (ha:St.put ⟨σ.tm,K2++σ.hp⟩ o.dst r2=σ') (hk:aj P C ops Q k n (acc++[sk]) l σ'):aj P C ops Q k n acc (o::l) σ:=by
 subst hr hK;refine m_ (q:=⟨o.dst,ren off r,pk off K,bx ops o.guard++(ew σ c++aK σ args.toList)⟩) ?_ (λb hb _=>?_) (by rw[←hs]) (by rw[←ha];rfl) hk
 ·intro s hagree hfree a w Kp Q' hr hKp;have hg':guardOf ops s o.guard=some true:=by rw[hg];rfl
  obtain ⟨μ,S,hi⟩:=hr;rw[ba hi hg'];refine .inl ?_;refine rn ho (by rw[cF (λx hx=>hagree x (Zz _ hx))];exact h) hp hc [] off (H:=[]) (K:=K) (r:=r) (zA _) (by rw[hx];rfl) rfl w7 hc3 ?_ hf ?_ a w Kp Q' ⟨μ,S,hi⟩ hKp
  ·rw[List.all_eq_true];intro q hq;have hm:(q.1+off,yc off q.2)∈pk off K:=Zv.2 ⟨q,hq,rfl⟩;have h0:aa s.hp (q.1+off)=none:=by
    by_cases h:Loc.blk (q.1+off)∈bx ops o.guard++(ew σ c++aK σ args.toList)
    ·have h1:=List.all_eq_true.1 hn _ hm;have h2:aa σ.hp (q.1+off)=none:=by simpa using h1
     exact (hagree _ h).trans h2
    ·exact hfree _ hm h
   rw[h0];rfl
  ·rw[Ak,yU];rfl
 ·have:=List.all_eq_true.1 hn b hb;simpa using this
theorem le_empty (id e s:Nat) (hf:aa σ.hp id=none):Le C σ ⟨σ.tm,(id,.cells e s [])::σ.hp⟩:=by
 rintro a w ⟨μ,S,hi⟩;refine ⟨μ,S,hi.size,hi.defers,hi.tm,λi b hb=>?_,λi q hq=>?_,hi.inj,hi.frm,hi.sb⟩
 ·simp only[aa] at hb;split at hb
  ·rename_i h1;injection hb with hb
   subst h1 hb;exact .inl ⟨rfl,hi.fresh hf⟩
  ·exact hi.hp i b hb
 ·obtain ⟨⟨b,h1⟩,h2⟩:=hi.dom i q hq;refine ⟨?_,h2⟩;simp only[aa];split
  ·exact ⟨_,rfl⟩
  ·exact ⟨b,h1⟩
theorem bK (ref id:Nat) {e s:Nat} {rows rows':List (List AV)} (hb:aa σ.hp id=some (.cells e s rows)) (hr:rows.map (λrow=>row.map (kill ref))=rows'):Le C σ ⟨σ.tm,aB σ.hp id (.cells e s rows')⟩:=by
 subst hr;rintro a w ⟨μ,S,hi⟩;refine ⟨μ,S,hi.size,hi.defers,hi.tm,λi b hb'=>?_,λi q hq=>?_,hi.inj,hi.frm,hi.sb⟩
 ·simp only[ai] at hb';split at hb'
  ·rename_i h1;injection hb' with hb'
   subst h1 hb'
   rcases hi.hp id _ hb with ⟨rfl,k2⟩ | ⟨g,c,k1,k2,k3,k4,k5⟩
   ·exact .inl ⟨by simp,k2⟩
   ·refine .inr ⟨g,c,k1,k2,by rw[List.length_map];exact k3,λrow hrow=>?_,λi row hi' q x hx=>?_⟩
    ·obtain ⟨r0,h0,rfl⟩:=Zv.1 hrow;rw[List.length_map];exact k4 r0 h0
    ·rw[Zr] at hi';cases e0:rows[i]? with
     | none=>rw[e0] at hi';cases hi'
     | some r0=>
      rw[e0] at hi';simp only[Option.map_some,Option.some.injEq] at hi';subst hi';rw[Zr] at hx;cases e1:r0[q]? with
      | none=>rw[e1] at hx;cases hx
      | some y=>
       rw[e1] at hx;simp only[Option.map_some,Option.some.injEq] at hx;subst hx;unfold kill;split
       ·exact .any _
       ·exact k5 i r0 e0 q y e1
  ·exact hi.hp i b hb'
 ·obtain ⟨⟨b,h1⟩,h2⟩:=hi.dom i q hq;refine ⟨?_,h2⟩;simp only[ai];split
  ·exact ⟨_,rfl⟩
  ·exact ⟨b,h1⟩
theorem ae.ie {f:FuncId} {args:List AV} {H:List (Nat×Blk)} {X Y:AV} (h:ae P f args H λr _=>r=X) (hn:Eng.nrm X=Y):ae P f args H λr _=>r=Y:=by
 subst hn;intro R0 μ w0 vs hl ha hH hR;refine (h R0 μ w0 vs hl ha hH hR).mono ?_;rintro e' w' ⟨v,r,H',μ',S',rfl,rfl,h4,h5⟩;exact ⟨v,_,H',μ',S',rfl,rfl,h4.nrm,h5⟩
structure Sim (σ τ:St):Prop where
 tm:σ.tm=τ.tm
 hp:∀id,aa σ.hp id=aa τ.hp id
theorem Sim.app {σ τ:St} (h:Sim σ τ) (p:Sp):Sim (p.app σ) (p.app τ):=by
 refine ⟨?_,λid=>?_⟩
 ·unfold Sp.app St.put;cases p.dst<;>simp[h.tm]
 ·unfold Sp.app;rw[St.eO,St.eO]
  show aa (p.new++σ.hp) id=aa (p.new++τ.hp) id
  rw[an,an,h.hp id]
theorem Sim.bE {σ τ:St}:∀(ps:List Sp),Sim σ τ->Sim (Eng.bE ps σ) (Eng.bE ps τ):=λps=>by
 induction ps generalizing σ τ with
 | nil=>exact id
 | cons p r ih=>exact λh=>ih (h.app p)
theorem Sim.agree {σ τ s:St} (h:Sim σ τ) {x:Loc} (hx:az σ s x):az τ s x:=by
 cases x with
 | tm t=>show _=_;rw[←h.tm];exact hx
 | blk id=>show _=_;rw[←h.hp];exact hx
theorem Sim.rob {σ τ:St} (h:Sim σ τ) {ops:Array Oper} {o:Oper} {p:Sp} (hr:Rob P C ops o p τ):Rob P C ops o p σ:=λs ha hf=>hr s (λx hx=>h.agree (ha x hx)) hf
theorem Sim.chain {ops:Array Oper}:∀(l:List Oper) (ps:List Sp) {σ τ:St},Sim σ τ->cE P C ops l ps τ->cE P C ops l ps σ
 | [],[],_,_,_,h=>h
 | _::l,p::ps,_,_,h,hr=>⟨h.rob hr.1,Sim.chain l ps (h.app p) hr.2⟩
 | [],_::_,_,_,_,h=>h
 | _::_,[],_,_,_,h=>h
theorem Sim.fresh:∀(ps:List Sp) {σ τ:St},Sim σ τ->cj ps τ->cj ps σ
 | [],_,_,_,h=>h
 | p::ps,_,_,h,hf=>⟨λb hb hn=>by rw[h.hp];exact hf.1 b hb hn,Sim.fresh ps (h.app p) hf.2⟩
theorem aY.sim {ops:Array Oper} {Q:Exit->Act->World->Prop} {k:Nat} {σ τ:St} (h:Sim σ τ) (hd:aY P C ops Q k τ):aY P C ops Q k σ:=λa w hr=>
 hd a w (fD (by rw[h.tm]) (λt=>by rw[h.tm]) h.hp a w hr)
theorem aj.sim {ops:Array Oper} {Q:Exit->Act->World->Prop} {k n:Nat} {acc:cL} {l:List Oper} {σ τ:St} (h:Sim σ τ) (hs:aj P C ops Q k n acc l τ):aj P C ops Q k n acc l σ:=by
 obtain ⟨l1,l2,ps,h1,h2,h3,h4,h5,h6⟩:=hs;exact ⟨l1,l2,ps,h1,h2,h.chain _ _ h3,h.fresh _ h4,h5,aY.sim (h.bE ps) h6⟩
theorem cY (hT:TabOK P T) {ops:Array Oper} {Q:Exit->Act->World->Prop} {k n:Nat} {acc:cL} {o:Oper} {l:List Oper} {t:TypeId} {x y:Operand} (ho:o.op=.store t x y) (hd:o.dst=none) (hg:guardOf ops σ o.guard=some true) {id size row off:Nat} (hx:evS σ x=(True,.ptr id size row off))
  {q:Prop} {v:AV} (hy:evS σ y=(q,v)) (hq:q) {p:Prop} {H:List (Nat×Blk)} (h:eP T σ t (.ptr id size row off) v=some (p,H)) (hp:p) {b:Blk} (hH:aa H id=some b)
  {sk:List Loc×List Loc} (hs:([Loc.blk id],bx ops o.guard++(aK σ [x,y]++[Loc.blk id]))=sk) (ha:(⟨σ.tm,aB σ.hp id b⟩:St)=σ') (hk:aj P C ops Q k n (acc++[sk]) l σ'):aj P C ops Q k n acc (o::l) σ:=by
 subst hs ha;have hform:H=aB σ.hp id b:=by
  unfold eP at h;split at h
  ·rename_i id' size' row' off' xs heq1 heq2;injection heq1 with e1 e2 e3 e4
   subst e1 e2 e3 e4;split at h
   ·split at h
    ·simp only[Option.some.injEq,Prod.mk.injEq] at h;obtain ⟨_,rfl⟩:=h;rw[ai,if_pos rfl] at hH;injection hH with hH
     rw[hH]
    ·cases h
   ·cases h
  ·cases h
 refine m_ (q:=⟨none,.any,[(id,b)],bx ops o.guard++(aK σ [x,y]++[Loc.blk id])⟩) (σ':=Sp.app ⟨none,.any,[(id,b)],bx ops o.guard++(aK σ [x,y]++[Loc.blk id])⟩ σ) ?_ (λc hc hn=>?_) rfl rfl ?_
 ·intro s hagree _ a w K Q' hr hK;have hg':guardOf ops s o.guard=some true:=by rw[fw (λx hx=>hagree x (WH _ hx))];exact hg
  obtain ⟨μ,S,hi⟩:=hr;rw[ba hi hg'];refine .inl ?_;have hl:∀z,z∈aK σ [x,y]->az σ s z:=λz hz=>hagree z (Zz _ (WH _ hz))
  have hx':evS s x=(True,.ptr id size row off):=by rw[bU (λz hz=>hl z (cX w7 z hz))];exact hx
  have hy':evS s y=(q,v):=by rw[bU (λz hz=>hl z (cX w7 z hz))];exact hy
  have hb:aa s.hp id=aa σ.hp id:=hagree (.blk id) (Zz _ (Zz _ w7));have hst:eP T s t (.ptr id size row off) v=some (p,aB s.hp id b):=by
   unfold eP at h ⊢;split at h
   ·rename_i id' size' row' off' xs heq1 heq2;injection heq1 with e1 e2 e3 e4
    subst e1 e2 e3 e4;rw[hb];split at h
    ·split at h
     ·simp only[Option.some.injEq,Prod.mk.injEq] at h;obtain ⟨rfl,rfl⟩:=h;rw[ai,if_pos rfl] at hH;injection hH with hH
      subst hH;rw[if_pos Zc]
     ·cases h
    ·cases h
   ·cases h
  have hstep:dP T s o.dst o.op=some ((evS s x).1/\(evS s y).1/\p,⟨s.tm,aB s.hp id b⟩):=by
   rw[ho,hd]
   show (eP T s t (evS s x).2 (evS s y).2).map _=_
   rw[hx',hy',hst];rfl
  have hnd:(St.mk s.tm (aB s.hp id b)).hp=aB s.hp id b:=rfl;refine bL hT o hstep ⟨by rw[hx'];trivial,by rw[hy'];exact hq,hp⟩ a w K Q' ⟨μ,S,hi⟩ λa' w' hr'=>hK a' w' ?_
  show Rel C ⟨s.tm,(id,b)::s.hp⟩ a' w'
  refine fD (s:=⟨s.tm,aB s.hp id b⟩) (s':=⟨s.tm,(id,b)::s.hp⟩) rfl (λt=>rfl) (λi=>?_) a' w' hr'
  show aa (aB s.hp id b) i=aa ((id,b)::s.hp) i
  rw[ai];rfl
 ·have hc':=List.mem_singleton.1 hc;subst hc';exact absurd (Zz _ (Zz _ w7)) hn
 ·refine aj.sim (τ:=⟨σ.tm,aB σ.hp id b⟩) ⟨rfl,λi=>?_⟩ hk
  show aa ((id,b)::σ.hp) i=aa (aB σ.hp id b) i
  rw[ai];rfl
end
end Go.Eng
namespace Go.Eng
section
variable {P:Program} {T:Tab} {C:Ctx} {μ:Nat->Option Nat} {S:Nat->Prop} {σ σ':St} {a:Act} {w:World} {Ret:St->Prop} {k:List It}
def eqT (T:Tab):List TypeId->List AV->List AV->Option Bool
 | [],[],[]=>some true
 | t::ts,.int k x::a,.int k' y::b=>match T.und t with
  | .int _=>if k=k' then (eqT T ts a b).map λr=>x==y&&r else none
  | _=>none
 | t::ts,.bool x::a,.bool y::b=>match T.und t with
  | .bool=>(eqT T ts a b).map λr=>x==y&&r
  | _=>none
 | t::ts,.str x::a,.str y::b=>match T.und t with
  | .str=>(eqT T ts a b).map λr=>x==y&&r
  | _=>none
 | _,_,_=>none
def ga:List Field->Nat->List TypeId->Bool
 | [],_,[]=>true
 | f::fs,j,t::ts=>f.name != "_" && f.offset==j&&f.type==t&&ga fs (j+1) ts
 | _,_,_=>false
def qa (P:Program) (t:TypeId) (tys:List TypeId):Bool:=
 match P.underlying t with
 | some (.struct F)=>!P.stoodInHeld t&&!P.eqGuardType P.depth t&&ga F.toList 0 tys
 | _=>false
theorem ui (hT:TabOK P T) {xs ys:Array Value} {A B:List AV} (hsx:xs.size=A.length) (hsy:ys.size=B.length) (hx:∀j x,A[j]? = some x->Rd μ S w (xs.getD j undef) x) (hy:∀j x,B[j]? = some x->Rd μ S w (ys.getD j undef) x) (d:Nat) :
  ∀(fs:List Field) (j:Nat) (ts:List TypeId) (r:Bool),ga fs j ts=true->eqT T ts (A.drop j) (B.drop j)=some r->(Op.eqFields (d+1) xs ys fs).run P w=.ok r w:=by
 intro fs
 induction fs with
 | nil=>
  intro j ts r h he;cases ts with
  | nil=>
   cases hA:A.drop j<;>cases hB:B.drop j<;>rw[hA,hB] at he<;>simp only[eqT,Option.some.injEq,reduceCtorEq] at he;subst he;simp[Op.eqFields]
  | cons t ts=>simp[ga] at h
 | cons f fs ih=>
  intro j ts r h he;cases ts with
  | nil=>simp[ga] at h
  | cons t ts=>
   simp only[ga,Bool.and_eq_true,bne_iff_ne,ne_eq,beq_iff_eq] at h;obtain ⟨⟨⟨h1,h2⟩,h3⟩,h4⟩:=h;subst h2 h3;cases hA:A.drop f.offset with
   | nil=>rw[hA] at he;cases hB:B.drop f.offset<;>rw[hB] at he<;>simp[eqT] at he
   | cons p A'=>
    cases hB:B.drop f.offset with
    | nil=>rw[hA,hB] at he;cases p<;>simp[eqT] at he
    | cons q B'=>
     have hA1:A[f.offset]? = some p:=by have:=congrArg (λl=>l[0]?) hA;simpa using this
     have hB1:B[f.offset]? = some q:=by have:=congrArg (λl=>l[0]?) hB;simpa using this
     have hA2:A.drop (f.offset+1)=A':=by rw[←List.drop_drop,hA];rfl
     have hB2:B.drop (f.offset+1)=B':=by rw[←List.drop_drop,hB];rfl
     have hAl:f.offset<A.length:=(Zu.1 hA1).1;have hBl:f.offset<B.length:=(Zu.1 hB1).1;have hpx:∀b,(T.und f.type).isA=some b->b=false->(part f.type xs f.offset).run P w=.ok (xs.getD f.offset undef) w:=λb hb hf=>by
      subst hf;simp[part,iD hT hb,hsx,hAl,Zq]
     have hpy:∀b,(T.und f.type).isA=some b->b=false->(part f.type ys f.offset).run P w=.ok (ys.getD f.offset undef) w:=λb hb hf=>by
      subst hf;simp[part,iD hT hb,hsy,hBl,Zq]
     have rx:=hx _ _ hA1;have ry:=hy _ _ hB1;have hk:=hT.und f.type;have ih':=λr' he'=>ih (f.offset+1) ts r' h4 he'
     rw[hA2,hB2] at ih';rw[hA,hB] at he;cases hu:T.und f.type<;>rw[hu] at hk<;>cases p<;>cases q<;>simp only[eqT,hu,reduceCtorEq] at he
     ·obtain ⟨r0,h0,rfl⟩:=WG.1 he;have e1:=rx.dj;have e2:=ry.dj;simp only[Op.eqFields,h1,not_false_eq_true,if_true,ne_eq,Sem.run_bind,hpx false Zf rfl,hpy false Zf rfl,Result.andThen_ok,e1,e2,run_equalIn_bool' w d f.type _ _ hk];rename_i b1 b2;cases hb:(b1==b2)
      ·simp
      ·simp[ih' r0 h0]
     ·split at he
      ·rename_i hkk;obtain ⟨r0,h0,rfl⟩:=WG.1 he;have e1:=rx.aF;have e2:=ry.aF;subst hkk;simp only[Op.eqFields,h1,not_false_eq_true,if_true,ne_eq,Sem.run_bind,hpx false Zf rfl,hpy false Zf rfl,Result.andThen_ok,e1,e2,run_equalIn_int w d f.type _ _ _ _ hk];rename_i b1 b2;cases hb:(b1==b2)
       ·simp
       ·simp[ih' r0 h0]
      ·cases he
     ·obtain ⟨r0,h0,rfl⟩:=WG.1 he;obtain ⟨s1,e1,q1⟩:=rx.dY;obtain ⟨s2,e2,q2⟩:=ry.dY;subst q1 q2;simp only[Op.eqFields,h1,not_false_eq_true,if_true,ne_eq,Sem.run_bind,hpx false Zf rfl,hpy false Zf rfl,Result.andThen_ok,e1,e2,run_equalIn_string w d f.type _ _ hk,ByteArray.toList_eq];cases hb:(s1.data.toList==s2.data.toList)
      ·simp
      ·simp[ih' r0 h0]
theorem A5 (hT:TabOK P T) {t:TypeId} {tys:List TypeId} (hc:qa P t tys=true) {ox oy:Operand} {v u:Value} {A B:List AV} {r:Bool} (h:eqT T tys A B=some r) (hv:Rd μ S w v (.agg A)) (hu:Rd μ S w u (.agg B)) {op:BinOp} {q:Bool} (hop:(op=.eql/\q=r)\/(op=.neq/\q=!r)) :
  (do eqGuard op t ox oy v u;binOp op t v u:Sem Value).run P w=.ok (.bool q) w:=by
 obtain ⟨xs,rfl,hxl,hxr⟩:=hv.kL;obtain ⟨ys,rfl,hyl,hyr⟩:=hu.kL;unfold qa at hc;split at hc
 ·rename_i F hF;simp only[Bool.and_eq_true,WQ] at hc;obtain ⟨⟨h1,h2⟩,h3⟩:=hc;have hfo:P.fieldsOf t=F:=by simp[Program.fieldsOf,hF]
  have key:=ui (P:=P) (w:=w) hT hxl hyl hxr hyr 9998 F.toList 0 tys r h3 j5;have key2:(Op.equalIn 10000 t (.agg xs) (.agg ys)).run P w=.ok r w:=by
   rw[run_equalIn_struct w 9999 t xs ys (by rw[hfo];exact hF) h1,hfo];exact key
  rcases hop with ⟨rfl,rfl⟩ | ⟨rfl,rfl⟩
  ·simp[run_eqGuard_agg w .eql t ox oy xs ys h2,run_eql_struct w t xs ys,key2]
  ·simp[run_eqGuard_agg w .neq t ox oy xs ys h2,run_neq_struct w t xs ys,key2]
 ·cases hc
theorem wZ (hT:TabOK P T) {o:Oper} {op:BinOp} {t ty:TypeId} {x y:Operand} (ho:o.op=.binOp op t x y ty) {tys:List TypeId} (hc:qa P t tys=true) {A B:List AV} {r:Bool} (hx:evS σ x=(True,.agg A)) (hy:evS σ y=(True,.agg B)) (h:eqT T tys A B=some r)
  {q:Bool} (hop:(op=.eql/\q=r)\/(op=.neq/\q=!r)):dx P C o σ (σ.put o.dst (.bool q)):=by
 refine cS λμ S a w hi=>?_
 have hv:=hi.evS x u7;have hu:=hi.evS y QW;rw[hx] at hv;rw[hy] at hu;refine ⟨.bool q,?_,.pure (.bool _)⟩;have:=A5 (ox:=x) (oy:=y) hT hc h hv hu hop;simp only[execOp,ho];have e:(do eqGuard op t x y (a.eval x) (a.eval y);binOp op t (a.eval x) (a.eval y):Sem Value).run P w=.ok (.bool q) w:=this;simp only[Sem.run_bind] at e ⊢
 revert e
 generalize (eqGuard op t x y (a.eval x) (a.eval y)).run P w=z;intro e;rw[e];rfl
attribute [go_sem] eqT
end
end Go.Eng
namespace Go.Eng
section
variable {P:Program} {T:Tab} {C:Ctx} {μ:Nat->Option Nat} {S:Nat->Prop} {σ σ':St} {a:Act} {w w':World} {Ret:St->Prop} {k:List It}
end
end Go.Eng
namespace Go.Eng
section
variable {P:Program} {T:Tab} {C:Ctx} {μ:Nat->Option Nat} {S:Nat->Prop} {σ σ':St} {Ret:St->Prop} {k:List It}
def pins (ids:List Nat) (G Y N:Nat->Nat):List (Nat×Blk):=ids.map λi=>(5000+i,.pin i (G i) (Y i) (N i))
theorem eY (G Y N:Nat->Nat) (i:Nat):∀(ids:List Nat),aa (pins ids G Y N) i=if 5000≤i/\ids.contains (i-5000)=true then some (.pin (i-5000) (G (i-5000)) (Y (i-5000)) (N (i-5000))) else none
 | []=>by simp[pins,aa]
 | j::r=>by
  have ih:=eY G Y N i r;simp only[pins,List.map_cons,aa] at ih ⊢
  by_cases e:5000+j=i
  ·subst e;rw[if_pos rfl,if_pos ⟨by omega,by rw[Wb];simp⟩,Wb]
  ·rw[if_neg e,ih]
   by_cases h:5000≤i
   ·have hne:i-5000≠j:=by omega
    simp only[h,true_and,List.contains_cons];simp[hne]
   ·rw[if_neg (λhh=>h hh.1),if_neg (λhh=>h hh.1)]
theorem bQ (i:Nat):∀(K H:List (Nat×Blk)),(K.map (·.1)).Nodup->aa (bA H K) i=if (aa K i).isSome=true then aa K i else aa H i
 | [],H,_=>by simp[bA,aa]
 | (j,b)::r,H,hn=>by
  simp only[List.map_cons,List.nodup_cons] at hn;simp only[bA,aa];rw[bQ i r _ hn.2,ai]
  by_cases e:j=i
  ·subst e;have h0:aa r j=none:=by
    cases h:aa r j with
    | none=>rfl
    | some c=>exact absurd (Zv.2 ⟨_,aA h,rfl⟩) hn.1
   simp[h0]
  ·simp[e]
def dq:Blk->Bool
 | .cells _ s rows=>!rows.isEmpty&&s != 0
 | .map _=>true
 | _=>false
theorem xZ {w:World} {id:Nat} {b:Blk} (h:bN μ S w id b) (hp:dq b=true):∃g t n,μ id=some g/\af w g=nZ t n:=by
 cases b with
 | cells e s rows=>
  simp only[dq,Bool.and_eq_true,WQ,List.isEmpty_eq_false_iff,bne_iff_ne] at hp
  rcases h with ⟨rfl,_⟩ | ⟨g,c,h1,h2,h3,_⟩
  ·exact absurd rfl hp.1
  ·refine ⟨g,e,c.size,h1,?_⟩;have hpos:0<rows.length:=by
    rcases Nat.eq_zero_or_pos rows.length with h | h
    ·exact absurd (List.eq_nil_of_length_eq_zero h) hp.1
    ·exact h
   have:0<rows.length*s:=Nat.mul_pos hpos (Nat.pos_of_ne_zero hp.2);unfold af nZ;rw[h2,if_neg z7];rfl
 | map kvs=>
  obtain ⟨g,es,clk,vals,h1,h2,_⟩:=h;refine ⟨g,0,0,h1,?_⟩;unfold af nZ;rw[h2];rfl
 | iter kvs seen=>cases hp
 | cap id s N=>cases hp
 | pin id g t n=>cases hp
theorem cR {o:Oper} {c:Operand} {args:Array Operand} {ats:Array TypeId} (ho:o.op=.call { callee:=.value c,args,argTypes:=ats }) {p:Prop} {f:FuncId} {xs:List AV}
  (h:ar σ c args.toList=some (p,f,xs)) (hp:p) (hc:ax P f) (ids:List Nat) {H K:List (Nat×Blk)} {r:AV} (hH:sub ids σ.hp=H)
  (hck:((av xs).all ids.contains&&(refs r).all ids.contains&&ids.all (λi=>decide (i<5000)&&(aa K i).isSome)&&K.all (λq=>ids.contains q.1))=true) (hnd:(K.map (·.1)).Nodup)
  (hpin:(ids.all λi=>match aa H i with | some b=>dq b | none=>false)=true) (hc1:(H.all λq=>(au q.2).all ids.contains)=true) (hc2:(K.all λq=>(au q.2).all ids.contains)=true)
  (hf:∀G Y N:Nat->Nat,ae P f xs (H++pins ids G Y N) λr' H'=>r'=r/\∀i b,aa (K++pins ids G Y N) i=some b->aa H' i=some b) {τ:St} (hτ:(⟨σ.tm,bA σ.hp K⟩:St).put o.dst r=τ):dx P C o σ τ:=by
 subst hH hτ;simp only[Bool.and_eq_true] at hck;obtain ⟨⟨⟨hx,hr⟩,hi1⟩,hK1⟩:=hck;have hxr:∀i,i∈av xs->ids.contains i=true:=λi h=>List.all_eq_true.1 hx i h
 have hrr:∀i,i∈refs r->ids.contains i=true:=λi h=>List.all_eq_true.1 hr i h
 have hid:∀i,ids.contains i=true->i<5000/\∃b,aa K i=some b:=λi h=>by
  have:=List.all_eq_true.1 hi1 i j5;rw[Bool.and_eq_true,decide_eq_true_eq] at this;exact ⟨this.1,WM.1 this.2⟩
 have hKi:∀i b,aa K i=some b->ids.contains i=true:=λi b h=>List.all_eq_true.1 hK1 _ (aA h)
 intro a w Kp Q ⟨μ,S,hi⟩ hKp;obtain ⟨vs,h1,h2,h3⟩:=f_ hi ho h hp hc;unfold Oper.wp;rw[h3];have hpn:∀i,∃g t n,ids.contains i=true->μ i=some g/\af w g=nZ t n:=λi=>by
  by_cases e:ids.contains i=true
  ·have:=List.all_eq_true.1 hpin i Zn;cases e2:aa (sub ids σ.hp) i with
   | none=>rw[e2] at this;cases this
   | some b=>
    rw[e2] at this;have e3:aa σ.hp i=some b:=by
     rw[bD,if_pos e] at e2;exact e2
    obtain ⟨g,t,n,k1,k2⟩:=xZ (hi.hp i b e3) this;exact ⟨g,t,n,λ_=>⟨k1,k2⟩⟩
  ·exact ⟨0,0,0,λh=>absurd h e⟩
 let G:Nat->Nat:=λi=>Classical.choose (hpn i)
 let Y:Nat->Nat:=λi=>Classical.choose (WB (hpn i))
 let N:Nat->Nat:=λi=>Classical.choose (WB (WB (hpn i)))
 have hg:∀i,ids.contains i=true->μ i=some (G i)/\af w (G i)=nZ (Y i) (N i):=λi=>WB (WB (WB (hpn i)))
 let μc:Nat->Option Nat:=λi=>if ids.contains i then μ i else none
 have mc:∀{i g},μc i=some g->ids.contains i=true/\μ i=some g:=fun {i g} h=>by
  simp only[μc] at h;split at h
  ·exact ⟨by assumption,h⟩
  ·cases h
 have mc':∀{i},ids.contains i=true->μc i=μ i:=fun {i} h=>by simp only[μc,h,if_true]
 have mcn:∀{i},ids.contains i=false->μc i=none:=fun {i} h=>by simp only[μc,h,Bool.false_eq_true,if_false]
 have hsubk:∀i b,aa (sub ids σ.hp) i=some b->ids.contains i=true/\aa σ.hp i=some b:=λi b h=>by
  rw[bD] at h;split at h
  ·exact ⟨by assumption,h⟩
  ·cases h
 refine (hf G Y N S μc w vs h1 (λj x hj=>(h2 j x hj).less λid hid g hg=>by rw[mc' (hxr id (aL hj hid))];exact hg) ⟨λid b hb=>?_,λid g hg'=>?_,λid id' g hg hg'=>hi.inj id id' g (mc hg).2 (mc hg').2,hi.gok.sub λi g h=>⟨i,(mc h).2⟩⟩ (λb hb=>(hi.sb b hb).1)).mono ?_
 ·rw[an] at hb;split at hb
  ·obtain ⟨q1,q2⟩:=hsubk id b hb;have hall:=List.all_eq_true.1 hc1 _ (aA hb);exact (hi.hp id b q2).less (mc' q1) (λi hi' g hg=>by rw[mc' (List.all_eq_true.1 hall i hi')];exact hg)
  ·rw[eY] at hb;split at hb
   ·rename_i hc5;injection hb with hb
    subst hb;have hno:ids.contains id=false:=by
     cases e:ids.contains id with
     | false=>rfl
     | true=>have:=(hid id e).1;omega
    exact ⟨mcn hno,by rw[mc' hc5.2];exact (hg _ hc5.2).1,(hg _ hc5.2).2⟩
   ·cases hb
 ·obtain ⟨k1,k2⟩:=mc hg';obtain ⟨⟨b,j1⟩,_,j3⟩:=hi.dom id g k2;refine ⟨⟨b,?_⟩,j3⟩;rw[an,if_pos ⟨(id,b),aA Zb,rfl⟩,bD,if_pos k1];exact j1
 rintro e w' ⟨v,r',H',μ',S',rfl,⟨rfl,hKH⟩,k1,k2,k3,k4,k5⟩;have hKget:∀i b,aa K i=some b->aa H' i=some b:=λi b hb=>hKH i b (by
  rw[an,if_pos ⟨(i,b),aA hb,rfl⟩];exact hb)
 have hPget:∀i,ids.contains i=true->aa H' (5000+i)=some (.pin i (G i) (Y i) (N i)):=λi hi'=>hKH _ _ (by
  rw[an,if_neg (by
   rintro ⟨b,hb,hb2⟩;have:ids.contains b.1=true:=List.all_eq_true.1 hK1 b hb;have:=(hid _ this).1;omega),eY,if_pos ⟨by omega,by rw[Wb];exact hi'⟩,Wb])
 have hpin':∀i,ids.contains i=true->μ' i=some (G i)/\af w' (G i)=nZ (Y i) (N i):=λi hi'=>(k2.blk _ _ (hPget i hi')).2
 have hfr:Frm (λg=>∃id,μc id=some g) w w':=k3;have hS:aE S w w':=λb hb=>hfr.block b (hi.sb b hb).1 s8
 have hO:∀i g,μ i=some g->ids.contains i=false->w'.heap[g]? = w.heap[g]?:=λi g hg hn=>hfr.block g (hi.dom i g hg).2.2.2 (by
  rintro ⟨id,h⟩;obtain ⟨q1,q2⟩:=mc h;have:=hi.inj _ _ _ hg q2;subst this;rw[q1] at hn;cases hn)
 have hz:∀i g,μ i=some g->af w' g=af w g:=λi g hg'=>by
  cases e:ids.contains i with
  | false=>exact aG (hO i g hg' e)
  | true=>
   obtain ⟨q1,q2⟩:=hg i e;rw[hg'] at q1;injection q1 with q1
   rw[q1,(hpin' i e).2,q2]
 let S2:Nat->Prop:=λb=>S b\/S' b
 have hrd:∀{v x},Rd μ S w v x->Rd μ S2 w' v x:=λhv=>hv.mono hS (λ_ h=>.inl h) (λ_ _ h=>h) hz
 have inv:Inv C μ S2 ⟨σ.tm,bA σ.hp K⟩ a w':=by
  refine ⟨hi.size,hi.defers,λt x hx=>hrd (hi.tm t x hx),λi b hb=>?_,λi g hg'=>?_,hi.inj,hi.frm.step _ hfr (λg ⟨id,h⟩=>(hi.dom id g (mc h).2).2.1),λb hb=>?_⟩
  ·rw[bQ i K σ.hp hnd] at hb;split at hb
   ·have hib:=hKi i b hb;have hB:=k2.blk i b (hKget i b hb);have hall:=List.all_eq_true.1 hc2 _ (aA hb);have h1:bN μ S' w' i b:=hB.less (by rw[(hg i hib).1,(hpin' i hib).1]) (λj hj q hq=>by
     have hjb:=List.all_eq_true.1 hall j hj;rw[(hpin' j hjb).1] at hq;rw[(hg j hjb).1];exact hq)
    exact h1.mono (aE.refl _ _) (λ_ h=>.inr h) (λ_ _ h=>h) (λ_ _ _=>rfl) (λh=>h) (λ_ _=>rfl)
   ·rename_i hno;have hib:ids.contains i=false:=by
     cases e:ids.contains i with
     | false=>rfl
     | true=>
      obtain ⟨_,c,hc'⟩:=hid i e;rw[hc'] at hno;exact absurd rfl hno
    exact (hi.hp i b hb).mono hS (λ_ h=>.inl h) (λ_ _ h=>h) hz (λh=>h) (λg hg'=>hO i g hg' hib)
  ·obtain ⟨⟨b,j1⟩,j2,j3,j4⟩:=hi.dom i g hg';refine ⟨?_,j2,?_,WO j4 hfr.size⟩
   ·rw[bQ i K σ.hp hnd];split
    ·rename_i hs;exact WM.1 hs
    ·exact ⟨b,j1⟩
   ·rintro (h | h)
    ·exact j3 h
    ·cases e:ids.contains i with
     | true=>
      have:=(hg i e).1;rw[hg'] at this;injection this with this
      subst this;exact (k2.dom i _ (hpin' i e).1).2.1 h
     | false=>
      rcases (k5 g h).2 with q | ⟨id,q⟩ | q
      ·exact j3 q
      ·obtain ⟨q1,q2⟩:=mc q;have:=hi.inj _ _ _ hg' q2;subst this;rw[q1] at e;cases e
      ·omega
  ·rcases hb with h | h
   ·exact ⟨WO (hi.sb b h).1 hfr.size,(hi.sb b h).2⟩
   ·refine ⟨(k5 b h).1,?_⟩
    rcases (k5 b h).2 with q | ⟨id,q⟩ | q
    ·exact (hi.sb b q).2
    ·rcases (hi.dom id b (mc q).2).2.1 with z | z
     ·exact .inr (.inl z)
     ·exact .inr (.inr z)
    ·have:=hi.frm.size;exact .inr (.inr z7)
 refine hKp _ _ ⟨μ,S2,inv.put o.dst ?_⟩;have h1:Rd μ S' w' v r':=k1.less λi hi' g hg'=>by
  have hib:=hrr i hi';rw[(hpin' i hib).1] at hg';rw[(hg i hib).1];exact hg'
 exact h1.mono (aE.refl _ _) (λ_ h=>.inr h) (λ_ _ h=>h) (λ_ _ _=>rfl)
theorem mS {s:St} {t:TypeId}:∀{parts:List (Nat×Operand)},(∀q,q∈parts->evS s q.2=evS σ q.2)->jt T s t parts=jt T σ t parts
 | [],_=>rfl
 | (j,o)::r,h=>by
  simp only[jt];rw[h (j,o) w7,mS (λq hq=>h q (by simp[hq]))]
theorem AT (hT:TabOK P T) {ops:Array Oper} {Q:Exit->Act->World->Prop} {k n:Nat} {acc:cL} {o:Oper} {l:List Oper} {t:TypeId} {parts:Array (Nat×Operand)} (ho:o.op=.build t parts) {b:Bool} (hg:guardOf ops σ o.guard=some b)
  {p:Prop} {x:AV} (h:fS T σ t parts.toList=some (p,x)) (hp:b=true->p) {y:AV} (hy:(bif b then x else .cnd false x)=y)
  {sk:List Loc×List Loc} (hs:((Sp.mk o.dst y [] (bx ops o.guard++aK σ (parts.toList.map (·.2)))).wr,bx ops o.guard++aK σ (parts.toList.map (·.2)))=sk) (ha:σ.put o.dst y=σ') (hk:aj P C ops Q k n (acc++[sk]) l σ'):aj P C ops Q k n acc (o::l) σ:=by
 refine gX (gJ (x:=y) (rd:=aK σ (parts.toList.map (·.2))) hg (by
  cases b
  ·exact .inr ⟨x,hy.symm⟩
  ·exact .inl rfl) (λhb s hag=>?_)) rfl (by rw[←hs]) Qs hk
 subst hb;have hyx:x=y:=hy;subst hyx;have hb2:fS T s t parts.toList=some (p,x):=by
  rw[←h];unfold fS;rw[mS (λq hq=>bU λz hz=>hag z (cX (Zv.2 ⟨q,hq,rfl⟩) z hz))]
 refine bL hT o (p:=p) ?_ (hp rfl);rw[ho];simp only[dP,hb2,Option.map_some]
attribute [go_sem] pins dq
end
end Go.Eng
namespace Go.Eng
section
variable {P:Program} {T:Tab} {C:Ctx} {σ σ':St} {Ret:St->Prop} {k:List It} {μ:Nat->Option Nat} {S:Nat->Prop} {a:Act} {w:World}
theorem Rd.pz {v:Value} {id size off len cap:Nat} (h:Rd μ S w v (.exs id size off len cap)):∃g e n,v=.slice (some ⟨g,off*size,none⟩) len cap/\len≤cap/\μ id=some g/\af w g=some (e,n)/\(off+cap)*size=n:=by
 cases h with
 | pure h=>cases h
 | exs _ _ _ _ _ g e n hc hg hr hn=>exact ⟨g,e,n,rfl,hc,hg,hr,hn⟩
theorem xa (hT:TabOK P T) {o:Oper} {x hi:Operand} {t e:TypeId} (ho:o.op=.slice t x none (some hi) none) (ht:T.und t=.sl e) {id s len h j N:Nat} (hx:evS σ x=(True,.osl id s 0 len)) (hh:evS σ hi=(True,.int .i64 (h:Nat)))
  (hcap:aa σ.hp j=some (.cap id s N)) (hN:h≤N) (h0:0<len) (hs:T.siz e=s) (hs0:s≠0):dx P C o σ (σ.put o.dst (.exs id s 0 h N)):=by
 refine cS λμ S a w hi'=>?_
 have hv:=hi'.evS x u7;have hu:=hi'.evS hi Zm;rw[hx] at hv;rw[hh] at hu;obtain ⟨A,cap,hv',hc,hor⟩:=hv.bG;have hu':=hu.aF;have hty:P.underlying t=some (.slice e):=by have:=hT.und t;rw[ht] at this;exact this
 rcases hor with ⟨h1,_⟩ | ⟨g,n,m,h1,hA,h3,h4⟩
 ·omega
 ·obtain ⟨_,g',e',k1,k2⟩:=hi'.hp j _ hcap;rw[k1] at h1;injection h1 with h1;subst h1
  rw[h3] at k2;simp only[Option.some.injEq,Prod.mk.injEq] at k2;have hNc:0+cap=N:=Nat.eq_of_mul_eq_mul_right (Nat.pos_of_ne_zero hs0) (h4.trans k2.2);rw[WK] at hNc;subst hNc;subst hA;have hrun:(Instr.sliceAt t (.slice (some ⟨g',0*s,none⟩) len cap) none (some (.int .i64 (h:Nat))) none).run P w=.ok (.slice (some ⟨g',0*s,none⟩) h cap) w:=by
   have hb:=fc (P:=P) (w:=w) true len cap 0 h none (some (.int .i64 (h:Nat))) (show fO none 0 0 from rfl) (show fO (some (.int .i64 (h:Nat))) len h from ⟨.i64,rfl⟩) (Wl _) z7
   by_cases hc0:cap=0
   ·subst hc0;simp[Instr.sliceAt,Instr.slice,run_underlying hty,hb,a_ hT (t:=e) QS]
   ·simp[Instr.sliceAt,Instr.slice,run_underlying hty,hb,a_ hT (t:=e) QS,hc0,Addr.add]
  refine ⟨.slice (some ⟨g',0*s,none⟩) h cap,?_,.exs id s 0 h cap g' n m z7 k1 h3 h4⟩;have e1:a.eval x=.slice (some ⟨g',0*s,none⟩) len cap:=hv';have e2:a.eval hi=.int .i64 (h:Nat):=hu';simp only[execOp,ho,e1,Option.map_none,Option.map_some,e2,Sem.run_bind,hrun];rfl
theorem rS (hT:TabOK P T) {o:Oper} {x y:Operand} {t e:TypeId} (ho:o.op=.call { callee:=.builtin .append,args:=#[x,y],argTypes:=#[t,t] }) (ht:T.und t=.sl e)
  {id s i j m N e':Nat} {R:List (List AV)} (hx:evS σ x=(True,.exs id s 0 i N)) (hy:evS σ y=(True,.osl id s j m)) (hb:aa σ.hp id=some (.cells e' s R)) (hj:j+m≤R.length) (hij:i+m≤R.length) (hN:i+m≤N)
  (hs:T.siz e=s) (hs0:s≠0) (hrl:rowsOf s R) (hlf':dT ((R.drop j).take m)=true) :
  dx P C o σ (St.put ⟨σ.tm,aB σ.hp id (.cells e' s (aP R i ((R.drop j).take m)))⟩ o.dst (.exs id s 0 (i+m) N)):=by
 subst hs;intro a w K Q ⟨μ,S,hi⟩ hK;have hv:=hi.evS x u7;have hvy:=hi.evS y QW;rw[hx] at hv;rw[hy] at hvy;have hty:P.underlying t=some (.slice e):=by have:=hT.und t;rw[ht] at this;exact this
 obtain ⟨g,e2,n,hv',hc,hg,h3,h4⟩:=hv.pz;have hrows:((R.drop j).take m).length=m:=by simp;omega
 have hrl':rowsOf (T.siz e) ((R.drop j).take m):=λrow hr=>hrl row (WS (Z3 hr))
 obtain ⟨vs,hvs⟩:=lP hi (x:=.osl id (T.siz e) j m) (rows:=(R.drop j).take m) (size:=T.siz e) (by simp[cC,hb]) hvy hrl' (λ_ _ _ _ h=>by injection h with _ _ _ h;rw[hrows,h]);have hr:=ik (ty:=o.type) (A:=some ⟨g,0*T.siz e,none⟩) (len:=i) (cap:=N) hT hty hs0 hvs (by rw[hrows];exact hN);rw[hrows] at hr;obtain ⟨w',r1,r2⟩:=lU (P:=P) hi (off:=i) (new:=(R.drop j).take m) (vs:=vs) hb hg (by rw[hrows];exact hij) hvs.len hrl' (tk hvs hlf') (λi row hi j x hx=>hvs.rd i row hi j x hx);have hfr:(execOp a.eval o).run P w=.ok (.value (.slice (some ⟨g,0*T.siz e,none⟩) (i+m) N)) w':=by
  have e1:a.eval x=.slice (some ⟨g,0*T.siz e,none⟩) i N:=hv';simp only[Nat.zero_mul,add_plain,WK,r1,Result.andThen_ok] at hr;simp only[Nat.zero_mul] at e1 ⊢;simp[execOp,ho,e1,resolve,invoke,builtin,hr]
 have he:evS ⟨σ.tm,aB σ.hp id (.cells e' (T.siz e) (aP R i ((R.drop j).take m)))⟩ x=evS σ x:=by cases x<;>rfl
 have hv2:=r2.evS x (by rw[he,hx];trivial);rw[he,hx] at hv2;obtain ⟨g2,e3,n2,hv3,_,hg2,h5,h6⟩:=hv2.pz;unfold Oper.wp;rw[hfr]
 show K (a.put o.dst _) _
 rw[hg] at hg2;injection hg2 with hg2;subst hg2
 exact hK _ _ ⟨μ,S,Inv.put r2 o.dst (.exs id _ 0 (i+m) N g e3 n2 hN hg h5 h6)⟩
theorem Ep (d:Nat) {id s off len e':Nat} {rows:List (List AV)} {t:Nat} (hx:σ.tm.getD t .any=.osl id s off len) (hb:aa σ.hp id=some (.cells e' s rows)) (h0:0<len) (hs:s≠0) (hf:aa σ.hp d=none)
  (h:∀N:Nat,off+len≤N->rows.length≤N->Cw P C Ret k ⟨σ.tm,(d,.cap id s N)::σ.hp⟩):Cw P C Ret k σ:=by
 intro a w ⟨μ,S,hi⟩;have hlt:t<σ.tm.length:=by
  by_cases h:t<σ.tm.length
  ·exact h
  ·rw[Zo,List.getElem?_eq_none z7] at hx;cases hx
 have hv:=hi.tm t (σ.tm.getD t .any) (by rw[Zo,Zp hlt];rfl);rw[hx] at hv;obtain ⟨A,cap,hv',hc,hor⟩:=hv.bG
 rcases hor with ⟨h1,_⟩ | ⟨g,n,m,h1,_,h3,h4⟩
 ·omega
 ·have hle:rows.length≤off+cap:=by
   rcases hi.hp id _ hb with ⟨rfl,_⟩ | ⟨g',c,k1,k2,k3,_⟩
   ·simp
   ·rw[k1] at h1;injection h1 with h1;subst h1
    rw[af,k2] at h3;simp only[Option.some.injEq,Prod.mk.injEq] at h3;exact Nat.le_of_mul_le_mul_right (by rw[h4,←h3.2];exact k3) (Nat.pos_of_ne_zero hs)
  refine h (off+cap) z7 hle a w ⟨μ,S,hi.size,hi.defers,hi.tm,λi b hb'=>?_,λi q hq=>?_,hi.inj,hi.frm,hi.sb⟩
  ·simp only[aa] at hb';split at hb'
   ·rename_i hd;injection hb' with hb'
    subst hd hb';exact ⟨hi.fresh hf,g,n,h1,by rw[h3,h4]⟩
   ·exact hi.hp i b hb'
  ·obtain ⟨⟨b,h1⟩,h2⟩:=hi.dom i q hq;refine ⟨?_,h2⟩;simp only[aa];split
   ·exact ⟨_,rfl⟩
   ·exact ⟨b,h1⟩
theorem w_ (hT:TabOK P T) {o:Oper} {x lo hi mx:Operand} {t e:TypeId} (ho:o.op=.slice t x (some lo) (some hi) (some mx)) (ht:T.und t=.sl e) {id s off len l h m:Nat} (hx:evS σ x=(True,.osl id s off len))
  (hl:evS σ lo=(True,.int .i64 (l:Nat))) (hh:evS σ hi=(True,.int .i64 (h:Nat))) (hm:evS σ mx=(True,.int .i64 (m:Nat))) (h1:l≤h) (h2:h≤m) (h3:m≤len) (h0:0<len) (hs:T.siz e=s) (hs0:s≠0):dx P C o σ (σ.put o.dst .any):=by
 refine cS λμ S a w hi'=>?_
 have hv:=hi'.evS x u7;have hu1:=hi'.evS lo (by rw[hl];trivial);have hu2:=hi'.evS hi Zm;have hu3:=hi'.evS mx (by rw[hm];trivial);rw[hx] at hv;rw[hl] at hu1;rw[hh] at hu2;rw[hm] at hu3;obtain ⟨A,cap,hv',hc,hor⟩:=hv.bG;have hty:P.underlying t=some (.slice e):=by have:=hT.und t;rw[ht] at this;exact this
 rcases hor with ⟨h1,_⟩ | ⟨g,n,m',k1,hA,k3,k4⟩
 ·omega
 ·subst hA;have hb:(Instr.sliceBounds true len cap (some (.int .i64 (l:Nat))) (some (.int .i64 (h:Nat))) (some (.int .i64 (m:Nat)))).run P w=.ok (l,h,m) w:=by
   simp[Instr.sliceBounds,Instr.sliceBound,asIntOf,h1,h2,show m≤cap by omega]
  have e1:a.eval x=.slice (some ⟨g,off*s,none⟩) len cap:=hv';have e2:a.eval lo=.int .i64 (l:Nat):=hu1.aF;have e3:a.eval hi=.int .i64 (h:Nat):=hu2.aF;have e4:a.eval mx=.int .i64 (m:Nat):=hu3.aF
  by_cases hml:m=l
  ·subst hml;exact ⟨.slice (some ⟨g,off*s,none⟩) (h-m) (m-m),by simp[execOp,ho,e1,e2,e3,e4,Instr.sliceAt,Instr.slice,run_underlying hty,hb,a_ hT (t:=e) QS],.any _⟩
  ·exact ⟨.slice (some (Addr.add ⟨g,off*s,none⟩ (l*T.siz e))) (h-l) (m-l),by simp[execOp,ho,e1,e2,e3,e4,Instr.sliceAt,Instr.slice,run_underlying hty,hb,a_ hT (t:=e) QS,hml],.any _⟩
theorem yl (hT:TabOK P T) {ops:Array Oper} {Q:Exit->Act->World->Prop} {k n:Nat} {acc:cL} {o:Oper} {L:List Oper} {x hi:Operand} {t e:TypeId} (ho:o.op=.slice t x none (some hi) none) (hgd:o.guard=none) (ht:T.und t=.sl e) {id s len h j N:Nat}
  (hx:evS σ x=(True,.osl id s 0 len)) (hh:evS σ hi=(True,.int .i64 (h:Nat))) (hcap:aa σ.hp j=some (.cap id s N)) (hN:h≤N) (h0:0<len) (hs:T.siz e=s) (hs0:s≠0)
  {sk:List Loc×List Loc} (hsk:((Sp.mk o.dst (.exs id s 0 h N) [] (aK σ [x,hi]++[Loc.blk j])).wr,aK σ [x,hi]++[Loc.blk j])=sk) (ha:σ.put o.dst (.exs id s 0 h N)=σ') (hk:aj P C ops Q k n (acc++[sk]) L σ'):aj P C ops Q k n acc (o::L) σ:=by
 have hgd':guardOf ops σ o.guard=some true:=by rw[hgd];rfl
 have key:=gJ (P:=P) (C:=C) (o:=o) (ops:=ops) (x:=.exs id s 0 h N) (rd:=aK σ [x,hi]++[Loc.blk j]) hgd' (.inl rfl) (λ_ s' hag=>by
  have h1:evS s' x=evS σ x:=bU λz hz=>hag z (by simp[aK,hz])
  have h2:evS s' hi=evS σ hi:=bU λz hz=>hag z (by simp[aK,hz])
  have h3:aa s'.hp j=aa σ.hp j:=hag (Loc.blk j) w7;exact xa hT ho ht (h1.trans hx) (h2.trans hh) (h3.trans hcap) hN h0 hs hs0)
 have e0:bx ops o.guard=[]:=by rw[hgd];rfl
 rw[e0,List.nil_append] at key;exact gX key rfl (by rw[←hsk]) Qs hk
theorem uw (hT:TabOK P T) {o:Oper} {x lo hi:Operand} {t e:TypeId} (ho:o.op=.slice t x (some lo) (some hi) none) (ht:T.und t=.sl e) {id s len cap l h:Nat} (hx:evS σ x=(True,.exs id s 0 len cap)) (hl:evS σ lo=(True,.int .i64 (l:Nat))) (hh:evS σ hi=(True,.int .i64 (h:Nat)))
  (h1:l<h) (h2:h≤cap) (hs:T.siz e=s) (hs0:s≠0):dx P C o σ (σ.put o.dst (.osl id s l (h-l))):=by
 refine cS λμ S a w hi'=>?_
 have hv:=hi'.evS x u7;have hu1:=hi'.evS lo (by rw[hl];trivial);have hu2:=hi'.evS hi Zm;rw[hx] at hv;rw[hl] at hu1;rw[hh] at hu2;obtain ⟨g,n,m,hv',hc,k1,k3,k4⟩:=hv.pz;have hty:P.underlying t=some (.slice e):=by have:=hT.und t;rw[ht] at this;exact this
 have hb:=fc (P:=P) (w:=w) true len cap l h (some (.int .i64 (l:Nat))) (some (.int .i64 (h:Nat))) (show fO (some (.int .i64 (l:Nat))) 0 l from ⟨.i64,rfl⟩) (show fO (some (.int .i64 (h:Nat))) len h from ⟨.i64,rfl⟩) z7 h2;have e1:a.eval x=.slice (some ⟨g,0*s,none⟩) len cap:=hv';have e2:a.eval lo=.int .i64 (l:Nat):=hu1.aF;have e3:a.eval hi=.int .i64 (h:Nat):=hu2.aF;have hcl:cap≠l:=by omega
 refine ⟨.slice (some (Addr.add ⟨g,0*s,none⟩ (l*s))) (h-l) (cap-l),by simp[execOp,ho,e1,e2,e3,Instr.sliceAt,Instr.slice,run_underlying hty,hb,a_ hT (t:=e) QS,hs,hcl],?_⟩;refine .osl id s l (h-l) (cap-l) _ z7 (.inr ⟨g,n,m,k1,by rw[add_plain,Nat.zero_mul,WK],k3,?_⟩);rw[←k4]
 congr 1;omega
theorem Dc {o:Oper} {x y:Operand} {ts:Array TypeId} (ho:o.op=.call { callee:=.builtin .max,args:=#[x,y],argTypes:=ts }) {k k':IntKind} {n m:Int} (hx:evS σ x=(True,.int k n)) (hy:evS σ y=(True,.int k' m)) :
  dx P C o σ (σ.put o.dst (.int k (if m>n then m else n))):=by
 refine cS λμ S a w hi'=>?_
 have hv:=hi'.evS x u7;have hu:=hi'.evS y QW;rw[hx] at hv;rw[hy] at hu;have e1:a.eval x=.int k n:=hv.aF;have e2:a.eval y=.int k' m:=hu.aF;exact ⟨_,by simp[execOp,ho,e1,e2,resolve,invoke,builtin,run_max_int2],.pure (.int _ _)⟩
theorem uj {ops:Array Oper} {Q:Exit->Act->World->Prop} {k n:Nat} {acc:cL} {o:Oper} {L:List Oper} {x y:Operand} {ts:Array TypeId} (ho:o.op=.call { callee:=.builtin .max,args:=#[x,y],argTypes:=ts }) (hgd:o.guard=none) {q q':IntKind} {u v:Int}
  (hx:evS σ x=(True,.int q u)) (hy:evS σ y=(True,.int q' v))
  {sk:List Loc×List Loc} (hsk:((Sp.mk o.dst (.int q (if v>u then v else u)) [] (aK σ [x,y])).wr,aK σ [x,y])=sk) (ha:σ.put o.dst (.int q (if v>u then v else u))=σ') (hk:aj P C ops Q k n (acc++[sk]) L σ'):aj P C ops Q k n acc (o::L) σ:=by
 have hgd':guardOf ops σ o.guard=some true:=by rw[hgd];rfl
 have key:=gJ (P:=P) (C:=C) (o:=o) (ops:=ops) (x:=.int q (if v>u then v else u)) (rd:=aK σ [x,y]) hgd' (.inl rfl) (λ_ s' hag=>by
  have h1:evS s' x=evS σ x:=bU λz hz=>hag z (by simp[aK,hz])
  have h2:evS s' y=evS σ y:=bU λz hz=>hag z (by simp[aK,hz])
  exact Dc ho (h1.trans hx) (h2.trans hy))
 have e0:bx ops o.guard=[]:=by rw[hgd];rfl
 rw[e0,List.nil_append] at key;exact gX key rfl (by rw[←hsk]) Qs hk
theorem Cn (t:Nat) {id s off len cap:Nat} (h:σ.tm.getD t .any=.exs id s off len cap):Le C σ ⟨σ.tm.set t (.osl id s off len),σ.hp⟩:=by
 intro a w ⟨μ,S,hi⟩;refine ⟨μ,S,by simpa using hi.size,hi.defers,λu x hx=>?_,hi.hp,hi.dom,hi.inj,hi.frm,hi.sb⟩;rw[Z7] at hx;split at hx
 ·rename_i e;subst e;split at hx
  ·rename_i hlt;injection hx with hx
   subst hx;have:=hi.tm t (σ.tm.getD t .any) (by rw[Zo,Zp hlt];rfl);rw[h] at this;obtain ⟨g,e,n,h1,h2,h3,h4,h5⟩:=this.pz;rw[h1];exact .osl id s off len cap _ h2 (.inr ⟨g,e,n,h3,rfl,h4,h5⟩)
  ·cases hx
 ·exact hi.tm u x hx
end
end Go.Eng
namespace Go.Eng
def CR (f:Nat->Nat) (e:Edge):Edge:=⟨f e.on,e.ground⟩
section
variable {P:Program} {C:Ctx} {σ σ':St}
def tr (id s:Nat):AV->AV
 | .nils=>.osl id s 0 0
 | x=>x
theorem yG (id s:Nat) (x:AV):wk x (tr id s x):=by
 cases x
 case nils=>exact .inr (.inr ⟨rfl,.inr ⟨id,s,0,rfl⟩⟩)
 all_goals exact .inr (.inl rfl)
theorem ze (id' s' id:Nat) {e s:Nat} {rows rows':List (List AV)} (hb:aa σ.hp id=some (.cells e s rows)) (hr:rows.map (λrow=>row.map (tr id' s'))=rows'):Le C σ ⟨σ.tm,aB σ.hp id (.cells e s rows')⟩:=by
 subst hr;rintro a w ⟨μ,S,hi⟩;refine ⟨μ,S,hi.size,hi.defers,hi.tm,λi b hb'=>?_,λi q hq=>?_,hi.inj,hi.frm,hi.sb⟩
 ·simp only[ai] at hb';split at hb'
  ·rename_i h1;injection hb' with hb'
   subst h1 hb'
   rcases hi.hp id _ hb with ⟨rfl,k2⟩ | ⟨g,c,k1,k2,k3,k4,k5⟩
   ·exact .inl ⟨by simp,k2⟩
   ·refine .inr ⟨g,c,k1,k2,by rw[List.length_map];exact k3,λrow hrow=>?_,λi row hi' q x hx=>?_⟩
    ·obtain ⟨r0,h0,rfl⟩:=Zv.1 hrow;rw[List.length_map];exact k4 r0 h0
    ·rw[Zr] at hi';cases e0:rows[i]? with
     | none=>rw[e0] at hi';cases hi'
     | some r0=>
      rw[e0] at hi';simp only[Option.map_some,Option.some.injEq] at hi';subst hi';rw[Zr] at hx;cases e1:r0[q]? with
      | none=>rw[e1] at hx;cases hx
      | some y=>
       rw[e1] at hx;simp only[Option.map_some,Option.some.injEq] at hx;subst hx;exact (k5 i r0 e0 q y e1).wk (yG id' s' y)
  ·exact hi.hp i b hb'
 ·obtain ⟨⟨b,h1⟩,h2⟩:=hi.dom i q hq;refine ⟨?_,h2⟩;simp only[ai];split
  ·exact ⟨_,rfl⟩
  ·exact ⟨b,h1⟩
theorem fT {ops:Array Oper} {Q:Exit->Act->World->Prop} {k:Nat} (h:Le C σ σ') (hk:aY P C ops Q k σ'):aY P C ops Q k σ:=λa w hr=>hk a w (h a w hr)
end
attribute [go_sem] tr
end Go.Eng
