/- Texts of this claim, part 7: Mod, EngQ, Bas, PTree, EngAC, EngAD, EngAE, EngAF, EngAG, EngAH. No condition. -/
import Derived.ReadAgain
import Derived.ChangeSame
import Derived.ChangeBears
import Derived.OpenShut
import Derived.RowKit
import Derived.WalkKit
import Derived.ProofKit
import Derived.Test.YtmcfbfdonjllaaaGreatDoorYW6
import Derived.Test.YtmcfbfdonjllaaaGreatDoorRows
import Derived.JoinedCond
import Derived.Laws.StructEq
import Derived.Lib.SlBytesConst
set_option maxRecDepth 10000
set_option maxHeartbeats 4000000
set_option linter.unusedSimpArgs false
set_option linter.unusedVariables false
namespace La
open Go Go.Eng
structure Entry where
 name:List UInt8
 fid:Int
deriving DecidableEq,Inhabited
structure Node where
 fid:Int
 dir:Bool
 data:List UInt8
 entries:List Entry
 version:Int
deriving DecidableEq,Inhabited
structure Act where
 kind:Int
 fid:Int
 dir:Int
 name:List UInt8
 to:Int
 toName:List UInt8
 data:List UInt8
deriving DecidableEq,Inhabited
structure Rec where
 act:Act
 version:Int
 id:Int
deriving DecidableEq,Inhabited
def i (n:Int):AV:=.int .i64 n
def ZY (b:UInt8):List AV:=[.int .u8 (b.toNat:Int)]
def ZI (n:Int):List AV:=[.int .i64 n]
def ZE (e:Entry):List AV:=[.str e.name,.int .i64 e.fid]
def ZN (n:Node):List AV:=[.int .i64 n.fid,.bool n.dir,.sl (n.data.map ZY),.sl (n.entries.map ZE),.int .i64 n.version]
def ZA (a:Act):List AV:=[.int .i64 a.kind,.int .i64 a.fid,.int .i64 a.dir,.str a.name,.int .i64 a.to,.str a.toName,.sl (a.data.map ZY)]
def ZR (r:Rec):List AV:=[.int .i64 r.act.kind,.int .i64 r.act.fid,.int .i64 r.act.dir,.str r.act.name,.int .i64 r.act.to,.str r.act.toName,.sl (r.act.data.map ZY),.int .i64 r.version,.int .i64 r.id]
structure Fam {α:Type} (f:α->List AV) (n:Nat):Prop where
 len:∀a,(f a).length=n
 leaf:∀a,(f a).all AV.leaf=true
 pure:∀a,(f a).all AV.bw=true
 free:∀a,aL (f a)=[]
section
variable {α:Type} {f:α->List AV} {n:Nat}
theorem Fam.rowsOf (h:Fam f n) (l:List α):Eng.rowsOf n (l.map f):=by
 intro row hr;obtain ⟨a,_,rfl⟩:=Z7.1 hr;exact h.len a
theorem Fam.mK (h:Fam f n) (l:List α):((l.map f).all λrow=>row.all AV.leaf)=true:=by
 rw[List.all_eq_true];intro row hr;obtain ⟨a,_,rfl⟩:=Z7.1 hr;exact h.leaf a
theorem Fam.fw (h:Fam f n) (l:List α):((l.map f).all λrow=>row.all AV.bw)=true:=by
 rw[List.all_eq_true];intro row hr;obtain ⟨a,_,rfl⟩:=Z7.1 hr;exact h.pure a
theorem Fam.lD (h:Fam f n) (id:Nat) (l:List α):((l.map f).all λrow=>row.all λx=>!(refs x).contains id)=true:=by
 rw[List.all_eq_true];intro row hr;obtain ⟨a,_,rfl⟩:=Z7.1 hr;rw[List.all_eq_true];intro x hx;obtain ⟨j,hj⟩:=Z9 hx;have:refs x=[]:=by
  have h1:∀i,i∈refs x->i∈aL (f a):=λi hi=>br hj hi
  rw[h.free a] at h1;exact List.eq_nil_iff_forall_not_mem.2 λi hi=>by simpa using h1 i hi
 rw[this];rfl
theorem Fam.aN (h:Fam f n) (e s:Nat) (l:List α):Eng.aN (.cells e s (l.map f))=[]:=by
 simp only[Eng.aN]
 induction l with
 | nil=>rfl
 | cons a r ih=>simp only[List.map_cons,List.flatMap_cons,h.free a,ih,List.nil_append]
theorem Fam.gw (h:∀a (off:Nat),Eng.gw off (f a)=f a) (off:Nat) (l:List α):(l.map f).map (Eng.gw off)=l.map f:=by
 induction l with
 | nil=>rfl
 | cons a r ih=>simp only[List.map_cons,h a off,ih]
theorem Fam.dX (h:∀a (id s:Nat) (rows:List (List AV)),Eng.dX id s rows (f a)=f a) (id s:Nat) (rows:List (List AV)) (l:List α):(l.map f).map (Eng.dX id s rows)=l.map f:=by
 induction l with
 | nil=>rfl
 | cons a r ih=>simp only[List.map_cons,h a id s rows,ih]
end
@[go_sem,simp] theorem H5 {α:Type} (f:α->List AV) (l:List α):(l.map f).take l.length=l.map f:=Z4 y7
theorem dE {α:Type} [Inhabited α] (f:α->List AV) {l:List α} {i:Nat} (h:i<l.length):(l.take (i+1)).map f=(l.take i).map f++[f (l.getD i default)]:=by
 rw[List.take_succ_eq_append_getElem h,List.map_append,Z1,Z2 h];rfl
theorem ZT {α:Type} [Inhabited α] {l:List α} {i:Nat} (h:i<l.length):l.take (i+1)=l.take i++[l.getD i default]:=by
 rw[List.take_succ_eq_append_getElem h,Z1,Z2 h];rfl
theorem dO {α:Type} [Inhabited α] {l:List α} {i:Nat} (h:i<l.length):l.drop i=l.getD i default::l.drop (i+1):=by
 rw[List.drop_eq_getElem_cons h,Z1,Z2 h];rfl
def dp:Option Nat->Int
 | none=>-1
 | some k=>k
theorem eK {α:Type} {p:α->Bool}:∀{l:List α} {i:Nat} {x:α},l[i]? = some x->(∀y,y∈l.take i->p y=false)->p x=true->l.findIdx? p=some i
 | [],i,x,h,_,_=>by simp at h
 | y::r,0,x,h,_,hp=>by
  simp only[List.getElem?_cons_zero,Option.some.injEq] at h;subst h;simp[List.findIdx?_cons,hp]
 | y::r,i+1,x,h,hn,hp=>by
  have h0:=hn y y7;rw[List.findIdx?_cons,h0];simp only[Bool.false_eq_true,if_false];rw[eK (l:=r) (i:=i) u6 (λz hz=>hn z (by simp[hz])) hp];rfl
structure Node.Small (n:Node):Prop where
 data:n.data.length≤100000000
 entries:n.entries.length≤100000000
structure Small (l:List Node):Prop where
 len:l.length≤100000000
 each:∀n,n∈l->n.Small
theorem YG {α:Type} [Inhabited α] {l:List α} {i:Nat} (h:i<l.length):l.getD i default∈l:=by
 rw[Z1,Z2 h];exact Wi h
theorem Fam.getD {α:Type} [Inhabited α] {f:α->List AV} {l:List α} {i:Nat} (h:i<l.length):(l.map f).getD i []=f (l.getD i default):=by
 rw[Z1,Z5,Z1,Z2 h];rfl
theorem g_:Fam ZY 1:=⟨λ_=>rfl,λ_=>rfl,λ_=>rfl,λ_=>rfl⟩
@[go_sem,simp] theorem Dg (l:List _):Eng.rowsOf 1 (l.map ZY):=g_.rowsOf l
@[go_sem,simp] theorem F6 (l:List _):((l.map ZY).all λrow=>row.all AV.leaf)=true:=g_.mK l
@[go_sem,simp] theorem oc (l:List _):((l.map ZY).all λrow=>row.all AV.bw)=true:=g_.fw l
@[go_sem,simp] theorem Fe (id:Nat) (l:List _):((l.map ZY).all λrow=>row.all λx=>!(refs x).contains id)=true:=g_.lD id l
@[go_sem,simp] theorem Fg (e s:Nat) (l:List _):aN (.cells e s (l.map ZY))=[]:=g_.aN e s l
@[go_sem,simp] theorem F5 (id s:Nat) (rows:List (List AV)) (l:List _):(l.map ZY).map (dX id s rows)=l.map ZY:=Fam.dX (λ_ _ _ _=>rfl) id s rows l
theorem eV:Fam ZE 2:=⟨λ_=>rfl,λ_=>rfl,λ_=>rfl,λ_=>rfl⟩
@[go_sem,simp] theorem qX (l:List _):Eng.rowsOf 2 (l.map ZE):=eV.rowsOf l
@[go_sem,simp] theorem tJ (l:List _):((l.map ZE).all λrow=>row.all AV.leaf)=true:=eV.mK l
@[go_sem,simp] theorem gU (l:List _):((l.map ZE).all λrow=>row.all AV.bw)=true:=eV.fw l
@[go_sem,simp] theorem lT (id:Nat) (l:List _):((l.map ZE).all λrow=>row.all λx=>!(refs x).contains id)=true:=eV.lD id l
@[go_sem,simp] theorem DG (e s:Nat) (l:List _):aN (.cells e s (l.map ZE))=[]:=eV.aN e s l
@[go_sem,simp] theorem Fj (off:Nat) (l:List _):(l.map ZE).map (gw off)=l.map ZE:=Fam.gw (λ_ _=>rfl) off l
@[go_sem,simp] theorem Fi (id s:Nat) (rows:List (List AV)) (l:List _):(l.map ZE).map (dX id s rows)=l.map ZE:=Fam.dX (λ_ _ _ _=>rfl) id s rows l
theorem fF:Fam ZN 5:=⟨λ_=>rfl,λ_=>rfl,λ_=>rfl,λ_=>rfl⟩
@[go_sem,simp] theorem sI (l:List _):Eng.rowsOf 5 (l.map ZN):=fF.rowsOf l
@[go_sem,simp] theorem vK (l:List _):((l.map ZN).all λrow=>row.all AV.leaf)=true:=fF.mK l
@[go_sem,simp] theorem e_ (l:List _):((l.map ZN).all λrow=>row.all AV.bw)=true:=fF.fw l
@[go_sem,simp] theorem ny (id:Nat) (l:List _):((l.map ZN).all λrow=>row.all λx=>!(refs x).contains id)=true:=fF.lD id l
@[go_sem,simp] theorem Fs (e s:Nat) (l:List _):aN (.cells e s (l.map ZN))=[]:=fF.aN e s l
@[go_sem,simp] theorem GV (off:Nat) (l:List _):(l.map ZN).map (gw off)=l.map ZN:=Fam.gw (λ_ _=>rfl) off l
@[go_sem,simp] theorem GS (id s:Nat) (rows:List (List AV)) (l:List _):(l.map ZN).map (dX id s rows)=l.map ZN:=Fam.dX (λ_ _ _ _=>rfl) id s rows l
theorem kG:Fam ZA 7:=⟨λ_=>rfl,λ_=>rfl,λ_=>rfl,λ_=>rfl⟩
@[go_sem,simp] theorem wq (l:List _):((l.map ZA).all λrow=>row.all AV.bw)=true:=kG.fw l
@[go_sem,simp] theorem FX (id:Nat) (l:List _):((l.map ZA).all λrow=>row.all λx=>!(refs x).contains id)=true:=kG.lD id l
@[go_sem,simp] theorem FY (e s:Nat) (l:List _):aN (.cells e s (l.map ZA))=[]:=kG.aN e s l
@[go_sem,simp] theorem Ik (id s:Nat) (rows:List (List AV)) (l:List _):(l.map ZA).map (dX id s rows)=l.map ZA:=Fam.dX (λ_ _ _ _=>rfl) id s rows l
theorem kH:Fam ZR 9:=⟨λ_=>rfl,λ_=>rfl,λ_=>rfl,λ_=>rfl⟩
@[go_sem,simp] theorem fK (l:List _):((l.map ZR).all λrow=>row.all AV.bw)=true:=kH.fw l
@[go_sem,simp] theorem vP (id:Nat) (l:List _):((l.map ZR).all λrow=>row.all λx=>!(refs x).contains id)=true:=kH.lD id l
@[go_sem,simp] theorem G4 (e s:Nat) (l:List _):aN (.cells e s (l.map ZR))=[]:=kH.aN e s l
@[go_sem,simp] theorem IB (off:Nat) (l:List _):(l.map ZR).map (gw off)=l.map ZR:=Fam.gw (λ_ _=>rfl) off l
@[go_sem,simp] theorem IA (id s:Nat) (rows:List (List AV)) (l:List _):(l.map ZR).map (dX id s rows)=l.map ZR:=Fam.dX (λ_ _ _ _=>rfl) id s rows l
@[go_sem,simp] theorem DH (a):aL (ZE a)=[]:=eV.free a
@[go_sem,simp] theorem Ft (a):aL (ZN a)=[]:=fF.free a
@[go_sem,simp] theorem FZ (a):aL (ZA a)=[]:=kG.free a
@[go_sem,simp] theorem G5 (a):aL (ZR a)=[]:=kH.free a
@[go_sem,simp] theorem JB (l:List UInt8):(l.map ZY).map Eng.byteOf=l:=by
 rw[Wn];have:Eng.byteOf∘ZY=id:=by
  funext b
  show UInt8.ofNat ((b.toNat:Int)).toNat=b
  simp
 rw[this,List.map_id]
@[go_sem,simp] theorem IW (b:UInt8):vd (ZY b):=⟨_,rfl⟩
end La
namespace Go.Eng
open Go.ChangeShapes Go.WideShapes Go.RowKit
section
variable {H:Type} {enc:TypeId×Value->H} {P:Program}
theorem Frm.at {W W':World} (h:Frm (λ_=>False) W W') {b:Nat} (hb:b<W.heap.size):W'.heap[b]? = W.heap[b]?:=h.block b hb (λh=>h)
theorem Frm.kept {W W':World} (h:Frm (λ_=>False) W W') (may:MemPlace->Prop):W.keptBut W' may:=by
 refine ⟨h.os,h.output,λi hi=>?_⟩;rw[h.at hi];split
 ·rename_i c t fr c' t' fr' h1 h2;rw[h1] at h2;simp only[Option.some.injEq,Obj.cells.injEq] at h2;obtain ⟨rfl,rfl,rfl⟩:=h2;exact ⟨rfl,rfl,rfl,λ_ _=>rfl⟩
 ·rename_i es c es' c' h1 h2;rw[h1] at h2;simp only[Option.some.injEq,Obj.map.injEq] at h2;obtain ⟨rfl,rfl⟩:=h2;exact .inr ⟨rfl,rfl⟩
 ·rfl
theorem qS {W W':World} (h:Frm (λ_=>False) W W') {b:Nat} {sp:Nat->Bool} {held:Bool}:∀{ts:List TypeId} {vs:List Value} {ds:List (DataW H)} {ps:List MemPlace},
  DataW.TrodAll enc P W b sp held ts vs ds ps->(∀p∈ps,p.block<W.heap.size)->DataW.TrodAll enc P W' b sp held ts vs ds ps
 | [],[],[],_,h,_=>h
 | _::_,_::_,_::_,_,⟨p,q,⟨n,h1⟩,h2,e⟩,hl=>by
  subst e;refine ⟨p,q,⟨n,DataW.trod_carry n _ _ _ h1 λx hx=>?_⟩,qS h h2 (λx hx=>hl x (WB _ hx)),rfl⟩;have hb:=hl x (WM _ hx);cases x with
  | cell b off=>exact pD (h.at hb)
  | map b=>exact h.at hb
theorem iK (hl:laidOutB P=true) (hm:mapsRowed P=true) (hz:∀t e,t<P.types.size->P.underlying t=some (.slice e)->0<P.cellsOf e) {f:Func} {s:ChangeSpec} {W W':World} {args:Array Value} {ds gs:List (DataW H)} {before:List MemPlace} {tb:TypeId}
  (hts:∀t∈f.params.toList,t<P.types.size) (hv:s.vars=[]) (hb:P.underlying tb=some .bool) (hr:f.resultTypes=#[tb])
  (hW:DataW.Whole enc P f.params.toList s.vars false W args.toList ds gs before) (hf:Frm (λ_=>False) W W')
  (h1:(s.fn H (ds++gs)).results=[.lit (.bool true)]) (h2:(s.fn H (ds++gs)).args=ds) (h3:(s.fn H (ds++gs)).vars=[]) :
  s.post enc P f false true false false W args (.bool true) W':=by
 have hW':=hW;obtain ⟨p,q,hA,hV,rfl,hfz,hnd⟩:=hW;rw[hv] at hV;obtain ⟨rfl,rfl⟩:=trodVars_none hV;have hlt:∀x∈p,x.block<W.heap.size:=λx hx=>hA.lt x hx
 refine ⟨ds,[],p++[],[],p,[],hW',?_,?_,?_,hf.kept _,λh=>nomatch h⟩
 ·rw[h1,hr];exact trodAll_cons_mk (shut_bool hb _) trodAll_mk0
 ·rw[h2];exact qS hf (DataW.TrodAll.respare (kids_rows hl hm) hz hts hA (λx hx=>by simpa using hlt x hx)) hlt
 ·rw[h3,hv];rfl
end
end Go.Eng
namespace La
open Go Go.Eng Go.Proofs
theorem ZM:(Tryz.prog).follows .mixedOrders=true:=by kernel_rfl
theorem own:ownKnob Tryz.prog.godebug=none:=by kernel_rfl
theorem laid:laidOutB Tryz.prog=true:=by kernel_rfl
theorem uQ:mapsRowed Tryz.prog=true:=by kernel_rfl
theorem full:∀t e,t<Tryz.prog.types.size->Tryz.prog.underlying t=some (.slice e)->0<Tryz.prog.cellsOf e:=slices_full_of _ w9
end La
namespace La
def bsearch (lt:Nat->Bool):Nat->Nat->Nat->Nat
 | 0,lo,_=>lo
 | f+1,lo,hi=>if lo<hi then (if lt ((lo+hi) / 2) then bsearch lt f ((lo+hi) / 2+1) hi else bsearch lt f lo ((lo+hi) / 2)) else lo
theorem ix (lt:Nat->Bool):∀(f g lo hi:Nat),hi-lo≤f->hi-lo≤g->bsearch lt f lo hi=bsearch lt g lo hi
 | 0,0,_,_,_,_=>rfl
 | 0,g+1,lo,hi,h,_=>by
  unfold bsearch;rw[if_neg z7]
 | f+1,0,lo,hi,_,h=>by
  unfold bsearch;rw[if_neg z7]
 | f+1,g+1,lo,hi,h1,h2=>by
  unfold bsearch
  by_cases h:lo<hi
  ·rw[if_pos h,if_pos h]
   by_cases hl:lt ((lo+hi) / 2)=true
   ·rw[if_pos hl,if_pos hl];exact ix lt f g _ _ z7 z7
   ·rw[if_neg hl,if_neg hl];exact ix lt f g _ _ z7 z7
  ·rw[if_neg h,if_neg h]
theorem iy (lt:Nat->Bool) (n:Nat) (hmono:∀i j,i≤j->j<n->lt j=true->lt i=true):∀(f lo hi:Nat),hi-lo≤f->lo≤hi->hi≤n->(∀i,i<lo->lt i=true)->(∀i,hi≤i->i<n->lt i=false) ->
  bsearch lt f lo hi≤n/\(∀i,i<bsearch lt f lo hi->lt i=true)/\∀i,bsearch lt f lo hi≤i->i<n->lt i=false
 | 0,lo,hi,h,hle,hn,h1,h2=>by
  have:lo=hi:=by omega
  subst this;exact ⟨hn,h1,h2⟩
 | f+1,lo,hi,h,hle,hn,h1,h2=>by
  unfold bsearch
  by_cases hlt:lo<hi
  ·rw[if_pos hlt]
   by_cases hl:lt ((lo+hi) / 2)=true
   ·rw[if_pos hl];exact iy lt n hmono f _ _ z7 z7 hn (λi hi'=>hmono i ((lo+hi) / 2) z7 z7 hl) h2
   ·rw[if_neg hl];refine iy lt n hmono f _ _ z7 z7 z7 h1 λi hi1 hi2=>?_
    cases e:lt i with
    | false=>rfl
    | true=>exact absurd (hmono _ i hi1 hi2 e) hl
  ·rw[if_neg hlt];have:lo=hi:=by omega
   subst this;exact ⟨hn,h1,h2⟩
theorem kC (lt:Nat->Bool):∀(f lo hi:Nat),lo≤hi->lo≤bsearch lt f lo hi/\bsearch lt f lo hi≤hi
 | 0,lo,hi,h=>⟨WC _,h⟩
 | f+1,lo,hi,h=>by
  unfold bsearch
  by_cases hlt:lo<hi
  ·rw[if_pos hlt];split
   ·have:=kC lt f ((lo+hi) / 2+1) hi z7;omega
   ·have:=kC lt f lo ((lo+hi) / 2) z7;omega
  ·rw[if_neg hlt];omega
def placeOf (l:List Node) (fid:Int):Nat:=bsearch (λi=>decide ((l.getD i default).fid<fid)) l.length 0 l.length
def bz (l:List Node) (fid:Int):Bool:=decide (placeOf l fid<l.length)&&decide ((l.getD (placeOf l fid) default).fid=fid)
def af (l:List Node) (fid:Int):Option Node:=if bz l fid then some (l.getD (placeOf l fid) default) else none
def aT (l:List Node) (n:Node):List Node:=if bz l n.fid then l.set (placeOf l n.fid) n else l.take (placeOf l n.fid)++n::l.drop (placeOf l n.fid)
def dN (l:List Node) (fid:Int):List Node:=l.filter λn=>!(n.fid==fid)
theorem lj (l:List Node) (fid:Int):placeOf l fid≤l.length:=(kC _ _ _ _ (Wg _)).2
def Up (l:List Node):Prop:=l.Pairwise λa b=>a.fid<b.fid
theorem Up.lt {l:List Node} (h:Up l) {i j:Nat} (hij:i<j) (hj:j<l.length):(l.getD i default).fid<(l.getD j default).fid:=by
 have:=List.pairwise_iff_getElem.1 h i j z7 hj hij;rw[Z1,Z1,Z2 z7,Z2 hj];exact this
theorem Up.place {l:List Node} (h:Up l) (fid:Int):(∀i,i<placeOf l fid->(l.getD i default).fid<fid)/\∀i,placeOf l fid≤i->i<l.length->fid≤(l.getD i default).fid:=by
 have:=iy (λi=>decide ((l.getD i default).fid<fid)) l.length (λi j hij hj hl=>by
  rcases Nat.lt_or_eq_of_le hij with h1 | rfl
  ·have:=h.lt h1 hj;have h2:=of_decide_eq_true hl;exact decide_eq_true z7
  ·exact hl) l.length 0 l.length z7 z7 (WC _) (λi hi=>by omega) (λi h1 h2=>by omega)
 obtain ⟨_,h2,h3⟩:=this;exact ⟨λi hi=>of_decide_eq_true (h2 i hi),λi hi hl=>by have:=of_decide_eq_false (h3 i hi hl);omega⟩
theorem kK {l:List Node} {x:Node} {i:Nat} (h:l[i]? = some x):l.getD i default=x:=by rw[Z1,h];rfl
theorem ZO {l:List Node} (h:Up l) {fid:Int} {x:Node}:af l fid=some x↔x∈l/\x.fid=fid:=by
 obtain ⟨p1,p2⟩:=h.place fid;unfold af bz;constructor
 ·intro hf;split at hf
  ·rename_i hc;rw[Bool.and_eq_true] at hc;have h1:=of_decide_eq_true hc.1;have h2:=of_decide_eq_true hc.2;injection hf with hf
   subst hf;exact ⟨YG h1,h2⟩
  ·cases hf
 ·rintro ⟨hx,rfl⟩;obtain ⟨i,hi⟩:=Z9 hx;have hil:i<l.length:=(Z8.1 hi).1;have hix:=kK hi;have hpi:placeOf l x.fid=i:=by
   rcases Nat.lt_trichotomy (placeOf l x.fid) i with h1 | h1 | h1
   ·have:=p2 _ (WC _) z7;have h3:=h.lt h1 hil;rw[hix] at h3;omega
   ·exact h1
   ·have:=p1 i h1;rw[hix] at this;omega
  rw[hpi,hix,if_pos (by simp[hil])]
theorem dd {l:List Node} (h:Up l) {fid:Int}:af l fid=none↔∀x,x∈l->x.fid≠fid:=by
 constructor
 ·intro hf x hx hxf;rw[(ZO h).2 ⟨hx,hxf⟩] at hf;cases hf
 ·intro hf;cases e:af l fid with
  | none=>rfl
  | some x=>
   obtain ⟨h1,h2⟩:=(ZO h).1 e;exact absurd h2 (hf x h1)
theorem aD {l:List Node} (h:Up l) (n:Node):Up (aT l n)/\∀x,x∈aT l n↔x=n\/(x∈l/\x.fid≠n.fid):=by
 obtain ⟨p1,p2⟩:=h.place n.fid;have hle:=lj l n.fid;unfold aT;generalize hp:placeOf l n.fid=p at *;have hmem:∀x,x∈l↔x∈l.take p\/x∈l.drop p:=λx=>by
  have:=List.mem_append (a:=x) (s:=l.take p) (t:=l.drop p);rw[List.take_append_drop] at this;exact this
 have ht:∀x,x∈l.take p->x.fid<n.fid:=λx hx=>by
  obtain ⟨i,hi⟩:=Z9 hx;rw[WQ] at hi;split at hi
  ·rename_i hip;have:=p1 i hip
   rwa [kK hi] at this
  ·cases hi
 have hd:∀x,x∈l.drop p->n.fid≤x.fid:=λx hx=>by
  obtain ⟨i,hi⟩:=Z9 hx;rw[WW] at hi;have:=p2 (p+i) z7 (Z8.1 hi).1
  rwa [kK hi] at this
 by_cases hat:bz l n.fid=true
 ·rw[if_pos hat];unfold bz at hat;rw[Bool.and_eq_true] at hat;have hpl:p<l.length:=by have:=of_decide_eq_true hat.1;omega
  have hpf:(l.getD p default).fid=n.fid:=by have:=of_decide_eq_true hat.2;rw[hp] at this;exact this
  have bD:l.set p n=l.take p++n::l.drop (p+1):=by
   rw[List.set_eq_take_append_cons_drop,if_pos hpl]
  have hdd:l.drop p=l.getD p default::l.drop (p+1):=dO hpl;have hd1:∀x,x∈l.drop (p+1)->n.fid<x.fid:=λx hx=>by
   obtain ⟨i,hi⟩:=Z9 hx;rw[WW] at hi;have:=h.lt (i:=p) (j:=p+1+i) z7 (Z8.1 hi).1;rw[kK hi,hpf] at this;exact this
  rw[bD];refine ⟨?_,λx=>?_⟩
  ·refine List.pairwise_append.2 ⟨h.sublist (List.take_sublist _ _),List.pairwise_cons.2 ⟨hd1,h.sublist (List.drop_sublist _ _)⟩,λa ha b hb=>?_⟩
   rcases List.mem_cons.1 hb with rfl | hb
   ·exact ht a ha
   ·have:=ht a ha;have:=hd1 b hb;omega
  ·rw[hmem,hdd];simp only[List.mem_append,List.mem_cons];constructor
   ·rintro (h1 | h1 | h1)
    ·exact .inr ⟨.inl h1,by have:=ht x h1;omega⟩
    ·exact .inl h1
    ·exact .inr ⟨.inr (.inr h1),by have:=hd1 x h1;omega⟩
   ·rintro (h1 | ⟨h1 | rfl | h1,h2⟩)
    ·exact .inr (.inl h1)
    ·exact .inl h1
    ·exact absurd hpf h2
    ·exact .inr (.inr h1)
 ·rw[if_neg hat];have hd1:∀x,x∈l.drop p->n.fid<x.fid:=λx hx=>by
   obtain ⟨i,hi⟩:=Z9 hx;rw[WW] at hi;have hil:p+i<l.length:=(Z8.1 hi).1;have h0:¬(l.getD p default).fid=n.fid:=by
    intro e
    apply hat
    unfold bz;rw[hp,Bool.and_eq_true];exact ⟨decide_eq_true z7,decide_eq_true e⟩
   have h1:=p2 p (WC _) z7
   by_cases hi0:i=0
   ·subst hi0;rw[Nat.add_zero] at hi;rw[kK hi] at h0 h1;omega
   ·have:=h.lt (i:=p) (j:=p+i) z7 hil;rw[kK hi] at this;omega
  refine ⟨?_,λx=>?_⟩
  ·refine List.pairwise_append.2 ⟨h.sublist (List.take_sublist _ _),List.pairwise_cons.2 ⟨hd1,h.sublist (List.drop_sublist _ _)⟩,λa ha b hb=>?_⟩
   rcases List.mem_cons.1 hb with rfl | hb
   ·exact ht a ha
   ·have:=ht a ha;have:=hd1 b hb;omega
  ·rw[hmem];simp only[List.mem_append,List.mem_cons];constructor
   ·rintro (h1 | h1 | h1)
    ·exact .inr ⟨.inl h1,by have:=ht x h1;omega⟩
    ·exact .inl h1
    ·exact .inr ⟨.inr h1,by have:=hd1 x h1;omega⟩
   ·rintro (h1 | ⟨h1 | h1,h2⟩)
    ·exact .inr (.inl h1)
    ·exact .inl h1
    ·exact .inr (.inr h1)
theorem iT {l:List Node} (h:Up l) (fid:Int):Up (dN l fid)/\∀x,x∈dN l fid↔x∈l/\x.fid≠fid:=
 ⟨h.sublist Wz,λx=>by unfold dN;rw[WE];simp⟩
theorem zK {l:List Node} (h:Up l) (n:Node):af (aT l n) n.fid=some n:=by
 obtain ⟨h1,h2⟩:=aD h n;exact (ZO h1).2 ⟨(h2 n).2 (.inl rfl),rfl⟩
theorem zL {l:List Node} (h:Up l) (n:Node) {other:Int} (ho:other≠n.fid):af l other=af (aT l n) other:=by
 obtain ⟨h1,h2⟩:=aD h n;cases e:af l other with
 | none=>
  symm
  rw[dd h1];intro x hx
  rcases (h2 x).1 hx with rfl | ⟨hx,_⟩
  ·exact Ne.symm ho
  ·exact (dd h).1 e x hx
 | some x=>
  obtain ⟨k1,k2⟩:=(ZO h).1 e
  symm
  exact (ZO h1).2 ⟨(h2 x).2 (.inr ⟨k1,by rw[k2];exact ho⟩),k2⟩
end La
namespace Go.Eng
section
variable {P:Program} {T:Tab} {C:Ctx} {σ σ':St} {Ret:St->Prop} {k:List It}
theorem Bi:∀H,sub [] H=[]
 | []=>rfl
 | p::r=>by simp[sub,Bi r]
theorem AI:∀H,del [] H=H
 | []=>rfl
 | p::r=>by simp[del,AI r]
theorem BX (l:List AV):l.map (kh [])=l:=by
 have:kh []=id:=by funext x;simp[kh]
 rw[this,List.map_id]
theorem gQ {ops:Array Oper} {Q:Exit->Act->World->Prop} {k n:Nat} {acc:fQ} {o:Oper} {l:List Oper} {c:Operand} {args:Array Operand} {ats:Array TypeId} (off:Nat) (ho:o.op=.call { callee:=.value c,args,argTypes:=ats }) (hg:o.guard=none) {p:Prop} {f:FuncId} {xs:List AV}
  (h:aC σ c args.toList=some (p,f,xs)) (hp:p) (hc:aP P f) (hx:aL xs=[]) {K:List (Nat×Blk)} {r:AV} (hf:ag P f xs [] λr' H'=>r'=r/\∀id b,ae K id=some b->ae H' id=some b) (hc3:closed K (refs r)=true)
  {r2:AV} (hr:ren off r=r2) {K2:List (Nat×Blk)} (hK:rh off K=K2) (hn:(K2.all λb=>(ae σ.hp b.1).isNone)=true)
  {sk:List Loc×List Loc} (hs:((Sp.mk o.dst r2 K2 (cI ops o.guard++(fI σ c++bu σ args.toList))).wr,cI ops o.guard++(fI σ c++bu σ args.toList))=sk)
  (ha:St.put ⟨σ.tm,K2++σ.hp⟩ o.dst r2=σ') (hk:aq P C ops Q k n (acc++[sk]) l σ'):aq P C ops Q k n acc (o::l) σ:=by
 subst hr hK;refine pg (q:=⟨o.dst,ren off r,rh off K,cI ops o.guard++(fI σ c++bu σ args.toList)⟩) ?_ (λb hb _=>?_) (by rw[←hs]) (by rw[←ha];rfl) hk
 ·intro s hagree hfree a w Kp Q' hr hKp;have hg':guardOf ops s o.guard=some true:=by rw[hg];rfl
  obtain ⟨μ,S,hi⟩:=hr;rw[cm hi hg'];refine .inl ?_;refine tq ho (by rw[dL (λx hx=>hagree x (WB _ hx))];exact h) hp hc [] off (H:=[]) (K:=K) (r:=r) (Bi _) (by rw[hx];rfl) rfl y7 hc3 ?_ hf ?_ a w Kp Q' ⟨μ,S,hi⟩ hKp
  ·rw[List.all_eq_true];intro q hq;have hm:(q.1+off,zO off q.2)∈rh off K:=Z7.2 ⟨q,hq,rfl⟩;have h0:ae s.hp (q.1+off)=none:=by
    by_cases h:Loc.blk (q.1+off)∈cI ops o.guard++(fI σ c++bu σ args.toList)
    ·have h1:=List.all_eq_true.1 hn _ hm;have h2:ae σ.hp (q.1+off)=none:=by simpa using h1
     exact (hagree _ h).trans h2
    ·exact hfree _ hm h
   rw[h0];rfl
  ·rw[BX,AI];rfl
 ·have:=List.all_eq_true.1 hn b hb;simpa using this
theorem le_empty (id e s:Nat) (hf:ae σ.hp id=none):Le C σ ⟨σ.tm,(id,.cells e s [])::σ.hp⟩:=by
 rintro a w ⟨μ,S,hi⟩;refine ⟨μ,S,hi.size,hi.defers,hi.tm,λi b hb=>?_,λi q hq=>?_,hi.inj,hi.frm,hi.sb⟩
 ·simp only[ae] at hb;split at hb
  ·rename_i h1;injection hb with hb
   subst h1 hb;exact .inl ⟨rfl,hi.fresh hf⟩
  ·exact hi.hp i b hb
 ·obtain ⟨⟨b,h1⟩,h2⟩:=hi.dom i q hq;refine ⟨?_,h2⟩;simp only[ae];split
  ·exact ⟨_,rfl⟩
  ·exact ⟨b,h1⟩
theorem dR (ref id:Nat) {e s:Nat} {rows rows':List (List AV)} (hb:ae σ.hp id=some (.cells e s rows)) (hr:rows.map (λrow=>row.map (kill ref))=rows'):Le C σ ⟨σ.tm,bD σ.hp id (.cells e s rows')⟩:=by
 subst hr;rintro a w ⟨μ,S,hi⟩;refine ⟨μ,S,hi.size,hi.defers,hi.tm,λi b hb'=>?_,λi q hq=>?_,hi.inj,hi.frm,hi.sb⟩
 ·simp only[aF] at hb';split at hb'
  ·rename_i h1;injection hb' with hb'
   subst h1 hb'
   rcases hi.hp id _ hb with ⟨rfl,k2⟩ | ⟨g,c,k1,k2,k3,k4,k5⟩
   ·exact .inl ⟨by simp,k2⟩
   ·refine .inr ⟨g,c,k1,k2,by rw[List.length_map];exact k3,λrow hrow=>?_,λi row hi' q x hx=>?_⟩
    ·obtain ⟨r0,h0,rfl⟩:=Z7.1 hrow;rw[List.length_map];exact k4 r0 h0
    ·rw[Z5] at hi';cases e0:rows[i]? with
     | none=>rw[e0] at hi';cases hi'
     | some r0=>
      rw[e0] at hi';simp only[Option.map_some,Option.some.injEq] at hi';subst hi';rw[Z5] at hx;cases e1:r0[q]? with
      | none=>rw[e1] at hx;cases hx
      | some y=>
       rw[e1] at hx;simp only[Option.map_some,Option.some.injEq] at hx;subst hx;unfold kill;split
       ·exact .any _
       ·exact k5 i r0 e0 q y e1
  ·exact hi.hp i b hb'
 ·obtain ⟨⟨b,h1⟩,h2⟩:=hi.dom i q hq;refine ⟨?_,h2⟩;simp only[aF];split
  ·exact ⟨_,rfl⟩
  ·exact ⟨b,h1⟩
theorem ag.kV {f:FuncId} {args:List AV} {H:List (Nat×Blk)} {X Y:AV} (h:ag P f args H λr _=>r=X) (hn:Eng.nrm X=Y):ag P f args H λr _=>r=Y:=by
 subst hn;intro R0 μ w0 vs hl ha hH hR;refine (h R0 μ w0 vs hl ha hH hR).mono ?_;rintro e' w' ⟨v,r,H',μ',S',rfl,rfl,h4,h5⟩;exact ⟨v,_,H',μ',S',rfl,rfl,h4.nrm,h5⟩
structure Sim (σ τ:St):Prop where
 tm:σ.tm=τ.tm
 hp:∀id,ae σ.hp id=ae τ.hp id
theorem Sim.app {σ τ:St} (h:Sim σ τ) (p:Sp):Sim (p.app σ) (p.app τ):=by
 refine ⟨?_,λid=>?_⟩
 ·unfold Sp.app St.put;cases p.dst<;>simp[h.tm]
 ·unfold Sp.app;rw[St.mn,St.mn]
  show ae (p.new++σ.hp) id=ae (p.new++τ.hp) id
  rw[bh,bh,h.hp id]
theorem Sim.cO {σ τ:St}:∀(ps:List Sp),Sim σ τ->Sim (Eng.cO ps σ) (Eng.cO ps τ):=λps=>by
 induction ps generalizing σ τ with
 | nil=>exact id
 | cons p r ih=>exact λh=>ih (h.app p)
theorem Sim.agree {σ τ s:St} (h:Sim σ τ) {x:Loc} (hx:cL σ s x):cL τ s x:=by
 cases x with
 | tm t=>show _=_;rw[←h.tm];exact hx
 | blk id=>show _=_;rw[←h.hp];exact hx
theorem Sim.rob {σ τ:St} (h:Sim σ τ) {ops:Array Oper} {o:Oper} {p:Sp} (hr:Rob P C ops o p τ):Rob P C ops o p σ:=λs ha hf=>hr s (λx hx=>h.agree (ha x hx)) hf
theorem Sim.chain {ops:Array Oper}:∀(l:List Oper) (ps:List Sp) {σ τ:St},Sim σ τ->et P C ops l ps τ->et P C ops l ps σ
 | [],[],_,_,_,h=>h
 | _::l,p::ps,_,_,h,hr=>⟨h.rob hr.1,Sim.chain l ps (h.app p) hr.2⟩
 | [],_::_,_,_,_,h=>h
 | _::_,[],_,_,_,h=>h
theorem Sim.fresh:∀(ps:List Sp) {σ τ:St},Sim σ τ->dw ps τ->dw ps σ
 | [],_,_,_,h=>h
 | p::ps,_,_,h,hf=>⟨λb hb hn=>by rw[h.hp];exact hf.1 b hb hn,Sim.fresh ps (h.app p) hf.2⟩
theorem cw.sim {ops:Array Oper} {Q:Exit->Act->World->Prop} {k:Nat} {σ τ:St} (h:Sim σ τ) (hd:cw P C ops Q k τ):cw P C ops Q k σ:=λa w hr=>
 hd a w (mq (by rw[h.tm]) (λt=>by rw[h.tm]) h.hp a w hr)
theorem aq.sim {ops:Array Oper} {Q:Exit->Act->World->Prop} {k n:Nat} {acc:fQ} {l:List Oper} {σ τ:St} (h:Sim σ τ) (hs:aq P C ops Q k n acc l τ):aq P C ops Q k n acc l σ:=by
 obtain ⟨l1,l2,ps,h1,h2,h3,h4,h5,h6⟩:=hs;exact ⟨l1,l2,ps,h1,h2,h.chain _ _ h3,h.fresh _ h4,h5,cw.sim (h.cO ps) h6⟩
theorem kx (hT:TabOK P T) {ops:Array Oper} {Q:Exit->Act->World->Prop} {k n:Nat} {acc:fQ} {o:Oper} {l:List Oper} {t:TypeId} {x y:Operand} (ho:o.op=.store t x y) (hd:o.dst=none) (hg:guardOf ops σ o.guard=some true) {id size row off:Nat} (hx:evS σ x=(True,.ptr id size row off))
  {q:Prop} {v:AV} (hy:evS σ y=(q,v)) (hq:q) {p:Prop} {H:List (Nat×Blk)} (h:gq T σ t (.ptr id size row off) v=some (p,H)) (hp:p) {b:Blk} (hH:ae H id=some b)
  {sk:List Loc×List Loc} (hs:([Loc.blk id],cI ops o.guard++(bu σ [x,y]++[Loc.blk id]))=sk) (ha:(⟨σ.tm,bD σ.hp id b⟩:St)=σ') (hk:aq P C ops Q k n (acc++[sk]) l σ'):aq P C ops Q k n acc (o::l) σ:=by
 subst hs ha;have hform:H=bD σ.hp id b:=by
  unfold gq at h;split at h
  ·rename_i id' size' row' off' xs heq1 heq2;injection heq1 with e1 e2 e3 e4
   subst e1 e2 e3 e4;split at h
   ·split at h
    ·simp only[Option.some.injEq,Prod.mk.injEq] at h;obtain ⟨_,rfl⟩:=h;rw[aF,if_pos rfl] at hH;injection hH with hH
     rw[hH]
    ·cases h
   ·cases h
  ·cases h
 refine pg (q:=⟨none,.any,[(id,b)],cI ops o.guard++(bu σ [x,y]++[Loc.blk id])⟩) (σ':=Sp.app ⟨none,.any,[(id,b)],cI ops o.guard++(bu σ [x,y]++[Loc.blk id])⟩ σ) ?_ (λc hc hn=>?_) rfl rfl ?_
 ·intro s hagree _ a w K Q' hr hK;have hg':guardOf ops s o.guard=some true:=by rw[jt (λx hx=>hagree x (WM _ hx))];exact hg
  obtain ⟨μ,S,hi⟩:=hr;rw[cm hi hg'];refine .inl ?_;have hl:∀z,z∈bu σ [x,y]->cL σ s z:=λz hz=>hagree z (WB _ (WM _ hz))
  have hx':evS s x=(True,.ptr id size row off):=by rw[dP (λz hz=>hl z (fH y7 z hz))];exact hx
  have hy':evS s y=(q,v):=by rw[dP (λz hz=>hl z (fH y7 z hz))];exact hy
  have hb:ae s.hp id=ae σ.hp id:=hagree (.blk id) (WB _ (WB _ y7));have hst:gq T s t (.ptr id size row off) v=some (p,bD s.hp id b):=by
   unfold gq at h ⊢;split at h
   ·rename_i id' size' row' off' xs heq1 heq2;injection heq1 with e1 e2 e3 e4
    subst e1 e2 e3 e4;rw[hb];split at h
    ·split at h
     ·simp only[Option.some.injEq,Prod.mk.injEq] at h;obtain ⟨rfl,rfl⟩:=h;rw[aF,if_pos rfl] at hH;injection hH with hH
      subst hH;rw[if_pos (by assumption)]
     ·cases h
    ·cases h
   ·cases h
  have hstep:gn T s o.dst o.op=some ((evS s x).1/\(evS s y).1/\p,⟨s.tm,bD s.hp id b⟩):=by
   rw[ho,hd]
   show (gq T s t (evS s x).2 (evS s y).2).map _=_
   rw[hx',hy',hst];rfl
  have hnd:(St.mk s.tm (bD s.hp id b)).hp=bD s.hp id b:=rfl;refine di hT o hstep ⟨by rw[hx'];trivial,by rw[hy'];exact hq,hp⟩ a w K Q' ⟨μ,S,hi⟩ λa' w' hr'=>hK a' w' ?_
  show Rel C ⟨s.tm,(id,b)::s.hp⟩ a' w'
  refine mq (s:=⟨s.tm,bD s.hp id b⟩) (s':=⟨s.tm,(id,b)::s.hp⟩) rfl (λt=>rfl) (λi=>?_) a' w' hr'
  show ae (bD s.hp id b) i=ae ((id,b)::s.hp) i
  rw[aF];rfl
 ·have hc':=List.mem_singleton.1 hc;subst hc';exact absurd (WB _ (WB _ y7)) hn
 ·refine aq.sim (τ:=⟨σ.tm,bD σ.hp id b⟩) ⟨rfl,λi=>?_⟩ hk
  show ae ((id,b)::σ.hp) i=ae (bD σ.hp id b) i
  rw[aF];rfl
end
end Go.Eng
namespace Go.Eng
section
variable {P:Program} {T:Tab} {C:Ctx} {μ:Nat->Option Nat} {S:Nat->Prop} {σ σ':St} {a:Act} {w:World} {Ret:St->Prop} {k:List It}
def eqT (T:Tab):List TypeId->List AV->List AV->Option Bool
 | [],[],[]=>some true
 | t::ts,.int k x::a,.int k' y::b=>match T.und t with
  | .int _=>if k=k' then (eqT T ts a b).map λr=>x==y&&r else none
  | _=>none
 | t::ts,.bool x::a,.bool y::b=>match T.und t with
  | .bool=>(eqT T ts a b).map λr=>x==y&&r
  | _=>none
 | t::ts,.str x::a,.str y::b=>match T.und t with
  | .str=>(eqT T ts a b).map λr=>x==y&&r
  | _=>none
 | _,_,_=>none
def iH:List Field->Nat->List TypeId->Bool
 | [],_,[]=>true
 | f::fs,j,t::ts=>f.name != "_" && f.offset==j&&f.type==t&&iH fs (j+1) ts
 | _,_,_=>false
def rY (P:Program) (t:TypeId) (tys:List TypeId):Bool:=
 match P.underlying t with
 | some (.struct F)=>!P.stoodInHeld t&&!P.eqGuardType P.depth t&&iH F.toList 0 tys
 | _=>false
theorem vT (hT:TabOK P T) {xs ys:Array Value} {A B:List AV} (hsx:xs.size=A.length) (hsy:ys.size=B.length) (hx:∀j x,A[j]? = some x->Rd μ S w (xs.getD j undef) x) (hy:∀j x,B[j]? = some x->Rd μ S w (ys.getD j undef) x) (d:Nat) :
  ∀(fs:List Field) (j:Nat) (ts:List TypeId) (r:Bool),iH fs j ts=true->eqT T ts (A.drop j) (B.drop j)=some r->(Op.eqFields (d+1) xs ys fs).run P w=.ok r w:=by
 intro fs
 induction fs with
 | nil=>
  intro j ts r h he;cases ts with
  | nil=>
   cases hA:A.drop j<;>cases hB:B.drop j<;>rw[hA,hB] at he<;>simp only[eqT,Option.some.injEq,reduceCtorEq] at he;subst he;simp[Op.eqFields]
  | cons t ts=>simp[iH] at h
 | cons f fs ih=>
  intro j ts r h he;cases ts with
  | nil=>simp[iH] at h
  | cons t ts=>
   simp only[iH,Bool.and_eq_true,bne_iff_ne,ne_eq,beq_iff_eq] at h;obtain ⟨⟨⟨h1,h2⟩,h3⟩,h4⟩:=h;subst h2 h3;cases hA:A.drop f.offset with
   | nil=>rw[hA] at he;cases hB:B.drop f.offset<;>rw[hB] at he<;>simp[eqT] at he
   | cons p A'=>
    cases hB:B.drop f.offset with
    | nil=>rw[hA,hB] at he;cases p<;>simp[eqT] at he
    | cons q B'=>
     have hA1:A[f.offset]? = some p:=by have:=congrArg (λl=>l[0]?) hA;simpa using this
     have hB1:B[f.offset]? = some q:=by have:=congrArg (λl=>l[0]?) hB;simpa using this
     have hA2:A.drop (f.offset+1)=A':=by rw[←List.drop_drop,hA];rfl
     have hB2:B.drop (f.offset+1)=B':=by rw[←List.drop_drop,hB];rfl
     have hAl:f.offset<A.length:=(Z8.1 hA1).1;have hBl:f.offset<B.length:=(Z8.1 hB1).1;have hpx:∀b,(T.und f.type).isA=some b->b=false->(part f.type xs f.offset).run P w=.ok (xs.getD f.offset undef) w:=λb hb hf=>by
      subst hf;simp[part,ke hT hb,hsx,hAl,Z3]
     have hpy:∀b,(T.und f.type).isA=some b->b=false->(part f.type ys f.offset).run P w=.ok (ys.getD f.offset undef) w:=λb hb hf=>by
      subst hf;simp[part,ke hT hb,hsy,hBl,Z3]
     have rx:=hx _ _ hA1;have ry:=hy _ _ hB1;have hk:=hT.und f.type;have ih':=λr' he'=>ih (f.offset+1) ts r' h4 he'
     rw[hA2,hB2] at ih';rw[hA,hB] at he;cases hu:T.und f.type<;>rw[hu] at hk<;>cases p<;>cases q<;>simp only[eqT,hu,reduceCtorEq] at he
     ·obtain ⟨r0,h0,rfl⟩:=WN.1 he;have e1:=rx.cS;have e2:=ry.cS;simp only[Op.eqFields,h1,not_false_eq_true,if_true,ne_eq,Sem.run_bind,hpx false Zq rfl,hpy false Zq rfl,Result.andThen_ok,e1,e2,run_equalIn_bool' w d f.type _ _ hk];rename_i b1 b2;cases hb:(b1==b2)
      ·simp
      ·simp[ih' r0 h0]
     ·split at he
      ·rename_i hkk;obtain ⟨r0,h0,rfl⟩:=WN.1 he;have e1:=rx.aY;have e2:=ry.aY;subst hkk;simp only[Op.eqFields,h1,not_false_eq_true,if_true,ne_eq,Sem.run_bind,hpx false Zq rfl,hpy false Zq rfl,Result.andThen_ok,e1,e2,run_equalIn_int w d f.type _ _ _ _ hk];rename_i b1 b2;cases hb:(b1==b2)
       ·simp
       ·simp[ih' r0 h0]
      ·cases he
     ·obtain ⟨r0,h0,rfl⟩:=WN.1 he;obtain ⟨s1,e1,q1⟩:=rx.fx;obtain ⟨s2,e2,q2⟩:=ry.fx;subst q1 q2;simp only[Op.eqFields,h1,not_false_eq_true,if_true,ne_eq,Sem.run_bind,hpx false Zq rfl,hpy false Zq rfl,Result.andThen_ok,e1,e2,run_equalIn_string w d f.type _ _ hk,ByteArray.toList_eq];cases hb:(s1.data.toList==s2.data.toList)
      ·simp
      ·simp[ih' r0 h0]
theorem Cv (hT:TabOK P T) {t:TypeId} {tys:List TypeId} (hc:rY P t tys=true) {ox oy:Operand} {v u:Value} {A B:List AV} {r:Bool} (h:eqT T tys A B=some r) (hv:Rd μ S w v (.agg A)) (hu:Rd μ S w u (.agg B)) {op:BinOp} {q:Bool} (hop:(op=.eql/\q=r)\/(op=.neq/\q=!r)) :
  (do eqGuard op t ox oy v u;binOp op t v u:Sem Value).run P w=.ok (.bool q) w:=by
 obtain ⟨xs,rfl,hxl,hxr⟩:=hv.mU;obtain ⟨ys,rfl,hyl,hyr⟩:=hu.mU;unfold rY at hc;split at hc
 ·rename_i F hF;simp only[Bool.and_eq_true,Wm] at hc;obtain ⟨⟨h1,h2⟩,h3⟩:=hc;have hfo:P.fieldsOf t=F:=by simp[Program.fieldsOf,hF]
  have key:=vT (P:=P) (w:=w) hT hxl hyl hxr hyr 9998 F.toList 0 tys r h3 u6;have key2:(Op.equalIn 10000 t (.agg xs) (.agg ys)).run P w=.ok r w:=by
   rw[run_equalIn_struct w 9999 t xs ys (by rw[hfo];exact hF) h1,hfo];exact key
  rcases hop with ⟨rfl,rfl⟩ | ⟨rfl,rfl⟩
  ·simp[run_eqGuard_agg w .eql t ox oy xs ys h2,run_eql_struct w t xs ys,key2]
  ·simp[run_eqGuard_agg w .neq t ox oy xs ys h2,run_neq_struct w t xs ys,key2]
 ·cases hc
theorem EW (hT:TabOK P T) {o:Oper} {op:BinOp} {t ty:TypeId} {x y:Operand} (ho:o.op=.binOp op t x y ty) {tys:List TypeId} (hc:rY P t tys=true) {A B:List AV} {r:Bool} (hx:evS σ x=(True,.agg A)) (hy:evS σ y=(True,.agg B)) (h:eqT T tys A B=some r)
  {q:Bool} (hop:(op=.eql/\q=r)\/(op=.neq/\q=!r)):fe P C o σ (σ.put o.dst (.bool q)):=by
 refine er λμ S a w hi=>?_
 have hv:=hi.evS x p7;have hu:=hi.evS y Qi;rw[hx] at hv;rw[hy] at hu;refine ⟨.bool q,?_,.pure (.bool _)⟩;have:=Cv (ox:=x) (oy:=y) hT hc h hv hu hop;simp only[execOp,ho];have e:(do eqGuard op t x y (a.eval x) (a.eval y);binOp op t (a.eval x) (a.eval y):Sem Value).run P w=.ok (.bool q) w:=this;simp only[Sem.run_bind] at e ⊢
 revert e
 generalize (eqGuard op t x y (a.eval x) (a.eval y)).run P w=z;intro e;rw[e];rfl
attribute [go_sem] eqT
end
end Go.Eng
namespace Go.Eng
section
variable {P:Program} {T:Tab} {C:Ctx} {μ:Nat->Option Nat} {S:Nat->Prop} {σ σ':St} {a:Act} {w w':World} {Ret:St->Prop} {k:List It}
end
end Go.Eng
namespace Go.Eng
section
variable {P:Program} {T:Tab} {C:Ctx} {μ:Nat->Option Nat} {S:Nat->Prop} {σ σ':St} {Ret:St->Prop} {k:List It}
def pins (ids:List Nat) (G Y N:Nat->Nat):List (Nat×Blk):=ids.map λi=>(5000+i,.pin i (G i) (Y i) (N i))
theorem kc (G Y N:Nat->Nat) (i:Nat):∀(ids:List Nat),ae (pins ids G Y N) i=if 5000≤i/\ids.contains (i-5000)=true then some (.pin (i-5000) (G (i-5000)) (Y (i-5000)) (N (i-5000))) else none
 | []=>by simp[pins,ae]
 | j::r=>by
  have ih:=kc G Y N i r;simp only[pins,List.map_cons,ae] at ih ⊢
  by_cases e:5000+j=i
  ·subst e;rw[if_pos rfl,if_pos ⟨by omega,by rw[Ww];simp⟩,Ww]
  ·rw[if_neg e,ih]
   by_cases h:5000≤i
   ·have hne:i-5000≠j:=by omega
    simp only[h,true_and,List.contains_cons];simp[hne]
   ·rw[if_neg (λhh=>h hh.1),if_neg (λhh=>h hh.1)]
theorem eY (i:Nat):∀(K H:List (Nat×Blk)),(K.map (·.1)).Nodup->ae (cN H K) i=if (ae K i).isSome=true then ae K i else ae H i
 | [],H,_=>by simp[cN,ae]
 | (j,b)::r,H,hn=>by
  simp only[List.map_cons,List.nodup_cons] at hn;simp only[cN,ae];rw[eY i r _ hn.2,aF]
  by_cases e:j=i
  ·subst e;have h0:ae r j=none:=by
    cases h:ae r j with
    | none=>rfl
    | some c=>exact absurd (Z7.2 ⟨_,bJ h,rfl⟩) hn.1
   simp[h0]
  ·simp[e]
def fq:Blk->Bool
 | .cells _ s rows=>!rows.isEmpty&&s != 0
 | .map _=>true
 | _=>false
theorem Eo {w:World} {id:Nat} {b:Blk} (h:db μ S w id b) (hp:fq b=true):∃g t n,μ id=some g/\ak w g=tO t n:=by
 cases b with
 | cells e s rows=>
  simp only[fq,Bool.and_eq_true,Wm,List.isEmpty_eq_false_iff,bne_iff_ne] at hp
  rcases h with ⟨rfl,_⟩ | ⟨g,c,h1,h2,h3,_⟩
  ·exact absurd rfl hp.1
  ·refine ⟨g,e,c.size,h1,?_⟩;have hpos:0<rows.length:=by
    rcases Nat.eq_zero_or_pos rows.length with h | h
    ·exact absurd (List.eq_nil_of_length_eq_zero h) hp.1
    ·exact h
   have:0<rows.length*s:=Nat.mul_pos hpos (Nat.pos_of_ne_zero hp.2);unfold ak tO;rw[h2,if_neg z7];rfl
 | map kvs=>
  obtain ⟨g,es,clk,vals,h1,h2,_⟩:=h;refine ⟨g,0,0,h1,?_⟩;unfold ak tO;rw[h2];rfl
 | iter kvs seen=>cases hp
 | cap id s N=>cases hp
 | pin id g t n=>cases hp
theorem ep {o:Oper} {c:Operand} {args:Array Operand} {ats:Array TypeId} (ho:o.op=.call { callee:=.value c,args,argTypes:=ats }) {p:Prop} {f:FuncId} {xs:List AV}
  (h:aC σ c args.toList=some (p,f,xs)) (hp:p) (hc:aP P f) (ids:List Nat) {H K:List (Nat×Blk)} {r:AV} (hH:sub ids σ.hp=H)
  (hck:((aL xs).all ids.contains&&(refs r).all ids.contains&&ids.all (λi=>decide (i<5000)&&(ae K i).isSome)&&K.all (λq=>ids.contains q.1))=true) (hnd:(K.map (·.1)).Nodup)
  (hpin:(ids.all λi=>match ae H i with | some b=>fq b | none=>false)=true) (hc1:(H.all λq=>(aN q.2).all ids.contains)=true) (hc2:(K.all λq=>(aN q.2).all ids.contains)=true)
  (hf:∀G Y N:Nat->Nat,ag P f xs (H++pins ids G Y N) λr' H'=>r'=r/\∀i b,ae (K++pins ids G Y N) i=some b->ae H' i=some b) {τ:St} (hτ:(⟨σ.tm,cN σ.hp K⟩:St).put o.dst r=τ):fe P C o σ τ:=by
 subst hH hτ;simp only[Bool.and_eq_true] at hck;obtain ⟨⟨⟨hx,hr⟩,hi1⟩,hK1⟩:=hck;have hxr:∀i,i∈aL xs->ids.contains i=true:=λi h=>List.all_eq_true.1 hx i h
 have hrr:∀i,i∈refs r->ids.contains i=true:=λi h=>List.all_eq_true.1 hr i h
 have hid:∀i,ids.contains i=true->i<5000/\∃b,ae K i=some b:=λi h=>by
  have:=List.all_eq_true.1 hi1 i u6;rw[Bool.and_eq_true,decide_eq_true_eq] at this;exact ⟨this.1,Wb.1 this.2⟩
 have hKi:∀i b,ae K i=some b->ids.contains i=true:=λi b h=>List.all_eq_true.1 hK1 _ (bJ h)
 intro a w Kp Q ⟨μ,S,hi⟩ hKp;obtain ⟨vs,h1,h2,h3⟩:=jY hi ho h hp hc;unfold Oper.wp;rw[h3];have hpn:∀i,∃g t n,ids.contains i=true->μ i=some g/\ak w g=tO t n:=λi=>by
  by_cases e:ids.contains i=true
  ·have:=List.all_eq_true.1 hpin i Qz;cases e2:ae (sub ids σ.hp) i with
   | none=>rw[e2] at this;cases this
   | some b=>
    rw[e2] at this;have e3:ae σ.hp i=some b:=by
     rw[dy,if_pos e] at e2;exact e2
    obtain ⟨g,t,n,k1,k2⟩:=Eo (hi.hp i b e3) this;exact ⟨g,t,n,λ_=>⟨k1,k2⟩⟩
  ·exact ⟨0,0,0,λh=>absurd h e⟩
 let G:Nat->Nat:=λi=>Classical.choose (hpn i)
 let Y:Nat->Nat:=λi=>Classical.choose (WZ (hpn i))
 let N:Nat->Nat:=λi=>Classical.choose (WZ (WZ (hpn i)))
 have hg:∀i,ids.contains i=true->μ i=some (G i)/\ak w (G i)=tO (Y i) (N i):=λi=>WZ (WZ (WZ (hpn i)))
 let μc:Nat->Option Nat:=λi=>if ids.contains i then μ i else none
 have mc:∀{i g},μc i=some g->ids.contains i=true/\μ i=some g:=fun {i g} h=>by
  simp only[μc] at h;split at h
  ·exact ⟨by assumption,h⟩
  ·cases h
 have mc':∀{i},ids.contains i=true->μc i=μ i:=fun {i} h=>by simp only[μc,h,if_true]
 have mcn:∀{i},ids.contains i=false->μc i=none:=fun {i} h=>by simp only[μc,h,Bool.false_eq_true,if_false]
 have hsubk:∀i b,ae (sub ids σ.hp) i=some b->ids.contains i=true/\ae σ.hp i=some b:=λi b h=>by
  rw[dy] at h;split at h
  ·exact ⟨by assumption,h⟩
  ·cases h
 refine (hf G Y N S μc w vs h1 (λj x hj=>(h2 j x hj).less λid hid g hg=>by rw[mc' (hxr id (br hj hid))];exact hg) ⟨λid b hb=>?_,λid g hg'=>?_,λid id' g hg hg'=>hi.inj id id' g (mc hg).2 (mc hg').2,hi.gok.sub λi g h=>⟨i,(mc h).2⟩⟩ (λb hb=>(hi.sb b hb).1)).mono ?_
 ·rw[bh] at hb;split at hb
  ·obtain ⟨q1,q2⟩:=hsubk id b hb;have hall:=List.all_eq_true.1 hc1 _ (bJ hb);exact (hi.hp id b q2).less (mc' q1) (λi hi' g hg=>by rw[mc' (List.all_eq_true.1 hall i hi')];exact hg)
  ·rw[kc] at hb;split at hb
   ·rename_i hc5;injection hb with hb
    subst hb;have hno:ids.contains id=false:=by
     cases e:ids.contains id with
     | false=>rfl
     | true=>have:=(hid id e).1;omega
    exact ⟨mcn hno,by rw[mc' hc5.2];exact (hg _ hc5.2).1,(hg _ hc5.2).2⟩
   ·cases hb
 ·obtain ⟨k1,k2⟩:=mc hg';obtain ⟨⟨b,j1⟩,_,j3⟩:=hi.dom id g k2;refine ⟨⟨b,?_⟩,j3⟩;rw[bh,if_pos ⟨(id,b),bJ (by rw[dy,if_pos k1];exact j1),rfl⟩,dy,if_pos k1];exact j1
 rintro e w' ⟨v,r',H',μ',S',rfl,⟨rfl,hKH⟩,k1,k2,k3,k4,k5⟩;have hKget:∀i b,ae K i=some b->ae H' i=some b:=λi b hb=>hKH i b (by
  rw[bh,if_pos ⟨(i,b),bJ hb,rfl⟩];exact hb)
 have hPget:∀i,ids.contains i=true->ae H' (5000+i)=some (.pin i (G i) (Y i) (N i)):=λi hi'=>hKH _ _ (by
  rw[bh,if_neg (by
   rintro ⟨b,hb,hb2⟩;have:ids.contains b.1=true:=List.all_eq_true.1 hK1 b hb;have:=(hid _ this).1;omega),kc,if_pos ⟨by omega,by rw[Ww];exact hi'⟩,Ww])
 have hpin':∀i,ids.contains i=true->μ' i=some (G i)/\ak w' (G i)=tO (Y i) (N i):=λi hi'=>(k2.blk _ _ (hPget i hi')).2
 have hfr:Frm (λg=>∃id,μc id=some g) w w':=k3;have hS:aQ S w w':=λb hb=>hfr.block b (hi.sb b hb).1 QS
 have hO:∀i g,μ i=some g->ids.contains i=false->w'.heap[g]? = w.heap[g]?:=λi g hg hn=>hfr.block g (hi.dom i g hg).2.2.2 (by
  rintro ⟨id,h⟩;obtain ⟨q1,q2⟩:=mc h;have:=hi.inj _ _ _ hg q2;subst this;rw[q1] at hn;cases hn)
 have hz:∀i g,μ i=some g->ak w' g=ak w g:=λi g hg'=>by
  cases e:ids.contains i with
  | false=>exact a_ (hO i g hg' e)
  | true=>
   obtain ⟨q1,q2⟩:=hg i e;rw[hg'] at q1;injection q1 with q1
   rw[q1,(hpin' i e).2,q2]
 let S2:Nat->Prop:=λb=>S b\/S' b
 have hrd:∀{v x},Rd μ S w v x->Rd μ S2 w' v x:=λhv=>hv.mono hS (λ_ h=>.inl h) (λ_ _ h=>h) hz
 have inv:Inv C μ S2 ⟨σ.tm,cN σ.hp K⟩ a w':=by
  refine ⟨hi.size,hi.defers,λt x hx=>hrd (hi.tm t x hx),λi b hb=>?_,λi g hg'=>?_,hi.inj,hi.frm.step _ hfr (λg ⟨id,h⟩=>(hi.dom id g (mc h).2).2.1),λb hb=>?_⟩
  ·rw[eY i K σ.hp hnd] at hb;split at hb
   ·have hib:=hKi i b hb;have hB:=k2.blk i b (hKget i b hb);have hall:=List.all_eq_true.1 hc2 _ (bJ hb);have h1:db μ S' w' i b:=hB.less (by rw[(hg i hib).1,(hpin' i hib).1]) (λj hj q hq=>by
     have hjb:=List.all_eq_true.1 hall j hj;rw[(hpin' j hjb).1] at hq;rw[(hg j hjb).1];exact hq)
    exact h1.mono (aQ.refl _ _) (λ_ h=>.inr h) (λ_ _ h=>h) (λ_ _ _=>rfl) (λh=>h) (λ_ _=>rfl)
   ·rename_i hno;have hib:ids.contains i=false:=by
     cases e:ids.contains i with
     | false=>rfl
     | true=>
      obtain ⟨_,c,hc'⟩:=hid i e;rw[hc'] at hno;exact absurd rfl hno
    exact (hi.hp i b hb).mono hS (λ_ h=>.inl h) (λ_ _ h=>h) hz (λh=>h) (λg hg'=>hO i g hg' hib)
  ·obtain ⟨⟨b,j1⟩,j2,j3,j4⟩:=hi.dom i g hg';refine ⟨?_,j2,?_,WY j4 hfr.size⟩
   ·rw[eY i K σ.hp hnd];split
    ·rename_i hs;exact Wb.1 hs
    ·exact ⟨b,j1⟩
   ·rintro (h | h)
    ·exact j3 h
    ·cases e:ids.contains i with
     | true=>
      have:=(hg i e).1;rw[hg'] at this;injection this with this
      subst this;exact (k2.dom i _ (hpin' i e).1).2.1 h
     | false=>
      rcases (k5 g h).2 with q | ⟨id,q⟩ | q
      ·exact j3 q
      ·obtain ⟨q1,q2⟩:=mc q;have:=hi.inj _ _ _ hg' q2;subst this;rw[q1] at e;cases e
      ·omega
  ·rcases hb with h | h
   ·exact ⟨WY (hi.sb b h).1 hfr.size,(hi.sb b h).2⟩
   ·refine ⟨(k5 b h).1,?_⟩
    rcases (k5 b h).2 with q | ⟨id,q⟩ | q
    ·exact (hi.sb b q).2
    ·rcases (hi.dom id b (mc q).2).2.1 with z | z
     ·exact .inr (.inl z)
     ·exact .inr (.inr z)
    ·have:=hi.frm.size;exact .inr (.inr z7)
 refine hKp _ _ ⟨μ,S2,inv.put o.dst ?_⟩;have h1:Rd μ S' w' v r':=k1.less λi hi' g hg'=>by
  have hib:=hrr i hi';rw[(hpin' i hib).1] at hg';rw[(hg i hib).1];exact hg'
 exact h1.mono (aQ.refl _ _) (λ_ h=>.inr h) (λ_ _ h=>h) (λ_ _ _=>rfl)
theorem oW {s:St} {t:TypeId}:∀{parts:List (Nat×Operand)},(∀q,q∈parts->evS s q.2=evS σ q.2)->lh T s t parts=lh T σ t parts
 | [],_=>rfl
 | (j,o)::r,h=>by
  simp only[lh];rw[h (j,o) y7,oW (λq hq=>h q (by simp[hq]))]
theorem Cm (hT:TabOK P T) {ops:Array Oper} {Q:Exit->Act->World->Prop} {k n:Nat} {acc:fQ} {o:Oper} {l:List Oper} {t:TypeId} {parts:Array (Nat×Operand)} (ho:o.op=.build t parts) {b:Bool} (hg:guardOf ops σ o.guard=some b)
  {p:Prop} {x:AV} (h:iz T σ t parts.toList=some (p,x)) (hp:b=true->p) {y:AV} (hy:(bif b then x else .cnd false x)=y)
  {sk:List Loc×List Loc} (hs:((Sp.mk o.dst y [] (cI ops o.guard++bu σ (parts.toList.map (·.2)))).wr,cI ops o.guard++bu σ (parts.toList.map (·.2)))=sk) (ha:σ.put o.dst y=σ') (hk:aq P C ops Q k n (acc++[sk]) l σ'):aq P C ops Q k n acc (o::l) σ:=by
 refine jE (je (x:=y) (rd:=bu σ (parts.toList.map (·.2))) hg (by
  cases b
  ·exact .inr ⟨x,hy.symm⟩
  ·exact .inl rfl) (λhb s hag=>?_)) rfl (by rw[←hs]) Q5 hk
 subst hb;have hyx:x=y:=hy;subst hyx;have hb2:iz T s t parts.toList=some (p,x):=by
  rw[←h];unfold iz;rw[oW (λq hq=>dP λz hz=>hag z (fH (Z7.2 ⟨q,hq,rfl⟩) z hz))]
 refine di hT o (p:=p) ?_ (hp rfl);rw[ho];simp only[gn,hb2,Option.map_some]
attribute [go_sem] pins fq
end
end Go.Eng
namespace Go.Eng
section
variable {P:Program} {T:Tab} {C:Ctx} {σ σ':St} {Ret:St->Prop} {k:List It} {μ:Nat->Option Nat} {S:Nat->Prop} {a:Act} {w:World}
theorem Rd.rE {v:Value} {id size off len cap:Nat} (h:Rd μ S w v (.exs id size off len cap)):∃g e n,v=.slice (some ⟨g,off*size,none⟩) len cap/\len≤cap/\μ id=some g/\ak w g=some (e,n)/\(off+cap)*size=n:=by
 cases h with
 | pure h=>cases h
 | exs _ _ _ _ _ g e n hc hg hr hn=>exact ⟨g,e,n,rfl,hc,hg,hr,hn⟩
theorem yE (hT:TabOK P T) {o:Oper} {x hi:Operand} {t e:TypeId} (ho:o.op=.slice t x none (some hi) none) (ht:T.und t=.sl e) {id s len h j N:Nat} (hx:evS σ x=(True,.osl id s 0 len)) (hh:evS σ hi=(True,.int .i64 (h:Nat)))
  (hcap:ae σ.hp j=some (.cap id s N)) (hN:h≤N) (h0:0<len) (hs:T.siz e=s) (hs0:s≠0):fe P C o σ (σ.put o.dst (.exs id s 0 h N)):=by
 refine er λμ S a w hi'=>?_
 have hv:=hi'.evS x p7;have hu:=hi'.evS hi Z0;rw[hx] at hv;rw[hh] at hu;obtain ⟨A,cap,hv',hc,hor⟩:=hv.cF;have hu':=hu.aY;have hty:P.underlying t=some (.slice e):=by have:=hT.und t;rw[ht] at this;exact this
 rcases hor with ⟨h1,_⟩ | ⟨g,n,m,h1,hA,h3,h4⟩
 ·omega
 ·obtain ⟨_,g',e',k1,k2⟩:=hi'.hp j _ hcap;rw[k1] at h1;injection h1 with h1;subst h1
  rw[h3] at k2;simp only[Option.some.injEq,Prod.mk.injEq] at k2;have hNc:0+cap=N:=Nat.eq_of_mul_eq_mul_right (Nat.pos_of_ne_zero hs0) (h4.trans k2.2);rw[WT] at hNc;subst hNc;subst hA;have hrun:(Instr.sliceAt t (.slice (some ⟨g',0*s,none⟩) len cap) none (some (.int .i64 (h:Nat))) none).run P w=.ok (.slice (some ⟨g',0*s,none⟩) h cap) w:=by
   have hb:=gO (P:=P) (w:=w) true len cap 0 h none (some (.int .i64 (h:Nat))) (show iu none 0 0 from rfl) (show iu (some (.int .i64 (h:Nat))) len h from ⟨.i64,rfl⟩) (Wg _) z7
   by_cases hc0:cap=0
   ·subst hc0;simp[Instr.sliceAt,Instr.slice,run_underlying hty,hb,bW hT (t:=e) Qe]
   ·simp[Instr.sliceAt,Instr.slice,run_underlying hty,hb,bW hT (t:=e) Qe,hc0,Addr.add]
  refine ⟨.slice (some ⟨g',0*s,none⟩) h cap,?_,.exs id s 0 h cap g' n m z7 k1 h3 h4⟩;have e1:a.eval x=.slice (some ⟨g',0*s,none⟩) len cap:=hv';have e2:a.eval hi=.int .i64 (h:Nat):=hu';simp only[execOp,ho,e1,Option.map_none,Option.map_some,e2,Sem.run_bind,hrun];rfl
theorem tW (hT:TabOK P T) {o:Oper} {x y:Operand} {t e:TypeId} (ho:o.op=.call { callee:=.builtin .append,args:=#[x,y],argTypes:=#[t,t] }) (ht:T.und t=.sl e)
  {id s i j m N e':Nat} {R:List (List AV)} (hx:evS σ x=(True,.exs id s 0 i N)) (hy:evS σ y=(True,.osl id s j m)) (hb:ae σ.hp id=some (.cells e' s R)) (hj:j+m≤R.length) (hij:i+m≤R.length) (hN:i+m≤N)
  (hs:T.siz e=s) (hs0:s≠0) (hrl:rowsOf s R) (hlf':jf ((R.drop j).take m)=true) :
  fe P C o σ (St.put ⟨σ.tm,bD σ.hp id (.cells e' s (bq R i ((R.drop j).take m)))⟩ o.dst (.exs id s 0 (i+m) N)):=by
 subst hs;intro a w K Q ⟨μ,S,hi⟩ hK;have hv:=hi.evS x p7;have hvy:=hi.evS y Qi;rw[hx] at hv;rw[hy] at hvy;have hty:P.underlying t=some (.slice e):=by have:=hT.und t;rw[ht] at this;exact this
 obtain ⟨g,e2,n,hv',hc,hg,h3,h4⟩:=hv.rE;have hrows:((R.drop j).take m).length=m:=by simp;omega
 have hrl':rowsOf (T.siz e) ((R.drop j).take m):=λrow hr=>hrl row (WX (WI hr))
 obtain ⟨vs,hvs⟩:=nW hi (x:=.osl id (T.siz e) j m) (rows:=(R.drop j).take m) (size:=T.siz e) (by simp[gX,hb]) hvy hrl' (λ_ _ _ _ h=>by injection h with _ _ _ h;rw[hrows,h]);have hr:=jR (ty:=o.type) (A:=some ⟨g,0*T.siz e,none⟩) (len:=i) (cap:=N) hT hty hs0 hvs (by rw[hrows];exact hN);rw[hrows] at hr;obtain ⟨w',r1,r2⟩:=nZ (P:=P) hi (off:=i) (new:=(R.drop j).take m) (vs:=vs) hb hg (by rw[hrows];exact hij) hvs.len hrl' (vb hvs hlf') (λi row hi j x hx=>hvs.rd i row hi j x hx);have hfr:(execOp a.eval o).run P w=.ok (.value (.slice (some ⟨g,0*T.siz e,none⟩) (i+m) N)) w':=by
  have e1:a.eval x=.slice (some ⟨g,0*T.siz e,none⟩) i N:=hv';simp only[Nat.zero_mul,add_plain,WT,r1,Result.andThen_ok] at hr;simp only[Nat.zero_mul] at e1 ⊢;simp[execOp,ho,e1,resolve,invoke,builtin,hr]
 have he:evS ⟨σ.tm,bD σ.hp id (.cells e' (T.siz e) (bq R i ((R.drop j).take m)))⟩ x=evS σ x:=by cases x<;>rfl
 have hv2:=r2.evS x (by rw[he,hx];trivial);rw[he,hx] at hv2;obtain ⟨g2,e3,n2,hv3,_,hg2,h5,h6⟩:=hv2.rE;unfold Oper.wp;rw[hfr]
 show K (a.put o.dst _) _
 rw[hg] at hg2;injection hg2 with hg2;subst hg2
 exact hK _ _ ⟨μ,S,Inv.put r2 o.dst (.exs id _ 0 (i+m) N g e3 n2 hN hg h5 h6)⟩
theorem Gj (d:Nat) {id s off len e':Nat} {rows:List (List AV)} {t:Nat} (hx:σ.tm.getD t .any=.osl id s off len) (hb:ae σ.hp id=some (.cells e' s rows)) (h0:0<len) (hs:s≠0) (hf:ae σ.hp d=none)
  (h:∀N:Nat,off+len≤N->rows.length≤N->Cw P C Ret k ⟨σ.tm,(d,.cap id s N)::σ.hp⟩):Cw P C Ret k σ:=by
 intro a w ⟨μ,S,hi⟩;have hlt:t<σ.tm.length:=by
  by_cases h:t<σ.tm.length
  ·exact h
  ·rw[Z1,List.getElem?_eq_none z7] at hx;cases hx
 have hv:=hi.tm t (σ.tm.getD t .any) (by rw[Z1,Z2 hlt];rfl);rw[hx] at hv;obtain ⟨A,cap,hv',hc,hor⟩:=hv.cF
 rcases hor with ⟨h1,_⟩ | ⟨g,n,m,h1,_,h3,h4⟩
 ·omega
 ·have hle:rows.length≤off+cap:=by
   rcases hi.hp id _ hb with ⟨rfl,_⟩ | ⟨g',c,k1,k2,k3,_⟩
   ·simp
   ·rw[k1] at h1;injection h1 with h1;subst h1
    rw[ak,k2] at h3;simp only[Option.some.injEq,Prod.mk.injEq] at h3;exact Nat.le_of_mul_le_mul_right (by rw[h4,←h3.2];exact k3) (Nat.pos_of_ne_zero hs)
  refine h (off+cap) z7 hle a w ⟨μ,S,hi.size,hi.defers,hi.tm,λi b hb'=>?_,λi q hq=>?_,hi.inj,hi.frm,hi.sb⟩
  ·simp only[ae] at hb';split at hb'
   ·rename_i hd;injection hb' with hb'
    subst hd hb';exact ⟨hi.fresh hf,g,n,h1,by rw[h3,h4]⟩
   ·exact hi.hp i b hb'
  ·obtain ⟨⟨b,h1⟩,h2⟩:=hi.dom i q hq;refine ⟨?_,h2⟩;simp only[ae];split
   ·exact ⟨_,rfl⟩
   ·exact ⟨b,h1⟩
theorem yD (hT:TabOK P T) {o:Oper} {x lo hi mx:Operand} {t e:TypeId} (ho:o.op=.slice t x (some lo) (some hi) (some mx)) (ht:T.und t=.sl e) {id s off len l h m:Nat} (hx:evS σ x=(True,.osl id s off len))
  (hl:evS σ lo=(True,.int .i64 (l:Nat))) (hh:evS σ hi=(True,.int .i64 (h:Nat))) (hm:evS σ mx=(True,.int .i64 (m:Nat))) (h1:l≤h) (h2:h≤m) (h3:m≤len) (h0:0<len) (hs:T.siz e=s) (hs0:s≠0):fe P C o σ (σ.put o.dst .any):=by
 refine er λμ S a w hi'=>?_
 have hv:=hi'.evS x p7;have hu1:=hi'.evS lo (by rw[hl];trivial);have hu2:=hi'.evS hi Z0;have hu3:=hi'.evS mx (by rw[hm];trivial);rw[hx] at hv;rw[hl] at hu1;rw[hh] at hu2;rw[hm] at hu3;obtain ⟨A,cap,hv',hc,hor⟩:=hv.cF;have hty:P.underlying t=some (.slice e):=by have:=hT.und t;rw[ht] at this;exact this
 rcases hor with ⟨h1,_⟩ | ⟨g,n,m',k1,hA,k3,k4⟩
 ·omega
 ·subst hA;have hb:(Instr.sliceBounds true len cap (some (.int .i64 (l:Nat))) (some (.int .i64 (h:Nat))) (some (.int .i64 (m:Nat)))).run P w=.ok (l,h,m) w:=by
   simp[Instr.sliceBounds,Instr.sliceBound,asIntOf,h1,h2,show m≤cap by omega]
  have e1:a.eval x=.slice (some ⟨g,off*s,none⟩) len cap:=hv';have e2:a.eval lo=.int .i64 (l:Nat):=hu1.aY;have e3:a.eval hi=.int .i64 (h:Nat):=hu2.aY;have e4:a.eval mx=.int .i64 (m:Nat):=hu3.aY
  by_cases hml:m=l
  ·subst hml;exact ⟨.slice (some ⟨g,off*s,none⟩) (h-m) (m-m),by simp[execOp,ho,e1,e2,e3,e4,Instr.sliceAt,Instr.slice,run_underlying hty,hb,bW hT (t:=e) Qe],.any _⟩
  ·exact ⟨.slice (some (Addr.add ⟨g,off*s,none⟩ (l*T.siz e))) (h-l) (m-l),by simp[execOp,ho,e1,e2,e3,e4,Instr.sliceAt,Instr.slice,run_underlying hty,hb,bW hT (t:=e) Qe,hml],.any _⟩
theorem zT (hT:TabOK P T) {ops:Array Oper} {Q:Exit->Act->World->Prop} {k n:Nat} {acc:fQ} {o:Oper} {L:List Oper} {x hi:Operand} {t e:TypeId} (ho:o.op=.slice t x none (some hi) none) (hgd:o.guard=none) (ht:T.und t=.sl e) {id s len h j N:Nat}
  (hx:evS σ x=(True,.osl id s 0 len)) (hh:evS σ hi=(True,.int .i64 (h:Nat))) (hcap:ae σ.hp j=some (.cap id s N)) (hN:h≤N) (h0:0<len) (hs:T.siz e=s) (hs0:s≠0)
  {sk:List Loc×List Loc} (hsk:((Sp.mk o.dst (.exs id s 0 h N) [] (bu σ [x,hi]++[Loc.blk j])).wr,bu σ [x,hi]++[Loc.blk j])=sk) (ha:σ.put o.dst (.exs id s 0 h N)=σ') (hk:aq P C ops Q k n (acc++[sk]) L σ'):aq P C ops Q k n acc (o::L) σ:=by
 have hgd':guardOf ops σ o.guard=some true:=by rw[hgd];rfl
 have key:=je (P:=P) (C:=C) (o:=o) (ops:=ops) (x:=.exs id s 0 h N) (rd:=bu σ [x,hi]++[Loc.blk j]) hgd' (.inl rfl) (λ_ s' hag=>by
  have h1:evS s' x=evS σ x:=dP λz hz=>hag z (by simp[bu,hz])
  have h2:evS s' hi=evS σ hi:=dP λz hz=>hag z (by simp[bu,hz])
  have h3:ae s'.hp j=ae σ.hp j:=hag (Loc.blk j) y7;exact yE hT ho ht (h1.trans hx) (h2.trans hh) (h3.trans hcap) hN h0 hs hs0)
 have e0:cI ops o.guard=[]:=by rw[hgd];rfl
 rw[e0,List.nil_append] at key;exact jE key rfl (by rw[←hsk]) Q5 hk
theorem we (hT:TabOK P T) {o:Oper} {x lo hi:Operand} {t e:TypeId} (ho:o.op=.slice t x (some lo) (some hi) none) (ht:T.und t=.sl e) {id s len cap l h:Nat} (hx:evS σ x=(True,.exs id s 0 len cap)) (hl:evS σ lo=(True,.int .i64 (l:Nat))) (hh:evS σ hi=(True,.int .i64 (h:Nat)))
  (h1:l<h) (h2:h≤cap) (hs:T.siz e=s) (hs0:s≠0):fe P C o σ (σ.put o.dst (.osl id s l (h-l))):=by
 refine er λμ S a w hi'=>?_
 have hv:=hi'.evS x p7;have hu1:=hi'.evS lo (by rw[hl];trivial);have hu2:=hi'.evS hi Z0;rw[hx] at hv;rw[hl] at hu1;rw[hh] at hu2;obtain ⟨g,n,m,hv',hc,k1,k3,k4⟩:=hv.rE;have hty:P.underlying t=some (.slice e):=by have:=hT.und t;rw[ht] at this;exact this
 have hb:=gO (P:=P) (w:=w) true len cap l h (some (.int .i64 (l:Nat))) (some (.int .i64 (h:Nat))) (show iu (some (.int .i64 (l:Nat))) 0 l from ⟨.i64,rfl⟩) (show iu (some (.int .i64 (h:Nat))) len h from ⟨.i64,rfl⟩) z7 h2;have e1:a.eval x=.slice (some ⟨g,0*s,none⟩) len cap:=hv';have e2:a.eval lo=.int .i64 (l:Nat):=hu1.aY;have e3:a.eval hi=.int .i64 (h:Nat):=hu2.aY;have hcl:cap≠l:=by omega
 refine ⟨.slice (some (Addr.add ⟨g,0*s,none⟩ (l*s))) (h-l) (cap-l),by simp[execOp,ho,e1,e2,e3,Instr.sliceAt,Instr.slice,run_underlying hty,hb,bW hT (t:=e) Qe,hs,hcl],?_⟩;refine .osl id s l (h-l) (cap-l) _ z7 (.inr ⟨g,n,m,k1,by rw[add_plain,Nat.zero_mul,WT],k3,?_⟩);rw[←k4]
 congr 1;omega
theorem EX {o:Oper} {x y:Operand} {ts:Array TypeId} (ho:o.op=.call { callee:=.builtin .max,args:=#[x,y],argTypes:=ts }) {k k':IntKind} {n m:Int} (hx:evS σ x=(True,.int k n)) (hy:evS σ y=(True,.int k' m)) :
  fe P C o σ (σ.put o.dst (.int k (if m>n then m else n))):=by
 refine er λμ S a w hi'=>?_
 have hv:=hi'.evS x p7;have hu:=hi'.evS y Qi;rw[hx] at hv;rw[hy] at hu;have e1:a.eval x=.int k n:=hv.aY;have e2:a.eval y=.int k' m:=hu.aY;exact ⟨_,by simp[execOp,ho,e1,e2,resolve,invoke,builtin,run_max_int2],.pure (.int _ _)⟩
theorem vU {ops:Array Oper} {Q:Exit->Act->World->Prop} {k n:Nat} {acc:fQ} {o:Oper} {L:List Oper} {x y:Operand} {ts:Array TypeId} (ho:o.op=.call { callee:=.builtin .max,args:=#[x,y],argTypes:=ts }) (hgd:o.guard=none) {q q':IntKind} {u v:Int}
  (hx:evS σ x=(True,.int q u)) (hy:evS σ y=(True,.int q' v))
  {sk:List Loc×List Loc} (hsk:((Sp.mk o.dst (.int q (if v>u then v else u)) [] (bu σ [x,y])).wr,bu σ [x,y])=sk) (ha:σ.put o.dst (.int q (if v>u then v else u))=σ') (hk:aq P C ops Q k n (acc++[sk]) L σ'):aq P C ops Q k n acc (o::L) σ:=by
 have hgd':guardOf ops σ o.guard=some true:=by rw[hgd];rfl
 have key:=je (P:=P) (C:=C) (o:=o) (ops:=ops) (x:=.int q (if v>u then v else u)) (rd:=bu σ [x,y]) hgd' (.inl rfl) (λ_ s' hag=>by
  have h1:evS s' x=evS σ x:=dP λz hz=>hag z (by simp[bu,hz])
  have h2:evS s' y=evS σ y:=dP λz hz=>hag z (by simp[bu,hz])
  exact EX ho (h1.trans hx) (h2.trans hy))
 have e0:cI ops o.guard=[]:=by rw[hgd];rfl
 rw[e0,List.nil_append] at key;exact jE key rfl (by rw[←hsk]) Q5 hk
theorem D5 (t:Nat) {id s off len cap:Nat} (h:σ.tm.getD t .any=.exs id s off len cap):Le C σ ⟨σ.tm.set t (.osl id s off len),σ.hp⟩:=by
 intro a w ⟨μ,S,hi⟩;refine ⟨μ,S,by simpa using hi.size,hi.defers,λu x hx=>?_,hi.hp,hi.dom,hi.inj,hi.frm,hi.sb⟩;rw[Wl] at hx;split at hx
 ·rename_i e;subst e;split at hx
  ·rename_i hlt;injection hx with hx
   subst hx;have:=hi.tm t (σ.tm.getD t .any) (by rw[Z1,Z2 hlt];rfl);rw[h] at this;obtain ⟨g,e,n,h1,h2,h3,h4,h5⟩:=this.rE;rw[h1];exact .osl id s off len cap _ h2 (.inr ⟨g,e,n,h3,rfl,h4,h5⟩)
  ·cases hx
 ·exact hi.tm u x hx
end
end Go.Eng
namespace Go.Eng
def G8 (f:Nat->Nat) (e:Edge):Edge:=⟨f e.on,e.ground⟩
section
variable {P:Program} {C:Ctx} {σ σ':St}
def ve (id s:Nat):AV->AV
 | .nils=>.osl id s 0 0
 | x=>x
theorem Aq (id s:Nat) (x:AV):wk x (ve id s x):=by
 cases x
 case nils=>exact .inr (.inr ⟨rfl,.inr ⟨id,s,0,rfl⟩⟩)
 all_goals exact .inr (.inl rfl)
theorem A2 (id' s' id:Nat) {e s:Nat} {rows rows':List (List AV)} (hb:ae σ.hp id=some (.cells e s rows)) (hr:rows.map (λrow=>row.map (ve id' s'))=rows'):Le C σ ⟨σ.tm,bD σ.hp id (.cells e s rows')⟩:=by
 subst hr;rintro a w ⟨μ,S,hi⟩;refine ⟨μ,S,hi.size,hi.defers,hi.tm,λi b hb'=>?_,λi q hq=>?_,hi.inj,hi.frm,hi.sb⟩
 ·simp only[aF] at hb';split at hb'
  ·rename_i h1;injection hb' with hb'
   subst h1 hb'
   rcases hi.hp id _ hb with ⟨rfl,k2⟩ | ⟨g,c,k1,k2,k3,k4,k5⟩
   ·exact .inl ⟨by simp,k2⟩
   ·refine .inr ⟨g,c,k1,k2,by rw[List.length_map];exact k3,λrow hrow=>?_,λi row hi' q x hx=>?_⟩
    ·obtain ⟨r0,h0,rfl⟩:=Z7.1 hrow;rw[List.length_map];exact k4 r0 h0
    ·rw[Z5] at hi';cases e0:rows[i]? with
     | none=>rw[e0] at hi';cases hi'
     | some r0=>
      rw[e0] at hi';simp only[Option.map_some,Option.some.injEq] at hi';subst hi';rw[Z5] at hx;cases e1:r0[q]? with
      | none=>rw[e1] at hx;cases hx
      | some y=>
       rw[e1] at hx;simp only[Option.map_some,Option.some.injEq] at hx;subst hx;exact (k5 i r0 e0 q y e1).wk (Aq id' s' y)
  ·exact hi.hp i b hb'
 ·obtain ⟨⟨b,h1⟩,h2⟩:=hi.dom i q hq;refine ⟨?_,h2⟩;simp only[aF];split
  ·exact ⟨_,rfl⟩
  ·exact ⟨b,h1⟩
theorem jr {ops:Array Oper} {Q:Exit->Act->World->Prop} {k:Nat} (h:Le C σ σ') (hk:cw P C ops Q k σ'):cw P C ops Q k σ:=λa w hr=>hk a w (h a w hr)
end
attribute [go_sem] ve
end Go.Eng
