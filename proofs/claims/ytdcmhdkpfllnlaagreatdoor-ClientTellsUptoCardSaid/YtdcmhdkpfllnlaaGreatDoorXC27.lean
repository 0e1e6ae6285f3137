/- Texts of this claim, part 27: SLay, SortW, SortX, TreeK, CU, CKeepH, ShelfN, Sh, NSplit, CGo. No condition. -/
import Derived.Shelf.SlSortCmp.InsertionK
import Derived.Shelf.SlicesG.Cmp
import Derived.Test.YtdcmhdkpfllnlaaGreatDoorProg
import Derived.Test.YtdcmhdkpfllnlaaGreatDoorXC17
import Derived.Shelf.SlSortCmp.WholeK
import Derived.Test.YtdcmhdkpfllnlaaGreatDoorXC7
import Derived.Test.YtdcmhdkpfllnlaaGreatDoorXC18
import Derived.Test.YtdcmhdkpfllnlaaGreatDoorXC8
import Derived.Test.YtdcmhdkpfllnlaaGreatDoorXC20
import Derived.Test.YtdcmhdkpfllnlaaGreatDoorXC26
import Derived.Shelf.Strings.Split
import Derived.Test.YtdcmhdkpfllnlaaGreatDoorXC6
import Derived.Test.YtdcmhdkpfllnlaaGreatDoorXC10
import Derived.Test.YtdcmhdkpfllnlaaGreatDoorXC9
import Derived.Test.YtdcmhdkpfllnlaaGreatDoorXC12
set_option maxRecDepth 10000
set_option maxHeartbeats 4000000
set_option linter.unusedSimpArgs false
set_option linter.unusedVariables false
namespace Go.Proofs
open Go.Shelf
def Tryz.B3:Go.Shelf.Ren:=⟨λ| 6=>98 | 15=>138 | 14=>137 | 28=>174 | 29=>175 | 20=>166 | 21=>167 | 22=>168 | 23=>169 | 24=>170 | 25=>171 | 26=>172 | 27=>173 | 46=>195 | 47=>196 | 48=>197 | 49=>198 | 50=>199 | 57=>213 | n=>n,λ| 22=>27 | 24=>62 | 25=>166 | 3=>3 | 39=>204 | 0=>0 | 53=>239 | 55=>241 | 4=>4 | 46=>233 | 45=>232 | 50=>111 | 5=>5 | 9=>9 | 66=>256 | 70=>260 | 76=>267 | 77=>91 | n=>n,λ| n=>n⟩
theorem Tryz.jY:Go.Proofs.SlLaysF0.n6 Tryz.prog Tryz.B3:={
 mixed:=by kernel_rfl
 f6:=⟨Tryz.f98.name,by decide,Tryz.func98.trans (congrArg some w4)⟩
 f14:=⟨Tryz.f137.name,by decide,Tryz.func137.trans (congrArg some w4)⟩
 f15:=Tryz.func138.trans (congrArg some w4)
 f20:=⟨Tryz.f166.name,by decide,Tryz.func166.trans (congrArg some w4)⟩
 f21:=⟨Tryz.f167.name,by decide,Tryz.func167.trans (congrArg some w4)⟩
 f22:=⟨Tryz.f168.name,by decide,Tryz.func168.trans (congrArg some w4)⟩
 f23:=⟨Tryz.f169.name,by decide,Tryz.func169.trans (congrArg some w4)⟩
 f24:=⟨Tryz.f170.name,by decide,Tryz.func170.trans (congrArg some w4)⟩
 f25:=⟨Tryz.f171.name,by decide,Tryz.func171.trans (congrArg some w4)⟩
 f26:=⟨Tryz.f172.name,by decide,Tryz.func172.trans (congrArg some w4)⟩
 f27:=⟨Tryz.f173.name,by decide,Tryz.func173.trans (congrArg some w4)⟩
 f28:=Tryz.func174.trans (congrArg some w4)
 f29:=Tryz.func175.trans (congrArg some w4)
 f46:=⟨Tryz.f195.name,by decide,Tryz.func195.trans (congrArg some w4)⟩
 f47:=Tryz.func196.trans (congrArg some w4)
 f48:=Tryz.func197.trans (congrArg some w4)
 f49:=⟨Tryz.f198.name,by decide,Tryz.func198.trans (congrArg some w4)⟩
 f50:=⟨Tryz.f199.name,by decide,Tryz.func199.trans (congrArg some w4)⟩
 f57:=⟨Tryz.f213.name,by decide,Tryz.func213.trans (congrArg some w4)⟩
 t0:=Tryz.underlying0
 a0:=Tryz.isAgg0
 z0:=Tryz.sizeOf0
 v0:=Tryz.zeroValue0
 t3:=Tryz.underlying3
 a3:=Tryz.isAgg3
 z3:=Tryz.sizeOf3
 v3:=Tryz.zeroValue3
 t4:=Tryz.underlying4
 a4:=Tryz.isAgg4
 z4:=Tryz.sizeOf4
 v4:=Tryz.zeroValue4
 t5:=Tryz.underlying5
 a5:=Tryz.isAgg5
 z5:=Tryz.sizeOf5
 v5:=Tryz.zeroValue5
 t9:=Tryz.underlying9
 a9:=Tryz.isAgg9
 z9:=Tryz.sizeOf9
 v9:=Tryz.zeroValue9
 t22:=Tryz.underlying27
 a22:=Tryz.isAgg27
 z22:=Tryz.sizeOf27
 v22:=Tryz.zeroValue27
 t25:=Tryz.underlying166
 a25:=Tryz.isAgg166
 z25:=Tryz.sizeOf166
 v25:=Tryz.zeroValue166
 t39:=Tryz.underlying204
 a39:=Tryz.isAgg204
 z39:=Tryz.sizeOf204
 v39:=Tryz.zeroValue204
 t45:=Tryz.underlying232
 a45:=Tryz.isAgg232
 z45:=Tryz.sizeOf232
 v45:=Tryz.zeroValue232
 t46:=Tryz.underlying233
 a46:=Tryz.isAgg233
 z46:=Tryz.sizeOf233
 v46:=Tryz.zeroValue233
 t50:=Tryz.underlying111
 a50:=Tryz.isAgg111
 z50:=Tryz.sizeOf111
 v50:=Tryz.zeroValue111
 t53:=Tryz.underlying239
 a53:=Tryz.isAgg239
 z53:=Tryz.sizeOf239
 v53:=Tryz.zeroValue239
 t55:=Tryz.underlying241
 a55:=Tryz.isAgg241
 z55:=Tryz.sizeOf241
 v55:=Tryz.zeroValue241
 t66:=Tryz.underlying256
 a66:=Tryz.isAgg256
 z66:=Tryz.sizeOf256
 v66:=Tryz.zeroValue256
 t70:=Tryz.underlying260
 a70:=Tryz.isAgg260
 z70:=Tryz.sizeOf260
 v70:=Tryz.zeroValue260
 t76:=Tryz.underlying267
 a76:=Tryz.isAgg267
 z76:=Tryz.sizeOf267
 v76:=Tryz.zeroValue267
 t77:=Tryz.underlying91
 a77:=Tryz.isAgg91
 z77:=Tryz.sizeOf91
 v77:=Tryz.zeroValue91 }
def Tryz.CD:Go.Shelf.Ren:=⟨λ| 5=>100 | 7=>139 | n=>n,λ| 22=>3 | 3=>3 | 4=>4 | n=>n,λ| n=>n⟩
theorem Tryz.iB:Go.Proofs.SlLaysC2.n5 Tryz.prog Tryz.CD:={
 mixed:=by kernel_rfl
 f5:=⟨Tryz.f100.name,by decide,Tryz.func100.trans (congrArg some w4)⟩
 f7:=⟨Tryz.f139.name,by decide,Tryz.func139.trans (congrArg some w4)⟩
 t3:=Tryz.underlying3
 a3:=Tryz.isAgg3
 z3:=Tryz.sizeOf3
 v3:=Tryz.zeroValue3
 t4:=Tryz.underlying4
 a4:=Tryz.isAgg4
 z4:=Tryz.sizeOf4
 v4:=Tryz.zeroValue4
 t22:=Tryz.underlying3
 a22:=Tryz.isAgg3
 z22:=Tryz.sizeOf3
 v22:=Tryz.zeroValue3 }
end Go.Proofs
namespace La
open Go Go.Eng Go.Proofs
structure Five where
 fid:Int
 rest:List Value
 len:rest.length=4
 one:∀v∈rest,v.oneCell'=true
instance:Inhabited Five:=⟨⟨0,[.bool false,.bool false,.bool false,.bool false],rfl,by simp[Value.oneCell']⟩⟩
def Five.enc (x:Five):List Value:=.int .i64 x.fid::x.rest
theorem Five.Au (x:Five):x.enc.length=5:=by unfold Five.enc;rw[List.length_cons,x.len]
theorem Five.Fb (x:Five):∀v∈x.enc,v.oneCell'=true:=by
 intro v hv
 rcases List.mem_cons.1 hv with rfl | hv
 ·rfl
 ·exact x.one v hv
def rn (x y:Five):Int:=Lib.compareInt x.fid y.fid
theorem uT (x y:Five):ltOf rn x y=decide (x.fid<y.fid):=by
 unfold ltOf rn Lib.compareInt
 by_cases h1:x.fid<y.fid
 ·simp[h1]
 ·by_cases h2:y.fid<x.fid<;>simp[h1,h2]
theorem Ga:Sort.SWO (ltOf rn) where
 irrefl x:=by rw[uT];simp
 trans x y z h1 h2:=by rw[uT] at *;simp at *;omega
 ntrans x y z h1 h2:=by rw[uT] at *;simp at *;omega
theorem yG (a b:Int) (a1 a2 a3 a4 b1 b2 b3 b4:Value) (W:World) :
  Calls Tryz.prog 99 #[.agg #[.int .i64 a,a1,a2,a3,a4],.agg #[.int .i64 b,b1,b2,b3,b4]] W λe w'=>e=.returned (.int .i64 (Lib.compareInt a b))/\∃q os',w'=Sort.grow (W.drewN q) os':=by
 have hcon:=λW'=>AnyG.cmp_Compare_int Tryz.iB a b W'
 change ∀W',Calls Tryz.prog 100 _ _ _ at hcon
 generalize Lib.compareInt a b=r at hcon ⊢
 go_enter Tryz.func99,Tryz.ntmps99
 go_wp2_with (go_at_call 100;refine (hcon _).mono ?_;rintro e w' ⟨rfl,rfl⟩)
 go_ret
 exact ⟨rfl,0,_,by rw[Sort.alloc_eq_grow,Sort.alloc_eq_grow,Sort.grow_grow];rfl⟩
theorem E1 (blk off size:Nat) (w:World):CmpLays Tryz.prog 99 #[] Five.enc 5 rn blk off size w:=by
 intro m os dk _ x y;obtain ⟨a,l,hl,_⟩:=x;obtain ⟨b,l',hl',_⟩:=y;obtain ⟨a1,a2,a3,a4,rfl⟩:∃a1 a2 a3 a4,l=[a1,a2,a3,a4]:=by
  match l,hl with
  | [a1,a2,a3,a4],_=>exact ⟨a1,a2,a3,a4,rfl⟩
 obtain ⟨b1,b2,b3,b4,rfl⟩:∃b1 b2 b3 b4,l'=[b1,b2,b3,b4]:=by
  match l',hl' with
  | [a1,a2,a3,a4],_=>exact ⟨a1,a2,a3,a4,rfl⟩
 exact yG a b a1 a2 a3 a4 b1 b2 b3 b4 _
theorem Bo {α β:Type} {f:β->α} {d' d:List α} (h:d'.Perm d):∀z:List β,z.map f=d->∃z':List β,z'.Perm z/\z'.map f=d':=by
 induction h with
 | nil=>intro z hz;exact ⟨z,.refl _,hz⟩
 | cons x _ ih=>
  intro z hz;obtain ⟨q,z0,rfl,rfl,hz0⟩:=List.map_eq_cons_iff.1 hz;obtain ⟨z',h1,h2⟩:=ih z0 hz0;exact ⟨q::z',h1.cons q,by simp[h2]⟩
 | swap x y l=>
  intro z hz;obtain ⟨q,z0,rfl,rfl,hz0⟩:=List.map_eq_cons_iff.1 hz;obtain ⟨q2,z1,rfl,rfl,hz1⟩:=List.map_eq_cons_iff.1 hz0;exact ⟨q2::q::z1,.swap _ _ _,by simp[hz1]⟩
 | trans _ _ ih1 ih2=>
  intro z hz;obtain ⟨z1,h1,h2⟩:=ih2 z hz;obtain ⟨z2,h3,h4⟩:=ih1 z1 h2;exact ⟨z2,h3.trans h1,h4⟩
theorem Fc {S:Nat->Prop} {w:World} (f:Nat->Value) (n:Node) (h:∀j a,(ZN n)[j]? = some a->RdP S w (f j) a) :
  ∃x:Five,x.fid=n.fid/\x.enc=[f 0,f 1,f 2,f 3,f 4]:=by
 have h0:=h 0 _ rfl;have h1:=h 1 _ rfl;have h2:=h 2 _ rfl;have h3:=h 3 _ rfl;have h4:=h 4 _ rfl;have o1:(f 1).oneCell'=true:=by generalize f 1=v at h1;cases h1;rfl
 have o2:(f 2).oneCell'=true:=by generalize f 2=v at h2;cases h2;rfl
 have o3:(f 3).oneCell'=true:=by generalize f 3=v at h3;cases h3;rfl
 have o4:(f 4).oneCell'=true:=by generalize f 4=v at h4;cases h4;rfl
 refine ⟨⟨n.fid,[f 1,f 2,f 3,f 4],rfl,?_⟩,rfl,?_⟩
 ·intro v hv;simp at hv
  rcases hv with rfl | rfl | rfl | rfl<;>assumption
 ·unfold Five.enc;have:f 0=.int .i64 n.fid:=by generalize f 0=v at h0;cases h0;rfl
  rw[this]
theorem FQ {μ:Nat->Option Nat} {S:Nat->Prop} {w:World} {v:Value} {n:Node} {j:Nat} {a:AV} (ha:(ZN n)[j]? = some a) (h:Rd μ S w v a):RdP S w v a:=by
 have hj:j<5:=by
  have:=(List.getElem?_eq_some_iff.1 ha).1
  rwa [i_] at this
 match j,hj,ha with
 | 0,_,ha=>cases ha;cases h;assumption
 | 1,_,ha=>cases ha;cases h;assumption
 | 2,_,ha=>cases ha;cases h;assumption
 | 3,_,ha=>cases ha;cases h;assumption
 | 4,_,ha=>cases ha;cases h;assumption
theorem B4 (id:Nat) (hid:id<5000) (G Y N:Nat->Nat) (l l':List Node) (h0:0<l.length) (hlen:l.length≤100000000)
  (hu:∀p:List Node,p.Perm l->p.Pairwise (λa b=>a.fid≤b.fid)->p=l') :
  ae Tryz.prog 98 [.osl id 5 0 l.length,.fn 99 []] ([(id,.cells 62 5 (l.map ZN))]++pins [id] G Y N) (λr H=>r=.tup []/\∀i b,aa ([(id,.cells 62 5 (l'.map ZN))]++pins [id] G Y N) i=some b->aa H i=some b):=by
 intro R0 μ w0 vs hvl hargs hH hR;obtain ⟨v0,v1,rfl⟩:∃v0 v1,vs=[v0,v1]:=by
  match vs,hvl with
  | [a,b],_=>exact ⟨a,b,rfl⟩
 have hv0:Rd μ R0 w0 v0 (.osl id 5 0 l.length):=hargs 0 _ rfl;have hv1:Rd μ R0 w0 v1 (.fn 99 []):=hargs 1 _ rfl;clear hargs hvl;have e1:v1=.func (.func 99) #[] #[]:=by
  cases hv1 with
  | pure h=>
   cases h with
   | fn f vals caps hl hr=>
    have:vals=#[]:=Array.eq_empty_of_size_eq_zero Qg;rw[this]
  | fn f vals caps hl hr=>
   have:vals=#[]:=Array.eq_empty_of_size_eq_zero Qg;rw[this]
 subst e1;have hget1:∀(R:List (List AV)) id' b,aa ([(id,Blk.cells 62 5 R)]++pins [id] G Y N) id'=some b->(id'=id/\b=.cells 62 5 R)\/(id'=5000+id/\b=.pin id (G id) (Y id) (N id)):=by
  intro R id' b h
  by_cases h1:id'=id
  ·subst h1;simp[aa,pins] at h;exact .inl ⟨rfl,h.symm⟩
  ·by_cases h2:id'=5000+id
   ·subst h2;simp[aa,pins] at h;exact .inr ⟨rfl,h.symm⟩
   ·simp[aa,pins,Ne.symm h1,Ne.symm h2] at h
 have hget2:∀(R:List (List AV)),aa ([(id,Blk.cells 62 5 R)]++pins [id] G Y N) id=some (.cells 62 5 R):=by
  intro R;simp[aa]
 have hget3:∀(R:List (List AV)),aa ([(id,Blk.cells 62 5 R)]++pins [id] G Y N) (5000+id)=some (.pin id (G id) (Y id) (N id)):=by
  intro R;simp[aa,pins]
 have hb:=hH.blk id _ (hget2 _);have hpin:=hH.blk (5000+id) _ (hget3 _)
 rcases hb with ⟨hb,_⟩ | ⟨g,c,hg,hgw,hsz,_,hrd⟩
 ·simp at hb;subst hb;simp at h0
 have hv0':∃cap,v0=.slice (some ⟨g,0,none⟩) l.length cap:=by
  cases hv0 with
  | pure h=>cases h
  | osl id size off len cap A hc h=>
   rcases h with ⟨h,_⟩ | ⟨g',e,n,hg',rfl,_,_⟩
   ·omega
   ·rw[hg] at hg';injection hg' with hg';subst hg'
    exact ⟨cap,by simp⟩
 obtain ⟨cap,rfl⟩:=hv0';clear hv0 hv1;have hgd:=hH.dom id g hg;simp only[List.length_map] at hsz
 -- the five cells of each
 have hF:∀i:Fin l.length,∃x:Five,x.fid=l[i].fid/\x.enc=[c.getD (i.1*5+0) undef,c.getD (i.1*5+1) undef,c.getD (i.1*5+2) undef,c.getD (i.1*5+3) undef,c.getD (i.1*5+4) undef] /\
   ∀j a,(ZN l[i])[j]? = some a->RdP R0 w0 (x.enc.getD j undef) a:=by
  intro i;have hk:∀j a,(ZN l[i])[j]? = some a->RdP R0 w0 (c.getD (i.1*5+j) undef) a:=λj a ha=>
   FQ ha (hrd i.1 (ZN l[i]) y8 j a ha)
  obtain ⟨x,hx,hxe⟩:=Fc (λj=>c.getD (i.1*5+j) undef) l[i] hk;refine ⟨x,hx,hxe,λj a ha=>?_⟩;have hj:j<5:=by
   have:=(List.getElem?_eq_some_iff.1 ha).1
   rwa [i_] at this
  have:=hk j a ha;rw[hxe]
  match j,hj,this with
  | 0,_,h=>exact h
  | 1,_,h=>exact h
  | 2,_,h=>exact h
  | 3,_,h=>exact h
  | 4,_,h=>exact h
 obtain ⟨F,hF⟩:=Classical.axiomOfChoice hF;have hds:(Array.ofFn F).size=l.length:=Array.size_ofFn;have hdg:∀i (hi:i<l.length),(Array.ofFn F)[i]! = F ⟨i,hi⟩:=λi hi=>by
  rw[getElem!_pos _ i (by rw[hds];exact hi),Array.getElem_ofFn]
 generalize hd:Array.ofFn F=d at hds hdg;have hold:Sort.HoldsK Five.enc 5 w0 g 0 d:=by
  intro t ht;rw[Sort.size_flatK,hds] at ht;have hi:t / 5<l.length:=by omega
  have hc:t<c.size:=by omega
  have e:t=t / 5*5+t % 5:=by omega
  rw[Sort.get_flatK _ _ _ _ (by rw[hds];exact ht),hdg _ hi,(hF ⟨t / 5,hi⟩).2.1,Nat.zero_add];constructor
  ·have:w0.cell? ⟨g,t,none⟩=some (c.getD t undef):=by
    simp[World.cell?,hgw,hc]
   rw[this];have hm:t % 5<5:=Nat.mod_lt _ z8;generalize t % 5=m at e hm;simp only
   match m,hm with
   | 0,_=>rw[←e];rfl
   | 1,_=>rw[←e];rfl
   | 2,_=>rw[←e];rfl
   | 3,_=>rw[←e];rfl
   | 4,_=>rw[←e];rfl
  ·simp[World.frozen?,hgw]
 have eg:∀args w,(callFunc 99 args).run Tryz.prog w=.ok (.enter 99 args) w:=enters_of Tryz.func99 w4 rfl;have hcon:=AnyQ.slices_SortFunc Tryz.jY 5 Tryz.isAgg62 Tryz.sizeOf62 Five.enc Five.Au Five.Fb rn Ga 99 #[] g 0 cap d w0 eg (E1 g 0 d.size w0) hold hgd.2.2 (by rw[hds];omega);rw[hds] at hcon;refine hcon.mono ?_;rintro e W ⟨rfl,d',n,os,hp,hs,hW⟩;have hps:d'.size=l.length:=hp.1.trans hds
 -- the world behind it
 have hWh:W.heap=(w0.heap.modify g (Sort.onCells (Sort.putCells (λv=>v) 0 (Sort.flatK Five.enc 5 d'))))++os:=by rw[hW];rfl
 have hout:∀b,b<w0.heap.size->b≠g->W.heap[b]? = w0.heap[b]?:=λb hb hne=>by
  rw[hWh,Array.getElem?_append_left (by simpa using hb),Array.getElem?_modify,if_neg (Ne.symm hne)]
 have hin:W.heap[g]? = some (.cells (Sort.putCells (λv=>v) 0 (Sort.flatK Five.enc 5 d') c) 62 (0,0)):=by
  rw[hWh,Array.getElem?_append_left (by simpa using hgd.2.2),Array.getElem?_modify,if_pos rfl,hgw];rfl
 have hcs:(Sort.putCells (λv=>v) 0 (Sort.flatK Five.enc 5 d') c).size=c.size:=by simp[Sort.putCells]
 have hwsz:w0.heap.size≤W.heap.size:=by rw[hWh];simp
 -- the nodes behind it
 have hz1:(List.ofFn λi:Fin l.length=>(F i,l[i.1]'i.2)).map (·.1)=d.toList:=by
  rw[←hd,Array.toList_ofFn,List.map_ofFn];rfl
 have hz2:(List.ofFn λi:Fin l.length=>(F i,l[i.1]'i.2)).map (·.2)=l:=by
  rw[List.map_ofFn];refine List.ext_getElem y8 λi h1 h2=>by simp
 have hzQ:∀q∈(List.ofFn λi:Fin l.length=>(F i,l[i.1]'i.2)),q.1.fid=q.2.fid/\∀j a,(ZN q.2)[j]? = some a->RdP R0 w0 (q.1.enc.getD j undef) a:=by
  intro q hq;obtain ⟨i,rfl⟩:=List.mem_ofFn.1 hq;exact ⟨(hF i).1,(hF i).2.2⟩
 generalize (List.ofFn λi:Fin l.length=>(F i,l[i.1]'i.2))=z at hz1 hz2 hzQ;have hperm:d'.toList.Perm d.toList:=by
  have:=hp.2.2;have a1:d'.extract 0 l.length=d':=by rw[←hps];simp
  have a2:d.extract 0 l.length=d:=by rw[←hds];simp
  rwa [a1,a2] at this
 obtain ⟨z',hzp,hz'⟩:=Bo hperm z hz1;have hzl:z'.length=l.length:=by rw[hzp.length_eq,←hz2,List.length_map]
 have hzi:∀i (hi:i<z'.length),d'[i]! = (z'[i]).1:=λi hi=>by
  have:d'.toList[i]? = some (z'[i]).1:=by rw[←hz',List.getElem?_map,List.getElem?_eq_getElem hi];rfl
  rw[getElem!_pos _ i (by rw[hps];omega)];rw[Array.getElem?_toList] at this;rw[Array.getElem?_eq_getElem (by rw[hps];omega)] at this;injection this
 have hQ':∀q∈z',q.1.fid=q.2.fid/\∀j a,(ZN q.2)[j]? = some a->RdP R0 w0 (q.1.enc.getD j undef) a:=λq hq=>hzQ q (hzp.mem_iff.1 hq)
 have hpl:z'.map (·.2)=l':=by
  refine hu _ (by rw[←hz2];exact hzp.map _) ?_;rw[List.pairwise_iff_getElem];intro i j hi hj hij;simp only[List.length_map] at hi hj;simp only[List.getElem_map];have:=hs i j (Nat.zero_le _) hij z8;rw[uT,hzi i hi,hzi j hj,(hQ' _ (List.getElem_mem hi)).1,(hQ' _ (List.getElem_mem hj)).1] at this;simpa using this
 have hl':l'.length=l.length:=by rw[←hpl,List.length_map,hzl]
 have hne:∀b,R0 b->b≠g:=λb hb e=>hgd.2.1 (e▸hb)
 have hsame:aJ R0 w0 W:=λb hb=>hout b (hR b hb) (hne b hb)
 refine ⟨_,.tup [],[(id,.cells 62 5 (l'.map ZN))]++pins [id] G Y N,μ,R0,rfl,⟨rfl,λ_ _ h=>h⟩,.tup #[] [] rfl y8,⟨?_,?_,hH.inj,?_⟩,?_,λid' g' h=>.inl ⟨id',h⟩,λb hb=>⟨Nat.lt_of_lt_of_le (hR b hb) hwsz,.inl hb⟩⟩
 ·intro id' b h
  rcases hget1 _ id' b h with ⟨rfl,rfl⟩ | ⟨rfl,rfl⟩
  rotate_left
  ·obtain ⟨q1,q2,q3⟩:=hpin;refine ⟨q1,q2,?_⟩;rw[←q3];have hgg:g=G id:=by rw[hg] at q2;injection q2
   rw[←hgg];unfold ah;rw[hin,hgw];simp only[hcs]
  refine .inr ⟨g,_,hg,hin,by rw[hcs,List.length_map,hl'];exact hsz,λrow hrow=>?_,?_⟩
  ·obtain ⟨n,_,rfl⟩:=List.mem_map.1 hrow;rfl
  ·intro i row hrow j x hx;obtain ⟨n,hn,rfl⟩:=List.getElem?_map ..▸hrow |> Option.map_eq_some_iff.1
   have hj:j<5:=by
    have:=(List.getElem?_eq_some_iff.1 hx).1
    rwa [i_] at this
   have hi:i<l'.length:=(List.getElem?_eq_some_iff.1 hn).1;have hiz:i<z'.length:=by omega
   have hnz:(z'[i]).2=n:=by
    rw[←hpl,List.getElem?_map,List.getElem?_eq_getElem hiz] at hn;injection hn
   have hq:=(hQ' _ (List.getElem_mem hiz)).2 j x (by rw[hnz];exact hx);have hval:(Sort.putCells (λv=>v) 0 (Sort.flatK Five.enc 5 d') c).getD (i*5+j) undef=(z'[i]).1.enc.getD j undef:=by
    have hlt:i*5+j<c.size:=by omega
    have hlt2:i*5+j<d'.size*5:=by rw[hps];omega
    rw[Array.getD_eq_getD_getElem?];simp only[Sort.putCells,Array.getElem?_mapIdx,Array.getElem?_eq_getElem hlt,Option.map_some,Option.getD_some,Nat.sub_zero,Sort.size_flatK];rw[if_pos ⟨Nat.zero_le _,by omega⟩,Sort.get_flatK _ _ _ _ hlt2];have q1:(i*5+j) / 5=i:=by omega
    have q2:(i*5+j) % 5=j:=by omega
    rw[q1,q2,hzi i hiz];have hel:=Five.Au (z'[i]).1;rw[getElem!_pos _ j z8,List.getD_eq_getElem?_getD,List.getElem?_eq_getElem z8];rfl
   rw[hval];exact .pure (hq.mono hsame λ_ h=>h)
 ·intro id' g' h;have:=hH.dom id' g' h;obtain ⟨⟨b,hb⟩,h2,h3⟩:=this
  rcases hget1 _ id' b hb with ⟨he,_⟩ | ⟨he,_⟩
  ·exact ⟨⟨_,by rw[he];exact hget2 _⟩,h2,Nat.lt_of_lt_of_le h3 hwsz⟩
  ·rw[he,hpin.1] at h;cases h
 ·exact ⟨λb hb=>⟨Nat.lt_of_lt_of_le (hH.glob.1 b hb).1 hwsz,(hH.glob.1 b hb).2⟩,glb.same w0 W (λb hb=>hout b (hH.glob.1 b hb).1 (λe=>(hH.glob.1 b hb).2 ⟨id,e▸hg⟩)) hH.glob.2⟩
 ·exact ⟨by rw[hW];rfl,by rw[hW];rfl,by rw[hW];rfl,hwsz,λb hb hA=>hout b hb (λe=>hA ⟨id,e▸hg⟩)⟩
theorem y_:ae Tryz.prog 175 [.int .u64 0] [] (λr _=>r=.int .i64 0):=by
 refine ZF tK (Tryz.func175) rfl (λC=>?_);simp only[Tryz.ntmps175,Tryz.results175,go_sem];refine wG tK ?_;refine wDF (hb:=y8) (hk:=?_);refine wG tK ?_;refine wDF (hb:=y8) (hk:=?_);refine wG tK ?_;refine wDF (hb:=y8) (hk:=?_);refine wR ?_;refine wN tK 3 ?_;refine wNq tK 1 ?_ ?_
 ·decide
 refine wG tK ?_;refine wT ?_;rfl
theorem Dj:ae Tryz.prog 138 [.int .u64 0] [] (λr _=>r=.int .i64 0):=by
 refine ZF tK (Tryz.func138) rfl (λC=>?_);simp only[Tryz.ntmps138,Tryz.results138,go_sem];refine wG tK ?_;refine wDF (hb:=(rfl)) (hk:=?_);refine wG tK ?_;refine wC Tryz.func175 (hf:=(y_)) (hk:=?_);refine wG tK ?_;refine wT ?_;rfl
theorem B5 (l:List Node) (hl:UpN l) (hlen:l.length=0):ae Tryz.prog 98 [.sl (l.map ZN),.fn 99 []] [] (λr _=>r=.tup []):=by
 have hp:=HM l hl z8 0;rw[hlen] at hp;refine ZF tK (Tryz.func98) rfl (λC=>?_);simp only[Tryz.ntmps98,Tryz.results98,go_sem];refine wG tK ?_;have hu:IntKind.u64.wrap ((0:Nat):Int)=0:=by decide
 rw[hlen,hu];refine wC Tryz.func138 (hf:=(Dj)) (hk:=?_);refine wG tK ?_;refine wC Tryz.func137 (hf:=(hp)) (hk:=?_);refine wG tK ?_;refine kc ⟨_,_,rfl,trivial,.tup [],.inr (.inl rfl),rfl⟩
theorem vT (l:List Kept) (hl:SmallK l) (hu:qL l=true):ae Tryz.prog 63 [.sl (l.map ZK)] [] (λr _=>r=.sl ((jY (aL l)).map ZN)):=by
 have hnl:(aL l).length=l.length:=by simp[aL]
 have hns:Small (aL l):=vb hl;have hd:∀i,i<(aL l).length->∀j,j<i->fW (aL l) j≠fW (aL l) i:=by
  have hU:nt l l.length:=of_decide_eq_true hu;intro i hi j hj;have h1:=hU i z8 j hj;have hf:∀i,i<l.length->fW (aL l) i=wm l i:=λi hi=>by
   unfold fW wm aL;rw[List.getD_eq_getElem?_getD,List.getD_eq_getElem?_getD,List.getElem?_map,List.getElem?_eq_getElem hi];rfl
  rw[hf j z8,hf i z8];exact h1
 have hsl:=tZ _ hd;have hlen:=hl.len;refine ZF tK (Tryz.func63) rfl (λC=>?_);simp only[Tryz.ntmps63,Tryz.results63,go_sem];refine wG tK ?_;refine ZL (λi:Nat=>i≤l.length) (λi=>l.length-i) (λi=>[(3,.osl 16 5 0 i),(5,.any),(8,.int .i64 i),(9,.any),(10,.any),(11,.any),(12,.any),(13,.any),(14,.any),(15,.any),(16,.any),(17,.any)])
  (λi=>[(16,.cells 62 5 (((aL l).take i).map ZN))]) 0 z8 ?_ λi hi=>?_
 ·simp only[go_sem];exact ZU w3 w3 v8
 simp only[go_sem];refine wG tK ?_;refine wD (λh=>?_) (λh=>?_)
 ·have hlt:i<l.length:=by simp at h;omega
  have hg:(l.map ZK).getD i []=ZK (l.getD i default):=Fam.getD hlt;have hs:=xz l i hlt;generalize l.getD i default=n at hg hs;have ht:List.take i (List.map ZN (List.take i (aL l)))=List.map ZN (List.take i (aL l)):=List.take_of_length_le k9;have hw:IntKind.i64.wrap ((i:Int)+1)=(i:Int)+1:=wrap_small z8 z8;refine wGq tK ?_ ?_ (by simp only[go_sem,hg,ZK,ht,hw];try exact rfl)
  ·simp[hlt,ZK,rowsOf];omega
  refine ZB ⟨i+1,by omega,by omega,ZU ?_ ?_ ?_⟩
  ·simp[go_sem]
  ·simp[go_sem,hs,ZN]
  ·simp only[go_sem]
 ·have e:i=l.length:=by simp at h;omega
  subst e;refine wG tK ?_;refine ZZ 16 rfl (eO _) ?_;rw[←hnl,List.take_length];simp only[go_sem]
  by_cases h0:(aL l).length=0
  ·refine wC Tryz.func54 (hf:=(kz _ hns)) (hk:=?_);refine wG tK ?_;have hnil:aL l=[]:=List.eq_nil_of_length_eq_zero h0;refine wC Tryz.func98 (hf:=(B5 _ (by intro i h1 h2;omega) h0)) (hk:=?_);refine wG tK ?_;refine wT ?_;rw[hnil];rfl
  ·refine wCG [] 100 Tryz.func54 (hf:=(qE _ hns)) (hk:=?_);refine wG tK ?_;have hne:aL l≠[]:=λe=>h0 (by rw[e];rfl)
   refine bN rfl (dI rfl z7 w3 ⟨_,Tryz.func98,by kernel_rfl,rfl⟩ [123] w8 w3 y8 Q5 w3 w3 (λG Y N=>B4 123 u4 G Y N (aL l) (jY (aL l)) z8 z8 (se _ hd)) w9) ?_;refine wG tK ?_;refine ZZ 123 rfl (eO _) ?_;simp only[go_sem];refine wT ?_;rw[if_pos z8,List.take_of_length_le (by rw[List.length_map,hsl];exact Nat.le_refl _)]
def cuH (u:U) (G Y N:Nat->Nat):List (Nat×Blk):=[(900,.cells 80 13 [bl u])]++pins [900] G Y N
theorem G4 (l:List Kept) (fid now:Int) (hl:SmallK l):ae Tryz.prog 95 [.sl (l.map ZK),.int .i64 fid,.int .i64 now] [] (λr H=>r=.osl 1000 8 0 l.length/\∀i b,aa [(1000,.cells 67 8 ((vD l fid now).map ZK))] i=some b->aa H i=some b):=by
 refine ZF tK (Tryz.func95) rfl (λC=>?_);simp only[Tryz.ntmps95,Tryz.results95,go_sem];refine wG tK ?_;refine wCG [] 978 Tryz.func45 (hf:=(jJ l hl)) (hk:=?_);refine wG tK ?_;refine wV Tryz.func115 (hf:=(ml l fid hl.len)) (hk:=?_);unfold vD;cases e:bR l fid with
 | none=>
  simp only[bZ];refine wG tK ?_;refine wD (λh=>?_) (λh=>?_)
  ·cases h
  refine wG tK ?_;refine wT ?_;simp[go_sem]
 | some i=>
  have hi:=oS e;have hlen:=hl.len;have hg:=gi hi;have hs:=iX l i { l.getD i default with last:=now };simp only[ZK] at hs;simp only[bZ];refine wG tK ?_;refine wD (λh=>?_) (λh=>?_)
  ·refine wGq tK ?_ ?_ Q4
   ·simp[hg];omega
   refine wT ?_;simp[go_sem]
  ·simp at h
def jr (fid w:Int) (k:Kept):Kept:=if k.node.fid=fid then { k with worth:=lI k.worth w } else k
theorem Aj (fid w c:Int) (k:Kept):jr fid w (Cf fid c k)=fJ fid w c k:=by
 unfold jr Cf fJ
 by_cases h:k.node.fid=fid
 ·rw[if_pos h,if_pos h];simp[h]
 ·rw[if_neg h,if_neg h,if_neg h]
def di (M:List Kept) (fid w:Int) (i:Nat):List Kept:=(M.take i).map (jr fid w)++M.drop i
theorem yw (M:List Kept) (fid w:Int) (i:Nat):(di M fid w i).length=M.length:=by
 unfold di;rw[List.length_append,List.length_map,List.length_take,List.length_drop];omega
theorem Ak {M:List Kept} (fid w:Int) {i:Nat} (h:i<M.length):(di M fid w i).getD i default=M.getD i default:=by
 have hl:((M.take i).map (jr fid w)).length=i:=by rw[List.length_map,List.length_take];omega
 unfold di;rw[List.getD_eq_getElem?_getD,List.getD_eq_getElem?_getD,List.getElem?_append_right z8,hl,List.getElem?_drop,Nat.sub_self,Nat.add_zero]
theorem yx {M:List Kept} (fid w:Int) {i:Nat} (h:i<M.length):(di M fid w i).set i (jr fid w (M.getD i default))=di M fid w (i+1):=by
 have hl:((M.take i).map (jr fid w)).length=i:=by rw[List.length_map,List.length_take];omega
 unfold di;rw[ZT h,List.map_append,List.set_append_right _ _ z8,hl,Nat.sub_self,bY h,List.set_cons_zero,List.append_assoc];rfl
theorem vG {M:List Kept} {fid w:Int} {i:Nat} (h:i<M.length) (hf:(M.getD i default).node.fid≠fid):di M fid w (i+1)=di M fid w i:=by
 unfold di;rw[ZT h,List.map_append,bY h,List.append_assoc]
 congr 1
 show jr fid w (M.getD i default)::_=_
 unfold jr;rw[if_neg hf];rfl
theorem yu {l:List Kept} (hu:qL l=true) (fid w c:Int):di (vD l fid c) fid w (vD l fid c).length=l.map (fJ fid w c):=by
 unfold di;rw[List.take_length,List.drop_length,List.append_nil,G3 hu,List.map_map];exact List.map_congr_left λk _=>Aj fid w c k
theorem D5 {l:List Kept} (fid c:Int):(vD l fid c).length=l.length:=by
 unfold vD;cases bR l fid with
 | none=>rfl
 | some i=>exact List.length_set
theorem Bb (l:List Kept) (fid:Int):C3 l fid=(dx l fid).isSome:=by
 unfold C3 dx;rw[Option.isSome_map,Bool.eq_iff_iff,List.any_eq_true,List.find?_isSome]
theorem yM {c:Cli} (h:(c.cache.map λk=>k.node.fid).Nodup) (f:Int):aj (cF c) f=dx c.cache f:=by
 cases e:dx c.cache f with
 | some n=>
  obtain ⟨k,hk,hn,hf⟩:=jP e;exact (ZO (iO c)).2 ⟨(eQ h n).2 ⟨k,hk,hn⟩,hf⟩
 | none=>
  refine (eu (iO c)).2 λx hx hf=>?_
  obtain ⟨k,hk,rfl⟩:=(eQ h x).1 hx;unfold dx at e;rw[Option.map_eq_none_iff,List.find?_eq_none] at e;exact absurd hf (by simpa using e k hk)
theorem UInv.vr {B T:Nat} {u:U} (h:UInv B T u):SmallK u.c.cache:=⟨by have:=h.cli.len;have:=h.cli.room;omega,λk hk=>⟨by have:=h.cli.data k hk;omega,by have:=h.cli.ent k hk;omega⟩⟩
theorem lA {B T:Nat} (u:U) (h:UInv B T u) (hB:B≤40000000) (hT:T≤1000000000000) (fid worth:Int) (G Y N:Nat->Nat):ae Tryz.prog 60 [.ptr 900 13 0 0,.int .i64 fid,.int .i64 worth] (cuH u G Y N)
  (λr H=>r=gP (ba u fid worth)/\Holds (cuH (ba u fid worth).u G Y N) H):=by
 have hcl:=h.cli.clock;have hlen:u.c.cache.length≤24:=by have:=h.cli.len;have:=h.cli.room;omega
 have hnod:=h.cli.nod;have hun:=nq hnod;have hsk:=h.vr;have hgsm:=h.cli.bM.small;have hup:=h.srv.hist.bM.up;have htl:u.s.tree.length≤24:=h.srv.hist.bM.len;have hts:Small u.s.tree:=h.srv.hist.bM.small;have hw:IntKind.i64.wrap (u.c.clock+1)=u.c.clock+1:=Eng.wrap_small z8 z8;have hhas:=HD u.c.cache fid z8;rw[Bb] at hhas;unfold cuH bl;refine ZF tK (Tryz.func60) rfl (λC=>?_);simp only[Tryz.ntmps60,Tryz.results60,go_sem];refine wG tK ?_ w5 k0;refine ag (ar 6) ?_;simp only[go_sem];refine wC Tryz.func94 (hf:=(hhas)) (hk:=?_);refine wG tK ?_;cases hnk:dx u.c.cache fid with
 | some n=>
  have hG:ba u fid worth=⟨n,0,ch u fid worth⟩:=by unfold ba;rw[hnk]
  rw[hG];refine wDT (hb:=(rfl)) (hk:=?_);refine wG tK ?_;have huse:=G4 u.c.cache fid (u.c.clock+1) hsk;have hul:=D5 (l:=u.c.cache) fid (u.c.clock+1);have hall:=yu hun fid worth (u.c.clock+1);rw[hul] at hall;generalize vD u.c.cache fid (u.c.clock+1)=M at *;rw[←hul] at huse;refine ZW ZM ?_;refine ZS rfl ?_;refine sN tK 12 ?_;refine gm 2000 rfl rfl z7 w3 ⟨_,Tryz.func95,by kernel_rfl,rfl⟩ w3 (huse) w3 z7 z7 w3 z6 z6 ?_;refine sG tK ?_;refine sE ?_;refine dS tK ?_;refine wKd ?_
  try simp only[go_sem,gA,gB,gC]
  refine wG tK ?_;refine ZL (λi:Nat=>i≤M.length) (λi=>M.length-i) (λi=>[(8,.any),(53,.int .i64 i),(54,.any),(55,.any),(56,.any),(57,.any),(58,.any),(59,.any),(60,.any),(61,.any),(62,.any),(63,.any),(64,.any),(65,.any),(66,.any),(67,.any),(68,.any),(69,.any),(70,.any),(71,.any),(72,.any),(73,.any),(74,.any),(75,.any),(76,.any),(77,.any),(78,.any),(79,.any),(80,.any),(81,.any),(82,.any),(83,.any),(84,.any),(85,.any),(86,.any),(87,.any)])
   (λi=>[(3000,.cells 67 8 ((di M fid worth i).map ZK))]) 0 z8 ?_ λi hi=>?_
  ·simp only[go_sem];exact ZU w3 (by simp[go_sem,di]) w3
  simp only[go_sem];refine wG tK ?_;refine wD (λh=>?_) (λh=>?_)
  ·have hlt:i<M.length:=by simp at h;omega
   have hw1:=wi1 (i:=i) z8;have hDl:=yw M fid worth i;have hat:=Ak fid worth hlt;have hst:=yx fid worth hlt;have hsy:=@vG M fid worth i hlt;generalize hD2:di M fid worth (i+1)=D2 at *;generalize di M fid worth i=D at *;have hg:=gi (M:=D) (i:=i) z8;rw[hat] at hg;generalize M.getD i default=k at *;refine wGq tK ?_ ?_ u9
   ·simp[hg,hDl,hlt]
   refine wD (λh=>?_) (λh=>?_)
   ·have hf:k.node.fid=fid:=by simpa using h
    have hs:=iX D i (jr fid worth k);rw[hst] at hs;simp only[ZK,jr,if_pos hf,lI] at hs;refine wG tK ?_;refine ZW ZM ?_;refine ZS rfl ?_;refine sNq tK 16 ?_ ?_ z6 z6 u9
    ·simp[hg,hDl,hlt]
    refine vp rfl rfl (q:=.i64) (q':=.i64) (u:=k.worth) (v:=worth) z7 z7 z6 z6 ?_;refine sNq tK 2 ?_ ?_ z6 z6 u9
    ·simp[hg,hDl,hlt]
    refine sE ?_;refine dSq tK ?_ ?_
    ·simp[go_sem,hg,hDl,hlt]
    refine wKd ?_
    try simp only[go_sem,gA,gB,gC]
    refine wG tK ?_ (by simp only[go_sem,hw1,hg,hs];try exact rfl) (by simp[go_sem,hw1,hg,hs]);refine ZB ⟨i+1,by omega,by omega,ZU ?_ ?_ ?_⟩
    ·simp[go_sem]
    ·simp[go_sem,hD2]
    ·simp[go_sem]
   ·have hf:k.node.fid≠fid:=by simpa using h
    have hsy:=hsy hf;refine wG tK ?_ j7 QF;refine ZB ⟨i+1,by omega,by omega,ZU ?_ ?_ ?_⟩
    ·simp[go_sem]
    ·simp[go_sem,hD2,hsy]
    ·simp[go_sem]
  ·have e:i=M.length:=by simp at h;omega
   subst e;rw[hul,hall];have htk:List.take u.c.cache.length ((u.c.cache.map (fJ fid worth (u.c.clock+1))).map ZK)=(u.c.cache.map (fJ fid worth (u.c.clock+1))).map ZK:=List.take_of_length_le y8;have hct:=vT (u.c.cache.map (fJ fid worth (u.c.clock+1))) ⟨by rw[List.length_map];omega,λk hk=>by obtain ⟨x,hx,h1,_⟩:=iG hk;rw[←h1];exact hsk.each x hx⟩ (nq (by rw[tL];exact hnod));rw[rI,show jY (aL u.c.cache)=cF u.c from rfl] at hct;have hfd:=ee (cF u.c) fid hgsm;unfold fY at hfd;rw[cB,yM hnod,hnk] at hfd;simp only[Option.getD_some,Option.isSome_some] at hfd;refine wR ?_;refine ZZ 3000 rfl (bb _) ?_;simp only[go_sem,htk];refine wG tK ?_;refine wC Tryz.func63 (hf:=(hct)) (hk:=?_);refine wG tK ?_;refine wC Tryz.func66 (hf:=(hfd)) (hk:=?_);refine wGq tK ?_ ?_ w6
   ·simp[ZN]
   refine wU ?_ ?_
   ·rfl
   ·exact q9q
 | none=>
  refine wDF (hb:=(rfl)) (hk:=?_);refine wG tK ?_;have hlk:u.c.cache.map (fJ fid worth (u.c.clock+1))=u.c.cache:=by
   refine (List.map_congr_left λk hk=>?_).trans (List.map_id _);have hne:k.node.fid≠fid:=λe=>by
    unfold dx at hnk;rw[Option.map_eq_none_iff,List.find?_eq_none] at hnk;exact hnk k hk (by simp[e])
   unfold fJ;rw[if_neg hne];rfl
  cases ha:u.c.away with
  | true=>
   have hG:ba u fid worth=⟨au,12,ch u fid worth⟩:=by unfold ba;rw[hnk];simp[ha]
   rw[hG];refine wDT (hb:=(rfl)) (hk:=?_);refine wG tK ?_;refine ag (ar 6) ?_;simp only[go_sem];refine wU ?_ ?_
   ·rfl
   ·skip
    simp only[pins,List.cons_append,List.nil_append,List.map_cons,List.map_nil]
    repeat' refine ZH ?_ ?_
    all_goals first | exact YH _ | rfl | simp[go_sem,ch,ha,hlk]
  | false=>
   have hfd:=ee u.s.tree fid hts;unfold fY at hfd;rw[cB] at hfd;refine wDF (hb:=(rfl)) (hk:=?_);refine wG tK ?_;cases hff:aj u.s.tree fid with
   | none=>
    rw[hff] at hfd;simp only[Option.getD_none,Option.isSome_none] at hfd;have hG:ba u fid worth=⟨au,6,ch u fid worth⟩:=by unfold ba;rw[hnk];simp[ha,hff]
    rw[hG];refine wC Tryz.func66 (hf:=(hfd)) (hk:=?_);refine wG tK ?_ QN (by simp[go_sem,ZN,au]);refine wDT (hb:=(rfl)) (hk:=?_);refine wG tK ?_;refine ag (ar 6) ?_;simp only[go_sem];refine wU ?_ ?_
    ·rfl
    ·skip
     simp only[pins,List.cons_append,List.nil_append,List.map_cons,List.map_nil]
     repeat' refine ZH ?_ ?_
     all_goals first | exact YH _ | rfl | simp[go_sem,ch,ha,hlk]
   | some n=>
    rw[hff] at hfd;simp only[Option.getD_some,Option.isSome_some] at hfd;have hns:=hts.each n ((ZO hup).1 hff).1;have hG:ba u fid worth=⟨n,0,fZ (ch u fid worth) ⟨n,false,worth,u.c.clock+1⟩⟩:=by unfold ba;rw[hnk];simp[ha,hff]
    rw[hG];refine wC Tryz.func66 (hf:=(hfd)) (hk:=?_);refine wGq tK ?_ ?_ w6
    ·simp[ZN]
    refine wDF (hb:=(rfl)) (hk:=?_);refine wG tK ?_;refine ZW ZM ?_;refine ZS rfl ?_;refine sN tK 17 ?_;refine sB tK ?_;cases hkp:cH u.c.cache u.c.room ⟨n,false,worth,u.c.clock+1⟩ with
    | none=>
     have hk:=uO hsk hns hkp;have hKU:fZ (ch u fid worth) ⟨n,false,worth,u.c.clock+1⟩=ch u fid worth:=by unfold fZ ch;simp only[hlk,hkp]
     rw[hKU];refine sC Tryz.func69 (hf:=(hk)) (hk:=?_);refine sG tK ?_;refine sE ?_;refine wKd ?_
     try simp only[go_sem,gA,gB,gC]
     refine wG tK ?_;refine wDF (hb:=(rfl)) (hk:=?_);refine wGq tK ?_ ?_ w6
     ·simp[ZN]
     refine wU ?_ ?_
     ·rfl
     ·skip
      simp only[pins,List.cons_append,List.nil_append,List.map_cons,List.map_nil]
      repeat' refine ZH ?_ ?_
      all_goals first | exact YH _ | rfl | simp[go_sem,ch,ha,hlk]
    | some L=>
     have hk:=Df hsk hns hkp;have hKU:fZ (ch u fid worth) ⟨n,false,worth,u.c.clock+1⟩=⟨{ (ch u fid worth).c with cache:=L },u.s⟩:=by unfold fZ ch;simp only[hlk,hkp]
     rw[hKU];refine sC Tryz.func69 (hf:=(hk)) (hk:=?_);refine sG tK ?_;refine sE ?_;refine wKd ?_
     try simp only[go_sem,gA,gB,gC]
     refine wG tK ?_;refine wDT (hb:=(rfl)) (hk:=?_);refine wGq tK ?_ ?_ w6
     ·simp[ZN]
     refine wU ?_ ?_
     ·rfl
     ·skip
      simp only[pins,List.cons_append,List.nil_append,List.map_cons,List.map_nil]
      repeat' refine ZH ?_ ?_
      all_goals first | exact YH _ | rfl | simp[go_sem,ch,ha,hlk]
theorem tG {l L:List Kept} {room:Int} {k:Kept} (hl:SmallK l) (hk:k.node.Small) (hL:cH l room k=some L):ae Tryz.prog 69 [.sl (l.map ZK),.int .i64 room,.agg (ZK k)] []
  (λr H=>r=.tup [.osl 1000 8 0 L.length,.int .i64 0]/\∀i b,aa [(1000,.cells 67 8 (L.map ZK))] i=some b->aa H i=some b):=by
 have hlen:=hl.len;have e0:=gi (M:=[k]) (i:=0) y8;refine ZF tK (Tryz.func69) rfl (λC=>?_);simp only[Tryz.ntmps69,Tryz.results69,go_sem];refine wGq tK ?_ ?_ QB
 ·simp
 refine wCG [] 978 Tryz.func45 (hf:=(jJ l hl)) (hk:=?_);refine wGq tK ?_ ?_ QB
 ·simp
 refine ZZ 14 rfl (rfl) ?_;simp only[go_sem];refine wC Tryz.func45 (hf:=(qA [k] (SmallK.one hk))) (hk:=?_);refine wGq tK ?_ ?_ QB
 ·simp[ZK]
 refine wV Tryz.func115 (hf:=(ml l k.node.fid hlen)) (hk:=?_);refine wG tK ?_;unfold cH at hL;cases e:bR l k.node.fid with
 | some i=>
  rw[e] at hL;injection hL with hL
  subst hL;have hi:=oS e;have hg:=gi hi;simp only[bZ];refine wDT (hb:=y8) (hk:=?_);refine wG tK ?_;have hs:=iX l i { k with worth:=lI k.worth (l.getD i default).worth };simp only[ZK] at hs;unfold lI at hs;refine ZW ZM ?_;refine ZS rfl ?_;refine sNq tK 7 ?_ ?_ z6 z6 u9
  ·simp[hg];omega
  refine vp rfl rfl (q:=.i64) (q':=.i64) (u:=k.worth) (v:=(l.getD i default).worth) z7 z7 z6 z6 ?_;refine sN tK 1 ?_;refine sE ?_;refine dS tK ?_;refine wKd ?_
  try simp only[go_sem,gA,gB,gC]
  refine wGq tK ?_ ?_ Q4
  ·simp[hg];omega
  refine wT ?_;simp[go_sem,lI]
 | none=>
  rw[e] at hL;obtain ⟨L0,hL0,hLe⟩:=Option.map_eq_some_iff.1 hL;clear hL;simp only[bZ];refine wDF (hb:=y8) (hk:=?_);refine wG tK ?_;refine ZZ 5 rfl (rfl) ?_;simp only[go_sem];refine ZL (λM:List Kept=>M.length≤l.length/\bJ room (M.length+1) M=some L0) (λM=>M.length) (λM=>[(8,.osl 1000 8 0 M.length),(10,.any),(11,.any),(12,.any),(13,.any),(14,.any),(15,.any),(16,.any),(17,.any),(18,.any),(19,.any),(20,.any),(21,.any),(22,.any),(23,.any),(24,.any),(39,.any),(40,.any),(41,.any),(42,.any),(43,.any),(44,.any),(45,.any),(46,.any),(47,.any),(48,.any),(49,.any),(50,.any),(51,.any)]) (λM=>[(1000,.cells 67 8 (M.map ZK))]) l ⟨Nat.le_refl _,hL0⟩ ?_ λM hM=>?_
  ·simp only[go_sem];exact ZU w3 w3 w3
  obtain ⟨hLl,hLs⟩:=hM;simp only[go_sem];refine wG tK ?_;refine wD (λh=>?_) (λh=>?_)
  ·have hge:(M.length:Int)≥room:=by simpa using h
   rw[bJ,if_pos hge] at hLs;refine wG tK ?_;refine wV Tryz.func116 (hf:=(yt M z8)) (hk:=?_);cases hw:pt M with
   | none=>
    rw[hw] at hLs;simp only at hLs;cases hLs
   | some i=>
    rw[hw] at hLs;simp only at hLs;have hi:i<M.length:=fv M M.length i hw;have hwr:=wi1 (i:=i) z8;have hE:(M.eraseIdx i).length=M.length-1:=by rw[List.length_eraseIdx,if_pos hi]
    simp only[bZ];refine wG tK ?_;refine wDF (hb:=y8) (hk:=?_);refine wG tK ?_ Ze (by simp[go_sem,hwr]);have hne:¬M=[]:=λh0=>by rw[h0] at hi;simp at hi
    refine bN rfl (dI rfl z7 w3 ⟨_,Tryz.func117,by kernel_rfl,rfl⟩ [1000] w8 w3 y8 Q5 w3 w3 (CP M i hi z8) w9) ?_;refine wG tK ?_;refine ZB ⟨M.eraseIdx i,⟨by omega,?_⟩,by omega,ZU ?_ ?_ ?_⟩
    ·rw[←hLs,hE];congr 1;omega
    ·simp[go_sem,hE]
    ·simp[go_sem]
    ·simp[go_sem]
  ·have hlt:¬(M.length:Int)≥room:=by simpa using h
   rw[bJ,if_neg hlt] at hLs;injection hLs with hLs
   subst hLs;refine wGq tK ?_ ?_
   ·simp[rowsOf];omega
   refine ag (de 55 1000) ?_;refine wT ?_;rw[←hLe];simp[go_sem,ZK]
end La
namespace Go.Proofs
open Go.Shelf
def Tryz.xf:Go.Shelf.Ren:=⟨λ| 143=>165 | 219=>194 | 217=>209 | 225=>210 | 224=>211 | 267=>212 | 266=>218 | 314=>219 | n=>n,λ| 9=>9 | 3=>3 | 4=>4 | 5=>5 | 46=>204 | 146=>275 | 51=>239 | n=>n,λ| 1=>0 | n=>n⟩
theorem Tryz.Fv:Go.Proofs.Lays.n143 Tryz.prog Tryz.xf:={
 mixed:=by kernel_rfl
 f143:=Tryz.func165.trans (congrArg some w4)
 f217:=Tryz.func209.trans (congrArg some w4)
 f219:=Tryz.func194.trans (congrArg some w4)
 f224:=Tryz.func211.trans (congrArg some w4)
 f225:=Tryz.func210.trans (congrArg some w4)
 f266:=Tryz.func218.trans (congrArg some w4)
 f267:=Tryz.func212.trans (congrArg some w4)
 f314:=Tryz.func219.trans (congrArg some w4)
 t3:=Tryz.underlying3
 a3:=Tryz.isAgg3
 z3:=Tryz.sizeOf3
 v3:=Tryz.zeroValue3
 t4:=Tryz.underlying4
 a4:=Tryz.isAgg4
 z4:=Tryz.sizeOf4
 v4:=Tryz.zeroValue4
 t5:=Tryz.underlying5
 a5:=Tryz.isAgg5
 z5:=Tryz.sizeOf5
 v5:=Tryz.zeroValue5
 t9:=Tryz.underlying9
 a9:=Tryz.isAgg9
 z9:=Tryz.sizeOf9
 v9:=Tryz.zeroValue9
 t46:=Tryz.underlying204
 a46:=Tryz.isAgg204
 z46:=Tryz.sizeOf204
 v46:=Tryz.zeroValue204
 t51:=Tryz.underlying239
 a51:=Tryz.isAgg239
 z51:=Tryz.sizeOf239
 v51:=Tryz.zeroValue239
 t146:=Tryz.underlying275
 a146:=Tryz.isAgg275
 z146:=Tryz.sizeOf275
 v146:=Tryz.zeroValue275
 g1:=by kernel_rfl }
open Go.RowKit Go.Lib in
theorem Tryz.strings_Index_one (s:ByteArray) (c:UInt8) (w:World) :
  Calls Tryz.prog 165 #[.string s,.string ⟨#[c]⟩] w λe w'=>e=.returned (.int .i64 (Lib.indexByte s.data.toList c))/\w'=w:=Any.strings_Index_one Tryz.Fv s c w
def Tryz.xe:Go.Shelf.Ren:=⟨λ| 138=>164 | 195=>191 | 218=>193 | 143=>165 | 219=>194 | 217=>209 | 225=>210 | 224=>211 | 267=>212 | 266=>218 | 314=>219 | n=>n,λ| 9=>9 | 3=>3 | 4=>4 | 5=>5 | 0=>0 | 46=>204 | 146=>275 | 51=>239 | n=>n,λ| 1=>0 | n=>n⟩
theorem Tryz.Fu:Go.Proofs.Lays.n138 Tryz.prog Tryz.xe:={
 mixed:=by kernel_rfl
 f138:=Tryz.func164.trans (congrArg some w4)
 f143:=Tryz.func165.trans (congrArg some w4)
 f195:=Tryz.func191.trans (congrArg some w4)
 f217:=Tryz.func209.trans (congrArg some w4)
 f218:=Tryz.func193.trans (congrArg some w4)
 f219:=Tryz.func194.trans (congrArg some w4)
 f224:=Tryz.func211.trans (congrArg some w4)
 f225:=Tryz.func210.trans (congrArg some w4)
 f266:=Tryz.func218.trans (congrArg some w4)
 f267:=Tryz.func212.trans (congrArg some w4)
 f314:=Tryz.func219.trans (congrArg some w4)
 t0:=Tryz.underlying0
 a0:=Tryz.isAgg0
 z0:=Tryz.sizeOf0
 v0:=Tryz.zeroValue0
 t3:=Tryz.underlying3
 a3:=Tryz.isAgg3
 z3:=Tryz.sizeOf3
 v3:=Tryz.zeroValue3
 t4:=Tryz.underlying4
 a4:=Tryz.isAgg4
 z4:=Tryz.sizeOf4
 v4:=Tryz.zeroValue4
 t5:=Tryz.underlying5
 a5:=Tryz.isAgg5
 z5:=Tryz.sizeOf5
 v5:=Tryz.zeroValue5
 t9:=Tryz.underlying9
 a9:=Tryz.isAgg9
 z9:=Tryz.sizeOf9
 v9:=Tryz.zeroValue9
 t46:=Tryz.underlying204
 a46:=Tryz.isAgg204
 z46:=Tryz.sizeOf204
 v46:=Tryz.zeroValue204
 t51:=Tryz.underlying239
 a51:=Tryz.isAgg239
 z51:=Tryz.sizeOf239
 v51:=Tryz.zeroValue239
 t146:=Tryz.underlying275
 a146:=Tryz.isAgg275
 z146:=Tryz.sizeOf275
 v146:=Tryz.zeroValue275
 g1:=by kernel_rfl }
open Go.RowKit Go.Lib in
theorem Tryz.strings_Count_one (s:ByteArray) (c:UInt8) (w:World) :
  Calls Tryz.prog 164 #[.string s,.string ⟨#[c]⟩] w λe w'=>e=.returned (.int .i64 (Lib.countByte s.data.toList c))/\w'=w:=Any.strings_Count_one Tryz.Fu s c w
def Tryz.xg:Go.Shelf.Ren:=⟨λ| 221=>135 | 268=>163 | 138=>164 | 143=>165 | 195=>191 | 197=>192 | 218=>193 | 219=>194 | 260=>208 | 217=>209 | 225=>210 | 224=>211 | 267=>212 | 266=>218 | 314=>219 | n=>n,λ| 9=>9 | 3=>3 | 31=>52 | 4=>4 | 0=>0 | 105=>253 | 21=>21 | 5=>5 | 46=>204 | 119=>271 | 139=>274 | 138=>273 | 146=>275 | 51=>239 | n=>n,λ| 1=>0 | 3=>1 | 4=>2 | n=>n⟩
theorem Tryz.Fw:Go.Proofs.Lays.n221 Tryz.prog Tryz.xg:={
 mixed:=by kernel_rfl
 f138:=Tryz.func164.trans (congrArg some w4)
 f143:=Tryz.func165.trans (congrArg some w4)
 f195:=Tryz.func191.trans (congrArg some w4)
 f197:=Tryz.func192.trans (congrArg some w4)
 f217:=Tryz.func209.trans (congrArg some w4)
 f218:=Tryz.func193.trans (congrArg some w4)
 f219:=Tryz.func194.trans (congrArg some w4)
 f221:=Tryz.func135.trans (congrArg some w4)
 f224:=Tryz.func211.trans (congrArg some w4)
 f225:=Tryz.func210.trans (congrArg some w4)
 f260:=Tryz.func208.trans (congrArg some w4)
 f266:=Tryz.func218.trans (congrArg some w4)
 f267:=Tryz.func212.trans (congrArg some w4)
 f268:=Tryz.func163.trans (congrArg some w4)
 f314:=Tryz.func219.trans (congrArg some w4)
 t0:=Tryz.underlying0
 a0:=Tryz.isAgg0
 z0:=Tryz.sizeOf0
 v0:=Tryz.zeroValue0
 t3:=Tryz.underlying3
 a3:=Tryz.isAgg3
 z3:=Tryz.sizeOf3
 v3:=Tryz.zeroValue3
 t4:=Tryz.underlying4
 a4:=Tryz.isAgg4
 z4:=Tryz.sizeOf4
 v4:=Tryz.zeroValue4
 t5:=Tryz.underlying5
 a5:=Tryz.isAgg5
 z5:=Tryz.sizeOf5
 v5:=Tryz.zeroValue5
 t9:=Tryz.underlying9
 a9:=Tryz.isAgg9
 z9:=Tryz.sizeOf9
 v9:=Tryz.zeroValue9
 t21:=Tryz.underlying21
 a21:=Tryz.isAgg21
 z21:=Tryz.sizeOf21
 v21:=Tryz.zeroValue21
 t31:=Tryz.underlying52
 a31:=Tryz.isAgg52
 z31:=Tryz.sizeOf52
 v31:=Tryz.zeroValue52
 t46:=Tryz.underlying204
 a46:=Tryz.isAgg204
 z46:=Tryz.sizeOf204
 v46:=Tryz.zeroValue204
 t51:=Tryz.underlying239
 a51:=Tryz.isAgg239
 z51:=Tryz.sizeOf239
 v51:=Tryz.zeroValue239
 t105:=Tryz.underlying253
 a105:=Tryz.isAgg253
 z105:=Tryz.sizeOf253
 v105:=Tryz.zeroValue253
 t119:=Tryz.underlying271
 a119:=Tryz.isAgg271
 z119:=Tryz.sizeOf271
 t138:=Tryz.underlying273
 a138:=Tryz.isAgg273
 z138:=Tryz.sizeOf273
 v138:=Tryz.zeroValue273
 t139:=Tryz.underlying274
 a139:=Tryz.isAgg274
 z139:=Tryz.sizeOf274
 v139:=Tryz.zeroValue274
 t146:=Tryz.underlying275
 a146:=Tryz.isAgg275
 z146:=Tryz.sizeOf275
 v146:=Tryz.zeroValue275
 g1:=by kernel_rfl
 g3:=by kernel_rfl
 g4:=by kernel_rfl }
end Go.Proofs
namespace La
open Go Go.Eng Go.Proofs Go.RowKit
theorem CB {b:ByteArray} {l:List UInt8} (h:b.data.toList=l):b=⟨l.toArray⟩:=by
 subst h;cases b;simp
theorem tu {A:Nat->Prop} {w w':World} (h:Below w.heap.size w w'):Frm A w w':=⟨h.os,h.tape,h.output,h.size,λb hb _=>h.block b hb⟩
theorem Fe {μ:Nat->Option Nat} {R0:Nat->Prop} {w0 w':World} {v:Value} {x:AV} {H:List (Nat×Blk)} {S':Nat->Prop} (hH:HpOK μ R0 w0 H) (hv:RdP S' w' v x) (hw:Below w0.heap.size w0 w')
  (hS:∀b,S' b->b<w'.heap.size/\(R0 b\/w0.heap.size≤b)) :
  ∃v' r H' μ' S'',Ending.returned v=.returned v'/\r=x/\Rd μ' S'' w' v' r/\HpOK μ' S'' w' H'/\Frm (λg=>∃id,μ id=some g) w0 w' /\
   (∀id g,μ' id=some g->(∃id',μ id'=some g)\/w0.heap.size≤g)/\(∀b,S'' b->b<w'.heap.size/\(R0 b\/(∃id,μ id=some b)\/w0.heap.size≤b)):=
 ⟨v,x,[],λ_=>none,S',rfl,rfl,.pure hv,⟨λid b h=>by simp[aa] at h,λid g h=>Qm,λid id' g h=>Qm,(hH.glob.frm (tu hw) (λid g h=>.inl ⟨id,h⟩)).nil⟩,tu hw,λid g h=>Qm,
  λb hb=>⟨(hS b hb).1,(hS b hb).2.elim .inl (λh=>.inr (.inr h))⟩⟩
theorem wA (s:List UInt8) (c:UInt8) (hs:s.length<4294967281):ae Tryz.prog 135 [.str s,.str [c],.int .i64 0,.int .i64 (-1)] [] (λr _=>r=.sl ((cV c s).map aP)):=by
 intro R0 μ w0 vs hl ha hH hR
 match vs,hl with
 | [v0,v1,v2,v3],_=>
 obtain ⟨b,h0,hb⟩:=(ha 0 _ rfl).fj;obtain ⟨b1,h1,hb1⟩:=(ha 1 _ rfl).fj;have h2:=(ha 2 _ rfl).aF;have h3:=(ha 3 _ rfl).aF;simp only[List.getD_cons_zero,List.getD_cons_succ] at h0 h1 h2 h3;subst h0 h1 h2 h3 hb;obtain rfl:=CB hb1;have hsz:b.size<4294967281:=by rw[Lib.size_eq];exact hs
 have hI:∀(x:ByteArray) (arr:Array Value),x.size≤b.size->Calls Tryz.prog 165 #[.string x,.string ⟨#[c]⟩] (w0.alloc (.cells arr 9)) λe w'=>e=.returned (.int .i64 (Lib.indexB x ⟨#[c]⟩))/\w'=w0.alloc (.cells arr 9):=λx arr _=>
  (Tryz.strings_Index_one x c _).mono λe w' ⟨h1,h2⟩=>⟨by rw[h1,←Lib.index_one],h2⟩
 have hC:Calls Tryz.prog 164 #[.string b,.string ⟨#[c]⟩] w0 λe w'=>e=.returned (.int .i64 (Lib.countB b ⟨#[c]⟩))/\w'=w0:=
  (Tryz.strings_Count_one b c _).mono λe w' ⟨h1,h2⟩=>⟨by rw[h1];show _=Ending.returned (Value.int .i64 ((Lib.count b.data.toList [c]:Nat):Int));rw[Lib.count_one];rfl,h2⟩
 have hle:Lib.countB b ⟨#[c]⟩≤b.size:=Lib.countB_le ⟨#[c]⟩ (Nat.le_refl 1) b.size b (Nat.le_refl _);have key:Calls Tryz.prog 135 #[.string b,.string ⟨#[c]⟩,.int .i64 0,.int .i64 (-1)] w0 λe w'=>
   e=.returned (.slice (some ⟨w0.heap.size,0,none⟩) (Lib.splitB ⟨#[c]⟩ 0 (Lib.countB b ⟨#[c]⟩+1-1) b).length (Lib.countB b ⟨#[c]⟩+1))/\w'=w0.alloc (.cells (Lib.cellsOf (Lib.splitB ⟨#[c]⟩ 0 (Lib.countB b ⟨#[c]⟩+1-1) b) (Lib.countB b ⟨#[c]⟩+1)) 9):=
  Any.strings_genSplit_core Tryz.Fw w4 b ⟨#[c]⟩ 0 (-1) (Lib.countB b ⟨#[c]⟩+1) w0 hsz (Nat.le_refl 1) (Nat.zero_le _) hI hC u4 u4 (by rw[if_pos u4];omega)
 rw[Nat.add_sub_cancel] at key;have hlen:=Lib.splitB_all ⟨#[c]⟩ (Nat.le_refl 1) 0 _ b rfl;have e2:Lib.cellsOf (Lib.splitB ⟨#[c]⟩ 0 (Lib.countB b ⟨#[c]⟩) b) (Lib.countB b ⟨#[c]⟩+1)=((Lib.splitB ⟨#[c]⟩ 0 (Lib.countB b ⟨#[c]⟩) b).map Value.string).toArray:=by rw[←hlen];exact Lib.cellsOf_full _
 rw[e2] at key;have hcut:=zP c b;generalize Lib.splitB ⟨#[c]⟩ 0 (Lib.countB b ⟨#[c]⟩) b=L at key hlen hcut;refine Calls.mono key λe w' ⟨he,hw⟩=>?_
 rw[he,hw];refine Fe hH (S':=λg=>g=w0.heap.size) ?_ (Below.alloc (Below.refl _ _) (Nat.le_refl _) _) (λg hg=>?_)
 ·refine .sl _ _ _ _ 1 w0.heap.size 0 (λi j=>.string (L.getD i ⟨#[]⟩)) ?_ z8 ?_ (λ_=>⟨rfl,rfl⟩) ?_ ?_
  ·rw[List.length_map,←hcut,List.length_map]
  ·intro row hrow;obtain ⟨x,_,rfl⟩:=List.mem_map.1 hrow;rfl
  ·intro i j hi hj;obtain rfl:j=0:=by omega
   have hi':i<L.length:=by omega
   rw[World.cell?_alloc_new];simp[List.getD_eq_getElem?_getD,List.getElem?_eq_getElem hi']
  ·intro i row hi j x hx;rw[List.getElem?_map] at hi;obtain ⟨y,hy,rfl⟩:=Option.map_eq_some_iff.1 hi;rw[←hcut,List.getElem?_map] at hy;obtain ⟨z,hz,rfl⟩:=Option.map_eq_some_iff.1 hy
   match j,hx with
   | 0,hx=>
    simp only[aP,List.getElem?_cons_zero,Option.some.injEq] at hx;subst hx;rw[List.getD_eq_getElem?_getD,hz];exact .str _ _ rfl
   | j+1,hx=>simp[aP] at hx
 ·subst hg;exact ⟨by show _<(w0.heap.push _).size;rw[Array.size_push];omega,.inr (Nat.le_refl _)⟩
theorem yh (s:List UInt8) (c:UInt8) (hs:s.length<4294967281):ae Tryz.prog 89 [.str s,.str [c]] [] (λr _=>r=.sl ((cV c s).map aP)):=by
 refine ZF tK (Tryz.func89) rfl (λC=>?_);simp only[Tryz.ntmps89,Tryz.results89,go_sem];refine wR ?_;refine wN tK 1 ?_;refine wR ?_;refine wN tK 2 ?_;refine wC Tryz.func135 (hf:=(wA s c hs)) (hk:=?_);refine wG tK ?_;refine wT ?_;rfl
end La
namespace La
open Go Go.Eng Go.Proofs
theorem B_ (s:List UInt8) (hs:s.length≤100000000):ae Tryz.prog 56 [.str s] [] (λr _=>Eng.nrm r=cn (af s)):=by
 refine ZF tK (Tryz.func56) rfl (λC=>?_);simp only[Tryz.ntmps56,Tryz.results56,go_sem];refine wR ?_;refine wN tK 2 ?_;refine wG tK ?_;refine wD (λh=>?_) (λh=>?_)
 ·have h1:40<s.length:=by simp at h;omega
  refine wG tK ?_;refine wT ?_;simp[af,h1,cn,Eng.nrm,Eng.eP]
 have h1:¬40<s.length:=by simp at h;omega
 refine wG tK ?_;refine wD (λh=>?_) (λh=>?_)
 ·have h2:s=[47]:=by simpa using h
  refine wG tK ?_;refine wT ?_;simp[af,h1,h2,cn,Eng.nrm,Eng.eP]
 have h2:s≠[47]:=by simpa using h
 refine wR ?_;refine wN tK 3 ?_;cases s with
 | nil=>
  refine wG tK ?_;refine wD (λh=>?_) (λh=>?_)
  ·refine wG tK ?_;refine wT ?_;simp[af,cn,Eng.nrm,Eng.eP]
  ·cases h
 | cons x r=>
  refine wG tK ?_;refine wD (λh=>?_) (λh=>?_)
  ·have h3:¬x=47:=λe=>by subst e;simp at h
   have h1':¬40<r.length+1:=h1;refine wG tK ?_;refine wT ?_;simp[af,h1',h3,cn,Eng.nrm,Eng.eP]
  have h3:x=47:=UInt8.toNat_inj.1 (by have:((x.toNat:Nat):Int)=47:=(by simpa using h);show x.toNat=47;omega)
  subst h3;have hsl:((47:UInt8)::r).drop 1=r:=rfl;refine wR ?_;refine wN tK 2 ?_;refine wC Tryz.func89 (hf:=(yh r 47 (by simp at hs;omega))) (hk:=?_);refine wG tK ?_;have hR:af (47::r)=if (cV 47 r).all cq then (cV 47 r,0) else ([],7):=by
   simp only[af,if_neg h1,if_neg h2,List.head?_cons,ne_eq,not_true_eq_false,if_false,List.drop_succ_cons,List.drop_zero]
  have hcl:=qt 47 r;have hcp:=mb 47 r;rw[hR];generalize cV 47 r=L at hcl hcp;simp only[List.length_cons] at hs;refine ZL (λi:Nat=>i≤L.length/\(L.take i).all cq=true) (λi=>L.length-i) (λi=>[(6,.any),(27,.int .i64 i),(28,.any),(29,.any),(30,.any),(31,.any),(32,.any),(33,.any),(34,.any)]) (λ_=>[]) 0 ⟨by omega,by simp⟩ ?_ λi hi=>?_
  ·simp only[go_sem];exact ZU w3 w3 w3
  obtain ⟨hi,hs2⟩:=hi;simp only[go_sem];refine wG tK ?_;refine wD (λh=>?_) (λh=>?_)
  ·have hlt:i<L.length:=by simp at h;omega
   have hw:=wi1 (i:=i) z8;have hg:(L.map aP).getD i []=aP (L.getD i default):=Fam.getD hlt;have htk:=ZT hlt;have hmem:L.getD i default∈L:=by rw[List.getD_eq_getElem?_getD,List.getElem?_eq_getElem hlt];exact List.getElem_mem hlt
   have hxl:=hcp _ hmem;have hno:cq (L.getD i default)=false->L.all cq=false:=λh0=>by
    cases e:L.all cq with
    | false=>rfl
    | true=>rw[List.all_eq_true.1 e _ hmem] at h0;cases h0
   generalize L.getD i default=x at hg htk hxl hno hmem;refine wGq tK ?_ ?_ Q7
   ·simp[hg,aP,hlt]
   refine wC Tryz.func90 (hf:=(AB x z8)) (hk:=?_);refine wG tK ?_;refine wD (λh=>?_) (λh=>?_)
   ·have h0:cq x=false:=by simpa using h
    refine wG tK ?_;refine wT ?_;simp[hno h0,cn,Eng.nrm,Eng.eP]
   ·have h0:cq x=true:=by simpa using h
    refine wG tK ?_ w5 k0;refine ZB ⟨i+1,⟨by omega,by rw[htk,List.all_append,hs2];simp[h0]⟩,by omega,ZU ?_ ?_ ?_⟩
    ·simp[go_sem]
    ·simp[go_sem]
    ·simp[go_sem]
  ·have e:i=L.length:=by simp at h;omega
   subst e;rw[List.take_length] at hs2;refine wG tK ?_;refine wT ?_;simp[hs2,cn,Eng.nrm,Eng.eP,xD]
theorem lZ (s:List UInt8) (hs:s.length≤100000000):ae Tryz.prog 56 [.str s] [] (λr _=>r=cn (af s)):=uI (B_ s hs)
theorem tx (u:U) (f w:Int) (h:(ba u f w).e≠0):(ba u f w).n=au:=by
 unfold ba at h ⊢;split
 ·rename_i n hn;rw[hn] at h;exact absurd rfl h
 ·rename_i hn;rw[hn] at h;simp only at h;split
  ·rfl
  ·rename_i ha;rw[if_neg ha] at h;split
   ·rfl
   ·rename_i n hf;rw[hf] at h;exact absurd rfl h
theorem uu {B T:Nat} (u:U) (h:UInv B T u) (hB:B≤40000000) (hT:T≤900000000000) (l:List (List UInt8)) (hl:l.length≤1000) (hls:∀x,x∈l->x.length≤1000) (worth:Int) (G Y N:Nat->Nat):ae Tryz.prog 57 [.ptr 900 13 0 0,.sl (l.map aP),.int .i64 worth] (cuH u G Y N)
  (λr H=>r=gP (goU u l worth)/\Holds (cuH (goU u l worth).u G Y N) H):=by
 have hg0:=lA u h hB z8 0 worth;have hi0:=bP h 0 worth;have hn0:=il h 0 worth;have hz0:=tx u 0 worth;have hgo:goU u l worth=goR worth l (ba u 0 worth):=rfl;unfold cuH gP at hg0;unfold cuH gP;generalize ba u 0 worth=g0 at *;generalize goU u l worth=gF at *;refine ZF tK (Tryz.func57) rfl (λC=>?_);simp only[Tryz.ntmps57,Tryz.results57,go_sem];refine wG tK ?_;refine ag (ar 6) ?_;simp only[go_sem];refine wP [900] Tryz.func60 (hf:=(hg0)) (hk:=?_);refine wGq tK ?_ ?_ w6
 ·simp[ZN]
 refine ZL (λq:Nat×Got=>q.1≤l.length/\gF=goR worth (l.drop q.1) q.2/\UInv B (T+1+q.1) q.2.u/\NodeOK q.2.n/\(q.2.e≠0->q.2.n=au)) (λq=>l.length-q.1)
  (λq=>[(9,.int .i64 q.2.e),(10,.any),(11,.any),(12,.any),(13,.any),(22,.int .i64 q.1),(23,.any),(24,.any),(25,.any),(26,.any),(27,.any),(28,.any),(29,.any),(30,.any),(31,.any),(32,.any),(33,.any),(34,.any),(35,.any),(36,.any),(37,.any),(38,.any),(39,.any),(40,.any),(41,.any),(42,.any),(43,.any),(44,.any),(45,.any),(46,.any),(47,.any),(48,.any),(49,.any),(50,.any),(51,.any),(52,.any)])
  (λq=>[(900,.cells 80 13 [bl q.2.u]),(8,.cells 62 5 [ZN q.2.n])]) (0,g0) ⟨Nat.zero_le _,by rw[List.drop_zero];exact hgo,hi0,hn0,hz0⟩ ?_ λq hq=>?_
 ·simp only[go_sem];exact ZU w3 QT QT
 obtain ⟨i,g⟩:=q;obtain ⟨hi,hgf,hui,hno,hz⟩:=hq;simp only at hi hgf hui hno hz;simp only[go_sem];refine wG tK ?_;refine wD (λh=>?_) (λh=>?_)
 ·have hlt:i<l.length:=by simp at h;omega
  have hg:(l.map aP).getD i []=aP (l.getD i default):=Fam.getD hlt;have hsl:=hls _ (YG hlt);rw[bY hlt] at hgf;generalize l.getD i default=s at *;have hw1:=wi1 (i:=i) z8;refine wGq tK ?_ ?_ Q7
  ·simp[hg,aP,hlt]
  by_cases he:g.e=0
  ·have hent:=jx g.n s hno.small;refine wDF (hb:=QI) (hk:=?_);refine wG tK ?_ w6 QT;cases hd:g.n.dir with
   | false=>
    refine wDT (hb:=(rfl)) (hk:=?_);refine wG tK ?_;refine ag (ar 6) ?_;simp only[go_sem];refine wU ?_ ?_
    ·simp[hgf,goR,he,hd,ZN,au]
    ·have e:gF.u=g.u:=by simp[hgf,goR,he,hd]
     rw[e];simp only[pins,List.cons_append,List.nil_append,List.map_cons,List.map_nil]
     repeat' refine ZH ?_ ?_
     all_goals first | exact YH _ | rfl | simp[go_sem]
   | true=>
    refine wDF (hb:=(rfl)) (hk:=?_);refine wG tK ?_;unfold ZN at hent;rw[hd] at hent;cases hen:a_ g.n s with
    | none=>
     rw[hen] at hent;simp only[ey] at hent;refine wC Tryz.func58 (hf:=(hent)) (hk:=?_);refine wG tK ?_;refine wDT (hb:=(rfl)) (hk:=?_);refine wG tK ?_;refine ag (ar 6) ?_;simp only[go_sem];refine wU ?_ ?_
     ·simp[hgf,goR,he,hd,hen,ZN,au]
     ·have e:gF.u=g.u:=by simp[hgf,goR,he,hd,hen]
      rw[e];simp only[pins,List.cons_append,List.nil_append,List.map_cons,List.map_nil]
      repeat' refine ZH ?_ ?_
      all_goals first | exact YH _ | rfl | simp[go_sem]
    | some f=>
     rw[hen] at hent;simp only[ey] at hent;have hg1:=lA g.u hui hB z8 f worth;unfold cuH gP at hg1;have hui2:=bP hui f worth;have hno2:=il hui f worth;have hz2:=tx g.u f worth;have hgf2:gF=goR worth (l.drop (i+1)) (ba g.u f worth):=by rw[hgf,goR,if_neg QI,if_neg (by simp[hd]),hen]
     generalize ba g.u f worth=g2 at *;refine wC Tryz.func58 (hf:=(hent)) (hk:=?_);refine wG tK ?_;refine wDF (hb:=(rfl)) (hk:=?_);refine wG tK ?_;refine wP [900] Tryz.func60 (hf:=(hg1)) (hk:=?_);refine wGq tK ?_ ?_ (by simp only[go_sem,ZN,hw1];try exact rfl)
     ·simp[ZN]
     refine ZB ⟨(i+1,g2),⟨by simp only;omega,hgf2,hui2.mono (Nat.le_refl _) (by simp only;omega),hno2,hz2⟩,by simp only;omega,ZU ?_ ?_ ?_⟩
     ·simp[go_sem]
     ·simp[go_sem,ZN]
     ·simp[go_sem]
  ·refine wDT (hb:=QI) (hk:=?_);refine wG tK ?_;refine ag (ar 6) ?_;simp only[go_sem];refine wU ?_ ?_
   ·simp[hgf,goR,he,ZN,au]
   ·have e:gF.u=g.u:=by simp[hgf,goR,he]
    rw[e];simp only[pins,List.cons_append,List.nil_append,List.map_cons,List.map_nil]
    repeat' refine ZH ?_ ?_
    all_goals first | exact YH _ | rfl | simp[go_sem]
 ·have e:i=l.length:=by simp at h;omega
  subst e;rw[List.drop_length] at hgf;have hgu:gF.u=g.u:=by rw[hgf];unfold goR;split<;>rfl
  have hge:gF.e=g.e:=by rw[hgf];unfold goR;split<;>rfl
  have hgn:gF.n=g.n:=by
   rw[hgf];unfold goR;split
   ·rfl
   ·rename_i h0;exact (hz h0).symm
  refine wGq tK ?_ ?_ w6
  ·simp[ZN]
  refine wU ?_ ?_
  ·rw[hge,hgn];rfl
  ·rw[hgu];simp only[pins,List.cons_append,List.nil_append,List.map_cons,List.map_nil]
   repeat' refine ZH ?_ ?_
   all_goals first | exact YH _ | rfl | simp[go_sem]
theorem jR {B T:Nat} (u:U) (h:UInv B T u) (hB:B≤40000000) (hT:T≤900000000000) (path:List UInt8) (hp:path.length≤10000000) (G Y N:Nat->Nat):ae Tryz.prog 28 [.ptr 900 13 0 0,.str path] (cuH u G Y N)
  (λr H=>r=.tup [.agg (ZN (ai u path).n),.str (ai u path).name,.int .i64 (ai u path).e]/\Holds (cuH (ai u path).u G Y N) H):=by
 have hsp:=lZ path z8;have hsl:=bV path;have hdu:ai u path=if (af path).2≠0 then ⟨au,[],(af path).2,u⟩
  else if (af path).1.length=0 then ⟨au,[],7,u⟩
  else ⟨(goU u ((af path).1.take ((af path).1.length-1)) 0).n,(af path).1.getD ((af path).1.length-1) [],
   if (goU u ((af path).1.take ((af path).1.length-1)) 0).e=0/\(goU u ((af path).1.take ((af path).1.length-1)) 0).n.dir=false then 8 else (goU u ((af path).1.take ((af path).1.length-1)) 0).e,
   (goU u ((af path).1.take ((af path).1.length-1)) 0).u⟩:=rfl
 generalize ai u path=dF at *;unfold cn at hsp;generalize af path=S at *;obtain ⟨L,E⟩:=S;obtain ⟨hll,hlx⟩:=hsl;simp only at hdu hll hlx hsp;unfold cuH;refine ZF tK (Tryz.func28) rfl (λC=>?_);simp only[Tryz.ntmps28,Tryz.results28,go_sem];refine wG tK ?_;refine ag (ar 4) ?_;simp only[go_sem];refine wC Tryz.func56 (hf:=(hsp)) (hk:=?_);refine wG tK ?_
 by_cases hE:E=0
 ·refine wDF (hb:=x8) (hk:=?_);refine wG tK ?_;rw[if_neg x8] at hdu
  by_cases hL:L.length=0
  ·rw[if_pos hL] at hdu;refine wDT (hb:=(by simp[hL])) (hk:=?_);refine wG tK ?_;refine ag (ar 4) ?_;simp only[go_sem];refine wU ?_ ?_
   ·rw[hdu];simp[ZN,au]
   ·rw[hdu];simp only[pins,List.cons_append,List.nil_append,List.map_cons,List.map_nil]
    repeat' refine ZH ?_ ?_
    all_goals first | exact YH _ | rfl | simp[go_sem]
  ·rw[if_neg hL] at hdu;have hw:IntKind.i64.wrap ((L.length:Int)-1)=((L.length-1:Nat):Int):=by rw[Eng.wrap_small z8 z8];omega
   have hgo:=uu u h hB hT (L.take (L.length-1)) QH (λx hx=>by have:=(hlx x (List.mem_of_mem_take hx)).1;omega) 0;have hgl:(L.map aP).getD (L.length-1) []=[.str (L.getD (L.length-1) [])]:=by
    have hi:L.length-1<L.length:=by omega
    rw[List.getD_eq_getElem?_getD,List.getElem?_map,List.getD_eq_getElem?_getD,List.getElem?_eq_getElem hi];rfl
   have hLlt:L.length-1<L.length:=by omega
   have htk:(L.map aP).take (L.length-1)=(L.take (L.length-1)).map aP:=List.map_take.symm;unfold cuH gP at hgo;generalize goU u (L.take (L.length-1)) 0=g at *;refine wDF (hb:=(by simp[hL])) (hk:=?_);refine wR ?_;refine wNq tK 6 ?_ ?_ z6 z6 (by simp only[go_sem,hw,htk];try exact rfl)
   ·simp[hw,htk];exact λ_ _=>rfl
   refine wP [900] Tryz.func57 (hf:=(hgo)) (hk:=?_);refine wGq tK ?_ ?_ w6
   ·simp[ZN]
   by_cases hge:g.e=0
   ·cases hd:g.n.dir with
    | true=>
     have hdF:dF=⟨g.n,L.getD (L.length-1) [],g.e,g.u⟩:=by rw[hdu];simp[hd]
     rw[hdF];refine wDF (hb:=WZ) (hk:=?_);refine wG tK ?_;refine ZW ZM ?_;refine ZS rfl ?_;refine sN tK 7 ?_ z6 z6 p9 Qd;refine sN tK 1 ?_;refine sT tK ?_;refine sG tK ?_;refine sE ?_;refine wKd ?_
     try simp only[go_sem,gA,gB,gC]
     refine wG tK ?_;refine wU ?_ ?_
     ·first | (simp[ZN];done) | simp[ZN,hd]
     ·exact q9q
    | false=>
     have hdF:dF=⟨g.n,L.getD (L.length-1) [],8,g.u⟩:=by rw[hdu];simp[hd,hge]
     rw[hdF];refine wDT (hb:=WZ) (hk:=?_);refine wG tK ?_;refine wG tK ?_;refine ZW ZM ?_;refine ZS rfl ?_;refine sN tK 7 ?_ z6 z6 p9 Qd;refine sN tK 1 ?_;refine sT tK ?_;refine sG tK ?_;refine sE ?_;refine wKd ?_
     try simp only[go_sem,gA,gB,gC]
     refine wG tK ?_;refine wU ?_ ?_
     ·first | (simp[ZN];done) | simp[ZN,hd]
     ·exact q9q
   ·have hdF:dF=⟨g.n,L.getD (L.length-1) [],g.e,g.u⟩:=by rw[hdu];simp[hge]
    rw[hdF];refine wDF (hb:=u1) (hk:=?_);refine wG tK ?_;refine ZW ZM ?_;refine ZS rfl ?_;refine sN tK 7 ?_ z6 z6 p9 Qd;refine sN tK 1 ?_;refine sT tK ?_;refine sG tK ?_;refine sE ?_;refine wKd ?_
    try simp only[go_sem,gA,gB,gC]
    refine wG tK ?_;refine wU ?_ ?_
    ·first | (simp[ZN];done) | simp[ZN,hd]
    ·exact q9q
 ·rw[if_pos x8] at hdu;refine wDT (hb:=x8) (hk:=?_);refine wG tK ?_;refine ag (ar 4) ?_;simp only[go_sem];refine wU ?_ ?_
  ·rw[hdu];simp[ZN,au]
  ·rw[hdu];simp only[pins,List.cons_append,List.nil_append,List.map_cons,List.map_nil]
   repeat' refine ZH ?_ ?_
   all_goals first | exact YH _ | rfl | simp[go_sem]
end La
