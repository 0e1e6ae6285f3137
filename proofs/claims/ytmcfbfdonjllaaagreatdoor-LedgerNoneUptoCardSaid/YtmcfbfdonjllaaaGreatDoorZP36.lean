/- Texts of this claim, part 36: SLay, SortW, SortX, TreeK, CU, CKeepH, ShelfN, Sh, NSplit. No condition. -/
import Derived.Shelf.SlSortCmp.InsertionK
import Derived.Shelf.SlicesG.Cmp
import Derived.Shelf.SlSortCmp.WholeK
import Derived.Test.YtmcfbfdonjllaaaGreatDoorZP33
import Derived.Shelf.Strings.Split
set_option maxRecDepth 10000
set_option maxHeartbeats 4000000
set_option linter.unusedSimpArgs false
set_option linter.unusedVariables false
namespace Go.Proofs
open Go.Shelf
def Tryz.EB:Go.Shelf.Ren:=⟨λ| 6=>145 | 15=>172 | 14=>171 | 28=>205 | 29=>206 | 20=>197 | 21=>198 | 22=>199 | 23=>200 | 24=>201 | 25=>202 | 26=>203 | 27=>204 | 46=>224 | 47=>225 | 48=>226 | 49=>227 | 50=>228 | 57=>240 | n=>n,λ| 22=>29 | 24=>94 | 25=>225 | 3=>3 | 39=>244 | 0=>0 | 53=>270 | 55=>272 | 4=>4 | 46=>264 | 45=>263 | 50=>168 | 5=>5 | 9=>9 | 66=>286 | 70=>290 | 76=>296 | 77=>132 | n=>n,λ| n=>n⟩
theorem Tryz.kZ:Go.Proofs.SlLaysF0.n6 Tryz.prog Tryz.EB:={
 mixed:=by kernel_rfl
 f6:=⟨Tryz.f145.name,by decide,Tryz.func145.trans (congrArg some w9)⟩
 f14:=⟨Tryz.f171.name,by decide,Tryz.func171.trans (congrArg some w9)⟩
 f15:=Tryz.func172.trans (congrArg some w9)
 f20:=⟨Tryz.f197.name,by decide,Tryz.func197.trans (congrArg some w9)⟩
 f21:=⟨Tryz.f198.name,by decide,Tryz.func198.trans (congrArg some w9)⟩
 f22:=⟨Tryz.f199.name,by decide,Tryz.func199.trans (congrArg some w9)⟩
 f23:=⟨Tryz.f200.name,by decide,Tryz.func200.trans (congrArg some w9)⟩
 f24:=⟨Tryz.f201.name,by decide,Tryz.func201.trans (congrArg some w9)⟩
 f25:=⟨Tryz.f202.name,by decide,Tryz.func202.trans (congrArg some w9)⟩
 f26:=⟨Tryz.f203.name,by decide,Tryz.func203.trans (congrArg some w9)⟩
 f27:=⟨Tryz.f204.name,by decide,Tryz.func204.trans (congrArg some w9)⟩
 f28:=Tryz.func205.trans (congrArg some w9)
 f29:=Tryz.func206.trans (congrArg some w9)
 f46:=⟨Tryz.f224.name,by decide,Tryz.func224.trans (congrArg some w9)⟩
 f47:=Tryz.func225.trans (congrArg some w9)
 f48:=Tryz.func226.trans (congrArg some w9)
 f49:=⟨Tryz.f227.name,by decide,Tryz.func227.trans (congrArg some w9)⟩
 f50:=⟨Tryz.f228.name,by decide,Tryz.func228.trans (congrArg some w9)⟩
 f57:=⟨Tryz.f240.name,by decide,Tryz.func240.trans (congrArg some w9)⟩
 t0:=Tryz.underlying0
 a0:=Tryz.isAgg0
 z0:=Tryz.sizeOf0
 v0:=Tryz.zeroValue0
 t3:=Tryz.underlying3
 a3:=Tryz.isAgg3
 z3:=Tryz.sizeOf3
 v3:=Tryz.zeroValue3
 t4:=Tryz.underlying4
 a4:=Tryz.isAgg4
 z4:=Tryz.sizeOf4
 v4:=Tryz.zeroValue4
 t5:=Tryz.underlying5
 a5:=Tryz.isAgg5
 z5:=Tryz.sizeOf5
 v5:=Tryz.zeroValue5
 t9:=Tryz.underlying9
 a9:=Tryz.isAgg9
 z9:=Tryz.sizeOf9
 v9:=Tryz.zeroValue9
 t22:=Tryz.underlying29
 a22:=Tryz.isAgg29
 z22:=Tryz.sizeOf29
 v22:=Tryz.zeroValue29
 t25:=Tryz.underlying225
 a25:=Tryz.isAgg225
 z25:=Tryz.sizeOf225
 v25:=Tryz.zeroValue225
 t39:=Tryz.underlying244
 a39:=Tryz.isAgg244
 z39:=Tryz.sizeOf244
 v39:=Tryz.zeroValue244
 t45:=Tryz.underlying263
 a45:=Tryz.isAgg263
 z45:=Tryz.sizeOf263
 v45:=Tryz.zeroValue263
 t46:=Tryz.underlying264
 a46:=Tryz.isAgg264
 z46:=Tryz.sizeOf264
 v46:=Tryz.zeroValue264
 t50:=Tryz.underlying168
 a50:=Tryz.isAgg168
 z50:=Tryz.sizeOf168
 v50:=Tryz.zeroValue168
 t53:=Tryz.underlying270
 a53:=Tryz.isAgg270
 z53:=Tryz.sizeOf270
 v53:=Tryz.zeroValue270
 t55:=Tryz.underlying272
 a55:=Tryz.isAgg272
 z55:=Tryz.sizeOf272
 v55:=Tryz.zeroValue272
 t66:=Tryz.underlying286
 a66:=Tryz.isAgg286
 z66:=Tryz.sizeOf286
 v66:=Tryz.zeroValue286
 t70:=Tryz.underlying290
 a70:=Tryz.isAgg290
 z70:=Tryz.sizeOf290
 v70:=Tryz.zeroValue290
 t76:=Tryz.underlying296
 a76:=Tryz.isAgg296
 z76:=Tryz.sizeOf296
 v76:=Tryz.zeroValue296
 t77:=Tryz.underlying132
 a77:=Tryz.isAgg132
 z77:=Tryz.sizeOf132
 v77:=Tryz.zeroValue132 }
def Tryz.Fh:Go.Shelf.Ren:=⟨λ| 5=>147 | 7=>173 | n=>n,λ| 22=>3 | 3=>3 | 4=>4 | n=>n,λ| n=>n⟩
theorem Tryz.jt:Go.Proofs.SlLaysC2.n5 Tryz.prog Tryz.Fh:={
 mixed:=by kernel_rfl
 f5:=⟨Tryz.f147.name,by decide,Tryz.func147.trans (congrArg some w9)⟩
 f7:=⟨Tryz.f173.name,by decide,Tryz.func173.trans (congrArg some w9)⟩
 t3:=Tryz.underlying3
 a3:=Tryz.isAgg3
 z3:=Tryz.sizeOf3
 v3:=Tryz.zeroValue3
 t4:=Tryz.underlying4
 a4:=Tryz.isAgg4
 z4:=Tryz.sizeOf4
 v4:=Tryz.zeroValue4
 t22:=Tryz.underlying3
 a22:=Tryz.isAgg3
 z22:=Tryz.sizeOf3
 v22:=Tryz.zeroValue3 }
end Go.Proofs
namespace La
open Go Go.Eng Go.Proofs Go.Proofs.Tryz
structure Five where
 fid:Int
 rest:List Value
 len:rest.length=4
 one:∀v∈rest,v.oneCell'=true
instance:Inhabited Five:=⟨⟨0,[.bool false,.bool false,.bool false,.bool false],rfl,by simp[Value.oneCell']⟩⟩
def Five.enc (x:Five):List Value:=.int .i64 x.fid::x.rest
theorem Five.CJ (x:Five):x.enc.length=5:=by unfold Five.enc;rw[List.length_cons,x.len]
theorem Five.Ix (x:Five):∀v∈x.enc,v.oneCell'=true:=by
 intro v hv
 rcases List.mem_cons.1 hv with rfl | hv
 ·rfl
 ·exact x.one v hv
def tJ (x y:Five):Int:=Lib.compareInt x.fid y.fid
theorem xK (x y:Five):ltOf tJ x y=decide (x.fid<y.fid):=by
 unfold ltOf tJ Lib.compareInt
 by_cases h1:x.fid<y.fid
 ·simp[h1]
 ·by_cases h2:y.fid<x.fid<;>simp[h1,h2]
theorem JF:Sort.SWO (ltOf tJ) where
 irrefl x:=by rw[xK];simp
 trans x y z h1 h2:=by rw[xK] at *;simp at *;omega
 ntrans x y z h1 h2:=by rw[xK] at *;simp at *;omega
theorem Ba (a b:Int) (a1 a2 a3 a4 b1 b2 b3 b4:Value) (W:World) :
  Calls prog 146 #[.agg #[.int .i64 a,a1,a2,a3,a4],.agg #[.int .i64 b,b1,b2,b3,b4]] W λe w'=>e=.returned (.int .i64 (Lib.compareInt a b))/\∃q os',w'=Sort.grow (W.drewN q) os':=by
 have hcon:=λW'=>AnyG.cmp_Compare_int Tryz.jt a b W'
 change ∀W',Calls prog 147 _ _ _ at hcon
 generalize Lib.compareInt a b=r at hcon ⊢
 go_enter func146,ntmps146
 go_wp2_with (go_at_call 147;refine (hcon _).mono ?_;rintro e w' ⟨rfl,rfl⟩)
 go_ret
 exact ⟨rfl,0,_,by rw[Sort.alloc_eq_grow,Sort.alloc_eq_grow,Sort.grow_grow];rfl⟩
theorem Ij (blk off size:Nat) (w:World):CmpLays prog 146 #[] Five.enc 5 tJ blk off size w:=by
 intro m os dk _ x y;obtain ⟨a,l,hl,_⟩:=x;obtain ⟨b,l',hl',_⟩:=y;obtain ⟨a1,a2,a3,a4,rfl⟩:∃a1 a2 a3 a4,l=[a1,a2,a3,a4]:=by
  match l,hl with
  | [a1,a2,a3,a4],_=>exact ⟨a1,a2,a3,a4,rfl⟩
 obtain ⟨b1,b2,b3,b4,rfl⟩:∃b1 b2 b3 b4,l'=[b1,b2,b3,b4]:=by
  match l',hl' with
  | [a1,a2,a3,a4],_=>exact ⟨a1,a2,a3,a4,rfl⟩
 exact Ba a b a1 a2 a3 a4 b1 b2 b3 b4 _
theorem DS {α β:Type} {f:β->α} {d' d:List α} (h:d'.Perm d):∀z:List β,z.map f=d->∃z':List β,z'.Perm z/\z'.map f=d':=by
 induction h with
 | nil=>intro z hz;exact ⟨z,.refl _,hz⟩
 | cons x _ ih=>
  intro z hz;obtain ⟨q,z0,rfl,rfl,hz0⟩:=List.map_eq_cons_iff.1 hz;obtain ⟨z',h1,h2⟩:=ih z0 hz0;exact ⟨q::z',h1.cons q,by simp[h2]⟩
 | swap x y l=>
  intro z hz;obtain ⟨q,z0,rfl,rfl,hz0⟩:=List.map_eq_cons_iff.1 hz;obtain ⟨q2,z1,rfl,rfl,hz1⟩:=List.map_eq_cons_iff.1 hz0;exact ⟨q2::q::z1,.swap _ _ _,by simp[hz1]⟩
 | trans _ _ ih1 ih2=>
  intro z hz;obtain ⟨z1,h1,h2⟩:=ih2 z hz;obtain ⟨z2,h3,h4⟩:=ih1 z1 h2;exact ⟨z2,h3.trans h1,h4⟩
theorem IB {S:Nat->Prop} {w:World} (f:Nat->Value) (n:Node) (h:∀j a,(ZN n)[j]? = some a->RdP S w (f j) a) :
  ∃x:Five,x.fid=n.fid/\x.enc=[f 0,f 1,f 2,f 3,f 4]:=by
 have h0:=h 0 _ rfl;have h1:=h 1 _ rfl;have h2:=h 2 _ rfl;have h3:=h 3 _ rfl;have h4:=h 4 _ rfl;have o1:(f 1).oneCell'=true:=by generalize f 1=v at h1;cases h1;rfl
 have o2:(f 2).oneCell'=true:=by generalize f 2=v at h2;cases h2;rfl
 have o3:(f 3).oneCell'=true:=by generalize f 3=v at h3;cases h3;rfl
 have o4:(f 4).oneCell'=true:=by generalize f 4=v at h4;cases h4;rfl
 refine ⟨⟨n.fid,[f 1,f 2,f 3,f 4],rfl,?_⟩,rfl,?_⟩
 ·intro v hv;simp at hv
  rcases hv with rfl | rfl | rfl | rfl<;>assumption
 ·unfold Five.enc;have:f 0=.int .i64 n.fid:=by generalize f 0=v at h0;cases h0;rfl
  rw[this]
theorem lF (n:Node):(ZN n).length=5:=rfl
theorem Jl {μ:Nat->Option Nat} {S:Nat->Prop} {w:World} {v:Value} {n:Node} {j:Nat} {a:AV} (ha:(ZN n)[j]? = some a) (h:Rd μ S w v a):RdP S w v a:=by
 have hj:j<5:=by
  have:=(W9.1 ha).1
  rwa [lF] at this
 match j,hj,ha with
 | 0,_,ha=>cases ha;cases h;assumption
 | 1,_,ha=>cases ha;cases h;assumption
 | 2,_,ha=>cases ha;cases h;assumption
 | 3,_,ha=>cases ha;cases h;assumption
 | 4,_,ha=>cases ha;cases h;assumption
theorem EC (id:Nat) (hid:id<5000) (G Y N:Nat->Nat) (l l':List Node) (h0:0<l.length) (hlen:l.length<=100000000)
  (hu:∀p:List Node,p.Perm l->p.Pairwise (λa b=>a.fid<=b.fid)->p=l') :
  ai prog 145 [.osl id 5 0 l.length,.fn 146 []] ([(id,.cells 94 5 (l.map ZN))]++pins [id] G Y N) (λr H=>r=.tup []/\∀i b,aa ([(id,.cells 94 5 (l'.map ZN))]++pins [id] G Y N) i=some b->aa H i=some b):=by
 intro R0 μ w0 vs hvl hargs hH hR;obtain ⟨v0,v1,rfl⟩:∃v0 v1,vs=[v0,v1]:=by
  match vs,hvl with
  | [a,b],_=>exact ⟨a,b,rfl⟩
 have hv0:Rd μ R0 w0 v0 (.osl id 5 0 l.length):=hargs 0 _ rfl;have hv1:Rd μ R0 w0 v1 (.fn 146 []):=hargs 1 _ rfl;clear hargs hvl;have e1:v1=.func (.func 146) #[] #[]:=by
  cases hv1 with
  | pure h=>
   cases h with
   | fn f vals caps hl hr=>
    have:vals=#[]:=Array.eq_empty_of_size_eq_zero Qj;rw[this]
  | fn f vals caps hl hr=>
   have:vals=#[]:=Array.eq_empty_of_size_eq_zero Qj;rw[this]
 subst e1;have hget1:∀(R:List (List AV)) id' b,aa ([(id,Blk.cells 94 5 R)]++pins [id] G Y N) id'=some b->(id'=id/\b=.cells 94 5 R)\/(id'=5000+id/\b=.pin id (G id) (Y id) (N id)):=by
  intro R id' b h
  by_cases h1:id'=id
  ·subst h1;simp[aa,pins] at h;exact .inl ⟨rfl,h.symm⟩
  ·by_cases h2:id'=5000+id
   ·subst h2;simp[aa,pins] at h;exact .inr ⟨rfl,h.symm⟩
   ·simp[aa,pins,Ne.symm h1,Ne.symm h2] at h
 have hget2:∀(R:List (List AV)),aa ([(id,Blk.cells 94 5 R)]++pins [id] G Y N) id=some (.cells 94 5 R):=by
  intro R;simp[aa]
 have hget3:∀(R:List (List AV)),aa ([(id,Blk.cells 94 5 R)]++pins [id] G Y N) (5000+id)=some (.pin id (G id) (Y id) (N id)):=by
  intro R;simp[aa,pins]
 have hb:=hH.blk id _ (hget2 _);have hpin:=hH.blk (5000+id) _ (hget3 _)
 rcases hb with ⟨hb,_⟩ | ⟨g,c,hg,hgw,hsz,_,hrd⟩
 ·simp at hb;subst hb;simp at h0
 have hv0':∃cap,v0=.slice (some ⟨g,0,none⟩) l.length cap:=by
  cases hv0 with
  | pure h=>cases h
  | osl id size off len cap A hc h=>
   rcases h with ⟨h,_⟩ | ⟨g',e,n,hg',rfl,_,_⟩
   ·omega
   ·rw[hg] at hg';injection hg' with hg';subst hg'
    exact ⟨cap,by simp⟩
 obtain ⟨cap,rfl⟩:=hv0';clear hv0 hv1;have hgd:=hH.dom id g hg;simp only[List.length_map] at hsz
 -- the five cells of each
 have hF:∀i:Fin l.length,∃x:Five,x.fid=l[i].fid/\x.enc=[c.getD (i.1*5+0) undef,c.getD (i.1*5+1) undef,c.getD (i.1*5+2) undef,c.getD (i.1*5+3) undef,c.getD (i.1*5+4) undef] /\
   ∀j a,(ZN l[i])[j]? = some a->RdP R0 w0 (x.enc.getD j undef) a:=by
  intro i;have hk:∀j a,(ZN l[i])[j]? = some a->RdP R0 w0 (c.getD (i.1*5+j) undef) a:=λj a ha=>
   Jl ha (hrd i.1 (ZN l[i]) w8 j a ha)
  obtain ⟨x,hx,hxe⟩:=IB (λj=>c.getD (i.1*5+j) undef) l[i] hk;refine ⟨x,hx,hxe,λj a ha=>?_⟩;have hj:j<5:=by
   have:=(W9.1 ha).1
   rwa [lF] at this
  have:=hk j a ha;rw[hxe]
  match j,hj,this with
  | 0,_,h=>exact h
  | 1,_,h=>exact h
  | 2,_,h=>exact h
  | 3,_,h=>exact h
  | 4,_,h=>exact h
 obtain ⟨F,hF⟩:=Classical.axiomOfChoice hF;have hds:(Array.ofFn F).size=l.length:=Array.size_ofFn;have hdg:∀i (hi:i<l.length),(Array.ofFn F)[i]! = F ⟨i,hi⟩:=λi hi=>by
  rw[getElem!_pos _ i (by rw[hds];exact hi),Array.getElem_ofFn]
 generalize hd:Array.ofFn F=d at hds hdg;have hold:Sort.HoldsK Five.enc 5 w0 g 0 d:=by
  intro t ht;rw[Sort.size_flatK,hds] at ht;have hi:t / 5<l.length:=by omega
  have hc:t<c.size:=by omega
  have e:t=t / 5*5+t % 5:=by omega
  rw[Sort.get_flatK _ _ _ _ (by rw[hds];exact ht),hdg _ hi,(hF ⟨t / 5,hi⟩).2.1,Yd];constructor
  ·have:w0.cell? ⟨g,t,none⟩=some (c.getD t undef):=by
    simp[World.cell?,hgw,hc]
   rw[this];have hm:t % 5<5:=Nat.mod_lt _ z8;generalize t % 5=m at e hm;simp only
   match m,hm with
   | 0,_=>rw[<-e];rfl
   | 1,_=>rw[<-e];rfl
   | 2,_=>rw[<-e];rfl
   | 3,_=>rw[<-e];rfl
   | 4,_=>rw[<-e];rfl
  ·simp[World.frozen?,hgw]
 have eg:∀args w,(callFunc 146 args).run prog w=.ok (.enter 146 args) w:=enters_of func146 w9 rfl;have hcon:=AnyQ.slices_SortFunc Tryz.kZ 5 isAgg94 Tryz.sizeOf94 Five.enc Five.CJ Five.Ix tJ JF 146 #[] g 0 cap d w0 eg (Ij g 0 d.size w0) hold hgd.2.2 (by rw[hds];omega);rw[hds] at hcon;refine hcon.mono ?_;rintro e W ⟨rfl,d',n,os,hp,hs,hW⟩;have hps:d'.size=l.length:=hp.1.trans hds
 -- the world behind it
 have hWh:W.heap=(w0.heap.modify g (Sort.onCells (Sort.putCells (λv=>v) 0 (Sort.flatK Five.enc 5 d'))))++os:=by rw[hW];rfl
 have hout:∀b,b<w0.heap.size->b≠g->W.heap[b]? = w0.heap[b]?:=λb hb hne=>by
  rw[hWh,Yj (by simpa using hb),Array.getElem?_modify,if_neg (Ne.symm hne)]
 have hin:W.heap[g]? = some (.cells (Sort.putCells (λv=>v) 0 (Sort.flatK Five.enc 5 d') c) 94 (0,0)):=by
  rw[hWh,Yj (by simpa using hgd.2.2),Array.getElem?_modify,if_pos rfl,hgw];rfl
 have hcs:(Sort.putCells (λv=>v) 0 (Sort.flatK Five.enc 5 d') c).size=c.size:=by simp[Sort.putCells]
 have hwsz:w0.heap.size<=W.heap.size:=by rw[hWh];simp
 -- the nodes behind it
 have hz1:(List.ofFn λi:Fin l.length=>(F i,l[i.1]'i.2)).map (·.1)=d.toList:=by
  rw[<-hd,Array.toList_ofFn,List.map_ofFn];rfl
 have hz2:(List.ofFn λi:Fin l.length=>(F i,l[i.1]'i.2)).map (·.2)=l:=by
  rw[List.map_ofFn];refine List.ext_getElem w8 λi h1 h2=>by simp
 have hzQ:∀q∈(List.ofFn λi:Fin l.length=>(F i,l[i.1]'i.2)),q.1.fid=q.2.fid/\∀j a,(ZN q.2)[j]? = some a->RdP R0 w0 (q.1.enc.getD j undef) a:=by
  intro q hq;obtain ⟨i,rfl⟩:=List.mem_ofFn.1 hq;exact ⟨(hF i).1,(hF i).2.2⟩
 generalize (List.ofFn λi:Fin l.length=>(F i,l[i.1]'i.2))=z at hz1 hz2 hzQ;have hperm:d'.toList.Perm d.toList:=by
  have:=hp.2.2;have a1:d'.extract 0 l.length=d':=by rw[<-hps];simp
  have a2:d.extract 0 l.length=d:=by rw[<-hds];simp
  rwa [a1,a2] at this
 obtain ⟨z',hzp,hz'⟩:=DS hperm z hz1;have hzl:z'.length=l.length:=by rw[hzp.length_eq,<-hz2,List.length_map]
 have hzi:∀i (hi:i<z'.length),d'[i]! = (z'[i]).1:=λi hi=>by
  have:d'.toList[i]? = some (z'[i]).1:=by rw[<-hz',W5,W3 hi];rfl
  rw[getElem!_pos _ i (by rw[hps];omega)];rw[Array.getElem?_toList] at this;rw[YK (by rw[hps];omega)] at this;injection this
 have hQ':∀q∈z',q.1.fid=q.2.fid/\∀j a,(ZN q.2)[j]? = some a->RdP R0 w0 (q.1.enc.getD j undef) a:=λq hq=>hzQ q (hzp.mem_iff.1 hq)
 have hpl:z'.map (·.2)=l':=by
  refine hu _ (by rw[<-hz2];exact hzp.map _) ?_;rw[Yr];intro i j hi hj hij;simp only[List.length_map] at hi hj;simp only[List.getElem_map];have:=hs i j (Ys _) hij z8;rw[xK,hzi i hi,hzi j hj,(hQ' _ (YY hi)).1,(hQ' _ (YY hj)).1] at this;simpa using this
 have hl':l'.length=l.length:=by rw[<-hpl,List.length_map,hzl]
 have hne:∀b,R0 b->b≠g:=λb hb e=>hgd.2.1 (e▸hb)
 have hsame:aI R0 w0 W:=λb hb=>hout b (hR b hb) (hne b hb)
 refine ⟨_,.tup [],[(id,.cells 94 5 (l'.map ZN))]++pins [id] G Y N,μ,R0,rfl,⟨rfl,λ_ _ h=>h⟩,.tup #[] [] rfl w8,⟨?_,?_,hH.inj,?_⟩,?_,λid' g' h=>.inl ⟨id',h⟩,λb hb=>⟨Yc (hR b hb) hwsz,.inl hb⟩⟩
 ·intro id' b h
  rcases hget1 _ id' b h with ⟨rfl,rfl⟩ | ⟨rfl,rfl⟩
  rotate_left
  ·obtain ⟨q1,q2,q3⟩:=hpin;refine ⟨q1,q2,?_⟩;rw[<-q3];have hgg:g=G id:=by rw[hg] at q2;injection q2
   rw[<-hgg];unfold ag;rw[hin,hgw];simp only[hcs]
  refine .inr ⟨g,_,hg,hin,by rw[hcs,List.length_map,hl'];exact hsz,λrow hrow=>?_,?_⟩
  ·obtain ⟨n,_,rfl⟩:=W8.1 hrow;rfl
  ·intro i row hrow j x hx;obtain ⟨n,hn,rfl⟩:=W5 ..▸hrow |> YX.1
   have hj:j<5:=by
    have:=(W9.1 hx).1
    rwa [lF] at this
   have hi:i<l'.length:=(W9.1 hn).1;have hiz:i<z'.length:=by omega
   have hnz:(z'[i]).2=n:=by
    rw[<-hpl,W5,W3 hiz] at hn;injection hn
   have hq:=(hQ' _ (YY hiz)).2 j x (by rw[hnz];exact hx);have hval:(Sort.putCells (λv=>v) 0 (Sort.flatK Five.enc 5 d') c).getD (i*5+j) undef=(z'[i]).1.enc.getD j undef:=by
    have hlt:i*5+j<c.size:=by omega
    have hlt2:i*5+j<d'.size*5:=by rw[hps];omega
    rw[Array.getD_eq_getD_getElem?];simp only[Sort.putCells,Array.getElem?_mapIdx,YK hlt,Option.map_some,Option.getD_some,Nat.sub_zero,Sort.size_flatK];rw[if_pos ⟨Ys _,by omega⟩,Sort.get_flatK _ _ _ _ hlt2];have q1:(i*5+j) / 5=i:=by omega
    have q2:(i*5+j) % 5=j:=by omega
    rw[q1,q2,hzi i hiz];have hel:=Five.CJ (z'[i]).1;rw[getElem!_pos _ j z8,List.getD_eq_getElem?_getD,W3 z8];rfl
   rw[hval];exact .pure (hq.mono hsame λ_ h=>h)
 ·intro id' g' h;have:=hH.dom id' g' h;obtain ⟨⟨b,hb⟩,h2,h3⟩:=this
  rcases hget1 _ id' b hb with ⟨he,_⟩ | ⟨he,_⟩
  ·exact ⟨⟨_,by rw[he];exact hget2 _⟩,h2,Yc h3 hwsz⟩
  ·rw[he,hpin.1] at h;cases h
 ·exact ⟨λb hb=>⟨Yc (hH.glob.1 b hb).1 hwsz,(hH.glob.1 b hb).2⟩,glb.same w0 W (λb hb=>hout b (hH.glob.1 b hb).1 (λe=>(hH.glob.1 b hb).2 ⟨id,e▸hg⟩)) hH.glob.2⟩
 ·exact ⟨by rw[hW];rfl,by rw[hW];rfl,by rw[hW];rfl,hwsz,λb hb hA=>hout b hb (λe=>hA ⟨id,e▸hg⟩)⟩
theorem Bz:Fo 206 [.int .u64 0] (.int .i64 0):=by
 refine wSG func206 ntmps206 results206 λC=>?_
 refine wFG ?_ (hb:=w8);refine wFG ?_ (hb:=w8);refine wDF ?_ (hb:=w8);refine wR ?_;refine wN 3 ?_;refine wNq 1 ?_ ?_
 ·decide
 refine wGT ?_;rfl
theorem F8:Fo 172 [.int .u64 0] (.int .i64 0):=by
 refine wSG func172 ntmps172 results172 λC=>?_
 refine wFG ?_ (hb:=rfl);refine wC ?_ func206 (hf:=Bz);refine wGT ?_;rfl
theorem ED (l:List Node) (hl:UpN l) (hlen:l.length=0):Fo 145 [.sl (l.map ZN),.fn 146 []] (.tup []):=by
 have hp:=Lv l hl z8 0;rw[hlen] at hp;refine wSG func145 ntmps145 results145 λC=>?_
 have hu:IntKind.u64.wrap ((0:Nat):Int)=0:=by decide
 rw[hlen,hu];refine wCg ?_ func172 (hf:=F8);refine wCg ?_ func171 (hf:=hp);refine iD ⟨_,_,rfl,trivial,.tup [],.inr (.inl rfl),rfl⟩
theorem yF (l:List Kept) (hl:SmallK l) (hu:sV l=true):Fo 108 [.sl (l.map ZK)] (.sl ((kZ (aO l)).map ZN)):=by
 have hnl:(aO l).length=l.length:=by simp[aO]
 have hns:Small (aO l):=xT hl;have hd:∀i,i<(aO l).length->∀j,j<i->gq (aO l) j≠gq (aO l) i:=by
  have hU:oU l l.length:=of_decide_eq_true hu;intro i hi j hj;have h1:=hU i z8 j hj;have hf:∀i,i<l.length->gq (aO l) i=yW l i:=λi hi=>by
   unfold gq yW aO;rw[List.getD_eq_getElem?_getD,List.getD_eq_getElem?_getD,W5,W3 hi];rfl
  rw[hf j z8,hf i z8];exact h1
 have hsl:=wE _ hd;have hlen:=hl.len;refine wSG func108 ntmps108 results108 λC=>?_
 refine wL l.length (λi=>(3,.osl 16 5 0 i)::(5,.any)::(8,.int .i64 i)::u0 9 9 [])
  (λi=>[(16,.cells 94 5 (((aO l).take i).map ZN))]) ?_ λi hi=>?_
 ·exact wY
 simp only[go_sem];refine wGD (λh=>?_) (λh=>?_)
 ·have hlt:=lt1 h;have hg:=Fam.getD (f:=ZK) hlt;have hs:=Ad l i hlt;generalize l.getD i default=n at hg hs;have ht:List.take i (List.map ZN (List.take i (aO l)))=List.map ZN (List.take i (aO l)):=W4 k6;have hw:IntKind.i64.wrap ((i:Int)+1)=(i:Int)+1:=wrap_small z8 z8;refine wGq ?_ ?_ (by simp only[go_sem,hg,ZK,ht,hw];try exact rfl)
  ·simp[hlt,ZK,rowsOf];omega
  refine ZB ⟨i+1,by omega,by omega,ZU ?_ ?_ ?_⟩
  ·simp[go_sem]
  ·simp[go_sem,hs,ZN]
  ·simp only[go_sem]
 ·obtain rfl:=eq1 hi h;refine wG ?_;refine ZZ 16 rfl (fm _) ?_;rw[<-hnl,W7];simp only[go_sem]
  by_cases h0:(aO l).length=0
  ·refine wCg ?_ func66 (hf:=lI _ hns);have hnil:aO l=[]:=List.eq_nil_of_length_eq_zero h0;refine wC ?_ func145 (hf:=ED _ (by intro i h1 h2;omega) h0);refine wGT ?_;rw[hnil];rfl
  ·refine wCG ?_ [] 100 func66 (hf:=sK _ hns);refine wG ?_;have hne:aO l≠[]:=λe=>h0 (by rw[e];rfl)
   refine bC rfl (dY rfl z7 w3 ⟨_,func145,by kernel_rfl,rfl⟩ [123] w6 w3 w8 Zo w3 w3 (λG Y N=>EC 123 x7 G Y N (aO l) (kZ (aO l)) z8 z8 (uE _ hd)) w7) ?_;refine wG ?_;refine ZZ 123 rfl (fm _) (wn ?_);refine wT ?_;rw[if_pos z8,W4 (by rw[List.length_map,hsl];exact YA _)]
variable {Fa:Prop}
def cuH (u:U) (G Y N:Nat->Nat):List (Nat×Blk):=[(900,.cells 146 13 [bt u])]++pins [900] G Y N
theorem Ky (l:List Kept) (fid now:Int) (hl:SmallK l):ai prog 144 [.sl (l.map ZK),.int .i64 fid,.int .i64 now] [] (λr H=>r=.osl 1000 8 0 l.length/\∀i b,aa [(1000,.cells 138 8 ((ym l fid now).map ZK))] i=some b->aa H i=some b):=by
 refine wSG func144 ntmps144 results144 λC=>?_
 refine wCG ?_ [] 978 func68 (hf:=kJ l hl);refine wG ?_;refine wV ?_ func157 (hf:=nE l fid hl.len);unfold ym;cases e:b_ l fid with
 | none=>
  simp only[cq];refine wGD (λh=>?_) (λh=>?_)
  ·cases h
  refine wGT ?_;simp[go_sem]
 | some i=>
  have hi:=qF e;have hlen:=hl.len;have hg:=gV hi;have hs:=jY l i { l.getD i default with last:=now };simp only[ZK] at hs;simp only[cq];refine wGD (λh=>?_) (λh=>?_)
  ·refine wGq ?_ ?_ Zn
   ·simp[hg];omega
   refine wT ?_;simp[go_sem]
  ·simp at h
def kz (fid w:Int) (k:Kept):Kept:=if k.node.fid=fid then { k with worth:=mT k.worth w } else k
theorem Cv (fid w c:Int) (k:Kept):kz fid w (ES fid c k)=gb fid w c k:=by
 unfold kz ES gb
 by_cases h:k.node.fid=fid
 ·rw[if_pos h,if_pos h];simp[h]
 ·rw[if_neg h,if_neg h,if_neg h]
def dE (M:List Kept) (fid w:Int) (i:Nat):List Kept:=(M.take i).map (kz fid w)++M.drop i
theorem A1 (M:List Kept) (fid w:Int) (i:Nat):(dE M fid w i).length=M.length:=by
 unfold dE;rw[List.length_append,List.length_map,YF,YZ];omega
theorem Cx {M:List Kept} (fid w:Int) {i:Nat} (h:i<M.length):(dE M fid w i).getD i default=M.getD i default:=by
 have hl:((M.take i).map (kz fid w)).length=i:=by rw[List.length_map,YF];omega
 unfold dE;rw[List.getD_eq_getElem?_getD,List.getD_eq_getElem?_getD,YQ z8,hl,List.getElem?_drop,Yq,Nat.add_zero]
theorem A3 {M:List Kept} (fid w:Int) {i:Nat} (h:i<M.length):(dE M fid w i).set i (kz fid w (M.getD i default))=dE M fid w (i+1):=by
 have hl:((M.take i).map (kz fid w)).length=i:=by rw[List.length_map,YF];omega
 unfold dE;rw[ZT h,List.map_append,List.set_append_right _ _ z8,hl,Yq,ck h,List.set_cons_zero,List.append_assoc];rfl
theorem yp {M:List Kept} {fid w:Int} {i:Nat} (h:i<M.length) (hf:(M.getD i default).node.fid≠fid):dE M fid w (i+1)=dE M fid w i:=by
 unfold dE;rw[ZT h,List.map_append,ck h,List.append_assoc]
 congr 1
 show kz fid w (M.getD i default)::_=_
 unfold kz;rw[if_neg hf];rfl
theorem AZ {l:List Kept} (hu:sV l=true) (fid w c:Int):dE (ym l fid c) fid w (ym l fid c).length=l.map (gb fid w c):=by
 unfold dE;rw[W7,List.drop_length,List.append_nil,Kx hu,Yi];exact Ym λk _=>Cv fid w c k
theorem G6 {l:List Kept} (fid c:Int):(ym l fid c).length=l.length:=by
 unfold ym;cases b_ l fid with
 | none=>rfl
 | some i=>exact YR
theorem DB (l:List Kept) (fid:Int):FM l fid=(dV l fid).isSome:=by
 unfold FM dV;rw[Option.isSome_map,Yv,List.any_eq_true,List.find?_isSome]
theorem Bh {c:Cli} (h:(c.cache.map λk=>k.node.fid).Nodup) (f:Int):ak (cQ c) f=dV c.cache f:=by
 cases e:dV c.cache f with
 | some n=>
  obtain ⟨k,hk,hn,hf⟩:=kP e;exact (ZO (jM c)).2 ⟨(fp h n).2 ⟨k,hk,hn⟩,hf⟩
 | none=>
  refine (eO (jM c)).2 λx hx hf=>?_
  obtain ⟨k,hk,rfl⟩:=(fp h x).1 hx;unfold dV at e;rw[Option.map_eq_none_iff,List.find?_eq_none] at e;exact absurd hf (by simpa using e k hk)
theorem UInvF.ye {B T:Nat} {u:U} (h:UInvF Fa B T u):SmallK u.c.cache:=⟨by have:=h.cli.len;have:=h.cli.room;omega,λk hk=>⟨by have:=h.cli.data k hk;omega,by have:=h.cli.ent k hk;omega⟩⟩
theorem mG {B T:Nat} (u:U) (h:UInvF Fa B T u) (hB:B<=40000000) (hT:T<=1000000000000) (fid worth:Int) (G Y N:Nat->Nat):ai prog 106 [.ptr 900 13 0 0,.int .i64 fid,.int .i64 worth] (cuH u G Y N)
  (λr H=>r=iG (bd u fid worth)/\Holds (cuH (bd u fid worth).u G Y N) H):=by
 have hcl:=h.cli.clock;have hlen:u.c.cache.length<=24:=by have:=h.cli.len;have:=h.cli.room;omega
 have hnod:=h.cli.nod;have hun:=oT hnod;have hsk:=h.ye;have hgsm:=h.cli.bs.small;have hup:=h.srv.hist.bs.up;have htl:u.s.tree.length<=24:=h.srv.hist.bs.len;have hts:Small u.s.tree:=h.srv.hist.bs.small;have hw:IntKind.i64.wrap (u.c.clock+1)=u.c.clock+1:=Eng.wrap_small z8 z8;have hhas:=Lk u.c.cache fid z8;rw[DB] at hhas;unfold cuH bt;refine wS func106 ntmps106 results106 λC=>?_
 refine wG ?_ w4 y7;refine af (au 6) (wn ?_);refine wCg ?_ func143 (hf:=hhas);cases hnk:dV u.c.cache fid with
 | some n=>
  have hG:bd u fid worth=⟨n,0,cy u fid worth⟩:=by unfold bd;rw[hnk]
  rw[hG];refine wTG ?_ (hb:=rfl);have huse:=Ky u.c.cache fid (u.c.clock+1) hsk;have hul:=G6 (l:=u.c.cache) fid (u.c.clock+1);have hall:=AZ hun fid worth (u.c.clock+1);rw[hul] at hall;generalize ym u.c.cache fid (u.c.clock+1)=M at *;rw[<-hul] at huse;refine wO ?_;refine sN 12 ?_;refine g_ 2000 rfl rfl z7 w3 ⟨_,func144,by kernel_rfl,rfl⟩ w3 (huse) w3 z7 z7 w3 z6 z6 ?_;refine sG ?_;refine sE ?_;refine dS ?_;refine wKG ?_;refine wL M.length (λi=>(8,.any)::(53,.int .i64 i)::u0 54 34 [])
   (λi=>[(3000,.cells 138 8 ((dE M fid worth i).map ZK))]) ?_ λi hi=>?_
  ·simp only[go_sem];exact ZU w3 (by simp[go_sem,dE]) w3
  simp only[go_sem];refine wGD (λh=>?_) (λh=>?_)
  ·have hlt:=lt1 h;have hw1:=wi1 (i:=i) z8;have hDl:=A1 M fid worth i;have hat:=Cx fid worth hlt;have hst:=A3 fid worth hlt;have hsy:=@yp M fid worth i hlt;generalize hD2:dE M fid worth (i+1)=D2 at *;generalize dE M fid worth i=D at *;have hg:=gV (M:=D) (i:=i) z8;rw[hat] at hg;generalize M.getD i default=k at *;refine wGq ?_ ?_ u6
   ·simp[hg,hDl,hlt]
   refine wD (λh=>?_) (λh=>?_)
   ·have hf:k.node.fid=fid:=by simpa using h
    have hs:=jY D i (kz fid worth k);rw[hst] at hs;simp only[ZK,kz,if_pos hf,mT] at hs;refine wGS ?_;refine sNq 16 ?_ ?_ z6 z6 u6
    ·simp[hg,hDl,hlt]
    refine yd rfl rfl (q:=.i64) (q':=.i64) (u:=k.worth) (v:=worth) z7 z7 z6 z6 ?_;refine sNq 2 ?_ ?_ z6 z6 u6
    ·simp[hg,hDl,hlt]
    refine sE ?_;refine dSq ?_ ?_
    ·simp[go_sem,hg,hDl,hlt]
    refine wKn ?_;refine wG ?_ (by simp only[go_sem,hw1,hg,hs];try exact rfl) (by simp[go_sem,hw1,hg,hs]);exact ZB ⟨i+1,by omega,by omega,ZU w3 (by simp[go_sem,hD2]) w3⟩
   ·have hf:k.node.fid≠fid:=by simpa using h
    have hsy:=hsy hf;refine wG ?_ k8 p7;exact ZB ⟨i+1,by omega,by omega,ZU w3 (by simp[go_sem,hD2,hsy]) w3⟩
  ·obtain rfl:=eq1 hi h;rw[hul,hall];have htk:List.take u.c.cache.length ((u.c.cache.map (gb fid worth (u.c.clock+1))).map ZK)=(u.c.cache.map (gb fid worth (u.c.clock+1))).map ZK:=W4 w8;have hct:=yF (u.c.cache.map (gb fid worth (u.c.clock+1))) ⟨by rw[List.length_map];omega,λk hk=>by obtain ⟨x,hx,h1,_⟩:=jA hk;rw[<-h1];exact hsk.each x hx⟩ (oT (by rw[wc];exact hnod));rw[t_,show kZ (aO u.c.cache)=cQ u.c from rfl] at hct;have hfd:=dD (cQ u.c) fid hgsm;unfold fS at hfd;rw[cK,Bh hnod,hnk] at hfd;simp only[Option.getD_some,Option.isSome_some] at hfd;refine wR ?_;refine ZZ 3000 rfl (bg _) ?_;simp only[go_sem,htk];refine wG ?_;refine wCg ?_ func108 (hf:=hct);refine wC ?_ func82 (hf:=hfd);refine wGq ?_ ?_ w5
   ·simp[ZN]
   refine wU ?_ ?_
   ·rfl
   ·exact q9
 | none=>
  refine wFG ?_ (hb:=rfl);have hlk:u.c.cache.map (gb fid worth (u.c.clock+1))=u.c.cache:=by
   refine (Ym λk hk=>?_).trans (List.map_id _);have hne:k.node.fid≠fid:=λe=>by
    unfold dV at hnk;rw[Option.map_eq_none_iff,List.find?_eq_none] at hnk;exact hnk k hk (by simp[e])
   unfold gb;rw[if_neg hne];rfl
  cases ha:u.c.away with
  | true=>
   have hG:bd u fid worth=⟨aw,12,cy u fid worth⟩:=by unfold bd;rw[hnk];simp[ha]
   rw[hG];refine wTG ?_ (hb:=rfl);refine af (au 6) (wn ?_);refine wU ?_ ?_
   ·rfl
   ·skip
    simp only[pins,gH,gI,gJ,gK]
    repeat' refine ZH ?_ ?_
    all_goals first | exact YH _ | rfl | simp[go_sem,cy,ha,hlk]
  | false=>
   have hfd:=dD u.s.tree fid hts;unfold fS at hfd;rw[cK] at hfd;refine wFG ?_ (hb:=rfl);cases hff:ak u.s.tree fid with
   | none=>
    rw[hff] at hfd;simp only[Option.getD_none,Option.isSome_none] at hfd;have hG:bd u fid worth=⟨aw,6,cy u fid worth⟩:=by unfold bd;rw[hnk];simp[ha,hff]
    rw[hG];refine wC ?_ func82 (hf:=hfd);refine wG ?_ QO (by simp[go_sem,ZN,aw]);refine wTG ?_ (hb:=rfl);refine af (au 6) (wn ?_);refine wU ?_ ?_
    ·rfl
    ·skip
     simp only[pins,gH,gI,gJ,gK]
     repeat' refine ZH ?_ ?_
     all_goals first | exact YH _ | rfl | simp[go_sem,cy,ha,hlk]
   | some n=>
    rw[hff] at hfd;simp only[Option.getD_some,Option.isSome_some] at hfd;have hns:=hts.each n ((ZO hup).1 hff).1;have hG:bd u fid worth=⟨n,0,gx (cy u fid worth) ⟨n,false,worth,u.c.clock+1⟩⟩:=by unfold bd;rw[hnk];simp[ha,hff]
    rw[hG];refine wC ?_ func82 (hf:=hfd);refine wGq ?_ ?_ w5
    ·simp[ZN]
    refine wDF ?_ (hb:=rfl);refine wGS ?_;refine sN 17 ?_;refine sB ?_;cases hkp:cT u.c.cache u.c.room ⟨n,false,worth,u.c.clock+1⟩ with
    | none=>
     have hk:=xD hsk hns hkp;have hKU:gx (cy u fid worth) ⟨n,false,worth,u.c.clock+1⟩=cy u fid worth:=by unfold gx cy;simp only[hlk,hkp]
     rw[hKU];refine sC ?_ func112 (hf:=hk);refine sG ?_;refine wXG ?_;refine wDF ?_ (hb:=rfl);refine wGq ?_ ?_ w5
     ·simp[ZN]
     refine wU ?_ ?_
     ·rfl
     ·skip
      simp only[pins,gH,gI,gJ,gK]
      repeat' refine ZH ?_ ?_
      all_goals first | exact YH _ | rfl | simp[go_sem,cy,ha,hlk]
    | some L=>
     have hk:=F3 hsk hns hkp;have hKU:gx (cy u fid worth) ⟨n,false,worth,u.c.clock+1⟩=⟨{ (cy u fid worth).c with cache:=L },u.s⟩:=by unfold gx cy;simp only[hlk,hkp]
     rw[hKU];refine sC ?_ func112 (hf:=hk);refine sG ?_;refine wXG ?_;refine wDT ?_ (hb:=rfl);refine wGq ?_ ?_ w5
     ·simp[ZN]
     refine wU ?_ ?_
     ·rfl
     ·skip
      simp only[pins,gH,gI,gJ,gK]
      repeat' refine ZH ?_ ?_
      all_goals first | exact YH _ | rfl | simp[go_sem,cy,ha,hlk]
theorem vY {l L:List Kept} {room:Int} {k:Kept} (hl:SmallK l) (hk:k.node.Small) (hL:cT l room k=some L):ai prog 112 [.sl (l.map ZK),.int .i64 room,.agg (ZK k)] []
  (λr H=>r=.tup [.osl 1000 8 0 L.length,.int .i64 0]/\∀i b,aa [(1000,.cells 138 8 (L.map ZK))] i=some b->aa H i=some b):=by
 have hlen:=hl.len;have e0:=gV (M:=[k]) (i:=0) w8;refine wS func112 ntmps112 results112 λC=>?_
 refine wGq ?_ ?_ QC
 ·simp
 refine wCG ?_ [] 978 func68 (hf:=kJ l hl);refine wGq ?_ ?_ QC
 ·simp
 refine ZZ 14 rfl (rfl) (wn ?_);refine wC ?_ func68 (hf:=sD [k] (SmallK.one hk));refine wGq ?_ ?_ QC
 ·simp[ZK]
 refine wV ?_ func157 (hf:=nE l k.node.fid hlen);refine wG ?_;unfold cT at hL;cases e:b_ l k.node.fid with
 | some i=>
  rw[e] at hL;injection hL with hL
  subst hL;have hi:=qF e;have hg:=gV hi;simp only[cq];refine wTG ?_ (hb:=w8);have hs:=jY l i { k with worth:=mT k.worth (l.getD i default).worth };simp only[ZK] at hs;unfold mT at hs;refine wO ?_;refine sNq 7 ?_ ?_ z6 z6 u6
  ·simp[hg];omega
  refine yd rfl rfl (q:=.i64) (q':=.i64) (u:=k.worth) (v:=(l.getD i default).worth) z7 z7 z6 z6 ?_;refine sN 1 ?_;refine sE ?_;refine dS ?_;refine wKn ?_;refine wGq ?_ ?_ Zn
  ·simp[hg];omega
  refine wT ?_;simp[go_sem,mT]
 | none=>
  rw[e] at hL;obtain ⟨L0,hL0,hLe⟩:=YX.1 hL;clear hL;simp only[cq];refine wFG ?_ (hb:=w8);refine ZZ 5 rfl (rfl) (wn ?_);refine ZL (λM:List Kept=>M.length<=l.length/\bU room (M.length+1) M=some L0) (λM=>M.length) (λM=>(8,.osl 1000 8 0 M.length)::u0 10 15 (u0 39 13 [])) (λM=>[(1000,.cells 138 8 (M.map ZK))]) l ⟨YA _,hL0⟩ ?_ λM hM=>?_
  ·exact wZ
  obtain ⟨hLl,hLs⟩:=hM;simp only[go_sem];refine wGD (λh=>?_) (λh=>?_)
  ·have hge:(M.length:Int)≥room:=by simpa using h
   rw[bU,if_pos hge] at hLs;refine wG ?_;refine wV ?_ func158 (hf:=AY M z8);cases hw:rb M with
   | none=>
    rw[hw] at hLs;simp only at hLs;cases hLs
   | some i=>
    rw[hw] at hLs;simp only at hLs;have hi:i<M.length:=fO M M.length i hw;have hwr:=wi1 (i:=i) z8;have hE:(M.eraseIdx i).length=M.length-1:=by rw[List.length_eraseIdx,if_pos hi]
    simp only[cq];refine wG ?_;refine wDF ?_ (hb:=w8);refine wG ?_ Zz (by simp[go_sem,hwr]);have hne:¬M=[]:=λh0=>by rw[h0] at hi;simp at hi
    refine bC rfl (dY rfl z7 w3 ⟨_,func159,by kernel_rfl,rfl⟩ [1000] w6 w3 w8 Zo w3 w3 (Fv M i hi z8) w7) ?_;refine wG ?_;refine ZB ⟨M.eraseIdx i,⟨by omega,?_⟩,by omega,ZU ?_ ?_ ?_⟩
    ·rw[<-hLs,hE];congr 1;omega
    ·simp[go_sem,hE]
    ·simp[go_sem]
    ·simp[go_sem]
  ·have hlt:¬(M.length:Int)≥room:=by simpa using h
   rw[bU,if_neg hlt] at hLs;injection hLs with hLs
   subst hLs;refine wGq ?_ ?_
   ·simp[rowsOf];omega
   refine af (gy 55 1000) ?_;refine wT ?_;rw[<-hLe];simp[go_sem,ZK]
end La
namespace Go.Proofs
open Go.Shelf
def Tryz.zE:Go.Shelf.Ren:=⟨λ| 143=>196 | 219=>223 | 217=>236 | 225=>237 | 224=>238 | 267=>239 | 266=>244 | 314=>245 | n=>n,λ| 9=>9 | 3=>3 | 4=>4 | 5=>5 | 46=>244 | 146=>303 | 51=>270 | n=>n,λ| 1=>0 | n=>n⟩
theorem Tryz.IU:Go.Proofs.Lays.n143 Tryz.prog Tryz.zE:={
 mixed:=by kernel_rfl
 f143:=Tryz.func196.trans (congrArg some w9)
 f217:=Tryz.func236.trans (congrArg some w9)
 f219:=Tryz.func223.trans (congrArg some w9)
 f224:=Tryz.func238.trans (congrArg some w9)
 f225:=Tryz.func237.trans (congrArg some w9)
 f266:=Tryz.func244.trans (congrArg some w9)
 f267:=Tryz.func239.trans (congrArg some w9)
 f314:=Tryz.func245.trans (congrArg some w9)
 t3:=Tryz.underlying3
 a3:=Tryz.isAgg3
 z3:=Tryz.sizeOf3
 v3:=Tryz.zeroValue3
 t4:=Tryz.underlying4
 a4:=Tryz.isAgg4
 z4:=Tryz.sizeOf4
 v4:=Tryz.zeroValue4
 t5:=Tryz.underlying5
 a5:=Tryz.isAgg5
 z5:=Tryz.sizeOf5
 v5:=Tryz.zeroValue5
 t9:=Tryz.underlying9
 a9:=Tryz.isAgg9
 z9:=Tryz.sizeOf9
 v9:=Tryz.zeroValue9
 t46:=Tryz.underlying244
 a46:=Tryz.isAgg244
 z46:=Tryz.sizeOf244
 v46:=Tryz.zeroValue244
 t51:=Tryz.underlying270
 a51:=Tryz.isAgg270
 z51:=Tryz.sizeOf270
 v51:=Tryz.zeroValue270
 t146:=Tryz.underlying303
 a146:=Tryz.isAgg303
 z146:=Tryz.sizeOf303
 v146:=Tryz.zeroValue303
 g1:=by kernel_rfl }
open Go.RowKit Go.Lib in
theorem Tryz.strings_Index_one (s:ByteArray) (c:UInt8) (w:World) :
  Calls Tryz.prog 196 #[.string s,.string ⟨#[c]⟩] w λe w'=>e=.returned (.int .i64 (Lib.indexByte s.data.toList c))/\w'=w:=Any.strings_Index_one Tryz.IU s c w
def Tryz.zD:Go.Shelf.Ren:=⟨λ| 138=>195 | 195=>220 | 218=>222 | 143=>196 | 219=>223 | 217=>236 | 225=>237 | 224=>238 | 267=>239 | 266=>244 | 314=>245 | n=>n,λ| 9=>9 | 3=>3 | 4=>4 | 5=>5 | 0=>0 | 46=>244 | 146=>303 | 51=>270 | n=>n,λ| 1=>0 | n=>n⟩
theorem Tryz.IT:Go.Proofs.Lays.n138 Tryz.prog Tryz.zD:={
 mixed:=by kernel_rfl
 f138:=Tryz.func195.trans (congrArg some w9)
 f143:=Tryz.func196.trans (congrArg some w9)
 f195:=Tryz.func220.trans (congrArg some w9)
 f217:=Tryz.func236.trans (congrArg some w9)
 f218:=Tryz.func222.trans (congrArg some w9)
 f219:=Tryz.func223.trans (congrArg some w9)
 f224:=Tryz.func238.trans (congrArg some w9)
 f225:=Tryz.func237.trans (congrArg some w9)
 f266:=Tryz.func244.trans (congrArg some w9)
 f267:=Tryz.func239.trans (congrArg some w9)
 f314:=Tryz.func245.trans (congrArg some w9)
 t0:=Tryz.underlying0
 a0:=Tryz.isAgg0
 z0:=Tryz.sizeOf0
 v0:=Tryz.zeroValue0
 t3:=Tryz.underlying3
 a3:=Tryz.isAgg3
 z3:=Tryz.sizeOf3
 v3:=Tryz.zeroValue3
 t4:=Tryz.underlying4
 a4:=Tryz.isAgg4
 z4:=Tryz.sizeOf4
 v4:=Tryz.zeroValue4
 t5:=Tryz.underlying5
 a5:=Tryz.isAgg5
 z5:=Tryz.sizeOf5
 v5:=Tryz.zeroValue5
 t9:=Tryz.underlying9
 a9:=Tryz.isAgg9
 z9:=Tryz.sizeOf9
 v9:=Tryz.zeroValue9
 t46:=Tryz.underlying244
 a46:=Tryz.isAgg244
 z46:=Tryz.sizeOf244
 v46:=Tryz.zeroValue244
 t51:=Tryz.underlying270
 a51:=Tryz.isAgg270
 z51:=Tryz.sizeOf270
 v51:=Tryz.zeroValue270
 t146:=Tryz.underlying303
 a146:=Tryz.isAgg303
 z146:=Tryz.sizeOf303
 v146:=Tryz.zeroValue303
 g1:=by kernel_rfl }
open Go.RowKit Go.Lib in
theorem Tryz.strings_Count_one (s:ByteArray) (c:UInt8) (w:World) :
  Calls Tryz.prog 195 #[.string s,.string ⟨#[c]⟩] w λe w'=>e=.returned (.int .i64 (Lib.countByte s.data.toList c))/\w'=w:=Any.strings_Count_one Tryz.IT s c w
def Tryz.zF:Go.Shelf.Ren:=⟨λ| 221=>169 | 268=>194 | 138=>195 | 143=>196 | 195=>220 | 197=>221 | 218=>222 | 219=>223 | 260=>235 | 217=>236 | 225=>237 | 224=>238 | 267=>239 | 266=>244 | 314=>245 | n=>n,λ| 9=>9 | 3=>3 | 31=>122 | 4=>4 | 0=>0 | 105=>283 | 21=>21 | 5=>5 | 46=>244 | 119=>299 | 139=>302 | 138=>301 | 146=>303 | 51=>270 | n=>n,λ| 1=>0 | 3=>1 | 4=>2 | n=>n⟩
theorem Tryz.IV:Go.Proofs.Lays.n221 Tryz.prog Tryz.zF:={
 mixed:=by kernel_rfl
 f138:=Tryz.func195.trans (congrArg some w9)
 f143:=Tryz.func196.trans (congrArg some w9)
 f195:=Tryz.func220.trans (congrArg some w9)
 f197:=Tryz.func221.trans (congrArg some w9)
 f217:=Tryz.func236.trans (congrArg some w9)
 f218:=Tryz.func222.trans (congrArg some w9)
 f219:=Tryz.func223.trans (congrArg some w9)
 f221:=Tryz.func169.trans (congrArg some w9)
 f224:=Tryz.func238.trans (congrArg some w9)
 f225:=Tryz.func237.trans (congrArg some w9)
 f260:=Tryz.func235.trans (congrArg some w9)
 f266:=Tryz.func244.trans (congrArg some w9)
 f267:=Tryz.func239.trans (congrArg some w9)
 f268:=Tryz.func194.trans (congrArg some w9)
 f314:=Tryz.func245.trans (congrArg some w9)
 t0:=Tryz.underlying0
 a0:=Tryz.isAgg0
 z0:=Tryz.sizeOf0
 v0:=Tryz.zeroValue0
 t3:=Tryz.underlying3
 a3:=Tryz.isAgg3
 z3:=Tryz.sizeOf3
 v3:=Tryz.zeroValue3
 t4:=Tryz.underlying4
 a4:=Tryz.isAgg4
 z4:=Tryz.sizeOf4
 v4:=Tryz.zeroValue4
 t5:=Tryz.underlying5
 a5:=Tryz.isAgg5
 z5:=Tryz.sizeOf5
 v5:=Tryz.zeroValue5
 t9:=Tryz.underlying9
 a9:=Tryz.isAgg9
 z9:=Tryz.sizeOf9
 v9:=Tryz.zeroValue9
 t21:=Tryz.underlying21
 a21:=Tryz.isAgg21
 z21:=Tryz.sizeOf21
 v21:=Tryz.zeroValue21
 t31:=Tryz.underlying122
 a31:=Tryz.isAgg122
 z31:=Tryz.sizeOf122
 v31:=Tryz.zeroValue122
 t46:=Tryz.underlying244
 a46:=Tryz.isAgg244
 z46:=Tryz.sizeOf244
 v46:=Tryz.zeroValue244
 t51:=Tryz.underlying270
 a51:=Tryz.isAgg270
 z51:=Tryz.sizeOf270
 v51:=Tryz.zeroValue270
 t105:=Tryz.underlying283
 a105:=Tryz.isAgg283
 z105:=Tryz.sizeOf283
 v105:=Tryz.zeroValue283
 t119:=Tryz.underlying299
 a119:=Tryz.isAgg299
 z119:=Tryz.sizeOf299
 t138:=Tryz.underlying301
 a138:=Tryz.isAgg301
 z138:=Tryz.sizeOf301
 v138:=Tryz.zeroValue301
 t139:=Tryz.underlying302
 a139:=Tryz.isAgg302
 z139:=Tryz.sizeOf302
 v139:=Tryz.zeroValue302
 t146:=Tryz.underlying303
 a146:=Tryz.isAgg303
 z146:=Tryz.sizeOf303
 v146:=Tryz.zeroValue303
 g1:=by kernel_rfl
 g3:=by kernel_rfl
 g4:=by kernel_rfl }
end Go.Proofs
namespace La
open Go Go.Eng Go.Proofs Go.RowKit Go.Proofs.Tryz
theorem Ff {b:ByteArray} {l:List UInt8} (h:b.data.toList=l):b=⟨l.toArray⟩:=by
 subst h;cases b;simp
theorem vN {A:Nat->Prop} {w w':World} (h:Below w.heap.size w w'):Frm A w w':=⟨h.os,h.tape,h.output,h.size,λb hb _=>h.block b hb⟩
theorem IC {μ:Nat->Option Nat} {R0:Nat->Prop} {w0 w':World} {v:Value} {x:AV} {H:List (Nat×Blk)} {S':Nat->Prop} (hH:HpOK μ R0 w0 H) (hv:RdP S' w' v x) (hw:Below w0.heap.size w0 w')
  (hS:∀b,S' b->b<w'.heap.size/\(R0 b\/w0.heap.size<=b)) :
  ∃v' r H' μ' S'',Ending.returned v=.returned v'/\r=x/\Rd μ' S'' w' v' r/\HpOK μ' S'' w' H'/\Frm (λg=>∃id,μ id=some g) w0 w' /\
   (∀id g,μ' id=some g->(∃id',μ id'=some g)\/w0.heap.size<=g)/\(∀b,S'' b->b<w'.heap.size/\(R0 b\/(∃id,μ id=some b)\/w0.heap.size<=b)):=
 ⟨v,x,[],λ_=>none,S',rfl,rfl,.pure hv,⟨λid b h=>by simp[aa] at h,λid g h=>Qs,λid id' g h=>Qs,(hH.glob.frm (vN hw) (λid g h=>.inl ⟨id,h⟩)).nil⟩,vN hw,λid g h=>Qs,
  λb hb=>⟨(hS b hb).1,(hS b hb).2.elim .inl (λh=>.inr (.inr h))⟩⟩
theorem zc (s:List UInt8) (c:UInt8) (hs:s.length<4294967281):Fo 169 [.str s,.str [c],.int .i64 0,.int .i64 (-1)] (.sl ((dn c s).map aZ)):=by
 intro R0 μ w0 vs hl ha hH hR
 match vs,hl with
 | [v0,v1,v2,v3],_=>
 obtain ⟨b,h0,hb⟩:=(ha 0 _ rfl).fE;obtain ⟨b1,h1,hb1⟩:=(ha 1 _ rfl).fE;have h2:=(ha 2 _ rfl).aL;have h3:=(ha 3 _ rfl).aL;simp only[List.getD_cons_zero,List.getD_cons_succ] at h0 h1 h2 h3;subst h0 h1 h2 h3 hb;obtain rfl:=Ff hb1;have hsz:b.size<4294967281:=by rw[Lib.size_eq];exact hs
 have hI:∀(x:ByteArray) (arr:Array Value),x.size<=b.size->Calls prog 196 #[.string x,.string ⟨#[c]⟩] (w0.alloc (.cells arr 9)) λe w'=>e=.returned (.int .i64 (Lib.indexB x ⟨#[c]⟩))/\w'=w0.alloc (.cells arr 9):=λx arr _=>
  (Tryz.strings_Index_one x c _).mono λe w' ⟨h1,h2⟩=>⟨by rw[h1,<-Lib.index_one],h2⟩
 have hC:Calls prog 195 #[.string b,.string ⟨#[c]⟩] w0 λe w'=>e=.returned (.int .i64 (Lib.countB b ⟨#[c]⟩))/\w'=w0:=
  (Tryz.strings_Count_one b c _).mono λe w' ⟨h1,h2⟩=>⟨by rw[h1];show _=Ending.returned (Value.int .i64 ((Lib.count b.data.toList [c]:Nat):Int));rw[Lib.count_one];rfl,h2⟩
 have hle:Lib.countB b ⟨#[c]⟩<=b.size:=Lib.countB_le ⟨#[c]⟩ (YA 1) b.size b (YA _);have key:Calls prog 169 #[.string b,.string ⟨#[c]⟩,.int .i64 0,.int .i64 (-1)] w0 λe w'=>
   e=.returned (.slice (some ⟨w0.heap.size,0,none⟩) (Lib.splitB ⟨#[c]⟩ 0 (Lib.countB b ⟨#[c]⟩+1-1) b).length (Lib.countB b ⟨#[c]⟩+1))/\w'=w0.alloc (.cells (Lib.cellsOf (Lib.splitB ⟨#[c]⟩ 0 (Lib.countB b ⟨#[c]⟩+1-1) b) (Lib.countB b ⟨#[c]⟩+1)) 9):=
  Any.strings_genSplit_core Tryz.IV w9 b ⟨#[c]⟩ 0 (-1) (Lib.countB b ⟨#[c]⟩+1) w0 hsz (YA 1) (Ys _) hI hC x7 x7 (by rw[if_pos x7];omega)
 rw[Yy] at key;have hlen:=Lib.splitB_all ⟨#[c]⟩ (YA 1) 0 _ b rfl;have e2:Lib.cellsOf (Lib.splitB ⟨#[c]⟩ 0 (Lib.countB b ⟨#[c]⟩) b) (Lib.countB b ⟨#[c]⟩+1)=((Lib.splitB ⟨#[c]⟩ 0 (Lib.countB b ⟨#[c]⟩) b).map Value.string).toArray:=by rw[<-hlen];exact Lib.cellsOf_full _
 rw[e2] at key;have hcut:=Cd c b;generalize Lib.splitB ⟨#[c]⟩ 0 (Lib.countB b ⟨#[c]⟩) b=L at key hlen hcut;refine Calls.mono key λe w' ⟨he,hw⟩=>?_
 rw[he,hw];refine IC hH (S':=λg=>g=w0.heap.size) ?_ (Below.alloc (Below.refl _ _) (YA _) _) (λg hg=>?_)
 ·refine .sl _ _ _ _ 1 w0.heap.size 0 (λi j=>.string (L.getD i ⟨#[]⟩)) ?_ z8 ?_ (λ_=>⟨rfl,rfl⟩) ?_ ?_
  ·rw[List.length_map,<-hcut,List.length_map]
  ·intro row hrow;obtain ⟨x,_,rfl⟩:=W8.1 hrow;rfl
  ·intro i j hi hj;obtain rfl:j=0:=by omega
   have hi':i<L.length:=by omega
   rw[World.cell?_alloc_new];simp[List.getD_eq_getElem?_getD,W3 hi']
  ·intro i row hi j x hx;rw[W5] at hi;obtain ⟨y,hy,rfl⟩:=YX.1 hi;rw[<-hcut,W5] at hy;obtain ⟨z,hz,rfl⟩:=YX.1 hy
   match j,hx with
   | 0,hx=>
    simp only[aZ,List.getElem?_cons_zero,gL] at hx;subst hx;rw[List.getD_eq_getElem?_getD,hz];exact .str _ _ rfl
   | j+1,hx=>simp[aZ] at hx
 ·subst hg;exact ⟨by show _<(w0.heap.push _).size;rw[Array.size_push];omega,.inr (YA _)⟩
theorem AN (s:List UInt8) (c:UInt8) (hs:s.length<4294967281):Fo 138 [.str s,.str [c]] (.sl ((dn c s).map aZ)):=by
 refine wS func138 ntmps138 results138 λC=>?_
 refine wR ?_;refine wN 1 ?_;refine wR ?_;refine wN 2 ?_;refine wC ?_ func169 (hf:=zc s c hs);refine wGT ?_;rfl
end La
namespace La
open Go Go.Eng Go.Proofs Go.Proofs.Tryz
theorem EI (s:List UInt8) (hs:s.length<=100000000):ai prog 102 [.str s] [] (λr _=>Eng.nrm r=cD (ae s)):=by
 refine wS func102 ntmps102 results102 λC=>?_
 refine wR ?_;refine wN 2 ?_;refine wGD (λh=>?_) (λh=>?_)
 ·have h1:=lt1 h;refine wGT ?_;simp[ae,h1,cD,Eng.nrm,Eng.fo]
 have h1:¬40<s.length:=by simp at h;omega
 refine wGD (λh=>?_) (λh=>?_)
 ·have h2:s=[47]:=by simpa using h
  refine wGT ?_;simp[ae,h1,h2,cD,Eng.nrm,Eng.fo]
 have h2:s≠[47]:=by simpa using h
 refine wR ?_;refine wN 3 ?_;cases s with
 | nil=>
  refine wGD (λh=>?_) (λh=>?_)
  ·refine wGT ?_;simp[ae,cD,Eng.nrm,Eng.fo]
  ·cases h
 | cons x r=>
  refine wGD (λh=>?_) (λh=>?_)
  ·have h3:¬x=47:=λe=>by subst e;simp at h
   have h1':¬40<r.length+1:=h1;refine wGT ?_;simp[ae,h1',h3,cD,Eng.nrm,Eng.fo]
  have h3:x=47:=by
   have:((x.toNat:Nat):Int)=47:=by simpa using h
   exact UInt8.toNat_inj.1 (show x.toNat=47 by omega)
  subst h3;have hsl:((47:UInt8)::r).drop 1=r:=rfl;refine wR ?_;refine wN 2 ?_;refine wCg ?_ func138 (hf:=AN r 47 (by simp at hs;omega));have hR:ae (47::r)=if (dn 47 r).all cr then (dn 47 r,0) else ([],7):=by
   simp only[ae,if_neg h1,if_neg h2,List.head?_cons,ne_eq,not_true_eq_false,if_false,List.drop_succ_cons,List.drop_zero]
  have hcl:=su 47 r;have hcp:=nx 47 r;rw[hR];generalize dn 47 r=L at hcl hcp;simp only[List.length_cons] at hs;refine ZL (λi:Nat=>i<=L.length/\(L.take i).all cr=true) (λi=>L.length-i) (λi=>(6,.any)::(27,.int .i64 i)::u0 28 7 []) (λ_=>[]) 0 ⟨by omega,by simp⟩ ?_ λi hi=>?_
  ·exact wZ
  obtain ⟨hi,hs2⟩:=hi;simp only[go_sem];refine wGD (λh=>?_) (λh=>?_)
  ·have hlt:=lt1 h;have hw:=wi1 (i:=i) z8;have hg:=Fam.getD (f:=aZ) hlt;have htk:=ZT hlt;have hmem:L.getD i default∈L:=by rw[List.getD_eq_getElem?_getD,W3 hlt];exact YY hlt
   have hxl:=hcp _ hmem;have hno:cr (L.getD i default)=false->L.all cr=false:=λh0=>by
    cases e:L.all cr with
    | false=>rfl
    | true=>rw[List.all_eq_true.1 e _ hmem] at h0;cases h0
   generalize L.getD i default=x at hg htk hxl hno hmem;refine wGq ?_ ?_ Zr
   ·simp[hg,aZ,hlt]
   refine wC ?_ func139 (hf:=CT x z8);refine wGD (λh=>?_) (λh=>?_)
   ·have h0:cr x=false:=by simpa using h
    refine wGT ?_;simp[hno h0,cD,Eng.nrm,Eng.fo]
   ·have h0:cr x=true:=by simpa using h
    refine wG ?_ w4 y7;refine ZB ⟨i+1,⟨by omega,by rw[htk,List.all_append,hs2];simp[h0]⟩,by omega,ZU ?_ ?_ ?_⟩
    ·simp[go_sem]
    ·simp[go_sem]
    ·simp[go_sem]
  ·obtain rfl:=eq1 hi h;rw[W7] at hs2;refine wGT ?_;simp[hs2,cD,Eng.nrm,Eng.fo,Ah]
theorem nu (s:List UInt8) (hs:s.length<=100000000):Fo 102 [.str s] (cD (ae s)):=xx (EI s hs)
end La
