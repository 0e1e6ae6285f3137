/- Texts of this claim, part 25: SLay, SortW, SortX, TreeK, CU, CKeepH, ShelfN, Sh, NSplit, CGo. No condition. -/
import Derived.Shelf.SlSortCmp.InsertionK
import Derived.Shelf.SlicesG.Cmp
import Derived.Shelf.SlSortCmp.WholeK
import Derived.Test.YtmcfbfdonjllaaaGreatDoorZK23
import Derived.Shelf.Strings.Split
set_option maxRecDepth 10000
set_option maxHeartbeats 4000000
set_option linter.unusedSimpArgs false
set_option linter.unusedVariables false
namespace Go.Proofs
open Go.Shelf
def Tryz.AZ:Go.Shelf.Ren:=⟨λ| 6=>145 | 15=>172 | 14=>171 | 28=>205 | 29=>206 | 20=>197 | 21=>198 | 22=>199 | 23=>200 | 24=>201 | 25=>202 | 26=>203 | 27=>204 | 46=>224 | 47=>225 | 48=>226 | 49=>227 | 50=>228 | 57=>240 | n=>n,λ| 22=>29 | 24=>94 | 25=>225 | 3=>3 | 39=>244 | 0=>0 | 53=>270 | 55=>272 | 4=>4 | 46=>264 | 45=>263 | 50=>168 | 5=>5 | 9=>9 | 66=>286 | 70=>290 | 76=>296 | 77=>132 | n=>n,λ| n=>n⟩
theorem Tryz.kz:Go.Proofs.SlLaysF0.n6 Tryz.prog Tryz.AZ:={
 mixed:=by kernel_rfl
 f6:=⟨Tryz.f145.name,by decide,Tryz.func145.trans (congrArg some w8)⟩
 f14:=⟨Tryz.f171.name,by decide,Tryz.func171.trans (congrArg some w8)⟩
 f15:=Tryz.func172.trans (congrArg some w8)
 f20:=⟨Tryz.f197.name,by decide,Tryz.func197.trans (congrArg some w8)⟩
 f21:=⟨Tryz.f198.name,by decide,Tryz.func198.trans (congrArg some w8)⟩
 f22:=⟨Tryz.f199.name,by decide,Tryz.func199.trans (congrArg some w8)⟩
 f23:=⟨Tryz.f200.name,by decide,Tryz.func200.trans (congrArg some w8)⟩
 f24:=⟨Tryz.f201.name,by decide,Tryz.func201.trans (congrArg some w8)⟩
 f25:=⟨Tryz.f202.name,by decide,Tryz.func202.trans (congrArg some w8)⟩
 f26:=⟨Tryz.f203.name,by decide,Tryz.func203.trans (congrArg some w8)⟩
 f27:=⟨Tryz.f204.name,by decide,Tryz.func204.trans (congrArg some w8)⟩
 f28:=Tryz.func205.trans (congrArg some w8)
 f29:=Tryz.func206.trans (congrArg some w8)
 f46:=⟨Tryz.f224.name,by decide,Tryz.func224.trans (congrArg some w8)⟩
 f47:=Tryz.func225.trans (congrArg some w8)
 f48:=Tryz.func226.trans (congrArg some w8)
 f49:=⟨Tryz.f227.name,by decide,Tryz.func227.trans (congrArg some w8)⟩
 f50:=⟨Tryz.f228.name,by decide,Tryz.func228.trans (congrArg some w8)⟩
 f57:=⟨Tryz.f240.name,by decide,Tryz.func240.trans (congrArg some w8)⟩
 t0:=Tryz.underlying0
 a0:=Tryz.isAgg0
 z0:=Tryz.sizeOf0
 v0:=Tryz.zeroValue0
 t3:=Tryz.underlying3
 a3:=Tryz.isAgg3
 z3:=Tryz.sizeOf3
 v3:=Tryz.zeroValue3
 t4:=Tryz.underlying4
 a4:=Tryz.isAgg4
 z4:=Tryz.sizeOf4
 v4:=Tryz.zeroValue4
 t5:=Tryz.underlying5
 a5:=Tryz.isAgg5
 z5:=Tryz.sizeOf5
 v5:=Tryz.zeroValue5
 t9:=Tryz.underlying9
 a9:=Tryz.isAgg9
 z9:=Tryz.sizeOf9
 v9:=Tryz.zeroValue9
 t22:=Tryz.underlying29
 a22:=Tryz.isAgg29
 z22:=Tryz.sizeOf29
 v22:=Tryz.zeroValue29
 t25:=Tryz.underlying225
 a25:=Tryz.isAgg225
 z25:=Tryz.sizeOf225
 v25:=Tryz.zeroValue225
 t39:=Tryz.underlying244
 a39:=Tryz.isAgg244
 z39:=Tryz.sizeOf244
 v39:=Tryz.zeroValue244
 t45:=Tryz.underlying263
 a45:=Tryz.isAgg263
 z45:=Tryz.sizeOf263
 v45:=Tryz.zeroValue263
 t46:=Tryz.underlying264
 a46:=Tryz.isAgg264
 z46:=Tryz.sizeOf264
 v46:=Tryz.zeroValue264
 t50:=Tryz.underlying168
 a50:=Tryz.isAgg168
 z50:=Tryz.sizeOf168
 v50:=Tryz.zeroValue168
 t53:=Tryz.underlying270
 a53:=Tryz.isAgg270
 z53:=Tryz.sizeOf270
 v53:=Tryz.zeroValue270
 t55:=Tryz.underlying272
 a55:=Tryz.isAgg272
 z55:=Tryz.sizeOf272
 v55:=Tryz.zeroValue272
 t66:=Tryz.underlying286
 a66:=Tryz.isAgg286
 z66:=Tryz.sizeOf286
 v66:=Tryz.zeroValue286
 t70:=Tryz.underlying290
 a70:=Tryz.isAgg290
 z70:=Tryz.sizeOf290
 v70:=Tryz.zeroValue290
 t76:=Tryz.underlying296
 a76:=Tryz.isAgg296
 z76:=Tryz.sizeOf296
 v76:=Tryz.zeroValue296
 t77:=Tryz.underlying132
 a77:=Tryz.isAgg132
 z77:=Tryz.sizeOf132
 v77:=Tryz.zeroValue132 }
def Tryz.BC:Go.Shelf.Ren:=⟨λ| 5=>147 | 7=>173 | n=>n,λ| 22=>3 | 3=>3 | 4=>4 | n=>n,λ| n=>n⟩
theorem Tryz.jL:Go.Proofs.SlLaysC2.n5 Tryz.prog Tryz.BC:={
 mixed:=by kernel_rfl
 f5:=⟨Tryz.f147.name,by decide,Tryz.func147.trans (congrArg some w8)⟩
 f7:=⟨Tryz.f173.name,by decide,Tryz.func173.trans (congrArg some w8)⟩
 t3:=Tryz.underlying3
 a3:=Tryz.isAgg3
 z3:=Tryz.sizeOf3
 v3:=Tryz.zeroValue3
 t4:=Tryz.underlying4
 a4:=Tryz.isAgg4
 z4:=Tryz.sizeOf4
 v4:=Tryz.zeroValue4
 t22:=Tryz.underlying3
 a22:=Tryz.isAgg3
 z22:=Tryz.sizeOf3
 v22:=Tryz.zeroValue3 }
end Go.Proofs
namespace La
open Go Go.Eng Go.Proofs
structure Five where
 fid:Int
 rest:List Value
 len:rest.length=4
 one:∀v∈rest,v.oneCell'=true
instance:Inhabited Five:=⟨⟨0,[.bool false,.bool false,.bool false,.bool false],rfl,by simp[Value.oneCell']⟩⟩
def Five.enc (x:Five):List Value:=.int .i64 x.fid::x.rest
theorem Five.yV (x:Five):x.enc.length=5:=by unfold Five.enc;rw[List.length_cons,x.len]
theorem Five.Eu (x:Five):∀v∈x.enc,v.oneCell'=true:=by
 intro v hv
 rcases List.mem_cons.1 hv with rfl | hv
 ·rfl
 ·exact x.one v hv
def qi (x y:Five):Int:=Lib.compareInt x.fid y.fid
theorem tV (x y:Five):ltOf qi x y=decide (x.fid<y.fid):=by
 unfold ltOf qi Lib.compareInt
 by_cases h1:x.fid<y.fid
 ·simp[h1]
 ·by_cases h2:y.fid<x.fid<;>simp[h1,h2]
theorem Fv:Sort.SWO (ltOf qi) where
 irrefl x:=by rw[tV];simp
 trans x y z h1 h2:=by rw[tV] at *;simp at *;omega
 ntrans x y z h1 h2:=by rw[tV] at *;simp at *;omega
theorem xt (a b:Int) (a1 a2 a3 a4 b1 b2 b3 b4:Value) (W:World) :
  Calls Tryz.prog 146 #[.agg #[.int .i64 a,a1,a2,a3,a4],.agg #[.int .i64 b,b1,b2,b3,b4]] W λe w'=>e=.returned (.int .i64 (Lib.compareInt a b))/\∃q os',w'=Sort.grow (W.drewN q) os':=by
 have hcon:=λW'=>AnyG.cmp_Compare_int Tryz.jL a b W'
 change ∀W',Calls Tryz.prog 147 _ _ _ at hcon
 generalize Lib.compareInt a b=r at hcon ⊢
 go_enter Tryz.func146,Tryz.ntmps146
 go_wp2_with (go_at_call 147;refine (hcon _).mono ?_;rintro e w' ⟨rfl,rfl⟩)
 go_ret
 exact ⟨rfl,0,_,by rw[Sort.alloc_eq_grow,Sort.alloc_eq_grow,Sort.grow_grow];rfl⟩
theorem Eh (blk off size:Nat) (w:World):CmpLays Tryz.prog 146 #[] Five.enc 5 qi blk off size w:=by
 intro m os dk _ x y;obtain ⟨a,l,hl,_⟩:=x;obtain ⟨b,l',hl',_⟩:=y;obtain ⟨a1,a2,a3,a4,rfl⟩:∃a1 a2 a3 a4,l=[a1,a2,a3,a4]:=by
  match l,hl with
  | [a1,a2,a3,a4],_=>exact ⟨a1,a2,a3,a4,rfl⟩
 obtain ⟨b1,b2,b3,b4,rfl⟩:∃b1 b2 b3 b4,l'=[b1,b2,b3,b4]:=by
  match l',hl' with
  | [a1,a2,a3,a4],_=>exact ⟨a1,a2,a3,a4,rfl⟩
 exact xt a b a1 a2 a3 a4 b1 b2 b3 b4 _
theorem Ap {α β:Type} {f:β->α} {d' d:List α} (h:d'.Perm d):∀z:List β,z.map f=d->∃z':List β,z'.Perm z/\z'.map f=d':=by
 induction h with
 | nil=>intro z hz;exact ⟨z,.refl _,hz⟩
 | cons x _ ih=>
  intro z hz;obtain ⟨q,z0,rfl,rfl,hz0⟩:=List.map_eq_cons_iff.1 hz;obtain ⟨z',h1,h2⟩:=ih z0 hz0;exact ⟨q::z',h1.cons q,by simp[h2]⟩
 | swap x y l=>
  intro z hz;obtain ⟨q,z0,rfl,rfl,hz0⟩:=List.map_eq_cons_iff.1 hz;obtain ⟨q2,z1,rfl,rfl,hz1⟩:=List.map_eq_cons_iff.1 hz0;exact ⟨q2::q::z1,.swap _ _ _,by simp[hz1]⟩
 | trans _ _ ih1 ih2=>
  intro z hz;obtain ⟨z1,h1,h2⟩:=ih2 z hz;obtain ⟨z2,h3,h4⟩:=ih1 z1 h2;exact ⟨z2,h3.trans h1,h4⟩
theorem Ex {S:Nat->Prop} {w:World} (f:Nat->Value) (n:Node) (h:∀j a,(ZN n)[j]? = some a->RdP S w (f j) a) :
  ∃x:Five,x.fid=n.fid/\x.enc=[f 0,f 1,f 2,f 3,f 4]:=by
 have h0:=h 0 _ rfl;have h1:=h 1 _ rfl;have h2:=h 2 _ rfl;have h3:=h 3 _ rfl;have h4:=h 4 _ rfl;have o1:(f 1).oneCell'=true:=by generalize f 1=v at h1;cases h1;rfl
 have o2:(f 2).oneCell'=true:=by generalize f 2=v at h2;cases h2;rfl
 have o3:(f 3).oneCell'=true:=by generalize f 3=v at h3;cases h3;rfl
 have o4:(f 4).oneCell'=true:=by generalize f 4=v at h4;cases h4;rfl
 refine ⟨⟨n.fid,[f 1,f 2,f 3,f 4],rfl,?_⟩,rfl,?_⟩
 ·intro v hv;simp at hv
  rcases hv with rfl | rfl | rfl | rfl<;>assumption
 ·unfold Five.enc;have:f 0=.int .i64 n.fid:=by generalize f 0=v at h0;cases h0;rfl
  rw[this]
theorem jl (n:Node):(ZN n).length=5:=rfl
theorem Ff {μ:Nat->Option Nat} {S:Nat->Prop} {w:World} {v:Value} {n:Node} {j:Nat} {a:AV} (ha:(ZN n)[j]? = some a) (h:Rd μ S w v a):RdP S w v a:=by
 have hj:j<5:=by
  have:=(Zu.1 ha).1
  rwa [jl] at this
 match j,hj,ha with
 | 0,_,ha=>cases ha;cases h;assumption
 | 1,_,ha=>cases ha;cases h;assumption
 | 2,_,ha=>cases ha;cases h;assumption
 | 3,_,ha=>cases ha;cases h;assumption
 | 4,_,ha=>cases ha;cases h;assumption
theorem A1 (id:Nat) (hid:id<5000) (G Y N:Nat->Nat) (l l':List Node) (h0:0<l.length) (hlen:l.length≤100000000)
  (hu:∀p:List Node,p.Perm l->p.Pairwise (λa b=>a.fid≤b.fid)->p=l') :
  ae Tryz.prog 145 [.osl id 5 0 l.length,.fn 146 []] ([(id,.cells 94 5 (l.map ZN))]++pins [id] G Y N) (λr H=>r=.tup []/\∀i b,aa ([(id,.cells 94 5 (l'.map ZN))]++pins [id] G Y N) i=some b->aa H i=some b):=by
 intro R0 μ w0 vs hvl hargs hH hR;obtain ⟨v0,v1,rfl⟩:∃v0 v1,vs=[v0,v1]:=by
  match vs,hvl with
  | [a,b],_=>exact ⟨a,b,rfl⟩
 have hv0:Rd μ R0 w0 v0 (.osl id 5 0 l.length):=hargs 0 _ rfl;have hv1:Rd μ R0 w0 v1 (.fn 146 []):=hargs 1 _ rfl;clear hargs hvl;have e1:v1=.func (.func 146) #[] #[]:=by
  cases hv1 with
  | pure h=>
   cases h with
   | fn f vals caps hl hr=>
    have:vals=#[]:=Array.eq_empty_of_size_eq_zero p8;rw[this]
  | fn f vals caps hl hr=>
   have:vals=#[]:=Array.eq_empty_of_size_eq_zero p8;rw[this]
 subst e1;have hget1:∀(R:List (List AV)) id' b,aa ([(id,Blk.cells 94 5 R)]++pins [id] G Y N) id'=some b->(id'=id/\b=.cells 94 5 R)\/(id'=5000+id/\b=.pin id (G id) (Y id) (N id)):=by
  intro R id' b h
  by_cases h1:id'=id
  ·subst h1;simp[aa,pins] at h;exact .inl ⟨rfl,h.symm⟩
  ·by_cases h2:id'=5000+id
   ·subst h2;simp[aa,pins] at h;exact .inr ⟨rfl,h.symm⟩
   ·simp[aa,pins,Ne.symm h1,Ne.symm h2] at h
 have hget2:∀(R:List (List AV)),aa ([(id,Blk.cells 94 5 R)]++pins [id] G Y N) id=some (.cells 94 5 R):=by
  intro R;simp[aa]
 have hget3:∀(R:List (List AV)),aa ([(id,Blk.cells 94 5 R)]++pins [id] G Y N) (5000+id)=some (.pin id (G id) (Y id) (N id)):=by
  intro R;simp[aa,pins]
 have hb:=hH.blk id _ (hget2 _);have hpin:=hH.blk (5000+id) _ (hget3 _)
 rcases hb with ⟨hb,_⟩ | ⟨g,c,hg,hgw,hsz,_,hrd⟩
 ·simp at hb;subst hb;simp at h0
 have hv0':∃cap,v0=.slice (some ⟨g,0,none⟩) l.length cap:=by
  cases hv0 with
  | pure h=>cases h
  | osl id size off len cap A hc h=>
   rcases h with ⟨h,_⟩ | ⟨g',e,n,hg',rfl,_,_⟩
   ·omega
   ·rw[hg] at hg';injection hg' with hg';subst hg'
    exact ⟨cap,by simp⟩
 obtain ⟨cap,rfl⟩:=hv0';clear hv0 hv1;have hgd:=hH.dom id g hg;simp only[List.length_map] at hsz
 -- the five cells of each
 have hF:∀i:Fin l.length,∃x:Five,x.fid=l[i].fid/\x.enc=[c.getD (i.1*5+0) undef,c.getD (i.1*5+1) undef,c.getD (i.1*5+2) undef,c.getD (i.1*5+3) undef,c.getD (i.1*5+4) undef] /\
   ∀j a,(ZN l[i])[j]? = some a->RdP R0 w0 (x.enc.getD j undef) a:=by
  intro i;have hk:∀j a,(ZN l[i])[j]? = some a->RdP R0 w0 (c.getD (i.1*5+j) undef) a:=λj a ha=>
   Ff ha (hrd i.1 (ZN l[i]) w7 j a ha)
  obtain ⟨x,hx,hxe⟩:=Ex (λj=>c.getD (i.1*5+j) undef) l[i] hk;refine ⟨x,hx,hxe,λj a ha=>?_⟩;have hj:j<5:=by
   have:=(Zu.1 ha).1
   rwa [jl] at this
  have:=hk j a ha;rw[hxe]
  match j,hj,this with
  | 0,_,h=>exact h
  | 1,_,h=>exact h
  | 2,_,h=>exact h
  | 3,_,h=>exact h
  | 4,_,h=>exact h
 obtain ⟨F,hF⟩:=Classical.axiomOfChoice hF;have hds:(Array.ofFn F).size=l.length:=Array.size_ofFn;have hdg:∀i (hi:i<l.length),(Array.ofFn F)[i]! = F ⟨i,hi⟩:=λi hi=>by
  rw[getElem!_pos _ i (by rw[hds];exact hi),Array.getElem_ofFn]
 generalize hd:Array.ofFn F=d at hds hdg;have hold:Sort.HoldsK Five.enc 5 w0 g 0 d:=by
  intro t ht;rw[Sort.size_flatK,hds] at ht;have hi:t / 5<l.length:=by omega
  have hc:t<c.size:=by omega
  have e:t=t / 5*5+t % 5:=by omega
  rw[Sort.get_flatK _ _ _ _ (by rw[hds];exact ht),hdg _ hi,(hF ⟨t / 5,hi⟩).2.1,WK];constructor
  ·have:w0.cell? ⟨g,t,none⟩=some (c.getD t undef):=by
    simp[World.cell?,hgw,hc]
   rw[this];have hm:t % 5<5:=Nat.mod_lt _ z7;generalize t % 5=m at e hm;simp only
   match m,hm with
   | 0,_=>rw[←e];rfl
   | 1,_=>rw[←e];rfl
   | 2,_=>rw[←e];rfl
   | 3,_=>rw[←e];rfl
   | 4,_=>rw[←e];rfl
  ·simp[World.frozen?,hgw]
 have eg:∀args w,(callFunc 146 args).run Tryz.prog w=.ok (.enter 146 args) w:=enters_of Tryz.func146 w8 rfl;have hcon:=AnyQ.slices_SortFunc Tryz.kz 5 Tryz.isAgg94 Tryz.sizeOf94 Five.enc Five.yV Five.Eu qi Fv 146 #[] g 0 cap d w0 eg (Eh g 0 d.size w0) hold hgd.2.2 (by rw[hds];omega);rw[hds] at hcon;refine hcon.mono ?_;rintro e W ⟨rfl,d',n,os,hp,hs,hW⟩;have hps:d'.size=l.length:=hp.1.trans hds
 -- the world behind it
 have hWh:W.heap=(w0.heap.modify g (Sort.onCells (Sort.putCells (λv=>v) 0 (Sort.flatK Five.enc 5 d'))))++os:=by rw[hW];rfl
 have hout:∀b,b<w0.heap.size->b≠g->W.heap[b]? = w0.heap[b]?:=λb hb hne=>by
  rw[hWh,WZ (by simpa using hb),Array.getElem?_modify,if_neg (Ne.symm hne)]
 have hin:W.heap[g]? = some (.cells (Sort.putCells (λv=>v) 0 (Sort.flatK Five.enc 5 d') c) 94 (0,0)):=by
  rw[hWh,WZ (by simpa using hgd.2.2),Array.getElem?_modify,if_pos rfl,hgw];rfl
 have hcs:(Sort.putCells (λv=>v) 0 (Sort.flatK Five.enc 5 d') c).size=c.size:=by simp[Sort.putCells]
 have hwsz:w0.heap.size≤W.heap.size:=by rw[hWh];simp
 -- the nodes behind it
 have hz1:(List.ofFn λi:Fin l.length=>(F i,l[i.1]'i.2)).map (·.1)=d.toList:=by
  rw[←hd,Array.toList_ofFn,List.map_ofFn];rfl
 have hz2:(List.ofFn λi:Fin l.length=>(F i,l[i.1]'i.2)).map (·.2)=l:=by
  rw[List.map_ofFn];refine List.ext_getElem w7 λi h1 h2=>by simp
 have hzQ:∀q∈(List.ofFn λi:Fin l.length=>(F i,l[i.1]'i.2)),q.1.fid=q.2.fid/\∀j a,(ZN q.2)[j]? = some a->RdP R0 w0 (q.1.enc.getD j undef) a:=by
  intro q hq;obtain ⟨i,rfl⟩:=List.mem_ofFn.1 hq;exact ⟨(hF i).1,(hF i).2.2⟩
 generalize (List.ofFn λi:Fin l.length=>(F i,l[i.1]'i.2))=z at hz1 hz2 hzQ;have hperm:d'.toList.Perm d.toList:=by
  have:=hp.2.2;have a1:d'.extract 0 l.length=d':=by rw[←hps];simp
  have a2:d.extract 0 l.length=d:=by rw[←hds];simp
  rwa [a1,a2] at this
 obtain ⟨z',hzp,hz'⟩:=Ap hperm z hz1;have hzl:z'.length=l.length:=by rw[hzp.length_eq,←hz2,List.length_map]
 have hzi:∀i (hi:i<z'.length),d'[i]! = (z'[i]).1:=λi hi=>by
  have:d'.toList[i]? = some (z'[i]).1:=by rw[←hz',Zr,Zp hi];rfl
  rw[getElem!_pos _ i (by rw[hps];omega)];rw[WI] at this;rw[Zx (by rw[hps];omega)] at this;injection this
 have hQ':∀q∈z',q.1.fid=q.2.fid/\∀j a,(ZN q.2)[j]? = some a->RdP R0 w0 (q.1.enc.getD j undef) a:=λq hq=>hzQ q (hzp.mem_iff.1 hq)
 have hpl:z'.map (·.2)=l':=by
  refine hu _ (by rw[←hz2];exact hzp.map _) ?_;rw[Wp];intro i j hi hj hij;simp only[List.length_map] at hi hj;simp only[List.getElem_map];have:=hs i j (Wl _) hij z7;rw[tV,hzi i hi,hzi j hj,(hQ' _ (WR hi)).1,(hQ' _ (WR hj)).1] at this;simpa using this
 have hl':l'.length=l.length:=by rw[←hpl,List.length_map,hzl]
 have hne:∀b,R0 b->b≠g:=λb hb e=>hgd.2.1 (e▸hb)
 have hsame:aE R0 w0 W:=λb hb=>hout b (hR b hb) (hne b hb)
 refine ⟨_,.tup [],[(id,.cells 94 5 (l'.map ZN))]++pins [id] G Y N,μ,R0,rfl,⟨rfl,λ_ _ h=>h⟩,.tup #[] [] rfl w7,⟨?_,?_,hH.inj,?_⟩,?_,λid' g' h=>.inl ⟨id',h⟩,λb hb=>⟨WO (hR b hb) hwsz,.inl hb⟩⟩
 ·intro id' b h
  rcases hget1 _ id' b h with ⟨rfl,rfl⟩ | ⟨rfl,rfl⟩
  rotate_left
  ·obtain ⟨q1,q2,q3⟩:=hpin;refine ⟨q1,q2,?_⟩;rw[←q3];have hgg:g=G id:=by rw[hg] at q2;injection q2
   rw[←hgg];unfold af;rw[hin,hgw];simp only[hcs]
  refine .inr ⟨g,_,hg,hin,by rw[hcs,List.length_map,hl'];exact hsz,λrow hrow=>?_,?_⟩
  ·obtain ⟨n,_,rfl⟩:=Zv.1 hrow;rfl
  ·intro i row hrow j x hx;obtain ⟨n,hn,rfl⟩:=Zr ..▸hrow |> WG.1
   have hj:j<5:=by
    have:=(Zu.1 hx).1
    rwa [jl] at this
   have hi:i<l'.length:=(Zu.1 hn).1;have hiz:i<z'.length:=by omega
   have hnz:(z'[i]).2=n:=by
    rw[←hpl,Zr,Zp hiz] at hn;injection hn
   have hq:=(hQ' _ (WR hiz)).2 j x (by rw[hnz];exact hx);have hval:(Sort.putCells (λv=>v) 0 (Sort.flatK Five.enc 5 d') c).getD (i*5+j) undef=(z'[i]).1.enc.getD j undef:=by
    have hlt:i*5+j<c.size:=by omega
    have hlt2:i*5+j<d'.size*5:=by rw[hps];omega
    rw[Zq];simp only[Sort.putCells,Array.getElem?_mapIdx,Zx hlt,Option.map_some,Option.getD_some,Nat.sub_zero,Sort.size_flatK];rw[if_pos ⟨Wl _,by omega⟩,Sort.get_flatK _ _ _ _ hlt2];have q1:(i*5+j) / 5=i:=by omega
    have q2:(i*5+j) % 5=j:=by omega
    rw[q1,q2,hzi i hiz];have hel:=Five.yV (z'[i]).1;rw[getElem!_pos _ j z7,Zo,Zp z7];rfl
   rw[hval];exact .pure (hq.mono hsame λ_ h=>h)
 ·intro id' g' h;have:=hH.dom id' g' h;obtain ⟨⟨b,hb⟩,h2,h3⟩:=this
  rcases hget1 _ id' b hb with ⟨he,_⟩ | ⟨he,_⟩
  ·exact ⟨⟨_,by rw[he];exact hget2 _⟩,h2,WO h3 hwsz⟩
  ·rw[he,hpin.1] at h;cases h
 ·exact ⟨λb hb=>⟨WO (hH.glob.1 b hb).1 hwsz,(hH.glob.1 b hb).2⟩,glb.same w0 W (λb hb=>hout b (hH.glob.1 b hb).1 (λe=>(hH.glob.1 b hb).2 ⟨id,e▸hg⟩)) hH.glob.2⟩
 ·exact ⟨by rw[hW];rfl,by rw[hW];rfl,by rw[hW];rfl,hwsz,λb hb hA=>hout b hb (λe=>hA ⟨id,e▸hg⟩)⟩
theorem xP:ae Tryz.prog 206 [.int .u64 0] [] (λr _=>r=.int .i64 0):=by
 refine ZF tK (Tryz.func206) rfl (λC=>?_);simp only[Tryz.ntmps206,Tryz.results206,go_sem];refine wG tK ?_;refine wDF (hb:=w7) (hk:=?_);refine wG tK ?_;refine wDF (hb:=w7) (hk:=?_);refine wG tK ?_;refine wDF (hb:=w7) (hk:=?_);refine wR ?_;refine wN tK 3 ?_;refine wNq tK 1 ?_ ?_
 ·decide
 refine wG tK ?_;refine wT ?_;rfl
theorem Cq:ae Tryz.prog 172 [.int .u64 0] [] (λr _=>r=.int .i64 0):=by
 refine ZF tK (Tryz.func172) rfl (λC=>?_);simp only[Tryz.ntmps172,Tryz.results172,go_sem];refine wG tK ?_;refine wDF (hb:=(rfl)) (hk:=?_);refine wG tK ?_;refine wC Tryz.func206 (hf:=(xP)) (hk:=?_);refine wG tK ?_;refine wT ?_;rfl
theorem A2 (l:List Node) (hl:UpN l) (hlen:l.length=0):ae Tryz.prog 145 [.sl (l.map ZN),.fn 146 []] [] (λr _=>r=.tup []):=by
 have hp:=Hp l hl z7 0;rw[hlen] at hp;refine ZF tK (Tryz.func145) rfl (λC=>?_);simp only[Tryz.ntmps145,Tryz.results145,go_sem];refine wG tK ?_;have hu:IntKind.u64.wrap ((0:Nat):Int)=0:=by decide
 rw[hlen,hu];refine wC Tryz.func172 (hf:=(Cq)) (hk:=?_);refine wG tK ?_;refine wC Tryz.func171 (hf:=(hp)) (hk:=?_);refine wG tK ?_;refine fF ⟨_,_,rfl,trivial,.tup [],.inr (.inl rfl),rfl⟩
theorem uN (l:List Kept) (hl:SmallK l) (hu:pH l=true):ae Tryz.prog 108 [.sl (l.map ZK)] [] (λr _=>r=.sl ((kz (aR l)).map ZN)):=by
 have hnl:(aR l).length=l.length:=by simp[aR]
 have hns:Small (aR l):=t_ hl;have hd:∀i,i<(aR l).length->∀j,j<i->fH (aR l) j≠fH (aR l) i:=by
  have hU:lW l l.length:=of_decide_eq_true hu;intro i hi j hj;have h1:=hU i z7 j hj;have hf:∀i,i<l.length->fH (aR l) i=uX l i:=λi hi=>by
   unfold fH uX aR;rw[Zo,Zo,Zr,Zp hi];rfl
  rw[hf j z7,hf i z7];exact h1
 have hsl:=ta _ hd;have hlen:=hl.len;refine ZF tK (Tryz.func108) rfl (λC=>?_);simp only[Tryz.ntmps108,Tryz.results108,go_sem];refine wG tK ?_;refine ZL (λi:Nat=>i≤l.length) (λi=>l.length-i) (λi=>(3,.osl 16 5 0 i)::(5,.any)::(8,.int .i64 i)::u0 9 9 [])
  (λi=>[(16,.cells 94 5 (((aR l).take i).map ZN))]) 0 z7 ?_ λi hi=>?_
 ·simp only[go_sem];exact ZU w1 w1 s7
 simp only[go_sem];refine wG tK ?_;refine wD (λh=>?_) (λh=>?_)
 ·have hlt:i<l.length:=by simp at h;omega
  have hg:(l.map ZK).getD i []=ZK (l.getD i default):=Fam.getD hlt;have hs:=v_ l i hlt;generalize l.getD i default=n at hg hs;have ht:List.take i (List.map ZN (List.take i (aR l)))=List.map ZN (List.take i (aR l)):=Zt y9;have hw:IntKind.i64.wrap ((i:Int)+1)=(i:Int)+1:=wrap_small z7 z7;refine wGq tK ?_ ?_ (by simp only[go_sem,hg,ZK,ht,hw];try exact rfl)
  ·simp[hlt,ZK,rowsOf];omega
  refine ZB ⟨i+1,by omega,by omega,ZU ?_ ?_ ?_⟩
  ·simp[go_sem]
  ·simp[go_sem,hs,ZN]
  ·simp only[go_sem]
 ·have e:i=l.length:=by simp at h;omega
  subst e;refine wG tK ?_;refine ZZ 16 rfl (dG _) ?_;rw[←hnl,Zy];simp only[go_sem]
  by_cases h0:(aR l).length=0
  ·refine wC Tryz.func66 (hf:=(jr _ hns)) (hk:=?_);refine wG tK ?_;have hnil:aR l=[]:=List.eq_nil_of_length_eq_zero h0;refine wC Tryz.func145 (hf:=(A2 _ (by intro i h1 h2;omega) h0)) (hk:=?_);refine wG tK ?_;refine wT ?_;rw[hnil];rfl
  ·refine wCG [] 100 Tryz.func66 (hf:=(pC _ hns)) (hk:=?_);refine wG tK ?_;have hne:aR l≠[]:=λe=>h0 (by rw[e];rfl)
   refine bk rfl (cR rfl z8 w1 ⟨_,Tryz.func145,by kernel_rfl,rfl⟩ [123] w4 w1 w7 Qd w1 w1 (λG Y N=>A1 123 k8 G Y N (aR l) (kz (aR l)) z7 z7 (re _ hd)) w5) ?_;refine wG tK ?_;refine ZZ 123 rfl (dG _) ?_;simp only[go_sem];refine wT ?_;rw[if_pos z7,Zt (by rw[List.length_map,hsl];exact Zw _)]
variable {Fa:Prop}
def cuH (u:U) (G Y N:Nat->Nat):List (Nat×Blk):=[(900,.cells 146 13 [cg u])]++pins [900] G Y N
theorem Gp (l:List Kept) (fid now:Int) (hl:SmallK l):ae Tryz.prog 144 [.sl (l.map ZK),.int .i64 fid,.int .i64 now] [] (λr H=>r=.osl 1000 8 0 l.length/\∀i b,aa [(1000,.cells 138 8 ((ux l fid now).map ZK))] i=some b->aa H i=some b):=by
 refine ZF tK (Tryz.func144) rfl (λC=>?_);simp only[Tryz.ntmps144,Tryz.results144,go_sem];refine wG tK ?_;refine wCG [] 978 Tryz.func68 (hf:=(iF l hl)) (hk:=?_);refine wG tK ?_;refine wV Tryz.func157 (hf:=(kM l fid hl.len)) (hk:=?_);unfold ux;cases e:dN l fid with
 | none=>
  simp only[cf];refine wG tK ?_;refine wD (λh=>?_) (λh=>?_)
  ·cases h
  refine wG tK ?_;refine wT ?_;simp[go_sem]
 | some i=>
  have hi:=nP e;have hlen:=hl.len;have hg:=e_ hi;have hs:=gU l i { l.getD i default with last:=now };simp only[ZK] at hs;simp only[cf];refine wG tK ?_;refine wD (λh=>?_) (λh=>?_)
  ·refine wGq tK ?_ ?_ Qc
   ·simp[hg];omega
   refine wT ?_;simp[go_sem]
  ·simp at h
def iu (fid w:Int) (k:Kept):Kept:=if k.node.fid=fid then { k with worth:=rO k.worth w } else k
theorem yH (fid w c:Int) (k:Kept):iu fid w (Bf fid c k)=kW fid w c k:=by
 unfold iu Bf kW
 by_cases h:k.node.fid=fid
 ·rw[if_pos h,if_pos h];simp[h]
 ·rw[if_neg h,if_neg h,if_neg h]
def cD (M:List Kept) (fid w:Int) (i:Nat):List Kept:=(M.take i).map (iu fid w)++M.drop i
theorem xi (M:List Kept) (fid w:Int) (i:Nat):(cD M fid w i).length=M.length:=by
 unfold cD;rw[List.length_append,List.length_map,Z9,Wa];omega
theorem yI {M:List Kept} (fid w:Int) {i:Nat} (h:i<M.length):(cD M fid w i).getD i default=M.getD i default:=by
 have hl:((M.take i).map (iu fid w)).length=i:=by rw[List.length_map,Z9];omega
 unfold cD;rw[Zo,Zo,Z8 z7,hl,WJ,WY,Nat.add_zero]
theorem xj {M:List Kept} (fid w:Int) {i:Nat} (h:i<M.length):(cD M fid w i).set i (iu fid w (M.getD i default))=cD M fid w (i+1):=by
 have hl:((M.take i).map (iu fid w)).length=i:=by rw[List.length_map,Z9];omega
 unfold cD;rw[ZT h,List.map_append,List.set_append_right _ _ z7,hl,WY,cH h,List.set_cons_zero,WT];rfl
theorem uA {M:List Kept} {fid w:Int} {i:Nat} (h:i<M.length) (hf:(M.getD i default).node.fid≠fid):cD M fid w (i+1)=cD M fid w i:=by
 unfold cD;rw[ZT h,List.map_append,cH h,WT]
 congr 1
 show iu fid w (M.getD i default)::_=_
 unfold iu;rw[if_neg hf];rfl
theorem xh {l:List Kept} (hu:pH l=true) (fid w c:Int):cD (ux l fid c) fid w (ux l fid c).length=l.map (kW fid w c):=by
 unfold cD;rw[Zy,List.drop_length,List.append_nil,Gn hu,WX];exact Wg λk _=>yH fid w c k
theorem Df {l:List Kept} (fid c:Int):(ux l fid c).length=l.length:=by
 unfold ux;cases dN l fid with
 | none=>rfl
 | some i=>exact WD
theorem z_ (l:List Kept) (fid:Int):B5 l fid=(kj l fid).isSome:=by
 unfold B5 kj;rw[Option.isSome_map,Bool.eq_iff_iff,List.any_eq_true,List.find?_isSome]
theorem xC {c:Cli} (h:(c.cache.map λk=>k.node.fid).Nodup) (f:Int):al (cy c) f=kj c.cache f:=by
 cases e:kj c.cache f with
 | some n=>
  obtain ⟨k,hk,hn,hf⟩:=kQ e;exact (ZO (gM c)).2 ⟨(dI h n).2 ⟨k,hk,hn⟩,hf⟩
 | none=>
  refine (gp (gM c)).2 λx hx hf=>?_
  obtain ⟨k,hk,rfl⟩:=(dI h x).1 hx;unfold kj at e;rw[Option.map_eq_none_iff,List.find?_eq_none] at e;exact absurd hf (by simpa using e k hk)
theorem UInvF.uk {B T:Nat} {u:U} (h:UInvF Fa B T u):SmallK u.c.cache:=⟨by have:=h.cli.len;have:=h.cli.room;omega,λk hk=>⟨by have:=h.cli.data k hk;omega,by have:=h.cli.ent k hk;omega⟩⟩
theorem jW {B T:Nat} (u:U) (h:UInvF Fa B T u) (hB:B≤40000000) (hT:T≤1000000000000) (fid worth:Int) (G Y N:Nat->Nat):ae Tryz.prog 106 [.ptr 900 13 0 0,.int .i64 fid,.int .i64 worth] (cuH u G Y N)
  (λr H=>r=o_ (bz u fid worth)/\Holds (cuH (bz u fid worth).u G Y N) H):=by
 have hcl:=h.cli.clock;have hlen:u.c.cache.length≤24:=by have:=h.cli.len;have:=h.cli.room;omega
 have hnod:=h.cli.nod;have hun:=lS hnod;have hsk:=h.uk;have hgsm:=h.cli.bW.small;have hup:=h.srv.hist.bW.up;have htl:u.s.tree.length≤24:=h.srv.hist.bW.len;have hts:Small u.s.tree:=h.srv.hist.bW.small;have hw:IntKind.i64.wrap (u.c.clock+1)=u.c.clock+1:=Eng.wrap_small z7 z7;have hhas:=Hb u.c.cache fid z7;rw[z_] at hhas;unfold cuH cg;refine ZF tK (Tryz.func106) rfl (λC=>?_);simp only[Tryz.ntmps106,Tryz.results106,go_sem];refine wG tK ?_ w6 k0;refine ay (bl 6) ?_;simp only[go_sem];refine wC Tryz.func143 (hf:=(hhas)) (hk:=?_);refine wG tK ?_;cases hnk:kj u.c.cache fid with
 | some n=>
  have hG:bz u fid worth=⟨n,0,eL u fid worth⟩:=by unfold bz;rw[hnk]
  rw[hG];refine wDT (hb:=(rfl)) (hk:=?_);refine wG tK ?_;have huse:=Gp u.c.cache fid (u.c.clock+1) hsk;have hul:=Df (l:=u.c.cache) fid (u.c.clock+1);have hall:=xh hun fid worth (u.c.clock+1);rw[hul] at hall;generalize ux u.c.cache fid (u.c.clock+1)=M at *;rw[←hul] at huse;refine ZW ZM ?_;refine ZS rfl ?_;refine sN tK 12 ?_;refine ff 2000 rfl rfl z8 w1 ⟨_,Tryz.func144,by kernel_rfl,rfl⟩ w1 (huse) w1 z8 z8 w1 z6 z6 ?_;refine sG tK ?_;refine sE ?_;refine dS tK ?_;refine wKd ?_
  try simp only[go_sem,gA,gB,gC]
  refine wG tK ?_;refine ZL (λi:Nat=>i≤M.length) (λi=>M.length-i) (λi=>(8,.any)::(53,.int .i64 i)::u0 54 34 [])
   (λi=>[(3000,.cells 138 8 ((cD M fid worth i).map ZK))]) 0 z7 ?_ λi hi=>?_
  ·simp only[go_sem];exact ZU w1 (by simp[go_sem,cD]) w1
  simp only[go_sem];refine wG tK ?_;refine wD (λh=>?_) (λh=>?_)
  ·have hlt:i<M.length:=by simp at h;omega
   have hw1:=wi1 (i:=i) z7;have hDl:=xi M fid worth i;have hat:=yI fid worth hlt;have hst:=xj fid worth hlt;have hsy:=@uA M fid worth i hlt;generalize hD2:cD M fid worth (i+1)=D2 at *;generalize cD M fid worth i=D at *;have hg:=e_ (M:=D) (i:=i) z7;rw[hat] at hg;generalize M.getD i default=k at *;refine wGq tK ?_ ?_ x6
   ·simp[hg,hDl,hlt]
   refine wD (λh=>?_) (λh=>?_)
   ·have hf:k.node.fid=fid:=by simpa using h
    have hs:=gU D i (iu fid worth k);rw[hst] at hs;simp only[ZK,iu,if_pos hf,rO] at hs;refine wG tK ?_;refine ZW ZM ?_;refine ZS rfl ?_;refine sNq tK 16 ?_ ?_ z6 z6 x6
    ·simp[hg,hDl,hlt]
    refine uj rfl rfl (q:=.i64) (q':=.i64) (u:=k.worth) (v:=worth) z8 z8 z6 z6 ?_;refine sNq tK 2 ?_ ?_ z6 z6 x6
    ·simp[hg,hDl,hlt]
    refine sE ?_;refine dSq tK ?_ ?_
    ·simp[go_sem,hg,hDl,hlt]
    refine wKd ?_
    try simp only[go_sem,gA,gB,gC]
    refine wG tK ?_ (by simp only[go_sem,hw1,hg,hs];try exact rfl) (by simp[go_sem,hw1,hg,hs]);refine ZB ⟨i+1,by omega,by omega,ZU ?_ ?_ ?_⟩
    ·simp[go_sem]
    ·simp[go_sem,hD2]
    ·simp[go_sem]
   ·have hf:k.node.fid≠fid:=by simpa using h
    have hsy:=hsy hf;refine wG tK ?_ j9 QR;refine ZB ⟨i+1,by omega,by omega,ZU ?_ ?_ ?_⟩
    ·simp[go_sem]
    ·simp[go_sem,hD2,hsy]
    ·simp[go_sem]
  ·have e:i=M.length:=by simp at h;omega
   subst e;rw[hul,hall];have htk:List.take u.c.cache.length ((u.c.cache.map (kW fid worth (u.c.clock+1))).map ZK)=(u.c.cache.map (kW fid worth (u.c.clock+1))).map ZK:=Zt w7;have hct:=uN (u.c.cache.map (kW fid worth (u.c.clock+1))) ⟨by rw[List.length_map];omega,λk hk=>by obtain ⟨x,hx,h1,_⟩:=gu hk;rw[←h1];exact hsk.each x hx⟩ (lS (by rw[sJ];exact hnod));rw[qF,show kz (aR u.c.cache)=cy u.c from rfl] at hct;have hfd:=cA (cy u.c) fid hgsm;unfold eu at hfd;rw[dd,xC hnod,hnk] at hfd;simp only[Option.getD_some,Option.isSome_some] at hfd;refine wR ?_;refine ZZ 3000 rfl (bR _) ?_;simp only[go_sem,htk];refine wG tK ?_;refine wC Tryz.func108 (hf:=(hct)) (hk:=?_);refine wG tK ?_;refine wC Tryz.func82 (hf:=(hfd)) (hk:=?_);refine wGq tK ?_ ?_ w3
   ·simp[ZN]
   refine wU ?_ ?_
   ·rfl
   ·exact q9
 | none=>
  refine wDF (hb:=(rfl)) (hk:=?_);refine wG tK ?_;have hlk:u.c.cache.map (kW fid worth (u.c.clock+1))=u.c.cache:=by
   refine (Wg λk hk=>?_).trans (List.map_id _);have hne:k.node.fid≠fid:=λe=>by
    unfold kj at hnk;rw[Option.map_eq_none_iff,List.find?_eq_none] at hnk;exact hnk k hk (by simp[e])
   unfold kW;rw[if_neg hne];rfl
  cases ha:u.c.away with
  | true=>
   have hG:bz u fid worth=⟨aC,12,eL u fid worth⟩:=by unfold bz;rw[hnk];simp[ha]
   rw[hG];refine wDT (hb:=(rfl)) (hk:=?_);refine wG tK ?_;refine ay (bl 6) ?_;simp only[go_sem];refine wU ?_ ?_
   ·rfl
   ·skip
    simp only[pins,List.cons_append,List.nil_append,List.map_cons,List.map_nil]
    repeat' refine ZH ?_ ?_
    all_goals first | exact YH _ | rfl | simp[go_sem,eL,ha,hlk]
  | false=>
   have hfd:=cA u.s.tree fid hts;unfold eu at hfd;rw[dd] at hfd;refine wDF (hb:=(rfl)) (hk:=?_);refine wG tK ?_;cases hff:al u.s.tree fid with
   | none=>
    rw[hff] at hfd;simp only[Option.getD_none,Option.isSome_none] at hfd;have hG:bz u fid worth=⟨aC,6,eL u fid worth⟩:=by unfold bz;rw[hnk];simp[ha,hff]
    rw[hG];refine wC Tryz.func82 (hf:=(hfd)) (hk:=?_);refine wG tK ?_ QJ (by simp[go_sem,ZN,aC]);refine wDT (hb:=(rfl)) (hk:=?_);refine wG tK ?_;refine ay (bl 6) ?_;simp only[go_sem];refine wU ?_ ?_
    ·rfl
    ·skip
     simp only[pins,List.cons_append,List.nil_append,List.map_cons,List.map_nil]
     repeat' refine ZH ?_ ?_
     all_goals first | exact YH _ | rfl | simp[go_sem,eL,ha,hlk]
   | some n=>
    rw[hff] at hfd;simp only[Option.getD_some,Option.isSome_some] at hfd;have hns:=hts.each n ((ZO hup).1 hff).1;have hG:bz u fid worth=⟨n,0,jD (eL u fid worth) ⟨n,false,worth,u.c.clock+1⟩⟩:=by unfold bz;rw[hnk];simp[ha,hff]
    rw[hG];refine wC Tryz.func82 (hf:=(hfd)) (hk:=?_);refine wGq tK ?_ ?_ w3
    ·simp[ZN]
    refine wDF (hb:=(rfl)) (hk:=?_);refine wG tK ?_;refine ZW ZM ?_;refine ZS rfl ?_;refine sN tK 17 ?_;refine sB tK ?_;cases hkp:eK u.c.cache u.c.room ⟨n,false,worth,u.c.clock+1⟩ with
    | none=>
     have hk:=tP hsk hns hkp;have hKU:jD (eL u fid worth) ⟨n,false,worth,u.c.clock+1⟩=eL u fid worth:=by unfold jD eL;simp only[hlk,hkp]
     rw[hKU];refine sC Tryz.func112 (hf:=(hk)) (hk:=?_);refine sG tK ?_;refine sE ?_;refine wKd ?_
     try simp only[go_sem,gA,gB,gC]
     refine wG tK ?_;refine wDF (hb:=(rfl)) (hk:=?_);refine wGq tK ?_ ?_ w3
     ·simp[ZN]
     refine wU ?_ ?_
     ·rfl
     ·skip
      simp only[pins,List.cons_append,List.nil_append,List.map_cons,List.map_nil]
      repeat' refine ZH ?_ ?_
      all_goals first | exact YH _ | rfl | simp[go_sem,eL,ha,hlk]
    | some L=>
     have hk:=Cj hsk hns hkp;have hKU:jD (eL u fid worth) ⟨n,false,worth,u.c.clock+1⟩=⟨{ (eL u fid worth).c with cache:=L },u.s⟩:=by unfold jD eL;simp only[hlk,hkp]
     rw[hKU];refine sC Tryz.func112 (hf:=(hk)) (hk:=?_);refine sG tK ?_;refine sE ?_;refine wKd ?_
     try simp only[go_sem,gA,gB,gC]
     refine wG tK ?_;refine wDT (hb:=(rfl)) (hk:=?_);refine wGq tK ?_ ?_ w3
     ·simp[ZN]
     refine wU ?_ ?_
     ·rfl
     ·skip
      simp only[pins,List.cons_append,List.nil_append,List.map_cons,List.map_nil]
      repeat' refine ZH ?_ ?_
      all_goals first | exact YH _ | rfl | simp[go_sem,eL,ha,hlk]
theorem sD {l L:List Kept} {room:Int} {k:Kept} (hl:SmallK l) (hk:k.node.Small) (hL:eK l room k=some L):ae Tryz.prog 112 [.sl (l.map ZK),.int .i64 room,.agg (ZK k)] []
  (λr H=>r=.tup [.osl 1000 8 0 L.length,.int .i64 0]/\∀i b,aa [(1000,.cells 138 8 (L.map ZK))] i=some b->aa H i=some b):=by
 have hlen:=hl.len;have e0:=e_ (M:=[k]) (i:=0) w7;refine ZF tK (Tryz.func112) rfl (λC=>?_);simp only[Tryz.ntmps112,Tryz.results112,go_sem];refine wGq tK ?_ ?_ p7
 ·simp
 refine wCG [] 978 Tryz.func68 (hf:=(iF l hl)) (hk:=?_);refine wGq tK ?_ ?_ p7
 ·simp
 refine ZZ 14 rfl (rfl) ?_;simp only[go_sem];refine wC Tryz.func68 (hf:=(pA [k] (SmallK.one hk))) (hk:=?_);refine wGq tK ?_ ?_ p7
 ·simp[ZK]
 refine wV Tryz.func157 (hf:=(kM l k.node.fid hlen)) (hk:=?_);refine wG tK ?_;unfold eK at hL;cases e:dN l k.node.fid with
 | some i=>
  rw[e] at hL;injection hL with hL
  subst hL;have hi:=nP e;have hg:=e_ hi;simp only[cf];refine wDT (hb:=w7) (hk:=?_);refine wG tK ?_;have hs:=gU l i { k with worth:=rO k.worth (l.getD i default).worth };simp only[ZK] at hs;unfold rO at hs;refine ZW ZM ?_;refine ZS rfl ?_;refine sNq tK 7 ?_ ?_ z6 z6 x6
  ·simp[hg];omega
  refine uj rfl rfl (q:=.i64) (q':=.i64) (u:=k.worth) (v:=(l.getD i default).worth) z8 z8 z6 z6 ?_;refine sN tK 1 ?_;refine sE ?_;refine dS tK ?_;refine wKd ?_
  try simp only[go_sem,gA,gB,gC]
  refine wGq tK ?_ ?_ Qc
  ·simp[hg];omega
  refine wT ?_;simp[go_sem,rO]
 | none=>
  rw[e] at hL;obtain ⟨L0,hL0,hLe⟩:=WG.1 hL;clear hL;simp only[cf];refine wDF (hb:=w7) (hk:=?_);refine wG tK ?_;refine ZZ 5 rfl (rfl) ?_;simp only[go_sem];refine ZL (λM:List Kept=>M.length≤l.length/\df room (M.length+1) M=some L0) (λM=>M.length) (λM=>(8,.osl 1000 8 0 M.length)::u0 10 15 (u0 39 13 [])) (λM=>[(1000,.cells 138 8 (M.map ZK))]) l ⟨Zw _,hL0⟩ ?_ λM hM=>?_
  ·simp only[go_sem];exact ZU w1 w1 w1
  obtain ⟨hLl,hLs⟩:=hM;simp only[go_sem];refine wG tK ?_;refine wD (λh=>?_) (λh=>?_)
  ·have hge:(M.length:Int)≥room:=by simpa using h
   rw[df,if_pos hge] at hLs;refine wG tK ?_;refine wV Tryz.func158 (hf:=(xg M z7)) (hk:=?_);cases hw:uz M with
   | none=>
    rw[hw] at hLs;simp only at hLs;cases hLs
   | some i=>
    rw[hw] at hLs;simp only at hLs;have hi:i<M.length:=gO M M.length i hw;have hwr:=wi1 (i:=i) z7;have hE:(M.eraseIdx i).length=M.length-1:=by rw[List.length_eraseIdx,if_pos hi]
    simp only[cf];refine wG tK ?_;refine wDF (hb:=w7) (hk:=?_);refine wG tK ?_ Qf (by simp[go_sem,hwr]);have hne:¬M=[]:=λh0=>by rw[h0] at hi;simp at hi
    refine bk rfl (cR rfl z8 w1 ⟨_,Tryz.func159,by kernel_rfl,rfl⟩ [1000] w4 w1 w7 Qd w1 w1 (BO M i hi z7) w5) ?_;refine wG tK ?_;refine ZB ⟨M.eraseIdx i,⟨by omega,?_⟩,by omega,ZU ?_ ?_ ?_⟩
    ·rw[←hLs,hE];congr 1;omega
    ·simp[go_sem,hE]
    ·simp[go_sem]
    ·simp[go_sem]
  ·have hlt:¬(M.length:Int)≥room:=by simpa using h
   rw[df,if_neg hlt] at hLs;injection hLs with hLs
   subst hLs;refine wGq tK ?_ ?_
   ·simp[rowsOf];omega
   refine ay (GC 55 1000) ?_;refine wT ?_;rw[←hLe];simp[go_sem,ZK]
end La
namespace Go.Proofs
open Go.Shelf
def Tryz.vE:Go.Shelf.Ren:=⟨λ| 143=>196 | 219=>223 | 217=>236 | 225=>237 | 224=>238 | 267=>239 | 266=>244 | 314=>245 | n=>n,λ| 9=>9 | 3=>3 | 4=>4 | 5=>5 | 46=>244 | 146=>303 | 51=>270 | n=>n,λ| 1=>0 | n=>n⟩
theorem Tryz.EL:Go.Proofs.Lays.n143 Tryz.prog Tryz.vE:={
 mixed:=by kernel_rfl
 f143:=Tryz.func196.trans (congrArg some w8)
 f217:=Tryz.func236.trans (congrArg some w8)
 f219:=Tryz.func223.trans (congrArg some w8)
 f224:=Tryz.func238.trans (congrArg some w8)
 f225:=Tryz.func237.trans (congrArg some w8)
 f266:=Tryz.func244.trans (congrArg some w8)
 f267:=Tryz.func239.trans (congrArg some w8)
 f314:=Tryz.func245.trans (congrArg some w8)
 t3:=Tryz.underlying3
 a3:=Tryz.isAgg3
 z3:=Tryz.sizeOf3
 v3:=Tryz.zeroValue3
 t4:=Tryz.underlying4
 a4:=Tryz.isAgg4
 z4:=Tryz.sizeOf4
 v4:=Tryz.zeroValue4
 t5:=Tryz.underlying5
 a5:=Tryz.isAgg5
 z5:=Tryz.sizeOf5
 v5:=Tryz.zeroValue5
 t9:=Tryz.underlying9
 a9:=Tryz.isAgg9
 z9:=Tryz.sizeOf9
 v9:=Tryz.zeroValue9
 t46:=Tryz.underlying244
 a46:=Tryz.isAgg244
 z46:=Tryz.sizeOf244
 v46:=Tryz.zeroValue244
 t51:=Tryz.underlying270
 a51:=Tryz.isAgg270
 z51:=Tryz.sizeOf270
 v51:=Tryz.zeroValue270
 t146:=Tryz.underlying303
 a146:=Tryz.isAgg303
 z146:=Tryz.sizeOf303
 v146:=Tryz.zeroValue303
 g1:=by kernel_rfl }
open Go.RowKit Go.Lib in
theorem Tryz.strings_Index_one (s:ByteArray) (c:UInt8) (w:World) :
  Calls Tryz.prog 196 #[.string s,.string ⟨#[c]⟩] w λe w'=>e=.returned (.int .i64 (Lib.indexByte s.data.toList c))/\w'=w:=Any.strings_Index_one Tryz.EL s c w
def Tryz.vD:Go.Shelf.Ren:=⟨λ| 138=>195 | 195=>220 | 218=>222 | 143=>196 | 219=>223 | 217=>236 | 225=>237 | 224=>238 | 267=>239 | 266=>244 | 314=>245 | n=>n,λ| 9=>9 | 3=>3 | 4=>4 | 5=>5 | 0=>0 | 46=>244 | 146=>303 | 51=>270 | n=>n,λ| 1=>0 | n=>n⟩
theorem Tryz.EK:Go.Proofs.Lays.n138 Tryz.prog Tryz.vD:={
 mixed:=by kernel_rfl
 f138:=Tryz.func195.trans (congrArg some w8)
 f143:=Tryz.func196.trans (congrArg some w8)
 f195:=Tryz.func220.trans (congrArg some w8)
 f217:=Tryz.func236.trans (congrArg some w8)
 f218:=Tryz.func222.trans (congrArg some w8)
 f219:=Tryz.func223.trans (congrArg some w8)
 f224:=Tryz.func238.trans (congrArg some w8)
 f225:=Tryz.func237.trans (congrArg some w8)
 f266:=Tryz.func244.trans (congrArg some w8)
 f267:=Tryz.func239.trans (congrArg some w8)
 f314:=Tryz.func245.trans (congrArg some w8)
 t0:=Tryz.underlying0
 a0:=Tryz.isAgg0
 z0:=Tryz.sizeOf0
 v0:=Tryz.zeroValue0
 t3:=Tryz.underlying3
 a3:=Tryz.isAgg3
 z3:=Tryz.sizeOf3
 v3:=Tryz.zeroValue3
 t4:=Tryz.underlying4
 a4:=Tryz.isAgg4
 z4:=Tryz.sizeOf4
 v4:=Tryz.zeroValue4
 t5:=Tryz.underlying5
 a5:=Tryz.isAgg5
 z5:=Tryz.sizeOf5
 v5:=Tryz.zeroValue5
 t9:=Tryz.underlying9
 a9:=Tryz.isAgg9
 z9:=Tryz.sizeOf9
 v9:=Tryz.zeroValue9
 t46:=Tryz.underlying244
 a46:=Tryz.isAgg244
 z46:=Tryz.sizeOf244
 v46:=Tryz.zeroValue244
 t51:=Tryz.underlying270
 a51:=Tryz.isAgg270
 z51:=Tryz.sizeOf270
 v51:=Tryz.zeroValue270
 t146:=Tryz.underlying303
 a146:=Tryz.isAgg303
 z146:=Tryz.sizeOf303
 v146:=Tryz.zeroValue303
 g1:=by kernel_rfl }
open Go.RowKit Go.Lib in
theorem Tryz.strings_Count_one (s:ByteArray) (c:UInt8) (w:World) :
  Calls Tryz.prog 195 #[.string s,.string ⟨#[c]⟩] w λe w'=>e=.returned (.int .i64 (Lib.countByte s.data.toList c))/\w'=w:=Any.strings_Count_one Tryz.EK s c w
def Tryz.vG:Go.Shelf.Ren:=⟨λ| 221=>169 | 268=>194 | 138=>195 | 143=>196 | 195=>220 | 197=>221 | 218=>222 | 219=>223 | 260=>235 | 217=>236 | 225=>237 | 224=>238 | 267=>239 | 266=>244 | 314=>245 | n=>n,λ| 9=>9 | 3=>3 | 31=>122 | 4=>4 | 0=>0 | 105=>283 | 21=>21 | 5=>5 | 46=>244 | 119=>299 | 139=>302 | 138=>301 | 146=>303 | 51=>270 | n=>n,λ| 1=>0 | 3=>1 | 4=>2 | n=>n⟩
theorem Tryz.EM:Go.Proofs.Lays.n221 Tryz.prog Tryz.vG:={
 mixed:=by kernel_rfl
 f138:=Tryz.func195.trans (congrArg some w8)
 f143:=Tryz.func196.trans (congrArg some w8)
 f195:=Tryz.func220.trans (congrArg some w8)
 f197:=Tryz.func221.trans (congrArg some w8)
 f217:=Tryz.func236.trans (congrArg some w8)
 f218:=Tryz.func222.trans (congrArg some w8)
 f219:=Tryz.func223.trans (congrArg some w8)
 f221:=Tryz.func169.trans (congrArg some w8)
 f224:=Tryz.func238.trans (congrArg some w8)
 f225:=Tryz.func237.trans (congrArg some w8)
 f260:=Tryz.func235.trans (congrArg some w8)
 f266:=Tryz.func244.trans (congrArg some w8)
 f267:=Tryz.func239.trans (congrArg some w8)
 f268:=Tryz.func194.trans (congrArg some w8)
 f314:=Tryz.func245.trans (congrArg some w8)
 t0:=Tryz.underlying0
 a0:=Tryz.isAgg0
 z0:=Tryz.sizeOf0
 v0:=Tryz.zeroValue0
 t3:=Tryz.underlying3
 a3:=Tryz.isAgg3
 z3:=Tryz.sizeOf3
 v3:=Tryz.zeroValue3
 t4:=Tryz.underlying4
 a4:=Tryz.isAgg4
 z4:=Tryz.sizeOf4
 v4:=Tryz.zeroValue4
 t5:=Tryz.underlying5
 a5:=Tryz.isAgg5
 z5:=Tryz.sizeOf5
 v5:=Tryz.zeroValue5
 t9:=Tryz.underlying9
 a9:=Tryz.isAgg9
 z9:=Tryz.sizeOf9
 v9:=Tryz.zeroValue9
 t21:=Tryz.underlying21
 a21:=Tryz.isAgg21
 z21:=Tryz.sizeOf21
 v21:=Tryz.zeroValue21
 t31:=Tryz.underlying122
 a31:=Tryz.isAgg122
 z31:=Tryz.sizeOf122
 v31:=Tryz.zeroValue122
 t46:=Tryz.underlying244
 a46:=Tryz.isAgg244
 z46:=Tryz.sizeOf244
 v46:=Tryz.zeroValue244
 t51:=Tryz.underlying270
 a51:=Tryz.isAgg270
 z51:=Tryz.sizeOf270
 v51:=Tryz.zeroValue270
 t105:=Tryz.underlying283
 a105:=Tryz.isAgg283
 z105:=Tryz.sizeOf283
 v105:=Tryz.zeroValue283
 t119:=Tryz.underlying299
 a119:=Tryz.isAgg299
 z119:=Tryz.sizeOf299
 t138:=Tryz.underlying301
 a138:=Tryz.isAgg301
 z138:=Tryz.sizeOf301
 v138:=Tryz.zeroValue301
 t139:=Tryz.underlying302
 a139:=Tryz.isAgg302
 z139:=Tryz.sizeOf302
 v139:=Tryz.zeroValue302
 t146:=Tryz.underlying303
 a146:=Tryz.isAgg303
 z146:=Tryz.sizeOf303
 v146:=Tryz.zeroValue303
 g1:=by kernel_rfl
 g3:=by kernel_rfl
 g4:=by kernel_rfl }
end Go.Proofs
namespace La
open Go Go.Eng Go.Proofs Go.RowKit
theorem BA {b:ByteArray} {l:List UInt8} (h:b.data.toList=l):b=⟨l.toArray⟩:=by
 subst h;cases b;simp
theorem sj {A:Nat->Prop} {w w':World} (h:Below w.heap.size w w'):Frm A w w':=⟨h.os,h.tape,h.output,h.size,λb hb _=>h.block b hb⟩
theorem Ey {μ:Nat->Option Nat} {R0:Nat->Prop} {w0 w':World} {v:Value} {x:AV} {H:List (Nat×Blk)} {S':Nat->Prop} (hH:HpOK μ R0 w0 H) (hv:RdP S' w' v x) (hw:Below w0.heap.size w0 w')
  (hS:∀b,S' b->b<w'.heap.size/\(R0 b\/w0.heap.size≤b)) :
  ∃v' r H' μ' S'',Ending.returned v=.returned v'/\r=x/\Rd μ' S'' w' v' r/\HpOK μ' S'' w' H'/\Frm (λg=>∃id,μ id=some g) w0 w' /\
   (∀id g,μ' id=some g->(∃id',μ id'=some g)\/w0.heap.size≤g)/\(∀b,S'' b->b<w'.heap.size/\(R0 b\/(∃id,μ id=some b)\/w0.heap.size≤b)):=
 ⟨v,x,[],λ_=>none,S',rfl,rfl,.pure hv,⟨λid b h=>by simp[aa] at h,λid g h=>QM,λid id' g h=>QM,(hH.glob.frm (sj hw) (λid g h=>.inl ⟨id,h⟩)).nil⟩,sj hw,λid g h=>QM,
  λb hb=>⟨(hS b hb).1,(hS b hb).2.elim .inl (λh=>.inr (.inr h))⟩⟩
theorem vc (s:List UInt8) (c:UInt8) (hs:s.length<4294967281):ae Tryz.prog 169 [.str s,.str [c],.int .i64 0,.int .i64 (-1)] [] (λr _=>r=.sl ((eE c s).map cQ)):=by
 intro R0 μ w0 vs hl ha hH hR
 match vs,hl with
 | [v0,v1,v2,v3],_=>
 obtain ⟨b,h0,hb⟩:=(ha 0 _ rfl).dY;obtain ⟨b1,h1,hb1⟩:=(ha 1 _ rfl).dY;have h2:=(ha 2 _ rfl).aF;have h3:=(ha 3 _ rfl).aF;simp only[List.getD_cons_zero,List.getD_cons_succ] at h0 h1 h2 h3;subst h0 h1 h2 h3 hb;obtain rfl:=BA hb1;have hsz:b.size<4294967281:=by rw[Lib.size_eq];exact hs
 have hI:∀(x:ByteArray) (arr:Array Value),x.size≤b.size->Calls Tryz.prog 196 #[.string x,.string ⟨#[c]⟩] (w0.alloc (.cells arr 9)) λe w'=>e=.returned (.int .i64 (Lib.indexB x ⟨#[c]⟩))/\w'=w0.alloc (.cells arr 9):=λx arr _=>
  (Tryz.strings_Index_one x c _).mono λe w' ⟨h1,h2⟩=>⟨by rw[h1,←Lib.index_one],h2⟩
 have hC:Calls Tryz.prog 195 #[.string b,.string ⟨#[c]⟩] w0 λe w'=>e=.returned (.int .i64 (Lib.countB b ⟨#[c]⟩))/\w'=w0:=
  (Tryz.strings_Count_one b c _).mono λe w' ⟨h1,h2⟩=>⟨by rw[h1];show _=Ending.returned (Value.int .i64 ((Lib.count b.data.toList [c]:Nat):Int));rw[Lib.count_one];rfl,h2⟩
 have hle:Lib.countB b ⟨#[c]⟩≤b.size:=Lib.countB_le ⟨#[c]⟩ (Zw 1) b.size b (Zw _);have key:Calls Tryz.prog 169 #[.string b,.string ⟨#[c]⟩,.int .i64 0,.int .i64 (-1)] w0 λe w'=>
   e=.returned (.slice (some ⟨w0.heap.size,0,none⟩) (Lib.splitB ⟨#[c]⟩ 0 (Lib.countB b ⟨#[c]⟩+1-1) b).length (Lib.countB b ⟨#[c]⟩+1))/\w'=w0.alloc (.cells (Lib.cellsOf (Lib.splitB ⟨#[c]⟩ 0 (Lib.countB b ⟨#[c]⟩+1-1) b) (Lib.countB b ⟨#[c]⟩+1)) 9):=
  Any.strings_genSplit_core Tryz.EM w8 b ⟨#[c]⟩ 0 (-1) (Lib.countB b ⟨#[c]⟩+1) w0 hsz (Zw 1) (Wl _) hI hC k8 k8 (by rw[if_pos k8];omega)
 rw[Nat.add_sub_cancel] at key;have hlen:=Lib.splitB_all ⟨#[c]⟩ (Zw 1) 0 _ b rfl;have e2:Lib.cellsOf (Lib.splitB ⟨#[c]⟩ 0 (Lib.countB b ⟨#[c]⟩) b) (Lib.countB b ⟨#[c]⟩+1)=((Lib.splitB ⟨#[c]⟩ 0 (Lib.countB b ⟨#[c]⟩) b).map Value.string).toArray:=by rw[←hlen];exact Lib.cellsOf_full _
 rw[e2] at key;have hcut:=yq c b;generalize Lib.splitB ⟨#[c]⟩ 0 (Lib.countB b ⟨#[c]⟩) b=L at key hlen hcut;refine Calls.mono key λe w' ⟨he,hw⟩=>?_
 rw[he,hw];refine Ey hH (S':=λg=>g=w0.heap.size) ?_ (Below.alloc (Below.refl _ _) (Zw _) _) (λg hg=>?_)
 ·refine .sl _ _ _ _ 1 w0.heap.size 0 (λi j=>.string (L.getD i ⟨#[]⟩)) ?_ z7 ?_ (λ_=>⟨rfl,rfl⟩) ?_ ?_
  ·rw[List.length_map,←hcut,List.length_map]
  ·intro row hrow;obtain ⟨x,_,rfl⟩:=Zv.1 hrow;rfl
  ·intro i j hi hj;obtain rfl:j=0:=by omega
   have hi':i<L.length:=by omega
   rw[World.cell?_alloc_new];simp[Zo,Zp hi']
  ·intro i row hi j x hx;rw[Zr] at hi;obtain ⟨y,hy,rfl⟩:=WG.1 hi;rw[←hcut,Zr] at hy;obtain ⟨z,hz,rfl⟩:=WG.1 hy
   match j,hx with
   | 0,hx=>
    simp only[cQ,List.getElem?_cons_zero,Option.some.injEq] at hx;subst hx;rw[Zo,hz];exact .str _ _ rfl
   | j+1,hx=>simp[cQ] at hx
 ·subst hg;exact ⟨by show _<(w0.heap.push _).size;rw[Array.size_push];omega,.inr (Zw _)⟩
theorem wX (s:List UInt8) (c:UInt8) (hs:s.length<4294967281):ae Tryz.prog 138 [.str s,.str [c]] [] (λr _=>r=.sl ((eE c s).map cQ)):=by
 refine ZF tK (Tryz.func138) rfl (λC=>?_);simp only[Tryz.ntmps138,Tryz.results138,go_sem];refine wR ?_;refine wN tK 1 ?_;refine wR ?_;refine wN tK 2 ?_;refine wC Tryz.func169 (hf:=(vc s c hs)) (hk:=?_);refine wG tK ?_;refine wT ?_;rfl
end La
namespace La
open Go Go.Eng Go.Proofs
theorem A7 (s:List UInt8) (hs:s.length≤100000000):ae Tryz.prog 102 [.str s] [] (λr _=>Eng.nrm r=fh (ag s)):=by
 refine ZF tK (Tryz.func102) rfl (λC=>?_);simp only[Tryz.ntmps102,Tryz.results102,go_sem];refine wR ?_;refine wN tK 2 ?_;refine wG tK ?_;refine wD (λh=>?_) (λh=>?_)
 ·have h1:40<s.length:=by simp at h;omega
  refine wG tK ?_;refine wT ?_;simp[ag,h1,fh,Eng.nrm,Eng.fA]
 have h1:¬40<s.length:=by simp at h;omega
 refine wG tK ?_;refine wD (λh=>?_) (λh=>?_)
 ·have h2:s=[47]:=by simpa using h
  refine wG tK ?_;refine wT ?_;simp[ag,h1,h2,fh,Eng.nrm,Eng.fA]
 have h2:s≠[47]:=by simpa using h
 refine wR ?_;refine wN tK 3 ?_;cases s with
 | nil=>
  refine wG tK ?_;refine wD (λh=>?_) (λh=>?_)
  ·refine wG tK ?_;refine wT ?_;simp[ag,fh,Eng.nrm,Eng.fA]
  ·cases h
 | cons x r=>
  refine wG tK ?_;refine wD (λh=>?_) (λh=>?_)
  ·have h3:¬x=47:=λe=>by subst e;simp at h
   have h1':¬40<r.length+1:=h1;refine wG tK ?_;refine wT ?_;simp[ag,h1',h3,fh,Eng.nrm,Eng.fA]
  have h3:x=47:=by
   have:((x.toNat:Nat):Int)=47:=by simpa using h
   exact UInt8.toNat_inj.1 (show x.toNat=47 by omega)
  subst h3;have hsl:((47:UInt8)::r).drop 1=r:=rfl;refine wR ?_;refine wN tK 2 ?_;refine wC Tryz.func138 (hf:=(wX r 47 (by simp at hs;omega))) (hk:=?_);refine wG tK ?_;have hR:ag (47::r)=if (eE 47 r).all de then (eE 47 r,0) else ([],7):=by
   simp only[ag,if_neg h1,if_neg h2,List.head?_cons,ne_eq,not_true_eq_false,if_false,List.drop_succ_cons,List.drop_zero]
  have hcl:=tC 47 r;have hcp:=ny 47 r;rw[hR];generalize eE 47 r=L at hcl hcp;simp only[List.length_cons] at hs;refine ZL (λi:Nat=>i≤L.length/\(L.take i).all de=true) (λi=>L.length-i) (λi=>(6,.any)::(27,.int .i64 i)::u0 28 7 []) (λ_=>[]) 0 ⟨by omega,by simp⟩ ?_ λi hi=>?_
  ·simp only[go_sem];exact ZU w1 w1 w1
  obtain ⟨hi,hs2⟩:=hi;simp only[go_sem];refine wG tK ?_;refine wD (λh=>?_) (λh=>?_)
  ·have hlt:i<L.length:=by simp at h;omega
   have hw:=wi1 (i:=i) z7;have hg:(L.map cQ).getD i []=cQ (L.getD i default):=Fam.getD hlt;have htk:=ZT hlt;have hmem:L.getD i default∈L:=by rw[Zo,Zp hlt];exact WR hlt
   have hxl:=hcp _ hmem;have hno:de (L.getD i default)=false->L.all de=false:=λh0=>by
    cases e:L.all de with
    | false=>rfl
    | true=>rw[List.all_eq_true.1 e _ hmem] at h0;cases h0
   generalize L.getD i default=x at hg htk hxl hno hmem;refine wGq tK ?_ ?_ (by simp only[go_sem,hg,cQ];try exact rfl)
   ·simp[hg,cQ,hlt]
   refine wC Tryz.func139 (hf:=(zi x z7)) (hk:=?_);refine wG tK ?_;refine wD (λh=>?_) (λh=>?_)
   ·have h0:de x=false:=by simpa using h
    refine wG tK ?_;refine wT ?_;simp[hno h0,fh,Eng.nrm,Eng.fA]
   ·have h0:de x=true:=by simpa using h
    refine wG tK ?_ w6 k0;refine ZB ⟨i+1,⟨by omega,by rw[htk,List.all_append,hs2];simp[h0]⟩,by omega,ZU ?_ ?_ ?_⟩
    ·simp[go_sem]
    ·simp[go_sem]
    ·simp[go_sem]
  ·have e:i=L.length:=by simp at h;omega
   subst e;rw[Zy] at hs2;refine wG tK ?_;refine wT ?_;simp[hs2,fh,Eng.nrm,Eng.fA,CF]
theorem kB (s:List UInt8) (hs:s.length≤100000000):ae Tryz.prog 102 [.str s] [] (λr _=>r=fh (ag s)):=Ez (A7 s hs)
variable {Fa:Prop}
theorem sq (u:U) (f w:Int) (h:(bz u f w).e≠0):(bz u f w).n=aC:=by
 unfold bz at h ⊢;split
 ·rename_i n hn;rw[hn] at h;exact absurd rfl h
 ·rename_i hn;rw[hn] at h;simp only at h;split
  ·rfl
  ·rename_i ha;rw[if_neg ha] at h;split
   ·rfl
   ·rename_i n hf;rw[hf] at h;exact absurd rfl h
theorem tw {B T:Nat} (u:U) (h:UInvF Fa B T u) (hB:B≤40000000) (hT:T≤900000000000) (l:List (List UInt8)) (hl:l.length≤1000) (hls:∀x,x∈l->x.length≤1000) (worth:Int) (G Y N:Nat->Nat):ae Tryz.prog 103 [.ptr 900 13 0 0,.sl (l.map cQ),.int .i64 worth] (cuH u G Y N)
  (λr H=>r=o_ (goU u l worth)/\Holds (cuH (goU u l worth).u G Y N) H):=by
 have hg0:=jW u h hB z7 0 worth;have hi0:=cn h 0 worth;have hn0:=kI h 0 worth;have hz0:=sq u 0 worth;have hgo:goU u l worth=goR worth l (bz u 0 worth):=rfl;unfold cuH o_ at hg0;unfold cuH o_;generalize bz u 0 worth=g0 at *;generalize goU u l worth=gF at *;refine ZF tK (Tryz.func103) rfl (λC=>?_);simp only[Tryz.ntmps103,Tryz.results103,go_sem];refine wG tK ?_;refine ay (bl 6) ?_;simp only[go_sem];refine wP [900] Tryz.func106 (hf:=(hg0)) (hk:=?_);refine wGq tK ?_ ?_ w3
 ·simp[ZN]
 refine ZL (λq:Nat×Got=>q.1≤l.length/\gF=goR worth (l.drop q.1) q.2/\UInvF Fa B (T+1+q.1) q.2.u/\NodeOK q.2.n/\(q.2.e≠0->q.2.n=aC)) (λq=>l.length-q.1)
  (λq=>(9,.int .i64 q.2.e)::u0 10 4 ((22,.int .i64 q.1)::u0 23 30 []))
  (λq=>[(900,.cells 146 13 [cg q.2.u]),(8,.cells 94 5 [ZN q.2.n])]) (0,g0) ⟨Wl _,by rw[List.drop_zero];exact hgo,hi0,hn0,hz0⟩ ?_ λq hq=>?_
 ·simp only[go_sem];exact ZU w1 Qy Qy
 obtain ⟨i,g⟩:=q;obtain ⟨hi,hgf,hui,hno,hz⟩:=hq;simp only at hi hgf hui hno hz;simp only[go_sem];refine wG tK ?_;refine wD (λh=>?_) (λh=>?_)
 ·have hlt:i<l.length:=by simp at h;omega
  have hg:(l.map cQ).getD i []=cQ (l.getD i default):=Fam.getD hlt;have hsl:=hls _ (YG hlt);rw[cH hlt] at hgf;generalize l.getD i default=s at *;have hw1:=wi1 (i:=i) z7;refine wGq tK ?_ ?_ (by simp only[go_sem,hg,cQ];try exact rfl)
  ·simp[hg,cQ,hlt]
  by_cases he:g.e=0
  ·have hent:=iz g.n s hno.small;refine wDF (hb:=QG) (hk:=?_);refine wG tK ?_ w3 Qy;cases hd:g.n.dir with
   | false=>
    refine wDT (hb:=(rfl)) (hk:=?_);refine wG tK ?_;refine ay (bl 6) ?_;simp only[go_sem];refine wU ?_ ?_
    ·simp[hgf,goR,he,hd,ZN,aC]
    ·have e:gF.u=g.u:=by simp[hgf,goR,he,hd]
     rw[e];simp only[pins,List.cons_append,List.nil_append,List.map_cons,List.map_nil]
     repeat' refine ZH ?_ ?_
     all_goals first | exact YH _ | rfl | simp[go_sem]
   | true=>
    refine wDF (hb:=(rfl)) (hk:=?_);refine wG tK ?_;unfold ZN at hent;rw[hd] at hent;cases hen:bJ g.n s with
    | none=>
     rw[hen] at hent;simp only[dp] at hent;refine wC Tryz.func104 (hf:=(hent)) (hk:=?_);refine wG tK ?_;refine wDT (hb:=(rfl)) (hk:=?_);refine wG tK ?_;refine ay (bl 6) ?_;simp only[go_sem];refine wU ?_ ?_
     ·simp[hgf,goR,he,hd,hen,ZN,aC]
     ·have e:gF.u=g.u:=by simp[hgf,goR,he,hd,hen]
      rw[e];simp only[pins,List.cons_append,List.nil_append,List.map_cons,List.map_nil]
      repeat' refine ZH ?_ ?_
      all_goals first | exact YH _ | rfl | simp[go_sem]
    | some f=>
     rw[hen] at hent;simp only[dp] at hent;have hg1:=jW g.u hui hB z7 f worth;unfold cuH o_ at hg1;have hui2:=cn hui f worth;have hno2:=kI hui f worth;have hz2:=sq g.u f worth;have hgf2:gF=goR worth (l.drop (i+1)) (bz g.u f worth):=by rw[hgf,goR,if_neg QG,if_neg (by simp[hd]),hen]
     generalize bz g.u f worth=g2 at *;refine wC Tryz.func104 (hf:=(hent)) (hk:=?_);refine wG tK ?_;refine wDF (hb:=(rfl)) (hk:=?_);refine wG tK ?_;refine wP [900] Tryz.func106 (hf:=(hg1)) (hk:=?_);refine wGq tK ?_ ?_ (by simp only[go_sem,ZN,hw1];try exact rfl)
     ·simp[ZN]
     refine ZB ⟨(i+1,g2),⟨by simp only;omega,hgf2,hui2.mono (Zw _) (by simp only;omega),hno2,hz2⟩,by simp only;omega,ZU ?_ ?_ ?_⟩
     ·simp[go_sem]
     ·simp[go_sem,ZN]
     ·simp[go_sem]
  ·refine wDT (hb:=QG) (hk:=?_);refine wG tK ?_;refine ay (bl 6) ?_;simp only[go_sem];refine wU ?_ ?_
   ·simp[hgf,goR,he,ZN,aC]
   ·have e:gF.u=g.u:=by simp[hgf,goR,he]
    rw[e];simp only[pins,List.cons_append,List.nil_append,List.map_cons,List.map_nil]
    repeat' refine ZH ?_ ?_
    all_goals first | exact YH _ | rfl | simp[go_sem]
 ·have e:i=l.length:=by simp at h;omega
  subst e;rw[List.drop_length] at hgf;have hgu:gF.u=g.u:=by rw[hgf];unfold goR;split<;>rfl
  have hge:gF.e=g.e:=by rw[hgf];unfold goR;split<;>rfl
  have hgn:gF.n=g.n:=by
   rw[hgf];unfold goR;split
   ·rfl
   ·rename_i h0;exact (hz h0).symm
  refine wGq tK ?_ ?_ w3
  ·simp[ZN]
  refine wU ?_ ?_
  ·rw[hge,hgn];rfl
  ·rw[hgu];simp only[pins,List.cons_append,List.nil_append,List.map_cons,List.map_nil]
   repeat' refine ZH ?_ ?_
   all_goals first | exact YH _ | rfl | simp[go_sem]
theorem iK {B T:Nat} (u:U) (h:UInvF Fa B T u) (hB:B≤40000000) (hT:T≤900000000000) (path:List UInt8) (hp:path.length≤10000000) (G Y N:Nat->Nat):ae Tryz.prog 73 [.ptr 900 13 0 0,.str path] (cuH u G Y N)
  (λr H=>r=.tup [.agg (ZN (ak u path).n),.str (ak u path).name,.int .i64 (ak u path).e]/\Holds (cuH (ak u path).u G Y N) H):=by
 have hsp:=kB path z7;have hsl:=cP path;have hdu:ak u path=if (ag path).2≠0 then ⟨aC,[],(ag path).2,u⟩
  else if (ag path).1.length=0 then ⟨aC,[],7,u⟩
  else ⟨(goU u ((ag path).1.take ((ag path).1.length-1)) 0).n,(ag path).1.getD ((ag path).1.length-1) [],
   if (goU u ((ag path).1.take ((ag path).1.length-1)) 0).e=0/\(goU u ((ag path).1.take ((ag path).1.length-1)) 0).n.dir=false then 8 else (goU u ((ag path).1.take ((ag path).1.length-1)) 0).e,
   (goU u ((ag path).1.take ((ag path).1.length-1)) 0).u⟩:=rfl
 generalize ak u path=dF at *;unfold fh at hsp;generalize ag path=S at *;obtain ⟨L,E⟩:=S;obtain ⟨hll,hlx⟩:=hsl;simp only at hdu hll hlx hsp;unfold cuH;refine ZF tK (Tryz.func73) rfl (λC=>?_);simp only[Tryz.ntmps73,Tryz.results73,go_sem];refine wG tK ?_;refine ay (bl 4) ?_;simp only[go_sem];refine wC Tryz.func102 (hf:=(hsp)) (hk:=?_);refine wG tK ?_
 by_cases hE:E=0
 ·refine wDF (hb:=s6) (hk:=?_);refine wG tK ?_;rw[if_neg s6] at hdu
  by_cases hL:L.length=0
  ·rw[if_pos hL] at hdu;refine wDT (hb:=(by simp[hL])) (hk:=?_);refine wG tK ?_;refine ay (bl 4) ?_;simp only[go_sem];refine wU ?_ ?_
   ·rw[hdu];simp[ZN,aC]
   ·rw[hdu];simp only[pins,List.cons_append,List.nil_append,List.map_cons,List.map_nil]
    repeat' refine ZH ?_ ?_
    all_goals first | exact YH _ | rfl | simp[go_sem]
  ·rw[if_neg hL] at hdu;have hw:IntKind.i64.wrap ((L.length:Int)-1)=((L.length-1:Nat):Int):=by rw[Eng.wrap_small z7 z7];omega
   have hgo:=tw u h hB hT (L.take (L.length-1)) n3 (λx hx=>by have:=(hlx x (Z3 hx)).1;omega) 0;have hgl:(L.map cQ).getD (L.length-1) []=[.str (L.getD (L.length-1) [])]:=by
    have hi:L.length-1<L.length:=by omega
    rw[Zo,Zr,Zo,Zp hi];rfl
   have hLlt:L.length-1<L.length:=by omega
   have htk:(L.map cQ).take (L.length-1)=(L.take (L.length-1)).map cQ:=Wt.symm;unfold cuH o_ at hgo;generalize goU u (L.take (L.length-1)) 0=g at *;refine wDF (hb:=(by simp[hL])) (hk:=?_);refine wR ?_;refine wNq tK 6 ?_ ?_ z6 z6 (by simp only[go_sem,hw,htk];try exact rfl)
   ·simp[hw,htk];exact λ_ _=>rfl
   refine wP [900] Tryz.func103 (hf:=(hgo)) (hk:=?_);refine wGq tK ?_ ?_ w3
   ·simp[ZN]
   by_cases hge:g.e=0
   ·cases hd:g.n.dir with
    | true=>
     have hdF:dF=⟨g.n,L.getD (L.length-1) [],g.e,g.u⟩:=by rw[hdu];simp[hd]
     rw[hdF];refine wDF (hb:=(by simp[hge,hd])) (hk:=?_);refine wG tK ?_;refine ZW ZM ?_;refine ZS rfl ?_;refine sN tK 7 ?_ z6 z6 QT Zh;refine sN tK 1 ?_;refine sT tK ?_;refine sG tK ?_;refine sE ?_;refine wKd ?_
     try simp only[go_sem,gA,gB,gC]
     refine wG tK ?_;refine wU ?_ ?_
     ·first | (simp[ZN];done) | simp[ZN,hd]
     ·exact q9
    | false=>
     have hdF:dF=⟨g.n,L.getD (L.length-1) [],8,g.u⟩:=by rw[hdu];simp[hd,hge]
     rw[hdF];refine wDT (hb:=(by simp[hge,hd])) (hk:=?_);refine wG tK ?_;refine wG tK ?_;refine ZW ZM ?_;refine ZS rfl ?_;refine sN tK 7 ?_ z6 z6 QT Zh;refine sN tK 1 ?_;refine sT tK ?_;refine sG tK ?_;refine sE ?_;refine wKd ?_
     try simp only[go_sem,gA,gB,gC]
     refine wG tK ?_;refine wU ?_ ?_
     ·first | (simp[ZN];done) | simp[ZN,hd]
     ·exact q9
   ·have hdF:dF=⟨g.n,L.getD (L.length-1) [],g.e,g.u⟩:=by rw[hdu];simp[hge]
    rw[hdF];refine wDF (hb:=p6) (hk:=?_);refine wG tK ?_;refine ZW ZM ?_;refine ZS rfl ?_;refine sN tK 7 ?_ z6 z6 QT Zh;refine sN tK 1 ?_;refine sT tK ?_;refine sG tK ?_;refine sE ?_;refine wKd ?_
    try simp only[go_sem,gA,gB,gC]
    refine wG tK ?_;refine wU ?_ ?_
    ·first | (simp[ZN];done) | simp[ZN,hd]
    ·exact q9
 ·rw[if_pos s6] at hdu;refine wDT (hb:=s6) (hk:=?_);refine wG tK ?_;refine ay (bl 4) ?_;simp only[go_sem];refine wU ?_ ?_
  ·rw[hdu];simp[ZN,aC]
  ·rw[hdu];simp only[pins,List.cons_append,List.nil_append,List.map_cons,List.map_nil]
   repeat' refine ZH ?_ ?_
   all_goals first | exact YH _ | rfl | simp[go_sem]
end La
