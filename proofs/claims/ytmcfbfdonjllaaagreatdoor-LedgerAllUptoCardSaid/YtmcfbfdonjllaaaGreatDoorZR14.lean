/- Texts of this claim, part 14. No condition. -/
import Derived.Shelf.SlSortCmp.InsertionK
import Derived.Shelf.SlicesG.Cmp
import Derived.Shelf.SlSortCmp.WholeK
import Derived.Test.YtmcfbfdonjllaaaGreatDoorZR12
import Derived.Shelf.Strings.Split
set_option maxRecDepth 10000
set_option maxHeartbeats 4000000
set_option linter.unusedSimpArgs false
set_option linter.unusedVariables false
namespace Go.Proofs
open Go.Shelf
def Tryz.ET:Go.Shelf.Ren:=⟨λ| 6=>145 | 15=>172 | 14=>171 | 28=>205 | 29=>206 | 20=>197 | 21=>198 | 22=>199 | 23=>200 | 24=>201 | 25=>202 | 26=>203 | 27=>204 | 46=>224 | 47=>225 | 48=>226 | 49=>227 | 50=>228 | 57=>240 | n=>n,λ| 22=>29 | 24=>94 | 25=>225 | 3=>3 | 39=>244 | 0=>0 | 53=>270 | 55=>272 | 4=>4 | 46=>264 | 45=>263 | 50=>168 | 5=>5 | 9=>9 | 66=>286 | 70=>290 | 76=>296 | 77=>132 | n=>n,λ| n=>n⟩
theorem Tryz.lf:Go.Proofs.SlLaysF0.n6 Tryz.prog Tryz.ET:={
 mixed:=by kernel_rfl
 f6:=⟨Tryz.f145.name,by decide,Tryz.func145.trans (congrArg some w9)⟩
 f14:=⟨Tryz.f171.name,by decide,Tryz.func171.trans (congrArg some w9)⟩
 f15:=Tryz.func172.trans (congrArg some w9)
 f20:=⟨Tryz.f197.name,by decide,Tryz.func197.trans (congrArg some w9)⟩
 f21:=⟨Tryz.f198.name,by decide,Tryz.func198.trans (congrArg some w9)⟩
 f22:=⟨Tryz.f199.name,by decide,Tryz.func199.trans (congrArg some w9)⟩
 f23:=⟨Tryz.f200.name,by decide,Tryz.func200.trans (congrArg some w9)⟩
 f24:=⟨Tryz.f201.name,by decide,Tryz.func201.trans (congrArg some w9)⟩
 f25:=⟨Tryz.f202.name,by decide,Tryz.func202.trans (congrArg some w9)⟩
 f26:=⟨Tryz.f203.name,by decide,Tryz.func203.trans (congrArg some w9)⟩
 f27:=⟨Tryz.f204.name,by decide,Tryz.func204.trans (congrArg some w9)⟩
 f28:=Tryz.func205.trans (congrArg some w9)
 f29:=Tryz.func206.trans (congrArg some w9)
 f46:=⟨Tryz.f224.name,by decide,Tryz.func224.trans (congrArg some w9)⟩
 f47:=Tryz.func225.trans (congrArg some w9)
 f48:=Tryz.func226.trans (congrArg some w9)
 f49:=⟨Tryz.f227.name,by decide,Tryz.func227.trans (congrArg some w9)⟩
 f50:=⟨Tryz.f228.name,by decide,Tryz.func228.trans (congrArg some w9)⟩
 f57:=⟨Tryz.f240.name,by decide,Tryz.func240.trans (congrArg some w9)⟩
 t0:=Tryz.underlying0
 a0:=Tryz.isAgg0
 z0:=Tryz.sizeOf0
 v0:=Tryz.zeroValue0
 t3:=Tryz.underlying3
 a3:=Tryz.isAgg3
 z3:=Tryz.sizeOf3
 v3:=Tryz.zeroValue3
 t4:=Tryz.underlying4
 a4:=Tryz.isAgg4
 z4:=Tryz.sizeOf4
 v4:=Tryz.zeroValue4
 t5:=Tryz.underlying5
 a5:=Tryz.isAgg5
 z5:=Tryz.sizeOf5
 v5:=Tryz.zeroValue5
 t9:=Tryz.underlying9
 a9:=Tryz.isAgg9
 z9:=Tryz.sizeOf9
 v9:=Tryz.zeroValue9
 t22:=Tryz.underlying29
 a22:=Tryz.isAgg29
 z22:=Tryz.sizeOf29
 v22:=Tryz.zeroValue29
 t25:=Tryz.underlying225
 a25:=Tryz.isAgg225
 z25:=Tryz.sizeOf225
 v25:=Tryz.zeroValue225
 t39:=Tryz.underlying244
 a39:=Tryz.isAgg244
 z39:=Tryz.sizeOf244
 v39:=Tryz.zeroValue244
 t45:=Tryz.underlying263
 a45:=Tryz.isAgg263
 z45:=Tryz.sizeOf263
 v45:=Tryz.zeroValue263
 t46:=Tryz.underlying264
 a46:=Tryz.isAgg264
 z46:=Tryz.sizeOf264
 v46:=Tryz.zeroValue264
 t50:=Tryz.underlying168
 a50:=Tryz.isAgg168
 z50:=Tryz.sizeOf168
 v50:=Tryz.zeroValue168
 t53:=Tryz.underlying270
 a53:=Tryz.isAgg270
 z53:=Tryz.sizeOf270
 v53:=Tryz.zeroValue270
 t55:=Tryz.underlying272
 a55:=Tryz.isAgg272
 z55:=Tryz.sizeOf272
 v55:=Tryz.zeroValue272
 t66:=Tryz.underlying286
 a66:=Tryz.isAgg286
 z66:=Tryz.sizeOf286
 v66:=Tryz.zeroValue286
 t70:=Tryz.underlying290
 a70:=Tryz.isAgg290
 z70:=Tryz.sizeOf290
 v70:=Tryz.zeroValue290
 t76:=Tryz.underlying296
 a76:=Tryz.isAgg296
 z76:=Tryz.sizeOf296
 v76:=Tryz.zeroValue296
 t77:=Tryz.underlying132
 a77:=Tryz.isAgg132
 z77:=Tryz.sizeOf132
 v77:=Tryz.zeroValue132 }
def Tryz.FE:Go.Shelf.Ren:=⟨λ| 5=>147 | 7=>173 | n=>n,λ| 22=>3 | 3=>3 | 4=>4 | n=>n,λ| n=>n⟩
theorem Tryz.jx:Go.Proofs.SlLaysC2.n5 Tryz.prog Tryz.FE:={
 mixed:=by kernel_rfl
 f5:=⟨Tryz.f147.name,by decide,Tryz.func147.trans (congrArg some w9)⟩
 f7:=⟨Tryz.f173.name,by decide,Tryz.func173.trans (congrArg some w9)⟩
 t3:=Tryz.underlying3
 a3:=Tryz.isAgg3
 z3:=Tryz.sizeOf3
 v3:=Tryz.zeroValue3
 t4:=Tryz.underlying4
 a4:=Tryz.isAgg4
 z4:=Tryz.sizeOf4
 v4:=Tryz.zeroValue4
 t22:=Tryz.underlying3
 a22:=Tryz.isAgg3
 z22:=Tryz.sizeOf3
 v22:=Tryz.zeroValue3 }
end Go.Proofs
namespace La
open Go Go.Eng Go.Proofs Go.Proofs.Tryz
structure Five where
 fid:Int
 rest:List Value
 len:rest.length=4
 one:∀v∈rest,v.oneCell'=true
instance:Inhabited Five:=⟨⟨0,[.bool false,.bool false,.bool false,.bool false],rfl,by simp[Value.oneCell']⟩⟩
def Five.enc (x:Five):List Value:=.int .i64 x.fid::x.rest
theorem Five.CZ (x:Five):x.enc.length=5:=by unfold Five.enc;rw[List.length_cons,x.len]
theorem Five.IM (x:Five):∀v∈x.enc,v.oneCell'=true:=by
 intro v hv
 rcases List.mem_cons.1 hv with rfl | hv
 ·rfl
 ·exact x.one v hv
def tM (x y:Five):Int:=Lib.compareInt x.fid y.fid
theorem xW (x y:Five):ltOf tM x y=decide (x.fid<y.fid):=by
 unfold ltOf tM Lib.compareInt
 by_cases h1:x.fid<y.fid
 ·simp[h1]
 ·by_cases h2:y.fid<x.fid<;>simp[h1,h2]
theorem JU:Sort.SWO (ltOf tM) where
 irrefl x:=by rw[xW];simp
 trans x y z h1 h2:=by rw[xW] at *;simp at *;omega
 ntrans x y z h1 h2:=by rw[xW] at *;simp at *;omega
theorem Bp (a b:Int) (a1 a2 a3 a4 b1 b2 b3 b4:Value) (W:World) :
  Calls prog 146 #[.agg #[.int .i64 a,a1,a2,a3,a4],.agg #[.int .i64 b,b1,b2,b3,b4]] W λe w'=>e=.returned (.int .i64 (Lib.compareInt a b))/\∃q os',w'=Sort.grow (W.drewN q) os':=by
 have hcon:=λW'=>AnyG.cmp_Compare_int Tryz.jx a b W'
 change ∀W',Calls prog 147 _ _ _ at hcon
 generalize Lib.compareInt a b=r at hcon ⊢
 go_enter func146,ntmps146
 go_wp2_with (go_at_call 147;refine (hcon _).mono ?_;rintro e w' ⟨rfl,rfl⟩)
 go_ret
 exact ⟨rfl,0,_,by rw[Sort.alloc_eq_grow,Sort.alloc_eq_grow,Sort.grow_grow];rfl⟩
theorem Iz (blk off size:Nat) (w:World):CmpLays prog 146 #[] Five.enc 5 tM blk off size w:=by
 intro m os dk _ x y;obtain ⟨a,l,hl,_⟩:=x;obtain ⟨b,l',hl',_⟩:=y;obtain ⟨a1,a2,a3,a4,rfl⟩:∃a1 a2 a3 a4,l=[a1,a2,a3,a4]:=by
  match l,hl with
  | [a1,a2,a3,a4],_=>exact ⟨a1,a2,a3,a4,rfl⟩
 obtain ⟨b1,b2,b3,b4,rfl⟩:∃b1 b2 b3 b4,l'=[b1,b2,b3,b4]:=by
  match l',hl' with
  | [a1,a2,a3,a4],_=>exact ⟨a1,a2,a3,a4,rfl⟩
 exact Bp a b a1 a2 a3 a4 b1 b2 b3 b4 _
theorem D9 {α β:Type} {f:β->α} {d' d:List α} (h:d'.Perm d):∀z:List β,z.map f=d->∃z':List β,z'.Perm z/\z'.map f=d':=by
 induction h with
 | nil=>intro z hz;exact ⟨z,.refl _,hz⟩
 | cons x _ ih=>
  intro z hz;obtain ⟨q,z0,rfl,rfl,hz0⟩:=List.map_eq_cons_iff.1 hz;obtain ⟨z',h1,h2⟩:=ih z0 hz0;exact ⟨q::z',h1.cons q,by simp[h2]⟩
 | swap x y l=>
  intro z hz;obtain ⟨q,z0,rfl,rfl,hz0⟩:=List.map_eq_cons_iff.1 hz;obtain ⟨q2,z1,rfl,rfl,hz1⟩:=List.map_eq_cons_iff.1 hz0;exact ⟨q2::q::z1,.swap _ _ _,by simp[hz1]⟩
 | trans _ _ ih1 ih2=>
  intro z hz;obtain ⟨z1,h1,h2⟩:=ih2 z hz;obtain ⟨z2,h3,h4⟩:=ih1 z1 h2;exact ⟨z2,h3.trans h1,h4⟩
theorem IQ {S:Nat->Prop} {w:World} (f:Nat->Value) (n:Node) (h:∀j a,(ZN n)[j]? = some a->RdP S w (f j) a) :
  ∃x:Five,x.fid=n.fid/\x.enc=[f 0,f 1,f 2,f 3,f 4]:=by
 have h0:=h 0 _ rfl;have h1:=h 1 _ rfl;have h2:=h 2 _ rfl;have h3:=h 3 _ rfl;have h4:=h 4 _ rfl;have o1:(f 1).oneCell'=true:=by generalize f 1=v at h1;cases h1;rfl
 have o2:(f 2).oneCell'=true:=by generalize f 2=v at h2;cases h2;rfl
 have o3:(f 3).oneCell'=true:=by generalize f 3=v at h3;cases h3;rfl
 have o4:(f 4).oneCell'=true:=by generalize f 4=v at h4;cases h4;rfl
 refine ⟨⟨n.fid,[f 1,f 2,f 3,f 4],rfl,?_⟩,rfl,?_⟩
 ·intro v hv;simp at hv
  rcases hv with rfl | rfl | rfl | rfl<;>assumption
 ·unfold Five.enc;have:f 0=.int .i64 n.fid:=by generalize f 0=v at h0;cases h0;rfl
  rw[this]
theorem lM (n:Node):(ZN n).length=5:=rfl
theorem Jy {μ:Nat->Option Nat} {S:Nat->Prop} {w:World} {v:Value} {n:Node} {j:Nat} {a:AV} (ha:(ZN n)[j]? = some a) (h:Rd μ S w v a):RdP S w v a:=by
 have hj:j<5:=by
  have:=(W6.1 ha).1
  rwa [lM] at this
 match j,hj,ha with
 | 0,_,ha=>cases ha;cases h;assumption
 | 1,_,ha=>cases ha;cases h;assumption
 | 2,_,ha=>cases ha;cases h;assumption
 | 3,_,ha=>cases ha;cases h;assumption
 | 4,_,ha=>cases ha;cases h;assumption
theorem EU (id:Nat) (hid:id<5000) (G Y N:Nat->Nat) (l l':List Node) (h0:0<l.length) (hlen:l.length<=100000000)
  (hu:∀p:List Node,p.Perm l->p.Pairwise (λa b=>a.fid<=b.fid)->p=l') :
  aj prog 145 [.osl id 5 0 l.length,.fn 146 []] ([(id,.cells 94 5 (l.map ZN))]++pins [id] G Y N) (λr H=>r=.tup []/\∀i b,aa ([(id,.cells 94 5 (l'.map ZN))]++pins [id] G Y N) i=some b->aa H i=some b):=by
 intro R0 μ w0 vs hvl hargs hH hR;obtain ⟨v0,v1,rfl⟩:∃v0 v1,vs=[v0,v1]:=by
  match vs,hvl with
  | [a,b],_=>exact ⟨a,b,rfl⟩
 have hv0:Rd μ R0 w0 v0 (.osl id 5 0 l.length):=hargs 0 _ rfl;have hv1:Rd μ R0 w0 v1 (.fn 146 []):=hargs 1 _ rfl;clear hargs hvl;have e1:v1=.func (.func 146) #[] #[]:=by
  cases hv1 with
  | pure h=>
   cases h with
   | fn f vals caps hl hr=>
    have:vals=#[]:=Array.eq_empty_of_size_eq_zero QN;rw[this]
  | fn f vals caps hl hr=>
   have:vals=#[]:=Array.eq_empty_of_size_eq_zero QN;rw[this]
 subst e1;have hget1:∀(R:List (List AV)) id' b,aa ([(id,Blk.cells 94 5 R)]++pins [id] G Y N) id'=some b->(id'=id/\b=.cells 94 5 R)\/(id'=5000+id/\b=.pin id (G id) (Y id) (N id)):=by
  intro R id' b h
  by_cases h1:id'=id
  ·subst h1;simp[aa,pins] at h;exact .inl ⟨rfl,h.symm⟩
  ·by_cases h2:id'=5000+id
   ·subst h2;simp[aa,pins] at h;exact .inr ⟨rfl,h.symm⟩
   ·simp[aa,pins,Ne.symm h1,Ne.symm h2] at h
 have hget2:∀(R:List (List AV)),aa ([(id,Blk.cells 94 5 R)]++pins [id] G Y N) id=some (.cells 94 5 R):=by
  intro R;simp[aa]
 have hget3:∀(R:List (List AV)),aa ([(id,Blk.cells 94 5 R)]++pins [id] G Y N) (5000+id)=some (.pin id (G id) (Y id) (N id)):=by
  intro R;simp[aa,pins]
 have hb:=hH.blk id _ (hget2 _);have hpin:=hH.blk (5000+id) _ (hget3 _)
 rcases hb with ⟨hb,_⟩ | ⟨g,c,hg,hgw,hsz,_,hrd⟩
 ·simp at hb;subst hb;simp at h0
 have hv0':∃cap,v0=.slice (some ⟨g,0,none⟩) l.length cap:=by
  cases hv0 with
  | pure h=>cases h
  | osl id size off len cap A hc h=>
   rcases h with ⟨h,_⟩ | ⟨g',e,n,hg',rfl,_,_⟩
   ·omega
   ·rw[hg] at hg';injection hg' with hg';subst hg'
    exact ⟨cap,by simp⟩
 obtain ⟨cap,rfl⟩:=hv0';clear hv0 hv1;have hgd:=hH.dom id g hg;simp only[List.length_map] at hsz
 -- the five cells of each
 have hF:∀i:Fin l.length,∃x:Five,x.fid=l[i].fid/\x.enc=[c.getD (i.1*5+0) undef,c.getD (i.1*5+1) undef,c.getD (i.1*5+2) undef,c.getD (i.1*5+3) undef,c.getD (i.1*5+4) undef] /\
   ∀j a,(ZN l[i])[j]? = some a->RdP R0 w0 (x.enc.getD j undef) a:=by
  intro i;have hk:∀j a,(ZN l[i])[j]? = some a->RdP R0 w0 (c.getD (i.1*5+j) undef) a:=λj a ha=>
   Jy ha (hrd i.1 (ZN l[i]) w8 j a ha)
  obtain ⟨x,hx,hxe⟩:=IQ (λj=>c.getD (i.1*5+j) undef) l[i] hk;refine ⟨x,hx,hxe,λj a ha=>?_⟩;have hj:j<5:=by
   have:=(W6.1 ha).1
   rwa [lM] at this
  have:=hk j a ha;rw[hxe]
  match j,hj,this with
  | 0,_,h=>exact h
  | 1,_,h=>exact h
  | 2,_,h=>exact h
  | 3,_,h=>exact h
  | 4,_,h=>exact h
 obtain ⟨F,hF⟩:=Classical.axiomOfChoice hF;have hds:(Array.ofFn F).size=l.length:=Array.size_ofFn;have hdg:∀i (hi:i<l.length),(Array.ofFn F)[i]! = F ⟨i,hi⟩:=λi hi=>by
  rw[getElem!_pos _ i (by rw[hds];exact hi),Array.getElem_ofFn]
 generalize hd:Array.ofFn F=d at hds hdg;have hold:Sort.HoldsK Five.enc 5 w0 g 0 d:=by
  intro t ht;rw[Sort.size_flatK,hds] at ht;have hi:t / 5<l.length:=by omega
  have hc:t<c.size:=by omega
  have e:t=t / 5*5+t % 5:=by omega
  rw[Sort.get_flatK _ _ _ _ (by rw[hds];exact ht),hdg _ hi,(hF ⟨t / 5,hi⟩).2.1,Yc];constructor
  ·have:w0.cell? ⟨g,t,none⟩=some (c.getD t undef):=by
    simp[World.cell?,hgw,hc]
   rw[this];have hm:t % 5<5:=Nat.mod_lt _ z8;generalize t % 5=m at e hm;simp only
   match m,hm with
   | 0,_=>rw[<-e];rfl
   | 1,_=>rw[<-e];rfl
   | 2,_=>rw[<-e];rfl
   | 3,_=>rw[<-e];rfl
   | 4,_=>rw[<-e];rfl
  ·simp[World.frozen?,hgw]
 have eg:∀args w,(callFunc 146 args).run prog w=.ok (.enter 146 args) w:=enters_of func146 w9 rfl;have hcon:=AnyQ.slices_SortFunc Tryz.lf 5 isAgg94 Tryz.sizeOf94 Five.enc Five.CZ Five.IM tM JU 146 #[] g 0 cap d w0 eg (Iz g 0 d.size w0) hold hgd.2.2 (by rw[hds];omega);rw[hds] at hcon;refine hcon.mono ?_;rintro e W ⟨rfl,d',n,os,hp,hs,hW⟩;have hps:d'.size=l.length:=hp.1.trans hds
 -- the world behind it
 have hWh:W.heap=(w0.heap.modify g (Sort.onCells (Sort.putCells (λv=>v) 0 (Sort.flatK Five.enc 5 d'))))++os:=by rw[hW];rfl
 have hout:∀b,b<w0.heap.size->b≠g->W.heap[b]? = w0.heap[b]?:=λb hb hne=>by
  rw[hWh,Yh (by simpa using hb),Array.getElem?_modify,if_neg (Ne.symm hne)]
 have hin:W.heap[g]? = some (.cells (Sort.putCells (λv=>v) 0 (Sort.flatK Five.enc 5 d') c) 94 (0,0)):=by
  rw[hWh,Yh (by simpa using hgd.2.2),Array.getElem?_modify,if_pos rfl,hgw];rfl
 have hcs:(Sort.putCells (λv=>v) 0 (Sort.flatK Five.enc 5 d') c).size=c.size:=by simp[Sort.putCells]
 have hwsz:w0.heap.size<=W.heap.size:=by rw[hWh];simp
 -- the nodes behind it
 have hz1:(List.ofFn λi:Fin l.length=>(F i,l[i.1]'i.2)).map (·.1)=d.toList:=by
  rw[<-hd,Array.toList_ofFn,List.map_ofFn];rfl
 have hz2:(List.ofFn λi:Fin l.length=>(F i,l[i.1]'i.2)).map (·.2)=l:=by
  rw[List.map_ofFn];refine List.ext_getElem w8 λi h1 h2=>by simp
 have hzQ:∀q∈(List.ofFn λi:Fin l.length=>(F i,l[i.1]'i.2)),q.1.fid=q.2.fid/\∀j a,(ZN q.2)[j]? = some a->RdP R0 w0 (q.1.enc.getD j undef) a:=by
  intro q hq;obtain ⟨i,rfl⟩:=List.mem_ofFn.1 hq;exact ⟨(hF i).1,(hF i).2.2⟩
 generalize (List.ofFn λi:Fin l.length=>(F i,l[i.1]'i.2))=z at hz1 hz2 hzQ;have hperm:d'.toList.Perm d.toList:=by
  have:=hp.2.2;have a1:d'.extract 0 l.length=d':=by rw[<-hps];simp
  have a2:d.extract 0 l.length=d:=by rw[<-hds];simp
  rwa [a1,a2] at this
 obtain ⟨z',hzp,hz'⟩:=D9 hperm z hz1;have hzl:z'.length=l.length:=by rw[hzp.length_eq,<-hz2,List.length_map]
 have hzi:∀i (hi:i<z'.length),d'[i]! = (z'[i]).1:=λi hi=>by
  have:d'.toList[i]? = some (z'[i]).1:=by rw[<-hz',W2,Wz hi];rfl
  rw[getElem!_pos _ i (by rw[hps];omega)];rw[Array.getElem?_toList] at this;rw[YC (by rw[hps];omega)] at this;injection this
 have hQ':∀q∈z',q.1.fid=q.2.fid/\∀j a,(ZN q.2)[j]? = some a->RdP R0 w0 (q.1.enc.getD j undef) a:=λq hq=>hzQ q (hzp.mem_iff.1 hq)
 have hpl:z'.map (·.2)=l':=by
  refine hu _ (by rw[<-hz2];exact hzp.map _) ?_;rw[Yx];intro i j hi hj hij;simp only[List.length_map] at hi hj;simp only[List.getElem_map];have:=hs i j (Yp _) hij z8;rw[xW,hzi i hi,hzi j hj,(hQ' _ (YW hi)).1,(hQ' _ (YW hj)).1] at this;simpa using this
 have hl':l'.length=l.length:=by rw[<-hpl,List.length_map,hzl]
 have hne:∀b,R0 b->b≠g:=λb hb e=>hgd.2.1 (e▸hb)
 have hsame:aH R0 w0 W:=λb hb=>hout b (hR b hb) (hne b hb)
 refine ⟨_,.tup [],[(id,.cells 94 5 (l'.map ZN))]++pins [id] G Y N,μ,R0,rfl,⟨rfl,λ_ _ h=>h⟩,.tup #[] [] rfl w8,⟨?_,?_,hH.inj,?_⟩,?_,λid' g' h=>.inl ⟨id',h⟩,λb hb=>⟨YZ (hR b hb) hwsz,.inl hb⟩⟩
 ·intro id' b h
  rcases hget1 _ id' b h with ⟨rfl,rfl⟩ | ⟨rfl,rfl⟩
  rotate_left
  ·obtain ⟨q1,q2,q3⟩:=hpin;refine ⟨q1,q2,?_⟩;rw[<-q3];have hgg:g=G id:=by rw[hg] at q2;injection q2
   rw[<-hgg];unfold ag;rw[hin,hgw];simp only[hcs]
  refine .inr ⟨g,_,hg,hin,by rw[hcs,List.length_map,hl'];exact hsz,λrow hrow=>?_,?_⟩
  ·obtain ⟨n,_,rfl⟩:=W5.1 hrow;rfl
  ·intro i row hrow j x hx;obtain ⟨n,hn,rfl⟩:=W2 ..▸hrow |> YV.1
   have hj:j<5:=by
    have:=(W6.1 hx).1
    rwa [lM] at this
   have hi:i<l'.length:=(W6.1 hn).1;have hiz:i<z'.length:=by omega
   have hnz:(z'[i]).2=n:=by
    rw[<-hpl,W2,Wz hiz] at hn;injection hn
   have hq:=(hQ' _ (YW hiz)).2 j x (by rw[hnz];exact hx);have hval:(Sort.putCells (λv=>v) 0 (Sort.flatK Five.enc 5 d') c).getD (i*5+j) undef=(z'[i]).1.enc.getD j undef:=by
    have hlt:i*5+j<c.size:=by omega
    have hlt2:i*5+j<d'.size*5:=by rw[hps];omega
    rw[Array.getD_eq_getD_getElem?];simp only[Sort.putCells,Array.getElem?_mapIdx,YC hlt,Option.map_some,Option.getD_some,Nat.sub_zero,Sort.size_flatK];rw[if_pos ⟨Yp _,by omega⟩,Sort.get_flatK _ _ _ _ hlt2];have q1:(i*5+j) / 5=i:=by omega
    have q2:(i*5+j) % 5=j:=by omega
    rw[q1,q2,hzi i hiz];have hel:=Five.CZ (z'[i]).1;rw[getElem!_pos _ j z8,Xq,Wz z8];rfl
   rw[hval];exact .pure (hq.mono hsame λ_ h=>h)
 ·intro id' g' h;have:=hH.dom id' g' h;obtain ⟨⟨b,hb⟩,h2,h3⟩:=this
  rcases hget1 _ id' b hb with ⟨he,_⟩ | ⟨he,_⟩
  ·exact ⟨⟨_,by rw[he];exact hget2 _⟩,h2,YZ h3 hwsz⟩
  ·rw[he,hpin.1] at h;cases h
 ·exact ⟨λb hb=>⟨YZ (hH.glob.1 b hb).1 hwsz,(hH.glob.1 b hb).2⟩,glb.same w0 W (λb hb=>hout b (hH.glob.1 b hb).1 (λe=>(hH.glob.1 b hb).2 ⟨id,e▸hg⟩)) hH.glob.2⟩
 ·exact ⟨by rw[hW];rfl,by rw[hW];rfl,by rw[hW];rfl,hwsz,λb hb hA=>hout b hb (λe=>hA ⟨id,e▸hg⟩)⟩
theorem BO:Fo 206 [.int .u64 0] (.int .i64 0):=by
 refine wSG func206 ntmps206 results206 λC=>?_
 refine wFG ?_ (hb:=w8);refine wFG ?_ (hb:=w8);refine wDF ?_ (hb:=w8);refine wR ?_;refine wN 3 ?_;refine wNq 1 ?_ ?_
 ·decide
 refine wGT ?_;rfl
theorem Gs:Fo 172 [.int .u64 0] (.int .i64 0):=by
 refine wSG func172 ntmps172 results172 λC=>?_
 refine wFG ?_ (hb:=rfl);refine wC ?_ func206 (hf:=BO);refine wGT ?_;rfl
theorem EV (l:List Node) (hl:UpN l) (hlen:l.length=0):Fo 145 [.sl (l.map ZN),.fn 146 []] (.tup []):=by
 have hp:=LM l hl z8 0;rw[hlen] at hp;refine wSG func145 ntmps145 results145 λC=>?_
 have hu:IntKind.u64.wrap ((0:Nat):Int)=0:=by decide
 rw[hlen,hu];refine wCg ?_ func172 (hf:=Gs);refine wCg ?_ func171 (hf:=hp);refine iE ⟨_,_,rfl,trivial,.tup [],.inr (.inl rfl),rfl⟩
theorem yS (l:List Kept) (hl:SmallK l) (hu:sR l=true):Fo 108 [.sl (l.map ZK)] (.sl ((lf (aO l)).map ZN)):=by
 have hnl:(aO l).length=l.length:=by simp[aO]
 have hns:Small (aO l):=ye hl;have hd:∀i,i<(aO l).length->∀j,j<i->gO (aO l) j≠gO (aO l) i:=by
  have hU:oQ l l.length:=of_decide_eq_true hu;intro i hi j hj;have h1:=hU i z8 j hj;have hf:∀i,i<l.length->gO (aO l) i=zg l i:=λi hi=>by
   unfold gO zg aO;rw[Xq,Xq,W2,Wz hi];rfl
  rw[hf j z8,hf i z8];exact h1
 have hsl:=xb _ hd;have hlen:=hl.len;refine wSG func108 ntmps108 results108 λC=>?_
 refine wL l.length (λi=>(3,.osl 16 5 0 i)::(5,.any)::(8,.int .i64 i)::u0 9 9 [])
  (λi=>[(16,.cells 94 5 (((aO l).take i).map ZN))]) ?_ λi hi=>?_
 ·exact wY
 simp only[go_sem];refine wGD (λh=>?_) (λh=>?_)
 ·have hlt:=lt1 h;have hg:=Fam.getD (f:=ZK) hlt;have hs:=Am l i hlt;generalize l.getD i default=n at hg hs;have ht:List.take i (List.map ZN (List.take i (aO l)))=List.map ZN (List.take i (aO l)):=W1 k6;have hw:IntKind.i64.wrap ((i:Int)+1)=(i:Int)+1:=wrap_small z8 z8;refine wGq ?_ ?_ (by simp only[go_sem,hg,ZK,ht,hw];try exact rfl)
  ·simp[hlt,ZK,rowsOf];omega
  refine ZB ⟨i+1,by omega,by omega,ZU ?_ ?_ ?_⟩
  ·simp[go_sem]
  ·simp[go_sem,hs,ZN]
  ·simp only[go_sem]
 ·obtain rfl:=eq1 hi h;refine wG ?_;refine ZZ 16 rfl (fp _) ?_;rw[<-hnl,W4];simp only[go_sem]
  by_cases h0:(aO l).length=0
  ·refine wCg ?_ func66 (hf:=lP _ hns);have hnil:aO l=[]:=List.eq_nil_of_length_eq_zero h0;refine wC ?_ func145 (hf:=EV _ (by intro i h1 h2;omega) h0);refine wGT ?_;rw[hnil];rfl
  ·refine wCG ?_ [] 100 func66 (hf:=sI _ hns);refine wG ?_;have hne:aO l≠[]:=λe=>h0 (by rw[e];rfl)
   refine bE rfl (eb rfl z7 w3 ⟨_,func145,by kernel_rfl,rfl⟩ [123] w6 w3 w8 Zo w3 w3 (λG Y N=>EU 123 j8 G Y N (aO l) (lf (aO l)) z8 z8 (uK _ hd)) w7) ?_;refine wG ?_;refine ZZ 123 rfl (fp _) (wn ?_);refine wT ?_;rw[if_pos z8,W1 (by rw[List.length_map,hsl];exact W7 _)]
variable {Fa:Prop}
def cuH (u:U) (G Y N:Nat->Nat):List (Nat×Blk):=[(900,.cells 146 13 [bx u])]++pins [900] G Y N
theorem KN (l:List Kept) (fid now:Int) (hl:SmallK l):aj prog 144 [.sl (l.map ZK),.int .i64 fid,.int .i64 now] [] (λr H=>r=.osl 1000 8 0 l.length/\∀i b,aa [(1000,.cells 138 8 ((yF l fid now).map ZK))] i=some b->aa H i=some b):=by
 refine wSG func144 ntmps144 results144 λC=>?_
 refine wCG ?_ [] 978 func68 (hf:=kN l hl);refine wG ?_;refine wV ?_ func157 (hf:=nE l fid hl.len);unfold yF;cases e:ch l fid with
 | none=>
  simp only[cv];refine wGD (λh=>?_) (λh=>?_)
  ·cases h
  refine wGT ?_;simp[go_sem]
 | some i=>
  have hi:=qD e;have hlen:=hl.len;have hg:=gZ hi;have hs:=ke l i { l.getD i default with last:=now };simp only[ZK] at hs;simp only[cv];refine wGD (λh=>?_) (λh=>?_)
  ·refine wGq ?_ ?_ Zp
   ·simp[hg];omega
   refine wT ?_;simp[go_sem]
  ·simp at h
def kC (fid w:Int) (k:Kept):Kept:=if k.node.fid=fid then { k with worth:=mS k.worth w } else k
theorem CI (fid w c:Int) (k:Kept):kC fid w (E9 fid c k)=gl fid w c k:=by
 unfold kC E9 gl
 by_cases h:k.node.fid=fid
 ·rw[if_pos h,if_pos h];simp[h]
 ·rw[if_neg h,if_neg h,if_neg h]
def dN (M:List Kept) (fid w:Int) (i:Nat):List Kept:=(M.take i).map (kC fid w)++M.drop i
theorem Be (M:List Kept) (fid w:Int) (i:Nat):(dN M fid w i).length=M.length:=by
 unfold dN;rw[List.length_append,List.length_map,YA,YX];omega
theorem CJ {M:List Kept} (fid w:Int) {i:Nat} (h:i<M.length):(dN M fid w i).getD i default=M.getD i default:=by
 have hl:((M.take i).map (kC fid w)).length=i:=by rw[List.length_map,YA];omega
 unfold dN;rw[Xq,Xq,YO z8,hl,List.getElem?_drop,Ym,Nat.add_zero]
theorem Bf {M:List Kept} (fid w:Int) {i:Nat} (h:i<M.length):(dN M fid w i).set i (kC fid w (M.getD i default))=dN M fid w (i+1):=by
 have hl:((M.take i).map (kC fid w)).length=i:=by rw[List.length_map,YA];omega
 unfold dN;rw[ZT h,List.map_append,List.set_append_right _ _ z8,hl,Ym,cr h,List.set_cons_zero,List.append_assoc];rfl
theorem yH {M:List Kept} {fid w:Int} {i:Nat} (h:i<M.length) (hf:(M.getD i default).node.fid≠fid):dN M fid w (i+1)=dN M fid w i:=by
 unfold dN;rw[ZT h,List.map_append,cr h,List.append_assoc]
 congr 1
 show kC fid w (M.getD i default)::_=_
 unfold kC;rw[if_neg hf];rfl
theorem Bd {l:List Kept} (hu:sR l=true) (fid w c:Int):dN (yF l fid c) fid w (yF l fid c).length=l.map (gl fid w c):=by
 unfold dN;rw[W4,List.drop_length,List.append_nil,KM hu,Yf];exact Yj λk _=>CI fid w c k
theorem Hm {l:List Kept} (fid c:Int):(yF l fid c).length=l.length:=by
 unfold yF;cases ch l fid with
 | none=>rfl
 | some i=>exact YN
theorem DT (l:List Kept) (fid:Int):F8 l fid=(dZ l fid).isSome:=by
 unfold F8 dZ;rw[Option.isSome_map,Yu,List.any_eq_true,List.find?_isSome]
theorem Bx {c:Cli} (h:(c.cache.map λk=>k.node.fid).Nodup) (f:Int):ak (cP c) f=dZ c.cache f:=by
 cases e:dZ c.cache f with
 | some n=>
  obtain ⟨k,hk,hn,hf⟩:=kU e;exact (ZO (jV c)).2 ⟨(fu h n).2 ⟨k,hk,hn⟩,hf⟩
 | none=>
  refine (eS (jV c)).2 λx hx hf=>?_
  obtain ⟨k,hk,rfl⟩:=(fu h x).1 hx;unfold dZ at e;rw[Option.map_eq_none_iff,List.find?_eq_none] at e;exact absurd hf (by simpa using e k hk)
theorem UInvF.yt {B T:Nat} {u:U} (h:UInvF Fa B T u):SmallK u.c.cache:=⟨by have:=h.cli.len;have:=h.cli.room;omega,λk hk=>⟨by have:=h.cli.data k hk;omega,by have:=h.cli.ent k hk;omega⟩⟩
theorem mG {B T:Nat} (u:U) (h:UInvF Fa B T u) (hB:B<=40000000) (hT:T<=1000000000000) (fid worth:Int) (G Y N:Nat->Nat):aj prog 106 [.ptr 900 13 0 0,.int .i64 fid,.int .i64 worth] (cuH u G Y N)
  (λr H=>r=iG (bd u fid worth)/\Holds (cuH (bd u fid worth).u G Y N) H):=by
 have hcl:=h.cli.clock;have hlen:u.c.cache.length<=24:=by have:=h.cli.len;have:=h.cli.room;omega
 have hnod:=h.cli.nod;have hun:=oP hnod;have hsk:=h.yt;have hgsm:=h.cli.bR.small;have hup:=h.srv.hist.bR.up;have htl:u.s.tree.length<=24:=h.srv.hist.bR.len;have hts:Small u.s.tree:=h.srv.hist.bR.small;have hw:IntKind.i64.wrap (u.c.clock+1)=u.c.clock+1:=Eng.wrap_small z8 z8;have hhas:=Ly u.c.cache fid z8;rw[DT] at hhas;unfold cuH bx;refine wS func106 ntmps106 results106 λC=>?_
 refine wG ?_ w4 y7;refine af (av 6) (wn ?_);refine wCg ?_ func143 (hf:=hhas);cases hnk:dZ u.c.cache fid with
 | some n=>
  have hG:bd u fid worth=⟨n,0,cC u fid worth⟩:=by unfold bd;rw[hnk]
  rw[hG];refine wTG ?_ (hb:=rfl);have huse:=KN u.c.cache fid (u.c.clock+1) hsk;have hul:=Hm (l:=u.c.cache) fid (u.c.clock+1);have hall:=Bd hun fid worth (u.c.clock+1);rw[hul] at hall;generalize yF u.c.cache fid (u.c.clock+1)=M at *;rw[<-hul] at huse;refine wO ?_;refine sN 12 ?_;refine ib 2000 rfl rfl z7 w3 ⟨_,func144,by kernel_rfl,rfl⟩ w3 (huse) w3 z7 z7 w3 z6 z6 ?_;refine sG ?_;refine sE ?_;refine dS ?_;refine wKG ?_;refine wL M.length (λi=>(8,.any)::(53,.int .i64 i)::u0 54 34 [])
   (λi=>[(3000,.cells 138 8 ((dN M fid worth i).map ZK))]) ?_ λi hi=>?_
  ·simp only[go_sem];exact ZU w3 (by simp[go_sem,dN]) w3
  simp only[go_sem];refine wGD (λh=>?_) (λh=>?_)
  ·have hlt:=lt1 h;have hw1:=wi1 (i:=i) z8;have hDl:=Be M fid worth i;have hat:=CJ fid worth hlt;have hst:=Bf fid worth hlt;have hsy:=@yH M fid worth i hlt;generalize hD2:dN M fid worth (i+1)=D2 at *;generalize dN M fid worth i=D at *;have hg:=gZ (M:=D) (i:=i) z8;rw[hat] at hg;generalize M.getD i default=k at *;refine wGq ?_ ?_ u5
   ·simp[hg,hDl,hlt]
   refine wD (λh=>?_) (λh=>?_)
   ·have hf:k.node.fid=fid:=by simpa using h
    have hs:=ke D i (kC fid worth k);rw[hst] at hs;simp only[ZK,kC,if_pos hf,mS] at hs;refine wGS ?_;refine sNq 16 ?_ ?_ z6 z6 u5
    ·simp[hg,hDl,hlt]
    refine yr rfl rfl (q:=.i64) (q':=.i64) (u:=k.worth) (v:=worth) z7 z7 z6 z6 ?_;refine sNq 2 ?_ ?_ z6 z6 u5
    ·simp[hg,hDl,hlt]
    refine sE ?_;refine dSq ?_ ?_
    ·simp[go_sem,hg,hDl,hlt]
    refine wKn ?_;refine wG ?_ (by simp only[go_sem,hw1,hg,hs];try exact rfl) (by simp[go_sem,hw1,hg,hs]);exact ZB ⟨i+1,by omega,by omega,ZU w3 (by simp[go_sem,hD2]) w3⟩
   ·have hf:k.node.fid≠fid:=by simpa using h
    have hsy:=hsy hf;refine wG ?_ k8 p8;exact ZB ⟨i+1,by omega,by omega,ZU w3 (by simp[go_sem,hD2,hsy]) w3⟩
  ·obtain rfl:=eq1 hi h;rw[hul,hall];have htk:List.take u.c.cache.length ((u.c.cache.map (gl fid worth (u.c.clock+1))).map ZK)=(u.c.cache.map (gl fid worth (u.c.clock+1))).map ZK:=W1 w8;have hct:=yS (u.c.cache.map (gl fid worth (u.c.clock+1))) ⟨by rw[List.length_map];omega,λk hk=>by obtain ⟨x,hx,h1,_⟩:=jF hk;rw[<-h1];exact hsk.each x hx⟩ (oP (by rw[wq];exact hnod));rw[ue,show lf (aO u.c.cache)=cP u.c from rfl] at hct;have hfd:=dM (cP u.c) fid hgsm;unfold fT at hfd;rw[cS,Bx hnod,hnk] at hfd;simp only[Option.getD_some,Option.isSome_some] at hfd;refine wR ?_;refine ZZ 3000 rfl (bg _) ?_;simp only[go_sem,htk];refine wG ?_;refine wCg ?_ func108 (hf:=hct);refine wC ?_ func82 (hf:=hfd);refine wGq ?_ ?_ w5
   ·simp[ZN]
   refine wU ?_ ?_
   ·rfl
   ·exact q9
 | none=>
  refine wFG ?_ (hb:=rfl);have hlk:u.c.cache.map (gl fid worth (u.c.clock+1))=u.c.cache:=by
   refine (Yj λk hk=>?_).trans (List.map_id _);have hne:k.node.fid≠fid:=λe=>by
    unfold dZ at hnk;rw[Option.map_eq_none_iff,List.find?_eq_none] at hnk;exact hnk k hk (by simp[e])
   unfold gl;rw[if_neg hne];rfl
  cases ha:u.c.away with
  | true=>
   have hG:bd u fid worth=⟨ax,12,cC u fid worth⟩:=by unfold bd;rw[hnk];simp[ha]
   rw[hG];refine wTG ?_ (hb:=rfl);refine af (av 6) (wn ?_);refine wU ?_ ?_
   ·rfl
   ·skip
    simp only[pins,gH,gI,gJ,gK]
    repeat' refine ZH ?_ ?_
    all_goals first | exact YH _ | rfl | simp[go_sem,cC,ha,hlk]
  | false=>
   have hfd:=dM u.s.tree fid hts;unfold fT at hfd;rw[cS] at hfd;refine wFG ?_ (hb:=rfl);cases hff:ak u.s.tree fid with
   | none=>
    rw[hff] at hfd;simp only[Option.getD_none,Option.isSome_none] at hfd;have hG:bd u fid worth=⟨ax,6,cC u fid worth⟩:=by unfold bd;rw[hnk];simp[ha,hff]
    rw[hG];refine wC ?_ func82 (hf:=hfd);refine wG ?_ QP (by simp[go_sem,ZN,ax]);refine wTG ?_ (hb:=rfl);refine af (av 6) (wn ?_);refine wU ?_ ?_
    ·rfl
    ·skip
     simp only[pins,gH,gI,gJ,gK]
     repeat' refine ZH ?_ ?_
     all_goals first | exact YH _ | rfl | simp[go_sem,cC,ha,hlk]
   | some n=>
    rw[hff] at hfd;simp only[Option.getD_some,Option.isSome_some] at hfd;have hns:=hts.each n ((ZO hup).1 hff).1;have hG:bd u fid worth=⟨n,0,gQ (cC u fid worth) ⟨n,false,worth,u.c.clock+1⟩⟩:=by unfold bd;rw[hnk];simp[ha,hff]
    rw[hG];refine wC ?_ func82 (hf:=hfd);refine wGq ?_ ?_ w5
    ·simp[ZN]
    refine wDF ?_ (hb:=rfl);refine wGS ?_;refine sN 17 ?_;refine sB ?_;cases hkp:c_ u.c.cache u.c.room ⟨n,false,worth,u.c.clock+1⟩ with
    | none=>
     have hk:=xQ hsk hns hkp;have hKU:gQ (cC u fid worth) ⟨n,false,worth,u.c.clock+1⟩=cC u fid worth:=by unfold gQ cC;simp only[hlk,hkp]
     rw[hKU];refine sC ?_ func112 (hf:=hk);refine sG ?_;refine wXG ?_;refine wDF ?_ (hb:=rfl);refine wGq ?_ ?_ w5
     ·simp[ZN]
     refine wU ?_ ?_
     ·rfl
     ·skip
      simp only[pins,gH,gI,gJ,gK]
      repeat' refine ZH ?_ ?_
      all_goals first | exact YH _ | rfl | simp[go_sem,cC,ha,hlk]
    | some L=>
     have hk:=Gl hsk hns hkp;have hKU:gQ (cC u fid worth) ⟨n,false,worth,u.c.clock+1⟩=⟨{ (cC u fid worth).c with cache:=L },u.s⟩:=by unfold gQ cC;simp only[hlk,hkp]
     rw[hKU];refine sC ?_ func112 (hf:=hk);refine sG ?_;refine wXG ?_;refine wDT ?_ (hb:=rfl);refine wGq ?_ ?_ w5
     ·simp[ZN]
     refine wU ?_ ?_
     ·rfl
     ·skip
      simp only[pins,gH,gI,gJ,gK]
      repeat' refine ZH ?_ ?_
      all_goals first | exact YH _ | rfl | simp[go_sem,cC,ha,hlk]
theorem wi {l L:List Kept} {room:Int} {k:Kept} (hl:SmallK l) (hk:k.node.Small) (hL:c_ l room k=some L):aj prog 112 [.sl (l.map ZK),.int .i64 room,.agg (ZK k)] []
  (λr H=>r=.tup [.osl 1000 8 0 L.length,.int .i64 0]/\∀i b,aa [(1000,.cells 138 8 (L.map ZK))] i=some b->aa H i=some b):=by
 have hlen:=hl.len;have e0:=gZ (M:=[k]) (i:=0) w8;refine wS func112 ntmps112 results112 λC=>?_
 refine wGq ?_ ?_ QF
 ·simp
 refine wCG ?_ [] 978 func68 (hf:=kN l hl);refine wGq ?_ ?_ QF
 ·simp
 refine ZZ 14 rfl (rfl) (wn ?_);refine wC ?_ func68 (hf:=sA [k] (SmallK.one hk));refine wGq ?_ ?_ QF
 ·simp[ZK]
 refine wV ?_ func157 (hf:=nE l k.node.fid hlen);refine wG ?_;unfold c_ at hL;cases e:ch l k.node.fid with
 | some i=>
  rw[e] at hL;injection hL with hL
  subst hL;have hi:=qD e;have hg:=gZ hi;simp only[cv];refine wTG ?_ (hb:=w8);have hs:=ke l i { k with worth:=mS k.worth (l.getD i default).worth };simp only[ZK] at hs;unfold mS at hs;refine wO ?_;refine sNq 7 ?_ ?_ z6 z6 u5
  ·simp[hg];omega
  refine yr rfl rfl (q:=.i64) (q':=.i64) (u:=k.worth) (v:=(l.getD i default).worth) z7 z7 z6 z6 ?_;refine sN 1 ?_;refine sE ?_;refine dS ?_;refine wKn ?_;refine wGq ?_ ?_ Zp
  ·simp[hg];omega
  refine wT ?_;simp[go_sem,mS]
 | none=>
  rw[e] at hL;obtain ⟨L0,hL0,hLe⟩:=YV.1 hL;clear hL;simp only[cv];refine wFG ?_ (hb:=w8);refine ZZ 5 rfl (rfl) (wn ?_);refine ZL (λM:List Kept=>M.length<=l.length/\b_ room (M.length+1) M=some L0) (λM=>M.length) (λM=>(8,.osl 1000 8 0 M.length)::u0 10 15 (u0 39 13 [])) (λM=>[(1000,.cells 138 8 (M.map ZK))]) l ⟨W7 _,hL0⟩ ?_ λM hM=>?_
  ·exact wZ
  obtain ⟨hLl,hLs⟩:=hM;simp only[go_sem];refine wGD (λh=>?_) (λh=>?_)
  ·have hge:(M.length:Int)≥room:=by simpa using h
   rw[b_,if_pos hge] at hLs;refine wG ?_;refine wV ?_ func158 (hf:=Bc M z8);cases hw:ra M with
   | none=>
    rw[hw] at hLs;simp only at hLs;cases hLs
   | some i=>
    rw[hw] at hLs;simp only at hLs;have hi:i<M.length:=fQ M M.length i hw;have hwr:=wi1 (i:=i) z8;have hE:(M.eraseIdx i).length=M.length-1:=by rw[List.length_eraseIdx,if_pos hi]
    simp only[cv];refine wG ?_;refine wDF ?_ (hb:=w8);refine wG ?_ Z0 (by simp[go_sem,hwr]);have hne:¬M=[]:=λh0=>by rw[h0] at hi;simp at hi
    refine bE rfl (eb rfl z7 w3 ⟨_,func159,by kernel_rfl,rfl⟩ [1000] w6 w3 w8 Zo w3 w3 (FP M i hi z8) w7) ?_;refine wG ?_;refine ZB ⟨M.eraseIdx i,⟨by omega,?_⟩,by omega,ZU ?_ ?_ ?_⟩
    ·rw[<-hLs,hE];congr 1;omega
    ·simp[go_sem,hE]
    ·simp[go_sem]
    ·simp[go_sem]
  ·have hlt:¬(M.length:Int)≥room:=by simpa using h
   rw[b_,if_neg hlt] at hLs;injection hLs with hLs
   subst hLs;refine wGq ?_ ?_
   ·simp[rowsOf];omega
   refine af (gR 55 1000) ?_;refine wT ?_;rw[<-hLe];simp[go_sem,ZK]
end La
namespace Go.Proofs
open Go.Shelf
def Tryz.zQ:Go.Shelf.Ren:=⟨λ| 143=>196 | 219=>223 | 217=>236 | 225=>237 | 224=>238 | 267=>239 | 266=>244 | 314=>245 | n=>n,λ| 9=>9 | 3=>3 | 4=>4 | 5=>5 | 46=>244 | 146=>303 | 51=>270 | n=>n,λ| 1=>0 | n=>n⟩
theorem Tryz.I8:Go.Proofs.Lays.n143 Tryz.prog Tryz.zQ:={
 mixed:=by kernel_rfl
 f143:=Tryz.func196.trans (congrArg some w9)
 f217:=Tryz.func236.trans (congrArg some w9)
 f219:=Tryz.func223.trans (congrArg some w9)
 f224:=Tryz.func238.trans (congrArg some w9)
 f225:=Tryz.func237.trans (congrArg some w9)
 f266:=Tryz.func244.trans (congrArg some w9)
 f267:=Tryz.func239.trans (congrArg some w9)
 f314:=Tryz.func245.trans (congrArg some w9)
 t3:=Tryz.underlying3
 a3:=Tryz.isAgg3
 z3:=Tryz.sizeOf3
 v3:=Tryz.zeroValue3
 t4:=Tryz.underlying4
 a4:=Tryz.isAgg4
 z4:=Tryz.sizeOf4
 v4:=Tryz.zeroValue4
 t5:=Tryz.underlying5
 a5:=Tryz.isAgg5
 z5:=Tryz.sizeOf5
 v5:=Tryz.zeroValue5
 t9:=Tryz.underlying9
 a9:=Tryz.isAgg9
 z9:=Tryz.sizeOf9
 v9:=Tryz.zeroValue9
 t46:=Tryz.underlying244
 a46:=Tryz.isAgg244
 z46:=Tryz.sizeOf244
 v46:=Tryz.zeroValue244
 t51:=Tryz.underlying270
 a51:=Tryz.isAgg270
 z51:=Tryz.sizeOf270
 v51:=Tryz.zeroValue270
 t146:=Tryz.underlying303
 a146:=Tryz.isAgg303
 z146:=Tryz.sizeOf303
 v146:=Tryz.zeroValue303
 g1:=by kernel_rfl }
open Go.RowKit Go.Lib in
theorem Tryz.strings_Index_one (s:ByteArray) (c:UInt8) (w:World) :
  Calls Tryz.prog 196 #[.string s,.string ⟨#[c]⟩] w λe w'=>e=.returned (.int .i64 (Lib.indexByte s.data.toList c))/\w'=w:=Any.strings_Index_one Tryz.I8 s c w
def Tryz.zP:Go.Shelf.Ren:=⟨λ| 138=>195 | 195=>220 | 218=>222 | 143=>196 | 219=>223 | 217=>236 | 225=>237 | 224=>238 | 267=>239 | 266=>244 | 314=>245 | n=>n,λ| 9=>9 | 3=>3 | 4=>4 | 5=>5 | 0=>0 | 46=>244 | 146=>303 | 51=>270 | n=>n,λ| 1=>0 | n=>n⟩
theorem Tryz.I7:Go.Proofs.Lays.n138 Tryz.prog Tryz.zP:={
 mixed:=by kernel_rfl
 f138:=Tryz.func195.trans (congrArg some w9)
 f143:=Tryz.func196.trans (congrArg some w9)
 f195:=Tryz.func220.trans (congrArg some w9)
 f217:=Tryz.func236.trans (congrArg some w9)
 f218:=Tryz.func222.trans (congrArg some w9)
 f219:=Tryz.func223.trans (congrArg some w9)
 f224:=Tryz.func238.trans (congrArg some w9)
 f225:=Tryz.func237.trans (congrArg some w9)
 f266:=Tryz.func244.trans (congrArg some w9)
 f267:=Tryz.func239.trans (congrArg some w9)
 f314:=Tryz.func245.trans (congrArg some w9)
 t0:=Tryz.underlying0
 a0:=Tryz.isAgg0
 z0:=Tryz.sizeOf0
 v0:=Tryz.zeroValue0
 t3:=Tryz.underlying3
 a3:=Tryz.isAgg3
 z3:=Tryz.sizeOf3
 v3:=Tryz.zeroValue3
 t4:=Tryz.underlying4
 a4:=Tryz.isAgg4
 z4:=Tryz.sizeOf4
 v4:=Tryz.zeroValue4
 t5:=Tryz.underlying5
 a5:=Tryz.isAgg5
 z5:=Tryz.sizeOf5
 v5:=Tryz.zeroValue5
 t9:=Tryz.underlying9
 a9:=Tryz.isAgg9
 z9:=Tryz.sizeOf9
 v9:=Tryz.zeroValue9
 t46:=Tryz.underlying244
 a46:=Tryz.isAgg244
 z46:=Tryz.sizeOf244
 v46:=Tryz.zeroValue244
 t51:=Tryz.underlying270
 a51:=Tryz.isAgg270
 z51:=Tryz.sizeOf270
 v51:=Tryz.zeroValue270
 t146:=Tryz.underlying303
 a146:=Tryz.isAgg303
 z146:=Tryz.sizeOf303
 v146:=Tryz.zeroValue303
 g1:=by kernel_rfl }
open Go.RowKit Go.Lib in
theorem Tryz.strings_Count_one (s:ByteArray) (c:UInt8) (w:World) :
  Calls Tryz.prog 195 #[.string s,.string ⟨#[c]⟩] w λe w'=>e=.returned (.int .i64 (Lib.countByte s.data.toList c))/\w'=w:=Any.strings_Count_one Tryz.I7 s c w
def Tryz.zR:Go.Shelf.Ren:=⟨λ| 221=>169 | 268=>194 | 138=>195 | 143=>196 | 195=>220 | 197=>221 | 218=>222 | 219=>223 | 260=>235 | 217=>236 | 225=>237 | 224=>238 | 267=>239 | 266=>244 | 314=>245 | n=>n,λ| 9=>9 | 3=>3 | 31=>122 | 4=>4 | 0=>0 | 105=>283 | 21=>21 | 5=>5 | 46=>244 | 119=>299 | 139=>302 | 138=>301 | 146=>303 | 51=>270 | n=>n,λ| 1=>0 | 3=>1 | 4=>2 | n=>n⟩
theorem Tryz.I9:Go.Proofs.Lays.n221 Tryz.prog Tryz.zR:={
 mixed:=by kernel_rfl
 f138:=Tryz.func195.trans (congrArg some w9)
 f143:=Tryz.func196.trans (congrArg some w9)
 f195:=Tryz.func220.trans (congrArg some w9)
 f197:=Tryz.func221.trans (congrArg some w9)
 f217:=Tryz.func236.trans (congrArg some w9)
 f218:=Tryz.func222.trans (congrArg some w9)
 f219:=Tryz.func223.trans (congrArg some w9)
 f221:=Tryz.func169.trans (congrArg some w9)
 f224:=Tryz.func238.trans (congrArg some w9)
 f225:=Tryz.func237.trans (congrArg some w9)
 f260:=Tryz.func235.trans (congrArg some w9)
 f266:=Tryz.func244.trans (congrArg some w9)
 f267:=Tryz.func239.trans (congrArg some w9)
 f268:=Tryz.func194.trans (congrArg some w9)
 f314:=Tryz.func245.trans (congrArg some w9)
 t0:=Tryz.underlying0
 a0:=Tryz.isAgg0
 z0:=Tryz.sizeOf0
 v0:=Tryz.zeroValue0
 t3:=Tryz.underlying3
 a3:=Tryz.isAgg3
 z3:=Tryz.sizeOf3
 v3:=Tryz.zeroValue3
 t4:=Tryz.underlying4
 a4:=Tryz.isAgg4
 z4:=Tryz.sizeOf4
 v4:=Tryz.zeroValue4
 t5:=Tryz.underlying5
 a5:=Tryz.isAgg5
 z5:=Tryz.sizeOf5
 v5:=Tryz.zeroValue5
 t9:=Tryz.underlying9
 a9:=Tryz.isAgg9
 z9:=Tryz.sizeOf9
 v9:=Tryz.zeroValue9
 t21:=Tryz.underlying21
 a21:=Tryz.isAgg21
 z21:=Tryz.sizeOf21
 v21:=Tryz.zeroValue21
 t31:=Tryz.underlying122
 a31:=Tryz.isAgg122
 z31:=Tryz.sizeOf122
 v31:=Tryz.zeroValue122
 t46:=Tryz.underlying244
 a46:=Tryz.isAgg244
 z46:=Tryz.sizeOf244
 v46:=Tryz.zeroValue244
 t51:=Tryz.underlying270
 a51:=Tryz.isAgg270
 z51:=Tryz.sizeOf270
 v51:=Tryz.zeroValue270
 t105:=Tryz.underlying283
 a105:=Tryz.isAgg283
 z105:=Tryz.sizeOf283
 v105:=Tryz.zeroValue283
 t119:=Tryz.underlying299
 a119:=Tryz.isAgg299
 z119:=Tryz.sizeOf299
 t138:=Tryz.underlying301
 a138:=Tryz.isAgg301
 z138:=Tryz.sizeOf301
 v138:=Tryz.zeroValue301
 t139:=Tryz.underlying302
 a139:=Tryz.isAgg302
 z139:=Tryz.sizeOf302
 v139:=Tryz.zeroValue302
 t146:=Tryz.underlying303
 a146:=Tryz.isAgg303
 z146:=Tryz.sizeOf303
 v146:=Tryz.zeroValue303
 g1:=by kernel_rfl
 g3:=by kernel_rfl
 g4:=by kernel_rfl }
end Go.Proofs
namespace La
open Go Go.Eng Go.Proofs Go.RowKit Go.Proofs.Tryz
theorem FC {b:ByteArray} {l:List UInt8} (h:b.data.toList=l):b=⟨l.toArray⟩:=by
 subst h;cases b;simp
theorem vS {A:Nat->Prop} {w w':World} (h:Below w.heap.size w w'):Frm A w w':=⟨h.os,h.tape,h.output,h.size,λb hb _=>h.block b hb⟩
theorem IS {μ:Nat->Option Nat} {R0:Nat->Prop} {w0 w':World} {v:Value} {x:AV} {H:List (Nat×Blk)} {S':Nat->Prop} (hH:HpOK μ R0 w0 H) (hv:RdP S' w' v x) (hw:Below w0.heap.size w0 w')
  (hS:∀b,S' b->b<w'.heap.size/\(R0 b\/w0.heap.size<=b)) :
  ∃v' r H' μ' S'',Ending.returned v=.returned v'/\r=x/\Rd μ' S'' w' v' r/\HpOK μ' S'' w' H'/\Frm (λg=>∃id,μ id=some g) w0 w' /\
   (∀id g,μ' id=some g->(∃id',μ id'=some g)\/w0.heap.size<=g)/\(∀b,S'' b->b<w'.heap.size/\(R0 b\/(∃id,μ id=some b)\/w0.heap.size<=b)):=
 ⟨v,x,[],λ_=>none,S',rfl,rfl,.pure hv,⟨λid b h=>by simp[aa] at h,λid g h=>Ql,λid id' g h=>Ql,(hH.glob.frm (vS hw) (λid g h=>.inl ⟨id,h⟩)).nil⟩,vS hw,λid g h=>Ql,
  λb hb=>⟨(hS b hb).1,(hS b hb).2.elim .inl (λh=>.inr (.inr h))⟩⟩
theorem zm (s:List UInt8) (c:UInt8) (hs:s.length<4294967281):Fo 169 [.str s,.str [c],.int .i64 0,.int .i64 (-1)] (.sl ((du c s).map a_)):=by
 intro R0 μ w0 vs hl ha hH hR
 match vs,hl with
 | [v0,v1,v2,v3],_=>
 obtain ⟨b,h0,hb⟩:=(ha 0 _ rfl).fG;obtain ⟨b1,h1,hb1⟩:=(ha 1 _ rfl).fG;have h2:=(ha 2 _ rfl).aL;have h3:=(ha 3 _ rfl).aL;simp only[List.getD_cons_zero,List.getD_cons_succ] at h0 h1 h2 h3;subst h0 h1 h2 h3 hb;obtain rfl:=FC hb1;have hsz:b.size<4294967281:=by rw[Lib.size_eq];exact hs
 have hI:∀(x:ByteArray) (arr:Array Value),x.size<=b.size->Calls prog 196 #[.string x,.string ⟨#[c]⟩] (w0.alloc (.cells arr 9)) λe w'=>e=.returned (.int .i64 (Lib.indexB x ⟨#[c]⟩))/\w'=w0.alloc (.cells arr 9):=λx arr _=>
  (Tryz.strings_Index_one x c _).mono λe w' ⟨h1,h2⟩=>⟨by rw[h1,<-Lib.index_one],h2⟩
 have hC:Calls prog 195 #[.string b,.string ⟨#[c]⟩] w0 λe w'=>e=.returned (.int .i64 (Lib.countB b ⟨#[c]⟩))/\w'=w0:=
  (Tryz.strings_Count_one b c _).mono λe w' ⟨h1,h2⟩=>⟨by rw[h1];show _=Ending.returned (Value.int .i64 ((Lib.count b.data.toList [c]:Nat):Int));rw[Lib.count_one];rfl,h2⟩
 have hle:Lib.countB b ⟨#[c]⟩<=b.size:=Lib.countB_le ⟨#[c]⟩ (W7 1) b.size b (W7 _);have key:Calls prog 169 #[.string b,.string ⟨#[c]⟩,.int .i64 0,.int .i64 (-1)] w0 λe w'=>
   e=.returned (.slice (some ⟨w0.heap.size,0,none⟩) (Lib.splitB ⟨#[c]⟩ 0 (Lib.countB b ⟨#[c]⟩+1-1) b).length (Lib.countB b ⟨#[c]⟩+1))/\w'=w0.alloc (.cells (Lib.cellsOf (Lib.splitB ⟨#[c]⟩ 0 (Lib.countB b ⟨#[c]⟩+1-1) b) (Lib.countB b ⟨#[c]⟩+1)) 9):=
  Any.strings_genSplit_core Tryz.I9 w9 b ⟨#[c]⟩ 0 (-1) (Lib.countB b ⟨#[c]⟩+1) w0 hsz (W7 1) (Yp _) hI hC j8 j8 (by rw[if_pos j8];omega)
 rw[Nat.add_sub_cancel] at key;have hlen:=Lib.splitB_all ⟨#[c]⟩ (W7 1) 0 _ b rfl;have e2:Lib.cellsOf (Lib.splitB ⟨#[c]⟩ 0 (Lib.countB b ⟨#[c]⟩) b) (Lib.countB b ⟨#[c]⟩+1)=((Lib.splitB ⟨#[c]⟩ 0 (Lib.countB b ⟨#[c]⟩) b).map Value.string).toArray:=by rw[<-hlen];exact Lib.cellsOf_full _
 rw[e2] at key;have hcut:=Cp c b;generalize Lib.splitB ⟨#[c]⟩ 0 (Lib.countB b ⟨#[c]⟩) b=L at key hlen hcut;refine Calls.mono key λe w' ⟨he,hw⟩=>?_
 rw[he,hw];refine IS hH (S':=λg=>g=w0.heap.size) ?_ (Below.alloc (Below.refl _ _) (W7 _) _) (λg hg=>?_)
 ·refine .sl _ _ _ _ 1 w0.heap.size 0 (λi j=>.string (L.getD i ⟨#[]⟩)) ?_ z8 ?_ (λ_=>⟨rfl,rfl⟩) ?_ ?_
  ·rw[List.length_map,<-hcut,List.length_map]
  ·intro row hrow;obtain ⟨x,_,rfl⟩:=W5.1 hrow;rfl
  ·intro i j hi hj;obtain rfl:j=0:=by omega
   have hi':i<L.length:=by omega
   rw[World.cell?_alloc_new];simp[Xq,Wz hi']
  ·intro i row hi j x hx;rw[W2] at hi;obtain ⟨y,hy,rfl⟩:=YV.1 hi;rw[<-hcut,W2] at hy;obtain ⟨z,hz,rfl⟩:=YV.1 hy
   match j,hx with
   | 0,hx=>
    simp only[a_,List.getElem?_cons_zero,gL] at hx;subst hx;rw[Xq,hz];exact .str _ _ rfl
   | j+1,hx=>simp[a_] at hx
 ·subst hg;exact ⟨by show _<(w0.heap.push _).size;rw[Array.size_push];omega,.inr (W7 _)⟩
theorem A1 (s:List UInt8) (c:UInt8) (hs:s.length<4294967281):Fo 138 [.str s,.str [c]] (.sl ((du c s).map a_)):=by
 refine wS func138 ntmps138 results138 λC=>?_
 refine wR ?_;refine wN 1 ?_;refine wR ?_;refine wN 2 ?_;refine wC ?_ func169 (hf:=zm s c hs);refine wGT ?_;rfl
end La
namespace La
open Go Go.Eng Go.Proofs Go.Proofs.Tryz
theorem E0 (s:List UInt8) (hs:s.length<=100000000):aj prog 102 [.str s] [] (λr _=>Eng.nrm r=cG (ae s)):=by
 refine wS func102 ntmps102 results102 λC=>?_
 refine wR ?_;refine wN 2 ?_;refine wGD (λh=>?_) (λh=>?_)
 ·have h1:=lt1 h;refine wGT ?_;simp[ae,h1,cG,Eng.nrm,Eng.fq]
 have h1:¬40<s.length:=by simp at h;omega
 refine wGD (λh=>?_) (λh=>?_)
 ·have h2:s=[47]:=by simpa using h
  refine wGT ?_;simp[ae,h1,h2,cG,Eng.nrm,Eng.fq]
 have h2:s≠[47]:=by simpa using h
 refine wR ?_;refine wN 3 ?_;cases s with
 | nil=>
  refine wGD (λh=>?_) (λh=>?_)
  ·refine wGT ?_;simp[ae,cG,Eng.nrm,Eng.fq]
  ·cases h
 | cons x r=>
  refine wGD (λh=>?_) (λh=>?_)
  ·have h3:¬x=47:=λe=>by subst e;simp at h
   have h1':¬40<r.length+1:=h1;refine wGT ?_;simp[ae,h1',h3,cG,Eng.nrm,Eng.fq]
  have h3:x=47:=by
   have:((x.toNat:Nat):Int)=47:=by simpa using h
   exact UInt8.toNat_inj.1 (show x.toNat=47 by omega)
  subst h3;have hsl:((47:UInt8)::r).drop 1=r:=rfl;refine wR ?_;refine wN 2 ?_;refine wCg ?_ func138 (hf:=A1 r 47 (by simp at hs;omega));have hR:ae (47::r)=if (du 47 r).all cH then (du 47 r,0) else ([],7):=by
   simp only[ae,if_neg h1,if_neg h2,List.head?_cons,ne_eq,not_true_eq_false,if_false,List.drop_succ_cons,List.drop_zero]
  have hcl:=ss 47 r;have hcp:=nw 47 r;rw[hR];generalize du 47 r=L at hcl hcp;simp only[List.length_cons] at hs;refine ZL (λi:Nat=>i<=L.length/\(L.take i).all cH=true) (λi=>L.length-i) (λi=>(6,.any)::(27,.int .i64 i)::u0 28 7 []) (λ_=>[]) 0 ⟨by omega,by simp⟩ ?_ λi hi=>?_
  ·exact wZ
  obtain ⟨hi,hs2⟩:=hi;simp only[go_sem];refine wGD (λh=>?_) (λh=>?_)
  ·have hlt:=lt1 h;have hw:=wi1 (i:=i) z8;have hg:=Fam.getD (f:=a_) hlt;have htk:=ZT hlt;have hmem:L.getD i default∈L:=by rw[Xq,Wz hlt];exact YW hlt
   have hxl:=hcp _ hmem;have hno:cH (L.getD i default)=false->L.all cH=false:=λh0=>by
    cases e:L.all cH with
    | false=>rfl
    | true=>rw[List.all_eq_true.1 e _ hmem] at h0;cases h0
   generalize L.getD i default=x at hg htk hxl hno hmem;refine wGq ?_ ?_ Zj
   ·simp[hg,a_,hlt]
   refine wC ?_ func139 (hf:=C_ x z8);refine wGD (λh=>?_) (λh=>?_)
   ·have h0:cH x=false:=by simpa using h
    refine wGT ?_;simp[hno h0,cG,Eng.nrm,Eng.fq]
   ·have h0:cH x=true:=by simpa using h
    refine wG ?_ w4 y7;refine ZB ⟨i+1,⟨by omega,by rw[htk,List.all_append,hs2];simp[h0]⟩,by omega,ZU ?_ ?_ ?_⟩
    ·simp[go_sem]
    ·simp[go_sem]
    ·simp[go_sem]
  ·obtain rfl:=eq1 hi h;rw[W4] at hs2;refine wGT ?_;simp[hs2,cG,Eng.nrm,Eng.fq,Ar]
theorem nq (s:List UInt8) (hs:s.length<=100000000):Fo 102 [.str s] (cG (ae s)):=xJ (E0 s hs)
variable {Fa:Prop}
theorem vV (u:U) (f w:Int) (h:(bd u f w).e≠0):(bd u f w).n=ax:=by
 unfold bd at h ⊢;split
 ·rename_i n hn;rw[hn] at h;exact absurd rfl h
 ·rename_i hn;rw[hn] at h;simp only at h;split
  ·rfl
  ·rename_i ha;rw[if_neg ha] at h;split
   ·rfl
   ·rename_i n hf;rw[hf] at h;exact absurd rfl h
theorem xr {B T:Nat} (u:U) (h:UInvF Fa B T u) (hB:B<=40000000) (hT:T<=900000000000) (l:List (List UInt8)) (hl:l.length<=1000) (hls:∀x,x∈l->x.length<=1000) (worth:Int) (G Y N:Nat->Nat):aj prog 103 [.ptr 900 13 0 0,.sl (l.map a_),.int .i64 worth] (cuH u G Y N)
  (λr H=>r=iG (goU u l worth)/\Holds (cuH (goU u l worth).u G Y N) H):=by
 have hg0:=mG u h hB z8 0 worth;have hi0:=cg h 0 worth;have hn0:=jn h 0 worth;have hz0:=vV u 0 worth;have hgo:goU u l worth=goR worth l (bd u 0 worth):=rfl;unfold cuH iG at hg0;unfold cuH iG;generalize bd u 0 worth=g0 at *;generalize goU u l worth=gF at *;refine wSG func103 ntmps103 results103 λC=>?_
 refine af (av 6) (wn ?_);refine wP ?_ [900] func106 (hf:=hg0);refine wGq ?_ ?_ w5
 ·simp[ZN]
 refine ZL (λq:Nat×Got=>q.1<=l.length/\gF=goR worth (l.drop q.1) q.2/\UInvF Fa B (T+1+q.1) q.2.u/\NodeOK q.2.n/\(q.2.e≠0->q.2.n=ax)) (λq=>l.length-q.1)
  (λq=>(9,.int .i64 q.2.e)::u0 10 4 ((22,.int .i64 q.1)::u0 23 30 []))
  (λq=>[(900,.cells 146 13 [bx q.2.u]),(8,.cells 94 5 [ZN q.2.n])]) (0,g0) ⟨Yp _,by rw[List.drop_zero];exact hgo,hi0,hn0,hz0⟩ ?_ λq hq=>?_
 ·simp only[go_sem];exact ZU w3 QU QU
 obtain ⟨i,g⟩:=q;obtain ⟨hi,hgf,hui,hno,hz⟩:=hq;simp only at hi hgf hui hno hz;simp only[go_sem];refine wGD (λh=>?_) (λh=>?_)
 ·have hlt:=lt1 h;have hg:=Fam.getD (f:=a_) hlt;have hsl:=hls _ (YG hlt);rw[cr hlt] at hgf;generalize l.getD i default=s at *;have hw1:=wi1 (i:=i) z8;refine wGq ?_ ?_ Zj
  ·simp[hg,a_,hlt]
  by_cases he:g.e=0
  ·have hent:=kH g.n s hno.small;refine wDF ?_ (hb:=QE);refine wG ?_ w5 QU;cases hd:g.n.dir with
   | false=>
    refine wTG ?_ (hb:=rfl);refine af (av 6) (wn ?_);refine wU ?_ ?_
    ·simp[hgf,goR,he,hd,ZN,ax]
    ·have e:gF.u=g.u:=by simp[hgf,goR,he,hd]
     rw[e];exact q9
   | true=>
    refine wFG ?_ (hb:=rfl);unfold ZN at hent;rw[hd] at hent;cases hen:ba g.n s with
    | none=>
     rw[hen] at hent;simp only[eV] at hent;refine wCg ?_ func104 (hf:=hent);refine wTG ?_ (hb:=rfl);refine af (av 6) (wn ?_);refine wU ?_ ?_
     ·simp[hgf,goR,he,hd,hen,ZN,ax]
     ·have e:gF.u=g.u:=by simp[hgf,goR,he,hd,hen]
      rw[e];exact q9
    | some f=>
     rw[hen] at hent;simp only[eV] at hent;have hg1:=mG g.u hui hB z8 f worth;unfold cuH iG at hg1;have hui2:=cg hui f worth;have hno2:=jn hui f worth;have hz2:=vV g.u f worth;have hgf2:gF=goR worth (l.drop (i+1)) (bd g.u f worth):=by rw[hgf,goR,if_neg QE,if_neg (by simp[hd]),hen]
     generalize bd g.u f worth=g2 at *;refine wCg ?_ func104 (hf:=hent);refine wFG ?_ (hb:=rfl);refine wP ?_ [900] func106 (hf:=hg1);refine wGq ?_ ?_ (by simp only[go_sem,ZN,hw1];try exact rfl)
     ·simp[ZN]
     refine ZB ⟨(i+1,g2),⟨by simp only;omega,hgf2,hui2.mono (W7 _) (by simp only;omega),hno2,hz2⟩,by simp only;omega,ZU ?_ ?_ ?_⟩
     ·simp[go_sem]
     ·simp[go_sem,ZN]
     ·simp[go_sem]
  ·refine wTG ?_ (hb:=QE);refine af (av 6) (wn ?_);refine wU ?_ ?_
   ·simp[hgf,goR,he,ZN,ax]
   ·have e:gF.u=g.u:=by simp[hgf,goR,he]
    rw[e];exact q9
 ·have e:i=l.length:=by simp at h;omega
  subst e;rw[List.drop_length] at hgf;have hgu:gF.u=g.u:=by rw[hgf];unfold goR;split<;>rfl
  have hge:gF.e=g.e:=by rw[hgf];unfold goR;split<;>rfl
  have hgn:gF.n=g.n:=by
   rw[hgf];unfold goR;split
   ·rfl
   ·rename_i h0;exact (hz h0).symm
  refine wGq ?_ ?_ w5
  ·simp[ZN]
  refine wU ?_ ?_
  ·rw[hge,hgn];rfl
  ·rw[hgu];exact q9
theorem kW {B T:Nat} (u:U) (h:UInvF Fa B T u) (hB:B<=40000000) (hT:T<=900000000000) (path:List UInt8) (hp:path.length<=10000000) (G Y N:Nat->Nat):aj prog 73 [.ptr 900 13 0 0,.str path] (cuH u G Y N)
  (λr H=>r=.tup [.agg (ZN (ah u path).n),.str (ah u path).name,.int .i64 (ah u path).e]/\Holds (cuH (ah u path).u G Y N) H):=by
 have hsp:=nq path z8;have hsl:=cm path;have hdu:ah u path=if (ae path).2≠0 then ⟨ax,[],(ae path).2,u⟩
  else if (ae path).1.length=0 then ⟨ax,[],7,u⟩
  else ⟨(goU u ((ae path).1.take ((ae path).1.length-1)) 0).n,(ae path).1.getD ((ae path).1.length-1) [],
   if (goU u ((ae path).1.take ((ae path).1.length-1)) 0).e=0/\(goU u ((ae path).1.take ((ae path).1.length-1)) 0).n.dir=false then 8 else (goU u ((ae path).1.take ((ae path).1.length-1)) 0).e,
   (goU u ((ae path).1.take ((ae path).1.length-1)) 0).u⟩:=rfl
 generalize ah u path=dF at *;unfold cG at hsp;generalize ae path=S at *;obtain ⟨L,E⟩:=S;obtain ⟨hll,hlx⟩:=hsl;simp only at hdu hll hlx hsp;unfold cuH;refine wSG func73 ntmps73 results73 λC=>?_
 refine af (av 4) (wn ?_);refine wCg ?_ func102 (hf:=hsp)
 by_cases hE:E=0
 ·refine wFG ?_ (hb:=x6);rw[if_neg x6] at hdu
  by_cases hL:L.length=0
  ·rw[if_pos hL] at hdu;refine wTG ?_ (hb:=by simp[hL]);refine af (av 4) (wn ?_);refine wU ?_ ?_
   ·rw[hdu];simp[ZN,ax]
   ·rw[hdu];exact q9
  ·rw[if_neg hL] at hdu;have hw:IntKind.i64.wrap ((L.length:Int)-1)=((L.length-1:Nat):Int):=by rw[Eng.wrap_small z8 z8];omega
   have hgo:=xr u h hB hT (L.take (L.length-1)) QI (λx hx=>by have:=(hlx x (YF hx)).1;omega) 0;have hgl:(L.map a_).getD (L.length-1) []=[.str (L.getD (L.length-1) [])]:=by
    have hi:L.length-1<L.length:=by omega
    rw[Xq,W2,Xq,Wz hi];rfl
   have hLlt:L.length-1<L.length:=by omega
   have htk:(L.map a_).take (L.length-1)=(L.take (L.length-1)).map a_:=List.map_take.symm;unfold cuH iG at hgo;generalize goU u (L.take (L.length-1)) 0=g at *;refine wDF ?_ (hb:=by simp[hL]);refine wR ?_;refine wNq 6 ?_ ?_ z6 z6 (by simp only[go_sem,hw,htk];try exact rfl)
   ·simp[hw,htk];exact λ_ _=>rfl
   refine wP ?_ [900] func103 (hf:=hgo);refine wGq ?_ ?_ w5
   ·simp[ZN]
   by_cases hge:g.e=0
   ·cases hd:g.n.dir with
    | true=>
     have hdF:dF=⟨g.n,L.getD (L.length-1) [],g.e,g.u⟩:=by rw[hdu];simp[hd]
     rw[hdF];refine wDF ?_ (hb:=Wx);refine wGS ?_;refine sN 7 ?_ z6 z6 n9 Qi;refine sN 1 ?_;refine sT ?_;refine sG ?_;refine wXG ?_;refine wU ?_ ?_
     ·first | (simp[ZN];done) | simp[ZN,hd]
     ·exact q9
    | false=>
     have hdF:dF=⟨g.n,L.getD (L.length-1) [],8,g.u⟩:=by rw[hdu];simp[hd,hge]
     rw[hdF];refine wTG ?_ (hb:=Wx);refine wGS ?_;refine sN 7 ?_ z6 z6 n9 Qi;refine sN 1 ?_;refine sT ?_;refine sG ?_;refine wXG ?_;refine wU ?_ ?_
     ·first | (simp[ZN];done) | simp[ZN,hd]
     ·exact q9
   ·have hdF:dF=⟨g.n,L.getD (L.length-1) [],g.e,g.u⟩:=by rw[hdu];simp[hge]
    rw[hdF];refine wDF ?_ (hb:=x9);refine wGS ?_;refine sN 7 ?_ z6 z6 n9 Qi;refine sN 1 ?_;refine sT ?_;refine sG ?_;refine wXG ?_;refine wU ?_ ?_
    ·first | (simp[ZN];done) | simp[ZN,hd]
    ·exact q9
 ·rw[if_pos x6] at hdu;refine wTG ?_ (hb:=x6);refine af (av 4) (wn ?_);refine wU ?_ ?_
  ·rw[hdu];simp[ZN,ax]
  ·rw[hdu];exact q9
variable {Fa:Prop}
theorem SrvOK.Av {k:Nat} {s:Srv} (h:SrvOK k s) (hk:k<=80000000):SmallP s.past:=⟨by have:=h.len;omega,λp hp=>by
 obtain ⟨st,_,_,h3⟩:=h.hist.st;obtain ⟨i,hi⟩:=W9 hp;have hil:=(W6.1 hi).1;have:=(h3 i hil).2.1.data
 rwa [show s.past.getD i default=p by rw[Xq,hi];rfl] at this⟩
theorem Fl {B T:Nat} (u:U) (h:UInvF Fa B T u) (hB:B<=40000000) (haw:u.c.away=false) (a:Act) (ha:ActS a) (seen:Int) (G Y N:Nat->Nat):aj prog 74 [.ptr 900 13 0 0,.agg (ZA a),.int .i64 seen] (cuH u G Y N)
  (λr H=>r=.int .i64 (fU u a).e/\Holds (cuH (fU u a).u G Y N) H):=by
 have hpl:=h.srv.Av z8;have hdo:=Lt u.s u.c.number a h.srv.hist.bR hpl ha.fit (by have:=h.srv.next;omega);have hW0:fU u a=if doE u.s a=0 then ⟨0,⟨mH u.c (doS u.s u.c.number a).tree,doS u.s u.c.number a⟩⟩ else ⟨doE u.s a,u⟩:=rfl;have hst:=λhe=>h.srv.step u.c.number ha.fit (a:=a) he
 have hsk:=h.yt;unfold doR at hdo;generalize fU u a=wF at *;generalize doS u.s u.c.number a=s2 at *;unfold ZA at hdo;unfold ZQ at hdo;unfold cuH bx ZA;refine wSG func74 ntmps74 results74 λC=>?_
 refine wTG ?_ (hb:=Q7)
 by_cases he:doE u.s a=0
 ·rw[if_pos he] at hdo hW0;have hs2:=hst he;have hfr:=tP u.c.cache s2.tree hsk hs2.hist.bR.small;refine wO ?_;refine sN 10 ?_;refine sC ?_ func107 (hf:=hdo);refine sN 3 ?_;refine sW ?_;refine sT ?_;refine sG ?_;refine wXG ?_;refine wDF ?_ (hb:=rfl);refine wGS ?_;refine sN 8 ?_;refine sC ?_ func43 (hf:=hfr);refine sG ?_;refine sE ?_;refine dS ?_;refine wKG ?_;refine wU ?_ ?_
  ·rw[hW0]
  ·rw[hW0];exact q9
 ·rw[if_neg he] at hdo hW0;refine wO ?_;refine sN 10 ?_;refine sC ?_ func107 (hf:=hdo);refine sN 3 ?_;refine sW ?_;refine sT ?_;refine sG ?_;refine wXG ?_;refine wTG ?_ (hb:=QE);refine wU ?_ ?_
  ·rw[hW0]
  ·rw[hW0];exact q9
theorem vG (u:U) (b:Act) (f:Int) (G Y N:Nat->Nat):aj prog 111 [.ptr 900 13 0 0,.rp (ZA b) 0,.int .i64 f] (cuH u G Y N) (λr H=>r=.bool (b.kind==3&&b.fid==f)/\Holds (cuH u G Y N) H):=by
 unfold ZA cuH;refine wS func111 ntmps111 results111 λC=>?_
 refine wR ?_;refine wN 1 ?_;refine wR ?_;refine wN 6 ?_;refine wNm 12 λc12 h12=>?_
 cases c12 with
 | true=>
  refine wG ?_;refine wU ?_ ?_
  ·rw[h12];simp
  ·exact q9
 | false=>
  refine wG ?_;refine wU ?_ ?_
  ·rw[h12];simp
  ·exact q9
theorem CN (L:List Node) (hL:Small L) (k:Kept):Fo 113 [.agg (ZK k),.rp [.sl (L.map ZN)] 0] (.bool (!bf L k.node.fid)):=by
 unfold ZK;refine wSG func113 ntmps113 results113 λC=>?_
 have hf:=dM L k.node.fid hL;unfold fT at hf;refine wC ?_ func82 (hf:=hf);refine wGq ?_ ?_ w5
 ·simp[ZN]
 refine wT ?_;rfl
theorem sd (l:List Kept) (hlen:l.length<=100000000) {f:FuncId} {caps:List AV} {p:Kept->Bool} (hcal:aJ prog f) (hpure:(caps.all AV.aW)=true)
  (hf:∀x,x∈l->aj prog f (.agg (ZK x)::caps) [] (λr _=>r=.bool (p x))) (hno:∀x,x∈l->p x=false) :
  Fo 80 [.sl (l.map ZK),.fn f caps] (.sl (l.map ZK)):=by
 have hcaps:=ck hpure;obtain ⟨q,hv,hq⟩:=fP hpure;have hix:=jE l hlen hcal hpure hf;have hn:l.findIdx? p=none:=YL.2 λx hx=>by simp[hno x hx]
 rw[hn] at hix;refine wSG func80 ntmps80 results80 λC=>?_
 refine dL rfl rfl z7 w3 ⟨_,func119,by kernel_rfl,rfl⟩ k9 (hix) w3 z6 ?_;refine wGD (λh=>?_) (λh=>?_)
 ·refine wGT ?_;rfl
 ·simp[cv] at h
theorem pv {l L:List Kept} {room:Int} {k:Kept} (h:c_ l room k=some L) (hl:∀x,x∈l->x.node.Small) (hk:k.node.Small):∀x,x∈L->x.node.Small:=by
 unfold c_ at h;cases e:ch l k.node.fid with
 | some i=>
  rw[e] at h;injection h with h
  subst h;intro x hx
  rcases Yg hx with hx | rfl
  ·exact hl x hx
  ·exact hk
 | none=>
  rw[e] at h;obtain ⟨L0,h0,rfl⟩:=YV.1 h;intro x hx
  rcases List.mem_append.1 hx with hx | hx
  ·exact hl x ((gz _ _ _ h0).subset hx)
  ·rw[List.mem_singleton.1 hx];exact hk
theorem t_ {l L:List Kept} {room:Int} {k:Kept} (h:c_ l room k=some L):L.length<=l.length+1:=by
 unfold c_ at h;cases e:ch l k.node.fid with
 | some i=>rw[e] at h;injection h with h;subst h;rw[YN];omega
 | none=>
  rw[e] at h;obtain ⟨L0,h0,rfl⟩:=YV.1 h;have:=(gz _ _ _ h0).length_le;rw[List.length_append,List.length_cons,List.length_nil];omega
theorem GD (k f n:Int):(k != 3||n != f)=!(k==3&&f==n):=by
 have h:(f==n)=(n==f):=by rw[Yu,beq_iff_eq,beq_iff_eq];exact eq_comm
 rw[h,Bool.not_and];rfl
theorem te (W:List Node) (b:Act) (n:Node):aT W b n=!((ak W n.fid).isSome&&dm false ((ak W n.fid).getD ax) n&&!(b.kind==3&&b.fid==n.fid)):=by
 unfold aT;rw[GD];cases ak W n.fid<;>rfl
theorem Im {B T:Nat} (u:U) (h:UInvF Fa B T u) (hB:B<=40000000) (haw:u.c.away=true) (a:Act) (ha:ActS a) (seen:Int) (G Y N:Nat->Nat):aj prog 74 [.ptr 900 13 0 0,.agg (ZA a),.int .i64 seen] (cuH u G Y N)
  (λr H=>r=.int .i64 (jL u a seen).e/\Holds (cuH (jL u a seen).u G Y N) H):=by
 have hci:=h.cli;have hmd:=hci.made;have hlg:=hci.logged;have hcl:u.c.cache.length<=24:=by have:=hci.len;have:=hci.room;omega
 have hsk:=h.yt;have hgood:=hci.bR;have hri:=hci.ri;have hat:∀k,k∈u.c.cache->bf (cP u.c) k.node.fid=true:=λk hk=>by rw[cS,(ZO (jV u.c)).2 ⟨(fu hci.nod k.node).2 ⟨k,hk,rfl⟩,rfl⟩];rfl
 have hct:Fo 108 [.sl (u.c.cache.map ZK)] (.sl ((cP u.c).map ZN)):=yS u.c.cache hsk (oP hci.nod);have hbs:=B2 (c:=u.c) ha;have hap:=lj hgood (eO u.c a) 0 hbs.fit;have hW0:jL u a seen=if aF (cP u.c) (eO u.c a)≠0 then ⟨aF (cP u.c) (eO u.c a),u⟩ else match dt u.c.log ⟨eO u.c a,vp a seen,u.c.logged+1⟩ with
  | none=>⟨5,u⟩
  | some log=>match cy u.c.room u.c.clock (cP u.c) (eO u.c a) (aK (cP u.c) (eO u.c a) 0) u.c.cache with
   | none=>⟨5,u⟩
   | some l=>⟨0,⟨{ u.c with cache:=l.filter (λk=>bf (aK (cP u.c) (eO u.c a) 0) k.node.fid),log:=log,logged:=u.c.logged+1,made:=if aR a=true then u.c.made+1 else u.c.made },u.s⟩⟩:=rfl
 have hwm1:IntKind.i64.wrap (u.c.made+1)=u.c.made+1:=Eng.wrap_small z8 z8;have hwm:IntKind.i64.wrap (0-(u.c.made+1))=-1-u.c.made:=by rw[Eng.wrap_small z8 z8];omega
 have hwl1:IntKind.i64.wrap (u.c.logged+1)=u.c.logged+1:=Eng.wrap_small z8 z8;have hmb:(a.kind==1||a.kind==2)=aR a:=by unfold aR;rfl
 generalize jL u a seen=wF at *;generalize hWd:cP u.c=W at *;unfold cuH bx ZA;refine wSG func74 ntmps74 results74 λC=>?_
 refine wFG ?_ (hb:=Q7);refine o_ (λq:Int×Int=>q.1=(eO u.c a).fid/\q.2=vp a seen) (λq=>(2,.int .i64 q.2)::u0 67 8 [])
  (λq=>[(4,.cells 49 7 [[.int .i64 a.kind,.int .i64 q.1,.int .i64 a.dir,.str a.name,.int .i64 a.to,.str a.toName,.sl (a.data.map ZY)]])]) ?_ λq hq=>?_
 ·refine wD (λh=>?_) (λh=>?_)
  ·have hm:aR a=true:=by unfold aR;revert h;cases (a.kind==1)<;>simp
   refine wG ?_ (by simp only[go_sem,hwm1,hwm];try exact rfl) (by simp[go_sem,hwm1,hwm]);refine ZB ⟨(-1-u.c.made,-1),⟨by unfold eO;rw[if_pos hm],by unfold vp;rw[if_pos hm]⟩,ZU ?_ ?_ ?_⟩
   ·simp[go_sem]
   ·simp[go_sem]
   ·simp[go_sem]
  ·have hm:aR a=false:=by unfold aR;revert h;cases (a.kind==1)<;>simp
   refine wG ?_;refine ZB ⟨(a.fid,seen),⟨by unfold eO;rw[hm];rfl,by unfold vp;rw[hm];rfl⟩,ZU ?_ ?_ ?_⟩
   ·simp[go_sem]
   ·simp[go_sem]
   ·simp[go_sem]
 obtain ⟨F,V⟩:=q;obtain ⟨hF,hV⟩:=hq;simp only at hF hV;have hbE:(⟨a.kind,F,a.dir,a.name,a.to,a.toName,a.data⟩:Act)=eO u.c a:=by rw[hF];unfold eO;split<;>rfl
 rw[<-hV] at hW0;generalize eO u.c a=b at *;clear hF hV;simp only[go_sem];have hrow:ZA b=[.int .i64 a.kind,.int .i64 F,.int .i64 a.dir,.str a.name,.int .i64 a.to,.str a.toName,.sl (a.data.map ZY)]:=by rw[<-hbE];rfl
 have hrec:∀v i,ZR ⟨b,v,i⟩=[.int .i64 a.kind,.int .i64 F,.int .i64 a.dir,.str a.name,.int .i64 a.to,.str a.toName,.sl (a.data.map ZY),.int .i64 v,.int .i64 i]:=by intro v i;rw[<-hbE];rfl
 clear hbE;have hgl:=λhe=>fJ hgood b 0 he
 have hss:=λhe=>@Ci W hgood hri b he
 rw[hrow] at hap;unfold ob at hap;generalize aF W b=e0 at *;generalize aK W b 0=L at *;refine ZZ 4 rfl (rfl) (wn ?_);refine wG ?_;refine wCg ?_ func108 (hf:=hct)
 by_cases hE:e0=0
 ·rw[if_pos hE] at hap;rw[if_neg x6] at hW0;have hgL:=hgl hE;have hss:=hss hE;have hLl:=hgL.len;have hadd:=Ll u.c.log ⟨b,V,u.c.logged+1⟩ ⟨by have:=hci.log;omega,λr hr=>by have:=(hci.logS r hr).data;show r.act.data.length<=_;omega⟩ Q4;rw[hrec] at hadd;refine wCg ?_ func109 (hf:=hap);refine wDF ?_ (hb:=rfl);refine ZZ 11 rfl (rfl) (wn ?_);refine wGS ?_;refine sN 13 ?_ z6 z6 QA Qu;refine sB ?_;cases hlog:dt u.c.log ⟨b,V,u.c.logged+1⟩ with
  | none=>
   rw[hlog] at hadd hW0;simp only[gg] at hadd hW0;have hW:=hW0;refine sC ?_ func110 (hf:=hadd);refine sG ?_;refine wXG ?_;refine wTG ?_ (hb:=rfl);refine wU ?_ ?_
   ·rw[hW]
   ·rw[hW];exact q9
  | some log=>
   rw[hlog] at hadd hW0;simp only[gg] at hadd hW0;generalize hKA:cy u.c.room u.c.clock W b L u.c.cache=KA at hW0;refine sC ?_ func110 (hf:=hadd);refine sG ?_;refine wXG ?_;refine wFG ?_ (hb:=rfl);refine ZL (λq:Nat×List Kept×Bool=>q.1<=L.length/\cy u.c.room u.c.clock W b (L.drop q.1) q.2.1=KA/\q.2.1.length<=24+q.1/\(∀x,x∈q.2.1->x.node.Small)/\(q.2.2=false->q.2.1=u.c.cache/\∀n,n∈L.take q.1->aT W b n=false)) (λq=>L.length-q.1)
    (λq=>(12,.any)::(14,match q.2.2 with | true=>.osl 5000 8 0 q.2.1.length | false=>.sl (q.2.1.map ZK))::(16,.any)::(17,.any)::(18,.any)::(118,.int .i64 q.1)::u0 119 49 [])
    (λq=>match q.2.2 with | true=>[(5000,.cells 138 8 (q.2.1.map ZK))] | false=>[]) (0,u.c.cache,false) ⟨Yp _,by rw[List.drop_zero];exact hKA,by simp only;omega,hsk.each,λ_=>⟨rfl,λn hn=>by cases hn⟩⟩ ?_ λq hq=>?_
   ·exact wZ
   obtain ⟨i,l,fl⟩:=q;obtain ⟨hi,hka,hll,hsl0,hfl⟩:=hq;simp only at hi hka hll hsl0 hfl;have hsl:SmallK l:=⟨by omega,hsl0⟩;clear hKA;cases fl with
   | false=>
    obtain ⟨hlc,hno⟩:=hfl rfl;simp only[go_sem];refine wGD (λh=>?_) (λh=>?_)
    ·skip
     have hlt:=lt1 h;have hg:=Fam.getD (f:=ZN) hlt;have hw1:=wi1 (i:=i) z8;have hnm:=YG hlt;have htk:=ZT hlt;rw[cr hlt,cy] at hka;have hJ:aT W b (L.getD i default)=false->l=u.c.cache/\∀n,n∈L.take (i+1)->aT W b n=false:=λh1=>⟨hlc,λn hn=>by rw[htk] at hn;rcases List.mem_append.1 hn with hn | hn;exact hno n hn;rw[List.mem_singleton.1 hn];exact h1⟩
     generalize L.getD i default=n at *;have hns:=hgL.small.each n hnm;have hkns:(gi W u.c.clock n).node.Small:=⟨hns.data,hns.entries⟩;have hfd0:=dM W n.fid hgood.small;unfold fT at hfd0;rw[cS] at hfd0;have hos:((ak W n.fid).getD ax).Small:=hgood.small.find n.fid;have hcb:=te W b n;have hdk:gi W u.c.clock n=⟨{ n with version:=((ak W n.fid).getD ax).version },true,0,u.c.clock⟩:=rfl;rw[hdk] at hka hkns;clear hdk;generalize (ak W n.fid).getD ax=o at *;generalize (ak W n.fid).isSome=ok at *;have hfd:Fo 82 [.sl (W.map ZN),.int .i64 n.fid] (.tup [.agg [.int .i64 o.fid,.bool o.dir,.sl (o.data.map ZY),.sl (o.entries.map ZE),.int .i64 o.version],.bool ok]):=hfd0;clear hfd0;have hsm:=kn [o] [n] (dE hos) (dE hns);rw[show gT false [o] [n]=dm false o n by simp[gT]] at hsm;have hcn:=vG u b n.fid;rw[hrow] at hcn;unfold cuH bx at hcn;simp only[List.map_cons,List.map_nil] at hsm;unfold ZN at hsm;generalize dm false o n=sm at *;generalize (b.kind==3&&b.fid==n.fid)=nb at *;refine wR ?_;refine wNq 4 ?_ ?_ z6 z6 u9
     ·simp[hg,ZN,hlt]
     refine wR ?_;refine wN 3 ?_;refine wC ?_ func82 (hf:=hfd);refine wN 6 ?_;refine jz ?_;refine qh ?_;refine qh ?_;refine o_ (λj:Bool=>j=!aT W b n) (λj=>(143,.bool j)::u0 129 14 []) (λ_=>[]) ?_ λj hj=>?_
     ·rw[hcb,Bool.not_not];clear hcb;cases ok with
      | false=>
       refine wG ?_;refine fF (.bool false) rfl ?_;simp only[go_sem];refine wG ?_;refine fF (.bool false) rfl ?_;simp only[go_sem];refine wG ?_;exact ZB ⟨false,rfl,ZU w3 w3 w3⟩
      | true=>
       refine wG ?_;refine ZZ 132 rfl (rfl) ?_;refine ZZ 134 rfl (rfl) (wn ?_);refine wCC ?_ func84 (hf:=λhb=>(hsm));refine wN 2 ?_;cases sm with
       | false=>
        refine wG ?_;refine fF (.bool false) rfl ?_;simp only[go_sem];refine wG ?_;exact ZB ⟨false,by simp,ZU w3 w3 w3⟩
       | true=>
        refine wG ?_;refine wP ?_ [900] func111 (hf:=hcn);refine wG ?_;exact ZB ⟨!nb,by simp,ZU w3 w3 w3⟩
     clear hsm hcn hfd;simp only[go_sem];cases hch:aT W b n with
     | false=>
      rw[hch] at hj hka;simp only[Bool.not_false] at hj;subst hj;rw[if_neg Bool.false_ne_true] at hka;refine wDT ?_ (hb:=rfl);refine wG ?_ k8 p8;refine ZB ⟨(i+1,l,false),⟨by simp only;omega,hka,by simp only;omega,hsl0,λh0=>hJ hch⟩,by simp only;omega,ZU ?_ ?_ ?_⟩
      ·simp[go_sem]
      ·simp[go_sem]
      ·simp[go_sem]
     | true=>
      rw[hch] at hj hka;simp only[Bool.not_true] at hj;subst hj;rw[if_pos rfl] at hka;refine wFG ?_ (hb:=rfl)
      skip
      refine wO ?_;refine sN 12 ?_;refine sB ?_;cases hkk:c_ l u.c.room ⟨{ n with version:=o.version },true,0,u.c.clock⟩ with
      | none=>
       have hkn:=xQ hsl hkns hkk;rw[hkk] at hka;simp only at hka;rw[<-hka] at hW0;have hW:=hW0;refine sC ?_ func112 (hf:=hkn);refine sG ?_;refine wXG ?_;refine wTG ?_ (hb:=rfl);refine wU ?_ ?_
       ·rw[hW]
       ·rw[hW];exact q9
      | some l2=>
       have hkn:=wi hsl hkns hkk;rw[hkk] at hka;simp only at hka;have hl2:=t_ hkk;have hs2:=pv hkk hsl.each hkns;refine ib 4000 rfl rfl z7 w3 ⟨_,func112,by kernel_rfl,rfl⟩ w3 (hkn) w3 z7 z7 w3 z6 z6 ?_;refine sG ?_;refine wXG ?_;refine wDF ?_ (hb:=rfl);refine wG ?_ k8 p8;refine ZB ⟨(i+1,l2,true),⟨by simp only;omega,hka,by simp only;omega,hs2,λh0=>by cases h0⟩,by simp only;omega,ZU ?_ ?_ ?_⟩
       ·simp[go_sem]
       ·simp[go_sem]
       ·simp[go_sem]
    ·have e:i=L.length:=by simp at h;omega
     subst e;rw[Yq (W7 _),cy] at hka;rw[<-hka] at hW0;simp only at hW0;have hfl:l.filter (λk=>bf L k.node.fid)=l:=Ya.2 λk hk=>hss (by rw[W4] at hno;exact hno) (hat k (by rw[<-hlc];exact hk))
     rw[hfl] at hW0;have hdl:=sd (p:=λk=>!bf L k.node.fid) l z8 ⟨_,Go.Proofs.Tryz.func113,by kernel_rfl,rfl⟩ (caps:=[.rp [.sl (L.map ZN)] 0]) (by simp[AV.aW]) (λx _=>CN L hgL.small x) (λx hx=>by rw[hss (by rw[W4] at hno;exact hno) (hat x (by rw[<-hlc];exact hx))];rfl);refine wG ?_;refine wC ?_ func80 (hf:=hdl)
     skip
     refine wG ?_ QA Qu;refine wD (λh=>?_) (λh=>?_)
     ·have hm:aR a=true:=by rw[<-hmb];exact h
      rw[if_pos hm] at hW0;refine wG ?_ Qq We;refine wU ?_ ?_
      ·rw[hW0]
      ·rw[hW0];exact q9
     ·have hm:aR a=false:=by rw[<-hmb];exact h
      rw[if_neg (by simp[hm])] at hW0;refine wG ?_;refine wU ?_ ?_
      ·rw[hW0]
      ·rw[hW0];exact q9
   | true=>
    simp only[go_sem];refine wGD (λh=>?_) (λh=>?_)
    ·skip
     have hlt:=lt1 h;have hg:=Fam.getD (f:=ZN) hlt;have hw1:=wi1 (i:=i) z8;have hnm:=YG hlt;have htk:=ZT hlt;rw[cr hlt,cy] at hka
     skip
     generalize L.getD i default=n at *;have hns:=hgL.small.each n hnm;have hkns:(gi W u.c.clock n).node.Small:=⟨hns.data,hns.entries⟩;have hfd0:=dM W n.fid hgood.small;unfold fT at hfd0;rw[cS] at hfd0;have hos:((ak W n.fid).getD ax).Small:=hgood.small.find n.fid;have hcb:=te W b n;have hdk:gi W u.c.clock n=⟨{ n with version:=((ak W n.fid).getD ax).version },true,0,u.c.clock⟩:=rfl;rw[hdk] at hka hkns;clear hdk;generalize (ak W n.fid).getD ax=o at *;generalize (ak W n.fid).isSome=ok at *;have hfd:Fo 82 [.sl (W.map ZN),.int .i64 n.fid] (.tup [.agg [.int .i64 o.fid,.bool o.dir,.sl (o.data.map ZY),.sl (o.entries.map ZE),.int .i64 o.version],.bool ok]):=hfd0;clear hfd0;have hsm:=kn [o] [n] (dE hos) (dE hns);rw[show gT false [o] [n]=dm false o n by simp[gT]] at hsm;have hcn:=vG u b n.fid;rw[hrow] at hcn;unfold cuH bx at hcn;simp only[List.map_cons,List.map_nil] at hsm;unfold ZN at hsm;generalize dm false o n=sm at *;generalize (b.kind==3&&b.fid==n.fid)=nb at *;refine wR ?_;refine wNq 4 ?_ ?_ z6 z6 u9
     ·simp[hg,ZN,hlt]
     refine wR ?_;refine wN 3 ?_;refine wC ?_ func82 (hf:=hfd);refine wN 6 ?_;refine jz ?_;refine qh ?_;refine qh ?_;refine o_ (λj:Bool=>j=!aT W b n) (λj=>(143,.bool j)::u0 129 14 []) (λ_=>[]) ?_ λj hj=>?_
     ·rw[hcb,Bool.not_not];clear hcb;cases ok with
      | false=>
       refine wG ?_;refine fF (.bool false) rfl ?_;simp only[go_sem];refine wG ?_;refine fF (.bool false) rfl ?_;simp only[go_sem];refine wG ?_;exact ZB ⟨false,rfl,ZU w3 w3 w3⟩
      | true=>
       refine wG ?_;refine ZZ 132 rfl (rfl) ?_;refine ZZ 134 rfl (rfl) (wn ?_);refine wCC ?_ func84 (hf:=λhb=>(hsm));refine wN 2 ?_;cases sm with
       | false=>
        refine wG ?_;refine fF (.bool false) rfl ?_;simp only[go_sem];refine wG ?_;exact ZB ⟨false,by simp,ZU w3 w3 w3⟩
       | true=>
        refine wG ?_;refine wP ?_ [900] func111 (hf:=hcn);refine wG ?_;exact ZB ⟨!nb,by simp,ZU w3 w3 w3⟩
     clear hsm hcn hfd;simp only[go_sem];cases hch:aT W b n with
     | false=>
      rw[hch] at hj hka;simp only[Bool.not_false] at hj;subst hj;rw[if_neg Bool.false_ne_true] at hka;refine wDT ?_ (hb:=rfl);refine wG ?_ k8 p8;refine ZB ⟨(i+1,l,true),⟨by simp only;omega,hka,by simp only;omega,hsl0,λh0=>by cases h0⟩,by simp only;omega,ZU ?_ ?_ ?_⟩
      ·simp[go_sem]
      ·simp[go_sem]
      ·simp[go_sem]
     | true=>
      rw[hch] at hj hka;simp only[Bool.not_true] at hj;subst hj;rw[if_pos rfl] at hka;refine wFG ?_ (hb:=rfl);refine ZZ 5000 rfl (bg _) ?_;simp only[go_sem,W1 (show (l.map ZK).length<=l.length by simp)];refine wO ?_;refine sN 12 ?_;refine sB ?_;cases hkk:c_ l u.c.room ⟨{ n with version:=o.version },true,0,u.c.clock⟩ with
      | none=>
       have hkn:=xQ hsl hkns hkk;rw[hkk] at hka;simp only at hka;rw[<-hka] at hW0;have hW:=hW0;refine sC ?_ func112 (hf:=hkn);refine sG ?_;refine wXG ?_;refine wTG ?_ (hb:=rfl);refine wU ?_ ?_
       ·rw[hW]
       ·rw[hW];exact q9
      | some l2=>
       have hkn:=wi hsl hkns hkk;rw[hkk] at hka;simp only at hka;have hl2:=t_ hkk;have hs2:=pv hkk hsl.each hkns;refine ib 4000 rfl rfl z7 w3 ⟨_,func112,by kernel_rfl,rfl⟩ w3 (hkn) w3 z7 z7 w3 z6 z6 ?_;refine sG ?_;refine wXG ?_;refine wDF ?_ (hb:=rfl);refine wG ?_ k8 p8;refine ZB ⟨(i+1,l2,true),⟨by simp only;omega,hka,by simp only;omega,hs2,λh0=>by cases h0⟩,by simp only;omega,ZU ?_ ?_ ?_⟩
       ·simp[go_sem]
       ·simp[go_sem]
       ·simp[go_sem]
    ·have e:i=L.length:=by simp at h;omega
     subst e;rw[Yq (W7 _),cy] at hka;rw[<-hka] at hW0;simp only at hW0;have hle:=W8 (λk:Kept=>bf L k.node.fid) l;have hdl:=iI (p:=λk=>!bf L k.node.fid) l hsl.len 5000 ⟨_,Go.Proofs.Tryz.func113,by kernel_rfl,rfl⟩ (caps:=[.rp [.sl (L.map ZN)] 0]) (by simp[AV.aW]) j8 (λx _=>CN L hgL.small x);simp only[Bool.not_not] at hdl;generalize l.filter (λk=>bf L k.node.fid)=d at *;refine wG ?_;refine wCG ?_ [5000] 100 func80 (hf:=hdl);refine ZZ 5100 rfl Qo ?_;simp only[go_sem,iD (show (d.map ZK).length=d.length by simp)]
     skip
     refine wG ?_ QA Qu;refine wD (λh=>?_) (λh=>?_)
     ·have hm:aR a=true:=by rw[<-hmb];exact h
      rw[if_pos hm] at hW0;refine wG ?_ Qq We;refine wU ?_ ?_
      ·rw[hW0]
      ·rw[hW0];exact q9
     ·have hm:aR a=false:=by rw[<-hmb];exact h
      rw[if_neg (by simp[hm])] at hW0;refine wG ?_;refine wU ?_ ?_
      ·rw[hW0]
      ·rw[hW0];exact q9
 ·rw[if_neg hE] at hap;rw[if_pos x6] at hW0;have hW:=hW0;refine wCg ?_ func109 (hf:=hap);refine wTG ?_ (hb:=x6);refine wU ?_ ?_
  ·rw[hW]
  ·rw[hW];exact q9
variable {Fa:Prop}
theorem qa {B T:Nat} (u:U) (h:UInvF Fa B T u) (hB:B<=40000000) (hT:T<=900000000000) (a:Act) (ha:ActS a) (seen:Int) (G Y N:Nat->Nat):aj prog 74 [.ptr 900 13 0 0,.agg (ZA a),.int .i64 seen] (cuH u G Y N)
  (λr H=>r=.int .i64 (bU u a seen).e/\Holds (cuH (bU u a seen).u G Y N) H):=by
 unfold bU;cases e:u.c.away with
 | true=>exact Im u h hB e a ha seen G Y N
 | false=>exact Fl u h hB e a ha seen G Y N
theorem sO (u:U) (n:Node) (G Y N:Nat->Nat):aj prog 105 [.ptr 900 13 0 0,.rp (ZN n) 0] (cuH u G Y N) (λr H=>r=.int .i64 (cO n)/\Holds (cuH u G Y N) H):=by
 unfold ZN cuH;refine wS func105 ntmps105 results105 λC=>?_
 refine wGD (λh=>?_) (λh=>?_)
 ·refine wG ?_;refine wU ?_ ?_
  ·simp at h;simp[cO,h]
  ·exact q9
 ·refine wG ?_;refine wU ?_ ?_
  ·simp at h;unfold cO;rw[if_neg z8]
  ·exact q9
theorem qv {B T:Nat} {u:U} (h:UInvF Fa B T u) {f w:Int} (he:(bd u f w).e=0):(bd u f w).n.fid=f:=by
 unfold bd at he ⊢;cases hn:dZ u.c.cache f with
 | some n=>
  obtain ⟨k,_,_,hf⟩:=kU hn;exact hf
 | none=>
  rw[hn] at he;simp only at he ⊢;split
  ·rename_i ha;rw[if_pos ha] at he;cases he
  ·rename_i ha;rw[if_neg ha] at he;cases hf:ak u.s.tree f with
   | none=>rw[hf] at he;cases he
   | some n=>exact ((ZO h.srv.hist.bR.up).1 hf).2
theorem Hu {B T:Nat} (u:U) (h:UInvF Fa B T u) (hB:B<=30000000) (hT:T<=800000000000) (path data:List UInt8) (hp:path.length<=10000000) (G Y N:Nat->Nat):aj prog 72 [.ptr 900 13 0 0,.str path,.sl (data.map ZY)] (cuH u G Y N)
  (λr H=>r=.int .i64 (bI u path data).e/\Holds (cuH (bI u path data).u G Y N) H):=by
 have hd:=kW u h z8 z8 path hp;have hdi:=cK h path;have hdn:=ji h path;have hnm:=bW u path;have hW0:bI u path data=if (ah u path).e≠0 then ⟨(ah u path).e,(ah u path).u⟩
  else if data.length>20 then ⟨4,(ah u path).u⟩
  else match ba (ah u path).n (ah u path).name with
  | some f=>gb (bd (ah u path).u f 0) data
  | none=>if (bU (ah u path).u (cL (ah u path).n.fid (ah u path).name) (-1)).e≠0 then bU (ah u path).u (cL (ah u path).n.fid (ah u path).name) (-1)
   else gb (goU (bU (ah u path).u (cL (ah u path).n.fid (ah u path).name) (-1)).u (ae path).1 0) data:=rfl
 generalize ah u path=d at *;have hent:=kH d.n d.name hdn.small;unfold ZN at hent;unfold cuH at hd;unfold cuH;refine wSG func72 ntmps72 results72 λC=>?_
 refine wP ?_ [900] func73 (hf:=hd);refine wGq ?_ ?_ w5
 ·simp[ZN]
 by_cases hde:d.e=0
 ·rw[if_neg u4] at hW0;refine wFG ?_ (hb:=u4)
  by_cases hdl:data.length>20
  ·rw[if_pos hdl] at hW0;have hW:=hW0;refine wTG ?_ (hb:=k6);refine wU ?_ ?_
   ·rw[hW]
   ·rw[hW];exact q9
  ·rw[if_neg hdl] at hW0;refine wFG ?_ (hb:=k6);cases hen:ba d.n d.name with
   | some f=>
    rw[hen] at hent hW0;simp only[eV] at hent;simp only at hent hW0;have hg:=mG d.u hdi z8 z8 f 0;have hgi:=cg hdi f 0;have hgf:=@qv Fa B (T+42) d.u hdi f 0;unfold cuH iG at hg;generalize bd d.u f 0=g at hg hgi hW0 hgf;refine wCg ?_ func104 (hf:=hent);refine wFG ?_ (hb:=rfl);refine wP ?_ [900] func106 (hf:=hg);refine wGq ?_ ?_ w5
    ·simp[ZN]
    by_cases hge:g.e=0
    ·have hgf:=hgf hge;have hW:bI u path data=bU g.u (cq g.n.fid data) (cO g.n):=by rw[hW0];unfold gb;rw[if_neg x9]
     have hact:=qa g.u hgi z8 z8 (cq g.n.fid data) ⟨by simp[cq],by simp[cq],by show data.length<=20;omega⟩ (cO g.n);have hse:=sO g.u g.n;unfold cuH at hact hse;unfold ZN at hse;simp only[ZA,cq] at hact;rw[hW];simp only[cq];generalize bU g.u ⟨3,g.n.fid,0,[],0,[],data⟩ (cO g.n)=x at *;rw[hgf] at hact;refine wDF ?_ (hb:=x9);refine ZZ 17 rfl (rfl) (wn ?_);refine wR ?_;refine wN 5 ?_;refine wP ?_ [900] func105 (hf:=hse);refine wN 0 ?_;refine wP ?_ [900] func74 (hf:=hact);refine wG ?_;refine wU ?_ ?_
     ·rfl
     ·exact q9
    ·have hW:bI u path data=⟨g.e,g.u⟩:=by rw[hW0];unfold gb;rw[if_pos x9]
     refine wTG ?_ (hb:=x9);refine wU ?_ ?_
     ·rw[hW]
     ·rw[hW];exact q9
   | none=>
    rw[hen] at hent hW0;simp only[eV] at hent;simp only at hent hW0;have hms:ActS (cL d.n.fid d.name):=⟨hnm,by simp[cL],by simp[cL]⟩;have hmk:=qa d.u hdi z8 z8 (cL d.n.fid d.name) hms (-1);have hmi:=j_ hdi hms (-1);generalize bU d.u (cL d.n.fid d.name) (-1)=x at hmk hmi hW0;unfold cuH ZA at hmk;simp only[cL,List.map_nil] at hmk;have hmk2:∀G Y N:Nat->Nat,aj prog 74 [.ptr 900 13 0 0,.agg [.int .i64 1,.int .i64 0,.int .i64 d.n.fid,.str d.name,.int .i64 0,.str [],.nils],.int .i64 (-1)] _ _:=λG Y N=>aj.nrm rfl (hmk G Y N)
    refine wCg ?_ func104 (hf:=hent);refine wTG ?_ (hb:=rfl);refine wP ?_ [900] func74 (hf:=hmk2);refine wG ?_
    by_cases hxe:x.e=0
    ·rw[if_neg Zl] at hW0;have hsp:=nq path z8;have hsl:=cm path;unfold cG at hsp;generalize ae path=S at *;obtain ⟨L,E⟩:=S;obtain ⟨hll,hlx⟩:=hsl;simp only at hW0 hll hlx hsp;have hg:=xr x.u hmi z8 z8 L z8 (λy hy=>by have:=(hlx y hy).1;omega) 0;have hgi:=lC hmi L 0;unfold cuH iG at hg;generalize goU x.u L 0=g at *;refine wFG ?_ (hb:=Zl);refine wCg ?_ func102 (hf:=hsp);refine wP ?_ [900] func103 (hf:=hg);refine wGq ?_ ?_ w5
     ·simp[ZN]
     by_cases hge:g.e=0
     ·have hW:bI u path data=bU g.u (cq g.n.fid data) (cO g.n):=by rw[hW0];unfold gb;rw[if_neg x9]
      have hact:=qa g.u hgi z8 z8 (cq g.n.fid data) ⟨by simp[cq],by simp[cq],by show data.length<=20;omega⟩ (cO g.n);have hse:=sO g.u g.n;unfold cuH at hact hse;unfold ZN at hse;simp only[ZA,cq] at hact;rw[hW];simp only[cq];generalize bU g.u ⟨3,g.n.fid,0,[],0,[],data⟩ (cO g.n)=x at *;refine wDF ?_ (hb:=x9);refine ZZ 15 rfl (rfl) (wn ?_);refine wGS ?_;refine sN 4 ?_;refine sB ?_;refine sN 1 ?_;refine dW rfl rfl z7 w3 ⟨_,func105,by kernel_rfl,rfl⟩ [900] w6 w3 w8 w3 w3 (hse) z6 w7 ?_;refine ic rfl rfl z7 w3 ⟨_,func74,by kernel_rfl,rfl⟩ [900] w6 w3 w8 w3 w3 w3 (hact) z6 w7 ?_;refine sG ?_;refine wXG ?_;refine wU ?_ ?_
      ·rfl
      ·exact q9
     ·have hW:bI u path data=⟨g.e,g.u⟩:=by rw[hW0];unfold gb;rw[if_pos x9]
      refine wTG ?_ (hb:=x9);refine wU ?_ ?_
      ·rw[hW]
      ·rw[hW];exact q9
    ·rw[if_pos Zl] at hW0;have hW:=hW0;refine wTG ?_ (hb:=Zl);refine wU ?_ ?_
     ·rw[hW]
     ·rw[hW];exact q9
 ·rw[if_pos u4] at hW0;have hW:=hW0;refine wTG ?_ (hb:=u4);refine wU ?_ ?_
  ·rw[hW]
  ·rw[hW];exact q9
theorem B7 {B T:Nat} (u:U) (h:UInvF Fa B T u) (hB:B<=30000000) (hT:T<=800000000000) (path:List UInt8) (hp:path.length<=10000000) (G Y N:Nat->Nat):aj prog 75 [.ptr 900 13 0 0,.str path] (cuH u G Y N)
  (λr H=>r=.int .i64 (bu u path).e/\Holds (cuH (bu u path).u G Y N) H):=by
 have hd:=kW u h z8 z8 path hp;have hdi:=cK h path;have hdn:=ji h path;have hnm:=bW u path;have hE:(atU u path).e≠0->bu u path=⟨(atU u path).e,(atU u path).u⟩:=λh=>by unfold bu;rw[if_pos h]
 have hS:(atU u path).e=0->bu u path=bU (atU u path).u (dn (atU u path).n.fid (atU u path).d (atU u path).name) (cO (atU u path).n):=λh=>by unfold bu;rw[if_neg Z9]
 have hA:atU u path=if (ah u path).e≠0 then ⟨0,[],ax,(ah u path).e,(ah u path).u⟩
  else match ba (ah u path).n (ah u path).name with
  | none=>⟨0,[],ax,6,(ah u path).u⟩
  | some f=>⟨(ah u path).n.fid,(ah u path).name,(bd (ah u path).u f 0).n,(bd (ah u path).u f 0).e,(bd (ah u path).u f 0).u⟩:=rfl
 generalize bu u path=w at *;generalize ah u path=d at *;generalize atU u path=p at *;have hent:=kH d.n d.name hdn.small;unfold ZN at hent;unfold cuH at hd;unfold cuH;refine wSG func75 ntmps75 results75 λC=>?_
 refine wP ?_ [900] func73 (hf:=hd);refine wGq ?_ ?_ w5
 ·simp[ZN]
 by_cases hde:d.e=0
 ·rw[if_neg u4] at hA;refine wFG ?_ (hb:=u4);cases hen:ba d.n d.name with
  | none=>
   rw[hen] at hent hA;simp only[eV] at hent;simp only at hent hA;have hW:=hE (by rw[hA];simp);rw[hA] at hW;refine wCg ?_ func104 (hf:=hent);refine wTG ?_ (hb:=rfl);refine wU ?_ ?_
   ·rw[hW]
   ·rw[hW];exact q9
  | some f=>
   rw[hen] at hent hA;simp only[eV] at hent;simp only at hent hA;have hg:=mG d.u hdi z8 z8 f 0;have hgi:=cg hdi f 0;have hgf:=@qv Fa B (T+42) d.u hdi f 0;unfold cuH iG at hg;generalize bd d.u f 0=g at hg hgi hA hgf;refine wCg ?_ func104 (hf:=hent);refine wFG ?_ (hb:=rfl);refine wP ?_ [900] func106 (hf:=hg);refine wGq ?_ ?_ w5
   ·simp[ZN]
   by_cases hge:g.e=0
   ·have hgf:=hgf hge;rw[hA] at hS;refine wDF ?_ (hb:=x9)
    skip
    have hW:=hS hge;simp only[dn,hgf] at hW;have hact:=qa g.u hgi z8 z8 (dn f d.n.fid d.name) ⟨hnm,by simp[dn],by simp[dn]⟩ (cO g.n);have hse:=sO g.u g.n;unfold cuH at hact hse;simp only[ZA,dn,List.map_nil] at hact;unfold ZN at hse;rw[hW];generalize bU g.u ⟨4,f,d.n.fid,d.name,0,[],[]⟩ (cO g.n)=x at *;have hact2:∀G Y N:Nat->Nat,aj prog 74 [.ptr 900 13 0 0,.agg [.int .i64 4,.int .i64 f,.int .i64 d.n.fid,.str d.name,.int .i64 0,.str [],.nils],.int .i64 (cO g.n)] _ _:=λG Y N=>aj.nrm rfl (hact G Y N)
    refine ZZ 10 rfl (rfl) (wn ?_);refine wGS ?_;refine sN 5 ?_;refine sB ?_;refine sN 1 ?_;refine dW rfl rfl z7 w3 ⟨_,func105,by kernel_rfl,rfl⟩ [900] w6 w3 w8 w3 w3 (hse) z6 w7 ?_;refine ic rfl rfl z7 w3 ⟨_,func74,by kernel_rfl,rfl⟩ [900] w6 w3 w8 w3 w3 w3 (hact2) z6 w7 ?_;refine sG ?_;refine wXG ?_;refine wU ?_ ?_
    ·rfl
    ·exact q9
   ·have hW:=hE Wi;rw[hA] at hW;refine wTG ?_ (hb:=x9);refine wU ?_ ?_
    ·rw[hW]
    ·rw[hW];exact q9
 ·rw[if_pos u4] at hA;have hW:=hE Wj;rw[hA] at hW;refine wTG ?_ (hb:=u4);refine wU ?_ ?_
  ·rw[hW]
  ·rw[hW];exact q9
theorem Jj {B T:Nat} (u:U) (h:UInvF Fa B T u) (hB:B<=30000000) (hT:T<=800000000000) (path to:List UInt8) (hp:path.length<=10000000) (hto:to.length<=10000000) (G Y N:Nat->Nat):aj prog 76 [.ptr 900 13 0 0,.str path,.str to] (cuH u G Y N)
  (λr H=>r=.int .i64 (cN u path to).e/\Holds (cuH (cN u path to).u G Y N) H):=by
 have hd:=kW u h z8 z8 path hp;have hdi:=cK h path;have hdn:=ji h path;have hnm:=bW u path;have hE:(atU u path).e≠0->cN u path to=⟨(atU u path).e,(atU u path).u⟩:=λh=>by unfold cN;rw[if_pos h]
 have hM1:(atU u path).e=0->(ah (atU u path).u to).e≠0->cN u path to=⟨(ah (atU u path).u to).e,(ah (atU u path).u to).u⟩:=λh h2=>by unfold cN;rw[if_neg Z9,if_pos h2]
 have hM2:(atU u path).e=0->(ah (atU u path).u to).e=0->cN u path to=bU (ah (atU u path).u to).u (eL (atU u path).n.fid (atU u path).d (atU u path).name (ah (atU u path).u to).n.fid (ah (atU u path).u to).name) (cO (atU u path).n):=λh h2=>by
  unfold cN;rw[if_neg Z9,if_neg (by simp[h2])]
 have hS:=hM1;have hA:atU u path=if (ah u path).e≠0 then ⟨0,[],ax,(ah u path).e,(ah u path).u⟩
  else match ba (ah u path).n (ah u path).name with
  | none=>⟨0,[],ax,6,(ah u path).u⟩
  | some f=>⟨(ah u path).n.fid,(ah u path).name,(bd (ah u path).u f 0).n,(bd (ah u path).u f 0).e,(bd (ah u path).u f 0).u⟩:=rfl
 generalize cN u path to=w at *;generalize ah u path=d at *;generalize atU u path=p at *;have hent:=kH d.n d.name hdn.small;unfold ZN at hent;unfold cuH at hd;unfold cuH;refine wSG func76 ntmps76 results76 λC=>?_
 refine wP ?_ [900] func73 (hf:=hd);refine wGq ?_ ?_ w5
 ·simp[ZN]
 by_cases hde:d.e=0
 ·rw[if_neg u4] at hA;refine wFG ?_ (hb:=u4);cases hen:ba d.n d.name with
  | none=>
   rw[hen] at hent hA;simp only[eV] at hent;simp only at hent hA;have hW:=hE (by rw[hA];simp);rw[hA] at hW;refine wCg ?_ func104 (hf:=hent);refine wTG ?_ (hb:=rfl);refine wU ?_ ?_
   ·rw[hW]
   ·rw[hW];exact q9
  | some f=>
   rw[hen] at hent hA;simp only[eV] at hent;simp only at hent hA;have hg:=mG d.u hdi z8 z8 f 0;have hgi:=cg hdi f 0;have hgf:=@qv Fa B (T+42) d.u hdi f 0;unfold cuH iG at hg;generalize bd d.u f 0=g at hg hgi hA hgf;refine wCg ?_ func104 (hf:=hent);refine wFG ?_ (hb:=rfl);refine wP ?_ [900] func106 (hf:=hg);refine wGq ?_ ?_ w5
   ·simp[ZN]
   by_cases hge:g.e=0
   ·have hgf:=hgf hge;rw[hA] at hS;refine wDF ?_ (hb:=x9)
    skip
    have hd2:=kW g.u hgi z8 z8 to hto;have hd2i:=cK hgi to;have hd2n:=bW g.u to;rw[hA] at hM1 hM2;simp only at hM1 hM2;have hM1:=hM1 hge;have hM2:=hM2 hge;unfold cuH at hd2;generalize ah g.u to=q at *;refine wG ?_;refine wP ?_ [900] func73 (hf:=hd2);refine wGq ?_ ?_ w5
    ·simp[ZN]
    by_cases hqe:q.e=0
    ·have hW:=hM2 hqe;simp only[eL,hgf] at hW;have hact:=qa q.u hd2i z8 z8 (eL f d.n.fid d.name q.n.fid q.name) ⟨hnm,hd2n,by simp[eL]⟩ (cO g.n);have hse:=sO q.u g.n;unfold cuH at hact hse;simp only[ZA,eL,List.map_nil] at hact;unfold ZN at hse;rw[hW];generalize bU q.u ⟨5,f,d.n.fid,d.name,q.n.fid,q.name,[]⟩ (cO g.n)=x at *;have hact2:∀G Y N:Nat->Nat,aj prog 74 [.ptr 900 13 0 0,.agg [.int .i64 5,.int .i64 f,.int .i64 d.n.fid,.str d.name,.int .i64 q.n.fid,.str q.name,.nils],.int .i64 (cO g.n)] _ _:=λG Y N=>aj.nrm rfl (hact G Y N)
     refine wDF ?_ (hb:=Z7);refine ZZ 12 rfl (rfl) (wn ?_);refine wGS ?_;refine sN 8 ?_;refine sB ?_;refine sN 1 ?_;refine dW rfl rfl z7 w3 ⟨_,func105,by kernel_rfl,rfl⟩ [900] w6 w3 w8 w3 w3 (hse) z6 w7 ?_;refine ic rfl rfl z7 w3 ⟨_,func74,by kernel_rfl,rfl⟩ [900] w6 w3 w8 w3 w3 w3 (hact2) z6 w7 ?_;refine sG ?_;refine wXG ?_;refine wU ?_ ?_
     ·rfl
     ·exact q9
    ·have hW:=hM1 hqe;refine wTG ?_ (hb:=Z7);refine wU ?_ ?_
     ·rw[hW]
     ·rw[hW];exact q9
   ·have hW:=hE Wi;rw[hA] at hW;refine wTG ?_ (hb:=x9);refine wU ?_ ?_
    ·rw[hW]
    ·rw[hW];exact q9
 ·rw[if_pos u4] at hA;have hW:=hE Wj;rw[hA] at hW;refine wTG ?_ (hb:=u4);refine wU ?_ ?_
  ·rw[hW]
  ·rw[hW];exact q9
variable {Fa:Prop}
theorem DU (path:List UInt8) (h:Hoard):Fo 116 [.agg (ZJ h),.rp [.str path] 0] (.bool (h.path==path)):=by
 unfold ZJ;refine wS func116 ntmps116 results116 λC=>?_
 refine wGT ?_;rfl
theorem DV {B T:Nat} (u:U) (h:UInvF Fa B T u) (path:List UInt8) (hp:path.length<=10000000) (w:Int) (G Y N:Nat->Nat):aj prog 78 [.ptr 900 13 0 0,.str path,.int .i64 w] (cuH u G Y N)
  (λr H=>r=.int .i64 (cX u path w).e/\Holds (cuH (cX u path w).u G Y N) H):=by
 have hsp:=nq path z8;have h6:=h.cli.hoards;have hW0:cX u path w=if (ae path).2≠0 then ⟨(ae path).2,u⟩ else if w<0\/w>100 then ⟨3,u⟩
  else if 0<w/\(cx u.c.hoards path).length≥6 then ⟨5,u⟩
  else ⟨0,⟨{ u.c with hoards:=if 0<w then cx u.c.hoards path++[⟨path,w⟩] else cx u.c.hoards path },u.s⟩⟩:=rfl
 have hcl:=nT u.c.hoards z8;have hdl:=qB (p:=λx=>x.path==path) u.c.hoards z8 1007 ⟨_,Go.Proofs.Tryz.func116,by kernel_rfl,rfl⟩ (caps:=[.rp [.str path] 0]) (by simp[AV.aW]) j8 (λx _=>DU path x);have hfl:u.c.hoards.filter (λx=>!(x.path==path))=cx u.c.hoards path:=rfl;rw[hfl] at hdl;have hFl:(cx u.c.hoards path).length<=u.c.hoards.length:=W8 _ _;generalize cx u.c.hoards path=F at *;have htq:List.take F.length (F.map ZJ++List.replicate (u.c.hoards.length-F.length) [AV.str [],AV.int .i64 0])=F.map ZJ:=iD w8;generalize cX u path w=wF at *;unfold cG at hsp;generalize ae path=S at *;obtain ⟨L,E⟩:=S;simp only at hW0 hsp;unfold cuH bx;refine wSG func78 ntmps78 results78 λC=>?_
 refine ZZ 4 rfl (rfl) (wn ?_);refine wCg ?_ func102 (hf:=hsp)
 by_cases hE:E=0
 ·rw[if_neg x6] at hW0;refine wDF ?_ (hb:=x6);refine wR ?_;refine wN 6 ?_;refine wNm 23 λc23 h23=>?_
  have hc:c23=true↔(w<0\/w>100):=by
   rw[<-h23];cases e1:decide (w<0)<;>simp at e1<;>simp[e1]<;>omega
  clear h23;refine wG ?_
  by_cases hwr:w<0\/w>100
  ·rw[if_pos hwr] at hW0;have hW:=hW0;refine wTG ?_ (hb:=hc.2 hwr);refine wU ?_ ?_
   ·rw[hW]
   ·rw[hW];exact q9
  ·rw[if_neg hwr] at hW0;refine wFG ?_ (hb:=by simpa using λh0=>hwr (hc.1 h0));refine wCG ?_ [] 1000 func70 (hf:=hcl);refine wG ?_;refine wCG ?_ [1007] 100 func115 (hf:=hdl);refine wG ?_
   by_cases hw0:0<w
   ·refine wTG ?_ (hb:=Wm)
    by_cases hfl:F.length≥6
    ·rw[if_pos ⟨hw0,hfl⟩] at hW0;have hW:=hW0;refine wTG ?_ (hb:=k6);refine wU ?_ ?_
     ·rw[hW]
     ·rw[hW];exact q9
    ·rw[if_neg (λh=>hfl h.2),if_pos hw0] at hW0;have hW:=hW0;refine wDF ?_ (hb:=k6);refine wR ?_;refine wNq 6 ?_ ?_ z6 z6 (by simp only[go_sem,htq];try exact rfl)
     ·simp[htq,refs]
      first | exact ⟨by intro row h;simp at h;subst h;rfl,by omega⟩ | omega
     refine wN 1 ?_;refine ZZ 42 rfl (by rw[List.all_append,eu];rfl) (wn ?_);have htq2:List.take (F.length+1) (F.map ZJ++[[AV.str path,AV.int .i64 w]])=(F++[(⟨path,w⟩:Hoard)]).map ZJ:=by rw[W1 w8,List.map_append];rfl
     rw[htq2];refine wG ?_;refine wU ?_ ?_
     ·rw[hW]
     ·rw[hW];exact q9
   ·rw[if_neg (λh=>hw0 h.1),if_neg hw0] at hW0;have hW:=hW0;refine wDF ?_ (hb:=Wm);refine ZZ 1107 rfl (by rw[List.all_append,eu,Y0];exact jP _ rfl) ?_;simp only[go_sem,htq];refine wG ?_;refine wU ?_ ?_
    ·rw[hW]
    ·rw[hW];exact q9
 ·rw[if_pos x6] at hW0;have hW:=hW0;refine wTG ?_ (hb:=x6);refine wU ?_ ?_
  ·rw[hW]
  ·rw[hW];exact q9
theorem lN {l:List Hoard} {h:Hoard}:∀{n:Nat},h∈bA l n->h∈l
 | 0,hm=>by cases hm
 | n+1,hm=>by
  rw[bA] at hm
  rcases List.mem_append.1 hm with hm | hm
  ·exact (YI.1 hm).1
  ·exact lN hm
theorem mh (x:Hoard) (l:List Hoard):∀n:Nat,(bA (x::l) n).length=(bA l n).length+if 1<=x.worth/\x.worth<=(n:Int) then 1 else 0
 | 0=>by
  rw[if_neg z8];rfl
 | n+1=>by
  rw[bA,bA,List.length_append,List.length_append,mh x l n,List.filter_cons]
  by_cases h1:x.worth=((n+1:Nat):Int)
  ·rw[if_pos Zb,if_neg z8,if_pos z8,List.length_cons];omega
  ·rw[if_neg Zb]
   by_cases h2:1<=x.worth/\x.worth<=(n:Int)
   ·rw[if_pos h2,if_pos z8];omega
   ·rw[if_neg h2,if_neg z8];omega
theorem rK:∀(l:List Hoard),(∀h,h∈l->1<=h.worth/\h.worth<=100)->(bA l 100).length=l.length
 | [],_=>by
  cases e:bA ([]:List Hoard) 100 with
  | nil=>rfl
  | cons x r=>
   have:=lN (l:=[]) (h:=x) (n:=100) (by rw[e];simp);cases this
 | x::l,h=>by
  have h1:=h x List.mem_cons_self;rw[mh,if_pos ⟨h1.1,by omega⟩,rK l λy hy=>h y (List.mem_cons_of_mem _ hy)];rfl
theorem CD {B T:Nat} (u:U) (h:UInvF Fa B T u) (ha:u.c.away=true) (G Y N:Nat->Nat):aj prog 79 [.ptr 900 13 0 0] (cuH u G Y N)
  (λr H=>r=.tup [.int .i64 0,.int .i64 12]/\Holds (cuH u G Y N) H):=by
 unfold cuH bx;refine wSG func79 ntmps79 results79 λC=>?_
 refine wTG ?_ (hb:=ha);refine wU ?_ ?_
 ·rfl
 ·exact q9
theorem CE {B T:Nat} (u:U) (h:UInvF Fa B T u) (ha:u.c.away=false) (hB:B<=30000000) (hT:T<=800000000000) (G Y N:Nat->Nat):aj prog 79 [.ptr 900 13 0 0] (cuH u G Y N)
  (λr H=>r=.tup [.int .i64 ((fb u).n:Int),.int .i64 0]/\Holds (cuH (fb u).u G Y N) H):=by
 have h6:=h.cli.hoards;have hhS:=h.cli.hoardS;have hhS':∀x,x∈u.c.hoards->1<=x.worth/\x.worth<=100:=λx hx=>(hhS x hx).worth
 have hV:fb u=(bA u.c.hoards 100).foldl eH ⟨0,u⟩:=rfl;have h0:VI Fa B T u ⟨0,u⟩ 0:=⟨h,Idle.refl u,W7 _⟩;have hcl:=nT u.c.hoards z8;have hoS:∀x,x∈bA u.c.hoards 100->HoardOK x:=λx hx=>hhS x (lN hx)
 generalize fb u=vF at *;unfold cuH;refine wS func79 ntmps79 results79 λC=>?_
 refine wG ?_ Z1 Zx;refine wFG ?_ (hb:=ha)
 by_cases hne:u.c.hoards=[]
 ·have hO:bA u.c.hoards 100=[]:=by
   cases e:bA u.c.hoards 100 with
   | nil=>rfl
   | cons x r=>
    have:=lN (l:=u.c.hoards) (h:=x) (n:=100) (by rw[e];simp);rw[hne] at this;cases this
  rw[hO,List.foldl_nil] at hV;rw[hne] at hcl ⊢;refine wCG ?_ [] 993 func70 (hf:=hcl);refine ZZ 1000 rfl (rfl) (wn ?_);refine wG ?_;refine wCg ?_ func117 (hf:=DY);refine ZL (λ_:Unit=>True) (λ_=>0) (λ_=>[]) (λ_=>[]) () trivial ?_ λ_ _=>?_
  ·simp only[go_sem];exact ZU w3 Zx w3
  simp only[go_sem];refine nt ?_ (hb:=j8);rw[hV];refine wU ?_ ?_
  ·rfl
  ·rw[show bx u=_ from rfl];unfold bx;rw[hne];exact q9
 ·have hst:=Gd u.c.hoards hne z8 hhS';have hOl:(bA u.c.hoards 100).length=u.c.hoards.length:=by
   exact rK _ hhS'
  unfold hoH at hst;generalize hOd:bA u.c.hoards 100=O at *;refine wCG ?_ [] 993 func70 (hf:=hcl);refine wG ?_;refine bE rfl (eb rfl z7 w3 ⟨_,func117,by kernel_rfl,rfl⟩ [1000] w6 w3 w8 Zo w3 w3 (hst) w7) ?_;refine ZZ 1000 rfl (eu _) ?_;simp only[go_sem,W1 (show (O.map ZJ).length<=u.c.hoards.length by simp[hOl]),hOl,W7,if_true];refine wG ?_
  skip
  refine ZL (λq:Nat×GotV=>q.1<=O.length/\vF=(O.drop q.1).foldl eH q.2/\VI Fa B T u q.2 q.1) (λq=>O.length-q.1)
   (λq=>(5,.int .i64 (q.2.n:Int))::(27,.int .i64 (q.1:Int))::u0 7 5 (u0 28 23 [])) (λq=>[(900,.cells 146 13 [bx q.2.u])]) (0,⟨0,u⟩) ⟨Yp _,by rw[List.drop_zero];exact hV,h0⟩ ?_ λq hq=>?_
  ·simp only[go_sem];exact ZU w3 Zx w3
  obtain ⟨i,g⟩:=q;obtain ⟨hi,hvf,hvi⟩:=hq;simp only at hi hvf hvi;simp only[go_sem];refine wGD (λh=>?_) (λh=>?_)
  ·have hlt:=lt1 h;have hg:=Fam.getD (f:=ZJ) hlt;have hwi:=wi1 (i:=i) z8;have hok:=hoS _ (YG hlt);rw[cr hlt,List.foldl_cons] at hvf;generalize O.getD i default=x at *;have hst:=hvi.step x;have hsp:=nq x.path (by have:=hok.path;omega);have hsl:=cm x.path;have hvs:eH g x=⟨if (goU g.u (ae x.path).1 x.worth).e=0 then g.n+1 else g.n,(goU g.u (ae x.path).1 x.worth).u⟩:=rfl;have hgo:=xr g.u hvi.inv z8 z8 (ae x.path).1 (by have:=hsl.1;omega) (λy hy=>by have:=(hsl.2 y hy).1;omega) x.worth;rw[hvs] at hvf hst;unfold cG at hsp;unfold cuH iG at hgo;generalize goU g.u (ae x.path).1 x.worth=q at *;generalize (ae x.path).1=L at *;have hgn:=hvi.n;have hwn:IntKind.i64.wrap ((g.n:Int)+1)=((g.n+1:Nat):Int):=by rw[Eng.wrap_small z8 z8];rfl
   refine wGq ?_ ?_ Qn
   ·simp[hg,ZJ,hlt]
   refine wCg ?_ func102 (hf:=hsp);refine wP ?_ [900] func103 (hf:=hgo);refine wGq ?_ ?_ w5
   ·simp[ZN]
   by_cases hqe:q.e=0
   ·rw[if_pos hqe] at hvf hst;refine wDT ?_ (hb:=Z7);refine wG ?_ (by simp only[go_sem,hwn,hwi];try exact rfl) (by simp[go_sem,hwn,hwi]);refine ZB ⟨(i+1,⟨g.n+1,q.u⟩),⟨by simp only;omega,hvf,hst⟩,by simp only;omega,ZU ?_ ?_ ?_⟩
    ·simp[go_sem]
    ·simp[go_sem]
    ·simp[go_sem]
   ·rw[if_neg hqe] at hvf hst;refine wDF ?_ (hb:=Z7);refine wG ?_ Zy (by simp[go_sem,hwi]);refine ZB ⟨(i+1,⟨g.n,q.u⟩),⟨by simp only;omega,hvf,hst⟩,by simp only;omega,ZU ?_ ?_ ?_⟩
    ·simp[go_sem]
    ·simp[go_sem]
    ·simp[go_sem]
  ·have e:i=O.length:=by simp at h;omega
   subst e;rw[List.drop_length,List.foldl_nil] at hvf;refine wG ?_;rw[hvf];refine wU ?_ ?_
   ·rfl
   ·exact q9
variable {Fa:Prop}
def rV (u:U) (away:Bool) (id n:Nat):List AV:=[.int .i64 u.c.number,.bool away,.int .i64 u.c.room,.sl (u.c.cache.map ZK),.sl (u.c.log.map ZR),.osl id 9 0 n,.sl (u.c.hoards.map ZJ),.int .i64 u.c.clock,.int .i64 u.c.made,.int .i64 u.c.logged,.sl (u.s.tree.map ZN),.int .i64 u.s.next,.sl (u.s.past.map ZP)]
def Lq (u:U) (G Y N:Nat->Nat):List (Nat×Blk):=[(19,.cells 146 13 [rV u u.c.away 901 u.c.repair.length]),(901,.cells 51 9 (u.c.repair.map ZR))]++pins [19] G Y N
def FJ (u:U) (G Y N:Nat->Nat):List (Nat×Blk):=[(19,.cells 146 13 [bx u])]++pins [19] G Y N
theorem Is {B T:Nat} (u:U) (h:UInvF Fa B T u) (hB:B<=40000000) (G Y N:Nat->Nat):aj prog 77 [.ptr 19 13 0 0] (Lq u G Y N)
  (λr H=>r=.tup [.int .i64 (bL (aw u)),.int .i64 ((aw u).length-bL (aw u):Nat)]/\Holds (FJ (gh u) G Y N) H):=by
 have hci:=h.cli;have hll:=hci.log;have hfit:∀r,r∈u.c.log->ActFit r.act:=λr hr=>(hci.logS r hr).fit
 have hsl:SmallL u.c.log:=⟨by omega,λr hr=>by have:=(hci.logS r hr).data;show r.act.data.length<=_;omega⟩;have htk:=Du u.s (h.srv.mono z8) u.c.number u.c.log hsl z8 hfit;have hvl:(aw u).length=u.c.log.length:=(JInv.pt h.srv.hist u.c.number u.s.next u.c.log hfit).vlen;have hs2:=h.srv.take u.c.number hfit;have hrep:=hci.rep;have hsk:=h.yt;have hbU:gh u=⟨{ u.c with away:=false,log:=[],repair:=nR u.c (aw u) (aw u).length,cache:=(u.c.cache.filter λk=>!k.dirty).filter λk=>!bN (il u).tree k },il u⟩:=by
  unfold gh nR vr;rw[W4,hvl,W4]
 have hdn:bL (aw u)=iQ (aw u) (aw u).length:=by unfold iQ;rw[W4]
 rw[hbU,hdn];have hst:∀i,i<(aw u).length->_:=λi hi=>wM (c:=u.c) hi hvl
 have hsd:∀i,i<(aw u).length->_:=λi hi=>tw (vs:=aw u) hi
 have hdl:=yW (aw u);have hrl:=AB u.c (aw u);have h0:nR u.c (aw u) 0=u.c.repair:=by simp[nR,vr,bY]
 have h00:iQ (aw u) 0=0:=by simp[iQ,bL]
 have hcn:=FD u.c.cache hsk;have hfl:=W8 (λk:Kept=>!k.dirty) u.c.cache;have hfr:=tP (u.c.cache.filter λk=>!k.dirty) (il u).tree ⟨by have:=hsk.len;omega,λk hk=>hsk.each k (YI.1 hk).1⟩ hs2.hist.bR.small;unfold aw at *;unfold il at *;generalize (bM u.s.tree u.s.next ((u.s.past.length+1:Nat):Int) u.c.log).vs=vs at *;generalize jU u.s u.c.number u.c.log=s2 at *;generalize nR u.c vs=R at *;generalize iQ vs=D at *;clear hbU hdn;unfold ZQ at htk;unfold Lq rV FJ bx;refine wS func77 ntmps77 results77 λC=>?_
 refine wGS ?_;refine sN 14 ?_;refine sC ?_ func45 (hf:=htk);refine sN 3 ?_;refine sW ?_;refine sT ?_;refine sG ?_;refine wX ?_;refine af (mO 901 59 19 z6 z7 z7 z6 j0 j0 rfl z7 j6 j6) ?_;refine wG ?_;refine wL vs.length (λi=>(2,.int .i64 (D i:Nat))::(3,.int .i64 ((i-D i:Nat):Int))::(6,.any)::(7,.any)::(32,.int .i64 i)::u0 33 31 [])
  (λi=>[(19,.cells 146 13 [rV u false 59 (R i).length]),(59,.cells 51 9 ((R i).map ZR))]) ?_ λi hi=>?_
 ·rw[h00,h0];unfold rV;exact wZ
 unfold rV;simp only[go_sem];refine wGD (λh=>?_) (λh=>?_)
 ·have hlt:=lt1 h;have hlt2:i<u.c.log.length:=by omega
  have hg:=Fam.getD (f:=ZV) hlt;have hgl:=Fam.getD (f:=ZR) hlt2;have hs1:=hst i hlt;have hs3:=hsd i hlt;have hl1:=hdl i z8;have hl2:=hrl i;have how':=wi1 (i:=i) z8;have hwd:IntKind.i64.wrap ((D i:Int)+1)=((D i+1:Nat):Int):=by rw[Eng.wrap_small z8 z8];rfl
  have hwr:IntKind.i64.wrap (((i-D i:Nat):Int)+1)=((i-D i+1:Nat):Int):=by rw[Eng.wrap_small z8 z8];rfl
  have hsub1:i+1-(D i+1)=i-D i:=by omega
  have hsub2:i+1-D i=i-D i+1:=by omega
  generalize u.c.log.getD i default=r at *;generalize vs.getD i default=v at *;generalize R i=Q at *;have htq:List.take Q.length (Q.map ZR)=Q.map ZR:=W1 w8;refine wR ?_;refine wNq 6 ?_ ?_ z6 z6 Zm
  ·simp[hg,ZV,hlt]
  refine wG ?_
  by_cases he:v.err=0
  ·rw[if_pos he] at hs1 hs3;refine wDT ?_ (hb:=QE);refine wG ?_ (by simp only[go_sem,hwd,how'];try exact rfl) (by simp[go_sem,hwd,how']);exact ZB ⟨i+1,by omega,by omega,ZU (by simp[go_sem,hs3,hsub1]) (by simp[go_sem,hs1,rV]) w3⟩
  ·rw[if_neg he] at hs1 hs3;refine wDF ?_ (hb:=QE);refine wG ?_ Z0 (by simp[go_sem,hwr]);refine ZW ZM ?_;refine iq 0 [1,2,3,4,5,6,7,8,9,10,11,12,13,14,15,16,17,18,19] [0,0,1,2,3,4,5,6,7,8,9,10,11,12,13,14,15,16,17,18] rfl rfl rfl (λ_ _ _ h=>h) w9 w9 v8 z7 ?_
   try simp only[go_sem,gA,gB,gC]
   refine ZS rfl ?_;refine sNq 13 ?_ ?_ z6 z6 (by simp only[go_sem,hgl,ZR];try exact rfl)
   ·simp[hgl,ZR,hlt2]
   refine sW ?_;refine sE ?_;refine iX (aY 59 19 z6 y9) ?_;simp only[go_sem];refine dSq ?_ ?_
   ·simp[go_sem,rowsOf,htq];refine ⟨by omega,λx hx y hy hr=>?_⟩;have:=List.all_eq_true.1 (List.all_eq_true.1 (jd 59 Q) (ZR x) (W5.2 ⟨x,hx,rfl⟩)) y hy;simp only[Yb,List.contains_eq_mem,decide_eq_false_iff_not] at this;exact this hr
   simp only[go_sem];refine dS ?_;refine dS ?_;refine dS ?_;refine dS ?_;refine wKn ?_;refine wG ?_ y6 u3;exact ZB ⟨i+1,by omega,by omega,ZU (by simp[go_sem,hs3,hsub2,hs1]) (by simp[go_sem,hs1,rV,htq,ZR]) w3⟩
 ·obtain rfl:=eq1 hi h;clear hst hsd;have hl1:=hdl vs.length (W7 _);generalize hD:D vs.length=d at *;generalize R vs.length=Q at *;have htq:List.take Q.length (Q.map ZR)=Q.map ZR:=W1 w8;refine ZZ 59 rfl (dg _) ?_;simp only[go_sem,htq];refine wGS ?_;refine sN 6 ?_;refine sC ?_ func114 (hf:=hcn);refine sN 2 ?_;refine sC ?_ func43 (hf:=hfr);refine sG ?_;refine sE ?_;refine dS ?_;refine wKG ?_;refine af (av 19) (wn ?_);refine wU ?_ ?_
  ·rfl
  ·exact q9
variable {Fa:Prop}
def sq (c:Cli):List AV:=[.int .i64 c.number,.bool c.away,.int .i64 c.room,.sl (c.cache.map ZK),.sl (c.log.map ZR),.osl 901 9 0 c.repair.length,.sl (c.hoards.map ZJ),.int .i64 c.clock,.int .i64 c.made,.int .i64 c.logged]
theorem yR (c:Cli) (h:SmallC c):aj prog 41 [.agg (ZC c)] [] (λr H=>r=.agg (sq c)/\∀i b,aa [(901,.cells 51 9 (c.repair.map ZR))] i=some b->aa H i=some b):=by
 have h1:=sA c.cache h.cache;have h2:=kQ c.log h.log;have h3:=qI c.repair h.repair;have h4:=oZ c.hoards h.hoards;unfold ZC sq;refine wS func41 ntmps41 results41 λC=>?_
 refine wGS ?_;refine sN 2 ?_;refine sC ?_ func68 (hf:=h1);refine sN 2 ?_;refine sC ?_ func69 (hf:=h2);refine sN 2 ?_;refine ib 882 rfl rfl z7 w3 ⟨_,func69,by kernel_rfl,rfl⟩ w3 (h3) w3 z7 z7 w3 z6 z6 ?_;refine sN 2 ?_;refine sC ?_ func70 (hf:=h4);refine sN 1 ?_;refine sT ?_;refine sN 1 ?_;refine sT ?_;refine sN 1 ?_;refine sT ?_;refine sN 1 ?_;refine sT ?_;refine wX ?_;refine wGT ?_;simp[go_sem]
def n_ (u:U) (x:Step):GotS:=if (ae x.path).2≠0 then ⟨u,cD (ae x.path).2⟩ else ⟨(goU u (ae x.path).1 0).u,gx x.kind (goU u (ae x.path).1 0)⟩
theorem Df {B T:Nat} (u:U) (h:UInvF Fa B T u) (hB:B<=30000000) (hT:T<=800000000000) (x:Step) (hp:x.path.length<=10000000) (hk:x.kind=1\/x.kind=2) (G Y N:Nat->Nat):aj prog 71 [.ptr 900 13 0 0,.rp (ZX x) 0] (cuH u G Y N)
  (λr H=>r=.agg (bc (n_ u x).r)/\Holds (cuH (n_ u x).u G Y N) H):=by
 have hsp:=nq x.path z8;have hsl:=cm x.path;have hgo:=xr u h z8 z8 (ae x.path).1 z8 (λy hy=>by have:=(hsl.2 y hy).1;omega) 0;have hno:=pn h (ae x.path).1 0;have hnam:=xL h (ae x.path).1 0;have hW:n_ u x=if (ae x.path).2≠0 then ⟨u,cD (ae x.path).2⟩ else ⟨(goU u (ae x.path).1 0).u,gx x.kind (goU u (ae x.path).1 0)⟩:=rfl;generalize n_ u x=wF at *;unfold cG at hsp;generalize goU u (ae x.path).1 0=g at *;generalize ae x.path=S at *;obtain ⟨L,E⟩:=S;simp only at hW hsp hgo;unfold cuH iG at hgo;unfold cuH ZX;refine wSG func71 ntmps71 results71 λC=>?_
 refine af (av 4) (wn ?_);refine wCg ?_ func102 (hf:=hsp)
 by_cases hE:E=0
 ·rw[if_neg x6] at hW;rw[hW];refine wFG ?_ (hb:=x6);refine wP ?_ [900] func103 (hf:=hgo);refine wGq ?_ ?_ w5
  ·simp[ZN]
  by_cases hge:g.e=0
  ·refine wFG ?_ (hb:=x9)
   rcases hk with hk | hk
   ·have hr:gx x.kind g=if g.n.dir=true then ⟨9,0,0,[]⟩ else ⟨0,0,0,g.n.data⟩:=by unfold gx;rw[if_neg x9,if_pos hk]
    rw[hr];cases hd:g.n.dir with
    | true=>
     refine wTG ?_ (hb:=QX);refine af (av 4) (wn ?_);refine wU ?_ ?_
     ·rfl
     ·exact q9
    | false=>
     refine wFG ?_ (hb:=QX);refine wTG ?_ (hb:=QX);refine wU ?_ ?_
     ·rfl
     ·exact q9
   ·have hr:gx x.kind g=if g.n.dir=true then ⟨0,0,0,nX g.n.entries⟩ else ⟨8,0,0,[]⟩:=by unfold gx;rw[if_neg x9,if_neg z8]
    rw[hr];refine wFG ?_ (hb:=QX);refine wFG ?_ (hb:=QX);cases hd:g.n.dir with
    | false=>
     refine wTG ?_ (hb:=rfl);refine af (av 4) (wn ?_);refine wU ?_ ?_
     ·rfl
     ·exact q9
    | true=>
     refine wFG ?_ (hb:=rfl);have hle:=hno.ent;have hD0:kP g.n.entries 0=[]:=rfl;have hDs:=λi=>@oz g.n.entries i
     have hDn:=qH hnam;have hDe:kP g.n.entries g.n.entries.length=nX g.n.entries:=by unfold kP;rw[W4]
     rw[if_pos rfl];generalize kP g.n.entries=D at *;generalize nX g.n.entries=DE at *;refine af (le_empty 71 5 1 z7) (wn ?_);refine wL g.n.entries.length (λi=>(8,.osl 71 1 0 (D i).length)::(10,.any)::(62,.int .i64 i)::u0 63 10 [])
      (λi=>[(71,.cells 5 1 ((D i).map ZY))]) ?_ λi hi=>?_
     ·rw[hD0];exact wZ
     simp only[go_sem];refine wGD (λh=>?_) (λh=>?_)
     ·have hlt:=lt1 h;have hg:=Fam.getD (f:=ZE) hlt;have hs1:=hDs i hlt;have hl1:=hDn i hi;have hl2:(g.n.entries.getD i default).name.length<=40:=hnam _ (by rw[Xq,Wz hlt];exact YW _);have how':=wi1 (i:=i) z8;generalize g.n.entries.getD i default=e at *;generalize D i=Di at *;have htq:List.take Di.length (Di.map ZY)=Di.map ZY:=W1 w8;refine wR ?_;refine wNq 4 ?_ ?_ z6 z6 s6
      ·simp[hg,ZE,hlt]
      refine wR ?_;refine wN 3 ?_;refine bE rfl (yD tK rfl rfl rfl rfl z7 z7 (by show fz _ _ _ _ _ (.sl (e.name.map ZY))=_;simp only[go_sem,htq];exact rfl) ?_ z6) ?_
      ·simp[go_sem,htq];exact ⟨by omega,λx hx=>fY (uV g.u) hx 71⟩
      refine wGq ?_ ?_ y6
      ·simp[htq,refs];refine ⟨by omega,λx hx=>fY (uV g.u) hx 69,λrow hr y hy=>?_⟩
       rcases List.mem_append.1 (YF hr) with hr | hr<;>obtain ⟨b,_,rfl⟩:=W5.1 hr<;>simp only[ZY,List.mem_cons,List.not_mem_nil,or_false] at hy<;>subst hy<;>simp[refs]
      refine ZB ⟨i+1,by omega,by omega,ZU ?_ ?_ ?_⟩
      ·simp[go_sem,hs1];omega
      ·simp[go_sem,hs1,htq,ZY];rw[W1 w8,List.append_assoc]
      ·simp[go_sem]
     ·obtain rfl:=eq1 hi h;rw[hDe];refine ZZ 71 rfl (lp _) (wn ?_);refine wG ?_;refine wU ?_ ?_
      ·simp[bc]
      ·exact q9
  ·have hr:gx x.kind g=cD g.e:=by unfold gx;rw[if_pos hge];rfl
   rw[hr];refine wTG ?_ (hb:=x9);refine af (av 4) (wn ?_);refine wU ?_ ?_
   ·rfl
   ·exact q9
 ·rw[if_pos hE] at hW;rw[hW];refine wTG ?_ (hb:=x6);refine af (av 4) (wn ?_);refine wU ?_ ?_
  ·rfl
  ·exact q9
variable {Fa:Prop}
theorem Mq {B T:Nat} (c:Cli) (s:Srv) (h:UInvF Fa B T ⟨c,s⟩) (hB:B<=30000000) (hT:T<=800000000000) (x:Step) (hp:x.path.length<=10000000) (hq:x.toPath.length<=10000000) (hk:x.kind≠8):Fo 42 [.agg (ZC c),.agg (ZQ s),.agg (ZX x)] (gU (al ⟨c,s⟩ x)):=by
 have hco:=yR c (h.cli.kB z8);have hso:=sQ s h.srv.hist.bR.small (h.srv.Av z8);have htq:List.take c.repair.length (c.repair.map ZR)=c.repair.map ZR:=W1 w8;unfold ZC sq at hco;unfold ZQ at hso;unfold ZC ZQ ZX;refine wSG func42 ntmps42 results42 λC=>?_
 refine ZZ 5 rfl (rfl) (wn ?_);refine wO ?_;refine sN 1 ?_;refine ib 0 rfl rfl z7 w3 ⟨_,func41,by kernel_rfl,rfl⟩ w3 (hco) w3 z7 z7 w3 z6 z6 ?_;refine sN 1 ?_;refine sC ?_ func40 (hf:=hso);refine sB ?_;refine sW ?_;refine sG ?_;refine wX ?_;refine ZZ 901 rfl (dg _) ?_;simp only[go_sem,htq];refine af (gR 19 900) ?_;refine wR ?_;refine wN 1 ?_;refine wR ?_;refine wN 2 ?_;refine jz ?_;refine af (av 10) (wn ?_);refine o_ (λq:U×Reply=>al ⟨c,s⟩ x=⟨q.1,q.2⟩) (λq=>(11,.any)::(12,.any)::(13,.any)::u0 22 84 []) (λq=>[(900,.cells 146 13 [bx q.1]),(10,.cells 42 4 [bc q.2])]) ?_ λq hS=>?_
 ·refine wG ?_
  by_cases h1:x.kind=1
  ·refine wTG ?_ (hb:=by simp[h1]);have hS:al ⟨c,s⟩ x=n_ ⟨c,s⟩ x:=by unfold al n_;rw[if_pos (.inl h1)]
   have hw:=Df ⟨c,s⟩ h hB hT x hp (.inl h1);rw[hS];generalize n_ ⟨c,s⟩ x=w at *;unfold cuH bx ZX bc at hw;refine wTG ?_ (hb:=by simp[h1]);refine wP ?_ [900] func71 (hf:=hw);refine wG ?_;exact ZB ⟨(w.u,w.r),rfl,ZU w3 (by simp[go_sem,bx,bc]) w3⟩
  refine wFG ?_ (hb:=Zb)
  by_cases h2:x.kind=2
  ·skip
   have hS:al ⟨c,s⟩ x=n_ ⟨c,s⟩ x:=by unfold al n_;rw[if_pos (.inr h2)]
   have hw:=Df ⟨c,s⟩ h hB hT x hp (.inr h2);rw[hS];generalize n_ ⟨c,s⟩ x=w at *;unfold cuH bx ZX bc at hw;refine wTG ?_ (hb:=by simp[h2]);refine wP ?_ [900] func71 (hf:=hw);refine wG ?_;exact ZB ⟨(w.u,w.r),rfl,ZU w3 (by simp[go_sem,bx,bc]) w3⟩
  refine wFG ?_ (hb:=WU)
  by_cases h3:x.kind=3
  ·have hS:al ⟨c,s⟩ x=⟨(bI ⟨c,s⟩ x.path x.data).u,cD (bI ⟨c,s⟩ x.path x.data).e⟩:=by unfold al;rw[if_neg z8,if_pos h3]
   have hw:=Hu ⟨c,s⟩ h hB hT x.path x.data hp;rw[hS];generalize bI ⟨c,s⟩ x.path x.data=w at *;unfold cuH bx at hw;refine wTG ?_ (hb:=by simp[h3]);refine wP ?_ [900] func72 (hf:=hw);refine wG ?_;exact ZB ⟨(w.u,cD w.e),rfl,ZU w3 Qs w3⟩
  refine wFG ?_ (hb:=by simpa using h3)
  by_cases h4:x.kind=4
  ·have hS:al ⟨c,s⟩ x=⟨(d_ ⟨c,s⟩ x.path).u,cD (d_ ⟨c,s⟩ x.path).e⟩:=by unfold al;rw[if_neg z8,if_neg h3,if_pos h4]
   have hM:d_ ⟨c,s⟩ x.path=if (ah ⟨c,s⟩ x.path).e≠0 then ⟨(ah ⟨c,s⟩ x.path).e,(ah ⟨c,s⟩ x.path).u⟩ else bU (ah ⟨c,s⟩ x.path).u (iS (ah ⟨c,s⟩ x.path).n.fid (ah ⟨c,s⟩ x.path).name) (-1):=rfl;have hd:=kW ⟨c,s⟩ h z8 z8 x.path hp;have hdi:=cK h x.path;have hnm:=bW ⟨c,s⟩ x.path;rw[hS];generalize d_ ⟨c,s⟩ x.path=w at *;generalize ah ⟨c,s⟩ x.path=d at *;unfold cuH bx at hd;refine wTG ?_ (hb:=by simp[h4]);refine wP ?_ [900] func73 (hf:=hd);refine wGq ?_ ?_ w5
   ·simp[ZN]
   by_cases hde:d.e=0
   ·rw[if_neg u4] at hM;have hact:=qa d.u hdi z8 z8 (iS d.n.fid d.name) ⟨hnm,by simp[iS],by simp[iS]⟩ (-1);unfold cuH bx at hact;simp only[ZA,iS,List.map_nil] at hact hM;generalize bU d.u ⟨2,0,d.n.fid,d.name,0,[],[]⟩ (-1)=y at *;rw[hM];refine wTG ?_ (hb:=u4);refine af (xS 53 z6 WD) (wn ?_);refine wP ?_ [900] func74 (hf:=hact);refine wG ?_;exact ZB ⟨(y.u,cD y.e),rfl,ZU w3 Qs w3⟩
   ·rw[if_pos u4] at hM;rw[hM];refine wFG ?_ (hb:=u4);exact ZB ⟨(d.u,cD d.e),rfl,ZU w3 Qs w3⟩
  refine wFG ?_ (hb:=by simpa using h4)
  by_cases h5:x.kind=5
  ·have hS:al ⟨c,s⟩ x=⟨(bu ⟨c,s⟩ x.path).u,cD (bu ⟨c,s⟩ x.path).e⟩:=by unfold al;rw[if_neg z8,if_neg h3,if_neg h4,if_pos h5]
   have hw:=B7 ⟨c,s⟩ h hB hT x.path hp;rw[hS];generalize bu ⟨c,s⟩ x.path=w at *;unfold cuH bx at hw;refine wTG ?_ (hb:=by simp[h5]);refine wP ?_ [900] func75 (hf:=hw);refine wG ?_;exact ZB ⟨(w.u,cD w.e),rfl,ZU w3 Qs w3⟩
  refine wFG ?_ (hb:=by simpa using h5)
  by_cases h6:x.kind=6
  ·have hS:al ⟨c,s⟩ x=⟨(cN ⟨c,s⟩ x.path x.toPath).u,cD (cN ⟨c,s⟩ x.path x.toPath).e⟩:=by unfold al;rw[if_neg z8,if_neg h3,if_neg h4,if_neg h5,if_pos h6]
   have hw:=Jj ⟨c,s⟩ h hB hT x.path x.toPath hp hq;rw[hS];generalize cN ⟨c,s⟩ x.path x.toPath=w at *;unfold cuH bx at hw;refine wTG ?_ (hb:=by simp[h6]);refine wP ?_ [900] func76 (hf:=hw);refine wG ?_;exact ZB ⟨(w.u,cD w.e),rfl,ZU w3 Qs w3⟩
  refine wFG ?_ (hb:=by simpa using h6)
  by_cases h7:x.kind=7
  ·have hS:al ⟨c,s⟩ x=⟨⟨{ c with away:=true },s⟩,cD 0⟩:=by unfold al;rw[if_neg z8,if_neg h3,if_neg h4,if_neg h5,if_neg h6,if_pos h7]
   rw[hS];refine wTG ?_ (hb:=by simp[h7]);refine ZB ⟨(⟨{ c with away:=true },s⟩,cD 0),rfl,ZU ?_ ?_ ?_⟩
   ·simp[go_sem]
   ·simp[go_sem,bx,bc,cD]
   ·simp[go_sem]
  refine wFG ?_ (hb:=by simpa using h7);refine wFG ?_ (hb:=Z4)
  by_cases h9:x.kind=9
  ·have hS:al ⟨c,s⟩ x=⟨(cX ⟨c,s⟩ x.path x.n).u,cD (cX ⟨c,s⟩ x.path x.n).e⟩:=by unfold al;rw[if_neg z8,if_neg h3,if_neg h4,if_neg h5,if_neg h6,if_neg h7,if_neg hk,if_pos h9]
   have hw:=DV ⟨c,s⟩ h x.path hp x.n;rw[hS];generalize cX ⟨c,s⟩ x.path x.n=w at *;unfold cuH bx at hw;refine wTG ?_ (hb:=by simp[h9]);refine wP ?_ [900] func78 (hf:=hw);refine wG ?_;exact ZB ⟨(w.u,cD w.e),rfl,ZU w3 Qs w3⟩
  refine wFG ?_ (hb:=by simpa using h9)
  by_cases h10:x.kind=10
  ·have hS:al ⟨c,s⟩ x=if c.away=true then ⟨⟨c,s⟩,cD 12⟩ else ⟨(fb ⟨c,s⟩).u,⟨0,(fb ⟨c,s⟩).n,0,[]⟩⟩:=by unfold al;rw[if_neg z8,if_neg h3,if_neg h4,if_neg h5,if_neg h6,if_neg h7,if_neg hk,if_neg h9,if_pos h10]
   refine wTG ?_ (hb:=by simp[h10]);cases ha:c.away with
   | true=>
    have hw:=CD ⟨c,s⟩ h ha;rw[if_pos ha] at hS;rw[hS];unfold cuH bx at hw;rw[show (⟨c,s⟩:U).c.away=true from ha] at hw;refine wP ?_ [900] func79 (hf:=hw);refine wG ?_;refine ZB ⟨(⟨c,s⟩,cD 12),rfl,ZU ?_ ?_ ?_⟩
    ·simp[go_sem]
    ·simp[go_sem,bx,bc,cD,ha]
    ·simp[go_sem]
   | false=>
    have hw:=CE ⟨c,s⟩ h ha hB hT;rw[if_neg Zc] at hS;rw[hS];generalize fb ⟨c,s⟩=w at *;unfold cuH bx at hw;rw[show (⟨c,s⟩:U).c.away=false from ha] at hw;refine wP ?_ [900] func79 (hf:=hw);refine wG ?_;refine ZB ⟨(w.u,⟨0,w.n,0,[]⟩),rfl,ZU ?_ ?_ ?_⟩
    ·simp[go_sem]
    ·simp[go_sem,bx,bc]
    ·simp[go_sem]
  have hS:al ⟨c,s⟩ x=⟨⟨c,s⟩,cD 1⟩:=by unfold al;rw[if_neg z8,if_neg h3,if_neg h4,if_neg h5,if_neg h6,if_neg h7,if_neg hk,if_neg h9,if_neg h10]
  rw[hS];refine wFG ?_ (hb:=by simpa using h10);refine ZB ⟨(⟨c,s⟩,cD 1),rfl,ZU ?_ ?_ ?_⟩
  ·simp[go_sem]
  ·simp[go_sem,bx,bc,cD]
  ·simp[go_sem]
 obtain ⟨v,r⟩:=q;simp only at hS;rw[hS];simp only[go_sem,bx,bc];refine wGS ?_;refine sN 9 ?_;refine sT ?_;refine sT ?_;refine sT ?_;refine wX ?_;refine wGT ?_;rfl
variable {Fa:Prop}
theorem Ls {B T:Nat} (c:Cli) (s:Srv) (h:UInvF Fa B T ⟨c,s⟩) (hB:B<=30000000) (x:Step) (hk:x.kind=8):Fo 42 [.agg (ZC c),.agg (ZQ s),.agg (ZX x)] (gU (al ⟨c,s⟩ x)):=by
 have hco:=yR c (h.cli.kB z8);have hso:=sQ s h.srv.hist.bR.small (h.srv.Av z8);have hS:al ⟨c,s⟩ x=⟨gh ⟨c,s⟩,⟨0,bL (aw ⟨c,s⟩),((aw ⟨c,s⟩).length-bL (aw ⟨c,s⟩):Nat),[]⟩⟩:=by
  unfold al;rw[if_neg z8,if_neg z8,if_neg z8,if_neg z8,if_neg z8,if_neg z8,if_pos hk]
 have hw:=Is ⟨c,s⟩ h z8;rw[hS];generalize (aw ⟨c,s⟩).length-bL (aw ⟨c,s⟩)=m2 at *;generalize bL (aw ⟨c,s⟩)=m1 at *;generalize gh ⟨c,s⟩=w at *;unfold Lq rV FJ bx at hw;unfold ZC sq at hco;unfold ZQ at hso;unfold ZC ZQ ZX;refine wSG func42 ntmps42 results42 λC=>?_
 refine ZZ 5 rfl (rfl) (wn ?_);refine wO ?_;refine sN 1 ?_;refine ib 0 rfl rfl z7 w3 ⟨_,func41,by kernel_rfl,rfl⟩ w3 (hco) w3 z7 z7 w3 z6 z6 ?_;refine sN 1 ?_;refine sC ?_ func40 (hf:=hso);refine sB ?_;refine sW ?_;refine sG ?_;refine wXG ?_;refine af (av 10) (wn ?_);refine wFG ?_ (hb:=QX);refine wFG ?_ (hb:=QX);refine wFG ?_ (hb:=QX);refine wFG ?_ (hb:=QX);refine wFG ?_ (hb:=QX);refine wFG ?_ (hb:=QX);refine wFG ?_ (hb:=QX);refine wTG ?_ (hb:=QX);refine bE rfl (Cy rfl z7 w3 ⟨_,func77,by kernel_rfl,rfl⟩ [19] [901] w6 w3 w8 w3 w3 w3 w3 (hw) w7) ?_;refine wGS ?_;refine sN 9 ?_;refine sT ?_;refine sT ?_;refine sT ?_;refine wX ?_;refine wGT ?_;rfl
theorem Lp {B T:Nat} (c:Cli) (s:Srv) (h:UInvF Fa B T ⟨c,s⟩) (hB:B<=30000000) (hT:T<=800000000000) (x:Step) (hp:x.path.length<=10000000) (hq:x.toPath.length<=10000000):Fo 42 [.agg (ZC c),.agg (ZQ s),.agg (ZX x)] (gU (al ⟨c,s⟩ x)):=by
 by_cases hk:x.kind=8
 ·exact Ls c s h hB x hk
 ·exact Mq c s h hB hT x hp hq hk
def sh (t:List Node) (cs:List Cli) (i:Nat):List Cli:=(cs.take i).map (bq t)++cs.drop i
theorem Ha (t:List Node) (cs:List Cli) (i:Nat):(sh t cs i).length=cs.length:=by
 unfold sh;rw[List.length_append,List.length_map,YA,YX];omega
theorem G' {t:List Node} {cs:List Cli} {i:Nat} (h:i<cs.length):(sh t cs i).getD i default=cs.getD i default:=by
 unfold sh;rw[Xq,YO (by rw[List.length_map,YA];omega),List.length_map,YA,Yt z8,Ym,List.getElem?_drop,Xq];rfl
theorem EN {t:List Node} {cs:List Cli} {i:Nat} (h:i<cs.length):sh t cs (i+1)=(sh t cs i).set i (bq t (cs.getD i default)):=by
 unfold sh;have hl:((cs.take i).map (bq t)).length=i:=by rw[List.length_map,YA];omega
 rw[ZT h,List.map_append,List.drop_eq_getElem_cons h,List.set_append_right _ _ z8,hl,Ym,List.set_cons_zero,List.append_assoc];rfl
theorem WInv.kB {B T:Nat} {w:Wor} (h:WInv B T w) (hB:B<=30000000):∀c,c∈w.cs->SmallC c:=λc hc=>(h.cli c hc).kB z8
theorem KQ {B T:Nat} (w:Wor) (h:WInv B T w) (hB:B<=30000000) (x:Step) (hb:x.client<0\/x.client≥w.cs.length):Fo 28 [.agg (aV w),.agg (ZX x)] (jW (au w x)):=by
 have h3:=h.len;have hwo:=KT w h.srv.hist.bR.small (h.srv.Av z8) (h.kB hB) z8;have hW:au w x=⟨w,cD 6⟩:=by unfold au;rw[if_pos hb]
 rw[hW];unfold aV at hwo;unfold jW aV ZX;refine wS func28 ntmps28 results28 λC=>?_
 refine wR ?_;refine wN 4 ?_;refine wR ?_;refine wN 11 ?_;refine wNm 22 λc22 h22=>?_
 have hc:c22=true:=by
  rw[<-h22]
  by_cases h1:x.client<0
  ·simp[h1]
  ·simp[h1];omega
 clear h22;refine Fe ?_ (hb:=hc);refine wCg ?_ func23 (hf:=hwo);refine af (av 5) (wn ?_);refine wT ?_;rfl
theorem Mf {B T:Nat} (w:Wor) (h:WInv B T w) (hB:B<=30000000) (hT:T<=800000000000) (x:Step) (hp:x.path.length<=10000000) (hq:x.toPath.length<=10000000) (hb:¬(x.client<0\/x.client≥w.cs.length)):Fo 28 [.agg (aV w),.agg (ZX x)] (jW (au w x)):=by
 have h3:=h.len;obtain ⟨k,cl,n,path,toPath,data⟩:=x;simp only at hb hp hq;obtain ⟨j,rfl⟩:∃j:Nat,cl=(j:Int):=⟨cl.toNat,by omega⟩;have hj:j<w.cs.length:=by omega
 have hu:=h.at hj;have hwo:=Hr w h.srv.hist.bR.small (h.srv.Av z8) (h.kB hB) z8;have hst:=Lp (w.cs.getD j default) w.s hu hB hT ⟨k,j,n,path,toPath,data⟩ hp hq;have hinv:=nr hu ⟨k,j,n,path,toPath,data⟩;have hW:au w ⟨k,j,n,path,toPath,data⟩=⟨⟨(al ⟨w.cs.getD j default,w.s⟩ ⟨k,j,n,path,toPath,data⟩).u.s,(w.cs.set j (al ⟨w.cs.getD j default,w.s⟩ ⟨k,j,n,path,toPath,data⟩).u.c).map (bq (al ⟨w.cs.getD j default,w.s⟩ ⟨k,j,n,path,toPath,data⟩).u.s.tree)⟩,(al ⟨w.cs.getD j default,w.s⟩ ⟨k,j,n,path,toPath,data⟩).r⟩:=by
  unfold au;rw[if_neg hb];rfl
 have hcx:∀i,i<w.cs.length->SmallK (w.cs.getD i default).cache:=λi hi=>(h.kB hB _ (YG hi)).cache
 have hg0:=Fam.getD (f:=ZC) hj;rw[hW];generalize w.cs.getD j default=c0 at hst hinv hg0 ⊢;generalize al ⟨c0,w.s⟩ ⟨k,j,n,path,toPath,data⟩=g at *;have hcg:SmallK g.u.c.cache:=(hinv.cli.kB z8).cache;have hts:=hinv.srv.hist.bR.small;have hfr0:=λl hl=>tP l g.u.s.tree hl hts
 -- the clients, with the one that stepped
 have hcs:∀i,i<(w.cs.set j g.u.c).length->SmallK ((w.cs.set j g.u.c).getD i default).cache:=λi hi=>by
  rw[YN] at hi;rw[Xq,YM]
  by_cases e:j=i
  ·subst e;rw[if_pos rfl,if_pos hi];exact hcg
  ·rw[if_neg e,<-Xq];exact hcx i hi
 have hsetj:(w.cs.map ZC).set j (ZC g.u.c)=(w.cs.set j g.u.c).map ZC:=(List.map_set).symm;have hlen:(w.cs.set j g.u.c).length=w.cs.length:=YN;have hfin:sh g.u.s.tree (w.cs.set j g.u.c) (w.cs.set j g.u.c).length=(w.cs.set j g.u.c).map (bq g.u.s.tree):=by unfold sh;rw[W4,List.drop_length,List.append_nil]
 rw[<-hfin,hlen];clear hfin;generalize w.cs.set j g.u.c=cs at *;have hD0:sh g.u.s.tree cs 0=cs:=by unfold sh;simp
 have hDl:=λi=>@Ha g.u.s.tree cs i
 have hDg:=λi=>@G' g.u.s.tree cs i
 have hDs:=λi=>@EN g.u.s.tree cs i
 generalize sh g.u.s.tree cs=D at *;unfold gU ZC ZQ ZX bc at hst;simp only[ZC] at hsetj;have hg1:=hg0;simp only[Xq,W2,ZC] at hg1;unfold aV at hwo;unfold jW aV ZX bc;refine wS func28 ntmps28 results28 λC=>?_
 refine wR ?_;refine wN 4 ?_;refine wR ?_;refine wN 11 ?_;refine wNm 22 λc22 h22=>?_
 have hc:c22=false:=by
  rw[<-h22];have h1:¬((j:Int)<0):=by omega
  simp[h1];omega
 clear h22;refine nt ?_ (hb:=hc);refine wCG ?_ [] 100 func23 (hf:=hwo);refine wGS ?_;refine sNq 9 ?_ ?_ z6 z6 (by simp only[go_sem,hg0,ZC];try exact rfl)
 ·simp[hg0,hj,ZC]
 refine sC ?_ func42 (hf:=hst);refine sN 4 ?_;refine sW ?_;refine sW ?_;refine sW ?_;refine sT ?_;refine sT ?_;refine sT ?_;refine wX ?_;refine wGS ?_;refine sNq 7 ?_ ?_
 ·simp[hj]
 refine ey tK rfl rfl z7 z7 z7 p7 z6 ?_ z6 z6 z6 ?_
 ·simp[hj]
 refine sN 1 ?_;refine sT ?_;refine wXG ?_;refine wL w.cs.length (λi=>(10,.any)::(11,.any)::(53,.int .i64 i)::u0 54 22 [])
  (λi=>[(122,.cells 47 10 ((D i).map ZC))]) ?_ λi hi=>?_
 ·rw[hD0];simp only[go_sem];exact ZU w3 (by simp[go_sem,hg1,hsetj]) w3
 simp only[go_sem];refine wGD (λh=>?_) (λh=>?_)
 ·have hlt:i<cs.length:=by simp at h;omega
  have hw1:=wi1 (i:=i) z8;have hDl:=hDl i;have hat:=hDg i hlt;have aG:=hDs i hlt;have hcc:=hcs i hlt;generalize D i=E at *;have hE:i<E.length:=by omega
  have hg:=Fam.getD (f:=ZC) hE;rw[hat] at hg;generalize cs.getD i default=c at *;have hg2:=hg;simp only[Xq,W2,ZC] at hg2;have hs1:(E.map ZC).set i (ZC (bq g.u.s.tree c))=(D (i+1)).map ZC:=by rw[aG];exact (List.map_set).symm
  have hl1:(D (i+1)).length=E.length:=by rw[aG,YN]
  refine wGq ?_ ?_ p9
  ·simp[hg,ZC,hE];omega
  cases ha:c.away with
  | true=>
   have hfw:bq g.u.s.tree c=c:=by unfold bq;simp[ha]
   rw[hfw,<-hat,Xq,Wz hE,Option.getD_some,List.set_getElem_self] at aG;refine wDF ?_ (hb:=Zc);refine wG ?_ k8 p8;exact ZB ⟨i+1,by omega,by omega,ZU w3 (by simp[go_sem,aG]) w3⟩
  | false=>
   have hfw:bq g.u.s.tree c={ c with cache:=c.cache.filter λk=>!bN g.u.s.tree k }:=by unfold bq mH;simp[ha]
   rw[hfw] at hs1;simp only[ZC] at hs1;refine wDT ?_ (hb:=Zc);refine wGS ?_;refine sNq 7 ?_ ?_ z6 z6 p9
   ·simp[hg,ZC,hE]
   refine sC ?_ func43 (hf:=hfr0 _ hcc);refine sNq 2 ?_ ?_ z6 z6 p9
   ·simp[hg,ZC,hE]
   refine ey tK rfl rfl z7 z7 z7 p7 z6 ?_ z6 z6 z6 ?_
   ·simp[hg,ZC,hE]
   refine wX ?_;refine wG ?_ k8 p8;exact ZB ⟨i+1,by omega,by omega,ZU w3 (by simp[go_sem,hg2,hs1]) w3⟩
 ·obtain rfl:=eq1 hi h;have hZ:=hDl w.cs.length;generalize D w.cs.length=Z at *;have hle:w.cs.length<=Z.length:=by omega
  have htk:List.take w.cs.length (Z.map ZC)=Z.map ZC:=W1 k6;refine ZZ 122 rfl (im _) ?_;simp only[go_sem,hle,if_true,htk];refine wGS ?_;refine sN 2 ?_;refine sT ?_;refine sT ?_;refine wX ?_;refine wGT ?_;rfl
theorem Mg {B T:Nat} (w:Wor) (h:WInv B T w) (hB:B<=30000000) (hT:T<=800000000000) (x:Step) (hp:x.path.length<=10000000) (hq:x.toPath.length<=10000000):Fo 28 [.agg (aV w),.agg (ZX x)] (jW (au w x)):=by
 by_cases hb:x.client<0\/x.client≥w.cs.length
 ·exact KQ w h hB x hb
 ·exact Mf w h hB hT x hp hq hb
theorem Gq (id:Nat) {C:Ctx} {σ:St} {b:Blk} {H':List (Nat×Blk)} (hb:aa σ.hp id=some b) (hH:dT σ.hp id=H'):Le C σ ⟨σ.tm,(id,b)::H'⟩:=by
 subst hH;refine jO rfl (λ_=>rfl) λj=>?_
 simp only[aa,bB]
 by_cases h:id=j
 ·subst h;rw[if_pos rfl];exact hb
 ·rw[if_neg h,if_neg h]
noncomputable def mF (rooms:List Int) (l:List Step):AV:=.tup [.sl ((lz rooms l).map aq),.int .i64 (jN rooms l)]
theorem F2 (rooms:List Int) (hr:rooms.length<=100000000) (l:List Step) (hl:l.length<=100000000) (he:jN rooms l≠0):Fo 30 [.sl (rooms.map ZI),.sl (l.map ZX)] (mF rooms l):=by
 have hn:=Dw rooms hr;unfold nY at hn;have hE:jN rooms l=if bl rooms≠0 then bl rooms else if 80<l.length then 5 else 0:=rfl;unfold mF lz;rw[if_neg he];generalize jN rooms l=e at *;generalize hW0:(if bl rooms=0 then gr rooms else p_)=W0 at *;generalize bl rooms=E at *;unfold aV at hn;refine aj.jb (X:=.tup [.nils,.int .i64 e]) ?_ rfl;refine wSG func30 ntmps30 results30 λC=>?_
 refine wCg ?_ func17 (hf:=hn)
 by_cases h0:E=0
 ·subst h0;rw[if_neg w8] at hE;have h80:80<l.length:=by
   by_cases h8:80<l.length
   ·exact h8
   ·rw[if_neg h8] at hE;exact absurd hE he
  rw[if_pos h80] at hE;subst hE;refine wFG ?_ (hb:=w8);refine wDT ?_ (hb:=k6);refine wGT ?_;rfl
 ·rw[if_pos h0] at hE;subst hE;refine wDT ?_ (hb:=Q3);refine wGT ?_;rfl
theorem DN (rooms:List Int) (hr:rooms.length<=100000000) (l:List Step) (hl:StepsOK l) (he:jN rooms l=0):Fo 30 [.sl (rooms.map ZI),.sl (l.map ZX)] (mF rooms l):=by
 have hn:=Dw rooms hr;unfold nY at hn;obtain ⟨hE,hll⟩:=oE he;unfold mF lz;rw[if_pos he,he];rw[hE,if_pos rfl] at hn;have hrl:rooms.length<=3:=by
  unfold bl at hE;split at hE
  ·cases hE
  ·omega
 have hG:=λi hi=>rq hE l i hi
 have hS:=λi (hi:i<=l.length)=>pg hE l hll i hi
 have hN:=λi=>@Bv rooms l i
 have hs:=λi=>@rr rooms l i
 have h0:dC rooms l 0=⟨gr rooms,⟨[],List.replicate rooms.length []⟩,0⟩:=rfl;rw[show ly rooms l=dC rooms l l.length by unfold dC;rw[W4]];generalize dC rooms l=F at *;unfold aV at hn;refine wSG func30 ntmps30 results30 λC=>?_
 refine wCg ?_ func17 (hf:=hn);refine wFG ?_ (hb:=w8);refine wDF ?_ (hb:=k6);refine wR ?_;refine wN 2 ?_;refine bE rfl (uU tK rfl rfl rfl j8 (n:=(rooms.length)) z7 (by simp[go_sem]<;>omega) z8 z7) ?_;refine wG ?_;refine af (av 30 (rows':=(List.replicate rooms.length ([]:List Nat)).map aS) z6 (by rw[List.map_replicate,List.map_replicate];rfl)) (wn ?_);refine af (le_empty 901 76 4 z7) (wn ?_);refine af (i_ 32 ([[.osl 901 4 0 0,.osl 30 1 0 rooms.length]]) z6 Qw) ?_;refine af (Gq 30 z6 j0) (wn ?_);refine wL l.length (λi=>u0 9 24 ((35,.int .i64 i)::u0 36 75 []))
  (λi=>[(30,.cells 40 1 ((F i).b.logs.map aS)),(901,.cells 76 4 ((F i).b.fates.map aq)),(32,.cells 103 2 [[.osl 901 4 0 (F i).b.fates.length,.osl 30 1 0 (F i).b.logs.length]]),(6,.cells 35 4 [aV (F i).w])]) ?_ λi hi=>?_
 ·unfold aV;rw[h0];exact wZ
 unfold aV;simp only[go_sem];refine wGD (λh=>?_) (λh=>?_)
 ·have hlt:=lt1 h;have hg:=Fam.getD (f:=ZX) hlt;have how':=wi1 (i:=i) z8;have hpx:=hl.path (l.getD i default) (YG hlt);have hs1:=hs i hlt;obtain ⟨hgk,hgi⟩:=hG i hi;have hS1:=hS i hi;have hN1:=hN i;rw[hgi] at hs1;generalize l.getD i default=x at *;generalize F i=g at *;obtain ⟨w,b,n⟩:=g;simp only at hgi hs1 hS1 hN1;subst hgi;have hI:=hgk.w;have hId:=hgk.ids;have hL:=hgk.li;simp only at hI hId hL;have hw:=Mg w hI z8 z8 x hpx.1 hpx.2;unfold jW aV ZX bc at hw;refine wR ?_;refine wNq 4 ?_ ?_ z6 z6 (by simp only[go_sem,hg,ZX];try exact rfl)
  ·simp[hg,ZX,hlt]
  refine wG ?_;refine wC ?_ func28 (hf:=hw);refine wR ?_;refine wN 7 ?_;refine wR ?_;refine wN 4 ?_;refine wN 7 ?_;refine wNm 56 λc56 h56=>?_
  have hc56:c56=decide (¬(x.client<0\/x.client≥w.cs.length)):=by
   rw[<-h56]
   by_cases h1:x.client<0
   ·simp[h1]
    try omega
   ·by_cases h2:x.client≥w.cs.length
    ·simp[h1,h2]
    ·simp[h1,h2]
     try omega
  clear h56
  by_cases hb:x.client<0\/x.client≥w.cs.length
  ·have hF:ef w n x b=b:=by unfold ef;rw[if_pos hb]
   rw[hF] at hs1;refine wG ?_;refine wDF ?_ (hb:=by rw[hc56];simp[hb]);refine wG ?_ y6 u3;exact ZB ⟨n+1,by omega,by omega,ZU Qc Zz Qc⟩
  ·obtain ⟨j,hcl⟩:∃j:Nat,x.client=(j:Int):=⟨x.client.toNat,by omega⟩;have hj:j<w.cs.length:=by omega
   have hjn:x.client.toNat=j:=by omega
   have hwc:=sU hb;rw[hjn] at hwc;have hgr:=hI.at hj;have hI2:=lh hI x;have hls:=(yy ⟨w.cs.getD j default,w.s⟩ x).trans (tO (al ⟨w.cs.getD j default,w.s⟩ x).u.s.tree _);rw[<-hwc.at_] at hls;have hylen:=hwc.len;have hF:ef w n x b=if x.kind=8 then rh j (aw ⟨w.cs.getD j default,w.s⟩) b else if (w.cs.getD j default).away=true then bT n j (w.cs.getD j default) ((au w x).w.cs.getD j default) b else jD n ((au w x).w.s.past.drop w.s.past.length) b:=by
    unfold ef;rw[if_neg hb,hjn]
   have hyc:=hI2.cli ((au w x).w.cs.getD j default) (YG (by rw[hylen];exact hj));have hyp:=hI2.srv.len;have hgp:w.s.past.length<=(au w x).w.s.past.length:=by
    obtain ⟨q,hq⟩:=(oN hgr x).past;have h1:=MI hb;rw[hjn] at h1;rw[h1,hq,List.length_append];exact Nat.le_add_right _ _
   rw[hF] at hs1;clear hF hwc;generalize au w x=y at *;have hg0:=Fam.getD (f:=ZC) hj;have hg1:(y.w.cs.map ZC).getD j []=ZC (y.w.cs.getD j default):=Fam.getD z8;have hnum:=hN1 j hj;have hidc:=hId.ids (w.cs.getD j default) (YG hj);have hle:=hL.each j hj;have hla:=λk hk=>(hL.at_ j hj k hk).1
   have hll1:=hL.len;have hcs3:=hI.len;have hwp:=hI.srv.len;generalize hc0:w.cs.getD j default=c0 at *;generalize y.w.cs.getD j default=c1 at *;have hsc:=hgr.cli.kB z8;have hfit:∀r,r∈c0.log->ActFit r.act:=λr hr=>(hgr.cli.logS r hr).fit
   have hlog:=hgr.cli.log;simp only at hlog;refine wG ?_;refine wDT ?_ (hb:=by rw[hc56];simp[hb]);simp only[hcl];refine wGS ?_;refine sNq 12 ?_ ?_ z6 z6 (by simp only[go_sem,hg0,hg1];try exact rfl)
   ·simp[hg0,hg1,hj,hylen,ZC]
   refine wXG ?_
   by_cases h8:x.kind=8
   ·rw[if_pos h8] at hs1;have htk:=Du w.s (hI.srv.mono z8) (j:Int) c0.log hsc.log z8 hfit;have hvl:(aw ⟨c0,w.s⟩).length=c0.log.length:=(JInv.pt hI.srv.hist c0.number w.s.next c0.log hfit).vlen;have hbk:=λG Y N=>Gn b j (aw ⟨c0,w.s⟩) z8 z8 z8 z8 hla z8 G Y N
    unfold aw at hbk hs1 hvl;generalize (bM w.s.tree w.s.next ((w.s.past.length+1:Nat):Int) c0.log).vs=vs at *;generalize jU w.s (j:Int) c0.log=s2 at *;unfold ZQ at htk;unfold bkH bkB at hbk;refine wDT ?_ (hb:=by simp[h8]);refine wGS ?_;refine sN 8 ?_ z6 z6 (by simp only[go_sem,ZC];try exact rfl) (by simp[go_sem,ZC]);refine sC ?_ func45 (hf:=htk);refine sN 3 ?_;refine sW ?_;refine sT ?_;refine sG ?_;refine wXG ?_;refine bE rfl (oO rfl z7 w3 ⟨_,func46,by kernel_rfl,rfl⟩ [32] [30,901] [30,901] w6 w3 w3 w8 w3 w3 w3 w3 (hbk) w7) ?_;refine wG ?_ y6 u3;exact ZB ⟨n+1,by omega,by omega,ZU Qc Zz Qc⟩
   ·rw[if_neg h8] at hs1;refine wDF ?_ (hb:=by simp[h8]);refine wG ?_ (by simp only[go_sem,ZC];try exact rfl) (by simp[go_sem,ZC])
    by_cases ha:c0.away=true
    ·rw[if_pos ha] at hs1;have hlg:=λG Y N=>BP b n j c0 c1 hnum z8 z8 hle hla z8 hidc hls z8 (by have:=hyc.log;omega) (by have:=hyc.logged;omega) G Y N
     unfold ZC bkH bkB at hlg;refine wTG ?_ (hb:=Zc);refine bE rfl (oO rfl z7 w3 ⟨_,func47,by kernel_rfl,rfl⟩ [32] [30,901] [30,901] w6 w3 w3 w8 w3 w3 w3 w3 (hlg) w7) ?_;refine wG ?_ y6 u3;exact ZB ⟨n+1,by omega,by omega,ZU Qc Zz Qc⟩
    ·rw[if_neg ha] at hs1;have hgw:=λG Y N=>D8 b n (y.w.s.past.drop w.s.past.length) (by rw[YX];omega) z8 G Y N
     rw[List.map_drop] at hgw;unfold bkH bkB at hgw;refine wDF ?_ (hb:=Zc);refine wGq ?_ ?_
     ·simp[hgp];exact λa _=>rfl
     refine bE rfl (oO rfl z7 w3 ⟨_,func48,by kernel_rfl,rfl⟩ [32] [30,901] [30,901] w6 w3 w3 w8 w3 w3 w3 w3 (hgw) w7) ?_;refine wG ?_ y6 u3;exact ZB ⟨n+1,by omega,by omega,ZU Qc Zz Qc⟩
 ·obtain rfl:=eq1 hi h;generalize F l.length=g at *;refine wG ?_;refine ZZ 901 rfl (xF _) (wn ?_);refine wT ?_;rfl
theorem tH (rooms:List Int) (hr:rooms.length<=100000000) (l:List Step) (hl:StepsOK l):Fo 30 [.sl (rooms.map ZI),.sl (l.map ZX)] (mF rooms l):=by
 have:=hl.len
 by_cases he:jN rooms l=0
 ·exact DN rooms hr l hl he
 ·exact F2 rooms hr l z8 he
def l12:List Step:=[⟨4,0,0,[47,100],[],[]⟩,⟨2,0,0,[47],[],[]⟩,⟨7,0,0,[],[],[]⟩,⟨4,0,0,[47,101],[],[]⟩,⟨5,0,0,[47,101],[],[]⟩,⟨4,0,0,[47,102],[],[]⟩]
theorem LB:(ly [5] l12).b.fates=[⟨0,0,2,1⟩,⟨3,0,2,4⟩,⟨4,0,4,4⟩,⟨5,0,2,2⟩]:=by kernel_rfl
theorem KZ:jN [5] l12=0:=by kernel_rfl
theorem IP:Fo 30 [.sl ([5].map ZI),.sl (l12.map ZX)] (.tup [.sl ([⟨0,0,2,1⟩,⟨3,0,2,4⟩,⟨4,0,4,4⟩,⟨5,0,2,2⟩].map aq),.int .i64 0]):=by
 have h:=tH [5] j8 l12 ⟨by decide,λx hx=>by
  simp only[l12,List.mem_cons,List.not_mem_nil,or_false] at hx
  rcases hx with rfl | rfl | rfl | rfl | rfl | rfl<;>exact ⟨by decide,by decide⟩⟩
 unfold mF lz at h;rw[if_pos KZ,KZ,LB] at h;exact h
theorem JE:Fo 44 [.agg (aV (gr [4]))] (.bool true):=by
 have hI:=yb (rooms:=[4]) rfl;have:=G2 hI.srv.hist j8 (gr [4]).s.next (gr [4]).cs j8 λc hc=>by
  have hci:=hI.cli c hc;exact ⟨hci.len,λh=>(hci.here h).1,λh=>(hci.here h).2,hci.kB j8⟩
 exact this
theorem CO:Fo 29 [] (.bool true):=by
 have hf:=IP;have hm:=kh [4] j8;have hri:=JE;unfold nY at hm;rw[show bl [4]=0 from rfl,if_pos rfl] at hm;generalize gr [4]=W at *;unfold aV at hm hri;simp only[l12,ZX,List.map_cons,List.map_nil,ZI,aq] at hf hm;refine wSG func29 ntmps29 results29 λC=>?_
 refine af (av 13) ?_;refine ZZ 13 rfl (rfl) ?_;refine ZZ 6 rfl (rfl) (wn ?_);refine wCg ?_ func30 (hf:=hf);refine ZZ 18 rfl (rfl) (wn ?_);refine wC ?_ func18 (hf:=hm);refine wR ?_;refine wN 7 ?_;refine wR ?_;have e4:(((4:Nat):Int)==4)=true:=rfl;refine wN 7 ?_ z6 z6 QV Q5;refine wN 25 ?_ z6 z6 QV Q5;refine wN 1 ?_ z6 z6 QV Q5;refine bE z7 (uS tK rfl (tys:=[3,3,3,3]) w9 z7 z7 z6 (.inl ⟨rfl,rfl⟩)) ?_;simp only[go_sem];refine wN 3 ?_ z6 z6 Zq (by simp[go_sem,beq_self_eq_true,cond_true]);refine wCC ?_ func44 (hf:=λhb=>(hri));refine wGT ?_;rfl
theorem KO (rooms:List Int) (l:List Step) (hr:rooms.length<=100000000) (hl:StepsOK l) (he:jN rooms l≠0):Fo 8 [.sl (rooms.map ZI),.sl (l.map ZX)] (.bool true):=by
 have hf:=tH rooms hr l hl;unfold mF lz at hf;rw[if_neg he] at hf;have hm:=kh rooms hr;unfold nY at hm;have hll:=hl.len;have hE:jN rooms l=if bl rooms≠0 then bl rooms else if 80<l.length then 5 else 0:=rfl;generalize jN rooms l=e at *;generalize (if bl rooms=0 then gr rooms else p_)=W0 at *;generalize bl rooms=E at *;unfold aV at hm;refine wSG func8 ntmps8 results8 λC=>?_
 refine wCg ?_ func29 (hf:=CO);refine wFG ?_ (hb:=rfl);refine wCg ?_ func30 (hf:=hf);refine wCg ?_ func18 (hf:=hm)
 by_cases h0:E=0
 ·subst h0;rw[if_neg w8] at hE;have h80:80<l.length:=by
   by_cases h8:80<l.length
   ·exact h8
   ·rw[if_neg h8] at hE;exact absurd hE he
  rw[if_pos h80] at hE;subst hE;refine wFG ?_ (hb:=w8);refine wDT ?_ (hb:=k6);refine wGT ?_;rfl
 ·rw[if_pos h0] at hE;subst hE;refine wDT ?_ (hb:=Q3);refine wG ?_ Zq (by simp[go_sem,beq_self_eq_true,cond_true]);refine wT ?_;simp
theorem Hn (rooms:List Int) (l:List Step) (hr:rooms.length<=100000000) (hl:StepsOK l) (he:jN rooms l=0):Fo 8 [.sl (rooms.map ZI),.sl (l.map ZX)] (.bool true):=by
 have hf:=tH rooms hr l hl;have hlenA:=Bu rooms l;unfold mF lz at hf;unfold lz at hlenA;rw[if_pos he] at hf hlenA;rw[he] at hf;have hm:=kh rooms hr;unfold nY at hm;have hll:=hl.len;obtain ⟨hE,h80⟩:=oE he;rw[hE] at hm;have hb:=Es rooms hr l hl;have hB:Bl rooms l=ll rooms l:=by unfold Bl;rw[if_pos hE]
 have hI:=FA hE l;rw[hB] at hb hI;have hL:=Ip hE l;generalize (ly rooms l).b=bk at *;obtain ⟨a,lg⟩:=bk;simp only at hf hlenA;have hc1:=hL.c1;have hc2:=hL.c2;have hc3:=hL.c3;have hea:=hL.each;simp only at hc1 hc2 hc3 hea;clear hL;generalize ll rooms l=W at *;generalize (if (0:Int)=0 then gr rooms else p_)=W0 at *;unfold aV at hm hb;have hp:=hI.srv.len;have hcl:=hI.len;have hM0:atM a 0=[]:=rfl;have hMs:=λi=>@Fu a i
 have hMl:=Ir λf hf=>(hea f hf).whr
 have hMg:=Iq a;have hMb:=Dz a;have hz:=FG λf hf=>(hea f hf).whr
 generalize atM a=M at *;refine wSG func8 ntmps8 results8 λC=>?_
 refine wCg ?_ func29 (hf:=CO);refine wFG ?_ (hb:=rfl);refine wCg ?_ func30 (hf:=hf);refine wCg ?_ func18 (hf:=hm);refine wFG ?_ (hb:=w8);refine wFG ?_ (hb:=k6);refine wCg ?_ func31 (hf:=hb);refine wL a.length (λi=>(11,.any)::(55,.int .i64 i)::u0 56 40 [])
  (λi=>[(52,.map (mI (M i)))]) ?_ λi hi=>?_
 ·rw[hM0];simp only[go_sem];exact ZU w3 (by simp[go_sem,mI]) w3
 simp only[go_sem];refine wGD (λh=>?_) (λh=>?_)
 ·have hlt:=lt1 h;have how':=wi1 (i:=i) z8;have hg:=Fam.getD (f:=aq) hlt;have hfo:=hea _ (YG hlt);have hs1:=hMs i hlt;have hb1:=hMb i (a.getD i default).whr;generalize a.getD i default=f at *;have hwc:IntKind.i64.wrap (f_ (M i) f.whr+1)=f_ (M i) f.whr+1:=Eng.wrap_small z8 z8;generalize M i=m at *;obtain ⟨k,hk⟩:∃k:Nat,f.step=(k:Int):=⟨f.step.toNat,by have:=hfo.step;omega⟩;have hkl:k<l.length:=by have:=hfo.step;omega
  have hgs:=Fam.getD (f:=ZX) hkl;have hcx:f.client=(l.getD k default).client:=by have:=hfo.client;rw[hk] at this;exact this
  generalize l.getD k default=x at *;have hg2:(a.map aq).getD i []=[.int .i64 (k:Int),.int .i64 x.client,.int .i64 f.kind,.int .i64 f.whr]:=by rw[hg];unfold aq;rw[hk,hcx]
  refine wR ?_;refine wNq 4 ?_ ?_ z6 z6 (by simp only[go_sem,hg2];try exact rfl)
  ·simp[hg2,hlt]
  have e1:decide ((k:Int)<0)=false:=decide_eq_false z8;have e2:decide ((k:Int)≥(l.length:Int))=false:=decide_eq_false z8;have e3:decide (f.kind<1)=false:=decide_eq_false (by have:=hfo.kind;omega);have e4:decide (f.kind>5)=false:=decide_eq_false (by have:=hfo.kind;omega);have hgx:((l.map ZX).getD k []).getD 1 AV.any=.int .i64 x.client:=by rw[hgs];rfl
  refine wG ?_ (by simp only[go_sem,hwc,cond_false,cond_true];try exact rfl) (by simp[go_sem,hwc,cond_false,cond_true]);refine wO ?_;refine sNq 11 ?_ ?_ z6 z6 (by simp only[go_sem,e1,e2,bne_self_eq_false,cond_true,cond_false];try exact rfl)
  ·simp
  refine sNq 10 ?_ ?_ z6 z6 (by simp only[go_sem,e1,e2,hgs,ZX,bne_self_eq_false,cond_true,cond_false];try exact rfl)
  ·simp[hgs,ZX,hkl]
  refine sNq 10 ?_ ?_ z6 z6 (by simp only[go_sem,e3,e4,bne_self_eq_false,cond_true,cond_false];try exact rfl)
  ·simp
  refine wXG ?_;refine wDF ?_ (hb:=w8);refine wG ?_ y6 u3;exact ZB ⟨i+1,by omega,by omega,ZU w3 Qc w3⟩
 ·obtain rfl:=eq1 hi h;have g1:(f_ (M a.length) 1==(W.s.past.length:Int))=true:=by rw[hMg,hc1];exact beq_self_eq_true _
  have g2:(f_ (M a.length) 2==(qW (λc=>c.log.length) W.cs W.cs.length:Int))=true:=by rw[hMg,hc2,A4];exact beq_self_eq_true _
  have g3:(f_ (M a.length) 3==(qW (λc=>c.repair.length) W.cs W.cs.length:Int))=true:=by rw[hMg,hc3,A4];exact beq_self_eq_true _
  have g4:decide (((mI (M a.length)).length:Int)<=4)=true:=decide_eq_true (by unfold mI;rw[List.length_map];omega);have g5:(f_ (M a.length) 0==0)=true:=by rw[hMg,hz];rfl
  have hL0:qW (λc:Cli=>c.log.length) W.cs 0=0:=rfl;have hR0:qW (λc:Cli=>c.repair.length) W.cs 0=0:=rfl;have hLs:=λi=>@qX (λc:Cli=>c.log.length) W.cs i
  have hRs:=λi=>@qX (λc:Cli=>c.repair.length) W.cs i
  have hLb:=yC (f:=λc:Cli=>c.log.length) (cs:=W.cs) (M:=20) λc hc=>(hI.cli c hc).log
  have hRb:=yC (f:=λc:Cli=>c.repair.length) (cs:=W.cs) (M:=1600) λc hc=>by have:=(hI.cli c hc).rep;show c.repair.length<=1600;omega
  generalize qW (λc:Cli=>c.log.length) W.cs=L at *;generalize qW (λc:Cli=>c.repair.length) W.cs=R at *;generalize M a.length=m at *;refine wG ?_;refine wL W.cs.length (λi=>(12,.int .i64 (L i:Nat))::(13,.int .i64 (R i:Nat))::(15,.any)::(99,.int .i64 i)::u0 100 14 [])
   (λi=>[]) ?_ λi hi=>?_
  ·rw[hL0,hR0];exact wZ
  simp only[go_sem];refine wGD (λh=>?_) (λh=>?_)
  ·have hlt:=lt1 h;have how':=wi1 (i:=i) z8;have hg:=Fam.getD (f:=ZC) hlt;have hcl2:=hI.cli _ (YG hlt);have hLs:=hLs i hlt;have hRs:=hRs i hlt;have hLb:=hLb i hi;have hRb:=hRb i hi;generalize W.cs.getD i default=c at *;have h20:=hcl2.log;have hrp:=hcl2.rep;have hwl:IntKind.i64.wrap ((L i:Int)+(c.log.length:Int))=((L (i+1):Nat):Int):=by rw[hLs,Eng.wrap_small z8 z8];rfl
   have hwr:IntKind.i64.wrap ((R i:Int)+(c.repair.length:Int))=((R (i+1):Nat):Int):=by rw[hRs,Eng.wrap_small z8 z8];rfl
   refine wR ?_;refine wNq 3 ?_ ?_ z6 z6 p9
   ·simp[hg,ZC,hlt]
   refine wG ?_ (by simp only[go_sem,hwl,hwr,how'];try exact rfl) (by simp[go_sem,hwl,hwr,how']);exact ZB ⟨i+1,by omega,by omega,ZU w3 w3 w3⟩
  ·obtain rfl:=eq1 hi h;refine wR ?_;refine wN 11 ?_ z6 z6 (by simp only[go_sem,g1,beq_self_eq_true,cond_true,cond_false];try exact rfl) (by simp[go_sem,g1,beq_self_eq_true,cond_true,cond_false]);refine wN 12 ?_ z6 z6 (by simp only[go_sem,g2,g3,cond_true,cond_false];try exact rfl) (by simp[go_sem,g2,g3,cond_true,cond_false]);refine wN 11 ?_ z6 z6 (by simp only[go_sem,g4,g5,cond_true,cond_false];try exact rfl) (by simp[go_sem,g4,g5,cond_true,cond_false]);refine wGT ?_;rfl
theorem KP (rooms:List Int) (l:List Step) (hr:rooms.length<=100000000) (hl:StepsOK l):Fo 8 [.sl (rooms.map ZI),.sl (l.map ZX)] (.bool true):=by
 by_cases he:jN rooms l=0
 ·exact Hn rooms l hr hl he
 ·exact KO rooms l hr hl he
end La
