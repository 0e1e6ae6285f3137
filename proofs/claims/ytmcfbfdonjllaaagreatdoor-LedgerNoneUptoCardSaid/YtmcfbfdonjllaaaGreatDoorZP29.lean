/- Texts of this claim, part 29: RGo, RHoard, RAdd2. No condition. -/
import Derived.Test.YtmcfbfdonjllaaaGreatDoorZP28
set_option maxRecDepth 10000
set_option maxHeartbeats 4000000
set_option linter.unusedSimpArgs false
set_option linter.unusedVariables false
namespace La
open Go Go.Eng Go.Proofs Go.Proofs.Tryz
variable {Fa:Prop}
@[go_sem,simp] theorem uR (u:U):aA (bt u)=[]:=rfl
@[go_sem,simp] theorem K3 (u:U):(bt u).length=13:=rfl
structure NodeOK (n:Node):Prop where
 eup:EUp n.entries
 ent:n.entries.length<=6
 data:n.data.length<=20
theorem NodeOK.small {n:Node} (h:NodeOK n):n.Small:=⟨by have:=h.data;omega,by have:=h.ent;omega⟩
theorem NodeOK.zero:NodeOK aw:=⟨List.Pairwise.nil,by simp[aw],by simp[aw]⟩
theorem kP {l:List Kept} {f:Int} {n:Node} (h:dV l f=some n):∃k,k∈l/\k.node=n/\n.fid=f:=by
 unfold dV at h;obtain ⟨k,hk,rfl⟩:=YX.1 h;exact ⟨k,List.mem_of_find?_eq_some hk,rfl,by simpa using List.find?_some hk⟩
theorem jj {B T:Nat} {u:U} (h:UInvF Fa B T u) (f w:Int):NodeOK (bd u f w).n:=by
 unfold bd;split
 ·rename_i n hn;obtain ⟨k,hk,rfl,_⟩:=kP hn;exact ⟨h.cli.eup k hk,h.cli.ent k hk,h.cli.data k hk⟩
 ·split
  ·exact .zero
  ·split
   ·exact .zero
   ·rename_i n hn;have hm:=((ZO h.srv.hist.bs.up).1 hn).1;exact ⟨(h.srv.hist.whole.loc n hm).eup,h.srv.hist.bs.ent n hm,h.srv.hist.bs.data n hm⟩
theorem zg {B:Nat} (w:Int):∀(l:List (List UInt8)) (T:Nat) (g:Got),UInvF Fa B T g.u->NodeOK g.n->NodeOK (goR w l g).n
 | [],T,g,h,hn=>by
  unfold goR;split
  ·exact hn
  ·exact .zero
 | s::r,T,g,h,hn=>by
  unfold goR;split
  ·exact .zero
  ·split
   ·exact .zero
   ·split
    ·exact .zero
    ·rename_i f _;exact zg w r (T+1) _ (bZ h f w) (jj h f w)
theorem pk {B T:Nat} {u:U} (h:UInvF Fa B T u) (l:List (List UInt8)) (w:Int):NodeOK (goU u l w).n:=zg w l (T+1) _ (bZ h 0 w) (jj h 0 w)
theorem jf {B T:Nat} {u:U} (h:UInvF Fa B T u) (path:List UInt8):NodeOK (ah u path).n:=by
 unfold ah;split
 ·exact .zero
 ·split
  ·exact .zero
  ·exact pk h _ 0
theorem ur {B T:Nat} (u:U) (h:UInvF Fa B T u) (hB:B<=40000000) (hT:T<=900000000000) (l:List (List UInt8)) (hl:l.length<=1000) (hls:∀x,x∈l->x.length<=1000) (worth:Int) (G Y N:Nat->Nat):ai prog 58 [.ptr 900 13 0 0,.sl (l.map aZ),.int .i64 worth] (uH u G Y N)
  (λr H=>r=iG (goU u l worth)/\Holds (uH (goU u l worth).u G Y N) H):=by
 have hg0:=pO u h hB z8 0 worth;have hi0:=bZ h 0 worth;have hn0:=jj h 0 worth;have hgo:goU u l worth=goR worth l (bd u 0 worth):=rfl;unfold uH iG at hg0;unfold uH iG;generalize bd u 0 worth=g0 at *;generalize goU u l worth=gF at *;refine wSG func58 ntmps58 results58 λC=>?_
 refine af (au 6) (wn ?_);refine wP ?_ [900] func90 (hf:=hg0);refine wGq ?_ ?_ w5
 ·simp[ZN]
 refine ZL (λq:List (List UInt8)×Got=>gF=goR worth q.1 q.2/\q.1.length<=l.length/\(∀x,x∈q.1->x.length<=1000)/\UInvF Fa B (T+1+(l.length-q.1.length)) q.2.u/\NodeOK q.2.n) (λq=>q.1.length)
  (λq=>(1,.sl (q.1.map aZ))::(9,.int .i64 q.2.e)::u0 10 39 [])
  (λq=>[(900,.cells 121 13 [bt q.2.u]),(8,.cells 94 5 [ZN q.2.n])]) (l,g0) ⟨hgo,YA _,hls,by simpa using hi0,hn0⟩ ?_ λq hq=>?_
 ·simp only[go_sem];exact ZU w3 QT QT
 obtain ⟨r,g⟩:=q;obtain ⟨hgf,hrl,hrs,hui,hno⟩:=hq;simp only at hgf hrl hrs hui hno;simp only[go_sem];refine wR ?_;refine wN 7 ?_;refine wNm 24 λc24 h24=>?_
 have hc:c24=(decide (0<r.length)&&(g.e==0)):=by
  rw[<-h24];cases r<;>simp
 clear h24;refine wG ?_
 by_cases he:g.e=0
 ·cases r with
  | nil=>
   refine wFG ?_ (hb:=by simp[hc]);rw[hgf,goR,if_pos he];refine wDF ?_ (hb:=QB);refine wGq ?_ ?_ w5
   ·simp[ZN]
   refine wU ?_ ?_
   ·simp[ZN]
   ·exact q9
  | cons s r=>
   have hsl:=hrs s List.mem_cons_self;have hent:=jn g.n s (by have:=hno.ent;omega);rw[eh hno.eup] at hent;refine wDT ?_ (hb:=by simp[hc,he]);refine wG ?_ w5 QT;cases hd:g.n.dir with
   | false=>
    refine wTG ?_ (hb:=rfl);refine af (au 6) (wn ?_);refine wU ?_ ?_
    ·simp[hgf,goR,he,hd,ZN,aw]
    ·have e:gF.u=g.u:=by simp[hgf,goR,he,hd]
     rw[e];exact q9
   | true=>
    refine wDF ?_ (hb:=rfl);refine wGS ?_;refine sN 4 ?_ z6 z6 (by simp only[go_sem,aZ];try exact rfl) (by simp[go_sem,aZ]);unfold ZN at hent;rw[hd] at hent;cases hen:ba g.n s with
    | none=>
     rw[hen] at hent;refine sC ?_ func91 (hf:=hent);refine sG ?_;refine wXG ?_;refine wTG ?_ (hb:=rfl);refine af (au 6) (wn ?_);refine wU ?_ ?_
     ·simp[hgf,goR,he,hd,hen,ZN,aw]
     ·have e:gF.u=g.u:=by simp[hgf,goR,he,hd,hen]
      rw[e];exact q9
    | some f=>
     rw[hen] at hent;have hg1:=pO g.u hui hB z8 f worth;unfold uH iG at hg1;have hui2:=bZ hui f worth;have hno2:=jj hui f worth;have hgf2:gF=goR worth r (bd g.u f worth):=by rw[hgf,goR,if_neg QB,if_neg (by simp[hd]),hen]
     generalize bd g.u f worth=g2 at *;refine sC ?_ func91 (hf:=hent);refine sG ?_;refine wXG ?_;refine wFG ?_ (hb:=rfl);refine wP ?_ [900] func90 (hf:=hg1);refine wGq ?_ ?_ w5
     ·simp[ZN,aZ]
     refine ZB ⟨(r,g2),⟨hgf2,by simp only[List.length_cons] at hrl;simp only;omega,λx hx=>hrs x (List.mem_cons_of_mem _ hx),?_,hno2⟩,by simp,ZU ?_ ?_ ?_⟩
     ·simp only[List.length_cons] at hrl hui2 ⊢;exact hui2.mono (YA _) z8
     ·simp[go_sem]
     ·simp[go_sem,ZN]
     ·simp[go_sem,ZN]
 ·refine wFG ?_ (hb:=by simp[hc,he]);refine wTG ?_ (hb:=QB);refine af (au 6) (wn ?_);refine wU ?_ ?_
  ·rw[hgf];cases r<;>simp[goR,he,ZN,aw]
  ·rw[hgf];have e:(goR worth r g).u=g.u:=by cases r<;>simp[goR,he]
   rw[e];exact q9
theorem nf {B T:Nat} (u:U) (h:UInvF Fa B T u) (hB:B<=40000000) (hT:T<=900000000000) (path:List UInt8) (hp:path.length<=10000000) (G Y N:Nat->Nat):ai prog 60 [.ptr 900 13 0 0,.str path] (uH u G Y N)
  (λr H=>r=.tup [.agg (ZN (ah u path).n),.str (ah u path).name,.int .i64 (ah u path).e]/\Holds (uH (ah u path).u G Y N) H):=by
 have hsp:=jq path hp;have hsl:=cg path;have hdu:ah u path=if (ae path).2≠0 then ⟨aw,[],(ae path).2,u⟩
  else if (ae path).1.length=0 then ⟨aw,[],7,u⟩
  else ⟨(goU u ((ae path).1.take ((ae path).1.length-1)) 0).n,(ae path).1.getD ((ae path).1.length-1) [],
   if (goU u ((ae path).1.take ((ae path).1.length-1)) 0).e=0/\(goU u ((ae path).1.take ((ae path).1.length-1)) 0).n.dir=false then 8 else (goU u ((ae path).1.take ((ae path).1.length-1)) 0).e,
   (goU u ((ae path).1.take ((ae path).1.length-1)) 0).u⟩:=rfl
 generalize ah u path=dF at *;unfold cD at hsp;generalize ae path=S at *;obtain ⟨L,E⟩:=S;obtain ⟨hll,hlx⟩:=hsl;simp only at hdu hll hlx hsp;unfold uH;refine wSG func60 ntmps60 results60 λC=>?_
 refine af (au 4) (wn ?_);refine wCg ?_ func57 (hf:=hsp)
 by_cases hE:E=0
 ·refine wFG ?_ (hb:=j9);rw[if_neg j9] at hdu
  by_cases hL:L.length=0
  ·rw[if_pos hL] at hdu;refine wTG ?_ (hb:=by simp[hL]);refine af (au 4) (wn ?_);refine wU ?_ ?_
   ·rw[hdu];simp[ZN,aw]
   ·rw[hdu];exact q9
  ·rw[if_neg hL] at hdu;have hw:IntKind.i64.wrap ((L.length:Int)-1)=((L.length-1:Nat):Int):=by rw[Eng.wrap_small z8 z8];omega
   have hgo:=ur u h hB hT (L.take (L.length-1)) QG (λx hx=>by have:=(hlx x (YJ hx)).1;omega) 0;have hgl:(L.map aZ).getD (L.length-1) []=[.str (L.getD (L.length-1) [])]:=by
    have hi:L.length-1<L.length:=by omega
    rw[List.getD_eq_getElem?_getD,W5,List.getD_eq_getElem?_getD,W3 hi];rfl
   have hLlt:L.length-1<L.length:=by omega
   have htk:(L.map aZ).take (L.length-1)=(L.take (L.length-1)).map aZ:=List.map_take.symm;unfold uH iG at hgo;generalize goU u (L.take (L.length-1)) 0=g at *;refine wDF ?_ (hb:=by simp[hL]);refine wR ?_;refine wNq 6 ?_ ?_ z6 z6 (by simp only[go_sem,hw,htk];try exact rfl)
   ·simp[hw,htk];exact λ_ _=>rfl
   refine wP ?_ [900] func58 (hf:=hgo);refine wGq ?_ ?_ w5
   ·simp[ZN]
   by_cases hge:g.e=0
   ·cases hd:g.n.dir with
    | true=>
     have hdF:dF=⟨g.n,L.getD (L.length-1) [],g.e,g.u⟩:=by rw[hdu];simp[hd]
     rw[hdF];refine wDF ?_ (hb:=W2);refine wGS ?_;refine sN 7 ?_ z6 z6 p9 Qg;refine sN 1 ?_;refine sT ?_;refine sG ?_;refine wXG ?_;refine wU ?_ ?_
     ·first | (simp[ZN];done) | simp[ZN,hd]
     ·exact q9
    | false=>
     have hdF:dF=⟨g.n,L.getD (L.length-1) [],8,g.u⟩:=by rw[hdu];simp[hd,hge]
     rw[hdF];refine wTG ?_ (hb:=W2);refine wGS ?_;refine sN 7 ?_ z6 z6 p9 Qg;refine sN 1 ?_;refine sT ?_;refine sG ?_;refine wXG ?_;refine wU ?_ ?_
     ·first | (simp[ZN];done) | simp[ZN,hd]
     ·exact q9
   ·have hdF:dF=⟨g.n,L.getD (L.length-1) [],g.e,g.u⟩:=by rw[hdu];simp[hge]
    rw[hdF];refine wDF ?_ (hb:=x9);refine wGS ?_;refine sN 7 ?_ z6 z6 p9 Qg;refine sN 1 ?_;refine sT ?_;refine sG ?_;refine wXG ?_;refine wU ?_ ?_
    ·first | (simp[ZN];done) | simp[ZN,hd]
    ·exact q9
 ·rw[if_pos j9] at hdu;refine wTG ?_ (hb:=j9);refine af (au 4) (wn ?_);refine wU ?_ ?_
  ·rw[hdu];simp[ZN,aw]
  ·rw[hdu];exact q9
variable {Fa:Prop}
def ib (l:List Hoard) (path:List UInt8) (i:Nat):List Hoard:=ct (l.take i) path
theorem xA {l:List Hoard} (path:List UInt8) {i:Nat} (h:i<l.length):ib l path (i+1)=if ((l.getD i default).path==path)=true then ib l path i else ib l path i++[l.getD i default]:=by
 unfold ib ct;rw[ZT h,List.filter_append,List.filter_cons];cases ((l.getD i default).path==path)<;>simp
theorem Bn (l:List Hoard) (path:List UInt8) (i:Nat):(ib l path i).length<=i:=by
 have:=YB (λh:Hoard=>!(h.path==path)) (l.take i);unfold ib ct;rw[YF] at this;omega
theorem B0 {B T:Nat} (u:U) (h:UInvF Fa B T u) (path:List UInt8) (hp:path.length<=10000000) (w:Int) (G Y N:Nat->Nat):ai prog 64 [.ptr 900 13 0 0,.str path,.int .i64 w] (uH u G Y N)
  (λr H=>r=.int .i64 (de u path w).e/\Holds (uH (de u path w).u G Y N) H):=by
 have hsp:=jq path hp;have h6:=h.cli.hoards;have hW0:de u path w=if (ae path).2≠0 then ⟨(ae path).2,u⟩ else if w<0\/w>100 then ⟨3,u⟩
  else if 0<w/\(ct u.c.hoards path).length≥6 then ⟨5,u⟩
  else ⟨0,⟨{ u.c with hoards:=if 0<w then ct u.c.hoards path++[⟨path,w⟩] else ct u.c.hoards path },u.s⟩⟩:=rfl
 have hD0:ib u.c.hoards path 0=[]:=rfl;have hDs:=λi=>@xA u.c.hoards path i
 have hDn:=Bn u.c.hoards path;have hDe:ib u.c.hoards path u.c.hoards.length=ct u.c.hoards path:=by unfold ib;rw[W7]
 generalize ib u.c.hoards path=D at *;generalize de u path w=wF at *;unfold cD at hsp;generalize ae path=S at *;obtain ⟨L,E⟩:=S;simp only at hW0 hsp;unfold uH bt;refine wSG func64 ntmps64 results64 λC=>?_
 refine wCg ?_ func57 (hf:=hsp)
 by_cases hE:E=0
 ·rw[if_neg j9] at hW0;refine wDF ?_ (hb:=j9);refine wR ?_;refine wN 6 ?_;refine wNm 25 λc25 h25=>?_
  have hc:c25=true↔(w<0\/w>100):=by
   rw[<-h25];cases e1:decide (w<0)<;>simp at e1<;>simp[e1]<;>omega
  clear h25;refine wG ?_
  by_cases hwr:w<0\/w>100
  ·rw[if_pos hwr] at hW0;have hW:=hW0;refine wTG ?_ (hb:=hc.2 hwr);refine wU ?_ ?_
   ·rw[hW]
   ·rw[hW];exact q9
  ·rw[if_neg hwr] at hW0;refine wFG ?_ (hb:=by simpa using λh0=>hwr (hc.1 h0));refine af (le_empty 43 118 2 z7) (wn ?_);refine wL u.c.hoards.length (λi=>(9,.osl 43 2 0 (D i).length)::(11,.any)::(32,.int .i64 i)::u0 33 12 []) (λi=>[(43,.cells 118 2 ((D i).map ZJ))]) ?_ λi hi=>?_
   ·simp only[go_sem];rw[hD0];exact ZU w3 w3 w3
   simp only[go_sem];refine wGD (λh=>?_) (λh=>?_)
   ·have hlt:=lt1 h;have hg:=Fam.getD (f:=ZJ) hlt;have hw1:=wi1 (i:=i) z8;have htk:=hDs i hlt;have hll:=hDn i;generalize D i=Di at *;generalize u.c.hoards.getD i default=x at *;have htq:List.take Di.length (Di.map ZJ)=Di.map ZJ:=W4 w8;refine wGq ?_ ?_ Qm
    ·simp[hg,ZJ,hlt]
    cases hb:(x.path==path) with
    | true=>
     rw[hb,if_pos rfl] at htk;refine wDF ?_ (hb:=w8);refine wG ?_ k8 p7;exact ZB ⟨i+1,by omega,by omega,ZU j7 j7 w3⟩
    | false=>
     rw[hb,if_neg Bool.false_ne_true] at htk;refine wDT ?_ (hb:=w8);refine wGq ?_ ?_ k8
     ·simp[htq,refs];omega
     exact ZB ⟨i+1,by omega,by omega,ZU j7 (by simp[go_sem,htk,htq,ZJ]) w3⟩
   ·obtain rfl:=eq1 hi h;have hDl:=hDn u.c.hoards.length;rw[hDe] at hDl ⊢;generalize ct u.c.hoards path=F at *;have htq:List.take F.length (F.map ZJ)=F.map ZJ:=W4 w8;refine wR ?_;refine wN 7 ?_;refine wNm 51 λc51 h51=>?_
    have hc2:c51=true↔(0<w/\F.length≥6):=by
     rw[<-h51];cases e1:decide (w>0)<;>simp at e1<;>simp[e1]<;>omega
    clear h51;refine wG ?_
    by_cases hfl:0<w/\F.length≥6
    ·rw[if_pos hfl] at hW0;have hW:=hW0;refine wTG ?_ (hb:=hc2.2 hfl);refine wU ?_ ?_
     ·rw[hW]
     ·rw[hW];exact q9
    ·rw[if_neg hfl] at hW0;refine wFG ?_ (hb:=by simpa using λh0=>hfl (hc2.1 h0))
     by_cases hw0:0<w
     ·rw[if_pos hw0] at hW0;have hW:=hW0;refine wDT ?_ (hb:=Wt);refine wGq ?_ ?_
      ·simp[htq,refs];omega
      refine ZZ 59 rfl (by rw[List.all_append,ef];rfl) (wn ?_);have htq2:List.take (F.length+1) (F.map ZJ++[[AV.str path,AV.int .i64 w]])=(F++[(⟨path,w⟩:Hoard)]).map ZJ:=by rw[W4 w8,List.map_append];rfl
      rw[htq2];refine wU ?_ ?_
      ·rw[hW]
      ·rw[hW];exact q9
     ·rw[if_neg hw0] at hW0;have hW:=hW0;refine wDF ?_ (hb:=Wt);refine wR ?_;refine ZZ 43 rfl (ef _) ?_;simp only[go_sem,htq];refine wG ?_;refine wU ?_ ?_
      ·rw[hW]
      ·rw[hW];exact q9
 ·rw[if_pos j9] at hW0;have hW:=hW0;refine wTG ?_ (hb:=j9);refine wU ?_ ?_
  ·rw[hW]
  ·rw[hW];exact q9
theorem AT {u:U} {g:GotV} (h:Idle u g.u) (x:Hoard):Idle u (eB g x).u:=h.trans (eP g.u (ae x.path).1 x.worth)
structure VI (Fa:Prop) (B T:Nat) (u:U) (g:GotV) (k:Nat):Prop where
 inv:UInvF Fa B (T+42*k) g.u
 idle:Idle u g.u
 n:g.n<=k
theorem VI.mono {B T:Nat} {u:U} {g:GotV} {k m:Nat} (h:VI Fa B T u g k) (hm:k<=m):VI Fa B T u g m:=⟨h.inv.mono (YA _) z8,h.idle,Yn h.n hm⟩
theorem VI.step {B T:Nat} {u:U} {g:GotV} {k:Nat} (h:VI Fa B T u g k) (x:Hoard):VI Fa B T u (eB g x) (k+1):=by
 refine ⟨?_,AT h.idle x,?_⟩
 ·have:=uU h.inv x
  rwa [show T+42*k+42=T+42*(k+1) by omega] at this
 ·have:=h.n;unfold eB;simp only;split<;>omega
theorem Aw {B T:Nat} (u:U) (h:UInvF Fa B T u) (ha:u.c.away=true) (G Y N:Nat->Nat):ai prog 65 [.ptr 900 13 0 0] (uH u G Y N)
  (λr H=>r=.tup [.int .i64 0,.int .i64 12]/\Holds (uH u G Y N) H):=by
 unfold uH bt;refine wSG func65 ntmps65 results65 λC=>?_
 refine wTG ?_ (hb:=ha);refine wU ?_ ?_
 ·rfl
 ·exact q9
theorem Ax {B T:Nat} (u:U) (h:UInvF Fa B T u) (ha:u.c.away=false) (hB:B<=30000000) (hT:T<=800000000000) (G Y N:Nat->Nat):ai prog 65 [.ptr 900 13 0 0] (uH u G Y N)
  (λr H=>r=.tup [.int .i64 ((fb u).n:Int),.int .i64 0]/\Holds (uH (fb u).u G Y N) H):=by
 have h6:=h.cli.hoards;have hV:fb u=(bu u.c.hoards 100).foldl eB ⟨0,u⟩:=rfl;have h0:VI Fa B T u ⟨0,u⟩ 0:=⟨h,Idle.refl u,YA _⟩;generalize fb u=vF at *;unfold uH;refine wS func65 ntmps65 results65 λC=>?_
 refine wG ?_ Z3 Z0;refine wFG ?_ (hb:=ha);refine ZL (λq:Nat×GotV=>q.1<=100/\vF=(bu u.c.hoards q.1).foldl eB q.2/\VI Fa B T u q.2 (6*(100-q.1))) (λq=>q.1) (λq=>(4,.int .i64 (q.2.n:Int))::(5,.int .i64 (q.1:Int))::u0 6 48 [])
  (λq=>[(900,.cells 121 13 [bt q.2.u])]) (100,⟨0,u⟩) ⟨by omega,hV,h0.mono z8⟩ ?_ λq hq=>?_
 ·simp only[go_sem];exact ZU w3 Z0 w3
 obtain ⟨w,g⟩:=q;obtain ⟨hw1,hvf,hvi⟩:=hq;simp only at hw1 hvf hvi;simp only[go_sem];refine wG ?_;cases w with
 | zero=>
  refine wFG ?_ (hb:=w8);rw[bu,List.foldl_nil] at hvf;rw[hvf];refine wU ?_ ?_
  ·rfl
  ·exact q9
 | succ w=>
  have hho:=hvi.idle.hoards;refine wDT ?_ (hb:=w8);refine wG ?_ Z3 Z0;rw[hho];have hwp:IntKind.i64.wrap (((w+1:Nat):Int)-1)=((w:Nat):Int):=by rw[Eng.wrap_small z8 z8];omega
  rw[bu,List.foldl_append] at hvf;refine ZL (λq:Nat×GotV=>q.1<=u.c.hoards.length/\vF=(bu u.c.hoards w).foldl eB (((u.c.hoards.drop q.1).filter λh=>h.worth==((w+1:Nat):Int)).foldl eB q.2)/\VI Fa B T u q.2 (6*(100-(w+1))+q.1)) (λq=>u.c.hoards.length-q.1)
   (λq=>(4,.int .i64 (q.2.n:Int))::(27,.int .i64 (q.1:Int))::u0 7 5 (u0 28 25 [])) (λq=>[(900,.cells 121 13 [bt q.2.u])]) (0,g) ⟨Ys _,by rw[List.drop_zero];exact hvf,hvi⟩ ?_ λq hq=>?_
  ·simp only[go_sem];exact ZU w3 (by simp[go_sem,bt,hho]) w3
  obtain ⟨i,g2⟩:=q;obtain ⟨hi,hvf2,hvi2⟩:=hq;simp only at hi hvf2 hvi2;clear hvf hvi h0;simp only[go_sem];refine wGD (λh=>?_) (λh=>?_)
  ·have hlt:=lt1 h;have hg:=Fam.getD (f:=ZJ) hlt;have hwi:=wi1 (i:=i) z8;have hok:=(show UInvF Fa B T u by assumption).cli.hoardS _ (YG hlt);rw[ck hlt,List.filter_cons] at hvf2;generalize u.c.hoards.getD i default=x at *;refine wGq ?_ ?_ Qm
   ·simp[hg,ZJ,hlt]
   cases hb:(x.worth==((w+1:Nat):Int)) with
   | true=>
    have hxw:x.worth=((w+1:Nat):Int):=by simpa using hb
    rw[hb,if_pos rfl,List.foldl_cons] at hvf2;have hst:=hvi2.step x;have hsp:=jq x.path (by have:=hok.path;omega);have hsl:=cg x.path;have hvs:eB g2 x=⟨if (goU g2.u (ae x.path).1 x.worth).e=0 then g2.n+1 else g2.n,(goU g2.u (ae x.path).1 x.worth).u⟩:=rfl;have hgo:=ur g2.u hvi2.inv z8 z8 (ae x.path).1 (by have:=hsl.1;omega) (λy hy=>by have:=(hsl.2 y hy).1;omega) x.worth;rw[hvs] at hvf2 hst;unfold cD at hsp;unfold uH iG at hgo;generalize goU g2.u (ae x.path).1 x.worth=q at *;rw[hxw] at hgo;generalize (ae x.path).1=L at *;have hgn:=hvi2.n;have hwn:IntKind.i64.wrap ((g2.n:Int)+1)=((g2.n+1:Nat):Int):=by rw[Eng.wrap_small z8 z8];rfl
    refine wTG ?_ (hb:=w8);refine wCg ?_ func57 (hf:=hsp);refine wP ?_ [900] func58 (hf:=hgo);refine wGq ?_ ?_ w5
    ·simp[ZN]
    by_cases hqe:q.e=0
    ·rw[if_pos hqe] at hvf2 hst;refine wDT ?_ (hb:=Z9);refine wG ?_ (by simp only[go_sem,hwn,hwi];try exact rfl) (by simp[go_sem,hwn,hwi]);refine ZB ⟨(i+1,⟨g2.n+1,q.u⟩),⟨by simp only;omega,hvf2,hst⟩,by simp only;omega,ZU ?_ ?_ ?_⟩
     ·simp[go_sem]
     ·simp[go_sem]
     ·simp[go_sem]
    ·rw[if_neg hqe] at hvf2 hst;refine wDF ?_ (hb:=Z9);refine wG ?_ QU WG;refine ZB ⟨(i+1,⟨g2.n,q.u⟩),⟨by simp only;omega,hvf2,hst⟩,by simp only;omega,ZU ?_ ?_ ?_⟩
     ·simp[go_sem]
     ·simp[go_sem]
     ·simp[go_sem]
   | false=>
    rw[hb,if_neg Bool.false_ne_true] at hvf2;refine wDF ?_ (hb:=w8);refine wG ?_ QU WG;refine ZB ⟨(i+1,g2),⟨by simp only;omega,hvf2,hvi2.mono (by simp only;omega)⟩,by simp only;omega,ZU ?_ ?_ ?_⟩
    ·simp[go_sem]
    ·simp[go_sem]
    ·simp[go_sem]
  ·obtain rfl:=eq1 hi h;rw[List.drop_length,List.filter_nil,List.foldl_nil] at hvf2;refine wG ?_ QK Zp;refine ZB ⟨(w,g2),⟨by simp only;omega,hvf2,hvi2.mono (by simp only;omega)⟩,by simp only;omega,ZU ?_ ?_ ?_⟩
   ·simp[go_sem]
   ·simp[go_sem,bt]
   ·simp[go_sem]
def keeps (r x:Rec):Bool:=!(r.act.kind==3&&stored r x)
theorem me (l:List Rec) (r:Rec):cI l r=l.filter (keeps r):=by
 unfold cI;split
 ·rename_i h
  congr 1
  funext x
  simp[keeps,h]
 ·rename_i h;rw[Ye.2];intro x _;simp[keeps,h]
def here (d:Int) (n:List UInt8) (b:Act):Bool:=
 ((((b.kind==1||b.kind==2)||b.kind==4)||b.kind==5)&&b.dir==d&&b.name==n)||(b.kind==5&&b.to==d&&b.toName==n)
theorem xz (d:Int) (n:List UInt8) (b:Act):here d n b=fF b d n:=by
 unfold here fF
 by_cases h1:b.kind=1
 ·simp[h1]
 ·by_cases h2:b.kind=2
  ·simp[h2]
  ·by_cases h4:b.kind=4
   ·simp[h4]
   ·by_cases h5:b.kind=5
    ·simp[h5]
    ·simp[h1,h2,h4,h5]
def dB (l:List Rec) (r:Rec) (i:Nat):List Rec:=(l.take i).filter λx=>!(x.names r.act.fid)
def sq (l:List Rec) (r:Rec) (i:Nat):Int:=(l.take i).foldl (cE r) 0
def bN (l:List Rec) (r:Rec) (i:Nat):List Rec:=(l.take i).filter (keeps r)
theorem wx (l:List Rec) (r:Rec) (hl:SmallL l) (hr:r.act.Small):ai prog 96 [.sl (l.map ZR),.agg (ZR r)] [] (λx _=>x=fY (dm l r)):=by
 have hlen:=hl.len;refine wS func96 ntmps96 results96 λC=>?_
 refine wGq ?_ ?_ u4
 ·simp[go_sem]
 refine ZZ 3 rfl (rfl) ?_;refine ZZ 6 rfl (rfl) (wn ?_);refine wD (λh=>?_) (λh=>?_)
 ·have hk4:r.act.kind=4:=eq_of_beq h;refine wG ?_;refine wL l.length (λi=>(24,.int .i64 (i:Nat))::(8,.int .i64 (sq l r i))::(7,.osl 135 9 0 (dB l r i).length)::u0 9 8 (u0 25 112 [])) (λi=>[(135,.cells 51 9 ((dB l r i).map ZR))]) ?_ λi hi=>?_
  ·simp only[go_sem];exact ZU (by simp[go_sem,dB,sq]) (by simp[go_sem,dB]) w3
  simp only[go_sem];refine wGD (λh=>?_) (λh=>?_)
  ·have hlt:i<l.length:=by have:=of_decide_eq_true h;omega
   have hg:=Fam.getD (f:=ZR) hlt;have htk:=ZT hlt;generalize l.getD i default=x at hg htk;refine wR ?_;refine wNq 4 ?_ ?_ z6 z6 u7
   ·simp[hlt]
   refine ZZ 10 rfl (rfl) (wn ?_);refine wR ?_;refine wNq 4 ?_ ?_
   ·simp[go_sem]
   refine ZZ 11 rfl (rfl) (wn ?_);have hst:sq l r (i+1)=cE r (sq l r i) x:=by
    unfold sq;rw[htk,List.foldl_append];rfl
   have hout:dB l r (i+1)=if x.names r.act.fid then dB l r i else dB l r i++[x]:=by
    unfold dB;rw[htk,List.filter_append]
    by_cases hk:x.names r.act.fid=true<;>simp[hk]
   have hol:(dB l r i).length<=l.length:=by unfold dB;have:=YB (λx:Rec=>!x.names r.act.fid) (l.take i);simp at this;omega
   have hw:=wi1 (i:=i) z8;clear hg htk;generalize sq l r i=s at hst;refine wR ?_;refine wN 3 ?_;refine wNm 32 λc32 h32=>?_
   refine wN 5 ?_;refine wNm 37 λc37 h37=>?_
   refine wN 1 ?_;refine wR ?_;refine wN 6 ?_;refine wNm 43 λc43 h43=>?_
   refine wN 5 ?_;refine wNm 48 λc48 h48=>?_
   refine wN 1 ?_;refine wR ?_;refine wN 8 ?_;refine wNm 56 λc56 h56=>?_
   refine wN 7 ?_;refine wNm 63 λc63 h63=>?_
   refine wNq 19 ?_ ?_
   ·simp[go_sem];exact ⟨λa=>⟨a,λb=>⟨a,b⟩⟩,λa=>⟨a,λb c=>⟨a,b,c⟩⟩⟩
   refine wNm 82 λc82 h82=>?_
   refine wN 1 ?_;refine wR ?_;refine wN 2 ?_;refine wNm 85 λc85 h85=>?_
   refine wN 3 ?_;refine wNm 88 λc88 h88=>?_
   refine wN 7 ?_;refine wNm 95 λc95 h95=>?_
   have hA:c95=(s==0&&ep r.act.fid x):=by
    rw[<-h95,<-h88,<-h85,<-h37,<-h32];simp only[cS,fe,ep,Bool.and_assoc];cases (s==0)<;>cases (x.act.fid==r.act.fid)<;>simp
   have hB:c82=fF x.act r.act.dir r.act.name:=by
    rw[<-xz,<-h82,<-h63,<-h56,<-h48,<-h43,<-h37,<-h32];simp only[cS,fe,here]
   clear h82 h63 h56 h48 h43 h88 h85 h95;refine wGD (λh=>?_) (λh=>?_)
   ·have hs:s=0/\ep r.act.fid x=true:=by
     have:c95=true:=h;rw[hA,Bool.and_eq_true] at this;exact ⟨eq_of_beq this.1,this.2⟩
    refine wR ?_;refine wN 1 ?_;refine wR ?_;refine wN 5 ?_;refine wNm 100 λc100 h100=>?_
    refine wN 7 ?_;refine wNm 107 λc107 h107=>?_
    have hC:c107=(x.act.dir==r.act.dir&&x.act.name==r.act.name):=by rw[<-h107,<-h100,cS]
    refine wGD (λh=>?_) (λh=>?_)
    ·have hstv:sq l r (i+1)=1:=by
      have h1:c107=true:=h;rw[hC,Bool.and_eq_true] at h1;rw[hst,hs.1];simp[cE,hs.2,eq_of_beq h1.1,eq_of_beq h1.2]
     refine wGS ?_;refine sN 1 ?_;refine sC ?_ func135 (hf:=fK x.act);refine sN 2 ?_;refine sC ?_ func134 (hf:=pP (cw x.act) Zv r.act.fid);refine sN 1 ?_;refine sE ?_;refine wKd ?_;refine wD (λh=>?_) (λh=>?_)
     ·have hnm:x.names r.act.fid=false:=by simpa[Rec.names] using h
      have hon:dB l r (i+1)=dB l r i++[x]:=by rw[hout,hnm];rfl
      refine wGq ?_ ?_ QE
      ·simp[go_sem];omega
      exact ZB ⟨i+1,by omega,by omega,ZU QR WW w3⟩
     ·have hnm:x.names r.act.fid=true:=by simpa[Rec.names] using h
      have hon:dB l r (i+1)=dB l r i:=by rw[hout,hnm];rfl
      refine wG ?_ w4 y7;exact ZB ⟨i+1,by omega,by omega,ZU QR Wn w3⟩
    ·have hstv:sq l r (i+1)=2:=by
      have h1:c107=false:=h;have h2:¬(x.act.dir=r.act.dir/\x.act.name=r.act.name):=by
       rintro ⟨e1,e2⟩;rw[hC,e1,e2] at h1;simp at h1
      rw[hst,hs.1];simp only[cE,hs.2,if_true,if_neg h2]
     refine wGS ?_;refine sN 1 ?_;refine sC ?_ func135 (hf:=fK x.act);refine sN 2 ?_;refine sC ?_ func134 (hf:=pP (cw x.act) Zv r.act.fid);refine sN 1 ?_;refine sE ?_;refine wKd ?_;refine wD (λh=>?_) (λh=>?_)
     ·have hnm:x.names r.act.fid=false:=by simpa[Rec.names] using h
      have hon:dB l r (i+1)=dB l r i++[x]:=by rw[hout,hnm];rfl
      refine wGq ?_ ?_ QE
      ·simp[go_sem];omega
      exact ZB ⟨i+1,by omega,by omega,ZU QR WW w3⟩
     ·have hnm:x.names r.act.fid=true:=by simpa[Rec.names] using h
      have hon:dB l r (i+1)=dB l r i:=by rw[hout,hnm];rfl
      refine wG ?_ w4 y7;exact ZB ⟨i+1,by omega,by omega,ZU QR Wn w3⟩
   ·have hs0:¬(s=0/\ep r.act.fid x=true):=by
     rintro ⟨e1,e2⟩;have h1:c95=false:=h;rw[hA,e1,e2] at h1;cases h1
    refine wGS ?_;refine sN 2 ?_;refine dh 110 z6 (λc110 h110=>?_);simp only[go_sem];refine sN 4 ?_;refine sCC ?_ func135 (hf:=λhb=>(fK x.act));refine sN 2 ?_;refine sCC ?_ func134 (hf:=λhb=>(pP (cw x.act) Zv r.act.fid));refine sNq 7 ?_ ?_
    ·simp[go_sem];exact ⟨λa b=>⟨⟨a,b⟩,λc=>⟨⟨a,b⟩,c⟩⟩,λa=>⟨a,λb=>⟨a,b⟩⟩⟩
    refine dh 125 z6 (λc125 h125=>?_);simp only[go_sem];refine sN 1 ?_;refine sE ?_;refine wKd ?_;have hD:c125=(s==1&&bars r.act.fid r.act.dir r.act.name x):=by
     rw[<-h125,<-h110,hB];simp only[cS,fe,bars,Rec.names];cases (s==1)<;>cases (fF x.act r.act.dir r.act.name)<;>simp[Bool.and_comm]
    refine wD (λh=>?_) (λh=>?_)
    ·have hstv:sq l r (i+1)=2:=by
      have h1:c125=true:=h;rw[hD,Bool.and_eq_true] at h1;rw[hst,eq_of_beq h1.1];simp[cE,h1.2]
     refine wGS ?_;refine sN 1 ?_;refine sC ?_ func135 (hf:=fK x.act);refine sN 2 ?_;refine sC ?_ func134 (hf:=pP (cw x.act) Zv r.act.fid);refine sN 1 ?_;refine sE ?_;refine wKd ?_;refine wD (λh=>?_) (λh=>?_)
     ·have hnm:x.names r.act.fid=false:=by simpa[Rec.names] using h
      have hon:dB l r (i+1)=dB l r i++[x]:=by rw[hout,hnm];rfl
      refine wGq ?_ ?_ QE
      ·simp[go_sem];omega
      exact ZB ⟨i+1,by omega,by omega,ZU QR WW w3⟩
     ·have hnm:x.names r.act.fid=true:=by simpa[Rec.names] using h
      have hon:dB l r (i+1)=dB l r i:=by rw[hout,hnm];rfl
      refine wG ?_ w4 y7;exact ZB ⟨i+1,by omega,by omega,ZU QR Wn w3⟩
    ·have hstv:sq l r (i+1)=s:=by
      have h1:c125=false:=h;rw[hst];unfold cE
      by_cases e0:s=0
      ·have hnm:ep r.act.fid x=false:=by
        cases e:ep r.act.fid x with
        | false=>rfl
        | true=>exact absurd ⟨e0,e⟩ hs0
       simp[e0,hnm]
      ·by_cases e1:s=1
       ·have hnb:bars r.act.fid r.act.dir r.act.name x=false:=by
         rw[hD,e1] at h1;simpa using h1
        simp[e1,hnb]
       ·simp[e0,e1]
     refine wGS ?_;refine sN 1 ?_;refine sC ?_ func135 (hf:=fK x.act);refine sN 2 ?_;refine sC ?_ func134 (hf:=pP (cw x.act) Zv r.act.fid);refine sN 1 ?_;refine sE ?_;refine wKd ?_;refine wD (λh=>?_) (λh=>?_)
     ·have hnm:x.names r.act.fid=false:=by simpa[Rec.names] using h
      have hon:dB l r (i+1)=dB l r i++[x]:=by rw[hout,hnm];rfl
      refine wGq ?_ ?_ QE
      ·simp[go_sem];omega
      exact ZB ⟨i+1,by omega,by omega,ZU QR WW w3⟩
     ·have hnm:x.names r.act.fid=true:=by simpa[Rec.names] using h
      have hon:dB l r (i+1)=dB l r i:=by rw[hout,hnm];rfl
      refine wG ?_ w4 y7;exact ZB ⟨i+1,by omega,by omega,ZU QR Wn w3⟩
  ·have e:i=l.length:=by have:=of_decide_eq_false h;omega
   subst e;have hout:dB l r l.length=l.filter λx=>!(x.names r.act.fid):=by unfold dB;rw[W7]
   have hst:(sq l r l.length==1)=eE l r:=by
    unfold sq;rw[W7,lX r hk4]
   refine wGD (λh=>?_) (λh=>?_)
   ·have hc:eE l r=true:=by rw[<-hst];exact h
    refine wG ?_;refine ZZ 135 rfl (da _) (wn ?_);refine wT ?_;simp[dm,hc,fY,hout]
   ·have hc:eE l r=false:=by rw[<-hst];exact h
    refine wG ?_;refine wL l.length (λi=>(142,.int .i64 (i:Nat))::(7,.osl 166 9 0 (bN l r i).length)::u0 8 132 (u0 143 25 [])) (λi=>[(166,.cells 51 9 ((bN l r i).map ZR))]) ?_ λi hi=>?_
    ·simp only[go_sem];exact ZU Wu Wu w3
    simp only[go_sem];refine wGD (λh=>?_) (λh=>?_)
    ·have hlt:i<l.length:=by have:=of_decide_eq_true h;omega
     have hg:=Fam.getD (f:=ZR) hlt;have htk:=ZT hlt;generalize l.getD i default=x at hg htk;have hkl:(bN l r i).length<=l.length:=by unfold bN;have:=YB (keeps r) (l.take i);simp at this;omega
     have hkn:bN l r (i+1)=if keeps r x then bN l r i++[x] else bN l r i:=by
      unfold bN;rw[htk,List.filter_append]
      by_cases hk:keeps r x=true<;>simp[hk]
     have hw:=wi1 (i:=i) z8;refine wR ?_;refine wNq 4 ?_ ?_ z6 z6 u7
     ·simp[hlt]
     refine ZZ 16 rfl (rfl) (wn ?_);refine wR ?_;refine wN 3 ?_;refine wNm 148 λc148 h148=>?_
     refine wN 6 ?_;refine wNm 154 λc154 h154=>?_
     refine wN 8 ?_;refine wNm 162 λc162 h162=>?_
     have hK:c162=keeps r x:=by
      rw[<-h162,<-h154,<-h148];simp only[fe,keeps,stored,bne];generalize (r.act.kind==3)=a1;generalize (x.act.kind==3)=a2;generalize (x.act.fid==r.act.fid)=a3;cases a1<;>cases a2<;>cases a3<;>rfl
     refine wGD (λh=>?_) (λh=>?_)
     ·have hk2:bN l r (i+1)=bN l r i++[x]:=by rw[hkn,<-hK,show c162=true from h];rfl
      refine wGq ?_ ?_ QE
      ·simp[go_sem];omega
      exact ZB ⟨i+1,by omega,by omega,ZU QL (by simp[go_sem,hk2,ZR]) w3⟩
     ·have hk2:bN l r (i+1)=bN l r i:=by rw[hkn,<-hK,show c162=false from h];rfl
      refine wG ?_ w4 y7;exact ZB ⟨i+1,by omega,by omega,ZU QL QL w3⟩
    have e:i=l.length:=by have:=of_decide_eq_false h;omega
    subst e;have hkept:bN l r l.length=cI l r:=by unfold bN;rw[W7,me]
    have hul:=(jb l r).length_le;rw[hkept];have hadd:dm l r=if (cI l r).length≥20 then none else some (cI l r++[r]):=by simp only[dm,hc,Bool.false_eq_true,if_false]
    rw[hadd];generalize cI l r=d at hul;refine wGD (λh=>?_) (λh=>?_)
    ·have hd:d.length≥20:=by have h2:=of_decide_eq_true h;omega
     refine wGT ?_;rw[if_pos hd];rfl
    ·have hd:¬d.length≥20:=by have h2:=of_decide_eq_false h;omega
     refine wGq ?_ ?_ u4
     ·simp[go_sem];omega
     refine ZZ 174 rfl Qe (wn ?_);refine wT ?_;rw[if_neg hd];simp only[fY,List.map_append,List.map_cons,List.map_nil,ZR];rw[W4 w8]
 ·have hc:eE l r=false:=by
   unfold eE;split
   ·rfl
   ·have:(r.act.kind==4)=false:=h;rw[this];rfl
  refine wG ?_;refine wL l.length (λi=>(142,.int .i64 (i:Nat))::(7,.osl 166 9 0 (bN l r i).length)::u0 8 132 (u0 143 25 [])) (λi=>[(166,.cells 51 9 ((bN l r i).map ZR))]) ?_ λi hi=>?_
  ·simp only[go_sem];exact ZU Wu Wu w3
  simp only[go_sem];refine wGD (λh=>?_) (λh=>?_)
  ·have hlt:i<l.length:=by have:=of_decide_eq_true h;omega
   have hg:=Fam.getD (f:=ZR) hlt;have htk:=ZT hlt;generalize l.getD i default=x at hg htk;have hkl:(bN l r i).length<=l.length:=by unfold bN;have:=YB (keeps r) (l.take i);simp at this;omega
   have hkn:bN l r (i+1)=if keeps r x then bN l r i++[x] else bN l r i:=by
    unfold bN;rw[htk,List.filter_append]
    by_cases hk:keeps r x=true<;>simp[hk]
   have hw:=wi1 (i:=i) z8;refine wR ?_;refine wNq 4 ?_ ?_ z6 z6 u7
   ·simp[hlt]
   refine ZZ 16 rfl (rfl) (wn ?_);refine wR ?_;refine wN 3 ?_;refine wNm 148 λc148 h148=>?_
   refine wN 6 ?_;refine wNm 154 λc154 h154=>?_
   refine wN 8 ?_;refine wNm 162 λc162 h162=>?_
   have hK:c162=keeps r x:=by
    rw[<-h162,<-h154,<-h148];simp only[fe,keeps,stored,bne];generalize (r.act.kind==3)=a1;generalize (x.act.kind==3)=a2;generalize (x.act.fid==r.act.fid)=a3;cases a1<;>cases a2<;>cases a3<;>rfl
   refine wGD (λh=>?_) (λh=>?_)
   ·have hk2:bN l r (i+1)=bN l r i++[x]:=by rw[hkn,<-hK,show c162=true from h];rfl
    refine wGq ?_ ?_ QE
    ·simp[go_sem];omega
    exact ZB ⟨i+1,by omega,by omega,ZU QL (by simp[go_sem,hk2,ZR]) w3⟩
   ·have hk2:bN l r (i+1)=bN l r i:=by rw[hkn,<-hK,show c162=false from h];rfl
    refine wG ?_ w4 y7;exact ZB ⟨i+1,by omega,by omega,ZU QL QL w3⟩
  have e:i=l.length:=by have:=of_decide_eq_false h;omega
  subst e;have hkept:bN l r l.length=cI l r:=by unfold bN;rw[W7,me]
  have hul:=(jb l r).length_le;rw[hkept];have hadd:dm l r=if (cI l r).length≥20 then none else some (cI l r++[r]):=by simp only[dm,hc,Bool.false_eq_true,if_false]
  rw[hadd];generalize cI l r=d at hul;refine wGD (λh=>?_) (λh=>?_)
  ·have hd:d.length≥20:=by have h2:=of_decide_eq_true h;omega
   refine wGT ?_;rw[if_pos hd];rfl
  ·have hd:¬d.length≥20:=by have h2:=of_decide_eq_false h;omega
   refine wGq ?_ ?_ u4
   ·simp[go_sem];omega
   refine ZZ 174 rfl Qe (wn ?_);refine wT ?_;rw[if_neg hd];simp only[fY,List.map_append,List.map_cons,List.map_nil,ZR];rw[W4 w8]
end La
