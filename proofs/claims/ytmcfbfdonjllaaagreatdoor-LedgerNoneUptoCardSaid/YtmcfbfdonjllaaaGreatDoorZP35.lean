/- Texts of this claim, part 35: RWhole, RLaw12, OpnE, LaidG. No condition. -/
import Derived.Test.YtmcfbfdonjllaaaGreatDoorZP32
import Derived.ChangeArms
import Derived.Test.YtmcfbfdonjllaaaGreatDoorCards
import Derived.Test.YtmcfbfdonjllaaaGreatDoorTie
import Derived.Deep.DeepHandedRow
import Derived.Lib.LaidTab
set_option maxRecDepth 10000
set_option maxHeartbeats 4000000
set_option linter.unusedSimpArgs false
set_option linter.unusedVariables false
namespace La
open Go Go.Eng Go.Proofs Go.Proofs.Tryz
def eo (l:List Node) (i:Nat):List Int:=dr (l.take i)
theorem yX {l:List Node} {i:Nat} (h:i<l.length):eo l (i+1)=eo l i++fu (l.getD i default):=by
 unfold eo dr;rw[ZT h,List.flatMap_append];simp
theorem Bf {n:Node} {j:Nat} (h:j<n.entries.length):(fu n).take (j+1)=(fu n).take j++[(n.entries.getD j default).fid]:=by
 unfold fu;rw[<-List.map_take,<-List.map_take,ZT h,List.map_append];rfl
theorem yt {l:List Node}:(∀n,n∈l->n.entries.length<=6)->(dr l).length<=6*l.length:=λh=>by
 induction l with
 | nil=>simp[dr]
 | cons n r ih=>
  have h1:=ih (λn hn=>h n (List.mem_cons_of_mem _ hn));have h2:=h n List.mem_cons_self;unfold dr at h1 ⊢;simp only[List.flatMap_cons,List.length_append,List.length_cons];have h3:(fu n).length=n.entries.length:=by simp[fu]
  omega
theorem I2:([]:List (Int×AV))=mI (eA []):=rfl
open Classical in
theorem Ha (l:List Node) (hw:Wh l):Fo 32 [.sl (l.map ZN)] (.bool true):=by
 have h24:=hw.bs.len;have hof:=Mh l z8;rw[sI] at hof;have hmg:∀n,n∈l->∀e,e∈n.entries->∃m,bl (mN (bI l)) e.fid=some (.agg (ZN m)):=λn hn e he=>by
  obtain ⟨m,hm,hf⟩:=hw.there n.fid e.name e.fid ⟨n,hn,rfl,he⟩;exact ⟨m,by rw[gW,cc hw.bs.up,(ZO hw.bs.up).2 ⟨hm,hf⟩];rfl⟩
 have hallm:(og (bI l)).length<=90000000:=by have:=ta hw.bs.ent;omega
 have hrises:Fo 51 [.sl (l.map ZN)] (.bool true):=by
  have:=GK l hw.bs.small
  rwa [(B1 l).2 ⟨hw.bs.up,λn hn=>(hw.loc n hn).eup⟩] at this
 refine wSG func32 ntmps32 results32 λC=>?_
 refine wCG ?_ [] 1000 func27 (hf:=hof);refine wG ?_;refine wL l.length (λi=>u0 5 6 ((18,.int .i64 i)::u0 19 63 [])) (λi=>[(15,.map (mI (eA (eo l i))))]) ?_ λi hi=>?_
 ·simp only[go_sem];exact ZU w3 (by simp[go_sem,eo,dr,I2]) w3
 simp only[go_sem];refine wGD (λh=>?_) (λh=>?_)
 ·have hlt:=lt1 h;have hn:=YG hlt;have hg:=Fam.getD (f:=ZN) hlt;have hfs:=yX hlt;have hfl:(eo l i).length<=6*i:=by
   have:=yt (l:=l.take i) (λn hn=>hw.bs.ent n (YJ hn));rw[YF,Yu z8] at this;exact this
  have hwi:=wi1 (i:=i) z8;generalize l.getD i default=n at *;have hloc:=hw.loc n hn;have hent:=hw.bs.ent n hn;have hdat:=hw.bs.data n hn;refine wR ?_;refine wNq 4 ?_ ?_ z6 z6 x8
  ·simp[hg,ZN,hlt]
  refine wR ?_;refine wN 9 ?_;refine wNm 30 λc30 h30=>?_
  refine wNq 10 ?_ ?_
  ·cases c30<;>simp
  refine wNm 40 λc40 h40=>?_
  refine wN 6 ?_;refine wNm 46 λc46 h46=>?_
  refine wN 6 ?_;refine wNm 52 λc52 h52=>?_
  have hc:c52=false:=by
   subst h52 h46 h40 h30;have e6:decide ((n.entries.length:Int)>6)=false:=decide_eq_false z8;have e20:decide ((n.data.length:Int)>20)=false:=decide_eq_false z8;cases hd:n.dir with
   | true=>simp[hloc.dirD hd];omega
   | false=>simp[hloc.file hd];omega
  refine mh ?_ (hb:=hc);refine wL n.entries.length (λj=>(8,.any)::(9,.any)::(10,.any)::(56,.int .i64 j)::u0 57 24 []) (λj=>[(15,.map (mI (eA (eo l i++(fu n).take j))))]) ?_ λj hj=>?_
  ·exact wZ
  simp only[go_sem];refine wGD (λh=>?_) (λh=>?_)
  ·have hlj:=lt1 h;have hgj:=Fam.getD (f:=ZE) hlj;have hej:=YG hlj;have htj:eA (eo l i++(fu n).take (j+1))=aV (eA (eo l i++(fu n).take j)) (n.entries.getD j default).fid (gr (eA (eo l i++(fu n).take j)) (n.entries.getD j default).fid+1):=by
    rw[Bf hlj,<-List.append_assoc,AP];rfl
   have hwj:IntKind.i64.wrap ((j:Int)+1)=((j+1:Nat):Int):=by rw[Eng.wrap_small z8 z8];rfl
   have hcnt:gr (eA (eo l i++(fu n).take j)) (n.entries.getD j default).fid<=1000/\0<=gr (eA (eo l i++(fu n).take j)) (n.entries.getD j default).fid:=by
    rw[uK];have:=Io (n.entries.getD j default).fid (eo l i++(fu n).take j);have h2:((fu n).take j).length<=6:=by simp[fu];omega
    rw[List.length_append] at this;omega
   obtain ⟨m,hmm⟩:=hmg n hn _ hej;have hnmB:cr (n.entries.getD j default).name=true:=hw.name n.fid _ _ ⟨n,hn,rfl,hej⟩;generalize n.entries.getD j default=e at *;have hwc:IntKind.i64.wrap (gr (eA (eo l i++(fu n).take j)) e.fid+1)=gr (eA (eo l i++(fu n).take j)) e.fid+1:=Eng.wrap_small z8 z8;have hnl:e.name.length<=100000000:=by
    unfold cr at hnmB;simp only[Bool.and_eq_true,decide_eq_true_eq] at hnmB;omega
   have hrn:=uu e.name hnl;rw[hnmB] at hrn;generalize eA (eo l i++(fu n).take j)=tm at *;refine wGq ?_ ?_ (by simp only[go_sem,hgj,ZE,hwc,hmm,ZN,cond_false,cond_true];try exact rfl)
   ·simp[hgj,ZE,hlj,hmm,ZN,AV.jw,AV.aT,AV.leaf]
   refine wCC ?_ func49 (hf:=λhb=>(hrn));refine wG ?_;refine wDF ?_ (hb:=w8);refine wG ?_ (by simp only[go_sem,hwj];try exact rfl) (by simp[go_sem,hwj]);exact ZB ⟨j+1,by omega,by omega,ZU w3 (by simp[go_sem,htj]) w3⟩
  ·obtain rfl:=eq1 hj h;refine wG ?_ QU WG;exact ZB ⟨i+1,by omega,by omega,ZU w3 (by simp[go_sem,hfs,fu,W4]) w3⟩
 ·obtain rfl:=eq1 hi h;have hall:eo l l.length=dr l:=by unfold eo;rw[W7]
  rw[hall];have h0:=KC hw;have h1:=λf=>@L4 l hw f
  have hT:∀f,gr (eA (dr l)) f=qg f (dr l):=uK (dr l);generalize eA (dr l)=tm at *;refine wG ?_;refine wL l.length (λi=>(12,.any)::(84,.int .i64 i)::u0 85 36 []) (λ_=>[]) ?_ λi hi=>?_
  ·exact wZ
  simp only[go_sem];refine wGD (λh=>?_) (λh=>?_)
  ·have hlt:=lt1 h;have hn:=YG hlt;have hg:=Fam.getD (f:=ZN) hlt;have hwi:=wi1 (i:=i) z8;generalize l.getD i default=n at *;refine wR ?_;refine wNq 4 ?_ ?_ z6 z6 x8
   ·simp[hg,ZN,hlt]
   have hwn:=uy (bI l) n.fid 0 hallm;rw[decide_eq_true (G_ hw ⟨n,hn,rfl⟩)] at hwn;refine wR ?_;refine wN 3 ?_;refine wNm 90 λc90 h90=>?_
   refine wNq 10 ?_ ?_ z6 z6 Q5
   ·cases c90<;>simp
   refine wNm 100 λc100 h100=>?_
   refine wNq 14 ?_ ?_ z6 z6 Q5
   ·cases c100<;>simp
   refine Fu rfl z7 z7 w3 z7 w3 ⟨_,func50,by kernel_rfl,rfl⟩ (λhb=>(hwn)) w3 z6 ?_;refine wNq 4 ?_ ?_ z6 z6 Q5
   ·cases c100<;>simp<;>exact λh=>⟨h,λh2=>⟨h,h2⟩⟩
   refine wNm 119 λc119 h119=>?_
   have hc:c119=false:=by
    subst h119 h100 h90
    by_cases hz:n.fid=0
    ·have hd:=LZ hw hn hz;have hz0:gr tm 0=0:=by rw[hT,h0];rfl
     simp[hz,hd,hz0]
    ·have h11:=h1 n.fid ⟨n,hn,rfl⟩ hz;have ht1:gr tm n.fid=1:=by rw[hT,h11];rfl
     simp[hz,ht1]
   refine wG ?_;refine wDF ?_ (hb:=hc);refine wG ?_ QU WG;exact ZB ⟨i+1,by omega,by omega,ZU w3 w3 w3⟩
  ·obtain rfl:=eq1 hi h;have hlp:0<l.length:=by
    obtain ⟨m,hm,_⟩:=hw.root;exact List.length_pos_of_mem hm
   refine wG ?_;refine wC ?_ func51 (hf:=hrises);refine wGT ?_;simp;omega
end La
namespace La
open Go Go.Eng Go.Proofs Go.Proofs.YtmcfbfdonjllaaaGreatDoor Go.Proofs.Tryz
def RdC (w:World) (cs:List Value) (xs:List AV):Prop:=cs.length=xs.length/\∀(j:Nat) y,xs[j]? = some y->RdP (λb=>b<w.heap.size) w (cs.getD j undef) y
theorem Jm {w:World} {cs:List Value} {off:Nat} (h:cs.length=off):RdC w (cs.drop off) []:=
 ⟨by simp;omega,λj y hj=>by simp at hj⟩
theorem kT {w:World} {cs:List Value} {xs ys:List AV} (off s:Nat) (h:RdC w ((cs.drop off).take s) xs) (hs:xs.length=s) (k:RdC w (cs.drop (off+s)) ys):RdC w (cs.drop off) (xs++ys):=by
 obtain ⟨h1,h2⟩:=h;obtain ⟨k1,k2⟩:=k;have hl:(cs.drop off).length=s+(cs.drop (off+s)).length:=by
  simp only[YF,YZ] at h1 k1 ⊢;omega
 refine ⟨by rw[List.length_append,hl,hs,k1],λj y hj=>?_⟩
 by_cases hjs:j<s
 ·rw[YU z8] at hj;have:=h2 j y hj
  rwa [List.getD_eq_getElem?_getD,YW,if_pos hjs,<-List.getD_eq_getElem?_getD] at this
 ·rw[YQ z8,hs] at hj;have:=k2 (j-s) y hj;rw[List.getD_eq_getElem?_getD,List.getElem?_drop] at this;rw[List.getD_eq_getElem?_getD,List.getElem?_drop]
  rwa [show off+s+(j-s)=off+j from by omega] at this
structure Rep (t:TypeId) {α:Type} (f:α->List AV) (q:α->Prop) (sz:α->Nat):Prop where
 size:∀x,(f x).length=(prog).cellsOf t
 opn:∀{H:Type} (enc:TypeId×Value->H) (w:World) (n:Nat) (cs:List Value) (y:DataW H×List MemPlace),DataW.trod enc prog w 0 (λ_=>true) true n t cs=some y ->
  ∃x:α,q x/\sz x<=Rows.uptoBulk y.1/\RdC w cs (f x)
theorem ZG {t:TypeId} {n:Nat} (h:tab.siz t=n) (h0:n≠0):(prog).cellsOf t=n:=by
 obtain ⟨i,h1,h2,_⟩:=tK.siz t (by rw[h];exact h0);unfold Program.cellsOf;rw[h1];simp[h2,h]
theorem cT3:(prog).cellsOf 3=1:=ZG (t:=3) (n:=1) rfl x7
theorem cT4:(prog).cellsOf 4=1:=ZG (t:=4) (n:=1) rfl x7
theorem cT5:(prog).cellsOf 5=1:=ZG (t:=5) (n:=1) rfl x7
theorem cT9:(prog).cellsOf 9=1:=ZG (t:=9) (n:=1) rfl x7
theorem K9:(prog).cellsOf 24=1:=ZG (t:=24) (n:=1) rfl x7
theorem K_:(prog).cellsOf 26=6:=ZG (t:=26) (n:=6) rfl x7
theorem Md:(prog).cellsOf 28=1:=ZG (t:=28) (n:=1) rfl x7
theorem Me:(prog).cellsOf 40=1:=ZG (t:=40) (n:=1) rfl x7
theorem C2 {t:TypeId} (ht:(prog).underlying t=some (.int .i64)) (hs:(prog).cellsOf t=1):Rep t (λn:Int=>[AV.int .i64 n]) (λn=>-9223372036854775808<=n/\n<=9223372036854775807) (λ_=>1) where
 size:=λ_=>by rw[hs];rfl
 opn:=λenc w n cs y h=>by
  obtain ⟨m,rfl,rfl,hw⟩:=DataW.trod_int ht h;refine ⟨m,?_,by simp[Rows.uptoBulk],rfl,λj y hj=>?_⟩
  ·simpa[Lit.wf,IntKind.min,IntKind.max,IntKind.bits,IntKind.signed] using hw
  ·cases j with
   | zero=>simp only[List.getElem?_cons_zero,gL] at hj;subst hj;exact .int _ _
   | succ j=>simp at hj
theorem C3 {t:TypeId} (ht:(prog).underlying t=some .string) (hs:(prog).cellsOf t=1):Rep t (λs:List UInt8=>[AV.str s]) (λ_=>True) (λs=>s.length+1) where
 size:=λ_=>by rw[hs];rfl
 opn:=λenc w n cs y h=>by
  obtain ⟨s,rfl,rfl,_⟩:=DataW.trod_string ht h;refine ⟨s.data.toList,trivial,by simp[Rows.uptoBulk],rfl,λj y hj=>?_⟩;cases j with
  | zero=>simp only[List.getElem?_cons_zero,gL] at hj;subst hj;exact .str _ _ rfl
  | succ j=>simp at hj
theorem GD {t:TypeId} (ht:(prog).underlying t=some (.int .u8)) (hs:(prog).cellsOf t=1):Rep t ZY (λ_=>True) (λ_=>1) where
 size:=λ_=>by rw[hs];rfl
 opn:=λenc w n cs y h=>by
  obtain ⟨m,rfl,rfl,hw⟩:=DataW.trod_int ht h;have hb:0<=m/\m<=255:=by simpa[Lit.wf,IntKind.min,IntKind.max,IntKind.bits,IntKind.signed] using hw
  refine ⟨UInt8.ofNat m.toNat,trivial,by simp[Rows.uptoBulk],rfl,λj y hj=>?_⟩;cases j with
  | zero=>
   simp only[ZY,List.getElem?_cons_zero,gL] at hj;subst hj;have:((UInt8.ofNat m.toNat).toNat:Int)=m:=by
    rw[UInt8.toNat_ofNat'];omega
   rw[this];exact .int _ _
  | succ j=>simp[ZY] at hj
def szL {α:Type} (sz:α->Nat):List α->Nat
 | []=>0
 | x::r=>sz x+szL sz r
theorem Da {α:Type} {sz:α->Nat} {x:α}:∀{l:List α},x∈l->sz x<=szL sz l
 | y::r,h=>by
  rcases List.mem_cons.1 h with rfl | h
  ·simp only[szL];omega
  ·have:=Da (sz:=sz) h;simp only[szL];omega
theorem C' {α:Type} {sz:α->Nat} (h:∀x,1<=sz x):∀(l:List α),l.length<=szL sz l
 | []=>YA _
 | x::r=>by have:=C' h r;have:=h x;simp only[szL,List.length_cons];omega
theorem wu {α H:Type} {q:α->Prop} {sz:α->Nat} {R:Nat->α->Prop}:∀(elems:List (DataW H×List MemPlace)) (i0:Nat),(∀(i:Nat) y,elems[i]? = some y->∃x,q x/\sz x<=Rows.uptoBulk y.1/\R (i0+i) x) ->
  ∃l:List α,l.length=elems.length/\(∀x,x∈l->q x)/\szL sz l<=Rows.uptoBulkAll (elems.map (·.1))/\∀(i:Nat) x,l[i]? = some x->R (i0+i) x
 | [],_,_=>⟨[],rfl,λx h=>by simp at h,by simp[szL],λi x h=>by simp at h⟩
 | y::r,i0,h=>by
  obtain ⟨x,h1,h2,h3⟩:=h 0 y rfl;obtain ⟨l,k1,k2,k3,k4⟩:=wu (R:=R) r (i0+1) (λi z hz=>by rw[show i0+1+i=i0+(i+1) from by omega];exact h (i+1) z Zb);refine ⟨x::l,by simp[k1],λz hz=>?_,?_,λi z hz=>?_⟩
  ·rcases List.mem_cons.1 hz with rfl | hz
   ·exact h1
   ·exact k2 z hz
  ·simp only[szL,List.map_cons,Rows.uptoBulkAll];omega
  ·cases i with
   | zero=>simp only[List.getElem?_cons_zero,gL] at hz;subst hz;exact h3
   | succ i=>rw[show i0+(i+1)=i0+1+i from by omega];exact k4 i z Zb
theorem A_ {w:World} {a:Addr} {n:Nat} {cs:List Value} (h:w.cells? 0 a n=some cs):cs.length=n/\∀i,i<n->w.cell? (a.add i)=cs[i]?:=by
 unfold World.cells? at h;rw[if_pos (Ys _)] at h;have hl:=mapM_some_length h;refine ⟨by simpa using hl,λi hi=>?_⟩;exact mapM_some_get h i i (by simp[hi])
theorem qT {t e:TypeId} {α:Type} {f:α->List AV} {q:α->Prop} {sz:α->Nat} (ht:(prog).underlying t=some (.slice e)) (hs:(prog).cellsOf t=1) (he:Rep e f q sz) (hsz:(prog).cellsOf e≠0) :
  Rep t (λl:List α=>[AV.sl (l.map f)]) (λl=>∀x,x∈l->q x) (λl=>szL sz l+1) where
 size:=λ_=>by rw[hs];rfl
 opn:=λenc w n cs y h=>by
  rcases DataW.trod_slice ht h with ⟨rfl,rfl⟩ | ⟨a,len,cap,elems,rest,m,rfl,rfl,rfl,h1,h2,h3,h4,h5,_⟩
  ·refine ⟨[],λx hx=>by simp at hx,by simp[szL,Rows.uptoBulk],rfl,λj y hj=>?_⟩;cases j with
   | zero=>
    simp only[List.map_nil,List.getElem?_cons_zero,gL] at hj;subst hj;exact .sl none 0 0 [] 0 0 0 (λ_ _=>undef) rfl (YA _) (λrow h=>by simp at h) (λh=>by omega) (λi j h=>by omega) (λi row h=>by simp at h)
   | succ j=>simp at hj
  ·have key:∀(i:Nat) y,elems[i]? = some y->∃x,q x/\sz x<=Rows.uptoBulk y.1/\(∃cs,w.cells? 0 (a.add ((0+i)*(prog).cellsOf e)) ((prog).cellsOf e)=some cs/\RdC w cs (f x)):=λi y hy=>by
    have hi:i<len:=by rw[<-h4];exact (W9.1 hy).1
    have:=h5 i hi;rw[hy] at this;obtain ⟨cs,k1,k2⟩:=Option.bind_eq_some_iff.1 this;obtain ⟨x,q1,q2,q3⟩:=he.opn enc w m cs y k2;exact ⟨x,q1,q2,cs,by rw[Yd];exact k1,q3⟩
   obtain ⟨l,l1,l2,l3,l4⟩:=wu (q:=q) (sz:=sz) (R:=λi x=>∃cs,w.cells? 0 (a.add (i*(prog).cellsOf e)) ((prog).cellsOf e)=some cs/\RdC w cs (f x)) elems 0 key;refine ⟨l,l2,by simp only[Rows.uptoBulk];omega,rfl,λj y hj=>?_⟩;cases j with
   | succ j=>simp at hj
   | zero=>
    simp only[List.getElem?_cons_zero,gL] at hj;subst hj;have hcell:∀i j,i<l.length->j<(prog).cellsOf e->∃(b:a.spot=none\/True) (x:α) (cs:List Value),l[i]? = some x/\RdC w cs (f x)/\w.cell? (a.add (i*(prog).cellsOf e) |>.add j)=cs[j]?/\j<cs.length:=λi j hi hj=>by
     obtain ⟨cs,k1,k2⟩:=l4 i l[i] (W3 hi);obtain ⟨c1,c2⟩:=A_ k1;rw[Yd] at c2;exact ⟨.inr trivial,l[i],cs,W3 hi,k2,c2 j hj,by omega⟩
    by_cases h0:l.length=0
    ·have:l=[]:=List.eq_nil_of_length_eq_zero h0;subst this;simp only[List.map_nil];have e0:len=0:=by rw[<-h4,<-l1];rfl
     subst e0;exact .sl (some a) 0 cap [] 0 0 0 (λ_ _=>undef) rfl (Ys _) (λrow h=>by simp at h) (λh=>by omega) (λi j h=>by omega) (λi row h=>by simp at h)
    ·have hspot:a.spot=none/\a.block<w.heap.size:=by
      obtain ⟨_,x,cs,_,_,c3,c4⟩:=hcell 0 0 z8 z8;rw[W3 c4] at c3;have c3':w.cell? a=some cs[0]:=by simpa[Addr.add] using c3
      unfold World.cell? at c3';split at c3'
      ·rename_i c e' f' hb;split at c3'
       ·cases c3'
       ·rename_i hsp;refine ⟨?_,?_⟩
        ·cases e:a.spot with
         | none=>rfl
         | some k=>rw[e] at hsp;simp at hsp
        ·exact (Yg.1 hb).1
      ·cases c3'
     obtain ⟨ab,ao,asp⟩:=a;simp only at hspot;obtain ⟨rfl,hlt⟩:=hspot;have hadd:∀(i j:Nat),((⟨ab,ao,none⟩:Addr).add (i*(prog).cellsOf e) |>.add j)=⟨ab,ao+(i*(prog).cellsOf e+j),none⟩:=λi j=>by
      rw[add_plain,add_plain,Nat.add_assoc]
     refine .sl (some ⟨ab,ao,none⟩) len cap (l.map f) ((prog).cellsOf e) ab ao (λi j=>(w.cell? ⟨ab,ao+(i*(prog).cellsOf e+j),none⟩).getD undef) (by simp[l1,h4]) h2 (λrow hr=>?_) (λ_=>⟨rfl,hlt⟩) (λi j hi hj=>?_) (λi row hrow j x hx=>?_)
     ·obtain ⟨x,_,rfl⟩:=W8.1 hr;exact he.size x
     ·obtain ⟨_,x,cs,_,_,c3,c4⟩:=hcell i j z8 hj;rw[hadd,W3 c4] at c3;rw[c3];rfl
     ·rw[W5] at hrow;cases e1:l[i]? with
      | none=>rw[e1] at hrow;cases hrow
      | some x0=>
       rw[e1] at hrow;simp only[Option.map_some,gL] at hrow;subst hrow;have hi:i<l.length:=(W9.1 e1).1;have hj:j<(prog).cellsOf e:=by rw[<-he.size x0];exact (W9.1 hx).1
       obtain ⟨_,x1,cs,c1,c2,c3,c4⟩:=hcell i j hi hj;rw[e1] at c1;injection c1 with c1
       subst c1;have:=c2.2 j x hx;rw[hadd,W3 c4] at c3;simp only[c3,Option.getD_some]
       rwa [List.getD_eq_getElem?_getD,W3 c4] at this
theorem C1 (t:TypeId) (ht:(prog).underlying t=some (.int .i64)) (hs:tab.siz t=1):Rep t (λn:Int=>[AV.int .i64 n]) (λ_=>True) (λ_=>1):=
 ⟨(C2 ht (ZG hs x7)).size,λenc w n cs y h=>by
  obtain ⟨x,_,h2,h3⟩:=(C2 ht (ZG hs x7)).opn enc w n cs y h;exact ⟨x,trivial,h2,h3⟩⟩
theorem uJ {α:Type}:∀(l:List α),szL (λ_=>1) l=l.length
 | []=>rfl
 | x::r=>by simp only[szL,uJ r,List.length_cons];omega
theorem Ed:Rep 24 (λl:List UInt8=>[AV.sl (l.map ZY)]) (λ_=>True) (λl=>szL (λ_=>1) l+1):=
 ⟨λ_=>by rw[K9];rfl,λenc w n cs y h=>by
  obtain ⟨x,_,h2,h3⟩:=(qT (f:=ZY) (q:=λ_=>True) (sz:=(λ_=>1)) underlying24 (K9) (GD underlying5 (cT5)) (by rw[cT5];decide)).opn enc w n cs y h;exact ⟨x,trivial,h2,h3⟩⟩
theorem GF:Rep 40 (λl:List Int=>[AV.sl (l.map ZI)]) (λ_=>True) (λl=>szL (λ_=>1) l+1):=
 ⟨λ_=>by rw[Me];rfl,λenc w n cs y h=>by
  obtain ⟨x,_,h2,h3⟩:=(qT (f:=ZI) (q:=λ_=>True) (sz:=(λ_=>1)) underlying40 (Me) (C1 3 underlying3 rfl) (by rw[cT3];decide)).opn enc w n cs y h;exact ⟨x,trivial,h2,h3⟩⟩
def Step.sz (x:Step):Nat:=x.path.length+x.toPath.length+x.data.length+1
theorem GG:Rep 26 ZX (λ_=>True) Step.sz where
 size:=λx=>by rw[K_];rfl
 opn:=λenc w n cs y h=>by
  obtain ⟨xs,m,rfl,rfl,hl,hxl,hf⟩:=DataW.trod_struct underlying26 h;obtain ⟨y0,y1,y2,y3,y4,y5,rfl⟩:∃y0 y1 y2 y3 y4 y5,xs=[y0,y1,y2,y3,y4,y5]:=by
   have hxl:xs.length=6:=hxl
   match xs,hxl with
   | [a0,a1,a2,a3,a4,a5],_=>exact ⟨a0,a1,a2,a3,a4,a5,rfl⟩
  have e0:DataW.trod enc prog w 0 (λ_=>true) true m 3 ((cs.drop 0).take ((prog).cellsOf 3))=some y0:=hf 0 _ rfl;obtain ⟨x0,q0,s0,r0⟩:=(C1 3 underlying3 rfl).opn enc w m _ _ e0;rw[cT3] at r0;have e1:DataW.trod enc prog w 0 (λ_=>true) true m 3 ((cs.drop 1).take ((prog).cellsOf 3))=some y1:=hf 1 _ rfl;obtain ⟨x1,q1,s1,r1⟩:=(C1 3 underlying3 rfl).opn enc w m _ _ e1;rw[cT3] at r1;have e2:DataW.trod enc prog w 0 (λ_=>true) true m 3 ((cs.drop 2).take ((prog).cellsOf 3))=some y2:=hf 2 _ rfl;obtain ⟨x2,q2,s2,r2⟩:=(C1 3 underlying3 rfl).opn enc w m _ _ e2;rw[cT3] at r2;have e3:DataW.trod enc prog w 0 (λ_=>true) true m 9 ((cs.drop 3).take ((prog).cellsOf 9))=some y3:=hf 3 _ rfl;obtain ⟨x3,q3,s3,r3⟩:=(C3 underlying9 (cT9)).opn enc w m _ _ e3;rw[cT9] at r3;have e4:DataW.trod enc prog w 0 (λ_=>true) true m 9 ((cs.drop 4).take ((prog).cellsOf 9))=some y4:=hf 4 _ rfl;obtain ⟨x4,q4,s4,r4⟩:=(C3 underlying9 (cT9)).opn enc w m _ _ e4;rw[cT9] at r4;have e5:DataW.trod enc prog w 0 (λ_=>true) true m 24 ((cs.drop 5).take ((prog).cellsOf 24))=some y5:=hf 5 _ rfl;obtain ⟨x5,q5,s5,r5⟩:=(Ed).opn enc w m _ _ e5;rw[K9] at r5;refine ⟨⟨x0,x1,x2,x3,x4,x5⟩,trivial,?_,?_⟩
  ·simp only[uJ] at s5;simp only[Step.sz,Rows.uptoBulk,Rows.uptoBulkAll,List.map_cons,List.map_nil];omega
  ·have hl:cs.length=6:=by rw[hl,K_]
   have:=kT 0 1 r0 rfl (kT 1 1 r1 rfl (kT 2 1 r2 rfl (kT 3 1 r3 rfl (kT 4 1 r4 rfl (kT 5 1 r5 rfl (Jm hl))))));rw[List.drop_zero] at this;exact this
theorem Ee:Rep 28 (λl:List Step=>[AV.sl (l.map ZX)]) (λ_=>True) (λl=>szL Step.sz l+1):=
 ⟨λ_=>by rw[Md];rfl,λenc w n cs y h=>by
  obtain ⟨x,_,h2,h3⟩:=(qT (f:=ZX) (q:=λ_=>True) (sz:=Step.sz) underlying28 (Md) (GG) (by rw[K_];decide)).opn enc w n cs y h;exact ⟨x,trivial,h2,h3⟩⟩
theorem Ai {t:TypeId} {α:Type} {f:α->List AV} {q:α->Prop} {sz:α->Nat} (h:Rep t f q sz) {H:Type} {enc:TypeId×Value->H} {w:World} {v:Value} {d:DataW H} {ps:List MemPlace}
  (hd:DataW.Trod enc prog w 0 (λ_=>true) true t v d ps):∃x,q x/\sz x<=Rows.uptoBulk d/\RdC w v.cells.toList (f x):=by
 obtain ⟨n,hn⟩:=hd;exact h.opn enc w n _ _ hn
theorem CY {w:World} {v:Value} {x:AV} (h:RdC w v.cells.toList [x]) (hv:∀cs,v≠.agg cs):RdP (λb=>b<w.heap.size) w v x:=by
 have:=h.2 0 x rfl;cases v with
 | agg cs=>exact absurd rfl (hv cs)
 | _=>exact this
theorem FW {l:List Int} (h:szL (λ_=>1) l<=1048576):l.length<=100000000:=by rw[uJ] at h;omega
theorem G2 {l:List Step} (h:szL Step.sz l<=1048576):StepsOK l:=
 ⟨by have:=C' (sz:=Step.sz) (λr=>by unfold Step.sz;omega) l;omega,λx hx=>by
  have:=Da (sz:=Step.sz) hx;have h2:x.sz=x.path.length+x.toPath.length+x.data.length+1:=rfl;exact ⟨by omega,by omega⟩⟩
def put (w:World) (b:Nat) (l:List Value):World:=
 { w with heap:=w.heap.modify b fun
   | .cells _ t frozen=>.cells l.toArray t frozen
   | o=>o }
noncomputable def qG (os:Os):World:=
 put (put (World.holding prog os ⟨#[],#[],[]⟩) 1 (Pinned.utf8FirstZ.map λ(n:Nat)=>Value.int .u8 n)) 2 [.int .u8 128,.int .u8 191,.int .u8 160,.int .u8 191,.int .u8 128,.int .u8 159,.int .u8 144,.int .u8 191,.int .u8 128,.int .u8 143,.int .u8 0,.int .u8 0,.int .u8 0,.int .u8 0,.int .u8 0,.int .u8 0,.int .u8 0,.int .u8 0,.int .u8 0,.int .u8 0,.int .u8 0,.int .u8 0,.int .u8 0,.int .u8 0,.int .u8 0,.int .u8 0,.int .u8 0,.int .u8 0,.int .u8 0,.int .u8 0,.int .u8 0,.int .u8 0]
end La
