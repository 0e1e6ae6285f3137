/- Texts of this claim, part 13: OpnE, LaidG. No condition. -/
import Derived.ChangeArms
import Derived.Test.YtmcfbfdonjllaaaGreatDoorZR12
import Derived.Test.YtmcfbfdonjllaaaGreatDoorCards
import Derived.Test.YtmcfbfdonjllaaaGreatDoorTie
import Derived.Deep.DeepHandedRow
import Derived.Lib.LaidTab
set_option maxRecDepth 10000
set_option maxHeartbeats 4000000
set_option linter.unusedSimpArgs false
set_option linter.unusedVariables false
namespace La
open Go Go.Eng Go.Proofs Go.Proofs.YtmcfbfdonjllaaaGreatDoor Go.Proofs.Tryz
def RdC (w:World) (cs:List Value) (xs:List AV):Prop:=cs.length=xs.length/\∀(j:Nat) y,xs[j]? = some y->RdP (λb=>b<w.heap.size) w (cs.getD j undef) y
theorem Jz {w:World} {cs:List Value} {off:Nat} (h:cs.length=off):RdC w (cs.drop off) []:=
 ⟨by simp;omega,λj y hj=>by simp at hj⟩
theorem kX {w:World} {cs:List Value} {xs ys:List AV} (off s:Nat) (h:RdC w ((cs.drop off).take s) xs) (hs:xs.length=s) (k:RdC w (cs.drop (off+s)) ys):RdC w (cs.drop off) (xs++ys):=by
 obtain ⟨h1,h2⟩:=h;obtain ⟨k1,k2⟩:=k;have hl:(cs.drop off).length=s+(cs.drop (off+s)).length:=by
  simp only[YA,YX] at h1 k1 ⊢;omega
 refine ⟨by rw[List.length_append,hl,hs,k1],λj y hj=>?_⟩
 by_cases hjs:j<s
 ·rw[YP z8] at hj;have:=h2 j y hj
  rwa [List.getD_eq_getElem?_getD,YU,if_pos hjs,<-List.getD_eq_getElem?_getD] at this
 ·rw[YO z8,hs] at hj;have:=k2 (j-s) y hj;rw[List.getD_eq_getElem?_getD,List.getElem?_drop] at this;rw[List.getD_eq_getElem?_getD,List.getElem?_drop]
  rwa [show off+s+(j-s)=off+j from by omega] at this
structure Rep (t:TypeId) {α:Type} (f:α->List AV) (q:α->Prop) (sz:α->Nat):Prop where
 size:∀x,(f x).length=(prog).cellsOf t
 opn:∀{H:Type} (enc:TypeId×Value->H) (w:World) (n:Nat) (cs:List Value) (y:DataW H×List MemPlace),DataW.trod enc prog w 0 (λ_=>true) true n t cs=some y ->
  ∃x:α,q x/\sz x<=Rows.uptoBulk y.1/\RdC w cs (f x)
theorem ZG {t:TypeId} {n:Nat} (h:tab.siz t=n) (h0:n≠0):(prog).cellsOf t=n:=by
 obtain ⟨i,h1,h2,_⟩:=tK.siz t (by rw[h];exact h0);unfold Program.cellsOf;rw[h1];simp[h2,h]
theorem cT3:(prog).cellsOf 3=1:=ZG (t:=3) (n:=1) rfl j8
theorem cT4:(prog).cellsOf 4=1:=ZG (t:=4) (n:=1) rfl j8
theorem cT5:(prog).cellsOf 5=1:=ZG (t:=5) (n:=1) rfl j8
theorem cT9:(prog).cellsOf 9=1:=ZG (t:=9) (n:=1) rfl j8
theorem Ln:(prog).cellsOf 24=1:=ZG (t:=24) (n:=1) rfl j8
theorem Lo:(prog).cellsOf 26=6:=ZG (t:=26) (n:=6) rfl j8
theorem Mo:(prog).cellsOf 28=1:=ZG (t:=28) (n:=1) rfl j8
theorem Mp:(prog).cellsOf 40=1:=ZG (t:=40) (n:=1) rfl j8
theorem Dh {t:TypeId} (ht:(prog).underlying t=some (.int .i64)) (hs:(prog).cellsOf t=1):Rep t (λn:Int=>[AV.int .i64 n]) (λn=>-9223372036854775808<=n/\n<=9223372036854775807) (λ_=>1) where
 size:=λ_=>by rw[hs];rfl
 opn:=λenc w n cs y h=>by
  obtain ⟨m,rfl,rfl,hw⟩:=DataW.trod_int ht h;refine ⟨m,?_,by simp[Rows.uptoBulk],rfl,λj y hj=>?_⟩
  ·simpa[Lit.wf,IntKind.min,IntKind.max,IntKind.bits,IntKind.signed] using hw
  ·cases j with
   | zero=>simp only[List.getElem?_cons_zero,gL] at hj;subst hj;exact .int _ _
   | succ j=>simp at hj
theorem Dj {t:TypeId} (ht:(prog).underlying t=some .string) (hs:(prog).cellsOf t=1):Rep t (λs:List UInt8=>[AV.str s]) (λ_=>True) (λs=>s.length+1) where
 size:=λ_=>by rw[hs];rfl
 opn:=λenc w n cs y h=>by
  obtain ⟨s,rfl,rfl,_⟩:=DataW.trod_string ht h;refine ⟨s.data.toList,trivial,by simp[Rows.uptoBulk],rfl,λj y hj=>?_⟩;cases j with
  | zero=>simp only[List.getElem?_cons_zero,gL] at hj;subst hj;exact .str _ _ rfl
  | succ j=>simp at hj
theorem GX {t:TypeId} (ht:(prog).underlying t=some (.int .u8)) (hs:(prog).cellsOf t=1):Rep t ZY (λ_=>True) (λ_=>1) where
 size:=λ_=>by rw[hs];rfl
 opn:=λenc w n cs y h=>by
  obtain ⟨m,rfl,rfl,hw⟩:=DataW.trod_int ht h;have hb:0<=m/\m<=255:=by simpa[Lit.wf,IntKind.min,IntKind.max,IntKind.bits,IntKind.signed] using hw
  refine ⟨UInt8.ofNat m.toNat,trivial,by simp[Rows.uptoBulk],rfl,λj y hj=>?_⟩;cases j with
  | zero=>
   simp only[ZY,List.getElem?_cons_zero,gL] at hj;subst hj;have:((UInt8.ofNat m.toNat).toNat:Int)=m:=by
    rw[UInt8.toNat_ofNat'];omega
   rw[this];exact .int _ _
  | succ j=>simp[ZY] at hj
def szL {α:Type} (sz:α->Nat):List α->Nat
 | []=>0
 | x::r=>sz x+szL sz r
theorem Dt {α:Type} {sz:α->Nat} {x:α}:∀{l:List α},x∈l->sz x<=szL sz l
 | y::r,h=>by
  rcases List.mem_cons.1 h with rfl | h
  ·simp only[szL];omega
  ·have:=Dt (sz:=sz) h;simp only[szL];omega
theorem Ds {α:Type} {sz:α->Nat} (h:∀x,1<=sz x):∀(l:List α),l.length<=szL sz l
 | []=>W7 _
 | x::r=>by have:=Ds h r;have:=h x;simp only[szL,List.length_cons];omega
theorem wH {α H:Type} {q:α->Prop} {sz:α->Nat} {R:Nat->α->Prop}:∀(elems:List (DataW H×List MemPlace)) (i0:Nat),(∀(i:Nat) y,elems[i]? = some y->∃x,q x/\sz x<=Rows.uptoBulk y.1/\R (i0+i) x) ->
  ∃l:List α,l.length=elems.length/\(∀x,x∈l->q x)/\szL sz l<=Rows.uptoBulkAll (elems.map (·.1))/\∀(i:Nat) x,l[i]? = some x->R (i0+i) x
 | [],_,_=>⟨[],rfl,λx h=>by simp at h,by simp[szL],λi x h=>by simp at h⟩
 | y::r,i0,h=>by
  obtain ⟨x,h1,h2,h3⟩:=h 0 y rfl;obtain ⟨l,k1,k2,k3,k4⟩:=wH (R:=R) r (i0+1) (λi z hz=>by rw[show i0+1+i=i0+(i+1) from by omega];exact h (i+1) z Za);refine ⟨x::l,by simp[k1],λz hz=>?_,?_,λi z hz=>?_⟩
  ·rcases List.mem_cons.1 hz with rfl | hz
   ·exact h1
   ·exact k2 z hz
  ·simp only[szL,List.map_cons,Rows.uptoBulkAll];omega
  ·cases i with
   | zero=>simp only[List.getElem?_cons_zero,gL] at hz;subst hz;exact h3
   | succ i=>rw[show i0+(i+1)=i0+1+i from by omega];exact k4 i z Za
theorem Bo {w:World} {a:Addr} {n:Nat} {cs:List Value} (h:w.cells? 0 a n=some cs):cs.length=n/\∀i,i<n->w.cell? (a.add i)=cs[i]?:=by
 unfold World.cells? at h;rw[if_pos (Yp _)] at h;have hl:=mapM_some_length h;refine ⟨by simpa using hl,λi hi=>?_⟩;exact mapM_some_get h i i (by simp[hi])
theorem qR {t e:TypeId} {α:Type} {f:α->List AV} {q:α->Prop} {sz:α->Nat} (ht:(prog).underlying t=some (.slice e)) (hs:(prog).cellsOf t=1) (he:Rep e f q sz) (hsz:(prog).cellsOf e≠0) :
  Rep t (λl:List α=>[AV.sl (l.map f)]) (λl=>∀x,x∈l->q x) (λl=>szL sz l+1) where
 size:=λ_=>by rw[hs];rfl
 opn:=λenc w n cs y h=>by
  rcases DataW.trod_slice ht h with ⟨rfl,rfl⟩ | ⟨a,len,cap,elems,rest,m,rfl,rfl,rfl,h1,h2,h3,h4,h5,_⟩
  ·refine ⟨[],λx hx=>by simp at hx,by simp[szL,Rows.uptoBulk],rfl,λj y hj=>?_⟩;cases j with
   | zero=>
    simp only[List.map_nil,List.getElem?_cons_zero,gL] at hj;subst hj;exact .sl none 0 0 [] 0 0 0 (λ_ _=>undef) rfl (W7 _) (λrow h=>by simp at h) (λh=>by omega) (λi j h=>by omega) (λi row h=>by simp at h)
   | succ j=>simp at hj
  ·have key:∀(i:Nat) y,elems[i]? = some y->∃x,q x/\sz x<=Rows.uptoBulk y.1/\(∃cs,w.cells? 0 (a.add ((0+i)*(prog).cellsOf e)) ((prog).cellsOf e)=some cs/\RdC w cs (f x)):=λi y hy=>by
    have hi:i<len:=by rw[<-h4];exact (W6.1 hy).1
    have:=h5 i hi;rw[hy] at this;obtain ⟨cs,k1,k2⟩:=Option.bind_eq_some_iff.1 this;obtain ⟨x,q1,q2,q3⟩:=he.opn enc w m cs y k2;exact ⟨x,q1,q2,cs,by rw[Yc];exact k1,q3⟩
   obtain ⟨l,l1,l2,l3,l4⟩:=wH (q:=q) (sz:=sz) (R:=λi x=>∃cs,w.cells? 0 (a.add (i*(prog).cellsOf e)) ((prog).cellsOf e)=some cs/\RdC w cs (f x)) elems 0 key;refine ⟨l,l2,by simp only[Rows.uptoBulk];omega,rfl,λj y hj=>?_⟩;cases j with
   | succ j=>simp at hj
   | zero=>
    simp only[List.getElem?_cons_zero,gL] at hj;subst hj;have hcell:∀i j,i<l.length->j<(prog).cellsOf e->∃(b:a.spot=none\/True) (x:α) (cs:List Value),l[i]? = some x/\RdC w cs (f x)/\w.cell? (a.add (i*(prog).cellsOf e) |>.add j)=cs[j]?/\j<cs.length:=λi j hi hj=>by
     obtain ⟨cs,k1,k2⟩:=l4 i l[i] (Wz hi);obtain ⟨c1,c2⟩:=Bo k1;rw[Yc] at c2;exact ⟨.inr trivial,l[i],cs,Wz hi,k2,c2 j hj,by omega⟩
    by_cases h0:l.length=0
    ·have:l=[]:=List.eq_nil_of_length_eq_zero h0;subst this;simp only[List.map_nil];have e0:len=0:=by rw[<-h4,<-l1];rfl
     subst e0;exact .sl (some a) 0 cap [] 0 0 0 (λ_ _=>undef) rfl (Yp _) (λrow h=>by simp at h) (λh=>by omega) (λi j h=>by omega) (λi row h=>by simp at h)
    ·have hspot:a.spot=none/\a.block<w.heap.size:=by
      obtain ⟨_,x,cs,_,_,c3,c4⟩:=hcell 0 0 z8 z8;rw[Wz c4] at c3;have c3':w.cell? a=some cs[0]:=by simpa[Addr.add] using c3
      unfold World.cell? at c3';split at c3'
      ·rename_i c e' f' hb;split at c3'
       ·cases c3'
       ·rename_i hsp;refine ⟨?_,?_⟩
        ·cases e:a.spot with
         | none=>rfl
         | some k=>rw[e] at hsp;simp at hsp
        ·exact (Ye.1 hb).1
      ·cases c3'
     obtain ⟨ab,ao,asp⟩:=a;simp only at hspot;obtain ⟨rfl,hlt⟩:=hspot;have hadd:∀(i j:Nat),((⟨ab,ao,none⟩:Addr).add (i*(prog).cellsOf e) |>.add j)=⟨ab,ao+(i*(prog).cellsOf e+j),none⟩:=λi j=>by
      rw[add_plain,add_plain,Nat.add_assoc]
     refine .sl (some ⟨ab,ao,none⟩) len cap (l.map f) ((prog).cellsOf e) ab ao (λi j=>(w.cell? ⟨ab,ao+(i*(prog).cellsOf e+j),none⟩).getD undef) (by simp[l1,h4]) h2 (λrow hr=>?_) (λ_=>⟨rfl,hlt⟩) (λi j hi hj=>?_) (λi row hrow j x hx=>?_)
     ·obtain ⟨x,_,rfl⟩:=W5.1 hr;exact he.size x
     ·obtain ⟨_,x,cs,_,_,c3,c4⟩:=hcell i j z8 hj;rw[hadd,Wz c4] at c3;rw[c3];rfl
     ·rw[W2] at hrow;cases e1:l[i]? with
      | none=>rw[e1] at hrow;cases hrow
      | some x0=>
       rw[e1] at hrow;simp only[Option.map_some,gL] at hrow;subst hrow;have hi:i<l.length:=(W6.1 e1).1;have hj:j<(prog).cellsOf e:=by rw[<-he.size x0];exact (W6.1 hx).1
       obtain ⟨_,x1,cs,c1,c2,c3,c4⟩:=hcell i j hi hj;rw[e1] at c1;injection c1 with c1
       subst c1;have:=c2.2 j x hx;rw[hadd,Wz c4] at c3;simp only[c3,Option.getD_some]
       rwa [List.getD_eq_getElem?_getD,Wz c4] at this
theorem Dg (t:TypeId) (ht:(prog).underlying t=some (.int .i64)) (hs:tab.siz t=1):Rep t (λn:Int=>[AV.int .i64 n]) (λ_=>True) (λ_=>1):=
 ⟨(Dh ht (ZG hs j8)).size,λenc w n cs y h=>by
  obtain ⟨x,_,h2,h3⟩:=(Dh ht (ZG hs j8)).opn enc w n cs y h;exact ⟨x,trivial,h2,h3⟩⟩
theorem uN {α:Type}:∀(l:List α),szL (λ_=>1) l=l.length
 | []=>rfl
 | x::r=>by simp only[szL,uN r,List.length_cons];omega
theorem Ew:Rep 24 (λl:List UInt8=>[AV.sl (l.map ZY)]) (λ_=>True) (λl=>szL (λ_=>1) l+1):=
 ⟨λ_=>by rw[Ln];rfl,λenc w n cs y h=>by
  obtain ⟨x,_,h2,h3⟩:=(qR (f:=ZY) (q:=λ_=>True) (sz:=(λ_=>1)) underlying24 (Ln) (GX underlying5 (cT5)) (by rw[cT5];decide)).opn enc w n cs y h;exact ⟨x,trivial,h2,h3⟩⟩
theorem GY:Rep 40 (λl:List Int=>[AV.sl (l.map ZI)]) (λ_=>True) (λl=>szL (λ_=>1) l+1):=
 ⟨λ_=>by rw[Mp];rfl,λenc w n cs y h=>by
  obtain ⟨x,_,h2,h3⟩:=(qR (f:=ZI) (q:=λ_=>True) (sz:=(λ_=>1)) underlying40 (Mp) (Dg 3 underlying3 rfl) (by rw[cT3];decide)).opn enc w n cs y h;exact ⟨x,trivial,h2,h3⟩⟩
def Step.sz (x:Step):Nat:=x.path.length+x.toPath.length+x.data.length+1
theorem GZ:Rep 26 ZX (λ_=>True) Step.sz where
 size:=λx=>by rw[Lo];rfl
 opn:=λenc w n cs y h=>by
  obtain ⟨xs,m,rfl,rfl,hl,hxl,hf⟩:=DataW.trod_struct underlying26 h;obtain ⟨y0,y1,y2,y3,y4,y5,rfl⟩:∃y0 y1 y2 y3 y4 y5,xs=[y0,y1,y2,y3,y4,y5]:=by
   have hxl:xs.length=6:=hxl
   match xs,hxl with
   | [a0,a1,a2,a3,a4,a5],_=>exact ⟨a0,a1,a2,a3,a4,a5,rfl⟩
  have e0:DataW.trod enc prog w 0 (λ_=>true) true m 3 ((cs.drop 0).take ((prog).cellsOf 3))=some y0:=hf 0 _ rfl;obtain ⟨x0,q0,s0,r0⟩:=(Dg 3 underlying3 rfl).opn enc w m _ _ e0;rw[cT3] at r0;have e1:DataW.trod enc prog w 0 (λ_=>true) true m 3 ((cs.drop 1).take ((prog).cellsOf 3))=some y1:=hf 1 _ rfl;obtain ⟨x1,q1,s1,r1⟩:=(Dg 3 underlying3 rfl).opn enc w m _ _ e1;rw[cT3] at r1;have e2:DataW.trod enc prog w 0 (λ_=>true) true m 3 ((cs.drop 2).take ((prog).cellsOf 3))=some y2:=hf 2 _ rfl;obtain ⟨x2,q2,s2,r2⟩:=(Dg 3 underlying3 rfl).opn enc w m _ _ e2;rw[cT3] at r2;have e3:DataW.trod enc prog w 0 (λ_=>true) true m 9 ((cs.drop 3).take ((prog).cellsOf 9))=some y3:=hf 3 _ rfl;obtain ⟨x3,q3,s3,r3⟩:=(Dj underlying9 (cT9)).opn enc w m _ _ e3;rw[cT9] at r3;have e4:DataW.trod enc prog w 0 (λ_=>true) true m 9 ((cs.drop 4).take ((prog).cellsOf 9))=some y4:=hf 4 _ rfl;obtain ⟨x4,q4,s4,r4⟩:=(Dj underlying9 (cT9)).opn enc w m _ _ e4;rw[cT9] at r4;have e5:DataW.trod enc prog w 0 (λ_=>true) true m 24 ((cs.drop 5).take ((prog).cellsOf 24))=some y5:=hf 5 _ rfl;obtain ⟨x5,q5,s5,r5⟩:=(Ew).opn enc w m _ _ e5;rw[Ln] at r5;refine ⟨⟨x0,x1,x2,x3,x4,x5⟩,trivial,?_,?_⟩
  ·simp only[uN] at s5;simp only[Step.sz,Rows.uptoBulk,Rows.uptoBulkAll,List.map_cons,List.map_nil];omega
  ·have hl:cs.length=6:=by rw[hl,Lo]
   have:=kX 0 1 r0 rfl (kX 1 1 r1 rfl (kX 2 1 r2 rfl (kX 3 1 r3 rfl (kX 4 1 r4 rfl (kX 5 1 r5 rfl (Jz hl))))));rw[List.drop_zero] at this;exact this
theorem Ex:Rep 28 (λl:List Step=>[AV.sl (l.map ZX)]) (λ_=>True) (λl=>szL Step.sz l+1):=
 ⟨λ_=>by rw[Mo];rfl,λenc w n cs y h=>by
  obtain ⟨x,_,h2,h3⟩:=(qR (f:=ZX) (q:=λ_=>True) (sz:=Step.sz) underlying28 (Mo) (GZ) (by rw[Lo];decide)).opn enc w n cs y h;exact ⟨x,trivial,h2,h3⟩⟩
theorem As {t:TypeId} {α:Type} {f:α->List AV} {q:α->Prop} {sz:α->Nat} (h:Rep t f q sz) {H:Type} {enc:TypeId×Value->H} {w:World} {v:Value} {d:DataW H} {ps:List MemPlace}
  (hd:DataW.Trod enc prog w 0 (λ_=>true) true t v d ps):∃x,q x/\sz x<=Rows.uptoBulk d/\RdC w v.cells.toList (f x):=by
 obtain ⟨n,hn⟩:=hd;exact h.opn enc w n _ _ hn
theorem Dd {w:World} {v:Value} {x:AV} (h:RdC w v.cells.toList [x]) (hv:∀cs,v≠.agg cs):RdP (λb=>b<w.heap.size) w v x:=by
 have:=h.2 0 x rfl;cases v with
 | agg cs=>exact absurd rfl (hv cs)
 | _=>exact this
theorem Gf {l:List Int} (h:szL (λ_=>1) l<=1048576):l.length<=100000000:=by rw[uN] at h;omega
theorem Hi {l:List Step} (h:szL Step.sz l<=1048576):StepsOK l:=
 ⟨by have:=Ds (sz:=Step.sz) (λr=>by unfold Step.sz;omega) l;omega,λx hx=>by
  have:=Dt (sz:=Step.sz) hx;have h2:x.sz=x.path.length+x.toPath.length+x.data.length+1:=rfl;exact ⟨by omega,by omega⟩⟩
def put (w:World) (b:Nat) (l:List Value):World:=
 { w with heap:=w.heap.modify b fun
   | .cells _ t frozen=>.cells l.toArray t frozen
   | o=>o }
noncomputable def qE (os:Os):World:=
 put (put (World.holding prog os ⟨#[],#[],[]⟩) 1 (Pinned.utf8FirstZ.map λ(n:Nat)=>Value.int .u8 n)) 2 [.int .u8 128,.int .u8 191,.int .u8 160,.int .u8 191,.int .u8 128,.int .u8 159,.int .u8 144,.int .u8 191,.int .u8 128,.int .u8 143,.int .u8 0,.int .u8 0,.int .u8 0,.int .u8 0,.int .u8 0,.int .u8 0,.int .u8 0,.int .u8 0,.int .u8 0,.int .u8 0,.int .u8 0,.int .u8 0,.int .u8 0,.int .u8 0,.int .u8 0,.int .u8 0,.int .u8 0,.int .u8 0,.int .u8 0,.int .u8 0,.int .u8 0,.int .u8 0]
end La
