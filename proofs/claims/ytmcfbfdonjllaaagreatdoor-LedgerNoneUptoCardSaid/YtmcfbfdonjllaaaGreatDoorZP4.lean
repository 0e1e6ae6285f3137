/- Texts of this claim, part 4: EngX, EngY, EngJ. No condition. -/
import Derived.Test.YtmcfbfdonjllaaaGreatDoorZP3
set_option maxRecDepth 10000
set_option maxHeartbeats 4000000
set_option linter.unusedSimpArgs false
set_option linter.unusedVariables false
namespace Go.Eng
section
variable {P:Program} {T:Tab} {C:Ctx} {μ:Nat->Option Nat} {S:Nat->Prop} {σ:St} {a:Act} {w:World}
theorem Inv.IJ (hi:Inv C μ S σ a w) {H:List (Nat×Blk)} (h:∀id,aa H id=aa σ.hp id):Inv C μ S ⟨σ.tm,H⟩ a w:=
 ⟨hi.size,hi.defers,hi.tm,λid b hb=>hi.hp id b ((h id).symm.trans hb),λid g hg=>by
  obtain ⟨⟨b,k1⟩,k2⟩:=hi.dom id g hg;exact ⟨⟨b,(h id).trans k1⟩,k2⟩,hi.inj,hi.frm,hi.sb⟩
def aY (rows:List (List AV)) (off:Nat) (new:List (List AV)):List (List AV):=rows.take off++new++rows.drop (off+new.length)
theorem eb {rows new:List (List AV)} {off:Nat} (h:off+new.length<=rows.length):(aY rows off new).length=rows.length:=by
 simp[aY];omega
theorem pE {rows new:List (List AV)} {off:Nat} (h:off+new.length<=rows.length) (i:Nat) :
  (aY rows off new)[i]? = if off<=i/\i<off+new.length then new[i-off]? else rows[i]?:=by
 unfold aY;have hl:(rows.take off).length=off:=by simp;omega
 by_cases h1:i<off
 ·rw[if_neg z8,List.append_assoc,YU z8,YW,if_pos h1]
 ·by_cases h2:i<off+new.length
  ·rw[if_pos z8,List.append_assoc,YQ z8,hl,YU z8]
  ·rw[if_neg z8,YQ k6,List.getElem?_drop]
   congr 1
   simp;omega
theorem lV (hi:Inv C μ S σ a w) {id e s off g:Nat} {rows new:List (List AV)} {vs:List Value} (hb:aa σ.hp id=some (.cells e s rows)) (hg:μ id=some g)
  (hoff:off+new.length<=rows.length) (hl:vs.length=new.length*s) (hrl:∀row,row∈new->row.length=s) (h1:∀u,u∈vs->u.oneCell'=true)
  (hr:∀(i:Nat) row,new[i]? = some row->∀(j:Nat) x,row[j]? = some x->Rd μ S w (vs.getD (i*s+j) undef) x) :
  ∃w',(storeCells ⟨g,off*s,none⟩ vs).run P w=.ok () w'/\Inv C μ S ⟨σ.tm,aF σ.hp id (.cells e s (aY rows off new))⟩ a w':=by
 rcases hi.hp id _ hb with ⟨_,k⟩ | ⟨g',c,k1,k2,k3,k4,k5⟩
 ·rw[k] at hg;cases hg
 ·rw[k1] at hg;injection hg with hg;subst hg
  have hle:(off+new.length)*s<=rows.length*s:=YM _ hoff;rw[Nat.add_mul] at hle;obtain ⟨w',r1,r2,r3,r4,r5,r6,c',r7,r8,r9⟩:=eY (P:=P) g' (off*s) e vs 0 w c k2 h1 (by rw[hl];omega);refine ⟨w',r1,?_⟩;have hrs:ag w' g'=ag w g':=by simp[ag,r7,k2,r8]
  have hS:¬S g':=(hi.dom id g' k1).2.2.1;have hw:aI S w w':=λb hb=>r6 b Qa
  have hz':∀i q,μ i=some q->ag w' q=ag w q:=λi q _=>by
   by_cases e:q=g'
   ·subst e;exact hrs
   ·exact aN (r6 q e)
  have hmono:∀{v x},Rd μ S w v x->Rd μ S w' v x:=λh=>h.mono hw (λ_ h=>h) (λ_ _ h=>h) hz'
  refine hi.write id g' k1 r2 r3 r4 r5 r6 hrs _ (.inr ⟨g',c',k1,r7,by rw[eb hoff,r8];exact k3,λq hq=>?_,λi q hq j y hy=>?_⟩)
  ·obtain ⟨i,hi'⟩:=YC hq;rw[pE hoff] at hi';split at hi'
   ·exact hrl q (W6 hi')
   ·exact k4 q (W6 hi')
  ·rw[pE hoff] at hq;rw[r9];split at hq
   ·rename_i hin;have hj:j<s:=by
     by_cases h:j<s
     ·exact h
     ·rw[List.getElem?_eq_none (by rw[hrl q (W6 hq)];omega)] at hy;cases hy
    have hlt:=iK (size:=s) hq;have e1:i*s+j=off*s+((i-off)*s+j):=by
     rw[<-Nat.add_assoc,<-Nat.add_mul,show off+(i-off)=i from by omega]
    rw[if_pos z8,show i*s+j-(off*s+0)=(i-off)*s+j from by omega];exact hmono (hr _ q hq j y hy)
   ·rename_i hout;have hj:j<s:=by
     by_cases h:j<s
     ·exact h
     ·rw[List.getElem?_eq_none (by rw[k4 q (W6 hq)];omega)] at hy;cases hy
    have hk:¬(off*s+0<=i*s+j/\i*s+j<off*s+0+vs.length):=by
     rw[hl]
     by_cases h:i<off
     ·have:=YM s (show i+1<=off by omega);rw[Y5] at this;omega
     ·have:=YM s (show off+new.length<=i by omega);rw[Nat.add_mul] at this;omega
    rw[if_neg hk];exact hmono (k5 i q hq j y hy)
def o_ (T:Tab) (σ:St) (t:TypeId) (x:AV):Option (Prop×List (Nat×Blk)):=
 match T.und t,x with
 | .sl _,.nils=>some (True,σ.hp)
 | .sl e,.osl id s off len=>
  match aa σ.hp id with
  | some (.cells e' s' rows)=>
   if s'=s then some (T.siz e=s/\s≠0/\(T.zer e).all AV.leaf=true/\off+len<=rows.length,aF σ.hp id (.cells e' s' (aY rows off (List.replicate len (T.zer e)))))
   else none
  | _=>none
 | _,_=>none
theorem vU {σ:St} {id:Nat} {b:Blk} (hb:aa σ.hp id=some b):∀i,aa (aF σ.hp id b) i=aa σ.hp i:=λi=>by
 rw[aj];split
 ·rename_i e;subst e;exact hb.symm
 ·rfl
theorem pF (rows:List (List AV)) (off:Nat):aY rows off []=rows:=by simp[aY]
theorem AF (hT:TabOK P T) (hi:Inv C μ S σ a w) {t ty:TypeId} {v:Value} {x:AV} {p:Prop} {hp':List (Nat×Blk)} (h:o_ T σ t x=some (p,hp')) (hp:p) (hv:Rd μ S w v x) :
  ∃w',(Builtin.clear_ #[t] ty #[v]).run P w=.ok (.tuple #[]) w'/\Inv C μ S ⟨σ.tm,hp'⟩ a w':=by
 unfold o_ at h;have ht:=hT.und t;split at h
 ·rename_i e hu;rw[hu] at ht;simp only[jO] at ht;simp only[gL,gM] at h;obtain ⟨_,rfl⟩:=h;obtain rfl:=hv.gf;exact ⟨w,by simp[Builtin.clear_,run_underlying ht],hi⟩
 ·rename_i e id s off len hu;rw[hu] at ht;simp only[jO] at ht;split at h
  ·rename_i e' s' rows hb;split at h
   ·rename_i hss;subst hss;simp only[gL,gM] at h;obtain ⟨rfl,rfl⟩:=h;obtain ⟨hz,hz0,hleaf,hle⟩:=hp;subst hz;obtain ⟨A,cap,rfl,hc,hor⟩:=hv.bT
    by_cases h0:len=0
    ·subst h0;refine ⟨w,by cases A<;>simp[Builtin.clear_,run_underlying ht],hi.IJ λi=>?_⟩;rw[List.replicate_zero,pF];exact vU hb i
    ·rcases hor with ⟨h1,_⟩ | ⟨g,e2,n,h1,rfl,h3,h4⟩
     ·exact absurd h1 h0
     ·obtain ⟨z,z1,z2,z3⟩:=nP hT (e:=e) len hz0;have e5:Builtin.zeroCells z.cells len=(Array.range (len*T.siz e)).map (z.cells[· % z.cells.size]!):=by rw[Builtin.zeroCells,z2]
      have hr:=z3 μ S w;rw[<-e5] at hr;generalize hzs:Builtin.zeroCells z.cells len=zs at hr;clear e5 z3;obtain ⟨q1,q2,q3⟩:=hr;simp only[Yx] at q1;have hs0:0<T.siz e:=by omega
      have hzl:(T.zer e).length=T.siz e:=q2 (T.zer e) (Y1.2 ⟨h0,rfl⟩);obtain ⟨w',r1,r2⟩:=lV (P:=P) hi (off:=off) (new:=List.replicate len (T.zer e)) (vs:=zs.toList) hb h1 (by simpa using hle)
       (by rw[Array.length_toList,q1];simp) (λrow hrow=>q2 row hrow) (λu hu=>by
        obtain ⟨k,hk⟩:=YC hu;have hk':k<len*T.siz e:=by
         have:=(W9.1 hk).1;rw[Array.length_toList,q1] at this;exact this
        have hdiv:k / T.siz e<len:=(Nat.div_lt_iff_lt_mul hs0).2 hk';have hmod:=Nat.mod_lt k hs0;have:=q3 (k / T.siz e) (T.zer e) (by rw[Y0,if_pos hdiv]) (k % T.siz e) ((T.zer e).getD (k % T.siz e) .any) (by
         rw[List.getD_eq_getElem?_getD,W3 z8];rfl)
        have e3:k / T.siz e*T.siz e+k % T.siz e=k:=by rw[Nat.mul_comm];exact Nat.div_add_mod k (T.siz e)
        rw[e3] at this;have e4:zs.getD k undef=u:=by
         rw[Array.getD_eq_getD_getElem?,<-Array.getElem?_toList,hk];rfl
        rw[e4] at this;exact this.leaf (List.all_eq_true.1 hleaf _ (by rw[List.getD_eq_getElem?_getD,W3 z8];exact YY _)))
       (λi row hrow j x hx=>by
        have:=q3 i row hrow j x hx
        rwa [Array.getD_eq_getD_getElem?,<-Array.getElem?_toList,<-List.getD_eq_getElem?_getD] at this)
      refine ⟨w',?_,r2⟩;obtain ⟨m,rfl⟩:∃m,len=m+1:=⟨len-1,by omega⟩;simp[Builtin.clear_,run_underlying ht,z1,hzs,r1]
   ·cases h
  ·cases h
 ·cases h
theorem Cn {size n:Nat} {v:Value} {rows:List (List AV)} {vs:List Value} (h:Src μ S w size v rows vs) (hl:ec (rows.take n)=true):∀u,u∈vs.take (min rows.length n*size)->u.oneCell'=true:=by
 intro u hu;obtain ⟨k,hk⟩:=YC hu;rw[YW] at hk;split at hk
 ·rename_i hkn;have hsz:0<size:=by
   rcases Nat.eq_zero_or_pos size with h' | h'
   ·subst h';omega
   ·exact h'
  have hi:k / size<min rows.length n:=by rw[Nat.div_lt_iff_lt_mul hsz];exact hkn
  have hrow:rows[k / size]? = some (rows[k / size]'z8):=W3 z8;have hm:=Nat.mod_lt k hsz;have hrl:(rows[k / size]'z8).length=size:=h.rlen _ (W6 hrow);have hx:(rows[k / size]'z8)[k % size]? = some ((rows[k / size]'z8)[k % size]'z8):=W3 z8;have:=h.rd _ _ hrow _ _ hx;rw[Nat.div_add_mod',List.getD_eq_getElem?_getD,hk] at this;have hmem:(rows[k / size]'z8)∈rows.take n:=by
   refine W6 (i:=k / size) ?_;rw[YW,if_pos z8];exact hrow
  exact this.leaf (List.all_eq_true.1 (List.all_eq_true.1 hl _ hmem) _ (W6 hx))
 ·cases hk
theorem B4 {size n:Nat} {v:Value} {rows:List (List AV)} {vs:List Value} (h:Src μ S w size v rows vs) (hn:n<=rows.length):(Builtin.firstCells size n v).run P w=.ok (vs.take (n*size)).toArray w:=by
 obtain ⟨A,cap,rfl,hf⟩:=h.form;have hle:n*size<=rows.length*size:=YM _ hn
 by_cases h0:0<rows.length
 ·obtain ⟨g,o,rfl,hc⟩:=hf h0;have:=run_loadCells_list (P:=P) (w:=w) ⟨g,o,none⟩ (vs.take (n*size)) (λj u hu=>by
   rw[YW] at hu;split at hu
   ·rw[add_plain];exact hc j u hu
   ·cases hu)
  rw[YF,h.len,Yu hle] at this;simpa[Builtin.firstCells] using this
 ·have e:n=0:=by omega
  subst e;cases A with
  | none=>simp[Builtin.firstCells]
  | some ad=>simp[Builtin.firstCells,Go.loadCells,Go.loadCellsFrom]
def tp (T:Tab) (σ:St) (t:TypeId) (x y:AV):Option (Prop×List (Nat×Blk)×AV):=
 match T.und t,cP σ y,x with
 | .sl e,some R,.osl id s off len=>
  match aa σ.hp id with
  | some (.cells e' s' rows)=>
   if s'=s then some (T.siz e=s/\s≠0/\rowsOf s R/\(∀id s off len,y=.osl id s off len->R.length=len)/\ec (R.take len)=true/\off+len<=rows.length,
    aF σ.hp id (.cells e' s' (aY rows off (R.take len))),.int .i64 (min R.length len:Nat))
   else none
  | _=>none
 | _,_,_=>none
theorem GR (hT:TabOK P T) {t e u ty:TypeId} (ht:P.underlying t=some (.slice e)) (hz:T.siz e≠0) (A B:Option Addr) (len cap lenB capB:Nat) {vs:List Value}
  (hf:(Builtin.firstCells (T.siz e) (min lenB len) (.slice B lenB capB)).run P w=.ok vs.toArray w) :
  (Builtin.copy_ #[t,u] ty #[.slice A len cap,.slice B lenB capB]).run P w =
   (((match A with | some ad=>storeCells ad vs | none=>pure ()):Sem Unit).run P w).andThen (λ_ w'=>.ok (goInt (min lenB len:Nat)) w'):=by
 have hf':(Builtin.firstCells (T.siz e) (Nat.min lenB len) (.slice B lenB capB)).run P w=.ok vs.toArray w:=hf;cases A<;>simp[Builtin.copy_,run_underlying ht,Builtin.lenOf,bB hT hz,hf']<;>rfl
theorem Ca (hT:TabOK P T) (hi:Inv C μ S σ a w) {t u ty:TypeId} {vx vy:Value} {x y r:AV} {p:Prop} {hp':List (Nat×Blk)} (h:tp T σ t x y=some (p,hp',r)) (hp:p) (hvx:Rd μ S w vx x) (hvy:Rd μ S w vy y) :
  ∃v w',(Builtin.copy_ #[t,u] ty #[vx,vy]).run P w=.ok v w'/\Inv C μ S ⟨σ.tm,hp'⟩ a w'/\Rd μ S w' v r:=by
 unfold tp at h;have ht:=hT.und t;split at h
 ·rename_i e R id s off len hu hsrc;rw[hu] at ht;simp only[jO] at ht;split at h
  ·rename_i e' s' rows hb;split at h
   ·rename_i hss;subst hss;simp only[gL,gM] at h;obtain ⟨rfl,rfl,rfl⟩:=h;obtain ⟨hz,hz0,hrl,hlen,hleaf,hle⟩:=hp;subst hz;obtain ⟨vs,hvs⟩:=lU hi hsrc hvy hrl hlen;obtain ⟨A,cap,rfl,hc,hor⟩:=hvx.bT;obtain ⟨B,capB,rfl,_⟩:=hvs.form;have hfirst:=B4 (P:=P) (n:=min R.length len) hvs z8;have hrun:=GR (t:=t) (u:=u) (ty:=ty) (w:=w) hT ht hz0 A B len cap R.length capB hfirst
    by_cases h0:min R.length len=0
    ·have hn:R.take len=[]:=List.eq_nil_of_length_eq_zero QG;have ev:vs.take (min R.length len*T.siz e)=[]:=by rw[h0];simp
     rw[ev] at hrun;refine ⟨_,w,by rw[hrun];cases A<;>simp[storeCells]<;>rfl,hi.IJ λi=>?_,.pure (.int _ _)⟩;rw[hn,pF];exact vU hb i
    ·rcases hor with ⟨h1,_⟩ | ⟨g,e2,n,h1,rfl,h3,h4⟩
     ·omega
     ·have hleaf':=Cn hvs hleaf;have hmul:min R.length len*T.siz e<=R.length*T.siz e:=YM _ (Nat.min_le_left _ _);obtain ⟨w',r1,r2⟩:=lV (P:=P) hi (off:=off) (new:=R.take len) (vs:=vs.take (min R.length len*T.siz e)) hb h1 k6
       (by rw[YF,hvs.len,YF,Yu hmul,Nat.min_comm]) (λrow hrow=>hrl row (YJ hrow)) (λq hq=>hleaf' q hq) (λi row hrow j x hx=>by
        rw[YW] at hrow;split at hrow
        ·rename_i hil;have hlt:=iK (size:=T.siz e) hrow;have hj:j<T.siz e:=by
          by_cases h:j<T.siz e
          ·exact h
          ·rw[List.getElem?_eq_none (by rw[hrl row (W6 hrow)];omega)] at hx;cases hx
         have hi2:i<R.length:=(W9.1 hrow).1;have:=YM (T.siz e) (show i+1<=min R.length len by omega);rw[Y5] at this;rw[List.getD_eq_getElem?_getD,YW,if_pos z8,<-List.getD_eq_getElem?_getD];exact hvs.rd i row hrow j x hx
        ·cases hrow)
      exact ⟨_,w',by rw[hrun];simp only[r1];rfl,r2,.pure (.int _ _)⟩
   ·cases h
  ·cases h
 ·cases h
end
end Go.Eng
namespace Go.Eng
section
variable {P:Program} {T:Tab} {C:Ctx} {μ:Nat->Option Nat} {S:Nat->Prop} {σ:St} {a:Act} {w:World}
def aV {α:Type}:List (Int×α)->Int->α->List (Int×α)
 | [],n,v=>[(n,v)]
 | p::r,n,v=>if p.1=n then (n,v)::r else if n<p.1 then (n,v)::p::r else p::aV r n v
def eu {α:Type} (kvs:List (Int×α)) (n:Int):List (Int×α):=kvs.filter λp=>!(p.1==n)
theorem cd {α:Type} {n:Int} {v:α}:∀{kvs:List (Int×α)},kvs.Pairwise (λa b=>a.1<b.1)->∀k x,(k,x)∈aV kvs n v↔(k=n/\x=v)\/(k≠n/\(k,x)∈kvs)
 | [],_,k,x=>by simp[aV]
 | p::r,hs,k,x=>by
  rw[List.pairwise_cons] at hs;have ih:=cd (n:=n) (v:=v) hs.2 k x;obtain ⟨q,y⟩:=p;simp only[aV]
  by_cases h1:q=n
  ·subst h1;rw[if_pos rfl];have:∀z,(q,z)∉r:=λz hz=>by have:=hs.1 _ hz;simp only at this;omega
   simp only[List.mem_cons,gM];constructor
   ·rintro (⟨rfl,rfl⟩ | h)
    ·exact .inl ⟨rfl,rfl⟩
    ·exact .inr ⟨by rintro rfl;exact this _ h,.inr h⟩
   ·rintro (⟨rfl,rfl⟩ | ⟨h,(⟨rfl,_⟩ | h2)⟩)
    ·exact .inl ⟨rfl,rfl⟩
    ·exact absurd rfl h
    ·exact .inr h2
  ·rw[if_neg h1]
   by_cases h2:n<q
   ·rw[if_pos h2];simp only[List.mem_cons,gM];constructor
    ·rintro (⟨rfl,rfl⟩ | ⟨rfl,rfl⟩ | h)
     ·exact .inl ⟨rfl,rfl⟩
     ·exact .inr ⟨h1,.inl ⟨rfl,rfl⟩⟩
     ·refine .inr ⟨by rintro rfl;have:=hs.1 _ h;simp only at this;omega,.inr h⟩
    ·rintro (⟨rfl,rfl⟩ | ⟨h,(⟨rfl,rfl⟩ | h2)⟩)
     ·exact .inl ⟨rfl,rfl⟩
     ·exact .inr (.inl ⟨rfl,rfl⟩)
     ·exact .inr (.inr h2)
   ·rw[if_neg h2];simp only[List.mem_cons,gM,ih];constructor
    ·rintro (⟨rfl,rfl⟩ | ⟨rfl,rfl⟩ | ⟨h,h3⟩)
     ·exact .inr ⟨h1,.inl ⟨rfl,rfl⟩⟩
     ·exact .inl ⟨rfl,rfl⟩
     ·exact .inr ⟨h,.inr h3⟩
    ·rintro (⟨rfl,rfl⟩ | ⟨h,(⟨rfl,rfl⟩ | h3)⟩)
     ·exact .inr (.inl ⟨rfl,rfl⟩)
     ·exact .inl ⟨rfl,rfl⟩
     ·exact .inr (.inr ⟨h,h3⟩)
theorem cn {α:Type} {n:Int} {v:α}:∀{kvs:List (Int×α)},kvs.Pairwise (λa b=>a.1<b.1)->(aV kvs n v).Pairwise λa b=>a.1<b.1
 | [],_=>by simp[aV]
 | p::r,hs=>by
  have hs0:=hs;rw[List.pairwise_cons] at hs;simp only[aV]
  by_cases h1:p.1=n
  ·rw[if_pos h1,List.pairwise_cons];exact ⟨λq hq=>by rw[<-h1];exact hs.1 q hq,hs.2⟩
  ·rw[if_neg h1]
   by_cases h2:n<p.1
   ·rw[if_pos h2,List.pairwise_cons];refine ⟨λq hq=>?_,hs0⟩
    rcases List.mem_cons.1 hq with rfl | hq
    ·exact h2
    ·have:=hs.1 q hq;simp only;omega
   ·rw[if_neg h2,List.pairwise_cons];refine ⟨λq hq=>?_,cn hs.2⟩;obtain ⟨k,x⟩:=q
    rcases (cd hs.2 k x).1 hq with ⟨rfl,rfl⟩ | ⟨_,h⟩
    ·simp only;omega
    ·exact hs.1 _ h
theorem j_ {α:Type} {n:Int} {v:α}:∀{kvs:List (Int×α)},kvs.Pairwise (λa b=>a.1<b.1)->(aV kvs n v).length=bif (bl kvs n).isSome then kvs.length else kvs.length+1
 | [],_=>by simp[aV,bl]
 | p::r,hs=>by
  rw[List.pairwise_cons] at hs;have ih:=j_ (n:=n) (v:=v) hs.2;unfold aV bl
  by_cases h1:p.1=n
  ·simp[h1]
  ·by_cases h2:n<p.1
   ·have:bl r n=none:=by
     cases e:bl r n with
     | none=>rfl
     | some x=>have:=hs.1 _ (df e);simp only at this;omega
    simp[this,h1,h2]
   ·simp only[h1,h2,if_false,List.length_cons,ih];cases (bl r n).isSome<;>rfl
theorem jl {α:Type} {n:Int} {kvs:List (Int×α)} (h:kvs.Pairwise (λa b=>a.1<b.1)):(eu kvs n).Pairwise λa b=>a.1<b.1:=h.filter _
theorem kN {α:Type} {n:Int} {v:α} {kvs:List (Int×α)} (h:kvs.Pairwise (λa b=>a.1<b.1)) (k:Int):bl (aV kvs n v) k=if k=n then some v else bl kvs k:=by
 split
 ·rename_i e;subst e;exact bS (cn h) ((cd h k v).2 (.inl ⟨rfl,rfl⟩))
 ·rename_i e;cases e1:bl kvs k with
  | some x=>exact bS (cn h) ((cd h k x).2 (.inr ⟨e,df e1⟩))
  | none=>
   cases e2:bl (aV kvs n v) k with
   | none=>rfl
   | some x=>
    rcases (cd h k x).1 (df e2) with ⟨h1,_⟩ | ⟨_,h2⟩
    ·exact absurd h1 e
    ·exact absurd h2 (nG e1 x)
def AV.aT:AV->Bool
 | .int .. | .bool _ | .str _ | .nilp | .nili | .ifc | .nils | .nilm | .sl _ | .rp .. | .rm _=>true
 | _=>false
theorem Rd.toP {μ:Nat->Option Nat} {S:Nat->Prop} {w:World} {v:Value} {x:AV} (h:Rd μ S w v x) (hx:x.aT=true):RdP S w v x:=by
 cases h with
 | pure h=>exact h
 | _=>cases hx
def AV.jw:AV->Bool
 | .agg cells=>cells.all AV.aT
 | x=>x.aT
theorem Rd.deep {v:Value} {x:AV} (h:Rd μ S w v x) (hx:x.jw=true):RdP S w v x:=by
 cases x with
 | agg cells=>
  obtain ⟨cs,rfl,hl,hr⟩:=h.nC;exact .agg cs cells hl λj y hy=>(hr j y hy).toP (List.all_eq_true.1 hx y (W6 hy))
 | _=>exact h.toP hx
def uk (T:Tab) (σ:St) (t:TypeId) (x k v:AV):Option (Prop×List (Nat×Blk)):=
 match T.und t,x,k with
 | .map kt _,.mp id,.int .i64 n=>
  match aa σ.hp id with
  | some (.map kvs)=>some ((T.und kt).vV=true/\v.jw=true,aF σ.hp id (.map (aV kvs n v)))
  | _=>none
 | _,_,_=>none
theorem kQ {α:Type}:∀{l:List α} {i j:Nat} {x:α},l.Nodup->l[i]? = some x->l[j]? = some x->i=j
 | [],i,j,x,_,h,_=>by simp at h
 | y::r,i,j,x,hn,hi,hj=>by
  rw[List.nodup_cons] at hn;cases i with
  | zero=>
   cases j with
   | zero=>rfl
   | succ j=>
    simp only[List.getElem?_cons_zero,gL] at hi;subst hi;exact absurd (W6 QQ) hn.1
  | succ i=>
   cases j with
   | zero=>
    simp only[List.getElem?_cons_zero,gL] at hj;subst hj;exact absurd (W6 Z6) hn.1
   | succ j=>exact congrArg (·+1) (kQ hn.2 Z6 QQ)
theorem I7 {es:Array MapEntry} {clk:Nat} {kvs:List (Int×AV)} {vals:Int->Value} (h:MapOK es clk kvs vals) {j:Nat} {e:MapEntry} {n:Int} {x:AV} (hj:es.toList[j]? = some e) (hk:e.key=.int .i64 n) (hx:bl kvs n=some x)
  (v:Value) (V:AV):MapOK (es.modify j λe=>{ e with key:=.int .i64 n,val:=v }) clk (aV kvs n V) (λm=>if m=n then v else vals m):=by
 have hkeys:((es.modify j λe=>{ e with key:=.int .i64 n,val:=v }).toList.map (·.key))=es.toList.map (·.key):=by
  apply List.ext_getElem?
  intro i;rw[Array.toList_modify,W5,W5,List.getElem?_modify]
  by_cases e1:j=i
  ·subst e1;simp[hj,hk]
  ·simp[e1]
 have hborn:((es.modify j λe=>{ e with key:=.int .i64 n,val:=v }).toList.map (·.born))=es.toList.map (·.born):=by
  apply List.ext_getElem?
  intro i;rw[Array.toList_modify,W5,W5,List.getElem?_modify]
  by_cases e1:j=i
  ·subst e1;simp[hj]
  ·simp[e1]
 refine ⟨λe' he=>?_,λp hp=>?_,by rw[hkeys];exact h.once,?_,cn h.rise,λe' he=>?_,by rw[hborn];exact h.nodup⟩
 ·obtain ⟨i,hi⟩:=YC he;rw[Array.toList_modify,List.getElem?_modify] at hi
  by_cases e1:j=i
  ·subst e1;rw[hj] at hi;have hi:some { e with key:=.int .i64 n,val:=v }=some e':=by simpa using hi
   injection hi with hi
   subst hi;exact ⟨n,V,rfl,(cd h.rise n V).2 (.inl ⟨rfl,rfl⟩),by simp⟩
  ·simp only[e1,if_false] at hi;have hi':es.toList[i]? = some e':=by simpa using hi
   obtain ⟨k,y,h1,h2,h3⟩:=h.key e' (W6 hi');have hne:k≠n:=by
    rintro rfl;exact e1 (kQ h.once (by rw[W5,hj,Option.map_some,hk]) (by rw[W5,hi',Option.map_some,h1]))
   exact ⟨k,y,h1,(cd h.rise k y).2 (.inr ⟨hne,h2⟩),by rw[if_neg hne];exact h3⟩
 ·obtain ⟨k,y⟩:=p;have hm:Value.int .i64 k∈es.toList.map (·.key):=by
   rcases (cd h.rise k y).1 hp with ⟨rfl,_⟩ | ⟨_,h2⟩
   ·exact W8.2 ⟨e,W6 hj,hk⟩
   ·obtain ⟨e',he,hk'⟩:=h.has _ h2;exact W8.2 ⟨e',he,hk'⟩
  rw[<-hkeys] at hm;obtain ⟨e',he,hk'⟩:=W8.1 hm;exact ⟨e',he,hk'⟩
 ·rw[Array.size_modify,j_ h.rise,hx,h.len];rfl
 ·have:e'.born∈es.toList.map (·.born):=by rw[<-hborn];exact W8.2 ⟨e',he,rfl⟩
  obtain ⟨e2,he2,hb2⟩:=W8.1 this;rw[<-hb2];exact h.born e2 he2
theorem I6 {es:Array MapEntry} {clk:Nat} {kvs:List (Int×AV)} {vals:Int->Value} (h:MapOK es clk kvs vals) {n:Int} (hx:bl kvs n=none) (v:Value) (V:AV) :
  MapOK (es.push { key:=.int .i64 n,val:=v,born:=clk }) (clk+1) (aV kvs n V) (λm=>if m=n then v else vals m):=by
 have hno:∀e,e∈es.toList->e.key≠.int .i64 n:=λe he hk=>by
  obtain ⟨k,y,h1,h2,_⟩:=h.key e he;rw[hk] at h1;injection h1 with _ h1;subst h1
  exact nG hx y h2
 refine ⟨λe he=>?_,λp hp=>?_,?_,?_,cn h.rise,λe he=>?_,?_⟩
 ·rw[Array.toList_push,List.mem_append,List.mem_singleton] at he
  rcases he with he | rfl
  ·obtain ⟨k,y,h1,h2,h3⟩:=h.key e he;have hne:k≠n:=by rintro rfl;exact hno e he h1
   exact ⟨k,y,h1,(cd h.rise k y).2 (.inr ⟨hne,h2⟩),by rw[if_neg hne];exact h3⟩
  ·exact ⟨n,V,rfl,(cd h.rise n V).2 (.inl ⟨rfl,rfl⟩),by simp⟩
 ·obtain ⟨k,y⟩:=p
  rcases (cd h.rise k y).1 hp with ⟨rfl,_⟩ | ⟨_,h2⟩
  ·exact ⟨_,by rw[Array.toList_push];exact YI _ (List.mem_singleton.2 rfl),rfl⟩
  ·obtain ⟨e',he,hk'⟩:=h.has _ h2;exact ⟨e',by rw[Array.toList_push];exact YS _ he,hk'⟩
 ·rw[Array.toList_push,List.map_append,List.nodup_append];refine ⟨h.once,by simp,λx hx y hy hxy=>?_⟩;simp only[List.map_cons,List.map_nil,List.mem_singleton] at hy;obtain ⟨e,he,hk⟩:=W8.1 hx;exact hno e he (by rw[hk,hxy,hy])
 ·rw[Array.size_push,j_ h.rise,hx,h.len];rfl
 ·rw[Array.toList_push,List.mem_append,List.mem_singleton] at he
  rcases he with he | rfl
  ·exact Nat.lt_succ_of_lt (h.born e he)
  ·exact Nat.lt_succ_self _
 ·rw[Array.toList_push,List.map_append,List.nodup_append];refine ⟨h.nodup,by simp,λx hx y hy hxy=>?_⟩;simp only[List.map_cons,List.map_nil,List.mem_singleton] at hy;obtain ⟨e,he,hk⟩:=W8.1 hx;have:=h.born e he;omega
theorem I5 {es:Array MapEntry} {clk:Nat} {kvs:List (Int×AV)} {vals:Int->Value} (h:MapOK es clk kvs vals) {j:Nat} {e:MapEntry} {n:Int} (hj:es.toList[j]? = some e) (hk:e.key=.int .i64 n) :
  MapOK (es.eraseIdxIfInBounds j) clk (eu kvs n) vals:=by
 have hjl:j<es.size:=by
  have:=(W9.1 hj).1;simpa using this
 have hL:(es.eraseIdxIfInBounds j).toList=es.toList.eraseIdx j:=by
  unfold Array.eraseIdxIfInBounds;rw[dif_pos hjl,Array.toList_eraseIdx]
 have hsub:(es.toList.eraseIdx j).Sublist es.toList:=List.eraseIdx_sublist _ _;have hne:∀e',e'∈es.toList.eraseIdx j->e'.key≠.int .i64 n:=λe' he hk'=>by
  rw[List.mem_eraseIdx_iff_getElem?] at he;obtain ⟨i,hi,hi2⟩:=he;exact hi (kQ h.once (by rw[W5,hi2,Option.map_some,hk']) (by rw[W5,hj,Option.map_some,hk]))
 refine ⟨λe' he=>?_,λp hp=>?_,?_,?_,jl h.rise,λe' he=>?_,?_⟩
 ·rw[hL] at he;obtain ⟨k,y,h1,h2,h3⟩:=h.key e' (hsub.subset he);refine ⟨k,y,h1,YL.2 ⟨h2,?_⟩,h3⟩;have:k≠n:=by rintro rfl;exact hne e' he h1
  simpa using this
 ·obtain ⟨hp1,hp2⟩:=YL.1 hp;obtain ⟨e',he,hk'⟩:=h.has _ hp1;refine ⟨e',?_,hk'⟩;rw[hL,List.mem_eraseIdx_iff_getElem?];obtain ⟨i,hi⟩:=YC he;refine ⟨i,?_,hi⟩;rintro rfl;rw[hj] at hi;injection hi with hi;subst hi
  rw[hk] at hk';injection hk' with _ hk'
  simp[hk'] at hp2
 ·rw[hL];exact h.once.sublist (hsub.map _)
 ·have hmem:∃x,(n,x)∈kvs:=by
   obtain ⟨k,x,h1,h2,_⟩:=h.key e (W6 hj);rw[hk] at h1;injection h1 with _ h1;subst h1
   exact ⟨x,h2⟩
  have hlen:∀(l:List (Int×AV)),l.Pairwise (λa b=>a.1<b.1)->(∃x,(n,x)∈l)->(eu l n).length+1=l.length:=by
   intro l
   induction l with
   | nil=>rintro _ ⟨x,hx⟩;simp at hx
   | cons p r ih=>
    intro hs hx;rw[List.pairwise_cons] at hs
    by_cases e1:p.1=n
    ·have:r.filter (λp=>!(p.1==n))=r:=Ye.2 λq hq=>by
      have:=hs.1 q hq;have:q.1≠n:=by omega
      simpa using this
     simp[eu,e1,this]
    ·have h2:∃x,(n,x)∈r:=by
      obtain ⟨x,hx⟩:=hx
      rcases List.mem_cons.1 hx with h | h
      ·exact absurd (by rw[<-h]) e1
      ·exact ⟨x,h⟩
     have:=ih hs.2 h2;simp only[eu] at this ⊢;rw[List.filter_cons,if_pos (by simpa using e1)];simp[this]
  have h1:=hlen kvs h.rise hmem;have h2:(es.eraseIdxIfInBounds j).size+1=es.size:=by
   rw[<-Array.length_toList,hL,List.length_eraseIdx,if_pos (by simpa using hjl),Array.length_toList];omega
  have:=h.len;omega
 ·rw[hL] at he;exact h.born e' (hsub.subset he)
 ·rw[hL];exact h.nodup.sublist (hsub.map _)
theorem oN {g:Nat} {o b:Obj} (hb:w.heap[g]? = some b) (hc:∀c e f,b≠.cells c e f):∃w',(setObj g o).run P w=.ok () w'/\w'.os=w.os/\w'.tape=w.tape/\w'.output=w.output/\w'.heap.size=w.heap.size/\(∀b,b≠g->w'.heap[b]? = w.heap[b]?)/\w'.heap[g]? = some o:=by
 have h:g<w.heap.size:=(Yg.1 hb).1;refine ⟨{ w with heap:=w.heap.setIfInBounds g o },?_,rfl,rfl,rfl,by simp,λb hb=>by simp[Ne.symm hb],by simp[h]⟩;unfold setObj;rw[Sem.run.eq_def];simp only[hb];cases b with
 | cells c e f=>exact absurd rfl (hc c e f)
 | _=>rfl
theorem DM {n m:Int} (h:n=m):(Instr.keyThatStays (.int .i64 n) (.int .i64 m)).run P w=.ok (.int .i64 m) w:=by
 subst h;unfold Instr.keyThatStays;rw[show Instr.sameBits 10000 (.int .i64 n) (.int .i64 n)=true from by unfold Instr.sameBits;simp];rfl
theorem wJ (hT:TabOK P T) (hi:Inv C μ S σ a w) {t:TypeId} {vx vk vv:Value} {x k v:AV} {p:Prop} {hp':List (Nat×Blk)} (h:uk T σ t x k v=some (p,hp')) (hp:p)
  (hvx:Rd μ S w vx x) (hvk:Rd μ S w vk k) (hvv:Rd μ S w vv v):∃w',(Instr.mapUpdate t vx vk vv).run P w=.ok () w'/\Inv C μ S ⟨σ.tm,hp'⟩ a w':=by
 unfold uk at h;split at h
 ·rename_i kt e id n hu;split at h
  ·rename_i kvs hb;simp only[gL,gM] at h;obtain ⟨rfl,rfl⟩:=h;obtain ⟨hk,hd⟩:=hp;have hk:=Bp hT hk;have ht:=hT.und t;rw[hu] at ht;simp only[jO] at ht;obtain rfl:=hvk.aL;obtain ⟨g,hg,rfl⟩:=hvx.tU;obtain ⟨g',es,clk,vals,k1,k2,k3,k4⟩:=hi.hp _ _ hb;rw[k1] at hg;injection hg with hg;subst hg
   have hgs:g'<w.heap.size:=by
    by_cases h:g'<w.heap.size
    ·exact h
    ·rw[Array.getElem?_eq_none z8] at k2;cases k2
   have hS:¬S g':=(hi.dom id g' k1).2.2.1;have hdeep:=hvv.deep hd;have fin:∀(es':Array MapEntry) (clk':Nat),MapOK es' clk' (aV kvs n v) (λm=>if m=n then vv else vals m)->(Instr.mapUpdate t (.map (some g')) (.int .i64 n) vv).run P w=(setObj g' (.map es' clk')).run P w ->
     ∃w',(Instr.mapUpdate t (.map (some g')) (.int .i64 n) vv).run P w=.ok () w'/\Inv C μ S ⟨σ.tm,aF σ.hp id (.map (aV kvs n v))⟩ a w':=λes' clk' hm hrun=>by
    obtain ⟨w',r1,r2,r3,r4,r5,r6,r7⟩:=oN (P:=P) (o:=.map es' clk') k2 (λ_ _ _ h=>nomatch h);have hw:aI S w w':=λb hb=>r6 b Qa
    refine ⟨w',by rw[hrun,r1],hi.write id g' k1 r2 r3 r4 r5 r6 (by simp[ag,r7,k2]) _ ⟨g',es',clk',_,k1,r7,hm,λq hq=>?_⟩⟩;obtain ⟨m,y⟩:=q
    rcases (cd k3.rise m y).1 hq with ⟨rfl,rfl⟩ | ⟨hne,hin⟩
    ·simp only[if_true];exact hdeep.mono hw (λ_ h=>h)
    ·simp only[if_neg hne];exact (k4 _ hin).mono hw (λ_ h=>h)
   rcases k3.find n with ⟨j,en,y,q1,q2,q3,q4,q5⟩ | ⟨q1,q2,q3⟩
   ·refine fin _ clk (I7 k3 q1 q2 q4 vv v) ?_;have q1':es[j]? = some en:=by rw[<-Array.getElem?_toList];exact q1
    simp[Instr.mapUpdate,run_underlying ht,run_checkKey hk,run_findKey (w:=w) hk q5,run_getObj_map k2,q1',q2,DM]
   ·refine fin _ (clk+1) (I6 k3 q1 vv v) ?_;simp[Instr.mapUpdate,run_underlying ht,run_checkKey hk,run_findKey (w:=w) hk q3,run_getObj_map k2]
  ·cases h
 ·cases h
def yI (T:Tab) (σ:St) (t:TypeId) (x k:AV):Option (Prop×List (Nat×Blk)):=
 match T.und t,x,k with
 | .map kt _,.mp id,.int .i64 n=>
  match aa σ.hp id with
  | some (.map kvs)=>some ((T.und kt).vV=true,aF σ.hp id (.map (eu kvs n)))
  | _=>none
 | _,_,_=>none
theorem EF (hT:TabOK P T) (hi:Inv C μ S σ a w) {t u ty:TypeId} {vx vk:Value} {x k:AV} {p:Prop} {hp':List (Nat×Blk)} (h:yI T σ t x k=some (p,hp')) (hp:p)
  (hvx:Rd μ S w vx x) (hvk:Rd μ S w vk k):∃w',(Builtin.delete_ #[t,u] ty #[vx,vk]).run P w=.ok (.tuple #[]) w'/\Inv C μ S ⟨σ.tm,hp'⟩ a w':=by
 unfold yI at h;split at h
 ·rename_i kt e id n hu;split at h
  ·rename_i kvs hb;simp only[gL,gM] at h;obtain ⟨rfl,rfl⟩:=h;have hk:=Bp hT hp;have ht:=hT.und t;rw[hu] at ht;simp only[jO] at ht;obtain rfl:=hvk.aL;obtain ⟨g,hg,rfl⟩:=hvx.tU;obtain ⟨g',es,clk,vals,k1,k2,k3,k4⟩:=hi.hp _ _ hb;rw[k1] at hg;injection hg with hg;subst hg
   have hgs:g'<w.heap.size:=by
    by_cases h:g'<w.heap.size
    ·exact h
    ·rw[Array.getElem?_eq_none z8] at k2;cases k2
   have hS:¬S g':=(hi.dom id g' k1).2.2.1;have fin:∀(es':Array MapEntry),MapOK es' clk (eu kvs n) vals->(Builtin.delete_ #[t,u] ty #[.map (some g'),.int .i64 n]).run P w=((setObj g' (.map es' clk)).run P w).andThen (λ_ w=>.ok (.tuple #[]) w) ->
     ∃w',(Builtin.delete_ #[t,u] ty #[.map (some g'),.int .i64 n]).run P w=.ok (.tuple #[]) w'/\Inv C μ S ⟨σ.tm,aF σ.hp id (.map (eu kvs n))⟩ a w':=λes' hm hrun=>by
    obtain ⟨w',r1,r2,r3,r4,r5,r6,r7⟩:=oN (P:=P) (o:=.map es' clk) k2 (λ_ _ _ h=>nomatch h);have hw:aI S w w':=λb hb=>r6 b Qa
    exact ⟨w',by rw[hrun,r1];rfl,hi.write id g' k1 r2 r3 r4 r5 r6 (by simp[ag,r7,k2]) _ ⟨g',es',clk,_,k1,r7,hm,λq hq=>(k4 q (YL.1 hq).1).mono hw (λ_ h=>h)⟩⟩
   rcases k3.find n with ⟨j,en,y,q1,q2,q3,q4,q5⟩ | ⟨q1,q2,q3⟩
   ·refine fin _ (I5 k3 q1 q2) ?_;simp[Builtin.delete_,run_underlying ht,run_checkKey hk,run_findKey (w:=w) hk q5,run_getObj_map k2]
   ·refine fin es (by
     have:eu kvs n=kvs:=Ye.2 λq hq=>by
      have:q.1≠n:=by rintro rfl;exact nG q1 q.2 hq
      simpa using this
     rw[this];exact k3) ?_
    simp[Builtin.delete_,run_underlying ht,run_checkKey hk,run_findKey (w:=w) hk q3,run_getObj_map k2]
  ·cases h
 ·cases h
end
end Go.Eng
namespace Go.Eng
section
variable {P:Program} {T:Tab} {C:Ctx} {σ σ':St}
def ey (T:Tab) (σ:St) (d:Option Tmp) (op:Op):Option (Prop×St):=
 match op,d with
 | .build t parts,d=>(fC T σ t parts.toList).map λr=>(r.1,σ.put d r.2)
 | .alloc t,some d=>
  some (T.siz t≠0/\(T.zer t).length=T.siz t/\(σ.room d).1,
   (⟨(σ.room d).2.tm,(d,.cells t (T.siz t) [T.zer t])::(σ.room d).2.hp⟩:St).put (some d) (.ptr d (T.siz t) 0 0))
 | .box t x,some d=>
  match jU T t (evS (σ.room d).2 x).2 with
  | some xs=>
   some ((evS (σ.room d).2 x).1/\xs.length=T.siz t/\xs.all AV.leaf=true/\(σ.room d).1,
    (⟨(σ.room d).2.tm,(d,.cells t (T.siz t) [xs])::(σ.room d).2.hp⟩:St).put (some d) (.ptr d (T.siz t) 0 0))
  | none=>none
 | .buildSlice t n parts,some d=>
  match dt T (σ.room d).2 t n parts.toList with
  | some (p,e,rows)=>
   some (p/\(σ.room d).1,(⟨(σ.room d).2.tm,(d,.cells e (T.siz e) rows)::(σ.room d).2.hp⟩:St).put (some d) (.osl d (T.siz e) 0 n))
  | none=>none
 | .makeMap _ none,some d=>
  some ((σ.room d).1,(⟨(σ.room d).2.tm,(d,.map [])::(σ.room d).2.hp⟩:St).put (some d) (.mp d))
 | .store t x y,none=>(gp T σ t (evS σ x).2 (evS σ y).2).map λr=>((evS σ x).1/\(evS σ y).1/\r.1,⟨σ.tm,r.2⟩)
 | .call { callee:=.builtin .append,args,argTypes },some d=>
  match args.toList,argTypes.toList with
  | [x,y],[t,u]=>
   if t=u then (fy T σ d t (evS σ x).2 (evS σ y).2).map λr=>((evS σ x).1/\(evS σ y).1/\r.1,r.2.1.put (some d) r.2.2) else none
  | _,_=>none
 | .call { callee:=.builtin .clear,args,argTypes },d=>
  match args.toList,argTypes.toList with
  | [x],[t]=>(o_ T σ t (evS σ x).2).map λr=>((evS σ x).1/\r.1,(⟨σ.tm,r.2⟩:St).put d (.tup []))
  | _,_=>none
 | .call { callee:=.builtin .copy,args,argTypes },d=>
  match args.toList,argTypes.toList with
  | [x,y],[t,_]=>(tp T σ t (evS σ x).2 (evS σ y).2).map λr=>((evS σ x).1/\(evS σ y).1/\r.1,(⟨σ.tm,r.2.1⟩:St).put d r.2.2)
  | _,_=>none
 | .call { callee:=.builtin .delete,args,argTypes },d=>
  match args.toList,argTypes.toList with
  | [x,y],[t,_]=>(yI T σ t (evS σ x).2 (evS σ y).2).map λr=>((evS σ x).1/\(evS σ y).1/\r.1,(⟨σ.tm,r.2⟩:St).put d (.tup []))
  | _,_=>none
 | .mapUpdate t m k x,none=>(uk T σ t (evS σ m).2 (evS σ k).2 (evS σ x).2).map λr=>((evS σ m).1/\(evS σ k).1/\(evS σ x).1/\r.1,⟨σ.tm,r.2⟩)
 | .insert t m k x,none=>(uk T σ t (evS σ m).2 (evS σ k).2 (evS σ x).2).map λr=>((evS σ m).1/\(evS σ k).1/\(evS σ x).1/\r.1,⟨σ.tm,r.2⟩)
 | op,d=>(eX T σ op).map λr=>(r.1,σ.put d r.2)
theorem qZ {o:Oper} {H:List (Nat×Blk)} {x:AV} (h:∀μ S a w,Inv C μ S σ a w->∃u w',(execOp a.eval o).run P w=.ok (.value u) w'/\Inv C μ S ⟨σ.tm,H⟩ a w'/\Rd μ S w' u x) :
  eK P C o σ ((⟨σ.tm,H⟩:St).put o.dst x):=by
 intro a w K Q ⟨μ,S,hi⟩ hK;obtain ⟨u,w',hr,hi',hu⟩:=h μ S a w hi;unfold Oper.wp;rw[hr];exact hK _ _ ⟨μ,S,hi'.put o.dst hu⟩
theorem xa {o:Oper} (hd:o.dst=none) {H:List (Nat×Blk)} (h:∀μ S a w,Inv C μ S σ a w->∃w',(execOp a.eval o).run P w=.ok .skip w'/\Inv C μ S ⟨σ.tm,H⟩ a w'):eK P C o σ ⟨σ.tm,H⟩:=by
 intro a w K Q ⟨μ,S,hi⟩ hK;obtain ⟨w',hr,hi'⟩:=h μ S a w hi;unfold Oper.wp;rw[hr]
 show K (a.put o.dst undef) w'
 rw[hd];exact hK _ _ ⟨μ,S,hi'⟩
theorem EP (hT:TabOK P T) {o:Oper} {p:Prop} {x:AV} (h:eX T σ o.op=some (p,x)) (hp:p):eK P C o σ (σ.put o.dst x):=
 dZ λ_ _ _ _ hi=>lS hT hi o h hp
theorem fa {o:Oper} {d:Tmp} (hd:o.dst=some d) {x:AV}
  (h:∀μ S a w,Inv C μ S σ a w->∃u w' μ' S',(execOp a.eval o).run P w=.ok (.value u) w'/\Inv C μ' S' σ' a w'/\Rd μ' S' w' u x):eK P C o σ (σ'.put (some d) x):=by
 intro a w K Q ⟨μ,S,hi⟩ hK;obtain ⟨u,w',μ',S',hr,hi',hu⟩:=h μ S a w hi;unfold Oper.wp;rw[hr]
 show K (a.put o.dst u) w'
 rw[hd];exact hK _ _ ⟨μ',S',hi'.put (some d) hu⟩
theorem ch (hT:TabOK P T) (o:Oper) {p:Prop} (h:ey T σ o.dst o.op=some (p,σ')) (hp:p):eK P C o σ σ':=by
 have hpure:(eX T σ o.op).map (λr=>(r.1,σ.put o.dst r.2))=some (p,σ')->eK P C o σ σ':=λh=>by
  cases e:eX T σ o.op with
  | none=>rw[e] at h;cases h
  | some q=>
   simp only[e,Option.map_some,gL,gM] at h;obtain ⟨rfl,rfl⟩:=h;exact EP hT (p:=q.1) (x:=q.2) e hp
 unfold ey at h;split at h
 ·rename_i t parts hop;cases e:fC T σ t parts.toList with
  | none=>rw[e] at h;cases h
  | some q=>
   simp only[e,Option.map_some,gL,gM] at h;obtain ⟨rfl,rfl⟩:=h;refine dZ λμ S a w hi=>?_
   obtain ⟨u,h1,h2⟩:=AE hT hi (p:=q.1) (x:=q.2) e hp;exact ⟨u,by simp only[execOp,hop,Sem.run_bind,h1];rfl,h2⟩
 ·rename_i t d hop hd;simp only[gL,gM] at h;obtain ⟨rfl,rfl⟩:=h;obtain ⟨h1,h2,h3⟩:=hp;refine fa hd λμ S a w hi=>?_
  obtain ⟨μ1,hi1⟩:=hi.room d h3;obtain ⟨w',r1,r2⟩:=AD (P:=P) hT hi1 (nK σ d) h1;rw[h2] at r2;exact ⟨_,w',_,S,by simp only[execOp,hop,Sem.run_bind,r1];rfl,r2,by simpa using Rd.ptr d (T.siz t) 0 0 w.heap.size (by simp[upd])⟩
 ·rename_i t y d hop hd;split at h
  ·rename_i xs hxs;simp only[gL,gM] at h;obtain ⟨rfl,rfl⟩:=h;obtain ⟨h0,h1,h2,h3⟩:=hp;refine fa hd λμ S a w hi=>?_
   obtain ⟨μ1,hi1⟩:=hi.room d h3;obtain ⟨c1,_,c3⟩:=oY hxs h2 (hi1.evS y h0);obtain ⟨w',r1,r2⟩:=wI (P:=P) (t:=t) hi1 (nK σ d) ⟨c1,c3⟩;rw[h1] at r2;exact ⟨_,w',_,S,by simp only[execOp,hop,Sem.run_bind,r1];rfl,r2,by simpa using Rd.ptr d (T.siz t) 0 0 w.heap.size (by simp[upd])⟩
  ·cases h
 ·rename_i t n parts d hop hd;split at h
  ·rename_i q e rows hb;simp only[gL,gM] at h;obtain ⟨rfl,rfl⟩:=h;obtain ⟨h1,h3⟩:=hp;refine fa hd λμ S a w hi=>?_
   obtain ⟨μ1,hi1⟩:=hi.room d h3;obtain ⟨w',r1,r2,r3,r4⟩:=qY (P:=P) hT hi1 (nK σ d) hb h1;refine ⟨_,w',_,S,by simp only[execOp,hop,Sem.run_bind,r1];rfl,r2,.osl d (T.siz e) 0 n n _ (YA _) (.inr ⟨w.heap.size,e,n*T.siz e,by simp[upd],by simp,r4,by simp⟩)⟩
  ·cases h
 ·rename_i t d hop hd;simp only[gL,gM] at h;obtain ⟨rfl,rfl⟩:=h;refine fa hd λμ S a w hi=>?_
  obtain ⟨μ1,hi1⟩:=hi.room d hp;obtain ⟨w',r1,r2⟩:=vq (P:=P) (t:=t) hi1 (nK σ d);exact ⟨_,w',_,S,by simp only[execOp,hop,Sem.run_bind,Option.map_none,r1];rfl,r2,.mp d w.heap.size (by simp[upd])⟩
 ·rename_i t x y hop hd;cases e:gp T σ t (evS σ x).2 (evS σ y).2 with
  | none=>rw[e] at h;cases h
  | some q=>
   simp only[e,Option.map_some,gL,gM] at h;obtain ⟨rfl,rfl⟩:=h;obtain ⟨h1,h2,h3⟩:=hp;intro a w K Q ⟨μ,S,hi⟩ hK;obtain ⟨w',r1,r2⟩:=AJ (P:=P) hT hi (p:=q.1) (hp':=q.2) e h3 (hi.evS x h1) (hi.evS y h2);unfold Oper.wp;have:(execOp a.eval o).run P w=.ok .skip w':=by simp only[execOp,hop,Sem.run_bind,r1];rfl
   rw[this]
   show K (a.put o.dst undef) w'
   rw[hd];exact hK _ _ ⟨μ,S,r2⟩
 ·rename_i args ats d hop hd;split at h
  ·rename_i x y t u hx ht;split at h
   ·rename_i htu;subst htu;cases e:fy T σ d t (evS σ x).2 (evS σ y).2 with
    | none=>rw[e] at h;cases h
    | some q=>
     simp only[e,Option.map_some,gL,gM] at h;obtain ⟨rfl,rfl⟩:=h;obtain ⟨h1,h2,h3⟩:=hp;have e1:args=#[x,y]:=by cases args;simp_all
     have e2:ats=#[t,t]:=by cases ats;simp_all
     subst e1 e2;refine fa hd λμ S a w hi=>?_
     obtain ⟨u,w',μ',r1,r2,r3⟩:=yg (P:=P) (ty:=o.type) hT hi (p:=q.1) (σ':=q.2.1) (r:=q.2.2) e h3 (hi.evS x h1) (hi.evS y h2);exact ⟨u,w',μ',S,by simp[execOp,hop,resolve,invoke,builtin,r1],r2,r3⟩
   ·cases h
  ·cases h
 ·rename_i args ats hop;split at h
  ·rename_i x t hx ht;cases e:o_ T σ t (evS σ x).2 with
   | none=>rw[e] at h;cases h
   | some q=>
    simp only[e,Option.map_some,gL,gM] at h;obtain ⟨rfl,rfl⟩:=h;have e1:args=#[x]:=congrArg List.toArray hx;have e2:ats=#[t]:=congrArg List.toArray ht;subst e1 e2;refine qZ λμ S a w hi=>?_
    obtain ⟨w',r1,r2⟩:=AF (P:=P) (ty:=o.type) hT hi (p:=q.1) (hp':=q.2) e hp.2 (hi.evS x hp.1);exact ⟨_,w',by simp[execOp,hop,resolve,invoke,builtin,r1],r2,.tup #[] [] rfl (λj x h=>by simp at h)⟩
  ·cases h
 ·rename_i args ats hop;split at h
  ·rename_i x y t u hx ht;cases e:tp T σ t (evS σ x).2 (evS σ y).2 with
   | none=>rw[e] at h;cases h
   | some q=>
    simp only[e,Option.map_some,gL,gM] at h;obtain ⟨rfl,rfl⟩:=h;have e1:args=#[x,y]:=congrArg List.toArray hx;have e2:ats=#[t,u]:=congrArg List.toArray ht;subst e1 e2;refine qZ λμ S a w hi=>?_
    obtain ⟨v,w',r1,r2,r3⟩:=Ca (P:=P) (u:=u) (ty:=o.type) hT hi (p:=q.1) (hp':=q.2.1) (r:=q.2.2) e hp.2.2 (hi.evS x hp.1) (hi.evS y hp.2.1);exact ⟨v,w',by simp[execOp,hop,resolve,invoke,builtin,r1],r2,r3⟩
  ·cases h
 ·rename_i args ats hop;split at h
  ·rename_i x y t u hx ht;cases e:yI T σ t (evS σ x).2 (evS σ y).2 with
   | none=>rw[e] at h;cases h
   | some q=>
    simp only[e,Option.map_some,gL,gM] at h;obtain ⟨rfl,rfl⟩:=h;have e1:args=#[x,y]:=congrArg List.toArray hx;have e2:ats=#[t,u]:=congrArg List.toArray ht;subst e1 e2;refine qZ λμ S a w hi=>?_
    obtain ⟨w',r1,r2⟩:=EF (P:=P) (u:=u) (ty:=o.type) hT hi (p:=q.1) (hp':=q.2) e hp.2.2 (hi.evS x hp.1) (hi.evS y hp.2.1);exact ⟨_,w',by simp[execOp,hop,resolve,invoke,builtin,r1],r2,.tup #[] [] rfl (λj x h=>by simp at h)⟩
  ·cases h
 ·rename_i t m k x hop hd;cases e:uk T σ t (evS σ m).2 (evS σ k).2 (evS σ x).2 with
  | none=>rw[e] at h;cases h
  | some q=>
   simp only[e,Option.map_some,gL,gM] at h;obtain ⟨rfl,rfl⟩:=h;refine xa hd λμ S a w hi=>?_
   obtain ⟨w',r1,r2⟩:=wJ (P:=P) hT hi (p:=q.1) (hp':=q.2) e hp.2.2.2 (hi.evS m hp.1) (hi.evS k hp.2.1) (hi.evS x hp.2.2.1);exact ⟨w',by simp only[execOp,hop,Sem.run_bind,r1];rfl,r2⟩
 ·rename_i t m k x hop hd;cases e:uk T σ t (evS σ m).2 (evS σ k).2 (evS σ x).2 with
  | none=>rw[e] at h;cases h
  | some q=>
   simp only[e,Option.map_some,gL,gM] at h;obtain ⟨rfl,rfl⟩:=h;refine xa hd λμ S a w hi=>?_
   obtain ⟨w',r1,r2⟩:=wJ (P:=P) hT hi (p:=q.1) (hp':=q.2) e hp.2.2.2 (hi.evS m hp.1) (hi.evS k hp.2.1) (hi.evS x hp.2.2.1);exact ⟨w',by simp only[execOp,hop,Sem.run_bind,r1];rfl,r2⟩
 ·exact hpure h
def WpL (P:Program) (C:Ctx) (ops:Array Oper) (l:List Oper) (Q:Exit->Act->World->Prop) (σ:St):Prop:=∀a w,Rel C σ a w->wpList P ops Q l a w
def guardOf (ops:Array Oper) (σ:St) (g:Option (Nat×Bool)):Option Bool:=
 match g with
 | none=>some true
 | some (j,want)=>
  match (ops[j]?).bind (·.dst) with
  | some d=>
   match σ.tm.getD d .any with
   | .bool b=>some (b==want)
   | .cnd c (.bool b)=>some (c&&(b==want))
   | _=>none
  | none=>none
theorem bk {ops:Array Oper} {o:Oper} {c:Bool} {μ:Nat->Option Nat} {S:Nat->Prop} {a:Act} {w:World} (hi:Inv C μ S σ a w) (h:guardOf ops σ o.guard=some c) :
  Region.wanted o (yielded ops a.tmps)=c:=by
 unfold Region.wanted;unfold guardOf at h;split at h
 ·rename_i hg;injection h with h;subst h
  rw[hg]
 ·rename_i j want hg;rw[hg];split at h
  ·rename_i d hd;have hv:=hi.ev (.tmp d);simp only[Act.eval,Eng.ev] at hv;have hy:yielded ops a.tmps j=match a.tmps[d]? with | some (.bool b)=>some b | _=>none:=by
    unfold yielded;rw[hd];rfl
   simp only[hy];split at h
   ·rename_i b hb;injection h with h;subst h
    rw[hb] at hv;have:=hv.eQ;rw[Array.getD_eq_getD_getElem?] at this;cases e:a.tmps[d]? with
    | none=>rw[e] at this;cases this
    | some v=>rw[e] at this;simp only[Option.getD_some] at this;subst this;cases b<;>cases want<;>rfl
   ·rename_i g b hb;injection h with h;subst h
    rw[hb] at hv;rw[Array.getD_eq_getD_getElem?] at hv;cases e:a.tmps[d]? with
    | none=>
     rw[e] at hv;simp only[Option.getD_none] at hv;cases g with
     | false=>cases want<;>rfl
     | true=>
      cases hv with
      | pure h=>cases h
      | cndT _ _ h=>cases h.eQ
    | some v=>
     rw[e] at hv;simp only[Option.getD_some] at hv;cases hv with
     | pure h=>cases h
     | cndT _ _ h=>obtain rfl:=h.eQ;cases b<;>cases want<;>rfl
     | cndF=>cases want<;>rfl
   ·cases h
  ·cases h
theorem nv {ops:Array Oper} {o:Oper} {l:List Oper} {Q:Exit->Act->World->Prop} (hg:guardOf ops σ o.guard=some true) (ht:eK P C o σ σ') (h:WpL P C ops l Q σ'):WpL P C ops (o::l) Q σ:=by
 intro a w hr;unfold wpList;obtain ⟨μ,S,hi⟩:=hr;rw[bk hi hg];exact .inl (ht a w _ Q ⟨μ,S,hi⟩ λa' w' hr'=>h a' w' hr')
theorem A4 {ops:Array Oper} {o:Oper} {l:List Oper} {Q:Exit->Act->World->Prop} (hg:guardOf ops σ o.guard=some false) (h:WpL P C ops l Q (σ.put o.dst .any)):WpL P C ops (o::l) Q σ:=by
 intro a w hr;unfold wpList;obtain ⟨μ,S,hi⟩:=hr;rw[bk hi hg];exact h _ _ ⟨μ,S,hi.put o.dst (.any _)⟩
def mkc (c:Bool):AV->AV
 | .cnd d y=>.cnd (c&&d) y
 | x=>.cnd c x
theorem xY {μ:Nat->Option Nat} {S:Nat->Prop} {w:World} {v:Value} {c:Bool} {x:AV} (h:Rd μ S w v (.cnd c x)):Rd μ S w v (mkc c x):=by
 unfold mkc;split
 ·rename_i d y;cases h with
  | pure h=>cases h
  | cndT _ _ h=>
   cases h with
   | pure h=>cases h
   | cndT _ _ h=>exact .cndT _ _ h
   | cndF _=>exact .cndF _
  | cndF _=>exact .cndF _
 ·exact h
theorem De (hT:TabOK P T) {ops:Array Oper} {o:Oper} {l:List Oper} {Q:Exit->Act->World->Prop} {c:Bool} {p:Prop} {x:AV} (hg:guardOf ops σ o.guard=some c) (hs:eX T σ o.op=some (p,x)) (hp:c=true->p)
  (h:WpL P C ops l Q (σ.put o.dst (mkc c x))):WpL P C ops (o::l) Q σ:=by
 intro a w hr;unfold wpList;obtain ⟨μ,S,hi⟩:=hr;rw[bk hi hg];cases c with
 | false=>exact h _ _ ⟨μ,S,hi.put o.dst (xY (.cndF x))⟩
 | true=>
  refine .inl ?_;obtain ⟨u,h1,h2⟩:=lS hT hi o hs (hp rfl);unfold Oper.wp;rw[h1];exact h _ _ ⟨μ,S,hi.put o.dst (xY (.cndT u x h2))⟩
def FX:Op->Bool
 | .call { callee:=.value _,.. }=>true
 | _=>false
def jR (T:Tab) (ops:Array Oper):List Oper->St->Option (Prop×List Oper×St)
 | [],σ=>some (True,[],σ)
 | o::l,σ=>
  if FX o.op then some (True,o::l,σ) else
  match o.guard with
  | none=>
   match ey T σ o.dst o.op with
   | some (p,σ')=>(jR T ops l σ').map λr=>(p/\r.1,r.2)
   | none=>some (True,o::l,σ)
  | some g=>
   match eX T σ o.op with
   | some (p,x)=>
    match guardOf ops σ (some g) with
    | some c=>(jR T ops l (σ.put o.dst (mkc c x))).map λr=>((c=true->p)/\r.1,r.2)
    | none=>some (True,o::l,σ)
   | none=>
    match guardOf ops σ (some g) with
    | some c=>
     if c=true then
      match ey T σ o.dst o.op with
      | some (p,σ')=>(jR T ops l σ').map λr=>(p/\r.1,r.2)
      | none=>some (True,o::l,σ)
     else jR T ops l (σ.put o.dst .any)
    | none=>some (True,o::l,σ)
theorem jJ (hT:TabOK P T) (ops:Array Oper) {Q:Exit->Act->World->Prop}:∀(l:List Oper) (σ:St) {p:Prop} {l':List Oper} {σ':St},jR T ops l σ=some (p,l',σ')->p->WpL P C ops l' Q σ'->WpL P C ops l Q σ
 | [],σ,p,l',σ',h,_,hK=>by
  simp only[jR,gL,gM] at h;obtain ⟨_,rfl,rfl⟩:=h;exact hK
 | o::l,σ,p,l',σ',h,hp,hK=>by
  unfold jR at h;split at h
  ·simp only[gL,gM] at h;obtain ⟨_,rfl,rfl⟩:=h;exact hK
  ·split at h
   ·rename_i hg;split at h
    ·rename_i q σ1 hs;cases e:jR T ops l σ1 with
     | none=>rw[e] at h;cases h
     | some r=>
      obtain ⟨r1,r2,r3⟩:=r;simp only[e,Option.map_some,gL,gM] at h;obtain ⟨rfl,rfl,rfl⟩:=h;exact nv Qy (ch hT o hs hp.1) (jJ hT ops l σ1 e hp.2 hK)
    ·simp only[gL,gM] at h;obtain ⟨_,rfl,rfl⟩:=h;exact hK
   ·rename_i g hg;split at h
    ·rename_i q x hs;split at h
     ·rename_i c hc;cases e:jR T ops l (σ.put o.dst (mkc c x)) with
      | none=>rw[e] at h;cases h
      | some r=>
       obtain ⟨r1,r2,r3⟩:=r;simp only[e,Option.map_some,gL,gM] at h;obtain ⟨rfl,rfl,rfl⟩:=h;exact De hT Z2 hs hp.1 (jJ hT ops l _ e hp.2 hK)
     ·simp only[gL,gM] at h;obtain ⟨_,rfl,rfl⟩:=h;exact hK
    ·split at h
     ·rename_i c hc;split at h
      ·rename_i hct;subst hct;split at h
       ·rename_i q σ1 hs;cases e:jR T ops l σ1 with
        | none=>rw[e] at h;cases h
        | some r=>
         obtain ⟨r1,r2,r3⟩:=r;simp only[e,Option.map_some,gL,gM] at h;obtain ⟨rfl,rfl,rfl⟩:=h;exact nv Z2 (ch hT o hs hp.1) (jJ hT ops l σ1 e hp.2 hK)
       ·simp only[gL,gM] at h;obtain ⟨_,rfl,rfl⟩:=h;exact hK
      ·rename_i hct;have hcf:c=false:=by simpa using hct
       subst hcf;exact A4 Z2 (jJ hT ops l _ h hp hK)
     ·simp only[gL,gM] at h;obtain ⟨_,rfl,rfl⟩:=h;exact hK
theorem kW (hT:TabOK P T) (ops:Array Oper) (l2:List Oper) {Q:Exit->Act->World->Prop}:∀(l:List Oper) (σ:St) {p:Prop} {l':List Oper} {σ':St},jR T ops l σ=some (p,l',σ')->p->WpL P C ops (l'++l2) Q σ'->WpL P C ops (l++l2) Q σ
 | [],σ,p,l',σ',h,_,hK=>by
  simp only[jR,gL,gM] at h;obtain ⟨_,rfl,rfl⟩:=h;exact hK
 | o::l,σ,p,l',σ',h,hp,hK=>by
  unfold jR at h;split at h
  ·simp only[gL,gM] at h;obtain ⟨_,rfl,rfl⟩:=h;exact hK
  ·split at h
   ·rename_i hg;split at h
    ·rename_i q σ1 hs;cases e:jR T ops l σ1 with
     | none=>rw[e] at h;cases h
     | some r=>
      obtain ⟨r1,r2,r3⟩:=r;simp only[e,Option.map_some,gL,gM] at h;obtain ⟨rfl,rfl,rfl⟩:=h;exact nv Qy (ch hT o hs hp.1) (kW hT ops l2 l σ1 e hp.2 hK)
    ·simp only[gL,gM] at h;obtain ⟨_,rfl,rfl⟩:=h;exact hK
   ·rename_i g hg;split at h
    ·rename_i q x hs;split at h
     ·rename_i c hc;cases e:jR T ops l (σ.put o.dst (mkc c x)) with
      | none=>rw[e] at h;cases h
      | some r=>
       obtain ⟨r1,r2,r3⟩:=r;simp only[e,Option.map_some,gL,gM] at h;obtain ⟨rfl,rfl,rfl⟩:=h;exact De hT Z2 hs hp.1 (kW hT ops l2 l _ e hp.2 hK)
     ·simp only[gL,gM] at h;obtain ⟨_,rfl,rfl⟩:=h;exact hK
    ·split at h
     ·rename_i c hc;split at h
      ·rename_i hct;subst hct;split at h
       ·rename_i q σ1 hs;cases e:jR T ops l σ1 with
        | none=>rw[e] at h;cases h
        | some r=>
         obtain ⟨r1,r2,r3⟩:=r;simp only[e,Option.map_some,gL,gM] at h;obtain ⟨rfl,rfl,rfl⟩:=h;exact nv Z2 (ch hT o hs hp.1) (kW hT ops l2 l σ1 e hp.2 hK)
       ·simp only[gL,gM] at h;obtain ⟨_,rfl,rfl⟩:=h;exact hK
      ·rename_i hct;have hcf:c=false:=by simpa using hct
       subst hcf;exact A4 Z2 (kW hT ops l2 l _ h hp hK)
     ·simp only[gL,gM] at h;obtain ⟨_,rfl,rfl⟩:=h;exact hK
end
end Go.Eng
