/- Texts of this claim, part 3: EngX, EngY, EngJ, EngK. No condition. -/
import Derived.Test.YtmcfbfdonjllaaaGreatDoorZK2
import Derived.Tactics
set_option maxRecDepth 10000
set_option maxHeartbeats 4000000
set_option linter.unusedSimpArgs false
set_option linter.unusedVariables false
namespace Go.Eng
section
variable {P:Program} {T:Tab} {C:Ctx} {μ:Nat->Option Nat} {S:Nat->Prop} {σ:St} {a:Act} {w:World}
theorem Inv.HK (hi:Inv C μ S σ a w) {H:List (Nat×Blk)} (h:∀id,aa H id=aa σ.hp id):Inv C μ S ⟨σ.tm,H⟩ a w:=
 ⟨hi.size,hi.defers,hi.tm,λid b hb=>hi.hp id b ((h id).symm.trans hb),λid g hg=>by
  obtain ⟨⟨b,k1⟩,k2⟩:=hi.dom id g hg;exact ⟨⟨b,(h id).trans k1⟩,k2⟩,hi.inj,hi.frm,hi.sb⟩
def aP (rows:List (List AV)) (off:Nat) (new:List (List AV)):List (List AV):=rows.take off++new++rows.drop (off+new.length)
theorem cW {rows new:List (List AV)} {off:Nat} (h:off+new.length≤rows.length):(aP rows off new).length=rows.length:=by
 simp[aP];omega
theorem mP {rows new:List (List AV)} {off:Nat} (h:off+new.length≤rows.length) (i:Nat) :
  (aP rows off new)[i]? = if off≤i/\i<off+new.length then new[i-off]? else rows[i]?:=by
 unfold aP;have hl:(rows.take off).length=off:=by simp;omega
 by_cases h1:i<off
 ·rw[if_neg z7,WT,WC z7,WE,if_pos h1]
 ·by_cases h2:i<off+new.length
  ·rw[if_pos z7,WT,Z8 z7,hl,WC z7]
  ·rw[if_neg z7,Z8 y9,WJ]
   congr 1
   simp;omega
theorem lU (hi:Inv C μ S σ a w) {id e s off g:Nat} {rows new:List (List AV)} {vs:List Value} (hb:aa σ.hp id=some (.cells e s rows)) (hg:μ id=some g)
  (hoff:off+new.length≤rows.length) (hl:vs.length=new.length*s) (hrl:∀row,row∈new->row.length=s) (h1:∀u,u∈vs->u.oneCell'=true)
  (hr:∀(i:Nat) row,new[i]? = some row->∀(j:Nat) x,row[j]? = some x->Rd μ S w (vs.getD (i*s+j) undef) x) :
  ∃w',(storeCells ⟨g,off*s,none⟩ vs).run P w=.ok () w'/\Inv C μ S ⟨σ.tm,aB σ.hp id (.cells e s (aP rows off new))⟩ a w':=by
 rcases hi.hp id _ hb with ⟨_,k⟩ | ⟨g',c,k1,k2,k3,k4,k5⟩
 ·rw[k] at hg;cases hg
 ·rw[k1] at hg;injection hg with hg;subst hg
  have hle:(off+new.length)*s≤rows.length*s:=Z2 _ hoff;rw[WW] at hle;obtain ⟨w',r1,r2,r3,r4,r5,r6,c',r7,r8,r9⟩:=dt (P:=P) g' (off*s) e vs 0 w c k2 h1 (by rw[hl];omega);refine ⟨w',r1,?_⟩;have hrs:af w' g'=af w g':=by simp[af,r7,k2,r8]
  have hS:¬S g':=(hi.dom id g' k1).2.2.1;have hw:aE S w w':=λb hb=>r6 b QL
  have hz':∀i q,μ i=some q->af w' q=af w q:=λi q _=>by
   by_cases e:q=g'
   ·subst e;exact hrs
   ·exact aG (r6 q e)
  have hmono:∀{v x},Rd μ S w v x->Rd μ S w' v x:=λh=>h.mono hw (λ_ h=>h) (λ_ _ h=>h) hz'
  refine hi.write id g' k1 r2 r3 r4 r5 r6 hrs _ (.inr ⟨g',c',k1,r7,by rw[cW hoff,r8];exact k3,λq hq=>?_,λi q hq j y hy=>?_⟩)
  ·obtain ⟨i,hi'⟩:=Z1 hq;rw[mP hoff] at hi';split at hi'
   ·exact hrl q (Zs hi')
   ·exact k4 q (Zs hi')
  ·rw[mP hoff] at hq;rw[r9];split at hq
   ·rename_i hin;have hj:j<s:=by
     by_cases h:j<s
     ·exact h
     ·rw[List.getElem?_eq_none (by rw[hrl q (Zs hq)];omega)] at hy;cases hy
    have hlt:=fL (size:=s) hq;have e1:i*s+j=off*s+((i-off)*s+j):=by
     rw[←Nat.add_assoc,←WW,show off+(i-off)=i from by omega]
    rw[if_pos z7,show i*s+j-(off*s+0)=(i-off)*s+j from by omega];exact hmono (hr _ q hq j y hy)
   ·rename_i hout;have hj:j<s:=by
     by_cases h:j<s
     ·exact h
     ·rw[List.getElem?_eq_none (by rw[k4 q (Zs hq)];omega)] at hy;cases hy
    have hk:¬(off*s+0≤i*s+j/\i*s+j<off*s+0+vs.length):=by
     rw[hl]
     by_cases h:i<off
     ·have:=Z2 s (show i+1≤off by omega);rw[Ws] at this;omega
     ·have:=Z2 s (show off+new.length≤i by omega);rw[WW] at this;omega
    rw[if_neg hk];exact hmono (k5 i q hq j y hy)
def mg (T:Tab) (σ:St) (t:TypeId) (x:AV):Option (Prop×List (Nat×Blk)):=
 match T.und t,x with
 | .sl _,.nils=>some (True,σ.hp)
 | .sl e,.osl id s off len=>
  match aa σ.hp id with
  | some (.cells e' s' rows)=>
   if s'=s then some (T.siz e=s/\s≠0/\(T.zer e).all AV.leaf=true/\off+len≤rows.length,aB σ.hp id (.cells e' s' (aP rows off (List.replicate len (T.zer e)))))
   else none
  | _=>none
 | _,_=>none
theorem sx {σ:St} {id:Nat} {b:Blk} (hb:aa σ.hp id=some b):∀i,aa (aB σ.hp id b) i=aa σ.hp i:=λi=>by
 rw[ai];split
 ·rename_i e;subst e;exact hb.symm
 ·rfl
theorem mQ (rows:List (List AV)) (off:Nat):aP rows off []=rows:=by simp[aP]
theorem wK (hT:TabOK P T) (hi:Inv C μ S σ a w) {t ty:TypeId} {v:Value} {x:AV} {p:Prop} {hp':List (Nat×Blk)} (h:mg T σ t x=some (p,hp')) (hp:p) (hv:Rd μ S w v x) :
  ∃w',(Builtin.clear_ #[t] ty #[v]).run P w=.ok (.tuple #[]) w'/\Inv C μ S ⟨σ.tm,hp'⟩ a w':=by
 unfold mg at h;have ht:=hT.und t;split at h
 ·rename_i e hu;rw[hu] at ht;simp only[h_] at ht;simp only[Option.some.injEq,Prod.mk.injEq] at h;obtain ⟨_,rfl⟩:=h;obtain rfl:=hv.eJ;exact ⟨w,by simp[Builtin.clear_,run_underlying ht],hi⟩
 ·rename_i e id s off len hu;rw[hu] at ht;simp only[h_] at ht;split at h
  ·rename_i e' s' rows hb;split at h
   ·rename_i hss;subst hss;simp only[Option.some.injEq,Prod.mk.injEq] at h;obtain ⟨rfl,rfl⟩:=h;obtain ⟨hz,hz0,hleaf,hle⟩:=hp;subst hz;obtain ⟨A,cap,rfl,hc,hor⟩:=hv.bG
    by_cases h0:len=0
    ·subst h0;refine ⟨w,by cases A<;>simp[Builtin.clear_,run_underlying ht],hi.HK λi=>?_⟩;rw[List.replicate_zero,mQ];exact sx hb i
    ·rcases hor with ⟨h1,_⟩ | ⟨g,e2,n,h1,rfl,h3,h4⟩
     ·exact absurd h1 h0
     ·obtain ⟨z,z1,z2,z3⟩:=kV hT (e:=e) len hz0;have e5:Builtin.zeroCells z.cells len=(Array.range (len*T.siz e)).map (z.cells[· % z.cells.size]!):=by rw[Builtin.zeroCells,z2]
      have hr:=z3 μ S w;rw[←e5] at hr;generalize hzs:Builtin.zeroCells z.cells len=zs at hr;clear e5 z3;obtain ⟨q1,q2,q3⟩:=hr;simp only[Wk] at q1;have hs0:0<T.siz e:=by omega
      have hzl:(T.zer e).length=T.siz e:=q2 (T.zer e) (List.mem_replicate.2 ⟨h0,rfl⟩);obtain ⟨w',r1,r2⟩:=lU (P:=P) hi (off:=off) (new:=List.replicate len (T.zer e)) (vs:=zs.toList) hb h1 (by simpa using hle)
       (by rw[Array.length_toList,q1];simp) (λrow hrow=>q2 row hrow) (λu hu=>by
        obtain ⟨k,hk⟩:=Z1 hu;have hk':k<len*T.siz e:=by
         have:=(Zu.1 hk).1;rw[Array.length_toList,q1] at this;exact this
        have hdiv:k / T.siz e<len:=(Nat.div_lt_iff_lt_mul hs0).2 hk';have hmod:=Nat.mod_lt k hs0;have:=q3 (k / T.siz e) (T.zer e) (by rw[Wi,if_pos hdiv]) (k % T.siz e) ((T.zer e).getD (k % T.siz e) .any) (by
         rw[Zo,Zp z7];rfl)
        have e3:k / T.siz e*T.siz e+k % T.siz e=k:=by rw[Nat.mul_comm];exact Nat.div_add_mod k (T.siz e)
        rw[e3] at this;have e4:zs.getD k undef=u:=by
         rw[Zq,←WI,hk];rfl
        rw[e4] at this;exact this.leaf (List.all_eq_true.1 hleaf _ (by rw[Zo,Zp z7];exact WR _)))
       (λi row hrow j x hx=>by
        have:=q3 i row hrow j x hx
        rwa [Zq,←WI,←Zo] at this)
      refine ⟨w',?_,r2⟩;obtain ⟨m,rfl⟩:∃m,len=m+1:=⟨len-1,by omega⟩;simp[Builtin.clear_,run_underlying ht,z1,hzs,r1]
   ·cases h
  ·cases h
 ·cases h
theorem yy {size n:Nat} {v:Value} {rows:List (List AV)} {vs:List Value} (h:Src μ S w size v rows vs) (hl:dT (rows.take n)=true):∀u,u∈vs.take (min rows.length n*size)->u.oneCell'=true:=by
 intro u hu;obtain ⟨k,hk⟩:=Z1 hu;rw[WE] at hk;split at hk
 ·rename_i hkn;have hsz:0<size:=by
   rcases Nat.eq_zero_or_pos size with h' | h'
   ·subst h';omega
   ·exact h'
  have hi:k / size<min rows.length n:=by rw[Nat.div_lt_iff_lt_mul hsz];exact hkn
  have hrow:rows[k / size]? = some (rows[k / size]'z7):=Zp z7;have hm:=Nat.mod_lt k hsz;have hrl:(rows[k / size]'z7).length=size:=h.rlen _ (Zs hrow);have hx:(rows[k / size]'z7)[k % size]? = some ((rows[k / size]'z7)[k % size]'z7):=Zp z7;have:=h.rd _ _ hrow _ _ hx;rw[Nat.div_add_mod',Zo,hk] at this;have hmem:(rows[k / size]'z7)∈rows.take n:=by
   refine Zs (i:=k / size) ?_;rw[WE,if_pos z7];exact hrow
  exact this.leaf (List.all_eq_true.1 (List.all_eq_true.1 hl _ hmem) _ (Zs hx))
 ·cases hk
theorem yg {size n:Nat} {v:Value} {rows:List (List AV)} {vs:List Value} (h:Src μ S w size v rows vs) (hn:n≤rows.length):(Builtin.firstCells size n v).run P w=.ok (vs.take (n*size)).toArray w:=by
 obtain ⟨A,cap,rfl,hf⟩:=h.form;have hle:n*size≤rows.length*size:=Z2 _ hn
 by_cases h0:0<rows.length
 ·obtain ⟨g,o,rfl,hc⟩:=hf h0;have:=run_loadCells_list (P:=P) (w:=w) ⟨g,o,none⟩ (vs.take (n*size)) (λj u hu=>by
   rw[WE] at hu;split at hu
   ·rw[add_plain];exact hc j u hu
   ·cases hu)
  rw[Z9,h.len,Wo hle] at this;simpa[Builtin.firstCells] using this
 ·have e:n=0:=by omega
  subst e;cases A with
  | none=>simp[Builtin.firstCells]
  | some ad=>simp[Builtin.firstCells,Go.loadCells,Go.loadCellsFrom]
def pU (T:Tab) (σ:St) (t:TypeId) (x y:AV):Option (Prop×List (Nat×Blk)×AV):=
 match T.und t,cC σ y,x with
 | .sl e,some R,.osl id s off len=>
  match aa σ.hp id with
  | some (.cells e' s' rows)=>
   if s'=s then some (T.siz e=s/\s≠0/\rowsOf s R/\(∀id s off len,y=.osl id s off len->R.length=len)/\dT (R.take len)=true/\off+len≤rows.length,
    aB σ.hp id (.cells e' s' (aP rows off (R.take len))),.int .i64 (min R.length len:Nat))
   else none
  | _=>none
 | _,_,_=>none
theorem C2 (hT:TabOK P T) {t e u ty:TypeId} (ht:P.underlying t=some (.slice e)) (hz:T.siz e≠0) (A B:Option Addr) (len cap lenB capB:Nat) {vs:List Value}
  (hf:(Builtin.firstCells (T.siz e) (min lenB len) (.slice B lenB capB)).run P w=.ok vs.toArray w) :
  (Builtin.copy_ #[t,u] ty #[.slice A len cap,.slice B lenB capB]).run P w =
   (((match A with | some ad=>storeCells ad vs | none=>pure ()):Sem Unit).run P w).andThen (λ_ w'=>.ok (goInt (min lenB len:Nat)) w'):=by
 have hf':(Builtin.firstCells (T.siz e) (Nat.min lenB len) (.slice B lenB capB)).run P w=.ok vs.toArray w:=hf;cases A<;>simp[Builtin.copy_,run_underlying ht,Builtin.lenOf,a_ hT hz,hf']<;>rfl
theorem yn (hT:TabOK P T) (hi:Inv C μ S σ a w) {t u ty:TypeId} {vx vy:Value} {x y r:AV} {p:Prop} {hp':List (Nat×Blk)} (h:pU T σ t x y=some (p,hp',r)) (hp:p) (hvx:Rd μ S w vx x) (hvy:Rd μ S w vy y) :
  ∃v w',(Builtin.copy_ #[t,u] ty #[vx,vy]).run P w=.ok v w'/\Inv C μ S ⟨σ.tm,hp'⟩ a w'/\Rd μ S w' v r:=by
 unfold pU at h;have ht:=hT.und t;split at h
 ·rename_i e R id s off len hu hsrc;rw[hu] at ht;simp only[h_] at ht;split at h
  ·rename_i e' s' rows hb;split at h
   ·rename_i hss;subst hss;simp only[Option.some.injEq,Prod.mk.injEq] at h;obtain ⟨rfl,rfl,rfl⟩:=h;obtain ⟨hz,hz0,hrl,hlen,hleaf,hle⟩:=hp;subst hz;obtain ⟨vs,hvs⟩:=lP hi hsrc hvy hrl hlen;obtain ⟨A,cap,rfl,hc,hor⟩:=hvx.bG;obtain ⟨B,capB,rfl,_⟩:=hvs.form;have hfirst:=yg (P:=P) (n:=min R.length len) hvs z7;have hrun:=C2 (t:=t) (u:=u) (ty:=ty) (w:=w) hT ht hz0 A B len cap R.length capB hfirst
    by_cases h0:min R.length len=0
    ·have hn:R.take len=[]:=List.eq_nil_of_length_eq_zero n3;have ev:vs.take (min R.length len*T.siz e)=[]:=by rw[h0];simp
     rw[ev] at hrun;refine ⟨_,w,by rw[hrun];cases A<;>simp[storeCells]<;>rfl,hi.HK λi=>?_,.pure (.int _ _)⟩;rw[hn,mQ];exact sx hb i
    ·rcases hor with ⟨h1,_⟩ | ⟨g,e2,n,h1,rfl,h3,h4⟩
     ·omega
     ·have hleaf':=yy hvs hleaf;have hmul:min R.length len*T.siz e≤R.length*T.siz e:=Z2 _ (Nat.min_le_left _ _);obtain ⟨w',r1,r2⟩:=lU (P:=P) hi (off:=off) (new:=R.take len) (vs:=vs.take (min R.length len*T.siz e)) hb h1 y9
       (by rw[Z9,hvs.len,Z9,Wo hmul,Nat.min_comm]) (λrow hrow=>hrl row (Z3 hrow)) (λq hq=>hleaf' q hq) (λi row hrow j x hx=>by
        rw[WE] at hrow;split at hrow
        ·rename_i hil;have hlt:=fL (size:=T.siz e) hrow;have hj:j<T.siz e:=by
          by_cases h:j<T.siz e
          ·exact h
          ·rw[List.getElem?_eq_none (by rw[hrl row (Zs hrow)];omega)] at hx;cases hx
         have hi2:i<R.length:=(Zu.1 hrow).1;have:=Z2 (T.siz e) (show i+1≤min R.length len by omega);rw[Ws] at this;rw[Zo,WE,if_pos z7,←Zo];exact hvs.rd i row hrow j x hx
        ·cases hrow)
      exact ⟨_,w',by rw[hrun];simp only[r1];rfl,r2,.pure (.int _ _)⟩
   ·cases h
  ·cases h
 ·cases h
end
end Go.Eng
namespace Go.Eng
section
variable {P:Program} {T:Tab} {C:Ctx} {μ:Nat->Option Nat} {S:Nat->Prop} {σ:St} {a:Act} {w:World}
def bY {α:Type}:List (Int×α)->Int->α->List (Int×α)
 | [],n,v=>[(n,v)]
 | p::r,n,v=>if p.1=n then (n,v)::r else if n<p.1 then (n,v)::p::r else p::bY r n v
def kX {α:Type} (kvs:List (Int×α)) (n:Int):List (Int×α):=kvs.filter λp=>!(p.1==n)
theorem bO {α:Type} {n:Int} {v:α}:∀{kvs:List (Int×α)},kvs.Pairwise (λa b=>a.1<b.1)->∀k x,(k,x)∈bY kvs n v↔(k=n/\x=v)\/(k≠n/\(k,x)∈kvs)
 | [],_,k,x=>by simp[bY]
 | p::r,hs,k,x=>by
  rw[List.pairwise_cons] at hs;have ih:=bO (n:=n) (v:=v) hs.2 k x;obtain ⟨q,y⟩:=p;simp only[bY]
  by_cases h1:q=n
  ·subst h1;rw[if_pos rfl];have:∀z,(q,z)∉r:=λz hz=>by have:=hs.1 _ hz;simp only at this;omega
   simp only[List.mem_cons,Prod.mk.injEq];constructor
   ·rintro (⟨rfl,rfl⟩ | h)
    ·exact .inl ⟨rfl,rfl⟩
    ·exact .inr ⟨by rintro rfl;exact this _ h,.inr h⟩
   ·rintro (⟨rfl,rfl⟩ | ⟨h,(⟨rfl,_⟩ | h2)⟩)
    ·exact .inl ⟨rfl,rfl⟩
    ·exact absurd rfl h
    ·exact .inr h2
  ·rw[if_neg h1]
   by_cases h2:n<q
   ·rw[if_pos h2];simp only[List.mem_cons,Prod.mk.injEq];constructor
    ·rintro (⟨rfl,rfl⟩ | ⟨rfl,rfl⟩ | h)
     ·exact .inl ⟨rfl,rfl⟩
     ·exact .inr ⟨h1,.inl ⟨rfl,rfl⟩⟩
     ·refine .inr ⟨by rintro rfl;have:=hs.1 _ h;simp only at this;omega,.inr h⟩
    ·rintro (⟨rfl,rfl⟩ | ⟨h,(⟨rfl,rfl⟩ | h2)⟩)
     ·exact .inl ⟨rfl,rfl⟩
     ·exact .inr (.inl ⟨rfl,rfl⟩)
     ·exact .inr (.inr h2)
   ·rw[if_neg h2];simp only[List.mem_cons,Prod.mk.injEq,ih];constructor
    ·rintro (⟨rfl,rfl⟩ | ⟨rfl,rfl⟩ | ⟨h,h3⟩)
     ·exact .inr ⟨h1,.inl ⟨rfl,rfl⟩⟩
     ·exact .inl ⟨rfl,rfl⟩
     ·exact .inr ⟨h,.inr h3⟩
    ·rintro (⟨rfl,rfl⟩ | ⟨h,(⟨rfl,rfl⟩ | h3)⟩)
     ·exact .inr (.inl ⟨rfl,rfl⟩)
     ·exact .inl ⟨rfl,rfl⟩
     ·exact .inr (.inr ⟨h,h3⟩)
theorem dD {α:Type} {n:Int} {v:α}:∀{kvs:List (Int×α)},kvs.Pairwise (λa b=>a.1<b.1)->(bY kvs n v).Pairwise λa b=>a.1<b.1
 | [],_=>by simp[bY]
 | p::r,hs=>by
  have hs0:=hs;rw[List.pairwise_cons] at hs;simp only[bY]
  by_cases h1:p.1=n
  ·rw[if_pos h1,List.pairwise_cons];exact ⟨λq hq=>by rw[←h1];exact hs.1 q hq,hs.2⟩
  ·rw[if_neg h1]
   by_cases h2:n<p.1
   ·rw[if_pos h2,List.pairwise_cons];refine ⟨λq hq=>?_,hs0⟩
    rcases List.mem_cons.1 hq with rfl | hq
    ·exact h2
    ·have:=hs.1 q hq;simp only;omega
   ·rw[if_neg h2,List.pairwise_cons];refine ⟨λq hq=>?_,dD hs.2⟩;obtain ⟨k,x⟩:=q
    rcases (bO hs.2 k x).1 hq with ⟨rfl,rfl⟩ | ⟨_,h⟩
    ·simp only;omega
    ·exact hs.1 _ h
theorem kg {α:Type} {n:Int} {v:α}:∀{kvs:List (Int×α)},kvs.Pairwise (λa b=>a.1<b.1)->(bY kvs n v).length=bif (bF kvs n).isSome then kvs.length else kvs.length+1
 | [],_=>by simp[bY,bF]
 | p::r,hs=>by
  rw[List.pairwise_cons] at hs;have ih:=kg (n:=n) (v:=v) hs.2;unfold bY bF
  by_cases h1:p.1=n
  ·simp[h1]
  ·by_cases h2:n<p.1
   ·have:bF r n=none:=by
     cases e:bF r n with
     | none=>rfl
     | some x=>have:=hs.1 _ (gw e);simp only at this;omega
    simp[this,h1,h2]
   ·simp only[h1,h2,if_false,List.length_cons,ih];cases (bF r n).isSome<;>rfl
theorem Av {α:Type} {n:Int} {kvs:List (Int×α)} (h:kvs.Pairwise (λa b=>a.1<b.1)):(kX kvs n).Pairwise λa b=>a.1<b.1:=h.filter _
theorem sM {α:Type} {n:Int} {v:α} {kvs:List (Int×α)} (h:kvs.Pairwise (λa b=>a.1<b.1)) (k:Int):bF (bY kvs n v) k=if k=n then some v else bF kvs k:=by
 split
 ·rename_i e;subst e;exact gV (dD h) ((bO h k v).2 (.inl ⟨rfl,rfl⟩))
 ·rename_i e;cases e1:bF kvs k with
  | some x=>exact gV (dD h) ((bO h k x).2 (.inr ⟨e,gw e1⟩))
  | none=>
   cases e2:bF (bY kvs n v) k with
   | none=>rfl
   | some x=>
    rcases (bO h k x).1 (gw e2) with ⟨h1,_⟩ | ⟨_,h2⟩
    ·exact absurd h1 e
    ·exact absurd h2 (kO e1 x)
def AV.aX:AV->Bool
 | .int .. | .bool _ | .str _ | .nilp | .nili | .ifc | .nils | .nilm | .sl _ | .rp .. | .rm _=>true
 | _=>false
theorem Rd.toP {μ:Nat->Option Nat} {S:Nat->Prop} {w:World} {v:Value} {x:AV} (h:Rd μ S w v x) (hx:x.aX=true):RdP S w v x:=by
 cases h with
 | pure h=>exact h
 | _=>cases hx
def AV.yT:AV->Bool
 | .agg cells=>cells.all AV.aX
 | x=>x.aX
theorem Rd.deep {v:Value} {x:AV} (h:Rd μ S w v x) (hx:x.yT=true):RdP S w v x:=by
 cases x with
 | agg cells=>
  obtain ⟨cs,rfl,hl,hr⟩:=h.kL;exact .agg cs cells hl λj y hy=>(hr j y hy).toP (List.all_eq_true.1 hx y (Zs hy))
 | _=>exact h.toP hx
def qS (T:Tab) (σ:St) (t:TypeId) (x k v:AV):Option (Prop×List (Nat×Blk)):=
 match T.und t,x,k with
 | .map kt _,.mp id,.int .i64 n=>
  match aa σ.hp id with
  | some (.map kvs)=>some ((T.und kt).sy=true/\v.yT=true,aB σ.hp id (.map (bY kvs n v)))
  | _=>none
 | _,_,_=>none
theorem nY {α:Type}:∀{l:List α} {i j:Nat} {x:α},l.Nodup->l[i]? = some x->l[j]? = some x->i=j
 | [],i,j,x,_,h,_=>by simp at h
 | y::r,i,j,x,hn,hi,hj=>by
  rw[List.nodup_cons] at hn;cases i with
  | zero=>
   cases j with
   | zero=>rfl
   | succ j=>
    simp only[List.getElem?_cons_zero,Option.some.injEq] at hi;subst hi;exact absurd (Zs u6) hn.1
  | succ i=>
   cases j with
   | zero=>
    simp only[List.getElem?_cons_zero,Option.some.injEq] at hj;subst hj;exact absurd (Zs Qm) hn.1
   | succ j=>exact congrArg (·+1) (nY hn.2 Qm u6)
theorem EZ {es:Array MapEntry} {clk:Nat} {kvs:List (Int×AV)} {vals:Int->Value} (h:MapOK es clk kvs vals) {j:Nat} {e:MapEntry} {n:Int} {x:AV} (hj:es.toList[j]? = some e) (hk:e.key=.int .i64 n) (hx:bF kvs n=some x)
  (v:Value) (V:AV):MapOK (es.modify j λe=>{ e with key:=.int .i64 n,val:=v }) clk (bY kvs n V) (λm=>if m=n then v else vals m):=by
 have hkeys:((es.modify j λe=>{ e with key:=.int .i64 n,val:=v }).toList.map (·.key))=es.toList.map (·.key):=by
  apply List.ext_getElem?
  intro i;rw[Array.toList_modify,Zr,Zr,List.getElem?_modify]
  by_cases e1:j=i
  ·subst e1;simp[hj,hk]
  ·simp[e1]
 have hborn:((es.modify j λe=>{ e with key:=.int .i64 n,val:=v }).toList.map (·.born))=es.toList.map (·.born):=by
  apply List.ext_getElem?
  intro i;rw[Array.toList_modify,Zr,Zr,List.getElem?_modify]
  by_cases e1:j=i
  ·subst e1;simp[hj]
  ·simp[e1]
 refine ⟨λe' he=>?_,λp hp=>?_,by rw[hkeys];exact h.once,?_,dD h.rise,λe' he=>?_,by rw[hborn];exact h.nodup⟩
 ·obtain ⟨i,hi⟩:=Z1 he;rw[Array.toList_modify,List.getElem?_modify] at hi
  by_cases e1:j=i
  ·subst e1;rw[hj] at hi;have hi:some { e with key:=.int .i64 n,val:=v }=some e':=by simpa using hi
   injection hi with hi
   subst hi;exact ⟨n,V,rfl,(bO h.rise n V).2 (.inl ⟨rfl,rfl⟩),by simp⟩
  ·simp only[e1,if_false] at hi;have hi':es.toList[i]? = some e':=by simpa using hi
   obtain ⟨k,y,h1,h2,h3⟩:=h.key e' (Zs hi');have hne:k≠n:=by
    rintro rfl;exact e1 (nY h.once (by rw[Zr,hj,Option.map_some,hk]) (by rw[Zr,hi',Option.map_some,h1]))
   exact ⟨k,y,h1,(bO h.rise k y).2 (.inr ⟨hne,h2⟩),by rw[if_neg hne];exact h3⟩
 ·obtain ⟨k,y⟩:=p;have hm:Value.int .i64 k∈es.toList.map (·.key):=by
   rcases (bO h.rise k y).1 hp with ⟨rfl,_⟩ | ⟨_,h2⟩
   ·exact Zv.2 ⟨e,Zs hj,hk⟩
   ·obtain ⟨e',he,hk'⟩:=h.has _ h2;exact Zv.2 ⟨e',he,hk'⟩
  rw[←hkeys] at hm;obtain ⟨e',he,hk'⟩:=Zv.1 hm;exact ⟨e',he,hk'⟩
 ·rw[Array.size_modify,kg h.rise,hx,h.len];rfl
 ·have:e'.born∈es.toList.map (·.born):=by rw[←hborn];exact Zv.2 ⟨e',he,rfl⟩
  obtain ⟨e2,he2,hb2⟩:=Zv.1 this;rw[←hb2];exact h.born e2 he2
theorem EY {es:Array MapEntry} {clk:Nat} {kvs:List (Int×AV)} {vals:Int->Value} (h:MapOK es clk kvs vals) {n:Int} (hx:bF kvs n=none) (v:Value) (V:AV) :
  MapOK (es.push { key:=.int .i64 n,val:=v,born:=clk }) (clk+1) (bY kvs n V) (λm=>if m=n then v else vals m):=by
 have hno:∀e,e∈es.toList->e.key≠.int .i64 n:=λe he hk=>by
  obtain ⟨k,y,h1,h2,_⟩:=h.key e he;rw[hk] at h1;injection h1 with _ h1;subst h1
  exact kO hx y h2
 refine ⟨λe he=>?_,λp hp=>?_,?_,?_,dD h.rise,λe he=>?_,?_⟩
 ·rw[Array.toList_push,List.mem_append,List.mem_singleton] at he
  rcases he with he | rfl
  ·obtain ⟨k,y,h1,h2,h3⟩:=h.key e he;have hne:k≠n:=by rintro rfl;exact hno e he h1
   exact ⟨k,y,h1,(bO h.rise k y).2 (.inr ⟨hne,h2⟩),by rw[if_neg hne];exact h3⟩
  ·exact ⟨n,V,rfl,(bO h.rise n V).2 (.inl ⟨rfl,rfl⟩),by simp⟩
 ·obtain ⟨k,y⟩:=p
  rcases (bO h.rise k y).1 hp with ⟨rfl,_⟩ | ⟨_,h2⟩
  ·exact ⟨_,by rw[Array.toList_push];exact Zz _ (List.mem_singleton.2 rfl),rfl⟩
  ·obtain ⟨e',he,hk'⟩:=h.has _ h2;exact ⟨e',by rw[Array.toList_push];exact WH _ he,hk'⟩
 ·rw[Array.toList_push,List.map_append,List.nodup_append];refine ⟨h.once,by simp,λx hx y hy hxy=>?_⟩;simp only[List.map_cons,List.map_nil,List.mem_singleton] at hy;obtain ⟨e,he,hk⟩:=Zv.1 hx;exact hno e he (by rw[hk,hxy,hy])
 ·rw[Array.size_push,kg h.rise,hx,h.len];rfl
 ·rw[Array.toList_push,List.mem_append,List.mem_singleton] at he
  rcases he with he | rfl
  ·exact Nat.lt_succ_of_lt (h.born e he)
  ·exact Nat.lt_succ_self _
 ·rw[Array.toList_push,List.map_append,List.nodup_append];refine ⟨h.nodup,by simp,λx hx y hy hxy=>?_⟩;simp only[List.map_cons,List.map_nil,List.mem_singleton] at hy;obtain ⟨e,he,hk⟩:=Zv.1 hx;have:=h.born e he;omega
theorem EX {es:Array MapEntry} {clk:Nat} {kvs:List (Int×AV)} {vals:Int->Value} (h:MapOK es clk kvs vals) {j:Nat} {e:MapEntry} {n:Int} (hj:es.toList[j]? = some e) (hk:e.key=.int .i64 n) :
  MapOK (es.eraseIdxIfInBounds j) clk (kX kvs n) vals:=by
 have hjl:j<es.size:=by
  have:=(Zu.1 hj).1;simpa using this
 have hL:(es.eraseIdxIfInBounds j).toList=es.toList.eraseIdx j:=by
  unfold Array.eraseIdxIfInBounds;rw[dif_pos hjl,Array.toList_eraseIdx]
 have hsub:(es.toList.eraseIdx j).Sublist es.toList:=List.eraseIdx_sublist _ _;have hne:∀e',e'∈es.toList.eraseIdx j->e'.key≠.int .i64 n:=λe' he hk'=>by
  rw[List.mem_eraseIdx_iff_getElem?] at he;obtain ⟨i,hi,hi2⟩:=he;exact hi (nY h.once (by rw[Zr,hi2,Option.map_some,hk']) (by rw[Zr,hj,Option.map_some,hk]))
 refine ⟨λe' he=>?_,λp hp=>?_,?_,?_,Av h.rise,λe' he=>?_,?_⟩
 ·rw[hL] at he;obtain ⟨k,y,h1,h2,h3⟩:=h.key e' (hsub.subset he);refine ⟨k,y,h1,Z0.2 ⟨h2,?_⟩,h3⟩;have:k≠n:=by rintro rfl;exact hne e' he h1
  simpa using this
 ·obtain ⟨hp1,hp2⟩:=Z0.1 hp;obtain ⟨e',he,hk'⟩:=h.has _ hp1;refine ⟨e',?_,hk'⟩;rw[hL,List.mem_eraseIdx_iff_getElem?];obtain ⟨i,hi⟩:=Z1 he;refine ⟨i,?_,hi⟩;rintro rfl;rw[hj] at hi;injection hi with hi;subst hi
  rw[hk] at hk';injection hk' with _ hk'
  simp[hk'] at hp2
 ·rw[hL];exact h.once.sublist (hsub.map _)
 ·have hmem:∃x,(n,x)∈kvs:=by
   obtain ⟨k,x,h1,h2,_⟩:=h.key e (Zs hj);rw[hk] at h1;injection h1 with _ h1;subst h1
   exact ⟨x,h2⟩
  have hlen:∀(l:List (Int×AV)),l.Pairwise (λa b=>a.1<b.1)->(∃x,(n,x)∈l)->(kX l n).length+1=l.length:=by
   intro l
   induction l with
   | nil=>rintro _ ⟨x,hx⟩;simp at hx
   | cons p r ih=>
    intro hs hx;rw[List.pairwise_cons] at hs
    by_cases e1:p.1=n
    ·have:r.filter (λp=>!(p.1==n))=r:=WV.2 λq hq=>by
      have:=hs.1 q hq;have:q.1≠n:=by omega
      simpa using this
     simp[kX,e1,this]
    ·have h2:∃x,(n,x)∈r:=by
      obtain ⟨x,hx⟩:=hx
      rcases List.mem_cons.1 hx with h | h
      ·exact absurd (by rw[←h]) e1
      ·exact ⟨x,h⟩
     have:=ih hs.2 h2;simp only[kX] at this ⊢;rw[List.filter_cons,if_pos (by simpa using e1)];simp[this]
  have h1:=hlen kvs h.rise hmem;have h2:(es.eraseIdxIfInBounds j).size+1=es.size:=by
   rw[←Array.length_toList,hL,List.length_eraseIdx,if_pos (by simpa using hjl),Array.length_toList];omega
  have:=h.len;omega
 ·rw[hL] at he;exact h.born e' (hsub.subset he)
 ·rw[hL];exact h.nodup.sublist (hsub.map _)
theorem qY {g:Nat} {o b:Obj} (hb:w.heap[g]? = some b) (hc:∀c e f,b≠.cells c e f):∃w',(setObj g o).run P w=.ok () w'/\w'.os=w.os/\w'.tape=w.tape/\w'.output=w.output/\w'.heap.size=w.heap.size/\(∀b,b≠g->w'.heap[b]? = w.heap[b]?)/\w'.heap[g]? = some o:=by
 have h:g<w.heap.size:=(WL.1 hb).1;refine ⟨{ w with heap:=w.heap.setIfInBounds g o },?_,rfl,rfl,rfl,by simp,λb hb=>by simp[Ne.symm hb],by simp[h]⟩;unfold setObj;rw[Sem.run.eq_def];simp only[hb];cases b with
 | cells c e f=>exact absurd rfl (hc c e f)
 | _=>rfl
theorem Aj {n m:Int} (h:n=m):(Instr.keyThatStays (.int .i64 n) (.int .i64 m)).run P w=.ok (.int .i64 m) w:=by
 subst h;unfold Instr.keyThatStays;rw[show Instr.sameBits 10000 (.int .i64 n) (.int .i64 n)=true from by unfold Instr.sameBits;simp];rfl
theorem te (hT:TabOK P T) (hi:Inv C μ S σ a w) {t:TypeId} {vx vk vv:Value} {x k v:AV} {p:Prop} {hp':List (Nat×Blk)} (h:qS T σ t x k v=some (p,hp')) (hp:p)
  (hvx:Rd μ S w vx x) (hvk:Rd μ S w vk k) (hvv:Rd μ S w vv v):∃w',(Instr.mapUpdate t vx vk vv).run P w=.ok () w'/\Inv C μ S ⟨σ.tm,hp'⟩ a w':=by
 unfold qS at h;split at h
 ·rename_i kt e id n hu;split at h
  ·rename_i kvs hb;simp only[Option.some.injEq,Prod.mk.injEq] at h;obtain ⟨rfl,rfl⟩:=h;obtain ⟨hk,hd⟩:=hp;have hk:=xG hT hk;have ht:=hT.und t;rw[hu] at ht;simp only[h_] at ht;obtain rfl:=hvk.aF;obtain ⟨g,hg,rfl⟩:=hvx.qv;obtain ⟨g',es,clk,vals,k1,k2,k3,k4⟩:=hi.hp _ _ hb;rw[k1] at hg;injection hg with hg;subst hg
   have hgs:g'<w.heap.size:=by
    by_cases h:g'<w.heap.size
    ·exact h
    ·rw[Array.getElem?_eq_none z7] at k2;cases k2
   have hS:¬S g':=(hi.dom id g' k1).2.2.1;have hdeep:=hvv.deep hd;have fin:∀(es':Array MapEntry) (clk':Nat),MapOK es' clk' (bY kvs n v) (λm=>if m=n then vv else vals m)->(Instr.mapUpdate t (.map (some g')) (.int .i64 n) vv).run P w=(setObj g' (.map es' clk')).run P w ->
     ∃w',(Instr.mapUpdate t (.map (some g')) (.int .i64 n) vv).run P w=.ok () w'/\Inv C μ S ⟨σ.tm,aB σ.hp id (.map (bY kvs n v))⟩ a w':=λes' clk' hm hrun=>by
    obtain ⟨w',r1,r2,r3,r4,r5,r6,r7⟩:=qY (P:=P) (o:=.map es' clk') k2 (λ_ _ _ h=>nomatch h);have hw:aE S w w':=λb hb=>r6 b QL
    refine ⟨w',by rw[hrun,r1],hi.write id g' k1 r2 r3 r4 r5 r6 (by simp[af,r7,k2]) _ ⟨g',es',clk',_,k1,r7,hm,λq hq=>?_⟩⟩;obtain ⟨m,y⟩:=q
    rcases (bO k3.rise m y).1 hq with ⟨rfl,rfl⟩ | ⟨hne,hin⟩
    ·simp only[if_true];exact hdeep.mono hw (λ_ h=>h)
    ·simp only[if_neg hne];exact (k4 _ hin).mono hw (λ_ h=>h)
   rcases k3.find n with ⟨j,en,y,q1,q2,q3,q4,q5⟩ | ⟨q1,q2,q3⟩
   ·refine fin _ clk (EZ k3 q1 q2 q4 vv v) ?_;have q1':es[j]? = some en:=by rw[←WI];exact q1
    simp[Instr.mapUpdate,run_underlying ht,run_checkKey hk,run_findKey (w:=w) hk q5,run_getObj_map k2,q1',q2,Aj]
   ·refine fin _ (clk+1) (EY k3 q1 vv v) ?_;simp[Instr.mapUpdate,run_underlying ht,run_checkKey hk,run_findKey (w:=w) hk q3,run_getObj_map k2]
  ·cases h
 ·cases h
def uQ (T:Tab) (σ:St) (t:TypeId) (x k:AV):Option (Prop×List (Nat×Blk)):=
 match T.und t,x,k with
 | .map kt _,.mp id,.int .i64 n=>
  match aa σ.hp id with
  | some (.map kvs)=>some ((T.und kt).sy=true,aB σ.hp id (.map (kX kvs n)))
  | _=>none
 | _,_,_=>none
theorem A4 (hT:TabOK P T) (hi:Inv C μ S σ a w) {t u ty:TypeId} {vx vk:Value} {x k:AV} {p:Prop} {hp':List (Nat×Blk)} (h:uQ T σ t x k=some (p,hp')) (hp:p)
  (hvx:Rd μ S w vx x) (hvk:Rd μ S w vk k):∃w',(Builtin.delete_ #[t,u] ty #[vx,vk]).run P w=.ok (.tuple #[]) w'/\Inv C μ S ⟨σ.tm,hp'⟩ a w':=by
 unfold uQ at h;split at h
 ·rename_i kt e id n hu;split at h
  ·rename_i kvs hb;simp only[Option.some.injEq,Prod.mk.injEq] at h;obtain ⟨rfl,rfl⟩:=h;have hk:=xG hT hp;have ht:=hT.und t;rw[hu] at ht;simp only[h_] at ht;obtain rfl:=hvk.aF;obtain ⟨g,hg,rfl⟩:=hvx.qv;obtain ⟨g',es,clk,vals,k1,k2,k3,k4⟩:=hi.hp _ _ hb;rw[k1] at hg;injection hg with hg;subst hg
   have hgs:g'<w.heap.size:=by
    by_cases h:g'<w.heap.size
    ·exact h
    ·rw[Array.getElem?_eq_none z7] at k2;cases k2
   have hS:¬S g':=(hi.dom id g' k1).2.2.1;have fin:∀(es':Array MapEntry),MapOK es' clk (kX kvs n) vals->(Builtin.delete_ #[t,u] ty #[.map (some g'),.int .i64 n]).run P w=((setObj g' (.map es' clk)).run P w).andThen (λ_ w=>.ok (.tuple #[]) w) ->
     ∃w',(Builtin.delete_ #[t,u] ty #[.map (some g'),.int .i64 n]).run P w=.ok (.tuple #[]) w'/\Inv C μ S ⟨σ.tm,aB σ.hp id (.map (kX kvs n))⟩ a w':=λes' hm hrun=>by
    obtain ⟨w',r1,r2,r3,r4,r5,r6,r7⟩:=qY (P:=P) (o:=.map es' clk) k2 (λ_ _ _ h=>nomatch h);have hw:aE S w w':=λb hb=>r6 b QL
    exact ⟨w',by rw[hrun,r1];rfl,hi.write id g' k1 r2 r3 r4 r5 r6 (by simp[af,r7,k2]) _ ⟨g',es',clk,_,k1,r7,hm,λq hq=>(k4 q (Z0.1 hq).1).mono hw (λ_ h=>h)⟩⟩
   rcases k3.find n with ⟨j,en,y,q1,q2,q3,q4,q5⟩ | ⟨q1,q2,q3⟩
   ·refine fin _ (EX k3 q1 q2) ?_;simp[Builtin.delete_,run_underlying ht,run_checkKey hk,run_findKey (w:=w) hk q5,run_getObj_map k2]
   ·refine fin es (by
     have:kX kvs n=kvs:=WV.2 λq hq=>by
      have:q.1≠n:=by rintro rfl;exact kO q1 q.2 hq
      simpa using this
     rw[this];exact k3) ?_
    simp[Builtin.delete_,run_underlying ht,run_checkKey hk,run_findKey (w:=w) hk q3,run_getObj_map k2]
  ·cases h
 ·cases h
end
end Go.Eng
namespace Go.Eng
section
variable {P:Program} {T:Tab} {C:Ctx} {σ σ':St}
def dP (T:Tab) (σ:St) (d:Option Tmp) (op:Op):Option (Prop×St):=
 match op,d with
 | .build t parts,d=>(fS T σ t parts.toList).map λr=>(r.1,σ.put d r.2)
 | .alloc t,some d=>
  some (T.siz t≠0/\(T.zer t).length=T.siz t/\(σ.room d).1,
   (⟨(σ.room d).2.tm,(d,.cells t (T.siz t) [T.zer t])::(σ.room d).2.hp⟩:St).put (some d) (.ptr d (T.siz t) 0 0))
 | .box t x,some d=>
  match gS T t (evS (σ.room d).2 x).2 with
  | some xs=>
   some ((evS (σ.room d).2 x).1/\xs.length=T.siz t/\xs.all AV.leaf=true/\(σ.room d).1,
    (⟨(σ.room d).2.tm,(d,.cells t (T.siz t) [xs])::(σ.room d).2.hp⟩:St).put (some d) (.ptr d (T.siz t) 0 0))
  | none=>none
 | .buildSlice t n parts,some d=>
  match ck T (σ.room d).2 t n parts.toList with
  | some (p,e,rows)=>
   some (p/\(σ.room d).1,(⟨(σ.room d).2.tm,(d,.cells e (T.siz e) rows)::(σ.room d).2.hp⟩:St).put (some d) (.osl d (T.siz e) 0 n))
  | none=>none
 | .makeMap _ none,some d=>
  some ((σ.room d).1,(⟨(σ.room d).2.tm,(d,.map [])::(σ.room d).2.hp⟩:St).put (some d) (.mp d))
 | .store t x y,none=>(eP T σ t (evS σ x).2 (evS σ y).2).map λr=>((evS σ x).1/\(evS σ y).1/\r.1,⟨σ.tm,r.2⟩)
 | .call { callee:=.builtin .append,args,argTypes },some d=>
  match args.toList,argTypes.toList with
  | [x,y],[t,u]=>
   if t=u then (dQ T σ d t (evS σ x).2 (evS σ y).2).map λr=>((evS σ x).1/\(evS σ y).1/\r.1,r.2.1.put (some d) r.2.2) else none
  | _,_=>none
 | .call { callee:=.builtin .clear,args,argTypes },d=>
  match args.toList,argTypes.toList with
  | [x],[t]=>(mg T σ t (evS σ x).2).map λr=>((evS σ x).1/\r.1,(⟨σ.tm,r.2⟩:St).put d (.tup []))
  | _,_=>none
 | .call { callee:=.builtin .copy,args,argTypes },d=>
  match args.toList,argTypes.toList with
  | [x,y],[t,_]=>(pU T σ t (evS σ x).2 (evS σ y).2).map λr=>((evS σ x).1/\(evS σ y).1/\r.1,(⟨σ.tm,r.2.1⟩:St).put d r.2.2)
  | _,_=>none
 | .call { callee:=.builtin .delete,args,argTypes },d=>
  match args.toList,argTypes.toList with
  | [x,y],[t,_]=>(uQ T σ t (evS σ x).2 (evS σ y).2).map λr=>((evS σ x).1/\(evS σ y).1/\r.1,(⟨σ.tm,r.2⟩:St).put d (.tup []))
  | _,_=>none
 | .mapUpdate t m k x,none=>(qS T σ t (evS σ m).2 (evS σ k).2 (evS σ x).2).map λr=>((evS σ m).1/\(evS σ k).1/\(evS σ x).1/\r.1,⟨σ.tm,r.2⟩)
 | .insert t m k x,none=>(qS T σ t (evS σ m).2 (evS σ k).2 (evS σ x).2).map λr=>((evS σ m).1/\(evS σ k).1/\(evS σ x).1/\r.1,⟨σ.tm,r.2⟩)
 | op,d=>(dr T σ op).map λr=>(r.1,σ.put d r.2)
theorem om {o:Oper} {H:List (Nat×Blk)} {x:AV} (h:∀μ S a w,Inv C μ S σ a w->∃u w',(execOp a.eval o).run P w=.ok (.value u) w'/\Inv C μ S ⟨σ.tm,H⟩ a w'/\Rd μ S w' u x) :
  dx P C o σ ((⟨σ.tm,H⟩:St).put o.dst x):=by
 intro a w K Q ⟨μ,S,hi⟩ hK;obtain ⟨u,w',hr,hi',hu⟩:=h μ S a w hi;unfold Oper.wp;rw[hr];exact hK _ _ ⟨μ,S,hi'.put o.dst hu⟩
theorem th {o:Oper} (hd:o.dst=none) {H:List (Nat×Blk)} (h:∀μ S a w,Inv C μ S σ a w->∃w',(execOp a.eval o).run P w=.ok .skip w'/\Inv C μ S ⟨σ.tm,H⟩ a w'):dx P C o σ ⟨σ.tm,H⟩:=by
 intro a w K Q ⟨μ,S,hi⟩ hK;obtain ⟨w',hr,hi'⟩:=h μ S a w hi;unfold Oper.wp;rw[hr]
 show K (a.put o.dst undef) w'
 rw[hd];exact hK _ _ ⟨μ,S,hi'⟩
theorem Be (hT:TabOK P T) {o:Oper} {p:Prop} {x:AV} (h:dr T σ o.op=some (p,x)) (hp:p):dx P C o σ (σ.put o.dst x):=
 cS λ_ _ _ _ hi=>jz hT hi o h hp
theorem dw {o:Oper} {d:Tmp} (hd:o.dst=some d) {x:AV}
  (h:∀μ S a w,Inv C μ S σ a w->∃u w' μ' S',(execOp a.eval o).run P w=.ok (.value u) w'/\Inv C μ' S' σ' a w'/\Rd μ' S' w' u x):dx P C o σ (σ'.put (some d) x):=by
 intro a w K Q ⟨μ,S,hi⟩ hK;obtain ⟨u,w',μ',S',hr,hi',hu⟩:=h μ S a w hi;unfold Oper.wp;rw[hr]
 show K (a.put o.dst u) w'
 rw[hd];exact hK _ _ ⟨μ',S',hi'.put (some d) hu⟩
theorem bL (hT:TabOK P T) (o:Oper) {p:Prop} (h:dP T σ o.dst o.op=some (p,σ')) (hp:p):dx P C o σ σ':=by
 have hpure:(dr T σ o.op).map (λr=>(r.1,σ.put o.dst r.2))=some (p,σ')->dx P C o σ σ':=λh=>by
  cases e:dr T σ o.op with
  | none=>rw[e] at h;cases h
  | some q=>
   simp only[e,Option.map_some,Option.some.injEq,Prod.mk.injEq] at h;obtain ⟨rfl,rfl⟩:=h;exact Be hT (p:=q.1) (x:=q.2) e hp
 unfold dP at h;split at h
 ·rename_i t parts hop;cases e:fS T σ t parts.toList with
  | none=>rw[e] at h;cases h
  | some q=>
   simp only[e,Option.map_some,Option.some.injEq,Prod.mk.injEq] at h;obtain ⟨rfl,rfl⟩:=h;refine cS λμ S a w hi=>?_
   obtain ⟨u,h1,h2⟩:=wJ hT hi (p:=q.1) (x:=q.2) e hp;exact ⟨u,by simp only[execOp,hop,Sem.run_bind,h1];rfl,h2⟩
 ·rename_i t d hop hd;simp only[Option.some.injEq,Prod.mk.injEq] at h;obtain ⟨rfl,rfl⟩:=h;obtain ⟨h1,h2,h3⟩:=hp;refine dw hd λμ S a w hi=>?_
  obtain ⟨μ1,hi1⟩:=hi.room d h3;obtain ⟨w',r1,r2⟩:=wI (P:=P) hT hi1 (kS σ d) h1;rw[h2] at r2;exact ⟨_,w',_,S,by simp only[execOp,hop,Sem.run_bind,r1];rfl,r2,by simpa using Rd.ptr d (T.siz t) 0 0 w.heap.size (by simp[upd])⟩
 ·rename_i t y d hop hd;split at h
  ·rename_i xs hxs;simp only[Option.some.injEq,Prod.mk.injEq] at h;obtain ⟨rfl,rfl⟩:=h;obtain ⟨h0,h1,h2,h3⟩:=hp;refine dw hd λμ S a w hi=>?_
   obtain ⟨μ1,hi1⟩:=hi.room d h3;obtain ⟨c1,_,c3⟩:=me hxs h2 (hi1.evS y h0);obtain ⟨w',r1,r2⟩:=td (P:=P) (t:=t) hi1 (kS σ d) ⟨c1,c3⟩;rw[h1] at r2;exact ⟨_,w',_,S,by simp only[execOp,hop,Sem.run_bind,r1];rfl,r2,by simpa using Rd.ptr d (T.siz t) 0 0 w.heap.size (by simp[upd])⟩
  ·cases h
 ·rename_i t n parts d hop hd;split at h
  ·rename_i q e rows hb;simp only[Option.some.injEq,Prod.mk.injEq] at h;obtain ⟨rfl,rfl⟩:=h;obtain ⟨h1,h3⟩:=hp;refine dw hd λμ S a w hi=>?_
   obtain ⟨μ1,hi1⟩:=hi.room d h3;obtain ⟨w',r1,r2,r3,r4⟩:=oh (P:=P) hT hi1 (kS σ d) hb h1;refine ⟨_,w',_,S,by simp only[execOp,hop,Sem.run_bind,r1];rfl,r2,.osl d (T.siz e) 0 n n _ (Zw _) (.inr ⟨w.heap.size,e,n*T.siz e,by simp[upd],by simp,r4,by simp⟩)⟩
  ·cases h
 ·rename_i t d hop hd;simp only[Option.some.injEq,Prod.mk.injEq] at h;obtain ⟨rfl,rfl⟩:=h;refine dw hd λμ S a w hi=>?_
  obtain ⟨μ1,hi1⟩:=hi.room d hp;obtain ⟨w',r1,r2⟩:=rR (P:=P) (t:=t) hi1 (kS σ d);exact ⟨_,w',_,S,by simp only[execOp,hop,Sem.run_bind,Option.map_none,r1];rfl,r2,.mp d w.heap.size (by simp[upd])⟩
 ·rename_i t x y hop hd;cases e:eP T σ t (evS σ x).2 (evS σ y).2 with
  | none=>rw[e] at h;cases h
  | some q=>
   simp only[e,Option.map_some,Option.some.injEq,Prod.mk.injEq] at h;obtain ⟨rfl,rfl⟩:=h;obtain ⟨h1,h2,h3⟩:=hp;intro a w K Q ⟨μ,S,hi⟩ hK;obtain ⟨w',r1,r2⟩:=wQ (P:=P) hT hi (p:=q.1) (hp':=q.2) e h3 (hi.evS x h1) (hi.evS y h2);unfold Oper.wp;have:(execOp a.eval o).run P w=.ok .skip w':=by simp only[execOp,hop,Sem.run_bind,r1];rfl
   rw[this]
   show K (a.put o.dst undef) w'
   rw[hd];exact hK _ _ ⟨μ,S,r2⟩
 ·rename_i args ats d hop hd;split at h
  ·rename_i x y t u hx ht;split at h
   ·rename_i htu;subst htu;cases e:dQ T σ d t (evS σ x).2 (evS σ y).2 with
    | none=>rw[e] at h;cases h
    | some q=>
     simp only[e,Option.map_some,Option.some.injEq,Prod.mk.injEq] at h;obtain ⟨rfl,rfl⟩:=h;obtain ⟨h1,h2,h3⟩:=hp;have e1:args=#[x,y]:=by cases args;simp_all
     have e2:ats=#[t,t]:=by cases ats;simp_all
     subst e1 e2;refine dw hd λμ S a w hi=>?_
     obtain ⟨u,w',μ',r1,r2,r3⟩:=uo (P:=P) (ty:=o.type) hT hi (p:=q.1) (σ':=q.2.1) (r:=q.2.2) e h3 (hi.evS x h1) (hi.evS y h2);exact ⟨u,w',μ',S,by simp[execOp,hop,resolve,invoke,builtin,r1],r2,r3⟩
   ·cases h
  ·cases h
 ·rename_i args ats hop;split at h
  ·rename_i x t hx ht;cases e:mg T σ t (evS σ x).2 with
   | none=>rw[e] at h;cases h
   | some q=>
    simp only[e,Option.map_some,Option.some.injEq,Prod.mk.injEq] at h;obtain ⟨rfl,rfl⟩:=h;have e1:args=#[x]:=congrArg List.toArray hx;have e2:ats=#[t]:=congrArg List.toArray ht;subst e1 e2;refine om λμ S a w hi=>?_
    obtain ⟨w',r1,r2⟩:=wK (P:=P) (ty:=o.type) hT hi (p:=q.1) (hp':=q.2) e hp.2 (hi.evS x hp.1);exact ⟨_,w',by simp[execOp,hop,resolve,invoke,builtin,r1],r2,.tup #[] [] rfl (λj x h=>by simp at h)⟩
  ·cases h
 ·rename_i args ats hop;split at h
  ·rename_i x y t u hx ht;cases e:pU T σ t (evS σ x).2 (evS σ y).2 with
   | none=>rw[e] at h;cases h
   | some q=>
    simp only[e,Option.map_some,Option.some.injEq,Prod.mk.injEq] at h;obtain ⟨rfl,rfl⟩:=h;have e1:args=#[x,y]:=congrArg List.toArray hx;have e2:ats=#[t,u]:=congrArg List.toArray ht;subst e1 e2;refine om λμ S a w hi=>?_
    obtain ⟨v,w',r1,r2,r3⟩:=yn (P:=P) (u:=u) (ty:=o.type) hT hi (p:=q.1) (hp':=q.2.1) (r:=q.2.2) e hp.2.2 (hi.evS x hp.1) (hi.evS y hp.2.1);exact ⟨v,w',by simp[execOp,hop,resolve,invoke,builtin,r1],r2,r3⟩
  ·cases h
 ·rename_i args ats hop;split at h
  ·rename_i x y t u hx ht;cases e:uQ T σ t (evS σ x).2 (evS σ y).2 with
   | none=>rw[e] at h;cases h
   | some q=>
    simp only[e,Option.map_some,Option.some.injEq,Prod.mk.injEq] at h;obtain ⟨rfl,rfl⟩:=h;have e1:args=#[x,y]:=congrArg List.toArray hx;have e2:ats=#[t,u]:=congrArg List.toArray ht;subst e1 e2;refine om λμ S a w hi=>?_
    obtain ⟨w',r1,r2⟩:=A4 (P:=P) (u:=u) (ty:=o.type) hT hi (p:=q.1) (hp':=q.2) e hp.2.2 (hi.evS x hp.1) (hi.evS y hp.2.1);exact ⟨_,w',by simp[execOp,hop,resolve,invoke,builtin,r1],r2,.tup #[] [] rfl (λj x h=>by simp at h)⟩
  ·cases h
 ·rename_i t m k x hop hd;cases e:qS T σ t (evS σ m).2 (evS σ k).2 (evS σ x).2 with
  | none=>rw[e] at h;cases h
  | some q=>
   simp only[e,Option.map_some,Option.some.injEq,Prod.mk.injEq] at h;obtain ⟨rfl,rfl⟩:=h;refine th hd λμ S a w hi=>?_
   obtain ⟨w',r1,r2⟩:=te (P:=P) hT hi (p:=q.1) (hp':=q.2) e hp.2.2.2 (hi.evS m hp.1) (hi.evS k hp.2.1) (hi.evS x hp.2.2.1);exact ⟨w',by simp only[execOp,hop,Sem.run_bind,r1];rfl,r2⟩
 ·rename_i t m k x hop hd;cases e:qS T σ t (evS σ m).2 (evS σ k).2 (evS σ x).2 with
  | none=>rw[e] at h;cases h
  | some q=>
   simp only[e,Option.map_some,Option.some.injEq,Prod.mk.injEq] at h;obtain ⟨rfl,rfl⟩:=h;refine th hd λμ S a w hi=>?_
   obtain ⟨w',r1,r2⟩:=te (P:=P) hT hi (p:=q.1) (hp':=q.2) e hp.2.2.2 (hi.evS m hp.1) (hi.evS k hp.2.1) (hi.evS x hp.2.2.1);exact ⟨w',by simp only[execOp,hop,Sem.run_bind,r1];rfl,r2⟩
 ·exact hpure h
def WpL (P:Program) (C:Ctx) (ops:Array Oper) (l:List Oper) (Q:Exit->Act->World->Prop) (σ:St):Prop:=∀a w,Rel C σ a w->wpList P ops Q l a w
def guardOf (ops:Array Oper) (σ:St) (g:Option (Nat×Bool)):Option Bool:=
 match g with
 | none=>some true
 | some (j,want)=>
  match (ops[j]?).bind (·.dst) with
  | some d=>
   match σ.tm.getD d .any with
   | .bool b=>some (b==want)
   | .cnd c (.bool b)=>some (c&&(b==want))
   | _=>none
  | none=>none
theorem ba {ops:Array Oper} {o:Oper} {c:Bool} {μ:Nat->Option Nat} {S:Nat->Prop} {a:Act} {w:World} (hi:Inv C μ S σ a w) (h:guardOf ops σ o.guard=some c) :
  Region.wanted o (yielded ops a.tmps)=c:=by
 unfold Region.wanted;unfold guardOf at h;split at h
 ·rename_i hg;injection h with h;subst h
  rw[hg]
 ·rename_i j want hg;rw[hg];split at h
  ·rename_i d hd;have hv:=hi.ev (.tmp d);simp only[Act.eval,Eng.ev] at hv;have hy:yielded ops a.tmps j=match a.tmps[d]? with | some (.bool b)=>some b | _=>none:=by
    unfold yielded;rw[hd];rfl
   simp only[hy];split at h
   ·rename_i b hb;injection h with h;subst h
    rw[hb] at hv;have:=hv.dj;rw[Zq] at this;cases e:a.tmps[d]? with
    | none=>rw[e] at this;cases this
    | some v=>rw[e] at this;simp only[Option.getD_some] at this;subst this;cases b<;>cases want<;>rfl
   ·rename_i g b hb;injection h with h;subst h
    rw[hb] at hv;rw[Zq] at hv;cases e:a.tmps[d]? with
    | none=>
     rw[e] at hv;simp only[Option.getD_none] at hv;cases g with
     | false=>cases want<;>rfl
     | true=>
      cases hv with
      | pure h=>cases h
      | cndT _ _ h=>cases h.dj
    | some v=>
     rw[e] at hv;simp only[Option.getD_some] at hv;cases hv with
     | pure h=>cases h
     | cndT _ _ h=>obtain rfl:=h.dj;cases b<;>cases want<;>rfl
     | cndF=>cases want<;>rfl
   ·cases h
  ·cases h
theorem kE {ops:Array Oper} {o:Oper} {l:List Oper} {Q:Exit->Act->World->Prop} (hg:guardOf ops σ o.guard=some true) (ht:dx P C o σ σ') (h:WpL P C ops l Q σ'):WpL P C ops (o::l) Q σ:=by
 intro a w hr;unfold wpList;obtain ⟨μ,S,hi⟩:=hr;rw[ba hi hg];exact .inl (ht a w _ Q ⟨μ,S,hi⟩ λa' w' hr'=>h a' w' hr')
theorem xk {ops:Array Oper} {o:Oper} {l:List Oper} {Q:Exit->Act->World->Prop} (hg:guardOf ops σ o.guard=some false) (h:WpL P C ops l Q (σ.put o.dst .any)):WpL P C ops (o::l) Q σ:=by
 intro a w hr;unfold wpList;obtain ⟨μ,S,hi⟩:=hr;rw[ba hi hg];exact h _ _ ⟨μ,S,hi.put o.dst (.any _)⟩
def mkc (c:Bool):AV->AV
 | .cnd d y=>.cnd (c&&d) y
 | x=>.cnd c x
theorem uc {μ:Nat->Option Nat} {S:Nat->Prop} {w:World} {v:Value} {c:Bool} {x:AV} (h:Rd μ S w v (.cnd c x)):Rd μ S w v (mkc c x):=by
 unfold mkc;split
 ·rename_i d y;cases h with
  | pure h=>cases h
  | cndT _ _ h=>
   cases h with
   | pure h=>cases h
   | cndT _ _ h=>exact .cndT _ _ h
   | cndF _=>exact .cndF _
  | cndF _=>exact .cndF _
 ·exact h
theorem zI (hT:TabOK P T) {ops:Array Oper} {o:Oper} {l:List Oper} {Q:Exit->Act->World->Prop} {c:Bool} {p:Prop} {x:AV} (hg:guardOf ops σ o.guard=some c) (hs:dr T σ o.op=some (p,x)) (hp:c=true->p)
  (h:WpL P C ops l Q (σ.put o.dst (mkc c x))):WpL P C ops (o::l) Q σ:=by
 intro a w hr;unfold wpList;obtain ⟨μ,S,hi⟩:=hr;rw[ba hi hg];cases c with
 | false=>exact h _ _ ⟨μ,S,hi.put o.dst (uc (.cndF x))⟩
 | true=>
  refine .inl ?_;obtain ⟨u,h1,h2⟩:=jz hT hi o hs (hp rfl);unfold Oper.wp;rw[h1];exact h _ _ ⟨μ,S,hi.put o.dst (uc (.cndT u x h2))⟩
def Cd:Op->Bool
 | .call { callee:=.value _,.. }=>true
 | _=>false
def gQ (T:Tab) (ops:Array Oper):List Oper->St->Option (Prop×List Oper×St)
 | [],σ=>some (True,[],σ)
 | o::l,σ=>
  if Cd o.op then some (True,o::l,σ) else
  match o.guard with
  | none=>
   match dP T σ o.dst o.op with
   | some (p,σ')=>(gQ T ops l σ').map λr=>(p/\r.1,r.2)
   | none=>some (True,o::l,σ)
  | some g=>
   match dr T σ o.op with
   | some (p,x)=>
    match guardOf ops σ (some g) with
    | some c=>(gQ T ops l (σ.put o.dst (mkc c x))).map λr=>((c=true->p)/\r.1,r.2)
    | none=>some (True,o::l,σ)
   | none=>
    match guardOf ops σ (some g) with
    | some c=>
     if c=true then
      match dP T σ o.dst o.op with
      | some (p,σ')=>(gQ T ops l σ').map λr=>(p/\r.1,r.2)
      | none=>some (True,o::l,σ)
     else gQ T ops l (σ.put o.dst .any)
    | none=>some (True,o::l,σ)
theorem gL (hT:TabOK P T) (ops:Array Oper) {Q:Exit->Act->World->Prop}:∀(l:List Oper) (σ:St) {p:Prop} {l':List Oper} {σ':St},gQ T ops l σ=some (p,l',σ')->p->WpL P C ops l' Q σ'->WpL P C ops l Q σ
 | [],σ,p,l',σ',h,_,hK=>by
  simp only[gQ,Option.some.injEq,Prod.mk.injEq] at h;obtain ⟨_,rfl,rfl⟩:=h;exact hK
 | o::l,σ,p,l',σ',h,hp,hK=>by
  unfold gQ at h;split at h
  ·simp only[Option.some.injEq,Prod.mk.injEq] at h;obtain ⟨_,rfl,rfl⟩:=h;exact hK
  ·split at h
   ·rename_i hg;split at h
    ·rename_i q σ1 hs;cases e:gQ T ops l σ1 with
     | none=>rw[e] at h;cases h
     | some r=>
      obtain ⟨r1,r2,r3⟩:=r;simp only[e,Option.map_some,Option.some.injEq,Prod.mk.injEq] at h;obtain ⟨rfl,rfl,rfl⟩:=h;exact kE Qt (bL hT o hs hp.1) (gL hT ops l σ1 e hp.2 hK)
    ·simp only[Option.some.injEq,Prod.mk.injEq] at h;obtain ⟨_,rfl,rfl⟩:=h;exact hK
   ·rename_i g hg;split at h
    ·rename_i q x hs;split at h
     ·rename_i c hc;cases e:gQ T ops l (σ.put o.dst (mkc c x)) with
      | none=>rw[e] at h;cases h
      | some r=>
       obtain ⟨r1,r2,r3⟩:=r;simp only[e,Option.map_some,Option.some.injEq,Prod.mk.injEq] at h;obtain ⟨rfl,rfl,rfl⟩:=h;exact zI hT Qg hs hp.1 (gL hT ops l _ e hp.2 hK)
     ·simp only[Option.some.injEq,Prod.mk.injEq] at h;obtain ⟨_,rfl,rfl⟩:=h;exact hK
    ·split at h
     ·rename_i c hc;split at h
      ·rename_i hct;subst hct;split at h
       ·rename_i q σ1 hs;cases e:gQ T ops l σ1 with
        | none=>rw[e] at h;cases h
        | some r=>
         obtain ⟨r1,r2,r3⟩:=r;simp only[e,Option.map_some,Option.some.injEq,Prod.mk.injEq] at h;obtain ⟨rfl,rfl,rfl⟩:=h;exact kE Qg (bL hT o hs hp.1) (gL hT ops l σ1 e hp.2 hK)
       ·simp only[Option.some.injEq,Prod.mk.injEq] at h;obtain ⟨_,rfl,rfl⟩:=h;exact hK
      ·rename_i hct;have hcf:c=false:=by simpa using hct
       subst hcf;exact xk Qg (gL hT ops l _ h hp hK)
     ·simp only[Option.some.injEq,Prod.mk.injEq] at h;obtain ⟨_,rfl,rfl⟩:=h;exact hK
theorem iN (hT:TabOK P T) (ops:Array Oper) (l2:List Oper) {Q:Exit->Act->World->Prop}:∀(l:List Oper) (σ:St) {p:Prop} {l':List Oper} {σ':St},gQ T ops l σ=some (p,l',σ')->p->WpL P C ops (l'++l2) Q σ'->WpL P C ops (l++l2) Q σ
 | [],σ,p,l',σ',h,_,hK=>by
  simp only[gQ,Option.some.injEq,Prod.mk.injEq] at h;obtain ⟨_,rfl,rfl⟩:=h;exact hK
 | o::l,σ,p,l',σ',h,hp,hK=>by
  unfold gQ at h;split at h
  ·simp only[Option.some.injEq,Prod.mk.injEq] at h;obtain ⟨_,rfl,rfl⟩:=h;exact hK
  ·split at h
   ·rename_i hg;split at h
    ·rename_i q σ1 hs;cases e:gQ T ops l σ1 with
     | none=>rw[e] at h;cases h
     | some r=>
      obtain ⟨r1,r2,r3⟩:=r;simp only[e,Option.map_some,Option.some.injEq,Prod.mk.injEq] at h;obtain ⟨rfl,rfl,rfl⟩:=h;exact kE Qt (bL hT o hs hp.1) (iN hT ops l2 l σ1 e hp.2 hK)
    ·simp only[Option.some.injEq,Prod.mk.injEq] at h;obtain ⟨_,rfl,rfl⟩:=h;exact hK
   ·rename_i g hg;split at h
    ·rename_i q x hs;split at h
     ·rename_i c hc;cases e:gQ T ops l (σ.put o.dst (mkc c x)) with
      | none=>rw[e] at h;cases h
      | some r=>
       obtain ⟨r1,r2,r3⟩:=r;simp only[e,Option.map_some,Option.some.injEq,Prod.mk.injEq] at h;obtain ⟨rfl,rfl,rfl⟩:=h;exact zI hT Qg hs hp.1 (iN hT ops l2 l _ e hp.2 hK)
     ·simp only[Option.some.injEq,Prod.mk.injEq] at h;obtain ⟨_,rfl,rfl⟩:=h;exact hK
    ·split at h
     ·rename_i c hc;split at h
      ·rename_i hct;subst hct;split at h
       ·rename_i q σ1 hs;cases e:gQ T ops l σ1 with
        | none=>rw[e] at h;cases h
        | some r=>
         obtain ⟨r1,r2,r3⟩:=r;simp only[e,Option.map_some,Option.some.injEq,Prod.mk.injEq] at h;obtain ⟨rfl,rfl,rfl⟩:=h;exact kE Qg (bL hT o hs hp.1) (iN hT ops l2 l σ1 e hp.2 hK)
       ·simp only[Option.some.injEq,Prod.mk.injEq] at h;obtain ⟨_,rfl,rfl⟩:=h;exact hK
      ·rename_i hct;have hcf:c=false:=by simpa using hct
       subst hcf;exact xk Qg (iN hT ops l2 l _ h hp hK)
     ·simp only[Option.some.injEq,Prod.mk.injEq] at h;obtain ⟨_,rfl,rfl⟩:=h;exact hK
end
end Go.Eng
namespace Go.Eng
section
variable {P:Program} {T:Tab} {C:Ctx} {σ σ':St}
inductive It where
 | code (c:Code)
 | ops (all:Array Oper) (l:List Oper)
 | blk (id:Nat)
 | back (J:St->Prop)
def aft (R:Act->World->Prop) (s:(Act->World->Prop)×(Nat->Act->World->Prop)):Exit->Act->World->Prop
 | .normal,a,w=>s.1 a w
 | .ret,a,w=>R a w
 | .exit id,a,w=>s.2 id a w
 | _,_,_=>False
def sem (P:Program) (C:Ctx) (R:Act->World->Prop):List It->(Act->World->Prop)×(Nat->Act->World->Prop)
 | []=>(R,λ_ _ _=>False)
 | .code c::k=>(λa w=>c.wp P (aft R (sem P C R k)) a w,(sem P C R k).2)
 | .ops all l::k=>(λa w=>wpList P all (aft R (sem P C R k)) l a w,(sem P C R k).2)
 | .blk id::k=>((sem P C R k).1,λi=>if id=i then (sem P C R k).1 else (sem P C R k).2 i)
 | .back J::k=>(λa w=>∃σ',J σ'/\Rel C σ' a w,(sem P C R k).2)
def kY (C:Ctx) (Ret:St->Prop):Act->World->Prop:=λa w=>∃σ',Ret σ'/\Rel C σ' a w
def Cw (P:Program) (C:Ctx) (Ret:St->Prop) (k:List It) (σ:St):Prop:=∀a w,Rel C σ a w->(sem P C (kY C Ret) k).1 a w
def Le (C:Ctx) (σ σ':St):Prop:=∀a w,Rel C σ a w->Rel C σ' a w
variable {Ret:St->Prop} {k:List It}
theorem ay (hl:Le C σ σ') (h:Cw P C Ret k σ'):Cw P C Ret k σ:=λa w hr=>h a w (hl a w hr)
theorem fF (h:Ret σ):Cw P C Ret [] σ:=λ_ _ hr=>⟨σ,h,hr⟩
theorem BG {id:Nat} (h:Cw P C Ret k σ):Cw P C Ret (.blk id::k) σ:=h
theorem ZB {J:St->Prop} (h:J σ):Cw P C Ret (.back J::k) σ:=λ_ _ hr=>⟨σ,h,hr⟩
theorem yR (h:Cw P C Ret k σ):Cw P C Ret (.code .skip::k) σ:=λa w hr=>wp_skip (h a w hr)
theorem iX (h:Ret σ):Cw P C Ret (.code .ret::k) σ:=λ_ _ hr=>wp_ret ⟨σ,h,hr⟩
theorem nz {x y:Code} (h:Cw P C Ret (.code x::.code y::k) σ):Cw P C Ret (.code (.seq x y)::k) σ:=λa w hr=>
 wp_seq (wp_mono (h a w hr) λe a w q=>by cases e<;>first | exact q | exact q.elim)
theorem rZ {id:Nat} {ops:Array Oper} (h:Cw P C Ret (.ops ops ops.toList::k) σ):Cw P C Ret (.code (.region id ops false)::k) σ:=λa w hr=>
 wp_region_list (h a w hr)
theorem tD {c:Operand} {x y:Code} {b:Bool} {p:Prop} (hc:evS σ c=(p,.bool b)) (hp:p) (ht:b=true->Cw P C Ret (.code x::k) σ) (hf:b=false->Cw P C Ret (.code y::k) σ) :
  Cw P C Ret (.code (.cond c x y)::k) σ:=λa w hr=>by
 obtain ⟨μ,S,hi⟩:=hr;have hv:=hi.evS c (by rw[hc];exact hp);rw[hc] at hv;exact wp_cond_split hv.dj (λh=>ht h a w ⟨μ,S,hi⟩) (λh=>hf h a w ⟨μ,S,hi⟩)
theorem uO {id:Nat} {c:Code} (h:Cw P C Ret (.code c::.blk id::k) σ):Cw P C Ret (.code (.block id c)::k) σ:=λa w hr=>
 wp_block (wp_mono (h a w hr) λe a w q=>by
  cases e with
  | exit i=>
   simp only[aft,sem] at q;simp only[Exit.inBlock]
   by_cases e:id=i
   ·rw[if_pos e] at q;rw[if_pos e.symm];exact q
   ·rw[if_neg e] at q;rw[if_neg (λh=>e h.symm)];exact q
  | _=>first | exact q | exact q.elim)
def exitTo:Nat->List It->Option (List It)
 | id,.blk i::k=>if i=id then some k else exitTo id k
 | id,_::k=>exitTo id k
 | _,[]=>none
theorem kv {R:Act->World->Prop} {id:Nat}:∀{k k':List It},exitTo id k=some k'->(sem P C R k).2 id=(sem P C R k').1
 | [],_,h=>by cases h
 | .blk i::k,k',h=>by
  simp only[exitTo] at h;simp only[sem];split at h
  ·rename_i e;injection h with h;subst h;rw[if_pos e]
  ·rename_i e;rw[if_neg e];exact kv h
 | .code c::k,k',h=>by simp only[sem];exact kv (k:=k) Zk
 | .ops a l::k,k',h=>by simp only[sem];exact kv (k:=k) Zk
 | .back J::k,k',h=>by simp only[sem];exact kv (k:=k) Zk
theorem yP {id:Nat} {k':List It} (he:exitTo id k=some k') (h:Cw P C Ret k' σ):Cw P C Ret (.code (.exit id)::k) σ:=λa w hr=>
 wp_exit (by show (sem P C _ k).2 id a w;rw[kv he];exact h a w hr)
theorem gm {all:Array Oper} (h:Cw P C Ret k σ):Cw P C Ret (.ops all []::k) σ:=λa w hr=>h a w hr
theorem BN (hT:TabOK P T) {all:Array Oper} {l l':List Oper} {p:Prop} (h:gQ T all l σ=some (p,l',σ')) (hp:p) (hk:Cw P C Ret (.ops all l'::k) σ'):Cw P C Ret (.ops all l::k) σ:=
 gL hT all l σ h hp hk
theorem bk {all:Array Oper} {o:Oper} {l:List Oper} (hg:guardOf all σ o.guard=some true) (ht:dx P C o σ σ') (hk:Cw P C Ret (.ops all l::k) σ'):Cw P C Ret (.ops all (o::l)::k) σ:=
 kE hg ht hk
open Classical in
theorem least {p:Nat->Prop} (h:∃n,p n):∃n,p n/\∀m,m<n->¬p m:=by
 obtain ⟨n,hn⟩:=h
 induction n using Nat.strongRecOn with
 | _ n ih=>
  by_cases h':∃m,m<n/\p m
  ·obtain ⟨m,h1,h2⟩:=h';exact ih m h1 h2
  ·exact ⟨n,hn,λm hm hp=>h' ⟨m,hm,hp⟩⟩
theorem Eo {ι:Type} (I:ι->St) (m:ι->Nat) (i0:ι) {c:Code} (h0:Le C σ (I i0))
  (round:∀i,Cw P C Ret (.code c::.back (λs=>∃j,m j<m i/\Le C s (I j))::k) (I i)):Cw P C Ret (.code (.loop c)::k) σ:=by
 classical
 intro a w hr
 let At (a:Act) (w:World) (n:Nat):Prop:=∃i,m i=n/\Rel C (I i) a w
 let M (a:Act) (w:World):Nat:=if h:∃n,At a w n then Classical.choose (least h) else 0
 have hM:∀a w,(∃n,At a w n)->At a w (M a w)/\∀n,At a w n->M a w≤n:=λa w h=>by
  have e:M a w=Classical.choose (least h):=dif_pos h;obtain ⟨h1,h2⟩:=WB (least h);rw[e];refine ⟨h1,λn hn=>?_⟩
  rcases Nat.lt_or_ge n (Classical.choose (least h)) with h3 | h3
  ·exact absurd hn (h2 n h3)
  ·exact h3
 refine wp_loop (λa w=>∃i,Rel C (I i) a w) M ⟨i0,h0 a w hr⟩ λa' w' ⟨i',hi'⟩=>?_
 obtain ⟨⟨i,hi,hri⟩,_⟩:=hM a' w' ⟨m i',i',rfl,hi'⟩;have:=round i a' w' hri;refine wp_mono this λe a2 w2 q=>?_
 cases e with
 | normal=>
  obtain ⟨s,⟨j,hj,hle⟩,hrs⟩:=q;have hrj:=hle a2 w2 hrs;refine ⟨⟨j,hrj⟩,?_⟩;have:=(hM a2 w2 ⟨m j,j,rfl,hrj⟩).2 (m j) ⟨j,rfl,hrj⟩;omega
 | _=>first | exact q | exact q.elim
def uh (T:Tab) (σ:St):ResultVar->Option (Prop×AV)
 | .tmp t=>some (True,σ.tm.getD t .any)
 | .cell a t=>jh T σ t (σ.tm.getD a .any)
def ug (a:Act):ResultVar->Sem Value
 | .tmp t=>pure (a.tmps.getD t undef)
 | .cell x t=>do loadVar t (←asAddr (a.tmps.getD x undef))
theorem yf (fn:Func) (a:Act):results fn a.tmps=(do
  let vs ←fn.results.mapM (ug a)
  pure (if h:vs.size=1 then vs[0] else .tuple vs)):=rfl
def ye (T:Tab) (σ:St):List ResultVar->Option (Prop×List AV)
 | []=>some (True,[])
 | r::rs=>
  match uh T σ r,ye T σ rs with
  | some (p,x),some (q,l)=>some (p/\q,x::l)
  | _,_=>none
def one:List AV->AV
 | [x]=>x
 | l=>.tup l
def sY (T:Tab) (σ:St) (rs:List ResultVar):Option (Prop×AV):=(ye T σ rs).map λr=>(r.1,one r.2)
section
variable {μ:Nat->Option Nat} {S:Nat->Prop} {a:Act} {w:World}
theorem qV (hT:TabOK P T) (hi:Inv C μ S σ a w):∀(rs:List ResultVar) {p:Prop} {l:List AV},ye T σ rs=some (p,l)->p ->
  ∃vs:List Value,(rs.mapM (ug a)).run P w=.ok vs w /\
   vs.length=l.length/\∀(j:Nat) x,l[j]? = some x->Rd μ S w (vs.getD j undef) x
 | [],p,l,h,_=>by
  simp only[ye,Option.some.injEq,Prod.mk.injEq] at h;obtain ⟨_,rfl⟩:=h;exact ⟨[],by simp,rfl,λj x hx=>by simp at hx⟩
 | r::rs,p,l,h,hp=>by
  unfold ye at h;split at h
  ·rename_i p1 x q l' h1 h2;simp only[Option.some.injEq,Prod.mk.injEq] at h;obtain ⟨rfl,rfl⟩:=h;obtain ⟨vs,k1,k2,k3⟩:=qV hT hi rs h2 hp.2;have key:∃u,(ug a r).run P w=.ok u w/\Rd μ S w u x:=by
    cases r with
    | tmp t=>
     simp only[uh,Option.some.injEq,Prod.mk.injEq] at h1;obtain ⟨_,rfl⟩:=h1;exact ⟨_,rfl,hi.ev (.tmp t)⟩
    | cell b t=>
     simp only[uh] at h1;obtain ⟨u,j1,j2⟩:=rf hT hi h1 hp.1 (hi.ev (.tmp b));refine ⟨u,?_,j2⟩;have hv:=hi.ev (.tmp b);simp only[Act.eval] at hv j1;simp only[ug,Instr.loadAt,Sem.run_bind] at j1 ⊢
     revert j1
     cases a.tmps.getD b undef<;>simp[Instr.sureAddr,asAddr];rename_i A;cases A<;>simp
   obtain ⟨u,j1,j2⟩:=key;refine ⟨u::vs,?_,by simp[k2],λj y hy=>?_⟩
   ·rw[List.mapM_cons];simp only[Sem.run_bind,j1,Result.andThen_ok,k1,Sem.run_pure]
   ·cases j with
    | zero=>simp only[List.getElem?_cons_zero,Option.some.injEq] at hy;subst hy;exact j2
    | succ j=>simpa using k3 j y (by simpa using hy)
  ·cases h
theorem AL (hT:TabOK P T) (hi:Inv C μ S σ a w) {fn:Func} {p:Prop} {r:AV} (h:sY T σ fn.results.toList=some (p,r)) (hp:p) :
  ∃v,(results fn a.tmps).run P w=.ok v w/\Rd μ S w v r:=by
 unfold sY at h;cases e:ye T σ fn.results.toList with
 | none=>rw[e] at h;cases h
 | some q=>
  obtain ⟨q1,l⟩:=q;simp only[e,Option.map_some,Option.some.injEq,Prod.mk.injEq] at h;obtain ⟨rfl,rfl⟩:=h;obtain ⟨vs,h1,h2,h3⟩:=qV hT hi _ e hp;refine ⟨if h:vs.toArray.size=1 then vs.toArray[0] else .tuple vs.toArray,?_,?_⟩
  ·rw[yf];rw[Array.mapM_eq_mapM_toList];simp only[Sem.run_bind,Sem.run_map,h1,Result.andThen_ok,Sem.run_pure]
  ·match l,h2,h3 with
   | [],h2,h3=>
    have:vs=[]:=List.eq_nil_of_length_eq_zero h2;subst this;exact .tup #[] [] rfl (λj x hx=>by simp at hx)
   | [x],h2,h3=>
    match vs,h2 with
    | [v],_=>simpa[one] using h3 0 x rfl
   | x::y::l,h2,h3=>
    rw[dif_neg (by simp at h2 ⊢;omega)];exact .tup _ _ Q9 (λj z hz=>by
     have:=h3 j z hz
     rwa [Zq,List.getElem?_toArray,←Zo])
end
structure HpOK (μ:Nat->Option Nat) (S:Nat->Prop) (w:World) (H:List (Nat×Blk)):Prop where
 blk:∀id b,aa H id=some b->bN μ S w id b
 dom:∀id g,μ id=some g->(∃b,aa H id=some b)/\¬S g/\g<w.heap.size
 inj:∀id id' g,μ id=some g->μ id'=some g->id=id'
 glob:GOK μ w
def ae (P:Program) (f:FuncId) (args:List AV) (H:List (Nat×Blk)) (post:AV->List (Nat×Blk)->Prop):Prop:=
 ∀(R0:Nat->Prop) (μ:Nat->Option Nat) (w0:World) (vs:List Value),vs.length=args.length->(∀(j:Nat) x,args[j]? = some x->Rd μ R0 w0 (vs.getD j undef) x) ->
  HpOK μ R0 w0 H->(∀b,R0 b->b<w0.heap.size) ->
  Calls P f vs.toArray w0 λe w'=>∃v r H' μ' S',e=.returned v/\post r H'/\Rd μ' S' w' v r/\HpOK μ' S' w' H'/\Frm (λg=>∃id,μ id=some g) w0 w' /\
   (∀id g,μ' id=some g->(∃id',μ id'=some g)\/w0.heap.size≤g)/\(∀b,S' b->b<w'.heap.size/\(R0 b\/(∃id,μ id=some b)\/w0.heap.size≤b))
theorem B2 (hT:TabOK P T) {f:FuncId} {fn:Func} {c:Code} {args:List AV} {H:List (Nat×Blk)} {post:AV->List (Nat×Blk)->Prop}
  (hf:P.funcs[f]? = some fn) (hb:fn.body=some c)
  (h:∀C:Ctx,Cw P C (λs=>∃p r,sY T s fn.results.toList=some (p,r)/\p/\post r s.hp) [.code c] ⟨args++List.replicate (fn.ntmps-args.length) .any,H⟩):ae P f args H post:=by
 intro R0 μ w0 vs hl hargs hH hR
 let C:Ctx:=⟨w0,λg=>∃id,μ id=some g,R0,hH.glob⟩
 refine calls_of_wp hf hb ?_;have hrel:Rel C ⟨args++List.replicate (fn.ntmps-args.length) .any,H⟩ { tmps:=vs.toArray++Array.replicate (fn.ntmps-vs.toArray.size) undef,defers:=[] } w0:=by
  refine ⟨μ,R0,by simp[hl],rfl,λt x hx=>?_,hH.blk,λid g hg=>⟨(hH.dom id g hg).1,.inl ⟨id,hg⟩,(hH.dom id g hg).2⟩,hH.inj,Frm.refl _ _,λb hb=>⟨hR b hb,.inl hb⟩⟩
  by_cases ht:t<args.length
  ·rw[WC ht] at hx;have:=hargs t x hx;rw[Zo] at this;rw[Zq,WZ (by simpa[hl] using ht)];simpa using this
  ·rw[Z8 z7,Wi] at hx;split at hx
   ·injection hx with hx;subst hx;exact .any _
   ·cases hx
 have hw:=h C _ _ hrel;refine wp_mono hw λex a w q=>?_
 have key:kY C (λs=>∃p r,sY T s fn.results.toList=some (p,r)/\p/\post r s.hp) a w->a.defers=[]/\∃v,(results fn a.tmps).run P w=.ok v w /\
   ∃v' r H' μ' S',Ending.returned v=.returned v'/\post r H'/\Rd μ' S' w v' r/\HpOK μ' S' w H'/\Frm (λg=>∃id,μ id=some g) w0 w /\
   (∀id g,μ' id=some g->(∃id',μ id'=some g)\/w0.heap.size≤g)/\(∀b,S' b->b<w.heap.size/\(R0 b\/(∃id,μ id=some b)\/w0.heap.size≤b)):=by
  rintro ⟨s,⟨p,r,h1,h2,h3⟩,μ',S',hi⟩;obtain ⟨v,k1,k2⟩:=AL hT hi h1 h2;exact ⟨hi.defers,v,k1,v,r,s.hp,μ',S',rfl,h3,k2,⟨hi.hp,λid g hg=>⟨(hi.dom id g hg).1,(hi.dom id g hg).2.2⟩,hi.inj,hi.gok⟩,hi.frm,λid g hg=>(hi.dom id g hg).2.1,hi.sb⟩
 cases ex with
 | normal=>exact key q
 | ret=>exact key q
 | exit id=>exact q.elim
 | _=>exact q.elim
end
end Go.Eng
