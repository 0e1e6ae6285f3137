/- Texts of this claim, part 2: EngE, EngF, EngG, EngH, EngI. No condition. -/
import Derived.Test.YtmcfbfdonjllaaaGreatDoorZK1
import Derived.Laws.AppendOwn
set_option maxRecDepth 10000
set_option maxHeartbeats 4000000
set_option linter.unusedSimpArgs false
set_option linter.unusedVariables false
namespace Go.Eng
section
variable {P:Program} {T:Tab} {C:Ctx} {μ:Nat->Option Nat} {S:Nat->Prop} {σ:St} {a:Act} {w:World}
def upd (μ:Nat->Option Nat) (id:Nat) (g:Option Nat):Nat->Option Nat:=λi=>if i=id then g else μ i
theorem bt (w:World) (o:Obj) (k:Nat) (h:k<w.heap.size):(w.alloc o).heap[k]? = w.heap[k]?:=by
 show (w.heap.push o)[k]? = _
 rw[Array.getElem?_push,if_neg z7]
theorem iw (w:World) (o:Obj):(w.alloc o).heap[w.heap.size]? = some o:=by
 show (w.heap.push o)[w.heap.size]? = _
 simp
def AV.leaf:AV->Bool
 | .any | .agg _ | .tup _ | .cnd ..=>false
 | _=>true
theorem Rd.leaf {v:Value} {x:AV} (h:Rd μ S w v x) (hx:x.leaf=true):v.oneCell'=true:=by
 cases h with
 | any=>cases hx
 | pure h=>cases h<;>first | rfl | cases hx
 | agg=>cases hx
 | tup=>cases hx
 | fn=>rfl
 | ptr=>rfl
 | osl=>rfl
 | mp=>rfl
 | exs=>rfl
 | cndT=>cases hx
 | cndF=>cases hx
theorem Inv.fresh (hi:Inv C μ S σ a w) {id:Nat} (hf:aa σ.hp id=none):μ id=none:=by
 cases e:μ id with
 | none=>rfl
 | some g=>obtain ⟨⟨b,hb⟩,_⟩:=hi.dom id g e;rw[hf] at hb;cases hb
theorem Inv.new (hi:Inv C μ S σ a w) (id:Nat) (hf:aa σ.hp id=none) (o:Obj) (b:Blk) (hb:bN (upd μ id (some w.heap.size)) S (w.alloc o) id b) :
  Inv C (upd μ id (some w.heap.size)) S ⟨σ.tm,(id,b)::σ.hp⟩ a (w.alloc o):=by
 have hn:=hi.fresh hf;have hw:aE S w (w.alloc o):=λb hb=>bt w o b (hi.sb b hb).1
 have hm:∀i g,μ i=some g->upd μ id (some w.heap.size) i=some g:=λi g h=>by
  unfold upd;rw[if_neg (by rintro rfl;rw[hn] at h;cases h)];exact h
 have hz:∀i g,μ i=some g->af (w.alloc o) g=af w g:=λi g h=>aG (bt w o g (hi.dom i g h).2.2.2)
 refine ⟨hi.size,hi.defers,λt x hx=>(hi.tm t x hx).mono hw (λ_ h=>h) hm hz,?_,?_,?_,?_,?_⟩
 ·intro i c hc;simp only[aa] at hc
  by_cases e:id=i
  ·subst e;simp only[if_true,Option.some.injEq] at hc;subst hc;exact hb
  ·rw[if_neg e] at hc;have hn':μ i=none->upd μ id (some w.heap.size) i=none:=λh=>by
    unfold upd;rw[if_neg (λh=>e h.symm)];exact h
   exact (hi.hp i c hc).mono hw (λ_ h=>h) hm hz hn' (λg h=>bt w o g (hi.dom i g h).2.2.2)
 ·intro i g hg;unfold upd at hg;split at hg
  ·rename_i e;injection hg with hg
   subst hg e;exact ⟨⟨b,by simp[aa]⟩,.inr hi.frm.size,λh=>Nat.lt_irrefl _ (hi.sb _ h).1,by simp⟩
  ·rename_i e;obtain ⟨⟨c,h1⟩,h2,h3,h4⟩:=hi.dom i g hg;exact ⟨⟨c,by simp only[aa];rw[if_neg (λh=>e h.symm)];exact h1⟩,h2,h3,by simp;omega⟩
 ·intro i j g h1 h2;unfold upd at h1 h2;split at h1<;>split at h2
  ·simp_all
  ·injection h1 with h1;subst h1;exact absurd (hi.dom j _ h2).2.2.2 (Nat.lt_irrefl _)
  ·injection h2 with h2;subst h2;exact absurd (hi.dom i _ h1).2.2.2 (Nat.lt_irrefl _)
  ·exact hi.inj i j g h1 h2
 ·exact ⟨hi.frm.os,hi.frm.tape,hi.frm.output,by simp;have:=hi.frm.size;omega,λb hb hA=>by
   rw[bt w o b (WO hb hi.frm.size)];exact hi.frm.block b hb hA⟩
 ·intro b hb;exact ⟨by simp;have:=(hi.sb b hb).1;omega,(hi.sb b hb).2⟩
theorem Inv.write (hi:Inv C μ S σ a w) (id g:Nat) (hg:μ id=some g) {w':World} (hos:w'.os=w.os) (htp:w'.tape=w.tape) (hout:w'.output=w.output)
  (hsz:w'.heap.size=w.heap.size) (hne:∀b,b≠g->w'.heap[b]? = w.heap[b]?) (hrow:af w' g=af w g) (b:Blk) (hb:bN μ S w' id b) :
  Inv C μ S ⟨σ.tm,aB σ.hp id b⟩ a w':=by
 obtain ⟨⟨b0,hb0⟩,hA,hS,hlt⟩:=hi.dom id g hg;have hw:aE S w w':=λc hc=>hne c (by rintro rfl;exact hS hc)
 have hz:∀i q,μ i=some q->af w' q=af w q:=λi q h=>by
  by_cases e:q=g
  ·subst e;exact hrow
  ·exact aG (hne q e)
 refine ⟨hi.size,hi.defers,λt x hx=>(hi.tm t x hx).mono hw (λ_ h=>h) (λ_ _ h=>h) hz,?_,?_,hi.inj,?_,?_⟩
 ·intro i c hc;rw[ai] at hc;split at hc
  ·rename_i e;injection hc with hc;subst hc e;exact hb
  ·rename_i e;exact (hi.hp i c hc).mono hw (λ_ h=>h) (λ_ _ h=>h) hz (λh=>h) (λq hq=>hne q (by rintro rfl;exact e (hi.inj _ _ _ hg hq)))
 ·intro i q hq;obtain ⟨⟨c,h1⟩,h2,h3,h4⟩:=hi.dom i q hq;refine ⟨?_,h2,h3,by omega⟩;rw[ai];split
  ·exact ⟨_,rfl⟩
  ·exact ⟨c,h1⟩
 ·refine hi.frm.step (λb=>b=g) ⟨hos,htp,hout,by omega,λb _ h=>hne b h⟩ (λb h=>by rw[h];exact hA)
 ·intro b hb;exact ⟨by have:=(hi.sb b hb).1;omega,(hi.sb b hb).2⟩
theorem dt (g o:Nat) (e:TypeId):∀(vs:List Value) (i:Nat) (w:World) (c:Array Value),w.heap[g]? = some (.cells c e (0,0))->(∀v,v∈vs->v.oneCell'=true) ->
  o+i+vs.length≤c.size->∃w',(storeCells ⟨g,o,none⟩ vs i).run P w=.ok () w'/\w'.os=w.os/\w'.tape=w.tape/\w'.output=w.output/\w'.heap.size=w.heap.size /\
   (∀b,b≠g->w'.heap[b]? = w.heap[b]?)/\∃c':Array Value,w'.heap[g]? = some (.cells c' e (0,0))/\c'.size=c.size /\
    ∀k,c'.getD k undef=if o+i≤k/\k<o+i+vs.length then vs.getD (k-(o+i)) undef else c.getD k undef
 | [],i,w,c,hc,_,_=>⟨w,by simp[storeCells],rfl,rfl,rfl,rfl,λ_ _=>rfl,c,hc,rfl,λk=>by rw[if_neg w7]⟩
 | v::r,i,w,c,hc,h1,hle=>by
  simp only[List.length_cons] at hle;have hcell:w.cell? ⟨g,o+i,none⟩=some (c[o+i]'z7):=by
   simp[World.cell?,hc,show o+i<c.size by omega]
  have hfz:w.frozen? ⟨g,o+i,none⟩=false:=by simp[World.frozen?,hc]
  have aB:(w.setCell ⟨g,o+i,none⟩ v).heap[g]? = some (.cells (c.setIfInBounds (o+i) v) e (0,0)):=by
   simp[World.setCell,Array.getElem?_modify,hc]
  obtain ⟨w',h2,h3,h4,h5,h6,h7,c',h8,h9,h10⟩:=dt g o e r (i+1) (w.setCell ⟨g,o+i,none⟩ v) (c.setIfInBounds (o+i) v) aB
   (λu hu=>h1 u (List.mem_cons_of_mem _ hu)) y9
  refine ⟨w',?_,h3,h4,h5,by rw[h6];simp,λb hb=>?_,c',h8,by rw[h9];simp,λk=>?_⟩
  ·simp only[storeCells,add_plain,Sem.run_bind,run_store P w _ v _ (h1 v (List.mem_cons_self ..)),hcell,hfz,Bool.false_eq_true,if_false,Result.andThen_ok];exact h2
  ·rw[h7 b hb];simp only[World.setCell,Array.getElem?_modify];rw[if_neg (by rintro rfl;exact hb rfl)]
  ·rw[h10 k]
   by_cases e1:k=o+i
   ·subst e1;rw[if_neg z7,if_pos w7];simp[show o+i<c.size by omega]
   ·have:(c.setIfInBounds (o+i) v).getD k undef=c.getD k undef:=by
     rw[Zq,Array.getElem?_setIfInBounds_ne (λh=>e1 h.symm),←Zq]
    rw[this]
    by_cases e2:o+i≤k/\k<o+i+(r.length+1)
    ·rw[if_pos z7,if_pos QN];rw[show k-(o+i)=(k-(o+(i+1)))+1 from by omega];simp
    ·rw[if_neg z7,if_neg QN]
def putAt:List AV->Nat->List AV->List AV
 | l,_,[]=>l
 | l,o,x::r=>putAt (l.set o x) (o+1) r
theorem eN:∀(xs:List AV) (l:List AV) (o:Nat),(putAt l o xs).length=l.length
 | [],_,_=>rfl
 | x::r,l,o=>by simp[putAt,eN r]
theorem n_:∀(xs:List AV) (l:List AV) (o k:Nat),o+xs.length≤l.length->(putAt l o xs)[k]? = if o≤k/\k<o+xs.length then xs[k-o]? else l[k]?
 | [],l,o,k,_=>by rw[if_neg w7];rfl
 | x::r,l,o,k,h=>by
  simp only[List.length_cons] at h;simp only[putAt];rw[n_ r _ _ _ y9]
  by_cases e:k=o
  ·subst e;rw[if_neg z7,if_pos w7];simp[show k<l.length by omega]
  ·rw[List.getElem?_set_ne (λh=>e h.symm)]
   by_cases e2:o≤k/\k<o+(r.length+1)
   ·rw[if_pos z7,if_pos QN];rw[show k-o=(k-(o+1))+1 from by omega];simp
   ·rw[if_neg z7,if_neg QN]
def gS (T:Tab) (t:TypeId) (x:AV):Option (List AV):=
 match (T.und t).isA,x with
 | some true,.agg xs=>some xs
 | some false,x=>some [x]
 | _,_=>none
def eP (T:Tab) (σ:St) (t:TypeId) (addr x:AV):Option (Prop×List (Nat×Blk)):=
 match addr,gS T t x with
 | .ptr id size row off,some xs=>
  match aa σ.hp id with
  | some (.cells e s rows)=>
   if s=size then some (T.siz t≠0/\xs.length=T.siz t/\xs.all AV.leaf=true/\row<rows.length/\off+T.siz t≤s,aB σ.hp id (.cells e s (rows.set row (putAt (rows.getD row []) off xs))))
   else none
  | _=>none
 | _,_=>none
theorem me {t:TypeId} {v:Value} {x:AV} {xs:List AV} (h:gS T t x=some xs) (hl:xs.all AV.leaf=true) (hv:Rd μ S w v x) :
  v.cells.size=xs.length/\(∀u,u∈v.cells.toList->u.oneCell'=true)/\∀(j:Nat) y,xs[j]? = some y->Rd μ S w (v.cells.getD j undef) y:=by
 unfold gS at h;split at h
 ·injection h with h;subst h
  obtain ⟨cs,rfl,h1,h2⟩:=hv.kL;refine ⟨h1,λu hu=>?_,h2⟩;obtain ⟨j,hj,rfl⟩:=List.mem_iff_getElem.1 hu;simp only[Value.cells,Array.length_toList] at hj;rename_i ys _;have hy:ys[j]? = some (ys[j]'z7):=Zp z7;have:=h2 j _ hy;rw[Zq,Zx hj] at this;exact Rd.leaf (by simpa[Value.cells] using this) (List.all_eq_true.1 hl _ (Zs hy))
 ·injection h with h;subst h
  have hone:=hv.leaf p8;have hc:v.cells=#[v]:=by cases v<;>first | rfl | cases hone
  rw[hc];refine ⟨rfl,λu hu=>by simp at hu;subst hu;exact hone,λj y hy=>?_⟩;cases j with
  | zero=>simp only[List.getElem?_cons_zero,Option.some.injEq] at hy;subst hy;exact hv
  | succ j=>simp at hy
 ·cases h
theorem oR {i j i' j' s:Nat} (hj:j<s) (hj':j'<s) (h:i*s+j=i'*s+j'):i=i'/\j=j':=by
 have h1:i=i':=by
  have e1:(i*s+j) / s=i:=by rw[Nat.mul_comm,Nat.mul_add_div z7,Nat.div_eq_of_lt hj];omega
  have e2:(i'*s+j') / s=i':=by rw[Nat.mul_comm,Nat.mul_add_div z7,Nat.div_eq_of_lt hj'];omega
  rw[←e1,←e2,h]
 subst h1;exact ⟨rfl,by omega⟩
theorem wQ (hT:TabOK P T) (hi:Inv C μ S σ a w) {t:TypeId} {va v:Value} {addr x:AV} {p:Prop} {hp':List (Nat×Blk)} (h:eP T σ t addr x=some (p,hp')) (hp:p)
  (hva:Rd μ S w va addr) (hv:Rd μ S w v x):∃w',(Instr.storeAt t va v).run P w=.ok () w'/\Inv C μ S ⟨σ.tm,hp'⟩ a w':=by
 unfold eP at h;split at h
 ·rename_i id size row off xs hx;split at h
  ·rename_i e s rows hb;split at h
   ·rename_i hs;subst hs;simp only[Option.some.injEq,Prod.mk.injEq] at h;obtain ⟨rfl,rfl⟩:=h;obtain ⟨hz,hl,hleaf,hrow,hoff⟩:=hp;obtain ⟨g,hg,rfl⟩:=hva.jc;obtain ⟨k1,k2,k3⟩:=me hx hleaf hv
    rcases hi.hp id _ hb with ⟨rfl,h2⟩ | ⟨g',c,h1,h2,h3,h4,h5⟩
    ·rw[h2] at hg;cases hg
    ·rw[h1] at hg;injection hg with hg;subst hg
     have hle:row*s+s≤rows.length*s:=by
      have:=Z2 s (Nat.succ_le_of_lt hrow)
      rwa [Ws] at this
     have hvl:v.cells.toList.length=T.siz t:=by rw[Array.length_toList,k1,hl]
     obtain ⟨w',r1,r2,r3,r4,r5,r6,c',r7,r8,r9⟩:=dt (P:=P) g' (row*s+off) e v.cells.toList 0 w c h2 k2 z7;refine ⟨w',?_,?_⟩
     ·simp[Instr.storeAt,Instr.sureAddr,storeVar,a_ hT hz,k1,hl,r1]
     ·have hrs:af w' g'=af w g':=by simp[af,r7,h2,r8]
      have hS:¬S g':=(hi.dom id g' h1).2.2.1;have hw:aE S w w':=λb hb=>r6 b QL
      have hz':∀i q,μ i=some q->af w' q=af w q:=λi q _=>by
       by_cases e:q=g'
       ·subst e;exact hrs
       ·exact aG (r6 q e)
      have hmono:∀{v x},Rd μ S w v x->Rd μ S w' v x:=λh=>h.mono hw (λ_ h=>h) (λ_ _ h=>h) hz'
      have hrow':rows[row]? = some (rows.getD row []):=by
       rw[Zo,Zp hrow];rfl
      have hlen:(rows.getD row []).length=s:=h4 _ (Zs hrow');refine hi.write id g' h1 r2 r3 r4 r5 r6 hrs _ (.inr ⟨g',c',h1,r7,by simp;omega,λq hq=>?_,λi q hq j y hy=>?_⟩)
      ·rcases WU hq with h | h
       ·exact h4 q h
       ·rw[h,eN,hlen]
      ·rw[r9];rw[Z7] at hq
       by_cases ei:row=i
       ·subst ei;simp only[if_true,hrow] at hq;injection hq with hq;subst hq
        have hj:j<s:=by
         by_cases h:j<s
         ·exact h
         ·rw[List.getElem?_eq_none (by rw[eN,hlen];omega)] at hy;cases hy
        rw[n_ _ _ _ _ (by rw[hlen];omega)] at hy
        by_cases e2:off≤j/\j<off+xs.length
        ·rw[if_pos e2] at hy;rw[if_pos z7];have:=hmono (k3 _ _ hy);rw[show row*s+j-(row*s+off+0)=j-off from by omega]
         rwa [Zq,←WI,←Zo] at this
        ·rw[if_neg e2] at hy;rw[if_neg z7];exact hmono (h5 row _ hrow' j y hy)
       ·rw[if_neg ei] at hq;have hj:j<s:=by
         by_cases h:j<s
         ·exact h
         ·rw[List.getElem?_eq_none (by rw[h4 _ (Zs hq)];omega)] at hy;cases hy
        rw[if_neg (λhh=>ei (oR (i:=row) (j:=i*s+j-row*s) (i':=i) (j':=j) (s:=s) z7 hj z7).1)];exact hmono (h5 i q hq j y hy)
   ·cases h
  ·cases h
 ·cases h
end
end Go.Eng
namespace Go.Eng
section
variable {P:Program} {T:Tab} {C:Ctx} {μ:Nat->Option Nat} {S:Nat->Prop} {σ:St} {a:Act} {w:World}
def RdL (μ:Nat->Option Nat) (S:Nat->Prop) (w:World) (cs:Array Value) (xs:List AV):Prop:=
 cs.size=xs.length/\∀(j:Nat) x,xs[j]? = some x->Rd μ S w (cs.getD j undef) x
theorem nI (off:Nat):∀(l:List Value) (k:Nat) (cells:Array Value),off+k+l.length≤cells.size ->
  ((l.zipIdx k).foldl (λcs (x:Value×Nat)=>cs.setIfInBounds (off+x.2) x.1) cells).size=cells.size /\
  ∀m,((l.zipIdx k).foldl (λcs (x:Value×Nat)=>cs.setIfInBounds (off+x.2) x.1) cells).getD m undef =
   if off+k≤m/\m<off+k+l.length then l.getD (m-(off+k)) undef else cells.getD m undef
 | [],k,cells,_=>⟨rfl,λm=>by rw[if_neg w7];rfl⟩
 | v::r,k,cells,h=>by
  simp only[List.length_cons] at h;simp only[List.zipIdx_cons,List.foldl_cons];obtain ⟨h1,h2⟩:=nI off r (k+1) (cells.setIfInBounds (off+k) v) y9;refine ⟨by rw[h1];simp,λm=>?_⟩;rw[h2 m]
  by_cases e:m=off+k
  ·subst e;rw[if_neg z7,if_pos w7];simp[show off+k<cells.size by omega]
  ·have:(cells.setIfInBounds (off+k) v).getD m undef=cells.getD m undef:=by
    rw[Zq,Array.getElem?_setIfInBounds_ne (λh=>e h.symm),←Zq]
   rw[this]
   by_cases e2:off+k≤m/\m<off+k+(r.length+1)
   ·rw[if_pos z7,if_pos QN];rw[show m-(off+k)=(m-(off+(k+1)))+1 from by omega];simp
   ·rw[if_neg z7,if_neg QN]
def tL:List AV->List (Nat×Nat×List AV)->List AV
 | l,[]=>l
 | l,(off,_,xs)::r=>tL (putAt l off xs) r
theorem RdL.putAt {cs cs':Array Value} {l xs:List AV} {off:Nat} {vs:Array Value} (h:RdL μ S w cs l) (hx:RdL μ S w vs xs) (hoff:off+xs.length≤l.length) (hsz:cs'.size=cs.size)
  (hg:∀m,cs'.getD m undef=if off≤m/\m<off+vs.size then vs.getD (m-off) undef else cs.getD m undef):RdL μ S w cs' (Eng.putAt l off xs):=by
 refine ⟨by rw[hsz,h.1,eN],λj x hj=>?_⟩;rw[n_ _ _ _ _ hoff] at hj;rw[hg j]
 by_cases e:off≤j/\j<off+xs.length
 ·rw[if_pos e] at hj;rw[if_pos (by rw[hx.1];exact e)];exact hx.2 _ _ hj
 ·rw[if_neg e] at hj;rw[if_neg (by rw[hx.1];exact e)];exact h.2 _ _ hj
theorem qg (place:Nat->Option (Nat×Nat)):∀(parts:List (Nat×Value)) (aps:List (Nat×Nat×List AV)) (cells:Array Value) (l:List AV),RdL μ S w cells l ->
  parts.length=aps.length->(∀(i:Nat) q r,parts[i]? = some q->aps[i]? = some r->place q.1=some (r.1,r.2.1)/\RdL μ S w q.2.cells r.2.2/\r.2.2.length=r.2.1/\r.1+r.2.1≤l.length) ->
  ∃cells',Instr.fill place cells parts=some cells'/\RdL μ S w cells' (tL l aps)
 | [],aps,cells,l,h,hl,_=>by
  cases aps with
  | nil=>exact ⟨cells,rfl,h⟩
  | cons=>simp at hl
 | (i,v)::parts,aps,cells,l,h,hl,hp=>by
  cases aps with
  | nil=>simp at hl
  | cons q aps=>
   obtain ⟨off,size,xs⟩:=q;obtain ⟨h1,h2,h3,h4⟩:=hp 0 (i,v) (off,size,xs) rfl rfl;simp only at h1 h2 h3 h4;have hvs:v.cells.size=size:=by rw[h2.1,h3]
   have hcs:=h.1;obtain ⟨k1,k2⟩:=nI off v.cells.toList 0 cells (by rw[Array.length_toList];omega);have hput:RdL μ S w ((v.cells.toList.zipIdx 0).foldl (λcs (x:Value×Nat)=>cs.setIfInBounds (off+x.2) x.1) cells) (putAt l off xs):=
    h.putAt h2 (by rw[h3];exact h4) k1 (λm=>by
     rw[k2 m];simp only[Array.length_toList,Nat.add_zero];split
     ·rw[Zo,WI,←Zq]
     ·rfl)
   obtain ⟨cells',j1,j2⟩:=qg place parts aps _ (putAt l off xs) hput p8 (λm q r hq hr=>by
    have:=hp (m+1) q r QX (by simpa using hr)
    rwa [eN])
   refine ⟨cells',?_,j2⟩;unfold Instr.fill;rw[h1];simp only[hvs,ne_eq,not_true_eq_false,decide_false,Wj,decide_eq_true_eq];rw[if_neg z7,←Array.foldl_toList,Array.toList_zipIdx];exact j1
theorem rE (hT:TabOK P T) {t:TypeId} (h:T.siz t≠0):∃z,(∀w,(zeroValue t).run P w=.ok z w)/\z.cells.size=T.siz t/\(∀μ S w,RdL μ S w z.cells (T.zer t)) /\
  ((T.und t).isA=some (match z with | .agg _=>true | _=>false)):=by
 obtain ⟨i,hi,_,_,z,h1,h2,h3,h4⟩:=hT.siz t h;refine ⟨z,λw=>by simp[zeroValue,typeInfo,hi,h1],h3,λμ S w=>⟨by rw[←h2];simp,λj x hx=>?_⟩,h4⟩;rw[←h2,Zr,WI] at hx;cases e:z.cells[j]? with
 | none=>rw[e] at hx;cases hx
 | some v=>
  rw[e] at hx;simp only[Option.map_some,Option.some.injEq] at hx;subst hx;rw[Zq,e];exact lJ μ S w v
def jt (T:Tab) (σ:St) (t:TypeId):List (Nat×Operand)->Option (Prop×List (Nat×Nat×List AV))
 | []=>some (True,[])
 | (j,o)::r=>
  match T.fld t j,jt T σ t r with
  | some (ft,off),some (p,l)=>
   match gS T ft (evS σ o).2 with
   | some xs=>some ((evS σ o).1/\xs.length=T.siz ft/\xs.all AV.leaf=true/\off+T.siz ft≤(T.zer t).length/\p,(off,T.siz ft,xs)::l)
   | none=>none
  | _,_=>none
def js (T:Tab) (σ:St) (e:TypeId) (n:Nat):List (Nat×Operand)->Option (Prop×List (Nat×List AV))
 | []=>some (True,[])
 | (j,o)::r=>
  match js T σ e n r,gS T e (evS σ o).2 with
  | some (p,l),some xs=>some ((evS σ o).1/\xs.length=T.siz e/\xs.all AV.leaf=true/\j<n/\p,(j,xs)::l)
  | _,_=>none
def fS (T:Tab) (σ:St) (t:TypeId) (parts:List (Nat×Operand)):Option (Prop×AV):=
 match T.und t,jt T σ t parts with
 | .struct,some (p,l)=>some (T.siz t≠0/\p,.agg (tL (T.zer t) l))
 | _,_=>none
theorem uY (F:Array Field) (h:∀f,f∈F->(P.info? f.type).isSome=true) :
  ((F.mapM λf=>do pure (f.offset,←sizeOf f.type):Sem (Array (Nat×Nat)))).run P w=.ok (F.map λf=>(f.offset,P.cellsOf f.type)) w:=by
 rw[Array.mapM_eq_mapM_toList];have:∀(l:List Field),(∀f,f∈l->(P.info? f.type).isSome=true)->((l.mapM λf=>do pure (f.offset,←sizeOf f.type):Sem (List (Nat×Nat)))).run P w=.ok (l.map λf=>(f.offset,P.cellsOf f.type)) w:=by
  intro l
  induction l with
  | nil=>intro _;simp
  | cons f r ih=>
   intro h;obtain ⟨i,hi⟩:=WM.1 (h f (List.mem_cons_self ..));have hs:(sizeOf f.type).run P w=.ok (P.cellsOf f.type) w:=by simp[sizeOf,typeInfo,hi,Program.cellsOf]
   simp only[List.mapM_cons,Sem.run_bind,hs,Result.andThen_ok,Sem.run_pure,ih (λg hg=>h g (List.mem_cons_of_mem _ hg)),List.map_cons]
 rw[Sem.run_map,this F.toList (λf hf=>h f (by simpa using hf))]
 apply congrArg (λq=>Result.ok q w)
 apply Array.ext'
 simp
theorem mT (hT:TabOK P T) (hi:Inv C μ S σ a w) {t:TypeId} {F:Array Field} (hF:P.underlying t=some (.struct F)):∀(parts:List (Nat×Operand)) (p:Prop) (l:List (Nat×Nat×List AV)),
  jt T σ t parts=some (p,l)->p->parts.length=l.length/\∀(i:Nat) q r,(parts.map λq=>(q.1,a.eval q.2))[i]? = some q->l[i]? = some r ->
   (F.map λf=>(f.offset,P.cellsOf f.type))[q.1]? = some (r.1,r.2.1)/\RdL μ S w q.2.cells r.2.2/\r.2.2.length=r.2.1/\r.1+r.2.1≤(T.zer t).length
 | [],p,l,h,_=>by
  simp only[jt,Option.some.injEq,Prod.mk.injEq] at h;obtain ⟨_,rfl⟩:=h;exact ⟨rfl,λi q r hq=>by simp at hq⟩
 | (j,o)::parts,p,l,h,hp=>by
  unfold jt at h;split at h
  ·rename_i ft off p' l' hfld hrest;split at h
   ·rename_i xs hxs;simp only[Option.some.injEq,Prod.mk.injEq] at h;obtain ⟨rfl,rfl⟩:=h;obtain ⟨h1,h2,h3,h4,h5⟩:=hp;obtain ⟨k1,k2⟩:=mT hT hi hF parts p' l' hrest h5;refine ⟨by simp[k1],λi q r hq hr=>?_⟩;cases i with
    | succ i=>exact k2 i q r QX (by simpa using hr)
    | zero=>
     simp only[List.map_cons,List.getElem?_cons_zero,Option.some.injEq] at hq hr;subst hq hr;obtain ⟨F',f,e1,e2,e3,e4,e5⟩:=hT.fld _ _ _ _ hfld;rw[hF] at e1;injection e1 with e1
     injection e1 with e1
     subst e1;obtain ⟨c1,c2,c3⟩:=me hxs h3 (hi.evS o h1);obtain ⟨inf,e6,e7,_⟩:=hT.siz ft e5;refine ⟨?_,⟨c1,c3⟩,h2,h4⟩;simp[e2,e3,e4,Program.cellsOf,e6,e7]
   ·cases h
  ·cases h
theorem wJ (hT:TabOK P T) (hi:Inv C μ S σ a w) {t:TypeId} {parts:Array (Nat×Operand)} {p:Prop} {x:AV} (h:fS T σ t parts.toList=some (p,x)) (hp:p) :
  ∃u,(Instr.build t (parts.map λ(i,o)=>(i,a.eval o))).run P w=.ok u w/\Rd μ S w u x:=by
 unfold fS at h;split at h
 ·rename_i p' l hu hps;simp only[Option.some.injEq,Prod.mk.injEq] at h;obtain ⟨rfl,rfl⟩:=h;obtain ⟨h1,h3⟩:=hp;have ht:=hT.und t;rw[hu] at ht;obtain ⟨F,hF,hinf⟩:=ht;obtain ⟨z,z1,z2,z3,z4⟩:=rE hT h1;obtain ⟨k1,k2⟩:=mT hT hi hF parts.toList p' l hps h3;obtain ⟨cells',f1,f2⟩:=qg (μ:=μ) (S:=S) (w:=w) ((F.map λf=>(f.offset,P.cellsOf f.type))[·]?) (parts.toList.map λq=>(q.1,a.eval q.2)) l z.cells (T.zer t) (z3 μ S w) (by simpa using k1) k2;refine ⟨.agg cells',?_,.agg cells' _ f2.1 f2.2⟩;simp only[Instr.build,Sem.run_bind,z1,Result.andThen_ok,run_underlying hF,uY F hinf];rw[show (parts.map λ(x:Nat×Operand)=>(x.1,a.eval x.2)).toList=parts.toList.map λq=>(q.1,a.eval q.2) by simp];rw[f1];simp
 ·cases h
end
end Go.Eng
namespace Go.Eng
section
variable {P:Program} {T:Tab} {C:Ctx} {μ:Nat->Option Nat} {S:Nat->Prop} {σ:St} {a:Act} {w:World}
mutual
def refs:AV->List Nat
 | .ptr id _ _ _=>[id]
 | .osl id _ _ _=>[id]
 | .mp id=>[id]
 | .exs id _ _ _ _=>[id]
 | .agg cells=>av cells
 | .tup vs=>av vs
 | .fn _ caps=>av caps
 | .cnd _ v=>refs v
 | _=>[]
def av:List AV->List Nat
 | []=>[]
 | x::r=>refs x++av r
end
theorem aL {x:AV}:∀{l:List AV} {j:Nat} {id:Nat},l[j]? = some x->id∈refs x->id∈av l
 | [],j,id,h,_=>by simp at h
 | y::r,j,id,h,hx=>by
  simp only[av,List.mem_append];cases j with
  | zero=>simp only[List.getElem?_cons_zero,Option.some.injEq] at h;subst h;exact .inl hx
  | succ j=>exact .inr (aL j5 hx)
theorem Rd.other {v:Value} {x:AV} (h:Rd μ S w v x) {id:Nat} (hn:id∉refs x) (g:Option Nat):Rd (upd μ id g) S w v x:=by
 induction h with
 | any v=>exact .any v
 | pure h=>exact .pure h
 | agg cs cells hl hr ih=>exact .agg cs cells hl (λj x hx=>ih j x hx (λh=>hn QA))
 | tup vs xs hl hr ih=>exact .tup vs xs hl (λj x hx=>ih j x hx (λh=>hn QA))
 | fn f vals caps hl hr ih=>exact .fn f vals caps hl (λj x hx=>ih j x hx (λh=>hn QA))
 | ptr i size row off g' hg=>
  refine .ptr i size row off g' ?_;unfold upd;rw[if_neg u1];exact hg
 | osl i size off len cap A hc h=>
  refine .osl i size off len cap A hc ?_
  rcases h with h | ⟨g',e,n,h1,h2,h3,h4⟩
  ·exact .inl h
  ·refine .inr ⟨g',e,n,?_,h2,h3,h4⟩;unfold upd;rw[if_neg u1];exact h1
 | mp i g' hg=>
  refine .mp i g' ?_;unfold upd;rw[if_neg u1];exact hg
 | exs i size off len cap g' e n hc hg hr hn'=>
  refine .exs i size off len cap g' e n hc ?_ hr hn';unfold upd;rw[if_neg u1];exact hg
 | cndT v x h ih=>exact .cndT v x (ih (λh=>hn (by simpa[refs] using h)))
 | cndF x=>exact .cndF x
def kill (id:Nat) (x:AV):AV:=if (refs x).contains id then .any else x
def bP (id:Nat):Blk->Prop
 | .cells _ _ rows=>(rows.all λrow=>row.all λx=>!(refs x).contains id)=true
 | .map _=>True
 | .iter ..=>True
 | .cap id' _ _=>id'≠id
 | .pin id' _ _ _=>id'≠id
def dh (id:Nat):List (Nat×Blk)->Prop
 | []=>True
 | (i,b)::r=>(i≠id->bP id b)/\dh id r
theorem dh.get {id:Nat}:∀{h:List (Nat×Blk)},dh id h->∀{i b},aa h i=some b->i≠id->bP id b
 | [],_,i,b,hb,_=>by simp[aa] at hb
 | (j,c)::r,hf,i,b,hb,hi=>by
  simp only[aa] at hb;split at hb
  ·rename_i e;injection hb with hb;subst hb e
   exact hf.1 hi
  ·exact hf.2.get hb hi
theorem mY {id:Nat} {rows:List (List AV)} (h:(rows.all λrow=>row.all λx=>!(refs x).contains id)=true):∀row,row∈rows->∀x,x∈row->id∉refs x:=by
 intro row hrow x hx;have:=List.all_eq_true.1 (List.all_eq_true.1 h row hrow) x hx;simpa using this
theorem bN.other {id i:Nat} {b:Blk} (h:bN μ S w i b) (hi:i≠id) (hf:bP id b) (g:Option Nat):bN (upd μ id g) S w i b:=by
 have e:upd μ id g i=μ i:=by unfold upd;rw[if_neg hi]
 cases b with
 | cells t s rows=>
  simp only[bN,e]
  rcases h with h | ⟨g',c,h1,h2,h3,h4,h5⟩
  ·exact .inl h
  ·exact .inr ⟨g',c,h1,h2,h3,h4,λk row hk j x hx=>(h5 k row hk j x hx).other (mY hf row (Zs hk) x (Zs hx)) g⟩
 | map kvs=>
  simp only[bN,e];exact h
 | iter kvs seen=>
  simp only[bN,e];exact h
 | cap id' s N=>
  obtain ⟨h1,g',e',h2,h3⟩:=h;refine ⟨e.trans h1,g',e',?_,h3⟩;unfold upd;rw[if_neg hf];exact h2
 | pin id' g' t n=>
  obtain ⟨h1,h2,h3⟩:=h;refine ⟨e.trans h1,?_,h3⟩;unfold upd;rw[if_neg hf];exact h2
def St.drop (σ:St) (id:Nat):St:=⟨σ.tm.map (kill id),c_ σ.hp id⟩
theorem Fe {v:Value} {x:AV} (h:Rd μ S w v x) (id:Nat) (g:Option Nat):Rd (upd μ id g) S w v (kill id x):=by
 unfold kill;split
 ·exact .any v
 ·rename_i hn;exact h.other (by simpa using hn) g
theorem Inv.drop (hi:Inv C μ S σ a w) (id:Nat) (hf:dh id σ.hp):Inv C (upd μ id none) S (σ.drop id) a w:=by
 refine ⟨by simp[St.drop,hi.size],hi.defers,λt x hx=>?_,λi b hb=>?_,λi g hg=>?_,λi j g h1 h2=>?_,hi.frm,hi.sb⟩
 ·simp only[St.drop,Zr] at hx;cases e:σ.tm[t]? with
  | none=>rw[e] at hx;cases hx
  | some y=>
   rw[e] at hx;simp only[Option.map_some,Option.some.injEq] at hx;subst hx;exact Fe (hi.tm t y e) id none
 ·simp only[St.drop,bg] at hb;split at hb
  ·cases hb
  ·rename_i e;exact (hi.hp i b hb).other (λh=>e h.symm) (hf.get hb (λh=>e h.symm)) none
 ·unfold upd at hg;split at hg
  ·cases hg
  ·rename_i e;obtain ⟨⟨c,h1⟩,h2⟩:=hi.dom i g hg;exact ⟨⟨c,by simp only[St.drop,bg];rw[if_neg (λh=>e h.symm)];exact h1⟩,h2⟩
 ·unfold upd at h1 h2;split at h1
  ·cases h1
  ·split at h2
   ·cases h2
   ·exact hi.inj i j g h1 h2
def St.room (σ:St) (id:Nat):Prop×St:=
 match aa σ.hp id with
 | none=>(True,σ)
 | some _=>(dh id σ.hp,σ.drop id)
theorem kS (σ:St) (id:Nat):aa (σ.room id).2.hp id=none:=by
 unfold St.room;split
 ·assumption
 ·simp[St.drop,bg]
theorem Inv.room (hi:Inv C μ S σ a w) (id:Nat) (hp:(σ.room id).1):∃μ',Inv C μ' S (σ.room id).2 a w:=by
 unfold St.room at hp ⊢;split
 ·exact ⟨μ,hi⟩
 ·rename_i b hb;rw[hb] at hp;exact ⟨_,hi.drop id hp⟩
theorem jx (t:TypeId) (cs:Array Value):(newRow t cs).run P w=.ok ⟨w.heap.size,0,none⟩ (w.alloc (.cells cs t)):=rfl
theorem tt (μ:Nat->Option Nat) (S:Nat->Prop) (w:World) (id e s:Nat) (rows:List (List AV)) (cs:Array Value) (hs:cs.size=rows.length*s) (hrow:∀row,row∈rows->row.length=s)
  (h:∀(i:Nat) row,rows[i]? = some row->∀(j:Nat) x,row[j]? = some x->Rd μ S w (cs.getD (i*s+j) undef) x) (hn:μ id=none) (hS:∀b,S b->b<w.heap.size)
  (hd:∀i g,μ i=some g->g<w.heap.size):bN (upd μ id (some w.heap.size)) S (w.alloc (.cells cs e)) id (.cells e s rows):=by
 refine .inr ⟨w.heap.size,cs,by simp[upd],iw w _,by omega,hrow,λi row hi j x hx=>?_⟩;refine (h i row hi j x hx).mono (λb hb=>bt w _ b (hS b hb)) (λ_ h=>h) (λi' g hg=>?_) (λi' g hg=>aG (bt w _ g (hd i' g hg)));unfold upd;rw[if_neg Qp];exact hg
theorem td (hi:Inv C μ S σ a w) {id t:Nat} (hf:aa σ.hp id=none) {v:Value} {xs:List AV} (hx:RdL μ S w v.cells xs) :
  ∃w',(Instr.box t v).run P w=.ok (.pointer (some ⟨w.heap.size,0,none⟩)) w'/\Inv C (upd μ id (some w.heap.size)) S ⟨σ.tm,(id,.cells t xs.length [xs])::σ.hp⟩ a w':=by
 refine ⟨w.alloc (.cells v.cells t),by simp[Instr.box,newVar,jx],?_⟩;refine hi.new id hf _ _ (tt μ S w id t xs.length [xs] v.cells (by simp[hx.1]) w7 (λi row hi' j x hj=>?_) (hi.fresh hf) (λb hb=>(hi.sb b hb).1) (λi g hg=>(hi.dom i g hg).2.2.2));cases i with
 | zero=>simp only[List.getElem?_cons_zero,Option.some.injEq] at hi';subst hi';simpa using hx.2 j x hj
 | succ i=>simp at hi'
theorem wI (hT:TabOK P T) (hi:Inv C μ S σ a w) {id t:Nat} (hf:aa σ.hp id=none) (ht:T.siz t≠0) :
  ∃w',(Instr.alloc t true (.tuple #[])).run P w=.ok (.pointer (some ⟨w.heap.size,0,none⟩)) w'/\Inv C (upd μ id (some w.heap.size)) S ⟨σ.tm,(id,.cells t (T.zer t).length [T.zer t])::σ.hp⟩ a w':=by
 obtain ⟨z,z1,_,z3,_⟩:=rE hT ht;obtain ⟨w',h1,h2⟩:=td (P:=P) (t:=t) hi hf (z3 μ S w);refine ⟨w',?_,h2⟩;simp only[Instr.alloc,Sem.run_bind,z1,Result.andThen_ok];exact h1
theorem rR (hi:Inv C μ S σ a w) {id t:Nat} (hf:aa σ.hp id=none) :
  ∃w',(Instr.makeMap t none).run P w=.ok (.map (some w.heap.size)) w'/\Inv C (upd μ id (some w.heap.size)) S ⟨σ.tm,(id,.map [])::σ.hp⟩ a w':=by
 refine ⟨w.alloc (.map #[] 0),rfl,?_⟩;refine hi.new id hf _ _ ⟨w.heap.size,#[],0,λ_=>undef,by simp[upd],iw w _,⟨λe h=>by simp at h,λp h=>by simp at h,by simp,rfl,List.Pairwise.nil,λe h=>by simp at h,by simp⟩,λp h=>by simp at h⟩
def jy:List (List AV)->List (Nat×List AV)->List (List AV)
 | l,[]=>l
 | l,(j,xs)::r=>jy (l.set j xs) r
structure RdR (μ:Nat->Option Nat) (S:Nat->Prop) (w:World) (s:Nat) (cs:Array Value) (rows:List (List AV)):Prop where
 size:cs.size=rows.length*s
 len:∀row,row∈rows->row.length=s
 rd:∀(i:Nat) row,rows[i]? = some row->∀(j:Nat) x,row[j]? = some x->Rd μ S w (cs.getD (i*s+j) undef) x
theorem oA (hi:Inv C μ S σ a w) {e n:Nat} (hs:T.siz e≠0):∀(parts:List (Nat×Operand)) (p:Prop) (l:List (Nat×List AV)) (cs:Array Value) (rows:List (List AV)),
  js T σ e n parts=some (p,l)->p->rows.length=n->RdR μ S w (T.siz e) cs rows ->
  ∃cs',Instr.fill (λi=>some (i*T.siz e,T.siz e)) cs (parts.map λq=>(q.1,a.eval q.2))=some cs'/\RdR μ S w (T.siz e) cs' (jy rows l)
 | [],p,l,cs,rows,h,_,_,hr=>by
  simp only[js,Option.some.injEq,Prod.mk.injEq] at h;obtain ⟨_,rfl⟩:=h;exact ⟨cs,rfl,hr⟩
 | (k,o)::parts,p,l,cs,rows,h,hp,hn,hr=>by
  unfold js at h;split at h
  ·rename_i p' l' xs hrest hxs;simp only[Option.some.injEq,Prod.mk.injEq] at h;obtain ⟨rfl,rfl⟩:=h;obtain ⟨h1,h2,h3,h4,h5⟩:=hp;obtain ⟨c1,c2,c3⟩:=me hxs h3 (hi.evS o h1);have hvs:(a.eval o).cells.size=T.siz e:=by rw[c1,h2]
   have hle:k*T.siz e+T.siz e≤cs.size:=by
    rw[hr.size,hn];have:=Z2 (T.siz e) (Nat.succ_le_of_lt h4)
    rwa [Ws] at this
   obtain ⟨k1,k2⟩:=nI (k*T.siz e) (a.eval o).cells.toList 0 cs (by rw[Array.length_toList];omega);obtain ⟨cs',j1,j2⟩:=oA hi hs parts p' l' _ (rows.set k xs) hrest h5 (by simp[hn]) ⟨by rw[k1,hr.size];simp,λrow hrow=>by
     rcases WU hrow with h | h
     ·exact hr.len row h
     ·rw[h,h2],λi row hi' j x hj=>by
     rw[k2];simp only[Array.length_toList,Nat.add_zero,hvs];rw[Z7] at hi'
     by_cases ei:k=i
     ·subst ei;simp only[if_true,hn,h4] at hi';injection hi' with hi';subst hi'
      have hjl:j<T.siz e:=by
       by_cases h:j<T.siz e
       ·exact h
       ·rw[List.getElem?_eq_none z7] at hj;cases hj
      rw[if_pos z7,show k*T.siz e+j-k*T.siz e=j from by omega];have:=c3 j x hj
      rwa [Zq,←WI,←Zo] at this
     ·rw[if_neg ei] at hi';have hjl:j<T.siz e:=by
       by_cases h:j<T.siz e
       ·exact h
       ·rw[List.getElem?_eq_none (by rw[hr.len row (Zs hi')];omega)] at hj;cases hj
      rw[if_neg (λhh=>ei (oR (i:=k) (j:=i*T.siz e+j-k*T.siz e) (i':=i) (j':=j) (s:=T.siz e) z7 hjl z7).1)];exact hr.rd i row hi' j x hj⟩
   refine ⟨cs',?_,j2⟩;simp only[List.map_cons];unfold Instr.fill;simp only[hvs,ne_eq,not_true_eq_false,decide_false,Wj,decide_eq_true_eq];rw[if_neg z7,←Array.foldl_toList,Array.toList_zipIdx];exact j1
  ·cases h
theorem kV (hT:TabOK P T) {e:Nat} (n:Nat) (hs:T.siz e≠0):∃z,(∀w,(zeroValue e).run P w=.ok z w)/\z.cells.size=T.siz e /\
  (∀(μ:Nat->Option Nat) (S:Nat->Prop) (w:World),RdR μ S w (T.siz e) ((Array.range (n*T.siz e)).map (z.cells[· % z.cells.size]!)) (List.replicate n (T.zer e))):=by
 obtain ⟨z,z1,z2,z3,_⟩:=rE hT hs;refine ⟨z,z1,z2,λμ S w=>⟨by simp,λrow hrow=>?_,λi row hi j x hj=>?_⟩⟩
 ·rw[List.eq_of_mem_replicate hrow,←(z3 μ S w).1,z2]
 ·have hin:i<n:=by
   by_cases h:i<n
   ·exact h
   ·rw[List.getElem?_eq_none y9] at hi;cases hi
  rw[Wi,if_pos hin] at hi;injection hi with hi;subst hi
  have hjl:j<T.siz e:=by
   by_cases h:j<T.siz e
   ·exact h
   ·rw[List.getElem?_eq_none (by rw[←(z3 μ S w).1,z2];omega)] at hj;cases hj
  have hlt:i*T.siz e+j<n*T.siz e:=by
   have:=Z2 (T.siz e) (Nat.succ_le_of_lt hin);rw[Ws] at this;omega
  have hmod:(i*T.siz e+j) % T.siz e=j:=by rw[Nat.mul_comm,Nat.mul_add_mod,Nat.mod_eq_of_lt hjl]
  have:=(z3 μ S w).2 j x hj;rw[Zq] at this ⊢;have e2:((Array.range (n*T.siz e)).map (z.cells[· % z.cells.size]!))[i*T.siz e+j]? = some (z.cells[j]!):=by
   rw[Array.getElem?_map,Array.getElem?_range,if_pos hlt,Option.map_some,z2,hmod]
  rw[e2];have hj':j<z.cells.size:=by omega
  rw[Zx hj'] at this;simpa[hj'] using this
def ck (T:Tab) (σ:St) (t n:Nat) (parts:List (Nat×Operand)):Option (Prop×TypeId×List (List AV)):=
 match T.und t with
 | .sl e=>
  match js T σ e n parts with
  | some (p,l)=>some (T.siz e≠0/\n*T.siz e≤2 ^ 24/\p,e,jy (List.replicate n (T.zer e)) l)
  | none=>none
 | _=>none
theorem ky:∀(l:List (Nat×List AV)) (rows:List (List AV)),(jy rows l).length=rows.length
 | [],_=>rfl
 | (j,xs)::r,rows=>by simp[jy,ky r]
theorem oh (hT:TabOK P T) (hi:Inv C μ S σ a w) {id t n:Nat} (hf:aa σ.hp id=none) {parts:Array (Nat×Operand)} {p:Prop} {e:TypeId} {rows:List (List AV)}
  (h:ck T σ t n parts.toList=some (p,e,rows)) (hp:p) :
  ∃w',(Instr.buildSlice t n (parts.map λ(i,o)=>(i,a.eval o))).run P w=.ok (.slice (some ⟨w.heap.size,0,none⟩) n n) w' /\
   Inv C (upd μ id (some w.heap.size)) S ⟨σ.tm,(id,.cells e (T.siz e) rows)::σ.hp⟩ a w'/\rows.length=n/\af w' w.heap.size=some (e,n*T.siz e):=by
 unfold ck at h;split at h
 ·rename_i e' hu;split at h
  ·rename_i p' l hps;simp only[Option.some.injEq,Prod.mk.injEq] at h;obtain ⟨rfl,rfl,rfl⟩:=h;obtain ⟨h1,h2,h3⟩:=hp;have ht:=hT.und t;rw[hu] at ht;simp only[h_] at ht;obtain ⟨z,z1,z2,z3⟩:=kV hT n h1;have hz3:RdR μ S w (T.siz e') ((Array.range (n*T.siz e')).map ((if n*T.siz e'=0 then #[] else z.cells)[· % (if n*T.siz e'=0 then #[] else z.cells).size]!)) (List.replicate n (T.zer e')):=by
    by_cases h0:n*T.siz e'=0
    ·have hn:n=0:=by
      rcases Nat.mul_eq_zero.1 h0 with h | h
      ·exact h
      ·exact absurd h h1
     subst hn;exact ⟨by simp,λrow h=>by simp at h,λi row h=>by simp at h⟩
    ·rw[if_neg h0];exact z3 μ S w
   obtain ⟨cs',f1,f2⟩:=oA (T:=T) hi (e:=e') (n:=n) h1 parts.toList p' l _ _ hps h3 w7 hz3;have hl:(jy (List.replicate n (T.zer e')) l).length=n:=by rw[ky];simp
   refine ⟨w.alloc (.cells cs' e'),?_,?_,hl,?_⟩
   ·rw[show (parts.toList.map λq=>(q.1,a.eval q.2))=(parts.map λ(x:Nat×Operand)=>(x.1,a.eval x.2)).toList by simp] at f1;simp only[Instr.buildSlice,Sem.run_bind,run_underlying ht,Result.andThen_ok,a_ hT h1];rw[if_neg z7]
    by_cases h0:n*T.siz e'=0
    ·simp only[h0,if_true] at f1 ⊢;simp only[Sem.run_pure,Result.andThen_ok,Sem.run_bind];rw[f1];rfl
    ·simp only[h0,if_false] at f1 ⊢;simp only[Sem.run_pure,Result.andThen_ok,Sem.run_bind,z1];rw[f1];rfl
   ·exact hi.new id hf _ _ (tt μ S w id e' (T.siz e') _ cs' f2.size f2.len f2.rd (hi.fresh hf) (λb hb=>(hi.sb b hb).1) (λi g hg=>(hi.dom i g hg).2.2.2))
   ·unfold af;rw[iw];simp[f2.size,hl]
  ·cases h
 ·cases h
end
end Go.Eng
namespace Go.Eng
section
variable {P:Program} {T:Tab} {C:Ctx} {μ:Nat->Option Nat} {S:Nat->Prop} {σ:St} {a:Act} {w:World}
def mv (μ:Nat->Option Nat) (id d:Nat):Nat->Option Nat:=λi=>if i=d then μ id else if i=id then none else μ i
theorem Rd.vQ {v:Value} {x:AV} (h:Rd μ S w v x) {id d:Nat} (hn:id∉refs x) (hd:d=id\/μ d=none):Rd (mv μ id d) S w v x:=by
 have key:∀i g,μ i=some g->i≠id->mv μ id d i=some g:=λi g hg hi=>by
  unfold mv;split
  ·rename_i e;subst e
   rcases hd with rfl | hd
   ·exact hg
   ·rw[hd] at hg;cases hg
  ·first | exact hg | (rw[if_neg hi];exact hg)
 induction h with
 | any v=>exact .any v
 | pure h=>exact .pure h
 | agg cs cells hl hr ih=>exact .agg cs cells hl (λj x hx=>ih j x hx (λh=>hn QA))
 | tup vs xs hl hr ih=>exact .tup vs xs hl (λj x hx=>ih j x hx (λh=>hn QA))
 | fn f vals caps hl hr ih=>exact .fn f vals caps hl (λj x hx=>ih j x hx (λh=>hn QA))
 | ptr i size row off g' hg=>exact .ptr i size row off g' (key _ _ hg u1)
 | osl i size off len cap A hc h=>
  refine .osl i size off len cap A hc ?_
  rcases h with h | ⟨g',e,n,h1,h2,h3,h4⟩
  ·exact .inl h
  ·exact .inr ⟨g',e,n,key _ _ h1 u1,h2,h3,h4⟩
 | mp i g' hg=>exact .mp i g' (key _ _ hg u1)
 | exs i size off len cap g' e n hc hg hr hn'=>exact .exs i size off len cap g' e n hc (key _ _ hg u1) hr hn'
 | cndT v x h ih=>exact .cndT v x (ih (λh=>hn (by simpa[refs] using h)))
 | cndF x=>exact .cndF x
theorem bN.vQ {id d i j:Nat} {b:Blk} (h:bN μ S w i b) (hf:bP id b) (hd:d=id\/μ d=none) (hj:mv μ id d j=μ i):bN (mv μ id d) S w j b:=by
 cases b with
 | cells t s rows=>
  simp only[bN,hj]
  rcases h with h | ⟨g',c,h1,h2,h3,h4,h5⟩
  ·exact .inl h
  ·exact .inr ⟨g',c,h1,h2,h3,h4,λk row hk j x hx=>(h5 k row hk j x hx).vQ (mY hf row (Zs hk) x (Zs hx)) hd⟩
 | map kvs=>simp only[bN,hj];exact h
 | iter kvs seen=>simp only[bN,hj];exact h
 | cap id' s N=>
  obtain ⟨h1,g',e',h2,h3⟩:=h;refine ⟨hj.trans h1,g',e',?_,h3⟩;unfold mv;have hf:id'≠id:=hf
  by_cases e1:id'=d
  ·subst e1
   rcases hd with hd | hd
   ·exact absurd hd hf
   ·rw[hd] at h2;cases h2
  ·rw[if_neg e1,if_neg hf];exact h2
 | pin id' g' t n=>
  obtain ⟨h1,h2,h3⟩:=h;refine ⟨hj.trans h1,?_,h3⟩;unfold mv;have hf:id'≠id:=hf
  by_cases e1:id'=d
  ·subst e1
   rcases hd with hd | hd
   ·exact absurd hd hf
   ·rw[hd] at h2;cases h2
  ·rw[if_neg e1,if_neg hf];exact h2
theorem Inv.move (hi:Inv C μ S σ a w) {id d:Nat} {b:Blk} (hb:aa σ.hp id=some b) (hd:d=id\/aa σ.hp d=none) (hf:dh id σ.hp) (hbf:bP id b) :
  Inv C (mv μ id d) S ⟨σ.tm.map (kill id),(d,b)::c_ σ.hp id⟩ a w:=by
 have hd':d=id\/μ d=none:=hd.imp (λh=>h) (λh=>hi.fresh h);refine ⟨by simp[hi.size],hi.defers,λt x hx=>?_,λi c hc=>?_,λi g hg=>?_,λi j g h1 h2=>?_,hi.frm,hi.sb⟩
 ·simp only[Zr] at hx;cases e:σ.tm[t]? with
  | none=>rw[e] at hx;cases hx
  | some y=>
   rw[e] at hx;simp only[Option.map_some,Option.some.injEq] at hx;subst hx;unfold kill;split
   ·exact .any _
   ·rename_i hn;exact (hi.tm t y e).vQ (by simpa using hn) hd'
 ·simp only[aa,bg] at hc;split at hc
  ·rename_i e;injection hc with hc;subst hc e
   exact (hi.hp id b hb).vQ hbf hd' (by simp[mv])
  ·rename_i e;split at hc
   ·cases hc
   ·rename_i e';refine (hi.hp i c hc).vQ (hf.get hc (λh=>e' h.symm)) hd' ?_;unfold mv;rw[if_neg (λh=>e h.symm),if_neg (λh=>e' h.symm)]
 ·unfold mv at hg;split at hg
  ·rename_i e;obtain ⟨_,h2⟩:=hi.dom id g hg;exact ⟨⟨b,by simp[aa,e]⟩,h2⟩
  ·rename_i e;split at hg
   ·cases hg
   ·rename_i e';obtain ⟨⟨c,h1⟩,h2⟩:=hi.dom i g hg;exact ⟨⟨c,by simp only[aa,bg];rw[if_neg (λh=>e h.symm),if_neg (λh=>e' h.symm)];exact h1⟩,h2⟩
 ·unfold mv at h1 h2;split at h1
  ·split at h2
   ·simp_all
   ·split at h2
    ·cases h2
    ·rename_i e1 e2 e3;exact absurd (hi.inj _ _ _ h1 h2) (λh=>e3 h.symm)
  ·split at h1
   ·cases h1
   ·split at h2
    ·rename_i e1 e2 e3;exact absurd (hi.inj _ _ _ h2 h1) (λh=>e2 h.symm)
    ·split at h2
     ·cases h2
     ·exact hi.inj i j g h1 h2
theorem fx {id:Nat} {b:Blk}:∀{h:List (Nat×Blk)},dh id h->dh id (aB h id b)
 | [],_=>⟨λh=>absurd rfl h,trivial⟩
 | (i,c)::r,hf=>by
  simp only[aB];split
  ·exact ⟨λh=>absurd rfl h,hf.2⟩
  ·exact ⟨hf.1,fx hf.2⟩
theorem iB (id:Nat) (b:Blk):∀(h:List (Nat×Blk)),c_ (aB h id b) id=c_ h id
 | []=>by simp[aB,c_]
 | (i,c)::r=>by
  simp only[aB];split
  ·rename_i e;subst e;simp[c_]
  ·rename_i e;simp[c_,e,iB id b r]
theorem Inv.drew (hi:Inv C μ S σ a w):Inv C μ S σ a w.drew:=by
 have hz:∀(i g:Nat),μ i=some g->af w.drew g=af w g:=λ_ _ _=>rfl
 exact ⟨hi.size,hi.defers,λt x hx=>(hi.tm t x hx).mono (λ_ _=>rfl) (λ_ h=>h) (λ_ _ h=>h) hz,
  λi c h=>(hi.hp i c h).mono (λ_ _=>rfl) (λ_ h=>h) (λ_ _ h=>h) hz (λh=>h) (λ_ _=>rfl),hi.dom,hi.inj,
  ⟨hi.frm.os,hi.frm.tape,hi.frm.output,hi.frm.size,hi.frm.block⟩,hi.sb⟩
def cC (σ:St) (x:AV):Option (List (List AV)):=
 match x with
 | .sl rows=>some rows
 | .nils=>some []
 | .osl id s off len=>
  match aa σ.hp id with
  | some (.cells _ s' rows)=>if s=s' then some ((rows.drop off).take len) else none
  | _=>none
 | _=>none
structure Src (μ:Nat->Option Nat) (S:Nat->Prop) (w:World) (size:Nat) (v:Value) (rows:List (List AV)) (vs:List Value):Prop where
 form:∃A cap,v=.slice A rows.length cap/\(0<rows.length->∃g o,A=some ⟨g,o,none⟩/\∀(k:Nat) u,vs[k]? = some u->w.cell? ⟨g,o+k,none⟩=some u)
 len:vs.length=rows.length*size
 rlen:∀row,row∈rows->row.length=size
 rd:∀(i:Nat) row,rows[i]? = some row->∀(j:Nat) x,row[j]? = some x->Rd μ S w (vs.getD (i*size+j) undef) x
theorem fL {rows:List (List AV)} {i size:Nat} {row:List AV} (h:rows[i]? = some row):i*size+size≤rows.length*size:=by
 have hi:i<rows.length:=by
  by_cases h':i<rows.length
  ·exact h'
  ·rw[List.getElem?_eq_none z7] at h;cases h
 have:=Z2 size (Nat.succ_le_of_lt hi)
 rwa [Ws] at this
theorem lP (hi:Inv C μ S σ a w) {v:Value} {x:AV} {rows:List (List AV)} {size:Nat} (h:cC σ x=some rows) (hv:Rd μ S w v x) (hs:∀row,row∈rows->row.length=size)
  (hlen:∀id s off len,x=.osl id s off len->rows.length=len):∃vs,Src μ S w size v rows vs:=by
 unfold cC at h;split at h
 ·injection h with h;subst h
  rename_i rows;obtain ⟨A,cap,size',g,off,vals,rfl,hc,hs',hA,hcell,hr⟩:=hv.eZ.eZ
  by_cases h0:rows=[]
  ·subst h0;exact ⟨[],⟨A,cap,rfl,λh=>by simp at h⟩,by simp,by simp,λi row h=>by simp at h⟩
  ·obtain ⟨row0,hrow0⟩:=List.exists_mem_of_ne_nil rows h0;have he:size'=size:=by rw[←hs' row0 hrow0,hs row0 hrow0]
   subst he;refine ⟨(List.range (rows.length*size')).map λk=>vals (k / size') (k % size'),⟨A,cap,rfl,λhp=>?_⟩,by simp,hs,λi row hi' j x hx=>?_⟩
   ·obtain ⟨rfl,_⟩:=hA hp;refine ⟨g,off,rfl,λk u hu=>?_⟩;rw[Zr] at hu
    by_cases hk:k<rows.length*size'
    ·rw[Wf hk] at hu;simp only[Option.map_some,Option.some.injEq] at hu;subst hu;have hsz:0<size':=by
      rcases Nat.eq_zero_or_pos size' with h | h
      ·subst h;simp at hk
      ·exact h
     have:=hcell (k / size') (k % size') (by rw[Nat.div_lt_iff_lt_mul hsz];exact hk) (Nat.mod_lt _ hsz)
     rwa [Nat.div_add_mod'] at this
    ·rw[List.getElem?_eq_none (by simpa using Nat.le_of_not_lt hk)] at hu;cases hu
   ·have hj:j<size':=by
     by_cases h:j<size'
     ·exact h
     ·rw[List.getElem?_eq_none Q6] at hx;cases hx
    have hlt:=fL (size:=size') hi';have hsz:0<size':=by omega
    rw[Zo,Zr,Wf z7];have e1:(i*size'+j) / size'=i:=by rw[Nat.mul_comm,Nat.mul_add_div hsz,Nat.div_eq_of_lt hj];omega
    have e2:(i*size'+j) % size'=j:=by rw[Nat.mul_comm,Nat.mul_add_mod,Nat.mod_eq_of_lt hj]
    simp only[Option.map_some,Option.getD_some,e1,e2];exact .pure (hr i row hi' j x hx)
 ·injection h with h;subst h
  obtain rfl:=hv.eJ;exact ⟨[],⟨none,0,rfl,λh=>by simp at h⟩,by simp,by simp,λi row h=>by simp at h⟩
 ·rename_i id s off len;have hl:=hlen id s off len rfl;obtain ⟨A,cap,rfl,hc,hor⟩:=hv.bG;split at h
  ·rename_i e s' R hb;split at h
   ·rename_i hss;subst hss;injection h with h;subst h
    rcases hor with ⟨h1,h2⟩ | ⟨g,e',n,h1,rfl,h3,h4⟩
    ·subst h1;simp only[List.take_zero] at hs hl ⊢;exact ⟨[],⟨A,cap,rfl,λh=>by simp at h⟩,by simp,by simp,λi row h=>by simp at h⟩
    ·rcases hi.hp id _ hb with ⟨_,k2⟩ | ⟨g',c,k1,k2,k3,k4,k5⟩
     ·rw[k2] at h1;cases h1
     ·rw[k1] at h1;injection h1 with h1;subst h1
      rw[af,k2] at h3;simp only[Option.some.injEq,Prod.mk.injEq] at h3;obtain ⟨_,h3⟩:=h3
      by_cases h0:((R.drop off).take len)=[]
      ·rw[h0] at hl;refine ⟨[],⟨some ⟨g',off*s,none⟩,cap,by rw[h0,←hl],λh=>by rw[h0] at h;simp at h⟩,by rw[h0];simp,by rw[h0];simp,λi row h=>by rw[h0] at h;simp at h⟩
      ·obtain ⟨row0,hrow0⟩:=List.exists_mem_of_ne_nil _ h0;have he:s=size:=by rw[←hs row0 hrow0,k4 row0 (WS (Z3 hrow0))]
       subst he;have hle:(off+len)*s≤c.size:=by
        refine We (Z2 s (by omega:off+len≤off+cap)) z7
       rw[WW] at hle;refine ⟨(List.range (len*s)).map λk=>c.getD (off*s+k) undef,⟨_,cap,by rw[hl],λ_=>⟨g',off*s,rfl,λk u hu=>?_⟩⟩,by simp[hl],hs,λi row hi' j x hx=>?_⟩
       ·rw[Zr] at hu
        by_cases hk:k<len*s
        ·rw[Wf hk] at hu;simp only[Option.map_some,Option.some.injEq] at hu;subst hu;rw[cell_of k2,Zq,Zx z7];rfl
        ·rw[List.getElem?_eq_none (by simpa using Nat.le_of_not_lt hk)] at hu;cases hu
       ·have hj:j<s:=by
         by_cases h:j<s
         ·exact h
         ·rw[List.getElem?_eq_none Q6] at hx;cases hx
        have hlt:=fL (size:=s) hi';rw[hl] at hlt;rw[Zo,Zr,Wf z7];simp only[Option.map_some,Option.getD_some];rw[WE] at hi';split at hi'
        ·rw[WJ] at hi';have:=k5 (off+i) row hi' j x hx;rw[WW] at this
         rwa [←Nat.add_assoc]
        ·cases hi'
   ·cases h
  ·cases h
 ·cases h
theorem ss (n:Nat):∀(r c:Nat),Builtin.growBy n r c≤max c (n+(n+768) / 4)
 | 0,c=>by unfold Builtin.growBy;omega
 | r+1,c=>by
  unfold Builtin.growBy;split
  ·omega
  ·have:=ss n r (c+(c+768) / 4);omega
theorem lH (need cap:Nat) (h:cap<need):Builtin.nextslicecap need cap≤2*need+768:=by
 unfold Builtin.nextslicecap;have:=ss need 4 cap;split
 ·omega
 ·split<;>omega
end
end Go.Eng
namespace Go.Eng
section
variable {P:Program} {T:Tab} {C:Ctx} {μ:Nat->Option Nat} {S:Nat->Prop} {σ:St} {a:Act} {w:World}
theorem gh {size:Nat} {v:Value} {rows:List (List AV)} {vs:List Value} (h:Src μ S w size v rows vs):(Builtin.firstCells size rows.length v).run P w=.ok vs.toArray w:=by
 obtain ⟨A,cap,rfl,hf⟩:=h.form
 by_cases h0:0<rows.length
 ·obtain ⟨g,o,rfl,hc⟩:=hf h0;have:=run_loadCells_list (P:=P) (w:=w) ⟨g,o,none⟩ vs (λj u hu=>by rw[add_plain];exact hc j u hu);rw[h.len] at this;simpa[Builtin.firstCells] using this
 ·have e:rows.length=0:=by omega
  have hv:vs=[]:=List.eq_nil_of_length_eq_zero (by rw[h.len,e];simp);subst hv;cases A with
  | none=>simp[Builtin.firstCells]
  | some ad=>simp[Builtin.firstCells,e,Go.loadCells,Go.loadCellsFrom]
theorem bh (w:World) (o:Obj):(w.drew.alloc o).heap[w.heap.size]? = some o:=iw w.drew o
theorem iO (hT:TabOK P T) {t e ty:TypeId} (ht:P.underlying t=some (.slice e)) (hs:T.siz e≠0) (hb:T.byt e≠0) {A:Option Addr} {len cap:Nat} {v:Value} {R rows:List (List AV)} {olds vs:List Value}
  (ho:Src μ S w (T.siz e) (.slice A len cap) R olds) (hx:Src μ S w (T.siz e) v rows vs) (hlen:R.length=len) (hg:¬len+rows.length≤cap) (hsz:(2*(len+rows.length)+768)*T.byt e≤281474976710656) :
  ∃(nc:Nat) (z:Array Value),len+rows.length≤nc/\z.size=(nc-(len+rows.length))*T.siz e/\(Builtin.append_ #[t,t] ty #[.slice A len cap,v]).run P w =
   .ok (.slice (some ⟨w.heap.size,0,none⟩) (len+rows.length) nc) (w.drew.alloc (.cells (olds.toArray++vs.toArray++z) e)):=by
 obtain ⟨i,hi,hi1,hi2,z,hz,_,hzs,_⟩:=hT.siz e hs;obtain ⟨B,cap',rfl,_⟩:=hx.form;have hn:=lH (len+rows.length) cap z7;have hfit:Builtin.nextslicecap (len+rows.length) cap*i.bytes≤281474976710656:=by
  rw[hi2];exact We (Z2 _ hn) hsz
 have h1:=gh (P:=P) ho;rw[hlen] at h1;have hw1:Src μ S w.drew (T.siz e) (.slice A len cap) R olds:=⟨ho.form,ho.len,ho.rlen,λi row hi j x hx=>(ho.rd i row hi j x hx).mono (λ_ _=>rfl) (λ_ h=>h) (λ_ _ h=>h) (λ_ _ _=>rfl)⟩;have hw2:Src μ S w.drew (T.siz e) (.slice B rows.length cap') rows vs:=⟨hx.form,hx.len,hx.rlen,λi row hi j x h=>(hx.rd i row hi j x h).mono (λ_ _=>rfl) (λ_ h=>h) (λ_ _ h=>h) (λ_ _ _=>rfl)⟩;have g1:=gh (P:=P) hw1;have g2:=gh (P:=P) hw2;rw[hlen] at g1;refine ⟨grownCap w (len+rows.length) cap e,Builtin.zeroCells z.cells (grownCap w (len+rows.length) cap e-(len+rows.length)),grownCap_ge w _ _ _,by simp[Builtin.zeroCells,hzs],?_⟩;have hb':i.bytes≠0:=by rw[hi2];exact hb
 simp[Builtin.append_,run_underlying ht,sizeOf,typeInfo,hi,hi1,Builtin.lenOf,hg,hb',show ¬281474976710656<Builtin.nextslicecap (len+rows.length) cap*i.bytes by omega,g1,g2,Question.forced,zeroValue,hz,jx,grownCap];rw[←Array.append_assoc];simp
theorem ik (hT:TabOK P T) {t e ty:TypeId} (ht:P.underlying t=some (.slice e)) (hs:T.siz e≠0) {A:Option Addr} {len cap:Nat} {v:Value} {rows:List (List AV)} {vs:List Value}
  (hx:Src μ S w (T.siz e) v rows vs) (hg:len+rows.length≤cap) :
  (Builtin.append_ #[t,t] ty #[.slice A len cap,v]).run P w =
   (((match A with | some a=>storeCells (a.add (len*T.siz e)) vs | none=>pure ()):Sem Unit).run P w).andThen (λ_ w'=>.ok (.slice A (len+rows.length) cap) w'):=by
 obtain ⟨i,hi,hi1,hi2,z,hz,_,hzs,_⟩:=hT.siz e hs;have g2:=gh (P:=P) hx;obtain ⟨B,cap',rfl,_⟩:=hx.form;cases A<;>simp[Builtin.append_,run_underlying ht,sizeOf,typeInfo,hi,hi1,Builtin.lenOf,hg,g2]
def dT (rows:List (List AV)):Bool:=rows.all λrow=>row.all AV.leaf
def rowsOf (s:Nat) (rows:List (List AV)):Prop:=∀row,row∈rows->row.length=s
def lk:AV->Option Nat
 | .osl id _ _ _=>some id
 | _=>none
def dQ (T:Tab) (σ:St) (d:Nat) (t:TypeId) (x y:AV):Option (Prop×St×AV):=
 match T.und t,cC σ y with
 | .sl e,some rows=>
  match x with
  | .nils=>
   some (T.siz e≠0/\T.byt e≠0/\rowsOf (T.siz e) rows/\(∀id s off len,y=.osl id s off len->rows.length=len)/\dT rows=true/\(2*(0+rows.length)+768)*T.byt e≤281474976710656 /\
     aa σ.hp d=none,
    ⟨σ.tm,(d,.cells e (T.siz e) rows)::σ.hp⟩,.osl d (T.siz e) 0 (0+rows.length))
  | .osl id s 0 len=>
   match aa σ.hp id with
   | some (.cells e' s' R)=>
    if s=T.siz e/\s'=s/\e'=e then
     some (T.siz e≠0/\T.byt e≠0/\rowsOf (T.siz e) rows/\(∀id s off len,y=.osl id s off len->rows.length=len)/\dT rows=true/\(2*(len+rows.length)+768)*T.byt e≤281474976710656 /\
       (d=id\/aa σ.hp d=none)/\lk y≠some id/\len≤R.length/\dh id σ.hp/\bP id (.cells e (T.siz e) (R.take len++rows)),
      ⟨σ.tm.map (kill id),(d,.cells e (T.siz e) (R.take len++rows))::c_ σ.hp id⟩,.osl d (T.siz e) 0 (len+rows.length))
    else none
   | _=>none
  | _=>none
 | _,_=>none
theorem tk {size:Nat} {v:Value} {rows:List (List AV)} {vs:List Value} (h:Src μ S w size v rows vs) (hl:dT rows=true):∀u,u∈vs->u.oneCell'=true:=by
 intro u hu;obtain ⟨k,hk,rfl⟩:=List.mem_iff_getElem.1 hu;have hlen:=h.len;have hsz:0<size:=by
  rcases Nat.eq_zero_or_pos size with h' | h'
  ·subst h';omega
  ·exact h'
 have hi:k / size<rows.length:=by rw[Nat.div_lt_iff_lt_mul hsz];omega
 have hrow:rows[k / size]? = some rows[k / size]:=Zp hi;have hm:=Nat.mod_lt k hsz;have hrl:rows[k / size].length=size:=h.rlen _ (Zs hrow);have hx:rows[k / size][k % size]? = some (rows[k / size][k % size]'z7):=Zp z7;have:=h.rd _ _ hrow _ _ hx;rw[Nat.div_add_mod',Zo,Zp hk] at this;exact this.leaf (List.all_eq_true.1 (List.all_eq_true.1 hl _ (Zs hrow)) _ (Zs hx))
theorem iE {s:Nat} {R rows:List (List AV)} {olds vs:List Value} {cs:Array Value} (hR:olds.length=R.length*s) (hRl:rowsOf s R) (hrl:rowsOf s rows)
  (h1:∀(i:Nat) row,R[i]? = some row->∀(j:Nat) x,row[j]? = some x->Rd μ S w (olds.getD (i*s+j) undef) x)
  (h2:∀(i:Nat) row,rows[i]? = some row->∀(j:Nat) x,row[j]? = some x->Rd μ S w (vs.getD (i*s+j) undef) x) (hvs:vs.length=rows.length*s)
  (hc:∀k,k<olds.length+vs.length->cs.getD k undef=(olds++vs).getD k undef) :
  ∀(i:Nat) row,(R++rows)[i]? = some row->∀(j:Nat) x,row[j]? = some x->Rd μ S w (cs.getD (i*s+j) undef) x:=by
 intro i row hi j x hx
 by_cases h:i<R.length
 ·rw[WC h] at hi;have hj:j<s:=by
   by_cases h':j<s
   ·exact h'
   ·rw[List.getElem?_eq_none (by rw[hRl row (Zs hi)];omega)] at hx;cases hx
  have hlt:=fL (size:=s) hi;rw[hc _ z7,Zo,WC z7,←Zo];exact h1 i row hi j x hx
 ·rw[Z8 z7] at hi;have hj:j<s:=by
   by_cases h':j<s
   ·exact h'
   ·rw[List.getElem?_eq_none (by rw[hrl row (Zs hi)];omega)] at hx;cases hx
  have hlt:=fL (size:=s) hi;have e:i*s+j=R.length*s+((i-R.length)*s+j):=by
   have:i*s=R.length*s+(i-R.length)*s:=by rw[←WW];congr 1;omega
   omega
  rw[hc _ z7,Zo,Z8 z7,show i*s+j-olds.length=(i-R.length)*s+j from by omega,←Zo];exact h2 _ row hi j x hx
theorem uo (hT:TabOK P T) (hi:Inv C μ S σ a w) {d:Nat} {t ty:TypeId} {x y r:AV} {vx vy:Value} {p:Prop} {σ':St} (h:dQ T σ d t x y=some (p,σ',r)) (hp:p)
  (hvx:Rd μ S w vx x) (hvy:Rd μ S w vy y) :
  ∃u w' μ',(Builtin.append_ #[t,t] ty #[vx,vy]).run P w=.ok u w'/\Inv C μ' S σ' a w'/\Rd μ' S w' u r:=by
 unfold dQ at h;split at h
 ·rename_i e rows hu hsrc;have ht:=hT.und t;rw[hu] at ht;simp only[h_] at ht;split at h
  ·-- onto nil
   simp only[Option.some.injEq,Prod.mk.injEq] at h;obtain ⟨rfl,rfl,rfl⟩:=h;obtain ⟨hs,hb,hrl,hlen,hleaf,hsz,hfree⟩:=hp;obtain rfl:=hvx.eJ;obtain ⟨vs,hvs⟩:=lP hi hsrc hvy hrl hlen
   by_cases h0:rows.length=0
   ·have hr:=ik (ty:=ty) (A:=none) (len:=0) (cap:=0) hT ht hs hvs z7;simp only[Sem.run_pure,Result.andThen_ok] at hr;have hrows:rows=[]:=List.eq_nil_of_length_eq_zero h0;subst hrows;have hn:=hi.fresh hfree;refine ⟨_,w,μ,hr,⟨hi.size,hi.defers,hi.tm,λi b hb=>?_,λi g hg=>?_,hi.inj,hi.frm,hi.sb⟩,.osl d _ 0 _ 0 none w7 (.inl ⟨by simp,rfl⟩)⟩
    ·simp only[aa] at hb;split at hb
     ·rename_i e';injection hb with hb;subst hb e';exact .inl ⟨rfl,hn⟩
     ·exact hi.hp i b hb
    ·obtain ⟨⟨c,h1⟩,h2⟩:=hi.dom i g hg;refine ⟨⟨c,?_⟩,h2⟩;simp only[aa];rw[if_neg Qp];exact h1
   ·have ho:Src μ S w (T.siz e) (.slice none 0 0) [] []:=⟨⟨none,0,rfl,λh=>by simp at h⟩,by simp,by simp,λi row h=>by simp at h⟩;obtain ⟨nc,z,h1,h2,h3⟩:=iO (ty:=ty) hT ht hs hb ho hvs rfl z7 hsz;have hi1:=hi.drew;have hm:∀{v x},Rd μ S w v x->Rd μ S w.drew v x:=λh=>h.mono (λ_ _=>rfl) (λ_ h=>h) (λ_ _ h=>h) (λ_ _ _=>rfl)
    have hcs:(#[]++vs.toArray++z).size=rows.length*T.siz e+z.size:=by simp[hvs.len]
    refine ⟨_,_,_,h3,hi1.new d hfree _ (.cells e (T.siz e) rows) (.inr ⟨w.heap.size,_,by simp[upd],bh w _,by simp[hvs.len],hrl,λi row hi' j x hx=>?_⟩),?_⟩
    ·have hlt:=fL (size:=T.siz e) hi';have hj:j<T.siz e:=by
      by_cases h:j<T.siz e
      ·exact h
      ·rw[List.getElem?_eq_none Q3] at hx;cases hx
     have:=hvs.rd i row hi' j x hx;have e2:(#[]++vs.toArray++z).getD (i*T.siz e+j) undef=vs.getD (i*T.siz e+j) undef:=by
      rw[Zq,Zo];simp only[Array.empty_append];rw[WZ (by simp[hvs.len];omega)];simp
     rw[show (List.toArray []++vs.toArray++z)=(#[]++vs.toArray++z) from rfl,e2];exact (hm this).mono (λb hb=>bt _ _ b (hi1.sb b hb).1) (λ_ h=>h) (λi' g hg=>by
      unfold upd;rw[if_neg Q4];exact hg) (λi' g hg=>aG (bt _ _ g (hi1.dom i' g hg).2.2.2))
    ·refine .osl d _ 0 _ nc _ h1 (.inr ⟨w.heap.size,e,_,by simp[upd],by simp,?_,rfl⟩);unfold af;rw[bh];simp only[Option.some.injEq,Prod.mk.injEq,true_and];simp only[Array.size_append,List.size_toArray,List.length_nil,hvs.len,h2,WK,←WW]
     congr 1
     omega
  ·-- onto what is held
   rename_i id s len;split at h
   ·rename_i e' s' R hb0;split at h
    ·rename_i hcond;obtain ⟨rfl,rfl,rfl⟩:=hcond;simp only[Option.some.injEq,Prod.mk.injEq] at h;obtain ⟨rfl,rfl,rfl⟩:=h;obtain ⟨hs,hb,hrl,hlen,hleaf,hsz,hd,hid,hR,hfree,hbf⟩:=hp;obtain ⟨vs,hvs⟩:=lP hi hsrc hvy hrl hlen;have hRl:rowsOf (T.siz e') (R.take len):=by
      rcases hi.hp id _ hb0 with ⟨rfl,_⟩ | ⟨g,c,_,_,_,k4,_⟩
      ·intro row hrow;simp at hrow
      ·exact λrow hrow=>k4 row (Z3 hrow)
     have hRt:(R.take len).length=len:=by simp;omega
     obtain ⟨olds,ho⟩:=lP hi (x:=.osl id (T.siz e') 0 len) (rows:=R.take len) (size:=T.siz e') (by simp[cC,hb0]) hvx hRl (λ_ _ _ _ h=>by injection h with _ _ _ h;rw[hRt,h]);have hdd:d=id\/μ d=none:=hd.imp (λh=>h) (λh=>hi.fresh h);obtain ⟨A,cap,rfl,hc,hor⟩:=hvx.bG
     by_cases hroom:len+rows.length≤cap
     ·have hr:=ik (ty:=ty) (A:=A) (len:=len) (cap:=cap) hT ht hs hvs hroom
      rcases hor with ⟨h1,h2⟩ | ⟨g,e2,n,h1,rfl,h3,h4⟩
      ·-- nothing comes onto nothing
       have h0:rows=[]:=List.eq_nil_of_length_eq_zero z7;subst h0 h1 h2;have hv0:vs=[]:=List.eq_nil_of_length_eq_zero (by rw[hvs.len];simp);subst hv0;have hr':(Builtin.append_ #[t,t] ty #[.slice A 0 0,vy]).run P w=.ok (.slice A 0 0) w:=by
        rw[hr];cases A<;>simp[storeCells]
       have hi0:Inv C μ S ⟨σ.tm,aB σ.hp id (.cells e' (T.siz e') (R.take 0++[]))⟩ a w:=by
        refine ⟨hi.size,hi.defers,hi.tm,λi b hb=>?_,λi q hq=>?_,hi.inj,hi.frm,hi.sb⟩
        ·rw[ai] at hb;split at hb
         ·rename_i e3;injection hb with hb;subst hb e3
          rcases hi.hp id _ hb0 with ⟨_,k⟩ | ⟨g,c,k1,k2,_⟩
          ·exact .inl ⟨by simp,k⟩
          ·exact .inr ⟨g,c,k1,k2,by simp,by simp,λi row h=>by simp at h⟩
         ·exact hi.hp i b hb
        ·obtain ⟨⟨c,k1⟩,k2⟩:=hi.dom i q hq;refine ⟨?_,k2⟩;rw[ai];split
         ·exact ⟨_,rfl⟩
         ·exact ⟨c,k1⟩
       have hfree':dh id (aB σ.hp id (.cells e' (T.siz e') (R.take 0++[]))):=fx hfree;have:=hi0.move (id:=id) (d:=d) (b:=.cells e' (T.siz e') (R.take 0++[])) (by rw[ai];simp) (hd.imp (λh=>h) (λh=>by
        rw[ai];split
        ·rename_i e4;subst e4;rw[hb0] at h;cases h
        ·exact h)) hfree' hbf
       refine ⟨_,w,mv μ id d,hr',?_,.osl d _ 0 _ 0 A w7 (.inl ⟨by simp,rfl⟩)⟩;simp only[iB] at this;exact this
      ·-- in place
       rcases hi.hp id _ hb0 with ⟨_,k⟩ | ⟨g',c,k1,k2,k3,k4,k5⟩
       ·rw[k] at h1;cases h1
       ·rw[k1] at h1;injection h1 with h1;subst h1
        rw[af,k2] at h3;simp only[Option.some.injEq,Prod.mk.injEq] at h3;obtain ⟨rfl,rfl⟩:=h3;have hcs:(len+rows.length)*T.siz e'≤c.size:=We (Z2 _ z7) (Nat.le_of_eq h4);rw[WW] at hcs;obtain ⟨w',r1,r2,r3,r4,r5,r6,c',r7,r8,r9⟩:=dt (P:=P) g' (len*T.siz e') e' vs 0 w c k2 (tk hvs hleaf) (by rw[hvs.len];omega);have hr':(Builtin.append_ #[t,t] ty #[.slice (some ⟨g',0*T.siz e',none⟩) len cap,vy]).run P w=.ok (.slice (some ⟨g',0*T.siz e',none⟩) (len+rows.length) cap) w':=by
         rw[hr];simp only[Nat.zero_mul,add_plain,WK,r1,Result.andThen_ok]
        have hrs:af w' g'=af w g':=by simp[af,r7,k2,r8]
        have hS:¬S g':=(hi.dom id g' k1).2.2.1;have hw:aE S w w':=λb hb=>r6 b QL
        have hz':∀i q,μ i=some q->af w' q=af w q:=λi q _=>by
         by_cases e:q=g'
         ·subst e;exact hrs
         ·exact aG (r6 q e)
        have hmono:∀{v x},Rd μ S w v x->Rd μ S w' v x:=λh=>h.mono hw (λ_ h=>h) (λ_ _ h=>h) hz'
        have hRlen:len*T.siz e'≤R.length*T.siz e':=Z2 _ hR;have hi0:Inv C μ S ⟨σ.tm,aB σ.hp id (.cells e' (T.siz e') (R.take len++rows))⟩ a w':=
         hi.write id g' k1 r2 r3 r4 r5 r6 hrs _ (.inr ⟨g',c',k1,r7,by rw[List.length_append,hRt,WW,r8];omega,λrow hrow=>by
           rcases List.mem_append.1 hrow with h | h
           ·exact hRl row h
           ·exact hrl row h,
          iE (olds:=(List.range (len*T.siz e')).map λk=>c.getD k undef) (vs:=vs) (by simp[hRt]) hRl hrl (λi row hi' j x hx=>by
            have hlt:=fL (size:=T.siz e') hi';rw[hRt] at hlt;have hj:j<T.siz e':=by
             by_cases h:j<T.siz e'
             ·exact h
             ·rw[List.getElem?_eq_none Q5] at hx;cases hx
            rw[Zo,Zr,Wf z7];rw[WE] at hi';split at hi'
            ·exact hmono (k5 i row hi' j x hx)
            ·cases hi') (λi row hi' j x hx=>hmono (hvs.rd i row hi' j x hx)) hvs.len (λk hk=>by
           simp only[List.length_map,List.length_range] at hk;rw[r9]
           by_cases hkl:k<len*T.siz e'
           ·rw[if_neg z7,Zo,WC Zi,Zr,Wf hkl];rfl
           ·rw[if_pos z7,Zo,Zo,Z8 Zi];simp)⟩)
        have hfree':dh id (aB σ.hp id (.cells e' (T.siz e') (R.take len++rows))):=fx hfree;have:=hi0.move (id:=id) (d:=d) (b:=.cells e' (T.siz e') (R.take len++rows)) (by rw[ai];simp) (hd.imp (λh=>h) (λh=>by
         rw[ai];split
         ·rename_i e4;subst e4;rw[hb0] at h;cases h
         ·exact h)) hfree' hbf
        rw[iB] at this;refine ⟨_,w',_,hr',this,.osl d _ 0 _ cap _ hroom (.inr ⟨g',e',c.size,?_,rfl,by simp[af,r7,r8],h4⟩)⟩;simp[mv,k1]
     ·-- a new block
      obtain ⟨nc,z,h1,h2,h3⟩:=iO (ty:=ty) hT ht hs hb ho hvs hRt hroom hsz;have hi1:=(hi.drop id hfree).drew;have hfr:aa (σ.drop id).hp d=none:=by
       simp only[St.drop,bg];split
       ·rfl
       ·rename_i e4
        rcases hd with rfl | hd
        ·exact absurd rfl e4
        ·exact hd
      have hnod:upd μ id none d=none:=hi1.fresh hfr;have hm:∀{v x},Rd μ S w v x->id∉refs x->Rd (upd μ id none) S w.drew v x:=λh hn=>
       (h.other hn none).mono (λ_ _=>rfl) (λ_ h=>h) (λ_ _ h=>h) (λ_ _ _=>rfl)
      have hno:=mY hbf;refine ⟨_,_,_,h3,hi1.new d hfr _ (.cells e' (T.siz e') (R.take len++rows)) (.inr ⟨w.heap.size,_,by simp[upd],bh w _,by simp[ho.len,hvs.len,hRt,WW],λrow hrow=>by
           rcases List.mem_append.1 hrow with h | h
           ·exact hRl row h
           ·exact hrl row h,?_⟩),?_⟩
      ·have hup:∀{v x},Rd (upd μ id none) S w.drew v x ->
         Rd (upd (upd μ id none) d (some w.heap.size)) S (World.alloc w.drew (.cells (olds.toArray++vs.toArray++z) e')) v x:=λh=>
        h.mono (λb hb=>bt _ _ b (hi1.sb b hb).1) (λ_ h=>h) (λi' g hg=>by
         show (if i'=d then some w.heap.size else upd μ id none i')=some g
         rw[if_neg Qh];exact hg) (λi' g hg=>aG (bt _ _ g (hi1.dom i' g hg).2.2.2))
       have key:=iE (μ:=upd μ id none) (S:=S) (w:=w.drew) (R:=R.take len) (rows:=rows) (cs:=olds.toArray++vs.toArray++z) (s:=T.siz e') ho.len hRl hrl
        (λi row hi' j x hx=>hm (ho.rd i row hi' j x hx) (hno row (WH _ (Zs hi')) x (Zs hx)))
        (λi row hi' j x hx=>hm (hvs.rd i row hi' j x hx) (hno row (Zz _ (Zs hi')) x (Zs hx))) hvs.len (λk hk=>by
         rw[Zq,Zo,WZ Zl];simp[List.append_toArray])
       exact λi row hi' j x hx=>hup (key i row hi' j x hx)
      ·refine .osl d _ 0 _ nc _ h1 (.inr ⟨w.heap.size,e',_,by simp[upd],by simp,?_,rfl⟩);unfold af;rw[bh];simp only[Option.some.injEq,Prod.mk.injEq,true_and];simp only[Array.size_append,List.size_toArray,ho.len,hvs.len,hRt,h2,WK,←WW]
       congr 1
       omega
    ·cases h
   ·cases h
  ·cases h
 ·cases h
end
end Go.Eng
