/- Texts of this claim, part 7: EngR, EngT, EngU, EngV. No condition. -/
import Derived.Test.YtmcfbfdonjllaaaGreatDoorZP6
import Derived.WalkSpells
set_option maxRecDepth 10000
set_option maxHeartbeats 4000000
set_option linter.unusedSimpArgs false
set_option linter.unusedVariables false
namespace Go.Eng
section
variable {P:Program} {T:Tab} {C:Ctx} {σ σ':St}
mutual
def ren (off:Nat):AV->AV
 | .ptr id s r o=>.ptr (id+off) s r o
 | .osl id s o n=>.osl (id+off) s o n
 | .mp id=>.mp (id+off)
 | .exs id s o n c=>.exs (id+off) s o n c
 | .agg cells=>.agg (gu off cells)
 | .tup vs=>.tup (gu off vs)
 | .fn f caps=>.fn f (gu off caps)
 | .cnd c v=>.cnd c (ren off v)
 | x=>x
def gu (off:Nat):List AV->List AV
 | []=>[]
 | x::r=>ren off x::gu off r
end
theorem kU (off:Nat):∀l,gu off l=l.map (ren off)
 | []=>rfl
 | x::r=>by simp[gu,kU off r]
theorem RdP.LD {S:Nat->Prop} {w:World} {v:Value} {x:AV} (h:RdP S w v x) (off:Nat):ren off x=x:=by
 have key:∀(l:List AV),(∀(j:Nat) x,l[j]? = some x->ren off x=x)->gu off l=l:=by
  intro l
  induction l with
  | nil=>intro _;rfl
  | cons y r ih=>
   intro h;simp only[gu];rw[h 0 y rfl,ih (λj x hj=>h (j+1) x QQ)]
 induction h with
 | fn f vals caps hl hr ih=>simp only[ren];rw[key caps ih]
 | agg cs cells hl hr ih=>simp only[ren];rw[key cells ih]
 | _=>rfl
theorem Rd.ren {μ μ':Nat->Option Nat} {S:Nat->Prop} {w:World} {v:Value} {x:AV} (off:Nat) (h:Rd μ S w v x) (hm:∀id,id∈refs x->∀g,μ id=some g->μ' (id+off)=some g):Rd μ' S w v (ren off x):=by
 induction h with
 | any v=>exact .any v
 | pure h=>rw[h.LD];exact .pure h
 | agg cs cells hl hr ih=>
  simp only[Eng.ren,kU];refine .agg cs _ Qj (λj x hx=>?_);rw[W5] at hx;cases e:cells[j]? with
  | none=>rw[e] at hx;cases hx
  | some y=>
   rw[e] at hx;simp only[Option.map_some,gL] at hx;subst hx;exact ih j y e (λid hid=>hm id WI)
 | tup cs cells hl hr ih=>
  simp only[Eng.ren,kU];refine .tup cs _ Qj (λj x hx=>?_);rw[W5] at hx;cases e:cells[j]? with
  | none=>rw[e] at hx;cases hx
  | some y=>
   rw[e] at hx;simp only[Option.map_some,gL] at hx;subst hx;exact ih j y e (λid hid=>hm id WI)
 | fn f vals cells hl hr ih=>
  simp only[Eng.ren,kU];refine .fn f vals _ Qj (λj x hx=>?_);rw[W5] at hx;cases e:cells[j]? with
  | none=>rw[e] at hx;cases hx
  | some y=>
   rw[e] at hx;simp only[Option.map_some,gL] at hx;subst hx;exact ih j y e (λid hid=>hm id WI)
 | ptr i size row o g hg=>exact .ptr _ size row o g (hm i s8 g hg)
 | osl i size o len cap A hc h=>
  refine .osl _ size o len cap A hc ?_
  rcases h with h | ⟨g,e,n,h1,h2,h3,h4⟩
  ·exact .inl h
  ·exact .inr ⟨g,e,n,hm i s8 g h1,h2,h3,h4⟩
 | mp i g hg=>exact .mp _ g (hm i s8 g hg)
 | exs i size o len cap g e n hc hg hr hn=>exact .exs _ size o len cap g e n hc (hm i s8 g hg) hr hn
 | cndT v x h ih=>exact .cndT v _ (ih (λid hid=>hm id WK))
 | cndF x=>exact .cndF _
theorem Rd.less {μ μ':Nat->Option Nat} {S:Nat->Prop} {w:World} {v:Value} {x:AV} (h:Rd μ S w v x) (hm:∀id,id∈refs x->∀g,μ id=some g->μ' id=some g):Rd μ' S w v x:=by
 induction h with
 | any v=>exact .any v
 | pure h=>exact .pure h
 | agg cs cells hl hr ih=>exact .agg cs cells hl (λj x hx=>ih j x hx (λid hid=>hm id WD))
 | tup cs cells hl hr ih=>exact .tup cs cells hl (λj x hx=>ih j x hx (λid hid=>hm id WD))
 | fn f vals cells hl hr ih=>exact .fn f vals cells hl (λj x hx=>ih j x hx (λid hid=>hm id WD))
 | ptr i size row o g hg=>exact .ptr _ size row o g (hm i s8 g hg)
 | osl i size o len cap A hc h=>
  refine .osl _ size o len cap A hc ?_
  rcases h with h | ⟨g,e,n,h1,h2,h3,h4⟩
  ·exact .inl h
  ·exact .inr ⟨g,e,n,hm i s8 g h1,h2,h3,h4⟩
 | mp i g hg=>exact .mp _ g (hm i s8 g hg)
 | exs i size o len cap g e n hc hg hr hn=>exact .exs _ size o len cap g e n hc (hm i s8 g hg) hr hn
 | cndT v x h ih=>exact .cndT v _ (ih (λid hid=>hm id WK))
 | cndF x=>exact .cndF _
def av:Blk->List Nat
 | .cells _ _ rows=>rows.flatMap aA
 | .map _=>[]
 | .iter ..=>[]
 | .cap id _ _=>[id]
 | .pin id _ _ _=>[id]
@[go_sem,simp] theorem L8 (e s:Nat):av (.cells e s [])=[]:=rfl
@[go_sem,simp] theorem LB (e s:Nat) (r:List AV) (l:List (List AV)):av (.cells e s (r::l))=aA r++av (.cells e s l):=rfl
@[go_sem,simp] theorem L7 (kvs:List (Int×AV)):av (.map kvs)=[]:=rfl
@[go_sem,simp] theorem L6 (id s N:Nat):av (.cap id s N)=[id]:=rfl
@[go_sem,simp] theorem L9 (id g t n:Nat):av (.pin id g t n)=[id]:=rfl
@[go_sem,simp] theorem LC (kvs:List (Int×AV)) (seen:List Int):av (.iter kvs seen)=[]:=rfl
def BW (off:Nat):Blk->Blk
 | .cells e s rows=>.cells e s (rows.map (gu off))
 | .map kvs=>.map kvs
 | .iter kvs seen=>.iter kvs seen
 | .cap id s N=>.cap (id+off) s N
 | .pin id g t n=>.pin (id+off) g t n
def sh (off:Nat) (H:List (Nat×Blk)):List (Nat×Blk):=H.map λp=>(p.1+off,BW off p.2)
theorem cJ.ren {μ μ':Nat->Option Nat} {S:Nat->Prop} {w:World} {id:Nat} {b:Blk} (off:Nat) (h:cJ μ S w id b) (hn:μ id=none->μ' (id+off)=none) (hs:∀g,μ id=some g->μ' (id+off)=some g)
  (hm:∀i,i∈av b->∀g,μ i=some g->μ' (i+off)=some g):cJ μ' S w (id+off) (BW off b):=by
 cases b with
 | cells e s rows=>
  rcases h with ⟨rfl,h2⟩ | ⟨g,c,h1,h2,h3,h4,h5⟩
  ·exact .inl ⟨rfl,hn h2⟩
  ·refine .inr ⟨g,c,hs g h1,h2,by simpa using h3,λrow hrow=>?_,λi row hi j x hx=>?_⟩
   ·obtain ⟨r,hr,rfl⟩:=W8.1 hrow;rw[kU,List.length_map];exact h4 r hr
   ·rw[W5] at hi;cases e1:rows[i]? with
    | none=>rw[e1] at hi;cases hi
    | some r=>
     rw[e1] at hi;simp only[Option.map_some,gL] at hi;subst hi;rw[kU,W5] at hx;cases e2:r[j]? with
     | none=>rw[e2] at hx;cases hx
     | some y=>
      rw[e2] at hx;simp only[Option.map_some,gL] at hx;subst hx;exact (h5 i r e1 j y e2).ren off (λi hi=>hm i (List.mem_flatMap.2 ⟨r,W6 e1,aW e2 hi⟩))
 | map kvs=>
  obtain ⟨g,es,clk,vals,h1,h2,h3,h4⟩:=h;exact ⟨g,es,clk,vals,hs g h1,h2,h3,h4⟩
 | iter kvs seen=>
  obtain ⟨g,es,clk,vals,had,h1,h2,h4⟩:=h;exact ⟨g,es,clk,vals,had,hs g h1,h2,h4⟩
 | cap id' s N=>
  obtain ⟨h1,g,e,h2,h3⟩:=h;exact ⟨hn h1,g,e,hm id' w8 g h2,h3⟩
 | pin id' g t n=>
  obtain ⟨h1,h2,h3⟩:=h;exact ⟨hn h1,hm id' w8 g h2,h3⟩
theorem cJ.less {μ μ':Nat->Option Nat} {S:Nat->Prop} {w:World} {id:Nat} {b:Blk} (h:cJ μ S w id b) (he:μ' id=μ id) (hm:∀i,i∈av b->∀g,μ i=some g->μ' i=some g):cJ μ' S w id b:=by
 cases b with
 | cells e s rows=>
  rcases h with ⟨rfl,h2⟩ | ⟨g,c,h1,h2,h3,h4,h5⟩
  ·exact .inl ⟨rfl,he.trans h2⟩
  ·exact .inr ⟨g,c,he.trans h1,h2,h3,h4,λi row hi j x hx=>(h5 i row hi j x hx).less (λk hk=>hm k (List.mem_flatMap.2 ⟨row,W6 hi,aW hx hk⟩))⟩
 | map kvs=>
  obtain ⟨g,es,clk,vals,h1,h2,h3,h4⟩:=h;exact ⟨g,es,clk,vals,he.trans h1,h2,h3,h4⟩
 | iter kvs seen=>
  obtain ⟨g,es,clk,vals,had,h1,h2,h4⟩:=h;exact ⟨g,es,clk,vals,had,he.trans h1,h2,h4⟩
 | cap id' s N=>
  obtain ⟨h1,g,e,h2,h3⟩:=h;exact ⟨he.trans h1,g,e,hm id' w8 g h2,h3⟩
 | pin id' g t n=>
  obtain ⟨h1,h2,h3⟩:=h;exact ⟨he.trans h1,hm id' w8 g h2,h3⟩
def sub (ids:List Nat):List (Nat×Blk)->List (Nat×Blk)
 | []=>[]
 | p::r=>if ids.contains p.1 then p::sub ids r else sub ids r
def del (ids:List Nat):List (Nat×Blk)->List (Nat×Blk)
 | []=>[]
 | p::r=>if ids.contains p.1 then del ids r else p::del ids r
theorem cx (ids:List Nat) (id:Nat):∀H,aa (sub ids H) id=if ids.contains id=true then aa H id else none
 | []=>by simp[sub,aa]
 | (i,b)::r=>by
  have ih:=cx ids id r;unfold sub
  by_cases e:i=id
  ·subst e
   by_cases h:ids.contains i=true
   ·rw[if_pos h,if_pos h];simp only[aa,if_true]
   ·rw[if_neg h,if_neg h,ih,if_neg h]
  ·by_cases h:ids.contains i=true
   ·rw[if_pos h];simp only[aa,if_neg e];exact ih
   ·rw[if_neg h];simp only[aa,if_neg e];exact ih
theorem dN (ids:List Nat) (id:Nat):∀H,aa (del ids H) id=if ids.contains id=true then none else aa H id
 | []=>by simp[del,aa]
 | (i,b)::r=>by
  have ih:=dN ids id r;unfold del
  by_cases e:i=id
  ·subst e
   by_cases h:ids.contains i=true
   ·rw[if_pos h,ih,if_pos h,if_pos h]
   ·rw[if_neg h,if_neg h];simp only[aa,if_true]
  ·by_cases h:ids.contains i=true
   ·rw[if_pos h];simp only[aa,if_neg e];exact ih
   ·rw[if_neg h];simp only[aa,if_neg e];exact ih
theorem qB (off id:Nat):∀H,aa (sh off H) id=if off<=id then (aa H (id-off)).map (BW off) else none
 | []=>by simp[sh,aa]
 | (i,b)::r=>by
  have ih:=qB off id r;simp only[sh,List.map_cons,aa] at ih ⊢
  by_cases h:i+off=id
  ·subst h;simp
  ·rw[if_neg h,ih]
   by_cases h2:off<=id
   ·rw[if_pos h2,if_pos h2,if_neg z8]
   ·rw[if_neg h2,if_neg h2]
def iP (ids:List Nat) (x:AV):AV:=if (refs x).any ids.contains then .any else x
def closed (K:List (Nat×Blk)) (xs:List Nat):Bool:=xs.all (λi=>(aa K i).isSome)&&K.all λp=>(av p.2).all λi=>(aa K i).isSome
theorem aP:∀{H:List (Nat×Blk)} {id:Nat} {b:Blk},aa H id=some b->(id,b)∈H
 | (i,c)::r,id,b,h=>by
  simp only[aa] at h;split at h
  ·rename_i e;subst e;injection h with h;subst h;simp
  ·exact List.mem_cons_of_mem _ (aP h)
theorem uM {o:Oper} {c:Operand} {args:Array Operand} {ats:Array TypeId} (ho:o.op=.call { callee:=.value c,args,argTypes:=ats }) {p:Prop} {f:FuncId} {xs:List AV}
  (h:ax σ c args.toList=some (p,f,xs)) (hp:p) (hc:aH P f) (ids:List Nat) (off:Nat) {H K:List (Nat×Blk)} {r:AV} (hH:sub ids σ.hp=H)
  (hck:(aA xs).all ids.contains=true) (hc1:(H.all λp=>(av p.2).all ids.contains)=true) (hc2:((del ids σ.hp).all λp=>(av p.2).all λi=>!ids.contains i)=true)
  (hc3:closed K (refs r)=true) (hc4:(K.all λp=>(aa σ.hp (p.1+off)).isNone)=true)
  (hf:ai P f xs H λr' H'=>r'=r/\∀id b,aa K id=some b->aa H' id=some b) {τ:St} (hτ:(⟨σ.tm.map (iP ids),sh off K++del ids σ.hp⟩:St).put o.dst (ren off r)=τ):eK P C o σ τ:=by
 subst hH hτ;intro a w Kp Q ⟨μ,S,hi⟩ hKp;obtain ⟨vs,h1,h2,h3⟩:=jg hi ho h hp hc;unfold Oper.wp;rw[h3]
 let μc:Nat->Option Nat:=λi=>if ids.contains i then μ i else none
 have mc:∀{i g},μc i=some g->ids.contains i=true/\μ i=some g:=fun {i g} h=>by
  simp only[μc] at h;split at h
  ·exact ⟨by assumption,h⟩
  ·cases h
 have mc':∀{i},ids.contains i=true->μc i=μ i:=fun {i} h=>by simp only[μc,h,if_true]
 rw[Yv] at hck;have hck:=λi hi=>List.all_eq_true.1 (hck.2 rfl) i hi
 refine (hf S μc w vs h1 (λj x hj=>(h2 j x hj).less λid hid g hg=>by rw[mc' (hck id (aW hj hid))];exact hg) ⟨λid b hb=>?_,λid g hg=>?_,λid id' g hg hg'=>hi.inj id id' g (mc hg).2 (mc hg').2,hi.gok.sub λi g h=>⟨i,(mc h).2⟩⟩ (λb hb=>(hi.sb b hb).1)).mono ?_
 ·have hb':=hb;rw[cx] at hb;split at hb
  ·rename_i hid;have hall:=List.all_eq_true.1 hc1 _ (aP hb');exact (hi.hp id b hb).less (mc' hid) (λi hi' g hg=>by rw[mc' (List.all_eq_true.1 hall i hi')];exact hg)
  ·cases hb
 ·obtain ⟨k1,k2⟩:=mc hg;obtain ⟨⟨b,j1⟩,_,j3⟩:=hi.dom id g k2;exact ⟨⟨b,by rw[cx,if_pos k1];exact j1⟩,j3⟩
 rintro e w' ⟨v,r',H',μ',S',rfl,⟨rfl,hKH⟩,k1,k2,k3,k4,k5⟩;simp only[closed,Bool.and_eq_true] at hc3;obtain ⟨hr,hcl⟩:=hc3;have hr:∀i,i∈refs r'->∃b,aa K i=some b:=λi hi=>Yf.1 (List.all_eq_true.1 hr i hi)
 have hcl:∀i b,aa K i=some b->∀j,j∈av b->∃c,aa K j=some c:=λi b hb j hj=>Yf.1 (List.all_eq_true.1 (List.all_eq_true.1 hcl _ (aP hb)) j hj)
 have hfree:∀i b,aa K i=some b->aa σ.hp (i+off)=none:=λi b hb=>by
  have:=List.all_eq_true.1 hc4 _ (aP hb);simpa using this
 let μ2:Nat->Option Nat:=λi=>if off<=i/\(aa K (i-off)).isSome=true then μ' (i-off) else if ids.contains i then none else μ i
 have m2K:∀{i b},aa K i=some b->μ2 (i+off)=μ' i:=fun {i b} hb=>by
  simp only[μ2];rw[if_pos ⟨by omega,by rw[Yy,hb];rfl⟩,Yy]
 have m2o:∀{i b},aa σ.hp i=some b->ids.contains i=false->μ2 i=μ i:=fun {i b} hb hn=>by
  simp only[μ2];rw[if_neg (by
   rintro ⟨q1,q2⟩;obtain ⟨b',q3⟩:=Yf.1 q2;have:=hfree _ _ q3;rw[Nat.sub_add_cancel q1,hb] at this;cases this),hn]
  rfl
 have m2:∀{i g},μ2 i=some g->(∃j b,i=j+off/\aa K j=some b/\μ' j=some g)\/(ids.contains i=false/\μ i=some g/\∃b,aa σ.hp i=some b):=fun {i g} hg=>by
  simp only[μ2] at hg;split at hg
  ·rename_i q;obtain ⟨b,q3⟩:=Yf.1 q.2;exact .inl ⟨i-off,b,by omega,q3,hg⟩
  ·split at hg
   ·cases hg
   ·rename_i q;exact .inr ⟨by simpa using q,hg,(hi.dom i g hg).1⟩
 have hfr:Frm (λg=>∃id,μc id=some g) w w':=k3;have hS:aI S w w':=λb hb=>hfr.block b (hi.sb b hb).1 QH
 have hO:∀i g,μ i=some g->ids.contains i=false->w'.heap[g]? = w.heap[g]?:=λi g hg hn=>hfr.block g (hi.dom i g hg).2.2.2 (by
  rintro ⟨id,h⟩;obtain ⟨q1,q2⟩:=mc h;have:=hi.inj _ _ _ hg q2;subst this;rw[q1] at hn;cases hn)
 let S2:Nat->Prop:=λb=>S b\/S' b
 -- a value of ours that names nothing of 'ids'
 have rdO:∀{v x},Rd μ S w v x->(∀i,i∈refs x->ids.contains i=false)->Rd μ2 S2 w' v x:=fun {v x} hv hn=>by
  have h1:Rd (λi=>if ids.contains i then none else μ i) S w v x:=hv.less (λi hi g hg=>by rw[hn i hi];exact hg);refine h1.mono hS (λ_ h=>.inl h) (λi g hg=>?_) (λi g hg=>?_)
  ·split at hg
   ·cases hg
   ·rename_i q;have q:ids.contains i=false:=by simpa using q
    obtain ⟨⟨b,hb⟩,_⟩:=hi.dom i g hg;rw[m2o hb q];exact hg
  ·split at hg
   ·cases hg
   ·rename_i q;exact aN (hO i g hg (by simpa using q))
 have inv:Inv C μ2 S2 ⟨σ.tm.map (iP ids),sh off K++del ids σ.hp⟩ a w':=by
  refine ⟨by simp[hi.size],hi.defers,λt x hx=>?_,λid b hb=>?_,λi g hg=>?_,λi j g hg hg'=>?_,hi.frm.step _ hfr (λg ⟨id,h⟩=>(hi.dom id g (mc h).2).2.1),λb hb=>?_⟩
  ·simp only[W5] at hx;cases e:σ.tm[t]? with
   | none=>rw[e] at hx;cases hx
   | some y=>
    rw[e] at hx;simp only[Option.map_some,gL] at hx;subst hx;unfold iP;split
    ·exact .any _
    ·rename_i q;refine rdO (hi.tm t y e) (λi hi'=>?_);simp only[List.any_eq_true,not_exists,not_and] at q;simpa using q i hi'
  ·simp only at hb;rw[az] at hb;split at hb
   ·rw[qB] at hb;split at hb
    ·rename_i q;cases e:aa K (id-off) with
     | none=>rw[e] at hb;cases hb
     | some b0=>
      rw[e] at hb;simp only[Option.map_some,gL] at hb;subst hb;obtain ⟨j,rfl⟩:∃j,id=j+off:=⟨id-off,by omega⟩;rw[Yy] at e;have:=(k2.blk j b0 (hKH j b0 e)).ren off (μ':=μ2) (λh=>by rw[m2K e];exact h) (λg h=>by rw[m2K e];exact h) (λi hi' g hg=>by
       obtain ⟨c,hc'⟩:=hcl j b0 e i hi';rw[m2K hc'];exact hg)
      exact this.mono (aI.refl _ _) (λ_ h=>.inr h) (λ_ _ h=>h) (λ_ _ _=>rfl) (λh=>h) (λ_ _=>rfl)
    ·cases hb
   ·rename_i hnK;rw[dN] at hb;split at hb
    ·cases hb
    ·rename_i q;have q:ids.contains id=false:=by simpa using q
     have hall:=List.all_eq_true.1 hc2 (id,b) (aP (by rw[dN,if_neg (by rw[q];simp)];exact hb));have h1:=(hi.hp id b hb).less (μ':=λi=>if ids.contains i then none else μ i) (by rw[q];rfl) (λi hi' g hg=>by
      have:=List.all_eq_true.1 hall i hi';rw[if_neg (by simpa using this)];exact hg)
     refine h1.mono hS (λ_ h=>.inl h) (λi g hg=>?_) (λi g hg=>?_) (λhn=>?_) (λg hg=>?_)
     ·split at hg
      ·cases hg
      ·rename_i q';obtain ⟨⟨b',hb'⟩,_⟩:=hi.dom i g hg;rw[m2o hb' (by simpa using q')];exact hg
     ·split at hg
      ·cases hg
      ·rename_i q';exact aN (hO i g hg (by simpa using q'))
     ·rw[m2o hb q];rw[q] at hn;exact hn
     ·rw[q] at hg;exact hO id g hg q
  ·rcases m2 hg with ⟨j,b,rfl,q1,q2⟩ | ⟨q1,q2,b,q3⟩
   ·obtain ⟨_,q4,q5⟩:=k2.dom j g q2;refine ⟨⟨BW off b,?_⟩,?_,?_,q5⟩
    ·have e:aa (sh off K) (j+off)=some (BW off b):=by rw[qB,if_pos z8,Yy,q1];rfl
     rw[az,if_pos ⟨_,aP e,rfl⟩,e]
    ·rcases k4 j g q2 with ⟨i,hi'⟩ | h
     ·exact (hi.dom i g (mc hi').2).2.1
     ·have:=hi.frm.size;exact .inr z8
    ·rintro (h | h)
     ·rcases k4 j g q2 with ⟨i,hi'⟩ | h'
      ·exact (hi.dom i g (mc hi').2).2.2.1 h
      ·have:=(hi.sb g h).1;omega
     ·exact q4 h
   ·obtain ⟨_,q4,q5,q6⟩:=hi.dom i g q2;refine ⟨⟨b,?_⟩,q4,?_,Yc q6 hfr.size⟩
    ·rw[az,if_neg,dN,if_neg (by rw[q1];simp)]
     ·exact q3
     ·rintro ⟨⟨i',b'⟩,hm,rfl⟩;obtain ⟨⟨j,c'⟩,hm',e⟩:=W8.1 hm;simp only[gM] at e;have:=List.all_eq_true.1 hc4 _ hm';simp only at this;rw[e.1] at this;simp only at q3;rw[q3] at this;cases this
    ·rintro (h | h)
     ·exact q5 h
     ·rcases (k5 g h).2 with h | ⟨i',h⟩ | h
      ·exact q5 h
      ·obtain ⟨q7,q8⟩:=mc h;have:=hi.inj _ _ _ q2 q8;subst this;rw[q7] at q1;cases q1
      ·omega
  ·rcases m2 hg with ⟨i1,b1,rfl,p1,p2⟩ | ⟨p1,p2,b1,p3⟩<;>rcases m2 hg' with ⟨j1,c1,rfl,q1,q2⟩ | ⟨q1,q2,c1,q3⟩
   ·rw[k2.inj _ _ _ p2 q2]
   ·rcases k4 i1 g p2 with ⟨i',h⟩ | h
    ·obtain ⟨q7,q8⟩:=mc h;have:=hi.inj _ _ _ q2 q8;subst this;rw[q7] at q1;cases q1
    ·have:=(hi.dom _ _ q2).2.2.2;omega
   ·rcases k4 j1 g q2 with ⟨i',h⟩ | h
    ·obtain ⟨q7,q8⟩:=mc h;have:=hi.inj _ _ _ p2 q8;subst this;rw[q7] at p1;cases p1
    ·have:=(hi.dom _ _ p2).2.2.2;omega
   ·exact hi.inj _ _ _ p2 q2
  ·rcases hb with h | h
   ·exact ⟨Yc (hi.sb b h).1 hfr.size,(hi.sb b h).2⟩
   ·refine ⟨(k5 b h).1,?_⟩
    rcases (k5 b h).2 with h | ⟨i',h⟩ | h
    ·exact (hi.sb b h).2
    ·rcases (hi.dom _ _ (mc h).2).2.1 with h | h
     ·exact .inr (.inl h)
     ·exact .inr (.inr h)
    ·have:=hi.frm.size;exact .inr (.inr z8)
 exact hKp _ _ ⟨μ2,S2,inv.put o.dst ((k1.ren off (λi hi' g hg=>by
  obtain ⟨b,hb⟩:=hr i hi';rw[m2K hb];exact hg)).mono (aI.refl _ _) (λ_ h=>.inr h) (λ_ _ h=>h) (λ_ _ _=>rfl))⟩
end
end Go.Eng
namespace Go.Eng
section
variable {P:Program} {T:Tab} {C:Ctx} {σ σ':St} {Ret:St->Prop} {k:List It}
theorem mq (hT:TabOK P T) {all:Array Oper} {o:Oper} {l:List Oper} {t:TypeId} {x y:Operand} {ty e:TypeId} {rows:List (List AV)} (ho:o.op=.binOp .eql t x y ty) (hg:o.guard=none) (ht:T.und t=.sl e)
  (hx:evS σ x=(True,.sl rows)) (hy:evS σ y=(True,.nils)) (h:∀b,(b=true->rows=[])->Cw P C Ret (.ops all l::k) (σ.put o.dst (.bool b))):Cw P C Ret (.ops all (o::l)::k) σ:=by
 intro a w ⟨μ,S,hi⟩;have hv:=hi.evS x u9;have hu:=hi.evS y Qi;rw[hx] at hv;rw[hy] at hu;obtain ⟨A,cap,size,g,off,vals,e1,hc,hs',hA,hcell,hr⟩:=hv.gU.gU;have e2:=hu.gf;have hty:P.underlying t=some (.slice e):=by have:=hT.und t;rw[ht] at this;exact this
 show wpList P all _ (o::l) a w
 unfold wpList;rw[bk hi (show guardOf all σ o.guard=some true from by rw[hg];rfl)];refine .inl ?_;unfold Oper.wp;have hrun:(execOp a.eval o).run P w=.ok (.value (.bool A.isNone)) w:=by
  simp only[execOp,ho,e1,e2,eqGuard_at_slice,pure_bind,Sem.run_bind,Lib.run_eql_slice_nil w t e A rows.length cap 0 0 hty,Result.andThen_ok];rfl
 rw[hrun];refine h A.isNone (λhb=>?_) _ _ ⟨μ,S,hi.put o.dst (.pure (.bool _))⟩
 rcases Nat.eq_zero_or_pos rows.length with h0 | h0
 ·exact List.eq_nil_of_length_eq_zero h0
 ·rw[(hA h0).1] at hb;cases hb
def wk (x y:AV):Prop:=y=.any\/x=y\/(x=.nils/\(y=.sl []\/∃id s off,y=.osl id s off 0))
theorem Rd.wk {μ:Nat->Option Nat} {S:Nat->Prop} {w:World} {v:Value} {x y:AV} (h:Rd μ S w v x) (hw:wk x y):Rd μ S w v y:=by
 rcases hw with rfl | rfl | ⟨rfl,rfl | ⟨id,s,off,rfl⟩⟩
 ·exact .any v
 ·exact h
 ·obtain rfl:=h.gf;exact .pure (.sl none 0 0 [] 0 0 0 (λ_ _=>undef) rfl (YA _) (λrow h=>by cases h) (λh=>by omega) (λi j h=>by omega) (λi row h=>by simp at h))
 ·obtain rfl:=h.gf;exact .osl id s off 0 0 none (YA _) (.inl ⟨rfl,rfl⟩)
theorem ai.wk {f:FuncId} {args:List AV} {H:List (Nat×Blk)} {post:AV->List (Nat×Blk)->Prop} (h:ai P f args H λr H'=>∃r',wk r r'/\post r' H'):ai P f args H post:=
 λR0 μ w0 vs hl ha hH hR=>(h R0 μ w0 vs hl ha hH hR).mono λ_ _ ⟨v,_,H',μ',S',h1,⟨r',h2,h3⟩,h4,h5⟩=>⟨v,r',H',μ',S',h1,h3,h4.wk h2,h5⟩
theorem ZF (hT:TabOK P T) {f:FuncId} {fn:Func} {c:Code} {args:List AV} {H:List (Nat×Blk)} {post:AV->List (Nat×Blk)->Prop}
  (hf:P.funcs[f]? = some fn) (hb:fn.body=some c)
  (h:∀C:Ctx,Cw P C (λs=>∃p r,pN T s fn.results.toList=some (p,r)/\p/\∃r',Eng.wk r r'/\post r' s.hp) [.code c] ⟨args++List.replicate (fn.ntmps-args.length) .any,H⟩):ai P f args H post:=
 .wk (FJ hT hf hb h)
def nQ:List AV->List AV->Prop
 | [],[]=>True
 | x::l,y::m=>wk x y/\nQ l m
 | _,_=>False
theorem pw:∀{l m:List AV},nQ l m->l.length=m.length/\∀(t:Nat) y,m[t]? = some y->∃x,l[t]? = some x/\wk x y
 | [],[],_=>⟨rfl,λt y h=>by simp at h⟩
 | x::l,y::m,h=>by
  obtain ⟨h1,h2⟩:=pw h.2;refine ⟨by simp[h1],λt z hz=>?_⟩;cases t with
  | zero=>
   simp only[List.getElem?_cons_zero,gL] at hz;subst hz;exact ⟨x,rfl,h.1⟩
  | succ t=>simpa using h2 t z Zb
 | [],_::_,h=>h.elim
 | _::_,[],h=>h.elim
def Bd:Blk->Prop
 | .cells _ _ rows=>rows=[]
 | .map _=>False
 | .iter ..=>False
 | .cap ..=>False
 | .pin ..=>False
def JE (H:List (Nat×Blk)):List (Nat×Blk)->Prop
 | []=>True
 | (i,b)::r=>(aa H i=some b\/(aa H i=none/\Bd b))/\JE H r
theorem AO {H:List (Nat×Blk)}:∀{K:List (Nat×Blk)} {i:Nat} {b:Blk},JE H K->aa K i=some b->aa H i=some b\/(aa H i=none/\Bd b)
 | (j,c)::r,i,b,h,hb=>by
  simp only[aa] at hb;split at hb
  ·rename_i e;subst e;injection hb with hb;subst hb;exact h.1
  ·exact AO h.2 hb
theorem ZU {l m:List AV} {H K:List (Nat×Blk)} (h:nQ l m) (hK:JE H K) (hc:closed K (aA m)=true):Le C ⟨l,H⟩ ⟨m,K⟩:=by
 intro a w ⟨μ,S,hi⟩;obtain ⟨h1,h2⟩:=pw h;simp only[closed,Bool.and_eq_true] at hc;have hr:∀i,i∈aA m->(aa K i).isSome=true:=λi hi=>List.all_eq_true.1 hc.1 i hi
 have hcl:∀i b,aa K i=some b->∀j,j∈av b->(aa K j).isSome=true:=λi b hb j hj=>List.all_eq_true.1 (List.all_eq_true.1 hc.2 _ (aP hb)) j hj
 let μ2:Nat->Option Nat:=λi=>if (aa K i).isSome=true then μ i else none
 have m2:∀{i g},μ2 i=some g->μ i=some g/\(aa K i).isSome=true:=fun {i g} hg=>by
  simp only[μ2] at hg;split at hg
  ·exact ⟨hg,by assumption⟩
  ·cases hg
 refine ⟨μ2,S,by rw[hi.size];exact h1,hi.defers,λt y hy=>?_,λi b hb=>?_,λi g hg=>?_,λi j g hg hg'=>hi.inj i j g (m2 hg).1 (m2 hg').1,hi.frm,hi.sb⟩
 ·obtain ⟨x,hx,hw⟩:=h2 t y hy;refine ((hi.tm t x hx).wk hw).less λi hi' g hg=>?_
  simp only[μ2];rw[if_pos (hr i (aW hy hi'))];exact hg
 ·rcases AO hK hb with h | ⟨h,he⟩
  ·refine (hi.hp i b h).less (by simp only[μ2];rw[hb];rfl) λj hj g hg=>?_
   simp only[μ2];rw[if_pos (hcl i b hb j hj)];exact hg
  ·cases b with
   | cells e s rows=>
    refine .inl ⟨he,?_⟩;simp only[μ2];rw[hb];cases e:μ i with
    | none=>rfl
    | some g=>
     obtain ⟨⟨c,h'⟩,_⟩:=hi.dom i g e;simp only at h';rw[h] at h';cases h'
   | map kvs=>exact he.elim
   | iter kvs seen=>exact he.elim
   | cap id' s N=>exact he.elim
   | pin id' g' t n=>exact he.elim
 ·obtain ⟨k1,k2⟩:=m2 hg;obtain ⟨_,k3⟩:=hi.dom i g k1;exact ⟨Yf.1 k2,k3⟩
mutual
def frz (id s:Nat) (rows:List (List AV)):AV->AV
 | .osl i s' off len=>if i=id then (if s'=s/\off+len<=rows.length then .sl ((rows.drop off).take len) else .any) else .osl i s' off len
 | .ptr i s' row off=>if i=id then (if s'=s/\row<rows.length then .rp (rows.getD row []) off else .any) else .ptr i s' row off
 | .mp i=>if i=id then .any else .mp i
 | .exs i s' o n c=>if i=id then .any else .exs i s' o n c
 | .agg cells=>.agg (db id s rows cells)
 | .tup vs=>.tup (db id s rows vs)
 | .fn f caps=>.fn f (db id s rows caps)
 | .cnd c v=>.cnd c (frz id s rows v)
 | x=>x
def db (id s:Nat) (rows:List (List AV)):List AV->List AV
 | []=>[]
 | x::r=>frz id s rows x::db id s rows r
end
theorem kE (id s:Nat) (rows:List (List AV)):∀l,db id s rows l=l.map (frz id s rows)
 | []=>rfl
 | x::r=>by simp[db,kE id s rows r]
def km (id s:Nat) (rows:List (List AV)):List (Nat×Blk)->List (Nat×Blk)
 | []=>[]
 | (i,.cells e z R)::r=>if i=id then km id s rows r else (i,.cells e z (R.map (db id s rows)))::km id s rows r
 | (i,.map kvs)::r=>if i=id then km id s rows r else (i,.map kvs)::km id s rows r
 | (i,.iter kvs seen)::r=>if i=id then km id s rows r else (i,.iter kvs seen)::km id s rows r
 | (i,.cap j z N)::r=>if i=id then km id s rows r else (i,if j=id then .cells 0 0 [] else .cap j z N)::km id s rows r
 | (i,.pin j g z N)::r=>if i=id then km id s rows r else (i,if j=id then .cells 0 0 [] else .pin j g z N)::km id s rows r
def ID (id s:Nat) (rows:List (List AV)):Blk->Blk
 | .cells e z R=>.cells e z (R.map (db id s rows))
 | .map kvs=>.map kvs
 | .iter kvs seen=>.iter kvs seen
 | .cap j z N=>if j=id then .cells 0 0 [] else .cap j z N
 | .pin j g z N=>if j=id then .cells 0 0 [] else .pin j g z N
theorem gS (id s:Nat) (rows:List (List AV)) (i:Nat):∀H,aa (km id s rows H) i=if i=id then none else (aa H i).map (ID id s rows)
 | []=>by simp[km,aa]
 | (j,.cells e z R)::r=>by
  have ih:=gS id s rows i r;unfold km
  by_cases h:j=id
  ·subst h;rw[if_pos rfl,ih]
   by_cases h2:i=j
   ·rw[if_pos h2,if_pos h2]
   ·rw[if_neg h2,if_neg h2];simp only[aa];rw[if_neg (λh=>h2 h.symm)]
  ·rw[if_neg h];simp only[aa]
   by_cases h2:j=i
   ·subst h2;rw[if_pos rfl,if_neg h,if_pos rfl];rfl
   ·rw[if_neg h2,if_neg h2];exact ih
 | (j,.map kvs)::r=>by
  have ih:=gS id s rows i r;unfold km
  by_cases h:j=id
  ·subst h;rw[if_pos rfl,ih]
   by_cases h2:i=j
   ·rw[if_pos h2,if_pos h2]
   ·rw[if_neg h2,if_neg h2];simp only[aa];rw[if_neg (λh=>h2 h.symm)]
  ·rw[if_neg h];simp only[aa]
   by_cases h2:j=i
   ·subst h2;rw[if_pos rfl,if_neg h,if_pos rfl];rfl
   ·rw[if_neg h2,if_neg h2];exact ih
 | (j,.iter kvs seen)::r=>by
  have ih:=gS id s rows i r;unfold km
  by_cases h:j=id
  ·subst h;rw[if_pos rfl,ih]
   by_cases h2:i=j
   ·rw[if_pos h2,if_pos h2]
   ·rw[if_neg h2,if_neg h2];simp only[aa];rw[if_neg (λh=>h2 h.symm)]
  ·rw[if_neg h];simp only[aa]
   by_cases h2:j=i
   ·subst h2;rw[if_pos rfl,if_neg h,if_pos rfl];rfl
   ·rw[if_neg h2,if_neg h2];exact ih
 | (j,.cap k z N)::r=>by
  have ih:=gS id s rows i r;unfold km
  by_cases h:j=id
  ·subst h;rw[if_pos rfl,ih]
   by_cases h2:i=j
   ·rw[if_pos h2,if_pos h2]
   ·rw[if_neg h2,if_neg h2];simp only[aa];rw[if_neg (λh=>h2 h.symm)]
  ·rw[if_neg h];simp only[aa]
   by_cases h2:j=i
   ·subst h2;rw[if_pos rfl,if_neg h,if_pos rfl];rfl
   ·rw[if_neg h2,if_neg h2];exact ih
 | (j,.pin k q z N)::r=>by
  have ih:=gS id s rows i r;unfold km
  by_cases h:j=id
  ·subst h;rw[if_pos rfl,ih]
   by_cases h2:i=j
   ·rw[if_pos h2,if_pos h2]
   ·rw[if_neg h2,if_neg h2];simp only[aa];rw[if_neg (λh=>h2 h.symm)]
  ·rw[if_neg h];simp only[aa]
   by_cases h2:j=i
   ·subst h2;rw[if_pos rfl,if_neg h,if_pos rfl];rfl
   ·rw[if_neg h2,if_neg h2];exact ih
theorem RdP.Lj {S:Nat->Prop} {w:World} {v:Value} {x:AV} (h:RdP S w v x) (id s:Nat) (rows:List (List AV)):frz id s rows x=x:=by
 have key:∀(l:List AV),(∀(j:Nat) x,l[j]? = some x->frz id s rows x=x)->db id s rows l=l:=by
  intro l
  induction l with
  | nil=>intro _;rfl
  | cons y r ih=>
   intro h;simp only[db];rw[h 0 y rfl,ih (λj x hj=>h (j+1) x QQ)]
 induction h with
 | fn f vals caps hl hr ih=>simp only[frz];rw[key caps ih]
 | agg cs cells hl hr ih=>simp only[frz];rw[key cells ih]
 | _=>rfl
theorem pj {id s:Nat} {rows:List (List AV)} {R':Value->AV->Prop} {vals:Nat->Value} {cells:List AV} (h:∀j x,cells[j]? = some x->R' (vals j) (frz id s rows x)) :
  ∀j x,(db id s rows cells)[j]? = some x->R' (vals j) x:=by
 intro j x hx;rw[kE,W5] at hx;cases e:cells[j]? with
 | none=>rw[e] at hx;cases hx
 | some y=>
  rw[e] at hx;simp only[Option.map_some,gL] at hx;subst hx;exact h j y e
theorem Bt {l:List AV} {H:List (Nat×Blk)} {id e s:Nat} {rows:List (List AV)} (hb:aa H id=some (.cells e s rows)) (hp:(rows.all λrow=>row.all AV.aT)=true) {μ:Nat->Option Nat} {S:Nat->Prop} {a:Act} {w:World} (hi:Inv C μ S ⟨l,H⟩ a w) :
  Inv C (upd μ id none) (λb=>S b\/μ id=some b) ⟨l.map (frz id s rows),km id s rows H⟩ a w:=by
 have hB:=hi.hp id _ hb;have hpure:∀(i:Nat) row,rows[i]? = some row->∀(j:Nat) x,row[j]? = some x->x.aT=true:=λi row hi j x hj=>List.all_eq_true.1 (List.all_eq_true.1 hp row (W6 hi)) x (W6 hj)
 let S2:Nat->Prop:=λb=>S b\/μ id=some b
 let μ2:Nat->Option Nat:=upd μ id none
 have hS:∀b,S b->S2 b:=λb h=>.inl h
 have rd:∀{v:Value} {x:AV},Rd μ S w v x->Rd μ2 S2 w v (frz id s rows x):=by
  intro v x h
  induction h with
  | any v=>exact .any v
  | pure h=>rw[h.Lj];exact .pure (h.mono (aI.refl _ _) hS)
  | agg cs cells hl hr ih=>simp only[frz];exact .agg cs _ WE (pj (R':=λv x=>Rd μ2 S2 w v x) (vals:=λj=>cs.getD j undef) ih)
  | tup cs cells hl hr ih=>simp only[frz];exact .tup cs _ WE (pj (R':=λv x=>Rd μ2 S2 w v x) (vals:=λj=>cs.getD j undef) ih)
  | fn f vals cells hl hr ih=>simp only[frz];exact .fn f vals _ WE (pj (R':=λv x=>Rd μ2 S2 w v x) (vals:=λj=>vals.getD j undef) ih)
  | ptr i size row o g hg=>
   simp only[frz];split
   ·rename_i he;subst he;split
    ·rename_i hc;obtain ⟨rfl,hrow⟩:=hc
     rcases hB with ⟨rfl,_⟩ | ⟨g',c,k1,k2,k3,k4,k5⟩
     ·simp at hrow
     ·rw[hg] at k1;injection k1 with k1;subst k1
      have hr:=C7 hrow;have hlen:=k4 _ (W6 hr);have hlt:=iK (size:=size) hr;refine .pure (.rp g (row*size) o _ (λj=>c.getD (row*size+j) undef) (.inr hg) (λj hj=>?_) (λj x hx=>?_))
      ·rw[cell_of k2,Array.getD_eq_getD_getElem?,YK z8];rfl
      ·exact ((k5 _ _ hr j x hx).toP (hpure _ _ hr _ _ hx)).mono (aI.refl _ _) hS
    ·exact .any _
   ·rename_i he;exact .ptr i size row o g QA
  | osl i size o len cap A hc h=>
   simp only[frz];split
   ·rename_i he;subst he;split
    ·rename_i hcond;obtain ⟨rfl,hle⟩:=hcond;have hl:((rows.drop o).take len).length=len:=by simp;omega
     rcases h with ⟨rfl,h2⟩ | ⟨g,e',n,h1,rfl,h3,h4⟩
     ·exact .pure (.sl A 0 cap _ size 0 0 (λ_ _=>undef) hl hc (λrow h=>by simp at h) (λh=>by omega) (λi j h=>by omega) (λi row h=>by simp at h))
     ·rcases hB with ⟨_,k2⟩ | ⟨g',c,k1,k2,k3,k4,k5⟩
      ·rw[k2] at h1;cases h1
      ·rw[k1] at h1;injection h1 with h1;subst h1
       refine .pure (.sl _ len cap _ size g' (o*size) (λi j=>c.getD ((o+i)*size+j) undef) hl hc (λrow h=>k4 row (Yb (YJ h))) (λ_=>⟨rfl,.inr k1⟩) (λi' j hi' hj=>?_) (λi' row h j x hx=>?_))
       ·have hlt:(o+i')*size+size<=rows.length*size:=by
         have:=YM size (show o+i'+1<=rows.length by omega)
         rwa [Y5] at this
        rw[show o*size+(i'*size+j)=(o+i')*size+j from by rw[Nat.add_mul];omega,cell_of k2,Array.getD_eq_getD_getElem?,YK z8];rfl
       ·rw[YW] at h;split at h
        ·rw[List.getElem?_drop] at h;exact ((k5 _ row h j x hx).toP (hpure _ _ h _ _ hx)).mono (aI.refl _ _) hS
        ·cases h
    ·exact .any _
   ·rename_i he;refine .osl i size o len cap A hc ?_
    rcases h with h | ⟨g,e',n,h1,h2,h3,h4⟩
    ·exact .inl h
    ·exact .inr ⟨g,e',n,by simp only[μ2,upd];rw[if_neg he];exact h1,h2,h3,h4⟩
  | mp i g hg=>
   simp only[frz];split
   ·exact .any _
   ·rename_i he;exact .mp i g QA
  | exs i size o len cap g e n hc hg hr hn=>
   simp only[frz];split
   ·exact .any _
   ·rename_i he;exact .exs i size o len cap g e n hc QA hr hn
  | cndT v x h ih=>exact .cndT v _ ih
  | cndF x=>exact .cndF _
 have m2:∀{i g},μ2 i=some g->i≠id/\μ i=some g:=fun {i g} hg=>by
  simp only[μ2,upd] at hg;split at hg
  ·cases hg
  ·exact ⟨by assumption,hg⟩
 refine ⟨by simp[hi.size],hi.defers,λt x hx=>?_,λi b hb'=>?_,λi g hg=>?_,λi j g h1 h2=>hi.inj i j g (m2 h1).2 (m2 h2).2,hi.frm,λb hb'=>?_⟩
 ·simp only[W5] at hx;cases e:l[t]? with
  | none=>rw[e] at hx;cases hx
  | some y=>
   rw[e] at hx;simp only[Option.map_some,gL] at hx;subst hx;exact rd (hi.tm t y e)
 ·simp only at hb';rw[gS] at hb';split at hb'
  ·cases hb'
  ·rename_i he;cases e1:aa H i with
   | none=>rw[e1] at hb';cases hb'
   | some b0=>
    rw[e1] at hb';simp only[Option.map_some,gL] at hb';subst hb';have hμ:μ2 i=μ i:=by simp only[μ2,upd];rw[if_neg he]
    have:=hi.hp i b0 e1;cases b0 with
    | cells e' z R=>
     rcases this with ⟨rfl,h2⟩ | ⟨g,c,h1,h2,h3,h4,h5⟩
     ·exact .inl ⟨rfl,hμ.trans h2⟩
     ·refine .inr ⟨g,c,hμ.trans h1,h2,by simpa using h3,λrow hrow=>?_,λi' row hi' j x hx=>?_⟩
      ·obtain ⟨r,hr,rfl⟩:=W8.1 hrow;rw[kE,List.length_map];exact h4 r hr
      ·rw[W5] at hi';cases e2:R[i']? with
       | none=>rw[e2] at hi';cases hi'
       | some r=>
        rw[e2] at hi';simp only[Option.map_some,gL] at hi';subst hi';exact pj (R':=λv x=>Rd μ2 S2 w v x) (vals:=λj=>c.getD (i'*z+j) undef) (λj x hx=>rd (h5 i' r e2 j x hx)) j x hx
    | map kvs=>
     obtain ⟨g,es,clk,vals,h1,h2,h3,h4⟩:=this;exact ⟨g,es,clk,vals,hμ.trans h1,h2,h3,λp hp'=>(h4 p hp').mono (aI.refl _ _) hS⟩
    | iter kvs seen=>
     obtain ⟨g,es,clk,vals,had,h1,h2,h4⟩:=this;obtain ⟨m,k1,k2,k3⟩:=h2.lies;exact ⟨g,es,clk,vals,had,hμ.trans h1,⟨⟨m,k1,hS _ k2,k3⟩,h2.map,h2.last,h2.had⟩,λp hp'=>(h4 p hp').mono (aI.refl _ _) hS⟩
    | cap k z N=>
     obtain ⟨h1,g,e,h2,h3⟩:=this;simp only[ID];split
     ·exact .inl ⟨rfl,hμ.trans h1⟩
     ·rename_i hk;refine ⟨hμ.trans h1,g,e,?_,h3⟩;simp only[upd];rw[if_neg hk];exact h2
    | pin k g z N=>
     obtain ⟨h1,h2,h3⟩:=this;simp only[ID];split
     ·exact .inl ⟨rfl,hμ.trans h1⟩
     ·rename_i hk;refine ⟨hμ.trans h1,?_,h3⟩;simp only[upd];rw[if_neg hk];exact h2
 ·obtain ⟨k1,k2⟩:=m2 hg;obtain ⟨⟨b,h1⟩,h2,h3,h4⟩:=hi.dom i g k2;refine ⟨⟨ID id s rows b,?_⟩,h2,?_,h4⟩
  ·simp only at h1 ⊢;rw[gS,if_neg k1,h1];rfl
  ·rintro (h | h)
   ·exact h3 h
   ·exact k1 (hi.inj _ _ _ k2 h)
 ·rcases hb' with h | h
  ·exact hi.sb b h
  ·obtain ⟨_,h2,_,h4⟩:=hi.dom id b h;exact ⟨h4,.inr h2⟩
theorem DQ {l:List AV} {H:List (Nat×Blk)} {id e s:Nat} {rows:List (List AV)} (hb:aa H id=some (.cells e s rows)) (hp:(rows.all λrow=>row.all AV.aT)=true) :
  Le C ⟨l,H⟩ ⟨l.map (frz id s rows),km id s rows H⟩:=λ_ _ ⟨_,_,hi⟩=>⟨_,_,Bt hb hp hi⟩
theorem ZZ {l:List AV} {H:List (Nat×Blk)} (id:Nat) {e s:Nat} {rows:List (List AV)} (hb:aa H id=some (.cells e s rows)) (hp:(rows.all λrow=>row.all AV.aT)=true)
  (h:Cw P C Ret k ⟨l.map (frz id s rows),km id s rows H⟩):Cw P C Ret k ⟨l,H⟩:=af (DQ hb hp) h
end
end Go.Eng
namespace Go.Eng
section
variable {P:Program} {T:Tab} {C:Ctx} {σ σ' s:St} {Ret:St->Prop}
theorem dI {c:Operand} {args:List Operand} (h:∀x,x∈fT σ c++aQ σ args->bn σ s x):ax s c args=ax σ c args:=by
 unfold ax;rw[cm (λx hx=>h x (YS _ hx)),oq (λx hx=>h x (YI _ hx))]
def ew (ops:Array Oper) (σ:St) (o:Oper) (c:Operand) (args:List Operand) (r:AV):Sp:=⟨o.dst,r,[],bW ops o.guard++(fT σ c++aQ σ args)⟩
theorem lT (ops:Array Oper) (σ:St) (o:Oper) (c:Operand) (args:List Operand) (r:AV):(ew ops σ o c args r).app σ=σ.put o.dst r:=by simp[Sp.app,ew]
theorem iB {ops:Array Oper} {o:Oper} {x:AV} {rd:List Loc} {b:Bool} (hg:guardOf ops σ o.guard=some b) (hg0:b=true\/∃y,x=.cnd false y)
  (h:b=true->∀s,(∀l,l∈rd->bn σ s l)->eK P C o s (s.put o.dst x)):Rob P C ops o ⟨o.dst,x,[],bW ops o.guard++rd⟩ σ:=by
 intro s ha _ a w K Q hr hK;have hg':guardOf ops s o.guard=some b:=by rw[iu (λx hx=>ha x (YS _ hx))];exact hg
 obtain ⟨μ,S,hi⟩:=hr;rw[bk hi hg'];cases b with
 | true=>exact .inl (h rfl s (λl hl=>ha l (YI _ hl)) a w K Q ⟨μ,S,hi⟩ hK)
 | false=>
  rcases hg0 with h | ⟨y,rfl⟩
  ·cases h
  ·exact hK _ _ ⟨μ,S,hi.put o.dst (.cndF y)⟩
theorem Av {ops:Array Oper} {o:Oper} {c:Operand} {args:Array Operand} {ats:Array TypeId} (ho:o.op=.call { callee:=.value c,args,argTypes:=ats }) (hg:o.guard=none) {p:Prop} {f:FuncId} {xs:List AV}
  (h:ax σ c args.toList=some (p,f,xs)) (hp:p) (hc:aH P f) (hx:aA xs=[]) {r:AV} (hr:refs r=[]) (hf:ai P f xs [] λr' _=>r'=r):Rob P C ops o (ew ops σ o c args.toList r) σ:=
 iB (b:=true) Qy (.inl rfl) λ_ _ ha=>nN ho (by rw[dI ha];exact h) hp hc hx hr hf
def dq:List Sp->St->Prop
 | [],_=>True
 | p::ps,σ=>(∀b,b∈p.new->Loc.blk b.1∉p.rd->aa σ.hp b.1=none)/\dq ps (p.app σ)
theorem dq.get:∀{ps:List Sp} {σ:St},dq ps σ->∀(i:Nat) p,ps[i]? = some p->∀b,b∈p.new->Loc.blk b.1∉p.rd->aa (upto ps i σ).hp b.1=none
 | [],_,_,i,p,h,_,_,_=>by simp at h
 | q::ps,σ,hf,0,p,h,b,hb,hn=>by
  simp only[List.getElem?_cons_zero,gL] at h;subst h;exact hf.1 b hb hn
 | q::ps,σ,hf,i+1,p,h,b,hb,hn=>hf.2.get i p u1 b hb hn
theorem dq.append:∀{ps qs:List Sp} {σ:St},dq ps σ->dq qs (cX ps σ)->dq (ps++qs) σ
 | [],_,_,_,h=>h
 | _::_,_,_,h,h2=>⟨h.1,h.2.append h2⟩
theorem dq.of_nil:∀{ps:List Sp} {σ:St},(∀p,p∈ps->p.new=[])->dq ps σ
 | [],_,_=>trivial
 | p::ps,_,h=>⟨λb hb _=>(by rw[h p w8] at hb;cases hb),dq.of_nil λq hq=>h q (by simp[hq])⟩
def al (P:Program) (C:Ctx) (ops:Array Oper) (Q:Exit->Act->World->Prop) (k n:Nat) (acc:dw) (l:List Oper) (σ:St):Prop:=
 ∃l1 l2 ps,l=l1++l2/\l1.length=ps.length/\dG P C ops l1 ps σ/\dq ps σ/\(np ops k (acc++iM ps)&&yM n (acc++iM ps))=true/\bp P C ops Q (k+acc.length+ps.length) (cX ps σ)
theorem oZ {ops:Array Oper}:∀{l1 l2:List Oper} {p1 p2:List Sp} {σ:St},l1.length=p1.length->dG P C ops l1 p1 σ->dG P C ops l2 p2 (cX p1 σ)->dG P C ops (l1++l2) (p1++p2) σ
 | [],_,[],_,_,_,_,h=>h
 | _::l1,_,_::p1,_,_,hl,h,h2=>⟨h.1,oZ Qj h.2 h2⟩
 | [],_,_::_,_,_,hl,_,_=>by simp at hl
 | _::_,_,[],_,_,hl,_,_=>by simp at hl
theorem nU:∀(p1 p2:List Sp) (σ:St),cX (p1++p2) σ=cX p2 (cX p1 σ)
 | [],_,_=>rfl
 | _::p1,p2,_=>nU p1 p2 _
theorem sR {ops:Array Oper} {Q:Exit->Act->World->Prop} {k n:Nat} {acc:dw} {l1 l:List Oper} {ps:List Sp} (hl:l1.length=ps.length) (hc:dG P C ops l1 ps σ) (hn:dq ps σ)
  (h:al P C ops Q k n (acc++iM ps) l (cX ps σ)):al P C ops Q k n acc (l1++l) σ:=by
 obtain ⟨m1,m2,qs,rfl,h2,h3,h4,h5,h6⟩:=h;have e:acc++iM ps++iM qs=acc++iM (ps++qs):=by simp[iM]
 refine ⟨l1++m1,m2,ps++qs,by simp,by simp[hl,h2],oZ hl hc h3,hn.append h4,by rw[<-e];exact h5,?_⟩;rw[nU];have e2:k+(acc++iM ps).length+qs.length=k+acc.length+(ps++qs).length:=by simp[iM];omega
 rw[<-e2];exact h6
theorem Jv (hT:TabOK P T) {ops:Array Oper} {Q:Exit->Act->World->Prop} {k n:Nat} {acc:dw} {l l':List Oper} {p:Prop} {ps:List Sp} (h:lO T ops l σ=some (p,ps,l',σ')) (hp:p) {sk:dw} (hs:iM ps=sk)
  (hk:al P C ops Q k n (acc++sk) l' σ'):al P C ops Q k n acc l σ:=by
 subst hs;obtain ⟨h1,h2,h3⟩:=pR h;obtain ⟨l1,k1,k2⟩:=jI (P:=P) (C:=C) hT ops l σ h hp (l2:=[]) (ps2:=[]) trivial w8;simp only[List.append_nil] at k2;subst k1;refine sR Zc k2 (.of_nil λp hp=>?_) (by rw[h2];exact hk);obtain ⟨i,hi⟩:=YC hp;exact h3 i p hi
theorem pS {ops:Array Oper} {Q:Exit->Act->World->Prop} {k n:Nat} {acc:dw} {o:Oper} {l:List Oper} {q:Sp} (hq:Rob P C ops o q σ) (hn:∀b,b∈q.new->Loc.blk b.1∉q.rd->aa σ.hp b.1=none) {sk:List Loc×List Loc} (hs:(q.wr,q.rd)=sk) (ha:q.app σ=σ')
  (hk:al P C ops Q k n (acc++[sk]) l σ'):al P C ops Q k n acc (o::l) σ:=by
 subst hs ha;exact sR (l1:=[o]) (ps:=[q]) rfl ⟨hq,trivial⟩ ⟨hn,trivial⟩ hk
theorem ke {ops:Array Oper} {Q:Exit->Act->World->Prop} {k n:Nat} {acc:dw} {o:Oper} {l:List Oper} {q:Sp} (hq:Rob P C ops o q σ) (hn:q.new=[]) {sk:List Loc×List Loc} (hs:(q.wr,q.rd)=sk) (ha:q.app σ=σ')
  (hk:al P C ops Q k n (acc++[sk]) l σ'):al P C ops Q k n acc (o::l) σ:=by
 subst hs ha;exact sR (l1:=[o]) (ps:=[q]) rfl ⟨hq,trivial⟩ (.of_nil λp hp=>by rw[List.mem_singleton.1 hp];exact hn) hk
theorem GX {ops:Array Oper} {Q:Exit->Act->World->Prop} {k n:Nat} {acc:dw} {o:Oper} {l:List Oper} {c:Operand} {args:Array Operand} {ats:Array TypeId} (ho:o.op=.call { callee:=.value c,args,argTypes:=ats }) (hg:o.guard=none) {p:Prop} {f:FuncId} {xs:List AV}
  (h:ax σ c args.toList=some (p,f,xs)) (hp:p) (hc:aH P f) (hx:aA xs=[]) {r:AV} (hf:ai P f xs [] λr' _=>r'=r) (hr:refs r=[]) {sk:List Loc×List Loc} (hs:((ew ops σ o c args.toList r).wr,(ew ops σ o c args.toList r).rd)=sk)
  (ha:σ.put o.dst r=σ') (hk:al P C ops Q k n (acc++[sk]) l σ'):al P C ops Q k n acc (o::l) σ:=
 ke (Av ho hg h hp hc hx hr hf) rfl hs Wq hk
theorem yc {ops:Array Oper} {Q:Exit->Act->World->Prop} {k n:Nat} {acc:dw} {l:List Oper} (hc:(np ops k acc&&yM n acc)=true) {j:Nat} (hj:k+acc.length=j) (h:bp P C ops Q j σ):al P C ops Q k n acc l σ:=by
 subst hj;exact ⟨[],l,[],rfl,rfl,trivial,trivial,by simpa[iM] using hc,h⟩
theorem ZS {ops:Array Oper} {Q:Exit->Act->World->Prop} {k:Nat} {l:List Oper} (hl:ops.toList.drop k=l) (h:al P C ops Q k σ.tm.length [] l σ):bp P C ops Q k σ:=by
 subst hl;obtain ⟨l1,l2,ps,h1,h2,h3,h4,h5,h6⟩:=h;rw[Bool.and_eq_true] at h5;simp only[List.nil_append] at h5;refine Fy (l:=l1) (ps:=ps) h5.1 h2 (λi hi=>?_) (λi q hq b hb hn=>h4.get i q hq b hb hn) h3 (by simpa using h6);rw[<-Array.getElem?_toList,<-List.getElem?_drop,h1,YU z8]
theorem vG (hT:TabOK P T) {ops:Array Oper} {Q:Exit->Act->World->Prop} {k:Nat} {o:Oper} (ho:ops[k]? = some o) (hc:Region.ready .any ops (bj ops.size k)=[k]) (hg:o.guard=none) {p:Prop} (h:ey T σ o.dst o.op=some (p,σ')) (hp:p)
  {j:Nat} (hj:k+1=j) (hk:bp P C ops Q j σ'):bp P C ops Q k σ:=by
 subst hj;refine yK ho hc (λa w K Q' hr hK=>?_) hk;obtain ⟨μ,S,hi⟩:=hr;rw[bk hi (show guardOf ops σ o.guard=some true from by rw[hg];rfl)];exact .inl (ch hT o h hp a w K Q' ⟨μ,S,hi⟩ hK)
theorem ff {ops:Array Oper} {Q:Exit->Act->World->Prop} {k:Nat} {o:Oper} (ho:ops[k]? = some o) (hc:Region.ready .any ops (bj ops.size k)=[k]) (hg:o.guard=none) (h:eK P C o σ σ')
  {j:Nat} (hj:k+1=j) (hk:bp P C ops Q j σ'):bp P C ops Q k σ:=by
 subst hj;refine yK ho hc (λa w K Q' hr hK=>?_) hk;obtain ⟨μ,S,hi⟩:=hr;rw[bk hi (show guardOf ops σ o.guard=some true from by rw[hg];rfl)];exact .inl (h a w K Q' ⟨μ,S,hi⟩ hK)
theorem dC {k:List It} {all:Array Oper} {o:Oper} {l:List Oper} {c:Operand} {args:Array Operand} {ats:Array TypeId} (ho:o.op=.call { callee:=.value c,args,argTypes:=ats }) (hg:o.guard=none) {p:Prop} {f:FuncId} {xs:List AV}
  (h:ax σ c args.toList=some (p,f,xs)) (hp:p) (hc:aH P f) (hx:aA xs=[]) {r:AV} (hf:ai P f xs [] λr' _=>r'=r) (hr:refs r=[]) (ha:σ.put o.dst r=σ') (hk:Cw P C Ret (.ops all l::k) σ'):Cw P C Ret (.ops all (o::l)::k) σ:=by
 subst ha;exact bC Qy (nN ho h hp hc hx hr hf) hk
theorem Fq {k:List It} {all:Array Oper} {o:Oper} {l:List Oper} {c:Operand} {args:Array Operand} {ats:Array TypeId} (ids:List Nat) (off:Nat) (ho:o.op=.call { callee:=.value c,args,argTypes:=ats }) (hg:o.guard=none) {p:Prop} {f:FuncId} {xs:List AV}
  (h:ax σ c args.toList=some (p,f,xs)) (hp:p) (hc:aH P f) {H K:List (Nat×Blk)} {r:AV} (hH:sub ids σ.hp=H)
  (hf:ai P f xs H λr' H'=>r'=r/\∀id b,aa K id=some b->aa H' id=some b)
  (hck:(aA xs).all ids.contains=true) (hc1:(H.all λp=>(av p.2).all ids.contains)=true) (hc2:((del ids σ.hp).all λp=>(av p.2).all λi=>!ids.contains i)=true)
  (hc3:closed K (refs r)=true) (hc4:(K.all λp=>(aa σ.hp (p.1+off)).isNone)=true) (hτ:(⟨σ.tm.map (iP ids),sh off K++del ids σ.hp⟩:St).put o.dst (ren off r)=σ')
  (hk:Cw P C Ret (.ops all l::k) σ'):Cw P C Ret (.ops all (o::l)::k) σ:=
 bC Qy (uM ho h hp hc ids off hH hck hc1 hc2 hc3 hc4 hf hτ) hk
theorem CE (hT:TabOK P T) (n:Nat) {k:List It} {all:Array Oper} {l l1 l2:List Oper} {p:Prop} (h1:l.take n=l1) (h2:l.drop n=l2) (h:jR T all l1 σ=some (p,[],σ')) (hp:p) (hk:Cw P C Ret (.ops all l2::k) σ'):Cw P C Ret (.ops all l::k) σ:=by
 subst h1 h2;intro a w hr;have:=kW (P:=P) (C:=C) hT all (l.drop n) (l.take n) σ (Q:=aft (eC C Ret) (sem P C (eC C Ret) k)) h hp (λa w hr=>hk a w hr);rw[List.take_append_drop] at this;exact this a w hr
theorem Az (hT:TabOK P T) (m:Nat) {ops:Array Oper} {Q:Exit->Act->World->Prop} {k n:Nat} {acc:dw} {l l1 l2:List Oper} {p:Prop} {ps:List Sp} (h1:l.take m=l1) (h2:l.drop m=l2) (h:lO T ops l1 σ=some (p,ps,[],σ')) (hp:p) {sk:dw} (hs:iM ps=sk)
  (hk:al P C ops Q k n (acc++sk) l2 σ'):al P C ops Q k n acc l σ:=by
 subst hs h1 h2;obtain ⟨g1,g2,g3⟩:=pR h;obtain ⟨q1,k1,k2⟩:=jI (P:=P) (C:=C) hT ops (l.take m) σ h hp (l2:=[]) (ps2:=[]) trivial w8;simp only[List.append_nil] at k1 k2;subst k1;have:=sR (l1:=l.take m) (l:=l.drop m) (by simpa using g1) k2 (.of_nil λp hp=>by
  obtain ⟨i,hi⟩:=YC hp;exact g3 i p hi) (by rw[g2];exact hk)
 rwa [List.take_append_drop] at this
end
end Go.Eng
namespace Go.Eng
section
variable {P:Program}
theorem Gw {μ:Nat->Option Nat} {S:Nat->Prop} {w:World} {v:Value} {id s off len e:Nat} {rows:List (List AV)} (hv:Rd μ S w v (.osl id s off len)) (hB:cJ μ S w id (.cells e s rows))
  (hp:(rows.all λrow=>row.all AV.aT)=true) (hle:off+len<=rows.length):RdP (λb=>S b\/μ id=some b) w v (.sl ((rows.drop off).take len)):=by
 have hpure:∀(i:Nat) row,rows[i]? = some row->∀(j:Nat) x,row[j]? = some x->x.aT=true:=λi row hi j x hj=>List.all_eq_true.1 (List.all_eq_true.1 hp row (W6 hi)) x (W6 hj)
 obtain ⟨A,cap,rfl,hc,h⟩:=hv.bT;have hl:((rows.drop off).take len).length=len:=by simp;omega
 rcases h with ⟨rfl,h2⟩ | ⟨g,e',n,h1,rfl,h3,h4⟩
 ·exact .sl A 0 cap _ s 0 0 (λ_ _=>undef) hl hc (λrow h=>by simp at h) (λh=>by omega) (λi j h=>by omega) (λi row h=>by simp at h)
 ·rcases hB with ⟨_,k2⟩ | ⟨g',c,k1,k2,k3,k4,k5⟩
  ·rw[k2] at h1;cases h1
  ·rw[k1] at h1;injection h1 with h1;subst h1
   refine .sl _ len cap _ s g' (off*s) (λi j=>c.getD ((off+i)*s+j) undef) hl hc (λrow h=>k4 row (Yb (YJ h))) (λ_=>⟨rfl,.inr k1⟩) (λi' j hi' hj=>?_) (λi' row h j x hx=>?_)
   ·have hlt:(off+i')*s+s<=rows.length*s:=by
     have:=YM s (show off+i'+1<=rows.length by omega)
     rwa [Y5] at this
    rw[show off*s+(i'*s+j)=(off+i')*s+j from by rw[Nat.add_mul];omega,cell_of k2,Array.getD_eq_getD_getElem?,YK z8];rfl
   ·rw[YW] at h;split at h
    ·rw[List.getElem?_drop] at h;exact ((k5 _ row h j x hx).toP (hpure _ _ h _ _ hx)).mono (aI.refl _ _) (λ_ h=>.inl h)
    ·cases h
theorem ai.read {f:FuncId} {args:List AV} {H:List (Nat×Blk)} {id s e:Nat} {rows:List (List AV)} (h:ai P f args H λr H'=>r=.osl id s 0 rows.length/\∀i b,aa [(id,.cells e s rows)] i=some b->aa H' i=some b)
  (hp:(rows.all λrow=>row.all AV.aT)=true):ai P f args H λr _=>r=.sl rows:=by
 intro R0 μ w0 vs hl ha hH hR;refine (h R0 μ w0 vs hl ha hH hR).mono ?_;rintro e' w' ⟨v,r,H',μ',S',rfl,⟨rfl,hb⟩,h4,h5,h6,h7,h8⟩;have hb:=hb id (.cells e s rows) (by simp only[aa,if_true]);have hrd:=Gw h4 (h5.blk id _ hb) hp z8;simp only[List.drop_zero,W7] at hrd;refine ⟨v,_,[],λ_=>none,_,rfl,rfl,.pure hrd,⟨λi b h=>by simp[aa] at h,λi g h=>Qs,λi j g h=>Qs,h5.glob.nil⟩,h6,λi g h=>Qs,λb hb'=>?_⟩
 rcases hb' with h | h
 ·exact h8 b h
 ·refine ⟨(h5.dom id b h).2.2,?_⟩
  rcases h7 id b h with h | h
  ·exact .inr (.inl h)
  ·exact .inr (.inr h)
end
end Go.Eng
