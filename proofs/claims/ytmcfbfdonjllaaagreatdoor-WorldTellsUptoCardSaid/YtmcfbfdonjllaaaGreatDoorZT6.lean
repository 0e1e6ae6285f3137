/- Texts of this claim, part 6: EngT, EngU, EngV, EngW, EngZ, EngS, Mod, EngQ, Bas, EngAA. No condition. -/
import Derived.Test.YtmcfbfdonjllaaaGreatDoorZT5
import Derived.WalkSpells
import Derived.ReadAgain
import Derived.ChangeSame
import Derived.ChangeBears
import Derived.OpenShut
import Derived.RowKit
import Derived.WalkKit
import Derived.ProofKit
import Derived.Test.YtmcfbfdonjllaaaGreatDoorRows
import Derived.JoinedCond
set_option maxRecDepth 10000
set_option maxHeartbeats 4000000
set_option linter.unusedSimpArgs false
set_option linter.unusedVariables false
namespace Go.Eng
section
variable {P:Program} {T:Tab} {C:Ctx} {σ σ':St} {Ret:St->Prop} {k:List It}
theorem lC (hT:TabOK P T) {all:Array Oper} {o:Oper} {l:List Oper} {t:TypeId} {x y:Operand} {ty e:TypeId} {rows:List (List AV)} (ho:o.op=.binOp .eql t x y ty) (hg:o.guard=none) (ht:T.und t=.sl e)
  (hx:evS σ x=(True,.sl rows)) (hy:evS σ y=(True,.nils)) (h:∀b,(b=true->rows=[])->Cw P C Ret (.ops all l::k) (σ.put o.dst (.bool b))):Cw P C Ret (.ops all (o::l)::k) σ:=by
 intro a w ⟨μ,S,hi⟩;have hv:=hi.evS x s6;have hu:=hi.evS y Qi;rw[hx] at hv;rw[hy] at hu;obtain ⟨A,cap,size,g,off,vals,e1,hc,hs',hA,hcell,hr⟩:=hv.gk.gk;have e2:=hu.fN;have hty:P.underlying t=some (.slice e):=by have:=hT.und t;rw[ht] at this;exact this
 show wpList P all _ (o::l) a w
 unfold wpList;rw[bk hi (show guardOf all σ o.guard=some true from by rw[hg];rfl)];refine .inl ?_;unfold Oper.wp;have hrun:(execOp a.eval o).run P w=.ok (.value (.bool A.isNone)) w:=by
  simp only[execOp,ho,e1,e2,eqGuard_at_slice,pure_bind,Sem.run_bind,Lib.run_eql_slice_nil w t e A rows.length cap 0 0 hty,Result.andThen_ok];rfl
 rw[hrun];refine h A.isNone (λhb=>?_) _ _ ⟨μ,S,hi.put o.dst (.pure (.bool _))⟩
 rcases Nat.eq_zero_or_pos rows.length with h0 | h0
 ·exact List.eq_nil_of_length_eq_zero h0
 ·rw[(hA h0).1] at hb;cases hb
def wk (x y:AV):Prop:=y=.any\/x=y\/(x=.nils/\(y=.sl []\/∃id s off,y=.osl id s off 0))
theorem Rd.wk {μ:Nat->Option Nat} {S:Nat->Prop} {w:World} {v:Value} {x y:AV} (h:Rd μ S w v x) (hw:wk x y):Rd μ S w v y:=by
 rcases hw with rfl | rfl | ⟨rfl,rfl | ⟨id,s,off,rfl⟩⟩
 ·exact .any v
 ·exact h
 ·obtain rfl:=h.fN;exact .pure (.sl none 0 0 [] 0 0 0 (λ_ _=>undef) rfl (Wt _) (λrow h=>by cases h) (λh=>by omega) (λi j h=>by omega) (λi row h=>by simp at h))
 ·obtain rfl:=h.fN;exact .osl id s off 0 0 none (Wt _) (.inl ⟨rfl,rfl⟩)
theorem ae.wk {f:FuncId} {args:List AV} {H:List (Nat×Blk)} {post:AV->List (Nat×Blk)->Prop} (h:ae P f args H λr H'=>∃r',wk r r'/\post r' H'):ae P f args H post:=
 λR0 μ w0 vs hl ha hH hR=>(h R0 μ w0 vs hl ha hH hR).mono λ_ _ ⟨v,_,H',μ',S',h1,⟨r',h2,h3⟩,h4,h5⟩=>⟨v,r',H',μ',S',h1,h3,h4.wk h2,h5⟩
theorem ZF (hT:TabOK P T) {f:FuncId} {fn:Func} {c:Code} {args:List AV} {H:List (Nat×Blk)} {post:AV->List (Nat×Blk)->Prop}
  (hf:P.funcs[f]? = some fn) (hb:fn.body=some c)
  (h:∀C:Ctx,Cw P C (λs=>∃p r,uw T s fn.results.toList=some (p,r)/\p/\∃r',Eng.wk r r'/\post r' s.hp) [.code c] ⟨args++List.replicate (fn.ntmps-args.length) .any,H⟩):ae P f args H post:=
 .wk (Dn hT hf hb h)
def pj:List AV->List AV->Prop
 | [],[]=>True
 | x::l,y::m=>wk x y/\pj l m
 | _,_=>False
theorem nV:∀{l m:List AV},pj l m->l.length=m.length/\∀(t:Nat) y,m[t]? = some y->∃x,l[t]? = some x/\wk x y
 | [],[],_=>⟨rfl,λt y h=>by simp at h⟩
 | x::l,y::m,h=>by
  obtain ⟨h1,h2⟩:=nV h.2;refine ⟨by simp[h1],λt z hz=>?_⟩;cases t with
  | zero=>
   simp only[List.getElem?_cons_zero,Option.some.injEq] at hz;subst hz;exact ⟨x,rfl,h.1⟩
  | succ t=>simpa using h2 t z Q4
 | [],_::_,h=>h.elim
 | _::_,[],h=>h.elim
def zd:Blk->Prop
 | .cells _ _ rows=>rows=[]
 | .map _=>False
 | .iter ..=>False
 | .cap ..=>False
 | .pin ..=>False
def GI (H:List (Nat×Blk)):List (Nat×Blk)->Prop
 | []=>True
 | (i,b)::r=>(aa H i=some b\/(aa H i=none/\zd b))/\GI H r
theorem yG {H:List (Nat×Blk)}:∀{K:List (Nat×Blk)} {i:Nat} {b:Blk},GI H K->aa K i=some b->aa H i=some b\/(aa H i=none/\zd b)
 | (j,c)::r,i,b,h,hb=>by
  simp only[aa] at hb;split at hb
  ·rename_i e;subst e;injection hb with hb;subst hb;exact h.1
  ·exact yG h.2 hb
theorem ZU {l m:List AV} {H K:List (Nat×Blk)} (h:pj l m) (hK:GI H K) (hc:closed K (aC m)=true):Le C ⟨l,H⟩ ⟨m,K⟩:=by
 intro a w ⟨μ,S,hi⟩;obtain ⟨h1,h2⟩:=nV h;simp only[closed,Bool.and_eq_true] at hc;have hr:∀i,i∈aC m->(aa K i).isSome=true:=λi hi=>List.all_eq_true.1 hc.1 i hi
 have hcl:∀i b,aa K i=some b->∀j,j∈aB b->(aa K j).isSome=true:=λi b hb j hj=>List.all_eq_true.1 (List.all_eq_true.1 hc.2 _ (bf hb)) j hj
 let μ2:Nat->Option Nat:=λi=>if (aa K i).isSome=true then μ i else none
 have m2:∀{i g},μ2 i=some g->μ i=some g/\(aa K i).isSome=true:=fun {i g} hg=>by
  simp only[μ2] at hg;split at hg
  ·exact ⟨hg,by assumption⟩
  ·cases hg
 refine ⟨μ2,S,by rw[hi.size];exact h1,hi.defers,λt y hy=>?_,λi b hb=>?_,λi g hg=>?_,λi j g hg hg'=>hi.inj i j g (m2 hg).1 (m2 hg').1,hi.frm,hi.sb⟩
 ·obtain ⟨x,hx,hw⟩:=h2 t y hy;refine ((hi.tm t x hx).wk hw).less λi hi' g hg=>?_
  simp only[μ2];rw[if_pos (hr i (a_ hy hi'))];exact hg
 ·rcases yG hK hb with h | ⟨h,he⟩
  ·refine (hi.hp i b h).less (by simp only[μ2];rw[hb];rfl) λj hj g hg=>?_
   simp only[μ2];rw[if_pos (hcl i b hb j hj)];exact hg
  ·cases b with
   | cells e s rows=>
    refine .inl ⟨he,?_⟩;simp only[μ2];rw[hb];cases e:μ i with
    | none=>rfl
    | some g=>
     obtain ⟨⟨c,h'⟩,_⟩:=hi.dom i g e;simp only at h';rw[h] at h';cases h'
   | map kvs=>exact he.elim
   | iter kvs seen=>exact he.elim
   | cap id' s N=>exact he.elim
   | pin id' g' t n=>exact he.elim
 ·obtain ⟨k1,k2⟩:=m2 hg;obtain ⟨_,k3⟩:=hi.dom i g k1;exact ⟨YR.1 k2,k3⟩
mutual
def frz (id s:Nat) (rows:List (List AV)):AV->AV
 | .osl i s' off len=>if i=id then (if s'=s/\off+len≤rows.length then .sl ((rows.drop off).take len) else .any) else .osl i s' off len
 | .ptr i s' row off=>if i=id then (if s'=s/\row<rows.length then .rp (rows.getD row []) off else .any) else .ptr i s' row off
 | .mp i=>if i=id then .any else .mp i
 | .exs i s' o n c=>if i=id then .any else .exs i s' o n c
 | .agg cells=>.agg (dB id s rows cells)
 | .tup vs=>.tup (dB id s rows vs)
 | .fn f caps=>.fn f (dB id s rows caps)
 | .cnd c v=>.cnd c (frz id s rows v)
 | x=>x
def dB (id s:Nat) (rows:List (List AV)):List AV->List AV
 | []=>[]
 | x::r=>frz id s rows x::dB id s rows r
end
theorem jK (id s:Nat) (rows:List (List AV)):∀l,dB id s rows l=l.map (frz id s rows)
 | []=>rfl
 | x::r=>by simp[dB,jK id s rows r]
def jt (id s:Nat) (rows:List (List AV)):List (Nat×Blk)->List (Nat×Blk)
 | []=>[]
 | (i,.cells e z R)::r=>if i=id then jt id s rows r else (i,.cells e z (R.map (dB id s rows)))::jt id s rows r
 | (i,.map kvs)::r=>if i=id then jt id s rows r else (i,.map kvs)::jt id s rows r
 | (i,.iter kvs seen)::r=>if i=id then jt id s rows r else (i,.iter kvs seen)::jt id s rows r
 | (i,.cap j z N)::r=>if i=id then jt id s rows r else (i,if j=id then .cells 0 0 [] else .cap j z N)::jt id s rows r
 | (i,.pin j g z N)::r=>if i=id then jt id s rows r else (i,if j=id then .cells 0 0 [] else .pin j g z N)::jt id s rows r
def FP (id s:Nat) (rows:List (List AV)):Blk->Blk
 | .cells e z R=>.cells e z (R.map (dB id s rows))
 | .map kvs=>.map kvs
 | .iter kvs seen=>.iter kvs seen
 | .cap j z N=>if j=id then .cells 0 0 [] else .cap j z N
 | .pin j g z N=>if j=id then .cells 0 0 [] else .pin j g z N
theorem gj (id s:Nat) (rows:List (List AV)) (i:Nat):∀H,aa (jt id s rows H) i=if i=id then none else (aa H i).map (FP id s rows)
 | []=>by simp[jt,aa]
 | (j,.cells e z R)::r=>by
  have ih:=gj id s rows i r;unfold jt
  by_cases h:j=id
  ·subst h;rw[if_pos rfl,ih]
   by_cases h2:i=j
   ·rw[if_pos h2,if_pos h2]
   ·rw[if_neg h2,if_neg h2];simp only[aa];rw[if_neg (λh=>h2 h.symm)]
  ·rw[if_neg h];simp only[aa]
   by_cases h2:j=i
   ·subst h2;rw[if_pos rfl,if_neg h,if_pos rfl];rfl
   ·rw[if_neg h2,if_neg h2];exact ih
 | (j,.map kvs)::r=>by
  have ih:=gj id s rows i r;unfold jt
  by_cases h:j=id
  ·subst h;rw[if_pos rfl,ih]
   by_cases h2:i=j
   ·rw[if_pos h2,if_pos h2]
   ·rw[if_neg h2,if_neg h2];simp only[aa];rw[if_neg (λh=>h2 h.symm)]
  ·rw[if_neg h];simp only[aa]
   by_cases h2:j=i
   ·subst h2;rw[if_pos rfl,if_neg h,if_pos rfl];rfl
   ·rw[if_neg h2,if_neg h2];exact ih
 | (j,.iter kvs seen)::r=>by
  have ih:=gj id s rows i r;unfold jt
  by_cases h:j=id
  ·subst h;rw[if_pos rfl,ih]
   by_cases h2:i=j
   ·rw[if_pos h2,if_pos h2]
   ·rw[if_neg h2,if_neg h2];simp only[aa];rw[if_neg (λh=>h2 h.symm)]
  ·rw[if_neg h];simp only[aa]
   by_cases h2:j=i
   ·subst h2;rw[if_pos rfl,if_neg h,if_pos rfl];rfl
   ·rw[if_neg h2,if_neg h2];exact ih
 | (j,.cap k z N)::r=>by
  have ih:=gj id s rows i r;unfold jt
  by_cases h:j=id
  ·subst h;rw[if_pos rfl,ih]
   by_cases h2:i=j
   ·rw[if_pos h2,if_pos h2]
   ·rw[if_neg h2,if_neg h2];simp only[aa];rw[if_neg (λh=>h2 h.symm)]
  ·rw[if_neg h];simp only[aa]
   by_cases h2:j=i
   ·subst h2;rw[if_pos rfl,if_neg h,if_pos rfl];rfl
   ·rw[if_neg h2,if_neg h2];exact ih
 | (j,.pin k q z N)::r=>by
  have ih:=gj id s rows i r;unfold jt
  by_cases h:j=id
  ·subst h;rw[if_pos rfl,ih]
   by_cases h2:i=j
   ·rw[if_pos h2,if_pos h2]
   ·rw[if_neg h2,if_neg h2];simp only[aa];rw[if_neg (λh=>h2 h.symm)]
  ·rw[if_neg h];simp only[aa]
   by_cases h2:j=i
   ·subst h2;rw[if_pos rfl,if_neg h,if_pos rfl];rfl
   ·rw[if_neg h2,if_neg h2];exact ih
theorem RdP.Ib {S:Nat->Prop} {w:World} {v:Value} {x:AV} (h:RdP S w v x) (id s:Nat) (rows:List (List AV)):frz id s rows x=x:=by
 have key:∀(l:List AV),(∀(j:Nat) x,l[j]? = some x->frz id s rows x=x)->dB id s rows l=l:=by
  intro l
  induction l with
  | nil=>intro _;rfl
  | cons y r ih=>
   intro h;simp only[dB];rw[h 0 y rfl,ih (λj x hj=>h (j+1) x QC)]
 induction h with
 | fn f vals caps hl hr ih=>simp only[frz];rw[key caps ih]
 | agg cs cells hl hr ih=>simp only[frz];rw[key cells ih]
 | _=>rfl
theorem nQ {id s:Nat} {rows:List (List AV)} {R':Value->AV->Prop} {vals:Nat->Value} {cells:List AV} (h:∀j x,cells[j]? = some x->R' (vals j) (frz id s rows x)) :
  ∀j x,(dB id s rows cells)[j]? = some x->R' (vals j) x:=by
 intro j x hx;rw[jK,Wm] at hx;cases e:cells[j]? with
 | none=>rw[e] at hx;cases hx
 | some y=>
  rw[e] at hx;simp only[Option.map_some,Option.some.injEq] at hx;subst hx;exact h j y e
theorem zm {l:List AV} {H:List (Nat×Blk)} {id e s:Nat} {rows:List (List AV)} (hb:aa H id=some (.cells e s rows)) (hp:(rows.all λrow=>row.all AV.aY)=true) {μ:Nat->Option Nat} {S:Nat->Prop} {a:Act} {w:World} (hi:Inv C μ S ⟨l,H⟩ a w) :
  Inv C (upd μ id none) (λb=>S b\/μ id=some b) ⟨l.map (frz id s rows),jt id s rows H⟩ a w:=by
 have hB:=hi.hp id _ hb;have hpure:∀(i:Nat) row,rows[i]? = some row->∀(j:Nat) x,row[j]? = some x->x.aY=true:=λi row hi j x hj=>List.all_eq_true.1 (List.all_eq_true.1 hp row (Wn hi)) x (Wn hj)
 let S2:Nat->Prop:=λb=>S b\/μ id=some b
 let μ2:Nat->Option Nat:=upd μ id none
 have hS:∀b,S b->S2 b:=λb h=>.inl h
 have rd:∀{v:Value} {x:AV},Rd μ S w v x->Rd μ2 S2 w v (frz id s rows x):=by
  intro v x h
  induction h with
  | any v=>exact .any v
  | pure h=>rw[h.Ib];exact .pure (h.mono (aK.refl _ _) hS)
  | agg cs cells hl hr ih=>simp only[frz];exact .agg cs _ Zw (nQ (R':=λv x=>Rd μ2 S2 w v x) (vals:=λj=>cs.getD j undef) ih)
  | tup cs cells hl hr ih=>simp only[frz];exact .tup cs _ Zw (nQ (R':=λv x=>Rd μ2 S2 w v x) (vals:=λj=>cs.getD j undef) ih)
  | fn f vals cells hl hr ih=>simp only[frz];exact .fn f vals _ Zw (nQ (R':=λv x=>Rd μ2 S2 w v x) (vals:=λj=>vals.getD j undef) ih)
  | ptr i size row o g hg=>
   simp only[frz];split
   ·rename_i he;subst he;split
    ·rename_i hc;obtain ⟨rfl,hrow⟩:=hc
     rcases hB with ⟨rfl,_⟩ | ⟨g',c,k1,k2,k3,k4,k5⟩
     ·simp at hrow
     ·rw[hg] at k1;injection k1 with k1;subst k1
      have hr:=Bd hrow;have hlen:=k4 _ (Wn hr);have hlt:=gY (size:=size) hr;refine .pure (.rp g (row*size) o _ (λj=>c.getD (row*size+j) undef) (.inr hg) (λj hj=>?_) (λj x hx=>?_))
      ·rw[cell_of k2,Wk,Ws z8];rfl
      ·exact ((k5 _ _ hr j x hx).toP (hpure _ _ hr _ _ hx)).mono (aK.refl _ _) hS
    ·exact .any _
   ·rename_i he;exact .ptr i size row o g QF
  | osl i size o len cap A hc h=>
   simp only[frz];split
   ·rename_i he;subst he;split
    ·rename_i hcond;obtain ⟨rfl,hle⟩:=hcond;have hl:((rows.drop o).take len).length=len:=by simp;omega
     rcases h with ⟨rfl,h2⟩ | ⟨g,e',n,h1,rfl,h3,h4⟩
     ·exact .pure (.sl A 0 cap _ size 0 0 (λ_ _=>undef) hl hc (λrow h=>by simp at h) (λh=>by omega) (λi j h=>by omega) (λi row h=>by simp at h))
     ·rcases hB with ⟨_,k2⟩ | ⟨g',c,k1,k2,k3,k4,k5⟩
      ·rw[k2] at h1;cases h1
      ·rw[k1] at h1;injection h1 with h1;subst h1
       refine .pure (.sl _ len cap _ size g' (o*size) (λi j=>c.getD ((o+i)*size+j) undef) hl hc (λrow h=>k4 row (YB (Wx h))) (λ_=>⟨rfl,.inr k1⟩) (λi' j hi' hj=>?_) (λi' row h j x hx=>?_))
       ·have hlt:(o+i')*size+size≤rows.length*size:=by
         have:=Wz size (show o+i'+1≤rows.length by omega)
         rwa [Nat.succ_mul] at this
        rw[show o*size+(i'*size+j)=(o+i')*size+j from by rw[YM];omega,cell_of k2,Wk,Ws z8];rfl
       ·rw[W4] at h;split at h
        ·rw[YI] at h;exact ((k5 _ row h j x hx).toP (hpure _ _ h _ _ hx)).mono (aK.refl _ _) hS
        ·cases h
    ·exact .any _
   ·rename_i he;refine .osl i size o len cap A hc ?_
    rcases h with h | ⟨g,e',n,h1,h2,h3,h4⟩
    ·exact .inl h
    ·exact .inr ⟨g,e',n,by simp only[μ2,upd];rw[if_neg he];exact h1,h2,h3,h4⟩
  | mp i g hg=>
   simp only[frz];split
   ·exact .any _
   ·rename_i he;exact .mp i g QF
  | exs i size o len cap g e n hc hg hr hn=>
   simp only[frz];split
   ·exact .any _
   ·rename_i he;exact .exs i size o len cap g e n hc QF hr hn
  | cndT v x h ih=>exact .cndT v _ ih
  | cndF x=>exact .cndF _
 have m2:∀{i g},μ2 i=some g->i≠id/\μ i=some g:=fun {i g} hg=>by
  simp only[μ2,upd] at hg;split at hg
  ·cases hg
  ·exact ⟨by assumption,hg⟩
 refine ⟨by simp[hi.size],hi.defers,λt x hx=>?_,λi b hb'=>?_,λi g hg=>?_,λi j g h1 h2=>hi.inj i j g (m2 h1).2 (m2 h2).2,hi.frm,λb hb'=>?_⟩
 ·simp only[Wm] at hx;cases e:l[t]? with
  | none=>rw[e] at hx;cases hx
  | some y=>
   rw[e] at hx;simp only[Option.map_some,Option.some.injEq] at hx;subst hx;exact rd (hi.tm t y e)
 ·simp only at hb';rw[gj] at hb';split at hb'
  ·cases hb'
  ·rename_i he;cases e1:aa H i with
   | none=>rw[e1] at hb';cases hb'
   | some b0=>
    rw[e1] at hb';simp only[Option.map_some,Option.some.injEq] at hb';subst hb';have hμ:μ2 i=μ i:=by simp only[μ2,upd];rw[if_neg he]
    have:=hi.hp i b0 e1;cases b0 with
    | cells e' z R=>
     rcases this with ⟨rfl,h2⟩ | ⟨g,c,h1,h2,h3,h4,h5⟩
     ·exact .inl ⟨rfl,hμ.trans h2⟩
     ·refine .inr ⟨g,c,hμ.trans h1,h2,by simpa using h3,λrow hrow=>?_,λi' row hi' j x hx=>?_⟩
      ·obtain ⟨r,hr,rfl⟩:=Wq.1 hrow;rw[jK,List.length_map];exact h4 r hr
      ·rw[Wm] at hi';cases e2:R[i']? with
       | none=>rw[e2] at hi';cases hi'
       | some r=>
        rw[e2] at hi';simp only[Option.map_some,Option.some.injEq] at hi';subst hi';exact nQ (R':=λv x=>Rd μ2 S2 w v x) (vals:=λj=>c.getD (i'*z+j) undef) (λj x hx=>rd (h5 i' r e2 j x hx)) j x hx
    | map kvs=>
     obtain ⟨g,es,clk,vals,h1,h2,h3,h4⟩:=this;exact ⟨g,es,clk,vals,hμ.trans h1,h2,h3,λp hp'=>(h4 p hp').mono (aK.refl _ _) hS⟩
    | iter kvs seen=>
     obtain ⟨g,es,clk,vals,had,h1,h2,h4⟩:=this;obtain ⟨m,k1,k2,k3⟩:=h2.lies;exact ⟨g,es,clk,vals,had,hμ.trans h1,⟨⟨m,k1,hS _ k2,k3⟩,h2.map,h2.last,h2.had⟩,λp hp'=>(h4 p hp').mono (aK.refl _ _) hS⟩
    | cap k z N=>
     obtain ⟨h1,g,e,h2,h3⟩:=this;simp only[FP];split
     ·exact .inl ⟨rfl,hμ.trans h1⟩
     ·rename_i hk;refine ⟨hμ.trans h1,g,e,?_,h3⟩;simp only[upd];rw[if_neg hk];exact h2
    | pin k g z N=>
     obtain ⟨h1,h2,h3⟩:=this;simp only[FP];split
     ·exact .inl ⟨rfl,hμ.trans h1⟩
     ·rename_i hk;refine ⟨hμ.trans h1,?_,h3⟩;simp only[upd];rw[if_neg hk];exact h2
 ·obtain ⟨k1,k2⟩:=m2 hg;obtain ⟨⟨b,h1⟩,h2,h3,h4⟩:=hi.dom i g k2;refine ⟨⟨FP id s rows b,?_⟩,h2,?_,h4⟩
  ·simp only at h1 ⊢;rw[gj,if_neg k1,h1];rfl
  ·rintro (h | h)
   ·exact h3 h
   ·exact k1 (hi.inj _ _ _ k2 h)
 ·rcases hb' with h | h
  ·exact hi.sb b h
  ·obtain ⟨_,h2,_,h4⟩:=hi.dom id b h;exact ⟨h4,.inr h2⟩
theorem BM {l:List AV} {H:List (Nat×Blk)} {id e s:Nat} {rows:List (List AV)} (hb:aa H id=some (.cells e s rows)) (hp:(rows.all λrow=>row.all AV.aY)=true) :
  Le C ⟨l,H⟩ ⟨l.map (frz id s rows),jt id s rows H⟩:=λ_ _ ⟨_,_,hi⟩=>⟨_,_,zm hb hp hi⟩
theorem ZZ {l:List AV} {H:List (Nat×Blk)} (id:Nat) {e s:Nat} {rows:List (List AV)} (hb:aa H id=some (.cells e s rows)) (hp:(rows.all λrow=>row.all AV.aY)=true)
  (h:Cw P C Ret k ⟨l.map (frz id s rows),jt id s rows H⟩):Cw P C Ret k ⟨l,H⟩:=ag (BM hb hp) h
end
end Go.Eng
namespace Go.Eng
section
variable {P:Program} {T:Tab} {C:Ctx} {σ σ' s:St} {Ret:St->Prop}
theorem dw {c:Operand} {args:List Operand} (h:∀x,x∈fB σ c++aS σ args->aP σ s x):ax s c args=ax σ c args:=by
 unfold ax;rw[cC (λx hx=>h x (W2 _ hx)),ng (λx hx=>h x (Ww _ hx))]
def ee (ops:Array Oper) (σ:St) (o:Oper) (c:Operand) (args:List Operand) (r:AV):Sp:=⟨o.dst,r,[],bN ops o.guard++(fB σ c++aS σ args)⟩
theorem kW (ops:Array Oper) (σ:St) (o:Oper) (c:Operand) (args:List Operand) (r:AV):(ee ops σ o c args r).app σ=σ.put o.dst r:=by simp[Sp.app,ee]
theorem gP {ops:Array Oper} {o:Oper} {x:AV} {rd:List Loc} {b:Bool} (hg:guardOf ops σ o.guard=some b) (hg0:b=true\/∃y,x=.cnd false y)
  (h:b=true->∀s,(∀l,l∈rd->aP σ s l)->eZ P C o s (s.put o.dst x)):Rob P C ops o ⟨o.dst,x,[],bN ops o.guard++rd⟩ σ:=by
 intro s ha _ a w K Q hr hK;have hg':guardOf ops s o.guard=some b:=by rw[gL (λx hx=>ha x (W2 _ hx))];exact hg
 obtain ⟨μ,S,hi⟩:=hr;rw[bk hi hg'];cases b with
 | true=>exact .inl (h rfl s (λl hl=>ha l (Ww _ hl)) a w K Q ⟨μ,S,hi⟩ hK)
 | false=>
  rcases hg0 with h | ⟨y,rfl⟩
  ·cases h
  ·exact hK _ _ ⟨μ,S,hi.put o.dst (.cndF y)⟩
theorem yh {ops:Array Oper} {o:Oper} {c:Operand} {args:Array Operand} {ats:Array TypeId} (ho:o.op=.call { callee:=.value c,args,argTypes:=ats }) (hg:o.guard=none) {p:Prop} {f:FuncId} {xs:List AV}
  (h:ax σ c args.toList=some (p,f,xs)) (hp:p) (hc:aJ P f) (hx:aC xs=[]) {r:AV} (hr:refs r=[]) (hf:ae P f xs [] λr' _=>r'=r):Rob P C ops o (ee ops σ o c args.toList r) σ:=
 gP (b:=true) Qt (.inl rfl) λ_ _ ha=>mM ho (by rw[dw ha];exact h) hp hc hx hr hf
def da:List Sp->St->Prop
 | [],_=>True
 | p::ps,σ=>(∀b,b∈p.new->Loc.blk b.1∉p.rd->aa σ.hp b.1=none)/\da ps (p.app σ)
theorem da.get:∀{ps:List Sp} {σ:St},da ps σ->∀(i:Nat) p,ps[i]? = some p->∀b,b∈p.new->Loc.blk b.1∉p.rd->aa (upto ps i σ).hp b.1=none
 | [],_,_,i,p,h,_,_,_=>by simp at h
 | q::ps,σ,hf,0,p,h,b,hb,hn=>by
  simp only[List.getElem?_cons_zero,Option.some.injEq] at h;subst h;exact hf.1 b hb hn
 | q::ps,σ,hf,i+1,p,h,b,hb,hn=>hf.2.get i p v8 b hb hn
theorem da.append:∀{ps qs:List Sp} {σ:St},da ps σ->da qs (cn ps σ)->da (ps++qs) σ
 | [],_,_,_,h=>h
 | _::_,_,_,h,h2=>⟨h.1,h.2.append h2⟩
theorem da.of_nil:∀{ps:List Sp} {σ:St},(∀p,p∈ps->p.new=[])->da ps σ
 | [],_,_=>trivial
 | p::ps,_,h=>⟨λb hb _=>(by rw[h p y7] at hb;cases hb),da.of_nil λq hq=>h q (by simp[hq])⟩
def al (P:Program) (C:Ctx) (ops:Array Oper) (Q:Exit->Act->World->Prop) (k n:Nat) (acc:du) (l:List Oper) (σ:St):Prop:=
 ∃l1 l2 ps,l=l1++l2/\l1.length=ps.length/\dt P C ops l1 ps σ/\da ps σ/\(mg ops k (acc++gu ps)&&Dh n (acc++gu ps))=true/\bp P C ops Q (k+acc.length+ps.length) (cn ps σ)
theorem nJ {ops:Array Oper}:∀{l1 l2:List Oper} {p1 p2:List Sp} {σ:St},l1.length=p1.length->dt P C ops l1 p1 σ->dt P C ops l2 p2 (cn p1 σ)->dt P C ops (l1++l2) (p1++p2) σ
 | [],_,[],_,_,_,_,h=>h
 | _::l1,_,_::p1,_,_,hl,h,h2=>⟨h.1,nJ Qj h.2 h2⟩
 | [],_,_::_,_,_,hl,_,_=>by simp at hl
 | _::_,_,[],_,_,hl,_,_=>by simp at hl
theorem mP:∀(p1 p2:List Sp) (σ:St),cn (p1++p2) σ=cn p2 (cn p1 σ)
 | [],_,_=>rfl
 | _::p1,p2,_=>mP p1 p2 _
theorem q_ {ops:Array Oper} {Q:Exit->Act->World->Prop} {k n:Nat} {acc:du} {l1 l:List Oper} {ps:List Sp} (hl:l1.length=ps.length) (hc:dt P C ops l1 ps σ) (hn:da ps σ)
  (h:al P C ops Q k n (acc++gu ps) l (cn ps σ)):al P C ops Q k n acc (l1++l) σ:=by
 obtain ⟨m1,m2,qs,rfl,h2,h3,h4,h5,h6⟩:=h;have e:acc++gu ps++gu qs=acc++gu (ps++qs):=by simp[gu]
 refine ⟨l1++m1,m2,ps++qs,by simp,by simp[hl,h2],nJ hl hc h3,hn.append h4,by rw[←e];exact h5,?_⟩;rw[mP];have e2:k+(acc++gu ps).length+qs.length=k+acc.length+(ps++qs).length:=by simp[gu];omega
 rw[←e2];exact h6
theorem Gz (hT:TabOK P T) {ops:Array Oper} {Q:Exit->Act->World->Prop} {k n:Nat} {acc:du} {l l':List Oper} {p:Prop} {ps:List Sp} (h:kP T ops l σ=some (p,ps,l',σ')) (hp:p) {sk:du} (hs:gu ps=sk)
  (hk:al P C ops Q k n (acc++sk) l' σ'):al P C ops Q k n acc l σ:=by
 subst hs;obtain ⟨h1,h2,h3⟩:=ow h;obtain ⟨l1,k1,k2⟩:=iT (P:=P) (C:=C) hT ops l σ h hp (l2:=[]) (ps2:=[]) trivial y7;simp only[List.append_nil] at k2;subst k1;refine q_ Q7 k2 (.of_nil λp hp=>?_) (by rw[h2];exact hk);obtain ⟨i,hi⟩:=Wu hp;exact h3 i p hi
theorem oz {ops:Array Oper} {Q:Exit->Act->World->Prop} {k n:Nat} {acc:du} {o:Oper} {l:List Oper} {q:Sp} (hq:Rob P C ops o q σ) (hn:∀b,b∈q.new->Loc.blk b.1∉q.rd->aa σ.hp b.1=none) {sk:List Loc×List Loc} (hs:(q.wr,q.rd)=sk) (ha:q.app σ=σ')
  (hk:al P C ops Q k n (acc++[sk]) l σ'):al P C ops Q k n acc (o::l) σ:=by
 subst hs ha;exact q_ (l1:=[o]) (ps:=[q]) rfl ⟨hq,trivial⟩ ⟨hn,trivial⟩ hk
theorem jn {ops:Array Oper} {Q:Exit->Act->World->Prop} {k n:Nat} {acc:du} {o:Oper} {l:List Oper} {q:Sp} (hq:Rob P C ops o q σ) (hn:q.new=[]) {sk:List Loc×List Loc} (hs:(q.wr,q.rd)=sk) (ha:q.app σ=σ')
  (hk:al P C ops Q k n (acc++[sk]) l σ'):al P C ops Q k n acc (o::l) σ:=by
 subst hs ha;exact q_ (l1:=[o]) (ps:=[q]) rfl ⟨hq,trivial⟩ (.of_nil λp hp=>by rw[List.mem_singleton.1 hp];exact hn) hk
theorem Ep {ops:Array Oper} {Q:Exit->Act->World->Prop} {k n:Nat} {acc:du} {o:Oper} {l:List Oper} {c:Operand} {args:Array Operand} {ats:Array TypeId} (ho:o.op=.call { callee:=.value c,args,argTypes:=ats }) (hg:o.guard=none) {p:Prop} {f:FuncId} {xs:List AV}
  (h:ax σ c args.toList=some (p,f,xs)) (hp:p) (hc:aJ P f) (hx:aC xs=[]) {r:AV} (hf:ae P f xs [] λr' _=>r'=r) (hr:refs r=[]) {sk:List Loc×List Loc} (hs:((ee ops σ o c args.toList r).wr,(ee ops σ o c args.toList r).rd)=sk)
  (ha:σ.put o.dst r=σ') (hk:al P C ops Q k n (acc++[sk]) l σ'):al P C ops Q k n acc (o::l) σ:=
 jn (yh ho hg h hp hc hx hr hf) rfl hs WV hk
theorem Gx {ops:Array Oper} {Q:Exit->Act->World->Prop} {k n:Nat} {acc:du} {l:List Oper} (hc:(mg ops k acc&&Dh n acc)=true) {j:Nat} (hj:k+acc.length=j) (h:bp P C ops Q j σ):al P C ops Q k n acc l σ:=by
 subst hj;exact ⟨[],l,[],rfl,rfl,trivial,trivial,by simpa[gu] using hc,h⟩
theorem ZS {ops:Array Oper} {Q:Exit->Act->World->Prop} {k:Nat} {l:List Oper} (hl:ops.toList.drop k=l) (h:al P C ops Q k σ.tm.length [] l σ):bp P C ops Q k σ:=by
 subst hl;obtain ⟨l1,l2,ps,h1,h2,h3,h4,h5,h6⟩:=h;rw[Bool.and_eq_true] at h5;simp only[List.nil_append] at h5;refine Dg (l:=l1) (ps:=ps) h5.1 h2 (λi hi=>?_) (λi q t hq hd=>?_) (λi q hq b hb hn=>h4.get i q hq b hb hn) h3 (by simpa using h6)
 ·rw[←YF,←YI,h1,W6 z8]
 ·have:=List.all_eq_true.1 h5.2 (q.wr,q.rd) (Wq.2 ⟨q,Wn hq,rfl⟩);have:=List.all_eq_true.1 this (.tm t) (yU hd);simpa using this
theorem tI (hT:TabOK P T) {ops:Array Oper} {Q:Exit->Act->World->Prop} {k:Nat} {o:Oper} (ho:ops[k]? = some o) (hc:Region.ready .any ops (aV ops.size k)=[k]) (hg:o.guard=none) {p:Prop} (h:ef T σ o.dst o.op=some (p,σ')) (hp:p)
  {j:Nat} (hj:k+1=j) (hk:bp P C ops Q j σ'):bp P C ops Q k σ:=by
 subst hj;refine wB ho hc (λa w K Q' hr hK=>?_) hk;obtain ⟨μ,S,hi⟩:=hr;rw[bk hi (show guardOf ops σ o.guard=some true from by rw[hg];rfl)];exact .inl (bY hT o h hp a w K Q' ⟨μ,S,hi⟩ hK)
theorem dY {ops:Array Oper} {Q:Exit->Act->World->Prop} {k:Nat} {o:Oper} (ho:ops[k]? = some o) (hc:Region.ready .any ops (aV ops.size k)=[k]) (hg:o.guard=none) (h:eZ P C o σ σ')
  {j:Nat} (hj:k+1=j) (hk:bp P C ops Q j σ'):bp P C ops Q k σ:=by
 subst hj;refine wB ho hc (λa w K Q' hr hK=>?_) hk;obtain ⟨μ,S,hi⟩:=hr;rw[bk hi (show guardOf ops σ o.guard=some true from by rw[hg];rfl)];exact .inl (h a w K Q' ⟨μ,S,hi⟩ hK)
theorem dG {k:List It} {all:Array Oper} {o:Oper} {l:List Oper} {c:Operand} {args:Array Operand} {ats:Array TypeId} (ho:o.op=.call { callee:=.value c,args,argTypes:=ats }) (hg:o.guard=none) {p:Prop} {f:FuncId} {xs:List AV}
  (h:ax σ c args.toList=some (p,f,xs)) (hp:p) (hc:aJ P f) (hx:aC xs=[]) {r:AV} (hf:ae P f xs [] λr' _=>r'=r) (hr:refs r=[]) (ha:σ.put o.dst r=σ') (hk:Cw P C Ret (.ops all l::k) σ'):Cw P C Ret (.ops all (o::l)::k) σ:=by
 subst ha;exact bP Qt (mM ho h hp hc hx hr hf) hk
theorem C9 {k:List It} {all:Array Oper} {o:Oper} {l:List Oper} {c:Operand} {args:Array Operand} {ats:Array TypeId} (ids:List Nat) (off:Nat) (ho:o.op=.call { callee:=.value c,args,argTypes:=ats }) (hg:o.guard=none) {p:Prop} {f:FuncId} {xs:List AV}
  (h:ax σ c args.toList=some (p,f,xs)) (hp:p) (hc:aJ P f) {H K:List (Nat×Blk)} {r:AV} (hH:sub ids σ.hp=H)
  (hf:ae P f xs H λr' H'=>r'=r/\∀id b,aa K id=some b->aa H' id=some b)
  (hck:(aC xs).all ids.contains=true) (hc1:(H.all λp=>(aB p.2).all ids.contains)=true) (hc2:((del ids σ.hp).all λp=>(aB p.2).all λi=>!ids.contains i)=true)
  (hc3:closed K (refs r)=true) (hc4:(K.all λp=>(aa σ.hp (p.1+off)).isNone)=true) (hτ:(⟨σ.tm.map (jQ ids),qB off K++del ids σ.hp⟩:St).put o.dst (ren off r)=σ')
  (hk:Cw P C Ret (.ops all l::k) σ'):Cw P C Ret (.ops all (o::l)::k) σ:=
 bP Qt (sQ ho h hp hc ids off hH hck hc1 hc2 hc3 hc4 hf hτ) hk
theorem AO (hT:TabOK P T) (n:Nat) {k:List It} {all:Array Oper} {l l1 l2:List Oper} {p:Prop} (h1:l.take n=l1) (h2:l.drop n=l2) (h:ja T all l1 σ=some (p,[],σ')) (hp:p) (hk:Cw P C Ret (.ops all l2::k) σ'):Cw P C Ret (.ops all l::k) σ:=by
 subst h1 h2;intro a w hr;have:=ke (P:=P) (C:=C) hT all (l.drop n) (l.take n) σ (Q:=aft (la C Ret) (sem P C (la C Ret) k)) h hp (λa w hr=>hk a w hr);rw[Yc] at this;exact this a w hr
theorem yp (hT:TabOK P T) (m:Nat) {ops:Array Oper} {Q:Exit->Act->World->Prop} {k n:Nat} {acc:du} {l l1 l2:List Oper} {p:Prop} {ps:List Sp} (h1:l.take m=l1) (h2:l.drop m=l2) (h:kP T ops l1 σ=some (p,ps,[],σ')) (hp:p) {sk:du} (hs:gu ps=sk)
  (hk:al P C ops Q k n (acc++sk) l2 σ'):al P C ops Q k n acc l σ:=by
 subst hs h1 h2;obtain ⟨g1,g2,g3⟩:=ow h;obtain ⟨q1,k1,k2⟩:=iT (P:=P) (C:=C) hT ops (l.take m) σ h hp (l2:=[]) (ps2:=[]) trivial y7;simp only[List.append_nil] at k1 k2;subst k1;have:=q_ (l1:=l.take m) (l:=l.drop m) (by simpa using g1) k2 (.of_nil λp hp=>by
  obtain ⟨i,hi⟩:=Wu hp;exact g3 i p hi) (by rw[g2];exact hk)
 rwa [Yc] at this
end
end Go.Eng
namespace Go.Eng
section
variable {P:Program}
theorem DY {μ:Nat->Option Nat} {S:Nat->Prop} {w:World} {v:Value} {id s off len e:Nat} {rows:List (List AV)} (hv:Rd μ S w v (.osl id s off len)) (hB:cQ μ S w id (.cells e s rows))
  (hp:(rows.all λrow=>row.all AV.aY)=true) (hle:off+len≤rows.length):RdP (λb=>S b\/μ id=some b) w v (.sl ((rows.drop off).take len)):=by
 have hpure:∀(i:Nat) row,rows[i]? = some row->∀(j:Nat) x,row[j]? = some x->x.aY=true:=λi row hi j x hj=>List.all_eq_true.1 (List.all_eq_true.1 hp row (Wn hi)) x (Wn hj)
 obtain ⟨A,cap,rfl,hc,h⟩:=hv.bL;have hl:((rows.drop off).take len).length=len:=by simp;omega
 rcases h with ⟨rfl,h2⟩ | ⟨g,e',n,h1,rfl,h3,h4⟩
 ·exact .sl A 0 cap _ s 0 0 (λ_ _=>undef) hl hc (λrow h=>by simp at h) (λh=>by omega) (λi j h=>by omega) (λi row h=>by simp at h)
 ·rcases hB with ⟨_,k2⟩ | ⟨g',c,k1,k2,k3,k4,k5⟩
  ·rw[k2] at h1;cases h1
  ·rw[k1] at h1;injection h1 with h1;subst h1
   refine .sl _ len cap _ s g' (off*s) (λi j=>c.getD ((off+i)*s+j) undef) hl hc (λrow h=>k4 row (YB (Wx h))) (λ_=>⟨rfl,.inr k1⟩) (λi' j hi' hj=>?_) (λi' row h j x hx=>?_)
   ·have hlt:(off+i')*s+s≤rows.length*s:=by
     have:=Wz s (show off+i'+1≤rows.length by omega)
     rwa [Nat.succ_mul] at this
    rw[show off*s+(i'*s+j)=(off+i')*s+j from by rw[YM];omega,cell_of k2,Wk,Ws z8];rfl
   ·rw[W4] at h;split at h
    ·rw[YI] at h;exact ((k5 _ row h j x hx).toP (hpure _ _ h _ _ hx)).mono (aK.refl _ _) (λ_ h=>.inl h)
    ·cases h
theorem ae.read {f:FuncId} {args:List AV} {H:List (Nat×Blk)} {id s e:Nat} {rows:List (List AV)} (h:ae P f args H λr H'=>r=.osl id s 0 rows.length/\∀i b,aa [(id,.cells e s rows)] i=some b->aa H' i=some b)
  (hp:(rows.all λrow=>row.all AV.aY)=true):ae P f args H λr _=>r=.sl rows:=by
 intro R0 μ w0 vs hl ha hH hR;refine (h R0 μ w0 vs hl ha hH hR).mono ?_;rintro e' w' ⟨v,r,H',μ',S',rfl,⟨rfl,hb⟩,h4,h5,h6,h7,h8⟩;have hb:=hb id (.cells e s rows) (by simp only[aa,if_true]);have hrd:=DY h4 (h5.blk id _ hb) hp z8;simp only[List.drop_zero,Wo] at hrd;refine ⟨v,_,[],λ_=>none,_,rfl,rfl,.pure hrd,⟨λi b h=>by simp[aa] at h,λi g h=>Qp,λi j g h=>Qp,h5.glob.nil⟩,h6,λi g h=>Qp,λb hb'=>?_⟩
 rcases hb' with h | h
 ·exact h8 b h
 ·refine ⟨(h5.dom id b h).2.2,?_⟩
  rcases h7 id b h with h | h
  ·exact .inr (.inl h)
  ·exact .inr (.inr h)
end
end Go.Eng
namespace Go.Eng
section
variable {P:Program} {T:Tab} {C:Ctx} {σ σ' s:St} {Ret:St->Prop}
theorem Ih (d:Option Tmp) (r:AV):Le C (s.put d r) (s.put d (.cnd true r)):=by
 intro a w ⟨μ,S,hi⟩;cases d with
 | none=>exact ⟨μ,S,hi⟩
 | some t=>
  refine ⟨μ,S,{ hi with size:=by have:=hi.size;simp only[St.put,YL] at this ⊢;exact this,tm:=λi x hx=>?_ }⟩
  by_cases e:t=i
  ·subst e;simp only[St.put,YA,if_true] at hx;split at hx
   ·rename_i hl;injection hx with hx
    subst hx;exact .cndT _ _ (hi.tm t r (by simp only[St.put,YA,if_true];rw[if_pos hl]))
   ·cases hx
  ·refine hi.tm i x ?_;simp only[St.put,YA,if_neg e] at hx ⊢;exact hx
theorem eZ.cnd {o:Oper} {r:AV} (h:eZ P C o s (s.put o.dst r)):eZ P C o s (s.put o.dst (.cnd true r)):=
 λa w K Q hr hK=>h a w K Q hr λa' w' h'=>hK a' w' (Ih o.dst r a' w' h')
theorem B_ {ops:Array Oper} {o:Oper} {c:Operand} {args:Array Operand} {ats:Array TypeId} (ho:o.op=.call { callee:=.value c,args,argTypes:=ats }) {b:Bool} (hg:guardOf ops σ o.guard=some b) {p:Prop} {f:FuncId} {xs:List AV}
  (h:ax σ c args.toList=some (p,f,xs)) (hp:b=true->p) (hc:aJ P f) (hx:aC xs=[]) {r:AV} (hr:refs r=[]) (hf:b=true->ae P f xs [] λr' _=>r'=r):Rob P C ops o (ee ops σ o c args.toList (.cnd b r)) σ:=by
 refine gP (b:=b) hg ?_ λhb s ha=>?_
 ·cases b with
  | true=>exact .inl rfl
  | false=>exact .inr ⟨r,rfl⟩
 ·subst hb;exact (mM ho (by rw[dw ha];exact h) (hp rfl) hc hx hr (hf rfl)).cnd
theorem Cl {ops:Array Oper} {Q:Exit->Act->World->Prop} {k n:Nat} {acc:du} {o:Oper} {l:List Oper} {c:Operand} {args:Array Operand} {ats:Array TypeId} (ho:o.op=.call { callee:=.value c,args,argTypes:=ats }) {b:Bool} (hg:guardOf ops σ o.guard=some b) {p:Prop} {f:FuncId} {xs:List AV}
  (h:ax σ c args.toList=some (p,f,xs)) (hp:b=true->p) (hc:aJ P f) (hx:aC xs=[]) {r:AV} (hf:b=true->ae P f xs [] λr' _=>r'=r) (hr:refs r=[]) {sk:List Loc×List Loc} (hs:((ee ops σ o c args.toList (.cnd b r)).wr,(ee ops σ o c args.toList (.cnd b r)).rd)=sk)
  (ha:σ.put o.dst (.cnd b r)=σ') (hk:al P C ops Q k n (acc++[sk]) l σ'):al P C ops Q k n acc (o::l) σ:=
 jn (B_ ho hg h hp hc hx hr hf) rfl hs WV hk
theorem wy {k:List It} {all:Array Oper} {o:Oper} {l:List Oper} {c:Operand} {args:Array Operand} {ats:Array TypeId} (ho:o.op=.call { callee:=.value c,args,argTypes:=ats }) {b:Bool} (hg:guardOf all σ o.guard=some b) {p:Prop} {f:FuncId} {xs:List AV}
  (h:ax σ c args.toList=some (p,f,xs)) (hp:b=true->p) (hc:aJ P f) (hx:aC xs=[]) {r:AV} (hf:b=true->ae P f xs [] λr' _=>r'=r) (hr:refs r=[]) (ha:σ.put o.dst (.cnd b r)=σ') (hk:Cw P C Ret (.ops all l::k) σ'):Cw P C Ret (.ops all (o::l)::k) σ:=by
 subst ha;intro a w hrel
 show wpList P all _ (o::l) a w
 unfold wpList;obtain ⟨μ,S,hi⟩:=hrel;rw[bk hi hg];cases b with
 | false=>exact hk _ _ ⟨μ,S,hi.put o.dst (.cndF r)⟩
 | true=>exact .inl ((mM ho h (hp rfl) hc hx hr (hf rfl)).cnd a w _ _ ⟨μ,S,hi⟩ λa' w' h'=>hk a' w' h')
end
end Go.Eng
namespace Go.Eng
section
variable {P:Program} {T:Tab} {C:Ctx} {σ σ' s:St} {Ret:St->Prop}
mutual
theorem Aw {h h':List (Nat×Blk)}:∀(x:AV),(∀id,id∈refs x->aa h' id=aa h id)->view h' x=view h x
 | .osl id s off len,he=>by simp only[view];rw[he id p6]
 | .ptr id s row off,he=>by simp only[view];rw[he id p6]
 | .mp id,he=>by simp only[view];rw[he id p6]
 | .fn f caps,he=>by simp only[view];rw[jo caps (λid hid=>he id Z1)]
 | .agg cells,he=>by simp only[view];rw[jo cells (λid hid=>he id Z1)]
 | .any,_=>rfl
 | .tup _,_=>rfl
 | .cnd ..,_=>rfl
 | .int ..,_=>rfl
 | .bool _,_=>rfl
 | .str _,_=>rfl
 | .exs ..,_=>rfl
 | .nilp,_=>rfl
 | .nili,_=>rfl
 | .ifc,_=>rfl
 | .nils,_=>rfl
 | .nilm,_=>rfl
 | .sl _,_=>rfl
 | .rp ..,_=>rfl
 | .rm _,_=>rfl
theorem jo {h h':List (Nat×Blk)}:∀(l:List AV),(∀id,id∈aC l->aa h' id=aa h id)->fk h' l=fk h l
 | [],_=>rfl
 | x::r,he=>by
  simp only[fk];rw[Aw x (λid hid=>he id (by simp[aC,hid])),jo r (λid hid=>he id (by simp[aC,hid]))]
end
theorem oU {id:Nat}:∀{os:List Operand},id∈aC (ew σ os).2->Loc.blk id∈aS σ os
 | [],h=>by simp[ew,aC] at h
 | o::r,h=>by
  simp only[ew,aC,List.mem_append] at h;simp only[aS,List.mem_append]
  rcases h with h | h
  ·refine .inl ?_;have h':=sM (ev σ o) id h;cases o with
   | tmp t=>exact List.mem_cons_of_mem _ (Wq.2 ⟨id,h',rfl⟩)
   | const v=>
    simp only[ev,ofValue] at h';split at h'<;>simp[refs] at h'
   | func f=>simp[ev,refs,aC] at h'
   | global g=>simp[ev,refs] at h'
  ·exact .inr (oU h)
theorem vJ (l m:List AV):aC (l++m)=aC l++aC m:=by
 induction l with
 | nil=>rfl
 | cons x r ih=>simp only[List.cons_append,aC,ih,YQ]
theorem tg {c:Operand} {args:List Operand} {p:Prop} {f:FuncId} {xs:List AV} (h:ax σ c args=some (p,f,xs)) {id:Nat} (hid:id∈aC xs):Loc.blk id∈fB σ c++aS σ args:=by
 unfold ax at h;split at h
 ·rename_i q g caps he;simp only[Option.some.injEq,Prod.mk.injEq] at h;obtain ⟨_,_,rfl⟩:=h;rw[vJ,List.mem_append] at hid
  rcases hid with hid | hid
  ·exact Ww _ (oU hid)
  ·refine W2 _ ?_;have:id∈aC (ew σ [c]).2:=by
    simp only[ew,he,aC,refs,List.mem_append];exact .inl hid
   simpa[aS] using oU this
 ·cases h
theorem mq {k:List It} {all:Array Oper} {o:Oper} {l:List Oper} {c:Operand} {args:Array Operand} {ats:Array TypeId} (ho:o.op=.call { callee:=.value c,args,argTypes:=ats }) (hg:o.guard=none) {p q:Prop} {f:FuncId} {xs ys:List AV}
  (h:ax σ c args.toList=some (p,f,xs)) (hp:p) (hv:fk σ.hp xs=some (q,ys)) (hq:q) (hc:aJ P f) {r:AV} (hf:ae P f ys [] λr' _=>r'=r) (hr:r.scalar=true) (ha:σ.put o.dst r=σ') (hk:Cw P C Ret (.ops all l::k) σ'):Cw P C Ret (.ops all (o::l)::k) σ:=by
 subst ha;exact bP Qt (uI ho h hp hv hq hc hr hf) hk
theorem vZ {c:Operand} {args:List Operand} {p:Prop} {f:FuncId} {xs:List AV} (h:ax σ c args=some (p,f,xs)) (ha:∀x,x∈fB σ c++aS σ args->aP σ s x):fk s.hp xs=fk σ.hp xs:=
 jo xs λ_ hid=>ha _ (tg h hid)
theorem Cb {ops:Array Oper} {o:Oper} {c:Operand} {args:Array Operand} {ats:Array TypeId} (ho:o.op=.call { callee:=.value c,args,argTypes:=ats }) {b:Bool} (hg:guardOf ops σ o.guard=some b) {p q:Prop} {f:FuncId} {xs ys:List AV}
  (h:ax σ c args.toList=some (p,f,xs)) (hp:b=true->p) (hv:fk σ.hp xs=some (q,ys)) (hq:b=true->q) (hc:aJ P f) {r:AV} (hr:r.scalar=true) (hf:b=true->ae P f ys [] λr' _=>r'=r):Rob P C ops o (ee ops σ o c args.toList (.cnd b r)) σ:=by
 refine gP (b:=b) hg ?_ λhb s ha=>?_
 ·cases b with
  | true=>exact .inl rfl
  | false=>exact .inr ⟨r,rfl⟩
 ·subst hb;exact (uI ho (by rw[dw ha];exact h) (hp rfl) (by rw[vZ h ha];exact hv) (hq rfl) hc hr (hf rfl)).cnd
theorem Cn {ops:Array Oper} {Q:Exit->Act->World->Prop} {k n:Nat} {acc:du} {o:Oper} {l:List Oper} {c:Operand} {args:Array Operand} {ats:Array TypeId} (ho:o.op=.call { callee:=.value c,args,argTypes:=ats }) {b:Bool} (hg:guardOf ops σ o.guard=some b) {p q:Prop} {f:FuncId} {xs ys:List AV}
  (h:ax σ c args.toList=some (p,f,xs)) (hp:b=true->p) (hv:fk σ.hp xs=some (q,ys)) (hq:b=true->q) (hc:aJ P f) {r:AV} (hf:b=true->ae P f ys [] λr' _=>r'=r) (hr:r.scalar=true) {sk:List Loc×List Loc} (hs:((ee ops σ o c args.toList (.cnd b r)).wr,(ee ops σ o c args.toList (.cnd b r)).rd)=sk)
  (ha:σ.put o.dst (.cnd b r)=σ') (hk:al P C ops Q k n (acc++[sk]) l σ'):al P C ops Q k n acc (o::l) σ:=
 jn (Cb ho hg h hp hv hq hc hr hf) rfl hs WV hk
theorem yq (x:AV) {ops:Array Oper} {Q:Exit->Act->World->Prop} {k n:Nat} {acc:du} {o:Oper} {l:List Oper} (hg:guardOf ops σ o.guard=some false) {sk:List Loc×List Loc}
  (hs:((⟨o.dst,.cnd false x,[],bN ops o.guard++[]⟩:Sp).wr,bN ops o.guard)=sk) (ha:σ.put o.dst (.cnd false x)=σ') (hk:al P C ops Q k n (acc++[sk]) l σ'):al P C ops Q k n acc (o::l) σ:=
 jn (gP (rd:=[]) hg (.inr ⟨x,rfl⟩) (λh=>nomatch h)) rfl (by rw[←hs,List.append_nil]) Q3 hk
def lV (T:Tab) (σ:St) (d:Nat) (op:Op):Option (Prop×Blk×AV):=
 match op with
 | .buildSlice t n parts=>
  match db T σ t n parts.toList with
  | some (p,e,rows)=>some (p,.cells e (T.siz e) rows,.osl d (T.siz e) 0 n)
  | none=>none
 | .alloc t=>some (T.siz t≠0/\(T.zer t).length=T.siz t,.cells t (T.siz t) [T.zer t],.ptr d (T.siz t) 0 0)
 | .box t x=>
  match jd T t (evS σ x).2 with
  | some xs=>some ((evS σ x).1/\xs.length=T.siz t/\xs.all AV.leaf=true,.cells t (T.siz t) [xs],.ptr d (T.siz t) 0 0)
  | none=>none
 | .makeMap _ none=>some (True,.map [],.mp d)
 | _=>none
theorem oe {e n:Nat}:∀{parts:List (Nat×Operand)},(∀q,q∈parts->evS s q.2=evS σ q.2)->kK T s e n parts=kK T σ e n parts
 | [],_=>rfl
 | (j,o)::r,h=>by
  simp only[kK];rw[h (j,o) y7,oe (λq hq=>h q (by simp[hq]))]
theorem pV {d:Nat} {op:Op} (h:∀x,x∈aS σ op.operands.toList->aP σ s x):lV T s d op=lV T σ d op:=by
 have he:∀o,o∈op.operands.toList->evS s o=evS σ o:=λo ho=>cC λx hx=>h x (dx ho x hx)
 unfold lV;split
 ·rename_i t n parts;have:db T s t n parts.toList=db T σ t n parts.toList:=by
   unfold db;split
   ·rw[oe (λq hq=>he q.2 (by
     simp only[Op.operands,List.toList_toArray];exact Wq.2 ⟨q,hq,rfl⟩))]
   ·rfl
  rw[this]
 ·rfl
 ·rw[he _ x7]
 ·rfl
 ·rfl
theorem Cc {d:Nat} (h:aa s.hp d=none):s.room d=(True,s):=by unfold St.room;rw[h]
theorem pW (hT:TabOK P T) {o:Oper} {d:Nat} (hd:o.dst=some d) {p:Prop} {b:Blk} {x:AV} (h:lV T s d o.op=some (p,b,x)) (hp:p) (hf:aa s.hp d=none) :
  eZ P C o s (St.put ⟨s.tm,(d,b)::s.hp⟩ (some d) x):=by
 have hr:=Cc hf;unfold lV at h;split at h
 ·rename_i t n parts ho;split at h
  ·rename_i q e rows hb;simp only[Option.some.injEq,Prod.mk.injEq] at h;obtain ⟨rfl,rfl,rfl⟩:=h;refine bY hT o (p:=q/\True) ?_ ⟨hp,trivial⟩;rw[hd,ho];simp only[ef,hr,hb]
  ·cases h
 ·rename_i t ho;simp only[Option.some.injEq,Prod.mk.injEq] at h;obtain ⟨rfl,rfl,rfl⟩:=h;refine bY hT o (p:=T.siz t≠0/\(T.zer t).length=T.siz t/\True) ?_ ⟨hp.1,hp.2,trivial⟩;rw[hd,ho];simp only[ef,hr]
 ·rename_i t y ho;split at h
  ·rename_i xs hx;simp only[Option.some.injEq,Prod.mk.injEq] at h;obtain ⟨rfl,rfl,rfl⟩:=h;refine bY hT o (p:=(evS s y).1/\xs.length=T.siz t/\xs.all AV.leaf=true/\True) ?_ ⟨hp.1,hp.2.1,hp.2.2,trivial⟩;rw[hd,ho];simp only[ef,hr,hx]
  ·cases h
 ·rename_i t ho;simp only[Option.some.injEq,Prod.mk.injEq] at h;obtain ⟨rfl,rfl,rfl⟩:=h;refine bY hT o (p:=True) ?_ trivial;rw[hd,ho];simp only[ef,hr]
 ·cases h
theorem Gy (hT:TabOK P T) {ops:Array Oper} {Q:Exit->Act->World->Prop} {k n:Nat} {acc:du} {o:Oper} {l:List Oper} {d:Nat} (hd:o.dst=some d) (hg:guardOf ops σ o.guard=some true) {p:Prop} {b:Blk} {x:AV} (h:lV T σ d o.op=some (p,b,x)) (hp:p) (hf:aa σ.hp d=none)
  {sk:List Loc×List Loc} (hs:([Loc.tm d,Loc.blk d],bN ops o.guard++aS σ o.op.operands.toList)=sk) (ha:St.put ⟨σ.tm,(d,b)::σ.hp⟩ (some d) x=σ') (hk:al P C ops Q k n (acc++[sk]) l σ'):al P C ops Q k n acc (o::l) σ:=by
 refine oz (q:=⟨some d,x,[(d,b)],bN ops o.guard++aS σ o.op.operands.toList⟩) ?_ (λc hc _=>by rw[List.mem_singleton.1 hc];exact hf) (by rw[←hs];rfl) (by rw[←ha];rfl) hk;intro s hagree hfree a w K Q' hr hK;have hg':guardOf ops s o.guard=some true:=by rw[gL (λx hx=>hagree x (W2 _ hx))];exact hg
 obtain ⟨μ,S,hi⟩:=hr;rw[bk hi hg'];refine .inl ?_;have hn:lV T s d o.op=some (p,b,x):=by rw[pV (λx hx=>hagree x (Ww _ hx))];exact h
 have hfd:aa s.hp d=none:=by
  by_cases h:Loc.blk d∈bN ops o.guard++aS σ o.op.operands.toList
  ·exact (hagree _ h).trans hf
  ·exact hfree (d,b) y7 h
 exact pW hT hd hn hp hfd a w K Q' ⟨μ,S,hi⟩ hK
attribute [go_sem] lV
end
end Go.Eng
namespace Go.Eng
attribute [go_sem] go ja mkc ef eH evS ev ew strip ofValue guardOf DA St.put St.room aa aQ fZ kD Eng.loadCells KD.isA fX jd putAt
 vD AJ KD.isBool zk rj Ey gK nP gN nS iN oD pU fm kL kK u_ db kU fc dP
 kill refs aC bK ea qi fj AV.leaf uw zR vM one ax view fk AV.aY AV.scalar mK exitTo St.drop
 nK rB wz sq mapOf wa KD.tZ pq AV.jE kP mj fB aS bN Op.operands Call.operands cn Sp.app Sp.wr gu xE kT cD ren f_ zQ qB Eng.sub Eng.del jQ closed wk pj zd GI frz dB jt ee rA
attribute [go_sem] List.getD_cons_zero List.getD_cons_succ List.set_cons_zero List.set_cons_succ List.getD_nil List.map_cons List.map_nil List.length_cons List.length_nil Option.map_some Option.map_none
 List.replicate_succ List.replicate_zero List.cons_append List.nil_append List.all_cons List.all_nil List.drop_succ_cons List.drop_zero List.take_succ_cons List.take_zero
 true_and and_true if_true if_false Option.bind_some Bool.false_eq_true Bool.and_true Bool.true_and Bool.and_self ne_eq Nat.reduceEqDiff List.toList_toArray Option.bind_some Option.toList Option.bind_none List.append_nil List.length_map List.append_toArray List.length_append Wo Wt List.any_nil List.any_cons List.all_append Option.isSome_some Option.isSome_none Option.isNone_none Option.isNone_some List.all_nil List.contains_nil List.contains_cons Ym W8 Nat.add_zero Int.toNat_natCast
attribute [go_sem] Nat.reduceLT Nat.reduceBEq Nat.reduceLeDiff Nat.reduceAdd Nat.reduceMul Nat.reduceSub Nat.reduceEqDiff Int.reduceNeg Int.reduceToNat Int.reduceAdd Int.reduceSub
end Go.Eng
namespace La
open Go Go.Eng
structure Entry where
 name:List UInt8
 fid:Int
deriving DecidableEq,Inhabited
structure Node where
 fid:Int
 dir:Bool
 data:List UInt8
 entries:List Entry
 version:Int
deriving DecidableEq,Inhabited
structure Act where
 kind:Int
 fid:Int
 dir:Int
 name:List UInt8
 to:Int
 toName:List UInt8
 data:List UInt8
deriving DecidableEq,Inhabited
structure Rec where
 act:Act
 version:Int
 id:Int
deriving DecidableEq,Inhabited
def i (n:Int):AV:=.int .i64 n
def ZY (b:UInt8):List AV:=[.int .u8 (b.toNat:Int)]
def ZI (n:Int):List AV:=[.int .i64 n]
def ZE (e:Entry):List AV:=[.str e.name,.int .i64 e.fid]
def ZN (n:Node):List AV:=[.int .i64 n.fid,.bool n.dir,.sl (n.data.map ZY),.sl (n.entries.map ZE),.int .i64 n.version]
def ZA (a:Act):List AV:=[.int .i64 a.kind,.int .i64 a.fid,.int .i64 a.dir,.str a.name,.int .i64 a.to,.str a.toName,.sl (a.data.map ZY)]
def ZR (r:Rec):List AV:=[.int .i64 r.act.kind,.int .i64 r.act.fid,.int .i64 r.act.dir,.str r.act.name,.int .i64 r.act.to,.str r.act.toName,.sl (r.act.data.map ZY),.int .i64 r.version,.int .i64 r.id]
structure Fam {α:Type} (f:α->List AV) (n:Nat):Prop where
 len:∀a,(f a).length=n
 leaf:∀a,(f a).all AV.leaf=true
 pure:∀a,(f a).all AV.aY=true
 free:∀a,aC (f a)=[]
section
variable {α:Type} {f:α->List AV} {n:Nat}
theorem Fam.rowsOf (h:Fam f n) (l:List α):Eng.rowsOf n (l.map f):=by
 intro row hr;obtain ⟨a,_,rfl⟩:=Wq.1 hr;exact h.len a
theorem Fam.jc (h:Fam f n) (l:List α):((l.map f).all λrow=>row.all AV.leaf)=true:=by
 rw[List.all_eq_true];intro row hr;obtain ⟨a,_,rfl⟩:=Wq.1 hr;exact h.leaf a
theorem Fam.eM (h:Fam f n) (l:List α):((l.map f).all λrow=>row.all AV.aY)=true:=by
 rw[List.all_eq_true];intro row hr;obtain ⟨a,_,rfl⟩:=Wq.1 hr;exact h.pure a
theorem Fam.jY (h:Fam f n) (id:Nat) (l:List α):((l.map f).all λrow=>row.all λx=>!(refs x).contains id)=true:=by
 rw[List.all_eq_true];intro row hr;obtain ⟨a,_,rfl⟩:=Wq.1 hr;rw[List.all_eq_true];intro x hx;obtain ⟨j,hj⟩:=Wu hx;have:refs x=[]:=by
  have h1:∀i,i∈refs x->i∈aC (f a):=λi hi=>a_ hj hi
  rw[h.free a] at h1;exact List.eq_nil_iff_forall_not_mem.2 λi hi=>by simpa using h1 i hi
 rw[this];rfl
theorem Fam.aB (h:Fam f n) (e s:Nat) (l:List α):Eng.aB (.cells e s (l.map f))=[]:=by
 simp only[Eng.aB]
 induction l with
 | nil=>rfl
 | cons a r ih=>simp only[List.map_cons,List.flatMap_cons,h.free a,ih,List.nil_append]
theorem Fam.f_ (h:∀a (off:Nat),Eng.f_ off (f a)=f a) (off:Nat) (l:List α):(l.map f).map (Eng.f_ off)=l.map f:=by
 induction l with
 | nil=>rfl
 | cons a r ih=>simp only[List.map_cons,h a off,ih]
theorem Fam.dB (h:∀a (id s:Nat) (rows:List (List AV)),Eng.dB id s rows (f a)=f a) (id s:Nat) (rows:List (List AV)) (l:List α):(l.map f).map (Eng.dB id s rows)=l.map f:=by
 induction l with
 | nil=>rfl
 | cons a r ih=>simp only[List.map_cons,h a id s rows,ih]
end
@[go_sem,simp] theorem Hs {α:Type} (f:α->List AV) (l:List α):(l.map f).take l.length=l.map f:=Wl y7
theorem di {α:Type} [Inhabited α] (f:α->List AV) {l:List α} {i:Nat} (h:i<l.length):(l.take (i+1)).map f=(l.take i).map f++[f (l.getD i default)]:=by
 rw[List.take_succ_eq_append_getElem h,List.map_append,Wi,Wj h];rfl
theorem ZT {α:Type} [Inhabited α] {l:List α} {i:Nat} (h:i<l.length):l.take (i+1)=l.take i++[l.getD i default]:=by
 rw[List.take_succ_eq_append_getElem h,Wi,Wj h];rfl
theorem b_ {α:Type} [Inhabited α] {l:List α} {i:Nat} (h:i<l.length):l.drop i=l.getD i default::l.drop (i+1):=by
 rw[List.drop_eq_getElem_cons h,Wi,Wj h];rfl
def cc:Option Nat->Int
 | none=>-1
 | some k=>k
theorem eA {α:Type} {p:α->Bool}:∀{l:List α} {i:Nat} {x:α},l[i]? = some x->(∀y,y∈l.take i->p y=false)->p x=true->l.findIdx? p=some i
 | [],i,x,h,_,_=>by simp at h
 | y::r,0,x,h,_,hp=>by
  simp only[List.getElem?_cons_zero,Option.some.injEq] at h;subst h;simp[List.findIdx?_cons,hp]
 | y::r,i+1,x,h,hn,hp=>by
  have h0:=hn y y7;rw[List.findIdx?_cons,h0];simp only[Bool.false_eq_true,if_false];rw[eA (l:=r) (i:=i) v8 (λz hz=>hn z (by simp[hz])) hp];rfl
structure Node.Small (n:Node):Prop where
 data:n.data.length≤100000000
 entries:n.entries.length≤100000000
structure Small (l:List Node):Prop where
 len:l.length≤100000000
 each:∀n,n∈l->n.Small
theorem YG {α:Type} [Inhabited α] {l:List α} {i:Nat} (h:i<l.length):l.getD i default∈l:=by
 rw[Wi,Wj h];exact YO h
theorem Fam.getD {α:Type} [Inhabited α] {f:α->List AV} {l:List α} {i:Nat} (h:i<l.length):(l.map f).getD i []=f (l.getD i default):=by
 rw[Wi,Wm,Wi,Wj h];rfl
theorem gI:Fam ZY 1:=⟨λ_=>rfl,λ_=>rfl,λ_=>rfl,λ_=>rfl⟩
@[go_sem,simp] theorem CZ (l:List _):Eng.rowsOf 1 (l.map ZY):=gI.rowsOf l
@[go_sem,simp] theorem Fz (l:List _):((l.map ZY).all λrow=>row.all AV.leaf)=true:=gI.jc l
@[go_sem,simp] theorem kj (l:List _):((l.map ZY).all λrow=>row.all AV.aY)=true:=gI.eM l
@[go_sem,simp] theorem EI (id:Nat) (l:List _):((l.map ZY).all λrow=>row.all λx=>!(refs x).contains id)=true:=gI.jY id l
@[go_sem,simp] theorem EJ (e s:Nat) (l:List _):aB (.cells e s (l.map ZY))=[]:=gI.aB e s l
@[go_sem,simp] theorem Fy (id s:Nat) (rows:List (List AV)) (l:List _):(l.map ZY).map (dB id s rows)=l.map ZY:=Fam.dB (λ_ _ _ _=>rfl) id s rows l
theorem rJ:Fam ZI 1:=⟨λ_=>rfl,λ_=>rfl,λ_=>rfl,λ_=>rfl⟩
@[go_sem,simp] theorem FW (e s:Nat) (l:List _):aB (.cells e s (l.map ZI))=[]:=rJ.aB e s l
theorem eP:Fam ZE 2:=⟨λ_=>rfl,λ_=>rfl,λ_=>rfl,λ_=>rfl⟩
@[go_sem,simp] theorem qt (l:List _):Eng.rowsOf 2 (l.map ZE):=eP.rowsOf l
@[go_sem,simp] theorem ti (l:List _):((l.map ZE).all λrow=>row.all AV.leaf)=true:=eP.jc l
@[go_sem,simp] theorem dg (l:List _):((l.map ZE).all λrow=>row.all AV.aY)=true:=eP.eM l
@[go_sem,simp] theorem lG (id:Nat) (l:List _):((l.map ZE).all λrow=>row.all λx=>!(refs x).contains id)=true:=eP.jY id l
@[go_sem,simp] theorem Dj (e s:Nat) (l:List _):aB (.cells e s (l.map ZE))=[]:=eP.aB e s l
@[go_sem,simp] theorem EM (off:Nat) (l:List _):(l.map ZE).map (f_ off)=l.map ZE:=Fam.f_ (λ_ _=>rfl) off l
@[go_sem,simp] theorem EL (id s:Nat) (rows:List (List AV)) (l:List _):(l.map ZE).map (dB id s rows)=l.map ZE:=Fam.dB (λ_ _ _ _=>rfl) id s rows l
theorem fA:Fam ZN 5:=⟨λ_=>rfl,λ_=>rfl,λ_=>rfl,λ_=>rfl⟩
@[go_sem,simp] theorem sf (l:List _):Eng.rowsOf 5 (l.map ZN):=fA.rowsOf l
@[go_sem,simp] theorem vA (l:List _):((l.map ZN).all λrow=>row.all AV.leaf)=true:=fA.jc l
@[go_sem,simp] theorem eV (l:List _):((l.map ZN).all λrow=>row.all AV.aY)=true:=fA.eM l
@[go_sem,simp] theorem mV (id:Nat) (l:List _):((l.map ZN).all λrow=>row.all λx=>!(refs x).contains id)=true:=fA.jY id l
@[go_sem,simp] theorem ET (e s:Nat) (l:List _):aB (.cells e s (l.map ZN))=[]:=fA.aB e s l
@[go_sem,simp] theorem Gg (off:Nat) (l:List _):(l.map ZN).map (f_ off)=l.map ZN:=Fam.f_ (λ_ _=>rfl) off l
@[go_sem,simp] theorem Ge (id s:Nat) (rows:List (List AV)) (l:List _):(l.map ZN).map (dB id s rows)=l.map ZN:=Fam.dB (λ_ _ _ _=>rfl) id s rows l
theorem kp:Fam ZA 7:=⟨λ_=>rfl,λ_=>rfl,λ_=>rfl,λ_=>rfl⟩
@[go_sem,simp] theorem pJ (l:List _):((l.map ZA).all λrow=>row.all AV.aY)=true:=kp.eM l
@[go_sem,simp] theorem Fp (id:Nat) (l:List _):((l.map ZA).all λrow=>row.all λx=>!(refs x).contains id)=true:=kp.jY id l
@[go_sem,simp] theorem Fq (e s:Nat) (l:List _):aB (.cells e s (l.map ZA))=[]:=kp.aB e s l
@[go_sem,simp] theorem HA (id s:Nat) (rows:List (List AV)) (l:List _):(l.map ZA).map (dB id s rows)=l.map ZA:=Fam.dB (λ_ _ _ _=>rfl) id s rows l
theorem gi:Fam ZR 9:=⟨λ_=>rfl,λ_=>rfl,λ_=>rfl,λ_=>rfl⟩
@[go_sem,simp] theorem tt (l:List _):Eng.rowsOf 9 (l.map ZR):=gi.rowsOf l
@[go_sem,simp] theorem x' (l:List _):((l.map ZR).all λrow=>row.all AV.leaf)=true:=gi.jc l
@[go_sem,simp] theorem cS (l:List _):((l.map ZR).all λrow=>row.all AV.aY)=true:=gi.eM l
@[go_sem,simp] theorem ik (id:Nat) (l:List _):((l.map ZR).all λrow=>row.all λx=>!(refs x).contains id)=true:=gi.jY id l
@[go_sem,simp] theorem Gq (e s:Nat) (l:List _):aB (.cells e s (l.map ZR))=[]:=gi.aB e s l
@[go_sem,simp] theorem HI (off:Nat) (l:List _):(l.map ZR).map (f_ off)=l.map ZR:=Fam.f_ (λ_ _=>rfl) off l
@[go_sem,simp] theorem HH (id s:Nat) (rows:List (List AV)) (l:List _):(l.map ZR).map (dB id s rows)=l.map ZR:=Fam.dB (λ_ _ _ _=>rfl) id s rows l
@[go_sem,simp] theorem FX (a):aC (ZI a)=[]:=rJ.free a
@[go_sem,simp] theorem Dk (a):aC (ZE a)=[]:=eP.free a
@[go_sem,simp] theorem jv (a):aC (ZN a)=[]:=fA.free a
@[go_sem,simp] theorem Fs (a):aC (ZA a)=[]:=kp.free a
@[go_sem,simp] theorem Gr (a):aC (ZR a)=[]:=gi.free a
@[go_sem,simp] theorem I1 (l:List UInt8):(l.map ZY).map Eng.byteOf=l:=by
 rw[YX];have:Eng.byteOf∘ZY=id:=by
  funext b
  show UInt8.ofNat ((b.toNat:Int)).toNat=b
  simp
 rw[this,List.map_id]
@[go_sem,simp] theorem HY (b:UInt8):CR (ZY b):=⟨_,rfl⟩
end La
namespace Go.Eng
open Go.ChangeShapes Go.WideShapes Go.RowKit
section
variable {H:Type} {enc:TypeId×Value->H} {P:Program}
theorem Frm.at {W W':World} (h:Frm (λ_=>False) W W') {b:Nat} (hb:b<W.heap.size):W'.heap[b]? = W.heap[b]?:=h.block b hb (λh=>h)
theorem Frm.kept {W W':World} (h:Frm (λ_=>False) W W') (may:MemPlace->Prop):W.keptBut W' may:=by
 refine ⟨h.os,h.output,λi hi=>?_⟩;rw[h.at hi];split
 ·rename_i c t fr c' t' fr' h1 h2;rw[h1] at h2;simp only[Option.some.injEq,Obj.cells.injEq] at h2;obtain ⟨rfl,rfl,rfl⟩:=h2;exact ⟨rfl,rfl,rfl,λ_ _=>rfl⟩
 ·rename_i es c es' c' h1 h2;rw[h1] at h2;simp only[Option.some.injEq,Obj.map.injEq] at h2;obtain ⟨rfl,rfl⟩:=h2;exact .inr ⟨rfl,rfl⟩
 ·rfl
theorem qk {W W':World} (h:Frm (λ_=>False) W W') {b:Nat} {sp:Nat->Bool} {held:Bool}:∀{ts:List TypeId} {vs:List Value} {ds:List (DataW H)} {ps:List MemPlace},
  DataW.TrodAll enc P W b sp held ts vs ds ps->(∀p∈ps,p.block<W.heap.size)->DataW.TrodAll enc P W' b sp held ts vs ds ps
 | [],[],[],_,h,_=>h
 | _::_,_::_,_::_,_,⟨p,q,⟨n,h1⟩,h2,e⟩,hl=>by
  subst e;refine ⟨p,q,⟨n,DataW.trod_carry n _ _ _ h1 λx hx=>?_⟩,qk h h2 (λx hx=>hl x (Ww _ hx)),rfl⟩;have hb:=hl x (W2 _ hx);cases x with
  | cell b off=>exact oN (h.at hb)
  | map b=>exact h.at hb
theorem BY (hl:laidOutB P=true) (hm:mapsRowed P=true) (hz:∀t e,t<P.types.size->P.underlying t=some (.slice e)->0<P.cellsOf e) {f:Func} {s:ChangeSpec} {W W':World} {args:Array Value} {ds gs:List (DataW H)} {before:List MemPlace} {tb:TypeId}
  (hts:∀t∈f.params.toList,t<P.types.size) (hv:s.vars=[]) (hb:P.underlying tb=some .bool) (hr:f.resultTypes=#[tb])
  (hW:DataW.Whole enc P f.params.toList s.vars false W args.toList ds gs before) (hf:Frm (λ_=>False) W W')
  (h1:(s.fn H (ds++gs)).results=[.lit (.bool true)]) (h2:(s.fn H (ds++gs)).args=ds) (h3:(s.fn H (ds++gs)).vars=[]) :
  s.post enc P f false true false false W args (.bool true) W':=by
 have hW':=hW;obtain ⟨p,q,hA,hV,rfl,hfz,hnd⟩:=hW;rw[hv] at hV;obtain ⟨rfl,rfl⟩:=trodVars_none hV;have hlt:∀x∈p,x.block<W.heap.size:=λx hx=>hA.lt x hx
 refine ⟨ds,[],p++[],[],p,[],hW',?_,?_,?_,hf.kept _,λh=>nomatch h⟩
 ·rw[h1,hr];exact trodAll_cons_mk (shut_bool hb _) trodAll_mk0
 ·rw[h2];exact qk hf (DataW.TrodAll.respare (kids_rows hl hm) hz hts hA (λx hx=>by simpa using hlt x hx)) hlt
 ·rw[h3,hv];rfl
end
end Go.Eng
namespace La
open Go Go.Eng Go.Proofs
theorem ZM:(Tryz.prog).follows .mixedOrders=true:=by kernel_rfl
theorem own:ownKnob Tryz.prog.godebug=none:=by kernel_rfl
theorem laid:laidOutB Tryz.prog=true:=by kernel_rfl
theorem I7:mapsRowed Tryz.prog=true:=by kernel_rfl
theorem full:∀t e,t<Tryz.prog.types.size->Tryz.prog.underlying t=some (.slice e)->0<Tryz.prog.cellsOf e:=slices_full_of _ w4
end La
namespace Go.Eng
section
variable {P:Program} {T:Tab} {C:Ctx} {σ σ':St} {Ret:St->Prop} {k:List It}
def goR:Nat->List It->Option (List It)
 | 0,k=>some k
 | n+1,k=>
  match k with
  | .code (.seq x y)::k=>goR n (.code x::.code y::k)
  | .code (.block id c)::k=>goR n (.code c::.blk id::k)
  | .code .skip::k=>goR n k
  | .blk _::k=>goR n k
  | .code (.exit id)::k=>
   match exitTo id k with
   | some k'=>goR n k'
   | none=>none
  | .code (.region _ ops false)::k=>goR n (.ops ops ops.toList::k)
  | .ops _ []::k=>goR n k
  | k=>some k
theorem lB:∀(n:Nat) {k k':List It},goR n k=some k'->Cw P C Ret k' σ->Cw P C Ret k σ
 | 0,k,k',h,hk=>by
  simp only[goR,Option.some.injEq] at h;subst h;exact hk
 | n+1,k,k',h,hk=>by
  unfold goR at h;split at h
  ·exact oQ (lB n h hk)
  ·exact wx (lB n h hk)
  ·exact AP (lB n h hk)
  ·exact C8 (lB n h hk)
  ·split at h
   ·rename_i k1 he;exact AN he (lB n h hk)
   ·cases h
  ·exact tG (lB n h hk)
  ·exact iI (lB n h hk)
  ·simp only[Option.some.injEq] at h;subst h;exact hk
theorem yt {l:List AV} {t:Nat} {x:AV} (h:l.getD t .any=x) (hx:x≠.any):l.set t x=l:=by
 apply List.ext_getElem?
 intro i;rw[YA];split
 ·rename_i e;subst e;rw[Wi] at h;cases e:l[t]? with
  | none=>rw[e] at h;exact absurd h.symm hx
  | some y=>
   rw[e] at h;simp only[Option.getD_some] at h;subst h;rw[if_pos (Wp.1 e).1]
 ·rfl
theorem ak (t:Nat) {b:Bool} (h:σ.tm.getD t .any=.bool b) (hk:∀c,b=c->Cw P C Ret k ⟨σ.tm.set t (.bool c),σ.hp⟩):Cw P C Ret k σ:=by
 have:=hk b rfl
 rwa [yt h (λh=>nomatch h)] at this
theorem dW (t:Nat) {b:Bool} {ops:Array Oper} {Q:Exit->Act->World->Prop} {k n:Nat} {acc:du} {l:List Oper} (h:σ.tm.getD t .any=.bool b) (hk:∀c,b=c->al P C ops Q k n acc l ⟨σ.tm.set t (.bool c),σ.hp⟩):al P C ops Q k n acc l σ:=by
 have:=hk b rfl
 rwa [yt h (λh=>nomatch h)] at this
theorem Da {c:Operand} {x y:Code} {b:Bool} {p:Prop} (hc:evS σ c=(p,.bool b)) (hp:p) (hb:b=true) (ht:Cw P C Ret (.code x::k) σ):Cw P C Ret (.code (.cond c x y)::k) σ:=
 uV hc hp (λ_=>ht) (λh=>by rw[hb] at h;cases h)
theorem C' {c:Operand} {x y:Code} {b:Bool} {p:Prop} (hc:evS σ c=(p,.bool b)) (hp:p) (hb:b=false) (hf:Cw P C Ret (.code y::k) σ):Cw P C Ret (.code (.cond c x y)::k) σ:=
 uV hc hp (λh=>by rw[hb] at h;cases h) (λ_=>hf)
mutual
def nrm:AV->AV
 | .nils=>.sl []
 | .sl rows=>.sl (iO rows)
 | .rp cells off=>.rp (eW cells) off
 | .agg cells=>.agg (eW cells)
 | .tup vs=>.tup (eW vs)
 | .fn f caps=>.fn f (eW caps)
 | x=>x
def eW:List AV->List AV
 | []=>[]
 | x::r=>nrm x::eW r
def iO:List (List AV)->List (List AV)
 | []=>[]
 | x::r=>eW x::iO r
end
theorem dT:∀l,eW l=l.map nrm
 | []=>rfl
 | x::r=>by simp[eW,dT r]
theorem dz:∀l,iO l=l.map eW
 | []=>rfl
 | x::r=>by simp[iO,dz r]
theorem RdP.nrm {S:Nat->Prop} {w:World} {v:Value} {x:AV} (h:RdP S w v x):RdP S w v (Eng.nrm x):=by
 have key:∀{l:List AV} {f:Nat->Value},(∀j x,l[j]? = some x->RdP S w (f j) (Eng.nrm x))->∀j x,(eW l)[j]? = some x->RdP S w (f j) x:=fun {l f} h j x hx=>by
  rw[dT,Wm] at hx;cases e:l[j]? with
  | none=>rw[e] at hx;cases hx
  | some y=>rw[e] at hx;simp only[Option.map_some,Option.some.injEq] at hx;subst hx;exact h j y e
 induction h with
 | int k n=>exact .int k n
 | bool b=>exact .bool b
 | str s l h=>exact .str s l h
 | nilp=>exact .nilp
 | nili=>exact .nili
 | ifc t p=>exact .ifc t p
 | nils=>exact .sl none 0 0 [] 0 0 0 (λ_ _=>undef) rfl (Wt _) (λrow h=>by simp at h) (λh=>by omega) (λi j h=>by omega) (λi row h=>by simp at h)
 | nilm=>exact .nilm
 | sl A len cap rows size g off vals hl hc hsz hA hcell hr ih=>
  refine .sl A len cap (iO rows) size g off vals (by rw[dz,List.length_map];exact hl) hc (λrow hrow=>?_) hA hcell (λi row hi j x hx=>?_)
  ·rw[dz] at hrow;obtain ⟨r,hr',rfl⟩:=Wq.1 hrow;rw[dT,List.length_map];exact hsz r hr'
  ·rw[dz,Wm] at hi;cases e:rows[i]? with
   | none=>rw[e] at hi;cases hi
   | some r=>
    rw[e] at hi;simp only[Option.map_some,Option.some.injEq] at hi;subst hi;exact key (f:=vals i) (ih i r e) j x hx
 | rp g o off cells vals hS hcell hr ih=>
  refine .rp g o off (eW cells) vals hS (λj hj=>hcell j (by rw[dT,List.length_map] at hj;exact hj)) (key ih)
 | rm g es clk kvs vals hS hg hm hr ih=>exact .rm g es clk kvs vals hS hg hm hr
 | fn f vals caps hl hr ih=>exact .fn f vals _ QP (key ih)
 | agg cs cells hl hr ih=>exact .agg cs _ QP (key ih)
theorem Rd.nrm {μ:Nat->Option Nat} {S:Nat->Prop} {w:World} {v:Value} {x:AV} (h:Rd μ S w v x):Rd μ S w v (Eng.nrm x):=by
 have key:∀{l:List AV} {f:Nat->Value},(∀j x,l[j]? = some x->Rd μ S w (f j) (Eng.nrm x))->∀j x,(eW l)[j]? = some x->Rd μ S w (f j) x:=fun {l f} h j x hx=>by
  rw[dT,Wm] at hx;cases e:l[j]? with
  | none=>rw[e] at hx;cases hx
  | some y=>rw[e] at hx;simp only[Option.map_some,Option.some.injEq] at hx;subst hx;exact h j y e
 induction h with
 | any v=>exact .any v
 | pure h=>exact .pure h.nrm
 | agg cs cells hl hr ih=>exact .agg cs _ QP (key ih)
 | tup vs xs hl hr ih=>exact .tup vs _ QP (key ih)
 | fn f vals caps hl hr ih=>exact .fn f vals _ QP (key ih)
 | ptr id size row off g hg=>exact .ptr id size row off g hg
 | osl id size off len cap A hc h=>exact .osl id size off len cap A hc h
 | mp id g hg=>exact .mp id g hg
 | exs id size off len cap g e n hc hg hr hn=>exact .exs id size off len cap g e n hc hg hr hn
 | cndT v x h ih=>exact .cndT v x h
 | cndF x=>exact .cndF x
theorem ae.nrm {f:FuncId} {args args':List AV} {H:List (Nat×Blk)} {post:AV->List (Nat×Blk)->Prop} (hn:eW args=args') (h:ae P f args' H post):ae P f args H post:=by
 intro R0 μ w0 vs hl hr hH hR;subst hn;refine h R0 μ w0 vs QP (λj x hx=>?_) hH hR;rw[dT,Wm] at hx;cases e:args[j]? with
 | none=>rw[e] at hx;cases hx
 | some y=>rw[e] at hx;simp only[Option.map_some,Option.some.injEq] at hx;subst hx;exact (hr j y e).nrm
attribute [go_sem] goR
end
end Go.Eng
