/- Texts of this claim, part 6: EngT, EngU, EngV, EngW, EngZ, EngS, Mod, EngQ, Bas, EngAA. No condition. -/
import Derived.Test.YtdcmhdkpfllnlaaGreatDoorYC5
import Derived.WalkSpells
import Derived.ReadAgain
import Derived.ChangeSame
import Derived.ChangeBears
import Derived.OpenShut
import Derived.RowKit
import Derived.WalkKit
import Derived.ProofKit
import Derived.Test.YtdcmhdkpfllnlaaGreatDoorRows
import Derived.JoinedCond
set_option maxRecDepth 10000
set_option maxHeartbeats 4000000
set_option linter.unusedSimpArgs false
set_option linter.unusedVariables false
namespace Go.Eng
section
variable {P:Program} {T:Tab} {C:Ctx} {σ σ':St} {Ret:St->Prop} {k:List It}
theorem lV (hT:TabOK P T) {all:Array Oper} {o:Oper} {l:List Oper} {t:TypeId} {x y:Operand} {ty e:TypeId} {rows:List (List AV)} (ho:o.op=.binOp .eql t x y ty) (hg:o.guard=none) (ht:T.und t=.sl e)
  (hx:evS σ x=(True,.sl rows)) (hy:evS σ y=(True,.nils)) (h:∀b,(b=true->rows=[])->Cw P C Ret (.ops all l::k) (σ.put o.dst (.bool b))):Cw P C Ret (.ops all (o::l)::k) σ:=by
 intro a w ⟨μ,S,hi⟩;have hv:=hi.evS x p6;have hu:=hi.evS y Qr;rw[hx] at hv;rw[hy] at hu;obtain ⟨A,cap,size,g,off,vals,e1,hc,hs',hA,hcell,hr⟩:=hv.gJ.gJ;have e2:=hu.gg;have hty:P.underlying t=some (.slice e):=by have:=hT.und t;rw[ht] at this;exact this
 show wpList P all _ (o::l) a w
 unfold wpList;rw[bo hi (show guardOf all σ o.guard=some true from by rw[hg];rfl)];refine .inl ?_;unfold Oper.wp;have hrun:(execOp a.eval o).run P w=.ok (.value (.bool A.isNone)) w:=by
  simp only[execOp,ho,e1,e2,eqGuard_at_slice,pure_bind,Sem.run_bind,Lib.run_eql_slice_nil w t e A rows.length cap 0 0 hty,Result.andThen_ok];rfl
 rw[hrun];refine h A.isNone (λhb=>?_) _ _ ⟨μ,S,hi.put o.dst (.pure (.bool _))⟩
 rcases Nat.eq_zero_or_pos rows.length with h0 | h0
 ·exact List.eq_nil_of_length_eq_zero h0
 ·rw[(hA h0).1] at hb;cases hb
def wk (x y:AV):Prop:=y=.any\/x=y\/(x=.nils/\(y=.sl []\/∃id s off,y=.osl id s off 0))
theorem Rd.wk {μ:Nat->Option Nat} {S:Nat->Prop} {w:World} {v:Value} {x y:AV} (h:Rd μ S w v x) (hw:wk x y):Rd μ S w v y:=by
 rcases hw with rfl | rfl | ⟨rfl,rfl | ⟨id,s,off,rfl⟩⟩
 ·exact .any v
 ·exact h
 ·obtain rfl:=h.gg;exact .pure (.sl none 0 0 [] 0 0 0 (λ_ _=>undef) rfl (W7 _) (λrow h=>by cases h) (λh=>by omega) (λi j h=>by omega) (λi row h=>by simp at h))
 ·obtain rfl:=h.gg;exact .osl id s off 0 0 none (W7 _) (.inl ⟨rfl,rfl⟩)
theorem af.wk {f:FuncId} {args:List AV} {H:List (Nat×Blk)} {post:AV->List (Nat×Blk)->Prop} (h:af P f args H λr H'=>∃r',wk r r'/\post r' H'):af P f args H post:=
 λR0 μ w0 vs hl ha hH hR=>(h R0 μ w0 vs hl ha hH hR).mono λ_ _ ⟨v,_,H',μ',S',h1,⟨r',h2,h3⟩,h4,h5⟩=>⟨v,r',H',μ',S',h1,h3,h4.wk h2,h5⟩
theorem ZF (hT:TabOK P T) {f:FuncId} {fn:Func} {c:Code} {args:List AV} {H:List (Nat×Blk)} {post:AV->List (Nat×Blk)->Prop}
  (hf:P.funcs[f]? = some fn) (hb:fn.body=some c)
  (h:∀C:Ctx,Cw P C (λs=>∃p r,vf T s fn.results.toList=some (p,r)/\p/\∃r',Eng.wk r r'/\post r' s.hp) [.code c] ⟨args++List.replicate (fn.ntmps-args.length) .any,H⟩):af P f args H post:=
 .wk (Eo hT hf hb h)
def ub:List AV->List AV->Prop
 | [],[]=>True
 | x::l,y::m=>wk x y/\ub l m
 | _,_=>False
theorem oL:∀{l m:List AV},ub l m->l.length=m.length/\∀(t:Nat) y,m[t]? = some y->∃x,l[t]? = some x/\wk x y
 | [],[],_=>⟨rfl,λt y h=>by simp at h⟩
 | x::l,y::m,h=>by
  obtain ⟨h1,h2⟩:=oL h.2;refine ⟨by simp[h1],λt z hz=>?_⟩;cases t with
  | zero=>
   simp only[List.getElem?_cons_zero,Option.some.injEq] at hz;subst hz;exact ⟨x,rfl,h.1⟩
  | succ t=>simpa using h2 t z Zf
 | [],_::_,h=>h.elim
 | _::_,[],h=>h.elim
def Ae:Blk->Prop
 | .cells _ _ rows=>rows=[]
 | .map _=>False
 | .iter ..=>False
 | .cap ..=>False
 | .pin ..=>False
def HE (H:List (Nat×Blk)):List (Nat×Blk)->Prop
 | []=>True
 | (i,b)::r=>(aa H i=some b\/(aa H i=none/\Ae b))/\HE H r
theorem zz {H:List (Nat×Blk)}:∀{K:List (Nat×Blk)} {i:Nat} {b:Blk},HE H K->aa K i=some b->aa H i=some b\/(aa H i=none/\Ae b)
 | (j,c)::r,i,b,h,hb=>by
  simp only[aa] at hb;split at hb
  ·rename_i e;subst e;injection hb with hb;subst hb;exact h.1
  ·exact zz h.2 hb
theorem ZU {l m:List AV} {H K:List (Nat×Blk)} (h:ub l m) (hK:HE H K) (hc:closed K (aE m)=true):Le C ⟨l,H⟩ ⟨m,K⟩:=by
 intro a w ⟨μ,S,hi⟩;obtain ⟨h1,h2⟩:=oL h;simp only[closed,Bool.and_eq_true] at hc;have hr:∀i,i∈aE m->(aa K i).isSome=true:=λi hi=>List.all_eq_true.1 hc.1 i hi
 have hcl:∀i b,aa K i=some b->∀j,j∈aG b->(aa K j).isSome=true:=λi b hb j hj=>List.all_eq_true.1 (List.all_eq_true.1 hc.2 _ (bk hb)) j hj
 let μ2:Nat->Option Nat:=λi=>if (aa K i).isSome=true then μ i else none
 have m2:∀{i g},μ2 i=some g->μ i=some g/\(aa K i).isSome=true:=fun {i g} hg=>by
  simp only[μ2] at hg;split at hg
  ·exact ⟨hg,by assumption⟩
  ·cases hg
 refine ⟨μ2,S,by rw[hi.size];exact h1,hi.defers,λt y hy=>?_,λi b hb=>?_,λi g hg=>?_,λi j g hg hg'=>hi.inj i j g (m2 hg).1 (m2 hg').1,hi.frm,hi.sb⟩
 ·obtain ⟨x,hx,hw⟩:=h2 t y hy;refine ((hi.tm t x hx).wk hw).less λi hi' g hg=>?_
  simp only[μ2];rw[if_pos (hr i (bf hy hi'))];exact hg
 ·rcases zz hK hb with h | ⟨h,he⟩
  ·refine (hi.hp i b h).less (by simp only[μ2];rw[hb];rfl) λj hj g hg=>?_
   simp only[μ2];rw[if_pos (hcl i b hb j hj)];exact hg
  ·cases b with
   | cells e s rows=>
    refine .inl ⟨he,?_⟩;simp only[μ2];rw[hb];cases e:μ i with
    | none=>rfl
    | some g=>
     obtain ⟨⟨c,h'⟩,_⟩:=hi.dom i g e;simp only at h';rw[h] at h';cases h'
   | map kvs=>exact he.elim
   | iter kvs seen=>exact he.elim
   | cap id' s N=>exact he.elim
   | pin id' g' t n=>exact he.elim
 ·obtain ⟨k1,k2⟩:=m2 hg;obtain ⟨_,k3⟩:=hi.dom i g k1;exact ⟨Yf.1 k2,k3⟩
mutual
def frz (id s:Nat) (rows:List (List AV)):AV->AV
 | .osl i s' off len=>if i=id then (if s'=s/\off+len≤rows.length then .sl ((rows.drop off).take len) else .any) else .osl i s' off len
 | .ptr i s' row off=>if i=id then (if s'=s/\row<rows.length then .rp (rows.getD row []) off else .any) else .ptr i s' row off
 | .mp i=>if i=id then .any else .mp i
 | .exs i s' o n c=>if i=id then .any else .exs i s' o n c
 | .agg cells=>.agg (ef id s rows cells)
 | .tup vs=>.tup (ef id s rows vs)
 | .fn f caps=>.fn f (ef id s rows caps)
 | .cnd c v=>.cnd c (frz id s rows v)
 | x=>x
def ef (id s:Nat) (rows:List (List AV)):List AV->List AV
 | []=>[]
 | x::r=>frz id s rows x::ef id s rows r
end
theorem ke (id s:Nat) (rows:List (List AV)):∀l,ef id s rows l=l.map (frz id s rows)
 | []=>rfl
 | x::r=>by simp[ef,ke id s rows r]
def js (id s:Nat) (rows:List (List AV)):List (Nat×Blk)->List (Nat×Blk)
 | []=>[]
 | (i,.cells e z R)::r=>if i=id then js id s rows r else (i,.cells e z (R.map (ef id s rows)))::js id s rows r
 | (i,.map kvs)::r=>if i=id then js id s rows r else (i,.map kvs)::js id s rows r
 | (i,.iter kvs seen)::r=>if i=id then js id s rows r else (i,.iter kvs seen)::js id s rows r
 | (i,.cap j z N)::r=>if i=id then js id s rows r else (i,if j=id then .cells 0 0 [] else .cap j z N)::js id s rows r
 | (i,.pin j g z N)::r=>if i=id then js id s rows r else (i,if j=id then .cells 0 0 [] else .pin j g z N)::js id s rows r
def GJ (id s:Nat) (rows:List (List AV)):Blk->Blk
 | .cells e z R=>.cells e z (R.map (ef id s rows))
 | .map kvs=>.map kvs
 | .iter kvs seen=>.iter kvs seen
 | .cap j z N=>if j=id then .cells 0 0 [] else .cap j z N
 | .pin j g z N=>if j=id then .cells 0 0 [] else .pin j g z N
theorem gI (id s:Nat) (rows:List (List AV)) (i:Nat):∀H,aa (js id s rows H) i=if i=id then none else (aa H i).map (GJ id s rows)
 | []=>by simp[js,aa]
 | (j,.cells e z R)::r=>by
  have ih:=gI id s rows i r;unfold js
  by_cases h:j=id
  ·subst h;rw[if_pos rfl,ih]
   by_cases h2:i=j
   ·rw[if_pos h2,if_pos h2]
   ·rw[if_neg h2,if_neg h2];simp only[aa];rw[if_neg (λh=>h2 h.symm)]
  ·rw[if_neg h];simp only[aa]
   by_cases h2:j=i
   ·subst h2;rw[if_pos rfl,if_neg h,if_pos rfl];rfl
   ·rw[if_neg h2,if_neg h2];exact ih
 | (j,.map kvs)::r=>by
  have ih:=gI id s rows i r;unfold js
  by_cases h:j=id
  ·subst h;rw[if_pos rfl,ih]
   by_cases h2:i=j
   ·rw[if_pos h2,if_pos h2]
   ·rw[if_neg h2,if_neg h2];simp only[aa];rw[if_neg (λh=>h2 h.symm)]
  ·rw[if_neg h];simp only[aa]
   by_cases h2:j=i
   ·subst h2;rw[if_pos rfl,if_neg h,if_pos rfl];rfl
   ·rw[if_neg h2,if_neg h2];exact ih
 | (j,.iter kvs seen)::r=>by
  have ih:=gI id s rows i r;unfold js
  by_cases h:j=id
  ·subst h;rw[if_pos rfl,ih]
   by_cases h2:i=j
   ·rw[if_pos h2,if_pos h2]
   ·rw[if_neg h2,if_neg h2];simp only[aa];rw[if_neg (λh=>h2 h.symm)]
  ·rw[if_neg h];simp only[aa]
   by_cases h2:j=i
   ·subst h2;rw[if_pos rfl,if_neg h,if_pos rfl];rfl
   ·rw[if_neg h2,if_neg h2];exact ih
 | (j,.cap k z N)::r=>by
  have ih:=gI id s rows i r;unfold js
  by_cases h:j=id
  ·subst h;rw[if_pos rfl,ih]
   by_cases h2:i=j
   ·rw[if_pos h2,if_pos h2]
   ·rw[if_neg h2,if_neg h2];simp only[aa];rw[if_neg (λh=>h2 h.symm)]
  ·rw[if_neg h];simp only[aa]
   by_cases h2:j=i
   ·subst h2;rw[if_pos rfl,if_neg h,if_pos rfl];rfl
   ·rw[if_neg h2,if_neg h2];exact ih
 | (j,.pin k q z N)::r=>by
  have ih:=gI id s rows i r;unfold js
  by_cases h:j=id
  ·subst h;rw[if_pos rfl,ih]
   by_cases h2:i=j
   ·rw[if_pos h2,if_pos h2]
   ·rw[if_neg h2,if_neg h2];simp only[aa];rw[if_neg (λh=>h2 h.symm)]
  ·rw[if_neg h];simp only[aa]
   by_cases h2:j=i
   ·subst h2;rw[if_pos rfl,if_neg h,if_pos rfl];rfl
   ·rw[if_neg h2,if_neg h2];exact ih
theorem RdP.Jc {S:Nat->Prop} {w:World} {v:Value} {x:AV} (h:RdP S w v x) (id s:Nat) (rows:List (List AV)):frz id s rows x=x:=by
 have key:∀(l:List AV),(∀(j:Nat) x,l[j]? = some x->frz id s rows x=x)->ef id s rows l=l:=by
  intro l
  induction l with
  | nil=>intro _;rfl
  | cons y r ih=>
   intro h;simp only[ef];rw[h 0 y rfl,ih (λj x hj=>h (j+1) x QI)]
 induction h with
 | fn f vals caps hl hr ih=>simp only[frz];rw[key caps ih]
 | agg cs cells hl hr ih=>simp only[frz];rw[key cells ih]
 | _=>rfl
theorem oE {id s:Nat} {rows:List (List AV)} {R':Value->AV->Prop} {vals:Nat->Value} {cells:List AV} (h:∀j x,cells[j]? = some x->R' (vals j) (frz id s rows x)) :
  ∀j x,(ef id s rows cells)[j]? = some x->R' (vals j) x:=by
 intro j x hx;rw[ke,Wz] at hx;cases e:cells[j]? with
 | none=>rw[e] at hx;cases hx
 | some y=>
  rw[e] at hx;simp only[Option.map_some,Option.some.injEq] at hx;subst hx;exact h j y e
theorem sM {l:List AV} {H:List (Nat×Blk)} {id e s:Nat} {rows:List (List AV)} (hb:aa H id=some (.cells e s rows)) (hp:(rows.all λrow=>row.all AV.bc)=true) {μ:Nat->Option Nat} {S:Nat->Prop} {a:Act} {w:World} (hi:Inv C μ S ⟨l,H⟩ a w) :
  Inv C (upd μ id none) (λb=>S b\/μ id=some b) ⟨l.map (frz id s rows),js id s rows H⟩ a w:=by
 have hB:=hi.hp id _ hb;have hpure:∀(i:Nat) row,rows[i]? = some row->∀(j:Nat) x,row[j]? = some x->x.bc=true:=λi row hi j x hj=>List.all_eq_true.1 (List.all_eq_true.1 hp row (W1 hi)) x (W1 hj)
 let S2:Nat->Prop:=λb=>S b\/μ id=some b
 let μ2:Nat->Option Nat:=upd μ id none
 have hS:∀b,S b->S2 b:=λb h=>.inl h
 have rd:∀{v:Value} {x:AV},Rd μ S w v x->Rd μ2 S2 w v (frz id s rows x):=by
  intro v x h
  induction h with
  | any v=>exact .any v
  | pure h=>rw[h.Jc];exact .pure (h.mono (aM.refl _ _) hS)
  | agg cs cells hl hr ih=>simp only[frz];exact .agg cs _ Z7 (oE (R':=λv x=>Rd μ2 S2 w v x) (vals:=λj=>cs.getD j undef) ih)
  | tup cs cells hl hr ih=>simp only[frz];exact .tup cs _ Z7 (oE (R':=λv x=>Rd μ2 S2 w v x) (vals:=λj=>cs.getD j undef) ih)
  | fn f vals cells hl hr ih=>simp only[frz];exact .fn f vals _ Z7 (oE (R':=λv x=>Rd μ2 S2 w v x) (vals:=λj=>vals.getD j undef) ih)
  | ptr i size row o g hg=>
   simp only[frz];split
   ·rename_i he;subst he;split
    ·rename_i hc;obtain ⟨rfl,hrow⟩:=hc
     rcases hB with ⟨rfl,_⟩ | ⟨g',c,k1,k2,k3,k4,k5⟩
     ·simp at hrow
     ·rw[hg] at k1;injection k1 with k1;subst k1
      have hr:=B7 hrow;have hlen:=k4 _ (W1 hr);have hlt:=iy (size:=size) hr;refine .pure (.rp g (row*size) o _ (λj=>c.getD (row*size+j) undef) (.inr hg) (λj hj=>?_) (λj x hx=>?_))
      ·rw[cell_of k2,Wx,W4 z8];rfl
      ·exact ((k5 _ _ hr j x hx).toP (hpure _ _ hr _ _ hx)).mono (aM.refl _ _) hS
    ·exact .any _
   ·rename_i he;exact .ptr i size row o g QL
  | osl i size o len cap A hc h=>
   simp only[frz];split
   ·rename_i he;subst he;split
    ·rename_i hcond;obtain ⟨rfl,hle⟩:=hcond;have hl:((rows.drop o).take len).length=len:=by simp;omega
     rcases h with ⟨rfl,h2⟩ | ⟨g,e',n,h1,rfl,h3,h4⟩
     ·exact .pure (.sl A 0 cap _ size 0 0 (λ_ _=>undef) hl hc (λrow h=>by simp at h) (λh=>by omega) (λi j h=>by omega) (λi row h=>by simp at h))
     ·rcases hB with ⟨_,k2⟩ | ⟨g',c,k1,k2,k3,k4,k5⟩
      ·rw[k2] at h1;cases h1
      ·rw[k1] at h1;injection h1 with h1;subst h1
       refine .pure (.sl _ len cap _ size g' (o*size) (λi j=>c.getD ((o+i)*size+j) undef) hl hc (λrow h=>k4 row (YS (YB h))) (λ_=>⟨rfl,.inr k1⟩) (λi' j hi' hj=>?_) (λi' row h j x hx=>?_))
       ·have hlt:(o+i')*size+size≤rows.length*size:=by
         have:=YC size (show o+i'+1≤rows.length by omega)
         rwa [Nat.succ_mul] at this
        rw[show o*size+(i'*size+j)=(o+i')*size+j from by rw[YZ];omega,cell_of k2,Wx,W4 z8];rfl
       ·rw[YL] at h;split at h
        ·rw[YX] at h;exact ((k5 _ row h j x hx).toP (hpure _ _ h _ _ hx)).mono (aM.refl _ _) hS
        ·cases h
    ·exact .any _
   ·rename_i he;refine .osl i size o len cap A hc ?_
    rcases h with h | ⟨g,e',n,h1,h2,h3,h4⟩
    ·exact .inl h
    ·exact .inr ⟨g,e',n,by simp only[μ2,upd];rw[if_neg he];exact h1,h2,h3,h4⟩
  | mp i g hg=>
   simp only[frz];split
   ·exact .any _
   ·rename_i he;exact .mp i g QL
  | exs i size o len cap g e n hc hg hr hn=>
   simp only[frz];split
   ·exact .any _
   ·rename_i he;exact .exs i size o len cap g e n hc QL hr hn
  | cndT v x h ih=>exact .cndT v _ ih
  | cndF x=>exact .cndF _
 have m2:∀{i g},μ2 i=some g->i≠id/\μ i=some g:=fun {i g} hg=>by
  simp only[μ2,upd] at hg;split at hg
  ·cases hg
  ·exact ⟨by assumption,hg⟩
 refine ⟨by simp[hi.size],hi.defers,λt x hx=>?_,λi b hb'=>?_,λi g hg=>?_,λi j g h1 h2=>hi.inj i j g (m2 h1).2 (m2 h2).2,hi.frm,λb hb'=>?_⟩
 ·simp only[Wz] at hx;cases e:l[t]? with
  | none=>rw[e] at hx;cases hx
  | some y=>
   rw[e] at hx;simp only[Option.map_some,Option.some.injEq] at hx;subst hx;exact rd (hi.tm t y e)
 ·simp only at hb';rw[gI] at hb';split at hb'
  ·cases hb'
  ·rename_i he;cases e1:aa H i with
   | none=>rw[e1] at hb';cases hb'
   | some b0=>
    rw[e1] at hb';simp only[Option.map_some,Option.some.injEq] at hb';subst hb';have hμ:μ2 i=μ i:=by simp only[μ2,upd];rw[if_neg he]
    have:=hi.hp i b0 e1;cases b0 with
    | cells e' z R=>
     rcases this with ⟨rfl,h2⟩ | ⟨g,c,h1,h2,h3,h4,h5⟩
     ·exact .inl ⟨rfl,hμ.trans h2⟩
     ·refine .inr ⟨g,c,hμ.trans h1,h2,by simpa using h3,λrow hrow=>?_,λi' row hi' j x hx=>?_⟩
      ·obtain ⟨r,hr,rfl⟩:=W5.1 hrow;rw[ke,List.length_map];exact h4 r hr
      ·rw[Wz] at hi';cases e2:R[i']? with
       | none=>rw[e2] at hi';cases hi'
       | some r=>
        rw[e2] at hi';simp only[Option.map_some,Option.some.injEq] at hi';subst hi';exact oE (R':=λv x=>Rd μ2 S2 w v x) (vals:=λj=>c.getD (i'*z+j) undef) (λj x hx=>rd (h5 i' r e2 j x hx)) j x hx
    | map kvs=>
     obtain ⟨g,es,clk,vals,h1,h2,h3,h4⟩:=this;exact ⟨g,es,clk,vals,hμ.trans h1,h2,h3,λp hp'=>(h4 p hp').mono (aM.refl _ _) hS⟩
    | iter kvs seen=>
     obtain ⟨g,es,clk,vals,had,h1,h2,h4⟩:=this;obtain ⟨m,k1,k2,k3⟩:=h2.lies;exact ⟨g,es,clk,vals,had,hμ.trans h1,⟨⟨m,k1,hS _ k2,k3⟩,h2.map,h2.last,h2.had⟩,λp hp'=>(h4 p hp').mono (aM.refl _ _) hS⟩
    | cap k z N=>
     obtain ⟨h1,g,e,h2,h3⟩:=this;simp only[GJ];split
     ·exact .inl ⟨rfl,hμ.trans h1⟩
     ·rename_i hk;refine ⟨hμ.trans h1,g,e,?_,h3⟩;simp only[upd];rw[if_neg hk];exact h2
    | pin k g z N=>
     obtain ⟨h1,h2,h3⟩:=this;simp only[GJ];split
     ·exact .inl ⟨rfl,hμ.trans h1⟩
     ·rename_i hk;refine ⟨hμ.trans h1,?_,h3⟩;simp only[upd];rw[if_neg hk];exact h2
 ·obtain ⟨k1,k2⟩:=m2 hg;obtain ⟨⟨b,h1⟩,h2,h3,h4⟩:=hi.dom i g k2;refine ⟨⟨GJ id s rows b,?_⟩,h2,?_,h4⟩
  ·simp only at h1 ⊢;rw[gI,if_neg k1,h1];rfl
  ·rintro (h | h)
   ·exact h3 h
   ·exact k1 (hi.inj _ _ _ k2 h)
 ·rcases hb' with h | h
  ·exact hi.sb b h
  ·obtain ⟨_,h2,_,h4⟩:=hi.dom id b h;exact ⟨h4,.inr h2⟩
theorem CH {l:List AV} {H:List (Nat×Blk)} {id e s:Nat} {rows:List (List AV)} (hb:aa H id=some (.cells e s rows)) (hp:(rows.all λrow=>row.all AV.bc)=true) :
  Le C ⟨l,H⟩ ⟨l.map (frz id s rows),js id s rows H⟩:=λ_ _ ⟨_,_,hi⟩=>⟨_,_,sM hb hp hi⟩
theorem ZZ {l:List AV} {H:List (Nat×Blk)} (id:Nat) {e s:Nat} {rows:List (List AV)} (hb:aa H id=some (.cells e s rows)) (hp:(rows.all λrow=>row.all AV.bc)=true)
  (h:Cw P C Ret k ⟨l.map (frz id s rows),js id s rows H⟩):Cw P C Ret k ⟨l,H⟩:=ah (CH hb hp) h
end
end Go.Eng
namespace Go.Eng
section
variable {P:Program} {T:Tab} {C:Ctx} {σ σ' s:St} {Ret:St->Prop}
theorem dI {c:Operand} {args:List Operand} (h:∀x,x∈fP σ c++aX σ args->aW σ s x):az s c args=az σ c args:=by
 unfold az;rw[cJ (λx hx=>h x (YJ _ hx)),nJ (λx hx=>h x (YA _ hx))]
def eC (ops:Array Oper) (σ:St) (o:Oper) (c:Operand) (args:List Operand) (r:AV):Sp:=⟨o.dst,r,[],cd ops o.guard++(fP σ c++aX σ args)⟩
theorem lB (ops:Array Oper) (σ:St) (o:Oper) (c:Operand) (args:List Operand) (r:AV):(eC ops σ o c args r).app σ=σ.put o.dst r:=by simp[Sp.app,eC]
theorem ic {ops:Array Oper} {o:Oper} {x:AV} {rd:List Loc} {b:Bool} (hg:guardOf ops σ o.guard=some b) (hg0:b=true\/∃y,x=.cnd false y)
  (h:b=true->∀s,(∀l,l∈rd->aW σ s l)->e_ P C o s (s.put o.dst x)):Rob P C ops o ⟨o.dst,x,[],cd ops o.guard++rd⟩ σ:=by
 intro s ha _ a w K Q hr hK;have hg':guardOf ops s o.guard=some b:=by rw[hX (λx hx=>ha x (YJ _ hx))];exact hg
 obtain ⟨μ,S,hi⟩:=hr;rw[bo hi hg'];cases b with
 | true=>exact .inl (h rfl s (λl hl=>ha l (YA _ hl)) a w K Q ⟨μ,S,hi⟩ hK)
 | false=>
  rcases hg0 with h | ⟨y,rfl⟩
  ·cases h
  ·exact hK _ _ ⟨μ,S,hi.put o.dst (.cndF y)⟩
theorem zc {ops:Array Oper} {o:Oper} {c:Operand} {args:Array Operand} {ats:Array TypeId} (ho:o.op=.call { callee:=.value c,args,argTypes:=ats }) (hg:o.guard=none) {p:Prop} {f:FuncId} {xs:List AV}
  (h:az σ c args.toList=some (p,f,xs)) (hp:p) (hc:aP P f) (hx:aE xs=[]) {r:AV} (hr:refs r=[]) (hf:af P f xs [] λr' _=>r'=r):Rob P C ops o (eC ops σ o c args.toList r) σ:=
 ic (b:=true) Q9 (.inl rfl) λ_ _ ha=>nv ho (by rw[dI ha];exact h) hp hc hx hr hf
def di:List Sp->St->Prop
 | [],_=>True
 | p::ps,σ=>(∀b,b∈p.new->Loc.blk b.1∉p.rd->aa σ.hp b.1=none)/\di ps (p.app σ)
theorem di.get:∀{ps:List Sp} {σ:St},di ps σ->∀(i:Nat) p,ps[i]? = some p->∀b,b∈p.new->Loc.blk b.1∉p.rd->aa (upto ps i σ).hp b.1=none
 | [],_,_,i,p,h,_,_,_=>by simp at h
 | q::ps,σ,hf,0,p,h,b,hb,hn=>by
  simp only[List.getElem?_cons_zero,Option.some.injEq] at h;subst h;exact hf.1 b hb hn
 | q::ps,σ,hf,i+1,p,h,b,hb,hn=>hf.2.get i p p5 b hb hn
theorem di.append:∀{ps qs:List Sp} {σ:St},di ps σ->di qs (cz ps σ)->di (ps++qs) σ
 | [],_,_,_,h=>h
 | _::_,_,_,h,h2=>⟨h.1,h.2.append h2⟩
theorem di.of_nil:∀{ps:List Sp} {σ:St},(∀p,p∈ps->p.new=[])->di ps σ
 | [],_,_=>trivial
 | p::ps,_,h=>⟨λb hb _=>(by rw[h p y8] at hb;cases hb),di.of_nil λq hq=>h q (by simp[hq])⟩
def an (P:Program) (C:Ctx) (ops:Array Oper) (Q:Exit->Act->World->Prop) (k n:Nat) (acc:dD) (l:List Oper) (σ:St):Prop:=
 ∃l1 l2 ps,l=l1++l2/\l1.length=ps.length/\dC P C ops l1 ps σ/\di ps σ/\(mH ops k (acc++gR ps)&&Ej n (acc++gR ps))=true/\br P C ops Q (k+acc.length+ps.length) (cz ps σ)
theorem ou {ops:Array Oper}:∀{l1 l2:List Oper} {p1 p2:List Sp} {σ:St},l1.length=p1.length->dC P C ops l1 p1 σ->dC P C ops l2 p2 (cz p1 σ)->dC P C ops (l1++l2) (p1++p2) σ
 | [],_,[],_,_,_,_,h=>h
 | _::l1,_,_::p1,_,_,hl,h,h2=>⟨h.1,ou Qs h.2 h2⟩
 | [],_,_::_,_,_,hl,_,_=>by simp at hl
 | _::_,_,[],_,_,hl,_,_=>by simp at hl
theorem nx:∀(p1 p2:List Sp) (σ:St),cz (p1++p2) σ=cz p2 (cz p1 σ)
 | [],_,_=>rfl
 | _::p1,p2,_=>nx p1 p2 _
theorem rT {ops:Array Oper} {Q:Exit->Act->World->Prop} {k n:Nat} {acc:dD} {l1 l:List Oper} {ps:List Sp} (hl:l1.length=ps.length) (hc:dC P C ops l1 ps σ) (hn:di ps σ)
  (h:an P C ops Q k n (acc++gR ps) l (cz ps σ)):an P C ops Q k n acc (l1++l) σ:=by
 obtain ⟨m1,m2,qs,rfl,h2,h3,h4,h5,h6⟩:=h;have e:acc++gR ps++gR qs=acc++gR (ps++qs):=by simp[gR]
 refine ⟨l1++m1,m2,ps++qs,by simp,by simp[hl,h2],ou hl hc h3,hn.append h4,by rw[←e];exact h5,?_⟩;rw[nx];have e2:k+(acc++gR ps).length+qs.length=k+acc.length+(ps++qs).length:=by simp[gR];omega
 rw[←e2];exact h6
theorem Hx (hT:TabOK P T) {ops:Array Oper} {Q:Exit->Act->World->Prop} {k n:Nat} {acc:dD} {l l':List Oper} {p:Prop} {ps:List Sp} (h:lq T ops l σ=some (p,ps,l',σ')) (hp:p) {sk:dD} (hs:gR ps=sk)
  (hk:an P C ops Q k n (acc++sk) l' σ'):an P C ops Q k n acc l σ:=by
 subst hs;obtain ⟨h1,h2,h3⟩:=ph h;obtain ⟨l1,k1,k2⟩:=jo (P:=P) (C:=C) hT ops l σ h hp (l2:=[]) (ps2:=[]) trivial y8;simp only[List.append_nil] at k2;subst k1;refine rT Z3 k2 (.of_nil λp hp=>?_) (by rw[h2];exact hk);obtain ⟨i,hi⟩:=W8 hp;exact h3 i p hi
theorem pj {ops:Array Oper} {Q:Exit->Act->World->Prop} {k n:Nat} {acc:dD} {o:Oper} {l:List Oper} {q:Sp} (hq:Rob P C ops o q σ) (hn:∀b,b∈q.new->Loc.blk b.1∉q.rd->aa σ.hp b.1=none) {sk:List Loc×List Loc} (hs:(q.wr,q.rd)=sk) (ha:q.app σ=σ')
  (hk:an P C ops Q k n (acc++[sk]) l σ'):an P C ops Q k n acc (o::l) σ:=by
 subst hs ha;exact rT (l1:=[o]) (ps:=[q]) rfl ⟨hq,trivial⟩ ⟨hn,trivial⟩ hk
theorem jJ {ops:Array Oper} {Q:Exit->Act->World->Prop} {k n:Nat} {acc:dD} {o:Oper} {l:List Oper} {q:Sp} (hq:Rob P C ops o q σ) (hn:q.new=[]) {sk:List Loc×List Loc} (hs:(q.wr,q.rd)=sk) (ha:q.app σ=σ')
  (hk:an P C ops Q k n (acc++[sk]) l σ'):an P C ops Q k n acc (o::l) σ:=by
 subst hs ha;exact rT (l1:=[o]) (ps:=[q]) rfl ⟨hq,trivial⟩ (.of_nil λp hp=>by rw[List.mem_singleton.1 hp];exact hn) hk
theorem Fm {ops:Array Oper} {Q:Exit->Act->World->Prop} {k n:Nat} {acc:dD} {o:Oper} {l:List Oper} {c:Operand} {args:Array Operand} {ats:Array TypeId} (ho:o.op=.call { callee:=.value c,args,argTypes:=ats }) (hg:o.guard=none) {p:Prop} {f:FuncId} {xs:List AV}
  (h:az σ c args.toList=some (p,f,xs)) (hp:p) (hc:aP P f) (hx:aE xs=[]) {r:AV} (hf:af P f xs [] λr' _=>r'=r) (hr:refs r=[]) {sk:List Loc×List Loc} (hs:((eC ops σ o c args.toList r).wr,(eC ops σ o c args.toList r).rd)=sk)
  (ha:σ.put o.dst r=σ') (hk:an P C ops Q k n (acc++[sk]) l σ'):an P C ops Q k n acc (o::l) σ:=
 jJ (zc ho hg h hp hc hx hr hf) rfl hs Wj hk
theorem Hv {ops:Array Oper} {Q:Exit->Act->World->Prop} {k n:Nat} {acc:dD} {l:List Oper} (hc:(mH ops k acc&&Ej n acc)=true) {j:Nat} (hj:k+acc.length=j) (h:br P C ops Q j σ):an P C ops Q k n acc l σ:=by
 subst hj;exact ⟨[],l,[],rfl,rfl,trivial,trivial,by simpa[gR] using hc,h⟩
theorem ZS {ops:Array Oper} {Q:Exit->Act->World->Prop} {k:Nat} {l:List Oper} (hl:ops.toList.drop k=l) (h:an P C ops Q k σ.tm.length [] l σ):br P C ops Q k σ:=by
 subst hl;obtain ⟨l1,l2,ps,h1,h2,h3,h4,h5,h6⟩:=h;rw[Bool.and_eq_true] at h5;simp only[List.nil_append] at h5;refine Ei (l:=l1) (ps:=ps) h5.1 h2 (λi hi=>?_) (λi q t hq hd=>?_) (λi q hq b hb hn=>h4.get i q hq b hb hn) h3 (by simpa using h6)
 ·rw[←YQ,←YX,h1,YO z8]
 ·have:=List.all_eq_true.1 h5.2 (q.wr,q.rd) (W5.2 ⟨q,W1 hq,rfl⟩);have:=List.all_eq_true.1 this (.tm t) (zQ hd);simpa using this
theorem uA (hT:TabOK P T) {ops:Array Oper} {Q:Exit->Act->World->Prop} {k:Nat} {o:Oper} (ho:ops[k]? = some o) (hc:Region.ready .any ops (aY ops.size k)=[k]) (hg:o.guard=none) {p:Prop} (h:eE T σ o.dst o.op=some (p,σ')) (hp:p)
  {j:Nat} (hj:k+1=j) (hk:br P C ops Q j σ'):br P C ops Q k σ:=by
 subst hj;refine xD ho hc (λa w K Q' hr hK=>?_) hk;obtain ⟨μ,S,hi⟩:=hr;rw[bo hi (show guardOf ops σ o.guard=some true from by rw[hg];rfl)];exact .inl (cr hT o h hp a w K Q' ⟨μ,S,hi⟩ hK)
theorem eu {ops:Array Oper} {Q:Exit->Act->World->Prop} {k:Nat} {o:Oper} (ho:ops[k]? = some o) (hc:Region.ready .any ops (aY ops.size k)=[k]) (hg:o.guard=none) (h:e_ P C o σ σ')
  {j:Nat} (hj:k+1=j) (hk:br P C ops Q j σ'):br P C ops Q k σ:=by
 subst hj;refine xD ho hc (λa w K Q' hr hK=>?_) hk;obtain ⟨μ,S,hi⟩:=hr;rw[bo hi (show guardOf ops σ o.guard=some true from by rw[hg];rfl)];exact .inl (h a w K Q' ⟨μ,S,hi⟩ hK)
theorem dR {k:List It} {all:Array Oper} {o:Oper} {l:List Oper} {c:Operand} {args:Array Operand} {ats:Array TypeId} (ho:o.op=.call { callee:=.value c,args,argTypes:=ats }) (hg:o.guard=none) {p:Prop} {f:FuncId} {xs:List AV}
  (h:az σ c args.toList=some (p,f,xs)) (hp:p) (hc:aP P f) (hx:aE xs=[]) {r:AV} (hf:af P f xs [] λr' _=>r'=r) (hr:refs r=[]) (ha:σ.put o.dst r=σ') (hk:Cw P C Ret (.ops all l::k) σ'):Cw P C Ret (.ops all (o::l)::k) σ:=by
 subst ha;exact bY Q9 (nv ho h hp hc hx hr hf) hk
theorem D_ {k:List It} {all:Array Oper} {o:Oper} {l:List Oper} {c:Operand} {args:Array Operand} {ats:Array TypeId} (ids:List Nat) (off:Nat) (ho:o.op=.call { callee:=.value c,args,argTypes:=ats }) (hg:o.guard=none) {p:Prop} {f:FuncId} {xs:List AV}
  (h:az σ c args.toList=some (p,f,xs)) (hp:p) (hc:aP P f) {H K:List (Nat×Blk)} {r:AV} (hH:sub ids σ.hp=H)
  (hf:af P f xs H λr' H'=>r'=r/\∀id b,aa K id=some b->aa H' id=some b)
  (hck:(aE xs).all ids.contains=true) (hc1:(H.all λp=>(aG p.2).all ids.contains)=true) (hc2:((del ids σ.hp).all λp=>(aG p.2).all λi=>!ids.contains i)=true)
  (hc3:closed K (refs r)=true) (hc4:(K.all λp=>(aa σ.hp (p.1+off)).isNone)=true) (hτ:(⟨σ.tm.map (kn ids),rh off K++del ids σ.hp⟩:St).put o.dst (ren off r)=σ')
  (hk:Cw P C Ret (.ops all l::k) σ'):Cw P C Ret (.ops all (o::l)::k) σ:=
 bY Q9 (tG ho h hp hc ids off hH hck hc1 hc2 hc3 hc4 hf hτ) hk
theorem BM (hT:TabOK P T) (n:Nat) {k:List It} {all:Array Oper} {l l1 l2:List Oper} {p:Prop} (h1:l.take n=l1) (h2:l.drop n=l2) (h:ju T all l1 σ=some (p,[],σ')) (hp:p) (hk:Cw P C Ret (.ops all l2::k) σ'):Cw P C Ret (.ops all l::k) σ:=by
 subst h1 h2;intro a w hr;have:=kE (P:=P) (C:=C) hT all (l.drop n) (l.take n) σ (Q:=aft (lG C Ret) (sem P C (lG C Ret) k)) h hp (λa w hr=>hk a w hr);rw[Yu] at this;exact this a w hr
theorem zh (hT:TabOK P T) (m:Nat) {ops:Array Oper} {Q:Exit->Act->World->Prop} {k n:Nat} {acc:dD} {l l1 l2:List Oper} {p:Prop} {ps:List Sp} (h1:l.take m=l1) (h2:l.drop m=l2) (h:lq T ops l1 σ=some (p,ps,[],σ')) (hp:p) {sk:dD} (hs:gR ps=sk)
  (hk:an P C ops Q k n (acc++sk) l2 σ'):an P C ops Q k n acc l σ:=by
 subst hs h1 h2;obtain ⟨g1,g2,g3⟩:=ph h;obtain ⟨q1,k1,k2⟩:=jo (P:=P) (C:=C) hT ops (l.take m) σ h hp (l2:=[]) (ps2:=[]) trivial y8;simp only[List.append_nil] at k1 k2;subst k1;have:=rT (l1:=l.take m) (l:=l.drop m) (by simpa using g1) k2 (.of_nil λp hp=>by
  obtain ⟨i,hi⟩:=W8 hp;exact g3 i p hi) (by rw[g2];exact hk)
 rwa [Yu] at this
end
end Go.Eng
namespace Go.Eng
section
variable {P:Program}
theorem E0 {μ:Nat->Option Nat} {S:Nat->Prop} {w:World} {v:Value} {id s off len e:Nat} {rows:List (List AV)} (hv:Rd μ S w v (.osl id s off len)) (hB:cG μ S w id (.cells e s rows))
  (hp:(rows.all λrow=>row.all AV.bc)=true) (hle:off+len≤rows.length):RdP (λb=>S b\/μ id=some b) w v (.sl ((rows.drop off).take len)):=by
 have hpure:∀(i:Nat) row,rows[i]? = some row->∀(j:Nat) x,row[j]? = some x->x.bc=true:=λi row hi j x hj=>List.all_eq_true.1 (List.all_eq_true.1 hp row (W1 hi)) x (W1 hj)
 obtain ⟨A,cap,rfl,hc,h⟩:=hv.bP;have hl:((rows.drop off).take len).length=len:=by simp;omega
 rcases h with ⟨rfl,h2⟩ | ⟨g,e',n,h1,rfl,h3,h4⟩
 ·exact .sl A 0 cap _ s 0 0 (λ_ _=>undef) hl hc (λrow h=>by simp at h) (λh=>by omega) (λi j h=>by omega) (λi row h=>by simp at h)
 ·rcases hB with ⟨_,k2⟩ | ⟨g',c,k1,k2,k3,k4,k5⟩
  ·rw[k2] at h1;cases h1
  ·rw[k1] at h1;injection h1 with h1;subst h1
   refine .sl _ len cap _ s g' (off*s) (λi j=>c.getD ((off+i)*s+j) undef) hl hc (λrow h=>k4 row (YS (YB h))) (λ_=>⟨rfl,.inr k1⟩) (λi' j hi' hj=>?_) (λi' row h j x hx=>?_)
   ·have hlt:(off+i')*s+s≤rows.length*s:=by
     have:=YC s (show off+i'+1≤rows.length by omega)
     rwa [Nat.succ_mul] at this
    rw[show off*s+(i'*s+j)=(off+i')*s+j from by rw[YZ];omega,cell_of k2,Wx,W4 z8];rfl
   ·rw[YL] at h;split at h
    ·rw[YX] at h;exact ((k5 _ row h j x hx).toP (hpure _ _ h _ _ hx)).mono (aM.refl _ _) (λ_ h=>.inl h)
    ·cases h
theorem af.read {f:FuncId} {args:List AV} {H:List (Nat×Blk)} {id s e:Nat} {rows:List (List AV)} (h:af P f args H λr H'=>r=.osl id s 0 rows.length/\∀i b,aa [(id,.cells e s rows)] i=some b->aa H' i=some b)
  (hp:(rows.all λrow=>row.all AV.bc)=true):af P f args H λr _=>r=.sl rows:=by
 intro R0 μ w0 vs hl ha hH hR;refine (h R0 μ w0 vs hl ha hH hR).mono ?_;rintro e' w' ⟨v,r,H',μ',S',rfl,⟨rfl,hb⟩,h4,h5,h6,h7,h8⟩;have hb:=hb id (.cells e s rows) (by simp only[aa,if_true]);have hrd:=E0 h4 (h5.blk id _ hb) hp z8;simp only[List.drop_zero,W2] at hrd;refine ⟨v,_,[],λ_=>none,_,rfl,rfl,.pure hrd,⟨λi b h=>by simp[aa] at h,λi g h=>Q0,λi j g h=>Q0,h5.glob.nil⟩,h6,λi g h=>Q0,λb hb'=>?_⟩
 rcases hb' with h | h
 ·exact h8 b h
 ·refine ⟨(h5.dom id b h).2.2,?_⟩
  rcases h7 id b h with h | h
  ·exact .inr (.inl h)
  ·exact .inr (.inr h)
end
end Go.Eng
namespace Go.Eng
section
variable {P:Program} {T:Tab} {C:Ctx} {σ σ' s:St} {Ret:St->Prop}
theorem Jg (d:Option Tmp) (r:AV):Le C (s.put d r) (s.put d (.cnd true r)):=by
 intro a w ⟨μ,S,hi⟩;cases d with
 | none=>exact ⟨μ,S,hi⟩
 | some t=>
  refine ⟨μ,S,{ hi with size:=by have:=hi.size;simp only[St.put,Yi] at this ⊢;exact this,tm:=λi x hx=>?_ }⟩
  by_cases e:t=i
  ·subst e;simp only[St.put,YV,if_true] at hx;split at hx
   ·rename_i hl;injection hx with hx
    subst hx;exact .cndT _ _ (hi.tm t r (by simp only[St.put,YV,if_true];rw[if_pos hl]))
   ·cases hx
  ·refine hi.tm i x ?_;simp only[St.put,YV,if_neg e] at hx ⊢;exact hx
theorem e_.cnd {o:Oper} {r:AV} (h:e_ P C o s (s.put o.dst r)):e_ P C o s (s.put o.dst (.cnd true r)):=
 λa w K Q hr hK=>h a w K Q hr λa' w' h'=>hK a' w' (Jg o.dst r a' w' h')
theorem C7 {ops:Array Oper} {o:Oper} {c:Operand} {args:Array Operand} {ats:Array TypeId} (ho:o.op=.call { callee:=.value c,args,argTypes:=ats }) {b:Bool} (hg:guardOf ops σ o.guard=some b) {p:Prop} {f:FuncId} {xs:List AV}
  (h:az σ c args.toList=some (p,f,xs)) (hp:b=true->p) (hc:aP P f) (hx:aE xs=[]) {r:AV} (hr:refs r=[]) (hf:b=true->af P f xs [] λr' _=>r'=r):Rob P C ops o (eC ops σ o c args.toList (.cnd b r)) σ:=by
 refine ic (b:=b) hg ?_ λhb s ha=>?_
 ·cases b with
  | true=>exact .inl rfl
  | false=>exact .inr ⟨r,rfl⟩
 ·subst hb;exact (nv ho (by rw[dI ha];exact h) (hp rfl) hc hx hr (hf rfl)).cnd
theorem Dg {ops:Array Oper} {Q:Exit->Act->World->Prop} {k n:Nat} {acc:dD} {o:Oper} {l:List Oper} {c:Operand} {args:Array Operand} {ats:Array TypeId} (ho:o.op=.call { callee:=.value c,args,argTypes:=ats }) {b:Bool} (hg:guardOf ops σ o.guard=some b) {p:Prop} {f:FuncId} {xs:List AV}
  (h:az σ c args.toList=some (p,f,xs)) (hp:b=true->p) (hc:aP P f) (hx:aE xs=[]) {r:AV} (hf:b=true->af P f xs [] λr' _=>r'=r) (hr:refs r=[]) {sk:List Loc×List Loc} (hs:((eC ops σ o c args.toList (.cnd b r)).wr,(eC ops σ o c args.toList (.cnd b r)).rd)=sk)
  (ha:σ.put o.dst (.cnd b r)=σ') (hk:an P C ops Q k n (acc++[sk]) l σ'):an P C ops Q k n acc (o::l) σ:=
 jJ (C7 ho hg h hp hc hx hr hf) rfl hs Wj hk
theorem xA {k:List It} {all:Array Oper} {o:Oper} {l:List Oper} {c:Operand} {args:Array Operand} {ats:Array TypeId} (ho:o.op=.call { callee:=.value c,args,argTypes:=ats }) {b:Bool} (hg:guardOf all σ o.guard=some b) {p:Prop} {f:FuncId} {xs:List AV}
  (h:az σ c args.toList=some (p,f,xs)) (hp:b=true->p) (hc:aP P f) (hx:aE xs=[]) {r:AV} (hf:b=true->af P f xs [] λr' _=>r'=r) (hr:refs r=[]) (ha:σ.put o.dst (.cnd b r)=σ') (hk:Cw P C Ret (.ops all l::k) σ'):Cw P C Ret (.ops all (o::l)::k) σ:=by
 subst ha;intro a w hrel
 show wpList P all _ (o::l) a w
 unfold wpList;obtain ⟨μ,S,hi⟩:=hrel;rw[bo hi hg];cases b with
 | false=>exact hk _ _ ⟨μ,S,hi.put o.dst (.cndF r)⟩
 | true=>exact .inl ((nv ho h (hp rfl) hc hx hr (hf rfl)).cnd a w _ _ ⟨μ,S,hi⟩ λa' w' h'=>hk a' w' h')
end
end Go.Eng
namespace Go.Eng
section
variable {P:Program} {T:Tab} {C:Ctx} {σ σ' s:St} {Ret:St->Prop}
mutual
theorem Bt {h h':List (Nat×Blk)}:∀(x:AV),(∀id,id∈refs x->aa h' id=aa h id)->view h' x=view h x
 | .osl id s off len,he=>by simp only[view];rw[he id QA]
 | .ptr id s row off,he=>by simp only[view];rw[he id QA]
 | .mp id,he=>by simp only[view];rw[he id QA]
 | .fn f caps,he=>by simp only[view];rw[jL caps (λid hid=>he id WC)]
 | .agg cells,he=>by simp only[view];rw[jL cells (λid hid=>he id WC)]
 | .any,_=>rfl
 | .tup _,_=>rfl
 | .cnd ..,_=>rfl
 | .int ..,_=>rfl
 | .bool _,_=>rfl
 | .str _,_=>rfl
 | .exs ..,_=>rfl
 | .nilp,_=>rfl
 | .nili,_=>rfl
 | .ifc,_=>rfl
 | .nils,_=>rfl
 | .nilm,_=>rfl
 | .sl _,_=>rfl
 | .rp ..,_=>rfl
 | .rm _,_=>rfl
theorem jL {h h':List (Nat×Blk)}:∀(l:List AV),(∀id,id∈aE l->aa h' id=aa h id)->fA h' l=fA h l
 | [],_=>rfl
 | x::r,he=>by
  simp only[fA];rw[Bt x (λid hid=>he id (by simp[aE,hid])),jL r (λid hid=>he id (by simp[aE,hid]))]
end
theorem pI {id:Nat}:∀{os:List Operand},id∈aE (eN σ os).2->Loc.blk id∈aX σ os
 | [],h=>by simp[eN,aE] at h
 | o::r,h=>by
  simp only[eN,aE,List.mem_append] at h;simp only[aX,List.mem_append]
  rcases h with h | h
  ·refine .inl ?_;have h':=tD (ev σ o) id h;cases o with
   | tmp t=>exact List.mem_cons_of_mem _ (W5.2 ⟨id,h',rfl⟩)
   | const v=>
    simp only[ev,ofValue] at h';split at h'<;>simp[refs] at h'
   | func f=>simp[ev,refs,aE] at h'
   | global g=>simp[ev,refs] at h'
  ·exact .inr (pI h)
theorem wM (l m:List AV):aE (l++m)=aE l++aE m:=by
 induction l with
 | nil=>rfl
 | cons x r ih=>simp only[List.cons_append,aE,ih,Yk]
theorem tX {c:Operand} {args:List Operand} {p:Prop} {f:FuncId} {xs:List AV} (h:az σ c args=some (p,f,xs)) {id:Nat} (hid:id∈aE xs):Loc.blk id∈fP σ c++aX σ args:=by
 unfold az at h;split at h
 ·rename_i q g caps he;simp only[Option.some.injEq,Prod.mk.injEq] at h;obtain ⟨_,_,rfl⟩:=h;rw[wM,List.mem_append] at hid
  rcases hid with hid | hid
  ·exact YA _ (pI hid)
  ·refine YJ _ ?_;have:id∈aE (eN σ [c]).2:=by
    simp only[eN,he,aE,refs,List.mem_append];exact .inl hid
   simpa[aX] using pI this
 ·cases h
theorem mS {k:List It} {all:Array Oper} {o:Oper} {l:List Oper} {c:Operand} {args:Array Operand} {ats:Array TypeId} (ho:o.op=.call { callee:=.value c,args,argTypes:=ats }) (hg:o.guard=none) {p q:Prop} {f:FuncId} {xs ys:List AV}
  (h:az σ c args.toList=some (p,f,xs)) (hp:p) (hv:fA σ.hp xs=some (q,ys)) (hq:q) (hc:aP P f) {r:AV} (hf:af P f ys [] λr' _=>r'=r) (hr:r.scalar=true) (ha:σ.put o.dst r=σ') (hk:Cw P C Ret (.ops all l::k) σ'):Cw P C Ret (.ops all (o::l)::k) σ:=by
 subst ha;exact bY Q9 (vz ho h hp hv hq hc hr hf) hk
theorem xh {c:Operand} {args:List Operand} {p:Prop} {f:FuncId} {xs:List AV} (h:az σ c args=some (p,f,xs)) (ha:∀x,x∈fP σ c++aX σ args->aW σ s x):fA s.hp xs=fA σ.hp xs:=
 jL xs λ_ hid=>ha _ (tX h hid)
theorem C9 {ops:Array Oper} {o:Oper} {c:Operand} {args:Array Operand} {ats:Array TypeId} (ho:o.op=.call { callee:=.value c,args,argTypes:=ats }) {b:Bool} (hg:guardOf ops σ o.guard=some b) {p q:Prop} {f:FuncId} {xs ys:List AV}
  (h:az σ c args.toList=some (p,f,xs)) (hp:b=true->p) (hv:fA σ.hp xs=some (q,ys)) (hq:b=true->q) (hc:aP P f) {r:AV} (hr:r.scalar=true) (hf:b=true->af P f ys [] λr' _=>r'=r):Rob P C ops o (eC ops σ o c args.toList (.cnd b r)) σ:=by
 refine ic (b:=b) hg ?_ λhb s ha=>?_
 ·cases b with
  | true=>exact .inl rfl
  | false=>exact .inr ⟨r,rfl⟩
 ·subst hb;exact (vz ho (by rw[dI ha];exact h) (hp rfl) (by rw[xh h ha];exact hv) (hq rfl) hc hr (hf rfl)).cnd
theorem Dj {ops:Array Oper} {Q:Exit->Act->World->Prop} {k n:Nat} {acc:dD} {o:Oper} {l:List Oper} {c:Operand} {args:Array Operand} {ats:Array TypeId} (ho:o.op=.call { callee:=.value c,args,argTypes:=ats }) {b:Bool} (hg:guardOf ops σ o.guard=some b) {p q:Prop} {f:FuncId} {xs ys:List AV}
  (h:az σ c args.toList=some (p,f,xs)) (hp:b=true->p) (hv:fA σ.hp xs=some (q,ys)) (hq:b=true->q) (hc:aP P f) {r:AV} (hf:b=true->af P f ys [] λr' _=>r'=r) (hr:r.scalar=true) {sk:List Loc×List Loc} (hs:((eC ops σ o c args.toList (.cnd b r)).wr,(eC ops σ o c args.toList (.cnd b r)).rd)=sk)
  (ha:σ.put o.dst (.cnd b r)=σ') (hk:an P C ops Q k n (acc++[sk]) l σ'):an P C ops Q k n acc (o::l) σ:=
 jJ (C9 ho hg h hp hv hq hc hr hf) rfl hs Wj hk
theorem zi (x:AV) {ops:Array Oper} {Q:Exit->Act->World->Prop} {k n:Nat} {acc:dD} {o:Oper} {l:List Oper} (hg:guardOf ops σ o.guard=some false) {sk:List Loc×List Loc}
  (hs:((⟨o.dst,.cnd false x,[],cd ops o.guard++[]⟩:Sp).wr,cd ops o.guard)=sk) (ha:σ.put o.dst (.cnd false x)=σ') (hk:an P C ops Q k n (acc++[sk]) l σ'):an P C ops Q k n acc (o::l) σ:=
 jJ (ic (rd:=[]) hg (.inr ⟨x,rfl⟩) (λh=>nomatch h)) rfl (by rw[←hs,List.append_nil]) Ze hk
def mr (T:Tab) (σ:St) (d:Nat) (op:Op):Option (Prop×Blk×AV):=
 match op with
 | .buildSlice t n parts=>
  match dj T σ t n parts.toList with
  | some (p,e,rows)=>some (p,.cells e (T.siz e) rows,.osl d (T.siz e) 0 n)
  | none=>none
 | .alloc t=>some (T.siz t≠0/\(T.zer t).length=T.siz t,.cells t (T.siz t) [T.zer t],.ptr d (T.siz t) 0 0)
 | .box t x=>
  match jx T t (evS σ x).2 with
  | some xs=>some ((evS σ x).1/\xs.length=T.siz t/\xs.all AV.leaf=true,.cells t (T.siz t) [xs],.ptr d (T.siz t) 0 0)
  | none=>none
 | .makeMap _ none=>some (True,.map [],.mp d)
 | _=>none
theorem oV {e n:Nat}:∀{parts:List (Nat×Operand)},(∀q,q∈parts->evS s q.2=evS σ q.2)->lh T s e n parts=lh T σ e n parts
 | [],_=>rfl
 | (j,o)::r,h=>by
  simp only[lh];rw[h (j,o) y8,oV (λq hq=>h q (by simp[hq]))]
theorem qG {d:Nat} {op:Op} (h:∀x,x∈aX σ op.operands.toList->aW σ s x):mr T s d op=mr T σ d op:=by
 have he:∀o,o∈op.operands.toList->evS s o=evS σ o:=λo ho=>cJ λx hx=>h x (dL ho x hx)
 unfold mr;split
 ·rename_i t n parts;have:dj T s t n parts.toList=dj T σ t n parts.toList:=by
   unfold dj;split
   ·rw[oV (λq hq=>he q.2 (by
     simp only[Op.operands,List.toList_toArray];exact W5.2 ⟨q,hq,rfl⟩))]
   ·rfl
  rw[this]
 ·rfl
 ·rw[he _ x7]
 ·rfl
 ·rfl
theorem C_ {d:Nat} (h:aa s.hp d=none):s.room d=(True,s):=by unfold St.room;rw[h]
theorem qH (hT:TabOK P T) {o:Oper} {d:Nat} (hd:o.dst=some d) {p:Prop} {b:Blk} {x:AV} (h:mr T s d o.op=some (p,b,x)) (hp:p) (hf:aa s.hp d=none) :
  e_ P C o s (St.put ⟨s.tm,(d,b)::s.hp⟩ (some d) x):=by
 have hr:=C_ hf;unfold mr at h;split at h
 ·rename_i t n parts ho;split at h
  ·rename_i q e rows hb;simp only[Option.some.injEq,Prod.mk.injEq] at h;obtain ⟨rfl,rfl,rfl⟩:=h;refine cr hT o (p:=q/\True) ?_ ⟨hp,trivial⟩;rw[hd,ho];simp only[eE,hr,hb]
  ·cases h
 ·rename_i t ho;simp only[Option.some.injEq,Prod.mk.injEq] at h;obtain ⟨rfl,rfl,rfl⟩:=h;refine cr hT o (p:=T.siz t≠0/\(T.zer t).length=T.siz t/\True) ?_ ⟨hp.1,hp.2,trivial⟩;rw[hd,ho];simp only[eE,hr]
 ·rename_i t y ho;split at h
  ·rename_i xs hx;simp only[Option.some.injEq,Prod.mk.injEq] at h;obtain ⟨rfl,rfl,rfl⟩:=h;refine cr hT o (p:=(evS s y).1/\xs.length=T.siz t/\xs.all AV.leaf=true/\True) ?_ ⟨hp.1,hp.2.1,hp.2.2,trivial⟩;rw[hd,ho];simp only[eE,hr,hx]
  ·cases h
 ·rename_i t ho;simp only[Option.some.injEq,Prod.mk.injEq] at h;obtain ⟨rfl,rfl,rfl⟩:=h;refine cr hT o (p:=True) ?_ trivial;rw[hd,ho];simp only[eE,hr]
 ·cases h
theorem Hw (hT:TabOK P T) {ops:Array Oper} {Q:Exit->Act->World->Prop} {k n:Nat} {acc:dD} {o:Oper} {l:List Oper} {d:Nat} (hd:o.dst=some d) (hg:guardOf ops σ o.guard=some true) {p:Prop} {b:Blk} {x:AV} (h:mr T σ d o.op=some (p,b,x)) (hp:p) (hf:aa σ.hp d=none)
  {sk:List Loc×List Loc} (hs:([Loc.tm d,Loc.blk d],cd ops o.guard++aX σ o.op.operands.toList)=sk) (ha:St.put ⟨σ.tm,(d,b)::σ.hp⟩ (some d) x=σ') (hk:an P C ops Q k n (acc++[sk]) l σ'):an P C ops Q k n acc (o::l) σ:=by
 refine pj (q:=⟨some d,x,[(d,b)],cd ops o.guard++aX σ o.op.operands.toList⟩) ?_ (λc hc _=>by rw[List.mem_singleton.1 hc];exact hf) (by rw[←hs];rfl) (by rw[←ha];rfl) hk;intro s hagree hfree a w K Q' hr hK;have hg':guardOf ops s o.guard=some true:=by rw[hX (λx hx=>hagree x (YJ _ hx))];exact hg
 obtain ⟨μ,S,hi⟩:=hr;rw[bo hi hg'];refine .inl ?_;have hn:mr T s d o.op=some (p,b,x):=by rw[qG (λx hx=>hagree x (YA _ hx))];exact h
 have hfd:aa s.hp d=none:=by
  by_cases h:Loc.blk d∈cd ops o.guard++aX σ o.op.operands.toList
  ·exact (hagree _ h).trans hf
  ·exact hfree (d,b) y8 h
 exact qH hT hd hn hp hfd a w K Q' ⟨μ,S,hi⟩ hK
attribute [go_sem] mr
end
end Go.Eng
namespace Go.Eng
attribute [go_sem] go ju mkc eE eW evS ev eN strip ofValue guardOf EA St.put St.room aa ba gx kY Eng.loadCells KD.isA gv jx putAt
 wE BG KD.isBool An rX Fx g_ oD hZ oG jj pq qF fC lj lh vV dj lz fq d_
 kill refs aE bX ez qR fy AV.leaf vf AT wS one az view fA AV.bc AV.scalar ns exitTo St.drop
 ov sg xB ti mapOf xk KD.uO pV AV.jY lq mL fP aX cd Op.operands Call.operands cz Sp.app Sp.wr gR yw ly cK ren ib AS rh Eng.sub Eng.del kn closed wk ub Ae HE frz ef js eC sf
attribute [go_sem] List.getD_cons_zero List.getD_cons_succ List.set_cons_zero List.set_cons_succ List.getD_nil List.map_cons List.map_nil List.length_cons List.length_nil Option.map_some Option.map_none
 List.replicate_succ List.replicate_zero List.cons_append List.nil_append List.all_cons List.all_nil List.drop_succ_cons List.drop_zero List.take_succ_cons List.take_zero
 true_and and_true if_true if_false Option.bind_some Bool.false_eq_true Bool.and_true Bool.true_and Bool.and_self ne_eq Nat.reduceEqDiff List.toList_toArray Option.bind_some Option.toList Option.bind_none List.append_nil List.length_map List.append_toArray List.length_append W2 W7 List.any_nil List.any_cons List.all_append Option.isSome_some Option.isSome_none Option.isNone_none Option.isNone_some List.all_nil List.contains_nil List.contains_cons Yz YP Nat.add_zero Int.toNat_natCast
attribute [go_sem] Nat.reduceLT Nat.reduceBEq Nat.reduceLeDiff Nat.reduceAdd Nat.reduceMul Nat.reduceSub Nat.reduceEqDiff Int.reduceNeg Int.reduceToNat Int.reduceAdd Int.reduceSub
end Go.Eng
namespace La
open Go Go.Eng
structure Entry where
 name:List UInt8
 fid:Int
deriving DecidableEq,Inhabited
structure Node where
 fid:Int
 dir:Bool
 data:List UInt8
 entries:List Entry
 version:Int
deriving DecidableEq,Inhabited
structure Act where
 kind:Int
 fid:Int
 dir:Int
 name:List UInt8
 to:Int
 toName:List UInt8
 data:List UInt8
deriving DecidableEq,Inhabited
structure Rec where
 act:Act
 version:Int
 id:Int
deriving DecidableEq,Inhabited
def i (n:Int):AV:=.int .i64 n
def ZY (b:UInt8):List AV:=[.int .u8 (b.toNat:Int)]
def ZI (n:Int):List AV:=[.int .i64 n]
def ZE (e:Entry):List AV:=[.str e.name,.int .i64 e.fid]
def ZN (n:Node):List AV:=[.int .i64 n.fid,.bool n.dir,.sl (n.data.map ZY),.sl (n.entries.map ZE),.int .i64 n.version]
def ZA (a:Act):List AV:=[.int .i64 a.kind,.int .i64 a.fid,.int .i64 a.dir,.str a.name,.int .i64 a.to,.str a.toName,.sl (a.data.map ZY)]
def ZR (r:Rec):List AV:=[.int .i64 r.act.kind,.int .i64 r.act.fid,.int .i64 r.act.dir,.str r.act.name,.int .i64 r.act.to,.str r.act.toName,.sl (r.act.data.map ZY),.int .i64 r.version,.int .i64 r.id]
structure Fam {α:Type} (f:α->List AV) (n:Nat):Prop where
 len:∀a,(f a).length=n
 leaf:∀a,(f a).all AV.leaf=true
 pure:∀a,(f a).all AV.bc=true
 free:∀a,aE (f a)=[]
section
variable {α:Type} {f:α->List AV} {n:Nat}
theorem Fam.rowsOf (h:Fam f n) (l:List α):Eng.rowsOf n (l.map f):=by
 intro row hr;obtain ⟨a,_,rfl⟩:=W5.1 hr;exact h.len a
theorem Fam.jv (h:Fam f n) (l:List α):((l.map f).all λrow=>row.all AV.leaf)=true:=by
 rw[List.all_eq_true];intro row hr;obtain ⟨a,_,rfl⟩:=W5.1 hr;exact h.leaf a
theorem Fam.fB (h:Fam f n) (l:List α):((l.map f).all λrow=>row.all AV.bc)=true:=by
 rw[List.all_eq_true];intro row hr;obtain ⟨a,_,rfl⟩:=W5.1 hr;exact h.pure a
theorem Fam.lJ (h:Fam f n) (id:Nat) (l:List α):((l.map f).all λrow=>row.all λx=>!(refs x).contains id)=true:=by
 rw[List.all_eq_true];intro row hr;obtain ⟨a,_,rfl⟩:=W5.1 hr;rw[List.all_eq_true];intro x hx;obtain ⟨j,hj⟩:=W8 hx;have:refs x=[]:=by
  have h1:∀i,i∈refs x->i∈aE (f a):=λi hi=>bf hj hi
  rw[h.free a] at h1;exact List.eq_nil_iff_forall_not_mem.2 λi hi=>by simpa using h1 i hi
 rw[this];rfl
theorem Fam.aG (h:Fam f n) (e s:Nat) (l:List α):Eng.aG (.cells e s (l.map f))=[]:=by
 simp only[Eng.aG]
 induction l with
 | nil=>rfl
 | cons a r ih=>simp only[List.map_cons,List.flatMap_cons,h.free a,ih,List.nil_append]
theorem Fam.ib (h:∀a (off:Nat),Eng.ib off (f a)=f a) (off:Nat) (l:List α):(l.map f).map (Eng.ib off)=l.map f:=by
 induction l with
 | nil=>rfl
 | cons a r ih=>simp only[List.map_cons,h a off,ih]
theorem Fam.ef (h:∀a (id s:Nat) (rows:List (List AV)),Eng.ef id s rows (f a)=f a) (id s:Nat) (rows:List (List AV)) (l:List α):(l.map f).map (Eng.ef id s rows)=l.map f:=by
 induction l with
 | nil=>rfl
 | cons a r ih=>simp only[List.map_cons,h a id s rows,ih]
end
@[go_sem,simp] theorem Ix {α:Type} (f:α->List AV) (l:List α):(l.map f).take l.length=l.map f:=Wy y8
theorem fz {α:Type} [Inhabited α] (f:α->List AV) {l:List α} {i:Nat} (h:i<l.length):(l.take (i+1)).map f=(l.take i).map f++[f (l.getD i default)]:=by
 rw[List.take_succ_eq_append_getElem h,List.map_append,Wv,Ww h];rfl
theorem ZT {α:Type} [Inhabited α] {l:List α} {i:Nat} (h:i<l.length):l.take (i+1)=l.take i++[l.getD i default]:=by
 rw[List.take_succ_eq_append_getElem h,Wv,Ww h];rfl
theorem bT {α:Type} [Inhabited α] {l:List α} {i:Nat} (h:i<l.length):l.drop i=l.getD i default::l.drop (i+1):=by
 rw[List.drop_eq_getElem_cons h,Wv,Ww h];rfl
def ct:Option Nat->Int
 | none=>-1
 | some k=>k
theorem eR {α:Type} {p:α->Bool}:∀{l:List α} {i:Nat} {x:α},l[i]? = some x->(∀y,y∈l.take i->p y=false)->p x=true->l.findIdx? p=some i
 | [],i,x,h,_,_=>by simp at h
 | y::r,0,x,h,_,hp=>by
  simp only[List.getElem?_cons_zero,Option.some.injEq] at h;subst h;simp[List.findIdx?_cons,hp]
 | y::r,i+1,x,h,hn,hp=>by
  have h0:=hn y y8;rw[List.findIdx?_cons,h0];simp only[Bool.false_eq_true,if_false];rw[eR (l:=r) (i:=i) p5 (λz hz=>hn z (by simp[hz])) hp];rfl
structure Node.Small (n:Node):Prop where
 data:n.data.length≤100000000
 entries:n.entries.length≤100000000
structure Small (l:List Node):Prop where
 len:l.length≤100000000
 each:∀n,n∈l->n.Small
theorem YG {α:Type} [Inhabited α] {l:List α} {i:Nat} (h:i<l.length):l.getD i default∈l:=by
 rw[Wv,Ww h];exact Yb h
theorem Fam.getD {α:Type} [Inhabited α] {f:α->List AV} {l:List α} {i:Nat} (h:i<l.length):(l.map f).getD i []=f (l.getD i default):=by
 rw[Wv,Wz,Wv,Ww h];rfl
theorem gY:Fam ZY 1:=⟨λ_=>rfl,λ_=>rfl,λ_=>rfl,λ_=>rfl⟩
@[go_sem,simp] theorem D0 (l:List _):Eng.rowsOf 1 (l.map ZY):=gY.rowsOf l
@[go_sem,simp] theorem Gq (l:List _):((l.map ZY).all λrow=>row.all AV.leaf)=true:=gY.jv l
@[go_sem,simp] theorem kK (l:List _):((l.map ZY).all λrow=>row.all AV.bc)=true:=gY.fB l
@[go_sem,simp] theorem FF (id:Nat) (l:List _):((l.map ZY).all λrow=>row.all λx=>!(refs x).contains id)=true:=gY.lJ id l
@[go_sem,simp] theorem FG (e s:Nat) (l:List _):aG (.cells e s (l.map ZY))=[]:=gY.aG e s l
@[go_sem,simp] theorem Gp (id s:Nat) (rows:List (List AV)) (l:List _):(l.map ZY).map (ef id s rows)=l.map ZY:=Fam.ef (λ_ _ _ _=>rfl) id s rows l
theorem su:Fam ZI 1:=⟨λ_=>rfl,λ_=>rfl,λ_=>rfl,λ_=>rfl⟩
@[go_sem,simp] theorem GP (e s:Nat) (l:List _):aG (.cells e s (l.map ZI))=[]:=su.aG e s l
theorem fc:Fam ZE 2:=⟨λ_=>rfl,λ_=>rfl,λ_=>rfl,λ_=>rfl⟩
@[go_sem,simp] theorem qZ (l:List _):Eng.rowsOf 2 (l.map ZE):=fc.rowsOf l
@[go_sem,simp] theorem tZ (l:List _):((l.map ZE).all λrow=>row.all AV.leaf)=true:=fc.jv l
@[go_sem,simp] theorem dt (l:List _):((l.map ZE).all λrow=>row.all AV.bc)=true:=fc.fB l
@[go_sem,simp] theorem lZ (id:Nat) (l:List _):((l.map ZE).all λrow=>row.all λx=>!(refs x).contains id)=true:=fc.lJ id l
@[go_sem,simp] theorem Ek (e s:Nat) (l:List _):aG (.cells e s (l.map ZE))=[]:=fc.aG e s l
@[go_sem,simp] theorem FJ (off:Nat) (l:List _):(l.map ZE).map (ib off)=l.map ZE:=Fam.ib (λ_ _=>rfl) off l
@[go_sem,simp] theorem FI (id s:Nat) (rows:List (List AV)) (l:List _):(l.map ZE).map (ef id s rows)=l.map ZE:=Fam.ef (λ_ _ _ _=>rfl) id s rows l
theorem fO:Fam ZN 5:=⟨λ_=>rfl,λ_=>rfl,λ_=>rfl,λ_=>rfl⟩
@[go_sem,simp] theorem tc (l:List _):Eng.rowsOf 5 (l.map ZN):=fO.rowsOf l
@[go_sem,simp] theorem wz (l:List _):((l.map ZN).all λrow=>row.all AV.leaf)=true:=fO.jv l
@[go_sem,simp] theorem fi (l:List _):((l.map ZN).all λrow=>row.all AV.bc)=true:=fO.fB l
@[go_sem,simp] theorem nD (id:Nat) (l:List _):((l.map ZN).all λrow=>row.all λx=>!(refs x).contains id)=true:=fO.lJ id l
@[go_sem,simp] theorem FP (e s:Nat) (l:List _):aG (.cells e s (l.map ZN))=[]:=fO.aG e s l
@[go_sem,simp] theorem Ha (off:Nat) (l:List _):(l.map ZN).map (ib off)=l.map ZN:=Fam.ib (λ_ _=>rfl) off l
@[go_sem,simp] theorem G_ (id s:Nat) (rows:List (List AV)) (l:List _):(l.map ZN).map (ef id s rows)=l.map ZN:=Fam.ef (λ_ _ _ _=>rfl) id s rows l
theorem kP:Fam ZA 7:=⟨λ_=>rfl,λ_=>rfl,λ_=>rfl,λ_=>rfl⟩
@[go_sem,simp] theorem qn (l:List _):((l.map ZA).all λrow=>row.all AV.bc)=true:=kP.fB l
@[go_sem,simp] theorem Gg (id:Nat) (l:List _):((l.map ZA).all λrow=>row.all λx=>!(refs x).contains id)=true:=kP.lJ id l
@[go_sem,simp] theorem Gh (e s:Nat) (l:List _):aG (.cells e s (l.map ZA))=[]:=kP.aG e s l
@[go_sem,simp] theorem IE (id s:Nat) (rows:List (List AV)) (l:List _):(l.map ZA).map (ef id s rows)=l.map ZA:=Fam.ef (λ_ _ _ _=>rfl) id s rows l
theorem gH:Fam ZR 9:=⟨λ_=>rfl,λ_=>rfl,λ_=>rfl,λ_=>rfl⟩
@[go_sem,simp] theorem ug (l:List _):Eng.rowsOf 9 (l.map ZR):=gH.rowsOf l
@[go_sem,simp] theorem yW (l:List _):((l.map ZR).all λrow=>row.all AV.leaf)=true:=gH.jv l
@[go_sem,simp] theorem cW (l:List _):((l.map ZR).all λrow=>row.all AV.bc)=true:=gH.fB l
@[go_sem,simp] theorem iM (id:Nat) (l:List _):((l.map ZR).all λrow=>row.all λx=>!(refs x).contains id)=true:=gH.lJ id l
@[go_sem,simp] theorem Ho (e s:Nat) (l:List _):aG (.cells e s (l.map ZR))=[]:=gH.aG e s l
@[go_sem,simp] theorem IM (off:Nat) (l:List _):(l.map ZR).map (ib off)=l.map ZR:=Fam.ib (λ_ _=>rfl) off l
@[go_sem,simp] theorem IL (id s:Nat) (rows:List (List AV)) (l:List _):(l.map ZR).map (ef id s rows)=l.map ZR:=Fam.ef (λ_ _ _ _=>rfl) id s rows l
@[go_sem,simp] theorem GQ (a):aE (ZI a)=[]:=su.free a
@[go_sem,simp] theorem El (a):aE (ZE a)=[]:=fc.free a
@[go_sem,simp] theorem jR (a):aE (ZN a)=[]:=fO.free a
@[go_sem,simp] theorem Gi (a):aE (ZA a)=[]:=kP.free a
@[go_sem,simp] theorem Hp (a):aE (ZR a)=[]:=gH.free a
@[go_sem,simp] theorem JU (l:List UInt8):(l.map ZY).map Eng.byteOf=l:=by
 rw[Yc];have:Eng.byteOf∘ZY=id:=by
  funext b
  show UInt8.ofNat ((b.toNat:Int)).toNat=b
  simp
 rw[this,List.map_id]
@[go_sem,simp] theorem I3 (b:UInt8):DN (ZY b):=⟨_,rfl⟩
end La
namespace Go.Eng
open Go.ChangeShapes Go.WideShapes Go.RowKit
section
variable {H:Type} {enc:TypeId×Value->H} {P:Program}
theorem Frm.at {W W':World} (h:Frm (λ_=>False) W W') {b:Nat} (hb:b<W.heap.size):W'.heap[b]? = W.heap[b]?:=h.block b hb (λh=>h)
theorem Frm.kept {W W':World} (h:Frm (λ_=>False) W W') (may:MemPlace->Prop):W.keptBut W' may:=by
 refine ⟨h.os,h.output,λi hi=>?_⟩;rw[h.at hi];split
 ·rename_i c t fr c' t' fr' h1 h2;rw[h1] at h2;simp only[Option.some.injEq,Obj.cells.injEq] at h2;obtain ⟨rfl,rfl,rfl⟩:=h2;exact ⟨rfl,rfl,rfl,λ_ _=>rfl⟩
 ·rename_i es c es' c' h1 h2;rw[h1] at h2;simp only[Option.some.injEq,Obj.map.injEq] at h2;obtain ⟨rfl,rfl⟩:=h2;exact .inr ⟨rfl,rfl⟩
 ·rfl
theorem qT {W W':World} (h:Frm (λ_=>False) W W') {b:Nat} {sp:Nat->Bool} {held:Bool}:∀{ts:List TypeId} {vs:List Value} {ds:List (DataW H)} {ps:List MemPlace},
  DataW.TrodAll enc P W b sp held ts vs ds ps->(∀p∈ps,p.block<W.heap.size)->DataW.TrodAll enc P W' b sp held ts vs ds ps
 | [],[],[],_,h,_=>h
 | _::_,_::_,_::_,_,⟨p,q,⟨n,h1⟩,h2,e⟩,hl=>by
  subst e;refine ⟨p,q,⟨n,DataW.trod_carry n _ _ _ h1 λx hx=>?_⟩,qT h h2 (λx hx=>hl x (YA _ hx)),rfl⟩;have hb:=hl x (YJ _ hx);cases x with
  | cell b off=>exact jX (h.at hb)
  | map b=>exact h.at hb
theorem ni (hl:laidOutB P=true) (hm:mapsRowed P=true) (hz:∀t e,t<P.types.size->P.underlying t=some (.slice e)->0<P.cellsOf e) {f:Func} {s:ChangeSpec} {W W':World} {args:Array Value} {ds gs:List (DataW H)} {before:List MemPlace} {tb:TypeId}
  (hts:∀t∈f.params.toList,t<P.types.size) (hv:s.vars=[]) (hb:P.underlying tb=some .bool) (hr:f.resultTypes=#[tb])
  (hW:DataW.Whole enc P f.params.toList s.vars false W args.toList ds gs before) (hf:Frm (λ_=>False) W W')
  (h1:(s.fn H (ds++gs)).results=[.lit (.bool true)]) (h2:(s.fn H (ds++gs)).args=ds) (h3:(s.fn H (ds++gs)).vars=[]) :
  s.post enc P f false true false false W args (.bool true) W':=by
 have hW':=hW;obtain ⟨p,q,hA,hV,rfl,hfz,hnd⟩:=hW;rw[hv] at hV;obtain ⟨rfl,rfl⟩:=trodVars_none hV;have hlt:∀x∈p,x.block<W.heap.size:=λx hx=>hA.lt x hx
 refine ⟨ds,[],p++[],[],p,[],hW',?_,?_,?_,hf.kept _,λh=>nomatch h⟩
 ·rw[h1,hr];exact trodAll_cons_mk (shut_bool hb _) trodAll_mk0
 ·rw[h2];exact qT hf (DataW.TrodAll.respare (kids_rows hl hm) hz hts hA (λx hx=>by simpa using hlt x hx)) hlt
 ·rw[h3,hv];rfl
end
end Go.Eng
namespace La
open Go Go.Eng Go.Proofs
theorem ZM:(Tryz.prog).follows .mixedOrders=true:=by kernel_rfl
theorem own:ownKnob Tryz.prog.godebug=none:=by kernel_rfl
theorem laid:laidOutB Tryz.prog=true:=by kernel_rfl
theorem B8:mapsRowed Tryz.prog=true:=by kernel_rfl
theorem full:∀t e,t<Tryz.prog.types.size->Tryz.prog.underlying t=some (.slice e)->0<Tryz.prog.cellsOf e:=slices_full_of _ w4
end La
namespace Go.Eng
section
variable {P:Program} {T:Tab} {C:Ctx} {σ σ':St} {Ret:St->Prop} {k:List It}
def goR:Nat->List It->Option (List It)
 | 0,k=>some k
 | n+1,k=>
  match k with
  | .code (.seq x y)::k=>goR n (.code x::.code y::k)
  | .code (.block id c)::k=>goR n (.code c::.blk id::k)
  | .code .skip::k=>goR n k
  | .blk _::k=>goR n k
  | .code (.exit id)::k=>
   match exitTo id k with
   | some k'=>goR n k'
   | none=>none
  | .code (.region _ ops false)::k=>goR n (.ops ops ops.toList::k)
  | .ops _ []::k=>goR n k
  | k=>some k
theorem lU:∀(n:Nat) {k k':List It},goR n k=some k'->Cw P C Ret k' σ->Cw P C Ret k σ
 | 0,k,k',h,hk=>by
  simp only[goR,Option.some.injEq] at h;subst h;exact hk
 | n+1,k,k',h,hk=>by
  unfold goR at h;split at h
  ·exact pE (lU n h hk)
  ·exact xz (lU n h hk)
  ·exact BN (lU n h hk)
  ·exact D9 (lU n h hk)
  ·split at h
   ·rename_i k1 he;exact BL he (lU n h hk)
   ·cases h
  ·exact uy (lU n h hk)
  ·exact dq (lU n h hk)
  ·simp only[Option.some.injEq] at h;subst h;exact hk
theorem zk {l:List AV} {t:Nat} {x:AV} (h:l.getD t .any=x) (hx:x≠.any):l.set t x=l:=by
 apply List.ext_getElem?
 intro i;rw[YV];split
 ·rename_i e;subst e;rw[Wv] at h;cases e:l[t]? with
  | none=>rw[e] at h;exact absurd h.symm hx
  | some y=>
   rw[e] at h;simp only[Option.getD_some] at h;subst h;rw[if_pos (W3.1 e).1]
 ·rfl
theorem aq (t:Nat) {b:Bool} (h:σ.tm.getD t .any=.bool b) (hk:∀c,b=c->Cw P C Ret k ⟨σ.tm.set t (.bool c),σ.hp⟩):Cw P C Ret k σ:=by
 have:=hk b rfl
 rwa [zk h (λh=>nomatch h)] at this
theorem eo (t:Nat) {b:Bool} {ops:Array Oper} {Q:Exit->Act->World->Prop} {k n:Nat} {acc:dD} {l:List Oper} (h:σ.tm.getD t .any=.bool b) (hk:∀c,b=c->an P C ops Q k n acc l ⟨σ.tm.set t (.bool c),σ.hp⟩):an P C ops Q k n acc l σ:=by
 have:=hk b rfl
 rwa [zk h (λh=>nomatch h)] at this
theorem Eb {c:Operand} {x y:Code} {b:Bool} {p:Prop} (hc:evS σ c=(p,.bool b)) (hp:p) (hb:b=true) (ht:Cw P C Ret (.code x::k) σ):Cw P C Ret (.code (.cond c x y)::k) σ:=
 vP hc hp (λ_=>ht) (λh=>by rw[hb] at h;cases h)
theorem Ea {c:Operand} {x y:Code} {b:Bool} {p:Prop} (hc:evS σ c=(p,.bool b)) (hp:p) (hb:b=false) (hf:Cw P C Ret (.code y::k) σ):Cw P C Ret (.code (.cond c x y)::k) σ:=
 vP hc hp (λh=>by rw[hb] at h;cases h) (λ_=>hf)
mutual
def nrm:AV->AV
 | .nils=>.sl []
 | .sl rows=>.sl (iu rows)
 | .rp cells off=>.rp (dz cells) off
 | .agg cells=>.agg (dz cells)
 | .tup vs=>.tup (dz vs)
 | .fn f caps=>.fn f (dz caps)
 | x=>x
def dz:List AV->List AV
 | []=>[]
 | x::r=>nrm x::dz r
def iu:List (List AV)->List (List AV)
 | []=>[]
 | x::r=>dz x::iu r
end
theorem eh:∀l,dz l=l.map nrm
 | []=>rfl
 | x::r=>by simp[dz,eh r]
theorem cH:∀l,iu l=l.map dz
 | []=>rfl
 | x::r=>by simp[iu,cH r]
theorem RdP.nrm {S:Nat->Prop} {w:World} {v:Value} {x:AV} (h:RdP S w v x):RdP S w v (Eng.nrm x):=by
 have key:∀{l:List AV} {f:Nat->Value},(∀j x,l[j]? = some x->RdP S w (f j) (Eng.nrm x))->∀j x,(dz l)[j]? = some x->RdP S w (f j) x:=fun {l f} h j x hx=>by
  rw[eh,Wz] at hx;cases e:l[j]? with
  | none=>rw[e] at hx;cases hx
  | some y=>rw[e] at hx;simp only[Option.map_some,Option.some.injEq] at hx;subst hx;exact h j y e
 induction h with
 | int k n=>exact .int k n
 | bool b=>exact .bool b
 | str s l h=>exact .str s l h
 | nilp=>exact .nilp
 | nili=>exact .nili
 | ifc t p=>exact .ifc t p
 | nils=>exact .sl none 0 0 [] 0 0 0 (λ_ _=>undef) rfl (W7 _) (λrow h=>by simp at h) (λh=>by omega) (λi j h=>by omega) (λi row h=>by simp at h)
 | nilm=>exact .nilm
 | sl A len cap rows size g off vals hl hc hsz hA hcell hr ih=>
  refine .sl A len cap (iu rows) size g off vals (by rw[cH,List.length_map];exact hl) hc (λrow hrow=>?_) hA hcell (λi row hi j x hx=>?_)
  ·rw[cH] at hrow;obtain ⟨r,hr',rfl⟩:=W5.1 hrow;rw[eh,List.length_map];exact hsz r hr'
  ·rw[cH,Wz] at hi;cases e:rows[i]? with
   | none=>rw[e] at hi;cases hi
   | some r=>
    rw[e] at hi;simp only[Option.map_some,Option.some.injEq] at hi;subst hi;exact key (f:=vals i) (ih i r e) j x hx
 | rp g o off cells vals hS hcell hr ih=>
  refine .rp g o off (dz cells) vals hS (λj hj=>hcell j (by rw[eh,List.length_map] at hj;exact hj)) (key ih)
 | rm g es clk kvs vals hS hg hm hr ih=>exact .rm g es clk kvs vals hS hg hm hr
 | fn f vals caps hl hr ih=>exact .fn f vals _ QX (key ih)
 | agg cs cells hl hr ih=>exact .agg cs _ QX (key ih)
theorem Rd.nrm {μ:Nat->Option Nat} {S:Nat->Prop} {w:World} {v:Value} {x:AV} (h:Rd μ S w v x):Rd μ S w v (Eng.nrm x):=by
 have key:∀{l:List AV} {f:Nat->Value},(∀j x,l[j]? = some x->Rd μ S w (f j) (Eng.nrm x))->∀j x,(dz l)[j]? = some x->Rd μ S w (f j) x:=fun {l f} h j x hx=>by
  rw[eh,Wz] at hx;cases e:l[j]? with
  | none=>rw[e] at hx;cases hx
  | some y=>rw[e] at hx;simp only[Option.map_some,Option.some.injEq] at hx;subst hx;exact h j y e
 induction h with
 | any v=>exact .any v
 | pure h=>exact .pure h.nrm
 | agg cs cells hl hr ih=>exact .agg cs _ QX (key ih)
 | tup vs xs hl hr ih=>exact .tup vs _ QX (key ih)
 | fn f vals caps hl hr ih=>exact .fn f vals _ QX (key ih)
 | ptr id size row off g hg=>exact .ptr id size row off g hg
 | osl id size off len cap A hc h=>exact .osl id size off len cap A hc h
 | mp id g hg=>exact .mp id g hg
 | exs id size off len cap g e n hc hg hr hn=>exact .exs id size off len cap g e n hc hg hr hn
 | cndT v x h ih=>exact .cndT v x h
 | cndF x=>exact .cndF x
theorem af.nrm {f:FuncId} {args args':List AV} {H:List (Nat×Blk)} {post:AV->List (Nat×Blk)->Prop} (hn:dz args=args') (h:af P f args' H post):af P f args H post:=by
 intro R0 μ w0 vs hl hr hH hR;subst hn;refine h R0 μ w0 vs QX (λj x hx=>?_) hH hR;rw[eh,Wz] at hx;cases e:args[j]? with
 | none=>rw[e] at hx;cases hx
 | some y=>rw[e] at hx;simp only[Option.map_some,Option.some.injEq] at hx;subst hx;exact (hr j y e).nrm
attribute [go_sem] goR
end
end Go.Eng
