/- Texts of this claim, part 3: EngG, EngH, EngI. No condition. -/
import Derived.Test.YtmcfbfdonjllaaaGreatDoorZP2
import Derived.Laws.AppendOwn
set_option maxRecDepth 10000
set_option maxHeartbeats 4000000
set_option linter.unusedSimpArgs false
set_option linter.unusedVariables false
namespace Go.Eng
section
variable {P:Program} {T:Tab} {C:Ctx} {μ:Nat->Option Nat} {S:Nat->Prop} {σ:St} {a:Act} {w:World}
mutual
def refs:AV->List Nat
 | .ptr id _ _ _=>[id]
 | .osl id _ _ _=>[id]
 | .mp id=>[id]
 | .exs id _ _ _ _=>[id]
 | .agg cells=>aA cells
 | .tup vs=>aA vs
 | .fn _ caps=>aA caps
 | .cnd _ v=>refs v
 | _=>[]
def aA:List AV->List Nat
 | []=>[]
 | x::r=>refs x++aA r
end
theorem aW {x:AV}:∀{l:List AV} {j:Nat} {id:Nat},l[j]? = some x->id∈refs x->id∈aA l
 | [],j,id,h,_=>by simp at h
 | y::r,j,id,h,hx=>by
  simp only[aA,List.mem_append];cases j with
  | zero=>simp only[List.getElem?_cons_zero,gL] at h;subst h;exact .inl hx
  | succ j=>exact .inr (aW u1 hx)
theorem Rd.other {v:Value} {x:AV} (h:Rd μ S w v x) {id:Nat} (hn:id∉refs x) (g:Option Nat):Rd (upd μ id g) S w v x:=by
 induction h with
 | any v=>exact .any v
 | pure h=>exact .pure h
 | agg cs cells hl hr ih=>exact .agg cs cells hl (λj x hx=>ih j x hx (λh=>hn QS))
 | tup vs xs hl hr ih=>exact .tup vs xs hl (λj x hx=>ih j x hx (λh=>hn QS))
 | fn f vals caps hl hr ih=>exact .fn f vals caps hl (λj x hx=>ih j x hx (λh=>hn QS))
 | ptr i size row off g' hg=>
  refine .ptr i size row off g' ?_;unfold upd;rw[if_neg p4];exact hg
 | osl i size off len cap A hc h=>
  refine .osl i size off len cap A hc ?_
  rcases h with h | ⟨g',e,n,h1,h2,h3,h4⟩
  ·exact .inl h
  ·refine .inr ⟨g',e,n,?_,h2,h3,h4⟩;unfold upd;rw[if_neg p4];exact h1
 | mp i g' hg=>
  refine .mp i g' ?_;unfold upd;rw[if_neg p4];exact hg
 | exs i size off len cap g' e n hc hg hr hn'=>
  refine .exs i size off len cap g' e n hc ?_ hr hn';unfold upd;rw[if_neg p4];exact hg
 | cndT v x h ih=>exact .cndT v x (ih (λh=>hn (by simpa[refs] using h)))
 | cndF x=>exact .cndF x
def kill (id:Nat) (x:AV):AV:=if (refs x).contains id then .any else x
def bo (id:Nat):Blk->Prop
 | .cells _ _ rows=>(rows.all λrow=>row.all λx=>!(refs x).contains id)=true
 | .map _=>True
 | .iter ..=>True
 | .cap id' _ _=>id'≠id
 | .pin id' _ _ _=>id'≠id
def ek (id:Nat):List (Nat×Blk)->Prop
 | []=>True
 | (i,b)::r=>(i≠id->bo id b)/\ek id r
theorem ek.get {id:Nat}:∀{h:List (Nat×Blk)},ek id h->∀{i b},aa h i=some b->i≠id->bo id b
 | [],_,i,b,hb,_=>by simp[aa] at hb
 | (j,c)::r,hf,i,b,hb,hi=>by
  simp only[aa] at hb;split at hb
  ·rename_i e;injection hb with hb;subst hb e
   exact hf.1 hi
  ·exact hf.2.get hb hi
theorem nj {id:Nat} {rows:List (List AV)} (h:(rows.all λrow=>row.all λx=>!(refs x).contains id)=true):∀row,row∈rows->∀x,x∈row->id∉refs x:=by
 intro row hrow x hx;have:=List.all_eq_true.1 (List.all_eq_true.1 h row hrow) x hx;simpa using this
theorem cJ.other {id i:Nat} {b:Blk} (h:cJ μ S w i b) (hi:i≠id) (hf:bo id b) (g:Option Nat):cJ (upd μ id g) S w i b:=by
 have e:upd μ id g i=μ i:=by unfold upd;rw[if_neg hi]
 cases b with
 | cells t s rows=>
  simp only[cJ,e]
  rcases h with h | ⟨g',c,h1,h2,h3,h4,h5⟩
  ·exact .inl h
  ·exact .inr ⟨g',c,h1,h2,h3,h4,λk row hk j x hx=>(h5 k row hk j x hx).other (nj hf row (W6 hk) x (W6 hx)) g⟩
 | map kvs=>
  simp only[cJ,e];exact h
 | iter kvs seen=>
  simp only[cJ,e];exact h
 | cap id' s N=>
  obtain ⟨h1,g',e',h2,h3⟩:=h;refine ⟨e.trans h1,g',e',?_,h3⟩;unfold upd;rw[if_neg hf];exact h2
 | pin id' g' t n=>
  obtain ⟨h1,h2,h3⟩:=h;refine ⟨e.trans h1,?_,h3⟩;unfold upd;rw[if_neg hf];exact h2
def St.drop (σ:St) (id:Nat):St:=⟨σ.tm.map (kill id),dM σ.hp id⟩
theorem Jk {v:Value} {x:AV} (h:Rd μ S w v x) (id:Nat) (g:Option Nat):Rd (upd μ id g) S w v (kill id x):=by
 unfold kill;split
 ·exact .any v
 ·rename_i hn;exact h.other (by simpa using hn) g
theorem Inv.drop (hi:Inv C μ S σ a w) (id:Nat) (hf:ek id σ.hp):Inv C (upd μ id none) S (σ.drop id) a w:=by
 refine ⟨by simp[St.drop,hi.size],hi.defers,λt x hx=>?_,λi b hb=>?_,λi g hg=>?_,λi j g h1 h2=>?_,hi.frm,hi.sb⟩
 ·simp only[St.drop,W5] at hx;cases e:σ.tm[t]? with
  | none=>rw[e] at hx;cases hx
  | some y=>
   rw[e] at hx;simp only[Option.map_some,gL] at hx;subst hx;exact Jk (hi.tm t y e) id none
 ·simp only[St.drop,bz] at hb;split at hb
  ·cases hb
  ·rename_i e;exact (hi.hp i b hb).other (λh=>e h.symm) (hf.get hb (λh=>e h.symm)) none
 ·unfold upd at hg;split at hg
  ·cases hg
  ·rename_i e;obtain ⟨⟨c,h1⟩,h2⟩:=hi.dom i g hg;exact ⟨⟨c,by simp only[St.drop,bz];rw[if_neg (λh=>e h.symm)];exact h1⟩,h2⟩
 ·unfold upd at h1 h2;split at h1
  ·cases h1
  ·split at h2
   ·cases h2
   ·exact hi.inj i j g h1 h2
def St.room (σ:St) (id:Nat):Prop×St:=
 match aa σ.hp id with
 | none=>(True,σ)
 | some _=>(ek id σ.hp,σ.drop id)
theorem nK (σ:St) (id:Nat):aa (σ.room id).2.hp id=none:=by
 unfold St.room;split
 ·assumption
 ·simp[St.drop,bz]
theorem Inv.room (hi:Inv C μ S σ a w) (id:Nat) (hp:(σ.room id).1):∃μ',Inv C μ' S (σ.room id).2 a w:=by
 unfold St.room at hp ⊢;split
 ·exact ⟨μ,hi⟩
 ·rename_i b hb;rw[hb] at hp;exact ⟨_,hi.drop id hp⟩
theorem lP (t:TypeId) (cs:Array Value):(newRow t cs).run P w=.ok ⟨w.heap.size,0,none⟩ (w.alloc (.cells cs t)):=rfl
theorem xe (μ:Nat->Option Nat) (S:Nat->Prop) (w:World) (id e s:Nat) (rows:List (List AV)) (cs:Array Value) (hs:cs.size=rows.length*s) (hrow:∀row,row∈rows->row.length=s)
  (h:∀(i:Nat) row,rows[i]? = some row->∀(j:Nat) x,row[j]? = some x->Rd μ S w (cs.getD (i*s+j) undef) x) (hn:μ id=none) (hS:∀b,S b->b<w.heap.size)
  (hd:∀i g,μ i=some g->g<w.heap.size):cJ (upd μ id (some w.heap.size)) S (w.alloc (.cells cs e)) id (.cells e s rows):=by
 refine .inr ⟨w.heap.size,cs,by simp[upd],jd w _,by omega,hrow,λi row hi j x hx=>?_⟩;refine (h i row hi j x hx).mono (λb hb=>bb w _ b (hS b hb)) (λ_ h=>h) (λi' g hg=>?_) (λi' g hg=>aN (bb w _ g (hd i' g hg)));unfold upd;rw[if_neg WA];exact hg
theorem wI (hi:Inv C μ S σ a w) {id t:Nat} (hf:aa σ.hp id=none) {v:Value} {xs:List AV} (hx:RdL μ S w v.cells xs) :
  ∃w',(Instr.box t v).run P w=.ok (.pointer (some ⟨w.heap.size,0,none⟩)) w'/\Inv C (upd μ id (some w.heap.size)) S ⟨σ.tm,(id,.cells t xs.length [xs])::σ.hp⟩ a w':=by
 refine ⟨w.alloc (.cells v.cells t),by simp[Instr.box,newVar,lP],?_⟩;refine hi.new id hf _ _ (xe μ S w id t xs.length [xs] v.cells (by simp[hx.1]) w8 (λi row hi' j x hj=>?_) (hi.fresh hf) (λb hb=>(hi.sb b hb).1) (λi g hg=>(hi.dom i g hg).2.2.2));cases i with
 | zero=>simp only[List.getElem?_cons_zero,gL] at hi';subst hi';simpa using hx.2 j x hj
 | succ i=>simp at hi'
theorem AD (hT:TabOK P T) (hi:Inv C μ S σ a w) {id t:Nat} (hf:aa σ.hp id=none) (ht:T.siz t≠0) :
  ∃w',(Instr.alloc t true (.tuple #[])).run P w=.ok (.pointer (some ⟨w.heap.size,0,none⟩)) w'/\Inv C (upd μ id (some w.heap.size)) S ⟨σ.tm,(id,.cells t (T.zer t).length [T.zer t])::σ.hp⟩ a w':=by
 obtain ⟨z,z1,_,z3,_⟩:=uY hT ht;obtain ⟨w',h1,h2⟩:=wI (P:=P) (t:=t) hi hf (z3 μ S w);refine ⟨w',?_,h2⟩;simp only[Instr.alloc,Sem.run_bind,z1,Result.andThen_ok];exact h1
theorem vq (hi:Inv C μ S σ a w) {id t:Nat} (hf:aa σ.hp id=none) :
  ∃w',(Instr.makeMap t none).run P w=.ok (.map (some w.heap.size)) w'/\Inv C (upd μ id (some w.heap.size)) S ⟨σ.tm,(id,.map [])::σ.hp⟩ a w':=by
 refine ⟨w.alloc (.map #[] 0),rfl,?_⟩;refine hi.new id hf _ _ ⟨w.heap.size,#[],0,λ_=>undef,by simp[upd],jd w _,⟨λe h=>by simp at h,λp h=>by simp at h,by simp,rfl,List.Pairwise.nil,λe h=>by simp at h,by simp⟩,λp h=>by simp at h⟩
def lR:List (List AV)->List (Nat×List AV)->List (List AV)
 | l,[]=>l
 | l,(j,xs)::r=>lR (l.set j xs) r
structure RdR (μ:Nat->Option Nat) (S:Nat->Prop) (w:World) (s:Nat) (cs:Array Value) (rows:List (List AV)):Prop where
 size:cs.size=rows.length*s
 len:∀row,row∈rows->row.length=s
 rd:∀(i:Nat) row,rows[i]? = some row->∀(j:Nat) x,row[j]? = some x->Rd μ S w (cs.getD (i*s+j) undef) x
theorem ru (hi:Inv C μ S σ a w) {e n:Nat} (hs:T.siz e≠0):∀(parts:List (Nat×Operand)) (p:Prop) (l:List (Nat×List AV)) (cs:Array Value) (rows:List (List AV)),
  lJ T σ e n parts=some (p,l)->p->rows.length=n->RdR μ S w (T.siz e) cs rows ->
  ∃cs',Instr.fill (λi=>some (i*T.siz e,T.siz e)) cs (parts.map λq=>(q.1,a.eval q.2))=some cs'/\RdR μ S w (T.siz e) cs' (lR rows l)
 | [],p,l,cs,rows,h,_,_,hr=>by
  simp only[lJ,gL,gM] at h;obtain ⟨_,rfl⟩:=h;exact ⟨cs,rfl,hr⟩
 | (k,o)::parts,p,l,cs,rows,h,hp,hn,hr=>by
  unfold lJ at h;split at h
  ·rename_i p' l' xs hrest hxs;simp only[gL,gM] at h;obtain ⟨rfl,rfl⟩:=h;obtain ⟨h1,h2,h3,h4,h5⟩:=hp;obtain ⟨c1,c2,c3⟩:=oY hxs h3 (hi.evS o h1);have hvs:(a.eval o).cells.size=T.siz e:=by rw[c1,h2]
   have hle:k*T.siz e+T.siz e<=cs.size:=by
    rw[hr.size,hn];have:=YM (T.siz e) (Nat.succ_le_of_lt h4)
    rwa [Y5] at this
   obtain ⟨k1,k2⟩:=qq (k*T.siz e) (a.eval o).cells.toList 0 cs (by rw[Array.length_toList];omega);obtain ⟨cs',j1,j2⟩:=ru hi hs parts p' l' _ (rows.set k xs) hrest h5 (by simp[hn]) ⟨by rw[k1,hr.size];simp,λrow hrow=>by
     rcases Yl hrow with h | h
     ·exact hr.len row h
     ·rw[h,h2],λi row hi' j x hj=>by
     rw[k2];simp only[Array.length_toList,Nat.add_zero,hvs];rw[YP] at hi'
     by_cases ei:k=i
     ·subst ei;simp only[if_true,hn,h4] at hi';injection hi' with hi';subst hi'
      have hjl:j<T.siz e:=by
       by_cases h:j<T.siz e
       ·exact h
       ·rw[List.getElem?_eq_none z8] at hj;cases hj
      rw[if_pos z8,show k*T.siz e+j-k*T.siz e=j from by omega];have:=c3 j x hj
      rwa [Array.getD_eq_getD_getElem?,<-Array.getElem?_toList,<-List.getD_eq_getElem?_getD] at this
     ·rw[if_neg ei] at hi';have hjl:j<T.siz e:=by
       by_cases h:j<T.siz e
       ·exact h
       ·rw[List.getElem?_eq_none (by rw[hr.len row (W6 hi')];omega)] at hj;cases hj
      rw[if_neg (λhh=>ei (rU (i:=k) (j:=i*T.siz e+j-k*T.siz e) (i':=i) (j':=j) (s:=T.siz e) z8 hjl z8).1)];exact hr.rd i row hi' j x hj⟩
   refine ⟨cs',?_,j2⟩;simp only[List.map_cons];unfold Instr.fill;simp only[hvs,ne_eq,not_true_eq_false,decide_false,Yz,decide_eq_true_eq];rw[if_neg z8,<-Array.foldl_toList,Array.toList_zipIdx];exact j1
  ·cases h
theorem nP (hT:TabOK P T) {e:Nat} (n:Nat) (hs:T.siz e≠0):∃z,(∀w,(zeroValue e).run P w=.ok z w)/\z.cells.size=T.siz e /\
  (∀(μ:Nat->Option Nat) (S:Nat->Prop) (w:World),RdR μ S w (T.siz e) ((Array.range (n*T.siz e)).map (z.cells[· % z.cells.size]!)) (List.replicate n (T.zer e))):=by
 obtain ⟨z,z1,z2,z3,_⟩:=uY hT hs;refine ⟨z,z1,z2,λμ S w=>⟨by simp,λrow hrow=>?_,λi row hi j x hj=>?_⟩⟩
 ·rw[List.eq_of_mem_replicate hrow,<-(z3 μ S w).1,z2]
 ·have hin:i<n:=by
   by_cases h:i<n
   ·exact h
   ·rw[List.getElem?_eq_none k6] at hi;cases hi
  rw[Y0,if_pos hin] at hi;injection hi with hi;subst hi
  have hjl:j<T.siz e:=by
   by_cases h:j<T.siz e
   ·exact h
   ·rw[List.getElem?_eq_none (by rw[<-(z3 μ S w).1,z2];omega)] at hj;cases hj
  have hlt:i*T.siz e+j<n*T.siz e:=by
   have:=YM (T.siz e) (Nat.succ_le_of_lt hin);rw[Y5] at this;omega
  have hmod:(i*T.siz e+j) % T.siz e=j:=by rw[Nat.mul_comm,Nat.mul_add_mod,Nat.mod_eq_of_lt hjl]
  have:=(z3 μ S w).2 j x hj;rw[Array.getD_eq_getD_getElem?] at this ⊢;have e2:((Array.range (n*T.siz e)).map (z.cells[· % z.cells.size]!))[i*T.siz e+j]? = some (z.cells[j]!):=by
   rw[Array.getElem?_map,Array.getElem?_range,if_pos hlt,Option.map_some,z2,hmod]
  rw[e2];have hj':j<z.cells.size:=by omega
  rw[YK hj'] at this;simpa[hj'] using this
def dt (T:Tab) (σ:St) (t n:Nat) (parts:List (Nat×Operand)):Option (Prop×TypeId×List (List AV)):=
 match T.und t with
 | .sl e=>
  match lJ T σ e n parts with
  | some (p,l)=>some (T.siz e≠0/\n*T.siz e<=2 ^ 24/\p,e,lR (List.replicate n (T.zer e)) l)
  | none=>none
 | _=>none
theorem nr:∀(l:List (Nat×List AV)) (rows:List (List AV)),(lR rows l).length=rows.length
 | [],_=>rfl
 | (j,xs)::r,rows=>by simp[lR,nr r]
theorem qY (hT:TabOK P T) (hi:Inv C μ S σ a w) {id t n:Nat} (hf:aa σ.hp id=none) {parts:Array (Nat×Operand)} {p:Prop} {e:TypeId} {rows:List (List AV)}
  (h:dt T σ t n parts.toList=some (p,e,rows)) (hp:p) :
  ∃w',(Instr.buildSlice t n (parts.map λ(i,o)=>(i,a.eval o))).run P w=.ok (.slice (some ⟨w.heap.size,0,none⟩) n n) w' /\
   Inv C (upd μ id (some w.heap.size)) S ⟨σ.tm,(id,.cells e (T.siz e) rows)::σ.hp⟩ a w'/\rows.length=n/\ag w' w.heap.size=some (e,n*T.siz e):=by
 unfold dt at h;split at h
 ·rename_i e' hu;split at h
  ·rename_i p' l hps;simp only[gL,gM] at h;obtain ⟨rfl,rfl,rfl⟩:=h;obtain ⟨h1,h2,h3⟩:=hp;have ht:=hT.und t;rw[hu] at ht;simp only[jO] at ht;obtain ⟨z,z1,z2,z3⟩:=nP hT n h1;have hz3:RdR μ S w (T.siz e') ((Array.range (n*T.siz e')).map ((if n*T.siz e'=0 then #[] else z.cells)[· % (if n*T.siz e'=0 then #[] else z.cells).size]!)) (List.replicate n (T.zer e')):=by
    by_cases h0:n*T.siz e'=0
    ·have hn:n=0:=by
      rcases Nat.mul_eq_zero.1 h0 with h | h
      ·exact h
      ·exact absurd h h1
     subst hn;exact ⟨by simp,λrow h=>by simp at h,λi row h=>by simp at h⟩
    ·rw[if_neg h0];exact z3 μ S w
   obtain ⟨cs',f1,f2⟩:=ru (T:=T) hi (e:=e') (n:=n) h1 parts.toList p' l _ _ hps h3 w8 hz3;have hl:(lR (List.replicate n (T.zer e')) l).length=n:=by rw[nr];simp
   refine ⟨w.alloc (.cells cs' e'),?_,?_,hl,?_⟩
   ·rw[show (parts.toList.map λq=>(q.1,a.eval q.2))=(parts.map λ(x:Nat×Operand)=>(x.1,a.eval x.2)).toList by simp] at f1;simp only[Instr.buildSlice,Sem.run_bind,run_underlying ht,Result.andThen_ok,bB hT h1];rw[if_neg z8]
    by_cases h0:n*T.siz e'=0
    ·simp only[h0,if_true] at f1 ⊢;simp only[Sem.run_pure,Result.andThen_ok,Sem.run_bind];rw[f1];rfl
    ·simp only[h0,if_false] at f1 ⊢;simp only[Sem.run_pure,Result.andThen_ok,Sem.run_bind,z1];rw[f1];rfl
   ·exact hi.new id hf _ _ (xe μ S w id e' (T.siz e') _ cs' f2.size f2.len f2.rd (hi.fresh hf) (λb hb=>(hi.sb b hb).1) (λi g hg=>(hi.dom i g hg).2.2.2))
   ·unfold ag;rw[jd];simp[f2.size,hl]
  ·cases h
 ·cases h
end
end Go.Eng
namespace Go.Eng
section
variable {P:Program} {T:Tab} {C:Ctx} {μ:Nat->Option Nat} {S:Nat->Prop} {σ:St} {a:Act} {w:World}
def mv (μ:Nat->Option Nat) (id d:Nat):Nat->Option Nat:=λi=>if i=d then μ id else if i=id then none else μ i
theorem Rd.zU {v:Value} {x:AV} (h:Rd μ S w v x) {id d:Nat} (hn:id∉refs x) (hd:d=id\/μ d=none):Rd (mv μ id d) S w v x:=by
 have key:∀i g,μ i=some g->i≠id->mv μ id d i=some g:=λi g hg hi=>by
  unfold mv;split
  ·rename_i e;subst e
   rcases hd with rfl | hd
   ·exact hg
   ·rw[hd] at hg;cases hg
  ·first | exact hg | (rw[if_neg hi];exact hg)
 induction h with
 | any v=>exact .any v
 | pure h=>exact .pure h
 | agg cs cells hl hr ih=>exact .agg cs cells hl (λj x hx=>ih j x hx (λh=>hn QS))
 | tup vs xs hl hr ih=>exact .tup vs xs hl (λj x hx=>ih j x hx (λh=>hn QS))
 | fn f vals caps hl hr ih=>exact .fn f vals caps hl (λj x hx=>ih j x hx (λh=>hn QS))
 | ptr i size row off g' hg=>exact .ptr i size row off g' (key _ _ hg p4)
 | osl i size off len cap A hc h=>
  refine .osl i size off len cap A hc ?_
  rcases h with h | ⟨g',e,n,h1,h2,h3,h4⟩
  ·exact .inl h
  ·exact .inr ⟨g',e,n,key _ _ h1 p4,h2,h3,h4⟩
 | mp i g' hg=>exact .mp i g' (key _ _ hg p4)
 | exs i size off len cap g' e n hc hg hr hn'=>exact .exs i size off len cap g' e n hc (key _ _ hg p4) hr hn'
 | cndT v x h ih=>exact .cndT v x (ih (λh=>hn (by simpa[refs] using h)))
 | cndF x=>exact .cndF x
theorem cJ.zU {id d i j:Nat} {b:Blk} (h:cJ μ S w i b) (hf:bo id b) (hd:d=id\/μ d=none) (hj:mv μ id d j=μ i):cJ (mv μ id d) S w j b:=by
 cases b with
 | cells t s rows=>
  simp only[cJ,hj]
  rcases h with h | ⟨g',c,h1,h2,h3,h4,h5⟩
  ·exact .inl h
  ·exact .inr ⟨g',c,h1,h2,h3,h4,λk row hk j x hx=>(h5 k row hk j x hx).zU (nj hf row (W6 hk) x (W6 hx)) hd⟩
 | map kvs=>simp only[cJ,hj];exact h
 | iter kvs seen=>simp only[cJ,hj];exact h
 | cap id' s N=>
  obtain ⟨h1,g',e',h2,h3⟩:=h;refine ⟨hj.trans h1,g',e',?_,h3⟩;unfold mv;have hf:id'≠id:=hf
  by_cases e1:id'=d
  ·subst e1
   rcases hd with hd | hd
   ·exact absurd hd hf
   ·rw[hd] at h2;cases h2
  ·rw[if_neg e1,if_neg hf];exact h2
 | pin id' g' t n=>
  obtain ⟨h1,h2,h3⟩:=h;refine ⟨hj.trans h1,?_,h3⟩;unfold mv;have hf:id'≠id:=hf
  by_cases e1:id'=d
  ·subst e1
   rcases hd with hd | hd
   ·exact absurd hd hf
   ·rw[hd] at h2;cases h2
  ·rw[if_neg e1,if_neg hf];exact h2
theorem Inv.move (hi:Inv C μ S σ a w) {id d:Nat} {b:Blk} (hb:aa σ.hp id=some b) (hd:d=id\/aa σ.hp d=none) (hf:ek id σ.hp) (hbf:bo id b) :
  Inv C (mv μ id d) S ⟨σ.tm.map (kill id),(d,b)::dM σ.hp id⟩ a w:=by
 have hd':d=id\/μ d=none:=hd.imp (λh=>h) (λh=>hi.fresh h);refine ⟨by simp[hi.size],hi.defers,λt x hx=>?_,λi c hc=>?_,λi g hg=>?_,λi j g h1 h2=>?_,hi.frm,hi.sb⟩
 ·simp only[W5] at hx;cases e:σ.tm[t]? with
  | none=>rw[e] at hx;cases hx
  | some y=>
   rw[e] at hx;simp only[Option.map_some,gL] at hx;subst hx;unfold kill;split
   ·exact .any _
   ·rename_i hn;exact (hi.tm t y e).zU (by simpa using hn) hd'
 ·simp only[aa,bz] at hc;split at hc
  ·rename_i e;injection hc with hc;subst hc e
   exact (hi.hp id b hb).zU hbf hd' (by simp[mv])
  ·rename_i e;split at hc
   ·cases hc
   ·rename_i e';refine (hi.hp i c hc).zU (hf.get hc (λh=>e' h.symm)) hd' ?_;unfold mv;rw[if_neg (λh=>e h.symm),if_neg (λh=>e' h.symm)]
 ·unfold mv at hg;split at hg
  ·rename_i e;obtain ⟨_,h2⟩:=hi.dom id g hg;exact ⟨⟨b,by simp[aa,e]⟩,h2⟩
  ·rename_i e;split at hg
   ·cases hg
   ·rename_i e';obtain ⟨⟨c,h1⟩,h2⟩:=hi.dom i g hg;exact ⟨⟨c,by simp only[aa,bz];rw[if_neg (λh=>e h.symm),if_neg (λh=>e' h.symm)];exact h1⟩,h2⟩
 ·unfold mv at h1 h2;split at h1
  ·split at h2
   ·simp_all
   ·split at h2
    ·cases h2
    ·rename_i e1 e2 e3;exact absurd (hi.inj _ _ _ h1 h2) (λh=>e3 h.symm)
  ·split at h1
   ·cases h1
   ·split at h2
    ·rename_i e1 e2 e3;exact absurd (hi.inj _ _ _ h2 h1) (λh=>e2 h.symm)
    ·split at h2
     ·cases h2
     ·exact hi.inj i j g h1 h2
theorem iv {id:Nat} {b:Blk}:∀{h:List (Nat×Blk)},ek id h->ek id (aF h id b)
 | [],_=>⟨λh=>absurd rfl h,trivial⟩
 | (i,c)::r,hf=>by
  simp only[aF];split
  ·exact ⟨λh=>absurd rfl h,hf.2⟩
  ·exact ⟨hf.1,iv hf.2⟩
theorem kG (id:Nat) (b:Blk):∀(h:List (Nat×Blk)),dM (aF h id b) id=dM h id
 | []=>by simp[aF,dM]
 | (i,c)::r=>by
  simp only[aF];split
  ·rename_i e;subst e;simp[dM]
  ·rename_i e;simp[dM,e,kG id b r]
theorem Inv.drew (hi:Inv C μ S σ a w):Inv C μ S σ a w.drew:=by
 have hz:∀(i g:Nat),μ i=some g->ag w.drew g=ag w g:=λ_ _ _=>rfl
 exact ⟨hi.size,hi.defers,λt x hx=>(hi.tm t x hx).mono (λ_ _=>rfl) (λ_ h=>h) (λ_ _ h=>h) hz,
  λi c h=>(hi.hp i c h).mono (λ_ _=>rfl) (λ_ h=>h) (λ_ _ h=>h) hz (λh=>h) (λ_ _=>rfl),hi.dom,hi.inj,
  ⟨hi.frm.os,hi.frm.tape,hi.frm.output,hi.frm.size,hi.frm.block⟩,hi.sb⟩
def cP (σ:St) (x:AV):Option (List (List AV)):=
 match x with
 | .sl rows=>some rows
 | .nils=>some []
 | .osl id s off len=>
  match aa σ.hp id with
  | some (.cells _ s' rows)=>if s=s' then some ((rows.drop off).take len) else none
  | _=>none
 | _=>none
structure Src (μ:Nat->Option Nat) (S:Nat->Prop) (w:World) (size:Nat) (v:Value) (rows:List (List AV)) (vs:List Value):Prop where
 form:∃A cap,v=.slice A rows.length cap/\(0<rows.length->∃g o,A=some ⟨g,o,none⟩/\∀(k:Nat) u,vs[k]? = some u->w.cell? ⟨g,o+k,none⟩=some u)
 len:vs.length=rows.length*size
 rlen:∀row,row∈rows->row.length=size
 rd:∀(i:Nat) row,rows[i]? = some row->∀(j:Nat) x,row[j]? = some x->Rd μ S w (vs.getD (i*size+j) undef) x
theorem iK {rows:List (List AV)} {i size:Nat} {row:List AV} (h:rows[i]? = some row):i*size+size<=rows.length*size:=by
 have hi:i<rows.length:=by
  by_cases h':i<rows.length
  ·exact h'
  ·rw[List.getElem?_eq_none z8] at h;cases h
 have:=YM size (Nat.succ_le_of_lt hi)
 rwa [Y5] at this
theorem lU (hi:Inv C μ S σ a w) {v:Value} {x:AV} {rows:List (List AV)} {size:Nat} (h:cP σ x=some rows) (hv:Rd μ S w v x) (hs:∀row,row∈rows->row.length=size)
  (hlen:∀id s off len,x=.osl id s off len->rows.length=len):∃vs,Src μ S w size v rows vs:=by
 unfold cP at h;split at h
 ·injection h with h;subst h
  rename_i rows;obtain ⟨A,cap,size',g,off,vals,rfl,hc,hs',hA,hcell,hr⟩:=hv.gU.gU
  by_cases h0:rows=[]
  ·subst h0;exact ⟨[],⟨A,cap,rfl,λh=>by simp at h⟩,by simp,by simp,λi row h=>by simp at h⟩
  ·obtain ⟨row0,hrow0⟩:=List.exists_mem_of_ne_nil rows h0;have he:size'=size:=by rw[<-hs' row0 hrow0,hs row0 hrow0]
   subst he;refine ⟨(List.range (rows.length*size')).map λk=>vals (k / size') (k % size'),⟨A,cap,rfl,λhp=>?_⟩,by simp,hs,λi row hi' j x hx=>?_⟩
   ·obtain ⟨rfl,_⟩:=hA hp;refine ⟨g,off,rfl,λk u hu=>?_⟩;rw[W5] at hu
    by_cases hk:k<rows.length*size'
    ·rw[Yw hk] at hu;simp only[Option.map_some,gL] at hu;subst hu;have hsz:0<size':=by
      rcases Nat.eq_zero_or_pos size' with h | h
      ·subst h;simp at hk
      ·exact h
     have:=hcell (k / size') (k % size') (by rw[Nat.div_lt_iff_lt_mul hsz];exact hk) (Nat.mod_lt _ hsz)
     rwa [Nat.div_add_mod'] at this
    ·rw[List.getElem?_eq_none (by simpa using Nat.le_of_not_lt hk)] at hu;cases hu
   ·have hj:j<size':=by
     by_cases h:j<size'
     ·exact h
     ·rw[List.getElem?_eq_none WX] at hx;cases hx
    have hlt:=iK (size:=size') hi';have hsz:0<size':=by omega
    rw[List.getD_eq_getElem?_getD,W5,Yw z8];have e1:(i*size'+j) / size'=i:=by rw[Nat.mul_comm,Nat.mul_add_div hsz,Nat.div_eq_of_lt hj];omega
    have e2:(i*size'+j) % size'=j:=by rw[Nat.mul_comm,Nat.mul_add_mod,Nat.mod_eq_of_lt hj]
    simp only[Option.map_some,Option.getD_some,e1,e2];exact .pure (hr i row hi' j x hx)
 ·injection h with h;subst h
  obtain rfl:=hv.gf;exact ⟨[],⟨none,0,rfl,λh=>by simp at h⟩,by simp,by simp,λi row h=>by simp at h⟩
 ·rename_i id s off len;have hl:=hlen id s off len rfl;obtain ⟨A,cap,rfl,hc,hor⟩:=hv.bT;split at h
  ·rename_i e s' R hb;split at h
   ·rename_i hss;subst hss;injection h with h;subst h
    rcases hor with ⟨h1,h2⟩ | ⟨g,e',n,h1,rfl,h3,h4⟩
    ·subst h1;simp only[List.take_zero] at hs hl ⊢;exact ⟨[],⟨A,cap,rfl,λh=>by simp at h⟩,by simp,by simp,λi row h=>by simp at h⟩
    ·rcases hi.hp id _ hb with ⟨_,k2⟩ | ⟨g',c,k1,k2,k3,k4,k5⟩
     ·rw[k2] at h1;cases h1
     ·rw[k1] at h1;injection h1 with h1;subst h1
      rw[ag,k2] at h3;simp only[gL,gM] at h3;obtain ⟨_,h3⟩:=h3
      by_cases h0:((R.drop off).take len)=[]
      ·rw[h0] at hl;refine ⟨[],⟨some ⟨g',off*s,none⟩,cap,by rw[h0,<-hl],λh=>by rw[h0] at h;simp at h⟩,by rw[h0];simp,by rw[h0];simp,λi row h=>by rw[h0] at h;simp at h⟩
      ·obtain ⟨row0,hrow0⟩:=List.exists_mem_of_ne_nil _ h0;have he:s=size:=by rw[<-hs row0 hrow0,k4 row0 (Yb (YJ hrow0))]
       subst he;have hle:(off+len)*s<=c.size:=by
        refine Yn (YM s (by omega:off+len<=off+cap)) z8
       rw[Nat.add_mul] at hle;refine ⟨(List.range (len*s)).map λk=>c.getD (off*s+k) undef,⟨_,cap,by rw[hl],λ_=>⟨g',off*s,rfl,λk u hu=>?_⟩⟩,by simp[hl],hs,λi row hi' j x hx=>?_⟩
       ·rw[W5] at hu
        by_cases hk:k<len*s
        ·rw[Yw hk] at hu;simp only[Option.map_some,gL] at hu;subst hu;rw[cell_of k2,Array.getD_eq_getD_getElem?,YK z8];rfl
        ·rw[List.getElem?_eq_none (by simpa using Nat.le_of_not_lt hk)] at hu;cases hu
       ·have hj:j<s:=by
         by_cases h:j<s
         ·exact h
         ·rw[List.getElem?_eq_none WX] at hx;cases hx
        have hlt:=iK (size:=s) hi';rw[hl] at hlt;rw[List.getD_eq_getElem?_getD,W5,Yw z8];simp only[Option.map_some,Option.getD_some];rw[YW] at hi';split at hi'
        ·rw[List.getElem?_drop] at hi';have:=k5 (off+i) row hi' j x hx;rw[Nat.add_mul] at this
         rwa [<-Nat.add_assoc]
        ·cases hi'
   ·cases h
  ·cases h
 ·cases h
theorem vS (n:Nat):∀(r c:Nat),Builtin.growBy n r c<=max c (n+(n+768) / 4)
 | 0,c=>by unfold Builtin.growBy;omega
 | r+1,c=>by
  unfold Builtin.growBy;split
  ·omega
  ·have:=vS n r (c+(c+768) / 4);omega
theorem oH (need cap:Nat) (h:cap<need):Builtin.nextslicecap need cap<=2*need+768:=by
 unfold Builtin.nextslicecap;have:=vS need 4 cap;split
 ·omega
 ·split<;>omega
end
end Go.Eng
namespace Go.Eng
section
variable {P:Program} {T:Tab} {C:Ctx} {μ:Nat->Option Nat} {S:Nat->Prop} {σ:St} {a:Act} {w:World}
theorem jr {size:Nat} {v:Value} {rows:List (List AV)} {vs:List Value} (h:Src μ S w size v rows vs):(Builtin.firstCells size rows.length v).run P w=.ok vs.toArray w:=by
 obtain ⟨A,cap,rfl,hf⟩:=h.form
 by_cases h0:0<rows.length
 ·obtain ⟨g,o,rfl,hc⟩:=hf h0;have:=run_loadCells_list (P:=P) (w:=w) ⟨g,o,none⟩ vs (λj u hu=>by rw[add_plain];exact hc j u hu);rw[h.len] at this;simpa[Builtin.firstCells] using this
 ·have e:rows.length=0:=by omega
  have hv:vs=[]:=List.eq_nil_of_length_eq_zero (by rw[h.len,e];simp);subst hv;cases A with
  | none=>simp[Builtin.firstCells]
  | some ad=>simp[Builtin.firstCells,e,Go.loadCells,Go.loadCellsFrom]
theorem bh (w:World) (o:Obj):(w.drew.alloc o).heap[w.heap.size]? = some o:=jd w.drew o
theorem gZ (hT:TabOK P T) {t e ty:TypeId} (ht:P.underlying t=some (.slice e)) (hs:T.siz e≠0) (hb:T.byt e≠0) {A:Option Addr} {len cap:Nat} {v:Value} {R rows:List (List AV)} {olds vs:List Value}
  (ho:Src μ S w (T.siz e) (.slice A len cap) R olds) (hx:Src μ S w (T.siz e) v rows vs) (hlen:R.length=len) (hg:¬len+rows.length<=cap) (hsz:(2*(len+rows.length)+768)*T.byt e<=281474976710656) :
  ∃(nc:Nat) (z:Array Value),len+rows.length<=nc/\z.size=(nc-(len+rows.length))*T.siz e/\(Builtin.append_ #[t,t] ty #[.slice A len cap,v]).run P w =
   .ok (.slice (some ⟨w.heap.size,0,none⟩) (len+rows.length) nc) (w.drew.alloc (.cells (olds.toArray++vs.toArray++z) e)):=by
 obtain ⟨i,hi,hi1,hi2,z,hz,_,hzs,_⟩:=hT.siz e hs;obtain ⟨B,cap',rfl,_⟩:=hx.form;have hn:=oH (len+rows.length) cap z8;have hfit:Builtin.nextslicecap (len+rows.length) cap*i.bytes<=281474976710656:=by
  rw[hi2];exact Yn (YM _ hn) hsz
 have h1:=jr (P:=P) ho;rw[hlen] at h1;have hw1:Src μ S w.drew (T.siz e) (.slice A len cap) R olds:=⟨ho.form,ho.len,ho.rlen,λi row hi j x hx=>(ho.rd i row hi j x hx).mono (λ_ _=>rfl) (λ_ h=>h) (λ_ _ h=>h) (λ_ _ _=>rfl)⟩;have hw2:Src μ S w.drew (T.siz e) (.slice B rows.length cap') rows vs:=⟨hx.form,hx.len,hx.rlen,λi row hi j x h=>(hx.rd i row hi j x h).mono (λ_ _=>rfl) (λ_ h=>h) (λ_ _ h=>h) (λ_ _ _=>rfl)⟩;have g1:=jr (P:=P) hw1;have g2:=jr (P:=P) hw2;rw[hlen] at g1;refine ⟨grownCap w (len+rows.length) cap e,Builtin.zeroCells z.cells (grownCap w (len+rows.length) cap e-(len+rows.length)),grownCap_ge w _ _ _,by simp[Builtin.zeroCells,hzs],?_⟩;have hb':i.bytes≠0:=by rw[hi2];exact hb
 simp[Builtin.append_,run_underlying ht,sizeOf,typeInfo,hi,hi1,Builtin.lenOf,hg,hb',show ¬281474976710656<Builtin.nextslicecap (len+rows.length) cap*i.bytes by omega,g1,g2,Question.forced,zeroValue,hz,lP,grownCap];rw[<-Array.append_assoc];simp
theorem ie (hT:TabOK P T) {t e ty:TypeId} (ht:P.underlying t=some (.slice e)) (hs:T.siz e≠0) {A:Option Addr} {len cap:Nat} {v:Value} {rows:List (List AV)} {vs:List Value}
  (hx:Src μ S w (T.siz e) v rows vs) (hg:len+rows.length<=cap) :
  (Builtin.append_ #[t,t] ty #[.slice A len cap,v]).run P w =
   (((match A with | some a=>storeCells (a.add (len*T.siz e)) vs | none=>pure ()):Sem Unit).run P w).andThen (λ_ w'=>.ok (.slice A (len+rows.length) cap) w'):=by
 obtain ⟨i,hi,hi1,hi2,z,hz,_,hzs,_⟩:=hT.siz e hs;have g2:=jr (P:=P) hx;obtain ⟨B,cap',rfl,_⟩:=hx.form;cases A<;>simp[Builtin.append_,run_underlying ht,sizeOf,typeInfo,hi,hi1,Builtin.lenOf,hg,g2]
def ec (rows:List (List AV)):Bool:=rows.all λrow=>row.all AV.leaf
def rowsOf (s:Nat) (rows:List (List AV)):Prop:=∀row,row∈rows->row.length=s
def jL:AV->Option Nat
 | .osl id _ _ _=>some id
 | _=>none
def fy (T:Tab) (σ:St) (d:Nat) (t:TypeId) (x y:AV):Option (Prop×St×AV):=
 match T.und t,cP σ y with
 | .sl e,some rows=>
  match x with
  | .nils=>
   some (T.siz e≠0/\T.byt e≠0/\rowsOf (T.siz e) rows/\(∀id s off len,y=.osl id s off len->rows.length=len)/\ec rows=true/\(2*(0+rows.length)+768)*T.byt e<=281474976710656 /\
     aa σ.hp d=none,
    ⟨σ.tm,(d,.cells e (T.siz e) rows)::σ.hp⟩,.osl d (T.siz e) 0 (0+rows.length))
  | .osl id s 0 len=>
   match aa σ.hp id with
   | some (.cells e' s' R)=>
    if s=T.siz e/\s'=s/\e'=e then
     some (T.siz e≠0/\T.byt e≠0/\rowsOf (T.siz e) rows/\(∀id s off len,y=.osl id s off len->rows.length=len)/\ec rows=true/\(2*(len+rows.length)+768)*T.byt e<=281474976710656 /\
       (d=id\/aa σ.hp d=none)/\jL y≠some id/\len<=R.length/\ek id σ.hp/\bo id (.cells e (T.siz e) (R.take len++rows)),
      ⟨σ.tm.map (kill id),(d,.cells e (T.siz e) (R.take len++rows))::dM σ.hp id⟩,.osl d (T.siz e) 0 (len+rows.length))
    else none
   | _=>none
  | _=>none
 | _,_=>none
theorem ra {size:Nat} {v:Value} {rows:List (List AV)} {vs:List Value} (h:Src μ S w size v rows vs) (hl:ec rows=true):∀u,u∈vs->u.oneCell'=true:=by
 intro u hu;obtain ⟨k,hk,rfl⟩:=List.mem_iff_getElem.1 hu;have hlen:=h.len;have hsz:0<size:=by
  rcases Nat.eq_zero_or_pos size with h' | h'
  ·subst h';omega
  ·exact h'
 have hi:k / size<rows.length:=by rw[Nat.div_lt_iff_lt_mul hsz];omega
 have hrow:rows[k / size]? = some rows[k / size]:=W3 hi;have hm:=Nat.mod_lt k hsz;have hrl:rows[k / size].length=size:=h.rlen _ (W6 hrow);have hx:rows[k / size][k % size]? = some (rows[k / size][k % size]'z8):=W3 z8;have:=h.rd _ _ hrow _ _ hx;rw[Nat.div_add_mod',List.getD_eq_getElem?_getD,W3 hk] at this;exact this.leaf (List.all_eq_true.1 (List.all_eq_true.1 hl _ (W6 hrow)) _ (W6 hx))
theorem jk {s:Nat} {R rows:List (List AV)} {olds vs:List Value} {cs:Array Value} (hR:olds.length=R.length*s) (hRl:rowsOf s R) (hrl:rowsOf s rows)
  (h1:∀(i:Nat) row,R[i]? = some row->∀(j:Nat) x,row[j]? = some x->Rd μ S w (olds.getD (i*s+j) undef) x)
  (h2:∀(i:Nat) row,rows[i]? = some row->∀(j:Nat) x,row[j]? = some x->Rd μ S w (vs.getD (i*s+j) undef) x) (hvs:vs.length=rows.length*s)
  (hc:∀k,k<olds.length+vs.length->cs.getD k undef=(olds++vs).getD k undef) :
  ∀(i:Nat) row,(R++rows)[i]? = some row->∀(j:Nat) x,row[j]? = some x->Rd μ S w (cs.getD (i*s+j) undef) x:=by
 intro i row hi j x hx
 by_cases h:i<R.length
 ·rw[YU h] at hi;have hj:j<s:=by
   by_cases h':j<s
   ·exact h'
   ·rw[List.getElem?_eq_none (by rw[hRl row (W6 hi)];omega)] at hx;cases hx
  have hlt:=iK (size:=s) hi;rw[hc _ z8,List.getD_eq_getElem?_getD,YU z8,<-List.getD_eq_getElem?_getD];exact h1 i row hi j x hx
 ·rw[YQ z8] at hi;have hj:j<s:=by
   by_cases h':j<s
   ·exact h'
   ·rw[List.getElem?_eq_none (by rw[hrl row (W6 hi)];omega)] at hx;cases hx
  have hlt:=iK (size:=s) hi;have e:i*s+j=R.length*s+((i-R.length)*s+j):=by
   have:i*s=R.length*s+(i-R.length)*s:=by rw[<-Nat.add_mul];congr 1;omega
   omega
  rw[hc _ z8,List.getD_eq_getElem?_getD,YQ z8,show i*s+j-olds.length=(i-R.length)*s+j from by omega,<-List.getD_eq_getElem?_getD];exact h2 _ row hi j x hx
theorem yg (hT:TabOK P T) (hi:Inv C μ S σ a w) {d:Nat} {t ty:TypeId} {x y r:AV} {vx vy:Value} {p:Prop} {σ':St} (h:fy T σ d t x y=some (p,σ',r)) (hp:p)
  (hvx:Rd μ S w vx x) (hvy:Rd μ S w vy y) :
  ∃u w' μ',(Builtin.append_ #[t,t] ty #[vx,vy]).run P w=.ok u w'/\Inv C μ' S σ' a w'/\Rd μ' S w' u r:=by
 unfold fy at h;split at h
 ·rename_i e rows hu hsrc;have ht:=hT.und t;rw[hu] at ht;simp only[jO] at ht;split at h
  ·-- onto nil
   simp only[gL,gM] at h;obtain ⟨rfl,rfl,rfl⟩:=h;obtain ⟨hs,hb,hrl,hlen,hleaf,hsz,hfree⟩:=hp;obtain rfl:=hvx.gf;obtain ⟨vs,hvs⟩:=lU hi hsrc hvy hrl hlen
   by_cases h0:rows.length=0
   ·have hr:=ie (ty:=ty) (A:=none) (len:=0) (cap:=0) hT ht hs hvs z8;simp only[Sem.run_pure,Result.andThen_ok] at hr;have hrows:rows=[]:=List.eq_nil_of_length_eq_zero h0;subst hrows;have hn:=hi.fresh hfree;refine ⟨_,w,μ,hr,⟨hi.size,hi.defers,hi.tm,λi b hb=>?_,λi g hg=>?_,hi.inj,hi.frm,hi.sb⟩,.osl d _ 0 _ 0 none w8 (.inl ⟨by simp,rfl⟩)⟩
    ·simp only[aa] at hb;split at hb
     ·rename_i e';injection hb with hb;subst hb e';exact .inl ⟨rfl,hn⟩
     ·exact hi.hp i b hb
    ·obtain ⟨⟨c,h1⟩,h2⟩:=hi.dom i g hg;refine ⟨⟨c,?_⟩,h2⟩;simp only[aa];rw[if_neg WA];exact h1
   ·have ho:Src μ S w (T.siz e) (.slice none 0 0) [] []:=⟨⟨none,0,rfl,λh=>by simp at h⟩,by simp,by simp,λi row h=>by simp at h⟩;obtain ⟨nc,z,h1,h2,h3⟩:=gZ (ty:=ty) hT ht hs hb ho hvs rfl z8 hsz;have hi1:=hi.drew;have hm:∀{v x},Rd μ S w v x->Rd μ S w.drew v x:=λh=>h.mono (λ_ _=>rfl) (λ_ h=>h) (λ_ _ h=>h) (λ_ _ _=>rfl)
    have hcs:(#[]++vs.toArray++z).size=rows.length*T.siz e+z.size:=by simp[hvs.len]
    refine ⟨_,_,_,h3,hi1.new d hfree _ (.cells e (T.siz e) rows) (.inr ⟨w.heap.size,_,by simp[upd],bh w _,by simp[hvs.len],hrl,λi row hi' j x hx=>?_⟩),?_⟩
    ·have hlt:=iK (size:=T.siz e) hi';have hj:j<T.siz e:=by
      by_cases h:j<T.siz e
      ·exact h
      ·rw[List.getElem?_eq_none WR] at hx;cases hx
     have:=hvs.rd i row hi' j x hx;have e2:(#[]++vs.toArray++z).getD (i*T.siz e+j) undef=vs.getD (i*T.siz e+j) undef:=by
      rw[Array.getD_eq_getD_getElem?,List.getD_eq_getElem?_getD];simp only[Array.empty_append];rw[Yj (by simp[hvs.len];omega)];simp
     rw[show (List.toArray []++vs.toArray++z)=(#[]++vs.toArray++z) from rfl,e2];exact (hm this).mono (λb hb=>bb _ _ b (hi1.sb b hb).1) (λ_ h=>h) (λi' g hg=>by
      unfold upd;rw[if_neg WS];exact hg) (λi' g hg=>aN (bb _ _ g (hi1.dom i' g hg).2.2.2))
    ·refine .osl d _ 0 _ nc _ h1 (.inr ⟨w.heap.size,e,_,by simp[upd],by simp,?_,rfl⟩);unfold ag;rw[bh];simp only[gL,gM,true_and];simp only[Array.size_append,List.size_toArray,List.length_nil,hvs.len,h2,Yd,<-Nat.add_mul]
     congr 1
     omega
  ·-- onto what is held
   rename_i id s len;split at h
   ·rename_i e' s' R hb0;split at h
    ·rename_i hcond;obtain ⟨rfl,rfl,rfl⟩:=hcond;simp only[gL,gM] at h;obtain ⟨rfl,rfl,rfl⟩:=h;obtain ⟨hs,hb,hrl,hlen,hleaf,hsz,hd,hid,hR,hfree,hbf⟩:=hp;obtain ⟨vs,hvs⟩:=lU hi hsrc hvy hrl hlen;have hRl:rowsOf (T.siz e') (R.take len):=by
      rcases hi.hp id _ hb0 with ⟨rfl,_⟩ | ⟨g,c,_,_,_,k4,_⟩
      ·intro row hrow;simp at hrow
      ·exact λrow hrow=>k4 row (YJ hrow)
     have hRt:(R.take len).length=len:=by simp;omega
     obtain ⟨olds,ho⟩:=lU hi (x:=.osl id (T.siz e') 0 len) (rows:=R.take len) (size:=T.siz e') (by simp[cP,hb0]) hvx hRl (λ_ _ _ _ h=>by injection h with _ _ _ h;rw[hRt,h]);have hdd:d=id\/μ d=none:=hd.imp (λh=>h) (λh=>hi.fresh h);obtain ⟨A,cap,rfl,hc,hor⟩:=hvx.bT
     by_cases hroom:len+rows.length<=cap
     ·have hr:=ie (ty:=ty) (A:=A) (len:=len) (cap:=cap) hT ht hs hvs hroom
      rcases hor with ⟨h1,h2⟩ | ⟨g,e2,n,h1,rfl,h3,h4⟩
      ·-- nothing comes onto nothing
       have h0:rows=[]:=List.eq_nil_of_length_eq_zero z8;subst h0 h1 h2;have hv0:vs=[]:=List.eq_nil_of_length_eq_zero (by rw[hvs.len];simp);subst hv0;have hr':(Builtin.append_ #[t,t] ty #[.slice A 0 0,vy]).run P w=.ok (.slice A 0 0) w:=by
        rw[hr];cases A<;>simp[storeCells]
       have hi0:Inv C μ S ⟨σ.tm,aF σ.hp id (.cells e' (T.siz e') (R.take 0++[]))⟩ a w:=by
        refine ⟨hi.size,hi.defers,hi.tm,λi b hb=>?_,λi q hq=>?_,hi.inj,hi.frm,hi.sb⟩
        ·rw[aj] at hb;split at hb
         ·rename_i e3;injection hb with hb;subst hb e3
          rcases hi.hp id _ hb0 with ⟨_,k⟩ | ⟨g,c,k1,k2,_⟩
          ·exact .inl ⟨by simp,k⟩
          ·exact .inr ⟨g,c,k1,k2,by simp,by simp,λi row h=>by simp at h⟩
         ·exact hi.hp i b hb
        ·obtain ⟨⟨c,k1⟩,k2⟩:=hi.dom i q hq;refine ⟨?_,k2⟩;rw[aj];split
         ·exact ⟨_,rfl⟩
         ·exact ⟨c,k1⟩
       have hfree':ek id (aF σ.hp id (.cells e' (T.siz e') (R.take 0++[]))):=iv hfree;have:=hi0.move (id:=id) (d:=d) (b:=.cells e' (T.siz e') (R.take 0++[])) (by rw[aj];simp) (hd.imp (λh=>h) (λh=>by
        rw[aj];split
        ·rename_i e4;subst e4;rw[hb0] at h;cases h
        ·exact h)) hfree' hbf
       refine ⟨_,w,mv μ id d,hr',?_,.osl d _ 0 _ 0 A w8 (.inl ⟨by simp,rfl⟩)⟩;simp only[kG] at this;exact this
      ·-- in place
       rcases hi.hp id _ hb0 with ⟨_,k⟩ | ⟨g',c,k1,k2,k3,k4,k5⟩
       ·rw[k] at h1;cases h1
       ·rw[k1] at h1;injection h1 with h1;subst h1
        rw[ag,k2] at h3;simp only[gL,gM] at h3;obtain ⟨rfl,rfl⟩:=h3;have hcs:(len+rows.length)*T.siz e'<=c.size:=Yn (YM _ z8) (Nat.le_of_eq h4);rw[Nat.add_mul] at hcs;obtain ⟨w',r1,r2,r3,r4,r5,r6,c',r7,r8,r9⟩:=eY (P:=P) g' (len*T.siz e') e' vs 0 w c k2 (ra hvs hleaf) (by rw[hvs.len];omega);have hr':(Builtin.append_ #[t,t] ty #[.slice (some ⟨g',0*T.siz e',none⟩) len cap,vy]).run P w=.ok (.slice (some ⟨g',0*T.siz e',none⟩) (len+rows.length) cap) w':=by
         rw[hr];simp only[Nat.zero_mul,add_plain,Yd,r1,Result.andThen_ok]
        have hrs:ag w' g'=ag w g':=by simp[ag,r7,k2,r8]
        have hS:¬S g':=(hi.dom id g' k1).2.2.1;have hw:aI S w w':=λb hb=>r6 b Qa
        have hz':∀i q,μ i=some q->ag w' q=ag w q:=λi q _=>by
         by_cases e:q=g'
         ·subst e;exact hrs
         ·exact aN (r6 q e)
        have hmono:∀{v x},Rd μ S w v x->Rd μ S w' v x:=λh=>h.mono hw (λ_ h=>h) (λ_ _ h=>h) hz'
        have hRlen:len*T.siz e'<=R.length*T.siz e':=YM _ hR;have hi0:Inv C μ S ⟨σ.tm,aF σ.hp id (.cells e' (T.siz e') (R.take len++rows))⟩ a w':=
         hi.write id g' k1 r2 r3 r4 r5 r6 hrs _ (.inr ⟨g',c',k1,r7,by rw[List.length_append,hRt,Nat.add_mul,r8];omega,λrow hrow=>by
           rcases List.mem_append.1 hrow with h | h
           ·exact hRl row h
           ·exact hrl row h,
          jk (olds:=(List.range (len*T.siz e')).map λk=>c.getD k undef) (vs:=vs) (by simp[hRt]) hRl hrl (λi row hi' j x hx=>by
            have hlt:=iK (size:=T.siz e') hi';rw[hRt] at hlt;have hj:j<T.siz e':=by
             by_cases h:j<T.siz e'
             ·exact h
             ·rw[List.getElem?_eq_none WT] at hx;cases hx
            rw[List.getD_eq_getElem?_getD,W5,Yw z8];rw[YW] at hi';split at hi'
            ·exact hmono (k5 i row hi' j x hx)
            ·cases hi') (λi row hi' j x hx=>hmono (hvs.rd i row hi' j x hx)) hvs.len (λk hk=>by
           simp only[List.length_map,List.length_range] at hk;rw[r9]
           by_cases hkl:k<len*T.siz e'
           ·rw[if_neg z8,List.getD_eq_getElem?_getD,YU Wr,W5,Yw hkl];rfl
           ·rw[if_pos z8,List.getD_eq_getElem?_getD,List.getD_eq_getElem?_getD,YQ Wr];simp)⟩)
        have hfree':ek id (aF σ.hp id (.cells e' (T.siz e') (R.take len++rows))):=iv hfree;have:=hi0.move (id:=id) (d:=d) (b:=.cells e' (T.siz e') (R.take len++rows)) (by rw[aj];simp) (hd.imp (λh=>h) (λh=>by
         rw[aj];split
         ·rename_i e4;subst e4;rw[hb0] at h;cases h
         ·exact h)) hfree' hbf
        rw[kG] at this;refine ⟨_,w',_,hr',this,.osl d _ 0 _ cap _ hroom (.inr ⟨g',e',c.size,?_,rfl,by simp[ag,r7,r8],h4⟩)⟩;simp[mv,k1]
     ·-- a new block
      obtain ⟨nc,z,h1,h2,h3⟩:=gZ (ty:=ty) hT ht hs hb ho hvs hRt hroom hsz;have hi1:=(hi.drop id hfree).drew;have hfr:aa (σ.drop id).hp d=none:=by
       simp only[St.drop,bz];split
       ·rfl
       ·rename_i e4
        rcases hd with rfl | hd
        ·exact absurd rfl e4
        ·exact hd
      have hnod:upd μ id none d=none:=hi1.fresh hfr;have hm:∀{v x},Rd μ S w v x->id∉refs x->Rd (upd μ id none) S w.drew v x:=λh hn=>
       (h.other hn none).mono (λ_ _=>rfl) (λ_ h=>h) (λ_ _ h=>h) (λ_ _ _=>rfl)
      have hno:=nj hbf;refine ⟨_,_,_,h3,hi1.new d hfr _ (.cells e' (T.siz e') (R.take len++rows)) (.inr ⟨w.heap.size,_,by simp[upd],bh w _,by simp[ho.len,hvs.len,hRt,Nat.add_mul],λrow hrow=>by
           rcases List.mem_append.1 hrow with h | h
           ·exact hRl row h
           ·exact hrl row h,?_⟩),?_⟩
      ·have hup:∀{v x},Rd (upd μ id none) S w.drew v x ->
         Rd (upd (upd μ id none) d (some w.heap.size)) S (World.alloc w.drew (.cells (olds.toArray++vs.toArray++z) e')) v x:=λh=>
        h.mono (λb hb=>bb _ _ b (hi1.sb b hb).1) (λ_ h=>h) (λi' g hg=>by
         show (if i'=d then some w.heap.size else upd μ id none i')=some g
         rw[if_neg Qr];exact hg) (λi' g hg=>aN (bb _ _ g (hi1.dom i' g hg).2.2.2))
       have key:=jk (μ:=upd μ id none) (S:=S) (w:=w.drew) (R:=R.take len) (rows:=rows) (cs:=olds.toArray++vs.toArray++z) (s:=T.siz e') ho.len hRl hrl
        (λi row hi' j x hx=>hm (ho.rd i row hi' j x hx) (hno row (YS _ (W6 hi')) x (W6 hx)))
        (λi row hi' j x hx=>hm (hvs.rd i row hi' j x hx) (hno row (YI _ (W6 hi')) x (W6 hx))) hvs.len (λk hk=>by
         rw[Array.getD_eq_getD_getElem?,List.getD_eq_getElem?_getD,Yj Za];simp[List.append_toArray])
       exact λi row hi' j x hx=>hup (key i row hi' j x hx)
      ·refine .osl d _ 0 _ nc _ h1 (.inr ⟨w.heap.size,e',_,by simp[upd],by simp,?_,rfl⟩);unfold ag;rw[bh];simp only[gL,gM,true_and];simp only[Array.size_append,List.size_toArray,ho.len,hvs.len,hRt,h2,Yd,<-Nat.add_mul]
       congr 1
       omega
    ·cases h
   ·cases h
  ·cases h
 ·cases h
end
end Go.Eng
