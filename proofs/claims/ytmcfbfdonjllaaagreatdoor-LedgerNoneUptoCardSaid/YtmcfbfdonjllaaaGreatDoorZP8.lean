/- Texts of this claim, part 8: EngW, EngZ, EngS, EngAA, EngAB. No condition. -/
import Derived.Test.YtmcfbfdonjllaaaGreatDoorZP7
import Derived.Lib.Overlaps
set_option maxRecDepth 10000
set_option maxHeartbeats 4000000
set_option linter.unusedSimpArgs false
set_option linter.unusedVariables false
namespace Go.Eng
section
variable {P:Program} {T:Tab} {C:Ctx} {σ σ' s:St} {Ret:St->Prop}
theorem Lo (d:Option Tmp) (r:AV):Le C (s.put d r) (s.put d (.cnd true r)):=by
 intro a w ⟨μ,S,hi⟩;cases d with
 | none=>exact ⟨μ,S,hi⟩
 | some t=>
  refine ⟨μ,S,{ hi with size:=by have:=hi.size;simp only[St.put,YR] at this ⊢;exact this,tm:=λi x hx=>?_ }⟩
  by_cases e:t=i
  ·subst e;simp only[St.put,YP,if_true] at hx;split at hx
   ·rename_i hl;injection hx with hx
    subst hx;exact .cndT _ _ (hi.tm t r (by simp only[St.put,YP,if_true];rw[if_pos hl]))
   ·cases hx
  ·refine hi.tm i x ?_;simp only[St.put,YP,if_neg e] at hx ⊢;exact hx
theorem eK.cnd {o:Oper} {r:AV} (h:eK P C o s (s.put o.dst r)):eK P C o s (s.put o.dst (.cnd true r)):=
 λa w K Q hr hK=>h a w K Q hr λa' w' h'=>hK a' w' (Lo o.dst r a' w' h')
theorem El {ops:Array Oper} {o:Oper} {c:Operand} {args:Array Operand} {ats:Array TypeId} (ho:o.op=.call { callee:=.value c,args,argTypes:=ats }) {b:Bool} (hg:guardOf ops σ o.guard=some b) {p:Prop} {f:FuncId} {xs:List AV}
  (h:ax σ c args.toList=some (p,f,xs)) (hp:b=true->p) (hc:aH P f) (hx:aA xs=[]) {r:AV} (hr:refs r=[]) (hf:b=true->ai P f xs [] λr' _=>r'=r):Rob P C ops o (ew ops σ o c args.toList (.cnd b r)) σ:=by
 refine iB (b:=b) hg ?_ λhb s ha=>?_
 ·cases b with
  | true=>exact .inl rfl
  | false=>exact .inr ⟨r,rfl⟩
 ·subst hb;exact (nN ho (by rw[dI ha];exact h) (hp rfl) hc hx hr (hf rfl)).cnd
theorem Ey {ops:Array Oper} {Q:Exit->Act->World->Prop} {k n:Nat} {acc:dw} {o:Oper} {l:List Oper} {c:Operand} {args:Array Operand} {ats:Array TypeId} (ho:o.op=.call { callee:=.value c,args,argTypes:=ats }) {b:Bool} (hg:guardOf ops σ o.guard=some b) {p:Prop} {f:FuncId} {xs:List AV}
  (h:ax σ c args.toList=some (p,f,xs)) (hp:b=true->p) (hc:aH P f) (hx:aA xs=[]) {r:AV} (hf:b=true->ai P f xs [] λr' _=>r'=r) (hr:refs r=[]) {sk:List Loc×List Loc} (hs:((ew ops σ o c args.toList (.cnd b r)).wr,(ew ops σ o c args.toList (.cnd b r)).rd)=sk)
  (ha:σ.put o.dst (.cnd b r)=σ') (hk:al P C ops Q k n (acc++[sk]) l σ'):al P C ops Q k n acc (o::l) σ:=
 ke (El ho hg h hp hc hx hr hf) rfl hs Wq hk
theorem yH {k:List It} {all:Array Oper} {o:Oper} {l:List Oper} {c:Operand} {args:Array Operand} {ats:Array TypeId} (ho:o.op=.call { callee:=.value c,args,argTypes:=ats }) {b:Bool} (hg:guardOf all σ o.guard=some b) {p:Prop} {f:FuncId} {xs:List AV}
  (h:ax σ c args.toList=some (p,f,xs)) (hp:b=true->p) (hc:aH P f) (hx:aA xs=[]) {r:AV} (hf:b=true->ai P f xs [] λr' _=>r'=r) (hr:refs r=[]) (ha:σ.put o.dst (.cnd b r)=σ') (hk:Cw P C Ret (.ops all l::k) σ'):Cw P C Ret (.ops all (o::l)::k) σ:=by
 subst ha;intro a w hrel
 show wpList P all _ (o::l) a w
 unfold wpList;obtain ⟨μ,S,hi⟩:=hrel;rw[bk hi hg];cases b with
 | false=>exact hk _ _ ⟨μ,S,hi.put o.dst (.cndF r)⟩
 | true=>exact .inl ((nN ho h (hp rfl) hc hx hr (hf rfl)).cnd a w _ _ ⟨μ,S,hi⟩ λa' w' h'=>hk a' w' h')
end
end Go.Eng
namespace Go.Eng
section
variable {P:Program} {T:Tab} {C:Ctx} {σ σ' s:St} {Ret:St->Prop}
mutual
theorem Co {h h':List (Nat×Blk)}:∀(x:AV),(∀id,id∈refs x->aa h' id=aa h id)->view h' x=view h x
 | .osl id s off len,he=>by simp only[view];rw[he id s8]
 | .ptr id s row off,he=>by simp only[view];rw[he id s8]
 | .mp id,he=>by simp only[view];rw[he id s8]
 | .fn f caps,he=>by simp only[view];rw[kg caps (λid hid=>he id WK)]
 | .agg cells,he=>by simp only[view];rw[kg cells (λid hid=>he id WK)]
 | .any,_=>rfl
 | .tup _,_=>rfl
 | .cnd ..,_=>rfl
 | .int ..,_=>rfl
 | .bool _,_=>rfl
 | .str _,_=>rfl
 | .exs ..,_=>rfl
 | .nilp,_=>rfl
 | .nili,_=>rfl
 | .ifc,_=>rfl
 | .nils,_=>rfl
 | .nilm,_=>rfl
 | .sl _,_=>rfl
 | .rp ..,_=>rfl
 | .rm _,_=>rfl
theorem kg {h h':List (Nat×Blk)}:∀(l:List AV),(∀id,id∈aA l->aa h' id=aa h id)->fv h' l=fv h l
 | [],_=>rfl
 | x::r,he=>by
  simp only[fv];rw[Co x (λid hid=>he id (by simp[aA,hid])),kg r (λid hid=>he id (by simp[aA,hid]))]
end
theorem qm {id:Nat}:∀{os:List Operand},id∈aA (eI σ os).2->Loc.blk id∈aQ σ os
 | [],h=>by simp[eI,aA] at h
 | o::r,h=>by
  simp only[eI,aA,List.mem_append] at h;simp only[aQ,List.mem_append]
  rcases h with h | h
  ·refine .inl ?_;have h':=uI (ev σ o) id h;cases o with
   | tmp t=>exact List.mem_cons_of_mem _ (W8.2 ⟨id,h',rfl⟩)
   | const v=>
    simp only[ev,ofValue] at h';split at h'<;>simp[refs] at h'
   | func f=>simp[ev,refs,aA] at h'
   | global g=>simp[ev,refs] at h'
  ·exact .inr (qm h)
theorem xZ (l m:List AV):aA (l++m)=aA l++aA m:=by
 induction l with
 | nil=>rfl
 | cons x r ih=>simp only[List.cons_append,aA,ih,List.append_assoc]
theorem vb {c:Operand} {args:List Operand} {p:Prop} {f:FuncId} {xs:List AV} (h:ax σ c args=some (p,f,xs)) {id:Nat} (hid:id∈aA xs):Loc.blk id∈fT σ c++aQ σ args:=by
 unfold ax at h;split at h
 ·rename_i q g caps he;simp only[gL,gM] at h;obtain ⟨_,_,rfl⟩:=h;rw[xZ,List.mem_append] at hid
  rcases hid with hid | hid
  ·exact YI _ (qm hid)
  ·refine YS _ ?_;have:id∈aA (eI σ [c]).2:=by
    simp only[eI,he,aA,refs,List.mem_append];exact .inl hid
   simpa[aQ] using qm this
 ·cases h
theorem ny {k:List It} {all:Array Oper} {o:Oper} {l:List Oper} {c:Operand} {args:Array Operand} {ats:Array TypeId} (ho:o.op=.call { callee:=.value c,args,argTypes:=ats }) (hg:o.guard=none) {p q:Prop} {f:FuncId} {xs ys:List AV}
  (h:ax σ c args.toList=some (p,f,xs)) (hp:p) (hv:fv σ.hp xs=some (q,ys)) (hq:q) (hc:aH P f) {r:AV} (hf:ai P f ys [] λr' _=>r'=r) (hr:r.scalar=true) (ha:σ.put o.dst r=σ') (hk:Cw P C Ret (.ops all l::k) σ'):Cw P C Ret (.ops all (o::l)::k) σ:=by
 subst ha;exact bC Qy (q_ ho h hp hv hq hc hr hf) hk
theorem Fu {k:List It} {all:Array Oper} {o:Oper} {l:List Oper} {c:Operand} {args:Array Operand} {ats:Array TypeId} (ho:o.op=.call { callee:=.value c,args,argTypes:=ats }) {b:Bool} (hg:guardOf all σ o.guard=some b) {p q:Prop} {f:FuncId} {xs ys:List AV}
  (h:ax σ c args.toList=some (p,f,xs)) (hp:b=true->p) (hv:fv σ.hp xs=some (q,ys)) (hq:b=true->q) (hc:aH P f) {r:AV} (hf:b=true->ai P f ys [] λr' _=>r'=r) (hr:r.scalar=true) (ha:σ.put o.dst (.cnd b r)=σ') (hk:Cw P C Ret (.ops all l::k) σ'):Cw P C Ret (.ops all (o::l)::k) σ:=by
 subst ha;intro a w hrel
 show wpList P all _ (o::l) a w
 unfold wpList;obtain ⟨μ,S,hi⟩:=hrel;rw[bk hi hg];cases b with
 | false=>exact hk _ _ ⟨μ,S,hi.put o.dst (.cndF r)⟩
 | true=>exact .inl ((q_ ho h (hp rfl) hv (hq rfl) hc hr (hf rfl)).cnd a w _ _ ⟨μ,S,hi⟩ λa' w' h'=>hk a' w' h')
theorem yn {c:Operand} {args:List Operand} {p:Prop} {f:FuncId} {xs:List AV} (h:ax σ c args=some (p,f,xs)) (ha:∀x,x∈fT σ c++aQ σ args->bn σ s x):fv s.hp xs=fv σ.hp xs:=
 kg xs λ_ hid=>ha _ (vb h hid)
theorem En {ops:Array Oper} {o:Oper} {c:Operand} {args:Array Operand} {ats:Array TypeId} (ho:o.op=.call { callee:=.value c,args,argTypes:=ats }) {b:Bool} (hg:guardOf ops σ o.guard=some b) {p q:Prop} {f:FuncId} {xs ys:List AV}
  (h:ax σ c args.toList=some (p,f,xs)) (hp:b=true->p) (hv:fv σ.hp xs=some (q,ys)) (hq:b=true->q) (hc:aH P f) {r:AV} (hr:r.scalar=true) (hf:b=true->ai P f ys [] λr' _=>r'=r):Rob P C ops o (ew ops σ o c args.toList (.cnd b r)) σ:=by
 refine iB (b:=b) hg ?_ λhb s ha=>?_
 ·cases b with
  | true=>exact .inl rfl
  | false=>exact .inr ⟨r,rfl⟩
 ·subst hb;exact (q_ ho (by rw[dI ha];exact h) (hp rfl) (by rw[yn h ha];exact hv) (hq rfl) hc hr (hf rfl)).cnd
theorem Ez {ops:Array Oper} {Q:Exit->Act->World->Prop} {k n:Nat} {acc:dw} {o:Oper} {l:List Oper} {c:Operand} {args:Array Operand} {ats:Array TypeId} (ho:o.op=.call { callee:=.value c,args,argTypes:=ats }) {b:Bool} (hg:guardOf ops σ o.guard=some b) {p q:Prop} {f:FuncId} {xs ys:List AV}
  (h:ax σ c args.toList=some (p,f,xs)) (hp:b=true->p) (hv:fv σ.hp xs=some (q,ys)) (hq:b=true->q) (hc:aH P f) {r:AV} (hf:b=true->ai P f ys [] λr' _=>r'=r) (hr:r.scalar=true) {sk:List Loc×List Loc} (hs:((ew ops σ o c args.toList (.cnd b r)).wr,(ew ops σ o c args.toList (.cnd b r)).rd)=sk)
  (ha:σ.put o.dst (.cnd b r)=σ') (hk:al P C ops Q k n (acc++[sk]) l σ'):al P C ops Q k n acc (o::l) σ:=
 ke (En ho hg h hp hv hq hc hr hf) rfl hs Wq hk
theorem AA (x:AV) {ops:Array Oper} {Q:Exit->Act->World->Prop} {k n:Nat} {acc:dw} {o:Oper} {l:List Oper} (hg:guardOf ops σ o.guard=some false) {sk:List Loc×List Loc}
  (hs:((⟨o.dst,.cnd false x,[],bW ops o.guard++[]⟩:Sp).wr,bW ops o.guard)=sk) (ha:σ.put o.dst (.cnd false x)=σ') (hk:al P C ops Q k n (acc++[sk]) l σ'):al P C ops Q k n acc (o::l) σ:=
 ke (iB (rd:=[]) hg (.inr ⟨x,rfl⟩) (λh=>nomatch h)) rfl (by rw[<-hs,List.append_nil]) Zd hk
def mW (T:Tab) (σ:St) (d:Nat) (op:Op):Option (Prop×Blk×AV):=
 match op with
 | .buildSlice t n parts=>
  match dt T σ t n parts.toList with
  | some (p,e,rows)=>some (p,.cells e (T.siz e) rows,.osl d (T.siz e) 0 n)
  | none=>none
 | .alloc t=>some (T.siz t≠0/\(T.zer t).length=T.siz t,.cells t (T.siz t) [T.zer t],.ptr d (T.siz t) 0 0)
 | .box t x=>
  match jU T t (evS σ x).2 with
  | some xs=>some ((evS σ x).1/\xs.length=T.siz t/\xs.all AV.leaf=true,.cells t (T.siz t) [xs],.ptr d (T.siz t) 0 0)
  | none=>none
 | .makeMap _ none=>some (True,.map [],.mp d)
 | _=>none
theorem pG {e n:Nat}:∀{parts:List (Nat×Operand)},(∀q,q∈parts->evS s q.2=evS σ q.2)->lJ T s e n parts=lJ T σ e n parts
 | [],_=>rfl
 | (j,o)::r,h=>by
  simp only[lJ];rw[h (j,o) w8,pG (λq hq=>h q (by simp[hq]))]
theorem rH {d:Nat} {op:Op} (h:∀x,x∈aQ σ op.operands.toList->bn σ s x):mW T s d op=mW T σ d op:=by
 have he:∀o,o∈op.operands.toList->evS s o=evS σ o:=λo ho=>cm λx hx=>h x (dc ho x hx)
 unfold mW;split
 ·rename_i t n parts;have:dt T s t n parts.toList=dt T σ t n parts.toList:=by
   unfold dt;split
   ·rw[pG (λq hq=>he q.2 (by
     simp only[Op.operands,List.toList_toArray];exact W8.2 ⟨q,hq,rfl⟩))]
   ·rfl
  rw[this]
 ·rfl
 ·rw[he _ j5]
 ·rfl
 ·rfl
theorem Eo {d:Nat} (h:aa s.hp d=none):s.room d=(True,s):=by unfold St.room;rw[h]
theorem rI (hT:TabOK P T) {o:Oper} {d:Nat} (hd:o.dst=some d) {p:Prop} {b:Blk} {x:AV} (h:mW T s d o.op=some (p,b,x)) (hp:p) (hf:aa s.hp d=none) :
  eK P C o s (St.put ⟨s.tm,(d,b)::s.hp⟩ (some d) x):=by
 have hr:=Eo hf;unfold mW at h;split at h
 ·rename_i t n parts ho;split at h
  ·rename_i q e rows hb;simp only[gL,gM] at h;obtain ⟨rfl,rfl,rfl⟩:=h;refine ch hT o (p:=q/\True) ?_ ⟨hp,trivial⟩;rw[hd,ho];simp only[ey,hr,hb]
  ·cases h
 ·rename_i t ho;simp only[gL,gM] at h;obtain ⟨rfl,rfl,rfl⟩:=h;refine ch hT o (p:=T.siz t≠0/\(T.zer t).length=T.siz t/\True) ?_ ⟨hp.1,hp.2,trivial⟩;rw[hd,ho];simp only[ey,hr]
 ·rename_i t y ho;split at h
  ·rename_i xs hx;simp only[gL,gM] at h;obtain ⟨rfl,rfl,rfl⟩:=h;refine ch hT o (p:=(evS s y).1/\xs.length=T.siz t/\xs.all AV.leaf=true/\True) ?_ ⟨hp.1,hp.2.1,hp.2.2,trivial⟩;rw[hd,ho];simp only[ey,hr,hx]
  ·cases h
 ·rename_i t ho;simp only[gL,gM] at h;obtain ⟨rfl,rfl,rfl⟩:=h;refine ch hT o (p:=True) ?_ trivial;rw[hd,ho];simp only[ey,hr]
 ·cases h
theorem Ju (hT:TabOK P T) {ops:Array Oper} {Q:Exit->Act->World->Prop} {k n:Nat} {acc:dw} {o:Oper} {l:List Oper} {d:Nat} (hd:o.dst=some d) (hg:guardOf ops σ o.guard=some true) {p:Prop} {b:Blk} {x:AV} (h:mW T σ d o.op=some (p,b,x)) (hp:p) (hf:aa σ.hp d=none)
  {sk:List Loc×List Loc} (hs:([Loc.tm d,Loc.blk d],bW ops o.guard++aQ σ o.op.operands.toList)=sk) (ha:St.put ⟨σ.tm,(d,b)::σ.hp⟩ (some d) x=σ') (hk:al P C ops Q k n (acc++[sk]) l σ'):al P C ops Q k n acc (o::l) σ:=by
 refine pS (q:=⟨some d,x,[(d,b)],bW ops o.guard++aQ σ o.op.operands.toList⟩) ?_ (λc hc _=>by rw[List.mem_singleton.1 hc];exact hf) (by rw[<-hs];rfl) (by rw[<-ha];rfl) hk;intro s hagree hfree a w K Q' hr hK;have hg':guardOf ops s o.guard=some true:=by rw[iu (λx hx=>hagree x (YS _ hx))];exact hg
 obtain ⟨μ,S,hi⟩:=hr;rw[bk hi hg'];refine .inl ?_;have hn:mW T s d o.op=some (p,b,x):=by rw[rH (λx hx=>hagree x (YI _ hx))];exact h
 have hfd:aa s.hp d=none:=by
  by_cases h:Loc.blk d∈bW ops o.guard++aQ σ o.op.operands.toList
  ·exact (hagree _ h).trans hf
  ·exact hfree (d,b) w8 h
 exact rI hT hd hn hp hfd a w K Q' ⟨μ,S,hi⟩ hK
attribute [go_sem] mW
end
end Go.Eng
namespace Go.Eng
attribute [go_sem] go jR mkc ey eX evS ev eI strip ofValue guardOf FX St.put St.room aa aF dM lC Eng.loadCells KD.isA gp jU putAt
 xU CB KD.isBool Br s_ G5 ir ph iw pq jD pV rG fC lK lJ xu dt lR fy cP
 kill refs aA bo ek jL ec AV.leaf pN BY ya one ax view fv AV.aT AV.scalar nL exitTo St.drop
 o_ tp yI uk mapOf yq KD.vV qL AV.jw lO nt fT aQ bW Op.operands Call.operands cX Sp.app Sp.wr iM zG iL bP ren gu BW sh Eng.sub Eng.del iP closed wk nQ Bd JE frz db km ew tl
attribute [go_sem] List.getD_cons_zero List.getD_cons_succ List.set_cons_zero List.set_cons_succ List.getD_nil List.map_cons List.map_nil List.length_cons List.length_nil Option.map_some Option.map_none
 List.replicate_succ List.replicate_zero List.cons_append List.nil_append List.all_cons List.all_nil List.drop_succ_cons List.drop_zero List.take_succ_cons List.take_zero
 true_and and_true if_true if_false Option.bind_some Bool.false_eq_true Bool.and_true Y3 Bool.and_self ne_eq Nat.reduceEqDiff List.toList_toArray Option.bind_some Option.toList Option.bind_none List.append_nil List.length_map List.append_toArray List.length_append W7 YA List.any_nil List.any_cons List.all_append Option.isSome_some Option.isSome_none Option.isNone_none Option.isNone_some List.all_nil List.contains_nil List.contains_cons Y2 Yd Nat.add_zero Int.toNat_natCast
attribute [go_sem] Nat.reduceLT Nat.reduceBEq Nat.reduceLeDiff Nat.reduceAdd Nat.reduceMul Nat.reduceSub Nat.reduceEqDiff Int.reduceNeg Int.reduceToNat Int.reduceAdd Int.reduceSub
end Go.Eng
namespace Go.Eng
section
variable {P:Program} {T:Tab} {C:Ctx} {σ σ':St} {Ret:St->Prop} {k:List It}
def goR:Nat->List It->Option (List It)
 | 0,k=>some k
 | n+1,k=>
  match k with
  | .code (.seq x y)::k=>goR n (.code x::.code y::k)
  | .code (.block id c)::k=>goR n (.code c::.blk id::k)
  | .code .skip::k=>goR n k
  | .blk _::k=>goR n k
  | .code (.exit id)::k=>
   match exitTo id k with
   | some k'=>goR n k'
   | none=>none
  | .code (.region _ ops false)::k=>goR n (.ops ops ops.toList::k)
  | .ops _ []::k=>goR n k
  | k=>some k
theorem mo:∀(n:Nat) {k k':List It},goR n k=some k'->Cw P C Ret k' σ->Cw P C Ret k σ
 | 0,k,k',h,hk=>by
  simp only[goR,gL] at h;subst h;exact hk
 | n+1,k,k',h,hk=>by
  unfold goR at h;split at h
  ·exact qh (mo n h hk)
  ·exact yG (mo n h hk)
  ·exact CF (mo n h hk)
  ·exact Fp (mo n h hk)
  ·split at h
   ·rename_i k1 he;exact CD he (mo n h hk)
   ·cases h
  ·exact vD (mo n h hk)
  ·exact jv (mo n h hk)
  ·simp only[gL] at h;subst h;exact hk
theorem AB {l:List AV} {t:Nat} {x:AV} (h:l.getD t .any=x) (hx:x≠.any):l.set t x=l:=by
 apply List.ext_getElem?
 intro i;rw[YP];split
 ·rename_i e;subst e;rw[List.getD_eq_getElem?_getD] at h;cases e:l[t]? with
  | none=>rw[e] at h;exact absurd h.symm hx
  | some y=>
   rw[e] at h;simp only[Option.getD_some] at h;subst h;rw[if_pos (W9.1 e).1]
 ·rfl
theorem Is (t:Nat) {b:Bool} (h:σ.tm.getD t .any=.bool b) (hk:∀c,b=c->Cw P C Ret k ⟨σ.tm.set t (.bool c),σ.hp⟩):Cw P C Ret k σ:=by
 have:=hk b rfl
 rwa [AB h (λh=>nomatch h)] at this
theorem dh (t:Nat) {b:Bool} {ops:Array Oper} {Q:Exit->Act->World->Prop} {k n:Nat} {acc:dw} {l:List Oper} (h:σ.tm.getD t .any=.bool b) (hk:∀c,b=c->al P C ops Q k n acc l ⟨σ.tm.set t (.bool c),σ.hp⟩):al P C ops Q k n acc l σ:=by
 have:=hk b rfl
 rwa [AB h (λh=>nomatch h)] at this
theorem tt {c:Operand} {x y:Code} {b:Bool} {p:Prop} (hc:evS σ c=(p,.bool b)) (hp:p) (hb:b=true) (ht:Cw P C Ret (.code x::k) σ):Cw P C Ret (.code (.cond c x y)::k) σ:=
 sv hc hp (λ_=>ht) (λh=>by rw[hb] at h;cases h)
theorem tr {c:Operand} {x y:Code} {b:Bool} {p:Prop} (hc:evS σ c=(p,.bool b)) (hp:p) (hb:b=false) (hf:Cw P C Ret (.code y::k) σ):Cw P C Ret (.code (.cond c x y)::k) σ:=
 sv hc hp (λh=>by rw[hb] at h;cases h) (λ_=>hf)
mutual
def nrm:AV->AV
 | .nils=>.sl []
 | .sl rows=>.sl (iZ rows)
 | .rp cells off=>.rp (fo cells) off
 | .agg cells=>.agg (fo cells)
 | .tup vs=>.tup (fo vs)
 | .fn f caps=>.fn f (fo caps)
 | x=>x
def fo:List AV->List AV
 | []=>[]
 | x::r=>nrm x::fo r
def iZ:List (List AV)->List (List AV)
 | []=>[]
 | x::r=>fo x::iZ r
end
theorem ea:∀l,fo l=l.map nrm
 | []=>rfl
 | x::r=>by simp[fo,ea r]
theorem dO:∀l,iZ l=l.map fo
 | []=>rfl
 | x::r=>by simp[iZ,dO r]
theorem RdP.nrm {S:Nat->Prop} {w:World} {v:Value} {x:AV} (h:RdP S w v x):RdP S w v (Eng.nrm x):=by
 have key:∀{l:List AV} {f:Nat->Value},(∀j x,l[j]? = some x->RdP S w (f j) (Eng.nrm x))->∀j x,(fo l)[j]? = some x->RdP S w (f j) x:=fun {l f} h j x hx=>by
  rw[ea,W5] at hx;cases e:l[j]? with
  | none=>rw[e] at hx;cases hx
  | some y=>rw[e] at hx;simp only[Option.map_some,gL] at hx;subst hx;exact h j y e
 induction h with
 | int k n=>exact .int k n
 | bool b=>exact .bool b
 | str s l h=>exact .str s l h
 | nilp=>exact .nilp
 | nili=>exact .nili
 | ifc t p=>exact .ifc t p
 | nils=>exact .sl none 0 0 [] 0 0 0 (λ_ _=>undef) rfl (YA _) (λrow h=>by simp at h) (λh=>by omega) (λi j h=>by omega) (λi row h=>by simp at h)
 | nilm=>exact .nilm
 | sl A len cap rows size g off vals hl hc hsz hA hcell hr ih=>
  refine .sl A len cap (iZ rows) size g off vals (by rw[dO,List.length_map];exact hl) hc (λrow hrow=>?_) hA hcell (λi row hi j x hx=>?_)
  ·rw[dO] at hrow;obtain ⟨r,hr',rfl⟩:=W8.1 hrow;rw[ea,List.length_map];exact hsz r hr'
  ·rw[dO,W5] at hi;cases e:rows[i]? with
   | none=>rw[e] at hi;cases hi
   | some r=>
    rw[e] at hi;simp only[Option.map_some,gL] at hi;subst hi;exact key (f:=vals i) (ih i r e) j x hx
 | rp g o off cells vals hS hcell hr ih=>
  refine .rp g o off (fo cells) vals hS (λj hj=>hcell j (by rw[ea,List.length_map] at hj;exact hj)) (key ih)
 | rm g es clk kvs vals hS hg hm hr ih=>exact .rm g es clk kvs vals hS hg hm hr
 | fn f vals caps hl hr ih=>exact .fn f vals _ QN (key ih)
 | agg cs cells hl hr ih=>exact .agg cs _ QN (key ih)
theorem Rd.nrm {μ:Nat->Option Nat} {S:Nat->Prop} {w:World} {v:Value} {x:AV} (h:Rd μ S w v x):Rd μ S w v (Eng.nrm x):=by
 have key:∀{l:List AV} {f:Nat->Value},(∀j x,l[j]? = some x->Rd μ S w (f j) (Eng.nrm x))->∀j x,(fo l)[j]? = some x->Rd μ S w (f j) x:=fun {l f} h j x hx=>by
  rw[ea,W5] at hx;cases e:l[j]? with
  | none=>rw[e] at hx;cases hx
  | some y=>rw[e] at hx;simp only[Option.map_some,gL] at hx;subst hx;exact h j y e
 induction h with
 | any v=>exact .any v
 | pure h=>exact .pure h.nrm
 | agg cs cells hl hr ih=>exact .agg cs _ QN (key ih)
 | tup vs xs hl hr ih=>exact .tup vs _ QN (key ih)
 | fn f vals caps hl hr ih=>exact .fn f vals _ QN (key ih)
 | ptr id size row off g hg=>exact .ptr id size row off g hg
 | osl id size off len cap A hc h=>exact .osl id size off len cap A hc h
 | mp id g hg=>exact .mp id g hg
 | exs id size off len cap g e n hc hg hr hn=>exact .exs id size off len cap g e n hc hg hr hn
 | cndT v x h ih=>exact .cndT v x h
 | cndF x=>exact .cndF x
theorem ai.nrm {f:FuncId} {args args':List AV} {H:List (Nat×Blk)} {post:AV->List (Nat×Blk)->Prop} (hn:fo args=args') (h:ai P f args' H post):ai P f args H post:=by
 intro R0 μ w0 vs hl hr hH hR;subst hn;refine h R0 μ w0 vs QN (λj x hx=>?_) hH hR;rw[ea,W5] at hx;cases e:args[j]? with
 | none=>rw[e] at hx;cases hx
 | some y=>rw[e] at hx;simp only[Option.map_some,gL] at hx;subst hx;exact (hr j y e).nrm
attribute [go_sem] goR
end
end Go.Eng
namespace Go.Eng
section
variable {P:Program} {T:Tab} {C:Ctx} {σ σ':St} {Ret:St->Prop} {k:List It} {μ:Nat->Option Nat} {S:Nat->Prop} {a:Act} {w:World}
theorem fD (x:AV) {all:Array Oper} {o:Oper} {l:List Oper} (hg:guardOf all σ o.guard=some false) (h:Cw P C Ret (.ops all l::k) (σ.put o.dst (.cnd false x))):Cw P C Ret (.ops all (o::l)::k) σ:=by
 intro a w hr
 show wpList P all _ (o::l) a w
 unfold wpList;obtain ⟨μ,S,hi⟩:=hr;rw[bk hi hg];exact h _ _ ⟨μ,S,hi.put o.dst (.cndF _)⟩
theorem Inv.Mn (hi:Inv C μ S σ a w) {id s e n g d N:Nat} {rows:List (List AV)} (hb:aa σ.hp id=some (.cells e s rows)) (hg:μ id=some g) (hr:ag w g=some (n,N*s)) (hs:s≠0) (hf:aa σ.hp d=none) :
  rows.length<=N/\Inv C μ S ⟨σ.tm,(d,.cap id s N)::aF σ.hp id (.cells e s (rows++List.replicate (N-rows.length) (List.replicate s .any)))⟩ a w:=by
 rcases hi.hp id _ hb with ⟨_,k2⟩ | ⟨g',c,k1,k2,k3,k4,k5⟩
 ·rw[k2] at hg;cases hg
 ·rw[k1] at hg;injection hg with hg;subst hg
  have hcs:c.size=N*s:=by
   have:=hr;rw[ag,k2] at this;simp only[gL,gM] at this;exact this.2
  have hle:rows.length<=N:=Nat.le_of_mul_le_mul_right (by rw[<-hcs];exact k3) (Nat.pos_of_ne_zero hs);have hid:d≠id:=by rintro rfl;rw[hb] at hf;cases hf
  refine ⟨hle,hi.size,hi.defers,hi.tm,λi b hb'=>?_,λi q hq=>?_,hi.inj,hi.frm,hi.sb⟩
  ·simp only[aa] at hb';split at hb'
   ·rename_i hd;injection hb' with hb'
    subst hd hb';exact ⟨hi.fresh hf,g',n,k1,hr⟩
   ·rw[aj] at hb';split at hb'
    ·rename_i hi2;injection hb' with hb'
     subst hi2 hb';refine .inr ⟨g',c,k1,k2,by rw[List.length_append,Yx,hcs];exact Nat.le_of_eq (by congr 1;omega),λrow hrow=>?_,λi row hrow j x hx=>?_⟩
     ·rcases List.mem_append.1 hrow with h | h
      ·exact k4 row h
      ·rw[(Y1.1 h).2];simp
     ·by_cases hil:i<rows.length
      ·rw[YU hil] at hrow;exact k5 i row hrow j x hx
      ·rw[YQ z8,Y0] at hrow;split at hrow
       ·injection hrow with hrow
        subst hrow;rw[Y0] at hx;split at hx
        ·injection hx with hx;subst hx;exact .any _
        ·cases hx
       ·cases hrow
    ·exact hi.hp i b hb'
  ·obtain ⟨⟨b,h1⟩,h2⟩:=hi.dom i q hq;refine ⟨?_,h2⟩;simp only[aa];split
   ·exact ⟨_,rfl⟩
   ·rw[aj];split
    ·exact ⟨_,rfl⟩
    ·exact ⟨b,h1⟩
theorem Fs (hT:TabOK P T) {all:Array Oper} {o:Oper} {l:List Oper} {x:Operand} {t e:TypeId} {d:Nat} (ho:o.op=.call { callee:=.builtin .cap,args:=#[x],argTypes:=#[t] }) (hd:o.dst=some d) (hg:o.guard=none) (ht:T.und t=.sl e)
  {id s off len e':Nat} {rows:List (List AV)} (hx:evS σ x=(True,.osl id s off len)) (hb:aa σ.hp id=some (.cells e' s rows)) (h0:0<len) (hs:s≠0) (hf:aa σ.hp d=none)
  (h:∀c:Nat,len<=c->rows.length<=off+c->Cw P C Ret (.ops all l::k) (St.put ⟨σ.tm,(d,.cap id s (off+c))::aF σ.hp id (.cells e' s (rows++List.replicate (off+c-rows.length) (List.replicate s .any)))⟩ (some d) (.int .i64 c))) :
  Cw P C Ret (.ops all (o::l)::k) σ:=by
 intro a w ⟨μ,S,hi⟩;have hv:=hi.evS x u9;rw[hx] at hv;obtain ⟨A,cap,hv',hc,hor⟩:=hv.bT;have hty:P.underlying t=some (.slice e):=by have:=hT.und t;rw[ht] at this;exact this
 rcases hor with ⟨h1,_⟩ | ⟨g,n,m,h1,_,h3,h4⟩
 ·omega
 ·obtain ⟨hle,hi'⟩:=hi.Mn (d:=d) (N:=off+cap) hb h1 (by rw[h3,h4]) hs hf
  show wpList P all _ (o::l) a w
  unfold wpList;rw[bk hi (show guardOf all σ o.guard=some true from by rw[hg];rfl)];refine .inl ?_;unfold Oper.wp;have hrun:(execOp a.eval o).run P w=.ok (.value (.int .i64 cap)) w:=by
   have hv2:a.eval x=.slice A len cap:=hv';simp[execOp,ho,hv2,resolve,invoke,builtin,Builtin.cap_,run_underlying hty,goInt]
  rw[hrun,Oper.upon_value,hd];exact h cap hc hle _ _ ⟨μ,S,hi'.put (some d) (.pure (.int _ _))⟩
theorem pX (hT:TabOK P T) {o:Oper} {x hi:Operand} {t e:TypeId} (ho:o.op=.slice t x none (some hi) none) (ht:T.und t=.sl e) {id s off len h j N:Nat} (hx:evS σ x=(True,.osl id s off len)) (hh:evS σ hi=(True,.int .i64 (h:Nat)))
  (hcap:aa σ.hp j=some (.cap id s N)) (hN:off+h<=N) (h0:0<len) (hs:T.siz e=s) (hs0:s≠0):eK P C o σ (σ.put o.dst (.osl id s off h)):=by
 refine dZ λμ S a w hi'=>?_
 have hv:=hi'.evS x u9;have hu:=hi'.evS hi Ww;rw[hx] at hv;rw[hh] at hu;obtain ⟨A,cap,hv',hc,hor⟩:=hv.bT;have hu':=hu.aL;have hty:P.underlying t=some (.slice e):=by have:=hT.und t;rw[ht] at this;exact this
 rcases hor with ⟨h1,_⟩ | ⟨g,n,m,h1,hA,h3,h4⟩
 ·omega
 ·obtain ⟨_,g',e',k1,k2⟩:=hi'.hp j _ hcap;rw[k1] at h1;injection h1 with h1;subst h1
  rw[h3] at k2;simp only[gL,gM] at k2;have hNc:off+cap=N:=Nat.eq_of_mul_eq_mul_right (Nat.pos_of_ne_zero hs0) (h4.trans k2.2);subst hA;have hrun:(Instr.sliceAt t (.slice (some ⟨g',off*s,none⟩) len cap) none (some (.int .i64 (h:Nat))) none).run P w=.ok (.slice (some ⟨g',off*s,none⟩) h cap) w:=by
   have hb:=fL (P:=P) (w:=w) true len cap 0 h none (some (.int .i64 (h:Nat))) (show fX none 0 0 from rfl) (show fX (some (.int .i64 (h:Nat))) len h from ⟨.i64,rfl⟩) (Ys _) z8
   by_cases hc0:cap=0
   ·subst hc0;simp[Instr.sliceAt,Instr.slice,run_underlying hty,hb,bB hT (t:=e) Q0]
   ·simp[Instr.sliceAt,Instr.slice,run_underlying hty,hb,bB hT (t:=e) Q0,hc0,Addr.add]
  refine ⟨.slice (some ⟨g',off*s,none⟩) h cap,?_,.osl id s off h cap _ z8 (.inr ⟨g',n,m,k1,rfl,h3,h4⟩)⟩;have e1:a.eval x=.slice (some ⟨g',off*s,none⟩) len cap:=hv';have e2:a.eval hi=.int .i64 (h:Nat):=hu';simp only[execOp,ho,e1,Option.map_none,Option.map_some,e2,Sem.run_bind,hrun];rfl
theorem qV (hT:TabOK P T) {t u e ty:TypeId} (ht:P.underlying t=some (.slice e)) (hu:P.underlying u=some (.int .i64)) (hs:T.siz e≠0) (hb:T.byt e≠0) {A:Option Addr} {len cap:Nat} {R:List (List AV)} {olds:List Value}
  (ho:Src μ S w (T.siz e) (.slice A len cap) R olds) (hlen:R.length=len) (n:Nat) (hn:n≠0) (hg:¬len+n<=cap) (hsz:(2*(len+n)+768)*T.byt e<=281474976710656) :
  ∃(nc:Nat) (z zs:Array Value),len+n<=nc/\z.size=(nc-(len+n))*T.siz e/\(∀(μ:Nat->Option Nat) (S:Nat->Prop) (w:World),RdR μ S w (T.siz e) zs (List.replicate n (T.zer e))) /\
   (Builtin.append_ #[t,u] ty #[.slice A len cap,.int .i64 (n:Nat)]).run P w=.ok (.slice (some ⟨w.heap.size,0,none⟩) (len+n) nc) (w.drew.alloc (.cells (olds.toArray++zs++z) e)):=by
 obtain ⟨i,hi,hi1,hi2,z,hz,_,hzs,_⟩:=hT.siz e hs;obtain ⟨z0,r1,r2,r3⟩:=nP hT (e:=e) n hs;have hzz:z0=z:=by
  have:=r1 w;simp[zeroValue,typeInfo,hi,hz] at this;exact this.symm
 subst hzz;have hnx:=oH (len+n) cap z8;have hfit:Builtin.nextslicecap (len+n) cap*i.bytes<=281474976710656:=by
  rw[hi2];exact Yn (YM _ hnx) hsz
 have hw1:Src μ S w.drew (T.siz e) (.slice A len cap) R olds:=⟨ho.form,ho.len,ho.rlen,λi row hi j x hx=>(ho.rd i row hi j x hx).mono (λ_ _=>rfl) (λ_ h=>h) (λ_ _ h=>h) (λ_ _ _=>rfl)⟩;have g1:=jr (P:=P) hw1;rw[hlen] at g1;have hb':i.bytes≠0:=by rw[hi2];exact hb
 have hnb:n*i.bytes<=281474976710656:=by
  rw[hi2];exact Yn (YM _ z8) hsz
 have hbl:n<=281474976710656:=Yn (Nat.le_mul_of_pos_right n (Nat.pos_of_ne_zero hb')) hnb;have hneed:len+n<=281474976710656:=by
  have h1:(len+n)*T.byt e<=281474976710656:=Yn (YM _ z8) hsz;exact Yn (Nat.le_mul_of_pos_right _ (Nat.pos_of_ne_zero hb)) h1
 have hwrap:IntKind.i64.wrap (n:Int)=n:=wrap_small z8 z8;have hnn:¬((n:Int)<0):=by omega
 have hm1:¬281474976710656<(n:Int)*(i.bytes:Int):=by
  have h0:((n*i.bytes:Nat):Int)<=((281474976710656:Nat):Int):=Int.ofNat_le.2 hnb;rw[Int.natCast_mul] at h0;omega
 have hm2:¬9223372036854775807<(len:Int)+(n:Int):=by omega
 have hns:n*T.siz e≠0:=Nat.mul_ne_zero hn hs;refine ⟨grownCap w (len+n) cap e,Builtin.zeroCells z0.cells (grownCap w (len+n) cap e-(len+n)),Builtin.zeroCells z0.cells n,grownCap_ge w _ _ _,by simp[Builtin.zeroCells,hzs],λμ S w=>?_,?_⟩
 ·have:=r3 μ S w;simp only[r2] at this;rw[Builtin.zeroCells,r2];exact this
 ·simp[Builtin.append_,run_underlying ht,run_underlying hu,sizeOf,typeInfo,hi,hi1,hwrap,hnn,hm1,hm2,hg,hb',hns,show ¬281474976710656<Builtin.nextslicecap (len+n) cap*i.bytes by omega,g1,Question.forced,zeroValue,hz,lP,grownCap,asInt,asIntOf]
theorem uP (hT:TabOK P T) {o:Oper} {x y:Operand} {t u e:TypeId} (ho:o.op=.call { callee:=.builtin .append,args:=#[x,y],argTypes:=#[t,u] }) (ht:T.und t=.sl e) (hu:P.underlying u=some (.int .i64))
  {id s len n j N d e':Nat} {R:List (List AV)} (hx:evS σ x=(True,.osl id s 0 len)) (hy:evS σ y=(True,.int .i64 (n:Nat))) (hcap:aa σ.hp j=some (.cap id s N)) (hN:N<len+n) (hn:n≠0)
  (hb0:aa σ.hp id=some (.cells e' s R)) (hR:len<=R.length) (hs:T.siz e=s) (hs0:s≠0) (hb:T.byt e≠0) (hsz:(2*(len+n)+768)*T.byt e<=281474976710656) (hd:aa σ.hp d=none) :
  eK P C o σ (St.put ⟨σ.tm,(d,.cells e s (R.take len++List.replicate n (T.zer e)))::σ.hp⟩ o.dst (.osl d s 0 (len+n))):=by
 subst hs;intro a w K Q ⟨μ,S,hi⟩ hK;have hv:=hi.evS x u9;have hvy:=hi.evS y Qi;rw[hx] at hv;rw[hy] at hvy;have hvy':=hvy.aL;have hRl:rowsOf (T.siz e) (R.take len):=by
  rcases hi.hp id _ hb0 with ⟨rfl,_⟩ | ⟨g,c,_,_,_,k4,_⟩
  ·intro row hrow;simp at hrow
  ·exact λrow hrow=>k4 row (YJ hrow)
 have hRt:(R.take len).length=len:=by simp;omega
 obtain ⟨olds,hol⟩:=lU hi (x:=.osl id (T.siz e) 0 len) (rows:=R.take len) (size:=T.siz e) (by simp[cP,hb0]) hv hRl (λ_ _ _ _ h=>by injection h with _ _ _ h;rw[hRt,h]);obtain ⟨A,cap,hv',hc,hor⟩:=hv.bT;have hty:P.underlying t=some (.slice e):=by have:=hT.und t;rw[ht] at this;exact this
 have hcN:cap<=N:=by
  rcases hor with ⟨h1,h2⟩ | ⟨g,n',m,h1,_,h3,h4⟩
  ·omega
  ·obtain ⟨_,g',e2,k1,k2⟩:=hi.hp j _ hcap;rw[k1] at h1;injection h1 with h1;subst h1
   rw[h3] at k2;simp only[gL,gM] at k2;have:=Nat.eq_of_mul_eq_mul_right (Nat.pos_of_ne_zero hs0) (h4.trans k2.2);omega
 rw[hv'] at hol;obtain ⟨nc,z,zs,h1,h2,h3,h4⟩:=qV (ty:=o.type) hT hty hu hs0 hb hol hRt n hn z8 hsz;have hfr:(execOp a.eval o).run P w=.ok (.value (.slice (some ⟨w.heap.size,0,none⟩) (len+n) nc)) (w.drew.alloc (.cells (olds.toArray++zs++z) e)):=by
  have e1:a.eval x=.slice A len cap:=hv';have e2:a.eval y=.int .i64 (n:Nat):=hvy';simp[execOp,ho,e1,e2,resolve,invoke,builtin,h4,-Array.append_assoc]
 have hi1:=hi.drew;have hnod:μ d=none:=hi.fresh hd;have hm:∀{v x},Rd μ S w v x->Rd (upd μ d (some w.heap.size)) S (World.alloc w.drew (.cells (olds.toArray++zs++z) e)) v x:=λh=>
  (h.mono (w':=w.drew) (λ_ _=>rfl) (λ_ h=>h) (λ_ _ h=>h) (λ_ _ _=>rfl)).mono (λb hb=>bb _ _ b (hi1.sb b hb).1) (λ_ h=>h) (λi' g hg=>by
   unfold upd;rw[if_neg Qr];exact hg) (λi' g hg=>aN (bb _ _ g (hi1.dom i' g hg).2.2.2))
 have hzl:rowsOf (T.siz e) (List.replicate n (T.zer e)):=λrow hrow=>(h3 μ S w).len row hrow
 have hzr:=h3 (upd μ d (some w.heap.size)) S (World.alloc w.drew (.cells (olds.toArray++zs++z) e));have hzn:zs.size=n*T.siz e:=by have:=hzr.size;rwa [Yx] at this
 have aa:∀k,k<olds.length+zs.toList.length->(olds.toArray++zs++z).getD k undef=(olds++zs.toList).getD k undef:=λk hk=>by
  rw[Array.getD_eq_getD_getElem?,List.getD_eq_getElem?_getD,Yj Za];rw[<-Array.getElem?_toList];simp
 have key:=jk (μ:=upd μ d (some w.heap.size)) (S:=S) (w:=World.alloc w.drew (.cells (olds.toArray++zs++z) e)) (R:=R.take len) (rows:=List.replicate n (T.zer e)) (cs:=olds.toArray++zs++z) (s:=T.siz e) (olds:=olds) (vs:=zs.toList)
  hol.len hRl hzl (λi row hi' j x hx=>hm (hol.rd i row hi' j x hx)) (λi row hi' j x hx=>by
   have:=hzr.rd i row hi' j x hx
   rwa [Array.getD_eq_getD_getElem?,<-Array.getElem?_toList,<-List.getD_eq_getElem?_getD] at this) (by simpa using hzr.size) aa
 have hsize:(olds.toArray++zs++z).size=nc*T.siz e:=by
  simp only[Array.size_append,List.size_toArray,hol.len,hRt,hzn,h2,<-Nat.add_mul]
  congr 1;omega
 unfold Oper.wp;rw[hfr]
 show K (a.put o.dst _) _
 refine hK _ _ ⟨_,S,Inv.put (hi1.new d hd _ (.cells e (T.siz e) (R.take len++List.replicate n (T.zer e))) (.inr ⟨w.heap.size,_,by simp[upd],bh w _,?_,λrow hrow=>?_,key⟩)) o.dst (.osl d _ 0 _ nc _ h1 (.inr ⟨w.heap.size,e,nc*T.siz e,by simp[upd],by simp,?_,by simp⟩))⟩
 ·rw[List.length_append,hRt,Yx,hsize];exact YM _ h1
 ·rcases List.mem_append.1 hrow with h | h
  ·exact hRl row h
  ·exact hzl row h
 ·unfold ag;rw[bh]
  show some (e,_)=some (e,_)
  rw[hsize]
theorem uL (hT:TabOK P T) {o:Oper} {c x y:Operand} {ats:Array TypeId} (ho:o.op=.call { callee:=.value c,args:=#[x,y],argTypes:=ats }) {f:FuncId} {fn:Func} {tS tR e:TypeId} (hc:evS σ c=(True,.fn f []))
  (hf:P.funcs[f]? = some fn) (hname:(fn.name == "runtime.NumGoroutine")=false) (hbody:fn.body.isNone=true) (hnx:Extern.findNext fn=none) (hfind:Extern.find fn=some (Extern.SlicesOverlaps.overlaps #[tS,tS] #[tR])) (ht:T.und tS=.sl e) (hs:T.siz e≠0)
  {i1 i2 s1 s2 o1 o2 l1 l2 e1 e2 z1 z2:Nat} {R1 R2:List (List AV)} (hx:evS σ x=(True,.osl i1 s1 o1 l1)) (hy:evS σ y=(True,.osl i2 s2 o2 l2)) (hne:i1≠i2) (hl1:0<l1) (hl2:0<l2) (hz2:s2≠0)
  (hb1:aa σ.hp i1=some (.cells e1 z1 R1)) (_hb2:aa σ.hp i2=some (.cells e2 z2 R2)):eK P C o σ (σ.put o.dst (.bool false)):=by
 refine dZ λμ S a w hi=>?_
 have hv:=hi.evS x u9;have hu:=hi.evS y Qi;have hg:=hi.evS c (by rw[hc];trivial);rw[hx] at hv;rw[hy] at hu;rw[hc] at hg;obtain ⟨A,ca,ha,hca,hor⟩:=hv.bT;obtain ⟨B,cb,hb,hcb,hor2⟩:=hu.bT;obtain ⟨vals,he,hl,_⟩:=hg.Bs;have hv0:vals=#[]:=Array.eq_empty_of_size_eq_zero Qj;subst hv0;have hty:P.underlying tS=some (.slice e):=by have:=hT.und tS;rw[ht] at this;exact this
 rcases hor with ⟨h,_⟩ | ⟨g1,n1,m1,k1,rfl,k3,k4⟩
 ·omega
 rcases hor2 with ⟨h,_⟩ | ⟨g2,n2,m2,q1,rfl,q3,q4⟩
 ·omega
 have hgne:g1≠g2:=λh=>hne (hi.inj i1 i2 g1 k1 (h▸q1))
 have hfro:∀off,w.frozen? { block:=g1,off }=false:=λoff=>by
  rcases hi.hp i1 _ hb1 with ⟨_,h⟩ | ⟨g',c',h1,h2,_⟩
  ·rw[k1] at h;cases h
  ·rw[k1] at h1;injection h1 with h1;subst h1
   simp[World.frozen?,h2]
 have hsh:∀{g n m},ag w g=some (n,m)->w.shape? g=some (n,m):=fun {g n m} h=>by
  unfold ag at h;unfold World.shape?;split at h
  ·rename_i h';rw[h'];exact h
  ·cases h
 have hm2:m2≠0:=by
  rw[<-q4];exact Nat.mul_ne_zero z8 hz2
 have hrun:=Lib.run_overlaps_apart (P:=P) w tS tR e hty (T.siz e) (λw=>bB hT hs) ⟨g1,o1*s1,none⟩ ⟨g2,o2*s2,none⟩ l1 ca l2 cb hgne n1 n2 m1 m2 (hsh k3) (hsh q3) hm2 (hfro _) (hfro _);have hcall:=run_callFunc_extern hf hname hbody hnx hfind #[a.eval x,a.eval y] w;rw[ha,hb,hrun] at hcall;refine ⟨.bool false,?_,.pure (.bool _)⟩;simp[execOp,ho,resolve,he,Deferred.ofValue,invoke,ha,hb,hcall]
theorem qI (n:Nat) {id e s:Nat} {rows:List (List AV)} (hb:aa σ.hp id=some (.cells e s rows)):Le C σ ⟨σ.tm,aF σ.hp id (.cells e s (rows.take n))⟩:=by
 rintro a w ⟨μ,S,hi⟩;refine ⟨μ,S,hi.size,hi.defers,hi.tm,λi b hb'=>?_,λi q hq=>?_,hi.inj,hi.frm,hi.sb⟩
 ·simp only[aj] at hb';split at hb'
  ·rename_i h1;injection hb' with hb'
   subst h1 hb'
   rcases hi.hp id _ hb with ⟨rfl,k2⟩ | ⟨g,c,k1,k2,k3,k4,k5⟩
   ·exact .inl ⟨by simp,k2⟩
   ·refine .inr ⟨g,c,k1,k2,Yn (YM _ QG) k3,λrow hr=>k4 row (YJ hr),λi row hr j x hx=>?_⟩;rw[YW] at hr;split at hr
    ·exact k5 i row hr j x hx
    ·cases hr
  ·exact hi.hp i b hb'
 ·obtain ⟨⟨b,h1⟩,h2⟩:=hi.dom i q hq;refine ⟨?_,h2⟩;simp only[aj];split
  ·exact ⟨_,rfl⟩
  ·exact ⟨b,h1⟩
def Aa:AV->AV
 | .nils=>.sl []
 | x=>x
theorem Rd.Aa {v:Value} {x:AV} (h:Rd μ S w v x):Rd μ S w v (Aa x):=by
 cases x<;>try exact h
 exact h.nrm
theorem ai.KS {f:FuncId} {args:List AV} {H:List (Nat×Blk)} {s e n:Nat} {rows rows':List (List AV)} (k:Nat) (h:ai P f args H λr H'=>∃j,r=.osl j s 0 n/\aa H' j=some (.cells e s rows))
  (hr:rows.map (λrow=>row.map Aa)=rows') (hp:∀row,row∈rows->∀x,x∈row->refs x=[]):ai P f args H λr H'=>r=.osl k s 0 n/\∀i b,aa [(k,.cells e s rows')] i=some b->aa H' i=some b:=by
 subst hr;intro R0 μ w0 vs hl ha hH hR;refine (h R0 μ w0 vs hl ha hH hR).mono ?_;rintro e' w' ⟨v,r,H',μ',S',rfl,⟨j,rfl,hb⟩,h4,h5,h6,h7,h8⟩
 let ν:Nat->Option Nat:=λi=>if i=k then μ' j else none
 have hν:∀{i g},ν i=some g->i=k/\μ' j=some g:=fun {i g} h=>by
  simp only[ν] at h;split at h
  ·exact ⟨by assumption,h⟩
  ·cases h
 have hνk:ν k=μ' j:=by simp[ν]
 refine ⟨v,_,[(k,.cells e s (rows.map (λrow=>row.map Aa)))],ν,S',rfl,⟨rfl,λi b h=>h⟩,?_,⟨λi b h=>?_,λi g h=>?_,λi i' g h h'=>by rw[(hν h).1,(hν h').1],h5.glob.sub λi g h=>⟨j,(hν h).2⟩⟩,h6,λi g h=>h7 j g (hν h).2,h8⟩
 ·obtain ⟨A,cap,rfl,hc,hor⟩:=h4.bT;refine .osl k s 0 n cap A hc ?_
  rcases hor with h | ⟨g,e2,m,k1,k2,k3,k4⟩
  ·exact .inl h
  ·exact .inr ⟨g,e2,m,hνk.trans k1,k2,k3,k4⟩
 ·simp only[aa] at h;split at h
  ·rename_i hk;injection h with h
   subst hk h
   rcases h5.blk j _ hb with ⟨k1,k2⟩ | ⟨g,c,k1,k2,k3,k4,k5⟩
   ·exact .inl ⟨by rw[k1];rfl,hνk.trans k2⟩
   ·refine .inr ⟨g,c,hνk.trans k1,k2,by rw[List.length_map];exact k3,λrow hrow=>?_,λi row hi q x hx=>?_⟩
    ·obtain ⟨r0,h0,rfl⟩:=W8.1 hrow;rw[List.length_map];exact k4 r0 h0
    ·rw[W5] at hi;cases e0:rows[i]? with
     | none=>rw[e0] at hi;cases hi
     | some r0=>
      rw[e0] at hi;simp only[Option.map_some,gL] at hi;subst hi;rw[W5] at hx;cases e1:r0[q]? with
      | none=>rw[e1] at hx;cases hx
      | some y=>
       rw[e1] at hx;simp only[Option.map_some,gL] at hx;subst hx;exact ((k5 i r0 e0 q y e1).free (hp r0 (W6 e0) y (W6 e1))).Aa
  ·cases h
 ·obtain ⟨h1,h2⟩:=hν h;subst h1;exact ⟨⟨.cells e s (rows.map (λrow=>row.map Aa)),by simp[aa]⟩,(h5.dom j g h2).2⟩
end
end Go.Eng
