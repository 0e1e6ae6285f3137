/- Texts of this claim, part 12: Wd, Cmp, Ins, Own. No condition. -/
import Derived.Test.YtmcfbfdonjllaaaGreatDoorZP11
set_option maxRecDepth 10000
set_option maxHeartbeats 4000000
set_option linter.unusedSimpArgs false
set_option linter.unusedVariables false
namespace Go.Eng
section
variable {P:Program} {T:Tab} {C:Ctx} {σ σ':St} {Ret:St->Prop}
section
variable {k k':List It} {p:Prop}
theorem wG [hT:TabC P T] (hk:Cw P C Ret k' σ') (h:go T 99 k σ=some (p,k',σ'):=by simp only[go_sem];try exact rfl) (hp:p:=by simp[go_sem]):Cw P C Ret k σ:=fq hT.ok 99 h hp hk
theorem wGq [hT:TabC P T] (hp:p) (hk:Cw P C Ret k' σ') (h:go T 99 k σ=some (p,k',σ'):=by simp only[go_sem];try exact rfl):Cw P C Ret k σ:=fq hT.ok 99 h hp hk
theorem wR (hk:Cw P C Ret k' σ) (h:goR 99 k=some k':=by simp only[go_sem];try exact rfl):Cw P C Ret k σ:=mo 99 h hk
variable {c:Operand} {x y:Code} {b:Bool}
theorem wD (ht:b=true->Cw P C Ret (.code x::k) σ) (hf:b=false->Cw P C Ret (.code y::k) σ) (h:evS σ c=(p,.bool b):=by simp only[go_sem];try exact rfl) (hp:p:=by trivial):Cw P C Ret (.code (.cond c x y)::k) σ:=sv h hp ht hf
theorem wDT (hk:Cw P C Ret (.code x::k) σ) (h:evS σ c=(p,.bool b):=by simp only[go_sem];try exact rfl) (hp:p:=by trivial) (hb:b=true):Cw P C Ret (.code (.cond c x y)::k) σ:=tt h hp hb hk
theorem wDF (hk:Cw P C Ret (.code y::k) σ) (h:evS σ c=(p,.bool b):=by simp only[go_sem];try exact rfl) (hp:p:=by trivial) (hb:b=false):Cw P C Ret (.code (.cond c x y)::k) σ:=tr h hp hb hk
theorem wN [hT:TabC P T] (n:Nat) {all:Array Oper} {l l1 l2:List Oper} (hk:Cw P C Ret (.ops all l2::k) σ') (h1:l.take n=l1:=by simp only[go_sem];exact rfl) (h2:l.drop n=l2:=by simp only[go_sem];exact rfl)
  (h:jR T all l1 σ=some (p,[],σ'):=by simp only[go_sem];try exact rfl) (hp:p:=by simp[go_sem]):Cw P C Ret (.ops all l::k) σ:=CE hT.ok n h1 h2 h hp hk
theorem wNq [hT:TabC P T] (n:Nat) {all:Array Oper} {l l1 l2:List Oper} (hp:p) (hk:Cw P C Ret (.ops all l2::k) σ') (h1:l.take n=l1:=by simp only[go_sem];exact rfl) (h2:l.drop n=l2:=by simp only[go_sem];exact rfl)
  (h:jR T all l1 σ=some (p,[],σ'):=by simp only[go_sem];try exact rfl):Cw P C Ret (.ops all l::k) σ:=CE hT.ok n h1 h2 h hp hk
variable {all:Array Oper} {o:Oper} {l:List Oper} {args:Array Operand} {ats:Array TypeId} {f:FuncId} {fn:Func} {xs:List AV} {r:AV}
theorem wC (hk:Cw P C Ret (.ops all l::k) σ') (F:P.funcs[f]? = some fn) (ho:o.op=.call { callee:=.value c,args,argTypes:=ats }:=by rfl) (hg:o.guard=none:=by rfl) (h:ax σ c args.toList=some (p,f,xs):=by simp only[go_sem];try exact rfl) (hp:p:=by simp[go_sem]) (c1:(fn.name == "runtime.NumGoroutine")=false:=by kernel_rfl) (c2:fn.body.isSome=true:=by rfl) (hx:aA xs=[]:=by simp[go_sem]) (hf:ai P f xs [] λr' _=>r'=r) (hr:refs r=[]:=by simp[go_sem]) (ha:σ.put o.dst r=σ':=by simp only[go_sem];exact rfl):Cw P C Ret (.ops all (o::l)::k) σ:=dC ho hg h hp ⟨fn,F,c1,c2⟩ hx hf hr ha hk
theorem wCC (hk:Cw P C Ret (.ops all l::k) σ') {b:Bool} (F:P.funcs[f]? = some fn) (ho:o.op=.call { callee:=.value c,args,argTypes:=ats }:=by rfl) (hg:guardOf all σ o.guard=some b:=by simp only[go_sem];try exact rfl) (h:ax σ c args.toList=some (p,f,xs):=by simp only[go_sem];try exact rfl) (hp:b=true->p:=by simp[go_sem]) (c1:(fn.name == "runtime.NumGoroutine")=false:=by kernel_rfl) (c2:fn.body.isSome=true:=by rfl) (hx:aA xs=[]:=by simp[go_sem]) (hf:b=true->ai P f xs [] λr' _=>r'=r) (hr:refs r=[]:=by simp[go_sem]) (ha:σ.put o.dst (.cnd b r)=σ':=by simp only[go_sem];exact rfl):Cw P C Ret (.ops all (o::l)::k) σ:=yH ho hg h hp ⟨fn,F,c1,c2⟩ hx hf hr ha hk
theorem wV (hk:Cw P C Ret (.ops all l::k) σ') {q:Prop} {ys:List AV} (F:P.funcs[f]? = some fn) (ho:o.op=.call { callee:=.value c,args,argTypes:=ats }:=by rfl) (hg:o.guard=none:=by rfl) (h:ax σ c args.toList=some (p,f,xs):=by simp only[go_sem];try exact rfl) (hp:p:=by simp[go_sem]) (hv:fv σ.hp xs=some (q,ys):=by simp only[go_sem];try exact rfl) (hq:q:=by simp[go_sem]) (c1:(fn.name == "runtime.NumGoroutine")=false:=by kernel_rfl) (c2:fn.body.isSome=true:=by rfl) (hf:ai P f ys [] λr' _=>r'=r) (hr:r.scalar=true:=by simp[go_sem]) (ha:σ.put o.dst r=σ':=by simp only[go_sem];exact rfl):Cw P C Ret (.ops all (o::l)::k) σ:=ny ho hg h hp hv hq ⟨fn,F,c1,c2⟩ hf hr ha hk
theorem wCG (hk:Cw P C Ret (.ops all l::k) σ') (ids:List Nat) (off:Nat) {H K:List (Nat×Blk)} (F:P.funcs[f]? = some fn) (ho:o.op=.call { callee:=.value c,args,argTypes:=ats }:=by rfl) (hg:o.guard=none:=by rfl) (h:ax σ c args.toList=some (p,f,xs):=by simp only[go_sem];try exact rfl) (hp:p:=by simp[go_sem]) (c1:(fn.name == "runtime.NumGoroutine")=false:=by kernel_rfl) (c2:fn.body.isSome=true:=by rfl) (hH:sub ids σ.hp=H:=by simp only[go_sem,Yz,Bool.or_true,Bool.true_or,if_true];try exact rfl) (hf:ai P f xs H λr' H'=>r'=r/\∀id b,aa K id=some b->aa H' id=some b) (hck:(aA xs).all ids.contains=true:=by simp[go_sem]) (hc1:(H.all λp=>(av p.2).all ids.contains)=true:=by simp[go_sem]) (hc2:((del ids σ.hp).all λp=>(av p.2).all λi=>!ids.contains i)=true:=by simp[go_sem]) (hc3:closed K (refs r)=true:=by simp only[go_sem]) (hc4:(K.all λp=>(aa σ.hp (p.1+off)).isNone)=true:=by simp[go_sem]) (hτ:(⟨σ.tm.map (iP ids),sh off K++del ids σ.hp⟩:St).put o.dst (ren off r)=σ':=by simp only[go_sem,Yz,Bool.or_true,Bool.true_or,Y2,↓reduceIte];exact rfl):Cw P C Ret (.ops all (o::l)::k) σ:=
 Fq ids off ho hg h hp ⟨fn,F,c1,c2⟩ hH hf hck hc1 hc2 hc3 hc4 hτ hk
theorem wTP (ids:List Nat) {H K:List (Nat×Blk)} (F:P.funcs[f]? = some fn) (ho:o.op=.call { callee:=.value c,args,argTypes:=ats }:=by rfl) (h:ax σ c args.toList=some (p,f,xs):=by simp only[go_sem];try exact rfl) (hp:p:=by simp[go_sem]) (c1:(fn.name == "runtime.NumGoroutine")=false:=by kernel_rfl) (c2:fn.body.isSome=true:=by rfl) (hH:sub ids σ.hp=H:=by simp only[go_sem,Yz,Bool.or_true,Bool.true_or,Y2,↓reduceIte];try exact rfl) (hck:((aA xs).all ids.contains&&(refs r).all ids.contains&&ids.all (λi=>decide (i<5000)&&(aa K i).isSome)&&K.all (λq=>ids.contains q.1))=true:=by simp[go_sem]) (hnd:(K.map (·.1)).Nodup:=by simp) (hpin:(ids.all λi=>match aa H i with | some b=>eW b | none=>false)=true:=by simp[go_sem]) (hc1:(H.all λq=>(av q.2).all ids.contains)=true:=by simp[go_sem]) (hc2:(K.all λq=>(av q.2).all ids.contains)=true:=by simp[go_sem]) (hf:∀G Y N:Nat->Nat,ai P f xs (H++pins ids G Y N) λr' H'=>r'=r/\∀i b,aa (K++pins ids G Y N) i=some b->aa H' i=some b) (hτ:(⟨σ.tm,bP σ.hp K⟩:St).put o.dst r=σ':=by simp only[go_sem,Yz,Bool.or_true,Bool.true_or,Y2,↓reduceIte];exact rfl):eK P C o σ σ':=dY ho h hp ⟨fn,F,c1,c2⟩ ids hH hck hnd hpin hc1 hc2 hf hτ
theorem wP (hk:Cw P C Ret (.ops all l::k) σ') (ids:List Nat) {H K:List (Nat×Blk)} (F:P.funcs[f]? = some fn) (hg:guardOf all σ o.guard=some true:=by rfl) (ho:o.op=.call { callee:=.value c,args,argTypes:=ats }:=by rfl) (h:ax σ c args.toList=some (p,f,xs):=by simp only[go_sem];try exact rfl) (hp:p:=by simp[go_sem]) (c1:(fn.name == "runtime.NumGoroutine")=false:=by kernel_rfl) (c2:fn.body.isSome=true:=by rfl) (hH:sub ids σ.hp=H:=by simp only[go_sem,Yz,Bool.or_true,Bool.true_or,Y2,↓reduceIte];try exact rfl) (hck:((aA xs).all ids.contains&&(refs r).all ids.contains&&ids.all (λi=>decide (i<5000)&&(aa K i).isSome)&&K.all (λq=>ids.contains q.1))=true:=by simp[go_sem]) (hnd:(K.map (·.1)).Nodup:=by simp) (hpin:(ids.all λi=>match aa H i with | some b=>eW b | none=>false)=true:=by simp[go_sem]) (hc1:(H.all λq=>(av q.2).all ids.contains)=true:=by simp[go_sem]) (hc2:(K.all λq=>(av q.2).all ids.contains)=true:=by simp[go_sem]) (hf:∀G Y N:Nat->Nat,ai P f xs (H++pins ids G Y N) λr' H'=>r'=r/\∀i b,aa (K++pins ids G Y N) i=some b->aa H' i=some b) (hτ:(⟨σ.tm,bP σ.hp K⟩:St).put o.dst r=σ':=by simp only[go_sem,Yz,Bool.or_true,Bool.true_or,Y2,↓reduceIte];exact rfl):Cw P C Ret (.ops all (o::l)::k) σ:=bC hg (dY ho h hp ⟨fn,F,c1,c2⟩ ids hH hck hnd hpin hc1 hc2 hf hτ) hk
end
section
variable {ops:Array Oper} {Q:Exit->Go.Act->World->Prop} {k n:Nat} {acc:dw} {o:Oper} {l l':List Oper} {p:Prop} {ps:List Sp} {sk:dw} {s1:List Loc×List Loc}
theorem sN [hT:TabC P T] (m:Nat) {l1 l2:List Oper} (hk:al P C ops Q k n (acc++sk) l2 σ') (h1:l.take m=l1:=by simp only[go_sem];exact rfl) (h2:l.drop m=l2:=by simp only[go_sem];exact rfl)
  (h:lO T ops l1 σ=some (p,ps,[],σ'):=by simp only[go_sem];try exact rfl) (hp:p:=by simp[go_sem]) (hs:iM ps=sk:=by simp only[go_sem];exact rfl):al P C ops Q k n acc l σ:=Az hT.ok m h1 h2 h hp hs hk
theorem sNq [hT:TabC P T] (m:Nat) {l1 l2:List Oper} (hp:p) (hk:al P C ops Q k n (acc++sk) l2 σ') (h1:l.take m=l1:=by simp only[go_sem];exact rfl) (h2:l.drop m=l2:=by simp only[go_sem];exact rfl)
  (h:lO T ops l1 σ=some (p,ps,[],σ'):=by simp only[go_sem];try exact rfl) (hs:iM ps=sk:=by simp only[go_sem];exact rfl):al P C ops Q k n acc l σ:=Az hT.ok m h1 h2 h hp hs hk
theorem sG [hT:TabC P T] (hk:al P C ops Q k n (acc++sk) l' σ') (h:lO T ops l σ=some (p,ps,l',σ'):=by simp only[go_sem];try exact rfl) (hp:p:=by simp[go_sem]) (hs:iM ps=sk:=by simp only[go_sem];exact rfl):al P C ops Q k n acc l σ:=Jv hT.ok h hp hs hk
theorem sE {j:Nat} (h:bp P C ops Q j σ) (hc:(np ops k acc&&yM n acc)=true:=by kernel_rfl) (hj:k+acc.length=j:=by simp only[go_sem];exact rfl):al P C ops Q k n acc l σ:=yc hc hj h
theorem sS (hk:al P C ops Q k n (acc++[s1]) l σ') (hg:guardOf ops σ o.guard=some false:=by simp only[go_sem];try exact rfl) (hs:((⟨o.dst,.cnd false .any,[],bW ops o.guard++[]⟩:Sp).wr,bW ops o.guard)=s1:=by simp only[go_sem];exact rfl)
  (ha:σ.put o.dst (.cnd false .any)=σ':=by simp only[go_sem];exact rfl):al P C ops Q k n acc (o::l) σ:=AA .any hg hs ha hk
theorem sSB (hk:al P C ops Q k n (acc++[s1]) l σ') (hg:guardOf ops σ o.guard=some false:=by simp only[go_sem];try exact rfl) (hs:((⟨o.dst,.cnd false (.bool false),[],bW ops o.guard++[]⟩:Sp).wr,bW ops o.guard)=s1:=by simp only[go_sem];exact rfl)
  (ha:σ.put o.dst (.cnd false (.bool false))=σ':=by simp only[go_sem];exact rfl):al P C ops Q k n acc (o::l) σ:=AA (.bool false) hg hs ha hk
variable {c:Operand} {args:Array Operand} {ats:Array TypeId} {f:FuncId} {fn:Func} {xs:List AV} {r:AV}
theorem sC (hk:al P C ops Q k n (acc++[s1]) l σ') (F:P.funcs[f]? = some fn) (ho:o.op=.call { callee:=.value c,args,argTypes:=ats }:=by rfl) (hg:o.guard=none:=by rfl) (h:ax σ c args.toList=some (p,f,xs):=by simp only[go_sem];try exact rfl) (hp:p:=by simp[go_sem]) (c1:(fn.name == "runtime.NumGoroutine")=false:=by kernel_rfl) (c2:fn.body.isSome=true:=by rfl) (hx:aA xs=[]:=by simp[go_sem]) (hf:ai P f xs [] λr' _=>r'=r) (hr:refs r=[]:=by simp[go_sem]) (hs:((ew ops σ o c args.toList r).wr,(ew ops σ o c args.toList r).rd)=s1:=by simp only[go_sem];exact rfl) (ha:σ.put o.dst r=σ':=by simp only[go_sem];exact rfl):al P C ops Q k n acc (o::l) σ:=GX ho hg h hp ⟨fn,F,c1,c2⟩ hx hf hr hs ha hk
theorem sCC (hk:al P C ops Q k n (acc++[s1]) l σ') {b:Bool} (F:P.funcs[f]? = some fn) (ho:o.op=.call { callee:=.value c,args,argTypes:=ats }:=by rfl) (hg:guardOf ops σ o.guard=some b:=by simp only[go_sem];try exact rfl) (h:ax σ c args.toList=some (p,f,xs):=by simp only[go_sem];try exact rfl) (hp:b=true->p:=by simp[go_sem]) (c1:(fn.name == "runtime.NumGoroutine")=false:=by kernel_rfl) (c2:fn.body.isSome=true:=by rfl) (hx:aA xs=[]:=by simp[go_sem]) (hf:b=true->ai P f xs [] λr' _=>r'=r) (hr:refs r=[]:=by simp[go_sem]) (hs:((ew ops σ o c args.toList (.cnd b r)).wr,(ew ops σ o c args.toList (.cnd b r)).rd)=s1:=by simp only[go_sem];exact rfl) (ha:σ.put o.dst (.cnd b r)=σ':=by simp only[go_sem];exact rfl):al P C ops Q k n acc (o::l) σ:=Ey ho hg h hp ⟨fn,F,c1,c2⟩ hx hf hr hs ha hk
theorem sW [hT:TabC P T] {d:Nat} {b:Blk} {x:AV} (hk:al P C ops Q k n (acc++[s1]) l σ') (hd:o.dst=some d:=by rfl) (hg:guardOf ops σ o.guard=some true:=by simp only[go_sem];try exact rfl) (h:mW T σ d o.op=some (p,b,x):=by simp only[go_sem];try exact rfl) (hp:p:=by simp[go_sem])
  (hf:aa σ.hp d=none:=by simp only[go_sem];try exact rfl) (hs:([Loc.tm d,Loc.blk d],bW ops o.guard++aQ σ o.op.operands.toList)=s1:=by simp only[go_sem];exact rfl) (ha:St.put ⟨σ.tm,(d,b)::σ.hp⟩ (some d) x=σ':=by simp only[go_sem];exact rfl) :
  al P C ops Q k n acc (o::l) σ:=Ju hT.ok hd hg h hp hf hs ha hk
theorem sB [hT:TabC P T] {t:TypeId} {parts:Array (Nat×Operand)} {b:Bool} {x y:AV} (hk:al P C ops Q k n (acc++[s1]) l σ') (ho:o.op=.build t parts:=by rfl) (hg:guardOf ops σ o.guard=some b:=by simp only[go_sem];try exact rfl) (h:fC T σ t parts.toList=some (p,x):=by simp only[go_sem];try exact rfl)
  (hp:b=true->p:=by simp[go_sem]) (hy:(bif b then x else .cnd false x)=y:=by simp only[go_sem,cond_true,cond_false];exact rfl) (hs:((Sp.mk o.dst y [] (bW ops o.guard++aQ σ (parts.toList.map (·.2)))).wr,bW ops o.guard++aQ σ (parts.toList.map (·.2)))=s1:=by simp only[go_sem];exact rfl)
  (ha:σ.put o.dst y=σ':=by simp only[go_sem];exact rfl):al P C ops Q k n acc (o::l) σ:=Ex hT.ok ho hg h hp hy hs ha hk
theorem sT [hT:TabC P T] {t:TypeId} {x y:Operand} {id size row off:Nat} {q:Prop} {v:AV} {H:List (Nat×Blk)} {b:Blk} (hk:al P C ops Q k n (acc++[s1]) l σ') (ho:o.op=.store t x y:=by rfl) (hd:o.dst=none:=by rfl) (hg:guardOf ops σ o.guard=some true:=by simp only[go_sem];try exact rfl)
  (hx:evS σ x=(True,.ptr id size row off):=by simp only[go_sem];try exact rfl) (hy:evS σ y=(q,v):=by simp only[go_sem];try exact rfl) (hq:q:=by first | trivial | simp[go_sem]) (h:gp T σ t (.ptr id size row off) v=some (p,H):=by simp only[go_sem];exact rfl) (hp:p:=by simp[go_sem])
  (hH:aa H id=some b:=by simp only[go_sem];exact rfl) (hs:([Loc.blk id],bW ops o.guard++(aQ σ [x,y]++[Loc.blk id]))=s1:=by simp only[go_sem];exact rfl) (ha:(⟨σ.tm,aF σ.hp id b⟩:St)=σ':=by simp only[go_sem];exact rfl):al P C ops Q k n acc (o::l) σ:=
 ej hT.ok ho hd hg hx hy hq h hp hH hs ha hk
theorem dS [hT:TabC P T] {j:Nat} (hk:bp P C ops Q j σ') (ho:ops[k]? = some o:=by rfl) (hc:Region.ready .any ops (bj ops.size k)=[k]:=by kernel_rfl) (hg:o.guard=none:=by rfl) (h:ey T σ o.dst o.op=some (p,σ'):=by simp only[go_sem];try exact rfl) (hp:p:=by simp[go_sem]) (hj:k+1=j:=by rfl) :
  bp P C ops Q k σ:=vG hT.ok ho hc hg h hp hj hk
theorem dSq [hT:TabC P T] {j:Nat} (hp:p) (hk:bp P C ops Q j σ') (ho:ops[k]? = some o:=by rfl) (hc:Region.ready .any ops (bj ops.size k)=[k]:=by kernel_rfl) (hg:o.guard=none:=by rfl) (h:ey T σ o.dst o.op=some (p,σ'):=by simp only[go_sem];try exact rfl) (hj:k+1=j:=by rfl) :
  bp P C ops Q k σ:=vG hT.ok ho hc hg h hp hj hk
end
end
section
variable {P:Program} {C:Ctx} {σ:St}
theorem wT {k:List It} {p:Prop} {r:AV} {res:St->Option (Prop×AV)} {post:AV->St->Prop} (hk:post r σ) (h:res σ=some (p,r):=by simp only[go_sem];try exact rfl) (hp:p:=by simp[go_sem]):Cw P C (λs=>∃p r,res s=some (p,r)/\p/\∃r',wk r r'/\post r' s) (.code .ret::k) σ:=lk ⟨p,r,h,hp,r,.inr (.inl rfl),hk⟩
theorem wU {k:List It} {p:Prop} {r:AV} {res:St->Option (Prop×AV)} {A B:AV->St->Prop} (ha:A r σ) (hb:B r σ) (h:res σ=some (p,r):=by simp only[go_sem];try exact rfl) (hp:p:=by simp[go_sem]):Cw P C (λs=>∃p r,res s=some (p,r)/\p/\∃r',wk r r'/\(A r' s/\B r' s)) (.code .ret::k) σ:=lk ⟨p,r,h,hp,r,.inr (.inl rfl),ha,hb⟩
theorem wKd {Ret:St->Prop} {k:List It} {ops:Array Oper} {n:Nat} (h:Cw P C Ret k σ) (hn:n=ops.size:=by kernel_rfl):bp P C ops (aft (eC C Ret) (sem P C (eC C Ret) k)) n σ:=jx hn h
end
theorem gD (n:Nat):n-0=n:=rfl
theorem gE {α:Type _} (l:List α):l.drop 0=l:=rfl
theorem gF {α β:Type _} (l:List α) (f:α->β):(l.map f).length=l.length:=List.length_map f
theorem gG (n:Nat):0+n=n:=Yd n
theorem wi1 {i:Nat} (h:i<=2000000000000):IntKind.i64.wrap ((i:Int)+1)=((i+1:Nat):Int):=by rw[Eng.wrap_small z8 z8];rfl
theorem gA {α:Type _} {xs:List α} {i:Nat} (h:i<xs.toArray.size):xs.toArray[i]=xs[i]'u1:=List.getElem_toArray h
theorem gB {α:Type _} (a:α) (l:List α) (i:Nat) (h:i+1<(a::l).length):(a::l)[i+1]=l[i]'(Nat.lt_of_succ_lt_succ h):=rfl
theorem gC {α:Type _} (a:α) (l:List α) (h:0<(a::l).length):(a::l)[0]=a:=rfl
section
variable {P:Program} {T:Tab} {C:Ctx} {σ σ':St} {Ret:St->Prop} {k k':List It} {p q:Prop} {c:Operand} {x y:Code} {b:Bool}
theorem wS [hT:TabC P T] {f:FuncId} {fn:Func} {c:Code} {args tm:List AV} {H:List (Nat×Blk)} {post:AV->List (Nat×Blk)->Prop} {n:Nat} {rs:Array ResultVar} {res:St->Option (Prop×AV)} (hf:P.funcs[f]? = some fn) (hn:fn.ntmps=n) (hr:fn.results=rs)
  (h:∀C:Ctx,Cw P C (λs=>∃p r,res s=some (p,r)/\p/\∃r',Eng.wk r r'/\post r' s.hp) [.code c] ⟨tm,H⟩) (hb:fn.body=some c:=by rfl) (ht:args++List.replicate (n-args.length) .any=tm:=by simp only[go_sem];exact rfl) (hR:∀s,pN T s rs.toList=res s:=by intro s;simp only[go_sem];exact rfl):ai P f args H post:=by
 subst hn hr ht;refine ZF hT.ok hf hb λC=>?_
 have e:(λs=>pN T s fn.results.toList)=res:=funext hR;have:=h C;rw[<-e] at this;exact this
theorem wGD [hT:TabC P T] (ht:b=true->Cw P C Ret (.code x::k') σ') (hf:b=false->Cw P C Ret (.code y::k') σ') (h:go T 99 k σ=some (p,.code (.cond c x y)::k',σ'):=by simp only[go_sem];try exact rfl) (hp:p:=by simp[go_sem]) (h2:evS σ' c=(q,.bool b):=by simp only[go_sem];try exact rfl) (hq:q:=by trivial):Cw P C Ret k σ:=fq hT.ok 99 h hp (sv h2 hq ht hf)
theorem wGT [hT:TabC P T] {r:AV} {res:St->Option (Prop×AV)} {post:AV->St->Prop} (hk:post r σ') (h:go T 99 k σ=some (p,.code .ret::k',σ'):=by simp only[go_sem];try exact rfl) (hp:p:=by simp[go_sem]) (h2:res σ'=some (q,r):=by simp only[go_sem];try exact rfl) (hq:q:=by simp[go_sem]):Cw P C (λs=>∃p r,res s=some (p,r)/\p/\∃r',wk r r'/\post r' s) k σ:=fq hT.ok 99 h hp (wT hk h2 hq)
theorem wFG [hT:TabC P T] (hk:Cw P C Ret k' σ') (h:evS σ c=(p,.bool b):=by simp only[go_sem];try exact rfl) (hp:p:=by trivial) (hb:b=false) (h2:go T 99 (.code y::k) σ=some (q,k',σ'):=by simp only[go_sem];try exact rfl) (hq:q:=by simp[go_sem]):Cw P C Ret (.code (.cond c x y)::k) σ:=tr h hp hb (fq hT.ok 99 h2 hq hk)
theorem wTG [hT:TabC P T] (hk:Cw P C Ret k' σ') (h:evS σ c=(p,.bool b):=by simp only[go_sem];try exact rfl) (hp:p:=by trivial) (hb:b=true) (h2:go T 99 (.code x::k) σ=some (q,k',σ'):=by simp only[go_sem];try exact rfl) (hq:q:=by simp[go_sem]):Cw P C Ret (.code (.cond c x y)::k) σ:=tt h hp hb (fq hT.ok 99 h2 hq hk)
theorem mh [hT:TabC P T] {p1:Prop} {k1:List It} {σ1:St} (hk:Cw P C Ret k' σ') (h1:go T 99 k σ=some (p1,.code (.cond c x y)::k1,σ1):=by simp only[go_sem];try exact rfl) (hp1:p1:=by simp[go_sem]) (h:evS σ1 c=(p,.bool b):=by simp only[go_sem];try exact rfl) (hp:p:=by trivial) (hb:b=false) (h2:go T 99 (.code y::k1) σ1=some (q,k',σ'):=by simp only[go_sem];try exact rfl) (hq:q:=by simp[go_sem]):Cw P C Ret k σ:=fq hT.ok 99 h1 hp1 (tr h hp hb (fq hT.ok 99 h2 hq hk))
theorem EX [hT:TabC P T] {p1:Prop} {k1:List It} {σ1:St} (hk:Cw P C Ret k' σ') (h1:go T 99 k σ=some (p1,.code (.cond c x y)::k1,σ1):=by simp only[go_sem];try exact rfl) (hp1:p1:=by simp[go_sem]) (h:evS σ1 c=(p,.bool b):=by simp only[go_sem];try exact rfl) (hp:p:=by trivial) (hb:b=true) (h2:go T 99 (.code x::k1) σ1=some (q,k',σ'):=by simp only[go_sem];try exact rfl) (hq:q:=by simp[go_sem]):Cw P C Ret k σ:=fq hT.ok 99 h1 hp1 (tt h hp hb (fq hT.ok 99 h2 hq hk))
theorem wSG [hT:TabC P T] {f:FuncId} {fn:Func} {c:Code} {args tm:List AV} {H:List (Nat×Blk)} {post:AV->List (Nat×Blk)->Prop} {n:Nat} {rs:Array ResultVar} {res:St->Option (Prop×AV)} (hf:P.funcs[f]? = some fn) (hn:fn.ntmps=n) (hr:fn.results=rs)
  (h:∀C:Ctx,Cw P C (λs=>∃p r,res s=some (p,r)/\p/\∃r',Eng.wk r r'/\post r' s.hp) k' σ') (hb:fn.body=some c:=by rfl) (ht:args++List.replicate (n-args.length) .any=tm:=by simp only[go_sem];exact rfl) (hR:∀s,pN T s rs.toList=res s:=by intro s;simp only[go_sem];exact rfl) (h2:go T 99 [.code c] ⟨tm,H⟩=some (q,k',σ'):=by simp only[go_sem];try exact rfl) (hq:q:=by simp[go_sem]):ai P f args H post:=
 wS hf hn hr (λC=>fq hT.ok 99 h2 hq (h C)) hb ht hR
theorem wCg [hT:TabC P T] {all:Array Oper} {o:Oper} {l:List Oper} {args:Array Operand} {ats:Array TypeId} {f:FuncId} {fn:Func} {xs:List AV} {r:AV} {σ1:St} (hk:Cw P C Ret k' σ') (F:P.funcs[f]? = some fn) (ho:o.op=.call { callee:=.value c,args,argTypes:=ats }:=by rfl) (hg:o.guard=none:=by rfl) (h:ax σ c args.toList=some (p,f,xs):=by simp only[go_sem];try exact rfl) (hp:p:=by simp[go_sem]) (c1:(fn.name == "runtime.NumGoroutine")=false:=by kernel_rfl) (c2:fn.body.isSome=true:=by rfl) (hx:aA xs=[]:=by simp[go_sem]) (hf:ai P f xs [] λr' _=>r'=r) (hr:refs r=[]:=by simp[go_sem]) (ha:σ.put o.dst r=σ1:=by simp only[go_sem];exact rfl) (h2:go T 99 (.ops all l::k) σ1=some (q,k',σ'):=by simp only[go_sem];try exact rfl) (hq:q:=by simp[go_sem]):Cw P C Ret (.ops all (o::l)::k) σ:=dC ho hg h hp ⟨fn,F,c1,c2⟩ hx hf hr ha (fq hT.ok 99 h2 hq hk)
theorem wL (n:Nat) (f:Nat->List (Nat×AV)) (g:Nat->List (Nat×Blk)) {c:Code} {l:List AV} {H:List (Nat×Blk)} (h0:Le C ⟨l,H⟩ ⟨iL l (f 0),bP H (g 0)⟩)
  (round:∀i,i<=n->Cw P C Ret (.code c::.back (λs=>∃j,j<=n/\n-j<n-i/\Le C s ⟨iL l (f j),bP H (g j)⟩)::k) ⟨iL l (f i),bP H (g i)⟩):Cw P C Ret (.code (.loop c)::k) ⟨l,H⟩:=ZL (λi=>i<=n) (λi=>n-i) f g 0 (Ys n) h0 round
theorem wNm (t:Nat) {b:Bool} {tm:Bool->List AV} (hk:∀c,b=c->Cw P C Ret k ⟨tm c,σ.hp⟩) (h:σ.tm.getD t .any=.bool b:=by simp only[go_sem];exact rfl) (hs:∀c,σ.tm.set t (.bool c)=tm c:=by intro c;simp only[go_sem];exact rfl):Cw P C Ret k σ:=Is t h λc hc=>by rw[hs];exact hk c hc
variable {ops:Array Oper} {id n m:Nat} {acc:dw} {l:List Oper}
theorem wn (h:Cw P C Ret k σ') (hs:σ=σ':=by simp only[go_sem];exact rfl):Cw P C Ret k σ:=hs▸h
theorem wO (h:al P C ops (aft (eC C Ret) (sem P C (eC C Ret) k)) 0 σ.tm.length [] (ops.toList.drop 0) σ) (hm:P.follows .mixedOrders=true:=by exact ZM):Cw P C Ret (.code (.region id ops true)::k) σ:=ZW hm (ZS rfl h)
theorem wGS [hT:TabC P T] (hs:al P C ops (aft (eC C Ret) (sem P C (eC C Ret) k')) 0 σ'.tm.length [] (ops.toList.drop 0) σ') (h:go T 99 k σ=some (p,.code (.region id ops true)::k',σ'):=by simp only[go_sem];try exact rfl) (hp:p:=by simp[go_sem]) (hm:P.follows .mixedOrders=true:=by exact ZM):Cw P C Ret k σ:=fq hT.ok 99 h hp (ZW hm (ZS rfl hs))
theorem wKn (h:Cw P C Ret k σ') (hs:σ=σ':=by first | (simp only[go_sem,gA,gB,gC];exact rfl) | exact rfl) (hn:n=ops.size:=by kernel_rfl):bp P C ops (aft (eC C Ret) (sem P C (eC C Ret) k)) n σ:=by subst hs;exact jx hn h
theorem wX (h:Cw P C Ret k σ') (hs:σ=σ':=by first | (simp only[go_sem,gA,gB,gC];exact rfl) | exact rfl) (hc:(np ops m acc&&yM n acc)=true:=by kernel_rfl) (hj:m+acc.length=ops.size:=by kernel_rfl):al P C ops (aft (eC C Ret) (sem P C (eC C Ret) k)) m n acc l σ:=by subst hs;exact yc hc hj (jx rfl h)
theorem wXG [hT:TabC P T] {σ1:St} (h:Cw P C Ret k' σ') (hs:σ=σ1:=by first | (simp only[go_sem,gA,gB,gC];exact rfl) | exact rfl) (h2:go T 99 k σ1=some (q,k',σ'):=by simp only[go_sem];try exact rfl) (hq:q:=by simp[go_sem]) (hc:(np ops m acc&&yM n acc)=true:=by kernel_rfl) (hj:m+acc.length=ops.size:=by kernel_rfl):al P C ops (aft (eC C Ret) (sem P C (eC C Ret) k)) m n acc l σ:=by subst hs;exact yc hc hj (jx rfl (fq hT.ok 99 h2 hq h))
theorem wKG [hT:TabC P T] {σ1:St} (h:Cw P C Ret k' σ') (hs:σ=σ1:=by first | (simp only[go_sem,gA,gB,gC];exact rfl) | exact rfl) (h2:go T 99 k σ1=some (q,k',σ'):=by simp only[go_sem];try exact rfl) (hq:q:=by simp[go_sem]) (hn:n=ops.size:=by kernel_rfl):bp P C ops (aft (eC C Ret) (sem P C (eC C Ret) k)) n σ:=by subst hs;exact jx hn (fq hT.ok 99 h2 hq h)
end
theorem wZ {p:Prop} (h:p:=by simp only[go_sem];exact ZU w3 w3 w3):p:=h
theorem wY {p:Prop} (h:p:=by simp only[go_sem];exact ZU w3 w3 Wj):p:=h
theorem lt1 {i n:Nat} (h:decide ((i:Int)<(n:Int))=true):i<n:=by have:=of_decide_eq_true h;omega
theorem eq1 {i n:Nat} (hi:i<=n) (h:decide ((i:Int)<(n:Int))=false):i=n:=by have:=of_decide_eq_false h;omega
end Go.Eng
namespace La
open Go Go.Eng Go.Proofs Go.Proofs.Tryz
def jt (a b:Int):Int:=if a<b then -1 else if b<a then 1 else 0
theorem xh (a b:Int):decide (jt a b<0)=decide (a<b):=by
 unfold jt;split
 ·rename_i h;simp[h]
 ·rename_i h;split
  ·simp[h]
  ·simp[h]
theorem Ik (a b:Int):decide (jt a b=0)=decide (a=b):=by
 unfold jt;split
 ·rename_i h;have:a≠b:=by omega
  simp[this]
 ·rename_i h;split
  ·have:a≠b:=by omega
   simp[this]
  ·have:a=b:=by omega
   simp[this]
theorem zu (a:Int):Fo 173 [.int .i64 a] (.bool false):=by
 refine wS func173 ntmps173 results173 λC=>?_
 refine wGT ?_;simp
theorem ju (a b:Int):Fo 147 [.int .i64 a,.int .i64 b] (.int .i64 (jt a b)):=by
 refine wSG func147 ntmps147 results147 λC=>?_
 refine wCg ?_ func173 (hf:=zu a);refine wC ?_ func173 (hf:=zu b);refine wGD (λh=>?_) (λh=>?_)
 ·cases h
 refine wGD (λh=>?_) (λh=>?_)
 ·cases h
 refine wGD (λh=>?_) (λh=>?_)
 ·refine wGT ?_
  simp_all [jt]
 refine wGD (λh=>?_) (λh=>?_)
 ·refine wGT ?_
  simp_all [jt]
  all_goals omega
 refine wGT ?_
 simp_all [jt]
 all_goals omega
theorem rY (n:Node) (f:Int):Fo 164 [.agg (ZN n),.int .i64 f] (.int .i64 (jt n.fid f)):=by
 unfold ZN;refine wSG func164 ntmps164 results164 λC=>?_
 refine wC ?_ func147 (hf:=ju n.fid f);refine wGT ?_;rfl
theorem Gg {a b:Nat} (h:a+b<=1000000000):IntKind.i64.wrap ((IntKind.u64.wrap (IntKind.i64.wrap ((a:Int)+(b:Int)))).fdiv (2 ^ min 1 64))=(((a+b) / 2:Nat):Int):=by
 have h1:IntKind.i64.wrap ((a:Int)+(b:Int))=((a+b:Nat):Int):=by rw[Eng.wrap_small z8 z8];omega
 have h2:IntKind.u64.wrap ((a+b:Nat):Int)=((a+b:Nat):Int):=by
  simp[IntKind.wrap,IntKind.signed,IntKind.bits];omega
 rw[h1,h2];have h3:(((a+b:Nat):Int)).fdiv (2 ^ min 1 64)=(((a+b) / 2:Nat):Int):=by
  show (((a+b:Nat):Int)).fdiv 2=_
  rw[Int.fdiv_eq_ediv_of_nonneg _ z8];omega
 rw[h3,Eng.wrap_small z8 z8]
def Lp (l:List Node) (f:Int) (i:Nat):Bool:=decide ((l.getD i default).fid<f)
theorem oX (lt:Nat->Bool) {lo hi:Nat} (h:lo<hi):bsearch lt (hi-lo) lo hi=if lt ((lo+hi) / 2) then bsearch lt (hi-((lo+hi) / 2+1)) ((lo+hi) / 2+1) hi else bsearch lt ((lo+hi) / 2-lo) lo ((lo+hi) / 2):=by
 obtain ⟨f,hf⟩:∃f,hi-lo=f+1:=⟨hi-lo-1,by omega⟩;rw[hf]
 conv=>lhs;unfold bsearch
 rw[if_pos h];split
 ·exact iT lt _ _ _ _ z8 z8
 ·exact iT lt _ _ _ _ z8 z8
theorem rj (lt:Nat->Bool) {lo hi:Nat} (h:¬lo<hi):bsearch lt (hi-lo) lo hi=lo:=by
 have:hi-lo=0:=by omega
 rw[this];rfl
theorem Ac (l:List Node) (f:Int) (hlen:l.length<=100000000):Fo 163 [.sl (l.map ZN),.int .i64 f,.fn 164 []] (.tup [.int .i64 (placeOf l f),.bool (bf l f)]):=by
 refine wSG func163 ntmps163 results163 λC=>?_
 refine ZL (λi:Nat×Nat=>i.1<=i.2/\i.2<=l.length/\bsearch (Lp l f) (i.2-i.1) i.1 i.2=placeOf l f) (λi=>i.2-i.1) (λi=>(9,.int .i64 i.1)::(10,.int .i64 i.2)::(11,.any)::u0 15 20 []) (λ_=>[]) (0,l.length) ⟨by simp,by simp,rfl⟩ ?_ λi hi=>?_
 ·exact wZ
 obtain ⟨lo,hi'⟩:=i;obtain ⟨h1,h2,h3⟩:=hi;simp only at h1 h2 h3;simp only[go_sem];refine wGD (λh=>?_) (λh=>?_)
 ·have hlt:=lt1 h;have hml:(lo+hi') / 2<l.length:=by omega
  have hn:=rY (l.getD ((lo+hi') / 2) default) f;have hg:(l.map ZN).getD ((lo+hi') / 2) []=ZN (l.getD ((lo+hi') / 2) default):=Fam.getD hml;have hmid:IntKind.i64.wrap ((IntKind.u64.wrap (IntKind.i64.wrap ((lo:Int)+(hi':Int)))).fdiv (2 ^ min 1 64))=(((lo+hi') / 2:Nat):Int):=Gg z8;have hst:=oX (Lp l f) hlt;have hlm:Lp l f ((lo+hi') / 2)=decide ((l.getD ((lo+hi') / 2) default).fid<f):=rfl;have hm1:lo<=(lo+hi') / 2:=by omega
  have hm2:(lo+hi') / 2<hi':=by omega
  generalize l.getD ((lo+hi') / 2) default=n at hn hg hlm;generalize (lo+hi') / 2=m at *;refine wGq ?_ ?_ (by simp only[go_sem,hmid,hg];try exact rfl)
  ·simp[hmid,hg,hml,ZN]
  refine wC ?_ func164 (hf:=hn);refine wGD (λh=>?_) (λh=>?_)
  ·rw[xh,<-hlm] at h;rw[h,if_pos rfl] at hst;have hw:IntKind.i64.wrap ((m:Int)+1)=((m+1:Nat):Int):=by rw[Eng.wrap_small z8 z8];omega
   refine wG ?_ w4 y7;refine ZB ⟨(m+1,hi'),⟨by omega,h2,hst▸h3⟩,by simp;omega,ZU ?_ ?_ ?_⟩
   ·simp[go_sem]
   ·simp[go_sem]
   ·simp[go_sem]
  ·rw[xh,<-hlm] at h;rw[h,if_neg w8] at hst;refine wG ?_;refine ZB ⟨(lo,m),⟨by omega,by omega,hst▸h3⟩,by simp;omega,ZU ?_ ?_ ?_⟩
   ·simp[go_sem]
   ·simp[go_sem]
   ·simp[go_sem]
 ·have hge:¬lo<hi':=by simp at h;omega
  rw[rj _ hge] at h3;subst h3;refine wR ?_;refine wN 5 ?_;refine wNm 39 λc39 h39=>?_
  cases c39 with
  | true=>
   have hpl:placeOf l f<l.length:=by have:=of_decide_eq_true h39;omega
   have hn:=rY (l.getD (placeOf l f) default) f;have hg:(l.map ZN).getD (placeOf l f) []=ZN (l.getD (placeOf l f) default):=Fam.getD hpl;have hat:bf l f=decide ((l.getD (placeOf l f) default).fid=f):=by simp[bf,hpl]
   generalize l.getD (placeOf l f) default=n at hn hg hat;refine wGq ?_ ?_ u6
   ·simp[hg,hpl,ZN]
   refine wCC ?_ func164 (hf:=λhb=>(hn));refine wGT ?_;have e:(jt n.fid f==0)=decide (n.fid=f):=by rw[<-Ik];by_cases h0:jt n.fid f=0<;>simp[h0]
   simp[hat,e]
  | false=>
   have hpl:¬placeOf l f<l.length:=by have:=of_decide_eq_false h39;omega
   have hat:bf l f=false:=by simp[bf,hpl]
   refine wG ?_;refine fD (.int .i64 0) rfl ?_;simp only[go_sem];refine wGT ?_;simp[hat]
theorem AU (l:List Node) (f:Int) (hlen:l.length<=100000000):Fo 120 [.sl (l.map ZN),.int .i64 f] (.tup [.int .i64 (placeOf l f),.bool (bf l f)]):=by
 refine wSG func120 ntmps120 results120 λC=>?_
 refine wC ?_ func163 (hf:=Ac l f hlen);refine wGT ?_;rfl
theorem zp (L:List (List AV)) (i:Nat) (z w:List AV) (hi:i<=L.length) :
  aY (aY (L.take i++List.replicate (L.length+1-i) w) i [z]) (i+1) (L.drop i)=L.take i++z::L.drop i:=by
 have hli:(L.take i).length=i:=by rw[YF];omega
 have h1:aY (L.take i++List.replicate (L.length+1-i) w) i [z]=L.take i++z::List.replicate (L.length-i) w:=by
  unfold aY;have e1:(L.take i++List.replicate (L.length+1-i) w).take i=L.take i:=by
   rw[List.take_append,hli,Yq,List.take_zero,List.append_nil,List.take_take,Nat.min_self]
  have e2:(L.take i++List.replicate (L.length+1-i) w).drop (i+[z].length)=List.replicate (L.length-i) w:=by
   rw[List.drop_append,Yt (by rw[hli];simp),List.drop_replicate,List.nil_append,hli]
   congr 1;simp;omega
  rw[e1,e2];simp
 rw[h1];unfold aY;have hl:(L.take i++[z]).length=i+1:=by rw[List.length_append,hli];rfl
 have e1:(L.take i++z::List.replicate (L.length-i) w).take (i+1)=L.take i++[z]:=by
  have:L.take i++z::List.replicate (L.length-i) w=(L.take i++[z])++List.replicate (L.length-i) w:=by simp
  rw[this,List.take_append,hl,Yq,List.take_zero,List.append_nil,W4 z8]
 have e2:(L.take i++z::List.replicate (L.length-i) w).drop (i+1+(L.drop i).length)=[]:=by
  refine Yt ?_;rw[List.length_append,hli,List.length_cons,Yx,YZ];omega
 rw[e1,e2];simp
theorem zq (L Z:List (List AV)) (i:Nat) (z:List AV) (hi:i<L.length) (hz:0<Z.length) :
  (aY (aY (L++Z) (i+1) (L.drop i)) i [z]).take (L.length+1)=L.take i++z::L.drop i:=by
 have hli:(L.take i).length=i:=by rw[YF];omega
 have hli1:(L.take (i+1)).length=i+1:=by rw[YF];omega
 have h1:aY (L++Z) (i+1) (L.drop i)=L.take (i+1)++(L.drop i++Z.drop 1):=by
  unfold aY;have e1:(L++Z).take (i+1)=L.take (i+1):=by rw[List.take_append,show i+1-L.length=0 by omega,List.take_zero,List.append_nil]
  have e2:(L++Z).drop (i+1+(L.drop i).length)=Z.drop 1:=by
   rw[List.drop_append,Yt (by rw[YZ];omega),List.nil_append,YZ]
   congr 1;omega
  rw[e1,e2,List.append_assoc]
 rw[h1];unfold aY;have e1:(L.take (i+1)++(L.drop i++Z.drop 1)).take i=L.take i:=by
  rw[List.take_append,hli1,show i-(i+1)=0 by omega,List.take_zero,List.append_nil,List.take_take,Yu z8]
 have e2:(L.take (i+1)++(L.drop i++Z.drop 1)).drop (i+[z].length)=L.drop i++Z.drop 1:=by
  rw[List.drop_append,Yt (by rw[hli1];simp),List.nil_append,hli1,show i+[z].length-(i+1)=0 by simp,List.drop_zero]
 rw[e1,e2];have e3:L.take i++[z]++(L.drop i++Z.drop 1)=(L.take i++z::L.drop i)++Z.drop 1:=by simp
 have e4:(L.take i++z::L.drop i).length=L.length+1:=by rw[List.length_append,hli,List.length_cons,YZ];omega
 rw[e3,List.take_append,e4,Yq,List.take_zero,List.append_nil,W4 z8]
theorem take_one (n:Nat) (z:List AV) (hn:0<n):List.take n [z]=[z]:=W4 k6
theorem oW {L:List (List AV)} (i:Nat) (h:(L.all λrow=>row.all AV.leaf)=true):((L.drop i).all λrow=>row.all AV.leaf)=true:=by
 rw[List.all_eq_true] at *;exact λx hx=>h x (Yb hx)
def Hh:List AV:=[.int .i64 0,.bool false,.nils,.nils,.int .i64 0]
theorem Ab (L:List (List AV)) (i:Nat) (hi:i<=L.length) (hlen:L.length<=100000000) (hL:rowsOf 5 L) (hlf:(L.all λrow=>row.all AV.leaf)=true) (hnr:∀id,(L.all λrow=>row.all λx=>!(refs x).contains id)=true) :
  ai prog 229 [.osl 1000 5 0 L.length,.int .i64 i,.osl 22 5 0 1] [(22,.cells 94 5 [Hh]),(1000,.cells 94 5 L)] (λr H=>∃j,r=.osl j 5 0 (L.length+1)/\aa H j=some (.cells 94 5 (L.take i++Hh::L.drop i))):=by
 refine wS func229 ntmps229 results229 λC=>?_
 refine wGq ?_ ?_
 ·simp[go_sem];omega
 refine wD (λh=>?_) (λh=>?_)
 ·simp at h
 by_cases hin:i=L.length
 ·subst hin;refine wGq ?_ ?_
  ·simp[go_sem]
  refine wD (λh=>?_) (λh=>?_)
  ·refine wGq ?_ ?_
   ·refine ⟨by simp,by simp,by intro row h;rw[List.mem_singleton.1 h];rfl,λ_ _ _ _ h=>by injection h,rfl,by omega,.inr trivial,by simp,⟨λ_=>by rfl,by simp⟩,?_⟩;rw[hnr 1000];rfl
   refine wT ?_;simp[go_sem]
  ·simp at h
 ·refine wGq ?_ ?_
  ·simp[go_sem]
  refine wD (λh=>?_) (λh=>?_)
  ·simp at h;omega
  refine wR ?_;refine wN 4 ?_;refine Fs tK rfl rfl rfl rfl (id:=1000) (s:=5) (off:=0) (len:=L.length) (e':=94) (rows:=L) z7 z7 z8 z8 z7 (λc hc1 hc2=>?_);simp only[go_sem];refine wG ?_;have hw1:IntKind.i64.wrap ((L.length:Int)+((1:Nat):Int))=((L.length+1:Nat):Int):=by rw[Eng.wrap_small z8 z8];omega
  have hw3:IntKind.i64.wrap ((i:Int)+((1:Nat):Int))=((i+1:Nat):Int):=by rw[Eng.wrap_small z8 z8];omega
  have hil:i<L.length:=by omega
  simp only[go_sem,hw1];refine wD (λh=>?_) (λh=>?_)
  ·have hc:=lt1 h;have hcl:c=L.length:=by omega
   subst hcl;have hw2:IntKind.i64.wrap (((L.length+1:Nat):Int)-(i:Int))=((L.length+1-i:Nat):Int):=by rw[Eng.wrap_small z8 z8];omega
   simp only[go_sem,Yd,Yq,List.replicate_zero,List.append_nil];refine wGq ?_ ?_ (by simp only[go_sem,hw1,hw2];try exact rfl)
   ·simp[go_sem];exact hi
   refine bC rfl (uP tK rfl rfl rfl (id:=1000) (s:=5) (len:=i) (n:=L.length+1-i) (j:=30) (N:=L.length) (d:=40) (e':=94) z7 z7 z7 z8 z8 z7 z8 rfl z8 x7 (by show (_+768)*72<=_;omega) z7) ?_;simp only[go_sem];refine wGq ?_ ?_ k8
   ·refine ⟨⟨by simp,by omega,by omega⟩,by simp,by intro row h;rw[List.mem_singleton.1 h];rfl,λ_ _ _ _ h=>by injection h,?_,?_⟩
    ·rw[take_one _ _ z8];rfl
    ·simp;omega
   simp only[go_sem,take_one (i+(L.length+1-i)-i) Hh z8];refine wO ?_;refine sNq 8 ?_ ?_ z6 z6 QI
   ·refine ⟨⟨by simp,by omega,by omega⟩,by simp,by omega,hi⟩
   refine sE ?_;refine dSq ?_ ?_
   ·simp only[go_sem];have e1:List.take (L.length-i) (List.drop i L)=L.drop i:=W4 w8;have e2:List.take (i+(L.length+1-i)-(i+1)) (L.drop i)=L.drop i:=W4 k6;rw[e1,e2];refine ⟨by simp,λrow hrow=>hL row (Yb hrow),λ_ _ _ _ h=>by injection h;simp;omega,oW i hlf,?_⟩;rw[eb k6];simp;omega
   refine wKd ?_;have e1:List.take (L.length-i) (List.drop i L)=L.drop i:=W4 w8;have e2:List.take (i+(L.length+1-i)-(i+1)) (L.drop i)=L.drop i:=W4 k6;simp only[go_sem,e1,e2];refine wGT ?_;refine ⟨40,?_,?_⟩
   ·simp[go_sem];omega
   ·rw[zp L i _ _ hi];rfl
  ·have hc:¬c<L.length+1:=by simp at h;omega
   refine wR ?_;refine wN 4 ?_;simp only[go_sem,hw1];refine bC rfl (pX tK rfl rfl (id:=1000) (s:=5) (off:=0) (len:=L.length) (h:=L.length+1) (j:=30) (N:=0+c) z7 z7 z7 z8 z8 rfl z8) ?_;simp only[go_sem];refine wGq ?_ ?_ QI
   ·exact ⟨by simp,by omega,hi⟩
   refine bC rfl (uL tK rfl (f:=241) (i1:=22) (i2:=1000) (s1:=5) (s2:=5) z7 (Go.Proofs.Tryz.func241) rfl rfl rfl rfl rfl x7 z7 z7 x7 z8 z8 x7 z7 z7) ?_;simp only[go_sem];refine wGD (λh=>?_) (λh=>?_)
   ·have hZ1:rowsOf 5 (List.replicate (c-L.length) [AV.any,AV.any,AV.any,AV.any,AV.any]):=λrow hr=>by rw[(Y1.1 hr).2];rfl
    have hZ2:0<(List.replicate (c-L.length) [AV.any,AV.any,AV.any,AV.any,AV.any]).length:=by rw[Yx];omega
    generalize List.replicate (c-L.length) [AV.any,AV.any,AV.any,AV.any,AV.any]=Z at hZ1 hZ2;have e0:List.drop i (L++Z)=L.drop i++Z:=by rw[List.drop_append,show i-L.length=0 by omega,List.drop_zero]
    have e1:(List.take (L.length+1-i) (List.drop i (L++Z))).length=L.length+1-i:=by rw[e0];simp;omega
    have e2:List.take (L.length-i) (List.take (L.length+1-i) (List.drop i (L++Z)))=L.drop i:=by
     rw[List.take_take,Yu z8,e0,List.take_append,YZ,Yq,List.take_zero,List.append_nil,W4 w8]
    have e3:L.length+1-(i+1)=L.length-i:=by omega
    refine wR ?_;refine wO ?_;refine sNq 8 ?_ ?_ z6 z6 QI
    ·exact ⟨⟨by simp,by omega,hi⟩,by simp,by omega,by omega⟩
    refine sE ?_;refine dSq ?_ ?_
    ·simp only[go_sem];refine ⟨by simp,λrow hr=>?_,λ_ _ _ _ h=>by injection h with _ _ _ h;rw[e1,h],?_,?_⟩
     ·have:=Yb (YJ hr)
      rcases List.mem_append.1 this with h | h
      ·exact hL row h
      ·exact hZ1 row h
     ·rw[e3,e2];exact oW i hlf
     ·omega
    refine wKd ?_;simp only[go_sem,e2,e3,gA,gB,gC];refine wGq ?_ ?_
    ·refine ⟨⟨by simp,by omega,by omega⟩,by simp,by intro row h;rw[List.mem_singleton.1 h];rfl,λ_ _ _ _ h=>by injection h,?_,?_⟩
     ·rw[take_one _ _ z8];rfl
     ·rw[eb k6,List.length_append];omega
    simp only[go_sem,take_one (L.length+1-i) Hh z8];refine af (qI (id:=1000) (L.length+1) z6) ?_;simp only[go_sem,zq L Z i Hh hil hZ2];refine wT ?_;refine ⟨1000,?_,?_⟩
    ·simp[go_sem]
    ·rfl
   ·simp at h
def uW:List AV:=[.str [],.int .i64 0]
theorem xn (L:List (List AV)) (i:Nat) (hi:i<=L.length) (hlen:L.length<=100000000) (hL:rowsOf 2 L) (hlf:(L.all λrow=>row.all AV.leaf)=true) (hnr:∀id,(L.all λrow=>row.all λx=>!(refs x).contains id)=true) :
  ai prog 209 [.osl 1000 2 0 L.length,.int .i64 i,.osl 28 2 0 1] [(28,.cells 96 2 [uW]),(1000,.cells 96 2 L)] (λr H=>∃j,r=.osl j 2 0 (L.length+1)/\aa H j=some (.cells 96 2 (L.take i++uW::L.drop i))):=by
 refine wS func209 ntmps209 results209 λC=>?_
 refine wGq ?_ ?_
 ·simp[go_sem];omega
 refine wD (λh=>?_) (λh=>?_)
 ·simp at h
 by_cases hin:i=L.length
 ·subst hin;refine wGq ?_ ?_
  ·simp[go_sem]
  refine wD (λh=>?_) (λh=>?_)
  ·refine wGq ?_ ?_
   ·refine ⟨by simp,by simp,by intro row h;rw[List.mem_singleton.1 h];rfl,λ_ _ _ _ h=>by injection h,rfl,by omega,.inr trivial,by simp,⟨λ_=>by rfl,by simp⟩,?_⟩;rw[hnr 1000];rfl
   refine wT ?_;simp[go_sem]
  ·simp at h
 ·refine wGq ?_ ?_
  ·simp[go_sem]
  refine wD (λh=>?_) (λh=>?_)
  ·simp at h;omega
  refine wR ?_;refine wN 4 ?_;refine Fs tK rfl rfl rfl rfl (id:=1000) (s:=2) (off:=0) (len:=L.length) (e':=96) (rows:=L) z7 z7 z8 z8 z7 (λc hc1 hc2=>?_);simp only[go_sem];refine wG ?_;have hw1:IntKind.i64.wrap ((L.length:Int)+((1:Nat):Int))=((L.length+1:Nat):Int):=by rw[Eng.wrap_small z8 z8];omega
  have hw3:IntKind.i64.wrap ((i:Int)+((1:Nat):Int))=((i+1:Nat):Int):=by rw[Eng.wrap_small z8 z8];omega
  have hil:i<L.length:=by omega
  simp only[go_sem,hw1];refine wD (λh=>?_) (λh=>?_)
  ·have hc:=lt1 h;have hcl:c=L.length:=by omega
   subst hcl;have hw2:IntKind.i64.wrap (((L.length+1:Nat):Int)-(i:Int))=((L.length+1-i:Nat):Int):=by rw[Eng.wrap_small z8 z8];omega
   simp only[go_sem,Yd,Yq,List.replicate_zero,List.append_nil];refine wGq ?_ ?_ (by simp only[go_sem,hw1,hw2];try exact rfl)
   ·simp[go_sem];exact hi
   refine bC rfl (uP tK rfl rfl rfl (id:=1000) (s:=2) (len:=i) (n:=L.length+1-i) (j:=30) (N:=L.length) (d:=40) (e':=96) z7 z7 z7 z8 z8 z7 z8 rfl z8 x7 (by show (_+768)*24<=_;omega) z7) ?_;simp only[go_sem];refine wGq ?_ ?_ k8
   ·refine ⟨⟨by simp,by omega,by omega⟩,by simp,by intro row h;rw[List.mem_singleton.1 h];rfl,λ_ _ _ _ h=>by injection h,?_,?_⟩
    ·rw[take_one _ _ z8];rfl
    ·simp;omega
   simp only[go_sem,take_one (i+(L.length+1-i)-i) uW z8];refine wO ?_;refine sNq 8 ?_ ?_ z6 z6 QI
   ·refine ⟨⟨by simp,by omega,by omega⟩,by simp,by omega,hi⟩
   refine sE ?_;refine dSq ?_ ?_
   ·simp only[go_sem];have e1:List.take (L.length-i) (List.drop i L)=L.drop i:=W4 w8;have e2:List.take (i+(L.length+1-i)-(i+1)) (L.drop i)=L.drop i:=W4 k6;rw[e1,e2];refine ⟨by simp,λrow hrow=>hL row (Yb hrow),λ_ _ _ _ h=>by injection h;simp;omega,oW i hlf,?_⟩;rw[eb k6];simp;omega
   refine wKd ?_;have e1:List.take (L.length-i) (List.drop i L)=L.drop i:=W4 w8;have e2:List.take (i+(L.length+1-i)-(i+1)) (L.drop i)=L.drop i:=W4 k6;simp only[go_sem,e1,e2];refine wGT ?_;refine ⟨40,?_,?_⟩
   ·simp[go_sem];omega
   ·rw[zp L i _ _ hi];rfl
  ·have hc:¬c<L.length+1:=by simp at h;omega
   refine wR ?_;refine wN 4 ?_;simp only[go_sem,hw1];refine bC rfl (pX tK rfl rfl (id:=1000) (s:=2) (off:=0) (len:=L.length) (h:=L.length+1) (j:=30) (N:=0+c) z7 z7 z7 z8 z8 rfl z8) ?_;simp only[go_sem];refine wGq ?_ ?_ QI
   ·exact ⟨by simp,by omega,hi⟩
   refine bC rfl (uL tK rfl (f:=230) (i1:=28) (i2:=1000) (s1:=2) (s2:=2) z7 (Go.Proofs.Tryz.func230) rfl rfl rfl rfl rfl x7 z7 z7 x7 z8 z8 x7 z7 z7) ?_;simp only[go_sem];refine wGD (λh=>?_) (λh=>?_)
   ·have hZ1:rowsOf 2 (List.replicate (c-L.length) [AV.any,AV.any]):=λrow hr=>by rw[(Y1.1 hr).2];rfl
    have hZ2:0<(List.replicate (c-L.length) [AV.any,AV.any]).length:=by rw[Yx];omega
    generalize List.replicate (c-L.length) [AV.any,AV.any]=Z at hZ1 hZ2;have e0:List.drop i (L++Z)=L.drop i++Z:=by rw[List.drop_append,show i-L.length=0 by omega,List.drop_zero]
    have e1:(List.take (L.length+1-i) (List.drop i (L++Z))).length=L.length+1-i:=by rw[e0];simp;omega
    have e2:List.take (L.length-i) (List.take (L.length+1-i) (List.drop i (L++Z)))=L.drop i:=by
     rw[List.take_take,Yu z8,e0,List.take_append,YZ,Yq,List.take_zero,List.append_nil,W4 w8]
    have e3:L.length+1-(i+1)=L.length-i:=by omega
    refine wR ?_;refine wO ?_;refine sNq 8 ?_ ?_ z6 z6 QI
    ·exact ⟨⟨by simp,by omega,hi⟩,by simp,by omega,by omega⟩
    refine sE ?_;refine dSq ?_ ?_
    ·simp only[go_sem];refine ⟨by simp,λrow hr=>?_,λ_ _ _ _ h=>by injection h with _ _ _ h;rw[e1,h],?_,?_⟩
     ·have:=Yb (YJ hr)
      rcases List.mem_append.1 this with h | h
      ·exact hL row h
      ·exact hZ1 row h
     ·rw[e3,e2];exact oW i hlf
     ·omega
    refine wKd ?_;simp only[go_sem,e2,e3,gA,gB,gC];refine wGq ?_ ?_
    ·refine ⟨⟨by simp,by omega,by omega⟩,by simp,by intro row h;rw[List.mem_singleton.1 h];rfl,λ_ _ _ _ h=>by injection h,?_,?_⟩
     ·rw[take_one _ _ z8];rfl
     ·rw[eb k6,List.length_append];omega
    simp only[go_sem,take_one (L.length+1-i) uW z8];refine af (qI (id:=1000) (L.length+1) z6) ?_;simp only[go_sem,zq L Z i uW hil hZ2];refine wT ?_;refine ⟨1000,?_,?_⟩
    ·simp[go_sem]
    ·rfl
   ·simp at h
theorem mn (d:List UInt8) (hd:d.length<=100000000):Fo 100 [.sl (d.map ZY)] (.sl (d.map ZY)):=by
 refine wSG func100 ntmps100 results100 λC=>?_
 refine mq tK rfl rfl rfl u3 u3 (λb hb=>?_);simp only[go_sem];refine wGD (λh=>?_) (λh=>?_)
 ·refine wG ?_;refine lk ⟨_,_,z7,by simp[go_sem],.sl [],.inr (.inr ⟨rfl,.inl rfl⟩),?_⟩;rw[hb h]
 ·refine wGq ?_ ?_
  ·simp;omega
  refine ZZ 7 rfl (lh _) (wn ?_);refine wT ?_;simp
theorem vc (d:List Entry) (hd:d.length<=100000000):Fo 101 [.sl (d.map ZE)] (.sl (d.map ZE)):=by
 refine wSG func101 ntmps101 results101 λC=>?_
 refine mq tK rfl rfl rfl u3 u3 (λb hb=>?_);simp only[go_sem];refine wGD (λh=>?_) (λh=>?_)
 ·refine wG ?_;refine lk ⟨_,_,z7,by simp[go_sem],.sl [],.inr (.inr ⟨rfl,.inl rfl⟩),?_⟩;rw[hb h]
 ·refine wGq ?_ ?_
  ·simp;omega
  refine ZZ 7 rfl (dx _) (wn ?_);refine wT ?_;simp
theorem sK (l:List Node) (hl:Small l):ai prog 66 [.sl (l.map ZN)] [] (λr H=>r=.osl 23 5 0 (l.map ZN).length/\∀i b,aa [(23,.cells 94 5 (l.map ZN))] i=some b->aa H i=some b):=by
 have hlen:=hl.len;refine wSG func66 ntmps66 results66 λC=>?_
 refine wL l.length (λi=>(3,.osl 23 5 0 i)::(5,.any)::(8,.int .i64 i)::u0 9 16 [])
  (λi=>[(23,.cells 94 5 ((l.take i).map ZN))]) ?_ λi hi=>?_
 ·exact wY
 simp only[go_sem];refine wGD (λh=>?_) (λh=>?_)
 ·have hlt:=lt1 h;have hn:=hl.each _ (YG hlt);have hg:=Fam.getD (f:=ZN) hlt;have hs:=dA ZN hlt;generalize l.getD i default=n at hn hg hs;refine wGq ?_ ?_ x8
  ·simp[hlt,ZN]
  refine wO ?_;refine sG ?_;refine sC ?_ func100 (hf:=mn _ hn.data);refine sG ?_;refine sC ?_ func101 (hf:=vc _ hn.entries);refine sG ?_;refine sE ?_;refine dS ?_;refine ZS rfl ?_;refine sG ?_;refine sE ?_;refine dS ?_;refine wKd ?_;have ht:List.take i (List.map ZN (List.take i l))=List.map ZN (List.take i l):=W4 k6;have hw:IntKind.i64.wrap ((i:Int)+1)=(i:Int)+1:=wrap_small z8 z8;refine wGq ?_ ?_ (by simp only[go_sem,ht,hw];try exact rfl)
  ·simp[rowsOf];omega
  refine ZB ⟨i+1,by omega,by omega,ZU ?_ ?_ ?_⟩
  ·simp[go_sem]
  ·simp[go_sem,hs,ZN]
  ·simp only[go_sem]
 ·obtain rfl:=eq1 hi h;refine wGT ?_;simp[go_sem]
theorem lI (l:List Node) (hl:Small l):Fo 66 [.sl (l.map ZN)] (.sl (l.map ZN)):=ai.read (sK l hl) (fm _)
end La
