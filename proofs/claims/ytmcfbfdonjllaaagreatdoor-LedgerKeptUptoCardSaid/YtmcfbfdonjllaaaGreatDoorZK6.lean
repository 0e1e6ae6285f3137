/- Texts of this claim, part 6: EngAA, EngAB, Tab. No condition. -/
import Derived.Test.YtmcfbfdonjllaaaGreatDoorZK5
import Derived.Lib.Overlaps
import Derived.Test.YtmcfbfdonjllaaaGreatDoorProg
import Derived.KernelRfl
set_option maxRecDepth 10000
set_option maxHeartbeats 4000000
set_option linter.unusedSimpArgs false
set_option linter.unusedVariables false
namespace Go.Eng
section
variable {P:Program} {T:Tab} {C:Ctx} {σ σ':St} {Ret:St->Prop} {k:List It}
def goR:Nat->List It->Option (List It)
 | 0,k=>some k
 | n+1,k=>
  match k with
  | .code (.seq x y)::k=>goR n (.code x::.code y::k)
  | .code (.block id c)::k=>goR n (.code c::.blk id::k)
  | .code .skip::k=>goR n k
  | .blk _::k=>goR n k
  | .code (.exit id)::k=>
   match exitTo id k with
   | some k'=>goR n k'
   | none=>none
  | .code (.region _ ops false)::k=>goR n (.ops ops ops.toList::k)
  | .ops _ []::k=>goR n k
  | k=>some k
theorem jM:∀(n:Nat) {k k':List It},goR n k=some k'->Cw P C Ret k' σ->Cw P C Ret k σ
 | 0,k,k',h,hk=>by
  simp only[goR,Option.some.injEq] at h;subst h;exact hk
 | n+1,k,k',h,hk=>by
  unfold goR at h;split at h
  ·exact nz (jM n h hk)
  ·exact uO (jM n h hk)
  ·exact yR (jM n h hk)
  ·exact BG (jM n h hk)
  ·split at h
   ·rename_i k1 he;exact yP he (jM n h hk)
   ·cases h
  ·exact rZ (jM n h hk)
  ·exact gm (jM n h hk)
  ·simp only[Option.some.injEq] at h;subst h;exact hk
theorem wE {l:List AV} {t:Nat} {x:AV} (h:l.getD t .any=x) (hx:x≠.any):l.set t x=l:=by
 apply List.ext_getElem?
 intro i;rw[Z7];split
 ·rename_i e;subst e;rw[Zo] at h;cases e:l[t]? with
  | none=>rw[e] at h;exact absurd h.symm hx
  | some y=>
   rw[e] at h;simp only[Option.getD_some] at h;subst h;rw[if_pos (Zu.1 e).1]
 ·rfl
theorem aV (t:Nat) {b:Bool} (h:σ.tm.getD t .any=.bool b) (hk:∀c,b=c->Cw P C Ret k ⟨σ.tm.set t (.bool c),σ.hp⟩):Cw P C Ret k σ:=by
 have:=hk b rfl
 rwa [wE h (λh=>nomatch h)] at this
theorem dU (t:Nat) {b:Bool} {ops:Array Oper} {Q:Exit->Act->World->Prop} {k n:Nat} {acc:cL} {l:List Oper} (h:σ.tm.getD t .any=.bool b) (hk:∀c,b=c->aj P C ops Q k n acc l ⟨σ.tm.set t (.bool c),σ.hp⟩):aj P C ops Q k n acc l σ:=by
 have:=hk b rfl
 rwa [wE h (λh=>nomatch h)] at this
theorem BM {c:Operand} {x y:Code} {b:Bool} {p:Prop} (hc:evS σ c=(p,.bool b)) (hp:p) (hb:b=true) (ht:Cw P C Ret (.code x::k) σ):Cw P C Ret (.code (.cond c x y)::k) σ:=
 tD hc hp (λ_=>ht) (λh=>by rw[hb] at h;cases h)
theorem BL {c:Operand} {x y:Code} {b:Bool} {p:Prop} (hc:evS σ c=(p,.bool b)) (hp:p) (hb:b=false) (hf:Cw P C Ret (.code y::k) σ):Cw P C Ret (.code (.cond c x y)::k) σ:=
 tD hc hp (λh=>by rw[hb] at h;cases h) (λ_=>hf)
mutual
def nrm:AV->AV
 | .nils=>.sl []
 | .sl rows=>.sl (ie rows)
 | .rp cells off=>.rp (fA cells) off
 | .agg cells=>.agg (fA cells)
 | .tup vs=>.tup (fA vs)
 | .fn f caps=>.fn f (fA caps)
 | x=>x
def fA:List AV->List AV
 | []=>[]
 | x::r=>nrm x::fA r
def ie:List (List AV)->List (List AV)
 | []=>[]
 | x::r=>fA x::ie r
end
theorem cV:∀l,fA l=l.map nrm
 | []=>rfl
 | x::r=>by simp[fA,cV r]
theorem dn:∀l,ie l=l.map fA
 | []=>rfl
 | x::r=>by simp[ie,dn r]
theorem RdP.nrm {S:Nat->Prop} {w:World} {v:Value} {x:AV} (h:RdP S w v x):RdP S w v (Eng.nrm x):=by
 have key:∀{l:List AV} {f:Nat->Value},(∀j x,l[j]? = some x->RdP S w (f j) (Eng.nrm x))->∀j x,(fA l)[j]? = some x->RdP S w (f j) x:=fun {l f} h j x hx=>by
  rw[cV,Zr] at hx;cases e:l[j]? with
  | none=>rw[e] at hx;cases hx
  | some y=>rw[e] at hx;simp only[Option.map_some,Option.some.injEq] at hx;subst hx;exact h j y e
 induction h with
 | int k n=>exact .int k n
 | bool b=>exact .bool b
 | str s l h=>exact .str s l h
 | nilp=>exact .nilp
 | nili=>exact .nili
 | ifc t p=>exact .ifc t p
 | nils=>exact .sl none 0 0 [] 0 0 0 (λ_ _=>undef) rfl (Zw _) (λrow h=>by simp at h) (λh=>by omega) (λi j h=>by omega) (λi row h=>by simp at h)
 | nilm=>exact .nilm
 | sl A len cap rows size g off vals hl hc hsz hA hcell hr ih=>
  refine .sl A len cap (ie rows) size g off vals (by rw[dn,List.length_map];exact hl) hc (λrow hrow=>?_) hA hcell (λi row hi j x hx=>?_)
  ·rw[dn] at hrow;obtain ⟨r,hr',rfl⟩:=Zv.1 hrow;rw[cV,List.length_map];exact hsz r hr'
  ·rw[dn,Zr] at hi;cases e:rows[i]? with
   | none=>rw[e] at hi;cases hi
   | some r=>
    rw[e] at hi;simp only[Option.map_some,Option.some.injEq] at hi;subst hi;exact key (f:=vals i) (ih i r e) j x hx
 | rp g o off cells vals hS hcell hr ih=>
  refine .rp g o off (fA cells) vals hS (λj hj=>hcell j (by rw[cV,List.length_map] at hj;exact hj)) (key ih)
 | rm g es clk kvs vals hS hg hm hr ih=>exact .rm g es clk kvs vals hS hg hm hr
 | fn f vals caps hl hr ih=>exact .fn f vals _ n4 (key ih)
 | agg cs cells hl hr ih=>exact .agg cs _ n4 (key ih)
theorem Rd.nrm {μ:Nat->Option Nat} {S:Nat->Prop} {w:World} {v:Value} {x:AV} (h:Rd μ S w v x):Rd μ S w v (Eng.nrm x):=by
 have key:∀{l:List AV} {f:Nat->Value},(∀j x,l[j]? = some x->Rd μ S w (f j) (Eng.nrm x))->∀j x,(fA l)[j]? = some x->Rd μ S w (f j) x:=fun {l f} h j x hx=>by
  rw[cV,Zr] at hx;cases e:l[j]? with
  | none=>rw[e] at hx;cases hx
  | some y=>rw[e] at hx;simp only[Option.map_some,Option.some.injEq] at hx;subst hx;exact h j y e
 induction h with
 | any v=>exact .any v
 | pure h=>exact .pure h.nrm
 | agg cs cells hl hr ih=>exact .agg cs _ n4 (key ih)
 | tup vs xs hl hr ih=>exact .tup vs _ n4 (key ih)
 | fn f vals caps hl hr ih=>exact .fn f vals _ n4 (key ih)
 | ptr id size row off g hg=>exact .ptr id size row off g hg
 | osl id size off len cap A hc h=>exact .osl id size off len cap A hc h
 | mp id g hg=>exact .mp id g hg
 | exs id size off len cap g e n hc hg hr hn=>exact .exs id size off len cap g e n hc hg hr hn
 | cndT v x h ih=>exact .cndT v x h
 | cndF x=>exact .cndF x
theorem ae.nrm {f:FuncId} {args args':List AV} {H:List (Nat×Blk)} {post:AV->List (Nat×Blk)->Prop} (hn:fA args=args') (h:ae P f args' H post):ae P f args H post:=by
 intro R0 μ w0 vs hl hr hH hR;subst hn;refine h R0 μ w0 vs n4 (λj x hx=>?_) hH hR;rw[cV,Zr] at hx;cases e:args[j]? with
 | none=>rw[e] at hx;cases hx
 | some y=>rw[e] at hx;simp only[Option.map_some,Option.some.injEq] at hx;subst hx;exact (hr j y e).nrm
attribute [go_sem] goR
end
end Go.Eng
namespace Go.Eng
section
variable {P:Program} {T:Tab} {C:Ctx} {σ σ':St} {Ret:St->Prop} {k:List It} {μ:Nat->Option Nat} {S:Nat->Prop} {a:Act} {w:World}
theorem fj (x:AV) {all:Array Oper} {o:Oper} {l:List Oper} (hg:guardOf all σ o.guard=some false) (h:Cw P C Ret (.ops all l::k) (σ.put o.dst (.cnd false x))):Cw P C Ret (.ops all (o::l)::k) σ:=by
 intro a w hr
 show wpList P all _ (o::l) a w
 unfold wpList;obtain ⟨μ,S,hi⟩:=hr;rw[ba hi hg];exact h _ _ ⟨μ,S,hi.put o.dst (.cndF _)⟩
theorem Inv.HR (hi:Inv C μ S σ a w) {id s e n g d N:Nat} {rows:List (List AV)} (hb:aa σ.hp id=some (.cells e s rows)) (hg:μ id=some g) (hr:af w g=some (n,N*s)) (hs:s≠0) (hf:aa σ.hp d=none) :
  rows.length≤N/\Inv C μ S ⟨σ.tm,(d,.cap id s N)::aB σ.hp id (.cells e s (rows++List.replicate (N-rows.length) (List.replicate s .any)))⟩ a w:=by
 rcases hi.hp id _ hb with ⟨_,k2⟩ | ⟨g',c,k1,k2,k3,k4,k5⟩
 ·rw[k2] at hg;cases hg
 ·rw[k1] at hg;injection hg with hg;subst hg
  have hcs:c.size=N*s:=by
   have:=hr;rw[af,k2] at this;simp only[Option.some.injEq,Prod.mk.injEq] at this;exact this.2
  have hle:rows.length≤N:=Nat.le_of_mul_le_mul_right (by rw[←hcs];exact k3) (Nat.pos_of_ne_zero hs);have hid:d≠id:=by rintro rfl;rw[hb] at hf;cases hf
  refine ⟨hle,hi.size,hi.defers,hi.tm,λi b hb'=>?_,λi q hq=>?_,hi.inj,hi.frm,hi.sb⟩
  ·simp only[aa] at hb';split at hb'
   ·rename_i hd;injection hb' with hb'
    subst hd hb';exact ⟨hi.fresh hf,g',n,k1,hr⟩
   ·rw[ai] at hb';split at hb'
    ·rename_i hi2;injection hb' with hb'
     subst hi2 hb';refine .inr ⟨g',c,k1,k2,by rw[List.length_append,Wk,hcs];exact Nat.le_of_eq (by congr 1;omega),λrow hrow=>?_,λi row hrow j x hx=>?_⟩
     ·rcases List.mem_append.1 hrow with h | h
      ·exact k4 row h
      ·rw[(List.mem_replicate.1 h).2];simp
     ·by_cases hil:i<rows.length
      ·rw[WC hil] at hrow;exact k5 i row hrow j x hx
      ·rw[Z8 z7,Wi] at hrow;split at hrow
       ·injection hrow with hrow
        subst hrow;rw[Wi] at hx;split at hx
        ·injection hx with hx;subst hx;exact .any _
        ·cases hx
       ·cases hrow
    ·exact hi.hp i b hb'
  ·obtain ⟨⟨b,h1⟩,h2⟩:=hi.dom i q hq;refine ⟨?_,h2⟩;simp only[aa];split
   ·exact ⟨_,rfl⟩
   ·rw[ai];split
    ·exact ⟨_,rfl⟩
    ·exact ⟨b,h1⟩
theorem BK (hT:TabOK P T) {all:Array Oper} {o:Oper} {l:List Oper} {x:Operand} {t e:TypeId} {d:Nat} (ho:o.op=.call { callee:=.builtin .cap,args:=#[x],argTypes:=#[t] }) (hd:o.dst=some d) (hg:o.guard=none) (ht:T.und t=.sl e)
  {id s off len e':Nat} {rows:List (List AV)} (hx:evS σ x=(True,.osl id s off len)) (hb:aa σ.hp id=some (.cells e' s rows)) (h0:0<len) (hs:s≠0) (hf:aa σ.hp d=none)
  (h:∀c:Nat,len≤c->rows.length≤off+c->Cw P C Ret (.ops all l::k) (St.put ⟨σ.tm,(d,.cap id s (off+c))::aB σ.hp id (.cells e' s (rows++List.replicate (off+c-rows.length) (List.replicate s .any)))⟩ (some d) (.int .i64 c))) :
  Cw P C Ret (.ops all (o::l)::k) σ:=by
 intro a w ⟨μ,S,hi⟩;have hv:=hi.evS x u7;rw[hx] at hv;obtain ⟨A,cap,hv',hc,hor⟩:=hv.bG;have hty:P.underlying t=some (.slice e):=by have:=hT.und t;rw[ht] at this;exact this
 rcases hor with ⟨h1,_⟩ | ⟨g,n,m,h1,_,h3,h4⟩
 ·omega
 ·obtain ⟨hle,hi'⟩:=hi.HR (d:=d) (N:=off+cap) hb h1 (by rw[h3,h4]) hs hf
  show wpList P all _ (o::l) a w
  unfold wpList;rw[ba hi (show guardOf all σ o.guard=some true from by rw[hg];rfl)];refine .inl ?_;unfold Oper.wp;have hrun:(execOp a.eval o).run P w=.ok (.value (.int .i64 cap)) w:=by
   have hv2:a.eval x=.slice A len cap:=hv';simp[execOp,ho,hv2,resolve,invoke,builtin,Builtin.cap_,run_underlying hty,goInt]
  rw[hrun,Oper.upon_value,hd];exact h cap hc hle _ _ ⟨μ,S,hi'.put (some d) (.pure (.int _ _))⟩
theorem ng (hT:TabOK P T) {o:Oper} {x hi:Operand} {t e:TypeId} (ho:o.op=.slice t x none (some hi) none) (ht:T.und t=.sl e) {id s off len h j N:Nat} (hx:evS σ x=(True,.osl id s off len)) (hh:evS σ hi=(True,.int .i64 (h:Nat)))
  (hcap:aa σ.hp j=some (.cap id s N)) (hN:off+h≤N) (h0:0<len) (hs:T.siz e=s) (hs0:s≠0):dx P C o σ (σ.put o.dst (.osl id s off h)):=by
 refine cS λμ S a w hi'=>?_
 have hv:=hi'.evS x u7;have hu:=hi'.evS hi Zm;rw[hx] at hv;rw[hh] at hu;obtain ⟨A,cap,hv',hc,hor⟩:=hv.bG;have hu':=hu.aF;have hty:P.underlying t=some (.slice e):=by have:=hT.und t;rw[ht] at this;exact this
 rcases hor with ⟨h1,_⟩ | ⟨g,n,m,h1,hA,h3,h4⟩
 ·omega
 ·obtain ⟨_,g',e',k1,k2⟩:=hi'.hp j _ hcap;rw[k1] at h1;injection h1 with h1;subst h1
  rw[h3] at k2;simp only[Option.some.injEq,Prod.mk.injEq] at k2;have hNc:off+cap=N:=Nat.eq_of_mul_eq_mul_right (Nat.pos_of_ne_zero hs0) (h4.trans k2.2);subst hA;have hrun:(Instr.sliceAt t (.slice (some ⟨g',off*s,none⟩) len cap) none (some (.int .i64 (h:Nat))) none).run P w=.ok (.slice (some ⟨g',off*s,none⟩) h cap) w:=by
   have hb:=fc (P:=P) (w:=w) true len cap 0 h none (some (.int .i64 (h:Nat))) (show fO none 0 0 from rfl) (show fO (some (.int .i64 (h:Nat))) len h from ⟨.i64,rfl⟩) (Wl _) z7
   by_cases hc0:cap=0
   ·subst hc0;simp[Instr.sliceAt,Instr.slice,run_underlying hty,hb,a_ hT (t:=e) QS]
   ·simp[Instr.sliceAt,Instr.slice,run_underlying hty,hb,a_ hT (t:=e) QS,hc0,Addr.add]
  refine ⟨.slice (some ⟨g',off*s,none⟩) h cap,?_,.osl id s off h cap _ z7 (.inr ⟨g',n,m,k1,rfl,h3,h4⟩)⟩;have e1:a.eval x=.slice (some ⟨g',off*s,none⟩) len cap:=hv';have e2:a.eval hi=.int .i64 (h:Nat):=hu';simp only[execOp,ho,e1,Option.map_none,Option.map_some,e2,Sem.run_bind,hrun];rfl
theorem oe (hT:TabOK P T) {t u e ty:TypeId} (ht:P.underlying t=some (.slice e)) (hu:P.underlying u=some (.int .i64)) (hs:T.siz e≠0) (hb:T.byt e≠0) {A:Option Addr} {len cap:Nat} {R:List (List AV)} {olds:List Value}
  (ho:Src μ S w (T.siz e) (.slice A len cap) R olds) (hlen:R.length=len) (n:Nat) (hn:n≠0) (hg:¬len+n≤cap) (hsz:(2*(len+n)+768)*T.byt e≤281474976710656) :
  ∃(nc:Nat) (z zs:Array Value),len+n≤nc/\z.size=(nc-(len+n))*T.siz e/\(∀(μ:Nat->Option Nat) (S:Nat->Prop) (w:World),RdR μ S w (T.siz e) zs (List.replicate n (T.zer e))) /\
   (Builtin.append_ #[t,u] ty #[.slice A len cap,.int .i64 (n:Nat)]).run P w=.ok (.slice (some ⟨w.heap.size,0,none⟩) (len+n) nc) (w.drew.alloc (.cells (olds.toArray++zs++z) e)):=by
 obtain ⟨i,hi,hi1,hi2,z,hz,_,hzs,_⟩:=hT.siz e hs;obtain ⟨z0,r1,r2,r3⟩:=kV hT (e:=e) n hs;have hzz:z0=z:=by
  have:=r1 w;simp[zeroValue,typeInfo,hi,hz] at this;exact this.symm
 subst hzz;have hnx:=lH (len+n) cap z7;have hfit:Builtin.nextslicecap (len+n) cap*i.bytes≤281474976710656:=by
  rw[hi2];exact We (Z2 _ hnx) hsz
 have hw1:Src μ S w.drew (T.siz e) (.slice A len cap) R olds:=⟨ho.form,ho.len,ho.rlen,λi row hi j x hx=>(ho.rd i row hi j x hx).mono (λ_ _=>rfl) (λ_ h=>h) (λ_ _ h=>h) (λ_ _ _=>rfl)⟩;have g1:=gh (P:=P) hw1;rw[hlen] at g1;have hb':i.bytes≠0:=by rw[hi2];exact hb
 have hnb:n*i.bytes≤281474976710656:=by
  rw[hi2];exact We (Z2 _ z7) hsz
 have hbl:n≤281474976710656:=We (Nat.le_mul_of_pos_right n (Nat.pos_of_ne_zero hb')) hnb;have hneed:len+n≤281474976710656:=by
  have h1:(len+n)*T.byt e≤281474976710656:=We (Z2 _ z7) hsz;exact We (Nat.le_mul_of_pos_right _ (Nat.pos_of_ne_zero hb)) h1
 have hwrap:IntKind.i64.wrap (n:Int)=n:=wrap_small z7 z7;have hnn:¬((n:Int)<0):=by omega
 have hm1:¬281474976710656<(n:Int)*(i.bytes:Int):=by
  have h0:((n*i.bytes:Nat):Int)≤((281474976710656:Nat):Int):=Int.ofNat_le.2 hnb;rw[Int.natCast_mul] at h0;omega
 have hm2:¬9223372036854775807<(len:Int)+(n:Int):=by omega
 have hns:n*T.siz e≠0:=Nat.mul_ne_zero hn hs;refine ⟨grownCap w (len+n) cap e,Builtin.zeroCells z0.cells (grownCap w (len+n) cap e-(len+n)),Builtin.zeroCells z0.cells n,grownCap_ge w _ _ _,by simp[Builtin.zeroCells,hzs],λμ S w=>?_,?_⟩
 ·have:=r3 μ S w;simp only[r2] at this;rw[Builtin.zeroCells,r2];exact this
 ·simp[Builtin.append_,run_underlying ht,run_underlying hu,sizeOf,typeInfo,hi,hi1,hwrap,hnn,hm1,hm2,hg,hb',hns,show ¬281474976710656<Builtin.nextslicecap (len+n) cap*i.bytes by omega,g1,Question.forced,zeroValue,hz,jx,grownCap,asInt,asIntOf]
theorem rr (hT:TabOK P T) {o:Oper} {x y:Operand} {t u e:TypeId} (ho:o.op=.call { callee:=.builtin .append,args:=#[x,y],argTypes:=#[t,u] }) (ht:T.und t=.sl e) (hu:P.underlying u=some (.int .i64))
  {id s len n j N d e':Nat} {R:List (List AV)} (hx:evS σ x=(True,.osl id s 0 len)) (hy:evS σ y=(True,.int .i64 (n:Nat))) (hcap:aa σ.hp j=some (.cap id s N)) (hN:N<len+n) (hn:n≠0)
  (hb0:aa σ.hp id=some (.cells e' s R)) (hR:len≤R.length) (hs:T.siz e=s) (hs0:s≠0) (hb:T.byt e≠0) (hsz:(2*(len+n)+768)*T.byt e≤281474976710656) (hd:aa σ.hp d=none) :
  dx P C o σ (St.put ⟨σ.tm,(d,.cells e s (R.take len++List.replicate n (T.zer e)))::σ.hp⟩ o.dst (.osl d s 0 (len+n))):=by
 subst hs;intro a w K Q ⟨μ,S,hi⟩ hK;have hv:=hi.evS x u7;have hvy:=hi.evS y QW;rw[hx] at hv;rw[hy] at hvy;have hvy':=hvy.aF;have hRl:rowsOf (T.siz e) (R.take len):=by
  rcases hi.hp id _ hb0 with ⟨rfl,_⟩ | ⟨g,c,_,_,_,k4,_⟩
  ·intro row hrow;simp at hrow
  ·exact λrow hrow=>k4 row (Z3 hrow)
 have hRt:(R.take len).length=len:=by simp;omega
 obtain ⟨olds,hol⟩:=lP hi (x:=.osl id (T.siz e) 0 len) (rows:=R.take len) (size:=T.siz e) (by simp[cC,hb0]) hv hRl (λ_ _ _ _ h=>by injection h with _ _ _ h;rw[hRt,h]);obtain ⟨A,cap,hv',hc,hor⟩:=hv.bG;have hty:P.underlying t=some (.slice e):=by have:=hT.und t;rw[ht] at this;exact this
 have hcN:cap≤N:=by
  rcases hor with ⟨h1,h2⟩ | ⟨g,n',m,h1,_,h3,h4⟩
  ·omega
  ·obtain ⟨_,g',e2,k1,k2⟩:=hi.hp j _ hcap;rw[k1] at h1;injection h1 with h1;subst h1
   rw[h3] at k2;simp only[Option.some.injEq,Prod.mk.injEq] at k2;have:=Nat.eq_of_mul_eq_mul_right (Nat.pos_of_ne_zero hs0) (h4.trans k2.2);omega
 rw[hv'] at hol;obtain ⟨nc,z,zs,h1,h2,h3,h4⟩:=oe (ty:=o.type) hT hty hu hs0 hb hol hRt n hn z7 hsz;have hfr:(execOp a.eval o).run P w=.ok (.value (.slice (some ⟨w.heap.size,0,none⟩) (len+n) nc)) (w.drew.alloc (.cells (olds.toArray++zs++z) e)):=by
  have e1:a.eval x=.slice A len cap:=hv';have e2:a.eval y=.int .i64 (n:Nat):=hvy';simp[execOp,ho,e1,e2,resolve,invoke,builtin,h4,-Array.append_assoc]
 have hi1:=hi.drew;have hnod:μ d=none:=hi.fresh hd;have hm:∀{v x},Rd μ S w v x->Rd (upd μ d (some w.heap.size)) S (World.alloc w.drew (.cells (olds.toArray++zs++z) e)) v x:=λh=>
  (h.mono (w':=w.drew) (λ_ _=>rfl) (λ_ h=>h) (λ_ _ h=>h) (λ_ _ _=>rfl)).mono (λb hb=>bt _ _ b (hi1.sb b hb).1) (λ_ h=>h) (λi' g hg=>by
   unfold upd;rw[if_neg Qh];exact hg) (λi' g hg=>aG (bt _ _ g (hi1.dom i' g hg).2.2.2))
 have hzl:rowsOf (T.siz e) (List.replicate n (T.zer e)):=λrow hrow=>(h3 μ S w).len row hrow
 have hzr:=h3 (upd μ d (some w.heap.size)) S (World.alloc w.drew (.cells (olds.toArray++zs++z) e));have hzn:zs.size=n*T.siz e:=by have:=hzr.size;rwa [Wk] at this
 have aa:∀k,k<olds.length+zs.toList.length->(olds.toArray++zs++z).getD k undef=(olds++zs.toList).getD k undef:=λk hk=>by
  rw[Zq,Zo,WZ Zl];rw[←WI];simp
 have key:=iE (μ:=upd μ d (some w.heap.size)) (S:=S) (w:=World.alloc w.drew (.cells (olds.toArray++zs++z) e)) (R:=R.take len) (rows:=List.replicate n (T.zer e)) (cs:=olds.toArray++zs++z) (s:=T.siz e) (olds:=olds) (vs:=zs.toList)
  hol.len hRl hzl (λi row hi' j x hx=>hm (hol.rd i row hi' j x hx)) (λi row hi' j x hx=>by
   have:=hzr.rd i row hi' j x hx
   rwa [Zq,←WI,←Zo] at this) (by simpa using hzr.size) aa
 have hsize:(olds.toArray++zs++z).size=nc*T.siz e:=by
  simp only[Array.size_append,List.size_toArray,hol.len,hRt,hzn,h2,←WW]
  congr 1;omega
 unfold Oper.wp;rw[hfr]
 show K (a.put o.dst _) _
 refine hK _ _ ⟨_,S,Inv.put (hi1.new d hd _ (.cells e (T.siz e) (R.take len++List.replicate n (T.zer e))) (.inr ⟨w.heap.size,_,by simp[upd],bh w _,?_,λrow hrow=>?_,key⟩)) o.dst (.osl d _ 0 _ nc _ h1 (.inr ⟨w.heap.size,e,nc*T.siz e,by simp[upd],by simp,?_,by simp⟩))⟩
 ·rw[List.length_append,hRt,Wk,hsize];exact Z2 _ h1
 ·rcases List.mem_append.1 hrow with h | h
  ·exact hRl row h
  ·exact hzl row h
 ·unfold af;rw[bh]
  show some (e,_)=some (e,_)
  rw[hsize]
theorem rk (hT:TabOK P T) {o:Oper} {c x y:Operand} {ats:Array TypeId} (ho:o.op=.call { callee:=.value c,args:=#[x,y],argTypes:=ats }) {f:FuncId} {fn:Func} {tS tR e:TypeId} (hc:evS σ c=(True,.fn f []))
  (hf:P.funcs[f]? = some fn) (hname:(fn.name == "runtime.NumGoroutine")=false) (hbody:fn.body.isNone=true) (hnx:Extern.findNext fn=none) (hfind:Extern.find fn=some (Extern.SlicesOverlaps.overlaps #[tS,tS] #[tR])) (ht:T.und tS=.sl e) (hs:T.siz e≠0)
  {i1 i2 s1 s2 o1 o2 l1 l2 e1 e2 z1 z2:Nat} {R1 R2:List (List AV)} (hx:evS σ x=(True,.osl i1 s1 o1 l1)) (hy:evS σ y=(True,.osl i2 s2 o2 l2)) (hne:i1≠i2) (hl1:0<l1) (hl2:0<l2) (hz2:s2≠0)
  (hb1:aa σ.hp i1=some (.cells e1 z1 R1)) (_hb2:aa σ.hp i2=some (.cells e2 z2 R2)):dx P C o σ (σ.put o.dst (.bool false)):=by
 refine cS λμ S a w hi=>?_
 have hv:=hi.evS x u7;have hu:=hi.evS y QW;have hg:=hi.evS c (by rw[hc];trivial);rw[hx] at hv;rw[hy] at hu;rw[hc] at hg;obtain ⟨A,ca,ha,hca,hor⟩:=hv.bG;obtain ⟨B,cb,hb,hcb,hor2⟩:=hu.bG;obtain ⟨vals,he,hl,_⟩:=hg.xI;have hv0:vals=#[]:=Array.eq_empty_of_size_eq_zero p8;subst hv0;have hty:P.underlying tS=some (.slice e):=by have:=hT.und tS;rw[ht] at this;exact this
 rcases hor with ⟨h,_⟩ | ⟨g1,n1,m1,k1,rfl,k3,k4⟩
 ·omega
 rcases hor2 with ⟨h,_⟩ | ⟨g2,n2,m2,q1,rfl,q3,q4⟩
 ·omega
 have hgne:g1≠g2:=λh=>hne (hi.inj i1 i2 g1 k1 (h▸q1))
 have hfro:∀off,w.frozen? { block:=g1,off }=false:=λoff=>by
  rcases hi.hp i1 _ hb1 with ⟨_,h⟩ | ⟨g',c',h1,h2,_⟩
  ·rw[k1] at h;cases h
  ·rw[k1] at h1;injection h1 with h1;subst h1
   simp[World.frozen?,h2]
 have hsh:∀{g n m},af w g=some (n,m)->w.shape? g=some (n,m):=fun {g n m} h=>by
  unfold af at h;unfold World.shape?;split at h
  ·rename_i h';rw[h'];exact h
  ·cases h
 have hm2:m2≠0:=by
  rw[←q4];exact Nat.mul_ne_zero z7 hz2
 have hrun:=Lib.run_overlaps_apart (P:=P) w tS tR e hty (T.siz e) (λw=>a_ hT hs) ⟨g1,o1*s1,none⟩ ⟨g2,o2*s2,none⟩ l1 ca l2 cb hgne n1 n2 m1 m2 (hsh k3) (hsh q3) hm2 (hfro _) (hfro _);have hcall:=run_callFunc_extern hf hname hbody hnx hfind #[a.eval x,a.eval y] w;rw[ha,hb,hrun] at hcall;refine ⟨.bool false,?_,.pure (.bool _)⟩;simp[execOp,ho,resolve,he,Deferred.ofValue,invoke,ha,hb,hcall]
theorem nU (n:Nat) {id e s:Nat} {rows:List (List AV)} (hb:aa σ.hp id=some (.cells e s rows)):Le C σ ⟨σ.tm,aB σ.hp id (.cells e s (rows.take n))⟩:=by
 rintro a w ⟨μ,S,hi⟩;refine ⟨μ,S,hi.size,hi.defers,hi.tm,λi b hb'=>?_,λi q hq=>?_,hi.inj,hi.frm,hi.sb⟩
 ·simp only[ai] at hb';split at hb'
  ·rename_i h1;injection hb' with hb'
   subst h1 hb'
   rcases hi.hp id _ hb with ⟨rfl,k2⟩ | ⟨g,c,k1,k2,k3,k4,k5⟩
   ·exact .inl ⟨by simp,k2⟩
   ·refine .inr ⟨g,c,k1,k2,We (Z2 _ n3) k3,λrow hr=>k4 row (Z3 hr),λi row hr j x hx=>?_⟩;rw[WE] at hr;split at hr
    ·exact k5 i row hr j x hx
    ·cases hr
  ·exact hi.hp i b hb'
 ·obtain ⟨⟨b,h1⟩,h2⟩:=hi.dom i q hq;refine ⟨?_,h2⟩;simp only[ai];split
  ·exact ⟨_,rfl⟩
  ·exact ⟨b,h1⟩
def vX:AV->AV
 | .nils=>.sl []
 | x=>x
theorem Rd.vX {v:Value} {x:AV} (h:Rd μ S w v x):Rd μ S w v (vX x):=by
 cases x<;>try exact h
 exact h.nrm
theorem ae.GL {f:FuncId} {args:List AV} {H:List (Nat×Blk)} {s e n:Nat} {rows rows':List (List AV)} (k:Nat) (h:ae P f args H λr H'=>∃j,r=.osl j s 0 n/\aa H' j=some (.cells e s rows))
  (hr:rows.map (λrow=>row.map vX)=rows') (hp:∀row,row∈rows->∀x,x∈row->refs x=[]):ae P f args H λr H'=>r=.osl k s 0 n/\∀i b,aa [(k,.cells e s rows')] i=some b->aa H' i=some b:=by
 subst hr;intro R0 μ w0 vs hl ha hH hR;refine (h R0 μ w0 vs hl ha hH hR).mono ?_;rintro e' w' ⟨v,r,H',μ',S',rfl,⟨j,rfl,hb⟩,h4,h5,h6,h7,h8⟩
 let ν:Nat->Option Nat:=λi=>if i=k then μ' j else none
 have hν:∀{i g},ν i=some g->i=k/\μ' j=some g:=fun {i g} h=>by
  simp only[ν] at h;split at h
  ·exact ⟨by assumption,h⟩
  ·cases h
 have hνk:ν k=μ' j:=by simp[ν]
 refine ⟨v,_,[(k,.cells e s (rows.map (λrow=>row.map vX)))],ν,S',rfl,⟨rfl,λi b h=>h⟩,?_,⟨λi b h=>?_,λi g h=>?_,λi i' g h h'=>by rw[(hν h).1,(hν h').1],h5.glob.sub λi g h=>⟨j,(hν h).2⟩⟩,h6,λi g h=>h7 j g (hν h).2,h8⟩
 ·obtain ⟨A,cap,rfl,hc,hor⟩:=h4.bG;refine .osl k s 0 n cap A hc ?_
  rcases hor with h | ⟨g,e2,m,k1,k2,k3,k4⟩
  ·exact .inl h
  ·exact .inr ⟨g,e2,m,hνk.trans k1,k2,k3,k4⟩
 ·simp only[aa] at h;split at h
  ·rename_i hk;injection h with h
   subst hk h
   rcases h5.blk j _ hb with ⟨k1,k2⟩ | ⟨g,c,k1,k2,k3,k4,k5⟩
   ·exact .inl ⟨by rw[k1];rfl,hνk.trans k2⟩
   ·refine .inr ⟨g,c,hνk.trans k1,k2,by rw[List.length_map];exact k3,λrow hrow=>?_,λi row hi q x hx=>?_⟩
    ·obtain ⟨r0,h0,rfl⟩:=Zv.1 hrow;rw[List.length_map];exact k4 r0 h0
    ·rw[Zr] at hi;cases e0:rows[i]? with
     | none=>rw[e0] at hi;cases hi
     | some r0=>
      rw[e0] at hi;simp only[Option.map_some,Option.some.injEq] at hi;subst hi;rw[Zr] at hx;cases e1:r0[q]? with
      | none=>rw[e1] at hx;cases hx
      | some y=>
       rw[e1] at hx;simp only[Option.map_some,Option.some.injEq] at hx;subst hx;exact ((k5 i r0 e0 q y e1).free (hp r0 (Zs e0) y (Zs e1))).vX
  ·cases h
 ·obtain ⟨h1,h2⟩:=hν h;subst h1;exact ⟨⟨.cells e s (rows.map (λrow=>row.map vX)),by simp[aa]⟩,(h5.dom j g h2).2⟩
end
end Go.Eng
namespace Go.Eng
def Fw:TypeId->KD
 | 2=>(.int .i64)
 | 3=>(.int .i64)
 | 4=>.bool
 | 5=>(.int .u8)
 | 6=>(.int .u8)
 | 7=>.struct
 | 8=>.struct
 | 9=>.str
 | 10=>.str
 | 11=>.str
 | 12=>(.int .u64)
 | 13=>.struct
 | 14=>.struct
 | 15=>(.ptr 309)
 | 16=>(.ptr 312)
 | 17=>(.ptr 321)
 | 18=>.struct
 | 19=>.struct
 | 21=>(.int .i32)
 | 24=>(.sl 5)
 | 25=>.struct
 | 26=>.struct
 | 28=>(.sl 26)
 | 29=>(.sl 94)
 | 30=>(.sl 79)
 | 31=>.struct
 | 32=>.struct
 | 33=>(.sl 47)
 | 34=>.struct
 | 35=>.struct
 | 36=>(.sl 42)
 | 37=>(.int .i64)
 | 40=>(.sl 3)
 | 41=>.struct
 | 42=>.struct
 | 43=>(.sl 138)
 | 44=>(.sl 51)
 | 45=>(.sl 118)
 | 46=>.struct
 | 47=>.struct
 | 48=>.struct
 | 49=>.struct
 | 50=>.struct
 | 51=>.struct
 | 65=>(.map 3 94)
 | 66=>(.map 3 94)
 | 70=>(.sl 76)
 | 74=>(.map 3 3)
 | 75=>.struct
 | 76=>.struct
 | 78=>.struct
 | 79=>.struct
 | 92=>(.sl 96)
 | 93=>.struct
 | 94=>.struct
 | 95=>.struct
 | 96=>.struct
 | 97=>(.ptr 47)
 | 100=>(.ptr 103)
 | 101=>(.sl 40)
 | 102=>.struct
 | 103=>.struct
 | 104=>(.sl 162)
 | 117=>.struct
 | 118=>.struct
 | 119=>(.ptr 121)
 | 120=>.struct
 | 121=>.struct
 | 122=>(.sl 9)
 | 137=>.struct
 | 138=>.struct
 | 144=>(.ptr 146)
 | 145=>.struct
 | 146=>.struct
 | 148=>(.ptr 26)
 | 157=>(.sl 49)
 | 161=>.struct
 | 162=>.struct
 | 163=>(.map 3 4)
 | 183=>(.ptr 94)
 | 187=>(.ptr 49)
 | 198=>(.ptr 200)
 | 199=>.struct
 | 200=>.struct
 | 203=>(.ptr 51)
 | 214=>.struct
 | 215=>.struct
 | 226=>(.ptr 228)
 | 227=>.struct
 | 228=>.struct
 | 244=>(.int .u64)
 | 263=>(.int .i64)
 | 270=>(.int .u32)
 | 272=>(.int .u64)
 | 286=>(.int .u64)
 | 290=>(.ptr 3)
 | 296=>(.ptr 286)
 | 300=>.struct
 | 301=>.struct
 | 308=>.struct
 | 309=>.struct
 | 314=>(.int .u8)
 | 315=>(.int .u8)
 | 317=>(.ptr 5)
 | 318=>(.int .i32)
 | 319=>(.int .i32)
 | _=>.other
def yr:TypeId->Nat
 | 2=>1
 | 3=>1
 | 4=>1
 | 5=>1
 | 6=>1
 | 7=>4
 | 8=>4
 | 9=>1
 | 10=>1
 | 11=>1
 | 12=>1
 | 13=>2
 | 14=>2
 | 15=>1
 | 16=>1
 | 17=>1
 | 18=>1
 | 19=>1
 | 21=>1
 | 24=>1
 | 25=>6
 | 26=>6
 | 28=>1
 | 29=>1
 | 30=>1
 | 31=>3
 | 32=>3
 | 33=>1
 | 34=>4
 | 35=>4
 | 36=>1
 | 37=>1
 | 40=>1
 | 41=>4
 | 42=>4
 | 43=>1
 | 44=>1
 | 45=>1
 | 46=>10
 | 47=>10
 | 48=>7
 | 49=>7
 | 50=>9
 | 51=>9
 | 65=>1
 | 66=>1
 | 70=>1
 | 74=>1
 | 75=>4
 | 76=>4
 | 78=>8
 | 79=>8
 | 92=>1
 | 93=>5
 | 94=>5
 | 95=>2
 | 96=>2
 | 97=>1
 | 100=>1
 | 101=>1
 | 102=>2
 | 103=>2
 | 104=>1
 | 117=>2
 | 118=>2
 | 119=>1
 | 120=>13
 | 121=>13
 | 122=>1
 | 137=>8
 | 138=>8
 | 144=>1
 | 145=>13
 | 146=>13
 | 148=>1
 | 157=>1
 | 161=>2
 | 162=>2
 | 163=>1
 | 183=>1
 | 187=>1
 | 198=>1
 | 199=>6
 | 200=>6
 | 203=>1
 | 214=>4
 | 215=>4
 | 226=>1
 | 227=>9
 | 228=>9
 | 244=>1
 | 263=>1
 | 270=>1
 | 272=>1
 | 286=>1
 | 290=>1
 | 296=>1
 | 300=>2
 | 301=>2
 | 308=>4
 | 309=>4
 | 314=>1
 | 315=>1
 | 317=>1
 | 318=>1
 | 319=>1
 | _=>0
def HO:TypeId->Nat
 | 2=>8
 | 3=>8
 | 4=>1
 | 5=>1
 | 6=>1
 | 7=>24
 | 8=>24
 | 9=>16
 | 10=>16
 | 11=>16
 | 12=>8
 | 13=>24
 | 14=>24
 | 15=>8
 | 16=>8
 | 17=>8
 | 18=>8
 | 19=>8
 | 21=>4
 | 24=>24
 | 25=>80
 | 26=>80
 | 28=>24
 | 29=>24
 | 30=>24
 | 31=>56
 | 32=>56
 | 33=>24
 | 34=>80
 | 35=>80
 | 36=>24
 | 37=>8
 | 40=>24
 | 41=>48
 | 42=>48
 | 43=>24
 | 44=>24
 | 45=>24
 | 46=>144
 | 47=>144
 | 48=>88
 | 49=>88
 | 50=>104
 | 51=>104
 | 65=>8
 | 66=>8
 | 70=>24
 | 74=>8
 | 75=>32
 | 76=>32
 | 78=>96
 | 79=>96
 | 92=>24
 | 93=>72
 | 94=>72
 | 95=>24
 | 96=>24
 | 97=>8
 | 100=>8
 | 101=>24
 | 102=>48
 | 103=>48
 | 104=>24
 | 117=>24
 | 118=>24
 | 119=>8
 | 120=>200
 | 121=>200
 | 122=>24
 | 137=>96
 | 138=>96
 | 144=>8
 | 145=>200
 | 146=>200
 | 148=>8
 | 157=>24
 | 161=>16
 | 162=>16
 | 163=>8
 | 183=>8
 | 187=>8
 | 198=>8
 | 199=>64
 | 200=>64
 | 203=>8
 | 214=>64
 | 215=>64
 | 226=>8
 | 227=>120
 | 228=>120
 | 244=>8
 | 263=>8
 | 270=>4
 | 272=>8
 | 286=>8
 | 290=>8
 | 296=>8
 | 300=>2
 | 301=>2
 | 308=>40
 | 309=>40
 | 314=>1
 | 315=>1
 | 317=>8
 | 318=>4
 | 319=>4
 | _=>0
def HQ:TypeId->List AV
 | 2=>[.int .i64 0]
 | 3=>[.int .i64 0]
 | 4=>[.bool false]
 | 5=>[.int .u8 0]
 | 6=>[.int .u8 0]
 | 7=>[.int .i64 0,.int .i64 0,.bool false,.int .u8 0]
 | 8=>[.int .i64 0,.int .i64 0,.bool false,.int .u8 0]
 | 9=>[.str []]
 | 10=>[.str []]
 | 11=>[.str []]
 | 12=>[.int .u64 0]
 | 13=>[.str [],.int .u64 0]
 | 14=>[.str [],.int .u64 0]
 | 15=>[.nilp]
 | 16=>[.nilp]
 | 17=>[.nilp]
 | 18=>[.nilp]
 | 19=>[.nilp]
 | 21=>[.int .i32 0]
 | 24=>[.nils]
 | 25=>[.int .i64 0,.int .i64 0,.int .i64 0,.str [],.str [],.nils]
 | 26=>[.int .i64 0,.int .i64 0,.int .i64 0,.str [],.str [],.nils]
 | 28=>[.nils]
 | 29=>[.nils]
 | 30=>[.nils]
 | 31=>[.nils,.int .i64 0,.nils]
 | 32=>[.nils,.int .i64 0,.nils]
 | 33=>[.nils]
 | 34=>[.nils,.int .i64 0,.nils,.nils]
 | 35=>[.nils,.int .i64 0,.nils,.nils]
 | 36=>[.nils]
 | 37=>[.int .i64 0]
 | 40=>[.nils]
 | 41=>[.int .i64 0,.int .i64 0,.int .i64 0,.nils]
 | 42=>[.int .i64 0,.int .i64 0,.int .i64 0,.nils]
 | 43=>[.nils]
 | 44=>[.nils]
 | 45=>[.nils]
 | 46=>[.int .i64 0,.bool false,.int .i64 0,.nils,.nils,.nils,.nils,.int .i64 0,.int .i64 0,.int .i64 0]
 | 47=>[.int .i64 0,.bool false,.int .i64 0,.nils,.nils,.nils,.nils,.int .i64 0,.int .i64 0,.int .i64 0]
 | 48=>[.int .i64 0,.int .i64 0,.int .i64 0,.str [],.int .i64 0,.str [],.nils]
 | 49=>[.int .i64 0,.int .i64 0,.int .i64 0,.str [],.int .i64 0,.str [],.nils]
 | 50=>[.int .i64 0,.int .i64 0,.int .i64 0,.str [],.int .i64 0,.str [],.nils,.int .i64 0,.int .i64 0]
 | 51=>[.int .i64 0,.int .i64 0,.int .i64 0,.str [],.int .i64 0,.str [],.nils,.int .i64 0,.int .i64 0]
 | 65=>[.nilm]
 | 66=>[.nilm]
 | 70=>[.nils]
 | 74=>[.nilm]
 | 75=>[.int .i64 0,.int .i64 0,.int .i64 0,.int .i64 0]
 | 76=>[.int .i64 0,.int .i64 0,.int .i64 0,.int .i64 0]
 | 78=>[.int .i64 0,.int .i64 0,.int .i64 0,.int .i64 0,.str [],.int .i64 0,.str [],.nils]
 | 79=>[.int .i64 0,.int .i64 0,.int .i64 0,.int .i64 0,.str [],.int .i64 0,.str [],.nils]
 | 92=>[.nils]
 | 93=>[.int .i64 0,.bool false,.nils,.nils,.int .i64 0]
 | 94=>[.int .i64 0,.bool false,.nils,.nils,.int .i64 0]
 | 95=>[.str [],.int .i64 0]
 | 96=>[.str [],.int .i64 0]
 | 97=>[.nilp]
 | 100=>[.nilp]
 | 101=>[.nils]
 | 102=>[.nils,.nils]
 | 103=>[.nils,.nils]
 | 104=>[.nils]
 | 117=>[.str [],.int .i64 0]
 | 118=>[.str [],.int .i64 0]
 | 119=>[.nilp]
 | 120=>[.int .i64 0,.bool false,.int .i64 0,.nils,.nils,.nils,.nils,.int .i64 0,.int .i64 0,.int .i64 0,.nils,.int .i64 0,.nils]
 | 121=>[.int .i64 0,.bool false,.int .i64 0,.nils,.nils,.nils,.nils,.int .i64 0,.int .i64 0,.int .i64 0,.nils,.int .i64 0,.nils]
 | 122=>[.nils]
 | 137=>[.int .i64 0,.bool false,.nils,.nils,.int .i64 0,.bool false,.int .i64 0,.int .i64 0]
 | 138=>[.int .i64 0,.bool false,.nils,.nils,.int .i64 0,.bool false,.int .i64 0,.int .i64 0]
 | 144=>[.nilp]
 | 145=>[.int .i64 0,.bool false,.int .i64 0,.nils,.nils,.nils,.nils,.int .i64 0,.int .i64 0,.int .i64 0,.nils,.int .i64 0,.nils]
 | 146=>[.int .i64 0,.bool false,.int .i64 0,.nils,.nils,.nils,.nils,.int .i64 0,.int .i64 0,.int .i64 0,.nils,.int .i64 0,.nils]
 | 148=>[.nilp]
 | 157=>[.nils]
 | 161=>[.int .i64 0,.int .i64 0]
 | 162=>[.int .i64 0,.int .i64 0]
 | 163=>[.nilm]
 | 183=>[.nilp]
 | 187=>[.nilp]
 | 198=>[.nilp]
 | 199=>[.nils,.int .i64 0,.int .i64 0,.nilm,.nilm,.nilm]
 | 200=>[.nils,.int .i64 0,.int .i64 0,.nilm,.nilm,.nilm]
 | 203=>[.nilp]
 | 214=>[.nils,.nils,.nilm,.int .i64 0]
 | 215=>[.nils,.nils,.nilm,.int .i64 0]
 | 226=>[.nilp]
 | 227=>[.nils,.int .i64 0,.int .i64 0,.int .i64 0,.str [],.int .i64 0,.str [],.nils,.int .i64 0]
 | 228=>[.nils,.int .i64 0,.int .i64 0,.int .i64 0,.str [],.int .i64 0,.str [],.nils,.int .i64 0]
 | 244=>[.int .u64 0]
 | 263=>[.int .i64 0]
 | 270=>[.int .u32 0]
 | 272=>[.int .u64 0]
 | 286=>[.int .u64 0]
 | 290=>[.nilp]
 | 296=>[.nilp]
 | 300=>[.int .u8 0,.int .u8 0]
 | 301=>[.int .u8 0,.int .u8 0]
 | 308=>[.nilp,.nilp,.nilp,.str []]
 | 309=>[.nilp,.nilp,.nilp,.str []]
 | 314=>[.int .u8 0]
 | 315=>[.int .u8 0]
 | 317=>[.nilp]
 | 318=>[.int .i32 0]
 | 319=>[.int .i32 0]
 | _=>[]
def tFl:TypeId->List (TypeId×Nat)
 | 7=>[(2,0),(3,1),(4,2),(6,3)]
 | 8=>[(2,0),(3,1),(4,2),(6,3)]
 | 13=>[(9,0),(12,1)]
 | 14=>[(9,0),(12,1)]
 | 18=>[(17,0)]
 | 19=>[(17,0)]
 | 25=>[(3,0),(3,1),(3,2),(9,3),(9,4),(24,5)]
 | 26=>[(3,0),(3,1),(3,2),(9,3),(9,4),(24,5)]
 | 31=>[(29,0),(3,1),(30,2)]
 | 32=>[(29,0),(3,1),(30,2)]
 | 34=>[(32,0),(33,3)]
 | 35=>[(32,0),(33,3)]
 | 41=>[(37,0),(3,1),(3,2),(24,3)]
 | 42=>[(37,0),(3,1),(3,2),(24,3)]
 | 46=>[(3,0),(4,1),(3,2),(43,3),(44,4),(44,5),(45,6),(3,7),(3,8),(3,9)]
 | 47=>[(3,0),(4,1),(3,2),(43,3),(44,4),(44,5),(45,6),(3,7),(3,8),(3,9)]
 | 48=>[(3,0),(3,1),(3,2),(9,3),(3,4),(9,5),(24,6)]
 | 49=>[(3,0),(3,1),(3,2),(9,3),(3,4),(9,5),(24,6)]
 | 50=>[(49,0),(3,7),(3,8)]
 | 51=>[(49,0),(3,7),(3,8)]
 | 75=>[(3,0),(3,1),(3,2),(3,3)]
 | 76=>[(3,0),(3,1),(3,2),(3,3)]
 | 78=>[(3,0),(49,1)]
 | 79=>[(3,0),(49,1)]
 | 93=>[(3,0),(4,1),(24,2),(92,3),(3,4)]
 | 94=>[(3,0),(4,1),(24,2),(92,3),(3,4)]
 | 95=>[(9,0),(3,1)]
 | 96=>[(9,0),(3,1)]
 | 102=>[(70,0),(101,1)]
 | 103=>[(70,0),(101,1)]
 | 117=>[(9,0),(3,1)]
 | 118=>[(9,0),(3,1)]
 | 120=>[(47,0),(32,10)]
 | 121=>[(47,0),(32,10)]
 | 137=>[(94,0),(4,5),(3,6),(3,7)]
 | 138=>[(94,0),(4,5),(3,6),(3,7)]
 | 145=>[(47,0),(32,10)]
 | 146=>[(47,0),(32,10)]
 | 161=>[(37,0),(3,1)]
 | 162=>[(37,0),(3,1)]
 | 199=>[(29,0),(3,1),(3,2),(74,3),(163,4),(163,5)]
 | 200=>[(29,0),(3,1),(3,2),(74,3),(163,4),(163,5)]
 | 214=>[(104,0),(157,1),(66,2),(3,3)]
 | 215=>[(104,0),(157,1),(66,2),(3,3)]
 | 227=>[(29,0),(49,1),(3,8)]
 | 228=>[(29,0),(49,1),(3,8)]
 | 300=>[(5,0),(5,1)]
 | 301=>[(5,0),(5,1)]
 | 308=>[(17,0),(17,1),(17,2),(9,3)]
 | 309=>[(17,0),(17,1),(17,2),(9,3)]
 | _=>[]
def Hx (t:TypeId) (j:Nat):Option (TypeId×Nat):=(tFl t)[j]?
def tab:Tab:=⟨Fw,yr,HO,HQ,Hx⟩
@[go_sem] theorem tu2:tab.und 2=(.int .i64):=rfl
@[go_sem] theorem ts2:tab.siz 2=1:=rfl
@[go_sem] theorem tz2:tab.zer 2=[.int .i64 0]:=rfl
@[go_sem] theorem tu3:tab.und 3=(.int .i64):=rfl
@[go_sem] theorem ts3:tab.siz 3=1:=rfl
@[go_sem] theorem tb3:tab.byt 3=8:=rfl
@[go_sem] theorem tz3:tab.zer 3=[.int .i64 0]:=rfl
@[go_sem] theorem tu4:tab.und 4=.bool:=rfl
@[go_sem] theorem ts4:tab.siz 4=1:=rfl
@[go_sem] theorem tz4:tab.zer 4=[.bool false]:=rfl
@[go_sem] theorem tu5:tab.und 5=(.int .u8):=rfl
@[go_sem] theorem ts5:tab.siz 5=1:=rfl
@[go_sem] theorem tb5:tab.byt 5=1:=rfl
@[go_sem] theorem tz5:tab.zer 5=[.int .u8 0]:=rfl
@[go_sem] theorem tu6:tab.und 6=(.int .u8):=rfl
@[go_sem] theorem ts6:tab.siz 6=1:=rfl
@[go_sem] theorem tz6:tab.zer 6=[.int .u8 0]:=rfl
@[go_sem] theorem tu7:tab.und 7=.struct:=rfl
@[go_sem] theorem ts7:tab.siz 7=4:=rfl
@[go_sem] theorem tz7:tab.zer 7=[.int .i64 0,.int .i64 0,.bool false,.int .u8 0]:=rfl
@[go_sem] theorem GN:tab.fld 7 0=some (2,0):=rfl
@[go_sem] theorem GO:tab.fld 7 1=some (3,1):=rfl
@[go_sem] theorem GP:tab.fld 7 2=some (4,2):=rfl
@[go_sem] theorem GQ:tab.fld 7 3=some (6,3):=rfl
@[go_sem] theorem tu8:tab.und 8=.struct:=rfl
@[go_sem] theorem ts8:tab.siz 8=4:=rfl
@[go_sem] theorem tz8:tab.zer 8=[.int .i64 0,.int .i64 0,.bool false,.int .u8 0]:=rfl
@[go_sem] theorem GR:tab.fld 8 0=some (2,0):=rfl
@[go_sem] theorem GS:tab.fld 8 1=some (3,1):=rfl
@[go_sem] theorem GU:tab.fld 8 2=some (4,2):=rfl
@[go_sem] theorem GV:tab.fld 8 3=some (6,3):=rfl
@[go_sem] theorem tu9:tab.und 9=.str:=rfl
@[go_sem] theorem ts9:tab.siz 9=1:=rfl
@[go_sem] theorem tb9:tab.byt 9=16:=rfl
@[go_sem] theorem tz9:tab.zer 9=[.str []]:=rfl
@[go_sem] theorem J5:tab.und 21=(.int .i32):=rfl
@[go_sem] theorem JD:tab.siz 21=1:=rfl
@[go_sem] theorem Kv:tab.zer 21=[.int .i32 0]:=rfl
@[go_sem] theorem J6:tab.und 24=(.sl 5):=rfl
@[go_sem] theorem JE:tab.siz 24=1:=rfl
@[go_sem] theorem Kw:tab.zer 24=[.nils]:=rfl
@[go_sem] theorem J7:tab.und 26=.struct:=rfl
@[go_sem] theorem JF:tab.siz 26=6:=rfl
@[go_sem] theorem Ju:tab.byt 26=80:=rfl
@[go_sem] theorem Kx:tab.zer 26=[.int .i64 0,.int .i64 0,.int .i64 0,.str [],.str [],.nils]:=rfl
@[go_sem] theorem Fx:tab.fld 26 0=some (3,0):=rfl
@[go_sem] theorem Fy:tab.fld 26 1=some (3,1):=rfl
@[go_sem] theorem Fz:tab.fld 26 2=some (3,2):=rfl
@[go_sem] theorem FA:tab.fld 26 3=some (9,3):=rfl
@[go_sem] theorem FB:tab.fld 26 4=some (9,4):=rfl
@[go_sem] theorem FC:tab.fld 26 5=some (24,5):=rfl
@[go_sem] theorem J8:tab.und 28=(.sl 26):=rfl
@[go_sem] theorem JH:tab.siz 28=1:=rfl
@[go_sem] theorem Ky:tab.zer 28=[.nils]:=rfl
@[go_sem] theorem J9:tab.und 29=(.sl 94):=rfl
@[go_sem] theorem JI:tab.siz 29=1:=rfl
@[go_sem] theorem Kz:tab.zer 29=[.nils]:=rfl
@[go_sem] theorem J_:tab.und 30=(.sl 79):=rfl
@[go_sem] theorem JJ:tab.siz 30=1:=rfl
@[go_sem] theorem KB:tab.zer 30=[.nils]:=rfl
@[go_sem] theorem J':tab.und 32=.struct:=rfl
@[go_sem] theorem JK:tab.siz 32=3:=rfl
@[go_sem] theorem KC:tab.zer 32=[.nils,.int .i64 0,.nils]:=rfl
@[go_sem] theorem FD:tab.fld 32 0=some (29,0):=rfl
@[go_sem] theorem FE:tab.fld 32 1=some (3,1):=rfl
@[go_sem] theorem FF:tab.fld 32 2=some (30,2):=rfl
@[go_sem] theorem Ka:tab.und 33=(.sl 47):=rfl
@[go_sem] theorem JL:tab.siz 33=1:=rfl
@[go_sem] theorem KE:tab.zer 33=[.nils]:=rfl
@[go_sem] theorem Kb:tab.und 35=.struct:=rfl
@[go_sem] theorem JM:tab.siz 35=4:=rfl
@[go_sem] theorem KF:tab.zer 35=[.nils,.int .i64 0,.nils,.nils]:=rfl
@[go_sem] theorem FG:tab.fld 35 0=some (32,0):=rfl
@[go_sem] theorem FH:tab.fld 35 1=some (33,3):=rfl
@[go_sem] theorem Kc:tab.und 37=(.int .i64):=rfl
@[go_sem] theorem JN:tab.siz 37=1:=rfl
@[go_sem] theorem KG:tab.zer 37=[.int .i64 0]:=rfl
@[go_sem] theorem Kd:tab.und 40=(.sl 3):=rfl
@[go_sem] theorem JO:tab.siz 40=1:=rfl
@[go_sem] theorem Jv:tab.byt 40=24:=rfl
@[go_sem] theorem KH:tab.zer 40=[.nils]:=rfl
@[go_sem] theorem Ke:tab.und 42=.struct:=rfl
@[go_sem] theorem JP:tab.siz 42=4:=rfl
@[go_sem] theorem KI:tab.zer 42=[.int .i64 0,.int .i64 0,.int .i64 0,.nils]:=rfl
@[go_sem] theorem FI:tab.fld 42 0=some (37,0):=rfl
@[go_sem] theorem FJ:tab.fld 42 1=some (3,1):=rfl
@[go_sem] theorem FK:tab.fld 42 2=some (3,2):=rfl
@[go_sem] theorem FL:tab.fld 42 3=some (24,3):=rfl
@[go_sem] theorem Kf:tab.und 43=(.sl 138):=rfl
@[go_sem] theorem JQ:tab.siz 43=1:=rfl
@[go_sem] theorem KJ:tab.zer 43=[.nils]:=rfl
@[go_sem] theorem Kg:tab.und 44=(.sl 51):=rfl
@[go_sem] theorem JR:tab.siz 44=1:=rfl
@[go_sem] theorem KK:tab.zer 44=[.nils]:=rfl
@[go_sem] theorem Kh:tab.und 45=(.sl 118):=rfl
@[go_sem] theorem JT:tab.siz 45=1:=rfl
@[go_sem] theorem KL:tab.zer 45=[.nils]:=rfl
@[go_sem] theorem Ki:tab.und 47=.struct:=rfl
@[go_sem] theorem JU:tab.siz 47=10:=rfl
@[go_sem] theorem Jw:tab.byt 47=144:=rfl
@[go_sem] theorem KM:tab.zer 47=[.int .i64 0,.bool false,.int .i64 0,.nils,.nils,.nils,.nils,.int .i64 0,.int .i64 0,.int .i64 0]:=rfl
@[go_sem] theorem FM:tab.fld 47 0=some (3,0):=rfl
@[go_sem] theorem FN:tab.fld 47 1=some (4,1):=rfl
@[go_sem] theorem FO:tab.fld 47 2=some (3,2):=rfl
@[go_sem] theorem FP:tab.fld 47 3=some (43,3):=rfl
@[go_sem] theorem FQ:tab.fld 47 4=some (44,4):=rfl
@[go_sem] theorem FR:tab.fld 47 5=some (44,5):=rfl
@[go_sem] theorem FT:tab.fld 47 6=some (45,6):=rfl
@[go_sem] theorem FU:tab.fld 47 7=some (3,7):=rfl
@[go_sem] theorem FV:tab.fld 47 8=some (3,8):=rfl
@[go_sem] theorem FW:tab.fld 47 9=some (3,9):=rfl
@[go_sem] theorem Kj:tab.und 49=.struct:=rfl
@[go_sem] theorem JV:tab.siz 49=7:=rfl
@[go_sem] theorem Jx:tab.byt 49=88:=rfl
@[go_sem] theorem KN:tab.zer 49=[.int .i64 0,.int .i64 0,.int .i64 0,.str [],.int .i64 0,.str [],.nils]:=rfl
@[go_sem] theorem FX:tab.fld 49 0=some (3,0):=rfl
@[go_sem] theorem FY:tab.fld 49 1=some (3,1):=rfl
@[go_sem] theorem FZ:tab.fld 49 2=some (3,2):=rfl
@[go_sem] theorem F0:tab.fld 49 3=some (9,3):=rfl
@[go_sem] theorem F2:tab.fld 49 4=some (3,4):=rfl
@[go_sem] theorem F3:tab.fld 49 5=some (9,5):=rfl
@[go_sem] theorem F4:tab.fld 49 6=some (24,6):=rfl
@[go_sem] theorem Kk:tab.und 51=.struct:=rfl
@[go_sem] theorem JW:tab.siz 51=9:=rfl
@[go_sem] theorem Jy:tab.byt 51=104:=rfl
@[go_sem] theorem KO:tab.zer 51=[.int .i64 0,.int .i64 0,.int .i64 0,.str [],.int .i64 0,.str [],.nils,.int .i64 0,.int .i64 0]:=rfl
@[go_sem] theorem F5:tab.fld 51 0=some (49,0):=rfl
@[go_sem] theorem F6:tab.fld 51 1=some (3,7):=rfl
@[go_sem] theorem F7:tab.fld 51 2=some (3,8):=rfl
@[go_sem] theorem Kl:tab.und 70=(.sl 76):=rfl
@[go_sem] theorem JX:tab.siz 70=1:=rfl
@[go_sem] theorem KP:tab.zer 70=[.nils]:=rfl
@[go_sem] theorem Km:tab.und 74=(.map 3 3):=rfl
@[go_sem] theorem JY:tab.siz 74=1:=rfl
@[go_sem] theorem KQ:tab.zer 74=[.nilm]:=rfl
@[go_sem] theorem Kn:tab.und 76=.struct:=rfl
@[go_sem] theorem JZ:tab.siz 76=4:=rfl
@[go_sem] theorem Jz:tab.byt 76=32:=rfl
@[go_sem] theorem KR:tab.zer 76=[.int .i64 0,.int .i64 0,.int .i64 0,.int .i64 0]:=rfl
@[go_sem] theorem F8:tab.fld 76 0=some (3,0):=rfl
@[go_sem] theorem F9:tab.fld 76 1=some (3,1):=rfl
@[go_sem] theorem F_:tab.fld 76 2=some (3,2):=rfl
@[go_sem] theorem Ga:tab.fld 76 3=some (3,3):=rfl
@[go_sem] theorem Ko:tab.und 79=.struct:=rfl
@[go_sem] theorem J0:tab.siz 79=8:=rfl
@[go_sem] theorem JA:tab.byt 79=96:=rfl
@[go_sem] theorem KS:tab.zer 79=[.int .i64 0,.int .i64 0,.int .i64 0,.int .i64 0,.str [],.int .i64 0,.str [],.nils]:=rfl
@[go_sem] theorem Gb:tab.fld 79 0=some (3,0):=rfl
@[go_sem] theorem Gc:tab.fld 79 1=some (49,1):=rfl
@[go_sem] theorem Kq:tab.und 92=(.sl 96):=rfl
@[go_sem] theorem J1:tab.siz 92=1:=rfl
@[go_sem] theorem KT:tab.zer 92=[.nils]:=rfl
@[go_sem] theorem Kr:tab.und 94=.struct:=rfl
@[go_sem] theorem J2:tab.siz 94=5:=rfl
@[go_sem] theorem JB:tab.byt 94=72:=rfl
@[go_sem] theorem KU:tab.zer 94=[.int .i64 0,.bool false,.nils,.nils,.int .i64 0]:=rfl
@[go_sem] theorem Gd:tab.fld 94 0=some (3,0):=rfl
@[go_sem] theorem Ge:tab.fld 94 1=some (4,1):=rfl
@[go_sem] theorem Gf:tab.fld 94 2=some (24,2):=rfl
@[go_sem] theorem Gg:tab.fld 94 3=some (92,3):=rfl
@[go_sem] theorem Gh:tab.fld 94 4=some (3,4):=rfl
@[go_sem] theorem Ks:tab.und 96=.struct:=rfl
@[go_sem] theorem J3:tab.siz 96=2:=rfl
@[go_sem] theorem JC:tab.byt 96=24:=rfl
@[go_sem] theorem KV:tab.zer 96=[.str [],.int .i64 0]:=rfl
@[go_sem] theorem Gi:tab.fld 96 0=some (9,0):=rfl
@[go_sem] theorem Gj:tab.fld 96 1=some (3,1):=rfl
@[go_sem] theorem Kt:tab.und 97=(.ptr 47):=rfl
@[go_sem] theorem J4:tab.siz 97=1:=rfl
@[go_sem] theorem KW:tab.zer 97=[.nilp]:=rfl
@[go_sem] theorem IA:tab.und 100=(.ptr 103):=rfl
@[go_sem] theorem H5:tab.siz 100=1:=rfl
@[go_sem] theorem I4:tab.zer 100=[.nilp]:=rfl
@[go_sem] theorem IB:tab.und 101=(.sl 40):=rfl
@[go_sem] theorem H6:tab.siz 101=1:=rfl
@[go_sem] theorem I5:tab.zer 101=[.nils]:=rfl
@[go_sem] theorem IC:tab.und 103=.struct:=rfl
@[go_sem] theorem H7:tab.siz 103=2:=rfl
@[go_sem] theorem I6:tab.zer 103=[.nils,.nils]:=rfl
@[go_sem] theorem DH:tab.fld 103 0=some (70,0):=rfl
@[go_sem] theorem DI:tab.fld 103 1=some (101,1):=rfl
@[go_sem] theorem ID:tab.und 104=(.sl 162):=rfl
@[go_sem] theorem H8:tab.siz 104=1:=rfl
@[go_sem] theorem I7:tab.zer 104=[.nils]:=rfl
@[go_sem] theorem IE:tab.und 118=.struct:=rfl
@[go_sem] theorem H9:tab.siz 118=2:=rfl
@[go_sem] theorem H0:tab.byt 118=24:=rfl
@[go_sem] theorem I8:tab.zer 118=[.str [],.int .i64 0]:=rfl
@[go_sem] theorem DJ:tab.fld 118 0=some (9,0):=rfl
@[go_sem] theorem DK:tab.fld 118 1=some (3,1):=rfl
@[go_sem] theorem IF:tab.und 122=(.sl 9):=rfl
@[go_sem] theorem H_:tab.siz 122=1:=rfl
@[go_sem] theorem I9:tab.zer 122=[.nils]:=rfl
@[go_sem] theorem IG:tab.und 138=.struct:=rfl
@[go_sem] theorem Ia:tab.siz 138=8:=rfl
@[go_sem] theorem H3:tab.byt 138=96:=rfl
@[go_sem] theorem I_:tab.zer 138=[.int .i64 0,.bool false,.nils,.nils,.int .i64 0,.bool false,.int .i64 0,.int .i64 0]:=rfl
@[go_sem] theorem DL:tab.fld 138 0=some (94,0):=rfl
@[go_sem] theorem DM:tab.fld 138 1=some (4,5):=rfl
@[go_sem] theorem DN:tab.fld 138 2=some (3,6):=rfl
@[go_sem] theorem DO:tab.fld 138 3=some (3,7):=rfl
@[go_sem] theorem IH:tab.und 144=(.ptr 146):=rfl
@[go_sem] theorem Ib:tab.siz 144=1:=rfl
@[go_sem] theorem I':tab.zer 144=[.nilp]:=rfl
@[go_sem] theorem II:tab.und 146=.struct:=rfl
@[go_sem] theorem Ic:tab.siz 146=13:=rfl
@[go_sem] theorem Ja:tab.zer 146=[.int .i64 0,.bool false,.int .i64 0,.nils,.nils,.nils,.nils,.int .i64 0,.int .i64 0,.int .i64 0,.nils,.int .i64 0,.nils]:=rfl
@[go_sem] theorem DP:tab.fld 146 0=some (47,0):=rfl
@[go_sem] theorem DQ:tab.fld 146 1=some (32,10):=rfl
@[go_sem] theorem IJ:tab.und 148=(.ptr 26):=rfl
@[go_sem] theorem Ie:tab.siz 148=1:=rfl
@[go_sem] theorem Jb:tab.zer 148=[.nilp]:=rfl
@[go_sem] theorem IK:tab.und 157=(.sl 49):=rfl
@[go_sem] theorem Ig:tab.siz 157=1:=rfl
@[go_sem] theorem Jc:tab.zer 157=[.nils]:=rfl
@[go_sem] theorem IL:tab.und 162=.struct:=rfl
@[go_sem] theorem Ih:tab.siz 162=2:=rfl
@[go_sem] theorem H4:tab.byt 162=16:=rfl
@[go_sem] theorem Jd:tab.zer 162=[.int .i64 0,.int .i64 0]:=rfl
@[go_sem] theorem DR:tab.fld 162 0=some (37,0):=rfl
@[go_sem] theorem DS:tab.fld 162 1=some (3,1):=rfl
@[go_sem] theorem IM:tab.und 163=(.map 3 4):=rfl
@[go_sem] theorem Ii:tab.siz 163=1:=rfl
@[go_sem] theorem Je:tab.zer 163=[.nilm]:=rfl
@[go_sem] theorem IN:tab.und 183=(.ptr 94):=rfl
@[go_sem] theorem Ij:tab.siz 183=1:=rfl
@[go_sem] theorem Jf:tab.zer 183=[.nilp]:=rfl
@[go_sem] theorem IP:tab.und 187=(.ptr 49):=rfl
@[go_sem] theorem Ik:tab.siz 187=1:=rfl
@[go_sem] theorem Jg:tab.zer 187=[.nilp]:=rfl
@[go_sem] theorem IQ:tab.und 198=(.ptr 200):=rfl
@[go_sem] theorem Il:tab.siz 198=1:=rfl
@[go_sem] theorem Jh:tab.zer 198=[.nilp]:=rfl
@[go_sem] theorem IS:tab.und 200=.struct:=rfl
@[go_sem] theorem Im:tab.siz 200=6:=rfl
@[go_sem] theorem Ji:tab.zer 200=[.nils,.int .i64 0,.int .i64 0,.nilm,.nilm,.nilm]:=rfl
@[go_sem] theorem DT:tab.fld 200 0=some (29,0):=rfl
@[go_sem] theorem DU:tab.fld 200 1=some (3,1):=rfl
@[go_sem] theorem DV:tab.fld 200 2=some (3,2):=rfl
@[go_sem] theorem DW:tab.fld 200 3=some (74,3):=rfl
@[go_sem] theorem DX:tab.fld 200 4=some (163,4):=rfl
@[go_sem] theorem DY:tab.fld 200 5=some (163,5):=rfl
@[go_sem] theorem IT:tab.und 203=(.ptr 51):=rfl
@[go_sem] theorem Io:tab.siz 203=1:=rfl
@[go_sem] theorem Jj:tab.zer 203=[.nilp]:=rfl
@[go_sem] theorem IU:tab.und 226=(.ptr 228):=rfl
@[go_sem] theorem Ip:tab.siz 226=1:=rfl
@[go_sem] theorem Jk:tab.zer 226=[.nilp]:=rfl
@[go_sem] theorem IV:tab.und 228=.struct:=rfl
@[go_sem] theorem Iq:tab.siz 228=9:=rfl
@[go_sem] theorem Jl:tab.zer 228=[.nils,.int .i64 0,.int .i64 0,.int .i64 0,.str [],.int .i64 0,.str [],.nils,.int .i64 0]:=rfl
@[go_sem] theorem DZ:tab.fld 228 0=some (29,0):=rfl
@[go_sem] theorem D0:tab.fld 228 1=some (49,1):=rfl
@[go_sem] theorem D1:tab.fld 228 2=some (3,8):=rfl
@[go_sem] theorem IW:tab.und 244=(.int .u64):=rfl
@[go_sem] theorem Ir:tab.siz 244=1:=rfl
@[go_sem] theorem Jm:tab.zer 244=[.int .u64 0]:=rfl
@[go_sem] theorem IX:tab.und 263=(.int .i64):=rfl
@[go_sem] theorem Is:tab.siz 263=1:=rfl
@[go_sem] theorem Jn:tab.zer 263=[.int .i64 0]:=rfl
@[go_sem] theorem IY:tab.und 270=(.int .u32):=rfl
@[go_sem] theorem Iu:tab.siz 270=1:=rfl
@[go_sem] theorem Jo:tab.zer 270=[.int .u32 0]:=rfl
@[go_sem] theorem IZ:tab.und 272=(.int .u64):=rfl
@[go_sem] theorem Iv:tab.siz 272=1:=rfl
@[go_sem] theorem Jp:tab.zer 272=[.int .u64 0]:=rfl
@[go_sem] theorem I0:tab.und 286=(.int .u64):=rfl
@[go_sem] theorem Iw:tab.siz 286=1:=rfl
@[go_sem] theorem Jq:tab.zer 286=[.int .u64 0]:=rfl
@[go_sem] theorem I1:tab.und 290=(.ptr 3):=rfl
@[go_sem] theorem Ix:tab.siz 290=1:=rfl
@[go_sem] theorem Jr:tab.zer 290=[.nilp]:=rfl
@[go_sem] theorem I2:tab.und 296=(.ptr 286):=rfl
@[go_sem] theorem Iy:tab.siz 296=1:=rfl
@[go_sem] theorem Js:tab.zer 296=[.nilp]:=rfl
@[go_sem] theorem I3:tab.und 301=.struct:=rfl
@[go_sem] theorem Iz:tab.siz 301=2:=rfl
@[go_sem] theorem Jt:tab.zer 301=[.int .u8 0,.int .u8 0]:=rfl
@[go_sem] theorem D3:tab.fld 301 0=some (5,0):=rfl
@[go_sem] theorem D4:tab.fld 301 1=some (5,1):=rfl
theorem yv:∀t,h_ Go.Proofs.Tryz.prog t (Fw t):=by
 intro t;unfold Fw;split
 ·exact Go.Proofs.Tryz.underlying2
 ·exact Go.Proofs.Tryz.underlying3
 ·exact Go.Proofs.Tryz.underlying4
 ·exact Go.Proofs.Tryz.underlying5
 ·exact Go.Proofs.Tryz.underlying6
 ·exact ⟨_,Go.Proofs.Tryz.underlying7,by intro f hf;simp at hf;rcases hf with rfl | rfl | rfl | rfl<;>kernel_rfl⟩
 ·exact ⟨_,Go.Proofs.Tryz.underlying8,by intro f hf;simp at hf;rcases hf with rfl | rfl | rfl | rfl<;>kernel_rfl⟩
 ·exact Go.Proofs.Tryz.underlying9
 ·exact Go.Proofs.Tryz.underlying10
 ·exact Go.Proofs.Tryz.underlying11
 ·exact Go.Proofs.Tryz.underlying12
 ·exact ⟨_,Go.Proofs.Tryz.underlying13,by intro f hf;simp at hf;rcases hf with rfl | rfl<;>kernel_rfl⟩
 ·exact ⟨_,Go.Proofs.Tryz.underlying14,by intro f hf;simp at hf;rcases hf with rfl | rfl<;>kernel_rfl⟩
 ·exact Go.Proofs.Tryz.underlying15
 ·exact Go.Proofs.Tryz.underlying16
 ·exact Go.Proofs.Tryz.underlying17
 ·exact ⟨_,Go.Proofs.Tryz.underlying18,by intro f hf;simp at hf;rcases hf with rfl<;>kernel_rfl⟩
 ·exact ⟨_,Go.Proofs.Tryz.underlying19,by intro f hf;simp at hf;rcases hf with rfl<;>kernel_rfl⟩
 ·exact Go.Proofs.Tryz.underlying21
 ·exact Go.Proofs.Tryz.underlying24
 ·exact ⟨_,Go.Proofs.Tryz.underlying25,by intro f hf;simp at hf;rcases hf with rfl | rfl | rfl | rfl | rfl | rfl<;>kernel_rfl⟩
 ·exact ⟨_,Go.Proofs.Tryz.underlying26,by intro f hf;simp at hf;rcases hf with rfl | rfl | rfl | rfl | rfl | rfl<;>kernel_rfl⟩
 ·exact Go.Proofs.Tryz.underlying28
 ·exact Go.Proofs.Tryz.underlying29
 ·exact Go.Proofs.Tryz.underlying30
 ·exact ⟨_,Go.Proofs.Tryz.underlying31,by intro f hf;simp at hf;rcases hf with rfl | rfl | rfl<;>kernel_rfl⟩
 ·exact ⟨_,Go.Proofs.Tryz.underlying32,by intro f hf;simp at hf;rcases hf with rfl | rfl | rfl<;>kernel_rfl⟩
 ·exact Go.Proofs.Tryz.underlying33
 ·exact ⟨_,Go.Proofs.Tryz.underlying34,by intro f hf;simp at hf;rcases hf with rfl | rfl<;>kernel_rfl⟩
 ·exact ⟨_,Go.Proofs.Tryz.underlying35,by intro f hf;simp at hf;rcases hf with rfl | rfl<;>kernel_rfl⟩
 ·exact Go.Proofs.Tryz.underlying36
 ·exact Go.Proofs.Tryz.underlying37
 ·exact Go.Proofs.Tryz.underlying40
 ·exact ⟨_,Go.Proofs.Tryz.underlying41,by intro f hf;simp at hf;rcases hf with rfl | rfl | rfl | rfl<;>kernel_rfl⟩
 ·exact ⟨_,Go.Proofs.Tryz.underlying42,by intro f hf;simp at hf;rcases hf with rfl | rfl | rfl | rfl<;>kernel_rfl⟩
 ·exact Go.Proofs.Tryz.underlying43
 ·exact Go.Proofs.Tryz.underlying44
 ·exact Go.Proofs.Tryz.underlying45
 ·exact ⟨_,Go.Proofs.Tryz.underlying46,by intro f hf;simp at hf;rcases hf with rfl | rfl | rfl | rfl | rfl | rfl | rfl | rfl | rfl | rfl<;>kernel_rfl⟩
 ·exact ⟨_,Go.Proofs.Tryz.underlying47,by intro f hf;simp at hf;rcases hf with rfl | rfl | rfl | rfl | rfl | rfl | rfl | rfl | rfl | rfl<;>kernel_rfl⟩
 ·exact ⟨_,Go.Proofs.Tryz.underlying48,by intro f hf;simp at hf;rcases hf with rfl | rfl | rfl | rfl | rfl | rfl | rfl<;>kernel_rfl⟩
 ·exact ⟨_,Go.Proofs.Tryz.underlying49,by intro f hf;simp at hf;rcases hf with rfl | rfl | rfl | rfl | rfl | rfl | rfl<;>kernel_rfl⟩
 ·exact ⟨_,Go.Proofs.Tryz.underlying50,by intro f hf;simp at hf;rcases hf with rfl | rfl | rfl<;>kernel_rfl⟩
 ·exact ⟨_,Go.Proofs.Tryz.underlying51,by intro f hf;simp at hf;rcases hf with rfl | rfl | rfl<;>kernel_rfl⟩
 ·exact Go.Proofs.Tryz.underlying65
 ·exact Go.Proofs.Tryz.underlying66
 ·exact Go.Proofs.Tryz.underlying70
 ·exact Go.Proofs.Tryz.underlying74
 ·exact ⟨_,Go.Proofs.Tryz.underlying75,by intro f hf;simp at hf;rcases hf with rfl | rfl | rfl | rfl<;>kernel_rfl⟩
 ·exact ⟨_,Go.Proofs.Tryz.underlying76,by intro f hf;simp at hf;rcases hf with rfl | rfl | rfl | rfl<;>kernel_rfl⟩
 ·exact ⟨_,Go.Proofs.Tryz.underlying78,by intro f hf;simp at hf;rcases hf with rfl | rfl<;>kernel_rfl⟩
 ·exact ⟨_,Go.Proofs.Tryz.underlying79,by intro f hf;simp at hf;rcases hf with rfl | rfl<;>kernel_rfl⟩
 ·exact Go.Proofs.Tryz.underlying92
 ·exact ⟨_,Go.Proofs.Tryz.underlying93,by intro f hf;simp at hf;rcases hf with rfl | rfl | rfl | rfl | rfl<;>kernel_rfl⟩
 ·exact ⟨_,Go.Proofs.Tryz.underlying94,by intro f hf;simp at hf;rcases hf with rfl | rfl | rfl | rfl | rfl<;>kernel_rfl⟩
 ·exact ⟨_,Go.Proofs.Tryz.underlying95,by intro f hf;simp at hf;rcases hf with rfl | rfl<;>kernel_rfl⟩
 ·exact ⟨_,Go.Proofs.Tryz.underlying96,by intro f hf;simp at hf;rcases hf with rfl | rfl<;>kernel_rfl⟩
 ·exact Go.Proofs.Tryz.underlying97
 ·exact Go.Proofs.Tryz.underlying100
 ·exact Go.Proofs.Tryz.underlying101
 ·exact ⟨_,Go.Proofs.Tryz.underlying102,by intro f hf;simp at hf;rcases hf with rfl | rfl<;>kernel_rfl⟩
 ·exact ⟨_,Go.Proofs.Tryz.underlying103,by intro f hf;simp at hf;rcases hf with rfl | rfl<;>kernel_rfl⟩
 ·exact Go.Proofs.Tryz.underlying104
 ·exact ⟨_,Go.Proofs.Tryz.underlying117,by intro f hf;simp at hf;rcases hf with rfl | rfl<;>kernel_rfl⟩
 ·exact ⟨_,Go.Proofs.Tryz.underlying118,by intro f hf;simp at hf;rcases hf with rfl | rfl<;>kernel_rfl⟩
 ·exact Go.Proofs.Tryz.underlying119
 ·exact ⟨_,Go.Proofs.Tryz.underlying120,by intro f hf;simp at hf;rcases hf with rfl | rfl<;>kernel_rfl⟩
 ·exact ⟨_,Go.Proofs.Tryz.underlying121,by intro f hf;simp at hf;rcases hf with rfl | rfl<;>kernel_rfl⟩
 ·exact Go.Proofs.Tryz.underlying122
 ·exact ⟨_,Go.Proofs.Tryz.underlying137,by intro f hf;simp at hf;rcases hf with rfl | rfl | rfl | rfl<;>kernel_rfl⟩
 ·exact ⟨_,Go.Proofs.Tryz.underlying138,by intro f hf;simp at hf;rcases hf with rfl | rfl | rfl | rfl<;>kernel_rfl⟩
 ·exact Go.Proofs.Tryz.underlying144
 ·exact ⟨_,Go.Proofs.Tryz.underlying145,by intro f hf;simp at hf;rcases hf with rfl | rfl<;>kernel_rfl⟩
 ·exact ⟨_,Go.Proofs.Tryz.underlying146,by intro f hf;simp at hf;rcases hf with rfl | rfl<;>kernel_rfl⟩
 ·exact Go.Proofs.Tryz.underlying148
 ·exact Go.Proofs.Tryz.underlying157
 ·exact ⟨_,Go.Proofs.Tryz.underlying161,by intro f hf;simp at hf;rcases hf with rfl | rfl<;>kernel_rfl⟩
 ·exact ⟨_,Go.Proofs.Tryz.underlying162,by intro f hf;simp at hf;rcases hf with rfl | rfl<;>kernel_rfl⟩
 ·exact Go.Proofs.Tryz.underlying163
 ·exact Go.Proofs.Tryz.underlying183
 ·exact Go.Proofs.Tryz.underlying187
 ·exact Go.Proofs.Tryz.underlying198
 ·exact ⟨_,Go.Proofs.Tryz.underlying199,by intro f hf;simp at hf;rcases hf with rfl | rfl | rfl | rfl | rfl | rfl<;>kernel_rfl⟩
 ·exact ⟨_,Go.Proofs.Tryz.underlying200,by intro f hf;simp at hf;rcases hf with rfl | rfl | rfl | rfl | rfl | rfl<;>kernel_rfl⟩
 ·exact Go.Proofs.Tryz.underlying203
 ·exact ⟨_,Go.Proofs.Tryz.underlying214,by intro f hf;simp at hf;rcases hf with rfl | rfl | rfl | rfl<;>kernel_rfl⟩
 ·exact ⟨_,Go.Proofs.Tryz.underlying215,by intro f hf;simp at hf;rcases hf with rfl | rfl | rfl | rfl<;>kernel_rfl⟩
 ·exact Go.Proofs.Tryz.underlying226
 ·exact ⟨_,Go.Proofs.Tryz.underlying227,by intro f hf;simp at hf;rcases hf with rfl | rfl | rfl<;>kernel_rfl⟩
 ·exact ⟨_,Go.Proofs.Tryz.underlying228,by intro f hf;simp at hf;rcases hf with rfl | rfl | rfl<;>kernel_rfl⟩
 ·exact Go.Proofs.Tryz.underlying244
 ·exact Go.Proofs.Tryz.underlying263
 ·exact Go.Proofs.Tryz.underlying270
 ·exact Go.Proofs.Tryz.underlying272
 ·exact Go.Proofs.Tryz.underlying286
 ·exact Go.Proofs.Tryz.underlying290
 ·exact Go.Proofs.Tryz.underlying296
 ·exact ⟨_,Go.Proofs.Tryz.underlying300,by intro f hf;simp at hf;rcases hf with rfl | rfl<;>kernel_rfl⟩
 ·exact ⟨_,Go.Proofs.Tryz.underlying301,by intro f hf;simp at hf;rcases hf with rfl | rfl<;>kernel_rfl⟩
 ·exact ⟨_,Go.Proofs.Tryz.underlying308,by intro f hf;simp at hf;rcases hf with rfl | rfl | rfl | rfl<;>kernel_rfl⟩
 ·exact ⟨_,Go.Proofs.Tryz.underlying309,by intro f hf;simp at hf;rcases hf with rfl | rfl | rfl | rfl<;>kernel_rfl⟩
 ·exact Go.Proofs.Tryz.underlying314
 ·exact Go.Proofs.Tryz.underlying315
 ·exact Go.Proofs.Tryz.underlying317
 ·exact Go.Proofs.Tryz.underlying318
 ·exact Go.Proofs.Tryz.underlying319
 ·trivial
theorem yu:∀t,yr t≠0->∃i,(Go.Proofs.Tryz.prog).info? t=some i/\i.size=yr t/\i.bytes=HO t/\∃z,i.zero=some z/\z.cells.toList.map ofValue=HQ t/\z.cells.size=yr t /\
  (Fw t).isA=some (match z with | .agg _=>true | _=>false):=by
 intro t h
 revert h
 unfold yr;split
 ·exact λ_=>⟨Go.Proofs.Tryz.t2,by kernel_rfl,rfl,rfl,_,rfl,rfl,rfl,rfl⟩
 ·exact λ_=>⟨Go.Proofs.Tryz.t3,by kernel_rfl,rfl,rfl,_,rfl,rfl,rfl,rfl⟩
 ·exact λ_=>⟨Go.Proofs.Tryz.t4,by kernel_rfl,rfl,rfl,_,rfl,rfl,rfl,rfl⟩
 ·exact λ_=>⟨Go.Proofs.Tryz.t5,by kernel_rfl,rfl,rfl,_,rfl,rfl,rfl,rfl⟩
 ·exact λ_=>⟨Go.Proofs.Tryz.t6,by kernel_rfl,rfl,rfl,_,rfl,rfl,rfl,rfl⟩
 ·exact λ_=>⟨Go.Proofs.Tryz.t7,by kernel_rfl,rfl,rfl,_,rfl,rfl,rfl,rfl⟩
 ·exact λ_=>⟨Go.Proofs.Tryz.t8,by kernel_rfl,rfl,rfl,_,rfl,rfl,rfl,rfl⟩
 ·exact λ_=>⟨Go.Proofs.Tryz.t9,by kernel_rfl,rfl,rfl,_,rfl,rfl,rfl,rfl⟩
 ·exact λ_=>⟨Go.Proofs.Tryz.t10,by kernel_rfl,rfl,rfl,_,rfl,rfl,rfl,rfl⟩
 ·exact λ_=>⟨Go.Proofs.Tryz.t11,by kernel_rfl,rfl,rfl,_,rfl,rfl,rfl,rfl⟩
 ·exact λ_=>⟨Go.Proofs.Tryz.t12,by kernel_rfl,rfl,rfl,_,rfl,rfl,rfl,rfl⟩
 ·exact λ_=>⟨Go.Proofs.Tryz.t13,by kernel_rfl,rfl,rfl,_,rfl,rfl,rfl,rfl⟩
 ·exact λ_=>⟨Go.Proofs.Tryz.t14,by kernel_rfl,rfl,rfl,_,rfl,rfl,rfl,rfl⟩
 ·exact λ_=>⟨Go.Proofs.Tryz.t15,by kernel_rfl,rfl,rfl,_,rfl,rfl,rfl,rfl⟩
 ·exact λ_=>⟨Go.Proofs.Tryz.t16,by kernel_rfl,rfl,rfl,_,rfl,rfl,rfl,rfl⟩
 ·exact λ_=>⟨Go.Proofs.Tryz.t17,by kernel_rfl,rfl,rfl,_,rfl,rfl,rfl,rfl⟩
 ·exact λ_=>⟨Go.Proofs.Tryz.t18,by kernel_rfl,rfl,rfl,_,rfl,rfl,rfl,rfl⟩
 ·exact λ_=>⟨Go.Proofs.Tryz.t19,by kernel_rfl,rfl,rfl,_,rfl,rfl,rfl,rfl⟩
 ·exact λ_=>⟨Go.Proofs.Tryz.t21,by kernel_rfl,rfl,rfl,_,rfl,rfl,rfl,rfl⟩
 ·exact λ_=>⟨Go.Proofs.Tryz.t24,by kernel_rfl,rfl,rfl,_,rfl,rfl,rfl,rfl⟩
 ·exact λ_=>⟨Go.Proofs.Tryz.t25,by kernel_rfl,rfl,rfl,_,rfl,rfl,rfl,rfl⟩
 ·exact λ_=>⟨Go.Proofs.Tryz.t26,by kernel_rfl,rfl,rfl,_,rfl,rfl,rfl,rfl⟩
 ·exact λ_=>⟨Go.Proofs.Tryz.t28,by kernel_rfl,rfl,rfl,_,rfl,rfl,rfl,rfl⟩
 ·exact λ_=>⟨Go.Proofs.Tryz.t29,by kernel_rfl,rfl,rfl,_,rfl,rfl,rfl,rfl⟩
 ·exact λ_=>⟨Go.Proofs.Tryz.t30,by kernel_rfl,rfl,rfl,_,rfl,rfl,rfl,rfl⟩
 ·exact λ_=>⟨Go.Proofs.Tryz.t31,by kernel_rfl,rfl,rfl,_,rfl,rfl,rfl,rfl⟩
 ·exact λ_=>⟨Go.Proofs.Tryz.t32,by kernel_rfl,rfl,rfl,_,rfl,rfl,rfl,rfl⟩
 ·exact λ_=>⟨Go.Proofs.Tryz.t33,by kernel_rfl,rfl,rfl,_,rfl,rfl,rfl,rfl⟩
 ·exact λ_=>⟨Go.Proofs.Tryz.t34,by kernel_rfl,rfl,rfl,_,rfl,rfl,rfl,rfl⟩
 ·exact λ_=>⟨Go.Proofs.Tryz.t35,by kernel_rfl,rfl,rfl,_,rfl,rfl,rfl,rfl⟩
 ·exact λ_=>⟨Go.Proofs.Tryz.t36,by kernel_rfl,rfl,rfl,_,rfl,rfl,rfl,rfl⟩
 ·exact λ_=>⟨Go.Proofs.Tryz.t37,by kernel_rfl,rfl,rfl,_,rfl,rfl,rfl,rfl⟩
 ·exact λ_=>⟨Go.Proofs.Tryz.t40,by kernel_rfl,rfl,rfl,_,rfl,rfl,rfl,rfl⟩
 ·exact λ_=>⟨Go.Proofs.Tryz.t41,by kernel_rfl,rfl,rfl,_,rfl,rfl,rfl,rfl⟩
 ·exact λ_=>⟨Go.Proofs.Tryz.t42,by kernel_rfl,rfl,rfl,_,rfl,rfl,rfl,rfl⟩
 ·exact λ_=>⟨Go.Proofs.Tryz.t43,by kernel_rfl,rfl,rfl,_,rfl,rfl,rfl,rfl⟩
 ·exact λ_=>⟨Go.Proofs.Tryz.t44,by kernel_rfl,rfl,rfl,_,rfl,rfl,rfl,rfl⟩
 ·exact λ_=>⟨Go.Proofs.Tryz.t45,by kernel_rfl,rfl,rfl,_,rfl,rfl,rfl,rfl⟩
 ·exact λ_=>⟨Go.Proofs.Tryz.t46,by kernel_rfl,rfl,rfl,_,rfl,rfl,rfl,rfl⟩
 ·exact λ_=>⟨Go.Proofs.Tryz.t47,by kernel_rfl,rfl,rfl,_,rfl,rfl,rfl,rfl⟩
 ·exact λ_=>⟨Go.Proofs.Tryz.t48,by kernel_rfl,rfl,rfl,_,rfl,rfl,rfl,rfl⟩
 ·exact λ_=>⟨Go.Proofs.Tryz.t49,by kernel_rfl,rfl,rfl,_,rfl,rfl,rfl,rfl⟩
 ·exact λ_=>⟨Go.Proofs.Tryz.t50,by kernel_rfl,rfl,rfl,_,rfl,rfl,rfl,rfl⟩
 ·exact λ_=>⟨Go.Proofs.Tryz.t51,by kernel_rfl,rfl,rfl,_,rfl,rfl,rfl,rfl⟩
 ·exact λ_=>⟨Go.Proofs.Tryz.t65,by kernel_rfl,rfl,rfl,_,rfl,rfl,rfl,rfl⟩
 ·exact λ_=>⟨Go.Proofs.Tryz.t66,by kernel_rfl,rfl,rfl,_,rfl,rfl,rfl,rfl⟩
 ·exact λ_=>⟨Go.Proofs.Tryz.t70,by kernel_rfl,rfl,rfl,_,rfl,rfl,rfl,rfl⟩
 ·exact λ_=>⟨Go.Proofs.Tryz.t74,by kernel_rfl,rfl,rfl,_,rfl,rfl,rfl,rfl⟩
 ·exact λ_=>⟨Go.Proofs.Tryz.t75,by kernel_rfl,rfl,rfl,_,rfl,rfl,rfl,rfl⟩
 ·exact λ_=>⟨Go.Proofs.Tryz.t76,by kernel_rfl,rfl,rfl,_,rfl,rfl,rfl,rfl⟩
 ·exact λ_=>⟨Go.Proofs.Tryz.t78,by kernel_rfl,rfl,rfl,_,rfl,rfl,rfl,rfl⟩
 ·exact λ_=>⟨Go.Proofs.Tryz.t79,by kernel_rfl,rfl,rfl,_,rfl,rfl,rfl,rfl⟩
 ·exact λ_=>⟨Go.Proofs.Tryz.t92,by kernel_rfl,rfl,rfl,_,rfl,rfl,rfl,rfl⟩
 ·exact λ_=>⟨Go.Proofs.Tryz.t93,by kernel_rfl,rfl,rfl,_,rfl,rfl,rfl,rfl⟩
 ·exact λ_=>⟨Go.Proofs.Tryz.t94,by kernel_rfl,rfl,rfl,_,rfl,rfl,rfl,rfl⟩
 ·exact λ_=>⟨Go.Proofs.Tryz.t95,by kernel_rfl,rfl,rfl,_,rfl,rfl,rfl,rfl⟩
 ·exact λ_=>⟨Go.Proofs.Tryz.t96,by kernel_rfl,rfl,rfl,_,rfl,rfl,rfl,rfl⟩
 ·exact λ_=>⟨Go.Proofs.Tryz.t97,by kernel_rfl,rfl,rfl,_,rfl,rfl,rfl,rfl⟩
 ·exact λ_=>⟨Go.Proofs.Tryz.t100,by kernel_rfl,rfl,rfl,_,rfl,rfl,rfl,rfl⟩
 ·exact λ_=>⟨Go.Proofs.Tryz.t101,by kernel_rfl,rfl,rfl,_,rfl,rfl,rfl,rfl⟩
 ·exact λ_=>⟨Go.Proofs.Tryz.t102,by kernel_rfl,rfl,rfl,_,rfl,rfl,rfl,rfl⟩
 ·exact λ_=>⟨Go.Proofs.Tryz.t103,by kernel_rfl,rfl,rfl,_,rfl,rfl,rfl,rfl⟩
 ·exact λ_=>⟨Go.Proofs.Tryz.t104,by kernel_rfl,rfl,rfl,_,rfl,rfl,rfl,rfl⟩
 ·exact λ_=>⟨Go.Proofs.Tryz.t117,by kernel_rfl,rfl,rfl,_,rfl,rfl,rfl,rfl⟩
 ·exact λ_=>⟨Go.Proofs.Tryz.t118,by kernel_rfl,rfl,rfl,_,rfl,rfl,rfl,rfl⟩
 ·exact λ_=>⟨Go.Proofs.Tryz.t119,by kernel_rfl,rfl,rfl,_,rfl,rfl,rfl,rfl⟩
 ·exact λ_=>⟨Go.Proofs.Tryz.t120,by kernel_rfl,rfl,rfl,_,rfl,rfl,rfl,rfl⟩
 ·exact λ_=>⟨Go.Proofs.Tryz.t121,by kernel_rfl,rfl,rfl,_,rfl,rfl,rfl,rfl⟩
 ·exact λ_=>⟨Go.Proofs.Tryz.t122,by kernel_rfl,rfl,rfl,_,rfl,rfl,rfl,rfl⟩
 ·exact λ_=>⟨Go.Proofs.Tryz.t137,by kernel_rfl,rfl,rfl,_,rfl,rfl,rfl,rfl⟩
 ·exact λ_=>⟨Go.Proofs.Tryz.t138,by kernel_rfl,rfl,rfl,_,rfl,rfl,rfl,rfl⟩
 ·exact λ_=>⟨Go.Proofs.Tryz.t144,by kernel_rfl,rfl,rfl,_,rfl,rfl,rfl,rfl⟩
 ·exact λ_=>⟨Go.Proofs.Tryz.t145,by kernel_rfl,rfl,rfl,_,rfl,rfl,rfl,rfl⟩
 ·exact λ_=>⟨Go.Proofs.Tryz.t146,by kernel_rfl,rfl,rfl,_,rfl,rfl,rfl,rfl⟩
 ·exact λ_=>⟨Go.Proofs.Tryz.t148,by kernel_rfl,rfl,rfl,_,rfl,rfl,rfl,rfl⟩
 ·exact λ_=>⟨Go.Proofs.Tryz.t157,by kernel_rfl,rfl,rfl,_,rfl,rfl,rfl,rfl⟩
 ·exact λ_=>⟨Go.Proofs.Tryz.t161,by kernel_rfl,rfl,rfl,_,rfl,rfl,rfl,rfl⟩
 ·exact λ_=>⟨Go.Proofs.Tryz.t162,by kernel_rfl,rfl,rfl,_,rfl,rfl,rfl,rfl⟩
 ·exact λ_=>⟨Go.Proofs.Tryz.t163,by kernel_rfl,rfl,rfl,_,rfl,rfl,rfl,rfl⟩
 ·exact λ_=>⟨Go.Proofs.Tryz.t183,by kernel_rfl,rfl,rfl,_,rfl,rfl,rfl,rfl⟩
 ·exact λ_=>⟨Go.Proofs.Tryz.t187,by kernel_rfl,rfl,rfl,_,rfl,rfl,rfl,rfl⟩
 ·exact λ_=>⟨Go.Proofs.Tryz.t198,by kernel_rfl,rfl,rfl,_,rfl,rfl,rfl,rfl⟩
 ·exact λ_=>⟨Go.Proofs.Tryz.t199,by kernel_rfl,rfl,rfl,_,rfl,rfl,rfl,rfl⟩
 ·exact λ_=>⟨Go.Proofs.Tryz.t200,by kernel_rfl,rfl,rfl,_,rfl,rfl,rfl,rfl⟩
 ·exact λ_=>⟨Go.Proofs.Tryz.t203,by kernel_rfl,rfl,rfl,_,rfl,rfl,rfl,rfl⟩
 ·exact λ_=>⟨Go.Proofs.Tryz.t214,by kernel_rfl,rfl,rfl,_,rfl,rfl,rfl,rfl⟩
 ·exact λ_=>⟨Go.Proofs.Tryz.t215,by kernel_rfl,rfl,rfl,_,rfl,rfl,rfl,rfl⟩
 ·exact λ_=>⟨Go.Proofs.Tryz.t226,by kernel_rfl,rfl,rfl,_,rfl,rfl,rfl,rfl⟩
 ·exact λ_=>⟨Go.Proofs.Tryz.t227,by kernel_rfl,rfl,rfl,_,rfl,rfl,rfl,rfl⟩
 ·exact λ_=>⟨Go.Proofs.Tryz.t228,by kernel_rfl,rfl,rfl,_,rfl,rfl,rfl,rfl⟩
 ·exact λ_=>⟨Go.Proofs.Tryz.t244,by kernel_rfl,rfl,rfl,_,rfl,rfl,rfl,rfl⟩
 ·exact λ_=>⟨Go.Proofs.Tryz.t263,by kernel_rfl,rfl,rfl,_,rfl,rfl,rfl,rfl⟩
 ·exact λ_=>⟨Go.Proofs.Tryz.t270,by kernel_rfl,rfl,rfl,_,rfl,rfl,rfl,rfl⟩
 ·exact λ_=>⟨Go.Proofs.Tryz.t272,by kernel_rfl,rfl,rfl,_,rfl,rfl,rfl,rfl⟩
 ·exact λ_=>⟨Go.Proofs.Tryz.t286,by kernel_rfl,rfl,rfl,_,rfl,rfl,rfl,rfl⟩
 ·exact λ_=>⟨Go.Proofs.Tryz.t290,by kernel_rfl,rfl,rfl,_,rfl,rfl,rfl,rfl⟩
 ·exact λ_=>⟨Go.Proofs.Tryz.t296,by kernel_rfl,rfl,rfl,_,rfl,rfl,rfl,rfl⟩
 ·exact λ_=>⟨Go.Proofs.Tryz.t300,by kernel_rfl,rfl,rfl,_,rfl,rfl,rfl,rfl⟩
 ·exact λ_=>⟨Go.Proofs.Tryz.t301,by kernel_rfl,rfl,rfl,_,rfl,rfl,rfl,rfl⟩
 ·exact λ_=>⟨Go.Proofs.Tryz.t308,by kernel_rfl,rfl,rfl,_,rfl,rfl,rfl,rfl⟩
 ·exact λ_=>⟨Go.Proofs.Tryz.t309,by kernel_rfl,rfl,rfl,_,rfl,rfl,rfl,rfl⟩
 ·exact λ_=>⟨Go.Proofs.Tryz.t314,by kernel_rfl,rfl,rfl,_,rfl,rfl,rfl,rfl⟩
 ·exact λ_=>⟨Go.Proofs.Tryz.t315,by kernel_rfl,rfl,rfl,_,rfl,rfl,rfl,rfl⟩
 ·exact λ_=>⟨Go.Proofs.Tryz.t317,by kernel_rfl,rfl,rfl,_,rfl,rfl,rfl,rfl⟩
 ·exact λ_=>⟨Go.Proofs.Tryz.t318,by kernel_rfl,rfl,rfl,_,rfl,rfl,rfl,rfl⟩
 ·exact λ_=>⟨Go.Proofs.Tryz.t319,by kernel_rfl,rfl,rfl,_,rfl,rfl,rfl,rfl⟩
 ·exact λh=>absurd rfl h
theorem Ba:∀t,tFl t=[]\/∃F:Array Field,(Go.Proofs.Tryz.prog).underlying t=some (.struct F)/\F.toList.map (λf=>(f.type,f.offset))=tFl t/\∀x,x∈tFl t->yr x.1≠0:=by
 intro t;unfold tFl;split
 ·exact .inr ⟨_,Go.Proofs.Tryz.underlying7,rfl,by decide⟩
 ·exact .inr ⟨_,Go.Proofs.Tryz.underlying8,rfl,by decide⟩
 ·exact .inr ⟨_,Go.Proofs.Tryz.underlying13,rfl,by decide⟩
 ·exact .inr ⟨_,Go.Proofs.Tryz.underlying14,rfl,by decide⟩
 ·exact .inr ⟨_,Go.Proofs.Tryz.underlying18,rfl,by decide⟩
 ·exact .inr ⟨_,Go.Proofs.Tryz.underlying19,rfl,by decide⟩
 ·exact .inr ⟨_,Go.Proofs.Tryz.underlying25,rfl,by decide⟩
 ·exact .inr ⟨_,Go.Proofs.Tryz.underlying26,rfl,by decide⟩
 ·exact .inr ⟨_,Go.Proofs.Tryz.underlying31,rfl,by decide⟩
 ·exact .inr ⟨_,Go.Proofs.Tryz.underlying32,rfl,by decide⟩
 ·exact .inr ⟨_,Go.Proofs.Tryz.underlying34,rfl,by decide⟩
 ·exact .inr ⟨_,Go.Proofs.Tryz.underlying35,rfl,by decide⟩
 ·exact .inr ⟨_,Go.Proofs.Tryz.underlying41,rfl,by decide⟩
 ·exact .inr ⟨_,Go.Proofs.Tryz.underlying42,rfl,by decide⟩
 ·exact .inr ⟨_,Go.Proofs.Tryz.underlying46,rfl,by decide⟩
 ·exact .inr ⟨_,Go.Proofs.Tryz.underlying47,rfl,by decide⟩
 ·exact .inr ⟨_,Go.Proofs.Tryz.underlying48,rfl,by decide⟩
 ·exact .inr ⟨_,Go.Proofs.Tryz.underlying49,rfl,by decide⟩
 ·exact .inr ⟨_,Go.Proofs.Tryz.underlying50,rfl,by decide⟩
 ·exact .inr ⟨_,Go.Proofs.Tryz.underlying51,rfl,by decide⟩
 ·exact .inr ⟨_,Go.Proofs.Tryz.underlying75,rfl,by decide⟩
 ·exact .inr ⟨_,Go.Proofs.Tryz.underlying76,rfl,by decide⟩
 ·exact .inr ⟨_,Go.Proofs.Tryz.underlying78,rfl,by decide⟩
 ·exact .inr ⟨_,Go.Proofs.Tryz.underlying79,rfl,by decide⟩
 ·exact .inr ⟨_,Go.Proofs.Tryz.underlying93,rfl,by decide⟩
 ·exact .inr ⟨_,Go.Proofs.Tryz.underlying94,rfl,by decide⟩
 ·exact .inr ⟨_,Go.Proofs.Tryz.underlying95,rfl,by decide⟩
 ·exact .inr ⟨_,Go.Proofs.Tryz.underlying96,rfl,by decide⟩
 ·exact .inr ⟨_,Go.Proofs.Tryz.underlying102,rfl,by decide⟩
 ·exact .inr ⟨_,Go.Proofs.Tryz.underlying103,rfl,by decide⟩
 ·exact .inr ⟨_,Go.Proofs.Tryz.underlying117,rfl,by decide⟩
 ·exact .inr ⟨_,Go.Proofs.Tryz.underlying118,rfl,by decide⟩
 ·exact .inr ⟨_,Go.Proofs.Tryz.underlying120,rfl,by decide⟩
 ·exact .inr ⟨_,Go.Proofs.Tryz.underlying121,rfl,by decide⟩
 ·exact .inr ⟨_,Go.Proofs.Tryz.underlying137,rfl,by decide⟩
 ·exact .inr ⟨_,Go.Proofs.Tryz.underlying138,rfl,by decide⟩
 ·exact .inr ⟨_,Go.Proofs.Tryz.underlying145,rfl,by decide⟩
 ·exact .inr ⟨_,Go.Proofs.Tryz.underlying146,rfl,by decide⟩
 ·exact .inr ⟨_,Go.Proofs.Tryz.underlying161,rfl,by decide⟩
 ·exact .inr ⟨_,Go.Proofs.Tryz.underlying162,rfl,by decide⟩
 ·exact .inr ⟨_,Go.Proofs.Tryz.underlying199,rfl,by decide⟩
 ·exact .inr ⟨_,Go.Proofs.Tryz.underlying200,rfl,by decide⟩
 ·exact .inr ⟨_,Go.Proofs.Tryz.underlying214,rfl,by decide⟩
 ·exact .inr ⟨_,Go.Proofs.Tryz.underlying215,rfl,by decide⟩
 ·exact .inr ⟨_,Go.Proofs.Tryz.underlying227,rfl,by decide⟩
 ·exact .inr ⟨_,Go.Proofs.Tryz.underlying228,rfl,by decide⟩
 ·exact .inr ⟨_,Go.Proofs.Tryz.underlying300,rfl,by decide⟩
 ·exact .inr ⟨_,Go.Proofs.Tryz.underlying301,rfl,by decide⟩
 ·exact .inr ⟨_,Go.Proofs.Tryz.underlying308,rfl,by decide⟩
 ·exact .inr ⟨_,Go.Proofs.Tryz.underlying309,rfl,by decide⟩
 ·exact .inl rfl
theorem yt:∀t j ft off,Hx t j=some (ft,off)->∃F f,(Go.Proofs.Tryz.prog).underlying t=some (.struct F)/\F[j]? = some f/\f.type=ft/\f.offset=off/\yr ft≠0:=by
 intro t j ft off h;unfold Hx at h
 rcases Ba t with e | ⟨F,h1,h2,h3⟩
 ·rw[e] at h;simp at h
 ·have h4:=h3 _ (Zs h);rw[←h2,Zr,WI] at h;cases e:F[j]? with
  | none=>rw[e] at h;cases h
  | some f=>
   rw[e] at h;simp only[Option.map_some,Option.some.injEq,Prod.mk.injEq] at h;exact ⟨F,f,h1,e,h.1,h.2,h4⟩
theorem tK:TabOK Go.Proofs.Tryz.prog tab:=⟨yv,yu,yt⟩
end Go.Eng
