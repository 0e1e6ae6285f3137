/- Texts of this claim, part 7: EngAB, EngAC, EngAD, EngAE, EngAF, EngAG, EngAH. No condition. -/
import Derived.Test.YtmcfbfdonjllaaaGreatDoorZT6
import Derived.Lib.Overlaps
import Derived.Laws.StructEq
import Derived.Lib.SlBytesConst
set_option maxRecDepth 10000
set_option maxHeartbeats 4000000
set_option linter.unusedSimpArgs false
set_option linter.unusedVariables false
namespace Go.Eng
section
variable {P:Program} {T:Tab} {C:Ctx} {σ σ':St} {Ret:St->Prop} {k:List It} {μ:Nat->Option Nat} {S:Nat->Prop} {a:Act} {w:World}
theorem fI (x:AV) {all:Array Oper} {o:Oper} {l:List Oper} (hg:guardOf all σ o.guard=some false) (h:Cw P C Ret (.ops all l::k) (σ.put o.dst (.cnd false x))):Cw P C Ret (.ops all (o::l)::k) σ:=by
 intro a w hr
 show wpList P all _ (o::l) a w
 unfold wpList;obtain ⟨μ,S,hi⟩:=hr;rw[bk hi hg];exact h _ _ ⟨μ,S,hi.put o.dst (.cndF _)⟩
theorem Inv.I_ (hi:Inv C μ S σ a w) {id s e n g d N:Nat} {rows:List (List AV)} (hb:aa σ.hp id=some (.cells e s rows)) (hg:μ id=some g) (hr:ah w g=some (n,N*s)) (hs:s≠0) (hf:aa σ.hp d=none) :
  rows.length≤N/\Inv C μ S ⟨σ.tm,(d,.cap id s N)::aQ σ.hp id (.cells e s (rows++List.replicate (N-rows.length) (List.replicate s .any)))⟩ a w:=by
 rcases hi.hp id _ hb with ⟨_,k2⟩ | ⟨g',c,k1,k2,k3,k4,k5⟩
 ·rw[k2] at hg;cases hg
 ·rw[k1] at hg;injection hg with hg;subst hg
  have hcs:c.size=N*s:=by
   have:=hr;rw[ah,k2] at this;simp only[Option.some.injEq,Prod.mk.injEq] at this;exact this.2
  have hle:rows.length≤N:=Nat.le_of_mul_le_mul_right (by rw[←hcs];exact k3) (Nat.pos_of_ne_zero hs);have hid:d≠id:=by rintro rfl;rw[hb] at hf;cases hf
  refine ⟨hle,hi.size,hi.defers,hi.tm,λi b hb'=>?_,λi q hq=>?_,hi.inj,hi.frm,hi.sb⟩
  ·simp only[aa] at hb';split at hb'
   ·rename_i hd;injection hb' with hb'
    subst hd hb';exact ⟨hi.fresh hf,g',n,k1,hr⟩
   ·rw[an] at hb';split at hb'
    ·rename_i hi2;injection hb' with hb'
     subst hi2 hb';refine .inr ⟨g',c,k1,k2,by rw[List.length_append,Yi,hcs];exact Nat.le_of_eq (by congr 1;omega),λrow hrow=>?_,λi row hrow j x hx=>?_⟩
     ·rcases List.mem_append.1 hrow with h | h
      ·exact k4 row h
      ·rw[(Yl.1 h).2];simp
     ·by_cases hil:i<rows.length
      ·rw[W6 hil] at hrow;exact k5 i row hrow j x hx
      ·rw[W1 z8,List.getElem?_replicate] at hrow;split at hrow
       ·injection hrow with hrow
        subst hrow;rw[List.getElem?_replicate] at hx;split at hx
        ·injection hx with hx;subst hx;exact .any _
        ·cases hx
       ·cases hrow
    ·exact hi.hp i b hb'
  ·obtain ⟨⟨b,h1⟩,h2⟩:=hi.dom i q hq;refine ⟨?_,h2⟩;simp only[aa];split
   ·exact ⟨_,rfl⟩
   ·rw[an];split
    ·exact ⟨_,rfl⟩
    ·exact ⟨b,h1⟩
theorem C_ (hT:TabOK P T) {all:Array Oper} {o:Oper} {l:List Oper} {x:Operand} {t e:TypeId} {d:Nat} (ho:o.op=.call { callee:=.builtin .cap,args:=#[x],argTypes:=#[t] }) (hd:o.dst=some d) (hg:o.guard=none) (ht:T.und t=.sl e)
  {id s off len e':Nat} {rows:List (List AV)} (hx:evS σ x=(True,.osl id s off len)) (hb:aa σ.hp id=some (.cells e' s rows)) (h0:0<len) (hs:s≠0) (hf:aa σ.hp d=none)
  (h:∀c:Nat,len≤c->rows.length≤off+c->Cw P C Ret (.ops all l::k) (St.put ⟨σ.tm,(d,.cap id s (off+c))::aQ σ.hp id (.cells e' s (rows++List.replicate (off+c-rows.length) (List.replicate s .any)))⟩ (some d) (.int .i64 c))) :
  Cw P C Ret (.ops all (o::l)::k) σ:=by
 intro a w ⟨μ,S,hi⟩;have hv:=hi.evS x s6;rw[hx] at hv;obtain ⟨A,cap,hv',hc,hor⟩:=hv.bL;have hty:P.underlying t=some (.slice e):=by have:=hT.und t;rw[ht] at this;exact this
 rcases hor with ⟨h1,_⟩ | ⟨g,n,m,h1,_,h3,h4⟩
 ·omega
 ·obtain ⟨hle,hi'⟩:=hi.I_ (d:=d) (N:=off+cap) hb h1 (by rw[h3,h4]) hs hf
  show wpList P all _ (o::l) a w
  unfold wpList;rw[bk hi (show guardOf all σ o.guard=some true from by rw[hg];rfl)];refine .inl ?_;unfold Oper.wp;have hrun:(execOp a.eval o).run P w=.ok (.value (.int .i64 cap)) w:=by
   have hv2:a.eval x=.slice A len cap:=hv';simp[execOp,ho,hv2,resolve,invoke,builtin,Builtin.cap_,run_underlying hty,goInt]
  rw[hrun,Oper.upon_value,hd];exact h cap hc hle _ _ ⟨μ,S,hi'.put (some d) (.pure (.int _ _))⟩
theorem oE (hT:TabOK P T) {o:Oper} {x hi:Operand} {t e:TypeId} (ho:o.op=.slice t x none (some hi) none) (ht:T.und t=.sl e) {id s off len h j N:Nat} (hx:evS σ x=(True,.osl id s off len)) (hh:evS σ hi=(True,.int .i64 (h:Nat)))
  (hcap:aa σ.hp j=some (.cap id s N)) (hN:off+h≤N) (h0:0<len) (hs:T.siz e=s) (hs0:s≠0):eZ P C o σ (σ.put o.dst (.osl id s off h)):=by
 refine dR λμ S a w hi'=>?_
 have hv:=hi'.evS x s6;have hu:=hi'.evS hi Wc;rw[hx] at hv;rw[hh] at hu;obtain ⟨A,cap,hv',hc,hor⟩:=hv.bL;have hu':=hu.aG;have hty:P.underlying t=some (.slice e):=by have:=hT.und t;rw[ht] at this;exact this
 rcases hor with ⟨h1,_⟩ | ⟨g,n,m,h1,hA,h3,h4⟩
 ·omega
 ·obtain ⟨_,g',e',k1,k2⟩:=hi'.hp j _ hcap;rw[k1] at h1;injection h1 with h1;subst h1
  rw[h3] at k2;simp only[Option.some.injEq,Prod.mk.injEq] at k2;have hNc:off+cap=N:=Nat.eq_of_mul_eq_mul_right (Nat.pos_of_ne_zero hs0) (h4.trans k2.2);subst hA;have hrun:(Instr.sliceAt t (.slice (some ⟨g',off*s,none⟩) len cap) none (some (.int .i64 (h:Nat))) none).run P w=.ok (.slice (some ⟨g',off*s,none⟩) h cap) w:=by
   have hb:=fw (P:=P) (w:=w) true len cap 0 h none (some (.int .i64 (h:Nat))) (show fG none 0 0 from rfl) (show fG (some (.int .i64 (h:Nat))) len h from ⟨.i64,rfl⟩) (Yd _) z8
   by_cases hc0:cap=0
   ·subst hc0;simp[Instr.sliceAt,Instr.slice,run_underlying hty,hb,bs hT (t:=e) Qu]
   ·simp[Instr.sliceAt,Instr.slice,run_underlying hty,hb,bs hT (t:=e) Qu,hc0,Addr.add]
  refine ⟨.slice (some ⟨g',off*s,none⟩) h cap,?_,.osl id s off h cap _ z8 (.inr ⟨g',n,m,k1,rfl,h3,h4⟩)⟩;have e1:a.eval x=.slice (some ⟨g',off*s,none⟩) len cap:=hv';have e2:a.eval hi=.int .i64 (h:Nat):=hu';simp only[execOp,ho,e1,Option.map_none,Option.map_some,e2,Sem.run_bind,hrun];rfl
theorem pB (hT:TabOK P T) {t u e ty:TypeId} (ht:P.underlying t=some (.slice e)) (hu:P.underlying u=some (.int .i64)) (hs:T.siz e≠0) (hb:T.byt e≠0) {A:Option Addr} {len cap:Nat} {R:List (List AV)} {olds:List Value}
  (ho:Src μ S w (T.siz e) (.slice A len cap) R olds) (hlen:R.length=len) (n:Nat) (hn:n≠0) (hg:¬len+n≤cap) (hsz:(2*(len+n)+768)*T.byt e≤281474976710656) :
  ∃(nc:Nat) (z zs:Array Value),len+n≤nc/\z.size=(nc-(len+n))*T.siz e/\(∀(μ:Nat->Option Nat) (S:Nat->Prop) (w:World),RdR μ S w (T.siz e) zs (List.replicate n (T.zer e))) /\
   (Builtin.append_ #[t,u] ty #[.slice A len cap,.int .i64 (n:Nat)]).run P w=.ok (.slice (some ⟨w.heap.size,0,none⟩) (len+n) nc) (w.drew.alloc (.cells (olds.toArray++zs++z) e)):=by
 obtain ⟨i,hi,hi1,hi2,z,hz,_,hzs,_⟩:=hT.siz e hs;obtain ⟨z0,r1,r2,r3⟩:=pI hT (e:=e) n hs;have hzz:z0=z:=by
  have:=r1 w;simp[zeroValue,typeInfo,hi,hz] at this;exact this.symm
 subst hzz;have hnx:=ns (len+n) cap z8;have hfit:Builtin.nextslicecap (len+n) cap*i.bytes≤281474976710656:=by
  rw[hi2];exact YW (Wz _ hnx) hsz
 have hw1:Src μ S w.drew (T.siz e) (.slice A len cap) R olds:=⟨ho.form,ho.len,ho.rlen,λi row hi j x hx=>(ho.rd i row hi j x hx).mono (λ_ _=>rfl) (λ_ h=>h) (λ_ _ h=>h) (λ_ _ _=>rfl)⟩;have g1:=iC (P:=P) hw1;rw[hlen] at g1;have hb':i.bytes≠0:=by rw[hi2];exact hb
 have hnb:n*i.bytes≤281474976710656:=by
  rw[hi2];exact YW (Wz _ z8) hsz
 have hbl:n≤281474976710656:=YW (Nat.le_mul_of_pos_right n (Nat.pos_of_ne_zero hb')) hnb;have hneed:len+n≤281474976710656:=by
  have h1:(len+n)*T.byt e≤281474976710656:=YW (Wz _ z8) hsz;exact YW (Nat.le_mul_of_pos_right _ (Nat.pos_of_ne_zero hb)) h1
 have hwrap:IntKind.i64.wrap (n:Int)=n:=wrap_small z8 z8;have hnn:¬((n:Int)<0):=by omega
 have hm1:¬281474976710656<(n:Int)*(i.bytes:Int):=by
  have h0:((n*i.bytes:Nat):Int)≤((281474976710656:Nat):Int):=Int.ofNat_le.2 hnb;rw[Int.natCast_mul] at h0;omega
 have hm2:¬9223372036854775807<(len:Int)+(n:Int):=by omega
 have hns:n*T.siz e≠0:=Nat.mul_ne_zero hn hs;refine ⟨grownCap w (len+n) cap e,Builtin.zeroCells z0.cells (grownCap w (len+n) cap e-(len+n)),Builtin.zeroCells z0.cells n,grownCap_ge w _ _ _,by simp[Builtin.zeroCells,hzs],λμ S w=>?_,?_⟩
 ·have:=r3 μ S w;simp only[r2] at this;rw[Builtin.zeroCells,r2];exact this
 ·simp[Builtin.append_,run_underlying ht,run_underlying hu,sizeOf,typeInfo,hi,hi1,hwrap,hnn,hm1,hm2,hg,hb',hns,show ¬281474976710656<Builtin.nextslicecap (len+n) cap*i.bytes by omega,g1,Question.forced,zeroValue,hz,kQ,grownCap,asInt,asIntOf]
theorem sV (hT:TabOK P T) {o:Oper} {x y:Operand} {t u e:TypeId} (ho:o.op=.call { callee:=.builtin .append,args:=#[x,y],argTypes:=#[t,u] }) (ht:T.und t=.sl e) (hu:P.underlying u=some (.int .i64))
  {id s len n j N d e':Nat} {R:List (List AV)} (hx:evS σ x=(True,.osl id s 0 len)) (hy:evS σ y=(True,.int .i64 (n:Nat))) (hcap:aa σ.hp j=some (.cap id s N)) (hN:N<len+n) (hn:n≠0)
  (hb0:aa σ.hp id=some (.cells e' s R)) (hR:len≤R.length) (hs:T.siz e=s) (hs0:s≠0) (hb:T.byt e≠0) (hsz:(2*(len+n)+768)*T.byt e≤281474976710656) (hd:aa σ.hp d=none) :
  eZ P C o σ (St.put ⟨σ.tm,(d,.cells e s (R.take len++List.replicate n (T.zer e)))::σ.hp⟩ o.dst (.osl d s 0 (len+n))):=by
 subst hs;intro a w K Q ⟨μ,S,hi⟩ hK;have hv:=hi.evS x s6;have hvy:=hi.evS y Qi;rw[hx] at hv;rw[hy] at hvy;have hvy':=hvy.aG;have hRl:rowsOf (T.siz e) (R.take len):=by
  rcases hi.hp id _ hb0 with ⟨rfl,_⟩ | ⟨g,c,_,_,_,k4,_⟩
  ·intro row hrow;simp at hrow
  ·exact λrow hrow=>k4 row (Wx hrow)
 have hRt:(R.take len).length=len:=by simp;omega
 obtain ⟨olds,hol⟩:=kX hi (x:=.osl id (T.siz e) 0 len) (rows:=R.take len) (size:=T.siz e) (by simp[dP,hb0]) hv hRl (λ_ _ _ _ h=>by injection h with _ _ _ h;rw[hRt,h]);obtain ⟨A,cap,hv',hc,hor⟩:=hv.bL;have hty:P.underlying t=some (.slice e):=by have:=hT.und t;rw[ht] at this;exact this
 have hcN:cap≤N:=by
  rcases hor with ⟨h1,h2⟩ | ⟨g,n',m,h1,_,h3,h4⟩
  ·omega
  ·obtain ⟨_,g',e2,k1,k2⟩:=hi.hp j _ hcap;rw[k1] at h1;injection h1 with h1;subst h1
   rw[h3] at k2;simp only[Option.some.injEq,Prod.mk.injEq] at k2;have:=Nat.eq_of_mul_eq_mul_right (Nat.pos_of_ne_zero hs0) (h4.trans k2.2);omega
 rw[hv'] at hol;obtain ⟨nc,z,zs,h1,h2,h3,h4⟩:=pB (ty:=o.type) hT hty hu hs0 hb hol hRt n hn z8 hsz;have hfr:(execOp a.eval o).run P w=.ok (.value (.slice (some ⟨w.heap.size,0,none⟩) (len+n) nc)) (w.drew.alloc (.cells (olds.toArray++zs++z) e)):=by
  have e1:a.eval x=.slice A len cap:=hv';have e2:a.eval y=.int .i64 (n:Nat):=hvy';simp[execOp,ho,e1,e2,resolve,invoke,builtin,h4,-Array.append_assoc]
 have hi1:=hi.drew;have hnod:μ d=none:=hi.fresh hd;have hm:∀{v x},Rd μ S w v x->Rd (upd μ d (some w.heap.size)) S (World.alloc w.drew (.cells (olds.toArray++zs++z) e)) v x:=λh=>
  (h.mono (w':=w.drew) (λ_ _=>rfl) (λ_ h=>h) (λ_ _ h=>h) (λ_ _ _=>rfl)).mono (λb hb=>aZ _ _ b (hi1.sb b hb).1) (λ_ h=>h) (λi' g hg=>by
   unfold upd;rw[if_neg Qo];exact hg) (λi' g hg=>aO (aZ _ _ g (hi1.dom i' g hg).2.2.2))
 have hzl:rowsOf (T.siz e) (List.replicate n (T.zer e)):=λrow hrow=>(h3 μ S w).len row hrow
 have hzr:=h3 (upd μ d (some w.heap.size)) S (World.alloc w.drew (.cells (olds.toArray++zs++z) e));have hzn:zs.size=n*T.siz e:=by have:=hzr.size;rwa [Yi] at this
 have aa:∀k,k<olds.length+zs.toList.length->(olds.toArray++zs++z).getD k undef=(olds++zs.toList).getD k undef:=λk hk=>by
  rw[Wk,Wi,YS Zs];rw[←YF];simp
 have key:=ix (μ:=upd μ d (some w.heap.size)) (S:=S) (w:=World.alloc w.drew (.cells (olds.toArray++zs++z) e)) (R:=R.take len) (rows:=List.replicate n (T.zer e)) (cs:=olds.toArray++zs++z) (s:=T.siz e) (olds:=olds) (vs:=zs.toList)
  hol.len hRl hzl (λi row hi' j x hx=>hm (hol.rd i row hi' j x hx)) (λi row hi' j x hx=>by
   have:=hzr.rd i row hi' j x hx
   rwa [Wk,←YF,←Wi] at this) (by simpa using hzr.size) aa
 have hsize:(olds.toArray++zs++z).size=nc*T.siz e:=by
  simp only[Array.size_append,List.size_toArray,hol.len,hRt,hzn,h2,←YM]
  congr 1;omega
 unfold Oper.wp;rw[hfr]
 show K (a.put o.dst _) _
 refine hK _ _ ⟨_,S,Inv.put (hi1.new d hd _ (.cells e (T.siz e) (R.take len++List.replicate n (T.zer e))) (.inr ⟨w.heap.size,_,by simp[upd],bd w _,?_,λrow hrow=>?_,key⟩)) o.dst (.osl d _ 0 _ nc _ h1 (.inr ⟨w.heap.size,e,nc*T.siz e,by simp[upd],by simp,?_,by simp⟩))⟩
 ·rw[List.length_append,hRt,Yi,hsize];exact Wz _ h1
 ·rcases List.mem_append.1 hrow with h | h
  ·exact hRl row h
  ·exact hzl row h
 ·unfold ah;rw[bd]
  show some (e,_)=some (e,_)
  rw[hsize]
theorem sP (hT:TabOK P T) {o:Oper} {c x y:Operand} {ats:Array TypeId} (ho:o.op=.call { callee:=.value c,args:=#[x,y],argTypes:=ats }) {f:FuncId} {fn:Func} {tS tR e:TypeId} (hc:evS σ c=(True,.fn f []))
  (hf:P.funcs[f]? = some fn) (hname:(fn.name == "runtime.NumGoroutine")=false) (hbody:fn.body.isNone=true) (hnx:Extern.findNext fn=none) (hfind:Extern.find fn=some (Extern.SlicesOverlaps.overlaps #[tS,tS] #[tR])) (ht:T.und tS=.sl e) (hs:T.siz e≠0)
  {i1 i2 s1 s2 o1 o2 l1 l2 e1 e2 z1 z2:Nat} {R1 R2:List (List AV)} (hx:evS σ x=(True,.osl i1 s1 o1 l1)) (hy:evS σ y=(True,.osl i2 s2 o2 l2)) (hne:i1≠i2) (hl1:0<l1) (hl2:0<l2) (hz2:s2≠0)
  (hb1:aa σ.hp i1=some (.cells e1 z1 R1)) (_hb2:aa σ.hp i2=some (.cells e2 z2 R2)):eZ P C o σ (σ.put o.dst (.bool false)):=by
 refine dR λμ S a w hi=>?_
 have hv:=hi.evS x s6;have hu:=hi.evS y Qi;have hg:=hi.evS c (by rw[hc];trivial);rw[hx] at hv;rw[hy] at hu;rw[hc] at hg;obtain ⟨A,ca,ha,hca,hor⟩:=hv.bL;obtain ⟨B,cb,hb,hcb,hor2⟩:=hu.bL;obtain ⟨vals,he,hl,_⟩:=hg.zl;have hv0:vals=#[]:=Array.eq_empty_of_size_eq_zero Qj;subst hv0;have hty:P.underlying tS=some (.slice e):=by have:=hT.und tS;rw[ht] at this;exact this
 rcases hor with ⟨h,_⟩ | ⟨g1,n1,m1,k1,rfl,k3,k4⟩
 ·omega
 rcases hor2 with ⟨h,_⟩ | ⟨g2,n2,m2,q1,rfl,q3,q4⟩
 ·omega
 have hgne:g1≠g2:=λh=>hne (hi.inj i1 i2 g1 k1 (h▸q1))
 have hfro:∀off,w.frozen? { block:=g1,off }=false:=λoff=>by
  rcases hi.hp i1 _ hb1 with ⟨_,h⟩ | ⟨g',c',h1,h2,_⟩
  ·rw[k1] at h;cases h
  ·rw[k1] at h1;injection h1 with h1;subst h1
   simp[World.frozen?,h2]
 have hsh:∀{g n m},ah w g=some (n,m)->w.shape? g=some (n,m):=fun {g n m} h=>by
  unfold ah at h;unfold World.shape?;split at h
  ·rename_i h';rw[h'];exact h
  ·cases h
 have hm2:m2≠0:=by
  rw[←q4];exact Nat.mul_ne_zero z8 hz2
 have hrun:=Lib.run_overlaps_apart (P:=P) w tS tR e hty (T.siz e) (λw=>bs hT hs) ⟨g1,o1*s1,none⟩ ⟨g2,o2*s2,none⟩ l1 ca l2 cb hgne n1 n2 m1 m2 (hsh k3) (hsh q3) hm2 (hfro _) (hfro _);have hcall:=run_callFunc_extern hf hname hbody hnx hfind #[a.eval x,a.eval y] w;rw[ha,hb,hrun] at hcall;refine ⟨.bool false,?_,.pure (.bool _)⟩;simp[execOp,ho,resolve,he,Deferred.ofValue,invoke,ha,hb,hcall]
theorem pk (n:Nat) {id e s:Nat} {rows:List (List AV)} (hb:aa σ.hp id=some (.cells e s rows)):Le C σ ⟨σ.tm,aQ σ.hp id (.cells e s (rows.take n))⟩:=by
 rintro a w ⟨μ,S,hi⟩;refine ⟨μ,S,hi.size,hi.defers,hi.tm,λi b hb'=>?_,λi q hq=>?_,hi.inj,hi.frm,hi.sb⟩
 ·simp only[an] at hb';split at hb'
  ·rename_i h1;injection hb' with hb'
   subst h1 hb'
   rcases hi.hp id _ hb with ⟨rfl,k2⟩ | ⟨g,c,k1,k2,k3,k4,k5⟩
   ·exact .inl ⟨by simp,k2⟩
   ·refine .inr ⟨g,c,k1,k2,YW (Wz _ QK) k3,λrow hr=>k4 row (Wx hr),λi row hr j x hx=>?_⟩;rw[W4] at hr;split at hr
    ·exact k5 i row hr j x hx
    ·cases hr
  ·exact hi.hp i b hb'
 ·obtain ⟨⟨b,h1⟩,h2⟩:=hi.dom i q hq;refine ⟨?_,h2⟩;simp only[an];split
  ·exact ⟨_,rfl⟩
  ·exact ⟨b,h1⟩
def xO:AV->AV
 | .nils=>.sl []
 | x=>x
theorem Rd.xO {v:Value} {x:AV} (h:Rd μ S w v x):Rd μ S w v (xO x):=by
 cases x<;>try exact h
 exact h.nrm
theorem ae.HJ {f:FuncId} {args:List AV} {H:List (Nat×Blk)} {s e n:Nat} {rows rows':List (List AV)} (k:Nat) (h:ae P f args H λr H'=>∃j,r=.osl j s 0 n/\aa H' j=some (.cells e s rows))
  (hr:rows.map (λrow=>row.map xO)=rows') (hp:∀row,row∈rows->∀x,x∈row->refs x=[]):ae P f args H λr H'=>r=.osl k s 0 n/\∀i b,aa [(k,.cells e s rows')] i=some b->aa H' i=some b:=by
 subst hr;intro R0 μ w0 vs hl ha hH hR;refine (h R0 μ w0 vs hl ha hH hR).mono ?_;rintro e' w' ⟨v,r,H',μ',S',rfl,⟨j,rfl,hb⟩,h4,h5,h6,h7,h8⟩
 let ν:Nat->Option Nat:=λi=>if i=k then μ' j else none
 have hν:∀{i g},ν i=some g->i=k/\μ' j=some g:=fun {i g} h=>by
  simp only[ν] at h;split at h
  ·exact ⟨by assumption,h⟩
  ·cases h
 have hνk:ν k=μ' j:=by simp[ν]
 refine ⟨v,_,[(k,.cells e s (rows.map (λrow=>row.map xO)))],ν,S',rfl,⟨rfl,λi b h=>h⟩,?_,⟨λi b h=>?_,λi g h=>?_,λi i' g h h'=>by rw[(hν h).1,(hν h').1],h5.glob.sub λi g h=>⟨j,(hν h).2⟩⟩,h6,λi g h=>h7 j g (hν h).2,h8⟩
 ·obtain ⟨A,cap,rfl,hc,hor⟩:=h4.bL;refine .osl k s 0 n cap A hc ?_
  rcases hor with h | ⟨g,e2,m,k1,k2,k3,k4⟩
  ·exact .inl h
  ·exact .inr ⟨g,e2,m,hνk.trans k1,k2,k3,k4⟩
 ·simp only[aa] at h;split at h
  ·rename_i hk;injection h with h
   subst hk h
   rcases h5.blk j _ hb with ⟨k1,k2⟩ | ⟨g,c,k1,k2,k3,k4,k5⟩
   ·exact .inl ⟨by rw[k1];rfl,hνk.trans k2⟩
   ·refine .inr ⟨g,c,hνk.trans k1,k2,by rw[List.length_map];exact k3,λrow hrow=>?_,λi row hi q x hx=>?_⟩
    ·obtain ⟨r0,h0,rfl⟩:=Wq.1 hrow;rw[List.length_map];exact k4 r0 h0
    ·rw[Wm] at hi;cases e0:rows[i]? with
     | none=>rw[e0] at hi;cases hi
     | some r0=>
      rw[e0] at hi;simp only[Option.map_some,Option.some.injEq] at hi;subst hi;rw[Wm] at hx;cases e1:r0[q]? with
      | none=>rw[e1] at hx;cases hx
      | some y=>
       rw[e1] at hx;simp only[Option.map_some,Option.some.injEq] at hx;subst hx;exact ((k5 i r0 e0 q y e1).free (hp r0 (Wn e0) y (Wn e1))).xO
  ·cases h
 ·obtain ⟨h1,h2⟩:=hν h;subst h1;exact ⟨⟨.cells e s (rows.map (λrow=>row.map xO)),by simp[aa]⟩,(h5.dom j g h2).2⟩
end
end Go.Eng
namespace Go.Eng
section
variable {P:Program} {T:Tab} {C:Ctx} {σ σ':St} {Ret:St->Prop} {k:List It}
theorem Bg:∀H,sub [] H=[]
 | []=>rfl
 | p::r=>by simp[sub,Bg r]
theorem AQ:∀H,del [] H=H
 | []=>rfl
 | p::r=>by simp[del,AQ r]
theorem BK (l:List AV):l.map (jQ [])=l:=by
 have:jQ []=id:=by funext x;simp[jQ]
 rw[this,List.map_id]
theorem gq {ops:Array Oper} {Q:Exit->Act->World->Prop} {k n:Nat} {acc:du} {o:Oper} {l:List Oper} {c:Operand} {args:Array Operand} {ats:Array TypeId} (off:Nat) (ho:o.op=.call { callee:=.value c,args,argTypes:=ats }) (hg:o.guard=none) {p:Prop} {f:FuncId} {xs:List AV}
  (h:ax σ c args.toList=some (p,f,xs)) (hp:p) (hc:aJ P f) (hx:aC xs=[]) {K:List (Nat×Blk)} {r:AV} (hf:ae P f xs [] λr' H'=>r'=r/\∀id b,aa K id=some b->aa H' id=some b) (hc3:closed K (refs r)=true)
  {r2:AV} (hr:ren off r=r2) {K2:List (Nat×Blk)} (hK:qB off K=K2) (hn:(K2.all λb=>(aa σ.hp b.1).isNone)=true)
  {sk:List Loc×List Loc} (hs:((Sp.mk o.dst r2 K2 (bN ops o.guard++(fB σ c++aS σ args.toList))).wr,bN ops o.guard++(fB σ c++aS σ args.toList))=sk)
  (ha:St.put ⟨σ.tm,K2++σ.hp⟩ o.dst r2=σ') (hk:al P C ops Q k n (acc++[sk]) l σ'):al P C ops Q k n acc (o::l) σ:=by
 subst hr hK;refine oz (q:=⟨o.dst,ren off r,qB off K,bN ops o.guard++(fB σ c++aS σ args.toList)⟩) ?_ (λb hb _=>?_) (by rw[←hs]) (by rw[←ha];rfl) hk
 ·intro s hagree hfree a w Kp Q' hr hKp;have hg':guardOf ops s o.guard=some true:=by rw[hg];rfl
  obtain ⟨μ,S,hi⟩:=hr;rw[bk hi hg'];refine .inl ?_;refine sQ ho (by rw[dw (λx hx=>hagree x (Ww _ hx))];exact h) hp hc [] off (H:=[]) (K:=K) (r:=r) (Bg _) (by rw[hx];rfl) rfl y7 hc3 ?_ hf ?_ a w Kp Q' ⟨μ,S,hi⟩ hKp
  ·rw[List.all_eq_true];intro q hq;have hm:(q.1+off,zQ off q.2)∈qB off K:=Wq.2 ⟨q,hq,rfl⟩;have h0:aa s.hp (q.1+off)=none:=by
    by_cases h:Loc.blk (q.1+off)∈bN ops o.guard++(fB σ c++aS σ args.toList)
    ·have h1:=List.all_eq_true.1 hn _ hm;have h2:aa σ.hp (q.1+off)=none:=by simpa using h1
     exact (hagree _ h).trans h2
    ·exact hfree _ hm h
   rw[h0];rfl
  ·rw[BK,AQ];rfl
 ·have:=List.all_eq_true.1 hn b hb;simpa using this
theorem le_empty (id e s:Nat) (hf:aa σ.hp id=none):Le C σ ⟨σ.tm,(id,.cells e s [])::σ.hp⟩:=by
 rintro a w ⟨μ,S,hi⟩;refine ⟨μ,S,hi.size,hi.defers,hi.tm,λi b hb=>?_,λi q hq=>?_,hi.inj,hi.frm,hi.sb⟩
 ·simp only[aa] at hb;split at hb
  ·rename_i h1;injection hb with hb
   subst h1 hb;exact .inl ⟨rfl,hi.fresh hf⟩
  ·exact hi.hp i b hb
 ·obtain ⟨⟨b,h1⟩,h2⟩:=hi.dom i q hq;refine ⟨?_,h2⟩;simp only[aa];split
  ·exact ⟨_,rfl⟩
  ·exact ⟨b,h1⟩
theorem bh (ref id:Nat) {e s:Nat} {rows rows':List (List AV)} (hb:aa σ.hp id=some (.cells e s rows)) (hr:rows.map (λrow=>row.map (kill ref))=rows'):Le C σ ⟨σ.tm,aQ σ.hp id (.cells e s rows')⟩:=by
 subst hr;rintro a w ⟨μ,S,hi⟩;refine ⟨μ,S,hi.size,hi.defers,hi.tm,λi b hb'=>?_,λi q hq=>?_,hi.inj,hi.frm,hi.sb⟩
 ·simp only[an] at hb';split at hb'
  ·rename_i h1;injection hb' with hb'
   subst h1 hb'
   rcases hi.hp id _ hb with ⟨rfl,k2⟩ | ⟨g,c,k1,k2,k3,k4,k5⟩
   ·exact .inl ⟨by simp,k2⟩
   ·refine .inr ⟨g,c,k1,k2,by rw[List.length_map];exact k3,λrow hrow=>?_,λi row hi' q x hx=>?_⟩
    ·obtain ⟨r0,h0,rfl⟩:=Wq.1 hrow;rw[List.length_map];exact k4 r0 h0
    ·rw[Wm] at hi';cases e0:rows[i]? with
     | none=>rw[e0] at hi';cases hi'
     | some r0=>
      rw[e0] at hi';simp only[Option.map_some,Option.some.injEq] at hi';subst hi';rw[Wm] at hx;cases e1:r0[q]? with
      | none=>rw[e1] at hx;cases hx
      | some y=>
       rw[e1] at hx;simp only[Option.map_some,Option.some.injEq] at hx;subst hx;unfold kill;split
       ·exact .any _
       ·exact k5 i r0 e0 q y e1
  ·exact hi.hp i b hb'
 ·obtain ⟨⟨b,h1⟩,h2⟩:=hi.dom i q hq;refine ⟨?_,h2⟩;simp only[an];split
  ·exact ⟨_,rfl⟩
  ·exact ⟨b,h1⟩
theorem ae.iO {f:FuncId} {args:List AV} {H:List (Nat×Blk)} {X Y:AV} (h:ae P f args H λr _=>r=X) (hn:Eng.nrm X=Y):ae P f args H λr _=>r=Y:=by
 subst hn;intro R0 μ w0 vs hl ha hH hR;refine (h R0 μ w0 vs hl ha hH hR).mono ?_;rintro e' w' ⟨v,r,H',μ',S',rfl,rfl,h4,h5⟩;exact ⟨v,_,H',μ',S',rfl,rfl,h4.nrm,h5⟩
structure Sim (σ τ:St):Prop where
 tm:σ.tm=τ.tm
 hp:∀id,aa σ.hp id=aa τ.hp id
theorem Sim.app {σ τ:St} (h:Sim σ τ) (p:Sp):Sim (p.app σ) (p.app τ):=by
 refine ⟨?_,λid=>?_⟩
 ·unfold Sp.app St.put;cases p.dst<;>simp[h.tm]
 ·unfold Sp.app;rw[St.fR,St.fR]
  show aa (p.new++σ.hp) id=aa (p.new++τ.hp) id
  rw[aF,aF,h.hp id]
theorem Sim.cn {σ τ:St}:∀(ps:List Sp),Sim σ τ->Sim (Eng.cn ps σ) (Eng.cn ps τ):=λps=>by
 induction ps generalizing σ τ with
 | nil=>exact id
 | cons p r ih=>exact λh=>ih (h.app p)
theorem Sim.agree {σ τ s:St} (h:Sim σ τ) {x:Loc} (hx:aP σ s x):aP τ s x:=by
 cases x with
 | tm t=>show _=_;rw[←h.tm];exact hx
 | blk id=>show _=_;rw[←h.hp];exact hx
theorem Sim.rob {σ τ:St} (h:Sim σ τ) {ops:Array Oper} {o:Oper} {p:Sp} (hr:Rob P C ops o p τ):Rob P C ops o p σ:=λs ha hf=>hr s (λx hx=>h.agree (ha x hx)) hf
theorem Sim.chain {ops:Array Oper}:∀(l:List Oper) (ps:List Sp) {σ τ:St},Sim σ τ->dt P C ops l ps τ->dt P C ops l ps σ
 | [],[],_,_,_,h=>h
 | _::l,p::ps,_,_,h,hr=>⟨h.rob hr.1,Sim.chain l ps (h.app p) hr.2⟩
 | [],_::_,_,_,_,h=>h
 | _::_,[],_,_,_,h=>h
theorem Sim.fresh:∀(ps:List Sp) {σ τ:St},Sim σ τ->da ps τ->da ps σ
 | [],_,_,_,h=>h
 | p::ps,_,_,h,hf=>⟨λb hb hn=>by rw[h.hp];exact hf.1 b hb hn,Sim.fresh ps (h.app p) hf.2⟩
theorem bp.sim {ops:Array Oper} {Q:Exit->Act->World->Prop} {k:Nat} {σ τ:St} (h:Sim σ τ) (hd:bp P C ops Q k τ):bp P C ops Q k σ:=λa w hr=>
 hd a w (iR (by rw[h.tm]) (λt=>by rw[h.tm]) h.hp a w hr)
theorem al.sim {ops:Array Oper} {Q:Exit->Act->World->Prop} {k n:Nat} {acc:du} {l:List Oper} {σ τ:St} (h:Sim σ τ) (hs:al P C ops Q k n acc l τ):al P C ops Q k n acc l σ:=by
 obtain ⟨l1,l2,ps,h1,h2,h3,h4,h5,h6⟩:=hs;exact ⟨l1,l2,ps,h1,h2,h.chain _ _ h3,h.fresh _ h4,h5,bp.sim (h.cn ps) h6⟩
theorem kg (hT:TabOK P T) {ops:Array Oper} {Q:Exit->Act->World->Prop} {k n:Nat} {acc:du} {o:Oper} {l:List Oper} {t:TypeId} {x y:Operand} (ho:o.op=.store t x y) (hd:o.dst=none) (hg:guardOf ops σ o.guard=some true) {id size row off:Nat} (hx:evS σ x=(True,.ptr id size row off))
  {q:Prop} {v:AV} (hy:evS σ y=(q,v)) (hq:q) {p:Prop} {H:List (Nat×Blk)} (h:fX T σ t (.ptr id size row off) v=some (p,H)) (hp:p) {b:Blk} (hH:aa H id=some b)
  {sk:List Loc×List Loc} (hs:([Loc.blk id],bN ops o.guard++(aS σ [x,y]++[Loc.blk id]))=sk) (ha:(⟨σ.tm,aQ σ.hp id b⟩:St)=σ') (hk:al P C ops Q k n (acc++[sk]) l σ'):al P C ops Q k n acc (o::l) σ:=by
 subst hs ha;have hform:H=aQ σ.hp id b:=by
  unfold fX at h;split at h
  ·rename_i id' size' row' off' xs heq1 heq2;injection heq1 with e1 e2 e3 e4
   subst e1 e2 e3 e4;split at h
   ·split at h
    ·simp only[Option.some.injEq,Prod.mk.injEq] at h;obtain ⟨_,rfl⟩:=h;rw[an,if_pos rfl] at hH;injection hH with hH
     rw[hH]
    ·cases h
   ·cases h
  ·cases h
 refine oz (q:=⟨none,.any,[(id,b)],bN ops o.guard++(aS σ [x,y]++[Loc.blk id])⟩) (σ':=Sp.app ⟨none,.any,[(id,b)],bN ops o.guard++(aS σ [x,y]++[Loc.blk id])⟩ σ) ?_ (λc hc hn=>?_) rfl rfl ?_
 ·intro s hagree _ a w K Q' hr hK;have hg':guardOf ops s o.guard=some true:=by rw[gL (λx hx=>hagree x (W2 _ hx))];exact hg
  obtain ⟨μ,S,hi⟩:=hr;rw[bk hi hg'];refine .inl ?_;have hl:∀z,z∈aS σ [x,y]->aP σ s z:=λz hz=>hagree z (Ww _ (W2 _ hz))
  have hx':evS s x=(True,.ptr id size row off):=by rw[cC (λz hz=>hl z (dx y7 z hz))];exact hx
  have hy':evS s y=(q,v):=by rw[cC (λz hz=>hl z (dx y7 z hz))];exact hy
  have hb:aa s.hp id=aa σ.hp id:=hagree (.blk id) (Ww _ (Ww _ y7));have hst:fX T s t (.ptr id size row off) v=some (p,aQ s.hp id b):=by
   unfold fX at h ⊢;split at h
   ·rename_i id' size' row' off' xs heq1 heq2;injection heq1 with e1 e2 e3 e4
    subst e1 e2 e3 e4;rw[hb];split at h
    ·split at h
     ·simp only[Option.some.injEq,Prod.mk.injEq] at h;obtain ⟨rfl,rfl⟩:=h;rw[an,if_pos rfl] at hH;injection hH with hH
      subst hH;rw[if_pos WL]
     ·cases h
    ·cases h
   ·cases h
  have hstep:ef T s o.dst o.op=some ((evS s x).1/\(evS s y).1/\p,⟨s.tm,aQ s.hp id b⟩):=by
   rw[ho,hd]
   show (fX T s t (evS s x).2 (evS s y).2).map _=_
   rw[hx',hy',hst];rfl
  have hnd:(St.mk s.tm (aQ s.hp id b)).hp=aQ s.hp id b:=rfl;refine bY hT o hstep ⟨by rw[hx'];trivial,by rw[hy'];exact hq,hp⟩ a w K Q' ⟨μ,S,hi⟩ λa' w' hr'=>hK a' w' ?_
  show Rel C ⟨s.tm,(id,b)::s.hp⟩ a' w'
  refine iR (s:=⟨s.tm,aQ s.hp id b⟩) (s':=⟨s.tm,(id,b)::s.hp⟩) rfl (λt=>rfl) (λi=>?_) a' w' hr'
  show aa (aQ s.hp id b) i=aa ((id,b)::s.hp) i
  rw[an];rfl
 ·have hc':=List.mem_singleton.1 hc;subst hc';exact absurd (Ww _ (Ww _ y7)) hn
 ·refine al.sim (τ:=⟨σ.tm,aQ σ.hp id b⟩) ⟨rfl,λi=>?_⟩ hk
  show aa ((id,b)::σ.hp) i=aa (aQ σ.hp id b) i
  rw[an];rfl
end
end Go.Eng
namespace Go.Eng
section
variable {P:Program} {T:Tab} {C:Ctx} {μ:Nat->Option Nat} {S:Nat->Prop} {σ σ':St} {a:Act} {w:World} {Ret:St->Prop} {k:List It}
def eqT (T:Tab):List TypeId->List AV->List AV->Option Bool
 | [],[],[]=>some true
 | t::ts,.int k x::a,.int k' y::b=>match T.und t with
  | .int _=>if k=k' then (eqT T ts a b).map λr=>x==y&&r else none
  | _=>none
 | t::ts,.bool x::a,.bool y::b=>match T.und t with
  | .bool=>(eqT T ts a b).map λr=>x==y&&r
  | _=>none
 | t::ts,.str x::a,.str y::b=>match T.und t with
  | .str=>(eqT T ts a b).map λr=>x==y&&r
  | _=>none
 | _,_,_=>none
def ir:List Field->Nat->List TypeId->Bool
 | [],_,[]=>true
 | f::fs,j,t::ts=>f.name != "_" && f.offset==j&&f.type==t&&ir fs (j+1) ts
 | _,_,_=>false
def rI (P:Program) (t:TypeId) (tys:List TypeId):Bool:=
 match P.underlying t with
 | some (.struct F)=>!P.stoodInHeld t&&!P.eqGuardType P.depth t&&ir F.toList 0 tys
 | _=>false
theorem vO (hT:TabOK P T) {xs ys:Array Value} {A B:List AV} (hsx:xs.size=A.length) (hsy:ys.size=B.length) (hx:∀j x,A[j]? = some x->Rd μ S w (xs.getD j undef) x) (hy:∀j x,B[j]? = some x->Rd μ S w (ys.getD j undef) x) (d:Nat) :
  ∀(fs:List Field) (j:Nat) (ts:List TypeId) (r:Bool),ir fs j ts=true->eqT T ts (A.drop j) (B.drop j)=some r->(Op.eqFields (d+1) xs ys fs).run P w=.ok r w:=by
 intro fs
 induction fs with
 | nil=>
  intro j ts r h he;cases ts with
  | nil=>
   cases hA:A.drop j<;>cases hB:B.drop j<;>rw[hA,hB] at he<;>simp only[eqT,Option.some.injEq,reduceCtorEq] at he;subst he;simp[Op.eqFields]
  | cons t ts=>simp[ir] at h
 | cons f fs ih=>
  intro j ts r h he;cases ts with
  | nil=>simp[ir] at h
  | cons t ts=>
   simp only[ir,Bool.and_eq_true,bne_iff_ne,ne_eq,beq_iff_eq] at h;obtain ⟨⟨⟨h1,h2⟩,h3⟩,h4⟩:=h;subst h2 h3;cases hA:A.drop f.offset with
   | nil=>rw[hA] at he;cases hB:B.drop f.offset<;>rw[hB] at he<;>simp[eqT] at he
   | cons p A'=>
    cases hB:B.drop f.offset with
    | nil=>rw[hA,hB] at he;cases p<;>simp[eqT] at he
    | cons q B'=>
     have hA1:A[f.offset]? = some p:=by have:=congrArg (λl=>l[0]?) hA;simpa using this
     have hB1:B[f.offset]? = some q:=by have:=congrArg (λl=>l[0]?) hB;simpa using this
     have hA2:A.drop (f.offset+1)=A':=by rw[←List.drop_drop,hA];rfl
     have hB2:B.drop (f.offset+1)=B':=by rw[←List.drop_drop,hB];rfl
     have hAl:f.offset<A.length:=(Wp.1 hA1).1;have hBl:f.offset<B.length:=(Wp.1 hB1).1;have hpx:∀b,(T.und f.type).isA=some b->b=false->(part f.type xs f.offset).run P w=.ok (xs.getD f.offset undef) w:=λb hb hf=>by
      subst hf;simp[part,jP hT hb,hsx,hAl,Wk]
     have hpy:∀b,(T.und f.type).isA=some b->b=false->(part f.type ys f.offset).run P w=.ok (ys.getD f.offset undef) w:=λb hb hf=>by
      subst hf;simp[part,jP hT hb,hsy,hBl,Wk]
     have rx:=hx _ _ hA1;have ry:=hy _ _ hB1;have hk:=hT.und f.type;have ih':=λr' he'=>ih (f.offset+1) ts r' h4 he'
     rw[hA2,hB2] at ih';rw[hA,hB] at he;cases hu:T.und f.type<;>rw[hu] at hk<;>cases p<;>cases q<;>simp only[eqT,hu,reduceCtorEq] at he
     ·obtain ⟨r0,h0,rfl⟩:=W7.1 he;have e1:=rx.eC;have e2:=ry.eC;simp only[Op.eqFields,h1,not_false_eq_true,if_true,ne_eq,Sem.run_bind,hpx false WO rfl,hpy false WO rfl,Result.andThen_ok,e1,e2,run_equalIn_bool' w d f.type _ _ hk];rename_i b1 b2;cases hb:(b1==b2)
      ·simp
      ·simp[ih' r0 h0]
     ·split at he
      ·rename_i hkk;obtain ⟨r0,h0,rfl⟩:=W7.1 he;have e1:=rx.aG;have e2:=ry.aG;subst hkk;simp only[Op.eqFields,h1,not_false_eq_true,if_true,ne_eq,Sem.run_bind,hpx false WO rfl,hpy false WO rfl,Result.andThen_ok,e1,e2,run_equalIn_int w d f.type _ _ _ _ hk];rename_i b1 b2;cases hb:(b1==b2)
       ·simp
       ·simp[ih' r0 h0]
      ·cases he
     ·obtain ⟨r0,h0,rfl⟩:=W7.1 he;obtain ⟨s1,e1,q1⟩:=rx.fo;obtain ⟨s2,e2,q2⟩:=ry.fo;subst q1 q2;simp only[Op.eqFields,h1,not_false_eq_true,if_true,ne_eq,Sem.run_bind,hpx false WO rfl,hpy false WO rfl,Result.andThen_ok,e1,e2,run_equalIn_string w d f.type _ _ hk,ByteArray.toList_eq];cases hb:(s1.data.toList==s2.data.toList)
      ·simp
      ·simp[ih' r0 h0]
theorem Ct (hT:TabOK P T) {t:TypeId} {tys:List TypeId} (hc:rI P t tys=true) {ox oy:Operand} {v u:Value} {A B:List AV} {r:Bool} (h:eqT T tys A B=some r) (hv:Rd μ S w v (.agg A)) (hu:Rd μ S w u (.agg B)) {op:BinOp} {q:Bool} (hop:(op=.eql/\q=r)\/(op=.neq/\q=!r)) :
  (do eqGuard op t ox oy v u;binOp op t v u:Sem Value).run P w=.ok (.bool q) w:=by
 obtain ⟨xs,rfl,hxl,hxr⟩:=hv.my;obtain ⟨ys,rfl,hyl,hyr⟩:=hu.my;unfold rI at hc;split at hc
 ·rename_i F hF;simp only[Bool.and_eq_true,YU] at hc;obtain ⟨⟨h1,h2⟩,h3⟩:=hc;have hfo:P.fieldsOf t=F:=by simp[Program.fieldsOf,hF]
  have key:=vO (P:=P) (w:=w) hT hxl hyl hxr hyr 9998 F.toList 0 tys r h3 v8;have key2:(Op.equalIn 10000 t (.agg xs) (.agg ys)).run P w=.ok r w:=by
   rw[run_equalIn_struct w 9999 t xs ys (by rw[hfo];exact hF) h1,hfo];exact key
  rcases hop with ⟨rfl,rfl⟩ | ⟨rfl,rfl⟩
  ·simp[run_eqGuard_agg w .eql t ox oy xs ys h2,run_eql_struct w t xs ys,key2]
  ·simp[run_eqGuard_agg w .neq t ox oy xs ys h2,run_neq_struct w t xs ys,key2]
 ·cases hc
theorem sU (hT:TabOK P T) {o:Oper} {op:BinOp} {t ty:TypeId} {x y:Operand} (ho:o.op=.binOp op t x y ty) {tys:List TypeId} (hc:rI P t tys=true) {A B:List AV} {r:Bool} (hx:evS σ x=(True,.agg A)) (hy:evS σ y=(True,.agg B)) (h:eqT T tys A B=some r)
  {q:Bool} (hop:(op=.eql/\q=r)\/(op=.neq/\q=!r)):eZ P C o σ (σ.put o.dst (.bool q)):=by
 refine dR λμ S a w hi=>?_
 have hv:=hi.evS x s6;have hu:=hi.evS y Qi;rw[hx] at hv;rw[hy] at hu;refine ⟨.bool q,?_,.pure (.bool _)⟩;have:=Ct (ox:=x) (oy:=y) hT hc h hv hu hop;simp only[execOp,ho];have e:(do eqGuard op t x y (a.eval x) (a.eval y);binOp op t (a.eval x) (a.eval y):Sem Value).run P w=.ok (.bool q) w:=this;simp only[Sem.run_bind] at e ⊢
 revert e
 generalize (eqGuard op t x y (a.eval x) (a.eval y)).run P w=z;intro e;rw[e];rfl
attribute [go_sem] eqT
end
end Go.Eng
namespace Go.Eng
section
variable {P:Program} {T:Tab} {C:Ctx} {μ:Nat->Option Nat} {S:Nat->Prop} {σ σ':St} {a:Act} {w w':World} {Ret:St->Prop} {k:List It}
end
end Go.Eng
namespace Go.Eng
section
variable {P:Program} {T:Tab} {C:Ctx} {μ:Nat->Option Nat} {S:Nat->Prop} {σ σ':St} {Ret:St->Prop} {k:List It}
def pins (ids:List Nat) (G Y N:Nat->Nat):List (Nat×Blk):=ids.map λi=>(5000+i,.pin i (G i) (Y i) (N i))
theorem jO (G Y N:Nat->Nat) (i:Nat):∀(ids:List Nat),aa (pins ids G Y N) i=if 5000≤i/\ids.contains (i-5000)=true then some (.pin (i-5000) (G (i-5000)) (Y (i-5000)) (N (i-5000))) else none
 | []=>by simp[pins,aa]
 | j::r=>by
  have ih:=jO G Y N i r;simp only[pins,List.map_cons,aa] at ih ⊢
  by_cases e:5000+j=i
  ·subst e;rw[if_pos rfl,if_pos ⟨by omega,by rw[Ye];simp⟩,Ye]
  ·rw[if_neg e,ih]
   by_cases h:5000≤i
   ·have hne:i-5000≠j:=by omega
    simp only[h,true_and,List.contains_cons];simp[hne]
   ·rw[if_neg (λhh=>h hh.1),if_neg (λhh=>h hh.1)]
theorem eS (i:Nat):∀(K H:List (Nat×Blk)),(K.map (·.1)).Nodup->aa (cD H K) i=if (aa K i).isSome=true then aa K i else aa H i
 | [],H,_=>by simp[cD,aa]
 | (j,b)::r,H,hn=>by
  simp only[List.map_cons,List.nodup_cons] at hn;simp only[cD,aa];rw[eS i r _ hn.2,an]
  by_cases e:j=i
  ·subst e;have h0:aa r j=none:=by
    cases h:aa r j with
    | none=>rfl
    | some c=>exact absurd (Wq.2 ⟨_,bf h,rfl⟩) hn.1
   simp[h0]
  ·simp[e]
def fi:Blk->Bool
 | .cells _ s rows=>!rows.isEmpty&&s != 0
 | .map _=>true
 | _=>false
theorem DZ {w:World} {id:Nat} {b:Blk} (h:cQ μ S w id b) (hp:fi b=true):∃g t n,μ id=some g/\ah w g=tr t n:=by
 cases b with
 | cells e s rows=>
  simp only[fi,Bool.and_eq_true,YU,List.isEmpty_eq_false_iff,bne_iff_ne] at hp
  rcases h with ⟨rfl,_⟩ | ⟨g,c,h1,h2,h3,_⟩
  ·exact absurd rfl hp.1
  ·refine ⟨g,e,c.size,h1,?_⟩;have hpos:0<rows.length:=by
    rcases Nat.eq_zero_or_pos rows.length with h | h
    ·exact absurd (List.eq_nil_of_length_eq_zero h) hp.1
    ·exact h
   have:0<rows.length*s:=Nat.mul_pos hpos (Nat.pos_of_ne_zero hp.2);unfold ah tr;rw[h2,if_neg z8];rfl
 | map kvs=>
  obtain ⟨g,es,clk,vals,h1,h2,_⟩:=h;refine ⟨g,0,0,h1,?_⟩;unfold ah tr;rw[h2];rfl
 | iter kvs seen=>cases hp
 | cap id s N=>cases hp
 | pin id g t n=>cases hp
theorem dQ {o:Oper} {c:Operand} {args:Array Operand} {ats:Array TypeId} (ho:o.op=.call { callee:=.value c,args,argTypes:=ats }) {p:Prop} {f:FuncId} {xs:List AV}
  (h:ax σ c args.toList=some (p,f,xs)) (hp:p) (hc:aJ P f) (ids:List Nat) {H K:List (Nat×Blk)} {r:AV} (hH:sub ids σ.hp=H)
  (hck:((aC xs).all ids.contains&&(refs r).all ids.contains&&ids.all (λi=>decide (i<5000)&&(aa K i).isSome)&&K.all (λq=>ids.contains q.1))=true) (hnd:(K.map (·.1)).Nodup)
  (hpin:(ids.all λi=>match aa H i with | some b=>fi b | none=>false)=true) (hc1:(H.all λq=>(aB q.2).all ids.contains)=true) (hc2:(K.all λq=>(aB q.2).all ids.contains)=true)
  (hf:∀G Y N:Nat->Nat,ae P f xs (H++pins ids G Y N) λr' H'=>r'=r/\∀i b,aa (K++pins ids G Y N) i=some b->aa H' i=some b) {τ:St} (hτ:(⟨σ.tm,cD σ.hp K⟩:St).put o.dst r=τ):eZ P C o σ τ:=by
 subst hH hτ;simp only[Bool.and_eq_true] at hck;obtain ⟨⟨⟨hx,hr⟩,hi1⟩,hK1⟩:=hck;have hxr:∀i,i∈aC xs->ids.contains i=true:=λi h=>List.all_eq_true.1 hx i h
 have hrr:∀i,i∈refs r->ids.contains i=true:=λi h=>List.all_eq_true.1 hr i h
 have hid:∀i,ids.contains i=true->i<5000/\∃b,aa K i=some b:=λi h=>by
  have:=List.all_eq_true.1 hi1 i v8;rw[Bool.and_eq_true,decide_eq_true_eq] at this;exact ⟨this.1,YR.1 this.2⟩
 have hKi:∀i b,aa K i=some b->ids.contains i=true:=λi b h=>List.all_eq_true.1 hK1 _ (bf h)
 intro a w Kp Q ⟨μ,S,hi⟩ hKp;obtain ⟨vs,h1,h2,h3⟩:=jJ hi ho h hp hc;unfold Oper.wp;rw[h3];have hpn:∀i,∃g t n,ids.contains i=true->μ i=some g/\ah w g=tr t n:=λi=>by
  by_cases e:ids.contains i=true
  ·have:=List.all_eq_true.1 hpin i (by simpa using e);cases e2:aa (sub ids σ.hp) i with
   | none=>rw[e2] at this;cases this
   | some b=>
    rw[e2] at this;have e3:aa σ.hp i=some b:=by
     rw[dc,if_pos e] at e2;exact e2
    obtain ⟨g,t,n,k1,k2⟩:=DZ (hi.hp i b e3) this;exact ⟨g,t,n,λ_=>⟨k1,k2⟩⟩
  ·exact ⟨0,0,0,λh=>absurd h e⟩
 let G:Nat->Nat:=λi=>Classical.choose (hpn i)
 let Y:Nat->Nat:=λi=>Classical.choose (YP (hpn i))
 let N:Nat->Nat:=λi=>Classical.choose (YP (YP (hpn i)))
 have hg:∀i,ids.contains i=true->μ i=some (G i)/\ah w (G i)=tr (Y i) (N i):=λi=>YP (YP (YP (hpn i)))
 let μc:Nat->Option Nat:=λi=>if ids.contains i then μ i else none
 have mc:∀{i g},μc i=some g->ids.contains i=true/\μ i=some g:=fun {i g} h=>by
  simp only[μc] at h;split at h
  ·exact ⟨by assumption,h⟩
  ·cases h
 have mc':∀{i},ids.contains i=true->μc i=μ i:=fun {i} h=>by simp only[μc,h,if_true]
 have mcn:∀{i},ids.contains i=false->μc i=none:=fun {i} h=>by simp only[μc,h,Bool.false_eq_true,if_false]
 have hsubk:∀i b,aa (sub ids σ.hp) i=some b->ids.contains i=true/\aa σ.hp i=some b:=λi b h=>by
  rw[dc] at h;split at h
  ·exact ⟨by assumption,h⟩
  ·cases h
 refine (hf G Y N S μc w vs h1 (λj x hj=>(h2 j x hj).less λid hid g hg=>by rw[mc' (hxr id (a_ hj hid))];exact hg) ⟨λid b hb=>?_,λid g hg'=>?_,λid id' g hg hg'=>hi.inj id id' g (mc hg).2 (mc hg').2,hi.gok.sub λi g h=>⟨i,(mc h).2⟩⟩ (λb hb=>(hi.sb b hb).1)).mono ?_
 ·rw[aF] at hb;split at hb
  ·obtain ⟨q1,q2⟩:=hsubk id b hb;have hall:=List.all_eq_true.1 hc1 _ (bf hb);exact (hi.hp id b q2).less (mc' q1) (λi hi' g hg=>by rw[mc' (List.all_eq_true.1 hall i hi')];exact hg)
  ·rw[jO] at hb;split at hb
   ·rename_i hc5;injection hb with hb
    subst hb;have hno:ids.contains id=false:=by
     cases e:ids.contains id with
     | false=>rfl
     | true=>have:=(hid id e).1;omega
    exact ⟨mcn hno,by rw[mc' hc5.2];exact (hg _ hc5.2).1,(hg _ hc5.2).2⟩
   ·cases hb
 ·obtain ⟨k1,k2⟩:=mc hg';obtain ⟨⟨b,j1⟩,_,j3⟩:=hi.dom id g k2;refine ⟨⟨b,?_⟩,j3⟩;rw[aF,if_pos ⟨(id,b),bf (by rw[dc,if_pos k1];exact j1),rfl⟩,dc,if_pos k1];exact j1
 rintro e w' ⟨v,r',H',μ',S',rfl,⟨rfl,hKH⟩,k1,k2,k3,k4,k5⟩;have hKget:∀i b,aa K i=some b->aa H' i=some b:=λi b hb=>hKH i b (by
  rw[aF,if_pos ⟨(i,b),bf hb,rfl⟩];exact hb)
 have hPget:∀i,ids.contains i=true->aa H' (5000+i)=some (.pin i (G i) (Y i) (N i)):=λi hi'=>hKH _ _ (by
  rw[aF,if_neg (by
   rintro ⟨b,hb,hb2⟩;have:ids.contains b.1=true:=List.all_eq_true.1 hK1 b hb;have:=(hid _ this).1;omega),jO,if_pos ⟨by omega,by rw[Ye];exact hi'⟩,Ye])
 have hpin':∀i,ids.contains i=true->μ' i=some (G i)/\ah w' (G i)=tr (Y i) (N i):=λi hi'=>(k2.blk _ _ (hPget i hi')).2
 have hfr:Frm (λg=>∃id,μc id=some g) w w':=k3;have hS:aK S w w':=λb hb=>hfr.block b (hi.sb b hb).1 Qc
 have hO:∀i g,μ i=some g->ids.contains i=false->w'.heap[g]? = w.heap[g]?:=λi g hg hn=>hfr.block g (hi.dom i g hg).2.2.2 (by
  rintro ⟨id,h⟩;obtain ⟨q1,q2⟩:=mc h;have:=hi.inj _ _ _ hg q2;subst this;rw[q1] at hn;cases hn)
 have hz:∀i g,μ i=some g->ah w' g=ah w g:=λi g hg'=>by
  cases e:ids.contains i with
  | false=>exact aO (hO i g hg' e)
  | true=>
   obtain ⟨q1,q2⟩:=hg i e;rw[hg'] at q1;injection q1 with q1
   rw[q1,(hpin' i e).2,q2]
 let S2:Nat->Prop:=λb=>S b\/S' b
 have hrd:∀{v x},Rd μ S w v x->Rd μ S2 w' v x:=λhv=>hv.mono hS (λ_ h=>.inl h) (λ_ _ h=>h) hz
 have inv:Inv C μ S2 ⟨σ.tm,cD σ.hp K⟩ a w':=by
  refine ⟨hi.size,hi.defers,λt x hx=>hrd (hi.tm t x hx),λi b hb=>?_,λi g hg'=>?_,hi.inj,hi.frm.step _ hfr (λg ⟨id,h⟩=>(hi.dom id g (mc h).2).2.1),λb hb=>?_⟩
  ·rw[eS i K σ.hp hnd] at hb;split at hb
   ·have hib:=hKi i b hb;have hB:=k2.blk i b (hKget i b hb);have hall:=List.all_eq_true.1 hc2 _ (bf hb);have h1:cQ μ S' w' i b:=hB.less (by rw[(hg i hib).1,(hpin' i hib).1]) (λj hj q hq=>by
     have hjb:=List.all_eq_true.1 hall j hj;rw[(hpin' j hjb).1] at hq;rw[(hg j hjb).1];exact hq)
    exact h1.mono (aK.refl _ _) (λ_ h=>.inr h) (λ_ _ h=>h) (λ_ _ _=>rfl) (λh=>h) (λ_ _=>rfl)
   ·rename_i hno;have hib:ids.contains i=false:=by
     cases e:ids.contains i with
     | false=>rfl
     | true=>
      obtain ⟨_,c,hc'⟩:=hid i e;rw[hc'] at hno;exact absurd rfl hno
    exact (hi.hp i b hb).mono hS (λ_ h=>.inl h) (λ_ _ h=>h) hz (λh=>h) (λg hg'=>hO i g hg' hib)
  ·obtain ⟨⟨b,j1⟩,j2,j3,j4⟩:=hi.dom i g hg';refine ⟨?_,j2,?_,YN j4 hfr.size⟩
   ·rw[eS i K σ.hp hnd];split
    ·rename_i hs;exact YR.1 hs
    ·exact ⟨b,j1⟩
   ·rintro (h | h)
    ·exact j3 h
    ·cases e:ids.contains i with
     | true=>
      have:=(hg i e).1;rw[hg'] at this;injection this with this
      subst this;exact (k2.dom i _ (hpin' i e).1).2.1 h
     | false=>
      rcases (k5 g h).2 with q | ⟨id,q⟩ | q
      ·exact j3 q
      ·obtain ⟨q1,q2⟩:=mc q;have:=hi.inj _ _ _ hg' q2;subst this;rw[q1] at e;cases e
      ·omega
  ·rcases hb with h | h
   ·exact ⟨YN (hi.sb b h).1 hfr.size,(hi.sb b h).2⟩
   ·refine ⟨(k5 b h).1,?_⟩
    rcases (k5 b h).2 with q | ⟨id,q⟩ | q
    ·exact (hi.sb b q).2
    ·rcases (hi.dom id b (mc q).2).2.1 with z | z
     ·exact .inr (.inl z)
     ·exact .inr (.inr z)
    ·have:=hi.frm.size;exact .inr (.inr z8)
 refine hKp _ _ ⟨μ,S2,inv.put o.dst ?_⟩;have h1:Rd μ S' w' v r':=k1.less λi hi' g hg'=>by
  have hib:=hrr i hi';rw[(hpin' i hib).1] at hg';rw[(hg i hib).1];exact hg'
 exact h1.mono (aK.refl _ _) (λ_ h=>.inr h) (λ_ _ h=>h) (λ_ _ _=>rfl)
theorem kM {s:St} {t:TypeId}:∀{parts:List (Nat×Operand)},(∀q,q∈parts->evS s q.2=evS σ q.2)->kL T s t parts=kL T σ t parts
 | [],_=>rfl
 | (j,o)::r,h=>by
  simp only[kL];rw[h (j,o) y7,kM (λq hq=>h q (by simp[hq]))]
theorem Ck (hT:TabOK P T) {ops:Array Oper} {Q:Exit->Act->World->Prop} {k n:Nat} {acc:du} {o:Oper} {l:List Oper} {t:TypeId} {parts:Array (Nat×Operand)} (ho:o.op=.build t parts) {b:Bool} (hg:guardOf ops σ o.guard=some b)
  {p:Prop} {x:AV} (h:fm T σ t parts.toList=some (p,x)) (hp:b=true->p) {y:AV} (hy:(bif b then x else .cnd false x)=y)
  {sk:List Loc×List Loc} (hs:((Sp.mk o.dst y [] (bN ops o.guard++aS σ (parts.toList.map (·.2)))).wr,bN ops o.guard++aS σ (parts.toList.map (·.2)))=sk) (ha:σ.put o.dst y=σ') (hk:al P C ops Q k n (acc++[sk]) l σ'):al P C ops Q k n acc (o::l) σ:=by
 refine jn (gP (x:=y) (rd:=aS σ (parts.toList.map (·.2))) hg (by
  cases b
  ·exact .inr ⟨x,hy.symm⟩
  ·exact .inl rfl) (λhb s hag=>?_)) rfl (by rw[←hs]) Q3 hk
 subst hb;have hyx:x=y:=hy;subst hyx;have hb2:fm T s t parts.toList=some (p,x):=by
  rw[←h];unfold fm;rw[kM (λq hq=>cC λz hz=>hag z (dx (Wq.2 ⟨q,hq,rfl⟩) z hz))]
 refine bY hT o (p:=p) ?_ (hp rfl);rw[ho];simp only[ef,hb2,Option.map_some]
attribute [go_sem] pins fi
end
end Go.Eng
namespace Go.Eng
section
variable {P:Program} {T:Tab} {C:Ctx} {σ σ':St} {Ret:St->Prop} {k:List It} {μ:Nat->Option Nat} {S:Nat->Prop} {a:Act} {w:World}
theorem Rd.qP {v:Value} {id size off len cap:Nat} (h:Rd μ S w v (.exs id size off len cap)):∃g e n,v=.slice (some ⟨g,off*size,none⟩) len cap/\len≤cap/\μ id=some g/\ah w g=some (e,n)/\(off+cap)*size=n:=by
 cases h with
 | pure h=>cases h
 | exs _ _ _ _ _ g e n hc hg hr hn=>exact ⟨g,e,n,rfl,hc,hg,hr,hn⟩
theorem yI (hT:TabOK P T) {o:Oper} {x hi:Operand} {t e:TypeId} (ho:o.op=.slice t x none (some hi) none) (ht:T.und t=.sl e) {id s len h j N:Nat} (hx:evS σ x=(True,.osl id s 0 len)) (hh:evS σ hi=(True,.int .i64 (h:Nat)))
  (hcap:aa σ.hp j=some (.cap id s N)) (hN:h≤N) (h0:0<len) (hs:T.siz e=s) (hs0:s≠0):eZ P C o σ (σ.put o.dst (.exs id s 0 h N)):=by
 refine dR λμ S a w hi'=>?_
 have hv:=hi'.evS x s6;have hu:=hi'.evS hi Wc;rw[hx] at hv;rw[hh] at hu;obtain ⟨A,cap,hv',hc,hor⟩:=hv.bL;have hu':=hu.aG;have hty:P.underlying t=some (.slice e):=by have:=hT.und t;rw[ht] at this;exact this
 rcases hor with ⟨h1,_⟩ | ⟨g,n,m,h1,hA,h3,h4⟩
 ·omega
 ·obtain ⟨_,g',e',k1,k2⟩:=hi'.hp j _ hcap;rw[k1] at h1;injection h1 with h1;subst h1
  rw[h3] at k2;simp only[Option.some.injEq,Prod.mk.injEq] at k2;have hNc:0+cap=N:=Nat.eq_of_mul_eq_mul_right (Nat.pos_of_ne_zero hs0) (h4.trans k2.2);rw[W8] at hNc;subst hNc;subst hA;have hrun:(Instr.sliceAt t (.slice (some ⟨g',0*s,none⟩) len cap) none (some (.int .i64 (h:Nat))) none).run P w=.ok (.slice (some ⟨g',0*s,none⟩) h cap) w:=by
   have hb:=fw (P:=P) (w:=w) true len cap 0 h none (some (.int .i64 (h:Nat))) (show fG none 0 0 from rfl) (show fG (some (.int .i64 (h:Nat))) len h from ⟨.i64,rfl⟩) (Yd _) z8
   by_cases hc0:cap=0
   ·subst hc0;simp[Instr.sliceAt,Instr.slice,run_underlying hty,hb,bs hT (t:=e) Qu]
   ·simp[Instr.sliceAt,Instr.slice,run_underlying hty,hb,bs hT (t:=e) Qu,hc0,Addr.add]
  refine ⟨.slice (some ⟨g',0*s,none⟩) h cap,?_,.exs id s 0 h cap g' n m z8 k1 h3 h4⟩;have e1:a.eval x=.slice (some ⟨g',0*s,none⟩) len cap:=hv';have e2:a.eval hi=.int .i64 (h:Nat):=hu';simp only[execOp,ho,e1,Option.map_none,Option.map_some,e2,Sem.run_bind,hrun];rfl
theorem tB (hT:TabOK P T) {o:Oper} {x y:Operand} {t e:TypeId} (ho:o.op=.call { callee:=.builtin .append,args:=#[x,y],argTypes:=#[t,t] }) (ht:T.und t=.sl e)
  {id s i j m N e':Nat} {R:List (List AV)} (hx:evS σ x=(True,.exs id s 0 i N)) (hy:evS σ y=(True,.osl id s j m)) (hb:aa σ.hp id=some (.cells e' s R)) (hj:j+m≤R.length) (hij:i+m≤R.length) (hN:i+m≤N)
  (hs:T.siz e=s) (hs0:s≠0) (hrl:rowsOf s R) (hlf':fj ((R.drop j).take m)=true) :
  eZ P C o σ (St.put ⟨σ.tm,aQ σ.hp id (.cells e' s (aX R i ((R.drop j).take m)))⟩ o.dst (.exs id s 0 (i+m) N)):=by
 subst hs;intro a w K Q ⟨μ,S,hi⟩ hK;have hv:=hi.evS x s6;have hvy:=hi.evS y Qi;rw[hx] at hv;rw[hy] at hvy;have hty:P.underlying t=some (.slice e):=by have:=hT.und t;rw[ht] at this;exact this
 obtain ⟨g,e2,n,hv',hc,hg,h3,h4⟩:=hv.qP;have hrows:((R.drop j).take m).length=m:=by simp;omega
 have hrl':rowsOf (T.siz e) ((R.drop j).take m):=λrow hr=>hrl row (YB (Wx hr))
 obtain ⟨vs,hvs⟩:=kX hi (x:=.osl id (T.siz e) j m) (rows:=(R.drop j).take m) (size:=T.siz e) (by simp[dP,hb]) hvy hrl' (λ_ _ _ _ h=>by injection h with _ _ _ h;rw[hrows,h]);have hr:=gy (ty:=o.type) (A:=some ⟨g,0*T.siz e,none⟩) (len:=i) (cap:=N) hT hty hs0 hvs (by rw[hrows];exact hN);rw[hrows] at hr;obtain ⟨w',r1,r2⟩:=kZ (P:=P) hi (off:=i) (new:=(R.drop j).take m) (vs:=vs) hb hg (by rw[hrows];exact hij) hvs.len hrl' (pG hvs hlf') (λi row hi j x hx=>hvs.rd i row hi j x hx);have hfr:(execOp a.eval o).run P w=.ok (.value (.slice (some ⟨g,0*T.siz e,none⟩) (i+m) N)) w':=by
  have e1:a.eval x=.slice (some ⟨g,0*T.siz e,none⟩) i N:=hv';simp only[Nat.zero_mul,add_plain,W8,r1,Result.andThen_ok] at hr;simp only[Nat.zero_mul] at e1 ⊢;simp[execOp,ho,e1,resolve,invoke,builtin,hr]
 have he:evS ⟨σ.tm,aQ σ.hp id (.cells e' (T.siz e) (aX R i ((R.drop j).take m)))⟩ x=evS σ x:=by cases x<;>rfl
 have hv2:=r2.evS x (by rw[he,hx];trivial);rw[he,hx] at hv2;obtain ⟨g2,e3,n2,hv3,_,hg2,h5,h6⟩:=hv2.qP;unfold Oper.wp;rw[hfr]
 show K (a.put o.dst _) _
 rw[hg] at hg2;injection hg2 with hg2;subst hg2
 exact hK _ _ ⟨μ,S,Inv.put r2 o.dst (.exs id _ 0 (i+m) N g e3 n2 hN hg h5 h6)⟩
theorem FI (d:Nat) {id s off len e':Nat} {rows:List (List AV)} {t:Nat} (hx:σ.tm.getD t .any=.osl id s off len) (hb:aa σ.hp id=some (.cells e' s rows)) (h0:0<len) (hs:s≠0) (hf:aa σ.hp d=none)
  (h:∀N:Nat,off+len≤N->rows.length≤N->Cw P C Ret k ⟨σ.tm,(d,.cap id s N)::σ.hp⟩):Cw P C Ret k σ:=by
 intro a w ⟨μ,S,hi⟩;have hlt:t<σ.tm.length:=by
  by_cases h:t<σ.tm.length
  ·exact h
  ·rw[Wi,List.getElem?_eq_none z8] at hx;cases hx
 have hv:=hi.tm t (σ.tm.getD t .any) (by rw[Wi,Wj hlt];rfl);rw[hx] at hv;obtain ⟨A,cap,hv',hc,hor⟩:=hv.bL
 rcases hor with ⟨h1,_⟩ | ⟨g,n,m,h1,_,h3,h4⟩
 ·omega
 ·have hle:rows.length≤off+cap:=by
   rcases hi.hp id _ hb with ⟨rfl,_⟩ | ⟨g',c,k1,k2,k3,_⟩
   ·simp
   ·rw[k1] at h1;injection h1 with h1;subst h1
    rw[ah,k2] at h3;simp only[Option.some.injEq,Prod.mk.injEq] at h3;exact Nat.le_of_mul_le_mul_right (by rw[h4,←h3.2];exact k3) (Nat.pos_of_ne_zero hs)
  refine h (off+cap) z8 hle a w ⟨μ,S,hi.size,hi.defers,hi.tm,λi b hb'=>?_,λi q hq=>?_,hi.inj,hi.frm,hi.sb⟩
  ·simp only[aa] at hb';split at hb'
   ·rename_i hd;injection hb' with hb'
    subst hd hb';exact ⟨hi.fresh hf,g,n,h1,by rw[h3,h4]⟩
   ·exact hi.hp i b hb'
  ·obtain ⟨⟨b,h1⟩,h2⟩:=hi.dom i q hq;refine ⟨?_,h2⟩;simp only[aa];split
   ·exact ⟨_,rfl⟩
   ·exact ⟨b,h1⟩
theorem yH (hT:TabOK P T) {o:Oper} {x lo hi mx:Operand} {t e:TypeId} (ho:o.op=.slice t x (some lo) (some hi) (some mx)) (ht:T.und t=.sl e) {id s off len l h m:Nat} (hx:evS σ x=(True,.osl id s off len))
  (hl:evS σ lo=(True,.int .i64 (l:Nat))) (hh:evS σ hi=(True,.int .i64 (h:Nat))) (hm:evS σ mx=(True,.int .i64 (m:Nat))) (h1:l≤h) (h2:h≤m) (h3:m≤len) (h0:0<len) (hs:T.siz e=s) (hs0:s≠0):eZ P C o σ (σ.put o.dst .any):=by
 refine dR λμ S a w hi'=>?_
 have hv:=hi'.evS x s6;have hu1:=hi'.evS lo (by rw[hl];trivial);have hu2:=hi'.evS hi Wc;have hu3:=hi'.evS mx (by rw[hm];trivial);rw[hx] at hv;rw[hl] at hu1;rw[hh] at hu2;rw[hm] at hu3;obtain ⟨A,cap,hv',hc,hor⟩:=hv.bL;have hty:P.underlying t=some (.slice e):=by have:=hT.und t;rw[ht] at this;exact this
 rcases hor with ⟨h1,_⟩ | ⟨g,n,m',k1,hA,k3,k4⟩
 ·omega
 ·subst hA;have hb:(Instr.sliceBounds true len cap (some (.int .i64 (l:Nat))) (some (.int .i64 (h:Nat))) (some (.int .i64 (m:Nat)))).run P w=.ok (l,h,m) w:=by
   simp[Instr.sliceBounds,Instr.sliceBound,asIntOf,h1,h2,show m≤cap by omega]
  have e1:a.eval x=.slice (some ⟨g,off*s,none⟩) len cap:=hv';have e2:a.eval lo=.int .i64 (l:Nat):=hu1.aG;have e3:a.eval hi=.int .i64 (h:Nat):=hu2.aG;have e4:a.eval mx=.int .i64 (m:Nat):=hu3.aG
  by_cases hml:m=l
  ·subst hml;exact ⟨.slice (some ⟨g,off*s,none⟩) (h-m) (m-m),by simp[execOp,ho,e1,e2,e3,e4,Instr.sliceAt,Instr.slice,run_underlying hty,hb,bs hT (t:=e) Qu],.any _⟩
  ·exact ⟨.slice (some (Addr.add ⟨g,off*s,none⟩ (l*T.siz e))) (h-l) (m-l),by simp[execOp,ho,e1,e2,e3,e4,Instr.sliceAt,Instr.slice,run_underlying hty,hb,bs hT (t:=e) Qu,hml],.any _⟩
theorem Ae (hT:TabOK P T) {ops:Array Oper} {Q:Exit->Act->World->Prop} {k n:Nat} {acc:du} {o:Oper} {L:List Oper} {x hi:Operand} {t e:TypeId} (ho:o.op=.slice t x none (some hi) none) (hgd:o.guard=none) (ht:T.und t=.sl e) {id s len h j N:Nat}
  (hx:evS σ x=(True,.osl id s 0 len)) (hh:evS σ hi=(True,.int .i64 (h:Nat))) (hcap:aa σ.hp j=some (.cap id s N)) (hN:h≤N) (h0:0<len) (hs:T.siz e=s) (hs0:s≠0)
  {sk:List Loc×List Loc} (hsk:((Sp.mk o.dst (.exs id s 0 h N) [] (aS σ [x,hi]++[Loc.blk j])).wr,aS σ [x,hi]++[Loc.blk j])=sk) (ha:σ.put o.dst (.exs id s 0 h N)=σ') (hk:al P C ops Q k n (acc++[sk]) L σ'):al P C ops Q k n acc (o::L) σ:=by
 have hgd':guardOf ops σ o.guard=some true:=by rw[hgd];rfl
 have key:=gP (P:=P) (C:=C) (o:=o) (ops:=ops) (x:=.exs id s 0 h N) (rd:=aS σ [x,hi]++[Loc.blk j]) hgd' (.inl rfl) (λ_ s' hag=>by
  have h1:evS s' x=evS σ x:=cC λz hz=>hag z (by simp[aS,hz])
  have h2:evS s' hi=evS σ hi:=cC λz hz=>hag z (by simp[aS,hz])
  have h3:aa s'.hp j=aa σ.hp j:=hag (Loc.blk j) y7;exact yI hT ho ht (h1.trans hx) (h2.trans hh) (h3.trans hcap) hN h0 hs hs0)
 have e0:bN ops o.guard=[]:=by rw[hgd];rfl
 rw[e0,List.nil_append] at key;exact jn key rfl (by rw[←hsk]) Q3 hk
theorem vX (hT:TabOK P T) {o:Oper} {x lo hi:Operand} {t e:TypeId} (ho:o.op=.slice t x (some lo) (some hi) none) (ht:T.und t=.sl e) {id s len cap l h:Nat} (hx:evS σ x=(True,.exs id s 0 len cap)) (hl:evS σ lo=(True,.int .i64 (l:Nat))) (hh:evS σ hi=(True,.int .i64 (h:Nat)))
  (h1:l<h) (h2:h≤cap) (hs:T.siz e=s) (hs0:s≠0):eZ P C o σ (σ.put o.dst (.osl id s l (h-l))):=by
 refine dR λμ S a w hi'=>?_
 have hv:=hi'.evS x s6;have hu1:=hi'.evS lo (by rw[hl];trivial);have hu2:=hi'.evS hi Wc;rw[hx] at hv;rw[hl] at hu1;rw[hh] at hu2;obtain ⟨g,n,m,hv',hc,k1,k3,k4⟩:=hv.qP;have hty:P.underlying t=some (.slice e):=by have:=hT.und t;rw[ht] at this;exact this
 have hb:=fw (P:=P) (w:=w) true len cap l h (some (.int .i64 (l:Nat))) (some (.int .i64 (h:Nat))) (show fG (some (.int .i64 (l:Nat))) 0 l from ⟨.i64,rfl⟩) (show fG (some (.int .i64 (h:Nat))) len h from ⟨.i64,rfl⟩) z8 h2;have e1:a.eval x=.slice (some ⟨g,0*s,none⟩) len cap:=hv';have e2:a.eval lo=.int .i64 (l:Nat):=hu1.aG;have e3:a.eval hi=.int .i64 (h:Nat):=hu2.aG;have hcl:cap≠l:=by omega
 refine ⟨.slice (some (Addr.add ⟨g,0*s,none⟩ (l*s))) (h-l) (cap-l),by simp[execOp,ho,e1,e2,e3,Instr.sliceAt,Instr.slice,run_underlying hty,hb,bs hT (t:=e) Qu,hs,hcl],?_⟩;refine .osl id s l (h-l) (cap-l) _ z8 (.inr ⟨g,n,m,k1,by rw[add_plain,Nat.zero_mul,W8],k3,?_⟩);rw[←k4]
 congr 1;omega
theorem Ex {o:Oper} {x y:Operand} {ts:Array TypeId} (ho:o.op=.call { callee:=.builtin .max,args:=#[x,y],argTypes:=ts }) {k k':IntKind} {n m:Int} (hx:evS σ x=(True,.int k n)) (hy:evS σ y=(True,.int k' m)) :
  eZ P C o σ (σ.put o.dst (.int k (if m>n then m else n))):=by
 refine dR λμ S a w hi'=>?_
 have hv:=hi'.evS x s6;have hu:=hi'.evS y Qi;rw[hx] at hv;rw[hy] at hu;have e1:a.eval x=.int k n:=hv.aG;have e2:a.eval y=.int k' m:=hu.aG;exact ⟨_,by simp[execOp,ho,e1,e2,resolve,invoke,builtin,run_max_int2],.pure (.int _ _)⟩
theorem vP {ops:Array Oper} {Q:Exit->Act->World->Prop} {k n:Nat} {acc:du} {o:Oper} {L:List Oper} {x y:Operand} {ts:Array TypeId} (ho:o.op=.call { callee:=.builtin .max,args:=#[x,y],argTypes:=ts }) (hgd:o.guard=none) {q q':IntKind} {u v:Int}
  (hx:evS σ x=(True,.int q u)) (hy:evS σ y=(True,.int q' v))
  {sk:List Loc×List Loc} (hsk:((Sp.mk o.dst (.int q (if v>u then v else u)) [] (aS σ [x,y])).wr,aS σ [x,y])=sk) (ha:σ.put o.dst (.int q (if v>u then v else u))=σ') (hk:al P C ops Q k n (acc++[sk]) L σ'):al P C ops Q k n acc (o::L) σ:=by
 have hgd':guardOf ops σ o.guard=some true:=by rw[hgd];rfl
 have key:=gP (P:=P) (C:=C) (o:=o) (ops:=ops) (x:=.int q (if v>u then v else u)) (rd:=aS σ [x,y]) hgd' (.inl rfl) (λ_ s' hag=>by
  have h1:evS s' x=evS σ x:=cC λz hz=>hag z (by simp[aS,hz])
  have h2:evS s' y=evS σ y:=cC λz hz=>hag z (by simp[aS,hz])
  exact Ex ho (h1.trans hx) (h2.trans hy))
 have e0:bN ops o.guard=[]:=by rw[hgd];rfl
 rw[e0,List.nil_append] at key;exact jn key rfl (by rw[←hsk]) Q3 hk
theorem DI (t:Nat) {id s off len cap:Nat} (h:σ.tm.getD t .any=.exs id s off len cap):Le C σ ⟨σ.tm.set t (.osl id s off len),σ.hp⟩:=by
 intro a w ⟨μ,S,hi⟩;refine ⟨μ,S,by simpa using hi.size,hi.defers,λu x hx=>?_,hi.hp,hi.dom,hi.inj,hi.frm,hi.sb⟩;rw[YA] at hx;split at hx
 ·rename_i e;subst e;split at hx
  ·rename_i hlt;injection hx with hx
   subst hx;have:=hi.tm t (σ.tm.getD t .any) (by rw[Wi,Wj hlt];rfl);rw[h] at this;obtain ⟨g,e,n,h1,h2,h3,h4,h5⟩:=this.qP;rw[h1];exact .osl id s off len cap _ h2 (.inr ⟨g,e,n,h3,rfl,h4,h5⟩)
  ·cases hx
 ·exact hi.tm u x hx
end
end Go.Eng
namespace Go.Eng
def gX (f:Nat->Nat) (e:Edge):Edge:=⟨f e.on,e.ground⟩
section
variable {P:Program} {C:Ctx} {σ σ':St}
def uL (id s:Nat):AV->AV
 | .nils=>.osl id s 0 0
 | x=>x
theorem AE (id s:Nat) (x:AV):wk x (uL id s x):=by
 cases x
 case nils=>exact .inr (.inr ⟨rfl,.inr ⟨id,s,0,rfl⟩⟩)
 all_goals exact .inr (.inl rfl)
theorem AY (id' s' id:Nat) {e s:Nat} {rows rows':List (List AV)} (hb:aa σ.hp id=some (.cells e s rows)) (hr:rows.map (λrow=>row.map (uL id' s'))=rows'):Le C σ ⟨σ.tm,aQ σ.hp id (.cells e s rows')⟩:=by
 subst hr;rintro a w ⟨μ,S,hi⟩;refine ⟨μ,S,hi.size,hi.defers,hi.tm,λi b hb'=>?_,λi q hq=>?_,hi.inj,hi.frm,hi.sb⟩
 ·simp only[an] at hb';split at hb'
  ·rename_i h1;injection hb' with hb'
   subst h1 hb'
   rcases hi.hp id _ hb with ⟨rfl,k2⟩ | ⟨g,c,k1,k2,k3,k4,k5⟩
   ·exact .inl ⟨by simp,k2⟩
   ·refine .inr ⟨g,c,k1,k2,by rw[List.length_map];exact k3,λrow hrow=>?_,λi row hi' q x hx=>?_⟩
    ·obtain ⟨r0,h0,rfl⟩:=Wq.1 hrow;rw[List.length_map];exact k4 r0 h0
    ·rw[Wm] at hi';cases e0:rows[i]? with
     | none=>rw[e0] at hi';cases hi'
     | some r0=>
      rw[e0] at hi';simp only[Option.map_some,Option.some.injEq] at hi';subst hi';rw[Wm] at hx;cases e1:r0[q]? with
      | none=>rw[e1] at hx;cases hx
      | some y=>
       rw[e1] at hx;simp only[Option.map_some,Option.some.injEq] at hx;subst hx;exact (k5 i r0 e0 q y e1).wk (AE id' s' y)
  ·exact hi.hp i b hb'
 ·obtain ⟨⟨b,h1⟩,h2⟩:=hi.dom i q hq;refine ⟨?_,h2⟩;simp only[an];split
  ·exact ⟨_,rfl⟩
  ·exact ⟨b,h1⟩
theorem jf {ops:Array Oper} {Q:Exit->Act->World->Prop} {k:Nat} (h:Le C σ σ') (hk:bp P C ops Q k σ'):bp P C ops Q k σ:=λa w hr=>hk a w (h a w hr)
end
attribute [go_sem] uL
end Go.Eng
