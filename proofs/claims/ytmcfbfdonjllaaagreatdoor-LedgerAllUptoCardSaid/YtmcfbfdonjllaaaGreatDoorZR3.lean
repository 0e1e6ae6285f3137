/- Texts of this claim, part 3: EngAG, EngAH, EngAI, EngAJ, EngAK, EngAL, Wd, Cmp, Ins, Own, Find, Put, PEnt, ModK, Ent, OwnH, Nam, PLog, Logs, Nrm, EngAM, EngAO, EngAQ, EngAR, EngAP, EngAS, EngAT, PNames, PSplit, EngAU, EngAV, EngAW. No condition. -/
import Derived.Test.YtmcfbfdonjllaaaGreatDoorZR2
import Derived.Laws.IdiomRangeMap
import Derived.Laws.IdiomStrings
import Derived.Lib.SplitLaws
import Derived.Lib.Join
set_option maxRecDepth 10000
set_option maxHeartbeats 4000000
set_option linter.unusedSimpArgs false
set_option linter.unusedVariables false
namespace Go.Eng
section
variable {P:Program} {T:Tab} {C:Ctx} {σ σ':St} {Ret:St->Prop} {k:List It} {μ:Nat->Option Nat} {S:Nat->Prop} {a:Act} {w:World}
theorem Rd.sy {v:Value} {id size off len cap:Nat} (h:Rd μ S w v (.exs id size off len cap)):∃g e n,v=.slice (some ⟨g,off*size,none⟩) len cap/\len<=cap/\μ id=some g/\ag w g=some (e,n)/\(off+cap)*size=n:=by
 cases h with
 | pure h=>cases h
 | exs _ _ _ _ _ g e n hc hg hr hn=>exact ⟨g,e,n,rfl,hc,hg,hr,hn⟩
theorem A7 (hT:TabOK P T) {o:Oper} {x hi:Operand} {t e:TypeId} (ho:o.op=.slice t x none (some hi) none) (ht:T.und t=.sl e) {id s len h j N:Nat} (hx:evS σ x=(True,.osl id s 0 len)) (hh:evS σ hi=(True,.int .i64 (h:Nat)))
  (hcap:aa σ.hp j=some (.cap id s N)) (hN:h<=N) (h0:0<len) (hs:T.siz e=s) (hs0:s≠0):eP P C o σ (σ.put o.dst (.exs id s 0 h N)):=by
 refine ec λμ S a w hi'=>?_
 have hv:=hi'.evS x u7;have hu:=hi'.evS hi Ws;rw[hx] at hv;rw[hh] at hu;obtain ⟨A,cap,hv',hc,hor⟩:=hv.bZ;have hu':=hu.aL;have hty:P.underlying t=some (.slice e):=by have:=hT.und t;rw[ht] at this;exact this
 rcases hor with ⟨h1,_⟩ | ⟨g,n,m,h1,hA,h3,h4⟩
 ·omega
 ·obtain ⟨_,g',e',k1,k2⟩:=hi'.hp j _ hcap;rw[k1] at h1;injection h1 with h1;subst h1
  rw[h3] at k2;simp only[gL,gM] at k2;have hNc:0+cap=N:=Nat.eq_of_mul_eq_mul_right (Nat.pos_of_ne_zero hs0) (h4.trans k2.2);rw[Yc] at hNc;subst hNc;subst hA;have hrun:(Instr.sliceAt t (.slice (some ⟨g',0*s,none⟩) len cap) none (some (.int .i64 (h:Nat))) none).run P w=.ok (.slice (some ⟨g',0*s,none⟩) h cap) w:=by
   have hb:=fN (P:=P) (w:=w) true len cap 0 h none (some (.int .i64 (h:Nat))) (show gf none 0 0 from rfl) (show gf (some (.int .i64 (h:Nat))) len h from ⟨.i64,rfl⟩) (Yp _) z8
   by_cases hc0:cap=0
   ·subst hc0;simp[Instr.sliceAt,Instr.slice,run_underlying hty,hb,bD hT (t:=e) Qz]
   ·simp[Instr.sliceAt,Instr.slice,run_underlying hty,hb,bD hT (t:=e) Qz,hc0,Addr.add]
  refine ⟨.slice (some ⟨g',0*s,none⟩) h cap,?_,.exs id s 0 h cap g' n m z8 k1 h3 h4⟩;have e1:a.eval x=.slice (some ⟨g',0*s,none⟩) len cap:=hv';have e2:a.eval hi=.int .i64 (h:Nat):=hu';simp only[execOp,ho,e1,Option.map_none,Option.map_some,e2,Sem.run_bind,hrun];rfl
theorem vw (hT:TabOK P T) {o:Oper} {x y:Operand} {t e:TypeId} (ho:o.op=.call { callee:=.builtin .append,args:=#[x,y],argTypes:=#[t,t] }) (ht:T.und t=.sl e)
  {id s i j m N e':Nat} {R:List (List AV)} (hx:evS σ x=(True,.exs id s 0 i N)) (hy:evS σ y=(True,.osl id s j m)) (hb:aa σ.hp id=some (.cells e' s R)) (hj:j+m<=R.length) (hij:i+m<=R.length) (hN:i+m<=N)
  (hs:T.siz e=s) (hs0:s≠0) (hrl:rowsOf s R) (hlf':ek ((R.drop j).take m)=true) :
  eP P C o σ (St.put ⟨σ.tm,aG σ.hp id (.cells e' s (aZ R i ((R.drop j).take m)))⟩ o.dst (.exs id s 0 (i+m) N)):=by
 subst hs;intro a w K Q ⟨μ,S,hi⟩ hK;have hv:=hi.evS x u7;have hvy:=hi.evS y Qk;rw[hx] at hv;rw[hy] at hvy;have hty:P.underlying t=some (.slice e):=by have:=hT.und t;rw[ht] at this;exact this
 obtain ⟨g,e2,n,hv',hc,hg,h3,h4⟩:=hv.sy;have hrows:((R.drop j).take m).length=m:=by simp;omega
 have hrl':rowsOf (T.siz e) ((R.drop j).take m):=λrow hr=>hrl row (YY (YF hr))
 obtain ⟨vs,hvs⟩:=ma hi (x:=.osl id (T.siz e) j m) (rows:=(R.drop j).take m) (size:=T.siz e) (by simp[cW,hb]) hvy hrl' (λ_ _ _ _ h=>by injection h with _ _ _ h;rw[hrows,h]);have hr:=ik (ty:=o.type) (A:=some ⟨g,0*T.siz e,none⟩) (len:=i) (cap:=N) hT hty hs0 hvs (by rw[hrows];exact hN);rw[hrows] at hr;obtain ⟨w',r1,r2⟩:=mb (P:=P) hi (off:=i) (new:=(R.drop j).take m) (vs:=vs) hb hg (by rw[hrows];exact hij) hvs.len hrl' (q_ hvs hlf') (λi row hi j x hx=>hvs.rd i row hi j x hx);have hfr:(execOp a.eval o).run P w=.ok (.value (.slice (some ⟨g,0*T.siz e,none⟩) (i+m) N)) w':=by
  have e1:a.eval x=.slice (some ⟨g,0*T.siz e,none⟩) i N:=hv';simp only[Nat.zero_mul,add_plain,Yc,r1,Result.andThen_ok] at hr;simp only[Nat.zero_mul] at e1 ⊢;simp[execOp,ho,e1,resolve,invoke,builtin,hr]
 have he:evS ⟨σ.tm,aG σ.hp id (.cells e' (T.siz e) (aZ R i ((R.drop j).take m)))⟩ x=evS σ x:=by cases x<;>rfl
 have hv2:=r2.evS x (by rw[he,hx];trivial);rw[he,hx] at hv2;obtain ⟨g2,e3,n2,hv3,_,hg2,h5,h6⟩:=hv2.sy;unfold Oper.wp;rw[hfr]
 show K (a.put o.dst _) _
 rw[hg] at hg2;injection hg2 with hg2;subst hg2
 exact hK _ _ ⟨μ,S,Inv.put r2 o.dst (.exs id _ 0 (i+m) N g e3 n2 hN hg h5 h6)⟩
theorem IJ (d:Nat) {id s off len e':Nat} {rows:List (List AV)} {t:Nat} (hx:σ.tm.getD t .any=.osl id s off len) (hb:aa σ.hp id=some (.cells e' s rows)) (h0:0<len) (hs:s≠0) (hf:aa σ.hp d=none)
  (h:∀N:Nat,off+len<=N->rows.length<=N->Cw P C Ret k ⟨σ.tm,(d,.cap id s N)::σ.hp⟩):Cw P C Ret k σ:=by
 intro a w ⟨μ,S,hi⟩;have hlt:t<σ.tm.length:=by
  by_cases h:t<σ.tm.length
  ·exact h
  ·rw[List.getD_eq_getElem?_getD,List.getElem?_eq_none z8] at hx;cases hx
 have hv:=hi.tm t (σ.tm.getD t .any) (by rw[List.getD_eq_getElem?_getD,Wz hlt];rfl);rw[hx] at hv;obtain ⟨A,cap,hv',hc,hor⟩:=hv.bZ
 rcases hor with ⟨h1,_⟩ | ⟨g,n,m,h1,_,h3,h4⟩
 ·omega
 ·have hle:rows.length<=off+cap:=by
   rcases hi.hp id _ hb with ⟨rfl,_⟩ | ⟨g',c,k1,k2,k3,_⟩
   ·simp
   ·rw[k1] at h1;injection h1 with h1;subst h1
    rw[ag,k2] at h3;simp only[gL,gM] at h3;exact Nat.le_of_mul_le_mul_right (by rw[h4,<-h3.2];exact k3) (Nat.pos_of_ne_zero hs)
  refine h (off+cap) z8 hle a w ⟨μ,S,hi.size,hi.defers,hi.tm,λi b hb'=>?_,λi q hq=>?_,hi.inj,hi.frm,hi.sb⟩
  ·simp only[aa] at hb';split at hb'
   ·rename_i hd;injection hb' with hb'
    subst hd hb';exact ⟨hi.fresh hf,g,n,h1,by rw[h3,h4]⟩
   ·exact hi.hp i b hb'
  ·obtain ⟨⟨b,h1⟩,h2⟩:=hi.dom i q hq;refine ⟨?_,h2⟩;simp only[aa];split
   ·exact ⟨_,rfl⟩
   ·exact ⟨b,h1⟩
theorem A6 (hT:TabOK P T) {o:Oper} {x lo hi mx:Operand} {t e:TypeId} (ho:o.op=.slice t x (some lo) (some hi) (some mx)) (ht:T.und t=.sl e) {id s off len l h m:Nat} (hx:evS σ x=(True,.osl id s off len))
  (hl:evS σ lo=(True,.int .i64 (l:Nat))) (hh:evS σ hi=(True,.int .i64 (h:Nat))) (hm:evS σ mx=(True,.int .i64 (m:Nat))) (h1:l<=h) (h2:h<=m) (h3:m<=len) (h0:0<len) (hs:T.siz e=s) (hs0:s≠0):eP P C o σ (σ.put o.dst .any):=by
 refine ec λμ S a w hi'=>?_
 have hv:=hi'.evS x u7;have hu1:=hi'.evS lo (by rw[hl];trivial);have hu2:=hi'.evS hi Ws;have hu3:=hi'.evS mx (by rw[hm];trivial);rw[hx] at hv;rw[hl] at hu1;rw[hh] at hu2;rw[hm] at hu3;obtain ⟨A,cap,hv',hc,hor⟩:=hv.bZ;have hty:P.underlying t=some (.slice e):=by have:=hT.und t;rw[ht] at this;exact this
 rcases hor with ⟨h1,_⟩ | ⟨g,n,m',k1,hA,k3,k4⟩
 ·omega
 ·subst hA;have hb:(Instr.sliceBounds true len cap (some (.int .i64 (l:Nat))) (some (.int .i64 (h:Nat))) (some (.int .i64 (m:Nat)))).run P w=.ok (l,h,m) w:=by
   simp[Instr.sliceBounds,Instr.sliceBound,asIntOf,h1,h2,show m<=cap by omega]
  have e1:a.eval x=.slice (some ⟨g,off*s,none⟩) len cap:=hv';have e2:a.eval lo=.int .i64 (l:Nat):=hu1.aL;have e3:a.eval hi=.int .i64 (h:Nat):=hu2.aL;have e4:a.eval mx=.int .i64 (m:Nat):=hu3.aL
  by_cases hml:m=l
  ·subst hml;exact ⟨.slice (some ⟨g,off*s,none⟩) (h-m) (m-m),by simp[execOp,ho,e1,e2,e3,e4,Instr.sliceAt,Instr.slice,run_underlying hty,hb,bD hT (t:=e) Qz],.any _⟩
  ·exact ⟨.slice (some (Addr.add ⟨g,off*s,none⟩ (l*T.siz e))) (h-l) (m-l),by simp[execOp,ho,e1,e2,e3,e4,Instr.sliceAt,Instr.slice,run_underlying hty,hb,bD hT (t:=e) Qz,hml],.any _⟩
theorem Ck (hT:TabOK P T) {ops:Array Oper} {Q:Exit->Act->World->Prop} {k n:Nat} {acc:dA} {o:Oper} {L:List Oper} {x hi:Operand} {t e:TypeId} (ho:o.op=.slice t x none (some hi) none) (hgd:o.guard=none) (ht:T.und t=.sl e) {id s len h j N:Nat}
  (hx:evS σ x=(True,.osl id s 0 len)) (hh:evS σ hi=(True,.int .i64 (h:Nat))) (hcap:aa σ.hp j=some (.cap id s N)) (hN:h<=N) (h0:0<len) (hs:T.siz e=s) (hs0:s≠0)
  {sk:List Loc×List Loc} (hsk:((Sp.mk o.dst (.exs id s 0 h N) [] (aQ σ [x,hi]++[Loc.blk j])).wr,aQ σ [x,hi]++[Loc.blk j])=sk) (ha:σ.put o.dst (.exs id s 0 h N)=σ') (hk:an P C ops Q k n (acc++[sk]) L σ'):an P C ops Q k n acc (o::L) σ:=by
 have hgd':guardOf ops σ o.guard=some true:=by rw[hgd];rfl
 have key:=iC (P:=P) (C:=C) (o:=o) (ops:=ops) (x:=.exs id s 0 h N) (rd:=aQ σ [x,hi]++[Loc.blk j]) hgd' (.inl rfl) (λ_ s' hag=>by
  have h1:evS s' x=evS σ x:=ct λz hz=>hag z (by simp[aQ,hz])
  have h2:evS s' hi=evS σ hi:=ct λz hz=>hag z (by simp[aQ,hz])
  have h3:aa s'.hp j=aa σ.hp j:=hag (Loc.blk j) w8;exact A7 hT ho ht (h1.trans hx) (h2.trans hh) (h3.trans hcap) hN h0 hs hs0)
 have e0:cd ops o.guard=[]:=by rw[hgd];rfl
 rw[e0,List.nil_append] at key;exact km key rfl (by rw[<-hsk]) Ze hk
theorem yE (hT:TabOK P T) {o:Oper} {x lo hi:Operand} {t e:TypeId} (ho:o.op=.slice t x (some lo) (some hi) none) (ht:T.und t=.sl e) {id s len cap l h:Nat} (hx:evS σ x=(True,.exs id s 0 len cap)) (hl:evS σ lo=(True,.int .i64 (l:Nat))) (hh:evS σ hi=(True,.int .i64 (h:Nat)))
  (h1:l<h) (h2:h<=cap) (hs:T.siz e=s) (hs0:s≠0):eP P C o σ (σ.put o.dst (.osl id s l (h-l))):=by
 refine ec λμ S a w hi'=>?_
 have hv:=hi'.evS x u7;have hu1:=hi'.evS lo (by rw[hl];trivial);have hu2:=hi'.evS hi Ws;rw[hx] at hv;rw[hl] at hu1;rw[hh] at hu2;obtain ⟨g,n,m,hv',hc,k1,k3,k4⟩:=hv.sy;have hty:P.underlying t=some (.slice e):=by have:=hT.und t;rw[ht] at this;exact this
 have hb:=fN (P:=P) (w:=w) true len cap l h (some (.int .i64 (l:Nat))) (some (.int .i64 (h:Nat))) (show gf (some (.int .i64 (l:Nat))) 0 l from ⟨.i64,rfl⟩) (show gf (some (.int .i64 (h:Nat))) len h from ⟨.i64,rfl⟩) z8 h2;have e1:a.eval x=.slice (some ⟨g,0*s,none⟩) len cap:=hv';have e2:a.eval lo=.int .i64 (l:Nat):=hu1.aL;have e3:a.eval hi=.int .i64 (h:Nat):=hu2.aL;have hcl:cap≠l:=by omega
 refine ⟨.slice (some (Addr.add ⟨g,0*s,none⟩ (l*s))) (h-l) (cap-l),by simp[execOp,ho,e1,e2,e3,Instr.sliceAt,Instr.slice,run_underlying hty,hb,bD hT (t:=e) Qz,hs,hcl],?_⟩;refine .osl id s l (h-l) (cap-l) _ z8 (.inr ⟨g,n,m,k1,by rw[add_plain,Nat.zero_mul,Yc],k3,?_⟩);rw[<-k4]
 congr 1;omega
theorem Hk {o:Oper} {x y:Operand} {ts:Array TypeId} (ho:o.op=.call { callee:=.builtin .max,args:=#[x,y],argTypes:=ts }) {k k':IntKind} {n m:Int} (hx:evS σ x=(True,.int k n)) (hy:evS σ y=(True,.int k' m)) :
  eP P C o σ (σ.put o.dst (.int k (if m>n then m else n))):=by
 refine ec λμ S a w hi'=>?_
 have hv:=hi'.evS x u7;have hu:=hi'.evS y Qk;rw[hx] at hv;rw[hy] at hu;have e1:a.eval x=.int k n:=hv.aL;have e2:a.eval y=.int k' m:=hu.aL;exact ⟨_,by simp[execOp,ho,e1,e2,resolve,invoke,builtin,run_max_int2],.pure (.int _ _)⟩
theorem yr {ops:Array Oper} {Q:Exit->Act->World->Prop} {k n:Nat} {acc:dA} {o:Oper} {L:List Oper} {x y:Operand} {ts:Array TypeId} (ho:o.op=.call { callee:=.builtin .max,args:=#[x,y],argTypes:=ts }) (hgd:o.guard=none) {q q':IntKind} {u v:Int}
  (hx:evS σ x=(True,.int q u)) (hy:evS σ y=(True,.int q' v))
  {sk:List Loc×List Loc} (hsk:((Sp.mk o.dst (.int q (if v>u then v else u)) [] (aQ σ [x,y])).wr,aQ σ [x,y])=sk) (ha:σ.put o.dst (.int q (if v>u then v else u))=σ') (hk:an P C ops Q k n (acc++[sk]) L σ'):an P C ops Q k n acc (o::L) σ:=by
 have hgd':guardOf ops σ o.guard=some true:=by rw[hgd];rfl
 have key:=iC (P:=P) (C:=C) (o:=o) (ops:=ops) (x:=.int q (if v>u then v else u)) (rd:=aQ σ [x,y]) hgd' (.inl rfl) (λ_ s' hag=>by
  have h1:evS s' x=evS σ x:=ct λz hz=>hag z (by simp[aQ,hz])
  have h2:evS s' y=evS σ y:=ct λz hz=>hag z (by simp[aQ,hz])
  exact Hk ho (h1.trans hx) (h2.trans hy))
 have e0:cd ops o.guard=[]:=by rw[hgd];rfl
 rw[e0,List.nil_append] at key;exact km key rfl (by rw[<-hsk]) Ze hk
theorem Gp (t:Nat) {id s off len cap:Nat} (h:σ.tm.getD t .any=.exs id s off len cap):Le C σ ⟨σ.tm.set t (.osl id s off len),σ.hp⟩:=by
 intro a w ⟨μ,S,hi⟩;refine ⟨μ,S,by simpa using hi.size,hi.defers,λu x hx=>?_,hi.hp,hi.dom,hi.inj,hi.frm,hi.sb⟩;rw[YM] at hx;split at hx
 ·rename_i e;subst e;split at hx
  ·rename_i hlt;injection hx with hx
   subst hx;have:=hi.tm t (σ.tm.getD t .any) (by rw[List.getD_eq_getElem?_getD,Wz hlt];rfl);rw[h] at this;obtain ⟨g,e,n,h1,h2,h3,h4,h5⟩:=this.sy;rw[h1];exact .osl id s off len cap _ h2 (.inr ⟨g,e,n,h3,rfl,h4,h5⟩)
  ·cases hx
 ·exact hi.tm u x hx
end
end Go.Eng
namespace Go.Eng
def pM (f:Nat->Nat) (e:Edge):Edge:=⟨f e.on,e.ground⟩
section
variable {P:Program} {C:Ctx} {σ σ':St}
def xo (id s:Nat):AV->AV
 | .nils=>.osl id s 0 0
 | x=>x
theorem CH (id s:Nat) (x:AV):wk x (xo id s x):=by
 cases x
 case nils=>exact .inr (.inr ⟨rfl,.inr ⟨id,s,0,rfl⟩⟩)
 all_goals exact .inr (.inl rfl)
theorem C8 (id' s' id:Nat) {e s:Nat} {rows rows':List (List AV)} (hb:aa σ.hp id=some (.cells e s rows)) (hr:rows.map (λrow=>row.map (xo id' s'))=rows'):Le C σ ⟨σ.tm,aG σ.hp id (.cells e s rows')⟩:=by
 subst hr;rintro a w ⟨μ,S,hi⟩;refine ⟨μ,S,hi.size,hi.defers,hi.tm,λi b hb'=>?_,λi q hq=>?_,hi.inj,hi.frm,hi.sb⟩
 ·simp only[ai] at hb';split at hb'
  ·rename_i h1;injection hb' with hb'
   subst h1 hb'
   rcases hi.hp id _ hb with ⟨rfl,k2⟩ | ⟨g,c,k1,k2,k3,k4,k5⟩
   ·exact .inl ⟨by simp,k2⟩
   ·refine .inr ⟨g,c,k1,k2,by rw[List.length_map];exact k3,λrow hrow=>?_,λi row hi' q x hx=>?_⟩
    ·obtain ⟨r0,h0,rfl⟩:=W5.1 hrow;rw[List.length_map];exact k4 r0 h0
    ·rw[W2] at hi';cases e0:rows[i]? with
     | none=>rw[e0] at hi';cases hi'
     | some r0=>
      rw[e0] at hi';simp only[Option.map_some,gL] at hi';subst hi';rw[W2] at hx;cases e1:r0[q]? with
      | none=>rw[e1] at hx;cases hx
      | some y=>
       rw[e1] at hx;simp only[Option.map_some,gL] at hx;subst hx;exact (k5 i r0 e0 q y e1).wk (CH id' s' y)
  ·exact hi.hp i b hb'
 ·obtain ⟨⟨b,h1⟩,h2⟩:=hi.dom i q hq;refine ⟨?_,h2⟩;simp only[ai];split
  ·exact ⟨_,rfl⟩
  ·exact ⟨b,h1⟩
theorem iX {ops:Array Oper} {Q:Exit->Act->World->Prop} {k:Nat} (h:Le C σ σ') (hk:bp P C ops Q k σ'):bp P C ops Q k σ:=λa w hr=>hk a w (h a w hr)
end
attribute [go_sem] xo
end Go.Eng
namespace Go.Eng
def iB (r:Nat) (f:Nat->Nat) (o:Oper):Oper:=⟨o.dst,o.op,o.type,o.pos,(o.after.filter λe=>!(e.on==r)).map (pM f),o.guard.map λg=>(f g.1,g.2)⟩
def bK (r:Nat) (p q:List Nat) (l:List Oper):List Oper:=p.map λi=>iB r (λj=>q.getD j j) (l.getD i default)
def Gh:Op->Bool
 | .select ..=>true
 | _=>false
def AA (r:Nat) (p q:List Nat) (ops:Array Oper):Bool:=
 p.length+1==ops.size&&q.length==ops.size&&(decide (r<ops.size)&&(List.range ops.size).all λi=>i==r||(decide (q.getD i i+1<ops.size)&&p.getD (q.getD i i) 0==i)) &&
 ((List.range p.length).all λj=>decide (p.getD j 0<ops.size)&&!(p.getD j 0==r)&&q.getD (p.getD j 0) 0==j) &&
 ops.toList.all λo=>(match o.guard with | some g=>!(g.1==r) | none=>true)&&!Gh o.op
def sx (r:Nat) (o:Oper) (ops:Array Oper):Bool:=
 o.after.isEmpty&&(List.range ops.size).all λj=>j==r||(match ops[j]? with | some oj=>(oj.after.any λe=>Region.binds .any e&&e.on==r)||o.apart ops oj | none=>true)
section
variable {P:Program} {T:Tab} {C:Ctx} {σ σ':St} {μ:Nat->Option Nat} {S:Nat->Prop} {a:Act} {w:World}
structure RemF (r:Nat) (p q:List Nat) (ops:Array Oper):Prop where
 pl:p.length+1=ops.size
 ql:q.length=ops.size
 rl:r<ops.size
 to:∀i,i<ops.size->i≠r->q.getD i i+1<ops.size/\p.getD (q.getD i i) 0=i
 fro:∀j,j<p.length->p.getD j 0<ops.size/\p.getD j 0≠r/\q.getD (p.getD j 0) 0=j
 gd:∀(i:Nat) o j b,ops[i]? = some o->o.guard=some (j,b)->j≠r
 sel:∀(i:Nat) o cs b,ops[i]? = some o->o.op≠.select cs b
theorem qQ {r:Nat} {p q:List Nat} {ops:Array Oper} (h:AA r p q ops=true):RemF r p q ops:=by
 unfold AA at h;simp only[Bool.and_eq_true,beq_iff_eq,decide_eq_true_eq] at h;obtain ⟨⟨⟨⟨h1,h2⟩,h3,h4⟩,h5⟩,h6⟩:=h;have hall:∀(i:Nat) o,ops[i]? = some o->((match o.guard with | some g=>!(g.1==r) | none=>true)&&!Gh o.op)=true:=λi o ho=>
  List.all_eq_true.1 h6 o (by rw[Array.mem_toList_iff];exact Array.mem_of_getElem? ho)
 refine ⟨h1,h2,h3,λi hi hne=>?_,λj hj=>?_,λi o j b ho hg e=>?_,λi o cs b ho e=>?_⟩
 ·have:=List.all_eq_true.1 h4 i (Yn.2 hi);simp only[Bool.or_eq_true,Bool.and_eq_true,beq_iff_eq,decide_eq_true_eq] at this
  rcases this with h | h
  ·exact absurd h hne
  ·exact h
 ·have:=List.all_eq_true.1 h5 j (Yn.2 hj);simp only[Bool.and_eq_true,beq_iff_eq,decide_eq_true_eq,Yb,beq_eq_false_iff_ne] at this;exact ⟨this.1.1,this.1.2,this.2⟩
 ·have:=hall i o ho;rw[hg] at this;simp only[Bool.and_eq_true,Yb,beq_eq_false_iff_ne] at this;exact this.1 e
 ·have:=hall i o ho;rw[e] at this;simp[Gh] at this
theorem RemF.get {r:Nat} {p q:List Nat} {ops:Array Oper} (h:RemF r p q ops) {i:Nat} (hne:i≠r) {o:Oper} (ho:ops[i]? = some o) :
  (bK r p q ops.toList).toArray[q.getD i i]? = some (iB r (λj=>q.getD j j) o):=by
 have hi:i<ops.size:=(Ye.1 ho).1;obtain ⟨h4,h5⟩:=h.to i hi hne;have hpl:=h.pl;rw[List.getElem?_toArray,bK,W2];have hp:p[q.getD i i]? = some i:=by
  rw[List.getD_eq_getElem?_getD,Wz z8] at h5;rw[Wz z8];exact congrArg some h5
 rw[hp];simp only[Option.map_some];rw[List.getD_eq_getElem?_getD,Array.getElem?_toList,ho];rfl
theorem RemF.big {r:Nat} {p q:List Nat} {ops:Array Oper} (h:RemF r p q ops) {i:Nat} (hi:ops.size<=i):q.getD i i=i:=by
 have:=h.ql;rw[List.getD_eq_getElem?_getD,List.getElem?_eq_none z8];rfl
theorem RemF.inj {r:Nat} {p q:List Nat} {ops:Array Oper} (h:RemF r p q ops) {i j:Nat} (hi:i≠r) (hj:j≠r) (he:q.getD i i=q.getD j j):i=j:=by
 by_cases h1:i<ops.size
 ·by_cases h2:j<ops.size
  ·have e1:=(h.to i h1 hi).2;rw[he,(h.to j h2 hj).2] at e1;exact e1.symm
  ·have:=(h.to i h1 hi).1;rw[he,h.big z8] at this;omega
 ·by_cases h2:j<ops.size
  ·have:=(h.to j h2 hj).1;rw[<-he,h.big z8] at this;omega
  ·rw[h.big z8,h.big z8] at he;exact he
theorem RemF.yielded {r:Nat} {p q:List Nat} {ops:Array Oper} (h:RemF r p q ops) (t:Array Value) {j:Nat} (hj:j≠r):Go.yielded (bK r p q ops.toList).toArray t (q.getD j j)=Go.yielded ops t j:=by
 unfold Go.yielded;cases ho:ops[j]? with
 | none=>
  have hs:ops.size<=j:=Array.getElem?_eq_none_iff.1 ho;have hpl:=h.pl;rw[h.big hs,List.getElem?_toArray,bK,W2,List.getElem?_eq_none z8];rfl
 | some o=>rw[h.get hj ho];rfl
theorem ym {r:Nat} {p q:List Nat} {ops:Array Oper} (h:RemF r p q ops) {Q:Exit->Act->World->Prop}:∀(f:Nat) (L L':Array Bool) (a:Act) (w:World),L.size=ops.size->L'.size+1=ops.size->L.getD r false=true ->
  (∀i,i≠r->L'.getD (q.getD i i) false=L.getD i false)->wpAny P .any (bK r p q ops.toList).toArray Q f L' a w->wpAny P .any ops Q f L a w:=by
 have hpl:=h.pl;have hTF:∀(L:Array Bool) (i:Nat),i<L.size->L.getD i true=L.getD i false:=λL i hi=>by rw[Array.getD_eq_getD_getElem?,Array.getD_eq_getD_getElem?,YC hi];rfl
 have hne:∀(L:Array Bool),L.size=ops.size->L.getD r false=true->∀i,i∈Region.ready .any ops L->i≠r:=λL hL hr i hi e=>by
  subst e;obtain ⟨k1,_⟩:=mem_ready.1 hi;rw[hTF L i (by rw[hL];exact h.rl),hr] at k1;cases k1
 have hrd:∀(L L':Array Bool),L.size=ops.size->L'.size+1=ops.size->L.getD r false=true->(∀i,i≠r->L'.getD (q.getD i i) false=L.getD i false)->∀i,i∈Region.ready .any ops L->q.getD i i∈Region.ready .any (bK r p q ops.toList).toArray L':=λL L' hL hL' hr hg i hi=>by
  have hir:=hne L hL hr i hi;obtain ⟨k1,o,k2,k3⟩:=mem_ready.1 hi;have hlt:i<ops.size:=(Ye.1 k2).1;refine mem_ready.2 ⟨?_,_,h.get hir k2,λe he hb=>?_⟩
  ·rw[hTF L' _ (by have:=(h.to i hlt hir).1;omega),hg i hir,<-hTF L i z8];exact k1
  ·simp only[iB] at he;obtain ⟨e0,he0,rfl⟩:=Array.mem_map.1 he;obtain ⟨he1,he2⟩:=Array.mem_filter.1 he0
   show L'.getD (q.getD e0.on e0.on) false=true
   rw[hg _ (by simpa using he2)];exact k3 e0 he1 hb
 intro f
 induction f with
 | zero=>
  intro L L' a w hL hL' hr hg hw;refine ⟨List.eq_nil_iff_forall_not_mem.2 λi hi=>?_,hw.2⟩;have:=hrd L L' hL hL' hr hg i hi;rw[hw.1] at this;cases this
 | succ f ih=>
  intro L L' a w hL hL' hr hg hw;refine ⟨λh0=>?_,λi hi=>?_⟩
  ·by_cases hrr:Region.ready .any (bK r p q ops.toList).toArray L'=[]
   ·exact hw.1 hrr
   ·exfalso
    obtain ⟨j,hj⟩:=List.exists_mem_of_ne_nil _ hrr;obtain ⟨k1,o,k2,k3⟩:=mem_ready.1 hj;have hjn:j<p.length:=by
     have:=(Ye.1 k2).1;simpa only [List.size_toArray,bK,List.length_map] using this
    obtain ⟨f1,f2,f3⟩:=h.fro j hjn;have hqi:q.getD (p.getD j 0) (p.getD j 0)=j:=by
     have hq:=h.ql;rw[List.getD_eq_getElem?_getD,Wz z8] at f3 ⊢;exact f3
    obtain ⟨oi,hoi⟩:∃oi,ops[p.getD j 0]? = some oi:=⟨_,YC f1⟩;have aa:=h.get f2 hoi;rw[hqi] at aa;rw[aa] at k2;injection k2 with k2
    have:p.getD j 0∈Region.ready .any ops L:=by
     refine mem_ready.2 ⟨?_,oi,hoi,λe he hb=>?_⟩
     ·rw[hTF L _ z8,<-hg _ f2,hqi,<-hTF L' j z8];exact k1
     ·by_cases her:e.on=r
      ·rw[her];exact hr
      ·rw[<-hg _ her];exact k3 (pM (λj=>q.getD j j) e) (by rw[<-k2];exact Array.mem_map.2 ⟨e,Array.mem_filter.2 ⟨he,by simpa using her⟩,rfl⟩) hb
    rw[h0] at this;cases this
  ·have hir:=hne L hL hr i hi;have hri:=hrd L L' hL hL' hr hg i hi;have hop:=hw.2 _ hri;obtain ⟨_,o,hoi,_⟩:=mem_ready.1 hi;have hlt:i<ops.size:=(Ye.1 hoi).1;have hnext:∀a' w',wpAny P .any (bK r p q ops.toList).toArray Q f (L'.setIfInBounds (q.getD i i) true) a' w'->wpAny P .any ops Q f (L.setIfInBounds i true) a' w':=λa' w' hk=>
    ih _ _ a' w' (by simpa using hL) (by simpa using hL') (by
     rw[Array.getD_eq_getD_getElem?,Yi,if_neg hir,<-Array.getD_eq_getD_getElem?];exact hr) (λj hj=>by
     have hqi:=(h.to i hlt hir).1;have:=hg j hj;rw[Array.getD_eq_getD_getElem?,Array.getD_eq_getD_getElem?] at this;rw[Array.getD_eq_getD_getElem?,Array.getD_eq_getD_getElem?,Yi,Yi]
     by_cases e:j=i
     ·subst e;rw[if_pos rfl,if_pos rfl,if_pos z8,if_pos z8]
     ·rw[if_neg (λe2=>e (h.inj hj hir e2.symm)),if_neg (λe2=>e e2.symm)];exact this) hk
   have hop2:=wpOp_mono hnext hop;unfold wpOp at hop2 ⊢;rw[h.get hir hoi] at hop2;rw[hoi];simp only at hop2 ⊢;have hwant:Region.wanted (iB r (λj=>q.getD j j) o) (Go.yielded (bK r p q ops.toList).toArray a.tmps)=Region.wanted o (Go.yielded ops a.tmps):=by
    unfold Region.wanted iB;cases hgd:o.guard with
    | none=>rfl
    | some g=>
     obtain ⟨j,b⟩:=g;simp only[Option.map_some];rw[h.yielded a.tmps (h.gd i o j b hoi hgd)]
   rw[hwant] at hop2;exact hop2
end
end Go.Eng
namespace Go.Eng
section
variable {P:Program} {T:Tab} {C:Ctx} {σ σ':St}
theorem Dp (ids:List Nat):∀(A B:List (Nat×Blk)),sub ids (A++B)=sub ids A++sub ids B
 | [],_=>rfl
 | p::r,B=>by
  simp only[List.cons_append,sub,Dp ids r B];split<;>rfl
theorem sub_sub (ids:List Nat):∀A:List (Nat×Blk),sub ids (sub ids A)=sub ids A
 | []=>rfl
 | p::r=>by
  simp only[sub];split
  ·rename_i h;simp only[sub,h,if_true,sub_sub ids r]
  ·exact sub_sub ids r
theorem yB (ids:List Nat):∀A:List (Nat×Blk),sub ids (del ids A)=[]
 | []=>rfl
 | p::r=>by
  simp only[del];split
  ·exact yB ids r
  ·rename_i h;simp only[sub,h,yB ids r];rfl
def front (ids:List Nat) (A:List (Nat×Blk)) (s:St):St:=⟨s.tm,sub ids A++del ids s.hp⟩
theorem DQ (ids:List Nat) (A:List (Nat×Blk)) (s:St):sub ids (front ids A s).hp=sub ids A:=by
 show sub ids (sub ids A++del ids s.hp)=_
 rw[Dp,sub_sub,yB,List.append_nil]
theorem DP {ids:List Nat} {A:List (Nat×Blk)} {s:St} (h:∀i,ids.contains i=true->aa s.hp i=aa A i) (i:Nat):aa (front ids A s).hp i=aa s.hp i:=by
 show aa (sub ids A++del ids s.hp) i=_
 rw[aA]
 by_cases hi:ids.contains i=true
 ·by_cases he:∃b,b∈sub ids A/\b.1=i
  ·rw[if_pos he,cB,if_pos hi,h i hi]
  ·rw[if_neg he,dU,if_pos hi,h i hi];cases e:aa A i with
   | none=>rfl
   | some b=>
    have h2:aa (sub ids A) i=some b:=by rw[cB,if_pos hi];exact e
    exact absurd ⟨_,aP h2,rfl⟩ he
 ·rw[if_neg,dU,if_neg hi];rintro ⟨b,hb,rfl⟩;have:∀A:List (Nat×Blk),b∈sub ids A->ids.contains b.1=true:=λA=>by
   induction A with
   | nil=>intro h;cases h
   | cons p r ih=>
    intro h;simp only[sub] at h;split at h
    ·rename_i hc
     rcases List.mem_cons.1 h with rfl | h
     ·exact hc
     ·exact ih h
    ·exact ih h
  exact hi (this _ hb)
theorem kL {K:List (Nat×Blk)} (hnd:(K.map (·.1)).Nodup) (A:List (Nat×Blk)) (i:Nat):aa (bS A K) i=aa (K++A) i:=by
 rw[dc i K _ hnd,aA]
 by_cases e:∃b,b∈K/\b.1=i
 ·rw[if_pos e];obtain ⟨b,hb,rfl⟩:=e;have:∀K:List (Nat×Blk),b∈K->(aa K b.1).isSome=true:=λK=>by
   induction K with
   | nil=>intro h;cases h
   | cons q r ih=>
    intro h;simp only[aa];split
    ·rfl
    ·rename_i hne
     rcases List.mem_cons.1 h with rfl | h
     ·exact absurd rfl hne
     ·exact ih h
  rw[if_pos (this K hb)]
 ·rw[if_neg e];cases e2:aa K i with
  | none=>rfl
  | some b=>exact absurd ⟨_,aP e2,rfl⟩ e
theorem uR {ops:Array Oper} {o:Oper} {c:Operand} {args:Array Operand} {ats:Array TypeId} (ho:o.op=.call { callee:=.value c,args,argTypes:=ats }) {p:Prop} {f:FuncId} {xs:List AV}
  (h:az σ c args.toList=some (p,f,xs)) (hp:p) (hc:aJ P f) (ids:List Nat) {K:List (Nat×Blk)} {r:AV}
  (hck:((aB xs).all ids.contains&&(refs r).all ids.contains&&ids.all (λi=>decide (i<5000)&&(aa K i).isSome)&&K.all (λq=>ids.contains q.1))=true) (hnd:(K.map (·.1)).Nodup)
  (hpin:(ids.all λi=>match aa (sub ids σ.hp) i with | some b=>eW b | none=>false)=true) (hc1:((sub ids σ.hp).all λq=>(ay q.2).all ids.contains)=true) (hc2:(K.all λq=>(ay q.2).all ids.contains)=true)
  (hf:∀G Y N:Nat->Nat,aj P f xs (sub ids σ.hp++pins ids G Y N) λr' H'=>r'=r/\∀i b,aa (K++pins ids G Y N) i=some b->aa H' i=some b)
  {s:St} (ha:∀x,x∈cd ops o.guard++((fV σ c++aQ σ args.toList)++ids.map Loc.blk)->bn σ s x) {τ:St} (h1:τ.tm=(St.put ⟨s.tm,[]⟩ o.dst r).tm) (h2:∀i,aa τ.hp i=aa (K++s.hp) i):eP P C o s τ:=by
 have hag:∀i,ids.contains i=true->aa s.hp i=aa σ.hp i:=λi hi=>ha (.blk i) (YB _ (YB _ (W5.2 ⟨i,by simpa using hi,rfl⟩)))
 have hca:az s c args.toList=az σ c args.toList:=dQ λx hx=>ha x (YB _ (YQ _ hx))
 have hfg:=DP (ids:=ids) (A:=σ.hp) (s:=s) hag;have hca2:az (front ids σ.hp s) c args.toList=some (p,f,xs):=by
  rw[<-h,<-hca];refine dQ λx _=>?_
  cases x with
  | tm t=>rfl
  | blk i=>exact hfg i
 have hl1:Le C s (front ids σ.hp s):=jO rfl (λ_=>rfl) (λi=>(hfg i).symm);intro a w Kp Q hrel hK;have hs:=DQ ids σ.hp s;refine eb ho hca2 hp hc ids hs hck hnd hpin hc1 hc2 hf rfl a w Kp Q (hl1 a w hrel) λa' w' hr'=>hK a' w' (jO ?_ ?_ ?_ a' w' hr')
 ·rw[h1];cases o.dst<;>simp[St.put,front]
 ·intro t;rw[h1];cases o.dst<;>rfl
 ·intro i;rw[St.hY,h2]
  show aa (bS (front ids σ.hp s).hp K) i=aa (K++s.hp) i
  rw[kL hnd,aA,aA,hfg]
theorem ic {ops:Array Oper} {Q:Exit->Act->World->Prop} {k n:Nat} {acc:dA} {o:Oper} {l:List Oper} {c:Operand} {args:Array Operand} {ats:Array TypeId} (ho:o.op=.call { callee:=.value c,args,argTypes:=ats }) (hg:o.guard=none) {p:Prop} {f:FuncId} {xs:List AV}
  (h:az σ c args.toList=some (p,f,xs)) (hp:p) (hc:aJ P f) (ids:List Nat) {H K:List (Nat×Blk)} {r:AV} (hH:sub ids σ.hp=H)
  (hck:((aB xs).all ids.contains&&(refs r).all ids.contains&&ids.all (λi=>decide (i<5000)&&(aa K i).isSome)&&K.all (λq=>ids.contains q.1))=true) (hnd:(K.map (·.1)).Nodup)
  (hpin:(ids.all λi=>match aa H i with | some b=>eW b | none=>false)=true) (hc1:(H.all λq=>(ay q.2).all ids.contains)=true) (hc2:(K.all λq=>(ay q.2).all ids.contains)=true)
  (hf:∀G Y N:Nat->Nat,aj P f xs (H++pins ids G Y N) λr' H'=>r'=r/\∀i b,aa (K++pins ids G Y N) i=some b->aa H' i=some b)
  {sk:List Loc×List Loc} (hs:((match o.dst with | some t=>[Loc.tm t] | none=>[])++K.map (λb=>Loc.blk b.1),cd ops o.guard++((fV σ c++aQ σ args.toList)++ids.map Loc.blk))=sk)
  (ha:(⟨σ.tm,bS σ.hp K⟩:St).put o.dst r=σ') (hk:an P C ops Q k n (acc++[sk]) l σ'):an P C ops Q k n acc (o::l) σ:=by
 subst hs ha hH;have hKi:∀b,b∈K->ids.contains b.1=true:=λb hb=>by
  simp only[Bool.and_eq_true] at hck;exact List.all_eq_true.1 hck.2 b hb
 have hrob:Rob P C ops o ⟨o.dst,r,K,cd ops o.guard++((fV σ c++aQ σ args.toList)++ids.map Loc.blk)⟩ σ:=by
  intro s ha _ a w Kp Q ⟨μ,S,hi⟩ hK;have hgs:guardOf ops s o.guard=some true:=by rw[hg];rfl
  rw[bs hi hgs];refine .inl (uR ho h hp hc ids hck hnd hpin hc1 hc2 hf ha ?_ (λi=>?_) a w Kp Q ⟨μ,S,hi⟩ hK)
  ·unfold Sp.app;cases o.dst<;>rfl
  ·unfold Sp.app;rw[St.hY]
 refine pS hrob (λb hb hno=>absurd ?_ hno) rfl rfl (an.sim ⟨?_,?_⟩ hk)
 ·exact YB _ (YB _ (W5.2 ⟨b.1,by simpa using hKi b hb,rfl⟩))
 ·unfold Sp.app;cases o.dst<;>rfl
 ·intro i;unfold Sp.app;rw[St.hY,St.hY];exact (kL hnd σ.hp i).symm
theorem dW {ops:Array Oper} {Q:Exit->Act->World->Prop} {k n:Nat} {acc:dA} {o:Oper} {l:List Oper} {c:Operand} {args:Array Operand} {ats:Array TypeId} (ho:o.op=.call { callee:=.value c,args,argTypes:=ats }) (hg:o.guard=none) {p:Prop} {f:FuncId} {xs:List AV}
  (h:az σ c args.toList=some (p,f,xs)) (hp:p) (hc:aJ P f) (ids:List Nat) {H:List (Nat×Blk)} {r:AV} (hH:sub ids σ.hp=H)
  (hck:((aB xs).all ids.contains&&(refs r).all ids.contains&&ids.all (λi=>decide (i<5000)&&(aa H i).isSome)&&H.all (λq=>ids.contains q.1))=true) (hnd:(H.map (·.1)).Nodup)
  (hpin:(ids.all λi=>match aa H i with | some b=>eW b | none=>false)=true) (hc1:(H.all λq=>(ay q.2).all ids.contains)=true)
  (hf:∀G Y N:Nat->Nat,aj P f xs (H++pins ids G Y N) λr' H'=>r'=r/\∀i b,aa (H++pins ids G Y N) i=some b->aa H' i=some b)
  {sk:List Loc×List Loc} (hs:((match o.dst with | some t=>[Loc.tm t] | none=>[]),cd ops o.guard++((fV σ c++aQ σ args.toList)++ids.map Loc.blk))=sk)
  (ha:σ.put o.dst r=σ') (hk:an P C ops Q k n (acc++[sk]) l σ'):an P C ops Q k n acc (o::l) σ:=by
 subst hs ha hH;have hrob:Rob P C ops o ⟨o.dst,r,[],cd ops o.guard++((fV σ c++aQ σ args.toList)++ids.map Loc.blk)⟩ σ:=by
  intro s ha _ a w Kp Q ⟨μ,S,hi⟩ hK;have hgs:guardOf ops s o.guard=some true:=by rw[hg];rfl
  rw[bs hi hgs];refine .inl (uR ho h hp hc ids hck hnd hpin hc1 hc1 hf ha ?_ (λi=>?_) a w Kp Q ⟨μ,S,hi⟩ hK)
  ·unfold Sp.app;cases o.dst<;>rfl
  ·unfold Sp.app;rw[St.hY]
   show aa s.hp i=_
   rw[aA];split
   ·rename_i he;obtain ⟨b,hb,rfl⟩:=he;have hib:ids.contains b.1=true:=by
     simp only[Bool.and_eq_true] at hck;exact List.all_eq_true.1 hck.2 b hb
    rw[cB,if_pos hib];exact ha (.blk b.1) (YB _ (YB _ (W5.2 ⟨b.1,by simpa using hib,rfl⟩)))
   ·rfl
 refine km hrob rfl ?_ ?_ hk
 ·unfold Sp.wr;cases o.dst<;>simp
 ·unfold Sp.app;cases o.dst<;>rfl
end
end Go.Eng
namespace Go.Eng
section
variable {P:Program} {T:Tab} {C:Ctx} {σ:St} {Ret:St->Prop}
theorem uc (id:Nat):∀l:List AV,zS l (l.map (kill id))
 | []=>trivial
 | x::l=>by
  refine ⟨?_,uc id l⟩;unfold kill;split
  ·exact .inl rfl
  ·exact .inr rfl
theorem vm (h:List (Nat×Blk)) (id:Nat) (b c:Blk) (i:Nat):aa (aG (aG h id b) id c) i=aa (aG h id c) i:=by
 simp only[ai];split<;>rfl
theorem Inv.pad {μ:Nat->Option Nat} {S:Nat->Prop} {a:Act} {w:World} (hi:Inv C μ S σ a w) {id e s m n:Nat} {R:List (List AV)} (hb:aa σ.hp id=some (.cells e s R)) {g:Nat} (hg:μ id=some g) {c:Array Value} (hc:w.heap[g]? = some (.cells c e (0,0)))
  (hm:m<=R.length) (hn:(m+n)*s<=c.size):Inv C μ S ⟨σ.tm,aG σ.hp id (.cells e s (R.take m++List.replicate n (List.replicate s .any)))⟩ a w:=by
 refine ⟨hi.size,hi.defers,hi.tm,λi b hb'=>?_,λi q hq=>?_,hi.inj,hi.frm,hi.sb⟩
 ·rw[ai] at hb';split at hb'
  ·rename_i e';injection hb' with hb'
   subst hb' e'
   rcases hi.hp id _ hb with ⟨_,k⟩ | ⟨g',c',k1,k2,k3,k4,k5⟩
   ·rw[k] at hg;cases hg
   ·rw[k1] at hg;injection hg with hg;subst hg
    rw[k2] at hc;simp only[gL,Obj.cells.injEq] at hc;obtain ⟨rfl,_⟩:=hc;refine .inr ⟨g',c',k1,k2,?_,λrow hr=>?_,λi row hi' j x hx=>?_⟩
    ·simp only[List.length_append,YA,Yr,Yt hm];exact hn
    ·rcases List.mem_append.1 hr with h | h
     ·exact k4 row (YF h)
     ·rw[(Yz.1 h).2];simp
    ·by_cases h:i<(R.take m).length
     ·rw[YP h,YU] at hi';split at hi'
      ·exact k5 i row hi' j x hx
      ·cases hi'
     ·rw[YO z8] at hi';have h1:=(Yz.1 (W3 hi')).2;subst h1;have h2:=(Yz.1 (W3 hx)).2;subst h2;exact .any _
  ·exact hi.hp i b hb'
 ·obtain ⟨⟨b,k1⟩,k2⟩:=hi.dom i q hq;refine ⟨?_,k2⟩;rw[ai];split
  ·exact ⟨_,rfl⟩
  ·exact ⟨b,k1⟩
theorem Br (hT:TabOK P T) {k:List It} {all:Array Oper} {o:Oper} {l:List Oper} {x y:Operand} {t e:TypeId} (ho:o.op=.call { callee:=.builtin .append,args:=#[x,y],argTypes:=#[t,t] }) (hgd:o.guard=none) (ht:T.und t=.sl e)
  {id s off len:Nat} {R rows:List (List AV)} {yv:AV} (hx:evS σ x=(True,.osl id s off len)) (hy:evS σ y=(True,yv)) (hsrc:cW σ yv=some rows) (hyl:∀id s off len,yv=.osl id s off len->rows.length=len) (hb:aa σ.hp id=some (.cells e s R))
  (hlen:0<len) (hR:off+len<=R.length) (hs:T.siz e=s) (hs0:s≠0) (hb0:T.byt e≠0) (hrl:rowsOf s rows) (hleaf:ek rows=true) (hsz:(2*(len+rows.length)+768)*T.byt e<=281474976710656) (hfree:ez id σ.hp)
  (hbf:bo id (.cells e s (R++rows)))
  (h:∀off':Nat,off'=off\/off'=0->Cw P C Ret (.ops all l::k) (St.put ⟨σ.tm.map (kill id),aG σ.hp id (.cells e s ((R.drop (off-off')).take (off'+len)++rows))⟩ o.dst (.osl id s off' (len+rows.length)))) :
  Cw P C Ret (.ops all (o::l)::k) σ:=by
 subst hs;intro a w hrel
 show wpList P all _ (o::l) a w
 unfold wpList;obtain ⟨μ,S,hi⟩:=hrel;rw[bs hi (c:=true) (by rw[hgd];rfl)];refine .inl ?_;have hty:P.underlying t=some (.slice e):=by have:=hT.und t;rw[ht] at this;exact this
 have hvx:=hi.evS x u7;have hvy:=hi.evS y Qk;rw[hx] at hvx;rw[hy] at hvy;obtain ⟨vs,hvs⟩:=ma hi hsrc hvy hrl hyl;have hRt:((R.drop off).take len).length=len:=by simp;omega
 rcases hi.hp id _ hb with ⟨rfl,_⟩ | ⟨g',c,k1,k2,k3,k4,k5⟩
 ·simp at hR;omega
 have hRl:rowsOf (T.siz e) ((R.drop off).take len):=λrow hr=>k4 row (YY (YF hr))
 obtain ⟨olds,hol⟩:=ma hi (x:=.osl id (T.siz e) off len) (rows:=(R.drop off).take len) (size:=T.siz e) (by simp[cW,hb]) hvx hRl (λ_ _ _ _ h=>by injection h with _ _ _ h;rw[hRt,h]);have hvx0:=hvx;obtain ⟨A,cap,hav,hc,hor⟩:=hvx.bZ
 rcases hor with ⟨h1,_⟩ | ⟨g,e2,n,h1,hA,h3,h4⟩
 ·omega
 rw[k1] at h1;injection h1 with h1;subst h1
 rw[ag,k2] at h3;simp only[gL,gM] at h3;obtain ⟨rfl,rfl⟩:=h3;have hax:a.eval x=.slice (some ⟨g',off*T.siz e,none⟩) len cap:=by rw[<-hA];exact hav
 have hno:=ng hbf;have hv0:∀u,u∈vs->u.oneCell'=true:=q_ hvs hleaf
 by_cases hroom:len+rows.length<=cap
 ·-- in place
  have hr:=ik (ty:=o.type) (A:=some ⟨g',off*T.siz e,none⟩) (len:=len) (cap:=cap) hT hty hs0 hvs hroom;have hcap:(off+len+rows.length)*T.siz e<=c.size:=by
   rw[<-h4];exact YJ _ z8
  have hi1:=hi.pad hb k1 k2 hR hcap;have hl1:(R.take (off+len)).length=off+len:=by simp;omega
  obtain ⟨w',r1,r2⟩:=mb (P:=P) hi1 (off:=off+len) (new:=rows) (vs:=vs) (by rw[ai,if_pos rfl]) k1 (by simp[hl1]) hvs.len hrl hv0 (λi row hi j x hx=>hvs.rd i row hi j x hx);have hov:aZ (R.take (off+len)++List.replicate rows.length (List.replicate (T.siz e) .any)) (off+len) rows=R.take (off+len)++rows:=by
   unfold aZ;rw[List.take_append_of_le_length z8,W1 z8,List.drop_eq_nil_of_le (by simp[hl1]),List.append_nil]
  rw[hov] at r2;have hfr:(execOp a.eval o).run P w=.ok (.value (.slice (some ⟨g',off*T.siz e,none⟩) (len+rows.length) cap)) w':=by
   have e1:off*T.siz e+len*T.siz e=(off+len)*T.siz e:=by rw[Nat.add_mul]
   simp only[add_plain,e1,r1,Result.andThen_ok] at hr;simp[execOp,ho,hax,resolve,invoke,builtin,hr]
  have r3:=r2.IZ (H:=aG σ.hp id (.cells e (T.siz e) (R.take (off+len)++rows))) (λi=>(vm _ _ _ _ i).symm);have he:evS ⟨σ.tm,aG σ.hp id (.cells e (T.siz e) (R.take (off+len)++rows))⟩ x=evS σ x:=by cases x<;>rfl
  have hv2:=r3.evS x (by rw[he,hx];trivial);rw[he,hx,hax] at hv2;obtain ⟨A2,cap2,hv3,_,hor2⟩:=hv2.bZ;obtain ⟨μ3,S3,r4⟩:=LC (C:=C) (uc id σ.tm) a w' ⟨μ,S,r3⟩;unfold Oper.wp;rw[hfr];have hv4:=r4;refine h off (.inl rfl) (a.put o.dst _) _ ⟨μ,S,Inv.put ?_ o.dst ?_⟩;rw[Ym,List.drop_zero]
  ·exact ⟨by rw[r3.size];simp,r3.defers,λt x hx=>by
    rw[W2] at hx;cases e5:σ.tm[t]? with
    | none=>rw[e5] at hx;cases hx
    | some y=>
     rw[e5] at hx;simp only[Option.map_some,gL] at hx;subst hx;have:=r3.tm t y e5;unfold kill;split
     ·exact .any _
     ·exact this,r3.hp,r3.dom,r3.inj,r3.frm,r3.sb⟩
  ·rcases hor2 with ⟨h5,_⟩ | ⟨g2,e3,n2,q1,q2,q3,q4⟩
   ·omega
   ·rw[k1] at q1;injection q1 with q1;subst q1
    injection hv3 with j1 j2 j3
    subst j3;exact .osl id _ off _ cap _ hroom (.inr ⟨g',e3,n2,k1,rfl,q3,q4⟩)
 ·-- a new block
  obtain ⟨nc,z,h1,h2,hgr⟩:=h_ (ty:=o.type) hT hty hs0 hb0 (by rw[<-hax];exact hol) hvs hRt hroom hsz;have hi1:=(hi.drop id hfree).drew;have hfr:aa (σ.drop id).hp id=none:=by simp only[St.drop,bB,if_true]
  have hnod:upd μ id none id=none:=hi1.fresh hfr;have hm:∀{v x},Rd μ S w v x->id∉refs x->Rd (upd μ id none) S w.drew v x:=λh hn=>
   (h.other hn none).mono (λ_ _=>rfl) (λ_ h=>h) (λ_ _ h=>h) (λ_ _ _=>rfl)
  have hrun:(execOp a.eval o).run P w=.ok (.value (.slice (some ⟨w.heap.size,0,none⟩) (len+rows.length) nc)) (w.drew.alloc (.cells (olds.toArray++vs.toArray++z) e)):=by
   simp[execOp,ho,hax,resolve,invoke,builtin,hgr]
  unfold Oper.wp;rw[hrun];have hnew:=hi1.new id hfr (.cells (olds.toArray++vs.toArray++z) e) (.cells e (T.siz e) ((R.drop off).take len++rows)) (.inr ⟨w.heap.size,_,by simp[upd],bh w _,by simp[hol.len,hvs.len,hRt,Nat.add_mul],λrow hrow=>by
    rcases List.mem_append.1 hrow with h | h
    ·exact hRl row h
    ·exact hrl row h,?_⟩)
  ·have hnew':=hnew.IZ (H:=aG σ.hp id (.cells e (T.siz e) ((R.drop off).take len++rows))) (λi=>by
    simp only[St.drop,ai,aa,bB];split<;>rfl)
   refine h 0 (.inr rfl) (a.put o.dst _) _ ⟨_,_,Inv.put (by rw[Nat.sub_zero,Yc];exact hnew') o.dst ?_⟩;refine .osl id _ 0 _ nc _ h1 (.inr ⟨w.heap.size,e,_,if_pos rfl,by simp,?_,rfl⟩);unfold ag;rw[bh];simp only[gL,gM,true_and];simp only[Array.size_append,List.size_toArray,hol.len,hvs.len,hRt,h2,Yc,<-Nat.add_mul]
   congr 1
   omega
  ·have hup:∀{v x},Rd (upd μ id none) S w.drew v x ->
     Rd (upd (upd μ id none) id (some w.heap.size)) S (World.alloc w.drew (.cells (olds.toArray++vs.toArray++z) e)) v x:=λh=>
    h.mono (λb hb=>bb _ _ b (hi1.sb b hb).1) (λ_ h=>h) (λi' g hg=>by
     show (if i'=id then some w.heap.size else upd μ id none i')=some g
     rw[if_neg Qr];exact hg) (λi' g hg=>aN (bb _ _ g (hi1.dom i' g hg).2.2.2))
   have key:=jo (μ:=upd μ id none) (S:=S) (w:=w.drew) (R:=(R.drop off).take len) (rows:=rows) (cs:=olds.toArray++vs.toArray++z) (s:=T.siz e) hol.len hRl hrl
    (λi row hi' j x hx=>hm (hol.rd i row hi' j x hx) (hno row (YQ _ (YY (YF (W3 hi')))) x (W3 hx)))
    (λi row hi' j x hx=>hm (hvs.rd i row hi' j x hx) (hno row (YB _ (W3 hi')) x (W3 hx))) hvs.len (λk hk=>by
     rw[Array.getD_eq_getD_getElem?,List.getD_eq_getElem?_getD,Yh Z4];simp[List.append_toArray])
   exact λi row hi' j x hx=>hup (key i row hi' j x hx)
end
end Go.Eng
namespace Go.Eng
section
variable {P:Program} {T:Tab} {C:Ctx} {σ:St} {Ret:St->Prop} {w:World}
mutual
def lA (id:Nat) (kvs:List (Int×AV)):AV->AV
 | .mp i=>if i=id then .rm kvs else .mp i
 | .ptr i size row off=>if i=id then .any else .ptr i size row off
 | .osl i size off len=>if i=id then .any else .osl i size off len
 | .exs i size off len cap=>if i=id then .any else .exs i size off len cap
 | .agg cells=>.agg (mJ id kvs cells)
 | .tup cells=>.tup (mJ id kvs cells)
 | .fn f caps=>.fn f (mJ id kvs caps)
 | .cnd c v=>.cnd c (lA id kvs v)
 | x=>x
def mJ (id:Nat) (kvs:List (Int×AV)):List AV->List AV
 | []=>[]
 | x::r=>lA id kvs x::mJ id kvs r
end
theorem jm (id:Nat) (kvs:List (Int×AV)):∀l,mJ id kvs l=l.map (lA id kvs)
 | []=>rfl
 | x::r=>by simp[mJ,jm id kvs r]
def vT (id:Nat) (kvs:List (Int×AV)):Blk->Blk
 | .cells e z R=>.cells e z (R.map (mJ id kvs))
 | .map m=>.map m
 | .iter m seen=>.iter m seen
 | .cap j z N=>if j=id then .cells 0 0 [] else .cap j z N
 | .pin j g z N=>if j=id then .cells 0 0 [] else .pin j g z N
def rz (id:Nat) (kvs:List (Int×AV)):List (Nat×Blk)->List (Nat×Blk)
 | []=>[]
 | p::r=>if p.1=id then rz id kvs r else (p.1,vT id kvs p.2)::rz id kvs r
theorem ot (id:Nat) (kvs:List (Int×AV)) (i:Nat):∀H,aa (rz id kvs H) i=if i=id then none else (aa H i).map (vT id kvs)
 | []=>by simp[rz,aa]
 | (j,b)::r=>by
  have ih:=ot id kvs i r;unfold rz
  by_cases h:j=id
  ·subst h;rw[if_pos rfl,ih]
   by_cases h2:i=j
   ·rw[if_pos h2,if_pos h2]
   ·rw[if_neg h2,if_neg h2];simp only[aa];rw[if_neg (λh=>h2 h.symm)]
  ·rw[if_neg h];simp only[aa]
   by_cases h2:j=i
   ·subst h2;rw[if_pos rfl,if_neg h,if_pos rfl];rfl
   ·rw[if_neg h2,if_neg h2];exact ih
theorem RdP.IU {S:Nat->Prop} {v:Value} {x:AV} (h:RdP S w v x) (id:Nat) (kvs:List (Int×AV)):lA id kvs x=x:=by
 have key:∀(l:List AV),(∀(j:Nat) x,l[j]? = some x->lA id kvs x=x)->mJ id kvs l=l:=by
  intro l
  induction l with
  | nil=>intro _;rfl
  | cons y r ih=>
   intro h;simp only[mJ];rw[h 0 y rfl,ih (λj x hj=>h (j+1) x QR)]
 induction h with
 | fn f vals caps hl hr ih=>simp only[lA];rw[key caps ih]
 | agg cs cells hl hr ih=>simp only[lA];rw[key cells ih]
 | _=>rfl
theorem nA {id:Nat} {kvs:List (Int×AV)} {R':Value->AV->Prop} {vals:Nat->Value} {cells:List AV} (h:∀j x,cells[j]? = some x->R' (vals j) (lA id kvs x)) :
  ∀j x,(mJ id kvs cells)[j]? = some x->R' (vals j) x:=by
 intro j x hx;rw[jm,W2] at hx;cases e:cells[j]? with
 | none=>rw[e] at hx;cases hx
 | some y=>
  rw[e] at hx;simp only[Option.map_some,gL] at hx;subst hx;exact h j y e
theorem zG {l:List AV} {H:List (Nat×Blk)} {id:Nat} {kvs:List (Int×AV)} (hb:aa H id=some (.map kvs)) {μ:Nat->Option Nat} {S:Nat->Prop} {a:Act} (hi:Inv C μ S ⟨l,H⟩ a w) :
  Inv C (upd μ id none) (λb=>S b\/μ id=some b) ⟨l.map (lA id kvs),rz id kvs H⟩ a w:=by
 obtain ⟨g0,es0,clk0,vals0,b1,b2,b3,b4⟩:=hi.hp id _ hb
 let S2:Nat->Prop:=λb=>S b\/μ id=some b
 let μ2:Nat->Option Nat:=upd μ id none
 have hS:∀b,S b->S2 b:=λb h=>.inl h
 have rd:∀{v:Value} {x:AV},Rd μ S w v x->Rd μ2 S2 w v (lA id kvs x):=by
  intro v x h
  induction h with
  | any v=>exact .any v
  | pure h=>rw[h.IU];exact .pure (h.mono (aH.refl _ _) hS)
  | agg cs cells hl hr ih=>simp only[lA];exact .agg cs _ WC (nA (R':=λv x=>Rd μ2 S2 w v x) (vals:=λj=>cs.getD j undef) ih)
  | tup cs cells hl hr ih=>simp only[lA];exact .tup cs _ WC (nA (R':=λv x=>Rd μ2 S2 w v x) (vals:=λj=>cs.getD j undef) ih)
  | fn f vals cells hl hr ih=>simp only[lA];exact .fn f vals _ WC (nA (R':=λv x=>Rd μ2 S2 w v x) (vals:=λj=>vals.getD j undef) ih)
  | ptr i size row o g hg=>
   simp only[lA];split
   ·exact .any _
   ·rename_i he;exact .ptr i size row o g QD
  | osl i size o len cap A hc h=>
   simp only[lA];split
   ·exact .any _
   ·rename_i he;refine .osl i size o len cap A hc ?_
    rcases h with h | ⟨g,e',n,h1,h2,h3,h4⟩
    ·exact .inl h
    ·exact .inr ⟨g,e',n,by simp only[μ2,upd];rw[if_neg he];exact h1,h2,h3,h4⟩
  | mp i g hg=>
   simp only[lA];split
   ·rename_i he;subst he;rw[b1] at hg;injection hg with hg;subst hg
    exact .pure (.rm g0 es0 clk0 kvs vals0 (.inr b1) b2 b3 (λp hp=>(b4 p hp).mono (aH.refl _ _) hS))
   ·rename_i he;exact .mp i g QD
  | exs i size o len cap g e n hc hg hr hn=>
   simp only[lA];split
   ·exact .any _
   ·rename_i he;exact .exs i size o len cap g e n hc QD hr hn
  | cndT v x h ih=>exact .cndT v _ ih
  | cndF x=>exact .cndF _
 have m2:∀{i g},μ2 i=some g->i≠id/\μ i=some g:=fun {i g} hg=>by
  simp only[μ2,upd] at hg;split at hg
  ·cases hg
  ·exact ⟨by assumption,hg⟩
 refine ⟨by simp[hi.size],hi.defers,λt x hx=>?_,λi b hb'=>?_,λi g hg=>?_,λi j g h1 h2=>hi.inj i j g (m2 h1).2 (m2 h2).2,hi.frm,λb hb'=>?_⟩
 ·simp only[W2] at hx;cases e:l[t]? with
  | none=>rw[e] at hx;cases hx
  | some y=>
   rw[e] at hx;simp only[Option.map_some,gL] at hx;subst hx;exact rd (hi.tm t y e)
 ·simp only at hb';rw[ot] at hb';split at hb'
  ·cases hb'
  ·rename_i he;cases e1:aa H i with
   | none=>rw[e1] at hb';cases hb'
   | some b0=>
    rw[e1] at hb';simp only[Option.map_some,gL] at hb';subst hb';have hμ:μ2 i=μ i:=by simp only[μ2,upd];rw[if_neg he]
    have:=hi.hp i b0 e1;cases b0 with
    | cells e' z R=>
     rcases this with ⟨rfl,h2⟩ | ⟨g,c,h1,h2,h3,h4,h5⟩
     ·exact .inl ⟨rfl,hμ.trans h2⟩
     ·refine .inr ⟨g,c,hμ.trans h1,h2,by simpa using h3,λrow hrow=>?_,λi' row hi' j x hx=>?_⟩
      ·obtain ⟨r,hr,rfl⟩:=W5.1 hrow;rw[jm,List.length_map];exact h4 r hr
      ·rw[W2] at hi';cases e2:R[i']? with
       | none=>rw[e2] at hi';cases hi'
       | some r=>
        rw[e2] at hi';simp only[Option.map_some,gL] at hi';subst hi';exact nA (R':=λv x=>Rd μ2 S2 w v x) (vals:=λj=>c.getD (i'*z+j) undef) (λj x hx=>rd (h5 i' r e2 j x hx)) j x hx
    | map kvs=>
     obtain ⟨g,es,clk,vals,h1,h2,h3,h4⟩:=this;exact ⟨g,es,clk,vals,hμ.trans h1,h2,h3,λp hp'=>(h4 p hp').mono (aH.refl _ _) hS⟩
    | iter kvs seen=>
     obtain ⟨g,es,clk,vals,had,h1,h2,h4⟩:=this;obtain ⟨m,k1,k2,k3⟩:=h2.lies;exact ⟨g,es,clk,vals,had,hμ.trans h1,⟨⟨m,k1,hS _ k2,k3⟩,h2.map,h2.last,h2.had⟩,λp hp'=>(h4 p hp').mono (aH.refl _ _) hS⟩
    | cap k z N=>
     obtain ⟨h1,g,e,h2,h3⟩:=this;simp only[vT];split
     ·exact .inl ⟨rfl,hμ.trans h1⟩
     ·rename_i hk;refine ⟨hμ.trans h1,g,e,?_,h3⟩;simp only[upd];rw[if_neg hk];exact h2
    | pin k g z N=>
     obtain ⟨h1,h2,h3⟩:=this;simp only[vT];split
     ·exact .inl ⟨rfl,hμ.trans h1⟩
     ·rename_i hk;refine ⟨hμ.trans h1,?_,h3⟩;simp only[upd];rw[if_neg hk];exact h2
 ·obtain ⟨k1,k2⟩:=m2 hg;obtain ⟨⟨b,h1⟩,h2,h3,h4⟩:=hi.dom i g k2;refine ⟨⟨vT id kvs b,?_⟩,h2,?_,h4⟩
  ·simp only at h1 ⊢;rw[ot,if_neg k1,h1];rfl
  ·rintro (h | h)
   ·exact h3 h
   ·exact k1 (hi.inj _ _ _ k2 h)
 ·rcases hb' with h | h
  ·exact hi.sb b h
  ·obtain ⟨_,h2,_,h4⟩:=hi.dom id b h;exact ⟨h4,.inr h2⟩
theorem lq {k:List It} {l:List AV} {H:List (Nat×Blk)} (id:Nat) {kvs:List (Int×AV)} (hb:aa H id=some (.map kvs)) (h:Cw P C Ret k ⟨l.map (lA id kvs),rz id kvs H⟩):Cw P C Ret k ⟨l,H⟩:=
 af (λ_ _ ⟨_,_,hi⟩=>⟨_,_,zG hb hi⟩) h
attribute [go_sem] lA mJ vT rz
theorem tu (hT:TabOK P T) {k:List It} {all:Array Oper} {o:Oper} {l:List Oper} {t:TypeId} {x:Operand} {d:Nat} (ho:o.op=.range t x) (hd:o.dst=some d) (hg:o.guard=none) {kt et:TypeId} (ht:T.und t=.map kt et) {kvs:List (Int×AV)}
  (hx:evS σ x=(True,.rm kvs)) (hf:aa σ.hp d=none) (h:Cw P C Ret (.ops all l::k) ⟨σ.tm.set d (.ptr d 1 0 0),(d,.iter kvs [])::σ.hp⟩):Cw P C Ret (.ops all (o::l)::k) σ:=by
 refine bE Qx (λa w K Q ⟨μ,S,hi⟩ hK=>?_) h;have hv:=hi.evS x u7;rw[hx] at hv;obtain ⟨g,es,clk,vals,hv',h1,h2,h3,h4⟩:=(Rd.ou hv).ou;have hty:P.underlying t=some (.map kt et):=by have:=hT.und t;rw[ht] at this;exact this
 have hax:a.eval x=.map (some g):=hv';have hrun:(execOp a.eval o).run P w=.ok (.value (.pointer (some ⟨w.heap.size,0,none⟩))) (w.alloc (.mapIter (some g) clk #[] clk)):=by
  simp[execOp,ho,hax,run_range_map w t kt et g es clk hty h2]
 unfold Oper.wp;rw[hrun];have hlt:=(hi.sb g h1).1;have hnew:=hi.new d hf (.mapIter (some g) clk #[] clk) (.iter kvs []) ⟨w.heap.size,es,clk,vals,#[],by simp[upd],⟨⟨g,jg w _,h1,by rw[bb w _ g hlt];exact h2⟩,h3,λk r h=>Ql,λe he k hk=>by simp⟩,
  λp hp=>(h4 p hp).mono (λb hb=>bb w _ b (hi.sb b hb).1) (λ_ h=>h)⟩
 have hput:=hnew.put o.dst (u:=.pointer (some ⟨w.heap.size,0,none⟩)) (x:=.ptr d 1 0 0) (by
  have:=Rd.ptr (μ:=upd μ d (some w.heap.size)) (S:=S) (w:=w.alloc (.mapIter (some g) clk #[] clk)) d 1 0 0 w.heap.size (by simp[upd]);simpa using this)
 rw[hd] at hput;refine hK _ _ ⟨upd μ d (some w.heap.size),S,?_⟩;rw[hd];exact hput
theorem run_next_at {g bm since c0:Nat} {seen:Array Nat} {es:Array MapEntry} {clock:Nat} (ty:TypeId) (hg:w.heap[g]? = some (.mapIter (some bm) since seen c0)) (hb:w.heap[bm]? = some (.map es clock)) (hold:∀x∈es.toList,x.born<since) (hsc:since<=c0) :
  ((leftOf es seen).size=0/\(Instr.next (.pointer (some ⟨g,0,none⟩)) false ty).run P w=.ok (.tuple #[.bool false]) w) \/
  ∃e∈(leftOf es seen).toList,∃w1:World,(w1=w\/w1=w.drew)/\(Instr.next (.pointer (some ⟨g,0,none⟩)) false ty).run P w =
   ((setObj g (.mapIter (some bm) since (seen.push e.born) clock)).run P w1).andThen (λ_ w'=>.ok (.tuple #[.bool true,e.key,e.val]) w'):=by
 simp only[Instr.next,getObj,Sem.run_bind,Sem.run,hg,hb,Result.andThen,next_test_false seen es since c0 hold hsc,Bool.false_eq_true,if_false];unfold leftOf;have hmem:∀x∈(Array.filter (λe=>!seen.contains e.born) es).toList,x.born<since:=λx hx=>hold x (by simp at hx ⊢;exact hx.1)
 generalize Array.filter (λe=>!seen.contains e.born) es=L at hmem ⊢;have e1:L.filter (λx=>decide (x.born<since))=L:=Array.filter_eq_self.2 (λx hx=>by simpa using hmem x (by simpa using hx));have e2:L.filter (λx=>decide (x.born≥since))=#[]:=by
  rw[Array.filter_eq_empty_iff];intro x hx;have:=hmem x (by simpa using hx);simp;omega
 simp only[e1,e2,Array.append_empty]
 by_cases h0:L.size=0
 ·left;have:L=#[]:=Array.eq_empty_of_size_eq_zero h0;subst this;refine ⟨rfl,?_⟩;simp[choose,Sem.run,Question.forced]
 ·right;have hne:L.isEmpty=false:=by simp[Array.isEmpty,h0]
  simp only[hne,Bool.false_eq_true,if_false,Array.empty_append,Array.size_map];have hch:∃(j:Nat) (w1:World),j<L.size/\(w1=w\/w1=w.drew)/\(choose (Question.mapNext L.size)).run P w=.ok j w1:=by
   by_cases hf:L.size<=1
   ·exact ⟨0,w,by omega,.inl rfl,by simp[choose,Sem.run,Question.forced,hf]⟩
   ·exact ⟨_,w.drew,Nat.mod_lt _ z8,.inr rfl,by
     simp only[choose,Sem.run,Question.forced,decide_eq_true_eq,hf,if_false,Question.cut];rfl⟩
  obtain ⟨j,w1,hj,hw1,hrun⟩:=hch;refine ⟨L[j],by simp,w1,hw1,?_⟩;simp only[hrun,Array.getElem?_map,YC hj,Option.map_some,Sem.run_bind,Result.andThen];rfl
theorem xB {k:List It} {all:Array Oper} {o:Oper} {l:List Oper} {x:Operand} {d:Nat} (ho:o.op=.next x false) (hg:o.guard=none) {kvs:List (Int×AV)} {seen:List Int}
  (hx:evS σ x=(True,.ptr d 1 0 0)) (hb:aa σ.hp d=some (.iter kvs seen)) (h1:(∀p,p∈kvs->p.1∈seen)->Cw P C Ret (.ops all l::k) (σ.put o.dst (.tup [.bool false])))
  (h2:∀n v,(n,v)∈kvs->n∉seen->Cw P C Ret (.ops all l::k) (St.put ⟨σ.tm,aG σ.hp d (.iter kvs (n::seen))⟩ o.dst (.tup [.bool true,.int .i64 n,v]))):Cw P C Ret (.ops all (o::l)::k) σ:=by
 intro a w hrel
 show wpList P all _ (o::l) a w
 unfold wpList;obtain ⟨μ,S,hi⟩:=hrel;rw[bs hi (c:=true) Qx];refine .inl ?_;have hv:=hi.evS x u7;rw[hx] at hv;obtain ⟨g,hμ,hax⟩:=hv.iZ;obtain ⟨g',es,clk,vals,had,q1,q2,q3⟩:=hi.hp d _ hb;rw[hμ] at q1;injection q1 with q1;subst q1
 obtain ⟨m,k1,k2,k3⟩:=q2.lies;have hax':a.eval x=.pointer (some ⟨g,0,none⟩):=by simpa using hax
 have hcase:=run_next_at (P:=P) o.type k1 k3 (λe he=>q2.map.born e he) (W7 _);unfold Oper.wp
 rcases hcase with ⟨c1,c2⟩ | ⟨e,c1,w1,c2,c3⟩
 ·have hrun:(execOp a.eval o).run P w=.ok (.value (.tuple #[.bool false])) w:=by
   simp[execOp,ho,hax',c2]
  rw[hrun];refine h1 (λp hp=>?_) _ _ ⟨μ,S,hi.put o.dst (.tup _ _ rfl λj y hy=>?_)⟩
  ·obtain ⟨e,he,hk⟩:=q2.map.has p hp;refine (q2.had e he p.1 hk).1 ?_;cases hc:had.contains e.born with
   | true=>rfl
   | false=>
    have:e∈(leftOf es had).toList:=by unfold leftOf;simp at he hc ⊢;exact ⟨he,by simpa using hc⟩
    rw[Array.eq_empty_of_size_eq_zero c1] at this;simp at this
  ·match j,hy with
   | 0,hy=>injection hy with hy;subst hy;exact .pure (.bool false)
   | j+1,hy=>simp at hy
 ·have he:e∈es.toList/\had.contains e.born=false:=by unfold leftOf at c1;simpa using c1
  obtain ⟨n,v,e1,e2,e3⟩:=q2.map.key e he.1;have hn:n∉seen:=λhm=>by rw[(q2.had e he.1 n e1).2 hm] at he;cases he.2
  have hi1:Inv C μ S σ a w1:=by
   rcases c2 with rfl | rfl
   ·exact hi
   ·exact hi.drew
  have hh1:w1.heap=w.heap:=by rcases c2 with rfl | rfl<;>rfl
  have hw1:w1.heap[g]? = some (.mapIter (some m) clk had clk):=by rw[hh1];exact k1
  obtain ⟨w',r1,r2,r3,r4,r5,r6,r7⟩:=oJ (P:=P) (o:=.mapIter (some m) clk (had.push e.born) clk) hw1 (λ_ _ _ h=>nomatch h);have hrun:(execOp a.eval o).run P w=.ok (.value (.tuple #[.bool true,e.key,e.val])) w':=by
   rw[r1] at c3;simp[execOp,ho,hax',c3]
  rw[hrun];have hS:¬S g:=(hi.dom d g hμ).2.2.1;have hw:aH S w w':=λb hb=>by rw[r6 b Qb,hh1]
  have hmg:m≠g:=by rintro rfl;exact hS k2
  have hnd:(es.toList.map (·.key)).Nodup:=q2.map.once;have hblk:cR μ S w' d (.iter kvs (n::seen)):=by
   refine ⟨g,es,clk,vals,had.push e.born,hμ,⟨⟨m,r7,k2,by rw[r6 m hmg,hh1];exact k3⟩,q2.map,λk' r' hkr=>?_,λe' he' k' hk'=>?_⟩,λp hp=>(q3 p hp).mono hw (λ_ h=>h)⟩
   ·injection hkr with h1 h2
    subst h1;exact ⟨e,he.1,e1,by simp⟩
   ·rw[List.mem_cons];have h0:=q2.had e' he' k' hk';have hc:(had.push e.born).contains e'.born=(had.contains e'.born||e'.born==e.born):=by
     rw[Yu];simp
    rw[hc,Bool.or_eq_true,h0,beq_iff_eq];constructor
    ·rintro (h | h)
     ·exact .inr h
     ·left
      -- one stamp, one entry
      have:e'=e:=by
       have hb:=q2.map.nodup;obtain ⟨i,hi⟩:=W9 he';obtain ⟨j,hj⟩:=W9 he.1;have h1:(es.toList.map (·.born))[i]? = some e.born:=by rw[W2,hi,<-h];rfl
       have h2:(es.toList.map (·.born))[j]? = some e.born:=by rw[W2,hj];rfl
       have:=kV hb h1 h2;subst this;rw[hi] at hj;injection hj
      subst this;rw[e1] at hk';injection hk' with _ hk'
      exact hk'.symm
    ·rintro (h | h)
     ·right;subst h;have:e'=e:=by
       obtain ⟨i,hi⟩:=W9 he';obtain ⟨j,hj⟩:=W9 he.1;have h1:(es.toList.map (·.key))[i]? = some (.int .i64 k'):=by rw[W2,hi,<-hk'];rfl
       have h2:(es.toList.map (·.key))[j]? = some (.int .i64 k'):=by rw[W2,hj,<-e1];rfl
       have:=kV hnd h1 h2;subst this;rw[hi] at hj;injection hj
      rw[this]
     ·exact .inl h
  have hi2:=hi1.write d g hμ r2 r3 r4 r5 r6 (by simp[ag,r7,hw1]) _ hblk;refine h2 n v e2 hn _ _ ⟨μ,S,Inv.put hi2 o.dst (.tup _ _ rfl λj y hy=>?_)⟩
  match j,hy with
  | 0,hy=>injection hy with hy;subst hy;exact .pure (.bool true)
  | 1,hy=>
   injection hy with hy;subst hy
   show Rd μ S w' e.key (.int .i64 n)
   rw[e1];exact .pure (.int .i64 n)
  | 2,hy=>
   injection hy with hy;subst hy
   show Rd μ S w' e.val v
   rw[e3];exact .pure ((q3 (n,v) e2).mono hw (λ_ h=>h))
  | j+3,hy=>simp at hy
theorem tt {k:List It} {all:Array Oper} {o:Oper} {l:List Oper} {x:Operand} {d:Nat} (ho:o.op=.entry x) (hg:o.guard=none) {kvs:List (Int×AV)} {n:Int} {seen:List Int} {v:AV}
  (hx:evS σ x=(True,.ptr d 1 0 0)) (hb:aa σ.hp d=some (.iter kvs (n::seen))) (hv:(n,v)∈kvs) (h:Cw P C Ret (.ops all l::k) (σ.put o.dst (.tup [.int .i64 n,v]))):Cw P C Ret (.ops all (o::l)::k) σ:=by
 refine bE Qx (λa w K Q ⟨μ,S,hi⟩ hK=>?_) h;have hvx:=hi.evS x u7;rw[hx] at hvx;obtain ⟨g,hμ,hax⟩:=hvx.iZ;obtain ⟨g',es,clk,vals,had,q1,q2,q3⟩:=hi.hp d _ hb;rw[hμ] at q1;injection q1 with q1;subst q1
 obtain ⟨m,k1,k2,k3⟩:=q2.lies;have hax':a.eval x=.pointer (some ⟨g,0,none⟩):=by simpa using hax
 obtain ⟨e,he,hk,hl⟩:=q2.last n seen rfl;have hf:es.find? (·.born==e.born)=some e:=by rw[<-Array.find?_toList];exact find_born e es.toList q2.map.nodup he
 have hrun:(execOp a.eval o).run P w=.ok (.value (.tuple #[e.key,e.val])) w:=by
  have h0:(Instr.entry (.pointer (some ⟨g,0,none⟩))).run P w=.ok (.tuple #[e.key,e.val]) w:=by
   simp only[Instr.entry,getObj,Sem.run_bind,Sem.run,k1,k3,Result.andThen,hl,bne_self_eq_false,Bool.false_eq_true,if_false,hf];rfl
  simp[execOp,ho,hax',h0]
 unfold Oper.wp;rw[hrun];obtain ⟨n',v',e1,e2,e3⟩:=q2.map.key e he;rw[hk] at e1;injection e1 with _ e1;subst e1
 have hvv:v'=v:=by
  have h1:=bX q2.map.rise e2;have h2:=bX q2.map.rise hv;rw[h1] at h2;injection h2
 subst hvv;refine hK _ _ ⟨μ,S,hi.put o.dst (.tup _ _ rfl λj y hy=>?_)⟩
 match j,hy with
 | 0,hy=>
  injection hy with hy;subst hy
  show Rd μ S w e.key (.int .i64 n)
  rw[hk];exact .pure (.int .i64 n)
 | 1,hy=>
  injection hy with hy;subst hy
  show Rd μ S w e.val v'
  rw[e3];exact .pure (q3 (n,v') e2)
 | j+2,hy=>simp at hy
end
end Go.Eng
namespace Go.Eng
section
variable {P:Program} {T:Tab} {C:Ctx} {σ σ':St} {Ret:St->Prop}
section
variable {k k':List It} {p:Prop}
theorem wG [hT:TabC P T] (hk:Cw P C Ret k' σ') (h:go T 99 k σ=some (p,k',σ'):=by simp only[go_sem];try exact rfl) (hp:p:=by simp[go_sem]):Cw P C Ret k σ:=fw hT.ok 99 h hp hk
theorem wGq [hT:TabC P T] (hp:p) (hk:Cw P C Ret k' σ') (h:go T 99 k σ=some (p,k',σ'):=by simp only[go_sem];try exact rfl):Cw P C Ret k σ:=fw hT.ok 99 h hp hk
theorem wR (hk:Cw P C Ret k' σ) (h:goR 99 k=some k':=by simp only[go_sem];try exact rfl):Cw P C Ret k σ:=mq 99 h hk
variable {c:Operand} {x y:Code} {b:Bool}
theorem wD (ht:b=true->Cw P C Ret (.code x::k) σ) (hf:b=false->Cw P C Ret (.code y::k) σ) (h:evS σ c=(p,.bool b):=by simp only[go_sem];try exact rfl) (hp:p:=by trivial):Cw P C Ret (.code (.cond c x y)::k) σ:=su h hp ht hf
theorem wDT (hk:Cw P C Ret (.code x::k) σ) (h:evS σ c=(p,.bool b):=by simp only[go_sem];try exact rfl) (hp:p:=by trivial) (hb:b=true):Cw P C Ret (.code (.cond c x y)::k) σ:=tr h hp hb hk
theorem wDF (hk:Cw P C Ret (.code y::k) σ) (h:evS σ c=(p,.bool b):=by simp only[go_sem];try exact rfl) (hp:p:=by trivial) (hb:b=false):Cw P C Ret (.code (.cond c x y)::k) σ:=tp h hp hb hk
theorem wN [hT:TabC P T] (n:Nat) {all:Array Oper} {l l1 l2:List Oper} (hk:Cw P C Ret (.ops all l2::k) σ') (h1:l.take n=l1:=by simp only[go_sem];exact rfl) (h2:l.drop n=l2:=by simp only[go_sem];exact rfl)
  (h:jZ T all l1 σ=some (p,[],σ'):=by simp only[go_sem];try exact rfl) (hp:p:=by simp[go_sem]):Cw P C Ret (.ops all l::k) σ:=CT hT.ok n h1 h2 h hp hk
theorem wNq [hT:TabC P T] (n:Nat) {all:Array Oper} {l l1 l2:List Oper} (hp:p) (hk:Cw P C Ret (.ops all l2::k) σ') (h1:l.take n=l1:=by simp only[go_sem];exact rfl) (h2:l.drop n=l2:=by simp only[go_sem];exact rfl)
  (h:jZ T all l1 σ=some (p,[],σ'):=by simp only[go_sem];try exact rfl):Cw P C Ret (.ops all l::k) σ:=CT hT.ok n h1 h2 h hp hk
variable {all:Array Oper} {o:Oper} {l:List Oper} {args:Array Operand} {ats:Array TypeId} {f:FuncId} {fn:Func} {xs:List AV} {r:AV}
theorem wC (hk:Cw P C Ret (.ops all l::k) σ') (F:P.funcs[f]? = some fn) (ho:o.op=.call { callee:=.value c,args,argTypes:=ats }:=by rfl) (hg:o.guard=none:=by rfl) (h:az σ c args.toList=some (p,f,xs):=by simp only[go_sem];try exact rfl) (hp:p:=by simp[go_sem]) (c1:(fn.name == "runtime.NumGoroutine")=false:=by kernel_rfl) (c2:fn.body.isSome=true:=by rfl) (hx:aB xs=[]:=by simp[go_sem]) (hf:aj P f xs [] λr' _=>r'=r) (hr:refs r=[]:=by simp[go_sem]) (ha:σ.put o.dst r=σ':=by simp only[go_sem];exact rfl):Cw P C Ret (.ops all (o::l)::k) σ:=dL ho hg h hp ⟨fn,F,c1,c2⟩ hx hf hr ha hk
theorem wCC (hk:Cw P C Ret (.ops all l::k) σ') {b:Bool} (F:P.funcs[f]? = some fn) (ho:o.op=.call { callee:=.value c,args,argTypes:=ats }:=by rfl) (hg:guardOf all σ o.guard=some b:=by simp only[go_sem];try exact rfl) (h:az σ c args.toList=some (p,f,xs):=by simp only[go_sem];try exact rfl) (hp:b=true->p:=by simp[go_sem]) (c1:(fn.name == "runtime.NumGoroutine")=false:=by kernel_rfl) (c2:fn.body.isSome=true:=by rfl) (hx:aB xs=[]:=by simp[go_sem]) (hf:b=true->aj P f xs [] λr' _=>r'=r) (hr:refs r=[]:=by simp[go_sem]) (ha:σ.put o.dst (.cnd b r)=σ':=by simp only[go_sem];exact rfl):Cw P C Ret (.ops all (o::l)::k) σ:=yU ho hg h hp ⟨fn,F,c1,c2⟩ hx hf hr ha hk
theorem wV (hk:Cw P C Ret (.ops all l::k) σ') {q:Prop} {ys:List AV} (F:P.funcs[f]? = some fn) (ho:o.op=.call { callee:=.value c,args,argTypes:=ats }:=by rfl) (hg:o.guard=none:=by rfl) (h:az σ c args.toList=some (p,f,xs):=by simp only[go_sem];try exact rfl) (hp:p:=by simp[go_sem]) (hv:fD σ.hp xs=some (q,ys):=by simp only[go_sem];try exact rfl) (hq:q:=by simp[go_sem]) (c1:(fn.name == "runtime.NumGoroutine")=false:=by kernel_rfl) (c2:fn.body.isSome=true:=by rfl) (hf:aj P f ys [] λr' _=>r'=r) (hr:r.scalar=true:=by simp[go_sem]) (ha:σ.put o.dst r=σ':=by simp only[go_sem];exact rfl):Cw P C Ret (.ops all (o::l)::k) σ:=nx ho hg h hp hv hq ⟨fn,F,c1,c2⟩ hf hr ha hk
theorem wCG (hk:Cw P C Ret (.ops all l::k) σ') (ids:List Nat) (off:Nat) {H K:List (Nat×Blk)} (F:P.funcs[f]? = some fn) (ho:o.op=.call { callee:=.value c,args,argTypes:=ats }:=by rfl) (hg:o.guard=none:=by rfl) (h:az σ c args.toList=some (p,f,xs):=by simp only[go_sem];try exact rfl) (hp:p:=by simp[go_sem]) (c1:(fn.name == "runtime.NumGoroutine")=false:=by kernel_rfl) (c2:fn.body.isSome=true:=by rfl) (hH:sub ids σ.hp=H:=by simp only[go_sem,Yv,Bool.or_true,Bool.true_or,if_true];try exact rfl) (hf:aj P f xs H λr' H'=>r'=r/\∀id b,aa K id=some b->aa H' id=some b) (hck:(aB xs).all ids.contains=true:=by simp[go_sem]) (hc1:(H.all λp=>(ay p.2).all ids.contains)=true:=by simp[go_sem]) (hc2:((del ids σ.hp).all λp=>(ay p.2).all λi=>!ids.contains i)=true:=by simp[go_sem]) (hc3:closed K (refs r)=true:=by simp only[go_sem]) (hc4:(K.all λp=>(aa σ.hp (p.1+off)).isNone)=true:=by simp[go_sem]) (hτ:(⟨σ.tm.map (iR ids),sg off K++del ids σ.hp⟩:St).put o.dst (ren off r)=σ':=by simp only[go_sem,Yv,Bool.or_true,Bool.true_or,Y1,↓reduceIte];exact rfl):Cw P C Ret (.ops all (o::l)::k) σ:=
 FM ids off ho hg h hp ⟨fn,F,c1,c2⟩ hH hf hck hc1 hc2 hc3 hc4 hτ hk
theorem wTP (ids:List Nat) {H K:List (Nat×Blk)} (F:P.funcs[f]? = some fn) (ho:o.op=.call { callee:=.value c,args,argTypes:=ats }:=by rfl) (h:az σ c args.toList=some (p,f,xs):=by simp only[go_sem];try exact rfl) (hp:p:=by simp[go_sem]) (c1:(fn.name == "runtime.NumGoroutine")=false:=by kernel_rfl) (c2:fn.body.isSome=true:=by rfl) (hH:sub ids σ.hp=H:=by simp only[go_sem,Yv,Bool.or_true,Bool.true_or,Y1,↓reduceIte];try exact rfl) (hck:((aB xs).all ids.contains&&(refs r).all ids.contains&&ids.all (λi=>decide (i<5000)&&(aa K i).isSome)&&K.all (λq=>ids.contains q.1))=true:=by simp[go_sem]) (hnd:(K.map (·.1)).Nodup:=by simp) (hpin:(ids.all λi=>match aa H i with | some b=>eW b | none=>false)=true:=by simp[go_sem]) (hc1:(H.all λq=>(ay q.2).all ids.contains)=true:=by simp[go_sem]) (hc2:(K.all λq=>(ay q.2).all ids.contains)=true:=by simp[go_sem]) (hf:∀G Y N:Nat->Nat,aj P f xs (H++pins ids G Y N) λr' H'=>r'=r/\∀i b,aa (K++pins ids G Y N) i=some b->aa H' i=some b) (hτ:(⟨σ.tm,bS σ.hp K⟩:St).put o.dst r=σ':=by simp only[go_sem,Yv,Bool.or_true,Bool.true_or,Y1,↓reduceIte];exact rfl):eP P C o σ σ':=eb ho h hp ⟨fn,F,c1,c2⟩ ids hH hck hnd hpin hc1 hc2 hf hτ
theorem wP (hk:Cw P C Ret (.ops all l::k) σ') (ids:List Nat) {H K:List (Nat×Blk)} (F:P.funcs[f]? = some fn) (hg:guardOf all σ o.guard=some true:=by rfl) (ho:o.op=.call { callee:=.value c,args,argTypes:=ats }:=by rfl) (h:az σ c args.toList=some (p,f,xs):=by simp only[go_sem];try exact rfl) (hp:p:=by simp[go_sem]) (c1:(fn.name == "runtime.NumGoroutine")=false:=by kernel_rfl) (c2:fn.body.isSome=true:=by rfl) (hH:sub ids σ.hp=H:=by simp only[go_sem,Yv,Bool.or_true,Bool.true_or,Y1,↓reduceIte];try exact rfl) (hck:((aB xs).all ids.contains&&(refs r).all ids.contains&&ids.all (λi=>decide (i<5000)&&(aa K i).isSome)&&K.all (λq=>ids.contains q.1))=true:=by simp[go_sem]) (hnd:(K.map (·.1)).Nodup:=by simp) (hpin:(ids.all λi=>match aa H i with | some b=>eW b | none=>false)=true:=by simp[go_sem]) (hc1:(H.all λq=>(ay q.2).all ids.contains)=true:=by simp[go_sem]) (hc2:(K.all λq=>(ay q.2).all ids.contains)=true:=by simp[go_sem]) (hf:∀G Y N:Nat->Nat,aj P f xs (H++pins ids G Y N) λr' H'=>r'=r/\∀i b,aa (K++pins ids G Y N) i=some b->aa H' i=some b) (hτ:(⟨σ.tm,bS σ.hp K⟩:St).put o.dst r=σ':=by simp only[go_sem,Yv,Bool.or_true,Bool.true_or,Y1,↓reduceIte];exact rfl):Cw P C Ret (.ops all (o::l)::k) σ:=bE hg (eb ho h hp ⟨fn,F,c1,c2⟩ ids hH hck hnd hpin hc1 hc2 hf hτ) hk
end
section
variable {ops:Array Oper} {Q:Exit->Go.Act->World->Prop} {k n:Nat} {acc:dA} {o:Oper} {l l':List Oper} {p:Prop} {ps:List Sp} {sk:dA} {s1:List Loc×List Loc}
theorem sN [hT:TabC P T] (m:Nat) {l1 l2:List Oper} (hk:an P C ops Q k n (acc++sk) l2 σ') (h1:l.take m=l1:=by simp only[go_sem];exact rfl) (h2:l.drop m=l2:=by simp only[go_sem];exact rfl)
  (h:lV T ops l1 σ=some (p,ps,[],σ'):=by simp only[go_sem];try exact rfl) (hp:p:=by simp[go_sem]) (hs:iO ps=sk:=by simp only[go_sem];exact rfl):an P C ops Q k n acc l σ:=AL hT.ok m h1 h2 h hp hs hk
theorem sNq [hT:TabC P T] (m:Nat) {l1 l2:List Oper} (hp:p) (hk:an P C ops Q k n (acc++sk) l2 σ') (h1:l.take m=l1:=by simp only[go_sem];exact rfl) (h2:l.drop m=l2:=by simp only[go_sem];exact rfl)
  (h:lV T ops l1 σ=some (p,ps,[],σ'):=by simp only[go_sem];try exact rfl) (hs:iO ps=sk:=by simp only[go_sem];exact rfl):an P C ops Q k n acc l σ:=AL hT.ok m h1 h2 h hp hs hk
theorem sG [hT:TabC P T] (hk:an P C ops Q k n (acc++sk) l' σ') (h:lV T ops l σ=some (p,ps,l',σ'):=by simp only[go_sem];try exact rfl) (hp:p:=by simp[go_sem]) (hs:iO ps=sk:=by simp only[go_sem];exact rfl):an P C ops Q k n acc l σ:=JJ hT.ok h hp hs hk
theorem sE {j:Nat} (h:bp P C ops Q j σ) (hc:(nj ops k acc&&yZ n acc)=true:=by kernel_rfl) (hj:k+acc.length=j:=by simp only[go_sem];exact rfl):an P C ops Q k n acc l σ:=yq hc hj h
theorem sS (hk:an P C ops Q k n (acc++[s1]) l σ') (hg:guardOf ops σ o.guard=some false:=by simp only[go_sem];try exact rfl) (hs:((⟨o.dst,.cnd false .any,[],cd ops o.guard++[]⟩:Sp).wr,cd ops o.guard)=s1:=by simp only[go_sem];exact rfl)
  (ha:σ.put o.dst (.cnd false .any)=σ':=by simp only[go_sem];exact rfl):an P C ops Q k n acc (o::l) σ:=AM .any hg hs ha hk
theorem sSB (hk:an P C ops Q k n (acc++[s1]) l σ') (hg:guardOf ops σ o.guard=some false:=by simp only[go_sem];try exact rfl) (hs:((⟨o.dst,.cnd false (.bool false),[],cd ops o.guard++[]⟩:Sp).wr,cd ops o.guard)=s1:=by simp only[go_sem];exact rfl)
  (ha:σ.put o.dst (.cnd false (.bool false))=σ':=by simp only[go_sem];exact rfl):an P C ops Q k n acc (o::l) σ:=AM (.bool false) hg hs ha hk
variable {c:Operand} {args:Array Operand} {ats:Array TypeId} {f:FuncId} {fn:Func} {xs:List AV} {r:AV}
theorem sC (hk:an P C ops Q k n (acc++[s1]) l σ') (F:P.funcs[f]? = some fn) (ho:o.op=.call { callee:=.value c,args,argTypes:=ats }:=by rfl) (hg:o.guard=none:=by rfl) (h:az σ c args.toList=some (p,f,xs):=by simp only[go_sem];try exact rfl) (hp:p:=by simp[go_sem]) (c1:(fn.name == "runtime.NumGoroutine")=false:=by kernel_rfl) (c2:fn.body.isSome=true:=by rfl) (hx:aB xs=[]:=by simp[go_sem]) (hf:aj P f xs [] λr' _=>r'=r) (hr:refs r=[]:=by simp[go_sem]) (hs:((eC ops σ o c args.toList r).wr,(eC ops σ o c args.toList r).rd)=s1:=by simp only[go_sem];exact rfl) (ha:σ.put o.dst r=σ':=by simp only[go_sem];exact rfl):an P C ops Q k n acc (o::l) σ:=Hc ho hg h hp ⟨fn,F,c1,c2⟩ hx hf hr hs ha hk
theorem sCC (hk:an P C ops Q k n (acc++[s1]) l σ') {b:Bool} (F:P.funcs[f]? = some fn) (ho:o.op=.call { callee:=.value c,args,argTypes:=ats }:=by rfl) (hg:guardOf ops σ o.guard=some b:=by simp only[go_sem];try exact rfl) (h:az σ c args.toList=some (p,f,xs):=by simp only[go_sem];try exact rfl) (hp:b=true->p:=by simp[go_sem]) (c1:(fn.name == "runtime.NumGoroutine")=false:=by kernel_rfl) (c2:fn.body.isSome=true:=by rfl) (hx:aB xs=[]:=by simp[go_sem]) (hf:b=true->aj P f xs [] λr' _=>r'=r) (hr:refs r=[]:=by simp[go_sem]) (hs:((eC ops σ o c args.toList (.cnd b r)).wr,(eC ops σ o c args.toList (.cnd b r)).rd)=s1:=by simp only[go_sem];exact rfl) (ha:σ.put o.dst (.cnd b r)=σ':=by simp only[go_sem];exact rfl):an P C ops Q k n acc (o::l) σ:=EP ho hg h hp ⟨fn,F,c1,c2⟩ hx hf hr hs ha hk
theorem sW [hT:TabC P T] {d:Nat} {b:Blk} {x:AV} (hk:an P C ops Q k n (acc++[s1]) l σ') (hd:o.dst=some d:=by rfl) (hg:guardOf ops σ o.guard=some true:=by simp only[go_sem];try exact rfl) (h:mV T σ d o.op=some (p,b,x):=by simp only[go_sem];try exact rfl) (hp:p:=by simp[go_sem])
  (hf:aa σ.hp d=none:=by simp only[go_sem];try exact rfl) (hs:([Loc.tm d,Loc.blk d],cd ops o.guard++aQ σ o.op.operands.toList)=s1:=by simp only[go_sem];exact rfl) (ha:St.put ⟨σ.tm,(d,b)::σ.hp⟩ (some d) x=σ':=by simp only[go_sem];exact rfl) :
  an P C ops Q k n acc (o::l) σ:=JI hT.ok hd hg h hp hf hs ha hk
theorem sB [hT:TabC P T] {t:TypeId} {parts:Array (Nat×Operand)} {b:Bool} {x y:AV} (hk:an P C ops Q k n (acc++[s1]) l σ') (ho:o.op=.build t parts:=by rfl) (hg:guardOf ops σ o.guard=some b:=by simp only[go_sem];try exact rfl) (h:fE T σ t parts.toList=some (p,x):=by simp only[go_sem];try exact rfl)
  (hp:b=true->p:=by simp[go_sem]) (hy:(bif b then x else .cnd false x)=y:=by simp only[go_sem,cond_true,cond_false];exact rfl) (hs:((Sp.mk o.dst y [] (cd ops o.guard++aQ σ (parts.toList.map (·.2)))).wr,cd ops o.guard++aQ σ (parts.toList.map (·.2)))=s1:=by simp only[go_sem];exact rfl)
  (ha:σ.put o.dst y=σ':=by simp only[go_sem];exact rfl):an P C ops Q k n acc (o::l) σ:=EO hT.ok ho hg h hp hy hs ha hk
theorem sT [hT:TabC P T] {t:TypeId} {x y:Operand} {id size row off:Nat} {q:Prop} {v:AV} {H:List (Nat×Blk)} {b:Blk} (hk:an P C ops Q k n (acc++[s1]) l σ') (ho:o.op=.store t x y:=by rfl) (hd:o.dst=none:=by rfl) (hg:guardOf ops σ o.guard=some true:=by simp only[go_sem];try exact rfl)
  (hx:evS σ x=(True,.ptr id size row off):=by simp only[go_sem];try exact rfl) (hy:evS σ y=(q,v):=by simp only[go_sem];try exact rfl) (hq:q:=by first | trivial | simp[go_sem]) (h:gN T σ t (.ptr id size row off) v=some (p,H):=by simp only[go_sem];exact rfl) (hp:p:=by simp[go_sem])
  (hH:aa H id=some b:=by simp only[go_sem];exact rfl) (hs:([Loc.blk id],cd ops o.guard++(aQ σ [x,y]++[Loc.blk id]))=s1:=by simp only[go_sem];exact rfl) (ha:(⟨σ.tm,aG σ.hp id b⟩:St)=σ':=by simp only[go_sem];exact rfl):an P C ops Q k n acc (o::l) σ:=
 ey hT.ok ho hd hg hx hy hq h hp hH hs ha hk
theorem dS [hT:TabC P T] {j:Nat} (hk:bp P C ops Q j σ') (ho:ops[k]? = some o:=by rfl) (hc:Region.ready .any ops (bj ops.size k)=[k]:=by kernel_rfl) (hg:o.guard=none:=by rfl) (h:eE T σ o.dst o.op=some (p,σ'):=by simp only[go_sem];try exact rfl) (hp:p:=by simp[go_sem]) (hj:k+1=j:=by rfl) :
  bp P C ops Q k σ:=vK hT.ok ho hc hg h hp hj hk
theorem dSq [hT:TabC P T] {j:Nat} (hp:p) (hk:bp P C ops Q j σ') (ho:ops[k]? = some o:=by rfl) (hc:Region.ready .any ops (bj ops.size k)=[k]:=by kernel_rfl) (hg:o.guard=none:=by rfl) (h:eE T σ o.dst o.op=some (p,σ'):=by simp only[go_sem];try exact rfl) (hj:k+1=j:=by rfl) :
  bp P C ops Q k σ:=vK hT.ok ho hc hg h hp hj hk
end
end
section
variable {P:Program} {C:Ctx} {σ:St}
theorem wT {k:List It} {p:Prop} {r:AV} {res:St->Option (Prop×AV)} {post:AV->St->Prop} (hk:post r σ) (h:res σ=some (p,r):=by simp only[go_sem];try exact rfl) (hp:p:=by simp[go_sem]):Cw P C (λs=>∃p r,res s=some (p,r)/\p/\∃r',wk r r'/\post r' s) (.code .ret::k) σ:=lr ⟨p,r,h,hp,r,.inr (.inl rfl),hk⟩
theorem wU {k:List It} {p:Prop} {r:AV} {res:St->Option (Prop×AV)} {A B:AV->St->Prop} (ha:A r σ) (hb:B r σ) (h:res σ=some (p,r):=by simp only[go_sem];try exact rfl) (hp:p:=by simp[go_sem]):Cw P C (λs=>∃p r,res s=some (p,r)/\p/\∃r',wk r r'/\(A r' s/\B r' s)) (.code .ret::k) σ:=lr ⟨p,r,h,hp,r,.inr (.inl rfl),ha,hb⟩
theorem wKd {Ret:St->Prop} {k:List It} {ops:Array Oper} {n:Nat} (h:Cw P C Ret k σ) (hn:n=ops.size:=by kernel_rfl):bp P C ops (aft (eI C Ret) (sem P C (eI C Ret) k)) n σ:=jA hn h
end
theorem gD (n:Nat):n-0=n:=rfl
theorem gE {α:Type _} (l:List α):l.drop 0=l:=rfl
theorem gF {α β:Type _} (l:List α) (f:α->β):(l.map f).length=l.length:=List.length_map f
theorem gG (n:Nat):0+n=n:=Yc n
theorem wi1 {i:Nat} (h:i<=2000000000000):IntKind.i64.wrap ((i:Int)+1)=((i+1:Nat):Int):=by rw[Eng.wrap_small z8 z8];rfl
theorem gA {α:Type _} {xs:List α} {i:Nat} (h:i<xs.toArray.size):xs.toArray[i]=xs[i]'x7:=List.getElem_toArray h
theorem gB {α:Type _} (a:α) (l:List α) (i:Nat) (h:i+1<(a::l).length):(a::l)[i+1]=l[i]'(Nat.lt_of_succ_lt_succ h):=rfl
theorem gC {α:Type _} (a:α) (l:List α) (h:0<(a::l).length):(a::l)[0]=a:=rfl
section
variable {P:Program} {T:Tab} {C:Ctx} {σ σ':St} {Ret:St->Prop} {k k':List It} {p q:Prop} {c:Operand} {x y:Code} {b:Bool}
theorem wS [hT:TabC P T] {f:FuncId} {fn:Func} {c:Code} {args tm:List AV} {H:List (Nat×Blk)} {post:AV->List (Nat×Blk)->Prop} {n:Nat} {rs:Array ResultVar} {res:St->Option (Prop×AV)} (hf:P.funcs[f]? = some fn) (hn:fn.ntmps=n) (hr:fn.results=rs)
  (h:∀C:Ctx,Cw P C (λs=>∃p r,res s=some (p,r)/\p/\∃r',Eng.wk r r'/\post r' s.hp) [.code c] ⟨tm,H⟩) (hb:fn.body=some c:=by rfl) (ht:args++List.replicate (n-args.length) .any=tm:=by simp only[go_sem];exact rfl) (hR:∀s,pN T s rs.toList=res s:=by intro s;simp only[go_sem];exact rfl):aj P f args H post:=by
 subst hn hr ht;refine ZF hT.ok hf hb λC=>?_
 have e:(λs=>pN T s fn.results.toList)=res:=funext hR;have:=h C;rw[<-e] at this;exact this
theorem wGD [hT:TabC P T] (ht:b=true->Cw P C Ret (.code x::k') σ') (hf:b=false->Cw P C Ret (.code y::k') σ') (h:go T 99 k σ=some (p,.code (.cond c x y)::k',σ'):=by simp only[go_sem];try exact rfl) (hp:p:=by simp[go_sem]) (h2:evS σ' c=(q,.bool b):=by simp only[go_sem];try exact rfl) (hq:q:=by trivial):Cw P C Ret k σ:=fw hT.ok 99 h hp (su h2 hq ht hf)
theorem wGT [hT:TabC P T] {r:AV} {res:St->Option (Prop×AV)} {post:AV->St->Prop} (hk:post r σ') (h:go T 99 k σ=some (p,.code .ret::k',σ'):=by simp only[go_sem];try exact rfl) (hp:p:=by simp[go_sem]) (h2:res σ'=some (q,r):=by simp only[go_sem];try exact rfl) (hq:q:=by simp[go_sem]):Cw P C (λs=>∃p r,res s=some (p,r)/\p/\∃r',wk r r'/\post r' s) k σ:=fw hT.ok 99 h hp (wT hk h2 hq)
theorem wFG [hT:TabC P T] (hk:Cw P C Ret k' σ') (h:evS σ c=(p,.bool b):=by simp only[go_sem];try exact rfl) (hp:p:=by trivial) (hb:b=false) (h2:go T 99 (.code y::k) σ=some (q,k',σ'):=by simp only[go_sem];try exact rfl) (hq:q:=by simp[go_sem]):Cw P C Ret (.code (.cond c x y)::k) σ:=tp h hp hb (fw hT.ok 99 h2 hq hk)
theorem wTG [hT:TabC P T] (hk:Cw P C Ret k' σ') (h:evS σ c=(p,.bool b):=by simp only[go_sem];try exact rfl) (hp:p:=by trivial) (hb:b=true) (h2:go T 99 (.code x::k) σ=some (q,k',σ'):=by simp only[go_sem];try exact rfl) (hq:q:=by simp[go_sem]):Cw P C Ret (.code (.cond c x y)::k) σ:=tr h hp hb (fw hT.ok 99 h2 hq hk)
theorem nt [hT:TabC P T] {p1:Prop} {k1:List It} {σ1:St} (hk:Cw P C Ret k' σ') (h1:go T 99 k σ=some (p1,.code (.cond c x y)::k1,σ1):=by simp only[go_sem];try exact rfl) (hp1:p1:=by simp[go_sem]) (h:evS σ1 c=(p,.bool b):=by simp only[go_sem];try exact rfl) (hp:p:=by trivial) (hb:b=false) (h2:go T 99 (.code y::k1) σ1=some (q,k',σ'):=by simp only[go_sem];try exact rfl) (hq:q:=by simp[go_sem]):Cw P C Ret k σ:=fw hT.ok 99 h1 hp1 (tp h hp hb (fw hT.ok 99 h2 hq hk))
theorem Fe [hT:TabC P T] {p1:Prop} {k1:List It} {σ1:St} (hk:Cw P C Ret k' σ') (h1:go T 99 k σ=some (p1,.code (.cond c x y)::k1,σ1):=by simp only[go_sem];try exact rfl) (hp1:p1:=by simp[go_sem]) (h:evS σ1 c=(p,.bool b):=by simp only[go_sem];try exact rfl) (hp:p:=by trivial) (hb:b=true) (h2:go T 99 (.code x::k1) σ1=some (q,k',σ'):=by simp only[go_sem];try exact rfl) (hq:q:=by simp[go_sem]):Cw P C Ret k σ:=fw hT.ok 99 h1 hp1 (tr h hp hb (fw hT.ok 99 h2 hq hk))
theorem wSG [hT:TabC P T] {f:FuncId} {fn:Func} {c:Code} {args tm:List AV} {H:List (Nat×Blk)} {post:AV->List (Nat×Blk)->Prop} {n:Nat} {rs:Array ResultVar} {res:St->Option (Prop×AV)} (hf:P.funcs[f]? = some fn) (hn:fn.ntmps=n) (hr:fn.results=rs)
  (h:∀C:Ctx,Cw P C (λs=>∃p r,res s=some (p,r)/\p/\∃r',Eng.wk r r'/\post r' s.hp) k' σ') (hb:fn.body=some c:=by rfl) (ht:args++List.replicate (n-args.length) .any=tm:=by simp only[go_sem];exact rfl) (hR:∀s,pN T s rs.toList=res s:=by intro s;simp only[go_sem];exact rfl) (h2:go T 99 [.code c] ⟨tm,H⟩=some (q,k',σ'):=by simp only[go_sem];try exact rfl) (hq:q:=by simp[go_sem]):aj P f args H post:=
 wS hf hn hr (λC=>fw hT.ok 99 h2 hq (h C)) hb ht hR
theorem wCg [hT:TabC P T] {all:Array Oper} {o:Oper} {l:List Oper} {args:Array Operand} {ats:Array TypeId} {f:FuncId} {fn:Func} {xs:List AV} {r:AV} {σ1:St} (hk:Cw P C Ret k' σ') (F:P.funcs[f]? = some fn) (ho:o.op=.call { callee:=.value c,args,argTypes:=ats }:=by rfl) (hg:o.guard=none:=by rfl) (h:az σ c args.toList=some (p,f,xs):=by simp only[go_sem];try exact rfl) (hp:p:=by simp[go_sem]) (c1:(fn.name == "runtime.NumGoroutine")=false:=by kernel_rfl) (c2:fn.body.isSome=true:=by rfl) (hx:aB xs=[]:=by simp[go_sem]) (hf:aj P f xs [] λr' _=>r'=r) (hr:refs r=[]:=by simp[go_sem]) (ha:σ.put o.dst r=σ1:=by simp only[go_sem];exact rfl) (h2:go T 99 (.ops all l::k) σ1=some (q,k',σ'):=by simp only[go_sem];try exact rfl) (hq:q:=by simp[go_sem]):Cw P C Ret (.ops all (o::l)::k) σ:=dL ho hg h hp ⟨fn,F,c1,c2⟩ hx hf hr ha (fw hT.ok 99 h2 hq hk)
theorem wL (n:Nat) (f:Nat->List (Nat×AV)) (g:Nat->List (Nat×Blk)) {c:Code} {l:List AV} {H:List (Nat×Blk)} (h0:Le C ⟨l,H⟩ ⟨iN l (f 0),bS H (g 0)⟩)
  (round:∀i,i<=n->Cw P C Ret (.code c::.back (λs=>∃j,j<=n/\n-j<n-i/\Le C s ⟨iN l (f j),bS H (g j)⟩)::k) ⟨iN l (f i),bS H (g i)⟩):Cw P C Ret (.code (.loop c)::k) ⟨l,H⟩:=ZL (λi=>i<=n) (λi=>n-i) f g 0 (Yp n) h0 round
theorem wNm (t:Nat) {b:Bool} {tm:Bool->List AV} (hk:∀c,b=c->Cw P C Ret k ⟨tm c,σ.hp⟩) (h:σ.tm.getD t .any=.bool b:=by simp only[go_sem];exact rfl) (hs:∀c,σ.tm.set t (.bool c)=tm c:=by intro c;simp only[go_sem];exact rfl):Cw P C Ret k σ:=II t h λc hc=>by rw[hs];exact hk c hc
variable {ops:Array Oper} {id n m:Nat} {acc:dA} {l:List Oper}
theorem wn (h:Cw P C Ret k σ') (hs:σ=σ':=by simp only[go_sem];exact rfl):Cw P C Ret k σ:=hs▸h
theorem wO (h:an P C ops (aft (eI C Ret) (sem P C (eI C Ret) k)) 0 σ.tm.length [] (ops.toList.drop 0) σ) (hm:P.follows .mixedOrders=true:=by exact ZM):Cw P C Ret (.code (.region id ops true)::k) σ:=ZW hm (ZS rfl h)
theorem wGS [hT:TabC P T] (hs:an P C ops (aft (eI C Ret) (sem P C (eI C Ret) k')) 0 σ'.tm.length [] (ops.toList.drop 0) σ') (h:go T 99 k σ=some (p,.code (.region id ops true)::k',σ'):=by simp only[go_sem];try exact rfl) (hp:p:=by simp[go_sem]) (hm:P.follows .mixedOrders=true:=by exact ZM):Cw P C Ret k σ:=fw hT.ok 99 h hp (ZW hm (ZS rfl hs))
theorem wKn (h:Cw P C Ret k σ') (hs:σ=σ':=by first | (simp only[go_sem,gA,gB,gC];exact rfl) | exact rfl) (hn:n=ops.size:=by kernel_rfl):bp P C ops (aft (eI C Ret) (sem P C (eI C Ret) k)) n σ:=by subst hs;exact jA hn h
theorem wX (h:Cw P C Ret k σ') (hs:σ=σ':=by first | (simp only[go_sem,gA,gB,gC];exact rfl) | exact rfl) (hc:(nj ops m acc&&yZ n acc)=true:=by kernel_rfl) (hj:m+acc.length=ops.size:=by kernel_rfl):an P C ops (aft (eI C Ret) (sem P C (eI C Ret) k)) m n acc l σ:=by subst hs;exact yq hc hj (jA rfl h)
theorem wXG [hT:TabC P T] {σ1:St} (h:Cw P C Ret k' σ') (hs:σ=σ1:=by first | (simp only[go_sem,gA,gB,gC];exact rfl) | exact rfl) (h2:go T 99 k σ1=some (q,k',σ'):=by simp only[go_sem];try exact rfl) (hq:q:=by simp[go_sem]) (hc:(nj ops m acc&&yZ n acc)=true:=by kernel_rfl) (hj:m+acc.length=ops.size:=by kernel_rfl):an P C ops (aft (eI C Ret) (sem P C (eI C Ret) k)) m n acc l σ:=by subst hs;exact yq hc hj (jA rfl (fw hT.ok 99 h2 hq h))
theorem wKG [hT:TabC P T] {σ1:St} (h:Cw P C Ret k' σ') (hs:σ=σ1:=by first | (simp only[go_sem,gA,gB,gC];exact rfl) | exact rfl) (h2:go T 99 k σ1=some (q,k',σ'):=by simp only[go_sem];try exact rfl) (hq:q:=by simp[go_sem]) (hn:n=ops.size:=by kernel_rfl):bp P C ops (aft (eI C Ret) (sem P C (eI C Ret) k)) n σ:=by subst hs;exact jA hn (fw hT.ok 99 h2 hq h)
end
theorem wZ {p:Prop} (h:p:=by simp only[go_sem];exact ZU w3 w3 w3):p:=h
theorem wY {p:Prop} (h:p:=by simp only[go_sem];exact ZU w3 w3 (by simp only[go_sem])):p:=h
theorem lt1 {i n:Nat} (h:decide ((i:Int)<(n:Int))=true):i<n:=by have:=of_decide_eq_true h;omega
theorem eq1 {i n:Nat} (hi:i<=n) (h:decide ((i:Int)<(n:Int))=false):i=n:=by have:=of_decide_eq_false h;omega
end Go.Eng
namespace La
open Go Go.Eng Go.Proofs Go.Proofs.Tryz
def jx (a b:Int):Int:=if a<b then -1 else if b<a then 1 else 0
theorem xu (a b:Int):decide (jx a b<0)=decide (a<b):=by
 unfold jx;split
 ·rename_i h;simp[h]
 ·rename_i h;split
  ·simp[h]
  ·simp[h]
theorem IA (a b:Int):decide (jx a b=0)=decide (a=b):=by
 unfold jx;split
 ·rename_i h;have:a≠b:=by omega
  simp[this]
 ·rename_i h;split
  ·have:a≠b:=by omega
   simp[this]
  ·have:a=b:=by omega
   simp[this]
theorem zI (a:Int):Fo 173 [.int .i64 a] (.bool false):=by
 refine wS func173 ntmps173 results173 λC=>?_
 refine wGT ?_;simp
theorem jy (a b:Int):Fo 147 [.int .i64 a,.int .i64 b] (.int .i64 (jx a b)):=by
 refine wSG func147 ntmps147 results147 λC=>?_
 refine wCg ?_ func173 (hf:=zI a);refine wC ?_ func173 (hf:=zI b);refine wGD (λh=>?_) (λh=>?_)
 ·cases h
 refine wGD (λh=>?_) (λh=>?_)
 ·cases h
 refine wGD (λh=>?_) (λh=>?_)
 ·refine wGT ?_
  simp_all [jx]
 refine wGD (λh=>?_) (λh=>?_)
 ·refine wGT ?_
  simp_all [jx]
  all_goals omega
 refine wGT ?_
 simp_all [jx]
 all_goals omega
theorem rX (n:Node) (f:Int):Fo 164 [.agg (ZN n),.int .i64 f] (.int .i64 (jx n.fid f)):=by
 unfold ZN;refine wSG func164 ntmps164 results164 λC=>?_
 refine wC ?_ func147 (hf:=jy n.fid f);refine wGT ?_;rfl
theorem GB {a b:Nat} (h:a+b<=1000000000):IntKind.i64.wrap ((IntKind.u64.wrap (IntKind.i64.wrap ((a:Int)+(b:Int)))).fdiv (2 ^ min 1 64))=(((a+b) / 2:Nat):Int):=by
 have h1:IntKind.i64.wrap ((a:Int)+(b:Int))=((a+b:Nat):Int):=by rw[Eng.wrap_small z8 z8];omega
 have h2:IntKind.u64.wrap ((a+b:Nat):Int)=((a+b:Nat):Int):=by
  simp[IntKind.wrap,IntKind.signed,IntKind.bits];omega
 rw[h1,h2];have h3:(((a+b:Nat):Int)).fdiv (2 ^ min 1 64)=(((a+b) / 2:Nat):Int):=by
  show (((a+b:Nat):Int)).fdiv 2=_
  rw[Int.fdiv_eq_ediv_of_nonneg _ z8];omega
 rw[h3,Eng.wrap_small z8 z8]
def LF (l:List Node) (f:Int) (i:Nat):Bool:=decide ((l.getD i default).fid<f)
theorem oV (lt:Nat->Bool) {lo hi:Nat} (h:lo<hi):bsearch lt (hi-lo) lo hi=if lt ((lo+hi) / 2) then bsearch lt (hi-((lo+hi) / 2+1)) ((lo+hi) / 2+1) hi else bsearch lt ((lo+hi) / 2-lo) lo ((lo+hi) / 2):=by
 obtain ⟨f,hf⟩:∃f,hi-lo=f+1:=⟨hi-lo-1,by omega⟩;rw[hf]
 conv=>lhs;unfold bsearch
 rw[if_pos h];split
 ·exact iV lt _ _ _ _ z8 z8
 ·exact iV lt _ _ _ _ z8 z8
theorem rj (lt:Nat->Bool) {lo hi:Nat} (h:¬lo<hi):bsearch lt (hi-lo) lo hi=lo:=by
 have:hi-lo=0:=by omega
 rw[this];rfl
theorem Al (l:List Node) (f:Int) (hlen:l.length<=100000000):Fo 163 [.sl (l.map ZN),.int .i64 f,.fn 164 []] (.tup [.int .i64 (placeOf l f),.bool (bf l f)]):=by
 refine wSG func163 ntmps163 results163 λC=>?_
 refine ZL (λi:Nat×Nat=>i.1<=i.2/\i.2<=l.length/\bsearch (LF l f) (i.2-i.1) i.1 i.2=placeOf l f) (λi=>i.2-i.1) (λi=>(9,.int .i64 i.1)::(10,.int .i64 i.2)::(11,.any)::u0 15 20 []) (λ_=>[]) (0,l.length) ⟨by simp,by simp,rfl⟩ ?_ λi hi=>?_
 ·exact wZ
 obtain ⟨lo,hi'⟩:=i;obtain ⟨h1,h2,h3⟩:=hi;simp only at h1 h2 h3;simp only[go_sem];refine wGD (λh=>?_) (λh=>?_)
 ·have hlt:=lt1 h;have hml:(lo+hi') / 2<l.length:=by omega
  have hn:=rX (l.getD ((lo+hi') / 2) default) f;have hg:(l.map ZN).getD ((lo+hi') / 2) []=ZN (l.getD ((lo+hi') / 2) default):=Fam.getD hml;have hmid:IntKind.i64.wrap ((IntKind.u64.wrap (IntKind.i64.wrap ((lo:Int)+(hi':Int)))).fdiv (2 ^ min 1 64))=(((lo+hi') / 2:Nat):Int):=GB z8;have hst:=oV (LF l f) hlt;have hlm:LF l f ((lo+hi') / 2)=decide ((l.getD ((lo+hi') / 2) default).fid<f):=rfl;have hm1:lo<=(lo+hi') / 2:=by omega
  have hm2:(lo+hi') / 2<hi':=by omega
  generalize l.getD ((lo+hi') / 2) default=n at hn hg hlm;generalize (lo+hi') / 2=m at *;refine wGq ?_ ?_ (by simp only[go_sem,hmid,hg];try exact rfl)
  ·simp[hmid,hg,hml,ZN]
  refine wC ?_ func164 (hf:=hn);refine wGD (λh=>?_) (λh=>?_)
  ·rw[xu,<-hlm] at h;rw[h,if_pos rfl] at hst;have hw:IntKind.i64.wrap ((m:Int)+1)=((m+1:Nat):Int):=by rw[Eng.wrap_small z8 z8];omega
   refine wG ?_ w4 y7;refine ZB ⟨(m+1,hi'),⟨by omega,h2,hst▸h3⟩,by simp;omega,ZU ?_ ?_ ?_⟩
   ·simp[go_sem]
   ·simp[go_sem]
   ·simp[go_sem]
  ·rw[xu,<-hlm] at h;rw[h,if_neg w8] at hst;refine wG ?_;refine ZB ⟨(lo,m),⟨by omega,by omega,hst▸h3⟩,by simp;omega,ZU ?_ ?_ ?_⟩
   ·simp[go_sem]
   ·simp[go_sem]
   ·simp[go_sem]
 ·have hge:¬lo<hi':=by simp at h;omega
  rw[rj _ hge] at h3;subst h3;refine wR ?_;refine wN 5 ?_;refine wNm 39 λc39 h39=>?_
  cases c39 with
  | true=>
   have hpl:placeOf l f<l.length:=by have:=of_decide_eq_true h39;omega
   have hn:=rX (l.getD (placeOf l f) default) f;have hg:(l.map ZN).getD (placeOf l f) []=ZN (l.getD (placeOf l f) default):=Fam.getD hpl;have hat:bf l f=decide ((l.getD (placeOf l f) default).fid=f):=by simp[bf,hpl]
   generalize l.getD (placeOf l f) default=n at hn hg hat;refine wGq ?_ ?_ u5
   ·simp[hg,hpl,ZN]
   refine wCC ?_ func164 (hf:=λhb=>(hn));refine wGT ?_;have e:(jx n.fid f==0)=decide (n.fid=f):=by rw[<-IA];by_cases h0:jx n.fid f=0<;>simp[h0]
   simp[hat,e]
  | false=>
   have hpl:¬placeOf l f<l.length:=by have:=of_decide_eq_false h39;omega
   have hat:bf l f=false:=by simp[bf,hpl]
   refine wG ?_;refine fF (.int .i64 0) rfl ?_;simp only[go_sem];refine wGT ?_;simp[hat]
theorem A_ (l:List Node) (f:Int) (hlen:l.length<=100000000):Fo 120 [.sl (l.map ZN),.int .i64 f] (.tup [.int .i64 (placeOf l f),.bool (bf l f)]):=by
 refine wSG func120 ntmps120 results120 λC=>?_
 refine wC ?_ func163 (hf:=Al l f hlen);refine wGT ?_;rfl
theorem zE (L:List (List AV)) (i:Nat) (z w:List AV) (hi:i<=L.length) :
  aZ (aZ (L.take i++List.replicate (L.length+1-i) w) i [z]) (i+1) (L.drop i)=L.take i++z::L.drop i:=by
 have hli:(L.take i).length=i:=by rw[YA];omega
 have h1:aZ (L.take i++List.replicate (L.length+1-i) w) i [z]=L.take i++z::List.replicate (L.length-i) w:=by
  unfold aZ;have e1:(L.take i++List.replicate (L.length+1-i) w).take i=L.take i:=by
   rw[List.take_append,hli,Ym,List.take_zero,List.append_nil,List.take_take,Nat.min_self]
  have e2:(L.take i++List.replicate (L.length+1-i) w).drop (i+[z].length)=List.replicate (L.length-i) w:=by
   rw[List.drop_append,Yq (by rw[hli];simp),List.drop_replicate,List.nil_append,hli]
   congr 1;simp;omega
  rw[e1,e2];simp
 rw[h1];unfold aZ;have hl:(L.take i++[z]).length=i+1:=by rw[List.length_append,hli];rfl
 have e1:(L.take i++z::List.replicate (L.length-i) w).take (i+1)=L.take i++[z]:=by
  have:L.take i++z::List.replicate (L.length-i) w=(L.take i++[z])++List.replicate (L.length-i) w:=by simp
  rw[this,List.take_append,hl,Ym,List.take_zero,List.append_nil,W1 z8]
 have e2:(L.take i++z::List.replicate (L.length-i) w).drop (i+1+(L.drop i).length)=[]:=by
  refine Yq ?_;rw[List.length_append,hli,List.length_cons,Yr,YX];omega
 rw[e1,e2];simp
theorem zF (L Z:List (List AV)) (i:Nat) (z:List AV) (hi:i<L.length) (hz:0<Z.length) :
  (aZ (aZ (L++Z) (i+1) (L.drop i)) i [z]).take (L.length+1)=L.take i++z::L.drop i:=by
 have hli:(L.take i).length=i:=by rw[YA];omega
 have hli1:(L.take (i+1)).length=i+1:=by rw[YA];omega
 have h1:aZ (L++Z) (i+1) (L.drop i)=L.take (i+1)++(L.drop i++Z.drop 1):=by
  unfold aZ;have e1:(L++Z).take (i+1)=L.take (i+1):=by rw[List.take_append,show i+1-L.length=0 by omega,List.take_zero,List.append_nil]
  have e2:(L++Z).drop (i+1+(L.drop i).length)=Z.drop 1:=by
   rw[List.drop_append,Yq (by rw[YX];omega),List.nil_append,YX]
   congr 1;omega
  rw[e1,e2,List.append_assoc]
 rw[h1];unfold aZ;have e1:(L.take (i+1)++(L.drop i++Z.drop 1)).take i=L.take i:=by
  rw[List.take_append,hli1,show i-(i+1)=0 by omega,List.take_zero,List.append_nil,List.take_take,Yt z8]
 have e2:(L.take (i+1)++(L.drop i++Z.drop 1)).drop (i+[z].length)=L.drop i++Z.drop 1:=by
  rw[List.drop_append,Yq (by rw[hli1];simp),List.nil_append,hli1,show i+[z].length-(i+1)=0 by simp,List.drop_zero]
 rw[e1,e2];have e3:L.take i++[z]++(L.drop i++Z.drop 1)=(L.take i++z::L.drop i)++Z.drop 1:=by simp
 have e4:(L.take i++z::L.drop i).length=L.length+1:=by rw[List.length_append,hli,List.length_cons,YX];omega
 rw[e3,List.take_append,e4,Ym,List.take_zero,List.append_nil,W1 z8]
theorem take_one (n:Nat) (z:List AV) (hn:0<n):List.take n [z]=[z]:=W1 k6
theorem oU {L:List (List AV)} (i:Nat) (h:(L.all λrow=>row.all AV.leaf)=true):((L.drop i).all λrow=>row.all AV.leaf)=true:=by
 rw[List.all_eq_true] at *;exact λx hx=>h x (YY hx)
def Hw:List AV:=[.int .i64 0,.bool false,.nils,.nils,.int .i64 0]
theorem Ak (L:List (List AV)) (i:Nat) (hi:i<=L.length) (hlen:L.length<=100000000) (hL:rowsOf 5 L) (hlf:(L.all λrow=>row.all AV.leaf)=true) (hnr:∀id,(L.all λrow=>row.all λx=>!(refs x).contains id)=true) :
  aj prog 229 [.osl 1000 5 0 L.length,.int .i64 i,.osl 22 5 0 1] [(22,.cells 94 5 [Hw]),(1000,.cells 94 5 L)] (λr H=>∃j,r=.osl j 5 0 (L.length+1)/\aa H j=some (.cells 94 5 (L.take i++Hw::L.drop i))):=by
 refine wS func229 ntmps229 results229 λC=>?_
 refine wGq ?_ ?_
 ·simp[go_sem];omega
 refine wD (λh=>?_) (λh=>?_)
 ·simp at h
 by_cases hin:i=L.length
 ·subst hin;refine wGq ?_ ?_
  ·simp[go_sem]
  refine wD (λh=>?_) (λh=>?_)
  ·refine wGq ?_ ?_
   ·refine ⟨by simp,by simp,by intro row h;rw[List.mem_singleton.1 h];rfl,λ_ _ _ _ h=>by injection h,rfl,by omega,.inr trivial,by simp,⟨λ_=>by rfl,by simp⟩,?_⟩;rw[hnr 1000];rfl
   refine wT ?_;simp[go_sem]
  ·simp at h
 ·refine wGq ?_ ?_
  ·simp[go_sem]
  refine wD (λh=>?_) (λh=>?_)
  ·simp at h;omega
  refine wR ?_;refine wN 4 ?_;refine FN tK rfl rfl rfl rfl (id:=1000) (s:=5) (off:=0) (len:=L.length) (e':=94) (rows:=L) z7 z7 z8 z8 z7 (λc hc1 hc2=>?_);simp only[go_sem];refine wG ?_;have hw1:IntKind.i64.wrap ((L.length:Int)+((1:Nat):Int))=((L.length+1:Nat):Int):=by rw[Eng.wrap_small z8 z8];omega
  have hw3:IntKind.i64.wrap ((i:Int)+((1:Nat):Int))=((i+1:Nat):Int):=by rw[Eng.wrap_small z8 z8];omega
  have hil:i<L.length:=by omega
  simp only[go_sem,hw1];refine wD (λh=>?_) (λh=>?_)
  ·have hc:=lt1 h;have hcl:c=L.length:=by omega
   subst hcl;have hw2:IntKind.i64.wrap (((L.length+1:Nat):Int)-(i:Int))=((L.length+1-i:Nat):Int):=by rw[Eng.wrap_small z8 z8];omega
   simp only[go_sem,Yc,Ym,List.replicate_zero,List.append_nil];refine wGq ?_ ?_ (by simp only[go_sem,hw1,hw2];try exact rfl)
   ·simp[go_sem];exact hi
   refine bE rfl (uT tK rfl rfl rfl (id:=1000) (s:=5) (len:=i) (n:=L.length+1-i) (j:=30) (N:=L.length) (d:=40) (e':=94) z7 z7 z7 z8 z8 z7 z8 rfl z8 j8 (by show (_+768)*72<=_;omega) z7) ?_;simp only[go_sem];refine wGq ?_ ?_ k8
   ·refine ⟨⟨by simp,by omega,by omega⟩,by simp,by intro row h;rw[List.mem_singleton.1 h];rfl,λ_ _ _ _ h=>by injection h,?_,?_⟩
    ·rw[take_one _ _ z8];rfl
    ·simp;omega
   simp only[go_sem,take_one (i+(L.length+1-i)-i) Hw z8];refine wO ?_;refine sNq 8 ?_ ?_ z6 z6 QL
   ·refine ⟨⟨by simp,by omega,by omega⟩,by simp,by omega,hi⟩
   refine sE ?_;refine dSq ?_ ?_
   ·simp only[go_sem];have e1:List.take (L.length-i) (List.drop i L)=L.drop i:=W1 w8;have e2:List.take (i+(L.length+1-i)-(i+1)) (L.drop i)=L.drop i:=W1 k6;rw[e1,e2];refine ⟨by simp,λrow hrow=>hL row (YY hrow),λ_ _ _ _ h=>by injection h;simp;omega,oU i hlf,?_⟩;rw[ej k6];simp;omega
   refine wKd ?_;have e1:List.take (L.length-i) (List.drop i L)=L.drop i:=W1 w8;have e2:List.take (i+(L.length+1-i)-(i+1)) (L.drop i)=L.drop i:=W1 k6;simp only[go_sem,e1,e2];refine wGT ?_;refine ⟨40,?_,?_⟩
   ·simp[go_sem];omega
   ·rw[zE L i _ _ hi];rfl
  ·have hc:¬c<L.length+1:=by simp at h;omega
   refine wR ?_;refine wN 4 ?_;simp only[go_sem,hw1];refine bE rfl (pW tK rfl rfl (id:=1000) (s:=5) (off:=0) (len:=L.length) (h:=L.length+1) (j:=30) (N:=0+c) z7 z7 z7 z8 z8 rfl z8) ?_;simp only[go_sem];refine wGq ?_ ?_ QL
   ·exact ⟨by simp,by omega,hi⟩
   refine bE rfl (uP tK rfl (f:=241) (i1:=22) (i2:=1000) (s1:=5) (s2:=5) z7 (Go.Proofs.Tryz.func241) rfl rfl rfl rfl rfl j8 z7 z7 j8 z8 z8 j8 z7 z7) ?_;simp only[go_sem];refine wGD (λh=>?_) (λh=>?_)
   ·have hZ1:rowsOf 5 (List.replicate (c-L.length) [AV.any,AV.any,AV.any,AV.any,AV.any]):=λrow hr=>by rw[(Yz.1 hr).2];rfl
    have hZ2:0<(List.replicate (c-L.length) [AV.any,AV.any,AV.any,AV.any,AV.any]).length:=by rw[Yr];omega
    generalize List.replicate (c-L.length) [AV.any,AV.any,AV.any,AV.any,AV.any]=Z at hZ1 hZ2;have e0:List.drop i (L++Z)=L.drop i++Z:=by rw[List.drop_append,show i-L.length=0 by omega,List.drop_zero]
    have e1:(List.take (L.length+1-i) (List.drop i (L++Z))).length=L.length+1-i:=by rw[e0];simp;omega
    have e2:List.take (L.length-i) (List.take (L.length+1-i) (List.drop i (L++Z)))=L.drop i:=by
     rw[List.take_take,Yt z8,e0,List.take_append,YX,Ym,List.take_zero,List.append_nil,W1 w8]
    have e3:L.length+1-(i+1)=L.length-i:=by omega
    refine wR ?_;refine wO ?_;refine sNq 8 ?_ ?_ z6 z6 QL
    ·exact ⟨⟨by simp,by omega,hi⟩,by simp,by omega,by omega⟩
    refine sE ?_;refine dSq ?_ ?_
    ·simp only[go_sem];refine ⟨by simp,λrow hr=>?_,λ_ _ _ _ h=>by injection h with _ _ _ h;rw[e1,h],?_,?_⟩
     ·have:=YY (YF hr)
      rcases List.mem_append.1 this with h | h
      ·exact hL row h
      ·exact hZ1 row h
     ·rw[e3,e2];exact oU i hlf
     ·omega
    refine wKd ?_;simp only[go_sem,e2,e3,gA,gB,gC];refine wGq ?_ ?_
    ·refine ⟨⟨by simp,by omega,by omega⟩,by simp,by intro row h;rw[List.mem_singleton.1 h];rfl,λ_ _ _ _ h=>by injection h,?_,?_⟩
     ·rw[take_one _ _ z8];rfl
     ·rw[ej k6,List.length_append];omega
    simp only[go_sem,take_one (L.length+1-i) Hw z8];refine af (qG (id:=1000) (L.length+1) z6) ?_;simp only[go_sem,zF L Z i Hw hil hZ2];refine wT ?_;refine ⟨1000,?_,?_⟩
    ·simp[go_sem]
    ·rfl
   ·simp at h
def u_:List AV:=[.str [],.int .i64 0]
theorem xC (L:List (List AV)) (i:Nat) (hi:i<=L.length) (hlen:L.length<=100000000) (hL:rowsOf 2 L) (hlf:(L.all λrow=>row.all AV.leaf)=true) (hnr:∀id,(L.all λrow=>row.all λx=>!(refs x).contains id)=true) :
  aj prog 209 [.osl 1000 2 0 L.length,.int .i64 i,.osl 28 2 0 1] [(28,.cells 96 2 [u_]),(1000,.cells 96 2 L)] (λr H=>∃j,r=.osl j 2 0 (L.length+1)/\aa H j=some (.cells 96 2 (L.take i++u_::L.drop i))):=by
 refine wS func209 ntmps209 results209 λC=>?_
 refine wGq ?_ ?_
 ·simp[go_sem];omega
 refine wD (λh=>?_) (λh=>?_)
 ·simp at h
 by_cases hin:i=L.length
 ·subst hin;refine wGq ?_ ?_
  ·simp[go_sem]
  refine wD (λh=>?_) (λh=>?_)
  ·refine wGq ?_ ?_
   ·refine ⟨by simp,by simp,by intro row h;rw[List.mem_singleton.1 h];rfl,λ_ _ _ _ h=>by injection h,rfl,by omega,.inr trivial,by simp,⟨λ_=>by rfl,by simp⟩,?_⟩;rw[hnr 1000];rfl
   refine wT ?_;simp[go_sem]
  ·simp at h
 ·refine wGq ?_ ?_
  ·simp[go_sem]
  refine wD (λh=>?_) (λh=>?_)
  ·simp at h;omega
  refine wR ?_;refine wN 4 ?_;refine FN tK rfl rfl rfl rfl (id:=1000) (s:=2) (off:=0) (len:=L.length) (e':=96) (rows:=L) z7 z7 z8 z8 z7 (λc hc1 hc2=>?_);simp only[go_sem];refine wG ?_;have hw1:IntKind.i64.wrap ((L.length:Int)+((1:Nat):Int))=((L.length+1:Nat):Int):=by rw[Eng.wrap_small z8 z8];omega
  have hw3:IntKind.i64.wrap ((i:Int)+((1:Nat):Int))=((i+1:Nat):Int):=by rw[Eng.wrap_small z8 z8];omega
  have hil:i<L.length:=by omega
  simp only[go_sem,hw1];refine wD (λh=>?_) (λh=>?_)
  ·have hc:=lt1 h;have hcl:c=L.length:=by omega
   subst hcl;have hw2:IntKind.i64.wrap (((L.length+1:Nat):Int)-(i:Int))=((L.length+1-i:Nat):Int):=by rw[Eng.wrap_small z8 z8];omega
   simp only[go_sem,Yc,Ym,List.replicate_zero,List.append_nil];refine wGq ?_ ?_ (by simp only[go_sem,hw1,hw2];try exact rfl)
   ·simp[go_sem];exact hi
   refine bE rfl (uT tK rfl rfl rfl (id:=1000) (s:=2) (len:=i) (n:=L.length+1-i) (j:=30) (N:=L.length) (d:=40) (e':=96) z7 z7 z7 z8 z8 z7 z8 rfl z8 j8 (by show (_+768)*24<=_;omega) z7) ?_;simp only[go_sem];refine wGq ?_ ?_ k8
   ·refine ⟨⟨by simp,by omega,by omega⟩,by simp,by intro row h;rw[List.mem_singleton.1 h];rfl,λ_ _ _ _ h=>by injection h,?_,?_⟩
    ·rw[take_one _ _ z8];rfl
    ·simp;omega
   simp only[go_sem,take_one (i+(L.length+1-i)-i) u_ z8];refine wO ?_;refine sNq 8 ?_ ?_ z6 z6 QL
   ·refine ⟨⟨by simp,by omega,by omega⟩,by simp,by omega,hi⟩
   refine sE ?_;refine dSq ?_ ?_
   ·simp only[go_sem];have e1:List.take (L.length-i) (List.drop i L)=L.drop i:=W1 w8;have e2:List.take (i+(L.length+1-i)-(i+1)) (L.drop i)=L.drop i:=W1 k6;rw[e1,e2];refine ⟨by simp,λrow hrow=>hL row (YY hrow),λ_ _ _ _ h=>by injection h;simp;omega,oU i hlf,?_⟩;rw[ej k6];simp;omega
   refine wKd ?_;have e1:List.take (L.length-i) (List.drop i L)=L.drop i:=W1 w8;have e2:List.take (i+(L.length+1-i)-(i+1)) (L.drop i)=L.drop i:=W1 k6;simp only[go_sem,e1,e2];refine wGT ?_;refine ⟨40,?_,?_⟩
   ·simp[go_sem];omega
   ·rw[zE L i _ _ hi];rfl
  ·have hc:¬c<L.length+1:=by simp at h;omega
   refine wR ?_;refine wN 4 ?_;simp only[go_sem,hw1];refine bE rfl (pW tK rfl rfl (id:=1000) (s:=2) (off:=0) (len:=L.length) (h:=L.length+1) (j:=30) (N:=0+c) z7 z7 z7 z8 z8 rfl z8) ?_;simp only[go_sem];refine wGq ?_ ?_ QL
   ·exact ⟨by simp,by omega,hi⟩
   refine bE rfl (uP tK rfl (f:=230) (i1:=28) (i2:=1000) (s1:=2) (s2:=2) z7 (Go.Proofs.Tryz.func230) rfl rfl rfl rfl rfl j8 z7 z7 j8 z8 z8 j8 z7 z7) ?_;simp only[go_sem];refine wGD (λh=>?_) (λh=>?_)
   ·have hZ1:rowsOf 2 (List.replicate (c-L.length) [AV.any,AV.any]):=λrow hr=>by rw[(Yz.1 hr).2];rfl
    have hZ2:0<(List.replicate (c-L.length) [AV.any,AV.any]).length:=by rw[Yr];omega
    generalize List.replicate (c-L.length) [AV.any,AV.any]=Z at hZ1 hZ2;have e0:List.drop i (L++Z)=L.drop i++Z:=by rw[List.drop_append,show i-L.length=0 by omega,List.drop_zero]
    have e1:(List.take (L.length+1-i) (List.drop i (L++Z))).length=L.length+1-i:=by rw[e0];simp;omega
    have e2:List.take (L.length-i) (List.take (L.length+1-i) (List.drop i (L++Z)))=L.drop i:=by
     rw[List.take_take,Yt z8,e0,List.take_append,YX,Ym,List.take_zero,List.append_nil,W1 w8]
    have e3:L.length+1-(i+1)=L.length-i:=by omega
    refine wR ?_;refine wO ?_;refine sNq 8 ?_ ?_ z6 z6 QL
    ·exact ⟨⟨by simp,by omega,hi⟩,by simp,by omega,by omega⟩
    refine sE ?_;refine dSq ?_ ?_
    ·simp only[go_sem];refine ⟨by simp,λrow hr=>?_,λ_ _ _ _ h=>by injection h with _ _ _ h;rw[e1,h],?_,?_⟩
     ·have:=YY (YF hr)
      rcases List.mem_append.1 this with h | h
      ·exact hL row h
      ·exact hZ1 row h
     ·rw[e3,e2];exact oU i hlf
     ·omega
    refine wKd ?_;simp only[go_sem,e2,e3,gA,gB,gC];refine wGq ?_ ?_
    ·refine ⟨⟨by simp,by omega,by omega⟩,by simp,by intro row h;rw[List.mem_singleton.1 h];rfl,λ_ _ _ _ h=>by injection h,?_,?_⟩
     ·rw[take_one _ _ z8];rfl
     ·rw[ej k6,List.length_append];omega
    simp only[go_sem,take_one (L.length+1-i) u_ z8];refine af (qG (id:=1000) (L.length+1) z6) ?_;simp only[go_sem,zF L Z i u_ hil hZ2];refine wT ?_;refine ⟨1000,?_,?_⟩
    ·simp[go_sem]
    ·rfl
   ·simp at h
theorem mo (d:List UInt8) (hd:d.length<=100000000):Fo 100 [.sl (d.map ZY)] (.sl (d.map ZY)):=by
 refine wSG func100 ntmps100 results100 λC=>?_
 refine mr tK rfl rfl rfl u1 u1 (λb hb=>?_);simp only[go_sem];refine wGD (λh=>?_) (λh=>?_)
 ·refine wG ?_;refine lr ⟨_,_,z7,by simp[go_sem],.sl [],.inr (.inr ⟨rfl,.inl rfl⟩),?_⟩;rw[hb h]
 ·refine wGq ?_ ?_
  ·simp;omega
  refine ZZ 7 rfl (lp _) (wn ?_);refine wT ?_;simp
theorem vf (d:List Entry) (hd:d.length<=100000000):Fo 101 [.sl (d.map ZE)] (.sl (d.map ZE)):=by
 refine wSG func101 ntmps101 results101 λC=>?_
 refine mr tK rfl rfl rfl u1 u1 (λb hb=>?_);simp only[go_sem];refine wGD (λh=>?_) (λh=>?_)
 ·refine wG ?_;refine lr ⟨_,_,z7,by simp[go_sem],.sl [],.inr (.inr ⟨rfl,.inl rfl⟩),?_⟩;rw[hb h]
 ·refine wGq ?_ ?_
  ·simp;omega
  refine ZZ 7 rfl (dB _) (wn ?_);refine wT ?_;simp
theorem sI (l:List Node) (hl:Small l):aj prog 66 [.sl (l.map ZN)] [] (λr H=>r=.osl 23 5 0 (l.map ZN).length/\∀i b,aa [(23,.cells 94 5 (l.map ZN))] i=some b->aa H i=some b):=by
 have hlen:=hl.len;refine wSG func66 ntmps66 results66 λC=>?_
 refine wL l.length (λi=>(3,.osl 23 5 0 i)::(5,.any)::(8,.int .i64 i)::u0 9 16 [])
  (λi=>[(23,.cells 94 5 ((l.take i).map ZN))]) ?_ λi hi=>?_
 ·exact wY
 simp only[go_sem];refine wGD (λh=>?_) (λh=>?_)
 ·have hlt:=lt1 h;have hn:=hl.each _ (YG hlt);have hg:=Fam.getD (f:=ZN) hlt;have hs:=dI ZN hlt;generalize l.getD i default=n at hn hg hs;refine wGq ?_ ?_ u9
  ·simp[hlt,ZN]
  refine wO ?_;refine sG ?_;refine sC ?_ func100 (hf:=mo _ hn.data);refine sG ?_;refine sC ?_ func101 (hf:=vf _ hn.entries);refine sG ?_;refine sE ?_;refine dS ?_;refine ZS rfl ?_;refine sG ?_;refine sE ?_;refine dS ?_;refine wKd ?_;have ht:List.take i (List.map ZN (List.take i l))=List.map ZN (List.take i l):=W1 k6;have hw:IntKind.i64.wrap ((i:Int)+1)=(i:Int)+1:=wrap_small z8 z8;refine wGq ?_ ?_ (by simp only[go_sem,ht,hw];try exact rfl)
  ·simp[rowsOf];omega
  refine ZB ⟨i+1,by omega,by omega,ZU ?_ ?_ ?_⟩
  ·simp[go_sem]
  ·simp[go_sem,hs,ZN]
  ·simp only[go_sem]
 ·obtain rfl:=eq1 hi h;refine wGT ?_;simp[go_sem]
theorem lP (l:List Node) (hl:Small l):Fo 66 [.sl (l.map ZN)] (.sl (l.map ZN)):=aj.read (sI l hl) (fp _)
def ax:Node:=⟨0,false,[],[],0⟩
def fT (l:List Node) (f:Int):AV:=.tup [.agg (ZN ((ak l f).getD ax)),.bool (bf l f)]
theorem zi {l:List Node} {k:Int} (h:bf l k=true):ak l k=some (l.getD (placeOf l k) default):=by unfold ak;rw[if_pos h]
theorem tJ {l:List Node} {k:Int} (h:bf l k=false):ak l k=none:=by unfold ak;rw[if_neg Z9]
@[go_sem,simp] theorem Lw (l:List Node) (f:Int):refs (fT l f)=[]:=by unfold fT;simp[refs,aB]
theorem cS (l:List Node) (k:Int):bf l k=(ak l k).isSome:=by
 cases h:bf l k
 ·rw[tJ h];rfl
 ·rw[zi h];rfl
theorem qn {l:List Node} {k:Int} {n:Node} (h:ak l k=some n):n∈l:=by
 unfold ak at h;split at h
 ·rename_i hc;injection h with h
  subst h;unfold bf at hc;rw[Bool.and_eq_true] at hc;exact YG (of_decide_eq_true hc.1)
 ·cases h
theorem Small.find {l:List Node} (h:Small l) (k:Int):((ak l k).getD ax).Small:=by
 cases e:ak l k with
 | none=>exact ⟨by simp[ax],by simp[ax]⟩
 | some n=>exact h.each n (qn e)
theorem rJ (n:Node):fq (ZN n)=ZN n:=by
 have h1:jb (n.data.map ZY)=n.data.map ZY:=by rw[dV,Yf];rfl
 have h2:jb (n.entries.map ZE)=n.entries.map ZE:=by rw[dV,Yf];rfl
 simp only[ZN,fq,nrm,h1,h2]
theorem F4 (l:List Node) (f:Int) (hl:Small l):Fo 82 [.sl (l.map ZN),.int .i64 f] (.tup [.agg (if bf l f=true then ZN (l.getD (placeOf l f) default) else [.int .i64 0,.bool false,.nils,.nils,.int .i64 0]),.bool (bf l f)]):=by
 refine wSG func82 ntmps82 results82 λC=>?_
 refine wCg ?_ func120 (hf:=A_ l f hl.len);have hple:=lU l f;have hlen:=hl.len;refine wD (λh=>?_) (λh=>?_)
 ·have hat:bf l f=false:=by simpa using h
  refine wGT ?_;simp[hat]
 ·have hat:bf l f=true:=by simpa using h
  have hpl:placeOf l f<l.length:=by
   unfold bf at hat;rw[Bool.and_eq_true] at hat;exact of_decide_eq_true hat.1
  have hn:=YG hpl;have hd:(l.take (placeOf l f+1)).drop (placeOf l f)=[l.getD (placeOf l f) default]:=by rw[List.drop_take,cr hpl,Yk];rfl
  have hw:IntKind.i64.wrap ((placeOf l f:Int)+1)=((placeOf l f+1:Nat):Int):=by rw[Eng.wrap_small z8 z8];omega
  generalize l.getD (placeOf l f) default=n at hn hd;refine wGq ?_ ?_ w4
  ·simp;exact ⟨by omega,by omega,λ_ _=>rfl⟩
  simp only[go_sem,<-List.map_take,<-List.map_drop,hd];refine wC ?_ func66 (hf:=lP [n] ⟨by simp,λx hx=>by rw[List.mem_singleton.1 hx];exact hl.each n hn⟩);refine wGq ?_ ?_ w5
  ·simp[go_sem,ZN]
  refine lr ⟨_,_,by simp only[go_sem,ZN];try exact rfl,by simp[go_sem],_,.inr (.inl rfl),?_⟩;simp[hat,ZN]
theorem dM (l:List Node) (f:Int) (hl:Small l):Fo 82 [.sl (l.map ZN),.int .i64 f] (fT l f):=by
 refine aj.jb (F4 l f hl) ?_;unfold fT;cases h:bf l f
 ·rw[tJ h];rfl
 ·rw[zi h];simp only[if_true,nrm,fq,rJ,Option.getD_some]
theorem rO (l:List Node) (n:Node):(aI l n).length<=l.length+1:=by
 unfold aI;split
 ·simp
 ·have:=lU l n.fid;simp;omega
theorem Dm {rows:List (List AV)} (h:∀id,(rows.all λrow=>row.all λx=>!(refs x).contains id)=true):∀row,row∈rows->∀x,x∈row->refs x=[]:=λrow hr x hx=>by
 refine List.eq_nil_iff_forall_not_mem.2 λid hid=>?_
 have:=List.all_eq_true.1 (List.all_eq_true.1 (h id) row hr) x hx;rw[Yb,List.contains_eq_mem,decide_eq_false_iff_not] at this;exact this hid
theorem zD {L:List (List AV)} {i:Nat} {z:List AV} (h:∀id,(L.all λrow=>row.all λx=>!(refs x).contains id)=true) (hz:∀x,x∈z->refs x=[]):∀row,row∈L.take i++z::L.drop i->∀x,x∈row->refs x=[]:=λrow hr x hx=>by
 rcases List.mem_append.1 hr with h1 | h1
 ·exact Dm h row (YF h1) x hx
 ·rcases List.mem_cons.1 h1 with rfl | h1
  ·exact hz x hx
  ·exact Dm h row (YY h1) x hx
theorem pD (l:List Node):(l.map ZN).map (λrow=>row.map Aj)=l.map ZN:=by
 rw[Yf];rfl
theorem nU (l:List Entry):(l.map ZE).map (λrow=>row.map Aj)=l.map ZE:=by
 rw[Yf];rfl
theorem yd (l:List Node) (i:Nat) (hi:i<=l.length) (hlen:l.length<=100000000) :
  aj prog 229 [.osl 1000 5 0 l.length,.int .i64 i,.osl 22 5 0 1] [(22,.cells 94 5 [[.int .i64 0,.bool false,.nils,.nils,.int .i64 0]]),(1000,.cells 94 5 (l.map ZN))]
   (λr H=>r=.osl 7 5 0 (l.length+1)/\∀i' b,aa [(7,.cells 94 5 ((l.take i++ax::l.drop i).map ZN))] i'=some b->aa H i'=some b):=by
 have hL:(l.map ZN).length=l.length:=List.length_map ..;have:=aj.K8 (rows':=(l.take i++ax::l.drop i).map ZN) 7 (Ak (l.map ZN) i z8 z8 (uk l) (yc l) (λid=>nZ id l)) (by
  rw[List.map_append,List.map_cons,List.map_append,List.map_cons,<-List.map_take,<-List.map_drop,pD,pD];rfl) (zD (λid=>nZ id l) j8)
 rw[hL] at this;exact this
theorem rI (M:List Node) (i:Nat) (n:Node):(M.map ZN).set i (ZN n)=(M.set i n).map ZN:=by rw[List.map_set]
theorem uj {M:List Node} {i:Nat} (h:i<M.length):(M.map ZN).getD i []=[.int .i64 (M.getD i default).fid,.bool (M.getD i default).dir,.sl ((M.getD i default).data.map ZY),.sl ((M.getD i default).entries.map ZE),.int .i64 (M.getD i default).version]:=by
 rw[Fam.getD h];rfl
theorem LN (l:List Node) (n:Node) (hl:Small l) (hn:n.Small):Fo 207 [.sl (l.map ZN),.agg (ZN n)] (.sl ((aI l n).map ZN)):=by
 have hlen:=hl.len;refine wS func207 ntmps207 results207 λC=>?_
 refine wGq ?_ ?_ w5
 ·simp
 refine ZZ 3 rfl (rfl) (wn ?_);refine wCG ?_ [] 977 func66 (hf:=sI l hl);refine wG ?_;refine wV ?_ func120 (hf:=A_ l n.fid hlen);refine wG ?_;have hple:=lU l n.fid;refine wD (λh=>?_) (λh=>?_)
 ·have hat:bf l n.fid=false:=by simpa using h
  refine wG ?_;refine wCG ?_ [1000,22] 200 func229 (hf:=yd l (placeOf l n.fid) hple hlen);have hM:(l.take (placeOf l n.fid)++ax::l.drop (placeOf l n.fid)).length=l.length+1:=by simp;omega
  have hS:(l.take (placeOf l n.fid)++ax::l.drop (placeOf l n.fid)).set (placeOf l n.fid) n=aI l n:=by
   unfold aI;rw[hat,if_neg w8,List.set_append_right _ _ QI,YA,Yt hple,Ym];rfl
  have hpl:placeOf l n.fid<l.length+1:=by omega
  generalize l.take (placeOf l n.fid)++ax::l.drop (placeOf l n.fid)=M at *;have hlt:placeOf l n.fid<(M).length:=by omega
  have hg:=uj hlt;have hq:((M).map ZN).set (placeOf l n.fid) [.int .i64 n.fid,.bool n.dir,.sl (n.data.map ZY),.sl (n.entries.map ZE),.int .i64 n.version]=(aI l n).map ZN:=by
   rw[<-hS,<-rI];rfl
  refine wGq ?_ ?_ w5
  ·simp[ZN]
  refine ZZ 27 rfl (rfl) (wn ?_);refine wC ?_ func66 (hf:=lP [n] ⟨by simp,λx hx=>by rw[List.mem_singleton.1 hx];exact hn⟩);refine wR ?_;refine wN 2 ?_ z6 z6 w5 QU;refine wNq 1 ?_ ?_ z6 z6 w5
  ·simp[ZN,hpl,hM]
  refine wNq 1 ?_ ?_ z6 z6 w5
  ·exact ⟨by simp,hlt⟩
  simp only[go_sem,hg,hq];refine wG ?_;refine ZZ 207 rfl (fp _) (wn ?_);refine wT ?_;rw[if_pos (by rw[<-hS,YN];omega),W1 WI]
 ·have hat:bf l n.fid=true:=by simpa using h
  have hpl:placeOf l n.fid<l.length:=by
   unfold bf at hat;rw[Bool.and_eq_true] at hat;exact of_decide_eq_true hat.1
  have hS:l.set (placeOf l n.fid) n=aI l n:=by
   unfold aI;rw[hat,if_pos rfl]
  have hlt:placeOf l n.fid<(l).length:=by omega
  have hg:=uj hlt;have hq:((l).map ZN).set (placeOf l n.fid) [.int .i64 n.fid,.bool n.dir,.sl (n.data.map ZY),.sl (n.entries.map ZE),.int .i64 n.version]=(aI l n).map ZN:=by
   rw[<-hS,<-rI];rfl
  refine wGq ?_ ?_ w5
  ·simp[ZN]
  refine ZZ 27 rfl (rfl) (wn ?_);refine wC ?_ func66 (hf:=lP [n] ⟨by simp,λx hx=>by rw[List.mem_singleton.1 hx];exact hn⟩);refine wR ?_;refine wN 2 ?_ z6 z6 w5 QU;refine wNq 1 ?_ ?_ z6 z6 w5
  ·simp[ZN,hpl,hple]
  refine wNq 1 ?_ ?_ z6 z6 w5
  ·exact ⟨by simp,hlt⟩
  simp only[go_sem,hg,hq];refine wG ?_;refine ZZ 1000 rfl (fp _) (wn ?_);refine wT ?_;rw[if_pos (by rw[<-hS,YN];omega),W1 WI]
end La
namespace La
open Go
theorem gn:∀(a b:List UInt8),Op.bytesLess a b=decide (a<b)
 | [],[]=>by simp[Op.bytesLess]
 | [],_::_=>by simp[Op.bytesLess]
 | _::_,[]=>by simp[Op.bytesLess]
 | p::a,q::b=>by
  unfold Op.bytesLess;rw[gn a b,Yu];simp only[Bool.or_eq_true,decide_eq_true_eq,Bool.and_eq_true,beq_iff_eq,List.cons_lt_cons_iff]
theorem uJ (a:List UInt8):¬a<a:=List.lt_irrefl a
theorem yz {a b c:List UInt8} (h:a<b) (k:b<c):a<c:=List.lt_trans h k
theorem JR {a b:List UInt8} (h:¬a<b) (k:¬b<a):a=b:=List.le_antisymm (List.not_lt.1 k) (List.not_lt.1 h)
def y_ (l:List Entry) (s:List UInt8) (i:Nat):Bool:=decide ((l.getD i default).name<s)
def aM (l:List Entry) (s:List UInt8):Nat:=bsearch (y_ l s) l.length 0 l.length
def isE (l:List Entry) (s:List UInt8):Bool:=decide (aM l s<l.length)&&decide ((l.getD (aM l s) default).name=s)
def ba (n:Node) (s:List UInt8):Option Int:=if isE n.entries s then some (n.entries.getD (aM n.entries s) default).fid else none
def bF (l:List Entry) (s:List UInt8) (f:Int):List Entry:=if isE l s then l.set (aM l s) ⟨s,f⟩ else l.take (aM l s)++⟨s,f⟩::l.drop (aM l s)
def dv (l:List Entry) (s:List UInt8):List Entry:=l.filter λe=>!(e.name==s)
def aC (n:Node) (s:List UInt8) (f:Int):Node:={ n with entries:=bF n.entries s f }
def aE (n:Node) (s:List UInt8):Node:={ n with entries:=dv n.entries s }
theorem qk (l:List Entry) (s:List UInt8):aM l s<=l.length:=(lk _ _ _ _ (Yp _)).2
def EUp (l:List Entry):Prop:=l.Pairwise λa b=>a.name<b.name
theorem EUp.lt {l:List Entry} (h:EUp l) {i j:Nat} (hij:i<j) (hj:j<l.length):(l.getD i default).name<(l.getD j default).name:=by
 have:=Yx.1 h i j z8 hj hij;rw[List.getD_eq_getElem?_getD,List.getD_eq_getElem?_getD,Wz z8,Wz hj];exact this
theorem EUp.place {l:List Entry} (h:EUp l) (s:List UInt8):(∀i,i<aM l s->(l.getD i default).name<s)/\∀i,aM l s<=i->i<l.length->¬(l.getD i default).name<s:=by
 have:=iW (y_ l s) l.length (λi j hij hj hl=>by
  rcases Nat.lt_or_eq_of_le hij with h1 | rfl
  ·exact decide_eq_true (yz (h.lt h1 hj) (of_decide_eq_true hl))
  ·exact hl) l.length 0 l.length z8 z8 (W7 _) (λi hi=>by omega) (λi h1 h2=>by omega)
 obtain ⟨_,h2,h3⟩:=this;exact ⟨λi hi=>of_decide_eq_true (h2 i hi),λi hi hl=>of_decide_eq_false (h3 i hi hl)⟩
theorem jC {l:List Entry} {x:Entry} {i:Nat} (h:l[i]? = some x):l.getD i default=x:=by rw[List.getD_eq_getElem?_getD,h];rfl
theorem pr {l:List Entry} (h:EUp l) (s:List UInt8):isE l s=true↔∃e,e∈l/\e.name=s:=by
 obtain ⟨p1,p2⟩:=h.place s;unfold isE;rw[Bool.and_eq_true,decide_eq_true_eq,decide_eq_true_eq];constructor
 ·rintro ⟨h1,h2⟩;exact ⟨_,YG h1,h2⟩
 ·rintro ⟨e,he,rfl⟩;obtain ⟨i,hi⟩:=W9 he;have hil:i<l.length:=(W6.1 hi).1;have hix:=jC hi;have hpi:aM l e.name=i:=by
   rcases Nat.lt_trichotomy (aM l e.name) i with h1 | h1 | h1
   ·have:=p2 _ (W7 _) z8;have h3:=h.lt h1 hil;rw[hix] at h3;exact absurd h3 this
   ·exact h1
   ·have:=p1 i h1;rw[hix] at this;exact absurd this (uJ _)
  rw[hpi,hix];exact ⟨hil,rfl⟩
theorem EUp.parts {l:List Entry} (h:EUp l) {s:List UInt8} (hs:isE l s=false):(∀e,e∈l.take (aM l s)->e.name<s)/\∀e,e∈l.drop (aM l s)->s<e.name:=by
 obtain ⟨p1,p2⟩:=h.place s;refine ⟨λe he=>?_,λe he=>?_⟩
 ·obtain ⟨i,hi⟩:=W9 he;rw[YU] at hi;split at hi
  ·rename_i hip;have:=p1 i hip
   rwa [jC hi] at this
  ·cases hi
 ·obtain ⟨i,hi⟩:=W9 he;rw[List.getElem?_drop] at hi;have h1:=p2 (aM l s+i) z8 (W6.1 hi).1;rw[jC hi] at h1
  by_cases h2:s<e.name
  ·exact h2
  ·have h3:=JR h1 h2;have:isE l s=true:=(pr h s).2 ⟨e,W3 hi,h3⟩;rw[hs] at this;cases this
theorem kG {l:List Entry} (h:EUp l) {s:List UInt8} (hs:isE l s=false) (f:Int):EUp (bF l s f)/\(∀e,e∈bF l s f↔e=⟨s,f⟩\/e∈l)/\dv (bF l s f) s=l:=by
 obtain ⟨h1,h2⟩:=h.parts hs;unfold bF dv;rw[hs,if_neg w8];generalize aM l s=p at *;have hmem:∀x,x∈l↔x∈l.take p\/x∈l.drop p:=λx=>by
  have:=List.mem_append (a:=x) (s:=l.take p) (t:=l.drop p);rw[List.take_append_drop] at this;exact this
 refine ⟨?_,λe=>?_,?_⟩
 ·refine List.pairwise_append.2 ⟨h.sublist (List.take_sublist _ _),List.pairwise_cons.2 ⟨h2,h.sublist (List.drop_sublist _ _)⟩,λa ha b hb=>?_⟩
  rcases List.mem_cons.1 hb with rfl | hb
  ·exact h1 a ha
  ·exact yz (h1 a ha) (h2 b hb)
 ·rw[hmem,List.mem_append,List.mem_cons];constructor
  ·rintro (h | h | h)
   ·exact .inr (.inl h)
   ·exact .inl h
   ·exact .inr (.inr h)
  ·rintro (h | h | h)
   ·exact .inr (.inl h)
   ·exact .inl h
   ·exact .inr (.inr h)
 ·rw[List.filter_append,List.filter_cons,Ya.2 (λe he=>?_),Ya.2 (λe he=>?_)]
  ·simp
  ·have:e.name≠s:=by rintro rfl;exact uJ _ (h2 e he)
   simpa using this
  ·have:e.name≠s:=by rintro rfl;exact uJ _ (h1 e he)
   simpa using this
theorem EUp.same {l:List Entry} (h:EUp l) {a b:Entry} (ha:a∈l) (hb:b∈l) (hn:a.name=b.name):a=b:=by
 obtain ⟨i,hi⟩:=W9 ha;obtain ⟨j,hj⟩:=W9 hb;have hil:=(W6.1 hi).1;have hjl:=(W6.1 hj).1
 rcases Nat.lt_trichotomy i j with h1 | h1 | h1
 ·have:=h.lt h1 hjl;rw[jC hi,jC hj,hn] at this;exact absurd this (uJ _)
 ·subst h1;rw[hi] at hj;injection hj
 ·have:=h.lt h1 hil;rw[jC hi,jC hj,hn] at this;exact absurd this (uJ _)
theorem YE {n:Node} (h:EUp n.entries) {s:List UInt8} {f:Int}:ba n s=some f↔⟨s,f⟩∈n.entries:=by
 unfold ba;constructor
 ·intro hf;split at hf
  ·rename_i hc;unfold isE at hc;rw[Bool.and_eq_true,decide_eq_true_eq,decide_eq_true_eq] at hc;have:=YG hc.1;injection hf with hf
   have e:n.entries.getD (aM n.entries s) default=⟨s,f⟩:=by
    cases h0:n.entries.getD (aM n.entries s) default with
    | mk a b=>rw[h0] at hf hc;simp only at hf hc;rw[<-hf,<-hc.2]
   rw[<-e];exact this
  ·cases hf
 ·intro hm;have hi:=(pr h s).2 ⟨_,hm,rfl⟩;rw[if_pos hi];unfold isE at hi;rw[Bool.and_eq_true,decide_eq_true_eq,decide_eq_true_eq] at hi;have:=h.same (YG hi.1) hm hi.2;rw[this]
theorem ze {n:Node} (h:EUp n.entries) {s:List UInt8}:ba n s=none↔∀e,e∈n.entries->e.name≠s:=by
 unfold ba;constructor
 ·intro hf e he hn;rw[if_pos ((pr h s).2 ⟨e,he,hn⟩)] at hf;cases hf
 ·intro hn;rw[if_neg];intro hi;obtain ⟨e,he,h1⟩:=(pr h s).1 hi;exact hn e he h1
end La
namespace La
open Go Go.Eng
structure Kept where
 node:Node
 dirty:Bool
 worth:Int
 last:Int
deriving DecidableEq,Inhabited
structure Verdict where
 err:Int
 fid:Int
deriving DecidableEq,Inhabited
structure Past where
 client:Int
 act:Act
deriving DecidableEq,Inhabited
def ZK (k:Kept):List AV:=[.int .i64 k.node.fid,.bool k.node.dir,.sl (k.node.data.map ZY),.sl (k.node.entries.map ZE),.int .i64 k.node.version,.bool k.dirty,.int .i64 k.worth,.int .i64 k.last]
def a_ (s:List UInt8):List AV:=[.str s]
def ZV (v:Verdict):List AV:=[.int .i64 v.err,.int .i64 v.fid]
def ZP (p:Past):List AV:=[.int .i64 p.client,.int .i64 p.act.kind,.int .i64 p.act.fid,.int .i64 p.act.dir,.str p.act.name,.int .i64 p.act.to,.str p.act.toName,.sl (p.act.data.map ZY)]
theorem fR:Fam ZK 8:=⟨λ_=>rfl,λ_=>rfl,λ_=>rfl,λ_=>rfl⟩
@[go_sem,simp] theorem ua (l:List _):Eng.rowsOf 8 (l.map ZK):=fR.rowsOf l
@[go_sem,simp] theorem xR (l:List _):((l.map ZK).all λrow=>row.all AV.leaf)=true:=fR.kb l
@[go_sem,simp] theorem bg (l:List _):((l.map ZK).all λrow=>row.all AV.aW)=true:=fR.eJ l
@[go_sem,simp] theorem HG (id:Nat) (l:List _):((l.map ZK).all λrow=>row.all λx=>!(refs x).contains id)=true:=fR.jJ id l
@[go_sem,simp] theorem HH (e s:Nat) (l:List _):ay (.cells e s (l.map ZK))=[]:=fR.ay e s l
@[go_sem,simp] theorem I5 (off:Nat) (l:List _):(l.map ZK).map (gP off)=l.map ZK:=Fam.gP (λ_ _=>rfl) off l
@[go_sem,simp] theorem I4 (id s:Nat) (rows:List (List AV)) (l:List _):(l.map ZK).map (dq id s rows)=l.map ZK:=Fam.dq (λ_ _ _ _=>rfl) id s rows l
@[go_sem,simp] theorem kx (a):aB (ZK a)=[]:=fR.free a
theorem gj:Fam ZV 2:=⟨λ_=>rfl,λ_=>rfl,λ_=>rfl,λ_=>rfl⟩
@[go_sem,simp] theorem mj (l:List _):((l.map ZV).all λrow=>row.all AV.aW)=true:=gj.eJ l
@[go_sem,simp] theorem E_ (id:Nat) (l:List _):((l.map ZV).all λrow=>row.all λx=>!(refs x).contains id)=true:=gj.jJ id l
@[go_sem,simp] theorem E' (e s:Nat) (l:List _):ay (.cells e s (l.map ZV))=[]:=gj.ay e s l
@[go_sem,simp] theorem Fj (id s:Nat) (rows:List (List AV)) (l:List _):(l.map ZV).map (dq id s rows)=l.map ZV:=Fam.dq (λ_ _ _ _=>rfl) id s rows l
@[go_sem,simp] theorem Fb (a):aB (ZV a)=[]:=gj.free a
theorem iv:Fam ZP 8:=⟨λ_=>rfl,λ_=>rfl,λ_=>rfl,λ_=>rfl⟩
@[go_sem,simp] theorem jM (l:List _):Eng.rowsOf 8 (l.map ZP):=iv.rowsOf l
@[go_sem,simp] theorem lT (l:List _):((l.map ZP).all λrow=>row.all AV.leaf)=true:=iv.kb l
@[go_sem,simp] theorem ea (l:List _):((l.map ZP).all λrow=>row.all AV.aW)=true:=iv.eJ l
@[go_sem,simp] theorem bJ (id:Nat) (l:List _):((l.map ZP).all λrow=>row.all λx=>!(refs x).contains id)=true:=iv.jJ id l
@[go_sem,simp] theorem HJ (e s:Nat) (l:List _):ay (.cells e s (l.map ZP))=[]:=iv.ay e s l
@[go_sem,simp] theorem Jw (off:Nat) (l:List _):(l.map ZP).map (gP off)=l.map ZP:=Fam.gP (λ_ _=>rfl) off l
@[go_sem,simp] theorem Jv (id s:Nat) (rows:List (List AV)) (l:List _):(l.map ZP).map (dq id s rows)=l.map ZP:=Fam.dq (λ_ _ _ _=>rfl) id s rows l
theorem lx:Fam a_ 1:=⟨λ_=>rfl,λ_=>rfl,λ_=>rfl,λ_=>rfl⟩
@[go_sem,simp] theorem AZ (l:List _):((l.map a_).all λrow=>row.all AV.aW)=true:=lx.eJ l
@[go_sem,simp] theorem JO (id:Nat) (l:List _):((l.map a_).all λrow=>row.all λx=>!(refs x).contains id)=true:=lx.jJ id l
@[go_sem,simp] theorem JP (e s:Nat) (l:List _):ay (.cells e s (l.map a_))=[]:=lx.ay e s l
@[go_sem,simp] theorem JQ (a):aB (a_ a)=[]:=lx.free a
end La
namespace La
open Go Go.Eng Go.Proofs Go.Proofs.Tryz
def qg (a b:List UInt8):Int:=if a<b then -1 else if b<a then 1 else 0
theorem CQ (a b:List UInt8):decide (qg a b<0)=decide (a<b):=by
 unfold qg;split
 ·rename_i h;simp[h]
 ·rename_i h;split
  ·simp[h]
  ·simp[h]
theorem IB (a b:List UInt8):decide (qg a b=0)=decide (a=b):=by
 unfold qg;split
 ·rename_i h;have:a≠b:=by rintro rfl;exact uJ _ h
  simp[this]
 ·rename_i h;split
  ·rename_i h2;have:a≠b:=by rintro rfl;exact uJ _ h2
   simp[this]
  ·rename_i h2;simp[JR h h2]
theorem wg (a:List UInt8):Fo 170 [.str a] (.bool false):=by
 refine wS func170 ntmps170 results170 λC=>?_
 refine wGT ?_;simp
theorem rk (a b:List UInt8):Fo 142 [.str a,.str b] (.int .i64 (qg a b)):=by
 refine wSG func142 ntmps142 results142 λC=>?_
 refine wCg ?_ func170 (hf:=wg a);refine wC ?_ func170 (hf:=wg b);refine wGD (λh=>?_) (λh=>?_)
 ·cases h
 refine wGD (λh=>?_) (λh=>?_)
 ·cases h
 refine wGD (λh=>?_) (λh=>?_)
 ·rename_i h0 h1;have hab:a<b:=by rw[gn] at h;exact of_decide_eq_true h
  refine wGT ?_;simp[qg,hab]
 have hab:¬a<b:=by rw[gn] at h;exact of_decide_eq_false h
 refine wGD (λh=>?_) (λh=>?_)
 ·have hba:b<a:=by
   rw[gn] at h
   by_cases h3:b<a
   ·exact h3
   ·have:=JR hab h3;subst this;simp at h
  refine wGT ?_;simp[qg,hab,hba]
 have hba:¬b<a:=by
  intro h3;have hne:a≠b:=by rintro rfl;exact uJ _ h3
  rw[gn] at h;simp[hab,hne] at h
 refine wGT ?_;simp[qg,hab,hba]
theorem zd (e:Entry) (s:List UInt8):Fo 141 [.agg (ZE e),.str s] (.int .i64 (qg e.name s)):=by
 unfold ZE;refine wSG func141 ntmps141 results141 λC=>?_
 refine wC ?_ func142 (hf:=rk e.name s);refine wGT ?_;rfl
theorem zb (e:Entry) (s:List UInt8):Fo 208 [.agg (ZE e),.str s] (.int .i64 (qg e.name s)):=by
 unfold ZE;refine wSG func208 ntmps208 results208 λC=>?_
 refine wC ?_ func142 (hf:=rk e.name s);refine wGT ?_;rfl
theorem pf (l:List Entry) (s:List UInt8) (hlen:l.length<=100000000) {f:FuncId} (hcal:aJ prog f) (hf:∀e,aj prog f [.agg (ZE e),.str s] [] (λr _=>r=.int .i64 (qg e.name s))) :
  Fo 140 [.sl (l.map ZE),.str s,.fn f []] (.tup [.int .i64 (aM l s),.bool (isE l s)]):=by
 refine wSG func140 ntmps140 results140 λC=>?_
 refine ZL (λi:Nat×Nat=>i.1<=i.2/\i.2<=l.length/\bsearch (y_ l s) (i.2-i.1) i.1 i.2=aM l s) (λi=>i.2-i.1) (λi=>(9,.int .i64 i.1)::(10,.int .i64 i.2)::(11,.any)::u0 15 20 []) (λ_=>[]) (0,l.length) ⟨by simp,by simp,rfl⟩ ?_ λi hi=>?_
 ·exact wZ
 obtain ⟨lo,hi'⟩:=i;obtain ⟨h1,h2,h3⟩:=hi;simp only at h1 h2 h3;simp only[go_sem];refine wGD (λh=>?_) (λh=>?_)
 ·have hlt:=lt1 h;have hml:(lo+hi') / 2<l.length:=by omega
  have hn:=hf (l.getD ((lo+hi') / 2) default);have hg:(l.map ZE).getD ((lo+hi') / 2) []=ZE (l.getD ((lo+hi') / 2) default):=Fam.getD hml;have hmid:IntKind.i64.wrap ((IntKind.u64.wrap (IntKind.i64.wrap ((lo:Int)+(hi':Int)))).fdiv (2 ^ min 1 64))=(((lo+hi') / 2:Nat):Int):=GB z8;have hst:=oV (y_ l s) hlt;have hlm:y_ l s ((lo+hi') / 2)=decide ((l.getD ((lo+hi') / 2) default).name<s):=rfl;have hm1:lo<=(lo+hi') / 2:=by omega
  have hm2:(lo+hi') / 2<hi':=by omega
  generalize l.getD ((lo+hi') / 2) default=n at hn hg hlm;generalize (lo+hi') / 2=m at *;refine wGq ?_ ?_ (by simp only[go_sem,hmid,hg,ZE];try exact rfl)
  ·simp[hmid,hg,hml,ZE]
  refine dL rfl rfl z7 w3 hcal (by simp[go_sem,ne_eq]) (hn) w3 z6 ?_;refine wGD (λh=>?_) (λh=>?_)
  ·rw[CQ,<-hlm] at h;rw[h,if_pos rfl] at hst;have hw:IntKind.i64.wrap ((m:Int)+1)=((m+1:Nat):Int):=by rw[Eng.wrap_small z8 z8];omega
   refine wG ?_ w4 y7;refine ZB ⟨(m+1,hi'),⟨by omega,h2,hst▸h3⟩,by simp;omega,ZU ?_ ?_ ?_⟩
   ·simp[go_sem]
   ·simp[go_sem]
   ·simp[go_sem]
  ·rw[CQ,<-hlm] at h;rw[h,if_neg w8] at hst;refine wG ?_;refine ZB ⟨(lo,m),⟨by omega,by omega,hst▸h3⟩,by simp;omega,ZU ?_ ?_ ?_⟩
   ·simp[go_sem]
   ·simp[go_sem]
   ·simp[go_sem]
 ·have hge:¬lo<hi':=by simp at h;omega
  rw[rj _ hge] at h3;subst h3;refine wR ?_;refine wN 5 ?_;refine wNm 39 λc39 h39=>?_
  cases c39 with
  | true=>
   have hpl:aM l s<l.length:=by have:=of_decide_eq_true h39;omega
   have hn:=hf (l.getD (aM l s) default);have hg:(l.map ZE).getD (aM l s) []=ZE (l.getD (aM l s) default):=Fam.getD hpl;have hat:isE l s=decide ((l.getD (aM l s) default).name=s):=by simp[isE,hpl]
   generalize l.getD (aM l s) default=n at hn hg hat;refine wGq ?_ ?_ s6
   ·simp[hg,hpl,ZE]
   refine yU rfl z7 z7 w3 hcal w3 (λhb=>(hn)) w3 z6 ?_;refine wGT ?_;have e:(qg n.name s==0)=decide (n.name=s):=by rw[<-IB];by_cases h0:qg n.name s=0<;>simp[h0]
   simp[hat,e]
  | false=>
   have hpl:¬aM l s<l.length:=by have:=of_decide_eq_false h39;omega
   have hat:isE l s=false:=by simp[isE,hpl]
   refine wG ?_;refine fF (.int .i64 0) rfl ?_;simp only[go_sem];refine wGT ?_;simp[hat]
def eV:Option Int->AV
 | none=>.tup [.int .i64 0,.bool false]
 | some f=>.tup [.int .i64 f,.bool true]
@[go_sem,simp] theorem K4 (o:Option Int):refs (eV o)=[]:=by cases o<;>simp[eV,refs,aB]
theorem kH (n:Node) (s:List UInt8) (hn:n.Small):Fo 104 [.agg (ZN n),.str s] (eV (ba n s)):=by
 have hlen:=hn.entries;unfold ZN;refine wSG func104 ntmps104 results104 λC=>?_
 refine wC ?_ func140 (hf:=pf n.entries s hlen ⟨_,Go.Proofs.Tryz.func141,by kernel_rfl,rfl⟩ (λe=>zd e s));refine wGD (λh=>?_) (λh=>?_)
 ·have hat:isE n.entries s=false:=by simpa using h
  refine wGT ?_;simp[ba,hat,eV]
 ·have hat:isE n.entries s=true:=by simpa using h
  have hpl:aM n.entries s<n.entries.length:=by
   unfold isE at hat;rw[Bool.and_eq_true] at hat;exact of_decide_eq_true hat.1
  have hg:(n.entries.map ZE).getD (aM n.entries s) []=ZE (n.entries.getD (aM n.entries s) default):=Fam.getD hpl;have hr:ba n s=some (n.entries.getD (aM n.entries s) default).fid:=by simp[ba,hat]
  rw[hr];generalize n.entries.getD (aM n.entries s) default=e at hg;refine wGq ?_ ?_ s6
  ·simp[hg,hpl,ZE]
  refine wT ?_;simp[eV]
theorem tf (d:List Entry) (hd:d.length<=100000000):aj prog 101 [.sl (d.map ZE)] [] (λr H=>r=.osl 7 2 0 d.length/\∀i b,aa [(7,.cells 96 2 (d.map ZE))] i=some b->aa H i=some b):=by
 refine wSG func101 ntmps101 results101 λC=>?_
 refine mr tK rfl rfl rfl u1 u1 (λb hb=>?_);simp only[go_sem];refine wGD (λh=>?_) (λh=>?_)
 ·have hn:d.map ZE=[]:=hb h;have hd0:d=[]:=by simpa using hn
  subst hd0;refine af (le_empty 7 96 2 rfl) ?_;refine wG ?_;refine lr ⟨_,_,by simp only[go_sem];try exact rfl,by simp[go_sem],.osl 7 2 0 0,.inr (.inr ⟨rfl,.inr ⟨7,2,0,rfl⟩⟩),?_⟩;simp[go_sem]
 ·refine wGq ?_ ?_
  ·simp;omega
  refine wT ?_;simp[go_sem]
def lD (n:Node) (id:Nat):List AV:=[.int .i64 n.fid,.bool n.dir,.sl (n.data.map ZY),.osl id 2 0 n.entries.length,.int .i64 n.version]
@[go_sem,simp] theorem Lz (n:Node) (id:Nat):lD n id=[.int .i64 n.fid,.bool n.dir,.sl (n.data.map ZY),.osl id 2 0 n.entries.length,.int .i64 n.version]:=rfl
theorem Au (n:Node) (hn:n.Small):aj prog 66 [.sl [ZN n]] [] (λr H=>r=.osl 23 5 0 1/\∀i b,aa [(23,.cells 94 5 [lD n 1000]),(1000,.cells 96 2 (n.entries.map ZE))] i=some b->aa H i=some b):=by
 refine wSG func66 ntmps66 results66 λC=>?_
 refine ZL (λ_:Bool=>True) (λi=>cond i 1 0) (λi=>match i with
   | true=>(3,.osl 23 5 0 0)::(5,.any)::(8,.int .i64 0)::u0 9 16 []
   | false=>(3,.osl 23 5 0 1)::(5,.any)::(8,.int .i64 1)::u0 9 16 [])
  (λi=>match i with
   | true=>[(23,.cells 94 5 [])]
   | false=>[(23,.cells 94 5 [lD n 1000]),(1000,.cells 96 2 (n.entries.map ZE))]) true trivial ?_ λi hi=>?_
 ·exact wY
 cases i with
 | true=>
  simp only[go_sem];refine wGD (λh=>?_) (λh=>?_)
  ·refine wGq ?_ ?_ w5
   ·simp[ZN]
   refine wO ?_;refine sG ?_;refine sC ?_ func100 (hf:=mo _ hn.data);refine sG ?_;refine ib 993 rfl rfl z7 w3 ⟨_,func101,by kernel_rfl,rfl⟩ w3 (tf _ hn.entries) w3 z7 z7 w3 z6 z6 ?_;refine sG ?_;refine sE ?_;refine dS ?_;refine ZS rfl ?_;refine sG ?_;refine sE ?_;refine dS ?_;refine wKd ?_;refine wGq ?_ ?_
   ·simp[rowsOf]
   refine ZB ⟨false,by simp,ZU ?_ ?_ ?_⟩
   ·simp[go_sem];rfl
   ·simp[go_sem,lD]
   ·simp[go_sem,lD]
  ·simp at h
 | false=>
  simp only[go_sem];refine wGD (λh=>?_) (λh=>?_)
  ·simp at h
  refine wGT ?_;simp[go_sem]
def okC (c:UInt8):Bool:=(decide (97<=c.toNat)&&decide (c.toNat<=122))||(decide (48<=c.toNat)&&decide (c.toNat<=57))
def cH (s:List UInt8):Bool:=decide (1<=s.length)&&decide (s.length<=8)&&s.all okC
theorem C_ (s:List UInt8) (hs:s.length<=100000000):Fo 139 [.str s] (.bool (cH s)):=by
 refine wS func139 ntmps139 results139 λC=>?_
 refine wR ?_;refine wN 1 ?_;refine wR ?_;cases e1:decide ((s.length:Int)<1) with
 | true=>
  have hno:cH s=false:=by
   have h1:=of_decide_eq_true e1;unfold cH;rw[show decide (1<=s.length)=false from decide_eq_false z8];rfl
  refine wG ?_ (by simp only[go_sem,e1];try exact rfl) (by simp[go_sem,e1]);refine wD (λh=>?_) (λh=>?_)
  ·refine wGT ?_;rw[hno]
  ·cases h
 | false=>
  have h1:=of_decide_eq_false e1;cases e2:decide ((s.length:Int)>8) with
  | true=>
   have hno:cH s=false:=by
    have h2:=of_decide_eq_true e2;unfold cH;rw[show decide (s.length<=8)=false from decide_eq_false z8,Bool.and_false];rfl
   refine wG ?_ (by simp only[go_sem,e1,e2];try exact rfl) (by simp[go_sem,e1,e2]);refine wD (λh=>?_) (λh=>?_)
   ·refine wGT ?_;rw[hno]
   ·cases h
  | false=>
   have h2:=of_decide_eq_false e2;have hyes:cH s=s.all okC:=by
    unfold cH;rw[show decide (1<=s.length)=true from decide_eq_true z8,show decide (s.length<=8)=true from decide_eq_true z8];rfl
   rw[hyes];refine wG ?_ (by simp only[go_sem,e1,e2];try exact rfl) (by simp[go_sem,e1,e2]);refine wD (λh=>?_) (λh=>?_)
   ·cases h
   refine wG ?_;refine ZL (λi:Nat=>i<=s.length/\∀j,j<i->okC (s.getD j 0)=true) (λi=>s.length-i) (λi=>(3,.any)::(4,.any)::(15,.int .i64 i)::u0 16 20 []) (λ_=>[]) 0 ⟨by omega,by omega⟩ ?_ λi hi=>?_
   ·exact wZ
   obtain ⟨hi,hs⟩:=hi;simp only[go_sem];refine wGD (λh=>?_) (λh=>?_)
   ·have hlt:=lt1 h;have hw:=wi1 (i:=i) z8;have hno:okC (s.getD i 0)=false->s.all okC=false:=λh0=>by
     cases e:s.all okC with
     | false=>rfl
     | true=>
      have:=List.all_eq_true.1 e (s.getD i 0) (by rw[List.getD_eq_getElem?_getD,Wz hlt];exact YW hlt);rw[this] at h0;cases h0
    have hyes:okC (s.getD i 0)=true->∀j,j<i+1->okC (s.getD j 0)=true:=λh0 j hj=>by
     rcases Nat.lt_succ_iff_lt_or_eq.1 hj with h1 | rfl
     ·exact hs j h1
     ·exact h0
    refine wR ?_;refine wN 2 ?_;refine wR ?_;refine wN 2 ?_;refine wNq 1 ?_ ?_
    ·simp;omega
    refine wN 1 ?_;refine wR ?_;generalize s.getD i 0=c at hno hyes;have hc:okC c=((!(decide ((c.toNat:Int)<97))&&!(decide ((c.toNat:Int)>122)))||(!(decide ((c.toNat:Int)<48))&&!(decide ((c.toNat:Int)>57)))):=by
     unfold okC;rw[Yu];simp only[Bool.or_eq_true,Bool.and_eq_true,decide_eq_true_eq,Yb,decide_eq_false_iff_not];omega
    generalize hf1:decide ((c.toNat:Int)<97)=f1 at hc;generalize hf2:decide ((c.toNat:Int)>122)=f2 at hc;generalize hf3:decide ((c.toNat:Int)<48)=f3 at hc;generalize hf4:decide ((c.toNat:Int)>57)=f4 at hc;refine wNq 14 ?_ ?_ z6 z6 WH
    ·cases f1<;>cases f2<;>cases f3<;>cases f4<;>simp
    have hb:(bif (bif f1 then true else f2) then (bif f3 then true else f4) else false)=!okC c:=by
     rw[hc];cases f1<;>cases f2<;>cases f3<;>cases f4<;>rfl
    simp only[go_sem,hb];refine wD (λh=>?_) (λh=>?_)
    ·have h0:okC c=false:=by simpa using h
     refine wGT ?_;rw[hno h0]
    ·have h0:okC c=true:=by simpa using h
     refine wG ?_ w4 y7;refine ZB ⟨i+1,⟨by omega,hyes h0⟩,by omega,ZU ?_ ?_ ?_⟩
     ·simp[go_sem]
     ·simp[go_sem]
     ·simp[go_sem]
   ·have e:i=s.length:=by simp at h;omega
    have:s.all okC=true:=List.all_eq_true.2 λx hx=>by
     obtain ⟨j,hj⟩:=W9 hx;have:=hs j (by rw[e];exact (W6.1 hj).1)
     rwa [List.getD_eq_getElem?_getD,hj] at this
    refine wGT ?_;rw[this]
end La
namespace La
def cA (a:Act):List Int:=if a.kind=3 then [a.fid] else if a.kind=5 then [a.fid,a.dir,a.to] else [a.fid,a.dir]
def Rec.names (r:Rec) (fid:Int):Bool:=(cA r.act).contains fid
def eA (fid:Int) (r:Rec):Bool:=r.act.fid==fid&&(r.act.kind==1||r.act.kind==2)
def fH (a:Act) (dir:Int) (name:List UInt8):Bool:=
 if a.kind=1\/a.kind=2\/a.kind=4 then a.dir==dir&&a.name==name
 else if a.kind=5 then (a.dir==dir&&a.name==name)||(a.to==dir&&a.toName==name) else false
def bars (fid dir:Int) (name:List UInt8) (x:Rec):Bool:=(x.act.kind != 3&&x.names fid)||fH x.act dir name
def eK (l:List Rec) (r:Rec):Bool:=
 match l.findIdx? (eA r.act.fid) with
 | none=>false
 | some k=>r.act.kind==4&&(l.getD k default).act.dir==r.act.dir&&(l.getD k default).act.name==r.act.name&&!((l.drop (k+1)).any (bars r.act.fid (l.getD k default).act.dir (l.getD k default).act.name))
def stored (r x:Rec):Bool:=x.act.kind==3&&x.act.fid==r.act.fid
def cQ (l:List Rec) (r:Rec):List Rec:=if r.act.kind=3 then l.filter λx=>!(stored r x) else l
def dt (l:List Rec) (r:Rec):Option (List Rec):=
 if eK l r then some (l.filter λx=>!(x.names r.act.fid))
 else if (cQ l r).length≥20 then none else some (cQ l r++[r])
theorem je (l:List Rec) (r:Rec):(cQ l r).Sublist l:=by
 unfold cQ;split
 ·exact Yw
 ·exact List.Sublist.refl _
def cI (r:Rec) (s:Int) (x:Rec):Int:=
 if s=0 then (if eA r.act.fid x then (if x.act.dir=r.act.dir/\x.act.name=r.act.name then 1 else 2) else 0)
 else if s=1 then (if bars r.act.fid r.act.dir r.act.name x then 2 else 1) else s
theorem mm (r:Rec):∀l:List Rec,l.foldl (cI r) 2=2
 | []=>rfl
 | x::l=>by simp only[List.foldl_cons];rw[show cI r 2 x=2 from by simp[cI]];exact mm r l
theorem rf (r:Rec):∀l:List Rec,l.foldl (cI r) 1=if l.any (bars r.act.fid r.act.dir r.act.name) then 2 else 1
 | []=>rfl
 | x::l=>by
  simp only[List.foldl_cons,List.any_cons]
  by_cases h:bars r.act.fid r.act.dir r.act.name x=true
  ·rw[show cI r 1 x=2 from by simp[cI,h],mm];simp[h]
  ·rw[show cI r 1 x=1 from by simp[cI,h],rf];simp[h]
theorem mf (r:Rec) (hk:r.act.kind=4):∀l:List Rec,(l.foldl (cI r) 0==1)=eK l r
 | []=>rfl
 | x::l=>by
  have ih:=mf r hk l;simp only[List.foldl_cons];unfold eK at ih ⊢;rw[List.findIdx?_cons]
  by_cases h:eA r.act.fid x=true
  ·simp only[h,if_true]
   by_cases h2:x.act.dir=r.act.dir/\x.act.name=r.act.name
   ·rw[show cI r 0 x=1 from by simp[cI,h,h2],rf];simp only[List.getD_cons_zero,h2.1,h2.2,hk,List.drop_succ_cons,List.drop_zero,Yc];cases (l.any (bars r.act.fid r.act.dir r.act.name))<;>simp
   ·rw[show cI r 0 x=2 from by simp only[cI,h,if_true,if_neg h2],mm];simp only[List.getD_cons_zero]
    by_cases h3:x.act.dir=r.act.dir
    ·have h4:¬x.act.name=r.act.name:=λe=>h2 ⟨h3,e⟩
     simp[h4]
    ·simp[h3]
  ·rw[show cI r 0 x=0 from by simp[cI,h],ih];simp only[h,if_false,Bool.false_eq_true];cases e:l.findIdx? (eA r.act.fid) with
   | none=>simp
   | some k=>simp
end La
namespace La
open Go Go.Eng Go.Proofs Go.Proofs.Tryz
def Act.Small (a:Act):Prop:=a.data.length<=100000000
structure SmallL (l:List Rec):Prop where
 len:l.length<=100000000
 each:∀r,r∈l->r.act.Small
theorem ml (a:Act) (ha:a.Small):Fo 67 [.agg (ZA a)] (.agg (ZA a)):=by
 unfold ZA;refine wSG func67 ntmps67 results67 λC=>?_
 refine wC ?_ func100 (hf:=mo _ ha);refine wGT ?_;rfl
theorem qI (l:List Rec) (hl:SmallL l):aj prog 69 [.sl (l.map ZR)] [] (λr H=>r=.osl 19 9 0 (l.map ZR).length/\∀i b,aa [(19,.cells 51 9 (l.map ZR))] i=some b->aa H i=some b):=by
 have hlen:=hl.len;refine wSG func69 ntmps69 results69 λC=>?_
 refine wL l.length (λi=>(3,.osl 19 9 0 i)::(5,.any)::(8,.int .i64 i)::u0 9 12 [])
  (λi=>[(19,.cells 51 9 ((l.take i).map ZR))]) ?_ λi hi=>?_
 ·exact wY
 simp only[go_sem];refine wGD (λh=>?_) (λh=>?_)
 ·have hlt:=lt1 h;have hn:=hl.each _ (YG hlt);have hg:=Fam.getD (f:=ZR) hlt;have hs:=dI ZR hlt;generalize l.getD i default=n at hn hg hs;refine wGq ?_ ?_ u6
  ·simp[hlt,ZR]
  refine wC ?_ func67 (hf:=ml n.act hn);have ht:List.take i (List.map ZR (List.take i l))=List.map ZR (List.take i l):=W1 k6;have hw:IntKind.i64.wrap ((i:Int)+1)=(i:Int)+1:=wrap_small z8 z8;refine wGq ?_ ?_ (by simp only[go_sem,ht,hw,ZA];try exact rfl)
  ·simp[rowsOf];omega
  refine ZB ⟨i+1,by omega,by omega,ZU ?_ ?_ ?_⟩
  ·simp[go_sem]
  ·simp[go_sem,hs,ZR]
  ·simp only[go_sem]
 ·obtain rfl:=eq1 hi h;refine wGT ?_;simp[go_sem]
theorem kQ (l:List Rec) (hl:SmallL l):Fo 69 [.sl (l.map ZR)] (.sl (l.map ZR)):=aj.read (qI l hl) (dg _)
end La
namespace La
open Go Go.Eng
theorem xJ {P:Program} {f:FuncId} {args:List AV} {H:List (Nat×Blk)} {Y:AV} (h:aj P f args H λr _=>Eng.nrm r=Y):aj P f args H λr _=>r=Y:=by
 intro R0 μ w0 vs hl ha hH hR;refine (h R0 μ w0 vs hl ha hH hR).mono ?_;rintro e' w' ⟨v,r,H',μ',S',rfl,rfl,h4,h5⟩;exact ⟨v,_,H',μ',S',rfl,rfl,h4.nrm,h5⟩
theorem Ar (l:List (List UInt8)):Eng.jb (l.map a_)=l.map a_:=by
 rw[dV,Yf];exact Yj λx _=>rfl
end La
namespace Go.Eng
section
variable {P:Program} {T:Tab} {C:Ctx} {σ σ':St} {μ:Nat->Option Nat} {S:Nat->Prop} {a:Act} {w:World} {Ret:St->Prop} {k:List It}
def mv1 (p q:Nat):AV->AV
 | .osl id s o l=>if id=p then .osl q s o l else .osl id s o l
 | .ptr id s r o=>if id=p then .ptr q s r o else .ptr id s r o
 | x=>kill p x
theorem gR (p q:Nat) {e s:Nat} {rows:List (List AV)} {H':List (Nat×Blk)} {l':List AV} (hb:aa σ.hp p=some (.cells e s rows):=by simp only[go_sem];exact rfl) (hq:aa σ.hp q=none:=by simp only[go_sem];try exact rfl) (hr:ay (.cells e s rows)=[]:=by simp only[go_sem];try exact rfl)
  (hH:dT σ.hp p=H':=by simp only[go_sem,dT];exact rfl) (hf:(H'.all λx=>!(ay x.2).contains p)=true:=by simp only[go_sem];try exact rfl) (ht:σ.tm.map (mv1 p q)=l':=by simp only[go_sem,mv1,kill];exact rfl):Le C σ ⟨l',(q,.cells e s rows)::H'⟩:=by
 subst hH ht;intro a w ⟨μ,S,hi⟩;have hne:p≠q:=λh=>by subst h;rw[hb] at hq;cases hq
 have hmq:μ q=none:=by
  cases h:μ q with
  | none=>rfl
  | some g=>obtain ⟨⟨b,h1⟩,_⟩:=hi.dom q g h;rw[hq] at h1;cases h1
 let ν:Nat->Option Nat:=λi=>if i=q then μ p else if i=p then none else μ i
 have hνq:ν q=μ p:=by simp[ν]
 have hν:∀i,i≠p->i≠q->ν i=μ i:=λi h1 h2=>by simp[ν,h1,h2]
 have hm:∀i,i≠p->∀g,μ i=some g->ν i=some g:=λi h g hg=>by
  rw[hν i h (λe=>by subst e;rw[hmq] at hg;cases hg)];exact hg
 have hv:∀i g,ν i=some g->(i=q/\μ p=some g)\/(i≠p/\i≠q/\μ i=some g):=λi g h=>by
  simp only[ν] at h;split at h
  ·exact .inl ⟨by assumption,h⟩
  ·split at h
   ·cases h
   ·exact .inr ⟨by assumption,by assumption,h⟩
 have hkill:∀{v:Value} {y:AV},Rd μ S w v y->Rd ν S w v (kill p y):=fun {v y} h=>by
  unfold kill;split
  ·exact .any v
  ·rename_i hc;exact h.less λid hid g hg=>hm id (λe=>by subst e;exact hc (by simpa using hid)) g hg
 refine ⟨ν,S,by simpa using hi.size,hi.defers,λt x hx=>?_,λid b hb'=>?_,λid g hg=>?_,λi j g h1 h2=>?_,hi.frm,hi.sb⟩
 ·simp only[W2] at hx;obtain ⟨y,hy,rfl⟩:=YV.1 hx;have h:=hi.tm t y hy;cases y with
  | osl id s' o n=>
   simp only[mv1];split
   ·rename_i e;subst e;obtain ⟨A,cap,e1,hc,hor⟩:=h.bZ;rw[e1];refine .osl q s' o n cap A hc ?_
    rcases hor with h | ⟨g,e2,m,k1,k2,k3,k4⟩
    ·exact .inl h
    ·exact .inr ⟨g,e2,m,hνq.trans k1,k2,k3,k4⟩
   ·rename_i e;exact h.less λi hid g hg=>hm i (λe'=>by simp only[refs,List.mem_singleton] at hid;exact e (hid.symm.trans e')) g hg
  | ptr id s' r o=>
   simp only[mv1];split
   ·rename_i e;subst e;obtain ⟨g,k1,e1⟩:=h.iZ;rw[e1];exact .ptr q s' r o g (hνq.trans k1)
   ·rename_i e;exact h.less λi hid g hg=>hm i (λe'=>by simp only[refs,List.mem_singleton] at hid;exact e (hid.symm.trans e')) g hg
  | _=>exact hkill h
 ·simp only[aa] at hb';split at hb'
  ·rename_i e';injection hb' with hb'
   subst e' hb';have hk:=hi.hp p _ hb
   rcases hk with ⟨k1,k2⟩ | ⟨g,c,k1,k2,k3,k4,k5⟩
   ·exact .inl ⟨k1,hνq.trans k2⟩
   ·refine .inr ⟨g,c,hνq.trans k1,k2,k3,k4,λi row hi' j x hx=>(k5 i row hi' j x hx).less λid hid g' hg'=>?_⟩;have:id∈ay (.cells e s rows):=List.mem_flatMap.2 ⟨row,W3 hi',aX hx hid⟩;rw[hr] at this;cases this
  ·rename_i hq';have hb2:=hb';rw[bB] at hb';split at hb'
   ·cases hb'
   ·rename_i hp';refine (hi.hp id b hb').less (hν id (λe=>hp' e.symm) (λe=>hq' e.symm)) λi hid g hg=>hm i (λe=>?_) g hg
    subst e;have:=List.all_eq_true.1 hf _ (aP hb2);simp at this;exact this hid
 ·rcases hv id g hg with ⟨rfl,h⟩ | ⟨h1,h2,h⟩
  ·exact ⟨⟨_,by simp only[aa,if_true];rfl⟩,(hi.dom p g h).2⟩
  ·obtain ⟨⟨b,hb1⟩,h3⟩:=hi.dom id g h;exact ⟨⟨b,by simp only[aa,if_neg (λe:q=id=>h2 e.symm),bB,if_neg (λe:p=id=>h1 e.symm)];exact hb1⟩,h3⟩
 ·rcases hv i g h1 with ⟨rfl,k⟩ | ⟨k1,k2,k⟩<;>rcases hv j g h2 with ⟨rfl,m⟩ | ⟨m1,m2,m⟩
  ·rfl
  ·exact absurd (hi.inj p j g k m) (λe=>m1 e.symm)
  ·exact absurd (hi.inj i p g k m) k1
  ·exact hi.inj i j g k m
theorem kd (r:Nat) (p q:List Nat) {ops ops':Array Oper} {Q:Exit->Act->World->Prop} {o:Oper} {x:Operand} (ho:ops[r]? = some o) (hop:o.op=.move x) (hg:o.guard=none)
  (hQ:∀c a w,¬Q (.panic c) a w) (h1:AA r p q ops=true) (h2:sx r o ops=true) (he:(bK r p q ops.toList).toArray=ops') {y:AV} (hx:evS σ x=(True,y))
  (hk:bp P C ops' Q 0 (σ.put o.dst y)):bp P C ops Q 0 σ:=by
 subst he;have hF:=qQ h1;have hrl:=hF.rl;have hpl:=hF.pl;intro a w ⟨μ,S,hi⟩;have hv:=hi.evS x u7;rw[hx] at hv;obtain ⟨u,hr,hu⟩:∃u,Rd μ S w u y/\u=a.eval x:=⟨_,hv,rfl⟩;have hrel:Rel C (σ.put o.dst y) (a.put o.dst u) w:=⟨μ,S,hi.put o.dst hr⟩;have hk':=hk _ _ hrel;have hs:(bK r p q ops.toList).toArray.size+1=ops.size:=by simp[bK,hpl]
 obtain ⟨n,hn⟩:∃n,ops.size=n+1:=⟨ops.size-1,by omega⟩;have hsz:(bK r p q ops.toList).toArray.size=n:=by omega
 unfold sx at h2;rw[Bool.and_eq_true] at h2;have hafter:o.after=#[]:=Array.isEmpty_iff.1 h2.1;have hd0:∀(m i:Nat) (d:Bool),(bj m 0).getD i d=if i<m then false else d:=λm i d=>by rw[fI];simp
 rw[hn,Nat.sub_zero];refine wpAny_first (v:=u) ho hF.sel (λc a w hc=>absurd hc (hQ c _ _)) n _ a w (λk oj hoj hkr _ hw=>?_) (mem_ready.2 ⟨?_,o,ho,λe he=>by rw[hafter] at he;simp at he⟩) (.inl ⟨by rw[Region.wanted,hg],λw'=>?_⟩) ?_
 ·have:=List.all_eq_true.1 h2.2 k (Yn.2 (Ye.1 hoj).1);rw[hoj] at this;simp only[Bool.or_eq_true,beq_iff_eq,Array.any_eq_true',Bool.and_eq_true] at this
  rcases this with h | ⟨e,he,hb,hon⟩ | h
  ·exact absurd h hkr
  ·exact absurd hon (hw e he hb)
  ·exact h
 ·rw[<-hn,hd0,if_pos hrl]
 ·subst hu;simp[execOp,hop]
 ·rw[hsz,Nat.sub_zero] at hk';refine ym hF n _ _ _ _ WT WT ?_ (λi hi=>?_) hk'
  ·rw[Array.getD_eq_getD_getElem?,Yi,if_pos rfl,if_pos (by simp[bj];omega)];rfl
  ·have e2:((bj (n+1) 0).setIfInBounds r true).getD i false=(bj (n+1) 0).getD i false:=by
    rw[Array.getD_eq_getD_getElem?,Yi,if_neg (λe=>hi e.symm),<-Array.getD_eq_getD_getElem?]
   rw[e2,hd0,hd0];split<;>split<;>rfl
end
end Go.Eng
namespace Go.Eng
section
variable {P:Program} {T:Tab} {C:Ctx} {σ σ':St} {μ:Nat->Option Nat} {S:Nat->Prop} {a:Act} {w:World} {Ret:St->Prop} {k:List It}
theorem mu (r:Nat) (p q:List Nat) {ops ops':Array Oper} {Q:Exit->Act->World->Prop} {o:Oper} (ho:ops[r]? = some o) (hg:o.guard=none)
  (hQ:∀c a w,¬Q (.panic c) a w) (h1:AA r p q ops=true) (h2:sx r o ops=true) (he:(bK r p q ops.toList).toArray=ops') {y:AV}
  (hx:∀μ S a w,Inv C μ S σ a w->∃u,(∀w',(execOp a.eval o).run P w'=.ok (.value u) w')/\Rd μ S w u y)
  (hk:bp P C ops' Q 0 (σ.put o.dst y)):bp P C ops Q 0 σ:=by
 subst he;have hF:=qQ h1;have hrl:=hF.rl;have hpl:=hF.pl;intro a w ⟨μ,S,hi⟩;obtain ⟨u,hu,hr⟩:=hx μ S a w hi;have hrel:Rel C (σ.put o.dst y) (a.put o.dst u) w:=⟨μ,S,hi.put o.dst hr⟩;have hk':=hk _ _ hrel;have hs:(bK r p q ops.toList).toArray.size+1=ops.size:=by simp[bK,hpl]
 obtain ⟨n,hn⟩:∃n,ops.size=n+1:=⟨ops.size-1,by omega⟩;have hsz:(bK r p q ops.toList).toArray.size=n:=by omega
 unfold sx at h2;rw[Bool.and_eq_true] at h2;have hafter:o.after=#[]:=Array.isEmpty_iff.1 h2.1;have hd0:∀(m i:Nat) (d:Bool),(bj m 0).getD i d=if i<m then false else d:=λm i d=>by rw[fI];simp
 rw[hn,Nat.sub_zero];refine wpAny_first (v:=u) ho hF.sel (λc a w hc=>absurd hc (hQ c _ _)) n _ a w (λk oj hoj hkr _ hw=>?_) (mem_ready.2 ⟨?_,o,ho,λe he=>by rw[hafter] at he;simp at he⟩) (.inl ⟨by rw[Region.wanted,hg],hu⟩) ?_
 ·have:=List.all_eq_true.1 h2.2 k (Yn.2 (Ye.1 hoj).1);rw[hoj] at this;simp only[Bool.or_eq_true,beq_iff_eq,Array.any_eq_true',Bool.and_eq_true] at this
  rcases this with h | ⟨e,he,hb,hon⟩ | h
  ·exact absurd h hkr
  ·exact absurd hon (hw e he hb)
  ·exact h
 ·rw[<-hn,hd0,if_pos hrl]
 ·rw[hsz,Nat.sub_zero] at hk';refine ym hF n _ _ _ _ WT WT ?_ (λi hi=>?_) hk'
  ·rw[Array.getD_eq_getD_getElem?,Yi,if_pos rfl,if_pos (by simp[bj];omega)];rfl
  ·have e2:((bj (n+1) 0).setIfInBounds r true).getD i false=(bj (n+1) 0).getD i false:=by
    rw[Array.getD_eq_getD_getElem?,Yi,if_neg (λe=>hi e.symm),<-Array.getD_eq_getD_getElem?]
   rw[e2,hd0,hd0];split<;>split<;>rfl
theorem xa (hT:TabOK P T) {o:Oper} {t e:TypeId} {x:Operand} {lo hi':Option Operand} (ho:o.op=.slice t x lo hi' none) (ht:T.und t=.sl e) {id s off len l h:Nat} (hs:T.siz e=s) (hz:s≠0) (hx:evS σ x=(True,.osl id s off len))
  (hlo:(lo=none/\l=0)\/∃q,lo=some q/\∃kk,evS σ q=(True,.int kk (l:Nat))) (hhi:(hi'=none/\h=len)\/∃q,hi'=some q/\∃kk,evS σ q=(True,.int kk (h:Nat))) (hlh:l<=h) (hhl:h<=len) :
  ∀μ S a w,Inv C μ S σ a w->∃u,(∀w',(execOp a.eval o).run P w'=.ok (.value u) w')/\Rd μ S w u (.osl id s (off+l) (h-l)):=by
 intro μ S a w hi;have hu:=hT.und t;rw[ht] at hu;simp only[jX] at hu;have hv:=hi.evS x u7;rw[hx] at hv;obtain ⟨A,cap,hA,hc,hor⟩:=hv.bZ;have k1:gf (lo.map a.eval) 0 l:=by
  rcases hlo with ⟨rfl,rfl⟩ | ⟨q,rfl,kk,hq⟩
  ·rfl
  ·have:=hi.evS q (by rw[hq];trivial);rw[hq] at this;exact ⟨kk,this.aL⟩
 have k2:gf (hi'.map a.eval) len h:=by
  rcases hhi with ⟨rfl,rfl⟩ | ⟨q,rfl,kk,hq⟩
  ·rfl
  ·have:=hi.evS q (by rw[hq];trivial);rw[hq] at this;exact ⟨kk,this.aL⟩
 have hrun:∀w',(Instr.sliceAt t (.slice A len cap) (lo.map a.eval) (hi'.map a.eval) none).run P w'=.ok (.slice (if cap=l then A else A.map (·.add (l*T.siz e))) (h-l) (cap-l)) w':=λw'=>by
  simp[Instr.sliceAt,Instr.slice,run_underlying hu,fN (P:=P) (w:=w') true len cap l h (lo.map a.eval) (hi'.map a.eval) k1 k2 hlh z8,bD hT (by rw[hs];exact hz)]
 refine ⟨.slice (if cap=l then A else A.map (·.add (l*T.siz e))) (h-l) (cap-l),λw'=>?_,.osl id s (off+l) (h-l) (cap-l) _ z8 ?_⟩
 ·have:=hrun w';simp only[execOp,ho];rw[hA];simp[this]
 ·rcases hor with ⟨j1,j2⟩ | ⟨g,e',n,j1,rfl,j3,j4⟩
  ·exact .inl ⟨by omega,by omega⟩
  ·by_cases hcl:cap=l
   ·exact .inl ⟨by omega,by omega⟩
   ·refine .inr ⟨g,e',n,j1,?_,j3,?_⟩
    ·rw[if_neg hcl];simp[add_plain,hs,Nat.add_mul]
    ·rw[show off+l+(cap-l)=off+cap from by omega];exact j4
theorem Io {o:Oper} {t ty:TypeId} {x y:Operand} (ho:o.op=.binOp .add t x y ty) {kk:IntKind} {m n:Int} (hx:evS σ x=(True,.int kk m)) (hy:evS σ y=(True,.int kk n)) :
  ∀μ S a w,Inv C μ S σ a w->∃u,(∀w',(execOp a.eval o).run P w'=.ok (.value u) w')/\Rd μ S w u (.int kk (kk.wrap (m+n))):=by
 intro μ S a w hi;have h1:=hi.evS x u7;have h2:=hi.evS y Qk;rw[hx] at h1;rw[hy] at h2;refine ⟨.int kk (kk.wrap (m+n)),λw'=>?_,.pure (.int _ _)⟩;simp only[execOp,ho];rw[h1.aL,h2.aL];simp[eqGuard_at_int,binOp,Op.intArith]
theorem lH (q:Nat) {H':List (Nat×Blk)} {l':List AV} (hH:dT σ.hp q=H':=by simp only[go_sem,dT];exact rfl) (hf:(H'.all λx=>!(ay x.2).contains q)=true:=by simp only[go_sem];try exact rfl) (ht:σ.tm.map (kill q)=l':=by simp only[go_sem,kill];exact rfl):Le C σ ⟨l',H'⟩:=by
 subst hH ht;intro a w ⟨μ,S,hi⟩
 let ν:Nat->Option Nat:=λi=>if i=q then none else μ i
 have hm:∀i,i≠q->∀g,μ i=some g->ν i=some g:=λi h g hg=>by simp[ν,h,hg]
 have hv:∀i g,ν i=some g->i≠q/\μ i=some g:=λi g h=>by
  simp only[ν] at h;split at h
  ·cases h
  ·exact ⟨by assumption,h⟩
 refine ⟨ν,S,by simpa using hi.size,hi.defers,λt x hx=>?_,λid b hb'=>?_,λid g hg=>?_,λi j g h1 h2=>?_,hi.frm,hi.sb⟩
 ·simp only[W2] at hx;obtain ⟨y,hy,rfl⟩:=YV.1 hx;have h:=hi.tm t y hy;unfold kill;split
  ·exact .any _
  ·rename_i hc;exact h.less λid hid g hg=>hm id (λe=>by subst e;exact hc (by simpa using hid)) g hg
 ·have hb2:=hb';rw[bB] at hb';split at hb'
  ·cases hb'
  ·rename_i hq';refine (hi.hp id b hb').less (by simp only[ν];rw[if_neg (λe=>hq' e.symm)]) λi hid g hg=>hm i (λe=>?_) g hg
   subst e;have:=List.all_eq_true.1 hf _ (aP hb2);simp at this;exact this hid
 ·obtain ⟨h1,h2⟩:=hv id g hg;obtain ⟨⟨b,hb1⟩,h3⟩:=hi.dom id g h2;exact ⟨⟨b,by rw[bB,if_neg (λe=>h1 e.symm)];exact hb1⟩,h3⟩
 ·exact hi.inj i j g (hv i g h1).2 (hv j g h2).2
def CM (P:Program) (C:Ctx) (ops:Array Oper) (Q:Exit->Act->World->Prop) (n:Nat) (L:Array Bool) (σ:St):Prop:=∀a w,Rel C σ a w->wpAny P .any ops Q n L a w
theorem Mr {ops:Array Oper} {Q:Exit->Act->World->Prop} {n:Nat} {L:Array Bool} (hn:ops.size=n) (hL:bj ops.size 0=L) (h:CM P C ops Q n L σ):bp P C ops Q 0 σ:=by
 subst hn hL;intro a w hr;rw[Nat.sub_zero];exact h a w hr
theorem DH {ops:Array Oper} {L:Array Bool} (hr:Region.ready .any ops L=[]) (h:Cw P C Ret k σ):CM P C ops (aft (eI C Ret) (sem P C (eI C Ret) k)) 0 L σ:=λa w hrel=>⟨hr,h a w hrel⟩
theorem YD {ops:Array Oper} {Q:Exit->Act->World->Prop} {n i:Nat} {L L':Array Bool} {o:Oper} (hr:Region.ready .any ops L=[i]) (hL:L.setIfInBounds i true=L') (ho:ops[i]? = some o) (ht:rb P C ops o σ σ') (h:CM P C ops Q n L' σ'):CM P C ops Q (n+1) L σ:=λa w hrel=>by
 subst hL;refine ⟨λh0=>(by rw[hr] at h0;cases h0),λj hj=>?_⟩;rw[hr,List.mem_singleton] at hj;subst hj;exact tx ho ht hrel λa' w' hr'=>h a' w' hr'
theorem YT (hT:TabOK P T) {ops:Array Oper} {o:Oper} (hg:o.guard=none) {p:Prop} (h:eE T σ o.dst o.op=some (p,σ')) (hp:p):rb P C ops o σ σ':=λa w K Q' hr hK=>by
 obtain ⟨μ,S,hi⟩:=hr;rw[bs hi (show guardOf ops σ o.guard=some true from by rw[hg];rfl)];exact .inl (cn hT o h hp a w K Q' ⟨μ,S,hi⟩ hK)
end
end Go.Eng
namespace Go.Eng
end Go.Eng
namespace Go.Eng
section
variable {P:Program} {T:Tab} {C:Ctx} {σ σ':St}
def Safe (Z:List (Nat×List Nat×List Nat)) (s:St):Prop:=∀z,z∈Z->(∀t,t∉z.2.1->z.1∉refs (s.tm.getD t .any))/\∀b B,aa s.hp b=some B->b≠z.1->b∉z.2.2->bo z.1 B
def lX (Z:List (Nat×List Nat×List Nat)) (p:Sp):Prop:=∀z,z∈Z->((∃t,p.dst=some t/\t∈z.2.1)\/z.1∉refs p.val)/\∀b,b∈p.new->b.1=z.1\/bo z.1 b.2
def Lk (P:Program) (C:Ctx) (ops:Array Oper) (Z:List (Nat×List Nat×List Nat)) (o:Oper) (e:Ef) (U:St):Prop:=
 ∀s,s.tm.length=U.tm.length->(∀x,(x∈e.rd\/x∈e.wr)->bn U s x)->Safe Z s->rb P C ops o s (e.app s)
def kD (P:Program) (C:Ctx) (ops:Array Oper) (Q:Exit->Go.Act->World->Prop) (k:Nat) (Z:List (Nat×List Nat×List Nat)) (acc:dA) (l:List Oper) (σ:St):Prop:=
 Safe Z σ->∃l1 l2 es,l=l1++l2/\l1.length=es.length/\(∀e,e∈es->EfOK e)/\(∀m o e,l1[m]? = some o->es[m]? = some e->Lk P C ops Z o e (efU es m σ))/\(∀i,i<=es.length->Safe Z (efU es i σ)) /\
  nj ops k (acc++skE es)=true/\bp P C ops Q (k+acc.length+es.length) (efU es es.length σ)
theorem tA (e:Ef) (es:List Ef) (i:Nat) (σ:St):efU (e::es) (i+1) σ=efU es i (e.app σ):=by simp[efU]
theorem uF {ops:Array Oper} {Q:Exit->Go.Act->World->Prop} {k:Nat} {Z:List (Nat×List Nat×List Nat)} {acc:dA} {o:Oper} {l:List Oper} {e:Ef} (he:EfOK e) (hr:Lk P C ops Z o e σ) (hs:Safe Z σ->Safe Z (e.app σ))
  (hk:kD P C ops Q k Z (acc++[(e.wr,e.rd)]) l (e.app σ)):kD P C ops Q k Z acc (o::l) σ:=by
 intro h0;obtain ⟨l1,l2,es,h1,h2,h3,h4,h5,h6,h7⟩:=hk (hs h0);refine ⟨o::l1,l2,e::es,by rw[h1];rfl,by simp[h2],λx hx=>?_,λm o' e' ho' he'=>?_,λi hi=>?_,?_,?_⟩
 ·rcases List.mem_cons.1 hx with rfl | hx
  ·exact he
  ·exact h3 x hx
 ·cases m with
  | zero=>
   simp only[List.getElem?_cons_zero,gL] at ho' he';subst ho' he';rw[my];exact hr
  | succ m=>
   rw[tA];exact h4 m o' e' (by simpa using ho') (by simpa using he')
 ·cases i with
  | zero=>rw[my];exact h0
  | succ i=>rw[tA];exact h5 i Q9
 ·have:acc++skE (e::es)=acc++[(e.wr,e.rd)]++skE es:=by simp[skE]
  rw[this];exact h6
 ·have:k+acc.length+(e::es).length=k+(acc++[(e.wr,e.rd)]).length+es.length:=by simp;omega
  rw[this,show (e::es).length=es.length+1 from rfl,tA];exact h7
theorem jS {ops:Array Oper} {Q:Exit->Go.Act->World->Prop} {k:Nat} {Z:List (Nat×List Nat×List Nat)} {acc:dA} {l:List Oper} (hc:nj ops k acc=true) {j:Nat} (hj:k+acc.length=j) (h:bp P C ops Q j σ):kD P C ops Q k Z acc l σ:=by
 subst hj;intro h0;refine ⟨[],l,[],rfl,rfl,λe he=>(by cases he),λm o e ho he=>(by simp at ho),λi hi=>?_,by simpa[skE] using hc,by simpa[efU] using h⟩;rw[show i=0 by simpa using hi,my];exact h0
theorem fO {ops:Array Oper} {Q:Exit->Go.Act->World->Prop} {k:Nat} (Z:List (Nat×List Nat×List Nat)) {l:List Oper} (hl:ops.toList.drop k=l) (hs:Safe Z σ) (h:kD P C ops Q k Z [] l σ):bp P C ops Q k σ:=by
 subst hl;obtain ⟨l1,l2,es,h1,h2,h3,h4,h5,h6,h7⟩:=h hs;refine CX (l:=l1) (es:=es) (by simpa using h6) h2 (λi hi=>?_) h3 (λm o e ho he s hlen hag hall=>?_) (by simpa using h7)
 ·rw[<-Array.getElem?_toList,<-List.getElem?_drop,h1,YP z8]
 ·have hm:m<es.length:=(W6.1 he).1;refine h4 m o e ho he s (by rw[hlen,sv h3 σ m z8]) hag λz hz=>⟨λt ht=>?_,λb B hb hne hnc=>?_⟩
  ·obtain ⟨i,hi,ha⟩:=hall (.tm t);have ha:s.tm.getD t .any=(efU es i σ).tm.getD t .any:=ha;rw[ha];exact (h5 i hi z hz).1 t ht
  ·obtain ⟨i,hi,ha⟩:=hall (.blk b);have ha:aa s.hp b=aa (efU es i σ).hp b:=ha;rw[ha] at hb;exact (h5 i hi z hz).2 b B hb hne hnc
theorem G_ {Z:List (Nat×List Nat×List Nat)} {p:Sp} (hp:lX Z p) {s:St} (hs:Safe Z s):Safe Z (p.app s):=λz hz=>by
 have htm:(p.app s).tm=match p.dst with | some t=>s.tm.set t p.val | none=>s.tm:=by unfold Sp.app St.put;cases p.dst<;>rfl
 have hhp:(p.app s).hp=p.new++s.hp:=by unfold Sp.app;rw[St.hY]
 obtain ⟨h1,h2⟩:=hp z hz;refine ⟨λt ht=>?_,λb B hb hne hnc=>?_⟩
 ·rw[htm];cases e:p.dst with
  | none=>exact (hs z hz).1 t ht
  | some u=>
   show z.1∉refs ((s.tm.set u p.val).getD t .any)
   rw[bO];split
   ·rename_i hu;subst hu;split
    ·rcases h1 with ⟨v,hv,hv2⟩ | h1
     ·rw[e] at hv;injection hv with hv;subst hv;exact absurd hv2 ht
     ·exact h1
    ·simp[refs]
   ·exact (hs z hz).1 t ht
 ·rw[hhp,aA] at hb;split at hb
  ·have:=h2 (b,B) (aP hb)
   rcases this with h | h
   ·exact absurd h hne
   ·exact h
  ·exact (hs z hz).2 b B hb hne hnc
theorem JF {ops:Array Oper} {Z:List (Nat×List Nat×List Nat)} {o:Oper} {p:Sp} (h:Rob P C ops o p σ) (hf:∀b,b∈p.new->Loc.blk b.1∉p.rd->aa σ.hp b.1=none):Lk P C ops Z o (efS p) σ:=λs _ hag _=>
 h s (λx hx=>hag x (.inl hx)) λb hb hn=>Eq.trans (show aa s.hp b.1=aa σ.hp b.1 from hag (.blk b.1) (.inr (CK ⟨b,hb,rfl⟩))) (hf b hb hn)
theorem pT {ops:Array Oper} {Q:Exit->Go.Act->World->Prop} {k:Nat} {Z:List (Nat×List Nat×List Nat)} {acc:dA} {o:Oper} {l:List Oper} {p:Sp} (h:Rob P C ops o p σ) (hf:∀b,b∈p.new->Loc.blk b.1∉p.rd->aa σ.hp b.1=none) (hz:lX Z p)
  {s1:List Loc×List Loc} (hs:(p.wr,p.rd)=s1) (ha:p.app σ=σ') (hk:kD P C ops Q k Z (acc++[s1]) l σ'):kD P C ops Q k Z acc (o::l) σ:=by
 subst hs ha;exact uF (e:=efS p) (FX p) (JF h hf) (G_ hz) hk
theorem uG {ops:Array Oper} {Q:Exit->Go.Act->World->Prop} {k:Nat} {Z:List (Nat×List Nat×List Nat)}:∀{l1:List Oper} {ps:List Sp} {acc:dA} {l:List Oper} {σ:St},dP P C ops l1 ps σ->(∀p,p∈ps->p.new=[])->(∀p,p∈ps->lX Z p) ->
  kD P C ops Q k Z (acc++iO ps) l (db ps σ)->kD P C ops Q k Z acc (l1++l) σ
 | [],[],acc,l,σ,_,_,_,hk=>by simpa[iO,db] using hk
 | o::l1,p::ps,acc,l,σ,hc,hn,hz,hk=>by
  refine pT hc.1 (λb hb _=>by rw[hn p List.mem_cons_self] at hb;cases hb) (hz p List.mem_cons_self) rfl rfl ?_;refine uG hc.2 (λq hq=>hn q (List.mem_cons_of_mem _ hq)) (λq hq=>hz q (List.mem_cons_of_mem _ hq)) ?_;have e:acc++[(p.wr,p.rd)]++iO ps=acc++iO (p::ps):=by simp[iO]
  rw[e];exact hk
 | [],_::_,_,_,_,h,_,_,_=>h.elim
 | _::_,[],_,_,_,h,_,_,_=>h.elim
theorem zN (hT:TabOK P T) (m:Nat) {ops:Array Oper} {Q:Exit->Go.Act->World->Prop} {k:Nat} {Z:List (Nat×List Nat×List Nat)} {acc:dA} {l l1 l2:List Oper} {p:Prop} {ps:List Sp} {sk:dA}
  (h1:l.take m=l1:=by simp only[go_sem];exact rfl) (h2:l.drop m=l2:=by simp only[go_sem];exact rfl) (h:lV T ops l1 σ=some (p,ps,[],σ'):=by simp only[go_sem];try exact rfl) (hp:p:=by simp[go_sem]) (hs:iO ps=sk:=by simp only[go_sem];exact rfl)
  (hz:∀q,q∈ps->lX Z q:=by simp[go_sem,lX]) (hk:kD P C ops Q k Z (acc++sk) l2 σ'):kD P C ops Q k Z acc l σ:=by
 subst hs h1 h2;obtain ⟨g1,g2,g3⟩:=pR h;obtain ⟨q1,k1,k2⟩:=jQ (P:=P) (C:=C) hT ops (l.take m) σ h hp (l2:=[]) (ps2:=[]) trivial w8;simp only[List.append_nil] at k1 k2;subst k1;have:=uG (Z:=Z) (Q:=Q) (k:=k) (acc:=acc) (l:=l.drop m) k2 (λq hq=>by
  obtain ⟨i,hi⟩:=W9 hq;exact g3 i q hi) hz (by rw[g2];exact hk)
 rwa [List.take_append_drop] at this
theorem zC {ops:Array Oper} {Q:Exit->Go.Act->World->Prop} {k:Nat} {Z:List (Nat×List Nat×List Nat)} {acc:dA} {o:Oper} {l:List Oper} {c:Operand} {args:Array Operand} {ats:Array TypeId} {f:FuncId} {fn:Func} {xs:List AV} {r:AV} {p:Prop} {s1:List Loc×List Loc}
  (F:P.funcs[f]? = some fn) (ho:o.op=.call { callee:=.value c,args,argTypes:=ats }:=by rfl) (hg:o.guard=none:=by rfl) (h:az σ c args.toList=some (p,f,xs):=by simp only[go_sem];try exact rfl) (hp:p:=by simp[go_sem])
  (c1:(fn.name == "runtime.NumGoroutine")=false:=by kernel_rfl) (c2:fn.body.isSome=true:=by rfl) (hx:aB xs=[]:=by simp[go_sem]) (hf:aj P f xs [] λr' _=>r'=r) (hr:refs r=[]:=by simp[go_sem])
  (hs:((eC ops σ o c args.toList r).wr,(eC ops σ o c args.toList r).rd)=s1:=by simp only[go_sem];exact rfl) (ha:σ.put o.dst r=σ':=by simp only[go_sem];exact rfl) (hk:kD P C ops Q k Z (acc++[s1]) l σ'):kD P C ops Q k Z acc (o::l) σ:=
 pT (AH ho hg h hp ⟨fn,F,c1,c2⟩ hx hr hf) (λb hb _=>by cases hb) (λz _=>⟨.inr (by show z.1∉refs r;rw[hr];simp),λb hb=>by cases hb⟩) hs Wp hk
theorem zW (hT:TabOK P T) {ops:Array Oper} {Q:Exit->Go.Act->World->Prop} {k:Nat} {Z:List (Nat×List Nat×List Nat)} {acc:dA} {o:Oper} {l:List Oper} {d:Nat} {p:Prop} {b:Blk} {x:AV} {s1:List Loc×List Loc}
  (hd:o.dst=some d:=by rfl) (hg:guardOf ops σ o.guard=some true:=by simp only[go_sem];try exact rfl) (h:mV T σ d o.op=some (p,b,x):=by simp only[go_sem];try exact rfl) (hp:p:=by simp[go_sem]) (hf:aa σ.hp d=none:=by simp only[go_sem];try exact rfl)
  (hs:([Loc.tm d,Loc.blk d],cd ops o.guard++aQ σ o.op.operands.toList)=s1:=by simp only[go_sem];exact rfl) (hz:lX Z ⟨some d,x,[(d,b)],[]⟩:=by simp[go_sem,lX,bo]) (ha:St.put ⟨σ.tm,(d,b)::σ.hp⟩ (some d) x=σ':=by simp only[go_sem];exact rfl)
  (hk:kD P C ops Q k Z (acc++[s1]) l σ'):kD P C ops Q k Z acc (o::l) σ:=by
 refine pT (p:=⟨some d,x,[(d,b)],cd ops o.guard++aQ σ o.op.operands.toList⟩) ?_ (λc hc _=>by rw[List.mem_singleton.1 hc];exact hf) hz (by rw[<-hs];rfl) (by rw[<-ha];rfl) hk;intro s hagree hfree a w K Q' hr hK;have hg':guardOf ops s o.guard=some true:=by rw[ix (λx hx=>hagree x (YQ _ hx))];exact hg
 obtain ⟨μ,S,hi⟩:=hr;rw[bs hi hg'];refine .inl ?_;have hn:mV T s d o.op=some (p,b,x):=by rw[rG (λx hx=>hagree x (YB _ hx))];exact h
 have hfd:aa s.hp d=none:=by
  by_cases h:Loc.blk d∈cd ops o.guard++aQ σ o.op.operands.toList
  ·exact Eq.trans (show aa s.hp d=aa σ.hp d from hagree _ h) hf
  ·exact hfree (d,b) w8 h
 exact rH hT hd hn hp hfd a w K Q' ⟨μ,S,hi⟩ hK
theorem zB (hT:TabOK P T) {ops:Array Oper} {Q:Exit->Go.Act->World->Prop} {k:Nat} {Z:List (Nat×List Nat×List Nat)} {acc:dA} {o:Oper} {l:List Oper} {t:TypeId} {parts:Array (Nat×Operand)} {p:Prop} {x:AV} {s1:List Loc×List Loc}
  (ho:o.op=.build t parts:=by rfl) (hg:guardOf ops σ o.guard=some true:=by simp only[go_sem];try exact rfl) (h:fE T σ t parts.toList=some (p,x):=by simp only[go_sem];try exact rfl) (hp:p:=by simp[go_sem])
  (hs:((Sp.mk o.dst x [] (cd ops o.guard++aQ σ (parts.toList.map (·.2)))).wr,cd ops o.guard++aQ σ (parts.toList.map (·.2)))=s1:=by simp only[go_sem];exact rfl) (hz:lX Z ⟨o.dst,x,[],[]⟩:=by simp[go_sem,lX])
  (ha:σ.put o.dst x=σ':=by simp only[go_sem];exact rfl) (hk:kD P C ops Q k Z (acc++[s1]) l σ'):kD P C ops Q k Z acc (o::l) σ:=by
 refine pT (iC (x:=x) (rd:=aQ σ (parts.toList.map (·.2))) hg (.inl rfl) (λ_ s hag=>?_)) (λb hb _=>by cases hb) hz (by rw[<-hs]) Ze hk;have hb2:fE T s t parts.toList=some (p,x):=by
  rw[<-h];unfold fE;rw[lS (λq hq=>ct λz hz=>hag z (dh (W5.2 ⟨q,hq,rfl⟩) z hz))]
 refine cn hT o (p:=p) ?_ hp;rw[ho];simp only[eE,hb2,Option.map_some]
theorem uD {Z:List (Nat×List Nat×List Nat)} (h:∀z,z∈Z->z.1∉aB σ.tm/\∀q,q∈σ.hp->q.1∈z.2.2\/q.1=z.1\/bo z.1 q.2):Safe Z σ:=λz hz=>by
 obtain ⟨h1,h2⟩:=h z hz;refine ⟨λt _ hi=>?_,λb B hb hne hnc=>?_⟩
 ·rw[List.getD_eq_getElem?_getD] at hi;cases e:σ.tm[t]? with
  | none=>rw[e] at hi;simp[refs] at hi
  | some x=>rw[e] at hi;exact h1 (aX e hi)
 ·rcases h2 (b,B) (aP hb) with h | h | h
  ·exact absurd h hnc
  ·exact absurd h hne
  ·exact h
def dR:List (Nat×Blk)->List (Nat×Blk)
 | []=>[]
 | (i,b)::r=>(i,b)::(dR r).filter λq=>!(q.1==i)
theorem mK (i id:Nat):∀h:List (Nat×Blk),i≠id->aa (h.filter λq=>!(q.1==i)) id=aa h id
 | [],_=>rfl
 | (j,b)::r,hne=>by
  rw[List.filter_cons]
  by_cases e:j=i
  ·subst e;rw[if_neg w8,mK j id r hne];simp only[aa];rw[if_neg hne]
  ·rw[if_pos Wv];simp only[aa];rw[mK i id r hne]
theorem fK (id:Nat):∀h:List (Nat×Blk),aa (dR h) id=aa h id
 | []=>rfl
 | (i,b)::r=>by
  simp only[dR,aa]
  by_cases e:i=id
  ·rw[if_pos e,if_pos e]
  ·rw[if_neg e,if_neg e,mK i id _ e,fK id r]
theorem vJ:∀(h:List (Nat×Blk)) (q:Nat×Blk),q∈dR h->aa h q.1=some q.2
 | [],q,hq=>by cases hq
 | (i,b)::r,q,hq=>by
  simp only[dR] at hq;simp only[aa]
  rcases List.mem_cons.1 hq with rfl | hq
  ·rw[if_pos rfl]
  ·obtain ⟨h1,h2⟩:=YI.1 hq;have:q.1≠i:=by simpa using h2
   rw[if_neg (λe=>this e.symm)];exact vJ r q h1
theorem v_ {id:Nat}:∀{h:List (Nat×Blk)},(∀q,q∈h->q.1≠id->bo id q.2)->ez id h
 | [],_=>trivial
 | (i,b)::_,h=>⟨λhne=>h (i,b) List.mem_cons_self hne,v_ λq hq=>h q (List.mem_cons_of_mem _ hq)⟩
def efA (d src id e S len:Nat) (rows:List (List AV)) (rd:List Loc):Ef:=
 ⟨[.tm d,.tm src,.blk d,.blk id],rd,λs=>⟨(s.tm.set src .any).set d (.osl d S 0 len),(d,.cells e S rows)::aG s.hp id (.cells e S [])⟩⟩
theorem FW (d src id e S len:Nat) (rows:List (List AV)) (rd:List Loc):EfOK (efA d src id e S len rows rd):=by
 refine ⟨λs=>by simp[efA],λs x hx=>?_,λs s' hl x hx=>?_⟩
 ·cases x with
  | tm t=>
   show ((s.tm.set src .any).set d _).getD t .any=s.tm.getD t .any
   rw[bO,bO,if_neg,if_neg]
   ·rintro rfl;exact hx Wk
   ·rintro rfl;exact hx Wk
  | blk b=>
   show aa ((d,_)::aG s.hp id _) b=aa s.hp b
   simp only[aa];rw[if_neg,ai,if_neg]
   ·rintro rfl;exact hx Wk
   ·rintro rfl;exact hx Wk
 ·cases x with
  | tm t=>
   show ((s'.tm.set src .any).set d _).getD t .any=((s.tm.set src .any).set d _).getD t .any
   rw[bO,bO,bO,bO,YN,YN,hl];have hx:t=d\/t=src:=by simpa[efA] using hx
   rcases hx with rfl | rfl
   ·rw[if_pos rfl,if_pos rfl]
   ·split
    ·rfl
    ·rw[if_pos rfl,if_pos rfl]
  | blk b=>
   show aa ((d,_)::aG s'.hp id _) b=aa ((d,_)::aG s.hp id _) b
   have hx:b=d\/b=id:=by simpa[efA] using hx
   simp only[aa];split
   ·rfl
   ·rename_i hne
    rcases hx with rfl | rfl
    ·exact absurd rfl hne
    ·rw[ai,ai,if_pos rfl,if_pos rfl]
theorem vA (hT:TabOK P T) {ops:Array Oper} {o:Oper} {src:Nat} {y:Operand} {t e:TypeId} {d id S len:Nat} {R rows:List (List AV)} {q:Prop} {v:AV} {rd:List Loc} {s:St}
  (ho:o.op=.call { callee:=.builtin .append,args:=#[.tmp src,y],argTypes:=#[t,t] }) (hd:o.dst=some d) (hg:o.guard=none) (ht:T.und t=.sl e)
  (hx0:evS s (.tmp src)=(True,.osl id S 0 len)) (hb0:aa s.hp id=some (.cells e S R)) (hy0:evS s y=(q,v)) (hq:q) (hv0:cW s v=some rows) (hS:T.siz e=S) (h0:S≠0) (h1:T.byt e≠0) (h2:rowsOf S rows) (h3:∀i s off ln,v=.osl i s off ln->rows.length=ln)
  (h4:ek rows=true) (h5:(2*(len+rows.length)+768)*T.byt e<=281474976710656) (h6:jT v≠some id) (h7:len<=R.length) (h8:bo id (.cells e S (R.take len++rows))) (h9:aa s.hp d=none) (h10:d≠id)
  (hsf:(∀t,t≠src->id∉refs (s.tm.getD t .any))/\∀b B,aa s.hp b=some B->b≠id->bo id B)
  (hev:∀z,evS ⟨s.tm,dR s.hp⟩ z=evS s z):rb P C ops o s ((efA d src id e S (len+rows.length) (R.take len++rows) rd).app s):=by
 subst hS;intro a w K Q' hrel hK;have hrel':Rel C ⟨s.tm,dR s.hp⟩ a w:=jO (s:=s) (s':=⟨s.tm,dR s.hp⟩) rfl (λ_=>rfl) (λi=>(fK i s.hp).symm) a w hrel;obtain ⟨μ,S0,hi⟩:=hrel';rw[bs hi (show guardOf ops ⟨s.tm,dR s.hp⟩ o.guard=some true from by rw[hg];rfl)];refine .inl ?_;have hx':evS ⟨s.tm,dR s.hp⟩ (.tmp src)=(True,.osl id (T.siz e) 0 len):=by rw[hev];exact hx0
 have hy':evS ⟨s.tm,dR s.hp⟩ y=(q,v):=by rw[hev];exact hy0
 have hbb:aa (dR s.hp) id=some (.cells e (T.siz e) R):=by rw[fK];exact hb0
 have hdn:aa (dR s.hp) d=none:=by rw[fK];exact h9
 have hsr:cW ⟨s.tm,dR s.hp⟩ v=some rows:=by
  rw[<-hv0];cases v with
  | osl i s' off ln=>simp only[cW,fK]
  | _=>rfl
 have hfree:ez id (dR s.hp):=v_ λz hz hne=>hsf.2 z.1 z.2 (vJ s.hp z hz) hne
 have hstep:eE T ⟨s.tm,dR s.hp⟩ o.dst o.op=some (True/\q/\(T.siz e≠0/\T.byt e≠0/\rowsOf (T.siz e) rows/\(∀i s off ln,v=.osl i s off ln->rows.length=ln)/\ek rows=true/\(2*(len+rows.length)+768)*T.byt e<=281474976710656 /\
    (d=id\/aa (dR s.hp) d=none)/\jT v≠some id/\len<=R.length/\ez id (dR s.hp)/\bo id (.cells e (T.siz e) (R.take len++rows))),
   (⟨s.tm.map (kill id),(d,.cells e (T.siz e) (R.take len++rows))::dT (dR s.hp) id⟩:St).put (some d) (.osl d (T.siz e) 0 (len+rows.length))):=by
  rw[ho,hd];simp only[eE,hx',hy',if_true,fz,ht,hsr,hbb,and_self,Option.map_some]
 refine cn hT o hstep ⟨trivial,hq,h0,h1,h2,h3,h4,h5,.inr hdn,h6,h7,hfree,h8⟩ a w K Q' ⟨μ,S0,hi⟩ λa' w' hr'=>hK a' w' ?_
 obtain ⟨μ',S',hi'⟩:=hr';have hidn:aa ((⟨s.tm.map (kill id),(d,.cells e (T.siz e) (R.take len++rows))::dT (dR s.hp) id⟩:St).put (some d) (.osl d (T.siz e) 0 (len+rows.length))).hp id=none:=by
  rw[St.hY];simp only[aa];rw[if_neg h10,bB,if_pos rfl]
 refine ⟨μ',S',by rw[hi'.size];simp[efA,St.put],hi'.defers,λj z hz=>?_,λj B hB=>?_,λj g hj=>?_,hi'.inj,hi'.frm,hi'.sb⟩
 ·replace hz:((s.tm.set src .any).set d (.osl d (T.siz e) 0 (len+rows.length)))[j]? = some z:=hz
  rw[YM] at hz
  by_cases e1:d=j
  ·subst e1;rw[if_pos rfl] at hz;refine hi'.tm d z ?_
   show ((s.tm.map (kill id)).set d _)[d]? = some z
   rw[YM,if_pos rfl];simpa using hz
  ·rw[if_neg e1,YM] at hz
   by_cases e2:src=j
   ·subst e2;rw[if_pos rfl] at hz;split at hz
    ·injection hz with hz;subst hz;exact .any _
    ·cases hz
   ·rw[if_neg e2] at hz;refine hi'.tm j z ?_
    show ((s.tm.map (kill id)).set d _)[j]? = some z
    rw[YM,if_neg e1,W2,hz];have hnr:=hsf.1 j (λh=>e2 h.symm);rw[List.getD_eq_getElem?_getD,hz] at hnr;simp only[Option.map_some,kill];rw[if_neg (by simpa using hnr)]
 ·replace hB:aa ((d,.cells e (T.siz e) (R.take len++rows))::aG s.hp id (.cells e (T.siz e) [])) j=some B:=hB
  simp only[aa] at hB;split at hB
  ·rename_i e1;refine hi'.hp j B ?_;rw[St.hY];simp only[aa];rw[if_pos e1];exact hB
  ·rename_i e1;rw[ai] at hB;split at hB
   ·rename_i e2;subst e2;injection hB with hB
    subst hB;exact .inl ⟨rfl,hi'.fresh hidn⟩
   ·rename_i e2;refine hi'.hp j B ?_;rw[St.hY];simp only[aa];rw[if_neg e1,bB,if_neg e2,fK];exact hB
 ·obtain ⟨⟨B,hB⟩,h12⟩:=hi'.dom j g hj;refine ⟨?_,h12⟩
  show ∃b,aa ((d,.cells e (T.siz e) (R.take len++rows))::aG s.hp id (.cells e (T.siz e) [])) j=some b
  rw[St.hY] at hB;simp only[aa] at hB ⊢;split
  ·exact ⟨_,rfl⟩
  ·rename_i e1;rw[if_neg e1,bB] at hB;rw[ai];split
   ·exact ⟨_,rfl⟩
   ·rename_i e2;rw[if_neg e2,fK] at hB;exact ⟨B,hB⟩
theorem zA (hT:TabOK P T) {ops:Array Oper} {Q:Exit->Go.Act->World->Prop} {k:Nat} {Z:List (Nat×List Nat×List Nat)} {acc:dA} {o:Oper} {l:List Oper} {src:Nat} {y:Operand} {t e:TypeId} {d id S len:Nat} {R rows:List (List AV)} {q:Prop} {v:AV} {s1:List Loc×List Loc} {n:Nat} {rows':List (List AV)}
  (ho:o.op=.call { callee:=.builtin .append,args:=#[.tmp src,y],argTypes:=#[t,t] }:=by rfl) (hd:o.dst=some d:=by rfl) (hg:o.guard=none:=by rfl) (ht:T.und t=.sl e:=by rfl)
  (hx:evS σ (.tmp src)=(True,.osl id S 0 len):=by simp only[go_sem];try exact rfl) (hb:aa σ.hp id=some (.cells e S R):=by simp only[go_sem];try exact rfl) (hy:evS σ y=(q,v):=by simp only[go_sem];try exact rfl) (hq:q:=by trivial) (hv:cW σ v=some rows:=by simp only[go_sem];try exact rfl)
  (hS:T.siz e=S:=by rfl) (h0:S≠0:=by decide) (h1:T.byt e≠0:=by decide) (h2:rowsOf S rows) (h3:∀i s off ln,v=.osl i s off ln->rows.length=ln:=by simp[go_sem]) (h4:ek rows=true:=by simp[go_sem]) (h5:(2*(len+rows.length)+768)*T.byt e<=281474976710656)
  (h6:jT v≠some id:=by simp[go_sem]) (h7:len<=R.length) (h8:bo id (.cells e S (R.take len++rows))) (h9:aa σ.hp d=none:=by simp only[go_sem];try exact rfl) (h10:d≠id:=by decide) (h11:(id,[src],[])∈Z:=by simp)
  (hs:([Loc.tm d,Loc.tm src,Loc.blk d,Loc.blk id],aQ σ [.tmp src,y]++(match jT v with | some i=>[Loc.blk i] | none=>[]))=s1:=by simp only[go_sem];exact rfl)
  (hzz:∀z,z∈Z->z.1≠d/\bo z.1 (.cells e S (R.take len++rows))\/(z.1=d/\d∈z.2.1)) (hn:len+rows.length=n) (hr:R.take len++rows=rows')
  (ha:(⟨(σ.tm.set src .any).set d (.osl d S 0 n),(d,.cells e S rows')::aG σ.hp id (.cells e S [])⟩:St)=σ':=by simp only[go_sem];exact rfl)
  (hk:kD P C ops Q k Z (acc++[s1]) l σ'):kD P C ops Q k Z acc (o::l) σ:=by
 subst hs ha hn hr hS;have hA:=FW d src id e (T.siz e) (len+rows.length) (R.take len++rows) (aQ σ [.tmp src,y]++(match jT v with | some i=>[Loc.blk i] | none=>[]));generalize hrd:(aQ σ [.tmp src,y]++(match jT v with | some i=>[Loc.blk i] | none=>[]))=rd at hk hA;refine uF (e:=efA d src id e (T.siz e) (len+rows.length) (R.take len++rows) rd) hA ?_ ?_ hk
 ·intro s hlen hag hsafe;have hag2:∀z,z∈aQ σ [.tmp src,y]->bn σ s z:=λz hz=>hag z (.inl (hrd▸YQ _ hz))
  refine vA hT ho hd hg ht (hx▸ct λz hz=>hag2 z (dh (List.mem_cons_self ..) z hz)) (hb▸hag (.blk id) (.inr Wk)) (hy▸ct λz hz=>hag2 z (dh (List.mem_cons_of_mem _ (List.mem_singleton.2 rfl)) z hz)) hq ?_ rfl h0 h1 h2 h3 h4 h5 h6 h7 h8 (h9▸hag (.blk d) (.inr Wk)) h10 ⟨λt ht=>(hsafe _ h11).1 t (by simpa using ht),λb B hB hne=>(hsafe _ h11).2 b B hB hne w8⟩ (λz=>by cases z<;>rfl);rw[<-hv];cases v with
  | osl i s' off ln=>
   have:=hag (.blk i) (.inl (hrd▸YB _ (by simp[jT])));simp only[cW];rw[show aa s.hp i=aa σ.hp i from this]
  | _=>rfl
 ·intro h0' z hz;refine ⟨λj hj=>?_,λb B hB hne hnc=>?_⟩
  ·show z.1∉refs (((σ.tm.set src .any).set d _).getD j .any)
   rw[bO,bO];split
   ·rename_i e1;subst e1;split
    ·rcases hzz z hz with ⟨h12,_⟩ | ⟨h12,h13⟩
     ·simpa[refs] using h12
     ·exact absurd h13 hj
    ·simp[refs]
   ·split
    ·simp[refs]
    ·exact (h0' z hz).1 j hj
  ·replace hB:aa ((d,.cells e (T.siz e) (R.take len++rows))::aG σ.hp id (.cells e (T.siz e) [])) b=some B:=hB
   simp only[aa] at hB;split at hB
   ·rename_i e1;injection hB with hB
    subst hB
    rcases hzz z hz with ⟨_,h12⟩ | ⟨h12,_⟩
    ·exact h12
    ·exact absurd (e1.symm.trans h12.symm) hne
   ·rw[ai] at hB;split at hB
    ·injection hB with hB
     subst hB;simp[bo]
    ·exact (h0' z hz).2 b B hB hne hnc
end
end Go.Eng
namespace Go.Eng
section
variable {P:Program} {C:Ctx} {σ:St}
def qL:AV->AV
 | .nils=>.sl [] | .any=>.any | .int k n=>.int k n | .bool b=>.bool b | .str s=>.str s | .nilp=>.nilp | .nili=>.nili | .ifc=>.ifc | .nilm=>.nilm | .sl r=>.sl r | .rp c o=>.rp c o | .rm m=>.rm m | .fn f c=>.fn f c
 | .agg c=>.agg (c.map λ| .nils=>.sl [] | x=>x) | .tup v=>.tup v | .ptr a b c d=>.ptr a b c d | .osl a b c d=>.osl a b c d | .mp i=>.mp i | .exs a b c d e=>.exs a b c d e | .cnd c v=>.cnd c v
theorem GU {μ:Nat->Option Nat} {S:Nat->Prop} {w:World} {v:Value} (h:Rd μ S w v .nils):Rd μ S w v (.sl []):=h.wk (.inr (.inr ⟨rfl,.inl rfl⟩))
theorem Rd.qL {μ:Nat->Option Nat} {S:Nat->Prop} {w:World} {v:Value} {x:AV} (h:Rd μ S w v x):Rd μ S w v (Eng.qL x):=by
 cases x with
 | nils=>exact GU h
 | agg c=>
  have key:∀{cs:Array Value} {f:AV->AV},(∀j x,c[j]? = some x->Rd μ S w (cs.getD j undef) (f x))->∀j x,(c.map f)[j]? = some x->Rd μ S w (cs.getD j undef) x:=fun {cs f} h j x hx=>by
   rw[W2] at hx;cases e:c[j]? with
   | none=>rw[e] at hx;cases hx
   | some y=>rw[e] at hx;injection hx with hx;subst hx;exact h j y e
  have one:∀{v:Value} (x:AV),Rd μ S w v x->Rd μ S w v (match x with | .nils=>.sl [] | x=>x):=λx hx=>by
   split
   ·exact GU hx
   ·exact hx
  cases h with
  | pure h=>
   cases h with
   | agg cs _ hl hr=>exact .agg cs _ (by rw[List.length_map];exact hl) (key λj x hx=>one x (.pure (hr j x hx)))
  | agg cs _ hl hr=>exact .agg cs _ (by rw[List.length_map];exact hl) (key λj x hx=>one x (hr j x hx))
 | _=>exact h
theorem av (id:Nat) {e s:Nat} {rows rows':List (List AV)} (hb:aa σ.hp id=some (.cells e s rows):=by simp only[go_sem];exact rfl) (hr:rows.map (λrow=>row.map qL)=rows':=by simp only[go_sem,qL];exact rfl):Le C σ ⟨σ.tm,aG σ.hp id (.cells e s rows')⟩:=by
 subst hr;rintro a w ⟨μ,S,hi⟩;refine ⟨μ,S,hi.size,hi.defers,hi.tm,λi b hb'=>?_,λi q hq=>?_,hi.inj,hi.frm,hi.sb⟩
 ·simp only[ai] at hb';split at hb'
  ·rename_i h1;injection hb' with hb'
   subst h1 hb'
   rcases hi.hp id _ hb with ⟨rfl,k2⟩ | ⟨g,c,k1,k2,k3,k4,k5⟩
   ·exact .inl ⟨by simp,k2⟩
   ·refine .inr ⟨g,c,k1,k2,by rw[List.length_map];exact k3,λrow hrow=>?_,λi row hi' q x hx=>?_⟩
    ·obtain ⟨r0,h0,rfl⟩:=W5.1 hrow;rw[List.length_map];exact k4 r0 h0
    ·rw[W2] at hi';cases e0:rows[i]? with
     | none=>rw[e0] at hi';cases hi'
     | some r0=>
      rw[e0] at hi';simp only[Option.map_some,gL] at hi';subst hi';rw[W2] at hx;cases e1:r0[q]? with
      | none=>rw[e1] at hx;cases hx
      | some y=>
       rw[e1] at hx;simp only[Option.map_some,gL] at hx;subst hx;exact (k5 i r0 e0 q y e1).qL
  ·exact hi.hp i b hb'
 ·obtain ⟨⟨b,h1⟩,h2⟩:=hi.dom i q hq;refine ⟨?_,h2⟩;simp only[ai];split
  ·exact ⟨_,rfl⟩
  ·exact ⟨b,h1⟩
theorem xS (t:Nat) {x y:AV} (hx:σ.tm.getD t .any=x) (hy:qL x=y):Le C σ ⟨σ.tm.set t y,σ.hp⟩:=by
 subst hx hy;rintro a w ⟨μ,S,hi⟩;refine ⟨μ,S,by rw[YN];exact hi.size,hi.defers,λj z hz=>?_,hi.hp,hi.dom,hi.inj,hi.frm,hi.sb⟩;rw[YM] at hz;split at hz
 ·rename_i e;subst e;split at hz
  ·rename_i hlt;injection hz with hz
   subst hz;rw[List.getD_eq_getElem?_getD,Wz hlt];exact (hi.tm t _ (Wz hlt)).qL
  ·cases hz
 ·exact hi.tm j z hz
end
end Go.Eng
namespace Go.Eng
section
variable {P:Program} {T:Tab} {C:Ctx} {σ σ':St} {a:Act} {w:World} {Ret:St->Prop} {k:List It}
def fk:List (List AV)->List (List AV)->Prop
 | [],[]=>True
 | r::l,s::m=>nQ r s/\fk l m
 | _,_=>False
theorem rD:∀{l m:List (List AV)},fk l m->l.length=m.length/\∀(t:Nat) y,m[t]? = some y->∃x,l[t]? = some x/\nQ x y
 | [],[],_=>⟨rfl,λt y h=>by simp at h⟩
 | x::l,y::m,h=>by
  obtain ⟨h1,h2⟩:=rD h.2;refine ⟨by simp[h1],λt z hz=>?_⟩;cases t with
  | zero=>
   simp only[List.getElem?_cons_zero,gL] at hz;subst hz;exact ⟨x,rfl,h.1⟩
  | succ t=>simpa using h2 t z Za
 | [],_::_,h=>h.elim
 | _::_,[],h=>h.elim
theorem i_ (id:Nat) (rows':List (List AV)) {e s:Nat} {rows:List (List AV)} (hb:aa σ.hp id=some (.cells e s rows)) (hr:fk rows rows'):Le C σ ⟨σ.tm,aG σ.hp id (.cells e s rows')⟩:=by
 obtain ⟨hl,hg⟩:=rD hr;rintro a w ⟨μ,S,hi⟩;refine ⟨μ,S,hi.size,hi.defers,hi.tm,λi b hb'=>?_,λi q hq=>?_,hi.inj,hi.frm,hi.sb⟩
 ·simp only[ai] at hb';split at hb'
  ·rename_i h1;injection hb' with hb'
   subst h1 hb'
   rcases hi.hp id _ hb with ⟨rfl,k2⟩ | ⟨g,c,k1,k2,k3,k4,k5⟩
   ·exact .inl ⟨List.length_eq_zero_iff.1 hl.symm,k2⟩
   ·refine .inr ⟨g,c,k1,k2,by rw[<-hl];exact k3,λrow hrow=>?_,λi row hi' q x hx=>?_⟩
    ·obtain ⟨i,hi'⟩:=W9 hrow;obtain ⟨r0,h0,h1⟩:=hg i row hi';rw[<-(px h1).1];exact k4 r0 (W3 h0)
    ·obtain ⟨r0,h0,h1⟩:=hg i row hi';obtain ⟨y,hy,hw⟩:=(px h1).2 q x hx;exact (k5 i r0 h0 q y hy).wk hw
  ·exact hi.hp i b hb'
 ·obtain ⟨⟨b,h1⟩,h2⟩:=hi.dom i q hq;refine ⟨?_,h2⟩;simp only[ai];split
  ·exact ⟨_,rfl⟩
  ·exact ⟨b,h1⟩
theorem mO (p q c:Nat) {e s e2 s2:Nat} {rows rows2 rows3:List (List AV)} {H1 H2:List (Nat×Blk)} {l':List AV} (hb:aa σ.hp p=some (.cells e s rows)) (hq:aa σ.hp q=none) (hr:ay (.cells e s rows)=[])
  (hcb:aa σ.hp c=some (.cells e2 s2 rows2)) (hH1:dT σ.hp p=H1) (hH:dT H1 c=H2) (hcp:(c==p)=false) (hf:(H2.all λx=>!(ay x.2).contains p)=true) (hr3:rows2.map (λrow=>row.map (mv1 p q))=rows3) (ht:σ.tm.map (mv1 p q)=l') :
  Le C σ ⟨l',(q,.cells e s rows)::(c,.cells e2 s2 rows3)::H2⟩:=by
 subst hH hH1 ht hr3;intro a w ⟨μ,S,hi⟩;have hcp:c≠p:=by simpa using hcp
 have hne:p≠q:=λh=>by subst h;rw[hb] at hq;cases hq
 have hcq:c≠q:=λh=>by subst h;rw[hcb] at hq;cases hq
 have hmq:μ q=none:=by
  cases h:μ q with
  | none=>rfl
  | some g=>obtain ⟨⟨b,h1⟩,_⟩:=hi.dom q g h;rw[hq] at h1;cases h1
 let ν:Nat->Option Nat:=λi=>if i=q then μ p else if i=p then none else μ i
 have hνq:ν q=μ p:=by simp[ν]
 have hν:∀i,i≠p->i≠q->ν i=μ i:=λi h1 h2=>by simp[ν,h1,h2]
 have hm:∀i,i≠p->∀g,μ i=some g->ν i=some g:=λi h g hg=>by
  rw[hν i h (λe=>by subst e;rw[hmq] at hg;cases hg)];exact hg
 have hv:∀i g,ν i=some g->(i=q/\μ p=some g)\/(i≠p/\i≠q/\μ i=some g):=λi g h=>by
  simp only[ν] at h;split at h
  ·exact .inl ⟨by assumption,h⟩
  ·split at h
   ·cases h
   ·exact .inr ⟨by assumption,by assumption,h⟩
 have hkill:∀{v:Value} {y:AV},Rd μ S w v y->Rd ν S w v (kill p y):=fun {v y} h=>by
  unfold kill;split
  ·exact .any v
  ·rename_i hc;exact h.less λid hid g hg=>hm id (λe=>by subst e;exact hc (by simpa using hid)) g hg
 have hmv:∀{v:Value} {y:AV},Rd μ S w v y->Rd ν S w v (mv1 p q y):=fun {v y} h=>by
  cases y with
  | osl id s' o n=>
   simp only[mv1];split
   ·rename_i e;subst e;obtain ⟨A,cap,e1,hc,hor⟩:=h.bZ;rw[e1];refine .osl q s' o n cap A hc ?_
    rcases hor with h | ⟨g,e2,m,k1,k2,k3,k4⟩
    ·exact .inl h
    ·exact .inr ⟨g,e2,m,hνq.trans k1,k2,k3,k4⟩
   ·rename_i e;exact h.less λi hid g hg=>hm i (λe'=>by simp only[refs,List.mem_singleton] at hid;exact e (hid.symm.trans e')) g hg
  | ptr id s' r o=>
   simp only[mv1];split
   ·rename_i e;subst e;obtain ⟨g,k1,e1⟩:=h.iZ;rw[e1];exact .ptr q s' r o g (hνq.trans k1)
   ·rename_i e;exact h.less λi hid g hg=>hm i (λe'=>by simp only[refs,List.mem_singleton] at hid;exact e (hid.symm.trans e')) g hg
  | _=>exact hkill h
 refine ⟨ν,S,by simpa using hi.size,hi.defers,λt x hx=>?_,λid b hb'=>?_,λid g hg=>?_,λi j g h1 h2=>?_,hi.frm,hi.sb⟩
 ·simp only[W2] at hx;obtain ⟨y,hy,rfl⟩:=YV.1 hx;exact hmv (hi.tm t y hy)
 ·simp only[aa] at hb';split at hb'
  ·rename_i e';injection hb' with hb'
   subst e' hb';have hk:=hi.hp p _ hb
   rcases hk with ⟨k1,k2⟩ | ⟨g,c,k1,k2,k3,k4,k5⟩
   ·exact .inl ⟨k1,hνq.trans k2⟩
   ·refine .inr ⟨g,c,hνq.trans k1,k2,k3,k4,λi row hi' j x hx=>(k5 i row hi' j x hx).less λid hid g' hg'=>?_⟩;have:id∈ay (.cells e s rows):=List.mem_flatMap.2 ⟨row,W3 hi',aX hx hid⟩;rw[hr] at this;cases this
  ·rename_i hq';split at hb'
   ·rename_i e';injection hb' with hb'
    subst e' hb'
    rcases hi.hp c _ hcb with ⟨k1,k2⟩ | ⟨g,cp,k1,k2,k3,k4,k5⟩
    ·exact .inl ⟨by rw[k1];rfl,(hν c hcp hcq).trans k2⟩
    ·refine .inr ⟨g,cp,(hν c hcp hcq).trans k1,k2,by rw[List.length_map];exact k3,λrow hrow=>?_,λi row hi' j x hx=>?_⟩
     ·obtain ⟨r0,h0,rfl⟩:=W5.1 hrow;rw[List.length_map];exact k4 r0 h0
     ·rw[W2] at hi';obtain ⟨r0,h0,rfl⟩:=YV.1 hi';rw[W2] at hx;obtain ⟨y,hy,rfl⟩:=YV.1 hx;exact hmv (k5 i r0 h0 j y hy)
   ·rename_i hc';have hb2:=hb';rw[bB,bB] at hb';split at hb'
    ·cases hb'
    ·split at hb'
     ·cases hb'
     ·rename_i hp';refine (hi.hp id b hb').less (hν id (λe=>hp' e.symm) (λe=>hq' e.symm)) λi hid g hg=>hm i (λe=>?_) g hg
      subst e;have:=List.all_eq_true.1 hf _ (aP hb2);simp at this;exact this hid
 ·rcases hv id g hg with ⟨rfl,h⟩ | ⟨h1,h2,h⟩
  ·exact ⟨⟨_,by simp only[aa,if_true];rfl⟩,(hi.dom p g h).2⟩
  ·obtain ⟨⟨b,hb1⟩,h3⟩:=hi.dom id g h;refine ⟨?_,h3⟩;simp only[aa,if_neg (λe:q=id=>h2 e.symm),bB];split
   ·exact ⟨_,rfl⟩
   ·rw[if_neg (λe:p=id=>h1 e.symm)];exact ⟨b,hb1⟩
 ·rcases hv i g h1 with ⟨rfl,k⟩ | ⟨k1,k2,k⟩<;>rcases hv j g h2 with ⟨rfl,m⟩ | ⟨m1,m2,m⟩
  ·rfl
  ·exact absurd (hi.inj p j g k m) (λe=>m1 e.symm)
  ·exact absurd (hi.inj i p g k m) k1
  ·exact hi.inj i j g k m
end
end Go.Eng
namespace Go.Eng
section
variable {P:Program} {T:Tab} {C:Ctx} {μ:Nat->Option Nat} {S:Nat->Prop} {σ σ':St} {a:Act} {w:World} {Ret:St->Prop} {k:List It}
theorem Inv.MH (hi:Inv C μ S σ a w) (o:Obj):Inv C μ (λb=>S b\/b=w.heap.size) σ a (w.alloc o):=by
 have hw:aH S w (w.alloc o):=λb hb=>bb w o b (hi.sb b hb).1
 have hz:∀i g,μ i=some g->ag (w.alloc o) g=ag w g:=λi g h=>aN (bb w o g (hi.dom i g h).2.2.2)
 refine ⟨hi.size,hi.defers,λt x hx=>(hi.tm t x hx).mono hw (λ_ h=>.inl h) (λ_ _ h=>h) hz,λi c hc=>(hi.hp i c hc).mono hw (λ_ h=>.inl h) (λ_ _ h=>h) hz (λh=>h) (λg h=>bb w o g (hi.dom i g h).2.2.2),λi g hg=>?_,hi.inj,?_,λb hb=>?_⟩
 ·obtain ⟨h1,h2,h3,h4⟩:=hi.dom i g hg;exact ⟨h1,h2,λh=>h.elim h3 (λe=>by omega),by simp;omega⟩
 ·exact ⟨hi.frm.os,hi.frm.tape,hi.frm.output,by simp;have:=hi.frm.size;omega,λb hb hA=>by
   rw[bb w o b (YZ hb hi.frm.size)];exact hi.frm.block b hb hA⟩
 ·rcases hb with hb | rfl
  ·exact ⟨by simp;have:=(hi.sb b hb).1;omega,(hi.sb b hb).2⟩
  ·exact ⟨by simp,.inr (.inr hi.frm.size)⟩
theorem vz (hT:TabOK P T) {o:Oper} {s t e:TypeId} {x:Operand} (ho:o.op=.convert s t x) (hs:T.und s=.str) (ht:T.und t=.sl e) (he:T.und e=.int .u8) {l:List UInt8} (hx:evS σ x=(True,.str l)) :
  eP P C o σ (σ.put o.dst (.sl (l.map λb=>[AV.int .u8 (b.toNat:Int)]))):=by
 intro a w K Q ⟨μ,S,hi⟩ hK;have hv:=hi.evS x u7;rw[hx] at hv;obtain ⟨b,e1,hb⟩:∃b:ByteArray,a.eval x=.string b/\b.data.toList=l:=by
  generalize a.eval x=v at hv;cases hv with
  | pure h=>cases h with
   | str s l h=>exact ⟨s,rfl,h⟩
 have hts:P.underlying s=some .string:=by have:=hT.und s;rw[hs] at this;exact this
 have hty:P.underlying t=some (.slice e):=by have:=hT.und t;rw[ht] at this;exact this
 have hte:P.underlying e=some (.int .u8):=by have:=hT.und e;rw[he] at this;exact this
 have hrun:=run_bytes_of_string (P:=P) w s t e b hts hty hte;have hex:(execOp a.eval o).run P w=.ok (.value (.slice (some ⟨w.heap.size,0,none⟩) b.size (grownCap w b.size 0 e)))
   (w.drew.alloc (.cells (bytesRow b (grownCap w b.size 0 e)) e ((bytesRow b (grownCap w b.size 0 e)).size,(bytesRow b (grownCap w b.size 0 e)).size+1))):=by
  simp only[execOp,ho,e1,Sem.run_bind,hrun];rfl
 have hsz:b.size=l.length:=by rw[<-hb];rfl
 have hin:=hi.drew.MH (.cells (bytesRow b (grownCap w b.size 0 e)) e ((bytesRow b (grownCap w b.size 0 e)).size,(bytesRow b (grownCap w b.size 0 e)).size+1));unfold Oper.wp;rw[hex];refine hK _ _ ⟨_,_,hin.put o.dst (.pure ?_)⟩;refine .sl _ _ _ _ 1 w.heap.size 0 (λi j=>.int .u8 ((l.getD i 0).toNat:Int)) (by rw[List.length_map,hsz]) ?_ (λrow hr=>?_) (λ_=>⟨rfl,.inr rfl⟩) (λi j hi' hj=>?_) (λi row hi' j y hy=>?_)
 ·exact grownCap_ge w b.size 0 e
 ·obtain ⟨c,_,rfl⟩:=W5.1 hr;rfl
 ·have hj0:j=0:=by omega
  subst hj0;have hil:i<b.data.size:=by have:b.size=b.data.size:=rfl;omega
  rw[cell_of (bh w _)];have h1:(0+(i*1+0))=i:=by omega
  rw[h1];unfold bytesRow;rw[Yh (by rw[Array.size_map];exact hil),Array.getElem?_map,YC hil];simp only[Option.map_some];rw[<-hb,List.getD_eq_getElem?_getD];simp[YC hil]
 ·rw[W2] at hi';cases e3:l[i]? with
  | none=>rw[e3] at hi';cases hi'
  | some c=>
   rw[e3] at hi';simp only[Option.map_some,gL] at hi';subst hi';cases j with
   | zero=>
    simp only[List.getElem?_cons_zero,gL] at hy;subst hy;rw[List.getD_eq_getElem?_getD,e3];exact .int _ _
   | succ j=>simp at hy
theorem I_ (t:Nat):Le C σ ⟨σ.tm.set t .any,σ.hp⟩:=by
 rintro a w ⟨μ,S,hi⟩;refine ⟨μ,S,by rw[YN];exact hi.size,hi.defers,λj z hz=>?_,hi.hp,hi.dom,hi.inj,hi.frm,hi.sb⟩;rw[YM] at hz;split at hz
 ·split at hz
  ·injection hz with hz
   subst hz;exact .any _
  ·cases hz
 ·exact hi.tm j z hz
theorem fm:∀(f:List Nat) {σ:St},Le C σ ⟨iN σ.tm (f.map λt=>(t,.any)),σ.hp⟩
 | [],_=>λ_ _ h=>h
 | t::r,σ=>λa w h=>fm r (σ:=⟨σ.tm.set t .any,σ.hp⟩) a w (I_ t a w h)
theorem Mc {M:Int->Int->Int->Prop} {G:Prop} (use:(∀F D T,M F D T)->G) (key:∀F D T,M F D T):G:=use key
theorem Md {M:Bool->Prop} {G:Prop} (use:(∀F,M F)->G) (key:∀F,M F):G:=use key
end
end Go.Eng
namespace La
open Go Go.Lib
def du (c:UInt8):List UInt8->List (List UInt8)
 | []=>[[]]
 | x::r=>if x=c then []::du c r else ((x::(du c r).headD [])::(du c r).tail)
theorem IG (c:UInt8) (s:List UInt8):du c s≠[]:=by
 cases s with
 | nil=>simp[du]
 | cons x r=>unfold du;split<;>simp
theorem xA (c:UInt8) (s:List UInt8):(du c s).headD []::(du c s).tail=du c s:=by
 cases e:du c s with
 | nil=>exact absurd e (IG c s)
 | cons p ps=>rfl
theorem oM (c:UInt8):∀s:List UInt8,splitK [c] 0 (count s [c]) s=du c s
 | []=>by rw[count_miss (by simp[index])];rfl
 | x::r=>by
  by_cases h:x=c
  ·subst h;have hix:index (x::r) [x]=((0:Nat):Int):=by rw[index];simp[List.isPrefixOf]
   rw[count_cons_eq,Nat.add_comm,splitK,hix];simp only[du,if_true];rw[<-oM x r];simp
  ·have ih:=oM c r;have hp:([c]:List UInt8).isPrefixOf (x::r)=false:=by simp[List.isPrefixOf,Ne.symm h]
   have hix:index (x::r) [c]=if index r [c]==-1 then -1 else index r [c]+1:=by rw[index,hp];simp
   rw[count_cons_ne x c r h];simp only[du,if_neg h,<-ih];cases e:count r [c] with
   | zero=>simp[splitK]
   | succ k=>
    have hm:¬index r [c]=-1:=λe2=>by rw[count_miss e2] at e;cases e
    have hge:=index_ge r [c];obtain ⟨j,hj⟩:∃j:Nat,index r [c]=j:=⟨(index r [c]).toNat,by omega⟩;have hix':index (x::r) [c]=((j+1:Nat):Int):=by rw[hix,if_neg (λe=>hm (beq_iff_eq.1 e)),hj];omega
    simp only[splitK,hix',hj];have h1:((((j+1:Nat):Int))==-1)=false:=beq_eq_false_iff_ne.2 z8;have h2:(((j:Nat):Int)==-1)=false:=beq_eq_false_iff_ne.2 z8;simp only[h1,h2];simp
theorem Cp (c:UInt8) (s:ByteArray):(splitB ⟨#[c]⟩ 0 (countB s ⟨#[c]⟩) s).map (·.data.toList)=du c s.data.toList:=by
 rw[splitB_data,<-oM]
def xy (c:UInt8):List (List UInt8)->List UInt8->List UInt8->List (List UInt8)
 | done,cur,[]=>done++[cur]
 | done,cur,x::r=>if x=c then xy c (done++[cur]) [] r else xy c done (cur++[x]) r
theorem xz (c:UInt8):∀(s:List UInt8) (done:List (List UInt8)) (cur:List UInt8),xy c done cur s=done++((cur++(du c s).headD [])::(du c s).tail)
 | [],done,cur=>by simp[xy,du]
 | x::r,done,cur=>by
  simp only[xy,du];split
  ·rw[xz c r];have:=xA c r;simp only[List.nil_append,this,List.append_assoc,List.headD_cons,List.append_nil,List.tail_cons,List.singleton_append]
  ·rw[xz c r];simp
theorem FK (c:UInt8) (s:List UInt8):xy c [] [] s=du c s:=by
 rw[xz,List.nil_append,List.nil_append,xA]
theorem ss (c:UInt8):∀s:List UInt8,(du c s).length<=s.length+1
 | []=>by simp[du]
 | x::r=>by
  have:=ss c r;unfold du;split
  ·simp;omega
  ·simp;omega
theorem nw (c:UInt8):∀(s p:List UInt8),p∈du c s->p.length<=s.length
 | [],p,h=>by simp[du] at h;subst h;simp
 | x::r,p,h=>by
  unfold du at h;have ih:=nw c r;split at h
  ·rcases List.mem_cons.1 h with rfl | h
   ·simp
   ·have:=ih p h;simp;omega
  ·rcases List.mem_cons.1 h with rfl | h
   ·have:(du c r).headD []∈du c r:=by
     have:=xA c r;rw[<-this];simp
    have:=ih _ this;simp only[List.length_cons];omega
   ·have:=ih p (List.mem_of_mem_tail h);simp;omega
end La
namespace La
open Go Go.Eng
def ae (s:List UInt8):List (List UInt8)×Int:=
 if 40<s.length then ([],4) else if s=[47] then ([],0) else if s.head?≠some 47 then ([],2) else
  if (du 47 (s.drop 1)).all cH then (du 47 (s.drop 1),0) else ([],7)
def cG (p:List (List UInt8)×Int):AV:=.tup [.sl (p.1.map a_),.int .i64 p.2]
end La
namespace Go.Eng
section
variable {P:Program} {T:Tab} {C:Ctx} {σ σ':St} {a:Act} {w:World} {Ret:St->Prop} {k:List It}
def zk (r:Nat) (o:Oper) (ops:Array Oper):Bool:=
 (o.after.all λe=>!Region.binds .any e)&&(List.range ops.size).all λj=>j==r||(match ops[j]? with | some oj=>(oj.after.any λe=>Region.binds .any e&&e.on==r)||o.apart ops oj | none=>true)
theorem iq (r:Nat) (p q:List Nat) {ops ops':Array Oper} {Q:Exit->Act->World->Prop} {o:Oper} {x:Operand} (ho:ops[r]? = some o) (hop:o.op=.move x) (hg:o.guard=none)
  (hQ:∀c a w,¬Q (.panic c) a w) (h1:AA r p q ops=true) (h2:zk r o ops=true) (he:(bK r p q ops.toList).toArray=ops') {y:AV} (hx:evS σ x=(True,y))
  (hk:bp P C ops' Q 0 (σ.put o.dst y)):bp P C ops Q 0 σ:=by
 subst he;have hF:=qQ h1;have hrl:=hF.rl;have hpl:=hF.pl;intro a w ⟨μ,S,hi⟩;have hv:=hi.evS x u7;rw[hx] at hv;obtain ⟨u,hr,hu⟩:∃u,Rd μ S w u y/\u=a.eval x:=⟨_,hv,rfl⟩;have hrel:Rel C (σ.put o.dst y) (a.put o.dst u) w:=⟨μ,S,hi.put o.dst hr⟩;have hk':=hk _ _ hrel;have hs:(bK r p q ops.toList).toArray.size+1=ops.size:=by simp[bK,hpl]
 obtain ⟨n,hn⟩:∃n,ops.size=n+1:=⟨ops.size-1,by omega⟩;have hsz:(bK r p q ops.toList).toArray.size=n:=by omega
 unfold zk at h2;rw[Bool.and_eq_true] at h2;have hd0:∀(m i:Nat) (d:Bool),(bj m 0).getD i d=if i<m then false else d:=λm i d=>by rw[fI];simp
 rw[hn,Nat.sub_zero];refine wpAny_first (v:=u) ho hF.sel (λc a w hc=>absurd hc (hQ c _ _)) n _ a w (λk oj hoj hkr _ hw=>?_) (mem_ready.2 ⟨?_,o,ho,λe he hb=>by have:=Array.all_eq_true'.1 h2.1 e he;rw[hb] at this;cases this⟩) (.inl ⟨by rw[Region.wanted,hg],λw'=>?_⟩) ?_
 ·have:=List.all_eq_true.1 h2.2 k (Yn.2 (Ye.1 hoj).1);rw[hoj] at this;simp only[Bool.or_eq_true,beq_iff_eq,Array.any_eq_true',Bool.and_eq_true] at this
  rcases this with h | ⟨e,he,hb,hon⟩ | h
  ·exact absurd h hkr
  ·exact absurd hon (hw e he hb)
  ·exact h
 ·rw[<-hn,hd0,if_pos hrl]
 ·subst hu;simp[execOp,hop]
 ·rw[hsz,Nat.sub_zero] at hk';refine ym hF n _ _ _ _ WT WT ?_ (λi hi=>?_) hk'
  ·rw[Array.getD_eq_getD_getElem?,Yi,if_pos rfl,if_pos (by simp[bj];omega)];rfl
  ·have e2:((bj (n+1) 0).setIfInBounds r true).getD i false=(bj (n+1) 0).getD i false:=by
    rw[Array.getD_eq_getD_getElem?,Yi,if_neg (λe=>hi e.symm),<-Array.getD_eq_getD_getElem?]
   rw[e2,hd0,hd0];split<;>split<;>rfl
end
end Go.Eng
namespace Go.Eng
variable {P:Program} {C:Ctx} {Ret:St->Prop} {k:List It}
theorem o_ {ι:Type} (J:ι->Prop) (f:ι->List (Nat×AV)) (g:ι->List (Nat×Blk)) {x y:Code} {l:List AV} {H:List (Nat×Blk)}
  (h:Cw P C Ret (.code x::.back (λs=>∃j,J j/\Le C s ⟨iN l (f j),bS H (g j)⟩)::k) ⟨l,H⟩)
  (hk:∀j,J j->Cw P C Ret (.code y::k) ⟨iN l (f j),bS H (g j)⟩):Cw P C Ret (.code x::.code y::k) ⟨l,H⟩:=by
 intro a w hr;refine wp_mono (h a w hr) λe a w q=>?_
 cases e with
 | normal=>
  obtain ⟨s,⟨j,hj,hle⟩,hrs⟩:=q;exact hk j hj a w (hle a w hrs)
 | ret=>exact q
 | exit id=>exact q
 | _=>exact q
end Go.Eng
namespace Go.Eng
section
variable {P:Program} {C:Ctx} {σ:St}
theorem Cy {o:Oper} {c:Operand} {args:Array Operand} {ats:Array TypeId} (ho:o.op=.call { callee:=.value c,args,argTypes:=ats }) {p:Prop} {f:FuncId} {xs:List AV}
  (h:az σ c args.toList=some (p,f,xs)) (hp:p) (hc:aJ P f) (ids cs:List Nat) {H K:List (Nat×Blk)} {r:AV} (hH:sub (ids++cs) σ.hp=H)
  (hck:((aB xs).all (ids++cs).contains&&(refs r).all ids.contains&&ids.all (λi=>(aa K i).isSome)&&K.all (λq=>ids.contains q.1)&&(ids++cs).all (λi=>decide (i<5000))&&cs.all (λi=>!ids.contains i))=true) (hnd:(K.map (·.1)).Nodup)
  (hpin:(ids.all λi=>match aa H i with | some b=>eW b | none=>false)=true) (hc1:(H.all λq=>(ay q.2).all (ids++cs).contains)=true) (hc2:(K.all λq=>(ay q.2).all ids.contains)=true)
  (hc3:((del (ids++cs) σ.hp).all λq=>(ay q.2).all λi=>!cs.contains i)=true)
  (hf:∀G Y N:Nat->Nat,aj P f xs (H++pins ids G Y N) λr' H'=>r'=r/\∀i b,aa (K++pins ids G Y N) i=some b->aa H' i=some b) {τ:St} (hτ:(⟨σ.tm.map (iR cs),bS (del cs σ.hp) K⟩:St).put o.dst r=τ):eP P C o σ τ:=by
 subst hH hτ;simp only[Bool.and_eq_true] at hck;obtain ⟨⟨⟨⟨⟨hx,hr⟩,hi1⟩,hK1⟩,h5⟩,hdj⟩:=hck;have hin:∀i,ids.contains i=true->(ids++cs).contains i=true:=λi h=>by simp only[YS,List.mem_append] at h ⊢;exact .inl h
 have hinc:∀i,cs.contains i=true->(ids++cs).contains i=true:=λi h=>by simp only[YS,List.mem_append] at h ⊢;exact .inr h
 have hal:∀i,(ids++cs).contains i=true->i<5000:=λi h=>by
  have:=List.all_eq_true.1 h5 i x7;simpa using this
 have hsep:∀i,cs.contains i=true->ids.contains i=false:=λi h=>by
  have:=List.all_eq_true.1 hdj i x7;simpa using this
 have hor:∀i,(ids++cs).contains i=true->cs.contains i=false->ids.contains i=true:=λi h hn=>by
  simp only[YS,List.mem_append] at h ⊢
  rcases h with h | h
  ·exact h
  ·have:cs.contains i=true:=by simpa using h
   rw[hn] at this;cases this
 have hxr:∀i,i∈aB xs->(ids++cs).contains i=true:=λi h=>List.all_eq_true.1 hx i h
 have hrr:∀i,i∈refs r->ids.contains i=true:=λi h=>List.all_eq_true.1 hr i h
 have hid:∀i,ids.contains i=true->∃b,aa K i=some b:=λi h=>Yd.1 (List.all_eq_true.1 hi1 i x7)
 have hKi:∀i b,aa K i=some b->ids.contains i=true:=λi b h=>List.all_eq_true.1 hK1 _ (aP h)
 intro a w Kp Q ⟨μ,S,hi⟩ hKp;obtain ⟨vs,h1,h2,h3⟩:=jj hi ho h hp hc;unfold Oper.wp;rw[h3];have hpn:∀i,∃g t n,ids.contains i=true->μ i=some g/\ag w g=qM t n:=λi=>by
  by_cases e:ids.contains i=true
  ·have:=List.all_eq_true.1 hpin i Wv;cases e2:aa (sub (ids++cs) σ.hp) i with
   | none=>rw[e2] at this;cases this
   | some b=>
    rw[e2] at this;have e3:aa σ.hp i=some b:=by
     rw[cB,if_pos (hin i e)] at e2;exact e2
    obtain ⟨g,t,n,k1,k2⟩:=B3 (hi.hp i b e3) this;exact ⟨g,t,n,λ_=>⟨k1,k2⟩⟩
  ·exact ⟨0,0,0,λh=>absurd h e⟩
 let G:Nat->Nat:=λi=>Classical.choose (hpn i)
 let Y:Nat->Nat:=λi=>Classical.choose (YR (hpn i))
 let N:Nat->Nat:=λi=>Classical.choose (YR (YR (hpn i)))
 have hg:∀i,ids.contains i=true->μ i=some (G i)/\ag w (G i)=qM (Y i) (N i):=λi=>YR (YR (YR (hpn i)))
 let μc:Nat->Option Nat:=λi=>if (ids++cs).contains i then μ i else none
 have mc:∀{i g},μc i=some g->(ids++cs).contains i=true/\μ i=some g:=fun {i g} h=>by
  simp only[μc] at h;split at h
  ·exact ⟨by assumption,h⟩
  ·cases h
 have mc':∀{i},(ids++cs).contains i=true->μc i=μ i:=fun {i} h=>by simp only[μc,h,if_true]
 have mcn:∀{i},(ids++cs).contains i=false->μc i=none:=fun {i} h=>by simp only[μc,h,Bool.false_eq_true,if_false]
 have hsubk:∀i b,aa (sub (ids++cs) σ.hp) i=some b->(ids++cs).contains i=true/\aa σ.hp i=some b:=λi b h=>by
  rw[cB] at h;split at h
  ·exact ⟨by assumption,h⟩
  ·cases h
 refine (hf G Y N S μc w vs h1 (λj x hj=>(h2 j x hj).less λid hid g hg=>by rw[mc' (hxr id (aX hj hid))];exact hg) ⟨λid b hb=>?_,λid g hg'=>?_,λid id' g hg hg'=>hi.inj id id' g (mc hg).2 (mc hg').2,hi.gok.sub λi g h=>⟨i,(mc h).2⟩⟩ (λb hb=>(hi.sb b hb).1)).mono ?_
 ·rw[aA] at hb;split at hb
  ·obtain ⟨q1,q2⟩:=hsubk id b hb;have hall:=List.all_eq_true.1 hc1 _ (aP hb);exact (hi.hp id b q2).less (mc' q1) (λi hi' g hg=>by rw[mc' (List.all_eq_true.1 hall i hi')];exact hg)
  ·rw[gX] at hb;split at hb
   ·rename_i hc5;injection hb with hb
    subst hb;have hno:(ids++cs).contains id=false:=by
     cases e:(ids++cs).contains id with
     | false=>rfl
     | true=>have:=hal id e;omega
    exact ⟨mcn hno,by rw[mc' (hin _ hc5.2)];exact (hg _ hc5.2).1,(hg _ hc5.2).2⟩
   ·cases hb
 ·obtain ⟨k1,k2⟩:=mc hg';obtain ⟨⟨b,j1⟩,_,j3⟩:=hi.dom id g k2;refine ⟨⟨b,?_⟩,j3⟩;rw[aA,if_pos ⟨(id,b),aP Wc,rfl⟩,cB,if_pos k1];exact j1
 rintro e w' ⟨v,r',H',μ',S',rfl,⟨rfl,hKH⟩,k1,k2,k3,k4,k5⟩;have hKget:∀i b,aa K i=some b->aa H' i=some b:=λi b hb=>hKH i b (by
  rw[aA,if_pos ⟨(i,b),aP hb,rfl⟩];exact hb)
 have hPget:∀i,ids.contains i=true->aa H' (5000+i)=some (.pin i (G i) (Y i) (N i)):=λi hi'=>hKH _ _ (by
  rw[aA,if_neg (by
   rintro ⟨b,hb,hb2⟩;have:ids.contains b.1=true:=List.all_eq_true.1 hK1 b hb;have:=hal _ (hin _ this);omega),gX,if_pos ⟨by omega,by rw[Yk];exact hi'⟩,Yk])
 have hpin':∀i,ids.contains i=true->μ' i=some (G i)/\ag w' (G i)=qM (Y i) (N i):=λi hi'=>(k2.blk _ _ (hPget i hi')).2
 have hfr:Frm (λg=>∃id,μc id=some g) w w':=k3;have hS:aH S w w':=λb hb=>hfr.block b (hi.sb b hb).1 QK
 have hO:∀i g,μ i=some g->(ids++cs).contains i=false->w'.heap[g]? = w.heap[g]?:=λi g hg hn=>hfr.block g (hi.dom i g hg).2.2.2 (by
  rintro ⟨id,h⟩;obtain ⟨q1,q2⟩:=mc h;have:=hi.inj _ _ _ hg q2;subst this;rw[q1] at hn;cases hn)
 let μ2:Nat->Option Nat:=λi=>if cs.contains i then none else μ i
 have m2:∀{i g},μ2 i=some g->cs.contains i=false/\μ i=some g:=fun {i g} h=>by
  simp only[μ2] at h;split at h
  ·cases h
  ·exact ⟨by simpa using (by assumption:¬cs.contains i=true),h⟩
 have m2':∀{i},cs.contains i=false->μ2 i=μ i:=fun {i} h=>by simp only[μ2,h,Bool.false_eq_true,if_false]
 have hz:∀i g,μ2 i=some g->ag w' g=ag w g:=λi g hg'=>by
  obtain ⟨hn,hg'⟩:=m2 hg';cases e:ids.contains i with
  | false=>
   refine aN (hO i g hg' ?_);cases e2:(ids++cs).contains i with
   | false=>rfl
   | true=>rw[hor i e2 hn] at e;cases e
  | true=>
   obtain ⟨q1,q2⟩:=hg i e;rw[hg'] at q1;injection q1 with q1
   rw[q1,(hpin' i e).2,q2]
 let S2:Nat->Prop:=λb=>S b\/S' b
 have hrd:∀{v x},Rd μ S w v x->(∀i,i∈refs x->cs.contains i=false)->Rd μ2 S2 w' v x:=fun {v x} hv hn=>
  (show Rd μ2 S w v x from hv.less (λi hi g hg=>by rw[m2' (hn i hi)];exact hg)).mono hS (λ_ h=>.inl h) (λ_ _ h=>h) hz
 have inv:Inv C μ2 S2 ⟨σ.tm.map (iR cs),bS (del cs σ.hp) K⟩ a w':=by
  refine ⟨by simp[hi.size],hi.defers,λt x hx=>?_,λi b hb=>?_,λi g hg'=>?_,λi j g hg hg'=>hi.inj i j g (m2 hg).2 (m2 hg').2,hi.frm.step _ hfr (λg ⟨id,h⟩=>(hi.dom id g (mc h).2).2.1),λb hb=>?_⟩
  ·simp only[W2] at hx;cases e:σ.tm[t]? with
   | none=>rw[e] at hx;cases hx
   | some y=>
    rw[e] at hx;simp only[Option.map_some,gL] at hx;subst hx;unfold iR;split
    ·exact .any _
    ·rename_i q;refine hrd (hi.tm t y e) (λi hi'=>?_);simp only[List.any_eq_true,not_exists,not_and] at q;simpa using q i hi'
  ·rw[dc i K (del cs σ.hp) hnd] at hb;split at hb
   ·have hib:=hKi i b hb;have hcn:cs.contains i=false:=by
     cases e:cs.contains i with
     | false=>rfl
     | true=>rw[hsep i e] at hib;cases hib
    have hB:=k2.blk i b (hKget i b hb);have hall:=List.all_eq_true.1 hc2 _ (aP hb);have h1:cR μ2 S' w' i b:=hB.less (by rw[m2' hcn,(hg i hib).1,(hpin' i hib).1]) (λj hj q hq=>by
     have hjb:=List.all_eq_true.1 hall j hj;have hjn:cs.contains j=false:=by
      cases e:cs.contains j with
      | false=>rfl
      | true=>rw[hsep j e] at hjb;cases hjb
     rw[(hpin' j hjb).1] at hq;rw[m2' hjn,(hg j hjb).1];exact hq)
    exact h1.mono (aH.refl _ _) (λ_ h=>.inr h) (λ_ _ h=>h) (λ_ _ _=>rfl) (λh=>h) (λ_ _=>rfl)
   ·rename_i hno;have hib:ids.contains i=false:=by
     cases e:ids.contains i with
     | false=>rfl
     | true=>
      obtain ⟨c,hc'⟩:=hid i e;rw[hc'] at hno;exact absurd rfl hno
    rw[dU] at hb;split at hb
    ·cases hb
    rename_i hcn;have hcn:cs.contains i=false:=by simpa using hcn
    have hai:(ids++cs).contains i=false:=by
     cases e2:(ids++cs).contains i with
     | false=>rfl
     | true=>rw[hor i e2 hcn] at hib;cases hib
    have hfree:=List.all_eq_true.1 hc3 (i,b) (aP Zf);have h1:cR μ2 S w i b:=(hi.hp i b hb).less (m2' hcn) (λj hj q hq=>by
     have:=List.all_eq_true.1 hfree j hj;rw[m2' (by simpa using this)];exact hq)
    exact h1.mono hS (λ_ h=>.inl h) (λ_ _ h=>h) hz (λh=>h) (λg hg'=>hO i g (m2 hg').2 hai)
  ·obtain ⟨hcn,hg'⟩:=m2 hg';obtain ⟨⟨b,j1⟩,j2,j3,j4⟩:=hi.dom i g hg';refine ⟨?_,j2,?_,YZ j4 hfr.size⟩
   ·rw[dc i K (del cs σ.hp) hnd];split
    ·rename_i hs;exact Yd.1 hs
    ·exact ⟨b,by rw[dU,if_neg (by rw[hcn];exact Bool.false_ne_true)];exact j1⟩
   ·rintro (h | h)
    ·exact j3 h
    ·cases e:ids.contains i with
     | true=>
      have:=(hg i e).1;rw[hg'] at this;injection this with this
      subst this;exact (k2.dom i _ (hpin' i e).1).2.1 h
     | false=>
      rcases (k5 g h).2 with q | ⟨id,q⟩ | q
      ·exact j3 q
      ·obtain ⟨q1,q2⟩:=mc q;have:=hi.inj _ _ _ hg' q2;subst this;rw[hor i q1 hcn] at e;cases e
      ·omega
  ·rcases hb with h | h
   ·exact ⟨YZ (hi.sb b h).1 hfr.size,(hi.sb b h).2⟩
   ·refine ⟨(k5 b h).1,?_⟩
    rcases (k5 b h).2 with q | ⟨id,q⟩ | q
    ·exact (hi.sb b q).2
    ·rcases (hi.dom id b (mc q).2).2.1 with z | z
     ·exact .inr (.inl z)
     ·exact .inr (.inr z)
    ·have:=hi.frm.size;exact .inr (.inr z8)
 refine hKp _ _ ⟨μ2,S2,inv.put o.dst ?_⟩;have h1:Rd μ2 S' w' v r':=k1.less λi hi' g hg'=>by
  have hib:=hrr i hi';have hin:cs.contains i=false:=by
   cases e:cs.contains i with
   | false=>rfl
   | true=>rw[hsep i e] at hib;cases hib
  rw[(hpin' i hib).1] at hg';rw[m2' hin,(hg i hib).1];exact hg'
 exact h1.mono (aH.refl _ _) (λ_ h=>.inr h) (λ_ _ h=>h) (λ_ _ _=>rfl)
attribute [go_sem] iR del sub
end
end Go.Eng
