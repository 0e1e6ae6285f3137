/- Texts of this claim, part 2: EngD, EngE, EngF. No condition. -/
import Derived.Test.YtmcfbfdonjllaaaGreatDoorZP1
import Derived.Laws.BytesArg
import Derived.Laws.Slices
set_option maxRecDepth 10000
set_option maxHeartbeats 4000000
set_option linter.unusedSimpArgs false
set_option linter.unusedVariables false
namespace Go.Eng
section sound
variable {P:Program} {T:Tab} {C:Ctx} {μ:Nat->Option Nat} {S:Nat->Prop} {σ:St} {a:Act} {w:World}
theorem yf {op:BinOp} {t:TypeId} {ox oy:Operand} {v u:Value} {x y r:AV} {p:Prop} (h:s_ op x y=some (p,r)) (hp:p) (hv:Rd μ S w v x) (hu:Rd μ S w u y) :
  ∃q,(do eqGuard op t ox oy v u;binOp op t v u:Sem Value).run P w=.ok q w/\Rd μ S w q r:=by
 unfold s_ at h;split at h
 ·simp only[gL,gM] at h;obtain ⟨rfl,rfl⟩:=h;obtain ⟨s,rfl,rfl⟩:=hv.fE;obtain ⟨s',rfl,rfl⟩:=hu.fE;have h1:s.data.toList.length=s.size:=by simp
  have h2:s'.data.toList.length=s'.size:=by simp
  rw[h1,h2] at hp;refine ⟨.string (s++s'),?_,.pure (.str _ _ w8)⟩;simp only[eqGuard_at_string,pure_bind,binOp_string_add];exact run_string_add_sum w s s' z8
 ·rename_i k a k' b;simp only[gL,gM] at h;obtain ⟨rfl,rfl⟩:=h;obtain rfl:=hv.aL;obtain rfl:=hu.aL;refine ⟨_,?_,.pure (.int _ _)⟩;simp[eqGuard_at_int,binOp,Op.shift,show ¬b<0 by omega]
 ·rename_i k a k' b;simp only[gL,gM] at h;obtain ⟨rfl,rfl⟩:=h;obtain rfl:=hv.aL;obtain rfl:=hu.aL;refine ⟨_,?_,.pure (.int _ _)⟩;simp[eqGuard_at_int,binOp,Op.shift,show ¬b<0 by omega]
 ·simp only[gL,gM] at h;obtain ⟨rfl,rfl⟩:=h;subst hp;obtain rfl:=hv.aL;obtain rfl:=hu.aL;refine ⟨_,?_,.pure (.int _ _)⟩;simp[eqGuard_at_int,binOp,Op.intBits]
 ·simp only[gL,gM] at h;obtain ⟨rfl,rfl⟩:=h;subst hp;obtain rfl:=hv.aL;obtain rfl:=hu.aL;refine ⟨_,?_,.pure (.int _ _)⟩;simp[eqGuard_at_int,binOp,Op.intBits]
 ·simp only[gL,gM] at h;obtain ⟨rfl,rfl⟩:=h;obtain ⟨rfl,hb⟩:=hp;obtain rfl:=hv.aL;obtain rfl:=hu.aL;refine ⟨_,?_,.pure (.int _ _)⟩;simp[eqGuard_at_int,binOp,Op.intDiv,hb]
 ·simp only[gL,gM] at h;obtain ⟨rfl,rfl⟩:=h;obtain ⟨rfl,hb⟩:=hp;obtain rfl:=hv.aL;obtain rfl:=hu.aL;refine ⟨_,?_,.pure (.int _ _)⟩;simp[eqGuard_at_int,binOp,Op.intDiv,hb]
 ·cases h
theorem G0 {op:UnOp} {v:Value} {x r:AV} (h:G5 op x=some r) (hv:Rd μ S w v x):∃q,(Op.unary op v).run P w=.ok q w/\Rd μ S w q r:=by
 unfold G5 at h;split at h
 ·injection h with h;subst h
  obtain rfl:=hv.eQ;exact ⟨_,rfl,.pure (.bool _)⟩
 ·injection h with h;subst h
  obtain rfl:=hv.aL;exact ⟨_,rfl,.pure (.int _ _)⟩
 ·cases h
theorem Cc (hi:Inv C μ S σ a w) {c x y:Operand} {r:AV} {p:Prop} (h:xU (ev σ c) (ev σ x) (ev σ y)=some (p,r)) (hp:p) :
  ∃b,a.eval c=.bool b/\Rd μ S w (if b then a.eval x else a.eval y) r:=by
 unfold xU at h;have hc:=(hi.ev c).strip;have hx:=(hi.ev x).strip;have hy:=(hi.ev y).strip
 revert h hc hx hy
 generalize strip (ev σ c)=qc;generalize strip (ev σ x)=qx;generalize strip (ev σ y)=qy;intro h hc hx hy;split at h
 ·rename_i pc b;split at h
  ·simp only[gL,gM] at h;obtain ⟨rfl,rfl⟩:=h;obtain ⟨h1,h2,h3⟩:=hp;refine ⟨b,(hc h1).eQ,?_⟩;cases b with
   | true=>simpa using hx (h2 rfl)
   | false=>simpa using hy (h3 rfl)
  ·cases h
 ·cases h
theorem run_getObj_map {g clk:Nat} {es:Array MapEntry} (h:w.heap[g]? = some (.map es clk)):(getObj g).run P w=.ok (.map es clk) w:=by
 simp[getObj,Sem.run,h]
theorem EH (hT:TabOK P T) (hi:Inv C μ S σ a w) {t ty:TypeId} {v:Value} {x r:AV} (h:rG T σ t x=some r) (hv:Rd μ S w v x) :
  ∃u,(Builtin.len_ #[t] ty #[v]).run P w=.ok u w/\Rd μ S w u r:=by
 unfold rG at h;have ht:=hT.und t;split at h<;>(try cases h)<;>rename_i hu<;>rw[hu] at ht<;>simp only[jO] at ht
 ·obtain ⟨s,rfl,rfl⟩:=hv.fE;exact ⟨.int .i64 s.size,by simp[Builtin.len_,run_underlying ht,goInt],by simpa using Rd.pure (.int .i64 s.size)⟩
 ·obtain ⟨A,cap,size,g,off,vals,rfl,_⟩:=hv.gU.gU;exact ⟨_,by simp[Builtin.len_,run_underlying ht,goInt],.pure (.int _ _)⟩
 ·obtain rfl:=hv.gf;exact ⟨_,by simp[Builtin.len_,run_underlying ht,goInt],.pure (.int _ _)⟩
 ·obtain ⟨A,cap,rfl,_⟩:=hv.bT;exact ⟨_,by simp[Builtin.len_,run_underlying ht,goInt],.pure (.int _ _)⟩
 ·obtain rfl:=hv.zt;exact ⟨_,by simp[Builtin.len_,run_underlying ht,goInt],.pure (.int _ _)⟩
 ·obtain ⟨g,es,clk,vals,rfl,hS,hg,hm,hr⟩:=hv.oB.oB;refine ⟨.int .i64 es.size,by simp[Builtin.len_,run_underlying ht,goInt,run_getObj_map hg],?_⟩;rw[hm.size_eq];exact .pure (.int _ _)
 ·split at h<;>(try cases h);rename_i kvs hb;obtain ⟨g,hg,rfl⟩:=hv.tU;obtain ⟨g',es,clk,vals,h1,h2,h3,h4⟩:=hi.hp _ _ hb;rw[h1] at hg;injection hg with hg;subst hg
  refine ⟨.int .i64 es.size,by simp[Builtin.len_,run_underlying ht,goInt,run_getObj_map h2],?_⟩;rw[h3.size_eq];exact .pure (.int _ _)
theorem mC (os:List Operand):(eI σ os).2.length=os.length:=by
 induction os with
 | nil=>rfl
 | cons o r ih=>simp[eI,ih]
theorem Inv.eI (hi:Inv C μ S σ a w):∀(os:List Operand),(Eng.eI σ os).1->∀(j:Nat) x,(Eng.eI σ os).2[j]? = some x->∃o,os[j]? = some o/\Rd μ S w (a.eval o) x
 | [],_,j,x,hx=>by simp[Eng.eI] at hx
 | o::r,hp,j,x,hx=>by
  simp only[Eng.eI] at hp hx;cases j with
  | zero=>simp only[List.getElem?_cons_zero,gL] at hx;subst hx;exact ⟨o,rfl,hi.evS o hp.1⟩
  | succ j=>simp only[List.getElem?_cons_succ] at hx ⊢;exact hi.eI r hp.2 j x hx
theorem Gv (hi:Inv C μ S σ a w) (o:Option Operand) (h:(eI σ o.toList).1):ORd μ S w (o.map λo=>(evS σ o).2) (o.map a.eval):=by
 cases o with
 | none=>trivial
 | some o=>exact hi.evS o h.1
theorem B_ (hT:TabOK P T) {s t:TypeId} {v:Value} {x r:AV} {p:Prop} (h:tl T s t x=some (p,r)) (hp:p) (hv:Rd μ S w v x) :
  ∃u,(convert s t v).run P w=.ok u w/\Rd μ S w u r:=by
 unfold tl at h;have hs:=hT.und s;have ht:=hT.und t;split at h<;>(try cases h)<;>rename_i h1 h2<;>rw[h1] at hs<;>rw[h2] at ht<;>simp only[jO] at hs ht
 ·rename_i _ k k' n;obtain rfl:=hv.aL;have e:P.intKind t=k:=by simp[Program.intKind,ht]
  exact ⟨_,run_convert_int w s t _ _ (by rw[hs];rfl) (by rw[e];exact ht),by rw[e];exact .pure (.int _ _)⟩
 ·rename_i e rows;obtain ⟨he,hrow⟩:=hp;have he':=hT.und e;rw[he] at he';simp only[jO] at he';obtain ⟨A,cap,size,g,off,vals,rfl,hc,hsz,hA,hcell,hr⟩:=hv.gU.gU;have hstr:(strOfNums (rows.map numOf)).data.toList=rows.map byteOf:=by rw[strOfNums_data,Yi];rfl
  by_cases h0:rows=[]
  ·subst h0;cases A with
   | none=>exact ⟨_,run_convert_bytes_nil w s e hs he' _ _ t ht,.pure (.str _ _ rfl)⟩
   | some a=>
    obtain ⟨b,o,i⟩:=a;refine ⟨.string ByteArray.empty,?_,.pure (.str _ _ rfl)⟩;rw[run_convert_bytes_string w s t e _ _ _ hs he' ht];have hl:(Go.loadCells ⟨b,o,i⟩ ([]:List (List AV)).length).run P w=.ok (([]:List Int).map (Value.int .u8)).toArray w:=by simp[Go.loadCells,loadCellsFrom]
    rw[run_bytesToString w _ _ cap [] hl];rfl
  ·have hpos:0<rows.length:=by
    rcases Nat.eq_zero_or_pos rows.length with h | h
    ·exact absurd (List.eq_nil_of_length_eq_zero h) h0
    ·exact h
   obtain ⟨rfl,_⟩:=hA hpos;have hs1:size=1:=by
    obtain ⟨row,hmem⟩:=List.exists_mem_of_ne_nil rows h0;obtain ⟨n,rfl⟩:=hrow row hmem;rw[<-hsz _ hmem];rfl
   subst hs1;refine ⟨_,run_convert_bytes_arg w s e hs he' g off rows.length cap (rows.map numOf) w8 (λi hi=>?_) t ht,.pure (.str _ _ hstr)⟩;have h1:=hcell i 0 hi z8;have hrow':rows[i]? = some rows[i]:=W3 hi;obtain ⟨n,hn⟩:=hrow _ (YY hi);have h3:=hr i _ hrow' 0 (.int .u8 n) (by rw[hn];rfl);have hval:vals i 0=.int .u8 n:=(Rd.pure (μ:=μ) h3).aL;have e2:off+(i*1+0)=off+i:=by omega
   rw[e2] at h1;rw[h1,List.getD_eq_getElem?_getD,W5,hrow',hn,hval];rfl
 ·rename_i e;obtain rfl:=hv.gf;have he':=hT.und e;rw[show T.und e=.int .u8 from hp] at he';exact ⟨_,run_convert_bytes_nil w s e hs he' _ _ t ht,.pure (.str _ _ rfl)⟩
theorem df {α:Type} {n:Int} {x:α}:∀{kvs:List (Int×α)},bl kvs n=some x->(n,x)∈kvs
 | [],h=>by cases h
 | p::r,h=>by
  simp only[bl] at h;split at h
  ·rename_i e;subst e;injection h with h;subst h;exact List.mem_cons_self ..
  ·exact List.mem_cons_of_mem _ (df h)
theorem bS {α:Type} {n:Int} {x:α}:∀{kvs:List (Int×α)},kvs.Pairwise (λa b=>a.1<b.1)->(n,x)∈kvs->bl kvs n=some x
 | p::r,hs,h=>by
  simp only[bl];rw[List.pairwise_cons] at hs
  rcases List.mem_cons.1 h with e | h
  ·rw[<-e,if_pos rfl]
  ·rw[if_neg (λe=>by have:=hs.1 _ h;simp only at this;omega)];exact bS hs.2 h
theorem nG {α:Type} {n:Int}:∀{kvs:List (Int×α)},bl kvs n=none->∀x,(n,x)∉kvs
 | [],_,x,h=>by cases h
 | p::r,hn,x,h=>by
  simp only[bl] at hn;split at hn
  ·cases hn
  ·rename_i e
   rcases List.mem_cons.1 h with e' | h
   ·exact e (by rw[<-e'])
   ·exact nG hn x h
theorem y_ (n:Int):∀(es:List MapEntry) (i:Nat),(∀e,e∈es->∃k,e.key=.int .i64 k) ->
  (∃j e,es[j]? = some e/\e.key=.int .i64 n/\Instr.findNow (.int .i64) (.int .i64 n) es i=some (some (i+j,e.val))) \/
  ((∀e,e∈es->e.key≠.int .i64 n)/\Instr.findNow (.int .i64) (.int .i64 n) es i=some none)
 | [],i,_=>.inr ⟨λe h=>by simp at h,rfl⟩
 | e::es,i,h=>by
  obtain ⟨k,hk⟩:=h e w8
  by_cases hkn:n=k
  ·subst hkn;exact .inl ⟨0,e,rfl,hk,by simp[Instr.findNow,Instr.sameNow,hk]⟩
  ·rcases y_ n es (i+1) (λe he=>h e QB) with ⟨j,e',h1,h2,h3⟩ | ⟨h1,h2⟩
   ·refine .inl ⟨j+1,e',by simpa using h1,h2,?_⟩;simp only[Instr.findNow,Instr.sameNow,hk,if_true,show (n==k)=false from by simpa using hkn];rw[h3,show i+1+j=i+(j+1) from by omega]
   ·refine .inr ⟨λe' he=>?_,?_⟩
    ·rcases List.mem_cons.1 he with rfl | he
     ·rw[hk];intro hc;injection hc with _ hc;exact hkn hc.symm
     ·exact h1 e' he
    ·simp only[Instr.findNow,Instr.sameNow,hk,if_true,show (n==k)=false from by simpa using hkn];exact h2
theorem run_findKey {key:TypeId} (hk:P.underlying key=some (.int .i64)) {es:List MapEntry} {n:Int} {r:Option (Nat×Value)} (h:Instr.findNow (.int .i64) (.int .i64 n) es 0=some r) :
  (Instr.findKey key (.int .i64 n) es).run P w=.ok r w:=by
 unfold Instr.findKey;simp[run_underlying hk,h]
theorem run_checkKey {key:TypeId} (hk:P.underlying key=some (.int .i64)) (b:Bool) (n:Int):(Instr.checkKey b 10000 key (.int .i64 n)).run P w=.ok () w:=by
 unfold Instr.checkKey;simp[run_underlying hk]
theorem Bp (hT:TabOK P T) {k:TypeId} (h:(T.und k).vV=true):P.underlying k=some (.int .i64):=by
 have ht:=hT.und k;unfold KD.vV at h;split at h
 ·rename_i e;rw[e] at ht;exact ht
 ·cases h
theorem MapOK.find {es:Array MapEntry} {clk:Nat} {kvs:List (Int×AV)} {vals:Int->Value} (h:MapOK es clk kvs vals) (n:Int) :
  (∃j e x,es.toList[j]? = some e/\e.key=.int .i64 n/\e.val=vals n/\bl kvs n=some x/\Instr.findNow (.int .i64) (.int .i64 n) es.toList 0=some (some (j,vals n))) \/
  (bl kvs n=none/\(∀e,e∈es.toList->e.key≠.int .i64 n)/\Instr.findNow (.int .i64) (.int .i64 n) es.toList 0=some none):=by
 rcases y_ n es.toList 0 (λe he=>by obtain ⟨k,x,hk,_⟩:=h.key e he;exact ⟨k,hk⟩) with ⟨j,e,h1,h2,h3⟩ | ⟨h1,h2⟩
 ·obtain ⟨k,x,k1,k2,k3⟩:=h.key e (W6 h1);rw[h2] at k1;injection k1 with _ k1
  subst k1;refine .inl ⟨j,e,x,h1,h2,k3,bS h.rise k2,?_⟩;rw[h3,Yd,k3]
 ·refine .inr ⟨?_,h1,h2⟩;cases e:bl kvs n with
  | none=>rfl
  | some x=>
   obtain ⟨e',he,hk⟩:=h.has _ (df e);exact absurd hk (h1 e' he)
theorem KF (hT:TabOK P T) {e:TypeId} (hs:T.siz e≠0) {z:AV} (hz:yq T e=some z):∃v,(∀w,(zeroValue e).run P w=.ok v w)/\∀μ S w,Rd μ S w v z:=by
 obtain ⟨i,h1,h2,h3,zv,h4,h5,h6,h7⟩:=hT.siz e hs;refine ⟨zv,λw=>?_,λμ S w=>?_⟩
 ·simp[zeroValue,typeInfo,h1,h4]
 ·unfold yq at hz;rw[h7] at hz;have hcell:∀(j:Nat) x,(T.zer e)[j]? = some x->Rd μ S w (zv.cells.getD j undef) x:=λj x hx=>by
   rw[<-h5,W5] at hx;cases e2:zv.cells.toList[j]? with
   | none=>rw[e2] at hx;cases hx
   | some u=>
    rw[e2] at hx;simp only[Option.map_some,gL] at hx;subst hx;have:zv.cells.getD j undef=u:=by
     rw[Array.getD_eq_getD_getElem?,<-Array.getElem?_toList,e2];rfl
    rw[this];exact oJ μ S w u
  have hlen:(T.zer e).length=T.siz e:=by rw[<-h5,List.length_map,Array.length_toList,h6]
  cases zv with
  | agg cs=>
   simp only[gL] at hz;subst hz;exact .agg cs _ (by rw[hlen];exact h6) hcell
  | _=>
   simp only[gL] at hz;subst hz;have hl1:T.siz e=1:=by rw[<-h6];rfl
   have hx:(T.zer e)[0]? = some ((T.zer e).getD 0 .any):=by
    rw[List.getD_eq_getElem?_getD,W3 z8];rfl
   exact hcell 0 _ hx
theorem Lq (hi:Inv C μ S σ a w) {v:Value} {x:AV} {kvs:List (Int×AV)} (h:mapOf σ x=some kvs) (hv:Rd μ S w v x) :
  (v=.map none/\kvs=[])\/∃g es clk vals,v=.map (some g)/\w.heap[g]? = some (.map es clk)/\MapOK es clk kvs vals/\∀p,p∈kvs->RdP S w (vals p.1) p.2:=by
 unfold mapOf at h;split at h
 ·injection h with h;subst h
  obtain ⟨g,es,clk,vals,h1,h2,h3,h4,h5⟩:=hv.oB.oB;exact .inr ⟨g,es,clk,vals,h1,h3,h4,h5⟩
 ·injection h with h;subst h
  exact .inl ⟨hv.zt,rfl⟩
 ·split at h
  ·rename_i id kvs' hb;injection h with h;subst h
   obtain ⟨g,hg,rfl⟩:=hv.tU;obtain ⟨g',es,clk,vals,k1,k2,k3,k4⟩:=hi.hp _ _ hb;rw[k1] at hg;injection hg with hg;subst hg
   exact .inr ⟨g',es,clk,vals,rfl,k2,k3,k4⟩
  ·cases h
 ·cases h
theorem Cb (hT:TabOK P T) (hi:Inv C μ S σ a w) {t:TypeId} {v vi:Value} {x i r:AV} {ok:Bool} {p:Prop} (h:qL T σ t x i ok=some (p,r)) (hp:p) (hv:Rd μ S w v x) (hvi:Rd μ S w vi i) :
  ∃u,(Instr.lookup t v vi ok).run P w=.ok u w/\Rd μ S w u r:=by
 unfold qL at h;split at h
 ·rename_i k e kvs n hu hm;split at h
  ·rename_i z hz;simp only[gL,gM] at h;obtain ⟨rfl,rfl⟩:=h;obtain ⟨hk,hs⟩:=hp;have hk:=Bp hT hk;have ht:=hT.und t;rw[hu] at ht;simp only[jO] at ht;obtain rfl:=hvi.aL;obtain ⟨zv,hz1,hz2⟩:=KF hT hs hz;have fin:∀(u:Value) (y:AV) (b:Bool),Rd μ S w u y->Rd μ S w (if ok then .tuple #[u,.bool b] else u) (bif ok then .tup [y,.bool b] else y):=λu y b hu=>by
    cases ok with
    | false=>exact hu
    | true=>
     refine .tup _ _ rfl λj x hx=>?_
     rcases j with _ | _ | j
     ·simp at hx;subst hx;exact hu
     ·simp at hx;subst hx;exact .pure (.bool b)
     ·simp at hx
   rcases Lq hi hm hv with ⟨rfl,rfl⟩ | ⟨g,es,clk,vals,rfl,h2,h3,h4⟩
   ·refine ⟨if ok then .tuple #[zv,.bool false] else zv,?_,fin zv z false (hz2 μ S w)⟩;simp[Instr.lookup,run_underlying ht,run_checkKey hk,run_findKey (w:=w) hk (es:=[]) (n:=n) (r:=none) rfl,hz1]
   ·rcases h3.find n with ⟨j,en,y,k1,k2,k3,k4,k5⟩ | ⟨k1,k2,k3⟩
    ·refine ⟨if ok then .tuple #[vals n,.bool true] else vals n,?_,?_⟩
     ·simp[Instr.lookup,run_underlying ht,run_checkKey hk,run_findKey (w:=w) hk k5,run_getObj_map h2]
     ·rw[k4];exact fin _ _ true (.pure (h4 _ (df k4)))
    ·refine ⟨if ok then .tuple #[zv,.bool false] else zv,?_,?_⟩
     ·simp[Instr.lookup,run_underlying ht,run_checkKey hk,run_findKey (w:=w) hk k3,run_getObj_map h2,hz1]
     ·rw[k1];exact fin _ _ false (hz2 μ S w)
  ·cases h
 ·cases h
theorem lS (hT:TabOK P T) (hi:Inv C μ S σ a w) (o:Oper) {p:Prop} {x:AV} (h:eX T σ o.op=some (p,x)) (hp:p) :
  ∃u,(execOp a.eval o).run P w=.ok (.value u) w/\Rd μ S w u x:=by
 unfold eX at h;unfold execOp;split at h
 ·simp only[gL,gM] at h;obtain ⟨rfl,rfl⟩:=h;rename_i he;rw[he];exact ⟨_,rfl,hi.ev _⟩
 ·simp only[gL,gM] at h;obtain ⟨rfl,rfl⟩:=h;rename_i he;rw[he];exact ⟨_,rfl,hi.ev _⟩
 ·rename_i he;rw[he];obtain ⟨b,h1,h2⟩:=Cc hi h hp;refine ⟨_,?_,h2⟩;simp[h1,asBool]
 ·rename_i t y he;rw[he];cases hl:lC T σ t (evS σ y).2 with
  | none=>rw[hl] at h;cases h
  | some q=>
   simp only[hl,Option.map_some,gL,gM] at h;obtain ⟨rfl,rfl⟩:=h;obtain ⟨u,h1,h2⟩:=uF hT hi (p:=q.1) (r:=q.2) hl hp.2 (hi.evS y hp.1);exact ⟨u,by simp[h1],h2⟩
 ·rename_i y he;rw[he];split at h<;>(try cases h)
  ·rename_i id size row off hy;have hv:=hi.evS y hp;rw[hy] at hv;obtain ⟨g,hg,hv'⟩:=hv.iX;exact ⟨_,by simp[hv'],.ptr id size row off g hg⟩
  ·rename_i cells off hy;have hv:=hi.evS y hp;rw[hy] at hv;obtain ⟨g,o',vals,hv',_⟩:=hv.oC.oC;exact ⟨a.eval y,by simp[hv'],hv⟩
 ·rename_i op t y z ty he;rw[he];split at h
  ·rename_i r hb;simp only[gL,gM] at h;obtain ⟨rfl,rfl⟩:=h;obtain ⟨q,h1,h2⟩:=EE (P:=P) (μ:=μ) (S:=S) (w:=w) (ox:=y) (oy:=z) hT hb (hi.evS y hp.1) (hi.evS z hp.2);exact ⟨q,by simp only[Sem.run_bind] at h1 ⊢;rw[h1];rfl,h2⟩
  ·cases hl:s_ op (evS σ y).2 (evS σ z).2 with
   | none=>rw[hl] at h;cases h
   | some q=>
    simp only[hl,Option.map_some,gL,gM] at h;obtain ⟨rfl,rfl⟩:=h;obtain ⟨u,h1,h2⟩:=yf (P:=P) (μ:=μ) (S:=S) (w:=w) (t:=t) (ox:=y) (oy:=z) (p:=q.1) (r:=q.2) hl hp.2.2 (hi.evS y hp.1) (hi.evS z hp.2.1);exact ⟨u,by simp only[Sem.run_bind] at h1 ⊢;rw[h1];rfl,h2⟩
 ·rename_i op t y he;rw[he];cases hl:G5 op (evS σ y).2 with
  | none=>rw[hl] at h;cases h
  | some q=>
   simp only[hl,Option.map_some,gL,gM] at h;obtain ⟨rfl,rfl⟩:=h;obtain ⟨u,h1,h2⟩:=G0 (P:=P) (μ:=μ) (S:=S) (w:=w) hl (hi.evS y hp);exact ⟨u,by simp[h1],h2⟩
 ·rename_i t y j he;rw[he];cases hl:ir T t (evS σ y).2 j with
  | none=>rw[hl] at h;cases h
  | some q=>
   simp only[hl,Option.map_some,gL,gM] at h;obtain ⟨rfl,rfl⟩:=h;obtain ⟨u,h1,h2⟩:=sn (P:=P) (μ:=μ) (S:=S) (w:=w) hT hl (hi.evS y hp);exact ⟨u,by simp[h1],h2⟩
 ·rename_i t y j he;rw[he];cases hl:ph T t (evS σ y).2 j with
  | none=>rw[hl] at h;cases h
  | some q=>
   simp only[hl,Option.map_some,gL,gM] at h;obtain ⟨rfl,rfl⟩:=h;obtain ⟨u,h1,h2⟩:=AG (P:=P) (μ:=μ) (S:=S) (w:=w) hT (p:=q.1) (r:=q.2) hl hp.2 (hi.evS y hp.1);exact ⟨u,by simp[h1],h2⟩
 ·rename_i t y j he;rw[he];cases hl:iw T t (evS σ y).2 (evS σ j).2 with
  | none=>rw[hl] at h;cases h
  | some q=>
   simp only[hl,Option.map_some,gL,gM] at h;obtain ⟨rfl,rfl⟩:=h;obtain ⟨u,h1,h2⟩:=so (P:=P) (μ:=μ) (S:=S) (w:=w) hT (p:=q.1) (r:=q.2) hl hp.2.2 (hi.evS y hp.1) (hi.evS j hp.2.1);exact ⟨u,by simp[h1],h2⟩
 ·rename_i t y j he;rw[he];cases hl:pq T t (evS σ y).2 (evS σ j).2 with
  | none=>rw[hl] at h;cases h
  | some q=>
   simp only[hl,Option.map_some,gL,gM] at h;obtain ⟨rfl,rfl⟩:=h;obtain ⟨u,h1,h2⟩:=AH (P:=P) (μ:=μ) (S:=S) (w:=w) hT (p:=q.1) (r:=q.2) hl hp.2.2 (hi.evS y hp.1) (hi.evS j hp.2.1);exact ⟨u,by simp[h1],h2⟩
 ·rename_i t y lo hi' he;rw[he];cases hl:pV T t (evS σ y).2 (lo.map λo=>(evS σ o).2) (hi'.map λo=>(evS σ o).2) with
  | none=>rw[hl] at h;cases h
  | some q=>
   simp only[hl,Option.map_some,gL,gM] at h;obtain ⟨rfl,rfl⟩:=h;obtain ⟨u,h1,h2⟩:=AI (P:=P) (μ:=μ) (S:=S) (w:=w) hT (p:=q.1) (r:=q.2) hl hp.2.2.2 (hi.evS y hp.1) (Gv hi lo hp.2.1) (Gv hi hi' hp.2.2.1);exact ⟨u,by simp[h1],h2⟩
 ·rename_i y j he;rw[he];split at h<;>(try cases h);rename_i vs hy;have hv:=hi.evS y hp.1;rw[hy] at hv;obtain ⟨us,hv',hl,hr⟩:=hv.IM;have hj:j<us.size:=by omega
  refine ⟨us[j],by simp[hv',Instr.extract,hj],?_⟩;have:=hr j (vs.getD j .any) (by rw[List.getD_eq_getElem?_getD,W3 hp.2];rfl)
  rwa [Array.getD_eq_getD_getElem?,YK hj] at this
 ·rename_i f first captured he;rw[he]
  split at h<;>(try cases h);rename_i hf;have hf:first=#[]:=by
   cases first with | mk l=>cases l<;>simp_all
  subst hf;refine ⟨.func (.func f) #[] (captured.map a.eval),by simp[Instr.makeFunc],.fn f _ _ (by rw[mC];simp) (λj x hx=>?_)⟩;obtain ⟨o,ho,hr⟩:=hi.eI _ hp j x hx;have:(captured.map a.eval).getD j undef=a.eval o:=by
   rw[Array.getD_eq_getD_getElem?,Array.getElem?_map];have:captured[j]? = some o:=by simpa using ho
   rw[this];rfl
  rw[this];exact hr
 ·rename_i args ats he;rw[he];split at h<;>(try cases h);rename_i y t hy ht;cases hl:rG T σ t (evS σ y).2 with
  | none=>rw[hl] at h;cases h
  | some q=>
   simp only[hl,Option.map_some,gL,gM] at h;obtain ⟨rfl,rfl⟩:=h;have e1:args=#[y]:=by cases args;simp_all
   have e2:ats=#[t]:=by cases ats;simp_all
   subst e1 e2;obtain ⟨u,h1,h2⟩:=EH (ty:=o.type) (P:=P) (μ:=μ) (S:=S) (w:=w) hT hi hl (hi.evS y hp);exact ⟨u,by simp[resolve,invoke,builtin,h1],h2⟩
 ·rename_i s t y he;rw[he];cases hl:tl T s t (evS σ y).2 with
  | none=>rw[hl] at h;cases h
  | some q=>
   simp only[hl,Option.map_some,gL,gM] at h;obtain ⟨rfl,rfl⟩:=h;obtain ⟨u,h1,h2⟩:=B_ (P:=P) (μ:=μ) (S:=S) (w:=w) hT (p:=q.1) (r:=q.2) hl hp.2 (hi.evS y hp.1);exact ⟨u,by simp[h1],h2⟩
 ·rename_i t y i ok he;rw[he];cases hl:qL T σ t (evS σ y).2 (evS σ i).2 ok with
  | none=>rw[hl] at h;cases h
  | some q=>
   simp only[hl,Option.map_some,gL,gM] at h;obtain ⟨rfl,rfl⟩:=h;obtain ⟨u,h1,h2⟩:=Cb (P:=P) (μ:=μ) (S:=S) (w:=w) hT hi (p:=q.1) (r:=q.2) hl hp.2.2 (hi.evS y hp.1) (hi.evS i hp.2.1);exact ⟨u,by simp[h1],h2⟩
 ·cases h
end sound
end Go.Eng
namespace Go.Eng
section
variable {P:Program} {T:Tab} {C:Ctx} {μ:Nat->Option Nat} {S:Nat->Prop} {σ:St} {a:Act} {w:World}
def upd (μ:Nat->Option Nat) (id:Nat) (g:Option Nat):Nat->Option Nat:=λi=>if i=id then g else μ i
theorem bb (w:World) (o:Obj) (k:Nat) (h:k<w.heap.size):(w.alloc o).heap[k]? = w.heap[k]?:=by
 show (w.heap.push o)[k]? = _
 rw[Array.getElem?_push,if_neg z8]
theorem jd (w:World) (o:Obj):(w.alloc o).heap[w.heap.size]? = some o:=by
 show (w.heap.push o)[w.heap.size]? = _
 simp
def AV.leaf:AV->Bool
 | .any | .agg _ | .tup _ | .cnd ..=>false
 | _=>true
theorem Rd.leaf {v:Value} {x:AV} (h:Rd μ S w v x) (hx:x.leaf=true):v.oneCell'=true:=by
 cases h with
 | any=>cases hx
 | pure h=>cases h<;>first | rfl | cases hx
 | agg=>cases hx
 | tup=>cases hx
 | fn=>rfl
 | ptr=>rfl
 | osl=>rfl
 | mp=>rfl
 | exs=>rfl
 | cndT=>cases hx
 | cndF=>cases hx
theorem Inv.fresh (hi:Inv C μ S σ a w) {id:Nat} (hf:aa σ.hp id=none):μ id=none:=by
 cases e:μ id with
 | none=>rfl
 | some g=>obtain ⟨⟨b,hb⟩,_⟩:=hi.dom id g e;rw[hf] at hb;cases hb
theorem Inv.new (hi:Inv C μ S σ a w) (id:Nat) (hf:aa σ.hp id=none) (o:Obj) (b:Blk) (hb:cJ (upd μ id (some w.heap.size)) S (w.alloc o) id b) :
  Inv C (upd μ id (some w.heap.size)) S ⟨σ.tm,(id,b)::σ.hp⟩ a (w.alloc o):=by
 have hn:=hi.fresh hf;have hw:aI S w (w.alloc o):=λb hb=>bb w o b (hi.sb b hb).1
 have hm:∀i g,μ i=some g->upd μ id (some w.heap.size) i=some g:=λi g h=>by
  unfold upd;rw[if_neg (by rintro rfl;rw[hn] at h;cases h)];exact h
 have hz:∀i g,μ i=some g->ag (w.alloc o) g=ag w g:=λi g h=>aN (bb w o g (hi.dom i g h).2.2.2)
 refine ⟨hi.size,hi.defers,λt x hx=>(hi.tm t x hx).mono hw (λ_ h=>h) hm hz,?_,?_,?_,?_,?_⟩
 ·intro i c hc;simp only[aa] at hc
  by_cases e:id=i
  ·subst e;simp only[if_true,gL] at hc;subst hc;exact hb
  ·rw[if_neg e] at hc;have hn':μ i=none->upd μ id (some w.heap.size) i=none:=λh=>by
    unfold upd;rw[if_neg (λh=>e h.symm)];exact h
   exact (hi.hp i c hc).mono hw (λ_ h=>h) hm hz hn' (λg h=>bb w o g (hi.dom i g h).2.2.2)
 ·intro i g hg;unfold upd at hg;split at hg
  ·rename_i e;injection hg with hg
   subst hg e;exact ⟨⟨b,by simp[aa]⟩,.inr hi.frm.size,λh=>Nat.lt_irrefl _ (hi.sb _ h).1,by simp⟩
  ·rename_i e;obtain ⟨⟨c,h1⟩,h2,h3,h4⟩:=hi.dom i g hg;exact ⟨⟨c,by simp only[aa];rw[if_neg (λh=>e h.symm)];exact h1⟩,h2,h3,by simp;omega⟩
 ·intro i j g h1 h2;unfold upd at h1 h2;split at h1<;>split at h2
  ·simp_all
  ·injection h1 with h1;subst h1;exact absurd (hi.dom j _ h2).2.2.2 (Nat.lt_irrefl _)
  ·injection h2 with h2;subst h2;exact absurd (hi.dom i _ h1).2.2.2 (Nat.lt_irrefl _)
  ·exact hi.inj i j g h1 h2
 ·exact ⟨hi.frm.os,hi.frm.tape,hi.frm.output,by simp;have:=hi.frm.size;omega,λb hb hA=>by
   rw[bb w o b (Yc hb hi.frm.size)];exact hi.frm.block b hb hA⟩
 ·intro b hb;exact ⟨by simp;have:=(hi.sb b hb).1;omega,(hi.sb b hb).2⟩
theorem Inv.write (hi:Inv C μ S σ a w) (id g:Nat) (hg:μ id=some g) {w':World} (hos:w'.os=w.os) (htp:w'.tape=w.tape) (hout:w'.output=w.output)
  (hsz:w'.heap.size=w.heap.size) (hne:∀b,b≠g->w'.heap[b]? = w.heap[b]?) (hrow:ag w' g=ag w g) (b:Blk) (hb:cJ μ S w' id b) :
  Inv C μ S ⟨σ.tm,aF σ.hp id b⟩ a w':=by
 obtain ⟨⟨b0,hb0⟩,hA,hS,hlt⟩:=hi.dom id g hg;have hw:aI S w w':=λc hc=>hne c (by rintro rfl;exact hS hc)
 have hz:∀i q,μ i=some q->ag w' q=ag w q:=λi q h=>by
  by_cases e:q=g
  ·subst e;exact hrow
  ·exact aN (hne q e)
 refine ⟨hi.size,hi.defers,λt x hx=>(hi.tm t x hx).mono hw (λ_ h=>h) (λ_ _ h=>h) hz,?_,?_,hi.inj,?_,?_⟩
 ·intro i c hc;rw[aj] at hc;split at hc
  ·rename_i e;injection hc with hc;subst hc e;exact hb
  ·rename_i e;exact (hi.hp i c hc).mono hw (λ_ h=>h) (λ_ _ h=>h) hz (λh=>h) (λq hq=>hne q (by rintro rfl;exact e (hi.inj _ _ _ hg hq)))
 ·intro i q hq;obtain ⟨⟨c,h1⟩,h2,h3,h4⟩:=hi.dom i q hq;refine ⟨?_,h2,h3,by omega⟩;rw[aj];split
  ·exact ⟨_,rfl⟩
  ·exact ⟨c,h1⟩
 ·refine hi.frm.step (λb=>b=g) ⟨hos,htp,hout,by omega,λb _ h=>hne b h⟩ (λb h=>by rw[h];exact hA)
 ·intro b hb;exact ⟨by have:=(hi.sb b hb).1;omega,(hi.sb b hb).2⟩
theorem eY (g o:Nat) (e:TypeId):∀(vs:List Value) (i:Nat) (w:World) (c:Array Value),w.heap[g]? = some (.cells c e (0,0))->(∀v,v∈vs->v.oneCell'=true) ->
  o+i+vs.length<=c.size->∃w',(storeCells ⟨g,o,none⟩ vs i).run P w=.ok () w'/\w'.os=w.os/\w'.tape=w.tape/\w'.output=w.output/\w'.heap.size=w.heap.size /\
   (∀b,b≠g->w'.heap[b]? = w.heap[b]?)/\∃c':Array Value,w'.heap[g]? = some (.cells c' e (0,0))/\c'.size=c.size /\
    ∀k,c'.getD k undef=if o+i<=k/\k<o+i+vs.length then vs.getD (k-(o+i)) undef else c.getD k undef
 | [],i,w,c,hc,_,_=>⟨w,by simp[storeCells],rfl,rfl,rfl,rfl,λ_ _=>rfl,c,hc,rfl,λk=>by rw[if_neg w8]⟩
 | v::r,i,w,c,hc,h1,hle=>by
  simp only[List.length_cons] at hle;have hcell:w.cell? ⟨g,o+i,none⟩=some (c[o+i]'z8):=by
   simp[World.cell?,hc,show o+i<c.size by omega]
  have hfz:w.frozen? ⟨g,o+i,none⟩=false:=by simp[World.frozen?,hc]
  have aF:(w.setCell ⟨g,o+i,none⟩ v).heap[g]? = some (.cells (c.setIfInBounds (o+i) v) e (0,0)):=by
   simp[World.setCell,Array.getElem?_modify,hc]
  obtain ⟨w',h2,h3,h4,h5,h6,h7,c',h8,h9,h10⟩:=eY g o e r (i+1) (w.setCell ⟨g,o+i,none⟩ v) (c.setIfInBounds (o+i) v) aF
   (λu hu=>h1 u (List.mem_cons_of_mem _ hu)) k6
  refine ⟨w',?_,h3,h4,h5,by rw[h6];simp,λb hb=>?_,c',h8,by rw[h9];simp,λk=>?_⟩
  ·simp only[storeCells,add_plain,Sem.run_bind,run_store P w _ v _ (h1 v (List.mem_cons_self ..)),hcell,hfz,Bool.false_eq_true,if_false,Result.andThen_ok];exact h2
  ·rw[h7 b hb];simp only[World.setCell,Array.getElem?_modify];rw[if_neg (by rintro rfl;exact hb rfl)]
  ·rw[h10 k]
   by_cases e1:k=o+i
   ·subst e1;rw[if_neg z8,if_pos w8];simp[show o+i<c.size by omega]
   ·have:(c.setIfInBounds (o+i) v).getD k undef=c.getD k undef:=by
     rw[Array.getD_eq_getD_getElem?,Array.getElem?_setIfInBounds_ne (λh=>e1 h.symm),<-Array.getD_eq_getD_getElem?]
    rw[this]
    by_cases e2:o+i<=k/\k<o+i+(r.length+1)
    ·rw[if_pos z8,if_pos Qw];rw[show k-(o+i)=(k-(o+(i+1)))+1 from by omega];simp
    ·rw[if_neg z8,if_neg Qw]
def putAt:List AV->Nat->List AV->List AV
 | l,_,[]=>l
 | l,o,x::r=>putAt (l.set o x) (o+1) r
theorem gh:∀(xs:List AV) (l:List AV) (o:Nat),(putAt l o xs).length=l.length
 | [],_,_=>rfl
 | x::r,l,o=>by simp[putAt,gh r]
theorem qP:∀(xs:List AV) (l:List AV) (o k:Nat),o+xs.length<=l.length->(putAt l o xs)[k]? = if o<=k/\k<o+xs.length then xs[k-o]? else l[k]?
 | [],l,o,k,_=>by rw[if_neg w8];rfl
 | x::r,l,o,k,h=>by
  simp only[List.length_cons] at h;simp only[putAt];rw[qP r _ _ _ k6]
  by_cases e:k=o
  ·subst e;rw[if_neg z8,if_pos w8];simp[show k<l.length by omega]
  ·rw[List.getElem?_set_ne (λh=>e h.symm)]
   by_cases e2:o<=k/\k<o+(r.length+1)
   ·rw[if_pos z8,if_pos Qw];rw[show k-o=(k-(o+1))+1 from by omega];simp
   ·rw[if_neg z8,if_neg Qw]
def jU (T:Tab) (t:TypeId) (x:AV):Option (List AV):=
 match (T.und t).isA,x with
 | some true,.agg xs=>some xs
 | some false,x=>some [x]
 | _,_=>none
def gp (T:Tab) (σ:St) (t:TypeId) (addr x:AV):Option (Prop×List (Nat×Blk)):=
 match addr,jU T t x with
 | .ptr id size row off,some xs=>
  match aa σ.hp id with
  | some (.cells e s rows)=>
   if s=size then some (T.siz t≠0/\xs.length=T.siz t/\xs.all AV.leaf=true/\row<rows.length/\off+T.siz t<=s,aF σ.hp id (.cells e s (rows.set row (putAt (rows.getD row []) off xs))))
   else none
  | _=>none
 | _,_=>none
theorem oY {t:TypeId} {v:Value} {x:AV} {xs:List AV} (h:jU T t x=some xs) (hl:xs.all AV.leaf=true) (hv:Rd μ S w v x) :
  v.cells.size=xs.length/\(∀u,u∈v.cells.toList->u.oneCell'=true)/\∀(j:Nat) y,xs[j]? = some y->Rd μ S w (v.cells.getD j undef) y:=by
 unfold jU at h;split at h
 ·injection h with h;subst h
  obtain ⟨cs,rfl,h1,h2⟩:=hv.nC;refine ⟨h1,λu hu=>?_,h2⟩;obtain ⟨j,hj,rfl⟩:=List.mem_iff_getElem.1 hu;simp only[Value.cells,Array.length_toList] at hj;rename_i ys _;have hy:ys[j]? = some (ys[j]'z8):=W3 z8;have:=h2 j _ hy;rw[Array.getD_eq_getD_getElem?,YK hj] at this;exact Rd.leaf (by simpa[Value.cells] using this) (List.all_eq_true.1 hl _ (W6 hy))
 ·injection h with h;subst h
  have hone:=hv.leaf Qj;have hc:v.cells=#[v]:=by cases v<;>first | rfl | cases hone
  rw[hc];refine ⟨rfl,λu hu=>by simp at hu;subst hu;exact hone,λj y hy=>?_⟩;cases j with
  | zero=>simp only[List.getElem?_cons_zero,gL] at hy;subst hy;exact hv
  | succ j=>simp at hy
 ·cases h
theorem rU {i j i' j' s:Nat} (hj:j<s) (hj':j'<s) (h:i*s+j=i'*s+j'):i=i'/\j=j':=by
 have h1:i=i':=by
  have e1:(i*s+j) / s=i:=by rw[Nat.mul_comm,Nat.mul_add_div z8,Nat.div_eq_of_lt hj];omega
  have e2:(i'*s+j') / s=i':=by rw[Nat.mul_comm,Nat.mul_add_div z8,Nat.div_eq_of_lt hj'];omega
  rw[<-e1,<-e2,h]
 subst h1;exact ⟨rfl,by omega⟩
theorem AJ (hT:TabOK P T) (hi:Inv C μ S σ a w) {t:TypeId} {va v:Value} {addr x:AV} {p:Prop} {hp':List (Nat×Blk)} (h:gp T σ t addr x=some (p,hp')) (hp:p)
  (hva:Rd μ S w va addr) (hv:Rd μ S w v x):∃w',(Instr.storeAt t va v).run P w=.ok () w'/\Inv C μ S ⟨σ.tm,hp'⟩ a w':=by
 unfold gp at h;split at h
 ·rename_i id size row off xs hx;split at h
  ·rename_i e s rows hb;split at h
   ·rename_i hs;subst hs;simp only[gL,gM] at h;obtain ⟨rfl,rfl⟩:=h;obtain ⟨hz,hl,hleaf,hrow,hoff⟩:=hp;obtain ⟨g,hg,rfl⟩:=hva.iX;obtain ⟨k1,k2,k3⟩:=oY hx hleaf hv
    rcases hi.hp id _ hb with ⟨rfl,h2⟩ | ⟨g',c,h1,h2,h3,h4,h5⟩
    ·rw[h2] at hg;cases hg
    ·rw[h1] at hg;injection hg with hg;subst hg
     have hle:row*s+s<=rows.length*s:=by
      have:=YM s (Nat.succ_le_of_lt hrow)
      rwa [Y5] at this
     have hvl:v.cells.toList.length=T.siz t:=by rw[Array.length_toList,k1,hl]
     obtain ⟨w',r1,r2,r3,r4,r5,r6,c',r7,r8,r9⟩:=eY (P:=P) g' (row*s+off) e v.cells.toList 0 w c h2 k2 z8;refine ⟨w',?_,?_⟩
     ·simp[Instr.storeAt,Instr.sureAddr,storeVar,bB hT hz,k1,hl,r1]
     ·have hrs:ag w' g'=ag w g':=by simp[ag,r7,h2,r8]
      have hS:¬S g':=(hi.dom id g' h1).2.2.1;have hw:aI S w w':=λb hb=>r6 b Qa
      have hz':∀i q,μ i=some q->ag w' q=ag w q:=λi q _=>by
       by_cases e:q=g'
       ·subst e;exact hrs
       ·exact aN (r6 q e)
      have hmono:∀{v x},Rd μ S w v x->Rd μ S w' v x:=λh=>h.mono hw (λ_ h=>h) (λ_ _ h=>h) hz'
      have hrow':rows[row]? = some (rows.getD row []):=by
       rw[List.getD_eq_getElem?_getD,W3 hrow];rfl
      have hlen:(rows.getD row []).length=s:=h4 _ (W6 hrow');refine hi.write id g' h1 r2 r3 r4 r5 r6 hrs _ (.inr ⟨g',c',h1,r7,by simp;omega,λq hq=>?_,λi q hq j y hy=>?_⟩)
      ·rcases Yl hq with h | h
       ·exact h4 q h
       ·rw[h,gh,hlen]
      ·rw[r9];rw[YP] at hq
       by_cases ei:row=i
       ·subst ei;simp only[if_true,hrow] at hq;injection hq with hq;subst hq
        have hj:j<s:=by
         by_cases h:j<s
         ·exact h
         ·rw[List.getElem?_eq_none (by rw[gh,hlen];omega)] at hy;cases hy
        rw[qP _ _ _ _ (by rw[hlen];omega)] at hy
        by_cases e2:off<=j/\j<off+xs.length
        ·rw[if_pos e2] at hy;rw[if_pos z8];have:=hmono (k3 _ _ hy);rw[show row*s+j-(row*s+off+0)=j-off from by omega]
         rwa [Array.getD_eq_getD_getElem?,<-Array.getElem?_toList,<-List.getD_eq_getElem?_getD] at this
        ·rw[if_neg e2] at hy;rw[if_neg z8];exact hmono (h5 row _ hrow' j y hy)
       ·rw[if_neg ei] at hq;have hj:j<s:=by
         by_cases h:j<s
         ·exact h
         ·rw[List.getElem?_eq_none (by rw[h4 _ (W6 hq)];omega)] at hy;cases hy
        rw[if_neg (λhh=>ei (rU (i:=row) (j:=i*s+j-row*s) (i':=i) (j':=j) (s:=s) z8 hj z8).1)];exact hmono (h5 i q hq j y hy)
   ·cases h
  ·cases h
 ·cases h
end
end Go.Eng
namespace Go.Eng
section
variable {P:Program} {T:Tab} {C:Ctx} {μ:Nat->Option Nat} {S:Nat->Prop} {σ:St} {a:Act} {w:World}
def RdL (μ:Nat->Option Nat) (S:Nat->Prop) (w:World) (cs:Array Value) (xs:List AV):Prop:=
 cs.size=xs.length/\∀(j:Nat) x,xs[j]? = some x->Rd μ S w (cs.getD j undef) x
theorem qq (off:Nat):∀(l:List Value) (k:Nat) (cells:Array Value),off+k+l.length<=cells.size ->
  ((l.zipIdx k).foldl (λcs (x:Value×Nat)=>cs.setIfInBounds (off+x.2) x.1) cells).size=cells.size /\
  ∀m,((l.zipIdx k).foldl (λcs (x:Value×Nat)=>cs.setIfInBounds (off+x.2) x.1) cells).getD m undef =
   if off+k<=m/\m<off+k+l.length then l.getD (m-(off+k)) undef else cells.getD m undef
 | [],k,cells,_=>⟨rfl,λm=>by rw[if_neg w8];rfl⟩
 | v::r,k,cells,h=>by
  simp only[List.length_cons] at h;simp only[List.zipIdx_cons,List.foldl_cons];obtain ⟨h1,h2⟩:=qq off r (k+1) (cells.setIfInBounds (off+k) v) k6;refine ⟨by rw[h1];simp,λm=>?_⟩;rw[h2 m]
  by_cases e:m=off+k
  ·subst e;rw[if_neg z8,if_pos w8];simp[show off+k<cells.size by omega]
  ·have:(cells.setIfInBounds (off+k) v).getD m undef=cells.getD m undef:=by
    rw[Array.getD_eq_getD_getElem?,Array.getElem?_setIfInBounds_ne (λh=>e h.symm),<-Array.getD_eq_getD_getElem?]
   rw[this]
   by_cases e2:off+k<=m/\m<off+k+(r.length+1)
   ·rw[if_pos z8,if_pos Qw];rw[show m-(off+k)=(m-(off+(k+1)))+1 from by omega];simp
   ·rw[if_neg z8,if_neg Qw]
def xu:List AV->List (Nat×Nat×List AV)->List AV
 | l,[]=>l
 | l,(off,_,xs)::r=>xu (putAt l off xs) r
theorem RdL.putAt {cs cs':Array Value} {l xs:List AV} {off:Nat} {vs:Array Value} (h:RdL μ S w cs l) (hx:RdL μ S w vs xs) (hoff:off+xs.length<=l.length) (hsz:cs'.size=cs.size)
  (hg:∀m,cs'.getD m undef=if off<=m/\m<off+vs.size then vs.getD (m-off) undef else cs.getD m undef):RdL μ S w cs' (Eng.putAt l off xs):=by
 refine ⟨by rw[hsz,h.1,gh],λj x hj=>?_⟩;rw[qP _ _ _ _ hoff] at hj;rw[hg j]
 by_cases e:off<=j/\j<off+xs.length
 ·rw[if_pos e] at hj;rw[if_pos (by rw[hx.1];exact e)];exact hx.2 _ _ hj
 ·rw[if_neg e] at hj;rw[if_neg (by rw[hx.1];exact e)];exact h.2 _ _ hj
theorem tG (place:Nat->Option (Nat×Nat)):∀(parts:List (Nat×Value)) (aps:List (Nat×Nat×List AV)) (cells:Array Value) (l:List AV),RdL μ S w cells l ->
  parts.length=aps.length->(∀(i:Nat) q r,parts[i]? = some q->aps[i]? = some r->place q.1=some (r.1,r.2.1)/\RdL μ S w q.2.cells r.2.2/\r.2.2.length=r.2.1/\r.1+r.2.1<=l.length) ->
  ∃cells',Instr.fill place cells parts=some cells'/\RdL μ S w cells' (xu l aps)
 | [],aps,cells,l,h,hl,_=>by
  cases aps with
  | nil=>exact ⟨cells,rfl,h⟩
  | cons=>simp at hl
 | (i,v)::parts,aps,cells,l,h,hl,hp=>by
  cases aps with
  | nil=>simp at hl
  | cons q aps=>
   obtain ⟨off,size,xs⟩:=q;obtain ⟨h1,h2,h3,h4⟩:=hp 0 (i,v) (off,size,xs) rfl rfl;simp only at h1 h2 h3 h4;have hvs:v.cells.size=size:=by rw[h2.1,h3]
   have hcs:=h.1;obtain ⟨k1,k2⟩:=qq off v.cells.toList 0 cells (by rw[Array.length_toList];omega);have hput:RdL μ S w ((v.cells.toList.zipIdx 0).foldl (λcs (x:Value×Nat)=>cs.setIfInBounds (off+x.2) x.1) cells) (putAt l off xs):=
    h.putAt h2 (by rw[h3];exact h4) k1 (λm=>by
     rw[k2 m];simp only[Array.length_toList,Nat.add_zero];split
     ·rw[List.getD_eq_getElem?_getD,Array.getElem?_toList,<-Array.getD_eq_getD_getElem?]
     ·rfl)
   obtain ⟨cells',j1,j2⟩:=tG place parts aps _ (putAt l off xs) hput Qj (λm q r hq hr=>by
    have:=hp (m+1) q r (by simpa using hq) (by simpa using hr)
    rwa [gh])
   refine ⟨cells',?_,j2⟩;unfold Instr.fill;rw[h1];simp only[hvs,ne_eq,not_true_eq_false,decide_false,Yz,decide_eq_true_eq];rw[if_neg z8,<-Array.foldl_toList,Array.toList_zipIdx];exact j1
theorem uY (hT:TabOK P T) {t:TypeId} (h:T.siz t≠0):∃z,(∀w,(zeroValue t).run P w=.ok z w)/\z.cells.size=T.siz t/\(∀μ S w,RdL μ S w z.cells (T.zer t)) /\
  ((T.und t).isA=some (match z with | .agg _=>true | _=>false)):=by
 obtain ⟨i,hi,_,_,z,h1,h2,h3,h4⟩:=hT.siz t h;refine ⟨z,λw=>by simp[zeroValue,typeInfo,hi,h1],h3,λμ S w=>⟨by rw[<-h2];simp,λj x hx=>?_⟩,h4⟩;rw[<-h2,W5,Array.getElem?_toList] at hx;cases e:z.cells[j]? with
 | none=>rw[e] at hx;cases hx
 | some v=>
  rw[e] at hx;simp only[Option.map_some,gL] at hx;subst hx;rw[Array.getD_eq_getD_getElem?,e];exact oJ μ S w v
def lK (T:Tab) (σ:St) (t:TypeId):List (Nat×Operand)->Option (Prop×List (Nat×Nat×List AV))
 | []=>some (True,[])
 | (j,o)::r=>
  match T.fld t j,lK T σ t r with
  | some (ft,off),some (p,l)=>
   match jU T ft (evS σ o).2 with
   | some xs=>some ((evS σ o).1/\xs.length=T.siz ft/\xs.all AV.leaf=true/\off+T.siz ft<=(T.zer t).length/\p,(off,T.siz ft,xs)::l)
   | none=>none
  | _,_=>none
def lJ (T:Tab) (σ:St) (e:TypeId) (n:Nat):List (Nat×Operand)->Option (Prop×List (Nat×List AV))
 | []=>some (True,[])
 | (j,o)::r=>
  match lJ T σ e n r,jU T e (evS σ o).2 with
  | some (p,l),some xs=>some ((evS σ o).1/\xs.length=T.siz e/\xs.all AV.leaf=true/\j<n/\p,(j,xs)::l)
  | _,_=>none
def fC (T:Tab) (σ:St) (t:TypeId) (parts:List (Nat×Operand)):Option (Prop×AV):=
 match T.und t,lK T σ t parts with
 | .struct,some (p,l)=>some (T.siz t≠0/\p,.agg (xu (T.zer t) l))
 | _,_=>none
theorem yY (F:Array Field) (h:∀f,f∈F->(P.info? f.type).isSome=true) :
  ((F.mapM λf=>do pure (f.offset,<-sizeOf f.type):Sem (Array (Nat×Nat)))).run P w=.ok (F.map λf=>(f.offset,P.cellsOf f.type)) w:=by
 rw[Array.mapM_eq_mapM_toList];have:∀(l:List Field),(∀f,f∈l->(P.info? f.type).isSome=true)->((l.mapM λf=>do pure (f.offset,<-sizeOf f.type):Sem (List (Nat×Nat)))).run P w=.ok (l.map λf=>(f.offset,P.cellsOf f.type)) w:=by
  intro l
  induction l with
  | nil=>intro _;simp
  | cons f r ih=>
   intro h;obtain ⟨i,hi⟩:=Yf.1 (h f (List.mem_cons_self ..));have hs:(sizeOf f.type).run P w=.ok (P.cellsOf f.type) w:=by simp[sizeOf,typeInfo,hi,Program.cellsOf]
   simp only[List.mapM_cons,Sem.run_bind,hs,Result.andThen_ok,Sem.run_pure,ih (λg hg=>h g (List.mem_cons_of_mem _ hg)),List.map_cons]
 rw[Sem.run_map,this F.toList (λf hf=>h f (by simpa using hf))]
 apply congrArg (λq=>Result.ok q w)
 apply Array.ext'
 simp
theorem pH (hT:TabOK P T) (hi:Inv C μ S σ a w) {t:TypeId} {F:Array Field} (hF:P.underlying t=some (.struct F)):∀(parts:List (Nat×Operand)) (p:Prop) (l:List (Nat×Nat×List AV)),
  lK T σ t parts=some (p,l)->p->parts.length=l.length/\∀(i:Nat) q r,(parts.map λq=>(q.1,a.eval q.2))[i]? = some q->l[i]? = some r ->
   (F.map λf=>(f.offset,P.cellsOf f.type))[q.1]? = some (r.1,r.2.1)/\RdL μ S w q.2.cells r.2.2/\r.2.2.length=r.2.1/\r.1+r.2.1<=(T.zer t).length
 | [],p,l,h,_=>by
  simp only[lK,gL,gM] at h;obtain ⟨_,rfl⟩:=h;exact ⟨rfl,λi q r hq=>by simp at hq⟩
 | (j,o)::parts,p,l,h,hp=>by
  unfold lK at h;split at h
  ·rename_i ft off p' l' hfld hrest;split at h
   ·rename_i xs hxs;simp only[gL,gM] at h;obtain ⟨rfl,rfl⟩:=h;obtain ⟨h1,h2,h3,h4,h5⟩:=hp;obtain ⟨k1,k2⟩:=pH hT hi hF parts p' l' hrest h5;refine ⟨by simp[k1],λi q r hq hr=>?_⟩;cases i with
    | succ i=>exact k2 i q r (by simpa using hq) (by simpa using hr)
    | zero=>
     simp only[List.map_cons,List.getElem?_cons_zero,gL] at hq hr;subst hq hr;obtain ⟨F',f,e1,e2,e3,e4,e5⟩:=hT.fld _ _ _ _ hfld;rw[hF] at e1;injection e1 with e1
     injection e1 with e1
     subst e1;obtain ⟨c1,c2,c3⟩:=oY hxs h3 (hi.evS o h1);obtain ⟨inf,e6,e7,_⟩:=hT.siz ft e5;refine ⟨?_,⟨c1,c3⟩,h2,h4⟩;simp[e2,e3,e4,Program.cellsOf,e6,e7]
   ·cases h
  ·cases h
theorem AE (hT:TabOK P T) (hi:Inv C μ S σ a w) {t:TypeId} {parts:Array (Nat×Operand)} {p:Prop} {x:AV} (h:fC T σ t parts.toList=some (p,x)) (hp:p) :
  ∃u,(Instr.build t (parts.map λ(i,o)=>(i,a.eval o))).run P w=.ok u w/\Rd μ S w u x:=by
 unfold fC at h;split at h
 ·rename_i p' l hu hps;simp only[gL,gM] at h;obtain ⟨rfl,rfl⟩:=h;obtain ⟨h1,h3⟩:=hp;have ht:=hT.und t;rw[hu] at ht;obtain ⟨F,hF,hinf⟩:=ht;obtain ⟨z,z1,z2,z3,z4⟩:=uY hT h1;obtain ⟨k1,k2⟩:=pH hT hi hF parts.toList p' l hps h3;obtain ⟨cells',f1,f2⟩:=tG (μ:=μ) (S:=S) (w:=w) ((F.map λf=>(f.offset,P.cellsOf f.type))[·]?) (parts.toList.map λq=>(q.1,a.eval q.2)) l z.cells (T.zer t) (z3 μ S w) (by simpa using k1) k2;refine ⟨.agg cells',?_,.agg cells' _ f2.1 f2.2⟩;simp only[Instr.build,Sem.run_bind,z1,Result.andThen_ok,run_underlying hF,yY F hinf];rw[show (parts.map λ(x:Nat×Operand)=>(x.1,a.eval x.2)).toList=parts.toList.map λq=>(q.1,a.eval q.2) by simp];rw[f1];simp
 ·cases h
end
end Go.Eng
