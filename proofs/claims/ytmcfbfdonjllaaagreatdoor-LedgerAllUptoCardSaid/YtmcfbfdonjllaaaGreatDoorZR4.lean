/- Texts of this claim, part 4: EngAX, EngAY, EngAZ, EngBA, Turn, Ren, Same, SameLog. No condition. -/
import Derived.Test.YtmcfbfdonjllaaaGreatDoorZR3
import Derived.Laws.MakeOwn
set_option maxRecDepth 10000
set_option maxHeartbeats 4000000
set_option linter.unusedSimpArgs false
set_option linter.unusedVariables false
namespace Go.Eng
section
variable {P:Program} {T:Tab} {C:Ctx} {μ:Nat->Option Nat} {S:Nat->Prop} {σ:St} {a:Act} {w:World}
structure SrcS (μ:Nat->Option Nat) (S:Nat->Prop) (w:World) (size:Nat) (b:ByteArray) (rows:List (List AV)) (vs:List Value):Prop where
 one:size=1
 num:rows.length=b.size
 bytes:(b.data.map λc=>Value.int .u8 (c.toNat:Int))=vs.toArray
 len:vs.length=rows.length*size
 rd:∀(i:Nat) row,rows[i]? = some row->∀(j:Nat) x,row[j]? = some x->Rd μ S w (vs.getD (i*size+j) undef) x
 leaf:∀u,u∈vs->u.oneCell'=true
theorem JL {b:ByteArray} {l:List UInt8} (hb:b.data.toList=l) (size:Nat) (h1:size=1):∃vs,SrcS μ S w size b (l.map λb=>[AV.int .u8 (b.toNat:Int)]) vs:=by
 subst h1 hb;refine ⟨b.data.toList.map λc=>Value.int .u8 (c.toNat:Int),rfl,by rw[List.length_map];rfl,by rw[<-List.map_toArray,Array.toArray_toList],by simp,λi row hi j x hx=>?_,λu hu=>?_⟩
 ·rw[W2] at hi;cases e3:b.data.toList[i]? with
  | none=>rw[e3] at hi;cases hi
  | some c=>
   rw[e3] at hi;simp only[Option.map_some,gL] at hi;subst hi;cases j with
   | zero=>
    simp only[List.getElem?_cons_zero,gL] at hx;subst hx;rw[List.getD_eq_getElem?_getD,show i*1+0=i by omega,W2,e3];exact .pure (.int _ _)
   | succ j=>simp at hx
 ·obtain ⟨c,_,rfl⟩:=W5.1 hu;rfl
theorem uC {size:Nat} {b:ByteArray} {rows:List (List AV)} {vs:List Value} (h:SrcS μ S w size b rows vs) (w':World):(Builtin.firstCells size rows.length (.string b)).run P w'=.ok vs.toArray w':=by
 rw[h.num,<-h.bytes];simp[Builtin.firstCells]
theorem la {u:TypeId} (hu:P.underlying u=some .string) (hT:TabOK P T) {t e ty:TypeId} (ht:P.underlying t=some (.slice e)) (hs:T.siz e≠0) (hb:T.byt e≠0) {A:Option Addr} {len cap:Nat} {v:ByteArray} {R rows:List (List AV)} {olds vs:List Value}
  (ho:Src μ S w (T.siz e) (.slice A len cap) R olds) (hx:SrcS μ S w (T.siz e) v rows vs) (hlen:R.length=len) (hg:¬len+rows.length<=cap) (hsz:(2*(len+rows.length)+768)*T.byt e<=281474976710656) :
  ∃(nc:Nat) (z:Array Value),len+rows.length<=nc/\z.size=(nc-(len+rows.length))*T.siz e/\(Builtin.append_ #[t,u] ty #[.slice A len cap,.string v]).run P w =
   .ok (.slice (some ⟨w.heap.size,0,none⟩) (len+rows.length) nc) (w.drew.alloc (.cells (olds.toArray++vs.toArray++z) e)):=by
 obtain ⟨i,hi,hi1,hi2,z,hz,_,hzs,_⟩:=hT.siz e hs;have hn:=oD (len+rows.length) cap z8;have hfit:Builtin.nextslicecap (len+rows.length) cap*i.bytes<=281474976710656:=by
  rw[hi2];exact Yl (YJ _ hn) hsz
 have hw1:Src μ S w.drew (T.siz e) (.slice A len cap) R olds:=⟨ho.form,ho.len,ho.rlen,λi row hi j x hx=>(ho.rd i row hi j x hx).mono (λ_ _=>rfl) (λ_ h=>h) (λ_ _ h=>h) (λ_ _ _=>rfl)⟩;have g1:=jv (P:=P) hw1;have g2:=uC (P:=P) hx;have hnm:=hx.num;rw[hlen] at g1;refine ⟨grownCap w (len+rows.length) cap e,Builtin.zeroCells z.cells (grownCap w (len+rows.length) cap e-(len+rows.length)),grownCap_ge w _ _ _,by simp[Builtin.zeroCells,hzs],?_⟩;have hb':i.bytes≠0:=by rw[hi2];exact hb
 rw[hnm] at hg g2 hfit ⊢;simp[Builtin.append_,run_underlying ht,run_underlying hu,sizeOf,typeInfo,hi,hi1,Builtin.lenOf,hg,hb',show ¬281474976710656<Builtin.nextslicecap (len+v.size) cap*i.bytes by omega,g1,g2,Question.forced,zeroValue,hz,lW,grownCap];rw[<-Array.append_assoc];simp
theorem nh {u:TypeId} (hu:P.underlying u=some .string) (hT:TabOK P T) {t e ty:TypeId} (ht:P.underlying t=some (.slice e)) (hs:T.siz e≠0) {A:Option Addr} {len cap:Nat} {v:ByteArray} {rows:List (List AV)} {vs:List Value}
  (hx:SrcS μ S w (T.siz e) v rows vs) (hg:len+rows.length<=cap) :
  (Builtin.append_ #[t,u] ty #[.slice A len cap,.string v]).run P w =
   (((match A with | some a=>storeCells (a.add (len*T.siz e)) vs | none=>pure ()):Sem Unit).run P w).andThen (λ_ w'=>.ok (.slice A (len+rows.length) cap) w'):=by
 obtain ⟨i,hi,hi1,hi2,z,hz,_,hzs,_⟩:=hT.siz e hs;have g2:=uC (P:=P) hx w;have hnm:=hx.num;rw[hnm] at hg g2 ⊢;cases A<;>simp[Builtin.append_,run_underlying ht,run_underlying hu,sizeOf,typeInfo,hi,hi1,Builtin.lenOf,hg,g2]
theorem vt (hT:TabOK P T) (hi:Inv C μ S σ a w) {d:Nat} {t ty:TypeId} {x r:AV} {vx:Value} {u:TypeId} (hu:P.underlying u=some .string) (h1s:T.siz (match T.und t with | .sl e=>e | _=>0)=1) {sb:ByteArray} {l:List UInt8} (hsb:sb.data.toList=l) {p:Prop} {σ':St} (h:fz T σ d t x (.sl (l.map λb=>[AV.int .u8 (b.toNat:Int)]))=some (p,σ',r)) (hp:p)
  (hvx:Rd μ S w vx x) :
  ∃v1 w' μ',(Builtin.append_ #[t,u] ty #[vx,.string sb]).run P w=.ok v1 w'/\Inv C μ' S σ' a w'/\Rd μ' S w' v1 r:=by
 unfold fz at h;split at h
 ·rename_i e rows hut hsrc;have ht:=hT.und t;rw[hut] at ht h1s;simp only at h1s;have hR0:(l.map λb=>[AV.int .u8 (b.toNat:Int)])=rows:=by simpa[cW] using hsrc
  obtain ⟨vs,hvs⟩:∃vs,SrcS μ S w (T.siz e) sb rows vs:=by rw[<-hR0];exact JL hsb (T.siz e) h1s
  clear hR0 hsrc;simp only[jX] at ht;split at h
  ·-- onto nil
   simp only[gL,gM] at h;obtain ⟨rfl,rfl,rfl⟩:=h;obtain ⟨hs,hb,hrl,hlen,hleaf,hsz,hfree⟩:=hp;obtain rfl:=hvx.gm
   by_cases h0:rows.length=0
   ·have hr:=nh (ty:=ty) hu (A:=none) (len:=0) (cap:=0) hT ht hs hvs z8;simp only[Sem.run_pure,Result.andThen_ok] at hr;have hrows:rows=[]:=List.eq_nil_of_length_eq_zero h0;subst hrows;have hn:=hi.fresh hfree;refine ⟨_,w,μ,hr,⟨hi.size,hi.defers,hi.tm,λi b hb=>?_,λi g hg=>?_,hi.inj,hi.frm,hi.sb⟩,.osl d _ 0 _ 0 none w8 (.inl ⟨by simp,rfl⟩)⟩
    ·simp only[aa] at hb;split at hb
     ·rename_i e';injection hb with hb;subst hb e';exact .inl ⟨rfl,hn⟩
     ·exact hi.hp i b hb
    ·obtain ⟨⟨c,h1⟩,h2⟩:=hi.dom i g hg;refine ⟨⟨c,?_⟩,h2⟩;simp only[aa];rw[if_neg Z8];exact h1
   ·have ho:Src μ S w (T.siz e) (.slice none 0 0) [] []:=⟨⟨none,0,rfl,λh=>by simp at h⟩,by simp,by simp,λi row h=>by simp at h⟩;obtain ⟨nc,z,h1,h2,h3⟩:=la (ty:=ty) hu hT ht hs hb ho hvs rfl z8 hsz;have hi1:=hi.drew;have hm:∀{v x},Rd μ S w v x->Rd μ S w.drew v x:=λh=>h.mono (λ_ _=>rfl) (λ_ h=>h) (λ_ _ h=>h) (λ_ _ _=>rfl)
    have hcs:(#[]++vs.toArray++z).size=rows.length*T.siz e+z.size:=by simp[hvs.len]
    refine ⟨_,_,_,h3,hi1.new d hfree _ (.cells e (T.siz e) rows) (.inr ⟨w.heap.size,_,by simp[upd],bh w _,by simp[hvs.len],hrl,λi row hi' j x hx=>?_⟩),?_⟩
    ·have hlt:=iM (size:=T.siz e) hi';have hj:j<T.siz e:=by
      by_cases h:j<T.siz e
      ·exact h
      ·rw[List.getElem?_eq_none WM] at hx;cases hx
     have:=hvs.rd i row hi' j x hx;have e2:(#[]++vs.toArray++z).getD (i*T.siz e+j) undef=vs.getD (i*T.siz e+j) undef:=by
      rw[Array.getD_eq_getD_getElem?,List.getD_eq_getElem?_getD];simp only[Array.empty_append];rw[Yh (by simp[hvs.len];omega)];simp
     rw[show (List.toArray []++vs.toArray++z)=(#[]++vs.toArray++z) from rfl,e2];exact (hm this).mono (λb hb=>bb _ _ b (hi1.sb b hb).1) (λ_ h=>h) (λi' g hg=>by
      unfold upd;rw[if_neg WN];exact hg) (λi' g hg=>aN (bb _ _ g (hi1.dom i' g hg).2.2.2))
    ·refine .osl d _ 0 _ nc _ h1 (.inr ⟨w.heap.size,e,_,by simp[upd],by simp,?_,rfl⟩);unfold ag;rw[bh];simp only[gL,gM,true_and];simp only[Array.size_append,List.size_toArray,List.length_nil,hvs.len,h2,Yc,<-Nat.add_mul]
     congr 1
     omega
  ·-- onto what is held
   rename_i id s len;split at h
   ·rename_i e' s' R hb0;split at h
    ·rename_i hcond;obtain ⟨rfl,rfl,rfl⟩:=hcond;simp only[gL,gM] at h;obtain ⟨rfl,rfl,rfl⟩:=h;obtain ⟨hs,hb,hrl,hlen,hleaf,hsz,hd,hid,hR,hfree,hbf⟩:=hp;have hRl:rowsOf (T.siz e') (R.take len):=by
      rcases hi.hp id _ hb0 with ⟨rfl,_⟩ | ⟨g,c,_,_,_,k4,_⟩
      ·intro row hrow;simp at hrow
      ·exact λrow hrow=>k4 row (YF hrow)
     have hRt:(R.take len).length=len:=by simp;omega
     obtain ⟨olds,ho⟩:=ma hi (x:=.osl id (T.siz e') 0 len) (rows:=R.take len) (size:=T.siz e') (by simp[cW,hb0]) hvx hRl (λ_ _ _ _ h=>by injection h with _ _ _ h;rw[hRt,h]);have hdd:d=id\/μ d=none:=hd.imp (λh=>h) (λh=>hi.fresh h);obtain ⟨A,cap,rfl,hc,hor⟩:=hvx.bZ
     by_cases hroom:len+rows.length<=cap
     ·have hr:=nh (ty:=ty) hu (A:=A) (len:=len) (cap:=cap) hT ht hs hvs hroom
      rcases hor with ⟨h1,h2⟩ | ⟨g,e2,n,h1,rfl,h3,h4⟩
      ·-- nothing comes onto nothing
       have h0:rows=[]:=List.eq_nil_of_length_eq_zero z8;subst h0 h1 h2;have hv0:vs=[]:=List.eq_nil_of_length_eq_zero (by rw[hvs.len];simp);subst hv0;have hr':(Builtin.append_ #[t,u] ty #[.slice A 0 0,.string sb]).run P w=.ok (.slice A 0 0) w:=by
        rw[hr];cases A<;>simp[storeCells]
       have hi0:Inv C μ S ⟨σ.tm,aG σ.hp id (.cells e' (T.siz e') (R.take 0++[]))⟩ a w:=by
        refine ⟨hi.size,hi.defers,hi.tm,λi b hb=>?_,λi q hq=>?_,hi.inj,hi.frm,hi.sb⟩
        ·rw[ai] at hb;split at hb
         ·rename_i e3;injection hb with hb;subst hb e3
          rcases hi.hp id _ hb0 with ⟨_,k⟩ | ⟨g,c,k1,k2,_⟩
          ·exact .inl ⟨by simp,k⟩
          ·exact .inr ⟨g,c,k1,k2,by simp,by simp,λi row h=>by simp at h⟩
         ·exact hi.hp i b hb
        ·obtain ⟨⟨c,k1⟩,k2⟩:=hi.dom i q hq;refine ⟨?_,k2⟩;rw[ai];split
         ·exact ⟨_,rfl⟩
         ·exact ⟨c,k1⟩
       have hfree':ez id (aG σ.hp id (.cells e' (T.siz e') (R.take 0++[]))):=iy hfree;have:=hi0.move (id:=id) (d:=d) (b:=.cells e' (T.siz e') (R.take 0++[])) (by rw[ai];simp) (hd.imp (λh=>h) (λh=>by
        rw[ai];split
        ·rename_i e4;subst e4;rw[hb0] at h;cases h
        ·exact h)) hfree' hbf
       refine ⟨_,w,mv μ id d,hr',?_,.osl d _ 0 _ 0 A w8 (.inl ⟨by simp,rfl⟩)⟩;simp only[kK] at this;exact this
      ·-- in place
       rcases hi.hp id _ hb0 with ⟨_,k⟩ | ⟨g',c,k1,k2,k3,k4,k5⟩
       ·rw[k] at h1;cases h1
       ·rw[k1] at h1;injection h1 with h1;subst h1
        rw[ag,k2] at h3;simp only[gL,gM] at h3;obtain ⟨rfl,rfl⟩:=h3;have hcs:(len+rows.length)*T.siz e'<=c.size:=Yl (YJ _ z8) (Nat.le_of_eq h4);rw[Nat.add_mul] at hcs;obtain ⟨w',r1,r2,r3,r4,r5,r6,c',r7,r8,r9⟩:=eY (P:=P) g' (len*T.siz e') e' vs 0 w c k2 (hvs.leaf) (by rw[hvs.len];omega);have hr':(Builtin.append_ #[t,u] ty #[.slice (some ⟨g',0*T.siz e',none⟩) len cap,.string sb]).run P w=.ok (.slice (some ⟨g',0*T.siz e',none⟩) (len+rows.length) cap) w':=by
         rw[hr];simp only[Nat.zero_mul,add_plain,Yc,r1,Result.andThen_ok]
        have hrs:ag w' g'=ag w g':=by simp[ag,r7,k2,r8]
        have hS:¬S g':=(hi.dom id g' k1).2.2.1;have hw:aH S w w':=λb hb=>r6 b Qb
        have hz':∀i q,μ i=some q->ag w' q=ag w q:=λi q _=>by
         by_cases e:q=g'
         ·subst e;exact hrs
         ·exact aN (r6 q e)
        have hmono:∀{v x},Rd μ S w v x->Rd μ S w' v x:=λh=>h.mono hw (λ_ h=>h) (λ_ _ h=>h) hz'
        have hRlen:len*T.siz e'<=R.length*T.siz e':=YJ _ hR;have hi0:Inv C μ S ⟨σ.tm,aG σ.hp id (.cells e' (T.siz e') (R.take len++rows))⟩ a w':=
         hi.write id g' k1 r2 r3 r4 r5 r6 hrs _ (.inr ⟨g',c',k1,r7,by rw[List.length_append,hRt,Nat.add_mul,r8];omega,λrow hrow=>by
           rcases List.mem_append.1 hrow with h | h
           ·exact hRl row h
           ·exact hrl row h,
          jo (olds:=(List.range (len*T.siz e')).map λk=>c.getD k undef) (vs:=vs) (by simp[hRt]) hRl hrl (λi row hi' j x hx=>by
            have hlt:=iM (size:=T.siz e') hi';rw[hRt] at hlt;have hj:j<T.siz e':=by
             by_cases h:j<T.siz e'
             ·exact h
             ·rw[List.getElem?_eq_none WO] at hx;cases hx
            rw[List.getD_eq_getElem?_getD,W2,Yo z8];rw[YU] at hi';split at hi'
            ·exact hmono (k5 i row hi' j x hx)
            ·cases hi') (λi row hi' j x hx=>hmono (hvs.rd i row hi' j x hx)) hvs.len (λk hk=>by
           simp only[List.length_map,List.length_range] at hk;rw[r9]
           by_cases hkl:k<len*T.siz e'
           ·rw[if_neg z8,List.getD_eq_getElem?_getD,YP Wl,W2,Yo hkl];rfl
           ·rw[if_pos z8,List.getD_eq_getElem?_getD,List.getD_eq_getElem?_getD,YO Wl];simp)⟩)
        have hfree':ez id (aG σ.hp id (.cells e' (T.siz e') (R.take len++rows))):=iy hfree;have:=hi0.move (id:=id) (d:=d) (b:=.cells e' (T.siz e') (R.take len++rows)) (by rw[ai];simp) (hd.imp (λh=>h) (λh=>by
         rw[ai];split
         ·rename_i e4;subst e4;rw[hb0] at h;cases h
         ·exact h)) hfree' hbf
        rw[kK] at this;refine ⟨_,w',_,hr',this,.osl d _ 0 _ cap _ hroom (.inr ⟨g',e',c.size,?_,rfl,by simp[ag,r7,r8],h4⟩)⟩;simp[mv,k1]
     ·-- a new block
      obtain ⟨nc,z,h1,h2,h3⟩:=la (ty:=ty) hu hT ht hs hb ho hvs hRt hroom hsz;have hi1:=(hi.drop id hfree).drew;have hfr:aa (σ.drop id).hp d=none:=by
       simp only[St.drop,bB];split
       ·rfl
       ·rename_i e4
        rcases hd with rfl | hd
        ·exact absurd rfl e4
        ·exact hd
      have hnod:upd μ id none d=none:=hi1.fresh hfr;have hm:∀{v x},Rd μ S w v x->id∉refs x->Rd (upd μ id none) S w.drew v x:=λh hn=>
       (h.other hn none).mono (λ_ _=>rfl) (λ_ h=>h) (λ_ _ h=>h) (λ_ _ _=>rfl)
      have hno:=ng hbf;refine ⟨_,_,_,h3,hi1.new d hfr _ (.cells e' (T.siz e') (R.take len++rows)) (.inr ⟨w.heap.size,_,by simp[upd],bh w _,by simp[ho.len,hvs.len,hRt,Nat.add_mul],λrow hrow=>by
           rcases List.mem_append.1 hrow with h | h
           ·exact hRl row h
           ·exact hrl row h,?_⟩),?_⟩
      ·have hup:∀{v x},Rd (upd μ id none) S w.drew v x ->
         Rd (upd (upd μ id none) d (some w.heap.size)) S (World.alloc w.drew (.cells (olds.toArray++vs.toArray++z) e')) v x:=λh=>
        h.mono (λb hb=>bb _ _ b (hi1.sb b hb).1) (λ_ h=>h) (λi' g hg=>by
         show (if i'=d then some w.heap.size else upd μ id none i')=some g
         rw[if_neg Qr];exact hg) (λi' g hg=>aN (bb _ _ g (hi1.dom i' g hg).2.2.2))
       have key:=jo (μ:=upd μ id none) (S:=S) (w:=w.drew) (R:=R.take len) (rows:=rows) (cs:=olds.toArray++vs.toArray++z) (s:=T.siz e') ho.len hRl hrl
        (λi row hi' j x hx=>hm (ho.rd i row hi' j x hx) (hno row (YQ _ (W3 hi')) x (W3 hx)))
        (λi row hi' j x hx=>hm (hvs.rd i row hi' j x hx) (hno row (YB _ (W3 hi')) x (W3 hx))) hvs.len (λk hk=>by
         rw[Array.getD_eq_getD_getElem?,List.getD_eq_getElem?_getD,Yh Z4];simp[List.append_toArray])
       exact λi row hi' j x hx=>hup (key i row hi' j x hx)
      ·refine .osl d _ 0 _ nc _ h1 (.inr ⟨w.heap.size,e',_,by simp[upd],by simp,?_,rfl⟩);unfold ag;rw[bh];simp only[gL,gM,true_and];simp only[Array.size_append,List.size_toArray,ho.len,hvs.len,hRt,h2,Yc,<-Nat.add_mul]
       congr 1
       omega
    ·cases h
   ·cases h
  ·cases h
 ·cases h
theorem yD (hT:TabOK P T) {o:Oper} {d:Nat} (hd:o.dst=some d) {x y:Operand} {t u:TypeId} (ho:o.op=.call { callee:=.builtin .append,args:=#[x,y],argTypes:=#[t,u] }) (hu:T.und u=.str) (h1s:T.siz (match T.und t with | .sl e=>e | _=>0)=1)
  {xv:AV} (hx:evS σ x=(True,xv)) {l:List UInt8} (hy:evS σ y=(True,.str l)) {p:Prop} {σ1 σ':St} {r:AV} (h:fz T σ d t xv (.sl (l.map λb=>[AV.int .u8 (b.toNat:Int)]))=some (p,σ1,r)) (hp:p) (hσ:σ1.put (some d) r=σ'):eP P C o σ σ':=by
 subst hσ;refine fa hd λμ S a w hi=>?_
 have hvx:=hi.evS x u7;have hvy:=hi.evS y Qk;rw[hx] at hvx;rw[hy] at hvy;obtain ⟨b,e1,hb⟩:=hvy.fG;have hus:P.underlying u=some .string:=by have:=hT.und u;rw[hu] at this;exact this
 obtain ⟨v1,w',μ',h1,h2,h3⟩:=vt (ty:=o.type) hT hi hus h1s hb h hp hvx;exact ⟨v1,w',μ',S,by simp[execOp,ho,resolve,invoke,builtin,e1,h1],h2,h3⟩
end
end Go.Eng
namespace Go.Eng
section
variable {P:Program} {T:Tab} {C:Ctx} {μ:Nat->Option Nat} {S:Nat->Prop} {σ σ':St} {a:Act} {w:World} {Ret:St->Prop} {k:List It}
theorem uU (hT:TabOK P T) {o:Oper} {t e:TypeId} {d n:Nat} {x:Operand} (ho:o.op=.makeSlice t x x) (hd:o.dst=some d) (ht:T.und t=.sl e) (hs:T.siz e≠0)
  (hx:evS σ x=(True,.int .i64 n)) (hn:T.byt e*n<=281474976710656) (hm:n<=4611686018427387904) (h3:aa σ.hp d=none) :
  eP P C o σ ((⟨σ.tm,(d,.cells e (T.siz e) (List.replicate n (T.zer e)))::σ.hp⟩:St).put (some d) (.osl d (T.siz e) 0 n)):=by
 refine fa hd λμ S a w hi=>?_
 have hv:=hi.evS x u7;rw[hx] at hv;have e1:a.eval x=.int .i64 n:=by
  generalize a.eval x=v at hv;cases hv with
  | pure h=>cases h with
   | int k n=>rfl
 obtain ⟨i,j1,j2,j3,z,j4,_⟩:=hT.siz e hs;have hty:P.underlying t=some (.slice e):=by have:=hT.und t;rw[ht] at this;exact this
 have hrun:=run_make (P:=P) w t e i z hty j1 j4 .i64 .i64 n n z8 z8 (by rw[j3,<-Int.natCast_mul];omega) z8;obtain ⟨z',z1,z2,z3⟩:=nP hT n hs;have hzz:z'=z:=by
  have:=z1 w;simp[zeroValue,typeInfo,j1,j4] at this;exact this.symm
 subst hzz;have f2:=z3 μ S w;have e2:madeCells z'.cells ((n:Int).toNat*i.size)=(Array.range (n*T.siz e)).map (z'.cells[· % z'.cells.size]!):=by
  rw[j2,Int.toNat_natCast];rfl
 rw[e2] at hrun;generalize (Array.range (n*T.siz e)).map (z'.cells[· % z'.cells.size]!)=cs at *;refine ⟨_,_,_,S,by simp only[execOp,ho,e1,Sem.run_bind,hrun];rfl,hi.new d h3 _ _ (xq μ S w d e (T.siz e) _ cs f2.size f2.len f2.rd (hi.fresh h3) (λb hb=>(hi.sb b hb).1) (λi g hg=>(hi.dom i g hg).2.2.2)),?_⟩;refine .osl d (T.siz e) 0 n n _ (W7 _) (.inr ⟨w.heap.size,e,n*T.siz e,by simp[upd],by simp,?_,by simp⟩);unfold ag;rw[jg];simp[f2.size]
end
end Go.Eng
namespace Go.Eng
section
variable {P:Program} {C:Ctx} {σ:St}
theorem oO {o:Oper} {c:Operand} {args:Array Operand} {ats:Array TypeId} (ho:o.op=.call { callee:=.value c,args,argTypes:=ats }) {p:Prop} {f:FuncId} {xs:List AV}
  (h:az σ c args.toList=some (p,f,xs)) (hp:p) (hc:aJ P f) (ids cs ns:List Nat) {H K:List (Nat×Blk)} {r:AV} (hH:sub (ids++cs) σ.hp=H)
  (hck:((aB xs).all (ids++cs).contains&&(refs r).all (ids++ns).contains&&(ids++ns).all (λi=>(aa K i).isSome)&&K.all (λq=>(ids++ns).contains q.1)&&(ids++cs++ns).all (λi=>decide (i<5000))&&cs.all (λi=>!ids.contains i))=true) (hck2:(ns.all (λi=>!ids.contains i)&&ns.all (λi=>(aa (del cs σ.hp) i).isNone))=true) (hnd:(K.map (·.1)).Nodup)
  (hpin:(ids.all λi=>match aa H i with | some b=>eW b | none=>false)=true) (hc1:(H.all λq=>(ay q.2).all (ids++cs).contains)=true) (hc2:(K.all λq=>(ay q.2).all (ids++ns).contains)=true)
  (hc3:((del (ids++cs) σ.hp).all λq=>(ay q.2).all λi=>!cs.contains i)=true)
  (hf:∀G Y N:Nat->Nat,aj P f xs (H++pins ids G Y N) λr' H'=>r'=r/\∀i b,aa (K++pins ids G Y N) i=some b->aa H' i=some b) {τ:St} (hτ:(⟨σ.tm.map (iR cs),bS (del cs σ.hp) K⟩:St).put o.dst r=τ):eP P C o σ τ:=by
 subst hH hτ;simp only[Bool.and_eq_true] at hck;obtain ⟨⟨⟨⟨⟨hx,hr⟩,hi1⟩,hK1⟩,h5⟩,hdj⟩:=hck;have hin:∀i,ids.contains i=true->(ids++cs).contains i=true:=λi h=>by simp only[YS,List.mem_append] at h ⊢;exact .inl h
 have hinc:∀i,cs.contains i=true->(ids++cs).contains i=true:=λi h=>by simp only[YS,List.mem_append] at h ⊢;exact .inr h
 have hal:∀i,(ids++cs).contains i=true->i<5000:=λi h=>by
  have:=List.all_eq_true.1 h5 i (by simp only[YS,List.mem_append] at h ⊢;exact .inl h);simpa using this
 have haln:∀i,ns.contains i=true->i<5000:=λi h=>by
  have:=List.all_eq_true.1 h5 i (by simp only[YS,List.mem_append] at h ⊢;exact .inr h);simpa using this
 have hsep:∀i,cs.contains i=true->ids.contains i=false:=λi h=>by
  have:=List.all_eq_true.1 hdj i x7;simpa using this
 have hor:∀i,(ids++cs).contains i=true->cs.contains i=false->ids.contains i=true:=λi h hn=>by
  simp only[YS,List.mem_append] at h ⊢
  rcases h with h | h
  ·exact h
  ·have:cs.contains i=true:=by simpa using h
   rw[hn] at this;cases this
 have hxr:∀i,i∈aB xs->(ids++cs).contains i=true:=λi h=>List.all_eq_true.1 hx i h
 have hrr:∀i,i∈refs r->(ids++ns).contains i=true:=λi h=>List.all_eq_true.1 hr i h
 simp only[Bool.and_eq_true] at hck2;have hnsi:∀i,ns.contains i=true->ids.contains i=false:=λi h=>by
  have:=List.all_eq_true.1 hck2.1 i x7;simpa using this
 have hnsf:∀i,ns.contains i=true->aa (del cs σ.hp) i=none:=λi h=>by
  have:=List.all_eq_true.1 hck2.2 i x7;simpa using this
 have hIN:∀i,(ids++ns).contains i=true->ids.contains i=true\/ns.contains i=true:=λi h=>by
  simpa only [YS,List.mem_append] using h
 have hIi:∀i,ids.contains i=true->(ids++ns).contains i=true:=λi h=>by
  simp only[YS,List.mem_append] at h ⊢;exact .inl h
 have hIn:∀i,ns.contains i=true->(ids++ns).contains i=true:=λi h=>by
  simp only[YS,List.mem_append] at h ⊢;exact .inr h
 have hid:∀i,(ids++ns).contains i=true->∃b,aa K i=some b:=λi h=>Yd.1 (List.all_eq_true.1 hi1 i x7)
 have hKi:∀i b,aa K i=some b->(ids++ns).contains i=true:=λi b h=>List.all_eq_true.1 hK1 _ (aP h)
 intro a w Kp Q ⟨μ,S,hi⟩ hKp;obtain ⟨vs,h1,h2,h3⟩:=jj hi ho h hp hc;unfold Oper.wp;rw[h3];have hpn:∀i,∃g t n,ids.contains i=true->μ i=some g/\ag w g=qM t n:=λi=>by
  by_cases e:ids.contains i=true
  ·have:=List.all_eq_true.1 hpin i Wv;cases e2:aa (sub (ids++cs) σ.hp) i with
   | none=>rw[e2] at this;cases this
   | some b=>
    rw[e2] at this;have e3:aa σ.hp i=some b:=by
     rw[cB,if_pos (hin i e)] at e2;exact e2
    obtain ⟨g,t,n,k1,k2⟩:=B3 (hi.hp i b e3) this;exact ⟨g,t,n,λ_=>⟨k1,k2⟩⟩
  ·exact ⟨0,0,0,λh=>absurd h e⟩
 let G:Nat->Nat:=λi=>Classical.choose (hpn i)
 let Y:Nat->Nat:=λi=>Classical.choose (YR (hpn i))
 let N:Nat->Nat:=λi=>Classical.choose (YR (YR (hpn i)))
 have hg:∀i,ids.contains i=true->μ i=some (G i)/\ag w (G i)=qM (Y i) (N i):=λi=>YR (YR (YR (hpn i)))
 let μc:Nat->Option Nat:=λi=>if (ids++cs).contains i then μ i else none
 have mc:∀{i g},μc i=some g->(ids++cs).contains i=true/\μ i=some g:=fun {i g} h=>by
  simp only[μc] at h;split at h
  ·exact ⟨by assumption,h⟩
  ·cases h
 have mc':∀{i},(ids++cs).contains i=true->μc i=μ i:=fun {i} h=>by simp only[μc,h,if_true]
 have mcn:∀{i},(ids++cs).contains i=false->μc i=none:=fun {i} h=>by simp only[μc,h,Bool.false_eq_true,if_false]
 have hsubk:∀i b,aa (sub (ids++cs) σ.hp) i=some b->(ids++cs).contains i=true/\aa σ.hp i=some b:=λi b h=>by
  rw[cB] at h;split at h
  ·exact ⟨by assumption,h⟩
  ·cases h
 refine (hf G Y N S μc w vs h1 (λj x hj=>(h2 j x hj).less λid hid g hg=>by rw[mc' (hxr id (aX hj hid))];exact hg) ⟨λid b hb=>?_,λid g hg'=>?_,λid id' g hg hg'=>hi.inj id id' g (mc hg).2 (mc hg').2,hi.gok.sub λi g h=>⟨i,(mc h).2⟩⟩ (λb hb=>(hi.sb b hb).1)).mono ?_
 ·rw[aA] at hb;split at hb
  ·obtain ⟨q1,q2⟩:=hsubk id b hb;have hall:=List.all_eq_true.1 hc1 _ (aP hb);exact (hi.hp id b q2).less (mc' q1) (λi hi' g hg=>by rw[mc' (List.all_eq_true.1 hall i hi')];exact hg)
  ·rw[gX] at hb;split at hb
   ·rename_i hc5;injection hb with hb
    subst hb;have hno:(ids++cs).contains id=false:=by
     cases e:(ids++cs).contains id with
     | false=>rfl
     | true=>have:=hal id e;omega
    exact ⟨mcn hno,by rw[mc' (hin _ hc5.2)];exact (hg _ hc5.2).1,(hg _ hc5.2).2⟩
   ·cases hb
 ·obtain ⟨k1,k2⟩:=mc hg';obtain ⟨⟨b,j1⟩,_,j3⟩:=hi.dom id g k2;refine ⟨⟨b,?_⟩,j3⟩;rw[aA,if_pos ⟨(id,b),aP Wc,rfl⟩,cB,if_pos k1];exact j1
 rintro e w' ⟨v,r',H',μ',S',rfl,⟨rfl,hKH⟩,k1,k2,k3,k4,k5⟩;have hKget:∀i b,aa K i=some b->aa H' i=some b:=λi b hb=>hKH i b (by
  rw[aA,if_pos ⟨(i,b),aP hb,rfl⟩];exact hb)
 have hPget:∀i,ids.contains i=true->aa H' (5000+i)=some (.pin i (G i) (Y i) (N i)):=λi hi'=>hKH _ _ (by
  rw[aA,if_neg (by
   rintro ⟨b,hb,hb2⟩;have:(ids++ns).contains b.1=true:=List.all_eq_true.1 hK1 b hb
   rcases hIN _ this with q | q
   ·have:=hal _ (hin _ q);omega
   ·have:=haln _ q;omega),gX,if_pos ⟨by omega,by rw[Yk];exact hi'⟩,Yk])
 have hpin':∀i,ids.contains i=true->μ' i=some (G i)/\ag w' (G i)=qM (Y i) (N i):=λi hi'=>(k2.blk _ _ (hPget i hi')).2
 have hfr:Frm (λg=>∃id,μc id=some g) w w':=k3;have hS:aH S w w':=λb hb=>hfr.block b (hi.sb b hb).1 QK
 have hO:∀i g,μ i=some g->(ids++cs).contains i=false->w'.heap[g]? = w.heap[g]?:=λi g hg hn=>hfr.block g (hi.dom i g hg).2.2.2 (by
  rintro ⟨id,h⟩;obtain ⟨q1,q2⟩:=mc h;have:=hi.inj _ _ _ hg q2;subst this;rw[q1] at hn;cases hn)
 let μ1:Nat->Option Nat:=λi=>if cs.contains i then none else μ i
 have m1:∀{i g},μ1 i=some g->cs.contains i=false/\μ i=some g:=fun {i g} h=>by
  simp only[μ1] at h;split at h
  ·cases h
  ·exact ⟨by simpa using (by assumption:¬cs.contains i=true),h⟩
 have m1':∀{i},cs.contains i=false->μ1 i=μ i:=fun {i} h=>by simp only[μ1,h,Bool.false_eq_true,if_false]
 -- whom we hold, and what is not used up, is no new number
 have hold:∀{i g},μ1 i=some g->ns.contains i=false:=fun {i g} h=>by
  obtain ⟨hn,hg'⟩:=m1 h;cases e:ns.contains i with
  | false=>rfl
  | true=>
   have:=hnsf i e;obtain ⟨⟨b,hb⟩,_⟩:=hi.dom i g hg';rw[dU,if_neg (by rw[hn];exact Bool.false_ne_true),hb] at this;cases this
 let μ2:Nat->Option Nat:=λi=>if ns.contains i then μ' i else μ1 i
 have m2n:∀{i},ns.contains i=true->μ2 i=μ' i:=fun {i} h=>by simp only[μ2,h,if_true]
 have m2o:∀{i},ns.contains i=false->μ2 i=μ1 i:=fun {i} h=>by simp only[μ2,h,Bool.false_eq_true,if_false]
 have m2i:∀{i},ids.contains i=true->μ2 i=some (G i)/\μ' i=some (G i):=fun {i} h=>by
  have hn:ns.contains i=false:=by
   cases e:ns.contains i with
   | false=>rfl
   | true=>rw[hnsi i e] at h;cases h
  have hcn:cs.contains i=false:=by
   cases e:cs.contains i with
   | false=>rfl
   | true=>rw[hsep i e] at h;cases h
  exact ⟨by rw[m2o hn,m1' hcn,(hg i h).1],(hpin' i h).1⟩
 have m2c:∀{i g},μ2 i=some g->(ns.contains i=true/\μ' i=some g)\/(ns.contains i=false/\μ1 i=some g):=fun {i g} h=>by
  cases e:ns.contains i with
  | true=>rw[m2n e] at h;exact .inl ⟨rfl,h⟩
  | false=>rw[m2o e] at h;exact .inr ⟨rfl,h⟩
 have hup:∀i g,μ1 i=some g->μ2 i=some g:=λi g h=>by rw[m2o (hold h)];exact h
 have hz:∀i g,μ1 i=some g->ag w' g=ag w g:=λi g hg'=>by
  obtain ⟨hn,hg'⟩:=m1 hg';cases e:ids.contains i with
  | false=>
   refine aN (hO i g hg' ?_);cases e2:(ids++cs).contains i with
   | false=>rfl
   | true=>rw[hor i e2 hn] at e;cases e
  | true=>
   obtain ⟨q1,q2⟩:=hg i e;rw[hg'] at q1;injection q1 with q1
   rw[q1,(hpin' i e).2,q2]
 -- what the callee names is what we name
 have hsame:∀j,(ids++ns).contains j=true->μ2 j=μ' j:=λj hj=>by
  rcases hIN j hj with h | h
  ·rw[(m2i h).1,(m2i h).2]
  ·exact m2n h
 let S2:Nat->Prop:=λb=>S b\/S' b
 have hrd:∀{v x},Rd μ S w v x->(∀i,i∈refs x->cs.contains i=false)->Rd μ2 S2 w' v x:=fun {v x} hv hn=>
  (show Rd μ1 S w v x from hv.less (λi hi g hg=>by rw[m1' (hn i hi)];exact hg)).mono hS (λ_ h=>.inl h) hup hz
 have hmix:∀i j g,ns.contains i=true->μ' i=some g->μ1 j=some g->i=j:=λi j g hn h1 h2=>by
  obtain ⟨q1,q2⟩:=m1 h2;cases e:ids.contains j with
  | true=>
   have q3:=(hg j e).1;rw[q2] at q3;injection q3 with q3
   exact k2.inj i j g h1 (by rw[q3];exact (hpin' j e).1)
  | false=>
   rcases k4 i g h1 with ⟨id,q⟩ | q
   ·obtain ⟨r1,r2⟩:=mc q;have:=hi.inj _ _ _ q2 r2;subst this;rw[hor j r1 q1] at e;cases e
   ·have:=(hi.dom j g q2).2.2.2;omega
 have inv:Inv C μ2 S2 ⟨σ.tm.map (iR cs),bS (del cs σ.hp) K⟩ a w':=by
  refine ⟨by simp[hi.size],hi.defers,λt x hx=>?_,λi b hb=>?_,λi g hg'=>?_,λi j g hg hg'=>?_,hi.frm.step _ hfr (λg ⟨id,h⟩=>(hi.dom id g (mc h).2).2.1),λb hb=>?_⟩
  ·simp only[W2] at hx;cases e:σ.tm[t]? with
   | none=>rw[e] at hx;cases hx
   | some y=>
    rw[e] at hx;simp only[Option.map_some,gL] at hx;subst hx;unfold iR;split
    ·exact .any _
    ·rename_i q;refine hrd (hi.tm t y e) (λi hi'=>?_);simp only[List.any_eq_true,not_exists,not_and] at q;simpa using q i hi'
  ·rw[dc i K (del cs σ.hp) hnd] at hb;split at hb
   ·have hib:=hKi i b hb;have hB:=k2.blk i b (hKget i b hb);have hall:=List.all_eq_true.1 hc2 _ (aP hb);have h1:cR μ2 S' w' i b:=hB.less (hsame i hib) (λj hj q hq=>by rw[hsame j (List.all_eq_true.1 hall j hj)];exact hq);exact h1.mono (aH.refl _ _) (λ_ h=>.inr h) (λ_ _ h=>h) (λ_ _ _=>rfl) (λh=>h) (λ_ _=>rfl)
   ·rename_i hno;have hib:ids.contains i=false:=by
     cases e:ids.contains i with
     | false=>rfl
     | true=>
      obtain ⟨c,hc'⟩:=hid i (hIi i e);rw[hc'] at hno;exact absurd rfl hno
    have hnb:ns.contains i=false:=by
     cases e:ns.contains i with
     | false=>rfl
     | true=>
      obtain ⟨c,hc'⟩:=hid i (hIn i e);rw[hc'] at hno;exact absurd rfl hno
    rw[dU] at hb;split at hb
    ·cases hb
    rename_i hcn;have hcn:cs.contains i=false:=by simpa using hcn
    have hai:(ids++cs).contains i=false:=by
     cases e2:(ids++cs).contains i with
     | false=>rfl
     | true=>rw[hor i e2 hcn] at hib;cases hib
    have hfree:=List.all_eq_true.1 hc3 (i,b) (aP Zf);have h1:cR μ1 S w i b:=(hi.hp i b hb).less (m1' hcn) (λj hj q hq=>by
     have:=List.all_eq_true.1 hfree j hj;rw[m1' (by simpa using this)];exact hq)
    exact h1.mono hS (λ_ h=>.inl h) hup hz (λh=>by rw[m2o hnb];exact h) (λg hg'=>hO i g (m1 hg').2 hai)
  ·rcases m2c hg' with ⟨hnn,hg2⟩ | ⟨hnn,hg2⟩
   ·obtain ⟨c,hc'⟩:=hid i (hIn i hnn);refine ⟨⟨c,by rw[dc i K (del cs σ.hp) hnd,if_pos (by rw[hc'];rfl),hc']⟩,?_,?_,(k2.dom i g hg2).2.2⟩
    ·rcases k4 i g hg2 with ⟨id,q⟩ | q
     ·exact (hi.dom id g (mc q).2).2.1
     ·have:=hi.frm.size;exact .inr z8
    ·rintro (h | h)
     ·rcases k4 i g hg2 with ⟨id,q⟩ | q
      ·exact (hi.dom id g (mc q).2).2.2.1 h
      ·have:=(hi.sb g h).1;omega
     ·exact (k2.dom i g hg2).2.1 h
   obtain ⟨hcn,hg'⟩:=m1 hg2;obtain ⟨⟨b,j1⟩,j2,j3,j4⟩:=hi.dom i g hg';refine ⟨?_,j2,?_,YZ j4 hfr.size⟩
   ·rw[dc i K (del cs σ.hp) hnd];split
    ·rename_i hs;exact Yd.1 hs
    ·exact ⟨b,by rw[dU,if_neg (by rw[hcn];exact Bool.false_ne_true)];exact j1⟩
   ·rintro (h | h)
    ·exact j3 h
    ·cases e:ids.contains i with
     | true=>
      have:=(hg i e).1;rw[hg'] at this;injection this with this
      subst this;exact (k2.dom i _ (hpin' i e).1).2.1 h
     | false=>
      rcases (k5 g h).2 with q | ⟨id,q⟩ | q
      ·exact j3 q
      ·obtain ⟨q1,q2⟩:=mc q;have:=hi.inj _ _ _ hg' q2;subst this;rw[hor i q1 hcn] at e;cases e
      ·omega
  ·rcases m2c hg with ⟨a1,a2⟩ | ⟨a1,a2⟩<;>rcases m2c hg' with ⟨b1,b2⟩ | ⟨b1,b2⟩
   ·exact k2.inj i j g a2 b2
   ·exact hmix i j g a1 a2 b2
   ·exact (hmix j i g b1 b2 a2).symm
   ·exact hi.inj i j g (m1 a2).2 (m1 b2).2
  ·rcases hb with h | h
   ·exact ⟨YZ (hi.sb b h).1 hfr.size,(hi.sb b h).2⟩
   ·refine ⟨(k5 b h).1,?_⟩
    rcases (k5 b h).2 with q | ⟨id,q⟩ | q
    ·exact (hi.sb b q).2
    ·rcases (hi.dom id b (mc q).2).2.1 with z | z
     ·exact .inr (.inl z)
     ·exact .inr (.inr z)
    ·have:=hi.frm.size;exact .inr (.inr z8)
 refine hKp _ _ ⟨μ2,S2,inv.put o.dst ?_⟩;have h1:Rd μ2 S' w' v r':=k1.less λi hi' g hg'=>by rw[hsame i (hrr i hi')];exact hg'
 exact h1.mono (aH.refl _ _) (λ_ h=>.inr h) (λ_ _ h=>h) (λ_ _ _=>rfl)
end
end Go.Eng
namespace Go.Eng
section
variable {P:Program} {T:Tab} {C:Ctx} {σ σ':St}
def efB (d src id e S len:Nat) (rows:List (List AV)) (c e2 s2:Nat) (rows3:List (List AV)) (rd:List Loc):Ef:=
 ⟨[.tm d,.tm src,.blk d,.blk id,.blk c],rd,λs=>(efA d src id e S len rows rd).app ⟨s.tm,aG s.hp c (.cells e2 s2 rows3)⟩⟩
theorem Lu (d src id e S len:Nat) (rows:List (List AV)) (c e2 s2:Nat) (rows3:List (List AV)) (rd:List Loc):EfOK (efB d src id e S len rows c e2 s2 rows3 rd):=by
 have hA:=FW d src id e S len rows rd;refine ⟨λs=>hA.len _,λs x hx=>?_,λs s' hl x hx=>?_⟩
 ·have h1:x∉(efA d src id e S len rows rd).wr:=λh=>hx (by
   have h:x∈[Loc.tm d,.tm src,.blk d,.blk id]:=h
   show x∈[Loc.tm d,.tm src,.blk d,.blk id,.blk c]
   simp only[List.mem_cons,List.not_mem_nil,or_false] at h ⊢
   rcases h with h | h | h | h<;>simp[h])
  refine agT ?_ (hA.frame ⟨s.tm,aG s.hp c (.cells e2 s2 rows3)⟩ x h1);cases x with
  | tm t=>rfl
  | blk b=>
   show aa (aG s.hp c _) b=aa s.hp b
   rw[ai,if_neg];rintro rfl;exact hx (by show Loc.blk c∈[Loc.tm d,.tm src,.blk d,.blk id,.blk c];simp)
 ·by_cases h1:x∈(efA d src id e S len rows rd).wr
  ·exact hA.det _ _ (by exact hl) x h1
  ·refine agT (agS (hA.frame ⟨s.tm,aG s.hp c (.cells e2 s2 rows3)⟩ x h1)) ?_;refine agT ?_ (hA.frame ⟨s'.tm,aG s'.hp c (.cells e2 s2 rows3)⟩ x h1);have hx:x∈[Loc.tm d,.tm src,.blk d,.blk id,.blk c]:=hx;have h1:x∉[Loc.tm d,.tm src,.blk d,.blk id]:=h1;have hx:x=.blk c:=by
    simp only[List.mem_cons,List.not_mem_nil,or_false,not_or] at hx h1
    rcases hx with h | h | h | h | h
    ·exact absurd h h1.1
    ·exact absurd h h1.2.1
    ·exact absurd h h1.2.2.1
    ·exact absurd h h1.2.2.2
    ·exact h
   subst hx
   show aa (aG s'.hp c _) c=aa (aG s.hp c _) c
   rw[ai,ai,if_pos rfl,if_pos rfl]
theorem D5 (id:Nat) (x:AV):id∉refs (kill id x):=by
 unfold kill;split
 ·simp[refs]
 ·rename_i h;simpa using h
theorem yA (hT:TabOK P T) (c:Nat) {ops:Array Oper} {Q:Exit->Go.Act->World->Prop} {k:Nat} {Z:List (Nat×List Nat×List Nat)} {acc:dA} {o:Oper} {l:List Oper} {src ysl:Nat} {t e:TypeId} {d id S len:Nat} {R rows:List (List AV)} {v:AV} {s1:List Loc×List Loc} {n:Nat} {rows':List (List AV)} {e2 s2:Nat} {rows2 rows3:List (List AV)}
  (ho:o.op=.call { callee:=.builtin .append,args:=#[.tmp src,.tmp ysl],argTypes:=#[t,t] }:=by rfl) (hd:o.dst=some d:=by rfl) (hg:o.guard=none:=by rfl) (ht:T.und t=.sl e:=by rfl)
  (hx:evS σ (.tmp src)=(True,.osl id S 0 len):=by simp only[go_sem];try exact rfl) (hb:aa σ.hp id=some (.cells e S R):=by simp only[go_sem];try exact rfl) (hc:aa σ.hp c=some (.cells e2 s2 rows2):=by simp only[go_sem];try exact rfl) (hy:evS σ (.tmp ysl)=(True,v):=by simp only[go_sem];try exact rfl) (hv:cW σ v=some rows:=by simp only[go_sem];try exact rfl)
  (hS:T.siz e=S:=by rfl) (h0:S≠0:=by decide) (h1:T.byt e≠0:=by decide) (h2:rowsOf S rows) (h3:∀i s off ln,v=.osl i s off ln->rows.length=ln:=by simp[go_sem]) (h4:ek rows=true:=by simp[go_sem]) (h5:(2*(len+rows.length)+768)*T.byt e<=281474976710656)
  (h6:jT v≠some id:=by simp[go_sem]) (h6c:jT v≠some c:=by simp[go_sem]) (h7:len<=R.length) (h8:bo id (.cells e S (R.take len++rows))) (h9:aa σ.hp d=none:=by simp only[go_sem];try exact rfl) (h10:d≠id:=by decide) (h11:c≠id:=by decide) (h12:d≠c:=by decide) (hZ:Z=[(id,[src],[c])]:=by rfl)
  (hs:([Loc.tm d,Loc.tm src,Loc.blk d,Loc.blk id,Loc.blk c],aQ σ [.tmp src,.tmp ysl]++(match jT v with | some i=>[Loc.blk i] | none=>[]))=s1:=by simp only[go_sem];exact rfl)
  (hn:len+rows.length=n) (hr:R.take len++rows=rows') (hr3:rows2.map (λrow=>row.map (kill id))=rows3)
  (ha:(⟨(σ.tm.set src .any).set d (.osl d S 0 n),(d,.cells e S rows')::aG (aG σ.hp c (.cells e2 s2 rows3)) id (.cells e S [])⟩:St)=σ':=by simp only[go_sem];exact rfl)
  (hk:kD P C ops Q k Z (acc++[s1]) l σ'):kD P C ops Q k Z acc (o::l) σ:=by
 subst hs ha hn hr hS hZ;have hA:=Lu d src id e (T.siz e) (len+rows.length) (R.take len++rows) c e2 s2 rows3 (aQ σ [.tmp src,.tmp ysl]++(match jT v with | some i=>[Loc.blk i] | none=>[]));generalize hrd:(aQ σ [.tmp src,.tmp ysl]++(match jT v with | some i=>[Loc.blk i] | none=>[]))=rd at hk hA;refine uF (e:=efB d src id e (T.siz e) (len+rows.length) (R.take len++rows) c e2 s2 rows3 rd) hA ?_ ?_ hk
 ·intro s hlen hag hsafe;have hsafe:=hsafe _ (List.mem_singleton.2 rfl);have hcs:aa s.hp c=some (.cells e2 s2 rows2):=by
   rw[<-hc];exact hag (.blk c) (.inr (by simp[efB]))
  have hag2:∀z,z∈aQ σ [.tmp src,.tmp ysl]->bn σ s z:=λz hz=>hag z (.inl (hrd▸YQ _ hz))
  have hev:∀(h1 h2:List (Nat×Blk)) (z:Operand),evS ⟨s.tm,h1⟩ z=evS ⟨s.tm,h2⟩ z:=λh1 h2 z=>by cases z<;>rfl
  have hbs:aa (aG s.hp c (.cells e2 s2 rows3)) id=some (.cells e (T.siz e) R):=by
   rw[ai,if_neg h11,<-hb];exact hag (.blk id) (.inr (by simp[efB]))
  have hds:aa (aG s.hp c (.cells e2 s2 rows3)) d=none:=by
   rw[ai,if_neg (λh=>h12 h.symm),<-h9];exact hag (.blk d) (.inr (by simp[efB]))
  have hxs:evS ⟨s.tm,aG s.hp c (.cells e2 s2 rows3)⟩ (.tmp src)=(True,.osl id (T.siz e) 0 len):=by
   rw[hev _ s.hp,<-hx];exact ct λz hz=>hag2 z (dh (List.mem_cons_self ..) z hz)
  have hys:evS ⟨s.tm,aG s.hp c (.cells e2 s2 rows3)⟩ (.tmp ysl)=(True,v):=by
   rw[hev _ s.hp,<-hy];exact ct λz hz=>hag2 z (dh (List.mem_cons_of_mem _ (List.mem_singleton.2 rfl)) z hz)
  have hsr:cW ⟨s.tm,aG s.hp c (.cells e2 s2 rows3)⟩ v=some rows:=by
   rw[<-hv];cases v with
   | osl i s' off ln=>
    have:=hag (.blk i) (.inl (hrd▸YB _ (by simp[jT])));have hic:¬c=i:=λh=>h6c (by rw[h];rfl)
    simp only[cW,ai];rw[if_neg hic,show aa s.hp i=aa σ.hp i from this]
   | _=>rfl
  have:=vA (P:=P) (C:=C) (ops:=ops) (s:=⟨s.tm,aG s.hp c (.cells e2 s2 rows3)⟩) (rd:=rd) hT ho hd hg ht hxs hbs hys trivial hsr rfl h0 h1 h2 h3 h4 h5 h6 h7 h8 hds h10 ⟨λt ht=>hsafe.1 t (by simpa using ht),λb B hB hne=>by
   rw[ai] at hB;split at hB
   ·injection hB with hB
    subst hB hr3;unfold bo;simp only[List.all_eq_true];intro row hrow x hx;obtain ⟨r0,_,rfl⟩:=W5.1 hrow;obtain ⟨x0,_,rfl⟩:=W5.1 hx;simpa using D5 id x0
   ·rename_i hbc;exact hsafe.2 b B hB hne (by simpa using λh=>hbc h.symm)⟩ (λz=>hev _ _ z)
  intro a w K Q' hrel hK;exact this a w K Q' (aY id c hcs hr3 a w hrel) hK
 ·intro h0' z hz;rw[List.mem_singleton.1 hz];have h0':=h0' _ (List.mem_singleton.2 rfl);refine ⟨λj hj=>?_,λb B hB hne hnc=>?_⟩
  ·show id∉refs (((σ.tm.set src .any).set d _).getD j .any)
   rw[bO,bO];split
   ·split
    ·simpa[refs] using λh:id=d=>h10 h.symm
    ·simp[refs]
   ·split
    ·simp[refs]
    ·exact h0'.1 j hj
  ·replace hB:aa ((d,.cells e (T.siz e) (R.take len++rows))::aG (aG σ.hp c (.cells e2 s2 rows3)) id (.cells e (T.siz e) [])) b=some B:=hB
   simp only[aa] at hB;split at hB
   ·injection hB with hB
    subst hB;exact h8
   ·rw[ai,if_neg (λh=>hne h.symm),ai,if_neg (λh=>(by simpa using hnc:¬b=c) h.symm)] at hB;exact h0'.2 b B hB hne hnc
end
end Go.Eng
namespace La
open Go Go.Eng Go.Proofs Go.Proofs.Tryz
def tn (f t x:Int):Int:=if x=f then t else x
def Pn (a:Act) (f t:Int):Act:={ a with fid:=tn f t a.fid,dir:=tn f t a.dir,to:=tn f t a.to }
end La
