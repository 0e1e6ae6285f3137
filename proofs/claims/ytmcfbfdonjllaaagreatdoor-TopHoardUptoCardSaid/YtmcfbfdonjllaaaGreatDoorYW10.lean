/- Texts of this claim, part 10: EngAW, EngAX, Turn, Ren, Same, SameLog. No condition. -/
import Derived.Test.YtmcfbfdonjllaaaGreatDoorYW9
set_option maxRecDepth 10000
set_option maxHeartbeats 4000000
set_option linter.unusedSimpArgs false
set_option linter.unusedVariables false
namespace Go.Eng
section
variable {P:Program} {C:Ctx} {σ:St}
theorem Ai {o:Oper} {c:Operand} {args:Array Operand} {ats:Array TypeId} (ho:o.op=.call { callee:=.value c,args,argTypes:=ats }) {p:Prop} {f:FuncId} {xs:List AV}
  (h:aC σ c args.toList=some (p,f,xs)) (hp:p) (hc:aP P f) (ids cs:List Nat) {H K:List (Nat×Blk)} {r:AV} (hH:sub (ids++cs) σ.hp=H)
  (hck:((aL xs).all (ids++cs).contains&&(refs r).all ids.contains&&ids.all (λi=>(ae K i).isSome)&&K.all (λq=>ids.contains q.1)&&(ids++cs).all (λi=>decide (i<5000))&&cs.all (λi=>!ids.contains i))=true) (hnd:(K.map (·.1)).Nodup)
  (hpin:(ids.all λi=>match ae H i with | some b=>fq b | none=>false)=true) (hc1:(H.all λq=>(aN q.2).all (ids++cs).contains)=true) (hc2:(K.all λq=>(aN q.2).all ids.contains)=true)
  (hc3:((del (ids++cs) σ.hp).all λq=>(aN q.2).all λi=>!cs.contains i)=true)
  (hf:∀G Y N:Nat->Nat,ag P f xs (H++pins ids G Y N) λr' H'=>r'=r/\∀i b,ae (K++pins ids G Y N) i=some b->ae H' i=some b) {τ:St} (hτ:(⟨σ.tm.map (kh cs),cN (del cs σ.hp) K⟩:St).put o.dst r=τ):fe P C o σ τ:=by
 subst hH hτ;simp only[Bool.and_eq_true] at hck;obtain ⟨⟨⟨⟨⟨hx,hr⟩,hi1⟩,hK1⟩,h5⟩,hdj⟩:=hck;have hin:∀i,ids.contains i=true->(ids++cs).contains i=true:=λi h=>by simp only[List.contains_iff_mem,List.mem_append] at h ⊢;exact .inl h
 have hinc:∀i,cs.contains i=true->(ids++cs).contains i=true:=λi h=>by simp only[List.contains_iff_mem,List.mem_append] at h ⊢;exact .inr h
 have hal:∀i,(ids++cs).contains i=true->i<5000:=λi h=>by
  have:=List.all_eq_true.1 h5 i u6;simpa using this
 have hsep:∀i,cs.contains i=true->ids.contains i=false:=λi h=>by
  have:=List.all_eq_true.1 hdj i u6;simpa using this
 have hor:∀i,(ids++cs).contains i=true->cs.contains i=false->ids.contains i=true:=λi h hn=>by
  simp only[List.contains_iff_mem,List.mem_append] at h ⊢
  rcases h with h | h
  ·exact h
  ·have:cs.contains i=true:=by simpa using h
   rw[hn] at this;cases this
 have hxr:∀i,i∈aL xs->(ids++cs).contains i=true:=λi h=>List.all_eq_true.1 hx i h
 have hrr:∀i,i∈refs r->ids.contains i=true:=λi h=>List.all_eq_true.1 hr i h
 have hid:∀i,ids.contains i=true->∃b,ae K i=some b:=λi h=>Wb.1 (List.all_eq_true.1 hi1 i u6)
 have hKi:∀i b,ae K i=some b->ids.contains i=true:=λi b h=>List.all_eq_true.1 hK1 _ (bJ h)
 intro a w Kp Q ⟨μ,S,hi⟩ hKp;obtain ⟨vs,h1,h2,h3⟩:=jY hi ho h hp hc;unfold Oper.wp;rw[h3];have hpn:∀i,∃g t n,ids.contains i=true->μ i=some g/\ak w g=tO t n:=λi=>by
  by_cases e:ids.contains i=true
  ·have:=List.all_eq_true.1 hpin i Qz;cases e2:ae (sub (ids++cs) σ.hp) i with
   | none=>rw[e2] at this;cases this
   | some b=>
    rw[e2] at this;have e3:ae σ.hp i=some b:=by
     rw[dy,if_pos (hin i e)] at e2;exact e2
    obtain ⟨g,t,n,k1,k2⟩:=Eo (hi.hp i b e3) this;exact ⟨g,t,n,λ_=>⟨k1,k2⟩⟩
  ·exact ⟨0,0,0,λh=>absurd h e⟩
 let G:Nat->Nat:=λi=>Classical.choose (hpn i)
 let Y:Nat->Nat:=λi=>Classical.choose (WZ (hpn i))
 let N:Nat->Nat:=λi=>Classical.choose (WZ (WZ (hpn i)))
 have hg:∀i,ids.contains i=true->μ i=some (G i)/\ak w (G i)=tO (Y i) (N i):=λi=>WZ (WZ (WZ (hpn i)))
 let μc:Nat->Option Nat:=λi=>if (ids++cs).contains i then μ i else none
 have mc:∀{i g},μc i=some g->(ids++cs).contains i=true/\μ i=some g:=fun {i g} h=>by
  simp only[μc] at h;split at h
  ·exact ⟨by assumption,h⟩
  ·cases h
 have mc':∀{i},(ids++cs).contains i=true->μc i=μ i:=fun {i} h=>by simp only[μc,h,if_true]
 have mcn:∀{i},(ids++cs).contains i=false->μc i=none:=fun {i} h=>by simp only[μc,h,Bool.false_eq_true,if_false]
 have hsubk:∀i b,ae (sub (ids++cs) σ.hp) i=some b->(ids++cs).contains i=true/\ae σ.hp i=some b:=λi b h=>by
  rw[dy] at h;split at h
  ·exact ⟨by assumption,h⟩
  ·cases h
 refine (hf G Y N S μc w vs h1 (λj x hj=>(h2 j x hj).less λid hid g hg=>by rw[mc' (hxr id (br hj hid))];exact hg) ⟨λid b hb=>?_,λid g hg'=>?_,λid id' g hg hg'=>hi.inj id id' g (mc hg).2 (mc hg').2,hi.gok.sub λi g h=>⟨i,(mc h).2⟩⟩ (λb hb=>(hi.sb b hb).1)).mono ?_
 ·rw[bh] at hb;split at hb
  ·obtain ⟨q1,q2⟩:=hsubk id b hb;have hall:=List.all_eq_true.1 hc1 _ (bJ hb);exact (hi.hp id b q2).less (mc' q1) (λi hi' g hg=>by rw[mc' (List.all_eq_true.1 hall i hi')];exact hg)
  ·rw[kc] at hb;split at hb
   ·rename_i hc5;injection hb with hb
    subst hb;have hno:(ids++cs).contains id=false:=by
     cases e:(ids++cs).contains id with
     | false=>rfl
     | true=>have:=hal id e;omega
    exact ⟨mcn hno,by rw[mc' (hin _ hc5.2)];exact (hg _ hc5.2).1,(hg _ hc5.2).2⟩
   ·cases hb
 ·obtain ⟨k1,k2⟩:=mc hg';obtain ⟨⟨b,j1⟩,_,j3⟩:=hi.dom id g k2;refine ⟨⟨b,?_⟩,j3⟩;rw[bh,if_pos ⟨(id,b),bJ (by rw[dy,if_pos k1];exact j1),rfl⟩,dy,if_pos k1];exact j1
 rintro e w' ⟨v,r',H',μ',S',rfl,⟨rfl,hKH⟩,k1,k2,k3,k4,k5⟩;have hKget:∀i b,ae K i=some b->ae H' i=some b:=λi b hb=>hKH i b (by
  rw[bh,if_pos ⟨(i,b),bJ hb,rfl⟩];exact hb)
 have hPget:∀i,ids.contains i=true->ae H' (5000+i)=some (.pin i (G i) (Y i) (N i)):=λi hi'=>hKH _ _ (by
  rw[bh,if_neg (by
   rintro ⟨b,hb,hb2⟩;have:ids.contains b.1=true:=List.all_eq_true.1 hK1 b hb;have:=hal _ (hin _ this);omega),kc,if_pos ⟨by omega,by rw[Ww];exact hi'⟩,Ww])
 have hpin':∀i,ids.contains i=true->μ' i=some (G i)/\ak w' (G i)=tO (Y i) (N i):=λi hi'=>(k2.blk _ _ (hPget i hi')).2
 have hfr:Frm (λg=>∃id,μc id=some g) w w':=k3;have hS:aQ S w w':=λb hb=>hfr.block b (hi.sb b hb).1 QS
 have hO:∀i g,μ i=some g->(ids++cs).contains i=false->w'.heap[g]? = w.heap[g]?:=λi g hg hn=>hfr.block g (hi.dom i g hg).2.2.2 (by
  rintro ⟨id,h⟩;obtain ⟨q1,q2⟩:=mc h;have:=hi.inj _ _ _ hg q2;subst this;rw[q1] at hn;cases hn)
 let μ2:Nat->Option Nat:=λi=>if cs.contains i then none else μ i
 have m2:∀{i g},μ2 i=some g->cs.contains i=false/\μ i=some g:=fun {i g} h=>by
  simp only[μ2] at h;split at h
  ·cases h
  ·exact ⟨by simpa using (by assumption:¬cs.contains i=true),h⟩
 have m2':∀{i},cs.contains i=false->μ2 i=μ i:=fun {i} h=>by simp only[μ2,h,Bool.false_eq_true,if_false]
 have hz:∀i g,μ2 i=some g->ak w' g=ak w g:=λi g hg'=>by
  obtain ⟨hn,hg'⟩:=m2 hg';cases e:ids.contains i with
  | false=>
   refine a_ (hO i g hg' ?_);cases e2:(ids++cs).contains i with
   | false=>rfl
   | true=>rw[hor i e2 hn] at e;cases e
  | true=>
   obtain ⟨q1,q2⟩:=hg i e;rw[hg'] at q1;injection q1 with q1
   rw[q1,(hpin' i e).2,q2]
 let S2:Nat->Prop:=λb=>S b\/S' b
 have hrd:∀{v x},Rd μ S w v x->(∀i,i∈refs x->cs.contains i=false)->Rd μ2 S2 w' v x:=fun {v x} hv hn=>
  (show Rd μ2 S w v x from hv.less (λi hi g hg=>by rw[m2' (hn i hi)];exact hg)).mono hS (λ_ h=>.inl h) (λ_ _ h=>h) hz
 have inv:Inv C μ2 S2 ⟨σ.tm.map (kh cs),cN (del cs σ.hp) K⟩ a w':=by
  refine ⟨by simp[hi.size],hi.defers,λt x hx=>?_,λi b hb=>?_,λi g hg'=>?_,λi j g hg hg'=>hi.inj i j g (m2 hg).2 (m2 hg').2,hi.frm.step _ hfr (λg ⟨id,h⟩=>(hi.dom id g (mc h).2).2.1),λb hb=>?_⟩
  ·simp only[Z5] at hx;cases e:σ.tm[t]? with
   | none=>rw[e] at hx;cases hx
   | some y=>
    rw[e] at hx;simp only[Option.map_some,Option.some.injEq] at hx;subst hx;unfold kh;split
    ·exact .any _
    ·rename_i q;refine hrd (hi.tm t y e) (λi hi'=>?_);simp only[List.any_eq_true,not_exists,not_and] at q;simpa using q i hi'
  ·rw[eY i K (del cs σ.hp) hnd] at hb;split at hb
   ·have hib:=hKi i b hb;have hcn:cs.contains i=false:=by
     cases e:cs.contains i with
     | false=>rfl
     | true=>rw[hsep i e] at hib;cases hib
    have hB:=k2.blk i b (hKget i b hb);have hall:=List.all_eq_true.1 hc2 _ (bJ hb);have h1:db μ2 S' w' i b:=hB.less (by rw[m2' hcn,(hg i hib).1,(hpin' i hib).1]) (λj hj q hq=>by
     have hjb:=List.all_eq_true.1 hall j hj;have hjn:cs.contains j=false:=by
      cases e:cs.contains j with
      | false=>rfl
      | true=>rw[hsep j e] at hjb;cases hjb
     rw[(hpin' j hjb).1] at hq;rw[m2' hjn,(hg j hjb).1];exact hq)
    exact h1.mono (aQ.refl _ _) (λ_ h=>.inr h) (λ_ _ h=>h) (λ_ _ _=>rfl) (λh=>h) (λ_ _=>rfl)
   ·rename_i hno;have hib:ids.contains i=false:=by
     cases e:ids.contains i with
     | false=>rfl
     | true=>
      obtain ⟨c,hc'⟩:=hid i e;rw[hc'] at hno;exact absurd rfl hno
    rw[fW] at hb;split at hb
    ·cases hb
    rename_i hcn;have hcn:cs.contains i=false:=by simpa using hcn
    have hai:(ids++cs).contains i=false:=by
     cases e2:(ids++cs).contains i with
     | false=>rfl
     | true=>rw[hor i e2 hcn] at hib;cases hib
    have hfree:=List.all_eq_true.1 hc3 (i,b) (bJ (by rw[fW,if_neg (by rw[hai];exact Bool.false_ne_true)];exact hb));have h1:db μ2 S w i b:=(hi.hp i b hb).less (m2' hcn) (λj hj q hq=>by
     have:=List.all_eq_true.1 hfree j hj;rw[m2' (by simpa using this)];exact hq)
    exact h1.mono hS (λ_ h=>.inl h) (λ_ _ h=>h) hz (λh=>h) (λg hg'=>hO i g (m2 hg').2 hai)
  ·obtain ⟨hcn,hg'⟩:=m2 hg';obtain ⟨⟨b,j1⟩,j2,j3,j4⟩:=hi.dom i g hg';refine ⟨?_,j2,?_,WY j4 hfr.size⟩
   ·rw[eY i K (del cs σ.hp) hnd];split
    ·rename_i hs;exact Wb.1 hs
    ·exact ⟨b,by rw[fW,if_neg (by rw[hcn];exact Bool.false_ne_true)];exact j1⟩
   ·rintro (h | h)
    ·exact j3 h
    ·cases e:ids.contains i with
     | true=>
      have:=(hg i e).1;rw[hg'] at this;injection this with this
      subst this;exact (k2.dom i _ (hpin' i e).1).2.1 h
     | false=>
      rcases (k5 g h).2 with q | ⟨id,q⟩ | q
      ·exact j3 q
      ·obtain ⟨q1,q2⟩:=mc q;have:=hi.inj _ _ _ hg' q2;subst this;rw[hor i q1 hcn] at e;cases e
      ·omega
  ·rcases hb with h | h
   ·exact ⟨WY (hi.sb b h).1 hfr.size,(hi.sb b h).2⟩
   ·refine ⟨(k5 b h).1,?_⟩
    rcases (k5 b h).2 with q | ⟨id,q⟩ | q
    ·exact (hi.sb b q).2
    ·rcases (hi.dom id b (mc q).2).2.1 with z | z
     ·exact .inr (.inl z)
     ·exact .inr (.inr z)
    ·have:=hi.frm.size;exact .inr (.inr z7)
 refine hKp _ _ ⟨μ2,S2,inv.put o.dst ?_⟩;have h1:Rd μ2 S' w' v r':=k1.less λi hi' g hg'=>by
  have hib:=hrr i hi';have hin:cs.contains i=false:=by
   cases e:cs.contains i with
   | false=>rfl
   | true=>rw[hsep i e] at hib;cases hib
  rw[(hpin' i hib).1] at hg';rw[m2' hin,(hg i hib).1];exact hg'
 exact h1.mono (aQ.refl _ _) (λ_ h=>.inr h) (λ_ _ h=>h) (λ_ _ _=>rfl)
attribute [go_sem] kh del sub
end
end Go.Eng
namespace Go.Eng
section
variable {P:Program} {T:Tab} {C:Ctx} {μ:Nat->Option Nat} {S:Nat->Prop} {σ:St} {a:Act} {w:World}
structure SrcS (μ:Nat->Option Nat) (S:Nat->Prop) (w:World) (size:Nat) (b:ByteArray) (rows:List (List AV)) (vs:List Value):Prop where
 one:size=1
 num:rows.length=b.size
 bytes:(b.data.map λc=>Value.int .u8 (c.toNat:Int))=vs.toArray
 len:vs.length=rows.length*size
 rd:∀(i:Nat) row,rows[i]? = some row->∀(j:Nat) x,row[j]? = some x->Rd μ S w (vs.getD (i*size+j) undef) x
 leaf:∀u,u∈vs->u.oneCell'=true
theorem Hb {b:ByteArray} {l:List UInt8} (hb:b.data.toList=l) (size:Nat) (h1:size=1):∃vs,SrcS μ S w size b (l.map λb=>[AV.int .u8 (b.toNat:Int)]) vs:=by
 subst h1 hb;refine ⟨b.data.toList.map λc=>Value.int .u8 (c.toNat:Int),rfl,by rw[List.length_map];rfl,by rw[←List.map_toArray,Array.toArray_toList],by simp,λi row hi j x hx=>?_,λu hu=>?_⟩
 ·rw[Z5] at hi;cases e3:b.data.toList[i]? with
  | none=>rw[e3] at hi;cases hi
  | some c=>
   rw[e3] at hi;simp only[Option.map_some,Option.some.injEq] at hi;subst hi;cases j with
   | zero=>
    simp only[List.getElem?_cons_zero,Option.some.injEq] at hx;subst hx;rw[Z1,show i*1+0=i by omega,Z5,e3];exact .pure (.int _ _)
   | succ j=>simp at hx
 ·obtain ⟨c,_,rfl⟩:=Z7.1 hu;rfl
theorem te {size:Nat} {b:ByteArray} {rows:List (List AV)} {vs:List Value} (h:SrcS μ S w size b rows vs) (w':World):(Builtin.firstCells size rows.length (.string b)).run P w'=.ok vs.toArray w':=by
 rw[h.num,←h.bytes];simp[Builtin.firstCells]
theorem ku {u:TypeId} (hu:P.underlying u=some .string) (hT:TabOK P T) {t e ty:TypeId} (ht:P.underlying t=some (.slice e)) (hs:T.siz e≠0) (hb:T.byt e≠0) {A:Option Addr} {len cap:Nat} {v:ByteArray} {R rows:List (List AV)} {olds vs:List Value}
  (ho:Src μ S w (T.siz e) (.slice A len cap) R olds) (hx:SrcS μ S w (T.siz e) v rows vs) (hlen:R.length=len) (hg:¬len+rows.length≤cap) (hsz:(2*(len+rows.length)+768)*T.byt e≤281474976710656) :
  ∃(nc:Nat) (z:Array Value),len+rows.length≤nc/\z.size=(nc-(len+rows.length))*T.siz e/\(Builtin.append_ #[t,u] ty #[.slice A len cap,.string v]).run P w =
   .ok (.slice (some ⟨w.heap.size,0,none⟩) (len+rows.length) nc) (w.drew.alloc (.cells (olds.toArray++vs.toArray++z) e)):=by
 obtain ⟨i,hi,hi1,hi2,z,hz,_,hzs,_⟩:=hT.siz e hs;have hn:=nO (len+rows.length) cap z7;have hfit:Builtin.nextslicecap (len+rows.length) cap*i.bytes≤281474976710656:=by
  rw[hi2];exact Wk (WG _ hn) hsz
 have hw1:Src μ S w.drew (T.siz e) (.slice A len cap) R olds:=⟨ho.form,ho.len,ho.rlen,λi row hi j x hx=>(ho.rd i row hi j x hx).mono (λ_ _=>rfl) (λ_ h=>h) (λ_ _ h=>h) (λ_ _ _=>rfl)⟩;have g1:=iM (P:=P) hw1;have g2:=te (P:=P) hx;have hnm:=hx.num;rw[hlen] at g1;refine ⟨grownCap w (len+rows.length) cap e,Builtin.zeroCells z.cells (grownCap w (len+rows.length) cap e-(len+rows.length)),grownCap_ge w _ _ _,by simp[Builtin.zeroCells,hzs],?_⟩;have hb':i.bytes≠0:=by rw[hi2];exact hb
 rw[hnm] at hg g2 hfit ⊢;simp[Builtin.append_,run_underlying ht,run_underlying hu,sizeOf,typeInfo,hi,hi1,Builtin.lenOf,hg,hb',show ¬281474976710656<Builtin.nextslicecap (len+v.size) cap*i.bytes by omega,g1,g2,Question.forced,zeroValue,hz,ln,grownCap];rw[←Array.append_assoc];simp
theorem mw {u:TypeId} (hu:P.underlying u=some .string) (hT:TabOK P T) {t e ty:TypeId} (ht:P.underlying t=some (.slice e)) (hs:T.siz e≠0) {A:Option Addr} {len cap:Nat} {v:ByteArray} {rows:List (List AV)} {vs:List Value}
  (hx:SrcS μ S w (T.siz e) v rows vs) (hg:len+rows.length≤cap) :
  (Builtin.append_ #[t,u] ty #[.slice A len cap,.string v]).run P w =
   (((match A with | some a=>storeCells (a.add (len*T.siz e)) vs | none=>pure ()):Sem Unit).run P w).andThen (λ_ w'=>.ok (.slice A (len+rows.length) cap) w'):=by
 obtain ⟨i,hi,hi1,hi2,z,hz,_,hzs,_⟩:=hT.siz e hs;have g2:=te (P:=P) hx w;have hnm:=hx.num;rw[hnm] at hg g2 ⊢;cases A<;>simp[Builtin.append_,run_underlying ht,run_underlying hu,sizeOf,typeInfo,hi,hi1,Builtin.lenOf,hg,g2]
theorem tT (hT:TabOK P T) (hi:Inv C μ S σ a w) {d:Nat} {t ty:TypeId} {x r:AV} {vx:Value} {u:TypeId} (hu:P.underlying u=some .string) (h1s:T.siz (match T.und t with | .sl e=>e | _=>0)=1) {sb:ByteArray} {l:List UInt8} (hsb:sb.data.toList=l) {p:Prop} {σ':St} (h:fR T σ d t x (.sl (l.map λb=>[AV.int .u8 (b.toNat:Int)]))=some (p,σ',r)) (hp:p)
  (hvx:Rd μ S w vx x) :
  ∃v1 w' μ',(Builtin.append_ #[t,u] ty #[vx,.string sb]).run P w=.ok v1 w'/\Inv C μ' S σ' a w'/\Rd μ' S w' v1 r:=by
 unfold fR at h;split at h
 ·rename_i e rows hut hsrc;have ht:=hT.und t;rw[hut] at ht h1s;simp only at h1s;have hR0:(l.map λb=>[AV.int .u8 (b.toNat:Int)])=rows:=by simpa[gX] using hsrc
  obtain ⟨vs,hvs⟩:∃vs,SrcS μ S w (T.siz e) sb rows vs:=by rw[←hR0];exact Hb hsb (T.siz e) h1s
  clear hR0 hsrc;simp only[jK] at ht;split at h
  ·-- onto nil
   simp only[Option.some.injEq,Prod.mk.injEq] at h;obtain ⟨rfl,rfl,rfl⟩:=h;obtain ⟨hs,hb,hrl,hlen,hleaf,hsz,hfree⟩:=hp;obtain rfl:=hvx.fY
   by_cases h0:rows.length=0
   ·have hr:=mw (ty:=ty) hu (A:=none) (len:=0) (cap:=0) hT ht hs hvs z7;simp only[Sem.run_pure,Result.andThen_ok] at hr;have hrows:rows=[]:=List.eq_nil_of_length_eq_zero h0;subst hrows;have hn:=hi.fresh hfree;refine ⟨_,w,μ,hr,⟨hi.size,hi.defers,hi.tm,λi b hb=>?_,λi g hg=>?_,hi.inj,hi.frm,hi.sb⟩,.osl d _ 0 _ 0 none y7 (.inl ⟨by simp,rfl⟩)⟩
    ·simp only[ae] at hb;split at hb
     ·rename_i e';injection hb with hb;subst hb e';exact .inl ⟨rfl,hn⟩
     ·exact hi.hp i b hb
    ·obtain ⟨⟨c,h1⟩,h2⟩:=hi.dom i g hg;refine ⟨⟨c,?_⟩,h2⟩;simp only[ae];rw[if_neg Qy];exact h1
   ·have ho:Src μ S w (T.siz e) (.slice none 0 0) [] []:=⟨⟨none,0,rfl,λh=>by simp at h⟩,by simp,by simp,λi row h=>by simp at h⟩;obtain ⟨nc,z,h1,h2,h3⟩:=ku (ty:=ty) hu hT ht hs hb ho hvs rfl z7 hsz;have hi1:=hi.drew;have hm:∀{v x},Rd μ S w v x->Rd μ S w.drew v x:=λh=>h.mono (λ_ _=>rfl) (λ_ h=>h) (λ_ _ h=>h) (λ_ _ _=>rfl)
    have hcs:(#[]++vs.toArray++z).size=rows.length*T.siz e+z.size:=by simp[hvs.len]
    refine ⟨_,_,_,h3,hi1.new d hfree _ (.cells e (T.siz e) rows) (.inr ⟨w.heap.size,_,by simp[upd],bQ w _,by simp[hvs.len],hrl,λi row hi' j x hx=>?_⟩),?_⟩
    ·have hlt:=iq (size:=T.siz e) hi';have hj:j<T.siz e:=by
      by_cases h:j<T.siz e
      ·exact h
      ·rw[List.getElem?_eq_none Zh] at hx;cases hx
     have:=hvs.rd i row hi' j x hx;have e2:(#[]++vs.toArray++z).getD (i*T.siz e+j) undef=vs.getD (i*T.siz e+j) undef:=by
      rw[Z3,Z1];simp only[Array.empty_append];rw[Wj (by simp[hvs.len];omega)];simp
     rw[show (List.toArray []++vs.toArray++z)=(#[]++vs.toArray++z) from rfl,e2];exact (hm this).mono (λb hb=>bN _ _ b (hi1.sb b hb).1) (λ_ h=>h) (λi' g hg=>by
      unfold upd;rw[if_neg Zi];exact hg) (λi' g hg=>a_ (bN _ _ g (hi1.dom i' g hg).2.2.2))
    ·refine .osl d _ 0 _ nc _ h1 (.inr ⟨w.heap.size,e,_,by simp[upd],by simp,?_,rfl⟩);unfold ak;rw[bQ];simp only[Option.some.injEq,Prod.mk.injEq,true_and];simp only[Array.size_append,List.size_toArray,List.length_nil,hvs.len,h2,WT,←We]
     congr 1
     omega
  ·-- onto what is held
   rename_i id s len;split at h
   ·rename_i e' s' R hb0;split at h
    ·rename_i hcond;obtain ⟨rfl,rfl,rfl⟩:=hcond;simp only[Option.some.injEq,Prod.mk.injEq] at h;obtain ⟨rfl,rfl,rfl⟩:=h;obtain ⟨hs,hb,hrl,hlen,hleaf,hsz,hd,hid,hR,hfree,hbf⟩:=hp;have hRl:rowsOf (T.siz e') (R.take len):=by
      rcases hi.hp id _ hb0 with ⟨rfl,_⟩ | ⟨g,c,_,_,_,k4,_⟩
      ·intro row hrow;simp at hrow
      ·exact λrow hrow=>k4 row (WI hrow)
     have hRt:(R.take len).length=len:=by simp;omega
     obtain ⟨olds,ho⟩:=nW hi (x:=.osl id (T.siz e') 0 len) (rows:=R.take len) (size:=T.siz e') (by simp[gX,hb0]) hvx hRl (λ_ _ _ _ h=>by injection h with _ _ _ h;rw[hRt,h]);have hdd:d=id\/μ d=none:=hd.imp (λh=>h) (λh=>hi.fresh h);obtain ⟨A,cap,rfl,hc,hor⟩:=hvx.cF
     by_cases hroom:len+rows.length≤cap
     ·have hr:=mw (ty:=ty) hu (A:=A) (len:=len) (cap:=cap) hT ht hs hvs hroom
      rcases hor with ⟨h1,h2⟩ | ⟨g,e2,n,h1,rfl,h3,h4⟩
      ·-- nothing comes onto nothing
       have h0:rows=[]:=List.eq_nil_of_length_eq_zero z7;subst h0 h1 h2;have hv0:vs=[]:=List.eq_nil_of_length_eq_zero (by rw[hvs.len];simp);subst hv0;have hr':(Builtin.append_ #[t,u] ty #[.slice A 0 0,.string sb]).run P w=.ok (.slice A 0 0) w:=by
        rw[hr];cases A<;>simp[storeCells]
       have hi0:Inv C μ S ⟨σ.tm,bD σ.hp id (.cells e' (T.siz e') (R.take 0++[]))⟩ a w:=by
        refine ⟨hi.size,hi.defers,hi.tm,λi b hb=>?_,λi q hq=>?_,hi.inj,hi.frm,hi.sb⟩
        ·rw[aF] at hb;split at hb
         ·rename_i e3;injection hb with hb;subst hb e3
          rcases hi.hp id _ hb0 with ⟨_,k⟩ | ⟨g,c,k1,k2,_⟩
          ·exact .inl ⟨by simp,k⟩
          ·exact .inr ⟨g,c,k1,k2,by simp,by simp,λi row h=>by simp at h⟩
         ·exact hi.hp i b hb
        ·obtain ⟨⟨c,k1⟩,k2⟩:=hi.dom i q hq;refine ⟨?_,k2⟩;rw[aF];split
         ·exact ⟨_,rfl⟩
         ·exact ⟨c,k1⟩
       have hfree':fP id (bD σ.hp id (.cells e' (T.siz e') (R.take 0++[]))):=h_ hfree;have:=hi0.move (id:=id) (d:=d) (b:=.cells e' (T.siz e') (R.take 0++[])) (by rw[aF];simp) (hd.imp (λh=>h) (λh=>by
        rw[aF];split
        ·rename_i e4;subst e4;rw[hb0] at h;cases h
        ·exact h)) hfree' hbf
       refine ⟨_,w,mv μ id d,hr',?_,.osl d _ 0 _ 0 A y7 (.inl ⟨by simp,rfl⟩)⟩;simp only[ka] at this;exact this
      ·-- in place
       rcases hi.hp id _ hb0 with ⟨_,k⟩ | ⟨g',c,k1,k2,k3,k4,k5⟩
       ·rw[k] at h1;cases h1
       ·rw[k1] at h1;injection h1 with h1;subst h1
        rw[ak,k2] at h3;simp only[Option.some.injEq,Prod.mk.injEq] at h3;obtain ⟨rfl,rfl⟩:=h3;have hcs:(len+rows.length)*T.siz e'≤c.size:=Wk (WG _ z7) (Nat.le_of_eq h4);rw[We] at hcs;obtain ⟨w',r1,r2,r3,r4,r5,r6,c',r7,r8,r9⟩:=eR (P:=P) g' (len*T.siz e') e' vs 0 w c k2 (hvs.leaf) (by rw[hvs.len];omega);have hr':(Builtin.append_ #[t,u] ty #[.slice (some ⟨g',0*T.siz e',none⟩) len cap,.string sb]).run P w=.ok (.slice (some ⟨g',0*T.siz e',none⟩) (len+rows.length) cap) w':=by
         rw[hr];simp only[Nat.zero_mul,add_plain,WT,r1,Result.andThen_ok]
        have hrs:ak w' g'=ak w g':=by simp[ak,r7,k2,r8]
        have hS:¬S g':=(hi.dom id g' k1).2.2.1;have hw:aQ S w w':=λb hb=>r6 b Qa
        have hz':∀i q,μ i=some q->ak w' q=ak w q:=λi q _=>by
         by_cases e:q=g'
         ·subst e;exact hrs
         ·exact a_ (r6 q e)
        have hmono:∀{v x},Rd μ S w v x->Rd μ S w' v x:=λh=>h.mono hw (λ_ h=>h) (λ_ _ h=>h) hz'
        have hRlen:len*T.siz e'≤R.length*T.siz e':=WG _ hR;have hi0:Inv C μ S ⟨σ.tm,bD σ.hp id (.cells e' (T.siz e') (R.take len++rows))⟩ a w':=
         hi.write id g' k1 r2 r3 r4 r5 r6 hrs _ (.inr ⟨g',c',k1,r7,by rw[List.length_append,hRt,We,r8];omega,λrow hrow=>by
           rcases List.mem_append.1 hrow with h | h
           ·exact hRl row h
           ·exact hrl row h,
          kg (olds:=(List.range (len*T.siz e')).map λk=>c.getD k undef) (vs:=vs) (by simp[hRt]) hRl hrl (λi row hi' j x hx=>by
            have hlt:=iq (size:=T.siz e') hi';rw[hRt] at hlt;have hj:j<T.siz e':=by
             by_cases h:j<T.siz e'
             ·exact h
             ·rw[List.getElem?_eq_none Zj] at hx;cases hx
            rw[Z1,Z5,Wu z7];rw[WQ] at hi';split at hi'
            ·exact hmono (k5 i row hi' j x hx)
            ·cases hi') (λi row hi' j x hx=>hmono (hvs.rd i row hi' j x hx)) hvs.len (λk hk=>by
           simp only[List.length_map,List.length_range] at hk;rw[r9]
           by_cases hkl:k<len*T.siz e'
           ·rw[if_neg z7,Z1,WS Zt,Z5,Wu hkl];rfl
           ·rw[if_pos z7,Z1,Z1,WJ Zt];simp)⟩)
        have hfree':fP id (bD σ.hp id (.cells e' (T.siz e') (R.take len++rows))):=h_ hfree;have:=hi0.move (id:=id) (d:=d) (b:=.cells e' (T.siz e') (R.take len++rows)) (by rw[aF];simp) (hd.imp (λh=>h) (λh=>by
         rw[aF];split
         ·rename_i e4;subst e4;rw[hb0] at h;cases h
         ·exact h)) hfree' hbf
        rw[ka] at this;refine ⟨_,w',_,hr',this,.osl d _ 0 _ cap _ hroom (.inr ⟨g',e',c.size,?_,rfl,by simp[ak,r7,r8],h4⟩)⟩;simp[mv,k1]
     ·-- a new block
      obtain ⟨nc,z,h1,h2,h3⟩:=ku (ty:=ty) hu hT ht hs hb ho hvs hRt hroom hsz;have hi1:=(hi.drop id hfree).drew;have hfr:ae (σ.drop id).hp d=none:=by
       simp only[St.drop,du];split
       ·rfl
       ·rename_i e4
        rcases hd with rfl | hd
        ·exact absurd rfl e4
        ·exact hd
      have hnod:upd μ id none d=none:=hi1.fresh hfr;have hm:∀{v x},Rd μ S w v x->id∉refs x->Rd (upd μ id none) S w.drew v x:=λh hn=>
       (h.other hn none).mono (λ_ _=>rfl) (λ_ h=>h) (λ_ _ h=>h) (λ_ _ _=>rfl)
      have hno:=pf hbf;refine ⟨_,_,_,h3,hi1.new d hfr _ (.cells e' (T.siz e') (R.take len++rows)) (.inr ⟨w.heap.size,_,by simp[upd],bQ w _,by simp[ho.len,hvs.len,hRt,We],λrow hrow=>by
           rcases List.mem_append.1 hrow with h | h
           ·exact hRl row h
           ·exact hrl row h,?_⟩),?_⟩
      ·have hup:∀{v x},Rd (upd μ id none) S w.drew v x ->
         Rd (upd (upd μ id none) d (some w.heap.size)) S (World.alloc w.drew (.cells (olds.toArray++vs.toArray++z) e')) v x:=λh=>
        h.mono (λb hb=>bN _ _ b (hi1.sb b hb).1) (λ_ h=>h) (λi' g hg=>by
         show (if i'=d then some w.heap.size else upd μ id none i')=some g
         rw[if_neg Qs];exact hg) (λi' g hg=>a_ (bN _ _ g (hi1.dom i' g hg).2.2.2))
       have key:=kg (μ:=upd μ id none) (S:=S) (w:=w.drew) (R:=R.take len) (rows:=rows) (cs:=olds.toArray++vs.toArray++z) (s:=T.siz e') ho.len hRl hrl
        (λi row hi' j x hx=>hm (ho.rd i row hi' j x hx) (hno row (WM _ (Z6 hi')) x (Z6 hx)))
        (λi row hi' j x hx=>hm (hvs.rd i row hi' j x hx) (hno row (WB _ (Z6 hi')) x (Z6 hx))) hvs.len (λk hk=>by
         rw[Z3,Z1,Wj Zx];simp[List.append_toArray])
       exact λi row hi' j x hx=>hup (key i row hi' j x hx)
      ·refine .osl d _ 0 _ nc _ h1 (.inr ⟨w.heap.size,e',_,by simp[upd],by simp,?_,rfl⟩);unfold ak;rw[bQ];simp only[Option.some.injEq,Prod.mk.injEq,true_and];simp only[Array.size_append,List.size_toArray,ho.len,hvs.len,hRt,h2,WT,←We]
       congr 1
       omega
    ·cases h
   ·cases h
  ·cases h
 ·cases h
theorem wc (hT:TabOK P T) {o:Oper} {d:Nat} (hd:o.dst=some d) {x y:Operand} {t u:TypeId} (ho:o.op=.call { callee:=.builtin .append,args:=#[x,y],argTypes:=#[t,u] }) (hu:T.und u=.str) (h1s:T.siz (match T.und t with | .sl e=>e | _=>0)=1)
  {xv:AV} (hx:evS σ x=(True,xv)) {l:List UInt8} (hy:evS σ y=(True,.str l)) {p:Prop} {σ1 σ':St} {r:AV} (h:fR T σ d t xv (.sl (l.map λb=>[AV.int .u8 (b.toNat:Int)]))=some (p,σ1,r)) (hp:p) (hσ:σ1.put (some d) r=σ'):fe P C o σ σ':=by
 subst hσ;refine fM hd λμ S a w hi=>?_
 have hvx:=hi.evS x p7;have hvy:=hi.evS y Qi;rw[hx] at hvx;rw[hy] at hvy;obtain ⟨b,e1,hb⟩:=hvy.fx;have hus:P.underlying u=some .string:=by have:=hT.und u;rw[hu] at this;exact this
 obtain ⟨v1,w',μ',h1,h2,h3⟩:=tT (ty:=o.type) hT hi hus h1s hb h hp hvx;exact ⟨v1,w',μ',S,by simp[execOp,ho,resolve,invoke,builtin,e1,h1],h2,h3⟩
end
end Go.Eng
namespace La
open Go Go.Eng Go.Proofs
def tn (f t x:Int):Int:=if x=f then t else x
def Mk (a:Act) (f t:Int):Act:={ a with fid:=tn f t a.fid,dir:=tn f t a.dir,to:=tn f t a.to }
end La
