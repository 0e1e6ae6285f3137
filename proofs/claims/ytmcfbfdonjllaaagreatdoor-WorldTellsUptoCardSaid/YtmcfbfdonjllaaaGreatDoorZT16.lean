/- Texts of this claim, part 16: RApply. No condition. -/
import Derived.Test.YtmcfbfdonjllaaaGreatDoorZT15
set_option maxRecDepth 10000
set_option maxHeartbeats 4000000
set_option linter.unusedSimpArgs false
set_option linter.unusedVariables false
namespace La
open Go Go.Eng Go.Proofs
theorem Dq (a b:List UInt8):(!(Op.bytesLess a b||a==b))=Op.bytesLess b a:=by
 rw[fO,fO,YZ];simp only[YU,Bool.or_eq_false_iff,decide_eq_false_iff_not,beq_eq_false_iff_ne,ne_eq,decide_eq_true_eq];constructor
 ·rintro ⟨h1,h2⟩
  by_cases h3:b<a
  ·exact h3
  ·exact absurd (GH h1 h3) h2
 ·intro h;exact ⟨λh1=>sI _ (vU h h1),λh1=>by subst h1;exact sI _ h⟩
theorem uk (l:List UInt8):Eng.iO (l.map ZY)=l.map ZY:=by
 rw[dz,YX];exact Yb λx _=>rfl
theorem xT (l:List Entry):Eng.iO (l.map ZE)=l.map ZE:=by
 rw[dz,YX];exact Yb λx _=>rfl
theorem mG (n:Node) (s:List UInt8) (f:Int) (hn:n.entries.length≤10000000):ae Tryz.prog 131 [.agg (ZN n),.str s,.int .i64 f] [] (λr _=>r=.agg (ZN (qW n s f))):=by
 have hle:=mH n s z8;have hll:(cF n.entries s).length≤n.entries.length:=Wr _ _;unfold qW qV;unfold vH at hle;generalize cF n.entries s=es at *;have hz:js s f (es.take es.length)=js s f es:=by rw[Wo]
 unfold ZN at hle ⊢;simp only at hle ⊢;rw[←hz];refine ZF tK (Tryz.func131) rfl (λC=>?_);simp only[Tryz.ntmps131,Tryz.results131,go_sem];refine wG tK ?_;refine wC Tryz.func132 (hf:=(hle)) (hk:=?_);refine wG tK ?_;refine ag (le_empty 38 96 2 z7) ?_;simp only[go_sem];refine ZL (λi:Nat=>i≤es.length) (λi=>es.length-i) (λi=>(7,.osl 38 2 0 (js s f (es.take i)).2.length)::(8,.bool (js s f (es.take i)).1)::(10,.any)::(17,.int .i64 i)::u0 18 22 []) (λi=>[(38,.cells 96 2 ((js s f (es.take i)).2.map ZE))]) 0 z8 ?_ λi hi=>?_
 ·simp only[go_sem];exact ZU (by simp[go_sem,js]) (by simp[go_sem,js]) w3
 simp only[go_sem];refine wG tK ?_;refine wD (λh=>?_) (λh=>?_)
 ·have hlt:i<es.length:=by simp at h;omega
  have hg:(es.map ZE).getD i []=ZE (es.getD i default):=Fam.getD hlt;have hw:=wi1 (i:=i) z8;have htk:js s f (es.take (i+1))=lF s f (js s f (es.take i)) (es.getD i default):=by rw[ZT hlt,Bt]
  have hl2:=wJ s f (es.take i);rw[Wv] at hl2;generalize es.getD i default=e at *;generalize js s f (es.take i)=q at *;unfold lF at htk;have hgt:=Dq e.name s;refine wGq tK ?_ ?_ p4
  ·simp[hg,ZE,hlt]
  cases hb:(!q.1&&Op.bytesLess s e.name) with
  | true=>
   rw[hb,if_pos rfl] at htk;refine wDT (hb:=(by rw[hgt];simpa[cJ] using hb)) (hk:=?_);have htq:List.take q.2.length (q.2.map ZE)=q.2.map ZE:=Wl y7;have htq2:List.take (q.2.length+1) (q.2.map ZE++[[AV.str s,AV.int .i64 f]])=q.2.map ZE++[[AV.str s,AV.int .i64 f]]:=Wl y7;refine wGq tK ?_ ?_ w5
   ·simp[rowsOf,refs,htq,htq2];exact ⟨by omega,by omega,λx _ y hy=>by simp only[ZE,List.mem_cons,List.not_mem_nil,or_false] at hy;rcases hy with rfl | rfl<;>simp[refs]⟩
   refine ZB ⟨i+1,by omega,by omega,ZU ?_ ?_ ?_⟩
   ·simp[go_sem,htk]
   ·simp[go_sem,htk,htq2,ZE]
   ·simp[go_sem]
  | false=>
   rw[hb,if_neg Bool.false_ne_true] at htk;have htq:List.take q.2.length (q.2.map ZE)=q.2.map ZE:=Wl y7;refine wDF (hb:=(by rw[hgt];simpa[cJ] using hb)) (hk:=?_);refine wGq tK ?_ ?_ w5
   ·simp[rowsOf,refs,htq];omega
   refine ZB ⟨i+1,by omega,by omega,ZU ?_ ?_ ?_⟩
   ·simp[go_sem,htk]
   ·simp[go_sem,htk,ZE]
   ·simp[go_sem]
 ·have e:i=es.length:=by simp at h;omega
  subst e;have hl2:=wJ s f (es.take es.length);rw[Wv] at hl2;rw[hz] at hl2 ⊢;clear hz;generalize js s f es=q at *;have htq:List.take q.2.length (q.2.map ZE)=q.2.map ZE:=Wl y7;refine wG tK ?_;refine wD (λh=>?_) (λh=>?_)
  ·have hq:q.1=false:=by simpa using h
   rw[if_neg (by simp[hq])];refine wGq tK ?_ ?_
   ·simp[rowsOf,refs,htq];omega
   rw[show q.2.map ZE++[[AV.str s,AV.int .i64 f]]=(q.2++[(⟨s,f⟩:Entry)]).map ZE by simp[ZE]];refine ZZ 47 rfl (dg _) ?_;simp only[go_sem];refine wT ?_;simp[ZE];exact Wl y7
  ·have hq:q.1=true:=by simpa using h
   rw[if_pos hq];refine wG tK ?_;refine ZZ 38 rfl (dg _) ?_;simp only[go_sem];refine wT ?_;simp
theorem eN (n:Node) (v:Int):ae Tryz.prog 127 [.agg (ZN n),.rp [.int .i64 v] 0] [] (λr _=>r=.agg (ZN { n with version:=v })):=by
 unfold ZN;refine ZF tK (Tryz.func127) rfl (λC=>?_);simp only[Tryz.ntmps127,Tryz.results127,go_sem];refine wG tK ?_;refine wT ?_;rfl
theorem D4 (l:List Node) (k:Int) (hu:Up l):ae Tryz.prog 128 [.rm (mN (bD l)),.int .i64 k] [] (λr _=>Eng.nrm r=.tup [.agg (ZN (aq l k)),.int .i64 (eu l k)]):=by
 have hg:bj (mN (bD l)) k=(aj l k).map λn=>AV.agg (ZN n):=by rw[gV,cy hu]
 unfold aq eu;refine ZF tK (Tryz.func128) rfl (λC=>?_);simp only[Tryz.ntmps128,Tryz.results128,go_sem];cases e:aj l k with
 | none=>
  rw[e] at hg;simp only[Option.map_none] at hg;refine wG tK ?_ v7 (by simp[go_sem,hg]);refine wD (λh=>?_) (λh=>?_)
  ·refine wG tK ?_;refine wT ?_;rfl
  ·cases h
 | some n=>
  rw[e] at hg;simp only[Option.map_some] at hg;refine wG tK ?_ s8 (by simp[go_sem,hg,ZN]);refine wD (λh=>?_) (λh=>?_)
  ·cases h
  refine wG tK ?_;refine wD (λh=>?_) (λh=>?_)
  ·have hd:n.dir=false:=by simpa using h
   refine wG tK ?_;refine wT ?_;simp[hd,Eng.nrm,Eng.eW,ZN,uk,xT]
  ·have hd:n.dir=true:=by simpa using h
   refine wG tK ?_;refine wT ?_;simp[hd,Eng.nrm,Eng.eW,ZN,uk,xT]
theorem A6 (l:List Node) (k:Int) (hu:Up l):ae Tryz.prog 128 [.rm (mN (bD l)),.int .i64 k] [] (λr _=>r=.tup [.agg (ZN (aq l k)),.int .i64 (eu l k)]):=vc (D4 l k hu)
theorem zn (n:Node) (s:List UInt8):isE n.entries s=(ba n s).isSome:=by
 unfold ba;split
 ·rename_i h;rw[h];rfl
 ·rename_i h;simpa using h
theorem sx (n:Node) (s:List UInt8) (he:EUp n.entries) (hn:n.entries.length≤100000000) (hs:s.length≤100000000):ae Tryz.prog 129 [.agg (ZN n),.str s] [] (λr _=>r=.int .i64 (bO n s)):=by
 have h1:=iA n s hn;rw[d_ he] at h1;have hi:=zn n s;unfold bO;unfold ZN at h1 ⊢;have hnm:=yg s hs;generalize cu s=nb at hnm ⊢;refine ZF tK (Tryz.func129) rfl (λC=>?_);simp only[Tryz.ntmps129,Tryz.results129,go_sem];refine wG tK ?_;cases e:ba n s with
 | some f=>
  rw[e] at h1 hi;refine wC Tryz.func91 (hf:=(h1)) (hk:=?_);refine wG tK ?_;refine wCC Tryz.func49 (hf:=λhb=>(hnm)) (hk:=?_);refine wG tK ?_;refine wD (λh=>?_) (λh=>?_)
  ·refine wG tK ?_;refine wT ?_;simp[hi]
  ·simp at h
 | none=>
  rw[e] at h1 hi;refine wC Tryz.func91 (hf:=(h1)) (hk:=?_);refine wG tK ?_;refine wCC Tryz.func49 (hf:=λhb=>(hnm)) (hk:=?_);cases nb with
  | false=>
   refine wG tK ?_;refine wD (λh=>?_) (λh=>?_)
   ·refine wG tK ?_;refine wT ?_;simp
   ·simp at h
  | true=>
   refine wG tK ?_;refine wD (λh=>?_) (λh=>?_)
   ·simp at h
   refine wG tK ?_;refine wD (λh=>?_) (λh=>?_)
   ·have:6≤n.entries.length:=by simp at h;omega
    refine wG tK ?_;refine wT ?_;simp[hi,this]
   ·have:¬6≤n.entries.length:=by simp at h;omega
    refine wG tK ?_;refine wT ?_;simp[hi,this]
structure RFit (l:List Node) (a:Act):Prop where
 ri:Ri l
 ent:∀n,n∈l->n.entries.length≤9999990
 len:l.length≤100000000
 all:(nF (bD l)).length≤90000000
 name:a.name.length≤100000000
 toName:a.toName.length≤100000000
 data:a.data.length≤100000000
theorem RFit.find {l:List Node} {a:Act} (h:RFit l a) (k:Int):(aq l k).entries.length≤9999990:=by
 unfold aq;cases e:aj l k with
 | none=>simp[aw]
 | some n=>exact h.ent n ((ZO h.ri.up).1 e).1
open Classical in
theorem B0 (l:List Node) (a:Act) (v:Int) (hf:RFit l a):ae Tryz.prog 95 [.rm (mN (bD l)),.agg (ZA a),.int .i64 v] [] (λr _=>r=vE l a v):=by
 have hgf:∀k,bj (mN (bD l)) k=(aj l k).map λn=>AV.agg (ZN n):=λk=>by rw[gV,cy hf.ri.up]
 have hdir:=A6 l a.dir hf.ri.up;have hdir2:=hdir;unfold ZN at hdir2;have hee:=hf.ri.find a.dir;have hel:=hf.find a.dir;unfold vE;refine ZF tK (Tryz.func95) rfl (λC=>?_);simp only[Tryz.ntmps95,Tryz.results95,go_sem];refine wR ?_;refine wN tK 2 ?_ z6 z6 QX (by simp[go_sem,ZA]);refine ZZ 4 rfl (rfl) ?_;refine ZZ 5 rfl (rfl) ?_;simp only[go_sem];refine wG tK ?_
 by_cases k1:a.kind=1
 ·have hE:az l a=cL l a:=by unfold az;rw[if_pos k1]
  have hL:ck l a v=dD l a v:=by unfold ck;rw[if_pos k1]
  refine wDT (hb:=(by simp[k1])) (hk:=?_);refine wG tK ?_;refine wDT (hb:=(by simp[k1])) (hk:=?_);refine wG tK ?_;refine wC Tryz.func128 (hf:=(hdir2)) (hk:=?_);refine wG tK ?_;refine wD (λh=>?_) (λh=>?_)
  ·have hd:eu l a.dir≠0:=by simpa using h
   have he:az l a=eu l a.dir:=by rw[hE];unfold cL;rw[if_neg hd]
   rw[he,if_neg hd];refine wG tK ?_;refine wT ?_;rfl
  have hd:eu l a.dir=0:=by simpa using h
  refine wG tK ?_;refine wC Tryz.func129 (hf:=(sx (aq l a.dir) a.name hee z8 hf.name)) (hk:=?_);refine wG tK ?_;refine wD (λh=>?_) (λh=>?_)
  ·have hr:bO (aq l a.dir) a.name≠0:=by simpa using h
   have he:az l a=bO (aq l a.dir) a.name:=by rw[hE];unfold cL;rw[if_pos hd,if_neg hr]
   rw[he,if_neg hr];refine wG tK ?_;refine wT ?_;rfl
  have hr:bO (aq l a.dir) a.name=0:=by simpa using h
  have hg1:=hgf a.fid;have hat:=cE l a.fid;cases hff:aj l a.fid with
  | some x=>
   rw[hff] at hg1 hat;simp only[Option.map_some] at hg1;have he:az l a=13:=by rw[hE];unfold cL;rw[if_pos hd,if_pos hr,hat];simp
   rw[he];refine wG tK ?_ Q8 (by simp[go_sem,hg1,ZN,cond_true,cond_false]);refine wD (λh=>?_) (λh=>?_)
   ·refine wG tK ?_;refine wT ?_;simp
   ·cases h
  | none=>
   rw[hff] at hg1 hat;simp only[Option.map_none] at hg1;refine wG tK ?_ Zk (by simp[go_sem,hg1,cond_true,cond_false]);refine wD (λh=>?_) (λh=>?_)
   ·have h0:a.fid=0:=by simpa using h
    have he:az l a=13:=by rw[hE];unfold cL;rw[if_pos hd,if_pos hr,hat];simp[h0]
    rw[he];refine wG tK ?_;refine wT ?_;simp
   have h0:a.fid≠0:=by simpa using h
   refine wG tK ?_ Z3 (by simp[go_sem,vr,lR hf.ri.up]);refine wD (λh=>?_) (λh=>?_)
   ·have h24:l.length≥24:=by simp at h;omega
    have he:az l a=5:=by rw[hE];unfold cL;rw[if_pos hd,if_pos hr,hat,if_neg Qw,if_pos h24]
    rw[he];refine wG tK ?_;refine wT ?_;simp
   have h24:¬l.length≥24:=by simp at h;omega
   have he0:cL l a=0:=by unfold cL;rw[if_pos hd,if_pos hr,hat,if_neg Qw,if_neg h24]
   have he:az l a=0:=by rw[hE,he0]
   have hLL:ck l a v=aE (aE l { ay (aq l a.dir) a.name a.fid with version:=v }) (dC a v):=by rw[hL];unfold dD;rw[if_pos he0]
   have hent:=mG (aq l a.dir) a.name a.fid z8;rw[fS hee (dh hr).2] at hent;have hp1:bt (bD l) (aq l a.dir).fid { ay (aq l a.dir) a.name a.fid with version:=v }=bD (aE l { ay (aq l a.dir) a.name a.fid with version:=v }):=fP hf.ri.up { ay (aq l a.dir) a.name a.fid with version:=v };have hw1:=il (bD l) { ay (aq l a.dir) a.name a.fid with version:=v } (br l);rw[show ({ ay (aq l a.dir) a.name a.fid with version:=v }:Node).fid=(aq l a.dir).fid from rfl,hp1] at hw1;have hw2:=il (bD (aE l { ay (aq l a.dir) a.name a.fid with version:=v })) (dC a v) (br _);rw[fP (bl hf.ri.up _).1] at hw2;rw[he,if_pos rfl,hLL];unfold ZN at hent hw1 hw2;simp only[dC] at hw2;refine wG tK ?_;refine ZW ZM ?_;refine ZS rfl ?_;refine sN tK 7 ?_;refine sC Tryz.func131 (hf:=(hent)) (hk:=?_);refine sC Tryz.func127 (hf:=(eN (ay (aq l a.dir) a.name a.fid) v)) (hk:=?_);refine sC Tryz.func130 (hf:=(hw1)) (hk:=?_);refine sN tK 6 ?_;refine sB tK ?_;refine sC Tryz.func127 (hf:=Zq) (hk:=?_);refine sC Tryz.func130 (hf:=(hw2)) (hk:=?_);refine sN tK 2 ?_;refine sE ?_;refine wKd ?_;refine wG tK ?_;refine wT ?_;rfl
 refine wDF (hb:=(by simp[k1])) (hk:=?_);refine wG tK ?_
 by_cases k2:a.kind=2
 ·have hE:az l a=cL l a:=by unfold az;rw[if_neg k1,if_pos k2]
  have hL:ck l a v=dD l a v:=by unfold ck;rw[if_neg k1,if_pos k2]
  refine wDT (hb:=(by simp[k2])) (hk:=?_);refine wG tK ?_;refine wC Tryz.func128 (hf:=(hdir2)) (hk:=?_);refine wG tK ?_;refine wD (λh=>?_) (λh=>?_)
  ·have hd:eu l a.dir≠0:=by simpa using h
   have he:az l a=eu l a.dir:=by rw[hE];unfold cL;rw[if_neg hd]
   rw[he,if_neg hd];refine wG tK ?_;refine wT ?_;rfl
  have hd:eu l a.dir=0:=by simpa using h
  refine wG tK ?_;refine wC Tryz.func129 (hf:=(sx (aq l a.dir) a.name hee z8 hf.name)) (hk:=?_);refine wG tK ?_;refine wD (λh=>?_) (λh=>?_)
  ·have hr:bO (aq l a.dir) a.name≠0:=by simpa using h
   have he:az l a=bO (aq l a.dir) a.name:=by rw[hE];unfold cL;rw[if_pos hd,if_neg hr]
   rw[he,if_neg hr];refine wG tK ?_;refine wT ?_;rfl
  have hr:bO (aq l a.dir) a.name=0:=by simpa using h
  have hg1:=hgf a.fid;have hat:=cE l a.fid;cases hff:aj l a.fid with
  | some x=>
   rw[hff] at hg1 hat;simp only[Option.map_some] at hg1;have he:az l a=13:=by rw[hE];unfold cL;rw[if_pos hd,if_pos hr,hat];simp
   rw[he];refine wG tK ?_ Q8 (by simp[go_sem,hg1,ZN,cond_true,cond_false]);refine wD (λh=>?_) (λh=>?_)
   ·refine wG tK ?_;refine wT ?_;simp
   ·cases h
  | none=>
   rw[hff] at hg1 hat;simp only[Option.map_none] at hg1;refine wG tK ?_ Zk (by simp[go_sem,hg1,cond_true,cond_false]);refine wD (λh=>?_) (λh=>?_)
   ·have h0:a.fid=0:=by simpa using h
    have he:az l a=13:=by rw[hE];unfold cL;rw[if_pos hd,if_pos hr,hat];simp[h0]
    rw[he];refine wG tK ?_;refine wT ?_;simp
   have h0:a.fid≠0:=by simpa using h
   refine wG tK ?_ Z3 (by simp[go_sem,vr,lR hf.ri.up]);refine wD (λh=>?_) (λh=>?_)
   ·have h24:l.length≥24:=by simp at h;omega
    have he:az l a=5:=by rw[hE];unfold cL;rw[if_pos hd,if_pos hr,hat,if_neg Qw,if_pos h24]
    rw[he];refine wG tK ?_;refine wT ?_;simp
   have h24:¬l.length≥24:=by simp at h;omega
   have he0:cL l a=0:=by unfold cL;rw[if_pos hd,if_pos hr,hat,if_neg Qw,if_neg h24]
   have he:az l a=0:=by rw[hE,he0]
   have hLL:ck l a v=aE (aE l { ay (aq l a.dir) a.name a.fid with version:=v }) (dC a v):=by rw[hL];unfold dD;rw[if_pos he0]
   have hent:=mG (aq l a.dir) a.name a.fid z8;rw[fS hee (dh hr).2] at hent;have hp1:bt (bD l) (aq l a.dir).fid { ay (aq l a.dir) a.name a.fid with version:=v }=bD (aE l { ay (aq l a.dir) a.name a.fid with version:=v }):=fP hf.ri.up { ay (aq l a.dir) a.name a.fid with version:=v };have hw1:=il (bD l) { ay (aq l a.dir) a.name a.fid with version:=v } (br l);rw[show ({ ay (aq l a.dir) a.name a.fid with version:=v }:Node).fid=(aq l a.dir).fid from rfl,hp1] at hw1;have hw2:=il (bD (aE l { ay (aq l a.dir) a.name a.fid with version:=v })) (dC a v) (br _);rw[fP (bl hf.ri.up _).1] at hw2;rw[he,if_pos rfl,hLL];unfold ZN at hent hw1 hw2;simp only[dC] at hw2;refine wG tK ?_;refine ZW ZM ?_;refine ZS rfl ?_;refine sN tK 7 ?_;refine sC Tryz.func131 (hf:=(hent)) (hk:=?_);refine sC Tryz.func127 (hf:=(eN (ay (aq l a.dir) a.name a.fid) v)) (hk:=?_);refine sC Tryz.func130 (hf:=(hw1)) (hk:=?_);refine sN tK 6 ?_;refine sB tK ?_;refine sC Tryz.func127 (hf:=Zq) (hk:=?_);refine sC Tryz.func130 (hf:=(hw2)) (hk:=?_);refine sN tK 2 ?_;refine sE ?_;refine wKd ?_;refine wG tK ?_;refine wT ?_;rfl
 refine wDF (hb:=(by simp[k2])) (hk:=?_);refine wG tK ?_;have hkE:az l a=if a.kind=3 then eK l a else if a.kind=4 then cG l a else if a.kind=5 then bx l a else 1:=by unfold az;rw[if_neg k1,if_neg k2]
 have hkL:ck l a v=if a.kind=3 then eh l a v else if a.kind=4 then cH l a v else if a.kind=5 then fT l a v else l:=by unfold ck;rw[if_neg k1,if_neg k2]
 by_cases k3:a.kind=3
 ·have hE:az l a=eK l a:=by rw[hkE,if_pos k3]
  have hL:ck l a v=eh l a v:=by rw[hkL,if_pos k3]
  refine wDT (hb:=(by simp[k3])) (hk:=?_);have hg1:=hgf a.fid;cases hff:aj l a.fid with
  | none=>
   rw[hff] at hg1;simp only[Option.map_none] at hg1;have he:az l a=12:=by rw[hE];unfold eK;rw[hff]
   rw[he];refine wG tK ?_ p7 Qm;refine wD (λh=>?_) (λh=>?_)
   ·refine wG tK ?_;refine wT ?_;simp
   ·cases h
  | some x=>
   rw[hff] at hg1;simp only[Option.map_some] at hg1;have hgn:aq l a.fid=x:=by unfold aq;rw[hff];rfl
   have hsE:eK l a=if x.dir then 9 else if a.data.length>20 then 4 else 0:=by unfold eK;rw[hff]
   refine wG tK ?_ u3 n9;refine wD (λh=>?_) (λh=>?_)
   ·cases h
   refine wG tK ?_;refine wD (λh=>?_) (λh=>?_)
   ·have hd:x.dir=true:=by simpa using h
    have he:az l a=9:=by rw[hE,hsE,if_pos hd]
    rw[he];refine wG tK ?_;refine wT ?_;simp
   have hd:x.dir=false:=by simpa using h
   refine wG tK ?_;refine wD (λh=>?_) (λh=>?_)
   ·have h20:a.data.length>20:=by simp at h;omega
    have he:az l a=4:=by rw[hE,hsE,if_neg (by simp[hd]),if_pos h20]
    rw[he];refine wG tK ?_;refine wT ?_;simp
   have h20:¬a.data.length>20:=by simp at h;omega
   have he0:eK l a=0:=by rw[hsE,if_neg (by simp[hd]),if_neg h20]
   have he:az l a=0:=by rw[hE,he0]
   have hLL:ck l a v=aE l { x with data:=a.data,version:=v }:=by rw[hL];unfold eh;rw[if_pos he0,hgn]
   have hw1:=il (bD l) { x with data:=a.data,version:=v } (br l);rw[fP hf.ri.up] at hw1;unfold ZN at hw1;rw[he,if_pos rfl,hLL];refine wG tK ?_;refine wC Tryz.func127 (hf:=(eN { x with data:=a.data } v)) (hk:=?_);refine wC Tryz.func130 (hf:=(hw1)) (hk:=?_);refine wG tK ?_;refine wT ?_;rfl
 refine wDF (hb:=(by simp[k3])) (hk:=?_);rw[if_neg k3] at hkE hkL;refine wG tK ?_;have hen:=iA (aq l a.dir) a.name z8;rw[d_ hee] at hen;have hg1:=hgf a.fid
 by_cases k4:a.kind=4
 ·have hE:az l a=cG l a:=by rw[hkE,if_pos k4]
  have hL:ck l a v=cH l a v:=by rw[hkL,if_pos k4]
  have hN:bw l a≠0->az l a=bw l a:=λh=>by rw[hE];unfold cG;rw[if_neg h]
  refine wDT (hb:=(by simp[k4])) (hk:=?_);refine wG tK ?_;refine wDT (hb:=(by simp[k4])) (hk:=?_);refine wG tK ?_;refine wC Tryz.func128 (hf:=(hdir2)) (hk:=?_);refine wG tK ?_;refine wD (λh=>?_) (λh=>?_)
  ·have hd:eu l a.dir≠0:=by simpa using h
   have hne:bw l a=eu l a.dir:=by unfold bw;rw[if_neg hd]
   rw[hN (by rw[hne];exact hd),hne,if_neg hd];refine wG tK ?_;refine wT ?_;rfl
  have hd:eu l a.dir=0:=by simpa using h
  have hlv:=mH (aq l a.dir) a.name z8;have hw1:=il (bD l) { aA (aq l a.dir) a.name with version:=v } (br l);rw[fP hf.ri.up] at hw1;unfold ZN at hw1 hlv hen;refine wG tK ?_;cases hent:ba (aq l a.dir) a.name with
  | none=>
   rw[hent] at hen;have hne:bw l a=6:=by unfold bw;rw[if_pos hd,hent]
   rw[hN Wb,hne];refine wC Tryz.func91 (hf:=(hen)) (hk:=?_);refine wG tK ?_;refine wD (λh=>?_) (λh=>?_)
   ·refine wG tK ?_;refine wT ?_;simp
   ·cases h
  | some f=>
  rw[hent] at hen;refine wC Tryz.func91 (hf:=(hen)) (hk:=?_);refine wG tK ?_;refine wD (λh=>?_) (λh=>?_)
  ·cases h
  refine wG tK ?_;refine wD (λh=>?_) (λh=>?_)
  ·have hff:f≠a.fid:=by simpa using h
   have hne:bw l a=13:=by unfold bw;rw[if_pos hd,hent];simp[hff]
   rw[hN Wb,hne];refine wG tK ?_;refine wT ?_;simp
  have hff:f=a.fid:=by simpa using h
  subst hff;have hn0:bw l a=0:=by unfold bw;rw[if_pos hd,hent];simp
  cases hff:aj l a.fid with
  | none=>
   rw[hff] at hg1;simp only[Option.map_none] at hg1;have he:az l a=12:=by rw[hE];unfold cG;rw[if_pos hn0,hff]
   rw[he];refine wG tK ?_ p7 Qm;refine wDT (hb:=(by simp[k4])) (hk:=?_);refine wG tK ?_;refine wD (λh=>?_) (λh=>?_)
   ·refine wG tK ?_;refine wT ?_;simp
   ·cases h
  | some x=>
   rw[hff] at hg1;simp only[Option.map_some] at hg1;have hrE:cG l a=if x.entries.length>0 then 10 else 0:=by unfold cG;rw[if_pos hn0,hff]
   refine wG tK ?_ u3 n9;refine wDT (hb:=(by simp[k4])) (hk:=?_);refine wG tK ?_;refine wD (λh=>?_) (λh=>?_)
   ·cases h
   refine wG tK ?_;refine wD (λh=>?_) (λh=>?_)
   ·have hx:x.entries.length>0:=by simp at h;omega
    have he:az l a=10:=by rw[hE,hrE,if_pos hx]
    rw[he];refine wG tK ?_;refine wT ?_;simp
   have hx:¬x.entries.length>0:=by simp at h;simp[h]
   have he0:cG l a=0:=by rw[hrE,if_neg hx]
   have he:az l a=0:=by rw[hE,he0]
   have hLL:ck l a v=ez (aE l { aA (aq l a.dir) a.name with version:=v }) a.fid:=by rw[hL];unfold cH;rw[if_pos he0]
   rw[he,if_pos rfl,hLL];have hw2:=AD (bD (aE l { aA (aq l a.dir) a.name with version:=v })) a.fid (br _);rw[DM (bl hf.ri.up _).1] at hw2;refine wG tK ?_;refine ZW ZM ?_;refine ZS rfl ?_;refine sN tK 5 ?_;refine sC Tryz.func132 (hf:=(hlv)) (hk:=?_);refine sC Tryz.func127 (hf:=(eN (aA (aq l a.dir) a.name) v)) (hk:=?_);refine sC Tryz.func130 (hf:=(hw1)) (hk:=?_);refine sN tK 2 ?_;refine sC Tryz.func133 (hf:=(hw2)) (hk:=?_);refine sN tK 2 ?_;refine sE ?_;refine wKd ?_;refine wG tK ?_;refine wT ?_;rfl
 refine wDF (hb:=(by simp[k4])) (hk:=?_);refine wG tK ?_;rw[if_neg k4] at hkE hkL
 by_cases k5:a.kind=5
 ·have hE:az l a=bx l a:=by rw[hkE,if_pos k5]
  have hL:ck l a v=fT l a v:=by rw[hkL,if_pos k5]
  have hN:bw l a≠0->az l a=bw l a:=λh=>by rw[hE];unfold bx;rw[if_neg h]
  refine wDT (hb:=(by simp[k5])) (hk:=?_);refine wG tK ?_;refine wC Tryz.func128 (hf:=(hdir2)) (hk:=?_);refine wG tK ?_;refine wD (λh=>?_) (λh=>?_)
  ·have hd:eu l a.dir≠0:=by simpa using h
   have hne:bw l a=eu l a.dir:=by unfold bw;rw[if_neg hd]
   rw[hN (by rw[hne];exact hd),hne,if_neg hd];refine wG tK ?_;refine wT ?_;rfl
  have hd:eu l a.dir=0:=by simpa using h
  have hlv:=mH (aq l a.dir) a.name z8;have hw1:=il (bD l) { aA (aq l a.dir) a.name with version:=v } (br l);rw[fP hf.ri.up] at hw1;unfold ZN at hw1 hlv hen;refine wG tK ?_;cases hent:ba (aq l a.dir) a.name with
  | none=>
   rw[hent] at hen;have hne:bw l a=6:=by unfold bw;rw[if_pos hd,hent]
   rw[hN Wb,hne];refine wC Tryz.func91 (hf:=(hen)) (hk:=?_);refine wG tK ?_;refine wD (λh=>?_) (λh=>?_)
   ·refine wG tK ?_;refine wT ?_;simp
   ·cases h
  | some f=>
  rw[hent] at hen;refine wC Tryz.func91 (hf:=(hen)) (hk:=?_);refine wG tK ?_;refine wD (λh=>?_) (λh=>?_)
  ·cases h
  refine wG tK ?_;refine wD (λh=>?_) (λh=>?_)
  ·have hff:f≠a.fid:=by simpa using h
   have hne:bw l a=13:=by unfold bw;rw[if_pos hd,hent];simp[hff]
   rw[hN Wb,hne];refine wG tK ?_;refine wT ?_;simp
  have hff:f=a.fid:=by simpa using h
  subst hff;have hn0:bw l a=0:=by unfold bw;rw[if_pos hd,hent];simp
  have hdt:=A6 l a.to hf.ri.up;unfold ZN at hdt;have htE:=hf.ri.to a;have htl:(toN l a).entries.length≤9999990:=by
   unfold toN;split
   ·have:=r_ (aq l a.dir).entries a.name
    show (c_ (aq l a.dir).entries a.name).length≤_
    omega
   ·exact hf.find a.to
  have hlt:=mH (aq l a.to) a.name (by have:=hf.find a.to;omega);unfold ZN at hlt;have hrm:=sx (toN l a) a.toName htE z8 hf.toName;unfold ZN at hrm;have hat:=cE l a.fid;cases hff:aj l a.fid with
  | none=>
   rw[hff] at hg1 hat;simp only[Option.map_none] at hg1;refine wG tK ?_ p7 Qm;refine wDF (hb:=(by simp[k5])) (hk:=?_);refine wG tK ?_;refine wC Tryz.func128 (hf:=(hdt)) (hk:=?_);refine wG tK ?_;refine wD (λh=>?_) (λh=>?_)
   ·have hd2:eu l a.to≠0:=by simpa using h
    have he:az l a=eu l a.to:=by rw[hE];unfold bx;rw[if_pos hn0,if_neg hd2]
    rw[he,if_neg hd2];refine wG tK ?_;refine wT ?_;rfl
   have hd2:eu l a.to=0:=by simpa using h
   refine wG tK ?_
   by_cases hsd:a.to=a.dir
   ·rw[show toN l a=aA (aq l a.to) a.name from by unfold toN;rw[if_pos hsd,hsd]] at hrm;refine wDT (hb:=We) (hk:=?_);refine wG tK ?_;refine wC Tryz.func132 (hf:=(hlt)) (hk:=?_);refine wG tK ?_;refine wC Tryz.func129 (hf:=(hrm)) (hk:=?_);refine wG tK ?_;refine wD (λh=>?_) (λh=>?_)
    ·have hr:bO (toN l a) a.toName≠0:=by first | (rw[hT];simpa using h) | (simpa[toN,hsd] using h)
     have he:az l a=bO (toN l a) a.toName:=by rw[hE];unfold bx;rw[if_pos hn0,if_pos hd2,if_neg hr]
     rw[he,if_neg hr];refine wG tK ?_;refine wT ?_;simp[toN,hsd]
    have hr:bO (toN l a) a.toName=0:=by first | (rw[hT];simpa using h) | (simpa[toN,hsd] using h)
    have he:az l a=12:=by rw[hE];unfold bx;rw[if_pos hn0,if_pos hd2,if_pos hr,hat];simp
    rw[he];refine wG tK ?_;refine wD (λh=>?_) (λh=>?_)
    ·refine wG tK ?_;refine wT ?_;simp
    ·cases h
   ·rw[show toN l a=aq l a.to from by unfold toN;rw[if_neg hsd]] at hrm;refine wDF (hb:=We) (hk:=?_);refine wG tK ?_;refine wC Tryz.func129 (hf:=(hrm)) (hk:=?_);refine wG tK ?_;refine wD (λh=>?_) (λh=>?_)
    ·have hr:bO (toN l a) a.toName≠0:=by first | (rw[hT];simpa using h) | (simpa[toN,hsd] using h)
     have he:az l a=bO (toN l a) a.toName:=by rw[hE];unfold bx;rw[if_pos hn0,if_pos hd2,if_neg hr]
     rw[he,if_neg hr];refine wG tK ?_;refine wT ?_;simp[toN,hsd]
    have hr:bO (toN l a) a.toName=0:=by first | (rw[hT];simpa using h) | (simpa[toN,hsd] using h)
    have he:az l a=12:=by rw[hE];unfold bx;rw[if_pos hn0,if_pos hd2,if_pos hr,hat];simp
    rw[he];refine wG tK ?_;refine wD (λh=>?_) (λh=>?_)
    ·refine wG tK ?_;refine wT ?_;simp
    ·cases h
  | some x=>
   rw[hff] at hg1 hat;simp only[Option.map_some] at hg1;have hwi:=zY (bD l) a.to a.fid hf.all;refine wG tK ?_ u3 n9;refine wDF (hb:=(by simp[k5])) (hk:=?_);refine wG tK ?_;refine wC Tryz.func128 (hf:=(hdt)) (hk:=?_);refine wG tK ?_;refine wD (λh=>?_) (λh=>?_)
   ·have hd2:eu l a.to≠0:=by simpa using h
    have he:az l a=eu l a.to:=by rw[hE];unfold bx;rw[if_pos hn0,if_neg hd2]
    rw[he,if_neg hd2];refine wG tK ?_;refine wT ?_;rfl
   have hd2:eu l a.to=0:=by simpa using h
   refine wG tK ?_
   by_cases hsd:a.to=a.dir
   ·have hT:toN l a=aA (aq l a.to) a.name:=by unfold toN;rw[if_pos hsd,hsd]
    rw[hT] at hrm;refine wDT (hb:=We) (hk:=?_);refine wG tK ?_;refine wC Tryz.func132 (hf:=(hlt)) (hk:=?_);refine wG tK ?_;refine wC Tryz.func129 (hf:=(hrm)) (hk:=?_);refine wG tK ?_;refine wD (λh=>?_) (λh=>?_)
    ·have hr:bO (toN l a) a.toName≠0:=by first | (rw[hT];simpa using h) | (simpa[toN,hsd] using h)
     have he:az l a=bO (toN l a) a.toName:=by rw[hE];unfold bx;rw[if_pos hn0,if_pos hd2,if_neg hr]
     rw[he,if_neg hr];refine wG tK ?_;refine wT ?_;simp[toN,hsd]
    have hr:bO (toN l a) a.toName=0:=by first | (rw[hT];simpa using h) | (simpa[toN,hsd] using h)
    refine wG tK ?_;refine wD (λh=>?_) (λh=>?_)
    ·cases h
    refine wG tK ?_;refine wC Tryz.func50 (hf:=(hwi)) (hk:=?_);refine wG tK ?_;refine wD (λh=>?_) (λh=>?_)
    ·have he:az l a=11:=by rw[hE];unfold bx;rw[if_pos hn0,if_pos hd2,if_pos hr,hat,if_pos (show (some x).isSome=true from rfl),if_pos h]
     rw[he];refine wG tK ?_;refine wT ?_;simp
    have he0:bx l a=0:=by unfold bx;rw[if_pos hn0,if_pos hd2,if_pos hr,hat,if_pos (show (some x).isSome=true from rfl),if_neg (by rw[h];simp)]
    have he:az l a=0:=by rw[hE,he0]
    have hLL:ck l a v=aE (if a.to=a.dir then l else aE l { aA (aq l a.dir) a.name with version:=v }) { ay (toN l a) a.toName a.fid with version:=v }:=by rw[hL];unfold fT;rw[if_pos he0]
    refine wG tK ?_;have hent:=mG (aA (aq l a.to) a.name) a.toName a.fid (by rw[←hT];omega);rw[fS (by rw[←hT];exact htE) (by rw[←hT];exact (dh hr).2)] at hent;have hw2:=il (bD l) { ay (aA (aq l a.to) a.name) a.toName a.fid with version:=v } (br _);rw[fP hf.ri.up] at hw2;unfold ZN at hent hw2;rw[if_pos hsd,hT] at hLL;rw[he,if_pos rfl,hLL];refine wDF (hb:=We) (hk:=?_);refine wG tK ?_;refine wC Tryz.func131 (hf:=(hent)) (hk:=?_);refine wC Tryz.func127 (hf:=(eN (ay (aA (aq l a.to) a.name) a.toName a.fid) v)) (hk:=?_);refine wC Tryz.func130 (hf:=(hw2)) (hk:=?_);refine wG tK ?_;refine wT ?_;rfl
   ·have hT:toN l a=aq l a.to:=by unfold toN;rw[if_neg hsd]
    rw[hT] at hrm;refine wDF (hb:=We) (hk:=?_);refine wG tK ?_;refine wC Tryz.func129 (hf:=(hrm)) (hk:=?_);refine wG tK ?_;refine wD (λh=>?_) (λh=>?_)
    ·have hr:bO (toN l a) a.toName≠0:=by first | (rw[hT];simpa using h) | (simpa[toN,hsd] using h)
     have he:az l a=bO (toN l a) a.toName:=by rw[hE];unfold bx;rw[if_pos hn0,if_pos hd2,if_neg hr]
     rw[he,if_neg hr];refine wG tK ?_;refine wT ?_;simp[toN,hsd]
    have hr:bO (toN l a) a.toName=0:=by first | (rw[hT];simpa using h) | (simpa[toN,hsd] using h)
    refine wG tK ?_;refine wD (λh=>?_) (λh=>?_)
    ·cases h
    refine wG tK ?_;refine wC Tryz.func50 (hf:=(hwi)) (hk:=?_);refine wG tK ?_;refine wD (λh=>?_) (λh=>?_)
    ·have he:az l a=11:=by rw[hE];unfold bx;rw[if_pos hn0,if_pos hd2,if_pos hr,hat,if_pos (show (some x).isSome=true from rfl),if_pos h]
     rw[he];refine wG tK ?_;refine wT ?_;simp
    have he0:bx l a=0:=by unfold bx;rw[if_pos hn0,if_pos hd2,if_pos hr,hat,if_pos (show (some x).isSome=true from rfl),if_neg (by rw[h];simp)]
    have he:az l a=0:=by rw[hE,he0]
    have hLL:ck l a v=aE (if a.to=a.dir then l else aE l { aA (aq l a.dir) a.name with version:=v }) { ay (toN l a) a.toName a.fid with version:=v }:=by rw[hL];unfold fT;rw[if_pos he0]
    refine wG tK ?_;have hent:=mG (aq l a.to) a.toName a.fid (by rw[←hT];omega);rw[fS (by rw[←hT];exact htE) (by rw[←hT];exact (dh hr).2)] at hent;have hw2:=il (bD (aE l { aA (aq l a.dir) a.name with version:=v })) { ay (aq l a.to) a.toName a.fid with version:=v } (br _);rw[fP (bl hf.ri.up _).1] at hw2;unfold ZN at hent hw2;rw[if_neg hsd,hT] at hLL;rw[he,if_pos rfl,hLL];refine wDT (hb:=(by simpa using hsd)) (hk:=?_);refine wG tK ?_;refine wC Tryz.func132 (hf:=(hlv)) (hk:=?_);refine wC Tryz.func127 (hf:=(eN (aA (aq l a.dir) a.name) v)) (hk:=?_);refine wC Tryz.func130 (hf:=(hw1)) (hk:=?_);refine wG tK ?_;refine wC Tryz.func131 (hf:=(hent)) (hk:=?_);refine wC Tryz.func127 (hf:=(eN (ay (aq l a.to) a.toName a.fid) v)) (hk:=?_);refine wC Tryz.func130 (hf:=(hw2)) (hk:=?_);refine wG tK ?_;refine wT ?_;rfl
 refine wDF (hb:=(by simp[k5])) (hk:=?_);have he:az l a=1:=by rw[hkE,if_neg k5]
 rw[he];refine wG tK ?_;refine wT ?_;simp
end La
