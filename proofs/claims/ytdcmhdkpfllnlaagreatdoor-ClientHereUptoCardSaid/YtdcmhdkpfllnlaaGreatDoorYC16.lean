/- Texts of this claim, part 16: RApply. No condition. -/
import Derived.Test.YtdcmhdkpfllnlaaGreatDoorYC15
set_option maxRecDepth 10000
set_option maxHeartbeats 4000000
set_option linter.unusedSimpArgs false
set_option linter.unusedVariables false
namespace La
open Go Go.Eng Go.Proofs
theorem Er (a b:List UInt8):(!(Op.bytesLess a b||a==b))=Op.bytesLess b a:=by
 rw[gh,gh,Ym];simp only[Yh,Bool.or_eq_false_iff,decide_eq_false_iff_not,beq_eq_false_iff_ne,ne_eq,decide_eq_true_eq];constructor
 ·rintro ⟨h1,h2⟩
  by_cases h3:b<a
  ·exact h3
  ·exact absurd (HD h1 h3) h2
 ·intro h;exact ⟨λh1=>tA _ (xc h h1),λh1=>by subst h1;exact tA _ h⟩
theorem nh (l:List UInt8):Eng.iu (l.map ZY)=l.map ZY:=by
 rw[cH,Yc];exact Ye λx _=>rfl
theorem yM (l:List Entry):Eng.iu (l.map ZE)=l.map ZE:=by
 rw[cH,Yc];exact Ye λx _=>rfl
theorem nn (n:Node) (s:List UInt8) (f:Int) (hn:n.entries.length≤10000000):af Tryz.prog 127 [.agg (ZN n),.str s,.int .i64 f] [] (λr _=>r=.agg (ZN (rP n s f))):=by
 have hle:=nq n s z8;have hll:(cM n.entries s).length≤n.entries.length:=W6 _ _;unfold rP rO;unfold wJ at hle;generalize cM n.entries s=es at *;have hz:jP s f (es.take es.length)=jP s f es:=by rw[W2]
 unfold ZN at hle ⊢;simp only at hle ⊢;rw[←hz];refine ZF tK (Tryz.func127) rfl (λC=>?_);simp only[Tryz.ntmps127,Tryz.results127,go_sem];refine wG tK ?_;refine wC Tryz.func128 (hf:=(hle)) (hk:=?_);refine wG tK ?_;refine ah (le_empty 38 101 2 z7) ?_;simp only[go_sem];refine ZL (λi:Nat=>i≤es.length) (λi=>es.length-i) (λi=>(7,.osl 38 2 0 (jP s f (es.take i)).2.length)::(8,.bool (jP s f (es.take i)).1)::(10,.any)::(17,.int .i64 i)::u0 18 22 []) (λi=>[(38,.cells 101 2 ((jP s f (es.take i)).2.map ZE))]) 0 z8 ?_ λi hi=>?_
 ·simp only[go_sem];exact ZU (by simp[go_sem,jP]) (by simp[go_sem,jP]) w3
 simp only[go_sem];refine wG tK ?_;refine wD (λh=>?_) (λh=>?_)
 ·have hlt:i<es.length:=by simp at h;omega
  have hg:(es.map ZE).getD i []=ZE (es.getD i default):=Fam.getD hlt;have hw:=wi1 (i:=i) z8;have htk:jP s f (es.take (i+1))=lY s f (jP s f (es.take i)) (es.getD i default):=by rw[ZT hlt,Cp]
  have hl2:=xH s f (es.take i);rw[YF] at hl2;generalize es.getD i default=e at *;generalize jP s f (es.take i)=q at *;unfold lY at htk;have hgt:=Er e.name s;refine wGq tK ?_ ?_ n4
  ·simp[hg,ZE,hlt]
  cases hb:(!q.1&&Op.bytesLess s e.name) with
  | true=>
   rw[hb,if_pos rfl] at htk;refine wDT (hb:=(by rw[hgt];simpa[cP] using hb)) (hk:=?_);have htq:List.take q.2.length (q.2.map ZE)=q.2.map ZE:=Wy y8;have htq2:List.take (q.2.length+1) (q.2.map ZE++[[AV.str s,AV.int .i64 f]])=q.2.map ZE++[[AV.str s,AV.int .i64 f]]:=Wy y8;refine wGq tK ?_ ?_ w5
   ·simp[rowsOf,refs,htq,htq2];exact ⟨by omega,by omega,λx _ y hy=>by simp only[ZE,List.mem_cons,List.not_mem_nil,or_false] at hy;rcases hy with rfl | rfl<;>simp[refs]⟩
   refine ZB ⟨i+1,by omega,by omega,ZU ?_ ?_ ?_⟩
   ·simp[go_sem,htk]
   ·simp[go_sem,htk,htq2,ZE]
   ·simp[go_sem]
  | false=>
   rw[hb,if_neg Bool.false_ne_true] at htk;have htq:List.take q.2.length (q.2.map ZE)=q.2.map ZE:=Wy y8;refine wDF (hb:=(by rw[hgt];simpa[cP] using hb)) (hk:=?_);refine wGq tK ?_ ?_ w5
   ·simp[rowsOf,refs,htq];omega
   refine ZB ⟨i+1,by omega,by omega,ZU ?_ ?_ ?_⟩
   ·simp[go_sem,htk]
   ·simp[go_sem,htk,ZE]
   ·simp[go_sem]
 ·have e:i=es.length:=by simp at h;omega
  subst e;have hl2:=xH s f (es.take es.length);rw[YF] at hl2;rw[hz] at hl2 ⊢;clear hz;generalize jP s f es=q at *;have htq:List.take q.2.length (q.2.map ZE)=q.2.map ZE:=Wy y8;refine wG tK ?_;refine wD (λh=>?_) (λh=>?_)
  ·have hq:q.1=false:=by simpa using h
   rw[if_neg (by simp[hq])];refine wGq tK ?_ ?_
   ·simp[rowsOf,refs,htq];omega
   rw[show q.2.map ZE++[[AV.str s,AV.int .i64 f]]=(q.2++[(⟨s,f⟩:Entry)]).map ZE by simp[ZE]];refine ZZ 47 rfl (dt _) ?_;simp only[go_sem];refine wT ?_;simp[ZE];exact Wy y8
  ·have hq:q.1=true:=by simpa using h
   rw[if_pos hq];refine wG tK ?_;refine ZZ 38 rfl (dt _) ?_;simp only[go_sem];refine wT ?_;simp
theorem fa (n:Node) (v:Int):af Tryz.prog 123 [.agg (ZN n),.rp [.int .i64 v] 0] [] (λr _=>r=.agg (ZN { n with version:=v })):=by
 unfold ZN;refine ZF tK (Tryz.func123) rfl (λC=>?_);simp only[Tryz.ntmps123,Tryz.results123,go_sem];refine wG tK ?_;refine wT ?_;rfl
theorem E7 (l:List Node) (k:Int) (hu:Up l):af Tryz.prog 124 [.rm (mN (bI l)),.int .i64 k] [] (λr _=>Eng.nrm r=.tup [.agg (ZN (ar l k)),.int .i64 (eM l k)]):=by
 have hg:bl (mN (bI l)) k=(ak l k).map λn=>AV.agg (ZN n):=by rw[gi,cm hu]
 unfold ar eM;refine ZF tK (Tryz.func124) rfl (λC=>?_);simp only[Tryz.ntmps124,Tryz.results124,go_sem];cases e:ak l k with
 | none=>
  rw[e] at hg;simp only[Option.map_none] at hg;refine wG tK ?_ p7 (by simp[go_sem,hg]);refine wD (λh=>?_) (λh=>?_)
  ·refine wG tK ?_;refine wT ?_;rfl
  ·cases h
 | some n=>
  rw[e] at hg;simp only[Option.map_some] at hg;refine wG tK ?_ p8 (by simp[go_sem,hg,ZN]);refine wD (λh=>?_) (λh=>?_)
  ·cases h
  refine wG tK ?_;refine wD (λh=>?_) (λh=>?_)
  ·have hd:n.dir=false:=by simpa using h
   refine wG tK ?_;refine wT ?_;simp[hd,Eng.nrm,Eng.dz,ZN,nh,yM]
  ·have hd:n.dir=true:=by simpa using h
   refine wG tK ?_;refine wT ?_;simp[hd,Eng.nrm,Eng.dz,ZN,nh,yM]
theorem B1 (l:List Node) (k:Int) (hu:Up l):af Tryz.prog 124 [.rm (mN (bI l)),.int .i64 k] [] (λr _=>r=.tup [.agg (ZN (ar l k)),.int .i64 (eM l k)]):=vX (E7 l k hu)
theorem Ap (n:Node) (s:List UInt8):isE n.entries s=(av n s).isSome:=by
 unfold av;split
 ·rename_i h;rw[h];rfl
 ·rename_i h;simpa using h
theorem tt (n:Node) (s:List UInt8) (he:EUp n.entries) (hn:n.entries.length≤100000000) (hs:s.length≤100000000):af Tryz.prog 125 [.agg (ZN n),.str s] [] (λr _=>r=.int .i64 (cf n s)):=by
 have h1:=gM n s hn;rw[du he] at h1;have hi:=Ap n s;unfold cf;unfold ZN at h1 ⊢;have hnm:=zb s hs;generalize cE s=nb at hnm ⊢;refine ZF tK (Tryz.func125) rfl (λC=>?_);simp only[Tryz.ntmps125,Tryz.results125,go_sem];refine wG tK ?_;cases e:av n s with
 | some f=>
  rw[e] at h1 hi;refine wC Tryz.func50 (hf:=(h1)) (hk:=?_);refine wG tK ?_;refine wCC Tryz.func49 (hf:=λhb=>(hnm)) (hk:=?_);refine wG tK ?_;refine wD (λh=>?_) (λh=>?_)
  ·refine wG tK ?_;refine wT ?_;simp[hi]
  ·simp at h
 | none=>
  rw[e] at h1 hi;refine wC Tryz.func50 (hf:=(h1)) (hk:=?_);refine wG tK ?_;refine wCC Tryz.func49 (hf:=λhb=>(hnm)) (hk:=?_);cases nb with
  | false=>
   refine wG tK ?_;refine wD (λh=>?_) (λh=>?_)
   ·refine wG tK ?_;refine wT ?_;simp
   ·simp at h
  | true=>
   refine wG tK ?_;refine wD (λh=>?_) (λh=>?_)
   ·simp at h
   refine wG tK ?_;refine wD (λh=>?_) (λh=>?_)
   ·have:6≤n.entries.length:=by simp at h;omega
    refine wG tK ?_;refine wT ?_;simp[hi,this]
   ·have:¬6≤n.entries.length:=by simp at h;omega
    refine wG tK ?_;refine wT ?_;simp[hi,this]
structure RFit (l:List Node) (a:Act):Prop where
 ri:Ri l
 ent:∀n,n∈l->n.entries.length≤9999990
 len:l.length≤100000000
 all:(oh (bI l)).length≤90000000
 name:a.name.length≤100000000
 toName:a.toName.length≤100000000
 data:a.data.length≤100000000
theorem RFit.find {l:List Node} {a:Act} (h:RFit l a) (k:Int):(ar l k).entries.length≤9999990:=by
 unfold ar;cases e:ak l k with
 | none=>simp[al]
 | some n=>exact h.ent n ((ZO h.ri.up).1 e).1
open Classical in
theorem CZ (l:List Node) (a:Act) (v:Int) (hf:RFit l a):af Tryz.prog 82 [.rm (mN (bI l)),.agg (ZA a),.int .i64 v] [] (λr _=>r=wH l a v):=by
 have hgf:∀k,bl (mN (bI l)) k=(ak l k).map λn=>AV.agg (ZN n):=λk=>by rw[gi,cm hf.ri.up]
 have hdir:=B1 l a.dir hf.ri.up;have hdir2:=hdir;unfold ZN at hdir2;have hee:=hf.ri.find a.dir;have hel:=hf.find a.dir;unfold wH;refine ZF tK (Tryz.func82) rfl (λC=>?_);simp only[Tryz.ntmps82,Tryz.results82,go_sem];refine wR ?_;refine wN tK 2 ?_ z6 z6 Qg (by simp[go_sem,ZA]);refine ZZ 4 rfl (rfl) ?_;refine ZZ 5 rfl (rfl) ?_;simp only[go_sem];refine wG tK ?_
 by_cases k1:a.kind=1
 ·have hE:aB l a=cQ l a:=by unfold aB;rw[if_pos k1]
  have hL:cy l a v=dQ l a v:=by unfold cy;rw[if_pos k1]
  refine wDT (hb:=(by simp[k1])) (hk:=?_);refine wG tK ?_;refine wDT (hb:=(by simp[k1])) (hk:=?_);refine wG tK ?_;refine wC Tryz.func124 (hf:=(hdir2)) (hk:=?_);refine wG tK ?_;refine wD (λh=>?_) (λh=>?_)
  ·have hd:eM l a.dir≠0:=by simpa using h
   have he:aB l a=eM l a.dir:=by rw[hE];unfold cQ;rw[if_neg hd]
   rw[he,if_neg hd];refine wG tK ?_;refine wT ?_;rfl
  have hd:eM l a.dir=0:=by simpa using h
  refine wG tK ?_;refine wC Tryz.func125 (hf:=(tt (ar l a.dir) a.name hee z8 hf.name)) (hk:=?_);refine wG tK ?_;refine wD (λh=>?_) (λh=>?_)
  ·have hr:cf (ar l a.dir) a.name≠0:=by simpa using h
   have he:aB l a=cf (ar l a.dir) a.name:=by rw[hE];unfold cQ;rw[if_pos hd,if_neg hr]
   rw[he,if_neg hr];refine wG tK ?_;refine wT ?_;rfl
  have hr:cf (ar l a.dir) a.name=0:=by simpa using h
  have hg1:=hgf a.fid;have hat:=cL l a.fid;cases hff:ak l a.fid with
  | some x=>
   rw[hff] at hg1 hat;simp only[Option.map_some] at hg1;have he:aB l a=13:=by rw[hE];unfold cQ;rw[if_pos hd,if_pos hr,hat];simp
   rw[he];refine wG tK ?_ Zh (by simp[go_sem,hg1,ZN,cond_true,cond_false]);refine wD (λh=>?_) (λh=>?_)
   ·refine wG tK ?_;refine wT ?_;simp
   ·cases h
  | none=>
   rw[hff] at hg1 hat;simp only[Option.map_none] at hg1;refine wG tK ?_ Zt (by simp[go_sem,hg1,cond_true,cond_false]);refine wD (λh=>?_) (λh=>?_)
   ·have h0:a.fid=0:=by simpa using h
    have he:aB l a=13:=by rw[hE];unfold cQ;rw[if_pos hd,if_pos hr,hat];simp[h0]
    rw[he];refine wG tK ?_;refine wT ?_;simp
   have h0:a.fid≠0:=by simpa using h
   refine wG tK ?_ WE (by simp[go_sem,wq,mm hf.ri.up]);refine wD (λh=>?_) (λh=>?_)
   ·have h24:l.length≥24:=by simp at h;omega
    have he:aB l a=5:=by rw[hE];unfold cQ;rw[if_pos hd,if_pos hr,hat,if_neg Qh,if_pos h24]
    rw[he];refine wG tK ?_;refine wT ?_;simp
   have h24:¬l.length≥24:=by simp at h;omega
   have he0:cQ l a=0:=by unfold cQ;rw[if_pos hd,if_pos hr,hat,if_neg Qh,if_neg h24]
   have he:aB l a=0:=by rw[hE,he0]
   have hLL:cy l a v=aD (aD l { aA (ar l a.dir) a.name a.fid with version:=v }) (dP a v):=by rw[hL];unfold dQ;rw[if_pos he0]
   have hent:=nn (ar l a.dir) a.name a.fid z8;rw[gn hee (dv hr).2] at hent;have hp1:bx (bI l) (ar l a.dir).fid { aA (ar l a.dir) a.name a.fid with version:=v }=bI (aD l { aA (ar l a.dir) a.name a.fid with version:=v }):=gj hf.ri.up { aA (ar l a.dir) a.name a.fid with version:=v };have hw1:=iN (bI l) { aA (ar l a.dir) a.name a.fid with version:=v } (bu l);rw[show ({ aA (ar l a.dir) a.name a.fid with version:=v }:Node).fid=(ar l a.dir).fid from rfl,hp1] at hw1;have hw2:=iN (bI (aD l { aA (ar l a.dir) a.name a.fid with version:=v })) (dP a v) (bu _);rw[gj (bn hf.ri.up _).1] at hw2;rw[he,if_pos rfl,hLL];unfold ZN at hent hw1 hw2;simp only[dP] at hw2;refine wG tK ?_;refine ZW ZM ?_;refine ZS rfl ?_;refine sN tK 7 ?_;refine sC Tryz.func127 (hf:=(hent)) (hk:=?_);refine sC Tryz.func123 (hf:=(fa (aA (ar l a.dir) a.name a.fid) v)) (hk:=?_);refine sC Tryz.func126 (hf:=(hw1)) (hk:=?_);refine sN tK 6 ?_;refine sB tK ?_;refine sC Tryz.func123 (hf:=Z0) (hk:=?_);refine sC Tryz.func126 (hf:=(hw2)) (hk:=?_);refine sN tK 2 ?_;refine sE ?_;refine wKd ?_;refine wG tK ?_;refine wT ?_;rfl
 refine wDF (hb:=(by simp[k1])) (hk:=?_);refine wG tK ?_
 by_cases k2:a.kind=2
 ·have hE:aB l a=cQ l a:=by unfold aB;rw[if_neg k1,if_pos k2]
  have hL:cy l a v=dQ l a v:=by unfold cy;rw[if_neg k1,if_pos k2]
  refine wDT (hb:=(by simp[k2])) (hk:=?_);refine wG tK ?_;refine wC Tryz.func124 (hf:=(hdir2)) (hk:=?_);refine wG tK ?_;refine wD (λh=>?_) (λh=>?_)
  ·have hd:eM l a.dir≠0:=by simpa using h
   have he:aB l a=eM l a.dir:=by rw[hE];unfold cQ;rw[if_neg hd]
   rw[he,if_neg hd];refine wG tK ?_;refine wT ?_;rfl
  have hd:eM l a.dir=0:=by simpa using h
  refine wG tK ?_;refine wC Tryz.func125 (hf:=(tt (ar l a.dir) a.name hee z8 hf.name)) (hk:=?_);refine wG tK ?_;refine wD (λh=>?_) (λh=>?_)
  ·have hr:cf (ar l a.dir) a.name≠0:=by simpa using h
   have he:aB l a=cf (ar l a.dir) a.name:=by rw[hE];unfold cQ;rw[if_pos hd,if_neg hr]
   rw[he,if_neg hr];refine wG tK ?_;refine wT ?_;rfl
  have hr:cf (ar l a.dir) a.name=0:=by simpa using h
  have hg1:=hgf a.fid;have hat:=cL l a.fid;cases hff:ak l a.fid with
  | some x=>
   rw[hff] at hg1 hat;simp only[Option.map_some] at hg1;have he:aB l a=13:=by rw[hE];unfold cQ;rw[if_pos hd,if_pos hr,hat];simp
   rw[he];refine wG tK ?_ Zh (by simp[go_sem,hg1,ZN,cond_true,cond_false]);refine wD (λh=>?_) (λh=>?_)
   ·refine wG tK ?_;refine wT ?_;simp
   ·cases h
  | none=>
   rw[hff] at hg1 hat;simp only[Option.map_none] at hg1;refine wG tK ?_ Zt (by simp[go_sem,hg1,cond_true,cond_false]);refine wD (λh=>?_) (λh=>?_)
   ·have h0:a.fid=0:=by simpa using h
    have he:aB l a=13:=by rw[hE];unfold cQ;rw[if_pos hd,if_pos hr,hat];simp[h0]
    rw[he];refine wG tK ?_;refine wT ?_;simp
   have h0:a.fid≠0:=by simpa using h
   refine wG tK ?_ WE (by simp[go_sem,wq,mm hf.ri.up]);refine wD (λh=>?_) (λh=>?_)
   ·have h24:l.length≥24:=by simp at h;omega
    have he:aB l a=5:=by rw[hE];unfold cQ;rw[if_pos hd,if_pos hr,hat,if_neg Qh,if_pos h24]
    rw[he];refine wG tK ?_;refine wT ?_;simp
   have h24:¬l.length≥24:=by simp at h;omega
   have he0:cQ l a=0:=by unfold cQ;rw[if_pos hd,if_pos hr,hat,if_neg Qh,if_neg h24]
   have he:aB l a=0:=by rw[hE,he0]
   have hLL:cy l a v=aD (aD l { aA (ar l a.dir) a.name a.fid with version:=v }) (dP a v):=by rw[hL];unfold dQ;rw[if_pos he0]
   have hent:=nn (ar l a.dir) a.name a.fid z8;rw[gn hee (dv hr).2] at hent;have hp1:bx (bI l) (ar l a.dir).fid { aA (ar l a.dir) a.name a.fid with version:=v }=bI (aD l { aA (ar l a.dir) a.name a.fid with version:=v }):=gj hf.ri.up { aA (ar l a.dir) a.name a.fid with version:=v };have hw1:=iN (bI l) { aA (ar l a.dir) a.name a.fid with version:=v } (bu l);rw[show ({ aA (ar l a.dir) a.name a.fid with version:=v }:Node).fid=(ar l a.dir).fid from rfl,hp1] at hw1;have hw2:=iN (bI (aD l { aA (ar l a.dir) a.name a.fid with version:=v })) (dP a v) (bu _);rw[gj (bn hf.ri.up _).1] at hw2;rw[he,if_pos rfl,hLL];unfold ZN at hent hw1 hw2;simp only[dP] at hw2;refine wG tK ?_;refine ZW ZM ?_;refine ZS rfl ?_;refine sN tK 7 ?_;refine sC Tryz.func127 (hf:=(hent)) (hk:=?_);refine sC Tryz.func123 (hf:=(fa (aA (ar l a.dir) a.name a.fid) v)) (hk:=?_);refine sC Tryz.func126 (hf:=(hw1)) (hk:=?_);refine sN tK 6 ?_;refine sB tK ?_;refine sC Tryz.func123 (hf:=Z0) (hk:=?_);refine sC Tryz.func126 (hf:=(hw2)) (hk:=?_);refine sN tK 2 ?_;refine sE ?_;refine wKd ?_;refine wG tK ?_;refine wT ?_;rfl
 refine wDF (hb:=(by simp[k2])) (hk:=?_);refine wG tK ?_;have hkE:aB l a=if a.kind=3 then df l a else if a.kind=4 then cN l a else if a.kind=5 then bD l a else 1:=by unfold aB;rw[if_neg k1,if_neg k2]
 have hkL:cy l a v=if a.kind=3 then dg l a v else if a.kind=4 then cO l a v else if a.kind=5 then gp l a v else l:=by unfold cy;rw[if_neg k1,if_neg k2]
 by_cases k3:a.kind=3
 ·have hE:aB l a=df l a:=by rw[hkE,if_pos k3]
  have hL:cy l a v=dg l a v:=by rw[hkL,if_pos k3]
  refine wDT (hb:=(by simp[k3])) (hk:=?_);have hg1:=hgf a.fid;cases hff:ak l a.fid with
  | none=>
   rw[hff] at hg1;simp only[Option.map_none] at hg1;have he:aB l a=12:=by rw[hE];unfold df;rw[hff]
   rw[he];refine wG tK ?_ QB Qv;refine wD (λh=>?_) (λh=>?_)
   ·refine wG tK ?_;refine wT ?_;simp
   ·cases h
  | some x=>
   rw[hff] at hg1;simp only[Option.map_some] at hg1;have hgn:ar l a.fid=x:=by unfold ar;rw[hff];rfl
   have hsE:df l a=if x.dir then 9 else if a.data.length>20 then 4 else 0:=by unfold df;rw[hff]
   refine wG tK ?_ u6 QF;refine wD (λh=>?_) (λh=>?_)
   ·cases h
   refine wG tK ?_;refine wD (λh=>?_) (λh=>?_)
   ·have hd:x.dir=true:=by simpa using h
    have he:aB l a=9:=by rw[hE,hsE,if_pos hd]
    rw[he];refine wG tK ?_;refine wT ?_;simp
   have hd:x.dir=false:=by simpa using h
   refine wG tK ?_;refine wD (λh=>?_) (λh=>?_)
   ·have h20:a.data.length>20:=by simp at h;omega
    have he:aB l a=4:=by rw[hE,hsE,if_neg (by simp[hd]),if_pos h20]
    rw[he];refine wG tK ?_;refine wT ?_;simp
   have h20:¬a.data.length>20:=by simp at h;omega
   have he0:df l a=0:=by rw[hsE,if_neg (by simp[hd]),if_neg h20]
   have he:aB l a=0:=by rw[hE,he0]
   have hLL:cy l a v=aD l { x with data:=a.data,version:=v }:=by rw[hL];unfold dg;rw[if_pos he0,hgn]
   have hw1:=iN (bI l) { x with data:=a.data,version:=v } (bu l);rw[gj hf.ri.up] at hw1;unfold ZN at hw1;rw[he,if_pos rfl,hLL];refine wG tK ?_;refine wC Tryz.func123 (hf:=(fa { x with data:=a.data } v)) (hk:=?_);refine wC Tryz.func126 (hf:=(hw1)) (hk:=?_);refine wG tK ?_;refine wT ?_;rfl
 refine wDF (hb:=(by simp[k3])) (hk:=?_);rw[if_neg k3] at hkE hkL;refine wG tK ?_;have hen:=gM (ar l a.dir) a.name z8;rw[du hee] at hen;have hg1:=hgf a.fid
 by_cases k4:a.kind=4
 ·have hE:aB l a=cN l a:=by rw[hkE,if_pos k4]
  have hL:cy l a v=cO l a v:=by rw[hkL,if_pos k4]
  have hN:bC l a≠0->aB l a=bC l a:=λh=>by rw[hE];unfold cN;rw[if_neg h]
  refine wDT (hb:=(by simp[k4])) (hk:=?_);refine wG tK ?_;refine wDT (hb:=(by simp[k4])) (hk:=?_);refine wG tK ?_;refine wC Tryz.func124 (hf:=(hdir2)) (hk:=?_);refine wG tK ?_;refine wD (λh=>?_) (λh=>?_)
  ·have hd:eM l a.dir≠0:=by simpa using h
   have hne:bC l a=eM l a.dir:=by unfold bC;rw[if_neg hd]
   rw[hN (by rw[hne];exact hd),hne,if_neg hd];refine wG tK ?_;refine wT ?_;rfl
  have hd:eM l a.dir=0:=by simpa using h
  have hlv:=nq (ar l a.dir) a.name z8;have hw1:=iN (bI l) { aC (ar l a.dir) a.name with version:=v } (bu l);rw[gj hf.ri.up] at hw1;unfold ZN at hw1 hlv hen;refine wG tK ?_;cases hent:av (ar l a.dir) a.name with
  | none=>
   rw[hent] at hen;have hne:bC l a=6:=by unfold bC;rw[if_pos hd,hent]
   rw[hN Wp,hne];refine wC Tryz.func50 (hf:=(hen)) (hk:=?_);refine wG tK ?_;refine wD (λh=>?_) (λh=>?_)
   ·refine wG tK ?_;refine wT ?_;simp
   ·cases h
  | some f=>
  rw[hent] at hen;refine wC Tryz.func50 (hf:=(hen)) (hk:=?_);refine wG tK ?_;refine wD (λh=>?_) (λh=>?_)
  ·cases h
  refine wG tK ?_;refine wD (λh=>?_) (λh=>?_)
  ·have hff:f≠a.fid:=by simpa using h
   have hne:bC l a=13:=by unfold bC;rw[if_pos hd,hent];simp[hff]
   rw[hN Wp,hne];refine wG tK ?_;refine wT ?_;simp
  have hff:f=a.fid:=by simpa using h
  subst hff;have hn0:bC l a=0:=by unfold bC;rw[if_pos hd,hent];simp
  cases hff:ak l a.fid with
  | none=>
   rw[hff] at hg1;simp only[Option.map_none] at hg1;have he:aB l a=12:=by rw[hE];unfold cN;rw[if_pos hn0,hff]
   rw[he];refine wG tK ?_ QB Qv;refine wDT (hb:=(by simp[k4])) (hk:=?_);refine wG tK ?_;refine wD (λh=>?_) (λh=>?_)
   ·refine wG tK ?_;refine wT ?_;simp
   ·cases h
  | some x=>
   rw[hff] at hg1;simp only[Option.map_some] at hg1;have hrE:cN l a=if x.entries.length>0 then 10 else 0:=by unfold cN;rw[if_pos hn0,hff]
   refine wG tK ?_ u6 QF;refine wDT (hb:=(by simp[k4])) (hk:=?_);refine wG tK ?_;refine wD (λh=>?_) (λh=>?_)
   ·cases h
   refine wG tK ?_;refine wD (λh=>?_) (λh=>?_)
   ·have hx:x.entries.length>0:=by simp at h;omega
    have he:aB l a=10:=by rw[hE,hrE,if_pos hx]
    rw[he];refine wG tK ?_;refine wT ?_;simp
   have hx:¬x.entries.length>0:=by simp at h;simp[h]
   have he0:cN l a=0:=by rw[hrE,if_neg hx]
   have he:aB l a=0:=by rw[hE,he0]
   have hLL:cy l a v=eQ (aD l { aC (ar l a.dir) a.name with version:=v }) a.fid:=by rw[hL];unfold cO;rw[if_pos he0]
   rw[he,if_pos rfl,hLL];have hw2:=By (bI (aD l { aC (ar l a.dir) a.name with version:=v })) a.fid (bu _);rw[EK (bn hf.ri.up _).1] at hw2;refine wG tK ?_;refine ZW ZM ?_;refine ZS rfl ?_;refine sN tK 5 ?_;refine sC Tryz.func128 (hf:=(hlv)) (hk:=?_);refine sC Tryz.func123 (hf:=(fa (aC (ar l a.dir) a.name) v)) (hk:=?_);refine sC Tryz.func126 (hf:=(hw1)) (hk:=?_);refine sN tK 2 ?_;refine sC Tryz.func129 (hf:=(hw2)) (hk:=?_);refine sN tK 2 ?_;refine sE ?_;refine wKd ?_;refine wG tK ?_;refine wT ?_;rfl
 refine wDF (hb:=(by simp[k4])) (hk:=?_);refine wG tK ?_;rw[if_neg k4] at hkE hkL
 by_cases k5:a.kind=5
 ·have hE:aB l a=bD l a:=by rw[hkE,if_pos k5]
  have hL:cy l a v=gp l a v:=by rw[hkL,if_pos k5]
  have hN:bC l a≠0->aB l a=bC l a:=λh=>by rw[hE];unfold bD;rw[if_neg h]
  refine wDT (hb:=(by simp[k5])) (hk:=?_);refine wG tK ?_;refine wC Tryz.func124 (hf:=(hdir2)) (hk:=?_);refine wG tK ?_;refine wD (λh=>?_) (λh=>?_)
  ·have hd:eM l a.dir≠0:=by simpa using h
   have hne:bC l a=eM l a.dir:=by unfold bC;rw[if_neg hd]
   rw[hN (by rw[hne];exact hd),hne,if_neg hd];refine wG tK ?_;refine wT ?_;rfl
  have hd:eM l a.dir=0:=by simpa using h
  have hlv:=nq (ar l a.dir) a.name z8;have hw1:=iN (bI l) { aC (ar l a.dir) a.name with version:=v } (bu l);rw[gj hf.ri.up] at hw1;unfold ZN at hw1 hlv hen;refine wG tK ?_;cases hent:av (ar l a.dir) a.name with
  | none=>
   rw[hent] at hen;have hne:bC l a=6:=by unfold bC;rw[if_pos hd,hent]
   rw[hN Wp,hne];refine wC Tryz.func50 (hf:=(hen)) (hk:=?_);refine wG tK ?_;refine wD (λh=>?_) (λh=>?_)
   ·refine wG tK ?_;refine wT ?_;simp
   ·cases h
  | some f=>
  rw[hent] at hen;refine wC Tryz.func50 (hf:=(hen)) (hk:=?_);refine wG tK ?_;refine wD (λh=>?_) (λh=>?_)
  ·cases h
  refine wG tK ?_;refine wD (λh=>?_) (λh=>?_)
  ·have hff:f≠a.fid:=by simpa using h
   have hne:bC l a=13:=by unfold bC;rw[if_pos hd,hent];simp[hff]
   rw[hN Wp,hne];refine wG tK ?_;refine wT ?_;simp
  have hff:f=a.fid:=by simpa using h
  subst hff;have hn0:bC l a=0:=by unfold bC;rw[if_pos hd,hent];simp
  have hdt:=B1 l a.to hf.ri.up;unfold ZN at hdt;have htE:=hf.ri.to a;have htl:(toN l a).entries.length≤9999990:=by
   unfold toN;split
   ·have:=sX (ar l a.dir).entries a.name
    show (de (ar l a.dir).entries a.name).length≤_
    omega
   ·exact hf.find a.to
  have hlt:=nq (ar l a.to) a.name (by have:=hf.find a.to;omega);unfold ZN at hlt;have hrm:=tt (toN l a) a.toName htE z8 hf.toName;unfold ZN at hrm;have hat:=cL l a.fid;cases hff:ak l a.fid with
  | none=>
   rw[hff] at hg1 hat;simp only[Option.map_none] at hg1;refine wG tK ?_ QB Qv;refine wDF (hb:=(by simp[k5])) (hk:=?_);refine wG tK ?_;refine wC Tryz.func124 (hf:=(hdt)) (hk:=?_);refine wG tK ?_;refine wD (λh=>?_) (λh=>?_)
   ·have hd2:eM l a.to≠0:=by simpa using h
    have he:aB l a=eM l a.to:=by rw[hE];unfold bD;rw[if_pos hn0,if_neg hd2]
    rw[he,if_neg hd2];refine wG tK ?_;refine wT ?_;rfl
   have hd2:eM l a.to=0:=by simpa using h
   refine wG tK ?_
   by_cases hsd:a.to=a.dir
   ·rw[show toN l a=aC (ar l a.to) a.name from by unfold toN;rw[if_pos hsd,hsd]] at hrm;refine wDT (hb:=Ws) (hk:=?_);refine wG tK ?_;refine wC Tryz.func128 (hf:=(hlt)) (hk:=?_);refine wG tK ?_;refine wC Tryz.func125 (hf:=(hrm)) (hk:=?_);refine wG tK ?_;refine wD (λh=>?_) (λh=>?_)
    ·have hr:cf (toN l a) a.toName≠0:=by first | (rw[hT];simpa using h) | (simpa[toN,hsd] using h)
     have he:aB l a=cf (toN l a) a.toName:=by rw[hE];unfold bD;rw[if_pos hn0,if_pos hd2,if_neg hr]
     rw[he,if_neg hr];refine wG tK ?_;refine wT ?_;simp[toN,hsd]
    have hr:cf (toN l a) a.toName=0:=by first | (rw[hT];simpa using h) | (simpa[toN,hsd] using h)
    have he:aB l a=12:=by rw[hE];unfold bD;rw[if_pos hn0,if_pos hd2,if_pos hr,hat];simp
    rw[he];refine wG tK ?_;refine wD (λh=>?_) (λh=>?_)
    ·refine wG tK ?_;refine wT ?_;simp
    ·cases h
   ·rw[show toN l a=ar l a.to from by unfold toN;rw[if_neg hsd]] at hrm;refine wDF (hb:=Ws) (hk:=?_);refine wG tK ?_;refine wC Tryz.func125 (hf:=(hrm)) (hk:=?_);refine wG tK ?_;refine wD (λh=>?_) (λh=>?_)
    ·have hr:cf (toN l a) a.toName≠0:=by first | (rw[hT];simpa using h) | (simpa[toN,hsd] using h)
     have he:aB l a=cf (toN l a) a.toName:=by rw[hE];unfold bD;rw[if_pos hn0,if_pos hd2,if_neg hr]
     rw[he,if_neg hr];refine wG tK ?_;refine wT ?_;simp[toN,hsd]
    have hr:cf (toN l a) a.toName=0:=by first | (rw[hT];simpa using h) | (simpa[toN,hsd] using h)
    have he:aB l a=12:=by rw[hE];unfold bD;rw[if_pos hn0,if_pos hd2,if_pos hr,hat];simp
    rw[he];refine wG tK ?_;refine wD (λh=>?_) (λh=>?_)
    ·refine wG tK ?_;refine wT ?_;simp
    ·cases h
  | some x=>
   rw[hff] at hg1 hat;simp only[Option.map_some] at hg1;have hwi:=A1 (bI l) a.to a.fid hf.all;refine wG tK ?_ u6 QF;refine wDF (hb:=(by simp[k5])) (hk:=?_);refine wG tK ?_;refine wC Tryz.func124 (hf:=(hdt)) (hk:=?_);refine wG tK ?_;refine wD (λh=>?_) (λh=>?_)
   ·have hd2:eM l a.to≠0:=by simpa using h
    have he:aB l a=eM l a.to:=by rw[hE];unfold bD;rw[if_pos hn0,if_neg hd2]
    rw[he,if_neg hd2];refine wG tK ?_;refine wT ?_;rfl
   have hd2:eM l a.to=0:=by simpa using h
   refine wG tK ?_
   by_cases hsd:a.to=a.dir
   ·have hT:toN l a=aC (ar l a.to) a.name:=by unfold toN;rw[if_pos hsd,hsd]
    rw[hT] at hrm;refine wDT (hb:=Ws) (hk:=?_);refine wG tK ?_;refine wC Tryz.func128 (hf:=(hlt)) (hk:=?_);refine wG tK ?_;refine wC Tryz.func125 (hf:=(hrm)) (hk:=?_);refine wG tK ?_;refine wD (λh=>?_) (λh=>?_)
    ·have hr:cf (toN l a) a.toName≠0:=by first | (rw[hT];simpa using h) | (simpa[toN,hsd] using h)
     have he:aB l a=cf (toN l a) a.toName:=by rw[hE];unfold bD;rw[if_pos hn0,if_pos hd2,if_neg hr]
     rw[he,if_neg hr];refine wG tK ?_;refine wT ?_;simp[toN,hsd]
    have hr:cf (toN l a) a.toName=0:=by first | (rw[hT];simpa using h) | (simpa[toN,hsd] using h)
    refine wG tK ?_;refine wD (λh=>?_) (λh=>?_)
    ·cases h
    refine wG tK ?_;refine wC Tryz.func130 (hf:=(hwi)) (hk:=?_);refine wG tK ?_;refine wD (λh=>?_) (λh=>?_)
    ·have he:aB l a=11:=by rw[hE];unfold bD;rw[if_pos hn0,if_pos hd2,if_pos hr,hat,if_pos (show (some x).isSome=true from rfl),if_pos h]
     rw[he];refine wG tK ?_;refine wT ?_;simp
    have he0:bD l a=0:=by unfold bD;rw[if_pos hn0,if_pos hd2,if_pos hr,hat,if_pos (show (some x).isSome=true from rfl),if_neg (by rw[h];simp)]
    have he:aB l a=0:=by rw[hE,he0]
    have hLL:cy l a v=aD (if a.to=a.dir then l else aD l { aC (ar l a.dir) a.name with version:=v }) { aA (toN l a) a.toName a.fid with version:=v }:=by rw[hL];unfold gp;rw[if_pos he0]
    refine wG tK ?_;have hent:=nn (aC (ar l a.to) a.name) a.toName a.fid (by rw[←hT];omega);rw[gn (by rw[←hT];exact htE) (by rw[←hT];exact (dv hr).2)] at hent;have hw2:=iN (bI l) { aA (aC (ar l a.to) a.name) a.toName a.fid with version:=v } (bu _);rw[gj hf.ri.up] at hw2;unfold ZN at hent hw2;rw[if_pos hsd,hT] at hLL;rw[he,if_pos rfl,hLL];refine wDF (hb:=Ws) (hk:=?_);refine wG tK ?_;refine wC Tryz.func127 (hf:=(hent)) (hk:=?_);refine wC Tryz.func123 (hf:=(fa (aA (aC (ar l a.to) a.name) a.toName a.fid) v)) (hk:=?_);refine wC Tryz.func126 (hf:=(hw2)) (hk:=?_);refine wG tK ?_;refine wT ?_;rfl
   ·have hT:toN l a=ar l a.to:=by unfold toN;rw[if_neg hsd]
    rw[hT] at hrm;refine wDF (hb:=Ws) (hk:=?_);refine wG tK ?_;refine wC Tryz.func125 (hf:=(hrm)) (hk:=?_);refine wG tK ?_;refine wD (λh=>?_) (λh=>?_)
    ·have hr:cf (toN l a) a.toName≠0:=by first | (rw[hT];simpa using h) | (simpa[toN,hsd] using h)
     have he:aB l a=cf (toN l a) a.toName:=by rw[hE];unfold bD;rw[if_pos hn0,if_pos hd2,if_neg hr]
     rw[he,if_neg hr];refine wG tK ?_;refine wT ?_;simp[toN,hsd]
    have hr:cf (toN l a) a.toName=0:=by first | (rw[hT];simpa using h) | (simpa[toN,hsd] using h)
    refine wG tK ?_;refine wD (λh=>?_) (λh=>?_)
    ·cases h
    refine wG tK ?_;refine wC Tryz.func130 (hf:=(hwi)) (hk:=?_);refine wG tK ?_;refine wD (λh=>?_) (λh=>?_)
    ·have he:aB l a=11:=by rw[hE];unfold bD;rw[if_pos hn0,if_pos hd2,if_pos hr,hat,if_pos (show (some x).isSome=true from rfl),if_pos h]
     rw[he];refine wG tK ?_;refine wT ?_;simp
    have he0:bD l a=0:=by unfold bD;rw[if_pos hn0,if_pos hd2,if_pos hr,hat,if_pos (show (some x).isSome=true from rfl),if_neg (by rw[h];simp)]
    have he:aB l a=0:=by rw[hE,he0]
    have hLL:cy l a v=aD (if a.to=a.dir then l else aD l { aC (ar l a.dir) a.name with version:=v }) { aA (toN l a) a.toName a.fid with version:=v }:=by rw[hL];unfold gp;rw[if_pos he0]
    refine wG tK ?_;have hent:=nn (ar l a.to) a.toName a.fid (by rw[←hT];omega);rw[gn (by rw[←hT];exact htE) (by rw[←hT];exact (dv hr).2)] at hent;have hw2:=iN (bI (aD l { aC (ar l a.dir) a.name with version:=v })) { aA (ar l a.to) a.toName a.fid with version:=v } (bu _);rw[gj (bn hf.ri.up _).1] at hw2;unfold ZN at hent hw2;rw[if_neg hsd,hT] at hLL;rw[he,if_pos rfl,hLL];refine wDT (hb:=(by simpa using hsd)) (hk:=?_);refine wG tK ?_;refine wC Tryz.func128 (hf:=(hlv)) (hk:=?_);refine wC Tryz.func123 (hf:=(fa (aC (ar l a.dir) a.name) v)) (hk:=?_);refine wC Tryz.func126 (hf:=(hw1)) (hk:=?_);refine wG tK ?_;refine wC Tryz.func127 (hf:=(hent)) (hk:=?_);refine wC Tryz.func123 (hf:=(fa (aA (ar l a.to) a.toName a.fid) v)) (hk:=?_);refine wC Tryz.func126 (hf:=(hw2)) (hk:=?_);refine wG tK ?_;refine wT ?_;rfl
 refine wDF (hb:=(by simp[k5])) (hk:=?_);have he:aB l a=1:=by rw[hkE,if_neg k5]
 rw[he];refine wG tK ?_;refine wT ?_;simp
end La
