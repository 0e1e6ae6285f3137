/- Texts of this claim, part 16: RApply. No condition. -/
import Derived.Test.YtdcmhdkpfllnlaaGreatDoorXC15
import Derived.Test.YtdcmhdkpfllnlaaGreatDoorXC10
import Derived.Test.YtdcmhdkpfllnlaaGreatDoorXC8
set_option maxRecDepth 10000
set_option maxHeartbeats 4000000
set_option linter.unusedSimpArgs false
set_option linter.unusedVariables false
namespace La
open Go Go.Eng Go.Proofs
theorem C2 (a b:List UInt8):(!(Op.bytesLess a b||a==b))=Op.bytesLess b a:=by
 rw[fM,fM,Bool.eq_iff_iff];simp only[Bool.not_eq_true',Bool.or_eq_false_iff,decide_eq_false_iff_not,beq_eq_false_iff_ne,ne_eq,decide_eq_true_eq];constructor
 ·rintro ⟨h1,h2⟩
  by_cases h3:b<a
  ·exact h3
  ·exact absurd (F9 h1 h3) h2
 ·intro h;exact ⟨λh1=>sd _ (vz h h1),λh1=>by subst h1;exact sd _ h⟩
theorem tP (l:List UInt8):Eng.jm (l.map ZY)=l.map ZY:=by
 rw[dt,List.map_map];exact List.map_congr_left λx _=>rfl
theorem xB (l:List Entry):Eng.jm (l.map ZE)=l.map ZE:=by
 rw[dt,List.map_map];exact List.map_congr_left λx _=>rfl
theorem mr (n:Node) (s:List UInt8) (f:Int) (hn:n.entries.length≤10000000):ae Tryz.prog 127 [.agg (ZN n),.str s,.int .i64 f] [] (λr _=>r=.agg (ZN (qH n s f))):=by
 have hle:=mu n s z8;have hll:(cC n.entries s).length≤n.entries.length:=List.length_filter_le _ _;unfold qH qG;unfold vf at hle;generalize cC n.entries s=es at *;have hz:ji s f (es.take es.length)=ji s f es:=by rw[List.take_length]
 unfold ZN at hle ⊢;simp only at hle ⊢;rw[←hz];refine ZF tK (Tryz.func127) rfl (λC=>?_);simp only[Tryz.ntmps127,Tryz.results127,go_sem];refine wG tK ?_;refine wC Tryz.func128 (hf:=(hle)) (hk:=?_);refine wG tK ?_;refine ag (le_empty 38 101 2 z7) ?_;simp only[go_sem];refine ZL (λi:Nat=>i≤es.length) (λi=>es.length-i) (λi=>[(7,.osl 38 2 0 (ji s f (es.take i)).2.length),(8,.bool (ji s f (es.take i)).1),(10,.any),(17,.int .i64 i),(18,.any),(19,.any),(20,.any),(21,.any),(22,.any),(23,.any),(24,.any),(25,.any),(26,.any),(27,.any),(28,.any),(29,.any),(30,.any),(31,.any),(32,.any),(33,.any),(34,.any),(35,.any),(36,.any),(37,.any),(38,.any),(39,.any)]) (λi=>[(38,.cells 101 2 ((ji s f (es.take i)).2.map ZE))]) 0 z8 ?_ λi hi=>?_
 ·simp only[go_sem];exact ZU (by simp[go_sem,ji]) (by simp[go_sem,ji]) w3
 simp only[go_sem];refine wG tK ?_;refine wD (λh=>?_) (λh=>?_)
 ·have hlt:i<es.length:=by simp at h;omega
  have hg:(es.map ZE).getD i []=ZE (es.getD i default):=Fam.getD hlt;have hw:=wi1 (i:=i) z8;have htk:ji s f (es.take (i+1))=lu s f (ji s f (es.take i)) (es.getD i default):=by rw[ZT hlt,A8]
  have hl2:=wc s f (es.take i);rw[List.length_take] at hl2;generalize es.getD i default=e at *;generalize ji s f (es.take i)=q at *;unfold lu at htk;have hgt:=C2 e.name s;refine wGq tK ?_ ?_ s7
  ·simp[hg,ZE,hlt]
  cases hb:(!q.1&&Op.bytesLess s e.name) with
  | true=>
   rw[hb,if_pos rfl] at htk;refine wDT (hb:=(by rw[hgt];simpa[cG] using hb)) (hk:=?_);have htq:List.take q.2.length (q.2.map ZE)=q.2.map ZE:=List.take_of_length_le y8;have htq2:List.take (q.2.length+1) (q.2.map ZE++[[AV.str s,AV.int .i64 f]])=q.2.map ZE++[[AV.str s,AV.int .i64 f]]:=List.take_of_length_le y8;refine wGq tK ?_ ?_ w5
   ·simp[rowsOf,refs,htq,htq2];exact ⟨by omega,by omega,λx _ y hy=>by simp only[ZE,List.mem_cons,List.not_mem_nil,or_false] at hy;rcases hy with rfl | rfl<;>simp[refs]⟩
   refine ZB ⟨i+1,by omega,by omega,ZU ?_ ?_ ?_⟩
   ·simp[go_sem,htk]
   ·simp[go_sem,htk,htq2,ZE]
   ·simp[go_sem]
  | false=>
   rw[hb,if_neg Bool.false_ne_true] at htk;have htq:List.take q.2.length (q.2.map ZE)=q.2.map ZE:=List.take_of_length_le y8;refine wDF (hb:=(by rw[hgt];simpa[cG] using hb)) (hk:=?_);refine wGq tK ?_ ?_ w5
   ·simp[rowsOf,refs,htq];omega
   refine ZB ⟨i+1,by omega,by omega,ZU ?_ ?_ ?_⟩
   ·simp[go_sem,htk]
   ·simp[go_sem,htk,ZE]
   ·simp[go_sem]
 ·have e:i=es.length:=by simp at h;omega
  subst e;have hl2:=wc s f (es.take es.length);rw[List.length_take] at hl2;rw[hz] at hl2 ⊢;clear hz;generalize ji s f es=q at *;have htq:List.take q.2.length (q.2.map ZE)=q.2.map ZE:=List.take_of_length_le y8;refine wG tK ?_;refine wD (λh=>?_) (λh=>?_)
  ·have hq:q.1=false:=by simpa using h
   rw[if_neg (by simp[hq])];refine wGq tK ?_ ?_
   ·simp[rowsOf,refs,htq];omega
   rw[show q.2.map ZE++[[AV.str s,AV.int .i64 f]]=(q.2++[(⟨s,f⟩:Entry)]).map ZE by simp[ZE]];refine ZZ 47 rfl (dc _) ?_;simp only[go_sem];refine wT ?_;simp[ZE];exact List.take_of_length_le y8
  ·have hq:q.1=true:=by simpa using h
   rw[if_pos hq];refine wG tK ?_;refine ZZ 38 rfl (dc _) ?_;simp only[go_sem];refine wT ?_;simp
theorem eH (n:Node) (v:Int):ae Tryz.prog 123 [.agg (ZN n),.rp [.int .i64 v] 0] [] (λr _=>r=.agg (ZN { n with version:=v })):=by
 unfold ZN;refine ZF tK (Tryz.func123) rfl (λC=>?_);simp only[Tryz.ntmps123,Tryz.results123,go_sem];refine wG tK ?_;refine wT ?_;rfl
theorem DI (l:List Node) (k:Int) (hu:Up l):ae Tryz.prog 124 [.rm (mN (bB l)),.int .i64 k] [] (λr _=>Eng.nrm r=.tup [.agg (ZN (aq l k)),.int .i64 (ej l k)]):=by
 have hg:bg (mN (bB l)) k=(aj l k).map λn=>AV.agg (ZN n):=by rw[gS,cu hu]
 unfold aq ej;refine ZF tK (Tryz.func124) rfl (λC=>?_);simp only[Tryz.ntmps124,Tryz.results124,go_sem];cases e:aj l k with
 | none=>
  rw[e] at hg;simp only[Option.map_none] at hg;refine wG tK ?_ u9 (by simp[go_sem,hg]);refine wD (λh=>?_) (λh=>?_)
  ·refine wG tK ?_;refine wT ?_;rfl
  ·cases h
 | some n=>
  rw[e] at hg;simp only[Option.map_some] at hg;refine wG tK ?_ v7 (by simp[go_sem,hg,ZN]);refine wD (λh=>?_) (λh=>?_)
  ·cases h
  refine wG tK ?_;refine wD (λh=>?_) (λh=>?_)
  ·have hd:n.dir=false:=by simpa using h
   refine wG tK ?_;refine wT ?_;simp[hd,Eng.nrm,Eng.eP,ZN,tP,xB]
  ·have hd:n.dir=true:=by simpa using h
   refine wG tK ?_;refine wT ?_;simp[hd,Eng.nrm,Eng.eP,ZN,tP,xB]
theorem AG (l:List Node) (k:Int) (hu:Up l):ae Tryz.prog 124 [.rm (mN (bB l)),.int .i64 k] [] (λr _=>r=.tup [.agg (ZN (aq l k)),.int .i64 (ej l k)]):=uI (DI l k hu)
theorem yU (n:Node) (s:List UInt8):isE n.entries s=(a_ n s).isSome:=by
 unfold a_;split
 ·rename_i h;rw[h];rfl
 ·rename_i h;simpa using h
theorem rX (n:Node) (s:List UInt8) (he:EUp n.entries) (hn:n.entries.length≤100000000) (hs:s.length≤100000000):ae Tryz.prog 125 [.agg (ZN n),.str s] [] (λr _=>r=.int .i64 (bL n s)):=by
 have h1:=iv n s hn;rw[dU he] at h1;have hi:=yU n s;unfold bL;unfold ZN at h1 ⊢;have hnm:=xN s hs;generalize cq s=nb at hnm ⊢;refine ZF tK (Tryz.func125) rfl (λC=>?_);simp only[Tryz.ntmps125,Tryz.results125,go_sem];refine wG tK ?_;cases e:a_ n s with
 | some f=>
  rw[e] at h1 hi;refine wC Tryz.func50 (hf:=(h1)) (hk:=?_);refine wG tK ?_;refine wCC Tryz.func49 (hf:=λhb=>(hnm)) (hk:=?_);refine wG tK ?_;refine wD (λh=>?_) (λh=>?_)
  ·refine wG tK ?_;refine wT ?_;simp[hi]
  ·simp at h
 | none=>
  rw[e] at h1 hi;refine wC Tryz.func50 (hf:=(h1)) (hk:=?_);refine wG tK ?_;refine wCC Tryz.func49 (hf:=λhb=>(hnm)) (hk:=?_);cases nb with
  | false=>
   refine wG tK ?_;refine wD (λh=>?_) (λh=>?_)
   ·refine wG tK ?_;refine wT ?_;simp
   ·simp at h
  | true=>
   refine wG tK ?_;refine wD (λh=>?_) (λh=>?_)
   ·simp at h
   refine wG tK ?_;refine wD (λh=>?_) (λh=>?_)
   ·have:6≤n.entries.length:=by simp at h;omega
    refine wG tK ?_;refine wT ?_;simp[hi,this]
   ·have:¬6≤n.entries.length:=by simp at h;omega
    refine wG tK ?_;refine wT ?_;simp[hi,this]
structure RFit (l:List Node) (a:Act):Prop where
 ri:Ri l
 ent:∀n,n∈l->n.entries.length≤9999990
 len:l.length≤100000000
 all:(nu (bB l)).length≤90000000
 name:a.name.length≤100000000
 toName:a.toName.length≤100000000
 data:a.data.length≤100000000
theorem RFit.find {l:List Node} {a:Act} (h:RFit l a) (k:Int):(aq l k).entries.length≤9999990:=by
 unfold aq;cases e:aj l k with
 | none=>simp[au]
 | some n=>exact h.ent n ((ZO h.ri.up).1 e).1
open Classical in
theorem BC (l:List Node) (a:Act) (v:Int) (hf:RFit l a):ae Tryz.prog 82 [.rm (mN (bB l)),.agg (ZA a),.int .i64 v] [] (λr _=>r=vd l a v):=by
 have hgf:∀k,bg (mN (bB l)) k=(aj l k).map λn=>AV.agg (ZN n):=λk=>by rw[gS,cu hf.ri.up]
 have hdir:=AG l a.dir hf.ri.up;have hdir2:=hdir;unfold ZN at hdir2;have hee:=hf.ri.find a.dir;have hel:=hf.find a.dir;unfold vd;refine ZF tK (Tryz.func82) rfl (λC=>?_);simp only[Tryz.ntmps82,Tryz.results82,go_sem];refine wR ?_;refine wN tK 2 ?_ z6 z6 QV (by simp[go_sem,ZA]);refine ZZ 4 rfl (rfl) ?_;refine ZZ 5 rfl (rfl) ?_;simp only[go_sem];refine wG tK ?_
 by_cases k1:a.kind=1
 ·have hE:ay l a=cI l a:=by unfold ay;rw[if_pos k1]
  have hL:cg l a v=dw l a v:=by unfold cg;rw[if_pos k1]
  refine wDT (hb:=(by simp[k1])) (hk:=?_);refine wG tK ?_;refine wDT (hb:=(by simp[k1])) (hk:=?_);refine wG tK ?_;refine wC Tryz.func124 (hf:=(hdir2)) (hk:=?_);refine wG tK ?_;refine wD (λh=>?_) (λh=>?_)
  ·have hd:ej l a.dir≠0:=by simpa using h
   have he:ay l a=ej l a.dir:=by rw[hE];unfold cI;rw[if_neg hd]
   rw[he,if_neg hd];refine wG tK ?_;refine wT ?_;rfl
  have hd:ej l a.dir=0:=by simpa using h
  refine wG tK ?_;refine wC Tryz.func125 (hf:=(rX (aq l a.dir) a.name hee z8 hf.name)) (hk:=?_);refine wG tK ?_;refine wD (λh=>?_) (λh=>?_)
  ·have hr:bL (aq l a.dir) a.name≠0:=by simpa using h
   have he:ay l a=bL (aq l a.dir) a.name:=by rw[hE];unfold cI;rw[if_pos hd,if_neg hr]
   rw[he,if_neg hr];refine wG tK ?_;refine wT ?_;rfl
  have hr:bL (aq l a.dir) a.name=0:=by simpa using h
  have hg1:=hgf a.fid;have hat:=cB l a.fid;cases hff:aj l a.fid with
  | some x=>
   rw[hff] at hg1 hat;simp only[Option.map_some] at hg1;have he:ay l a=13:=by rw[hE];unfold cI;rw[if_pos hd,if_pos hr,hat];simp
   rw[he];refine wG tK ?_ Q0 (by simp[go_sem,hg1,ZN,cond_true,cond_false]);refine wD (λh=>?_) (λh=>?_)
   ·refine wG tK ?_;refine wT ?_;simp
   ·cases h
  | none=>
   rw[hff] at hg1 hat;simp only[Option.map_none] at hg1;refine wG tK ?_ Zd (by simp[go_sem,hg1,cond_true,cond_false]);refine wD (λh=>?_) (λh=>?_)
   ·have h0:a.fid=0:=by simpa using h
    have he:ay l a=13:=by rw[hE];unfold cI;rw[if_pos hd,if_pos hr,hat];simp[h0]
    rw[he];refine wG tK ?_;refine wT ?_;simp
   have h0:a.fid≠0:=by simpa using h
   refine wG tK ?_ Zy (by simp[go_sem,uU,lH hf.ri.up]);refine wD (λh=>?_) (λh=>?_)
   ·have h24:l.length≥24:=by simp at h;omega
    have he:ay l a=5:=by rw[hE];unfold cI;rw[if_pos hd,if_pos hr,hat,if_neg Zi,if_pos h24]
    rw[he];refine wG tK ?_;refine wT ?_;simp
   have h24:¬l.length≥24:=by simp at h;omega
   have he0:cI l a=0:=by unfold cI;rw[if_pos hd,if_pos hr,hat,if_neg Zi,if_neg h24]
   have he:ay l a=0:=by rw[hE,he0]
   have hLL:cg l a v=aD (aD l { ax (aq l a.dir) a.name a.fid with version:=v }) (dv a v):=by rw[hL];unfold dw;rw[if_pos he0]
   have hent:=mr (aq l a.dir) a.name a.fid z8;rw[fQ hee (dd hr).2] at hent;have hp1:br (bB l) (aq l a.dir).fid { ax (aq l a.dir) a.name a.fid with version:=v }=bB (aD l { ax (aq l a.dir) a.name a.fid with version:=v }):=fN hf.ri.up { ax (aq l a.dir) a.name a.fid with version:=v };have hw1:=ic (bB l) { ax (aq l a.dir) a.name a.fid with version:=v } (bp l);rw[show ({ ax (aq l a.dir) a.name a.fid with version:=v }:Node).fid=(aq l a.dir).fid from rfl,hp1] at hw1;have hw2:=ic (bB (aD l { ax (aq l a.dir) a.name a.fid with version:=v })) (dv a v) (bp _);rw[fN (bj hf.ri.up _).1] at hw2;rw[he,if_pos rfl,hLL];unfold ZN at hent hw1 hw2;simp only[dv] at hw2;refine wG tK ?_;refine ZW ZM ?_;refine ZS rfl ?_;refine sN tK 7 ?_;refine sC Tryz.func127 (hf:=(hent)) (hk:=?_);refine sC Tryz.func123 (hf:=(eH (ax (aq l a.dir) a.name a.fid) v)) (hk:=?_);refine sC Tryz.func126 (hf:=(hw1)) (hk:=?_);refine sN tK 6 ?_;refine sB tK ?_;refine sC Tryz.func123 (hf:=Zk) (hk:=?_);refine sC Tryz.func126 (hf:=(hw2)) (hk:=?_);refine sN tK 2 ?_;refine sE ?_;refine wKd ?_;refine wG tK ?_;refine wT ?_;rfl
 refine wDF (hb:=(by simp[k1])) (hk:=?_);refine wG tK ?_
 by_cases k2:a.kind=2
 ·have hE:ay l a=cI l a:=by unfold ay;rw[if_neg k1,if_pos k2]
  have hL:cg l a v=dw l a v:=by unfold cg;rw[if_neg k1,if_pos k2]
  refine wDT (hb:=(by simp[k2])) (hk:=?_);refine wG tK ?_;refine wC Tryz.func124 (hf:=(hdir2)) (hk:=?_);refine wG tK ?_;refine wD (λh=>?_) (λh=>?_)
  ·have hd:ej l a.dir≠0:=by simpa using h
   have he:ay l a=ej l a.dir:=by rw[hE];unfold cI;rw[if_neg hd]
   rw[he,if_neg hd];refine wG tK ?_;refine wT ?_;rfl
  have hd:ej l a.dir=0:=by simpa using h
  refine wG tK ?_;refine wC Tryz.func125 (hf:=(rX (aq l a.dir) a.name hee z8 hf.name)) (hk:=?_);refine wG tK ?_;refine wD (λh=>?_) (λh=>?_)
  ·have hr:bL (aq l a.dir) a.name≠0:=by simpa using h
   have he:ay l a=bL (aq l a.dir) a.name:=by rw[hE];unfold cI;rw[if_pos hd,if_neg hr]
   rw[he,if_neg hr];refine wG tK ?_;refine wT ?_;rfl
  have hr:bL (aq l a.dir) a.name=0:=by simpa using h
  have hg1:=hgf a.fid;have hat:=cB l a.fid;cases hff:aj l a.fid with
  | some x=>
   rw[hff] at hg1 hat;simp only[Option.map_some] at hg1;have he:ay l a=13:=by rw[hE];unfold cI;rw[if_pos hd,if_pos hr,hat];simp
   rw[he];refine wG tK ?_ Q0 (by simp[go_sem,hg1,ZN,cond_true,cond_false]);refine wD (λh=>?_) (λh=>?_)
   ·refine wG tK ?_;refine wT ?_;simp
   ·cases h
  | none=>
   rw[hff] at hg1 hat;simp only[Option.map_none] at hg1;refine wG tK ?_ Zd (by simp[go_sem,hg1,cond_true,cond_false]);refine wD (λh=>?_) (λh=>?_)
   ·have h0:a.fid=0:=by simpa using h
    have he:ay l a=13:=by rw[hE];unfold cI;rw[if_pos hd,if_pos hr,hat];simp[h0]
    rw[he];refine wG tK ?_;refine wT ?_;simp
   have h0:a.fid≠0:=by simpa using h
   refine wG tK ?_ Zy (by simp[go_sem,uU,lH hf.ri.up]);refine wD (λh=>?_) (λh=>?_)
   ·have h24:l.length≥24:=by simp at h;omega
    have he:ay l a=5:=by rw[hE];unfold cI;rw[if_pos hd,if_pos hr,hat,if_neg Zi,if_pos h24]
    rw[he];refine wG tK ?_;refine wT ?_;simp
   have h24:¬l.length≥24:=by simp at h;omega
   have he0:cI l a=0:=by unfold cI;rw[if_pos hd,if_pos hr,hat,if_neg Zi,if_neg h24]
   have he:ay l a=0:=by rw[hE,he0]
   have hLL:cg l a v=aD (aD l { ax (aq l a.dir) a.name a.fid with version:=v }) (dv a v):=by rw[hL];unfold dw;rw[if_pos he0]
   have hent:=mr (aq l a.dir) a.name a.fid z8;rw[fQ hee (dd hr).2] at hent;have hp1:br (bB l) (aq l a.dir).fid { ax (aq l a.dir) a.name a.fid with version:=v }=bB (aD l { ax (aq l a.dir) a.name a.fid with version:=v }):=fN hf.ri.up { ax (aq l a.dir) a.name a.fid with version:=v };have hw1:=ic (bB l) { ax (aq l a.dir) a.name a.fid with version:=v } (bp l);rw[show ({ ax (aq l a.dir) a.name a.fid with version:=v }:Node).fid=(aq l a.dir).fid from rfl,hp1] at hw1;have hw2:=ic (bB (aD l { ax (aq l a.dir) a.name a.fid with version:=v })) (dv a v) (bp _);rw[fN (bj hf.ri.up _).1] at hw2;rw[he,if_pos rfl,hLL];unfold ZN at hent hw1 hw2;simp only[dv] at hw2;refine wG tK ?_;refine ZW ZM ?_;refine ZS rfl ?_;refine sN tK 7 ?_;refine sC Tryz.func127 (hf:=(hent)) (hk:=?_);refine sC Tryz.func123 (hf:=(eH (ax (aq l a.dir) a.name a.fid) v)) (hk:=?_);refine sC Tryz.func126 (hf:=(hw1)) (hk:=?_);refine sN tK 6 ?_;refine sB tK ?_;refine sC Tryz.func123 (hf:=Zk) (hk:=?_);refine sC Tryz.func126 (hf:=(hw2)) (hk:=?_);refine sN tK 2 ?_;refine sE ?_;refine wKd ?_;refine wG tK ?_;refine wT ?_;rfl
 refine wDF (hb:=(by simp[k2])) (hk:=?_);refine wG tK ?_;have hkE:ay l a=if a.kind=3 then eE l a else if a.kind=4 then cD l a else if a.kind=5 then bw l a else 1:=by unfold ay;rw[if_neg k1,if_neg k2]
 have hkL:cg l a v=if a.kind=3 then ea l a v else if a.kind=4 then cE l a v else if a.kind=5 then fR l a v else l:=by unfold cg;rw[if_neg k1,if_neg k2]
 by_cases k3:a.kind=3
 ·have hE:ay l a=eE l a:=by rw[hkE,if_pos k3]
  have hL:cg l a v=ea l a v:=by rw[hkL,if_pos k3]
  refine wDT (hb:=(by simp[k3])) (hk:=?_);have hg1:=hgf a.fid;cases hff:aj l a.fid with
  | none=>
   rw[hff] at hg1;simp only[Option.map_none] at hg1;have he:ay l a=12:=by rw[hE];unfold eE;rw[hff]
   rw[he];refine wG tK ?_ p4 Qj;refine wD (λh=>?_) (λh=>?_)
   ·refine wG tK ?_;refine wT ?_;simp
   ·cases h
  | some x=>
   rw[hff] at hg1;simp only[Option.map_some] at hg1;have hgn:aq l a.fid=x:=by unfold aq;rw[hff];rfl
   have hsE:eE l a=if x.dir then 9 else if a.data.length>20 then 4 else 0:=by unfold eE;rw[hff]
   refine wG tK ?_ u0 p8;refine wD (λh=>?_) (λh=>?_)
   ·cases h
   refine wG tK ?_;refine wD (λh=>?_) (λh=>?_)
   ·have hd:x.dir=true:=by simpa using h
    have he:ay l a=9:=by rw[hE,hsE,if_pos hd]
    rw[he];refine wG tK ?_;refine wT ?_;simp
   have hd:x.dir=false:=by simpa using h
   refine wG tK ?_;refine wD (λh=>?_) (λh=>?_)
   ·have h20:a.data.length>20:=by simp at h;omega
    have he:ay l a=4:=by rw[hE,hsE,if_neg (by simp[hd]),if_pos h20]
    rw[he];refine wG tK ?_;refine wT ?_;simp
   have h20:¬a.data.length>20:=by simp at h;omega
   have he0:eE l a=0:=by rw[hsE,if_neg (by simp[hd]),if_neg h20]
   have he:ay l a=0:=by rw[hE,he0]
   have hLL:cg l a v=aD l { x with data:=a.data,version:=v }:=by rw[hL];unfold ea;rw[if_pos he0,hgn]
   have hw1:=ic (bB l) { x with data:=a.data,version:=v } (bp l);rw[fN hf.ri.up] at hw1;unfold ZN at hw1;rw[he,if_pos rfl,hLL];refine wG tK ?_;refine wC Tryz.func123 (hf:=(eH { x with data:=a.data } v)) (hk:=?_);refine wC Tryz.func126 (hf:=(hw1)) (hk:=?_);refine wG tK ?_;refine wT ?_;rfl
 refine wDF (hb:=(by simp[k3])) (hk:=?_);rw[if_neg k3] at hkE hkL;refine wG tK ?_;have hen:=iv (aq l a.dir) a.name z8;rw[dU hee] at hen;have hg1:=hgf a.fid
 by_cases k4:a.kind=4
 ·have hE:ay l a=cD l a:=by rw[hkE,if_pos k4]
  have hL:cg l a v=cE l a v:=by rw[hkL,if_pos k4]
  have hN:bu l a≠0->ay l a=bu l a:=λh=>by rw[hE];unfold cD;rw[if_neg h]
  refine wDT (hb:=(by simp[k4])) (hk:=?_);refine wG tK ?_;refine wDT (hb:=(by simp[k4])) (hk:=?_);refine wG tK ?_;refine wC Tryz.func124 (hf:=(hdir2)) (hk:=?_);refine wG tK ?_;refine wD (λh=>?_) (λh=>?_)
  ·have hd:ej l a.dir≠0:=by simpa using h
   have hne:bu l a=ej l a.dir:=by unfold bu;rw[if_neg hd]
   rw[hN (by rw[hne];exact hd),hne,if_neg hd];refine wG tK ?_;refine wT ?_;rfl
  have hd:ej l a.dir=0:=by simpa using h
  have hlv:=mu (aq l a.dir) a.name z8;have hw1:=ic (bB l) { az (aq l a.dir) a.name with version:=v } (bp l);rw[fN hf.ri.up] at hw1;unfold ZN at hw1 hlv hen;refine wG tK ?_;cases hent:a_ (aq l a.dir) a.name with
  | none=>
   rw[hent] at hen;have hne:bu l a=6:=by unfold bu;rw[if_pos hd,hent]
   rw[hN WV,hne];refine wC Tryz.func50 (hf:=(hen)) (hk:=?_);refine wG tK ?_;refine wD (λh=>?_) (λh=>?_)
   ·refine wG tK ?_;refine wT ?_;simp
   ·cases h
  | some f=>
  rw[hent] at hen;refine wC Tryz.func50 (hf:=(hen)) (hk:=?_);refine wG tK ?_;refine wD (λh=>?_) (λh=>?_)
  ·cases h
  refine wG tK ?_;refine wD (λh=>?_) (λh=>?_)
  ·have hff:f≠a.fid:=by simpa using h
   have hne:bu l a=13:=by unfold bu;rw[if_pos hd,hent];simp[hff]
   rw[hN WV,hne];refine wG tK ?_;refine wT ?_;simp
  have hff:f=a.fid:=by simpa using h
  subst hff;have hn0:bu l a=0:=by unfold bu;rw[if_pos hd,hent];simp
  cases hff:aj l a.fid with
  | none=>
   rw[hff] at hg1;simp only[Option.map_none] at hg1;have he:ay l a=12:=by rw[hE];unfold cD;rw[if_pos hn0,hff]
   rw[he];refine wG tK ?_ p4 Qj;refine wDT (hb:=(by simp[k4])) (hk:=?_);refine wG tK ?_;refine wD (λh=>?_) (λh=>?_)
   ·refine wG tK ?_;refine wT ?_;simp
   ·cases h
  | some x=>
   rw[hff] at hg1;simp only[Option.map_some] at hg1;have hrE:cD l a=if x.entries.length>0 then 10 else 0:=by unfold cD;rw[if_pos hn0,hff]
   refine wG tK ?_ u0 p8;refine wDT (hb:=(by simp[k4])) (hk:=?_);refine wG tK ?_;refine wD (λh=>?_) (λh=>?_)
   ·cases h
   refine wG tK ?_;refine wD (λh=>?_) (λh=>?_)
   ·have hx:x.entries.length>0:=by simp at h;omega
    have he:ay l a=10:=by rw[hE,hrE,if_pos hx]
    rw[he];refine wG tK ?_;refine wT ?_;simp
   have hx:¬x.entries.length>0:=by simp at h;simp[h]
   have he0:cD l a=0:=by rw[hrE,if_neg hx]
   have he:ay l a=0:=by rw[hE,he0]
   have hLL:cg l a v=ep (aD l { az (aq l a.dir) a.name with version:=v }) a.fid:=by rw[hL];unfold cE;rw[if_pos he0]
   rw[he,if_pos rfl,hLL];have hw2:=Ah (bB (aD l { az (aq l a.dir) a.name with version:=v })) a.fid (bp _);rw[Dm (bj hf.ri.up _).1] at hw2;refine wG tK ?_;refine ZW ZM ?_;refine ZS rfl ?_;refine sN tK 5 ?_;refine sC Tryz.func128 (hf:=(hlv)) (hk:=?_);refine sC Tryz.func123 (hf:=(eH (az (aq l a.dir) a.name) v)) (hk:=?_);refine sC Tryz.func126 (hf:=(hw1)) (hk:=?_);refine sN tK 2 ?_;refine sC Tryz.func129 (hf:=(hw2)) (hk:=?_);refine sN tK 2 ?_;refine sE ?_;refine wKd ?_;refine wG tK ?_;refine wT ?_;rfl
 refine wDF (hb:=(by simp[k4])) (hk:=?_);refine wG tK ?_;rw[if_neg k4] at hkE hkL
 by_cases k5:a.kind=5
 ·have hE:ay l a=bw l a:=by rw[hkE,if_pos k5]
  have hL:cg l a v=fR l a v:=by rw[hkL,if_pos k5]
  have hN:bu l a≠0->ay l a=bu l a:=λh=>by rw[hE];unfold bw;rw[if_neg h]
  refine wDT (hb:=(by simp[k5])) (hk:=?_);refine wG tK ?_;refine wC Tryz.func124 (hf:=(hdir2)) (hk:=?_);refine wG tK ?_;refine wD (λh=>?_) (λh=>?_)
  ·have hd:ej l a.dir≠0:=by simpa using h
   have hne:bu l a=ej l a.dir:=by unfold bu;rw[if_neg hd]
   rw[hN (by rw[hne];exact hd),hne,if_neg hd];refine wG tK ?_;refine wT ?_;rfl
  have hd:ej l a.dir=0:=by simpa using h
  have hlv:=mu (aq l a.dir) a.name z8;have hw1:=ic (bB l) { az (aq l a.dir) a.name with version:=v } (bp l);rw[fN hf.ri.up] at hw1;unfold ZN at hw1 hlv hen;refine wG tK ?_;cases hent:a_ (aq l a.dir) a.name with
  | none=>
   rw[hent] at hen;have hne:bu l a=6:=by unfold bu;rw[if_pos hd,hent]
   rw[hN WV,hne];refine wC Tryz.func50 (hf:=(hen)) (hk:=?_);refine wG tK ?_;refine wD (λh=>?_) (λh=>?_)
   ·refine wG tK ?_;refine wT ?_;simp
   ·cases h
  | some f=>
  rw[hent] at hen;refine wC Tryz.func50 (hf:=(hen)) (hk:=?_);refine wG tK ?_;refine wD (λh=>?_) (λh=>?_)
  ·cases h
  refine wG tK ?_;refine wD (λh=>?_) (λh=>?_)
  ·have hff:f≠a.fid:=by simpa using h
   have hne:bu l a=13:=by unfold bu;rw[if_pos hd,hent];simp[hff]
   rw[hN WV,hne];refine wG tK ?_;refine wT ?_;simp
  have hff:f=a.fid:=by simpa using h
  subst hff;have hn0:bu l a=0:=by unfold bu;rw[if_pos hd,hent];simp
  have hdt:=AG l a.to hf.ri.up;unfold ZN at hdt;have htE:=hf.ri.to a;have htl:(toN l a).entries.length≤9999990:=by
   unfold toN;split
   ·have:=rH (aq l a.dir).entries a.name
    show (cW (aq l a.dir).entries a.name).length≤_
    omega
   ·exact hf.find a.to
  have hlt:=mu (aq l a.to) a.name (by have:=hf.find a.to;omega);unfold ZN at hlt;have hrm:=rX (toN l a) a.toName htE z8 hf.toName;unfold ZN at hrm;have hat:=cB l a.fid;cases hff:aj l a.fid with
  | none=>
   rw[hff] at hg1 hat;simp only[Option.map_none] at hg1;refine wG tK ?_ p4 Qj;refine wDF (hb:=(by simp[k5])) (hk:=?_);refine wG tK ?_;refine wC Tryz.func124 (hf:=(hdt)) (hk:=?_);refine wG tK ?_;refine wD (λh=>?_) (λh=>?_)
   ·have hd2:ej l a.to≠0:=by simpa using h
    have he:ay l a=ej l a.to:=by rw[hE];unfold bw;rw[if_pos hn0,if_neg hd2]
    rw[he,if_neg hd2];refine wG tK ?_;refine wT ?_;rfl
   have hd2:ej l a.to=0:=by simpa using h
   refine wG tK ?_
   by_cases hsd:a.to=a.dir
   ·rw[show toN l a=az (aq l a.to) a.name from by unfold toN;rw[if_pos hsd,hsd]] at hrm;refine wDT (hb:=WY) (hk:=?_);refine wG tK ?_;refine wC Tryz.func128 (hf:=(hlt)) (hk:=?_);refine wG tK ?_;refine wC Tryz.func125 (hf:=(hrm)) (hk:=?_);refine wG tK ?_;refine wD (λh=>?_) (λh=>?_)
    ·have hr:bL (toN l a) a.toName≠0:=by first | (rw[hT];simpa using h) | (simpa[toN,hsd] using h)
     have he:ay l a=bL (toN l a) a.toName:=by rw[hE];unfold bw;rw[if_pos hn0,if_pos hd2,if_neg hr]
     rw[he,if_neg hr];refine wG tK ?_;refine wT ?_;simp[toN,hsd]
    have hr:bL (toN l a) a.toName=0:=by first | (rw[hT];simpa using h) | (simpa[toN,hsd] using h)
    have he:ay l a=12:=by rw[hE];unfold bw;rw[if_pos hn0,if_pos hd2,if_pos hr,hat];simp
    rw[he];refine wG tK ?_;refine wD (λh=>?_) (λh=>?_)
    ·refine wG tK ?_;refine wT ?_;simp
    ·cases h
   ·rw[show toN l a=aq l a.to from by unfold toN;rw[if_neg hsd]] at hrm;refine wDF (hb:=WY) (hk:=?_);refine wG tK ?_;refine wC Tryz.func125 (hf:=(hrm)) (hk:=?_);refine wG tK ?_;refine wD (λh=>?_) (λh=>?_)
    ·have hr:bL (toN l a) a.toName≠0:=by first | (rw[hT];simpa using h) | (simpa[toN,hsd] using h)
     have he:ay l a=bL (toN l a) a.toName:=by rw[hE];unfold bw;rw[if_pos hn0,if_pos hd2,if_neg hr]
     rw[he,if_neg hr];refine wG tK ?_;refine wT ?_;simp[toN,hsd]
    have hr:bL (toN l a) a.toName=0:=by first | (rw[hT];simpa using h) | (simpa[toN,hsd] using h)
    have he:ay l a=12:=by rw[hE];unfold bw;rw[if_pos hn0,if_pos hd2,if_pos hr,hat];simp
    rw[he];refine wG tK ?_;refine wD (λh=>?_) (λh=>?_)
    ·refine wG tK ?_;refine wT ?_;simp
    ·cases h
  | some x=>
   rw[hff] at hg1 hat;simp only[Option.map_some] at hg1;have hwi:=zz (bB l) a.to a.fid hf.all;refine wG tK ?_ u0 p8;refine wDF (hb:=(by simp[k5])) (hk:=?_);refine wG tK ?_;refine wC Tryz.func124 (hf:=(hdt)) (hk:=?_);refine wG tK ?_;refine wD (λh=>?_) (λh=>?_)
   ·have hd2:ej l a.to≠0:=by simpa using h
    have he:ay l a=ej l a.to:=by rw[hE];unfold bw;rw[if_pos hn0,if_neg hd2]
    rw[he,if_neg hd2];refine wG tK ?_;refine wT ?_;rfl
   have hd2:ej l a.to=0:=by simpa using h
   refine wG tK ?_
   by_cases hsd:a.to=a.dir
   ·have hT:toN l a=az (aq l a.to) a.name:=by unfold toN;rw[if_pos hsd,hsd]
    rw[hT] at hrm;refine wDT (hb:=WY) (hk:=?_);refine wG tK ?_;refine wC Tryz.func128 (hf:=(hlt)) (hk:=?_);refine wG tK ?_;refine wC Tryz.func125 (hf:=(hrm)) (hk:=?_);refine wG tK ?_;refine wD (λh=>?_) (λh=>?_)
    ·have hr:bL (toN l a) a.toName≠0:=by first | (rw[hT];simpa using h) | (simpa[toN,hsd] using h)
     have he:ay l a=bL (toN l a) a.toName:=by rw[hE];unfold bw;rw[if_pos hn0,if_pos hd2,if_neg hr]
     rw[he,if_neg hr];refine wG tK ?_;refine wT ?_;simp[toN,hsd]
    have hr:bL (toN l a) a.toName=0:=by first | (rw[hT];simpa using h) | (simpa[toN,hsd] using h)
    refine wG tK ?_;refine wD (λh=>?_) (λh=>?_)
    ·cases h
    refine wG tK ?_;refine wC Tryz.func130 (hf:=(hwi)) (hk:=?_);refine wG tK ?_;refine wD (λh=>?_) (λh=>?_)
    ·have he:ay l a=11:=by rw[hE];unfold bw;rw[if_pos hn0,if_pos hd2,if_pos hr,hat,if_pos (show (some x).isSome=true from rfl),if_pos h]
     rw[he];refine wG tK ?_;refine wT ?_;simp
    have he0:bw l a=0:=by unfold bw;rw[if_pos hn0,if_pos hd2,if_pos hr,hat,if_pos (show (some x).isSome=true from rfl),if_neg (by rw[h];simp)]
    have he:ay l a=0:=by rw[hE,he0]
    have hLL:cg l a v=aD (if a.to=a.dir then l else aD l { az (aq l a.dir) a.name with version:=v }) { ax (toN l a) a.toName a.fid with version:=v }:=by rw[hL];unfold fR;rw[if_pos he0]
    refine wG tK ?_;have hent:=mr (az (aq l a.to) a.name) a.toName a.fid (by rw[←hT];omega);rw[fQ (by rw[←hT];exact htE) (by rw[←hT];exact (dd hr).2)] at hent;have hw2:=ic (bB l) { ax (az (aq l a.to) a.name) a.toName a.fid with version:=v } (bp _);rw[fN hf.ri.up] at hw2;unfold ZN at hent hw2;rw[if_pos hsd,hT] at hLL;rw[he,if_pos rfl,hLL];refine wDF (hb:=WY) (hk:=?_);refine wG tK ?_;refine wC Tryz.func127 (hf:=(hent)) (hk:=?_);refine wC Tryz.func123 (hf:=(eH (ax (az (aq l a.to) a.name) a.toName a.fid) v)) (hk:=?_);refine wC Tryz.func126 (hf:=(hw2)) (hk:=?_);refine wG tK ?_;refine wT ?_;rfl
   ·have hT:toN l a=aq l a.to:=by unfold toN;rw[if_neg hsd]
    rw[hT] at hrm;refine wDF (hb:=WY) (hk:=?_);refine wG tK ?_;refine wC Tryz.func125 (hf:=(hrm)) (hk:=?_);refine wG tK ?_;refine wD (λh=>?_) (λh=>?_)
    ·have hr:bL (toN l a) a.toName≠0:=by first | (rw[hT];simpa using h) | (simpa[toN,hsd] using h)
     have he:ay l a=bL (toN l a) a.toName:=by rw[hE];unfold bw;rw[if_pos hn0,if_pos hd2,if_neg hr]
     rw[he,if_neg hr];refine wG tK ?_;refine wT ?_;simp[toN,hsd]
    have hr:bL (toN l a) a.toName=0:=by first | (rw[hT];simpa using h) | (simpa[toN,hsd] using h)
    refine wG tK ?_;refine wD (λh=>?_) (λh=>?_)
    ·cases h
    refine wG tK ?_;refine wC Tryz.func130 (hf:=(hwi)) (hk:=?_);refine wG tK ?_;refine wD (λh=>?_) (λh=>?_)
    ·have he:ay l a=11:=by rw[hE];unfold bw;rw[if_pos hn0,if_pos hd2,if_pos hr,hat,if_pos (show (some x).isSome=true from rfl),if_pos h]
     rw[he];refine wG tK ?_;refine wT ?_;simp
    have he0:bw l a=0:=by unfold bw;rw[if_pos hn0,if_pos hd2,if_pos hr,hat,if_pos (show (some x).isSome=true from rfl),if_neg (by rw[h];simp)]
    have he:ay l a=0:=by rw[hE,he0]
    have hLL:cg l a v=aD (if a.to=a.dir then l else aD l { az (aq l a.dir) a.name with version:=v }) { ax (toN l a) a.toName a.fid with version:=v }:=by rw[hL];unfold fR;rw[if_pos he0]
    refine wG tK ?_;have hent:=mr (aq l a.to) a.toName a.fid (by rw[←hT];omega);rw[fQ (by rw[←hT];exact htE) (by rw[←hT];exact (dd hr).2)] at hent;have hw2:=ic (bB (aD l { az (aq l a.dir) a.name with version:=v })) { ax (aq l a.to) a.toName a.fid with version:=v } (bp _);rw[fN (bj hf.ri.up _).1] at hw2;unfold ZN at hent hw2;rw[if_neg hsd,hT] at hLL;rw[he,if_pos rfl,hLL];refine wDT (hb:=(by simpa using hsd)) (hk:=?_);refine wG tK ?_;refine wC Tryz.func128 (hf:=(hlv)) (hk:=?_);refine wC Tryz.func123 (hf:=(eH (az (aq l a.dir) a.name) v)) (hk:=?_);refine wC Tryz.func126 (hf:=(hw1)) (hk:=?_);refine wG tK ?_;refine wC Tryz.func127 (hf:=(hent)) (hk:=?_);refine wC Tryz.func123 (hf:=(eH (ax (aq l a.to) a.toName a.fid) v)) (hk:=?_);refine wC Tryz.func126 (hf:=(hw2)) (hk:=?_);refine wG tK ?_;refine wT ?_;rfl
 refine wDF (hb:=(by simp[k5])) (hk:=?_);have he:ay l a=1:=by rw[hkE,if_neg k5]
 rw[he];refine wG tK ?_;refine wT ?_;simp
end La
