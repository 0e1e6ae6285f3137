/- Texts of this claim, part 7: RApply. No condition. -/
import Derived.Test.YtmcfbfdonjllaaaGreatDoorZR6
set_option maxRecDepth 10000
set_option maxHeartbeats 4000000
set_option linter.unusedSimpArgs false
set_option linter.unusedVariables false
namespace La
open Go Go.Eng Go.Proofs Go.Proofs.Tryz
theorem F7 (a b:List UInt8):(!(Op.bytesLess a b||a==b))=Op.bytesLess b a:=by
 rw[gn,gn,Yu];simp only[Yb,Bool.or_eq_false_iff,decide_eq_false_iff_not,beq_eq_false_iff_ne,ne_eq,decide_eq_true_eq];constructor
 ·rintro ⟨h1,h2⟩
  by_cases h3:b<a
  ·exact h3
  ·exact absurd (JR h1 h3) h2
 ·intro h;exact ⟨λh1=>uJ _ (yz h h1),λh1=>by subst h1;exact uJ _ h⟩
theorem wB (l:List UInt8):Eng.jb (l.map ZY)=l.map ZY:=by
 rw[dV,Yf];exact Yj λx _=>rfl
theorem Ap (l:List Entry):Eng.jb (l.map ZE)=l.map ZE:=by
 rw[dV,Yf];exact Yj λx _=>rfl
theorem nJ (n:Node) (s:List UInt8) (f:Int) (hn:n.entries.length<=10000000):Fo 131 [.agg (ZN n),.str s,.int .i64 f] (.agg (ZN (sL n s f))):=by
 have hle:=nK n s z8;have hll:(cT n.entries s).length<=n.entries.length:=W8 _ _;unfold sL sK;unfold yj at hle;generalize cT n.entries s=es at *;have hz:kr s f (es.take es.length)=kr s f es:=by rw[W4]
 unfold ZN at hle ⊢;simp only at hle ⊢;rw[<-hz];refine wSG func131 ntmps131 results131 λC=>?_
 refine wCg ?_ func132 (hf:=hle);refine af (le_empty 38 96 2 z7) (wn ?_);refine wL es.length (λi=>(7,.osl 38 2 0 (kr s f (es.take i)).2.length)::(8,.bool (kr s f (es.take i)).1)::(10,.any)::(17,.int .i64 i)::u0 18 22 []) (λi=>[(38,.cells 96 2 ((kr s f (es.take i)).2.map ZE))]) ?_ λi hi=>?_
 ·simp only[go_sem];exact ZU (by simp[go_sem,kr]) (by simp[go_sem,kr]) w3
 simp only[go_sem];refine wGD (λh=>?_) (λh=>?_)
 ·have hlt:=lt1 h;have hg:=Fam.getD (f:=ZE) hlt;have hw:=wi1 (i:=i) z8;have htk:kr s f (es.take (i+1))=mz s f (kr s f (es.take i)) (es.getD i default):=by rw[ZT hlt,DL]
  have hl2:=za s f (es.take i);rw[YA] at hl2;generalize es.getD i default=e at *;generalize kr s f (es.take i)=q at *;unfold mz at htk;have hgt:=F7 e.name s;refine wGq ?_ ?_ s6
  ·simp[hg,ZE,hlt]
  cases hb:(!q.1&&Op.bytesLess s e.name) with
  | true=>
   rw[hb,if_pos rfl] at htk;refine wDT ?_ (hb:=by rw[hgt];simpa[cZ] using hb);have htq:List.take q.2.length (q.2.map ZE)=q.2.map ZE:=W1 w8;have htq2:List.take (q.2.length+1) (q.2.map ZE++[[AV.str s,AV.int .i64 f]])=q.2.map ZE++[[AV.str s,AV.int .i64 f]]:=W1 w8;refine wGq ?_ ?_ w4
   ·simp[rowsOf,refs,htq,htq2];exact ⟨by omega,by omega,λx _ y hy=>by simp only[ZE,List.mem_cons,List.not_mem_nil,or_false] at hy;rcases hy with rfl | rfl<;>simp[refs]⟩
   exact ZB ⟨i+1,by omega,by omega,ZU j7 (by simp[go_sem,htk,htq2,ZE]) w3⟩
  | false=>
   rw[hb,if_neg Bool.false_ne_true] at htk;have htq:List.take q.2.length (q.2.map ZE)=q.2.map ZE:=W1 w8;refine wDF ?_ (hb:=by rw[hgt];simpa[cZ] using hb);refine wGq ?_ ?_ w4
   ·simp[rowsOf,refs,htq];omega
   exact ZB ⟨i+1,by omega,by omega,ZU j7 (by simp[go_sem,htk,ZE]) w3⟩
 ·obtain rfl:=eq1 hi h;have hl2:=za s f (es.take es.length);rw[YA] at hl2;rw[hz] at hl2 ⊢;clear hz;generalize kr s f es=q at *;have htq:List.take q.2.length (q.2.map ZE)=q.2.map ZE:=W1 w8;refine wGD (λh=>?_) (λh=>?_)
  ·have hq:q.1=false:=by simpa using h
   rw[if_neg (by simp[hq])];refine wGq ?_ ?_
   ·simp[rowsOf,refs,htq];omega
   rw[show q.2.map ZE++[[AV.str s,AV.int .i64 f]]=(q.2++[(⟨s,f⟩:Entry)]).map ZE by simp[ZE]];refine ZZ 47 rfl (dB _) (wn ?_);refine wT ?_;simp[ZE];exact W1 w8
  ·have hq:q.1=true:=by simpa using h
   rw[if_pos hq];refine wG ?_;refine ZZ 38 rfl (dB _) (wn ?_);refine wT ?_;simp
theorem fc (n:Node) (v:Int):Fo 127 [.agg (ZN n),.rp [.int .i64 v] 0] (.agg (ZN { n with version:=v })):=by
 unfold ZN;refine wS func127 ntmps127 results127 λC=>?_
 refine wGT ?_;rfl
theorem GV (l:List Node) (k:Int) (hu:Up l):aj prog 128 [.rm (mN (bQ l)),.int .i64 k] [] (λr _=>Eng.nrm r=.tup [.agg (ZN (ar l k)),.int .i64 (eM l k)]):=by
 have hg:br (mN (bQ l)) k=(ak l k).map λn=>AV.agg (ZN n):=by rw[iJ,cM hu]
 unfold ar eM;refine wS func128 ntmps128 results128 λC=>?_
 cases e:ak l k with
 | none=>
  rw[e] at hg;simp only[Option.map_none] at hg;refine wG ?_ u5 (by simp[go_sem,hg]);refine wD (λh=>?_) (λh=>?_)
  ·refine wGT ?_;rfl
  ·cases h
 | some n=>
  rw[e] at hg;simp only[Option.map_some] at hg;refine wG ?_ u9 (by simp[go_sem,hg,ZN]);refine wD (λh=>?_) (λh=>?_)
  ·cases h
  refine wGD (λh=>?_) (λh=>?_)
  ·have hd:n.dir=false:=by simpa using h
   refine wGT ?_;simp[hd,Eng.nrm,Eng.fq,ZN,wB,Ap]
  ·have hd:n.dir=true:=by simpa using h
   refine wGT ?_;simp[hd,Eng.nrm,Eng.fq,ZN,wB,Ap]
theorem De (l:List Node) (k:Int) (hu:Up l):Fo 128 [.rm (mN (bQ l)),.int .i64 k] (.tup [.agg (ZN (ar l k)),.int .i64 (eM l k)]):=xJ (GV l k hu)
theorem BG (n:Node) (s:List UInt8):isE n.entries s=(ba n s).isSome:=by
 unfold ba;split
 ·rename_i h;rw[h];rfl
 ·rename_i h;simpa using h
theorem uB (n:Node) (s:List UInt8) (he:EUp n.entries) (hn:n.entries.length<=100000000) (hs:s.length<=100000000):Fo 129 [.agg (ZN n),.str s] (.int .i64 (cf n s)):=by
 have h1:=js n s hn;rw[ew he] at h1;have hi:=BG n s;unfold cf;unfold ZN at h1 ⊢;have hnm:=AG s hs;generalize cH s=nb at hnm ⊢;refine wSG func129 ntmps129 results129 λC=>?_
 cases e:ba n s with
 | some f=>
  rw[e] at h1 hi;refine wCg ?_ func91 (hf:=h1);refine wCC ?_ func49 (hf:=λhb=>(hnm));refine wGD (λh=>?_) (λh=>?_)
  ·refine wGT ?_;simp[hi]
  ·simp at h
 | none=>
  rw[e] at h1 hi;refine wCg ?_ func91 (hf:=h1);refine wCC ?_ func49 (hf:=λhb=>(hnm));cases nb with
  | false=>
   refine wGD (λh=>?_) (λh=>?_)
   ·refine wGT ?_;simp
   ·simp at h
  | true=>
   refine wGD (λh=>?_) (λh=>?_)
   ·simp at h
   refine wGD (λh=>?_) (λh=>?_)
   ·have:6<=n.entries.length:=by simp at h;omega
    refine wGT ?_;simp[hi,this]
   ·have:¬6<=n.entries.length:=by simp at h;omega
    refine wGT ?_;simp[hi,this]
structure RFit (l:List Node) (a:Act):Prop where
 ri:Ri l
 ent:∀n,n∈l->n.entries.length<=9999990
 len:l.length<=100000000
 all:(oT (bQ l)).length<=90000000
 name:a.name.length<=100000000
 toName:a.toName.length<=100000000
 data:a.data.length<=100000000
theorem RFit.find {l:List Node} {a:Act} (h:RFit l a) (k:Int):(ar l k).entries.length<=9999990:=by
 unfold ar;cases e:ak l k with
 | none=>simp[ax]
 | some n=>exact h.ent n ((ZO h.ri.up).1 e).1
open Classical in
theorem Er (l:List Node) (a:Act) (v:Int) (hf:RFit l a):Fo 95 [.rm (mN (bQ l)),.agg (ZA a),.int .i64 v] (yh l a v):=by
 have hgf:∀k,br (mN (bQ l)) k=(ak l k).map λn=>AV.agg (ZN n):=λk=>by rw[iJ,cM hf.ri.up]
 have hdir:=De l a.dir hf.ri.up;have hdir2:=hdir;unfold ZN at hdir2;have hee:=hf.ri.find a.dir;have hel:=hf.find a.dir;unfold yh;refine wS func95 ntmps95 results95 λC=>?_
 refine wR ?_;refine wN 2 ?_ z6 z6 QY (by simp[go_sem,ZA]);refine ZZ 4 rfl (rfl) ?_;refine ZZ 5 rfl (rfl) (wn ?_);refine wG ?_
 by_cases k1:a.kind=1
 ·have hE:aD l a=da l a:=by unfold aD;rw[if_pos k1]
  have hL:cz l a v=dY l a v:=by unfold cz;rw[if_pos k1]
  refine wTG ?_ (hb:=by simp[k1]);refine wTG ?_ (hb:=by simp[k1]);refine wC ?_ func128 (hf:=hdir2);refine wGD (λh=>?_) (λh=>?_)
  ·have hd:eM l a.dir≠0:=by simpa using h
   have he:aD l a=eM l a.dir:=by rw[hE];unfold da;rw[if_neg hd]
   rw[he,if_neg hd];refine wGT ?_;rfl
  have hd:eM l a.dir=0:=by simpa using h
  refine wG ?_;refine wC ?_ func129 (hf:=uB (ar l a.dir) a.name hee z8 hf.name);refine wGD (λh=>?_) (λh=>?_)
  ·have hr:cf (ar l a.dir) a.name≠0:=by simpa using h
   have he:aD l a=cf (ar l a.dir) a.name:=by rw[hE];unfold da;rw[if_pos hd,if_neg hr]
   rw[he,if_neg hr];refine wGT ?_;rfl
  have hr:cf (ar l a.dir) a.name=0:=by simpa using h
  have hg1:=hgf a.fid;have hat:=cS l a.fid;cases hff:ak l a.fid with
  | some x=>
   rw[hff] at hg1 hat;simp only[Option.map_some] at hg1;have he:aD l a=13:=by rw[hE];unfold da;rw[if_pos hd,if_pos hr,hat];simp
   rw[he];refine wG ?_ Zh (by simp[go_sem,hg1,ZN,cond_true,cond_false]);refine wD (λh=>?_) (λh=>?_)
   ·refine wGT ?_;simp
   ·cases h
  | none=>
   rw[hff] at hg1 hat;simp only[Option.map_none] at hg1;refine wG ?_ Zv (by simp[go_sem,hg1,cond_true,cond_false]);refine wD (λh=>?_) (λh=>?_)
   ·have h0:a.fid=0:=by simpa using h
    have he:aD l a=13:=by rw[hE];unfold da;rw[if_pos hd,if_pos hr,hat];simp[h0]
    rw[he];refine wGT ?_;simp
   have h0:a.fid≠0:=by simpa using h
   refine wG ?_ WJ (by simp[go_sem,xX,mR hf.ri.up]);refine wD (λh=>?_) (λh=>?_)
   ·have h24:l.length≥24:=by simp at h;omega
    have he:aD l a=5:=by rw[hE];unfold da;rw[if_pos hd,if_pos hr,hat,if_neg Q3,if_pos h24]
    rw[he];refine wGT ?_;simp
   have h24:¬l.length≥24:=by simp at h;omega
   have he0:da l a=0:=by unfold da;rw[if_pos hd,if_pos hr,hat,if_neg Q3,if_neg h24]
   have he:aD l a=0:=by rw[hE,he0]
   have hLL:cz l a v=aI (aI l { aC (ar l a.dir) a.name a.fid with version:=v }) (dX a v):=by rw[hL];unfold dY;rw[if_pos he0]
   have hent:=nJ (ar l a.dir) a.name a.fid z8;rw[gv hee (dG hr).2] at hent;have hp1:aU (bQ l) (ar l a.dir).fid { aC (ar l a.dir) a.name a.fid with version:=v }=bQ (aI l { aC (ar l a.dir) a.name a.fid with version:=v }):=gp hf.ri.up { aC (ar l a.dir) a.name a.fid with version:=v };have hw1:=jf (bQ l) { aC (ar l a.dir) a.name a.fid with version:=v } (bC l);rw[show ({ aC (ar l a.dir) a.name a.fid with version:=v }:Node).fid=(ar l a.dir).fid from rfl,hp1] at hw1;have hw2:=jf (bQ (aI l { aC (ar l a.dir) a.name a.fid with version:=v })) (dX a v) (bC _);rw[gp (bt hf.ri.up _).1] at hw2;rw[he,if_pos rfl,hLL];unfold ZN at hent hw1 hw2;simp only[dX] at hw2;refine wGS ?_;refine sN 7 ?_;refine sC ?_ func131 (hf:=hent);refine sC ?_ func127 (hf:=fc (aC (ar l a.dir) a.name a.fid) v);refine sC ?_ func130 (hf:=hw1);refine sN 6 ?_;refine sB ?_;refine sC ?_ func127 (hf:=Z2);refine sC ?_ func130 (hf:=hw2);refine sN 2 ?_;refine sE ?_;refine wKd ?_;refine wGT ?_;rfl
 refine wFG ?_ (hb:=by simp[k1])
 by_cases k2:a.kind=2
 ·have hE:aD l a=da l a:=by unfold aD;rw[if_neg k1,if_pos k2]
  have hL:cz l a v=dY l a v:=by unfold cz;rw[if_neg k1,if_pos k2]
  refine wTG ?_ (hb:=by simp[k2]);refine wC ?_ func128 (hf:=hdir2);refine wGD (λh=>?_) (λh=>?_)
  ·have hd:eM l a.dir≠0:=by simpa using h
   have he:aD l a=eM l a.dir:=by rw[hE];unfold da;rw[if_neg hd]
   rw[he,if_neg hd];refine wGT ?_;rfl
  have hd:eM l a.dir=0:=by simpa using h
  refine wG ?_;refine wC ?_ func129 (hf:=uB (ar l a.dir) a.name hee z8 hf.name);refine wGD (λh=>?_) (λh=>?_)
  ·have hr:cf (ar l a.dir) a.name≠0:=by simpa using h
   have he:aD l a=cf (ar l a.dir) a.name:=by rw[hE];unfold da;rw[if_pos hd,if_neg hr]
   rw[he,if_neg hr];refine wGT ?_;rfl
  have hr:cf (ar l a.dir) a.name=0:=by simpa using h
  have hg1:=hgf a.fid;have hat:=cS l a.fid;cases hff:ak l a.fid with
  | some x=>
   rw[hff] at hg1 hat;simp only[Option.map_some] at hg1;have he:aD l a=13:=by rw[hE];unfold da;rw[if_pos hd,if_pos hr,hat];simp
   rw[he];refine wG ?_ Zh (by simp[go_sem,hg1,ZN,cond_true,cond_false]);refine wD (λh=>?_) (λh=>?_)
   ·refine wGT ?_;simp
   ·cases h
  | none=>
   rw[hff] at hg1 hat;simp only[Option.map_none] at hg1;refine wG ?_ Zv (by simp[go_sem,hg1,cond_true,cond_false]);refine wD (λh=>?_) (λh=>?_)
   ·have h0:a.fid=0:=by simpa using h
    have he:aD l a=13:=by rw[hE];unfold da;rw[if_pos hd,if_pos hr,hat];simp[h0]
    rw[he];refine wGT ?_;simp
   have h0:a.fid≠0:=by simpa using h
   refine wG ?_ WJ (by simp[go_sem,xX,mR hf.ri.up]);refine wD (λh=>?_) (λh=>?_)
   ·have h24:l.length≥24:=by simp at h;omega
    have he:aD l a=5:=by rw[hE];unfold da;rw[if_pos hd,if_pos hr,hat,if_neg Q3,if_pos h24]
    rw[he];refine wGT ?_;simp
   have h24:¬l.length≥24:=by simp at h;omega
   have he0:da l a=0:=by unfold da;rw[if_pos hd,if_pos hr,hat,if_neg Q3,if_neg h24]
   have he:aD l a=0:=by rw[hE,he0]
   have hLL:cz l a v=aI (aI l { aC (ar l a.dir) a.name a.fid with version:=v }) (dX a v):=by rw[hL];unfold dY;rw[if_pos he0]
   have hent:=nJ (ar l a.dir) a.name a.fid z8;rw[gv hee (dG hr).2] at hent;have hp1:aU (bQ l) (ar l a.dir).fid { aC (ar l a.dir) a.name a.fid with version:=v }=bQ (aI l { aC (ar l a.dir) a.name a.fid with version:=v }):=gp hf.ri.up { aC (ar l a.dir) a.name a.fid with version:=v };have hw1:=jf (bQ l) { aC (ar l a.dir) a.name a.fid with version:=v } (bC l);rw[show ({ aC (ar l a.dir) a.name a.fid with version:=v }:Node).fid=(ar l a.dir).fid from rfl,hp1] at hw1;have hw2:=jf (bQ (aI l { aC (ar l a.dir) a.name a.fid with version:=v })) (dX a v) (bC _);rw[gp (bt hf.ri.up _).1] at hw2;rw[he,if_pos rfl,hLL];unfold ZN at hent hw1 hw2;simp only[dX] at hw2;refine wGS ?_;refine sN 7 ?_;refine sC ?_ func131 (hf:=hent);refine sC ?_ func127 (hf:=fc (aC (ar l a.dir) a.name a.fid) v);refine sC ?_ func130 (hf:=hw1);refine sN 6 ?_;refine sB ?_;refine sC ?_ func127 (hf:=Z2);refine sC ?_ func130 (hf:=hw2);refine sN 2 ?_;refine sE ?_;refine wKd ?_;refine wGT ?_;rfl
 refine wFG ?_ (hb:=by simp[k2]);have hkE:aD l a=if a.kind=3 then e_ l a else if a.kind=4 then cU l a else if a.kind=5 then bH l a else 1:=by unfold aD;rw[if_neg k1,if_neg k2]
 have hkL:cz l a v=if a.kind=3 then eG l a v else if a.kind=4 then cV l a v else if a.kind=5 then gw l a v else l:=by unfold cz;rw[if_neg k1,if_neg k2]
 by_cases k3:a.kind=3
 ·have hE:aD l a=e_ l a:=by rw[hkE,if_pos k3]
  have hL:cz l a v=eG l a v:=by rw[hkL,if_pos k3]
  refine wDT ?_ (hb:=by simp[k3]);have hg1:=hgf a.fid;cases hff:ak l a.fid with
  | none=>
   rw[hff] at hg1;simp only[Option.map_none] at hg1;have he:aD l a=12:=by rw[hE];unfold e_;rw[hff]
   rw[he];refine wG ?_ p6 Qm;refine wD (λh=>?_) (λh=>?_)
   ·refine wGT ?_;simp
   ·cases h
  | some x=>
   rw[hff] at hg1;simp only[Option.map_some] at hg1;have hgn:ar l a.fid=x:=by unfold ar;rw[hff];rfl
   have hsE:e_ l a=if x.dir then 9 else if a.data.length>20 then 4 else 0:=by unfold e_;rw[hff]
   refine wG ?_ x8 n4;refine wD (λh=>?_) (λh=>?_)
   ·cases h
   refine wGD (λh=>?_) (λh=>?_)
   ·have hd:x.dir=true:=by simpa using h
    have he:aD l a=9:=by rw[hE,hsE,if_pos hd]
    rw[he];refine wGT ?_;simp
   have hd:x.dir=false:=by simpa using h
   refine wGD (λh=>?_) (λh=>?_)
   ·have h20:a.data.length>20:=by simp at h;omega
    have he:aD l a=4:=by rw[hE,hsE,if_neg (by simp[hd]),if_pos h20]
    rw[he];refine wGT ?_;simp
   have h20:¬a.data.length>20:=by simp at h;omega
   have he0:e_ l a=0:=by rw[hsE,if_neg (by simp[hd]),if_neg h20]
   have he:aD l a=0:=by rw[hE,he0]
   have hLL:cz l a v=aI l { x with data:=a.data,version:=v }:=by rw[hL];unfold eG;rw[if_pos he0,hgn]
   have hw1:=jf (bQ l) { x with data:=a.data,version:=v } (bC l);rw[gp hf.ri.up] at hw1;unfold ZN at hw1;rw[he,if_pos rfl,hLL];refine wG ?_;refine wC ?_ func127 (hf:=fc { x with data:=a.data } v);refine wC ?_ func130 (hf:=hw1);refine wGT ?_;rfl
 refine wDF ?_ (hb:=by simp[k3]);rw[if_neg k3] at hkE hkL;refine wG ?_;have hen:=js (ar l a.dir) a.name z8;rw[ew hee] at hen;have hg1:=hgf a.fid
 by_cases k4:a.kind=4
 ·have hE:aD l a=cU l a:=by rw[hkE,if_pos k4]
  have hL:cz l a v=cV l a v:=by rw[hkL,if_pos k4]
  have hN:bG l a≠0->aD l a=bG l a:=λh=>by rw[hE];unfold cU;rw[if_neg h]
  refine wTG ?_ (hb:=by simp[k4]);refine wTG ?_ (hb:=by simp[k4]);refine wC ?_ func128 (hf:=hdir2);refine wGD (λh=>?_) (λh=>?_)
  ·have hd:eM l a.dir≠0:=by simpa using h
   have hne:bG l a=eM l a.dir:=by unfold bG;rw[if_neg hd]
   rw[hN (by rw[hne];exact hd),hne,if_neg hd];refine wGT ?_;rfl
  have hd:eM l a.dir=0:=by simpa using h
  have hlv:=nK (ar l a.dir) a.name z8;have hw1:=jf (bQ l) { aE (ar l a.dir) a.name with version:=v } (bC l);rw[gp hf.ri.up] at hw1;unfold ZN at hw1 hlv hen;refine wG ?_;cases hent:ba (ar l a.dir) a.name with
  | none=>
   rw[hent] at hen;have hne:bG l a=6:=by unfold bG;rw[if_pos hd,hent]
   rw[hN Wt,hne];refine wC ?_ func91 (hf:=hen);refine wGD (λh=>?_) (λh=>?_)
   ·refine wGT ?_;simp
   ·cases h
  | some f=>
  rw[hent] at hen;refine wC ?_ func91 (hf:=hen);refine wGD (λh=>?_) (λh=>?_)
  ·cases h
  refine wGD (λh=>?_) (λh=>?_)
  ·have hff:f≠a.fid:=by simpa using h
   have hne:bG l a=13:=by unfold bG;rw[if_pos hd,hent];simp[hff]
   rw[hN Wt,hne];refine wGT ?_;simp
  have hff:f=a.fid:=by simpa using h
  subst hff;have hn0:bG l a=0:=by unfold bG;rw[if_pos hd,hent];simp
  cases hff:ak l a.fid with
  | none=>
   rw[hff] at hg1;simp only[Option.map_none] at hg1;have he:aD l a=12:=by rw[hE];unfold cU;rw[if_pos hn0,hff]
   rw[he];refine wG ?_ p6 Qm;refine wDT ?_ (hb:=by simp[k4]);refine wGD (λh=>?_) (λh=>?_)
   ·refine wGT ?_;simp
   ·cases h
  | some x=>
   rw[hff] at hg1;simp only[Option.map_some] at hg1;have hrE:cU l a=if x.entries.length>0 then 10 else 0:=by unfold cU;rw[if_pos hn0,hff]
   refine wG ?_ x8 n4;refine wDT ?_ (hb:=by simp[k4]);refine wGD (λh=>?_) (λh=>?_)
   ·cases h
   refine wGD (λh=>?_) (λh=>?_)
   ·have hx:x.entries.length>0:=by simp at h;omega
    have he:aD l a=10:=by rw[hE,hrE,if_pos hx]
    rw[he];refine wGT ?_;simp
   have hx:¬x.entries.length>0:=by simp at h;simp[h]
   have he0:cU l a=0:=by rw[hrE,if_neg hx]
   have he:aD l a=0:=by rw[hE,he0]
   have hLL:cz l a v=eQ (aI l { aE (ar l a.dir) a.name with version:=v }) a.fid:=by rw[hL];unfold cV;rw[if_pos he0]
   rw[he,if_pos rfl,hLL];have hw2:=CG (bQ (aI l { aE (ar l a.dir) a.name with version:=v })) a.fid (bC _);rw[Gx (bt hf.ri.up _).1] at hw2;refine wGS ?_;refine sN 5 ?_;refine sC ?_ func132 (hf:=hlv);refine sC ?_ func127 (hf:=fc (aE (ar l a.dir) a.name) v);refine sC ?_ func130 (hf:=hw1);refine sN 2 ?_;refine sC ?_ func133 (hf:=hw2);refine sN 2 ?_;refine sE ?_;refine wKd ?_;refine wGT ?_;rfl
 refine wFG ?_ (hb:=by simp[k4]);rw[if_neg k4] at hkE hkL
 by_cases k5:a.kind=5
 ·have hE:aD l a=bH l a:=by rw[hkE,if_pos k5]
  have hL:cz l a v=gw l a v:=by rw[hkL,if_pos k5]
  have hN:bG l a≠0->aD l a=bG l a:=λh=>by rw[hE];unfold bH;rw[if_neg h]
  refine wTG ?_ (hb:=by simp[k5]);refine wC ?_ func128 (hf:=hdir2);refine wGD (λh=>?_) (λh=>?_)
  ·have hd:eM l a.dir≠0:=by simpa using h
   have hne:bG l a=eM l a.dir:=by unfold bG;rw[if_neg hd]
   rw[hN (by rw[hne];exact hd),hne,if_neg hd];refine wGT ?_;rfl
  have hd:eM l a.dir=0:=by simpa using h
  have hlv:=nK (ar l a.dir) a.name z8;have hw1:=jf (bQ l) { aE (ar l a.dir) a.name with version:=v } (bC l);rw[gp hf.ri.up] at hw1;unfold ZN at hw1 hlv hen;refine wG ?_;cases hent:ba (ar l a.dir) a.name with
  | none=>
   rw[hent] at hen;have hne:bG l a=6:=by unfold bG;rw[if_pos hd,hent]
   rw[hN Wt,hne];refine wC ?_ func91 (hf:=hen);refine wGD (λh=>?_) (λh=>?_)
   ·refine wGT ?_;simp
   ·cases h
  | some f=>
  rw[hent] at hen;refine wC ?_ func91 (hf:=hen);refine wGD (λh=>?_) (λh=>?_)
  ·cases h
  refine wGD (λh=>?_) (λh=>?_)
  ·have hff:f≠a.fid:=by simpa using h
   have hne:bG l a=13:=by unfold bG;rw[if_pos hd,hent];simp[hff]
   rw[hN Wt,hne];refine wGT ?_;simp
  have hff:f=a.fid:=by simpa using h
  subst hff;have hn0:bG l a=0:=by unfold bG;rw[if_pos hd,hent];simp
  have hdt:=De l a.to hf.ri.up;unfold ZN at hdt;have htE:=hf.ri.to a;have htl:(toN l a).entries.length<=9999990:=by
   unfold toN;split
   ·have:=ud (ar l a.dir).entries a.name
    show (dv (ar l a.dir).entries a.name).length<=_
    omega
   ·exact hf.find a.to
  have hlt:=nK (ar l a.to) a.name (by have:=hf.find a.to;omega);unfold ZN at hlt;have hrm:=uB (toN l a) a.toName htE z8 hf.toName;unfold ZN at hrm;have hat:=cS l a.fid;cases hff:ak l a.fid with
  | none=>
   rw[hff] at hg1 hat;simp only[Option.map_none] at hg1;refine wG ?_ p6 Qm;refine wFG ?_ (hb:=by simp[k5]);refine wC ?_ func128 (hf:=hdt);refine wGD (λh=>?_) (λh=>?_)
   ·have hd2:eM l a.to≠0:=by simpa using h
    have he:aD l a=eM l a.to:=by rw[hE];unfold bH;rw[if_pos hn0,if_neg hd2]
    rw[he,if_neg hd2];refine wGT ?_;rfl
   have hd2:eM l a.to=0:=by simpa using h
   refine wG ?_
   by_cases hsd:a.to=a.dir
   ·rw[show toN l a=aE (ar l a.to) a.name from by unfold toN;rw[if_pos hsd,hsd]] at hrm;refine wTG ?_ (hb:=Ww);refine wCg ?_ func132 (hf:=hlt);refine wC ?_ func129 (hf:=hrm);refine wGD (λh=>?_) (λh=>?_)
    ·have hr:cf (toN l a) a.toName≠0:=by first | (rw[hT];simpa using h) | (simpa[toN,hsd] using h)
     have he:aD l a=cf (toN l a) a.toName:=by rw[hE];unfold bH;rw[if_pos hn0,if_pos hd2,if_neg hr]
     rw[he,if_neg hr];refine wGT ?_;simp[toN,hsd]
    have hr:cf (toN l a) a.toName=0:=by first | (rw[hT];simpa using h) | (simpa[toN,hsd] using h)
    have he:aD l a=12:=by rw[hE];unfold bH;rw[if_pos hn0,if_pos hd2,if_pos hr,hat];simp
    rw[he];refine wGD (λh=>?_) (λh=>?_)
    ·refine wGT ?_;simp
    ·cases h
   ·rw[show toN l a=ar l a.to from by unfold toN;rw[if_neg hsd]] at hrm;refine wFG ?_ (hb:=Ww);refine wC ?_ func129 (hf:=hrm);refine wGD (λh=>?_) (λh=>?_)
    ·have hr:cf (toN l a) a.toName≠0:=by first | (rw[hT];simpa using h) | (simpa[toN,hsd] using h)
     have he:aD l a=cf (toN l a) a.toName:=by rw[hE];unfold bH;rw[if_pos hn0,if_pos hd2,if_neg hr]
     rw[he,if_neg hr];refine wGT ?_;simp[toN,hsd]
    have hr:cf (toN l a) a.toName=0:=by first | (rw[hT];simpa using h) | (simpa[toN,hsd] using h)
    have he:aD l a=12:=by rw[hE];unfold bH;rw[if_pos hn0,if_pos hd2,if_pos hr,hat];simp
    rw[he];refine wGD (λh=>?_) (λh=>?_)
    ·refine wGT ?_;simp
    ·cases h
  | some x=>
   rw[hff] at hg1 hat;simp only[Option.map_some] at hg1;have hwi:=Cf (bQ l) a.to a.fid hf.all;refine wG ?_ x8 n4;refine wFG ?_ (hb:=by simp[k5]);refine wC ?_ func128 (hf:=hdt);refine wGD (λh=>?_) (λh=>?_)
   ·have hd2:eM l a.to≠0:=by simpa using h
    have he:aD l a=eM l a.to:=by rw[hE];unfold bH;rw[if_pos hn0,if_neg hd2]
    rw[he,if_neg hd2];refine wGT ?_;rfl
   have hd2:eM l a.to=0:=by simpa using h
   refine wG ?_
   by_cases hsd:a.to=a.dir
   ·have hT:toN l a=aE (ar l a.to) a.name:=by unfold toN;rw[if_pos hsd,hsd]
    rw[hT] at hrm;refine wTG ?_ (hb:=Ww);refine wCg ?_ func132 (hf:=hlt);refine wC ?_ func129 (hf:=hrm);refine wGD (λh=>?_) (λh=>?_)
    ·have hr:cf (toN l a) a.toName≠0:=by first | (rw[hT];simpa using h) | (simpa[toN,hsd] using h)
     have he:aD l a=cf (toN l a) a.toName:=by rw[hE];unfold bH;rw[if_pos hn0,if_pos hd2,if_neg hr]
     rw[he,if_neg hr];refine wGT ?_;simp[toN,hsd]
    have hr:cf (toN l a) a.toName=0:=by first | (rw[hT];simpa using h) | (simpa[toN,hsd] using h)
    refine wGD (λh=>?_) (λh=>?_)
    ·cases h
    refine wG ?_;refine wC ?_ func50 (hf:=hwi);refine wGD (λh=>?_) (λh=>?_)
    ·have he:aD l a=11:=by rw[hE];unfold bH;rw[if_pos hn0,if_pos hd2,if_pos hr,hat,if_pos (show (some x).isSome=true from rfl),if_pos h]
     rw[he];refine wGT ?_;simp
    have he0:bH l a=0:=by unfold bH;rw[if_pos hn0,if_pos hd2,if_pos hr,hat,if_pos (show (some x).isSome=true from rfl),if_neg (by rw[h];simp)]
    have he:aD l a=0:=by rw[hE,he0]
    have hLL:cz l a v=aI (if a.to=a.dir then l else aI l { aE (ar l a.dir) a.name with version:=v }) { aC (toN l a) a.toName a.fid with version:=v }:=by rw[hL];unfold gw;rw[if_pos he0]
    refine wG ?_;have hent:=nJ (aE (ar l a.to) a.name) a.toName a.fid (by rw[<-hT];omega);rw[gv (by rw[<-hT];exact htE) (by rw[<-hT];exact (dG hr).2)] at hent;have hw2:=jf (bQ l) { aC (aE (ar l a.to) a.name) a.toName a.fid with version:=v } (bC _);rw[gp hf.ri.up] at hw2;unfold ZN at hent hw2;rw[if_pos hsd,hT] at hLL;rw[he,if_pos rfl,hLL];refine wFG ?_ (hb:=Ww);refine wC ?_ func131 (hf:=hent);refine wC ?_ func127 (hf:=fc (aC (aE (ar l a.to) a.name) a.toName a.fid) v);refine wC ?_ func130 (hf:=hw2);refine wGT ?_;rfl
   ·have hT:toN l a=ar l a.to:=by unfold toN;rw[if_neg hsd]
    rw[hT] at hrm;refine wFG ?_ (hb:=Ww);refine wC ?_ func129 (hf:=hrm);refine wGD (λh=>?_) (λh=>?_)
    ·have hr:cf (toN l a) a.toName≠0:=by first | (rw[hT];simpa using h) | (simpa[toN,hsd] using h)
     have he:aD l a=cf (toN l a) a.toName:=by rw[hE];unfold bH;rw[if_pos hn0,if_pos hd2,if_neg hr]
     rw[he,if_neg hr];refine wGT ?_;simp[toN,hsd]
    have hr:cf (toN l a) a.toName=0:=by first | (rw[hT];simpa using h) | (simpa[toN,hsd] using h)
    refine wGD (λh=>?_) (λh=>?_)
    ·cases h
    refine wG ?_;refine wC ?_ func50 (hf:=hwi);refine wGD (λh=>?_) (λh=>?_)
    ·have he:aD l a=11:=by rw[hE];unfold bH;rw[if_pos hn0,if_pos hd2,if_pos hr,hat,if_pos (show (some x).isSome=true from rfl),if_pos h]
     rw[he];refine wGT ?_;simp
    have he0:bH l a=0:=by unfold bH;rw[if_pos hn0,if_pos hd2,if_pos hr,hat,if_pos (show (some x).isSome=true from rfl),if_neg (by rw[h];simp)]
    have he:aD l a=0:=by rw[hE,he0]
    have hLL:cz l a v=aI (if a.to=a.dir then l else aI l { aE (ar l a.dir) a.name with version:=v }) { aC (toN l a) a.toName a.fid with version:=v }:=by rw[hL];unfold gw;rw[if_pos he0]
    refine wG ?_;have hent:=nJ (ar l a.to) a.toName a.fid (by rw[<-hT];omega);rw[gv (by rw[<-hT];exact htE) (by rw[<-hT];exact (dG hr).2)] at hent;have hw2:=jf (bQ (aI l { aE (ar l a.dir) a.name with version:=v })) { aC (ar l a.to) a.toName a.fid with version:=v } (bC _);rw[gp (bt hf.ri.up _).1] at hw2;unfold ZN at hent hw2;rw[if_neg hsd,hT] at hLL;rw[he,if_pos rfl,hLL];refine wTG ?_ (hb:=by simpa using hsd);refine wC ?_ func132 (hf:=hlv);refine wC ?_ func127 (hf:=fc (aE (ar l a.dir) a.name) v);refine wCg ?_ func130 (hf:=hw1);refine wC ?_ func131 (hf:=hent);refine wC ?_ func127 (hf:=fc (aC (ar l a.to) a.toName a.fid) v);refine wC ?_ func130 (hf:=hw2);refine wGT ?_;rfl
 refine wDF ?_ (hb:=by simp[k5]);have he:aD l a=1:=by rw[hkE,if_neg k5]
 rw[he];refine wGT ?_;simp
end La
