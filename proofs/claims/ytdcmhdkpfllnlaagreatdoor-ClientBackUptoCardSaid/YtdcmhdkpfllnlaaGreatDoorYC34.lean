/- Texts of this claim, part 34: PCBack, RLaw9, RLaw9B. No condition. -/
import Derived.Test.YtdcmhdkpfllnlaaGreatDoorYC29
set_option maxRecDepth 10000
set_option maxHeartbeats 4000000
set_option linter.unusedSimpArgs false
set_option linter.unusedVariables false
namespace La
open Go Go.Eng
theorem sj (vs:List Verdict) (v:Verdict):cc (vs++[v])=cc vs+if v.err=0 then 1 else 0:=by
 unfold cc;rw[List.filter_append,List.length_append]
 by_cases e:v.err=0
 ·rw[if_pos e];simp[e]
 ·rw[if_neg e];simp[e]
theorem Aq (t:List Node) (n v:Int) (log:List Rec):(bL t n v log).done.length=cc (bL t n v log).vs:=by
 have key:∀(l:List Rec) (s:JG),s.done.length=cc s.vs->(l.foldl iE s).done.length=cc (l.foldl iE s).vs:=λl=>by
  induction l with
  | nil=>exact λs h=>h
  | cons r l ih=>
   intro s h;refine ih (iE s r) ?_;unfold iE
   by_cases e:jk s.j r=0
   ·rw[if_pos e]
    show (s.done++[_]).length=cc (s.vs++[iv s.j r])
    rw[sj,List.length_append,h,if_pos (show (iv s.j r).err=0 from e)];rfl
   ·rw[if_neg e]
    show s.done.length=cc (s.vs++[iv s.j r])
    rw[sj,h,if_neg (show ¬(iv s.j r).err=0 from e)];rfl
 exact key log _ rfl
theorem qO:∀(l:List Rec) (vs:List Verdict),l.length=vs.length->(bW l vs).length+cc vs=vs.length
 | [],[],_=>rfl
 | [],_::_,h=>by simp at h
 | _::_,[],h=>by simp at h
 | r::l,v::vs,h=>by
  have ih:=qO l vs p5;have hd:cc (v::vs)=cc vs+if v.err=0 then 1 else 0:=by
   unfold cc;rw[List.filter_cons]
   by_cases e:v.err=0
   ·simp[e]
   ·simp[e]
  unfold bW;rw[hd,List.length_cons]
  by_cases e:v.err=0
  ·rw[if_pos e,if_pos e];omega
  ·rw[if_neg e,if_neg e,List.length_cons];omega
structure BackOK (u:U):Prop where
 away:(fY u).c.away=false
 log:(fY u).c.log=[]
 done:cc (ay u)≤u.c.log.length
 vlen:(ay u).length=u.c.log.length
 repair:(fY u).c.repair.length=u.c.repair.length+(u.c.log.length-cc (ay u))
 past:(fY u).s.past.length=u.s.past.length+cc (ay u)
 clean:∀k,k∈(fY u).c.cache->k.dirty=false
theorem DY {B T:Nat} {u:U} (h:iF B T u):BackOK u:=by
 have hfit:∀r,r∈u.c.log->ActFit r.act:=λr hr=>(h.cli.logS r hr).fit
 have hvl:(ay u).length=u.c.log.length:=(JInv.qB h.srv.hist u.c.number u.s.next u.c.log hfit).vlen;have hr:=qO u.c.log (ay u) hvl.symm;have hd:(bL u.s.tree u.s.next ((u.s.past.length+1:Nat):Int) u.c.log).done.length=cc (ay u):=Aq _ _ _ _;refine ⟨rfl,rfl,by omega,hvl,?_,?_,λk hk=>?_⟩
 ·show (u.c.repair++bW u.c.log (ay u)).length=_
  rw[List.length_append];omega
 ·show (jK u.s u.c.number u.c.log).past.length=_
  unfold jK;rw[List.length_append,List.length_map,hd]
 ·have hk:k∈(u.c.cache.filter λk=>!k.dirty).filter λk=>!bN (gW u).tree k:=hk
  have:=(W9.1 (W9.1 hk).1).2;simpa using this
end La
namespace La
open Go Go.Eng Go.Proofs
theorem zZ (rooms:List Int) (l:List Step) (n:Int) (hr:rooms.length≤100000000) (hl:StepsOK l) :
  af Tryz.prog 7 [.sl (rooms.map ZI),.sl (l.map ZX),.int .i64 n] [] (λr _=>r=.bool true):=by
 have hb:=nk rooms hr l hl;have hWi:b_ rooms=0->WInv (20*l.length) (300*l.length) (jO rooms l):=λhE=>oo hE l
 have hz:b_ rooms≠0->jO rooms l=kH:=λhE=>by unfold jO;rw[if_neg hE]
 have hll:=hl.len;generalize jO rooms l=W at *;unfold ee at hb;refine ZF tK (Tryz.func7) rfl (λC=>?_);simp only[Tryz.ntmps7,Tryz.results7,go_sem];refine wG tK ?_;refine wC Tryz.func16 (hf:=(vD)) (hk:=?_);refine wG tK ?_;refine wDF (hb:=(rfl)) (hk:=?_);refine wG tK ?_;refine wC Tryz.func8 (hf:=(hb)) (hk:=?_);refine wG tK ?_
 by_cases hc:n<0\/n≥W.cs.length
 ·refine wDT (hb:=j0) (hk:=?_);refine wG tK ?_;refine wT ?_;rfl
 ·refine wDF (hb:=j0) (hk:=?_);obtain ⟨k,rfl⟩:∃k:Nat,n=k:=⟨n.toNat,by omega⟩;have hk:k<W.cs.length:=by omega
  have hE:b_ rooms=0:=by
   by_cases h:b_ rooms=0
   ·exact h
   ·rw[hz h] at hk;simp[kH] at hk
  have hw:=hWi hE;have hu:=hw.at hk;have hg:(W.cs.map ZC).getD k []=ZC (W.cs.getD k default):=Fam.getD hk;have hst:=ie hu ⟨8,(k:Int),0,[],[],[]⟩;have hB:=DY hu;have hdo:af Tryz.prog 11 [.agg (ZC (W.cs.getD k default)),.agg (ZQ W.s),.agg [.int .i64 8,.int .i64 (k:Int),.int .i64 0,.str [],.str [],.nils]] [] (λr _=>r=dN (ai ⟨W.cs.getD k default,W.s⟩ ⟨8,(k:Int),0,[],[],[]⟩)):=
   af.wy (x:=⟨8,(k:Int),0,[],[],[]⟩) rfl (lS (W.cs.getD k default) W.s hu z8 z8 ⟨8,(k:Int),0,[],[],[]⟩ y8 y8)
  generalize W.cs.getD k default=c at *;have hS:ai ⟨c,W.s⟩ ⟨8,(k:Int),0,[],[],[]⟩=⟨fY ⟨c,W.s⟩,⟨0,cc (ay ⟨c,W.s⟩),((ay ⟨c,W.s⟩).length-cc (ay ⟨c,W.s⟩):Nat),[]⟩⟩:=by
   unfold ai;rw[if_neg y8,if_neg y8,if_neg y8,if_neg y8,if_neg y8,if_neg y8,if_pos rfl]
  rw[hS] at hdo hst;obtain ⟨haw,hlog,hdn,hvl,hrep,hpast,hcl⟩:=hB;have hcs:=hst.cli.qg z8;have hcl0:=hu.cli.qg z8;have hsl:=hst.srv.BY z8;have hl1:=hcl0.log.len;have hl2:=hcs.repair.len;have hl3:=hcs.cache.len;rw[hvl] at hdo;simp only at hrep hpast hdn hl1 hl2 hl3 hsl;generalize cc (ay ⟨c,W.s⟩)=d at *;generalize fY ⟨c,W.s⟩=g at *;unfold dN at hdo;unfold ZC ZQ aT at *;simp only[haw,hlog,List.map_nil] at hdo;refine wGq tK ?_ ?_ p7
  ·simp[hg,hk]
  have f1:decide ((d:Int)<0)=false:=by simp
  have f2:decide (((c.log.length-d:Nat):Int)<0)=false:=by simp
  have f3:decide ((c.log.length:Int)<(d:Int))=false:=by simp;omega
  have f4:IntKind.i64.wrap ((c.log.length:Int)-(d:Int))=((c.log.length-d:Nat):Int):=by rw[Eng.wrap_small z8 z8];omega
  have f5:IntKind.i64.wrap ((g.c.repair.length:Int)-(c.repair.length:Int))=((c.log.length-d:Nat):Int):=by rw[Eng.wrap_small z8 z8];omega
  have f6:IntKind.i64.wrap ((g.s.past.length:Int)-(W.s.past.length:Int))=(d:Int):=by rw[Eng.wrap_small z8 z8];omega
  refine wC Tryz.func11 (hf:=(hdo)) (hk:=?_);refine wN tK 10 ?_;refine dq ?_;refine wR ?_;simp only[go_sem,List.append_eq,List.cons_append,List.nil_append,List.toList_toArray];refine wN tK 20 ?_ z6 z6 u3 v7;refine wN tK 20 ?_ z6 z6 u3 v7;refine wN tK 27 ?_ z6 z6 u3 v7;refine wDF (hb:=(rfl)) (hk:=?_);refine wG tK ?_;refine ZL (λi:Nat=>i≤g.c.cache.length) (λi=>g.c.cache.length-i) (λi=>(13,.any)::(113,.int .i64 i)::u0 114 6 []) (λ_=>[]) 0 z8 ?_ λi hi=>?_
  ·simp only[go_sem];exact ZU w3 w3 w3
  simp only[go_sem];refine wG tK ?_;refine wD (λh=>?_) (λh=>?_)
  ·have hlt:i<g.c.cache.length:=by simp at h;omega
   have hgk:(g.c.cache.map ZK).getD i []=ZK (g.c.cache.getD i default):=Fam.getD hlt;have hgd:=hcl _ (YG hlt);have how':=wi1 (i:=i) z8;generalize g.c.cache.getD i default=q at *;refine wGq tK ?_ ?_ (by simp only[go_sem,hgk,ZK];try exact rfl)
   ·simp[hgk,hlt,ZK]
   refine wDF (hb:=(hgd)) (hk:=?_);refine wG tK ?_ j7 Q3;refine ZB ⟨i+1,by omega,by omega,ZU ?_ ?_ ?_⟩
   ·simp[go_sem]
   ·simp[go_sem]
   ·simp[go_sem]
  ·refine wG tK ?_;refine wT ?_;rfl
end La
