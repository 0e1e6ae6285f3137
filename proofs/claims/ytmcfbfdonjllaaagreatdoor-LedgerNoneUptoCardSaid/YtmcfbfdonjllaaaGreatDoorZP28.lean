/- Texts of this claim, part 28: ModC, RKeepK, RFreshK, CKeep, RU, Cut, RSplit. No condition. -/
import Derived.Test.YtmcfbfdonjllaaaGreatDoorZP27
set_option maxRecDepth 10000
set_option maxHeartbeats 4000000
set_option linter.unusedSimpArgs false
set_option linter.unusedVariables false
namespace La
open Go Go.Eng
def ZJ (h:Hoard):List AV:=[.str h.path,.int .i64 h.worth]
def ZC (c:Cli):List AV:=[.int .i64 c.number,.bool c.away,.int .i64 c.room,.sl (c.cache.map ZK),.sl (c.log.map ZR),.sl (c.repair.map ZR),.sl (c.hoards.map ZJ),.int .i64 c.clock,.int .i64 c.made,.int .i64 c.logged]
def ZX (x:Step):List AV:=[.int .i64 x.kind,.int .i64 x.client,.int .i64 x.n,.str x.path,.str x.toPath,.sl (x.data.map ZY)]
def bc (r:Reply):List AV:=[.int .i64 r.err,.int .i64 r.n,.int .i64 r.m,.sl (r.data.map ZY)]
def bt (u:U):List AV:=[.int .i64 u.c.number,.bool u.c.away,.int .i64 u.c.room,.sl (u.c.cache.map ZK),.sl (u.c.log.map ZR),.sl (u.c.repair.map ZR),.sl (u.c.hoards.map ZJ),.int .i64 u.c.clock,.int .i64 u.c.made,.int .i64 u.c.logged,.sl (u.s.tree.map ZN),.int .i64 u.s.next,.sl (u.s.past.map ZP)]
def a_ (w:Wor):List AV:=[.sl (w.s.tree.map ZN),.int .i64 w.s.next,.sl (w.s.past.map ZP),.sl (w.cs.map ZC)]
theorem fh:Fam ZJ 2:=⟨λ_=>rfl,λ_=>rfl,λ_=>rfl,λ_=>rfl⟩
@[go_sem,simp] theorem E1 (l:List _):Eng.rowsOf 2 (l.map ZJ):=fh.rowsOf l
@[go_sem,simp] theorem Hp (l:List _):((l.map ZJ).all λrow=>row.all AV.leaf)=true:=fh.jT l
@[go_sem,simp] theorem ef (l:List _):((l.map ZJ).all λrow=>row.all AV.aT)=true:=fh.dW l
@[go_sem,simp] theorem FP (id:Nat) (l:List _):((l.map ZJ).all λrow=>row.all λx=>!(refs x).contains id)=true:=fh.iR id l
@[go_sem,simp] theorem FQ (e s:Nat) (l:List _):av (.cells e s (l.map ZJ))=[]:=fh.av e s l
@[go_sem,simp] theorem Hq (off:Nat) (l:List _):(l.map ZJ).map (gu off)=l.map ZJ:=Fam.gu (λ_ _=>rfl) off l
@[go_sem,simp] theorem Ho (id s:Nat) (rows:List (List AV)) (l:List _):(l.map ZJ).map (db id s rows)=l.map ZJ:=Fam.db (λ_ _ _ _=>rfl) id s rows l
@[go_sem,simp] theorem FR (a):aA (ZJ a)=[]:=fh.free a
theorem ot:Fam ZC 10:=⟨λ_=>rfl,λ_=>rfl,λ_=>rfl,λ_=>rfl⟩
@[go_sem,simp] theorem ij (l:List _):((l.map ZC).all λrow=>row.all AV.aT)=true:=ot.dW l
@[go_sem,simp] theorem xg (id:Nat) (l:List _):((l.map ZC).all λrow=>row.all λx=>!(refs x).contains id)=true:=ot.iR id l
@[go_sem,simp] theorem Ii (e s:Nat) (l:List _):av (.cells e s (l.map ZC))=[]:=ot.av e s l
@[go_sem,simp] theorem KI (off:Nat) (l:List _):(l.map ZC).map (gu off)=l.map ZC:=Fam.gu (λ_ _=>rfl) off l
@[go_sem,simp] theorem KH (id s:Nat) (rows:List (List AV)) (l:List _):(l.map ZC).map (db id s rows)=l.map ZC:=Fam.db (λ_ _ _ _=>rfl) id s rows l
theorem mF:Fam ZX 6:=⟨λ_=>rfl,λ_=>rfl,λ_=>rfl,λ_=>rfl⟩
@[go_sem,simp] theorem yi (l:List _):((l.map ZX).all λrow=>row.all AV.aT)=true:=mF.dW l
@[go_sem,simp] theorem Hv (id:Nat) (l:List _):((l.map ZX).all λrow=>row.all λx=>!(refs x).contains id)=true:=mF.iR id l
@[go_sem,simp] theorem Hw (e s:Nat) (l:List _):av (.cells e s (l.map ZX))=[]:=mF.av e s l
@[go_sem,simp] theorem Jz (id s:Nat) (rows:List (List AV)) (l:List _):(l.map ZX).map (db id s rows)=l.map ZX:=Fam.db (λ_ _ _ _=>rfl) id s rows l
theorem xp:Fam bc 4:=⟨λ_=>rfl,λ_=>rfl,λ_=>rfl,λ_=>rfl⟩
@[go_sem,simp] theorem GH (a):aA (bc a)=[]:=xp.free a
end La
namespace La
open Go Go.Eng Go.Proofs Go.Proofs.Tryz
theorem lz {p:Kept} {x:AV} (h:x∈ZK p):refs x=[]:=by
 simp only[ZK,List.mem_cons,List.not_mem_nil,or_false] at h
 rcases h with rfl | rfl | rfl | rfl | rfl | rfl | rfl | rfl<;>rfl
def wK (k x:Kept):Kept:={ k with worth:=mT k.worth x.worth }
def rkS (k:Kept) (q:Bool×List Kept) (x:Kept):Bool×List Kept:=if (x.node.fid==k.node.fid&&!q.1)=true then (true,q.2++[wK k x]) else (q.1,q.2++[x])
def rkT (k:Kept) (l:List Kept):Bool×List Kept:=l.foldl (rkS k) (false,[])
theorem GL (k:Kept) (l:List Kept) (x:Kept):rkT k (l++[x])=rkS k (rkT k l) x:=by unfold rkT;rw[List.foldl_append];rfl
theorem C4 (k:Kept) (l:List Kept):(rkT k l).2.length=l.length:=by
 have:∀(l:List Kept) (q:Bool×List Kept),(l.foldl (rkS k) q).2.length=q.2.length+l.length:=λl=>by
  induction l with
  | nil=>intro q;rfl
  | cons x r ih=>intro q;rw[List.foldl_cons,ih];unfold rkS;split<;>simp<;>omega
 have:=this l (false,[]);simpa[rkT] using this
theorem Ar (k:Kept):∀(l acc:List Kept),l.foldl (rkS k) (true,acc)=(true,acc++l)
 | [],acc=>by simp
 | x::r,acc=>by rw[List.foldl_cons,show rkS k (true,acc) x=(true,acc++[x]) from by simp[rkS],Ar k r];simp
theorem wz (k:Kept):∀(l acc:List Kept),l.foldl (rkS k) (false,acc)=match b_ l k.node.fid with
  | none=>(false,acc++l)
  | some i=>(true,acc++l.set i (wK k (l.getD i default)))
 | [],acc=>by simp[b_]
 | x::r,acc=>by
  rw[List.foldl_cons]
  by_cases h:x.node.fid=k.node.fid
  ·rw[show rkS k (false,acc) x=(true,acc++[wK k x]) from by simp[rkS,h],Ar];have:b_ (x::r) k.node.fid=some 0:=by unfold b_;rw[List.findIdx?_cons];simp[h]
   rw[this];simp
  ·rw[show rkS k (false,acc) x=(false,acc++[x]) from by simp[rkS,h],wz k r];have:b_ (x::r) k.node.fid=(b_ r k.node.fid).map (·+1):=by unfold b_;rw[List.findIdx?_cons];simp[h]
   rw[this];cases b_ r k.node.fid<;>simp
theorem As (k:Kept) (l:List Kept):rkT k l=match b_ l k.node.fid with
  | none=>(false,l)
  | some i=>(true,l.set i (wK k (l.getD i default))):=by
 unfold rkT;rw[wz];cases b_ l k.node.fid<;>simp
theorem Bw {l:List Kept} {room:Int} {k:Kept} (h:(rkT k l).1=true):cT l room k=some (rkT k l).2:=by
 unfold cT;rw[As] at h ⊢;cases e:b_ l k.node.fid with
 | none=>rw[e] at h;cases h
 | some i=>rfl
theorem Bv {l:List Kept} {room:Int} {k:Kept} (h:(rkT k l).1=false):(rkT k l).2=l/\cT l room k=(bU room (l.length+1) l).map λL=>L++[k]:=by
 unfold cT;rw[As] at h ⊢;cases e:b_ l k.node.fid with
 | none=>exact ⟨rfl,rfl⟩
 | some i=>rw[e] at h;cases h
theorem Ek (l:List Kept) (room:Int) (k:Kept) (hl:l.length<=90000000):Fo 98 [.sl (l.map ZK),.int .i64 room,.agg (ZK k)] (qE l room k):=by
 unfold qE;have hz:rkT k (l.take l.length)=rkT k l:=by rw[W7]
 refine wS func98 ntmps98 results98 λC=>?_
 refine wGq ?_ ?_ QC
 ·simp
 refine af (le_empty 46 138 8 z7) (wn ?_);refine wL l.length (λi=>(8,.osl 46 8 0 i)::(9,.bool (rkT k (l.take i)).1)::(11,.any)::(12,.any)::(18,.int .i64 i)::u0 19 29 []) (λi=>[(46,.cells 138 8 ((rkT k (l.take i)).2.map ZK))]) ?_ λi hi=>?_
 ·simp only[go_sem];exact ZU (by simp[go_sem,rkT]) (by simp[go_sem,rkT]) w3
 simp only[go_sem];refine wGD (λh=>?_) (λh=>?_)
 ·have hlt:=lt1 h;have hg:=Fam.getD (f:=ZK) hlt;have hw:=wi1 (i:=i) z8;have htk:rkT k (l.take (i+1))=rkS k (rkT k (l.take i)) (l.getD i default):=by rw[ZT hlt,GL]
  have hql:=C4 k (l.take i);rw[YF,Yu hi] at hql;generalize l.getD i default=x at hg htk;generalize rkT k (l.take i)=q at *;unfold rkS at htk;have htq:List.take i (q.2.map ZK)=q.2.map ZK:=W4 (by simp[hql]);refine wR ?_;refine wNq 4 ?_ ?_ z6 z6 j8
  ·simp[hg,ZK,hlt]
  cases hb:(x.node.fid==k.node.fid&&!q.1) with
  | true=>
   rw[hb,if_pos rfl] at htk;rw[Bool.and_eq_true] at hb;refine wG ?_;refine wDT ?_ (hb:=by simp[hb.1,hb.2]);refine wGD (λh=>?_) (λh=>?_)
   ·have hm:mT k.worth x.worth=x.worth:=by unfold mT;rw[if_pos u1]
    refine wGq ?_ ?_ w4
    ·simp[htq,refs,hql];exact ⟨by omega,λx _ y hy=>by rw[lz hy];simp⟩
    exact ZB ⟨i+1,by omega,by omega,ZU j7 (by simp[go_sem,htk,htq,ZK,wK,hm]) w3⟩
   ·have hm:mT k.worth x.worth=k.worth:=by unfold mT;rw[if_neg u1]
    refine wGq ?_ ?_ w4
    ·simp[htq,refs,hql];exact ⟨by omega,λx _ y hy=>by rw[lz hy];simp⟩
    exact ZB ⟨i+1,by omega,by omega,ZU j7 (by simp[go_sem,htk,htq,ZK,wK,hm]) w3⟩
  | false=>
   rw[hb,if_neg Bool.false_ne_true] at htk;refine wG ?_;refine wDF ?_ (hb:=by simpa[show ∀a b:Bool,(bif a then b else false)=(a&&b) from λa b=>by cases a<;>rfl] using hb);refine wGq ?_ ?_ w4
   ·simp[htq,refs,hql];exact ⟨by omega,λx _ y hy=>by rw[lz hy];simp⟩
   exact ZB ⟨i+1,by omega,by omega,ZU j7 Wm w3⟩
 obtain rfl:=eq1 hi h;rw[hz];clear hz h;have hql:=C4 k l;cases hb:(rkT k l).1 with
 | true=>
  rw[Bw hb];refine EX ?_ (hb:=w8);refine ZZ 46 rfl (bg _) (wn ?_);refine wT ?_;simp[hql];exact W4 (by simp[hql])
 | false=>
  obtain ⟨h1,h2⟩:=Bv (room:=room) hb;rw[h1,h2];rw[h1] at hql;clear hi h1 h2;refine mh ?_ (hb:=w8);refine ZL (λL:List Kept=>bU room (L.length+1) L=bU room (l.length+1) l/\L.length<=l.length) (λL=>L.length) (λL=>(8,.osl 46 8 0 L.length)::(13,.any)::(14,.any)::(15,.any)::u0 50 46 []) (λL=>[(46,.cells 138 8 (L.map ZK))]) l ⟨rfl,YA _⟩ ?_ λL hL=>?_
  ·exact wZ
  obtain ⟨hsh,hLl⟩:=hL;rw[<-hsh];simp only[go_sem];refine wGD (λh=>?_) (λh=>?_)
  ·have hge:(L.length:Int)≥room:=by simpa using h
   refine wG ?_;refine wL L.length (λj=>(13,.int .i64 (cq (cZ L j)))::(14,.any)::(15,.any)::(56,.int .i64 j)::u0 57 27 []) (λ_=>[]) ?_ λj hj=>?_
   ·simp only[go_sem];exact ZU (by simp[go_sem,cZ,cq]) w3 w3
   simp only[go_sem];refine wGD (λh=>?_) (λh=>?_)
   ·have hlt:=lt1 h;have hg:=Fam.getD (f:=ZK) hlt;have hw:IntKind.i64.wrap ((j:Int)+1)=((j+1:Nat):Int):=by rw[Eng.wrap_small z8 z8];rfl
    have hwa:cZ L (j+1)=if (L.getD j default).dirty||(L.getD j default).node.fid==0 then cZ L j
      else match cZ L j with
       | none=>some j
       | some b=>if tk (L.getD j default) (L.getD b default)<0 then some j else some b:=rfl
    have hwl:=fO L j;generalize L.getD j default=x at hg hwa;refine wGq ?_ ?_ j8
    ·simp[hg,ZK,hlt]
    refine wO ?_;cases hd:x.dirty with
    | true=>
     rw[hd,Bool.true_or,if_pos rfl] at hwa;refine sN 4 ?_ z6 z6 (by simp only[go_sem,hd];try exact rfl) (by simp[go_sem,hd])
     try simp only[hd,Bool.not_true]
     iterate 3 refine sS ?_
     refine sSB ?_;refine sN 2 ?_;refine sS ?_;refine sSB ?_;refine sSB ?_
     iterate 5 refine sS ?_
     refine sSB ?_;refine sSB ?_;refine sN 1 ?_;refine wX ?_;refine wD (λh=>?_) (λh=>?_)
     ·exfalso;simp at h
     refine wG ?_ w4 y7;exact ZB ⟨j+1,by omega,by omega,ZU (by simp[go_sem,hwa]) w3 w3⟩
    | false=>
     by_cases hf:x.node.fid=0
     ·have hf0:(x.node.fid==0)=true:=by simp[hf]
      have hf1:(x.node.fid != 0)=false:=by simp[hf]
      rw[hd,hf0,Bool.or_true,if_pos rfl] at hwa;refine sN 10 ?_ z6 z6 (by simp only[go_sem,hd,hf1];try exact rfl) (by simp[go_sem,hd,hf1])
      try simp only[hd,hf1,Bool.not_false,cond_true]
      refine sS ?_;refine sSB ?_;refine sSB ?_
      iterate 5 refine sS ?_
      refine sSB ?_;refine sSB ?_;refine sN 1 ?_;refine wX ?_;refine wD (λh=>?_) (λh=>?_)
      ·exfalso;simp at h
      refine wG ?_ w4 y7;exact ZB ⟨j+1,by omega,by omega,ZU (by simp[go_sem,hwa]) w3 w3⟩
     ·have hf0:(x.node.fid==0)=false:=by simp[hf]
      have hf1:(x.node.fid != 0)=true:=by simp[hf]
      rw[hd,hf0,Y2,if_neg Bool.false_ne_true] at hwa;cases hwb:cZ L j with
      | none=>
       rw[hwb] at hwa;simp only at hwa;refine sN 13 ?_ z6 z6 (by simp only[go_sem,hd,hf1,cq];try exact rfl) (by simp[go_sem,hd,hf1,cq])
       try simp only[hd,hf1,Bool.not_false,cond_true,show decide ((-1:Int)<0)=true from rfl,beq_self_eq_true,Y3,Bool.and_true]
       iterate 5 refine sS ?_
       refine sSB ?_;refine sN 2 ?_;refine wX ?_;refine wD (λh=>?_) (λh=>?_)
       ·refine wG ?_ w4 y7;exact ZB ⟨j+1,by omega,by omega,ZU (by simp[go_sem,hwa,cq]) w3 w3⟩
       ·exfalso;simp at h
      | some b=>
       rw[hwb] at hwa;simp only at hwa;have hbj:=hwl b hwb;have hgb:(L.map ZK).getD b []=ZK (L.getD b default):=Fam.getD z8;have hneg:decide ((b:Int)<0)=false:=decide_eq_false z8;generalize L.getD b default=y at hgb hwa;refine sN 13 ?_ z6 z6 (by simp only[go_sem,hd,hf1,cq,hneg];try exact rfl) (by simp[go_sem,hd,hf1,cq,hneg])
       try simp only[hd,hf1,hneg,Bool.not_false,cond_true,beq_self_eq_true,Y3,Bool.and_true]
       refine sNq 5 ?_ ?_ z6 z6 Qh
       ·simp[hgb,ZK];omega
       have hws:=Hb x y;unfold ZK at hws;rw[hd] at hws;refine sCC ?_ func136 (hf:=λhb=>(hws));refine sN 2 ?_;refine wX ?_;refine wD (λh=>?_) (λh=>?_)
       ·have hc:tk x y<0:=by simpa using h
        rw[if_pos hc] at hwa;refine wG ?_ w4 y7;exact ZB ⟨j+1,by omega,by omega,ZU (by simp[go_sem,hwa,cq]) w3 w3⟩
       ·have hc:¬tk x y<0:=by simpa using h
        rw[if_neg hc] at hwa;refine wG ?_ w4 y7;exact ZB ⟨j+1,by omega,by omega,ZU (by simp[go_sem,hwa,cq]) w3 w3⟩
   ·obtain rfl:=eq1 hj h;have hwk:cZ L L.length=rb L:=rfl;rw[hwk];cases hwb:rb L with
    | none=>
     have hn:bU room (L.length+1) L=none:=by rw[bU,if_pos hge,hwb]
     rw[hn];refine wG ?_ (by simp only[go_sem,cq];try exact rfl) (by simp[go_sem,cq]);refine wD (λh=>?_) (λh=>?_)
     ·refine wGT ?_;rfl
     ·exfalso;simp at h
    | some b=>
     have hbl:b<L.length:=fO L L.length b hwb;have hsh2:bU room (L.length+1) L=bU room L.length (L.eraseIdx b):=by rw[bU,if_pos hge,hwb]
     have hel:(L.eraseIdx b).length+1=L.length:=by rw[List.length_eraseIdx,if_pos hbl];omega
     have her:L.eraseIdx b=L.take b++L.drop (b+1):=List.eraseIdx_eq_take_drop_succ L b;have hneg:decide ((b:Int)<0)=false:=decide_eq_false z8;have hwb1:IntKind.i64.wrap ((b:Int)+1)=((b+1:Nat):Int):=by rw[Eng.wrap_small z8 z8];rfl
     have hA1:List.take b (L.map ZK)=(L.take b).map ZK:=by rw[List.map_take]
     have hB1:List.take (L.length-(b+1)) (List.drop (b+1) (L.map ZK))=(L.drop (b+1)).map ZK:=by rw[<-List.map_drop,W4 w8]
     have hlA:(L.take b).length=b:=by rw[YF];omega
     have hlB:(L.drop (b+1)).length=L.length-(b+1):=YZ;generalize L.take b=A at hA1 hlA her;generalize L.drop (b+1)=B at hB1 hlB her;subst hlA;refine wG ?_ (by simp only[go_sem,cq];try exact rfl) (by simp[go_sem,cq]);refine wD (λh=>?_) (λh=>?_)
     ·exfalso;simp at h;omega
     refine wG ?_;refine ZW ZM ?_;refine jV 1 [0,2,3,4,5,6,7,8,9,10] [0,0,1,2,3,4,5,6,7,8,9] rfl rfl rfl (λ_ _ _ h=>h) w9 w9 v8 z7 ?_;simp only[go_sem,gA,gB,gC];refine jV 1 [0,2,3,4,5,6,7,8,9] [0,0,1,2,3,4,5,6,7,8] rfl rfl rfl (λ_ _ _ h=>h) w9 w9 v8 z7 ?_;simp only[go_sem,gA,gB,gC];refine mr 1 [0,2,3,4,5,6,7,8] [0,0,1,2,3,4,5,6,7] rfl rfl (λ_ _ _ h=>h) w9 w9 v8 (wB tK rfl rfl rfl x7 z7 (.inl ⟨rfl,rfl⟩) (.inr ⟨_,rfl,_,z7⟩) (by simp[hbl,Nat.le_of_lt hbl]) (by simp[hbl,Nat.le_of_lt hbl])) ?_;simp only[go_sem,gA,gB,gC];refine jV 2 [0,1,3,4,5,6,7] [0,1,0,2,3,4,5,6] rfl rfl rfl (λ_ _ _ h=>h) w9 w9 v8 z7 ?_;simp only[go_sem,gA,gB,gC];refine jV 2 [0,1,3,4,5,6] [0,1,0,2,3,4,5] rfl rfl rfl (λ_ _ _ h=>h) w9 w9 v8 z7 ?_;simp only[go_sem,gA,gB,gC];refine mr 2 [0,1,3,4,5] [0,1,0,2,3,4] rfl rfl (λ_ _ _ h=>h) w9 w9 v8 (H9 rfl z7 z7) ?_;simp only[go_sem,hwb1,gA,gB,gC];refine mr 2 [0,1,3,4] [0,1,0,2,3] rfl rfl (λ_ _ _ h=>h) w9 w9 v8 (wB tK rfl rfl rfl x7 z7 (.inr ⟨_,rfl,_,z7⟩) (.inl ⟨rfl,rfl⟩) (by simp[hbl,Nat.succ_le_of_lt hbl]) (by simp[hbl,Nat.succ_le_of_lt hbl])) ?_;simp only[go_sem,gA,gB,gC];refine Mg (n:=4) w9 rfl ?_;refine YD (i:=0) w9 rfl rfl (YT tK rfl z7 w3) ?_
     try simp only[go_sem,hA1,hB1,gD,gE,gF,gG,hwb1,gA,gB,gC]
     refine YD (i:=1) w9 rfl rfl (YT tK rfl Q7 ?_) ?_
     ·simp[go_sem,hA1,hB1,gD,gE,gF,gG,hwb1,gA,gB,gC];omega
     try simp only[go_sem,hA1,hB1,gD,gE,gF,gG,hwb1,gA,gB,gC]
     refine YD (i:=2) w9 rfl rfl (YT tK rfl Q7 ?_) ?_
     ·simp[go_sem,hA1,hB1,gD,gE,gF,gG,hwb1,gA,gB,gC,hlB];omega
     try simp only[go_sem,hA1,hB1,gD,gE,gF,gG,hwb1,gA,gB,gC]
     refine YD (i:=3) w9 rfl rfl (YT tK rfl z7 w3) ?_;refine Dm w9 ?_;simp only[go_sem,gA,gB,gC];refine af (lA 46) ?_;refine af (gy 95 46) ?_;refine wG ?_;have her2:L.eraseIdx A.length=A++B:=her;have hlen2:(A++B).length+1=L.length:=by rw[<-her];exact hel
     refine ZB ⟨A++B,⟨by rw[hsh2,her,hlen2],by omega⟩,by omega,ZU ?_ ?_ ?_⟩
     ·simp[go_sem,hlB]
     ·simp[go_sem,hB1]
     ·simp[go_sem]
  ·have hlt:¬(L.length:Int)≥room:=by simpa using h
   have hn:bU room (L.length+1) L=some L:=by rw[bU,if_neg hlt]
   rw[hn];refine wGq ?_ ?_
   ·simp;omega
   rw[show List.map ZK L++[[AV.int .i64 k.node.fid,.bool k.node.dir,.sl (k.node.data.map ZY),.sl (k.node.entries.map ZE),.int .i64 k.node.version,.bool k.dirty,.int .i64 k.worth,.int .i64 k.last]]=(L++[k]).map ZK by simp[ZK]];refine ZZ 99 rfl (bg _) (wn ?_);refine wT ?_;simp;exact W4 w8
theorem Au (l:List Kept) (room:Int) (k:Kept) (hl:l.length<=90000000):Fo 98 [.sl (l.map ZK),.int .i64 room,.agg (ZK k)] (rD l room k):=by
 have h:=Ek l room k hl;unfold qE at h;unfold rD;cases e:cT l room k with
 | none=>
  rw[e] at h;exact h.iZ rfl
 | some L=>
  rw[e] at h;exact h
theorem oL (l:List Kept) (at_:List Node) (hl:l.length<=90000000) (hu:Up at_):Fo 39 [.sl (l.map ZK),.rm (mN (bI at_))] (.sl ((l.filter λk=>!bO at_ k).map ZK)):=by
 have hgf:∀k,bl (mN (bI at_)) k=(ak at_ k).map λn=>AV.agg (ZN n):=λk=>by rw[gW,cc hu]
 refine wSG func39 ntmps39 results39 λC=>?_
 refine af (le_empty 40 138 8 z7) (wn ?_);refine wL l.length (λi=>(5,.osl 40 8 0 ((l.take i).filter λk=>!bO at_ k).length)::(7,.any)::(8,.any)::(9,.any)::(12,.int .i64 i)::u0 13 29 []) (λi=>[(40,.cells 138 8 (((l.take i).filter λk=>!bO at_ k).map ZK))]) ?_ λi hi=>?_
 ·exact wZ
 simp only[go_sem];refine wGD (λh=>?_) (λh=>?_)
 ·have hlt:=lt1 h;have hg:=Fam.getD (f:=ZK) hlt;have hw:=wi1 (i:=i) z8;have htk:(l.take (i+1)).filter (λk=>!bO at_ k)=(l.take i).filter (λk=>!bO at_ k)++if bO at_ (l.getD i default)=true then [] else [l.getD i default]:=by
   rw[ZT hlt,List.filter_append,List.filter_cons];cases bO at_ (l.getD i default)<;>simp
  have hll:((l.take i).filter λk=>!bO at_ k).length<=i:=by
   have:=YB (λk=>!bO at_ k) (l.take i);simp only[YF] at this;omega
  generalize (l.take i).filter (λk=>!bO at_ k)=D at htk hll;generalize l.getD i default=k at hg htk;have hg1:=hgf k.node.fid;have hst:bO at_ k=(!k.dirty&&(!(ak at_ k.node.fid).isSome||!(((ak at_ k.node.fid).getD aw).version==k.node.version))):=by unfold bO;rw[cK]
  have htq:List.take D.length (D.map ZK)=D.map ZK:=W4 w8;cases hff:ak at_ k.node.fid with
  | none=>
   rw[hff] at hg1 hst;simp only[Option.map_none] at hg1;refine wR ?_;refine wNq 4 ?_ ?_ z6 z6 j8
   ·simp[hg,ZK,hlt]
   refine wR ?_;refine wN 11 ?_ z6 z6 s9 Ql;cases hd:k.dirty with
   | true=>
    rw[hd] at hst;rw[hst,if_neg w8] at htk;refine wG ?_ Qf Zx;refine wDT ?_ (hb:=w8);refine wGq ?_ ?_ w4
    ·simp[htq,refs];omega
    exact ZB ⟨i+1,by omega,by omega,ZU j7 Wb w3⟩
   | false=>
    rw[hd] at hst;rw[hst,if_pos w8] at htk;refine wG ?_ Qf Zx;refine wDF ?_ (hb:=w8);refine wG ?_ w4 y7;exact ZB ⟨i+1,by omega,by omega,ZU j7 j7 w3⟩
  | some n=>
   rw[hff] at hg1 hst;simp only[Option.map_some] at hg1;refine wR ?_;refine wNq 4 ?_ ?_ z6 z6 j8
   ·simp[hg,ZK,hlt]
   refine wR ?_;refine wN 11 ?_ z6 z6 x6 p8;cases hd:k.dirty with
   | true=>
    rw[hd] at hst;rw[hst,if_neg w8] at htk;refine wG ?_ Qf Zx;refine wDT ?_ (hb:=w8);refine wGq ?_ ?_ w4
    ·simp[htq,refs];omega
    exact ZB ⟨i+1,by omega,by omega,ZU j7 Wb w3⟩
   | false=>
    rw[hd] at hst;cases hv:(n.version==k.node.version) with
    | true=>
     rw[hst,if_neg (by simp[hv])] at htk;refine wG ?_ Zq (by simp[go_sem,hd,hv,cond_true,cond_false]);refine wDT ?_ (hb:=w8);refine wGq ?_ ?_ w4
     ·simp[htq,refs];omega
     exact ZB ⟨i+1,by omega,by omega,ZU j7 Wb w3⟩
    | false=>
     rw[hst,if_pos (by simp[hv])] at htk;refine wG ?_ Zq (by simp[go_sem,hd,hv,cond_true,cond_false]);refine wDF ?_ (hb:=w8);refine wG ?_ w4 y7;exact ZB ⟨i+1,by omega,by omega,ZU j7 j7 w3⟩
 ·obtain rfl:=eq1 hi h;rw[W7];refine wG ?_;refine ZZ 40 rfl (bg _) (wn ?_);refine wT ?_;simp
theorem xD {l:List Kept} {room:Int} {k:Kept} (hl:SmallK l) (hk:k.node.Small) (h:cT l room k=none):Fo 112 [.sl (l.map ZK),.int .i64 room,.agg (ZK k)] (.tup [.sl (([]:List Kept).map ZK),.int .i64 5]):=by
 have:=CQ l room k hl hk;unfold rD at this;rw[h] at this;exact this
theorem F3 {l L:List Kept} {room:Int} {k:Kept} (hl:SmallK l) (hk:k.node.Small) (h:cT l room k=some L):Fo 112 [.sl (l.map ZK),.int .i64 room,.agg (ZK k)] (.tup [.sl (L.map ZK),.int .i64 0]):=by
 have:=CQ l room k hl hk;unfold rD at this;rw[h] at this;exact this
theorem ni {l:List Kept} {room:Int} {k:Kept} (hl:l.length<=90000000) (h:cT l room k=none):Fo 98 [.sl (l.map ZK),.int .i64 room,.agg (ZK k)] (.tup [.sl (([]:List Kept).map ZK),.int .i64 5]):=by
 have:=Au l room k hl;unfold rD at this;rw[h] at this;exact this
theorem kV {l L:List Kept} {room:Int} {k:Kept} (hl:l.length<=90000000) (h:cT l room k=some L):Fo 98 [.sl (l.map ZK),.int .i64 room,.agg (ZK k)] (.tup [.sl (L.map ZK),.int .i64 0]):=by
 have:=Au l room k hl;unfold rD at this;rw[h] at this;exact this
variable {Fa:Prop}
def uH (u:U) (G Y N:Nat->Nat):List (Nat×Blk):=[(900,.cells 121 13 [bt u])]++pins [900] G Y N
theorem D4 {l:List Kept} (hn:(l.map λk=>k.node.fid).Nodup) {fid:Int} {i:Nat} (hi:i<l.length) (hf:(l.getD i default).node.fid=fid):dV (l.take (i+1)) fid=some (l.getD i default).node/\dV (l.take i) fid=none:=by
 have h0:dV (l.take i) fid=none:=by
  unfold dV;rw[Option.map_eq_none_iff,List.find?_eq_none];intro x hx;obtain ⟨j,hj⟩:=YC hx;have hjl:=(W9.1 hj).1;rw[YF] at hjl;rw[YW,if_pos z8] at hj;simp only[beq_iff_eq];intro e;have h2:l[i]? = some (l.getD i default):=by rw[List.getD_eq_getElem?_getD,W3 hi];rfl
  have:=Ae hn hj h2 (e.trans hf.symm);omega
 refine ⟨?_,h0⟩;unfold dV at h0 ⊢;rw[ZT hi,List.find?_append];rw[Option.map_eq_none_iff] at h0;have hb:((l.getD i default).node.fid==fid)=true:=by rw[hf];exact beq_self_eq_true _
 rw[h0,Option.none_or,List.find?_cons];simp only[hb,Option.map_some]
theorem BM {l:List Kept} {fid:Int} {i:Nat} (hi:i<l.length) (hf:(l.getD i default).node.fid≠fid):dV (l.take (i+1)) fid=dV (l.take i) fid:=by
 unfold dV;rw[ZT hi,List.find?_append,List.find?_cons];rw[show ((l.getD i default).node.fid==fid)=false by simpa using hf];simp
def lD (l:List Kept) (f w c:Int) (i:Nat):List Kept:=(l.take i).map (gb f w c)
theorem zO {l:List Kept} (f w c:Int) {i:Nat} (h:i<l.length):lD l f w c (i+1)=lD l f w c i++[gb f w c (l.getD i default)]:=by unfold lD;rw[ZT h,List.map_append];rfl
theorem BC {l:List Kept} (f w c:Int) {i:Nat} (h:i<=l.length):(lD l f w c i).length=i:=by unfold lD;rw[List.length_map,YF];omega
theorem BB (l:List Kept) (f w c:Int):lD l f w c l.length=l.map (gb f w c):=by unfold lD;rw[W7]
@[go_sem,simp] theorem I_ (id s:Nat) (rows:List (List AV)) (n:Node):db id s rows (ZN n)=ZN n:=rfl
@[go_sem,simp] theorem Ja (off:Nat) (n:Node):gu off (ZN n)=ZN n:=rfl
@[go_sem,simp] theorem KN (n:Node):(ZN n).length=5:=rfl
theorem fV {l:List AV} (h:aA l=[]) {x:AV} (hx:x∈l) (id:Nat):¬id∈refs x:=λhi=>by
 obtain ⟨j,hj⟩:=YC hx;have:=aW hj hi;rw[h] at this;cases this
def iG (g:Got):AV:=.tup [.agg (ZN g.n),.int .i64 g.e]
theorem pO {B T:Nat} (u:U) (h:UInvF Fa B T u) (hB:B<=40000000) (hT:T<=1000000000000) (fid worth:Int) (G Y N:Nat->Nat):ai prog 90 [.ptr 900 13 0 0,.int .i64 fid,.int .i64 worth] (uH u G Y N)
  (λr H=>r=iG (bd u fid worth)/\Holds (uH (bd u fid worth).u G Y N) H):=by
 have hcl:=h.cli.clock;have hlen:u.c.cache.length<=24:=by have:=h.cli.len;have:=h.cli.room;omega
 have hnod:=h.cli.nod;have hup:=h.srv.hist.bs.up;have htl:u.s.tree.length<=24:=h.srv.hist.bs.len;have hw:IntKind.i64.wrap (u.c.clock+1)=u.c.clock+1:=Eng.wrap_small z8 z8;have hof:=wq u.s.tree z8;have hgf:∀k,bl (mN (bI u.s.tree)) k=(ak u.s.tree k).map λn=>AV.agg (ZN n):=λk=>by rw[gW,cc hup]
 have hgu:bd u fid worth=match dV u.c.cache fid with
  | some n=>⟨n,0,cy u fid worth⟩
  | none=>if u.c.away=true then ⟨aw,12,cy u fid worth⟩ else match ak u.s.tree fid with
   | none=>⟨aw,6,cy u fid worth⟩
   | some n=>⟨n,0,gx (cy u fid worth) ⟨n,false,worth,u.c.clock+1⟩⟩:=rfl
 have hD0:lD u.c.cache fid worth (u.c.clock+1) 0=[]:=rfl;have hDs:=λi=>@zO u.c.cache fid worth (u.c.clock+1) i
 have hDn:=λi=>@BC u.c.cache fid worth (u.c.clock+1) i
 have hDe:=BB u.c.cache fid worth (u.c.clock+1);generalize lD u.c.cache fid worth (u.c.clock+1)=D at *;unfold uH bt;refine wS func90 ntmps90 results90 λC=>?_
 refine wG ?_ w4 y7;refine af (le_empty 57 138 8 z7) (wn ?_);refine af (au 6) ?_;refine af (au 9) (wn ?_);refine wL u.c.cache.length (λi=>(8,.osl 57 8 0 i)::(10,.bool (dV (u.c.cache.take i) fid).isSome)::(12,.any)::(31,.int .i64 i)::u0 32 27 [])
  (λi=>[(9,.cells 94 5 [ZN ((dV (u.c.cache.take i) fid).getD aw)]),(57,.cells 138 8 ((D i).map ZK))]) ?_ λi hi=>?_
 ·simp only[go_sem];rw[hD0];exact ZU (by simp[go_sem,dV]) (by simp[go_sem,dV,ZN,aw]) QT
 simp only[go_sem];refine wGD (λh=>?_) (λh=>?_)
 ·have hlt:=lt1 h;have hg:=Fam.getD (f:=ZK) hlt;have hw1:=wi1 (i:=i) z8;have hgt:=hDs i hlt;have hDl:=hDn i hi;have hit:=@D4 u.c.cache hnod fid i hlt;have hms:=@BM u.c.cache fid i hlt;generalize D i=Di at *;generalize u.c.cache.getD i default=k at *;have htq:List.take i (Di.map ZK)=Di.map ZK:=W4 (by simp[hDl]);refine wGq ?_ ?_ j8
  ·simp[hg,ZK,hlt]
  refine wD (λh=>?_) (λh=>?_)
  ·have hf:k.node.fid=fid:=by simpa using h
   obtain ⟨hnk,hn0⟩:=hit hf;refine wGD (λh=>?_) (λh=>?_)
   ·have hwo:k.worth<worth:=by simpa using h
    have hk:gb fid worth (u.c.clock+1) k={ k with last:=u.c.clock+1,worth:=worth }:=by unfold gb mT;rw[if_pos hf,if_pos hwo]
    refine wGq ?_ ?_ k8
    ·simp[htq,refs];refine ⟨by omega,by omega,λx hx=>?_,λx hx y hy=>fV (ko x) hy _⟩
     first | exact fV (kq _) hx _ | skip
    exact ZB ⟨i+1,by omega,by omega,ZU Wy Z7 w3⟩
   ·have hwo:¬worth>k.worth:=by simpa using h
    have hk:gb fid worth (u.c.clock+1) k={ k with last:=u.c.clock+1 }:=by unfold gb mT;rw[if_pos hf,if_neg hwo]
    refine wGq ?_ ?_ k8
    ·simp[htq,refs];refine ⟨by omega,by omega,λx hx=>?_,λx hx y hy=>fV (ko x) hy _⟩
     first | exact fV (kq _) hx _ | skip
    exact ZB ⟨i+1,by omega,by omega,ZU Wy Z7 w3⟩
  ·have hf:k.node.fid≠fid:=by simpa using h
   have hnk:=hms hf;have hk:gb fid worth (u.c.clock+1) k=k:=by unfold gb;rw[if_neg hf]
   refine wGq ?_ ?_ k8
   ·simp[htq,refs];refine ⟨by omega,by omega,λx hx=>?_,λx hx y hy=>fV (ko x) hy _⟩
    first | exact fV (kq _) hx _ | skip
   exact ZB ⟨i+1,by omega,by omega,ZU Wy Z7 w3⟩
 ·obtain rfl:=eq1 hi h;rw[W7,hDe];refine wR ?_;have htk:List.take u.c.cache.length ((u.c.cache.map (gb fid worth (u.c.clock+1))).map ZK)=(u.c.cache.map (gb fid worth (u.c.clock+1))).map ZK:=W4 w8;refine ZZ 57 rfl (bg _) ?_;simp only[go_sem,htk];refine wG ?_;clear hgu;cases hnk:dV u.c.cache fid with
  | some n=>
   have hG:bd u fid worth=⟨n,0,cy u fid worth⟩:=by unfold bd;rw[hnk]
   rw[hG];refine wDT ?_ (hb:=rfl);refine wG ?_ w5 QT;refine wU ?_ ?_
   ·rfl
   ·exact q9
  | none=>
   refine wFG ?_ (hb:=rfl);cases ha:u.c.away with
   | true=>
    have hG:bd u fid worth=⟨aw,12,cy u fid worth⟩:=by unfold bd;rw[hnk];simp[ha]
    rw[hG];refine wDT ?_ (hb:=rfl);refine wG ?_ QO (by simp[go_sem,ZN,aw]);refine wU ?_ ?_
    ·rfl
    ·skip
     simp only[pins,gH,gI,gJ,gK]
     repeat' refine ZH ?_ ?_
     all_goals first | exact YH _ | rfl | simp[go_sem,cy,ha]
   | false=>
    refine wFG ?_ (hb:=rfl);refine wC ?_ func27 (hf:=hof);have hg1:=hgf fid;cases hff:ak u.s.tree fid with
    | none=>
     rw[hff] at hg1;simp only[Option.map_none] at hg1;have hG:bd u fid worth=⟨aw,6,cy u fid worth⟩:=by unfold bd;rw[hnk];simp[ha,hff]
     rw[hG];refine wG ?_ s9 Ql;refine wTG ?_ (hb:=rfl);refine af (au 6) (wn ?_);refine wU ?_ ?_
     ·rfl
     ·skip
      simp only[pins,gH,gI,gJ,gK]
      repeat' refine ZH ?_ ?_
      all_goals first | exact YH _ | rfl | simp[go_sem,cy,ha]
    | some n=>
     rw[hff] at hg1;simp only[Option.map_some] at hg1;refine wG ?_ x6 p8;refine wFG ?_ (hb:=rfl);have hcz:(u.c.cache.map (gb fid worth (u.c.clock+1))).length<=90000000:=by rw[List.length_map];omega
     have hG:bd u fid worth=⟨n,0,gx (cy u fid worth) ⟨n,false,worth,u.c.clock+1⟩⟩:=by unfold bd;rw[hnk];simp[ha,hff]
     rw[hG];refine wO ?_;refine sN 17 ?_;refine sB ?_;cases hkp:cT (u.c.cache.map (gb fid worth (u.c.clock+1))) u.c.room ⟨n,false,worth,u.c.clock+1⟩ with
     | none=>
      have hk:=ni hcz hkp;have hKU:gx (cy u fid worth) ⟨n,false,worth,u.c.clock+1⟩=cy u fid worth:=by unfold gx cy;simp only[hkp]
      rw[hKU];refine sC ?_ func98 (hf:=hk);refine sG ?_;refine wXG ?_;refine wFG ?_ (hb:=rfl);refine wU ?_ ?_
      ·rfl
      ·skip
       simp only[pins,gH,gI,gJ,gK]
       repeat' refine ZH ?_ ?_
       all_goals first | exact YH _ | rfl | simp[go_sem,cy,ha]
     | some L=>
      have hk:=kV hcz hkp;have hKU:gx (cy u fid worth) ⟨n,false,worth,u.c.clock+1⟩=⟨{ (cy u fid worth).c with cache:=L },u.s⟩:=by unfold gx cy;simp only[hkp]
      rw[hKU];refine sC ?_ func98 (hf:=hk);refine sG ?_;refine wXG ?_;refine wTG ?_ (hb:=rfl);refine wU ?_ ?_
      ·rfl
      ·skip
       simp only[pins,gH,gI,gJ,gK]
       repeat' refine ZH ?_ ?_
       all_goals first | exact YH _ | rfl | simp[go_sem,cy,ha]
def H3 (c:UInt8) (s:List UInt8) (i:Nat) (done:List (List UInt8)) (cur:List UInt8):Prop:=
 i<=s.length/\xj c done cur (s.drop i)=dn c s/\done.length<=i/\cur.length<=i
theorem Lc (s:List UInt8) (c:UInt8) (hs:s.length<=100000000):Fo 89 [.str s,.int .u8 (c.toNat:Int)] (.sl ((dn c s).map aZ)):=by
 refine wSG func89 ntmps89 results89 λC=>?_
 refine af (gy 7 20) ?_;refine ZL (λx:Nat×List (List UInt8)×List UInt8=>H3 c s x.1 x.2.1 x.2.2) (λx=>s.length-x.1) (λx=>(5,.osl 20 1 0 (x.2.1.length+1))::(6,.any)::(7,.any)::(10,.int .i64 x.1)::u0 11 28 []) (λx=>[(20,.cells 9 1 (x.2.1.map aZ++[[.str x.2.2]]))]) (0,[],[]) ⟨by omega,by rw[List.drop_zero,Fm],by simp,by simp⟩ ?_ λx hx=>?_
 ·exact wZ
 obtain ⟨i,done,cur⟩:=x;obtain ⟨hi,hc,hd,hcl⟩:=hx;simp only at hi hc hd hcl;simp only[go_sem];refine wGD (λh=>?_) (λh=>?_)
 ·have hlt:=lt1 h;have hw:=wi1 (i:=i) z8;have hdr:s.drop i=s.getD i 0::s.drop (i+1):=by
   rw[List.getD_eq_getElem?_getD,W3 hlt];simp
  have hdt:(s.take (i+1)).drop i=[s.getD i 0]:=by
   rw[ZT hlt,List.drop_left' QG];rfl
  rw[hdr,xj] at hc;refine wGq ?_ ?_
  ·simp;omega
  generalize s.getD i 0=x at hc hdt;refine wD (λh=>?_) (λh=>?_)
  ·have hx:x=c:=UInt8.toNat_inj.1 (by have:((x.toNat:Nat):Int)=c.toNat:=u1;omega);rw[if_pos hx] at hc;have htk:List.take (done.length+1) (done.map aZ++[[AV.str cur]])=done.map aZ++[[AV.str cur]]:=W4 w8;refine wGq ?_ ?_ w4
   ·simp[htk,refs];exact ⟨by omega,λx _ y hy=>by simp[aZ] at hy;subst hy;simp[refs]⟩
   refine ZB ⟨(i+1,done++[cur],[]),⟨by omega,hc,by simp;omega,by simp⟩,by simp only;omega,ZU ?_ ?_ ?_⟩
   ·simp[go_sem]
   ·simp[go_sem,htk,aZ]
   ·simp[go_sem]
  ·have hx:¬x=c:=λe=>by subst e;simp at h
   rw[if_neg hx] at hc;have hgr:(done.map aZ++[[AV.str cur]]).getD done.length []=[AV.str cur]:=by simp[List.getD_eq_getElem?_getD]
   have hsub:IntKind.i64.wrap (((done.length+1:Nat):Int)-1)=(done.length:Int):=by rw[Eng.wrap_small z8 z8];omega
   refine wO ?_;refine sNq 17 ?_ ?_ z6 z6 (by simp only[go_sem,hgr,hsub,hw];try exact rfl)
   ·simp[hgr,hsub,hw];omega
   refine sT ?_;refine sE ?_;refine wKd ?_;simp only[go_sem,hdt];refine wG ?_ w4 y7;refine ZB ⟨(i+1,done,cur++[x]),⟨by omega,hc,by simp only;omega,by simp;omega⟩,by simp only;omega,ZU ?_ ?_ ?_⟩
   ·simp[go_sem]
   ·simp[go_sem]
   ·simp[go_sem]
 ·have e:i=s.length:=by simp at h;omega
  subst e;rw[List.drop_length,xj] at hc;have hrows:done.map aZ++[[AV.str cur]]=(dn c s).map aZ:=by rw[<-hc];simp[aZ]
  have hlen:done.length+1=(dn c s).length:=by rw[<-hc];simp
  rw[hrows,hlen];refine wG ?_;refine ZZ 20 rfl (AM _) ?_;refine wT ?_;simp
theorem B3 (s:List UInt8) (hs:s.length<=10000000):ai prog 57 [.str s] [] (λr _=>Eng.nrm r=cD (ae s)):=by
 refine wS func57 ntmps57 results57 λC=>?_
 refine wR ?_;refine wN 2 ?_;refine wGD (λh=>?_) (λh=>?_)
 ·have h1:=lt1 h;refine wGT ?_;simp[ae,h1,cD,Eng.nrm,Eng.fo]
 have h1:¬40<s.length:=by simp at h;omega
 refine wGD (λh=>?_) (λh=>?_)
 ·have h2:s=[47]:=by simpa using h
  refine wGT ?_;simp[ae,h1,h2,cD,Eng.nrm,Eng.fo]
 have h2:s≠[47]:=by simpa using h
 refine wR ?_;refine wN 3 ?_;cases s with
 | nil=>
  refine wGD (λh=>?_) (λh=>?_)
  ·refine wGT ?_;simp[ae,cD,Eng.nrm,Eng.fo]
  ·cases h
 | cons x r=>
  refine wGD (λh=>?_) (λh=>?_)
  ·have h3:¬x=47:=λe=>by subst e;simp at h
   have h1':¬40<r.length+1:=h1;refine wGT ?_;simp[ae,h1',h3,cD,Eng.nrm,Eng.fo]
  have h3:x=47:=UInt8.toNat_inj.1 (by have:((x.toNat:Nat):Int)=47:=u1;show x.toNat=47;omega);subst h3;refine wR ?_;refine wN 1 ?_;refine wC ?_ func89 (hf:=Lc (47::r) 47 z8);have hcut:dn 47 (47::r)=[]::dn 47 r:=by simp[dn]
  have hR:ae (47::r)=if (dn 47 r).all cr then (dn 47 r,0) else ([],7):=by
   simp only[ae,if_neg h1,if_neg h2,List.head?_cons,ne_eq,not_true_eq_false,if_false,List.drop_succ_cons,List.drop_zero]
  have hcl:=su 47 r;have hcp:=nx 47 r;rw[hR,hcut];generalize dn 47 r=L at hcl hcp;simp only[List.length_cons] at hs;refine wGq ?_ ?_
  ·simp[aZ]
  refine ZL (λi:Nat=>i<=L.length/\(L.take i).all cr=true) (λi=>L.length-i) (λi=>(6,.any)::(24,.int .i64 i)::u0 25 7 []) (λ_=>[]) 0 ⟨by omega,by simp⟩ ?_ λi hi=>?_
  ·exact wZ
  obtain ⟨hi,hs2⟩:=hi;simp only[go_sem];refine wGD (λh=>?_) (λh=>?_)
  ·have hlt:=lt1 h;have hw:=wi1 (i:=i) z8;have hg:=Fam.getD (f:=aZ) hlt;have htk:=ZT hlt;have hmem:L.getD i default∈L:=by rw[List.getD_eq_getElem?_getD,W3 hlt];exact YY hlt
   have hxl:=hcp _ hmem;have hno:cr (L.getD i default)=false->L.all cr=false:=λh0=>by
    cases e:L.all cr with
    | false=>rfl
    | true=>rw[List.all_eq_true.1 e _ hmem] at h0;cases h0
   generalize L.getD i default=x at hg htk hxl hno hmem;refine wGq ?_ ?_ Zr
   ·simp[hg,aZ,hlt]
   refine wC ?_ func49 (hf:=uu x z8);refine wGD (λh=>?_) (λh=>?_)
   ·have h0:cr x=false:=by simpa using h
    refine wGT ?_;simp[hno h0,cD,Eng.nrm,Eng.fo]
   ·have h0:cr x=true:=by simpa using h
    refine wG ?_ w4 y7;refine ZB ⟨i+1,⟨by omega,by rw[htk,List.all_append,hs2];simp[h0]⟩,by omega,ZU ?_ ?_ ?_⟩
    ·simp[go_sem]
    ·simp[go_sem]
    ·simp[go_sem]
  ·obtain rfl:=eq1 hi h;rw[W7] at hs2;refine wGT ?_;simp[hs2,cD,Eng.nrm,Eng.fo,Ah]
theorem jq (s:List UInt8) (hs:s.length<=10000000):Fo 57 [.str s] (cD (ae s)):=xx (B3 s hs)
end La
