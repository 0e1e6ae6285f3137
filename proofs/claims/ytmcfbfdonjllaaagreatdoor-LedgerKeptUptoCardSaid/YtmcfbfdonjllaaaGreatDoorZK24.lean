/- Texts of this claim, part 24: PRel, PLedg4, PFateL, OpnE, LaidG. No condition. -/
import Derived.Test.YtmcfbfdonjllaaaGreatDoorZK23
import Derived.ChangeArms
import Derived.Test.YtmcfbfdonjllaaaGreatDoorCards
import Derived.Test.YtmcfbfdonjllaaaGreatDoorTie
import Derived.Deep.DeepHandedRow
import Derived.Lib.LaidTab
set_option maxRecDepth 10000
set_option maxHeartbeats 4000000
set_option linter.unusedSimpArgs false
set_option linter.unusedVariables false
namespace La
open Go Go.Eng
structure RelU (R:U->U->Prop):Prop where
 trans:∀{a b c:U},R a b->R b c->R a c
 idle:∀{u v:U},Idle u v->R u v
 act:∀(u:U) (a:Act) (seen:Int),R u (b_ u a seen).u
 away:∀u:U,R u ⟨{ u.c with away:=true },u.s⟩
 back:∀u:U,R u (gR u)
 hoard:∀(u:U) (h:List Hoard),R u ⟨{ u.c with hoards:=h },u.s⟩
theorem RelU.put {R:U->U->Prop} (h:RelU R) (g:Got) (data:List UInt8):R g.u (fW g data).u:=by
 unfold fW;split
 ·exact h.idle (Idle.refl _)
 ·exact h.act _ _ _
theorem RelU.step {R:U->U->Prop} (h:RelU R) (u:U) (x:Step):R u (aw u x).u:=by
 have h0:=h.idle (Idle.refl u);unfold aw;split
 ·split
  ·exact h0
  ·exact h.idle (bV _ _ _)
 ·split
  ·have hd:=h.idle (aW u x.path);unfold bM;split
   ·exact hd
   ·split
    ·exact hd
    ·split
     ·exact h.trans hd (h.trans (h.idle (dB _ _ _)) (h.put _ x.data))
     ·have hk:=h.trans hd (h.act (ak u x.path).u (cK (ak u x.path).n.fid (ak u x.path).name) (-1));split
      ·exact hk
      ·exact h.trans hk (h.trans (h.idle (bV _ _ _)) (h.put _ x.data))
  ·split
   ·have hd:=h.idle (aW u x.path);unfold ec;split
    ·exact hd
    ·exact h.trans hd (h.act _ _ _)
   ·split
    ·have hd:=h.idle (cT u x.path);unfold bH;split
     ·exact hd
     ·exact h.trans hd (h.act _ _ _)
    ·split
     ·have hd:=h.idle (cT u x.path);have he:=h.trans hd (h.idle (aW (atU u x.path).u x.toPath));unfold dm;split
      ·exact hd
      ·split
       ·exact he
       ·exact h.trans he (h.act _ _ _)
     ·split
      ·exact h.away u
      ·split
       ·exact h.back u
       ·split
        ·unfold da;split
         ·exact h0
         ·split
          ·exact h0
          ·split
           ·exact h0
           ·exact h.hoard u _
        ·split
         ·split
          ·exact h0
          ·exact h.idle (eD _ ⟨0,u⟩)
         ·exact h0
theorem pN {l:List Node} {a:Act} (he:aO l a=0):1≤a.kind/\a.kind≤5:=by
 by_cases h:1≤a.kind/\a.kind≤5
 ·exact h
 ·unfold aO at he;rw[if_neg z7,if_neg z7,if_neg z7,if_neg z7,if_neg z7] at he;cases he
theorem Hist.kind {p:List Past} {t:List Node} (h:Hist p t):∀q,q∈p->1≤q.act.kind/\q.act.kind≤5:=by
 induction h with
 | nil=>intro q hq;cases hq
 | @snoc p t c a h ha he ih=>
  intro q hq
  rcases List.mem_append.1 hq with hq | hq
  ·exact ih q hq
  ·rw[List.mem_singleton.1 hq];exact pN he
structure LR (u v:U):Prop where
 num:v.c.number=u.c.number
 past:∃q,v.s.past=u.s.past++q/\∀p,p∈q->p.client=u.c.number
 log:∀r,r∈v.c.log->r∈u.c.log\/(1≤r.act.kind/\r.act.kind≤5)
theorem LR.same {u v:U} (h1:v.c.number=u.c.number) (h2:v.s=u.s) (h3:v.c.log=u.c.log):LR u v:=⟨h1,⟨[],by rw[h2,List.append_nil],λp hp=>(by cases hp)⟩,λr hr=>.inl (by rw[←h3];exact hr)⟩
theorem LR.own (u:U) (a:Act) (seen:Int):LR u (jq u a seen).u:=by
 unfold jq;split
 ·exact LR.same rfl rfl rfl
 ·rename_i he;split
  ·exact LR.same rfl rfl rfl
  ·rename_i log hlog;split
   ·exact LR.same rfl rfl rfl
   ·unfold ua at hlog;refine ⟨rfl,⟨[],(List.append_nil _).symm,λp hp=>(by cases hp)⟩,λr hr=>?_⟩;have hr:r∈log:=hr
    rcases fP hlog with h1 | ⟨k,h1,rfl⟩
    ·exact .inl (h1.subset hr)
    ·rcases List.mem_append.1 hr with hr | hr
     ·exact .inl (h1.subset hr)
     ·rw[List.mem_singleton.1 hr];exact .inr (pN (l:=cy u.c) (a:=fB u.c a) z7)
theorem LR.rel:RelU LR where
 trans:=λh k=>by
  obtain ⟨q,hq,hc⟩:=h.past;obtain ⟨r,hr,hd⟩:=k.past;refine ⟨k.num.trans h.num,⟨q++r,by rw[hr,hq,WT],λp hp=>?_⟩,λr hr=>?_⟩
  ·rcases List.mem_append.1 hp with hp | hp
   ·exact hc p hp
   ·exact (hd p hp).trans h.num
  ·rcases k.log r hr with h1 | h1
   ·exact h.log r h1
   ·exact .inr h1
 idle:=λk=>LR.same k.number k.s k.log
 act:=λu a seen=>by
  unfold b_;split
  ·exact LR.own u a seen
  ·unfold fM;split
   ·exact ⟨rfl,⟨[⟨u.c.number,doA u.s a⟩],rfl,λp hp=>by rw[List.mem_singleton.1 hp]⟩,λr hr=>.inl hr⟩
   ·exact LR.same rfl rfl rfl
 away:=λu=>LR.same rfl rfl rfl
 back:=λu=>⟨rfl,⟨_,rfl,λp hp=>by obtain ⟨a,_,rfl⟩:=Zv.1 hp;rfl⟩,λr hr=>Zj⟩
 hoard:=λu h=>LR.same rfl rfl rfl
theorem Ft (u:U) (x:Step):LR u (aw u x).u:=LR.rel.step u x
theorem lX (u:U) (a:Act) (seen:Int):(b_ u a seen).u.c.repair=u.c.repair:=by
 unfold b_;split
 ·unfold jq;split
  ·rfl
  ·split
   ·rfl
   ·split<;>rfl
 ·unfold fM;split<;>rfl
theorem oS (u:U) (x:Step) (hk:x.kind≠8):(aw u x).u.c.repair=u.c.repair:=by
 have hp:∀(g:Got) (data:List UInt8),(fW g data).u.c.repair=g.u.c.repair:=λg data=>by
  unfold fW;split
  ·rfl
  ·exact lX _ _ _
 unfold aw;split
 ·split
  ·rfl
  ·exact (bV _ _ _).rep
 ·split
  ·have hd:=(aW u x.path).rep;unfold bM;split
   ·exact hd
   ·split
    ·exact hd
    ·split
     ·exact (hp _ _).trans ((dB _ _ _).rep.trans hd)
     ·have hk:=(lX (ak u x.path).u (cK (ak u x.path).n.fid (ak u x.path).name) (-1)).trans hd;split
      ·exact hk
      ·exact (hp _ _).trans ((bV _ _ _).rep.trans hk)
  ·split
   ·have hd:=(aW u x.path).rep;unfold ec;split
    ·exact hd
    ·exact (lX _ _ _).trans hd
   ·split
    ·have hd:=(cT u x.path).rep;unfold bH;split
     ·exact hd
     ·exact (lX _ _ _).trans hd
    ·split
     ·have hd:=(cT u x.path).rep;have he:=(aW (atU u x.path).u x.toPath).rep.trans hd;unfold dm;split
      ·exact hd
      ·split
       ·exact he
       ·exact (lX _ _ _).trans he
     ·split
      ·rfl
      ·split
       ·unfold da;split
        ·rfl
        ·split
         ·rfl
         ·split<;>rfl
       ·split
        ·split
         ·rfl
         ·exact (eD _ ⟨0,u⟩).rep
        ·rfl
theorem pS (w:Int):∀(fs:List Fate),cnt w fs=((List.range fs.length).filter λk=>(fs.getD k default).whr==w).length
 | []=>rfl
 | f::fs=>by
  have ih:=pS w fs;unfold cnt at ih ⊢;rw[List.length_cons,List.range_succ_eq_map,List.filter_cons,List.countP_cons,ih,List.filter_map];have h1:((λk=>((f::fs).getD k default).whr==w)∘Nat.succ)=λk=>(fs.getD k default).whr==w:=by funext k;rfl
  rw[h1]
  by_cases e:(f.whr==w)=true
  ·rw[if_pos e,if_pos (show (((f::fs).getD 0 default).whr==w)=true from e),List.length_cons,List.length_map]
  ·rw[if_neg e,if_neg (show ¬(((f::fs).getD 0 default).whr==w)=true from e),List.length_map];rfl
theorem Cp {a b:List Nat} (ha:a.Nodup) (hb:b.Nodup) (h:∀k,k∈a↔k∈b):a.length=b.length:=((List.perm_ext_iff_of_nodup ha hb).2 h).length_eq
theorem kP (n:Nat) (p:Nat->Bool):((List.range n).filter p).Nodup:=List.nodup_range.sublist Wn
theorem ez {n:Nat} {p:Nat->Bool} {k:Nat}:k∈(List.range n).filter p↔k<n/\p k=true:=by rw[Z0,WN]
theorem yO {K:Nat->Prop} {fs fs':List Fate} {w:Int} (h:ModF K fs fs') (h1:∀k,K k->(fs.getD k default).whr≠w/\(fs'.getD k default).whr≠w):cnt w fs'=cnt w fs:=by
 rw[pS,pS,h.len]
 congr 1
 refine List.filter_congr λk _=>?_
 by_cases hk:K k
 ·have:=h1 k hk;rw[beq_eq_false_iff_ne.2 this.1,beq_eq_false_iff_ne.2 this.2]
 ·rw[h.same k hk]
theorem El (w step c:Int) (n:Nat) (h:w≠4):cnt w (dE step c n)=0:=by
 unfold cnt dE;rw[List.countP_replicate,if_neg];simp only[beq_iff_eq];exact λe=>h e.symm
theorem C6 (fs:List Fate) (k:Nat) (w:Int) (i:Nat):((dV fs k w).getD i default).whr=(fs.getD i default).whr\/((dV fs k w).getD i default).whr=w:=by
 unfold dV;rw[bS];split
 ·exact .inr rfl
 ·exact .inl rfl
theorem mm (now:List Rec):∀(l:List Nat) (rs:List Rec) (fs:List Fate) (i:Nat),((bu now l rs fs).getD i default).whr=(fs.getD i default).whr\/((bu now l rs fs).getD i default).whr=4
 | [],_,fs,i=>by unfold bu;exact .inl rfl
 | _::_,[],fs,i=>by unfold bu;exact .inl rfl
 | k::l,r::rs,fs,i=>by
  unfold bu
  rcases mm now l rs (if (now.any λx=>x.id==r.id)=true then fs else dV fs k 4) i with h | h
  ·rw[h];split
   ·exact .inl rfl
   ·exact C6 fs k 4 i
  ·exact .inr h
theorem sd (now:List Rec):∀(l:List Nat) (rs:List Rec) (fs:List Fate) (i:Nat),l.length=rs.length->(∀k,k∈l->k<fs.length)->i<l.length->(now.any λx=>x.id==(rs.getD i default).id)=false ->
  ((bu now l rs fs).getD (l.getD i 0) default).whr=4
 | [],_,_,i,_,_,h,_=>by simp at h
 | _::_,[],_,_,h,_,_,_=>by simp at h
 | k::l,r::rs,fs,0,hl,hk,_,hn=>by
  have hn:(now.any λx=>x.id==r.id)=false:=hn;unfold bu;rw[hn]
  show ((bu now l rs (dV fs k 4)).getD k default).whr=4
  have h4:((dV fs k 4).getD k default).whr=4:=by
   unfold dV;rw[bS,if_pos ⟨rfl,hk k List.mem_cons_self⟩]
  rcases mm now l rs (dV fs k 4) k with h | h
  ·rw[h,h4]
  ·exact h
 | k::l,r::rs,fs,i+1,hl,hk,hi,hn=>by
  unfold bu;refine sd now l rs _ i p8 (λq hq=>?_) Qm hn;split
  ·exact hk q (List.mem_cons_of_mem _ hq)
  ·unfold dV;rw[WD];exact hk q (List.mem_cons_of_mem _ hq)
theorem zl (was:Cli) (ks:List Nat) (n:Nat):∀(rs:List Rec) (fs:List Fate) (i:Nat),((fz was ks n rs fs).getD i default).whr=(fs.getD i default).whr\/((fz was ks n rs fs).getD i default).whr=2
 | [],fs,i=>.inl rfl
 | r::rs,fs,i=>by
  unfold fz
  rcases zl was ks n rs (fs.set (cr was ks n r.id) { fs.getD (cr was ks n r.id) default with kind:=r.act.kind,whr:=2 }) i with h | h
  ·rw[h,bS];split
   ·exact .inr rfl
   ·exact .inl rfl
  ·exact .inr h
theorem rY:∀(ks:List Nat) (vs:List Verdict) (fs:List Fate),ks.length=vs.length->ks.Nodup->(∀k,k∈ks->k<fs.length/\(fs.getD k default).whr=2)->cnt 2 (bI ks vs fs)+ks.length=cnt 2 fs
 | [],[],fs,_,_,_=>rfl
 | [],_::_,_,h,_,_=>by simp at h
 | _::_,[],_,h,_,_=>by simp at h
 | k::ks,v::vs,fs,hl,hn,hk=>by
  have hn:=List.nodup_cons.1 hn;have hk0:=hk k List.mem_cons_self;have hw:(if v.err=0 then (1:Int) else 3)≠2:=by split<;>decide
  have hstep:=tA 2 fs k { fs.getD k default with whr:=if v.err=0 then 1 else 3 } hk0.1;rw[if_pos hk0.2,if_neg (show ¬({ fs.getD k default with whr:=if v.err=0 then 1 else 3 }:Fate).whr=2 from hw)] at hstep;have ih:=rY ks vs (dV fs k (if v.err=0 then 1 else 3)) p8 hn.2 λq hq=>⟨by unfold dV;rw[WD];exact (hk q (List.mem_cons_of_mem _ hq)).1,by
   unfold dV;rw[bS,if_neg Q7];exact (hk q (List.mem_cons_of_mem _ hq)).2⟩
  have hb:bI (k::ks) (v::vs) fs=bI ks vs (dV fs k (if v.err=0 then 1 else 3)):=rfl;rw[hb,List.length_cons];unfold dV at ih ⊢;omega
theorem xu {b:Bk} {was now:Cli} {ks:List Nat} {j:Nat} (hks:b.logs.getD j []=ks) (hI:IdI was) (hJ:IdI now) (hS:LS was now) (hl:ks.length=was.log.length) (hnd:ks.Nodup) (hat:∀k,k∈ks->k<b.fates.length/\(b.fates.getD k default).whr=2) (step:Int) :
  cnt 2 (bm step j was now b).fates+was.log.length=cnt 2 b.fates+now.log.length/\cnt 1 (bm step j was now b).fates=cnt 1 b.fates/\cnt 3 (bm step j was now b).fates=cnt 3 b.fates:=by
 have hlt:∀k,k∈ks->k<b.fates.length:=λk hk=>(hat k hk).1
 have hnod:=su hI hS hJ (n:=b.fates.length) hl hnd hlt;have hwh:=λr hr=>sv (r:=r) hI hS b.fates.length hl hr
 have hB:(bm step j was now b).fates=fz was ks b.fates.length now.log (bu now.log ks was.log b.fates++dE step j (now.logged-was.logged).toNat):=by unfold bm;rw[hks]
 rw[hB];generalize b.fates=fs at *;have hmd:=qJ (K:=λk=>k∈ks) now.log ks was.log fs λ_ hk=>hk
 generalize hF:bu now.log ks was.log fs=fs1 at *;generalize hM:(now.logged-was.logged).toNat=m at *;have hmn:=pB (K:=λk=>k∈now.log.map λr=>cr was ks fs.length r.id) was ks fs.length now.log (fs1++dE step j m) λr hr=>Zv.2 ⟨r,hr,rfl⟩
 have hlen:(fs1++dE step j m).length=fs.length+m:=by rw[List.length_append,hmd.len];simp[dE]
 have hold:∀k,k<fs.length->(fs1++dE step j m).getD k default=fs1.getD k default:=λk hk=>fm (by rw[hmd.len];exact hk)
 have hnew:∀k,fs.length≤k->k<fs.length+m->((fs1++dE step j m).getD k default).whr=4:=λk h1 h2=>by
  rw[eI (by rw[hmd.len];exact h1),hmd.len];unfold dE;rw[Zo,Wi,if_pos z7];rfl
 have hin:∀r,r∈now.log->cr was ks fs.length r.id<fs.length+m:=λr hr=>by
  rcases hwh r hr with h1 | h1
  ·have:=hlt _ h1;omega
  ·omega
 have h13:∀w:Int,w≠2->w≠4->cnt w (fz was ks fs.length now.log (fs1++dE step j m))=cnt w fs:=λw h2 h4=>by
  have a1:cnt w fs1=cnt w fs:=yO hmd λk hk=>by
   have h0:=(hat k hk).2;refine ⟨by rw[h0];exact λe=>h2 e.symm,?_⟩
   rcases mm now.log ks was.log fs k with h | h
   ·rw[←hF,h,h0];exact λe=>h2 e.symm
   ·rw[←hF,h];exact λe=>h4 e.symm
  have a2:cnt w (fz was ks fs.length now.log (fs1++dE step j m))=cnt w (fs1++dE step j m):=yO hmn λk hk=>by
   have h0:((fs1++dE step j m).getD k default).whr≠w:=by
    obtain ⟨r,hr,rfl⟩:=Zv.1 hk
    rcases hwh r hr with h1 | h1
    ·rw[hold _ (hlt _ h1)]
     rcases mm now.log ks was.log fs (cr was ks fs.length r.id) with h | h
     ·rw[←hF,h,(hat _ h1).2];exact λe=>h2 e.symm
     ·rw[←hF,h];exact λe=>h4 e.symm
    ·rw[hnew _ h1.1 h1.2];exact λe=>h4 e.symm
   refine ⟨h0,?_⟩
   rcases zl was ks fs.length now.log (fs1++dE step j m) k with h | h
   ·rw[h];exact h0
   ·rw[h];exact λe=>h2 e.symm
  rw[a2,pw,a1,El _ _ _ _ h4];rfl
 refine ⟨?_,h13 1 k8 k8,h13 3 k8 k8⟩
 -- by places: those of no record of this log, and those of the log
 have e0:cnt 2 fs=((List.range fs.length).filter (λk=>(fs.getD k default).whr==2&&!(ks.contains k))).length+ks.length:=by
  rw[pS,←List.length_append];refine Cp (kP _ _) (List.nodup_append.2 ⟨kP _ _,hnd,λa ha b hb e=>?_⟩) λk=>?_
  ·subst e;have:=(ez.1 ha).2;rw[Bool.and_eq_true,WQ,←Bool.not_eq_true,WA] at this;exact this.2 hb
  ·rw[List.mem_append,ez,ez]
   by_cases hk:k∈ks
   ·exact ⟨λ_=>.inr hk,λ_=>⟨hlt k hk,by rw[beq_iff_eq];exact (hat k hk).2⟩⟩
   ·refine ⟨λh=>.inl ⟨h.1,?_⟩,λh=>?_⟩
    ·rw[h.2,Wr,WQ,←Bool.not_eq_true,WA];exact hk
    ·rcases h with h | h
     ·exact ⟨h.1,(Bool.and_eq_true _ _▸h.2:_/\_).1⟩
     ·exact absurd h hk
 have e1:cnt 2 (fz was ks fs.length now.log (fs1++dE step j m))=((List.range fs.length).filter (λk=>(fs.getD k default).whr==2&&!(ks.contains k))).length+now.log.length:=by
  have hmap:(now.log.map λr=>cr was ks fs.length r.id).length=now.log.length:=List.length_map _;rw[pS,hmn.len,hlen,←hmap,←List.length_append];refine Cp (kP _ _) (List.nodup_append.2 ⟨kP _ _,hnod,λa ha b hb e=>?_⟩) λk=>?_
  ·subst e;have h1:=ez.1 ha;have h2:=h1.2;rw[Bool.and_eq_true,WQ,←Bool.not_eq_true,WA] at h2;obtain ⟨r,hr,e⟩:=Zv.1 hb
   rcases hwh r hr with h3 | h3
   ·rw[e] at h3;exact h2.2 h3
   ·have:=h1.1;omega
  ·rw[List.mem_append,ez,ez]
   by_cases hd:k∈now.log.map λr=>cr was ks fs.length r.id
   ·refine ⟨λ_=>.inr hd,λ_=>?_⟩;obtain ⟨r,hr,rfl⟩:=Zv.1 hd;refine ⟨hin r hr,?_⟩;rw[beq_iff_eq];exact (xV was ks fs.length now.log (fs1++dE step j m) hnod (λq hq=>by rw[hlen];exact hin q hq) r hr).1
   ·rw[hmn.same k hd]
    by_cases hk:k∈ks
    ·-- dropped
     have h4:(fs1.getD k default).whr=4:=by
      obtain ⟨i,hi,he⟩:=List.getElem_of_mem hk;have hke:ks.getD i 0=k:=by rw[Zo,Zp hi];exact he
      rw[←hF,←hke];refine sd now.log ks was.log fs i hl hlt hi ?_;cases ha:now.log.any (λx=>x.id==(was.log.getD i default).id) with
      | false=>rfl
      | true=>
       obtain ⟨r,hr,hre⟩:=List.any_eq_true.1 ha;have hre:r.id=(was.log.getD i default).id:=by simpa using hre
       refine absurd (Zv.2 ⟨r,hr,?_⟩) hd;have hwm:was.log.getD i default∈was.log:=YG z7;obtain ⟨i2,h5,h6,h7⟩:=kK hI fs.length hl hwm;have hii:i2=i:=by
        have hp:=hI.rise;have hnd2:(was.log.map (·.id)).Nodup:=hp.imp (λh=>by omega);refine (List.getElem_inj (xs:=was.log.map (·.id)) (i:=i2) (j:=i) (h₀:=y9) (h₁:=y9) hnd2).1 ?_;rw[List.getElem_map,List.getElem_map];rw[Zo,Zo,Zp z7,Zp z7] at h6;exact h6
       rw[hre,h7,hii,hke]
     rw[hold k (hlt k hk),h4];refine ⟨λh=>(by cases h.2),λh=>?_⟩
     rcases h with h | h
     ·have:=h.2;rw[Bool.and_eq_true,WQ,←Bool.not_eq_true,WA] at this;exact absurd hk this.2
     ·exact absurd h hd
    ·by_cases hkl:k<fs.length
     ·rw[hold k hkl,hmd.same k hk];refine ⟨λh=>.inl ⟨hkl,?_⟩,λh=>?_⟩
      ·rw[h.2,Wr,WQ,←Bool.not_eq_true,WA];exact hk
      ·rcases h with h | h
       ·exact ⟨by omega,(Bool.and_eq_true _ _▸h.2:_/\_).1⟩
       ·exact absurd h hd
     ·constructor
      ·rintro ⟨h1,h2⟩;rw[hnew k z7 h1] at h2;cases h2
      ·rintro (⟨h1,_⟩ | h1)
       ·exact absurd h1 hkl
       ·exact absurd h1 hd
 rw[e0,e1,hl];omega
theorem zB (f:Cli->Nat):∀(cs:List Cli) (j:Nat) (d:Cli),j<cs.length->((cs.set j d).map f).sum+f (cs.getD j default)=(cs.map f).sum+f d
 | [],_,_,h=>by simp at h
 | c::cs,0,d,_=>by
  show (f d+(cs.map f).sum)+f c=(f c+(cs.map f).sum)+f d
  omega
 | c::cs,j+1,d,h=>by
  have ih:=zB f cs j d j5
  show (f c+((cs.set j d).map f).sum)+f (cs.getD j default)=(f c+(cs.map f).sum)+f d
  omega
theorem tM (t:List Node) (c:Cli):(bp t c).repair=c.repair:=by unfold bp;split<;>rfl
theorem mu (t:List Node) (c:Cli):(bp t c).number=c.number:=by unfold bp;split<;>rfl
theorem tp (f:Cli->Nat) (hf:∀t c,f (bp t c)=f c) {w:Wor} {x:Step} (hx:¬(x.client<0\/x.client≥w.cs.length)) :
  ((aq w x).w.cs.map f).sum+f (w.cs.getD x.client.toNat default)=(w.cs.map f).sum+f (aw ⟨w.cs.getD x.client.toNat default,w.s⟩ x).u.c:=by
 have hi:x.client.toNat<w.cs.length:=by omega
 have hW:(aq w x).w.cs=(w.cs.set x.client.toNat (aw ⟨w.cs.getD x.client.toNat default,w.s⟩ x).u.c).map (bp (aw ⟨w.cs.getD x.client.toNat default,w.s⟩ x).u.s.tree):=by
  unfold aq;rw[if_neg hx]
 rw[hW,WX,show (f∘bp (aw ⟨w.cs.getD x.client.toNat default,w.s⟩ x).u.s.tree)=f from by funext c;exact hf _ c];exact zB f w.cs _ _ hi
theorem zH {w:Wor} {x:Step} (hx:¬(x.client<0\/x.client≥w.cs.length)):(aq w x).w.s=(aw ⟨w.cs.getD x.client.toNat default,w.s⟩ x).u.s:=by unfold aq;rw[if_neg hx]
structure FateOK (l:List Step) (f:Fate):Prop where
 step:0≤f.step/\f.step<l.length
 client:f.client=(l.getD f.step.toNat default).client
 kind:1≤f.kind/\f.kind≤5
 whr:1≤f.whr/\f.whr≤4
theorem FateOK.more {l:List Step} {f:Fate} (h:FateOK l f) (x:Step):FateOK (l++[x]) f where
 step:=⟨h.step.1,by have:=h.step.2;rw[List.length_append,List.length_singleton];omega⟩
 client:=by
  have:=h.step;rw[h.client,fm z7]
 kind:=h.kind
 whr:=h.whr
theorem wB {P:Fate->Prop} {fs:List Fate} (h:∀f,f∈fs->P f) (k:Nat) {g:Fate->Fate} (hg:∀f,P f->P (g f)):∀f,f∈fs.set k (g (fs.getD k default))->P f:=λf hf=>by
 by_cases hk:k<fs.length
 ·rcases WU hf with h1 | rfl
  ·exact h f h1
  ·exact hg _ (h _ (YG hk))
 ·rw[List.set_eq_of_length_le z7] at hf;exact h f hf
theorem s_ {l:List Step} {fs:List Fate} (h:∀f,f∈fs->FateOK l f) (k:Nat) {w:Int} (hw:1≤w/\w≤4):∀f,f∈dV fs k w->FateOK l f:=
 wB h k (g:=λf=>{ f with whr:=w }) λ_ hf=>⟨hf.step,hf.client,hf.kind,hw⟩
theorem rV {l:List Step}:∀(ks:List Nat) (vs:List Verdict) (fs:List Fate),(∀f,f∈fs->FateOK l f)->∀f,f∈bI ks vs fs->FateOK l f
 | [],_,fs,h=>by unfold bI;exact h
 | _::_,[],fs,h=>by unfold bI;exact h
 | k::ks,v::vs,fs,h=>by
  unfold bI;exact rV ks vs _ (s_ h k (by split<;>decide))
theorem sc {l:List Step} (now:List Rec):∀(ks:List Nat) (rs:List Rec) (fs:List Fate),(∀f,f∈fs->FateOK l f)->∀f,f∈bu now ks rs fs->FateOK l f
 | [],_,fs,h=>by unfold bu;exact h
 | _::_,[],fs,h=>by unfold bu;exact h
 | k::ks,r::rs,fs,h=>by
  unfold bu;refine sc now ks rs _ ?_;split
  ·exact h
  ·exact s_ h k k8
theorem wa {l:List Step} (was:Cli) (ks:List Nat) (n:Nat):∀(rs:List Rec) (fs:List Fate),(∀r,r∈rs->1≤r.act.kind/\r.act.kind≤5)->(∀f,f∈fs->FateOK l f)->∀f,f∈fz was ks n rs fs->FateOK l f
 | [],fs,_,h=>h
 | r::rs,fs,hr,h=>by
  unfold fz;exact wa was ks n rs _ (λq hq=>hr q (List.mem_cons_of_mem _ hq)) (wB h _ (g:=λf=>{ f with kind:=r.act.kind,whr:=2 }) λ_ hf=>⟨hf.step,hf.client,hr r List.mem_cons_self,by show (1:Int)≤2/\(2:Int)≤4;decide⟩)
structure LA (w:Wor) (b:Bk) (l:List Step):Prop where
 c1:cnt 1 b.fates=w.s.past.length
 c2:cnt 2 b.fates=(w.cs.map λc=>c.log.length).sum
 c3:cnt 3 b.fates=(w.cs.map λc=>c.repair.length).sum
 each:∀f,f∈b.fates->FateOK l f
 kinds:∀c,c∈w.cs->∀r,r∈c.log->1≤r.act.kind/\r.act.kind≤5
 num:∀j,j<w.cs.length->(w.cs.getD j default).number=j
theorem LA.step {B T:Nat} {w:Wor} {b:Bk} {l:List Step} (hw:WInv B T w) (hI:WId w) (hL:LI w.cs b) (h:LA w b l) (x:Step):LA (aq w x).w (cx w l.length x b) (l++[x]):=by
 by_cases hx:x.client<0\/x.client≥w.cs.length
 ·have h1:aq w x=⟨w,cz 6⟩:=by unfold aq;rw[if_pos hx]
  have h2:cx w l.length x b=b:=by unfold cx;rw[if_pos hx]
  rw[h1,h2];exact { h with each:=λf hf=>(h.each f hf).more x }
 ·have hi:x.client.toNat<w.cs.length:=by omega
  have hu:=hw.at hi;have hc:=pI hx;have hs:=zH hx;have hr:=Ft ⟨w.cs.getD x.client.toNat default,w.s⟩ x;have hnj:=h.num _ hi;have hkinds:∀c,c∈(aq w x).w.cs->∀r,r∈c.log->1≤r.act.kind/\r.act.kind≤5:=λc hcm r hrm=>by
   unfold aq at hcm;rw[if_neg hx] at hcm;obtain ⟨d,hd,rfl⟩:=Zv.1 hcm;rw[gb] at hrm
   rcases WU hd with hd | rfl
   ·exact h.kinds d hd r hrm
   ·rcases hr.log r hrm with h1 | h1
    ·exact h.kinds _ (YG hi) r h1
    ·exact h1
  have hnum:∀j,j<(aq w x).w.cs.length->((aq w x).w.cs.getD j default).number=j:=λj hj=>by
   rw[hc.len] at hj
   by_cases e:j=x.client.toNat
   ·rw[e,hc.at_,mu,hr.num];exact hnj
   ·rw[hc.other j hj e,mu];exact h.num j hj
  have s2:=tp (λc=>c.log.length) (λt c=>by rw[gb]) hx;have s3:=tp (λc=>c.repair.length) (λt c=>by rw[tM]) hx;have hnewF:FateOK (l++[x]) ⟨(l.length:Int),x.client,4,4⟩:=⟨by
   show (0:Int)≤(l.length:Int)/\(l.length:Int)<((l++[x]).length:Int)
   rw[List.length_append,List.length_singleton];omega,by
   show x.client=((l++[x]).getD (l.length:Int).toNat default).client
   rw[Int.toNat_natCast,eI (Zw _),WY];rfl,by show (1:Int)≤4/\(4:Int)≤5;decide,by show (1:Int)≤4/\(4:Int)≤4;decide⟩
  have hmore:∀f,f∈b.fates->FateOK (l++[x]) f:=λf hf=>(h.each f hf).more x
  have hx0:0≤x.client:=by omega
  have hxc:((x.client.toNat:Nat):Int)=x.client:=Int.toNat_of_nonneg hx0;unfold cx;rw[if_neg hx]
  by_cases h8:x.kind=8
  ·rw[if_pos h8];have hst:aw ⟨w.cs.getD x.client.toNat default,w.s⟩ x=⟨gR ⟨w.cs.getD x.client.toNat default,w.s⟩,⟨0,bC (aJ ⟨w.cs.getD x.client.toNat default,w.s⟩),((aJ ⟨w.cs.getD x.client.toNat default,w.s⟩).length-bC (aJ ⟨w.cs.getD x.client.toNat default,w.s⟩):Nat),[]⟩⟩:=by
    unfold aw;simp[h8]
   rw[hst] at s2 s3 hs;have hb:=Bx hu;have hll:(b.logs.getD x.client.toNat []).length=(aJ ⟨w.cs.getD x.client.toNat default,w.s⟩).length:=by rw[hL.each _ hi,hb.vlen]
   have hat:=hL.at_ _ hi;obtain ⟨k1,k3,_,_⟩:=uK _ _ b.fates hll (hL.nod _ hi) λk hk=>⟨(hat k hk).1,(hat k hk).2.1⟩
   have k2:=rY _ _ b.fates hll (hL.nod _ hi) λk hk=>⟨(hat k hk).1,(hat k hk).2.1⟩
   have p1:=hb.past;have p2:=hb.log;have p3:=hb.repair;have p4:=hb.vlen;have p5:=hb.done;have q1:=h.c1;have q2:=h.c2;have q3:=h.c3;simp only at s2 s3 p1 p2 p3 p4 p5;rw[p2] at s2;rw[p3] at s3;rw[List.length_nil] at s2;refine ⟨?_,?_,?_,?_,hkinds,hnum⟩
   ·show cnt 1 (bI _ _ _)=_
    rw[hs,p1,k1,q1]
   ·show cnt 2 (bI _ _ _)=_
    omega
   ·show cnt 3 (bI _ _ _)=_
    omega
   ·exact rV _ _ _ hmore
  ·rw[if_neg h8]
   by_cases ha:(w.cs.getD x.client.toNat default).away=true
   ·rw[if_pos ha];have hIj:=hI.ids (w.cs.getD x.client.toNat default) (YG hi);have hJ:=(hI.step x).ids ((aq w x).w.cs.getD x.client.toNat default) (YG (by rw[hc.len];exact hi));have hS:LS (w.cs.getD x.client.toNat default) ((aq w x).w.cs.getD x.client.toNat default):=by
     rw[hc.at_];exact (ur ⟨w.cs.getD x.client.toNat default,w.s⟩ x).trans (qk _ _)
    obtain ⟨k2,k1,k3⟩:=xu (b:=b) (ks:=b.logs.getD x.client.toNat []) (j:=x.client.toNat) rfl hIj hJ hS (hL.each _ hi) (hL.nod _ hi) (λk hk=>⟨(hL.at_ _ hi k hk).1,(hL.at_ _ hi k hk).2.1⟩) (l.length:Int);have hS':=A9 ⟨w.cs.getD x.client.toNat default,w.s⟩ ha x h8;have hlg:((aq w x).w.cs.getD x.client.toNat default).log=(aw ⟨w.cs.getD x.client.toNat default,w.s⟩ x).u.c.log:=by rw[hc.at_,gb]
    have hrep:(aw ⟨w.cs.getD x.client.toNat default,w.s⟩ x).u.c.repair=(w.cs.getD x.client.toNat default).repair:=oS _ x h8;rw[hrep] at s3;rw[hlg] at k2;have q2:=h.c2;have q3:=h.c3;refine ⟨?_,?_,?_,?_,hkinds,hnum⟩
    ·rw[k1,h.c1,hs,hS']
    ·omega
    ·omega
    ·intro f hf;refine wa _ _ _ _ _ (λr hrm=>hkinds _ (YG (by rw[hc.len];exact hi)) r hrm) (λf hf=>?_) f hf
     rcases List.mem_append.1 hf with hf | hf
     ·exact sc _ _ _ _ hmore f hf
     ·rw[List.eq_of_mem_replicate hf,hxc];exact hnewF
   ·have ha':(w.cs.getD x.client.toNat default).away=false:=by simpa using ha
    rw[if_neg ha];obtain ⟨q,hq,hqc⟩:=hr.past;have hp:(aq w x).w.s.past=w.s.past++q:=by rw[hs];exact hq
    have hgr:=lQ hu x;have hk:∀p,p∈q->1≤p.act.kind/\p.act.kind≤5:=λp hpm=>hgr.hist.kind p (by rw[←hs,hp];exact Zz _ hpm)
    have hlog0:=(hu.cli.here ha').1;have hlog1:(aw ⟨w.cs.getD x.client.toNat default,w.s⟩ x).u.c.log=[]:=by
     by_cases h7:x.kind=7
     ·unfold aw;simp only[h7];exact hlog0
     ·exact ((nf hu x).cli.here (tg _ ha' x h7)).1
    have hrep:(aw ⟨w.cs.getD x.client.toNat default,w.s⟩ x).u.c.repair=(w.cs.getD x.client.toNat default).repair:=oS _ x h8;rw[show (w.cs.getD x.client.toNat default).log=[] from hlog0,hlog1] at s2;rw[hrep] at s3;have hc0:∀w':Int,w'≠1->cnt w' (q.map λp=>(⟨(l.length:Int),p.client,p.act.kind,1⟩:Fate))=0:=λw' hw'=>by
     unfold cnt;rw[List.countP_map];refine List.countP_eq_zero.2 λp _=>?_
     simp only[Function.comp,beq_iff_eq];exact λe=>hw' e.symm
    have hc1:cnt 1 (q.map λp=>(⟨(l.length:Int),p.client,p.act.kind,1⟩:Fate))=q.length:=by
     unfold cnt;rw[List.countP_map];exact List.countP_eq_length.2 λp _=>rfl
    have hg:(gq (l.length:Int) ((aq w x).w.s.past.drop w.s.past.length) b).fates=b.fates++q.map λp=>(⟨(l.length:Int),p.client,p.act.kind,1⟩:Fate):=by
     unfold gq;rw[hp,List.drop_left]
    have q1:=h.c1;have q2:=h.c2;have q3:=h.c3;refine ⟨?_,?_,?_,?_,hkinds,hnum⟩
    ·rw[hg,pw,hc1,hp,List.length_append];omega
    ·rw[hg,pw,hc0 2 k8];omega
    ·rw[hg,pw,hc0 3 k8];omega
    ·rw[hg];intro f hf
     rcases List.mem_append.1 hf with hf | hf
     ·exact hmore f hf
     ·obtain ⟨p,hpm,rfl⟩:=Zv.1 hf;have hcl:p.client=x.client:=by rw[hqc p hpm,hnj,hxc]
      exact ⟨hnewF.step,by rw[hcl];exact hnewF.client,hk p hpm,by show (1:Int)≤1/\(1:Int)≤4;decide⟩
theorem Bs:∀(l:List Step) (B T:Nat) (g:GotK) (m:List Step),GoodK B T g->LA g.w g.b m->g.i=m.length ->
  LA (l.foldl (λg x=>(⟨(aq g.w x).w,cx g.w g.i x g.b,g.i+1⟩:GotK)) g).w (l.foldl (λg x=>(⟨(aq g.w x).w,cx g.w g.i x g.b,g.i+1⟩:GotK)) g).b (m++l) /\
  (l.foldl (λg x=>(⟨(aq g.w x).w,cx g.w g.i x g.b,g.i+1⟩:GotK)) g).w=l.foldl (λw x=>(aq w x).w) g.w
 | [],_,_,g,m,_,h,_=>by rw[List.append_nil];exact ⟨h,rfl⟩
 | x::l,B,T,g,m,hg,h,hi=>by
  have:=Bs l (B+20) (T+300) ⟨(aq g.w x).w,cx g.w g.i x g.b,g.i+1⟩ (m++[x]) ⟨iR hg.w x,hg.ids.step x,(tI hg.w hg.ids hg.li g.i x).1⟩
   (by rw[hi];exact h.step hg.w hg.ids hg.li x) (by show g.i+1=_;rw[hi];simp)
  rw[WT] at this;exact this
theorem D' {rooms:List Int} (hr:bc rooms=0) (l:List Step):LA (xo rooms l) (cI rooms l).b l:=by
 have hz:∀(f:Cli->Nat),(∀i r,f (lG i r)=0)->((fJ rooms).cs.map f).sum=0:=λf hf=>by
  unfold fJ eS;rw[WX];generalize List.range rooms.length=m
  induction m with
  | nil=>rfl
  | cons a m ih=>rw[List.map_cons,List.sum_cons,ih];exact hf _ _
 have hk0:∀c,c∈(fJ rooms).cs->∀r,r∈c.log->1≤r.act.kind/\r.act.kind≤5:=λc hc r hrm=>by
  unfold fJ eS at hc;obtain ⟨j,_,rfl⟩:=Zv.1 hc;cases hrm
 have hn0:∀j,j<(fJ rooms).cs.length->((fJ rooms).cs.getD j default).number=j:=λj hj=>by
  unfold fJ eS at hj ⊢;simp only[List.length_map,List.length_range] at hj;rw[Zo,Zr,Wf hj];rfl
 have h0:LA (fJ rooms) ⟨[],List.replicate rooms.length []⟩ []:=⟨rfl,(hz _ λ_ _=>rfl).symm,(hz _ λ_ _=>rfl).symm,λf hf=>(by cases hf),hk0,hn0⟩;have:=Bs l 0 0 ⟨fJ rooms,⟨[],List.replicate rooms.length []⟩,0⟩ [] (lC hr) h0 rfl;rw[List.nil_append] at this;unfold xo;rw[←this.2];exact this.1
noncomputable def cd (rooms:List Int) (l:List Step) (i:Nat):GotK:=cI rooms (l.take i)
theorem oz {rooms:List Int} {l:List Step} {i:Nat} (h:i<l.length):cd rooms l (i+1)=⟨(aq (cd rooms l i).w (l.getD i default)).w,cx (cd rooms l i).w (cd rooms l i).i (l.getD i default) (cd rooms l i).b,(cd rooms l i).i+1⟩:=by
 unfold cd cI;rw[ZT h,List.foldl_append];rfl
theorem ow {rooms:List Int} (hr:bc rooms=0) (l:List Step) (i:Nat) (hi:i≤l.length):GoodK (20*l.length) (300*l.length) (cd rooms l i)/\(cd rooms l i).i=i:=by
 have h:=tN (l.take i) (lC hr);rw[Z9,Wo hi] at h;obtain ⟨h1,h2⟩:=h;exact ⟨⟨⟨h1.w.srv.mono z7,λc hc=>(h1.w.cli c hc).mono z7 z7,h1.w.len⟩,h1.ids,h1.li⟩,h2.trans (WK _)⟩
theorem BY {rooms:List Int} (l:List Step):(cI rooms l).w=xo rooms l:=by
 have key:∀(l:List Step) (g:GotK),(l.foldl (λg x=>(⟨(aq g.w x).w,cx g.w g.i x g.b,g.i+1⟩:GotK)) g).w=l.foldl (λw x=>(aq w x).w) g.w:=λl=>by
  induction l with
  | nil=>exact λ_=>rfl
  | cons x l ih=>exact λg=>ih _
 exact key l _
theorem xB {rooms:List Int} (hr:bc rooms=0) (l:List Step) (i:Nat):∀j,j<(cd rooms l i).w.cs.length->((cd rooms l i).w.cs.getD j default).number=j:=by
 unfold cd;rw[BY];exact (D' hr (l.take i)).num
theorem zT {B T:Nat} {w:Wor} {b:Bk} (hw:WInv B T w) (i:Nat) (x:Step):(cx w i x b).fates.length≤b.fates.length+(B+20):=by
 have hW:=iR hw x;unfold cx;split
 ·omega
 ·rename_i hx;split
  ·show (bI _ _ b.fates).length≤_
   rw[nq];omega
  ·split
   ·unfold bm;simp only;rw[qQ,List.length_append,nD,vU];have h1:=(hw.cli (w.cs.getD x.client.toNat default) (YG z7)).logged;have h2:=(hW.cli ((aq w x).w.cs.getD x.client.toNat default) (YG (by rw[(pI hx).len];omega))).logged;omega
   ·unfold gq;simp only;rw[List.length_append,List.length_map,Wa];have:=hW.srv.len;omega
theorem qd {rooms:List Int} (hr:bc rooms=0) (l:List Step):∀i,i≤l.length->(cd rooms l i).b.fates.length≤i*(20*l.length+20)
 | 0,_=>by simp[cd,cI]
 | i+1,hi=>by
  rw[oz z7];have h:=qd hr l i z7;have h2:=zT (ow hr l i z7).1.w (cd rooms l i).i (l.getD i default) (b:=(cd rooms l i).b);rw[Ws];simp only;omega
theorem mq {rooms:List Int} (hr:bc rooms=0) (l:List Step) (hl:l.length≤80) (i:Nat) (hi:i≤l.length):(cd rooms l i).b.fates.length≤129600:=by
 have h:=qd hr l i hi;have h2:i*(20*l.length+20)≤80*1620:=Nat.mul_le_mul z7 z7;omega
noncomputable def ib (rooms:List Int) (l:List Step):List Fate:=if gz rooms l=0 then (cI rooms l).b.fates else []
theorem xA (rooms:List Int) (l:List Step):(ib rooms l).length≤129600:=by
 unfold ib;split
 ·rename_i he;obtain ⟨h1,h2⟩:=jv he;have:=mq h1 l h2 l.length (Zw _);unfold cd at this
  rwa [Zy] at this
 ·simp
end La
namespace La
open Go Go.Eng Go.Proofs Go.Proofs.YtmcfbfdonjllaaaGreatDoor
def RdC (w:World) (cs:List Value) (xs:List AV):Prop:=cs.length=xs.length/\∀(j:Nat) y,xs[j]? = some y->RdP (λb=>b<w.heap.size) w (cs.getD j undef) y
theorem Fg {w:World} {cs:List Value} {off:Nat} (h:cs.length=off):RdC w (cs.drop off) []:=
 ⟨by simp;omega,λj y hj=>by simp at hj⟩
theorem iL {w:World} {cs:List Value} {xs ys:List AV} (off s:Nat) (h:RdC w ((cs.drop off).take s) xs) (hs:xs.length=s) (k:RdC w (cs.drop (off+s)) ys):RdC w (cs.drop off) (xs++ys):=by
 obtain ⟨h1,h2⟩:=h;obtain ⟨k1,k2⟩:=k;have hl:(cs.drop off).length=s+(cs.drop (off+s)).length:=by
  simp only[Z9,Wa] at h1 k1 ⊢;omega
 refine ⟨by rw[List.length_append,hl,hs,k1],λj y hj=>?_⟩
 by_cases hjs:j<s
 ·rw[WC z7] at hj;have:=h2 j y hj
  rwa [Zo,WE,if_pos hjs,←Zo] at this
 ·rw[Z8 z7,hs] at hj;have:=k2 (j-s) y hj;rw[Zo,WJ] at this;rw[Zo,WJ]
  rwa [show off+s+(j-s)=off+j from by omega] at this
structure Rep (t:TypeId) {α:Type} (f:α->List AV) (q:α->Prop) (sz:α->Nat):Prop where
 size:∀x,(f x).length=(Tryz.prog).cellsOf t
 opn:∀{H:Type} (enc:TypeId×Value->H) (w:World) (n:Nat) (cs:List Value) (y:DataW H×List MemPlace),DataW.trod enc Tryz.prog w 0 (λ_=>true) true n t cs=some y ->
  ∃x:α,q x/\sz x≤Rows.uptoBulk y.1/\RdC w cs (f x)
theorem ZG {t:TypeId} {n:Nat} (h:tab.siz t=n) (h0:n≠0):(Tryz.prog).cellsOf t=n:=by
 obtain ⟨i,h1,h2,_⟩:=tK.siz t (by rw[h];exact h0);unfold Program.cellsOf;rw[h1];simp[h2,h]
theorem cT3:(Tryz.prog).cellsOf 3=1:=ZG (t:=3) (n:=1) rfl k8
theorem cT4:(Tryz.prog).cellsOf 4=1:=ZG (t:=4) (n:=1) rfl k8
theorem cT5:(Tryz.prog).cellsOf 5=1:=ZG (t:=5) (n:=1) rfl k8
theorem cT9:(Tryz.prog).cellsOf 9=1:=ZG (t:=9) (n:=1) rfl k8
theorem G0:(Tryz.prog).cellsOf 24=1:=ZG (t:=24) (n:=1) rfl k8
theorem G1:(Tryz.prog).cellsOf 26=6:=ZG (t:=26) (n:=6) rfl k8
theorem HH:(Tryz.prog).cellsOf 28=1:=ZG (t:=28) (n:=1) rfl k8
theorem HI:(Tryz.prog).cellsOf 40=1:=ZG (t:=40) (n:=1) rfl k8
theorem zr {t:TypeId} (ht:(Tryz.prog).underlying t=some (.int .i64)) (hs:(Tryz.prog).cellsOf t=1):Rep t (λn:Int=>[AV.int .i64 n]) (λn=>-9223372036854775808≤n/\n≤9223372036854775807) (λ_=>1) where
 size:=λ_=>by rw[hs];rfl
 opn:=λenc w n cs y h=>by
  obtain ⟨m,rfl,rfl,hw⟩:=DataW.trod_int ht h;refine ⟨m,?_,by simp[Rows.uptoBulk],rfl,λj y hj=>?_⟩
  ·simpa[Lit.wf,IntKind.min,IntKind.max,IntKind.bits,IntKind.signed] using hw
  ·cases j with
   | zero=>simp only[List.getElem?_cons_zero,Option.some.injEq] at hj;subst hj;exact .int _ _
   | succ j=>simp at hj
theorem zt {t:TypeId} (ht:(Tryz.prog).underlying t=some .string) (hs:(Tryz.prog).cellsOf t=1):Rep t (λs:List UInt8=>[AV.str s]) (λ_=>True) (λs=>s.length+1) where
 size:=λ_=>by rw[hs];rfl
 opn:=λenc w n cs y h=>by
  obtain ⟨s,rfl,rfl,_⟩:=DataW.trod_string ht h;refine ⟨s.data.toList,trivial,by simp[Rows.uptoBulk],rfl,λj y hj=>?_⟩;cases j with
  | zero=>simp only[List.getElem?_cons_zero,Option.some.injEq] at hj;subst hj;exact .str _ _ rfl
  | succ j=>simp at hj
theorem CT {t:TypeId} (ht:(Tryz.prog).underlying t=some (.int .u8)) (hs:(Tryz.prog).cellsOf t=1):Rep t ZY (λ_=>True) (λ_=>1) where
 size:=λ_=>by rw[hs];rfl
 opn:=λenc w n cs y h=>by
  obtain ⟨m,rfl,rfl,hw⟩:=DataW.trod_int ht h;have hb:0≤m/\m≤255:=by simpa[Lit.wf,IntKind.min,IntKind.max,IntKind.bits,IntKind.signed] using hw
  refine ⟨UInt8.ofNat m.toNat,trivial,by simp[Rows.uptoBulk],rfl,λj y hj=>?_⟩;cases j with
  | zero=>
   simp only[ZY,List.getElem?_cons_zero,Option.some.injEq] at hj;subst hj;have:((UInt8.ofNat m.toNat).toNat:Int)=m:=by
    rw[UInt8.toNat_ofNat'];omega
   rw[this];exact .int _ _
  | succ j=>simp[ZY] at hj
def szL {α:Type} (sz:α->Nat):List α->Nat
 | []=>0
 | x::r=>sz x+szL sz r
theorem zD {α:Type} {sz:α->Nat} {x:α}:∀{l:List α},x∈l->sz x≤szL sz l
 | y::r,h=>by
  rcases List.mem_cons.1 h with rfl | h
  ·simp only[szL];omega
  ·have:=zD (sz:=sz) h;simp only[szL];omega
theorem zC {α:Type} {sz:α->Nat} (h:∀x,1≤sz x):∀(l:List α),l.length≤szL sz l
 | []=>Zw _
 | x::r=>by have:=zC h r;have:=h x;simp only[szL,List.length_cons];omega
theorem sR {α H:Type} {q:α->Prop} {sz:α->Nat} {R:Nat->α->Prop}:∀(elems:List (DataW H×List MemPlace)) (i0:Nat),(∀(i:Nat) y,elems[i]? = some y->∃x,q x/\sz x≤Rows.uptoBulk y.1/\R (i0+i) x) ->
  ∃l:List α,l.length=elems.length/\(∀x,x∈l->q x)/\szL sz l≤Rows.uptoBulkAll (elems.map (·.1))/\∀(i:Nat) x,l[i]? = some x->R (i0+i) x
 | [],_,_=>⟨[],rfl,λx h=>by simp at h,by simp[szL],λi x h=>by simp at h⟩
 | y::r,i0,h=>by
  obtain ⟨x,h1,h2,h3⟩:=h 0 y rfl;obtain ⟨l,k1,k2,k3,k4⟩:=sR (R:=R) r (i0+1) (λi z hz=>by rw[show i0+1+i=i0+(i+1) from by omega];exact h (i+1) z Ql);refine ⟨x::l,by simp[k1],λz hz=>?_,?_,λi z hz=>?_⟩
  ·rcases List.mem_cons.1 hz with rfl | hz
   ·exact h1
   ·exact k2 z hz
  ·simp only[szL,List.map_cons,Rows.uptoBulkAll];omega
  ·cases i with
   | zero=>simp only[List.getElem?_cons_zero,Option.some.injEq] at hz;subst hz;exact h3
   | succ i=>rw[show i0+(i+1)=i0+1+i from by omega];exact k4 i z Ql
theorem xr {w:World} {a:Addr} {n:Nat} {cs:List Value} (h:w.cells? 0 a n=some cs):cs.length=n/\∀i,i<n->w.cell? (a.add i)=cs[i]?:=by
 unfold World.cells? at h;rw[if_pos (Wl _)] at h;have hl:=mapM_some_length h;refine ⟨by simpa using hl,λi hi=>?_⟩;exact mapM_some_get h i i (by simp[hi])
theorem oc {t e:TypeId} {α:Type} {f:α->List AV} {q:α->Prop} {sz:α->Nat} (ht:(Tryz.prog).underlying t=some (.slice e)) (hs:(Tryz.prog).cellsOf t=1) (he:Rep e f q sz) (hsz:(Tryz.prog).cellsOf e≠0) :
  Rep t (λl:List α=>[AV.sl (l.map f)]) (λl=>∀x,x∈l->q x) (λl=>szL sz l+1) where
 size:=λ_=>by rw[hs];rfl
 opn:=λenc w n cs y h=>by
  rcases DataW.trod_slice ht h with ⟨rfl,rfl⟩ | ⟨a,len,cap,elems,rest,m,rfl,rfl,rfl,h1,h2,h3,h4,h5,_⟩
  ·refine ⟨[],λx hx=>by simp at hx,by simp[szL,Rows.uptoBulk],rfl,λj y hj=>?_⟩;cases j with
   | zero=>
    simp only[List.map_nil,List.getElem?_cons_zero,Option.some.injEq] at hj;subst hj;exact .sl none 0 0 [] 0 0 0 (λ_ _=>undef) rfl (Zw _) (λrow h=>by simp at h) (λh=>by omega) (λi j h=>by omega) (λi row h=>by simp at h)
   | succ j=>simp at hj
  ·have key:∀(i:Nat) y,elems[i]? = some y->∃x,q x/\sz x≤Rows.uptoBulk y.1/\(∃cs,w.cells? 0 (a.add ((0+i)*(Tryz.prog).cellsOf e)) ((Tryz.prog).cellsOf e)=some cs/\RdC w cs (f x)):=λi y hy=>by
    have hi:i<len:=by rw[←h4];exact (Zu.1 hy).1
    have:=h5 i hi;rw[hy] at this;obtain ⟨cs,k1,k2⟩:=Option.bind_eq_some_iff.1 this;obtain ⟨x,q1,q2,q3⟩:=he.opn enc w m cs y k2;exact ⟨x,q1,q2,cs,by rw[WK];exact k1,q3⟩
   obtain ⟨l,l1,l2,l3,l4⟩:=sR (q:=q) (sz:=sz) (R:=λi x=>∃cs,w.cells? 0 (a.add (i*(Tryz.prog).cellsOf e)) ((Tryz.prog).cellsOf e)=some cs/\RdC w cs (f x)) elems 0 key;refine ⟨l,l2,by simp only[Rows.uptoBulk];omega,rfl,λj y hj=>?_⟩;cases j with
   | succ j=>simp at hj
   | zero=>
    simp only[List.getElem?_cons_zero,Option.some.injEq] at hj;subst hj;have hcell:∀i j,i<l.length->j<(Tryz.prog).cellsOf e->∃(b:a.spot=none\/True) (x:α) (cs:List Value),l[i]? = some x/\RdC w cs (f x)/\w.cell? (a.add (i*(Tryz.prog).cellsOf e) |>.add j)=cs[j]?/\j<cs.length:=λi j hi hj=>by
     obtain ⟨cs,k1,k2⟩:=l4 i l[i] (Zp hi);obtain ⟨c1,c2⟩:=xr k1;rw[WK] at c2;exact ⟨.inr trivial,l[i],cs,Zp hi,k2,c2 j hj,by omega⟩
    by_cases h0:l.length=0
    ·have:l=[]:=List.eq_nil_of_length_eq_zero h0;subst this;simp only[List.map_nil];have e0:len=0:=by rw[←h4,←l1];rfl
     subst e0;exact .sl (some a) 0 cap [] 0 0 0 (λ_ _=>undef) rfl (Wl _) (λrow h=>by simp at h) (λh=>by omega) (λi j h=>by omega) (λi row h=>by simp at h)
    ·have hspot:a.spot=none/\a.block<w.heap.size:=by
      obtain ⟨_,x,cs,_,_,c3,c4⟩:=hcell 0 0 z7 z7;rw[Zp c4] at c3;have c3':w.cell? a=some cs[0]:=by simpa[Addr.add] using c3
      unfold World.cell? at c3';split at c3'
      ·rename_i c e' f' hb;split at c3'
       ·cases c3'
       ·rename_i hsp;refine ⟨?_,?_⟩
        ·cases e:a.spot with
         | none=>rfl
         | some k=>rw[e] at hsp;simp at hsp
        ·exact (WL.1 hb).1
      ·cases c3'
     obtain ⟨ab,ao,asp⟩:=a;simp only at hspot;obtain ⟨rfl,hlt⟩:=hspot;have hadd:∀(i j:Nat),((⟨ab,ao,none⟩:Addr).add (i*(Tryz.prog).cellsOf e) |>.add j)=⟨ab,ao+(i*(Tryz.prog).cellsOf e+j),none⟩:=λi j=>by
      rw[add_plain,add_plain,Nat.add_assoc]
     refine .sl (some ⟨ab,ao,none⟩) len cap (l.map f) ((Tryz.prog).cellsOf e) ab ao (λi j=>(w.cell? ⟨ab,ao+(i*(Tryz.prog).cellsOf e+j),none⟩).getD undef) (by simp[l1,h4]) h2 (λrow hr=>?_) (λ_=>⟨rfl,hlt⟩) (λi j hi hj=>?_) (λi row hrow j x hx=>?_)
     ·obtain ⟨x,_,rfl⟩:=Zv.1 hr;exact he.size x
     ·obtain ⟨_,x,cs,_,_,c3,c4⟩:=hcell i j z7 hj;rw[hadd,Zp c4] at c3;rw[c3];rfl
     ·rw[Zr] at hrow;cases e1:l[i]? with
      | none=>rw[e1] at hrow;cases hrow
      | some x0=>
       rw[e1] at hrow;simp only[Option.map_some,Option.some.injEq] at hrow;subst hrow;have hi:i<l.length:=(Zu.1 e1).1;have hj:j<(Tryz.prog).cellsOf e:=by rw[←he.size x0];exact (Zu.1 hx).1
       obtain ⟨_,x1,cs,c1,c2,c3,c4⟩:=hcell i j hi hj;rw[e1] at c1;injection c1 with c1
       subst c1;have:=c2.2 j x hx;rw[hadd,Zp c4] at c3;simp only[c3,Option.getD_some]
       rwa [Zo,Zp c4] at this
theorem wu (t:TypeId) (ht:(Tryz.prog).underlying t=some (.int .i64)) (hs:tab.siz t=1):Rep t (λn:Int=>[AV.int .i64 n]) (λ_=>True) (λ_=>1):=
 ⟨(zr ht (ZG hs k8)).size,λenc w n cs y h=>by
  obtain ⟨x,_,h2,h3⟩:=(zr ht (ZG hs k8)).opn enc w n cs y h;exact ⟨x,trivial,h2,h3⟩⟩
theorem rj {α:Type}:∀(l:List α),szL (λ_=>1) l=l.length
 | []=>rfl
 | x::r=>by simp only[szL,rj r,List.length_cons];omega
theorem AI:Rep 24 (λl:List UInt8=>[AV.sl (l.map ZY)]) (λ_=>True) (λl=>szL (λ_=>1) l+1):=
 ⟨λ_=>by rw[G0];rfl,λenc w n cs y h=>by
  obtain ⟨x,_,h2,h3⟩:=(oc (f:=ZY) (q:=λ_=>True) (sz:=(λ_=>1)) Tryz.underlying24 (G0) (CT Tryz.underlying5 (cT5)) (by rw[cT5];decide)).opn enc w n cs y h;exact ⟨x,trivial,h2,h3⟩⟩
theorem CV:Rep 40 (λl:List Int=>[AV.sl (l.map ZI)]) (λ_=>True) (λl=>szL (λ_=>1) l+1):=
 ⟨λ_=>by rw[HI];rfl,λenc w n cs y h=>by
  obtain ⟨x,_,h2,h3⟩:=(oc (f:=ZI) (q:=λ_=>True) (sz:=(λ_=>1)) Tryz.underlying40 (HI) (wu 3 Tryz.underlying3 rfl) (by rw[cT3];decide)).opn enc w n cs y h;exact ⟨x,trivial,h2,h3⟩⟩
def Step.sz (x:Step):Nat:=x.path.length+x.toPath.length+x.data.length+1
theorem CW:Rep 26 ZX (λ_=>True) Step.sz where
 size:=λx=>by rw[G1];rfl
 opn:=λenc w n cs y h=>by
  obtain ⟨xs,m,rfl,rfl,hl,hxl,hf⟩:=DataW.trod_struct Tryz.underlying26 h;obtain ⟨y0,y1,y2,y3,y4,y5,rfl⟩:∃y0 y1 y2 y3 y4 y5,xs=[y0,y1,y2,y3,y4,y5]:=by
   have hxl:xs.length=6:=hxl
   match xs,hxl with
   | [a0,a1,a2,a3,a4,a5],_=>exact ⟨a0,a1,a2,a3,a4,a5,rfl⟩
  have e0:DataW.trod enc Tryz.prog w 0 (λ_=>true) true m 3 ((cs.drop 0).take ((Tryz.prog).cellsOf 3))=some y0:=hf 0 _ rfl;obtain ⟨x0,q0,s0,r0⟩:=(wu 3 Tryz.underlying3 rfl).opn enc w m _ _ e0;rw[cT3] at r0;have e1:DataW.trod enc Tryz.prog w 0 (λ_=>true) true m 3 ((cs.drop 1).take ((Tryz.prog).cellsOf 3))=some y1:=hf 1 _ rfl;obtain ⟨x1,q1,s1,r1⟩:=(wu 3 Tryz.underlying3 rfl).opn enc w m _ _ e1;rw[cT3] at r1;have e2:DataW.trod enc Tryz.prog w 0 (λ_=>true) true m 3 ((cs.drop 2).take ((Tryz.prog).cellsOf 3))=some y2:=hf 2 _ rfl;obtain ⟨x2,q2,s2,r2⟩:=(wu 3 Tryz.underlying3 rfl).opn enc w m _ _ e2;rw[cT3] at r2;have e3:DataW.trod enc Tryz.prog w 0 (λ_=>true) true m 9 ((cs.drop 3).take ((Tryz.prog).cellsOf 9))=some y3:=hf 3 _ rfl;obtain ⟨x3,q3,s3,r3⟩:=(zt Tryz.underlying9 (cT9)).opn enc w m _ _ e3;rw[cT9] at r3;have e4:DataW.trod enc Tryz.prog w 0 (λ_=>true) true m 9 ((cs.drop 4).take ((Tryz.prog).cellsOf 9))=some y4:=hf 4 _ rfl;obtain ⟨x4,q4,s4,r4⟩:=(zt Tryz.underlying9 (cT9)).opn enc w m _ _ e4;rw[cT9] at r4;have e5:DataW.trod enc Tryz.prog w 0 (λ_=>true) true m 24 ((cs.drop 5).take ((Tryz.prog).cellsOf 24))=some y5:=hf 5 _ rfl;obtain ⟨x5,q5,s5,r5⟩:=(AI).opn enc w m _ _ e5;rw[G0] at r5;refine ⟨⟨x0,x1,x2,x3,x4,x5⟩,trivial,?_,?_⟩
  ·simp only[rj] at s5;simp only[Step.sz,Rows.uptoBulk,Rows.uptoBulkAll,List.map_cons,List.map_nil];omega
  ·have hl:cs.length=6:=by rw[hl,G1]
   have:=iL 0 1 r0 rfl (iL 1 1 r1 rfl (iL 2 1 r2 rfl (iL 3 1 r3 rfl (iL 4 1 r4 rfl (iL 5 1 r5 rfl (Fg hl))))));rw[List.drop_zero] at this;exact this
theorem AJ:Rep 28 (λl:List Step=>[AV.sl (l.map ZX)]) (λ_=>True) (λl=>szL Step.sz l+1):=
 ⟨λ_=>by rw[HH];rfl,λenc w n cs y h=>by
  obtain ⟨x,_,h2,h3⟩:=(oc (f:=ZX) (q:=λ_=>True) (sz:=Step.sz) Tryz.underlying28 (HH) (CW) (by rw[G1];decide)).opn enc w n cs y h;exact ⟨x,trivial,h2,h3⟩⟩
theorem qR {t:TypeId} {α:Type} {f:α->List AV} {q:α->Prop} {sz:α->Nat} (h:Rep t f q sz) {H:Type} {enc:TypeId×Value->H} {w:World} {v:Value} {d:DataW H} {ps:List MemPlace}
  (hd:DataW.Trod enc Tryz.prog w 0 (λ_=>true) true t v d ps):∃x,q x/\sz x≤Rows.uptoBulk d/\RdC w v.cells.toList (f x):=by
 obtain ⟨n,hn⟩:=hd;exact h.opn enc w n _ _ hn
theorem ud {w:World} {v:Value} {x:AV} (h:RdC w v.cells.toList [x]) (hv:∀cs,v≠.agg cs):RdP (λb=>b<w.heap.size) w v x:=by
 have:=h.2 0 x rfl;cases v with
 | agg cs=>exact absurd rfl (hv cs)
 | _=>exact this
theorem Cc {l:List Int} (h:szL (λ_=>1) l≤1048576):l.length≤100000000:=by rw[rj] at h;omega
theorem C' {l:List Step} (h:szL Step.sz l≤1048576):StepsOK l:=
 ⟨by have:=zC (sz:=Step.sz) (λr=>by unfold Step.sz;omega) l;omega,λx hx=>by
  have:=zD (sz:=Step.sz) hx;have h2:x.sz=x.path.length+x.toPath.length+x.data.length+1:=rfl;exact ⟨by omega,by omega⟩⟩
def put (w:World) (b:Nat) (l:List Value):World:=
 { w with heap:=w.heap.modify b fun
   | .cells _ t frozen=>.cells l.toArray t frozen
   | o=>o }
noncomputable def nQ (os:Os):World:=
 put (put (World.holding Tryz.prog os ⟨#[],#[],[]⟩) 1 (Pinned.utf8FirstZ.map λ(n:Nat)=>Value.int .u8 n)) 2 [.int .u8 128,.int .u8 191,.int .u8 160,.int .u8 191,.int .u8 128,.int .u8 159,.int .u8 144,.int .u8 191,.int .u8 128,.int .u8 143,.int .u8 0,.int .u8 0,.int .u8 0,.int .u8 0,.int .u8 0,.int .u8 0,.int .u8 0,.int .u8 0,.int .u8 0,.int .u8 0,.int .u8 0,.int .u8 0,.int .u8 0,.int .u8 0,.int .u8 0,.int .u8 0,.int .u8 0,.int .u8 0,.int .u8 0,.int .u8 0,.int .u8 0,.int .u8 0]
end La
