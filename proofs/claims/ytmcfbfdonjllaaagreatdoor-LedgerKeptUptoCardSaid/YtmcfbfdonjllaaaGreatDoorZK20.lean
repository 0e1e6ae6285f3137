/- Texts of this claim, part 20: PIds, PIds2, PCHere, PCAway, PFate, PBook, ModC, RKeepK, RFreshK, CKeep, RU, Cut, RSplit, RGo, RHoard, RAdd2. No condition. -/
import Derived.Test.YtmcfbfdonjllaaaGreatDoorZK19
import Derived.Test.YtmcfbfdonjllaaaGreatDoorZK18
set_option maxRecDepth 10000
set_option maxHeartbeats 4000000
set_option linter.unusedSimpArgs false
set_option linter.unusedVariables false
namespace La
open Go Go.Eng
structure IdI (c:Cli):Prop where
 rise:(c.log.map (·.id)).Pairwise (·<·)
 bnd:∀r,r∈c.log->1≤r.id/\r.id≤c.logged
 pos:0≤c.logged
theorem IdI.same {c d:Cli} (h:IdI c) (h1:d.log=c.log) (h2:d.logged=c.logged):IdI d:=⟨by rw[h1];exact h.rise,by rw[h1,h2];exact h.bnd,by rw[h2];exact h.pos⟩
theorem IdI.idle {u v:U} (h:IdI u.c) (k:Idle u v):IdI v.c:=h.same k.log k.logged
theorem fP {l m:List Rec} {r:Rec} (h:eV l r=some m):m.Sublist l\/∃k,k.Sublist l/\m=k++[r]:=by
 unfold eV at h;split at h
 ·injection h with h;subst h
  exact .inl Wn
 ·split at h
  ·cases h
  ·injection h with h
   exact .inr ⟨gN l r,nh l r,h.symm⟩
theorem IdI.own {u:U} (h:IdI u.c) (a:Act) (seen:Int):IdI (jq u a seen).u.c:=by
 unfold jq;split
 ·exact h
 ·split
  ·exact h
  ·rename_i log hlog;split
   ·exact h
   ·unfold ua at hlog;refine ⟨?_,λr hr=>?_,?_⟩
    ·show (log.map (·.id)).Pairwise (·<·)
     rcases fP hlog with h1 | ⟨k,h1,rfl⟩
     ·exact h.rise.sublist (h1.map _)
     ·rw[List.map_append,List.pairwise_append];refine ⟨h.rise.sublist (h1.map _),by simp,λx hx y hy=>?_⟩;obtain ⟨r,hr,rfl⟩:=Zv.1 hx;simp only[List.map_cons,List.map_nil,List.mem_singleton] at hy;subst hy;have:=(h.bnd r (h1.subset hr)).2;omega
    ·have hr:r∈log:=hr
     show 1≤r.id/\r.id≤u.c.logged+1
     have hp:=h.pos
     rcases fP hlog with h1 | ⟨k,h1,rfl⟩
     ·have:=h.bnd r (h1.subset hr);omega
     ·rcases List.mem_append.1 hr with hr | hr
      ·have:=h.bnd r (h1.subset hr);omega
      ·rw[List.mem_singleton.1 hr]
       show 1≤u.c.logged+1/\u.c.logged+1≤u.c.logged+1
       omega
    ·show 0≤u.c.logged+1
     have:=h.pos;omega
theorem IdI.here {u:U} (h:IdI u.c) (a:Act):IdI (fM u a).u.c:=by
 unfold fM;split
 ·exact h.same rfl rfl
 ·exact h
theorem IdI.act {u:U} (h:IdI u.c) (a:Act) (seen:Int):IdI (b_ u a seen).u.c:=by
 unfold b_;split
 ·exact h.own a seen
 ·exact h.here a
theorem IdI.put {g:Got} (h:IdI g.u.c) (data:List UInt8):IdI (fW g data).u.c:=by
 unfold fW;split
 ·exact h
 ·exact h.act _ _
theorem IdI.write {u:U} (h:IdI u.c) (path data:List UInt8):IdI (bM u path data).u.c:=by
 have hd:=h.idle (aW u path);unfold bM;split
 ·exact hd
 ·split
  ·exact hd
  ·split
   ·exact IdI.put (hd.idle (dB _ _ _)) data
   ·have hk:=hd.act (cK (ak u path).n.fid (ak u path).name) (-1);split
    ·exact hk
    ·exact IdI.put (hk.idle (bV _ _ _)) data
theorem IdI.step {u:U} (h:IdI u.c) (x:Step):IdI (aw u x).u.c:=by
 unfold aw;split
 ·split
  ·exact h
  ·exact h.idle (bV _ _ _)
 ·split
  ·exact h.write _ _
  ·split
   ·have hd:=h.idle (aW u x.path);unfold ec;split
    ·exact hd
    ·exact hd.act _ _
   ·split
    ·have hd:=h.idle (cT u x.path);unfold bH;split
     ·exact hd
     ·exact hd.act _ _
    ·split
     ·have hd:=h.idle (cT u x.path);have he:=hd.idle (aW (atU u x.path).u x.toPath);unfold dm;split
      ·exact hd
      ·split
       ·exact he
       ·exact he.act _ _
     ·split
      ·exact h.same rfl rfl
      ·split
       ·exact ⟨List.Pairwise.nil,λr hr=>Zj,h.pos⟩
       ·split
        ·unfold da;split
         ·exact h
         ·split
          ·exact h
          ·split
           ·exact h
           ·exact h.same rfl rfl
        ·split
         ·split
          ·exact h
          ·exact h.idle (eD _ ⟨0,u⟩)
         ·exact h
theorem IdI.new (i room:Int):IdI (lG i room):=⟨List.Pairwise.nil,λr hr=>Zj,Int.le_refl 0⟩
theorem IdI.fresh {c:Cli} (h:IdI c) (t:List Node):IdI (bp t c):=by
 unfold bp;split
 ·exact h
 ·exact h.same rfl rfl
structure WId (w:Wor):Prop where
 ids:∀c,c∈w.cs->IdI c
theorem WId.step {w:Wor} (h:WId w) (x:Step):WId (aq w x).w:=by
 constructor;unfold aq;split
 ·exact h.ids
 ·rename_i hx;intro c hc;obtain ⟨d,hd,rfl⟩:=Zv.1 hc;refine IdI.fresh ?_ _
  rcases WU hd with hd | rfl
  ·exact h.ids d hd
  ·exact (h.ids _ (YG (show x.client.toNat<w.cs.length by omega))).step x
structure LS (c d:Cli):Prop where
 le:c.logged≤d.logged
 from_:∀r,r∈d.log->(∃q,q∈c.log/\q.id=r.id)\/(c.logged<r.id/\r.id≤d.logged)
 num:d.number=c.number
theorem LS.refl (c:Cli):LS c c:=⟨Int.le_refl _,λr hr=>.inl ⟨r,hr,rfl⟩,rfl⟩
theorem LS.trans {c d e:Cli} (h:LS c d) (k:LS d e):LS c e:=⟨Int.le_trans h.le k.le,λr hr=>by
 have h1:=h.le;have h2:=k.le
 rcases k.from_ r hr with ⟨q,hq,hi⟩ | ⟨h3,h4⟩
 ·rcases h.from_ q hq with ⟨p,hp,hi2⟩ | ⟨h5,h6⟩
  ·exact .inl ⟨p,hp,hi2.trans hi⟩
  ·exact .inr ⟨by omega,by omega⟩
 ·exact .inr ⟨by omega,h4⟩,k.num.trans h.num⟩
theorem LS.same {c d:Cli} (h1:d.log=c.log) (h2:d.logged=c.logged) (h3:d.number=c.number):LS c d:=⟨by rw[h2];exact Int.le_refl _,λr hr=>.inl ⟨r,by rw[←h1];exact hr,rfl⟩,h3⟩
theorem Idle.ls {u v:U} (k:Idle u v):LS u.c v.c:=LS.same k.log k.logged k.number
theorem Hn (u:U) (a:Act) (seen:Int):LS u.c (jq u a seen).u.c:=by
 unfold jq;split
 ·exact LS.refl _
 ·split
  ·exact LS.refl _
  ·rename_i log hlog;split
   ·exact LS.refl _
   ·unfold ua at hlog;refine ⟨?_,λr hr=>?_,rfl⟩
    ·show u.c.logged≤u.c.logged+1
     omega
    ·have hr:r∈log:=hr
     show _\/(u.c.logged<r.id/\r.id≤u.c.logged+1)
     rcases fP hlog with h1 | ⟨k,h1,rfl⟩
     ·exact .inl ⟨r,h1.subset hr,rfl⟩
     ·rcases List.mem_append.1 hr with hr | hr
      ·exact .inl ⟨r,h1.subset hr,rfl⟩
      ·rw[List.mem_singleton.1 hr];exact .inr ⟨by show u.c.logged<u.c.logged+1;omega,by show u.c.logged+1≤u.c.logged+1;omega⟩
theorem pK (u:U) (a:Act) (seen:Int):LS u.c (b_ u a seen).u.c:=by
 unfold b_;split
 ·exact Hn u a seen
 ·unfold fM;split
  ·exact LS.same rfl rfl rfl
  ·exact LS.refl _
theorem CO (g:Got) (data:List UInt8):LS g.u.c (fW g data).u.c:=by
 unfold fW;split
 ·exact LS.refl _
 ·exact pK _ _ _
theorem Dm (u:U) (path data:List UInt8):LS u.c (bM u path data).u.c:=by
 have hd:=(aW u path).ls;unfold bM;split
 ·exact hd
 ·split
  ·exact hd
  ·split
   ·exact hd.trans ((dB _ _ _).ls.trans (CO _ data))
   ·have hk:=hd.trans (pK (ak u path).u (cK (ak u path).n.fid (ak u path).name) (-1));split
    ·exact hk
    ·exact hk.trans ((bV _ _ _).ls.trans (CO _ data))
theorem ur (u:U) (x:Step):LS u.c (aw u x).u.c:=by
 unfold aw;split
 ·split
  ·exact LS.refl _
  ·exact (bV _ _ _).ls
 ·split
  ·exact Dm _ _ _
  ·split
   ·have hd:=(aW u x.path).ls;unfold ec;split
    ·exact hd
    ·exact hd.trans (pK _ _ _)
   ·split
    ·have hd:=(cT u x.path).ls;unfold bH;split
     ·exact hd
     ·exact hd.trans (pK _ _ _)
    ·split
     ·have hd:=(cT u x.path).ls;have he:=hd.trans (aW (atU u x.path).u x.toPath).ls;unfold dm;split
      ·exact hd
      ·split
       ·exact he
       ·exact he.trans (pK _ _ _)
     ·split
      ·exact LS.same rfl rfl rfl
      ·split
       ·exact ⟨Int.le_refl _,λr hr=>Zj,rfl⟩
       ·split
        ·unfold da;split
         ·exact LS.refl _
         ·split
          ·exact LS.refl _
          ·split
           ·exact LS.refl _
           ·exact LS.same rfl rfl rfl
        ·split
         ·split
          ·exact LS.refl _
          ·exact (eD _ ⟨0,u⟩).ls
         ·exact LS.refl _
theorem qk (t:List Node) (c:Cli):LS c (bp t c):=by
 unfold bp;split
 ·exact LS.refl _
 ·exact LS.same rfl rfl rfl
def HP (t:List Node) (f:Int):Node×Int:=match al t f with
 | some n=>(n,0)
 | none=>(aC,6)
def tR (t:List Node):List (List UInt8)->Node×Int->Node×Int
 | [],q=>if q.2=0 then q else (aC,q.2)
 | s::r,q=>if q.2≠0 then (aC,q.2) else if q.1.dir=false then (aC,8) else match bJ q.1 s with
  | none=>(aC,6)
  | some f=>tR t r (HP t f)
structure AwG (g g':Got):Prop where
 n:g'.n=g.n
 e:g'.e=g.e
 c:g'.u.c=g.u.c
 away:g.u.c.away=true
structure AwD (g g':GotD):Prop where
 n:g'.n=g.n
 name:g'.name=g.name
 e:g'.e=g.e
 c:g'.u.c=g.u.c
 away:g.u.c.away=true
structure AwE (g g':GotE):Prop where
 e:g'.e=g.e
 c:g'.u.c=g.u.c
 away:g.u.c.away=true
theorem E9 {u u':U} (hc:u'.c=u.c) (ha:u.c.away=true) (a:Act) (seen:Int):AwE (jq u a seen) (jq u' a seen):=by
 unfold jq;rw[hc];split
 ·exact ⟨rfl,hc,ha⟩
 ·split
  ·exact ⟨rfl,hc,ha⟩
  ·split
   ·exact ⟨rfl,hc,ha⟩
   ·exact ⟨rfl,rfl,ha⟩
theorem D8 {u u':U} (hc:u'.c=u.c) (ha:u.c.away=true) (a:Act) (seen:Int):AwE (b_ u a seen) (b_ u' a seen):=by
 unfold b_;rw[hc,if_pos ha,if_pos ha];exact E9 hc ha a seen
structure AwP (g g':GotP):Prop where
 d:g'.d=g.d
 name:g'.name=g.name
 n:g'.n=g.n
 e:g'.e=g.e
 c:g'.u.c=g.u.c
 away:g.u.c.away=true
structure AwS (g g':GotS):Prop where
 r:g'.r=g.r
 c:g'.u.c=g.u.c
 away:g.u.c.away=true
theorem km (u:U) (ha:u.c.away=true) (a:Act) (seen:Int):(b_ u a seen).u.s=u.s:=by
 unfold b_;rw[if_pos ha];exact GI u a seen
theorem wj {g:Got} (ha:g.u.c.away=true) (data:List UInt8):(fW g data).u.s=g.u.s:=by
 unfold fW;split
 ·rfl
 ·exact km _ ha _ _
theorem yJ (u:U) (ha:u.c.away=true) (path data:List UInt8):(bM u path data).u.s=u.s:=by
 have hd:=aW u path;have hda:(ak u path).u.c.away=true:=by rw[hd.away];exact ha
 unfold bM;split
 ·exact hd.s
 ·split
  ·exact hd.s
  ·split
   ·have h:=dB (ak u path).u;rw[wj (by rw[(h _ _).away];exact hda),(h _ _).s,hd.s]
   ·have k:=km _ hda (cK (ak u path).n.fid (ak u path).name) (-1);have ka:=(D8 rfl hda (cK (ak u path).n.fid (ak u path).name) (-1)).away;split
    ·rw[k,hd.s]
    ·have h:=bV (b_ (ak u path).u (cK (ak u path).n.fid (ak u path).name) (-1)).u (ag path).1 0;rw[wj (by rw[h.away];exact ka),h.s,k,hd.s]
theorem A9 (u:U) (ha:u.c.away=true) (x:Step) (hk:x.kind≠8):(aw u x).u.s=u.s:=by
 unfold aw;split
 ·split
  ·rfl
  ·exact (bV _ _ _).s
 ·split
  ·exact yJ u ha _ _
  ·split
   ·have hd:=aW u x.path;unfold ec;split
    ·exact hd.s
    ·exact (km _ (by rw[hd.away];exact ha) _ _).trans hd.s
   ·split
    ·have hd:=cT u x.path;unfold bH;split
     ·exact hd.s
     ·exact (km _ (by rw[hd.away];exact ha) _ _).trans hd.s
    ·split
     ·have hd:=cT u x.path;have he:=aW (atU u x.path).u x.toPath;unfold dm;split
      ·exact hd.s
      ·split
       ·exact he.s.trans hd.s
       ·exact (km _ (by rw[he.away,hd.away];exact ha) _ _).trans (he.s.trans hd.s)
     ·split
      ·rfl
      ·split
       ·unfold da;split
        ·rfl
        ·split
         ·rfl
         ·split<;>rfl
       ·split
        ·rfl
        ·rfl
structure Fate where
 step:Int
 client:Int
 kind:Int
 whr:Int
deriving DecidableEq,Inhabited
structure Bk where
 fates:List Fate
 logs:List (List Nat)
def dV (fs:List Fate) (k:Nat) (w:Int):List Fate:=fs.set k { fs.getD k default with whr:=w }
def gq (step:Int) (ps:List Past) (b:Bk):Bk:={ b with fates:=b.fates++ps.map λp=>⟨step,p.client,p.act.kind,1⟩ }
def bI:List Nat->List Verdict->List Fate->List Fate
 | k::l,v::vs,fs=>bI l vs (dV fs k (if v.err=0 then 1 else 3))
 | _,_,fs=>fs
def oq (c:Nat) (vs:List Verdict) (b:Bk):Bk:=⟨bI (b.logs.getD c []) vs b.fates,b.logs.set c []⟩
def bu (now:List Rec):List Nat->List Rec->List Fate->List Fate
 | k::l,r::rs,fs=>bu now l rs (if (now.any λx=>x.id==r.id)=true then fs else dV fs k 4)
 | _,_,fs=>fs
def dE (step c:Int) (n:Nat):List Fate:=List.replicate n ⟨step,c,4,4⟩
def cr (was:Cli) (ks:List Nat) (n:Nat) (id:Int):Nat:=match was.log.findIdx? λr=>r.id==id with
 | some i=>if was.logged<id then n+(id-was.logged-1).toNat else ks.getD i 0
 | none=>n+(id-was.logged-1).toNat
def fz (was:Cli) (ks:List Nat) (n:Nat):List Rec->List Fate->List Fate
 | r::rs,fs=>fz was ks n rs (fs.set (cr was ks n r.id) { fs.getD (cr was ks n r.id) default with kind:=r.act.kind,whr:=2 })
 | [],fs=>fs
def bm (step:Int) (c:Nat) (was now:Cli) (b:Bk):Bk:=
 ⟨fz was (b.logs.getD c []) b.fates.length now.log (bu now.log (b.logs.getD c []) was.log b.fates++dE step c (now.logged-was.logged).toNat),
  b.logs.set c (now.log.map λr=>cr was (b.logs.getD c []) b.fates.length r.id)⟩
noncomputable def cx (w:Wor) (i:Nat) (x:Step) (b:Bk):Bk:=
 if x.client<0\/x.client≥w.cs.length then b
 else if x.kind=8 then oq x.client.toNat (aJ ⟨w.cs.getD x.client.toNat default,w.s⟩) b
 else if (w.cs.getD x.client.toNat default).away=true then bm i x.client.toNat (w.cs.getD x.client.toNat default) ((aq w x).w.cs.getD x.client.toNat default) b
 else gq i ((aq w x).w.s.past.drop w.s.past.length) b
structure GotK where
 w:Wor
 b:Bk
 i:Nat
noncomputable def cI (rooms:List Int) (l:List Step):GotK:=l.foldl (λg x=>⟨(aq g.w x).w,cx g.w g.i x g.b,g.i+1⟩) ⟨fJ rooms,⟨[],List.replicate rooms.length []⟩,0⟩
theorem wm (g:Got) (ha:g.u.c.away=false) (data:List UInt8):(fW g data).u.c.away=false:=by
 unfold fW;split
 ·exact ha
 ·rw[show b_ g.u _ _=fM g.u _ from by unfold b_;rw[if_neg Qj]];unfold fM;split<;>exact ha
theorem lY (u:U) (ha:u.c.away=false) (a:Act) (seen:Int):(b_ u a seen).u.c.away=false:=by
 unfold b_;rw[if_neg Qj];unfold fM;split<;>exact ha
theorem tg (u:U) (ha:u.c.away=false) (x:Step) (hk:x.kind≠7):(aw u x).u.c.away=false:=by
 unfold aw;split
 ·split
  ·exact ha
  ·exact (bV _ _ _).away.trans ha
 ·split
  ·have hd:=(aW u x.path).away.trans ha;unfold bM;split
   ·exact hd
   ·split
    ·exact hd
    ·split
     ·exact wm _ ((dB _ _ _).away.trans hd) _
     ·have hk:=lY _ hd (cK (ak u x.path).n.fid (ak u x.path).name) (-1);split
      ·exact hk
      ·exact wm _ ((bV _ _ _).away.trans hk) _
  ·split
   ·have hd:=(aW u x.path).away.trans ha;unfold ec;split
    ·exact hd
    ·exact lY _ hd _ _
   ·split
    ·have hd:=(cT u x.path).away.trans ha;unfold bH;split
     ·exact hd
     ·exact lY _ hd _ _
    ·split
     ·have hd:=(cT u x.path).away.trans ha;have he:=(aW (atU u x.path).u x.toPath).away.trans hd;unfold dm;split
      ·exact hd
      ·split
       ·exact he
       ·exact lY _ he _ _
     ·split
      ·rfl
      ·split
       ·unfold da;split
        ·exact ha
        ·split
         ·exact ha
         ·split
          ·exact ha
          ·exact ha
       ·split
        ·rw[if_neg Qj];exact (eD _ ⟨0,u⟩).away.trans ha
        ·exact ha
structure HereB (w:Wor) (b:Bk):Prop where
 away:∀c,c∈w.cs->c.away=false
 fates:b.fates.map (λf=>(f.client,f.kind,f.whr))=w.s.past.map λp=>(p.client,p.act.kind,1)
def xU (l:List Rec) (i:Nat):List (Int×Bool):=(l.take i).foldl (λm r=>bY m r.id true) []
theorem Az {l:List Rec} {i:Nat} (h:i<l.length):xU l (i+1)=bY (xU l i) (l.getD i default).id true:=by
 unfold xU;rw[ZT h,List.foldl_append];rfl
theorem zY (m:List (Int×Bool)) (f:Int) (v:Bool) (k:Int):eQ (bY m f v) k=if k=f then v else eQ m k:=by
 unfold eQ;rw[qH]
 by_cases e:k=f
 ·rw[if_pos e,if_pos e];rfl
 ·rw[if_neg e,if_neg e]
theorem so (m:List (Int×Int)) (f v k:Int):rN (bY m f v) k=if k=f then v else rN m k:=by
 unfold rN;rw[qH]
 by_cases e:k=f
 ·rw[if_pos e,if_pos e];rfl
 ·rw[if_neg e,if_neg e]
theorem CD (l:List Rec) (k:Int):eQ (xU l l.length) k=l.any λx=>x.id==k:=by
 unfold xU;rw[Zy];have key:∀(l:List Rec) (m:List (Int×Bool)),eQ (l.foldl (λm r=>bY m r.id true) m) k=(eQ m k||l.any λx=>x.id==k):=λl=>by
  induction l with
  | nil=>intro m;simp
  | cons r l ih=>
   intro m;rw[List.foldl_cons,ih,zY,List.any_cons]
   by_cases e:k=r.id
   ·rw[if_pos e];simp[e]
   ·rw[if_neg e,beq_eq_false_iff_ne.2 (λh=>e h.symm),Wj]
 rw[key l []];rfl
def vj (l:List Rec) (ks:List Nat):Nat->List (Int×Int)
 | 0=>[]
 | i+1=>bY (vj l ks i) (l.getD i default).id (ks.getD i 0:Nat)
theorem y' {l:List Rec} {ks:List Nat} (hr:(l.map (·.id)).Pairwise (·<·)):∀{i j:Nat},i≤l.length->j<i->rN (vj l ks i) (l.getD j default).id=(ks.getD j 0:Nat)
 | 0,j,_,h=>by omega
 | i+1,j,hi,hj=>by
  unfold vj;rw[so]
  by_cases e:j=i
  ·subst e;rw[if_pos rfl]
  ·have hlt:(l.getD j default).id<(l.getD i default).id:=by
    have:=Wp.1 hr j i (by rw[List.length_map];omega) (by rw[List.length_map];omega) z7;rw[Zo,Zo,Zp z7,Zp z7];simpa using this
   rw[if_neg z7];exact y' hr z7 z7
def vV (m:List (Int×Int)) (n:Nat) (a:Int):Nat->List (Int×Int)
 | 0=>m
 | i+1=>bY (vV m n a i) (a+1+i) ((n+i:Nat):Int)
theorem zj (m:List (Int×Int)) (n:Nat) (a:Int) (k:Int):∀i:Nat,rN (vV m n a i) k=if a<k/\k≤a+i then ((n+(k-a-1).toNat:Nat):Int) else rN m k
 | 0=>by rw[if_neg z7];rfl
 | i+1=>by
  unfold vV;rw[so,zj m n a k i]
  by_cases e:k=a+1+i
  ·rw[if_pos e,if_pos z7]
   congr 2
   omega
  ·rw[if_neg e]
   by_cases h:a<k/\k≤a+i
   ·rw[if_pos h,if_pos z7]
   ·rw[if_neg h,if_neg z7]
theorem Cz {was now:Cli} (hw:IdI was) (hs:LS was now) (ks:List Nat) (n:Nat) {r:Rec} (hr:r∈now.log):rN (vV (vj was.log ks was.log.length) n was.logged (now.logged-was.logged).toNat) r.id=(cr was ks n r.id:Nat):=by
 have hle:=hs.le;rw[zj];unfold cr
 rcases hs.from_ r hr with ⟨q,hq,hqi⟩ | ⟨h1,h2⟩
 ·have hb:=hw.bnd q hq;rw[hqi] at hb;rw[if_neg z7];cases e:was.log.findIdx? (λx=>x.id==r.id) with
  | none=>
   rw[Z6] at e;exact absurd (e q hq) (by simp[hqi])
  | some i=>
   obtain ⟨hi,h3,_⟩:=Z4.1 e;simp only;rw[if_neg z7];have h4:(was.log.getD i default).id=r.id:=by
    rw[Zo,Zp hi];simpa using h3
   rw[←h4];exact y' hw.rise (Zw _) hi
 ·rw[if_pos z7];cases e:was.log.findIdx? (λx=>x.id==r.id) with
  | none=>rfl
  | some i=>
   simp only;rw[if_pos h1]
def ZJ (h:Hoard):List AV:=[.str h.path,.int .i64 h.worth]
def ZC (c:Cli):List AV:=[.int .i64 c.number,.bool c.away,.int .i64 c.room,.sl (c.cache.map ZK),.sl (c.log.map ZR),.sl (c.repair.map ZR),.sl (c.hoards.map ZJ),.int .i64 c.clock,.int .i64 c.made,.int .i64 c.logged]
def ZX (x:Step):List AV:=[.int .i64 x.kind,.int .i64 x.client,.int .i64 x.n,.str x.path,.str x.toPath,.sl (x.data.map ZY)]
def aU (r:Reply):List AV:=[.int .i64 r.err,.int .i64 r.n,.int .i64 r.m,.sl (r.data.map ZY)]
def cg (u:U):List AV:=[.int .i64 u.c.number,.bool u.c.away,.int .i64 u.c.room,.sl (u.c.cache.map ZK),.sl (u.c.log.map ZR),.sl (u.c.repair.map ZR),.sl (u.c.hoards.map ZJ),.int .i64 u.c.clock,.int .i64 u.c.made,.int .i64 u.c.logged,.sl (u.s.tree.map ZN),.int .i64 u.s.next,.sl (u.s.past.map ZP)]
def bo (w:Wor):List AV:=[.sl (w.s.tree.map ZN),.int .i64 w.s.next,.sl (w.s.past.map ZP),.sl (w.cs.map ZC)]
theorem dz:Fam ZJ 2:=⟨λ_=>rfl,λ_=>rfl,λ_=>rfl,λ_=>rfl⟩
@[go_sem,simp] theorem Bo (l:List _):Eng.rowsOf 2 (l.map ZJ):=dz.rowsOf l
@[go_sem,simp] theorem Dy (l:List _):((l.map ZJ).all λrow=>row.all AV.leaf)=true:=dz.lZ l
@[go_sem,simp] theorem fo (l:List _):((l.map ZJ).all λrow=>row.all AV.aX)=true:=dz.dX l
@[go_sem,simp] theorem B7 (id:Nat) (l:List _):((l.map ZJ).all λrow=>row.all λx=>!(refs x).contains id)=true:=dz.iJ id l
@[go_sem,simp] theorem B8 (e s:Nat) (l:List _):au (.cells e s (l.map ZJ))=[]:=dz.au e s l
@[go_sem,simp] theorem Dz (off:Nat) (l:List _):(l.map ZJ).map (eR off)=l.map ZJ:=Fam.eR (λ_ _=>rfl) off l
@[go_sem,simp] theorem Dx (id s:Nat) (rows:List (List AV)) (l:List _):(l.map ZJ).map (cm id s rows)=l.map ZJ:=Fam.cm (λ_ _ _ _=>rfl) id s rows l
@[go_sem,simp] theorem B9 (a):av (ZJ a)=[]:=dz.free a
theorem lx:Fam ZC 10:=⟨λ_=>rfl,λ_=>rfl,λ_=>rfl,λ_=>rfl⟩
@[go_sem,simp] theorem gT (l:List _):((l.map ZC).all λrow=>row.all AV.aX)=true:=lx.dX l
@[go_sem,simp] theorem tx (id:Nat) (l:List _):((l.map ZC).all λrow=>row.all λx=>!(refs x).contains id)=true:=lx.iJ id l
@[go_sem,simp] theorem Eg (e s:Nat) (l:List _):au (.cells e s (l.map ZC))=[]:=lx.au e s l
@[go_sem,simp] theorem Gw (off:Nat) (l:List _):(l.map ZC).map (eR off)=l.map ZC:=Fam.eR (λ_ _=>rfl) off l
@[go_sem,simp] theorem Gv (id s:Nat) (rows:List (List AV)) (l:List _):(l.map ZC).map (cm id s rows)=l.map ZC:=Fam.cm (λ_ _ _ _=>rfl) id s rows l
theorem tG:Fam aU 4:=⟨λ_=>rfl,λ_=>rfl,λ_=>rfl,λ_=>rfl⟩
@[go_sem,simp] theorem CX (a):av (aU a)=[]:=tG.free a
end La
namespace La
open Go Go.Eng Go.Proofs
theorem tP {l:List Kept} {room:Int} {k:Kept} (hl:SmallK l) (hk:k.node.Small) (h:eK l room k=none):ae Tryz.prog 112 [.sl (l.map ZK),.int .i64 room,.agg (ZK k)] [] (λr _=>r=.tup [.sl (([]:List Kept).map ZK),.int .i64 5]):=by
 have:=zd l room k hl hk;unfold zb at this;rw[h] at this;exact this
theorem Cj {l L:List Kept} {room:Int} {k:Kept} (hl:SmallK l) (hk:k.node.Small) (h:eK l room k=some L):ae Tryz.prog 112 [.sl (l.map ZK),.int .i64 room,.agg (ZK k)] [] (λr _=>r=.tup [.sl (L.map ZK),.int .i64 0]):=by
 have:=zd l room k hl hk;unfold zb at this;rw[h] at this;exact this
variable {Fa:Prop}
@[go_sem,simp] theorem E2 (id s:Nat) (rows:List (List AV)) (n:Node):cm id s rows (ZN n)=ZN n:=rfl
@[go_sem,simp] theorem E4 (off:Nat) (n:Node):eR off (ZN n)=ZN n:=rfl
@[go_sem,simp] theorem GG (n:Node):(ZN n).length=5:=rfl
theorem sZ {l:List AV} (h:av l=[]) {x:AV} (hx:x∈l) (id:Nat):¬id∈refs x:=λhi=>by
 obtain ⟨j,hj⟩:=Z1 hx;have:=aL hj hi;rw[h] at this;cases this
def o_ (g:Got):AV:=.tup [.agg (ZN g.n),.int .i64 g.e]
variable {Fa:Prop}
@[go_sem,simp] theorem rv (u:U):av (cg u)=[]:=rfl
@[go_sem,simp] theorem GW (u:U):(cg u).length=13:=rfl
structure NodeOK (n:Node):Prop where
 eup:EUp n.entries
 ent:n.entries.length≤6
 data:n.data.length≤20
theorem NodeOK.small {n:Node} (h:NodeOK n):n.Small:=⟨by have:=h.data;omega,by have:=h.ent;omega⟩
theorem NodeOK.zero:NodeOK aC:=⟨List.Pairwise.nil,by simp[aC],by simp[aC]⟩
theorem kQ {l:List Kept} {f:Int} {n:Node} (h:kj l f=some n):∃k,k∈l/\k.node=n/\n.fid=f:=by
 unfold kj at h;obtain ⟨k,hk,rfl⟩:=WG.1 h;exact ⟨k,List.mem_of_find?_eq_some hk,rfl,by simpa using List.find?_some hk⟩
theorem kI {B T:Nat} {u:U} (h:UInvF Fa B T u) (f w:Int):NodeOK (bz u f w).n:=by
 unfold bz;split
 ·rename_i n hn;obtain ⟨k,hk,rfl,_⟩:=kQ hn;exact ⟨h.cli.eup k hk,h.cli.ent k hk,h.cli.data k hk⟩
 ·split
  ·exact .zero
  ·split
   ·exact .zero
   ·rename_i n hn;have hm:=((ZO h.srv.hist.bW.up).1 hn).1;exact ⟨(h.srv.hist.whole.loc n hm).eup,h.srv.hist.bW.ent n hm,h.srv.hist.bW.data n hm⟩
theorem vf {B:Nat} (w:Int):∀(l:List (List UInt8)) (T:Nat) (g:Got),UInvF Fa B T g.u->NodeOK g.n->NodeOK (goR w l g).n
 | [],T,g,h,hn=>by
  unfold goR;split
  ·exact hn
  ·exact .zero
 | s::r,T,g,h,hn=>by
  unfold goR;split
  ·exact .zero
  ·split
   ·exact .zero
   ·split
    ·exact .zero
    ·rename_i f _;exact vf w r (T+1) _ (cn h f w) (kI h f w)
theorem vg {B T:Nat} {u:U} (h:UInvF Fa B T u) (l:List (List UInt8)) (w:Int):NodeOK (goU u l w).n:=vf w l (T+1) _ (cn h 0 w) (kI h 0 w)
theorem nB {B T:Nat} {u:U} (h:UInvF Fa B T u) (path:List UInt8):NodeOK (ak u path).n:=by
 unfold ak;split
 ·exact .zero
 ·split
  ·exact .zero
  ·exact vg h _ 0
variable {Fa:Prop}
theorem xc {u:U} {g:GotV} (h:Idle u g.u) (x:Hoard):Idle u (fi g x).u:=h.trans (bV g.u (ag x.path).1 x.worth)
structure VI (Fa:Prop) (B T:Nat) (u:U) (g:GotV) (k:Nat):Prop where
 inv:UInvF Fa B (T+42*k) g.u
 idle:Idle u g.u
 n:g.n≤k
theorem VI.step {B T:Nat} {u:U} {g:GotV} {k:Nat} (h:VI Fa B T u g k) (x:Hoard):VI Fa B T u (fi g x) (k+1):=by
 refine ⟨?_,xc h.idle x,?_⟩
 ·have:=rB h.inv x
  rwa [show T+42*k+42=T+42*(k+1) by omega] at this
 ·have:=h.n;unfold fi;simp only;split<;>omega
def keeps (r x:Rec):Bool:=!(r.act.kind==3&&stored r x)
def here (d:Int) (n:List UInt8) (b:Act):Bool:=
 ((((b.kind==1||b.kind==2)||b.kind==4)||b.kind==5)&&b.dir==d&&b.name==n)||(b.kind==5&&b.to==d&&b.toName==n)
end La
