/- Texts of this claim, part 15: PApply, PReach, PNm, PWor, PWor2, PWor3, ModC, RWith, RName. No condition. -/
import Derived.Test.YtmcfbfdonjllaaaGreatDoorYW14
set_option maxRecDepth 10000
set_option maxHeartbeats 4000000
set_option linter.unusedSimpArgs false
set_option linter.unusedVariables false
namespace La
open Go Go.Eng
open Classical in
noncomputable def dg (l:List Node) (a:Act):Int:=if df l a=0 then (if gY l a.to=0 then (if cZ (toN l a) a.toName=0 then (if bz l a.fid=true then (if decide (MReach (f_ l) a.fid a.to)=true then 11 else 0) else 12) else cZ (toN l a) a.toName) else gY l a.to) else df l a
noncomputable def eQ (l:List Node) (a:Act) (v:Int):List Node:=if dg l a=0 then aT (if a.to=a.dir then l else aT l { aE (bd l a.dir) a.name with version:=v }) { bb (toN l a) a.toName a.fid with version:=v } else l
noncomputable def bt (l:List Node) (a:Act):Int:=if a.kind=1 then cC l a else if a.kind=2 then cC l a else if a.kind=3 then cr l a else if a.kind=4 then cv l a else if a.kind=5 then dg l a else 1
noncomputable def bk (l:List Node) (a:Act) (v:Int):List Node:=if a.kind=1 then bE l a v else if a.kind=2 then bE l a v else if a.kind=3 then bM l a v else if a.kind=4 then bX l a v else if a.kind=5 then eQ l a v else l
structure Ri (l:List Node):Prop where
 up:Up l
 eup:∀n,n∈l->EUp n.entries
theorem Ri.find {l:List Node} (h:Ri l) (k:Int):EUp (bd l k).entries:=by
 unfold bd;cases e:af l k with
 | none=>exact List.Pairwise.nil
 | some n=>exact h.eup n ((ZO h.up).1 e).1
theorem Ri.put {l:List Node} (h:Ri l) {n:Node} (hn:EUp n.entries):Ri (aT l n):=
 ⟨(aD h.up n).1,λm hm=>by
  rcases fO hm with rfl | hm
  ·exact hn
  ·exact h.eup m hm⟩
theorem Ri.drop {l:List Node} (h:Ri l) (f:Int):Ri (dN l f):=⟨(iT h.up f).1,λm hm=>h.eup m (((iT h.up f).2 m).1 hm).1⟩
theorem Ri.to {l:List Node} (h:Ri l) (a:Act):EUp (toN l a).entries:=by
 unfold toN;split
 ·exact eM (h.find _) _
 ·exact h.find _
theorem Ri.apply {l:List Node} (h:Ri l) (a:Act) (v:Int):Ri (bk l a v):=by
 have hmk:Ri (bE l a v):=by
  unfold bE;split
  ·rename_i he;unfold cC at he;split at he
   ·split at he
    ·rename_i hr;refine (h.put ?_).put List.Pairwise.nil;exact (c_ (h.find _) (gN hr).2 _).1
    ·rename_i hr;exact absurd he hr
   ·rename_i hr;exact absurd he hr
  ·exact h
 unfold bk;split
 ·exact hmk
 ·split
  ·exact hmk
  ·split
   ·unfold bM;split
    ·exact h.put (h.find _)
    ·exact h
   ·split
    ·unfold bX;split
     ·exact (h.put (eM (h.find _) _)).drop _
     ·exact h
    ·split
     ·unfold eQ;split
      ·rename_i he;have hr:cZ (toN l a) a.toName=0:=by
        unfold dg at he;split at he
        ·split at he
         ·split at he
          ·assumption
          ·rename_i hr;exact absurd he hr
         ·rename_i hr;exact absurd he hr
        ·rename_i hr;exact absurd he hr
       refine Ri.put ?_ (c_ (h.to a) (gN hr).2 _).1;split
       ·exact h
       ·exact h.put (eM (h.find _) _)
      ·exact h
     ·exact h
end La
namespace La
open Go Go.Eng
theorem MReach.head {m:List (Int×Node)} {k:Int} {n:Node} {e:Entry} {t:Int} (hn:cQ m k=some n) (he:e∈n.entries) (h:MReach m e.fid t):MReach m k t:=by
 induction h with
 | refl=>exact .step .refl hn he
 | step _ hn' he' ih=>exact .step ih hn' he'
theorem rf {l:List Node} (hu:Up l) {k t:Int} (h:MReach (f_ l) k t):Reach l k t:=by
 induction h with
 | refl=>exact .refl _
 | step _ hn he ih=>
  rw[gf hu] at hn;obtain ⟨h1,h2⟩:=(ZO hu).1 hn;subst h2;exact Reach.tail h1 he ih
theorem kn {l:List Node} (hu:Up l) (t:Int):∀(f:Nat) (k:Int),bB l t f k=some true->MReach (f_ l) k t
 | 0,_,h=>by cases h
 | f+1,k,h=>by
  rw[bB] at h;split at h
  ·rename_i e;rw[e];exact .refl
  ·cases e:af l k with
   | none=>rw[e] at h;cases h
   | some n=>
    rw[e] at h;simp only at h;split at h
    ·injection h with h
     obtain ⟨x,hx,hx2⟩:=List.any_eq_true.1 h;rw[Bool.and_eq_true] at hx2;have h3:bB l t f x.fid=some true:=by
      have:=hx2.2;cases h4:bB l t f x.fid with
      | none=>rw[h4] at this;cases this
      | some b=>rw[h4] at this;exact congrArg some this
     exact MReach.head (by rw[gf hu];exact e) hx (kn hu t f x.fid h3)
    ·cases h
open Classical in
theorem Good.within {l:List Node} (h:Good l) (t k:Int):jJ l t k=decide (MReach (f_ l) k t):=by
 obtain ⟨f,hf⟩:=h.ends t k;obtain ⟨r,hr⟩:=h.cM
 by_cases hm:MReach (f_ l) k t
 ·rw[decide_eq_true hm];exact pv h.up hr (rf h.up hm) f _ hf
 ·rw[decide_eq_false hm];cases hb:jJ l t k with
  | false=>rfl
  | true=>rw[hb] at hf;exact absurd (kn h.up t f k hf) hm
theorem Good.dB {l:List Node} (h:Good l) (a:Act):dg l a=La.dB l a:=by
 unfold dg La.dB;rw[h.within a.to a.fid]
theorem Good.dn {l:List Node} (h:Good l) (a:Act) (v:Int):eQ l a v=La.dn l a v:=by
 unfold eQ La.dn;rw[h.dB a]
theorem Good.aB {l:List Node} (h:Good l) (a:Act):bt l a=La.aB l a:=by
 unfold bt La.aB;rw[h.dB a]
theorem Good.aH {l:List Node} (h:Good l) (a:Act) (v:Int):bk l a v=La.aH l a v:=by
 unfold bk La.aH;rw[h.dn a v]
def NmE (l:List Entry):Prop:=∀e,e∈l->e.name.length≤40
structure Nm (l:List Node):Prop where
 up:Up l
 nm:∀n,n∈l->NmE n.entries
theorem NmE.nil:NmE []:=λ_ h=>by cases h
theorem uC {s:List UInt8} (h:de s=true):s.length≤40:=by
 unfold de at h;rw[Bool.and_eq_true,Bool.and_eq_true,decide_eq_true_eq,decide_eq_true_eq] at h;omega
theorem NmE.enter {l:List Entry} (h:NmE l) {s:List UInt8} (hs:de s=true) (f:Int):NmE (aW l s f):=λe he=>by
 rcases iV he with rfl | he
 ·exact uC hs
 ·exact h e he
theorem NmE.leave {l:List Entry} (h:NmE l) (s:List UInt8):NmE (aX l s):=λe he=>h e (ef he)
theorem Nm.find {l:List Node} (h:Nm l) (k:Int):NmE (bd l k).entries:=by
 unfold bd;cases e:af l k with
 | none=>exact .nil
 | some n=>exact h.nm n ((ZO h.up).1 e).1
theorem Nm.put {l:List Node} (h:Nm l) {n:Node} (hn:NmE n.entries):Nm (aT l n):=
 ⟨(aD h.up n).1,λm hm=>by
  rcases fO hm with rfl | hm
  ·exact hn
  ·exact h.nm m hm⟩
theorem Nm.drop {l:List Node} (h:Nm l) (f:Int):Nm (dN l f):=⟨(iT h.up f).1,λm hm=>h.nm m (((iT h.up f).2 m).1 hm).1⟩
theorem Nm.to {l:List Node} (h:Nm l) (a:Act):NmE (toN l a).entries:=by
 unfold toN;split
 ·exact (h.find _).leave _
 ·exact h.find _
theorem Nm.apply {l:List Node} (h:Nm l) (a:Act) (v:Int):Nm (bk l a v):=by
 have hmk:Nm (bE l a v):=by
  unfold bE;split
  ·rename_i he;unfold cC at he;split at he
   ·split at he
    ·rename_i hr;refine (h.put ?_).put .nil;exact (h.find _).enter (gN hr).1 _
    ·rename_i hr;exact absurd he hr
   ·rename_i hr;exact absurd he hr
  ·exact h
 unfold bk;split
 ·exact hmk
 ·split
  ·exact hmk
  ·split
   ·unfold bM;split
    ·exact h.put (h.find _)
    ·exact h
   ·split
    ·unfold bX;split
     ·exact (h.put ((h.find _).leave _)).drop _
     ·exact h
    ·split
     ·unfold eQ;split
      ·rename_i he;have hr:cZ (toN l a) a.toName=0:=by
        unfold dg at he;split at he
        ·split at he
         ·split at he
          ·assumption
          ·rename_i hr;exact absurd he hr
         ·rename_i hr;exact absurd he hr
        ·rename_i hr;exact absurd he hr
       refine Nm.put ?_ ((h.to a).enter (gN hr).1 _);split
       ·exact h
       ·exact h.put ((h.find _).leave _)
      ·exact h
     ·exact h
theorem Wh.nm {l:List Node} (h:Wh l) {n:Node} (hn:n∈l):NmE n.entries:=λe he=>uC (h.name n.fid e.name e.fid ⟨n,hn,rfl,he⟩)
variable {Fa:Prop}
theorem tZ {l:List Node} {a:Act} {v:Int} {n:Node} (he:aB l a=0) (h:n∈aH l a v):n.version=v\/n∈l:=by
 unfold aB at he;unfold aH at h;have hmk:n∈bE l a v->n.version=v\/n∈l:=λh=>by
  unfold bE at h;split at h
  ·rcases fO h with rfl | h
   ·exact .inl rfl
   ·rcases fO h with rfl | h
    ·exact .inl rfl
    ·exact .inr h
  ·exact .inr h
 split at h
 ·exact hmk h
 ·split at h
  ·exact hmk h
  ·split at h
   ·unfold bM at h;split at h
    ·rcases fO h with rfl | h
     ·exact .inl rfl
     ·exact .inr h
    ·exact .inr h
   ·split at h
    ·unfold bX at h;split at h
     ·rcases fO (WE.1 h).1 with rfl | h
      ·exact .inl rfl
      ·exact .inr h
     ·exact .inr h
    ·split at h
     ·unfold dn at h;split at h
      ·rcases fO h with rfl | h
       ·exact .inl rfl
       ·split at h
        ·exact .inr h
        ·rcases fO h with rfl | h
         ·exact .inl rfl
         ·exact .inr h
      ·exact .inr h
     ·exact .inr h
theorem Hist.ver {p:List Past} {t:List Node} (h:Hist p t):∀n,n∈t->0≤n.version/\n.version≤(p.length:Int):=by
 induction h with
 | nil=>intro n hn;rw[List.mem_singleton.1 hn];simp[aA]
 | @snoc p t c a h ha he ih=>
  intro n hn;simp only[List.length_append,List.length_cons,List.length_nil]
  rcases tZ he hn with h1 | h1
  ·rw[h1];omega
  ·have:=ih n h1;omega
theorem Hist.det {p:List Past} {t:List Node} (h:Hist p t):∀{t'},Hist p t'->t=t':=by
 induction h with
 | nil=>
  intro t' h';generalize hq:([]:List Past)=q at h';cases h' with
  | nil=>rfl
  | snoc c a _ _ _=>simp at hq
 | @snoc p t c a h ha he ih=>
  intro t' h';generalize hq:p++[⟨c,a⟩]=q at h';cases h' with
  | nil=>simp at hq
  | @snoc p2 t2 c2 a2 h2 _ _=>
   obtain ⟨h3,h4⟩:=List.append_inj' hq rfl;subst h3;injection h4 with h4
   injection h4 with h4 h5
   subst h5;rw[ih h2]
theorem Hist.back {p:List Past} {c:Int} {a:Act} {t':List Node} (h:Hist (p++[⟨c,a⟩]) t'):∃t,Hist p t/\aB t a=0/\t'=aH t a ((p.length+1:Nat):Int):=by
 generalize hq:p++[(⟨c,a⟩:Past)]=q at h;cases h with
 | nil=>simp at hq
 | @snoc p2 t2 c2 a2 h2 ha he=>
  obtain ⟨h3,h4⟩:=List.append_inj' hq rfl;subst h3;injection h4 with h4
  injection h4 with h4 h5
  subst h5;exact ⟨t2,h2,he,rfl⟩
def Hst (s:Srv) (n:Node):Prop:=n.version≤(s.past.length:Int)/\∀m,m∈s.tree->m.fid=n.fid->m.version=n.version->m=n
theorem Hst.at {s:Srv} (h:Hist s.past s.tree) {n:Node} (hn:n∈s.tree):Hst s n:=⟨(h.ver n hn).2,λ_ hm hf _=>np h.bV.up hm hn hf⟩
theorem xy {p:List Past} {n:Node}:∀(q:List Past) {t t':List Node},Hist p t->Hist (p++q.reverse) t'->n.version≤(p.length:Int)->(∀m,m∈t->m.fid=n.fid->m.version=n.version->m=n) ->
  ∀m,m∈t'->m.fid=n.fid->m.version=n.version->m=n
 | [],t,t',h,h',_,hm=>by
  rw[List.reverse_nil,List.append_nil] at h';rw[←h.det h'];exact hm
 | x::q,t,t',h,h',hv,hm=>by
  rw[List.reverse_cons,←Wa] at h';obtain ⟨t2,h2,he,rfl⟩:=Hist.back (c:=x.client) (a:=x.act) h';have ih:=xy q h h2 hv hm;intro m hmm hf hver
  rcases tZ he hmm with h3 | h3
  ·rw[h3] at hver;simp only[List.length_append,List.length_reverse] at hver;omega
  ·exact ih m h3 hf hver
structure Grown (s s':Srv):Prop where
 hist:Hist s'.past s'.tree
 past:∃q,s'.past=s.past++q
theorem Grown.refl {s:Srv} (h:Hist s.past s.tree):Grown s s:=⟨h,[],by simp⟩
theorem Grown.trans {a b c:Srv} (h:Grown a b) (k:Grown b c):Grown a c:=by
 obtain ⟨q,hq⟩:=h.past;obtain ⟨r,hr⟩:=k.past;exact ⟨k.hist,q++r,by rw[hr,hq,Wa]⟩
theorem Hst.grow {s s':Srv} (h:Hist s.past s.tree) (hg:Grown s s') {n:Node} (hn:Hst s n):Hst s' n:=by
 obtain ⟨q,hq⟩:=hg.past;have h1:=hg.hist;refine ⟨by rw[hq,List.length_append];have:=hn.1;omega,xy (p:=s.past) q.reverse h ?_ hn.1 hn.2⟩;rw[List.reverse_reverse,←hq];exact h1
theorem Cz {t:List Node} (hu:Up t) {k:Kept} (hd:k.dirty=false) (h:dU t k=false):∃n,n∈t/\n.fid=k.node.fid/\n.version=k.node.version:=by
 unfold dU at h;rw[hd,bP] at h;cases e:af t k.node.fid with
 | none=>rw[e] at h;simp at h
 | some n=>
  rw[e] at h;simp only[Bool.not_false,Option.isSome_some,Bool.not_true,Option.getD_some,Wq,W4,Bool.not_eq_false',beq_iff_eq] at h;obtain ⟨h1,h2⟩:=(ZO hu).1 e;exact ⟨n,h1,h2,h⟩
theorem uW {s:Srv} (hh:Hist s.past s.tree) {k:Kept} (hk:Hst s k.node) (hd:k.dirty=false) (h:dU s.tree k=false):k.node∈s.tree:=by
 obtain ⟨n,h1,h2,h3⟩:=Cz hh.bV.up hd h;rw[←hk.2 n h1 h2 h3];exact h1
theorem CA {t:List Node} (hu:Up t) {k:Kept} (hn:k.node∈t):dU t k=false:=by
 unfold dU;rw[bP,(ZO hu).2 ⟨hn,rfl⟩];simp
structure ActS (a:Act):Prop where
 name:a.name.length≤40
 toName:a.toName.length≤40
 data:a.data.length≤20
theorem ActS.fit {a:Act} (h:ActS a):ActFit a:=⟨by have:=h.name;omega,by have:=h.toName;omega,by have:=h.data;omega⟩
structure HoardOK (h:Hoard):Prop where
 path:h.path.length≤40
 worth:1≤h.worth/\h.worth≤100
structure CInvF (Fa:Prop) (B T:Nat) (s:Srv) (c:Cli):Prop where
 room:3≤c.room/\c.room≤24
 nod:(c.cache.map λk=>k.node.fid).Nodup
 len:(c.cache.length:Int)≤c.room
 cM:∃r,jV r (bA c.cache)
 data:∀k,k∈c.cache->k.node.data.length≤20
 ent:∀k,k∈c.cache->k.node.entries.length≤6
 eup:∀k,k∈c.cache->EUp k.node.entries
 nam:∀k,k∈c.cache->NmE k.node.entries
 here:c.away=false->c.log=[]/\∀k,k∈c.cache->k.dirty=false/\k.node∈s.tree
 hst:Fa->∀k,k∈c.cache->k.dirty=false->Hst s k.node
 log:c.log.length≤20
 logS:∀r,r∈c.log->ActS r.act
 rep:c.repair.length≤B
 repS:∀r,r∈c.repair->ActS r.act
 hoards:c.hoards.length≤6
 hoardS:∀h,h∈c.hoards->HoardOK h
 clock:0≤c.clock/\c.clock≤(T:Int)
 made:0≤c.made/\c.made≤(B:Int)
 logged:0≤c.logged/\c.logged≤(B:Int)
abbrev JR (B T:Nat) (s:Srv) (c:Cli):Prop:=CInvF True B T s c
theorem CInvF.mono {B B' T T':Nat} {s:Srv} {c:Cli} (h:CInvF Fa B T s c) (hB:B≤B') (hT:T≤T'):CInvF Fa B' T' s c:=
 { h with rep:=Wk h.rep hB,clock:=⟨h.clock.1,by have:=h.clock.2;omega⟩,made:=⟨h.made.1,by have:=h.made.2;omega⟩,logged:=⟨h.logged.1,by have:=h.logged.2;omega⟩ }
theorem CInvF.new (B T:Nat) (s:Srv) (i room:Int) (h:3≤room/\room≤24):CInvF Fa B T s (eZ i room) where
 room:=h
 nod:=List.Pairwise.nil
 len:=by simp[eZ];omega
 cM:=⟨λ_=>0,λn hn=>by cases hn⟩
 data:=λk hk=>by cases hk
 ent:=λk hk=>by cases hk
 eup:=λk hk=>by cases hk
 nam:=λk hk=>by cases hk
 here:=λ_=>⟨rfl,λk hk=>by cases hk⟩
 hst:=λ_ k hk=>by cases hk
 log:=by simp[eZ]
 logS:=λr hr=>by cases hr
 rep:=by simp[eZ]
 repS:=λr hr=>by cases hr
 hoards:=by simp[eZ]
 hoardS:=λr hr=>by cases hr
 clock:=by simp[eZ]
 made:=by simp[eZ]
 logged:=by simp[eZ]
theorem uh {r:Int->Nat} {l m:List Node} (h:jV r l) (hs:∀n,n∈m->∃o,o∈l/\o.fid=n.fid/\o.entries=n.entries):jV r m:=λn hn e he=>by
 obtain ⟨o,h1,h2,h3⟩:=hs n hn;rw[←h3] at he;rw[←h2];exact h o h1 e he
theorem nN {l:List Kept} {n:Node}:n∈bA l↔∃k,k∈l/\k.node=n:=by
 unfold bA;exact Z7
structure Of (t:List Node) (l:List Kept):Prop where
 each:∀k,k∈l->∃n,n∈t/\n.fid=k.node.fid/\n.dir=k.node.dir/\n.data=k.node.data/\n.entries=k.node.entries
theorem Of.cM {t:List Node} {l:List Kept} (h:Of t l) (hf:∃r,jV r t):∃r,jV r (bA l):=by
 obtain ⟨r,hr⟩:=hf;refine ⟨r,uh hr λn hn=>?_⟩;obtain ⟨k,hk,rfl⟩:=nN.1 hn;obtain ⟨o,h1,h2,_,_,h5⟩:=h.each k hk;exact ⟨o,h1,h2,h5⟩
theorem Of.mem {t:List Node} {l:List Kept} (h:∀k,k∈l->k.node∈t):Of t l:=⟨λk hk=>⟨k.node,h k hk,rfl,rfl,rfl,rfl⟩⟩
structure UInvF (Fa:Prop) (B T:Nat) (u:U):Prop where
 srv:SrvOK B u.s
 cli:CInvF Fa B T u.s u.c
abbrev ij (B T:Nat) (u:U):Prop:=UInvF True B T u
theorem UInvF.mono {B B' T T':Nat} {u:U} (h:UInvF Fa B T u) (hB:B≤B') (hT:T≤T'):UInvF Fa B' T' u:=⟨h.srv.mono hB,h.cli.mono hB hT⟩
theorem eB (f w c:Int) (k:Kept):(eE f w c k).node=k.node:=by unfold eE;split<;>rfl
theorem zo (f w c:Int) (k:Kept):(eE f w c k).dirty=k.dirty:=by unfold eE;split<;>rfl
theorem fZ {l:List Kept} {f w c:Int} {k:Kept} (h:k∈l.map (eE f w c)):∃x,x∈l/\x.node=k.node/\x.dirty=k.dirty:=by
 obtain ⟨x,hx,rfl⟩:=Z7.1 h;exact ⟨x,hx,(eB _ _ _ _).symm,(zo _ _ _ _).symm⟩
theorem uz (l:List Kept) (f w c:Int):(l.map (eE f w c)).map (λk=>k.node.fid)=l.map λk=>k.node.fid:=by
 rw[Wn];exact Wo λk _=>by simp[eB]
theorem sy (l:List Kept) (f w c:Int):bA (l.map (eE f w c))=bA l:=by
 unfold bA;rw[Wn];exact Wo λk _=>by simp[eB]
theorem kl {B T:Nat} {u:U} (h:UInvF Fa B T u) (f w:Int):UInvF Fa B (T+1) (cj u f w):=by
 obtain ⟨hs,h⟩:=h;refine ⟨hs,?_⟩;exact { h with
  nod:=by show (List.map _ (u.c.cache.map _)).Nodup;rw[uz];exact h.nod
  len:=by show ((List.map _ u.c.cache).length:Int)≤_;rw[List.length_map];exact h.len
  cM:=by show ∃r,jV r (bA (u.c.cache.map _));rw[sy];exact h.cM
  data:=λk hk=>by obtain ⟨x,hx,h1,_⟩:=fZ hk;rw[←h1];exact h.data x hx
  ent:=λk hk=>by obtain ⟨x,hx,h1,_⟩:=fZ hk;rw[←h1];exact h.ent x hx
  eup:=λk hk=>by obtain ⟨x,hx,h1,_⟩:=fZ hk;rw[←h1];exact h.eup x hx
  nam:=λk hk=>by obtain ⟨x,hx,h1,_⟩:=fZ hk;rw[←h1];exact h.nam x hx
  here:=λha=>⟨(h.here ha).1,λk hk=>by obtain ⟨x,hx,h1,h2⟩:=fZ hk;rw[←h1,←h2];exact (h.here ha).2 x hx⟩
  hst:=λhF k hk hd=>by obtain ⟨x,hx,h1,h2⟩:=fZ hk;rw[←h1];exact h.hst hF x hx (h2.trans hd)
  clock:=by have:=h.clock;show 0≤u.c.clock+1/\u.c.clock+1≤((T+1:Nat):Int);omega }
theorem xK {l:List Kept} {f:Int} (h:dq l f=none):∀x,x∈l->x.node.fid≠f:=λx hx e=>by
 have:=WL.1 h x hx;simp[e] at this
theorem BY {l:List Kept} {f:Int} {i:Nat} (h:dq l f=some i):i<l.length/\(l.getD i default).node.fid=f:=by
 obtain ⟨h1,h2,_⟩:=WK.1 h;exact ⟨h1,by rw[Z1,Z2 h1];exact of_decide_eq_true h2⟩
theorem gl {room:Int}:∀(f:Nat) (l L:List Kept),cG room f l=some L->L.Sublist l
 | 0,l,L,h=>by rw[cG] at h;injection h with h;subst h;exact List.Sublist.refl _
 | f+1,l,L,h=>by
  rw[cG] at h;split at h
  ·split at h
   ·cases h
   ·exact (gl f _ L h).trans (List.eraseIdx_sublist _ _)
  ·injection h with h;subst h;exact List.Sublist.refl _
theorem qP {room:Int} (hr:1≤room):∀(f:Nat) (l L:List Kept),cG room f l=some L->l.length<f->(L.length:Int)<room
 | 0,l,L,h,hf=>by omega
 | f+1,l,L,h,hf=>by
  rw[cG] at h;split at h
  ·rename_i hge;split at h
   ·cases h
   ·rename_i i hw;have hi:i<l.length:=eU l l.length i hw;exact qP hr f _ L h (by rw[Wx,if_pos hi];omega)
  ·injection h with h;subst h;omega
structure Kp (l:List Kept) (room:Int) (k:Kept) (L:List Kept):Prop where
 mem:∀x,x∈L->(x∈l/\x.node.fid≠k.node.fid)\/(x.node=k.node/\x.dirty=k.dirty)
 nod:(L.map λx=>x.node.fid).Nodup
 len:(L.length:Int)≤room
 has:∃x,x∈L/\x.node=k.node/\x.dirty=k.dirty
theorem Ed {l:List Kept} (h:(l.map λx=>x.node.fid).Nodup) {i j:Nat} {a b:Kept} (ha:l[i]? = some a) (hb:l[j]? = some b) (hf:a.node.fid=b.node.fid):i=j:=by
 have h1:=Z8.1 ha;have h2:=Z8.1 hb;obtain ⟨hi,h1⟩:=h1;obtain ⟨hj,h2⟩:=h2;refine (List.getElem_inj (xs:=l.map λx=>x.node.fid) (i:=i) (j:=j) (h₀:=Zy) (h₁:=v8) h).1 ?_;rw[List.getElem_map,List.getElem_map,h1,h2,hf]
theorem EK {l:List Kept} {i:Nat} {k:Kept} (hi:i<l.length) (hf:(l.getD i default).node.fid=k.node.fid):(l.set i k).map (λx=>x.node.fid)=l.map λx=>x.node.fid:=by
 rw[List.map_set];refine List.ext_getElem? λj=>?_
 rw[Wl];split
 ·rename_i e;subst e;rw[Z5,Z2 hi];rw[Z1,Z2 hi] at hf;simp only[List.length_map,hi,if_true,Option.map_some];exact congrArg some hf.symm
 ·rfl
theorem ma {l L:List Kept} {room:Int} {k:Kept} (hr:1≤room) (hn:(l.map λx=>x.node.fid).Nodup) (hl:(l.length:Int)≤room) (h:cB l room k=some L):Kp l room k L:=by
 unfold cB at h;cases e:dq l k.node.fid with
 | some i=>
  rw[e] at h;injection h with h
  subst h;obtain ⟨hi,hf⟩:=BY e;refine ⟨λx hx=>?_,?_,by rw[Wp];exact hl,⟨{ k with worth:=kT k.worth (l.getD i default).worth },List.mem_iff_getElem.2 ⟨i,by simpa using hi,by simp⟩,rfl,rfl⟩⟩
  ·obtain ⟨j,hj⟩:=Z9 hx;rw[Wl] at hj;split at hj
   ·rename_i e2;subst e2;simp only[hi,if_true,Option.some.injEq] at hj;exact .inr ⟨by rw[←hj],by rw[←hj]⟩
   ·rename_i hne;refine .inl ⟨Z6 hj,λhxf=>hne ?_⟩;refine Ed hn (Z2 hi) hj ?_;rw[Z1,Z2 hi] at hf;exact hf.trans hxf.symm
  ·rw[EK hi (by exact hf)];exact hn
 | none=>
  rw[e] at h;obtain ⟨L0,h0,rfl⟩:=WN.1 h;have h1:=gl _ _ _ h0;have h2:=qP hr _ _ _ h0 (Nat.lt_succ_self _);have hno:=xK e;refine ⟨λx hx=>?_,?_,by rw[List.length_append];simp;omega,⟨k,by simp,rfl,rfl⟩⟩
  ·rcases List.mem_append.1 hx with hx | hx
   ·exact .inl ⟨h1.subset hx,hno x (h1.subset hx)⟩
   ·rw[List.mem_singleton.1 hx];exact .inr ⟨rfl,rfl⟩
  ·rw[List.map_append,List.nodup_append];refine ⟨hn.sublist (h1.map _),by simp,λa ha b hb=>?_⟩;obtain ⟨x,hx,rfl⟩:=Z7.1 ha;simp only[List.map_cons,List.map_nil,List.mem_singleton] at hb;rw[hb];exact hno x (h1.subset hx)
theorem CInvF.within {B T:Nat} {s:Srv} {c:Cli} (h:CInvF Fa B T s c) (hh:Hist s.past s.tree) {L:List Kept} (hn:(L.map λk=>k.node.fid).Nodup) (hl:(L.length:Int)≤c.room) (hm:∀k,k∈L->k.dirty=false/\k.node∈s.tree):CInvF Fa B T s { c with cache:=L }:=
 { h with
  nod:=hn
  len:=hl
  cM:=(Of.mem λk hk=>(hm k hk).2).cM hh.bV.cM
  data:=λk hk=>hh.bV.data _ (hm k hk).2
  ent:=λk hk=>hh.bV.ent _ (hm k hk).2
  eup:=λk hk=>(hh.whole.loc _ (hm k hk).2).eup
  nam:=λk hk=>hh.whole.nm (hm k hk).2
  here:=λha=>⟨(h.here ha).1,hm⟩
  hst:=λ_ k hk _=>Hst.at hh (hm k hk).2 }
theorem BT {B T:Nat} {u:U} (h:UInvF Fa B T u) (ha:u.c.away=false) {n:Node} (hn:n∈u.s.tree) (w c:Int):UInvF Fa B T (ju u ⟨n,false,w,c⟩):=by
 unfold ju;split
 ·rename_i l hl;have hk:=ma (by have:=h.cli.room;omega) h.cli.nod h.cli.len hl;refine ⟨h.srv,h.cli.within h.srv.hist hk.nod hk.len λx hx=>?_⟩
  rcases hk.mem x hx with ⟨h1,_⟩ | ⟨h1,h2⟩
  ·exact (h.cli.here ha).2 x h1
  ·exact ⟨h2,by rw[h1];exact hn⟩
 ·exact h
theorem cg {B T:Nat} {u:U} (h:UInvF Fa B T u) (f w:Int):UInvF Fa B (T+1) (aO u f w).u:=by
 unfold aO;split
 ·exact kl h f w
 ·split
  ·exact kl h f w
  ·rename_i ha;split
   ·exact kl h f w
   ·rename_i n hn;exact BT (kl h f w) (show u.c.away=false by simpa using ha) ((ZO h.srv.hist.bV.up).1 hn).1 w _
theorem AO {B:Nat} (w:Int):∀(l:List (List UInt8)) (T:Nat) (g:Got),UInvF Fa B T g.u->UInvF Fa B (T+l.length) (goR w l g).u
 | [],T,g,h=>by unfold goR;split<;>exact h
 | s::r,T,g,h=>by
  unfold goR;have hm:UInvF Fa B (T+(s::r).length) g.u:=h.mono (WC _) y7;split
  ·exact hm
  ·split
   ·exact hm
   ·split
    ·exact hm
    ·rename_i f _;have:=AO w r (T+1) (aO g.u f w) (cg h f w)
     rwa [show T+1+r.length=T+(s::r).length by simp;omega] at this
theorem js {B T:Nat} {u:U} (h:UInvF Fa B T u) (l:List (List UInt8)) (w:Int):UInvF Fa B (T+1+l.length) (goU u l w).u:=AO w l (T+1) _ (cg h 0 w)
theorem ej (s:List UInt8):(ah s).1.length≤41/\∀x,x∈(ah s).1->x.length≤40/\de x=true:=by
 unfold ah;split
 ·simp
 ·rename_i h1;split
  ·simp
  ·split
   ·simp
   ·split
    ·rename_i h4;have h2:=vn 47 (s.drop 1);have h5:(s.drop 1).length=s.length-1:=Ws;refine ⟨by show (eJ 47 (s.drop 1)).length≤41;omega,λx hx=>⟨?_,List.all_eq_true.1 h4 x hx⟩⟩;have h3:=pG 47 (s.drop 1) x hx;omega
    ·simp
theorem dM {B T:Nat} {u:U} (h:UInvF Fa B T u) (path:List UInt8):UInvF Fa B (T+42) (au u path).u:=by
 unfold au;split
 ·exact h.mono (WC _) z7
 ·split
  ·exact h.mono (WC _) z7
  ·refine (js h _ 0).mono (WC _) ?_;have:=(ej path).1;simp only[WO];omega
theorem cf (u:U) (path:List UInt8):(au u path).name.length≤40:=by
 unfold au;split
 ·simp
 ·split
  ·simp
  ·rename_i h;refine ((ej path).2 _ ?_).1;have hi:(ah path).1.length-1<(ah path).1.length:=by omega
   rw[Z1,Z2 hi];exact Wi hi
variable {Fa:Prop}
theorem kI {l:List Node} (h:(l.map (·.fid)).Nodup):∀i,i<l.length->∀j,j<i->ik l j≠ik l i:=λi hi j hj e=>by
 unfold ik at e;rw[Z1,Z1,Z2 hi,Z2 (show j<l.length by omega)] at e;have:=(List.getElem_inj (xs:=l.map (·.fid)) (i:=j) (j:=i) (h₀:=k7) (h₁:=Zy) h).1 (by rw[List.getElem_map,List.getElem_map];exact e);omega
theorem mj (l:List Kept):(bA l).map (·.fid)=l.map λk=>k.node.fid:=by unfold bA;rw[Wn];rfl
theorem nX {l:List Kept} (h:(l.map λk=>k.node.fid).Nodup):rO l=true:=by
 refine decide_eq_true λi hi j hj=>?_
 have:=kI (l:=bA l) (by rw[mj];exact h) i (by simpa[bA] using hi) j hj;have hf:∀i,i<l.length->ik (bA l) i=xc l i:=λi hi=>by
  unfold ik xc bA;rw[Z1,Z1,Z5,Z2 hi];rfl
 rwa [hf j z7,hf i hi] at this
theorem dV {c:Cli} (h:(c.cache.map λk=>k.node.fid).Nodup) (x:Node):x∈aU c↔∃k,k∈c.cache/\k.node=x:=by
 unfold aU;rw[qh _ (kI (by rw[mj];exact h)),nN]
theorem gu (c:Cli):Up (aU c):=nS _
theorem CM {c:Cli} (h:(c.cache.map λk=>k.node.fid).Nodup):(aU c).length=c.cache.length:=by
 unfold aU;rw[uT _ (kI (by rw[mj];exact h))];simp[bA]
theorem CInvF.bV {B T:Nat} {s:Srv} {c:Cli} (h:CInvF Fa B T s c):Good (aU c) where
 up:=gu c
 cM:=by
  obtain ⟨r,hr⟩:=h.cM;exact ⟨r,uh hr λn hn=>by
   obtain ⟨k,hk,rfl⟩:=(dV h.nod n).1 hn;exact ⟨k.node,nN.2 ⟨k,hk,rfl⟩,rfl,rfl⟩⟩
 len:=by rw[CM h.nod];have:=h.len;have:=h.room;omega
 data:=λn hn=>by obtain ⟨k,hk,rfl⟩:=(dV h.nod n).1 hn;exact h.data k hk
 ent:=λn hn=>by obtain ⟨k,hk,rfl⟩:=(dV h.nod n).1 hn;exact h.ent k hk
theorem CInvF.ri {B T:Nat} {s:Srv} {c:Cli} (h:CInvF Fa B T s c):Ri (aU c):=⟨gu c,λn hn=>by
 obtain ⟨k,hk,rfl⟩:=(dV h.nod n).1 hn;exact h.eup k hk⟩
theorem CInvF.nmT {B T:Nat} {s:Srv} {c:Cli} (h:CInvF Fa B T s c):Nm (aU c):=⟨gu c,λn hn=>by
 obtain ⟨k,hk,rfl⟩:=(dV h.nod n).1 hn;exact h.nam k hk⟩
theorem nM {room clk:Int} (hr:1≤room) {was:List Node} {a:Act}:∀(N:List Node) {l L:List Kept},(l.map λx=>x.node.fid).Nodup->(l.length:Int)≤room->bK room clk was a N l=some L ->
  (L.map λx=>x.node.fid).Nodup/\(L.length:Int)≤room/\∀x,x∈L->(x∈l/\∀n,n∈N->aM was a n=true->n.fid≠x.node.fid)\/∃n,n∈N/\aM was a n=true/\x.node=(dD was clk n).node/\x.dirty=true
 | [],l,L,hn,hl,h=>by
  rw[bK] at h;injection h with h
  subst h;exact ⟨hn,hl,λx hx=>.inl ⟨hx,λn hn=>by cases hn⟩⟩
 | n::r,l,L,hn,hl,h=>by
  rw[bK] at h;split at h
  ·rename_i hc;split at h
   ·cases h
   ·rename_i l' hk;have hp:=ma hr hn hl hk;obtain ⟨h1,h2,h3⟩:=nM hr r hp.nod hp.len h;refine ⟨h1,h2,λx hx=>?_⟩
    rcases h3 x hx with ⟨h4,h5⟩ | ⟨m,h4,h5⟩
    ·rcases hp.mem x h4 with ⟨h6,h7⟩ | ⟨h6,h7⟩
     ·refine .inl ⟨h6,λm hm hcm=>?_⟩
      rcases List.mem_cons.1 hm with rfl | hm
      ·exact λe=>h7 e.symm
      ·exact h5 m hm hcm
     ·exact .inr ⟨n,List.mem_cons_self,hc,h6,h7⟩
    ·exact .inr ⟨m,List.mem_cons_of_mem _ h4,h5⟩
  ·rename_i hc;obtain ⟨h1,h2,h3⟩:=nM hr r hn hl h;refine ⟨h1,h2,λx hx=>?_⟩
   rcases h3 x hx with ⟨h4,h5⟩ | ⟨m,h4,h5⟩
   ·refine .inl ⟨h4,λm hm hcm=>?_⟩
    rcases List.mem_cons.1 hm with rfl | hm
    ·exact absurd hcm hc
    ·exact h5 m hm hcm
   ·exact .inr ⟨m,List.mem_cons_of_mem _ h4,h5⟩
theorem yU {l L:List Rec} {r:Rec} (hl:l.length≤20) (h:dC l r=some L):L.length≤20/\∀x,x∈L->x∈l\/x=r:=by
 unfold dC at h;split at h
 ·injection h with h
  subst h;exact ⟨Wk (WH _ _) hl,λx hx=>.inl (WE.1 hx).1⟩
 ·split at h
  ·cases h
  ·rename_i hlt;injection h with h
   subst h;refine ⟨by simp;omega,λx hx=>?_⟩
   rcases List.mem_append.1 hx with hx | hx
   ·exact .inl ((lz l r).subset hx)
   ·exact .inr (List.mem_singleton.1 hx)
theorem qO {a b:Node} (h:eS false a b=true):a.fid=b.fid/\a.dir=b.dir/\a.data=b.data/\a.entries=b.entries:=by
 unfold eS at h;simp only[Bool.and_eq_true,beq_iff_eq,decide_eq_true_eq] at h;exact ⟨h.1.1.1.1,h.1.1.1.2,h.1.1.2,h.1.2⟩
theorem qo {was:List Node} {a:Act} {n:Node} (h:aM was a n≠true):∃o,af was n.fid=some o/\eS false o n=true:=by
 unfold aM at h;cases e:af was n.fid with
 | none=>rw[e] at h;simp at h
 | some o=>
  rw[e] at h;refine ⟨o,rfl,?_⟩;simp only[Bool.not_eq_true,Bool.not_eq_false',Bool.and_eq_true] at h;exact h.1
theorem Em {c:Cli} {a:Act} (h:ActS a):ActS (cd c a):=by unfold cd;split;exact ⟨h.name,h.toName,h.data⟩;exact h
theorem Ji {B T:Nat} {s:Srv} {c:Cli} (h:CInvF Fa B T s c) {a:Act} (he:aB (aU c) (cd c a)=0) {L:List Kept} (hL:fy c a=some L) :
  let L':=L.filter λk=>bz (cJ c a) k.node.fid
  (L'.map λx=>x.node.fid).Nodup/\(L'.length:Int)≤c.room/\Of (cJ c a) L'/\∀x,x∈L'->x.dirty=false->x∈c.cache:=by
 intro L';obtain ⟨h1,h2,h3⟩:=nM (by have:=h.room;omega) _ h.nod h.len hL;have hg:=iZ h.bV (cd c a) 0 he;refine ⟨h1.sublist ((Wz).map _),?_,⟨λx hx=>?_⟩,λx hx hd=>?_⟩
 ·have:=WH (λk:Kept=>bz (cJ c a) k.node.fid) L
  show ((L.filter _).length:Int)≤_
  omega
 ·obtain ⟨hx,hat⟩:=WE.1 hx
  rcases h3 x hx with ⟨h4,h5⟩ | ⟨n,h4,h5,h6,h7⟩
  ·rw[bP] at hat;obtain ⟨m,hm⟩:=Wb.1 hat;obtain ⟨hm,hmf⟩:=(ZO hg.up).1 hm;have hno:aM (aU c) (cd c a) m≠true:=λhc=>h5 m hm hc hmf
   obtain ⟨o,ho,hs⟩:=qo hno;have hx2:af (aU c) m.fid=some x.node:=(ZO (gu c)).2 ⟨(dV h.nod _).2 ⟨x,h4,rfl⟩,hmf.symm⟩;rw[hx2] at ho;injection ho with ho
   subst ho;obtain ⟨k1,k2,k3,k4⟩:=qO hs;exact ⟨m,hm,hmf,k2.symm,k3.symm,k4.symm⟩
  ·exact ⟨n,h4,by rw[h6];rfl,by rw[h6];rfl,by rw[h6];rfl,by rw[h6];rfl⟩
 ·obtain ⟨hx,_⟩:=WE.1 hx
  rcases h3 x hx with ⟨h4,_⟩ | ⟨n,_,_,_,h7⟩
  ·exact h4
  ·rw[hd] at h7;cases h7
theorem GX {B T:Nat} {u:U} (h:UInvF Fa B T u) (ha:u.c.away=true) {a:Act} (hs:ActS a) (seen:Int):UInvF Fa (B+1) T (kZ u a seen).u:=by
 have hm:=h.mono (Nat.le_succ B) (WC T);unfold kZ;split
 ·exact hm
 ·rename_i he;have he:aB (aU u.c) (cd u.c a)=0:=by omega
  split
  ·exact hm
  ·rename_i log hlog;split
   ·exact hm
   ·rename_i L hL;obtain ⟨h1,h2,h3,h4⟩:=Ji h.cli he hL;have hg:=iZ h.cli.bV (cd u.c a) 0 he;have hri:Ri (cJ u.c a):=by unfold cJ;rw[←h.cli.bV.aH];exact h.cli.ri.apply _ _
    have hnm:Nm (cJ u.c a):=by unfold cJ;rw[←h.cli.bV.aH];exact h.cli.nmT.apply _ _
    obtain ⟨g1,g2⟩:=yU h.cli.log hlog;refine ⟨hm.srv,?_⟩;have hc:=hm.cli;exact { hc with
     nod:=h1
     len:=h2
     cM:=h3.cM hg.cM
     data:=λk hk=>by obtain ⟨n,k1,_,_,k2,_⟩:=h3.each k hk;rw[←k2];exact hg.data n k1
     ent:=λk hk=>by obtain ⟨n,k1,_,_,_,k2⟩:=h3.each k hk;rw[←k2];exact hg.ent n k1
     eup:=λk hk=>by obtain ⟨n,k1,_,_,_,k2⟩:=h3.each k hk;rw[←k2];exact hri.eup n k1
     nam:=λk hk=>by obtain ⟨n,k1,_,_,_,k2⟩:=h3.each k hk;rw[←k2];exact hnm.nm n k1
     here:=λh0=>by simp only[ha] at h0;cases h0
     hst:=λhF k hk hd=>h.cli.hst hF k (h4 k hk hd) hd
     log:=g1
     logS:=λr hr=>by
      rcases g2 r hr with h5 | rfl
      ·exact h.cli.logS r h5
      ·exact Em hs
     made:=by have:=h.cli.made;show 0≤(if an a=true then u.c.made+1 else u.c.made)/\(if an a=true then u.c.made+1 else u.c.made)≤((B+1:Nat):Int);split<;>omega
     logged:=by have:=h.cli.logged;show 0≤u.c.logged+1/\u.c.logged+1≤((B+1:Nat):Int);omega }
theorem CInvF.grow {B B' T:Nat} {s s':Srv} {c:Cli} (h:CInvF Fa B T s c) (hB:B≤B') (hh:Hist s.past s.tree) (hg:Grown s s'):CInvF Fa B' T s' (aS s'.tree c):=by
 have hm:=h.mono hB (WC T);unfold aS;split
 ·rename_i ha;exact { hm with here:=λh0=>(by rw[ha] at h0;cases h0),hst:=λhF k hk hd=>(h.hst hF k hk hd).grow hh hg }
 ·rename_i ha;have ha:c.away=false:=by simpa using ha
  unfold fV;have hsub:(c.cache.filter λk=>!dU s'.tree k).Sublist c.cache:=Wz;have hin:∀k,k∈c.cache.filter (λk=>!dU s'.tree k)->k.dirty=false/\k.node∈s'.tree:=λk hk=>by
   obtain ⟨hk,hst⟩:=WE.1 hk;have hd:=((h.here ha).2 k hk).1;exact ⟨hd,uW hg.hist ((Hst.at hh ((h.here ha).2 k hk).2).grow hh hg) hd (by simpa using hst)⟩
  exact { hm with
   nod:=h.nod.sublist (hsub.map _)
   len:=by have:=hsub.length_le;have:=h.len;show ((c.cache.filter _).length:Int)≤c.room;omega
   cM:=(Of.mem λk hk=>(hin k hk).2).cM hg.hist.bV.cM
   data:=λk hk=>h.data k (hsub.subset hk)
   ent:=λk hk=>h.ent k (hsub.subset hk)
   eup:=λk hk=>h.eup k (hsub.subset hk)
   nam:=λk hk=>h.nam k (hsub.subset hk)
   here:=λ_=>⟨(h.here ha).1,hin⟩
   hst:=λhF k hk hd=>(h.hst hF k (hsub.subset hk) hd).grow hh hg }
theorem Gk {s:Srv} {a:Act} (h:ActFit a):ActFit (doA s a):=by unfold doA;split;exact ⟨h.name,h.toName,h.data⟩;exact h
theorem xw {s:Srv} (h:Hist s.past s.tree) (c:Int) {a:Act} (ha:ActFit a) (he:doE s a=0):Grown s (doS s c a):=⟨Hist.snoc c _ h (Gk ha) he,_,rfl⟩
theorem si {s:Srv} (h:Hist s.past s.tree) (c:Int) {log:List Rec} (hl:∀r,r∈log->ActFit r.act):Grown s (po s c log):=⟨(JInv.xJ h c s.next log hl).hist,_,rfl⟩
theorem DN {B T:Nat} {u:U} (h:UInvF Fa B T u) (ha:u.c.away=false) {a:Act} (hs:ActS a):UInvF Fa (B+1) T (fo u a).u:=by
 unfold fo;split
 ·rename_i he;have hg:=xw h.srv.hist u.c.number hs.fit he;have:=h.cli.grow (Nat.le_succ B) h.srv.hist hg;unfold aS at this;rw[if_neg Qu] at this;exact ⟨h.srv.step u.c.number hs.fit he,this⟩
 ·exact h.mono (Nat.le_succ B) (WC T)
theorem gT {B T:Nat} {u:U} (h:UInvF Fa B T u) {a:Act} (hs:ActS a) (seen:Int):UInvF Fa (B+1) T (bC u a seen).u:=by
 unfold bC;split
 ·rename_i ha;exact GX h ha hs seen
 ·rename_i ha;exact DN h (by simpa using ha) hs
theorem A8 {B T:Nat} {g:Got} (h:UInvF Fa B T g.u) {data:List UInt8} (hd:data.length≤20):UInvF Fa (B+1) T (jl g data).u:=by
 unfold jl;split
 ·exact h.mono (Nat.le_succ B) (WC T)
 ·exact gT h ⟨by simp[az],by simp[az],hd⟩ _
theorem CZ {B T:Nat} {u:U} (h:UInvF Fa B T u) (path data:List UInt8):UInvF Fa (B+2) (T+100) (bn u path data).u:=by
 have hd:=dM h path;have hn:=cf u path;unfold bn;split
 ·exact hd.mono z7 z7
 ·split
  ·exact hd.mono z7 z7
  ·rename_i hdl;split
   ·rename_i f _;exact (A8 (cg hd f 0) z7).mono z7 z7
   ·have hm:=gT hd (a:=aZ (au u path).n.fid (au u path).name) ⟨hn,by simp[aZ],by simp[aZ]⟩ (-1);split
    ·exact hm.mono z7 z7
    ·have:=(ej path).1;exact (A8 (js hm (ah path).1 0) z7).mono z7 z7
theorem B5 {B T:Nat} {u:U} (h:UInvF Fa B T u) (path:List UInt8):UInvF Fa (B+2) (T+100) (fh u path).u:=by
 have hd:=dM h path;have hn:=cf u path;unfold fh;split
 ·exact hd.mono z7 z7
 ·exact (gT hd (a:=lC (au u path).n.fid (au u path).name) ⟨hn,by simp[lC],by simp[lC]⟩ (-1)).mono z7 z7
theorem rv {B T:Nat} {u:U} (h:UInvF Fa B T u) (path:List UInt8):UInvF Fa B (T+43) (atU u path).u/\(atU u path).name.length≤40:=by
 have hd:=dM h path;have hn:=cf u path;unfold atU;split
 ·exact ⟨hd.mono z7 z7,by simp⟩
 ·split
  ·exact ⟨hd.mono z7 z7,by simp⟩
  ·rename_i f _;exact ⟨cg hd f 0,hn⟩
theorem zM {B T:Nat} {u:U} (h:UInvF Fa B T u) (path:List UInt8):UInvF Fa (B+2) (T+100) (cn u path).u:=by
 obtain ⟨hd,hn⟩:=rv h path;unfold cn;split
 ·exact hd.mono z7 z7
 ·exact (gT hd (a:=aK (atU u path).n.fid (atU u path).d (atU u path).name) ⟨hn,by simp[aK],by simp[aK]⟩ _).mono z7 z7
theorem Ea {B T:Nat} {u:U} (h:UInvF Fa B T u) (path to:List UInt8):UInvF Fa (B+2) (T+100) (fJ u path to).u:=by
 obtain ⟨hd,hn⟩:=rv h path;unfold fJ;split
 ·exact hd.mono z7 z7
 ·have h2:=dM hd to;have hn2:=cf (atU u path).u to;split
  ·exact h2.mono z7 z7
  ·exact (gT h2 (a:=fa (atU u path).n.fid (atU u path).d (atU u path).name (au (atU u path).u to).n.fid (au (atU u path).u to).name) ⟨hn,hn2,by simp[fa]⟩ _).mono z7 z7
theorem pd:∀(l:List Rec) (vs:List Verdict),(∀r,r∈cU l vs->r∈l)/\(cU l vs).length≤l.length
 | [],vs=>by cases vs<;>exact ⟨λr hr=>Zn,WC _⟩
 | r::l,[]=>⟨λr hr=>Zn,Wg _⟩
 | r::l,v::vs=>by
  obtain ⟨h1,h2⟩:=pd l vs;unfold cU;split
  ·exact ⟨λx hx=>List.mem_cons_of_mem _ (h1 x hx),by simp;omega⟩
  ·refine ⟨λx hx=>?_,by simp;omega⟩
   rcases List.mem_cons.1 hx with rfl | hx
   ·exact List.mem_cons_self
   ·exact List.mem_cons_of_mem _ (h1 x hx)
theorem Da {B T:Nat} {u:U} (h:UInvF Fa B T u) (hF:Fa):UInvF Fa (B+20) T (cA u):=by
 have hlf:∀r,r∈u.c.log->ActFit r.act:=λr hr=>(h.cli.logS r hr).fit
 have hg:=si h.srv.hist u.c.number hlf;have hl:=h.cli.log;have hs:=(h.srv.take u.c.number hlf).mono (show B+u.c.log.length≤B+20 by omega);obtain ⟨r1,r2⟩:=pd u.c.log (bm u);have hc:=(h.cli).mono (show B≤B+20 by omega) (WC T);have hsub:((u.c.cache.filter λk=>!k.dirty).filter λk=>!dU (jo u).tree k).Sublist u.c.cache:=Wz.trans Wz;have hin:∀k,k∈(u.c.cache.filter λk=>!k.dirty).filter (λk=>!dU (jo u).tree k)->k.dirty=false/\k.node∈(jo u).tree:=λk hk=>by
  obtain ⟨hk,hst⟩:=WE.1 hk;obtain ⟨hk,hd⟩:=WE.1 hk;have hd:k.dirty=false:=by simpa using hd
  exact ⟨hd,uW hg.hist ((h.cli.hst hF k hk hd).grow h.srv.hist hg) hd (show dU (jo u).tree k=false by simpa using hst)⟩
 refine ⟨hs,?_⟩;exact { hc with
  nod:=h.cli.nod.sublist (hsub.map _)
  len:=by have:=hsub.length_le;have:=h.cli.len;show ((List.filter _ (u.c.cache.filter _)).length:Int)≤u.c.room;omega
  cM:=(Of.mem λk hk=>(hin k hk).2).cM hg.hist.bV.cM
  data:=λk hk=>h.cli.data k (hsub.subset hk)
  ent:=λk hk=>h.cli.ent k (hsub.subset hk)
  eup:=λk hk=>h.cli.eup k (hsub.subset hk)
  nam:=λk hk=>h.cli.nam k (hsub.subset hk)
  here:=λ_=>⟨rfl,hin⟩
  hst:=λ_ k hk _=>Hst.at hg.hist (hin k hk).2
  log:=Wg _
  logS:=λr hr=>by cases hr
  rep:=by have:=h.cli.rep;show (u.c.repair++_).length≤_;rw[List.length_append];omega
  repS:=λr hr=>by
   rcases List.mem_append.1 hr with hr | hr
   ·exact h.cli.repS r hr
   ·exact h.cli.logS r (r1 r hr) }
theorem vY {s:List UInt8} (h:(ah s).2=0):s.length≤40:=by
 unfold ah at h;split at h
 ·cases h
 ·omega
theorem BM {B T:Nat} {u:U} (h:UInvF Fa B T u) (path:List UInt8) (w:Int):UInvF Fa B T (fX u path w).u:=by
 unfold fX;split
 ·exact h
 ·rename_i hs;have hs:=vY (s:=path) z7;split
  ·exact h
  ·rename_i hw;split
   ·exact h
   ·rename_i hm;have hfl:=WH (λh:Hoard=>!(h.path==path)) u.c.hoards;have h6:=h.cli.hoards;refine ⟨h.srv,?_⟩;have hc:=h.cli;exact { hc with
     hoards:=by
      show (if 0<w then ee u.c.hoards path++[⟨path,w⟩] else ee u.c.hoards path).length≤6
      split
      ·rename_i h0;have:¬(ee u.c.hoards path).length≥6:=λh1=>hm ⟨h0,h1⟩
       simp;omega
      ·exact Wk hfl h6
     hoardS:=λx hx=>by
      have hx:x∈(if 0<w then ee u.c.hoards path++[⟨path,w⟩] else ee u.c.hoards path):=hx;split at hx
      ·rcases List.mem_append.1 hx with hx | hx
       ·exact h.cli.hoardS x (WE.1 hx).1
       ·rw[List.mem_singleton.1 hx];exact ⟨hs,by show 1≤w/\w≤100;omega⟩
      ·exact h.cli.hoardS x (WE.1 hx).1 }
theorem tz {B T:Nat} {g:GotV} (h:UInvF Fa B T g.u) (x:Hoard):UInvF Fa B (T+42) (ir g x).u:=by
 have:=(ej x.path).1;exact (js h (ah x.path).1 x.worth).mono (WC _) z7
theorem tx {B:Nat}:∀(l:List Hoard) (T:Nat) (g:GotV),UInvF Fa B T g.u->UInvF Fa B (T+42*l.length) (l.foldl ir g).u
 | [],T,g,h=>h
 | x::l,T,g,h=>by
  have:=tx l (T+42) (ir g x) (tz h x);rw[show T+42+42*l.length=T+42*(x::l).length by simp;omega] at this;exact this
theorem zG (l:List Hoard):∀w,(bL l w).length≤l.length:=λw=>by
 have key:∀w,(bL l w).length+(l.filter λh=>decide (h.worth>((w:Nat):Int))).length≤l.length:=λw=>by
  induction w with
  | zero=>rw[bL,List.length_nil,WT];exact WH _ _
  | succ w ih=>
   rw[bL,List.length_append];have h1:∀m:List Hoard,(m.filter λh=>h.worth==((w+1:Nat):Int)).length+(m.filter λh=>decide (h.worth>((w+1:Nat):Int))).length≤(m.filter λh=>decide (h.worth>((w:Nat):Int))).length:=λm=>by
    induction m with
    | nil=>simp
    | cons x m ihm=>
     simp only[List.filter_cons]
     by_cases e1:x.worth=((w+1:Nat):Int)
     ·rw[if_pos Zz,if_neg k7,if_pos k7];simp only[List.length_cons];omega
     ·rw[if_neg Zz]
      by_cases e2:x.worth>((w+1:Nat):Int)
      ·rw[if_pos QO,if_pos k7];simp only[List.length_cons];omega
      ·rw[if_neg QO,if_neg (by simp only[decide_eq_true_eq];omega)];exact ihm
   have:=h1 l;omega
 have:=key w;omega
theorem CT {B T:Nat} {u:U} (h:UInvF Fa B T u):UInvF Fa B (T+252) (ji u).u:=by
 have:=zG u.c.hoards 100;have h6:=h.cli.hoards;exact (tx (bL u.c.hoards 100) T ⟨0,u⟩ h).mono (WC _) z7
theorem CB {B T:Nat} {u:U} (h:UInvF Fa B T u) (x:Step) (hF:x.kind=8->Fa):UInvF Fa (B+20) (T+300) (ar u x).u:=by
 have hm:=h.mono (show B≤B+20 by omega) (show T≤T+300 by omega);unfold ar;split
 ·split
  ·exact hm
  ·have:=(ej x.path).1;exact (js h (ah x.path).1 0).mono z7 z7
 ·split
  ·exact (CZ h x.path x.data).mono z7 z7
  ·split
   ·exact (B5 h x.path).mono z7 z7
   ·split
    ·exact (zM h x.path).mono z7 z7
    ·split
     ·exact (Ea h x.path x.toPath).mono z7 z7
     ·split
      ·exact ⟨hm.srv,{ hm.cli with here:=λh0=>by cases h0 }⟩
      ·split
       ·rename_i h8;exact (Da h (hF h8)).mono z7 z7
       ·split
        ·exact (BM h x.path x.n).mono z7 z7
        ·split
         ·split
          ·exact hm
          ·exact (CT h).mono z7 z7
         ·exact hm
theorem ti {B T:Nat} {u:U} (h:ij B T u) (x:Step):ij (B+20) (T+300) (ar u x).u:=CB h x λ_=>trivial
theorem Gy (u:U) (k:Kept):(ju u k).s=u.s:=by unfold ju;split<;>rfl
theorem nJ (u:U) (f w:Int):(aO u f w).u.s=u.s:=by
 unfold aO;split
 ·rfl
 ·split
  ·rfl
  ·split
   ·rfl
   ·exact Gy _ _
theorem Iq (w:Int):∀(l:List (List UInt8)) (g:Got),(goR w l g).u.s=g.u.s
 | [],g=>by unfold goR;split<;>rfl
 | s::r,g=>by
  unfold goR;split
  ·rfl
  ·split
   ·rfl
   ·split
    ·rfl
    ·rw[Iq w r,nJ]
theorem sf (u:U) (l:List (List UInt8)) (w:Int):(goU u l w).u.s=u.s:=by unfold goU;rw[Iq,nJ]
theorem gz (u:U) (path:List UInt8):(au u path).u.s=u.s:=by
 unfold au;split
 ·rfl
 ·split
  ·rfl
  ·exact sf _ _ _
theorem wx (u:U) (path:List UInt8):(atU u path).u.s=u.s:=by
 unfold atU;split
 ·exact gz _ _
 ·split
  ·exact gz _ _
  ·show (aO _ _ _).u.s=_;rw[nJ,gz]
theorem yG:∀(l:List Hoard) (g:GotV),(l.foldl ir g).u.s=g.u.s
 | [],_=>rfl
 | x::l,g=>by rw[List.foldl_cons,yG l];exact sf _ _ _
theorem Gu (u:U) (f w:Int):(aO u f w).u.c.number=u.c.number/\(aO u f w).u.c.room=u.c.room/\(aO u f w).u.c.away=u.c.away/\(aO u f w).u.c.log=u.c.log/\(aO u f w).u.c.repair=u.c.repair/\(aO u f w).u.c.hoards=u.c.hoards/\(aO u f w).u.c.made=u.c.made/\(aO u f w).u.c.logged=u.c.logged:=by
 unfold aO;split
 ·exact ⟨rfl,rfl,rfl,rfl,rfl,rfl,rfl,rfl⟩
 ·split
  ·exact ⟨rfl,rfl,rfl,rfl,rfl,rfl,rfl,rfl⟩
  ·split
   ·exact ⟨rfl,rfl,rfl,rfl,rfl,rfl,rfl,rfl⟩
   ·show (ju _ _).c.number=_/\_
    unfold ju;split<;>exact ⟨rfl,rfl,rfl,rfl,rfl,rfl,rfl,rfl⟩
structure Idle (u u':U):Prop where
 s:u'.s=u.s
 number:u'.c.number=u.c.number
 room:u'.c.room=u.c.room
 away:u'.c.away=u.c.away
 log:u'.c.log=u.c.log
 rep:u'.c.repair=u.c.repair
 hoards:u'.c.hoards=u.c.hoards
 made:u'.c.made=u.c.made
 logged:u'.c.logged=u.c.logged
theorem Idle.refl (u:U):Idle u u:=⟨rfl,rfl,rfl,rfl,rfl,rfl,rfl,rfl,rfl⟩
theorem Idle.trans {a b c:U} (h:Idle a b) (k:Idle b c):Idle a c:=⟨k.s.trans h.s,k.number.trans h.number,k.room.trans h.room,k.away.trans h.away,k.log.trans h.log,k.rep.trans h.rep,k.hoards.trans h.hoards,k.made.trans h.made,k.logged.trans h.logged⟩
theorem dQ (u:U) (f w:Int):Idle u (aO u f w).u:=by
 obtain ⟨h1,h2,h3,h4,h5,h6,h7,h8⟩:=Gu u f w;exact ⟨nJ u f w,h1,h2,h3,h4,h5,h6,h7,h8⟩
theorem xr (w:Int):∀(l:List (List UInt8)) (g:Got),Idle g.u (goR w l g).u
 | [],g=>by unfold goR;split<;>exact Idle.refl _
 | s::r,g=>by
  unfold goR;split
  ·exact Idle.refl _
  ·split
   ·exact Idle.refl _
   ·split
    ·exact Idle.refl _
    ·exact (dQ _ _ _).trans (xr w r _)
theorem iY (u:U) (l:List (List UInt8)) (w:Int):Idle u (goU u l w).u:=(dQ u 0 w).trans (xr w l _)
theorem By (u:U) (path:List UInt8):Idle u (au u path).u:=by
 unfold au;split
 ·exact Idle.refl _
 ·split
  ·exact Idle.refl _
  ·exact iY _ _ _
theorem JN (u:U) (a:Act) (seen:Int):(kZ u a seen).u.s=u.s:=by
 unfold kZ;split
 ·rfl
 ·split
  ·rfl
  ·split<;>rfl
theorem jW {B T:Nat} {u:U} (h:ij B T u) {a:Act} (hs:ActS a) (seen:Int):Grown u.s (bC u a seen).u.s:=by
 unfold bC;split
 ·rw[JN];exact Grown.refl h.srv.hist
 ·unfold fo;split
  ·rename_i he;exact xw h.srv.hist u.c.number hs.fit he
  ·exact Grown.refl h.srv.hist
theorem grown_of {u u' v:U} (hi:u'.s=u.s) (h:Grown u'.s v.s):Grown u.s v.s:=by rw[hi] at h;exact h
theorem uM {B T:Nat} {g:Got} (h:ij B T g.u) {data:List UInt8} (hd:data.length≤20):Grown g.u.s (jl g data).u.s:=by
 unfold jl;split
 ·exact Grown.refl h.srv.hist
 ·exact jW h ⟨by simp[az],by simp[az],hd⟩ _
theorem eT {B T:Nat} {u v:U} (h:ij B T u) (hs:v.s=u.s):Grown u.s v.s:=by rw[hs];exact Grown.refl h.srv.hist
theorem yS {B T:Nat} {u:U} (h:ij B T u) (path data:List UInt8):Grown u.s (bn u path data).u.s:=by
 have hd:=dM h path;have hn:=cf u path;unfold bn;split
 ·exact eT h (gz u path)
 ·split
  ·exact eT h (gz u path)
  ·split
   ·rename_i f _;exact grown_of (u':=(aO (au u path).u f 0).u) (by rw[nJ,gz]) (uM (cg hd f 0) z7)
   ·have ha:ActS (aZ (au u path).n.fid (au u path).name):=⟨hn,by simp[aZ],by simp[aZ]⟩;have hg:=jW hd ha (-1);have hm:=gT hd ha (-1);split
    ·exact grown_of (gz u path) hg
    ·exact grown_of (gz u path) (hg.trans (grown_of (u':=(goU _ _ _).u) (sf _ _ _) (uM (js hm (ah path).1 0) z7)))
theorem z_ {B T:Nat} {u:U} (h:ij B T u) (x:Step):Grown u.s (ar u x).u.s:=by
 unfold ar;split
 ·split
  ·exact Grown.refl h.srv.hist
  ·exact eT h (sf _ _ _)
 ·split
  ·exact yS h _ _
  ·split
   ·unfold fh;split
    ·exact eT h (gz _ _)
    ·exact grown_of (gz u x.path) (jW (dM h x.path) ⟨cf u x.path,by simp[lC],by simp[lC]⟩ (-1))
   ·split
    ·unfold cn;obtain ⟨hd,hn⟩:=rv h x.path;split
     ·exact eT h (wx _ _)
     ·exact grown_of (wx u x.path) (jW hd ⟨hn,by simp[aK],by simp[aK]⟩ _)
    ·split
     ·unfold fJ;obtain ⟨hd,hn⟩:=rv h x.path;split
      ·exact eT h (wx _ _)
      ·split
       ·exact eT h (by rw[gz,wx])
       ·exact grown_of (u':=(au (atU u x.path).u x.toPath).u) (by rw[gz,wx]) (jW (dM hd x.toPath) ⟨hn,cf _ _,by simp[fa]⟩ _)
     ·split
      ·exact Grown.refl h.srv.hist
      ·split
       ·exact si h.srv.hist u.c.number λr hr=>(h.cli.logS r hr).fit
       ·split
        ·unfold fX;split
         ·exact Grown.refl h.srv.hist
         ·split
          ·exact Grown.refl h.srv.hist
          ·split<;>exact Grown.refl h.srv.hist
        ·split
         ·split
          ·exact Grown.refl h.srv.hist
          ·exact eT h (yG _ _)
         ·exact Grown.refl h.srv.hist
structure WInv (B T:Nat) (w:Wor):Prop where
 srv:SrvOK B w.s
 cli:∀c,c∈w.cs->JR B T w.s c
 len:w.cs.length≤3
theorem WInv.at {B T:Nat} {w:Wor} (h:WInv B T w) {i:Nat} (hi:i<w.cs.length):ij B T ⟨w.cs.getD i default,w.s⟩:=⟨h.srv,h.cli _ (YG hi)⟩
theorem bl {B T:Nat} {w:Wor} (h:WInv B T w) (x:Step):WInv (B+20) (T+300) (ai w x).w:=by
 unfold ai;split
 ·exact ⟨h.srv.mono z7,λc hc=>(h.cli c hc).mono z7 z7,h.len⟩
 ·rename_i hx;have hi:x.client.toNat<w.cs.length:=by omega
  have hu:=h.at hi;have h1:=ti hu x;have h2:=z_ hu x;refine ⟨h1.srv,λc hc=>?_,by simp;exact h.len⟩;obtain ⟨d,hd,rfl⟩:=Z7.1 hc
  rcases Wt hd with hd | rfl
  ·exact ((h.cli d hd).mono (WC B) (show T≤T+300 by omega)).grow z7 h.srv.hist h2
  ·exact h1.cli.grow (WC _) h1.srv.hist (Grown.refl h1.srv.hist)
theorem oO {rooms:List Int} (h:cz rooms=0):WInv 0 0 (bo rooms):=by
 unfold cz at h;split at h
 ·cases h
 ·split at h
  ·rename_i hr hall;refine ⟨SrvOK.new,λc hc=>?_,by simp[bo,nx];omega⟩;obtain ⟨j,hj,rfl⟩:=Z7.1 hc;have hj:j<rooms.length:=Wv.1 hj;have:=List.all_eq_true.1 hall (rooms.getD j 0) (by rw[Z1,Z2 hj];exact Wi hj);simp only[Bool.and_eq_true,decide_eq_true_eq] at this;exact CInvF.new 0 0 _ j _ this
  ·cases h
theorem nE:∀(l:List Step) {B T:Nat} {w:Wor},WInv B T w->WInv (B+20*l.length) (T+300*l.length) (l.foldl (λw x=>(ai w x).w) w)
 | [],_,_,_,h=>h
 | x::l,B,T,w,h=>by
  have:=nE l (bl h x);rw[show B+20+20*l.length=B+20*(x::l).length by simp;omega,show T+300+300*l.length=T+300*(x::l).length by simp;omega] at this;exact this
theorem Bv {rooms:List Int} (h:cz rooms=0) (l:List Step):WInv (20*l.length) (300*l.length) (IV rooms l):=by
 have:=nE l (oO h)
 rwa [WT,WT] at this
def ZJ (h:Hoard):List AV:=[.str h.path,.int .i64 h.worth]
def ZC (c:Cli):List AV:=[.int .i64 c.number,.bool c.away,.int .i64 c.room,.sl (c.cache.map ZK),.sl (c.log.map ZR),.sl (c.repair.map ZR),.sl (c.hoards.map ZJ),.int .i64 c.clock,.int .i64 c.made,.int .i64 c.logged]
def ZX (x:Step):List AV:=[.int .i64 x.kind,.int .i64 x.client,.int .i64 x.n,.str x.path,.str x.toPath,.sl (x.data.map ZY)]
def aj (r:Reply):List AV:=[.int .i64 r.err,.int .i64 r.n,.int .i64 r.m,.sl (r.data.map ZY)]
def dr (u:U):List AV:=[.int .i64 u.c.number,.bool u.c.away,.int .i64 u.c.room,.sl (u.c.cache.map ZK),.sl (u.c.log.map ZR),.sl (u.c.repair.map ZR),.sl (u.c.hoards.map ZJ),.int .i64 u.c.clock,.int .i64 u.c.made,.int .i64 u.c.logged,.sl (u.s.tree.map ZN),.int .i64 u.s.next,.sl (u.s.past.map ZP)]
def bI (w:Wor):List AV:=[.sl (w.s.tree.map ZN),.int .i64 w.s.next,.sl (w.s.past.map ZP),.sl (w.cs.map ZC)]
theorem eW:Fam ZJ 2:=⟨λ_=>rfl,λ_=>rfl,λ_=>rfl,λ_=>rfl⟩
@[go_sem,simp] theorem C2 (l:List _):Eng.rowsOf 2 (l.map ZJ):=eW.rowsOf l
@[go_sem,simp] theorem Fl (l:List _):((l.map ZJ).all λrow=>row.all AV.leaf)=true:=eW.mK l
@[go_sem,simp] theorem gV (l:List _):((l.map ZJ).all λrow=>row.all AV.bw)=true:=eW.fw l
@[go_sem,simp] theorem DQ (id:Nat) (l:List _):((l.map ZJ).all λrow=>row.all λx=>!(refs x).contains id)=true:=eW.lD id l
@[go_sem,simp] theorem DR (e s:Nat) (l:List _):aN (.cells e s (l.map ZJ))=[]:=eW.aN e s l
@[go_sem,simp] theorem Fm (off:Nat) (l:List _):(l.map ZJ).map (gw off)=l.map ZJ:=Fam.gw (λ_ _=>rfl) off l
@[go_sem,simp] theorem Fk (id s:Nat) (rows:List (List AV)) (l:List _):(l.map ZJ).map (dX id s rows)=l.map ZJ:=Fam.dX (λ_ _ _ _=>rfl) id s rows l
@[go_sem,simp] theorem DS (a):aL (ZJ a)=[]:=eW.free a
theorem nH:Fam ZC 10:=⟨λ_=>rfl,λ_=>rfl,λ_=>rfl,λ_=>rfl⟩
@[go_sem,simp] theorem lK (l:List _):((l.map ZC).all λrow=>row.all AV.bw)=true:=nH.fw l
@[go_sem,simp] theorem vl (id:Nat) (l:List _):((l.map ZC).all λrow=>row.all λx=>!(refs x).contains id)=true:=nH.lD id l
@[go_sem,simp] theorem F_ (e s:Nat) (l:List _):aN (.cells e s (l.map ZC))=[]:=nH.aN e s l
@[go_sem,simp] theorem Ip (off:Nat) (l:List _):(l.map ZC).map (gw off)=l.map ZC:=Fam.gw (λ_ _=>rfl) off l
@[go_sem,simp] theorem Io (id s:Nat) (rows:List (List AV)) (l:List _):(l.map ZC).map (dX id s rows)=l.map ZC:=Fam.dX (λ_ _ _ _=>rfl) id s rows l
theorem fG:Fam ZX 6:=⟨λ_=>rfl,λ_=>rfl,λ_=>rfl,λ_=>rfl⟩
@[go_sem,simp] theorem ES (l:List _):Eng.rowsOf 6 (l.map ZX):=fG.rowsOf l
@[go_sem,simp] theorem He (l:List _):((l.map ZX).all λrow=>row.all AV.leaf)=true:=fG.mK l
@[go_sem,simp] theorem gp (l:List _):((l.map ZX).all λrow=>row.all AV.bw)=true:=fG.fw l
@[go_sem,simp] theorem tV (id:Nat) (l:List _):((l.map ZX).all λrow=>row.all λx=>!(refs x).contains id)=true:=fG.lD id l
@[go_sem,simp] theorem Fw (e s:Nat) (l:List _):aN (.cells e s (l.map ZX))=[]:=fG.aN e s l
@[go_sem,simp] theorem Hd (id s:Nat) (rows:List (List AV)) (l:List _):(l.map ZX).map (dX id s rows)=l.map ZX:=Fam.dX (λ_ _ _ _=>rfl) id s rows l
@[go_sem,simp] theorem Fx (a):aL (ZX a)=[]:=fG.free a
theorem iB:Fam aj 4:=⟨λ_=>rfl,λ_=>rfl,λ_=>rfl,λ_=>rfl⟩
@[go_sem,simp] theorem tP (l:List _):((l.map aj).all λrow=>row.all AV.bw)=true:=iB.fw l
@[go_sem,simp] theorem Ex (id:Nat) (l:List _):((l.map aj).all λrow=>row.all λx=>!(refs x).contains id)=true:=iB.lD id l
@[go_sem,simp] theorem Ey (e s:Nat) (l:List _):aN (.cells e s (l.map aj))=[]:=iB.aN e s l
@[go_sem,simp] theorem Fv (id s:Nat) (rows:List (List AV)) (l:List _):(l.map aj).map (dX id s rows)=l.map aj:=Fam.dX (λ_ _ _ _=>rfl) id s rows l
@[go_sem,simp] theorem Ez (a):aL (aj a)=[]:=iB.free a
end La
namespace La
open Go Go.Eng Go.Proofs
end La
