/- Texts of this claim, part 20: PWor3, ModC, RU, Cut, RSplit, RGo, RHoard, RDo. No condition. -/
import Derived.Test.YtdcmhdkpfllnlaaGreatDoorYC19
import Derived.Test.YtdcmhdkpfllnlaaGreatDoorYC11
set_option maxRecDepth 10000
set_option maxHeartbeats 4000000
set_option linter.unusedSimpArgs false
set_option linter.unusedVariables false
namespace La
open Go Go.Eng
theorem GS (u:U) (k:Kept):(gz u k).s=u.s:=by unfold gz;split<;>rfl
theorem sD (u:U) (f w:Int):(aU u f w).u.s=u.s:=by
 unfold aU;split
 ·rfl
 ·split
  ·rfl
  ·split
   ·rfl
   ·exact GS _ _
theorem IG (w:Int):∀(l:List (List UInt8)) (g:Got),(goR w l g).u.s=g.u.s
 | [],g=>by unfold goR;split<;>rfl
 | s::r,g=>by
  unfold goR;split
  ·rfl
  ·split
   ·rfl
   ·split
    ·rfl
    ·rw[IG w r,sD]
theorem BU (u:U) (l:List (List UInt8)) (w:Int):(goU u l w).u.s=u.s:=by unfold goU;rw[IG,sD]
theorem il (u:U) (path:List UInt8):(ag u path).u.s=u.s:=by
 unfold ag;split
 ·rfl
 ·split
  ·rfl
  ·exact BU _ _ _
theorem xo (u:U) (path:List UInt8):(atU u path).u.s=u.s:=by
 unfold atU;split
 ·exact il _ _
 ·split
  ·exact il _ _
  ·show (aU _ _ _).u.s=_;rw[sD,il]
theorem zF:∀(l:List Hoard) (g:GotV),(l.foldl fp g).u.s=g.u.s
 | [],_=>rfl
 | x::l,g=>by rw[List.foldl_cons,zF l];exact BU _ _ _
theorem GM (u:U) (f w:Int):(aU u f w).u.c.number=u.c.number/\(aU u f w).u.c.room=u.c.room/\(aU u f w).u.c.away=u.c.away/\(aU u f w).u.c.log=u.c.log/\(aU u f w).u.c.repair=u.c.repair/\(aU u f w).u.c.hoards=u.c.hoards/\(aU u f w).u.c.made=u.c.made/\(aU u f w).u.c.logged=u.c.logged:=by
 unfold aU;split
 ·exact ⟨rfl,rfl,rfl,rfl,rfl,rfl,rfl,rfl⟩
 ·split
  ·exact ⟨rfl,rfl,rfl,rfl,rfl,rfl,rfl,rfl⟩
  ·split
   ·exact ⟨rfl,rfl,rfl,rfl,rfl,rfl,rfl,rfl⟩
   ·show (gz _ _).c.number=_/\_
    unfold gz;split<;>exact ⟨rfl,rfl,rfl,rfl,rfl,rfl,rfl,rfl⟩
structure Idle (u u':U):Prop where
 s:u'.s=u.s
 number:u'.c.number=u.c.number
 room:u'.c.room=u.c.room
 away:u'.c.away=u.c.away
 log:u'.c.log=u.c.log
 rep:u'.c.repair=u.c.repair
 hoards:u'.c.hoards=u.c.hoards
 made:u'.c.made=u.c.made
 logged:u'.c.logged=u.c.logged
theorem Idle.refl (u:U):Idle u u:=⟨rfl,rfl,rfl,rfl,rfl,rfl,rfl,rfl,rfl⟩
theorem Idle.trans {a b c:U} (h:Idle a b) (k:Idle b c):Idle a c:=⟨k.s.trans h.s,k.number.trans h.number,k.room.trans h.room,k.away.trans h.away,k.log.trans h.log,k.rep.trans h.rep,k.hoards.trans h.hoards,k.made.trans h.made,k.logged.trans h.logged⟩
theorem dJ (u:U) (f w:Int):Idle u (aU u f w).u:=by
 obtain ⟨h1,h2,h3,h4,h5,h6,h7,h8⟩:=GM u f w;exact ⟨sD u f w,h1,h2,h3,h4,h5,h6,h7,h8⟩
theorem xZ (w:Int):∀(l:List (List UInt8)) (g:Got),Idle g.u (goR w l g).u
 | [],g=>by unfold goR;split<;>exact Idle.refl _
 | s::r,g=>by
  unfold goR;split
  ·exact Idle.refl _
  ·split
   ·exact Idle.refl _
   ·split
    ·exact Idle.refl _
    ·exact (dJ _ _ _).trans (xZ w r _)
theorem kh (u:U) (l:List (List UInt8)) (w:Int):Idle u (goU u l w).u:=(dJ u 0 w).trans (xZ w l _)
theorem fM (u:U) (path:List UInt8):Idle u (ag u path).u:=by
 unfold ag;split
 ·exact Idle.refl _
 ·split
  ·exact Idle.refl _
  ·exact kh _ _ _
theorem xn (u:U) (path:List UInt8):Idle u (atU u path).u:=by
 unfold atU;split
 ·exact fM _ _
 ·split
  ·exact fM _ _
  ·exact (fM _ _).trans (dJ _ _ _)
theorem IK (u:U) (a:Act) (seen:Int):(lO u a seen).u.s=u.s:=by
 unfold lO;split
 ·rfl
 ·split
  ·rfl
  ·split<;>rfl
theorem jV {B T:Nat} {u:U} (h:iF B T u) {a:Act} (hs:ActS a) (seen:Int):Grown u.s (bQ u a seen).u.s:=by
 unfold bQ;split
 ·rw[IK];exact Grown.refl h.srv.hist
 ·unfold fk;split
  ·rename_i he;exact x' h.srv.hist u.c.number hs.fit he
  ·exact Grown.refl h.srv.hist
theorem grown_of {u u' v:U} (hi:u'.s=u.s) (h:Grown u'.s v.s):Grown u.s v.s:=by rw[hi] at h;exact h
theorem vb {B T:Nat} {g:Got} (h:iF B T g.u) {data:List UInt8} (hd:data.length≤20):Grown g.u.s (fH g data).u.s:=by
 unfold fH;split
 ·exact Grown.refl h.srv.hist
 ·exact jV h ⟨by simp[aw],by simp[aw],hd⟩ _
theorem eY {B T:Nat} {u v:U} (h:iF B T u) (hs:v.s=u.s):Grown u.s v.s:=by rw[hs];exact Grown.refl h.srv.hist
theorem zR {B T:Nat} {u:U} (h:iF B T u) (path data:List UInt8):Grown u.s (a_ u path data).u.s:=by
 have hd:=ch h path;have hn:=bF u path;unfold a_;split
 ·exact eY h (il u path)
 ·split
  ·exact eY h (il u path)
  ·split
   ·rename_i f _;exact grown_of (u':=(aU (ag u path).u f 0).u) (by rw[sD,il]) (vb (bA hd f 0) z8)
   ·have ha:ActS (bK (ag u path).n.fid (ag u path).name):=⟨hn,by simp[bK],by simp[bK]⟩;have hg:=jV hd ha (-1);have hm:=iG hd ha (-1);split
    ·exact grown_of (il u path) hg
    ·exact grown_of (il u path) (hg.trans (grown_of (u':=(goU _ _ _).u) (BU _ _ _) (vb (iJ hm (ae path).1 0) z8)))
theorem Bg {B T:Nat} {u:U} (h:iF B T u) (x:Step):Grown u.s (ai u x).u.s:=by
 unfold ai;split
 ·split
  ·exact Grown.refl h.srv.hist
  ·exact eY h (BU _ _ _)
 ·split
  ·exact zR h _ _
  ·split
   ·unfold eU;split
    ·exact eY h (il _ _)
    ·exact grown_of (il u x.path) (jV (ch h x.path) ⟨bF u x.path,by simp[iD],by simp[iD]⟩ (-1))
   ·split
    ·unfold bt;obtain ⟨hd,hn⟩:=rv h x.path;split
     ·exact eY h (xo _ _)
     ·exact grown_of (xo u x.path) (jV hd ⟨hn,by simp[da],by simp[da]⟩ _)
    ·split
     ·unfold cR;obtain ⟨hd,hn⟩:=rv h x.path;split
      ·exact eY h (xo _ _)
      ·split
       ·exact eY h (by rw[il,xo])
       ·exact grown_of (u':=(ag (atU u x.path).u x.toPath).u) (by rw[il,xo]) (jV (ch hd x.toPath) ⟨hn,bF _ _,by simp[eK]⟩ _)
     ·split
      ·exact Grown.refl h.srv.hist
      ·split
       ·exact sJ h.srv.hist u.c.number λr hr=>(h.cli.logS r hr).fit
       ·split
        ·unfold cY;split
         ·exact Grown.refl h.srv.hist
         ·split
          ·exact Grown.refl h.srv.hist
          ·split<;>exact Grown.refl h.srv.hist
        ·split
         ·split
          ·exact Grown.refl h.srv.hist
          ·exact eY h (zF _ _)
         ·exact Grown.refl h.srv.hist
structure WInv (B T:Nat) (w:Wor):Prop where
 srv:SrvOK B w.s
 cli:∀c,c∈w.cs->J3 B T w.s c
 len:w.cs.length≤3
theorem WInv.at {B T:Nat} {w:Wor} (h:WInv B T w) {i:Nat} (hi:i<w.cs.length):iF B T ⟨w.cs.getD i default,w.s⟩:=⟨h.srv,h.cli _ (YG hi)⟩
theorem DI {B T:Nat} {w:Wor} (h:WInv B T w) (x:Step):WInv (B+20) (T+300) (gT w x).w:=by
 unfold gT;split
 ·exact ⟨h.srv.mono z8,λc hc=>(h.cli c hc).mono z8 z8,h.len⟩
 ·rename_i hx;have hi:x.client.toNat<w.cs.length:=by omega
  have hu:=h.at hi;have h1:=ie hu x;have h2:=Bg hu x;refine ⟨h1.srv,λc hc=>?_,by simp;exact h.len⟩;obtain ⟨d,hd,rfl⟩:=W5.1 hc
  rcases Yr hd with hd | rfl
  ·exact ((h.cli d hd).mono (W7 B) (show T≤T+300 by omega)).grow z8 h.srv.hist h2
  ·exact h1.cli.grow (W7 _) h1.srv.hist (Grown.refl h1.srv.hist)
theorem G8 {rooms:List Int} (h:b_ rooms=0):WInv 0 0 (ET rooms):=by
 unfold b_ at h;split at h
 ·cases h
 ·split at h
  ·rename_i hr hall;refine ⟨SrvOK.new,λc hc=>?_,by simp[ET,nC];omega⟩;obtain ⟨j,hj,rfl⟩:=W5.1 hc;have hj:j<rooms.length:=YW.1 hj;have:=List.all_eq_true.1 hall (rooms.getD j 0) (by rw[Wv,Ww hj];exact Yb hj);simp only[Bool.and_eq_true,decide_eq_true_eq] at this;exact CInvF.new 0 0 _ j _ this
  ·cases h
theorem rZ:∀(l:List Step) {B T:Nat} {w:Wor},WInv B T w->WInv (B+20*l.length) (T+300*l.length) (l.foldl (λw x=>(gT w x).w) w)
 | [],_,_,_,h=>h
 | x::l,B,T,w,h=>by
  have:=rZ l (DI h x);rw[show B+20+20*l.length=B+20*(x::l).length by simp;omega,show T+300+300*l.length=T+300*(x::l).length by simp;omega] at this;exact this
theorem uv {rooms:List Int} (h:b_ rooms=0) (l:List Step):WInv (20*l.length) (300*l.length) (vH rooms l):=by
 have:=rZ l (G8 h)
 rwa [YP,YP] at this
def ZJ (h:Hoard):List AV:=[.str h.path,.int .i64 h.worth]
def ZC (c:Cli):List AV:=[.int .i64 c.number,.bool c.away,.int .i64 c.room,.sl (c.cache.map ZK),.sl (c.log.map ZR),.sl (c.repair.map ZR),.sl (c.hoards.map ZJ),.int .i64 c.clock,.int .i64 c.made,.int .i64 c.logged]
def ZX (x:Step):List AV:=[.int .i64 x.kind,.int .i64 x.client,.int .i64 x.n,.str x.path,.str x.toPath,.sl (x.data.map ZY)]
def aT (r:Reply):List AV:=[.int .i64 r.err,.int .i64 r.n,.int .i64 r.m,.sl (r.data.map ZY)]
def bq (u:U):List AV:=[.int .i64 u.c.number,.bool u.c.away,.int .i64 u.c.room,.sl (u.c.cache.map ZK),.sl (u.c.log.map ZR),.sl (u.c.repair.map ZR),.sl (u.c.hoards.map ZJ),.int .i64 u.c.clock,.int .i64 u.c.made,.int .i64 u.c.logged,.sl (u.s.tree.map ZN),.int .i64 u.s.next,.sl (u.s.past.map ZP)]
def ee (w:Wor):List AV:=[.sl (w.s.tree.map ZN),.int .i64 w.s.next,.sl (w.s.past.map ZP),.sl (w.cs.map ZC)]
theorem fe:Fam ZJ 2:=⟨λ_=>rfl,λ_=>rfl,λ_=>rfl,λ_=>rfl⟩
@[go_sem,simp] theorem DL (l:List _):Eng.rowsOf 2 (l.map ZJ):=fe.rowsOf l
@[go_sem,simp] theorem FL (l:List _):((l.map ZJ).all λrow=>row.all AV.leaf)=true:=fe.jv l
@[go_sem,simp] theorem ew (l:List _):((l.map ZJ).all λrow=>row.all AV.bc)=true:=fe.fB l
@[go_sem,simp] theorem Eu (id:Nat) (l:List _):((l.map ZJ).all λrow=>row.all λx=>!(refs x).contains id)=true:=fe.lJ id l
@[go_sem,simp] theorem Ev (e s:Nat) (l:List _):aG (.cells e s (l.map ZJ))=[]:=fe.aG e s l
@[go_sem,simp] theorem FM (off:Nat) (l:List _):(l.map ZJ).map (ib off)=l.map ZJ:=Fam.ib (λ_ _=>rfl) off l
@[go_sem,simp] theorem FK (id s:Nat) (rows:List (List AV)) (l:List _):(l.map ZJ).map (ef id s rows)=l.map ZJ:=Fam.ef (λ_ _ _ _=>rfl) id s rows l
@[go_sem,simp] theorem Ew (a):aE (ZJ a)=[]:=fe.free a
theorem nK:Fam ZC 10:=⟨λ_=>rfl,λ_=>rfl,λ_=>rfl,λ_=>rfl⟩
@[go_sem,simp] theorem qq (l:List _):((l.map ZC).all λrow=>row.all AV.bc)=true:=nK.fB l
@[go_sem,simp] theorem Gr (id:Nat) (l:List _):((l.map ZC).all λrow=>row.all λx=>!(refs x).contains id)=true:=nK.lJ id l
@[go_sem,simp] theorem Gs (e s:Nat) (l:List _):aG (.cells e s (l.map ZC))=[]:=nK.aG e s l
@[go_sem,simp] theorem IF (id s:Nat) (rows:List (List AV)) (l:List _):(l.map ZC).map (ef id s rows)=l.map ZC:=Fam.ef (λ_ _ _ _=>rfl) id s rows l
theorem vT:Fam aT 4:=⟨λ_=>rfl,λ_=>rfl,λ_=>rfl,λ_=>rfl⟩
@[go_sem,simp] theorem E_ (a):aE (aT a)=[]:=vT.free a
end La
namespace La
open Go Go.Eng Go.Proofs
variable {Fa:Prop}
def uH (u:U) (G Y N:Nat->Nat):List (Nat×Blk):=[(900,.cells 97 13 [bq u])]++pins [900] G Y N
theorem CS {l:List Kept} (hn:(l.map λk=>k.node.fid).Nodup) {fid:Int} {i:Nat} (hi:i<l.length) (hf:(l.getD i default).node.fid=fid):aF (l.take (i+1)) fid=some (l.getD i default).node/\aF (l.take i) fid=none:=by
 have h0:aF (l.take i) fid=none:=by
  unfold aF;rw[Option.map_eq_none_iff,List.find?_eq_none];intro x hx;obtain ⟨j,hj⟩:=W8 hx;have hjl:=(W3.1 hj).1;rw[YF] at hjl;rw[YL,if_pos z8] at hj;simp only[beq_iff_eq];intro e;have h2:l[i]? = some (l.getD i default):=by rw[Wv,Ww hi];rfl
  have:=yL hn hj h2 (e.trans hf.symm);omega
 refine ⟨?_,h0⟩;unfold aF at h0 ⊢;rw[ZT hi,List.find?_append];rw[Option.map_eq_none_iff] at h0;have hb:((l.getD i default).node.fid==fid)=true:=by rw[hf];exact beq_self_eq_true _
 rw[h0,Option.none_or,List.find?_cons];simp only[hb,Option.map_some]
theorem AJ {l:List Kept} {fid:Int} {i:Nat} (hi:i<l.length) (hf:(l.getD i default).node.fid≠fid):aF (l.take (i+1)) fid=aF (l.take i) fid:=by
 unfold aF;rw[ZT hi,List.find?_append,List.find?_cons];rw[show ((l.getD i default).node.fid==fid)=false by simpa using hf];simp
def kZ (l:List Kept) (f w c:Int) (i:Nat):List Kept:=(l.take i).map (fU f w c)
theorem yA {l:List Kept} (f w c:Int) {i:Nat} (h:i<l.length):kZ l f w c (i+1)=kZ l f w c i++[fU f w c (l.getD i default)]:=by unfold kZ;rw[ZT h,List.map_append];rfl
theorem Az {l:List Kept} (f w c:Int) {i:Nat} (h:i≤l.length):(kZ l f w c i).length=i:=by unfold kZ;rw[List.length_map,YF];omega
theorem Ay (l:List Kept) (f w c:Int):kZ l f w c l.length=l.map (fU f w c):=by unfold kZ;rw[W2]
@[go_sem,simp] theorem G9 (id s:Nat) (rows:List (List AV)) (n:Node):ef id s rows (ZN n)=ZN n:=rfl
@[go_sem,simp] theorem G' (off:Nat) (n:Node):ib off (ZN n)=ZN n:=rfl
@[go_sem,simp] theorem II (n:Node):(ZN n).length=5:=rfl
theorem fR {l:List AV} (h:aE l=[]) {x:AV} (hx:x∈l) (id:Nat):¬id∈refs x:=λhi=>by
 obtain ⟨j,hj⟩:=W8 hx;have:=bf hj hi;rw[h] at this;cases this
def im (g:Got):AV:=.tup [.agg (ZN g.n),.int .i64 g.e]
theorem pe {B T:Nat} (u:U) (h:UInvF Fa B T u) (hB:B≤40000000) (hT:T≤1000000000000) (fid worth:Int) (G Y N:Nat->Nat):af Tryz.prog 78 [.ptr 900 13 0 0,.int .i64 fid,.int .i64 worth] (uH u G Y N)
  (λr H=>r=im (aU u fid worth)/\Holds (uH (aU u fid worth).u G Y N) H):=by
 have hcl:=h.cli.clock;have hlen:u.c.cache.length≤24:=by have:=h.cli.len;have:=h.cli.room;omega
 have hnod:=h.cli.nod;have hup:=h.srv.hist.bH.up;have htl:u.s.tree.length≤24:=h.srv.hist.bH.len;have hw:IntKind.i64.wrap (u.c.clock+1)=u.c.clock+1:=Eng.wrap_small z8 z8;have hof:=te u.s.tree z8;have hgf:∀k,bl (mN (bI u.s.tree)) k=(ak u.s.tree k).map λn=>AV.agg (ZN n):=λk=>by rw[gi,cm hup]
 have hgu:aU u fid worth=match aF u.c.cache fid with
  | some n=>⟨n,0,ck u fid worth⟩
  | none=>if u.c.away=true then ⟨al,12,ck u fid worth⟩ else match ak u.s.tree fid with
   | none=>⟨al,6,ck u fid worth⟩
   | some n=>⟨n,0,gz (ck u fid worth) ⟨n,false,worth,u.c.clock+1⟩⟩:=rfl
 have hD0:kZ u.c.cache fid worth (u.c.clock+1) 0=[]:=rfl;have hDs:=λi=>@yA u.c.cache fid worth (u.c.clock+1) i
 have hDn:=λi=>@Az u.c.cache fid worth (u.c.clock+1) i
 have hDe:=Ay u.c.cache fid worth (u.c.clock+1);generalize kZ u.c.cache fid worth (u.c.clock+1)=D at *;unfold uH bq;refine ZF tK (Tryz.func78) rfl (λC=>?_);simp only[Tryz.ntmps78,Tryz.results78,go_sem];refine wG tK ?_ w5 k7;refine ah (le_empty 57 67 8 z7) ?_;simp only[go_sem];refine ah (ax 6) ?_;refine ah (ax 9) ?_;simp only[go_sem];refine ZL (λi:Nat=>i≤u.c.cache.length) (λi=>u.c.cache.length-i) (λi=>(8,.osl 57 8 0 i)::(10,.bool (aF (u.c.cache.take i) fid).isSome)::(12,.any)::(31,.int .i64 i)::u0 32 27 [])
  (λi=>[(9,.cells 62 5 [ZN ((aF (u.c.cache.take i) fid).getD al)]),(57,.cells 67 8 ((D i).map ZK))]) 0 z8 ?_ λi hi=>?_
 ·simp only[go_sem];rw[hD0];exact ZU (by simp[go_sem,aF]) (by simp[go_sem,aF,ZN,al]) Qe
 simp only[go_sem];refine wG tK ?_;refine wD (λh=>?_) (λh=>?_)
 ·have hlt:i<u.c.cache.length:=by simp at h;omega
  have hg:(u.c.cache.map ZK).getD i []=ZK (u.c.cache.getD i default):=Fam.getD hlt;have hw1:=wi1 (i:=i) z8;have hgt:=hDs i hlt;have hDl:=hDn i hi;have hit:=@CS u.c.cache hnod fid i hlt;have hms:=@AJ u.c.cache fid i hlt;generalize D i=Di at *;generalize u.c.cache.getD i default=k at *;have htq:List.take i (Di.map ZK)=Di.map ZK:=Wy (by simp[hDl]);refine wGq tK ?_ ?_ u1
  ·simp[hg,ZK,hlt]
  refine wD (λh=>?_) (λh=>?_)
  ·have hf:k.node.fid=fid:=by simpa using h
   obtain ⟨hnk,hn0⟩:=hit hf;refine wG tK ?_;refine wD (λh=>?_) (λh=>?_)
   ·have hwo:k.worth<worth:=by simpa using h
    have hk:fU fid worth (u.c.clock+1) k={ k with last:=u.c.clock+1,worth:=worth }:=by unfold fU mn;rw[if_pos hf,if_pos hwo]
    refine wGq tK ?_ ?_ j9
    ·simp[htq,refs];refine ⟨by intro row h;simp at h;subst h;rfl,by omega,by omega,λx hx=>?_,λx hx y hy=>fR (jQ x) hy _⟩
     first | exact fR (jR _) hx _ | skip
    refine ZB ⟨i+1,by omega,by omega,ZU ?_ ?_ ?_⟩
    ·simp[go_sem,hgt,hnk]
    ·simp[go_sem,hgt,htq,hk,ZK,ZN,hnk]
    ·simp[go_sem]
   ·have hwo:¬worth>k.worth:=by simpa using h
    have hk:fU fid worth (u.c.clock+1) k={ k with last:=u.c.clock+1 }:=by unfold fU mn;rw[if_pos hf,if_neg hwo]
    refine wGq tK ?_ ?_ j9
    ·simp[htq,refs];refine ⟨by intro row h;simp at h;subst h;rfl,by omega,by omega,λx hx=>?_,λx hx y hy=>fR (jQ x) hy _⟩
     first | exact fR (jR _) hx _ | skip
    refine ZB ⟨i+1,by omega,by omega,ZU ?_ ?_ ?_⟩
    ·simp[go_sem,hgt,hnk]
    ·simp[go_sem,hgt,htq,hk,ZK,ZN,hnk]
    ·simp[go_sem]
  ·have hf:k.node.fid≠fid:=by simpa using h
   have hnk:=hms hf;have hk:fU fid worth (u.c.clock+1) k=k:=by unfold fU;rw[if_neg hf]
   refine wGq tK ?_ ?_ j9
   ·simp[htq,refs];refine ⟨by intro row h;simp at h;subst h;rfl,by omega,by omega,λx hx=>?_,λx hx y hy=>fR (jQ x) hy _⟩
    first | exact fR (jR _) hx _ | skip
   refine ZB ⟨i+1,by omega,by omega,ZU ?_ ?_ ?_⟩
   ·simp[go_sem,hgt,hnk]
   ·simp[go_sem,hgt,htq,hk,ZK,ZN,hnk]
   ·simp[go_sem]
 ·have e:i=u.c.cache.length:=by simp at h;omega
  subst e;rw[W2,hDe];refine wR ?_;have htk:List.take u.c.cache.length ((u.c.cache.map (fU fid worth (u.c.clock+1))).map ZK)=(u.c.cache.map (fU fid worth (u.c.clock+1))).map ZK:=Wy y8;refine ZZ 57 rfl (bh _) ?_;simp only[go_sem,htk];refine wG tK ?_;clear hgu;cases hnk:aF u.c.cache fid with
  | some n=>
   have hG:aU u fid worth=⟨n,0,ck u fid worth⟩:=by unfold aU;rw[hnk]
   rw[hG];refine wDT (hb:=(rfl)) (hk:=?_);refine wG tK ?_ w6 Qe;refine wU ?_ ?_
   ·rfl
   ·exact q9
  | none=>
   refine wDF (hb:=(rfl)) (hk:=?_);refine wG tK ?_;cases ha:u.c.away with
   | true=>
    have hG:aU u fid worth=⟨al,12,ck u fid worth⟩:=by unfold aU;rw[hnk];simp[ha]
    rw[hG];refine wDT (hb:=(rfl)) (hk:=?_);refine wG tK ?_ QY (by simp[go_sem,ZN,al]);refine wU ?_ ?_
    ·rfl
    ·skip
     simp only[pins,List.cons_append,List.nil_append,List.map_cons,List.map_nil]
     repeat' refine ZH ?_ ?_
     all_goals first | exact YH _ | rfl | simp[go_sem,ck,ha]
   | false=>
    refine wDF (hb:=(rfl)) (hk:=?_);refine wG tK ?_;refine wC Tryz.func18 (hf:=(hof)) (hk:=?_);have hg1:=hgf fid;cases hff:ak u.s.tree fid with
    | none=>
     rw[hff] at hg1;simp only[Option.map_none] at hg1;have hG:aU u fid worth=⟨al,6,ck u fid worth⟩:=by unfold aU;rw[hnk];simp[ha,hff]
     rw[hG];refine wG tK ?_ QB Qv;refine wDT (hb:=(rfl)) (hk:=?_);refine wG tK ?_;refine ah (ax 6) ?_;simp only[go_sem];refine wU ?_ ?_
     ·rfl
     ·skip
      simp only[pins,List.cons_append,List.nil_append,List.map_cons,List.map_nil]
      repeat' refine ZH ?_ ?_
      all_goals first | exact YH _ | rfl | simp[go_sem,ck,ha]
    | some n=>
     rw[hff] at hg1;simp only[Option.map_some] at hg1;refine wG tK ?_ u6 QF;refine wDF (hb:=(rfl)) (hk:=?_);refine wG tK ?_;have hcz:(u.c.cache.map (fU fid worth (u.c.clock+1))).length≤90000000:=by rw[List.length_map];omega
     have hG:aU u fid worth=⟨n,0,gz (ck u fid worth) ⟨n,false,worth,u.c.clock+1⟩⟩:=by unfold aU;rw[hnk];simp[ha,hff]
     rw[hG];refine ZW ZM ?_;refine ZS rfl ?_;refine sN tK 17 ?_;refine sB tK ?_;cases hkp:cD (u.c.cache.map (fU fid worth (u.c.clock+1))) u.c.room ⟨n,false,worth,u.c.clock+1⟩ with
     | none=>
      have hk:=mD hcz hkp;have hKU:gz (ck u fid worth) ⟨n,false,worth,u.c.clock+1⟩=ck u fid worth:=by unfold gz ck;simp only[hkp]
      rw[hKU];refine sC Tryz.func85 (hf:=(hk)) (hk:=?_);refine sG tK ?_;refine sE ?_;refine wKd ?_
      try simp only[go_sem,gA,gB,gC]
      refine wG tK ?_;refine wDF (hb:=(rfl)) (hk:=?_);refine wG tK ?_;refine wU ?_ ?_
      ·rfl
      ·skip
       simp only[pins,List.cons_append,List.nil_append,List.map_cons,List.map_nil]
       repeat' refine ZH ?_ ?_
       all_goals first | exact YH _ | rfl | simp[go_sem,ck,ha]
     | some L=>
      have hk:=kD hcz hkp;have hKU:gz (ck u fid worth) ⟨n,false,worth,u.c.clock+1⟩=⟨{ (ck u fid worth).c with cache:=L },u.s⟩:=by unfold gz ck;simp only[hkp]
      rw[hKU];refine sC Tryz.func85 (hf:=(hk)) (hk:=?_);refine sG tK ?_;refine sE ?_;refine wKd ?_
      try simp only[go_sem,gA,gB,gC]
      refine wG tK ?_;refine wDT (hb:=(rfl)) (hk:=?_);refine wG tK ?_;refine wU ?_ ?_
      ·rfl
      ·skip
       simp only[pins,List.cons_append,List.nil_append,List.map_cons,List.map_nil]
       repeat' refine ZH ?_ ?_
       all_goals first | exact YH _ | rfl | simp[go_sem,ck,ha]
def Gf (c:UInt8) (s:List UInt8) (i:Nat) (done:List (List UInt8)) (cur:List UInt8):Prop:=
 i≤s.length/\vM c done cur (s.drop i)=dd c s/\done.length≤i/\cur.length≤i
theorem I7 (s:List UInt8) (c:UInt8) (hs:s.length≤100000000):af Tryz.prog 48 [.str s,.int .u8 (c.toNat:Int)] [] (λr _=>r=.sl ((dd c s).map aV)):=by
 refine ZF tK (Tryz.func48) rfl (λC=>?_);simp only[Tryz.ntmps48,Tryz.results48,go_sem];refine wG tK ?_;refine ah (dw 7 20) ?_;refine ZL (λx:Nat×List (List UInt8)×List UInt8=>Gf c s x.1 x.2.1 x.2.2) (λx=>s.length-x.1) (λx=>(5,.osl 20 1 0 (x.2.1.length+1))::(6,.any)::(7,.any)::(10,.int .i64 x.1)::u0 11 28 []) (λx=>[(20,.cells 9 1 (x.2.1.map aV++[[.str x.2.2]]))]) (0,[],[]) ⟨by omega,by rw[List.drop_zero,D8],by simp,by simp⟩ ?_ λx hx=>?_
 ·simp only[go_sem];exact ZU w3 w3 w3
 obtain ⟨i,done,cur⟩:=x;obtain ⟨hi,hc,hd,hcl⟩:=hx;simp only at hi hc hd hcl;simp only[go_sem];refine wG tK ?_;refine wD (λh=>?_) (λh=>?_)
 ·have hlt:i<s.length:=by simp at h;omega
  have hw:=wi1 (i:=i) z8;have hdr:s.drop i=s.getD i 0::s.drop (i+1):=by
   rw[Wv,Ww hlt];simp
  have hdt:(s.take (i+1)).drop i=[s.getD i 0]:=by
   rw[ZT hlt,List.drop_left' QR];rfl
  rw[hdr,vM] at hc;refine wGq tK ?_ ?_
  ·simp;omega
  generalize s.getD i 0=x at hc hdt;refine wD (λh=>?_) (λh=>?_)
  ·have hx:x=c:=UInt8.toNat_inj.1 (by have:((x.toNat:Nat):Int)=c.toNat:=p5;omega);rw[if_pos hx] at hc;have htk:List.take (done.length+1) (done.map aV++[[AV.str cur]])=done.map aV++[[AV.str cur]]:=Wy y8;refine wGq tK ?_ ?_ w5
   ·simp[htk,refs];exact ⟨by intro row h;simp at h;subst h;rfl,by omega,λx _ y hy=>by simp[aV] at hy;subst hy;simp[refs]⟩
   refine ZB ⟨(i+1,done++[cur],[]),⟨by omega,hc,by simp;omega,by simp⟩,by simp only;omega,ZU ?_ ?_ ?_⟩
   ·simp[go_sem]
   ·simp[go_sem,htk,aV]
   ·simp[go_sem]
  ·have hx:¬x=c:=λe=>by subst e;simp at h
   rw[if_neg hx] at hc;have hgr:(done.map aV++[[AV.str cur]]).getD done.length []=[AV.str cur]:=by simp[Wv]
   have hsub:IntKind.i64.wrap (((done.length+1:Nat):Int)-1)=(done.length:Int):=by rw[Eng.wrap_small z8 z8];omega
   refine ZW ZM ?_;refine ZS rfl ?_;refine sNq tK 17 ?_ ?_ z6 z6 (by simp only[go_sem,hgr,hsub,hw];try exact rfl)
   ·simp[hgr,hsub,hw];omega
   refine sT tK ?_;refine sE ?_;refine wKd ?_;simp only[go_sem,hdt];refine wG tK ?_ w5 k7;refine ZB ⟨(i+1,done,cur++[x]),⟨by omega,hc,by simp only;omega,by simp;omega⟩,by simp only;omega,ZU ?_ ?_ ?_⟩
   ·simp[go_sem]
   ·simp[go_sem]
   ·simp[go_sem]
 ·have e:i=s.length:=by simp at h;omega
  subst e;rw[List.drop_length,vM] at hc;have hrows:done.map aV++[[AV.str cur]]=(dd c s).map aV:=by rw[←hc];simp[aV]
  have hlen:done.length+1=(dd c s).length:=by rw[←hc];simp
  rw[hrows,hlen];refine wG tK ?_;refine ZZ 20 rfl (zx _) ?_;refine wT ?_;simp
theorem AY (s:List UInt8) (hs:s.length≤10000000):af Tryz.prog 17 [.str s] [] (λr _=>Eng.nrm r=cw (ae s)):=by
 refine ZF tK (Tryz.func17) rfl (λC=>?_);simp only[Tryz.ntmps17,Tryz.results17,go_sem];refine wR ?_;refine wN tK 2 ?_;refine wG tK ?_;refine wD (λh=>?_) (λh=>?_)
 ·have h1:40<s.length:=by simp at h;omega
  refine wG tK ?_;refine wT ?_;simp[ae,h1,cw,Eng.nrm,Eng.dz]
 have h1:¬40<s.length:=by simp at h;omega
 refine wG tK ?_;refine wD (λh=>?_) (λh=>?_)
 ·have h2:s=[47]:=by simpa using h
  refine wG tK ?_;refine wT ?_;simp[ae,h1,h2,cw,Eng.nrm,Eng.dz]
 have h2:s≠[47]:=by simpa using h
 refine wR ?_;refine wN tK 3 ?_;cases s with
 | nil=>
  refine wG tK ?_;refine wD (λh=>?_) (λh=>?_)
  ·refine wG tK ?_;refine wT ?_;simp[ae,cw,Eng.nrm,Eng.dz]
  ·cases h
 | cons x r=>
  refine wG tK ?_;refine wD (λh=>?_) (λh=>?_)
  ·have h3:¬x=47:=λe=>by subst e;simp at h
   have h1':¬40<r.length+1:=h1;refine wG tK ?_;refine wT ?_;simp[ae,h1',h3,cw,Eng.nrm,Eng.dz]
  have h3:x=47:=UInt8.toNat_inj.1 (by have:((x.toNat:Nat):Int)=47:=p5;show x.toNat=47;omega);subst h3;refine wR ?_;refine wN tK 1 ?_;refine wC Tryz.func48 (hf:=(I7 (47::r) 47 z8)) (hk:=?_);have hcut:dd 47 (47::r)=[]::dd 47 r:=by simp[dd]
  have hR:ae (47::r)=if (dd 47 r).all cE then (dd 47 r,0) else ([],7):=by
   simp only[ae,if_neg h1,if_neg h2,List.head?_cons,ne_eq,not_true_eq_false,if_false,List.drop_succ_cons,List.drop_zero]
  have hcl:=rA 47 r;have hcp:=mR 47 r;rw[hR,hcut];generalize dd 47 r=L at hcl hcp;simp only[List.length_cons] at hs;refine wGq tK ?_ ?_
  ·simp[aV]
  refine ZL (λi:Nat=>i≤L.length/\(L.take i).all cE=true) (λi=>L.length-i) (λi=>(6,.any)::(24,.int .i64 i)::u0 25 7 []) (λ_=>[]) 0 ⟨by omega,by simp⟩ ?_ λi hi=>?_
  ·simp only[go_sem];exact ZU w3 w3 w3
  obtain ⟨hi,hs2⟩:=hi;simp only[go_sem];refine wG tK ?_;refine wD (λh=>?_) (λh=>?_)
  ·have hlt:i<L.length:=by simp at h;omega
   have hw:=wi1 (i:=i) z8;have hg:(L.map aV).getD i []=aV (L.getD i default):=Fam.getD hlt;have htk:=ZT hlt;have hmem:L.getD i default∈L:=by rw[Wv,Ww hlt];exact Yb hlt
   have hxl:=hcp _ hmem;have hno:cE (L.getD i default)=false->L.all cE=false:=λh0=>by
    cases e:L.all cE with
    | false=>rfl
    | true=>rw[List.all_eq_true.1 e _ hmem] at h0;cases h0
   generalize L.getD i default=x at hg htk hxl hno hmem;refine wGq tK ?_ ?_ Zm
   ·simp[hg,aV,hlt]
   refine wC Tryz.func49 (hf:=(zb x z8)) (hk:=?_);refine wG tK ?_;refine wD (λh=>?_) (λh=>?_)
   ·have h0:cE x=false:=by simpa using h
    refine wG tK ?_;refine wT ?_;simp[hno h0,cw,Eng.nrm,Eng.dz]
   ·have h0:cE x=true:=by simpa using h
    refine wG tK ?_ w5 k7;refine ZB ⟨i+1,⟨by omega,by rw[htk,List.all_append,hs2];simp[h0]⟩,by omega,ZU ?_ ?_ ?_⟩
    ·simp[go_sem]
    ·simp[go_sem]
    ·simp[go_sem]
  ·have e:i=L.length:=by simp at h;omega
   subst e;rw[W2] at hs2;refine wG tK ?_;refine wT ?_;simp[hs2,cw,Eng.nrm,Eng.dz,yP]
theorem gN (s:List UInt8) (hs:s.length≤10000000):af Tryz.prog 17 [.str s] [] (λr _=>r=cw (ae s)):=vX (AY s hs)
variable {Fa:Prop}
@[go_sem,simp] theorem tL (u:U):aE (bq u)=[]:=rfl
@[go_sem,simp] theorem I0 (u:U):(bq u).length=13:=rfl
structure NodeOK (n:Node):Prop where
 eup:EUp n.entries
 ent:n.entries.length≤6
 data:n.data.length≤20
theorem NodeOK.small {n:Node} (h:NodeOK n):n.Small:=⟨by have:=h.data;omega,by have:=h.ent;omega⟩
theorem NodeOK.zero:NodeOK al:=⟨List.Pairwise.nil,by simp[al],by simp[al]⟩
theorem kx {l:List Kept} {f:Int} {n:Node} (h:aF l f=some n):∃k,k∈l/\k.node=n/\n.fid=f:=by
 unfold aF at h;obtain ⟨k,hk,rfl⟩:=YI.1 h;exact ⟨k,List.mem_of_find?_eq_some hk,rfl,by simpa using List.find?_some hk⟩
theorem iS {B T:Nat} {u:U} (h:UInvF Fa B T u) (f w:Int):NodeOK (aU u f w).n:=by
 unfold aU;split
 ·rename_i n hn;obtain ⟨k,hk,rfl,_⟩:=kx hn;exact ⟨h.cli.eup k hk,h.cli.ent k hk,h.cli.data k hk⟩
 ·split
  ·exact .zero
  ·split
   ·exact .zero
   ·rename_i n hn;have hm:=((ZO h.srv.hist.bH.up).1 hn).1;exact ⟨(h.srv.hist.whole.loc n hm).eup,h.srv.hist.bH.ent n hm,h.srv.hist.bH.data n hm⟩
theorem x_ {B:Nat} (w:Int):∀(l:List (List UInt8)) (T:Nat) (g:Got),UInvF Fa B T g.u->NodeOK g.n->NodeOK (goR w l g).n
 | [],T,g,h,hn=>by
  unfold goR;split
  ·exact hn
  ·exact .zero
 | s::r,T,g,h,hn=>by
  unfold goR;split
  ·exact .zero
  ·split
   ·exact .zero
   ·split
    ·exact .zero
    ·rename_i f _;exact x_ w r (T+1) _ (bA h f w) (iS h f w)
theorem oF {B T:Nat} {u:U} (h:UInvF Fa B T u) (l:List (List UInt8)) (w:Int):NodeOK (goU u l w).n:=x_ w l (T+1) _ (bA h 0 w) (iS h 0 w)
theorem iP {B T:Nat} {u:U} (h:UInvF Fa B T u) (path:List UInt8):NodeOK (ag u path).n:=by
 unfold ag;split
 ·exact .zero
 ·split
  ·exact .zero
  ·exact oF h _ 0
theorem tq {B T:Nat} (u:U) (h:UInvF Fa B T u) (hB:B≤40000000) (hT:T≤900000000000) (l:List (List UInt8)) (hl:l.length≤1000) (hls:∀x,x∈l->x.length≤1000) (worth:Int) (G Y N:Nat->Nat):af Tryz.prog 35 [.ptr 900 13 0 0,.sl (l.map aV),.int .i64 worth] (uH u G Y N)
  (λr H=>r=im (goU u l worth)/\Holds (uH (goU u l worth).u G Y N) H):=by
 have hg0:=pe u h hB z8 0 worth;have hi0:=bA h 0 worth;have hn0:=iS h 0 worth;have hgo:goU u l worth=goR worth l (aU u 0 worth):=rfl;unfold uH im at hg0;unfold uH im;generalize aU u 0 worth=g0 at *;generalize goU u l worth=gF at *;refine ZF tK (Tryz.func35) rfl (λC=>?_);simp only[Tryz.ntmps35,Tryz.results35,go_sem];refine wG tK ?_;refine ah (ax 6) ?_;simp only[go_sem];refine wP [900] Tryz.func78 (hf:=(hg0)) (hk:=?_);refine wGq tK ?_ ?_ w6
 ·simp[ZN]
 refine ZL (λq:List (List UInt8)×Got=>gF=goR worth q.1 q.2/\q.1.length≤l.length/\(∀x,x∈q.1->x.length≤1000)/\UInvF Fa B (T+1+(l.length-q.1.length)) q.2.u/\NodeOK q.2.n) (λq=>q.1.length)
  (λq=>(1,.sl (q.1.map aV))::(9,.int .i64 q.2.e)::u0 10 39 [])
  (λq=>[(900,.cells 97 13 [bq q.2.u]),(8,.cells 62 5 [ZN q.2.n])]) (l,g0) ⟨hgo,W7 _,hls,by simpa using hi0,hn0⟩ ?_ λq hq=>?_
 ·simp only[go_sem];exact ZU w3 Qe Qe
 obtain ⟨r,g⟩:=q;obtain ⟨hgf,hrl,hrs,hui,hno⟩:=hq;simp only at hgf hrl hrs hui hno;simp only[go_sem];refine wR ?_;refine wN tK 7 ?_;refine aq 24 z6 (λc24 h24=>?_);simp only[go_sem];have hc:c24=(decide (0<r.length)&&(g.e==0)):=by
  rw[←h24];cases r<;>simp
 clear h24;refine wG tK ?_
 by_cases he:g.e=0
 ·cases r with
  | nil=>
   refine wDF (hb:=(by simp[hc])) (hk:=?_);refine wG tK ?_;rw[hgf,goR,if_pos he];refine wDF (hb:=QS) (hk:=?_);refine wGq tK ?_ ?_ w6
   ·simp[ZN]
   refine wU ?_ ?_
   ·simp[ZN]
   ·exact q9
  | cons s r=>
   have hsl:=hrs s List.mem_cons_self;have hent:=gM g.n s (by have:=hno.ent;omega);rw[du hno.eup] at hent;refine wDT (hb:=(by simp[hc,he])) (hk:=?_);refine wG tK ?_ w6 Qe;cases hd:g.n.dir with
   | false=>
    refine wDT (hb:=(rfl)) (hk:=?_);refine wG tK ?_;refine ah (ax 6) ?_;simp only[go_sem];refine wU ?_ ?_
    ·simp[hgf,goR,he,hd,ZN,al]
    ·have e:gF.u=g.u:=by simp[hgf,goR,he,hd]
     rw[e];simp only[pins,List.cons_append,List.nil_append,List.map_cons,List.map_nil]
     repeat' refine ZH ?_ ?_
     all_goals first | exact YH _ | rfl | simp[go_sem]
   | true=>
    refine wDF (hb:=(rfl)) (hk:=?_);refine wG tK ?_;refine ZW ZM ?_;refine ZS rfl ?_;refine sN tK 4 ?_ z6 z6 (by simp only[go_sem,aV];try exact rfl) (by simp[go_sem,aV]);unfold ZN at hent;rw[hd] at hent;cases hen:av g.n s with
    | none=>
     rw[hen] at hent;refine sC Tryz.func50 (hf:=(hent)) (hk:=?_);refine sG tK ?_;refine sE ?_;refine wKd ?_
     try simp only[go_sem,gA,gB,gC]
     refine wG tK ?_;refine wDT (hb:=(rfl)) (hk:=?_);refine wG tK ?_;refine ah (ax 6) ?_;simp only[go_sem];refine wU ?_ ?_
     ·simp[hgf,goR,he,hd,hen,ZN,al]
     ·have e:gF.u=g.u:=by simp[hgf,goR,he,hd,hen]
      rw[e];simp only[pins,List.cons_append,List.nil_append,List.map_cons,List.map_nil]
      repeat' refine ZH ?_ ?_
      all_goals first | exact YH _ | rfl | simp[go_sem]
    | some f=>
     rw[hen] at hent;have hg1:=pe g.u hui hB z8 f worth;unfold uH im at hg1;have hui2:=bA hui f worth;have hno2:=iS hui f worth;have hgf2:gF=goR worth r (aU g.u f worth):=by rw[hgf,goR,if_neg QS,if_neg (by simp[hd]),hen]
     generalize aU g.u f worth=g2 at *;refine sC Tryz.func50 (hf:=(hent)) (hk:=?_);refine sG tK ?_;refine sE ?_;refine wKd ?_
     try simp only[go_sem,gA,gB,gC]
     refine wG tK ?_;refine wDF (hb:=(rfl)) (hk:=?_);refine wG tK ?_;refine wP [900] Tryz.func78 (hf:=(hg1)) (hk:=?_);refine wGq tK ?_ ?_ w6
     ·simp[ZN,aV]
     refine ZB ⟨(r,g2),⟨hgf2,by simp only[List.length_cons] at hrl;simp only;omega,λx hx=>hrs x (List.mem_cons_of_mem _ hx),?_,hno2⟩,by simp,ZU ?_ ?_ ?_⟩
     ·simp only[List.length_cons] at hrl hui2 ⊢;exact hui2.mono (W7 _) z8
     ·simp[go_sem]
     ·simp[go_sem,ZN]
     ·simp[go_sem,ZN]
 ·refine wDF (hb:=(by simp[hc,he])) (hk:=?_);refine wG tK ?_;refine wDT (hb:=QS) (hk:=?_);refine wG tK ?_;refine ah (ax 6) ?_;simp only[go_sem];refine wU ?_ ?_
  ·rw[hgf];cases r<;>simp[goR,he,ZN,al]
  ·rw[hgf];have e:(goR worth r g).u=g.u:=by cases r<;>simp[goR,he]
   rw[e];simp only[pins,List.cons_append,List.nil_append,List.map_cons,List.map_nil]
   repeat' refine ZH ?_ ?_
   all_goals first | exact YH _ | rfl | simp[go_sem]
theorem mz {B T:Nat} (u:U) (h:UInvF Fa B T u) (hB:B≤40000000) (hT:T≤900000000000) (path:List UInt8) (hp:path.length≤10000000) (G Y N:Nat->Nat):af Tryz.prog 37 [.ptr 900 13 0 0,.str path] (uH u G Y N)
  (λr H=>r=.tup [.agg (ZN (ag u path).n),.str (ag u path).name,.int .i64 (ag u path).e]/\Holds (uH (ag u path).u G Y N) H):=by
 have hsp:=gN path hp;have hsl:=bR path;have hdu:ag u path=if (ae path).2≠0 then ⟨al,[],(ae path).2,u⟩
  else if (ae path).1.length=0 then ⟨al,[],7,u⟩
  else ⟨(goU u ((ae path).1.take ((ae path).1.length-1)) 0).n,(ae path).1.getD ((ae path).1.length-1) [],
   if (goU u ((ae path).1.take ((ae path).1.length-1)) 0).e=0/\(goU u ((ae path).1.take ((ae path).1.length-1)) 0).n.dir=false then 8 else (goU u ((ae path).1.take ((ae path).1.length-1)) 0).e,
   (goU u ((ae path).1.take ((ae path).1.length-1)) 0).u⟩:=rfl
 generalize ag u path=dF at *;unfold cw at hsp;generalize ae path=S at *;obtain ⟨L,E⟩:=S;obtain ⟨hll,hlx⟩:=hsl;simp only at hdu hll hlx hsp;unfold uH;refine ZF tK (Tryz.func37) rfl (λC=>?_);simp only[Tryz.ntmps37,Tryz.results37,go_sem];refine wG tK ?_;refine ah (ax 4) ?_;simp only[go_sem];refine wC Tryz.func17 (hf:=(hsp)) (hk:=?_);refine wG tK ?_
 by_cases hE:E=0
 ·refine wDF (hb:=u2) (hk:=?_);refine wG tK ?_;rw[if_neg u2] at hdu
  by_cases hL:L.length=0
  ·rw[if_pos hL] at hdu;refine wDT (hb:=(by simp[hL])) (hk:=?_);refine wG tK ?_;refine ah (ax 4) ?_;simp only[go_sem];refine wU ?_ ?_
   ·rw[hdu];simp[ZN,al]
   ·rw[hdu];simp only[pins,List.cons_append,List.nil_append,List.map_cons,List.map_nil]
    repeat' refine ZH ?_ ?_
    all_goals first | exact YH _ | rfl | simp[go_sem]
  ·rw[if_neg hL] at hdu;have hw:IntKind.i64.wrap ((L.length:Int)-1)=((L.length-1:Nat):Int):=by rw[Eng.wrap_small z8 z8];omega
   have hgo:=tq u h hB hT (L.take (L.length-1)) QR (λx hx=>by have:=(hlx x (YB hx)).1;omega) 0;have hgl:(L.map aV).getD (L.length-1) []=[.str (L.getD (L.length-1) [])]:=by
    have hi:L.length-1<L.length:=by omega
    rw[Wv,Wz,Wv,Ww hi];rfl
   have hLlt:L.length-1<L.length:=by omega
   have htk:(L.map aV).take (L.length-1)=(L.take (L.length-1)).map aV:=Yt.symm;unfold uH im at hgo;generalize goU u (L.take (L.length-1)) 0=g at *;refine wDF (hb:=(by simp[hL])) (hk:=?_);refine wR ?_;refine wNq tK 6 ?_ ?_ z6 z6 (by simp only[go_sem,hw,htk];try exact rfl)
   ·simp[hw,htk];exact λ_ _=>rfl
   refine wP [900] Tryz.func35 (hf:=(hgo)) (hk:=?_);refine wGq tK ?_ ?_ w6
   ·simp[ZN]
   by_cases hge:g.e=0
   ·cases hd:g.n.dir with
    | true=>
     have hdF:dF=⟨g.n,L.getD (L.length-1) [],g.e,g.u⟩:=by rw[hdu];simp[hd]
     rw[hdF];refine wDF (hb:=Wt) (hk:=?_);refine wG tK ?_;refine ZW ZM ?_;refine ZS rfl ?_;refine sN tK 7 ?_ z6 z6 QG Qp;refine sN tK 1 ?_;refine sT tK ?_;refine sG tK ?_;refine sE ?_;refine wKd ?_
     try simp only[go_sem,gA,gB,gC]
     refine wG tK ?_;refine wU ?_ ?_
     ·first | (simp[ZN];done) | simp[ZN,hd]
     ·exact q9
    | false=>
     have hdF:dF=⟨g.n,L.getD (L.length-1) [],8,g.u⟩:=by rw[hdu];simp[hd,hge]
     rw[hdF];refine wDT (hb:=Wt) (hk:=?_);refine wG tK ?_;refine wG tK ?_;refine ZW ZM ?_;refine ZS rfl ?_;refine sN tK 7 ?_ z6 z6 QG Qp;refine sN tK 1 ?_;refine sT tK ?_;refine sG tK ?_;refine sE ?_;refine wKd ?_
     try simp only[go_sem,gA,gB,gC]
     refine wG tK ?_;refine wU ?_ ?_
     ·first | (simp[ZN];done) | simp[ZN,hd]
     ·exact q9
   ·have hdF:dF=⟨g.n,L.getD (L.length-1) [],g.e,g.u⟩:=by rw[hdu];simp[hge]
    rw[hdF];refine wDF (hb:=u7) (hk:=?_);refine wG tK ?_;refine ZW ZM ?_;refine ZS rfl ?_;refine sN tK 7 ?_ z6 z6 QG Qp;refine sN tK 1 ?_;refine sT tK ?_;refine sG tK ?_;refine sE ?_;refine wKd ?_
    try simp only[go_sem,gA,gB,gC]
    refine wG tK ?_;refine wU ?_ ?_
    ·first | (simp[ZN];done) | simp[ZN,hd]
    ·exact q9
 ·rw[if_pos u2] at hdu;refine wDT (hb:=u2) (hk:=?_);refine wG tK ?_;refine ah (ax 4) ?_;simp only[go_sem];refine wU ?_ ?_
  ·rw[hdu];simp[ZN,al]
  ·rw[hdu];simp only[pins,List.cons_append,List.nil_append,List.map_cons,List.map_nil]
   repeat' refine ZH ?_ ?_
   all_goals first | exact YH _ | rfl | simp[go_sem]
variable {Fa:Prop}
def gU (l:List Hoard) (path:List UInt8) (i:Nat):List Hoard:=cx (l.take i) path
theorem wa {l:List Hoard} (path:List UInt8) {i:Nat} (h:i<l.length):gU l path (i+1)=if ((l.getD i default).path==path)=true then gU l path i else gU l path i++[l.getD i default]:=by
 unfold gU cx;rw[ZT h,List.filter_append,List.filter_cons];cases ((l.getD i default).path==path)<;>simp
theorem Ak (l:List Hoard) (path:List UInt8) (i:Nat):(gU l path i).length≤i:=by
 have:=W6 (λh:Hoard=>!(h.path==path)) (l.take i);unfold gU cx;rw[YF] at this;omega
theorem AW {B T:Nat} (u:U) (h:UInvF Fa B T u) (path:List UInt8) (hp:path.length≤10000000) (w:Int) (G Y N:Nat->Nat):af Tryz.prog 41 [.ptr 900 13 0 0,.str path,.int .i64 w] (uH u G Y N)
  (λr H=>r=.int .i64 (cY u path w).e/\Holds (uH (cY u path w).u G Y N) H):=by
 have hsp:=gN path hp;have h6:=h.cli.hoards;have hW0:cY u path w=if (ae path).2≠0 then ⟨(ae path).2,u⟩ else if w<0\/w>100 then ⟨3,u⟩
  else if 0<w/\(cx u.c.hoards path).length≥6 then ⟨5,u⟩
  else ⟨0,⟨{ u.c with hoards:=if 0<w then cx u.c.hoards path++[⟨path,w⟩] else cx u.c.hoards path },u.s⟩⟩:=rfl
 have hD0:gU u.c.hoards path 0=[]:=rfl;have hDs:=λi=>@wa u.c.hoards path i
 have hDn:=Ak u.c.hoards path;have hDe:gU u.c.hoards path u.c.hoards.length=cx u.c.hoards path:=by unfold gU;rw[W2]
 generalize gU u.c.hoards path=D at *;generalize cY u path w=wF at *;unfold cw at hsp;generalize ae path=S at *;obtain ⟨L,E⟩:=S;simp only at hW0 hsp;unfold uH bq;refine ZF tK (Tryz.func41) rfl (λC=>?_);simp only[Tryz.ntmps41,Tryz.results41,go_sem];refine wG tK ?_;refine wC Tryz.func17 (hf:=(hsp)) (hk:=?_);refine wG tK ?_
 by_cases hE:E=0
 ·rw[if_neg u2] at hW0;refine wDF (hb:=u2) (hk:=?_);refine wR ?_;refine wN tK 6 ?_;refine aq 25 z6 (λc25 h25=>?_);simp only[go_sem];have hc:c25=true↔(w<0\/w>100):=by
   rw[←h25];cases e1:decide (w<0)<;>simp at e1<;>simp[e1]<;>omega
  clear h25;refine wG tK ?_
  by_cases hwr:w<0\/w>100
  ·rw[if_pos hwr] at hW0;have hW:=hW0;refine wDT (hb:=(hc.2 hwr)) (hk:=?_);refine wG tK ?_;refine wU ?_ ?_
   ·rw[hW]
   ·rw[hW];simp only[pins,List.cons_append,List.nil_append,List.map_cons,List.map_nil]
    repeat' refine ZH ?_ ?_
    all_goals first | exact YH _ | rfl | simp[go_sem]
  ·rw[if_neg hwr] at hW0;refine wDF (hb:=(by simpa using λh0=>hwr (hc.1 h0))) (hk:=?_);refine wG tK ?_;refine ah (le_empty 43 76 2 z7) ?_;simp only[go_sem];refine ZL (λi:Nat=>i≤u.c.hoards.length) (λi=>u.c.hoards.length-i) (λi=>(9,.osl 43 2 0 (D i).length)::(11,.any)::(32,.int .i64 i)::u0 33 12 []) (λi=>[(43,.cells 76 2 ((D i).map ZJ))]) 0 z8 ?_ λi hi=>?_
   ·simp only[go_sem];rw[hD0];exact ZU w3 w3 w3
   simp only[go_sem];refine wG tK ?_;refine wD (λh=>?_) (λh=>?_)
   ·have hlt:i<u.c.hoards.length:=by simp at h;omega
    have hg:(u.c.hoards.map ZJ).getD i []=ZJ (u.c.hoards.getD i default):=Fam.getD hlt;have hw1:=wi1 (i:=i) z8;have htk:=hDs i hlt;have hll:=hDn i;generalize D i=Di at *;generalize u.c.hoards.getD i default=x at *;have htq:List.take Di.length (Di.map ZJ)=Di.map ZJ:=Wy y8;refine wGq tK ?_ ?_ Qa
    ·simp[hg,ZJ,hlt]
    cases hb:(x.path==path) with
    | true=>
     rw[hb,if_pos rfl] at htk;refine wDF (hb:=y8) (hk:=?_);refine wG tK ?_ j9 QP;refine ZB ⟨i+1,by omega,by omega,ZU ?_ ?_ ?_⟩
     ·simp[go_sem,htk]
     ·simp[go_sem,htk]
     ·simp[go_sem]
    | false=>
     rw[hb,if_neg Bool.false_ne_true] at htk;refine wDT (hb:=y8) (hk:=?_);refine wGq tK ?_ ?_ j9
     ·simp[htq,refs];exact ⟨by intro row h;simp at h;subst h;rfl,by omega⟩
     refine ZB ⟨i+1,by omega,by omega,ZU ?_ ?_ ?_⟩
     ·simp[go_sem,htk]
     ·simp[go_sem,htk,htq,ZJ]
     ·simp[go_sem]
   ·have e:i=u.c.hoards.length:=by simp at h;omega
    subst e;have hDl:=hDn u.c.hoards.length;rw[hDe] at hDl ⊢;generalize cx u.c.hoards path=F at *;have htq:List.take F.length (F.map ZJ)=F.map ZJ:=Wy y8;refine wR ?_;refine wN tK 7 ?_;refine aq 51 z6 (λc51 h51=>?_);simp only[go_sem];have hc2:c51=true↔(0<w/\F.length≥6):=by
     rw[←h51];cases e1:decide (w>0)<;>simp at e1<;>simp[e1]<;>omega
    clear h51;refine wG tK ?_
    by_cases hfl:0<w/\F.length≥6
    ·rw[if_pos hfl] at hW0;have hW:=hW0;refine wDT (hb:=(hc2.2 hfl)) (hk:=?_);refine wG tK ?_;refine wU ?_ ?_
     ·rw[hW]
     ·rw[hW];simp only[pins,List.cons_append,List.nil_append,List.map_cons,List.map_nil]
      repeat' refine ZH ?_ ?_
      all_goals first | exact YH _ | rfl | simp[go_sem]
    ·rw[if_neg hfl] at hW0;refine wDF (hb:=(by simpa using λh0=>hfl (hc2.1 h0))) (hk:=?_);refine wG tK ?_
     by_cases hw0:0<w
     ·rw[if_pos hw0] at hW0;have hW:=hW0;refine wDT (hb:=Wl) (hk:=?_);refine wGq tK ?_ ?_
      ·simp[htq,refs];exact ⟨by intro row h;simp at h;subst h;rfl,by omega⟩
      refine ZZ 59 rfl (by rw[List.all_append,ew];rfl) ?_;simp only[go_sem];have htq2:List.take (F.length+1) (F.map ZJ++[[AV.str path,AV.int .i64 w]])=(F++[(⟨path,w⟩:Hoard)]).map ZJ:=by rw[Wy y8,List.map_append];rfl
      rw[htq2];refine wU ?_ ?_
      ·rw[hW]
      ·rw[hW];simp only[pins,List.cons_append,List.nil_append,List.map_cons,List.map_nil]
       repeat' refine ZH ?_ ?_
       all_goals first | exact YH _ | rfl | simp[go_sem]
     ·rw[if_neg hw0] at hW0;have hW:=hW0;refine wDF (hb:=Wl) (hk:=?_);refine wR ?_;refine ZZ 43 rfl (ew _) ?_;simp only[go_sem,htq];refine wG tK ?_;refine wU ?_ ?_
      ·rw[hW]
      ·rw[hW];simp only[pins,List.cons_append,List.nil_append,List.map_cons,List.map_nil]
       repeat' refine ZH ?_ ?_
       all_goals first | exact YH _ | rfl | simp[go_sem]
 ·rw[if_pos u2] at hW0;have hW:=hW0;refine wDT (hb:=u2) (hk:=?_);refine wG tK ?_;refine wU ?_ ?_
  ·rw[hW]
  ·rw[hW];simp only[pins,List.cons_append,List.nil_append,List.map_cons,List.map_nil]
   repeat' refine ZH ?_ ?_
   all_goals first | exact YH _ | rfl | simp[go_sem]
theorem zG {u:U} {g:GotV} (h:Idle u g.u) (x:Hoard):Idle u (fp g x).u:=h.trans (kh g.u (ae x.path).1 x.worth)
structure VI (Fa:Prop) (B T:Nat) (u:U) (g:GotV) (k:Nat):Prop where
 inv:UInvF Fa B (T+42*k) g.u
 idle:Idle u g.u
 n:g.n≤k
theorem VI.mono {B T:Nat} {u:U} {g:GotV} {k m:Nat} (h:VI Fa B T u g k) (hm:k≤m):VI Fa B T u g m:=⟨h.inv.mono (W7 _) z8,h.idle,Yl h.n hm⟩
theorem VI.step {B T:Nat} {u:U} {g:GotV} {k:Nat} (h:VI Fa B T u g k) (x:Hoard):VI Fa B T u (fp g x) (k+1):=by
 refine ⟨?_,zG h.idle x,?_⟩
 ·have:=tO h.inv x
  rwa [show T+42*k+42=T+42*(k+1) by omega] at this
 ·have:=h.n;unfold fp;simp only;split<;>omega
theorem zd {B T:Nat} (u:U) (h:UInvF Fa B T u) (ha:u.c.away=true) (G Y N:Nat->Nat):af Tryz.prog 42 [.ptr 900 13 0 0] (uH u G Y N)
  (λr H=>r=.tup [.int .i64 0,.int .i64 12]/\Holds (uH u G Y N) H):=by
 unfold uH bq;refine ZF tK (Tryz.func42) rfl (λC=>?_);simp only[Tryz.ntmps42,Tryz.results42,go_sem];refine wG tK ?_;refine wDT (hb:=(ha)) (hk:=?_);refine wG tK ?_;refine wU ?_ ?_
 ·rfl
 ·exact q9
theorem ze {B T:Nat} (u:U) (h:UInvF Fa B T u) (ha:u.c.away=false) (hB:B≤30000000) (hT:T≤800000000000) (G Y N:Nat->Nat):af Tryz.prog 42 [.ptr 900 13 0 0] (uH u G Y N)
  (λr H=>r=.tup [.int .i64 ((eZ u).n:Int),.int .i64 0]/\Holds (uH (eZ u).u G Y N) H):=by
 have h6:=h.cli.hoards;have hV:eZ u=(bs u.c.hoards 100).foldl fp ⟨0,u⟩:=rfl;have h0:VI Fa B T u ⟨0,u⟩ 0:=⟨h,Idle.refl u,W7 _⟩;generalize eZ u=vF at *;unfold uH;refine ZF tK (Tryz.func42) rfl (λC=>?_);simp only[Tryz.ntmps42,Tryz.results42,go_sem];refine wG tK ?_ Zz Zv;refine wDF (hb:=(ha)) (hk:=?_);refine wG tK ?_;refine ZL (λq:Nat×GotV=>q.1≤100/\vF=(bs u.c.hoards q.1).foldl fp q.2/\VI Fa B T u q.2 (6*(100-q.1))) (λq=>q.1) (λq=>(4,.int .i64 (q.2.n:Int))::(5,.int .i64 (q.1:Int))::u0 6 48 [])
  (λq=>[(900,.cells 97 13 [bq q.2.u])]) (100,⟨0,u⟩) ⟨by omega,hV,h0.mono z8⟩ ?_ λq hq=>?_
 ·simp only[go_sem];exact ZU w3 Zv w3
 obtain ⟨w,g⟩:=q;obtain ⟨hw1,hvf,hvi⟩:=hq;simp only at hw1 hvf hvi;simp only[go_sem];refine wG tK ?_;cases w with
 | zero=>
  refine wDF (hb:=y8) (hk:=?_);refine wG tK ?_;rw[bs,List.foldl_nil] at hvf;rw[hvf];refine wU ?_ ?_
  ·rfl
  ·exact q9
 | succ w=>
  have hho:=hvi.idle.hoards;refine wDT (hb:=y8) (hk:=?_);refine wG tK ?_ Zz Zv;rw[hho];have hwp:IntKind.i64.wrap (((w+1:Nat):Int)-1)=((w:Nat):Int):=by rw[Eng.wrap_small z8 z8];omega
  rw[bs,List.foldl_append] at hvf;refine ZL (λq:Nat×GotV=>q.1≤u.c.hoards.length/\vF=(bs u.c.hoards w).foldl fp (((u.c.hoards.drop q.1).filter λh=>h.worth==((w+1:Nat):Int)).foldl fp q.2)/\VI Fa B T u q.2 (6*(100-(w+1))+q.1)) (λq=>u.c.hoards.length-q.1)
   (λq=>(4,.int .i64 (q.2.n:Int))::(27,.int .i64 (q.1:Int))::u0 7 5 (u0 28 25 [])) (λq=>[(900,.cells 97 13 [bq q.2.u])]) (0,g) ⟨Yp _,by rw[List.drop_zero];exact hvf,hvi⟩ ?_ λq hq=>?_
  ·simp only[go_sem];exact ZU w3 (by simp[go_sem,bq,hho]) w3
  obtain ⟨i,g2⟩:=q;obtain ⟨hi,hvf2,hvi2⟩:=hq;simp only at hi hvf2 hvi2;clear hvf hvi h0;simp only[go_sem];refine wG tK ?_;refine wD (λh=>?_) (λh=>?_)
  ·have hlt:i<u.c.hoards.length:=by simp at h;omega
   have hg:(u.c.hoards.map ZJ).getD i []=ZJ (u.c.hoards.getD i default):=Fam.getD hlt;have hwi:=wi1 (i:=i) z8;have hok:=(show UInvF Fa B T u by assumption).cli.hoardS _ (YG hlt);rw[bT hlt,List.filter_cons] at hvf2;generalize u.c.hoards.getD i default=x at *;refine wGq tK ?_ ?_ Qa
   ·simp[hg,ZJ,hlt]
   cases hb:(x.worth==((w+1:Nat):Int)) with
   | true=>
    have hxw:x.worth=((w+1:Nat):Int):=by simpa using hb
    rw[hb,if_pos rfl,List.foldl_cons] at hvf2;have hst:=hvi2.step x;have hsp:=gN x.path (by have:=hok.path;omega);have hsl:=bR x.path;have hvs:fp g2 x=⟨if (goU g2.u (ae x.path).1 x.worth).e=0 then g2.n+1 else g2.n,(goU g2.u (ae x.path).1 x.worth).u⟩:=rfl;have hgo:=tq g2.u hvi2.inv z8 z8 (ae x.path).1 (by have:=hsl.1;omega) (λy hy=>by have:=(hsl.2 y hy).1;omega) x.worth;rw[hvs] at hvf2 hst;unfold cw at hsp;unfold uH im at hgo;generalize goU g2.u (ae x.path).1 x.worth=q at *;rw[hxw] at hgo;generalize (ae x.path).1=L at *;have hgn:=hvi2.n;have hwn:IntKind.i64.wrap ((g2.n:Int)+1)=((g2.n+1:Nat):Int):=by rw[Eng.wrap_small z8 z8];rfl
    refine wDT (hb:=y8) (hk:=?_);refine wG tK ?_;refine wC Tryz.func17 (hf:=(hsp)) (hk:=?_);refine wG tK ?_;refine wP [900] Tryz.func35 (hf:=(hgo)) (hk:=?_);refine wGq tK ?_ ?_ w6
    ·simp[ZN]
    by_cases hqe:q.e=0
    ·rw[if_pos hqe] at hvf2 hst;refine wDT (hb:=Z4) (hk:=?_);refine wG tK ?_ (by simp only[go_sem,hwn,hwi];try exact rfl) (by simp[go_sem,hwn,hwi]);refine ZB ⟨(i+1,⟨g2.n+1,q.u⟩),⟨by simp only;omega,hvf2,hst⟩,by simp only;omega,ZU ?_ ?_ ?_⟩
     ·simp[go_sem]
     ·simp[go_sem]
     ·simp[go_sem]
    ·rw[if_neg hqe] at hvf2 hst;refine wDF (hb:=Z4) (hk:=?_);refine wG tK ?_ Qy Wf;refine ZB ⟨(i+1,⟨g2.n,q.u⟩),⟨by simp only;omega,hvf2,hst⟩,by simp only;omega,ZU ?_ ?_ ?_⟩
     ·simp[go_sem]
     ·simp[go_sem]
     ·simp[go_sem]
   | false=>
    rw[hb,if_neg Bool.false_ne_true] at hvf2;refine wDF (hb:=y8) (hk:=?_);refine wG tK ?_ Qy Wf;refine ZB ⟨(i+1,g2),⟨by simp only;omega,hvf2,hvi2.mono (by simp only;omega)⟩,by simp only;omega,ZU ?_ ?_ ?_⟩
    ·simp[go_sem]
    ·simp[go_sem]
    ·simp[go_sem]
  ·have e:i=u.c.hoards.length:=by simp at h;omega
   subst e;rw[List.drop_length,List.filter_nil,List.foldl_nil] at hvf2;refine wG tK ?_ QU Zn;refine ZB ⟨(w,g2),⟨by simp only;omega,hvf2,hvi2.mono (by simp only;omega)⟩,by simp only;omega,ZU ?_ ?_ ?_⟩
   ·simp[go_sem]
   ·simp[go_sem,bq]
   ·simp[go_sem]
theorem Hr {l:List Node} (hg:Good l) (hr:Ri l) {a:Act} (ha:ActFit a):RFit l a where
 ri:=hr
 ent:=λn hn=>by have:=hg.ent n hn;omega
 len:=by have:=hg.len;omega
 all:=by have:=zT hg.ent;have:=hg.len;omega
 name:=ha.name
 toName:=ha.toName
 data:=ha.data
theorem Hist.ri {p:List Past} {t:List Node} (h:Hist p t):Ri t:=⟨h.bH.up,λn hn=>(h.whole.loc n hn).eup⟩
theorem my {l:List Node} (hg:Good l) (hr:Ri l) {a:Act} (ha:ActFit a) (v:Int):af Tryz.prog 82 [.rm (mN (bI l)),.agg (ZA a),.int .i64 v] []
  (λr _=>r=if aH l a=0 then .tup [.rm (mN (bI (aN l a v))),.int .i64 0] else .tup [.nilm,.int .i64 (aH l a)]):=by
 have h:=CZ l a v (Hr hg hr ha);unfold wH at h;rw[hg.aH,hg.aN] at h;exact h
noncomputable def Jo (s:Srv) (c:Int) (a:Act):AV:=if doE s a=0 then .tup [.agg (ZQ (doS s c a)),.int .i64 0] else .tup [.agg [.sl [],.int .i64 0,.sl []],.int .i64 (doE s a)]
theorem Jp {k:Nat} (s:Srv) (h:SrvOK k s) (hk:k≤80000000) (c:Int) (a:Act) (ha:ActFit a):af Tryz.prog 80 [.agg (ZQ s),.int .i64 c,.agg (ZA a)] [] (λr _=>r=Jo s c a):=by
 have hlen:=h.len;have hnx:=h.next;have hg:=h.hist.bH;have hda:ActFit (doA s a):=by unfold doA;split;exact ⟨ha.name,ha.toName,ha.data⟩;exact ha
 have hw:IntKind.i64.wrap (s.next+1)=s.next+1:=Eng.wrap_small z8 z8;have hwp:IntKind.i64.wrap ((s.past.length:Int)+1)=((s.past.length+1:Nat):Int):=by rw[Eng.wrap_small z8 z8];rfl
 have hof:=te s.tree (by have:=hg.len;omega);have hap:=my hg h.hist.ri hda ((s.past.length+1:Nat):Int);have hls:aH s.tree (doA s a)=0->af Tryz.prog 84 [.rm (mN (bI (aN s.tree (doA s a) ((s.past.length+1:Nat):Int))))] [] (λr _=>r=.sl ((aN s.tree (doA s a) ((s.past.length+1:Nat):Int)).map ZN)):=λhe=>by
  have hg2:=fF hg (doA s a) ((s.past.length+1:Nat):Int) he;exact rJ _ hg2.up (by have:=hg2.len;omega)
 unfold Jo doS doE;unfold ZQ;refine ZF tK (Tryz.func80) rfl (λC=>?_);simp only[Tryz.ntmps80,Tryz.results80,go_sem];refine wGq tK ?_ ?_ Qg
 ·simp[ZA]
 refine wD (λh=>?_) (λh=>?_)
 ·have hm:aS a=true:=by unfold aS;revert h;cases (a.kind==1)<;>simp
  have hdo:doA s a={ a with fid:=s.next }:=by unfold doA;rw[if_pos hm]
  rw[hdo] at hap hls ⊢;simp only[hm,if_true];generalize aH s.tree { a with fid:=s.next }=e at *;generalize aN s.tree { a with fid:=s.next } ((s.past.length+1:Nat):Int)=L at *;refine wG tK ?_
  by_cases he:e=0
  ·subst he;have hls:=hls rfl;have hnr2:∀id,bX id (.cells 120 8 (List.take s.past.length (s.past.map ZP)++[ZP (⟨c,{ a with fid:=s.next }⟩:Past)])):=λid=>by
    rw[show List.take s.past.length (s.past.map ZP)++[ZP (⟨c,{ a with fid:=s.next }⟩:Past)]=(s.past++[(⟨c,{ a with fid:=s.next }⟩:Past)]).map ZP by simp];exact bE id _
   simp only[if_true] at hap ⊢;refine ZW ZM ?_;refine ZS rfl ?_;refine sN tK 2 ?_;refine sC Tryz.func18 (hf:=(hof)) (hk:=?_);refine sN tK 5 ?_ z6 z6 QU Zn;refine sC Tryz.func82 (hf:=(hap)) (hk:=?_);refine sG tK ?_;refine sE ?_;refine wKd ?_
   try simp only[go_sem,gA,gB,gC]
   refine wG tK ?_;refine wDF (hb:=y8) (hk:=?_);refine wG tK ?_;refine ZW ZM ?_;refine lx [(44,[44]),(47,[47])] rfl (B9 Wm) ?_;refine zN tK 1 (hk:=?_);refine zC Tryz.func84 (hf:=(hls)) (hk:=?_);refine zN tK 2 (hk:=?_);refine zW tK (hk:=?_);refine zN tK 2 (hk:=?_);refine zA tK (h2:=?_) (h4:=?_) (h5:=?_) (h7:=?_) (h8:=?_) (hzz:=?_) (hn:=rfl) (hr:=rfl) (hk:=?_)
   ·exact jl _
   ·exact ll _
   ·rw[show tab.byt 120=96 from rfl];simp;omega
   ·simp
   ·exact bE 44 s.past
   ·intro z hz;simp only[List.mem_cons,List.not_mem_nil,or_false] at hz
    rcases hz with rfl | rfl
    ·exact .inl ⟨by decide,bE 44 s.past⟩
    ·exact .inr ⟨rfl,by decide⟩
   refine zN tK 2 (hk:=?_);refine zB tK (hk:=?_);refine zW tK (hk:=?_);refine zA tK (h2:=?_) (h4:=?_) (h5:=?_) (h7:=?_) (h8:=?_) (hzz:=?_) (hn:=rfl) (hr:=rfl) (hk:=?_)
   ·intro row h;simp at h;subst h;rfl
   ·rfl
   ·rw[show tab.byt 120=96 from rfl];simp;omega
   ·simp
   ·exact hnr2 47
   ·intro z hz;simp only[List.mem_cons,List.not_mem_nil,or_false] at hz
    rcases hz with rfl | rfl
    ·exact .inl ⟨by decide,hnr2 44⟩
    ·exact .inl ⟨by decide,hnr2 47⟩
   refine zB tK (hk:=?_);refine zW tK (hk:=?_);refine pk w4 z6 ?_;refine dS tK ?_;refine wKd ?_
   try simp only[go_sem,gA,gB,gC]
   refine wG tK ?_;refine wDT (hb:=(h)) (hk:=?_);refine wG tK ?_ w5 k7;refine ZZ 52 rfl Zr ?_;simp only[go_sem];refine wT ?_;rw[Wy y8];simp[ZP]
  ·simp only[he,if_false] at hap ⊢;refine ZW ZM ?_;refine ZS rfl ?_;refine sN tK 2 ?_;refine sC Tryz.func18 (hf:=(hof)) (hk:=?_);refine sN tK 5 ?_ z6 z6 QU Zn;refine sC Tryz.func82 (hf:=(hap)) (hk:=?_);refine sG tK ?_;refine sE ?_;refine wKd ?_
   try simp only[go_sem,gA,gB,gC]
   refine wG tK ?_;refine wDT (hb:=QS) (hk:=?_);refine wG tK ?_;refine ah (ax 6) ?_;refine wT ?_;simp[he]
 ·have hm:aS a=false:=by unfold aS;revert h;cases (a.kind==1)<;>simp
  have hdo:doA s a=a:=by unfold doA;rw[if_neg (by simp[hm])]
  rw[hdo] at hap hls ⊢;simp only[hm,Bool.false_eq_true,if_false];generalize aH s.tree a=e at *;generalize aN s.tree a ((s.past.length+1:Nat):Int)=L at *;refine wG tK ?_
  by_cases he:e=0
  ·subst he;have hls:=hls rfl;have hnr2:∀id,bX id (.cells 120 8 (List.take s.past.length (s.past.map ZP)++[ZP (⟨c,a⟩:Past)])):=λid=>by
    rw[show List.take s.past.length (s.past.map ZP)++[ZP (⟨c,a⟩:Past)]=(s.past++[(⟨c,a⟩:Past)]).map ZP by simp];exact bE id _
   simp only[if_true] at hap ⊢;refine ZW ZM ?_;refine ZS rfl ?_;refine sN tK 2 ?_;refine sC Tryz.func18 (hf:=(hof)) (hk:=?_);refine sN tK 5 ?_ z6 z6 QU Zn;refine sC Tryz.func82 (hf:=(hap)) (hk:=?_);refine sG tK ?_;refine sE ?_;refine wKd ?_
   try simp only[go_sem,gA,gB,gC]
   refine wG tK ?_;refine wDF (hb:=y8) (hk:=?_);refine wG tK ?_;refine ZW ZM ?_;refine lx [(44,[44]),(47,[47])] rfl (B9 Wm) ?_;refine zN tK 1 (hk:=?_);refine zC Tryz.func84 (hf:=(hls)) (hk:=?_);refine zN tK 2 (hk:=?_);refine zW tK (hk:=?_);refine zN tK 2 (hk:=?_);refine zA tK (h2:=?_) (h4:=?_) (h5:=?_) (h7:=?_) (h8:=?_) (hzz:=?_) (hn:=rfl) (hr:=rfl) (hk:=?_)
   ·exact jl _
   ·exact ll _
   ·rw[show tab.byt 120=96 from rfl];simp;omega
   ·simp
   ·exact bE 44 s.past
   ·intro z hz;simp only[List.mem_cons,List.not_mem_nil,or_false] at hz
    rcases hz with rfl | rfl
    ·exact .inl ⟨by decide,bE 44 s.past⟩
    ·exact .inr ⟨rfl,by decide⟩
   refine zN tK 2 (hk:=?_);refine zB tK (hk:=?_);refine zW tK (hk:=?_);refine zA tK (h2:=?_) (h4:=?_) (h5:=?_) (h7:=?_) (h8:=?_) (hzz:=?_) (hn:=rfl) (hr:=rfl) (hk:=?_)
   ·intro row h;simp at h;subst h;rfl
   ·rfl
   ·rw[show tab.byt 120=96 from rfl];simp;omega
   ·simp
   ·exact hnr2 47
   ·intro z hz;simp only[List.mem_cons,List.not_mem_nil,or_false] at hz
    rcases hz with rfl | rfl
    ·exact .inl ⟨by decide,hnr2 44⟩
    ·exact .inl ⟨by decide,hnr2 47⟩
   refine zB tK (hk:=?_);refine zW tK (hk:=?_);refine pk w4 z6 ?_;refine dS tK ?_;refine wKd ?_
   try simp only[go_sem,gA,gB,gC]
   refine wG tK ?_;refine wDF (hb:=(h)) (hk:=?_);refine wG tK ?_;refine ZZ 52 rfl Zr ?_;simp only[go_sem];refine wT ?_;rw[Wy y8];simp[ZP]
  ·simp only[he,if_false] at hap ⊢;refine ZW ZM ?_;refine ZS rfl ?_;refine sN tK 2 ?_;refine sC Tryz.func18 (hf:=(hof)) (hk:=?_);refine sN tK 5 ?_ z6 z6 QU Zn;refine sC Tryz.func82 (hf:=(hap)) (hk:=?_);refine sG tK ?_;refine sE ?_;refine wKd ?_
   try simp only[go_sem,gA,gB,gC]
   refine wG tK ?_;refine wDT (hb:=QS) (hk:=?_);refine wG tK ?_;refine ah (ax 6) ?_;refine wT ?_;simp[he]
end La
