/- Texts of this claim, part 20: ModC, RU, Cut, RSplit, RGo, RHoard, RDo, Add, Add2. No condition. -/
import Derived.Test.YtmcfbfdonjllaaaGreatDoorZT19
import Derived.Test.YtmcfbfdonjllaaaGreatDoorZT11
set_option maxRecDepth 10000
set_option maxHeartbeats 4000000
set_option linter.unusedSimpArgs false
set_option linter.unusedVariables false
namespace La
open Go Go.Eng
def ZJ (h:Hoard):List AV:=[.str h.path,.int .i64 h.worth]
def ZC (c:Cli):List AV:=[.int .i64 c.number,.bool c.away,.int .i64 c.room,.sl (c.cache.map ZK),.sl (c.log.map ZR),.sl (c.repair.map ZR),.sl (c.hoards.map ZJ),.int .i64 c.clock,.int .i64 c.made,.int .i64 c.logged]
def ZX (x:Step):List AV:=[.int .i64 x.kind,.int .i64 x.client,.int .i64 x.n,.str x.path,.str x.toPath,.sl (x.data.map ZY)]
def ar (r:Reply):List AV:=[.int .i64 r.err,.int .i64 r.n,.int .i64 r.m,.sl (r.data.map ZY)]
def bo (u:U):List AV:=[.int .i64 u.c.number,.bool u.c.away,.int .i64 u.c.room,.sl (u.c.cache.map ZK),.sl (u.c.log.map ZR),.sl (u.c.repair.map ZR),.sl (u.c.hoards.map ZJ),.int .i64 u.c.clock,.int .i64 u.c.made,.int .i64 u.c.logged,.sl (u.s.tree.map ZN),.int .i64 u.s.next,.sl (u.s.past.map ZP)]
def aT (w:Wor):List AV:=[.sl (w.s.tree.map ZN),.int .i64 w.s.next,.sl (w.s.past.map ZP),.sl (w.cs.map ZC)]
theorem eQ:Fam ZJ 2:=⟨λ_=>rfl,λ_=>rfl,λ_=>rfl,λ_=>rfl⟩
@[go_sem,simp] theorem CP (l:List _):Eng.rowsOf 2 (l.map ZJ):=eQ.rowsOf l
@[go_sem,simp] theorem EO (l:List _):((l.map ZJ).all λrow=>row.all AV.leaf)=true:=eQ.jc l
@[go_sem,simp] theorem dZ (l:List _):((l.map ZJ).all λrow=>row.all AV.aY)=true:=eQ.eM l
@[go_sem,simp] theorem Dt (id:Nat) (l:List _):((l.map ZJ).all λrow=>row.all λx=>!(refs x).contains id)=true:=eQ.jY id l
@[go_sem,simp] theorem Du (e s:Nat) (l:List _):aB (.cells e s (l.map ZJ))=[]:=eQ.aB e s l
@[go_sem,simp] theorem EP (off:Nat) (l:List _):(l.map ZJ).map (f_ off)=l.map ZJ:=Fam.f_ (λ_ _=>rfl) off l
@[go_sem,simp] theorem EN (id s:Nat) (rows:List (List AV)) (l:List _):(l.map ZJ).map (dB id s rows)=l.map ZJ:=Fam.dB (λ_ _ _ _=>rfl) id s rows l
@[go_sem,simp] theorem Dv (a):aC (ZJ a)=[]:=eQ.free a
theorem nh:Fam ZC 10:=⟨λ_=>rfl,λ_=>rfl,λ_=>rfl,λ_=>rfl⟩
@[go_sem,simp] theorem gz (l:List _):((l.map ZC).all λrow=>row.all AV.aY)=true:=nh.eM l
@[go_sem,simp] theorem uQ (id:Nat) (l:List _):((l.map ZC).all λrow=>row.all λx=>!(refs x).contains id)=true:=nh.jY id l
@[go_sem,simp] theorem FA (e s:Nat) (l:List _):aB (.cells e s (l.map ZC))=[]:=nh.aB e s l
@[go_sem,simp] theorem HC (off:Nat) (l:List _):(l.map ZC).map (f_ off)=l.map ZC:=Fam.f_ (λ_ _=>rfl) off l
@[go_sem,simp] theorem HB (id s:Nat) (rows:List (List AV)) (l:List _):(l.map ZC).map (dB id s rows)=l.map ZC:=Fam.dB (λ_ _ _ _=>rfl) id s rows l
theorem ie:Fam ar 4:=⟨λ_=>rfl,λ_=>rfl,λ_=>rfl,λ_=>rfl⟩
@[go_sem,simp] theorem tv (l:List _):((l.map ar).all λrow=>row.all AV.aY)=true:=ie.eM l
@[go_sem,simp] theorem D9 (id:Nat) (l:List _):((l.map ar).all λrow=>row.all λx=>!(refs x).contains id)=true:=ie.jY id l
@[go_sem,simp] theorem D_ (e s:Nat) (l:List _):aB (.cells e s (l.map ar))=[]:=ie.aB e s l
@[go_sem,simp] theorem EV (id s:Nat) (rows:List (List AV)) (l:List _):(l.map ar).map (dB id s rows)=l.map ar:=Fam.dB (λ_ _ _ _=>rfl) id s rows l
@[go_sem,simp] theorem D' (a):aC (ar a)=[]:=ie.free a
end La
namespace La
open Go Go.Eng Go.Proofs
variable {Fa:Prop}
def uH (u:U) (G Y N:Nat->Nat):List (Nat×Blk):=[(900,.cells 121 13 [bo u])]++pins [900] G Y N
theorem BV {l:List Kept} (hn:(l.map λk=>k.node.fid).Nodup) {fid:Int} {i:Nat} (hi:i<l.length) (hf:(l.getD i default).node.fid=fid):dE (l.take (i+1)) fid=some (l.getD i default).node/\dE (l.take i) fid=none:=by
 have h0:dE (l.take i) fid=none:=by
  unfold dE;rw[Option.map_eq_none_iff,List.find?_eq_none];intro x hx;obtain ⟨j,hj⟩:=Wu hx;have hjl:=(Wp.1 hj).1;rw[Wv] at hjl;rw[W4,if_pos z8] at hj;simp only[beq_iff_eq];intro e;have h2:l[i]? = some (l.getD i default):=by rw[Wi,Wj hi];rfl
  have:=xS hn hj h2 (e.trans hf.symm);omega
 refine ⟨?_,h0⟩;unfold dE at h0 ⊢;rw[ZT hi,List.find?_append];rw[Option.map_eq_none_iff] at h0;have hb:((l.getD i default).node.fid==fid)=true:=by rw[hf];exact beq_self_eq_true _
 rw[h0,Option.none_or,List.find?_cons];simp only[hb,Option.map_some]
theorem zI {l:List Kept} {fid:Int} {i:Nat} (hi:i<l.length) (hf:(l.getD i default).node.fid≠fid):dE (l.take (i+1)) fid=dE (l.take i) fid:=by
 unfold dE;rw[ZT hi,List.find?_append,List.find?_cons];rw[show ((l.getD i default).node.fid==fid)=false by simpa using hf];simp
def kE (l:List Kept) (f w c:Int) (i:Nat):List Kept:=(l.take i).map (fL f w c)
theorem xI {l:List Kept} (f w c:Int) {i:Nat} (h:i<l.length):kE l f w c (i+1)=kE l f w c i++[fL f w c (l.getD i default)]:=by unfold kE;rw[ZT h,List.map_append];rfl
theorem zx {l:List Kept} (f w c:Int) {i:Nat} (h:i≤l.length):(kE l f w c i).length=i:=by unfold kE;rw[List.length_map,Wv];omega
theorem zw (l:List Kept) (f w c:Int):kE l f w c l.length=l.map (fL f w c):=by unfold kE;rw[Wo]
@[go_sem,simp] theorem Gd (id s:Nat) (rows:List (List AV)) (n:Node):dB id s rows (ZN n)=ZN n:=rfl
@[go_sem,simp] theorem Gf (off:Nat) (n:Node):f_ off (ZN n)=ZN n:=rfl
@[go_sem,simp] theorem HF (n:Node):(ZN n).length=5:=rfl
theorem fC {l:List AV} (h:aC l=[]) {x:AV} (hx:x∈l) (id:Nat):¬id∈refs x:=λhi=>by
 obtain ⟨j,hj⟩:=Wu hx;have:=a_ hj hi;rw[h] at this;cases this
def gS (g:Got):AV:=.tup [.agg (ZN g.n),.int .i64 g.e]
theorem ot {B T:Nat} (u:U) (h:UInvF Fa B T u) (hB:B≤40000000) (hT:T≤1000000000000) (fid worth:Int) (G Y N:Nat->Nat):ae Tryz.prog 90 [.ptr 900 13 0 0,.int .i64 fid,.int .i64 worth] (uH u G Y N)
  (λr H=>r=gS (bb u fid worth)/\Holds (uH (bb u fid worth).u G Y N) H):=by
 have hcl:=h.cli.clock;have hlen:u.c.cache.length≤24:=by have:=h.cli.len;have:=h.cli.room;omega
 have hnod:=h.cli.nod;have hup:=h.srv.hist.bF.up;have htl:u.s.tree.length≤24:=h.srv.hist.bF.len;have hw:IntKind.i64.wrap (u.c.clock+1)=u.c.clock+1:=Eng.wrap_small z8 z8;have hof:=um u.s.tree z8;have hgf:∀k,bj (mN (bD u.s.tree)) k=(aj u.s.tree k).map λn=>AV.agg (ZN n):=λk=>by rw[gV,cy hup]
 have hgu:bb u fid worth=match dE u.c.cache fid with
  | some n=>⟨n,0,cm u fid worth⟩
  | none=>if u.c.away=true then ⟨aw,12,cm u fid worth⟩ else match aj u.s.tree fid with
   | none=>⟨aw,6,cm u fid worth⟩
   | some n=>⟨n,0,gg (cm u fid worth) ⟨n,false,worth,u.c.clock+1⟩⟩:=rfl
 have hD0:kE u.c.cache fid worth (u.c.clock+1) 0=[]:=rfl;have hDs:=λi=>@xI u.c.cache fid worth (u.c.clock+1) i
 have hDn:=λi=>@zx u.c.cache fid worth (u.c.clock+1) i
 have hDe:=zw u.c.cache fid worth (u.c.clock+1);generalize kE u.c.cache fid worth (u.c.clock+1)=D at *;unfold uH bo;refine ZF tK (Tryz.func90) rfl (λC=>?_);simp only[Tryz.ntmps90,Tryz.results90,go_sem];refine wG tK ?_ w5 k0;refine ag (le_empty 57 138 8 z7) ?_;simp only[go_sem];refine ag (au 6) ?_;refine ag (au 9) ?_;simp only[go_sem];refine ZL (λi:Nat=>i≤u.c.cache.length) (λi=>u.c.cache.length-i) (λi=>(8,.osl 57 8 0 i)::(10,.bool (dE (u.c.cache.take i) fid).isSome)::(12,.any)::(31,.int .i64 i)::u0 32 27 [])
  (λi=>[(9,.cells 94 5 [ZN ((dE (u.c.cache.take i) fid).getD aw)]),(57,.cells 138 8 ((D i).map ZK))]) 0 z8 ?_ λi hi=>?_
 ·simp only[go_sem];rw[hD0];exact ZU (by simp[go_sem,dE]) (by simp[go_sem,dE,ZN,aw]) QV
 simp only[go_sem];refine wG tK ?_;refine wD (λh=>?_) (λh=>?_)
 ·have hlt:i<u.c.cache.length:=by simp at h;omega
  have hg:(u.c.cache.map ZK).getD i []=ZK (u.c.cache.getD i default):=Fam.getD hlt;have hw1:=wi1 (i:=i) z8;have hgt:=hDs i hlt;have hDl:=hDn i hi;have hit:=@BV u.c.cache hnod fid i hlt;have hms:=@zI u.c.cache fid i hlt;generalize D i=Di at *;generalize u.c.cache.getD i default=k at *;have htq:List.take i (Di.map ZK)=Di.map ZK:=Wl (by simp[hDl]);refine wGq tK ?_ ?_ x9
  ·simp[hg,ZK,hlt]
  refine wD (λh=>?_) (λh=>?_)
  ·have hf:k.node.fid=fid:=by simpa using h
   obtain ⟨hnk,hn0⟩:=hit hf;refine wG tK ?_;refine wD (λh=>?_) (λh=>?_)
   ·have hwo:k.worth<worth:=by simpa using h
    have hk:fL fid worth (u.c.clock+1) k={ k with last:=u.c.clock+1,worth:=worth }:=by unfold fL lS;rw[if_pos hf,if_pos hwo]
    refine wGq tK ?_ ?_ j7
    ·simp[htq,refs];refine ⟨by intro row h;simp at h;subst h;rfl,by omega,by omega,λx hx=>?_,λx hx y hy=>fC (ju x) hy _⟩
     first | exact fC (jv _) hx _ | skip
    refine ZB ⟨i+1,by omega,by omega,ZU ?_ ?_ ?_⟩
    ·simp[go_sem,hgt,hnk]
    ·simp[go_sem,hgt,htq,hk,ZK,ZN,hnk]
    ·simp[go_sem]
   ·have hwo:¬worth>k.worth:=by simpa using h
    have hk:fL fid worth (u.c.clock+1) k={ k with last:=u.c.clock+1 }:=by unfold fL lS;rw[if_pos hf,if_neg hwo]
    refine wGq tK ?_ ?_ j7
    ·simp[htq,refs];refine ⟨by intro row h;simp at h;subst h;rfl,by omega,by omega,λx hx=>?_,λx hx y hy=>fC (ju x) hy _⟩
     first | exact fC (jv _) hx _ | skip
    refine ZB ⟨i+1,by omega,by omega,ZU ?_ ?_ ?_⟩
    ·simp[go_sem,hgt,hnk]
    ·simp[go_sem,hgt,htq,hk,ZK,ZN,hnk]
    ·simp[go_sem]
  ·have hf:k.node.fid≠fid:=by simpa using h
   have hnk:=hms hf;have hk:fL fid worth (u.c.clock+1) k=k:=by unfold fL;rw[if_neg hf]
   refine wGq tK ?_ ?_ j7
   ·simp[htq,refs];refine ⟨by intro row h;simp at h;subst h;rfl,by omega,by omega,λx hx=>?_,λx hx y hy=>fC (ju x) hy _⟩
    first | exact fC (jv _) hx _ | skip
   refine ZB ⟨i+1,by omega,by omega,ZU ?_ ?_ ?_⟩
   ·simp[go_sem,hgt,hnk]
   ·simp[go_sem,hgt,htq,hk,ZK,ZN,hnk]
   ·simp[go_sem]
 ·have e:i=u.c.cache.length:=by simp at h;omega
  subst e;rw[Wo,hDe];refine wR ?_;have htk:List.take u.c.cache.length ((u.c.cache.map (fL fid worth (u.c.clock+1))).map ZK)=(u.c.cache.map (fL fid worth (u.c.clock+1))).map ZK:=Wl y7;refine ZZ 57 rfl (bc _) ?_;simp only[go_sem,htk];refine wG tK ?_;clear hgu;cases hnk:dE u.c.cache fid with
  | some n=>
   have hG:bb u fid worth=⟨n,0,cm u fid worth⟩:=by unfold bb;rw[hnk]
   rw[hG];refine wDT (hb:=(rfl)) (hk:=?_);refine wG tK ?_ w6 QV;refine wU ?_ ?_
   ·rfl
   ·exact q9
  | none=>
   refine wDF (hb:=(rfl)) (hk:=?_);refine wG tK ?_;cases ha:u.c.away with
   | true=>
    have hG:bb u fid worth=⟨aw,12,cm u fid worth⟩:=by unfold bb;rw[hnk];simp[ha]
    rw[hG];refine wDT (hb:=(rfl)) (hk:=?_);refine wG tK ?_ QQ (by simp[go_sem,ZN,aw]);refine wU ?_ ?_
    ·rfl
    ·skip
     simp only[pins,List.cons_append,List.nil_append,List.map_cons,List.map_nil]
     repeat' refine ZH ?_ ?_
     all_goals first | exact YH _ | rfl | simp[go_sem,cm,ha]
   | false=>
    refine wDF (hb:=(rfl)) (hk:=?_);refine wG tK ?_;refine wC Tryz.func27 (hf:=(hof)) (hk:=?_);have hg1:=hgf fid;cases hff:aj u.s.tree fid with
    | none=>
     rw[hff] at hg1;simp only[Option.map_none] at hg1;have hG:bb u fid worth=⟨aw,6,cm u fid worth⟩:=by unfold bb;rw[hnk];simp[ha,hff]
     rw[hG];refine wG tK ?_ p7 Qm;refine wDT (hb:=(rfl)) (hk:=?_);refine wG tK ?_;refine ag (au 6) ?_;simp only[go_sem];refine wU ?_ ?_
     ·rfl
     ·skip
      simp only[pins,List.cons_append,List.nil_append,List.map_cons,List.map_nil]
      repeat' refine ZH ?_ ?_
      all_goals first | exact YH _ | rfl | simp[go_sem,cm,ha]
    | some n=>
     rw[hff] at hg1;simp only[Option.map_some] at hg1;refine wG tK ?_ u3 n9;refine wDF (hb:=(rfl)) (hk:=?_);refine wG tK ?_;have hcz:(u.c.cache.map (fL fid worth (u.c.clock+1))).length≤90000000:=by rw[List.length_map];omega
     have hG:bb u fid worth=⟨n,0,gg (cm u fid worth) ⟨n,false,worth,u.c.clock+1⟩⟩:=by unfold bb;rw[hnk];simp[ha,hff]
     rw[hG];refine ZW ZM ?_;refine ZS rfl ?_;refine sN tK 17 ?_;refine sB tK ?_;cases hkp:cK (u.c.cache.map (fL fid worth (u.c.clock+1))) u.c.room ⟨n,false,worth,u.c.clock+1⟩ with
     | none=>
      have hk:=l_ hcz hkp;have hKU:gg (cm u fid worth) ⟨n,false,worth,u.c.clock+1⟩=cm u fid worth:=by unfold gg cm;simp only[hkp]
      rw[hKU];refine sC Tryz.func98 (hf:=(hk)) (hk:=?_);refine sG tK ?_;refine sE ?_;refine wKd ?_
      try simp only[go_sem,gA,gB,gC]
      refine wG tK ?_;refine wDF (hb:=(rfl)) (hk:=?_);refine wG tK ?_;refine wU ?_ ?_
      ·rfl
      ·skip
       simp only[pins,List.cons_append,List.nil_append,List.map_cons,List.map_nil]
       repeat' refine ZH ?_ ?_
       all_goals first | exact YH _ | rfl | simp[go_sem,cm,ha]
     | some L=>
      have hk:=kd hcz hkp;have hKU:gg (cm u fid worth) ⟨n,false,worth,u.c.clock+1⟩=⟨{ (cm u fid worth).c with cache:=L },u.s⟩:=by unfold gg cm;simp only[hkp]
      rw[hKU];refine sC Tryz.func98 (hf:=(hk)) (hk:=?_);refine sG tK ?_;refine sE ?_;refine wKd ?_
      try simp only[go_sem,gA,gB,gC]
      refine wG tK ?_;refine wDT (hb:=(rfl)) (hk:=?_);refine wG tK ?_;refine wU ?_ ?_
      ·rfl
      ·skip
       simp only[pins,List.cons_append,List.nil_append,List.map_cons,List.map_nil]
       repeat' refine ZH ?_ ?_
       all_goals first | exact YH _ | rfl | simp[go_sem,cm,ha]
def Fo (c:UInt8) (s:List UInt8) (i:Nat) (done:List (List UInt8)) (cur:List UInt8):Prop:=
 i≤s.length/\uS c done cur (s.drop i)=cZ c s/\done.length≤i/\cur.length≤i
theorem H5 (s:List UInt8) (c:UInt8) (hs:s.length≤100000000):ae Tryz.prog 89 [.str s,.int .u8 (c.toNat:Int)] [] (λr _=>r=.sl ((cZ c s).map aR)):=by
 refine ZF tK (Tryz.func89) rfl (λC=>?_);simp only[Tryz.ntmps89,Tryz.results89,go_sem];refine wG tK ?_;refine ag (dj 7 20) ?_;refine ZL (λx:Nat×List (List UInt8)×List UInt8=>Fo c s x.1 x.2.1 x.2.2) (λx=>s.length-x.1) (λx=>(5,.osl 20 1 0 (x.2.1.length+1))::(6,.any)::(7,.any)::(10,.int .i64 x.1)::u0 11 28 []) (λx=>[(20,.cells 9 1 (x.2.1.map aR++[[.str x.2.2]]))]) (0,[],[]) ⟨by omega,by rw[List.drop_zero,C7],by simp,by simp⟩ ?_ λx hx=>?_
 ·simp only[go_sem];exact ZU w3 w3 w3
 obtain ⟨i,done,cur⟩:=x;obtain ⟨hi,hc,hd,hcl⟩:=hx;simp only at hi hc hd hcl;simp only[go_sem];refine wG tK ?_;refine wD (λh=>?_) (λh=>?_)
 ·have hlt:i<s.length:=by simp at h;omega
  have hw:=wi1 (i:=i) z8;have hdr:s.drop i=s.getD i 0::s.drop (i+1):=by
   rw[Wi,Wj hlt];simp
  have hdt:(s.take (i+1)).drop i=[s.getD i 0]:=by
   rw[ZT hlt,List.drop_left' QK];rfl
  rw[hdr,uS] at hc;refine wGq tK ?_ ?_
  ·simp;omega
  generalize s.getD i 0=x at hc hdt;refine wD (λh=>?_) (λh=>?_)
  ·have hx:x=c:=UInt8.toNat_inj.1 (by have:((x.toNat:Nat):Int)=c.toNat:=v8;omega);rw[if_pos hx] at hc;have htk:List.take (done.length+1) (done.map aR++[[AV.str cur]])=done.map aR++[[AV.str cur]]:=Wl y7;refine wGq tK ?_ ?_ w5
   ·simp[htk,refs];exact ⟨by intro row h;simp at h;subst h;rfl,by omega,λx _ y hy=>by simp[aR] at hy;subst hy;simp[refs]⟩
   refine ZB ⟨(i+1,done++[cur],[]),⟨by omega,hc,by simp;omega,by simp⟩,by simp only;omega,ZU ?_ ?_ ?_⟩
   ·simp[go_sem]
   ·simp[go_sem,htk,aR]
   ·simp[go_sem]
  ·have hx:¬x=c:=λe=>by subst e;simp at h
   rw[if_neg hx] at hc;have hgr:(done.map aR++[[AV.str cur]]).getD done.length []=[AV.str cur]:=by simp[Wi]
   have hsub:IntKind.i64.wrap (((done.length+1:Nat):Int)-1)=(done.length:Int):=by rw[Eng.wrap_small z8 z8];omega
   refine ZW ZM ?_;refine ZS rfl ?_;refine sNq tK 17 ?_ ?_ z6 z6 (by simp only[go_sem,hgr,hsub,hw];try exact rfl)
   ·simp[hgr,hsub,hw];omega
   refine sT tK ?_;refine sE ?_;refine wKd ?_;simp only[go_sem,hdt];refine wG tK ?_ w5 k0;refine ZB ⟨(i+1,done,cur++[x]),⟨by omega,hc,by simp only;omega,by simp;omega⟩,by simp only;omega,ZU ?_ ?_ ?_⟩
   ·simp[go_sem]
   ·simp[go_sem]
   ·simp[go_sem]
 ·have e:i=s.length:=by simp at h;omega
  subst e;rw[List.drop_length,uS] at hc;have hrows:done.map aR++[[AV.str cur]]=(cZ c s).map aR:=by rw[←hc];simp[aR]
  have hlen:done.length+1=(cZ c s).length:=by rw[←hc];simp
  rw[hrows,hlen];refine wG tK ?_;refine ZZ 20 rfl (yE _) ?_;refine wT ?_;simp
theorem zV (s:List UInt8) (hs:s.length≤10000000):ae Tryz.prog 57 [.str s] [] (λr _=>Eng.nrm r=ct (af s)):=by
 refine ZF tK (Tryz.func57) rfl (λC=>?_);simp only[Tryz.ntmps57,Tryz.results57,go_sem];refine wR ?_;refine wN tK 2 ?_;refine wG tK ?_;refine wD (λh=>?_) (λh=>?_)
 ·have h1:40<s.length:=by simp at h;omega
  refine wG tK ?_;refine wT ?_;simp[af,h1,ct,Eng.nrm,Eng.eW]
 have h1:¬40<s.length:=by simp at h;omega
 refine wG tK ?_;refine wD (λh=>?_) (λh=>?_)
 ·have h2:s=[47]:=by simpa using h
  refine wG tK ?_;refine wT ?_;simp[af,h1,h2,ct,Eng.nrm,Eng.eW]
 have h2:s≠[47]:=by simpa using h
 refine wR ?_;refine wN tK 3 ?_;cases s with
 | nil=>
  refine wG tK ?_;refine wD (λh=>?_) (λh=>?_)
  ·refine wG tK ?_;refine wT ?_;simp[af,ct,Eng.nrm,Eng.eW]
  ·cases h
 | cons x r=>
  refine wG tK ?_;refine wD (λh=>?_) (λh=>?_)
  ·have h3:¬x=47:=λe=>by subst e;simp at h
   have h1':¬40<r.length+1:=h1;refine wG tK ?_;refine wT ?_;simp[af,h1',h3,ct,Eng.nrm,Eng.eW]
  have h3:x=47:=UInt8.toNat_inj.1 (by have:((x.toNat:Nat):Int)=47:=v8;show x.toNat=47;omega);subst h3;refine wR ?_;refine wN tK 1 ?_;refine wC Tryz.func89 (hf:=(H5 (47::r) 47 z8)) (hk:=?_);have hcut:cZ 47 (47::r)=[]::cZ 47 r:=by simp[cZ]
  have hR:af (47::r)=if (cZ 47 r).all cu then (cZ 47 r,0) else ([],7):=by
   simp only[af,if_neg h1,if_neg h2,List.head?_cons,ne_eq,not_true_eq_false,if_false,List.drop_succ_cons,List.drop_zero]
  have hcl:=qL 47 r;have hcp:=mo 47 r;rw[hR,hcut];generalize cZ 47 r=L at hcl hcp;simp only[List.length_cons] at hs;refine wGq tK ?_ ?_
  ·simp[aR]
  refine ZL (λi:Nat=>i≤L.length/\(L.take i).all cu=true) (λi=>L.length-i) (λi=>(6,.any)::(24,.int .i64 i)::u0 25 7 []) (λ_=>[]) 0 ⟨by omega,by simp⟩ ?_ λi hi=>?_
  ·simp only[go_sem];exact ZU w3 w3 w3
  obtain ⟨hi,hs2⟩:=hi;simp only[go_sem];refine wG tK ?_;refine wD (λh=>?_) (λh=>?_)
  ·have hlt:i<L.length:=by simp at h;omega
   have hw:=wi1 (i:=i) z8;have hg:(L.map aR).getD i []=aR (L.getD i default):=Fam.getD hlt;have htk:=ZT hlt;have hmem:L.getD i default∈L:=by rw[Wi,Wj hlt];exact YO hlt
   have hxl:=hcp _ hmem;have hno:cu (L.getD i default)=false->L.all cu=false:=λh0=>by
    cases e:L.all cu with
    | false=>rfl
    | true=>rw[List.all_eq_true.1 e _ hmem] at h0;cases h0
   generalize L.getD i default=x at hg htk hxl hno hmem;refine wGq tK ?_ ?_ Zd
   ·simp[hg,aR,hlt]
   refine wC Tryz.func49 (hf:=(yg x z8)) (hk:=?_);refine wG tK ?_;refine wD (λh=>?_) (λh=>?_)
   ·have h0:cu x=false:=by simpa using h
    refine wG tK ?_;refine wT ?_;simp[hno h0,ct,Eng.nrm,Eng.eW]
   ·have h0:cu x=true:=by simpa using h
    refine wG tK ?_ w5 k0;refine ZB ⟨i+1,⟨by omega,by rw[htk,List.all_append,hs2];simp[h0]⟩,by omega,ZU ?_ ?_ ?_⟩
    ·simp[go_sem]
    ·simp[go_sem]
    ·simp[go_sem]
  ·have e:i=L.length:=by simp at h;omega
   subst e;rw[Wo] at hs2;refine wG tK ?_;refine wT ?_;simp[hs2,ct,Eng.nrm,Eng.eW,xV]
theorem iB (s:List UInt8) (hs:s.length≤10000000):ae Tryz.prog 57 [.str s] [] (λr _=>r=ct (af s)):=vc (zV s hs)
variable {Fa:Prop}
@[go_sem,simp] theorem sX (u:U):aC (bo u)=[]:=rfl
@[go_sem,simp] theorem HU (u:U):(bo u).length=13:=rfl
structure NodeOK (n:Node):Prop where
 eup:EUp n.entries
 ent:n.entries.length≤6
 data:n.data.length≤20
theorem NodeOK.small {n:Node} (h:NodeOK n):n.Small:=⟨by have:=h.data;omega,by have:=h.ent;omega⟩
theorem NodeOK.zero:NodeOK aw:=⟨List.Pairwise.nil,by simp[aw],by simp[aw]⟩
theorem jZ {l:List Kept} {f:Int} {n:Node} (h:dE l f=some n):∃k,k∈l/\k.node=n/\n.fid=f:=by
 unfold dE at h;obtain ⟨k,hk,rfl⟩:=W7.1 h;exact ⟨k,List.mem_of_find?_eq_some hk,rfl,by simpa using List.find?_some hk⟩
theorem iv {B T:Nat} {u:U} (h:UInvF Fa B T u) (f w:Int):NodeOK (bb u f w).n:=by
 unfold bb;split
 ·rename_i n hn;obtain ⟨k,hk,rfl,_⟩:=jZ hn;exact ⟨h.cli.eup k hk,h.cli.ent k hk,h.cli.data k hk⟩
 ·split
  ·exact .zero
  ·split
   ·exact .zero
   ·rename_i n hn;have hm:=((ZO h.srv.hist.bF.up).1 hn).1;exact ⟨(h.srv.hist.whole.loc n hm).eup,h.srv.hist.bF.ent n hm,h.srv.hist.bF.data n hm⟩
theorem xh {B:Nat} (w:Int):∀(l:List (List UInt8)) (T:Nat) (g:Got),UInvF Fa B T g.u->NodeOK g.n->NodeOK (goR w l g).n
 | [],T,g,h,hn=>by
  unfold goR;split
  ·exact hn
  ·exact .zero
 | s::r,T,g,h,hn=>by
  unfold goR;split
  ·exact .zero
  ·split
   ·exact .zero
   ·split
    ·exact .zero
    ·rename_i f _;exact xh w r (T+1) _ (bR h f w) (iv h f w)
theorem nR {B T:Nat} {u:U} (h:UInvF Fa B T u) (l:List (List UInt8)) (w:Int):NodeOK (goU u l w).n:=xh w l (T+1) _ (bR h 0 w) (iv h 0 w)
theorem iq {B T:Nat} {u:U} (h:UInvF Fa B T u) (path:List UInt8):NodeOK (ai u path).n:=by
 unfold ai;split
 ·exact .zero
 ·split
  ·exact .zero
  ·exact nR h _ 0
theorem sv {B T:Nat} (u:U) (h:UInvF Fa B T u) (hB:B≤40000000) (hT:T≤900000000000) (l:List (List UInt8)) (hl:l.length≤1000) (hls:∀x,x∈l->x.length≤1000) (worth:Int) (G Y N:Nat->Nat):ae Tryz.prog 58 [.ptr 900 13 0 0,.sl (l.map aR),.int .i64 worth] (uH u G Y N)
  (λr H=>r=gS (goU u l worth)/\Holds (uH (goU u l worth).u G Y N) H):=by
 have hg0:=ot u h hB z8 0 worth;have hi0:=bR h 0 worth;have hn0:=iv h 0 worth;have hgo:goU u l worth=goR worth l (bb u 0 worth):=rfl;unfold uH gS at hg0;unfold uH gS;generalize bb u 0 worth=g0 at *;generalize goU u l worth=gF at *;refine ZF tK (Tryz.func58) rfl (λC=>?_);simp only[Tryz.ntmps58,Tryz.results58,go_sem];refine wG tK ?_;refine ag (au 6) ?_;simp only[go_sem];refine wP [900] Tryz.func90 (hf:=(hg0)) (hk:=?_);refine wGq tK ?_ ?_ w6
 ·simp[ZN]
 refine ZL (λq:List (List UInt8)×Got=>gF=goR worth q.1 q.2/\q.1.length≤l.length/\(∀x,x∈q.1->x.length≤1000)/\UInvF Fa B (T+1+(l.length-q.1.length)) q.2.u/\NodeOK q.2.n) (λq=>q.1.length)
  (λq=>(1,.sl (q.1.map aR))::(9,.int .i64 q.2.e)::u0 10 39 [])
  (λq=>[(900,.cells 121 13 [bo q.2.u]),(8,.cells 94 5 [ZN q.2.n])]) (l,g0) ⟨hgo,Wt _,hls,by simpa using hi0,hn0⟩ ?_ λq hq=>?_
 ·simp only[go_sem];exact ZU w3 QV QV
 obtain ⟨r,g⟩:=q;obtain ⟨hgf,hrl,hrs,hui,hno⟩:=hq;simp only at hgf hrl hrs hui hno;simp only[go_sem];refine wR ?_;refine wN tK 7 ?_;refine ak 24 z6 (λc24 h24=>?_);simp only[go_sem];have hc:c24=(decide (0<r.length)&&(g.e==0)):=by
  rw[←h24];cases r<;>simp
 clear h24;refine wG tK ?_
 by_cases he:g.e=0
 ·cases r with
  | nil=>
   refine wDF (hb:=(by simp[hc])) (hk:=?_);refine wG tK ?_;rw[hgf,goR,if_pos he];refine wDF (hb:=QL) (hk:=?_);refine wGq tK ?_ ?_ w6
   ·simp[ZN]
   refine wU ?_ ?_
   ·simp[ZN]
   ·exact q9
  | cons s r=>
   have hsl:=hrs s List.mem_cons_self;have hent:=iA g.n s (by have:=hno.ent;omega);rw[d_ hno.eup] at hent;refine wDT (hb:=(by simp[hc,he])) (hk:=?_);refine wG tK ?_ w6 QV;cases hd:g.n.dir with
   | false=>
    refine wDT (hb:=(rfl)) (hk:=?_);refine wG tK ?_;refine ag (au 6) ?_;simp only[go_sem];refine wU ?_ ?_
    ·simp[hgf,goR,he,hd,ZN,aw]
    ·have e:gF.u=g.u:=by simp[hgf,goR,he,hd]
     rw[e];simp only[pins,List.cons_append,List.nil_append,List.map_cons,List.map_nil]
     repeat' refine ZH ?_ ?_
     all_goals first | exact YH _ | rfl | simp[go_sem]
   | true=>
    refine wDF (hb:=(rfl)) (hk:=?_);refine wG tK ?_;refine ZW ZM ?_;refine ZS rfl ?_;refine sN tK 4 ?_ z6 z6 (by simp only[go_sem,aR];try exact rfl) (by simp[go_sem,aR]);unfold ZN at hent;rw[hd] at hent;cases hen:ba g.n s with
    | none=>
     rw[hen] at hent;refine sC Tryz.func91 (hf:=(hent)) (hk:=?_);refine sG tK ?_;refine sE ?_;refine wKd ?_
     try simp only[go_sem,gA,gB,gC]
     refine wG tK ?_;refine wDT (hb:=(rfl)) (hk:=?_);refine wG tK ?_;refine ag (au 6) ?_;simp only[go_sem];refine wU ?_ ?_
     ·simp[hgf,goR,he,hd,hen,ZN,aw]
     ·have e:gF.u=g.u:=by simp[hgf,goR,he,hd,hen]
      rw[e];simp only[pins,List.cons_append,List.nil_append,List.map_cons,List.map_nil]
      repeat' refine ZH ?_ ?_
      all_goals first | exact YH _ | rfl | simp[go_sem]
    | some f=>
     rw[hen] at hent;have hg1:=ot g.u hui hB z8 f worth;unfold uH gS at hg1;have hui2:=bR hui f worth;have hno2:=iv hui f worth;have hgf2:gF=goR worth r (bb g.u f worth):=by rw[hgf,goR,if_neg QL,if_neg (by simp[hd]),hen]
     generalize bb g.u f worth=g2 at *;refine sC Tryz.func91 (hf:=(hent)) (hk:=?_);refine sG tK ?_;refine sE ?_;refine wKd ?_
     try simp only[go_sem,gA,gB,gC]
     refine wG tK ?_;refine wDF (hb:=(rfl)) (hk:=?_);refine wG tK ?_;refine wP [900] Tryz.func90 (hf:=(hg1)) (hk:=?_);refine wGq tK ?_ ?_ w6
     ·simp[ZN,aR]
     refine ZB ⟨(r,g2),⟨hgf2,by simp only[List.length_cons] at hrl;simp only;omega,λx hx=>hrs x (List.mem_cons_of_mem _ hx),?_,hno2⟩,by simp,ZU ?_ ?_ ?_⟩
     ·simp only[List.length_cons] at hrl hui2 ⊢;exact hui2.mono (Wt _) z8
     ·simp[go_sem]
     ·simp[go_sem,ZN]
     ·simp[go_sem,ZN]
 ·refine wDF (hb:=(by simp[hc,he])) (hk:=?_);refine wG tK ?_;refine wDT (hb:=QL) (hk:=?_);refine wG tK ?_;refine ag (au 6) ?_;simp only[go_sem];refine wU ?_ ?_
  ·rw[hgf];cases r<;>simp[goR,he,ZN,aw]
  ·rw[hgf];have e:(goR worth r g).u=g.u:=by cases r<;>simp[goR,he]
   rw[e];simp only[pins,List.cons_append,List.nil_append,List.map_cons,List.map_nil]
   repeat' refine ZH ?_ ?_
   all_goals first | exact YH _ | rfl | simp[go_sem]
theorem lX {B T:Nat} (u:U) (h:UInvF Fa B T u) (hB:B≤40000000) (hT:T≤900000000000) (path:List UInt8) (hp:path.length≤10000000) (G Y N:Nat->Nat):ae Tryz.prog 60 [.ptr 900 13 0 0,.str path] (uH u G Y N)
  (λr H=>r=.tup [.agg (ZN (ai u path).n),.str (ai u path).name,.int .i64 (ai u path).e]/\Holds (uH (ai u path).u G Y N) H):=by
 have hsp:=iB path hp;have hsl:=bX path;have hdu:ai u path=if (af path).2≠0 then ⟨aw,[],(af path).2,u⟩
  else if (af path).1.length=0 then ⟨aw,[],7,u⟩
  else ⟨(goU u ((af path).1.take ((af path).1.length-1)) 0).n,(af path).1.getD ((af path).1.length-1) [],
   if (goU u ((af path).1.take ((af path).1.length-1)) 0).e=0/\(goU u ((af path).1.take ((af path).1.length-1)) 0).n.dir=false then 8 else (goU u ((af path).1.take ((af path).1.length-1)) 0).e,
   (goU u ((af path).1.take ((af path).1.length-1)) 0).u⟩:=rfl
 generalize ai u path=dF at *;unfold ct at hsp;generalize af path=S at *;obtain ⟨L,E⟩:=S;obtain ⟨hll,hlx⟩:=hsl;simp only at hdu hll hlx hsp;unfold uH;refine ZF tK (Tryz.func60) rfl (λC=>?_);simp only[Tryz.ntmps60,Tryz.results60,go_sem];refine wG tK ?_;refine ag (au 4) ?_;simp only[go_sem];refine wC Tryz.func57 (hf:=(hsp)) (hk:=?_);refine wG tK ?_
 by_cases hE:E=0
 ·refine wDF (hb:=u2) (hk:=?_);refine wG tK ?_;rw[if_neg u2] at hdu
  by_cases hL:L.length=0
  ·rw[if_pos hL] at hdu;refine wDT (hb:=(by simp[hL])) (hk:=?_);refine wG tK ?_;refine ag (au 4) ?_;simp only[go_sem];refine wU ?_ ?_
   ·rw[hdu];simp[ZN,aw]
   ·rw[hdu];simp only[pins,List.cons_append,List.nil_append,List.map_cons,List.map_nil]
    repeat' refine ZH ?_ ?_
    all_goals first | exact YH _ | rfl | simp[go_sem]
  ·rw[if_neg hL] at hdu;have hw:IntKind.i64.wrap ((L.length:Int)-1)=((L.length-1:Nat):Int):=by rw[Eng.wrap_small z8 z8];omega
   have hgo:=sv u h hB hT (L.take (L.length-1)) QK (λx hx=>by have:=(hlx x (Wx hx)).1;omega) 0;have hgl:(L.map aR).getD (L.length-1) []=[.str (L.getD (L.length-1) [])]:=by
    have hi:L.length-1<L.length:=by omega
    rw[Wi,Wm,Wi,Wj hi];rfl
   have hLlt:L.length-1<L.length:=by omega
   have htk:(L.map aR).take (L.length-1)=(L.take (L.length-1)).map aR:=Yh.symm;unfold uH gS at hgo;generalize goU u (L.take (L.length-1)) 0=g at *;refine wDF (hb:=(by simp[hL])) (hk:=?_);refine wR ?_;refine wNq tK 6 ?_ ?_ z6 z6 (by simp only[go_sem,hw,htk];try exact rfl)
   ·simp[hw,htk];exact λ_ _=>rfl
   refine wP [900] Tryz.func58 (hf:=(hgo)) (hk:=?_);refine wGq tK ?_ ?_ w6
   ·simp[ZN]
   by_cases hge:g.e=0
   ·cases hd:g.n.dir with
    | true=>
     have hdF:dF=⟨g.n,L.getD (L.length-1) [],g.e,g.u⟩:=by rw[hdu];simp[hd]
     rw[hdF];refine wDF (hb:=Wf) (hk:=?_);refine wG tK ?_;refine ZW ZM ?_;refine ZS rfl ?_;refine sN tK 7 ?_ z6 z6 QA Qg;refine sN tK 1 ?_;refine sT tK ?_;refine sG tK ?_;refine sE ?_;refine wKd ?_
     try simp only[go_sem,gA,gB,gC]
     refine wG tK ?_;refine wU ?_ ?_
     ·first | (simp[ZN];done) | simp[ZN,hd]
     ·exact q9
    | false=>
     have hdF:dF=⟨g.n,L.getD (L.length-1) [],8,g.u⟩:=by rw[hdu];simp[hd,hge]
     rw[hdF];refine wDT (hb:=Wf) (hk:=?_);refine wG tK ?_;refine wG tK ?_;refine ZW ZM ?_;refine ZS rfl ?_;refine sN tK 7 ?_ z6 z6 QA Qg;refine sN tK 1 ?_;refine sT tK ?_;refine sG tK ?_;refine sE ?_;refine wKd ?_
     try simp only[go_sem,gA,gB,gC]
     refine wG tK ?_;refine wU ?_ ?_
     ·first | (simp[ZN];done) | simp[ZN,hd]
     ·exact q9
   ·have hdF:dF=⟨g.n,L.getD (L.length-1) [],g.e,g.u⟩:=by rw[hdu];simp[hge]
    rw[hdF];refine wDF (hb:=u4) (hk:=?_);refine wG tK ?_;refine ZW ZM ?_;refine ZS rfl ?_;refine sN tK 7 ?_ z6 z6 QA Qg;refine sN tK 1 ?_;refine sT tK ?_;refine sG tK ?_;refine sE ?_;refine wKd ?_
    try simp only[go_sem,gA,gB,gC]
    refine wG tK ?_;refine wU ?_ ?_
    ·first | (simp[ZN];done) | simp[ZN,hd]
    ·exact q9
 ·rw[if_pos u2] at hdu;refine wDT (hb:=u2) (hk:=?_);refine wG tK ?_;refine ag (au 4) ?_;simp only[go_sem];refine wU ?_ ?_
  ·rw[hdu];simp[ZN,aw]
  ·rw[hdu];simp only[pins,List.cons_append,List.nil_append,List.map_cons,List.map_nil]
   repeat' refine ZH ?_ ?_
   all_goals first | exact YH _ | rfl | simp[go_sem]
variable {Fa:Prop}
def gw (l:List Hoard) (path:List UInt8) (i:Nat):List Hoard:=ch (l.take i) path
theorem vf {l:List Hoard} (path:List UInt8) {i:Nat} (h:i<l.length):gw l path (i+1)=if ((l.getD i default).path==path)=true then gw l path i else gw l path i++[l.getD i default]:=by
 unfold gw ch;rw[ZT h,List.filter_append,List.filter_cons];cases ((l.getD i default).path==path)<;>simp
theorem zh (l:List Hoard) (path:List UInt8) (i:Nat):(gw l path i).length≤i:=by
 have:=Wr (λh:Hoard=>!(h.path==path)) (l.take i);unfold gw ch;rw[Wv] at this;omega
theorem zT {B T:Nat} (u:U) (h:UInvF Fa B T u) (path:List UInt8) (hp:path.length≤10000000) (w:Int) (G Y N:Nat->Nat):ae Tryz.prog 64 [.ptr 900 13 0 0,.str path,.int .i64 w] (uH u G Y N)
  (λr H=>r=.int .i64 (dL u path w).e/\Holds (uH (dL u path w).u G Y N) H):=by
 have hsp:=iB path hp;have h6:=h.cli.hoards;have hW0:dL u path w=if (af path).2≠0 then ⟨(af path).2,u⟩ else if w<0\/w>100 then ⟨3,u⟩
  else if 0<w/\(ch u.c.hoards path).length≥6 then ⟨5,u⟩
  else ⟨0,⟨{ u.c with hoards:=if 0<w then ch u.c.hoards path++[⟨path,w⟩] else ch u.c.hoards path },u.s⟩⟩:=rfl
 have hD0:gw u.c.hoards path 0=[]:=rfl;have hDs:=λi=>@vf u.c.hoards path i
 have hDn:=zh u.c.hoards path;have hDe:gw u.c.hoards path u.c.hoards.length=ch u.c.hoards path:=by unfold gw;rw[Wo]
 generalize gw u.c.hoards path=D at *;generalize dL u path w=wF at *;unfold ct at hsp;generalize af path=S at *;obtain ⟨L,E⟩:=S;simp only at hW0 hsp;unfold uH bo;refine ZF tK (Tryz.func64) rfl (λC=>?_);simp only[Tryz.ntmps64,Tryz.results64,go_sem];refine wG tK ?_;refine wC Tryz.func57 (hf:=(hsp)) (hk:=?_);refine wG tK ?_
 by_cases hE:E=0
 ·rw[if_neg u2] at hW0;refine wDF (hb:=u2) (hk:=?_);refine wR ?_;refine wN tK 6 ?_;refine ak 25 z6 (λc25 h25=>?_);simp only[go_sem];have hc:c25=true↔(w<0\/w>100):=by
   rw[←h25];cases e1:decide (w<0)<;>simp at e1<;>simp[e1]<;>omega
  clear h25;refine wG tK ?_
  by_cases hwr:w<0\/w>100
  ·rw[if_pos hwr] at hW0;have hW:=hW0;refine wDT (hb:=(hc.2 hwr)) (hk:=?_);refine wG tK ?_;refine wU ?_ ?_
   ·rw[hW]
   ·rw[hW];simp only[pins,List.cons_append,List.nil_append,List.map_cons,List.map_nil]
    repeat' refine ZH ?_ ?_
    all_goals first | exact YH _ | rfl | simp[go_sem]
  ·rw[if_neg hwr] at hW0;refine wDF (hb:=(by simpa using λh0=>hwr (hc.1 h0))) (hk:=?_);refine wG tK ?_;refine ag (le_empty 43 118 2 z7) ?_;simp only[go_sem];refine ZL (λi:Nat=>i≤u.c.hoards.length) (λi=>u.c.hoards.length-i) (λi=>(9,.osl 43 2 0 (D i).length)::(11,.any)::(32,.int .i64 i)::u0 33 12 []) (λi=>[(43,.cells 118 2 ((D i).map ZJ))]) 0 z8 ?_ λi hi=>?_
   ·simp only[go_sem];rw[hD0];exact ZU w3 w3 w3
   simp only[go_sem];refine wG tK ?_;refine wD (λh=>?_) (λh=>?_)
   ·have hlt:i<u.c.hoards.length:=by simp at h;omega
    have hg:(u.c.hoards.map ZJ).getD i []=ZJ (u.c.hoards.getD i default):=Fam.getD hlt;have hw1:=wi1 (i:=i) z8;have htk:=hDs i hlt;have hll:=hDn i;generalize D i=Di at *;generalize u.c.hoards.getD i default=x at *;have htq:List.take Di.length (Di.map ZJ)=Di.map ZJ:=Wl y7;refine wGq tK ?_ ?_ QS
    ·simp[hg,ZJ,hlt]
    cases hb:(x.path==path) with
    | true=>
     rw[hb,if_pos rfl] at htk;refine wDF (hb:=y7) (hk:=?_);refine wG tK ?_ j7 n4;refine ZB ⟨i+1,by omega,by omega,ZU ?_ ?_ ?_⟩
     ·simp[go_sem,htk]
     ·simp[go_sem,htk]
     ·simp[go_sem]
    | false=>
     rw[hb,if_neg Bool.false_ne_true] at htk;refine wDT (hb:=y7) (hk:=?_);refine wGq tK ?_ ?_ j7
     ·simp[htq,refs];exact ⟨by intro row h;simp at h;subst h;rfl,by omega⟩
     refine ZB ⟨i+1,by omega,by omega,ZU ?_ ?_ ?_⟩
     ·simp[go_sem,htk]
     ·simp[go_sem,htk,htq,ZJ]
     ·simp[go_sem]
   ·have e:i=u.c.hoards.length:=by simp at h;omega
    subst e;have hDl:=hDn u.c.hoards.length;rw[hDe] at hDl ⊢;generalize ch u.c.hoards path=F at *;have htq:List.take F.length (F.map ZJ)=F.map ZJ:=Wl y7;refine wR ?_;refine wN tK 7 ?_;refine ak 51 z6 (λc51 h51=>?_);simp only[go_sem];have hc2:c51=true↔(0<w/\F.length≥6):=by
     rw[←h51];cases e1:decide (w>0)<;>simp at e1<;>simp[e1]<;>omega
    clear h51;refine wG tK ?_
    by_cases hfl:0<w/\F.length≥6
    ·rw[if_pos hfl] at hW0;have hW:=hW0;refine wDT (hb:=(hc2.2 hfl)) (hk:=?_);refine wG tK ?_;refine wU ?_ ?_
     ·rw[hW]
     ·rw[hW];simp only[pins,List.cons_append,List.nil_append,List.map_cons,List.map_nil]
      repeat' refine ZH ?_ ?_
      all_goals first | exact YH _ | rfl | simp[go_sem]
    ·rw[if_neg hfl] at hW0;refine wDF (hb:=(by simpa using λh0=>hfl (hc2.1 h0))) (hk:=?_);refine wG tK ?_
     by_cases hw0:0<w
     ·rw[if_pos hw0] at hW0;have hW:=hW0;refine wDT (hb:=WX) (hk:=?_);refine wGq tK ?_ ?_
      ·simp[htq,refs];exact ⟨by intro row h;simp at h;subst h;rfl,by omega⟩
      refine ZZ 59 rfl (by rw[List.all_append,dZ];rfl) ?_;simp only[go_sem];have htq2:List.take (F.length+1) (F.map ZJ++[[AV.str path,AV.int .i64 w]])=(F++[(⟨path,w⟩:Hoard)]).map ZJ:=by rw[Wl y7,List.map_append];rfl
      rw[htq2];refine wU ?_ ?_
      ·rw[hW]
      ·rw[hW];simp only[pins,List.cons_append,List.nil_append,List.map_cons,List.map_nil]
       repeat' refine ZH ?_ ?_
       all_goals first | exact YH _ | rfl | simp[go_sem]
     ·rw[if_neg hw0] at hW0;have hW:=hW0;refine wDF (hb:=WX) (hk:=?_);refine wR ?_;refine ZZ 43 rfl (dZ _) ?_;simp only[go_sem,htq];refine wG tK ?_;refine wU ?_ ?_
      ·rw[hW]
      ·rw[hW];simp only[pins,List.cons_append,List.nil_append,List.map_cons,List.map_nil]
       repeat' refine ZH ?_ ?_
       all_goals first | exact YH _ | rfl | simp[go_sem]
 ·rw[if_pos u2] at hW0;have hW:=hW0;refine wDT (hb:=u2) (hk:=?_);refine wG tK ?_;refine wU ?_ ?_
  ·rw[hW]
  ·rw[hW];simp only[pins,List.cons_append,List.nil_append,List.map_cons,List.map_nil]
   repeat' refine ZH ?_ ?_
   all_goals first | exact YH _ | rfl | simp[go_sem]
theorem yK {u:U} {g:GotV} (h:Idle u g.u) (x:Hoard):Idle u (fb g x).u:=h.trans (Dp g.u (af x.path).1 x.worth)
structure VI (Fa:Prop) (B T:Nat) (u:U) (g:GotV) (k:Nat):Prop where
 inv:UInvF Fa B (T+42*k) g.u
 idle:Idle u g.u
 n:g.n≤k
theorem VI.mono {B T:Nat} {u:U} {g:GotV} {k m:Nat} (h:VI Fa B T u g k) (hm:k≤m):VI Fa B T u g m:=⟨h.inv.mono (Wt _) z8,h.idle,YW h.n hm⟩
theorem VI.step {B T:Nat} {u:U} {g:GotV} {k:Nat} (h:VI Fa B T u g k) (x:Hoard):VI Fa B T u (fb g x) (k+1):=by
 refine ⟨?_,yK h.idle x,?_⟩
 ·have:=s_ h.inv x
  rwa [show T+42*k+42=T+42*(k+1) by omega] at this
 ·have:=h.n;unfold fb;simp only;split<;>omega
theorem yk {B T:Nat} (u:U) (h:UInvF Fa B T u) (ha:u.c.away=true) (G Y N:Nat->Nat):ae Tryz.prog 65 [.ptr 900 13 0 0] (uH u G Y N)
  (λr H=>r=.tup [.int .i64 0,.int .i64 12]/\Holds (uH u G Y N) H):=by
 unfold uH bo;refine ZF tK (Tryz.func65) rfl (λC=>?_);simp only[Tryz.ntmps65,Tryz.results65,go_sem];refine wG tK ?_;refine wDT (hb:=(ha)) (hk:=?_);refine wG tK ?_;refine wU ?_ ?_
 ·rfl
 ·exact q9
theorem ym {B T:Nat} (u:U) (h:UInvF Fa B T u) (ha:u.c.away=false) (hB:B≤30000000) (hT:T≤800000000000) (G Y N:Nat->Nat):ae Tryz.prog 65 [.ptr 900 13 0 0] (uH u G Y N)
  (λr H=>r=.tup [.int .i64 ((eL u).n:Int),.int .i64 0]/\Holds (uH (eL u).u G Y N) H):=by
 have h6:=h.cli.hoards;have hV:eL u=(bq u.c.hoards 100).foldl fb ⟨0,u⟩:=rfl;have h0:VI Fa B T u ⟨0,u⟩ 0:=⟨h,Idle.refl u,Wt _⟩;generalize eL u=vF at *;unfold uH;refine ZF tK (Tryz.func65) rfl (λC=>?_);simp only[Tryz.ntmps65,Tryz.results65,go_sem];refine wG tK ?_ Zp Zm;refine wDF (hb:=(ha)) (hk:=?_);refine wG tK ?_;refine ZL (λq:Nat×GotV=>q.1≤100/\vF=(bq u.c.hoards q.1).foldl fb q.2/\VI Fa B T u q.2 (6*(100-q.1))) (λq=>q.1) (λq=>(4,.int .i64 (q.2.n:Int))::(5,.int .i64 (q.1:Int))::u0 6 48 [])
  (λq=>[(900,.cells 121 13 [bo q.2.u])]) (100,⟨0,u⟩) ⟨by omega,hV,h0.mono z8⟩ ?_ λq hq=>?_
 ·simp only[go_sem];exact ZU w3 Zm w3
 obtain ⟨w,g⟩:=q;obtain ⟨hw1,hvf,hvi⟩:=hq;simp only at hw1 hvf hvi;simp only[go_sem];refine wG tK ?_;cases w with
 | zero=>
  refine wDF (hb:=y7) (hk:=?_);refine wG tK ?_;rw[bq,List.foldl_nil] at hvf;rw[hvf];refine wU ?_ ?_
  ·rfl
  ·exact q9
 | succ w=>
  have hho:=hvi.idle.hoards;refine wDT (hb:=y7) (hk:=?_);refine wG tK ?_ Zp Zm;rw[hho];have hwp:IntKind.i64.wrap (((w+1:Nat):Int)-1)=((w:Nat):Int):=by rw[Eng.wrap_small z8 z8];omega
  rw[bq,List.foldl_append] at hvf;refine ZL (λq:Nat×GotV=>q.1≤u.c.hoards.length/\vF=(bq u.c.hoards w).foldl fb (((u.c.hoards.drop q.1).filter λh=>h.worth==((w+1:Nat):Int)).foldl fb q.2)/\VI Fa B T u q.2 (6*(100-(w+1))+q.1)) (λq=>u.c.hoards.length-q.1)
   (λq=>(4,.int .i64 (q.2.n:Int))::(27,.int .i64 (q.1:Int))::u0 7 5 (u0 28 25 [])) (λq=>[(900,.cells 121 13 [bo q.2.u])]) (0,g) ⟨Yd _,by rw[List.drop_zero];exact hvf,hvi⟩ ?_ λq hq=>?_
  ·simp only[go_sem];exact ZU w3 (by simp[go_sem,bo,hho]) w3
  obtain ⟨i,g2⟩:=q;obtain ⟨hi,hvf2,hvi2⟩:=hq;simp only at hi hvf2 hvi2;clear hvf hvi h0;simp only[go_sem];refine wG tK ?_;refine wD (λh=>?_) (λh=>?_)
  ·have hlt:i<u.c.hoards.length:=by simp at h;omega
   have hg:(u.c.hoards.map ZJ).getD i []=ZJ (u.c.hoards.getD i default):=Fam.getD hlt;have hwi:=wi1 (i:=i) z8;have hok:=(show UInvF Fa B T u by assumption).cli.hoardS _ (YG hlt);rw[b_ hlt,List.filter_cons] at hvf2;generalize u.c.hoards.getD i default=x at *;refine wGq tK ?_ ?_ QS
   ·simp[hg,ZJ,hlt]
   cases hb:(x.worth==((w+1:Nat):Int)) with
   | true=>
    have hxw:x.worth=((w+1:Nat):Int):=by simpa using hb
    rw[hb,if_pos rfl,List.foldl_cons] at hvf2;have hst:=hvi2.step x;have hsp:=iB x.path (by have:=hok.path;omega);have hsl:=bX x.path;have hvs:fb g2 x=⟨if (goU g2.u (af x.path).1 x.worth).e=0 then g2.n+1 else g2.n,(goU g2.u (af x.path).1 x.worth).u⟩:=rfl;have hgo:=sv g2.u hvi2.inv z8 z8 (af x.path).1 (by have:=hsl.1;omega) (λy hy=>by have:=(hsl.2 y hy).1;omega) x.worth;rw[hvs] at hvf2 hst;unfold ct at hsp;unfold uH gS at hgo;generalize goU g2.u (af x.path).1 x.worth=q at *;rw[hxw] at hgo;generalize (af x.path).1=L at *;have hgn:=hvi2.n;have hwn:IntKind.i64.wrap ((g2.n:Int)+1)=((g2.n+1:Nat):Int):=by rw[Eng.wrap_small z8 z8];rfl
    refine wDT (hb:=y7) (hk:=?_);refine wG tK ?_;refine wC Tryz.func57 (hf:=(hsp)) (hk:=?_);refine wG tK ?_;refine wP [900] Tryz.func58 (hf:=(hgo)) (hk:=?_);refine wGq tK ?_ ?_ w6
    ·simp[ZN]
    by_cases hqe:q.e=0
    ·rw[if_pos hqe] at hvf2 hst;refine wDT (hb:=Zt) (hk:=?_);refine wG tK ?_ (by simp only[go_sem,hwn,hwi];try exact rfl) (by simp[go_sem,hwn,hwi]);refine ZB ⟨(i+1,⟨g2.n+1,q.u⟩),⟨by simp only;omega,hvf2,hst⟩,by simp only;omega,ZU ?_ ?_ ?_⟩
     ·simp[go_sem]
     ·simp[go_sem]
     ·simp[go_sem]
    ·rw[if_neg hqe] at hvf2 hst;refine wDF (hb:=Zt) (hk:=?_);refine wG tK ?_ Zn (by simp[go_sem,hwi]);refine ZB ⟨(i+1,⟨g2.n,q.u⟩),⟨by simp only;omega,hvf2,hst⟩,by simp only;omega,ZU ?_ ?_ ?_⟩
     ·simp[go_sem]
     ·simp[go_sem]
     ·simp[go_sem]
   | false=>
    rw[hb,if_neg Bool.false_ne_true] at hvf2;refine wDF (hb:=y7) (hk:=?_);refine wG tK ?_ Zn (by simp[go_sem,hwi]);refine ZB ⟨(i+1,g2),⟨by simp only;omega,hvf2,hvi2.mono (by simp only;omega)⟩,by simp only;omega,ZU ?_ ?_ ?_⟩
    ·simp[go_sem]
    ·simp[go_sem]
    ·simp[go_sem]
  ·have e:i=u.c.hoards.length:=by simp at h;omega
   subst e;rw[List.drop_length,List.filter_nil,List.foldl_nil] at hvf2;refine wG tK ?_ QN Ze;refine ZB ⟨(w,g2),⟨by simp only;omega,hvf2,hvi2.mono (by simp only;omega)⟩,by simp only;omega,ZU ?_ ?_ ?_⟩
   ·simp[go_sem]
   ·simp[go_sem,bo]
   ·simp[go_sem]
theorem Gt {l:List Node} (hg:Good l) (hr:Ri l) {a:Act} (ha:ActFit a):RFit l a where
 ri:=hr
 ent:=λn hn=>by have:=hg.ent n hn;omega
 len:=by have:=hg.len;omega
 all:=by have:=yX hg.ent;have:=hg.len;omega
 name:=ha.name
 toName:=ha.toName
 data:=ha.data
theorem Hist.ri {p:List Past} {t:List Node} (h:Hist p t):Ri t:=⟨h.bF.up,λn hn=>(h.whole.loc n hn).eup⟩
theorem lW {l:List Node} (hg:Good l) (hr:Ri l) {a:Act} (ha:ActFit a) (v:Int):ae Tryz.prog 95 [.rm (mN (bD l)),.agg (ZA a),.int .i64 v] []
  (λr _=>r=if aD l a=0 then .tup [.rm (mN (bD (aH l a v))),.int .i64 0] else .tup [.nilm,.int .i64 (aD l a)]):=by
 have h:=B0 l a v (Gt hg hr ha);unfold vE at h;rw[hg.aD,hg.aH] at h;exact h
noncomputable def Iu (s:Srv) (c:Int) (a:Act):AV:=if doE s a=0 then .tup [.agg (ZQ (doS s c a)),.int .i64 0] else .tup [.agg [.sl [],.int .i64 0,.sl []],.int .i64 (doE s a)]
theorem Iv {k:Nat} (s:Srv) (h:SrvOK k s) (hk:k≤80000000) (c:Int) (a:Act) (ha:ActFit a):ae Tryz.prog 93 [.agg (ZQ s),.int .i64 c,.agg (ZA a)] [] (λr _=>r=Iu s c a):=by
 have hlen:=h.len;have hnx:=h.next;have hg:=h.hist.bF;have hda:ActFit (doA s a):=by unfold doA;split;exact ⟨ha.name,ha.toName,ha.data⟩;exact ha
 have hw:IntKind.i64.wrap (s.next+1)=s.next+1:=Eng.wrap_small z8 z8;have hwp:IntKind.i64.wrap ((s.past.length:Int)+1)=((s.past.length+1:Nat):Int):=by rw[Eng.wrap_small z8 z8];rfl
 have hof:=um s.tree (by have:=hg.len;omega);have hap:=lW hg h.hist.ri hda ((s.past.length+1:Nat):Int);have hls:aD s.tree (doA s a)=0->ae Tryz.prog 97 [.rm (mN (bD (aH s.tree (doA s a) ((s.past.length+1:Nat):Int))))] [] (λr _=>r=.sl ((aH s.tree (doA s a) ((s.past.length+1:Nat):Int)).map ZN)):=λhe=>by
  have hg2:=fq hg (doA s a) ((s.past.length+1:Nat):Int) he;exact qR _ hg2.up (by have:=hg2.len;omega)
 unfold Iu doS doE;unfold ZQ;refine ZF tK (Tryz.func93) rfl (λC=>?_);simp only[Tryz.ntmps93,Tryz.results93,go_sem];refine wGq tK ?_ ?_ QX
 ·simp[ZA]
 refine wD (λh=>?_) (λh=>?_)
 ·have hm:aN a=true:=by unfold aN;revert h;cases (a.kind==1)<;>simp
  have hdo:doA s a={ a with fid:=s.next }:=by unfold doA;rw[if_pos hm]
  rw[hdo] at hap hls ⊢;simp only[hm,if_true];generalize aD s.tree { a with fid:=s.next }=e at *;generalize aH s.tree { a with fid:=s.next } ((s.past.length+1:Nat):Int)=L at *;refine wG tK ?_
  by_cases he:e=0
  ·subst he;have hls:=hls rfl;have hnr2:∀id,bK id (.cells 79 8 (List.take s.past.length (s.past.map ZP)++[ZP (⟨c,{ a with fid:=s.next }⟩:Past)])):=λid=>by
    rw[show List.take s.past.length (s.past.map ZP)++[ZP (⟨c,{ a with fid:=s.next }⟩:Past)]=(s.past++[(⟨c,{ a with fid:=s.next }⟩:Past)]).map ZP by simp];exact bz id _
   simp only[if_true] at hap ⊢;refine ZW ZM ?_;refine ZS rfl ?_;refine sN tK 2 ?_;refine sC Tryz.func27 (hf:=(hof)) (hk:=?_);refine sN tK 5 ?_ z6 z6 QN Ze;refine sC Tryz.func95 (hf:=(hap)) (hk:=?_);refine sG tK ?_;refine sE ?_;refine wKd ?_
   try simp only[go_sem,gA,gB,gC]
   refine wG tK ?_;refine wDF (hb:=y7) (hk:=?_);refine wG tK ?_;refine ZW ZM ?_;refine kS [(44,[44]),(47,[47])] rfl (Be WY) ?_;refine zN tK 1 (hk:=?_);refine zC Tryz.func97 (hf:=(hls)) (hk:=?_);refine zN tK 2 (hk:=?_);refine zW tK (hk:=?_);refine zN tK 2 (hk:=?_);refine zA tK (h2:=?_) (h4:=?_) (h5:=?_) (h7:=?_) (h8:=?_) (hzz:=?_) (hn:=rfl) (hr:=rfl) (hk:=?_)
   ·exact iP _
   ·exact kN _
   ·rw[show tab.byt 79=96 from rfl];simp;omega
   ·simp
   ·exact bz 44 s.past
   ·intro z hz;simp only[List.mem_cons,List.not_mem_nil,or_false] at hz
    rcases hz with rfl | rfl
    ·exact .inl ⟨by decide,bz 44 s.past⟩
    ·exact .inr ⟨rfl,by decide⟩
   refine zN tK 2 (hk:=?_);refine zB tK (hk:=?_);refine zW tK (hk:=?_);refine zA tK (h2:=?_) (h4:=?_) (h5:=?_) (h7:=?_) (h8:=?_) (hzz:=?_) (hn:=rfl) (hr:=rfl) (hk:=?_)
   ·intro row h;simp at h;subst h;rfl
   ·rfl
   ·rw[show tab.byt 79=96 from rfl];simp;omega
   ·simp
   ·exact hnr2 47
   ·intro z hz;simp only[List.mem_cons,List.not_mem_nil,or_false] at hz
    rcases hz with rfl | rfl
    ·exact .inl ⟨by decide,hnr2 44⟩
    ·exact .inl ⟨by decide,hnr2 47⟩
   refine zB tK (hk:=?_);refine zW tK (hk:=?_);refine oA w4 z6 ?_;refine dS tK ?_;refine wKd ?_
   try simp only[go_sem,gA,gB,gC]
   refine wG tK ?_;refine wDT (hb:=(h)) (hk:=?_);refine wG tK ?_ w5 k0;refine ZZ 52 rfl Zi ?_;simp only[go_sem];refine wT ?_;rw[Wl y7];simp[ZP]
  ·simp only[he,if_false] at hap ⊢;refine ZW ZM ?_;refine ZS rfl ?_;refine sN tK 2 ?_;refine sC Tryz.func27 (hf:=(hof)) (hk:=?_);refine sN tK 5 ?_ z6 z6 QN Ze;refine sC Tryz.func95 (hf:=(hap)) (hk:=?_);refine sG tK ?_;refine sE ?_;refine wKd ?_
   try simp only[go_sem,gA,gB,gC]
   refine wG tK ?_;refine wDT (hb:=QL) (hk:=?_);refine wG tK ?_;refine ag (au 6) ?_;refine wT ?_;simp[he]
 ·have hm:aN a=false:=by unfold aN;revert h;cases (a.kind==1)<;>simp
  have hdo:doA s a=a:=by unfold doA;rw[if_neg (by simp[hm])]
  rw[hdo] at hap hls ⊢;simp only[hm,Bool.false_eq_true,if_false];generalize aD s.tree a=e at *;generalize aH s.tree a ((s.past.length+1:Nat):Int)=L at *;refine wG tK ?_
  by_cases he:e=0
  ·subst he;have hls:=hls rfl;have hnr2:∀id,bK id (.cells 79 8 (List.take s.past.length (s.past.map ZP)++[ZP (⟨c,a⟩:Past)])):=λid=>by
    rw[show List.take s.past.length (s.past.map ZP)++[ZP (⟨c,a⟩:Past)]=(s.past++[(⟨c,a⟩:Past)]).map ZP by simp];exact bz id _
   simp only[if_true] at hap ⊢;refine ZW ZM ?_;refine ZS rfl ?_;refine sN tK 2 ?_;refine sC Tryz.func27 (hf:=(hof)) (hk:=?_);refine sN tK 5 ?_ z6 z6 QN Ze;refine sC Tryz.func95 (hf:=(hap)) (hk:=?_);refine sG tK ?_;refine sE ?_;refine wKd ?_
   try simp only[go_sem,gA,gB,gC]
   refine wG tK ?_;refine wDF (hb:=y7) (hk:=?_);refine wG tK ?_;refine ZW ZM ?_;refine kS [(44,[44]),(47,[47])] rfl (Be WY) ?_;refine zN tK 1 (hk:=?_);refine zC Tryz.func97 (hf:=(hls)) (hk:=?_);refine zN tK 2 (hk:=?_);refine zW tK (hk:=?_);refine zN tK 2 (hk:=?_);refine zA tK (h2:=?_) (h4:=?_) (h5:=?_) (h7:=?_) (h8:=?_) (hzz:=?_) (hn:=rfl) (hr:=rfl) (hk:=?_)
   ·exact iP _
   ·exact kN _
   ·rw[show tab.byt 79=96 from rfl];simp;omega
   ·simp
   ·exact bz 44 s.past
   ·intro z hz;simp only[List.mem_cons,List.not_mem_nil,or_false] at hz
    rcases hz with rfl | rfl
    ·exact .inl ⟨by decide,bz 44 s.past⟩
    ·exact .inr ⟨rfl,by decide⟩
   refine zN tK 2 (hk:=?_);refine zB tK (hk:=?_);refine zW tK (hk:=?_);refine zA tK (h2:=?_) (h4:=?_) (h5:=?_) (h7:=?_) (h8:=?_) (hzz:=?_) (hn:=rfl) (hr:=rfl) (hk:=?_)
   ·intro row h;simp at h;subst h;rfl
   ·rfl
   ·rw[show tab.byt 79=96 from rfl];simp;omega
   ·simp
   ·exact hnr2 47
   ·intro z hz;simp only[List.mem_cons,List.not_mem_nil,or_false] at hz
    rcases hz with rfl | rfl
    ·exact .inl ⟨by decide,hnr2 44⟩
    ·exact .inl ⟨by decide,hnr2 47⟩
   refine zB tK (hk:=?_);refine zW tK (hk:=?_);refine oA w4 z6 ?_;refine dS tK ?_;refine wKd ?_
   try simp only[go_sem,gA,gB,gC]
   refine wG tK ?_;refine wDF (hb:=(h)) (hk:=?_);refine wG tK ?_;refine ZZ 52 rfl Zi ?_;simp only[go_sem];refine wT ?_;rw[Wl y7];simp[ZP]
  ·simp only[he,if_false] at hap ⊢;refine ZW ZM ?_;refine ZS rfl ?_;refine sN tK 2 ?_;refine sC Tryz.func27 (hf:=(hof)) (hk:=?_);refine sN tK 5 ?_ z6 z6 QN Ze;refine sC Tryz.func95 (hf:=(hap)) (hk:=?_);refine sG tK ?_;refine sE ?_;refine wKd ?_
   try simp only[go_sem,gA,gB,gC]
   refine wG tK ?_;refine wDT (hb:=QL) (hk:=?_);refine wG tK ?_;refine ag (au 6) ?_;refine wT ?_;simp[he]
theorem BO (x:Rec) (f:Int):ae Tryz.prog 216 [.agg (ZR x),.rp [.int .i64 f] 0] [] (λr _=>r=.bool (eb f x)):=by
 unfold ZR;refine ZF tK (Tryz.func216) rfl (λC=>?_);simp only[Tryz.ntmps216,Tryz.results216,go_sem];cases e1:(x.act.fid==f)<;>cases e2:(x.act.kind==1)<;>cases e3:(x.act.kind==2)
 all_goals refine wG tK ?_ (by simp only[go_sem,e1,e2,e3];try exact rfl) (by simp[go_sem,e1,e2,e3])
 all_goals refine wT ?_
 all_goals simp[eb,e1,e2,e3]
theorem F8 (l:List Rec) (hl:l.length≤100000000) (f:Int):ae Tryz.prog 182 [.sl (l.map ZR),.int .i64 f] [] (λr _=>r=.int .i64 (cc (l.findIdx? (eb f)))):=by
 refine ZF tK (Tryz.func182) rfl (λC=>?_);simp only[Tryz.ntmps182,Tryz.results182,go_sem];refine wG tK ?_;refine ZZ 3 rfl (rfl) ?_;simp only[go_sem];refine wC Tryz.func186 (hf:=(jy l hl ⟨_,Go.Proofs.Tryz.func216,by kernel_rfl,rfl⟩ rfl (λx _=>BO x f))) (hk:=?_);refine wG tK ?_;refine wT ?_;rfl
theorem Fw (x r m:Rec):ae Tryz.prog 184 [.agg (ZR x),.rp [.rp (ZR r) 0] 0,.rp [.rp (ZR m) 0] 0] [] (λb _=>b=.bool (bars r.act.fid m.act.dir m.act.name x)):=by
 refine ZF tK (Tryz.func184) rfl (λC=>?_);simp only[Tryz.ntmps184,Tryz.results184,go_sem];refine wGq tK ?_ ?_ u7
 ·simp
 refine ZZ 3 rfl (rfl) ?_;simp only[go_sem];refine ZW ZM ?_;refine ZS rfl ?_;refine sN tK 4 ?_;refine dW 8 z6 (λc8 h8=>?_);simp only[go_sem];refine sN tK 6 ?_;refine sCC Tryz.func155 (hf:=λhb=>(xN x r.act.fid)) (hk:=?_);refine sN tK 1 ?_;refine dW 16 z6 (λc16 h16=>?_);simp only[go_sem];refine sN tK 9 ?_;refine sCC Tryz.func185 (hf:=λhb=>(Ar x m.act.dir m.act.name)) (hk:=?_);refine sN tK 2 ?_;refine sE ?_;refine wKd ?_;refine wG tK ?_;refine wT ?_;subst h16 h8;simp only[bars,cJ,eO]
def oM (l:List Rec) (r:Rec) (k:Nat):Bool:=
 (l.getD k default).act.dir==r.act.dir&&(l.getD k default).act.name==r.act.name&&!((l.drop (k+1)).any (bars r.act.fid (l.getD k default).act.dir (l.getD k default).act.name))
theorem yY {l:List Rec} {r:Rec} {k:Nat} (hk:l.findIdx? (eb r.act.fid)=some k):ek l r=(r.act.kind==4&&oM l r k):=by
 unfold ek oM;rw[hk];simp only[Bool.and_assoc]
theorem yZ (l:List Rec) (hl:l.length≤100000000) (r:Rec):ae Tryz.prog 152 [.sl (l.map ZR),.rp (ZR r) 0] [] (λb _=>b=.bool (ek l r)):=by
 refine ZF tK (Tryz.func152) rfl (λC=>?_);simp only[Tryz.ntmps152,Tryz.results152,go_sem];refine wGq tK ?_ ?_ u7
 ·simp
 refine wC Tryz.func182 (hf:=(F8 l hl r.act.fid)) (hk:=?_);cases e1:(r.act.kind != 4)
 ·refine wG tK ?_ (by simp only[go_sem,e1,ZR];try exact rfl) (by simp[go_sem,e1,ZR]);refine wD (λh=>?_) (λh=>?_)
  ·refine wG tK ?_;refine wT ?_;have:l.findIdx? (eb r.act.fid)=none:=by
    cases e:l.findIdx? (eb r.act.fid) with
    | none=>rfl
    | some k=>
     rw[e] at h;have h2:decide ((k:Int)<0)=true:=h;rw[decide_eq_true_eq] at h2;omega
   simp[ek,this]
  ·obtain ⟨k,hk⟩:∃k,l.findIdx? (eb r.act.fid)=some k:=by
    cases e:l.findIdx? (eb r.act.fid) with
    | none=>rw[e] at h;simp[cc] at h
    | some k=>exact ⟨k,rfl⟩
   have hkl:k<l.length:=(W5.1 hk).1;have hg:(l.map ZR).getD k []=ZR (l.getD k default):=Fam.getD hkl;rw[yY hk,hk];unfold oM;simp only[cc];generalize l.getD k default=m at hg;refine wGq tK ?_ ?_ p5
   ·simp[hkl]
   have hw:IntKind.i64.wrap ((k:Int)+1)=((k+1:Nat):Int):=by rw[Eng.wrap_small z8 z8];rfl
   have hd:List.drop (k+1) (l.map ZR)=(l.drop (k+1)).map ZR:=Yn.symm;refine ZZ 3 rfl (rfl) ?_;refine ZZ 6 rfl (rfl) ?_;simp only[go_sem];refine ZW ZM ?_;refine ZS rfl ?_;refine sN tK 10 ?_;refine dW 37 z6 (λc37 h37=>?_);simp only[go_sem];refine sN tK 12 ?_;refine dW 49 z6 (λc49 h49=>?_);simp only[go_sem];refine sNq tK 6 ?_ ?_ z6 z6 (by simp only[go_sem,hw,hd];try exact rfl)
   ·simp[go_sem];intro h;exact ⟨h,by omega,by omega,λ_ _=>rfl⟩
   refine sCC Tryz.func183 (hf:=λhb=>(py (l.drop (k+1)) j0 ⟨_,Go.Proofs.Tryz.func184,by kernel_rfl,rfl⟩ rfl (λx _=>Fw x r m))) (hk:=?_);refine sN tK 3 ?_;refine sE ?_;refine wKd ?_;refine wG tK ?_;refine wT ?_;subst h49 h37;have hk4:(r.act.kind==4)=true:=by simpa using e1
   rw[hk4];simp only[cJ,Bool.true_and]
 ·refine wG tK ?_ (by simp only[go_sem,e1,ZR];try exact rfl) (by simp[go_sem,e1,ZR]);refine wDT (hb:=(rfl)) (hk:=?_);refine wG tK ?_;refine wT ?_;have hk4:(r.act.kind==4)=false:=by simpa using e1
  unfold ek;split
  ·rfl
  ·rw[hk4];rfl
theorem zH (x r:Rec):ae Tryz.prog 154 [.agg (ZR x),.rp (ZR r) 0] [] (λb _=>b=.bool (x.names r.act.fid)):=by
 refine ZF tK (Tryz.func154) rfl (λC=>?_);simp only[Tryz.ntmps154,Tryz.results154,go_sem];refine wGq tK ?_ ?_ u7
 ·simp
 refine ZZ 2 rfl (rfl) ?_;simp only[go_sem];refine wC Tryz.func155 (hf:=(xN x r.act.fid)) (hk:=?_);refine wG tK ?_;refine wT ?_;rfl
theorem yD (x r:Rec):ae Tryz.prog 156 [.agg (ZR x),.rp (ZR r) 0] [] (λb _=>b=.bool (stored r x)):=by
 refine ZF tK (Tryz.func156) rfl (λC=>?_);simp only[Tryz.ntmps156,Tryz.results156,go_sem];refine wR ?_;refine wN tK 2 ?_ z6 z6 u7 (by simp[go_sem,ZR]);refine wR ?_;refine wN tK 4 ?_;refine ak 7 z6 (λc7 h7=>?_);simp only[go_sem];refine wG tK ?_ u7 (by simp[go_sem,ZR]);refine wT ?_;subst h7;rw[cJ];rfl
def fH:Option (List Rec)->AV
 | some x=>.tup [.sl (x.map ZR),.int .i64 0]
 | none=>.tup [.nils,.int .i64 5]
theorem HW (l:List Rec) (r:Rec) (hl:SmallL l) (hr:r.act.Small):ae Tryz.prog 110 [.sl (l.map ZR),.agg (ZR r)] [] (λx _=>x=fH (dv l r)):=by
 have hlen:=hl.len;refine ZF tK (Tryz.func110) rfl (λC=>?_);simp only[Tryz.ntmps110,Tryz.results110,go_sem];refine wGq tK ?_ ?_ u7
 ·simp
 refine ZZ 3 rfl (rfl) ?_;simp only[go_sem];refine wCG [] 100 Tryz.func69 (hf:=(po l hl)) (hk:=?_);refine wG tK ?_;refine wV Tryz.func152 (hf:=(yZ l hlen r)) (hk:=?_);refine wG tK ?_;refine wD (λh=>?_) (λh=>?_)
 ·refine wG tK ?_;refine wCG [119] 100 Tryz.func153 (hf:=(lY l hlen 119 ⟨_,Go.Proofs.Tryz.func154,by kernel_rfl,rfl⟩ rfl u5 (λx _=>zH x r))) (hk:=?_);refine wG tK ?_;refine ZZ 219 rfl (by rw[List.all_append,cS,Bool.true_and];exact iS _ rfl) ?_;simp only[go_sem];refine wT ?_;have hle:=Wr (λx:Rec=>!x.names r.act.fid) l;simp only[dv,h,if_true,fH];generalize (l.filter λx=>!x.names r.act.fid)=d at *;rw[if_pos y7,gQ y7]
 ·have hh:ek l r=false:=h;refine wG tK ?_;refine wD (λh=>?_) (λh=>?_)
  ·refine wG tK ?_;refine wCG [119] 100 Tryz.func153 (hf:=(lY l hlen 119 ⟨_,Go.Proofs.Tryz.func156,by kernel_rfl,rfl⟩ rfl u5 (λx _=>yD x r))) (hk:=?_);have hle:=Wr (λx:Rec=>!stored r x) l;have hadd:dv l r=if (l.filter λx=>!stored r x).length≥20 then none else some ((l.filter λx=>!stored r x)++[r]):=by
    have hk:r.act.kind=3:=eq_of_beq WL;simp only[dv,hh,Bool.false_eq_true,if_false,cM,hk,if_true]
   rw[hadd];have hsub:∀x,x∈(l.filter λx=>!stored r x)->x.act.Small:=λx hx=>hl.each x (Wy.1 hx).1
   generalize (l.filter λx=>!stored r x)=d at hle hsub;refine wG tK ?_;refine wD (λh=>?_) (λh=>?_)
   ·have hd:d.length≥20:=by have h2:=of_decide_eq_true h;omega
    refine wG tK ?_;refine wT ?_;rw[if_pos hd];rfl
   ·have hd:¬d.length≥20:=by have h2:=of_decide_eq_false h;omega
    refine wGq tK ?_ ?_ u7
    ·simp
    refine ZZ 26 rfl (rfl) ?_;simp only[go_sem];refine wC Tryz.func69 (hf:=(jU [r] ⟨by simp,λx hx=>by rw[List.mem_singleton.1 hx];exact hr⟩)) (hk:=?_);have ht:(d.map ZR++List.replicate (l.length-d.length) [AV.int .i64 0,.int .i64 0,.int .i64 0,.str [],.int .i64 0,.str [],.nils,.int .i64 0,.int .i64 0]).take d.length=d.map ZR:=gQ y7;refine wGq tK ?_ ?_ (by simp only[go_sem,ht,ZR];try exact rfl)
    ·simp[rowsOf];omega
    refine ZZ 28 rfl Qe ?_;simp only[go_sem];refine wG tK ?_;refine wT ?_;rw[if_neg hd];simp only[fH,List.map_append,List.map_cons,List.map_nil,ZR];rw[Wl y7]
  ·have hadd:dv l r=if l.length≥20 then none else some (l++[r]):=by
    have hk:¬r.act.kind=3:=by simpa using h
    simp only[dv,hh,Bool.false_eq_true,if_false,cM,hk]
   rw[hadd];refine wG tK ?_;refine wD (λh=>?_) (λh=>?_)
   ·have hd:l.length≥20:=by have h2:=of_decide_eq_true h;omega
    refine wG tK ?_;refine wT ?_;rw[if_pos hd];rfl
   ·have hd:¬l.length≥20:=by have h2:=of_decide_eq_false h;omega
    refine wGq tK ?_ ?_ u7
    ·simp
    refine ZZ 26 rfl (rfl) ?_;simp only[go_sem];refine wC Tryz.func69 (hf:=(jU [r] ⟨by simp,λx hx=>by rw[List.mem_singleton.1 hx];exact hr⟩)) (hk:=?_);refine wGq tK ?_ ?_ u7
    ·simp[rowsOf];omega
    refine ZZ 28 rfl Qe ?_;simp only[go_sem];refine wG tK ?_;refine wT ?_;rw[if_neg hd];simp only[fH,List.map_append,List.map_cons,List.map_nil,ZR];rw[Wl y7]
end La
