/- Texts of this claim, part 20: ModC, RU, Cut, RSplit, RGo, RHoard, RDo, Add, Add2. No condition. -/
import Derived.Test.YtdcmhdkpfllnlaaGreatDoorXC19
import Derived.Test.YtdcmhdkpfllnlaaGreatDoorXC18
import Derived.Test.YtdcmhdkpfllnlaaGreatDoorXC10
import Derived.Test.YtdcmhdkpfllnlaaGreatDoorXC8
import Derived.Test.YtdcmhdkpfllnlaaGreatDoorXC12
import Derived.Test.YtdcmhdkpfllnlaaGreatDoorXC15
import Derived.Test.YtdcmhdkpfllnlaaGreatDoorXC16
import Derived.Test.YtdcmhdkpfllnlaaGreatDoorXC17
import Derived.Test.YtdcmhdkpfllnlaaGreatDoorXC14
import Derived.Test.YtdcmhdkpfllnlaaGreatDoorXC11
set_option maxRecDepth 10000
set_option maxHeartbeats 4000000
set_option linter.unusedSimpArgs false
set_option linter.unusedVariables false
namespace La
open Go Go.Eng
def ZJ (h:Hoard):List AV:=[.str h.path,.int .i64 h.worth]
def ZC (c:Cli):List AV:=[.int .i64 c.number,.bool c.away,.int .i64 c.room,.sl (c.cache.map ZK),.sl (c.log.map ZR),.sl (c.repair.map ZR),.sl (c.hoards.map ZJ),.int .i64 c.clock,.int .i64 c.made,.int .i64 c.logged]
def ZX (x:Step):List AV:=[.int .i64 x.kind,.int .i64 x.client,.int .i64 x.n,.str x.path,.str x.toPath,.sl (x.data.map ZY)]
def aW (r:Reply):List AV:=[.int .i64 r.err,.int .i64 r.n,.int .i64 r.m,.sl (r.data.map ZY)]
def bl (u:U):List AV:=[.int .i64 u.c.number,.bool u.c.away,.int .i64 u.c.room,.sl (u.c.cache.map ZK),.sl (u.c.log.map ZR),.sl (u.c.repair.map ZR),.sl (u.c.hoards.map ZJ),.int .i64 u.c.clock,.int .i64 u.c.made,.int .i64 u.c.logged,.sl (u.s.tree.map ZN),.int .i64 u.s.next,.sl (u.s.past.map ZP)]
def eX (w:Wor):List AV:=[.sl (w.s.tree.map ZN),.int .i64 w.s.next,.sl (w.s.past.map ZP),.sl (w.cs.map ZC)]
theorem eK:Fam ZJ 2:=⟨λ_=>rfl,λ_=>rfl,λ_=>rfl,λ_=>rfl⟩
@[go_sem,simp] theorem Co (l:List _):Eng.rowsOf 2 (l.map ZJ):=eK.rowsOf l
@[go_sem,simp] theorem Eh (l:List _):((l.map ZJ).all λrow=>row.all AV.leaf)=true:=eK.iU l
@[go_sem,simp] theorem dT (l:List _):((l.map ZJ).all λrow=>row.all AV.aX)=true:=eK.fh l
@[go_sem,simp] theorem C5 (id:Nat) (l:List _):((l.map ZJ).all λrow=>row.all λx=>!(refs x).contains id)=true:=eK.kW id l
@[go_sem,simp] theorem C6 (e s:Nat) (l:List _):aB (.cells e s (l.map ZJ))=[]:=eK.aB e s l
@[go_sem,simp] theorem Ei (off:Nat) (l:List _):(l.map ZJ).map (gL off)=l.map ZJ:=Fam.gL (λ_ _=>rfl) off l
@[go_sem,simp] theorem Eg (id s:Nat) (rows:List (List AV)) (l:List _):(l.map ZJ).map (dL id s rows)=l.map ZJ:=Fam.dL (λ_ _ _ _=>rfl) id s rows l
@[go_sem,simp] theorem C7 (a):aA (ZJ a)=[]:=eK.free a
theorem kf:Fam ZC 10:=⟨λ_=>rfl,λ_=>rfl,λ_=>rfl,λ_=>rfl⟩
@[go_sem,simp] theorem pz (l:List _):((l.map ZC).all λrow=>row.all AV.aX)=true:=kf.fh l
@[go_sem,simp] theorem EY (id:Nat) (l:List _):((l.map ZC).all λrow=>row.all λx=>!(refs x).contains id)=true:=kf.kW id l
@[go_sem,simp] theorem EZ (e s:Nat) (l:List _):aB (.cells e s (l.map ZC))=[]:=kf.aB e s l
@[go_sem,simp] theorem G8 (id s:Nat) (rows:List (List AV)) (l:List _):(l.map ZC).map (dL id s rows)=l.map ZC:=Fam.dL (λ_ _ _ _=>rfl) id s rows l
@[go_sem,simp] theorem E0 (a):aA (ZC a)=[]:=kf.free a
theorem uD:Fam aW 4:=⟨λ_=>rfl,λ_=>rfl,λ_=>rfl,λ_=>rfl⟩
@[go_sem,simp] theorem DM (a):aA (aW a)=[]:=uD.free a
end La
namespace La
open Go Go.Eng Go.Proofs
def uH (u:U) (G Y N:Nat->Nat):List (Nat×Blk):=[(900,.cells 97 13 [bl u])]++pins [900] G Y N
theorem Bx {l:List Kept} (hn:(l.map λk=>k.node.fid).Nodup) {fid:Int} {i:Nat} (hi:i<l.length) (hf:(l.getD i default).node.fid=fid):dx (l.take (i+1)) fid=some (l.getD i default).node/\dx (l.take i) fid=none:=by
 have h0:dx (l.take i) fid=none:=by
  unfold dx;rw[Option.map_eq_none_iff,List.find?_eq_none];intro x hx;obtain ⟨j,hj⟩:=List.getElem?_of_mem hx;have hjl:=(List.getElem?_eq_some_iff.1 hj).1;rw[List.length_take] at hjl;rw[List.getElem?_take,if_pos z8] at hj;simp only[beq_iff_eq];intro e;have h2:l[i]? = some (l.getD i default):=by rw[List.getD_eq_getElem?_getD,List.getElem?_eq_getElem hi];rfl
  have:=xA hn hj h2 (e.trans hf.symm);omega
 refine ⟨?_,h0⟩;unfold dx at h0 ⊢;rw[ZT hi,List.find?_append];rw[Option.map_eq_none_iff] at h0;have hb:((l.getD i default).node.fid==fid)=true:=by rw[hf];exact beq_self_eq_true _
 rw[h0,Option.none_or,List.find?_cons];simp only[hb,Option.map_some]
theorem zj {l:List Kept} {fid:Int} {i:Nat} (hi:i<l.length) (hf:(l.getD i default).node.fid≠fid):dx (l.take (i+1)) fid=dx (l.take i) fid:=by
 unfold dx;rw[ZT hi,List.find?_append,List.find?_cons];rw[show ((l.getD i default).node.fid==fid)=false by simpa using hf];simp
def ks (l:List Kept) (f w c:Int) (i:Nat):List Kept:=(l.take i).map (fJ f w c)
theorem xn {l:List Kept} (f w c:Int) {i:Nat} (h:i<l.length):ks l f w c (i+1)=ks l f w c i++[fJ f w c (l.getD i default)]:=by unfold ks;rw[ZT h,List.map_append];rfl
theorem za {l:List Kept} (f w c:Int) {i:Nat} (h:i≤l.length):(ks l f w c i).length=i:=by unfold ks;rw[List.length_map,List.length_take];omega
theorem y' (l:List Kept) (f w c:Int):ks l f w c l.length=l.map (fJ f w c):=by unfold ks;rw[List.take_length]
@[go_sem,simp] theorem FG (id s:Nat) (rows:List (List AV)) (n:Node):dL id s rows (ZN n)=ZN n:=rfl
@[go_sem,simp] theorem FI (off:Nat) (n:Node):gL off (ZN n)=ZN n:=rfl
@[go_sem,simp] theorem i_ (n:Node):(ZN n).length=5:=rfl
theorem fz {l:List AV} (h:aA l=[]) {x:AV} (hx:x∈l) (id:Nat):¬id∈refs x:=λhi=>by
 obtain ⟨j,hj⟩:=List.getElem?_of_mem hx;have:=aZ hj hi;rw[h] at this;cases this
def gP (g:Got):AV:=.tup [.agg (ZN g.n),.int .i64 g.e]
theorem n_ {B T:Nat} (u:U) (h:UInv B T u) (hB:B≤40000000) (hT:T≤1000000000000) (fid worth:Int) (G Y N:Nat->Nat):ae Tryz.prog 78 [.ptr 900 13 0 0,.int .i64 fid,.int .i64 worth] (uH u G Y N)
  (λr H=>r=gP (ba u fid worth)/\Holds (uH (ba u fid worth).u G Y N) H):=by
 have hcl:=h.cli.clock;have hlen:u.c.cache.length≤24:=by have:=h.cli.len;have:=h.cli.room;omega
 have hnod:=h.cli.nod;have hup:=h.srv.hist.bM.up;have htl:u.s.tree.length≤24:=h.srv.hist.bM.len;have hw:IntKind.i64.wrap (u.c.clock+1)=u.c.clock+1:=Eng.wrap_small z8 z8;have hof:=tQ u.s.tree z8;have hgf:∀k,bg (mN (bB u.s.tree)) k=(aj u.s.tree k).map λn=>AV.agg (ZN n):=λk=>by rw[gS,cu hup]
 have hgu:ba u fid worth=match dx u.c.cache fid with
  | some n=>⟨n,0,ch u fid worth⟩
  | none=>if u.c.away=true then ⟨au,12,ch u fid worth⟩ else match aj u.s.tree fid with
   | none=>⟨au,6,ch u fid worth⟩
   | some n=>⟨n,0,fZ (ch u fid worth) ⟨n,false,worth,u.c.clock+1⟩⟩:=rfl
 have hD0:ks u.c.cache fid worth (u.c.clock+1) 0=[]:=rfl;have hDs:=λi=>@xn u.c.cache fid worth (u.c.clock+1) i
 have hDn:=λi=>@za u.c.cache fid worth (u.c.clock+1) i
 have hDe:=y' u.c.cache fid worth (u.c.clock+1);generalize ks u.c.cache fid worth (u.c.clock+1)=D at *;unfold uH bl;refine ZF tK (Tryz.func78) rfl (λC=>?_);simp only[Tryz.ntmps78,Tryz.results78,go_sem];refine wG tK ?_ w5 k0;refine ag (le_empty 57 67 8 z7) ?_;simp only[go_sem];refine ag (ar 6) ?_;refine ag (ar 9) ?_;simp only[go_sem];refine ZL (λi:Nat=>i≤u.c.cache.length) (λi=>u.c.cache.length-i) (λi=>[(8,.osl 57 8 0 i),(10,.bool (dx (u.c.cache.take i) fid).isSome),(12,.any),(31,.int .i64 i),(32,.any),(33,.any),(34,.any),(35,.any),(36,.any),(37,.any),(38,.any),(39,.any),(40,.any),(41,.any),(42,.any),(43,.any),(44,.any),(45,.any),(46,.any),(47,.any),(48,.any),(49,.any),(50,.any),(51,.any),(52,.any),(53,.any),(54,.any),(55,.any),(56,.any),(57,.any),(58,.any)])
  (λi=>[(9,.cells 62 5 [ZN ((dx (u.c.cache.take i) fid).getD au)]),(57,.cells 67 8 ((D i).map ZK))]) 0 z8 ?_ λi hi=>?_
 ·simp only[go_sem];rw[hD0];exact ZU (by simp[go_sem,dx]) (by simp[go_sem,dx,ZN,au]) QT
 simp only[go_sem];refine wG tK ?_;refine wD (λh=>?_) (λh=>?_)
 ·have hlt:i<u.c.cache.length:=by simp at h;omega
  have hg:(u.c.cache.map ZK).getD i []=ZK (u.c.cache.getD i default):=Fam.getD hlt;have hw1:=wi1 (i:=i) z8;have hgt:=hDs i hlt;have hDl:=hDn i hi;have hit:=@Bx u.c.cache hnod fid i hlt;have hms:=@zj u.c.cache fid i hlt;generalize D i=Di at *;generalize u.c.cache.getD i default=k at *;have htq:List.take i (Di.map ZK)=Di.map ZK:=List.take_of_length_le (by simp[hDl]);refine wGq tK ?_ ?_ x7
  ·simp[hg,ZK,hlt]
  refine wD (λh=>?_) (λh=>?_)
  ·have hf:k.node.fid=fid:=by simpa using h
   obtain ⟨hnk,hn0⟩:=hit hf;refine wG tK ?_;refine wD (λh=>?_) (λh=>?_)
   ·have hwo:k.worth<worth:=by simpa using h
    have hk:fJ fid worth (u.c.clock+1) k={ k with last:=u.c.clock+1,worth:=worth }:=by unfold fJ lI;rw[if_pos hf,if_pos hwo]
    refine wGq tK ?_ ?_ j7
    ·simp[htq,refs];refine ⟨by intro row h;simp at h;subst h;rfl,by omega,by omega,λx hx=>?_,λx hx y hy=>fz (jk x) hy _⟩
     first | exact fz (jl _) hx _ | skip
    refine ZB ⟨i+1,by omega,by omega,ZU ?_ ?_ ?_⟩
    ·simp[go_sem,hgt,hnk]
    ·simp[go_sem,hgt,htq,hk,ZK,ZN,hnk]
    ·simp[go_sem]
   ·have hwo:¬worth>k.worth:=by simpa using h
    have hk:fJ fid worth (u.c.clock+1) k={ k with last:=u.c.clock+1 }:=by unfold fJ lI;rw[if_pos hf,if_neg hwo]
    refine wGq tK ?_ ?_ j7
    ·simp[htq,refs];refine ⟨by intro row h;simp at h;subst h;rfl,by omega,by omega,λx hx=>?_,λx hx y hy=>fz (jk x) hy _⟩
     first | exact fz (jl _) hx _ | skip
    refine ZB ⟨i+1,by omega,by omega,ZU ?_ ?_ ?_⟩
    ·simp[go_sem,hgt,hnk]
    ·simp[go_sem,hgt,htq,hk,ZK,ZN,hnk]
    ·simp[go_sem]
  ·have hf:k.node.fid≠fid:=by simpa using h
   have hnk:=hms hf;have hk:fJ fid worth (u.c.clock+1) k=k:=by unfold fJ;rw[if_neg hf]
   refine wGq tK ?_ ?_ j7
   ·simp[htq,refs];refine ⟨by intro row h;simp at h;subst h;rfl,by omega,by omega,λx hx=>?_,λx hx y hy=>fz (jk x) hy _⟩
    first | exact fz (jl _) hx _ | skip
   refine ZB ⟨i+1,by omega,by omega,ZU ?_ ?_ ?_⟩
   ·simp[go_sem,hgt,hnk]
   ·simp[go_sem,hgt,htq,hk,ZK,ZN,hnk]
   ·simp[go_sem]
 ·have e:i=u.c.cache.length:=by simp at h;omega
  subst e;rw[List.take_length,hDe];refine wR ?_;have htk:List.take u.c.cache.length ((u.c.cache.map (fJ fid worth (u.c.clock+1))).map ZK)=(u.c.cache.map (fJ fid worth (u.c.clock+1))).map ZK:=List.take_of_length_le y8;refine ZZ 57 rfl (bb _) ?_;simp only[go_sem,htk];refine wG tK ?_;clear hgu;cases hnk:dx u.c.cache fid with
  | some n=>
   have hG:ba u fid worth=⟨n,0,ch u fid worth⟩:=by unfold ba;rw[hnk]
   rw[hG];refine wDT (hb:=(rfl)) (hk:=?_);refine wG tK ?_ w6 QT;refine wU ?_ ?_
   ·rfl
   ·exact q9q
  | none=>
   refine wDF (hb:=(rfl)) (hk:=?_);refine wG tK ?_;cases ha:u.c.away with
   | true=>
    have hG:ba u fid worth=⟨au,12,ch u fid worth⟩:=by unfold ba;rw[hnk];simp[ha]
    rw[hG];refine wDT (hb:=(rfl)) (hk:=?_);refine wG tK ?_ QN (by simp[go_sem,ZN,au]);refine wU ?_ ?_
    ·rfl
    ·skip
     simp only[pins,List.cons_append,List.nil_append,List.map_cons,List.map_nil]
     repeat' refine ZH ?_ ?_
     all_goals first | exact YH _ | rfl | simp[go_sem,ch,ha]
   | false=>
    refine wDF (hb:=(rfl)) (hk:=?_);refine wG tK ?_;refine wC Tryz.func18 (hf:=(hof)) (hk:=?_);have hg1:=hgf fid;cases hff:aj u.s.tree fid with
    | none=>
     rw[hff] at hg1;simp only[Option.map_none] at hg1;have hG:ba u fid worth=⟨au,6,ch u fid worth⟩:=by unfold ba;rw[hnk];simp[ha,hff]
     rw[hG];refine wG tK ?_ p4 Qj;refine wDT (hb:=(rfl)) (hk:=?_);refine wG tK ?_;refine ag (ar 6) ?_;simp only[go_sem];refine wU ?_ ?_
     ·rfl
     ·skip
      simp only[pins,List.cons_append,List.nil_append,List.map_cons,List.map_nil]
      repeat' refine ZH ?_ ?_
      all_goals first | exact YH _ | rfl | simp[go_sem,ch,ha]
    | some n=>
     rw[hff] at hg1;simp only[Option.map_some] at hg1;refine wG tK ?_ u0 p8;refine wDF (hb:=(rfl)) (hk:=?_);refine wG tK ?_;have hcz:(u.c.cache.map (fJ fid worth (u.c.clock+1))).length≤90000000:=by rw[List.length_map];omega
     have hG:ba u fid worth=⟨n,0,fZ (ch u fid worth) ⟨n,false,worth,u.c.clock+1⟩⟩:=by unfold ba;rw[hnk];simp[ha,hff]
     rw[hG];refine ZW ZM ?_;refine ZS rfl ?_;refine sN tK 17 ?_;refine sB tK ?_;cases hkp:cH (u.c.cache.map (fJ fid worth (u.c.clock+1))) u.c.room ⟨n,false,worth,u.c.clock+1⟩ with
     | none=>
      have hk:=lR hcz hkp;have hKU:fZ (ch u fid worth) ⟨n,false,worth,u.c.clock+1⟩=ch u fid worth:=by unfold fZ ch;simp only[hkp]
      rw[hKU];refine sC Tryz.func85 (hf:=(hk)) (hk:=?_);refine sG tK ?_;refine sE ?_;refine wKd ?_
      try simp only[go_sem,gA,gB,gC]
      refine wG tK ?_;refine wDF (hb:=(rfl)) (hk:=?_);refine wG tK ?_;refine wU ?_ ?_
      ·rfl
      ·skip
       simp only[pins,List.cons_append,List.nil_append,List.map_cons,List.map_nil]
       repeat' refine ZH ?_ ?_
       all_goals first | exact YH _ | rfl | simp[go_sem,ch,ha]
     | some L=>
      have hk:=jU hcz hkp;have hKU:fZ (ch u fid worth) ⟨n,false,worth,u.c.clock+1⟩=⟨{ (ch u fid worth).c with cache:=L },u.s⟩:=by unfold fZ ch;simp only[hkp]
      rw[hKU];refine sC Tryz.func85 (hf:=(hk)) (hk:=?_);refine sG tK ?_;refine sE ?_;refine wKd ?_
      try simp only[go_sem,gA,gB,gC]
      refine wG tK ?_;refine wDT (hb:=(rfl)) (hk:=?_);refine wG tK ?_;refine wU ?_ ?_
      ·rfl
      ·skip
       simp only[pins,List.cons_append,List.nil_append,List.map_cons,List.map_nil]
       repeat' refine ZH ?_ ?_
       all_goals first | exact YH _ | rfl | simp[go_sem,ch,ha]
def EM (c:UInt8) (s:List UInt8) (i:Nat) (done:List (List UInt8)) (cur:List UInt8):Prop:=
 i≤s.length/\uw c done cur (s.drop i)=cV c s/\done.length≤i/\cur.length≤i
theorem Hv (s:List UInt8) (c:UInt8) (hs:s.length≤100000000):ae Tryz.prog 48 [.str s,.int .u8 (c.toNat:Int)] [] (λr _=>r=.sl ((cV c s).map aP)):=by
 refine ZF tK (Tryz.func48) rfl (λC=>?_);simp only[Tryz.ntmps48,Tryz.results48,go_sem];refine wG tK ?_;refine ag (de 7 20) ?_;refine ZL (λx:Nat×List (List UInt8)×List UInt8=>EM c s x.1 x.2.1 x.2.2) (λx=>s.length-x.1) (λx=>[(5,.osl 20 1 0 (x.2.1.length+1)),(6,.any),(7,.any),(10,.int .i64 x.1),(11,.any),(12,.any),(13,.any),(14,.any),(15,.any),(16,.any),(17,.any),(18,.any),(19,.any),(20,.any),(21,.any),(22,.any),(23,.any),(24,.any),(25,.any),(26,.any),(27,.any),(28,.any),(29,.any),(30,.any),(31,.any),(32,.any),(33,.any),(34,.any),(35,.any),(36,.any),(37,.any),(38,.any)]) (λx=>[(20,.cells 9 1 (x.2.1.map aP++[[.str x.2.2]]))]) (0,[],[]) ⟨by omega,by rw[List.drop_zero,CI],by simp,by simp⟩ ?_ λx hx=>?_
 ·simp only[go_sem];exact ZU w3 w3 w3
 obtain ⟨i,done,cur⟩:=x;obtain ⟨hi,hc,hd,hcl⟩:=hx;simp only at hi hc hd hcl;simp only[go_sem];refine wG tK ?_;refine wD (λh=>?_) (λh=>?_)
 ·have hlt:i<s.length:=by simp at h;omega
  have hw:=wi1 (i:=i) z8;have hdr:s.drop i=s.getD i 0::s.drop (i+1):=by
   rw[List.getD_eq_getElem?_getD,List.getElem?_eq_getElem hlt];simp
  have hdt:(s.take (i+1)).drop i=[s.getD i 0]:=by
   rw[ZT hlt,List.drop_left' QH];rfl
  rw[hdr,uw] at hc;refine wGq tK ?_ ?_
  ·simp;omega
  generalize s.getD i 0=x at hc hdt;refine wD (λh=>?_) (λh=>?_)
  ·have hx:x=c:=UInt8.toNat_inj.1 (by have:((x.toNat:Nat):Int)=c.toNat:=u6;omega);rw[if_pos hx] at hc;have htk:List.take (done.length+1) (done.map aP++[[AV.str cur]])=done.map aP++[[AV.str cur]]:=List.take_of_length_le y8;refine wGq tK ?_ ?_ w5
   ·simp[htk,refs];exact ⟨by intro row h;simp at h;subst h;rfl,by omega,λx _ y hy=>by simp[aP] at hy;subst hy;simp[refs]⟩
   refine ZB ⟨(i+1,done++[cur],[]),⟨by omega,hc,by simp;omega,by simp⟩,by simp only;omega,ZU ?_ ?_ ?_⟩
   ·simp[go_sem]
   ·simp[go_sem,htk,aP]
   ·simp[go_sem]
  ·have hx:¬x=c:=λe=>by subst e;simp at h
   rw[if_neg hx] at hc;have hgr:(done.map aP++[[AV.str cur]]).getD done.length []=[AV.str cur]:=by simp[List.getD_eq_getElem?_getD]
   have hsub:IntKind.i64.wrap (((done.length+1:Nat):Int)-1)=(done.length:Int):=by rw[Eng.wrap_small z8 z8];omega
   refine ZW ZM ?_;refine ZS rfl ?_;refine sNq tK 17 ?_ ?_ z6 z6 (by simp only[go_sem,hgr,hsub,hw];try exact rfl)
   ·simp[hgr,hsub,hw];omega
   refine sT tK ?_;refine sE ?_;refine wKd ?_;simp only[go_sem,hdt];refine wG tK ?_ w5 k0;refine ZB ⟨(i+1,done,cur++[x]),⟨by omega,hc,by simp only;omega,by simp;omega⟩,by simp only;omega,ZU ?_ ?_ ?_⟩
   ·simp[go_sem]
   ·simp[go_sem]
   ·simp[go_sem]
 ·have e:i=s.length:=by simp at h;omega
  subst e;rw[List.drop_length,uw] at hc;have hrows:done.map aP++[[AV.str cur]]=(cV c s).map aP:=by rw[←hc];simp[aP]
  have hlen:done.length+1=(cV c s).length:=by rw[←hc];simp
  rw[hrows,hlen];refine wG tK ?_;refine ZZ 20 rfl (yg _) ?_;refine wT ?_;simp
theorem zx (s:List UInt8) (hs:s.length≤10000000):ae Tryz.prog 17 [.str s] [] (λr _=>Eng.nrm r=cn (af s)):=by
 refine ZF tK (Tryz.func17) rfl (λC=>?_);simp only[Tryz.ntmps17,Tryz.results17,go_sem];refine wR ?_;refine wN tK 2 ?_;refine wG tK ?_;refine wD (λh=>?_) (λh=>?_)
 ·have h1:40<s.length:=by simp at h;omega
  refine wG tK ?_;refine wT ?_;simp[af,h1,cn,Eng.nrm,Eng.eP]
 have h1:¬40<s.length:=by simp at h;omega
 refine wG tK ?_;refine wD (λh=>?_) (λh=>?_)
 ·have h2:s=[47]:=by simpa using h
  refine wG tK ?_;refine wT ?_;simp[af,h1,h2,cn,Eng.nrm,Eng.eP]
 have h2:s≠[47]:=by simpa using h
 refine wR ?_;refine wN tK 3 ?_;cases s with
 | nil=>
  refine wG tK ?_;refine wD (λh=>?_) (λh=>?_)
  ·refine wG tK ?_;refine wT ?_;simp[af,cn,Eng.nrm,Eng.eP]
  ·cases h
 | cons x r=>
  refine wG tK ?_;refine wD (λh=>?_) (λh=>?_)
  ·have h3:¬x=47:=λe=>by subst e;simp at h
   have h1':¬40<r.length+1:=h1;refine wG tK ?_;refine wT ?_;simp[af,h1',h3,cn,Eng.nrm,Eng.eP]
  have h3:x=47:=UInt8.toNat_inj.1 (by have:((x.toNat:Nat):Int)=47:=u6;show x.toNat=47;omega);subst h3;refine wR ?_;refine wN tK 1 ?_;refine wC Tryz.func48 (hf:=(Hv (47::r) 47 z8)) (hk:=?_);have hcut:cV 47 (47::r)=[]::cV 47 r:=by simp[cV]
  have hR:af (47::r)=if (cV 47 r).all cq then (cV 47 r,0) else ([],7):=by
   simp only[af,if_neg h1,if_neg h2,List.head?_cons,ne_eq,not_true_eq_false,if_false,List.drop_succ_cons,List.drop_zero]
  have hcl:=qt 47 r;have hcp:=mb 47 r;rw[hR,hcut];generalize cV 47 r=L at hcl hcp;simp only[List.length_cons] at hs;refine wGq tK ?_ ?_
  ·simp[aP]
  refine ZL (λi:Nat=>i≤L.length/\(L.take i).all cq=true) (λi=>L.length-i) (λi=>[(6,.any),(24,.int .i64 i),(25,.any),(26,.any),(27,.any),(28,.any),(29,.any),(30,.any),(31,.any)]) (λ_=>[]) 0 ⟨by omega,by simp⟩ ?_ λi hi=>?_
  ·simp only[go_sem];exact ZU w3 w3 w3
  obtain ⟨hi,hs2⟩:=hi;simp only[go_sem];refine wG tK ?_;refine wD (λh=>?_) (λh=>?_)
  ·have hlt:i<L.length:=by simp at h;omega
   have hw:=wi1 (i:=i) z8;have hg:(L.map aP).getD i []=aP (L.getD i default):=Fam.getD hlt;have htk:=ZT hlt;have hmem:L.getD i default∈L:=by rw[List.getD_eq_getElem?_getD,List.getElem?_eq_getElem hlt];exact List.getElem_mem hlt
   have hxl:=hcp _ hmem;have hno:cq (L.getD i default)=false->L.all cq=false:=λh0=>by
    cases e:L.all cq with
    | false=>rfl
    | true=>rw[List.all_eq_true.1 e _ hmem] at h0;cases h0
   generalize L.getD i default=x at hg htk hxl hno hmem;refine wGq tK ?_ ?_ Q7
   ·simp[hg,aP,hlt]
   refine wC Tryz.func49 (hf:=(xN x z8)) (hk:=?_);refine wG tK ?_;refine wD (λh=>?_) (λh=>?_)
   ·have h0:cq x=false:=by simpa using h
    refine wG tK ?_;refine wT ?_;simp[hno h0,cn,Eng.nrm,Eng.eP]
   ·have h0:cq x=true:=by simpa using h
    refine wG tK ?_ w5 k0;refine ZB ⟨i+1,⟨by omega,by rw[htk,List.all_append,hs2];simp[h0]⟩,by omega,ZU ?_ ?_ ?_⟩
    ·simp[go_sem]
    ·simp[go_sem]
    ·simp[go_sem]
  ·have e:i=L.length:=by simp at h;omega
   subst e;rw[List.take_length] at hs2;refine wG tK ?_;refine wT ?_;simp[hs2,cn,Eng.nrm,Eng.eP,xD]
theorem iw (s:List UInt8) (hs:s.length≤10000000):ae Tryz.prog 17 [.str s] [] (λr _=>r=cn (af s)):=uI (zx s hs)
@[go_sem,simp] theorem ss (u:U):aA (bl u)=[]:=rfl
@[go_sem,simp] theorem Hn (u:U):(bl u).length=13:=rfl
structure NodeOK (n:Node):Prop where
 eup:EUp n.entries
 ent:n.entries.length≤6
 data:n.data.length≤20
theorem NodeOK.small {n:Node} (h:NodeOK n):n.Small:=⟨by have:=h.data;omega,by have:=h.ent;omega⟩
theorem NodeOK.zero:NodeOK au:=⟨List.Pairwise.nil,by simp[au],by simp[au]⟩
theorem jP {l:List Kept} {f:Int} {n:Node} (h:dx l f=some n):∃k,k∈l/\k.node=n/\n.fid=f:=by
 unfold dx at h;obtain ⟨k,hk,rfl⟩:=Option.map_eq_some_iff.1 h;exact ⟨k,List.mem_of_find?_eq_some hk,rfl,by simpa using List.find?_some hk⟩
theorem il {B T:Nat} {u:U} (h:UInv B T u) (f w:Int):NodeOK (ba u f w).n:=by
 unfold ba;split
 ·rename_i n hn;obtain ⟨k,hk,rfl,_⟩:=jP hn;exact ⟨h.cli.eup k hk,h.cli.ent k hk,h.cli.data k hk⟩
 ·split
  ·exact .zero
  ·split
   ·exact .zero
   ·rename_i n hn;have hm:=((ZO h.srv.hist.bM.up).1 hn).1;exact ⟨(h.srv.hist.whole.loc n hm).eup,h.srv.hist.bM.ent n hm,h.srv.hist.bM.data n hm⟩
theorem wH {B:Nat} (w:Int):∀(l:List (List UInt8)) (T:Nat) (g:Got),UInv B T g.u->NodeOK g.n->NodeOK (goR w l g).n
 | [],T,g,h,hn=>by
  unfold goR;split
  ·exact hn
  ·exact .zero
 | s::r,T,g,h,hn=>by
  unfold goR;split
  ·exact .zero
  ·split
   ·exact .zero
   ·split
    ·exact .zero
    ·rename_i f _;exact wH w r (T+1) _ (bP h f w) (il h f w)
theorem nH {B T:Nat} {u:U} (h:UInv B T u) (l:List (List UInt8)) (w:Int):NodeOK (goU u l w).n:=wH w l (T+1) _ (bP h 0 w) (il h 0 w)
theorem ig {B T:Nat} {u:U} (h:UInv B T u) (path:List UInt8):NodeOK (ai u path).n:=by
 unfold ai;split
 ·exact .zero
 ·split
  ·exact .zero
  ·exact nH h _ 0
theorem rV {B T:Nat} (u:U) (h:UInv B T u) (hB:B≤40000000) (hT:T≤900000000000) (l:List (List UInt8)) (hl:l.length≤1000) (hls:∀x,x∈l->x.length≤1000) (worth:Int) (G Y N:Nat->Nat):ae Tryz.prog 35 [.ptr 900 13 0 0,.sl (l.map aP),.int .i64 worth] (uH u G Y N)
  (λr H=>r=gP (goU u l worth)/\Holds (uH (goU u l worth).u G Y N) H):=by
 have hg0:=n_ u h hB z8 0 worth;have hi0:=bP h 0 worth;have hn0:=il h 0 worth;have hgo:goU u l worth=goR worth l (ba u 0 worth):=rfl;unfold uH gP at hg0;unfold uH gP;generalize ba u 0 worth=g0 at *;generalize goU u l worth=gF at *;refine ZF tK (Tryz.func35) rfl (λC=>?_);simp only[Tryz.ntmps35,Tryz.results35,go_sem];refine wG tK ?_;refine ag (ar 6) ?_;simp only[go_sem];refine wP [900] Tryz.func78 (hf:=(hg0)) (hk:=?_);refine wGq tK ?_ ?_ w6
 ·simp[ZN]
 refine ZL (λq:List (List UInt8)×Got=>gF=goR worth q.1 q.2/\q.1.length≤l.length/\(∀x,x∈q.1->x.length≤1000)/\UInv B (T+1+(l.length-q.1.length)) q.2.u/\NodeOK q.2.n) (λq=>q.1.length)
  (λq=>[(1,.sl (q.1.map aP)),(9,.int .i64 q.2.e),(10,.any),(11,.any),(12,.any),(13,.any),(14,.any),(15,.any),(16,.any),(17,.any),(18,.any),(19,.any),(20,.any),(21,.any),(22,.any),(23,.any),(24,.any),(25,.any),(26,.any),(27,.any),(28,.any),(29,.any),(30,.any),(31,.any),(32,.any),(33,.any),(34,.any),(35,.any),(36,.any),(37,.any),(38,.any),(39,.any),(40,.any),(41,.any),(42,.any),(43,.any),(44,.any),(45,.any),(46,.any),(47,.any),(48,.any)])
  (λq=>[(900,.cells 97 13 [bl q.2.u]),(8,.cells 62 5 [ZN q.2.n])]) (l,g0) ⟨hgo,Nat.le_refl _,hls,by simpa using hi0,hn0⟩ ?_ λq hq=>?_
 ·simp only[go_sem];exact ZU w3 QT QT
 obtain ⟨r,g⟩:=q;obtain ⟨hgf,hrl,hrs,hui,hno⟩:=hq;simp only at hgf hrl hrs hui hno;simp only[go_sem];refine wR ?_;refine wN tK 7 ?_;refine al 24 z6 (λc24 h24=>?_);simp only[go_sem];have hc:c24=(decide (0<r.length)&&(g.e==0)):=by
  rw[←h24];cases r<;>simp
 clear h24;refine wG tK ?_
 by_cases he:g.e=0
 ·cases r with
  | nil=>
   refine wDF (hb:=(by simp[hc])) (hk:=?_);refine wG tK ?_;rw[hgf,goR,if_pos he];refine wDF (hb:=QI) (hk:=?_);refine wGq tK ?_ ?_ w6
   ·simp[ZN]
   refine wU ?_ ?_
   ·simp[ZN]
   ·exact q9q
  | cons s r=>
   have hsl:=hrs s List.mem_cons_self;have hent:=iv g.n s (by have:=hno.ent;omega);rw[dU hno.eup] at hent;refine wDT (hb:=(by simp[hc,he])) (hk:=?_);refine wG tK ?_ w6 QT;cases hd:g.n.dir with
   | false=>
    refine wDT (hb:=(rfl)) (hk:=?_);refine wG tK ?_;refine ag (ar 6) ?_;simp only[go_sem];refine wU ?_ ?_
    ·simp[hgf,goR,he,hd,ZN,au]
    ·have e:gF.u=g.u:=by simp[hgf,goR,he,hd]
     rw[e];simp only[pins,List.cons_append,List.nil_append,List.map_cons,List.map_nil]
     repeat' refine ZH ?_ ?_
     all_goals first | exact YH _ | rfl | simp[go_sem]
   | true=>
    refine wDF (hb:=(rfl)) (hk:=?_);refine wG tK ?_;refine ZW ZM ?_;refine ZS rfl ?_;refine sN tK 4 ?_ z6 z6 (by simp only[go_sem,aP];try exact rfl) (by simp[go_sem,aP]);unfold ZN at hent;rw[hd] at hent;cases hen:a_ g.n s with
    | none=>
     rw[hen] at hent;refine sC Tryz.func50 (hf:=(hent)) (hk:=?_);refine sG tK ?_;refine sE ?_;refine wKd ?_
     try simp only[go_sem,gA,gB,gC]
     refine wG tK ?_;refine wDT (hb:=(rfl)) (hk:=?_);refine wG tK ?_;refine ag (ar 6) ?_;simp only[go_sem];refine wU ?_ ?_
     ·simp[hgf,goR,he,hd,hen,ZN,au]
     ·have e:gF.u=g.u:=by simp[hgf,goR,he,hd,hen]
      rw[e];simp only[pins,List.cons_append,List.nil_append,List.map_cons,List.map_nil]
      repeat' refine ZH ?_ ?_
      all_goals first | exact YH _ | rfl | simp[go_sem]
    | some f=>
     rw[hen] at hent;have hg1:=n_ g.u hui hB z8 f worth;unfold uH gP at hg1;have hui2:=bP hui f worth;have hno2:=il hui f worth;have hgf2:gF=goR worth r (ba g.u f worth):=by rw[hgf,goR,if_neg QI,if_neg (by simp[hd]),hen]
     generalize ba g.u f worth=g2 at *;refine sC Tryz.func50 (hf:=(hent)) (hk:=?_);refine sG tK ?_;refine sE ?_;refine wKd ?_
     try simp only[go_sem,gA,gB,gC]
     refine wG tK ?_;refine wDF (hb:=(rfl)) (hk:=?_);refine wG tK ?_;refine wP [900] Tryz.func78 (hf:=(hg1)) (hk:=?_);refine wGq tK ?_ ?_ w6
     ·simp[ZN,aP]
     refine ZB ⟨(r,g2),⟨hgf2,by simp only[List.length_cons] at hrl;simp only;omega,λx hx=>hrs x (List.mem_cons_of_mem _ hx),?_,hno2⟩,by simp,ZU ?_ ?_ ?_⟩
     ·simp only[List.length_cons] at hrl hui2 ⊢;exact hui2.mono (Nat.le_refl _) z8
     ·simp[go_sem]
     ·simp[go_sem,ZN]
     ·simp[go_sem,ZN]
 ·refine wDF (hb:=(by simp[hc,he])) (hk:=?_);refine wG tK ?_;refine wDT (hb:=QI) (hk:=?_);refine wG tK ?_;refine ag (ar 6) ?_;simp only[go_sem];refine wU ?_ ?_
  ·rw[hgf];cases r<;>simp[goR,he,ZN,au]
  ·rw[hgf];have e:(goR worth r g).u=g.u:=by cases r<;>simp[goR,he]
   rw[e];simp only[pins,List.cons_append,List.nil_append,List.map_cons,List.map_nil]
   repeat' refine ZH ?_ ?_
   all_goals first | exact YH _ | rfl | simp[go_sem]
theorem lO {B T:Nat} (u:U) (h:UInv B T u) (hB:B≤40000000) (hT:T≤900000000000) (path:List UInt8) (hp:path.length≤10000000) (G Y N:Nat->Nat):ae Tryz.prog 37 [.ptr 900 13 0 0,.str path] (uH u G Y N)
  (λr H=>r=.tup [.agg (ZN (ai u path).n),.str (ai u path).name,.int .i64 (ai u path).e]/\Holds (uH (ai u path).u G Y N) H):=by
 have hsp:=iw path hp;have hsl:=bV path;have hdu:ai u path=if (af path).2≠0 then ⟨au,[],(af path).2,u⟩
  else if (af path).1.length=0 then ⟨au,[],7,u⟩
  else ⟨(goU u ((af path).1.take ((af path).1.length-1)) 0).n,(af path).1.getD ((af path).1.length-1) [],
   if (goU u ((af path).1.take ((af path).1.length-1)) 0).e=0/\(goU u ((af path).1.take ((af path).1.length-1)) 0).n.dir=false then 8 else (goU u ((af path).1.take ((af path).1.length-1)) 0).e,
   (goU u ((af path).1.take ((af path).1.length-1)) 0).u⟩:=rfl
 generalize ai u path=dF at *;unfold cn at hsp;generalize af path=S at *;obtain ⟨L,E⟩:=S;obtain ⟨hll,hlx⟩:=hsl;simp only at hdu hll hlx hsp;unfold uH;refine ZF tK (Tryz.func37) rfl (λC=>?_);simp only[Tryz.ntmps37,Tryz.results37,go_sem];refine wG tK ?_;refine ag (ar 4) ?_;simp only[go_sem];refine wC Tryz.func17 (hf:=(hsp)) (hk:=?_);refine wG tK ?_
 by_cases hE:E=0
 ·refine wDF (hb:=x8) (hk:=?_);refine wG tK ?_;rw[if_neg x8] at hdu
  by_cases hL:L.length=0
  ·rw[if_pos hL] at hdu;refine wDT (hb:=(by simp[hL])) (hk:=?_);refine wG tK ?_;refine ag (ar 4) ?_;simp only[go_sem];refine wU ?_ ?_
   ·rw[hdu];simp[ZN,au]
   ·rw[hdu];simp only[pins,List.cons_append,List.nil_append,List.map_cons,List.map_nil]
    repeat' refine ZH ?_ ?_
    all_goals first | exact YH _ | rfl | simp[go_sem]
  ·rw[if_neg hL] at hdu;have hw:IntKind.i64.wrap ((L.length:Int)-1)=((L.length-1:Nat):Int):=by rw[Eng.wrap_small z8 z8];omega
   have hgo:=rV u h hB hT (L.take (L.length-1)) QH (λx hx=>by have:=(hlx x (List.mem_of_mem_take hx)).1;omega) 0;have hgl:(L.map aP).getD (L.length-1) []=[.str (L.getD (L.length-1) [])]:=by
    have hi:L.length-1<L.length:=by omega
    rw[List.getD_eq_getElem?_getD,List.getElem?_map,List.getD_eq_getElem?_getD,List.getElem?_eq_getElem hi];rfl
   have hLlt:L.length-1<L.length:=by omega
   have htk:(L.map aP).take (L.length-1)=(L.take (L.length-1)).map aP:=List.map_take.symm;unfold uH gP at hgo;generalize goU u (L.take (L.length-1)) 0=g at *;refine wDF (hb:=(by simp[hL])) (hk:=?_);refine wR ?_;refine wNq tK 6 ?_ ?_ z6 z6 (by simp only[go_sem,hw,htk];try exact rfl)
   ·simp[hw,htk];exact λ_ _=>rfl
   refine wP [900] Tryz.func35 (hf:=(hgo)) (hk:=?_);refine wGq tK ?_ ?_ w6
   ·simp[ZN]
   by_cases hge:g.e=0
   ·cases hd:g.n.dir with
    | true=>
     have hdF:dF=⟨g.n,L.getD (L.length-1) [],g.e,g.u⟩:=by rw[hdu];simp[hd]
     rw[hdF];refine wDF (hb:=WZ) (hk:=?_);refine wG tK ?_;refine ZW ZM ?_;refine ZS rfl ?_;refine sN tK 7 ?_ z6 z6 p9 Qd;refine sN tK 1 ?_;refine sT tK ?_;refine sG tK ?_;refine sE ?_;refine wKd ?_
     try simp only[go_sem,gA,gB,gC]
     refine wG tK ?_;refine wU ?_ ?_
     ·first | (simp[ZN];done) | simp[ZN,hd]
     ·exact q9q
    | false=>
     have hdF:dF=⟨g.n,L.getD (L.length-1) [],8,g.u⟩:=by rw[hdu];simp[hd,hge]
     rw[hdF];refine wDT (hb:=WZ) (hk:=?_);refine wG tK ?_;refine wG tK ?_;refine ZW ZM ?_;refine ZS rfl ?_;refine sN tK 7 ?_ z6 z6 p9 Qd;refine sN tK 1 ?_;refine sT tK ?_;refine sG tK ?_;refine sE ?_;refine wKd ?_
     try simp only[go_sem,gA,gB,gC]
     refine wG tK ?_;refine wU ?_ ?_
     ·first | (simp[ZN];done) | simp[ZN,hd]
     ·exact q9q
   ·have hdF:dF=⟨g.n,L.getD (L.length-1) [],g.e,g.u⟩:=by rw[hdu];simp[hge]
    rw[hdF];refine wDF (hb:=u1) (hk:=?_);refine wG tK ?_;refine ZW ZM ?_;refine ZS rfl ?_;refine sN tK 7 ?_ z6 z6 p9 Qd;refine sN tK 1 ?_;refine sT tK ?_;refine sG tK ?_;refine sE ?_;refine wKd ?_
    try simp only[go_sem,gA,gB,gC]
    refine wG tK ?_;refine wU ?_ ?_
    ·first | (simp[ZN];done) | simp[ZN,hd]
    ·exact q9q
 ·rw[if_pos x8] at hdu;refine wDT (hb:=x8) (hk:=?_);refine wG tK ?_;refine ag (ar 4) ?_;simp only[go_sem];refine wU ?_ ?_
  ·rw[hdu];simp[ZN,au]
  ·rw[hdu];simp only[pins,List.cons_append,List.nil_append,List.map_cons,List.map_nil]
   repeat' refine ZH ?_ ?_
   all_goals first | exact YH _ | rfl | simp[go_sem]
def gu (l:List Hoard) (path:List UInt8) (i:Nat):List Hoard:=cd (l.take i) path
theorem uL {l:List Hoard} (path:List UInt8) {i:Nat} (h:i<l.length):gu l path (i+1)=if ((l.getD i default).path==path)=true then gu l path i else gu l path i++[l.getD i default]:=by
 unfold gu cd;rw[ZT h,List.filter_append,List.filter_cons];cases ((l.getD i default).path==path)<;>simp
theorem yO (l:List Hoard) (path:List UInt8) (i:Nat):(gu l path i).length≤i:=by
 have:=List.length_filter_le (λh:Hoard=>!(h.path==path)) (l.take i);unfold gu cd;rw[List.length_take] at this;omega
theorem zu {B T:Nat} (u:U) (h:UInv B T u) (path:List UInt8) (hp:path.length≤10000000) (w:Int) (G Y N:Nat->Nat):ae Tryz.prog 41 [.ptr 900 13 0 0,.str path,.int .i64 w] (uH u G Y N)
  (λr H=>r=.int .i64 (dB u path w).e/\Holds (uH (dB u path w).u G Y N) H):=by
 have hsp:=iw path hp;have h6:=h.cli.hoards;have hW0:dB u path w=if (af path).2≠0 then ⟨(af path).2,u⟩ else if w<0\/w>100 then ⟨3,u⟩
  else if 0<w/\(cd u.c.hoards path).length≥6 then ⟨5,u⟩
  else ⟨0,⟨{ u.c with hoards:=if 0<w then cd u.c.hoards path++[⟨path,w⟩] else cd u.c.hoards path },u.s⟩⟩:=rfl
 have hD0:gu u.c.hoards path 0=[]:=rfl;have hDs:=λi=>@uL u.c.hoards path i
 have hDn:=yO u.c.hoards path;have hDe:gu u.c.hoards path u.c.hoards.length=cd u.c.hoards path:=by unfold gu;rw[List.take_length]
 generalize gu u.c.hoards path=D at *;generalize dB u path w=wF at *;unfold cn at hsp;generalize af path=S at *;obtain ⟨L,E⟩:=S;simp only at hW0 hsp;unfold uH bl;refine ZF tK (Tryz.func41) rfl (λC=>?_);simp only[Tryz.ntmps41,Tryz.results41,go_sem];refine wG tK ?_;refine wC Tryz.func17 (hf:=(hsp)) (hk:=?_);refine wG tK ?_
 by_cases hE:E=0
 ·rw[if_neg x8] at hW0;refine wDF (hb:=x8) (hk:=?_);refine wR ?_;refine wN tK 6 ?_;refine al 25 z6 (λc25 h25=>?_);simp only[go_sem];have hc:c25=true↔(w<0\/w>100):=by
   rw[←h25];cases e1:decide (w<0)<;>simp at e1<;>simp[e1]<;>omega
  clear h25;refine wG tK ?_
  by_cases hwr:w<0\/w>100
  ·rw[if_pos hwr] at hW0;have hW:=hW0;refine wDT (hb:=(hc.2 hwr)) (hk:=?_);refine wG tK ?_;refine wU ?_ ?_
   ·rw[hW]
   ·rw[hW];simp only[pins,List.cons_append,List.nil_append,List.map_cons,List.map_nil]
    repeat' refine ZH ?_ ?_
    all_goals first | exact YH _ | rfl | simp[go_sem]
  ·rw[if_neg hwr] at hW0;refine wDF (hb:=(by simpa using λh0=>hwr (hc.1 h0))) (hk:=?_);refine wG tK ?_;refine ag (le_empty 43 76 2 z7) ?_;simp only[go_sem];refine ZL (λi:Nat=>i≤u.c.hoards.length) (λi=>u.c.hoards.length-i) (λi=>[(9,.osl 43 2 0 (D i).length),(11,.any),(32,.int .i64 i),(33,.any),(34,.any),(35,.any),(36,.any),(37,.any),(38,.any),(39,.any),(40,.any),(41,.any),(42,.any),(43,.any),(44,.any)]) (λi=>[(43,.cells 76 2 ((D i).map ZJ))]) 0 z8 ?_ λi hi=>?_
   ·simp only[go_sem];rw[hD0];exact ZU w3 w3 w3
   simp only[go_sem];refine wG tK ?_;refine wD (λh=>?_) (λh=>?_)
   ·have hlt:i<u.c.hoards.length:=by simp at h;omega
    have hg:(u.c.hoards.map ZJ).getD i []=ZJ (u.c.hoards.getD i default):=Fam.getD hlt;have hw1:=wi1 (i:=i) z8;have htk:=hDs i hlt;have hll:=hDn i;generalize D i=Di at *;generalize u.c.hoards.getD i default=x at *;have htq:List.take Di.length (Di.map ZJ)=Di.map ZJ:=List.take_of_length_le y8;refine wGq tK ?_ ?_ QP
    ·simp[hg,ZJ,hlt]
    cases hb:(x.path==path) with
    | true=>
     rw[hb,if_pos rfl] at htk;refine wDF (hb:=y8) (hk:=?_);refine wG tK ?_ j7 QF;refine ZB ⟨i+1,by omega,by omega,ZU ?_ ?_ ?_⟩
     ·simp[go_sem,htk]
     ·simp[go_sem,htk]
     ·simp[go_sem]
    | false=>
     rw[hb,if_neg Bool.false_ne_true] at htk;refine wDT (hb:=y8) (hk:=?_);refine wGq tK ?_ ?_ j7
     ·simp[htq,refs];exact ⟨by intro row h;simp at h;subst h;rfl,by omega⟩
     refine ZB ⟨i+1,by omega,by omega,ZU ?_ ?_ ?_⟩
     ·simp[go_sem,htk]
     ·simp[go_sem,htk,htq,ZJ]
     ·simp[go_sem]
   ·have e:i=u.c.hoards.length:=by simp at h;omega
    subst e;have hDl:=hDn u.c.hoards.length;rw[hDe] at hDl ⊢;generalize cd u.c.hoards path=F at *;have htq:List.take F.length (F.map ZJ)=F.map ZJ:=List.take_of_length_le y8;refine wR ?_;refine wN tK 7 ?_;refine al 51 z6 (λc51 h51=>?_);simp only[go_sem];have hc2:c51=true↔(0<w/\F.length≥6):=by
     rw[←h51];cases e1:decide (w>0)<;>simp at e1<;>simp[e1]<;>omega
    clear h51;refine wG tK ?_
    by_cases hfl:0<w/\F.length≥6
    ·rw[if_pos hfl] at hW0;have hW:=hW0;refine wDT (hb:=(hc2.2 hfl)) (hk:=?_);refine wG tK ?_;refine wU ?_ ?_
     ·rw[hW]
     ·rw[hW];simp only[pins,List.cons_append,List.nil_append,List.map_cons,List.map_nil]
      repeat' refine ZH ?_ ?_
      all_goals first | exact YH _ | rfl | simp[go_sem]
    ·rw[if_neg hfl] at hW0;refine wDF (hb:=(by simpa using λh0=>hfl (hc2.1 h0))) (hk:=?_);refine wG tK ?_
     by_cases hw0:0<w
     ·rw[if_pos hw0] at hW0;have hW:=hW0;refine wDT (hb:=WR) (hk:=?_);refine wGq tK ?_ ?_
      ·simp[htq,refs];exact ⟨by intro row h;simp at h;subst h;rfl,by omega⟩
      refine ZZ 59 rfl (by rw[List.all_append,dT];rfl) ?_;simp only[go_sem];have htq2:List.take (F.length+1) (F.map ZJ++[[AV.str path,AV.int .i64 w]])=(F++[(⟨path,w⟩:Hoard)]).map ZJ:=by rw[List.take_of_length_le y8,List.map_append];rfl
      rw[htq2];refine wU ?_ ?_
      ·rw[hW]
      ·rw[hW];simp only[pins,List.cons_append,List.nil_append,List.map_cons,List.map_nil]
       repeat' refine ZH ?_ ?_
       all_goals first | exact YH _ | rfl | simp[go_sem]
     ·rw[if_neg hw0] at hW0;have hW:=hW0;refine wDF (hb:=WR) (hk:=?_);refine wR ?_;refine ZZ 43 rfl (dT _) ?_;simp only[go_sem,htq];refine wG tK ?_;refine wU ?_ ?_
      ·rw[hW]
      ·rw[hW];simp only[pins,List.cons_append,List.nil_append,List.map_cons,List.map_nil]
       repeat' refine ZH ?_ ?_
       all_goals first | exact YH _ | rfl | simp[go_sem]
 ·rw[if_pos x8] at hW0;have hW:=hW0;refine wDT (hb:=x8) (hk:=?_);refine wG tK ?_;refine wU ?_ ?_
  ·rw[hW]
  ·rw[hW];simp only[pins,List.cons_append,List.nil_append,List.map_cons,List.map_nil]
   repeat' refine ZH ?_ ?_
   all_goals first | exact YH _ | rfl | simp[go_sem]
theorem yo {u:U} {g:GotV} (h:Idle u g.u) (x:Hoard):Idle u (eW g x).u:=h.trans (C1 g.u (af x.path).1 x.worth)
structure VI (B T:Nat) (u:U) (g:GotV) (k:Nat):Prop where
 inv:UInv B (T+42*k) g.u
 idle:Idle u g.u
 n:g.n≤k
theorem VI.mono {B T:Nat} {u:U} {g:GotV} {k m:Nat} (h:VI B T u g k) (hm:k≤m):VI B T u g m:=⟨h.inv.mono (Nat.le_refl _) z8,h.idle,Nat.le_trans h.n hm⟩
theorem VI.step {B T:Nat} {u:U} {g:GotV} {k:Nat} (h:VI B T u g k) (x:Hoard):VI B T u (eW g x) (k+1):=by
 refine ⟨?_,yo h.idle x,?_⟩
 ·have:=sw h.inv x
  rwa [show T+42*k+42=T+42*(k+1) by omega] at this
 ·have:=h.n;unfold eW;simp only;split<;>omega
theorem xQ {B T:Nat} (u:U) (h:UInv B T u) (ha:u.c.away=true) (G Y N:Nat->Nat):ae Tryz.prog 42 [.ptr 900 13 0 0] (uH u G Y N)
  (λr H=>r=.tup [.int .i64 0,.int .i64 12]/\Holds (uH u G Y N) H):=by
 unfold uH bl;refine ZF tK (Tryz.func42) rfl (λC=>?_);simp only[Tryz.ntmps42,Tryz.results42,go_sem];refine wG tK ?_;refine wDT (hb:=(ha)) (hk:=?_);refine wG tK ?_;refine wU ?_ ?_
 ·rfl
 ·exact q9q
theorem xR {B T:Nat} (u:U) (h:UInv B T u) (ha:u.c.away=false) (hB:B≤30000000) (hT:T≤800000000000) (G Y N:Nat->Nat):ae Tryz.prog 42 [.ptr 900 13 0 0] (uH u G Y N)
  (λr H=>r=.tup [.int .i64 ((eG u).n:Int),.int .i64 0]/\Holds (uH (eG u).u G Y N) H):=by
 have h6:=h.cli.hoards;have hV:eG u=(bo u.c.hoards 100).foldl eW ⟨0,u⟩:=rfl;have h0:VI B T u ⟨0,u⟩ 0:=⟨h,Idle.refl u,Nat.le_refl _⟩;generalize eG u=vF at *;unfold uH;refine ZF tK (Tryz.func42) rfl (λC=>?_);simp only[Tryz.ntmps42,Tryz.results42,go_sem];refine wG tK ?_ Zj Zf;refine wDF (hb:=(ha)) (hk:=?_);refine wG tK ?_;refine ZL (λq:Nat×GotV=>q.1≤100/\vF=(bo u.c.hoards q.1).foldl eW q.2/\VI B T u q.2 (6*(100-q.1))) (λq=>q.1) (λq=>[(4,.int .i64 (q.2.n:Int)),(5,.int .i64 (q.1:Int)),(6,.any),(7,.any),(8,.any),(9,.any),(10,.any),(11,.any),(12,.any),(13,.any),(14,.any),(15,.any),(16,.any),(17,.any),(18,.any),(19,.any),(20,.any),(21,.any),(22,.any),(23,.any),(24,.any),(25,.any),(26,.any),(27,.any),(28,.any),(29,.any),(30,.any),(31,.any),(32,.any),(33,.any),(34,.any),(35,.any),(36,.any),(37,.any),(38,.any),(39,.any),(40,.any),(41,.any),(42,.any),(43,.any),(44,.any),(45,.any),(46,.any),(47,.any),(48,.any),(49,.any),(50,.any),(51,.any),(52,.any),(53,.any)])
  (λq=>[(900,.cells 97 13 [bl q.2.u])]) (100,⟨0,u⟩) ⟨by omega,hV,h0.mono z8⟩ ?_ λq hq=>?_
 ·simp only[go_sem];exact ZU w3 Zf w3
 obtain ⟨w,g⟩:=q;obtain ⟨hw1,hvf,hvi⟩:=hq;simp only at hw1 hvf hvi;simp only[go_sem];refine wG tK ?_;cases w with
 | zero=>
  refine wDF (hb:=y8) (hk:=?_);refine wG tK ?_;rw[bo,List.foldl_nil] at hvf;rw[hvf];refine wU ?_ ?_
  ·rfl
  ·exact q9q
 | succ w=>
  have hho:=hvi.idle.hoards;refine wDT (hb:=y8) (hk:=?_);refine wG tK ?_ Zj Zf;rw[hho];have hwp:IntKind.i64.wrap (((w+1:Nat):Int)-1)=((w:Nat):Int):=by rw[Eng.wrap_small z8 z8];omega
  rw[bo,List.foldl_append] at hvf;refine ZL (λq:Nat×GotV=>q.1≤u.c.hoards.length/\vF=(bo u.c.hoards w).foldl eW (((u.c.hoards.drop q.1).filter λh=>h.worth==((w+1:Nat):Int)).foldl eW q.2)/\VI B T u q.2 (6*(100-(w+1))+q.1)) (λq=>u.c.hoards.length-q.1)
   (λq=>[(4,.int .i64 (q.2.n:Int)),(27,.int .i64 (q.1:Int)),(7,.any),(8,.any),(9,.any),(10,.any),(11,.any),(28,.any),(29,.any),(30,.any),(31,.any),(32,.any),(33,.any),(34,.any),(35,.any),(36,.any),(37,.any),(38,.any),(39,.any),(40,.any),(41,.any),(42,.any),(43,.any),(44,.any),(45,.any),(46,.any),(47,.any),(48,.any),(49,.any),(50,.any),(51,.any),(52,.any)]) (λq=>[(900,.cells 97 13 [bl q.2.u])]) (0,g) ⟨Nat.zero_le _,by rw[List.drop_zero];exact hvf,hvi⟩ ?_ λq hq=>?_
  ·simp only[go_sem];exact ZU w3 (by simp[go_sem,bl,hho]) w3
  obtain ⟨i,g2⟩:=q;obtain ⟨hi,hvf2,hvi2⟩:=hq;simp only at hi hvf2 hvi2;clear hvf hvi h0;simp only[go_sem];refine wG tK ?_;refine wD (λh=>?_) (λh=>?_)
  ·have hlt:i<u.c.hoards.length:=by simp at h;omega
   have hg:(u.c.hoards.map ZJ).getD i []=ZJ (u.c.hoards.getD i default):=Fam.getD hlt;have hwi:=wi1 (i:=i) z8;have hok:=(show UInv B T u by assumption).cli.hoardS _ (YG hlt);rw[bY hlt,List.filter_cons] at hvf2;generalize u.c.hoards.getD i default=x at *;refine wGq tK ?_ ?_ QP
   ·simp[hg,ZJ,hlt]
   cases hb:(x.worth==((w+1:Nat):Int)) with
   | true=>
    have hxw:x.worth=((w+1:Nat):Int):=by simpa using hb
    rw[hb,if_pos rfl,List.foldl_cons] at hvf2;have hst:=hvi2.step x;have hsp:=iw x.path (by have:=hok.path;omega);have hsl:=bV x.path;have hvs:eW g2 x=⟨if (goU g2.u (af x.path).1 x.worth).e=0 then g2.n+1 else g2.n,(goU g2.u (af x.path).1 x.worth).u⟩:=rfl;have hgo:=rV g2.u hvi2.inv z8 z8 (af x.path).1 (by have:=hsl.1;omega) (λy hy=>by have:=(hsl.2 y hy).1;omega) x.worth;rw[hvs] at hvf2 hst;unfold cn at hsp;unfold uH gP at hgo;generalize goU g2.u (af x.path).1 x.worth=q at *;rw[hxw] at hgo;generalize (af x.path).1=L at *;have hgn:=hvi2.n;have hwn:IntKind.i64.wrap ((g2.n:Int)+1)=((g2.n+1:Nat):Int):=by rw[Eng.wrap_small z8 z8];rfl
    refine wDT (hb:=y8) (hk:=?_);refine wG tK ?_;refine wC Tryz.func17 (hf:=(hsp)) (hk:=?_);refine wG tK ?_;refine wP [900] Tryz.func35 (hf:=(hgo)) (hk:=?_);refine wGq tK ?_ ?_ w6
    ·simp[ZN]
    by_cases hqe:q.e=0
    ·rw[if_pos hqe] at hvf2 hst;refine wDT (hb:=Zo) (hk:=?_);refine wG tK ?_ (by simp only[go_sem,hwn,hwi];try exact rfl) (by simp[go_sem,hwn,hwi]);refine ZB ⟨(i+1,⟨g2.n+1,q.u⟩),⟨by simp only;omega,hvf2,hst⟩,by simp only;omega,ZU ?_ ?_ ?_⟩
     ·simp[go_sem]
     ·simp[go_sem]
     ·simp[go_sem]
    ·rw[if_neg hqe] at hvf2 hst;refine wDF (hb:=Zo) (hk:=?_);refine wG tK ?_ Zg (by simp[go_sem,hwi]);refine ZB ⟨(i+1,⟨g2.n,q.u⟩),⟨by simp only;omega,hvf2,hst⟩,by simp only;omega,ZU ?_ ?_ ?_⟩
     ·simp[go_sem]
     ·simp[go_sem]
     ·simp[go_sem]
   | false=>
    rw[hb,if_neg Bool.false_ne_true] at hvf2;refine wDF (hb:=y8) (hk:=?_);refine wG tK ?_ Zg (by simp[go_sem,hwi]);refine ZB ⟨(i+1,g2),⟨by simp only;omega,hvf2,hvi2.mono (by simp only;omega)⟩,by simp only;omega,ZU ?_ ?_ ?_⟩
    ·simp[go_sem]
    ·simp[go_sem]
    ·simp[go_sem]
  ·have e:i=u.c.hoards.length:=by simp at h;omega
   subst e;rw[List.drop_length,List.filter_nil,List.foldl_nil] at hvf2;refine wG tK ?_ QK Q8;refine ZB ⟨(w,g2),⟨by simp only;omega,hvf2,hvi2.mono (by simp only;omega)⟩,by simp only;omega,ZU ?_ ?_ ?_⟩
   ·simp[go_sem]
   ·simp[go_sem,bl]
   ·simp[go_sem]
theorem FX {l:List Node} (hg:Good l) (hr:Ri l) {a:Act} (ha:ActFit a):RFit l a where
 ri:=hr
 ent:=λn hn=>by have:=hg.ent n hn;omega
 len:=by have:=hg.len;omega
 all:=by have:=yC hg.ent;have:=hg.len;omega
 name:=ha.name
 toName:=ha.toName
 data:=ha.data
theorem Hist.ri {p:List Past} {t:List Node} (h:Hist p t):Ri t:=⟨h.bM.up,λn hn=>(h.whole.loc n hn).eup⟩
theorem lN {l:List Node} (hg:Good l) (hr:Ri l) {a:Act} (ha:ActFit a) (v:Int):ae Tryz.prog 82 [.rm (mN (bB l)),.agg (ZA a),.int .i64 v] []
  (λr _=>r=if aC l a=0 then .tup [.rm (mN (bB (aG l a v))),.int .i64 0] else .tup [.nilm,.int .i64 (aC l a)]):=by
 have h:=BC l a v (FX hg hr ha);unfold vd at h;rw[hg.aC,hg.aG] at h;exact h
noncomputable def HP (s:Srv) (c:Int) (a:Act):AV:=if doE s a=0 then .tup [.agg (ZQ (doS s c a)),.int .i64 0] else .tup [.agg [.sl [],.int .i64 0,.sl []],.int .i64 (doE s a)]
theorem HQ {k:Nat} (s:Srv) (h:SrvOK k s) (hk:k≤80000000) (c:Int) (a:Act) (ha:ActFit a):ae Tryz.prog 80 [.agg (ZQ s),.int .i64 c,.agg (ZA a)] [] (λr _=>r=HP s c a):=by
 have hlen:=h.len;have hnx:=h.next;have hg:=h.hist.bM;have hda:ActFit (doA s a):=by unfold doA;split;exact ⟨ha.name,ha.toName,ha.data⟩;exact ha
 have hw:IntKind.i64.wrap (s.next+1)=s.next+1:=Eng.wrap_small z8 z8;have hwp:IntKind.i64.wrap ((s.past.length:Int)+1)=((s.past.length+1:Nat):Int):=by rw[Eng.wrap_small z8 z8];rfl
 have hof:=tQ s.tree (by have:=hg.len;omega);have hap:=lN hg h.hist.ri hda ((s.past.length+1:Nat):Int);have hls:aC s.tree (doA s a)=0->ae Tryz.prog 84 [.rm (mN (bB (aG s.tree (doA s a) ((s.past.length+1:Nat):Int))))] [] (λr _=>r=.sl ((aG s.tree (doA s a) ((s.past.length+1:Nat):Int)).map ZN)):=λhe=>by
  have hg2:=fm hg (doA s a) ((s.past.length+1:Nat):Int) he;exact qC _ hg2.up (by have:=hg2.len;omega)
 unfold HP doS doE;unfold ZQ;refine ZF tK (Tryz.func80) rfl (λC=>?_);simp only[Tryz.ntmps80,Tryz.results80,go_sem];refine wGq tK ?_ ?_ QV
 ·simp[ZA]
 refine wD (λh=>?_) (λh=>?_)
 ·have hm:aM a=true:=by unfold aM;revert h;cases (a.kind==1)<;>simp
  have hdo:doA s a={ a with fid:=s.next }:=by unfold doA;rw[if_pos hm]
  rw[hdo] at hap hls ⊢;simp only[hm,if_true];generalize aC s.tree { a with fid:=s.next }=e at *;generalize aG s.tree { a with fid:=s.next } ((s.past.length+1:Nat):Int)=L at *;refine wG tK ?_
  by_cases he:e=0
  ·subst he;have hls:=hls rfl;have hnr2:∀id,bH id (.cells 120 8 (List.take s.past.length (s.past.map ZP)++[ZP (⟨c,{ a with fid:=s.next }⟩:Past)])):=λid=>by
    rw[show List.take s.past.length (s.past.map ZP)++[ZP (⟨c,{ a with fid:=s.next }⟩:Past)]=(s.past++[(⟨c,{ a with fid:=s.next }⟩:Past)]).map ZP by simp];exact bx id _
   simp only[if_true] at hap ⊢;refine ZW ZM ?_;refine ZS rfl ?_;refine sN tK 2 ?_;refine sC Tryz.func18 (hf:=(hof)) (hk:=?_);refine sN tK 5 ?_ z6 z6 QK Q8;refine sC Tryz.func82 (hf:=(hap)) (hk:=?_);refine sG tK ?_;refine sE ?_;refine wKd ?_
   try simp only[go_sem,gA,gB,gC]
   refine wG tK ?_;refine wDF (hb:=y8) (hk:=?_);refine wG tK ?_;refine ZW ZM ?_;refine kI [(44,[44]),(47,[47])] rfl (AP WS) ?_;refine zN tK 1 (hk:=?_);refine zC Tryz.func84 (hf:=(hls)) (hk:=?_);refine zN tK 2 (hk:=?_);refine zW tK (hk:=?_);refine zN tK 2 (hk:=?_);refine zA tK (h2:=?_) (h4:=?_) (h5:=?_) (h7:=?_) (h8:=?_) (hzz:=?_) (hn:=rfl) (hr:=rfl) (hk:=?_)
   ·exact iJ _
   ·exact kD _
   ·rw[show tab.byt 120=96 from rfl];simp;omega
   ·simp
   ·exact bx 44 s.past
   ·intro z hz;simp only[List.mem_cons,List.not_mem_nil,or_false] at hz
    rcases hz with rfl | rfl
    ·exact .inl ⟨by decide,bx 44 s.past⟩
    ·exact .inr ⟨rfl,by decide⟩
   refine zN tK 2 (hk:=?_);refine zB tK (hk:=?_);refine zW tK (hk:=?_);refine zA tK (h2:=?_) (h4:=?_) (h5:=?_) (h7:=?_) (h8:=?_) (hzz:=?_) (hn:=rfl) (hr:=rfl) (hk:=?_)
   ·intro row h;simp at h;subst h;rfl
   ·rfl
   ·rw[show tab.byt 120=96 from rfl];simp;omega
   ·simp
   ·exact hnr2 47
   ·intro z hz;simp only[List.mem_cons,List.not_mem_nil,or_false] at hz
    rcases hz with rfl | rfl
    ·exact .inl ⟨by decide,hnr2 44⟩
    ·exact .inl ⟨by decide,hnr2 47⟩
   refine zB tK (hk:=?_);refine zW tK (hk:=?_);refine og w4 z6 ?_;refine dS tK ?_;refine wKd ?_
   try simp only[go_sem,gA,gB,gC]
   refine wG tK ?_;refine wDT (hb:=(h)) (hk:=?_);refine wG tK ?_ w5 k0;refine ZZ 52 rfl Zb ?_;simp only[go_sem];refine wT ?_;rw[List.take_of_length_le y8];simp[ZP]
  ·simp only[he,if_false] at hap ⊢;refine ZW ZM ?_;refine ZS rfl ?_;refine sN tK 2 ?_;refine sC Tryz.func18 (hf:=(hof)) (hk:=?_);refine sN tK 5 ?_ z6 z6 QK Q8;refine sC Tryz.func82 (hf:=(hap)) (hk:=?_);refine sG tK ?_;refine sE ?_;refine wKd ?_
   try simp only[go_sem,gA,gB,gC]
   refine wG tK ?_;refine wDT (hb:=QI) (hk:=?_);refine wG tK ?_;refine ag (ar 6) ?_;refine wT ?_;simp[he]
 ·have hm:aM a=false:=by unfold aM;revert h;cases (a.kind==1)<;>simp
  have hdo:doA s a=a:=by unfold doA;rw[if_neg (by simp[hm])]
  rw[hdo] at hap hls ⊢;simp only[hm,Bool.false_eq_true,if_false];generalize aC s.tree a=e at *;generalize aG s.tree a ((s.past.length+1:Nat):Int)=L at *;refine wG tK ?_
  by_cases he:e=0
  ·subst he;have hls:=hls rfl;have hnr2:∀id,bH id (.cells 120 8 (List.take s.past.length (s.past.map ZP)++[ZP (⟨c,a⟩:Past)])):=λid=>by
    rw[show List.take s.past.length (s.past.map ZP)++[ZP (⟨c,a⟩:Past)]=(s.past++[(⟨c,a⟩:Past)]).map ZP by simp];exact bx id _
   simp only[if_true] at hap ⊢;refine ZW ZM ?_;refine ZS rfl ?_;refine sN tK 2 ?_;refine sC Tryz.func18 (hf:=(hof)) (hk:=?_);refine sN tK 5 ?_ z6 z6 QK Q8;refine sC Tryz.func82 (hf:=(hap)) (hk:=?_);refine sG tK ?_;refine sE ?_;refine wKd ?_
   try simp only[go_sem,gA,gB,gC]
   refine wG tK ?_;refine wDF (hb:=y8) (hk:=?_);refine wG tK ?_;refine ZW ZM ?_;refine kI [(44,[44]),(47,[47])] rfl (AP WS) ?_;refine zN tK 1 (hk:=?_);refine zC Tryz.func84 (hf:=(hls)) (hk:=?_);refine zN tK 2 (hk:=?_);refine zW tK (hk:=?_);refine zN tK 2 (hk:=?_);refine zA tK (h2:=?_) (h4:=?_) (h5:=?_) (h7:=?_) (h8:=?_) (hzz:=?_) (hn:=rfl) (hr:=rfl) (hk:=?_)
   ·exact iJ _
   ·exact kD _
   ·rw[show tab.byt 120=96 from rfl];simp;omega
   ·simp
   ·exact bx 44 s.past
   ·intro z hz;simp only[List.mem_cons,List.not_mem_nil,or_false] at hz
    rcases hz with rfl | rfl
    ·exact .inl ⟨by decide,bx 44 s.past⟩
    ·exact .inr ⟨rfl,by decide⟩
   refine zN tK 2 (hk:=?_);refine zB tK (hk:=?_);refine zW tK (hk:=?_);refine zA tK (h2:=?_) (h4:=?_) (h5:=?_) (h7:=?_) (h8:=?_) (hzz:=?_) (hn:=rfl) (hr:=rfl) (hk:=?_)
   ·intro row h;simp at h;subst h;rfl
   ·rfl
   ·rw[show tab.byt 120=96 from rfl];simp;omega
   ·simp
   ·exact hnr2 47
   ·intro z hz;simp only[List.mem_cons,List.not_mem_nil,or_false] at hz
    rcases hz with rfl | rfl
    ·exact .inl ⟨by decide,hnr2 44⟩
    ·exact .inl ⟨by decide,hnr2 47⟩
   refine zB tK (hk:=?_);refine zW tK (hk:=?_);refine og w4 z6 ?_;refine dS tK ?_;refine wKd ?_
   try simp only[go_sem,gA,gB,gC]
   refine wG tK ?_;refine wDF (hb:=(h)) (hk:=?_);refine wG tK ?_;refine ZZ 52 rfl Zb ?_;simp only[go_sem];refine wT ?_;rw[List.take_of_length_le y8];simp[ZP]
  ·simp only[he,if_false] at hap ⊢;refine ZW ZM ?_;refine ZS rfl ?_;refine sN tK 2 ?_;refine sC Tryz.func18 (hf:=(hof)) (hk:=?_);refine sN tK 5 ?_ z6 z6 QK Q8;refine sC Tryz.func82 (hf:=(hap)) (hk:=?_);refine sG tK ?_;refine sE ?_;refine wKd ?_
   try simp only[go_sem,gA,gB,gC]
   refine wG tK ?_;refine wDT (hb:=QI) (hk:=?_);refine wG tK ?_;refine ag (ar 6) ?_;refine wT ?_;simp[he]
theorem Bp (x:Rec) (f:Int):ae Tryz.prog 185 [.agg (ZR x),.rp [.int .i64 f] 0] [] (λr _=>r=.bool (dW f x)):=by
 unfold ZR;refine ZF tK (Tryz.func185) rfl (λC=>?_);simp only[Tryz.ntmps185,Tryz.results185,go_sem];cases e1:(x.act.fid==f)<;>cases e2:(x.act.kind==1)<;>cases e3:(x.act.kind==2)
 all_goals refine wG tK ?_ (by simp only[go_sem,e1,e2,e3];try exact rfl) (by simp[go_sem,e1,e2,e3])
 all_goals refine wT ?_
 all_goals simp[dW,e1,e2,e3]
theorem Fz (l:List Rec) (hl:l.length≤100000000) (f:Int):ae Tryz.prog 148 [.sl (l.map ZR),.int .i64 f] [] (λr _=>r=.int .i64 (bZ (l.findIdx? (dW f)))):=by
 refine ZF tK (Tryz.func148) rfl (λC=>?_);simp only[Tryz.ntmps148,Tryz.results148,go_sem];refine wG tK ?_;refine ZZ 3 rfl (rfl) ?_;simp only[go_sem];refine wC Tryz.func152 (hf:=(jq l hl ⟨_,Go.Proofs.Tryz.func185,by kernel_rfl,rfl⟩ rfl (λx _=>Bp x f))) (hk:=?_);refine wG tK ?_;refine wT ?_;rfl
theorem EU (x r m:Rec):ae Tryz.prog 150 [.agg (ZR x),.rp [.rp (ZR r) 0] 0,.rp [.rp (ZR m) 0] 0] [] (λb _=>b=.bool (bars r.act.fid m.act.dir m.act.name x)):=by
 refine ZF tK (Tryz.func150) rfl (λC=>?_);simp only[Tryz.ntmps150,Tryz.results150,go_sem];refine wGq tK ?_ ?_ u3
 ·simp
 refine ZZ 3 rfl (rfl) ?_;simp only[go_sem];refine ZW ZM ?_;refine ZS rfl ?_;refine sN tK 4 ?_;refine dP 8 z6 (λc8 h8=>?_);simp only[go_sem];refine sN tK 6 ?_;refine sCC Tryz.func108 (hf:=λhb=>(xt x r.act.fid)) (hk:=?_);refine sN tK 1 ?_;refine dP 16 z6 (λc16 h16=>?_);simp only[go_sem];refine sN tK 9 ?_;refine sCC Tryz.func151 (hf:=λhb=>(zZ x m.act.dir m.act.name)) (hk:=?_);refine sN tK 2 ?_;refine sE ?_;refine wKd ?_;refine wG tK ?_;refine wT ?_;subst h16 h8;simp only[bars,cG,eI]
def oC (l:List Rec) (r:Rec) (k:Nat):Bool:=
 (l.getD k default).act.dir==r.act.dir&&(l.getD k default).act.name==r.act.name&&!((l.drop (k+1)).any (bars r.act.fid (l.getD k default).act.dir (l.getD k default).act.name))
theorem yD {l:List Rec} {r:Rec} {k:Nat} (hk:l.findIdx? (dW r.act.fid)=some k):ec l r=(r.act.kind==4&&oC l r k):=by
 unfold ec oC;rw[hk];simp only[Bool.and_assoc]
theorem yE (l:List Rec) (hl:l.length≤100000000) (r:Rec):ae Tryz.prog 105 [.sl (l.map ZR),.rp (ZR r) 0] [] (λb _=>b=.bool (ec l r)):=by
 refine ZF tK (Tryz.func105) rfl (λC=>?_);simp only[Tryz.ntmps105,Tryz.results105,go_sem];refine wGq tK ?_ ?_ u3
 ·simp
 refine wC Tryz.func148 (hf:=(Fz l hl r.act.fid)) (hk:=?_);cases e1:(r.act.kind != 4)
 ·refine wG tK ?_ (by simp only[go_sem,e1,ZR];try exact rfl) (by simp[go_sem,e1,ZR]);refine wD (λh=>?_) (λh=>?_)
  ·refine wG tK ?_;refine wT ?_;have:l.findIdx? (dW r.act.fid)=none:=by
    cases e:l.findIdx? (dW r.act.fid) with
    | none=>rfl
    | some k=>
     rw[e] at h;have h2:decide ((k:Int)<0)=true:=h;rw[decide_eq_true_eq] at h2;omega
   simp[ec,this]
  ·obtain ⟨k,hk⟩:∃k,l.findIdx? (dW r.act.fid)=some k:=by
    cases e:l.findIdx? (dW r.act.fid) with
    | none=>rw[e] at h;simp[bZ] at h
    | some k=>exact ⟨k,rfl⟩
   have hkl:k<l.length:=(List.findIdx?_eq_some_iff_getElem.1 hk).1;have hg:(l.map ZR).getD k []=ZR (l.getD k default):=Fam.getD hkl;rw[yD hk,hk];unfold oC;simp only[bZ];generalize l.getD k default=m at hg;refine wGq tK ?_ ?_ s8
   ·simp[hkl]
   have hw:IntKind.i64.wrap ((k:Int)+1)=((k+1:Nat):Int):=by rw[Eng.wrap_small z8 z8];rfl
   have hd:List.drop (k+1) (l.map ZR)=(l.drop (k+1)).map ZR:=List.map_drop.symm;refine ZZ 3 rfl (rfl) ?_;refine ZZ 6 rfl (rfl) ?_;simp only[go_sem];refine ZW ZM ?_;refine ZS rfl ?_;refine sN tK 10 ?_;refine dP 37 z6 (λc37 h37=>?_);simp only[go_sem];refine sN tK 12 ?_;refine dP 49 z6 (λc49 h49=>?_);simp only[go_sem];refine sNq tK 6 ?_ ?_ z6 z6 (by simp only[go_sem,hw,hd];try exact rfl)
   ·simp[go_sem];intro h;exact ⟨h,by omega,by omega,λ_ _=>rfl⟩
   refine sCC Tryz.func149 (hf:=λhb=>(pe (l.drop (k+1)) k9 ⟨_,Go.Proofs.Tryz.func150,by kernel_rfl,rfl⟩ rfl (λx _=>EU x r m))) (hk:=?_);refine sN tK 3 ?_;refine sE ?_;refine wKd ?_;refine wG tK ?_;refine wT ?_;subst h49 h37;have hk4:(r.act.kind==4)=true:=by simpa using e1
   rw[hk4];simp only[cG,Bool.true_and]
 ·refine wG tK ?_ (by simp only[go_sem,e1,ZR];try exact rfl) (by simp[go_sem,e1,ZR]);refine wDT (hb:=(rfl)) (hk:=?_);refine wG tK ?_;refine wT ?_;have hk4:(r.act.kind==4)=false:=by simpa using e1
  unfold ec;split
  ·rfl
  ·rw[hk4];rfl
theorem zh (x r:Rec):ae Tryz.prog 107 [.agg (ZR x),.rp (ZR r) 0] [] (λb _=>b=.bool (x.names r.act.fid)):=by
 refine ZF tK (Tryz.func107) rfl (λC=>?_);simp only[Tryz.ntmps107,Tryz.results107,go_sem];refine wGq tK ?_ ?_ u3
 ·simp
 refine ZZ 2 rfl (rfl) ?_;simp only[go_sem];refine wC Tryz.func108 (hf:=(xt x r.act.fid)) (hk:=?_);refine wG tK ?_;refine wT ?_;rfl
theorem yf (x r:Rec):ae Tryz.prog 109 [.agg (ZR x),.rp (ZR r) 0] [] (λb _=>b=.bool (stored r x)):=by
 refine ZF tK (Tryz.func109) rfl (λC=>?_);simp only[Tryz.ntmps109,Tryz.results109,go_sem];refine wR ?_;refine wN tK 2 ?_ z6 z6 u3 (by simp[go_sem,ZR]);refine wR ?_;refine wN tK 4 ?_;refine al 7 z6 (λc7 h7=>?_);simp only[go_sem];refine wG tK ?_ u3 (by simp[go_sem,ZR]);refine wT ?_;subst h7;rw[cG];rfl
def fE:Option (List Rec)->AV
 | some x=>.tup [.sl (x.map ZR),.int .i64 0]
 | none=>.tup [.nils,.int .i64 5]
theorem Hp (l:List Rec) (r:Rec) (hl:SmallL l) (hr:r.act.Small):ae Tryz.prog 65 [.sl (l.map ZR),.agg (ZR r)] [] (λx _=>x=fE (dn l r)):=by
 have hlen:=hl.len;refine ZF tK (Tryz.func65) rfl (λC=>?_);simp only[Tryz.ntmps65,Tryz.results65,go_sem];refine wGq tK ?_ ?_ u3
 ·simp
 refine ZZ 3 rfl (rfl) ?_;simp only[go_sem];refine wCG [] 100 Tryz.func46 (hf:=(oW l hl)) (hk:=?_);refine wG tK ?_;refine wV Tryz.func105 (hf:=(yE l hlen r)) (hk:=?_);refine wG tK ?_;refine wD (λh=>?_) (λh=>?_)
 ·refine wG tK ?_;refine wCG [119] 100 Tryz.func106 (hf:=(lP l hlen 119 ⟨_,Go.Proofs.Tryz.func107,by kernel_rfl,rfl⟩ rfl u4 (λx _=>zh x r))) (hk:=?_);refine wG tK ?_;refine ZZ 219 rfl (by rw[List.all_append,cO,Bool.true_and];exact iL _ rfl) ?_;simp only[go_sem];refine wT ?_;have hle:=List.length_filter_le (λx:Rec=>!x.names r.act.fid) l;simp only[dn,h,if_true,fE];generalize (l.filter λx=>!x.names r.act.fid)=d at *;rw[if_pos y8,gN y8]
 ·have hh:ec l r=false:=h;refine wG tK ?_;refine wD (λh=>?_) (λh=>?_)
  ·refine wG tK ?_;refine wCG [119] 100 Tryz.func106 (hf:=(lP l hlen 119 ⟨_,Go.Proofs.Tryz.func109,by kernel_rfl,rfl⟩ rfl u4 (λx _=>yf x r))) (hk:=?_);have hle:=List.length_filter_le (λx:Rec=>!stored r x) l;have hadd:dn l r=if (l.filter λx=>!stored r x).length≥20 then none else some ((l.filter λx=>!stored r x)++[r]):=by
    have hk:r.act.kind=3:=eq_of_beq WE;simp only[dn,hh,Bool.false_eq_true,if_false,cJ,hk,if_true]
   rw[hadd];have hsub:∀x,x∈(l.filter λx=>!stored r x)->x.act.Small:=λx hx=>hl.each x (List.mem_filter.1 hx).1
   generalize (l.filter λx=>!stored r x)=d at hle hsub;refine wG tK ?_;refine wD (λh=>?_) (λh=>?_)
   ·have hd:d.length≥20:=by have h2:=of_decide_eq_true h;omega
    refine wG tK ?_;refine wT ?_;rw[if_pos hd];rfl
   ·have hd:¬d.length≥20:=by have h2:=of_decide_eq_false h;omega
    refine wGq tK ?_ ?_ u3
    ·simp
    refine ZZ 26 rfl (rfl) ?_;simp only[go_sem];refine wC Tryz.func46 (hf:=(jM [r] ⟨by simp,λx hx=>by rw[List.mem_singleton.1 hx];exact hr⟩)) (hk:=?_);have ht:(d.map ZR++List.replicate (l.length-d.length) [AV.int .i64 0,.int .i64 0,.int .i64 0,.str [],.int .i64 0,.str [],.nils,.int .i64 0,.int .i64 0]).take d.length=d.map ZR:=gN y8;refine wGq tK ?_ ?_ (by simp only[go_sem,ht,ZR];try exact rfl)
    ·simp[rowsOf];omega
    refine ZZ 28 rfl Qc ?_;simp only[go_sem];refine wG tK ?_;refine wT ?_;rw[if_neg hd];simp only[fE,List.map_append,List.map_cons,List.map_nil,ZR];rw[List.take_of_length_le y8]
  ·have hadd:dn l r=if l.length≥20 then none else some (l++[r]):=by
    have hk:¬r.act.kind=3:=by simpa using h
    simp only[dn,hh,Bool.false_eq_true,if_false,cJ,hk]
   rw[hadd];refine wG tK ?_;refine wD (λh=>?_) (λh=>?_)
   ·have hd:l.length≥20:=by have h2:=of_decide_eq_true h;omega
    refine wG tK ?_;refine wT ?_;rw[if_pos hd];rfl
   ·have hd:¬l.length≥20:=by have h2:=of_decide_eq_false h;omega
    refine wGq tK ?_ ?_ u3
    ·simp
    refine ZZ 26 rfl (rfl) ?_;simp only[go_sem];refine wC Tryz.func46 (hf:=(jM [r] ⟨by simp,λx hx=>by rw[List.mem_singleton.1 hx];exact hr⟩)) (hk:=?_);refine wGq tK ?_ ?_ u3
    ·simp[rowsOf];omega
    refine ZZ 28 rfl Qc ?_;simp only[go_sem];refine wG tK ?_;refine wT ?_;rw[if_neg hd];simp only[fE,List.map_append,List.map_cons,List.map_nil,ZR];rw[List.take_of_length_le y8]
end La
