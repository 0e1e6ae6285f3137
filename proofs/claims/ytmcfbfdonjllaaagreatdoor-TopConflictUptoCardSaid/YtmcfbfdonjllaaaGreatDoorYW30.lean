/- Texts of this claim, part 30: PConf. No condition. -/
import Derived.Test.YtmcfbfdonjllaaaGreatDoorYW29
set_option maxRecDepth 10000
set_option maxHeartbeats 4000000
set_option linter.unusedSimpArgs false
set_option linter.unusedVariables false
namespace La
open Go Go.Eng
def R1 (p:List UInt8):Node:=⟨0,true,[],[⟨p,1⟩],1⟩
def F1 (d:List UInt8) (v:Int):Node:=⟨1,false,d,[],v⟩
def bZ:List UInt8:=[111,108,100]
def Sm (p:List UInt8):Srv:=⟨[R1 p,F1 [] 1],2,[⟨0,mkA 1 p⟩]⟩
def So (p:List UInt8):Srv:=⟨[R1 p,F1 bZ 2],2,[⟨0,mkA 1 p⟩,⟨0,stA 1 bZ⟩]⟩
def Sb (p b:List UInt8):Srv:=⟨[R1 p,F1 b 3],2,[⟨0,mkA 1 p⟩,⟨0,stA 1 bZ⟩,⟨1,stA 1 b⟩]⟩
def cl (i:Int) (aw:Bool) (l:List Kept) (log:List Rec) (ck lg:Int):Cli:=⟨i,aw,4,l,log,[],[],ck,0,lg⟩
theorem ow (p:List UInt8):ay (R1 p) p=some 1:=by
 rw[lS (n:=R1 p) (List.pairwise_singleton _ _)];simp[R1]
theorem F8 {p:List UInt8} (hp:cV p=true):fo ⟨cl 0 false [⟨aA,false,0,1⟩] [] 1 0,bj⟩ (aZ 0 p)=⟨0,⟨cl 0 false [] [] 1 0,Sm p⟩⟩:=by
 have m1:cC bj.tree (mkA bj.next p)=0:=(me _ _).2 ⟨aA,rfl,rfl,qe (iN hp),rfl,by show (1:Int)≠0;decide,by decide⟩;have e1:doE bj (aZ 0 p)=0:=m1;have hs:doS bj 0 (aZ 0 p)=Sm p:=by
  have ht:aH bj.tree (mkA 1 p) 1=[R1 p,F1 [] 1]:=by
   show bE _ _ _=_
   unfold bE;rw[if_pos (show cC bj.tree (mkA 1 p)=0 from m1)]
   kernel_rfl
  show (⟨aH bj.tree (mkA 1 p) 1,2,[⟨0,mkA 1 p⟩]⟩:Srv)=_
  rw[ht];rfl
 unfold fo;rw[if_pos e1]
 show (⟨0,⟨fV _ (doS bj 0 (aZ 0 p)).tree,doS bj 0 (aZ 0 p)⟩⟩:GotE)=_
 rw[hs]
 kernel_rfl
theorem Dl {p:List UInt8} (hp:cV p=true):ar ⟨eZ 0 4,bj⟩ (wrS 0 p bZ)=⟨⟨cl 0 false [⟨R1 p,false,0,2⟩] [] 3 0,So p⟩,bG 0⟩:=by
 have g0:aO ⟨eZ 0 4,bj⟩ 0 0=⟨aA,0,⟨cl 0 false [⟨aA,false,0,1⟩] [] 1 0,bj⟩⟩:=by kernel_rfl
 have g1:aO ⟨cl 0 false [] [] 1 0,Sm p⟩ 0 0=⟨R1 p,0,⟨cl 0 false [⟨R1 p,false,0,2⟩] [] 2 0,Sm p⟩⟩:=by kernel_rfl
 have g2:aO ⟨cl 0 false [⟨R1 p,false,0,2⟩] [] 2 0,Sm p⟩ 1 0=⟨F1 [] 1,0,⟨cl 0 false [⟨R1 p,false,0,2⟩,⟨F1 [] 1,false,0,3⟩] [] 3 0,Sm p⟩⟩:=by kernel_rfl
 have hgo:goU ⟨cl 0 false [] [] 1 0,Sm p⟩ [p] 0=⟨F1 [] 1,0,⟨cl 0 false [⟨R1 p,false,0,2⟩,⟨F1 [] 1,false,0,3⟩] [] 3 0,Sm p⟩⟩:=by
  unfold goU;rw[g1];unfold goR;simp only[ow]
  show goR 0 [] (aO _ 1 0)=_
  rw[g2];rfl
 have hst:fo ⟨cl 0 false [⟨R1 p,false,0,2⟩,⟨F1 [] 1,false,0,3⟩] [] 3 0,Sm p⟩ (az 1 bZ)=⟨0,⟨cl 0 false [⟨R1 p,false,0,2⟩] [] 3 0,So p⟩⟩:=by kernel_rfl
 have hw:bn ⟨eZ 0 4,bj⟩ (47::p) bZ=⟨0,⟨cl 0 false [⟨R1 p,false,0,2⟩] [] 3 0,So p⟩⟩:=by
  unfold bn;rw[mO hp _ g0 rfl]
  show (if (0:Int)≠0 then _ else if bZ.length>20 then _ else if (bC ⟨cl 0 false [⟨aA,false,0,1⟩] [] 1 0,bj⟩ (aZ 0 p) (-1)).e≠0 then _ else jl (goU (bC ⟨cl 0 false [⟨aA,false,0,1⟩] [] 1 0,bj⟩ (aZ 0 p) (-1)).u (ah (47::p)).1 0) bZ)=_
  rw[show bC ⟨cl 0 false [⟨aA,false,0,1⟩] [] 1 0,bj⟩ (aZ 0 p) (-1)=fo ⟨cl 0 false [⟨aA,false,0,1⟩] [] 1 0,bj⟩ (aZ 0 p) from rfl,F8 hp,fL hp,hgo,if_neg y7,if_neg j6,if_neg y7];exact hst
 show (⟨(bn _ (47::p) bZ).u,bG (bn _ (47::p) bZ).e⟩:GotS)=_
 rw[hw]
theorem F9 {p:List UInt8} (hp:cV p=true):ar ⟨cl 0 false [⟨R1 p,false,0,2⟩] [] 3 0,So p⟩ (rdS 0 p)=⟨⟨cl 0 false [⟨R1 p,false,0,4⟩,⟨F1 bZ 2,false,0,5⟩] [] 5 0,So p⟩,⟨0,0,0,bZ⟩⟩:=by
 have g1:aO ⟨cl 0 false [⟨R1 p,false,0,2⟩] [] 3 0,So p⟩ 0 0=⟨R1 p,0,⟨cl 0 false [⟨R1 p,false,0,4⟩] [] 4 0,So p⟩⟩:=by kernel_rfl
 have g2:aO ⟨cl 0 false [⟨R1 p,false,0,4⟩] [] 4 0,So p⟩ 1 0=⟨F1 bZ 2,0,⟨cl 0 false [⟨R1 p,false,0,4⟩,⟨F1 bZ 2,false,0,5⟩] [] 5 0,So p⟩⟩:=by kernel_rfl
 have hgo:goU ⟨cl 0 false [⟨R1 p,false,0,2⟩] [] 3 0,So p⟩ [p] 0=⟨F1 bZ 2,0,⟨cl 0 false [⟨R1 p,false,0,4⟩,⟨F1 bZ 2,false,0,5⟩] [] 5 0,So p⟩⟩:=by
  unfold goU;rw[g1];unfold goR;simp only[ow]
  show goR 0 [] (aO _ 1 0)=_
  rw[g2];rfl
 show (if (ah (47::p)).2≠0 then _ else (⟨(goU _ (ah (47::p)).1 0).u,jz 1 (goU _ (ah (47::p)).1 0)⟩:GotS))=_
 rw[fL hp,if_neg y7,hgo];rfl
theorem AB {p a:List UInt8} (hp:cV p=true) (ha:a.length≤20) (sv:Srv):ar ⟨cl 0 true [⟨R1 p,false,0,4⟩,⟨F1 bZ 2,false,0,5⟩] [] 5 0,sv⟩ (wrS 0 p a)=⟨⟨cl 0 true [⟨R1 p,false,0,6⟩,⟨F1 a 2,true,0,7⟩] [⟨stA 1 a,2,1⟩] 7 1,sv⟩,bG 0⟩:=by
 have g1:aO ⟨cl 0 true [⟨R1 p,false,0,4⟩,⟨F1 bZ 2,false,0,5⟩] [] 5 0,sv⟩ 0 0=⟨R1 p,0,⟨cl 0 true [⟨R1 p,false,0,6⟩,⟨F1 bZ 2,false,0,5⟩] [] 6 0,sv⟩⟩:=by kernel_rfl
 have g2:aO ⟨cl 0 true [⟨R1 p,false,0,6⟩,⟨F1 bZ 2,false,0,5⟩] [] 6 0,sv⟩ 1 0=⟨F1 bZ 2,0,⟨cl 0 true [⟨R1 p,false,0,6⟩,⟨F1 bZ 2,false,0,7⟩] [] 7 0,sv⟩⟩:=by kernel_rfl
 have ht:aU (cl 0 true [⟨R1 p,false,0,6⟩,⟨F1 bZ 2,false,0,7⟩] [] 7 0)=[R1 p,F1 bZ 2]:=by kernel_rfl
 have hE:cr [R1 p,F1 bZ 2] (stA 1 a)=0:=(fA _ _).2 ⟨F1 bZ 2,by kernel_rfl,rfl,ha⟩;have hL:aH [R1 p,F1 bZ 2] (stA 1 a) 0=[R1 p,F1 a 0]:=by
  show bM _ _ _=_
  unfold bM;rw[if_pos hE]
  kernel_rfl
 have hN:cJ (cl 0 true [⟨R1 p,false,0,6⟩,⟨F1 bZ 2,false,0,7⟩] [] 7 0) (az 1 a)=[R1 p,F1 a 0]:=by
  unfold cJ;rw[ht];exact hL
 have h1:aM [R1 p,F1 bZ 2] (stA 1 a) (R1 p)=false:=by
  unfold aM;rw[show af [R1 p,F1 bZ 2] (R1 p).fid=some (R1 p) from by kernel_rfl];simp[stA,eS,R1]
 have h2:aM [R1 p,F1 bZ 2] (stA 1 a) (F1 a 0)=true:=by
  unfold aM;rw[show af [R1 p,F1 bZ 2] (F1 a 0).fid=some (F1 bZ 2) from by kernel_rfl];simp[stA,F1]
 have hkp:fy (cl 0 true [⟨R1 p,false,0,6⟩,⟨F1 bZ 2,false,0,7⟩] [] 7 0) (az 1 a)=some [⟨R1 p,false,0,6⟩,⟨F1 a 2,true,0,7⟩]:=by
  unfold fy;rw[hN,ht]
  show bK 4 7 [R1 p,F1 bZ 2] (stA 1 a) [R1 p,F1 a 0] _=_
  unfold bK;rw[if_neg (by rw[h1];simp)];unfold bK;rw[if_pos h2]
  kernel_rfl
 have hact:bC ⟨cl 0 true [⟨R1 p,false,0,6⟩,⟨F1 bZ 2,false,0,7⟩] [] 7 0,sv⟩ (az 1 a) 2=⟨0,⟨cl 0 true [⟨R1 p,false,0,6⟩,⟨F1 a 2,true,0,7⟩] [⟨stA 1 a,2,1⟩] 7 1,sv⟩⟩:=by
  show kZ _ (az 1 a) 2=_
  have hlog:kY (cl 0 true [⟨R1 p,false,0,6⟩,⟨F1 bZ 2,false,0,7⟩] [] 7 0) (az 1 a) 2=some [⟨stA 1 a,2,1⟩]:=rfl;have he:aB [R1 p,F1 bZ 2] (cd (cl 0 true [⟨R1 p,false,0,6⟩,⟨F1 bZ 2,false,0,7⟩] [] 7 0) (az 1 a))=0:=hE;unfold kZ;rw[ht,he,if_neg y7,hlog,hkp,hN]
  change (_:GotE)=_
  kernel_rfl
 have hw:bn ⟨cl 0 true [⟨R1 p,false,0,4⟩,⟨F1 bZ 2,false,0,5⟩] [] 5 0,sv⟩ (47::p) a=⟨0,⟨cl 0 true [⟨R1 p,false,0,6⟩,⟨F1 a 2,true,0,7⟩] [⟨stA 1 a,2,1⟩] 7 1,sv⟩⟩:=by
  unfold bn;rw[mO hp _ g1 rfl,if_neg y7,if_neg z7];simp only[ow];rw[g2];exact hact
 show (⟨(bn _ (47::p) a).u,bG (bn _ (47::p) a).e⟩:GotS)=_
 rw[hw]
theorem Dk {p b:List UInt8} (hp:cV p=true) (hb:b.length≤20):∃c,ar ⟨eZ 1 4,So p⟩ (wrS 1 p b)=⟨⟨c,Sb p b⟩,bG 0⟩:=by
 have g1:aO ⟨eZ 1 4,So p⟩ 0 0=⟨R1 p,0,⟨cl 1 false [⟨R1 p,false,0,1⟩] [] 1 0,So p⟩⟩:=by kernel_rfl
 have g2:aO ⟨cl 1 false [⟨R1 p,false,0,1⟩] [] 1 0,So p⟩ 1 0=⟨F1 bZ 2,0,⟨cl 1 false [⟨R1 p,false,0,1⟩,⟨F1 bZ 2,false,0,2⟩] [] 2 0,So p⟩⟩:=by kernel_rfl
 have hE:cr (So p).tree (stA 1 b)=0:=(fA _ _).2 ⟨F1 bZ 2,by kernel_rfl,rfl,hb⟩;have hs:doS (So p) 1 (az 1 b)=Sb p b:=by
  have ht:aH (So p).tree (stA 1 b) 3=[R1 p,F1 b 3]:=by
   show bM _ _ _=_
   unfold bM;rw[if_pos hE]
   kernel_rfl
  show (⟨aH (So p).tree (stA 1 b) 3,2,[⟨0,mkA 1 p⟩,⟨0,stA 1 bZ⟩,⟨1,stA 1 b⟩]⟩:Srv)=_
  rw[ht];rfl
 have hw:∃c,bn ⟨eZ 1 4,So p⟩ (47::p) b=⟨0,⟨c,Sb p b⟩⟩:=by
  unfold bn;rw[mO hp _ g1 rfl,if_neg y7,if_neg z7];simp only[ow];rw[g2];refine ⟨fV (cl 1 false [⟨R1 p,false,0,1⟩,⟨F1 bZ 2,false,0,2⟩] [] 2 0) (Sb p b).tree,?_⟩
  show fo _ (az 1 b)=_
  unfold fo;rw[if_pos (show doE (So p) (az 1 b)=0 from hE)]
  show (⟨0,⟨fV _ (doS (So p) 1 (az 1 b)).tree,doS (So p) 1 (az 1 b)⟩⟩:GotE)=_
  rw[hs]
 obtain ⟨c,hw⟩:=hw;refine ⟨c,?_⟩
 show (⟨(bn _ (47::p) b).u,bG (bn _ (47::p) b).e⟩:GotS)=_
 rw[hw]
theorem F7 (p a b:List UInt8):∃c,ar ⟨cl 0 true [⟨R1 p,false,0,6⟩,⟨F1 a 2,true,0,7⟩] [⟨stA 1 a,2,1⟩] 7 1,Sb p b⟩ (cx 0)=⟨⟨c,Sb p b⟩,⟨0,0,1,[]⟩⟩/\c.away=false/\c.repair=[⟨stA 1 a,2,1⟩]:=by
 refine ⟨(ar ⟨cl 0 true [⟨R1 p,false,0,6⟩,⟨F1 a 2,true,0,7⟩] [⟨stA 1 a,2,1⟩] 7 1,Sb p b⟩ (cx 0)).u.c,?_,?_,?_⟩<;>kernel_rfl
def lM (first:Bool) (p a b:List UInt8):List Step:=[wrS 0 p bZ,rdS 0 p,eH 0]++(if first=true then [wrS 0 p a,wrS 1 p b] else [wrS 1 p b,wrS 0 p a])++[cx 0,rdS 0 p]
theorem ui (t:List Node) (c:Cli):(aS t c).repair=c.repair:=by unfold aS;split<;>rfl
theorem wH {p a b:List UInt8} (hp:cV p=true) (ha:a.length≤20) (hb:b.length≤20) (first:Bool) :
  (∃r0 r1 r2 r3 r4,rsW (bo [4,4]) (lM first p a b)=[r0,r1,r2,r3,r4,⟨0,0,1,[]⟩,⟨0,0,0,b⟩])/\∃c y,(bO (bo [4,4]) (lM first p a b)).cs=[c,y]/\c.repair=[⟨stA 1 a,2,1⟩]:=by
 have hr:cz [4,4]=0:=by decide
 have h0:bo [4,4]=⟨bj,[eZ 0 4,eZ 1 4]⟩:=by kernel_rfl
 have hW0:=oO hr;rw[h0] at hW0;have w1:ai ⟨bj,[eZ 0 4,eZ 1 4]⟩ (wrS 0 p bZ)=⟨⟨So p,[cl 0 false [⟨R1 p,false,0,2⟩] [] 3 0,eZ 1 4]⟩,bG 0⟩:=by
  rw[dG QZ,Dl hp];kernel_rfl
 have w2:ai ⟨So p,[cl 0 false [⟨R1 p,false,0,2⟩] [] 3 0,eZ 1 4]⟩ (rdS 0 p)=⟨⟨So p,[cl 0 false [⟨R1 p,false,0,4⟩,⟨F1 bZ 2,false,0,5⟩] [] 5 0,eZ 1 4]⟩,⟨0,0,0,bZ⟩⟩:=by
  rw[dG QZ,F9 hp];kernel_rfl
 have w3:ai ⟨So p,[cl 0 false [⟨R1 p,false,0,4⟩,⟨F1 bZ 2,false,0,5⟩] [] 5 0,eZ 1 4]⟩ (eH 0)=⟨⟨So p,[cl 0 true [⟨R1 p,false,0,4⟩,⟨F1 bZ 2,false,0,5⟩] [] 5 0,eZ 1 4]⟩,bG 0⟩:=by kernel_rfl
 have hW3:∃B T,WInv B T ⟨So p,[cl 0 true [⟨R1 p,false,0,4⟩,⟨F1 bZ 2,false,0,5⟩] [] 5 0,eZ 1 4]⟩:=by
  have a1:=bl hW0 (wrS 0 p bZ);rw[w1] at a1;have a2:=bl a1 (rdS 0 p);rw[w2] at a2;have a3:=bl a2 (eH 0);rw[w3] at a3;exact ⟨_,_,a3⟩
 obtain ⟨B,T,hW3⟩:=hW3;obtain ⟨c1',ho⟩:=Dk hp hb
 -- both writes, in either order
 have hmid:∃y r3 r4,(∀l,rsW ⟨So p,[cl 0 true [⟨R1 p,false,0,4⟩,⟨F1 bZ 2,false,0,5⟩] [] 5 0,eZ 1 4]⟩ ((if first=true then [wrS 0 p a,wrS 1 p b] else [wrS 1 p b,wrS 0 p a])++l)=r3::r4::rsW ⟨Sb p b,[cl 0 true [⟨R1 p,false,0,6⟩,⟨F1 a 2,true,0,7⟩] [⟨stA 1 a,2,1⟩] 7 1,y]⟩ l /\
   bO ⟨So p,[cl 0 true [⟨R1 p,false,0,4⟩,⟨F1 bZ 2,false,0,5⟩] [] 5 0,eZ 1 4]⟩ ((if first=true then [wrS 0 p a,wrS 1 p b] else [wrS 1 p b,wrS 0 p a])++l)=bO ⟨Sb p b,[cl 0 true [⟨R1 p,false,0,6⟩,⟨F1 a 2,true,0,7⟩] [⟨stA 1 a,2,1⟩] 7 1,y]⟩ l) /\
   ∃B T,WInv B T ⟨Sb p b,[cl 0 true [⟨R1 p,false,0,6⟩,⟨F1 a 2,true,0,7⟩] [⟨stA 1 a,2,1⟩] 7 1,y]⟩:=by
  cases first with
  | true=>
   have v1:ai ⟨So p,[cl 0 true [⟨R1 p,false,0,4⟩,⟨F1 bZ 2,false,0,5⟩] [] 5 0,eZ 1 4]⟩ (wrS 0 p a)=⟨⟨So p,[cl 0 true [⟨R1 p,false,0,6⟩,⟨F1 a 2,true,0,7⟩] [⟨stA 1 a,2,1⟩] 7 1,eZ 1 4]⟩,bG 0⟩:=by
    rw[dG QZ,AB hp ha];kernel_rfl
   have v2:ai ⟨So p,[cl 0 true [⟨R1 p,false,0,6⟩,⟨F1 a 2,true,0,7⟩] [⟨stA 1 a,2,1⟩] 7 1,eZ 1 4]⟩ (wrS 1 p b)=⟨⟨Sb p b,[cl 0 true [⟨R1 p,false,0,6⟩,⟨F1 a 2,true,0,7⟩] [⟨stA 1 a,2,1⟩] 7 1,aS (Sb p b).tree c1']⟩,bG 0⟩:=by
    rw[jj QZ,ho];rfl
   have i1:=bl hW3 (wrS 0 p a);rw[v1] at i1;have i2:=bl i1 (wrS 1 p b);rw[v2] at i2;refine ⟨_,bG 0,bG 0,λl=>⟨?_,?_⟩,_,_,i2⟩
   ·show rsW _ (wrS 0 p a::wrS 1 p b::l)=_
    rw[bF,v1,bF,v2]
   ·show bO (ai (ai _ (wrS 0 p a)).w (wrS 1 p b)).w l=_
    rw[v1,v2]
  | false=>
   have v1:ai ⟨So p,[cl 0 true [⟨R1 p,false,0,4⟩,⟨F1 bZ 2,false,0,5⟩] [] 5 0,eZ 1 4]⟩ (wrS 1 p b)=⟨⟨Sb p b,[cl 0 true [⟨R1 p,false,0,4⟩,⟨F1 bZ 2,false,0,5⟩] [] 5 0,aS (Sb p b).tree c1']⟩,bG 0⟩:=by
    rw[jj QZ,ho];rfl
   have v2:ai ⟨Sb p b,[cl 0 true [⟨R1 p,false,0,4⟩,⟨F1 bZ 2,false,0,5⟩] [] 5 0,aS (Sb p b).tree c1']⟩ (wrS 0 p a)=⟨⟨Sb p b,[cl 0 true [⟨R1 p,false,0,6⟩,⟨F1 a 2,true,0,7⟩] [⟨stA 1 a,2,1⟩] 7 1,aS (Sb p b).tree (aS (Sb p b).tree c1')]⟩,bG 0⟩:=by
    rw[dG QZ,AB hp ha];rfl
   have i1:=bl hW3 (wrS 1 p b);rw[v1] at i1;have i2:=bl i1 (wrS 0 p a);rw[v2] at i2;refine ⟨_,bG 0,bG 0,λl=>⟨?_,?_⟩,_,_,i2⟩
   ·show rsW _ (wrS 1 p b::wrS 0 p a::l)=_
    rw[bF,v1,bF,v2]
   ·show bO (ai (ai _ (wrS 1 p b)).w (wrS 0 p a)).w l=_
    rw[v1,v2]
 obtain ⟨y,r3,r4,hm,B',T',hW5⟩:=hmid;obtain ⟨c,hb1,hb2,hb3⟩:=F7 p a b;have w5:ai ⟨Sb p b,[cl 0 true [⟨R1 p,false,0,6⟩,⟨F1 a 2,true,0,7⟩] [⟨stA 1 a,2,1⟩] 7 1,y]⟩ (cx 0)=⟨⟨Sb p b,[aS (Sb p b).tree c,aS (Sb p b).tree y]⟩,⟨0,0,1,[]⟩⟩:=by
  rw[dG QZ,hb1]
 have hW6:=bl hW5 (cx 0);rw[w5] at hW6;have u0:=hW6.at (i:=0) y7;have haw:=iW hb2 (Sb p b).tree;have r6:=ni u0 haw (rdS 0 p) (.inl rfl);have y1:kv 1 (Sb p b).tree (47::p)=⟨0,0,0,b⟩:=sU (r:=R1 p) (n:=F1 b 3) (f:=1) hp w9 rfl (List.pairwise_singleton _ _) (List.mem_singleton.2 rfl) w9 rfl;have r6':(ar ⟨aS (Sb p b).tree c,Sb p b⟩ (rdS 0 p)).r=⟨0,0,0,b⟩:=r6.trans y1;have hid:(ar ⟨aS (Sb p b).tree c,Sb p b⟩ (rdS 0 p)).u.c.repair=[⟨stA 1 a,2,1⟩]:=by
  show (if (ah (47::p)).2≠0 then (⟨⟨aS (Sb p b).tree c,Sb p b⟩,_⟩:GotS) else ⟨(goU ⟨aS (Sb p b).tree c,Sb p b⟩ (ah (47::p)).1 0).u,_⟩).u.c.repair=_
  rw[fL hp,if_neg y7];exact (iY _ _ _).rep.trans ((ui _ _).trans hb3)
 constructor
 ·unfold lM;rw[Wa]
  show ∃r0 r1 r2 r3 r4,rsW _ (wrS 0 p bZ::rdS 0 p::eH 0::(_++[cx 0,rdS 0 p]))=_
  rw[h0,bF,w1,bF,w2,bF,w3,(hm _).1,bF,w5,bF,dG QZ,r6'];exact ⟨_,_,_,_,_,rfl⟩
 ·unfold lM;rw[Wa]
  show ∃c y,(bO (ai (ai (ai (bo [4,4]) (wrS 0 p bZ)).w (rdS 0 p)).w (eH 0)).w (_++[cx 0,rdS 0 p])).cs=_/\_
  rw[h0,w1,w2,w3,(hm _).2]
  show ∃c y,(ai (ai _ (cx 0)).w (rdS 0 p)).w.cs=_/\_
  rw[w5,dG QZ];exact ⟨_,_,rfl,(ui _ _).trans hid⟩
end La
