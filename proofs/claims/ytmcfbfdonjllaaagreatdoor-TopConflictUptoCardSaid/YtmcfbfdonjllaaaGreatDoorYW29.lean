/- Texts of this claim, part 29: PBoth. No condition. -/
import Derived.Test.YtmcfbfdonjllaaaGreatDoorYW28
set_option maxRecDepth 10000
set_option maxHeartbeats 4000000
set_option linter.unusedSimpArgs false
set_option linter.unusedVariables false
namespace La
open Go Go.Eng
theorem dG {s:Srv} {x y:Cli} {st:Step} (h:st.client=0):ai ⟨s,[x,y]⟩ st=⟨⟨(ar ⟨x,s⟩ st).u.s,[aS (ar ⟨x,s⟩ st).u.s.tree (ar ⟨x,s⟩ st).u.c,aS (ar ⟨x,s⟩ st).u.s.tree y]⟩,(ar ⟨x,s⟩ st).r⟩:=by
 unfold ai;rw[h,if_neg y7];rfl
theorem jj {s:Srv} {x y:Cli} {st:Step} (h:st.client=1):ai ⟨s,[x,y]⟩ st=⟨⟨(ar ⟨y,s⟩ st).u.s,[aS (ar ⟨y,s⟩ st).u.s.tree x,aS (ar ⟨y,s⟩ st).u.s.tree (ar ⟨y,s⟩ st).u.c]⟩,(ar ⟨y,s⟩ st).r⟩:=by
 unfold ai;rw[h,if_neg y7];rfl
theorem zl {c:Cli} (h:c.away=true) (t:List Node):aS t c=c:=by unfold aS;rw[if_pos h]
theorem iW {c:Cli} (h:c.away=false) (t:List Node):(aS t c).away=false:=by unfold aS;rw[if_neg Zs];exact h
def mkA (f:Int) (s:List UInt8):Act:=⟨1,f,0,s,0,[],[]⟩
def stA (f:Int) (data:List UInt8):Act:=⟨3,f,0,[],0,[],data⟩
theorem I9 {t:List Node} {next v:Int} {s data:List UInt8} {l0 l1:Int} (hm:cC t (mkA next s)=0) (hs:cr (bE t (mkA next s) v) (stA next data)=0) :
  (cP t next v [b_ 1 s (-1) l0,dz (-1) data l1]).vs=[⟨0,next⟩,⟨0,next⟩]/\(cP t next v [b_ 1 s (-1) l0,dz (-1) data l1]).j.l=bM (bE t (mkA next s) v) (stA next data) (v+1)/\(cP t next v [b_ 1 s (-1) l0,dz (-1) data l1]).j.next=next+1:=by
 have h1:∃o d,gm (cX t next v) (b_ 1 s (-1) l0)=⟨⟨bE t (mkA next s) v,next+1,v+1,[(-1,next)],o,[]⟩,[⟨0,next⟩],d⟩:=by
  have e1:dc (cX t next v).j (b_ 1 s (-1) l0)=mkA next s:=rfl
  have e2:fk (cX t next v).j (b_ 1 s (-1) l0).act=false:=rfl;have e3:¬(an (b_ 1 s (-1) l0).act=true/\(ff (cX t next v).j.own (b_ 1 s (-1) l0).act.fid=true\/(b_ 1 s (-1) l0).act.fid≥0)):=by
   rintro ⟨_,h⟩
   rcases h with h | h
   ·cases h
   ·have h:(-1:Int)≥0:=h;omega
  have e4:gS { (cX t next v).j with own:=cK (cX t next v).j (b_ 1 s (-1) l0) } (b_ 1 s (-1) l0) (dc (cX t next v).j (b_ 1 s (-1) l0))=false:=rfl;have e5:aB (cX t next v).j.l (dc (cX t next v).j (b_ 1 s (-1) l0))=0:=by rw[e1];exact hm
  have e6:ml (cX t next v).j (b_ 1 s (-1) l0)=0:=by unfold ml;rw[e2,if_neg y7,if_neg e3,e4,if_neg y7];exact e5
  unfold gm;rw[if_pos e6];unfold fi jO;rw[e2,if_neg y7,if_neg e3,e4,if_neg y7,e5,if_neg y7,e6];exact ⟨_,_,rfl⟩
 obtain ⟨o,d,h1⟩:=h1;have h2:∃o' d',gm ⟨⟨bE t (mkA next s) v,next+1,v+1,[(-1,next)],o,[]⟩,[⟨0,next⟩],d⟩ (dz (-1) data l1)=⟨⟨bM (bE t (mkA next s) v) (stA next data) (v+1),next+1,v+1+1,[(-1,next)],o',[]⟩,[⟨0,next⟩,⟨0,next⟩],d'⟩:=by
  generalize bE t (mkA next s) v=t1 at *;have e1:dc ⟨t1,next+1,v+1,[(-1,next)],o,[]⟩ (dz (-1) data l1)=stA next data:=rfl
  have e2:fk ⟨t1,next+1,v+1,[(-1,next)],o,[]⟩ (dz (-1) data l1).act=false:=rfl;have e3:¬(an (dz (-1) data l1).act=true/\(ff ([(-1,next)]:List (Int×Int)) (dz (-1) data l1).act.fid=true\/(dz (-1) data l1).act.fid≥0)):=by
   rintro ⟨h,_⟩;have:an (dz (-1) data l1).act=false:=rfl;rw[this] at h;cases h
  have e4:gS { (⟨t1,next+1,v+1,[(-1,next)],o,[]⟩:JS) with own:=cK ⟨t1,next+1,v+1,[(-1,next)],o,[]⟩ (dz (-1) data l1) } (dz (-1) data l1) (dc ⟨t1,next+1,v+1,[(-1,next)],o,[]⟩ (dz (-1) data l1))=false:=yu λ_=>by show (-1:Int)<0;decide
  have e5:aB t1 (dc ⟨t1,next+1,v+1,[(-1,next)],o,[]⟩ (dz (-1) data l1))=0:=by rw[e1];exact hs
  have e6:ml ⟨t1,next+1,v+1,[(-1,next)],o,[]⟩ (dz (-1) data l1)=0:=by unfold ml;rw[e2,if_neg y7,if_neg e3,e4,if_neg y7];exact e5
  unfold gm;rw[if_pos e6];unfold fi jO;rw[e2,if_neg y7,if_neg e3,e4,if_neg y7,e6];simp only[e5,ne_eq,not_true_eq_false,if_false];exact ⟨_,_,rfl⟩
 obtain ⟨o',d',h2⟩:=h2;have h3:cP t next v [b_ 1 s (-1) l0,dz (-1) data l1]=gm (gm (cX t next v) (b_ 1 s (-1) l0)) (dz (-1) data l1):=rfl
 rw[h3,h1,h2];exact ⟨rfl,rfl,rfl⟩
theorem Im {i la lb cl m lg:Int} {sv:Srv} {s data:List UInt8} {l0 l1:Int} (hm:cC sv.tree (mkA sv.next s)=0) (hs:cr (bE sv.tree (mkA sv.next s) ((sv.past.length+1:Nat):Int)) (stA sv.next data)=0) :
  ar ⟨c1 i la lb cl m lg [b_ 1 s (-1) l0,dz (-1) data l1] s (-1) false data,sv⟩ ⟨8,i,0,[],[],[]⟩=⟨cA ⟨c1 i la lb cl m lg [b_ 1 s (-1) l0,dz (-1) data l1] s (-1) false data,sv⟩,⟨0,2,0,[]⟩⟩ /\
  (cA ⟨c1 i la lb cl m lg [b_ 1 s (-1) l0,dz (-1) data l1] s (-1) false data,sv⟩).s.tree=bM (bE sv.tree (mkA sv.next s) ((sv.past.length+1:Nat):Int)) (stA sv.next data) (((sv.past.length+1:Nat):Int)+1) /\
  (cA ⟨c1 i la lb cl m lg [b_ 1 s (-1) l0,dz (-1) data l1] s (-1) false data,sv⟩).s.next=sv.next+1:=by
 obtain ⟨j1,j2,j3⟩:=I9 (l0:=l0) (l1:=l1) hm hs;have hv:bm ⟨c1 i la lb cl m lg [b_ 1 s (-1) l0,dz (-1) data l1] s (-1) false data,sv⟩=[⟨0,sv.next⟩,⟨0,sv.next⟩]:=j1;refine ⟨?_,j2,j3⟩
 show (⟨cA _,⟨0,fc (bm _),((bm _).length-fc (bm _):Nat),[]⟩⟩:GotS)=_
 rw[hv];rfl
theorem Il {i la lb cl m lg:Int} {sv:Srv} {log:List Rec} {s data:List UInt8}:(cA ⟨c1 i la lb cl m lg log s (-1) false data,sv⟩).c.away=false:=rfl
def rdS (i:Int) (s:List UInt8):Step:=⟨1,i,0,47::s,[],[]⟩
def wrS (i:Int) (s data:List UInt8):Step:=⟨3,i,0,47::s,[],data⟩
theorem sU {t:List Node} {s:List UInt8} (hs:cV s=true) {r n:Node} {f:Int} (h0:af t 0=some r) (hr:r.dir=true) (he:EUp r.entries) (hm:(⟨s,f⟩:Entry)∈r.entries) (hf:af t f=some n) (hn:n.dir=false):kv 1 t (47::s)=⟨0,0,0,n.data⟩:=by
 unfold kv;rw[fL hs,if_neg y7];have:tGo t [s]=(n,0):=by
  unfold tGo;rw[show d_ t 0=(r,0) from by unfold d_;rw[h0],nj _ _ rfl];simp only[hr,Bool.true_eq_false,if_false,(YE he).2 hm];rw[show d_ t f=(n,0) from by unfold d_;rw[hf]];rfl
 rw[this];unfold Iz;simp[hn]
theorem Ia {w:Wor} {a:Cli} {b:Cli} (hc:w=⟨w.s,[a,b]⟩) {B T:Nat} (hw:WInv B T w) (ha:a.away=false) (hb:b.away=false) (s t:List UInt8) :
  (ai w (rdS 1 s)).r=kv 1 w.s.tree (47::s)/\(ai (ai w (rdS 1 s)).w (rdS 0 t)).r=kv 1 w.s.tree (47::t):=by
 have hw':=bl hw (rdS 1 s);rw[hc] at hw hw' ⊢;generalize w.s=sv at *;clear hc;have u1:ij B T ⟨b,sv⟩:=hw.at (i:=1) y7;have s1:(ar ⟨b,sv⟩ (rdS 1 s)).u.s=sv:=by
  show (if (ah (47::s)).2≠0 then (⟨⟨b,sv⟩,_⟩:GotS) else ⟨(goU ⟨b,sv⟩ _ 0).u,_⟩).u.s=sv
  split
  ·rfl
  ·exact sf _ _ _
 have hww:ai ⟨sv,[a,b]⟩ (rdS 1 s)=_:=jj rfl;rw[s1] at hww;have r1:=ni u1 hb (rdS 1 s) (.inl rfl);refine ⟨by rw[hww];exact r1,?_⟩;rw[hww] at hw' ⊢;have u0:ij (B+20) (T+300) ⟨aS sv.tree a,sv⟩:=hw'.at (i:=0) y7;rw[dG QZ];exact ni u0 (iW ha _) (rdS 0 t) (.inl rfl)
def ja (i:Int):Step:=⟨2,i,0,[47],[],[]⟩
def eH (i:Int):Step:=⟨7,i,0,[],[],[]⟩
def cx (i:Int):Step:=⟨8,i,0,[],[],[]⟩
theorem Df {p q a b:List UInt8} (hp:cV p=true) (hq:cV q=true) (hne:p≠q) (ha:a.length≤20) (hb:b.length≤20) :
  ∃r0 r1 r2 r3 r4 r5,rsW (bo [4,4]) [ja 0,ja 1,eH 0,eH 1,wrS 0 p a,wrS 1 q b,cx 1,cx 0,rdS 1 p,rdS 0 q]=[r0,r1,r2,r3,r4,r5,⟨0,2,0,[]⟩,⟨0,2,0,[]⟩,⟨0,0,0,a⟩,⟨0,0,0,b⟩]:=by
 have e0:(ai (ai (ai (ai (bo [4,4]) (ja 0)).w (ja 1)).w (eH 0)).w (eH 1)).w=⟨bj,[c0 0 false 1 1 0 0,c0 1 false 1 1 0 0]⟩:=by kernel_rfl
 have hr:cz [4,4]=0:=by decide
 have hW4:=bl (bl (bl (bl (oO hr) (ja 0)) (ja 1)) (eH 0)) (eH 1);rw[e0] at hW4;have w5:ai ⟨bj,[c0 0 false 1 1 0 0,c0 1 false 1 1 0 0]⟩ (wrS 0 p a)=⟨⟨bj,[c1 0 3 4 4 1 2 [b_ 1 p (-1) 1,dz (-1) a 2] p (-1) false a,c0 1 false 1 1 0 0]⟩,bG 0⟩:=by
  rw[dG QZ];have:ar ⟨c0 0 false 1 1 0 0,bj⟩ (wrS 0 p a)=⟨⟨c1 0 3 4 4 1 2 [b_ 1 p (-1) 1,dz (-1) a 2] p (-1) false a,bj⟩,bG 0⟩:=by
   show (⟨(bn _ (47::p) a).u,bG (bn _ (47::p) a).e⟩:GotS)=_
   rw[tu hp ha false 1 1 (Int.le_refl 0) 0 bj];rfl
  rw[this];rfl
 have w6:ai ⟨bj,[c1 0 3 4 4 1 2 [b_ 1 p (-1) 1,dz (-1) a 2] p (-1) false a,c0 1 false 1 1 0 0]⟩ (wrS 1 q b)=⟨⟨bj,[c1 0 3 4 4 1 2 [b_ 1 p (-1) 1,dz (-1) a 2] p (-1) false a,c1 1 3 4 4 1 2 [b_ 1 q (-1) 1,dz (-1) b 2] q (-1) false b]⟩,bG 0⟩:=by
  rw[jj QZ];have:ar ⟨c0 1 false 1 1 0 0,bj⟩ (wrS 1 q b)=⟨⟨c1 1 3 4 4 1 2 [b_ 1 q (-1) 1,dz (-1) b 2] q (-1) false b,bj⟩,bG 0⟩:=by
   show (⟨(bn _ (47::q) b).u,bG (bn _ (47::q) b).e⟩:GotS)=_
   rw[tu hq hb false 1 1 (Int.le_refl 0) 0 bj];rfl
  rw[this];rfl
 have hW5:=bl hW4 (wrS 0 p a);rw[w5] at hW5;have hW6:=bl hW5 (wrS 1 q b);rw[w6] at hW6;generalize hC0:c1 0 3 4 4 1 2 [b_ 1 p (-1) 1,dz (-1) a 2] p (-1) false a=C0 at *;generalize hC1:c1 1 3 4 4 1 2 [b_ 1 q (-1) 1,dz (-1) b 2] q (-1) false b=C1 at *;have hC0a:C0.away=true:=by rw[←hC0];rfl
 -- the second one is back
 have m1:cC bj.tree (mkA bj.next q)=0:=(me _ _).2 ⟨aA,rfl,rfl,qe (iN hq),rfl,by show (1:Int)≠0;decide,by decide⟩;have t1:bE bj.tree (mkA bj.next q) ((bj.past.length+1:Nat):Int)=[⟨0,true,[],[⟨q,1⟩],1⟩,⟨1,false,[],[],1⟩]:=by unfold bE;rw[if_pos m1];kernel_rfl
 have q1:cr (bE bj.tree (mkA bj.next q) ((bj.past.length+1:Nat):Int)) (stA bj.next b)=0:=by rw[t1];exact (fA _ _).2 ⟨⟨1,false,[],[],1⟩,by kernel_rfl,rfl,hb⟩
 obtain ⟨b1,b2,b3⟩:=Im (i:=1) (la:=3) (lb:=4) (cl:=4) (m:=1) (lg:=2) (sv:=bj) (l0:=1) (l1:=2) m1 q1;have a1:=Il (i:=1) (la:=3) (lb:=4) (cl:=4) (m:=1) (lg:=2) (sv:=bj) (log:=[b_ 1 q (-1) 1,dz (-1) b 2]) (s:=q) (data:=b);rw[hC1] at b1 b2 b3 a1;have t2:(cA ⟨C1,bj⟩).s.tree=[⟨0,true,[],[⟨q,1⟩],1⟩,⟨1,false,b,[],2⟩]:=by
  rw[b2];unfold bM;rw[if_pos q1,t1]
  kernel_rfl
 have n2:(cA ⟨C1,bj⟩).s.next=2:=b3;have w7:ai ⟨bj,[C0,C1]⟩ (cx 1)=⟨⟨(cA ⟨C1,bj⟩).s,[C0,aS (cA ⟨C1,bj⟩).s.tree (cA ⟨C1,bj⟩).c]⟩,⟨0,2,0,[]⟩⟩:=by
  rw[jj QZ,show ar ⟨C1,bj⟩ (cx 1)=_ from b1,zl hC0a]
 have hW7:=bl hW6 (cx 1);rw[w7] at hW7;have a2:=iW a1 (cA ⟨C1,bj⟩).s.tree;generalize hs7:(cA ⟨C1,bj⟩).s=s7 at *;generalize hD1:aS s7.tree (cA ⟨C1,bj⟩).c=D1 at *
 -- the first one is back
 have heu1:EUp [(⟨q,1⟩:Entry)]:=List.pairwise_singleton _ _;have hno:isE [(⟨q,1⟩:Entry)] p=false:=by rw[AX heu1];simpa using λe:q=p=>hne e.symm
 have f0:af s7.tree 0=some ⟨0,true,[],[⟨q,1⟩],1⟩:=by rw[t2];kernel_rfl
 have m2:cC s7.tree (mkA s7.next p)=0:=by
  rw[n2];exact (me _ _).2 ⟨_,f0,rfl,(nB _ _).2 ⟨iN hp,hno,by show 1<6;decide⟩,by rw[t2];kernel_rfl,by show (2:Int)≠0;decide,by rw[t2];show 2<24;decide⟩
 generalize hv:((s7.past.length+1:Nat):Int)=v;have t3:bE s7.tree (mkA s7.next p) v=[⟨0,true,[],aW [⟨q,1⟩] p 2,v⟩,⟨1,false,b,[],2⟩,⟨2,false,[],[],v⟩]:=by
  unfold bE;rw[if_pos m2,aJ (show af s7.tree (mkA s7.next p).dir=_ from f0),n2,t2]
  kernel_rfl
 have q2:cr (bE s7.tree (mkA s7.next p) v) (stA s7.next a)=0:=by rw[t3,n2];exact (fA _ _).2 ⟨⟨2,false,[],[],v⟩,by kernel_rfl,rfl,ha⟩
 obtain ⟨d1,d2,d3⟩:=Im (i:=0) (la:=3) (lb:=4) (cl:=4) (m:=1) (lg:=2) (sv:=s7) (l0:=1) (l1:=2) m2 (by rw[hv];exact q2);have a3:=Il (i:=0) (la:=3) (lb:=4) (cl:=4) (m:=1) (lg:=2) (sv:=s7) (log:=[b_ 1 p (-1) 1,dz (-1) a 2]) (s:=p) (data:=a);rw[hC0] at d1 d2 d3 a3;rw[hv] at d2;have t4:(cA ⟨C0,s7⟩).s.tree=[⟨0,true,[],aW [⟨q,1⟩] p 2,v⟩,⟨1,false,b,[],2⟩,⟨2,false,a,[],v+1⟩]:=by
  rw[d2];unfold bM;rw[if_pos q2,t3,n2]
  kernel_rfl
 have w8:ai ⟨s7,[C0,D1]⟩ (cx 0)=⟨⟨(cA ⟨C0,s7⟩).s,[aS (cA ⟨C0,s7⟩).s.tree (cA ⟨C0,s7⟩).c,aS (cA ⟨C0,s7⟩).s.tree D1]⟩,⟨0,2,0,[]⟩⟩:=by
  rw[dG QZ,show ar ⟨C0,s7⟩ (cx 0)=_ from d1]
 have hW8:=bl hW7 (cx 0);rw[w8] at hW8;have a4:=iW a3 (cA ⟨C0,s7⟩).s.tree;have a5:=iW a2 (cA ⟨C0,s7⟩).s.tree;obtain ⟨x1,x2⟩:=Ia rfl hW8 a4 a5 p q;obtain ⟨u1,u2,_⟩:=c_ heu1 hno 2;have y1:kv 1 (cA ⟨C0,s7⟩).s.tree (47::p)=⟨0,0,0,a⟩:=by
  rw[t4];exact sU (r:=⟨0,true,[],aW [⟨q,1⟩] p 2,v⟩) (n:=⟨2,false,a,[],v+1⟩) hp w9 rfl u1 ((u2 _).2 (.inl rfl)) w9 rfl
 have y2:kv 1 (cA ⟨C0,s7⟩).s.tree (47::q)=⟨0,0,0,b⟩:=by
  rw[t4];exact sU (r:=⟨0,true,[],aW [⟨q,1⟩] p 2,v⟩) (n:=⟨1,false,b,[],2⟩) hq w9 rfl u1 ((u2 _).2 (.inr (List.mem_singleton.2 rfl))) w9 rfl
 rw[bF,bF,bF,bF,e0,bF,w5,bF,w6,bF,w7,bF,w8,bF,bF,x1,x2,y1,y2];exact ⟨_,_,_,_,_,_,rfl⟩
end La
