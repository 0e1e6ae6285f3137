/- Texts of this claim, part 28: PEv, PTr, PTr2. No condition. -/
import Derived.Test.YtmcfbfdonjllaaaGreatDoorYW27
set_option maxRecDepth 10000
set_option maxHeartbeats 4000000
set_option linter.unusedSimpArgs false
set_option linter.unusedVariables false
namespace La
open Go Go.Eng
theorem nI {l:List Node} (h:Up l) (k:Int):af l k=l.find? λn=>n.fid==k:=by
 cases e:l.find? λn=>n.fid==k with
 | none=>
  rw[List.find?_eq_none] at e;rw[dd h];intro x hx hf;exact e x hx (by simpa using hf)
 | some x=>
  exact (ZO h).2 ⟨List.mem_of_find?_eq_some e,by simpa using List.find?_some e⟩
def nq (n:Node):List Node->List Node
 | []=>[n]
 | m::l=>if m.fid<n.fid then m::nq n l else if m.fid=n.fid then n::l else n::m::l
theorem sj (n:Node):∀{l:List Node},Up l->∀x,x∈nq n l↔x=n\/(x∈l/\x.fid≠n.fid)
 | [],_,x=>by simp[nq]
 | m::l,h,x=>by
  have hm:=List.pairwise_cons.1 h;have ih:=sj n hm.2 x;unfold nq
  by_cases h1:m.fid<n.fid
  ·rw[if_pos h1,List.mem_cons,ih,List.mem_cons];constructor
   ·rintro (rfl | rfl | ⟨h2,h3⟩)
    ·exact .inr ⟨.inl rfl,by omega⟩
    ·exact .inl rfl
    ·exact .inr ⟨.inr h2,h3⟩
   ·rintro (rfl | ⟨rfl | h2,h3⟩)
    ·exact .inr (.inl rfl)
    ·exact .inl rfl
    ·exact .inr (.inr ⟨h2,h3⟩)
  ·rw[if_neg h1]
   by_cases h2:m.fid=n.fid
   ·rw[if_pos h2,List.mem_cons,List.mem_cons];constructor
    ·rintro (rfl | h3)
     ·exact .inl rfl
     ·have:=hm.1 x h3;exact .inr ⟨.inr h3,by omega⟩
    ·rintro (rfl | ⟨rfl | h3,h4⟩)
     ·exact .inl rfl
     ·exact absurd h2 h4
     ·exact .inr h3
   ·rw[if_neg h2,List.mem_cons,List.mem_cons];constructor
    ·rintro (rfl | rfl | h3)
     ·exact .inl rfl
     ·exact .inr ⟨.inl rfl,h2⟩
     ·have:=hm.1 x h3;exact .inr ⟨.inr h3,by omega⟩
    ·rintro (rfl | ⟨rfl | h3,h4⟩)
     ·exact .inl rfl
     ·exact .inr (.inl rfl)
     ·exact .inr (.inr h3)
theorem AW (n:Node):∀{l:List Node},Up l->Up (nq n l)
 | [],_=>List.pairwise_singleton _ _
 | m::l,h=>by
  have hm:=List.pairwise_cons.1 h;have ih:=AW n hm.2;unfold nq
  by_cases h1:m.fid<n.fid
  ·rw[if_pos h1];refine List.pairwise_cons.2 ⟨λx hx=>?_,ih⟩
   rcases (sj n hm.2 x).1 hx with rfl | ⟨h2,_⟩
   ·exact h1
   ·exact hm.1 x h2
  ·rw[if_neg h1]
   by_cases h2:m.fid=n.fid
   ·rw[if_pos h2];exact List.pairwise_cons.2 ⟨λx hx=>by have:=hm.1 x hx;omega,hm.2⟩
   ·rw[if_neg h2];exact List.pairwise_cons.2 ⟨λx hx=>by
     rcases List.mem_cons.1 hx with rfl | hx
     ·omega
     ·have:=hm.1 x hx;omega,h⟩
theorem oZ {l:List Node} (h:Up l) (n:Node):aT l n=nq n l:=jF _ _ (aD h n).1 (AW n h) λx=>by rw[(aD h n).2,sj n h]
theorem EN {l m:List Node} (hl:(l.map λn=>n.fid).Nodup) (hm:Up m) (he:∀x,x∈l↔x∈m):lG l=m:=jF _ _ (nS l) hm λx=>by rw[qh l (kI hl),he]
theorem AX {l:List Entry} (h:EUp l) (s:List UInt8):isE l s=l.any λe=>e.name==s:=by
 rw[W1,iC h,List.any_eq_true];simp
theorem lS {n:Node} (h:EUp n.entries) (s:List UInt8):ay n s=(n.entries.find? λe=>e.name==s).map (·.fid):=by
 cases e:n.entries.find? λe=>e.name==s with
 | none=>
  rw[List.find?_eq_none] at e;exact (gZ h).2 λx hx hf=>e x hx (by simpa using hf)
 | some x=>
  have h1:=List.mem_of_find?_eq_some e;have h2:x.name=s:=by simpa using List.find?_some e
  exact (YE h).2 (by rw[←h2];exact h1)
theorem zi (s:List UInt8) (f:Int):aW [] s f=[⟨s,f⟩]:=by
 obtain ⟨h1,h2,_⟩:=c_ (l:=[]) List.Pairwise.nil (s:=s) (by rw[AX List.Pairwise.nil];rfl) f;exact rD h1 (List.pairwise_singleton _ _) λe=>by rw[h2];simp
def c0 (i:Int) (d:Bool) (la cl m lg:Int):Cli:=⟨i,true,4,[⟨aA,d,0,la⟩],[],[],[],cl,m,lg⟩
variable {i:Int}
def aG (s:List UInt8) (f:Int):Node:=⟨0,true,[],[⟨s,f⟩],0⟩
def av (f:Int) (dir:Bool) (data:List UInt8):Node:=⟨f,dir,data,[],0⟩
def b_ (k:Int) (s:List UInt8) (f lg:Int):Rec:=⟨⟨k,f,0,s,0,[],[]⟩,-1,lg⟩
def dz (f:Int) (data:List UInt8) (lg:Int):Rec:=⟨⟨3,f,0,[],0,[],data⟩,-1,lg⟩
def c1 (i la lb cl m lg:Int) (log:List Rec) (s:List UInt8) (f:Int) (dir:Bool) (data:List UInt8):Cli:=⟨i,true,4,[⟨aG s f,true,0,la⟩,⟨av f dir data,true,0,lb⟩],log,[],[],cl,m,lg⟩
theorem EV (d:Bool) (la cl m lg:Int):aU (c0 i d la cl m lg)=[aA]:=rfl
theorem yF {f:Int} (hf:f<0) (s:List UInt8) (dir:Bool) (data:List UInt8):Up [av f dir data,aG s f]:=List.pairwise_cons.2 ⟨λx hx=>by rw[List.mem_singleton.1 hx];exact hf,List.pairwise_singleton _ _⟩
theorem uX (la lb cl m lg:Int) (log:List Rec) (s:List UInt8) {f:Int} (hf:f<0) (dir:Bool) (data:List UInt8):aU (c1 i la lb cl m lg log s f dir data)=[av f dir data,aG s f]:=by
 unfold aU;refine EN ?_ (yF hf s dir data) λx=>?_
 ·show [(0:Int),f].Nodup
  simp;omega
 ·show x∈[aG s f,av f dir data]↔_
  simp[or_comm]
theorem oB {f:Int} (hf:f<0) (s:List UInt8) (dir:Bool) (data:List UInt8):af [av f dir data,aG s f] f=some (av f dir data)/\af [av f dir data,aG s f] 0=some (aG s f):=by
 rw[nI (yF hf s dir data),nI (yF hf s dir data)];have h1:((av f dir data).fid==0)=false:=by rw[beq_eq_false_iff_ne];show f≠0;omega
 refine ⟨?_,?_⟩
 ·rw[List.find?_cons,show ((av f dir data).fid==f)=true from beq_self_eq_true f]
 ·rw[List.find?_cons,h1];rfl
theorem vA {k:Int} (h:k≠0):af [aA] k=none:=by
 rw[nI gk.up,List.find?_cons,show (aA.fid==k)=false from beq_eq_false_iff_ne.2 λe=>h e.symm];rfl
theorem DJ:af [aA] 0=some aA:=rfl
theorem qe {s:List UInt8} (hs:de s=true):cZ aA s=0:=(nB _ _).2 ⟨hs,rfl,by decide⟩
theorem Bm {k:Int} (hk:k=1\/k=2) {s:List UInt8} (hs:de s=true) (d:Bool) (cl:Int) {m:Int} (hm:0≤m) (lg:Int) (sv:Srv) :
  kZ ⟨c0 i d cl cl m lg,sv⟩ ⟨k,0,0,s,0,[],[]⟩ (-1)=⟨0,⟨c1 i cl cl cl (m+1) (lg+1) [b_ k s (-1-m) (lg+1)] s (-1-m) (k==2) [],sv⟩⟩:=by
 have hmk:an (⟨k,0,0,s,0,[],[]⟩:Act)=true:=(km _).2 hk;have hA:cd (c0 i d cl cl m lg) ⟨k,0,0,s,0,[],[]⟩=⟨k,-1-m,0,s,0,[],[]⟩:=by unfold cd;rw[if_pos hmk];rfl
 have hV:tN ⟨k,0,0,s,0,[],[]⟩ (-1)=-1:=by unfold tN;rw[if_pos hmk]
 generalize hf:-1-m=f at *;have hf0:f<0:=by omega
 have hE:cC [aA] ⟨k,f,0,s,0,[],[]⟩=0:=(me _ _).2 ⟨aA,DJ,rfl,qe hs,vA (by show f≠0;omega),by show f≠0;omega,by decide⟩;have he:aB [aA] ⟨k,f,0,s,0,[],[]⟩=0:=by unfold aB;rcases hk with rfl | rfl<;>exact hE
 have hL:aH [aA] ⟨k,f,0,s,0,[],[]⟩ 0=[av f (k==2) [],aG s f]:=by
  have hM:bE [aA] ⟨k,f,0,s,0,[],[]⟩ 0=[av f (k==2) [],aG s f]:=by
   unfold bE;rw[if_pos hE,oZ (aD gk.up _).1,oZ gk.up]
   show nq (av f (k==2) []) (nq ⟨0,true,[],aW [] s f,0⟩ [aA])=_
   rw[zi]
   show nq (av f (k==2) []) [aG s f]=_
   unfold nq;rw[if_neg (by show ¬(0<f);omega),if_neg (by show ¬(0=f);omega)]
  unfold aH
  rcases hk with rfl | rfl<;>exact hM
 have hlog:kY (c0 i d cl cl m lg) ⟨k,0,0,s,0,[],[]⟩ (-1)=some [b_ k s f (lg+1)]:=by
  unfold kY;rw[hA,hV]
  rcases hk with rfl | rfl<;>rfl
 have hN:cJ (c0 i d cl cl m lg) ⟨k,0,0,s,0,[],[]⟩=[av f (k==2) [],aG s f]:=by unfold cJ;rw[hA,EV,hL]
 have h1:aM [aA] ⟨k,f,0,s,0,[],[]⟩ (av f (k==2) [])=true:=by
  unfold aM;rw[show (av f (k==2) []).fid=f from rfl,vA z7];rfl
 have h2:aM [aA] ⟨k,f,0,s,0,[],[]⟩ (aG s f)=true:=by
  unfold aM;rw[show (aG s f).fid=0 from rfl,DJ];rfl
 have hkp:fy (c0 i d cl cl m lg) ⟨k,0,0,s,0,[],[]⟩=some [⟨aG s f,true,0,cl⟩,⟨av f (k==2) [],true,0,cl⟩]:=by
  unfold fy;rw[hN,hA,EV];unfold bK;rw[if_pos h1];have k1:dD [aA] cl (av f (k==2) [])=⟨av f (k==2) [],true,0,cl⟩:=by unfold dD;rw[show (av f (k==2) []).fid=f from rfl,vA z7];rfl
  have k2:dD [aA] cl (aG s f)=⟨aG s f,true,0,cl⟩:=rfl
  show (match cB [⟨aA,d,0,cl⟩] 4 (dD [aA] cl (av f (k==2) [])) with | none=>none | some l'=>bK 4 cl [aA] _ [aG s f] l')=_
  rw[k1];have k3:cB [⟨aA,d,0,cl⟩] 4 ⟨av f (k==2) [],true,0,cl⟩=some [⟨aA,d,0,cl⟩,⟨av f (k==2) [],true,0,cl⟩]:=by
   unfold cB dq;have:(aA.fid==(av f (k==2) []).fid)=false:=beq_eq_false_iff_ne.2 Q0;simp only[List.findIdx?_cons,this,List.findIdx?_nil,Option.map_none];rfl
  rw[k3]
  show bK 4 cl [aA] _ [aG s f] _=_
  unfold bK;rw[if_pos h2,k2];rfl
 unfold kZ;rw[EV,hA,he,if_neg y7,hlog,hkp,hN,if_pos hmk];have ha:bz [av f (k==2) [],aG s f] 0=true:=by rw[bP,(oB hf0 s _ _).2];rfl
 have hb:bz [av f (k==2) [],aG s f] f=true:=by rw[bP,(oB hf0 s _ _).1];rfl
 have hfl:([⟨aG s f,true,0,cl⟩,⟨av f (k==2) [],true,0,cl⟩]:List Kept).filter (λx=>bz [av f (k==2) [],aG s f] x.node.fid)=[⟨aG s f,true,0,cl⟩,⟨av f (k==2) [],true,0,cl⟩]:=
  WU.2 λx hx=>by
   simp only[List.mem_cons,List.not_mem_nil,or_false] at hx
   rcases hx with rfl | rfl
   ·exact ha
   ·exact hb
 simp only[hfl];rfl
theorem C7 {l:List Kept} {p:Kept->Bool} (h:∀x,x∈l->p x=true):l.filter p=l:=WU.2 h
theorem E0 {s data:List UInt8} {f:Int} (hf:f<0) (hd:data.length≤20) (la lb cl m lg l0:Int) (sv:Srv) :
  kZ ⟨c1 i la lb cl m lg [b_ 1 s f l0] s f false [],sv⟩ (az f data) (-1)=⟨0,⟨c1 i la cl cl m (lg+1) [b_ 1 s f l0,dz f data (lg+1)] s f false data,sv⟩⟩:=by
 have hA:cd (c1 i la lb cl m lg [b_ 1 s f l0] s f false []) (az f data)=az f data:=rfl;obtain ⟨g1,g2⟩:=oB hf s false [];have hE:cr [av f false [],aG s f] (az f data)=0:=(fA _ _).2 ⟨av f false [],g1,rfl,hd⟩;have he:aB [av f false [],aG s f] (az f data)=0:=hE;have hL:aH [av f false [],aG s f] (az f data) 0=[av f false data,aG s f]:=by
  show bM _ _ 0=_
  unfold bM;rw[if_pos hE,aJ (show af _ (az f data).fid=_ from g1),oZ (yF hf s false [])]
  show nq (av f false data) [av f false [],aG s f]=_
  unfold nq;rw[if_neg (by show ¬(f<f);omega),if_pos QZ]
 have hlog:kY (c1 i la lb cl m lg [b_ 1 s f l0] s f false []) (az f data) (-1)=some [b_ 1 s f l0,dz f data (lg+1)]:=by
  unfold kY;rw[hA]
  show dC [b_ 1 s f l0] (dz f data (lg+1))=_
  have hc:ea [b_ 1 s f l0] (dz f data (lg+1))=false:=by
   unfold ea;split
   ·rfl
   ·rfl
  unfold dC;rw[hc];rfl
 have hN:cJ (c1 i la lb cl m lg [b_ 1 s f l0] s f false []) (az f data)=[av f false data,aG s f]:=by unfold cJ;rw[hA,uX la lb cl m lg _ s hf,hL]
 have h1:aM [av f false [],aG s f] (az f data) (av f false data)=true:=by
  unfold aM;rw[show (av f false data).fid=f from rfl,g1];simp[az]
 have h2:aM [av f false [],aG s f] (az f data) (aG s f)=false:=by
  unfold aM;rw[show (aG s f).fid=0 from rfl,g2];have:((0:Int) != f)=true:=by rw[bne_iff_ne];omega
  simp[az,eS,this]
 have hkp:fy (c1 i la lb cl m lg [b_ 1 s f l0] s f false []) (az f data)=some [⟨aG s f,true,0,la⟩,⟨av f false data,true,0,cl⟩]:=by
  unfold fy;rw[hN,hA,uX la lb cl m lg _ s hf];unfold bK;rw[if_pos h1];have k1:dD [av f false [],aG s f] cl (av f false data)=⟨av f false data,true,0,cl⟩:=by unfold dD;rw[show (av f false data).fid=f from rfl,g1];rfl
  show (match cB [⟨aG s f,true,0,la⟩,⟨av f false [],true,0,lb⟩] 4 (dD [av f false [],aG s f] cl (av f false data)) with | none=>none | some l'=>bK 4 cl [av f false [],aG s f] _ [aG s f] l')=_
  rw[k1];have k3:cB [⟨aG s f,true,0,la⟩,⟨av f false [],true,0,lb⟩] 4 ⟨av f false data,true,0,cl⟩=some [⟨aG s f,true,0,la⟩,⟨av f false data,true,0,cl⟩]:=by
   unfold cB dq;have:((aG s f).fid==(av f false data).fid)=false:=beq_eq_false_iff_ne.2 Q0;have h4:((av f false []).fid==(av f false data).fid)=true:=beq_self_eq_true f;simp only[List.findIdx?_cons,this,h4];rfl
  rw[k3]
  show bK 4 cl [av f false [],aG s f] _ [aG s f] _=_
  unfold bK;rw[if_neg (by rw[h2];simp)];rfl
 unfold kZ;rw[uX la lb cl m lg _ s hf,hA,he,if_neg y7,hlog,hkp,hN,if_neg (show ¬an (az f data)=true by simp[an,az])];obtain ⟨q1,q2⟩:=oB hf s false data;have hfl:([⟨aG s f,true,0,la⟩,⟨av f false data,true,0,cl⟩]:List Kept).filter (λx=>bz [av f false data,aG s f] x.node.fid)=[⟨aG s f,true,0,la⟩,⟨av f false data,true,0,cl⟩]:=
  C7 λx hx=>by
   simp only[List.mem_cons,List.not_mem_nil,or_false] at hx
   rcases hx with rfl | rfl
   ·show bz _ 0=true;rw[bP,q2];rfl
   ·show bz _ f=true;rw[bP,q1];rfl
 simp only[hfl];rfl
def IQ (log:List Rec) (s:List UInt8) (f:Int):Prop:=(∃k l0,(k=1\/k=2)/\log=[b_ k s f l0])\/∃l0 l1 data,log=[b_ 1 s f l0,dz f data l1]
theorem D7 {log:List Rec} {s:List UInt8} {f:Int} (h:IQ log s f) (v i:Int):dC log ⟨aK f 0 s,v,i⟩=some []:=by
 have hm:∀{k l0:Int},k=1\/k=2->fg f (b_ k s f l0)=true:=λhk=>by
  unfold fg b_
  rcases hk with rfl | rfl<;>simp
 have hn:∀{k l0:Int},k=1\/k=2->(b_ k s f l0).names f=true:=λhk=>by
  rw[iJ];exact hX _
 rcases h with ⟨k,l0,hk,rfl⟩ | ⟨l0,l1,data,rfl⟩
 ·have hc:ea [b_ k s f l0] ⟨aK f 0 s,v,i⟩=true:=by
   unfold ea;rw[show (⟨aK f 0 s,v,i⟩:Rec).act.fid=f from rfl,List.findIdx?_cons,hm hk];simp[b_,aK]
  unfold dC;rw[if_pos hc,List.filter_cons,show (⟨aK f 0 s,v,i⟩:Rec).act.fid=f from rfl,hn hk];rfl
 ·have hc:ea [b_ 1 s f l0,dz f data l1] ⟨aK f 0 s,v,i⟩=true:=by
   unfold ea;rw[show (⟨aK f 0 s,v,i⟩:Rec).act.fid=f from rfl,List.findIdx?_cons,hm (.inl rfl)];simp[b_,dz,aK,bars,gr]
  have hn2:(dz f data l1).names f=true:=by rw[iJ];exact hX _
  unfold dC;rw[if_pos hc,List.filter_cons,show (⟨aK f 0 s,v,i⟩:Rec).act.fid=f from rfl,hn (.inl rfl),List.filter_cons,hn2];rfl
theorem CO {s data:List UInt8} {f:Int} (hf:f<0) {log:List Rec} (hl:IQ log s f) (dir:Bool) (la lb cl m lg seen:Int) (sv:Srv) :
  kZ ⟨c1 i la lb cl m lg log s f dir data,sv⟩ (aK f 0 s) seen=⟨0,⟨c0 i true cl cl m (lg+1),sv⟩⟩:=by
 have hA:cd (c1 i la lb cl m lg log s f dir data) (aK f 0 s)=aK f 0 s:=rfl;obtain ⟨g1,g2⟩:=oB hf s dir data;have hen:ay (aG s f) s=some f:=by
  rw[lS (n:=aG s f) (List.pairwise_singleton _ _)];simp[aG]
 have hE:cv [av f dir data,aG s f] (aK f 0 s)=0:=(jA _ _).2 ⟨aG s f,av f dir data,g2,rfl,hen,g1,rfl⟩;have he:aB [av f dir data,aG s f] (aK f 0 s)=0:=hE;have hL:aH [av f dir data,aG s f] (aK f 0 s) 0=[aA]:=by
  show bX _ _ 0=_
  unfold bX;rw[if_pos hE,aJ (show af _ (aK f 0 s).dir=_ from g2),oZ (yF hf s dir data)];have hlv:aE (aG s f) (aK f 0 s).name=aA:=by
   unfold aE aX aG aK aA;simp
  rw[hlv]
  show dN (nq aA [av f dir data,aG s f]) f=_
  unfold nq;rw[if_pos (by exact hf)];unfold nq;rw[if_neg (by show ¬((0:Int)<0);omega),if_pos QZ];unfold dN;have h1:((av f dir data).fid==f)=true:=beq_self_eq_true f;have h2:(aA.fid==f)=false:=beq_eq_false_iff_ne.2 Q0;rw[List.filter_cons,h1,List.filter_cons,h2];rfl
 have hlog:kY (c1 i la lb cl m lg log s f dir data) (aK f 0 s) seen=some []:=by
  unfold kY;rw[hA];exact D7 hl _ _
 have hN:cJ (c1 i la lb cl m lg log s f dir data) (aK f 0 s)=[aA]:=by unfold cJ;rw[hA,uX la lb cl m lg _ s hf,hL]
 have h1:aM [av f dir data,aG s f] (aK f 0 s) aA=true:=by
  unfold aM;rw[show aA.fid=0 from rfl,g2];simp[eS,aG,aA]
 have hkp:fy (c1 i la lb cl m lg log s f dir data) (aK f 0 s)=some [⟨aA,true,0,cl⟩,⟨av f dir data,true,0,lb⟩]:=by
  unfold fy;rw[hN,hA,uX la lb cl m lg _ s hf];unfold bK;rw[if_pos h1];have k1:dD [av f dir data,aG s f] cl aA=⟨aA,true,0,cl⟩:=by unfold dD;rw[show aA.fid=0 from rfl,g2];rfl
  show (match cB [⟨aG s f,true,0,la⟩,⟨av f dir data,true,0,lb⟩] 4 (dD [av f dir data,aG s f] cl aA) with | none=>none | some l'=>bK 4 cl [av f dir data,aG s f] _ [] l')=_
  rw[k1];rfl
 unfold kZ;rw[uX la lb cl m lg _ s hf,hA,he,if_neg y7,hlog,hkp,hN,if_neg (show ¬an (aK f 0 s)=true by simp[an,aK])];have hfl:([⟨aA,true,0,cl⟩,⟨av f dir data,true,0,lb⟩]:List Kept).filter (λx=>bz [aA] x.node.fid)=[⟨aA,true,0,cl⟩]:=by
  have q1:bz [aA] aA.fid=true:=rfl;have q2:bz [aA] (av f dir data).fid=false:=by
   rw[bP,show (av f dir data).fid=f from rfl,vA z7];rfl
  rw[List.filter_cons,q1,List.filter_cons,q2];rfl
 simp only[hfl];rfl
variable {i:Int}
theorem Iu (d:Bool) (la cl m lg:Int) (sv:Srv):aO ⟨c0 i d la cl m lg,sv⟩ 0 0=⟨aA,0,⟨c0 i d (cl+1) (cl+1) m lg,sv⟩⟩:=rfl
theorem Ec {f:Int} (hf:f<0) (la lb cl m lg:Int) (log:List Rec) (s:List UInt8) (dir:Bool) (data:List UInt8):bg (c1 i la lb cl m lg log s f dir data).cache f=some (av f dir data):=by
 unfold bg c1;have h1:((aG s f).fid==f)=false:=beq_eq_false_iff_ne.2 Q0;have h2:((av f dir data).fid==f)=true:=beq_self_eq_true f;rw[List.find?_cons];simp only[h1];rw[List.find?_cons];simp only[h2];rfl
theorem A3 {f:Int} (hf:f<0) (la lb cl m lg:Int) (log:List Rec) (s:List UInt8) (dir:Bool) (data:List UInt8) (sv:Srv) :
  aO ⟨c1 i la lb cl m lg log s f dir data,sv⟩ 0 0=⟨aG s f,0,⟨c1 i (cl+1) lb (cl+1) m lg log s f dir data,sv⟩⟩/\aO ⟨c1 i la lb cl m lg log s f dir data,sv⟩ f 0=⟨av f dir data,0,⟨c1 i la (cl+1) (cl+1) m lg log s f dir data,sv⟩⟩:=by
 have h1:¬(av f dir data).fid=0:=by show ¬f=0;omega
 have h2:¬(aG s f).fid=f:=by show ¬(0:Int)=f;omega
 constructor
 ·unfold aO;rw[show bg (c1 i la lb cl m lg log s f dir data).cache 0=some (aG s f) from rfl]
  show (⟨aG s f,0,cj _ 0 0⟩:Got)=_
  have:cj ⟨c1 i la lb cl m lg log s f dir data,sv⟩ 0 0=⟨c1 i (cl+1) lb (cl+1) m lg log s f dir data,sv⟩:=by
   unfold cj
   show (⟨{ (c1 i la lb cl m lg log s f dir data) with clock:=cl+1,cache:=[eE 0 0 (cl+1) ⟨aG s f,true,0,la⟩,eE 0 0 (cl+1) ⟨av f dir data,true,0,lb⟩] },sv⟩:U)=_
   rw[show eE 0 0 (cl+1) ⟨av f dir data,true,0,lb⟩=⟨av f dir data,true,0,lb⟩ from by unfold eE;rw[if_neg h1]];rfl
  rw[this]
 ·unfold aO;rw[Ec hf]
  show (⟨av f dir data,0,cj _ f 0⟩:Got)=_
  have:cj ⟨c1 i la lb cl m lg log s f dir data,sv⟩ f 0=⟨c1 i la (cl+1) (cl+1) m lg log s f dir data,sv⟩:=by
   unfold cj
   show (⟨{ (c1 i la lb cl m lg log s f dir data) with clock:=cl+1,cache:=[eE f 0 (cl+1) ⟨aG s f,true,0,la⟩,eE f 0 (cl+1) ⟨av f dir data,true,0,lb⟩] },sv⟩:U)=_
   rw[show eE f 0 (cl+1) ⟨aG s f,true,0,la⟩=⟨aG s f,true,0,la⟩ from by unfold eE;rw[if_neg h2],show eE f 0 (cl+1) ⟨av f dir data,true,0,lb⟩=⟨av f dir data,true,0,cl+1⟩ from by unfold eE;rw[if_pos QZ];rfl];rfl
  rw[this]
theorem xa (s:List UInt8) (f:Int):ay (aG s f) s=some f:=by
 rw[lS (n:=aG s f) (List.pairwise_singleton _ _)];simp[aG]
theorem mO {s:List UInt8} (h:cV s=true) (u:U) {n:Node} {v:U} (hg:aO u 0 0=⟨n,0,v⟩) (hn:n.dir=true):au u (47::s)=⟨n,s,0,v⟩:=by
 unfold au;rw[fL h];have hgo:goU u [] 0=⟨n,0,v⟩:=by unfold goU goR;rw[hg];rfl
 show (if (0:Int)≠0 then _ else if ([s]:List (List UInt8)).length=0 then _ else (⟨(goU u [] 0).n,s,if (goU u [] 0).e=0/\(goU u [] 0).n.dir=false then 8 else (goU u [] 0).e,(goU u [] 0).u⟩:GotD))=_
 rw[hgo,if_neg y7,if_neg y7];simp[hn]
theorem tu {s data:List UInt8} (hs:cV s=true) (hd:data.length≤20) (d:Bool) (la cl:Int) {m:Int} (hm:0≤m) (lg:Int) (sv:Srv) :
  bn ⟨c0 i d la cl m lg,sv⟩ (47::s) data=⟨0,⟨c1 i (cl+1+1) (cl+1+1+1) (cl+1+1+1) (m+1) (lg+1+1) [b_ 1 s (-1-m) (lg+1),dz (-1-m) data (lg+1+1)] s (-1-m) false data,sv⟩⟩:=by
 have hmk:=Bm (i:=i) (k:=1) (.inl rfl) (iN hs) d (cl+1) hm lg sv;have hf:-1-m<0:=by omega
 generalize -1-m=f at *;have hact:bC ⟨c0 i d (cl+1) (cl+1) m lg,sv⟩ (aZ 0 s) (-1)=⟨0,⟨c1 i (cl+1) (cl+1) (cl+1) (m+1) (lg+1) [b_ 1 s f (lg+1)] s f false [],sv⟩⟩:=by
  unfold bC;rw[if_pos (show (c0 i d (cl+1) (cl+1) m lg).away=true from rfl)];exact hmk
 obtain ⟨l1,_⟩:=A3 (i:=i) hf (cl+1) (cl+1) (cl+1) (m+1) (lg+1) [b_ 1 s f (lg+1)] s false [] sv;obtain ⟨_,l2⟩:=A3 (i:=i) hf (cl+1+1) (cl+1) (cl+1+1) (m+1) (lg+1) [b_ 1 s f (lg+1)] s false [] sv;have hgo:goU ⟨c1 i (cl+1) (cl+1) (cl+1) (m+1) (lg+1) [b_ 1 s f (lg+1)] s f false [],sv⟩ [s] 0=⟨av f false [],0,⟨c1 i (cl+1+1) (cl+1+1+1) (cl+1+1+1) (m+1) (lg+1) [b_ 1 s f (lg+1)] s f false [],sv⟩⟩:=by
  unfold goU;rw[l1];unfold goR;simp only[xa]
  show goR 0 [] (aO _ f 0)=_
  rw[l2];rfl
 have hst:=E0 (i:=i) hf hd (cl+1+1) (cl+1+1+1) (cl+1+1+1) (m+1) (lg+1) (lg+1) sv (s:=s);unfold bn;rw[mO hs _ (Iu d la cl m lg sv) rfl]
 show (if (0:Int)≠0 then _ else if data.length>20 then _ else if (bC ⟨c0 i d (cl+1) (cl+1) m lg,sv⟩ (aZ 0 s) (-1)).e≠0 then _ else jl (goU (bC ⟨c0 i d (cl+1) (cl+1) m lg,sv⟩ (aZ 0 s) (-1)).u (ah (47::s)).1 0) data)=_
 rw[hact,fL hs,hgo,if_neg y7,if_neg z7,if_neg y7];unfold jl;rw[if_neg y7];have hsn:dZ (av f false [])=-1:=by unfold dZ;rw[if_pos (by exact hf)]
 show bC _ (az f data) (dZ (av f false []))=_
 rw[hsn];unfold bC;rw[if_pos QZ];exact hst
theorem EY {s:List UInt8} (hs:cV s=true) (d:Bool) (la cl:Int) {m:Int} (hm:0≤m) (lg:Int) (sv:Srv) :
  fh ⟨c0 i d la cl m lg,sv⟩ (47::s)=⟨0,⟨c1 i (cl+1) (cl+1) (cl+1) (m+1) (lg+1) [b_ 2 s (-1-m) (lg+1)] s (-1-m) true [],sv⟩⟩:=by
 have hmk:=Bm (i:=i) (k:=2) (.inr rfl) (iN hs) d (cl+1) hm lg sv;unfold fh;rw[mO hs _ (Iu d la cl m lg sv) rfl,if_neg y7]
 show bC ⟨c0 i d (cl+1) (cl+1) m lg,sv⟩ (lC 0 s) (-1)=_
 unfold bC;rw[if_pos QZ];exact hmk
theorem IN {s data:List UInt8} (hs:cV s=true) {f:Int} (hf:f<0) {log:List Rec} (hl:IQ log s f) (dir:Bool) (la lb cl m lg:Int) (sv:Srv) :
  cn ⟨c1 i la lb cl m lg log s f dir data,sv⟩ (47::s)=⟨0,⟨c0 i true (cl+1+1) (cl+1+1) m (lg+1),sv⟩⟩:=by
 obtain ⟨l1,_⟩:=A3 (i:=i) hf la lb cl m lg log s dir data sv;obtain ⟨_,l2⟩:=A3 (i:=i) hf (cl+1) lb (cl+1) m lg log s dir data sv;have hat:atU ⟨c1 i la lb cl m lg log s f dir data,sv⟩ (47::s)=⟨0,s,av f dir data,0,⟨c1 i (cl+1) (cl+1+1) (cl+1+1) m lg log s f dir data,sv⟩⟩:=by
  unfold atU;rw[mO hs _ l1 rfl,if_neg y7];simp only[xa];rw[l2];rfl
 unfold cn;rw[hat,if_neg y7]
 show bC _ (aK f 0 s) _=_
 unfold bC;rw[if_pos QZ];exact CO hf hl dir _ _ _ _ _ _ sv
theorem mH {c:Cli} {s:Srv} {x:Step} (hx:x.client=0) (ha:(ar ⟨c,s⟩ x).u.c.away=true):ai ⟨s,[c]⟩ x=⟨⟨(ar ⟨c,s⟩ x).u.s,[(ar ⟨c,s⟩ x).u.c]⟩,(ar ⟨c,s⟩ x).r⟩:=by
 rw[fN (w:=⟨s,[c]⟩) rfl hx];have:aS (ar ⟨c,s⟩ x).u.s.tree (ar ⟨c,s⟩ x).u.c=(ar ⟨c,s⟩ x).u.c:=by unfold aS;rw[if_pos ha]
 rw[this]
def mkS (dir:Bool) (s data:List UInt8):Step:=⟨if dir=true then 4 else 3,0,0,47::s,[],data⟩
def rmS (s:List UInt8):Step:=⟨5,0,0,47::s,[],[]⟩
theorem H9 {s data:List UInt8} (hs:cV s=true) (hd:data.length≤20) (dir:Bool) (d:Bool) (la cl:Int) {m:Int} (hm:0≤m) (lg:Int) (sv:Srv) :
  ∃la' cl' lg' w,ai ⟨sv,[c0 i d la cl m lg]⟩ (mkS dir s data)=⟨w,bG 0⟩/\ai w (rmS s)=⟨⟨sv,[c0 i true la' cl' (m+1) lg']⟩,bG 0⟩:=by
 have hf:-1-m<0:=by omega
 cases dir with
 | false=>
  have h1:ar ⟨c0 i d la cl m lg,sv⟩ (mkS false s data)=⟨⟨c1 i (cl+1+1) (cl+1+1+1) (cl+1+1+1) (m+1) (lg+1+1) [b_ 1 s (-1-m) (lg+1),dz (-1-m) data (lg+1+1)] s (-1-m) false data,sv⟩,bG 0⟩:=by
   show (⟨(bn _ (47::s) data).u,bG (bn _ (47::s) data).e⟩:GotS)=_
   rw[tu hs hd d la cl hm lg sv]
  have h2:=IN (i:=i) (data:=data) hs hf (.inr ⟨lg+1,lg+1+1,data,rfl⟩) false (cl+1+1) (cl+1+1+1) (cl+1+1+1) (m+1) (lg+1+1) sv;refine ⟨cl+1+1+1+1+1,cl+1+1+1+1+1,lg+1+1+1,⟨sv,[c1 i (cl+1+1) (cl+1+1+1) (cl+1+1+1) (m+1) (lg+1+1) [b_ 1 s (-1-m) (lg+1),dz (-1-m) data (lg+1+1)] s (-1-m) false data]⟩,?_,?_⟩
  ·rw[mH rfl (by rw[h1];rfl),h1]
  ·have h3:ar ⟨c1 i (cl+1+1) (cl+1+1+1) (cl+1+1+1) (m+1) (lg+1+1) [b_ 1 s (-1-m) (lg+1),dz (-1-m) data (lg+1+1)] s (-1-m) false data,sv⟩ (rmS s)=⟨⟨c0 i true (cl+1+1+1+1+1) (cl+1+1+1+1+1) (m+1) (lg+1+1+1),sv⟩,bG 0⟩:=by
    show (⟨(cn _ (47::s)).u,bG (cn _ (47::s)).e⟩:GotS)=_
    rw[h2]
   rw[mH rfl (by rw[h3];rfl),h3]
 | true=>
  have h1:ar ⟨c0 i d la cl m lg,sv⟩ (mkS true s data)=⟨⟨c1 i (cl+1) (cl+1) (cl+1) (m+1) (lg+1) [b_ 2 s (-1-m) (lg+1)] s (-1-m) true [],sv⟩,bG 0⟩:=by
   show (⟨(fh _ (47::s)).u,bG (fh _ (47::s)).e⟩:GotS)=_
   rw[EY hs d la cl hm lg sv]
  have h2:=IN (i:=i) (data:=[]) hs hf (.inl ⟨2,lg+1,.inr rfl,rfl⟩) true (cl+1) (cl+1) (cl+1) (m+1) (lg+1) sv;refine ⟨cl+1+1+1,cl+1+1+1,lg+1+1,⟨sv,[c1 i (cl+1) (cl+1) (cl+1) (m+1) (lg+1) [b_ 2 s (-1-m) (lg+1)] s (-1-m) true []]⟩,?_,?_⟩
  ·rw[mH rfl (by rw[h1];rfl),h1]
  ·have h3:ar ⟨c1 i (cl+1) (cl+1) (cl+1) (m+1) (lg+1) [b_ 2 s (-1-m) (lg+1)] s (-1-m) true [],sv⟩ (rmS s)=⟨⟨c0 i true (cl+1+1+1) (cl+1+1+1) (m+1) (lg+1+1),sv⟩,bG 0⟩:=by
    show (⟨(cn _ (47::s)).u,bG (cn _ (47::s)).e⟩:GotS)=_
    rw[h2]
   rw[mH rfl (by rw[h3];rfl),h3]
def ey (dir:Bool) (s data:List UInt8):Nat->List Step
 | 0=>[]
 | n+1=>mkS dir s data::rmS s::ey dir s data n
theorem sL (dir:Bool) (s data:List UInt8):∀n,(ey dir s data n).length=2*n
 | 0=>rfl
 | n+1=>by unfold ey;rw[List.length_cons,List.length_cons,sL];omega
theorem EZ {s data:List UInt8} (hs:cV s=true) (hd:data.length≤20) (dir:Bool) (sv:Srv):∀(n:Nat) (d:Bool) (la cl m lg:Int),0≤m ->
  (∀r,r∈rsW ⟨sv,[c0 i d la cl m lg]⟩ (ey dir s data n)->r.err=0)/\∃d' la' cl' m' lg',bO ⟨sv,[c0 i d la cl m lg]⟩ (ey dir s data n)=⟨sv,[c0 i d' la' cl' m' lg']⟩
 | 0,d,la,cl,m,lg,_=>⟨λr hr=>Zn,d,la,cl,m,lg,rfl⟩
 | n+1,d,la,cl,m,lg,hm=>by
  obtain ⟨la',cl',lg',w,h1,h2⟩:=H9 hs hd dir d la cl hm lg sv;obtain ⟨h3,h4⟩:=EZ hs hd dir sv n true la' cl' (m+1) lg' z7;constructor
  ·intro r hr;have hr:r∈(ai ⟨sv,[c0 i d la cl m lg]⟩ (mkS dir s data)).r::(ai (ai ⟨sv,[c0 i d la cl m lg]⟩ (mkS dir s data)).w (rmS s)).r::rsW (ai (ai ⟨sv,[c0 i d la cl m lg]⟩ (mkS dir s data)).w (rmS s)).w (ey dir s data n):=hr;rw[h1] at hr;simp only[h2] at hr
   rcases List.mem_cons.1 hr with rfl | hr
   ·rfl
   ·rcases List.mem_cons.1 hr with rfl | hr
    ·rfl
    ·exact h3 r hr
  ·have:bO ⟨sv,[c0 i d la cl m lg]⟩ (ey dir s data (n+1))=bO (ai (ai ⟨sv,[c0 i d la cl m lg]⟩ (mkS dir s data)).w (rmS s)).w (ey dir s data n):=rfl;rw[this,h1];simp only[h2];exact h4
theorem CL {s data:List UInt8} (hs:cV s=true) (hd:data.length≤20) (dir:Bool) (n:Nat) :
  (∀r,r∈rsW (bo [4]) (bR::ba::(ey dir s data n++[bp]))->r.err=0) /\
  ((rsW (bo [4]) (bR::ba::(ey dir s data n++[bp]))).getD (2*n+2) default).n=0/\((rsW (bo [4]) (bR::ba::(ey dir s data n++[bp]))).getD (2*n+2) default).m=0 /\
  (bO (bo [4]) (bR::ba::(ey dir s data n++[bp]))).s=bj:=by
 have e0:(ai (ai (bo [4]) bR).w ba).w=⟨bj,[c0 0 false 1 1 0 0]⟩:=by kernel_rfl
 have e1:(ai (bo [4]) bR).r.err=0:=by kernel_rfl
 have e2:(ai (ai (bo [4]) bR).w ba).r.err=0:=by kernel_rfl
 obtain ⟨h1,d',la',cl',m',lg',h2⟩:=EZ (i:=0) hs hd dir bj n false 1 1 0 0 j6;have hb:ai ⟨bj,[c0 0 d' la' cl' m' lg']⟩ bp=⟨⟨bj,[(ai ⟨bj,[c0 0 d' la' cl' m' lg']⟩ bp).w.cs.getD 0 default]⟩,⟨0,0,0,[]⟩⟩:=by
  rw[fN (w:=⟨bj,[c0 0 d' la' cl' m' lg']⟩) rfl rfl];rfl
 have e3:rsW (bo [4]) (bR::ba::(ey dir s data n++[bp]))=(ai (bo [4]) bR).r::(ai (ai (bo [4]) bR).w ba).r::(rsW ⟨bj,[c0 0 false 1 1 0 0]⟩ (ey dir s data n)++[⟨0,0,0,[]⟩]):=by
  show _::_::rsW (ai (ai (bo [4]) bR).w ba).w _=_
  rw[e0,nd,h2]
  show _::_::(_++[(ai _ bp).r])=_
  rw[hb]
 have hlen:=jC (ey dir s data n) ⟨bj,[c0 0 false 1 1 0 0]⟩;rw[sL] at hlen;have hlast:(rsW (bo [4]) (bR::ba::(ey dir s data n++[bp]))).getD (2*n+2) default=⟨0,0,0,[]⟩:=by
  rw[e3,show 2*n+2=2*n+1+1 from rfl,List.getD_cons_succ,List.getD_cons_succ,Z1,WJ z7,hlen,Wf];rfl
 refine ⟨λr hr=>?_,by rw[hlast],by rw[hlast],?_⟩
 ·rw[e3] at hr
  rcases List.mem_cons.1 hr with rfl | hr
  ·exact e1
  ·rcases List.mem_cons.1 hr with rfl | hr
   ·exact e2
   ·rcases List.mem_append.1 hr with hr | hr
    ·exact h1 r hr
    ·rw[List.mem_singleton.1 hr]
 ·have:bO (bo [4]) (bR::ba::(ey dir s data n++[bp]))=bO (ai (ai (bo [4]) bR).w ba).w (ey dir s data n++[bp]):=rfl;rw[this,e0,td,h2]
  show (ai _ bp).w.s=_
  rw[hb]
end La
