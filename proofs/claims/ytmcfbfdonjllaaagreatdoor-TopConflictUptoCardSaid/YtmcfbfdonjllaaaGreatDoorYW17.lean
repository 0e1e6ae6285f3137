/- Texts of this claim, part 17: RCache, RKeepK, RFreshK, RList, CKeep, RU, Cut, RSplit, RGo, RHoard, RDo, Add, Add2, RAdd, RAdd2. No condition. -/
import Derived.Test.YtmcfbfdonjllaaaGreatDoorYW16
set_option maxRecDepth 10000
set_option maxHeartbeats 4000000
set_option linter.unusedSimpArgs false
set_option linter.unusedVariables false
namespace La
open Go Go.Eng Go.Proofs
theorem Ix (l:List Node) (hlen:l.length≤100000000):ag Tryz.prog 27 [.sl (l.map ZN)] [] (λr _=>r=.rm (mN (f_ l))):=by
 rw[←A4];refine ZF tK (Tryz.func27) rfl (λC=>?_);simp only[Tryz.ntmps27,Tryz.results27,go_sem];refine wG tK ?_;refine ZL (λi:Nat=>i≤l.length) (λi=>l.length-i) (λi=>(3,.mp 6)::(5,.any)::(9,.int .i64 i)::u3 10 8 [])
  (λi=>[(6,.map (qH l i))]) 0 z7 ?_ λi hi=>?_
 ·simp only[go_sem];exact ZU w4 (by simp[go_sem,qH,jw]) p8
 simp only[go_sem];refine wG tK ?_;refine wD (λh=>?_) (λh=>?_)
 ·have hlt:i<l.length:=by simp at h;omega
  have hg:(l.map ZN).getD i []=ZN (l.getD i default):=Fam.getD hlt;have hw:=wi1 (i:=i) z7;have hput:qH l (i+1)=eh (qH l i) (l.getD i default).fid (.agg (ZN (l.getD i default))):=rfl;generalize l.getD i default=n at *;refine wGq tK ?_ ?_ (by simp only[go_sem,hg,ZN,hw];try exact rfl)
  ·simp[hg,ZN,hlt,AV.wO,AV.bw]
  refine ZB ⟨i+1,by omega,by omega,ZU ?_ ?_ ?_⟩
  ·simp[go_sem]
  ·simp[go_sem,hput,ZN]
  ·simp only[go_sem]
 ·have e:i=l.length:=by simp at h;omega
  subst e;unfold GK;refine wG tK ?_;refine zc 6 rfl ?_;simp only[go_sem];refine wT ?_;rfl
theorem vC {l:List Kept} {room:Int} {k:Kept} (hl:SmallK l) (hk:k.node.Small) (h:cB l room k=none):ag Tryz.prog 112 [.sl (l.map ZK),.int .i64 room,.agg (ZK k)] [] (λr _=>r=.tup [.sl (([]:List Kept).map ZK),.int .i64 5]):=by
 have:=A1 l room k hl hk;unfold AZ at this;rw[h] at this;exact this
theorem D4 {l L:List Kept} {room:Int} {k:Kept} (hl:SmallK l) (hk:k.node.Small) (h:cB l room k=some L):ag Tryz.prog 112 [.sl (l.map ZK),.int .i64 room,.agg (ZK k)] [] (λr _=>r=.tup [.sl (L.map ZK),.int .i64 0]):=by
 have:=A1 l room k hl hk;unfold AZ at this;rw[h] at this;exact this
variable {Fa:Prop}
@[go_sem,simp] theorem GQ (id s:Nat) (rows:List (List AV)) (n:Node):dX id s rows (ZN n)=ZN n:=rfl
@[go_sem,simp] theorem GU (off:Nat) (n:Node):gw off (ZN n)=ZN n:=rfl
@[go_sem,simp] theorem Iv (n:Node):(ZN n).length=5:=rfl
theorem uP {l:List AV} (h:aL l=[]) {x:AV} (hx:x∈l) (id:Nat):¬id∈refs x:=λhi=>by
 obtain ⟨j,hj⟩:=Z9 hx;have:=br hj hi;rw[h] at this;cases this
def qZ (g:Got):AV:=.tup [.agg (ZN g.n),.int .i64 g.e]
variable {Fa:Prop}
@[go_sem,simp] theorem tv (u:U):aL (dr u)=[]:=rfl
@[go_sem,simp] theorem IP (u:U):(dr u).length=13:=rfl
structure NodeOK (n:Node):Prop where
 eup:EUp n.entries
 ent:n.entries.length≤6
 data:n.data.length≤20
theorem NodeOK.small {n:Node} (h:NodeOK n):n.Small:=⟨by have:=h.data;omega,by have:=h.ent;omega⟩
theorem NodeOK.zero:NodeOK ax:=⟨List.Pairwise.nil,by simp[ax],by simp[ax]⟩
theorem m_ {l:List Kept} {f:Int} {n:Node} (h:bg l f=some n):∃k,k∈l/\k.node=n/\n.fid=f:=by
 unfold bg at h;obtain ⟨k,hk,rfl⟩:=WN.1 h;exact ⟨k,List.mem_of_find?_eq_some hk,rfl,by simpa using List.find?_some hk⟩
theorem mT {B T:Nat} {u:U} (h:UInvF Fa B T u) (f w:Int):NodeOK (aO u f w).n:=by
 unfold aO;split
 ·rename_i n hn;obtain ⟨k,hk,rfl,_⟩:=m_ hn;exact ⟨h.cli.eup k hk,h.cli.ent k hk,h.cli.data k hk⟩
 ·split
  ·exact .zero
  ·split
   ·exact .zero
   ·rename_i n hn;have hm:=((ZO h.srv.hist.bV.up).1 hn).1;exact ⟨(h.srv.hist.whole.loc n hm).eup,h.srv.hist.bV.ent n hm,h.srv.hist.bV.data n hm⟩
theorem xt {B:Nat} (w:Int):∀(l:List (List UInt8)) (T:Nat) (g:Got),UInvF Fa B T g.u->NodeOK g.n->NodeOK (goR w l g).n
 | [],T,g,h,hn=>by
  unfold goR;split
  ·exact hn
  ·exact .zero
 | s::r,T,g,h,hn=>by
  unfold goR;split
  ·exact .zero
  ·split
   ·exact .zero
   ·split
    ·exact .zero
    ·rename_i f _;exact xt w r (T+1) _ (cg h f w) (mT h f w)
theorem xu {B T:Nat} {u:U} (h:UInvF Fa B T u) (l:List (List UInt8)) (w:Int):NodeOK (goU u l w).n:=xt w l (T+1) _ (cg h 0 w) (mT h 0 w)
theorem pJ {B T:Nat} {u:U} (h:UInvF Fa B T u) (path:List UInt8):NodeOK (au u path).n:=by
 unfold au;split
 ·exact .zero
 ·split
  ·exact .zero
  ·exact xu h _ 0
variable {Fa:Prop}
theorem yH {u:U} {g:GotV} (h:Idle u g.u) (x:Hoard):Idle u (ir g x).u:=h.trans (iY g.u (ah x.path).1 x.worth)
structure VI (Fa:Prop) (B T:Nat) (u:U) (g:GotV) (k:Nat):Prop where
 inv:UInvF Fa B (T+42*k) g.u
 idle:Idle u g.u
 n:g.n≤k
theorem VI.step {B T:Nat} {u:U} {g:GotV} {k:Nat} (h:VI Fa B T u g k) (x:Hoard):VI Fa B T u (ir g x) (k+1):=by
 refine ⟨?_,yH h.idle x,?_⟩
 ·have:=tz h.inv x
  rwa [show T+42*k+42=T+42*(k+1) by omega] at this
 ·have:=h.n;unfold ir;simp only;split<;>omega
theorem B1 (x:Rec) (f:Int):ag Tryz.prog 216 [.agg (ZR x),.rp [.int .i64 f] 0] [] (λr _=>r=.bool (fg f x)):=by
 unfold ZR;refine ZF tK (Tryz.func216) rfl (λC=>?_);simp only[Tryz.ntmps216,Tryz.results216,go_sem];cases e1:(x.act.fid==f)<;>cases e2:(x.act.kind==1)<;>cases e3:(x.act.kind==2)
 all_goals refine wG tK ?_ (by simp only[go_sem,e1,e2,e3];try exact rfl) (by simp[go_sem,e1,e2,e3])
 all_goals refine wT ?_
 all_goals simp[fg,e1,e2,e3]
theorem GH (l:List Rec) (hl:l.length≤100000000) (f:Int):ag Tryz.prog 182 [.sl (l.map ZR),.int .i64 f] [] (λr _=>r=.int .i64 (dp (l.findIdx? (fg f)))):=by
 refine ZF tK (Tryz.func182) rfl (λC=>?_);simp only[Tryz.ntmps182,Tryz.results182,go_sem];refine wG tK ?_;refine ZZ 3 rfl (rfl) ?_;simp only[go_sem];refine wC Tryz.func186 (hf:=(jQ l hl ⟨_,Go.Proofs.Tryz.func216,by kernel_rfl,rfl⟩ rfl (λx _=>B1 x f))) (hk:=?_);refine wG tK ?_;refine wT ?_;rfl
theorem F3 (x r m:Rec):ag Tryz.prog 184 [.agg (ZR x),.rp [.rp (ZR r) 0] 0,.rp [.rp (ZR m) 0] 0] [] (λb _=>b=.bool (bars r.act.fid m.act.dir m.act.name x)):=by
 refine ZF tK (Tryz.func184) rfl (λC=>?_);simp only[Tryz.ntmps184,Tryz.results184,go_sem];refine wGq tK ?_ ?_ x9
 ·simp
 refine ZZ 3 rfl (rfl) ?_;simp only[go_sem];refine ZW ZM ?_;refine ZS rfl ?_;refine sN tK 4 ?_;refine fu 8 z6 (λc8 h8=>?_);simp only[go_sem];refine sN tK 6 ?_;refine sCC Tryz.func155 (hf:=λhb=>(xW x r.act.fid)) (hk:=?_);refine sN tK 1 ?_;refine fu 16 z6 (λc16 h16=>?_);simp only[go_sem];refine sN tK 9 ?_;refine sCC Tryz.func185 (hf:=λhb=>(Ah x m.act.dir m.act.name)) (hk:=?_);refine sN tK 2 ?_;refine sE ?_;refine wKd ?_;refine wG tK ?_;refine wT ?_;subst h16 h8;simp only[bars,fT,oo]
def pC (l:List Rec) (r:Rec) (k:Nat):Bool:=
 (l.getD k default).act.dir==r.act.dir&&(l.getD k default).act.name==r.act.name&&!((l.drop (k+1)).any (bars r.act.fid (l.getD k default).act.dir (l.getD k default).act.name))
theorem yZ {l:List Rec} {r:Rec} {k:Nat} (hk:l.findIdx? (fg r.act.fid)=some k):ea l r=(r.act.kind==4&&pC l r k):=by
 unfold ea pC;rw[hk];simp only[Bool.and_assoc]
theorem y_ (l:List Rec) (hl:l.length≤100000000) (r:Rec):ag Tryz.prog 152 [.sl (l.map ZR),.rp (ZR r) 0] [] (λb _=>b=.bool (ea l r)):=by
 refine ZF tK (Tryz.func152) rfl (λC=>?_);simp only[Tryz.ntmps152,Tryz.results152,go_sem];refine wGq tK ?_ ?_ x9
 ·simp
 refine wC Tryz.func182 (hf:=(GH l hl r.act.fid)) (hk:=?_);cases e1:(r.act.kind != 4)
 ·refine wG tK ?_ (by simp only[go_sem,e1,ZR];try exact rfl) (by simp[go_sem,e1,ZR]);refine wD (λh=>?_) (λh=>?_)
  ·refine wG tK ?_;refine wT ?_;have:l.findIdx? (fg r.act.fid)=none:=by
    cases e:l.findIdx? (fg r.act.fid) with
    | none=>rfl
    | some k=>
     rw[e] at h;have h2:decide ((k:Int)<0)=true:=h;rw[decide_eq_true_eq] at h2;omega
   simp[ea,this]
  ·obtain ⟨k,hk⟩:∃k,l.findIdx? (fg r.act.fid)=some k:=by
    cases e:l.findIdx? (fg r.act.fid) with
    | none=>rw[e] at h;simp[dp] at h
    | some k=>exact ⟨k,rfl⟩
   have hkl:k<l.length:=(WK.1 hk).1;have hg:(l.map ZR).getD k []=ZR (l.getD k default):=Fam.getD hkl;rw[yZ hk,hk];unfold pC;simp only[dp];generalize l.getD k default=m at hg;refine wGq tK ?_ ?_ QW
   ·simp[hkl]
   have hw:IntKind.i64.wrap ((k:Int)+1)=((k+1:Nat):Int):=by rw[Eng.wrap_small z7 z7];rfl
   have hd:List.drop (k+1) (l.map ZR)=(l.drop (k+1)).map ZR:=List.map_drop.symm;refine ZZ 3 rfl (rfl) ?_;refine ZZ 6 rfl (rfl) ?_;simp only[go_sem];refine ZW ZM ?_;refine ZS rfl ?_;refine sN tK 10 ?_;refine fu 37 z6 (λc37 h37=>?_);simp only[go_sem];refine sN tK 12 ?_;refine fu 49 z6 (λc49 h49=>?_);simp only[go_sem];refine sNq tK 6 ?_ ?_ z6 z6 (by simp only[go_sem,hw,hd];try exact rfl)
   ·simp[go_sem];intro h;exact ⟨h,by omega,by omega,λ_ _=>rfl⟩
   refine sCC Tryz.func183 (hf:=λhb=>(qb (l.drop (k+1)) k7 ⟨_,Go.Proofs.Tryz.func184,by kernel_rfl,rfl⟩ rfl (λx _=>F3 x r m))) (hk:=?_);refine sN tK 3 ?_;refine sE ?_;refine wKd ?_;refine wG tK ?_;refine wT ?_;subst h49 h37;have hk4:(r.act.kind==4)=true:=by simpa using e1
   rw[hk4];simp only[fT,W4]
 ·refine wG tK ?_ (by simp only[go_sem,e1,ZR];try exact rfl) (by simp[go_sem,e1,ZR]);refine wDT (hb:=(rfl)) (hk:=?_);refine wG tK ?_;refine wT ?_;have hk4:(r.act.kind==4)=false:=by simpa using e1
  unfold ea;split
  ·rfl
  ·rw[hk4];rfl
theorem zE (x r:Rec):ag Tryz.prog 154 [.agg (ZR x),.rp (ZR r) 0] [] (λb _=>b=.bool (x.names r.act.fid)):=by
 refine ZF tK (Tryz.func154) rfl (λC=>?_);simp only[Tryz.ntmps154,Tryz.results154,go_sem];refine wGq tK ?_ ?_ x9
 ·simp
 refine ZZ 2 rfl (rfl) ?_;simp only[go_sem];refine wC Tryz.func155 (hf:=(xW x r.act.fid)) (hk:=?_);refine wG tK ?_;refine wT ?_;rfl
theorem yx (x r:Rec):ag Tryz.prog 156 [.agg (ZR x),.rp (ZR r) 0] [] (λb _=>b=.bool (stored r x)):=by
 refine ZF tK (Tryz.func156) rfl (λC=>?_);simp only[Tryz.ntmps156,Tryz.results156,go_sem];refine wR ?_;refine wN tK 2 ?_ z6 z6 x9 (by simp[go_sem,ZR]);refine wR ?_;refine wN tK 4 ?_;refine bx 7 z6 (λc7 h7=>?_);simp only[go_sem];refine wG tK ?_ x9 (by simp[go_sem,ZR]);refine wT ?_;subst h7;rw[fT];rfl
def px:Option (List Rec)->AV
 | some x=>.tup [.sl (x.map ZR),.int .i64 0]
 | none=>.tup [.nils,.int .i64 5]
theorem IS (l:List Rec) (r:Rec) (hl:SmallL l) (hr:r.act.Small):ag Tryz.prog 110 [.sl (l.map ZR),.agg (ZR r)] [] (λx _=>x=px (dC l r)):=by
 have hlen:=hl.len;refine ZF tK (Tryz.func110) rfl (λC=>?_);simp only[Tryz.ntmps110,Tryz.results110,go_sem];refine wGq tK ?_ ?_ x9
 ·simp
 refine ZZ 3 rfl (rfl) ?_;simp only[go_sem];refine wCG [] 100 Tryz.func69 (hf:=(pV l hl)) (hk:=?_);refine wG tK ?_;refine wV Tryz.func152 (hf:=(y_ l hlen r)) (hk:=?_);refine wG tK ?_;refine wD (λh=>?_) (λh=>?_)
 ·refine wG tK ?_;refine wCG [119] 100 Tryz.func153 (hf:=(mo l hlen 119 ⟨_,Go.Proofs.Tryz.func154,by kernel_rfl,rfl⟩ rfl j6 (λx _=>zE x r))) (hk:=?_);refine wG tK ?_;refine ZZ 219 rfl (by rw[List.all_append,fK,W4];exact jd _ rfl) ?_;simp only[go_sem];refine wT ?_;have hle:=WH (λx:Rec=>!x.names r.act.fid) l;simp only[dC,h,if_true,px];generalize (l.filter λx=>!x.names r.act.fid)=d at *;rw[if_pos y7,ig y7]
 ·have hh:ea l r=false:=h;refine wG tK ?_;refine wD (λh=>?_) (λh=>?_)
  ·refine wG tK ?_;refine wCG [119] 100 Tryz.func153 (hf:=(mo l hlen 119 ⟨_,Go.Proofs.Tryz.func156,by kernel_rfl,rfl⟩ rfl j6 (λx _=>yx x r))) (hk:=?_);have hle:=WH (λx:Rec=>!stored r x) l;have hadd:dC l r=if (l.filter λx=>!stored r x).length≥20 then none else some ((l.filter λx=>!stored r x)++[r]):=by
    have hk:r.act.kind=3:=eq_of_beq (by assumption);simp only[dC,hh,Bool.false_eq_true,if_false,dW,hk,if_true]
   rw[hadd];have hsub:∀x,x∈(l.filter λx=>!stored r x)->x.act.Small:=λx hx=>hl.each x (WE.1 hx).1
   generalize (l.filter λx=>!stored r x)=d at hle hsub;refine wG tK ?_;refine wD (λh=>?_) (λh=>?_)
   ·have hd:d.length≥20:=by have h2:=of_decide_eq_true h;omega
    refine wG tK ?_;refine wT ?_;rw[if_pos hd];rfl
   ·have hd:¬d.length≥20:=by have h2:=of_decide_eq_false h;omega
    refine wGq tK ?_ ?_ x9
    ·simp
    refine ZZ 26 rfl (rfl) ?_;simp only[go_sem];refine wC Tryz.func69 (hf:=(kk [r] ⟨by simp,λx hx=>by rw[List.mem_singleton.1 hx];exact hr⟩)) (hk:=?_);have ht:(d.map ZR++List.replicate (l.length-d.length) [AV.int .i64 0,.int .i64 0,.int .i64 0,.str [],.int .i64 0,.str [],.nils,.int .i64 0,.int .i64 0]).take d.length=d.map ZR:=ig y7;refine wGq tK ?_ ?_ (by simp only[go_sem,ht,ZR];try exact rfl)
    ·simp[rowsOf];omega
    refine ZZ 28 rfl (by rw[List.all_append,fK,W4];rfl) ?_;simp only[go_sem];refine wG tK ?_;refine wT ?_;rw[if_neg hd];simp only[px,List.map_append,List.map_cons,List.map_nil,ZR];rw[Z4 y7]
  ·have hadd:dC l r=if l.length≥20 then none else some (l++[r]):=by
    have hk:¬r.act.kind=3:=by simpa using h
    simp only[dC,hh,Bool.false_eq_true,if_false,dW,hk]
   rw[hadd];refine wG tK ?_;refine wD (λh=>?_) (λh=>?_)
   ·have hd:l.length≥20:=by have h2:=of_decide_eq_true h;omega
    refine wG tK ?_;refine wT ?_;rw[if_pos hd];rfl
   ·have hd:¬l.length≥20:=by have h2:=of_decide_eq_false h;omega
    refine wGq tK ?_ ?_ x9
    ·simp
    refine ZZ 26 rfl (rfl) ?_;simp only[go_sem];refine wC Tryz.func69 (hf:=(kk [r] ⟨by simp,λx hx=>by rw[List.mem_singleton.1 hx];exact hr⟩)) (hk:=?_);refine wGq tK ?_ ?_ x9
    ·simp[rowsOf];omega
    refine ZZ 28 rfl (by rw[List.all_append,fK,W4];rfl) ?_;simp only[go_sem];refine wG tK ?_;refine wT ?_;rw[if_neg hd];simp only[px,List.map_append,List.map_cons,List.map_nil,ZR];rw[Z4 y7]
@[go_sem,simp] theorem ID (s:Nat) (r:List AV) (l:List (List AV)):Eng.rowsOf s (r::l)↔r.length=s/\Eng.rowsOf s l:=by
 unfold Eng.rowsOf;constructor
 ·exact λh=>⟨h r y7,λx hx=>h x (by simp[hx])⟩
 ·rintro ⟨h1,h2⟩ x hx
  rcases List.mem_cons.1 hx with rfl | hx
  ·exact h1
  ·exact h2 x hx
@[go_sem,simp] theorem Jp (s:Nat):Eng.rowsOf s []:=λ_ h=>by simp at h
def keeps (r x:Rec):Bool:=!(r.act.kind==3&&stored r x)
def here (d:Int) (n:List UInt8) (b:Act):Bool:=
 ((((b.kind==1||b.kind==2)||b.kind==4)||b.kind==5)&&b.dir==d&&b.name==n)||(b.kind==5&&b.to==d&&b.toName==n)
end La
