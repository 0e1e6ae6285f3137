/- Texts of this claim, part 33: WBack2, PBook2, WLog, WOwn, PCAct, HofH, PIns. No condition. -/
import Derived.Test.YtmcfbfdonjllaaaGreatDoorZP32
set_option maxRecDepth 10000
set_option maxHeartbeats 4000000
set_option linter.unusedSimpArgs false
set_option linter.unusedVariables false
namespace La
open Go Go.Eng Go.Proofs Go.Proofs.Tryz
theorem td:∀(l:List Nat) (vs:List Verdict) (fs:List Fate) (k:Nat) (v:Verdict),l.length=vs.length->fP (l++[k]) (vs++[v]) fs=nS (fP l vs fs) k (if v.err=0 then 1 else 3)
 | [],[],fs,k,v,_=>rfl
 | j::l,u::vs,fs,k,v,h=>by
  simp only[List.cons_append,fP];exact td l vs _ k v u1
theorem uD (fs:List Fate) (k:Nat) (w:Int):(nS fs k w).length=fs.length:=by unfold nS;rw[YR]
theorem qa:∀(l:List Nat) (vs:List Verdict) (fs:List Fate),(fP l vs fs).length=fs.length
 | [],_,fs=>by cases ‹List Verdict›<;>rfl
 | k::l,[],fs=>rfl
 | k::l,v::vs,fs=>by unfold fP;rw[qa l vs,uD]
theorem iW (fs:List Fate) (k:Nat) (w:Int):(nS fs k w).map aq=(fs.map aq).set k [.int .i64 (fs.getD k default).step,.int .i64 (fs.getD k default).client,.int .i64 (fs.getD k default).kind,.int .i64 w]:=by
 unfold nS;rw[List.map_set];rfl
theorem EA (fs:List Fate) (k:Nat) (u w:Int) (hk:k<fs.length):nS (nS fs k u) k w=nS fs k w:=by
 unfold nS;rw[List.set_set,List.getD_eq_getElem?_getD,List.getElem?_set_self hk];rfl
def uZ (ks:List Nat) (vs:List Verdict) (fs:List Fate) (i:Nat):List Fate:=fP (ks.take i) (vs.take i) fs
theorem Dg {ks:List Nat} {vs:List Verdict} {fs:List Fate} {i:Nat} (h:i<vs.length) (hk:vs.length<=ks.length):uZ ks vs fs (i+1)=nS (uZ ks vs fs i) (ks.getD i 0) (if (vs.getD i default).err=0 then 1 else 3):=by
 unfold uZ;have e:ks.take (i+1)=ks.take i++[ks.getD i 0]:=by
  rw[List.take_add_one,List.getD_eq_getElem?_getD,W3 z8];rfl
 rw[e,ZT h,td _ _ _ _ _ k6]
theorem te:∀(ks:List Nat) (vs:List Verdict) (fs:List Fate),fP (ks.take vs.length) vs fs=fP ks vs fs
 | [],vs,fs=>by rw[List.take_nil]
 | k::ks,[],fs=>rfl
 | k::ks,v::vs,fs=>by
  show fP (ks.take vs.length) vs _=fP ks vs _
  exact te ks vs _
theorem E' (ks:List Nat) (vs:List Verdict) (fs:List Fate):uZ ks vs fs vs.length=fP ks vs fs:=by
 unfold uZ;rw[W7];exact te ks vs fs
theorem zM (l:List (List Nat)):(l.map aS).map (λrow=>row.map qN)=l.map aS:=by
 rw[Yi];exact Ym λx _=>by simp[aS,qN]
theorem F5 (b:Bk) (c:Nat) (vs:List Verdict) (hc:c<b.logs.length) (hl:b.logs.length<=100000000) (hv:vs.length<=(b.logs.getD c []).length) (hv2:vs.length<=100000000) (hk:∀k,k∈b.logs.getD c []->k<b.fates.length) (hb:b.fates.length<=100000000) (G Y N:Nat->Nat) :
  ai prog 46 [.ptr 32 2 0 0,.int .i64 c,.sl (vs.map ZV)] (bkH b G Y N) (λr H=>r=.tup []/\Holds (bkH (nV c vs b) G Y N) H):=by
 obtain ⟨fs,lg⟩:=b;simp only at hc hl hv hk hb;have hE:nV c vs ⟨fs,lg⟩=⟨uZ (lg.getD c []) vs fs vs.length,lg.set c []⟩:=by rw[E'];rfl
 have hgl:(lg.map aS).getD c []=aS (lg.getD c []):=by
  rw[List.getD_eq_getElem?_getD,W5,List.getD_eq_getElem?_getD,W3 hc];rfl
 rw[hE];have hsl:(lg.set c []).map aS=(lg.map aS).set c [.sl []]:=by rw[List.map_set];rfl
 have hll:(lg.set c []).length=lg.length:=YR;generalize lg.set c []=lg2 at *;generalize lg.getD c []=ks at *;have hW0:uZ ks vs fs 0=fs:=by unfold uZ;rw[List.take_zero,List.take_zero];rfl
 have hWl:∀i,(uZ ks vs fs i).length=fs.length:=λi=>qa _ _ _
 have hWs:=λi=>@Dg ks vs fs i
 generalize uZ ks vs fs=W at *;unfold bkH bkB;refine wSG func46 ntmps46 results46 λC=>?_
 refine wL vs.length (λi=>(6,.any)::(7,.any)::(10,.int .i64 i)::u0 11 40 [])
  (λi=>[(901,.cells 76 4 ((W i).map aq))]) ?_ λi hi=>?_
 ·rw[hW0];exact wZ
 simp only[go_sem];refine wGD (λh=>?_) (λh=>?_)
 ·have hlt:=lt1 h;have how':=wi1 (i:=i) z8;have hg:=Fam.getD (f:=ZV) hlt;have hWl0:=hWl i;have hWs1:=hWs i hlt hv;have hgk:(ks.map bV).getD i []=bV (ks.getD i 0):=by
   rw[List.getD_eq_getElem?_getD,W5,List.getD_eq_getElem?_getD,W3 z8];rfl
  have hkk:ks.getD i 0<fs.length:=hk _ (by rw[List.getD_eq_getElem?_getD,W3 z8];exact YY _);have hki:i<ks.length:=by omega
  generalize ks.getD i 0=k at *;generalize vs.getD i default=v at *;generalize W i=F at *;have hgf:(F.map aq).getD k []=aq (F.getD k default):=Fam.getD z8;have hs1:=iW F k 1;have hs3:=iW F k 3;have hlen1:=uD F k 1;have hkF:k<F.length:=by omega
  generalize F.getD k default=f at *;refine wGq ?_ ?_ Zt
  ·simp[hg,ZV,hlt]
  refine wO ?_;refine sNq 16 ?_ ?_ z6 z6 Z8
  ·simp[hgl,hgk,hgf,aS,bV,aq,hc,hki,hkF,hkk,hWl0]
  refine ej tK rfl rfl z7 z7 z7 p5 z6 ?_ z6 z6 z6 ?_
  ·simp[hgl,hgk,hgf,aS,bV,aq,hc,hki,hkF,hkk,hWl0]
  refine wX ?_;simp only[go_sem,hgf,aq,List.set_cons_succ,List.set_cons_zero,<-hs1];refine wG ?_
  by_cases he:v.err=0
  ·rw[if_pos he] at hWs1;refine wDF ?_ (hb:=QB);refine wG ?_ y6 u2;exact ZB ⟨i+1,by omega,by omega,ZU w3 (by simp[go_sem,hWs1]) w3⟩
  ·rw[if_neg he] at hWs1;have h33:=EA F k 1 3 hkF;generalize nS F k 1=F1 at *;have hkF1:k<F1.length:=by omega
   have hgf1:(F1.map aq).getD k []=aq (F1.getD k default):=Fam.getD z8;have hs31:=iW F1 k 3;rw[h33] at hs31;generalize F1.getD k default=f1 at *;refine wDT ?_ (hb:=QB);refine wGS ?_;refine sNq 16 ?_ ?_ z6 z6 (by simp only[go_sem,hgl,hgk,hgf1,aS,bV,aq];try exact rfl)
   ·simp[hgl,hgk,hgf1,aS,bV,aq,hc,hki,hkF1,hkk,hlen1,hWl0]
   refine ej tK rfl rfl z7 z7 z7 p5 z6 ?_ z6 z6 z6 ?_
   ·simp[hgl,hgk,hgf1,aS,bV,aq,hc,hki,hkF1,hkk,hlen1,hWl0]
   refine wX ?_;simp only[go_sem,hgf1,aq,List.set_cons_succ,List.set_cons_zero,<-hs31];refine wG ?_ y6 u2;exact ZB ⟨i+1,by omega,by omega,ZU w3 (by simp[go_sem,hWs1]) w3⟩
 ·obtain rfl:=eq1 hi h;refine wGq ?_ ?_ (by simp only[go_sem,hgl,aS];try exact rfl)
  ·simp[hc]
  refine af (au 30 z6 rfl) ?_;simp only[go_sem,List.map_set,zM,List.map_cons,List.map_nil,List.set_cons_zero,qN,<-hsl];refine iD ⟨_,_,rfl,trivial,.tup [],.inr (.inl rfl),rfl,?_⟩;rw[hll,hWl];exact q9
end La
namespace La
open Go Go.Eng
theorem tx (now:List Rec):∀(l:List Nat) (rs:List Rec) (fs:List Fate) (k:Nat) (r:Rec),l.length=rs.length->eL now (l++[k]) (rs++[r]) fs=if (now.any λx=>x.id==r.id)=true then eL now l rs fs else nS (eL now l rs fs) k 4
 | [],[],fs,k,r,_=>rfl
 | j::l,u::rs,fs,k,r,h=>by
  simp only[List.cons_append,eL];exact tx now l rs _ k r u1
theorem qi (now:List Rec):∀(l:List Nat) (rs:List Rec) (fs:List Fate),(eL now l rs fs).length=fs.length
 | [],_,fs=>by cases ‹List Rec›<;>rfl
 | k::l,[],fs=>rfl
 | k::l,r::rs,fs=>by
  unfold eL;rw[qi now l rs];split
  ·rfl
  ·exact uD _ _ _
def vd (now:List Rec) (ks:List Nat) (rs:List Rec) (fs:List Fate) (i:Nat):List Fate:=eL now (ks.take i) (rs.take i) fs
theorem FA (now:List Rec) (ks:List Nat) (rs:List Rec) (fs:List Fate) (i:Nat):(vd now ks rs fs i).length=fs.length:=qi _ _ _ _
theorem Dp {now:List Rec} {ks:List Nat} {rs:List Rec} {fs:List Fate} {i:Nat} (h:i<rs.length) (hk:rs.length<=ks.length):vd now ks rs fs (i+1)=if (now.any λx=>x.id==(rs.getD i default).id)=true then vd now ks rs fs i else nS (vd now ks rs fs i) (ks.getD i 0) 4:=by
 unfold vd;have e:ks.take (i+1)=ks.take i++[ks.getD i 0]:=by
  rw[List.take_add_one,List.getD_eq_getElem?_getD,W3 z8];rfl
 rw[e,ZT h,tx _ _ _ _ _ _ k6]
theorem Fz {now:List Rec} {ks:List Nat} {rs:List Rec} {fs:List Fate} (hk:ks.length=rs.length):vd now ks rs fs rs.length=eL now ks rs fs:=by
 unfold vd;rw[W7,W4 z8]
theorem D3 (step c:Int) (n:Nat):mg step c (n+1)=mg step c n++[⟨step,c,4,4⟩]:=by
 unfold mg;rw[List.replicate_succ',]
theorem zZ (step c:Int) (n:Nat):(mg step c n).length=n:=by unfold mg;exact Yx
def Jd (was:Cli) (ks:List Nat) (n:Nat) (r:Rec) (fs:List Fate):List Fate:=fs.set (eJ was ks n r.id) { fs.getD (eJ was ks n r.id) default with kind:=r.act.kind,whr:=2 }
theorem wm (was:Cli) (ks:List Nat) (n:Nat):∀(l:List Rec) (r:Rec) (fs:List Fate),mX was ks n (l++[r]) fs=Jd was ks n r (mX was ks n l fs)
 | [],r,fs=>rfl
 | x::l,r,fs=>by
  simp only[List.cons_append,mX];exact wm was ks n l r _
theorem uf (was:Cli) (ks:List Nat) (n:Nat):∀(l:List Rec) (fs:List Fate),(mX was ks n l fs).length=fs.length
 | [],fs=>rfl
 | x::l,fs=>by
  unfold mX;rw[uf was ks n l,YR]
theorem IG {was now:Cli} (hw:IdI was) (hs:LS was now) {ks:List Nat} (hks:ks.length=was.log.length) {n:Nat} (hk:∀k,k∈ks->k<n) {r:Rec} (hr:r∈now.log):eJ was ks n r.id<n+(now.logged-was.logged).toNat:=by
 have hle:=hs.le;unfold eJ
 rcases hs.from_ r hr with ⟨q,hq,hqi⟩ | ⟨h1,h2⟩
 ·have hb:=hw.bnd q hq;rw[hqi] at hb;cases e:was.log.findIdx? (λx=>x.id==r.id) with
  | none=>
   rw[YO] at e;exact absurd (e q hq) (by simp[hqi])
  | some i=>
   obtain ⟨hi,_,_⟩:=YN.1 e;simp only;rw[if_neg z8];have:=hk (ks.getD i 0) (by rw[List.getD_eq_getElem?_getD,W3 z8];exact YY _);omega
 ·cases e:was.log.findIdx? (λx=>x.id==r.id) with
  | none=>simp only;omega
  | some i=>
   simp only;rw[if_pos h1];omega
end La
namespace La
open Go Go.Eng Go.Proofs Go.Proofs.Tryz
theorem qH:∀l:List AV,nQ l l
 | []=>trivial
 | x::l=>⟨.inr (.inl rfl),qH l⟩
theorem pv:∀l:List (List AV),fj l l
 | []=>trivial
 | x::l=>⟨qH x,pv l⟩
theorem rF {a b:List AV} (h:nQ a b):∀(l:List (List AV)) (c:Nat),fj (l.set c a) (l.set c b)
 | [],_=>trivial
 | x::l,0=>⟨h,pv l⟩
 | x::l,c+1=>⟨qH x,rF h l c⟩
def nwF (step c:Int) (D:List Fate) (j:Nat):List Fate:=D++mg step c j
theorem Gs (step c:Int) (D:List Fate):nwF step c D 0=D:=by unfold nwF mg;simp
theorem Gr (step c:Int) (D:List Fate) (j:Nat):nwF step c D (j+1)=nwF step c D j++[⟨step,c,4,4⟩]:=by unfold nwF;rw[D3,List.append_assoc]
theorem Jc (step c:Int) (D:List Fate) (j:Nat):(nwF step c D j).length=D.length+j:=by unfold nwF;rw[List.length_append,zZ]
theorem zL (id:Nat) (l:List (List Nat)):(l.map aS).map (λrow=>row.map (kill id))=l.map aS:=by
 rw[Yi];exact Ym λx _=>by simp[aS,kill,refs]
theorem DT (p q:Nat) (l:List (List Nat)):(l.map aS).map (λrow=>row.map (mv1 p q))=l.map aS:=by
 rw[Yi];exact Ym λx _=>by simp[aS,mv1,kill,refs]
theorem mR {l:List (List Nat)} {c id n e s x:Nat} (h:x∈av (.cells e s ((l.map aS).set c [.osl id 1 0 n]))):x=id:=by
 simp only[av,List.mem_flatMap] at h;obtain ⟨row,hr,hx⟩:=h
 rcases Yl hr with hr | rfl
 ·obtain ⟨y,_,rfl⟩:=W8.1 hr;rw[xI] at hx;cases hx
 ·simpa[aA,refs] using hx
def lgF (was:Cli) (ks:List Nat) (n:Nat) (l:List Rec) (E:List Fate) (i:Nat):List Fate:=mX was ks n (l.take i) E
theorem F9 {was:Cli} {ks:List Nat} {n:Nat} {l:List Rec} {E:List Fate} {i:Nat} (h:i<l.length):lgF was ks n l E (i+1)=Jd was ks n (l.getD i default) (lgF was ks n l E i):=by
 unfold lgF;rw[ZT h,wm]
theorem IX (was:Cli) (ks:List Nat) (n:Nat) (l:List Rec) (E:List Fate) (i:Nat):(lgF was ks n l E i).length=E.length:=uf _ _ _ _ _
def lgK (was:Cli) (ks:List Nat) (n:Nat) (l:List Rec) (i:Nat):List Nat:=(l.take i).map λr=>eJ was ks n r.id
theorem F_ {was:Cli} {ks:List Nat} {n:Nat} {l:List Rec} {i:Nat} (h:i<l.length):lgK was ks n l (i+1)=lgK was ks n l i++[eJ was ks n (l.getD i default).id]:=by
 unfold lgK;rw[ZT h,List.map_append];rfl
theorem IY {was:Cli} {ks:List Nat} {n:Nat} {l:List Rec} {i:Nat} (h:i<=l.length):(lgK was ks n l i).length=i:=by unfold lgK;simp;omega
theorem BA (b:Bk) (step:Int) (c:Nat) (was now:Cli) (hcn:was.number=c) (hc:c<b.logs.length) (hll:b.logs.length<=100000000) (hks:(b.logs.getD c []).length=was.log.length) (hk:∀k,k∈b.logs.getD c []->k<b.fates.length) (hb:b.fates.length<=10000000)
  (hI:IdI was) (hS:LS was now) (hwl:was.log.length<=100000000) (hnl:now.log.length<=100000000) (hng:now.logged<=10000000) (G Y N:Nat->Nat) :
  ai prog 47 [.ptr 32 2 0 0,.int .i64 step,.rp (ZC was) 0,.rp (ZC now) 0] (bkH b G Y N) (λr H=>r=.tup []/\Holds (bkH (cL step c was now b) G Y N) H):=by
 obtain ⟨fs,lg⟩:=b;simp only at hc hll hks hk hb;have hgl:(lg.map aS).getD c []=aS (lg.getD c []):=by
  rw[List.getD_eq_getElem?_getD,W5,List.getD_eq_getElem?_getD,W3 hc];rfl
 have hle:=hS.le;have hpos:=hI.pos;have hM0:BN now.log 0=[]:=rfl;have hMs:=λi=>@D5 now.log i
 have hMa:=Gn now.log;generalize hMM:BN now.log=M at *;have hH0:zi was.log (lg.getD c []) 0=[]:=rfl;have hHs:∀i,zi was.log (lg.getD c []) (i+1)=aV (zi was.log (lg.getD c []) i) (was.log.getD i default).id ((lg.getD c []).getD i 0:Nat):=λi=>rfl
 have hHad:=λ(r:Rec) (hr:r∈now.log)=>Gj hI hS (lg.getD c []) fs.length hr
 unfold bkH bkB ZC;rw[hcn];refine wSG func47 ntmps47 results47 λC=>?_
 refine wL now.log.length (λi=>(11,.any)::(29,.int .i64 i)::u0 30 7 [])
  (λi=>[(23,.map (mB (M i)))]) ?_ λi hi=>?_
 ·rw[hM0];simp only[go_sem];exact ZU w3 (by simp[go_sem,mB]) w3
 simp only[go_sem];refine wGD (λh=>?_) (λh=>?_)
 ·have hlt:=lt1 h;have how':=wi1 (i:=i) z8;have hg:=Fam.getD (f:=ZR) hlt;have hMs1:=hMs i hlt;generalize now.log.getD i default=r at *;generalize M i=m at *;refine wGq ?_ ?_ (by simp only[go_sem,hg,ZR,how'];try exact rfl)
  ·simp[hg,ZR,hlt]
  exact ZB ⟨i+1,by omega,by omega,ZU w3 (by simp[go_sem,hMs1]) w3⟩
 ·obtain rfl:=eq1 hi h;refine wG ?_;generalize hks0:lg.getD c []=ks at *;generalize hHH:zi was.log ks=HM at *;have hF0:vd now.log ks was.log fs 0=fs:=by unfold vd;rw[List.take_zero,List.take_zero];rfl
  have hFl:=FA now.log ks was.log fs;have hFs:=λi (h:i<was.log.length)=>Dp (now:=now.log) (fs:=fs) h (show was.log.length<=ks.length by omega)
  have hFa:=Fz (now:=now.log) (fs:=fs) hks;generalize vd now.log ks was.log fs=F at *;refine wL was.log.length (λi=>(11,.any)::u0 19 4 (u0 24 13 ((13,.any)::(14,.any)::(43,.int .i64 i)::u0 44 39 [])))
   (λi=>[(37,.map (mI (HM i))),(901,.cells 76 4 ((F i).map aq))]) ?_ λi hi=>?_
  ·rw[hH0,hF0];simp only[go_sem];exact ZU w3 (by simp[go_sem,mI]) w3
  simp only[go_sem];refine wGD (λh=>?_) (λh=>?_)
  ·have hlt:=lt1 h;have how':=wi1 (i:=i) z8;have hg:=Fam.getD (f:=ZR) hlt;have hHs1:=hHs i;have hFs1:=hFs i hlt;have hFl0:=hFl i;have hgk:(ks.map bV).getD i []=bV (ks.getD i 0):=by
    rw[List.getD_eq_getElem?_getD,W5,List.getD_eq_getElem?_getD,W3 z8];rfl
   have hkk:ks.getD i 0<fs.length:=hk _ (by rw[List.getD_eq_getElem?_getD,W3 z8];exact YY _);have hki:i<ks.length:=by omega
   generalize ks.getD i 0=k at *;have hMr:=hMa (was.log.getD i default).id;generalize was.log.getD i default=r at *;generalize HM i=m at *;generalize F i=D at *;have hgf:(D.map aq).getD k []=aq (D.getD k default):=Fam.getD z8;have hs4:=iW D k 4;generalize D.getD k default=f at *;refine wGq ?_ ?_ u7
   ·simp[hg,ZR,hlt]
   refine wO ?_;refine sNq 13 ?_ ?_ z6 z6 (by simp only[go_sem,hgl,hgk,aS,bV];try exact rfl)
   ·simp[hgl,hgk,aS,bV,hc,hki]
   refine sE ?_;refine dS ?_;refine wKG ?_;cases hx:now.log.any λx=>x.id==r.id with
   | true=>
    rw[hx,if_pos rfl] at hFs1;refine wDF ?_ (hb:=by simp[hMr,hx]);refine wG ?_ y6 u2;exact ZB ⟨i+1,by omega,by omega,ZU w3 (by simp[go_sem,hHs1,hFs1]) w3⟩
   | false=>
    rw[hx,if_neg x7] at hFs1;refine wDT ?_ (hb:=by simp[hMr,hx]);refine wGS ?_;refine sNq 16 ?_ ?_ z6 z6 Z8
    ·simp[hgl,hgk,hgf,aS,bV,aq,hc,hki,hkk,hFl0]
    refine ej tK rfl rfl z7 z7 z7 p5 z6 ?_ z6 z6 z6 ?_
    ·simp[hgl,hgk,hgf,aS,bV,aq,hc,hki,hkk,hFl0]
    refine wX ?_;simp only[go_sem,hgf,aq,List.set_cons_succ,List.set_cons_zero,<-hs4];refine wG ?_ y6 u2;exact ZB ⟨i+1,by omega,by omega,ZU w3 (by simp[go_sem,hHs1,hFs1]) w3⟩
  ·obtain rfl:=eq1 hi h;have hw0:IntKind.i64.wrap (was.logged+1)=was.logged+1:=Eng.wrap_small z8 z8;refine wG ?_ (by simp only[go_sem,hw0];try exact rfl) (by simp[go_sem,hw0]);have hDl:=hFl was.log.length;rw[hFa] at hDl;rw[hFa];generalize hDD:eL now.log ks was.log fs=D at *;rw[show fs.length=D.length by omega];refine af (mP 901 112 32 z6 z7 z7 z6 j0 j0 rfl z7 j6 j6) ?_;obtain ⟨t,ht⟩:∃t:Nat,now.logged=was.logged+t:=⟨(now.logged-was.logged).toNat,by omega⟩;have hE0:=Gs step c D;have hEs:=Gr step c D;have hEl:=Jc step c D;have hEa:∀j,nwF step c D j=D++mg step c j:=λj=>rfl
   generalize nwF step c D=E at *;have hX0:z_ (HM was.log.length) fs.length was.logged 0=HM was.log.length:=rfl;have hXs:∀j:Nat,z_ (HM was.log.length) fs.length was.logged (j+1)=aV (z_ (HM was.log.length) fs.length was.logged j) (was.logged+1+j) ((fs.length+j:Nat):Int):=λj=>rfl
   generalize z_ (HM was.log.length) fs.length was.logged=X at *;refine wL t (λj=>(14,.any)::(15,.int .i64 (was.logged+1+j))::u0 44 39 (u0 88 27 []))
    (λj=>[(37,.map (mI (X j))),(112,.cells 76 4 ((E j).map aq)),(32,.cells 103 2 [[.osl 112 4 0 (E j).length,.osl 30 1 0 lg.length]])]) ?_ λj hj=>?_
   ·rw[hX0,hE0];exact wZ
   simp only[go_sem];refine wGD (λh=>?_) (λh=>?_)
   ·have hlt:j<t:=by simp at h;omega
    have hw1:IntKind.i64.wrap (was.logged+1+j+1)=was.logged+1+((j+1:Nat):Int):=by rw[Eng.wrap_small z8 z8];omega
    have hEs1:=hEs j;have hEl1:=hEl j;have hXs1:=hXs j;generalize E j=Q at *;generalize X j=m at *;have htq:List.take Q.length (Q.map aq)=Q.map aq:=W4 w8;refine wR ?_;refine wN 8 ?_;refine wR ?_;refine wN 9 ?_;refine af (aX 112 32 z6 y9) (wn ?_);refine wGq ?_ ?_ k8
    ·simp[go_sem,rowsOf,htq,refs];omega
    exact ZB ⟨j+1,by omega,by omega,ZU w3 (by simp[go_sem,hEs1,hXs1,htq,aq,hEl1,hDl]) w3⟩
   ·have e:j=t:=by simp at h;omega
    subst e;refine wGq ?_ ?_
    ·simp[hc]
    simp only[go_sem,hgl,aS,List.set_cons_zero];refine af (le_empty 99 3 1 z7) ?_;refine af (iY 30 ((lg.map aS).set c [.osl 99 1 0 0]) z6 (rF (a:=[.nils]) (b:=[.osl 99 1 0 0]) ⟨.inr (.inr ⟨rfl,.inr ⟨_,_,_,rfl⟩⟩),trivial⟩ _ _)) (wn ?_);have hEj:=hEl j;have hF0:lgF was ks fs.length now.log (E j) 0=E j:=rfl;have hFs:=λi=>@F9 was ks fs.length now.log (E j) i
    have hFl:=IX was ks fs.length now.log (E j);have hK0:lgK was ks fs.length now.log 0=[]:=rfl;have hKs:=λi=>@F_ was ks fs.length now.log i
    have hKl:=λi=>@IY was ks fs.length now.log i
    have hlt4:=λ(r:Rec) (hr:r∈now.log)=>IG hI hS hks hk hr
    have htt:(now.logged-was.logged).toNat=j:=by omega
    rw[htt] at hHad hlt4;have hLa:lgF was ks fs.length now.log (E j) now.log.length=mX was ks fs.length now.log (E j):=by unfold lgF;rw[W7]
    have hKa:lgK was ks fs.length now.log now.log.length=now.log.map λr=>eJ was ks fs.length r.id:=by unfold lgK;rw[W7]
    generalize lgF was ks fs.length now.log (E j)=L at *;generalize lgK was ks fs.length now.log=K at *;refine wL now.log.length (λi=>(17,.any)::(18,.any)::u0 115 9 ((126,.int .i64 i)::u0 127 41 []))
     (λi=>[(99,.cells 3 1 ((K i).map bV)),(30,.cells 40 1 ((lg.map aS).set c [.osl 99 1 0 (K i).length])),(112,.cells 76 4 ((L i).map aq))]) ?_ λi hi=>?_
    ·rw[hF0,hK0];simp only[go_sem];exact ZU w3 w3 (by simp[go_sem];exact λx hx=>by rw[mR hx];simp)
    simp only[go_sem];refine wGD (λh=>?_) (λh=>?_)
    ·have hlt:=lt1 h;have how':=wi1 (i:=i) z8;have hg:=Fam.getD (f:=ZR) hlt;have hm:=YG hlt;have hH:=hHad _ hm;have hlt1:=hlt4 _ hm;have hFs1:=hFs i hlt;have hKs1:=hKs i hlt;have hFl0:=hFl i;have hKl0:=hKl i hi;generalize now.log.getD i default=r at *;generalize hkk:eJ was ks fs.length r.id=k at *;generalize L i=D2 at *;generalize K i=Q at *;have htq:List.take Q.length (Q.map bV)=Q.map bV:=W4 w8;refine wGq ?_ ?_ u7
     ·simp[hg,ZR,hlt]
     have hkD:k<D2.length:=by omega
     have hgf:=Fam.getD (f:=aq) hkD;have hone:(Jd was ks fs.length r D2).map aq=(D2.map aq).set k [.int .i64 (D2.getD k default).step,.int .i64 (D2.getD k default).client,.int .i64 r.act.kind,.int .i64 2]:=by
      unfold Jd;rw[hkk,List.map_set];rfl
     generalize D2.getD k default=f at *;refine wO ?_;refine sNq 15 ?_ ?_ z6 z6 (by simp only[go_sem,hH,hgf,aq];try exact rfl)
     ·simp[hH,hgf,aq,hkD];exact ⟨rfl,by omega⟩
     refine ej tK rfl rfl z7 z7 z7 p5 z6 ?_ z6 z6 z6 ?_
     ·simp[hH,hgf,aq,hkD]
     refine sNq 2 ?_ ?_ z6 z6 (by simp only[go_sem,hH,hgf,aq];try exact rfl)
     ·simp[hH,hgf,aq,hkD];exact ⟨rfl,by omega⟩
     refine ej tK rfl rfl z7 z7 z7 p5 z6 ?_ z6 z6 z6 ?_
     ·simp[hH,hgf,aq,hkD]
     refine wX ?_;have hsg:∀y,((D2.map aq).set k y).getD k []=y:=λy=>by
      rw[List.getD_eq_getElem?_getD,YP,if_pos rfl,if_pos (by simpa using hkD)];rfl
     simp only[go_sem,hsg,hgf,aq,List.set_cons_succ,List.set_cons_zero,List.set_set,<-hone,cond_false];rw[<-hFs1];refine wG ?_;have hgc:∀y,((lg.map aS).set c y).getD c []=y:=λy=>by
      rw[List.getD_eq_getElem?_getD,YP,if_pos rfl,if_pos (by simpa using hc)];rfl
     have hfn:∀(a:Fate) x,x∈aq a->¬99∈refs x:=λa x h=>tE 99 a x h
     have hnn:∀(a:Nat) x,x∈bV a->¬99∈refs x:=λa x h=>D1 99 a x h
     refine ZW ZM ?_;refine fM [(99,[162],[30])] rfl (uz ?_) ?_
     ·simp[go_sem,bo,hnn];exact λa _ x hx=>hfn a x hx
     refine zN tK 13 (h:=by simp only[go_sem,hgc,hc];try exact rfl) (hp:=by simp[go_sem,hgc,hc]) (hk:=?_);refine zW tK (hk:=?_);refine yA tK 30 (h2:=?_) (h5:=?_) (h7:=?_) (h8:=?_) (hn:=rfl) (hr:=rfl) (hr3:=rfl) (hk:=?_)
     ·exact λrow h=>by simp at h;subst h;rfl
     ·rw[show tab.byt 3=8 from rfl];simp;omega
     ·simp
     ·simp[bo,go_sem,refs,htq];exact λa _ x hx=>hnn a x hx
     refine jK w9 z6 ?_;have hkl:∀n,List.map (λrow=>List.map (kill 99) row) ((lg.map aS).set c [.osl 99 1 0 n])=(lg.map aS).set c [.any]:=λn=>by rw[List.map_set,zL];rfl
     rw[hkl];refine dSq ?_ ?_
     ·simp[hc];rfl
     refine dSq ?_ ?_
     ·simp[hc,hgc];exact ⟨(λh=>by cases h),rfl,rfl,YA _⟩
     refine wKn ?_;simp only[go_sem,hgc,List.set_cons_zero,List.set_set];have hnr:∀n,(av (.cells 40 1 ((lg.map aS).set c [.osl 165 1 0 n]))).contains 99=false:=λn=>by
      rw[Bool.eq_false_iff];intro h;have:=mR (Yh.1 h);omega
     have hmv:∀n,((lg.map aS).set c [.osl 165 1 0 n]).map (λrow=>row.map (mv1 165 99))=(lg.map aS).set c [.osl 99 1 0 n]:=λn=>by
      rw[List.map_set,DT];rfl
     refine af (lA 99 j0 (by simp only[go_sem,hnr];rfl) y9) ?_;refine af (mP 165 99 30 z6 z7 z7 z6 j0 j0 rfl z7 (hmv _) j6) ?_;refine wG ?_ y6 u2;refine ZB ⟨i+1,by omega,by omega,ZU ?_ ?_ ?_⟩
     ·simp[go_sem]
     ·simp[go_sem,hKs1,bV]
     ·simp[go_sem];exact λx hx=>by rw[mR hx];simp
    ·obtain rfl:=eq1 hi h;refine wG ?_;refine ZZ 99 rfl (zY _) ?_;have hfz:List.map (db 99 1 (List.map bV (K now.log.length))) ((List.map aS lg).set c [AV.osl 99 1 0 (K now.log.length).length])=(lg.set c (K now.log.length)).map aS:=by
      rw[List.map_set,zK,List.map_set]
      congr 1
      simp[db,frz,aS]
     simp only[go_sem,hfz];refine af (mP 112 901 32 z6 z7 z7 z6 j0 j0 rfl z7 j6 j6) ?_;refine iD ⟨_,_,rfl,trivial,.tup [],.inr (.inl rfl),rfl,?_⟩;have hfin:cL step c was now ⟨fs,lg⟩=⟨L now.log.length,lg.set c (K now.log.length)⟩:=by
      unfold cL;simp only;rw[hks0,hDD,htt,<-hEa,<-hLa,<-hKa]
     rw[hfin];simp only[hFl,YR]
     repeat' refine ZH ?_ ?_
     all_goals first | exact YH _ | rfl | simp[go_sem]
theorem KE (w:Wor) (hst:Small w.s.tree) (hsp:SmallP w.s.past) (hc:∀c,c∈w.cs->SmallC c) (hl:w.cs.length<=100000000):Fo 23 [.agg (a_ w)] (.agg (a_ w)):=by
 have hso:=sU w.s hst hsp;unfold ZQ at hso;unfold a_;refine wSG func23 ntmps23 results23 λC=>?_
 refine ZZ 1 rfl (rfl) (wn ?_);refine wG ?_;refine wCg ?_ func40 (hf:=hso);refine af (le_empty 22 47 10 z7) (wn ?_);refine af (iY 3 ([[.sl (w.s.tree.map ZN),.int .i64 w.s.next,.sl (w.s.past.map ZP),.osl 22 10 0 0]]) z6 Qx) (wn ?_);refine wL w.cs.length (λi=>(5,.any)::(13,.int .i64 i)::u0 14 11 [])
  (λi=>[(3,.cells 35 4 [[.sl (w.s.tree.map ZN),.int .i64 w.s.next,.sl (w.s.past.map ZP),.osl 22 10 0 i]]),(22,.cells 47 10 ((w.cs.take i).map ZC))]) ?_ λi hi=>?_
 ·exact wY
 simp only[go_sem];refine wGD (λh=>?_) (λh=>?_)
 ·have hlt:=lt1 h;have hw:=wi1 (i:=i) z8;have hg:=Fam.getD (f:=ZC) hlt;have hs:=dA ZC hlt;have hco:=xi _ (hc _ (YG hlt));generalize w.cs.getD i default=x at *;have hl1:(w.cs.take i).length=i:=by rw[YF];omega
  generalize w.cs.take i=Q at *;subst hl1;have htq:List.take Q.length (Q.map ZC)=Q.map ZC:=W4 w8;unfold ZC at hco;refine wGq ?_ ?_ QF
  ·simp[hg,ZC,hlt]
  refine ZZ 5 rfl (rfl) (wn ?_);refine wO ?_;refine sN 3 ?_;refine sC ?_ func41 (hf:=hco);refine sW ?_;refine sE ?_;refine iV (aX 22 3 z6 y9) ?_;simp only[go_sem];refine dSq ?_ ?_
  ·simp[go_sem,rowsOf,htq,refs];exact ⟨by omega,λx _=>qe _ x⟩
  simp only[go_sem];refine dS ?_;refine dS ?_;refine wKn ?_;refine wG ?_ w4 y7;refine ZB ⟨Q.length+1,by omega,by omega,ZU ?_ ?_ ?_⟩
  ·simp[go_sem]
  ·simp[go_sem,hs,htq,ZC]
  ·simp only[go_sem]
 ·obtain rfl:=eq1 hi h;refine wG ?_;refine ZZ 22 rfl (ij _) (wn ?_);refine wT ?_;simp[a_]
theorem Hc (w:Wor) (hst:Small w.s.tree) (hsp:SmallP w.s.past) (hc:∀c,c∈w.cs->SmallC c) (hl:w.cs.length<=100000000):ai prog 23 [.agg (a_ w)] [] (λr H=>r=.agg [.sl (w.s.tree.map ZN),.int .i64 w.s.next,.sl (w.s.past.map ZP),.osl 22 10 0 w.cs.length]/\∀i b,aa [(22,.cells 47 10 (w.cs.map ZC))] i=some b->aa H i=some b):=by
 have hso:=sU w.s hst hsp;unfold ZQ at hso;unfold a_;refine wSG func23 ntmps23 results23 λC=>?_
 refine ZZ 1 rfl (rfl) (wn ?_);refine wG ?_;refine wCg ?_ func40 (hf:=hso);refine af (le_empty 22 47 10 z7) (wn ?_);refine af (iY 3 ([[.sl (w.s.tree.map ZN),.int .i64 w.s.next,.sl (w.s.past.map ZP),.osl 22 10 0 0]]) z6 Qx) (wn ?_);refine wL w.cs.length (λi=>(5,.any)::(13,.int .i64 i)::u0 14 11 [])
  (λi=>[(3,.cells 35 4 [[.sl (w.s.tree.map ZN),.int .i64 w.s.next,.sl (w.s.past.map ZP),.osl 22 10 0 i]]),(22,.cells 47 10 ((w.cs.take i).map ZC))]) ?_ λi hi=>?_
 ·exact wY
 simp only[go_sem];refine wGD (λh=>?_) (λh=>?_)
 ·have hlt:=lt1 h;have hw:=wi1 (i:=i) z8;have hg:=Fam.getD (f:=ZC) hlt;have hs:=dA ZC hlt;have hco:=xi _ (hc _ (YG hlt));generalize w.cs.getD i default=x at *;have hl1:(w.cs.take i).length=i:=by rw[YF];omega
  generalize w.cs.take i=Q at *;subst hl1;have htq:List.take Q.length (Q.map ZC)=Q.map ZC:=W4 w8;unfold ZC at hco;refine wGq ?_ ?_ QF
  ·simp[hg,ZC,hlt]
  refine ZZ 5 rfl (rfl) (wn ?_);refine wO ?_;refine sN 3 ?_;refine sC ?_ func41 (hf:=hco);refine sW ?_;refine sE ?_;refine iV (aX 22 3 z6 y9) ?_;simp only[go_sem];refine dSq ?_ ?_
  ·simp[go_sem,rowsOf,htq,refs];exact ⟨by omega,λx _=>qe _ x⟩
  simp only[go_sem];refine dS ?_;refine dS ?_;refine wKn ?_;refine wG ?_ w4 y7;refine ZB ⟨Q.length+1,by omega,by omega,ZU ?_ ?_ ?_⟩
  ·simp[go_sem]
  ·simp[go_sem,hs,htq,ZC]
  ·simp only[go_sem]
 ·obtain rfl:=eq1 hi h;refine wGT ?_;simp[go_sem]
end La
namespace La
open Go Go.Eng
theorem jm {l:List Node} (h:Up l) (n:Node) {k:Int} (hk:bf l k=true):bf (aJ l n) k=true:=by
 rw[cK] at hk ⊢;rw[qp h];split
 ·rfl
 ·exact hk
theorem um {W:List Node} (hg:Good W) (hr:Ri W) {b:Act} (hk:b.kind=4) (he:cN W b=0):∃n,n∈cO W b 0/\aU W b n=true:=by
 have hL:cO W b 0=eM (aJ W { aE (ar W b.dir) b.name with version:=0 }) b.fid:=by unfold cO;rw[if_pos he]
 unfold cN at he;split at he
 ·rename_i hnm;obtain ⟨d,hf,hgd⟩:=mV hnm;obtain ⟨hd,hdf⟩:=(ZO hg.up).1 hf;have hent:ba d b.name=some b.fid:=by
   unfold bF at hnm;split at hnm
   ·rw[hgd] at hnm;cases e:ba d b.name with
    | none=>rw[e] at hnm;simp at hnm
    | some f=>
     rw[e] at hnm;simp only at hnm;split at hnm
     ·rename_i hff;rw[hff]
     ·simp at hnm
   ·rename_i hne;exact absurd hnm hne
  have hmem:(⟨b.name,b.fid⟩:Entry)∈d.entries:=(YE (hr.eup d hd)).1 hent;obtain ⟨r,hrk⟩:=hg.dd;have hne:d.fid≠b.fid:=λe=>by
   have:=hrk d hd _ hmem;simp only at this;rw[e] at this;omega
  rw[hL,hgd];refine ⟨{ aE d b.name with version:=0 },((il (bq hg.up _).1 b.fid).2 _).2 ⟨((bq hg.up _).2 _).2 (.inl rfl),hne⟩,?_⟩;have hfd:ak W ({ aE d b.name with version:=0 }:Node).fid=some d:=by show ak W d.fid=_;rw[hdf];exact hf
  have hent2:decide (d.entries=({ aE d b.name with version:=0 }:Node).entries)=false:=by
   refine decide_eq_false λe=>?_
   have h2:(⟨b.name,b.fid⟩:Entry)∈dp d.entries b.name:=by
    have h3:=hmem;rw[e] at h3;exact h3
   unfold dp at h2;have:=(YL.1 h2).2;simp at this
  unfold aU;rw[hfd];simp only[dg,hent2,Bool.and_false,Bool.false_and,Bool.not_false]
 ·rename_i hnm;exact absurd he hnm
theorem B7 {W:List Node} (hg:Good W) (hr:Ri W) {b:Act} (he:aG W b=0) (hno:∀n,n∈aK W b 0->aU W b n=false) {k:Int} (hk:bf W k=true):bf (aK W b 0) k=true:=by
 unfold aG at he;unfold aK at hno ⊢;have hmk:cV W b=0->bf (dU W b 0) k=true:=λh=>by
  unfold dU;rw[if_pos h];exact jm (bq hg.up _).1 _ (jm hg.up _ hk)
 split
 ·rename_i h1;rw[if_pos h1] at he;exact hmk he
 ·rename_i h1;rw[if_neg h1] at he hno;split
  ·rename_i h2;rw[if_pos h2] at he;exact hmk he
  ·rename_i h2;rw[if_neg h2] at he hno;split
   ·unfold ez;split
    ·exact jm hg.up _ hk
    ·exact hk
   ·rename_i h3;rw[if_neg h3] at he hno;split
    ·rename_i h4;rw[if_pos h4] at he hno;obtain ⟨n,hn,hc⟩:=um hg hr h4 he;rw[hno n hn] at hc;cases hc
    ·split
     ·unfold dj;split
      ·split
       ·exact jm hg.up _ hk
       ·exact jm (bq hg.up _).1 _ (jm hg.up _ hk)
      ·exact hk
     ·exact hk
end La
namespace La
open Go Go.Eng Go.Proofs Go.Proofs.Tryz
theorem sc (l:List Hoard) (hlen:l.length<=100000000) {f:FuncId} {caps:List AV} {p:Hoard->Bool} (hcal:aH prog f) (hpure:(caps.all AV.aT)=true)
  (hf:∀x,x∈l->ai prog f (.agg (ZJ x)::caps) [] (λr _=>r=.bool (p x))) :
  Fo 161 [.sl (l.map ZJ),.fn f caps] (.int .i64 (cq (l.findIdx? p))):=by
 have hcaps:=cf hpure;refine wSG func161 ntmps161 results161 λC=>?_
 refine ZL (λi:Nat=>i<=l.length/\∀x,x∈l.take i->p x=false) (λi=>l.length-i) (λi=>(8,.int .i64 i)::(5,.any)::u0 9 10 []) (λ_=>[]) 0 ⟨by omega,by simp⟩ ?_ λi hi=>?_
 ·simp only[go_sem];exact ZU w3 w3 k9
 obtain ⟨hi,hno⟩:=hi;simp only[go_sem];refine wGD (λh=>?_) (λh=>?_)
 ·have hlt:=lt1 h;have hn:=hf _ (YG hlt);have hg:=Fam.getD (f:=ZJ) hlt;have htk:=ZT hlt;have hgi:l[i]? = some (l.getD i default):=by rw[List.getD_eq_getElem?_getD,W3 hlt];rfl
  generalize l.getD i default=n at hn hg htk hgi;refine wGq ?_ ?_ Qm
  ·simp[hlt,ZJ]
  refine dC rfl rfl z7 w3 hcal k9 (hn) w3 z6 ?_;refine wGD (λh=>?_) (λh=>?_)
  ·refine wGT ?_;rw[eN hgi hno h];rfl
  ·have hw:IntKind.i64.wrap ((i:Int)+1)=(i:Int)+1:=wrap_small z8 z8;refine wG ?_ w4 y7;refine ZB ⟨i+1,⟨by omega,?_⟩,by omega,ZU ?_ ?_ ?_⟩
   ·rw[htk];intro x hx
    rcases List.mem_append.1 hx with hx | hx
    ·exact hno x hx
    ·rw[List.mem_singleton.1 hx];exact h
   ·simp[go_sem]
   ·simp[go_sem]
   ·simp[go_sem,hcaps]
 ·have e:i=l.length:=by simp at h;omega
  refine wGT ?_;rw[e,W7] at hno;rw[YO.2 hno];rfl
theorem qD (l:List Hoard) (hlen:l.length<=100000000) (id:Nat) {f:FuncId} {caps:List AV} {p:Hoard->Bool} (hcal:aH prog f) (hpure:(caps.all AV.aT)=true) (hid:id≠7)
  (hf:∀x,x∈l->ai prog f (.agg (ZJ x)::caps) [] (λr _=>r=.bool (p x))) :
  ai prog 115 [.osl id 2 0 l.length,.fn f caps] [(id,.cells 118 2 (l.map ZJ))] (λr H=>r=.osl id 2 0 (l.filter λx=>!p x).length /\
   ∀i b,aa [(id,.cells 118 2 ((l.filter λx=>!p x).map ZJ++List.replicate (l.length-(l.filter λx=>!p x).length) [.str [],.int .i64 0]))] i=some b->aa H i=some b):=by
 have hcaps:=cf hpure;obtain ⟨q,hv,hq⟩:=fN hpure;refine wSG func115 ntmps115 results115 λC=>?_
 refine ny rfl rfl z7 w3 QZ Z5 ⟨_,func161,by kernel_rfl,rfl⟩ (sc l hlen hcal hpure hf) w3 z6 ?_;refine wGD (λh=>?_) (λh=>?_)
 ·refine wGT ?_;have hn:l.findIdx? p=none:=by
   cases e:l.findIdx? p with
   | none=>rfl
   | some k=>rw[e] at h;simp[cq] at h
  have hfl:l.filter (λx=>!p x)=l:=Ye.2 λx hx=>by
   simp[YO.1 hn x hx]
  rw[hfl];simp[aa]
 obtain ⟨k,hk⟩:∃k,l.findIdx? p=some k:=by
  cases e:l.findIdx? p with
  | none=>rw[e] at h;simp[cq] at h
  | some k=>exact ⟨k,rfl⟩
 have hkl:k<l.length:=(YN.1 hk).1;have hsp:=fi hk;rw[hk];have hw:IntKind.i64.wrap ((k:Int)+1)=((k+1:Nat):Int):=by rw[Eng.wrap_small z8 z8];rfl
 simp only[cq];refine wG ?_ w4 y7;refine ZL (λs:Nat×List Hoard=>DelInv p l s.1 s.2) (λs=>l.length-s.1) (λs=>(5,.int .i64 (((l.take s.1).filter λx=>!p x).length:Nat))::(6,.int .i64 (s.1:Nat))::(7,.any)::u0 16 20 []) (λs=>[(id,.cells 118 2 (s.2.map ZJ))]) (k+1,l) (DelInv.start hk) ?_ λs hs=>?_
 ·have el:((l.take (k+1)).filter λx=>!p x).length=k:=by rw[hsp];simp;omega
  simp only[go_sem,el];exact ZU w3 w3 k9
 obtain ⟨j,L⟩:=s;have hjl:=hs.le;have hL:=hs.len;have hlt:=hs.lt;simp only at hs hjl hL hlt;simp only[go_sem];refine wGD (λh=>?_) (λh=>?_)
 ·have hj:=lt1 h;have hn:=hf _ (YG hj);have hg:(L.map ZJ).getD j []=ZJ (l.getD j default):=by rw[Fam.getD z8,hs.get hj]
  have hkeep:=hs.F0 hj;have hskip:=hs.skip hj;have htk:=ZT hj;generalize l.getD j default=n at hn hg hkeep hskip htk;refine wGq ?_ ?_ (by simp only[go_sem,hg,ZJ,hid,Ne.symm hid];try exact rfl)
  ·simp[ZJ];omega
  refine dC rfl rfl z7 w3 hcal k9 (hn) w3 z6 ?_;generalize hm:((l.take j).filter λx=>!p x).length=m at hkeep hlt;have hw1:IntKind.i64.wrap ((j:Int)+1)=((j+1:Nat):Int):=by rw[Eng.wrap_small z8 z8];rfl
  have hw2:IntKind.i64.wrap ((m:Int)+1)=((m+1:Nat):Int):=by rw[Eng.wrap_small z8 z8];rfl
  refine wG ?_ QW WO;refine wD (λh=>?_) (λh=>?_)
  ·have hp:p n=false:=by simpa using h
   obtain ⟨hk1,hk2⟩:=hkeep hp;have aF:=pU ZJ L m n;simp only[ZJ] at aF;have hgl:(L.map ZJ).getD m []=ZJ (L.getD m default):=Fam.getD z8;simp only[ZJ] at hgl;refine wGq ?_ ?_ v7
   ·simp[hid,Ne.symm hid];omega
   exact ZB ⟨(j+1,L.set m n),hk1,by simp only;omega,ZU QL Qd Qb⟩
  ·have hp:p n=true:=by simpa using h
   refine wG ?_ n4 Qc;have hsame:((l.take (j+1)).filter λx=>!p x).length=m:=by
    rw[<-hm,htk,List.filter_append];simp only[List.filter_cons,hp,Bool.not_true,Bool.false_eq_true,if_false,List.filter_nil,List.append_nil]
   exact ZB ⟨(j+1,L),hskip hp,by simp only;omega,ZU Zf Qo k9⟩
 have e:j=l.length:=by simp at h;omega
 subst e;have hfin:=hs.fin;rw[W7];generalize hd:(l.filter λx=>!p x)=d at *;have hdl:d.length<=l.length:=by rw[<-hd];exact YB _ _
 have hcl:=js ZJ (d:=d) (L:=L) [.str [],.int .i64 0] hfin z8;rw[hL] at hcl;refine wGq ?_ ?_ n9
 ·simp only[not_false_eq_true,true_and];omega
 refine wT ?_;simp[aa]
end La
namespace La
open Go Go.Eng
def eqW (w:Int) (l:List Hoard):List Hoard:=l.filter λh=>h.worth==w
theorem sx (w:Int) (l m:List Hoard):eqW w (l++m)=eqW w l++eqW w m:=List.filter_append l m
structure Stab (l P:List Hoard):Prop where
 same:∀w,eqW w P=eqW w l
 dd:P.Pairwise λa b=>b.worth<=a.worth
 mem:∀h,h∈P->h∈l
 len:P.length=l.length
theorem Stab.nil:Stab [] []:=⟨λ_=>rfl,List.Pairwise.nil,λ_ h=>h,rfl⟩
theorem Stab.ins {l P Q:List Hoard} {x:Hoard} (h:Stab l (P++Q)) (hP:∀p,p∈P->x.worth<=p.worth) (hQ:∀q,q∈Q->q.worth<x.worth):Stab (l++[x]) (P++x::Q):=by
 refine ⟨λw=>?_,?_,λy hy=>?_,?_⟩
 ·rw[sx w l,<-h.same w,sx w P,sx w P]
  show _++eqW w ([x]++Q)=_
  rw[sx]
  by_cases e:x.worth=w
  ·have:eqW w Q=[]:=by
    unfold eqW;rw[List.filter_eq_nil_iff];intro q hq;have:=hQ q hq;simp;omega
   rw[this];simp
  ·have:eqW w [x]=[]:=by
    unfold eqW;rw[List.filter_eq_nil_iff];intro q hq;rw[List.mem_singleton.1 hq];simpa using e
   rw[this];simp
 ·have hf:=List.pairwise_append.1 h.dd;refine List.pairwise_append.2 ⟨hf.1,List.pairwise_cons.2 ⟨λq hq=>by have:=hQ q hq;omega,hf.2.1⟩,λp hp y hy=>?_⟩
  rcases List.mem_cons.1 hy with rfl | hy
  ·exact hP p hp
  ·exact hf.2.2 p hp y hy
 ·rcases List.mem_append.1 hy with hy | hy
  ·exact YS _ (h.mem y (YS _ hy))
  ·rcases List.mem_cons.1 hy with rfl | hy
   ·simp
   ·exact YS _ (h.mem y (YI _ hy))
 ·have:=h.len;simp only[List.length_append,List.length_cons,List.length_nil] at this ⊢;omega
theorem rP:∀(n:Nat) (P:List Hoard),P.Pairwise (λa b=>b.worth<=a.worth)->(∀h,h∈P->1<=h.worth)->bu P n=P.filter λh=>decide (h.worth<=(n:Int))
 | 0,P,_,hm=>by
  unfold bu
  symm
  rw[List.filter_eq_nil_iff];intro h hh;have:=hm h hh;simp;omega
 | n+1,P,hs,hm=>by
  rw[bu,rP n P hs hm];clear hm
  induction P with
  | nil=>rfl
  | cons p r ih=>
   have ih:=ih (List.pairwise_cons.1 hs).2;have hp:=(List.pairwise_cons.1 hs).1;rw[List.filter_cons,List.filter_cons,List.filter_cons]
   by_cases h1:p.worth=((n+1:Nat):Int)
   ·rw[if_pos Zc,if_neg k6,if_pos k6,List.cons_append,ih]
   ·rw[if_neg Zc]
    by_cases h2:p.worth<=(n:Int)
    ·rw[if_pos WY,if_pos k6,<-ih];have:r.filter (λh=>h.worth==((n+1:Nat):Int))=[]:=by
      rw[List.filter_eq_nil_iff];intro q hq;have:=hp q hq;simp;omega
     rw[this];rfl
    ·rw[if_neg WY,if_neg k6,ih]
theorem rO {l P:List Hoard} (h:∀w,eqW w P=eqW w l):∀n,bu P n=bu l n
 | 0=>rfl
 | n+1=>by
  unfold bu;rw[rO h n];exact congrArg (·++_) (h _)
theorem Stab.order {l P:List Hoard} (h:Stab l P) (hw:∀x,x∈l->1<=x.worth/\x.worth<=100):P=bu l 100:=by
 rw[<-rO h.same 100,rP 100 P h.dd λx hx=>(hw x (h.mem x hx)).1]
 symm
 rw[Ye];intro x hx;have:=(hw x (h.mem x hx)).2;simp;omega
end La
