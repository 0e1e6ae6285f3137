/- Texts of this claim, part 28: CAct, CWrite, CHoard, CBack. No condition. -/
import Derived.Test.YtdcmhdkpfllnlaaGreatDoorYC27
set_option maxRecDepth 10000
set_option maxHeartbeats 4000000
set_option linter.unusedSimpArgs false
set_option linter.unusedVariables false
namespace La
open Go Go.Eng Go.Proofs
variable {Fa:Prop}
theorem SrvOK.BY {k:Nat} {s:Srv} (h:SrvOK k s) (hk:k≤80000000):SmallP s.past:=⟨by have:=h.len;omega,λp hp=>by
 obtain ⟨st,_,_,h3⟩:=h.hist.st;obtain ⟨i,hi⟩:=W8 hp;have hil:=(W3.1 hi).1;have:=(h3 i hil).2.1.data
 rwa [show s.past.getD i default=p by rw[Wv,hi];rfl] at this⟩
theorem DR {B T:Nat} (u:U) (h:UInvF Fa B T u) (hB:B≤40000000) (haw:u.c.away=false) (a:Act) (ha:ActS a) (seen:Int) (G Y N:Nat->Nat):af Tryz.prog 29 [.ptr 900 13 0 0,.agg (ZA a),.int .i64 seen] (cuH u G Y N)
  (λr H=>r=.int .i64 (fk u a).e/\Holds (cuH (fk u a).u G Y N) H):=by
 have hpl:=h.srv.BY z8;have hdo:=I9 u.s u.c.number a h.srv.hist.bH hpl ha.fit (by have:=h.srv.next;omega);have hW0:fk u a=if doE u.s a=0 then ⟨0,⟨nM u.c (doS u.s u.c.number a).tree,doS u.s u.c.number a⟩⟩ else ⟨doE u.s a,u⟩:=rfl;have hst:=λhe=>h.srv.step u.c.number ha.fit (a:=a) he
 have hsk:=h.wY;unfold doR at hdo;generalize fk u a=wF at *;generalize doS u.s u.c.number a=s2 at *;unfold ZA at hdo;unfold ZQ at hdo;unfold cuH bq ZA;refine ZF tK (Tryz.func29) rfl (λC=>?_);simp only[Tryz.ntmps29,Tryz.results29,go_sem];refine wG tK ?_;refine wDT (hb:=Zd) (hk:=?_);refine wG tK ?_
 by_cases he:doE u.s a=0
 ·rw[if_pos he] at hdo hW0;have hs2:=hst he;have hfr:=xU u.c.cache s2.tree hsk hs2.hist.bH.small;refine ZW ZM ?_;refine ZS rfl ?_;refine sN tK 10 ?_;refine sC Tryz.func61 (hf:=(hdo)) (hk:=?_);refine sN tK 3 ?_;refine sW tK ?_;refine sT tK ?_;refine sG tK ?_;refine sE ?_;refine wKd ?_
  try simp only[go_sem,gA,gB,gC]
  refine wG tK ?_;refine wDF (hb:=(rfl)) (hk:=?_);refine wG tK ?_;refine ZW ZM ?_;refine ZS rfl ?_;refine sN tK 8 ?_;refine sC Tryz.func62 (hf:=(hfr)) (hk:=?_);refine sG tK ?_;refine sE ?_;refine dS tK ?_;refine wKd ?_
  try simp only[go_sem,gA,gB,gC]
  refine wG tK ?_;refine wU ?_ ?_
  ·rw[hW0]
  ·rw[hW0];simp only[pins,List.cons_append,List.nil_append,List.map_cons,List.map_nil]
   repeat' refine ZH ?_ ?_
   all_goals first | exact YH _ | rfl | simp[go_sem]
 ·rw[if_neg he] at hdo hW0;refine ZW ZM ?_;refine ZS rfl ?_;refine sN tK 10 ?_;refine sC Tryz.func61 (hf:=(hdo)) (hk:=?_);refine sN tK 3 ?_;refine sW tK ?_;refine sT tK ?_;refine sG tK ?_;refine sE ?_;refine wKd ?_
  try simp only[go_sem,gA,gB,gC]
  refine wG tK ?_;refine wDT (hb:=QS) (hk:=?_);refine wG tK ?_;refine wU ?_ ?_
  ·rw[hW0]
  ·rw[hW0];simp only[pins,List.cons_append,List.nil_append,List.map_cons,List.map_nil]
   repeat' refine ZH ?_ ?_
   all_goals first | exact YH _ | rfl | simp[go_sem]
theorem ux (u:U) (b:Act) (f:Int) (G Y N:Nat->Nat):af Tryz.prog 68 [.ptr 900 13 0 0,.rp (ZA b) 0,.int .i64 f] (cuH u G Y N) (λr H=>r=.bool (b.kind==3&&b.fid==f)/\Holds (cuH u G Y N) H):=by
 unfold ZA cuH;refine ZF tK (Tryz.func68) rfl (λC=>?_);simp only[Tryz.ntmps68,Tryz.results68,go_sem];refine wR ?_;refine wN tK 1 ?_;refine wR ?_;refine wN tK 6 ?_;refine aq 12 z6 (λc12 h12=>?_);simp only[go_sem];cases c12 with
 | true=>
  refine wG tK ?_;refine wU ?_ ?_
  ·rw[h12];simp
  ·exact q9
 | false=>
  refine wG tK ?_;refine wU ?_ ?_
  ·rw[h12];simp
  ·exact q9
theorem BF (L:List Node) (hL:Small L) (k:Kept):af Tryz.prog 71 [.agg (ZK k),.rp [.sl (L.map ZN)] 0] [] (λr _=>r=.bool (!bg L k.node.fid)):=by
 unfold ZK;refine ZF tK (Tryz.func71) rfl (λC=>?_);simp only[Tryz.ntmps71,Tryz.results71,go_sem];refine wG tK ?_;have hf:=eI L k.node.fid hL;unfold gy at hf;refine wC Tryz.func66 (hf:=(hf)) (hk:=?_);refine wGq tK ?_ ?_ w6
 ·simp[ZN]
 refine wT ?_;rfl
theorem rb (l:List Kept) (hlen:l.length≤100000000) {f:FuncId} {caps:List AV} {p:Kept->Bool} (hcal:aP Tryz.prog f) (hpure:(caps.all AV.bc)=true)
  (hf:∀x,x∈l->af Tryz.prog f (.agg (ZK x)::caps) [] (λr _=>r=.bool (p x))) (hno:∀x,x∈l->p x=false) :
  af Tryz.prog 70 [.sl (l.map ZK),.fn f caps] [] (λr _=>r=.sl (l.map ZK)):=by
 have hcaps:=cq hpure;obtain ⟨q,hv,hq⟩:=fK hpure;have hix:=jf l hlen hcal hpure hf;have hn:l.findIdx? p=none:=YK.2 λx hx=>by simp[hno x hx]
 rw[hn] at hix;refine ZF tK (Tryz.func70) rfl (λC=>?_);simp only[Tryz.ntmps70,Tryz.results70,go_sem];refine wG tK ?_;refine dR rfl rfl z7 w3 ⟨_,Tryz.func118,by kernel_rfl,rfl⟩ u5 (hix) w3 z6 ?_;refine wG tK ?_;refine wD (λh=>?_) (λh=>?_)
 ·refine wG tK ?_;refine wT ?_;rfl
 ·simp[ct] at h
theorem oK {l L:List Kept} {room:Int} {k:Kept} (h:cD l room k=some L) (hl:∀x,x∈l->x.node.Small) (hk:k.node.Small):∀x,x∈L->x.node.Small:=by
 unfold cD at h;cases e:cj l k.node.fid with
 | some i=>
  rw[e] at h;injection h with h
  subst h;intro x hx
  rcases Yr hx with hx | rfl
  ·exact hl x hx
  ·exact hk
 | none=>
  rw[e] at h;obtain ⟨L0,h0,rfl⟩:=YI.1 h;intro x hx
  rcases List.mem_append.1 hx with hx | hx
  ·exact hl x ((gu _ _ _ h0).subset hx)
  ·rw[List.mem_singleton.1 hx];exact hk
theorem sQ {l L:List Kept} {room:Int} {k:Kept} (h:cD l room k=some L):L.length≤l.length+1:=by
 unfold cD at h;cases e:cj l k.node.fid with
 | some i=>rw[e] at h;injection h with h;subst h;rw[Yi];omega
 | none=>
  rw[e] at h;obtain ⟨L0,h0,rfl⟩:=YI.1 h;have:=(gu _ _ _ h0).length_le;rw[List.length_append,List.length_cons,List.length_nil];omega
theorem ES (k f n:Int):(k != 3||n != f)=!(k==3&&f==n):=by
 have h:(f==n)=(n==f):=by rw[Ym,beq_iff_eq,beq_iff_eq];exact eq_comm
 rw[h,Bool.not_and];rfl
theorem r_ (W:List Node) (b:Act) (n:Node):aJ W b n=!((ak W n.fid).isSome&&cg false ((ak W n.fid).getD al) n&&!(b.kind==3&&b.fid==n.fid)):=by
 unfold aJ;rw[ES];cases ak W n.fid<;>rfl
theorem Gj {B T:Nat} (u:U) (h:UInvF Fa B T u) (hB:B≤40000000) (haw:u.c.away=true) (a:Act) (ha:ActS a) (seen:Int) (G Y N:Nat->Nat):af Tryz.prog 29 [.ptr 900 13 0 0,.agg (ZA a),.int .i64 seen] (cuH u G Y N)
  (λr H=>r=.int .i64 (lO u a seen).e/\Holds (cuH (lO u a seen).u G Y N) H):=by
 have hci:=h.cli;have hmd:=hci.made;have hlg:=hci.logged;have hcl:u.c.cache.length≤24:=by have:=hci.len;have:=hci.room;omega
 have hsk:=h.wY;have hgood:=hci.bH;have hri:=hci.ri;have hat:∀k,k∈u.c.cache->bg (bO u.c) k.node.fid=true:=λk hk=>by rw[cL,(ZO (ij u.c)).2 ⟨(ey hci.nod k.node).2 ⟨k,hk,rfl⟩,rfl⟩];rfl
 have hct:af Tryz.prog 63 [.sl (u.c.cache.map ZK)] [] (λr _=>r=.sl ((bO u.c).map ZN)):=xy u.c.cache hsk (ob hci.nod);have hbs:=AM (c:=u.c) ha;have hap:=nG hgood (eO u.c a) 0 hbs.fit;have hW0:lO u a seen=if aH (bO u.c) (eO u.c a)≠0 then ⟨aH (bO u.c) (eO u.c a),u⟩ else match dG u.c.log ⟨eO u.c a,ue a seen,u.c.logged+1⟩ with
  | none=>⟨5,u⟩
  | some log=>match bJ u.c.room u.c.clock (bO u.c) (eO u.c a) (aN (bO u.c) (eO u.c a) 0) u.c.cache with
   | none=>⟨5,u⟩
   | some l=>⟨0,⟨{ u.c with cache:=l.filter (λk=>bg (aN (bO u.c) (eO u.c a) 0) k.node.fid),log:=log,logged:=u.c.logged+1,made:=if aS a=true then u.c.made+1 else u.c.made },u.s⟩⟩:=rfl
 have hwm1:IntKind.i64.wrap (u.c.made+1)=u.c.made+1:=Eng.wrap_small z8 z8;have hwm:IntKind.i64.wrap (0-(u.c.made+1))=-1-u.c.made:=by rw[Eng.wrap_small z8 z8];omega
 have hwl1:IntKind.i64.wrap (u.c.logged+1)=u.c.logged+1:=Eng.wrap_small z8 z8;have hmb:(a.kind==1||a.kind==2)=aS a:=by unfold aS;rfl
 generalize lO u a seen=wF at *;generalize hWd:bO u.c=W at *;unfold cuH bq ZA;refine ZF tK (Tryz.func29) rfl (λC=>?_);simp only[Tryz.ntmps29,Tryz.results29,go_sem];refine wG tK ?_;refine wDF (hb:=Zd) (hk:=?_);refine wG tK ?_;refine oz (λq:Int×Int=>q.1=(eO u.c a).fid/\q.2=ue a seen) (λq=>(2,.int .i64 q.2)::u0 67 8 [])
  (λq=>[(4,.cells 88 7 [[.int .i64 a.kind,.int .i64 q.1,.int .i64 a.dir,.str a.name,.int .i64 a.to,.str a.toName,.sl (a.data.map ZY)]])]) ?_ λq hq=>?_
 ·refine wD (λh=>?_) (λh=>?_)
  ·have hm:aS a=true:=by unfold aS;revert h;cases (a.kind==1)<;>simp
   refine wG tK ?_ (by simp only[go_sem,hwm1,hwm];try exact rfl) (by simp[go_sem,hwm1,hwm]);refine ZB ⟨(-1-u.c.made,-1),⟨by unfold eO;rw[if_pos hm],by unfold ue;rw[if_pos hm]⟩,ZU ?_ ?_ ?_⟩
   ·simp[go_sem]
   ·simp[go_sem]
   ·simp[go_sem]
  ·have hm:aS a=false:=by unfold aS;revert h;cases (a.kind==1)<;>simp
   refine wG tK ?_;refine ZB ⟨(a.fid,seen),⟨by unfold eO;rw[hm];rfl,by unfold ue;rw[hm];rfl⟩,ZU ?_ ?_ ?_⟩
   ·simp[go_sem]
   ·simp[go_sem]
   ·simp[go_sem]
 obtain ⟨F,V⟩:=q;obtain ⟨hF,hV⟩:=hq;simp only at hF hV;have hbE:(⟨a.kind,F,a.dir,a.name,a.to,a.toName,a.data⟩:Act)=eO u.c a:=by rw[hF];unfold eO;split<;>rfl
 rw[←hV] at hW0;generalize eO u.c a=b at *;clear hF hV;simp only[go_sem];have hrow:ZA b=[.int .i64 a.kind,.int .i64 F,.int .i64 a.dir,.str a.name,.int .i64 a.to,.str a.toName,.sl (a.data.map ZY)]:=by rw[←hbE];rfl
 have hrec:∀v i,ZR ⟨b,v,i⟩=[.int .i64 a.kind,.int .i64 F,.int .i64 a.dir,.str a.name,.int .i64 a.to,.str a.toName,.sl (a.data.map ZY),.int .i64 v,.int .i64 i]:=by intro v i;rw[←hbE];rfl
 clear hbE;have hgl:=λhe=>fF hgood b 0 he
 have hss:=λhe=>@A6 W hgood hri b he
 rw[hrow] at hap;unfold pz at hap;generalize aH W b=e0 at *;generalize aN W b 0=L at *;refine ZZ 4 rfl (rfl) ?_;simp only[go_sem];refine wG tK ?_;refine wC Tryz.func63 (hf:=(hct)) (hk:=?_);refine wG tK ?_
 by_cases hE:e0=0
 ·rw[if_pos hE] at hap;rw[if_neg u2] at hW0;have hgL:=hgl hE;have hss:=hss hE;have hLl:=hgL.len;have hadd:=I2 u.c.log ⟨b,V,u.c.logged+1⟩ ⟨by have:=hci.log;omega,λr hr=>by have:=(hci.logS r hr).data;show r.act.data.length≤_;omega⟩ Zb;rw[hrec] at hadd;refine wC Tryz.func64 (hf:=(hap)) (hk:=?_);refine wG tK ?_;refine wDF (hb:=(rfl)) (hk:=?_);refine ZZ 11 rfl (rfl) ?_;simp only[go_sem];refine wG tK ?_;refine ZW ZM ?_;refine ZS rfl ?_;refine sN tK 13 ?_ z6 z6 QH Q4;refine sB tK ?_;cases hlog:dG u.c.log ⟨b,V,u.c.logged+1⟩ with
  | none=>
   rw[hlog] at hadd hW0;simp only[fX] at hadd hW0;have hW:=hW0;refine sC Tryz.func65 (hf:=(hadd)) (hk:=?_);refine sG tK ?_;refine sE ?_;refine wKd ?_
   try simp only[go_sem,gA,gB,gC]
   refine wG tK ?_;refine wDT (hb:=(rfl)) (hk:=?_);refine wG tK ?_;refine wU ?_ ?_
   ·rw[hW]
   ·rw[hW];simp only[pins,List.cons_append,List.nil_append,List.map_cons,List.map_nil]
    repeat' refine ZH ?_ ?_
    all_goals first | exact YH _ | rfl | simp[go_sem]
  | some log=>
   rw[hlog] at hadd hW0;simp only[fX] at hadd hW0;generalize hKA:bJ u.c.room u.c.clock W b L u.c.cache=KA at hW0;refine sC Tryz.func65 (hf:=(hadd)) (hk:=?_);refine sG tK ?_;refine sE ?_;refine wKd ?_
   try simp only[go_sem,gA,gB,gC]
   refine wG tK ?_;refine wDF (hb:=(rfl)) (hk:=?_);refine wG tK ?_;refine ZL (λq:Nat×List Kept×Bool=>q.1≤L.length/\bJ u.c.room u.c.clock W b (L.drop q.1) q.2.1=KA/\q.2.1.length≤24+q.1/\(∀x,x∈q.2.1->x.node.Small)/\(q.2.2=false->q.2.1=u.c.cache/\∀n,n∈L.take q.1->aJ W b n=false)) (λq=>L.length-q.1)
    (λq=>(12,.any)::(14,match q.2.2 with | true=>.osl 5000 8 0 q.2.1.length | false=>.sl (q.2.1.map ZK))::(16,.any)::(17,.any)::(18,.any)::(118,.int .i64 q.1)::u0 119 49 [])
    (λq=>match q.2.2 with | true=>[(5000,.cells 67 8 (q.2.1.map ZK))] | false=>[]) (0,u.c.cache,false) ⟨Yp _,by rw[List.drop_zero];exact hKA,by simp only;omega,hsk.each,λ_=>⟨rfl,λn hn=>by cases hn⟩⟩ ?_ λq hq=>?_
   ·simp only[go_sem];exact ZU w3 w3 w3
   obtain ⟨i,l,fl⟩:=q;obtain ⟨hi,hka,hll,hsl0,hfl⟩:=hq;simp only at hi hka hll hsl0 hfl;have hsl:SmallK l:=⟨by omega,hsl0⟩;clear hKA;cases fl with
   | false=>
    obtain ⟨hlc,hno⟩:=hfl rfl;simp only[go_sem];refine wG tK ?_;refine wD (λh=>?_) (λh=>?_)
    ·skip
     have hlt:i<L.length:=by simp at h;omega
     have hg:(L.map ZN).getD i []=ZN (L.getD i default):=Fam.getD hlt;have hw1:=wi1 (i:=i) z8;have hnm:=YG hlt;have htk:=ZT hlt;rw[bT hlt,bJ] at hka;have hJ:aJ W b (L.getD i default)=false->l=u.c.cache/\∀n,n∈L.take (i+1)->aJ W b n=false:=λh1=>⟨hlc,λn hn=>by rw[htk] at hn;rcases List.mem_append.1 hn with hn | hn;exact hno n hn;rw[List.mem_singleton.1 hn];exact h1⟩
     generalize L.getD i default=n at *;have hns:=hgL.small.each n hnm;have hkns:(dV W u.c.clock n).node.Small:=⟨hns.data,hns.entries⟩;have hfd0:=eI W n.fid hgood.small;unfold gy at hfd0;rw[cL] at hfd0;have hos:((ak W n.fid).getD al).Small:=hgood.small.find n.fid;have hcb:=r_ W b n;have hdk:dV W u.c.clock n=⟨{ n with version:=((ak W n.fid).getD al).version },true,0,u.c.clock⟩:=rfl;rw[hdk] at hka hkns;clear hdk;generalize (ak W n.fid).getD al=o at *;generalize (ak W n.fid).isSome=ok at *;have hfd:af Tryz.prog 66 [.sl (W.map ZN),.int .i64 n.fid] [] (λr _=>r=.tup [.agg [.int .i64 o.fid,.bool o.dir,.sl (o.data.map ZY),.sl (o.entries.map ZE),.int .i64 o.version],.bool ok]):=hfd0;clear hfd0;have hsm:=qS [o] [n] (fw hos) (fw hns);rw[show eL false [o] [n]=cg false o n by simp[eL]] at hsm;have hcn:=ux u b n.fid;rw[hrow] at hcn;unfold cuH bq at hcn;simp only[List.map_cons,List.map_nil] at hsm;unfold ZN at hsm;generalize cg false o n=sm at *;generalize (b.kind==3&&b.fid==n.fid)=nb at *;refine wR ?_;refine wNq tK 4 ?_ ?_ z6 z6 p8
     ·simp[hg,ZN,hlt]
     refine wR ?_;refine wN tK 3 ?_;refine wC Tryz.func66 (hf:=(hfd)) (hk:=?_);refine wN tK 6 ?_;refine dq ?_;refine pE ?_;refine pE ?_;refine oz (λj:Bool=>j=!aJ W b n) (λj=>(143,.bool j)::u0 129 14 []) (λ_=>[]) ?_ λj hj=>?_
     ·rw[hcb,Bool.not_not];clear hcb;cases ok with
      | false=>
       refine wG tK ?_;refine dT (.bool false) rfl ?_;simp only[go_sem];refine wG tK ?_;refine dT (.bool false) rfl ?_;simp only[go_sem];refine wG tK ?_;refine ZB ⟨false,rfl,ZU ?_ ?_ ?_⟩
       ·simp[go_sem]
       ·simp[go_sem]
       ·simp[go_sem]
      | true=>
       refine wG tK ?_;refine ZZ 132 rfl (rfl) ?_;refine ZZ 134 rfl (rfl) ?_;simp only[go_sem];refine wCC Tryz.func67 (hf:=λhb=>(hsm)) (hk:=?_);refine wN tK 2 ?_;cases sm with
       | false=>
        refine wG tK ?_;refine dT (.bool false) rfl ?_;simp only[go_sem];refine wG tK ?_;refine ZB ⟨false,by simp,ZU ?_ ?_ ?_⟩
        ·simp[go_sem]
        ·simp[go_sem]
        ·simp[go_sem]
       | true=>
        refine wG tK ?_;refine wP [900] Tryz.func68 (hf:=(hcn)) (hk:=?_);refine wG tK ?_;refine ZB ⟨!nb,by simp,ZU ?_ ?_ ?_⟩
        ·simp[go_sem]
        ·simp[go_sem]
        ·simp[go_sem]
     clear hsm hcn hfd;simp only[go_sem];cases hch:aJ W b n with
     | false=>
      rw[hch] at hj hka;simp only[Bool.not_false] at hj;subst hj;rw[if_neg Bool.false_ne_true] at hka;refine wDT (hb:=(rfl)) (hk:=?_);refine wG tK ?_ j9 QP;refine ZB ⟨(i+1,l,false),⟨by simp only;omega,hka,by simp only;omega,hsl0,λh0=>hJ hch⟩,by simp only;omega,ZU ?_ ?_ ?_⟩
      ·simp[go_sem]
      ·simp[go_sem]
      ·simp[go_sem]
     | true=>
      rw[hch] at hj hka;simp only[Bool.not_true] at hj;subst hj;rw[if_pos rfl] at hka;refine wDF (hb:=(rfl)) (hk:=?_);refine wG tK ?_
      skip
      refine ZW ZM ?_;refine ZS rfl ?_;refine sN tK 12 ?_;refine sB tK ?_;cases hkk:cD l u.c.room ⟨{ n with version:=o.version },true,0,u.c.clock⟩ with
      | none=>
       have hkn:=wg hsl hkns hkk;rw[hkk] at hka;simp only at hka;rw[←hka] at hW0;have hW:=hW0;refine sC Tryz.func69 (hf:=(hkn)) (hk:=?_);refine sG tK ?_;refine sE ?_;refine wKd ?_
       try simp only[go_sem,gA,gB,gC]
       refine wG tK ?_;refine wDT (hb:=(rfl)) (hk:=?_);refine wG tK ?_;refine wU ?_ ?_
       ·rw[hW]
       ·rw[hW];simp only[pins,List.cons_append,List.nil_append,List.map_cons,List.map_nil]
        repeat' refine ZH ?_ ?_
        all_goals first | exact YH _ | rfl | simp[go_sem]
      | some l2=>
       have hkn:=uR hsl hkns hkk;rw[hkk] at hka;simp only at hka;have hl2:=sQ hkk;have hs2:=oK hkk hsl.each hkns;refine gP 4000 rfl rfl z7 w3 ⟨_,Tryz.func69,by kernel_rfl,rfl⟩ w3 (hkn) w3 z7 z7 w3 z6 z6 ?_;refine sG tK ?_;refine sE ?_;refine wKd ?_
       try simp only[go_sem,gA,gB,gC]
       refine wG tK ?_;refine wDF (hb:=(rfl)) (hk:=?_);refine wG tK ?_ j9 QP;refine ZB ⟨(i+1,l2,true),⟨by simp only;omega,hka,by simp only;omega,hs2,λh0=>by cases h0⟩,by simp only;omega,ZU ?_ ?_ ?_⟩
       ·simp[go_sem]
       ·simp[go_sem]
       ·simp[go_sem]
    ·have e:i=L.length:=by simp at h;omega
     subst e;rw[Yn (W7 _),bJ] at hka;rw[←hka] at hW0;simp only at hW0;have hfl:l.filter (λk=>bg L k.node.fid)=l:=YR.2 λk hk=>hss (by rw[W2] at hno;exact hno) (hat k (by rw[←hlc];exact hk))
     rw[hfl] at hW0;have hdl:=rb (p:=λk=>!bg L k.node.fid) l z8 ⟨_,Go.Proofs.Tryz.func71,by kernel_rfl,rfl⟩ (caps:=[.rp [.sl (L.map ZN)] 0]) (by simp[AV.bc]) (λx _=>BF L hgL.small x) (λx hx=>by rw[hss (by rw[W2] at hno;exact hno) (hat x (by rw[←hlc];exact hx))];rfl);refine wG tK ?_;refine wC Tryz.func70 (hf:=(hdl)) (hk:=?_)
     skip
     refine wG tK ?_ QH Q4;refine wD (λh=>?_) (λh=>?_)
     ·have hm:aS a=true:=by rw[←hmb];exact h
      rw[if_pos hm] at hW0;refine wG tK ?_ Qx Wc;refine wU ?_ ?_
      ·rw[hW0]
      ·rw[hW0];simp only[pins,List.cons_append,List.nil_append,List.map_cons,List.map_nil]
       repeat' refine ZH ?_ ?_
       all_goals first | exact YH _ | rfl | simp[go_sem]
     ·have hm:aS a=false:=by rw[←hmb];exact h
      rw[if_neg (by simp[hm])] at hW0;refine wG tK ?_;refine wU ?_ ?_
      ·rw[hW0]
      ·rw[hW0];simp only[pins,List.cons_append,List.nil_append,List.map_cons,List.map_nil]
       repeat' refine ZH ?_ ?_
       all_goals first | exact YH _ | rfl | simp[go_sem]
   | true=>
    simp only[go_sem];refine wG tK ?_;refine wD (λh=>?_) (λh=>?_)
    ·skip
     have hlt:i<L.length:=by simp at h;omega
     have hg:(L.map ZN).getD i []=ZN (L.getD i default):=Fam.getD hlt;have hw1:=wi1 (i:=i) z8;have hnm:=YG hlt;have htk:=ZT hlt;rw[bT hlt,bJ] at hka
     skip
     generalize L.getD i default=n at *;have hns:=hgL.small.each n hnm;have hkns:(dV W u.c.clock n).node.Small:=⟨hns.data,hns.entries⟩;have hfd0:=eI W n.fid hgood.small;unfold gy at hfd0;rw[cL] at hfd0;have hos:((ak W n.fid).getD al).Small:=hgood.small.find n.fid;have hcb:=r_ W b n;have hdk:dV W u.c.clock n=⟨{ n with version:=((ak W n.fid).getD al).version },true,0,u.c.clock⟩:=rfl;rw[hdk] at hka hkns;clear hdk;generalize (ak W n.fid).getD al=o at *;generalize (ak W n.fid).isSome=ok at *;have hfd:af Tryz.prog 66 [.sl (W.map ZN),.int .i64 n.fid] [] (λr _=>r=.tup [.agg [.int .i64 o.fid,.bool o.dir,.sl (o.data.map ZY),.sl (o.entries.map ZE),.int .i64 o.version],.bool ok]):=hfd0;clear hfd0;have hsm:=qS [o] [n] (fw hos) (fw hns);rw[show eL false [o] [n]=cg false o n by simp[eL]] at hsm;have hcn:=ux u b n.fid;rw[hrow] at hcn;unfold cuH bq at hcn;simp only[List.map_cons,List.map_nil] at hsm;unfold ZN at hsm;generalize cg false o n=sm at *;generalize (b.kind==3&&b.fid==n.fid)=nb at *;refine wR ?_;refine wNq tK 4 ?_ ?_ z6 z6 p8
     ·simp[hg,ZN,hlt]
     refine wR ?_;refine wN tK 3 ?_;refine wC Tryz.func66 (hf:=(hfd)) (hk:=?_);refine wN tK 6 ?_;refine dq ?_;refine pE ?_;refine pE ?_;refine oz (λj:Bool=>j=!aJ W b n) (λj=>(143,.bool j)::u0 129 14 []) (λ_=>[]) ?_ λj hj=>?_
     ·rw[hcb,Bool.not_not];clear hcb;cases ok with
      | false=>
       refine wG tK ?_;refine dT (.bool false) rfl ?_;simp only[go_sem];refine wG tK ?_;refine dT (.bool false) rfl ?_;simp only[go_sem];refine wG tK ?_;refine ZB ⟨false,rfl,ZU ?_ ?_ ?_⟩
       ·simp[go_sem]
       ·simp[go_sem]
       ·simp[go_sem]
      | true=>
       refine wG tK ?_;refine ZZ 132 rfl (rfl) ?_;refine ZZ 134 rfl (rfl) ?_;simp only[go_sem];refine wCC Tryz.func67 (hf:=λhb=>(hsm)) (hk:=?_);refine wN tK 2 ?_;cases sm with
       | false=>
        refine wG tK ?_;refine dT (.bool false) rfl ?_;simp only[go_sem];refine wG tK ?_;refine ZB ⟨false,by simp,ZU ?_ ?_ ?_⟩
        ·simp[go_sem]
        ·simp[go_sem]
        ·simp[go_sem]
       | true=>
        refine wG tK ?_;refine wP [900] Tryz.func68 (hf:=(hcn)) (hk:=?_);refine wG tK ?_;refine ZB ⟨!nb,by simp,ZU ?_ ?_ ?_⟩
        ·simp[go_sem]
        ·simp[go_sem]
        ·simp[go_sem]
     clear hsm hcn hfd;simp only[go_sem];cases hch:aJ W b n with
     | false=>
      rw[hch] at hj hka;simp only[Bool.not_false] at hj;subst hj;rw[if_neg Bool.false_ne_true] at hka;refine wDT (hb:=(rfl)) (hk:=?_);refine wG tK ?_ j9 QP;refine ZB ⟨(i+1,l,true),⟨by simp only;omega,hka,by simp only;omega,hsl0,λh0=>by cases h0⟩,by simp only;omega,ZU ?_ ?_ ?_⟩
      ·simp[go_sem]
      ·simp[go_sem]
      ·simp[go_sem]
     | true=>
      rw[hch] at hj hka;simp only[Bool.not_true] at hj;subst hj;rw[if_pos rfl] at hka;refine wDF (hb:=(rfl)) (hk:=?_);refine wG tK ?_;refine ZZ 5000 rfl (bh _) ?_;simp only[go_sem,Wy (show (l.map ZK).length≤l.length by simp)];refine ZW ZM ?_;refine ZS rfl ?_;refine sN tK 12 ?_;refine sB tK ?_;cases hkk:cD l u.c.room ⟨{ n with version:=o.version },true,0,u.c.clock⟩ with
      | none=>
       have hkn:=wg hsl hkns hkk;rw[hkk] at hka;simp only at hka;rw[←hka] at hW0;have hW:=hW0;refine sC Tryz.func69 (hf:=(hkn)) (hk:=?_);refine sG tK ?_;refine sE ?_;refine wKd ?_
       try simp only[go_sem,gA,gB,gC]
       refine wG tK ?_;refine wDT (hb:=(rfl)) (hk:=?_);refine wG tK ?_;refine wU ?_ ?_
       ·rw[hW]
       ·rw[hW];simp only[pins,List.cons_append,List.nil_append,List.map_cons,List.map_nil]
        repeat' refine ZH ?_ ?_
        all_goals first | exact YH _ | rfl | simp[go_sem]
      | some l2=>
       have hkn:=uR hsl hkns hkk;rw[hkk] at hka;simp only at hka;have hl2:=sQ hkk;have hs2:=oK hkk hsl.each hkns;refine gP 4000 rfl rfl z7 w3 ⟨_,Tryz.func69,by kernel_rfl,rfl⟩ w3 (hkn) w3 z7 z7 w3 z6 z6 ?_;refine sG tK ?_;refine sE ?_;refine wKd ?_
       try simp only[go_sem,gA,gB,gC]
       refine wG tK ?_;refine wDF (hb:=(rfl)) (hk:=?_);refine wG tK ?_ j9 QP;refine ZB ⟨(i+1,l2,true),⟨by simp only;omega,hka,by simp only;omega,hs2,λh0=>by cases h0⟩,by simp only;omega,ZU ?_ ?_ ?_⟩
       ·simp[go_sem]
       ·simp[go_sem]
       ·simp[go_sem]
    ·have e:i=L.length:=by simp at h;omega
     subst e;rw[Yn (W7 _),bJ] at hka;rw[←hka] at hW0;simp only at hW0;have hle:=W6 (λk:Kept=>bg L k.node.fid) l;have hdl:=ir (p:=λk=>!bg L k.node.fid) l hsl.len 5000 ⟨_,Go.Proofs.Tryz.func71,by kernel_rfl,rfl⟩ (caps:=[.rp [.sl (L.map ZN)] 0]) (by simp[AV.bc]) x8 (λx _=>BF L hgL.small x);simp only[Bool.not_not] at hdl;generalize l.filter (λk=>bg L k.node.fid)=d at *;refine wG tK ?_;refine wCG [5000] 100 Tryz.func70 (hf:=(hdl)) (hk:=?_);refine ZZ 5100 rfl Qu ?_;simp only[go_sem,ig (show (d.map ZK).length=d.length by simp)]
     skip
     refine wG tK ?_ QH Q4;refine wD (λh=>?_) (λh=>?_)
     ·have hm:aS a=true:=by rw[←hmb];exact h
      rw[if_pos hm] at hW0;refine wG tK ?_ Qx Wc;refine wU ?_ ?_
      ·rw[hW0]
      ·rw[hW0];simp only[pins,List.cons_append,List.nil_append,List.map_cons,List.map_nil]
       repeat' refine ZH ?_ ?_
       all_goals first | exact YH _ | rfl | simp[go_sem]
     ·have hm:aS a=false:=by rw[←hmb];exact h
      rw[if_neg (by simp[hm])] at hW0;refine wG tK ?_;refine wU ?_ ?_
      ·rw[hW0]
      ·rw[hW0];simp only[pins,List.cons_append,List.nil_append,List.map_cons,List.map_nil]
       repeat' refine ZH ?_ ?_
       all_goals first | exact YH _ | rfl | simp[go_sem]
 ·rw[if_neg hE] at hap;rw[if_pos u2] at hW0;have hW:=hW0;refine wC Tryz.func64 (hf:=(hap)) (hk:=?_);refine wG tK ?_;refine wDT (hb:=u2) (hk:=?_);refine wG tK ?_;refine wU ?_ ?_
  ·rw[hW]
  ·rw[hW];simp only[pins,List.cons_append,List.nil_append,List.map_cons,List.map_nil]
   repeat' refine ZH ?_ ?_
   all_goals first | exact YH _ | rfl | simp[go_sem]
variable {Fa:Prop}
theorem py {B T:Nat} (u:U) (h:UInvF Fa B T u) (hB:B≤40000000) (hT:T≤900000000000) (a:Act) (ha:ActS a) (seen:Int) (G Y N:Nat->Nat):af Tryz.prog 29 [.ptr 900 13 0 0,.agg (ZA a),.int .i64 seen] (cuH u G Y N)
  (λr H=>r=.int .i64 (bQ u a seen).e/\Holds (cuH (bQ u a seen).u G Y N) H):=by
 unfold bQ;cases e:u.c.away with
 | true=>exact Gj u h hB e a ha seen G Y N
 | false=>exact DR u h hB e a ha seen G Y N
theorem rS (u:U) (n:Node) (G Y N:Nat->Nat):af Tryz.prog 59 [.ptr 900 13 0 0,.rp (ZN n) 0] (cuH u G Y N) (λr H=>r=.int .i64 (cI n)/\Holds (cuH u G Y N) H):=by
 unfold ZN cuH;refine ZF tK (Tryz.func59) rfl (λC=>?_);simp only[Tryz.ntmps59,Tryz.results59,go_sem];refine wG tK ?_;refine wD (λh=>?_) (λh=>?_)
 ·refine wG tK ?_;refine wU ?_ ?_
  ·simp at h;simp[cI,h]
  ·exact q9
 ·refine wG tK ?_;refine wU ?_ ?_
  ·simp at h;unfold cI;rw[if_neg z8]
  ·exact q9
theorem pL {B T:Nat} {u:U} (h:UInvF Fa B T u) {f w:Int} (he:(aU u f w).e=0):(aU u f w).n.fid=f:=by
 unfold aU at he ⊢;cases hn:aF u.c.cache f with
 | some n=>
  obtain ⟨k,_,_,hf⟩:=kx hn;exact hf
 | none=>
  rw[hn] at he;simp only at he ⊢;split
  ·rename_i ha;rw[if_pos ha] at he;cases he
  ·rename_i ha;rw[if_neg ha] at he;cases hf:ak u.s.tree f with
   | none=>rw[hf] at he;cases he
   | some n=>exact ((ZO h.srv.hist.bH.up).1 hf).2
theorem FD {B T:Nat} (u:U) (h:UInvF Fa B T u) (hB:B≤30000000) (hT:T≤800000000000) (path data:List UInt8) (hp:path.length≤10000000) (G Y N:Nat->Nat):af Tryz.prog 27 [.ptr 900 13 0 0,.str path,.sl (data.map ZY)] (cuH u G Y N)
  (λr H=>r=.int .i64 (a_ u path data).e/\Holds (cuH (a_ u path data).u G Y N) H):=by
 have hd:=kz u h z8 z8 path hp;have hdi:=ch h path;have hdn:=iP h path;have hnm:=bF u path;have hW0:a_ u path data=if (ag u path).e≠0 then ⟨(ag u path).e,(ag u path).u⟩
  else if data.length>20 then ⟨4,(ag u path).u⟩
  else match av (ag u path).n (ag u path).name with
  | some f=>fH (aU (ag u path).u f 0) data
  | none=>if (bQ (ag u path).u (bK (ag u path).n.fid (ag u path).name) (-1)).e≠0 then bQ (ag u path).u (bK (ag u path).n.fid (ag u path).name) (-1)
   else fH (goU (bQ (ag u path).u (bK (ag u path).n.fid (ag u path).name) (-1)).u (ae path).1 0) data:=rfl
 generalize ag u path=d at *;have hent:=kb d.n d.name hdn.small;unfold ZN at hent;unfold cuH at hd;unfold cuH;refine ZF tK (Tryz.func27) rfl (λC=>?_);simp only[Tryz.ntmps27,Tryz.results27,go_sem];refine wG tK ?_;refine wP [900] Tryz.func28 (hf:=(hd)) (hk:=?_);refine wGq tK ?_ ?_ w6
 ·simp[ZN]
 by_cases hde:d.e=0
 ·rw[if_neg s9] at hW0;refine wDF (hb:=s9) (hk:=?_);refine wG tK ?_
  by_cases hdl:data.length>20
  ·rw[if_pos hdl] at hW0;have hW:=hW0;refine wDT (hb:=j0) (hk:=?_);refine wG tK ?_;refine wU ?_ ?_
   ·rw[hW]
   ·rw[hW];simp only[pins,List.cons_append,List.nil_append,List.map_cons,List.map_nil]
    repeat' refine ZH ?_ ?_
    all_goals first | exact YH _ | rfl | simp[go_sem]
  ·rw[if_neg hdl] at hW0;refine wDF (hb:=j0) (hk:=?_);refine wG tK ?_;cases hen:av d.n d.name with
   | some f=>
    rw[hen] at hent hW0;simp only[eV] at hent;simp only at hent hW0;have hg:=mb d.u hdi z8 z8 f 0;have hgi:=bA hdi f 0;have hgf:=@pL Fa B (T+42) d.u hdi f 0;unfold cuH im at hg;generalize aU d.u f 0=g at hg hgi hW0 hgf;refine wC Tryz.func58 (hf:=(hent)) (hk:=?_);refine wG tK ?_;refine wDF (hb:=(rfl)) (hk:=?_);refine wG tK ?_;refine wP [900] Tryz.func60 (hf:=(hg)) (hk:=?_);refine wGq tK ?_ ?_ w6
    ·simp[ZN]
    by_cases hge:g.e=0
    ·have hgf:=hgf hge;have hW:a_ u path data=bQ g.u (aw g.n.fid data) (cI g.n):=by rw[hW0];unfold fH;rw[if_neg u7]
     have hact:=py g.u hgi z8 z8 (aw g.n.fid data) ⟨by simp[aw],by simp[aw],by show data.length≤20;omega⟩ (cI g.n);have hse:=rS g.u g.n;unfold cuH at hact hse;unfold ZN at hse;simp only[ZA,aw] at hact;rw[hW];simp only[aw];generalize bQ g.u ⟨3,g.n.fid,0,[],0,[],data⟩ (cI g.n)=x at *;rw[hgf] at hact;refine wDF (hb:=u7) (hk:=?_);refine ZZ 17 rfl (rfl) ?_;simp only[go_sem];refine wR ?_;refine wN tK 5 ?_;refine wP [900] Tryz.func59 (hf:=(hse)) (hk:=?_);refine wN tK 0 ?_;refine wP [900] Tryz.func29 (hf:=(hact)) (hk:=?_);refine wG tK ?_;refine wU ?_ ?_
     ·rfl
     ·exact q9
    ·have hW:a_ u path data=⟨g.e,g.u⟩:=by rw[hW0];unfold fH;rw[if_pos u7]
     refine wDT (hb:=u7) (hk:=?_);refine wG tK ?_;refine wU ?_ ?_
     ·rw[hW]
     ·rw[hW];simp only[pins,List.cons_append,List.nil_append,List.map_cons,List.map_nil]
      repeat' refine ZH ?_ ?_
      all_goals first | exact YH _ | rfl | simp[go_sem]
   | none=>
    rw[hen] at hent hW0;simp only[eV] at hent;simp only at hent hW0;have hms:ActS (bK d.n.fid d.name):=⟨hnm,by simp[bK],by simp[bK]⟩;have hmk:=py d.u hdi z8 z8 (bK d.n.fid d.name) hms (-1);have hmi:=iG hdi hms (-1);generalize bQ d.u (bK d.n.fid d.name) (-1)=x at hmk hmi hW0;unfold cuH ZA at hmk;simp only[bK,List.map_nil] at hmk;have hmk2:∀G Y N:Nat->Nat,af Tryz.prog 29 [.ptr 900 13 0 0,.agg [.int .i64 1,.int .i64 0,.int .i64 d.n.fid,.str d.name,.int .i64 0,.str [],.nils],.int .i64 (-1)] _ _:=λG Y N=>af.nrm rfl (hmk G Y N)
    refine wC Tryz.func58 (hf:=(hent)) (hk:=?_);refine wG tK ?_;refine wDT (hb:=(rfl)) (hk:=?_);refine wG tK ?_;refine wP [900] Tryz.func29 (hf:=(hmk2)) (hk:=?_);refine wG tK ?_
    by_cases hxe:x.e=0
    ·rw[if_neg Zo] at hW0;have hsp:=mM path z8;have hsl:=bR path;unfold cw at hsp;generalize ae path=S at *;obtain ⟨L,E⟩:=S;obtain ⟨hll,hlx⟩:=hsl;simp only at hW0 hll hlx hsp;have hg:=vK x.u hmi z8 z8 L z8 (λy hy=>by have:=(hlx y hy).1;omega) 0;have hgi:=iJ hmi L 0;unfold cuH im at hg;generalize goU x.u L 0=g at *;refine wDF (hb:=Zo) (hk:=?_);refine wG tK ?_;refine wC Tryz.func56 (hf:=(hsp)) (hk:=?_);refine wG tK ?_;refine wP [900] Tryz.func57 (hf:=(hg)) (hk:=?_);refine wGq tK ?_ ?_ w6
     ·simp[ZN]
     by_cases hge:g.e=0
     ·have hW:a_ u path data=bQ g.u (aw g.n.fid data) (cI g.n):=by rw[hW0];unfold fH;rw[if_neg u7]
      have hact:=py g.u hgi z8 z8 (aw g.n.fid data) ⟨by simp[aw],by simp[aw],by show data.length≤20;omega⟩ (cI g.n);have hse:=rS g.u g.n;unfold cuH at hact hse;unfold ZN at hse;simp only[ZA,aw] at hact;rw[hW];simp only[aw];generalize bQ g.u ⟨3,g.n.fid,0,[],0,[],data⟩ (cI g.n)=x at *;refine wDF (hb:=u7) (hk:=?_);refine ZZ 15 rfl (rfl) ?_;simp only[go_sem];refine wG tK ?_;refine ZW ZM ?_;refine ZS rfl ?_;refine sN tK 4 ?_;refine sB tK ?_;refine sN tK 1 ?_;refine dM rfl rfl z7 w3 ⟨_,Tryz.func59,by kernel_rfl,rfl⟩ [900] w8 w3 y8 w3 w3 (hse) z6 y6 ?_;refine gQ rfl rfl z7 w3 ⟨_,Tryz.func29,by kernel_rfl,rfl⟩ [900] w8 w3 y8 w3 w3 w3 (hact) z6 y6 ?_;refine sG tK ?_;refine sE ?_;refine wKd ?_
      try simp only[go_sem,gA,gB,gC]
      refine wG tK ?_;refine wU ?_ ?_
      ·rfl
      ·exact q9
     ·have hW:a_ u path data=⟨g.e,g.u⟩:=by rw[hW0];unfold fH;rw[if_pos u7]
      refine wDT (hb:=u7) (hk:=?_);refine wG tK ?_;refine wU ?_ ?_
      ·rw[hW]
      ·rw[hW];simp only[pins,List.cons_append,List.nil_append,List.map_cons,List.map_nil]
       repeat' refine ZH ?_ ?_
       all_goals first | exact YH _ | rfl | simp[go_sem]
    ·rw[if_pos Zo] at hW0;have hW:=hW0;refine wDT (hb:=Zo) (hk:=?_);refine wG tK ?_;refine wU ?_ ?_
     ·rw[hW]
     ·rw[hW];simp only[pins,List.cons_append,List.nil_append,List.map_cons,List.map_nil]
      repeat' refine ZH ?_ ?_
      all_goals first | exact YH _ | rfl | simp[go_sem]
 ·rw[if_pos s9] at hW0;have hW:=hW0;refine wDT (hb:=s9) (hk:=?_);refine wG tK ?_;refine wU ?_ ?_
  ·rw[hW]
  ·rw[hW];simp only[pins,List.cons_append,List.nil_append,List.map_cons,List.map_nil]
   repeat' refine ZH ?_ ?_
   all_goals first | exact YH _ | rfl | simp[go_sem]
theorem AR {B T:Nat} (u:U) (h:UInvF Fa B T u) (hB:B≤30000000) (hT:T≤800000000000) (path:List UInt8) (hp:path.length≤10000000) (G Y N:Nat->Nat):af Tryz.prog 30 [.ptr 900 13 0 0,.str path] (cuH u G Y N)
  (λr H=>r=.int .i64 (bt u path).e/\Holds (cuH (bt u path).u G Y N) H):=by
 have hd:=kz u h z8 z8 path hp;have hdi:=ch h path;have hdn:=iP h path;have hnm:=bF u path;have hE:(atU u path).e≠0->bt u path=⟨(atU u path).e,(atU u path).u⟩:=λh=>by unfold bt;rw[if_pos h]
 have hS:(atU u path).e=0->bt u path=bQ (atU u path).u (da (atU u path).n.fid (atU u path).d (atU u path).name) (cI (atU u path).n):=λh=>by unfold bt;rw[if_neg Zw]
 have hA:atU u path=if (ag u path).e≠0 then ⟨0,[],al,(ag u path).e,(ag u path).u⟩
  else match av (ag u path).n (ag u path).name with
  | none=>⟨0,[],al,6,(ag u path).u⟩
  | some f=>⟨(ag u path).n.fid,(ag u path).name,(aU (ag u path).u f 0).n,(aU (ag u path).u f 0).e,(aU (ag u path).u f 0).u⟩:=rfl
 generalize bt u path=w at *;generalize ag u path=d at *;generalize atU u path=p at *;have hent:=kb d.n d.name hdn.small;unfold ZN at hent;unfold cuH at hd;unfold cuH;refine ZF tK (Tryz.func30) rfl (λC=>?_);simp only[Tryz.ntmps30,Tryz.results30,go_sem];refine wG tK ?_;refine wP [900] Tryz.func28 (hf:=(hd)) (hk:=?_);refine wGq tK ?_ ?_ w6
 ·simp[ZN]
 by_cases hde:d.e=0
 ·rw[if_neg s9] at hA;refine wDF (hb:=s9) (hk:=?_);refine wG tK ?_;cases hen:av d.n d.name with
  | none=>
   rw[hen] at hent hA;simp only[eV] at hent;simp only at hent hA;have hW:=hE (by rw[hA];simp);rw[hA] at hW;refine wC Tryz.func58 (hf:=(hent)) (hk:=?_);refine wG tK ?_;refine wDT (hb:=(rfl)) (hk:=?_);refine wG tK ?_;refine wU ?_ ?_
   ·rw[hW]
   ·rw[hW];simp only[pins,List.cons_append,List.nil_append,List.map_cons,List.map_nil]
    repeat' refine ZH ?_ ?_
    all_goals first | exact YH _ | rfl | simp[go_sem]
  | some f=>
   rw[hen] at hent hA;simp only[eV] at hent;simp only at hent hA;have hg:=mb d.u hdi z8 z8 f 0;have hgi:=bA hdi f 0;have hgf:=@pL Fa B (T+42) d.u hdi f 0;unfold cuH im at hg;generalize aU d.u f 0=g at hg hgi hA hgf;refine wC Tryz.func58 (hf:=(hent)) (hk:=?_);refine wG tK ?_;refine wDF (hb:=(rfl)) (hk:=?_);refine wG tK ?_;refine wP [900] Tryz.func60 (hf:=(hg)) (hk:=?_);refine wGq tK ?_ ?_ w6
   ·simp[ZN]
   by_cases hge:g.e=0
   ·have hgf:=hgf hge;rw[hA] at hS;refine wDF (hb:=u7) (hk:=?_)
    skip
    have hW:=hS hge;simp only[da,hgf] at hW;have hact:=py g.u hgi z8 z8 (da f d.n.fid d.name) ⟨hnm,by simp[da],by simp[da]⟩ (cI g.n);have hse:=rS g.u g.n;unfold cuH at hact hse;simp only[ZA,da,List.map_nil] at hact;unfold ZN at hse;rw[hW];generalize bQ g.u ⟨4,f,d.n.fid,d.name,0,[],[]⟩ (cI g.n)=x at *;have hact2:∀G Y N:Nat->Nat,af Tryz.prog 29 [.ptr 900 13 0 0,.agg [.int .i64 4,.int .i64 f,.int .i64 d.n.fid,.str d.name,.int .i64 0,.str [],.nils],.int .i64 (cI g.n)] _ _:=λG Y N=>af.nrm rfl (hact G Y N)
    refine ZZ 10 rfl (rfl) ?_;simp only[go_sem];refine wG tK ?_;refine ZW ZM ?_;refine ZS rfl ?_;refine sN tK 5 ?_;refine sB tK ?_;refine sN tK 1 ?_;refine dM rfl rfl z7 w3 ⟨_,Tryz.func59,by kernel_rfl,rfl⟩ [900] w8 w3 y8 w3 w3 (hse) z6 y6 ?_;refine gQ rfl rfl z7 w3 ⟨_,Tryz.func29,by kernel_rfl,rfl⟩ [900] w8 w3 y8 w3 w3 w3 (hact2) z6 y6 ?_;refine sG tK ?_;refine sE ?_;refine wKd ?_
    try simp only[go_sem,gA,gB,gC]
    refine wG tK ?_;refine wU ?_ ?_
    ·rfl
    ·exact q9
   ·have hW:=hE Wg;rw[hA] at hW;refine wDT (hb:=u7) (hk:=?_);refine wG tK ?_;refine wU ?_ ?_
    ·rw[hW]
    ·rw[hW];simp only[pins,List.cons_append,List.nil_append,List.map_cons,List.map_nil]
     repeat' refine ZH ?_ ?_
     all_goals first | exact YH _ | rfl | simp[go_sem]
 ·rw[if_pos s9] at hA;have hW:=hE Wi;rw[hA] at hW;refine wDT (hb:=s9) (hk:=?_);refine wG tK ?_;refine wU ?_ ?_
  ·rw[hW]
  ·rw[hW];simp only[pins,List.cons_append,List.nil_append,List.map_cons,List.map_nil]
   repeat' refine ZH ?_ ?_
   all_goals first | exact YH _ | rfl | simp[go_sem]
theorem G7 {B T:Nat} (u:U) (h:UInvF Fa B T u) (hB:B≤30000000) (hT:T≤800000000000) (path to:List UInt8) (hp:path.length≤10000000) (hto:to.length≤10000000) (G Y N:Nat->Nat):af Tryz.prog 31 [.ptr 900 13 0 0,.str path,.str to] (cuH u G Y N)
  (λr H=>r=.int .i64 (cR u path to).e/\Holds (cuH (cR u path to).u G Y N) H):=by
 have hd:=kz u h z8 z8 path hp;have hdi:=ch h path;have hdn:=iP h path;have hnm:=bF u path;have hE:(atU u path).e≠0->cR u path to=⟨(atU u path).e,(atU u path).u⟩:=λh=>by unfold cR;rw[if_pos h]
 have hM1:(atU u path).e=0->(ag (atU u path).u to).e≠0->cR u path to=⟨(ag (atU u path).u to).e,(ag (atU u path).u to).u⟩:=λh h2=>by unfold cR;rw[if_neg Zw,if_pos h2]
 have hM2:(atU u path).e=0->(ag (atU u path).u to).e=0->cR u path to=bQ (ag (atU u path).u to).u (eK (atU u path).n.fid (atU u path).d (atU u path).name (ag (atU u path).u to).n.fid (ag (atU u path).u to).name) (cI (atU u path).n):=λh h2=>by
  unfold cR;rw[if_neg Zw,if_neg (by simp[h2])]
 have hS:=hM1;have hA:atU u path=if (ag u path).e≠0 then ⟨0,[],al,(ag u path).e,(ag u path).u⟩
  else match av (ag u path).n (ag u path).name with
  | none=>⟨0,[],al,6,(ag u path).u⟩
  | some f=>⟨(ag u path).n.fid,(ag u path).name,(aU (ag u path).u f 0).n,(aU (ag u path).u f 0).e,(aU (ag u path).u f 0).u⟩:=rfl
 generalize cR u path to=w at *;generalize ag u path=d at *;generalize atU u path=p at *;have hent:=kb d.n d.name hdn.small;unfold ZN at hent;unfold cuH at hd;unfold cuH;refine ZF tK (Tryz.func31) rfl (λC=>?_);simp only[Tryz.ntmps31,Tryz.results31,go_sem];refine wG tK ?_;refine wP [900] Tryz.func28 (hf:=(hd)) (hk:=?_);refine wGq tK ?_ ?_ w6
 ·simp[ZN]
 by_cases hde:d.e=0
 ·rw[if_neg s9] at hA;refine wDF (hb:=s9) (hk:=?_);refine wG tK ?_;cases hen:av d.n d.name with
  | none=>
   rw[hen] at hent hA;simp only[eV] at hent;simp only at hent hA;have hW:=hE (by rw[hA];simp);rw[hA] at hW;refine wC Tryz.func58 (hf:=(hent)) (hk:=?_);refine wG tK ?_;refine wDT (hb:=(rfl)) (hk:=?_);refine wG tK ?_;refine wU ?_ ?_
   ·rw[hW]
   ·rw[hW];simp only[pins,List.cons_append,List.nil_append,List.map_cons,List.map_nil]
    repeat' refine ZH ?_ ?_
    all_goals first | exact YH _ | rfl | simp[go_sem]
  | some f=>
   rw[hen] at hent hA;simp only[eV] at hent;simp only at hent hA;have hg:=mb d.u hdi z8 z8 f 0;have hgi:=bA hdi f 0;have hgf:=@pL Fa B (T+42) d.u hdi f 0;unfold cuH im at hg;generalize aU d.u f 0=g at hg hgi hA hgf;refine wC Tryz.func58 (hf:=(hent)) (hk:=?_);refine wG tK ?_;refine wDF (hb:=(rfl)) (hk:=?_);refine wG tK ?_;refine wP [900] Tryz.func60 (hf:=(hg)) (hk:=?_);refine wGq tK ?_ ?_ w6
   ·simp[ZN]
   by_cases hge:g.e=0
   ·have hgf:=hgf hge;rw[hA] at hS;refine wDF (hb:=u7) (hk:=?_)
    skip
    have hd2:=kz g.u hgi z8 z8 to hto;have hd2i:=ch hgi to;have hd2n:=bF g.u to;rw[hA] at hM1 hM2;simp only at hM1 hM2;have hM1:=hM1 hge;have hM2:=hM2 hge;unfold cuH at hd2;generalize ag g.u to=q at *;refine wG tK ?_;refine wP [900] Tryz.func28 (hf:=(hd2)) (hk:=?_);refine wGq tK ?_ ?_ w6
    ·simp[ZN]
    by_cases hqe:q.e=0
    ·have hW:=hM2 hqe;simp only[eK,hgf] at hW;have hact:=py q.u hd2i z8 z8 (eK f d.n.fid d.name q.n.fid q.name) ⟨hnm,hd2n,by simp[eK]⟩ (cI g.n);have hse:=rS q.u g.n;unfold cuH at hact hse;simp only[ZA,eK,List.map_nil] at hact;unfold ZN at hse;rw[hW];generalize bQ q.u ⟨5,f,d.n.fid,d.name,q.n.fid,q.name,[]⟩ (cI g.n)=x at *;have hact2:∀G Y N:Nat->Nat,af Tryz.prog 29 [.ptr 900 13 0 0,.agg [.int .i64 5,.int .i64 f,.int .i64 d.n.fid,.str d.name,.int .i64 q.n.fid,.str q.name,.nils],.int .i64 (cI g.n)] _ _:=λG Y N=>af.nrm rfl (hact G Y N)
     refine wDF (hb:=Z4) (hk:=?_);refine ZZ 12 rfl (rfl) ?_;simp only[go_sem];refine wG tK ?_;refine ZW ZM ?_;refine ZS rfl ?_;refine sN tK 8 ?_;refine sB tK ?_;refine sN tK 1 ?_;refine dM rfl rfl z7 w3 ⟨_,Tryz.func59,by kernel_rfl,rfl⟩ [900] w8 w3 y8 w3 w3 (hse) z6 y6 ?_;refine gQ rfl rfl z7 w3 ⟨_,Tryz.func29,by kernel_rfl,rfl⟩ [900] w8 w3 y8 w3 w3 w3 (hact2) z6 y6 ?_;refine sG tK ?_;refine sE ?_;refine wKd ?_
     try simp only[go_sem,gA,gB,gC]
     refine wG tK ?_;refine wU ?_ ?_
     ·rfl
     ·exact q9
    ·have hW:=hM1 hqe;refine wDT (hb:=Z4) (hk:=?_);refine wG tK ?_;refine wU ?_ ?_
     ·rw[hW]
     ·rw[hW];simp only[pins,List.cons_append,List.nil_append,List.map_cons,List.map_nil]
      repeat' refine ZH ?_ ?_
      all_goals first | exact YH _ | rfl | simp[go_sem]
   ·have hW:=hE Wg;rw[hA] at hW;refine wDT (hb:=u7) (hk:=?_);refine wG tK ?_;refine wU ?_ ?_
    ·rw[hW]
    ·rw[hW];simp only[pins,List.cons_append,List.nil_append,List.map_cons,List.map_nil]
     repeat' refine ZH ?_ ?_
     all_goals first | exact YH _ | rfl | simp[go_sem]
 ·rw[if_pos s9] at hA;have hW:=hE Wi;rw[hA] at hW;refine wDT (hb:=s9) (hk:=?_);refine wG tK ?_;refine wU ?_ ?_
  ·rw[hW]
  ·rw[hW];simp only[pins,List.cons_append,List.nil_append,List.map_cons,List.map_nil]
   repeat' refine ZH ?_ ?_
   all_goals first | exact YH _ | rfl | simp[go_sem]
variable {Fa:Prop}
theorem Cu (path:List UInt8) (h:Hoard):af Tryz.prog 75 [.agg (ZJ h),.rp [.str path] 0] [] (λr _=>r=.bool (h.path==path)):=by
 unfold ZJ;refine ZF tK (Tryz.func75) rfl (λC=>?_);simp only[Tryz.ntmps75,Tryz.results75,go_sem];refine wG tK ?_;refine wT ?_;rfl
theorem Cx {B T:Nat} (u:U) (h:UInvF Fa B T u) (path:List UInt8) (hp:path.length≤10000000) (w:Int) (G Y N:Nat->Nat):af Tryz.prog 33 [.ptr 900 13 0 0,.str path,.int .i64 w] (cuH u G Y N)
  (λr H=>r=.int .i64 (cY u path w).e/\Holds (cuH (cY u path w).u G Y N) H):=by
 have hsp:=mM path z8;have h6:=h.cli.hoards;have hW0:cY u path w=if (ae path).2≠0 then ⟨(ae path).2,u⟩ else if w<0\/w>100 then ⟨3,u⟩
  else if 0<w/\(cx u.c.hoards path).length≥6 then ⟨5,u⟩
  else ⟨0,⟨{ u.c with hoards:=if 0<w then cx u.c.hoards path++[⟨path,w⟩] else cx u.c.hoards path },u.s⟩⟩:=rfl
 have hcl:=ny u.c.hoards z8;have hdl:=pP (p:=λx=>x.path==path) u.c.hoards z8 1007 ⟨_,Go.Proofs.Tryz.func75,by kernel_rfl,rfl⟩ (caps:=[.rp [.str path] 0]) (by simp[AV.bc]) x8 (λx _=>Cu path x);have hfl:u.c.hoards.filter (λx=>!(x.path==path))=cx u.c.hoards path:=rfl;rw[hfl] at hdl;have hFl:(cx u.c.hoards path).length≤u.c.hoards.length:=W6 _ _;generalize cx u.c.hoards path=F at *;have htq:List.take F.length (F.map ZJ++List.replicate (u.c.hoards.length-F.length) [AV.str [],AV.int .i64 0])=F.map ZJ:=ig y8;generalize cY u path w=wF at *;unfold cw at hsp;generalize ae path=S at *;obtain ⟨L,E⟩:=S;simp only at hW0 hsp;unfold cuH bq;refine ZF tK (Tryz.func33) rfl (λC=>?_);simp only[Tryz.ntmps33,Tryz.results33,go_sem];refine wG tK ?_;refine ZZ 4 rfl (rfl) ?_;simp only[go_sem];refine wC Tryz.func56 (hf:=(hsp)) (hk:=?_);refine wG tK ?_
 by_cases hE:E=0
 ·rw[if_neg u2] at hW0;refine wDF (hb:=u2) (hk:=?_);refine wR ?_;refine wN tK 6 ?_;refine aq 23 z6 (λc23 h23=>?_);simp only[go_sem];have hc:c23=true↔(w<0\/w>100):=by
   rw[←h23];cases e1:decide (w<0)<;>simp at e1<;>simp[e1]<;>omega
  clear h23;refine wG tK ?_
  by_cases hwr:w<0\/w>100
  ·rw[if_pos hwr] at hW0;have hW:=hW0;refine wDT (hb:=(hc.2 hwr)) (hk:=?_);refine wG tK ?_;refine wU ?_ ?_
   ·rw[hW]
   ·rw[hW];simp only[pins,List.cons_append,List.nil_append,List.map_cons,List.map_nil]
    repeat' refine ZH ?_ ?_
    all_goals first | exact YH _ | rfl | simp[go_sem]
  ·rw[if_neg hwr] at hW0;refine wDF (hb:=(by simpa using λh0=>hwr (hc.1 h0))) (hk:=?_);refine wG tK ?_;refine wCG [] 1000 Tryz.func47 (hf:=(hcl)) (hk:=?_);refine wG tK ?_;refine wCG [1007] 100 Tryz.func74 (hf:=(hdl)) (hk:=?_);refine wG tK ?_
   by_cases hw0:0<w
   ·refine wDT (hb:=Wl) (hk:=?_);refine wG tK ?_
    by_cases hfl:F.length≥6
    ·rw[if_pos ⟨hw0,hfl⟩] at hW0;have hW:=hW0;refine wDT (hb:=j0) (hk:=?_);refine wG tK ?_;refine wU ?_ ?_
     ·rw[hW]
     ·rw[hW];simp only[pins,List.cons_append,List.nil_append,List.map_cons,List.map_nil]
      repeat' refine ZH ?_ ?_
      all_goals first | exact YH _ | rfl | simp[go_sem]
    ·rw[if_neg (λh=>hfl h.2),if_pos hw0] at hW0;have hW:=hW0;refine wDF (hb:=j0) (hk:=?_);refine wR ?_;refine wNq tK 6 ?_ ?_ z6 z6 (by simp only[go_sem,htq];try exact rfl)
     ·simp[htq,refs]
      first | exact ⟨by intro row h;simp at h;subst h;rfl,by omega⟩ | omega
     refine wN tK 1 ?_;refine ZZ 42 rfl (by rw[List.all_append,ew];rfl) ?_;simp only[go_sem];have htq2:List.take (F.length+1) (F.map ZJ++[[AV.str path,AV.int .i64 w]])=(F++[(⟨path,w⟩:Hoard)]).map ZJ:=by rw[Wy y8,List.map_append];rfl
     rw[htq2];refine wG tK ?_;refine wU ?_ ?_
     ·rw[hW]
     ·rw[hW];simp only[pins,List.cons_append,List.nil_append,List.map_cons,List.map_nil]
      repeat' refine ZH ?_ ?_
      all_goals first | exact YH _ | rfl | simp[go_sem]
   ·rw[if_neg (λh=>hw0 h.1),if_neg hw0] at hW0;have hW:=hW0;refine wDF (hb:=Wl) (hk:=?_);refine ZZ 1107 rfl (by rw[List.all_append,ew,Bool.true_and];exact jn _ rfl) ?_;simp only[go_sem,htq];refine wG tK ?_;refine wU ?_ ?_
    ·rw[hW]
    ·rw[hW];simp only[pins,List.cons_append,List.nil_append,List.map_cons,List.map_nil]
     repeat' refine ZH ?_ ?_
     all_goals first | exact YH _ | rfl | simp[go_sem]
 ·rw[if_pos u2] at hW0;have hW:=hW0;refine wDT (hb:=u2) (hk:=?_);refine wG tK ?_;refine wU ?_ ?_
  ·rw[hW]
  ·rw[hW];simp only[pins,List.cons_append,List.nil_append,List.map_cons,List.map_nil]
   repeat' refine ZH ?_ ?_
   all_goals first | exact YH _ | rfl | simp[go_sem]
theorem lf {l:List Hoard} {h:Hoard}:∀{n:Nat},h∈bs l n->h∈l
 | 0,hm=>by cases hm
 | n+1,hm=>by
  rw[bs] at hm
  rcases List.mem_append.1 hm with hm | hm
  ·exact (W9.1 hm).1
  ·exact lf hm
theorem lK (x:Hoard) (l:List Hoard):∀n:Nat,(bs (x::l) n).length=(bs l n).length+if 1≤x.worth/\x.worth≤(n:Int) then 1 else 0
 | 0=>by
  rw[if_neg z8];rfl
 | n+1=>by
  rw[bs,bs,List.length_append,List.length_append,lK x l n,List.filter_cons]
  by_cases h1:x.worth=((n+1:Nat):Int)
  ·rw[if_pos Z3,if_neg z8,if_pos z8,List.length_cons];omega
  ·rw[if_neg Z3]
   by_cases h2:1≤x.worth/\x.worth≤(n:Int)
   ·rw[if_pos h2,if_pos z8];omega
   ·rw[if_neg h2,if_neg z8];omega
theorem qJ:∀(l:List Hoard),(∀h,h∈l->1≤h.worth/\h.worth≤100)->(bs l 100).length=l.length
 | [],_=>by
  cases e:bs ([]:List Hoard) 100 with
  | nil=>rfl
  | cons x r=>
   have:=lf (l:=[]) (h:=x) (n:=100) (by rw[e];simp);cases this
 | x::l,h=>by
  have h1:=h x List.mem_cons_self;rw[lK,if_pos ⟨h1.1,by omega⟩,qJ l λy hy=>h y (List.mem_cons_of_mem _ hy)];rfl
theorem Bv {B T:Nat} (u:U) (h:UInvF Fa B T u) (ha:u.c.away=true) (G Y N:Nat->Nat):af Tryz.prog 34 [.ptr 900 13 0 0] (cuH u G Y N)
  (λr H=>r=.tup [.int .i64 0,.int .i64 12]/\Holds (cuH u G Y N) H):=by
 unfold cuH bq;refine ZF tK (Tryz.func34) rfl (λC=>?_);simp only[Tryz.ntmps34,Tryz.results34,go_sem];refine wG tK ?_;refine wDT (hb:=(ha)) (hk:=?_);refine wG tK ?_;refine wU ?_ ?_
 ·rfl
 ·exact q9
theorem Bw {B T:Nat} (u:U) (h:UInvF Fa B T u) (ha:u.c.away=false) (hB:B≤30000000) (hT:T≤800000000000) (G Y N:Nat->Nat):af Tryz.prog 34 [.ptr 900 13 0 0] (cuH u G Y N)
  (λr H=>r=.tup [.int .i64 ((eZ u).n:Int),.int .i64 0]/\Holds (cuH (eZ u).u G Y N) H):=by
 have h6:=h.cli.hoards;have hhS:=h.cli.hoardS;have hhS':∀x,x∈u.c.hoards->1≤x.worth/\x.worth≤100:=λx hx=>(hhS x hx).worth
 have hV:eZ u=(bs u.c.hoards 100).foldl fp ⟨0,u⟩:=rfl;have h0:VI Fa B T u ⟨0,u⟩ 0:=⟨h,Idle.refl u,W7 _⟩;have hcl:=ny u.c.hoards z8;have hoS:∀x,x∈bs u.c.hoards 100->HoardOK x:=λx hx=>hhS x (lf hx)
 generalize eZ u=vF at *;unfold cuH;refine ZF tK (Tryz.func34) rfl (λC=>?_);simp only[Tryz.ntmps34,Tryz.results34,go_sem];refine wG tK ?_ Zz Zv;refine wDF (hb:=(ha)) (hk:=?_);refine wG tK ?_
 by_cases hne:u.c.hoards=[]
 ·have hO:bs u.c.hoards 100=[]:=by
   cases e:bs u.c.hoards 100 with
   | nil=>rfl
   | cons x r=>
    have:=lf (l:=u.c.hoards) (h:=x) (n:=100) (by rw[e];simp);rw[hne] at this;cases this
  rw[hO,List.foldl_nil] at hV;rw[hne] at hcl ⊢;refine wCG [] 993 Tryz.func47 (hf:=(hcl)) (hk:=?_);refine ZZ 1000 rfl (rfl) ?_;simp only[go_sem];refine wG tK ?_;refine wC Tryz.func76 (hf:=(CA)) (hk:=?_);refine wG tK ?_;refine ZL (λ_:Unit=>True) (λ_=>0) (λ_=>[]) (λ_=>[]) () trivial ?_ λ_ _=>?_
  ·simp only[go_sem];exact ZU w3 Zv w3
  simp only[go_sem];refine wG tK ?_;refine wDF (hb:=x8) (hk:=?_);refine wG tK ?_;rw[hV];refine wU ?_ ?_
  ·rfl
  ·rw[show bq u=_ from rfl];unfold bq;rw[hne];simp only[pins,List.cons_append,List.nil_append,List.map_cons,List.map_nil]
   repeat' refine ZH ?_ ?_
   all_goals first | exact YH _ | rfl | simp[go_sem]
 ·have hst:=Ey u.c.hoards hne z8 hhS';have hOl:(bs u.c.hoards 100).length=u.c.hoards.length:=by
   exact qJ _ hhS'
  unfold hoH at hst;generalize hOd:bs u.c.hoards 100=O at *;refine wCG [] 993 Tryz.func47 (hf:=(hcl)) (hk:=?_);refine wG tK ?_;refine bY rfl (ea rfl z7 w3 ⟨_,Tryz.func76,by kernel_rfl,rfl⟩ [1000] w8 w3 y8 Zk w3 w3 (hst) y6) ?_;refine ZZ 1000 rfl (ew _) ?_;simp only[go_sem,Wy (show (O.map ZJ).length≤u.c.hoards.length by simp[hOl]),hOl,W7,if_true];refine wG tK ?_
  skip
  refine ZL (λq:Nat×GotV=>q.1≤O.length/\vF=(O.drop q.1).foldl fp q.2/\VI Fa B T u q.2 q.1) (λq=>O.length-q.1)
   (λq=>(5,.int .i64 (q.2.n:Int))::(27,.int .i64 (q.1:Int))::u0 7 5 (u0 28 23 [])) (λq=>[(900,.cells 80 13 [bq q.2.u])]) (0,⟨0,u⟩) ⟨Yp _,by rw[List.drop_zero];exact hV,h0⟩ ?_ λq hq=>?_
  ·simp only[go_sem];exact ZU w3 Zv w3
  obtain ⟨i,g⟩:=q;obtain ⟨hi,hvf,hvi⟩:=hq;simp only at hi hvf hvi;simp only[go_sem];refine wG tK ?_;refine wD (λh=>?_) (λh=>?_)
  ·have hlt:i<O.length:=by simp at h;omega
   have hg:(O.map ZJ).getD i []=ZJ (O.getD i default):=Fam.getD hlt;have hwi:=wi1 (i:=i) z8;have hok:=hoS _ (YG hlt);rw[bT hlt,List.foldl_cons] at hvf;generalize O.getD i default=x at *;have hst:=hvi.step x;have hsp:=mM x.path (by have:=hok.path;omega);have hsl:=bR x.path;have hvs:fp g x=⟨if (goU g.u (ae x.path).1 x.worth).e=0 then g.n+1 else g.n,(goU g.u (ae x.path).1 x.worth).u⟩:=rfl;have hgo:=vK g.u hvi.inv z8 z8 (ae x.path).1 (by have:=hsl.1;omega) (λy hy=>by have:=(hsl.2 y hy).1;omega) x.worth;rw[hvs] at hvf hst;unfold cw at hsp;unfold cuH im at hgo;generalize goU g.u (ae x.path).1 x.worth=q at *;generalize (ae x.path).1=L at *;have hgn:=hvi.n;have hwn:IntKind.i64.wrap ((g.n:Int)+1)=((g.n+1:Nat):Int):=by rw[Eng.wrap_small z8 z8];rfl
   refine wGq tK ?_ ?_ Qa
   ·simp[hg,ZJ,hlt]
   refine wC Tryz.func56 (hf:=(hsp)) (hk:=?_);refine wG tK ?_;refine wP [900] Tryz.func57 (hf:=(hgo)) (hk:=?_);refine wGq tK ?_ ?_ w6
   ·simp[ZN]
   by_cases hqe:q.e=0
   ·rw[if_pos hqe] at hvf hst;refine wDT (hb:=Z4) (hk:=?_);refine wG tK ?_ (by simp only[go_sem,hwn,hwi];try exact rfl) (by simp[go_sem,hwn,hwi]);refine ZB ⟨(i+1,⟨g.n+1,q.u⟩),⟨by simp only;omega,hvf,hst⟩,by simp only;omega,ZU ?_ ?_ ?_⟩
    ·simp[go_sem]
    ·simp[go_sem]
    ·simp[go_sem]
   ·rw[if_neg hqe] at hvf hst;refine wDF (hb:=Z4) (hk:=?_);refine wG tK ?_ Qy Wf;refine ZB ⟨(i+1,⟨g.n,q.u⟩),⟨by simp only;omega,hvf,hst⟩,by simp only;omega,ZU ?_ ?_ ?_⟩
    ·simp[go_sem]
    ·simp[go_sem]
    ·simp[go_sem]
  ·have e:i=O.length:=by simp at h;omega
   subst e;rw[List.drop_length,List.foldl_nil] at hvf;refine wG tK ?_;rw[hvf];refine wU ?_ ?_
   ·rfl
   ·exact q9
variable {Fa:Prop}
def qU (u:U) (away:Bool) (id n:Nat):List AV:=[.int .i64 u.c.number,.bool away,.int .i64 u.c.room,.sl (u.c.cache.map ZK),.sl (u.c.log.map ZR),.osl id 9 0 n,.sl (u.c.hoards.map ZJ),.int .i64 u.c.clock,.int .i64 u.c.made,.int .i64 u.c.logged,.sl (u.s.tree.map ZN),.int .i64 u.s.next,.sl (u.s.past.map ZP)]
def I6 (u:U) (G Y N:Nat->Nat):List (Nat×Blk):=[(19,.cells 80 13 [qU u u.c.away 901 u.c.repair.length]),(901,.cells 116 9 (u.c.repair.map ZR))]++pins [19] G Y N
def D7 (u:U) (G Y N:Nat->Nat):List (Nat×Blk):=[(19,.cells 80 13 [bq u])]++pins [19] G Y N
theorem Gl {B T:Nat} (u:U) (h:UInvF Fa B T u) (hB:B≤40000000) (G Y N:Nat->Nat):af Tryz.prog 32 [.ptr 19 13 0 0] (I6 u G Y N)
  (λr H=>r=.tup [.int .i64 (cc (ay u)),.int .i64 ((ay u).length-cc (ay u):Nat)]/\Holds (D7 (fY u) G Y N) H):=by
 have hci:=h.cli;have hll:=hci.log;have hfit:∀r,r∈u.c.log->ActFit r.act:=λr hr=>(hci.logS r hr).fit
 have hsl:SmallL u.c.log:=⟨by omega,λr hr=>by have:=(hci.logS r hr).data;show r.act.data.length≤_;omega⟩;have htk:=Iy u.s (h.srv.mono z8) u.c.number u.c.log hsl z8 hfit;have hvl:(ay u).length=u.c.log.length:=(JInv.qB h.srv.hist u.c.number u.s.next u.c.log hfit).vlen;have hs2:=h.srv.take u.c.number hfit;have hrep:=hci.rep;have hsk:=h.wY;have hbU:fY u=⟨{ u.c with away:=false,log:=[],repair:=nw u.c (ay u) (ay u).length,cache:=(u.c.cache.filter λk=>!k.dirty).filter λk=>!bN (gW u).tree k },gW u⟩:=by
  unfold fY nw uh;rw[W2,hvl,W2]
 have hdn:cc (ay u)=iC (ay u) (ay u).length:=by unfold iC;rw[W2]
 rw[hbU,hdn];have hst:∀i,i<(ay u).length->_:=λi hi=>vd (c:=u.c) hi hvl
 have hsd:∀i,i<(ay u).length->_:=λi hi=>sn (vs:=ay u) hi
 have hdl:=xC (ay u);have hrl:=yY u.c (ay u);have h0:nw u.c (ay u) 0=u.c.repair:=by simp[nw,uh,bW]
 have h00:iC (ay u) 0=0:=by simp[iC,cc]
 have hcn:=D3 u.c.cache hsk;have hfl:=W6 (λk:Kept=>!k.dirty) u.c.cache;have hfr:=xU (u.c.cache.filter λk=>!k.dirty) (gW u).tree ⟨by have:=hsk.len;omega,λk hk=>hsk.each k (W9.1 hk).1⟩ hs2.hist.bH.small;unfold ay at *;unfold gW at *;generalize (bL u.s.tree u.s.next ((u.s.past.length+1:Nat):Int) u.c.log).vs=vs at *;generalize jK u.s u.c.number u.c.log=s2 at *;generalize nw u.c vs=R at *;generalize iC vs=D at *;clear hbU hdn;unfold ZQ at htk;unfold I6 qU D7 bq;refine ZF tK (Tryz.func32) rfl (λC=>?_);simp only[Tryz.ntmps32,Tryz.results32,go_sem];refine wG tK ?_;refine ZW ZM ?_;refine ZS rfl ?_;refine sN tK 14 ?_;refine sC Tryz.func72 (hf:=(htk)) (hk:=?_);refine sN tK 3 ?_;refine sW tK ?_;refine sT tK ?_;refine sG tK ?_;refine sE ?_;refine wKd ?_
 try simp only[go_sem,gA,gB,gC]
 refine ah (Av 901 59 19 z6 z7 z7 z6 Qb Qb rfl z7 QT QT) ?_;refine wG tK ?_;refine ZL (λi:Nat=>i≤vs.length) (λi=>vs.length-i) (λi=>(2,.int .i64 (D i:Nat))::(3,.int .i64 ((i-D i:Nat):Int))::(6,.any)::(7,.any)::(32,.int .i64 i)::u0 33 31 [])
  (λi=>[(19,.cells 80 13 [qU u false 59 (R i).length]),(59,.cells 116 9 ((R i).map ZR))]) 0 z8 ?_ λi hi=>?_
 ·rw[h00,h0];unfold qU;simp only[go_sem];exact ZU w3 w3 w3
 unfold qU;simp only[go_sem];refine wG tK ?_;refine wD (λh=>?_) (λh=>?_)
 ·have hlt:i<vs.length:=by simp at h;omega
  have hlt2:i<u.c.log.length:=by omega
  have hg:(vs.map ZV).getD i []=ZV (vs.getD i default):=Fam.getD hlt;have hgl:(u.c.log.map ZR).getD i []=ZR (u.c.log.getD i default):=Fam.getD hlt2;have hs1:=hst i hlt;have hs3:=hsd i hlt;have hl1:=hdl i z8;have hl2:=hrl i;have how':=wi1 (i:=i) z8;have hwd:IntKind.i64.wrap ((D i:Int)+1)=((D i+1:Nat):Int):=by rw[Eng.wrap_small z8 z8];rfl
  have hwr:IntKind.i64.wrap (((i-D i:Nat):Int)+1)=((i-D i+1:Nat):Int):=by rw[Eng.wrap_small z8 z8];rfl
  have hsub1:i+1-(D i+1)=i-D i:=by omega
  have hsub2:i+1-D i=i-D i+1:=by omega
  generalize u.c.log.getD i default=r at *;generalize vs.getD i default=v at *;generalize R i=Q at *;have htq:List.take Q.length (Q.map ZR)=Q.map ZR:=Wy y8;refine wR ?_;refine wNq tK 6 ?_ ?_ z6 z6 (by simp only[go_sem,hg,ZV];try exact rfl)
  ·simp[hg,ZV,hlt]
  refine wG tK ?_
  by_cases he:v.err=0
  ·rw[if_pos he] at hs1 hs3;refine wDT (hb:=QS) (hk:=?_);refine wG tK ?_ (by simp only[go_sem,hwd,how'];try exact rfl) (by simp[go_sem,hwd,how']);refine ZB ⟨i+1,by omega,by omega,ZU ?_ ?_ ?_⟩
   ·simp[go_sem,hs3,hsub1]
   ·simp[go_sem,hs1,qU]
   ·simp[go_sem]
  ·rw[if_neg he] at hs1 hs3;refine wDF (hb:=QS) (hk:=?_);refine wG tK ?_ Zu (by simp[go_sem,hwr]);refine ZW ZM ?_;refine jy 0 [1,2,3,4,5,6,7,8,9,10,11,12,13,14,15,16,17,18,19] [0,0,1,2,3,4,5,6,7,8,9,10,11,12,13,14,15,16,17,18] rfl rfl rfl (λ_ _ _ h=>h) w4 w4 x6 z7 ?_
   try simp only[go_sem,gA,gB,gC]
   refine ZS rfl ?_;refine sNq tK 13 ?_ ?_ z6 z6 (by simp only[go_sem,hgl,ZR];try exact rfl)
   ·simp[hgl,ZR,hlt2]
   refine sW tK ?_;refine sE ?_;refine oA (bB 59 19 z6 j6) ?_;simp only[go_sem];refine dSq tK ?_ ?_
   ·simp[go_sem,rowsOf,htq];refine ⟨by omega,λx hx y hy hr=>?_⟩;have:=List.all_eq_true.1 (List.all_eq_true.1 (iM 59 Q) (ZR x) (W5.2 ⟨x,hx,rfl⟩)) y hy;simp only[Yh,List.contains_eq_mem,decide_eq_false_iff_not] at this;exact this hr
   simp only[go_sem];refine dS tK ?_;refine dS tK ?_;refine dS tK ?_;refine dS tK ?_;refine wKd ?_
   try simp only[go_sem,gA,gB,gC]
   refine wG tK ?_ j7 Q3;refine ZB ⟨i+1,by omega,by omega,ZU ?_ ?_ ?_⟩
   ·simp[go_sem,hs3,hsub2,hs1]
   ·simp[go_sem,hs1,qU,htq,ZR]
   ·simp[go_sem]
 ·have e:i=vs.length:=by simp at h;omega
  subst e;clear hst hsd;have hl1:=hdl vs.length (W7 _);generalize hD:D vs.length=d at *;generalize R vs.length=Q at *;have htq:List.take Q.length (Q.map ZR)=Q.map ZR:=Wy y8;refine ZZ 59 rfl (cW _) ?_;simp only[go_sem,htq];refine wG tK ?_;refine ZW ZM ?_;refine ZS rfl ?_;refine sN tK 6 ?_;refine sC Tryz.func73 (hf:=(hcn)) (hk:=?_);refine sN tK 2 ?_;refine sC Tryz.func62 (hf:=(hfr)) (hk:=?_);refine sG tK ?_;refine sE ?_;refine dS tK ?_;refine wKd ?_
  try simp only[go_sem,gA,gB,gC]
  refine wG tK ?_;refine ah (ax 19) ?_;simp only[go_sem];refine wU ?_ ?_
  ·rfl
  ·exact q9
end La
