/- Texts of this claim, part 26: CAct, CWrite, CHoard, CBack. No condition. -/
import Derived.Test.YtmcfbfdonjllaaaGreatDoorZK25
set_option maxRecDepth 10000
set_option maxHeartbeats 4000000
set_option linter.unusedSimpArgs false
set_option linter.unusedVariables false
namespace La
open Go Go.Eng Go.Proofs
variable {Fa:Prop}
theorem SrvOK.wh {k:Nat} {s:Srv} (h:SrvOK k s) (hk:k≤80000000):SmallP s.past:=⟨by have:=h.len;omega,λp hp=>by
 obtain ⟨st,_,_,h3⟩:=h.hist.st;obtain ⟨i,hi⟩:=Z1 hp;have hil:=(Zu.1 hi).1;have:=(h3 i hil).2.1.data
 rwa [show s.past.getD i default=p by rw[Zo,hi];rfl] at this⟩
theorem Br {B T:Nat} (u:U) (h:UInvF Fa B T u) (hB:B≤40000000) (haw:u.c.away=false) (a:Act) (ha:ActS a) (seen:Int) (G Y N:Nat->Nat):ae Tryz.prog 74 [.ptr 900 13 0 0,.agg (ZA a),.int .i64 seen] (cuH u G Y N)
  (λr H=>r=.int .i64 (fM u a).e/\Holds (cuH (fM u a).u G Y N) H):=by
 have hpl:=h.srv.wh z7;have hdo:=G5 u.s u.c.number a h.srv.hist.bW hpl ha.fit (by have:=h.srv.next;omega);have hW0:fM u a=if doE u.s a=0 then ⟨0,⟨qj u.c (doS u.s u.c.number a).tree,doS u.s u.c.number a⟩⟩ else ⟨doE u.s a,u⟩:=rfl;have hst:=λhe=>h.srv.step u.c.number ha.fit (a:=a) he
 have hsk:=h.uk;unfold doR at hdo;generalize fM u a=wF at *;generalize doS u.s u.c.number a=s2 at *;unfold ZA at hdo;unfold ZQ at hdo;unfold cuH cg ZA;refine ZF tK (Tryz.func74) rfl (λC=>?_);simp only[Tryz.ntmps74,Tryz.results74,go_sem];refine wG tK ?_;refine wDT (hb:=(by simp[haw])) (hk:=?_);refine wG tK ?_
 by_cases he:doE u.s a=0
 ·rw[if_pos he] at hdo hW0;have hs2:=hst he;have hfr:=qm u.c.cache s2.tree hsk hs2.hist.bW.small;refine ZW ZM ?_;refine ZS rfl ?_;refine sN tK 10 ?_;refine sC Tryz.func107 (hf:=(hdo)) (hk:=?_);refine sN tK 3 ?_;refine sW tK ?_;refine sT tK ?_;refine sG tK ?_;refine sE ?_;refine wKd ?_
  try simp only[go_sem,gA,gB,gC]
  refine wG tK ?_;refine wDF (hb:=(rfl)) (hk:=?_);refine wG tK ?_;refine ZW ZM ?_;refine ZS rfl ?_;refine sN tK 8 ?_;refine sC Tryz.func43 (hf:=(hfr)) (hk:=?_);refine sG tK ?_;refine sE ?_;refine dS tK ?_;refine wKd ?_
  try simp only[go_sem,gA,gB,gC]
  refine wG tK ?_;refine wU ?_ ?_
  ·rw[hW0]
  ·rw[hW0];simp only[pins,List.cons_append,List.nil_append,List.map_cons,List.map_nil]
   repeat' refine ZH ?_ ?_
   all_goals first | exact YH _ | rfl | simp[go_sem]
 ·rw[if_neg he] at hdo hW0;refine ZW ZM ?_;refine ZS rfl ?_;refine sN tK 10 ?_;refine sC Tryz.func107 (hf:=(hdo)) (hk:=?_);refine sN tK 3 ?_;refine sW tK ?_;refine sT tK ?_;refine sG tK ?_;refine sE ?_;refine wKd ?_
  try simp only[go_sem,gA,gB,gC]
  refine wG tK ?_;refine wDT (hb:=QG) (hk:=?_);refine wG tK ?_;refine wU ?_ ?_
  ·rw[hW0]
  ·rw[hW0];simp only[pins,List.cons_append,List.nil_append,List.map_cons,List.map_nil]
   repeat' refine ZH ?_ ?_
   all_goals first | exact YH _ | rfl | simp[go_sem]
theorem rX (u:U) (b:Act) (f:Int) (G Y N:Nat->Nat):ae Tryz.prog 111 [.ptr 900 13 0 0,.rp (ZA b) 0,.int .i64 f] (cuH u G Y N) (λr H=>r=.bool (b.kind==3&&b.fid==f)/\Holds (cuH u G Y N) H):=by
 unfold ZA cuH;refine ZF tK (Tryz.func111) rfl (λC=>?_);simp only[Tryz.ntmps111,Tryz.results111,go_sem];refine wR ?_;refine wN tK 1 ?_;refine wR ?_;refine wN tK 6 ?_;refine aV 12 z6 (λc12 h12=>?_);simp only[go_sem];cases c12 with
 | true=>
  refine wG tK ?_;refine wU ?_ ?_
  ·rw[h12];simp
  ·exact q9
 | false=>
  refine wG tK ?_;refine wU ?_ ?_
  ·rw[h12];simp
  ·exact q9
theorem yK (L:List Node) (hL:Small L) (k:Kept):ae Tryz.prog 113 [.agg (ZK k),.rp [.sl (L.map ZN)] 0] [] (λr _=>r=.bool (!bn L k.node.fid)):=by
 unfold ZK;refine ZF tK (Tryz.func113) rfl (λC=>?_);simp only[Tryz.ntmps113,Tryz.results113,go_sem];refine wG tK ?_;have hf:=cA L k.node.fid hL;unfold eu at hf;refine wC Tryz.func82 (hf:=(hf)) (hk:=?_);refine wGq tK ?_ ?_ w3
 ·simp[ZN]
 refine wT ?_;rfl
theorem pe (l:List Kept) (hlen:l.length≤100000000) {f:FuncId} {caps:List AV} {p:Kept->Bool} (hcal:ax Tryz.prog f) (hpure:(caps.all AV.aX)=true)
  (hf:∀x,x∈l->ae Tryz.prog f (.agg (ZK x)::caps) [] (λr _=>r=.bool (p x))) (hno:∀x,x∈l->p x=false) :
  ae Tryz.prog 80 [.sl (l.map ZK),.fn f caps] [] (λr _=>r=.sl (l.map ZK)):=by
 have hcaps:=br hpure;obtain ⟨q,hv,hq⟩:=ej hpure;have hix:=gr l hlen hcal hpure hf;have hn:l.findIdx? p=none:=Z6.2 λx hx=>by simp[hno x hx]
 rw[hn] at hix;refine ZF tK (Tryz.func80) rfl (λC=>?_);simp only[Tryz.ntmps80,Tryz.results80,go_sem];refine wG tK ?_;refine cM rfl rfl z8 w1 ⟨_,Tryz.func119,by kernel_rfl,rfl⟩ k9 (hix) w1 z6 ?_;refine wG tK ?_;refine wD (λh=>?_) (λh=>?_)
 ·refine wG tK ?_;refine wT ?_;rfl
 ·simp[cf] at h
theorem mC {l L:List Kept} {room:Int} {k:Kept} (h:eK l room k=some L) (hl:∀x,x∈l->x.node.Small) (hk:k.node.Small):∀x,x∈L->x.node.Small:=by
 unfold eK at h;cases e:dN l k.node.fid with
 | some i=>
  rw[e] at h;injection h with h
  subst h;intro x hx
  rcases WU hx with hx | rfl
  ·exact hl x hx
  ·exact hk
 | none=>
  rw[e] at h;obtain ⟨L0,h0,rfl⟩:=WG.1 h;intro x hx
  rcases List.mem_append.1 hx with hx | hx
  ·exact hl x ((fY _ _ _ h0).subset hx)
  ·rw[List.mem_singleton.1 hx];exact hk
theorem qA {l L:List Kept} {room:Int} {k:Kept} (h:eK l room k=some L):L.length≤l.length+1:=by
 unfold eK at h;cases e:dN l k.node.fid with
 | some i=>rw[e] at h;injection h with h;subst h;rw[WD];omega
 | none=>
  rw[e] at h;obtain ⟨L0,h0,rfl⟩:=WG.1 h;have:=(fY _ _ _ h0).length_le;rw[List.length_append,List.length_cons,List.length_nil];omega
theorem Cy (k f n:Int):(k != 3||n != f)=!(k==3&&f==n):=by
 have h:(f==n)=(n==f):=by rw[Bool.eq_iff_iff,beq_iff_eq,beq_iff_eq];exact eq_comm
 rw[h,Bool.not_and];rfl
theorem pQ (W:List Node) (b:Act) (n:Node):bB W b n=!((al W n.fid).isSome&&dM false ((al W n.fid).getD aC) n&&!(b.kind==3&&b.fid==n.fid)):=by
 unfold bB;rw[Cy];cases al W n.fid<;>rfl
theorem D9 {B T:Nat} (u:U) (h:UInvF Fa B T u) (hB:B≤40000000) (haw:u.c.away=true) (a:Act) (ha:ActS a) (seen:Int) (G Y N:Nat->Nat):ae Tryz.prog 74 [.ptr 900 13 0 0,.agg (ZA a),.int .i64 seen] (cuH u G Y N)
  (λr H=>r=.int .i64 (jq u a seen).e/\Holds (cuH (jq u a seen).u G Y N) H):=by
 have hci:=h.cli;have hmd:=hci.made;have hlg:=hci.logged;have hcl:u.c.cache.length≤24:=by have:=hci.len;have:=hci.room;omega
 have hsk:=h.uk;have hgood:=hci.bW;have hri:=hci.ri;have hat:∀k,k∈u.c.cache->bn (cy u.c) k.node.fid=true:=λk hk=>by rw[dd,(ZO (gM u.c)).2 ⟨(dI hci.nod k.node).2 ⟨k,hk,rfl⟩,rfl⟩];rfl
 have hct:ae Tryz.prog 108 [.sl (u.c.cache.map ZK)] [] (λr _=>r=.sl ((cy u.c).map ZN)):=uN u.c.cache hsk (lS hci.nod);have hbs:=CM (c:=u.c) ha;have hap:=iT hgood (fB u.c a) 0 hbs.fit;have hW0:jq u a seen=if aO (cy u.c) (fB u.c a)≠0 then ⟨aO (cy u.c) (fB u.c a),u⟩ else match eV u.c.log ⟨fB u.c a,CN a seen,u.c.logged+1⟩ with
  | none=>⟨5,u⟩
  | some log=>match dC u.c.room u.c.clock (cy u.c) (fB u.c a) (aQ (cy u.c) (fB u.c a) 0) u.c.cache with
   | none=>⟨5,u⟩
   | some l=>⟨0,⟨{ u.c with cache:=l.filter (λk=>bn (aQ (cy u.c) (fB u.c a) 0) k.node.fid),log:=log,logged:=u.c.logged+1,made:=if bd a=true then u.c.made+1 else u.c.made },u.s⟩⟩:=rfl
 have hwm1:IntKind.i64.wrap (u.c.made+1)=u.c.made+1:=Eng.wrap_small z7 z7;have hwm:IntKind.i64.wrap (0-(u.c.made+1))=-1-u.c.made:=by rw[Eng.wrap_small z7 z7];omega
 have hwl1:IntKind.i64.wrap (u.c.logged+1)=u.c.logged+1:=Eng.wrap_small z7 z7;have hmb:(a.kind==1||a.kind==2)=bd a:=by unfold bd;rfl
 generalize jq u a seen=wF at *;generalize hWd:cy u.c=W at *;unfold cuH cg ZA;refine ZF tK (Tryz.func74) rfl (λC=>?_);simp only[Tryz.ntmps74,Tryz.results74,go_sem];refine wG tK ?_;refine wDF (hb:=(by simp[haw])) (hk:=?_);refine wG tK ?_;refine ml (λq:Int×Int=>q.1=(fB u.c a).fid/\q.2=CN a seen) (λq=>(2,.int .i64 q.2)::u0 67 8 [])
  (λq=>[(4,.cells 49 7 [[.int .i64 a.kind,.int .i64 q.1,.int .i64 a.dir,.str a.name,.int .i64 a.to,.str a.toName,.sl (a.data.map ZY)]])]) ?_ λq hq=>?_
 ·refine wD (λh=>?_) (λh=>?_)
  ·have hm:bd a=true:=by unfold bd;revert h;cases (a.kind==1)<;>simp
   refine wG tK ?_ (by simp only[go_sem,hwm1,hwm];try exact rfl) (by simp[go_sem,hwm1,hwm]);refine ZB ⟨(-1-u.c.made,-1),⟨by unfold fB;rw[if_pos hm],by unfold CN;rw[if_pos hm]⟩,ZU ?_ ?_ ?_⟩
   ·simp[go_sem]
   ·simp[go_sem]
   ·simp[go_sem]
  ·have hm:bd a=false:=by unfold bd;revert h;cases (a.kind==1)<;>simp
   refine wG tK ?_;refine ZB ⟨(a.fid,seen),⟨by unfold fB;rw[hm];rfl,by unfold CN;rw[hm];rfl⟩,ZU ?_ ?_ ?_⟩
   ·simp[go_sem]
   ·simp[go_sem]
   ·simp[go_sem]
 obtain ⟨F,V⟩:=q;obtain ⟨hF,hV⟩:=hq;simp only at hF hV;have hbE:(⟨a.kind,F,a.dir,a.name,a.to,a.toName,a.data⟩:Act)=fB u.c a:=by rw[hF];unfold fB;split<;>rfl
 rw[←hV] at hW0;generalize fB u.c a=b at *;clear hF hV;simp only[go_sem];have hrow:ZA b=[.int .i64 a.kind,.int .i64 F,.int .i64 a.dir,.str a.name,.int .i64 a.to,.str a.toName,.sl (a.data.map ZY)]:=by rw[←hbE];rfl
 have hrec:∀v i,ZR ⟨b,v,i⟩=[.int .i64 a.kind,.int .i64 F,.int .i64 a.dir,.str a.name,.int .i64 a.to,.str a.toName,.sl (a.data.map ZY),.int .i64 v,.int .i64 i]:=by intro v i;rw[←hbE];rfl
 clear hbE;have hgl:=λhe=>ja hgood b 0 he
 have hss:=λhe=>@yi W hgood hri b he
 rw[hrow] at hap;unfold ll at hap;generalize aO W b=e0 at *;generalize aQ W b 0=L at *;refine ZZ 4 rfl (rfl) ?_;simp only[go_sem];refine wG tK ?_;refine wC Tryz.func108 (hf:=(hct)) (hk:=?_);refine wG tK ?_
 by_cases hE:e0=0
 ·rw[if_pos hE] at hap;rw[if_neg s6] at hW0;have hgL:=hgl hE;have hss:=hss hE;have hLl:=hgL.len;have hadd:=GX u.c.log ⟨b,V,u.c.logged+1⟩ ⟨by have:=hci.log;omega,λr hr=>by have:=(hci.logS r hr).data;show r.act.data.length≤_;omega⟩ (by have:=hbs.data;show b.data.length≤_;omega);rw[hrec] at hadd;refine wC Tryz.func109 (hf:=(hap)) (hk:=?_);refine wG tK ?_;refine wDF (hb:=(rfl)) (hk:=?_);refine ZZ 11 rfl (rfl) ?_;simp only[go_sem];refine wG tK ?_;refine ZW ZM ?_;refine ZS rfl ?_;refine sN tK 13 ?_ z6 z6 Qe (by simp[go_sem,hwl1]);refine sB tK ?_;cases hlog:eV u.c.log ⟨b,V,u.c.logged+1⟩ with
  | none=>
   rw[hlog] at hadd hW0;simp only[np] at hadd hW0;have hW:=hW0;refine sC Tryz.func110 (hf:=(hadd)) (hk:=?_);refine sG tK ?_;refine sE ?_;refine wKd ?_
   try simp only[go_sem,gA,gB,gC]
   refine wG tK ?_;refine wDT (hb:=(rfl)) (hk:=?_);refine wG tK ?_;refine wU ?_ ?_
   ·rw[hW]
   ·rw[hW];simp only[pins,List.cons_append,List.nil_append,List.map_cons,List.map_nil]
    repeat' refine ZH ?_ ?_
    all_goals first | exact YH _ | rfl | simp[go_sem]
  | some log=>
   rw[hlog] at hadd hW0;simp only[np] at hadd hW0;generalize hKA:dC u.c.room u.c.clock W b L u.c.cache=KA at hW0;refine sC Tryz.func110 (hf:=(hadd)) (hk:=?_);refine sG tK ?_;refine sE ?_;refine wKd ?_
   try simp only[go_sem,gA,gB,gC]
   refine wG tK ?_;refine wDF (hb:=(rfl)) (hk:=?_);refine wG tK ?_;refine ZL (λq:Nat×List Kept×Bool=>q.1≤L.length/\dC u.c.room u.c.clock W b (L.drop q.1) q.2.1=KA/\q.2.1.length≤24+q.1/\(∀x,x∈q.2.1->x.node.Small)/\(q.2.2=false->q.2.1=u.c.cache/\∀n,n∈L.take q.1->bB W b n=false)) (λq=>L.length-q.1)
    (λq=>(12,.any)::(14,match q.2.2 with | true=>.osl 5000 8 0 q.2.1.length | false=>.sl (q.2.1.map ZK))::(16,.any)::(17,.any)::(18,.any)::(118,.int .i64 q.1)::u0 119 49 [])
    (λq=>match q.2.2 with | true=>[(5000,.cells 138 8 (q.2.1.map ZK))] | false=>[]) (0,u.c.cache,false) ⟨Wl _,by rw[List.drop_zero];exact hKA,by simp only;omega,hsk.each,λ_=>⟨rfl,λn hn=>by cases hn⟩⟩ ?_ λq hq=>?_
   ·simp only[go_sem];exact ZU w1 w1 w1
   obtain ⟨i,l,fl⟩:=q;obtain ⟨hi,hka,hll,hsl0,hfl⟩:=hq;simp only at hi hka hll hsl0 hfl;have hsl:SmallK l:=⟨by omega,hsl0⟩;clear hKA;cases fl with
   | false=>
    obtain ⟨hlc,hno⟩:=hfl rfl;simp only[go_sem];refine wG tK ?_;refine wD (λh=>?_) (λh=>?_)
    ·skip
     have hlt:i<L.length:=by simp at h;omega
     have hg:(L.map ZN).getD i []=ZN (L.getD i default):=Fam.getD hlt;have hw1:=wi1 (i:=i) z7;have hnm:=YG hlt;have htk:=ZT hlt;rw[cH hlt,dC] at hka;have hJ:bB W b (L.getD i default)=false->l=u.c.cache/\∀n,n∈L.take (i+1)->bB W b n=false:=λh1=>⟨hlc,λn hn=>by rw[htk] at hn;rcases List.mem_append.1 hn with hn | hn;exact hno n hn;rw[List.mem_singleton.1 hn];exact h1⟩
     generalize L.getD i default=n at *;have hns:=hgL.small.each n hnm;have hkns:(nC W u.c.clock n).node.Small:=⟨hns.data,hns.entries⟩;have hfd0:=cA W n.fid hgood.small;unfold eu at hfd0;rw[dd] at hfd0;have hos:((al W n.fid).getD aC).Small:=hgood.small.find n.fid;have hcb:=pQ W b n;have hdk:nC W u.c.clock n=⟨{ n with version:=((al W n.fid).getD aC).version },true,0,u.c.clock⟩:=rfl;rw[hdk] at hka hkns;clear hdk;generalize (al W n.fid).getD aC=o at *;generalize (al W n.fid).isSome=ok at *;have hfd:ae Tryz.prog 82 [.sl (W.map ZN),.int .i64 n.fid] [] (λr _=>r=.tup [.agg [.int .i64 o.fid,.bool o.dir,.sl (o.data.map ZY),.sl (o.entries.map ZE),.int .i64 o.version],.bool ok]):=hfd0;clear hfd0;have hsm:=gZ [o] [n] (cu hos) (cu hns);rw[show eU false [o] [n]=dM false o n by simp[eU]] at hsm;have hcn:=rX u b n.fid;rw[hrow] at hcn;unfold cuH cg at hcn;simp only[List.map_cons,List.map_nil] at hsm;unfold ZN at hsm;generalize dM false o n=sm at *;generalize (b.kind==3&&b.fid==n.fid)=nb at *;refine wR ?_;refine wNq tK 4 ?_ ?_ z6 z6 QH
     ·simp[hg,ZN,hlt]
     refine wR ?_;refine wN tK 3 ?_;refine wC Tryz.func82 (hf:=(hfd)) (hk:=?_);refine wN tK 6 ?_;refine gm ?_;refine nz ?_;refine nz ?_;refine ml (λj:Bool=>j=!bB W b n) (λj=>(143,.bool j)::u0 129 14 []) (λ_=>[]) ?_ λj hj=>?_
     ·rw[hcb,Bool.not_not];clear hcb;cases ok with
      | false=>
       refine wG tK ?_;refine fj (.bool false) rfl ?_;simp only[go_sem];refine wG tK ?_;refine fj (.bool false) rfl ?_;simp only[go_sem];refine wG tK ?_;refine ZB ⟨false,rfl,ZU ?_ ?_ ?_⟩
       ·simp[go_sem]
       ·simp[go_sem]
       ·simp[go_sem]
      | true=>
       refine wG tK ?_;refine ZZ 132 rfl (rfl) ?_;refine ZZ 134 rfl (rfl) ?_;simp only[go_sem];refine wCC Tryz.func84 (hf:=λhb=>(hsm)) (hk:=?_);refine wN tK 2 ?_;cases sm with
       | false=>
        refine wG tK ?_;refine fj (.bool false) rfl ?_;simp only[go_sem];refine wG tK ?_;refine ZB ⟨false,by simp,ZU ?_ ?_ ?_⟩
        ·simp[go_sem]
        ·simp[go_sem]
        ·simp[go_sem]
       | true=>
        refine wG tK ?_;refine wP [900] Tryz.func111 (hf:=(hcn)) (hk:=?_);refine wG tK ?_;refine ZB ⟨!nb,by simp,ZU ?_ ?_ ?_⟩
        ·simp[go_sem]
        ·simp[go_sem]
        ·simp[go_sem]
     clear hsm hcn hfd;simp only[go_sem];cases hch:bB W b n with
     | false=>
      rw[hch] at hj hka;simp only[Bool.not_false] at hj;subst hj;rw[if_neg Bool.false_ne_true] at hka;refine wDT (hb:=(rfl)) (hk:=?_);refine wG tK ?_ j9 QR;refine ZB ⟨(i+1,l,false),⟨by simp only;omega,hka,by simp only;omega,hsl0,λh0=>hJ hch⟩,by simp only;omega,ZU ?_ ?_ ?_⟩
      ·simp[go_sem]
      ·simp[go_sem]
      ·simp[go_sem]
     | true=>
      rw[hch] at hj hka;simp only[Bool.not_true] at hj;subst hj;rw[if_pos rfl] at hka;refine wDF (hb:=(rfl)) (hk:=?_);refine wG tK ?_
      skip
      refine ZW ZM ?_;refine ZS rfl ?_;refine sN tK 12 ?_;refine sB tK ?_;cases hkk:eK l u.c.room ⟨{ n with version:=o.version },true,0,u.c.clock⟩ with
      | none=>
       have hkn:=tP hsl hkns hkk;rw[hkk] at hka;simp only at hka;rw[←hka] at hW0;have hW:=hW0;refine sC Tryz.func112 (hf:=(hkn)) (hk:=?_);refine sG tK ?_;refine sE ?_;refine wKd ?_
       try simp only[go_sem,gA,gB,gC]
       refine wG tK ?_;refine wDT (hb:=(rfl)) (hk:=?_);refine wG tK ?_;refine wU ?_ ?_
       ·rw[hW]
       ·rw[hW];simp only[pins,List.cons_append,List.nil_append,List.map_cons,List.map_nil]
        repeat' refine ZH ?_ ?_
        all_goals first | exact YH _ | rfl | simp[go_sem]
      | some l2=>
       have hkn:=sD hsl hkns hkk;rw[hkk] at hka;simp only at hka;have hl2:=qA hkk;have hs2:=mC hkk hsl.each hkns;refine ff 4000 rfl rfl z8 w1 ⟨_,Tryz.func112,by kernel_rfl,rfl⟩ w1 (hkn) w1 z8 z8 w1 z6 z6 ?_;refine sG tK ?_;refine sE ?_;refine wKd ?_
       try simp only[go_sem,gA,gB,gC]
       refine wG tK ?_;refine wDF (hb:=(rfl)) (hk:=?_);refine wG tK ?_ j9 QR;refine ZB ⟨(i+1,l2,true),⟨by simp only;omega,hka,by simp only;omega,hs2,λh0=>by cases h0⟩,by simp only;omega,ZU ?_ ?_ ?_⟩
       ·simp[go_sem]
       ·simp[go_sem]
       ·simp[go_sem]
    ·have e:i=L.length:=by simp at h;omega
     subst e;rw[Wm (Zw _),dC] at hka;rw[←hka] at hW0;simp only at hW0;have hfl:l.filter (λk=>bn L k.node.fid)=l:=WV.2 λk hk=>hss (by rw[Zy] at hno;exact hno) (hat k (by rw[←hlc];exact hk))
     rw[hfl] at hW0;have hdl:=pe (p:=λk=>!bn L k.node.fid) l z7 ⟨_,Go.Proofs.Tryz.func113,by kernel_rfl,rfl⟩ (caps:=[.rp [.sl (L.map ZN)] 0]) (by simp[AV.aX]) (λx _=>yK L hgL.small x) (λx hx=>by rw[hss (by rw[Zy] at hno;exact hno) (hat x (by rw[←hlc];exact hx))];rfl);refine wG tK ?_;refine wC Tryz.func80 (hf:=(hdl)) (hk:=?_)
     skip
     refine wG tK ?_ Qe (by simp[go_sem,hwl1]);refine wD (λh=>?_) (λh=>?_)
     ·have hm:bd a=true:=by rw[←hmb];exact h
      rw[if_pos hm] at hW0;refine wG tK ?_ (by simp only[go_sem,hwm1];try exact rfl) (by simp[go_sem,hwm1]);refine wU ?_ ?_
      ·rw[hW0]
      ·rw[hW0];simp only[pins,List.cons_append,List.nil_append,List.map_cons,List.map_nil]
       repeat' refine ZH ?_ ?_
       all_goals first | exact YH _ | rfl | simp[go_sem]
     ·have hm:bd a=false:=by rw[←hmb];exact h
      rw[if_neg (by simp[hm])] at hW0;refine wG tK ?_;refine wU ?_ ?_
      ·rw[hW0]
      ·rw[hW0];simp only[pins,List.cons_append,List.nil_append,List.map_cons,List.map_nil]
       repeat' refine ZH ?_ ?_
       all_goals first | exact YH _ | rfl | simp[go_sem]
   | true=>
    simp only[go_sem];refine wG tK ?_;refine wD (λh=>?_) (λh=>?_)
    ·skip
     have hlt:i<L.length:=by simp at h;omega
     have hg:(L.map ZN).getD i []=ZN (L.getD i default):=Fam.getD hlt;have hw1:=wi1 (i:=i) z7;have hnm:=YG hlt;have htk:=ZT hlt;rw[cH hlt,dC] at hka
     skip
     generalize L.getD i default=n at *;have hns:=hgL.small.each n hnm;have hkns:(nC W u.c.clock n).node.Small:=⟨hns.data,hns.entries⟩;have hfd0:=cA W n.fid hgood.small;unfold eu at hfd0;rw[dd] at hfd0;have hos:((al W n.fid).getD aC).Small:=hgood.small.find n.fid;have hcb:=pQ W b n;have hdk:nC W u.c.clock n=⟨{ n with version:=((al W n.fid).getD aC).version },true,0,u.c.clock⟩:=rfl;rw[hdk] at hka hkns;clear hdk;generalize (al W n.fid).getD aC=o at *;generalize (al W n.fid).isSome=ok at *;have hfd:ae Tryz.prog 82 [.sl (W.map ZN),.int .i64 n.fid] [] (λr _=>r=.tup [.agg [.int .i64 o.fid,.bool o.dir,.sl (o.data.map ZY),.sl (o.entries.map ZE),.int .i64 o.version],.bool ok]):=hfd0;clear hfd0;have hsm:=gZ [o] [n] (cu hos) (cu hns);rw[show eU false [o] [n]=dM false o n by simp[eU]] at hsm;have hcn:=rX u b n.fid;rw[hrow] at hcn;unfold cuH cg at hcn;simp only[List.map_cons,List.map_nil] at hsm;unfold ZN at hsm;generalize dM false o n=sm at *;generalize (b.kind==3&&b.fid==n.fid)=nb at *;refine wR ?_;refine wNq tK 4 ?_ ?_ z6 z6 QH
     ·simp[hg,ZN,hlt]
     refine wR ?_;refine wN tK 3 ?_;refine wC Tryz.func82 (hf:=(hfd)) (hk:=?_);refine wN tK 6 ?_;refine gm ?_;refine nz ?_;refine nz ?_;refine ml (λj:Bool=>j=!bB W b n) (λj=>(143,.bool j)::u0 129 14 []) (λ_=>[]) ?_ λj hj=>?_
     ·rw[hcb,Bool.not_not];clear hcb;cases ok with
      | false=>
       refine wG tK ?_;refine fj (.bool false) rfl ?_;simp only[go_sem];refine wG tK ?_;refine fj (.bool false) rfl ?_;simp only[go_sem];refine wG tK ?_;refine ZB ⟨false,rfl,ZU ?_ ?_ ?_⟩
       ·simp[go_sem]
       ·simp[go_sem]
       ·simp[go_sem]
      | true=>
       refine wG tK ?_;refine ZZ 132 rfl (rfl) ?_;refine ZZ 134 rfl (rfl) ?_;simp only[go_sem];refine wCC Tryz.func84 (hf:=λhb=>(hsm)) (hk:=?_);refine wN tK 2 ?_;cases sm with
       | false=>
        refine wG tK ?_;refine fj (.bool false) rfl ?_;simp only[go_sem];refine wG tK ?_;refine ZB ⟨false,by simp,ZU ?_ ?_ ?_⟩
        ·simp[go_sem]
        ·simp[go_sem]
        ·simp[go_sem]
       | true=>
        refine wG tK ?_;refine wP [900] Tryz.func111 (hf:=(hcn)) (hk:=?_);refine wG tK ?_;refine ZB ⟨!nb,by simp,ZU ?_ ?_ ?_⟩
        ·simp[go_sem]
        ·simp[go_sem]
        ·simp[go_sem]
     clear hsm hcn hfd;simp only[go_sem];cases hch:bB W b n with
     | false=>
      rw[hch] at hj hka;simp only[Bool.not_false] at hj;subst hj;rw[if_neg Bool.false_ne_true] at hka;refine wDT (hb:=(rfl)) (hk:=?_);refine wG tK ?_ j9 QR;refine ZB ⟨(i+1,l,true),⟨by simp only;omega,hka,by simp only;omega,hsl0,λh0=>by cases h0⟩,by simp only;omega,ZU ?_ ?_ ?_⟩
      ·simp[go_sem]
      ·simp[go_sem]
      ·simp[go_sem]
     | true=>
      rw[hch] at hj hka;simp only[Bool.not_true] at hj;subst hj;rw[if_pos rfl] at hka;refine wDF (hb:=(rfl)) (hk:=?_);refine wG tK ?_;refine ZZ 5000 rfl (bR _) ?_;simp only[go_sem,Zt (show (l.map ZK).length≤l.length by simp)];refine ZW ZM ?_;refine ZS rfl ?_;refine sN tK 12 ?_;refine sB tK ?_;cases hkk:eK l u.c.room ⟨{ n with version:=o.version },true,0,u.c.clock⟩ with
      | none=>
       have hkn:=tP hsl hkns hkk;rw[hkk] at hka;simp only at hka;rw[←hka] at hW0;have hW:=hW0;refine sC Tryz.func112 (hf:=(hkn)) (hk:=?_);refine sG tK ?_;refine sE ?_;refine wKd ?_
       try simp only[go_sem,gA,gB,gC]
       refine wG tK ?_;refine wDT (hb:=(rfl)) (hk:=?_);refine wG tK ?_;refine wU ?_ ?_
       ·rw[hW]
       ·rw[hW];simp only[pins,List.cons_append,List.nil_append,List.map_cons,List.map_nil]
        repeat' refine ZH ?_ ?_
        all_goals first | exact YH _ | rfl | simp[go_sem]
      | some l2=>
       have hkn:=sD hsl hkns hkk;rw[hkk] at hka;simp only at hka;have hl2:=qA hkk;have hs2:=mC hkk hsl.each hkns;refine ff 4000 rfl rfl z8 w1 ⟨_,Tryz.func112,by kernel_rfl,rfl⟩ w1 (hkn) w1 z8 z8 w1 z6 z6 ?_;refine sG tK ?_;refine sE ?_;refine wKd ?_
       try simp only[go_sem,gA,gB,gC]
       refine wG tK ?_;refine wDF (hb:=(rfl)) (hk:=?_);refine wG tK ?_ j9 QR;refine ZB ⟨(i+1,l2,true),⟨by simp only;omega,hka,by simp only;omega,hs2,λh0=>by cases h0⟩,by simp only;omega,ZU ?_ ?_ ?_⟩
       ·simp[go_sem]
       ·simp[go_sem]
       ·simp[go_sem]
    ·have e:i=L.length:=by simp at h;omega
     subst e;rw[Wm (Zw _),dC] at hka;rw[←hka] at hW0;simp only at hW0;have hle:=Z5 (λk:Kept=>bn L k.node.fid) l;have hdl:=fI (p:=λk=>!bn L k.node.fid) l hsl.len 5000 ⟨_,Go.Proofs.Tryz.func113,by kernel_rfl,rfl⟩ (caps:=[.rp [.sl (L.map ZN)] 0]) (by simp[AV.aX]) k8 (λx _=>yK L hgL.small x);simp only[Bool.not_not] at hdl;generalize l.filter (λk=>bn L k.node.fid)=d at *;refine wG tK ?_;refine wCG [5000] 100 Tryz.func80 (hf:=(hdl)) (hk:=?_);refine ZZ 5100 rfl QK ?_;simp only[go_sem,fE (show (d.map ZK).length=d.length by simp)]
     skip
     refine wG tK ?_ Qe (by simp[go_sem,hwl1]);refine wD (λh=>?_) (λh=>?_)
     ·have hm:bd a=true:=by rw[←hmb];exact h
      rw[if_pos hm] at hW0;refine wG tK ?_ (by simp only[go_sem,hwm1];try exact rfl) (by simp[go_sem,hwm1]);refine wU ?_ ?_
      ·rw[hW0]
      ·rw[hW0];simp only[pins,List.cons_append,List.nil_append,List.map_cons,List.map_nil]
       repeat' refine ZH ?_ ?_
       all_goals first | exact YH _ | rfl | simp[go_sem]
     ·have hm:bd a=false:=by rw[←hmb];exact h
      rw[if_neg (by simp[hm])] at hW0;refine wG tK ?_;refine wU ?_ ?_
      ·rw[hW0]
      ·rw[hW0];simp only[pins,List.cons_append,List.nil_append,List.map_cons,List.map_nil]
       repeat' refine ZH ?_ ?_
       all_goals first | exact YH _ | rfl | simp[go_sem]
 ·rw[if_neg hE] at hap;rw[if_pos s6] at hW0;have hW:=hW0;refine wC Tryz.func109 (hf:=(hap)) (hk:=?_);refine wG tK ?_;refine wDT (hb:=s6) (hk:=?_);refine wG tK ?_;refine wU ?_ ?_
  ·rw[hW]
  ·rw[hW];simp only[pins,List.cons_append,List.nil_append,List.map_cons,List.map_nil]
   repeat' refine ZH ?_ ?_
   all_goals first | exact YH _ | rfl | simp[go_sem]
variable {Fa:Prop}
theorem nn {B T:Nat} (u:U) (h:UInvF Fa B T u) (hB:B≤40000000) (hT:T≤900000000000) (a:Act) (ha:ActS a) (seen:Int) (G Y N:Nat->Nat):ae Tryz.prog 74 [.ptr 900 13 0 0,.agg (ZA a),.int .i64 seen] (cuH u G Y N)
  (λr H=>r=.int .i64 (b_ u a seen).e/\Holds (cuH (b_ u a seen).u G Y N) H):=by
 unfold b_;cases e:u.c.away with
 | true=>exact D9 u h hB e a ha seen G Y N
 | false=>exact Br u h hB e a ha seen G Y N
theorem pE (u:U) (n:Node) (G Y N:Nat->Nat):ae Tryz.prog 105 [.ptr 900 13 0 0,.rp (ZN n) 0] (cuH u G Y N) (λr H=>r=.int .i64 (eC n)/\Holds (cuH u G Y N) H):=by
 unfold ZN cuH;refine ZF tK (Tryz.func105) rfl (λC=>?_);simp only[Tryz.ntmps105,Tryz.results105,go_sem];refine wG tK ?_;refine wD (λh=>?_) (λh=>?_)
 ·refine wG tK ?_;refine wU ?_ ?_
  ·simp at h;simp[eC,h]
  ·exact q9
 ·refine wG tK ?_;refine wU ?_ ?_
  ·simp at h;unfold eC;rw[if_neg z7]
  ·exact q9
theorem nL {B T:Nat} {u:U} (h:UInvF Fa B T u) {f w:Int} (he:(bz u f w).e=0):(bz u f w).n.fid=f:=by
 unfold bz at he ⊢;cases hn:kj u.c.cache f with
 | some n=>
  obtain ⟨k,_,_,hf⟩:=kQ hn;exact hf
 | none=>
  rw[hn] at he;simp only at he ⊢;split
  ·rename_i ha;rw[if_pos ha] at he;cases he
  ·rename_i ha;rw[if_neg ha] at he;cases hf:al u.s.tree f with
   | none=>rw[hf] at he;cases he
   | some n=>exact ((ZO h.srv.hist.bW.up).1 hf).2
theorem Dn {B T:Nat} (u:U) (h:UInvF Fa B T u) (hB:B≤30000000) (hT:T≤800000000000) (path data:List UInt8) (hp:path.length≤10000000) (G Y N:Nat->Nat):ae Tryz.prog 72 [.ptr 900 13 0 0,.str path,.sl (data.map ZY)] (cuH u G Y N)
  (λr H=>r=.int .i64 (bM u path data).e/\Holds (cuH (bM u path data).u G Y N) H):=by
 have hd:=iK u h z7 z7 path hp;have hdi:=cU h path;have hdn:=nB h path;have hnm:=ch u path;have hW0:bM u path data=if (ak u path).e≠0 then ⟨(ak u path).e,(ak u path).u⟩
  else if data.length>20 then ⟨4,(ak u path).u⟩
  else match bJ (ak u path).n (ak u path).name with
  | some f=>fW (bz (ak u path).u f 0) data
  | none=>if (b_ (ak u path).u (cK (ak u path).n.fid (ak u path).name) (-1)).e≠0 then b_ (ak u path).u (cK (ak u path).n.fid (ak u path).name) (-1)
   else fW (goU (b_ (ak u path).u (cK (ak u path).n.fid (ak u path).name) (-1)).u (ag path).1 0) data:=rfl
 generalize ak u path=d at *;have hent:=iz d.n d.name hdn.small;unfold ZN at hent;unfold cuH at hd;unfold cuH;refine ZF tK (Tryz.func72) rfl (λC=>?_);simp only[Tryz.ntmps72,Tryz.results72,go_sem];refine wG tK ?_;refine wP [900] Tryz.func73 (hf:=(hd)) (hk:=?_);refine wGq tK ?_ ?_ w3
 ·simp[ZN]
 by_cases hde:d.e=0
 ·rw[if_neg p9] at hW0;refine wDF (hb:=p9) (hk:=?_);refine wG tK ?_
  by_cases hdl:data.length>20
  ·rw[if_pos hdl] at hW0;have hW:=hW0;refine wDT (hb:=y9) (hk:=?_);refine wG tK ?_;refine wU ?_ ?_
   ·rw[hW]
   ·rw[hW];simp only[pins,List.cons_append,List.nil_append,List.map_cons,List.map_nil]
    repeat' refine ZH ?_ ?_
    all_goals first | exact YH _ | rfl | simp[go_sem]
  ·rw[if_neg hdl] at hW0;refine wDF (hb:=y9) (hk:=?_);refine wG tK ?_;cases hen:bJ d.n d.name with
   | some f=>
    rw[hen] at hent hW0;simp only[dp] at hent;simp only at hent hW0;have hg:=jW d.u hdi z7 z7 f 0;have hgi:=cn hdi f 0;have hgf:=@nL Fa B (T+42) d.u hdi f 0;unfold cuH o_ at hg;generalize bz d.u f 0=g at hg hgi hW0 hgf;refine wC Tryz.func104 (hf:=(hent)) (hk:=?_);refine wG tK ?_;refine wDF (hb:=(rfl)) (hk:=?_);refine wG tK ?_;refine wP [900] Tryz.func106 (hf:=(hg)) (hk:=?_);refine wGq tK ?_ ?_ w3
    ·simp[ZN]
    by_cases hge:g.e=0
    ·have hgf:=hgf hge;have hW:bM u path data=b_ g.u (dv g.n.fid data) (eC g.n):=by rw[hW0];unfold fW;rw[if_neg p6]
     have hact:=nn g.u hgi z7 z7 (dv g.n.fid data) ⟨by simp[dv],by simp[dv],by show data.length≤20;omega⟩ (eC g.n);have hse:=pE g.u g.n;unfold cuH at hact hse;unfold ZN at hse;simp only[ZA,dv] at hact;rw[hW];simp only[dv];generalize b_ g.u ⟨3,g.n.fid,0,[],0,[],data⟩ (eC g.n)=x at *;rw[hgf] at hact;refine wDF (hb:=p6) (hk:=?_);refine ZZ 17 rfl (rfl) ?_;simp only[go_sem];refine wR ?_;refine wN tK 5 ?_;refine wP [900] Tryz.func105 (hf:=(hse)) (hk:=?_);refine wN tK 0 ?_;refine wP [900] Tryz.func74 (hf:=(hact)) (hk:=?_);refine wG tK ?_;refine wU ?_ ?_
     ·rfl
     ·exact q9
    ·have hW:bM u path data=⟨g.e,g.u⟩:=by rw[hW0];unfold fW;rw[if_pos p6]
     refine wDT (hb:=p6) (hk:=?_);refine wG tK ?_;refine wU ?_ ?_
     ·rw[hW]
     ·rw[hW];simp only[pins,List.cons_append,List.nil_append,List.map_cons,List.map_nil]
      repeat' refine ZH ?_ ?_
      all_goals first | exact YH _ | rfl | simp[go_sem]
   | none=>
    rw[hen] at hent hW0;simp only[dp] at hent;simp only at hent hW0;have hms:ActS (cK d.n.fid d.name):=⟨hnm,by simp[cK],by simp[cK]⟩;have hmk:=nn d.u hdi z7 z7 (cK d.n.fid d.name) hms (-1);have hmi:=iS hdi hms (-1);generalize b_ d.u (cK d.n.fid d.name) (-1)=x at hmk hmi hW0;unfold cuH ZA at hmk;simp only[cK,List.map_nil] at hmk;have hmk2:∀G Y N:Nat->Nat,ae Tryz.prog 74 [.ptr 900 13 0 0,.agg [.int .i64 1,.int .i64 0,.int .i64 d.n.fid,.str d.name,.int .i64 0,.str [],.nils],.int .i64 (-1)] _ _:=λG Y N=>ae.nrm rfl (hmk G Y N)
    refine wC Tryz.func104 (hf:=(hent)) (hk:=?_);refine wG tK ?_;refine wDT (hb:=(rfl)) (hk:=?_);refine wG tK ?_;refine wP [900] Tryz.func74 (hf:=(hmk2)) (hk:=?_);refine wG tK ?_
    by_cases hxe:x.e=0
    ·rw[if_neg (by simp[hxe])] at hW0;have hsp:=kB path z7;have hsl:=cP path;unfold fh at hsp;generalize ag path=S at *;obtain ⟨L,E⟩:=S;obtain ⟨hll,hlx⟩:=hsl;simp only at hW0 hll hlx hsp;have hg:=tw x.u hmi z7 z7 L z7 (λy hy=>by have:=(hlx y hy).1;omega) 0;have hgi:=kJ hmi L 0;unfold cuH o_ at hg;generalize goU x.u L 0=g at *;refine wDF (hb:=(by simp[hxe])) (hk:=?_);refine wG tK ?_;refine wC Tryz.func102 (hf:=(hsp)) (hk:=?_);refine wG tK ?_;refine wP [900] Tryz.func103 (hf:=(hg)) (hk:=?_);refine wGq tK ?_ ?_ w3
     ·simp[ZN]
     by_cases hge:g.e=0
     ·have hW:bM u path data=b_ g.u (dv g.n.fid data) (eC g.n):=by rw[hW0];unfold fW;rw[if_neg p6]
      have hact:=nn g.u hgi z7 z7 (dv g.n.fid data) ⟨by simp[dv],by simp[dv],by show data.length≤20;omega⟩ (eC g.n);have hse:=pE g.u g.n;unfold cuH at hact hse;unfold ZN at hse;simp only[ZA,dv] at hact;rw[hW];simp only[dv];generalize b_ g.u ⟨3,g.n.fid,0,[],0,[],data⟩ (eC g.n)=x at *;refine wDF (hb:=p6) (hk:=?_);refine ZZ 15 rfl (rfl) ?_;simp only[go_sem];refine wG tK ?_;refine ZW ZM ?_;refine ZS rfl ?_;refine sN tK 4 ?_;refine sB tK ?_;refine sN tK 1 ?_;refine fe rfl rfl z8 w1 ⟨_,Tryz.func105,by kernel_rfl,rfl⟩ [900] w4 w1 w7 w1 w1 (hse) z6 w5 ?_;refine og rfl rfl z8 w1 ⟨_,Tryz.func74,by kernel_rfl,rfl⟩ [900] w4 w1 w7 w1 w1 w1 (hact) z6 w5 ?_;refine sG tK ?_;refine sE ?_;refine wKd ?_
      try simp only[go_sem,gA,gB,gC]
      refine wG tK ?_;refine wU ?_ ?_
      ·rfl
      ·exact q9
     ·have hW:bM u path data=⟨g.e,g.u⟩:=by rw[hW0];unfold fW;rw[if_pos p6]
      refine wDT (hb:=p6) (hk:=?_);refine wG tK ?_;refine wU ?_ ?_
      ·rw[hW]
      ·rw[hW];simp only[pins,List.cons_append,List.nil_append,List.map_cons,List.map_nil]
       repeat' refine ZH ?_ ?_
       all_goals first | exact YH _ | rfl | simp[go_sem]
    ·rw[if_pos (by simp[hxe])] at hW0;have hW:=hW0;refine wDT (hb:=(by simp[hxe])) (hk:=?_);refine wG tK ?_;refine wU ?_ ?_
     ·rw[hW]
     ·rw[hW];simp only[pins,List.cons_append,List.nil_append,List.map_cons,List.map_nil]
      repeat' refine ZH ?_ ?_
      all_goals first | exact YH _ | rfl | simp[go_sem]
 ·rw[if_pos p9] at hW0;have hW:=hW0;refine wDT (hb:=p9) (hk:=?_);refine wG tK ?_;refine wU ?_ ?_
  ·rw[hW]
  ·rw[hW];simp only[pins,List.cons_append,List.nil_append,List.map_cons,List.map_nil]
   repeat' refine ZH ?_ ?_
   all_goals first | exact YH _ | rfl | simp[go_sem]
theorem yb {B T:Nat} (u:U) (h:UInvF Fa B T u) (hB:B≤30000000) (hT:T≤800000000000) (path:List UInt8) (hp:path.length≤10000000) (G Y N:Nat->Nat):ae Tryz.prog 75 [.ptr 900 13 0 0,.str path] (cuH u G Y N)
  (λr H=>r=.int .i64 (bH u path).e/\Holds (cuH (bH u path).u G Y N) H):=by
 have hd:=iK u h z7 z7 path hp;have hdi:=cU h path;have hdn:=nB h path;have hnm:=ch u path;have hE:(atU u path).e≠0->bH u path=⟨(atU u path).e,(atU u path).u⟩:=λh=>by unfold bH;rw[if_pos h]
 have hS:(atU u path).e=0->bH u path=b_ (atU u path).u (dZ (atU u path).n.fid (atU u path).d (atU u path).name) (eC (atU u path).n):=λh=>by unfold bH;rw[if_neg (by simp[h])]
 have hA:atU u path=if (ak u path).e≠0 then ⟨0,[],aC,(ak u path).e,(ak u path).u⟩
  else match bJ (ak u path).n (ak u path).name with
  | none=>⟨0,[],aC,6,(ak u path).u⟩
  | some f=>⟨(ak u path).n.fid,(ak u path).name,(bz (ak u path).u f 0).n,(bz (ak u path).u f 0).e,(bz (ak u path).u f 0).u⟩:=rfl
 generalize bH u path=w at *;generalize ak u path=d at *;generalize atU u path=p at *;have hent:=iz d.n d.name hdn.small;unfold ZN at hent;unfold cuH at hd;unfold cuH;refine ZF tK (Tryz.func75) rfl (λC=>?_);simp only[Tryz.ntmps75,Tryz.results75,go_sem];refine wG tK ?_;refine wP [900] Tryz.func73 (hf:=(hd)) (hk:=?_);refine wGq tK ?_ ?_ w3
 ·simp[ZN]
 by_cases hde:d.e=0
 ·rw[if_neg p9] at hA;refine wDF (hb:=p9) (hk:=?_);refine wG tK ?_;cases hen:bJ d.n d.name with
  | none=>
   rw[hen] at hent hA;simp only[dp] at hent;simp only at hent hA;have hW:=hE (by rw[hA];simp);rw[hA] at hW;refine wC Tryz.func104 (hf:=(hent)) (hk:=?_);refine wG tK ?_;refine wDT (hb:=(rfl)) (hk:=?_);refine wG tK ?_;refine wU ?_ ?_
   ·rw[hW]
   ·rw[hW];simp only[pins,List.cons_append,List.nil_append,List.map_cons,List.map_nil]
    repeat' refine ZH ?_ ?_
    all_goals first | exact YH _ | rfl | simp[go_sem]
  | some f=>
   rw[hen] at hent hA;simp only[dp] at hent;simp only at hent hA;have hg:=jW d.u hdi z7 z7 f 0;have hgi:=cn hdi f 0;have hgf:=@nL Fa B (T+42) d.u hdi f 0;unfold cuH o_ at hg;generalize bz d.u f 0=g at hg hgi hA hgf;refine wC Tryz.func104 (hf:=(hent)) (hk:=?_);refine wG tK ?_;refine wDF (hb:=(rfl)) (hk:=?_);refine wG tK ?_;refine wP [900] Tryz.func106 (hf:=(hg)) (hk:=?_);refine wGq tK ?_ ?_ w3
   ·simp[ZN]
   by_cases hge:g.e=0
   ·have hgf:=hgf hge;rw[hA] at hS;refine wDF (hb:=p6) (hk:=?_)
    skip
    have hW:=hS hge;simp only[dZ,hgf] at hW;have hact:=nn g.u hgi z7 z7 (dZ f d.n.fid d.name) ⟨hnm,by simp[dZ],by simp[dZ]⟩ (eC g.n);have hse:=pE g.u g.n;unfold cuH at hact hse;simp only[ZA,dZ,List.map_nil] at hact;unfold ZN at hse;rw[hW];generalize b_ g.u ⟨4,f,d.n.fid,d.name,0,[],[]⟩ (eC g.n)=x at *;have hact2:∀G Y N:Nat->Nat,ae Tryz.prog 74 [.ptr 900 13 0 0,.agg [.int .i64 4,.int .i64 f,.int .i64 d.n.fid,.str d.name,.int .i64 0,.str [],.nils],.int .i64 (eC g.n)] _ _:=λG Y N=>ae.nrm rfl (hact G Y N)
    refine ZZ 10 rfl (rfl) ?_;simp only[go_sem];refine wG tK ?_;refine ZW ZM ?_;refine ZS rfl ?_;refine sN tK 5 ?_;refine sB tK ?_;refine sN tK 1 ?_;refine fe rfl rfl z8 w1 ⟨_,Tryz.func105,by kernel_rfl,rfl⟩ [900] w4 w1 w7 w1 w1 (hse) z6 w5 ?_;refine og rfl rfl z8 w1 ⟨_,Tryz.func74,by kernel_rfl,rfl⟩ [900] w4 w1 w7 w1 w1 w1 (hact2) z6 w5 ?_;refine sG tK ?_;refine sE ?_;refine wKd ?_
    try simp only[go_sem,gA,gB,gC]
    refine wG tK ?_;refine wU ?_ ?_
    ·rfl
    ·exact q9
   ·have hW:=hE (by rw[hA];exact hge);rw[hA] at hW;refine wDT (hb:=p6) (hk:=?_);refine wG tK ?_;refine wU ?_ ?_
    ·rw[hW]
    ·rw[hW];simp only[pins,List.cons_append,List.nil_append,List.map_cons,List.map_nil]
     repeat' refine ZH ?_ ?_
     all_goals first | exact YH _ | rfl | simp[go_sem]
 ·rw[if_pos p9] at hA;have hW:=hE (by rw[hA];exact hde);rw[hA] at hW;refine wDT (hb:=p9) (hk:=?_);refine wG tK ?_;refine wU ?_ ?_
  ·rw[hW]
  ·rw[hW];simp only[pins,List.cons_append,List.nil_append,List.map_cons,List.map_nil]
   repeat' refine ZH ?_ ?_
   all_goals first | exact YH _ | rfl | simp[go_sem]
theorem E0 {B T:Nat} (u:U) (h:UInvF Fa B T u) (hB:B≤30000000) (hT:T≤800000000000) (path to:List UInt8) (hp:path.length≤10000000) (hto:to.length≤10000000) (G Y N:Nat->Nat):ae Tryz.prog 76 [.ptr 900 13 0 0,.str path,.str to] (cuH u G Y N)
  (λr H=>r=.int .i64 (dm u path to).e/\Holds (cuH (dm u path to).u G Y N) H):=by
 have hd:=iK u h z7 z7 path hp;have hdi:=cU h path;have hdn:=nB h path;have hnm:=ch u path;have hE:(atU u path).e≠0->dm u path to=⟨(atU u path).e,(atU u path).u⟩:=λh=>by unfold dm;rw[if_pos h]
 have hM1:(atU u path).e=0->(ak (atU u path).u to).e≠0->dm u path to=⟨(ak (atU u path).u to).e,(ak (atU u path).u to).u⟩:=λh h2=>by unfold dm;rw[if_neg (by simp[h]),if_pos h2]
 have hM2:(atU u path).e=0->(ak (atU u path).u to).e=0->dm u path to=b_ (ak (atU u path).u to).u (fX (atU u path).n.fid (atU u path).d (atU u path).name (ak (atU u path).u to).n.fid (ak (atU u path).u to).name) (eC (atU u path).n):=λh h2=>by
  unfold dm;rw[if_neg (by simp[h]),if_neg (by simp[h2])]
 have hS:=hM1;have hA:atU u path=if (ak u path).e≠0 then ⟨0,[],aC,(ak u path).e,(ak u path).u⟩
  else match bJ (ak u path).n (ak u path).name with
  | none=>⟨0,[],aC,6,(ak u path).u⟩
  | some f=>⟨(ak u path).n.fid,(ak u path).name,(bz (ak u path).u f 0).n,(bz (ak u path).u f 0).e,(bz (ak u path).u f 0).u⟩:=rfl
 generalize dm u path to=w at *;generalize ak u path=d at *;generalize atU u path=p at *;have hent:=iz d.n d.name hdn.small;unfold ZN at hent;unfold cuH at hd;unfold cuH;refine ZF tK (Tryz.func76) rfl (λC=>?_);simp only[Tryz.ntmps76,Tryz.results76,go_sem];refine wG tK ?_;refine wP [900] Tryz.func73 (hf:=(hd)) (hk:=?_);refine wGq tK ?_ ?_ w3
 ·simp[ZN]
 by_cases hde:d.e=0
 ·rw[if_neg p9] at hA;refine wDF (hb:=p9) (hk:=?_);refine wG tK ?_;cases hen:bJ d.n d.name with
  | none=>
   rw[hen] at hent hA;simp only[dp] at hent;simp only at hent hA;have hW:=hE (by rw[hA];simp);rw[hA] at hW;refine wC Tryz.func104 (hf:=(hent)) (hk:=?_);refine wG tK ?_;refine wDT (hb:=(rfl)) (hk:=?_);refine wG tK ?_;refine wU ?_ ?_
   ·rw[hW]
   ·rw[hW];simp only[pins,List.cons_append,List.nil_append,List.map_cons,List.map_nil]
    repeat' refine ZH ?_ ?_
    all_goals first | exact YH _ | rfl | simp[go_sem]
  | some f=>
   rw[hen] at hent hA;simp only[dp] at hent;simp only at hent hA;have hg:=jW d.u hdi z7 z7 f 0;have hgi:=cn hdi f 0;have hgf:=@nL Fa B (T+42) d.u hdi f 0;unfold cuH o_ at hg;generalize bz d.u f 0=g at hg hgi hA hgf;refine wC Tryz.func104 (hf:=(hent)) (hk:=?_);refine wG tK ?_;refine wDF (hb:=(rfl)) (hk:=?_);refine wG tK ?_;refine wP [900] Tryz.func106 (hf:=(hg)) (hk:=?_);refine wGq tK ?_ ?_ w3
   ·simp[ZN]
   by_cases hge:g.e=0
   ·have hgf:=hgf hge;rw[hA] at hS;refine wDF (hb:=p6) (hk:=?_)
    skip
    have hd2:=iK g.u hgi z7 z7 to hto;have hd2i:=cU hgi to;have hd2n:=ch g.u to;rw[hA] at hM1 hM2;simp only at hM1 hM2;have hM1:=hM1 hge;have hM2:=hM2 hge;unfold cuH at hd2;generalize ak g.u to=q at *;refine wG tK ?_;refine wP [900] Tryz.func73 (hf:=(hd2)) (hk:=?_);refine wGq tK ?_ ?_ w3
    ·simp[ZN]
    by_cases hqe:q.e=0
    ·have hW:=hM2 hqe;simp only[fX,hgf] at hW;have hact:=nn q.u hd2i z7 z7 (fX f d.n.fid d.name q.n.fid q.name) ⟨hnm,hd2n,by simp[fX]⟩ (eC g.n);have hse:=pE q.u g.n;unfold cuH at hact hse;simp only[ZA,fX,List.map_nil] at hact;unfold ZN at hse;rw[hW];generalize b_ q.u ⟨5,f,d.n.fid,d.name,q.n.fid,q.name,[]⟩ (eC g.n)=x at *;have hact2:∀G Y N:Nat->Nat,ae Tryz.prog 74 [.ptr 900 13 0 0,.agg [.int .i64 5,.int .i64 f,.int .i64 d.n.fid,.str d.name,.int .i64 q.n.fid,.str q.name,.nils],.int .i64 (eC g.n)] _ _:=λG Y N=>ae.nrm rfl (hact G Y N)
     refine wDF (hb:=(by simp[hqe])) (hk:=?_);refine ZZ 12 rfl (rfl) ?_;simp only[go_sem];refine wG tK ?_;refine ZW ZM ?_;refine ZS rfl ?_;refine sN tK 8 ?_;refine sB tK ?_;refine sN tK 1 ?_;refine fe rfl rfl z8 w1 ⟨_,Tryz.func105,by kernel_rfl,rfl⟩ [900] w4 w1 w7 w1 w1 (hse) z6 w5 ?_;refine og rfl rfl z8 w1 ⟨_,Tryz.func74,by kernel_rfl,rfl⟩ [900] w4 w1 w7 w1 w1 w1 (hact2) z6 w5 ?_;refine sG tK ?_;refine sE ?_;refine wKd ?_
     try simp only[go_sem,gA,gB,gC]
     refine wG tK ?_;refine wU ?_ ?_
     ·rfl
     ·exact q9
    ·have hW:=hM1 hqe;refine wDT (hb:=(by simp[hqe])) (hk:=?_);refine wG tK ?_;refine wU ?_ ?_
     ·rw[hW]
     ·rw[hW];simp only[pins,List.cons_append,List.nil_append,List.map_cons,List.map_nil]
      repeat' refine ZH ?_ ?_
      all_goals first | exact YH _ | rfl | simp[go_sem]
   ·have hW:=hE (by rw[hA];exact hge);rw[hA] at hW;refine wDT (hb:=p6) (hk:=?_);refine wG tK ?_;refine wU ?_ ?_
    ·rw[hW]
    ·rw[hW];simp only[pins,List.cons_append,List.nil_append,List.map_cons,List.map_nil]
     repeat' refine ZH ?_ ?_
     all_goals first | exact YH _ | rfl | simp[go_sem]
 ·rw[if_pos p9] at hA;have hW:=hE (by rw[hA];exact hde);rw[hA] at hW;refine wDT (hb:=p9) (hk:=?_);refine wG tK ?_;refine wU ?_ ?_
  ·rw[hW]
  ·rw[hW];simp only[pins,List.cons_append,List.nil_append,List.map_cons,List.map_nil]
   repeat' refine ZH ?_ ?_
   all_goals first | exact YH _ | rfl | simp[go_sem]
variable {Fa:Prop}
theorem Aa (path:List UInt8) (h:Hoard):ae Tryz.prog 116 [.agg (ZJ h),.rp [.str path] 0] [] (λr _=>r=.bool (h.path==path)):=by
 unfold ZJ;refine ZF tK (Tryz.func116) rfl (λC=>?_);simp only[Tryz.ntmps116,Tryz.results116,go_sem];refine wG tK ?_;refine wT ?_;rfl
theorem Ab {B T:Nat} (u:U) (h:UInvF Fa B T u) (path:List UInt8) (hp:path.length≤10000000) (w:Int) (G Y N:Nat->Nat):ae Tryz.prog 78 [.ptr 900 13 0 0,.str path,.int .i64 w] (cuH u G Y N)
  (λr H=>r=.int .i64 (da u path w).e/\Holds (cuH (da u path w).u G Y N) H):=by
 have hsp:=kB path z7;have h6:=h.cli.hoards;have hW0:da u path w=if (ag path).2≠0 then ⟨(ag path).2,u⟩ else if w<0\/w>100 then ⟨3,u⟩
  else if 0<w/\(dc u.c.hoards path).length≥6 then ⟨5,u⟩
  else ⟨0,⟨{ u.c with hoards:=if 0<w then dc u.c.hoards path++[⟨path,w⟩] else dc u.c.hoards path },u.s⟩⟩:=rfl
 have hcl:=k_ u.c.hoards z7;have hdl:=nO (p:=λx=>x.path==path) u.c.hoards z7 1007 ⟨_,Go.Proofs.Tryz.func116,by kernel_rfl,rfl⟩ (caps:=[.rp [.str path] 0]) (by simp[AV.aX]) k8 (λx _=>Aa path x);have hfl:u.c.hoards.filter (λx=>!(x.path==path))=dc u.c.hoards path:=rfl;rw[hfl] at hdl;have hFl:(dc u.c.hoards path).length≤u.c.hoards.length:=Z5 _ _;generalize dc u.c.hoards path=F at *;have htq:List.take F.length (F.map ZJ++List.replicate (u.c.hoards.length-F.length) [AV.str [],AV.int .i64 0])=F.map ZJ:=fE w7;generalize da u path w=wF at *;unfold fh at hsp;generalize ag path=S at *;obtain ⟨L,E⟩:=S;simp only at hW0 hsp;unfold cuH cg;refine ZF tK (Tryz.func78) rfl (λC=>?_);simp only[Tryz.ntmps78,Tryz.results78,go_sem];refine wG tK ?_;refine ZZ 4 rfl (rfl) ?_;simp only[go_sem];refine wC Tryz.func102 (hf:=(hsp)) (hk:=?_);refine wG tK ?_
 by_cases hE:E=0
 ·rw[if_neg s6] at hW0;refine wDF (hb:=s6) (hk:=?_);refine wR ?_;refine wN tK 6 ?_;refine aV 23 z6 (λc23 h23=>?_);simp only[go_sem];have hc:c23=true↔(w<0\/w>100):=by
   rw[←h23];cases e1:decide (w<0)<;>simp at e1<;>simp[e1]<;>omega
  clear h23;refine wG tK ?_
  by_cases hwr:w<0\/w>100
  ·rw[if_pos hwr] at hW0;have hW:=hW0;refine wDT (hb:=(hc.2 hwr)) (hk:=?_);refine wG tK ?_;refine wU ?_ ?_
   ·rw[hW]
   ·rw[hW];simp only[pins,List.cons_append,List.nil_append,List.map_cons,List.map_nil]
    repeat' refine ZH ?_ ?_
    all_goals first | exact YH _ | rfl | simp[go_sem]
  ·rw[if_neg hwr] at hW0;refine wDF (hb:=(by simpa using λh0=>hwr (hc.1 h0))) (hk:=?_);refine wG tK ?_;refine wCG [] 1000 Tryz.func70 (hf:=(hcl)) (hk:=?_);refine wG tK ?_;refine wCG [1007] 100 Tryz.func115 (hf:=(hdl)) (hk:=?_);refine wG tK ?_
   by_cases hw0:0<w
   ·refine wDT (hb:=(by simpa using hw0)) (hk:=?_);refine wG tK ?_
    by_cases hfl:F.length≥6
    ·rw[if_pos ⟨hw0,hfl⟩] at hW0;have hW:=hW0;refine wDT (hb:=y9) (hk:=?_);refine wG tK ?_;refine wU ?_ ?_
     ·rw[hW]
     ·rw[hW];simp only[pins,List.cons_append,List.nil_append,List.map_cons,List.map_nil]
      repeat' refine ZH ?_ ?_
      all_goals first | exact YH _ | rfl | simp[go_sem]
    ·rw[if_neg (λh=>hfl h.2),if_pos hw0] at hW0;have hW:=hW0;refine wDF (hb:=y9) (hk:=?_);refine wR ?_;refine wNq tK 6 ?_ ?_ z6 z6 (by simp only[go_sem,htq];try exact rfl)
     ·simp[htq,refs]
      first | exact ⟨by intro row h;simp at h;subst h;rfl,by omega⟩ | omega
     refine wN tK 1 ?_;refine ZZ 42 rfl (by rw[List.all_append,fo];rfl) ?_;simp only[go_sem];have htq2:List.take (F.length+1) (F.map ZJ++[[AV.str path,AV.int .i64 w]])=(F++[(⟨path,w⟩:Hoard)]).map ZJ:=by rw[Zt w7,List.map_append];rfl
     rw[htq2];refine wG tK ?_;refine wU ?_ ?_
     ·rw[hW]
     ·rw[hW];simp only[pins,List.cons_append,List.nil_append,List.map_cons,List.map_nil]
      repeat' refine ZH ?_ ?_
      all_goals first | exact YH _ | rfl | simp[go_sem]
   ·rw[if_neg (λh=>hw0 h.1),if_neg hw0] at hW0;have hW:=hW0;refine wDF (hb:=(by simpa using hw0)) (hk:=?_);refine ZZ 1107 rfl (by rw[List.all_append,fo,Wr];exact gH _ rfl) ?_;simp only[go_sem,htq];refine wG tK ?_;refine wU ?_ ?_
    ·rw[hW]
    ·rw[hW];simp only[pins,List.cons_append,List.nil_append,List.map_cons,List.map_nil]
     repeat' refine ZH ?_ ?_
     all_goals first | exact YH _ | rfl | simp[go_sem]
 ·rw[if_pos s6] at hW0;have hW:=hW0;refine wDT (hb:=s6) (hk:=?_);refine wG tK ?_;refine wU ?_ ?_
  ·rw[hW]
  ·rw[hW];simp only[pins,List.cons_append,List.nil_append,List.map_cons,List.map_nil]
   repeat' refine ZH ?_ ?_
   all_goals first | exact YH _ | rfl | simp[go_sem]
theorem jn {l:List Hoard} {h:Hoard}:∀{n:Nat},h∈bj l n->h∈l
 | 0,hm=>by cases hm
 | n+1,hm=>by
  rw[bj] at hm
  rcases List.mem_append.1 hm with hm | hm
  ·exact (Z0.1 hm).1
  ·exact jn hm
theorem jE (x:Hoard) (l:List Hoard):∀n:Nat,(bj (x::l) n).length=(bj l n).length+if 1≤x.worth/\x.worth≤(n:Int) then 1 else 0
 | 0=>by
  rw[if_neg z7];rfl
 | n+1=>by
  rw[bj,bj,List.length_append,List.length_append,jE x l n,List.filter_cons]
  by_cases h1:x.worth=((n+1:Nat):Int)
  ·rw[if_pos QO,if_neg z7,if_pos z7,List.length_cons];omega
  ·rw[if_neg QO]
   by_cases h2:1≤x.worth/\x.worth≤(n:Int)
   ·rw[if_pos h2,if_pos z7];omega
   ·rw[if_neg h2,if_neg z7];omega
theorem oK:∀(l:List Hoard),(∀h,h∈l->1≤h.worth/\h.worth≤100)->(bj l 100).length=l.length
 | [],_=>by
  cases e:bj ([]:List Hoard) 100 with
  | nil=>rfl
  | cons x r=>
   have:=jn (l:=[]) (h:=x) (n:=100) (by rw[e];simp);cases this
 | x::l,h=>by
  have h1:=h x List.mem_cons_self;rw[jE,if_pos ⟨h1.1,by omega⟩,oK l λy hy=>h y (List.mem_cons_of_mem _ hy)];rfl
theorem yC {B T:Nat} (u:U) (h:UInvF Fa B T u) (ha:u.c.away=true) (G Y N:Nat->Nat):ae Tryz.prog 79 [.ptr 900 13 0 0] (cuH u G Y N)
  (λr H=>r=.tup [.int .i64 0,.int .i64 12]/\Holds (cuH u G Y N) H):=by
 unfold cuH cg;refine ZF tK (Tryz.func79) rfl (λC=>?_);simp only[Tryz.ntmps79,Tryz.results79,go_sem];refine wG tK ?_;refine wDT (hb:=(ha)) (hk:=?_);refine wG tK ?_;refine wU ?_ ?_
 ·rfl
 ·exact q9
theorem yD {B T:Nat} (u:U) (h:UInvF Fa B T u) (ha:u.c.away=false) (hB:B≤30000000) (hT:T≤800000000000) (G Y N:Nat->Nat):ae Tryz.prog 79 [.ptr 900 13 0 0] (cuH u G Y N)
  (λr H=>r=.tup [.int .i64 ((ir u).n:Int),.int .i64 0]/\Holds (cuH (ir u).u G Y N) H):=by
 have h6:=h.cli.hoards;have hhS:=h.cli.hoardS;have hhS':∀x,x∈u.c.hoards->1≤x.worth/\x.worth≤100:=λx hx=>(hhS x hx).worth
 have hV:ir u=(bj u.c.hoards 100).foldl fi ⟨0,u⟩:=rfl;have h0:VI Fa B T u ⟨0,u⟩ 0:=⟨h,Idle.refl u,Zw _⟩;have hcl:=k_ u.c.hoards z7;have hoS:∀x,x∈bj u.c.hoards 100->HoardOK x:=λx hx=>hhS x (jn hx)
 generalize ir u=vF at *;unfold cuH;refine ZF tK (Tryz.func79) rfl (λC=>?_);simp only[Tryz.ntmps79,Tryz.results79,go_sem];refine wG tK ?_ (by simp only[go_sem,cg];try exact rfl) (by simp[go_sem,cg]);refine wDF (hb:=(ha)) (hk:=?_);refine wG tK ?_
 by_cases hne:u.c.hoards=[]
 ·have hO:bj u.c.hoards 100=[]:=by
   cases e:bj u.c.hoards 100 with
   | nil=>rfl
   | cons x r=>
    have:=jn (l:=u.c.hoards) (h:=x) (n:=100) (by rw[e];simp);rw[hne] at this;cases this
  rw[hO,List.foldl_nil] at hV;rw[hne] at hcl ⊢;refine wCG [] 993 Tryz.func70 (hf:=(hcl)) (hk:=?_);refine ZZ 1000 rfl (rfl) ?_;simp only[go_sem];refine wG tK ?_;refine wC Tryz.func117 (hf:=(Ae)) (hk:=?_);refine wG tK ?_;refine ZL (λ_:Unit=>True) (λ_=>0) (λ_=>[]) (λ_=>[]) () trivial ?_ λ_ _=>?_
  ·simp only[go_sem];exact ZU w1 (by simp[go_sem,cg]) w1
  simp only[go_sem];refine wG tK ?_;refine wDF (hb:=k8) (hk:=?_);refine wG tK ?_;rw[hV];refine wU ?_ ?_
  ·rfl
  ·rw[show cg u=_ from rfl];unfold cg;rw[hne];simp only[pins,List.cons_append,List.nil_append,List.map_cons,List.map_nil]
   repeat' refine ZH ?_ ?_
   all_goals first | exact YH _ | rfl | simp[go_sem]
 ·have hst:=Ca u.c.hoards hne z7 hhS';have hOl:(bj u.c.hoards 100).length=u.c.hoards.length:=by
   exact oK _ hhS'
  unfold hoH at hst;generalize hOd:bj u.c.hoards 100=O at *;refine wCG [] 993 Tryz.func70 (hf:=(hcl)) (hk:=?_);refine wG tK ?_;refine bk rfl (cR rfl z8 w1 ⟨_,Tryz.func117,by kernel_rfl,rfl⟩ [1000] w4 w1 w7 Qd w1 w1 (hst) w5) ?_;refine ZZ 1000 rfl (fo _) ?_;simp only[go_sem,Zt (show (O.map ZJ).length≤u.c.hoards.length by simp[hOl]),hOl,Zw,if_true];refine wG tK ?_
  skip
  refine ZL (λq:Nat×GotV=>q.1≤O.length/\vF=(O.drop q.1).foldl fi q.2/\VI Fa B T u q.2 q.1) (λq=>O.length-q.1)
   (λq=>(5,.int .i64 (q.2.n:Int))::(27,.int .i64 (q.1:Int))::u0 7 5 (u0 28 23 [])) (λq=>[(900,.cells 146 13 [cg q.2.u])]) (0,⟨0,u⟩) ⟨Wl _,by rw[List.drop_zero];exact hV,h0⟩ ?_ λq hq=>?_
  ·simp only[go_sem];exact ZU w1 (by simp[go_sem,cg]) w1
  obtain ⟨i,g⟩:=q;obtain ⟨hi,hvf,hvi⟩:=hq;simp only at hi hvf hvi;simp only[go_sem];refine wG tK ?_;refine wD (λh=>?_) (λh=>?_)
  ·have hlt:i<O.length:=by simp at h;omega
   have hg:(O.map ZJ).getD i []=ZJ (O.getD i default):=Fam.getD hlt;have hwi:=wi1 (i:=i) z7;have hok:=hoS _ (YG hlt);rw[cH hlt,List.foldl_cons] at hvf;generalize O.getD i default=x at *;have hst:=hvi.step x;have hsp:=kB x.path (by have:=hok.path;omega);have hsl:=cP x.path;have hvs:fi g x=⟨if (goU g.u (ag x.path).1 x.worth).e=0 then g.n+1 else g.n,(goU g.u (ag x.path).1 x.worth).u⟩:=rfl;have hgo:=tw g.u hvi.inv z7 z7 (ag x.path).1 (by have:=hsl.1;omega) (λy hy=>by have:=(hsl.2 y hy).1;omega) x.worth;rw[hvs] at hvf hst;unfold fh at hsp;unfold cuH o_ at hgo;generalize goU g.u (ag x.path).1 x.worth=q at *;generalize (ag x.path).1=L at *;have hgn:=hvi.n;have hwn:IntKind.i64.wrap ((g.n:Int)+1)=((g.n+1:Nat):Int):=by rw[Eng.wrap_small z7 z7];rfl
   refine wGq tK ?_ ?_ (by simp only[go_sem,hg,ZJ];try exact rfl)
   ·simp[hg,ZJ,hlt]
   refine wC Tryz.func102 (hf:=(hsp)) (hk:=?_);refine wG tK ?_;refine wP [900] Tryz.func103 (hf:=(hgo)) (hk:=?_);refine wGq tK ?_ ?_ w3
   ·simp[ZN]
   by_cases hqe:q.e=0
   ·rw[if_pos hqe] at hvf hst;refine wDT (hb:=(by simp[hqe])) (hk:=?_);refine wG tK ?_ (by simp only[go_sem,hwn,hwi];try exact rfl) (by simp[go_sem,hwn,hwi]);refine ZB ⟨(i+1,⟨g.n+1,q.u⟩),⟨by simp only;omega,hvf,hst⟩,by simp only;omega,ZU ?_ ?_ ?_⟩
    ·simp[go_sem]
    ·simp[go_sem]
    ·simp[go_sem]
   ·rw[if_neg hqe] at hvf hst;refine wDF (hb:=(by simp[hqe])) (hk:=?_);refine wG tK ?_ (by simp only[go_sem,hwi];try exact rfl) (by simp[go_sem,hwi]);refine ZB ⟨(i+1,⟨g.n,q.u⟩),⟨by simp only;omega,hvf,hst⟩,by simp only;omega,ZU ?_ ?_ ?_⟩
    ·simp[go_sem]
    ·simp[go_sem]
    ·simp[go_sem]
  ·have e:i=O.length:=by simp at h;omega
   subst e;rw[List.drop_length,List.foldl_nil] at hvf;refine wG tK ?_;rw[hvf];refine wU ?_ ?_
   ·rfl
   ·exact q9
variable {Fa:Prop}
def oU (u:U) (away:Bool) (id n:Nat):List AV:=[.int .i64 u.c.number,.bool away,.int .i64 u.c.room,.sl (u.c.cache.map ZK),.sl (u.c.log.map ZR),.osl id 9 0 n,.sl (u.c.hoards.map ZJ),.int .i64 u.c.clock,.int .i64 u.c.made,.int .i64 u.c.logged,.sl (u.s.tree.map ZN),.int .i64 u.s.next,.sl (u.s.past.map ZP)]
def G3 (u:U) (G Y N:Nat->Nat):List (Nat×Blk):=[(19,.cells 146 13 [oU u u.c.away 901 u.c.repair.length]),(901,.cells 51 9 (u.c.repair.map ZR))]++pins [19] G Y N
def BF (u:U) (G Y N:Nat->Nat):List (Nat×Blk):=[(19,.cells 146 13 [cg u])]++pins [19] G Y N
theorem Ea {B T:Nat} (u:U) (h:UInvF Fa B T u) (hB:B≤40000000) (G Y N:Nat->Nat):ae Tryz.prog 77 [.ptr 19 13 0 0] (G3 u G Y N)
  (λr H=>r=.tup [.int .i64 (bC (aJ u)),.int .i64 ((aJ u).length-bC (aJ u):Nat)]/\Holds (BF (gR u) G Y N) H):=by
 have hci:=h.cli;have hll:=hci.log;have hfit:∀r,r∈u.c.log->ActFit r.act:=λr hr=>(hci.logS r hr).fit
 have hsl:SmallL u.c.log:=⟨by omega,λr hr=>by have:=(hci.logS r hr).data;show r.act.data.length≤_;omega⟩;have htk:=zE u.s (h.srv.mono z7) u.c.number u.c.log hsl z7 hfit;have hvl:(aJ u).length=u.c.log.length:=(JInv.qz h.srv.hist u.c.number u.s.next u.c.log hfit).vlen;have hs2:=h.srv.take u.c.number hfit;have hrep:=hci.rep;have hsk:=h.uk;have hbU:gR u=⟨{ u.c with away:=false,log:=[],repair:=qU u.c (aJ u) (aJ u).length,cache:=(u.c.cache.filter λk=>!k.dirty).filter λk=>!db (jJ u).tree k },jJ u⟩:=by
  unfold gR qU wq;rw[Zy,hvl,Zy]
 have hdn:bC (aJ u)=jO (aJ u) (aJ u).length:=by unfold jO;rw[Zy]
 rw[hbU,hdn];have hst:∀i,i<(aJ u).length->_:=λi hi=>AH (c:=u.c) hi hvl
 have hsd:∀i,i<(aJ u).length->_:=λi hi=>xx (vs:=aJ u) hi
 have hdl:=BQ (aJ u);have hrl:=CS u.c (aJ u);have h0:qU u.c (aJ u) 0=u.c.repair:=by simp[qU,wq,bs]
 have h00:jO (aJ u) 0=0:=by simp[jO,bC]
 have hcn:=BB u.c.cache hsk;have hfl:=Z5 (λk:Kept=>!k.dirty) u.c.cache;have hfr:=qm (u.c.cache.filter λk=>!k.dirty) (jJ u).tree ⟨by have:=hsk.len;omega,λk hk=>hsk.each k (Z0.1 hk).1⟩ hs2.hist.bW.small;unfold aJ at *;unfold jJ at *;generalize (bX u.s.tree u.s.next ((u.s.past.length+1:Nat):Int) u.c.log).vs=vs at *;generalize kD u.s u.c.number u.c.log=s2 at *;generalize qU u.c vs=R at *;generalize jO vs=D at *;clear hbU hdn;unfold ZQ at htk;unfold G3 oU BF cg;refine ZF tK (Tryz.func77) rfl (λC=>?_);simp only[Tryz.ntmps77,Tryz.results77,go_sem];refine wG tK ?_;refine ZW ZM ?_;refine ZS rfl ?_;refine sN tK 14 ?_;refine sC Tryz.func45 (hf:=(htk)) (hk:=?_);refine sN tK 3 ?_;refine sW tK ?_;refine sT tK ?_;refine sG tK ?_;refine sE ?_;refine wKd ?_
 try simp only[go_sem,gA,gB,gC]
 refine ay (nT 901 59 19 z6 z8 z8 z6 j0 j0 rfl z8 j7 j7) ?_;refine wG tK ?_;refine ZL (λi:Nat=>i≤vs.length) (λi=>vs.length-i) (λi=>(2,.int .i64 (D i:Nat))::(3,.int .i64 ((i-D i:Nat):Int))::(6,.any)::(7,.any)::(32,.int .i64 i)::u0 33 31 [])
  (λi=>[(19,.cells 146 13 [oU u false 59 (R i).length]),(59,.cells 51 9 ((R i).map ZR))]) 0 z7 ?_ λi hi=>?_
 ·rw[h00,h0];unfold oU;simp only[go_sem];exact ZU w1 w1 w1
 unfold oU;simp only[go_sem];refine wG tK ?_;refine wD (λh=>?_) (λh=>?_)
 ·have hlt:i<vs.length:=by simp at h;omega
  have hlt2:i<u.c.log.length:=by omega
  have hg:(vs.map ZV).getD i []=ZV (vs.getD i default):=Fam.getD hlt;have hgl:(u.c.log.map ZR).getD i []=ZR (u.c.log.getD i default):=Fam.getD hlt2;have hs1:=hst i hlt;have hs3:=hsd i hlt;have hl1:=hdl i z7;have hl2:=hrl i;have how':=wi1 (i:=i) z7;have hwd:IntKind.i64.wrap ((D i:Int)+1)=((D i+1:Nat):Int):=by rw[Eng.wrap_small z7 z7];rfl
  have hwr:IntKind.i64.wrap (((i-D i:Nat):Int)+1)=((i-D i+1:Nat):Int):=by rw[Eng.wrap_small z7 z7];rfl
  have hsub1:i+1-(D i+1)=i-D i:=by omega
  have hsub2:i+1-D i=i-D i+1:=by omega
  generalize u.c.log.getD i default=r at *;generalize vs.getD i default=v at *;generalize R i=Q at *;have htq:List.take Q.length (Q.map ZR)=Q.map ZR:=Zt w7;refine wR ?_;refine wNq tK 6 ?_ ?_ z6 z6 (by simp only[go_sem,hg,ZV];try exact rfl)
  ·simp[hg,ZV,hlt]
  refine wG tK ?_
  by_cases he:v.err=0
  ·rw[if_pos he] at hs1 hs3;refine wDT (hb:=QG) (hk:=?_);refine wG tK ?_ (by simp only[go_sem,hwd,how'];try exact rfl) (by simp[go_sem,hwd,how']);refine ZB ⟨i+1,by omega,by omega,ZU ?_ ?_ ?_⟩
   ·simp[go_sem,hs3,hsub1]
   ·simp[go_sem,hs1,oU]
   ·simp[go_sem]
  ·rw[if_neg he] at hs1 hs3;refine wDF (hb:=QG) (hk:=?_);refine wG tK ?_ Qf (by simp[go_sem,hwr]);refine ZW ZM ?_;refine jP 0 [1,2,3,4,5,6,7,8,9,10,11,12,13,14,15,16,17,18,19] [0,0,1,2,3,4,5,6,7,8,9,10,11,12,13,14,15,16,17,18] rfl rfl rfl (λ_ _ _ h=>h) w8 w8 Zg z8 ?_
   try simp only[go_sem,gA,gB,gC]
   refine ZS rfl ?_;refine sNq tK 13 ?_ ?_ z6 z6 (by simp only[go_sem,hgl,ZR];try exact rfl)
   ·simp[hgl,ZR,hlt2]
   refine sW tK ?_;refine sE ?_;refine fT (bK 59 19 z6 k6) ?_;simp only[go_sem];refine dSq tK ?_ ?_
   ·simp[go_sem,rowsOf,htq];refine ⟨by omega,λx hx y hy hr=>?_⟩;have:=List.all_eq_true.1 (List.all_eq_true.1 (ue 59 Q) (ZR x) (Zv.2 ⟨x,hx,rfl⟩)) y hy;simp only[WQ,List.contains_eq_mem,decide_eq_false_iff_not] at this;exact this hr
   simp only[go_sem];refine dS tK ?_;refine dS tK ?_;refine dS tK ?_;refine dS tK ?_;refine wKd ?_
   try simp only[go_sem,gA,gB,gC]
   refine wG tK ?_ y7 j8;refine ZB ⟨i+1,by omega,by omega,ZU ?_ ?_ ?_⟩
   ·simp[go_sem,hs3,hsub2,hs1]
   ·simp[go_sem,hs1,oU,htq,ZR]
   ·simp[go_sem]
 ·have e:i=vs.length:=by simp at h;omega
  subst e;clear hst hsd;have hl1:=hdl vs.length (Zw _);generalize hD:D vs.length=d at *;generalize R vs.length=Q at *;have htq:List.take Q.length (Q.map ZR)=Q.map ZR:=Zt w7;refine ZZ 59 rfl (eA _) ?_;simp only[go_sem,htq];refine wG tK ?_;refine ZW ZM ?_;refine ZS rfl ?_;refine sN tK 6 ?_;refine sC Tryz.func114 (hf:=(hcn)) (hk:=?_);refine sN tK 2 ?_;refine sC Tryz.func43 (hf:=(hfr)) (hk:=?_);refine sG tK ?_;refine sE ?_;refine dS tK ?_;refine wKd ?_
  try simp only[go_sem,gA,gB,gC]
  refine wG tK ?_;refine ay (bl 19) ?_;simp only[go_sem];refine wU ?_ ?_
  ·rfl
  ·exact q9
end La
