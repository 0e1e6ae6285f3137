/- Texts of this claim, part 30: PCAway. No condition. -/
import Derived.Test.YtdcmhdkpfllnlaaGreatDoorYC20
set_option maxRecDepth 10000
set_option maxHeartbeats 4000000
set_option linter.unusedSimpArgs false
set_option linter.unusedVariables false
namespace La
open Go Go.Eng
structure AwG (g g':Got):Prop where
 n:g'.n=g.n
 e:g'.e=g.e
 c:g'.u.c=g.u.c
 away:g.u.c.away=true
theorem rF {u u':U} (hc:u'.c=u.c) (ha:u.c.away=true) (f w:Int):AwG (aU u f w) (aU u' f w):=by
 have ha':=(dJ u f w).away;refine ⟨?_,?_,?_,by rw[ha'];exact ha⟩ <;>
 ·unfold aU;rw[hc];cases aF u.c.cache f with
  | some n=>simp[ck,hc]
  | none=>simp[ha,ck,hc]
theorem Ep (w:Int):∀(l:List (List UInt8)) {g g':Got},AwG g g'->AwG (goR w l g) (goR w l g')
 | [],g,g',h=>by
  unfold goR;rw[h.e];split
  ·exact h
  ·exact ⟨rfl,rfl,h.c,h.away⟩
 | s::r,g,g',h=>by
  unfold goR;rw[h.e,h.n];split
  ·exact ⟨rfl,rfl,h.c,h.away⟩
  ·split
   ·exact ⟨rfl,rfl,h.c,h.away⟩
   ·split
    ·exact ⟨rfl,rfl,h.c,h.away⟩
    ·exact Ep w r (rF h.c h.away _ _)
theorem Aj {u u':U} (hc:u'.c=u.c) (ha:u.c.away=true) (l:List (List UInt8)) (w:Int):AwG (goU u l w) (goU u' l w):=Ep w l (rF hc ha 0 w)
structure AwD (g g':GotD):Prop where
 n:g'.n=g.n
 name:g'.name=g.name
 e:g'.e=g.e
 c:g'.u.c=g.u.c
 away:g.u.c.away=true
theorem rB {u u':U} (hc:u'.c=u.c) (ha:u.c.away=true) (path:List UInt8):AwD (ag u path) (ag u' path):=by
 have h:=Aj hc ha ((ae path).1.take ((ae path).1.length-1)) 0;unfold ag;split
 ·exact ⟨rfl,rfl,rfl,hc,ha⟩
 ·split
  ·exact ⟨rfl,rfl,rfl,hc,ha⟩
  ·exact ⟨h.n,rfl,by show (if _ then _ else _)=(if _ then _ else _);rw[h.e,h.n],h.c,h.away⟩
structure AwE (g g':GotE):Prop where
 e:g'.e=g.e
 c:g'.u.c=g.u.c
 away:g.u.c.away=true
theorem He {u u':U} (hc:u'.c=u.c) (ha:u.c.away=true) (a:Act) (seen:Int):AwE (lO u a seen) (lO u' a seen):=by
 unfold lO;rw[hc];split
 ·exact ⟨rfl,hc,ha⟩
 ·split
  ·exact ⟨rfl,hc,ha⟩
  ·split
   ·exact ⟨rfl,hc,ha⟩
   ·exact ⟨rfl,rfl,ha⟩
theorem kI {u u':U} (hc:u'.c=u.c) (ha:u.c.away=true) (a:Act) (seen:Int):AwE (bQ u a seen) (bQ u' a seen):=by
 unfold bQ;rw[hc,if_pos ha,if_pos ha];exact He hc ha a seen
theorem BZ {g g':Got} (h:AwG g g') (data:List UInt8):AwE (fH g data) (fH g' data):=by
 unfold fH;rw[h.e,h.n];split
 ·exact ⟨rfl,h.c,h.away⟩
 ·exact kI h.c h.away _ _
theorem DJ {u u':U} (hc:u'.c=u.c) (ha:u.c.away=true) (path data:List UInt8):AwE (a_ u path data) (a_ u' path data):=by
 have h:=rB hc ha path;unfold a_;rw[h.e,h.n,h.name];split
 ·exact ⟨rfl,h.c,h.away⟩
 ·split
  ·exact ⟨rfl,h.c,h.away⟩
  ·split
   ·exact BZ (rF h.c h.away _ _) data
   ·have k:=kI h.c h.away (bK (ag u path).n.fid (ag u path).name) (-1);rw[k.e];split
    ·exact k
    ·exact BZ (Aj k.c k.away _ _) data
theorem CP {u u':U} (hc:u'.c=u.c) (ha:u.c.away=true) (path:List UInt8):AwE (eU u path) (eU u' path):=by
 have h:=rB hc ha path;unfold eU;rw[h.e,h.n,h.name];split
 ·exact ⟨rfl,h.c,h.away⟩
 ·exact kI h.c h.away _ _
structure AwP (g g':GotP):Prop where
 d:g'.d=g.d
 name:g'.name=g.name
 n:g'.n=g.n
 e:g'.e=g.e
 c:g'.u.c=g.u.c
 away:g.u.c.away=true
theorem DW {u u':U} (hc:u'.c=u.c) (ha:u.c.away=true) (path:List UInt8):AwP (atU u path) (atU u' path):=by
 have h:=rB hc ha path;unfold atU;rw[h.e,h.n,h.name];split
 ·exact ⟨rfl,rfl,rfl,rfl,h.c,h.away⟩
 ·split
  ·exact ⟨rfl,rfl,rfl,rfl,h.c,h.away⟩
  ·have k:=rF h.c h.away;exact ⟨rfl,rfl,(k _ _).n,(k _ _).e,(k _ _).c,(k _ _).away⟩
theorem AP {u u':U} (hc:u'.c=u.c) (ha:u.c.away=true) (path:List UInt8):AwE (bt u path) (bt u' path):=by
 have h:=DW hc ha path;unfold bt;rw[h.e,h.n,h.name,h.d];split
 ·exact ⟨rfl,h.c,h.away⟩
 ·exact kI h.c h.away _ _
theorem EP {u u':U} (hc:u'.c=u.c) (ha:u.c.away=true) (path to:List UInt8):AwE (cR u path to) (cR u' path to):=by
 have h:=DW hc ha path;have k:=rB h.c h.away to;unfold cR;rw[h.e,h.n,h.name,h.d,k.e,k.n,k.name];split
 ·exact ⟨rfl,h.c,h.away⟩
 ·split
  ·exact ⟨rfl,k.c,k.away⟩
  ·exact kI k.c k.away _ _
theorem Cv {u u':U} (hc:u'.c=u.c) (ha:u.c.away=true) (path:List UInt8) (w:Int):AwE (cY u path w) (cY u' path w):=by
 unfold cY;rw[hc];split
 ·exact ⟨rfl,hc,ha⟩
 ·split
  ·exact ⟨rfl,hc,ha⟩
  ·split
   ·exact ⟨rfl,hc,ha⟩
   ·exact ⟨rfl,rfl,ha⟩
structure AwS (g g':GotS):Prop where
 r:g'.r=g.r
 c:g'.u.c=g.u.c
 away:g.u.c.away=true
theorem zu {u u':U} (hc:u'.c=u.c) (ha:u.c.away=true) (x:Step) (hk:x.kind≠8):AwS (ai u x) (ai u' x):=by
 unfold ai;split
 ·split
  ·exact ⟨rfl,hc,ha⟩
  ·have h:=Aj hc ha (ae x.path).1 0;exact ⟨by unfold fQ;rw[h.e,h.n],h.c,h.away⟩
 ·split
  ·have h:=DJ hc ha x.path x.data;exact ⟨by rw[h.e],h.c,h.away⟩
  ·split
   ·have h:=CP hc ha x.path;exact ⟨by rw[h.e],h.c,h.away⟩
   ·split
    ·have h:=AP hc ha x.path;exact ⟨by rw[h.e],h.c,h.away⟩
    ·split
     ·have h:=EP hc ha x.path x.toPath;exact ⟨by rw[h.e],h.c,h.away⟩
     ·split
      ·exact ⟨rfl,by rw[hc],rfl⟩
      ·split
       ·have h:=Cv hc ha x.path x.n;exact ⟨by rw[h.e],h.c,h.away⟩
       ·split
        ·rw[hc,if_pos ha];exact ⟨rfl,hc,ha⟩
        ·exact ⟨rfl,hc,ha⟩
theorem mw (u:U) (ha:u.c.away=true) (a:Act) (seen:Int):(bQ u a seen).u.s=u.s:=by
 unfold bQ;rw[if_pos ha];exact IK u a seen
theorem yS {g:Got} (ha:g.u.c.away=true) (data:List UInt8):(fH g data).u.s=g.u.s:=by
 unfold fH;split
 ·rfl
 ·exact mw _ ha _ _
theorem BC (u:U) (ha:u.c.away=true) (path data:List UInt8):(a_ u path data).u.s=u.s:=by
 have hd:=fM u path;have hda:(ag u path).u.c.away=true:=by rw[hd.away];exact ha
 unfold a_;split
 ·exact hd.s
 ·split
  ·exact hd.s
  ·split
   ·have h:=dJ (ag u path).u;rw[yS (by rw[(h _ _).away];exact hda),(h _ _).s,hd.s]
   ·have k:=mw _ hda (bK (ag u path).n.fid (ag u path).name) (-1);have ka:=(kI rfl hda (bK (ag u path).n.fid (ag u path).name) (-1)).away;split
    ·rw[k,hd.s]
    ·have h:=kh (bQ (ag u path).u (bK (ag u path).n.fid (ag u path).name) (-1)).u (ae path).1 0;rw[yS (by rw[h.away];exact ka),h.s,k,hd.s]
theorem Dv (u:U) (ha:u.c.away=true) (x:Step) (hk:x.kind≠8):(ai u x).u.s=u.s:=by
 unfold ai;split
 ·split
  ·rfl
  ·exact (kh _ _ _).s
 ·split
  ·exact BC u ha _ _
  ·split
   ·have hd:=fM u x.path;unfold eU;split
    ·exact hd.s
    ·exact (mw _ (by rw[hd.away];exact ha) _ _).trans hd.s
   ·split
    ·have hd:=xn u x.path;unfold bt;split
     ·exact hd.s
     ·exact (mw _ (by rw[hd.away];exact ha) _ _).trans hd.s
    ·split
     ·have hd:=xn u x.path;have he:=fM (atU u x.path).u x.toPath;unfold cR;split
      ·exact hd.s
      ·split
       ·exact he.s.trans hd.s
       ·exact (mw _ (by rw[he.away,hd.away];exact ha) _ _).trans (he.s.trans hd.s)
     ·split
      ·rfl
      ·split
       ·unfold cY;split
        ·rfl
        ·split
         ·rfl
         ·split<;>rfl
       ·split
        ·rfl
        ·rfl
end La
