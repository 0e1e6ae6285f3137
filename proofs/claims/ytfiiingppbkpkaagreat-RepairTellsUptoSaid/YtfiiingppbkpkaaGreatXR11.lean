/- Texts of this claim, part 11: PWhole, PWh2, Worst, Del, Keep, Srt, PSort, PKeep, PCli, RTree, PApply, PReach, PNm. No condition. -/
import Derived.Test.YtfiiingppbkpkaaGreatXR10
import Derived.Test.YtfiiingppbkpkaaGreatXR8
import Derived.Test.YtfiiingppbkpkaaGreatXR7
import Derived.Test.YtfiiingppbkpkaaGreatXR9
set_option maxRecDepth 10000
set_option maxHeartbeats 4000000
set_option linter.unusedSimpArgs false
set_option linter.unusedVariables false
namespace La
open Go Go.Eng
def Edge (l : List Node) (d : Int) (s : List UInt8) (f : Int) : Prop := ∃ n,n ∈ l ∧ n.fid = d ∧ (⟨s,f⟩ : Entry) ∈ n.entries
def FidIn (l : List Node) (f : Int) : Prop := ∃ n,n ∈ l ∧ n.fid = f
structure Loc (n : Node) : Prop where
 eup : EUp n.entries
 file : n.dir = false → n.entries = []
 dirD : n.dir = true → n.data = []
structure Wh (l : List Node) : Prop where
 good : Good l
 loc : ∀ n,n ∈ l → Loc n
 name : ∀ d s f,Edge l d s f → nameB s = true
 there : ∀ d s f,Edge l d s f → FidIn l f
 noroot : ∀ d s f,Edge l d s f → f ≠ 0
 par : ∀ f,FidIn l f → f ≠ 0 → ∃ d s,Edge l d s f
 one : ∀ d s d' s' f,Edge l d s f → Edge l d' s' f → d = d' ∧ s = s'
 root : ∃ n,n ∈ l ∧ n.fid = 0 ∧ n.dir = true
theorem up_same {l : List Node} (h : Up l) {a b : Node} (ha : a ∈ l) (hb : b ∈ l) (hf : a.fid = b.fid) : a = b := by
 have h1 := (ZO h).2 ⟨ha,rfl⟩
 have h2 := (ZO h).2 ⟨hb,hf.symm⟩
 rw [h1] at h2; injection h2
theorem edge_at {l : List Node} (h : Up l) {n : Node} (hn : n ∈ l) {s : List UInt8} {f : Int} : Edge l n.fid s f ↔ (⟨s,f⟩ : Entry) ∈ n.entries :=
 ⟨fun ⟨m,hm,hf,he⟩ => by rw [up_same h hm hn hf] at he; exact he,fun he => ⟨n,hn,rfl,he⟩⟩
theorem edge_put {l : List Node} (h : Up l) (n : Node) {d : Int} {s : List UInt8} {f : Int} : Edge (Yu l n) d s f ↔ (d = n.fid ∧ (⟨s,f⟩ : Entry) ∈ n.entries) ∨ (d ≠ n.fid ∧ Edge l d s f) := by
 obtain ⟨_,h2⟩ := putN_up h n
 constructor
 ·rintro ⟨m,hm,rfl,he⟩
  rcases (h2 m).1 hm with rfl | ⟨hm,hne⟩
  ·exact .inl ⟨rfl,he⟩
  ·exact .inr ⟨hne,m,hm,rfl,he⟩
 ·rintro (⟨rfl,he⟩ | ⟨hne,m,hm,rfl,he⟩)
  ·exact ⟨n,(h2 n).2 (.inl rfl),rfl,he⟩
  ·exact ⟨m,(h2 m).2 (.inr ⟨hm,hne⟩),rfl,he⟩
theorem fid_put {l : List Node} (h : Up l) (n : Node) {f : Int} : FidIn (Yu l n) f ↔ f = n.fid ∨ FidIn l f := by
 obtain ⟨_,h2⟩ := putN_up h n
 constructor
 ·rintro ⟨m,hm,rfl⟩
  rcases (h2 m).1 hm with rfl | ⟨hm,hne⟩
  ·exact .inl rfl
  ·exact .inr ⟨m,hm,rfl⟩
 ·rintro (rfl | ⟨m,hm,rfl⟩)
  ·exact ⟨n,(h2 n).2 (.inl rfl),rfl⟩
  ·by_cases hne : m.fid = n.fid
   ·exact ⟨n,(h2 n).2 (.inl rfl),hne.symm⟩
   ·exact ⟨m,(h2 m).2 (.inr ⟨hm,hne⟩),rfl⟩
theorem edge_drop {l : List Node} (k : Int) {d : Int} {s : List UInt8} {f : Int} : Edge (dropN l k) d s f ↔ Edge l d s f ∧ d ≠ k := by
 constructor
 ·rintro ⟨m,hm,rfl,he⟩
  have := List.mem_filter.1 hm
  exact ⟨⟨m,this.1,rfl,he⟩,by simpa using this.2⟩
 ·rintro ⟨⟨m,hm,rfl,he⟩,hk⟩
  exact ⟨m,List.mem_filter.2 ⟨hm,by simpa using hk⟩,rfl,he⟩
theorem fid_drop {l : List Node} (k : Int) {f : Int} : FidIn (dropN l k) f ↔ FidIn l f ∧ f ≠ k := by
 constructor
 ·rintro ⟨m,hm,rfl⟩
  have := List.mem_filter.1 hm
  exact ⟨⟨m,this.1,rfl⟩,by simpa using this.2⟩
 ·rintro ⟨⟨m,hm,rfl⟩,hk⟩
  exact ⟨m,List.mem_filter.2 ⟨hm,by simpa using hk⟩,rfl⟩
theorem enter_mem {l : List Entry} (h : EUp l) {s0 : List UInt8} (hs : isE l s0 = false) (f0 : Int) {s : List UInt8} {f : Int} : (⟨s,f⟩ : Entry) ∈ Zt l s0 f0 ↔ (s = s0 ∧ f = f0) ∨ (⟨s,f⟩ : Entry) ∈ l := by
 rw [(enterE_up h hs f0).2.1]
 simp
theorem leave_mem {l : List Entry} {s0 s : List UInt8} {f : Int} : (⟨s,f⟩ : Entry) ∈ leaveE l s0 ↔ (⟨s,f⟩ : Entry) ∈ l ∧ s ≠ s0 := by
 unfold leaveE
 rw [List.mem_filter]
 simp
theorem leave_up {l : List Entry} (h : EUp l) (s : List UInt8) : EUp (leaveE l s) := h.sublist List.filter_sublist
theorem roomE_free {n : Node} {s : List UInt8} (h : roomE n s = 0) : nameB s = true ∧ isE n.entries s = false := by
 unfold roomE at h
 split at h
 ·rename_i h1
  split at h
  ·omega
  ·rename_i h2
   exact ⟨h1,by simpa using h2⟩
 ·omega
theorem notIn_of {l : List Node} {k : Int} (hu : Up l) (h : isAt l k = false) : ¬ FidIn l k := by
 rintro ⟨m,hm,rfl⟩
 have := (ZO hu).2 ⟨hm,rfl⟩
 rw [isAt_of this] at h; cases h
theorem wh_make {l : List Node} (h : Wh l) (a : Act) (v : Int) (he : makeE l a = 0) : Wh (makeL l a v) := by
 have hg := good_make h.good a v he
 have hu := h.good.up
 have hL : makeL l a v = Yu (Yu l { Ye (Yg l a.dir) a.name a.fid with version := v }) (madeN a v) := by unfold makeL; rw [if_pos he]
 unfold makeE at he
 split at he
 case isFalse hd => exact absurd he hd
 rename_i hd
 obtain ⟨n,hf,hgn,hdir⟩ := dirE_zero hd
 rw [hgn] at he hL
 obtain ⟨hn,hnk⟩ := (ZO hu).1 hf
 split at he
 case isFalse hr => exact absurd he hr
 rename_i hro
 obtain ⟨hnm,hfree⟩ := roomE_free hro
 split at he
 ·omega
 rename_i hnew
 have hno : isAt l a.fid = false ∧ a.fid ≠ 0 := by simpa using hnew
 have hnin := notIn_of hu hno.1
 have hl := h.loc n hn
 have hu1 := (putN_up hu { Ye n a.name a.fid with version := v }).1
 have hnf : n.fid ≠ a.fid := fun e => hnin ⟨n,hn,e⟩
 rw [hL] at hg ⊢
 have hE : ∀ d s f,Edge (Yu (Yu l { Ye n a.name a.fid with version := v }) (madeN a v)) d s f ↔ Edge l d s f ∨ (d = n.fid ∧ s = a.name ∧ f = a.fid) := fun d s f => by
  rw [edge_put hu1,edge_put hu]
  show (d = a.fid ∧ (⟨s,f⟩ : Entry) ∈ []) ∨ (d ≠ a.fid ∧ ((d = n.fid ∧ (⟨s,f⟩ : Entry) ∈ Zt n.entries a.name a.fid) ∨ (d ≠ n.fid ∧ Edge l d s f))) ↔ _
  rw [enter_mem hl.eup hfree]
  constructor
  ·rintro (⟨_,h0⟩ | ⟨h1,⟨rfl,h2 | h2⟩ | ⟨h2,h3⟩⟩)
   ·cases h0
   ·exact .inr ⟨rfl,h2⟩
   ·exact .inl ⟨n,hn,rfl,h2⟩
   ·exact .inl h3
  ·rintro (h1 | ⟨rfl,rfl,rfl⟩)
   ·refine .inr ⟨fun e => ?_,?_⟩
    ·obtain ⟨m,hm,hmf,_⟩ := h1
     exact hnin ⟨m,hm,hmf.trans e⟩
    ·by_cases hd : d = n.fid
     ·subst hd; exact .inl ⟨rfl,.inr ((edge_at hu hn).1 h1)⟩
     ·exact .inr ⟨hd,h1⟩
   ·exact .inr ⟨hnf,.inl ⟨rfl,.inl ⟨rfl,rfl⟩⟩⟩
 have hF : ∀ f,FidIn (Yu (Yu l { Ye n a.name a.fid with version := v }) (madeN a v)) f ↔ f = a.fid ∨ FidIn l f := fun f => by
  rw [fid_put hu1,fid_put hu]
  show f = a.fid ∨ f = n.fid ∨ FidIn l f ↔ _
  constructor
  ·rintro (h | rfl | h)
   ·exact .inl h
   ·exact .inr ⟨n,hn,rfl⟩
   ·exact .inr h
  ·rintro (h | h)
   ·exact .inl h
   ·exact .inr (.inr h)
 refine ⟨hg,fun x hx => ?_,fun d s f hd => ?_,fun d s f hd => ?_,fun d s f hd => ?_,fun f hf h0 => ?_,fun d s d' s' f h1 h2 => ?_,?_⟩
 ·rcases pmem hx with rfl | hx
  ·exact ⟨by unfold EUp; simp [madeN],fun _ => rfl,fun _ => rfl⟩
  ·rcases pmem hx with rfl | hx
   ·exact ⟨(enterE_up hl.eup hfree a.fid).1,fun h0 => (by
     have h0 : n.dir = false := h0
     rw [hdir] at h0; cases h0),hl.dirD⟩
   ·exact h.loc x hx
 ·rcases (hE d s f).1 hd with h1 | ⟨_,rfl,_⟩
  ·exact h.name d s f h1
  ·exact hnm
 ·rcases (hE d s f).1 hd with h1 | ⟨_,_,rfl⟩
  ·exact (hF f).2 (.inr (h.there d s f h1))
  ·exact (hF _).2 (.inl rfl)
 ·rcases (hE d s f).1 hd with h1 | ⟨_,_,rfl⟩
  ·exact h.noroot d s f h1
  ·exact hno.2
 ·rcases (hF f).1 hf with rfl | hf
  ·exact ⟨n.fid,a.name,(hE _ _ _).2 (.inr ⟨rfl,rfl,rfl⟩)⟩
  ·obtain ⟨d,s,h1⟩ := h.par f hf h0
   exact ⟨d,s,(hE _ _ _).2 (.inl h1)⟩
 ·rcases (hE d s f).1 h1 with h1 | ⟨rfl,rfl,rfl⟩
  ·rcases (hE d' s' f).1 h2 with h2 | ⟨rfl,rfl,rfl⟩
   ·exact h.one d s d' s' f h1 h2
   ·exact absurd (h.there _ _ _ h1) hnin
  ·rcases (hE d' s' _).1 h2 with h2 | ⟨rfl,rfl,_⟩
   ·exact absurd (h.there _ _ _ h2) hnin
   ·exact ⟨rfl,rfl⟩
 ·obtain ⟨m,hm,hm0,hmd⟩ := h.root
  have hmem : ∀ x,x ∈ Yu l { Ye n a.name a.fid with version := v } → x.fid ≠ a.fid → x ∈ Yu (Yu l { Ye n a.name a.fid with version := v }) (madeN a v) := fun x hx hne => ((putN_up hu1 (madeN a v)).2 x).2 (.inr ⟨hx,hne⟩)
  by_cases hmn : m.fid = n.fid
  ·refine ⟨{ Ye n a.name a.fid with version := v },hmem _ (((putN_up hu _).2 _).2 (.inl rfl)) hnf,hmn.symm.trans hm0,hdir⟩
  ·exact ⟨m,hmem _ (((putN_up hu _).2 _).2 (.inr ⟨hm,hmn⟩)) (by rw [hm0]; exact fun e => hno.2 e.symm),hm0,hmd⟩
theorem wh_store {l : List Node} (h : Wh l) (a : Act) (v : Int) (he : storeE l a = 0) : Wh (storeL l a v) := by
 have hg := good_store h.good a v he
 have hu := h.good.up
 have hL : storeL l a v = Yu l { Yg l a.fid with data := a.data,version := v } := by unfold storeL; rw [if_pos he]
 unfold storeE at he
 cases hf : Yf l a.fid with
 | none => rw [hf] at he; simp at he
 | some n =>
  rw [hf] at he
  simp only at he
  obtain ⟨hn,hnk⟩ := (ZO hu).1 hf
  have hgn : Yg l a.fid = n := by unfold Yg; rw [hf]; rfl
  rw [hgn] at hL
  split at he
  ·omega
  rename_i hdir
  rw [hL] at hg ⊢
  have hE : ∀ d s f,Edge (Yu l { n with data := a.data,version := v }) d s f ↔ Edge l d s f := fun d s f => by
   rw [edge_put hu]
   show (d = n.fid ∧ (⟨s,f⟩ : Entry) ∈ n.entries) ∨ (d ≠ n.fid ∧ Edge l d s f) ↔ _
   constructor
   ·rintro (⟨rfl,h1⟩ | ⟨_,h1⟩)
    ·exact ⟨n,hn,rfl,h1⟩
    ·exact h1
   ·intro h1
    by_cases hd : d = n.fid
    ·subst hd; exact .inl ⟨rfl,(edge_at hu hn).1 h1⟩
    ·exact .inr ⟨hd,h1⟩
  have hF : ∀ f,FidIn (Yu l { n with data := a.data,version := v }) f ↔ FidIn l f := fun f => by
   rw [fid_put hu]
   show f = n.fid ∨ FidIn l f ↔ _
   constructor
   ·rintro (rfl | h)
    ·exact ⟨n,hn,rfl⟩
    ·exact h
   ·exact .inr
  refine ⟨hg,fun x hx => ?_,fun d s f hd => h.name d s f ((hE _ _ _).1 hd),fun d s f hd => (hF _).2 (h.there d s f ((hE _ _ _).1 hd)),fun d s f hd => h.noroot d s f ((hE _ _ _).1 hd),fun f hf h0 => ?_,fun d s d' s' f h1 h2 => h.one d s d' s' f ((hE _ _ _).1 h1) ((hE _ _ _).1 h2),?_⟩
  ·rcases pmem hx with rfl | hx
   ·have hl := h.loc n hn
    exact ⟨hl.eup,hl.file,fun h0 => absurd h0 hdir⟩
   ·exact h.loc x hx
  ·obtain ⟨d,s,h1⟩ := h.par f ((hF f).1 hf) h0
   exact ⟨d,s,(hE _ _ _).2 h1⟩
  ·obtain ⟨m,hm,hm0,hmd⟩ := h.root
   refine ⟨m,((putN_up hu _).2 m).2 (.inr ⟨hm,fun e => ?_⟩),hm0,hmd⟩
   have : m = n := up_same hu hm hn e
   subst this
   exact hdir hmd
theorem named_edge {l : List Node} (h : Wh l) {a : Act} (he : namedE l a = 0) : ∃ n,Yf l a.dir = some n ∧ Yg l a.dir = n ∧ n ∈ l ∧ n.fid = a.dir ∧ n.dir = true ∧ Edge l a.dir a.name a.fid := by
 unfold namedE at he
 split at he
 case isFalse hd => exact absurd he hd
 rename_i hd
 obtain ⟨n,hf,hgn,hdir⟩ := dirE_zero hd
 obtain ⟨hn,hnk⟩ := (ZO h.good.up).1 hf
 rw [hgn] at he
 cases e : entryN n a.name with
 | none => rw [e] at he; simp at he
 | some f =>
  rw [e] at he
  simp only at he
  split at he
  case isFalse hd => omega
  rename_i hff
  subst hff
  exact ⟨n,hf,hgn,hn,hnk,hdir,n,hn,hnk,(YE (h.loc n hn).eup).1 e⟩
theorem edge_left {l : List Node} (hu : Up l) {n : Node} (hn : n ∈ l) (s0 : List UInt8) (v : Int) {d : Int} {s : List UInt8} {f : Int} : Edge (Yu l { Yv n s0 with version := v }) d s f ↔ Edge l d s f ∧ ¬ (d = n.fid ∧ s = s0) := by
 rw [edge_put hu]
 show (d = n.fid ∧ (⟨s,f⟩ : Entry) ∈ leaveE n.entries s0) ∨ (d ≠ n.fid ∧ Edge l d s f) ↔ _
 rw [leave_mem]
 constructor
 ·rintro (⟨rfl,h1,h2⟩ | ⟨h1,h2⟩)
  ·exact ⟨⟨n,hn,rfl,h1⟩,fun h => h2 h.2⟩
  ·exact ⟨h2,fun h => h1 h.1⟩
 ·rintro ⟨h1,h2⟩
  by_cases hd : d = n.fid
  ·subst hd; exact .inl ⟨rfl,(edge_at hu hn).1 h1,fun e => h2 ⟨rfl,e⟩⟩
  ·exact .inr ⟨hd,h1⟩
theorem wh_remove {l : List Node} (h : Wh l) (a : Act) (v : Int) (he : removeE l a = 0) : Wh (removeL l a v) := by
 have hg := good_remove h.good a v he
 have hu := h.good.up
 have hL : removeL l a v = dropN (Yu l { Yv (Yg l a.dir) a.name with version := v }) a.fid := by unfold removeL; rw [if_pos he]
 unfold removeE at he
 split at he
 case isFalse hd => exact absurd he hd
 rename_i hnd
 obtain ⟨n,hf,hgn,hn,hnk,hdir,hed⟩ := named_edge h hnd
 rw [hgn] at hL
 cases hx : Yf l a.fid with
 | none => rw [hx] at he; simp at he
 | some x =>
  rw [hx] at he
  simp only at he
  obtain ⟨hxm,hxf⟩ := (ZO hu).1 hx
  have hxe : x.entries = [] := by
   cases e : x.entries with
   | nil => rfl
   | cons p q => rw [e] at he; simp at he
  rw [hL] at hg ⊢
  have hnoE : ∀ s f,¬ Edge l a.fid s f := fun s f h1 => by
   rw [← hxf] at h1
   have := (edge_at hu hxm).1 h1
   rw [hxe] at this; cases this
  have hE : ∀ d s f,Edge (dropN (Yu l { Yv n a.name with version := v }) a.fid) d s f ↔ Edge l d s f ∧ ¬ (d = a.dir ∧ s = a.name) := fun d s f => by
   rw [edge_drop,edge_left hu hn,hnk]
   constructor
   ·exact fun h => h.1
   ·exact fun h => ⟨h,fun e => by subst e; exact hnoE s f h.1⟩
  have hF : ∀ f,FidIn (dropN (Yu l { Yv n a.name with version := v }) a.fid) f ↔ FidIn l f ∧ f ≠ a.fid := fun f => by
   rw [fid_drop,fid_put hu]
   show (f = n.fid ∨ FidIn l f) ∧ f ≠ a.fid ↔ _
   constructor
   ·rintro ⟨rfl | h,h1⟩
    ·exact ⟨⟨n,hn,rfl⟩,h1⟩
    ·exact ⟨h,h1⟩
   ·rintro ⟨h,h1⟩
    exact ⟨.inr h,h1⟩
  have hup1 := (putN_up hu { Yv n a.name with version := v })
  refine ⟨hg,fun x hx => ?_,fun d s f hd => h.name d s f ((hE _ _ _).1 hd).1,fun d s f hd => (hF _).2 ⟨h.there d s f ((hE _ _ _).1 hd).1,fun e => ?_⟩,fun d s f hd => h.noroot d s f ((hE _ _ _).1 hd).1,fun f hf h0 => ?_,fun d s d' s' f h1 h2 => h.one d s d' s' f ((hE _ _ _).1 h1).1 ((hE _ _ _).1 h2).1,?_⟩
  ·rcases pmem (List.mem_filter.1 hx).1 with rfl | hx
   ·have hl := h.loc n hn
    exact ⟨leave_up hl.eup _,fun h0 => by
     show leaveE n.entries a.name = []
     rw [hl.file h0]; rfl,hl.dirD⟩
   ·exact h.loc x hx
  ·subst e
   obtain ⟨h1,h2⟩ := (hE _ _ _).1 hd
   exact h2 (h.one _ _ _ _ _ h1 hed)
  ·obtain ⟨h1,h2⟩ := (hF f).1 hf
   obtain ⟨d,s,h3⟩ := h.par f h1 h0
   refine ⟨d,s,(hE _ _ _).2 ⟨h3,fun e => ?_⟩⟩
   obtain ⟨rfl,rfl⟩ := e
   obtain ⟨m,hm,hmf,hme⟩ := hed
   obtain ⟨m',hm',hmf',hme'⟩ := h3
   have : m = m' := up_same hu hm hm' (hmf.trans hmf'.symm)
   subst this
   have := (h.loc m hm).eup.same hme hme' rfl
   injection this with _ h5
   exact h2 h5.symm
  ·obtain ⟨m,hm,hm0,hmd⟩ := h.root
   have h0 : (0 : Int) ≠ a.fid := fun e => h.noroot _ _ _ hed e.symm
   by_cases hmn : m.fid = n.fid
   ·exact ⟨{ Yv n a.name with version := v },List.mem_filter.2 ⟨(hup1.2 _).2 (.inl rfl),by
     show (!(n.fid == a.fid)) = true
     rw [← hmn,hm0]; simpa using h0⟩,hmn.symm.trans hm0,hdir⟩
   ·exact ⟨m,List.mem_filter.2 ⟨(hup1.2 _).2 (.inr ⟨hm,hmn⟩),by rw [hm0]; simpa using h0⟩,hm0,hmd⟩
theorem wh_rename {l : List Node} (h : Wh l) (a : Act) (v : Int) (he : renameE l a = 0) : Wh (renameL l a v) := by
 have hg := good_rename h.good a v he
 have hu := h.good.up
 have hL : renameL l a v = Yu (if a.to = a.dir then l else Yu l { Yv (Yg l a.dir) a.name with version := v }) { Ye (toN l a) a.toName a.fid with version := v } := by unfold renameL; rw [if_pos he]
 unfold renameE at he
 split at he
 case isFalse hd => exact absurd he hd
 rename_i hnd
 obtain ⟨n,hf,hgn,hn,hnk,hdir,hed⟩ := named_edge h hnd
 split at he
 case isFalse hd => exact absurd he hd
 rename_i hdt
 obtain ⟨t,htf,htg,htdir⟩ := dirE_zero hdt
 obtain ⟨htm,htk⟩ := (ZO hu).1 htf
 split at he
 case isFalse hd => exact absurd he hd
 rename_i hro
 obtain ⟨hnm,hfree⟩ := roomE_free hro
 rw [hgn] at hL
 rw [hL] at hg ⊢
 -- the directory that gets the name
 have hT : (toN l a).fid = a.to ∧ (toN l a).dir = true ∧ EUp (toN l a).entries ∧ ((toN l a).dir = true → (toN l a).data = []) ∧ ∀ s f,(⟨s,f⟩ : Entry) ∈ (toN l a).entries ↔ Edge l a.to s f ∧ ¬ (a.to = a.dir ∧ s = a.name) := by
  unfold toN
  split
  ·rename_i htd
   rw [hgn]
   have hl := h.loc n hn
   refine ⟨hnk.trans htd.symm,hdir,leave_up hl.eup _,hl.dirD,fun s f => ?_⟩
   show (⟨s,f⟩ : Entry) ∈ leaveE n.entries a.name ↔ _
   rw [leave_mem,htd,← hnk,edge_at hu hn]
   simp
  ·rename_i htd
   rw [htg]
   have hl := h.loc t htm
   refine ⟨htk,htdir,hl.eup,hl.dirD,fun s f => ?_⟩
   rw [← htk,edge_at hu htm]
   constructor
   ·exact fun h => ⟨h,fun e => htd (htk.symm.trans e.1)⟩
   ·exact fun h => h.1
 obtain ⟨hTf,hTd,hTe,hTda,hTm⟩ := hT
 generalize hl1 : (if a.to = a.dir then l else Yu l { Yv n a.name with version := v }) = l1 at hg ⊢
 have hu1 : Up l1 := by subst hl1; split; exact hu; exact (putN_up hu _).1
 have hE1 : ∀ d s f,d ≠ a.to → (Edge l1 d s f ↔ Edge l d s f ∧ ¬ (d = a.dir ∧ s = a.name)) := fun d s f hd => by
  subst hl1
  split
  ·rename_i htd
   exact ⟨fun h => ⟨h,fun e => hd (e.1.trans htd.symm)⟩,fun h => h.1⟩
  ·rw [edge_left hu hn,hnk]
 have hF1 : ∀ f,FidIn l1 f ↔ FidIn l f := fun f => by
  subst hl1
  split
  ·exact Iff.rfl
  ·rw [fid_put hu]
   show f = n.fid ∨ FidIn l f ↔ _
   exact ⟨fun h => h.elim (fun e => ⟨n,hn,e.symm⟩) id,.inr⟩
 have hE : ∀ d s f,Edge (Yu l1 { Ye (toN l a) a.toName a.fid with version := v }) d s f ↔ (Edge l d s f ∧ ¬ (d = a.dir ∧ s = a.name)) ∨ (d = a.to ∧ s = a.toName ∧ f = a.fid) := fun d s f => by
  rw [edge_put hu1]
  show (d = (toN l a).fid ∧ (⟨s,f⟩ : Entry) ∈ Zt (toN l a).entries a.toName a.fid) ∨ (d ≠ (toN l a).fid ∧ Edge l1 d s f) ↔ _
  rw [enter_mem hTe hfree,hTm,hTf]
  constructor
  ·rintro (⟨rfl,h1 | h1⟩ | ⟨h1,h2⟩)
   ·exact .inr ⟨rfl,h1⟩
   ·exact .inl h1
   ·exact .inl ((hE1 d s f h1).1 h2)
  ·rintro (h1 | ⟨rfl,h1⟩)
   ·by_cases hd : d = a.to
    ·subst hd; exact .inl ⟨rfl,.inr h1⟩
    ·exact .inr ⟨hd,(hE1 d s f hd).2 h1⟩
   ·exact .inl ⟨rfl,.inl h1⟩
 have hF : ∀ f,FidIn (Yu l1 { Ye (toN l a) a.toName a.fid with version := v }) f ↔ FidIn l f := fun f => by
  rw [fid_put hu1,hF1]
  show f = (toN l a).fid ∨ FidIn l f ↔ _
  rw [hTf]
  exact ⟨fun h => h.elim (fun e => ⟨t,htm,htk.trans e.symm⟩) id,.inr⟩
 have hthere := h.there _ _ _ hed
 -- who leads to the fid that moves: its old place alone
 have hold : ∀ d s,Edge l d s a.fid → d = a.dir ∧ s = a.name := fun d s h1 => h.one _ _ _ _ _ h1 hed
 refine ⟨hg,fun x hx => ?_,fun d s f hd => ?_,fun d s f hd => ?_,fun d s f hd => ?_,fun f hf h0 => ?_,fun d s d' s' f h1 h2 => ?_,?_⟩
 ·rcases pmem hx with rfl | hx
  ·exact ⟨(enterE_up hTe hfree a.fid).1,fun h0 => (by
    have h0 : (toN l a).dir = false := h0
    rw [hTd] at h0; cases h0),hTda⟩
  ·subst hl1
   split at hx
   ·exact h.loc x hx
   ·rcases pmem hx with rfl | hx
    ·have hl := h.loc n hn
     exact ⟨leave_up hl.eup _,fun h0 => by
      show leaveE n.entries a.name = []
      rw [hl.file h0]; rfl,hl.dirD⟩
    ·exact h.loc x hx
 ·rcases (hE d s f).1 hd with h1 | ⟨_,rfl,_⟩
  ·exact h.name d s f h1.1
  ·exact hnm
 ·rcases (hE d s f).1 hd with h1 | ⟨_,_,rfl⟩
  ·exact (hF f).2 (h.there d s f h1.1)
  ·exact (hF _).2 hthere
 ·rcases (hE d s f).1 hd with h1 | ⟨_,_,rfl⟩
  ·exact h.noroot d s f h1.1
  ·exact h.noroot _ _ _ hed
 ·by_cases hff : f = a.fid
  ·subst hff
   exact ⟨a.to,a.toName,(hE _ _ _).2 (.inr ⟨rfl,rfl,rfl⟩)⟩
  ·obtain ⟨d,s,h1⟩ := h.par f ((hF f).1 hf) h0
   refine ⟨d,s,(hE _ _ _).2 (.inl ⟨h1,fun e => ?_⟩)⟩
   obtain ⟨rfl,rfl⟩ := e
   obtain ⟨m,hm,hmf,hme⟩ := hed
   obtain ⟨m',hm',hmf',hme'⟩ := h1
   have : m = m' := up_same hu hm hm' (hmf.trans hmf'.symm)
   subst this
   have := (h.loc m hm).eup.same hme hme' rfl
   injection this with _ h5
   exact hff h5.symm
 ·rcases (hE d s f).1 h1 with h1 | ⟨rfl,rfl,rfl⟩
  ·rcases (hE d' s' f).1 h2 with h2 | ⟨rfl,rfl,rfl⟩
   ·exact h.one d s d' s' f h1.1 h2.1
   ·exact absurd (hold d s h1.1) h1.2
  ·rcases (hE d' s' _).1 h2 with h2 | ⟨rfl,rfl,_⟩
   ·exact absurd (hold d' s' h2.1) h2.2
   ·exact ⟨rfl,rfl⟩
 ·obtain ⟨m,hm,hm0,hmd⟩ := h.root
  by_cases hmt : m.fid = a.to
  ·exact ⟨_,((putN_up hu1 _).2 _).2 (.inl rfl),hTf.trans (hmt.symm.trans hm0),hTd⟩
  ·have hml1 : ∃ x,x ∈ l1 ∧ x.fid = 0 ∧ x.dir = true := by
    subst hl1
    split
    ·exact ⟨m,hm,hm0,hmd⟩
    ·by_cases hmn : m.fid = n.fid
     ·exact ⟨{ Yv n a.name with version := v },((putN_up hu _).2 _).2 (.inl rfl),hmn.symm.trans hm0,hdir⟩
     ·exact ⟨m,((putN_up hu _).2 _).2 (.inr ⟨hm,hmn⟩),hm0,hmd⟩
   obtain ⟨x,hx,hx0,hxd⟩ := hml1
   exact ⟨x,((putN_up hu1 _).2 _).2 (.inr ⟨hx,by
    show x.fid ≠ (toN l a).fid
    rw [hTf,hx0,← hm0]; exact hmt⟩),hx0,hxd⟩
theorem wh_apply {l : List Node} (h : Wh l) (a : Act) (v : Int) (he : Yb l a = 0) : Wh (Yj l a v) := by
 unfold Yb at he
 unfold Yj
 split at he
 ·rename_i h1; rw [if_pos h1]; exact wh_make h a v he
 ·rename_i h1
  rw [if_neg h1]
  split at he
  ·rename_i h2; rw [if_pos h2]; exact wh_make h a v he
  ·rename_i h2
   rw [if_neg h2]
   split at he
   ·rename_i h3; rw [if_pos h3]; exact wh_store h a v he
   ·rename_i h3
    rw [if_neg h3]
    split at he
    ·rename_i h4; rw [if_pos h4]; exact wh_remove h a v he
    ·rename_i h4
     rw [if_neg h4]
     split at he
     ·rename_i h5; rw [if_pos h5]; exact wh_rename h a v he
     ·omega
theorem wh_root : Wh [rootN] := by
 have hE : ∀ d s f,¬ Edge [rootN] d s f := fun d s f ⟨n,hn,_,he⟩ => by rw [List.mem_singleton.1 hn] at he; cases he
 exact ⟨good_root,fun n hn => by rw [List.mem_singleton.1 hn]; exact ⟨by unfold EUp; simp [rootN],fun _ => rfl,fun _ => rfl⟩,fun d s f h => absurd h (hE d s f),fun d s f h => absurd h (hE d s f),fun d s f h => absurd h (hE d s f),
  fun f ⟨n,hn,hf⟩ h0 => by rw [List.mem_singleton.1 hn] at hf; exact absurd hf.symm h0,fun d s d' s' f h => absurd h (hE d s f),⟨rootN,List.mem_singleton.2 rfl,rfl,rfl⟩⟩
theorem Hist.whole {p : List Past} {t : List Node} (h : Hist p t) : Wh t := by
 induction h with
 | nil => exact wh_root
 | snoc c a h ha he ih => exact wh_apply ih _ _ he
def mapDU (l : List Node) : Nat → List (Int × Node)
 | 0 => []
 | i + 1 => Zp (mapDU l i) (fidN l i) (l.getD i default)
def mapD (l : List Node) : List (Int × Node) := mapDU l l.length
theorem mapUN_eq (l : List Node) : ∀ i,mapUN l i = mN (mapDU l i)
 | 0 => rfl
 | i + 1 => by
  have ih := mapUN_eq l i
  show Zp (mapUN l i) (fidN l i) _ = _
  rw [ih,mN_put]; rfl
theorem mapN_eq (l : List Node) : mapN l = mN (mapD l) := mapUN_eq l l.length
theorem mapD_rise (l : List Node) : RiseM (mapD l) := by
 have : ∀ i,RiseM (mapDU l i) := fun i => by
  induction i with
  | zero => exact List.Pairwise.nil
  | succ i ih => exact mput_rise ih
 exact this _
theorem mapD_get {l : List Node} (h : Up l) (k : Int) : Zg (mapD l) k = Yf l k := by
 have h1 := mapN_get h k
 rw [mapN_eq,mN_get] at h1
 cases e : Zg (mapD l) k with
 | none =>
  rw [e] at h1
  cases e2 : Yf l k with
  | none => rfl
  | some n => rw [e2] at h1; cases h1
 | some m =>
  rw [e] at h1
  cases e2 : Yf l k with
  | none => rw [e2] at h1; cases h1
  | some n =>
   rw [e2] at h1
   simp only [Option.map_some,Option.some.injEq,AV.agg.injEq] at h1
   -- the same nodes,as both come from the list
   have hm : ∀ i,i ≤ l.length → ∀ p,p ∈ mapDU l i → p.2 ∈ l ∧ p.2.fid = p.1 := fun i => by
    induction i with
    | zero => intro _ p hp; cases hp
    | succ i ih =>
     intro hi p hp
     have hr : RiseM (mapDU l i) := by
      have : ∀ j,RiseM (mapDU l j) := fun j => by
       induction j with
       | zero => exact List.Pairwise.nil
       | succ j ihj => exact mput_rise ihj
      exact this i
     rcases (mem_mput hr p.1 p.2).1 hp with ⟨h1,h2⟩ | ⟨_,h2⟩
     ·rw [h1,h2]; exact ⟨YG (by omega),rfl⟩
     ·exact ih (by omega) p h2
   obtain ⟨q1,q2⟩ := hm _ (Nat.le_refl _) _ (mget_mem e)
   rw [← e2]
   exact ((ZO h).2 ⟨q1,q2⟩).symm
theorem mapDU_rise (l : List Node) : ∀ i,RiseM (mapDU l i)
 | 0 => List.Pairwise.nil
 | i + 1 => mput_rise (mapDU_rise l i)
theorem mapDU_mem (l : List Node) : ∀ i,i ≤ l.length → ∀ p,p ∈ mapDU l i → p.2 ∈ l
 | 0,_,p,hp => by cases hp
 | i + 1,hi,p,hp => by
  rcases (mem_mput (mapDU_rise l i) p.1 p.2).1 hp with ⟨h1,h2⟩ | ⟨_,h2⟩
  ·rw [h2]; exact YG (by omega)
  ·exact mapDU_mem l i (by omega) p h2
theorem mapDU_len (l : List Node) : ∀ i,(mapDU l i).length ≤ i
 | 0 => Nat.le_refl _
 | i + 1 => by
  have h1 := mapDU_len l i
  have h2 := mput_length (n := fidN l i) (v := l.getD i default) (mapDU_rise l i)
  show (Zp (mapDU l i) (fidN l i) (l.getD i default)).length ≤ i + 1
  rw [h2]
  cases (Zg (mapDU l i) (fidN l i)).isSome <;> simp <;> omega
theorem flat_len {α : Type} {f : α → List Int} {k : Nat} : ∀ {l : List α},(∀ x,x ∈ l → (f x).length ≤ k) → (l.flatMap f).length ≤ k * l.length
 | [],_ => by simp
 | x :: r,h => by
  have h1 := flat_len (l := r) fun y hy => h y (List.mem_cons_of_mem _ hy)
  have h2 := h x List.mem_cons_self
  simp only [List.flatMap_cons,List.length_append,List.length_cons,Nat.mul_add,Nat.mul_one]
  omega
theorem allF_small {l : List Node} {k : Nat} (h : ∀ n,n ∈ l → n.entries.length ≤ k) : (allF (mapD l)).length ≤ k * l.length := by
 have h1 : (allF (mapD l)).length ≤ k * (mapD l).length := flat_len fun p hp => by
  rw [List.length_map]; exact h _ (mapDU_mem l _ (Nat.le_refl _) p hp)
 exact Nat.le_trans h1 (Nat.mul_le_mul_left _ (mapDU_len l _))
end La
namespace La
open Go Go.Eng Go.Proofs
def orI (a b c : Int) : Int := if a ≠ 0 then a else if b ≠ 0 then b else c
def cmpK (a b : Kept) : Int := orI (cmpI a.worth b.worth) (cmpI a.last b.last) (cmpI a.node.fid b.node.fid)
def worstAt (l : List Kept) : Nat → Option Nat
 | 0 => none
 | i + 1 =>
  if (l.getD i default).dirty || (l.getD i default).node.fid == 0 then worstAt l i
  else match worstAt l i with
   | none => some i
   | some b => if cmpK (l.getD i default) (l.getD b default) < 0 then some i else some b
theorem worstAt_lt (l : List Kept) : ∀ (i b : Nat),worstAt l i = some b → b < i
 | 0,b,h => by cases h
 | i + 1,b,h => by
  simp only [worstAt] at h
  have ih := worstAt_lt l i
  split at h
  ·have := ih b h; omega
  ·split at h
   ·injection h with h; omega
   ·rename_i b' e
    have := ih b' e
    split at h
    ·injection h with h; omega
    ·injection h with h; omega
def worstK (l : List Kept) : Option Nat := worstAt l l.length
def shrinkK (room : Int) : Nat → List Kept → Option (List Kept)
 | 0,l => some l
 | f + 1,l => if (l.length : Int) ≥ room then (match worstK l with
   | none => none
   | some i => shrinkK room f (l.eraseIdx i)) else some l
def maxI (a b : Int) : Int := if b > a then b else a
def keepK (l : List Kept) (room : Int) (k : Kept) : Option (List Kept) := match kplace l k.node.fid with
 | some i => some (l.set i { k with worth := maxI k.worth (l.getD i default).worth })
 | none => (shrinkK room (l.length + 1) l).map fun L => L ++ [k]
def keepR (l : List Kept) (room : Int) (k : Kept) : AV := match keepK l room k with
 | none => .tup [.sl [],.int .i64 5]
 | some L => .tup [.sl (L.map ZK),.int .i64 0]
def keepRn (l : List Kept) (room : Int) (k : Kept) : AV := match keepK l room k with
 | none => .tup [.nils,.int .i64 5]
 | some L => .tup [.sl (L.map ZK),.int .i64 0]
def nodesK (l : List Kept) : List Node := l.map (·.node)
end La
namespace La
open Go Go.Eng
def sortN (l : List Node) : List Node := (mapD l).map (·.2)
theorem sameN_refl (v : Bool) (x : Node) : sameN v x x = true := by simp [sameN]
theorem sameT_refl (v : Bool) (l : List Node) : sameT v l l = true := (sameT_iff v l l).2 ⟨rfl,fun j _ => sameN_refl v _⟩
theorem mapDU_key (l : List Node) : ∀ i,∀ p,p ∈ mapDU l i → p.2.fid = p.1
 | 0,p,hp => by cases hp
 | i + 1,p,hp => by
  obtain ⟨k,x⟩ := p
  have := (mem_mput (mapDU_rise l i) k x).1 hp
  rcases this with ⟨rfl,rfl⟩ | ⟨_,h⟩
  ·rfl
  ·exact mapDU_key l i _ h
theorem uniq_sorted : ∀ p q : List Node,p.Pairwise (fun a b => a.fid < b.fid) → q.Pairwise (fun a b => a.fid < b.fid) → (∀ x,x ∈ p ↔ x ∈ q) → p = q
 | [],q,_,_,h => by
  cases q with
  | nil => rfl
  | cons b q => exact absurd ((h b).2 List.mem_cons_self) (by simp)
 | a :: p,[],_,_,h => absurd ((h a).1 List.mem_cons_self) (by simp)
 | a :: p,b :: q,hp,hq,h => by
  obtain ⟨hp1,hp2⟩ := List.pairwise_cons.1 hp
  obtain ⟨hq1,hq2⟩ := List.pairwise_cons.1 hq
  have e : a = b := by
   rcases List.mem_cons.1 ((h a).1 List.mem_cons_self) with h1 | h1
   ·exact h1
   ·rcases List.mem_cons.1 ((h b).2 List.mem_cons_self) with h2 | h2
    ·exact h2.symm
    ·have := hp1 b h2; have := hq1 a h1; omega
  subst e
  rw [uniq_sorted p q hp2 hq2 fun x => ⟨fun hx => ?_,fun hx => ?_⟩]
  ·rcases List.mem_cons.1 ((h x).1 (List.mem_cons_of_mem _ hx)) with h1 | h1
   ·have := hp1 x hx; rw [h1] at this; omega
   ·exact h1
  ·rcases List.mem_cons.1 ((h x).2 (List.mem_cons_of_mem _ hx)) with h1 | h1
   ·have := hq1 x hx; rw [h1] at this; omega
   ·exact h1
theorem sortN_rise (l : List Node) : (sortN l).Pairwise fun a b => a.fid < b.fid := by
 unfold sortN
 rw [List.pairwise_map]
 refine List.Pairwise.imp_of_mem ?_ (mapD_rise l)
 intro a b ha hb h
 rw [mapDU_key l _ a ha,mapDU_key l _ b hb]; exact h
theorem mapDU_has (l : List Node) (hd : ∀ i,i < l.length → ∀ j,j < i → fidN l j ≠ fidN l i) : ∀ i,i ≤ l.length → ∀ j,j < i → (fidN l j,l.getD j default) ∈ mapDU l i
 | 0,_,_,h => by omega
 | i + 1,hi,j,hj => by
  refine (mem_mput (mapDU_rise l i) _ _).2 ?_
  by_cases e : j = i
  ·subst e; exact .inl ⟨rfl,rfl⟩
  ·exact .inr ⟨hd i (by omega) j (by omega),mapDU_has l hd i (by omega) j (by omega)⟩
theorem sortN_mem (l : List Node) (hd : ∀ i,i < l.length → ∀ j,j < i → fidN l j ≠ fidN l i) (x : Node) : x ∈ sortN l ↔ x ∈ l := by
 constructor
 ·intro h
  obtain ⟨p,hp,rfl⟩ := List.mem_map.1 h
  exact mapDU_mem l _ (Nat.le_refl _) p hp
 ·intro h
  obtain ⟨i,hi,rfl⟩ := List.getElem_of_mem h
  refine List.mem_map.2 ⟨(fidN l i,l.getD i default),mapDU_has l hd _ (Nat.le_refl _) i hi,?_⟩
  rw [List.getD_eq_getElem?_getD,List.getElem?_eq_getElem hi]; rfl
theorem sortN_uniq (l : List Node) (hd : ∀ i,i < l.length → ∀ j,j < i → fidN l j ≠ fidN l i) (p : List Node) (hp : p.Perm l) (hs : p.Pairwise fun a b => a.fid ≤ b.fid) : p = sortN l := by
 have hne : l.Pairwise fun a b => a.fid ≠ b.fid := by
  rw [List.pairwise_iff_getElem]
  intro i j hi hj hij
  have := hd j hj i hij
  unfold fidN at this
  rw [List.getD_eq_getElem?_getD,List.getD_eq_getElem?_getD,List.getElem?_eq_getElem hi,List.getElem?_eq_getElem hj] at this
  exact this
 have hnp : p.Pairwise fun a b => a.fid ≠ b.fid := (hp.pairwise_iff (fun h => Ne.symm h)).2 hne
 refine uniq_sorted _ _ ?_ (sortN_rise l) fun x => by rw [sortN_mem l hd,hp.mem_iff]
 rw [List.pairwise_iff_getElem] at *
 intro i j hi hj hij
 have h1 := hs i j hi hj hij
 have h2 := hnp i j hi hj hij
 omega
theorem sortN_len (l : List Node) (hd : ∀ i,i < l.length → ∀ j,j < i → fidN l j ≠ fidN l i) : (sortN l).length = l.length := by
 have h1 := List.mergeSort_perm l (fun a b => decide (a.fid ≤ b.fid))
 have h2 := List.pairwise_mergeSort (le := fun a b : Node => decide (a.fid ≤ b.fid)) (by intro a b c; simp; omega) (by intro a b; simp; omega) l
 rw [← sortN_uniq l hd _ h1 (h2.imp (by simp))]
 exact h1.length_eq
def mayGo (k : Kept) : Bool := !k.dirty && !(k.node.fid == 0)
theorem cmpI_cases (a b : Int) : (a < b ∧ cmpI a b = -1) ∨ (a = b ∧ cmpI a b = 0) ∨ (b < a ∧ cmpI a b = 1) := by
 unfold cmpI
 by_cases h : a < b
 ·exact .inl ⟨h,if_pos h⟩
 ·rw [if_neg h]
  by_cases h2 : b < a
  ·exact .inr (.inr ⟨h2,if_pos h2⟩)
  ·exact .inr (.inl ⟨by omega,if_neg h2⟩)
structure Stays (l : List Kept) (room : Int) (k : Kept) (X : List Kept) : Prop where
 len : (X.length : Int) ≤ room
 short : X.length ≤ l.length + 1
 has : hasK X k.node.fid = true
 each : ∀ y,y ∈ l → hasK X y.node.fid = true ∨ (mayGo y = true ∧ ∀ z,z ∈ X → z.node.fid ≠ k.node.fid → mayGo z = true → y.worth ≤ z.worth)
structure Hoard where
 path : List UInt8
 worth : Int
deriving DecidableEq,Inhabited
structure Cli where
 number : Int
 away : Bool
 room : Int
 cache : List Kept
 log : List Rec
 repair : List Rec
 hoards : List Hoard
 clock : Int
 made : Int
 logged : Int
deriving DecidableEq,Inhabited
structure U where
 c : Cli
 s : Srv
structure Step where
 kind : Int
 client : Int
 n : Int
 path : List UInt8
 toPath : List UInt8
 data : List UInt8
deriving DecidableEq,Inhabited
structure Reply where
 err : Int
 n : Int
 m : Int
 data : List UInt8
deriving DecidableEq,Inhabited
structure Wor where
 s : Srv
 cs : List Cli
def getF (fid worth clk : Int) (k : Kept) : Kept := if k.node.fid = fid then { k with last := clk,worth := maxI k.worth worth } else k
def lookU (u : U) (fid worth : Int) : U := ⟨{ u.c with clock := u.c.clock + 1,cache := u.c.cache.map (getF fid worth (u.c.clock + 1)) },u.s⟩
def keepU (u : U) (k : Kept) : U := match keepK u.c.cache u.c.room k with
 | some l => ⟨{ u.c with cache := l },u.s⟩
 | none => u
def nodeK (l : List Kept) (fid : Int) : Option Node := (l.find? fun k => k.node.fid == fid).map (·.node)
structure Got where
 n : Node
 e : Int
 u : U
def getU (u : U) (fid worth : Int) : Got := match nodeK u.c.cache fid with
 | some n => ⟨n,0,lookU u fid worth⟩
 | none => if u.c.away = true then ⟨Yz,12,lookU u fid worth⟩ else match Yf u.s.tree fid with
  | none => ⟨Yz,6,lookU u fid worth⟩
  | some n => ⟨n,0,keepU (lookU u fid worth) ⟨n,false,worth,u.c.clock + 1⟩⟩
def goR (worth : Int) : List (List UInt8) → Got → Got
 | [],g => if g.e = 0 then g else ⟨Yz,g.e,g.u⟩
 | s :: r,g => if g.e ≠ 0 then ⟨Yz,g.e,g.u⟩ else if g.n.dir = false then ⟨Yz,8,g.u⟩ else match entryN g.n s with
  | none => ⟨Yz,6,g.u⟩
  | some f => goR worth r (getU g.u f worth)
def goU (u : U) (l : List (List UInt8)) (worth : Int) : Got := goR worth l (getU u 0 worth)
structure GotD where
 n : Node
 name : List UInt8
 e : Int
 u : U
def Yd (u : U) (path : List UInt8) : GotD :=
 if (Ys path).2 ≠ 0 then ⟨Yz,[],(Ys path).2,u⟩
 else if (Ys path).1.length = 0 then ⟨Yz,[],7,u⟩
 else ⟨(goU u ((Ys path).1.take ((Ys path).1.length - 1)) 0).n,(Ys path).1.getD ((Ys path).1.length - 1) [],
  if (goU u ((Ys path).1.take ((Ys path).1.length - 1)) 0).e = 0 ∧ (goU u ((Ys path).1.take ((Ys path).1.length - 1)) 0).n.dir = false then 8 else (goU u ((Ys path).1.take ((Ys path).1.length - 1)) 0).e,
  (goU u ((Ys path).1.take ((Ys path).1.length - 1)) 0).u⟩
def ownA (c : Cli) (a : Act) : Act := if Zm a = true then { a with fid := -1 - c.made } else a
def ownV (a : Act) (seen : Int) : Int := if Zm a = true then -1 else seen
def treeC (c : Cli) : List Node := sortN (nodesK c.cache)
def changedB (was : List Node) (a : Act) (n : Node) : Bool := !((match Yf was n.fid with
 | some o => sameN false o n
 | none => false) && (a.kind != 3 || n.fid != a.fid))
def dirtyK (was : List Node) (clk : Int) (n : Node) : Kept := ⟨{ n with version := ((Yf was n.fid).getD Yz).version },true,0,clk⟩
def keepAll (room clk : Int) (was : List Node) (a : Act) : List Node → List Kept → Option (List Kept)
 | [],l => some l
 | n :: r,l => if changedB was a n = true then (match keepK l room (dirtyK was clk n) with
  | none => none
  | some l' => keepAll room clk was a r l') else keepAll room clk was a r l
structure GotE where
 e : Int
 u : U
def ownLog (c : Cli) (a : Act) (seen : Int) : Option (List Rec) := addLog c.log ⟨ownA c a,ownV a seen,c.logged + 1⟩
noncomputable def ownNow (c : Cli) (a : Act) : List Node := Yj (treeC c) (ownA c a) 0
noncomputable def ownKeep (c : Cli) (a : Act) : Option (List Kept) := keepAll c.room c.clock (treeC c) (ownA c a) (ownNow c a) c.cache
noncomputable def ownU (u : U) (a : Act) (seen : Int) : GotE :=
 if Yb (treeC u.c) (ownA u.c a) ≠ 0 then ⟨Yb (treeC u.c) (ownA u.c a),u⟩ else match ownLog u.c a seen with
 | none => ⟨5,u⟩
 | some log => match ownKeep u.c a with
  | none => ⟨5,u⟩
  | some l => ⟨0,⟨{ u.c with cache := l.filter (fun k => isAt (ownNow u.c a) k.node.fid),log := log,logged := u.c.logged + 1,made := if Zm a = true then u.c.made + 1 else u.c.made },u.s⟩⟩
def freshC (c : Cli) (t : List Node) : Cli := { c with cache := c.cache.filter fun k => !staleK t k }
noncomputable def hereU (u : U) (a : Act) : GotE := if doE u.s a = 0 then ⟨0,⟨freshC u.c (doS u.s u.c.number a).tree,doS u.s u.c.number a⟩⟩ else ⟨doE u.s a,u⟩
noncomputable def actU (u : U) (a : Act) (seen : Int) : GotE := if u.c.away = true then ownU u a seen else hereU u a
def seenN (n : Node) : Int := if n.fid < 0 then -1 else n.version
def makeA (d : Int) (name : List UInt8) : Act := ⟨1,0,d,name,0,[],[]⟩
def mdirA (d : Int) (name : List UInt8) : Act := ⟨2,0,d,name,0,[],[]⟩
def storeA (fid : Int) (data : List UInt8) : Act := ⟨3,fid,0,[],0,[],data⟩
def removeA (fid d : Int) (name : List UInt8) : Act := ⟨4,fid,d,name,0,[],[]⟩
def renameA (fid d : Int) (name : List UInt8) (to : Int) (toName : List UInt8) : Act := ⟨5,fid,d,name,to,toName,[]⟩
noncomputable def putU (g : Got) (data : List UInt8) : GotE := if g.e ≠ 0 then ⟨g.e,g.u⟩ else actU g.u (storeA g.n.fid data) (seenN g.n)
noncomputable def writeU (u : U) (path data : List UInt8) : GotE :=
 if (Yd u path).e ≠ 0 then ⟨(Yd u path).e,(Yd u path).u⟩
 else if data.length > 20 then ⟨4,(Yd u path).u⟩
 else match entryN (Yd u path).n (Yd u path).name with
 | some f => putU (getU (Yd u path).u f 0) data
 | none => if (actU (Yd u path).u (makeA (Yd u path).n.fid (Yd u path).name) (-1)).e ≠ 0 then actU (Yd u path).u (makeA (Yd u path).n.fid (Yd u path).name) (-1)
  else putU (goU (actU (Yd u path).u (makeA (Yd u path).n.fid (Yd u path).name) (-1)).u (Ys path).1 0) data
noncomputable def mkdirU (u : U) (path : List UInt8) : GotE :=
 if (Yd u path).e ≠ 0 then ⟨(Yd u path).e,(Yd u path).u⟩ else actU (Yd u path).u (mdirA (Yd u path).n.fid (Yd u path).name) (-1)
structure GotP where
 d : Int
 name : List UInt8
 n : Node
 e : Int
 u : U
def atU (u : U) (path : List UInt8) : GotP :=
 if (Yd u path).e ≠ 0 then ⟨0,[],Yz,(Yd u path).e,(Yd u path).u⟩
 else match entryN (Yd u path).n (Yd u path).name with
 | none => ⟨0,[],Yz,6,(Yd u path).u⟩
 | some f => ⟨(Yd u path).n.fid,(Yd u path).name,(getU (Yd u path).u f 0).n,(getU (Yd u path).u f 0).e,(getU (Yd u path).u f 0).u⟩
noncomputable def removeU (u : U) (path : List UInt8) : GotE :=
 if (atU u path).e ≠ 0 then ⟨(atU u path).e,(atU u path).u⟩
 else actU (atU u path).u (removeA (atU u path).n.fid (atU u path).d (atU u path).name) (seenN (atU u path).n)
noncomputable def moveU (u : U) (path to : List UInt8) : GotE :=
 if (atU u path).e ≠ 0 then ⟨(atU u path).e,(atU u path).u⟩
 else if (Yd (atU u path).u to).e ≠ 0 then ⟨(Yd (atU u path).u to).e,(Yd (atU u path).u to).u⟩
 else actU (Yd (atU u path).u to).u (renameA (atU u path).n.fid (atU u path).d (atU u path).name (Yd (atU u path).u to).n.fid (Yd (atU u path).u to).name) (seenN (atU u path).n)
def refusedL : List Rec → List Verdict → List Rec
 | r :: l,v :: vs => if v.err = 0 then refusedL l vs else r :: refusedL l vs
 | _,_ => []
def doneN (vs : List Verdict) : Nat := (vs.filter fun v => v.err == 0).length
noncomputable def backVs (u : U) : List Verdict := (judgeJ u.s.tree u.s.next ((u.s.past.length + 1 : Nat) : Int) u.c.log).vs
noncomputable def backS (u : U) : Srv := takeS u.s u.c.number u.c.log
noncomputable def backU (u : U) : U :=
 ⟨{ u.c with away := false,log := [],repair := u.c.repair ++ refusedL u.c.log (backVs u),cache := (u.c.cache.filter fun k => !k.dirty).filter fun k => !staleK (backS u).tree k },backS u⟩
def hoardsF (l : List Hoard) (path : List UInt8) : List Hoard := l.filter fun h => !(h.path == path)
def hoardU (u : U) (path : List UInt8) (worth : Int) : GotE :=
 if (Ys path).2 ≠ 0 then ⟨(Ys path).2,u⟩ else if worth < 0 ∨ worth > 100 then ⟨3,u⟩
 else if 0 < worth ∧ (hoardsF u.c.hoards path).length ≥ 6 then ⟨5,u⟩
 else ⟨0,⟨{ u.c with hoards := if 0 < worth then hoardsF u.c.hoards path ++ [⟨path,worth⟩] else hoardsF u.c.hoards path },u.s⟩⟩
def orderH (l : List Hoard) : Nat → List Hoard
 | 0 => []
 | w + 1 => l.filter (fun h => h.worth == ((w + 1 : Nat) : Int)) ++ orderH l w
structure GotV where
 n : Nat
 u : U
def visitS (g : GotV) (h : Hoard) : GotV := ⟨if (goU g.u (Ys h.path).1 h.worth).e = 0 then g.n + 1 else g.n,(goU g.u (Ys h.path).1 h.worth).u⟩
def visitU (u : U) : GotV := (orderH u.c.hoards 100).foldl visitS ⟨0,u⟩
def listB (l : List Entry) : List UInt8 := l.flatMap fun e => e.name ++ [10]
structure GotS where
 u : U
 r : Reply
def readR (kind : Int) (g : Got) : Reply :=
 if g.e ≠ 0 then ⟨g.e,0,0,[]⟩
 else if kind = 1 then (if g.n.dir = true then ⟨9,0,0,[]⟩ else ⟨0,0,0,g.n.data⟩)
 else if g.n.dir = true then ⟨0,0,0,listB g.n.entries⟩ else ⟨8,0,0,[]⟩
def errR (e : Int) : Reply := ⟨e,0,0,[]⟩
noncomputable def Yw (u : U) (x : Step) : GotS :=
 if x.kind = 1 ∨ x.kind = 2 then (if (Ys x.path).2 ≠ 0 then ⟨u,errR (Ys x.path).2⟩ else ⟨(goU u (Ys x.path).1 0).u,readR x.kind (goU u (Ys x.path).1 0)⟩)
 else if x.kind = 3 then ⟨(writeU u x.path x.data).u,errR (writeU u x.path x.data).e⟩
 else if x.kind = 4 then ⟨(mkdirU u x.path).u,errR (mkdirU u x.path).e⟩
 else if x.kind = 5 then ⟨(removeU u x.path).u,errR (removeU u x.path).e⟩
 else if x.kind = 6 then ⟨(moveU u x.path x.toPath).u,errR (moveU u x.path x.toPath).e⟩
 else if x.kind = 7 then ⟨⟨{ u.c with away := true },u.s⟩,errR 0⟩
 else if x.kind = 8 then ⟨backU u,⟨0,doneN (backVs u),((backVs u).length - doneN (backVs u) : Nat),[]⟩⟩
 else if x.kind = 9 then ⟨(hoardU u x.path x.n).u,errR (hoardU u x.path x.n).e⟩
 else if x.kind = 10 then (if u.c.away = true then ⟨u,errR 12⟩ else ⟨(visitU u).u,⟨0,(visitU u).n,0,[]⟩⟩)
 else ⟨u,errR 1⟩
structure GotW where
 w : Wor
 r : Reply
def freshW (t : List Node) (c : Cli) : Cli := if c.away = true then c else freshC c t
noncomputable def worldU (w : Wor) (x : Step) : GotW :=
 if x.client < 0 ∨ x.client ≥ w.cs.length then ⟨w,errR 6⟩
 else ⟨⟨(Yw ⟨w.cs.getD x.client.toNat default,w.s⟩ x).u.s,(w.cs.set x.client.toNat (Yw ⟨w.cs.getD x.client.toNat default,w.s⟩ x).u.c).map (freshW (Yw ⟨w.cs.getD x.client.toNat default,w.s⟩ x).u.s.tree)⟩,(Yw ⟨w.cs.getD x.client.toNat default,w.s⟩ x).r⟩
def newC (number room : Int) : Cli := ⟨number,false,room,[],[],[],[],0,0,0⟩
def roomsE (rooms : List Int) : Int := if rooms.length < 1 ∨ 3 < rooms.length then 5 else if rooms.all (fun n => decide (3 ≤ n) && decide (n ≤ 24)) then 0 else 3
def newCs (rooms : List Int) (i : Nat) : List Cli := (List.range i).map fun (j : Nat) => newC (j : Int) (rooms.getD j 0)
def newS : Srv := ⟨[rootN],1,[]⟩
def newW (rooms : List Int) : Wor := ⟨newS,newCs rooms rooms.length⟩
noncomputable def buildW (rooms : List Int) (l : List Step) : Wor := l.foldl (fun w x => (worldU w x).w) (newW rooms)
end La
namespace La
open Go Go.Eng Go.Proofs
theorem rise_ext {α : Type} : ∀ {a b : List (Int × α)},RiseM a → RiseM b → (∀ p,p ∈ a ↔ p ∈ b) → a = b
 | [],[],_,_,_ => rfl
 | [],q :: b,_,_,h => absurd ((h q).2 List.mem_cons_self) (by simp)
 | p :: a,[],_,_,h => absurd ((h p).1 List.mem_cons_self) (by simp)
 | p :: a,q :: b,ha,hb,h => by
  have ha' := List.pairwise_cons.1 ha
  have hb' := List.pairwise_cons.1 hb
  have hpq : p = q := by
   rcases List.mem_cons.1 ((h p).1 List.mem_cons_self) with e | e
   ·exact e
   ·rcases List.mem_cons.1 ((h q).2 List.mem_cons_self) with e2 | e2
    ·exact e2.symm
    ·have h1 := hb'.1 p e
     have h2 := ha'.1 q e2
     omega
  subst hpq
  refine congrArg _ (rise_ext ha'.2 hb'.2 fun r => ?_)
  constructor
  ·intro hr
   rcases List.mem_cons.1 ((h r).1 (List.mem_cons_of_mem _ hr)) with e | e
   ·subst e; exact absurd (ha'.1 _ hr) (by omega)
   ·exact e
  ·intro hr
   rcases List.mem_cons.1 ((h r).2 (List.mem_cons_of_mem _ hr)) with e | e
   ·subst e; exact absurd (hb'.1 _ hr) (by omega)
   ·exact e
def seenM {α : Type} (m : List (Int × α)) (seen : List Int) : List (Int × α) := m.filter fun p => seen.contains p.1
theorem seenM_put {α : Type} {m : List (Int × α)} (h : RiseM m) {n : Int} {v : α} (hm : (n,v) ∈ m) {seen : List Int} : Zp (seenM m seen) n v = seenM m (n :: seen) := by
 have hr : RiseM (seenM m seen) := h.filter _
 refine rise_ext (mput_rise hr) (h.filter _) fun p => ?_
 obtain ⟨k,x⟩ := p
 rw [mem_mput hr]
 unfold seenM
 simp only [List.mem_filter,List.contains_cons,Bool.or_eq_true,beq_iff_eq]
 constructor
 ·rintro (⟨rfl,rfl⟩ | ⟨h1,h2,h3⟩)
  ·exact ⟨hm,.inl rfl⟩
  ·exact ⟨h2,.inr h3⟩
 ·rintro ⟨h1,h2⟩
  by_cases e : k = n
  ·subst e
   have a1 := mget_of_mem h h1
   have a2 := mget_of_mem h hm
   rw [a1] at a2; injection a2 with a2
   exact .inl ⟨rfl,a2⟩
  ·rcases h2 with h2 | h2
   ·exact absurd h2 e
   ·exact .inr ⟨e,h1,h2⟩
theorem seenM_all {α : Type} {m : List (Int × α)} {seen : List Int} (h : ∀ p,p ∈ m → p.1 ∈ seen) : seenM m seen = m := by
 unfold seenM
 exact List.filter_eq_self.2 fun p hp => by simpa using h p hp
def leftM {α : Type} : List (Int × α) → List Int → Nat
 | [],_ => 0
 | p :: r,seen => (if p.1 ∈ seen then 0 else 1) + leftM r seen
theorem leftM_le {α : Type} (n : Int) (seen : List Int) : ∀ m : List (Int × α),leftM m (n :: seen) ≤ leftM m seen
 | [] => Nat.le_refl _
 | p :: r => by
  have ih := leftM_le n seen r
  unfold leftM
  by_cases h : p.1 ∈ seen
  ·rw [if_pos h,if_pos (List.mem_cons_of_mem _ h)]; omega
  ·rw [if_neg h]; split <;> omega
theorem leftM_lt {α : Type} {n : Int} {v : α} {seen : List Int} : ∀ {m : List (Int × α)},(n,v) ∈ m → n ∉ seen → leftM m (n :: seen) < leftM m seen
 | [],h,_ => by cases h
 | p :: r,h,hs => by
  have hle := leftM_le n seen r
  unfold leftM
  rcases List.mem_cons.1 h with rfl | h
  ·rw [if_pos List.mem_cons_self,if_neg hs]; omega
  ·have ih := leftM_lt h hs
   by_cases h2 : p.1 ∈ seen
   ·rw [if_pos h2,if_pos (List.mem_cons_of_mem _ h2)]; omega
   ·rw [if_neg h2]; split <;> omega
theorem seenM_nil {α : Type} (m : List (Int × α)) : seenM m [] = [] := by unfold seenM; simp
theorem mN_mem {m : List (Int × Node)} {n : Int} {v : AV} (h : (n,v) ∈ mN m) : ∃ nd,v = .agg (ZN nd) ∧ (n,nd) ∈ m := by
 obtain ⟨p,hp,e⟩ := List.mem_map.1 h
 injection e with e1 e2
 exact ⟨p.2,e2.symm,by rw [← e1]; exact hp⟩
theorem mN_has {m : List (Int × Node)} {n : Int} {nd : Node} (h : (n,nd) ∈ m) : (n,AV.agg (ZN nd)) ∈ mN m := List.mem_map.2 ⟨_,h,rfl⟩
theorem mN_len (m : List (Int × Node)) : (mN m).length = m.length := by simp [mN]
theorem mN_nil : ([] : List (Int × AV)) = mN [] := rfl
theorem with_ok (m : List (Int × Node)) (n : Node) (hr : RiseM m) : FnOK Tryz.prog 61 [.rm (mN m),.agg (ZN n)] [] (fun r _ => r = .rm (mN (Zp m n.fid n))) := by
 unfold ZN
 refine ZF tK (Tryz.func61) rfl (fun C => ?_)
 simp only [Tryz.ntmps61,Tryz.results61,go_sem]
 refine wG tK ?_
 refine cw_range tK rfl rfl rfl (by simp only [go_sem]; try exact rfl) (by simp only [go_sem]; try exact rfl) (by simp only [go_sem]; try exact rfl) ?_
 refine wG tK ?_
 refine ZL (fun _ : List Int => True) (fun seen => leftM m seen) (fun _ => [(6,.any),(7,.any),(11,.any),(12,.any),(13,.any),(14,.any),(15,.any),(16,.any),(17,.any),(18,.any)]) (fun seen => [(8,.map (mN (seenM m seen))),(10,.iter (mN m) seen)]) [] trivial ?_ fun seen _ => ?_
 ·simp only [go_sem]
  exact ZU (by simp [go_sem]) (by simp [go_sem,seenM_nil,mN_nil]) (by simp [go_sem])
 simp only [go_sem]
 refine wR ?_
 refine cw_next rfl rfl (by simp only [go_sem]; try exact rfl) (by simp only [go_sem]; try exact rfl) (fun hall => ?_) (fun n v hnv hns => ?_)
 ·have hsa : seenM m seen = m := seenM_all fun p hp => hall (p.1,.agg (ZN p.2)) (mN_has hp)
  rw [hsa]
  simp only [go_sem]
  refine wG tK ?_
  refine Vf rfl ?_
  refine wGq tK ?_ ?_
  ·simp [AV.deepB,AV.pureB]
  rw [show AV.agg [.int .i64 n.fid,.bool n.dir,.sl (n.data.map ZY),.sl (n.entries.map ZE),.int .i64 n.version] = .agg (ZN n) from rfl,mN_put]
  refine cw_freezeM 8 rfl ?_
  simp only [go_sem]
  refine wT ?_
  rfl
 ·obtain ⟨nd,rfl,hmem⟩ := mN_mem hnv
  have hpt := seenM_put hr hmem (seen := seen)
  have hlt := leftM_lt hmem hns
  simp only [go_sem]
  refine wG tK ?_
  refine Vt rfl ?_
  refine wR ?_
  refine cw_entry rfl rfl (by simp only [go_sem]; try exact rfl) (by simp only [go_sem]; try exact rfl) (hnv) ?_
  simp only [go_sem]
  refine wGq tK ?_ ?_ (by simp only [go_sem,ZN]; try exact rfl)
  ·simp [ZN,AV.deepB,AV.pureB]
  refine ZB ⟨n :: seen,hlt,ZU ?_ ?_ ?_⟩
  ·simp [go_sem]
  ·simp [go_sem,← hpt,← mN_put,ZN]
  ·simp [go_sem]
theorem mdel_seen {α : Type} {m : List (Int × α)} (h : RiseM m) {n : Int} {v : α} (hm : (n,v) ∈ m) (seen : List Int) (fid : Int) :
  (n ≠ fid → Zp (mdel (seenM m seen) fid) n v = mdel (seenM m (n :: seen)) fid) ∧ (n = fid → mdel (seenM m seen) fid = mdel (seenM m (n :: seen)) fid) := by
 have hr : RiseM (seenM m seen) := h.filter _
 refine ⟨fun hne => ?_,fun he => ?_⟩
 ·rw [← seenM_put h hm]
  refine rise_ext (mput_rise (mdel_rise hr)) (mdel_rise (mput_rise hr)) fun p => ?_
  obtain ⟨k,x⟩ := p
  rw [mem_mput (mdel_rise hr)]
  unfold mdel
  rw [List.mem_filter,List.mem_filter,mem_mput hr]
  simp only [Bool.not_eq_true',beq_eq_false_iff_ne]
  constructor
  ·rintro (⟨rfl,rfl⟩ | ⟨h1,h2,h3⟩)
   ·exact ⟨.inl ⟨rfl,rfl⟩,hne⟩
   ·exact ⟨.inr ⟨h1,h2⟩,h3⟩
  ·rintro ⟨⟨rfl,rfl⟩ | ⟨h1,h2⟩,h3⟩
   ·exact .inl ⟨rfl,rfl⟩
   ·exact .inr ⟨h1,h2,h3⟩
 ·subst he
  unfold mdel seenM
  rw [List.filter_filter,List.filter_filter]
  refine List.filter_congr fun p _ => ?_
  simp only [List.contains_cons]
  cases h1 : (p.1 == n) <;> simp
theorem mdel_nil {α : Type} (fid : Int) : mdel ([] : List (Int × α)) fid = [] := rfl
theorem without_ok (m : List (Int × Node)) (fid : Int) (hr : RiseM m) : FnOK Tryz.prog 65 [.rm (mN m),.int .i64 fid] [] (fun r _ => r = .rm (mN (mdel m fid))) := by
 refine ZF tK (Tryz.func65) rfl (fun C => ?_)
 simp only [Tryz.ntmps65,Tryz.results65,go_sem]
 refine wG tK ?_
 refine cw_range tK rfl rfl rfl (by simp only [go_sem]; try exact rfl) (by simp only [go_sem]; try exact rfl) (by simp only [go_sem]; try exact rfl) ?_
 refine wG tK ?_
 refine ZL (fun _ : List Int => True) (fun seen => leftM m seen) (fun _ => [(6,.any),(7,.any),(11,.any),(12,.any),(13,.any),(14,.any),(15,.any),(16,.any),(17,.any),(18,.any),(19,.any),(20,.any),(21,.any)]) (fun seen => [(8,.map (mN (mdel (seenM m seen) fid))),(10,.iter (mN m) seen)]) [] trivial ?_ fun seen _ => ?_
 ·simp only [go_sem]
  exact ZU (by simp [go_sem]) (by simp [go_sem,seenM_nil,mdel_nil,mN_nil]) (by simp [go_sem])
 simp only [go_sem]
 refine wR ?_
 refine cw_next rfl rfl (by simp only [go_sem]; try exact rfl) (by simp only [go_sem]; try exact rfl) (fun hall => ?_) (fun n v hnv hns => ?_)
 ·have hsa : seenM m seen = m := seenM_all fun p hp => hall (p.1,.agg (ZN p.2)) (mN_has hp)
  rw [hsa]
  simp only [go_sem]
  refine wG tK ?_
  refine Vf rfl ?_
  refine wG tK ?_
  refine cw_freezeM 8 rfl ?_
  simp only [go_sem]
  refine wT ?_
  rfl
 ·obtain ⟨nd,rfl,hmem⟩ := mN_mem hnv
  obtain ⟨hp1,hp2⟩ := mdel_seen hr hmem seen fid
  have hlt := leftM_lt hmem hns
  simp only [go_sem]
  refine wG tK ?_
  refine Vt rfl ?_
  refine wR ?_
  refine cw_entry rfl rfl (by simp only [go_sem]; try exact rfl) (by simp only [go_sem]; try exact rfl) (hnv) ?_
  simp only [go_sem]
  refine wGq tK ?_ ?_ (by simp only [go_sem,ZN]; try exact rfl)
  ·simp [ZN]
  by_cases hf : n = fid
  ·have hp2 := hp2 hf
   refine wDF (hb := by simp [hf]) (hk := ?_)
   refine wG tK ?_
   refine ZB ⟨n :: seen,hlt,ZU ?_ ?_ ?_⟩
   ·simp [go_sem]
   ·simp [go_sem,← hp2]
   ·simp [go_sem]
  ·have hp1 := hp1 hf
   refine wDT (hb := by simpa using hf) (hk := ?_)
   refine wGq tK ?_ ?_ (by simp only [go_sem,ZN]; try exact rfl)
   ·simp [ZN,AV.deepB,AV.pureB]
   refine ZB ⟨n :: seen,hlt,ZU ?_ ?_ ?_⟩
   ·simp [go_sem]
   ·simp [go_sem,← hp1,← mN_put,ZN]
   ·simp [go_sem]
def rEntryE (l : List Entry) (s : List UInt8) : Option Entry := l.find? fun e => e.name == s
def rEntryR (l : List Entry) (s : List UInt8) : AV := match rEntryE l s with
 | some e => .tup [.int .i64 e.fid,.bool true]
 | none => .tup [.int .i64 0,.bool false]
theorem find_none_take {l : List Entry} {s : List UInt8} (h : ∀ e,e ∈ l → (e.name == s) = false) : rEntryE l s = none := List.find?_eq_none.2 fun e he => by rw [h e he]; simp
theorem find_some_at {l : List Entry} {s : List UInt8} {i : Nat} (hi : i < l.length) (h : ∀ e,e ∈ l.take i → (e.name == s) = false) (hs : ((l.getD i default).name == s) = true) : rEntryE l s = some (l.getD i default) := by
 unfold rEntryE
 have e : l = l.take i ++ (l.getD i default :: l.drop (i + 1)) := by rw [← drop_getD hi,List.take_append_drop]
 conv => lhs; rw [e]
 rw [List.find?_append,List.find?_eq_none.2 (fun e he => by rw [h e he]; simp),Option.none_or,List.find?_cons,hs]
theorem rentry_ok (n : Node) (s : List UInt8) (hn : n.entries.length ≤ 100000000) : FnOK Tryz.prog 63 [.agg (ZN n),.str s] [] (fun r _ => r = rEntryR n.entries s) := by
 unfold rEntryR ZN
 refine ZF tK (Tryz.func63) rfl (fun C => ?_)
 simp only [Tryz.ntmps63,Tryz.results63,go_sem]
 refine wG tK ?_
 refine ZL (fun i : Nat => i ≤ n.entries.length ∧ ∀ e,e ∈ n.entries.take i → (e.name == s) = false) (fun i => n.entries.length - i) (fun i => [(7,.any),(11,.int .i64 i),(12,.any),(13,.any),(14,.any),(15,.any),(16,.any),(17,.any),(18,.any),(19,.any),(20,.any),(21,.any)]) (fun _ => []) 0 ⟨by omega,by simp⟩ ?_ fun i hi => ?_
 ·simp only [go_sem]
  exact ZU (by simp [go_sem]) (by simp [go_sem]) (by simp [go_sem])
 obtain ⟨hi,hno⟩ := hi
 simp only [go_sem]
 refine wG tK ?_
 refine wD (fun h => ?_) (fun h => ?_)
 ·have hlt : i < n.entries.length := by simp at h; omega
  have hg : (n.entries.map ZE).getD i [] = ZE (n.entries.getD i default) := Fam.getD hlt
  have hw := wi1 (i := i) (by omega)
  have hfs := @find_some_at n.entries s i hlt hno
  have htk := ZT hlt
  generalize n.entries.getD i default = e at *
  refine wGq tK ?_ ?_ (by simp only [go_sem,hg,ZE]; try exact rfl)
  ·simp [hg,ZE,hlt]
  cases hb : (e.name == s) with
  | true =>
   rw [hfs hb]
   refine wDT (hb := by simp) (hk := ?_)
   refine wG tK ?_
   refine wT ?_
   rfl
  | false =>
   refine wDF (hb := by simp) (hk := ?_)
   refine wG tK ?_ (by simp only [go_sem,hw]; try exact rfl) (by simp [go_sem,hw])
   refine ZB ⟨i + 1,⟨by omega,?_⟩,by omega,ZU ?_ ?_ ?_⟩
   ·rw [htk]
    intro x hx
    rcases List.mem_append.1 hx with hx | hx
    ·exact hno x hx
    ·rw [List.mem_singleton.1 hx]; exact hb
   ·simp [go_sem]
   ·simp [go_sem]
   ·simp [go_sem]
 ·have e : i = n.entries.length := by simp at h; omega
  subst e
  rw [List.take_length] at hno
  rw [find_none_take hno]
  refine wG tK ?_
  refine wT ?_
  rfl
def rLeaveE (l : List Entry) (s : List UInt8) : List Entry := l.filter fun e => !(e.name == s)
def rLeaveN (n : Node) (s : List UInt8) : Node := { n with entries := rLeaveE n.entries s }
theorem rleave_ok (n : Node) (s : List UInt8) (hn : n.entries.length ≤ 100000000) : FnOK Tryz.prog 64 [.agg (ZN n),.str s] [] (fun r _ => r = .agg (ZN (rLeaveN n s))) := by
 have hz : rLeaveE (n.entries.take n.entries.length) s = rLeaveE n.entries s := by rw [List.take_length]
 unfold rLeaveN ZN
 simp only
 rw [← hz]
 refine ZF tK (Tryz.func64) rfl (fun C => ?_)
 simp only [Tryz.ntmps64,Tryz.results64,go_sem]
 refine wG tK ?_
 refine Yl (Ze 22 135 2 (by simp only [go_sem]; try exact rfl)) ?_
 simp only [go_sem]
 refine ZL (fun i : Nat => i ≤ n.entries.length) (fun i => n.entries.length - i) (fun i => [(5,.osl 22 2 0 (rLeaveE (n.entries.take i) s).length),(7,.any),(11,.int .i64 i),(12,.any),(13,.any),(14,.any),(15,.any),(16,.any),(17,.any),(18,.any),(19,.any),(20,.any),(21,.any),(22,.any),(23,.any)]) (fun i => [(22,.cells 135 2 ((rLeaveE (n.entries.take i) s).map ZE))]) 0 (by omega) ?_ fun i hi => ?_
 ·simp only [go_sem]
  exact ZU (by simp [go_sem,rLeaveE]) (by simp [go_sem,rLeaveE]) (by simp [go_sem])
 simp only [go_sem]
 refine wG tK ?_
 refine wD (fun h => ?_) (fun h => ?_)
 ·have hlt : i < n.entries.length := by simp at h; omega
  have hg : (n.entries.map ZE).getD i [] = ZE (n.entries.getD i default) := Fam.getD hlt
  have hw := wi1 (i := i) (by omega)
  have htk : rLeaveE (n.entries.take (i + 1)) s = if ((n.entries.getD i default).name == s) = true then rLeaveE (n.entries.take i) s else rLeaveE (n.entries.take i) s ++ [n.entries.getD i default] := by
   rw [ZT hlt]; unfold rLeaveE
   rw [List.filter_append,List.filter_cons]
   cases ((n.entries.getD i default).name == s) <;> simp
  have hll : (rLeaveE (n.entries.take i) s).length ≤ i := by
   have := List.length_filter_le (fun e : Entry => !(e.name == s)) (n.entries.take i)
   unfold rLeaveE
   simp only [List.length_take] at this
   omega
  generalize n.entries.getD i default = e at *
  refine wGq tK ?_ ?_ (by simp only [go_sem,hg,ZE]; try exact rfl)
  ·simp [hg,ZE,hlt]
  cases hb : (e.name == s) with
  | true =>
   rw [hb,if_pos rfl] at htk
   refine wDF (hb := by simp) (hk := ?_)
   refine wG tK ?_ (by simp only [go_sem,hw]; try exact rfl) (by simp [go_sem,hw])
   refine ZB ⟨i + 1,by omega,by omega,ZU ?_ ?_ ?_⟩
   ·simp [go_sem,htk]
   ·simp [go_sem,htk]
   ·simp [go_sem]
  | false =>
   rw [hb,if_neg Bool.false_ne_true] at htk
   refine wDT (hb := by simp) (hk := ?_)
   refine wGq tK ?_ ?_ (by simp only [go_sem,hw]; try exact rfl)
   ·simp [rowsOf]; omega
   refine ZB ⟨i + 1,by omega,by omega,ZU ?_ ?_ ?_⟩
   ·simp [go_sem,htk]
   ·simp [go_sem,htk,ZE]
   ·simp [go_sem]
 ·have e : i = n.entries.length := by simp at h; omega
  subst e
  refine wG tK ?_
  refine ZZ 22 rfl (entryRow_pure _) ?_
  simp only [go_sem]
  refine wT ?_
  simp
end La
namespace La
open Go Go.Eng
theorem get_ext {α : Type} {a b : List (Int × α)} (ha : RiseM a) (hb : RiseM b) (h : ∀ k,Zg a k = Zg b k) : a = b :=
 rise_ext ha hb fun p => by
  obtain ⟨k,x⟩ := p
  constructor
  ·intro hp; exact mget_mem (by rw [← h]; exact mget_of_mem ha hp)
  ·intro hp; exact mget_mem (by rw [h]; exact mget_of_mem hb hp)
theorem mget_mdel {α : Type} {m : List (Int × α)} (h : RiseM m) (f k : Int) : Zg (mdel m f) k = if k = f then none else Zg m k := by
 have hd : RiseM (mdel m f) := mdel_rise h
 have hm : ∀ x,(k,x) ∈ mdel m f ↔ (k,x) ∈ m ∧ k ≠ f := fun x => by
  unfold mdel; rw [List.mem_filter]; simp
 by_cases e : k = f
 ·rw [if_pos e]
  cases e1 : Zg (mdel m f) k with
  | none => rfl
  | some x => exact absurd e ((hm x).1 (mget_mem e1)).2
 ·rw [if_neg e]
  cases e1 : Zg m k with
  | none =>
   cases e2 : Zg (mdel m f) k with
   | none => rfl
   | some x =>
    have := mget_of_mem h ((hm x).1 (mget_mem e2)).1
    rw [e1] at this; cases this
  | some x => exact mget_of_mem hd ((hm x).2 ⟨mget_mem e1,e⟩)
theorem mapD_put {l : List Node} (h : Up l) (n : Node) : Zp (mapD l) n.fid n = mapD (Yu l n) :=
 get_ext (mput_rise (mapD_rise l)) (mapD_rise _) fun k => by
  rw [mget_mput (mapD_rise l),mapD_get h,mapD_get (putN_up h n).1,findN_put h]
theorem mapD_del {l : List Node} (h : Up l) (f : Int) : mdel (mapD l) f = mapD (dropN l f) :=
 get_ext (mdel_rise (mapD_rise l)) (mapD_rise _) fun k => by
  rw [mget_mdel (mapD_rise l),mapD_get h,mapD_get (dropN_up h f).1,findN_drop h]
theorem mapD_eq {l : List Node} (h : Up l) : mapD l = l.map fun n => (n.fid,n) := by
 refine rise_ext (mapD_rise l) ?_ fun p => ?_
 ·exact List.pairwise_map.2 h
 ·obtain ⟨k,x⟩ := p
  rw [List.mem_map]
  constructor
  ·intro hp
   have := mget_of_mem (mapD_rise l) hp
   rw [mapD_get h] at this
   obtain ⟨h1,h2⟩ := (ZO h).1 this
   exact ⟨x,h1,by rw [h2]⟩
  ·rintro ⟨n,hn,e⟩
   injection e with e1 e2
   subst e1 e2
   exact mget_mem (by rw [mapD_get h]; exact (ZO h).2 ⟨hn,rfl⟩)
theorem mapD_len {l : List Node} (h : Up l) : (mapD l).length = l.length := by rw [mapD_eq h,List.length_map]
theorem rEntry_entryN {n : Node} (h : EUp n.entries) (s : List UInt8) : rEntryR n.entries s = match entryN n s with | some f => .tup [.int .i64 f,.bool true] | none => .tup [.int .i64 0,.bool false] := by
 unfold rEntryR
 cases e : rEntryE n.entries s with
 | none =>
  have : entryN n s = none := (entryN_none h).2 fun x hx hn => by
   have := List.find?_eq_none.1 e x hx
   simp [hn] at this
  rw [this]
 | some x =>
  have hx : x ∈ n.entries := List.mem_of_find?_eq_some e
  have hs : x.name = s := by have := List.find?_some e; simpa using this
  have : entryN n s = some x.fid := (YE h).2 (by rw [← hs]; exact hx)
  rw [this]
def entS (s : List UInt8) (f : Int) (q : Bool × List Entry) (e : Entry) : Bool × List Entry := if (!q.1 && Op.bytesLess s e.name) = true then (true,q.2 ++ [⟨s,f⟩] ++ [e]) else (q.1,q.2 ++ [e])
def entT (s : List UInt8) (f : Int) (l : List Entry) : Bool × List Entry := l.foldl (entS s f) (false,[])
def rEnterE (l : List Entry) (s : List UInt8) (f : Int) : List Entry := if (entT s f (rLeaveE l s)).1 = true then (entT s f (rLeaveE l s)).2 else (entT s f (rLeaveE l s)).2 ++ [⟨s,f⟩]
def rEnterN (n : Node) (s : List UInt8) (f : Int) : Node := { n with entries := rEnterE n.entries s f }
theorem entT_len (s : List UInt8) (f : Int) (l : List Entry) : (entT s f l).2.length ≤ 2 * l.length := by
 have : ∀ (l : List Entry) (q : Bool × List Entry),(l.foldl (entS s f) q).2.length ≤ q.2.length + 2 * l.length := fun l => by
  induction l with
  | nil => intro q; simp
  | cons e r ih =>
   intro q
   have h1 := ih (entS s f q e)
   have h2 : (entS s f q e).2.length ≤ q.2.length + 2 := by unfold entS; split <;> simp
   rw [List.foldl_cons,List.length_cons]
   omega
 have := this l (false,[])
 simpa [entT] using this
theorem entT_snoc (s : List UInt8) (f : Int) (l : List Entry) (e : Entry) : entT s f (l ++ [e]) = entS s f (entT s f l) e := by unfold entT; rw [List.foldl_append]; rfl
theorem entS_low (s : List UInt8) (f : Int) : ∀ (l : List Entry) (b : Bool) (q : List Entry),(∀ e,e ∈ l → e.name < s) → l.foldl (entS s f) (b,q) = (b,q ++ l)
 | [],b,q,_ => by simp
 | e :: r,b,q,h => by
  have h1 := h e List.mem_cons_self
  have h2 : Op.bytesLess s e.name = false := by
   rw [less_iff]
   exact decide_eq_false fun h3 => sirr _ (strans h1 h3)
  rw [List.foldl_cons,show entS s f (b,q) e = (b,q ++ [e]) from by simp [entS,h2],entS_low s f r b _ fun x hx => h x (List.mem_cons_of_mem _ hx)]
  simp
theorem entS_true (s : List UInt8) (f : Int) : ∀ (l : List Entry) (q : List Entry),l.foldl (entS s f) (true,q) = (true,q ++ l)
 | [],q => by simp
 | e :: r,q => by
  rw [List.foldl_cons,show entS s f (true,q) e = (true,q ++ [e]) from by simp [entS],entS_true s f r]
  simp
theorem rEnter_enter {l : List Entry} (h : EUp l) {s : List UInt8} (hs : isE l s = false) (f : Int) : rEnterE l s f = Zt l s f := by
 obtain ⟨h1,h2⟩ := h.parts hs
 have hlv : rLeaveE l s = l := by
  unfold rLeaveE
  refine List.filter_eq_self.2 fun e he => ?_
  have : e.name ≠ s := fun hn => by
   have := (isE_iff h s).2 ⟨e,he,hn⟩
   rw [hs] at this; cases this
  simpa using this
 unfold rEnterE
 rw [hlv]
 unfold Zt
 rw [hs,if_neg (show ¬ (false = true) by simp)]
 have hl : entT s f l = (l.drop (Yq l s)).foldl (entS s f) (false,l.take (Yq l s)) := by
  unfold entT
  conv => lhs; rw [← List.take_append_drop (Yq l s) l]
  rw [List.foldl_append,entS_low s f _ false [] h1]
  simp
 rw [hl]
 generalize hd : l.drop (Yq l s) = d at h2 ⊢
 cases d with
 | nil => simp
 | cons e r =>
  have h3 : Op.bytesLess s e.name = true := by rw [less_iff]; exact decide_eq_true (h2 e List.mem_cons_self)
  rw [List.foldl_cons,show entS s f (false,l.take (Yq l s)) e = (true,l.take (Yq l s) ++ [⟨s,f⟩] ++ [e]) from by simp [entS,h3],entS_true]
  simp
theorem rEnterN_enterN {n : Node} (h : EUp n.entries) {s : List UInt8} (hs : isE n.entries s = false) (f : Int) : rEnterN n s f = Ye n s f := by
 unfold rEnterN Ye; rw [rEnter_enter h hs]
open Classical in
noncomputable def rRenameE (l : List Node) (a : Act) : Int := if namedE l a = 0 then (if dirE l a.to = 0 then (if roomE (toN l a) a.toName = 0 then (if isAt l a.fid = true then (if decide (MReach (mapD l) a.fid a.to) = true then 11 else 0) else 12) else roomE (toN l a) a.toName) else dirE l a.to) else namedE l a
noncomputable def rRenameL (l : List Node) (a : Act) (v : Int) : List Node := if rRenameE l a = 0 then Yu (if a.to = a.dir then l else Yu l { Yv (Yg l a.dir) a.name with version := v }) { Ye (toN l a) a.toName a.fid with version := v } else l
noncomputable def Ya (l : List Node) (a : Act) : Int := if a.kind = 1 then makeE l a else if a.kind = 2 then makeE l a else if a.kind = 3 then storeE l a else if a.kind = 4 then removeE l a else if a.kind = 5 then rRenameE l a else 1
noncomputable def rApplyL (l : List Node) (a : Act) (v : Int) : List Node := if a.kind = 1 then makeL l a v else if a.kind = 2 then makeL l a v else if a.kind = 3 then storeL l a v else if a.kind = 4 then removeL l a v else if a.kind = 5 then rRenameL l a v else l
noncomputable def rApplyA (l : List Node) (a : Act) (v : Int) : AV := if Ya l a = 0 then .tup [.rm (mN (mapD (rApplyL l a v))),.int .i64 0] else .tup [.nilm,.int .i64 (Ya l a)]
structure Ri (l : List Node) : Prop where
 up : Up l
 eup : ∀ n,n ∈ l → EUp n.entries
theorem Ri.find {l : List Node} (h : Ri l) (k : Int) : EUp (Yg l k).entries := by
 unfold Yg
 cases e : Yf l k with
 | none => exact List.Pairwise.nil
 | some n => exact h.eup n ((ZO h.up).1 e).1
theorem Ri.put {l : List Node} (h : Ri l) {n : Node} (hn : EUp n.entries) : Ri (Yu l n) :=
 ⟨(putN_up h.up n).1,fun m hm => by
  rcases pmem hm with rfl | hm
  ·exact hn
  ·exact h.eup m hm⟩
theorem Ri.drop {l : List Node} (h : Ri l) (f : Int) : Ri (dropN l f) := ⟨(dropN_up h.up f).1,fun m hm => h.eup m (((dropN_up h.up f).2 m).1 hm).1⟩
theorem Ri.to {l : List Node} (h : Ri l) (a : Act) : EUp (toN l a).entries := by
 unfold toN
 split
 ·exact leave_up (h.find _) _
 ·exact h.find _
theorem Ri.apply {l : List Node} (h : Ri l) (a : Act) (v : Int) : Ri (rApplyL l a v) := by
 have hmk : Ri (makeL l a v) := by
  unfold makeL
  split
  ·rename_i he
   unfold makeE at he
   split at he
   ·split at he
    ·rename_i hr
     refine (h.put ?_).put List.Pairwise.nil
     exact (enterE_up (h.find _) (roomE_free hr).2 _).1
    ·rename_i hr; exact absurd he hr
   ·rename_i hr; exact absurd he hr
  ·exact h
 unfold rApplyL
 split
 ·exact hmk
 ·split
  ·exact hmk
  ·split
   ·unfold storeL
    split
    ·exact h.put (h.find _)
    ·exact h
   ·split
    ·unfold removeL
     split
     ·exact (h.put (leave_up (h.find _) _)).drop _
     ·exact h
    ·split
     ·unfold rRenameL
      split
      ·rename_i he
       have hr : roomE (toN l a) a.toName = 0 := by
        unfold rRenameE at he
        split at he
        ·split at he
         ·split at he
          ·assumption
          ·rename_i hr; exact absurd he hr
         ·rename_i hr; exact absurd he hr
        ·rename_i hr; exact absurd he hr
       refine Ri.put ?_ (enterE_up (h.to a) (roomE_free hr).2 _).1
       split
       ·exact h
       ·exact h.put (leave_up (h.find _) _)
      ·exact h
     ·exact h
theorem MReach.head {m : List (Int × Node)} {k : Int} {n : Node} {e : Entry} {t : Int} (hn : Zg m k = some n) (he : e ∈ n.entries) (h : MReach m e.fid t) : MReach m k t := by
 induction h with
 | refl => exact .step .refl hn he
 | step _ hn' he' ih => exact .step ih hn' he'
theorem reach_of_mreach {l : List Node} (hu : Up l) {k t : Int} (h : MReach (mapD l) k t) : Reach l k t := by
 induction h with
 | refl => exact .refl _
 | step _ hn he ih =>
  rw [mapD_get hu] at hn
  obtain ⟨h1,h2⟩ := (ZO hu).1 hn
  subst h2
  exact Reach.tail h1 he ih
theorem mreach_of_within {l : List Node} (hu : Up l) (t : Int) : ∀ (f : Nat) (k : Int),Zi l t f k = some true → MReach (mapD l) k t
 | 0,_,h => by cases h
 | f + 1,k,h => by
  rw [Zi] at h
  split at h
  ·rename_i e; rw [e]; exact .refl
  ·cases e : Yf l k with
   | none => rw [e] at h; cases h
   | some n =>
    rw [e] at h
    simp only at h
    split at h
    ·injection h with h
     obtain ⟨x,hx,hx2⟩ := List.any_eq_true.1 h
     rw [Bool.and_eq_true] at hx2
     have h3 : Zi l t f x.fid = some true := by
      have := hx2.2
      cases h4 : Zi l t f x.fid with
      | none => rw [h4] at this; cases this
      | some b => rw [h4] at this; exact congrArg some this
     exact MReach.head (by rw [mapD_get hu]; exact e) hx (mreach_of_within hu t f x.fid h3)
    ·cases h
open Classical in
theorem Good.within {l : List Node} (h : Good l) (t k : Int) : withinB l t k = decide (MReach (mapD l) k t) := by
 obtain ⟨f,hf⟩ := h.ends t k
 obtain ⟨r,hr⟩ := h.falls
 by_cases hm : MReach (mapD l) k t
 ·rw [decide_eq_true hm]
  exact within_reach h.up hr (reach_of_mreach h.up hm) f _ hf
 ·rw [decide_eq_false hm]
  cases hb : withinB l t k with
  | false => rfl
  | true => rw [hb] at hf; exact absurd (mreach_of_within h.up t f k hf) hm
theorem Good.renameE {l : List Node} (h : Good l) (a : Act) : rRenameE l a = La.renameE l a := by
 unfold rRenameE La.renameE
 rw [h.within a.to a.fid]
theorem Good.renameL {l : List Node} (h : Good l) (a : Act) (v : Int) : rRenameL l a v = La.renameL l a v := by
 unfold rRenameL La.renameL
 rw [h.renameE a]
theorem Good.applyE {l : List Node} (h : Good l) (a : Act) : Ya l a = La.Yb l a := by
 unfold Ya La.Yb
 rw [h.renameE a]
theorem Good.applyL {l : List Node} (h : Good l) (a : Act) (v : Int) : rApplyL l a v = La.Yj l a v := by
 unfold rApplyL La.Yj
 rw [h.renameL a v]
def NmE (l : List Entry) : Prop := ∀ e,e ∈ l → e.name.length ≤ 40
structure Nm (l : List Node) : Prop where
 up : Up l
 nm : ∀ n,n ∈ l → NmE n.entries
theorem NmE.nil : NmE [] := fun _ h => by cases h
theorem nameB_len {s : List UInt8} (h : nameB s = true) : s.length ≤ 40 := by
 unfold nameB at h
 rw [Bool.and_eq_true,Bool.and_eq_true,decide_eq_true_eq,decide_eq_true_eq] at h
 omega
theorem NmE.enter {l : List Entry} (h : NmE l) {s : List UInt8} (hs : nameB s = true) (f : Int) : NmE (Zt l s f) := fun e he => by
 rcases enterE_mem he with rfl | he
 ·exact nameB_len hs
 ·exact h e he
theorem NmE.leave {l : List Entry} (h : NmE l) (s : List UInt8) : NmE (leaveE l s) := fun e he => h e (leaveE_mem he)
theorem Nm.find {l : List Node} (h : Nm l) (k : Int) : NmE (Yg l k).entries := by
 unfold Yg
 cases e : Yf l k with
 | none => exact .nil
 | some n => exact h.nm n ((ZO h.up).1 e).1
theorem Nm.put {l : List Node} (h : Nm l) {n : Node} (hn : NmE n.entries) : Nm (Yu l n) :=
 ⟨(putN_up h.up n).1,fun m hm => by
  rcases pmem hm with rfl | hm
  ·exact hn
  ·exact h.nm m hm⟩
theorem Nm.drop {l : List Node} (h : Nm l) (f : Int) : Nm (dropN l f) := ⟨(dropN_up h.up f).1,fun m hm => h.nm m (((dropN_up h.up f).2 m).1 hm).1⟩
theorem Nm.to {l : List Node} (h : Nm l) (a : Act) : NmE (toN l a).entries := by
 unfold toN
 split
 ·exact (h.find _).leave _
 ·exact h.find _
theorem Nm.apply {l : List Node} (h : Nm l) (a : Act) (v : Int) : Nm (rApplyL l a v) := by
 have hmk : Nm (makeL l a v) := by
  unfold makeL
  split
  ·rename_i he
   unfold makeE at he
   split at he
   ·split at he
    ·rename_i hr
     refine (h.put ?_).put .nil
     exact (h.find _).enter (roomE_free hr).1 _
    ·rename_i hr; exact absurd he hr
   ·rename_i hr; exact absurd he hr
  ·exact h
 unfold rApplyL
 split
 ·exact hmk
 ·split
  ·exact hmk
  ·split
   ·unfold storeL
    split
    ·exact h.put (h.find _)
    ·exact h
   ·split
    ·unfold removeL
     split
     ·exact (h.put ((h.find _).leave _)).drop _
     ·exact h
    ·split
     ·unfold rRenameL
      split
      ·rename_i he
       have hr : roomE (toN l a) a.toName = 0 := by
        unfold rRenameE at he
        split at he
        ·split at he
         ·split at he
          ·assumption
          ·rename_i hr; exact absurd he hr
         ·rename_i hr; exact absurd he hr
        ·rename_i hr; exact absurd he hr
       refine Nm.put ?_ ((h.to a).enter (roomE_free hr).1 _)
       split
       ·exact h
       ·exact h.put ((h.find _).leave _)
      ·exact h
     ·exact h
theorem Wh.nm {l : List Node} (h : Wh l) {n : Node} (hn : n ∈ l) : NmE n.entries := fun e he => nameB_len (h.name n.fid e.name e.fid ⟨n,hn,rfl,he⟩)
end La
