/- Texts of this claim, part 12: PWor, PWor2, PWor3, ModC, RWith, RName, Nrm. No condition. -/
import Derived.Test.YtfiiingppbkpkaaGreatXR11
import Derived.Test.YtfiiingppbkpkaaGreatXR10
import Derived.Test.YtfiiingppbkpkaaGreatXR7
import Derived.Test.YtfiiingppbkpkaaGreatXR9
import Derived.Test.YtfiiingppbkpkaaGreatXR6
import Derived.Test.YtfiiingppbkpkaaGreatXR8
set_option maxRecDepth 10000
set_option maxHeartbeats 4000000
set_option linter.unusedSimpArgs false
set_option linter.unusedVariables false
namespace La
open Go Go.Eng
theorem apply_ver {l : List Node} {a : Act} {v : Int} {n : Node} (he : Yb l a = 0) (h : n ∈ Yj l a v) : n.version = v ∨ n ∈ l := by
 unfold Yb at he
 unfold Yj at h
 have hmk : n ∈ makeL l a v → n.version = v ∨ n ∈ l := fun h => by
  unfold makeL at h
  split at h
  ·rcases pmem h with rfl | h
   ·exact .inl rfl
   ·rcases pmem h with rfl | h
    ·exact .inl rfl
    ·exact .inr h
  ·exact .inr h
 split at h
 ·exact hmk h
 ·split at h
  ·exact hmk h
  ·split at h
   ·unfold storeL at h
    split at h
    ·rcases pmem h with rfl | h
     ·exact .inl rfl
     ·exact .inr h
    ·exact .inr h
   ·split at h
    ·unfold removeL at h
     split at h
     ·rcases pmem (List.mem_filter.1 h).1 with rfl | h
      ·exact .inl rfl
      ·exact .inr h
     ·exact .inr h
    ·split at h
     ·unfold renameL at h
      split at h
      ·rcases pmem h with rfl | h
       ·exact .inl rfl
       ·split at h
        ·exact .inr h
        ·rcases pmem h with rfl | h
         ·exact .inl rfl
         ·exact .inr h
      ·exact .inr h
     ·exact .inr h
theorem Hist.ver {p : List Past} {t : List Node} (h : Hist p t) : ∀ n,n ∈ t → 0 ≤ n.version ∧ n.version ≤ (p.length : Int) := by
 induction h with
 | nil => intro n hn; rw [List.mem_singleton.1 hn]; simp [rootN]
 | @snoc p t c a h ha he ih =>
  intro n hn
  simp only [List.length_append,List.length_cons,List.length_nil]
  rcases apply_ver he hn with h1 | h1
  ·rw [h1]; omega
  ·have := ih n h1; omega
theorem Hist.det {p : List Past} {t : List Node} (h : Hist p t) : ∀ {t'},Hist p t' → t = t' := by
 induction h with
 | nil =>
  intro t' h'
  generalize hq : ([] : List Past) = q at h'
  cases h' with
  | nil => rfl
  | snoc c a _ _ _ => simp at hq
 | @snoc p t c a h ha he ih =>
  intro t' h'
  generalize hq : p ++ [⟨c,a⟩] = q at h'
  cases h' with
  | nil => simp at hq
  | @snoc p2 t2 c2 a2 h2 _ _ =>
   obtain ⟨h3,h4⟩ := List.append_inj' hq rfl
   subst h3
   injection h4 with h4
   injection h4 with h4 h5
   subst h5
   rw [ih h2]
theorem Hist.back {p : List Past} {c : Int} {a : Act} {t' : List Node} (h : Hist (p ++ [⟨c,a⟩]) t') : ∃ t,Hist p t ∧ Yb t a = 0 ∧ t' = Yj t a ((p.length + 1 : Nat) : Int) := by
 generalize hq : p ++ [(⟨c,a⟩ : Past)] = q at h
 cases h with
 | nil => simp at hq
 | @snoc p2 t2 c2 a2 h2 ha he =>
  obtain ⟨h3,h4⟩ := List.append_inj' hq rfl
  subst h3
  injection h4 with h4
  injection h4 with h4 h5
  subst h5
  exact ⟨t2,h2,he,rfl⟩
def Hst (s : Srv) (n : Node) : Prop := n.version ≤ (s.past.length : Int) ∧ ∀ m,m ∈ s.tree → m.fid = n.fid → m.version = n.version → m = n
theorem Hst.at {s : Srv} (h : Hist s.past s.tree) {n : Node} (hn : n ∈ s.tree) : Hst s n := ⟨(h.ver n hn).2,fun _ hm hf _ => up_same h.good.up hm hn hf⟩
theorem hst_grow {p : List Past} {n : Node} : ∀ (q : List Past) {t t' : List Node},Hist p t → Hist (p ++ q.reverse) t' → n.version ≤ (p.length : Int) → (∀ m,m ∈ t → m.fid = n.fid → m.version = n.version → m = n) →
  ∀ m,m ∈ t' → m.fid = n.fid → m.version = n.version → m = n
 | [],t,t',h,h',_,hm => by
  rw [List.reverse_nil,List.append_nil] at h'
  rw [← h.det h']; exact hm
 | x :: q,t,t',h,h',hv,hm => by
  rw [List.reverse_cons,← List.append_assoc] at h'
  obtain ⟨t2,h2,he,rfl⟩ := Hist.back (c := x.client) (a := x.act) h'
  have ih := hst_grow q h h2 hv hm
  intro m hmm hf hver
  rcases apply_ver he hmm with h3 | h3
  ·rw [h3] at hver
   simp only [List.length_append,List.length_reverse] at hver
   omega
  ·exact ih m h3 hf hver
structure Grown (s s' : Srv) : Prop where
 hist : Hist s'.past s'.tree
 past : ∃ q,s'.past = s.past ++ q
theorem Grown.refl {s : Srv} (h : Hist s.past s.tree) : Grown s s := ⟨h,[],by simp⟩
theorem Grown.trans {a b c : Srv} (h : Grown a b) (k : Grown b c) : Grown a c := by
 obtain ⟨q,hq⟩ := h.past
 obtain ⟨r,hr⟩ := k.past
 exact ⟨k.hist,q ++ r,by rw [hr,hq,List.append_assoc]⟩
theorem Hst.grow {s s' : Srv} (h : Hist s.past s.tree) (hg : Grown s s') {n : Node} (hn : Hst s n) : Hst s' n := by
 obtain ⟨q,hq⟩ := hg.past
 have h1 := hg.hist
 refine ⟨by rw [hq,List.length_append]; have := hn.1; omega,hst_grow (p := s.past) q.reverse h ?_ hn.1 hn.2⟩
 rw [List.reverse_reverse,← hq]; exact h1
theorem staleK_no {t : List Node} (hu : Up t) {k : Kept} (hd : k.dirty = false) (h : staleK t k = false) : ∃ n,n ∈ t ∧ n.fid = k.node.fid ∧ n.version = k.node.version := by
 unfold staleK at h
 rw [hd,isAt_eq] at h
 cases e : Yf t k.node.fid with
 | none => rw [e] at h; simp at h
 | some n =>
  rw [e] at h
  simp only [Bool.not_false,Option.isSome_some,Bool.not_true,Option.getD_some,Bool.false_or,Bool.true_and,Bool.not_eq_false',beq_iff_eq] at h
  obtain ⟨h1,h2⟩ := (ZO hu).1 e
  exact ⟨n,h1,h2,h⟩
theorem staleK_in {s : Srv} (hh : Hist s.past s.tree) {k : Kept} (hk : Hst s k.node) (hd : k.dirty = false) (h : staleK s.tree k = false) : k.node ∈ s.tree := by
 obtain ⟨n,h1,h2,h3⟩ := staleK_no hh.good.up hd h
 rw [← hk.2 n h1 h2 h3]; exact h1
structure ActS (a : Act) : Prop where
 name : a.name.length ≤ 40
 toName : a.toName.length ≤ 40
 data : a.data.length ≤ 20
theorem ActS.fit {a : Act} (h : ActS a) : ActFit a := ⟨by have := h.name; omega,by have := h.toName; omega,by have := h.data; omega⟩
structure HoardOK (h : Hoard) : Prop where
 path : h.path.length ≤ 40
 worth : 1 ≤ h.worth ∧ h.worth ≤ 100
structure CInv (B T : Nat) (s : Srv) (c : Cli) : Prop where
 room : 3 ≤ c.room ∧ c.room ≤ 24
 nod : (c.cache.map fun k => k.node.fid).Nodup
 len : (c.cache.length : Int) ≤ c.room
 falls : ∃ r,Falls r (nodesK c.cache)
 data : ∀ k,k ∈ c.cache → k.node.data.length ≤ 20
 ent : ∀ k,k ∈ c.cache → k.node.entries.length ≤ 6
 eup : ∀ k,k ∈ c.cache → EUp k.node.entries
 nam : ∀ k,k ∈ c.cache → NmE k.node.entries
 here : c.away = false → c.log = [] ∧ ∀ k,k ∈ c.cache → k.dirty = false ∧ k.node ∈ s.tree
 hst : ∀ k,k ∈ c.cache → k.dirty = false → Hst s k.node
 log : c.log.length ≤ 20
 logS : ∀ r,r ∈ c.log → ActS r.act
 rep : c.repair.length ≤ B
 repS : ∀ r,r ∈ c.repair → ActS r.act
 hoards : c.hoards.length ≤ 6
 hoardS : ∀ h,h ∈ c.hoards → HoardOK h
 clock : 0 ≤ c.clock ∧ c.clock ≤ (T : Int)
 made : 0 ≤ c.made ∧ c.made ≤ (B : Int)
 logged : 0 ≤ c.logged ∧ c.logged ≤ (B : Int)
theorem CInv.mono {B B' T T' : Nat} {s : Srv} {c : Cli} (h : CInv B T s c) (hB : B ≤ B') (hT : T ≤ T') : CInv B' T' s c :=
 { h with rep := Nat.le_trans h.rep hB,clock := ⟨h.clock.1,by have := h.clock.2; omega⟩,made := ⟨h.made.1,by have := h.made.2; omega⟩,logged := ⟨h.logged.1,by have := h.logged.2; omega⟩ }
theorem CInv.new (B T : Nat) (s : Srv) (i room : Int) (h : 3 ≤ room ∧ room ≤ 24) : CInv B T s (newC i room) where
 room := h
 nod := List.Pairwise.nil
 len := by simp [newC]; omega
 falls := ⟨fun _ => 0,fun n hn => by cases hn⟩
 data := fun k hk => by cases hk
 ent := fun k hk => by cases hk
 eup := fun k hk => by cases hk
 nam := fun k hk => by cases hk
 here := fun _ => ⟨rfl,fun k hk => by cases hk⟩
 hst := fun k hk => by cases hk
 log := by simp [newC]
 logS := fun r hr => by cases hr
 rep := by simp [newC]
 repS := fun r hr => by cases hr
 hoards := by simp [newC]
 hoardS := fun r hr => by cases hr
 clock := by simp [newC]
 made := by simp [newC]
 logged := by simp [newC]
theorem falls_sub {r : Int → Nat} {l m : List Node} (h : Falls r l) (hs : ∀ n,n ∈ m → ∃ o,o ∈ l ∧ o.fid = n.fid ∧ o.entries = n.entries) : Falls r m := fun n hn e he => by
 obtain ⟨o,h1,h2,h3⟩ := hs n hn
 rw [← h3] at he
 rw [← h2]; exact h o h1 e he
theorem mem_nodesK {l : List Kept} {n : Node} : n ∈ nodesK l ↔ ∃ k,k ∈ l ∧ k.node = n := by
 unfold nodesK; exact List.mem_map
structure Of (t : List Node) (l : List Kept) : Prop where
 each : ∀ k,k ∈ l → ∃ n,n ∈ t ∧ n.fid = k.node.fid ∧ n.dir = k.node.dir ∧ n.data = k.node.data ∧ n.entries = k.node.entries
theorem Of.falls {t : List Node} {l : List Kept} (h : Of t l) (hf : ∃ r,Falls r t) : ∃ r,Falls r (nodesK l) := by
 obtain ⟨r,hr⟩ := hf
 refine ⟨r,falls_sub hr fun n hn => ?_⟩
 obtain ⟨k,hk,rfl⟩ := mem_nodesK.1 hn
 obtain ⟨o,h1,h2,_,_,h5⟩ := h.each k hk
 exact ⟨o,h1,h2,h5⟩
theorem Of.mem {t : List Node} {l : List Kept} (h : ∀ k,k ∈ l → k.node ∈ t) : Of t l := ⟨fun k hk => ⟨k.node,h k hk,rfl,rfl,rfl,rfl⟩⟩
structure UInv (B T : Nat) (u : U) : Prop where
 srv : SrvOK B u.s
 cli : CInv B T u.s u.c
theorem UInv.mono {B B' T T' : Nat} {u : U} (h : UInv B T u) (hB : B ≤ B') (hT : T ≤ T') : UInv B' T' u := ⟨h.srv.mono hB,h.cli.mono hB hT⟩
theorem getF_node (f w c : Int) (k : Kept) : (getF f w c k).node = k.node := by unfold getF; split <;> rfl
theorem getF_dirty (f w c : Int) (k : Kept) : (getF f w c k).dirty = k.dirty := by unfold getF; split <;> rfl
theorem look_mem {l : List Kept} {f w c : Int} {k : Kept} (h : k ∈ l.map (getF f w c)) : ∃ x,x ∈ l ∧ x.node = k.node ∧ x.dirty = k.dirty := by
 obtain ⟨x,hx,rfl⟩ := List.mem_map.1 h
 exact ⟨x,hx,(getF_node _ _ _ _).symm,(getF_dirty _ _ _ _).symm⟩
theorem look_fids (l : List Kept) (f w c : Int) : (l.map (getF f w c)).map (fun k => k.node.fid) = l.map fun k => k.node.fid := by
 rw [List.map_map]; exact List.map_congr_left fun k _ => by simp [getF_node]
theorem look_nodes (l : List Kept) (f w c : Int) : nodesK (l.map (getF f w c)) = nodesK l := by
 unfold nodesK; rw [List.map_map]; exact List.map_congr_left fun k _ => by simp [getF_node]
theorem look_inv {B T : Nat} {u : U} (h : UInv B T u) (f w : Int) : UInv B (T + 1) (lookU u f w) := by
 obtain ⟨hs,h⟩ := h
 refine ⟨hs,?_⟩
 exact { h with
  nod := by show (List.map _ (u.c.cache.map _)).Nodup; rw [look_fids]; exact h.nod
  len := by show ((List.map _ u.c.cache).length : Int) ≤ _; rw [List.length_map]; exact h.len
  falls := by show ∃ r,Falls r (nodesK (u.c.cache.map _)); rw [look_nodes]; exact h.falls
  data := fun k hk => by obtain ⟨x,hx,h1,_⟩ := look_mem hk; rw [← h1]; exact h.data x hx
  ent := fun k hk => by obtain ⟨x,hx,h1,_⟩ := look_mem hk; rw [← h1]; exact h.ent x hx
  eup := fun k hk => by obtain ⟨x,hx,h1,_⟩ := look_mem hk; rw [← h1]; exact h.eup x hx
  nam := fun k hk => by obtain ⟨x,hx,h1,_⟩ := look_mem hk; rw [← h1]; exact h.nam x hx
  here := fun ha => ⟨(h.here ha).1,fun k hk => by obtain ⟨x,hx,h1,h2⟩ := look_mem hk; rw [← h1,← h2]; exact (h.here ha).2 x hx⟩
  hst := fun k hk hd => by obtain ⟨x,hx,h1,h2⟩ := look_mem hk; rw [← h1]; exact h.hst x hx (h2.trans hd)
  clock := by have := h.clock; show 0 ≤ u.c.clock + 1 ∧ u.c.clock + 1 ≤ ((T + 1 : Nat) : Int); omega }
theorem kplace_none {l : List Kept} {f : Int} (h : kplace l f = none) : ∀ x,x ∈ l → x.node.fid ≠ f := fun x hx e => by
 have := List.findIdx?_eq_none_iff.1 h x hx
 simp [e] at this
theorem kplace_at {l : List Kept} {f : Int} {i : Nat} (h : kplace l f = some i) : i < l.length ∧ (l.getD i default).node.fid = f := by
 obtain ⟨h1,h2,_⟩ := List.findIdx?_eq_some_iff_getElem.1 h
 exact ⟨h1,by rw [List.getD_eq_getElem?_getD,List.getElem?_eq_getElem h1]; exact of_decide_eq_true h2⟩
theorem shrinkK_subl {room : Int} : ∀ (f : Nat) (l L : List Kept),shrinkK room f l = some L → L.Sublist l
 | 0,l,L,h => by rw [shrinkK] at h; injection h with h; subst h; exact List.Sublist.refl _
 | f + 1,l,L,h => by
  rw [shrinkK] at h
  split at h
  ·split at h
   ·cases h
   ·exact (shrinkK_subl f _ L h).trans (List.eraseIdx_sublist _ _)
  ·injection h with h; subst h; exact List.Sublist.refl _
theorem shrinkK_len {room : Int} (hr : 1 ≤ room) : ∀ (f : Nat) (l L : List Kept),shrinkK room f l = some L → l.length < f → (L.length : Int) < room
 | 0,l,L,h,hf => by omega
 | f + 1,l,L,h,hf => by
  rw [shrinkK] at h
  split at h
  ·rename_i hge
   split at h
   ·cases h
   ·rename_i i hw
    have hi : i < l.length := worstAt_lt l l.length i hw
    exact shrinkK_len hr f _ L h (by rw [List.length_eraseIdx,if_pos hi]; omega)
  ·injection h with h; subst h; omega
structure Kp (l : List Kept) (room : Int) (k : Kept) (L : List Kept) : Prop where
 mem : ∀ x,x ∈ L → (x ∈ l ∧ x.node.fid ≠ k.node.fid) ∨ (x.node = k.node ∧ x.dirty = k.dirty)
 nod : (L.map fun x => x.node.fid).Nodup
 len : (L.length : Int) ≤ room
 has : ∃ x,x ∈ L ∧ x.node = k.node ∧ x.dirty = k.dirty
theorem nodup_at {l : List Kept} (h : (l.map fun x => x.node.fid).Nodup) {i j : Nat} {a b : Kept} (ha : l[i]? = some a) (hb : l[j]? = some b) (hf : a.node.fid = b.node.fid) : i = j := by
 have h1 := List.getElem?_eq_some_iff.1 ha
 have h2 := List.getElem?_eq_some_iff.1 hb
 obtain ⟨hi,h1⟩ := h1
 obtain ⟨hj,h2⟩ := h2
 refine (List.getElem_inj (xs := l.map fun x => x.node.fid) (i := i) (j := j) (h₀ := by simpa using hi) (h₁ := by simpa using hj) h).1 ?_
 rw [List.getElem_map,List.getElem_map,h1,h2,hf]
theorem set_fids {l : List Kept} {i : Nat} {k : Kept} (hi : i < l.length) (hf : (l.getD i default).node.fid = k.node.fid) : (l.set i k).map (fun x => x.node.fid) = l.map fun x => x.node.fid := by
 rw [List.map_set]
 refine List.ext_getElem? fun j => ?_
 rw [List.getElem?_set]
 split
 ·rename_i e
  subst e
  rw [List.getElem?_map,List.getElem?_eq_getElem hi]
  rw [List.getD_eq_getElem?_getD,List.getElem?_eq_getElem hi] at hf
  simp only [List.length_map,hi,if_true,Option.map_some]
  exact congrArg some hf.symm
 ·rfl
theorem keepK_kp {l L : List Kept} {room : Int} {k : Kept} (hr : 1 ≤ room) (hn : (l.map fun x => x.node.fid).Nodup) (hl : (l.length : Int) ≤ room) (h : keepK l room k = some L) : Kp l room k L := by
 unfold keepK at h
 cases e : kplace l k.node.fid with
 | some i =>
  rw [e] at h
  injection h with h
  subst h
  obtain ⟨hi,hf⟩ := kplace_at e
  refine ⟨fun x hx => ?_,?_,by rw [List.length_set]; exact hl,⟨{ k with worth := maxI k.worth (l.getD i default).worth },List.mem_iff_getElem.2 ⟨i,by simpa using hi,by simp⟩,rfl,rfl⟩⟩
  ·obtain ⟨j,hj⟩ := List.getElem?_of_mem hx
   rw [List.getElem?_set] at hj
   split at hj
   ·rename_i e2
    subst e2
    simp only [hi,if_true,Option.some.injEq] at hj
    exact .inr ⟨by rw [← hj],by rw [← hj]⟩
   ·rename_i hne
    refine .inl ⟨List.mem_of_getElem? hj,fun hxf => hne ?_⟩
    refine nodup_at hn (List.getElem?_eq_getElem hi) hj ?_
    rw [List.getD_eq_getElem?_getD,List.getElem?_eq_getElem hi] at hf
    exact hf.trans hxf.symm
  ·rw [set_fids hi (by exact hf)]; exact hn
 | none =>
  rw [e] at h
  obtain ⟨L0,h0,rfl⟩ := Option.map_eq_some_iff.1 h
  have h1 := shrinkK_subl _ _ _ h0
  have h2 := shrinkK_len hr _ _ _ h0 (Nat.lt_succ_self _)
  have hno := kplace_none e
  refine ⟨fun x hx => ?_,?_,by rw [List.length_append]; simp; omega,⟨k,by simp,rfl,rfl⟩⟩
  ·rcases List.mem_append.1 hx with hx | hx
   ·exact .inl ⟨h1.subset hx,hno x (h1.subset hx)⟩
   ·rw [List.mem_singleton.1 hx]; exact .inr ⟨rfl,rfl⟩
  ·rw [List.map_append,List.nodup_append]
   refine ⟨hn.sublist (h1.map _),by simp,fun a ha b hb => ?_⟩
   obtain ⟨x,hx,rfl⟩ := List.mem_map.1 ha
   simp only [List.map_cons,List.map_nil,List.mem_singleton] at hb
   rw [hb]
   exact hno x (h1.subset hx)
theorem CInv.within {B T : Nat} {s : Srv} {c : Cli} (h : CInv B T s c) (hh : Hist s.past s.tree) {L : List Kept} (hn : (L.map fun k => k.node.fid).Nodup) (hl : (L.length : Int) ≤ c.room) (hm : ∀ k,k ∈ L → k.dirty = false ∧ k.node ∈ s.tree) : CInv B T s { c with cache := L } :=
 { h with
  nod := hn
  len := hl
  falls := (Of.mem fun k hk => (hm k hk).2).falls hh.good.falls
  data := fun k hk => hh.good.data _ (hm k hk).2
  ent := fun k hk => hh.good.ent _ (hm k hk).2
  eup := fun k hk => (hh.whole.loc _ (hm k hk).2).eup
  nam := fun k hk => hh.whole.nm (hm k hk).2
  here := fun ha => ⟨(h.here ha).1,hm⟩
  hst := fun k hk _ => Hst.at hh (hm k hk).2 }
theorem keepU_inv {B T : Nat} {u : U} (h : UInv B T u) (ha : u.c.away = false) {n : Node} (hn : n ∈ u.s.tree) (w c : Int) : UInv B T (keepU u ⟨n,false,w,c⟩) := by
 unfold keepU
 split
 ·rename_i l hl
  have hk := keepK_kp (by have := h.cli.room; omega) h.cli.nod h.cli.len hl
  refine ⟨h.srv,h.cli.within h.srv.hist hk.nod hk.len fun x hx => ?_⟩
  rcases hk.mem x hx with ⟨h1,_⟩ | ⟨h1,h2⟩
  ·exact (h.cli.here ha).2 x h1
  ·exact ⟨h2,by rw [h1]; exact hn⟩
 ·exact h
theorem getU_inv {B T : Nat} {u : U} (h : UInv B T u) (f w : Int) : UInv B (T + 1) (getU u f w).u := by
 unfold getU
 split
 ·exact look_inv h f w
 ·split
  ·exact look_inv h f w
  ·rename_i ha
   split
   ·exact look_inv h f w
   ·rename_i n hn
    exact keepU_inv (look_inv h f w) (show u.c.away = false by simpa using ha) ((ZO h.srv.hist.good.up).1 hn).1 w _
theorem goR_inv {B : Nat} (w : Int) : ∀ (l : List (List UInt8)) (T : Nat) (g : Got),UInv B T g.u → UInv B (T + l.length) (goR w l g).u
 | [],T,g,h => by unfold goR; split <;> exact h
 | s :: r,T,g,h => by
  unfold goR
  have hm : UInv B (T + (s :: r).length) g.u := h.mono (Nat.le_refl _) (by simp)
  split
  ·exact hm
  ·split
   ·exact hm
   ·split
    ·exact hm
    ·rename_i f _
     have := goR_inv w r (T + 1) (getU g.u f w) (getU_inv h f w)
     rwa [show T + 1 + r.length = T + (s :: r).length by simp; omega] at this
theorem goU_inv {B T : Nat} {u : U} (h : UInv B T u) (l : List (List UInt8)) (w : Int) : UInv B (T + 1 + l.length) (goU u l w).u := goR_inv w l (T + 1) _ (getU_inv h 0 w)
theorem splitR_len (s : List UInt8) : (Ys s).1.length ≤ 41 ∧ ∀ x,x ∈ (Ys s).1 → x.length ≤ 40 ∧ nameB x = true := by
 unfold Ys
 split
 ·simp
 ·rename_i h1
  split
  ·simp
  ·split
   ·simp
   ·split
    ·rename_i h4
     have h2 := cutL_le 47 (s.drop 1)
     have h5 : (s.drop 1).length = s.length - 1 := List.length_drop
     refine ⟨by show (cutL 47 (s.drop 1)).length ≤ 41; omega,fun x hx => ⟨?_,List.all_eq_true.1 h4 x hx⟩⟩
     have h3 := cutL_part 47 (s.drop 1) x hx
     omega
    ·simp
theorem dirU_inv {B T : Nat} {u : U} (h : UInv B T u) (path : List UInt8) : UInv B (T + 42) (Yd u path).u := by
 unfold Yd
 split
 ·exact h.mono (Nat.le_refl _) (by omega)
 ·split
  ·exact h.mono (Nat.le_refl _) (by omega)
  ·refine (goU_inv h _ 0).mono (Nat.le_refl _) ?_
   have := (splitR_len path).1
   simp only [List.length_take]
   omega
theorem dirU_name (u : U) (path : List UInt8) : (Yd u path).name.length ≤ 40 := by
 unfold Yd
 split
 ·simp
 ·split
  ·simp
  ·rename_i h
   refine ((splitR_len path).2 _ ?_).1
   have hi : (Ys path).1.length - 1 < (Ys path).1.length := by omega
   rw [List.getD_eq_getElem?_getD,List.getElem?_eq_getElem hi]
   exact List.getElem_mem hi
theorem fids_apart {l : List Node} (h : (l.map (·.fid)).Nodup) : ∀ i,i < l.length → ∀ j,j < i → fidN l j ≠ fidN l i := fun i hi j hj e => by
 unfold fidN at e
 rw [List.getD_eq_getElem?_getD,List.getD_eq_getElem?_getD,List.getElem?_eq_getElem hi,List.getElem?_eq_getElem (show j < l.length by omega)] at e
 have := (List.getElem_inj (xs := l.map (·.fid)) (i := j) (j := i) (h₀ := by simp; omega) (h₁ := by simpa using hi) h).1 (by rw [List.getElem_map,List.getElem_map]; exact e)
 omega
theorem nodesK_fids (l : List Kept) : (nodesK l).map (·.fid) = l.map fun k => k.node.fid := by unfold nodesK; rw [List.map_map]; rfl
theorem treeC_mem {c : Cli} (h : (c.cache.map fun k => k.node.fid).Nodup) (x : Node) : x ∈ treeC c ↔ ∃ k,k ∈ c.cache ∧ k.node = x := by
 unfold treeC
 rw [sortN_mem _ (fids_apart (by rw [nodesK_fids]; exact h)),mem_nodesK]
theorem treeC_up (c : Cli) : Up (treeC c) := sortN_rise _
theorem treeC_len {c : Cli} (h : (c.cache.map fun k => k.node.fid).Nodup) : (treeC c).length = c.cache.length := by
 unfold treeC
 rw [sortN_len _ (fids_apart (by rw [nodesK_fids]; exact h))]
 simp [nodesK]
theorem CInv.good {B T : Nat} {s : Srv} {c : Cli} (h : CInv B T s c) : Good (treeC c) where
 up := treeC_up c
 falls := by
  obtain ⟨r,hr⟩ := h.falls
  exact ⟨r,falls_sub hr fun n hn => by
   obtain ⟨k,hk,rfl⟩ := (treeC_mem h.nod n).1 hn
   exact ⟨k.node,mem_nodesK.2 ⟨k,hk,rfl⟩,rfl,rfl⟩⟩
 len := by rw [treeC_len h.nod]; have := h.len; have := h.room; omega
 data := fun n hn => by obtain ⟨k,hk,rfl⟩ := (treeC_mem h.nod n).1 hn; exact h.data k hk
 ent := fun n hn => by obtain ⟨k,hk,rfl⟩ := (treeC_mem h.nod n).1 hn; exact h.ent k hk
theorem CInv.ri {B T : Nat} {s : Srv} {c : Cli} (h : CInv B T s c) : Ri (treeC c) := ⟨treeC_up c,fun n hn => by
 obtain ⟨k,hk,rfl⟩ := (treeC_mem h.nod n).1 hn
 exact h.eup k hk⟩
theorem CInv.nmT {B T : Nat} {s : Srv} {c : Cli} (h : CInv B T s c) : Nm (treeC c) := ⟨treeC_up c,fun n hn => by
 obtain ⟨k,hk,rfl⟩ := (treeC_mem h.nod n).1 hn
 exact h.nam k hk⟩
theorem keepAll_kp {room clk : Int} (hr : 1 ≤ room) {was : List Node} {a : Act} : ∀ (N : List Node) {l L : List Kept},(l.map fun x => x.node.fid).Nodup → (l.length : Int) ≤ room → keepAll room clk was a N l = some L →
  (L.map fun x => x.node.fid).Nodup ∧ (L.length : Int) ≤ room ∧ ∀ x,x ∈ L → (x ∈ l ∧ ∀ n,n ∈ N → changedB was a n = true → n.fid ≠ x.node.fid) ∨ ∃ n,n ∈ N ∧ changedB was a n = true ∧ x.node = (dirtyK was clk n).node ∧ x.dirty = true
 | [],l,L,hn,hl,h => by
  rw [keepAll] at h
  injection h with h
  subst h
  exact ⟨hn,hl,fun x hx => .inl ⟨hx,fun n hn => by cases hn⟩⟩
 | n :: r,l,L,hn,hl,h => by
  rw [keepAll] at h
  split at h
  ·rename_i hc
   split at h
   ·cases h
   ·rename_i l' hk
    have hp := keepK_kp hr hn hl hk
    obtain ⟨h1,h2,h3⟩ := keepAll_kp hr r hp.nod hp.len h
    refine ⟨h1,h2,fun x hx => ?_⟩
    rcases h3 x hx with ⟨h4,h5⟩ | ⟨m,h4,h5⟩
    ·rcases hp.mem x h4 with ⟨h6,h7⟩ | ⟨h6,h7⟩
     ·refine .inl ⟨h6,fun m hm hcm => ?_⟩
      rcases List.mem_cons.1 hm with rfl | hm
      ·exact fun e => h7 e.symm
      ·exact h5 m hm hcm
     ·exact .inr ⟨n,List.mem_cons_self,hc,h6,h7⟩
    ·exact .inr ⟨m,List.mem_cons_of_mem _ h4,h5⟩
  ·rename_i hc
   obtain ⟨h1,h2,h3⟩ := keepAll_kp hr r hn hl h
   refine ⟨h1,h2,fun x hx => ?_⟩
   rcases h3 x hx with ⟨h4,h5⟩ | ⟨m,h4,h5⟩
   ·refine .inl ⟨h4,fun m hm hcm => ?_⟩
    rcases List.mem_cons.1 hm with rfl | hm
    ·exact absurd hcm hc
    ·exact h5 m hm hcm
   ·exact .inr ⟨m,List.mem_cons_of_mem _ h4,h5⟩
theorem addLog_mem {l L : List Rec} {r : Rec} (hl : l.length ≤ 20) (h : addLog l r = some L) : L.length ≤ 20 ∧ ∀ x,x ∈ L → x ∈ l ∨ x = r := by
 unfold addLog at h
 split at h
 ·injection h with h
  subst h
  exact ⟨Nat.le_trans (List.length_filter_le _ _) hl,fun x hx => .inl (List.mem_filter.1 hx).1⟩
 ·split at h
  ·cases h
  ·rename_i hlt
   injection h with h
   subst h
   refine ⟨by simp; omega,fun x hx => ?_⟩
   rcases List.mem_append.1 hx with hx | hx
   ·exact .inl ((unstored_sub l r).subset hx)
   ·exact .inr (List.mem_singleton.1 hx)
theorem sameN_parts {a b : Node} (h : sameN false a b = true) : a.fid = b.fid ∧ a.dir = b.dir ∧ a.data = b.data ∧ a.entries = b.entries := by
 unfold sameN at h
 simp only [Bool.and_eq_true,beq_iff_eq,decide_eq_true_eq] at h
 exact ⟨h.1.1.1.1,h.1.1.1.2,h.1.1.2,h.1.2⟩
theorem changedB_no {was : List Node} {a : Act} {n : Node} (h : changedB was a n ≠ true) : ∃ o,Yf was n.fid = some o ∧ sameN false o n = true := by
 unfold changedB at h
 cases e : Yf was n.fid with
 | none => rw [e] at h; simp at h
 | some o =>
  rw [e] at h
  refine ⟨o,rfl,?_⟩
  simp only [Bool.not_eq_true,Bool.not_eq_false',Bool.and_eq_true] at h
  exact h.1
theorem ownA_S {c : Cli} {a : Act} (h : ActS a) : ActS (ownA c a) := by unfold ownA; split; exact ⟨h.name,h.toName,h.data⟩; exact h
theorem own_of {B T : Nat} {s : Srv} {c : Cli} (h : CInv B T s c) {a : Act} (he : Yb (treeC c) (ownA c a) = 0) {L : List Kept} (hL : ownKeep c a = some L) :
  let L' := L.filter fun k => isAt (ownNow c a) k.node.fid
  (L'.map fun x => x.node.fid).Nodup ∧ (L'.length : Int) ≤ c.room ∧ Of (ownNow c a) L' ∧ ∀ x,x ∈ L' → x.dirty = false → x ∈ c.cache := by
 intro L'
 obtain ⟨h1,h2,h3⟩ := keepAll_kp (by have := h.room; omega) _ h.nod h.len hL
 have hg := good_apply h.good (ownA c a) 0 he
 refine ⟨h1.sublist ((List.filter_sublist).map _),?_,⟨fun x hx => ?_⟩,fun x hx hd => ?_⟩
 ·have := List.length_filter_le (fun k : Kept => isAt (ownNow c a) k.node.fid) L
  show ((L.filter _).length : Int) ≤ _
  omega
 ·obtain ⟨hx,hat⟩ := List.mem_filter.1 hx
  rcases h3 x hx with ⟨h4,h5⟩ | ⟨n,h4,h5,h6,h7⟩
  ·rw [isAt_eq] at hat
   obtain ⟨m,hm⟩ := Option.isSome_iff_exists.1 hat
   obtain ⟨hm,hmf⟩ := (ZO hg.up).1 hm
   have hno : changedB (treeC c) (ownA c a) m ≠ true := fun hc => h5 m hm hc hmf
   obtain ⟨o,ho,hs⟩ := changedB_no hno
   have hx2 : Yf (treeC c) m.fid = some x.node := (ZO (treeC_up c)).2 ⟨(treeC_mem h.nod _).2 ⟨x,h4,rfl⟩,hmf.symm⟩
   rw [hx2] at ho
   injection ho with ho
   subst ho
   obtain ⟨k1,k2,k3,k4⟩ := sameN_parts hs
   exact ⟨m,hm,hmf,k2.symm,k3.symm,k4.symm⟩
  ·exact ⟨n,h4,by rw [h6]; rfl,by rw [h6]; rfl,by rw [h6]; rfl,by rw [h6]; rfl⟩
 ·obtain ⟨hx,_⟩ := List.mem_filter.1 hx
  rcases h3 x hx with ⟨h4,_⟩ | ⟨n,_,_,_,h7⟩
  ·exact h4
  ·rw [hd] at h7; cases h7
theorem own_inv {B T : Nat} {u : U} (h : UInv B T u) (ha : u.c.away = true) {a : Act} (hs : ActS a) (seen : Int) : UInv (B + 1) T (ownU u a seen).u := by
 have hm := h.mono (Nat.le_succ B) (Nat.le_refl T)
 unfold ownU
 split
 ·exact hm
 ·rename_i he
  have he : Yb (treeC u.c) (ownA u.c a) = 0 := by omega
  split
  ·exact hm
  ·rename_i log hlog
   split
   ·exact hm
   ·rename_i L hL
    obtain ⟨h1,h2,h3,h4⟩ := own_of h.cli he hL
    have hg := good_apply h.cli.good (ownA u.c a) 0 he
    have hri : Ri (ownNow u.c a) := by unfold ownNow; rw [← h.cli.good.applyL]; exact h.cli.ri.apply _ _
    have hnm : Nm (ownNow u.c a) := by unfold ownNow; rw [← h.cli.good.applyL]; exact h.cli.nmT.apply _ _
    obtain ⟨g1,g2⟩ := addLog_mem h.cli.log hlog
    refine ⟨hm.srv,?_⟩
    have hc := hm.cli
    exact { hc with
     nod := h1
     len := h2
     falls := h3.falls hg.falls
     data := fun k hk => by obtain ⟨n,k1,_,_,k2,_⟩ := h3.each k hk; rw [← k2]; exact hg.data n k1
     ent := fun k hk => by obtain ⟨n,k1,_,_,_,k2⟩ := h3.each k hk; rw [← k2]; exact hg.ent n k1
     eup := fun k hk => by obtain ⟨n,k1,_,_,_,k2⟩ := h3.each k hk; rw [← k2]; exact hri.eup n k1
     nam := fun k hk => by obtain ⟨n,k1,_,_,_,k2⟩ := h3.each k hk; rw [← k2]; exact hnm.nm n k1
     here := fun h0 => by simp only [ha] at h0; cases h0
     hst := fun k hk hd => h.cli.hst k (h4 k hk hd) hd
     log := g1
     logS := fun r hr => by
      rcases g2 r hr with h5 | rfl
      ·exact h.cli.logS r h5
      ·exact ownA_S hs
     made := by have := h.cli.made; show 0 ≤ (if Zm a = true then u.c.made + 1 else u.c.made) ∧ (if Zm a = true then u.c.made + 1 else u.c.made) ≤ ((B + 1 : Nat) : Int); split <;> omega
     logged := by have := h.cli.logged; show 0 ≤ u.c.logged + 1 ∧ u.c.logged + 1 ≤ ((B + 1 : Nat) : Int); omega }
theorem CInv.grow {B B' T : Nat} {s s' : Srv} {c : Cli} (h : CInv B T s c) (hB : B ≤ B') (hh : Hist s.past s.tree) (hg : Grown s s') : CInv B' T s' (freshW s'.tree c) := by
 have hm := h.mono hB (Nat.le_refl T)
 unfold freshW
 split
 ·rename_i ha
  exact { hm with here := fun h0 => (by rw [ha] at h0; cases h0),hst := fun k hk hd => (h.hst k hk hd).grow hh hg }
 ·rename_i ha
  have ha : c.away = false := by simpa using ha
  unfold freshC
  have hsub : (c.cache.filter fun k => !staleK s'.tree k).Sublist c.cache := List.filter_sublist
  have hin : ∀ k,k ∈ c.cache.filter (fun k => !staleK s'.tree k) → k.dirty = false ∧ k.node ∈ s'.tree := fun k hk => by
   obtain ⟨hk,hst⟩ := List.mem_filter.1 hk
   have hd := ((h.here ha).2 k hk).1
   exact ⟨hd,staleK_in hg.hist ((h.hst k hk hd).grow hh hg) hd (by simpa using hst)⟩
  exact { hm with
   nod := h.nod.sublist (hsub.map _)
   len := by have := hsub.length_le; have := h.len; show ((c.cache.filter _).length : Int) ≤ c.room; omega
   falls := (Of.mem fun k hk => (hin k hk).2).falls hg.hist.good.falls
   data := fun k hk => h.data k (hsub.subset hk)
   ent := fun k hk => h.ent k (hsub.subset hk)
   eup := fun k hk => h.eup k (hsub.subset hk)
   nam := fun k hk => h.nam k (hsub.subset hk)
   here := fun _ => ⟨(h.here ha).1,hin⟩
   hst := fun k hk hd => (h.hst k (hsub.subset hk) hd).grow hh hg }
theorem doA_fit {s : Srv} {a : Act} (h : ActFit a) : ActFit (doA s a) := by unfold doA; split; exact ⟨h.name,h.toName,h.data⟩; exact h
theorem grown_do {s : Srv} (h : Hist s.past s.tree) (c : Int) {a : Act} (ha : ActFit a) (he : doE s a = 0) : Grown s (doS s c a) := ⟨Hist.snoc c _ h (doA_fit ha) he,_,rfl⟩
theorem grown_take {s : Srv} (h : Hist s.past s.tree) (c : Int) {log : List Rec} (hl : ∀ r,r ∈ log → ActFit r.act) : Grown s (takeS s c log) := ⟨(JInv.judge h c s.next log hl).hist,_,rfl⟩
theorem here_inv {B T : Nat} {u : U} (h : UInv B T u) (ha : u.c.away = false) {a : Act} (hs : ActS a) : UInv (B + 1) T (hereU u a).u := by
 unfold hereU
 split
 ·rename_i he
  have hg := grown_do h.srv.hist u.c.number hs.fit he
  have := h.cli.grow (Nat.le_succ B) h.srv.hist hg
  unfold freshW at this
  rw [if_neg (by simp [ha])] at this
  exact ⟨h.srv.step u.c.number hs.fit he,this⟩
 ·exact h.mono (Nat.le_succ B) (Nat.le_refl T)
theorem act_inv {B T : Nat} {u : U} (h : UInv B T u) {a : Act} (hs : ActS a) (seen : Int) : UInv (B + 1) T (actU u a seen).u := by
 unfold actU
 split
 ·rename_i ha; exact own_inv h ha hs seen
 ·rename_i ha; exact here_inv h (by simpa using ha) hs
theorem put_inv {B T : Nat} {g : Got} (h : UInv B T g.u) {data : List UInt8} (hd : data.length ≤ 20) : UInv (B + 1) T (putU g data).u := by
 unfold putU
 split
 ·exact h.mono (Nat.le_succ B) (Nat.le_refl T)
 ·exact act_inv h ⟨by simp [storeA],by simp [storeA],hd⟩ _
theorem write_inv {B T : Nat} {u : U} (h : UInv B T u) (path data : List UInt8) : UInv (B + 2) (T + 100) (writeU u path data).u := by
 have hd := dirU_inv h path
 have hn := dirU_name u path
 unfold writeU
 split
 ·exact hd.mono (by omega) (by omega)
 ·split
  ·exact hd.mono (by omega) (by omega)
  ·rename_i hdl
   split
   ·rename_i f _
    exact (put_inv (getU_inv hd f 0) (by omega)).mono (by omega) (by omega)
   ·have hm := act_inv hd (a := makeA (Yd u path).n.fid (Yd u path).name) ⟨hn,by simp [makeA],by simp [makeA]⟩ (-1)
    split
    ·exact hm.mono (by omega) (by omega)
    ·have := (splitR_len path).1
     exact (put_inv (goU_inv hm (Ys path).1 0) (by omega)).mono (by omega) (by omega)
theorem mkdir_inv {B T : Nat} {u : U} (h : UInv B T u) (path : List UInt8) : UInv (B + 2) (T + 100) (mkdirU u path).u := by
 have hd := dirU_inv h path
 have hn := dirU_name u path
 unfold mkdirU
 split
 ·exact hd.mono (by omega) (by omega)
 ·exact (act_inv hd (a := mdirA (Yd u path).n.fid (Yd u path).name) ⟨hn,by simp [mdirA],by simp [mdirA]⟩ (-1)).mono (by omega) (by omega)
theorem atU_inv {B T : Nat} {u : U} (h : UInv B T u) (path : List UInt8) : UInv B (T + 43) (atU u path).u ∧ (atU u path).name.length ≤ 40 := by
 have hd := dirU_inv h path
 have hn := dirU_name u path
 unfold atU
 split
 ·exact ⟨hd.mono (by omega) (by omega),by simp⟩
 ·split
  ·exact ⟨hd.mono (by omega) (by omega),by simp⟩
  ·rename_i f _; exact ⟨getU_inv hd f 0,hn⟩
theorem remove_inv {B T : Nat} {u : U} (h : UInv B T u) (path : List UInt8) : UInv (B + 2) (T + 100) (removeU u path).u := by
 obtain ⟨hd,hn⟩ := atU_inv h path
 unfold removeU
 split
 ·exact hd.mono (by omega) (by omega)
 ·exact (act_inv hd (a := removeA (atU u path).n.fid (atU u path).d (atU u path).name) ⟨hn,by simp [removeA],by simp [removeA]⟩ _).mono (by omega) (by omega)
theorem move_inv {B T : Nat} {u : U} (h : UInv B T u) (path to : List UInt8) : UInv (B + 2) (T + 100) (moveU u path to).u := by
 obtain ⟨hd,hn⟩ := atU_inv h path
 unfold moveU
 split
 ·exact hd.mono (by omega) (by omega)
 ·have h2 := dirU_inv hd to
  have hn2 := dirU_name (atU u path).u to
  split
  ·exact h2.mono (by omega) (by omega)
  ·exact (act_inv h2 (a := renameA (atU u path).n.fid (atU u path).d (atU u path).name (Yd (atU u path).u to).n.fid (Yd (atU u path).u to).name) ⟨hn,hn2,by simp [renameA]⟩ _).mono (by omega) (by omega)
theorem refusedL_mem : ∀ (l : List Rec) (vs : List Verdict),(∀ r,r ∈ refusedL l vs → r ∈ l) ∧ (refusedL l vs).length ≤ l.length
 | [],vs => by cases vs <;> exact ⟨fun r hr => (by cases hr),Nat.le_refl _⟩
 | r :: l,[] => ⟨fun r hr => (by cases hr),Nat.zero_le _⟩
 | r :: l,v :: vs => by
  obtain ⟨h1,h2⟩ := refusedL_mem l vs
  unfold refusedL
  split
  ·exact ⟨fun x hx => List.mem_cons_of_mem _ (h1 x hx),by simp; omega⟩
  ·refine ⟨fun x hx => ?_,by simp; omega⟩
   rcases List.mem_cons.1 hx with rfl | hx
   ·exact List.mem_cons_self
   ·exact List.mem_cons_of_mem _ (h1 x hx)
theorem back_inv {B T : Nat} {u : U} (h : UInv B T u) : UInv (B + 20) T (backU u) := by
 have hlf : ∀ r,r ∈ u.c.log → ActFit r.act := fun r hr => (h.cli.logS r hr).fit
 have hg := grown_take h.srv.hist u.c.number hlf
 have hl := h.cli.log
 have hs := (h.srv.take u.c.number hlf).mono (show B + u.c.log.length ≤ B + 20 by omega)
 obtain ⟨r1,r2⟩ := refusedL_mem u.c.log (backVs u)
 have hc := (h.cli).mono (show B ≤ B + 20 by omega) (Nat.le_refl T)
 have hsub : ((u.c.cache.filter fun k => !k.dirty).filter fun k => !staleK (backS u).tree k).Sublist u.c.cache := List.filter_sublist.trans List.filter_sublist
 have hin : ∀ k,k ∈ (u.c.cache.filter fun k => !k.dirty).filter (fun k => !staleK (backS u).tree k) → k.dirty = false ∧ k.node ∈ (backS u).tree := fun k hk => by
  obtain ⟨hk,hst⟩ := List.mem_filter.1 hk
  obtain ⟨hk,hd⟩ := List.mem_filter.1 hk
  have hd : k.dirty = false := by simpa using hd
  exact ⟨hd,staleK_in hg.hist ((h.cli.hst k hk hd).grow h.srv.hist hg) hd (show staleK (backS u).tree k = false by simpa using hst)⟩
 refine ⟨hs,?_⟩
 exact { hc with
  nod := h.cli.nod.sublist (hsub.map _)
  len := by have := hsub.length_le; have := h.cli.len; show ((List.filter _ (u.c.cache.filter _)).length : Int) ≤ u.c.room; omega
  falls := (Of.mem fun k hk => (hin k hk).2).falls hg.hist.good.falls
  data := fun k hk => h.cli.data k (hsub.subset hk)
  ent := fun k hk => h.cli.ent k (hsub.subset hk)
  eup := fun k hk => h.cli.eup k (hsub.subset hk)
  nam := fun k hk => h.cli.nam k (hsub.subset hk)
  here := fun _ => ⟨rfl,hin⟩
  hst := fun k hk _ => Hst.at hg.hist (hin k hk).2
  log := Nat.zero_le _
  logS := fun r hr => by cases hr
  rep := by have := h.cli.rep; show (u.c.repair ++ _).length ≤ _; rw [List.length_append]; omega
  repS := fun r hr => by
   rcases List.mem_append.1 hr with hr | hr
   ·exact h.cli.repS r hr
   ·exact h.cli.logS r (r1 r hr) }
theorem splitR_short {s : List UInt8} (h : (Ys s).2 = 0) : s.length ≤ 40 := by
 unfold Ys at h
 split at h
 ·cases h
 ·omega
theorem hoard_inv {B T : Nat} {u : U} (h : UInv B T u) (path : List UInt8) (w : Int) : UInv B T (hoardU u path w).u := by
 unfold hoardU
 split
 ·exact h
 ·rename_i hs
  have hs := splitR_short (s := path) (by omega)
  split
  ·exact h
  ·rename_i hw
   split
   ·exact h
   ·rename_i hm
    have hfl := List.length_filter_le (fun h : Hoard => !(h.path == path)) u.c.hoards
    have h6 := h.cli.hoards
    refine ⟨h.srv,?_⟩
    have hc := h.cli
    exact { hc with
     hoards := by
      show (if 0 < w then hoardsF u.c.hoards path ++ [⟨path,w⟩] else hoardsF u.c.hoards path).length ≤ 6
      split
      ·rename_i h0
       have : ¬ (hoardsF u.c.hoards path).length ≥ 6 := fun h1 => hm ⟨h0,h1⟩
       simp; omega
      ·exact Nat.le_trans hfl h6
     hoardS := fun x hx => by
      have hx : x ∈ (if 0 < w then hoardsF u.c.hoards path ++ [⟨path,w⟩] else hoardsF u.c.hoards path) := hx
      split at hx
      ·rcases List.mem_append.1 hx with hx | hx
       ·exact h.cli.hoardS x (List.mem_filter.1 hx).1
       ·rw [List.mem_singleton.1 hx]; exact ⟨hs,by show 1 ≤ w ∧ w ≤ 100; omega⟩
      ·exact h.cli.hoardS x (List.mem_filter.1 hx).1 }
theorem visitS_inv {B T : Nat} {g : GotV} (h : UInv B T g.u) (x : Hoard) : UInv B (T + 42) (visitS g x).u := by
 have := (splitR_len x.path).1
 exact (goU_inv h (Ys x.path).1 x.worth).mono (Nat.le_refl _) (by omega)
theorem visitL_inv {B : Nat} : ∀ (l : List Hoard) (T : Nat) (g : GotV),UInv B T g.u → UInv B (T + 42 * l.length) (l.foldl visitS g).u
 | [],T,g,h => h
 | x :: l,T,g,h => by
  have := visitL_inv l (T + 42) (visitS g x) (visitS_inv h x)
  rw [show T + 42 + 42 * l.length = T + 42 * (x :: l).length by simp; omega] at this
  exact this
theorem orderH_len (l : List Hoard) : ∀ w,(orderH l w).length ≤ l.length := fun w => by
 have key : ∀ w,(orderH l w).length + (l.filter fun h => decide (h.worth > ((w : Nat) : Int))).length ≤ l.length := fun w => by
  induction w with
  | zero => rw [orderH,List.length_nil,Nat.zero_add]; exact List.length_filter_le _ _
  | succ w ih =>
   rw [orderH,List.length_append]
   have h1 : ∀ m : List Hoard,(m.filter fun h => h.worth == ((w + 1 : Nat) : Int)).length + (m.filter fun h => decide (h.worth > ((w + 1 : Nat) : Int))).length ≤ (m.filter fun h => decide (h.worth > ((w : Nat) : Int))).length := fun m => by
    induction m with
    | nil => simp
    | cons x m ihm =>
     simp only [List.filter_cons]
     by_cases e1 : x.worth = ((w + 1 : Nat) : Int)
     ·rw [if_pos (by simpa using e1),if_neg (by simp; omega),if_pos (by simp; omega)]
      simp only [List.length_cons]; omega
     ·rw [if_neg (by simpa using e1)]
      by_cases e2 : x.worth > ((w + 1 : Nat) : Int)
      ·rw [if_pos (by simpa using e2),if_pos (by simp; omega)]
       simp only [List.length_cons]; omega
      ·rw [if_neg (by simpa using e2),if_neg (by simp only [decide_eq_true_eq]; omega)]
       exact ihm
   have := h1 l
   omega
 have := key w
 omega
theorem visit_inv {B T : Nat} {u : U} (h : UInv B T u) : UInv B (T + 252) (visitU u).u := by
 have := orderH_len u.c.hoards 100
 have h6 := h.cli.hoards
 exact (visitL_inv (orderH u.c.hoards 100) T ⟨0,u⟩ h).mono (Nat.le_refl _) (by omega)
theorem step_inv {B T : Nat} {u : U} (h : UInv B T u) (x : Step) : UInv (B + 20) (T + 300) (Yw u x).u := by
 have hm := h.mono (show B ≤ B + 20 by omega) (show T ≤ T + 300 by omega)
 unfold Yw
 split
 ·split
  ·exact hm
  ·have := (splitR_len x.path).1
   exact (goU_inv h (Ys x.path).1 0).mono (by omega) (by omega)
 ·split
  ·exact (write_inv h x.path x.data).mono (by omega) (by omega)
  ·split
   ·exact (mkdir_inv h x.path).mono (by omega) (by omega)
   ·split
    ·exact (remove_inv h x.path).mono (by omega) (by omega)
    ·split
     ·exact (move_inv h x.path x.toPath).mono (by omega) (by omega)
     ·split
      ·exact ⟨hm.srv,{ hm.cli with here := fun h0 => by cases h0 }⟩
      ·split
       ·exact (back_inv h).mono (by omega) (by omega)
       ·split
        ·exact (hoard_inv h x.path x.n).mono (by omega) (by omega)
        ·split
         ·split
          ·exact hm
          ·exact (visit_inv h).mono (by omega) (by omega)
         ·exact hm
theorem keepU_s (u : U) (k : Kept) : (keepU u k).s = u.s := by unfold keepU; split <;> rfl
theorem getU_s (u : U) (f w : Int) : (getU u f w).u.s = u.s := by
 unfold getU
 split
 ·rfl
 ·split
  ·rfl
  ·split
   ·rfl
   ·exact keepU_s _ _
theorem goR_s (w : Int) : ∀ (l : List (List UInt8)) (g : Got),(goR w l g).u.s = g.u.s
 | [],g => by unfold goR; split <;> rfl
 | s :: r,g => by
  unfold goR
  split
  ·rfl
  ·split
   ·rfl
   ·split
    ·rfl
    ·rw [goR_s w r,getU_s]
theorem goU_s (u : U) (l : List (List UInt8)) (w : Int) : (goU u l w).u.s = u.s := by unfold goU; rw [goR_s,getU_s]
theorem dirU_s (u : U) (path : List UInt8) : (Yd u path).u.s = u.s := by
 unfold Yd
 split
 ·rfl
 ·split
  ·rfl
  ·exact goU_s _ _ _
theorem atU_s (u : U) (path : List UInt8) : (atU u path).u.s = u.s := by
 unfold atU
 split
 ·exact dirU_s _ _
 ·split
  ·exact dirU_s _ _
  ·show (getU _ _ _).u.s = _; rw [getU_s,dirU_s]
theorem visitL_s : ∀ (l : List Hoard) (g : GotV),(l.foldl visitS g).u.s = g.u.s
 | [],_ => rfl
 | x :: l,g => by rw [List.foldl_cons,visitL_s l]; exact goU_s _ _ _
theorem getU_id (u : U) (f w : Int) : (getU u f w).u.c.number = u.c.number ∧ (getU u f w).u.c.room = u.c.room ∧ (getU u f w).u.c.away = u.c.away ∧ (getU u f w).u.c.log = u.c.log ∧ (getU u f w).u.c.repair = u.c.repair ∧ (getU u f w).u.c.hoards = u.c.hoards ∧ (getU u f w).u.c.made = u.c.made ∧ (getU u f w).u.c.logged = u.c.logged := by
 unfold getU
 split
 ·exact ⟨rfl,rfl,rfl,rfl,rfl,rfl,rfl,rfl⟩
 ·split
  ·exact ⟨rfl,rfl,rfl,rfl,rfl,rfl,rfl,rfl⟩
  ·split
   ·exact ⟨rfl,rfl,rfl,rfl,rfl,rfl,rfl,rfl⟩
   ·show (keepU _ _).c.number = _ ∧ _
    unfold keepU
    split <;> exact ⟨rfl,rfl,rfl,rfl,rfl,rfl,rfl,rfl⟩
structure Idle (u u' : U) : Prop where
 s : u'.s = u.s
 number : u'.c.number = u.c.number
 room : u'.c.room = u.c.room
 away : u'.c.away = u.c.away
 log : u'.c.log = u.c.log
 rep : u'.c.repair = u.c.repair
 hoards : u'.c.hoards = u.c.hoards
 made : u'.c.made = u.c.made
 logged : u'.c.logged = u.c.logged
theorem Idle.refl (u : U) : Idle u u := ⟨rfl,rfl,rfl,rfl,rfl,rfl,rfl,rfl,rfl⟩
theorem Idle.trans {a b c : U} (h : Idle a b) (k : Idle b c) : Idle a c := ⟨k.s.trans h.s,k.number.trans h.number,k.room.trans h.room,k.away.trans h.away,k.log.trans h.log,k.rep.trans h.rep,k.hoards.trans h.hoards,k.made.trans h.made,k.logged.trans h.logged⟩
theorem getU_idle (u : U) (f w : Int) : Idle u (getU u f w).u := by
 obtain ⟨h1,h2,h3,h4,h5,h6,h7,h8⟩ := getU_id u f w
 exact ⟨getU_s u f w,h1,h2,h3,h4,h5,h6,h7,h8⟩
theorem goR_idle (w : Int) : ∀ (l : List (List UInt8)) (g : Got),Idle g.u (goR w l g).u
 | [],g => by unfold goR; split <;> exact Idle.refl _
 | s :: r,g => by
  unfold goR
  split
  ·exact Idle.refl _
  ·split
   ·exact Idle.refl _
   ·split
    ·exact Idle.refl _
    ·exact (getU_idle _ _ _).trans (goR_idle w r _)
theorem goU_idle (u : U) (l : List (List UInt8)) (w : Int) : Idle u (goU u l w).u := (getU_idle u 0 w).trans (goR_idle w l _)
theorem own_s (u : U) (a : Act) (seen : Int) : (ownU u a seen).u.s = u.s := by
 unfold ownU
 split
 ·rfl
 ·split
  ·rfl
  ·split <;> rfl
theorem act_grown {B T : Nat} {u : U} (h : UInv B T u) {a : Act} (hs : ActS a) (seen : Int) : Grown u.s (actU u a seen).u.s := by
 unfold actU
 split
 ·rw [own_s]; exact Grown.refl h.srv.hist
 ·unfold hereU
  split
  ·rename_i he; exact grown_do h.srv.hist u.c.number hs.fit he
  ·exact Grown.refl h.srv.hist
theorem grown_of {u u' v : U} (hi : u'.s = u.s) (h : Grown u'.s v.s) : Grown u.s v.s := by rw [hi] at h; exact h
theorem put_grown {B T : Nat} {g : Got} (h : UInv B T g.u) {data : List UInt8} (hd : data.length ≤ 20) : Grown g.u.s (putU g data).u.s := by
 unfold putU
 split
 ·exact Grown.refl h.srv.hist
 ·exact act_grown h ⟨by simp [storeA],by simp [storeA],hd⟩ _
theorem same_grown {B T : Nat} {u v : U} (h : UInv B T u) (hs : v.s = u.s) : Grown u.s v.s := by rw [hs]; exact Grown.refl h.srv.hist
theorem write_grown {B T : Nat} {u : U} (h : UInv B T u) (path data : List UInt8) : Grown u.s (writeU u path data).u.s := by
 have hd := dirU_inv h path
 have hn := dirU_name u path
 unfold writeU
 split
 ·exact same_grown h (dirU_s u path)
 ·split
  ·exact same_grown h (dirU_s u path)
  ·split
   ·rename_i f _
    exact grown_of (u' := (getU (Yd u path).u f 0).u) (by rw [getU_s,dirU_s]) (put_grown (getU_inv hd f 0) (by omega))
   ·have ha : ActS (makeA (Yd u path).n.fid (Yd u path).name) := ⟨hn,by simp [makeA],by simp [makeA]⟩
    have hg := act_grown hd ha (-1)
    have hm := act_inv hd ha (-1)
    split
    ·exact grown_of (dirU_s u path) hg
    ·exact grown_of (dirU_s u path) (hg.trans (grown_of (u' := (goU _ _ _).u) (goU_s _ _ _) (put_grown (goU_inv hm (Ys path).1 0) (by omega))))
theorem step_grown {B T : Nat} {u : U} (h : UInv B T u) (x : Step) : Grown u.s (Yw u x).u.s := by
 unfold Yw
 split
 ·split
  ·exact Grown.refl h.srv.hist
  ·exact same_grown h (goU_s _ _ _)
 ·split
  ·exact write_grown h _ _
  ·split
   ·unfold mkdirU
    split
    ·exact same_grown h (dirU_s _ _)
    ·exact grown_of (dirU_s u x.path) (act_grown (dirU_inv h x.path) ⟨dirU_name u x.path,by simp [mdirA],by simp [mdirA]⟩ (-1))
   ·split
    ·unfold removeU
     obtain ⟨hd,hn⟩ := atU_inv h x.path
     split
     ·exact same_grown h (atU_s _ _)
     ·exact grown_of (atU_s u x.path) (act_grown hd ⟨hn,by simp [removeA],by simp [removeA]⟩ _)
    ·split
     ·unfold moveU
      obtain ⟨hd,hn⟩ := atU_inv h x.path
      split
      ·exact same_grown h (atU_s _ _)
      ·split
       ·exact same_grown h (by rw [dirU_s,atU_s])
       ·exact grown_of (u' := (Yd (atU u x.path).u x.toPath).u) (by rw [dirU_s,atU_s]) (act_grown (dirU_inv hd x.toPath) ⟨hn,dirU_name _ _,by simp [renameA]⟩ _)
     ·split
      ·exact Grown.refl h.srv.hist
      ·split
       ·exact grown_take h.srv.hist u.c.number fun r hr => (h.cli.logS r hr).fit
       ·split
        ·unfold hoardU
         split
         ·exact Grown.refl h.srv.hist
         ·split
          ·exact Grown.refl h.srv.hist
          ·split <;> exact Grown.refl h.srv.hist
        ·split
         ·split
          ·exact Grown.refl h.srv.hist
          ·exact same_grown h (visitL_s _ _)
         ·exact Grown.refl h.srv.hist
structure WInv (B T : Nat) (w : Wor) : Prop where
 srv : SrvOK B w.s
 cli : ∀ c,c ∈ w.cs → CInv B T w.s c
 len : w.cs.length ≤ 3
theorem WInv.at {B T : Nat} {w : Wor} (h : WInv B T w) {i : Nat} (hi : i < w.cs.length) : UInv B T ⟨w.cs.getD i default,w.s⟩ := ⟨h.srv,h.cli _ (YG hi)⟩
theorem world_inv {B T : Nat} {w : Wor} (h : WInv B T w) (x : Step) : WInv (B + 20) (T + 300) (worldU w x).w := by
 unfold worldU
 split
 ·exact ⟨h.srv.mono (by omega),fun c hc => (h.cli c hc).mono (by omega) (by omega),h.len⟩
 ·rename_i hx
  have hi : x.client.toNat < w.cs.length := by omega
  have hu := h.at hi
  have h1 := step_inv hu x
  have h2 := step_grown hu x
  refine ⟨h1.srv,fun c hc => ?_,by simp; exact h.len⟩
  obtain ⟨d,hd,rfl⟩ := List.mem_map.1 hc
  rcases List.mem_or_eq_of_mem_set hd with hd | rfl
  ·exact ((h.cli d hd).mono (Nat.le_refl B) (show T ≤ T + 300 by omega)).grow (by omega) h.srv.hist h2
  ·exact h1.cli.grow (Nat.le_refl _) h1.srv.hist (Grown.refl h1.srv.hist)
theorem new_inv {rooms : List Int} (h : roomsE rooms = 0) : WInv 0 0 (newW rooms) := by
 unfold roomsE at h
 split at h
 ·cases h
 ·split at h
  ·rename_i hr hall
   refine ⟨SrvOK.new,fun c hc => ?_,by simp [newW,newCs]; omega⟩
   obtain ⟨j,hj,rfl⟩ := List.mem_map.1 hc
   have hj : j < rooms.length := List.mem_range.1 hj
   have := List.all_eq_true.1 hall (rooms.getD j 0) (by rw [List.getD_eq_getElem?_getD,List.getElem?_eq_getElem hj]; exact List.getElem_mem hj)
   simp only [Bool.and_eq_true,decide_eq_true_eq] at this
   exact CInv.new 0 0 _ j _ this
  ·cases h
theorem build_invF : ∀ (l : List Step) {B T : Nat} {w : Wor},WInv B T w → WInv (B + 20 * l.length) (T + 300 * l.length) (l.foldl (fun w x => (worldU w x).w) w)
 | [],_,_,_,h => h
 | x :: l,B,T,w,h => by
  have := build_invF l (world_inv h x)
  rw [show B + 20 + 20 * l.length = B + 20 * (x :: l).length by simp; omega,show T + 300 + 300 * l.length = T + 300 * (x :: l).length by simp; omega] at this
  exact this
theorem build_inv {rooms : List Int} (h : roomsE rooms = 0) (l : List Step) : WInv (20 * l.length) (300 * l.length) (buildW rooms l) := by
 have := build_invF l (new_inv h)
 rwa [Nat.zero_add,Nat.zero_add] at this
def ZJ (h : Hoard) : List AV := [.str h.path,.int .i64 h.worth]
def ZC (c : Cli) : List AV := [.int .i64 c.number,.bool c.away,.int .i64 c.room,.sl (c.cache.map ZK),.sl (c.log.map ZR),.sl (c.repair.map ZR),.sl (c.hoards.map ZJ),.int .i64 c.clock,.int .i64 c.made,.int .i64 c.logged]
def ZX (x : Step) : List AV := [.int .i64 x.kind,.int .i64 x.client,.int .i64 x.n,.str x.path,.str x.toPath,.sl (x.data.map ZY)]
def replyRow (r : Reply) : List AV := [.int .i64 r.err,.int .i64 r.n,.int .i64 r.m,.sl (r.data.map ZY)]
def uRow (u : U) : List AV := [.int .i64 u.c.number,.bool u.c.away,.int .i64 u.c.room,.sl (u.c.cache.map ZK),.sl (u.c.log.map ZR),.sl (u.c.repair.map ZR),.sl (u.c.hoards.map ZJ),.int .i64 u.c.clock,.int .i64 u.c.made,.int .i64 u.c.logged,.sl (u.s.tree.map ZN),.int .i64 u.s.next,.sl (u.s.past.map ZP)]
def worRow (w : Wor) : List AV := [.sl (w.s.tree.map ZN),.int .i64 w.s.next,.sl (w.s.past.map ZP),.sl (w.cs.map ZC)]
theorem fam_hoardRow : Fam ZJ 2 := ⟨fun _ => rfl,fun _ => rfl,fun _ => rfl,fun _ => rfl⟩
@[go_sem,simp] theorem hoardRow_pure (l : List _) : ((l.map ZJ).all fun row => row.all AV.pureB) = true := fam_hoardRow.allPure l
@[go_sem,simp] theorem hoardRow_noRef (id : Nat) (l : List _) : ((l.map ZJ).all fun row => row.all fun x => !(refs x).contains id) = true := fam_hoardRow.noRef id l
@[go_sem,simp] theorem hoardRow_refsB (e s : Nat) (l : List _) : refsB (.cells e s (l.map ZJ)) = [] := fam_hoardRow.refsB e s l
@[go_sem,simp] theorem hoardRow_frzL (id s : Nat) (rows : List (List AV)) (l : List _) : (l.map ZJ).map (frzL id s rows) = l.map ZJ := Fam.frzL (fun _ _ _ _ => rfl) id s rows l
theorem fam_cliRow : Fam ZC 10 := ⟨fun _ => rfl,fun _ => rfl,fun _ => rfl,fun _ => rfl⟩
@[go_sem,simp] theorem cliRow_pure (l : List _) : ((l.map ZC).all fun row => row.all AV.pureB) = true := fam_cliRow.allPure l
@[go_sem,simp] theorem cliRow_noRef (id : Nat) (l : List _) : ((l.map ZC).all fun row => row.all fun x => !(refs x).contains id) = true := fam_cliRow.noRef id l
@[go_sem,simp] theorem cliRow_refsB (e s : Nat) (l : List _) : refsB (.cells e s (l.map ZC)) = [] := fam_cliRow.refsB e s l
@[go_sem,simp] theorem cliRow_frzL (id s : Nat) (rows : List (List AV)) (l : List _) : (l.map ZC).map (frzL id s rows) = l.map ZC := Fam.frzL (fun _ _ _ _ => rfl) id s rows l
end La
namespace La
open Go Go.Eng Go.Proofs
theorem drop_len {α : Type} {L T : List α} {off : Nat} (h : off ≤ L.length) (ht : L.drop off = T) : L.length = off + T.length := by
 have := congrArg List.length ht
 rw [List.length_drop] at this
 omega
theorem rebase {L : List Int} {off off' : Nat} (h : off ≤ L.length) (ho : off' = off ∨ off' = 0) (f : Int) :
  (((L.map ZI).drop (off - off')).take (off' + (L.length - off)) ++ [ZI f]) = (((L.drop (off - off')).take (off' + (L.length - off))) ++ [f]).map ZI ∧
  ((((L.drop (off - off')).take (off' + (L.length - off))) ++ [f]).drop off') = L.drop off ++ [f] ∧ (((L.drop (off - off')).take (off' + (L.length - off))) ++ [f]).length = off' + (L.length - off + 1) := by
 have hl : ((L.drop (off - off')).take (off' + (L.length - off))).length = off' + (L.length - off) := by simp; omega
 refine ⟨?_,?_,?_⟩
 ·rw [List.map_append,List.map_take,List.map_drop]; rfl
 ·rw [List.drop_append_of_le_length (by omega),List.drop_take,List.drop_drop]
  have e : off - off' + off' = off := by rcases ho with rfl | rfl <;> omega
  rw [e,Nat.add_sub_cancel_left]
  congr 1
  exact List.take_of_length_le (by simp)
 ·rw [List.length_append,hl]; simp; omega
theorem allF_len {m : List (Int × Node)} {x : Int} {n : Node} (h : Zg m x = some n) : n.entries.length ≤ (allF m).length := by
 have h1 := mget_mem h
 unfold allF
 clear h
 induction m with
 | nil => cases h1
 | cons p r ih =>
  simp only [List.flatMap_cons,List.length_append,List.length_map]
  rcases List.mem_cons.1 h1 with rfl | h1
  ·simp only; omega
  ·have := ih h1; omega
theorem mB_start (k : Int) : Zp ([] : List (Int × AV)) k (.bool true) = mB (Zp [] k true) := rfl
open Classical in
theorem rwithin_ok (m : List (Int × Node)) (fid inn : Int) (hsz : (allF m).length ≤ 90000000) : FnOK Tryz.prog 66 [.rm (mN m),.int .i64 fid,.int .i64 inn] [] (fun r _ => r = .bool (decide (MReach m inn fid))) := by
 refine ZF tK (Tryz.func66) rfl (fun C => ?_)
 simp only [Tryz.ntmps66,Tryz.results66,go_sem]
 refine wGq tK ?_ ?_
 ·simp [go_sem,AV.deepB,AV.pureB]
 refine ZL (fun s : List (Int × Bool) × Nat × List Int => s.2.1 ≤ s.2.2.length ∧ BI m inn s.1 (s.2.2.drop s.2.1)) (fun s => (s.2.2.length - s.2.1) + unseen m s.1) (fun s => [(8,.osl 15 1 s.2.1 (s.2.2.length - s.2.1)),(10,.any),(14,.any),(15,.any),(16,.any),(17,.any),(18,.any),(19,.any),(20,.any),(21,.any),(22,.any),(23,.any),(24,.any),(25,.any),(26,.any),(27,.any),(28,.any),(29,.any),(30,.any),(31,.any),(32,.any),(33,.any),(34,.any),(35,.any),(36,.any),(37,.any),(38,.any),(39,.any),(40,.any),(41,.any),(42,.any),(43,.any),(44,.any),(45,.any)])
  (fun s => [(11,.map (mB s.1)),(15,.cells 3 1 (s.2.2.map ZI))]) (Zp [] inn true,0,[inn]) ⟨by simp,BI.begin m inn⟩ ?_ fun s hs => ?_
 ·simp only [go_sem]
  exact ZU (by simp [go_sem]) (by simp [go_sem,mB_start,ZI]) (by simp [go_sem])
 obtain ⟨had,off,L⟩ := s
 obtain ⟨hoff,hbi⟩ := hs
 simp only at hoff hbi
 simp only [go_sem]
 refine wG tK ?_
 refine wD (fun h => ?_) (fun h => ?_)
 ·have hlt : off < L.length := by simp at h; omega
  have hg : (L.map ZI).getD off [] = ZI (L.getD off default) := Fam.getD hlt
  have hdr := drop_getD hlt
  have hl1 : L.length - off = (L.drop (off + 1)).length + 1 := by rw [List.length_drop]; omega
  generalize hx : L.getD off default = x at *
  have hbi0 := hbi
  rw [hdr] at hbi0
  cases hm : Zg m x with
  | none =>
   have hmg : Zg (mN m) x = none := by rw [mN_get,hm]; rfl
   refine wGq tK ?_ ?_ (by simp only [go_sem,hg,ZI,hmg]; try exact rfl)
   ·simp [hg,ZI]; omega
   refine ZL (fun _ : Unit => True) (fun _ => 0) (fun _ => []) (fun _ => []) () trivial ?_ fun _ _ => ?_
   ·simp only [go_sem]
    exact ZU (by simp [go_sem]) (by simp [go_sem]) (by simp [go_sem])
   simp only [go_sem]
   refine wG tK ?_
   refine wD (fun h => ?_) (fun h => ?_)
   ·cases h
   refine wGq tK ?_ ?_
   ·simp; omega
   refine ZB ⟨(had,off + 1,L),⟨by simp only; omega,by simp only; exact hbi0.none hm⟩,by simp only; omega,ZU ?_ ?_ ?_⟩
   ·simp [go_sem]; omega
   ·simp [go_sem]
   ·simp [go_sem]
  | some n =>
   have hmg : Zg (mN m) x = some (.agg (ZN n)) := by rw [mN_get,hm]; rfl
   have hbj := hbi0.inner hm
   have hel := allF_len hm
   have hc : (x :: L.drop (off + 1)).length + unseen m had = L.length - off + unseen m had := by simp only [List.length_cons]; omega
   rw [hc,← hdr] at hbj
   have hcs : L.length - off + unseen m had ≤ (allF m).length + 1 := by have := hbi.size; rw [List.length_drop] at this; exact this
   refine wGq tK ?_ ?_ (by simp only [go_sem,hg,ZI,hmg,ZN]; try exact rfl)
   ·simp [hg,ZI,hmg,ZN]; omega
   refine ZL (fun s : Nat × List (Int × Bool) × Nat × List Int => s.1 ≤ n.entries.length ∧ s.2.2.1 ≤ s.2.2.2.length ∧ BJ m inn x n (L.length - off + unseen m had) s.1 s.2.1 (s.2.2.2.drop s.2.2.1)) (fun s => n.entries.length - s.1)
    (fun s => [(8,.osl 15 1 s.2.2.1 (s.2.2.2.length - s.2.2.1)),(10,.any),(14,.any),(15,.any),(16,.any),(20,.any),(21,.any),(26,.int .i64 s.1),(27,.any),(28,.any),(29,.any),(30,.any),(31,.any),(32,.any),(33,.any),(34,.any),(35,.any),(36,.any),(37,.any),(38,.any),(39,.any),(40,.any),(41,.any),(42,.any),(43,.any),(44,.any),(45,.any)]) (fun s => [(11,.map (mB s.2.1)),(15,.cells 3 1 (s.2.2.2.map ZI))]) (0,had,off,L) ⟨by simp,hoff,hbj⟩ ?_ fun s hs => ?_
   ·simp only [go_sem]
    exact ZU (by simp [go_sem]) (by simp [go_sem]) (by simp [go_sem])
   obtain ⟨j,had2,off2,L2⟩ := s
   obtain ⟨hj,hoff2,hb⟩ := hs
   simp only at hj hoff2 hb
   simp only [go_sem]
   refine wG tK ?_
   refine wD (fun h => ?_) (fun h => ?_)
   ·have hjl : j < n.entries.length := by simp at h; omega
    have hge : (n.entries.map ZE).getD j [] = ZE (n.entries.getD j default) := Fam.getD hjl
    have hw : IntKind.i64.wrap ((j : Int) + 1) = ((j + 1 : Nat) : Int) := by rw [Eng.wrap_small (by omega) (by omega)]; rfl
    have hskip := hb.skip hjl
    have hadd := hb.add hjl
    generalize n.entries.getD j default = f at *
    refine wGq tK ?_ ?_ (by simp only [go_sem,hge,ZE]; try exact rfl)
    ·simp [hge,ZE,hjl]
    cases hgb : getB had2 f.fid with
    | true =>
     refine wDF (hb := by simp) (hk := ?_)
     refine wG tK ?_ (by simp only [go_sem,hw]; try exact rfl) (by simp [go_sem,hw])
     refine ZB ⟨(j + 1,had2,off2,L2),⟨by simp only; omega,hoff2,hskip hgb⟩,by simp only; omega,ZU ?_ ?_ ?_⟩
     ·simp [go_sem]
     ·simp [go_sem]
     ·simp [go_sem]
    | false =>
     refine wDT (hb := by simp) (hk := ?_)
     refine wR ?_
     refine wN tK 3 ?_
     refine wNq tK 1 ?_ ?_
     ·simp [AV.deepB,AV.pureB]
     refine wR ?_
     refine wN tK 4 ?_
     have hcs2 := hb.size
     rw [List.length_drop] at hcs2
     obtain ⟨q,hq⟩ := hb.head
     have hlq := drop_len hoff2 hq
     simp only [List.length_cons] at hlq
     refine cw_appendO tK rfl rfl (by simp only [go_sem]; try exact rfl) (by simp only [go_sem]; try exact rfl) (by simp only [go_sem]; try exact rfl) (by simp only [go_sem]; try exact rfl) (by intro _ _ _ _ h; cases h; rfl) (by simp only [go_sem]; try exact rfl) (by omega) (by simp; omega) (by simp only [go_sem]; try exact rfl) (by decide) (by simp only [go_sem]; decide) (by simp [rowsOf]) (by simp [go_sem]) (by simp [go_sem]; omega) (by simp [go_sem]) (by simp [go_sem,ZI]) fun off' ho => ?_
     obtain ⟨b1,b2,b3⟩ := rebase hoff2 ho f.fid
     have b1' : List.take (off' + (L2.length - off2)) (List.drop (off2 - off') (List.map ZI L2)) ++ [[.int .i64 f.fid]] = List.map ZI (List.take (off' + (L2.length - off2)) (List.drop (off2 - off') L2) ++ [f.fid]) := b1
     clear b1
     generalize List.take (off' + (L2.length - off2)) (List.drop (off2 - off') L2) ++ [f.fid] = L3 at *
     simp only [go_sem]
     rw [b1']
     refine wG tK ?_ (by simp only [go_sem,hw]; try exact rfl) (by simp [go_sem,hw])
     refine ZB ⟨(j + 1,Zp had2 f.fid true,off',L3),⟨by simp only; omega,by simp only; omega,by simp only; rw [b2]; exact hadd hgb⟩,by simp only; omega,ZU ?_ ?_ ?_⟩
     ·simp [go_sem]; omega
     ·simp [go_sem]
     ·simp [go_sem]
   ·have e : j = n.entries.length := by simp at h; omega
    subst e
    obtain ⟨h1,h2⟩ := hb.pop hcs
    obtain ⟨q,hq⟩ := hb.head
    have hlq := drop_len hoff2 hq
    simp only [List.length_cons] at hlq
    refine wGq tK ?_ ?_
    ·simp; omega
    refine ZB ⟨(had2,off2 + 1,L2),⟨by simp only; omega,by simp only; rw [← List.drop_drop]; exact h1⟩,?_,ZU ?_ ?_ ?_⟩
    ·simp only
     rw [List.length_drop,List.length_drop] at h2
     omega
    ·simp [go_sem]; omega
    ·simp [go_sem]
    ·simp [go_sem]
 ·have e : L.drop off = [] := List.drop_eq_nil_of_le (by simp at h; omega)
  rw [e] at hbi
  have hf := hbi.fin fid
  refine wG tK ?_
  refine wT ?_
  cases hgb : getB had fid with
  | true => rw [decide_eq_true (hf.1 hgb)]; rfl
  | false => rw [decide_eq_false fun hh => by rw [hf.2 hh] at hgb; cases hgb]; rfl
theorem rname_ok (s : List UInt8) (hs : s.length ≤ 100000000) : FnOK Tryz.prog 96 [.str s] [] (fun r _ => r = .bool (nameB s)) := by
 refine ZF tK (Tryz.func96) rfl (fun C => ?_)
 simp only [Tryz.ntmps96,Tryz.results96,go_sem]
 refine wG tK ?_
 refine ZL (fun i : Nat => i ≤ s.length ∧ ∀ j,j < i → okC (s.getD j 0) = true) (fun i => s.length - i) (fun i => [(3,.any),(4,.any),(7,.int .i64 i),(8,.any),(9,.any),(10,.any),(11,.any),(12,.any),(13,.any),(14,.any),(15,.any),(16,.any),(17,.any),(18,.any),(19,.any),(20,.any),(21,.any),(22,.any),(23,.any),(24,.any),(25,.any),(26,.any),(27,.any),(28,.any),(29,.any),(30,.any),(31,.any),(32,.any),(33,.any),(34,.any),(35,.any),(36,.any)]) (fun _ => []) 0 ⟨by omega,by omega⟩ ?_ fun i hi => ?_
 ·simp only [go_sem]
  exact ZU (by simp [go_sem]) (by simp [go_sem]) (by simp [go_sem])
 obtain ⟨hi,hs2⟩ := hi
 simp only [go_sem]
 refine wG tK ?_
 refine wD (fun h => ?_) (fun h => ?_)
 ·have hlt : i < s.length := by simp at h; omega
  have hw := wi1 (i := i) (by omega)
  have hno : okC (s.getD i 0) = false → nameB s = false := fun h0 => by
   cases e : s.all okC with
   | false => unfold nameB; rw [e,Bool.and_false]
   | true =>
    have := List.all_eq_true.1 e (s.getD i 0) (by rw [List.getD_eq_getElem?_getD,List.getElem?_eq_getElem hlt]; exact List.getElem_mem hlt)
    rw [this] at h0; cases h0
  have hyes : okC (s.getD i 0) = true → ∀ j,j < i + 1 → okC (s.getD j 0) = true := fun h0 j hj => by
   rcases Nat.lt_succ_iff_lt_or_eq.1 hj with h1 | rfl
   ·exact hs2 j h1
   ·exact h0
  refine wR ?_
  refine wN tK 2 ?_
  refine wR ?_
  refine wN tK 2 ?_
  refine wNq tK 1 ?_ ?_
  ·simp; omega
  refine wN tK 1 ?_
  refine wR ?_
  generalize s.getD i 0 = c at hno hyes
  have hc : okC c = ((decide ((c.toNat : Int) ≥ 97) && decide ((c.toNat : Int) ≤ 122)) || (decide ((c.toNat : Int) ≥ 48) && decide ((c.toNat : Int) ≤ 57))) := by
   unfold okC
   rw [Bool.eq_iff_iff]
   simp only [Bool.or_eq_true,Bool.and_eq_true,decide_eq_true_eq]
   omega
  generalize hf1 : decide ((c.toNat : Int) ≥ 97) = f1 at hc
  generalize hf2 : decide ((c.toNat : Int) ≤ 122) = f2 at hc
  generalize hf3 : decide ((c.toNat : Int) ≥ 48) = f3 at hc
  generalize hf4 : decide ((c.toNat : Int) ≤ 57) = f4 at hc
  refine wNq tK 14 ?_ ?_ (h := by simp only [go_sem,hf1,hf2,hf3,hf4]; try exact rfl)
  ·cases f1 <;> cases f2 <;> cases f3 <;> cases f4 <;> simp
  have hb : (bif (bif f1 then f2 else false) then true else (bif f3 then f4 else false)) = okC c := by
   rw [hc]; cases f1 <;> cases f2 <;> cases f3 <;> cases f4 <;> rfl
  simp only [go_sem,hb]
  refine wG tK ?_
  refine wD (fun h => ?_) (fun h => ?_)
  ·have h0 : okC c = false := by simpa using h
   refine wG tK ?_
   refine wT ?_
   rw [hno h0]
  ·have h0 : okC c = true := by simpa using h
   refine wG tK ?_ (by simp only [go_sem,hw]; try exact rfl) (by simp [go_sem,hw])
   refine ZB ⟨i + 1,⟨by omega,hyes h0⟩,by omega,ZU ?_ ?_ ?_⟩
   ·simp [go_sem]
   ·simp [go_sem]
   ·simp [go_sem]
 ·have e : i = s.length := by simp at h; omega
  have : s.all okC = true := List.all_eq_true.2 fun x hx => by
   obtain ⟨j,hj⟩ := List.getElem?_of_mem hx
   have := hs2 j (by rw [e]; exact (List.getElem?_eq_some_iff.1 hj).1)
   rwa [List.getD_eq_getElem?_getD,hj] at this
  refine wG tK ?_
  refine wT ?_
  unfold nameB
  rw [this,cond_and,Bool.and_true]
  have h1 : decide ((s.length : Int) > 0) = decide (1 ≤ s.length) := by rw [Bool.eq_iff_iff]; simp only [decide_eq_true_eq]; omega
  have h2 : decide ((s.length : Int) ≤ 8) = decide (s.length ≤ 8) := by rw [Bool.eq_iff_iff]; simp only [decide_eq_true_eq]; omega
  rw [h1,h2]
end La
namespace La
open Go Go.Eng
theorem fn_nrmP {P : Program} {f : FuncId} {args : List AV} {H : List (Nat × Blk)} {Y : AV} (h : FnOK P f args H fun r _ => Eng.nrm r = Y) : FnOK P f args H fun r _ => r = Y := by
 intro R0 μ w0 vs hl ha hH hR
 refine (h R0 μ w0 vs hl ha hH hR).mono ?_
 rintro e' w' ⟨v,r,H',μ',S',rfl,rfl,h4,h5⟩
 exact ⟨v,_,H',μ',S',rfl,rfl,h4.nrm,h5⟩
theorem nrm_strs (l : List (List UInt8)) : Eng.nrmR (l.map strRow) = l.map strRow := by
 rw [nrmR_map,List.map_map]
 exact List.map_congr_left fun x _ => rfl
end La
