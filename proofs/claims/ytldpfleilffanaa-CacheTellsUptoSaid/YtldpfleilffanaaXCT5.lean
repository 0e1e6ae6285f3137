/- Texts of this claim, part 5: PWhole, PWh2, RTree, PApply, Worst, Del, Keep, PKeep, Srt, RCache, EngAM, EngAO, RKeepK, RFreshK, RList. No condition. -/
import Derived.Test.YtldpfleilffanaaXCT4
namespace La
open Go Go.Eng

def Edge (l : List Node) (d : Int) (s : List UInt8) (f : Int) : Prop := ∃ n, n ∈ l ∧ n.fid = d ∧ (⟨s, f⟩ : Entry) ∈ n.entries
def FidIn (l : List Node) (f : Int) : Prop := ∃ n, n ∈ l ∧ n.fid = f
structure Loc (n : Node) : Prop where
  eup : EUp n.entries
  file : n.dir = false → n.entries = []
  dirD : n.dir = true → n.data = []
structure Wh (l : List Node) : Prop where
  good : Good l
  loc : ∀ n, n ∈ l → Loc n
  name : ∀ d s f, Edge l d s f → nameB s = true
  there : ∀ d s f, Edge l d s f → FidIn l f
  noroot : ∀ d s f, Edge l d s f → f ≠ 0
  par : ∀ f, FidIn l f → f ≠ 0 → ∃ d s, Edge l d s f
  one : ∀ d s d' s' f, Edge l d s f → Edge l d' s' f → d = d' ∧ s = s'
  root : ∃ n, n ∈ l ∧ n.fid = 0 ∧ n.dir = true

theorem up_same {l : List Node} (h : Up l) {a b : Node} (ha : a ∈ l) (hb : b ∈ l) (hf : a.fid = b.fid) : a = b := by
  have h1 := (findN_some h).2 ⟨ha, rfl⟩
  have h2 := (findN_some h).2 ⟨hb, hf.symm⟩
  rw [h1] at h2; injection h2
theorem edge_at {l : List Node} (h : Up l) {n : Node} (hn : n ∈ l) {s : List UInt8} {f : Int} : Edge l n.fid s f ↔ (⟨s, f⟩ : Entry) ∈ n.entries :=
  ⟨fun ⟨m, hm, hf, he⟩ => by rw [up_same h hm hn hf] at he; exact he, fun he => ⟨n, hn, rfl, he⟩⟩
theorem edge_put {l : List Node} (h : Up l) (n : Node) {d : Int} {s : List UInt8} {f : Int} : Edge (putN l n) d s f ↔ (d = n.fid ∧ (⟨s, f⟩ : Entry) ∈ n.entries) ∨ (d ≠ n.fid ∧ Edge l d s f) := by
  obtain ⟨_, h2⟩ := putN_up h n
  constructor
  · rintro ⟨m, hm, rfl, he⟩
    rcases (h2 m).1 hm with rfl | ⟨hm, hne⟩
    · exact .inl ⟨rfl, he⟩
    · exact .inr ⟨hne, m, hm, rfl, he⟩
  · rintro (⟨rfl, he⟩ | ⟨hne, m, hm, rfl, he⟩)
    · exact ⟨n, (h2 n).2 (.inl rfl), rfl, he⟩
    · exact ⟨m, (h2 m).2 (.inr ⟨hm, hne⟩), rfl, he⟩
theorem fid_put {l : List Node} (h : Up l) (n : Node) {f : Int} : FidIn (putN l n) f ↔ f = n.fid ∨ FidIn l f := by
  obtain ⟨_, h2⟩ := putN_up h n
  constructor
  · rintro ⟨m, hm, rfl⟩
    rcases (h2 m).1 hm with rfl | ⟨hm, hne⟩
    · exact .inl rfl
    · exact .inr ⟨m, hm, rfl⟩
  · rintro (rfl | ⟨m, hm, rfl⟩)
    · exact ⟨n, (h2 n).2 (.inl rfl), rfl⟩
    · by_cases hne : m.fid = n.fid
      · exact ⟨n, (h2 n).2 (.inl rfl), hne.symm⟩
      · exact ⟨m, (h2 m).2 (.inr ⟨hm, hne⟩), rfl⟩
theorem edge_drop {l : List Node} (k : Int) {d : Int} {s : List UInt8} {f : Int} : Edge (dropN l k) d s f ↔ Edge l d s f ∧ d ≠ k := by
  constructor
  · rintro ⟨m, hm, rfl, he⟩
    have := List.mem_filter.1 hm
    exact ⟨⟨m, this.1, rfl, he⟩, by simpa using this.2⟩
  · rintro ⟨⟨m, hm, rfl, he⟩, hk⟩
    exact ⟨m, List.mem_filter.2 ⟨hm, by simpa using hk⟩, rfl, he⟩
theorem fid_drop {l : List Node} (k : Int) {f : Int} : FidIn (dropN l k) f ↔ FidIn l f ∧ f ≠ k := by
  constructor
  · rintro ⟨m, hm, rfl⟩
    have := List.mem_filter.1 hm
    exact ⟨⟨m, this.1, rfl⟩, by simpa using this.2⟩
  · rintro ⟨⟨m, hm, rfl⟩, hk⟩
    exact ⟨m, List.mem_filter.2 ⟨hm, by simpa using hk⟩, rfl⟩
theorem enter_mem {l : List Entry} (h : EUp l) {s0 : List UInt8} (hs : isE l s0 = false) (f0 : Int) {s : List UInt8} {f : Int} : (⟨s, f⟩ : Entry) ∈ enterE l s0 f0 ↔ (s = s0 ∧ f = f0) ∨ (⟨s, f⟩ : Entry) ∈ l := by
  rw [(enterE_up h hs f0).2.1]
  simp
theorem leave_mem {l : List Entry} {s0 s : List UInt8} {f : Int} : (⟨s, f⟩ : Entry) ∈ leaveE l s0 ↔ (⟨s, f⟩ : Entry) ∈ l ∧ s ≠ s0 := by
  unfold leaveE
  rw [List.mem_filter]
  simp
theorem leave_up {l : List Entry} (h : EUp l) (s : List UInt8) : EUp (leaveE l s) := h.sublist List.filter_sublist

theorem roomE_free {n : Node} {s : List UInt8} (h : roomE n s = 0) : nameB s = true ∧ isE n.entries s = false := by
  unfold roomE at h
  split at h
  · rename_i h1
    split at h
    · omega
    · rename_i h2
      exact ⟨h1, by simpa using h2⟩
  · omega
theorem fid_of_find {l : List Node} {k : Int} {n : Node} (hu : Up l) (h : findN l k = some n) : FidIn l k := by
  obtain ⟨h1, h2⟩ := (findN_some hu).1 h
  exact ⟨n, h1, h2⟩
theorem notIn_of {l : List Node} {k : Int} (hu : Up l) (h : isAt l k = false) : ¬ FidIn l k := by
  rintro ⟨m, hm, rfl⟩
  have := (findN_some hu).2 ⟨hm, rfl⟩
  rw [isAt_of this] at h; cases h

theorem wh_make {l : List Node} (h : Wh l) (a : Act) (v : Int) (he : makeE l a = 0) : Wh (makeL l a v) := by
  have hg := good_make h.good a v he
  have hu := h.good.up
  have hL : makeL l a v = putN (putN l { enterN (getN l a.dir) a.name a.fid with version := v }) (madeN a v) := by unfold makeL; rw [if_pos he]
  unfold makeE at he
  split at he
  case isFalse hd => exact absurd he hd
  rename_i hd
  obtain ⟨n, hf, hgn, hdir⟩ := dirE_zero hd
  rw [hgn] at he hL
  obtain ⟨hn, hnk⟩ := (findN_some hu).1 hf
  split at he
  case isFalse hr => exact absurd he hr
  rename_i hro
  obtain ⟨hnm, hfree⟩ := roomE_free hro
  split at he
  · omega
  rename_i hnew
  have hno : isAt l a.fid = false ∧ a.fid ≠ 0 := by simpa using hnew
  have hnin := notIn_of hu hno.1
  have hl := h.loc n hn
  have hu1 := (putN_up hu { enterN n a.name a.fid with version := v }).1
  have hnf : n.fid ≠ a.fid := fun e => hnin ⟨n, hn, e⟩
  rw [hL] at hg ⊢
  have hE : ∀ d s f, Edge (putN (putN l { enterN n a.name a.fid with version := v }) (madeN a v)) d s f ↔ Edge l d s f ∨ (d = n.fid ∧ s = a.name ∧ f = a.fid) := fun d s f => by
    rw [edge_put hu1, edge_put hu]
    show (d = a.fid ∧ (⟨s, f⟩ : Entry) ∈ []) ∨ (d ≠ a.fid ∧ ((d = n.fid ∧ (⟨s, f⟩ : Entry) ∈ enterE n.entries a.name a.fid) ∨ (d ≠ n.fid ∧ Edge l d s f))) ↔ _
    rw [enter_mem hl.eup hfree]
    constructor
    · rintro (⟨_, h0⟩ | ⟨h1, ⟨rfl, h2 | h2⟩ | ⟨h2, h3⟩⟩)
      · cases h0
      · exact .inr ⟨rfl, h2⟩
      · exact .inl ⟨n, hn, rfl, h2⟩
      · exact .inl h3
    · rintro (h1 | ⟨rfl, rfl, rfl⟩)
      · refine .inr ⟨fun e => ?_, ?_⟩
        · obtain ⟨m, hm, hmf, _⟩ := h1
          exact hnin ⟨m, hm, hmf.trans e⟩
        · by_cases hd : d = n.fid
          · subst hd; exact .inl ⟨rfl, .inr ((edge_at hu hn).1 h1)⟩
          · exact .inr ⟨hd, h1⟩
      · exact .inr ⟨hnf, .inl ⟨rfl, .inl ⟨rfl, rfl⟩⟩⟩
  have hF : ∀ f, FidIn (putN (putN l { enterN n a.name a.fid with version := v }) (madeN a v)) f ↔ f = a.fid ∨ FidIn l f := fun f => by
    rw [fid_put hu1, fid_put hu]
    show f = a.fid ∨ f = n.fid ∨ FidIn l f ↔ _
    constructor
    · rintro (h | rfl | h)
      · exact .inl h
      · exact .inr ⟨n, hn, rfl⟩
      · exact .inr h
    · rintro (h | h)
      · exact .inl h
      · exact .inr (.inr h)
  refine ⟨hg, fun x hx => ?_, fun d s f hd => ?_, fun d s f hd => ?_, fun d s f hd => ?_, fun f hf h0 => ?_, fun d s d' s' f h1 h2 => ?_, ?_⟩
  · rcases pmem hx with rfl | hx
    · exact ⟨by unfold EUp; simp [madeN], fun _ => rfl, fun _ => rfl⟩
    · rcases pmem hx with rfl | hx
      · exact ⟨(enterE_up hl.eup hfree a.fid).1, fun h0 => (by
          have h0 : n.dir = false := h0
          rw [hdir] at h0; cases h0), hl.dirD⟩
      · exact h.loc x hx
  · rcases (hE d s f).1 hd with h1 | ⟨_, rfl, _⟩
    · exact h.name d s f h1
    · exact hnm
  · rcases (hE d s f).1 hd with h1 | ⟨_, _, rfl⟩
    · exact (hF f).2 (.inr (h.there d s f h1))
    · exact (hF _).2 (.inl rfl)
  · rcases (hE d s f).1 hd with h1 | ⟨_, _, rfl⟩
    · exact h.noroot d s f h1
    · exact hno.2
  · rcases (hF f).1 hf with rfl | hf
    · exact ⟨n.fid, a.name, (hE _ _ _).2 (.inr ⟨rfl, rfl, rfl⟩)⟩
    · obtain ⟨d, s, h1⟩ := h.par f hf h0
      exact ⟨d, s, (hE _ _ _).2 (.inl h1)⟩
  · rcases (hE d s f).1 h1 with h1 | ⟨rfl, rfl, rfl⟩
    · rcases (hE d' s' f).1 h2 with h2 | ⟨rfl, rfl, rfl⟩
      · exact h.one d s d' s' f h1 h2
      · exact absurd (h.there _ _ _ h1) hnin
    · rcases (hE d' s' _).1 h2 with h2 | ⟨rfl, rfl, _⟩
      · exact absurd (h.there _ _ _ h2) hnin
      · exact ⟨rfl, rfl⟩
  · obtain ⟨m, hm, hm0, hmd⟩ := h.root
    have hmem : ∀ x, x ∈ putN l { enterN n a.name a.fid with version := v } → x.fid ≠ a.fid → x ∈ putN (putN l { enterN n a.name a.fid with version := v }) (madeN a v) := fun x hx hne => ((putN_up hu1 (madeN a v)).2 x).2 (.inr ⟨hx, hne⟩)
    by_cases hmn : m.fid = n.fid
    · refine ⟨{ enterN n a.name a.fid with version := v }, hmem _ (((putN_up hu _).2 _).2 (.inl rfl)) hnf, hmn.symm.trans hm0, hdir⟩
    · exact ⟨m, hmem _ (((putN_up hu _).2 _).2 (.inr ⟨hm, hmn⟩)) (by rw [hm0]; exact fun e => hno.2 e.symm), hm0, hmd⟩

theorem wh_store {l : List Node} (h : Wh l) (a : Act) (v : Int) (he : storeE l a = 0) : Wh (storeL l a v) := by
  have hg := good_store h.good a v he
  have hu := h.good.up
  have hL : storeL l a v = putN l { getN l a.fid with data := a.data, version := v } := by unfold storeL; rw [if_pos he]
  unfold storeE at he
  cases hf : findN l a.fid with
  | none => rw [hf] at he; simp at he
  | some n =>
    rw [hf] at he
    simp only at he
    obtain ⟨hn, hnk⟩ := (findN_some hu).1 hf
    have hgn : getN l a.fid = n := by unfold getN; rw [hf]; rfl
    rw [hgn] at hL
    split at he
    · omega
    rename_i hdir
    rw [hL] at hg ⊢
    have hE : ∀ d s f, Edge (putN l { n with data := a.data, version := v }) d s f ↔ Edge l d s f := fun d s f => by
      rw [edge_put hu]
      show (d = n.fid ∧ (⟨s, f⟩ : Entry) ∈ n.entries) ∨ (d ≠ n.fid ∧ Edge l d s f) ↔ _
      constructor
      · rintro (⟨rfl, h1⟩ | ⟨_, h1⟩)
        · exact ⟨n, hn, rfl, h1⟩
        · exact h1
      · intro h1
        by_cases hd : d = n.fid
        · subst hd; exact .inl ⟨rfl, (edge_at hu hn).1 h1⟩
        · exact .inr ⟨hd, h1⟩
    have hF : ∀ f, FidIn (putN l { n with data := a.data, version := v }) f ↔ FidIn l f := fun f => by
      rw [fid_put hu]
      show f = n.fid ∨ FidIn l f ↔ _
      constructor
      · rintro (rfl | h)
        · exact ⟨n, hn, rfl⟩
        · exact h
      · exact .inr
    refine ⟨hg, fun x hx => ?_, fun d s f hd => h.name d s f ((hE _ _ _).1 hd), fun d s f hd => (hF _).2 (h.there d s f ((hE _ _ _).1 hd)), fun d s f hd => h.noroot d s f ((hE _ _ _).1 hd), fun f hf h0 => ?_, fun d s d' s' f h1 h2 => h.one d s d' s' f ((hE _ _ _).1 h1) ((hE _ _ _).1 h2), ?_⟩
    · rcases pmem hx with rfl | hx
      · have hl := h.loc n hn
        exact ⟨hl.eup, hl.file, fun h0 => absurd h0 hdir⟩
      · exact h.loc x hx
    · obtain ⟨d, s, h1⟩ := h.par f ((hF f).1 hf) h0
      exact ⟨d, s, (hE _ _ _).2 h1⟩
    · obtain ⟨m, hm, hm0, hmd⟩ := h.root
      refine ⟨m, ((putN_up hu _).2 m).2 (.inr ⟨hm, fun e => ?_⟩), hm0, hmd⟩
      have : m = n := up_same hu hm hn e
      subst this
      exact hdir hmd

theorem named_edge {l : List Node} (h : Wh l) {a : Act} (he : namedE l a = 0) : ∃ n, findN l a.dir = some n ∧ getN l a.dir = n ∧ n ∈ l ∧ n.fid = a.dir ∧ n.dir = true ∧ Edge l a.dir a.name a.fid := by
  unfold namedE at he
  split at he
  case isFalse hd => exact absurd he hd
  rename_i hd
  obtain ⟨n, hf, hgn, hdir⟩ := dirE_zero hd
  obtain ⟨hn, hnk⟩ := (findN_some h.good.up).1 hf
  rw [hgn] at he
  cases e : entryN n a.name with
  | none => rw [e] at he; simp at he
  | some f =>
    rw [e] at he
    simp only at he
    split at he
    case isFalse hd => omega
    rename_i hff
    subst hff
    exact ⟨n, hf, hgn, hn, hnk, hdir, n, hn, hnk, (entryN_some (h.loc n hn).eup).1 e⟩

theorem edge_left {l : List Node} (hu : Up l) {n : Node} (hn : n ∈ l) (s0 : List UInt8) (v : Int) {d : Int} {s : List UInt8} {f : Int} : Edge (putN l { leaveN n s0 with version := v }) d s f ↔ Edge l d s f ∧ ¬ (d = n.fid ∧ s = s0) := by
  rw [edge_put hu]
  show (d = n.fid ∧ (⟨s, f⟩ : Entry) ∈ leaveE n.entries s0) ∨ (d ≠ n.fid ∧ Edge l d s f) ↔ _
  rw [leave_mem]
  constructor
  · rintro (⟨rfl, h1, h2⟩ | ⟨h1, h2⟩)
    · exact ⟨⟨n, hn, rfl, h1⟩, fun h => h2 h.2⟩
    · exact ⟨h2, fun h => h1 h.1⟩
  · rintro ⟨h1, h2⟩
    by_cases hd : d = n.fid
    · subst hd; exact .inl ⟨rfl, (edge_at hu hn).1 h1, fun e => h2 ⟨rfl, e⟩⟩
    · exact .inr ⟨hd, h1⟩

theorem wh_remove {l : List Node} (h : Wh l) (a : Act) (v : Int) (he : removeE l a = 0) : Wh (removeL l a v) := by
  have hg := good_remove h.good a v he
  have hu := h.good.up
  have hL : removeL l a v = dropN (putN l { leaveN (getN l a.dir) a.name with version := v }) a.fid := by unfold removeL; rw [if_pos he]
  unfold removeE at he
  split at he
  case isFalse hd => exact absurd he hd
  rename_i hnd
  obtain ⟨n, hf, hgn, hn, hnk, hdir, hed⟩ := named_edge h hnd
  rw [hgn] at hL
  cases hx : findN l a.fid with
  | none => rw [hx] at he; simp at he
  | some x =>
    rw [hx] at he
    simp only at he
    obtain ⟨hxm, hxf⟩ := (findN_some hu).1 hx
    have hxe : x.entries = [] := by
      cases e : x.entries with
      | nil => rfl
      | cons p q => rw [e] at he; simp at he
    rw [hL] at hg ⊢
    have hnoE : ∀ s f, ¬ Edge l a.fid s f := fun s f h1 => by
      rw [← hxf] at h1
      have := (edge_at hu hxm).1 h1
      rw [hxe] at this; cases this
    have hE : ∀ d s f, Edge (dropN (putN l { leaveN n a.name with version := v }) a.fid) d s f ↔ Edge l d s f ∧ ¬ (d = a.dir ∧ s = a.name) := fun d s f => by
      rw [edge_drop, edge_left hu hn, hnk]
      constructor
      · exact fun h => h.1
      · exact fun h => ⟨h, fun e => by subst e; exact hnoE s f h.1⟩
    have hF : ∀ f, FidIn (dropN (putN l { leaveN n a.name with version := v }) a.fid) f ↔ FidIn l f ∧ f ≠ a.fid := fun f => by
      rw [fid_drop, fid_put hu]
      show (f = n.fid ∨ FidIn l f) ∧ f ≠ a.fid ↔ _
      constructor
      · rintro ⟨rfl | h, h1⟩
        · exact ⟨⟨n, hn, rfl⟩, h1⟩
        · exact ⟨h, h1⟩
      · rintro ⟨h, h1⟩
        exact ⟨.inr h, h1⟩
    have hup1 := (putN_up hu { leaveN n a.name with version := v })
    refine ⟨hg, fun x hx => ?_, fun d s f hd => h.name d s f ((hE _ _ _).1 hd).1, fun d s f hd => (hF _).2 ⟨h.there d s f ((hE _ _ _).1 hd).1, fun e => ?_⟩, fun d s f hd => h.noroot d s f ((hE _ _ _).1 hd).1, fun f hf h0 => ?_, fun d s d' s' f h1 h2 => h.one d s d' s' f ((hE _ _ _).1 h1).1 ((hE _ _ _).1 h2).1, ?_⟩
    · rcases pmem (List.mem_filter.1 hx).1 with rfl | hx
      · have hl := h.loc n hn
        exact ⟨leave_up hl.eup _, fun h0 => by
          show leaveE n.entries a.name = []
          rw [hl.file h0]; rfl, hl.dirD⟩
      · exact h.loc x hx
    · subst e
      obtain ⟨h1, h2⟩ := (hE _ _ _).1 hd
      exact h2 (h.one _ _ _ _ _ h1 hed)
    · obtain ⟨h1, h2⟩ := (hF f).1 hf
      obtain ⟨d, s, h3⟩ := h.par f h1 h0
      refine ⟨d, s, (hE _ _ _).2 ⟨h3, fun e => ?_⟩⟩
      obtain ⟨rfl, rfl⟩ := e
      obtain ⟨m, hm, hmf, hme⟩ := hed
      obtain ⟨m', hm', hmf', hme'⟩ := h3
      have : m = m' := up_same hu hm hm' (hmf.trans hmf'.symm)
      subst this
      have := (h.loc m hm).eup.same hme hme' rfl
      injection this with _ h5
      exact h2 h5.symm
    · obtain ⟨m, hm, hm0, hmd⟩ := h.root
      have h0 : (0 : Int) ≠ a.fid := fun e => h.noroot _ _ _ hed e.symm
      by_cases hmn : m.fid = n.fid
      · exact ⟨{ leaveN n a.name with version := v }, List.mem_filter.2 ⟨(hup1.2 _).2 (.inl rfl), by
          show (!(n.fid == a.fid)) = true
          rw [← hmn, hm0]; simpa using h0⟩, hmn.symm.trans hm0, hdir⟩
      · exact ⟨m, List.mem_filter.2 ⟨(hup1.2 _).2 (.inr ⟨hm, hmn⟩), by rw [hm0]; simpa using h0⟩, hm0, hmd⟩

theorem wh_rename {l : List Node} (h : Wh l) (a : Act) (v : Int) (he : renameE l a = 0) : Wh (renameL l a v) := by
  have hg := good_rename h.good a v he
  have hu := h.good.up
  have hL : renameL l a v = putN (if a.to = a.dir then l else putN l { leaveN (getN l a.dir) a.name with version := v }) { enterN (toN l a) a.toName a.fid with version := v } := by unfold renameL; rw [if_pos he]
  unfold renameE at he
  split at he
  case isFalse hd => exact absurd he hd
  rename_i hnd
  obtain ⟨n, hf, hgn, hn, hnk, hdir, hed⟩ := named_edge h hnd
  split at he
  case isFalse hd => exact absurd he hd
  rename_i hdt
  obtain ⟨t, htf, htg, htdir⟩ := dirE_zero hdt
  obtain ⟨htm, htk⟩ := (findN_some hu).1 htf
  split at he
  case isFalse hd => exact absurd he hd
  rename_i hro
  obtain ⟨hnm, hfree⟩ := roomE_free hro
  rw [hgn] at hL
  rw [hL] at hg ⊢
  -- the directory that gets the name
  have hT : (toN l a).fid = a.to ∧ (toN l a).dir = true ∧ EUp (toN l a).entries ∧ ((toN l a).dir = true → (toN l a).data = []) ∧ ∀ s f, (⟨s, f⟩ : Entry) ∈ (toN l a).entries ↔ Edge l a.to s f ∧ ¬ (a.to = a.dir ∧ s = a.name) := by
    unfold toN
    split
    · rename_i htd
      rw [hgn]
      have hl := h.loc n hn
      refine ⟨hnk.trans htd.symm, hdir, leave_up hl.eup _, hl.dirD, fun s f => ?_⟩
      show (⟨s, f⟩ : Entry) ∈ leaveE n.entries a.name ↔ _
      rw [leave_mem, htd, ← hnk, edge_at hu hn]
      simp
    · rename_i htd
      rw [htg]
      have hl := h.loc t htm
      refine ⟨htk, htdir, hl.eup, hl.dirD, fun s f => ?_⟩
      rw [← htk, edge_at hu htm]
      constructor
      · exact fun h => ⟨h, fun e => htd (htk.symm.trans e.1)⟩
      · exact fun h => h.1
  obtain ⟨hTf, hTd, hTe, hTda, hTm⟩ := hT
  generalize hl1 : (if a.to = a.dir then l else putN l { leaveN n a.name with version := v }) = l1 at hg ⊢
  have hu1 : Up l1 := by subst hl1; split; exact hu; exact (putN_up hu _).1
  have hE1 : ∀ d s f, d ≠ a.to → (Edge l1 d s f ↔ Edge l d s f ∧ ¬ (d = a.dir ∧ s = a.name)) := fun d s f hd => by
    subst hl1
    split
    · rename_i htd
      exact ⟨fun h => ⟨h, fun e => hd (e.1.trans htd.symm)⟩, fun h => h.1⟩
    · rw [edge_left hu hn, hnk]
  have hF1 : ∀ f, FidIn l1 f ↔ FidIn l f := fun f => by
    subst hl1
    split
    · exact Iff.rfl
    · rw [fid_put hu]
      show f = n.fid ∨ FidIn l f ↔ _
      exact ⟨fun h => h.elim (fun e => ⟨n, hn, e.symm⟩) id, .inr⟩
  have hE : ∀ d s f, Edge (putN l1 { enterN (toN l a) a.toName a.fid with version := v }) d s f ↔ (Edge l d s f ∧ ¬ (d = a.dir ∧ s = a.name)) ∨ (d = a.to ∧ s = a.toName ∧ f = a.fid) := fun d s f => by
    rw [edge_put hu1]
    show (d = (toN l a).fid ∧ (⟨s, f⟩ : Entry) ∈ enterE (toN l a).entries a.toName a.fid) ∨ (d ≠ (toN l a).fid ∧ Edge l1 d s f) ↔ _
    rw [enter_mem hTe hfree, hTm, hTf]
    constructor
    · rintro (⟨rfl, h1 | h1⟩ | ⟨h1, h2⟩)
      · exact .inr ⟨rfl, h1⟩
      · exact .inl h1
      · exact .inl ((hE1 d s f h1).1 h2)
    · rintro (h1 | ⟨rfl, h1⟩)
      · by_cases hd : d = a.to
        · subst hd; exact .inl ⟨rfl, .inr h1⟩
        · exact .inr ⟨hd, (hE1 d s f hd).2 h1⟩
      · exact .inl ⟨rfl, .inl h1⟩
  have hF : ∀ f, FidIn (putN l1 { enterN (toN l a) a.toName a.fid with version := v }) f ↔ FidIn l f := fun f => by
    rw [fid_put hu1, hF1]
    show f = (toN l a).fid ∨ FidIn l f ↔ _
    rw [hTf]
    exact ⟨fun h => h.elim (fun e => ⟨t, htm, htk.trans e.symm⟩) id, .inr⟩
  have hthere := h.there _ _ _ hed
  -- who leads to the fid that moves: its old place alone
  have hold : ∀ d s, Edge l d s a.fid → d = a.dir ∧ s = a.name := fun d s h1 => h.one _ _ _ _ _ h1 hed
  refine ⟨hg, fun x hx => ?_, fun d s f hd => ?_, fun d s f hd => ?_, fun d s f hd => ?_, fun f hf h0 => ?_, fun d s d' s' f h1 h2 => ?_, ?_⟩
  · rcases pmem hx with rfl | hx
    · exact ⟨(enterE_up hTe hfree a.fid).1, fun h0 => (by
        have h0 : (toN l a).dir = false := h0
        rw [hTd] at h0; cases h0), hTda⟩
    · subst hl1
      split at hx
      · exact h.loc x hx
      · rcases pmem hx with rfl | hx
        · have hl := h.loc n hn
          exact ⟨leave_up hl.eup _, fun h0 => by
            show leaveE n.entries a.name = []
            rw [hl.file h0]; rfl, hl.dirD⟩
        · exact h.loc x hx
  · rcases (hE d s f).1 hd with h1 | ⟨_, rfl, _⟩
    · exact h.name d s f h1.1
    · exact hnm
  · rcases (hE d s f).1 hd with h1 | ⟨_, _, rfl⟩
    · exact (hF f).2 (h.there d s f h1.1)
    · exact (hF _).2 hthere
  · rcases (hE d s f).1 hd with h1 | ⟨_, _, rfl⟩
    · exact h.noroot d s f h1.1
    · exact h.noroot _ _ _ hed
  · by_cases hff : f = a.fid
    · subst hff
      exact ⟨a.to, a.toName, (hE _ _ _).2 (.inr ⟨rfl, rfl, rfl⟩)⟩
    · obtain ⟨d, s, h1⟩ := h.par f ((hF f).1 hf) h0
      refine ⟨d, s, (hE _ _ _).2 (.inl ⟨h1, fun e => ?_⟩)⟩
      obtain ⟨rfl, rfl⟩ := e
      obtain ⟨m, hm, hmf, hme⟩ := hed
      obtain ⟨m', hm', hmf', hme'⟩ := h1
      have : m = m' := up_same hu hm hm' (hmf.trans hmf'.symm)
      subst this
      have := (h.loc m hm).eup.same hme hme' rfl
      injection this with _ h5
      exact hff h5.symm
  · rcases (hE d s f).1 h1 with h1 | ⟨rfl, rfl, rfl⟩
    · rcases (hE d' s' f).1 h2 with h2 | ⟨rfl, rfl, rfl⟩
      · exact h.one d s d' s' f h1.1 h2.1
      · exact absurd (hold d s h1.1) h1.2
    · rcases (hE d' s' _).1 h2 with h2 | ⟨rfl, rfl, _⟩
      · exact absurd (hold d' s' h2.1) h2.2
      · exact ⟨rfl, rfl⟩
  · obtain ⟨m, hm, hm0, hmd⟩ := h.root
    by_cases hmt : m.fid = a.to
    · exact ⟨_, ((putN_up hu1 _).2 _).2 (.inl rfl), hTf.trans (hmt.symm.trans hm0), hTd⟩
    · have hml1 : ∃ x, x ∈ l1 ∧ x.fid = 0 ∧ x.dir = true := by
        subst hl1
        split
        · exact ⟨m, hm, hm0, hmd⟩
        · by_cases hmn : m.fid = n.fid
          · exact ⟨{ leaveN n a.name with version := v }, ((putN_up hu _).2 _).2 (.inl rfl), hmn.symm.trans hm0, hdir⟩
          · exact ⟨m, ((putN_up hu _).2 _).2 (.inr ⟨hm, hmn⟩), hm0, hmd⟩
      obtain ⟨x, hx, hx0, hxd⟩ := hml1
      exact ⟨x, ((putN_up hu1 _).2 _).2 (.inr ⟨hx, by
        show x.fid ≠ (toN l a).fid
        rw [hTf, hx0, ← hm0]; exact hmt⟩), hx0, hxd⟩

theorem wh_apply {l : List Node} (h : Wh l) (a : Act) (v : Int) (he : applyE l a = 0) : Wh (applyL l a v) := by
  unfold applyE at he
  unfold applyL
  split at he
  · rename_i h1; rw [if_pos h1]; exact wh_make h a v he
  · rename_i h1
    rw [if_neg h1]
    split at he
    · rename_i h2; rw [if_pos h2]; exact wh_make h a v he
    · rename_i h2
      rw [if_neg h2]
      split at he
      · rename_i h3; rw [if_pos h3]; exact wh_store h a v he
      · rename_i h3
        rw [if_neg h3]
        split at he
        · rename_i h4; rw [if_pos h4]; exact wh_remove h a v he
        · rename_i h4
          rw [if_neg h4]
          split at he
          · rename_i h5; rw [if_pos h5]; exact wh_rename h a v he
          · omega
theorem wh_root : Wh [rootN] := by
  have hE : ∀ d s f, ¬ Edge [rootN] d s f := fun d s f ⟨n, hn, _, he⟩ => by rw [List.mem_singleton.1 hn] at he; cases he
  exact ⟨good_root, fun n hn => by rw [List.mem_singleton.1 hn]; exact ⟨by unfold EUp; simp [rootN], fun _ => rfl, fun _ => rfl⟩, fun d s f h => absurd h (hE d s f), fun d s f h => absurd h (hE d s f), fun d s f h => absurd h (hE d s f),
    fun f ⟨n, hn, hf⟩ h0 => by rw [List.mem_singleton.1 hn] at hf; exact absurd hf.symm h0, fun d s d' s' f h => absurd h (hE d s f), ⟨rootN, List.mem_singleton.2 rfl, rfl, rfl⟩⟩
theorem Hist.whole {p : List Past} {t : List Node} (h : Hist p t) : Wh t := by
  induction h with
  | nil => exact wh_root
  | snoc c a h ha he ih => exact wh_apply ih _ _ he
end La

namespace La
open Go Go.Eng

/-- nodes by fids -/
def mapDU (l : List Node) : Nat → List (Int × Node)
  | 0 => []
  | i + 1 => mput (mapDU l i) (fidN l i) (l.getD i default)
def mapD (l : List Node) : List (Int × Node) := mapDU l l.length
theorem mapUN_eq (l : List Node) : ∀ i, mapUN l i = mN (mapDU l i)
  | 0 => rfl
  | i + 1 => by
    have ih := mapUN_eq l i
    show mput (mapUN l i) (fidN l i) _ = _
    rw [ih, mN_put]; rfl
theorem mapN_eq (l : List Node) : mapN l = mN (mapD l) := mapUN_eq l l.length
theorem mapD_rise (l : List Node) : RiseM (mapD l) := by
  have : ∀ i, RiseM (mapDU l i) := fun i => by
    induction i with
    | zero => exact List.Pairwise.nil
    | succ i ih => exact mput_rise ih
  exact this _
theorem mapD_get {l : List Node} (h : Up l) (k : Int) : mget (mapD l) k = findN l k := by
  have h1 := mapN_get h k
  rw [mapN_eq, mN_get] at h1
  cases e : mget (mapD l) k with
  | none =>
    rw [e] at h1
    cases e2 : findN l k with
    | none => rfl
    | some n => rw [e2] at h1; cases h1
  | some m =>
    rw [e] at h1
    cases e2 : findN l k with
    | none => rw [e2] at h1; cases h1
    | some n =>
      rw [e2] at h1
      simp only [Option.map_some, Option.some.injEq, AV.agg.injEq] at h1
      -- the same nodes, as both come from the list
      have hm : ∀ i, i ≤ l.length → ∀ p, p ∈ mapDU l i → p.2 ∈ l ∧ p.2.fid = p.1 := fun i => by
        induction i with
        | zero => intro _ p hp; cases hp
        | succ i ih =>
          intro hi p hp
          have hr : RiseM (mapDU l i) := by
            have : ∀ j, RiseM (mapDU l j) := fun j => by
              induction j with
              | zero => exact List.Pairwise.nil
              | succ j ihj => exact mput_rise ihj
            exact this i
          rcases (mem_mput hr p.1 p.2).1 hp with ⟨h1, h2⟩ | ⟨_, h2⟩
          · rw [h1, h2]; exact ⟨getD_mem (by omega), rfl⟩
          · exact ih (by omega) p h2
      obtain ⟨q1, q2⟩ := hm _ (Nat.le_refl _) _ (mget_mem e)
      rw [← e2]
      exact ((findN_some h).2 ⟨q1, q2⟩).symm

theorem mapDU_rise (l : List Node) : ∀ i, RiseM (mapDU l i)
  | 0 => List.Pairwise.nil
  | i + 1 => mput_rise (mapDU_rise l i)
theorem mapDU_mem (l : List Node) : ∀ i, i ≤ l.length → ∀ p, p ∈ mapDU l i → p.2 ∈ l
  | 0, _, p, hp => by cases hp
  | i + 1, hi, p, hp => by
    rcases (mem_mput (mapDU_rise l i) p.1 p.2).1 hp with ⟨h1, h2⟩ | ⟨_, h2⟩
    · rw [h2]; exact getD_mem (by omega)
    · exact mapDU_mem l i (by omega) p h2
theorem mapDU_len (l : List Node) : ∀ i, (mapDU l i).length ≤ i
  | 0 => Nat.le_refl _
  | i + 1 => by
    have h1 := mapDU_len l i
    have h2 := mput_length (n := fidN l i) (v := l.getD i default) (mapDU_rise l i)
    show (mput (mapDU l i) (fidN l i) (l.getD i default)).length ≤ i + 1
    rw [h2]
    cases (mget (mapDU l i) (fidN l i)).isSome <;> simp <;> omega
theorem flat_len {α : Type} {f : α → List Int} {k : Nat} : ∀ {l : List α}, (∀ x, x ∈ l → (f x).length ≤ k) → (l.flatMap f).length ≤ k * l.length
  | [], _ => by simp
  | x :: r, h => by
    have h1 := flat_len (l := r) fun y hy => h y (List.mem_cons_of_mem _ hy)
    have h2 := h x List.mem_cons_self
    simp only [List.flatMap_cons, List.length_append, List.length_cons, Nat.mul_add, Nat.mul_one]
    omega
theorem allF_small {l : List Node} {k : Nat} (h : ∀ n, n ∈ l → n.entries.length ≤ k) : (allF (mapD l)).length ≤ k * l.length := by
  have h1 : (allF (mapD l)).length ≤ k * (mapD l).length := flat_len fun p hp => by
    rw [List.length_map]; exact h _ (mapDU_mem l _ (Nat.le_refl _) p hp)
  exact Nat.le_trans h1 (Nat.mul_le_mul_left _ (mapDU_len l _))
theorem le_sumR (r : Int → Nat) : ∀ (l : List Node) (n : Node), n ∈ l → r n.fid ≤ (l.map fun n => r n.fid).sum
  | [], n, h => by cases h
  | m :: l, n, h => by
    simp only [List.map_cons, List.sum_cons]
    rcases List.mem_cons.1 h with rfl | h
    · omega
    · have := le_sumR r l n h; omega
theorem wh_reach {l : List Node} (h : Wh l) {f : Int} (hf : FidIn l f) : MReach (mapD l) 0 f := by
  obtain ⟨r, hr⟩ := h.good.falls
  have key : ∀ (k : Nat) (f : Int), FidIn l f → (l.map fun n => r n.fid).sum - r f ≤ k → MReach (mapD l) 0 f := fun k => by
    induction k with
    | zero =>
      intro f hf hk
      by_cases h0 : f = 0
      · subst h0; exact .refl
      · obtain ⟨d, s, n, hn, hd, he⟩ := h.par f hf h0
        have h1 := hr n hn _ he
        have h2 := le_sumR r l n hn
        simp only at h1
        omega
    | succ k ih =>
      intro f hf hk
      by_cases h0 : f = 0
      · subst h0; exact .refl
      · obtain ⟨d, s, n, hn, hd, he⟩ := h.par f hf h0
        have h1 := hr n hn _ he
        have h2 := le_sumR r l n hn
        simp only at h1
        exact .step (ih n.fid ⟨n, hn, rfl⟩ (by omega)) (by rw [mapD_get h.good.up]; exact (findN_some h.good.up).2 ⟨hn, rfl⟩) he
  exact key _ f hf (Nat.le_refl _)

/-! ### How often a fid is an entry -/
def incM (m : List (Int × Int)) (f : Int) : List (Int × Int) := mput m f (getI m f + 1)
def timesM (fs : List Int) : List (Int × Int) := fs.foldl incM []
def cntF (f : Int) (fs : List Int) : Nat := (fs.filter fun x => x == f).length
theorem timesM_snoc (fs : List Int) (f : Int) : timesM (fs ++ [f]) = incM (timesM fs) f := by unfold timesM; rw [List.foldl_append]; rfl
theorem foldl_inc : ∀ (fs : List Int) (m : List (Int × Int)), RiseM m → RiseM (fs.foldl incM m) ∧ ∀ f, getI (fs.foldl incM m) f = getI m f + cntF f fs
  | [], m, h => ⟨h, fun f => by simp [cntF]⟩
  | x :: fs, m, h => by
    obtain ⟨h1, h2⟩ := foldl_inc fs (incM m x) (mput_rise h)
    refine ⟨h1, fun f => ?_⟩
    rw [List.foldl_cons, h2]
    have hg : getI (incM m x) f = if f = x then getI m x + 1 else getI m f := by
      unfold incM getI
      rw [mget_mput h]
      split <;> rfl
    rw [hg]
    unfold cntF
    rw [List.filter_cons]
    by_cases e : f = x
    · subst e; simp; omega
    · rw [if_neg e, if_neg (by simpa using fun h => e h.symm)]
theorem timesM_get (fs : List Int) (f : Int) : getI (timesM fs) f = cntF f fs := by
  have := (foldl_inc fs [] List.Pairwise.nil).2 f
  unfold timesM
  rw [this]; simp [getI, mget]
theorem cntF_le (f : Int) (fs : List Int) : cntF f fs ≤ fs.length := List.length_filter_le _ _
theorem cntF_none {f : Int} {fs : List Int} (h : f ∉ fs) : cntF f fs = 0 := by
  unfold cntF
  rw [List.filter_eq_nil_iff.2 fun x hx => by
    intro hx2
    rw [eq_of_beq hx2] at hx
    exact h hx]; rfl
theorem cntF_one {f : Int} : ∀ {fs : List Int}, fs.Nodup → f ∈ fs → cntF f fs = 1
  | [], _, h => by cases h
  | x :: fs, hn, h => by
    rw [List.nodup_cons] at hn
    unfold cntF
    rw [List.filter_cons]
    by_cases e : x = f
    · subst e
      have := cntF_none hn.1
      unfold cntF at this
      simp [this]
    · rw [if_neg (by simpa using e)]
      rcases List.mem_cons.1 h with h | h
      · exact absurd h.symm e
      · exact cntF_one hn.2 h
def fidsE (n : Node) : List Int := n.entries.map (·.fid)
def allFids (l : List Node) : List Int := l.flatMap fidsE
theorem wh_nodup {l : List Node} (h : Wh l) : (allFids l).Nodup := by
  unfold allFids List.Nodup
  rw [List.pairwise_flatMap]
  refine ⟨fun n hn => ?_, ?_⟩
  · unfold fidsE
    rw [List.pairwise_map]
    refine ((h.loc n hn).eup).imp_of_mem fun {a b} ha hb hlt e => ?_
    have := (h.one n.fid a.name n.fid b.name a.fid ⟨n, hn, rfl, ha⟩ ⟨n, hn, rfl, by rw [e]; exact hb⟩).2
    rw [this] at hlt
    exact sirr _ hlt
  · refine (h.good.up).imp_of_mem fun {a b} ha hb hlt x hx y hy e => ?_
    obtain ⟨p, hp, rfl⟩ := List.mem_map.1 hx
    obtain ⟨q, hq, rfl⟩ := List.mem_map.1 hy
    have := (h.one a.fid p.name b.fid q.name p.fid ⟨a, ha, rfl, hp⟩ ⟨b, hb, rfl, by rw [e]; exact hq⟩).1
    omega
theorem allFids_mem {l : List Node} {f : Int} : f ∈ allFids l ↔ ∃ d s, Edge l d s f := by
  unfold allFids fidsE
  rw [List.mem_flatMap]
  constructor
  · rintro ⟨n, hn, he⟩
    obtain ⟨e, he2, rfl⟩ := List.mem_map.1 he
    exact ⟨n.fid, e.name, n, hn, rfl, he2⟩
  · rintro ⟨d, s, n, hn, _, he⟩
    exact ⟨n, hn, List.mem_map.2 ⟨_, he, rfl⟩⟩
theorem wh_zero {l : List Node} (h : Wh l) : cntF 0 (allFids l) = 0 := cntF_none fun hm => by
  obtain ⟨d, s, he⟩ := allFids_mem.1 hm
  exact h.noroot d s 0 he rfl
theorem wh_one {l : List Node} (h : Wh l) {f : Int} (hf : FidIn l f) (h0 : f ≠ 0) : cntF f (allFids l) = 1 := cntF_one (wh_nodup h) (allFids_mem.2 (h.par f hf h0))
theorem wh_dir {l : List Node} (h : Wh l) {n : Node} (hn : n ∈ l) (h0 : n.fid = 0) : n.dir = true := by
  obtain ⟨m, hm, hm0, hmd⟩ := h.root
  rw [up_same h.good.up hn hm (h0.trans hm0.symm)]; exact hmd
end La

namespace La
open Go Go.Eng Go.Proofs
set_option maxRecDepth 10000
set_option linter.unusedSimpArgs false
set_option linter.unusedVariables false

theorem rise_ext {α : Type} : ∀ {a b : List (Int × α)}, RiseM a → RiseM b → (∀ p, p ∈ a ↔ p ∈ b) → a = b
  | [], [], _, _, _ => rfl
  | [], q :: b, _, _, h => absurd ((h q).2 List.mem_cons_self) (by simp)
  | p :: a, [], _, _, h => absurd ((h p).1 List.mem_cons_self) (by simp)
  | p :: a, q :: b, ha, hb, h => by
    have ha' := List.pairwise_cons.1 ha
    have hb' := List.pairwise_cons.1 hb
    have hpq : p = q := by
      rcases List.mem_cons.1 ((h p).1 List.mem_cons_self) with e | e
      · exact e
      · rcases List.mem_cons.1 ((h q).2 List.mem_cons_self) with e2 | e2
        · exact e2.symm
        · have h1 := hb'.1 p e
          have h2 := ha'.1 q e2
          omega
    subst hpq
    refine congrArg _ (rise_ext ha'.2 hb'.2 fun r => ?_)
    constructor
    · intro hr
      rcases List.mem_cons.1 ((h r).1 (List.mem_cons_of_mem _ hr)) with e | e
      · subst e; exact absurd (ha'.1 _ hr) (by omega)
      · exact e
    · intro hr
      rcases List.mem_cons.1 ((h r).2 (List.mem_cons_of_mem _ hr)) with e | e
      · subst e; exact absurd (hb'.1 _ hr) (by omega)
      · exact e
def seenM {α : Type} (m : List (Int × α)) (seen : List Int) : List (Int × α) := m.filter fun p => seen.contains p.1
theorem seenM_put {α : Type} {m : List (Int × α)} (h : RiseM m) {n : Int} {v : α} (hm : (n, v) ∈ m) {seen : List Int} : mput (seenM m seen) n v = seenM m (n :: seen) := by
  have hr : RiseM (seenM m seen) := h.filter _
  refine rise_ext (mput_rise hr) (h.filter _) fun p => ?_
  obtain ⟨k, x⟩ := p
  rw [mem_mput hr]
  unfold seenM
  simp only [List.mem_filter, List.contains_cons, Bool.or_eq_true, beq_iff_eq]
  constructor
  · rintro (⟨rfl, rfl⟩ | ⟨h1, h2, h3⟩)
    · exact ⟨hm, .inl rfl⟩
    · exact ⟨h2, .inr h3⟩
  · rintro ⟨h1, h2⟩
    by_cases e : k = n
    · subst e
      have a1 := mget_of_mem h h1
      have a2 := mget_of_mem h hm
      rw [a1] at a2; injection a2 with a2
      exact .inl ⟨rfl, a2⟩
    · rcases h2 with h2 | h2
      · exact absurd h2 e
      · exact .inr ⟨e, h1, h2⟩
theorem seenM_all {α : Type} {m : List (Int × α)} {seen : List Int} (h : ∀ p, p ∈ m → p.1 ∈ seen) : seenM m seen = m := by
  unfold seenM
  exact List.filter_eq_self.2 fun p hp => by simpa using h p hp
def leftM {α : Type} : List (Int × α) → List Int → Nat
  | [], _ => 0
  | p :: r, seen => (if p.1 ∈ seen then 0 else 1) + leftM r seen
theorem leftM_le {α : Type} (n : Int) (seen : List Int) : ∀ m : List (Int × α), leftM m (n :: seen) ≤ leftM m seen
  | [] => Nat.le_refl _
  | p :: r => by
    have ih := leftM_le n seen r
    unfold leftM
    by_cases h : p.1 ∈ seen
    · rw [if_pos h, if_pos (List.mem_cons_of_mem _ h)]; omega
    · rw [if_neg h]; split <;> omega
theorem leftM_lt {α : Type} {n : Int} {v : α} {seen : List Int} : ∀ {m : List (Int × α)}, (n, v) ∈ m → n ∉ seen → leftM m (n :: seen) < leftM m seen
  | [], h, _ => by cases h
  | p :: r, h, hs => by
    have hle := leftM_le n seen r
    unfold leftM
    rcases List.mem_cons.1 h with rfl | h
    · rw [if_pos List.mem_cons_self, if_neg hs]; omega
    · have ih := leftM_lt h hs
      by_cases h2 : p.1 ∈ seen
      · rw [if_pos h2, if_pos (List.mem_cons_of_mem _ h2)]; omega
      · rw [if_neg h2]; split <;> omega
theorem seenM_nil {α : Type} (m : List (Int × α)) : seenM m [] = [] := by unfold seenM; simp
theorem mN_mem {m : List (Int × Node)} {n : Int} {v : AV} (h : (n, v) ∈ mN m) : ∃ nd, v = .agg (nodeRow nd) ∧ (n, nd) ∈ m := by
  obtain ⟨p, hp, e⟩ := List.mem_map.1 h
  injection e with e1 e2
  exact ⟨p.2, e2.symm, by rw [← e1]; exact hp⟩
theorem mN_has {m : List (Int × Node)} {n : Int} {nd : Node} (h : (n, nd) ∈ m) : (n, AV.agg (nodeRow nd)) ∈ mN m := List.mem_map.2 ⟨_, h, rfl⟩
theorem mN_len (m : List (Int × Node)) : (mN m).length = m.length := by simp [mN]
theorem mN_nil : ([] : List (Int × AV)) = mN [] := rfl

set_option maxHeartbeats 2000000 in
theorem with_ok (m : List (Int × Node)) (n : Node) (hr : RiseM m) : FnOK Try.prog 76 [.rm (mN m), .agg (nodeRow n)] [] (fun r _ => r = .rm (mN (mput m n.fid n))) := by
  unfold nodeRow
  refine fn_of_cwW tabOK (Go.Proofs.Try.func76) rfl (fun C => ?_)
  simp only [Go.Proofs.Try.ntmps76, Go.Proofs.Try.results76, go_sem]
  refine cw_go tabOK 99 (by simp only [go_sem]; try exact rfl) (by simp [go_sem]) ?_
  refine cw_range tabOK rfl rfl rfl (by simp only [go_sem]; try exact rfl) (by simp only [go_sem]; try exact rfl) (by simp only [go_sem]; try exact rfl) ?_
  refine cw_go tabOK 99 (by simp only [go_sem]; try exact rfl) (by simp [go_sem]) ?_
  refine cw_loopS (fun _ : List Int => True) (fun seen => leftM m seen) (fun _ => [(6, .any), (7, .any), (11, .any), (12, .any), (13, .any), (14, .any), (15, .any), (16, .any), (17, .any), (18, .any)]) (fun seen => [(8, .map (mN (seenM m seen))), (10, .iter (mN m) seen)]) [] trivial ?_ fun seen _ => ?_
  · simp only [go_sem]
    exact le_sub (by simp [go_sem]) (by simp [go_sem, seenM_nil, mN_nil]) (by simp [go_sem])
  simp only [go_sem]
  refine cw_goR 99 (by simp only [go_sem]; try exact rfl) ?_
  refine cw_next rfl rfl (by simp only [go_sem]; try exact rfl) (by simp only [go_sem]; try exact rfl) (fun hall => ?_) (fun n v hnv hns => ?_)
  · have hsa : seenM m seen = m := seenM_all fun p hp => hall (p.1, .agg (nodeRow p.2)) (mN_has hp)
    rw [hsa]
    simp only [go_sem]
    refine cw_go tabOK 99 (by simp only [go_sem]; try exact rfl) (by simp [go_sem]) ?_
    refine cw_condF (by simp only [go_sem]; try exact rfl) trivial (rfl) ?_
    refine cw_go tabOK 99 (by simp only [go_sem]; try exact rfl) ?_ ?_
    · simp [AV.deepB, AV.pureB]
    rw [show AV.agg [.int .i64 n.fid, .bool n.dir, .sl (n.data.map byteRow), .sl (n.entries.map entryRow), .int .i64 n.version] = .agg (nodeRow n) from rfl, mN_put]
    refine cw_freezeM 8 rfl ?_
    simp only [go_sem]
    refine cw_ret ⟨_, _, (by simp only [go_sem]; try exact rfl), by simp [go_sem], _, .inr (.inl rfl), ?_⟩
    rfl
  · obtain ⟨nd, rfl, hmem⟩ := mN_mem hnv
    have hpt := seenM_put hr hmem (seen := seen)
    have hlt := leftM_lt hmem hns
    simp only [go_sem]
    refine cw_go tabOK 99 (by simp only [go_sem]; try exact rfl) (by simp [go_sem]) ?_
    refine cw_condT (by simp only [go_sem]; try exact rfl) trivial (rfl) ?_
    refine cw_goR 99 (by simp only [go_sem]; try exact rfl) ?_
    refine cw_entry rfl rfl (by simp only [go_sem]; try exact rfl) (by simp only [go_sem]; try exact rfl) (hnv) ?_
    simp only [go_sem]
    refine cw_go tabOK 99 (by simp only [go_sem, nodeRow]; try exact rfl) ?_ ?_
    · simp [nodeRow, AV.deepB, AV.pureB]
    refine cw_back ⟨n :: seen, hlt, le_sub ?_ ?_ ?_⟩
    · simp [go_sem]
    · simp [go_sem, ← hpt, ← mN_put, nodeRow]
    · simp [go_sem]
theorem mdel_seen {α : Type} {m : List (Int × α)} (h : RiseM m) {n : Int} {v : α} (hm : (n, v) ∈ m) (seen : List Int) (fid : Int) :
    (n ≠ fid → mput (mdel (seenM m seen) fid) n v = mdel (seenM m (n :: seen)) fid) ∧ (n = fid → mdel (seenM m seen) fid = mdel (seenM m (n :: seen)) fid) := by
  have hr : RiseM (seenM m seen) := h.filter _
  refine ⟨fun hne => ?_, fun he => ?_⟩
  · rw [← seenM_put h hm]
    refine rise_ext (mput_rise (mdel_rise hr)) (mdel_rise (mput_rise hr)) fun p => ?_
    obtain ⟨k, x⟩ := p
    rw [mem_mput (mdel_rise hr)]
    unfold mdel
    rw [List.mem_filter, List.mem_filter, mem_mput hr]
    simp only [Bool.not_eq_true', beq_eq_false_iff_ne]
    constructor
    · rintro (⟨rfl, rfl⟩ | ⟨h1, h2, h3⟩)
      · exact ⟨.inl ⟨rfl, rfl⟩, hne⟩
      · exact ⟨.inr ⟨h1, h2⟩, h3⟩
    · rintro ⟨⟨rfl, rfl⟩ | ⟨h1, h2⟩, h3⟩
      · exact .inl ⟨rfl, rfl⟩
      · exact .inr ⟨h1, h2, h3⟩
  · subst he
    unfold mdel seenM
    rw [List.filter_filter, List.filter_filter]
    refine List.filter_congr fun p _ => ?_
    simp only [List.contains_cons]
    cases h1 : (p.1 == n) <;> simp
theorem mdel_nil {α : Type} (fid : Int) : mdel ([] : List (Int × α)) fid = [] := rfl
set_option maxHeartbeats 2000000 in
theorem without_ok (m : List (Int × Node)) (fid : Int) (hr : RiseM m) : FnOK Try.prog 80 [.rm (mN m), .int .i64 fid] [] (fun r _ => r = .rm (mN (mdel m fid))) := by
  refine fn_of_cwW tabOK (Go.Proofs.Try.func80) rfl (fun C => ?_)
  simp only [Go.Proofs.Try.ntmps80, Go.Proofs.Try.results80, go_sem]
  refine cw_go tabOK 99 (by simp only [go_sem]; try exact rfl) (by simp [go_sem]) ?_
  refine cw_range tabOK rfl rfl rfl (by simp only [go_sem]; try exact rfl) (by simp only [go_sem]; try exact rfl) (by simp only [go_sem]; try exact rfl) ?_
  refine cw_go tabOK 99 (by simp only [go_sem]; try exact rfl) (by simp [go_sem]) ?_
  refine cw_loopS (fun _ : List Int => True) (fun seen => leftM m seen) (fun _ => [(6, .any), (7, .any), (11, .any), (12, .any), (13, .any), (14, .any), (15, .any), (16, .any), (17, .any), (18, .any), (19, .any), (20, .any), (21, .any)]) (fun seen => [(8, .map (mN (mdel (seenM m seen) fid))), (10, .iter (mN m) seen)]) [] trivial ?_ fun seen _ => ?_
  · simp only [go_sem]
    exact le_sub (by simp [go_sem]) (by simp [go_sem, seenM_nil, mdel_nil, mN_nil]) (by simp [go_sem])
  simp only [go_sem]
  refine cw_goR 99 (by simp only [go_sem]; try exact rfl) ?_
  refine cw_next rfl rfl (by simp only [go_sem]; try exact rfl) (by simp only [go_sem]; try exact rfl) (fun hall => ?_) (fun n v hnv hns => ?_)
  · have hsa : seenM m seen = m := seenM_all fun p hp => hall (p.1, .agg (nodeRow p.2)) (mN_has hp)
    rw [hsa]
    simp only [go_sem]
    refine cw_go tabOK 99 (by simp only [go_sem]; try exact rfl) (by simp [go_sem]) ?_
    refine cw_condF (by simp only [go_sem]; try exact rfl) trivial (rfl) ?_
    refine cw_go tabOK 99 (by simp only [go_sem]; try exact rfl) (by simp [go_sem]) ?_
    refine cw_freezeM 8 rfl ?_
    simp only [go_sem]
    refine cw_ret ⟨_, _, (by simp only [go_sem]; try exact rfl), by simp [go_sem], _, .inr (.inl rfl), ?_⟩
    rfl
  · obtain ⟨nd, rfl, hmem⟩ := mN_mem hnv
    obtain ⟨hp1, hp2⟩ := mdel_seen hr hmem seen fid
    have hlt := leftM_lt hmem hns
    simp only [go_sem]
    refine cw_go tabOK 99 (by simp only [go_sem]; try exact rfl) (by simp [go_sem]) ?_
    refine cw_condT (by simp only [go_sem]; try exact rfl) trivial (rfl) ?_
    refine cw_goR 99 (by simp only [go_sem]; try exact rfl) ?_
    refine cw_entry rfl rfl (by simp only [go_sem]; try exact rfl) (by simp only [go_sem]; try exact rfl) (hnv) ?_
    simp only [go_sem]
    refine cw_go tabOK 99 (by simp only [go_sem, nodeRow]; try exact rfl) ?_ ?_
    · simp [nodeRow]
    by_cases hf : n = fid
    · have hp2 := hp2 hf
      refine cw_condF (by simp only [go_sem]; try exact rfl) trivial (by simp [hf]) ?_
      refine cw_go tabOK 99 (by simp only [go_sem]; try exact rfl) (by simp [go_sem]) ?_
      refine cw_back ⟨n :: seen, hlt, le_sub ?_ ?_ ?_⟩
      · simp [go_sem]
      · simp [go_sem, ← hp2]
      · simp [go_sem]
    · have hp1 := hp1 hf
      refine cw_condT (by simp only [go_sem]; try exact rfl) trivial (by simpa using hf) ?_
      refine cw_go tabOK 99 (by simp only [go_sem, nodeRow]; try exact rfl) ?_ ?_
      · simp [nodeRow, AV.deepB, AV.pureB]
      refine cw_back ⟨n :: seen, hlt, le_sub ?_ ?_ ?_⟩
      · simp [go_sem]
      · simp [go_sem, ← hp1, ← mN_put, nodeRow]
      · simp [go_sem]

/-! ### Names in a directory -/
def rEntryE (l : List Entry) (s : List UInt8) : Option Entry := l.find? fun e => e.name == s
def rEntryR (l : List Entry) (s : List UInt8) : AV := match rEntryE l s with
  | some e => .tup [.int .i64 e.fid, .bool true]
  | none => .tup [.int .i64 0, .bool false]
theorem find_none_take {l : List Entry} {s : List UInt8} (h : ∀ e, e ∈ l → (e.name == s) = false) : rEntryE l s = none := List.find?_eq_none.2 fun e he => by rw [h e he]; simp
theorem find_some_at {l : List Entry} {s : List UInt8} {i : Nat} (hi : i < l.length) (h : ∀ e, e ∈ l.take i → (e.name == s) = false) (hs : ((l.getD i default).name == s) = true) : rEntryE l s = some (l.getD i default) := by
  unfold rEntryE
  have e : l = l.take i ++ (l.getD i default :: l.drop (i + 1)) := by rw [← drop_getD hi, List.take_append_drop]
  conv => lhs; rw [e]
  rw [List.find?_append, List.find?_eq_none.2 (fun e he => by rw [h e he]; simp), Option.none_or, List.find?_cons, hs]
theorem rentry_ok (n : Node) (s : List UInt8) (hn : n.entries.length ≤ 100000000) : FnOK Try.prog 78 [.agg (nodeRow n), .str s] [] (fun r _ => r = rEntryR n.entries s) := by
  unfold rEntryR nodeRow
  refine fn_of_cwW tabOK (Go.Proofs.Try.func78) rfl (fun C => ?_)
  simp only [Go.Proofs.Try.ntmps78, Go.Proofs.Try.results78, go_sem]
  refine cw_go tabOK 99 (by simp only [go_sem]; try exact rfl) (by simp [go_sem]) ?_
  refine cw_loopS (fun i : Nat => i ≤ n.entries.length ∧ ∀ e, e ∈ n.entries.take i → (e.name == s) = false) (fun i => n.entries.length - i) (fun i => [(7, .any), (11, .int .i64 i), (12, .any), (13, .any), (14, .any), (15, .any), (16, .any), (17, .any), (18, .any), (19, .any), (20, .any), (21, .any)]) (fun _ => []) 0 ⟨by omega, by simp⟩ ?_ fun i hi => ?_
  · simp only [go_sem]
    exact le_sub (by simp [go_sem]) (by simp [go_sem]) (by simp [go_sem])
  obtain ⟨hi, hno⟩ := hi
  simp only [go_sem]
  refine cw_go tabOK 99 (by simp only [go_sem]; try exact rfl) (by simp [go_sem]) ?_
  refine cw_cond (by simp only [go_sem]; try exact rfl) trivial (fun h => ?_) (fun h => ?_)
  · have hlt : i < n.entries.length := by simp at h; omega
    have hg : (n.entries.map entryRow).getD i [] = entryRow (n.entries.getD i default) := Fam.getD hlt
    have hw : IntKind.i64.wrap ((i : Int) + 1) = ((i + 1 : Nat) : Int) := by rw [Eng.wrap_small (by omega) (by omega)]; rfl
    have hfs := @find_some_at n.entries s i hlt hno
    have htk := take_succ_getD hlt
    generalize n.entries.getD i default = e at *
    refine cw_go tabOK 99 (by simp only [go_sem, hg, entryRow]; try exact rfl) ?_ ?_
    · simp [hg, entryRow, hlt]
    cases hb : (e.name == s) with
    | true =>
      rw [hfs hb]
      refine cw_condT (by simp only [go_sem]; try exact rfl) trivial (by simp) ?_
      refine cw_go tabOK 99 (by simp only [go_sem]; try exact rfl) (by simp [go_sem]) ?_
      refine cw_ret ⟨_, _, (by simp only [go_sem]; try exact rfl), by simp [go_sem], _, .inr (.inl rfl), ?_⟩
      rfl
    | false =>
      refine cw_condF (by simp only [go_sem]; try exact rfl) trivial (by simp) ?_
      refine cw_go tabOK 99 (by simp only [go_sem, hw]; try exact rfl) (by simp [go_sem, hw]) ?_
      refine cw_back ⟨i + 1, ⟨by omega, ?_⟩, by omega, le_sub ?_ ?_ ?_⟩
      · rw [htk]
        intro x hx
        rcases List.mem_append.1 hx with hx | hx
        · exact hno x hx
        · rw [List.mem_singleton.1 hx]; exact hb
      · simp [go_sem]
      · simp [go_sem]
      · simp [go_sem]
  · have e : i = n.entries.length := by simp at h; omega
    subst e
    rw [List.take_length] at hno
    rw [find_none_take hno]
    refine cw_go tabOK 99 (by simp only [go_sem]; try exact rfl) (by simp [go_sem]) ?_
    refine cw_ret ⟨_, _, (by simp only [go_sem]; try exact rfl), by simp [go_sem], _, .inr (.inl rfl), ?_⟩
    rfl
def rLeaveE (l : List Entry) (s : List UInt8) : List Entry := l.filter fun e => !(e.name == s)
def rLeaveN (n : Node) (s : List UInt8) : Node := { n with entries := rLeaveE n.entries s }
theorem rleave_ok (n : Node) (s : List UInt8) (hn : n.entries.length ≤ 100000000) : FnOK Try.prog 79 [.agg (nodeRow n), .str s] [] (fun r _ => r = .agg (nodeRow (rLeaveN n s))) := by
  have hz : rLeaveE (n.entries.take n.entries.length) s = rLeaveE n.entries s := by rw [List.take_length]
  unfold rLeaveN nodeRow
  simp only
  rw [← hz]
  refine fn_of_cwW tabOK (Go.Proofs.Try.func79) rfl (fun C => ?_)
  simp only [Go.Proofs.Try.ntmps79, Go.Proofs.Try.results79, go_sem]
  refine cw_go tabOK 99 (by simp only [go_sem]; try exact rfl) (by simp [go_sem]) ?_
  refine cw_le (le_empty 22 115 2 (by simp only [go_sem]; try exact rfl)) ?_
  simp only [go_sem]
  refine cw_loopS (fun i : Nat => i ≤ n.entries.length) (fun i => n.entries.length - i) (fun i => [(5, .osl 22 2 0 (rLeaveE (n.entries.take i) s).length), (7, .any), (11, .int .i64 i), (12, .any), (13, .any), (14, .any), (15, .any), (16, .any), (17, .any), (18, .any), (19, .any), (20, .any), (21, .any), (22, .any), (23, .any)]) (fun i => [(22, .cells 115 2 ((rLeaveE (n.entries.take i) s).map entryRow))]) 0 (by omega) ?_ fun i hi => ?_
  · simp only [go_sem]
    exact le_sub (by simp [go_sem, rLeaveE]) (by simp [go_sem, rLeaveE]) (by simp [go_sem])
  simp only [go_sem]
  refine cw_go tabOK 99 (by simp only [go_sem]; try exact rfl) (by simp [go_sem]) ?_
  refine cw_cond (by simp only [go_sem]; try exact rfl) trivial (fun h => ?_) (fun h => ?_)
  · have hlt : i < n.entries.length := by simp at h; omega
    have hg : (n.entries.map entryRow).getD i [] = entryRow (n.entries.getD i default) := Fam.getD hlt
    have hw : IntKind.i64.wrap ((i : Int) + 1) = ((i + 1 : Nat) : Int) := by rw [Eng.wrap_small (by omega) (by omega)]; rfl
    have htk : rLeaveE (n.entries.take (i + 1)) s = if ((n.entries.getD i default).name == s) = true then rLeaveE (n.entries.take i) s else rLeaveE (n.entries.take i) s ++ [n.entries.getD i default] := by
      rw [take_succ_getD hlt]; unfold rLeaveE
      rw [List.filter_append, List.filter_cons]
      cases ((n.entries.getD i default).name == s) <;> simp
    have hll : (rLeaveE (n.entries.take i) s).length ≤ i := by
      have := List.length_filter_le (fun e : Entry => !(e.name == s)) (n.entries.take i)
      unfold rLeaveE
      simp only [List.length_take] at this
      omega
    generalize n.entries.getD i default = e at *
    refine cw_go tabOK 99 (by simp only [go_sem, hg, entryRow]; try exact rfl) ?_ ?_
    · simp [hg, entryRow, hlt]
    cases hb : (e.name == s) with
    | true =>
      rw [hb, if_pos rfl] at htk
      refine cw_condF (by simp only [go_sem]; try exact rfl) trivial (by simp) ?_
      refine cw_go tabOK 99 (by simp only [go_sem, hw]; try exact rfl) (by simp [go_sem, hw]) ?_
      refine cw_back ⟨i + 1, by omega, by omega, le_sub ?_ ?_ ?_⟩
      · simp [go_sem, htk]
      · simp [go_sem, htk]
      · simp [go_sem]
    | false =>
      rw [hb, if_neg Bool.false_ne_true] at htk
      refine cw_condT (by simp only [go_sem]; try exact rfl) trivial (by simp) ?_
      refine cw_go tabOK 99 (by simp only [go_sem, hw]; try exact rfl) ?_ ?_
      · simp [rowsOf]; omega
      refine cw_back ⟨i + 1, by omega, by omega, le_sub ?_ ?_ ?_⟩
      · simp [go_sem, htk]
      · simp [go_sem, htk, entryRow]
      · simp [go_sem]
  · have e : i = n.entries.length := by simp at h; omega
    subst e
    refine cw_go tabOK 99 (by simp only [go_sem]; try exact rfl) (by simp [go_sem]) ?_
    refine cw_freeze 22 rfl (entryRow_pure _) ?_
    simp only [go_sem]
    refine cw_ret ⟨_, _, (by simp only [go_sem]; try exact rfl), by simp [go_sem], _, .inr (.inl rfl), ?_⟩
    simp
end La

namespace La
open Go Go.Eng

theorem get_ext {α : Type} {a b : List (Int × α)} (ha : RiseM a) (hb : RiseM b) (h : ∀ k, mget a k = mget b k) : a = b :=
  rise_ext ha hb fun p => by
    obtain ⟨k, x⟩ := p
    constructor
    · intro hp; exact mget_mem (by rw [← h]; exact mget_of_mem ha hp)
    · intro hp; exact mget_mem (by rw [h]; exact mget_of_mem hb hp)
theorem mget_mdel {α : Type} {m : List (Int × α)} (h : RiseM m) (f k : Int) : mget (mdel m f) k = if k = f then none else mget m k := by
  have hd : RiseM (mdel m f) := mdel_rise h
  have hm : ∀ x, (k, x) ∈ mdel m f ↔ (k, x) ∈ m ∧ k ≠ f := fun x => by
    unfold mdel; rw [List.mem_filter]; simp
  by_cases e : k = f
  · rw [if_pos e]
    cases e1 : mget (mdel m f) k with
    | none => rfl
    | some x => exact absurd e ((hm x).1 (mget_mem e1)).2
  · rw [if_neg e]
    cases e1 : mget m k with
    | none =>
      cases e2 : mget (mdel m f) k with
      | none => rfl
      | some x =>
        have := mget_of_mem h ((hm x).1 (mget_mem e2)).1
        rw [e1] at this; cases this
    | some x => exact mget_of_mem hd ((hm x).2 ⟨mget_mem e1, e⟩)
theorem mapD_put {l : List Node} (h : Up l) (n : Node) : mput (mapD l) n.fid n = mapD (putN l n) :=
  get_ext (mput_rise (mapD_rise l)) (mapD_rise _) fun k => by
    rw [mget_mput (mapD_rise l), mapD_get h, mapD_get (putN_up h n).1, findN_put h]
theorem mapD_del {l : List Node} (h : Up l) (f : Int) : mdel (mapD l) f = mapD (dropN l f) :=
  get_ext (mdel_rise (mapD_rise l)) (mapD_rise _) fun k => by
    rw [mget_mdel (mapD_rise l), mapD_get h, mapD_get (dropN_up h f).1, findN_drop h]
theorem mapD_eq {l : List Node} (h : Up l) : mapD l = l.map fun n => (n.fid, n) := by
  refine rise_ext (mapD_rise l) ?_ fun p => ?_
  · exact List.pairwise_map.2 h
  · obtain ⟨k, x⟩ := p
    rw [List.mem_map]
    constructor
    · intro hp
      have := mget_of_mem (mapD_rise l) hp
      rw [mapD_get h] at this
      obtain ⟨h1, h2⟩ := (findN_some h).1 this
      exact ⟨x, h1, by rw [h2]⟩
    · rintro ⟨n, hn, e⟩
      injection e with e1 e2
      subst e1 e2
      exact mget_mem (by rw [mapD_get h]; exact (findN_some h).2 ⟨hn, rfl⟩)
theorem mapD_len {l : List Node} (h : Up l) : (mapD l).length = l.length := by rw [mapD_eq h, List.length_map]

theorem rEntry_entryN {n : Node} (h : EUp n.entries) (s : List UInt8) : rEntryR n.entries s = match entryN n s with | some f => .tup [.int .i64 f, .bool true] | none => .tup [.int .i64 0, .bool false] := by
  unfold rEntryR
  cases e : rEntryE n.entries s with
  | none =>
    have : entryN n s = none := (entryN_none h).2 fun x hx hn => by
      have := List.find?_eq_none.1 e x hx
      simp [hn] at this
    rw [this]
  | some x =>
    have hx : x ∈ n.entries := List.mem_of_find?_eq_some e
    have hs : x.name = s := by have := List.find?_some e; simpa using this
    have : entryN n s = some x.fid := (entryN_some h).2 (by rw [← hs]; exact hx)
    rw [this]

def entS (s : List UInt8) (f : Int) (q : Bool × List Entry) (e : Entry) : Bool × List Entry := if (!q.1 && Op.bytesLess s e.name) = true then (true, q.2 ++ [⟨s, f⟩] ++ [e]) else (q.1, q.2 ++ [e])
def entT (s : List UInt8) (f : Int) (l : List Entry) : Bool × List Entry := l.foldl (entS s f) (false, [])
def rEnterE (l : List Entry) (s : List UInt8) (f : Int) : List Entry := if (entT s f (rLeaveE l s)).1 = true then (entT s f (rLeaveE l s)).2 else (entT s f (rLeaveE l s)).2 ++ [⟨s, f⟩]
def rEnterN (n : Node) (s : List UInt8) (f : Int) : Node := { n with entries := rEnterE n.entries s f }
theorem entT_len (s : List UInt8) (f : Int) (l : List Entry) : (entT s f l).2.length ≤ 2 * l.length := by
  have : ∀ (l : List Entry) (q : Bool × List Entry), (l.foldl (entS s f) q).2.length ≤ q.2.length + 2 * l.length := fun l => by
    induction l with
    | nil => intro q; simp
    | cons e r ih =>
      intro q
      have h1 := ih (entS s f q e)
      have h2 : (entS s f q e).2.length ≤ q.2.length + 2 := by unfold entS; split <;> simp
      rw [List.foldl_cons, List.length_cons]
      omega
  have := this l (false, [])
  simpa [entT] using this
theorem entT_snoc (s : List UInt8) (f : Int) (l : List Entry) (e : Entry) : entT s f (l ++ [e]) = entS s f (entT s f l) e := by unfold entT; rw [List.foldl_append]; rfl

theorem entS_low (s : List UInt8) (f : Int) : ∀ (l : List Entry) (b : Bool) (q : List Entry), (∀ e, e ∈ l → e.name < s) → l.foldl (entS s f) (b, q) = (b, q ++ l)
  | [], b, q, _ => by simp
  | e :: r, b, q, h => by
    have h1 := h e List.mem_cons_self
    have h2 : Op.bytesLess s e.name = false := by
      rw [less_iff]
      exact decide_eq_false fun h3 => sirr _ (strans h1 h3)
    rw [List.foldl_cons, show entS s f (b, q) e = (b, q ++ [e]) from by simp [entS, h2], entS_low s f r b _ fun x hx => h x (List.mem_cons_of_mem _ hx)]
    simp
theorem entS_true (s : List UInt8) (f : Int) : ∀ (l : List Entry) (q : List Entry), l.foldl (entS s f) (true, q) = (true, q ++ l)
  | [], q => by simp
  | e :: r, q => by
    rw [List.foldl_cons, show entS s f (true, q) e = (true, q ++ [e]) from by simp [entS], entS_true s f r]
    simp
theorem rEnter_enter {l : List Entry} (h : EUp l) {s : List UInt8} (hs : isE l s = false) (f : Int) : rEnterE l s f = enterE l s f := by
  obtain ⟨h1, h2⟩ := h.parts hs
  have hlv : rLeaveE l s = l := by
    unfold rLeaveE
    refine List.filter_eq_self.2 fun e he => ?_
    have : e.name ≠ s := fun hn => by
      have := (isE_iff h s).2 ⟨e, he, hn⟩
      rw [hs] at this; cases this
    simpa using this
  unfold rEnterE
  rw [hlv]
  unfold enterE
  rw [hs, if_neg (show ¬ (false = true) by simp)]
  have hl : entT s f l = (l.drop (eplace l s)).foldl (entS s f) (false, l.take (eplace l s)) := by
    unfold entT
    conv => lhs; rw [← List.take_append_drop (eplace l s) l]
    rw [List.foldl_append, entS_low s f _ false [] h1]
    simp
  rw [hl]
  generalize hd : l.drop (eplace l s) = d at h2 ⊢
  cases d with
  | nil => simp
  | cons e r =>
    have h3 : Op.bytesLess s e.name = true := by rw [less_iff]; exact decide_eq_true (h2 e List.mem_cons_self)
    rw [List.foldl_cons, show entS s f (false, l.take (eplace l s)) e = (true, l.take (eplace l s) ++ [⟨s, f⟩] ++ [e]) from by simp [entS, h3], entS_true]
    simp
theorem rEnterN_enterN {n : Node} (h : EUp n.entries) {s : List UInt8} (hs : isE n.entries s = false) (f : Int) : rEnterN n s f = enterN n s f := by
  unfold rEnterN enterN; rw [rEnter_enter h hs]

open Classical in
noncomputable def rRenameE (l : List Node) (a : Act) : Int := if namedE l a = 0 then (if dirE l a.to = 0 then (if roomE (toN l a) a.toName = 0 then (if isAt l a.fid = true then (if decide (MReach (mapD l) a.fid a.to) = true then 11 else 0) else 12) else roomE (toN l a) a.toName) else dirE l a.to) else namedE l a
noncomputable def rRenameL (l : List Node) (a : Act) (v : Int) : List Node := if rRenameE l a = 0 then putN (if a.to = a.dir then l else putN l { leaveN (getN l a.dir) a.name with version := v }) { enterN (toN l a) a.toName a.fid with version := v } else l
noncomputable def rApplyE (l : List Node) (a : Act) : Int := if a.kind = 1 then makeE l a else if a.kind = 2 then makeE l a else if a.kind = 3 then storeE l a else if a.kind = 4 then removeE l a else if a.kind = 5 then rRenameE l a else 1
noncomputable def rApplyL (l : List Node) (a : Act) (v : Int) : List Node := if a.kind = 1 then makeL l a v else if a.kind = 2 then makeL l a v else if a.kind = 3 then storeL l a v else if a.kind = 4 then removeL l a v else if a.kind = 5 then rRenameL l a v else l
noncomputable def rApplyA (l : List Node) (a : Act) (v : Int) : AV := if rApplyE l a = 0 then .tup [.rm (mN (mapD (rApplyL l a v))), .int .i64 0] else .tup [.nilm, .int .i64 (rApplyE l a)]

/-- trees as the reference's are: nodes rise, names rise in each -/
structure Ri (l : List Node) : Prop where
  up : Up l
  eup : ∀ n, n ∈ l → EUp n.entries
theorem Ri.find {l : List Node} (h : Ri l) (k : Int) : EUp (getN l k).entries := by
  unfold getN
  cases e : findN l k with
  | none => exact List.Pairwise.nil
  | some n => exact h.eup n ((findN_some h.up).1 e).1
theorem Ri.put {l : List Node} (h : Ri l) {n : Node} (hn : EUp n.entries) : Ri (putN l n) :=
  ⟨(putN_up h.up n).1, fun m hm => by
    rcases pmem hm with rfl | hm
    · exact hn
    · exact h.eup m hm⟩
theorem Ri.drop {l : List Node} (h : Ri l) (f : Int) : Ri (dropN l f) := ⟨(dropN_up h.up f).1, fun m hm => h.eup m (((dropN_up h.up f).2 m).1 hm).1⟩
theorem Ri.to {l : List Node} (h : Ri l) (a : Act) : EUp (toN l a).entries := by
  unfold toN
  split
  · exact leave_up (h.find _) _
  · exact h.find _
theorem Ri.apply {l : List Node} (h : Ri l) (a : Act) (v : Int) : Ri (rApplyL l a v) := by
  have hmk : Ri (makeL l a v) := by
    unfold makeL
    split
    · rename_i he
      unfold makeE at he
      split at he
      · split at he
        · rename_i hr
          refine (h.put ?_).put List.Pairwise.nil
          exact (enterE_up (h.find _) (roomE_free hr).2 _).1
        · rename_i hr; exact absurd he hr
      · rename_i hr; exact absurd he hr
    · exact h
  unfold rApplyL
  split
  · exact hmk
  · split
    · exact hmk
    · split
      · unfold storeL
        split
        · exact h.put (h.find _)
        · exact h
      · split
        · unfold removeL
          split
          · exact (h.put (leave_up (h.find _) _)).drop _
          · exact h
        · split
          · unfold rRenameL
            split
            · rename_i he
              have hr : roomE (toN l a) a.toName = 0 := by
                unfold rRenameE at he
                split at he
                · split at he
                  · split at he
                    · assumption
                    · rename_i hr; exact absurd he hr
                  · rename_i hr; exact absurd he hr
                · rename_i hr; exact absurd he hr
              refine Ri.put ?_ (enterE_up (h.to a) (roomE_free hr).2 _).1
              split
              · exact h
              · exact h.put (leave_up (h.find _) _)
            · exact h
          · exact h
end La

namespace La
open Go Go.Eng Go.Proofs
set_option maxRecDepth 10000
set_option linter.unusedSimpArgs false
set_option linter.unusedVariables false

def orI (a b c : Int) : Int := if a ≠ 0 then a else if b ≠ 0 then b else c
theorem or_ok (a b c : Int) : FnOK Try.prog 111 [.sl [[.int .i64 a], [.int .i64 b], [.int .i64 c]]] [] (fun r _ => r = .int .i64 (orI a b c)) := by
  refine fn_of_cwW tabOK (Go.Proofs.Try.func111) rfl (fun C => ?_)
  simp only [Go.Proofs.Try.ntmps111, Go.Proofs.Try.results111, go_sem]
  refine cw_go tabOK 99 (by simp only [go_sem]; try exact rfl) (by simp [go_sem]) ?_
  refine cw_loopS (fun i : Nat => i ≤ 3 ∧ (0 < i → a = 0) ∧ (1 < i → b = 0) ∧ (2 < i → c = 0)) (fun i => 3 - i) (fun i => [(5, .any), (8, .int .i64 i), (9, .any), (10, .any), (11, .any), (12, .any), (13, .any), (14, .any), (15, .any), (16, .any)]) (fun _ => []) 0 (by omega) ?_ fun i hi => ?_
  · simp only [go_sem]
    exact le_sub (by simp [go_sem]) (by simp [go_sem]) (by simp [go_sem])
  obtain ⟨hi, h1, h2, h3⟩ := hi
  simp only [go_sem]
  refine cw_go tabOK 99 (by simp only [go_sem]; try exact rfl) (by simp [go_sem]) ?_
  refine cw_cond (by simp only [go_sem]; try exact rfl) trivial (fun h => ?_) (fun h => ?_)
  · have hlt : i < 3 := by simp at h; omega
    have hw : IntKind.i64.wrap ((i : Int) + 1) = ((i + 1 : Nat) : Int) := by rw [Eng.wrap_small (by omega) (by omega)]; rfl
    obtain ⟨x, hg, hx⟩ : ∃ x, [[AV.int .i64 a], [AV.int .i64 b], [AV.int .i64 c]].getD i [] = [AV.int .i64 x] ∧ (x ≠ 0 → orI a b c = x) ∧ (x = 0 → (0 < i + 1 → a = 0) ∧ (1 < i + 1 → b = 0) ∧ (2 < i + 1 → c = 0)) := by
      rcases (show i = 0 ∨ i = 1 ∨ i = 2 by omega) with rfl | rfl | rfl
      · exact ⟨a, rfl, fun h => by simp [orI, h], fun h => ⟨fun _ => h, fun h => by omega, fun h => by omega⟩⟩
      · have ha := h1 (by omega)
        exact ⟨b, rfl, fun h => by simp [orI, h, ha], fun h => ⟨fun _ => ha, fun _ => h, fun h => by omega⟩⟩
      · have ha := h1 (by omega)
        have hb := h2 (by omega)
        exact ⟨c, rfl, fun h => by simp [orI, ha, hb], fun h => ⟨fun _ => ha, fun _ => hb, fun _ => h⟩⟩
    obtain ⟨hx1, hx2⟩ := hx
    refine cw_go tabOK 99 (by simp only [go_sem, hg]; try exact rfl) ?_ ?_
    · simp [hg, hlt]
    refine cw_cond (by simp only [go_sem]; try exact rfl) trivial (fun h => ?_) (fun h => ?_)
    · refine cw_go tabOK 99 (by simp only [go_sem]; try exact rfl) (by simp [go_sem]) ?_
      refine cw_ret ⟨_, _, (by simp only [go_sem]; try exact rfl), by simp [go_sem], _, .inr (.inl rfl), ?_⟩
      rw [hx1 (by simpa using h)]
    · refine cw_go tabOK 99 (by simp only [go_sem, hw]; try exact rfl) (by simp [go_sem, hw]) ?_
      refine cw_back ⟨i + 1, ⟨by omega, hx2 (by simpa using h)⟩, by omega, le_sub ?_ ?_ ?_⟩
      · simp [go_sem]
      · simp [go_sem]
      · simp [go_sem]
  · have e : i = 3 := by simp at h; omega
    subst e
    refine cw_go tabOK 99 (by simp only [go_sem]; try exact rfl) (by simp [go_sem]) ?_
    refine cw_ret ⟨_, _, (by simp only [go_sem]; try exact rfl), by simp [go_sem], _, .inr (.inl rfl), ?_⟩
    simp [orI, h1 (by omega), h2 (by omega), h3 (by omega)]

def cmpK (a b : Kept) : Int := orI (cmpI a.worth b.worth) (cmpI a.last b.last) (cmpI a.node.fid b.node.fid)
def worstAt (l : List Kept) : Nat → Option Nat
  | 0 => none
  | i + 1 =>
    if (l.getD i default).dirty || (l.getD i default).node.fid == 0 then worstAt l i
    else match worstAt l i with
      | none => some i
      | some b => if cmpK (l.getD i default) (l.getD b default) < 0 then some i else some b
theorem worstAt_lt (l : List Kept) : ∀ (i b : Nat), worstAt l i = some b → b < i
  | 0, b, h => by cases h
  | i + 1, b, h => by
    simp only [worstAt] at h
    have ih := worstAt_lt l i
    split at h
    · have := ih b h; omega
    · split at h
      · injection h with h; omega
      · rename_i b' e
        have := ih b' e
        split at h
        · injection h with h; omega
        · injection h with h; omega
def worstK (l : List Kept) : Option Nat := worstAt l l.length

theorem worst_ok (l : List Kept) (hlen : l.length ≤ 100000000) : FnOK Try.prog 51 [.sl (l.map keptRow)] [] (fun r _ => r = .int .i64 (idxI (worstK l))) := by
  refine fn_of_cwW tabOK (Go.Proofs.Try.func51) rfl (fun C => ?_)
  simp only [Go.Proofs.Try.ntmps51, Go.Proofs.Try.results51, go_sem]
  refine cw_go tabOK 99 (by simp only [go_sem]; try exact rfl) (by simp [go_sem]) ?_
  refine cw_loopS (fun i : Nat => i ≤ l.length) (fun i => l.length - i) (fun i => [(3, .int .i64 (idxI (worstAt l i))), (4, .any), (5, .any), (8, .int .i64 i), (9, .any), (10, .any), (11, .any), (12, .any), (13, .any), (14, .any), (15, .any), (16, .any), (17, .any), (18, .any), (19, .any), (20, .any), (21, .any), (22, .any), (23, .any), (24, .any), (25, .any), (26, .any), (27, .any), (28, .any), (29, .any), (30, .any), (31, .any), (32, .any), (33, .any), (34, .any), (35, .any), (36, .any), (37, .any), (38, .any), (39, .any), (40, .any), (41, .any), (42, .any), (43, .any), (44, .any), (45, .any), (46, .any), (47, .any), (48, .any), (49, .any), (50, .any), (51, .any), (52, .any), (53, .any), (54, .any), (55, .any)]) (fun _ => []) 0 (by omega) ?_ fun i hi => ?_
  · simp only [go_sem]
    exact le_sub (by simp [go_sem]; rfl) (by simp [go_sem]) (by simp [go_sem])
  simp only [go_sem]
  refine cw_go tabOK 99 (by simp only [go_sem]; try exact rfl) (by simp [go_sem]) ?_
  refine cw_cond (by simp only [go_sem]; try exact rfl) trivial (fun h => ?_) (fun h => ?_)
  · have hlt : i < l.length := by simp at h; omega
    have hg : (l.map keptRow).getD i [] = keptRow (l.getD i default) := Fam.getD hlt
    have hw : IntKind.i64.wrap ((i : Int) + 1) = ((i + 1 : Nat) : Int) := by rw [Eng.wrap_small (by omega) (by omega)]; rfl
    have hwl := worstAt_lt l i
    have hstep : worstAt l (i + 1) = if (l.getD i default).dirty || (l.getD i default).node.fid == 0 then worstAt l i else match worstAt l i with
      | none => some i
      | some b => if cmpK (l.getD i default) (l.getD b default) < 0 then some i else some b := rfl
    generalize l.getD i default = x at hg hstep
    refine cw_go tabOK 99 (by simp only [go_sem, hg, keptRow]; try exact rfl) ?_ ?_
    · simp [hg, hlt, keptRow]
    refine cw_freeze 5 rfl (rfl) ?_
    simp only [go_sem]
    refine cw_cond (by simp only [go_sem]; try exact rfl) trivial (fun h => ?_) (fun h => ?_)
    · have hno : worstAt l (i + 1) = worstAt l i := by rw [hstep, if_pos (by simpa using h)]
      refine cw_go tabOK 99 (by simp only [go_sem, hw]; try exact rfl) (by simp [go_sem, hw]) ?_
      refine cw_back ⟨i + 1, by omega, by omega, le_sub ?_ ?_ ?_⟩
      · simp [go_sem, hno]
      · simp [go_sem]
      · simp [go_sem]
    · have hyes : (x.dirty || x.node.fid == 0) = false := by simpa using h
      rw [hyes] at hstep
      simp only [Bool.false_eq_true, if_false] at hstep
      cases hb : worstAt l i with
      | none =>
        rw [hb] at hstep
        simp only [idxI]
        refine cw_go tabOK 99 (by simp only [go_sem]; try exact rfl) (by simp [go_sem]) ?_
        refine cw_draw mixed ?_
        refine seg_start rfl ?_
        refine seg_runN tabOK 3 (by simp only [go_sem]; exact rfl) (by simp only [go_sem]; exact rfl) (by simp only [go_sem]; try exact rfl) (by simp [go_sem]) (by simp only [go_sem]; exact rfl) ?_
        iterate 28 refine seg_skip .any (by simp only [go_sem]; try exact rfl) (by simp only [go_sem]; exact rfl) (by simp only [go_sem]; exact rfl) ?_
        refine seg_skip (.bool false) (by simp only [go_sem]; try exact rfl) (by simp only [go_sem]; exact rfl) (by simp only [go_sem]; exact rfl) ?_
        refine seg_runN tabOK 1 (by simp only [go_sem]; exact rfl) (by simp only [go_sem]; exact rfl) (by simp only [go_sem]; try exact rfl) (by simp [go_sem]) (by simp only [go_sem]; exact rfl) ?_
        refine seg_end (by kernel_rfl) (by simp only [go_sem]; exact rfl) ?_
        refine draw_close (by kernel_rfl) ?_
        refine cw_condT (by simp only [go_sem]; try exact rfl) trivial (by simp) ?_
        refine cw_go tabOK 99 (by simp only [go_sem, hw]; try exact rfl) (by simp [go_sem, hw]) ?_
        refine cw_back ⟨i + 1, by omega, by omega, le_sub ?_ ?_ ?_⟩
        · simp [go_sem, hstep, idxI]
        · simp [go_sem]
        · simp [go_sem]
      | some b =>
        rw [hb] at hstep
        have hbl := hwl b hb
        have hgb : (l.map keptRow).getD b [] = keptRow (l.getD b default) := Fam.getD (by omega)
        simp only at hstep
        generalize l.getD b default = y at hgb hstep
        simp only [idxI]
        refine cw_go tabOK 99 (by simp only [go_sem]; try exact rfl) (by simp [go_sem]) ?_
        refine cw_draw mixed ?_
        refine seg_start rfl ?_
        refine seg_runN tabOK 3 (by simp only [go_sem]; exact rfl) (by simp only [go_sem]; exact rfl) (by simp only [go_sem]; try exact rfl) (by simp [go_sem]) (by simp only [go_sem]; exact rfl) ?_
        refine seg_name 23 (by simp only [go_sem]; exact rfl) (fun c23 h23 => ?_)
        simp only [go_sem]
        have hc : c23 = false := by rw [← h23]; simp
        subst hc
        refine seg_runN tabOK 7 (by simp only [go_sem]; exact rfl) (by simp only [go_sem]; exact rfl) (by simp only [go_sem, hgb, keptRow]; try exact rfl) ?_ (by simp only [go_sem]; exact rfl) ?_
        · simp [hgb, keptRow]; omega
        refine seg_callC rfl (by simp only [go_sem]; try exact rfl) (by simp only [go_sem]; try exact rfl) (by simp [go_sem]) ⟨_, Go.Proofs.Try.func108, by kernel_rfl, rfl⟩ (by simp [go_sem]) (fun hb => (compare_ok x.worth y.worth)) (by simp [go_sem]) (by simp only [go_sem]; exact rfl) (by simp only [go_sem]; exact rfl) ?_
        refine seg_runN tabOK 7 (by simp only [go_sem]; exact rfl) (by simp only [go_sem]; exact rfl) (by simp only [go_sem, hgb, keptRow]; try exact rfl) ?_ (by simp only [go_sem]; exact rfl) ?_
        · simp [hgb, keptRow]; omega
        refine seg_callC rfl (by simp only [go_sem]; try exact rfl) (by simp only [go_sem]; try exact rfl) (by simp [go_sem]) ⟨_, Go.Proofs.Try.func108, by kernel_rfl, rfl⟩ (by simp [go_sem]) (fun hb => (compare_ok x.last y.last)) (by simp [go_sem]) (by simp only [go_sem]; exact rfl) (by simp only [go_sem]; exact rfl) ?_
        refine seg_runN tabOK 9 (by simp only [go_sem]; exact rfl) (by simp only [go_sem]; exact rfl) (by simp only [go_sem, hgb, keptRow]; try exact rfl) ?_ (by simp only [go_sem]; exact rfl) ?_
        · simp [hgb, keptRow]; omega
        refine seg_callC rfl (by simp only [go_sem]; try exact rfl) (by simp only [go_sem]; try exact rfl) (by simp [go_sem]) ⟨_, Go.Proofs.Try.func108, by kernel_rfl, rfl⟩ (by simp [go_sem]) (fun hb => (compare_ok x.node.fid y.node.fid)) (by simp [go_sem]) (by simp only [go_sem]; exact rfl) (by simp only [go_sem]; exact rfl) ?_
        refine seg_new tabOK rfl (by simp only [go_sem]; try exact rfl) (by simp only [go_sem]; try exact rfl) (by simp [go_sem]) (by simp only [go_sem]; try exact rfl) (by simp only [go_sem]; exact rfl) (by simp only [go_sem]; exact rfl) ?_
        refine seg_viewC rfl (by simp only [go_sem]; try exact rfl) (by simp only [go_sem]; try exact rfl) (by simp [go_sem]) (by simp only [go_sem]; try exact rfl) (by simp [go_sem]) ⟨_, Go.Proofs.Try.func111, by kernel_rfl, rfl⟩ (fun hb => (or_ok _ _ _)) (by simp [go_sem]) (by simp only [go_sem]; exact rfl) (by simp only [go_sem]; exact rfl) ?_
        refine seg_runN tabOK 2 (by simp only [go_sem]; exact rfl) (by simp only [go_sem]; exact rfl) (by simp only [go_sem]; try exact rfl) (by simp [go_sem]) (by simp only [go_sem]; exact rfl) ?_
        refine seg_end (by kernel_rfl) (by simp only [go_sem]; exact rfl) ?_
        refine draw_close (by kernel_rfl) ?_
        by_cases hlt : cmpK x y < 0
        · refine cw_condT (by simp only [go_sem]; try exact rfl) trivial (by simpa [cmpK] using hlt) ?_
          refine cw_go tabOK 99 (by simp only [go_sem, hw]; try exact rfl) (by simp [go_sem, hw]) ?_
          refine cw_back ⟨i + 1, by omega, by omega, le_sub ?_ ?_ ?_⟩
          · simp [go_sem, hstep, idxI, hlt]
          · simp [go_sem]
          · simp [go_sem]
        · refine cw_condF (by simp only [go_sem]; try exact rfl) trivial (by simpa [cmpK] using hlt) ?_
          refine cw_go tabOK 99 (by simp only [go_sem, hw]; try exact rfl) (by simp [go_sem, hw]) ?_
          refine cw_back ⟨i + 1, by omega, by omega, le_sub ?_ ?_ ?_⟩
          · simp [go_sem, hstep, idxI, hlt]
          · simp [go_sem]
          · simp [go_sem]
  · have e : i = l.length := by simp at h; omega
    subst e
    refine cw_go tabOK 99 (by simp only [go_sem]; try exact rfl) (by simp [go_sem]) ?_
    refine cw_ret ⟨_, _, (by simp only [go_sem]; try exact rfl), by simp [go_sem], _, .inr (.inl rfl), ?_⟩
    rfl
end La

namespace La
open Go Go.Eng Go.Proofs
set_option maxRecDepth 10000
set_option linter.unusedSimpArgs false
set_option linter.unusedVariables false

def zkept : Kept := ⟨zeroN, false, 0, 0⟩
def zkrow : List AV := [.int .i64 0, .bool false, .nils, .nils, .int .i64 0, .bool false, .int .i64 0, .int .i64 0]
theorem del_over (l : List Kept) (i : Nat) (hi : i < l.length) : overRows (l.map keptRow) i (((l.map keptRow).drop (i + 1)).take (l.length - (i + 1))) = (l.eraseIdx i).map keptRow ++ (l.drop (l.length - 1)).map keptRow := by
  unfold overRows
  have e1 : ((l.map keptRow).drop (i + 1)).take (l.length - (i + 1)) = (l.map keptRow).drop (i + 1) := List.take_of_length_le (by simp)
  rw [e1, List.eraseIdx_eq_take_drop_succ, List.map_append, List.map_take, List.map_drop, List.map_drop]
  congr 2
  simp; omega
theorem del_clear (A Z : List (List AV)) (z : List AV) (n : Nat) (hA : A.length = n) : (overRows (A ++ Z) n [z]).take n = A := by
  unfold overRows
  rw [List.append_assoc, List.take_append, ← hA, List.take_append_length]
  simp
def dK (R : List (List AV)) (G Y N : Nat → Nat) : List (Nat × Blk) := [(1000, .cells 72 8 R)] ++ pins [1000] G Y N
theorem del_ok (l : List Kept) (i : Nat) (hi : i < l.length) (hlen : l.length ≤ 100000000) (G Y Z : Nat → Nat) :
    FnOK Try.prog 105 [.osl 1000 8 0 l.length, .int .i64 i, .int .i64 ((i + 1 : Nat) : Int)] (dK (l.map keptRow) G Y Z) (fun r H => r = .osl 1000 8 0 (l.length - 1) ∧ ∀ j b, hget (dK ((l.eraseIdx i).map keptRow) G Y Z) j = some b → hget H j = some b) := by
  unfold dK
  refine fn_of_cwW tabOK (Go.Proofs.Try.func105) rfl (fun C => ?_)
  simp only [Go.Proofs.Try.ntmps105, Go.Proofs.Try.results105, go_sem]
  refine cw_goR 99 (by simp only [go_sem]; try exact rfl) ?_
  refine cw_runN tabOK 1 (by simp only [go_sem]; exact rfl) (by simp only [go_sem]; exact rfl) (by simp only [go_sem]; try exact rfl) (by simp [go_sem]) ?_
  refine cw_goR 99 (by simp only [go_sem]; try exact rfl) ?_
  refine cw_runN tabOK 5 (by simp only [go_sem]; exact rfl) (by simp only [go_sem]; exact rfl) (by simp only [go_sem]; try exact rfl) (by simp [go_sem]) ?_
  refine cw_step rfl (trip_slice3 tabOK rfl rfl (id := 1000) (s := 8) (off := 0) (len := l.length) (l := i) (h := i + 1) (m := l.length) (by simp only [go_sem]; try exact rfl) (by simp only [go_sem]; try exact rfl) (by simp only [go_sem]; try exact rfl) (by simp only [go_sem]; try exact rfl) (by omega) (by omega) (by omega) (by omega) rfl (by omega)) ?_
  simp only [go_sem]
  refine cw_go tabOK 99 (by simp only [go_sem]; try exact rfl) (by simp [go_sem]) ?_
  refine cw_cond (by simp only [go_sem]; try exact rfl) trivial (fun h => ?_) (fun h => ?_)
  · simp at h; omega
  refine cw_go tabOK 99 (by simp only [go_sem]; try exact rfl) (by simp [go_sem]) ?_
  refine cw_room 50 (t := 0) (id := 1000) (s := 8) (off := 0) (len := l.length) (by simp only [go_sem]; try exact rfl) (by simp only [go_sem]; try exact rfl) (by omega) (by omega) (by simp only [go_sem]; try exact rfl) (fun N hN1 hN2 => ?_)
  simp only [go_sem]
  refine cw_draw mixed ?_
  refine seg_start rfl ?_
  refine seg_runN tabOK 2 (by simp only [go_sem]; exact rfl) (by simp only [go_sem]; exact rfl) (by simp only [go_sem]; try exact rfl) (by simp [go_sem]) (by simp only [go_sem]; exact rfl) ?_
  refine seg_sliceX tabOK rfl rfl rfl (id := 1000) (s := 8) (len := l.length) (h := i) (j := 50) (N := N) (by simp only [go_sem]; try exact rfl) (by simp only [go_sem]; try exact rfl) (by simp only [go_sem]; try exact rfl) (by omega) (by omega) rfl (by omega) (by simp only [go_sem]; exact rfl) (by simp only [go_sem]; exact rfl) ?_
  refine seg_runN tabOK 3 (by simp only [go_sem]; exact rfl) (by simp only [go_sem]; exact rfl) (by simp only [go_sem]; try exact rfl) ?_ (by simp only [go_sem]; exact rfl) ?_
  · simp
    omega
  refine seg_end (by kernel_rfl) (by simp only [go_sem]; exact rfl) ?_
  have hm : i + (l.length - (i + 1)) = l.length - 1 := by omega
  have hE : (l.eraseIdx i).length = l.length - 1 := by rw [List.length_eraseIdx, if_pos hi]
  have hO := del_over l i hi
  refine draw_trip rfl (by kernel_rfl) rfl (trip_appendIn tabOK rfl rfl (id := 1000) (s := 8) (i := i) (j := i + 1) (m := l.length - (i + 1)) (N := N) (e' := 72) (R := l.map keptRow) (by simp only [go_sem]; try exact rfl) (by simp only [go_sem]; try exact rfl) (by simp only [go_sem]; try exact rfl) (by simp; omega) (by simp; omega) (by omega) rfl (by omega) (keptRow_rowsOf l) (by rw [← List.map_drop, ← List.map_take]; exact keptRow_leaf _)) rfl ?_
  rw [hm, hO]
  have hR : ((l.eraseIdx i).map keptRow).length = l.length - 1 := by rw [List.length_map, hE]
  have hZl : (l.drop (l.length - 1)).length = 1 := by simp; omega
  generalize (l.eraseIdx i).map keptRow = A at *
  generalize (l.drop (l.length - 1)) = W at *
  refine draw_step tabOK rfl (by kernel_rfl) rfl (by simp only [go_sem]; try exact rfl) (by simp [go_sem]) rfl ?_
  refine draw_close (by kernel_rfl) ?_
  try simp only [go_sem, List.getElem_toArray, List.getElem_cons_succ, List.getElem_cons_zero]
  refine cw_goR 99 (by simp only [go_sem]; try exact rfl) ?_
  refine cw_runN tabOK 2 (by simp only [go_sem]; exact rfl) (by simp only [go_sem]; exact rfl) (by simp only [go_sem]; try exact rfl) (by simp [go_sem]) ?_
  refine cw_le (le_exs 28 (by simp only [go_sem]; exact rfl)) ?_
  simp only [go_sem]
  refine cw_runN tabOK 2 (by simp only [go_sem]; exact rfl) (by simp only [go_sem]; exact rfl) (by simp only [go_sem]; try exact rfl) (by simp [go_sem]) ?_
  refine cw_step rfl (trip_sliceXX tabOK rfl rfl (id := 1000) (s := 8) (len := l.length - 1) (cap := N) (l := l.length - 1) (h := l.length) (by simp only [go_sem]; try exact rfl) (by simp only [go_sem]; try exact rfl) (by simp only [go_sem]; try exact rfl) (by omega) (by omega) rfl (by omega)) ?_
  simp only [go_sem]
  refine cw_go tabOK 99 (by simp only [go_sem]; try exact rfl) ?_ ?_
  · simp [hR, hZl]
    omega
  have h1 : l.length - (l.length - 1) = 1 := by omega
  simp only [go_sem, h1, List.replicate_one]
  refine cw_le (le_exs 6 (by simp only [go_sem]; exact rfl)) ?_
  simp only [go_sem]
  refine cw_le (le_shrink (id := 1000) (l.length - 1) (by simp only [go_sem]; exact rfl)) ?_
  simp only [go_sem, del_clear A _ _ (l.length - 1) hR]
  refine cw_ret ⟨_, _, (by simp only [go_sem]; try exact rfl), by simp [go_sem], _, .inr (.inl rfl), ?_⟩
  refine ⟨rfl, hold2 ?_ ?_⟩
  · simp [go_sem]
  · simp [go_sem]
end La

namespace La
open Go Go.Eng Go.Proofs
set_option maxRecDepth 10000
set_option linter.unusedSimpArgs false
set_option linter.unusedVariables false

def shrinkK (room : Int) : Nat → List Kept → Option (List Kept)
  | 0, l => some l
  | f + 1, l => if (l.length : Int) ≥ room then (match worstK l with
      | none => none
      | some i => shrinkK room f (l.eraseIdx i)) else some l
def maxI (a b : Int) : Int := if b > a then b else a
def keepK (l : List Kept) (room : Int) (k : Kept) : Option (List Kept) := match kplace l k.node.fid with
  | some i => some (l.set i { k with worth := maxI k.worth (l.getD i default).worth })
  | none => (shrinkK room (l.length + 1) l).map fun L => L ++ [k]
def keepR (l : List Kept) (room : Int) (k : Kept) : AV := match keepK l room k with
  | none => .tup [.sl [], .int .i64 5]
  | some L => .tup [.sl (L.map keptRow), .int .i64 0]
def keepRn (l : List Kept) (room : Int) (k : Kept) : AV := match keepK l room k with
  | none => .tup [.nils, .int .i64 5]
  | some L => .tup [.sl (L.map keptRow), .int .i64 0]

theorem keep_raw (l : List Kept) (room : Int) (k : Kept) (hl : SmallK l) (hk : k.node.Small) : FnOK Try.prog 42 [.sl (l.map keptRow), .int .i64 room, .agg (keptRow k)] [] (fun r _ => r = keepRn l room k) := by
  have hlen := hl.len
  have e0 := keptRow_at (M := [k]) (i := 0) (by simp)
  refine fn_of_cwW tabOK (Go.Proofs.Try.func42) rfl (fun C => ?_)
  simp only [Go.Proofs.Try.ntmps42, Go.Proofs.Try.results42, go_sem]
  refine cw_go tabOK 99 (by simp only [go_sem, keptRow]; try exact rfl) ?_ ?_
  · simp
  refine cw_callG [] 978 rfl rfl (by simp only [go_sem]; try exact rfl) (by simp [go_sem]) ⟨_, Go.Proofs.Try.func45, by kernel_rfl, rfl⟩ (by simp only [go_sem, Bool.false_or, Bool.or_true, Bool.true_or, if_true]; try exact rfl) (kown_okH l hl) (by simp [go_sem]) (by simp [go_sem]) (by simp [go_sem]) (by simp only [go_sem]) (by simp [go_sem]) (by simp only [go_sem, Bool.false_or, Bool.or_true, Bool.true_or, Bool.or_false, ↓reduceIte]; exact rfl) ?_
  refine cw_go tabOK 99 (by simp only [go_sem, keptRow]; try exact rfl) ?_ ?_
  · simp
  refine cw_freeze 14 rfl (rfl) ?_
  simp only [go_sem]
  refine cw_call rfl rfl (by simp only [go_sem]; try exact rfl) (by simp [go_sem]) ⟨_, Go.Proofs.Try.func45, by kernel_rfl, rfl⟩ (by simp [go_sem]) (kown_ok [k] (SmallK.one hk)) (by simp [go_sem]) (by simp only [go_sem]; exact rfl) ?_
  refine cw_go tabOK 99 (by simp only [go_sem, keptRow]; try exact rfl) ?_ ?_
  · simp [keptRow]
  refine cw_view rfl rfl (by simp only [go_sem]; try exact rfl) (by simp [go_sem]) (by simp only [go_sem]; try exact rfl) (by simp [go_sem]) ⟨_, Go.Proofs.Try.func104, by kernel_rfl, rfl⟩ (kwhere_ok l k.node.fid hlen) (by simp [go_sem]) (by simp only [go_sem]; exact rfl) ?_
  refine cw_go tabOK 99 (by simp only [go_sem]; try exact rfl) (by simp [go_sem]) ?_
  unfold keepRn keepK
  cases e : kplace l k.node.fid with
  | some i =>
    have hi := kplace_lt e
    have hg := keptRow_at hi
    simp only [idxI]
    refine cw_condT (by simp only [go_sem]; try exact rfl) trivial (by simp) ?_
    refine cw_go tabOK 99 (by simp only [go_sem]; try exact rfl) (by simp [go_sem]) ?_
    have hs := keptRow_set l i { k with worth := maxI k.worth (l.getD i default).worth }
    simp only [keptRow] at hs
    unfold maxI at hs
    refine cw_draw mixed ?_
    refine seg_start rfl ?_
    refine seg_runN tabOK 7 (by simp only [go_sem]; exact rfl) (by simp only [go_sem]; exact rfl) (by simp only [go_sem, hg]; try exact rfl) ?_ (by simp only [go_sem]; exact rfl) ?_
    · simp [hg]; omega
    refine seg_max rfl rfl (q := .i64) (q' := .i64) (u := k.worth) (v := (l.getD i default).worth) (by simp only [go_sem]; try exact rfl) (by simp only [go_sem]; try exact rfl) (by simp only [go_sem]; exact rfl) (by simp only [go_sem]; exact rfl) ?_
    refine seg_runN tabOK 1 (by simp only [go_sem]; exact rfl) (by simp only [go_sem]; exact rfl) (by simp only [go_sem]; try exact rfl) (by simp [go_sem]) (by simp only [go_sem]; exact rfl) ?_
    refine seg_end (by kernel_rfl) (by simp only [go_sem]; exact rfl) ?_
    refine draw_step tabOK rfl (by kernel_rfl) rfl (by simp only [go_sem]; try exact rfl) (by simp [go_sem]) rfl ?_
    refine draw_close (by kernel_rfl) ?_
    try simp only [go_sem, List.getElem_toArray, List.getElem_cons_succ, List.getElem_cons_zero]
    refine cw_go tabOK 99 (by simp only [go_sem, hg, hs]; try exact rfl) ?_ ?_
    · simp [hg]; omega
    refine cw_freeze 1000 rfl (keptRow_pure _) ?_
    simp only [go_sem]
    refine cw_ret ⟨_, _, (by simp only [go_sem]; try exact rfl), by simp [go_sem], _, .inr (.inl rfl), ?_⟩
    rw [if_pos (by simp), List.take_of_length_le (by simp)]
    rfl
  | none =>
    simp only [idxI]
    refine cw_condF (by simp only [go_sem]; try exact rfl) trivial (by simp) ?_
    refine cw_go tabOK 99 (by simp only [go_sem]; try exact rfl) (by simp [go_sem]) ?_
    refine cw_freeze 5 rfl (rfl) ?_
    simp only [go_sem]
    refine cw_loopS (fun L : List Kept => L.length ≤ l.length ∧ shrinkK room (L.length + 1) L = shrinkK room (l.length + 1) l) (fun L => L.length) (fun L => [(8, .osl 1000 8 0 L.length), (10, .any), (11, .any), (12, .any), (13, .any), (14, .any), (15, .any), (16, .any), (17, .any), (18, .any), (19, .any), (20, .any), (21, .any), (22, .any), (23, .any), (24, .any), (39, .any), (40, .any), (41, .any), (42, .any), (43, .any), (44, .any), (45, .any), (46, .any), (47, .any), (48, .any), (49, .any), (50, .any), (51, .any)]) (fun L => [(1000, .cells 72 8 (L.map keptRow))]) l ⟨Nat.le_refl _, rfl⟩ ?_ fun L hL => ?_
    · simp only [go_sem]
      exact le_sub (by simp [go_sem]) (by simp [go_sem]) (by simp [go_sem])
    obtain ⟨hLl, hLs⟩ := hL
    simp only [go_sem]
    refine cw_go tabOK 99 (by simp only [go_sem]; try exact rfl) (by simp [go_sem]) ?_
    refine cw_cond (by simp only [go_sem]; try exact rfl) trivial (fun h => ?_) (fun h => ?_)
    · have hge : (L.length : Int) ≥ room := by simpa using h
      rw [shrinkK, if_pos hge] at hLs
      refine cw_go tabOK 99 (by simp only [go_sem]; try exact rfl) (by simp [go_sem]) ?_
      refine cw_view rfl rfl (by simp only [go_sem]; try exact rfl) (by simp [go_sem]) (by simp only [go_sem]; try exact rfl) (by simp [go_sem]) ⟨_, Go.Proofs.Try.func51, by kernel_rfl, rfl⟩ (worst_ok L (by omega)) (by simp [go_sem]) (by simp only [go_sem]; exact rfl) ?_
      cases hw : worstK L with
      | none =>
        rw [hw] at hLs
        simp only at hLs
        simp only [idxI]
        refine cw_go tabOK 99 (by simp only [go_sem]; try exact rfl) (by simp [go_sem]) ?_
        refine cw_condT (by simp only [go_sem]; try exact rfl) trivial (by simp) ?_
        refine cw_go tabOK 99 (by simp only [go_sem]; try exact rfl) (by simp [go_sem]) ?_
        refine cw_ret ⟨_, _, (by simp only [go_sem]; try exact rfl), by simp [go_sem], _, .inr (.inl rfl), ?_⟩
        rw [← hLs]
        rfl
      | some i =>
        rw [hw] at hLs
        simp only at hLs
        have hi : i < L.length := worstAt_lt L L.length i hw
        have hwr : IntKind.i64.wrap ((i : Int) + 1) = ((i + 1 : Nat) : Int) := by rw [Eng.wrap_small (by omega) (by omega)]; rfl
        have hE : (L.eraseIdx i).length = L.length - 1 := by rw [List.length_eraseIdx, if_pos hi]
        simp only [idxI]
        refine cw_go tabOK 99 (by simp only [go_sem]; try exact rfl) (by simp [go_sem]) ?_
        refine cw_condF (by simp only [go_sem]; try exact rfl) trivial (by simp) ?_
        refine cw_go tabOK 99 (by simp only [go_sem, hwr]; try exact rfl) (by simp [go_sem, hwr]) ?_
        have hne : ¬ L = [] := fun h0 => by rw [h0] at hi; simp at hi
        refine cw_step rfl (trip_callP rfl (by simp only [go_sem]; try exact rfl) (by simp [go_sem]) ⟨_, Go.Proofs.Try.func105, by kernel_rfl, rfl⟩ [1000] (by simp only [go_sem, Bool.false_or, Bool.or_true, Bool.true_or, Bool.or_false, ↓reduceIte]; try exact rfl) (by simp [go_sem]) (by simp) (by simp [go_sem, hne]) (by simp [go_sem]) (by simp [go_sem]) (del_ok L i hi (by omega)) (by simp only [go_sem, Bool.false_or, Bool.or_true, Bool.true_or, Bool.or_false, ↓reduceIte]; exact rfl)) ?_
        refine cw_go tabOK 99 (by simp only [go_sem]; try exact rfl) (by simp [go_sem]) ?_
        refine cw_back ⟨L.eraseIdx i, ⟨by omega, ?_⟩, by omega, le_sub ?_ ?_ ?_⟩
        · rw [← hLs, hE]; congr 1; omega
        · simp [go_sem, hE]
        · simp [go_sem]
        · simp [go_sem]
    · have hlt : ¬ (L.length : Int) ≥ room := by simpa using h
      rw [shrinkK, if_neg hlt] at hLs
      refine cw_go tabOK 99 (by simp only [go_sem]; try exact rfl) ?_ ?_
      · simp [rowsOf]; omega
      refine cw_freeze 55 rfl (by rw [List.all_append]; first | (rw [keptRow_pure]; rfl) | (rw [← List.map_take, keptRow_pure]; rfl)) ?_
      simp only [go_sem]
      refine cw_ret ⟨_, _, (by simp only [go_sem]; try exact rfl), by simp [go_sem], _, .inr (.inl rfl), ?_⟩
      rw [← hLs, List.take_of_length_le (by simp)]
      simp [keptRow]

theorem nrm_keptRow (n : Kept) : nrmL (keptRow n) = keptRow n := by
  have h1 : nrmR (n.node.data.map byteRow) = n.node.data.map byteRow := by rw [nrmR_map, List.map_map]; rfl
  have h2 : nrmR (n.node.entries.map entryRow) = n.node.entries.map entryRow := by rw [nrmR_map, List.map_map]; rfl
  simp only [keptRow, nrmL, nrm, h1, h2]
theorem nrm_kept (l : List Kept) : nrmR (l.map keptRow) = l.map keptRow := by
  rw [nrmR_map, List.map_map]
  exact List.map_congr_left fun k _ => nrm_keptRow k
theorem keep_ok (l : List Kept) (room : Int) (k : Kept) (hl : SmallK l) (hk : k.node.Small) : FnOK Try.prog 42 [.sl (l.map keptRow), .int .i64 room, .agg (keptRow k)] [] (fun r _ => r = keepR l room k) := by
  refine FnOK.nrmR (keep_raw l room k hl hk) ?_
  unfold keepRn keepR
  cases keepK l room k with
  | none => rfl
  | some L => simp only [nrm, nrmL, nrm_kept]
end La

namespace La
open Go Go.Eng

def mayGo (k : Kept) : Bool := !k.dirty && !(k.node.fid == 0)
theorem cmpI_cases (a b : Int) : (a < b ∧ cmpI a b = -1) ∨ (a = b ∧ cmpI a b = 0) ∨ (b < a ∧ cmpI a b = 1) := by
  unfold cmpI
  by_cases h : a < b
  · exact .inl ⟨h, if_pos h⟩
  · rw [if_neg h]
    by_cases h2 : b < a
    · exact .inr (.inr ⟨h2, if_pos h2⟩)
    · exact .inr (.inl ⟨by omega, if_neg h2⟩)
theorem cmpK_lt {a b : Kept} (h : cmpK a b < 0) : a.worth ≤ b.worth := by
  unfold cmpK orI at h
  rcases cmpI_cases a.worth b.worth with ⟨h1, h2⟩ | ⟨h1, h2⟩ | ⟨h1, h2⟩
  · omega
  · omega
  · rw [h2] at h; simp at h
theorem cmpK_ge {a b : Kept} (h : ¬ cmpK a b < 0) : b.worth ≤ a.worth := by
  unfold cmpK orI at h
  rcases cmpI_cases a.worth b.worth with ⟨h1, h2⟩ | ⟨h1, h2⟩ | ⟨h1, h2⟩
  · rw [h2] at h; simp at h
  · omega
  · omega
theorem worstAt_spec (l : List Kept) : ∀ i, (worstAt l i = none → ∀ j, j < i → mayGo (l.getD j default) = false) ∧
    ∀ b, worstAt l i = some b → mayGo (l.getD b default) = true ∧ ∀ j, j < i → mayGo (l.getD j default) = true → (l.getD b default).worth ≤ (l.getD j default).worth
  | 0 => ⟨fun _ j h => by omega, fun b h => by cases h⟩
  | i + 1 => by
    obtain ⟨ih1, ih2⟩ := worstAt_spec l i
    by_cases hd : ((l.getD i default).dirty || (l.getD i default).node.fid == 0) = true
    · have he : worstAt l (i + 1) = worstAt l i := by rw [worstAt, if_pos hd]
      have hm : mayGo (l.getD i default) = false := by
        unfold mayGo
        revert hd
        cases (l.getD i default).dirty <;> cases ((l.getD i default).node.fid == 0) <;> simp
      rw [he]
      refine ⟨fun h j hj => ?_, fun b h => ⟨(ih2 b h).1, fun j hj hg => ?_⟩⟩
      · by_cases e : j = i
        · subst e; exact hm
        · exact ih1 h j (by omega)
      · by_cases e : j = i
        · subst e; rw [hm] at hg; cases hg
        · exact (ih2 b h).2 j (by omega) hg
    · have hm : mayGo (l.getD i default) = true := by
        unfold mayGo
        revert hd
        cases (l.getD i default).dirty <;> cases ((l.getD i default).node.fid == 0) <;> simp
      have he : worstAt l (i + 1) = match worstAt l i with
        | none => some i
        | some b => if cmpK (l.getD i default) (l.getD b default) < 0 then some i else some b := by rw [worstAt, if_neg hd] <;> rfl
      rw [he]
      cases hw : worstAt l i with
      | none =>
        simp only
        refine ⟨fun h => (by cases h), fun b h => ?_⟩
        injection h with h
        subst h
        refine ⟨hm, fun j hj hg => ?_⟩
        by_cases e : j = i
        · subst e; exact Int.le_refl _
        · rw [ih1 hw j (by omega)] at hg; cases hg
      | some c =>
        simp only
        obtain ⟨k1, k2⟩ := ih2 c hw
        split
        · rename_i hlt
          refine ⟨fun h => (by cases h), fun b h => ?_⟩
          injection h with h
          subst h
          refine ⟨hm, fun j hj hg => ?_⟩
          by_cases e : j = i
          · subst e; exact Int.le_refl _
          · exact Int.le_trans (cmpK_lt hlt) (k2 j (by omega) hg)
        · rename_i hge
          refine ⟨fun h => (by cases h), fun b h => ?_⟩
          injection h with h
          subst h
          refine ⟨k1, fun j hj hg => ?_⟩
          by_cases e : j = i
          · subst e; exact cmpK_ge hge
          · exact k2 j (by omega) hg

theorem hasK_mem {l : List Kept} {k : Kept} (h : k ∈ l) : hasK l k.node.fid = true := by
  unfold hasK
  rw [List.any_eq_true]
  exact ⟨k, h, beq_self_eq_true _⟩
theorem kgetD_mem {l : List Kept} {i : Nat} (h : i < l.length) : l.getD i default ∈ l := getD_mem h

/-- what the law asks of what stays -/
structure Stays (l : List Kept) (room : Int) (k : Kept) (X : List Kept) : Prop where
  len : (X.length : Int) ≤ room
  short : X.length ≤ l.length + 1
  has : hasK X k.node.fid = true
  each : ∀ y, y ∈ l → hasK X y.node.fid = true ∨ (mayGo y = true ∧ ∀ z, z ∈ X → z.node.fid ≠ k.node.fid → mayGo z = true → y.worth ≤ z.worth)

theorem keep_none {l : List Kept} {room : Int} {k : Kept} (hr : (l.length : Int) ≤ room) (h : keepK l room k = none) : ∀ y, y ∈ l → mayGo y = false := by
  unfold keepK at h
  cases hp : kplace l k.node.fid with
  | some i => rw [hp] at h; cases h
  | none =>
    rw [hp] at h
    simp only [Option.map_eq_none_iff] at h
    rw [shrinkK] at h
    split at h
    · rename_i hge
      cases hw : worstK l with
      | none =>
        intro y hy
        obtain ⟨j, hj⟩ := List.getElem?_of_mem hy
        have hjl : j < l.length := (List.getElem?_eq_some_iff.1 hj).1
        have hjd : l.getD j default = y := by rw [List.getD_eq_getElem?_getD, hj]; rfl
        have := (worstAt_spec l l.length).1 hw j hjl
        rwa [hjd] at this
      | some i =>
        rw [hw] at h
        simp only at h
        have hi : i < l.length := worstAt_lt l l.length i hw
        have hE : (l.eraseIdx i).length = l.length - 1 := by rw [List.length_eraseIdx, if_pos hi]
        obtain ⟨f, hf⟩ : ∃ f, l.length = f + 1 := ⟨l.length - 1, by omega⟩
        rw [hf, shrinkK, if_neg (by rw [hE]; omega)] at h
        cases h
    · cases h

theorem keep_some {l : List Kept} {room : Int} {k : Kept} {X : List Kept} (hr : (l.length : Int) ≤ room) (h : keepK l room k = some X) : Stays l room k X := by
  unfold keepK at h
  cases hp : kplace l k.node.fid with
  | some i =>
    rw [hp] at h
    simp only [Option.some.injEq] at h
    subst h
    have hi := kplace_lt hp
    have hif : (l.getD i default).node.fid = k.node.fid := by
      obtain ⟨h1, h2, _⟩ := List.findIdx?_eq_some_iff_getElem.1 hp
      rw [List.getD_eq_getElem?_getD, List.getElem?_eq_getElem h1]
      exact of_decide_eq_true h2
    have hk : hasK (l.set i { k with worth := maxI k.worth (l.getD i default).worth }) k.node.fid = true :=
      hasK_mem (k := { k with worth := maxI k.worth (l.getD i default).worth }) (List.mem_iff_getElem.2 ⟨i, by simpa using hi, by simp⟩)
    refine ⟨by simpa using hr, by simp, hk, fun y hy => .inl ?_⟩
    obtain ⟨j, hj⟩ := List.getElem?_of_mem hy
    have hjl : j < l.length := (List.getElem?_eq_some_iff.1 hj).1
    by_cases e : j = i
    · subst e
      have hjd : l.getD j default = y := by rw [List.getD_eq_getElem?_getD, hj]; rfl
      rw [← hjd, hif]; rw [hjd] at hk ⊢; exact hk
    · refine hasK_mem (List.mem_iff_getElem?.2 ⟨j, ?_⟩)
      rw [List.getElem?_set_ne (fun h => e h.symm)]; exact hj
  | none =>
    rw [hp] at h
    simp only [Option.map_eq_some_iff] at h
    obtain ⟨L, h, rfl⟩ := h
    have hk : hasK (L ++ [k]) k.node.fid = true := hasK_mem (by simp)
    rw [shrinkK] at h
    split at h
    · rename_i hge
      cases hw : worstK l with
      | none => rw [hw] at h; cases h
      | some i =>
        rw [hw] at h
        simp only at h
        have hi : i < l.length := worstAt_lt l l.length i hw
        have hE : (l.eraseIdx i).length = l.length - 1 := by rw [List.length_eraseIdx, if_pos hi]
        obtain ⟨f, hf⟩ : ∃ f, l.length = f + 1 := ⟨l.length - 1, by omega⟩
        rw [hf, shrinkK, if_neg (by rw [hE]; omega)] at h
        injection h with h
        subst h
        obtain ⟨w1, w2⟩ := (worstAt_spec l l.length).2 i hw
        refine ⟨by rw [List.length_append, hE]; simp; omega, by rw [List.length_append, hE]; simp, hk, fun y hy => ?_⟩
        obtain ⟨j, hj⟩ := List.getElem?_of_mem hy
        have hjl : j < l.length := (List.getElem?_eq_some_iff.1 hj).1
        have hjd : l.getD j default = y := by rw [List.getD_eq_getElem?_getD, hj]; rfl
        by_cases e : j = i
        · subst e
          rw [hjd] at w1 w2
          refine .inr ⟨w1, fun z hz hzk hzm => ?_⟩
          rcases List.mem_append.1 hz with hz | hz
          · obtain ⟨m, hm⟩ := List.getElem?_of_mem (List.mem_of_mem_eraseIdx hz)
            have hml : m < l.length := (List.getElem?_eq_some_iff.1 hm).1
            have hmd : l.getD m default = z := by rw [List.getD_eq_getElem?_getD, hm]; rfl
            have := w2 m hml (by rw [hmd]; exact hzm)
            rwa [hmd] at this
          · rw [List.mem_singleton.1 hz] at hzk
            exact absurd rfl hzk
        · refine .inl (hasK_mem (List.mem_append_left _ ?_))
          refine List.mem_eraseIdx_iff_getElem?.2 ⟨j, e, hj⟩
    · injection h with h
      subst h
      refine ⟨by rw [List.length_append]; simp; omega, by simp, hk, fun y hy => .inl (hasK_mem (List.mem_append_left _ hy))⟩
end La

namespace La
open Go Go.Eng Go.Proofs
set_option maxRecDepth 10000
set_option linter.unusedSimpArgs false
set_option linter.unusedVariables false

theorem tcmp_ok (a b : Node) : FnOK Try.prog 107 [.agg (nodeRow a), .agg (nodeRow b)] [] (fun r _ => r = .int .i64 (cmpI a.fid b.fid)) := by
  unfold nodeRow
  refine fn_of_cwW tabOK (Go.Proofs.Try.func107) rfl (fun C => ?_)
  simp only [Go.Proofs.Try.ntmps107, Go.Proofs.Try.results107, go_sem]
  refine cw_go tabOK 99 (by simp only [go_sem]; try exact rfl) (by simp [go_sem]) ?_
  refine cw_call rfl rfl (by simp only [go_sem]; try exact rfl) (by simp [go_sem]) ⟨_, Go.Proofs.Try.func108, by kernel_rfl, rfl⟩ (by simp [go_sem]) (compare_ok a.fid b.fid) (by simp [go_sem]) (by simp only [go_sem]; exact rfl) ?_
  refine cw_go tabOK 99 (by simp only [go_sem]; try exact rfl) (by simp [go_sem]) ?_
  refine cw_ret ⟨_, _, (by simp only [go_sem]; try exact rfl), by simp [go_sem], _, .inr (.inl rfl), ?_⟩
  rfl
def UpN (l : List Node) : Prop := ∀ i, 0 < i → i < l.length → (l.getD (i - 1) default).fid ≤ (l.getD i default).fid
theorem insort_up (l : List Node) (hl : UpN l) (hlen : l.length ≤ 100000000) : FnOK Try.prog 161 [.sl (l.map nodeRow), .int .i64 0, .int .i64 l.length, .fn 107 []] [] (fun r _ => r = .tup []) := by
  refine fn_of_cwW tabOK (Go.Proofs.Try.func161) rfl (fun C => ?_)
  simp only [Go.Proofs.Try.ntmps161, Go.Proofs.Try.results161, go_sem]
  refine cw_go tabOK 99 (by simp only [go_sem]; try exact rfl) (by simp [go_sem]) ?_
  refine cw_loopS (fun i : Nat => 0 < i ∧ (i ≤ l.length ∨ i = 1)) (fun i => l.length + 1 - i) (fun i => [(8, .int .i64 i), (9, .any), (12, .any), (13, .any), (14, .any), (15, .any), (16, .any), (17, .any), (18, .any), (19, .any), (20, .any), (21, .any), (22, .any), (23, .any), (24, .any), (25, .any), (26, .any), (27, .any), (28, .any), (29, .any), (30, .any), (31, .any), (32, .any), (33, .any), (34, .any), (35, .any), (36, .any), (37, .any), (38, .any), (39, .any), (40, .any), (41, .any), (42, .any), (43, .any), (44, .any), (45, .any), (46, .any), (47, .any), (48, .any), (49, .any), (50, .any), (51, .any), (52, .any)]) (fun _ => []) 1 (by omega) ?_ fun i hi => ?_
  · simp only [go_sem]
    exact le_sub (by simp [go_sem]; decide) (by simp [go_sem]) (by simp [go_sem])
  obtain ⟨hi0, hi⟩ := hi
  simp only [go_sem]
  refine cw_go tabOK 99 (by simp only [go_sem]; try exact rfl) (by simp [go_sem]) ?_
  refine cw_cond (by simp only [go_sem]; try exact rfl) trivial (fun h => ?_) (fun h => ?_)
  · have hlt : i < l.length := by simp at h; omega
    have hw : IntKind.i64.wrap ((i : Int) + 1) = ((i + 1 : Nat) : Int) := by rw [Eng.wrap_small (by omega) (by omega)]; rfl
    have hwm : IntKind.i64.wrap ((i : Int) - 1) = ((i - 1 : Nat) : Int) := by rw [Eng.wrap_small (by omega) (by omega)]; omega
    have hup := hl i hi0 hlt
    have hg : (l.map nodeRow).getD i [] = nodeRow (l.getD i default) := Fam.getD hlt
    have hgm : (l.map nodeRow).getD (i - 1) [] = nodeRow (l.getD (i - 1) default) := Fam.getD (by omega)
    generalize l.getD i default = x at *
    generalize l.getD (i - 1) default = y at *
    refine cw_go tabOK 99 (by simp only [go_sem]; try exact rfl) (by simp [go_sem]) ?_
    refine cw_loopS (fun _ : Unit => True) (fun _ => 0) (fun _ => [(18, .any), (19, .any), (20, .any), (21, .any), (22, .any), (23, .any), (24, .any), (25, .any), (26, .any), (27, .any), (28, .any), (29, .any), (30, .any), (31, .any), (32, .any), (33, .any), (34, .any), (35, .any), (36, .any), (37, .any), (38, .any), (39, .any), (40, .any), (41, .any), (42, .any), (43, .any), (44, .any), (45, .any), (46, .any), (47, .any), (48, .any), (49, .any), (50, .any), (51, .any), (52, .any)]) (fun _ => []) () trivial ?_ fun _ _ => ?_
    · simp only [go_sem]
      exact le_sub (by simp [go_sem]) (by simp [go_sem]) (by simp [go_sem])
    simp only [go_sem]
    refine cw_go tabOK 99 (by simp only [go_sem]; try exact rfl) (by simp [go_sem]) ?_
    refine cw_draw mixed ?_
    refine seg_start rfl ?_
    refine seg_runN tabOK 4 (by simp only [go_sem]; exact rfl) (by simp only [go_sem]; exact rfl) (by simp only [go_sem]; try exact rfl) (by simp [go_sem]) (by simp only [go_sem]; exact rfl) ?_
    refine seg_name 21 (by simp only [go_sem]; exact rfl) (fun c21 h21 => ?_)
    simp only [go_sem]
    have hc : c21 = true := by rw [← h21]; simp; omega
    subst hc
    refine seg_runN tabOK 10 (by simp only [go_sem]; exact rfl) (by simp only [go_sem]; exact rfl) (by simp only [go_sem, hg, hgm, hwm, nodeRow]; try exact rfl) ?_ (by simp only [go_sem]; exact rfl) ?_
    · simp [hg, hgm, hwm, nodeRow, hlt]; omega
    refine seg_callC rfl (by simp only [go_sem]; try exact rfl) (by simp only [go_sem]; try exact rfl) (by simp [go_sem]) ⟨_, Go.Proofs.Try.func107, by kernel_rfl, rfl⟩ (by simp [go_sem]) (fun hb => (tcmp_ok x y)) (by simp [go_sem]) (by simp only [go_sem]; exact rfl) (by simp only [go_sem]; exact rfl) ?_
    refine seg_runN tabOK 2 (by simp only [go_sem]; exact rfl) (by simp only [go_sem]; exact rfl) (by simp only [go_sem]; try exact rfl) (by simp [go_sem]) (by simp only [go_sem]; exact rfl) ?_
    refine seg_end (by kernel_rfl) (by simp only [go_sem]; exact rfl) ?_
    refine draw_close (by kernel_rfl) ?_
    refine cw_condF (by simp only [go_sem]; try exact rfl) trivial (by rw [cmpI_lt]; simp; exact hup) ?_
    refine cw_go tabOK 99 (by simp only [go_sem, hw]; try exact rfl) (by simp [go_sem, hw]) ?_
    refine cw_back ⟨i + 1, by omega, by omega, le_sub ?_ ?_ ?_⟩
    · simp [go_sem]
    · simp [go_sem]
    · simp [go_sem]
  · refine cw_go tabOK 99 (by simp only [go_sem]; try exact rfl) (by simp [go_sem]) ?_
    refine cw_nil ⟨_, _, rfl, trivial, .tup [], .inr (.inl rfl), rfl⟩

theorem len64_two : FnOK Try.prog 170 [.int .u64 2] [] (fun r _ => r = .int .i64 2) := by
  refine fn_of_cwW tabOK (Go.Proofs.Try.func170) rfl (fun C => ?_)
  simp only [Go.Proofs.Try.ntmps170, Go.Proofs.Try.results170, go_sem]
  refine cw_go tabOK 99 (by simp only [go_sem]; try exact rfl) (by simp [go_sem]) ?_
  refine cw_condF (by simp only [go_sem]; try exact rfl) trivial (by simp) ?_
  refine cw_go tabOK 99 (by simp only [go_sem]; try exact rfl) (by simp [go_sem]) ?_
  refine cw_condF (by simp only [go_sem]; try exact rfl) trivial (by simp) ?_
  refine cw_go tabOK 99 (by simp only [go_sem]; try exact rfl) (by simp [go_sem]) ?_
  refine cw_condF (by simp only [go_sem]; try exact rfl) trivial (by simp) ?_
  refine cw_goR 99 (by simp only [go_sem]; try exact rfl) ?_
  refine cw_runN tabOK 3 (by simp only [go_sem]; exact rfl) (by simp only [go_sem]; exact rfl) (by simp only [go_sem]; try exact rfl) (by simp [go_sem]) ?_
  refine cw_runN tabOK 1 (by simp only [go_sem]; exact rfl) (by simp only [go_sem]; exact rfl) (by simp only [go_sem]; try exact rfl) ?_ ?_
  · decide
  refine cw_go tabOK 99 (by simp only [go_sem]; try exact rfl) (by simp [go_sem]) ?_
  refine cw_ret ⟨_, _, (by simp only [go_sem]; try exact rfl), by simp [go_sem], _, .inr (.inl rfl), ?_⟩
  rfl
theorem len_two : FnOK Try.prog 152 [.int .u64 2] [] (fun r _ => r = .int .i64 2) := by
  refine fn_of_cwW tabOK (Go.Proofs.Try.func152) rfl (fun C => ?_)
  simp only [Go.Proofs.Try.ntmps152, Go.Proofs.Try.results152, go_sem]
  refine cw_go tabOK 99 (by simp only [go_sem]; try exact rfl) (by simp [go_sem]) ?_
  refine cw_condF (by simp only [go_sem]; try exact rfl) trivial (rfl) ?_
  refine cw_go tabOK 99 (by simp only [go_sem]; try exact rfl) (by simp [go_sem]) ?_
  refine cw_call rfl rfl (by simp only [go_sem]; try exact rfl) (by simp [go_sem]) ⟨_, Go.Proofs.Try.func170, by kernel_rfl, rfl⟩ (by simp [go_sem]) (len64_two) (by simp [go_sem]) (by simp only [go_sem]; exact rfl) ?_
  refine cw_go tabOK 99 (by simp only [go_sem]; try exact rfl) (by simp [go_sem]) ?_
  refine cw_ret ⟨_, _, (by simp only [go_sem]; try exact rfl), by simp [go_sem], _, .inr (.inl rfl), ?_⟩
  rfl
theorem pdq_up (l : List Node) (hl : UpN l) (hlen : l.length ≤ 12) (lim : Int) : FnOK Try.prog 151 [.sl (l.map nodeRow), .int .i64 0, .int .i64 l.length, .int .i64 lim, .fn 107 []] [] (fun r _ => r = .tup []) := by
  have hw : IntKind.i64.wrap ((l.length : Int) - 0) = (l.length : Int) := by rw [Eng.wrap_small (by omega) (by omega)]; omega
  refine fn_of_cwW tabOK (Go.Proofs.Try.func151) rfl (fun C => ?_)
  simp only [Go.Proofs.Try.ntmps151, Go.Proofs.Try.results151, go_sem]
  refine cw_go tabOK 99 (by simp only [go_sem]; try exact rfl) (by simp [go_sem]) ?_
  refine cw_loopS (fun _ : Unit => True) (fun _ => 0) (fun _ => []) (fun _ => []) () trivial ?_ fun _ _ => ?_
  · simp only [go_sem]
    exact le_sub (by simp [go_sem]) (by simp [go_sem]) (by simp [go_sem])
  simp only [go_sem]
  refine cw_go tabOK 99 (by simp only [go_sem, hw]; try exact rfl) (by simp [go_sem, hw]) ?_
  refine cw_condT (by simp only [go_sem]; try exact rfl) trivial (by simp; omega) ?_
  refine cw_go tabOK 99 (by simp only [go_sem]; try exact rfl) (by simp [go_sem]) ?_
  refine cw_call rfl rfl (by simp only [go_sem]; try exact rfl) (by simp [go_sem]) ⟨_, Go.Proofs.Try.func161, by kernel_rfl, rfl⟩ (by simp [go_sem]) (insort_up l hl (by omega)) (by simp [go_sem]) (by simp only [go_sem]; exact rfl) ?_
  refine cw_go tabOK 99 (by simp only [go_sem]; try exact rfl) (by simp [go_sem]) ?_
  refine cw_ret ⟨_, _, rfl, trivial, .tup [], .inr (.inl rfl), rfl⟩
theorem sort_two (l : List Node) (hl : UpN l) (hlen : l.length = 2) : FnOK Try.prog 106 [.sl (l.map nodeRow), .fn 107 []] [] (fun r _ => r = .tup []) := by
  have hp := pdq_up l hl (by omega) 2
  rw [hlen] at hp
  refine fn_of_cwW tabOK (Go.Proofs.Try.func106) rfl (fun C => ?_)
  simp only [Go.Proofs.Try.ntmps106, Go.Proofs.Try.results106, go_sem]
  refine cw_go tabOK 99 (by simp only [go_sem]; try exact rfl) (by simp [go_sem]) ?_
  have hu : IntKind.u64.wrap ((2 : Nat) : Int) = 2 := by decide
  rw [hlen, hu]
  refine cw_call rfl rfl (by simp only [go_sem]; try exact rfl) (by simp [go_sem]) ⟨_, Go.Proofs.Try.func152, by kernel_rfl, rfl⟩ (by simp [go_sem]) (len_two) (by simp [go_sem]) (by simp only [go_sem]; exact rfl) ?_
  refine cw_go tabOK 99 (by simp only [go_sem]; try exact rfl) (by simp [go_sem]) ?_
  refine cw_call rfl rfl (by simp only [go_sem]; try exact rfl) (by simp [go_sem]) ⟨_, Go.Proofs.Try.func151, by kernel_rfl, rfl⟩ (by simp [go_sem]) (hp) (by simp [go_sem]) (by simp only [go_sem]; exact rfl) ?_
  refine cw_go tabOK 99 (by simp only [go_sem]; try exact rfl) (by simp [go_sem]) ?_
  refine cw_nil ⟨_, _, rfl, trivial, .tup [], .inr (.inl rfl), rfl⟩

def nodesK (l : List Kept) : List Node := l.map (·.node)
theorem nodesK_take (l : List Kept) (i : Nat) (h : i < l.length) : (nodesK l).take (i + 1) = (nodesK l).take i ++ [(l.getD i default).node] := by
  unfold nodesK
  rw [← List.map_take, ← List.map_take, List.take_succ_eq_append_getElem h, List.map_append]
  rw [List.getD_eq_getElem?_getD, List.getElem?_eq_getElem h]; rfl
theorem ctree_two (l : List Kept) (hl : SmallK l) (hup : UpN (nodesK l)) (hlen : l.length = 2) : FnOK Try.prog 46 [.sl (l.map keptRow)] [] (fun r _ => r = .sl ((nodesK l).map nodeRow)) := by
  have hnl : (nodesK l).length = l.length := by simp [nodesK]
  have hns : Small (nodesK l) := ⟨by omega, fun n hn => by
    obtain ⟨k, hk, rfl⟩ := List.mem_map.1 hn
    exact hl.each k hk⟩
  refine fn_of_cwW tabOK (Go.Proofs.Try.func46) rfl (fun C => ?_)
  simp only [Go.Proofs.Try.ntmps46, Go.Proofs.Try.results46, go_sem]
  refine cw_go tabOK 99 (by simp only [go_sem]; try exact rfl) (by simp [go_sem]) ?_
  refine cw_loopS (fun i : Nat => i ≤ l.length) (fun i => l.length - i) (fun i => [(3, .osl 16 5 0 i), (5, .any), (8, .int .i64 i), (9, .any), (10, .any), (11, .any), (12, .any), (13, .any), (14, .any), (15, .any), (16, .any), (17, .any)])
    (fun i => [(16, .cells 46 5 (((nodesK l).take i).map nodeRow))]) 0 (by omega) ?_ fun i hi => ?_
  · simp only [go_sem]
    exact le_sub (by simp [go_sem]) (by simp [go_sem]) (by simp only [go_sem])
  simp only [go_sem]
  refine cw_go tabOK 99 (by simp only [go_sem]; try exact rfl) (by simp [go_sem]) ?_
  refine cw_cond (by simp only [go_sem]; try exact rfl) trivial (fun h => ?_) (fun h => ?_)
  · have hlt : i < l.length := by simp at h; omega
    have hg : (l.map keptRow).getD i [] = keptRow (l.getD i default) := Fam.getD hlt
    have hs := nodesK_take l i hlt
    generalize l.getD i default = n at hg hs
    have ht : List.take i (List.map nodeRow (List.take i (nodesK l))) = List.map nodeRow (List.take i (nodesK l)) := List.take_of_length_le (by simp; omega)
    have hw : IntKind.i64.wrap ((i : Int) + 1) = (i : Int) + 1 := wrap_small (by omega) (by omega)
    refine cw_go tabOK 99 (by simp only [go_sem, hg, keptRow, ht, hw]; try exact rfl) ?_ ?_
    · simp [hlt, keptRow, rowsOf]; omega
    refine cw_back ⟨i + 1, by omega, by omega, le_sub ?_ ?_ ?_⟩
    · simp [go_sem]
    · simp [go_sem, hs, nodeRow]
    · simp only [go_sem]
  · have e : i = l.length := by simp at h; omega
    subst e
    refine cw_go tabOK 99 (by simp only [go_sem]; try exact rfl) (by simp [go_sem]) ?_
    refine cw_freeze 16 rfl (nodeRow_pure _) ?_
    rw [← hnl, List.take_length]
    simp only [go_sem]
    refine cw_call rfl rfl (by simp only [go_sem]; try exact rfl) (by simp [go_sem]) ⟨_, Go.Proofs.Try.func86, by kernel_rfl, rfl⟩ (by simp [go_sem]) (own_ok _ hns) (by simp [go_sem]) (by simp only [go_sem]; exact rfl) ?_
    refine cw_go tabOK 99 (by simp only [go_sem]; try exact rfl) (by simp [go_sem]) ?_
    refine cw_call rfl rfl (by simp only [go_sem]; try exact rfl) (by simp [go_sem]) ⟨_, Go.Proofs.Try.func106, by kernel_rfl, rfl⟩ (by simp [go_sem]) (sort_two _ hup (by omega)) (by simp [go_sem]) (by simp only [go_sem]; exact rfl) ?_
    refine cw_go tabOK 99 (by simp only [go_sem]; try exact rfl) (by simp [go_sem]) ?_
    refine cw_ret ⟨_, _, (by simp only [go_sem]; try exact rfl), by simp [go_sem], _, .inr (.inl rfl), ?_⟩
    rfl
end La

namespace La
open Go Go.Eng Go.Proofs
set_option maxRecDepth 10000
set_option linter.unusedSimpArgs false
set_option linter.unusedVariables false

theorem cmpI_neg {a b : Int} : cmpI a b < 0 ↔ a < b := by rcases cmpI_cases a b with ⟨h, e⟩ | ⟨h, e⟩ | ⟨h, e⟩ <;> rw [e] <;> omega
theorem cmpI_zero {a b : Int} : cmpI a b = 0 ↔ a = b := by rcases cmpI_cases a b with ⟨h, e⟩ | ⟨h, e⟩ | ⟨h, e⟩ <;> rw [e] <;> omega
theorem cmpK_iff {a b : Kept} : cmpK a b < 0 ↔ (a.worth ≠ b.worth ∧ a.worth < b.worth) ∨ (a.worth = b.worth ∧ ((a.last ≠ b.last ∧ a.last < b.last) ∨ (a.last = b.last ∧ a.node.fid < b.node.fid))) := by
  unfold cmpK orI
  by_cases h1 : a.worth = b.worth
  · rw [if_neg (by simp [cmpI_zero, h1])]
    by_cases h2 : a.last = b.last
    · rw [if_neg (by simp [cmpI_zero, h2]), cmpI_neg]; simp [h1, h2]
    · rw [if_pos (by simp [cmpI_zero, h2]), cmpI_neg]; simp [h1, h2]
  · rw [if_pos (by simp [cmpI_zero, h1]), cmpI_neg]; simp [h1]

theorem worse_ok (a b : Kept) : FnOK Try.prog 50 [.agg (keptRow a), .agg (keptRow b)] [] (fun r _ => r = .bool (decide (cmpK a b < 0))) := by
  have hk := @cmpK_iff a b
  unfold keptRow
  refine fn_of_cwW tabOK (Go.Proofs.Try.func50) rfl (fun C => ?_)
  simp only [Go.Proofs.Try.ntmps50, Go.Proofs.Try.results50, go_sem]
  refine cw_go tabOK 99 (by simp only [go_sem]; try exact rfl) (by simp [go_sem]) ?_
  refine cw_cond (by simp only [go_sem]; try exact rfl) trivial (fun h => ?_) (fun h => ?_)
  · have h1 : a.worth ≠ b.worth := by simpa using h
    refine cw_go tabOK 99 (by simp only [go_sem]; try exact rfl) (by simp [go_sem]) ?_
    refine cw_ret ⟨_, _, (by simp only [go_sem]; try exact rfl), by simp [go_sem], _, .inr (.inl rfl), ?_⟩
    simp [hk, h1]
  have h1 : a.worth = b.worth := by simpa using h
  refine cw_go tabOK 99 (by simp only [go_sem]; try exact rfl) (by simp [go_sem]) ?_
  refine cw_cond (by simp only [go_sem]; try exact rfl) trivial (fun h => ?_) (fun h => ?_)
  · have h2 : a.last ≠ b.last := by simpa using h
    refine cw_go tabOK 99 (by simp only [go_sem]; try exact rfl) (by simp [go_sem]) ?_
    refine cw_ret ⟨_, _, (by simp only [go_sem]; try exact rfl), by simp [go_sem], _, .inr (.inl rfl), ?_⟩
    simp [hk, h1, h2]
  have h2 : a.last = b.last := by simpa using h
  refine cw_go tabOK 99 (by simp only [go_sem]; try exact rfl) (by simp [go_sem]) ?_
  refine cw_ret ⟨_, _, (by simp only [go_sem]; try exact rfl), by simp [go_sem], _, .inr (.inl rfl), ?_⟩
  simp [hk, h1, h2]

theorem sameN_eq (x y : Node) : sameN true x y = decide (x = y) := by
  obtain ⟨a, b, c, d, e⟩ := x
  obtain ⟨a', b', c', d', e'⟩ := y
  rw [Bool.eq_iff_iff]
  simp [sameN, and_assoc]

set_option maxHeartbeats 2000000 in
theorem sameKept_ok (a b : List Kept) (ha : SmallK a) (hb : SmallK b) : FnOK Try.prog 44 [.sl (a.map keptRow), .sl (b.map keptRow)] [] (fun r _ => r = .bool (decide (a = b))) := by
  have hal := ha.len
  have hbl := hb.len
  refine fn_of_cwW tabOK (Go.Proofs.Try.func44) rfl (fun C => ?_)
  simp only [Go.Proofs.Try.ntmps44, Go.Proofs.Try.results44, go_sem]
  refine cw_go tabOK 99 (by simp only [go_sem]; try exact rfl) (by simp [go_sem]) ?_
  refine cw_cond (by simp only [go_sem]; try exact rfl) trivial (fun h => ?_) (fun h => ?_)
  · refine cw_go tabOK 99 (by simp only [go_sem]; try exact rfl) (by simp [go_sem]) ?_
    refine cw_ret ⟨_, _, (by simp only [go_sem]; try exact rfl), by simp [go_sem], _, .inr (.inl rfl), ?_⟩
    have hne : a ≠ b := by rintro rfl; simp at h
    simp [hne]
  have hl : a.length = b.length := by simp at h; omega
  refine cw_go tabOK 99 (by simp only [go_sem]; try exact rfl) (by simp [go_sem]) ?_
  refine cw_loopS (fun i : Nat => i ≤ a.length ∧ a.take i = b.take i) (fun i => a.length - i) (fun i => [(13, .int .i64 i), (5, .any), (14, .any), (15, .any), (16, .any), (17, .any), (18, .any), (19, .any), (20, .any), (21, .any), (22, .any), (23, .any), (24, .any), (25, .any), (26, .any), (27, .any), (28, .any), (29, .any), (30, .any), (31, .any), (32, .any), (33, .any), (34, .any), (35, .any), (36, .any), (37, .any), (38, .any), (39, .any), (40, .any), (41, .any), (42, .any), (43, .any), (44, .any), (45, .any), (46, .any), (47, .any), (48, .any), (49, .any), (50, .any), (51, .any), (52, .any), (53, .any), (54, .any), (55, .any), (56, .any), (57, .any), (58, .any), (59, .any), (60, .any), (61, .any), (62, .any), (63, .any), (64, .any), (65, .any), (66, .any), (67, .any)]) (fun _ => []) 0 ⟨by omega, rfl⟩ ?_ fun i hi => ?_
  · simp only [go_sem]
    exact le_sub (by simp [go_sem]) (by simp [go_sem]) (by simp only [go_sem])
  obtain ⟨hi, ht⟩ := hi
  simp only [go_sem]
  refine cw_go tabOK 99 (by simp only [go_sem]; try exact rfl) (by simp [go_sem]) ?_
  refine cw_cond (by simp only [go_sem]; try exact rfl) trivial (fun h => ?_) (fun h => ?_)
  · have hlt : i < a.length := by simp at h; omega
    have hltb : i < b.length := by omega
    have hg : (a.map keptRow).getD i [] = keptRow (a.getD i default) := Fam.getD hlt
    have hgb : (b.map keptRow).getD i [] = keptRow (b.getD i default) := Fam.getD hltb
    have hxs := ha.each _ (getD_mem hlt)
    have hys := hb.each _ (getD_mem hltb)
    refine cw_go tabOK 99 (by simp only [go_sem]; try exact rfl) (by simp [go_sem]) ?_
    refine cw_draw mixed ?_
    refine seg_start rfl ?_
    have ga := take_succ_getD hlt
    have gb := take_succ_getD hltb
    generalize a.getD i default = x at hg ga hxs
    generalize b.getD i default = y at hgb gb hys
    have hsn := sameNode_ok x.node y.node true hxs hys
    rw [sameN_eq] at hsn
    unfold nodeRow at hsn
    refine seg_runN tabOK 1 (by simp only [go_sem]; exact rfl) (by simp only [go_sem]; exact rfl) (by simp only [go_sem, hlt, hltb, hg, hgb, keptRow]; try exact rfl) (by simp [go_sem, hlt, hltb, hg, hgb, keptRow]) (by simp only [go_sem]; exact rfl) ?_
    refine seg_runN tabOK 1 (by simp only [go_sem]; exact rfl) (by simp only [go_sem]; exact rfl) (by simp only [go_sem, hlt, hltb, hg, hgb, keptRow]; try exact rfl) (by simp [go_sem, hlt, hltb, hg, hgb, keptRow]) (by simp only [go_sem]; exact rfl) ?_
    refine seg_runN tabOK 1 (by simp only [go_sem]; exact rfl) (by simp only [go_sem]; exact rfl) (by simp only [go_sem, hlt, hltb, hg, hgb, keptRow]; try exact rfl) (by simp [go_sem, hlt, hltb, hg, hgb, keptRow]) (by simp only [go_sem]; exact rfl) ?_
    refine seg_runN tabOK 1 (by simp only [go_sem]; exact rfl) (by simp only [go_sem]; exact rfl) (by simp only [go_sem, hlt, hltb, hg, hgb, keptRow]; try exact rfl) (by simp [go_sem, hlt, hltb, hg, hgb, keptRow]) (by simp only [go_sem]; exact rfl) ?_
    refine seg_runN tabOK 1 (by simp only [go_sem]; exact rfl) (by simp only [go_sem]; exact rfl) (by simp only [go_sem, hlt, hltb, hg, hgb, keptRow]; try exact rfl) (by simp [go_sem, hlt, hltb, hg, hgb, keptRow]) (by simp only [go_sem]; exact rfl) ?_
    refine seg_runN tabOK 1 (by simp only [go_sem]; exact rfl) (by simp only [go_sem]; exact rfl) (by simp only [go_sem, hlt, hltb, hg, hgb, keptRow]; try exact rfl) (by simp [go_sem, hlt, hltb, hg, hgb, keptRow]) (by simp only [go_sem]; exact rfl) ?_
    refine seg_runN tabOK 1 (by simp only [go_sem]; exact rfl) (by simp only [go_sem]; exact rfl) (by simp only [go_sem, hlt, hltb, hg, hgb, keptRow]; try exact rfl) (by simp [go_sem, hlt, hltb, hg, hgb, keptRow]) (by simp only [go_sem]; exact rfl) ?_
    refine seg_runN tabOK 1 (by simp only [go_sem]; exact rfl) (by simp only [go_sem]; exact rfl) (by simp only [go_sem, hlt, hltb, hg, hgb, keptRow]; try exact rfl) (by simp [go_sem, hlt, hltb, hg, hgb, keptRow]) (by simp only [go_sem]; exact rfl) ?_
    refine seg_runN tabOK 1 (by simp only [go_sem]; exact rfl) (by simp only [go_sem]; exact rfl) (by simp only [go_sem, hlt, hltb, hg, hgb, keptRow]; try exact rfl) (by simp [go_sem, hlt, hltb, hg, hgb, keptRow]) (by simp only [go_sem]; exact rfl) ?_
    refine seg_runN tabOK 1 (by simp only [go_sem]; exact rfl) (by simp only [go_sem]; exact rfl) (by simp only [go_sem, hlt, hltb, hg, hgb, keptRow]; try exact rfl) (by simp [go_sem, hlt, hltb, hg, hgb, keptRow]) (by simp only [go_sem]; exact rfl) ?_
    refine seg_call rfl rfl (by simp only [go_sem]; try exact rfl) (by simp [go_sem]) ⟨_, Go.Proofs.Try.func34, by kernel_rfl, rfl⟩ (by simp [go_sem]) (hsn) (by simp [go_sem]) (by simp only [go_sem]; exact rfl) (by simp only [go_sem]; exact rfl) ?_
    generalize h0 : decide (x.node = y.node) = c0
    refine seg_runN tabOK 1 (by simp only [go_sem]; exact rfl) (by simp only [go_sem]; exact rfl) (by simp only [go_sem, hlt, hltb, hg, hgb, keptRow]; try exact rfl) (by simp [go_sem, hlt, hltb, hg, hgb, keptRow]) (by simp only [go_sem]; exact rfl) ?_
    refine seg_runN tabOK 1 (by simp only [go_sem]; exact rfl) (by simp only [go_sem]; exact rfl) (by simp only [go_sem, hlt, hltb, hg, hgb, keptRow]; try exact rfl) (by simp [go_sem, hlt, hltb, hg, hgb, keptRow]) (by simp only [go_sem]; exact rfl) ?_
    refine seg_runN tabOK 1 (by simp only [go_sem]; exact rfl) (by simp only [go_sem]; exact rfl) (by simp only [go_sem, hlt, hltb, hg, hgb, keptRow]; try exact rfl) (by simp [go_sem, hlt, hltb, hg, hgb, keptRow]) (by simp only [go_sem]; exact rfl) ?_
    refine seg_runN tabOK 1 (by simp only [go_sem]; exact rfl) (by simp only [go_sem]; exact rfl) (by simp only [go_sem, hlt, hltb, hg, hgb, keptRow]; try exact rfl) (by simp [go_sem, hlt, hltb, hg, hgb, keptRow]) (by simp only [go_sem]; exact rfl) ?_
    refine seg_runN tabOK 1 (by simp only [go_sem]; exact rfl) (by simp only [go_sem]; exact rfl) (by simp only [go_sem, hlt, hltb, hg, hgb, keptRow]; try exact rfl) (by simp [go_sem, hlt, hltb, hg, hgb, keptRow]) (by simp only [go_sem]; exact rfl) ?_
    refine seg_runN tabOK 1 (by simp only [go_sem]; exact rfl) (by simp only [go_sem]; exact rfl) (by simp only [go_sem, hlt, hltb, hg, hgb, keptRow]; try exact rfl) (by simp [go_sem, hlt, hltb, hg, hgb, keptRow]) (by simp only [go_sem]; exact rfl) ?_
    refine seg_runN tabOK 1 (by simp only [go_sem]; exact rfl) (by simp only [go_sem]; exact rfl) (by simp only [go_sem, hlt, hltb, hg, hgb, keptRow]; try exact rfl) (by simp [go_sem, hlt, hltb, hg, hgb, keptRow]) (by simp only [go_sem]; exact rfl) ?_
    refine seg_runN tabOK 1 (by simp only [go_sem]; exact rfl) (by simp only [go_sem]; exact rfl) (by simp only [go_sem, hlt, hltb, hg, hgb, keptRow]; try exact rfl) (by simp [go_sem, hlt, hltb, hg, hgb, keptRow]) (by simp only [go_sem]; exact rfl) ?_
    refine seg_runN tabOK 1 (by simp only [go_sem]; exact rfl) (by simp only [go_sem]; exact rfl) (by simp only [go_sem, hlt, hltb, hg, hgb, keptRow]; try exact rfl) (by simp [go_sem, hlt, hltb, hg, hgb, keptRow]) (by simp only [go_sem]; exact rfl) ?_
    refine seg_runN tabOK 1 (by simp only [go_sem]; exact rfl) (by simp only [go_sem]; exact rfl) (by simp only [go_sem, hlt, hltb, hg, hgb, keptRow]; try exact rfl) (by simp [go_sem, hlt, hltb, hg, hgb, keptRow]) (by simp only [go_sem]; exact rfl) ?_
    refine seg_runN tabOK 1 (by simp only [go_sem]; exact rfl) (by simp only [go_sem]; exact rfl) (by simp only [go_sem, hlt, hltb, hg, hgb, keptRow]; try exact rfl) (by simp [go_sem, hlt, hltb, hg, hgb, keptRow]) (by simp only [go_sem]; exact rfl) ?_
    refine seg_runN tabOK 1 (by simp only [go_sem]; exact rfl) (by simp only [go_sem]; exact rfl) (by simp only [go_sem, hlt, hltb, hg, hgb, keptRow]; try exact rfl) (by simp [go_sem, hlt, hltb, hg, hgb, keptRow]) (by simp only [go_sem]; exact rfl) ?_
    refine seg_runN tabOK 1 (by simp only [go_sem]; exact rfl) (by simp only [go_sem]; exact rfl) (by simp only [go_sem, hlt, hltb, hg, hgb, keptRow]; try exact rfl) (by simp [go_sem, hlt, hltb, hg, hgb, keptRow]) (by simp only [go_sem]; exact rfl) ?_
    refine seg_runN tabOK 1 (by simp only [go_sem]; exact rfl) (by simp only [go_sem]; exact rfl) (by simp only [go_sem, hlt, hltb, hg, hgb, keptRow]; try exact rfl) (by simp [go_sem, hlt, hltb, hg, hgb, keptRow]) (by simp only [go_sem]; exact rfl) ?_
    generalize h1 : (bif !c0 then true else x.dirty != y.dirty) = c1
    refine seg_runN tabOK 1 (by simp only [go_sem]; exact rfl) (by simp only [go_sem]; exact rfl) (by simp only [go_sem, hlt, hltb, hg, hgb, keptRow]; try exact rfl) (by simp [go_sem, hlt, hltb, hg, hgb, keptRow]) (by simp only [go_sem]; exact rfl) ?_
    refine seg_runN tabOK 1 (by simp only [go_sem]; exact rfl) (by simp only [go_sem]; exact rfl) (by simp only [go_sem, hlt, hltb, hg, hgb, keptRow]; try exact rfl) (by simp [go_sem, hlt, hltb, hg, hgb, keptRow]) (by simp only [go_sem]; exact rfl) ?_
    refine seg_runN tabOK 1 (by simp only [go_sem]; exact rfl) (by simp only [go_sem]; exact rfl) (by simp only [go_sem, hlt, hltb, hg, hgb, keptRow]; try exact rfl) (by simp [go_sem, hlt, hltb, hg, hgb, keptRow]) (by simp only [go_sem]; exact rfl) ?_
    refine seg_runN tabOK 1 (by simp only [go_sem]; exact rfl) (by simp only [go_sem]; exact rfl) (by simp only [go_sem, hlt, hltb, hg, hgb, keptRow]; try exact rfl) (by simp [go_sem, hlt, hltb, hg, hgb, keptRow]) (by simp only [go_sem]; exact rfl) ?_
    refine seg_runN tabOK 1 (by simp only [go_sem]; exact rfl) (by simp only [go_sem]; exact rfl) (by simp only [go_sem, hlt, hltb, hg, hgb, keptRow]; try exact rfl) (by simp [go_sem, hlt, hltb, hg, hgb, keptRow]) (by simp only [go_sem]; exact rfl) ?_
    refine seg_runN tabOK 1 (by simp only [go_sem]; exact rfl) (by simp only [go_sem]; exact rfl) (by simp only [go_sem, hlt, hltb, hg, hgb, keptRow]; try exact rfl) (by simp [go_sem, hlt, hltb, hg, hgb, keptRow]) (by simp only [go_sem]; exact rfl) ?_
    refine seg_runN tabOK 1 (by simp only [go_sem]; exact rfl) (by simp only [go_sem]; exact rfl) (by simp only [go_sem, hlt, hltb, hg, hgb, keptRow]; try exact rfl) (by simp [go_sem, hlt, hltb, hg, hgb, keptRow]) (by simp only [go_sem]; exact rfl) ?_
    refine seg_runN tabOK 1 (by simp only [go_sem]; exact rfl) (by simp only [go_sem]; exact rfl) (by simp only [go_sem, hlt, hltb, hg, hgb, keptRow]; try exact rfl) (by simp [go_sem, hlt, hltb, hg, hgb, keptRow]) (by simp only [go_sem]; exact rfl) ?_
    refine seg_runN tabOK 1 (by simp only [go_sem]; exact rfl) (by simp only [go_sem]; exact rfl) (by simp only [go_sem, hlt, hltb, hg, hgb, keptRow]; try exact rfl) (by simp [go_sem, hlt, hltb, hg, hgb, keptRow]) (by simp only [go_sem]; exact rfl) ?_
    refine seg_runN tabOK 1 (by simp only [go_sem]; exact rfl) (by simp only [go_sem]; exact rfl) (by simp only [go_sem, hlt, hltb, hg, hgb, keptRow]; try exact rfl) (by simp [go_sem, hlt, hltb, hg, hgb, keptRow]) (by simp only [go_sem]; exact rfl) ?_
    refine seg_runN tabOK 1 (by simp only [go_sem]; exact rfl) (by simp only [go_sem]; exact rfl) (by simp only [go_sem, hlt, hltb, hg, hgb, keptRow]; try exact rfl) (by simp [go_sem, hlt, hltb, hg, hgb, keptRow]) (by simp only [go_sem]; exact rfl) ?_
    refine seg_runN tabOK 1 (by simp only [go_sem]; exact rfl) (by simp only [go_sem]; exact rfl) (by simp only [go_sem, hlt, hltb, hg, hgb, keptRow]; try exact rfl) (by simp [go_sem, hlt, hltb, hg, hgb, keptRow]) (by simp only [go_sem]; exact rfl) ?_
    refine seg_runN tabOK 1 (by simp only [go_sem]; exact rfl) (by simp only [go_sem]; exact rfl) (by simp only [go_sem, hlt, hltb, hg, hgb, keptRow]; try exact rfl) (by simp [go_sem, hlt, hltb, hg, hgb, keptRow]) (by simp only [go_sem]; exact rfl) ?_
    generalize h2 : (bif c1 then true else x.worth != y.worth) = c2
    refine seg_runN tabOK 1 (by simp only [go_sem]; exact rfl) (by simp only [go_sem]; exact rfl) (by simp only [go_sem, hlt, hltb, hg, hgb, keptRow]; try exact rfl) (by simp [go_sem, hlt, hltb, hg, hgb, keptRow]) (by simp only [go_sem]; exact rfl) ?_
    refine seg_runN tabOK 1 (by simp only [go_sem]; exact rfl) (by simp only [go_sem]; exact rfl) (by simp only [go_sem, hlt, hltb, hg, hgb, keptRow]; try exact rfl) (by simp [go_sem, hlt, hltb, hg, hgb, keptRow]) (by simp only [go_sem]; exact rfl) ?_
    refine seg_runN tabOK 1 (by simp only [go_sem]; exact rfl) (by simp only [go_sem]; exact rfl) (by simp only [go_sem, hlt, hltb, hg, hgb, keptRow]; try exact rfl) (by simp [go_sem, hlt, hltb, hg, hgb, keptRow]) (by simp only [go_sem]; exact rfl) ?_
    refine seg_runN tabOK 1 (by simp only [go_sem]; exact rfl) (by simp only [go_sem]; exact rfl) (by simp only [go_sem, hlt, hltb, hg, hgb, keptRow]; try exact rfl) (by simp [go_sem, hlt, hltb, hg, hgb, keptRow]) (by simp only [go_sem]; exact rfl) ?_
    refine seg_runN tabOK 1 (by simp only [go_sem]; exact rfl) (by simp only [go_sem]; exact rfl) (by simp only [go_sem, hlt, hltb, hg, hgb, keptRow]; try exact rfl) (by simp [go_sem, hlt, hltb, hg, hgb, keptRow]) (by simp only [go_sem]; exact rfl) ?_
    refine seg_runN tabOK 1 (by simp only [go_sem]; exact rfl) (by simp only [go_sem]; exact rfl) (by simp only [go_sem, hlt, hltb, hg, hgb, keptRow]; try exact rfl) (by simp [go_sem, hlt, hltb, hg, hgb, keptRow]) (by simp only [go_sem]; exact rfl) ?_
    refine seg_runN tabOK 1 (by simp only [go_sem]; exact rfl) (by simp only [go_sem]; exact rfl) (by simp only [go_sem, hlt, hltb, hg, hgb, keptRow]; try exact rfl) (by simp [go_sem, hlt, hltb, hg, hgb, keptRow]) (by simp only [go_sem]; exact rfl) ?_
    refine seg_runN tabOK 1 (by simp only [go_sem]; exact rfl) (by simp only [go_sem]; exact rfl) (by simp only [go_sem, hlt, hltb, hg, hgb, keptRow]; try exact rfl) (by simp [go_sem, hlt, hltb, hg, hgb, keptRow]) (by simp only [go_sem]; exact rfl) ?_
    refine seg_runN tabOK 1 (by simp only [go_sem]; exact rfl) (by simp only [go_sem]; exact rfl) (by simp only [go_sem, hlt, hltb, hg, hgb, keptRow]; try exact rfl) (by simp [go_sem, hlt, hltb, hg, hgb, keptRow]) (by simp only [go_sem]; exact rfl) ?_
    refine seg_runN tabOK 1 (by simp only [go_sem]; exact rfl) (by simp only [go_sem]; exact rfl) (by simp only [go_sem, hlt, hltb, hg, hgb, keptRow]; try exact rfl) (by simp [go_sem, hlt, hltb, hg, hgb, keptRow]) (by simp only [go_sem]; exact rfl) ?_
    refine seg_runN tabOK 1 (by simp only [go_sem]; exact rfl) (by simp only [go_sem]; exact rfl) (by simp only [go_sem, hlt, hltb, hg, hgb, keptRow]; try exact rfl) (by simp [go_sem, hlt, hltb, hg, hgb, keptRow]) (by simp only [go_sem]; exact rfl) ?_
    refine seg_runN tabOK 1 (by simp only [go_sem]; exact rfl) (by simp only [go_sem]; exact rfl) (by simp only [go_sem, hlt, hltb, hg, hgb, keptRow]; try exact rfl) (by simp [go_sem, hlt, hltb, hg, hgb, keptRow]) (by simp only [go_sem]; exact rfl) ?_
    refine seg_runN tabOK 1 (by simp only [go_sem]; exact rfl) (by simp only [go_sem]; exact rfl) (by simp only [go_sem, hlt, hltb, hg, hgb, keptRow]; try exact rfl) (by simp [go_sem, hlt, hltb, hg, hgb, keptRow]) (by simp only [go_sem]; exact rfl) ?_
    generalize h3 : (bif c2 then true else x.last != y.last) = c3
    refine seg_end (by kernel_rfl) (by simp only [go_sem]; exact rfl) ?_
    refine draw_close (by kernel_rfl) ?_
    have hx : (x = y) ↔ c3 = false := by
      subst h3 h2 h1 h0
      obtain ⟨xa, xv, xi, xl⟩ := x
      obtain ⟨ya, yv, yi, yl⟩ := y
      simp only [Kept.mk.injEq, Bool.cond_eq_ite]
      by_cases e1 : xa = ya <;> by_cases e2 : xv = yv <;> by_cases e3 : xi = yi <;> by_cases e4 : xl = yl <;> simp [e1, e2, e3, e4]
    refine cw_cond (by simp only [go_sem]; try exact rfl) trivial (fun h => ?_) (fun h => ?_)
    · refine cw_go tabOK 99 (by simp only [go_sem]; try exact rfl) (by simp [go_sem]) ?_
      refine cw_ret ⟨_, _, (by simp only [go_sem]; try exact rfl), by simp [go_sem], _, .inr (.inl rfl), ?_⟩
      have hne : a ≠ b := by
        intro he
        rw [← he, ga] at gb
        have e := List.append_cancel_left gb
        injection e with e
        rw [hx.1 e] at h
        cases h
      simp [hne]
    · refine cw_go tabOK 99 (by simp only [go_sem]; try exact rfl) (by simp [go_sem]) ?_
      have hw : IntKind.i64.wrap ((i : Int) + 1) = (i : Int) + 1 := wrap_small (by omega) (by omega)
      refine cw_back ⟨i + 1, ⟨by omega, by rw [ga, gb, ht, hx.2 h]⟩, by omega, le_sub ?_ ?_ ?_⟩
      · simp [go_sem, hw]
      · simp [go_sem]
      · simp only [go_sem]
  · have e : i = a.length := by simp at h; omega
    refine cw_go tabOK 99 (by simp only [go_sem]; try exact rfl) (by simp [go_sem]) ?_
    refine cw_ret ⟨_, _, (by simp only [go_sem]; try exact rfl), by simp [go_sem], _, .inr (.inl rfl), ?_⟩
    have : a = b := by
      rw [e, List.take_length, hl, List.take_length] at ht
      exact ht
    simp [this]

theorem kept_rm (l : List Kept) (hlen : l.length ≤ 100000000) : FnOK Try.prog 47 [.sl (l.map keptRow)] [] (fun r _ => r = .rm (mN (mapD (nodesK l)))) := by
  rw [← mapN_eq]
  refine fn_of_cwW tabOK (Go.Proofs.Try.func47) rfl (fun C => ?_)
  simp only [Go.Proofs.Try.ntmps47, Go.Proofs.Try.results47, go_sem]
  refine cw_go tabOK 99 (by simp only [go_sem]; try exact rfl) (by simp [go_sem]) ?_
  refine cw_loopS (fun i : Nat => i ≤ l.length) (fun i => l.length - i) (fun i => [(3, .mp 6), (5, .any), (9, .int .i64 i), (10, .any), (11, .any), (12, .any), (13, .any), (14, .any), (15, .any), (16, .any), (17, .any), (18, .any), (19, .any)])
    (fun i => [(6, .map (mapUN (nodesK l) i))]) 0 (by omega) ?_ fun i hi => ?_
  · simp only [go_sem]
    exact le_sub (by simp [go_sem]) (by simp [go_sem, mapUN, mapUpto]) (by simp only [go_sem])
  simp only [go_sem]
  refine cw_go tabOK 99 (by simp only [go_sem]; try exact rfl) (by simp [go_sem]) ?_
  refine cw_cond (by simp only [go_sem]; try exact rfl) trivial (fun h => ?_) (fun h => ?_)
  · have hlt : i < l.length := by simp at h; omega
    have hg : (l.map keptRow).getD i [] = keptRow (l.getD i default) := Fam.getD hlt
    have hw : IntKind.i64.wrap ((i : Int) + 1) = ((i + 1 : Nat) : Int) := by rw [Eng.wrap_small (by omega) (by omega)]; rfl
    have hnd : (nodesK l).getD i default = (l.getD i default).node := by
      unfold nodesK
      rw [List.getD_eq_getElem?_getD, List.getElem?_map, List.getD_eq_getElem?_getD, List.getElem?_eq_getElem hlt]; rfl
    have hput : mapUN (nodesK l) (i + 1) = mput (mapUN (nodesK l) i) ((nodesK l).getD i default).fid (.agg (nodeRow ((nodesK l).getD i default))) := rfl
    rw [hnd] at hput
    generalize l.getD i default = n at *
    refine cw_go tabOK 99 (by simp only [go_sem, hg, keptRow, hw]; try exact rfl) ?_ ?_
    · simp [hg, keptRow, hlt, AV.deepB, AV.pureB]
    refine cw_back ⟨i + 1, by omega, by omega, le_sub ?_ ?_ ?_⟩
    · simp [go_sem]
    · simp [go_sem, hput, nodeRow]
    · simp only [go_sem]
  · have e : i = l.length := by simp at h; omega
    subst e
    have hN : mapN (nodesK l) = mapUN (nodesK l) l.length := by unfold mapN nodesK; rw [List.length_map]
    rw [hN]
    refine cw_go tabOK 99 (by simp only [go_sem]; try exact rfl) (by simp [go_sem]) ?_
    refine cw_freezeM 6 rfl ?_
    simp only [go_sem]
    refine cw_ret ⟨_, _, (by simp only [go_sem]; try exact rfl), by simp [go_sem], _, .inr (.inl rfl), ?_⟩
    rfl
theorem of_rm (l : List Node) (hlen : l.length ≤ 100000000) : FnOK Try.prog 26 [.sl (l.map nodeRow)] [] (fun r _ => r = .rm (mN (mapD l))) := by
  rw [← mapN_eq]
  refine fn_of_cwW tabOK (Go.Proofs.Try.func26) rfl (fun C => ?_)
  simp only [Go.Proofs.Try.ntmps26, Go.Proofs.Try.results26, go_sem]
  refine cw_go tabOK 99 (by simp only [go_sem]; try exact rfl) (by simp [go_sem]) ?_
  refine cw_loopS (fun i : Nat => i ≤ l.length) (fun i => l.length - i) (fun i => [(3, .mp 6), (5, .any), (9, .int .i64 i), (10, .any), (11, .any), (12, .any), (13, .any), (14, .any), (15, .any), (16, .any), (17, .any)])
    (fun i => [(6, .map (mapUN l i))]) 0 (by omega) ?_ fun i hi => ?_
  · simp only [go_sem]
    exact le_sub (by simp [go_sem]) (by simp [go_sem, mapUN, mapUpto]) (by simp only [go_sem])
  simp only [go_sem]
  refine cw_go tabOK 99 (by simp only [go_sem]; try exact rfl) (by simp [go_sem]) ?_
  refine cw_cond (by simp only [go_sem]; try exact rfl) trivial (fun h => ?_) (fun h => ?_)
  · have hlt : i < l.length := by simp at h; omega
    have hg : (l.map nodeRow).getD i [] = nodeRow (l.getD i default) := Fam.getD hlt
    have hw : IntKind.i64.wrap ((i : Int) + 1) = ((i + 1 : Nat) : Int) := by rw [Eng.wrap_small (by omega) (by omega)]; rfl
    have hput : mapUN l (i + 1) = mput (mapUN l i) (l.getD i default).fid (.agg (nodeRow (l.getD i default))) := rfl
    generalize l.getD i default = n at *
    refine cw_go tabOK 99 (by simp only [go_sem, hg, nodeRow, hw]; try exact rfl) ?_ ?_
    · simp [hg, nodeRow, hlt, AV.deepB, AV.pureB]
    refine cw_back ⟨i + 1, by omega, by omega, le_sub ?_ ?_ ?_⟩
    · simp [go_sem]
    · simp [go_sem, hput, nodeRow]
    · simp only [go_sem]
  · have e : i = l.length := by simp at h; omega
    subst e
    unfold mapN
    refine cw_go tabOK 99 (by simp only [go_sem]; try exact rfl) (by simp [go_sem]) ?_
    refine cw_freezeM 6 rfl ?_
    simp only [go_sem]
    refine cw_ret ⟨_, _, (by simp only [go_sem]; try exact rfl), by simp [go_sem], _, .inr (.inl rfl), ?_⟩
    rfl
end La

namespace Go.Eng
section
variable {P : Program} {T : Tab} {C : Ctx} {σ σ' : St} {μ : Nat → Option Nat} {S : Nat → Prop} {a : Act} {w : World} {Ret : St → Prop} {k : List It}

def mv1 (p q : Nat) : AV → AV
  | .osl id s o l => if id = p then .osl q s o l else .osl id s o l
  | .ptr id s r o => if id = p then .ptr q s r o else .ptr id s r o
  | x => kill p x

theorem le_mv (p q : Nat) {e s : Nat} {rows : List (List AV)} {H' : List (Nat × Blk)} {l' : List AV} (hb : hget σ.hp p = some (.cells e s rows)) (hq : hget σ.hp q = none) (hr : refsB (.cells e s rows) = [])
    (hH : hdel σ.hp p = H') (hf : (H'.all fun x => !(refsB x.2).contains p) = true) (ht : σ.tm.map (mv1 p q) = l') : Le C σ ⟨l', (q, .cells e s rows) :: H'⟩ := by
  subst hH ht
  intro a w ⟨μ, S, hi⟩
  have hne : p ≠ q := fun h => by subst h; rw [hb] at hq; cases hq
  have hmq : μ q = none := by
    cases h : μ q with
    | none => rfl
    | some g => obtain ⟨⟨b, h1⟩, _⟩ := hi.dom q g h; rw [hq] at h1; cases h1
  let ν : Nat → Option Nat := fun i => if i = q then μ p else if i = p then none else μ i
  have hνq : ν q = μ p := by simp [ν]
  have hν : ∀ i, i ≠ p → i ≠ q → ν i = μ i := fun i h1 h2 => by simp [ν, h1, h2]
  have hm : ∀ i, i ≠ p → ∀ g, μ i = some g → ν i = some g := fun i h g hg => by
    rw [hν i h (fun e => by subst e; rw [hmq] at hg; cases hg)]; exact hg
  have hv : ∀ i g, ν i = some g → (i = q ∧ μ p = some g) ∨ (i ≠ p ∧ i ≠ q ∧ μ i = some g) := fun i g h => by
    simp only [ν] at h
    split at h
    · exact .inl ⟨by assumption, h⟩
    · split at h
      · cases h
      · exact .inr ⟨by assumption, by assumption, h⟩
  have hkill : ∀ {v : Value} {y : AV}, Rd μ S w v y → Rd ν S w v (kill p y) := fun {v y} h => by
    unfold kill
    split
    · exact .any v
    · rename_i hc
      exact h.less fun id hid g hg => hm id (fun e => by subst e; exact hc (by simpa using hid)) g hg
  refine ⟨ν, S, by simpa using hi.size, hi.defers, fun t x hx => ?_, fun id b hb' => ?_, fun id g hg => ?_, fun i j g h1 h2 => ?_, hi.frm, hi.sb⟩
  · simp only [List.getElem?_map] at hx
    obtain ⟨y, hy, rfl⟩ := Option.map_eq_some_iff.1 hx
    have h := hi.tm t y hy
    cases y with
    | osl id s' o n =>
      simp only [mv1]
      split
      · rename_i e
        subst e
        obtain ⟨A, cap, e1, hc, hor⟩ := h.inv_osl
        rw [e1]
        refine .osl q s' o n cap A hc ?_
        rcases hor with h | ⟨g, e2, m, k1, k2, k3, k4⟩
        · exact .inl h
        · exact .inr ⟨g, e2, m, hνq.trans k1, k2, k3, k4⟩
      · rename_i e
        exact h.less fun i hid g hg => hm i (fun e' => by simp only [refs, List.mem_singleton] at hid; exact e (hid.symm.trans e')) g hg
    | ptr id s' r o =>
      simp only [mv1]
      split
      · rename_i e
        subst e
        obtain ⟨g, k1, e1⟩ := h.inv_ptr
        rw [e1]
        exact .ptr q s' r o g (hνq.trans k1)
      · rename_i e
        exact h.less fun i hid g hg => hm i (fun e' => by simp only [refs, List.mem_singleton] at hid; exact e (hid.symm.trans e')) g hg
    | _ => exact hkill h
  · simp only [hget] at hb'
    split at hb'
    · rename_i e'
      injection hb' with hb'
      subst e' hb'
      have hk := hi.hp p _ hb
      rcases hk with ⟨k1, k2⟩ | ⟨g, c, k1, k2, k3, k4, k5⟩
      · exact .inl ⟨k1, hνq.trans k2⟩
      · refine .inr ⟨g, c, hνq.trans k1, k2, k3, k4, fun i row hi' j x hx => (k5 i row hi' j x hx).less fun id hid g' hg' => ?_⟩
        have : id ∈ refsB (.cells e s rows) := List.mem_flatMap.2 ⟨row, List.mem_of_getElem? hi', refsL_mem hx hid⟩
        rw [hr] at this
        cases this
    · rename_i hq'
      have hb2 := hb'
      rw [hget_hdel] at hb'
      split at hb'
      · cases hb'
      · rename_i hp'
        refine (hi.hp id b hb').less (hν id (fun e => hp' e.symm) (fun e => hq' e.symm)) fun i hid g hg => hm i (fun e => ?_) g hg
        subst e
        have := List.all_eq_true.1 hf _ (hget_mem hb2)
        simp at this
        exact this hid
  · rcases hv id g hg with ⟨rfl, h⟩ | ⟨h1, h2, h⟩
    · exact ⟨⟨_, by simp only [hget, if_true]; rfl⟩, (hi.dom p g h).2⟩
    · obtain ⟨⟨b, hb1⟩, h3⟩ := hi.dom id g h
      exact ⟨⟨b, by simp only [hget, if_neg (fun e : q = id => h2 e.symm), hget_hdel, if_neg (fun e : p = id => h1 e.symm)]; exact hb1⟩, h3⟩
  · rcases hv i g h1 with ⟨rfl, k⟩ | ⟨k1, k2, k⟩ <;> rcases hv j g h2 with ⟨rfl, m⟩ | ⟨m1, m2, m⟩
    · rfl
    · exact absurd (hi.inj p j g k m) (fun e => m1 e.symm)
    · exact absurd (hi.inj i p g k m) k1
    · exact hi.inj i j g k m
/-- A VALUE THAT IS MOVED, AHEAD OF ALL ELSE. -/
theorem draw_earlyM (r : Nat) (p q : List Nat) {ops ops' : Array Oper} {Q : Exit → Act → World → Prop} {o : Oper} {x : Operand} (ho : ops[r]? = some o) (hop : o.op = .move x) (hg : o.guard = none)
    (hQ : ∀ c a w, ¬ Q (.panic c) a w) (h1 : remOK r p q ops = true) (h2 : firstOK r o ops = true) (he : (remOps r p q ops.toList).toArray = ops') {y : AV} (hx : evS σ x = (True, y))
    (hk : DrawOK P C ops' Q 0 (σ.put o.dst y)) : DrawOK P C ops Q 0 σ := by
  subst he
  have hF := rem_facts h1
  have hrl := hF.rl
  have hpl := hF.pl
  intro a w ⟨μ, S, hi⟩
  have hv := hi.evS x (by rw [hx]; trivial)
  rw [hx] at hv
  obtain ⟨u, hr, hu⟩ : ∃ u, Rd μ S w u y ∧ u = a.eval x := ⟨_, hv, rfl⟩
  have hrel : Rel C (σ.put o.dst y) (a.put o.dst u) w := ⟨μ, S, hi.put o.dst hr⟩
  have hk' := hk _ _ hrel
  have hs : (remOps r p q ops.toList).toArray.size + 1 = ops.size := by simp [remOps, hpl]
  obtain ⟨n, hn⟩ : ∃ n, ops.size = n + 1 := ⟨ops.size - 1, by omega⟩
  have hsz : (remOps r p q ops.toList).toArray.size = n := by omega
  unfold firstOK at h2
  rw [Bool.and_eq_true] at h2
  have hafter : o.after = #[] := Array.isEmpty_iff.1 h2.1
  have hd0 : ∀ (m i : Nat) (d : Bool), (doneTo m 0).getD i d = if i < m then false else d := fun m i d => by rw [doneTo_get]; simp
  rw [hn, Nat.sub_zero]
  refine wpAny_first (v := u) ho hF.sel (fun c a w hc => absurd hc (hQ c _ _)) n _ a w (fun k oj hoj hkr _ hw => ?_) (mem_ready.2 ⟨?_, o, ho, fun e he => by rw [hafter] at he; simp at he⟩) (.inl ⟨by rw [Region.wanted, hg], fun w' => ?_⟩) ?_
  · have := List.all_eq_true.1 h2.2 k (List.mem_range.2 (Array.getElem?_eq_some_iff.1 hoj).1)
    rw [hoj] at this
    simp only [Bool.or_eq_true, beq_iff_eq, Array.any_eq_true', Bool.and_eq_true] at this
    rcases this with h | ⟨e, he, hb, hon⟩ | h
    · exact absurd h hkr
    · exact absurd hon (hw e he hb)
    · exact h
  · rw [← hn, hd0, if_pos hrl]
  · subst hu
    simp [execOp, hop]
  · rw [hsz, Nat.sub_zero] at hk'
    refine rem_any hF n _ _ _ _ (by simp [doneTo, hn]) (by simp [doneTo, hn]) ?_ (fun i hi => ?_) hk'
    · rw [Array.getD_eq_getD_getElem?, Array.getElem?_setIfInBounds, if_pos rfl, if_pos (by simp [doneTo]; omega)]; rfl
    · have e2 : ((doneTo (n + 1) 0).setIfInBounds r true).getD i false = (doneTo (n + 1) 0).getD i false := by
        rw [Array.getD_eq_getD_getElem?, Array.getElem?_setIfInBounds, if_neg (fun e => hi e.symm), ← Array.getD_eq_getD_getElem?]
      rw [e2, hd0, hd0]
      split <;> split <;> rfl
end
end Go.Eng

namespace Go.Eng
section
variable {P : Program} {T : Tab} {C : Ctx} {σ σ' : St} {μ : Nat → Option Nat} {S : Nat → Prop} {a : Act} {w : World} {Ret : St → Prop} {k : List It}

/-- A VALUE THAT ASKS NO WORLD, AHEAD OF ALL ELSE. -/
theorem draw_earlyV (r : Nat) (p q : List Nat) {ops ops' : Array Oper} {Q : Exit → Act → World → Prop} {o : Oper} (ho : ops[r]? = some o) (hg : o.guard = none)
    (hQ : ∀ c a w, ¬ Q (.panic c) a w) (h1 : remOK r p q ops = true) (h2 : firstOK r o ops = true) (he : (remOps r p q ops.toList).toArray = ops') {y : AV}
    (hx : ∀ μ S a w, Inv C μ S σ a w → ∃ u, (∀ w', (execOp a.eval o).run P w' = .ok (.value u) w') ∧ Rd μ S w u y)
    (hk : DrawOK P C ops' Q 0 (σ.put o.dst y)) : DrawOK P C ops Q 0 σ := by
  subst he
  have hF := rem_facts h1
  have hrl := hF.rl
  have hpl := hF.pl
  intro a w ⟨μ, S, hi⟩
  obtain ⟨u, hu, hr⟩ := hx μ S a w hi
  have hrel : Rel C (σ.put o.dst y) (a.put o.dst u) w := ⟨μ, S, hi.put o.dst hr⟩
  have hk' := hk _ _ hrel
  have hs : (remOps r p q ops.toList).toArray.size + 1 = ops.size := by simp [remOps, hpl]
  obtain ⟨n, hn⟩ : ∃ n, ops.size = n + 1 := ⟨ops.size - 1, by omega⟩
  have hsz : (remOps r p q ops.toList).toArray.size = n := by omega
  unfold firstOK at h2
  rw [Bool.and_eq_true] at h2
  have hafter : o.after = #[] := Array.isEmpty_iff.1 h2.1
  have hd0 : ∀ (m i : Nat) (d : Bool), (doneTo m 0).getD i d = if i < m then false else d := fun m i d => by rw [doneTo_get]; simp
  rw [hn, Nat.sub_zero]
  refine wpAny_first (v := u) ho hF.sel (fun c a w hc => absurd hc (hQ c _ _)) n _ a w (fun k oj hoj hkr _ hw => ?_) (mem_ready.2 ⟨?_, o, ho, fun e he => by rw [hafter] at he; simp at he⟩) (.inl ⟨by rw [Region.wanted, hg], hu⟩) ?_
  · have := List.all_eq_true.1 h2.2 k (List.mem_range.2 (Array.getElem?_eq_some_iff.1 hoj).1)
    rw [hoj] at this
    simp only [Bool.or_eq_true, beq_iff_eq, Array.any_eq_true', Bool.and_eq_true] at this
    rcases this with h | ⟨e, he, hb, hon⟩ | h
    · exact absurd h hkr
    · exact absurd hon (hw e he hb)
    · exact h
  · rw [← hn, hd0, if_pos hrl]
  · rw [hsz, Nat.sub_zero] at hk'
    refine rem_any hF n _ _ _ _ (by simp [doneTo, hn]) (by simp [doneTo, hn]) ?_ (fun i hi => ?_) hk'
    · rw [Array.getD_eq_getD_getElem?, Array.getElem?_setIfInBounds, if_pos rfl, if_pos (by simp [doneTo]; omega)]; rfl
    · have e2 : ((doneTo (n + 1) 0).setIfInBounds r true).getD i false = (doneTo (n + 1) 0).getD i false := by
        rw [Array.getD_eq_getD_getElem?, Array.getElem?_setIfInBounds, if_neg (fun e => hi e.symm), ← Array.getD_eq_getD_getElem?]
      rw [e2, hd0, hd0]
      split <;> split <;> rfl

/-- what a slice of a slice into a held block is, in any world -/
theorem slice_any (hT : TabOK P T) {o : Oper} {t e : TypeId} {x : Operand} {lo hi' : Option Operand} (ho : o.op = .slice t x lo hi' none) (ht : T.und t = .sl e) {id s off len l h : Nat} (hs : T.siz e = s) (hz : s ≠ 0) (hx : evS σ x = (True, .osl id s off len))
    (hlo : (lo = none ∧ l = 0) ∨ ∃ q, lo = some q ∧ ∃ kk, evS σ q = (True, .int kk (l : Nat))) (hhi : (hi' = none ∧ h = len) ∨ ∃ q, hi' = some q ∧ ∃ kk, evS σ q = (True, .int kk (h : Nat))) (hlh : l ≤ h) (hhl : h ≤ len) :
    ∀ μ S a w, Inv C μ S σ a w → ∃ u, (∀ w', (execOp a.eval o).run P w' = .ok (.value u) w') ∧ Rd μ S w u (.osl id s (off + l) (h - l)) := by
  intro μ S a w hi
  have hu := hT.und t
  rw [ht] at hu
  simp only [KDOK] at hu
  have hv := hi.evS x (by rw [hx]; trivial)
  rw [hx] at hv
  obtain ⟨A, cap, hA, hc, hor⟩ := hv.inv_osl
  have k1 : BoundIs (lo.map a.eval) 0 l := by
    rcases hlo with ⟨rfl, rfl⟩ | ⟨q, rfl, kk, hq⟩
    · rfl
    · have := hi.evS q (by rw [hq]; trivial)
      rw [hq] at this
      exact ⟨kk, this.inv_int⟩
  have k2 : BoundIs (hi'.map a.eval) len h := by
    rcases hhi with ⟨rfl, rfl⟩ | ⟨q, rfl, kk, hq⟩
    · rfl
    · have := hi.evS q (by rw [hq]; trivial)
      rw [hq] at this
      exact ⟨kk, this.inv_int⟩
  have hrun : ∀ w', (Instr.sliceAt t (.slice A len cap) (lo.map a.eval) (hi'.map a.eval) none).run P w' = .ok (.slice (if cap = l then A else A.map (·.add (l * T.siz e))) (h - l) (cap - l)) w' := fun w' => by
    simp [Instr.sliceAt, Instr.slice, run_underlying hu, run_bounds (P := P) (w := w') true len cap l h (lo.map a.eval) (hi'.map a.eval) k1 k2 hlh (by omega), sizeOf_of hT (by rw [hs]; exact hz)]
  refine ⟨.slice (if cap = l then A else A.map (·.add (l * T.siz e))) (h - l) (cap - l), fun w' => ?_, .osl id s (off + l) (h - l) (cap - l) _ (by omega) ?_⟩
  · have := hrun w'
    simp only [execOp, ho]
    rw [hA]
    simp [this]
  · rcases hor with ⟨j1, j2⟩ | ⟨g, e', n, j1, rfl, j3, j4⟩
    · exact .inl ⟨by omega, by omega⟩
    · by_cases hcl : cap = l
      · exact .inl ⟨by omega, by omega⟩
      · refine .inr ⟨g, e', n, j1, ?_, j3, ?_⟩
        · rw [if_neg hcl]; simp [add_plain, hs, Nat.add_mul]
        · rw [show off + l + (cap - l) = off + cap from by omega]; exact j4

/-- what a sum is, in any world -/
theorem add_any {o : Oper} {t ty : TypeId} {x y : Operand} (ho : o.op = .binOp .add t x y ty) {kk : IntKind} {m n : Int} (hx : evS σ x = (True, .int kk m)) (hy : evS σ y = (True, .int kk n)) :
    ∀ μ S a w, Inv C μ S σ a w → ∃ u, (∀ w', (execOp a.eval o).run P w' = .ok (.value u) w') ∧ Rd μ S w u (.int kk (kk.wrap (m + n))) := by
  intro μ S a w hi
  have h1 := hi.evS x (by rw [hx]; trivial)
  have h2 := hi.evS y (by rw [hy]; trivial)
  rw [hx] at h1
  rw [hy] at h2
  refine ⟨.int kk (kk.wrap (m + n)), fun w' => ?_, .pure (.int _ _)⟩
  simp only [execOp, ho]
  rw [h1.inv_int, h2.inv_int]
  simp [eqGuard_at_int, binOp, Op.intArith]

/-- A HELD BLOCK IS FORGOTTEN, with all that names it. -/
theorem le_drop (q : Nat) {H' : List (Nat × Blk)} {l' : List AV} (hH : hdel σ.hp q = H') (hf : (H'.all fun x => !(refsB x.2).contains q) = true) (ht : σ.tm.map (kill q) = l') : Le C σ ⟨l', H'⟩ := by
  subst hH ht
  intro a w ⟨μ, S, hi⟩
  let ν : Nat → Option Nat := fun i => if i = q then none else μ i
  have hm : ∀ i, i ≠ q → ∀ g, μ i = some g → ν i = some g := fun i h g hg => by simp [ν, h, hg]
  have hv : ∀ i g, ν i = some g → i ≠ q ∧ μ i = some g := fun i g h => by
    simp only [ν] at h
    split at h
    · cases h
    · exact ⟨by assumption, h⟩
  refine ⟨ν, S, by simpa using hi.size, hi.defers, fun t x hx => ?_, fun id b hb' => ?_, fun id g hg => ?_, fun i j g h1 h2 => ?_, hi.frm, hi.sb⟩
  · simp only [List.getElem?_map] at hx
    obtain ⟨y, hy, rfl⟩ := Option.map_eq_some_iff.1 hx
    have h := hi.tm t y hy
    unfold kill
    split
    · exact .any _
    · rename_i hc
      exact h.less fun id hid g hg => hm id (fun e => by subst e; exact hc (by simpa using hid)) g hg
  · have hb2 := hb'
    rw [hget_hdel] at hb'
    split at hb'
    · cases hb'
    · rename_i hq'
      refine (hi.hp id b hb').less (by simp only [ν]; rw [if_neg (fun e => hq' e.symm)]) fun i hid g hg => hm i (fun e => ?_) g hg
      subst e
      have := List.all_eq_true.1 hf _ (hget_mem hb2)
      simp at this
      exact this hid
  · obtain ⟨h1, h2⟩ := hv id g hg
    obtain ⟨⟨b, hb1⟩, h3⟩ := hi.dom id g h2
    exact ⟨⟨b, by rw [hget_hdel, if_neg (fun e => h1 e.symm)]; exact hb1⟩, h3⟩
  · exact hi.inj i j g (hv i g h1).2 (hv j g h2).2

/-! ### Order by order -/
/-- so many are left, and which have come up -/
def DrawD (P : Program) (C : Ctx) (ops : Array Oper) (Q : Exit → Act → World → Prop) (n : Nat) (L : Array Bool) (σ : St) : Prop := ∀ a w, Rel C σ a w → wpAny P .any ops Q n L a w
theorem drawD {ops : Array Oper} {Q : Exit → Act → World → Prop} {n : Nat} {L : Array Bool} (hn : ops.size = n) (hL : doneTo ops.size 0 = L) (h : DrawD P C ops Q n L σ) : DrawOK P C ops Q 0 σ := by
  subst hn hL
  intro a w hr
  rw [Nat.sub_zero]
  exact h a w hr
theorem drawD_end {ops : Array Oper} {L : Array Bool} (hr : Region.ready .any ops L = []) (h : Cw P C Ret k σ) : DrawD P C ops (aft (RetOf C Ret) (sem P C (RetOf C Ret) k)) 0 L σ := fun a w hrel => ⟨hr, h a w hrel⟩
theorem drawD_one {ops : Array Oper} {Q : Exit → Act → World → Prop} {n i : Nat} {L L' : Array Bool} {o : Oper} (hr : Region.ready .any ops L = [i]) (hL : L.setIfInBounds i true = L') (ho : ops[i]? = some o) (ht : TripG P C ops o σ σ') (h : DrawD P C ops Q n L' σ') : DrawD P C ops Q (n + 1) L σ := fun a w hrel => by
  subst hL
  refine ⟨fun h0 => (by rw [hr] at h0; cases h0), fun j hj => ?_⟩
  rw [hr, List.mem_singleton] at hj
  subst hj
  exact drawn_op ho ht hrel fun a' w' hr' => h a' w' hr'
theorem drawD_two {ops : Array Oper} {Q : Exit → Act → World → Prop} {n i j : Nat} {L L1 L2 : Array Bool} {o1 o2 : Oper} {σ1 σ2 : St} (hr : Region.ready .any ops L = [i, j]) (hL1 : L.setIfInBounds i true = L1) (hL2 : L.setIfInBounds j true = L2) (ho1 : ops[i]? = some o1) (ho2 : ops[j]? = some o2)
    (ht1 : TripG P C ops o1 σ σ1) (ht2 : TripG P C ops o2 σ σ2) (h1 : DrawD P C ops Q n L1 σ1) (h2 : DrawD P C ops Q n L2 σ2) : DrawD P C ops Q (n + 1) L σ := fun a w hrel => by
  subst hL1 hL2
  refine ⟨fun h0 => (by rw [hr] at h0; cases h0), fun m hm => ?_⟩
  rw [hr] at hm
  rcases List.mem_cons.1 hm with rfl | hm
  · exact drawn_op ho1 ht1 hrel fun a' w' hr' => h1 a' w' hr'
  · rw [List.mem_singleton] at hm
    subst hm
    exact drawn_op ho2 ht2 hrel fun a' w' hr' => h2 a' w' hr'
theorem drawD_le {ops : Array Oper} {Q : Exit → Act → World → Prop} {n : Nat} {L L' : Array Bool} (hL : L = L') (hl : Le C σ σ') (h : DrawD P C ops Q n L' σ') : DrawD P C ops Q n L σ := fun a w hrel => by
  subst hL
  exact h a w (hl a w hrel)
/-- one step of the machine, as an operation without a guard -/
theorem trip_go (hT : TabOK P T) {ops : Array Oper} {o : Oper} (hg : o.guard = none) {p : Prop} (h : stepOp T σ o.dst o.op = some (p, σ')) (hp : p) : TripG P C ops o σ σ' := fun a w K Q' hr hK => by
  obtain ⟨μ, S, hi⟩ := hr
  rw [wanted_of hi (show guardOf ops σ o.guard = some true from by rw [hg]; rfl)]
  exact .inl (step_sound hT o h hp a w K Q' ⟨μ, S, hi⟩ hK)
end
end Go.Eng

namespace La
open Go Go.Eng Go.Proofs
set_option maxRecDepth 10000
set_option linter.unusedSimpArgs false
set_option linter.unusedVariables false

theorem keptRow_refs {p : Kept} {x : AV} (h : x ∈ keptRow p) : refs x = [] := by
  simp only [keptRow, List.mem_cons, List.not_mem_nil, or_false] at h
  rcases h with rfl | rfl | rfl | rfl | rfl | rfl | rfl | rfl <;> rfl
def wK (k x : Kept) : Kept := { k with worth := maxI k.worth x.worth }
def rkS (k : Kept) (q : Bool × List Kept) (x : Kept) : Bool × List Kept := if (x.node.fid == k.node.fid && !q.1) = true then (true, q.2 ++ [wK k x]) else (q.1, q.2 ++ [x])
def rkT (k : Kept) (l : List Kept) : Bool × List Kept := l.foldl (rkS k) (false, [])
theorem rkT_snoc (k : Kept) (l : List Kept) (x : Kept) : rkT k (l ++ [x]) = rkS k (rkT k l) x := by unfold rkT; rw [List.foldl_append]; rfl
theorem rkT_len (k : Kept) (l : List Kept) : (rkT k l).2.length = l.length := by
  have : ∀ (l : List Kept) (q : Bool × List Kept), (l.foldl (rkS k) q).2.length = q.2.length + l.length := fun l => by
    induction l with
    | nil => intro q; rfl
    | cons x r ih => intro q; rw [List.foldl_cons, ih]; unfold rkS; split <;> simp <;> omega
  have := this l (false, [])
  simpa [rkT] using this
theorem rkS_true (k : Kept) : ∀ (l acc : List Kept), l.foldl (rkS k) (true, acc) = (true, acc ++ l)
  | [], acc => by simp
  | x :: r, acc => by rw [List.foldl_cons, show rkS k (true, acc) x = (true, acc ++ [x]) from by simp [rkS], rkS_true k r]; simp
theorem rkS_false (k : Kept) : ∀ (l acc : List Kept), l.foldl (rkS k) (false, acc) = match kplace l k.node.fid with
    | none => (false, acc ++ l)
    | some i => (true, acc ++ l.set i (wK k (l.getD i default)))
  | [], acc => by simp [kplace]
  | x :: r, acc => by
    rw [List.foldl_cons]
    by_cases h : x.node.fid = k.node.fid
    · rw [show rkS k (false, acc) x = (true, acc ++ [wK k x]) from by simp [rkS, h], rkS_true]
      have : kplace (x :: r) k.node.fid = some 0 := by unfold kplace; rw [List.findIdx?_cons]; simp [h]
      rw [this]
      simp
    · rw [show rkS k (false, acc) x = (false, acc ++ [x]) from by simp [rkS, h], rkS_false k r]
      have : kplace (x :: r) k.node.fid = (kplace r k.node.fid).map (· + 1) := by unfold kplace; rw [List.findIdx?_cons]; simp [h]
      rw [this]
      cases kplace r k.node.fid <;> simp
theorem rkT_keep (k : Kept) (l : List Kept) : rkT k l = match kplace l k.node.fid with
    | none => (false, l)
    | some i => (true, l.set i (wK k (l.getD i default))) := by
  unfold rkT
  rw [rkS_false]
  cases kplace l k.node.fid <;> simp
theorem keepK_some {l : List Kept} {room : Int} {k : Kept} (h : (rkT k l).1 = true) : keepK l room k = some (rkT k l).2 := by
  unfold keepK
  rw [rkT_keep] at h ⊢
  cases e : kplace l k.node.fid with
  | none => rw [e] at h; cases h
  | some i => rfl
theorem keepK_none {l : List Kept} {room : Int} {k : Kept} (h : (rkT k l).1 = false) : (rkT k l).2 = l ∧ keepK l room k = (shrinkK room (l.length + 1) l).map fun L => L ++ [k] := by
  unfold keepK
  rw [rkT_keep] at h ⊢
  cases e : kplace l k.node.fid with
  | none => exact ⟨rfl, rfl⟩
  | some i => rw [e] at h; cases h

set_option maxHeartbeats 4000000 in
theorem rkeep_raw (l : List Kept) (room : Int) (k : Kept) (hl : l.length ≤ 90000000) : FnOK Try.prog 43 [.sl (l.map keptRow), .int .i64 room, .agg (keptRow k)] [] (fun r _ => r = keepRn l room k) := by
  unfold keepRn
  have hz : rkT k (l.take l.length) = rkT k l := by rw [List.take_length]
  refine fn_of_cwW tabOK (Go.Proofs.Try.func43) rfl (fun C => ?_)
  simp only [Go.Proofs.Try.ntmps43, Go.Proofs.Try.results43, go_sem]
  refine cw_go tabOK 99 (by simp only [go_sem, keptRow]; try exact rfl) ?_ ?_
  · simp
  refine cw_le (le_empty 46 72 8 (by simp only [go_sem]; try exact rfl)) ?_
  simp only [go_sem]
  refine cw_loopS (fun i : Nat => i ≤ l.length) (fun i => l.length - i) (fun i => [(8, .osl 46 8 0 i), (9, .bool (rkT k (l.take i)).1), (11, .any), (12, .any), (18, .int .i64 i), (19, .any), (20, .any), (21, .any), (22, .any), (23, .any), (24, .any), (25, .any), (26, .any), (27, .any), (28, .any), (29, .any), (30, .any), (31, .any), (32, .any), (33, .any), (34, .any), (35, .any), (36, .any), (37, .any), (38, .any), (39, .any), (40, .any), (41, .any), (42, .any), (43, .any), (44, .any), (45, .any), (46, .any), (47, .any)]) (fun i => [(46, .cells 72 8 ((rkT k (l.take i)).2.map keptRow))]) 0 (by omega) ?_ fun i hi => ?_
  · simp only [go_sem]
    exact le_sub (by simp [go_sem, rkT]) (by simp [go_sem, rkT]) (by simp [go_sem])
  simp only [go_sem]
  refine cw_go tabOK 99 (by simp only [go_sem]; try exact rfl) (by simp [go_sem]) ?_
  refine cw_cond (by simp only [go_sem]; try exact rfl) trivial (fun h => ?_) (fun h => ?_)
  · have hlt : i < l.length := by simp at h; omega
    have hg : (l.map keptRow).getD i [] = keptRow (l.getD i default) := Fam.getD hlt
    have hw : IntKind.i64.wrap ((i : Int) + 1) = ((i + 1 : Nat) : Int) := by rw [Eng.wrap_small (by omega) (by omega)]; rfl
    have htk : rkT k (l.take (i + 1)) = rkS k (rkT k (l.take i)) (l.getD i default) := by rw [take_succ_getD hlt, rkT_snoc]
    have hql := rkT_len k (l.take i)
    rw [List.length_take, Nat.min_eq_left hi] at hql
    generalize l.getD i default = x at hg htk
    generalize rkT k (l.take i) = q at *
    unfold rkS at htk
    have htq : List.take i (q.2.map keptRow) = q.2.map keptRow := List.take_of_length_le (by simp [hql])
    refine cw_goR 99 (by simp only [go_sem]; try exact rfl) ?_
    refine cw_runN tabOK 4 (by simp only [go_sem]; exact rfl) (by simp only [go_sem]; exact rfl) (by simp only [go_sem, hg, keptRow]; try exact rfl) ?_ ?_
    · simp [hg, keptRow, hlt]
    cases hb : (x.node.fid == k.node.fid && !q.1) with
    | true =>
      rw [hb, if_pos rfl] at htk
      rw [Bool.and_eq_true] at hb
      refine cw_go tabOK 99 (by simp only [go_sem]; try exact rfl) (by simp [go_sem]) ?_
      refine cw_condT (by simp only [go_sem]; try exact rfl) trivial (by simp [hb.1, hb.2]) ?_
      refine cw_go tabOK 99 (by simp only [go_sem]; try exact rfl) (by simp [go_sem]) ?_
      refine cw_cond (by simp only [go_sem]; try exact rfl) trivial (fun h => ?_) (fun h => ?_)
      · have hm : maxI k.worth x.worth = x.worth := by unfold maxI; rw [if_pos (by simpa using h)]
        refine cw_go tabOK 99 (by simp only [go_sem, hw]; try exact rfl) ?_ ?_
        · simp [htq, refs, hql]
          exact ⟨by intro row h; simp at h; subst h; rfl, by omega, fun x _ y hy => by rw [keptRow_refs hy]; simp⟩
        refine cw_back ⟨i + 1, by omega, by omega, le_sub ?_ ?_ ?_⟩
        · simp [go_sem, htk]
        · simp [go_sem, htk, htq, keptRow, wK, hm]
        · simp [go_sem]
      · have hm : maxI k.worth x.worth = k.worth := by unfold maxI; rw [if_neg (by simpa using h)]
        refine cw_go tabOK 99 (by simp only [go_sem, hw]; try exact rfl) ?_ ?_
        · simp [htq, refs, hql]
          exact ⟨by intro row h; simp at h; subst h; rfl, by omega, fun x _ y hy => by rw [keptRow_refs hy]; simp⟩
        refine cw_back ⟨i + 1, by omega, by omega, le_sub ?_ ?_ ?_⟩
        · simp [go_sem, htk]
        · simp [go_sem, htk, htq, keptRow, wK, hm]
        · simp [go_sem]
    | false =>
      rw [hb, if_neg Bool.false_ne_true] at htk
      refine cw_go tabOK 99 (by simp only [go_sem]; try exact rfl) (by simp [go_sem]) ?_
      refine cw_condF (by simp only [go_sem]; try exact rfl) trivial (by simpa [show ∀ a b : Bool, (bif a then b else false) = (a && b) from fun a b => by cases a <;> rfl] using hb) ?_
      refine cw_go tabOK 99 (by simp only [go_sem, hw]; try exact rfl) ?_ ?_
      · simp [htq, refs, hql]
        exact ⟨by intro row h; simp at h; subst h; rfl, by omega, fun x _ y hy => by rw [keptRow_refs hy]; simp⟩
      refine cw_back ⟨i + 1, by omega, by omega, le_sub ?_ ?_ ?_⟩
      · simp [go_sem, htk]
      · simp [go_sem, htk, htq, keptRow]
      · simp [go_sem]
  have e : i = l.length := by simp at h; omega
  subst e
  rw [hz]
  clear hz h
  have hql := rkT_len k l
  cases hb : (rkT k l).1 with
  | true =>
    rw [keepK_some hb]
    refine cw_go tabOK 99 (by simp only [go_sem]; try exact rfl) (by simp [go_sem]) ?_
    refine cw_condT (by simp only [go_sem]; try exact rfl) trivial (by simp) ?_
    refine cw_go tabOK 99 (by simp only [go_sem]; try exact rfl) (by simp [go_sem]) ?_
    refine cw_freeze 46 rfl (keptRow_pure _) ?_
    simp only [go_sem]
    refine cw_ret ⟨_, _, by simp only [go_sem]; try exact rfl, by simp [go_sem], _, .inr (.inl rfl), ?_⟩
    simp [hql]
    exact List.take_of_length_le (by simp [hql])
  | false =>
    obtain ⟨h1, h2⟩ := keepK_none (room := room) hb
    rw [h1, h2]
    rw [h1] at hql
    clear hi h1 h2
    refine cw_go tabOK 99 (by simp only [go_sem]; try exact rfl) (by simp [go_sem]) ?_
    refine cw_condF (by simp only [go_sem]; try exact rfl) trivial (by simp) ?_
    refine cw_go tabOK 99 (by simp only [go_sem]; try exact rfl) (by simp [go_sem]) ?_
    refine cw_loopS (fun L : List Kept => shrinkK room (L.length + 1) L = shrinkK room (l.length + 1) l ∧ L.length ≤ l.length) (fun L => L.length) (fun L => [(8, .osl 46 8 0 L.length), (13, .any), (14, .any), (15, .any), (50, .any), (51, .any), (52, .any), (53, .any), (54, .any), (55, .any), (56, .any), (57, .any), (58, .any), (59, .any), (60, .any), (61, .any), (62, .any), (63, .any), (64, .any), (65, .any), (66, .any), (67, .any), (68, .any), (69, .any), (70, .any), (71, .any), (72, .any), (73, .any), (74, .any), (75, .any), (76, .any), (77, .any), (78, .any), (79, .any), (80, .any), (81, .any), (82, .any), (83, .any), (84, .any), (85, .any), (86, .any), (87, .any), (88, .any), (89, .any), (90, .any), (91, .any), (92, .any), (93, .any), (94, .any), (95, .any)]) (fun L => [(46, .cells 72 8 (L.map keptRow))]) l ⟨rfl, Nat.le_refl _⟩ ?_ fun L hL => ?_
    · simp only [go_sem]
      exact le_sub (by simp [go_sem]) (by simp [go_sem]) (by simp [go_sem])
    obtain ⟨hsh, hLl⟩ := hL
    rw [← hsh]
    simp only [go_sem]
    refine cw_go tabOK 99 (by simp only [go_sem]; try exact rfl) (by simp [go_sem]) ?_
    refine cw_cond (by simp only [go_sem]; try exact rfl) trivial (fun h => ?_) (fun h => ?_)
    · have hge : (L.length : Int) ≥ room := by simpa using h
      refine cw_go tabOK 99 (by simp only [go_sem]; try exact rfl) (by simp [go_sem]) ?_
      refine cw_loopS (fun j : Nat => j ≤ L.length) (fun j => L.length - j) (fun j => [(13, .int .i64 (idxI (worstAt L j))), (14, .any), (15, .any), (56, .int .i64 j), (57, .any), (58, .any), (59, .any), (60, .any), (61, .any), (62, .any), (63, .any), (64, .any), (65, .any), (66, .any), (67, .any), (68, .any), (69, .any), (70, .any), (71, .any), (72, .any), (73, .any), (74, .any), (75, .any), (76, .any), (77, .any), (78, .any), (79, .any), (80, .any), (81, .any), (82, .any), (83, .any)]) (fun _ => []) 0 (by omega) ?_ fun j hj => ?_
      · simp only [go_sem]
        exact le_sub (by simp [go_sem, worstAt, idxI]) (by simp [go_sem]) (by simp [go_sem])
      simp only [go_sem]
      refine cw_go tabOK 99 (by simp only [go_sem]; try exact rfl) (by simp [go_sem]) ?_
      refine cw_cond (by simp only [go_sem]; try exact rfl) trivial (fun h => ?_) (fun h => ?_)
      · have hlt : j < L.length := by simp at h; omega
        have hg : (L.map keptRow).getD j [] = keptRow (L.getD j default) := Fam.getD hlt
        have hw : IntKind.i64.wrap ((j : Int) + 1) = ((j + 1 : Nat) : Int) := by rw [Eng.wrap_small (by omega) (by omega)]; rfl
        have hwa : worstAt L (j + 1) = if (L.getD j default).dirty || (L.getD j default).node.fid == 0 then worstAt L j
            else match worstAt L j with
              | none => some j
              | some b => if cmpK (L.getD j default) (L.getD b default) < 0 then some j else some b := rfl
        have hwl := worstAt_lt L j
        generalize L.getD j default = x at hg hwa
        refine cw_go tabOK 99 (by simp only [go_sem, hg, keptRow]; try exact rfl) ?_ ?_
        · simp [hg, keptRow, hlt]
        refine cw_draw mixed ?_
        refine seg_start rfl ?_
        cases hd : x.dirty with
        | true =>
          rw [hd, Bool.true_or, if_pos rfl] at hwa
          refine seg_runN tabOK 4 (by simp only [go_sem]; exact rfl) (by simp only [go_sem]; exact rfl) (by simp only [go_sem, hd]; try exact rfl) (by simp [go_sem, hd]) (by simp only [go_sem]; exact rfl) ?_
          try simp only [hd, Bool.not_true]
          iterate 3 refine seg_skip .any (by simp only [go_sem]; try exact rfl) (by simp only [go_sem]; exact rfl) (by simp only [go_sem]; exact rfl) ?_
          refine seg_skip (.bool false) (by simp only [go_sem]; try exact rfl) (by simp only [go_sem]; exact rfl) (by simp only [go_sem]; exact rfl) ?_
          refine seg_runN tabOK 2 (by simp only [go_sem]; exact rfl) (by simp only [go_sem]; exact rfl) (by simp only [go_sem]; try exact rfl) (by simp [go_sem]) (by simp only [go_sem]; exact rfl) ?_
          refine seg_skip .any (by simp only [go_sem]; try exact rfl) (by simp only [go_sem]; exact rfl) (by simp only [go_sem]; exact rfl) ?_
          refine seg_skip (.bool false) (by simp only [go_sem]; try exact rfl) (by simp only [go_sem]; exact rfl) (by simp only [go_sem]; exact rfl) ?_
          refine seg_skip (.bool false) (by simp only [go_sem]; try exact rfl) (by simp only [go_sem]; exact rfl) (by simp only [go_sem]; exact rfl) ?_
          iterate 5 refine seg_skip .any (by simp only [go_sem]; try exact rfl) (by simp only [go_sem]; exact rfl) (by simp only [go_sem]; exact rfl) ?_
          refine seg_skip (.bool false) (by simp only [go_sem]; try exact rfl) (by simp only [go_sem]; exact rfl) (by simp only [go_sem]; exact rfl) ?_
          refine seg_skip (.bool false) (by simp only [go_sem]; try exact rfl) (by simp only [go_sem]; exact rfl) (by simp only [go_sem]; exact rfl) ?_
          refine seg_runN tabOK 1 (by simp only [go_sem]; exact rfl) (by simp only [go_sem]; exact rfl) (by simp only [go_sem]; try exact rfl) (by simp [go_sem]) (by simp only [go_sem]; exact rfl) ?_
          refine seg_end (by kernel_rfl) (by simp only [go_sem]; exact rfl) ?_
          refine draw_close (by kernel_rfl) ?_
          try simp only [go_sem, List.getElem_toArray, List.getElem_cons_succ, List.getElem_cons_zero]
          refine cw_cond (by simp only [go_sem]; try exact rfl) trivial (fun h => ?_) (fun h => ?_)
          · exfalso; simp at h
          refine cw_go tabOK 99 (by simp only [go_sem, hw]; try exact rfl) (by simp [go_sem, hw]) ?_
          refine cw_back ⟨j + 1, by omega, by omega, le_sub ?_ ?_ ?_⟩
          · simp [go_sem, hwa]
          · simp [go_sem]
          · simp [go_sem]
        | false =>
          by_cases hf : x.node.fid = 0
          · have hf0 : (x.node.fid == 0) = true := by simp [hf]
            have hf1 : (x.node.fid != 0) = false := by simp [hf]
            rw [hd, hf0, Bool.or_true, if_pos rfl] at hwa
            refine seg_runN tabOK 10 (by simp only [go_sem]; exact rfl) (by simp only [go_sem]; exact rfl) (by simp only [go_sem, hd, hf1]; try exact rfl) (by simp [go_sem, hd, hf1]) (by simp only [go_sem]; exact rfl) ?_
            try simp only [hd, hf1, Bool.not_false, cond_true]
            refine seg_skip .any (by simp only [go_sem]; try exact rfl) (by simp only [go_sem]; exact rfl) (by simp only [go_sem]; exact rfl) ?_
            refine seg_skip (.bool false) (by simp only [go_sem]; try exact rfl) (by simp only [go_sem]; exact rfl) (by simp only [go_sem]; exact rfl) ?_
            refine seg_skip (.bool false) (by simp only [go_sem]; try exact rfl) (by simp only [go_sem]; exact rfl) (by simp only [go_sem]; exact rfl) ?_
            iterate 5 refine seg_skip .any (by simp only [go_sem]; try exact rfl) (by simp only [go_sem]; exact rfl) (by simp only [go_sem]; exact rfl) ?_
            refine seg_skip (.bool false) (by simp only [go_sem]; try exact rfl) (by simp only [go_sem]; exact rfl) (by simp only [go_sem]; exact rfl) ?_
            refine seg_skip (.bool false) (by simp only [go_sem]; try exact rfl) (by simp only [go_sem]; exact rfl) (by simp only [go_sem]; exact rfl) ?_
            refine seg_runN tabOK 1 (by simp only [go_sem]; exact rfl) (by simp only [go_sem]; exact rfl) (by simp only [go_sem]; try exact rfl) (by simp [go_sem]) (by simp only [go_sem]; exact rfl) ?_
            refine seg_end (by kernel_rfl) (by simp only [go_sem]; exact rfl) ?_
            refine draw_close (by kernel_rfl) ?_
            try simp only [go_sem, List.getElem_toArray, List.getElem_cons_succ, List.getElem_cons_zero]
            refine cw_cond (by simp only [go_sem]; try exact rfl) trivial (fun h => ?_) (fun h => ?_)
            · exfalso; simp at h
            refine cw_go tabOK 99 (by simp only [go_sem, hw]; try exact rfl) (by simp [go_sem, hw]) ?_
            refine cw_back ⟨j + 1, by omega, by omega, le_sub ?_ ?_ ?_⟩
            · simp [go_sem, hwa]
            · simp [go_sem]
            · simp [go_sem]
          · have hf0 : (x.node.fid == 0) = false := by simp [hf]
            have hf1 : (x.node.fid != 0) = true := by simp [hf]
            rw [hd, hf0, Bool.or_false, if_neg Bool.false_ne_true] at hwa
            cases hwb : worstAt L j with
            | none =>
              rw [hwb] at hwa
              simp only at hwa
              refine seg_runN tabOK 13 (by simp only [go_sem]; exact rfl) (by simp only [go_sem]; exact rfl) (by simp only [go_sem, hd, hf1, idxI]; try exact rfl) (by simp [go_sem, hd, hf1, idxI]) (by simp only [go_sem]; exact rfl) ?_
              try simp only [hd, hf1, Bool.not_false, cond_true, show decide ((-1 : Int) < 0) = true from rfl, beq_self_eq_true, Bool.true_and, Bool.and_true]
              iterate 5 refine seg_skip .any (by simp only [go_sem]; try exact rfl) (by simp only [go_sem]; exact rfl) (by simp only [go_sem]; exact rfl) ?_
              refine seg_skip (.bool false) (by simp only [go_sem]; try exact rfl) (by simp only [go_sem]; exact rfl) (by simp only [go_sem]; exact rfl) ?_
              refine seg_runN tabOK 2 (by simp only [go_sem]; exact rfl) (by simp only [go_sem]; exact rfl) (by simp only [go_sem]; try exact rfl) (by simp [go_sem]) (by simp only [go_sem]; exact rfl) ?_
              refine seg_end (by kernel_rfl) (by simp only [go_sem]; exact rfl) ?_
              refine draw_close (by kernel_rfl) ?_
              try simp only [go_sem, List.getElem_toArray, List.getElem_cons_succ, List.getElem_cons_zero]
              refine cw_cond (by simp only [go_sem]; try exact rfl) trivial (fun h => ?_) (fun h => ?_)
              · refine cw_go tabOK 99 (by simp only [go_sem, hw]; try exact rfl) (by simp [go_sem, hw]) ?_
                refine cw_back ⟨j + 1, by omega, by omega, le_sub ?_ ?_ ?_⟩
                · simp [go_sem, hwa, idxI]
                · simp [go_sem]
                · simp [go_sem]
              · exfalso; simp at h
            | some b =>
              rw [hwb] at hwa
              simp only at hwa
              have hbj := hwl b hwb
              have hgb : (L.map keptRow).getD b [] = keptRow (L.getD b default) := Fam.getD (by omega)
              have hneg : decide ((b : Int) < 0) = false := decide_eq_false (by omega)
              generalize L.getD b default = y at hgb hwa
              refine seg_runN tabOK 13 (by simp only [go_sem]; exact rfl) (by simp only [go_sem]; exact rfl) (by simp only [go_sem, hd, hf1, idxI, hneg]; try exact rfl) (by simp [go_sem, hd, hf1, idxI, hneg]) (by simp only [go_sem]; exact rfl) ?_
              try simp only [hd, hf1, hneg, Bool.not_false, cond_true, beq_self_eq_true, Bool.true_and, Bool.and_true]
              refine seg_runN tabOK 5 (by simp only [go_sem]; exact rfl) (by simp only [go_sem]; exact rfl) (by simp only [go_sem, hgb, keptRow]; try exact rfl) ?_ (by simp only [go_sem]; exact rfl) ?_
              · simp [hgb, keptRow]
                omega
              have hws := worse_ok x y
              unfold keptRow at hws
              rw [hd] at hws
              refine seg_callC rfl (by simp only [go_sem]; try exact rfl) (by simp only [go_sem]; try exact rfl) (by simp [go_sem]) ⟨_, Go.Proofs.Try.func50, by kernel_rfl, rfl⟩ (by simp [go_sem]) (fun hb => (hws)) (by simp [go_sem]) (by simp only [go_sem]; exact rfl) (by simp only [go_sem]; exact rfl) ?_
              refine seg_runN tabOK 2 (by simp only [go_sem]; exact rfl) (by simp only [go_sem]; exact rfl) (by simp only [go_sem]; try exact rfl) (by simp [go_sem]) (by simp only [go_sem]; exact rfl) ?_
              refine seg_end (by kernel_rfl) (by simp only [go_sem]; exact rfl) ?_
              refine draw_close (by kernel_rfl) ?_
              try simp only [go_sem, List.getElem_toArray, List.getElem_cons_succ, List.getElem_cons_zero]
              refine cw_cond (by simp only [go_sem]; try exact rfl) trivial (fun h => ?_) (fun h => ?_)
              · have hc : cmpK x y < 0 := by simpa using h
                rw [if_pos hc] at hwa
                refine cw_go tabOK 99 (by simp only [go_sem, hw]; try exact rfl) (by simp [go_sem, hw]) ?_
                refine cw_back ⟨j + 1, by omega, by omega, le_sub ?_ ?_ ?_⟩
                · simp [go_sem, hwa, idxI]
                · simp [go_sem]
                · simp [go_sem]
              · have hc : ¬ cmpK x y < 0 := by simpa using h
                rw [if_neg hc] at hwa
                refine cw_go tabOK 99 (by simp only [go_sem, hw]; try exact rfl) (by simp [go_sem, hw]) ?_
                refine cw_back ⟨j + 1, by omega, by omega, le_sub ?_ ?_ ?_⟩
                · simp [go_sem, hwa, idxI]
                · simp [go_sem]
                · simp [go_sem]
      · have e : j = L.length := by simp at h; omega
        subst e
        have hwk : worstAt L L.length = worstK L := rfl
        rw [hwk]
        cases hwb : worstK L with
        | none =>
          have hn : shrinkK room (L.length + 1) L = none := by rw [shrinkK, if_pos hge, hwb]
          rw [hn]
          refine cw_go tabOK 99 (by simp only [go_sem, idxI]; try exact rfl) (by simp [go_sem, idxI]) ?_
          refine cw_cond (by simp only [go_sem]; try exact rfl) trivial (fun h => ?_) (fun h => ?_)
          · refine cw_go tabOK 99 (by simp only [go_sem]; try exact rfl) (by simp [go_sem]) ?_
            refine cw_ret ⟨_, _, by simp only [go_sem]; try exact rfl, by simp [go_sem], _, .inr (.inl rfl), ?_⟩
            rfl
          · exfalso; simp at h
        | some b =>
          have hbl : b < L.length := worstAt_lt L L.length b hwb
          have hsh2 : shrinkK room (L.length + 1) L = shrinkK room L.length (L.eraseIdx b) := by rw [shrinkK, if_pos hge, hwb]
          have hel : (L.eraseIdx b).length + 1 = L.length := by rw [List.length_eraseIdx, if_pos hbl]; omega
          have her : L.eraseIdx b = L.take b ++ L.drop (b + 1) := List.eraseIdx_eq_take_drop_succ L b
          have hneg : decide ((b : Int) < 0) = false := decide_eq_false (by omega)
          have hwb1 : IntKind.i64.wrap ((b : Int) + 1) = ((b + 1 : Nat) : Int) := by rw [Eng.wrap_small (by omega) (by omega)]; rfl
          have hA1 : List.take b (L.map keptRow) = (L.take b).map keptRow := by rw [List.map_take]
          have hB1 : List.take (L.length - (b + 1)) (List.drop (b + 1) (L.map keptRow)) = (L.drop (b + 1)).map keptRow := by rw [← List.map_drop, List.take_of_length_le (by simp)]
          have hlA : (L.take b).length = b := by rw [List.length_take]; omega
          have hlB : (L.drop (b + 1)).length = L.length - (b + 1) := List.length_drop
          generalize L.take b = A at hA1 hlA her
          generalize L.drop (b + 1) = B at hB1 hlB her
          subst hlA
          refine cw_go tabOK 99 (by simp only [go_sem, idxI]; try exact rfl) (by simp [go_sem, idxI]) ?_
          refine cw_cond (by simp only [go_sem]; try exact rfl) trivial (fun h => ?_) (fun h => ?_)
          · exfalso; simp at h; omega
          refine cw_go tabOK 99 (by simp only [go_sem]; try exact rfl) (by simp [go_sem]) ?_
          refine cw_draw mixed ?_
          refine draw_earlyM 1 [0, 2, 3, 4, 5, 6, 7, 8, 9, 10] [0, 0, 1, 2, 3, 4, 5, 6, 7, 8, 9] rfl rfl rfl (fun _ _ _ h => h) (by kernel_rfl) (by kernel_rfl) (by simp [remOps, remOp, renE]; exact rfl) (by simp only [go_sem]; try exact rfl) ?_
          simp only [go_sem, List.getElem_toArray, List.getElem_cons_succ, List.getElem_cons_zero]
          refine draw_earlyM 1 [0, 2, 3, 4, 5, 6, 7, 8, 9] [0, 0, 1, 2, 3, 4, 5, 6, 7, 8] rfl rfl rfl (fun _ _ _ h => h) (by kernel_rfl) (by kernel_rfl) (by simp [remOps, remOp, renE]; exact rfl) (by simp only [go_sem]; try exact rfl) ?_
          simp only [go_sem, List.getElem_toArray, List.getElem_cons_succ, List.getElem_cons_zero]
          refine draw_earlyV 1 [0, 2, 3, 4, 5, 6, 7, 8] [0, 0, 1, 2, 3, 4, 5, 6, 7] rfl rfl (fun _ _ _ h => h) (by kernel_rfl) (by kernel_rfl) (by simp [remOps, remOp, renE]; exact rfl) (slice_any tabOK rfl rfl rfl (by decide) (by simp only [go_sem]; try exact rfl) (.inl ⟨rfl, rfl⟩) (.inr ⟨_, rfl, _, (by simp only [go_sem]; try exact rfl)⟩) (by simp [hbl, Nat.le_of_lt hbl]) (by simp [hbl, Nat.le_of_lt hbl])) ?_
          simp only [go_sem, List.getElem_toArray, List.getElem_cons_succ, List.getElem_cons_zero]
          refine draw_earlyM 2 [0, 1, 3, 4, 5, 6, 7] [0, 1, 0, 2, 3, 4, 5, 6] rfl rfl rfl (fun _ _ _ h => h) (by kernel_rfl) (by kernel_rfl) (by simp [remOps, remOp, renE]; exact rfl) (by simp only [go_sem]; try exact rfl) ?_
          simp only [go_sem, List.getElem_toArray, List.getElem_cons_succ, List.getElem_cons_zero]
          refine draw_earlyM 2 [0, 1, 3, 4, 5, 6] [0, 1, 0, 2, 3, 4, 5] rfl rfl rfl (fun _ _ _ h => h) (by kernel_rfl) (by kernel_rfl) (by simp [remOps, remOp, renE]; exact rfl) (by simp only [go_sem]; try exact rfl) ?_
          simp only [go_sem, List.getElem_toArray, List.getElem_cons_succ, List.getElem_cons_zero]
          refine draw_earlyV 2 [0, 1, 3, 4, 5] [0, 1, 0, 2, 3, 4] rfl rfl (fun _ _ _ h => h) (by kernel_rfl) (by kernel_rfl) (by simp [remOps, remOp, renE]; exact rfl) (add_any rfl (by simp only [go_sem]; try exact rfl) (by simp only [go_sem]; try exact rfl)) ?_
          simp only [go_sem, hwb1, List.getElem_toArray, List.getElem_cons_succ, List.getElem_cons_zero]
          refine draw_earlyV 2 [0, 1, 3, 4] [0, 1, 0, 2, 3] rfl rfl (fun _ _ _ h => h) (by kernel_rfl) (by kernel_rfl) (by simp [remOps, remOp, renE]; exact rfl) (slice_any tabOK rfl rfl rfl (by decide) (by simp only [go_sem]; try exact rfl) (.inr ⟨_, rfl, _, (by simp only [go_sem]; try exact rfl)⟩) (.inl ⟨rfl, rfl⟩) (by simp [hbl, Nat.succ_le_of_lt hbl]) (by simp [hbl, Nat.succ_le_of_lt hbl])) ?_
          simp only [go_sem, List.getElem_toArray, List.getElem_cons_succ, List.getElem_cons_zero]
          refine drawD (n := 4) (by kernel_rfl) rfl ?_
          refine drawD_one (i := 0) (by kernel_rfl) rfl rfl (trip_go tabOK rfl (by simp only [go_sem]; try exact rfl) (by simp [go_sem])) ?_
          try simp only [go_sem, hA1, hB1, Nat.sub_zero, List.drop_zero, List.length_map, Nat.zero_add, hwb1, List.getElem_toArray, List.getElem_cons_succ, List.getElem_cons_zero]
          refine drawD_one (i := 1) (by kernel_rfl) rfl rfl (trip_go tabOK rfl (by simp only [go_sem, hA1, hB1, Nat.sub_zero, List.drop_zero, List.length_map, Nat.zero_add, hwb1, List.getElem_toArray, List.getElem_cons_succ, List.getElem_cons_zero]; try exact rfl) ?_) ?_
          · simp [go_sem, hA1, hB1, Nat.sub_zero, List.drop_zero, List.length_map, Nat.zero_add, hwb1, List.getElem_toArray, List.getElem_cons_succ, List.getElem_cons_zero]
            omega
          try simp only [go_sem, hA1, hB1, Nat.sub_zero, List.drop_zero, List.length_map, Nat.zero_add, hwb1, List.getElem_toArray, List.getElem_cons_succ, List.getElem_cons_zero]
          refine drawD_one (i := 2) (by kernel_rfl) rfl rfl (trip_go tabOK rfl (by simp only [go_sem, hA1, hB1, Nat.sub_zero, List.drop_zero, List.length_map, Nat.zero_add, hwb1, List.getElem_toArray, List.getElem_cons_succ, List.getElem_cons_zero]; try exact rfl) ?_) ?_
          · simp [go_sem, hA1, hB1, Nat.sub_zero, List.drop_zero, List.length_map, Nat.zero_add, hwb1, List.getElem_toArray, List.getElem_cons_succ, List.getElem_cons_zero, hlB]
            omega
          try simp only [go_sem, hA1, hB1, Nat.sub_zero, List.drop_zero, List.length_map, Nat.zero_add, hwb1, List.getElem_toArray, List.getElem_cons_succ, List.getElem_cons_zero]
          refine drawD_one (i := 3) (by kernel_rfl) rfl rfl (trip_go tabOK rfl (by simp only [go_sem]; try exact rfl) (by simp [go_sem])) ?_
          refine drawD_end (by kernel_rfl) ?_
          simp only [go_sem, List.getElem_toArray, List.getElem_cons_succ, List.getElem_cons_zero]
          refine cw_le (le_drop 46 (by simp only [go_sem, hdel]; exact rfl) (by simp only [go_sem]; try exact rfl) (by simp only [go_sem, kill]; exact rfl)) ?_
          refine cw_le (le_mv 95 46 (by simp only [go_sem]; exact rfl) (by simp only [go_sem]; try exact rfl) (by simp only [go_sem]; try exact rfl) (by simp only [go_sem, hdel]; exact rfl) (by simp only [go_sem]; try exact rfl) (by simp only [go_sem, mv1, kill]; exact rfl)) ?_
          refine cw_go tabOK 99 (by simp only [go_sem]; try exact rfl) (by simp [go_sem]) ?_
          have her2 : L.eraseIdx A.length = A ++ B := her
          have hlen2 : (A ++ B).length + 1 = L.length := by rw [← her]; exact hel
          refine cw_back ⟨A ++ B, ⟨by rw [hsh2, her, hlen2], by omega⟩, by omega, le_sub ?_ ?_ ?_⟩
          · simp [go_sem, hlB]
          · simp [go_sem, hB1]
          · simp [go_sem]
    · have hlt : ¬ (L.length : Int) ≥ room := by simpa using h
      have hn : shrinkK room (L.length + 1) L = some L := by rw [shrinkK, if_neg hlt]
      rw [hn]
      refine cw_go tabOK 99 (by simp only [go_sem]; try exact rfl) ?_ ?_
      · simp
        exact ⟨by intro row h; simp at h; subst h; rfl, by omega⟩
      rw [show List.map keptRow L ++ [[AV.int .i64 k.node.fid, .bool k.node.dir, .sl (k.node.data.map byteRow), .sl (k.node.entries.map entryRow), .int .i64 k.node.version, .bool k.dirty, .int .i64 k.worth, .int .i64 k.last]] = (L ++ [k]).map keptRow by simp [keptRow]]
      refine cw_freeze 99 rfl (keptRow_pure _) ?_
      simp only [go_sem]
      refine cw_ret ⟨_, _, by simp only [go_sem]; try exact rfl, by simp [go_sem], _, .inr (.inl rfl), ?_⟩
      simp
      exact List.take_of_length_le (by simp)
theorem rkeep_ok (l : List Kept) (room : Int) (k : Kept) (hl : l.length ≤ 90000000) : FnOK Try.prog 43 [.sl (l.map keptRow), .int .i64 room, .agg (keptRow k)] [] (fun r _ => r = keepR l room k) := by
  have h := rkeep_raw l room k hl
  unfold keepRn at h
  unfold keepR
  cases e : keepK l room k with
  | none =>
    rw [e] at h
    exact h.nrmR rfl
  | some L =>
    rw [e] at h
    exact h
end La

namespace La
open Go Go.Eng Go.Proofs
set_option maxRecDepth 10000
set_option linter.unusedSimpArgs false
set_option linter.unusedVariables false

/-- what the reference's Fresh leaves -/
theorem rfreshK_ok (l : List Kept) (at_ : List Node) (hl : l.length ≤ 90000000) (hu : Up at_) : FnOK Try.prog 49 [.sl (l.map keptRow), .rm (mN (mapD at_))] [] (fun r _ => r = .sl ((l.filter fun k => !staleK at_ k).map keptRow)) := by
  have hgf : ∀ k, mget (mN (mapD at_)) k = (findN at_ k).map fun n => AV.agg (nodeRow n) := fun k => by rw [mN_get, mapD_get hu]
  refine fn_of_cwW tabOK (Go.Proofs.Try.func49) rfl (fun C => ?_)
  simp only [Go.Proofs.Try.ntmps49, Go.Proofs.Try.results49, go_sem]
  refine cw_go tabOK 99 (by simp only [go_sem]; try exact rfl) (by simp [go_sem]) ?_
  refine cw_le (le_empty 40 72 8 (by simp only [go_sem]; try exact rfl)) ?_
  simp only [go_sem]
  refine cw_loopS (fun i : Nat => i ≤ l.length) (fun i => l.length - i) (fun i => [(5, .osl 40 8 0 ((l.take i).filter fun k => !staleK at_ k).length), (7, .any), (8, .any), (9, .any), (12, .int .i64 i), (13, .any), (14, .any), (15, .any), (16, .any), (17, .any), (18, .any), (19, .any), (20, .any), (21, .any), (22, .any), (23, .any), (24, .any), (25, .any), (26, .any), (27, .any), (28, .any), (29, .any), (30, .any), (31, .any), (32, .any), (33, .any), (34, .any), (35, .any), (36, .any), (37, .any), (38, .any), (39, .any), (40, .any), (41, .any)]) (fun i => [(40, .cells 72 8 (((l.take i).filter fun k => !staleK at_ k).map keptRow))]) 0 (by omega) ?_ fun i hi => ?_
  · simp only [go_sem]
    exact le_sub (by simp [go_sem]) (by simp [go_sem]) (by simp [go_sem])
  simp only [go_sem]
  refine cw_go tabOK 99 (by simp only [go_sem]; try exact rfl) (by simp [go_sem]) ?_
  refine cw_cond (by simp only [go_sem]; try exact rfl) trivial (fun h => ?_) (fun h => ?_)
  · have hlt : i < l.length := by simp at h; omega
    have hg : (l.map keptRow).getD i [] = keptRow (l.getD i default) := Fam.getD hlt
    have hw : IntKind.i64.wrap ((i : Int) + 1) = ((i + 1 : Nat) : Int) := by rw [Eng.wrap_small (by omega) (by omega)]; rfl
    have htk : (l.take (i + 1)).filter (fun k => !staleK at_ k) = (l.take i).filter (fun k => !staleK at_ k) ++ if staleK at_ (l.getD i default) = true then [] else [l.getD i default] := by
      rw [take_succ_getD hlt, List.filter_append, List.filter_cons]
      cases staleK at_ (l.getD i default) <;> simp
    have hll : ((l.take i).filter fun k => !staleK at_ k).length ≤ i := by
      have := List.length_filter_le (fun k => !staleK at_ k) (l.take i)
      simp only [List.length_take] at this
      omega
    generalize (l.take i).filter (fun k => !staleK at_ k) = D at htk hll
    generalize l.getD i default = k at hg htk
    have hg1 := hgf k.node.fid
    have hst : staleK at_ k = (!k.dirty && (!(findN at_ k.node.fid).isSome || !(((findN at_ k.node.fid).getD zeroN).version == k.node.version))) := by unfold staleK; rw [isAt_eq]
    have htq : List.take D.length (D.map keptRow) = D.map keptRow := List.take_of_length_le (by simp)
    cases hff : findN at_ k.node.fid with
    | none =>
      rw [hff] at hg1 hst
      simp only [Option.map_none] at hg1
      refine cw_goR 99 (by simp only [go_sem]; try exact rfl) ?_
      refine cw_runN tabOK 4 (by simp only [go_sem]; exact rfl) (by simp only [go_sem]; exact rfl) (by simp only [go_sem, hg, keptRow]; try exact rfl) ?_ ?_
      · simp [hg, keptRow, hlt]
      refine cw_goR 99 (by simp only [go_sem]; try exact rfl) ?_
      refine cw_runN tabOK 11 (by simp only [go_sem]; exact rfl) (by simp only [go_sem]; exact rfl) (by simp only [go_sem, hg1]; try exact rfl) (by simp [go_sem, hg1]) ?_
      cases hd : k.dirty with
      | true =>
        rw [hd] at hst
        rw [hst, if_neg (by simp)] at htk
        refine cw_go tabOK 99 (by simp only [go_sem, hd, cond_true, cond_false]; try exact rfl) (by simp [go_sem, hd, cond_true, cond_false]) ?_
        refine cw_condT (by simp only [go_sem]; try exact rfl) trivial (by simp) ?_
        refine cw_go tabOK 99 (by simp only [go_sem, hw]; try exact rfl) ?_ ?_
        · simp [htq, refs]
          exact ⟨by intro row h; simp at h; subst h; rfl, by omega⟩
        refine cw_back ⟨i + 1, by omega, by omega, le_sub ?_ ?_ ?_⟩
        · simp [go_sem, htk]
        · simp [go_sem, htk, htq, keptRow, hd]
        · simp [go_sem]
      | false =>
        rw [hd] at hst
        rw [hst, if_pos (by simp)] at htk
        refine cw_go tabOK 99 (by simp only [go_sem, hd, cond_true, cond_false]; try exact rfl) (by simp [go_sem, hd, cond_true, cond_false]) ?_
        refine cw_condF (by simp only [go_sem]; try exact rfl) trivial (by simp) ?_
        refine cw_go tabOK 99 (by simp only [go_sem, hw]; try exact rfl) (by simp [go_sem, hw]) ?_
        refine cw_back ⟨i + 1, by omega, by omega, le_sub ?_ ?_ ?_⟩
        · simp [go_sem, htk]
        · simp [go_sem, htk]
        · simp [go_sem]
    | some n =>
      rw [hff] at hg1 hst
      simp only [Option.map_some] at hg1
      refine cw_goR 99 (by simp only [go_sem]; try exact rfl) ?_
      refine cw_runN tabOK 4 (by simp only [go_sem]; exact rfl) (by simp only [go_sem]; exact rfl) (by simp only [go_sem, hg, keptRow]; try exact rfl) ?_ ?_
      · simp [hg, keptRow, hlt]
      refine cw_goR 99 (by simp only [go_sem]; try exact rfl) ?_
      refine cw_runN tabOK 11 (by simp only [go_sem]; exact rfl) (by simp only [go_sem]; exact rfl) (by simp only [go_sem, hg1, nodeRow]; try exact rfl) (by simp [go_sem, hg1, nodeRow]) ?_
      cases hd : k.dirty with
      | true =>
        rw [hd] at hst
        rw [hst, if_neg (by simp)] at htk
        refine cw_go tabOK 99 (by simp only [go_sem, hd, cond_true, cond_false]; try exact rfl) (by simp [go_sem, hd, cond_true, cond_false]) ?_
        refine cw_condT (by simp only [go_sem]; try exact rfl) trivial (by simp) ?_
        refine cw_go tabOK 99 (by simp only [go_sem, hw]; try exact rfl) ?_ ?_
        · simp [htq, refs]
          exact ⟨by intro row h; simp at h; subst h; rfl, by omega⟩
        refine cw_back ⟨i + 1, by omega, by omega, le_sub ?_ ?_ ?_⟩
        · simp [go_sem, htk]
        · simp [go_sem, htk, htq, keptRow, hd]
        · simp [go_sem]
      | false =>
        rw [hd] at hst
        cases hv : (n.version == k.node.version) with
        | true =>
          rw [hst, if_neg (by simp [hv])] at htk
          refine cw_go tabOK 99 (by simp only [go_sem, hd, hv, cond_true, cond_false]; try exact rfl) (by simp [go_sem, hd, hv, cond_true, cond_false]) ?_
          refine cw_condT (by simp only [go_sem]; try exact rfl) trivial (by simp) ?_
          refine cw_go tabOK 99 (by simp only [go_sem, hw]; try exact rfl) ?_ ?_
          · simp [htq, refs]
            exact ⟨by intro row h; simp at h; subst h; rfl, by omega⟩
          refine cw_back ⟨i + 1, by omega, by omega, le_sub ?_ ?_ ?_⟩
          · simp [go_sem, htk]
          · simp [go_sem, htk, htq, keptRow, hd]
          · simp [go_sem]
        | false =>
          rw [hst, if_pos (by simp [hv])] at htk
          refine cw_go tabOK 99 (by simp only [go_sem, hd, hv, cond_true, cond_false]; try exact rfl) (by simp [go_sem, hd, hv, cond_true, cond_false]) ?_
          refine cw_condF (by simp only [go_sem]; try exact rfl) trivial (by simp) ?_
          refine cw_go tabOK 99 (by simp only [go_sem, hw]; try exact rfl) (by simp [go_sem, hw]) ?_
          refine cw_back ⟨i + 1, by omega, by omega, le_sub ?_ ?_ ?_⟩
          · simp [go_sem, htk]
          · simp [go_sem, htk]
          · simp [go_sem]
  · have e : i = l.length := by simp at h; omega
    subst e
    rw [List.take_length]
    refine cw_go tabOK 99 (by simp only [go_sem]; try exact rfl) (by simp [go_sem]) ?_
    refine cw_freeze 40 rfl (keptRow_pure _) ?_
    simp only [go_sem]
    refine cw_ret ⟨_, _, (by simp only [go_sem]; try exact rfl), by simp [go_sem], _, .inr (.inl rfl), ?_⟩
    simp
end La

namespace La
open Go Go.Eng Go.Proofs
set_option maxRecDepth 10000
set_option linter.unusedSimpArgs false
set_option linter.unusedVariables false

theorem mput_at {α : Type} {n : Int} {v : α} [Inhabited α] : ∀ (S : List (Int × α)) (k : Nat), k ≤ S.length → (∀ j, j < k → (S.getD j default).1 < n) → (∀ h : k < S.length, n < (S.getD k default).1) → mput S n v = S.take k ++ (n, v) :: S.drop k
  | [], k, hk, _, _ => by
    have : k = 0 := by simpa using hk
    subst this
    rfl
  | p :: S, 0, _, _, h => by
    have := h (by simp)
    simp only [List.getD_cons_zero] at this
    simp only [mput, List.take_zero, List.drop_zero, List.nil_append]
    rw [if_neg (by omega), if_pos this]
  | p :: S, k + 1, hk, h1, h2 => by
    have h0 := h1 0 (by omega)
    simp only [List.getD_cons_zero] at h0
    have ih := mput_at (n := n) (v := v) S k (by simpa using hk) (fun j hj => by have := h1 (j + 1) (by omega); simpa using this) (fun h => by have := h2 (by simpa using h); simpa using this)
    simp only [mput, List.take_succ_cons, List.drop_succ_cons, List.cons_append]
    rw [if_neg (by omega), if_neg (by omega), ih]

def rowP (p : Int × Node) : List AV := nodeRow p.2
theorem fam_rowP : Fam rowP 5 := ⟨fun _ => rfl, fun _ => rfl, fun _ => rfl, fun _ => rfl⟩
@[go_sem, simp] theorem rowP_rowsOf (l : List _) : Eng.rowsOf 5 (l.map rowP) := fam_rowP.rowsOf l
@[go_sem, simp] theorem rowP_leaf (l : List _) : ((l.map rowP).all fun row => row.all AV.leaf) = true := fam_rowP.allLeaf l
@[go_sem, simp] theorem rowP_pure (l : List _) : ((l.map rowP).all fun row => row.all AV.pureB) = true := fam_rowP.allPure l
@[go_sem, simp] theorem rowP_noRef (id : Nat) (l : List _) : ((l.map rowP).all fun row => row.all fun x => !(refs x).contains id) = true := fam_rowP.noRef id l
@[go_sem, simp] theorem rowP_refsB (e s : Nat) (l : List _) : refsB (.cells e s (l.map rowP)) = [] := fam_rowP.refsB e s l
@[go_sem, simp] theorem rowP_renL (off : Nat) (l : List _) : (l.map rowP).map (renL off) = l.map rowP := Fam.renL (fun _ _ => rfl) off l
@[go_sem, simp] theorem rowP_frzL (id s : Nat) (rows : List (List AV)) (l : List _) : (l.map rowP).map (frzL id s rows) = l.map rowP := Fam.frzL (fun _ _ _ _ => rfl) id s rows l
@[go_sem, simp] theorem rowP_refsL (a) : refsL (rowP a) = [] := fam_rowP.free a

theorem rowP_refs {p : Int × Node} {x : AV} (h : x ∈ rowP p) : refs x = [] := by
  simp only [rowP, nodeRow, List.mem_cons, List.not_mem_nil, or_false] at h
  rcases h with rfl | rfl | rfl | rfl | rfl <;> rfl
theorem row5 (nd : Node) : rowsOf 5 [[AV.int .i64 nd.fid, .bool nd.dir, .sl (nd.data.map byteRow), .sl (nd.entries.map entryRow), .int .i64 nd.version]] := by
  intro row h
  rw [List.mem_singleton] at h
  subst h
  rfl

set_option maxHeartbeats 4000000 in
theorem list_raw (m : List (Int × Node)) (hr : RiseM m) (hkf : ∀ p, p ∈ m → p.2.fid = p.1) (hlen : m.length ≤ 50000000) : FnOK Try.prog 30 [.rm (mN m)] [] (fun r _ => r = .sl (m.map rowP)) := by
  refine fn_of_cwW tabOK (Go.Proofs.Try.func30) rfl (fun C => ?_)
  simp only [Go.Proofs.Try.ntmps30, Go.Proofs.Try.results30, go_sem]
  refine cw_go tabOK 99 (by simp only [go_sem]; try exact rfl) (by simp [go_sem]) ?_
  refine cw_range tabOK rfl rfl rfl (by simp only [go_sem]; try exact rfl) (by simp only [go_sem]; try exact rfl) (by simp only [go_sem]; try exact rfl) ?_
  refine cw_go tabOK 99 (by simp only [go_sem]; try exact rfl) (by simp [go_sem]) ?_
  refine cw_le (le_empty 99 46 5 (by simp only [go_sem]; try exact rfl)) ?_
  simp only [go_sem]
  refine cw_loopS (fun _ : List Int => True) (fun seen => leftM m seen) (fun seen => [(3, .osl 99 5 0 (seenM m seen).length), (5, .any), (6, .any), (9, .any), (10, .any), (11, .any), (12, .any), (13, .any), (14, .any), (15, .any), (16, .any), (17, .any), (18, .any), (19, .any), (20, .any), (21, .any), (22, .any), (23, .any), (24, .any), (25, .any), (26, .any), (27, .any), (28, .any), (29, .any), (30, .any), (31, .any), (32, .any), (33, .any), (34, .any), (35, .any), (36, .any), (37, .any), (38, .any), (39, .any), (40, .any)]) (fun seen => [(99, .cells 46 5 ((seenM m seen).map rowP)), (8, .iter (mN m) seen)]) [] trivial ?_ fun seen _ => ?_
  · simp only [go_sem]
    exact le_sub (by simp [go_sem, seenM_nil]) (by simp [go_sem, seenM_nil, mN_nil]) (by simp [go_sem])
  simp only [go_sem]
  refine cw_goR 99 (by simp only [go_sem]; try exact rfl) ?_
  refine cw_next rfl rfl (by simp only [go_sem]; try exact rfl) (by simp only [go_sem]; try exact rfl) (fun hall => ?_) (fun n v hnv hns => ?_)
  · have hsa : seenM m seen = m := seenM_all fun p hp => hall (p.1, .agg (nodeRow p.2)) (mN_has hp)
    rw [hsa]
    simp only [go_sem]
    refine cw_go tabOK 99 (by simp only [go_sem]; try exact rfl) (by simp [go_sem]) ?_
    refine cw_condF (by simp only [go_sem]; try exact rfl) trivial (rfl) ?_
    refine cw_go tabOK 99 (by simp only [go_sem]; try exact rfl) (by simp [go_sem]) ?_
    refine cw_freeze 99 rfl (rowP_pure _) ?_
    simp only [go_sem]
    refine cw_ret ⟨_, _, (by simp only [go_sem]; try exact rfl), by simp [go_sem], _, .inr (.inl rfl), ?_⟩
    simp
  · obtain ⟨nd, rfl, hmem⟩ := mN_mem hnv
    have hpt := seenM_put hr hmem (seen := seen)
    have hlt := leftM_lt hmem hns
    have hfid : nd.fid = n := hkf _ hmem
    have hsub : ∀ p, p ∈ seenM m seen → p.2.fid = p.1 ∧ p.1 ≠ n := fun p hp => by
      have h1 := List.mem_filter.1 hp
      refine ⟨hkf p h1.1, fun e => hns ?_⟩
      have := h1.2
      rw [e] at this
      simpa using this
    have hsl : (seenM m seen).length ≤ m.length := List.length_filter_le _ _
    have hsr : RiseM (seenM m seen) := hr.filter _
    simp only [go_sem]
    refine cw_go tabOK 99 (by simp only [go_sem]; try exact rfl) (by simp [go_sem]) ?_
    refine cw_condT (by simp only [go_sem]; try exact rfl) trivial (rfl) ?_
    refine cw_goR 99 (by simp only [go_sem]; try exact rfl) ?_
    refine cw_entry rfl rfl (by simp only [go_sem]; try exact rfl) (by simp only [go_sem]; try exact rfl) (hnv) ?_
    simp only [go_sem]
    refine cw_go tabOK 99 (by simp only [go_sem, nodeRow]; try exact rfl) ?_ ?_
    · simp [nodeRow, AV.deepB, AV.pureB]
    clear hlt hnv
    have hlt := leftM_lt hmem hns
    generalize hS : seenM m seen = S at *
    refine cw_loopS (fun k : Nat => k ≤ S.length ∧ ∀ j, j < k → (S.getD j default).1 < n) (fun k => S.length - k) (fun k => [(6, .int .i64 k), (13, .any), (14, .any), (15, .any), (16, .any), (17, .any), (18, .any), (19, .any), (20, .any), (21, .any), (22, .any), (23, .any), (24, .any), (25, .any), (26, .any), (27, .any), (28, .any)]) (fun _ => []) 0 ⟨by omega, by omega⟩ ?_ fun k hk => ?_
    · simp only [go_sem]
      exact le_sub (by simp [go_sem]) (by simp [go_sem]) (by simp [go_sem])
    obtain ⟨hk, hk2⟩ := hk
    simp only [go_sem]
    refine cw_go tabOK 99 (by simp only [go_sem]; try exact rfl) (by simp [go_sem]) ?_
    refine cw_draw mixed ?_
    refine seg_start rfl ?_
    by_cases hkl : k < S.length
    · have hg : (S.map rowP).getD k [] = rowP (S.getD k default) := Fam.getD hkl
      have hw : IntKind.i64.wrap ((k : Int) + 1) = ((k + 1 : Nat) : Int) := by rw [Eng.wrap_small (by omega) (by omega)]; rfl
      have hmk := hsub _ (getD_mem hkl)
      have hat : (∀ h : k < S.length, n < (S.getD k default).1) → mput S n nd = S.take k ++ (n, nd) :: S.drop k := mput_at S k hk hk2
      have hk3 : (S.getD k default).1 < n → ∀ j, j < k + 1 → (S.getD j default).1 < n := fun h0 j hj => by
        rcases Nat.lt_succ_iff_lt_or_eq.1 hj with h1 | rfl
        · exact hk2 j h1
        · exact h0
      generalize S.getD k default = q at hg hmk hat hk3
      refine seg_runN tabOK 14 (by simp only [go_sem]; exact rfl) (by simp only [go_sem]; exact rfl) (by simp only [go_sem, hg, rowP, nodeRow]; try exact rfl) ?_ (by simp only [go_sem]; exact rfl) ?_
      · simp [hg, rowP, nodeRow, hkl]
      refine seg_end (by kernel_rfl) (by simp only [go_sem]; exact rfl) ?_
      refine draw_close (by kernel_rfl) ?_
      try simp only [go_sem, List.getElem_toArray, List.getElem_cons_succ, List.getElem_cons_zero]
      refine cw_cond (by simp only [go_sem]; try exact rfl) trivial (fun h => ?_) (fun h => ?_)
      · have hqn : q.1 < n := by
          rw [← hmk.1, ← hfid]; simpa [hkl] using h
        refine cw_go tabOK 99 (by simp only [go_sem, hw]; try exact rfl) (by simp [go_sem, hw]) ?_
        refine cw_back ⟨k + 1, ⟨by omega, hk3 hqn⟩, by omega, le_sub ?_ ?_ ?_⟩
        · simp [go_sem]
        · simp [go_sem]
        · simp [go_sem]
      · have hqn : ¬ q.1 < n := by
          rw [← hmk.1, ← hfid]; simpa [hkl] using h
        have hput := hat fun _ => by have := hmk.2; omega
        have hA1 : List.take k (S.map rowP) = (S.take k).map rowP := by rw [List.map_take]
        have hB1 : List.take (S.length - k) (List.drop k (S.map rowP)) = (S.drop k).map rowP := by rw [← List.map_drop, List.take_of_length_le (by simp)]
        have hlA : (S.take k).length = k := by rw [List.length_take]; omega
        have hlB : (S.drop k).length = S.length - k := List.length_drop
        generalize S.take k = A at hA1 hlA hput
        generalize S.drop k = B at hB1 hlB hput
        subst hlA
        have htk : List.take (A.length + 1) (A.map rowP ++ [[AV.int .i64 nd.fid, .bool nd.dir, .sl (nd.data.map byteRow), .sl (nd.entries.map entryRow), .int .i64 nd.version]]) = A.map rowP ++ [[AV.int .i64 nd.fid, .bool nd.dir, .sl (nd.data.map byteRow), .sl (nd.entries.map entryRow), .int .i64 nd.version]] := List.take_of_length_le (by simp)
        refine cw_go tabOK 99 (by simp only [go_sem]; try exact rfl) (by simp [go_sem]) ?_
        refine cw_draw mixed ?_
        refine draw_earlyM 1 [0, 2, 3, 4, 5, 6, 7, 8, 9, 10, 11, 12] [0, 0, 1, 2, 3, 4, 5, 6, 7, 8, 9, 10, 11] rfl rfl rfl (fun _ _ _ h => h) (by kernel_rfl) (by kernel_rfl) (by simp [remOps, remOp, renE]; exact rfl) (by simp only [go_sem]; try exact rfl) ?_
        simp only [go_sem, List.getElem_toArray, List.getElem_cons_succ, List.getElem_cons_zero]
        refine draw_earlyM 1 [0, 2, 3, 4, 5, 6, 7, 8, 9, 10, 11] [0, 0, 1, 2, 3, 4, 5, 6, 7, 8, 9, 10] rfl rfl rfl (fun _ _ _ h => h) (by kernel_rfl) (by kernel_rfl) (by simp [remOps, remOp, renE]; exact rfl) (by simp only [go_sem]; try exact rfl) ?_
        simp only [go_sem, List.getElem_toArray, List.getElem_cons_succ, List.getElem_cons_zero]
        refine draw_earlyV 1 [0, 2, 3, 4, 5, 6, 7, 8, 9, 10] [0, 0, 1, 2, 3, 4, 5, 6, 7, 8, 9] rfl rfl (fun _ _ _ h => h) (by kernel_rfl) (by kernel_rfl) (by simp [remOps, remOp, renE]; exact rfl) (slice_any tabOK rfl rfl rfl (by decide) (by simp only [go_sem]; try exact rfl) (.inl ⟨rfl, rfl⟩) (.inr ⟨_, rfl, _, (by simp only [go_sem]; try exact rfl)⟩) (by simp [hk]) (by simp [hk])) ?_
        simp only [go_sem, List.getElem_toArray, List.getElem_cons_succ, List.getElem_cons_zero]
        refine draw_earlyM 5 [0, 1, 2, 3, 4, 6, 7, 8, 9] [0, 1, 2, 3, 4, 0, 5, 6, 7, 8] rfl rfl rfl (fun _ _ _ h => h) (by kernel_rfl) (by kernel_rfl) (by simp [remOps, remOp, renE]; exact rfl) (by simp only [go_sem]; try exact rfl) ?_
        simp only [go_sem, List.getElem_toArray, List.getElem_cons_succ, List.getElem_cons_zero]
        refine draw_earlyM 5 [0, 1, 2, 3, 4, 6, 7, 8] [0, 1, 2, 3, 4, 0, 5, 6, 7] rfl rfl rfl (fun _ _ _ h => h) (by kernel_rfl) (by kernel_rfl) (by simp [remOps, remOp, renE]; exact rfl) (by simp only [go_sem]; try exact rfl) ?_
        simp only [go_sem, List.getElem_toArray, List.getElem_cons_succ, List.getElem_cons_zero]
        refine draw_earlyV 5 [0, 1, 2, 3, 4, 6, 7] [0, 1, 2, 3, 4, 0, 5, 6] rfl rfl (fun _ _ _ h => h) (by kernel_rfl) (by kernel_rfl) (by simp [remOps, remOp, renE]; exact rfl) (slice_any tabOK rfl rfl rfl (by decide) (by simp only [go_sem]; try exact rfl) (.inr ⟨_, rfl, _, (by simp only [go_sem]; try exact rfl)⟩) (.inl ⟨rfl, rfl⟩) (by simp [hk]) (by simp [hk])) ?_
        simp only [go_sem, List.getElem_toArray, List.getElem_cons_succ, List.getElem_cons_zero]
        refine drawD (n := 7) (by kernel_rfl) rfl ?_
        refine drawD_two (i := 0) (j := 2) (by kernel_rfl) rfl rfl rfl rfl (trip_go tabOK rfl (by simp only [go_sem]; try exact rfl) (by simp [go_sem])) (trip_go tabOK rfl (by simp only [go_sem]; try exact rfl) (by simp [go_sem])) ?_ ?_
        · refine drawD_two (i := 1) (j := 2) (by kernel_rfl) rfl rfl rfl rfl (trip_go tabOK rfl (by simp only [go_sem, hA1, hB1, htk, Nat.sub_zero, List.drop_zero, List.length_map, Nat.zero_add, List.getElem_toArray, List.getElem_cons_succ, List.getElem_cons_zero]; try exact rfl) ?_) (trip_go tabOK rfl (by simp only [go_sem, hA1, hB1, htk, Nat.sub_zero, List.drop_zero, List.length_map, Nat.zero_add, List.getElem_toArray, List.getElem_cons_succ, List.getElem_cons_zero]; try exact rfl) ?_) ?_ ?_
          · skip
            try simp only [go_sem, hA1, hB1, htk, Nat.sub_zero, List.drop_zero, List.length_map, Nat.zero_add, List.getElem_toArray, List.getElem_cons_succ, List.getElem_cons_zero]
            simp
            omega
          · skip
            first | trivial | simp [go_sem, hA1, hB1, htk, Nat.sub_zero, List.drop_zero, List.length_map, Nat.zero_add, List.getElem_toArray, List.getElem_cons_succ, List.getElem_cons_zero]
          · try simp only [go_sem, hA1, hB1, htk, Nat.sub_zero, List.drop_zero, List.length_map, Nat.zero_add, List.getElem_toArray, List.getElem_cons_succ, List.getElem_cons_zero]
            refine drawD_one (i := 2) (by kernel_rfl) rfl rfl (trip_go tabOK rfl (by simp only [go_sem]; try exact rfl) (by simp [go_sem])) ?_
            try simp only [go_sem, hA1, hB1, htk, Nat.sub_zero, List.drop_zero, List.length_map, Nat.zero_add, List.getElem_toArray, List.getElem_cons_succ, List.getElem_cons_zero]
            refine drawD_one (i := 3) (by kernel_rfl) rfl rfl (trip_go tabOK rfl (by simp only [go_sem]; try exact rfl) (by simp [go_sem])) ?_
            try simp only [go_sem, hA1, hB1, htk, Nat.sub_zero, List.drop_zero, List.length_map, Nat.zero_add, List.getElem_toArray, List.getElem_cons_succ, List.getElem_cons_zero]
            refine drawD_one (i := 4) (by kernel_rfl) rfl rfl (trip_go tabOK rfl (by simp only [go_sem, hA1, hB1, htk, Nat.sub_zero, List.drop_zero, List.length_map, Nat.zero_add, List.getElem_toArray, List.getElem_cons_succ, List.getElem_cons_zero]; try exact rfl) ?_) ?_
            · simp [go_sem, row5, hA1, hB1, htk, Nat.sub_zero, List.drop_zero, List.length_map, Nat.zero_add, List.getElem_toArray, List.getElem_cons_succ, List.getElem_cons_zero]
              omega
            try simp only [go_sem, hA1, hB1, htk, Nat.sub_zero, List.drop_zero, List.length_map, Nat.zero_add, List.getElem_toArray, List.getElem_cons_succ, List.getElem_cons_zero]
            refine drawD_one (i := 5) (by kernel_rfl) rfl rfl (trip_go tabOK rfl (by simp only [go_sem, hA1, hB1, htk, Nat.sub_zero, List.drop_zero, List.length_map, Nat.zero_add, List.getElem_toArray, List.getElem_cons_succ, List.getElem_cons_zero, hlB]; try exact rfl) ?_) ?_
            · simp [go_sem, hA1, hB1, htk, Nat.sub_zero, List.drop_zero, List.length_map, Nat.zero_add, List.getElem_toArray, List.getElem_cons_succ, List.getElem_cons_zero, hlB]
              omega
            try simp only [go_sem, hA1, hB1, htk, Nat.sub_zero, List.drop_zero, List.length_map, Nat.zero_add, List.getElem_toArray, List.getElem_cons_succ, List.getElem_cons_zero]
            refine drawD_one (i := 6) (by kernel_rfl) rfl rfl (trip_go tabOK rfl (by simp only [go_sem]; try exact rfl) (by simp [go_sem])) ?_
            refine drawD_end (by kernel_rfl) ?_
            simp only [go_sem, List.getElem_toArray, List.getElem_cons_succ, List.getElem_cons_zero]
            refine cw_le (le_drop 99 (by simp only [go_sem, hdel]; exact rfl) (by simp only [go_sem]; try exact rfl) (by simp only [go_sem, kill]; exact rfl)) ?_
            refine cw_le (le_mv 40 99 (by simp only [go_sem]; exact rfl) (by simp only [go_sem]; try exact rfl) (by simp only [go_sem]; try exact rfl) (by simp only [go_sem, hdel]; exact rfl) (by simp only [go_sem]; try exact rfl) (by simp only [go_sem, mv1, kill]; exact rfl)) ?_
            refine cw_go tabOK 99 (by simp only [go_sem]; try exact rfl) (by simp [go_sem]) ?_
            refine cw_back ⟨n :: seen, hlt, le_sub ?_ ?_ ?_⟩
            · simp [go_sem, ← hpt, hput, hlB]
              omega
            · simp [go_sem, ← hpt, hput, rowP, nodeRow, htk, hB1]
            · simp [go_sem]
          · try simp only [go_sem, hA1, hB1, htk, Nat.sub_zero, List.drop_zero, List.length_map, Nat.zero_add, List.getElem_toArray, List.getElem_cons_succ, List.getElem_cons_zero]
            refine drawD_two (i := 1) (j := 3) (by kernel_rfl) rfl rfl rfl rfl (trip_go tabOK rfl (by simp only [go_sem, hA1, hB1, htk, Nat.sub_zero, List.drop_zero, List.length_map, Nat.zero_add, List.getElem_toArray, List.getElem_cons_succ, List.getElem_cons_zero]; try exact rfl) ?_) (trip_go tabOK rfl (by simp only [go_sem, hA1, hB1, htk, Nat.sub_zero, List.drop_zero, List.length_map, Nat.zero_add, List.getElem_toArray, List.getElem_cons_succ, List.getElem_cons_zero]; try exact rfl) ?_) ?_ ?_
            · skip
              try simp only [go_sem, hA1, hB1, htk, Nat.sub_zero, List.drop_zero, List.length_map, Nat.zero_add, List.getElem_toArray, List.getElem_cons_succ, List.getElem_cons_zero]
              simp
              omega
            · skip
              first | trivial | simp [go_sem, hA1, hB1, htk, Nat.sub_zero, List.drop_zero, List.length_map, Nat.zero_add, List.getElem_toArray, List.getElem_cons_succ, List.getElem_cons_zero]
            · try simp only [go_sem, hA1, hB1, htk, Nat.sub_zero, List.drop_zero, List.length_map, Nat.zero_add, List.getElem_toArray, List.getElem_cons_succ, List.getElem_cons_zero]
              refine drawD_one (i := 3) (by kernel_rfl) rfl rfl (trip_go tabOK rfl (by simp only [go_sem]; try exact rfl) (by simp [go_sem])) ?_
              try simp only [go_sem, hA1, hB1, htk, Nat.sub_zero, List.drop_zero, List.length_map, Nat.zero_add, List.getElem_toArray, List.getElem_cons_succ, List.getElem_cons_zero]
              refine drawD_one (i := 4) (by kernel_rfl) rfl rfl (trip_go tabOK rfl (by simp only [go_sem, hA1, hB1, htk, Nat.sub_zero, List.drop_zero, List.length_map, Nat.zero_add, List.getElem_toArray, List.getElem_cons_succ, List.getElem_cons_zero]; try exact rfl) ?_) ?_
              · simp [go_sem, row5, hA1, hB1, htk, Nat.sub_zero, List.drop_zero, List.length_map, Nat.zero_add, List.getElem_toArray, List.getElem_cons_succ, List.getElem_cons_zero]
                omega
              try simp only [go_sem, hA1, hB1, htk, Nat.sub_zero, List.drop_zero, List.length_map, Nat.zero_add, List.getElem_toArray, List.getElem_cons_succ, List.getElem_cons_zero]
              refine drawD_one (i := 5) (by kernel_rfl) rfl rfl (trip_go tabOK rfl (by simp only [go_sem, hA1, hB1, htk, Nat.sub_zero, List.drop_zero, List.length_map, Nat.zero_add, List.getElem_toArray, List.getElem_cons_succ, List.getElem_cons_zero, hlB]; try exact rfl) ?_) ?_
              · simp [go_sem, hA1, hB1, htk, Nat.sub_zero, List.drop_zero, List.length_map, Nat.zero_add, List.getElem_toArray, List.getElem_cons_succ, List.getElem_cons_zero, hlB]
                omega
              try simp only [go_sem, hA1, hB1, htk, Nat.sub_zero, List.drop_zero, List.length_map, Nat.zero_add, List.getElem_toArray, List.getElem_cons_succ, List.getElem_cons_zero]
              refine drawD_one (i := 6) (by kernel_rfl) rfl rfl (trip_go tabOK rfl (by simp only [go_sem]; try exact rfl) (by simp [go_sem])) ?_
              refine drawD_end (by kernel_rfl) ?_
              simp only [go_sem, List.getElem_toArray, List.getElem_cons_succ, List.getElem_cons_zero]
              refine cw_le (le_drop 99 (by simp only [go_sem, hdel]; exact rfl) (by simp only [go_sem]; try exact rfl) (by simp only [go_sem, kill]; exact rfl)) ?_
              refine cw_le (le_mv 40 99 (by simp only [go_sem]; exact rfl) (by simp only [go_sem]; try exact rfl) (by simp only [go_sem]; try exact rfl) (by simp only [go_sem, hdel]; exact rfl) (by simp only [go_sem]; try exact rfl) (by simp only [go_sem, mv1, kill]; exact rfl)) ?_
              refine cw_go tabOK 99 (by simp only [go_sem]; try exact rfl) (by simp [go_sem]) ?_
              refine cw_back ⟨n :: seen, hlt, le_sub ?_ ?_ ?_⟩
              · simp [go_sem, ← hpt, hput, hlB]
                omega
              · simp [go_sem, ← hpt, hput, rowP, nodeRow, htk, hB1]
              · simp [go_sem]
            · try simp only [go_sem, hA1, hB1, htk, Nat.sub_zero, List.drop_zero, List.length_map, Nat.zero_add, List.getElem_toArray, List.getElem_cons_succ, List.getElem_cons_zero]
              refine drawD_one (i := 1) (by kernel_rfl) rfl rfl (trip_go tabOK rfl (by simp only [go_sem, hA1, hB1, htk, Nat.sub_zero, List.drop_zero, List.length_map, Nat.zero_add, List.getElem_toArray, List.getElem_cons_succ, List.getElem_cons_zero]; try exact rfl) ?_) ?_
              · skip
                try simp only [go_sem, hA1, hB1, htk, Nat.sub_zero, List.drop_zero, List.length_map, Nat.zero_add, List.getElem_toArray, List.getElem_cons_succ, List.getElem_cons_zero]
                simp
                omega
              try simp only [go_sem, hA1, hB1, htk, Nat.sub_zero, List.drop_zero, List.length_map, Nat.zero_add, List.getElem_toArray, List.getElem_cons_succ, List.getElem_cons_zero]
              refine drawD_one (i := 4) (by kernel_rfl) rfl rfl (trip_go tabOK rfl (by simp only [go_sem, hA1, hB1, htk, Nat.sub_zero, List.drop_zero, List.length_map, Nat.zero_add, List.getElem_toArray, List.getElem_cons_succ, List.getElem_cons_zero]; try exact rfl) ?_) ?_
              · simp [go_sem, row5, hA1, hB1, htk, Nat.sub_zero, List.drop_zero, List.length_map, Nat.zero_add, List.getElem_toArray, List.getElem_cons_succ, List.getElem_cons_zero]
                omega
              try simp only [go_sem, hA1, hB1, htk, Nat.sub_zero, List.drop_zero, List.length_map, Nat.zero_add, List.getElem_toArray, List.getElem_cons_succ, List.getElem_cons_zero]
              refine drawD_one (i := 5) (by kernel_rfl) rfl rfl (trip_go tabOK rfl (by simp only [go_sem, hA1, hB1, htk, Nat.sub_zero, List.drop_zero, List.length_map, Nat.zero_add, List.getElem_toArray, List.getElem_cons_succ, List.getElem_cons_zero, hlB]; try exact rfl) ?_) ?_
              · simp [go_sem, hA1, hB1, htk, Nat.sub_zero, List.drop_zero, List.length_map, Nat.zero_add, List.getElem_toArray, List.getElem_cons_succ, List.getElem_cons_zero, hlB]
                omega
              try simp only [go_sem, hA1, hB1, htk, Nat.sub_zero, List.drop_zero, List.length_map, Nat.zero_add, List.getElem_toArray, List.getElem_cons_succ, List.getElem_cons_zero]
              refine drawD_one (i := 6) (by kernel_rfl) rfl rfl (trip_go tabOK rfl (by simp only [go_sem]; try exact rfl) (by simp [go_sem])) ?_
              refine drawD_end (by kernel_rfl) ?_
              simp only [go_sem, List.getElem_toArray, List.getElem_cons_succ, List.getElem_cons_zero]
              refine cw_le (le_drop 99 (by simp only [go_sem, hdel]; exact rfl) (by simp only [go_sem]; try exact rfl) (by simp only [go_sem, kill]; exact rfl)) ?_
              refine cw_le (le_mv 40 99 (by simp only [go_sem]; exact rfl) (by simp only [go_sem]; try exact rfl) (by simp only [go_sem]; try exact rfl) (by simp only [go_sem, hdel]; exact rfl) (by simp only [go_sem]; try exact rfl) (by simp only [go_sem, mv1, kill]; exact rfl)) ?_
              refine cw_go tabOK 99 (by simp only [go_sem]; try exact rfl) (by simp [go_sem]) ?_
              refine cw_back ⟨n :: seen, hlt, le_sub ?_ ?_ ?_⟩
              · simp [go_sem, ← hpt, hput, hlB]
                omega
              · simp [go_sem, ← hpt, hput, rowP, nodeRow, htk, hB1]
              · simp [go_sem]
        · try simp only [go_sem, hA1, hB1, htk, Nat.sub_zero, List.drop_zero, List.length_map, Nat.zero_add, List.getElem_toArray, List.getElem_cons_succ, List.getElem_cons_zero]
          refine drawD_two (i := 0) (j := 3) (by kernel_rfl) rfl rfl rfl rfl (trip_go tabOK rfl (by simp only [go_sem, hA1, hB1, htk, Nat.sub_zero, List.drop_zero, List.length_map, Nat.zero_add, List.getElem_toArray, List.getElem_cons_succ, List.getElem_cons_zero]; try exact rfl) ?_) (trip_go tabOK rfl (by simp only [go_sem, hA1, hB1, htk, Nat.sub_zero, List.drop_zero, List.length_map, Nat.zero_add, List.getElem_toArray, List.getElem_cons_succ, List.getElem_cons_zero]; try exact rfl) ?_) ?_ ?_
          · skip
            first | trivial | simp [go_sem, hA1, hB1, htk, Nat.sub_zero, List.drop_zero, List.length_map, Nat.zero_add, List.getElem_toArray, List.getElem_cons_succ, List.getElem_cons_zero]
          · skip
            first | trivial | simp [go_sem, hA1, hB1, htk, Nat.sub_zero, List.drop_zero, List.length_map, Nat.zero_add, List.getElem_toArray, List.getElem_cons_succ, List.getElem_cons_zero]
          · try simp only [go_sem, hA1, hB1, htk, Nat.sub_zero, List.drop_zero, List.length_map, Nat.zero_add, List.getElem_toArray, List.getElem_cons_succ, List.getElem_cons_zero]
            refine drawD_two (i := 1) (j := 3) (by kernel_rfl) rfl rfl rfl rfl (trip_go tabOK rfl (by simp only [go_sem, hA1, hB1, htk, Nat.sub_zero, List.drop_zero, List.length_map, Nat.zero_add, List.getElem_toArray, List.getElem_cons_succ, List.getElem_cons_zero]; try exact rfl) ?_) (trip_go tabOK rfl (by simp only [go_sem, hA1, hB1, htk, Nat.sub_zero, List.drop_zero, List.length_map, Nat.zero_add, List.getElem_toArray, List.getElem_cons_succ, List.getElem_cons_zero]; try exact rfl) ?_) ?_ ?_
            · skip
              try simp only [go_sem, hA1, hB1, htk, Nat.sub_zero, List.drop_zero, List.length_map, Nat.zero_add, List.getElem_toArray, List.getElem_cons_succ, List.getElem_cons_zero]
              simp
              omega
            · skip
              first | trivial | simp [go_sem, hA1, hB1, htk, Nat.sub_zero, List.drop_zero, List.length_map, Nat.zero_add, List.getElem_toArray, List.getElem_cons_succ, List.getElem_cons_zero]
            · try simp only [go_sem, hA1, hB1, htk, Nat.sub_zero, List.drop_zero, List.length_map, Nat.zero_add, List.getElem_toArray, List.getElem_cons_succ, List.getElem_cons_zero]
              refine drawD_one (i := 3) (by kernel_rfl) rfl rfl (trip_go tabOK rfl (by simp only [go_sem]; try exact rfl) (by simp [go_sem])) ?_
              try simp only [go_sem, hA1, hB1, htk, Nat.sub_zero, List.drop_zero, List.length_map, Nat.zero_add, List.getElem_toArray, List.getElem_cons_succ, List.getElem_cons_zero]
              refine drawD_one (i := 4) (by kernel_rfl) rfl rfl (trip_go tabOK rfl (by simp only [go_sem, hA1, hB1, htk, Nat.sub_zero, List.drop_zero, List.length_map, Nat.zero_add, List.getElem_toArray, List.getElem_cons_succ, List.getElem_cons_zero]; try exact rfl) ?_) ?_
              · simp [go_sem, row5, hA1, hB1, htk, Nat.sub_zero, List.drop_zero, List.length_map, Nat.zero_add, List.getElem_toArray, List.getElem_cons_succ, List.getElem_cons_zero]
                omega
              try simp only [go_sem, hA1, hB1, htk, Nat.sub_zero, List.drop_zero, List.length_map, Nat.zero_add, List.getElem_toArray, List.getElem_cons_succ, List.getElem_cons_zero]
              refine drawD_one (i := 5) (by kernel_rfl) rfl rfl (trip_go tabOK rfl (by simp only [go_sem, hA1, hB1, htk, Nat.sub_zero, List.drop_zero, List.length_map, Nat.zero_add, List.getElem_toArray, List.getElem_cons_succ, List.getElem_cons_zero, hlB]; try exact rfl) ?_) ?_
              · simp [go_sem, hA1, hB1, htk, Nat.sub_zero, List.drop_zero, List.length_map, Nat.zero_add, List.getElem_toArray, List.getElem_cons_succ, List.getElem_cons_zero, hlB]
                omega
              try simp only [go_sem, hA1, hB1, htk, Nat.sub_zero, List.drop_zero, List.length_map, Nat.zero_add, List.getElem_toArray, List.getElem_cons_succ, List.getElem_cons_zero]
              refine drawD_one (i := 6) (by kernel_rfl) rfl rfl (trip_go tabOK rfl (by simp only [go_sem]; try exact rfl) (by simp [go_sem])) ?_
              refine drawD_end (by kernel_rfl) ?_
              simp only [go_sem, List.getElem_toArray, List.getElem_cons_succ, List.getElem_cons_zero]
              refine cw_le (le_drop 99 (by simp only [go_sem, hdel]; exact rfl) (by simp only [go_sem]; try exact rfl) (by simp only [go_sem, kill]; exact rfl)) ?_
              refine cw_le (le_mv 40 99 (by simp only [go_sem]; exact rfl) (by simp only [go_sem]; try exact rfl) (by simp only [go_sem]; try exact rfl) (by simp only [go_sem, hdel]; exact rfl) (by simp only [go_sem]; try exact rfl) (by simp only [go_sem, mv1, kill]; exact rfl)) ?_
              refine cw_go tabOK 99 (by simp only [go_sem]; try exact rfl) (by simp [go_sem]) ?_
              refine cw_back ⟨n :: seen, hlt, le_sub ?_ ?_ ?_⟩
              · simp [go_sem, ← hpt, hput, hlB]
                omega
              · simp [go_sem, ← hpt, hput, rowP, nodeRow, htk, hB1]
              · simp [go_sem]
            · try simp only [go_sem, hA1, hB1, htk, Nat.sub_zero, List.drop_zero, List.length_map, Nat.zero_add, List.getElem_toArray, List.getElem_cons_succ, List.getElem_cons_zero]
              refine drawD_one (i := 1) (by kernel_rfl) rfl rfl (trip_go tabOK rfl (by simp only [go_sem, hA1, hB1, htk, Nat.sub_zero, List.drop_zero, List.length_map, Nat.zero_add, List.getElem_toArray, List.getElem_cons_succ, List.getElem_cons_zero]; try exact rfl) ?_) ?_
              · skip
                try simp only [go_sem, hA1, hB1, htk, Nat.sub_zero, List.drop_zero, List.length_map, Nat.zero_add, List.getElem_toArray, List.getElem_cons_succ, List.getElem_cons_zero]
                simp
                omega
              try simp only [go_sem, hA1, hB1, htk, Nat.sub_zero, List.drop_zero, List.length_map, Nat.zero_add, List.getElem_toArray, List.getElem_cons_succ, List.getElem_cons_zero]
              refine drawD_one (i := 4) (by kernel_rfl) rfl rfl (trip_go tabOK rfl (by simp only [go_sem, hA1, hB1, htk, Nat.sub_zero, List.drop_zero, List.length_map, Nat.zero_add, List.getElem_toArray, List.getElem_cons_succ, List.getElem_cons_zero]; try exact rfl) ?_) ?_
              · simp [go_sem, row5, hA1, hB1, htk, Nat.sub_zero, List.drop_zero, List.length_map, Nat.zero_add, List.getElem_toArray, List.getElem_cons_succ, List.getElem_cons_zero]
                omega
              try simp only [go_sem, hA1, hB1, htk, Nat.sub_zero, List.drop_zero, List.length_map, Nat.zero_add, List.getElem_toArray, List.getElem_cons_succ, List.getElem_cons_zero]
              refine drawD_one (i := 5) (by kernel_rfl) rfl rfl (trip_go tabOK rfl (by simp only [go_sem, hA1, hB1, htk, Nat.sub_zero, List.drop_zero, List.length_map, Nat.zero_add, List.getElem_toArray, List.getElem_cons_succ, List.getElem_cons_zero, hlB]; try exact rfl) ?_) ?_
              · simp [go_sem, hA1, hB1, htk, Nat.sub_zero, List.drop_zero, List.length_map, Nat.zero_add, List.getElem_toArray, List.getElem_cons_succ, List.getElem_cons_zero, hlB]
                omega
              try simp only [go_sem, hA1, hB1, htk, Nat.sub_zero, List.drop_zero, List.length_map, Nat.zero_add, List.getElem_toArray, List.getElem_cons_succ, List.getElem_cons_zero]
              refine drawD_one (i := 6) (by kernel_rfl) rfl rfl (trip_go tabOK rfl (by simp only [go_sem]; try exact rfl) (by simp [go_sem])) ?_
              refine drawD_end (by kernel_rfl) ?_
              simp only [go_sem, List.getElem_toArray, List.getElem_cons_succ, List.getElem_cons_zero]
              refine cw_le (le_drop 99 (by simp only [go_sem, hdel]; exact rfl) (by simp only [go_sem]; try exact rfl) (by simp only [go_sem, kill]; exact rfl)) ?_
              refine cw_le (le_mv 40 99 (by simp only [go_sem]; exact rfl) (by simp only [go_sem]; try exact rfl) (by simp only [go_sem]; try exact rfl) (by simp only [go_sem, hdel]; exact rfl) (by simp only [go_sem]; try exact rfl) (by simp only [go_sem, mv1, kill]; exact rfl)) ?_
              refine cw_go tabOK 99 (by simp only [go_sem]; try exact rfl) (by simp [go_sem]) ?_
              refine cw_back ⟨n :: seen, hlt, le_sub ?_ ?_ ?_⟩
              · simp [go_sem, ← hpt, hput, hlB]
                omega
              · simp [go_sem, ← hpt, hput, rowP, nodeRow, htk, hB1]
              · simp [go_sem]
          · try simp only [go_sem, hA1, hB1, htk, Nat.sub_zero, List.drop_zero, List.length_map, Nat.zero_add, List.getElem_toArray, List.getElem_cons_succ, List.getElem_cons_zero]
            refine drawD_one (i := 0) (by kernel_rfl) rfl rfl (trip_go tabOK rfl (by simp only [go_sem]; try exact rfl) (by simp [go_sem])) ?_
            try simp only [go_sem, hA1, hB1, htk, Nat.sub_zero, List.drop_zero, List.length_map, Nat.zero_add, List.getElem_toArray, List.getElem_cons_succ, List.getElem_cons_zero]
            refine drawD_one (i := 1) (by kernel_rfl) rfl rfl (trip_go tabOK rfl (by simp only [go_sem, hA1, hB1, htk, Nat.sub_zero, List.drop_zero, List.length_map, Nat.zero_add, List.getElem_toArray, List.getElem_cons_succ, List.getElem_cons_zero]; try exact rfl) ?_) ?_
            · skip
              try simp only [go_sem, hA1, hB1, htk, Nat.sub_zero, List.drop_zero, List.length_map, Nat.zero_add, List.getElem_toArray, List.getElem_cons_succ, List.getElem_cons_zero]
              simp
              omega
            try simp only [go_sem, hA1, hB1, htk, Nat.sub_zero, List.drop_zero, List.length_map, Nat.zero_add, List.getElem_toArray, List.getElem_cons_succ, List.getElem_cons_zero]
            refine drawD_one (i := 4) (by kernel_rfl) rfl rfl (trip_go tabOK rfl (by simp only [go_sem, hA1, hB1, htk, Nat.sub_zero, List.drop_zero, List.length_map, Nat.zero_add, List.getElem_toArray, List.getElem_cons_succ, List.getElem_cons_zero]; try exact rfl) ?_) ?_
            · simp [go_sem, row5, hA1, hB1, htk, Nat.sub_zero, List.drop_zero, List.length_map, Nat.zero_add, List.getElem_toArray, List.getElem_cons_succ, List.getElem_cons_zero]
              omega
            try simp only [go_sem, hA1, hB1, htk, Nat.sub_zero, List.drop_zero, List.length_map, Nat.zero_add, List.getElem_toArray, List.getElem_cons_succ, List.getElem_cons_zero]
            refine drawD_one (i := 5) (by kernel_rfl) rfl rfl (trip_go tabOK rfl (by simp only [go_sem, hA1, hB1, htk, Nat.sub_zero, List.drop_zero, List.length_map, Nat.zero_add, List.getElem_toArray, List.getElem_cons_succ, List.getElem_cons_zero, hlB]; try exact rfl) ?_) ?_
            · simp [go_sem, hA1, hB1, htk, Nat.sub_zero, List.drop_zero, List.length_map, Nat.zero_add, List.getElem_toArray, List.getElem_cons_succ, List.getElem_cons_zero, hlB]
              omega
            try simp only [go_sem, hA1, hB1, htk, Nat.sub_zero, List.drop_zero, List.length_map, Nat.zero_add, List.getElem_toArray, List.getElem_cons_succ, List.getElem_cons_zero]
            refine drawD_one (i := 6) (by kernel_rfl) rfl rfl (trip_go tabOK rfl (by simp only [go_sem]; try exact rfl) (by simp [go_sem])) ?_
            refine drawD_end (by kernel_rfl) ?_
            simp only [go_sem, List.getElem_toArray, List.getElem_cons_succ, List.getElem_cons_zero]
            refine cw_le (le_drop 99 (by simp only [go_sem, hdel]; exact rfl) (by simp only [go_sem]; try exact rfl) (by simp only [go_sem, kill]; exact rfl)) ?_
            refine cw_le (le_mv 40 99 (by simp only [go_sem]; exact rfl) (by simp only [go_sem]; try exact rfl) (by simp only [go_sem]; try exact rfl) (by simp only [go_sem, hdel]; exact rfl) (by simp only [go_sem]; try exact rfl) (by simp only [go_sem, mv1, kill]; exact rfl)) ?_
            refine cw_go tabOK 99 (by simp only [go_sem]; try exact rfl) (by simp [go_sem]) ?_
            refine cw_back ⟨n :: seen, hlt, le_sub ?_ ?_ ?_⟩
            · simp [go_sem, ← hpt, hput, hlB]
              omega
            · simp [go_sem, ← hpt, hput, rowP, nodeRow, htk, hB1]
            · simp [go_sem]
    · have hkl2 : k = S.length := by omega
      have hput : mput S n nd = S.take k ++ (n, nd) :: S.drop k := mput_at S k hk hk2 fun h => absurd h hkl
      have hdf : decide ((k : Int) < (S.length : Int)) = false := decide_eq_false (by omega)
      refine seg_runN tabOK 5 (by simp only [go_sem]; exact rfl) (by simp only [go_sem]; exact rfl) (by simp only [go_sem]; try exact rfl) (by simp [go_sem]) (by simp only [go_sem]; exact rfl) ?_
      rw [hdf]
      iterate 7 refine seg_skip .any (by simp only [go_sem]; try exact rfl) (by simp only [go_sem]; exact rfl) (by simp only [go_sem]; exact rfl) ?_
      refine seg_skip (.bool false) (by simp only [go_sem]; try exact rfl) (by simp only [go_sem]; exact rfl) (by simp only [go_sem]; exact rfl) ?_
      refine seg_runN tabOK 1 (by simp only [go_sem]; exact rfl) (by simp only [go_sem]; exact rfl) (by simp only [go_sem]; try exact rfl) (by simp [go_sem]) (by simp only [go_sem]; exact rfl) ?_
      refine seg_end (by kernel_rfl) (by simp only [go_sem]; exact rfl) ?_
      refine draw_close (by kernel_rfl) ?_
      try simp only [go_sem, List.getElem_toArray, List.getElem_cons_succ, List.getElem_cons_zero]
      refine cw_cond (by simp only [go_sem]; try exact rfl) trivial (fun h => ?_) (fun h => ?_)
      · exfalso; simp at h
      have hA1 : List.take k (S.map rowP) = (S.take k).map rowP := by rw [List.map_take]
      have hB1 : List.take (S.length - k) (List.drop k (S.map rowP)) = (S.drop k).map rowP := by rw [← List.map_drop, List.take_of_length_le (by simp)]
      have hlA : (S.take k).length = k := by rw [List.length_take]; omega
      have hlB : (S.drop k).length = S.length - k := List.length_drop
      generalize S.take k = A at hA1 hlA hput
      generalize S.drop k = B at hB1 hlB hput
      subst hlA
      have htk : List.take (A.length + 1) (A.map rowP ++ [[AV.int .i64 nd.fid, .bool nd.dir, .sl (nd.data.map byteRow), .sl (nd.entries.map entryRow), .int .i64 nd.version]]) = A.map rowP ++ [[AV.int .i64 nd.fid, .bool nd.dir, .sl (nd.data.map byteRow), .sl (nd.entries.map entryRow), .int .i64 nd.version]] := List.take_of_length_le (by simp)
      refine cw_go tabOK 99 (by simp only [go_sem]; try exact rfl) (by simp [go_sem]) ?_
      refine cw_draw mixed ?_
      refine draw_earlyM 1 [0, 2, 3, 4, 5, 6, 7, 8, 9, 10, 11, 12] [0, 0, 1, 2, 3, 4, 5, 6, 7, 8, 9, 10, 11] rfl rfl rfl (fun _ _ _ h => h) (by kernel_rfl) (by kernel_rfl) (by simp [remOps, remOp, renE]; exact rfl) (by simp only [go_sem]; try exact rfl) ?_
      simp only [go_sem, List.getElem_toArray, List.getElem_cons_succ, List.getElem_cons_zero]
      refine draw_earlyM 1 [0, 2, 3, 4, 5, 6, 7, 8, 9, 10, 11] [0, 0, 1, 2, 3, 4, 5, 6, 7, 8, 9, 10] rfl rfl rfl (fun _ _ _ h => h) (by kernel_rfl) (by kernel_rfl) (by simp [remOps, remOp, renE]; exact rfl) (by simp only [go_sem]; try exact rfl) ?_
      simp only [go_sem, List.getElem_toArray, List.getElem_cons_succ, List.getElem_cons_zero]
      refine draw_earlyV 1 [0, 2, 3, 4, 5, 6, 7, 8, 9, 10] [0, 0, 1, 2, 3, 4, 5, 6, 7, 8, 9] rfl rfl (fun _ _ _ h => h) (by kernel_rfl) (by kernel_rfl) (by simp [remOps, remOp, renE]; exact rfl) (slice_any tabOK rfl rfl rfl (by decide) (by simp only [go_sem]; try exact rfl) (.inl ⟨rfl, rfl⟩) (.inr ⟨_, rfl, _, (by simp only [go_sem]; try exact rfl)⟩) (by simp [hk]) (by simp [hk])) ?_
      simp only [go_sem, List.getElem_toArray, List.getElem_cons_succ, List.getElem_cons_zero]
      refine draw_earlyM 5 [0, 1, 2, 3, 4, 6, 7, 8, 9] [0, 1, 2, 3, 4, 0, 5, 6, 7, 8] rfl rfl rfl (fun _ _ _ h => h) (by kernel_rfl) (by kernel_rfl) (by simp [remOps, remOp, renE]; exact rfl) (by simp only [go_sem]; try exact rfl) ?_
      simp only [go_sem, List.getElem_toArray, List.getElem_cons_succ, List.getElem_cons_zero]
      refine draw_earlyM 5 [0, 1, 2, 3, 4, 6, 7, 8] [0, 1, 2, 3, 4, 0, 5, 6, 7] rfl rfl rfl (fun _ _ _ h => h) (by kernel_rfl) (by kernel_rfl) (by simp [remOps, remOp, renE]; exact rfl) (by simp only [go_sem]; try exact rfl) ?_
      simp only [go_sem, List.getElem_toArray, List.getElem_cons_succ, List.getElem_cons_zero]
      refine draw_earlyV 5 [0, 1, 2, 3, 4, 6, 7] [0, 1, 2, 3, 4, 0, 5, 6] rfl rfl (fun _ _ _ h => h) (by kernel_rfl) (by kernel_rfl) (by simp [remOps, remOp, renE]; exact rfl) (slice_any tabOK rfl rfl rfl (by decide) (by simp only [go_sem]; try exact rfl) (.inr ⟨_, rfl, _, (by simp only [go_sem]; try exact rfl)⟩) (.inl ⟨rfl, rfl⟩) (by simp [hk]) (by simp [hk])) ?_
      simp only [go_sem, List.getElem_toArray, List.getElem_cons_succ, List.getElem_cons_zero]
      refine drawD (n := 7) (by kernel_rfl) rfl ?_
      refine drawD_two (i := 0) (j := 2) (by kernel_rfl) rfl rfl rfl rfl (trip_go tabOK rfl (by simp only [go_sem]; try exact rfl) (by simp [go_sem])) (trip_go tabOK rfl (by simp only [go_sem]; try exact rfl) (by simp [go_sem])) ?_ ?_
      · refine drawD_two (i := 1) (j := 2) (by kernel_rfl) rfl rfl rfl rfl (trip_go tabOK rfl (by simp only [go_sem, hA1, hB1, htk, Nat.sub_zero, List.drop_zero, List.length_map, Nat.zero_add, List.getElem_toArray, List.getElem_cons_succ, List.getElem_cons_zero]; try exact rfl) ?_) (trip_go tabOK rfl (by simp only [go_sem, hA1, hB1, htk, Nat.sub_zero, List.drop_zero, List.length_map, Nat.zero_add, List.getElem_toArray, List.getElem_cons_succ, List.getElem_cons_zero]; try exact rfl) ?_) ?_ ?_
        · skip
          try simp only [go_sem, hA1, hB1, htk, Nat.sub_zero, List.drop_zero, List.length_map, Nat.zero_add, List.getElem_toArray, List.getElem_cons_succ, List.getElem_cons_zero]
          simp
          omega
        · skip
          first | trivial | simp [go_sem, hA1, hB1, htk, Nat.sub_zero, List.drop_zero, List.length_map, Nat.zero_add, List.getElem_toArray, List.getElem_cons_succ, List.getElem_cons_zero]
        · try simp only [go_sem, hA1, hB1, htk, Nat.sub_zero, List.drop_zero, List.length_map, Nat.zero_add, List.getElem_toArray, List.getElem_cons_succ, List.getElem_cons_zero]
          refine drawD_one (i := 2) (by kernel_rfl) rfl rfl (trip_go tabOK rfl (by simp only [go_sem]; try exact rfl) (by simp [go_sem])) ?_
          try simp only [go_sem, hA1, hB1, htk, Nat.sub_zero, List.drop_zero, List.length_map, Nat.zero_add, List.getElem_toArray, List.getElem_cons_succ, List.getElem_cons_zero]
          refine drawD_one (i := 3) (by kernel_rfl) rfl rfl (trip_go tabOK rfl (by simp only [go_sem]; try exact rfl) (by simp [go_sem])) ?_
          try simp only [go_sem, hA1, hB1, htk, Nat.sub_zero, List.drop_zero, List.length_map, Nat.zero_add, List.getElem_toArray, List.getElem_cons_succ, List.getElem_cons_zero]
          refine drawD_one (i := 4) (by kernel_rfl) rfl rfl (trip_go tabOK rfl (by simp only [go_sem, hA1, hB1, htk, Nat.sub_zero, List.drop_zero, List.length_map, Nat.zero_add, List.getElem_toArray, List.getElem_cons_succ, List.getElem_cons_zero]; try exact rfl) ?_) ?_
          · simp [go_sem, row5, hA1, hB1, htk, Nat.sub_zero, List.drop_zero, List.length_map, Nat.zero_add, List.getElem_toArray, List.getElem_cons_succ, List.getElem_cons_zero]
            omega
          try simp only [go_sem, hA1, hB1, htk, Nat.sub_zero, List.drop_zero, List.length_map, Nat.zero_add, List.getElem_toArray, List.getElem_cons_succ, List.getElem_cons_zero]
          refine drawD_one (i := 5) (by kernel_rfl) rfl rfl (trip_go tabOK rfl (by simp only [go_sem, hA1, hB1, htk, Nat.sub_zero, List.drop_zero, List.length_map, Nat.zero_add, List.getElem_toArray, List.getElem_cons_succ, List.getElem_cons_zero, hlB]; try exact rfl) ?_) ?_
          · simp [go_sem, hA1, hB1, htk, Nat.sub_zero, List.drop_zero, List.length_map, Nat.zero_add, List.getElem_toArray, List.getElem_cons_succ, List.getElem_cons_zero, hlB]
            omega
          try simp only [go_sem, hA1, hB1, htk, Nat.sub_zero, List.drop_zero, List.length_map, Nat.zero_add, List.getElem_toArray, List.getElem_cons_succ, List.getElem_cons_zero]
          refine drawD_one (i := 6) (by kernel_rfl) rfl rfl (trip_go tabOK rfl (by simp only [go_sem]; try exact rfl) (by simp [go_sem])) ?_
          refine drawD_end (by kernel_rfl) ?_
          simp only [go_sem, List.getElem_toArray, List.getElem_cons_succ, List.getElem_cons_zero]
          refine cw_le (le_drop 99 (by simp only [go_sem, hdel]; exact rfl) (by simp only [go_sem]; try exact rfl) (by simp only [go_sem, kill]; exact rfl)) ?_
          refine cw_le (le_mv 40 99 (by simp only [go_sem]; exact rfl) (by simp only [go_sem]; try exact rfl) (by simp only [go_sem]; try exact rfl) (by simp only [go_sem, hdel]; exact rfl) (by simp only [go_sem]; try exact rfl) (by simp only [go_sem, mv1, kill]; exact rfl)) ?_
          refine cw_go tabOK 99 (by simp only [go_sem]; try exact rfl) (by simp [go_sem]) ?_
          refine cw_back ⟨n :: seen, hlt, le_sub ?_ ?_ ?_⟩
          · simp [go_sem, ← hpt, hput, hlB]
            omega
          · simp [go_sem, ← hpt, hput, rowP, nodeRow, htk, hB1]
          · simp [go_sem]
        · try simp only [go_sem, hA1, hB1, htk, Nat.sub_zero, List.drop_zero, List.length_map, Nat.zero_add, List.getElem_toArray, List.getElem_cons_succ, List.getElem_cons_zero]
          refine drawD_two (i := 1) (j := 3) (by kernel_rfl) rfl rfl rfl rfl (trip_go tabOK rfl (by simp only [go_sem, hA1, hB1, htk, Nat.sub_zero, List.drop_zero, List.length_map, Nat.zero_add, List.getElem_toArray, List.getElem_cons_succ, List.getElem_cons_zero]; try exact rfl) ?_) (trip_go tabOK rfl (by simp only [go_sem, hA1, hB1, htk, Nat.sub_zero, List.drop_zero, List.length_map, Nat.zero_add, List.getElem_toArray, List.getElem_cons_succ, List.getElem_cons_zero]; try exact rfl) ?_) ?_ ?_
          · skip
            try simp only [go_sem, hA1, hB1, htk, Nat.sub_zero, List.drop_zero, List.length_map, Nat.zero_add, List.getElem_toArray, List.getElem_cons_succ, List.getElem_cons_zero]
            simp
            omega
          · skip
            first | trivial | simp [go_sem, hA1, hB1, htk, Nat.sub_zero, List.drop_zero, List.length_map, Nat.zero_add, List.getElem_toArray, List.getElem_cons_succ, List.getElem_cons_zero]
          · try simp only [go_sem, hA1, hB1, htk, Nat.sub_zero, List.drop_zero, List.length_map, Nat.zero_add, List.getElem_toArray, List.getElem_cons_succ, List.getElem_cons_zero]
            refine drawD_one (i := 3) (by kernel_rfl) rfl rfl (trip_go tabOK rfl (by simp only [go_sem]; try exact rfl) (by simp [go_sem])) ?_
            try simp only [go_sem, hA1, hB1, htk, Nat.sub_zero, List.drop_zero, List.length_map, Nat.zero_add, List.getElem_toArray, List.getElem_cons_succ, List.getElem_cons_zero]
            refine drawD_one (i := 4) (by kernel_rfl) rfl rfl (trip_go tabOK rfl (by simp only [go_sem, hA1, hB1, htk, Nat.sub_zero, List.drop_zero, List.length_map, Nat.zero_add, List.getElem_toArray, List.getElem_cons_succ, List.getElem_cons_zero]; try exact rfl) ?_) ?_
            · simp [go_sem, row5, hA1, hB1, htk, Nat.sub_zero, List.drop_zero, List.length_map, Nat.zero_add, List.getElem_toArray, List.getElem_cons_succ, List.getElem_cons_zero]
              omega
            try simp only [go_sem, hA1, hB1, htk, Nat.sub_zero, List.drop_zero, List.length_map, Nat.zero_add, List.getElem_toArray, List.getElem_cons_succ, List.getElem_cons_zero]
            refine drawD_one (i := 5) (by kernel_rfl) rfl rfl (trip_go tabOK rfl (by simp only [go_sem, hA1, hB1, htk, Nat.sub_zero, List.drop_zero, List.length_map, Nat.zero_add, List.getElem_toArray, List.getElem_cons_succ, List.getElem_cons_zero, hlB]; try exact rfl) ?_) ?_
            · simp [go_sem, hA1, hB1, htk, Nat.sub_zero, List.drop_zero, List.length_map, Nat.zero_add, List.getElem_toArray, List.getElem_cons_succ, List.getElem_cons_zero, hlB]
              omega
            try simp only [go_sem, hA1, hB1, htk, Nat.sub_zero, List.drop_zero, List.length_map, Nat.zero_add, List.getElem_toArray, List.getElem_cons_succ, List.getElem_cons_zero]
            refine drawD_one (i := 6) (by kernel_rfl) rfl rfl (trip_go tabOK rfl (by simp only [go_sem]; try exact rfl) (by simp [go_sem])) ?_
            refine drawD_end (by kernel_rfl) ?_
            simp only [go_sem, List.getElem_toArray, List.getElem_cons_succ, List.getElem_cons_zero]
            refine cw_le (le_drop 99 (by simp only [go_sem, hdel]; exact rfl) (by simp only [go_sem]; try exact rfl) (by simp only [go_sem, kill]; exact rfl)) ?_
            refine cw_le (le_mv 40 99 (by simp only [go_sem]; exact rfl) (by simp only [go_sem]; try exact rfl) (by simp only [go_sem]; try exact rfl) (by simp only [go_sem, hdel]; exact rfl) (by simp only [go_sem]; try exact rfl) (by simp only [go_sem, mv1, kill]; exact rfl)) ?_
            refine cw_go tabOK 99 (by simp only [go_sem]; try exact rfl) (by simp [go_sem]) ?_
            refine cw_back ⟨n :: seen, hlt, le_sub ?_ ?_ ?_⟩
            · simp [go_sem, ← hpt, hput, hlB]
              omega
            · simp [go_sem, ← hpt, hput, rowP, nodeRow, htk, hB1]
            · simp [go_sem]
          · try simp only [go_sem, hA1, hB1, htk, Nat.sub_zero, List.drop_zero, List.length_map, Nat.zero_add, List.getElem_toArray, List.getElem_cons_succ, List.getElem_cons_zero]
            refine drawD_one (i := 1) (by kernel_rfl) rfl rfl (trip_go tabOK rfl (by simp only [go_sem, hA1, hB1, htk, Nat.sub_zero, List.drop_zero, List.length_map, Nat.zero_add, List.getElem_toArray, List.getElem_cons_succ, List.getElem_cons_zero]; try exact rfl) ?_) ?_
            · skip
              try simp only [go_sem, hA1, hB1, htk, Nat.sub_zero, List.drop_zero, List.length_map, Nat.zero_add, List.getElem_toArray, List.getElem_cons_succ, List.getElem_cons_zero]
              simp
              omega
            try simp only [go_sem, hA1, hB1, htk, Nat.sub_zero, List.drop_zero, List.length_map, Nat.zero_add, List.getElem_toArray, List.getElem_cons_succ, List.getElem_cons_zero]
            refine drawD_one (i := 4) (by kernel_rfl) rfl rfl (trip_go tabOK rfl (by simp only [go_sem, hA1, hB1, htk, Nat.sub_zero, List.drop_zero, List.length_map, Nat.zero_add, List.getElem_toArray, List.getElem_cons_succ, List.getElem_cons_zero]; try exact rfl) ?_) ?_
            · simp [go_sem, row5, hA1, hB1, htk, Nat.sub_zero, List.drop_zero, List.length_map, Nat.zero_add, List.getElem_toArray, List.getElem_cons_succ, List.getElem_cons_zero]
              omega
            try simp only [go_sem, hA1, hB1, htk, Nat.sub_zero, List.drop_zero, List.length_map, Nat.zero_add, List.getElem_toArray, List.getElem_cons_succ, List.getElem_cons_zero]
            refine drawD_one (i := 5) (by kernel_rfl) rfl rfl (trip_go tabOK rfl (by simp only [go_sem, hA1, hB1, htk, Nat.sub_zero, List.drop_zero, List.length_map, Nat.zero_add, List.getElem_toArray, List.getElem_cons_succ, List.getElem_cons_zero, hlB]; try exact rfl) ?_) ?_
            · simp [go_sem, hA1, hB1, htk, Nat.sub_zero, List.drop_zero, List.length_map, Nat.zero_add, List.getElem_toArray, List.getElem_cons_succ, List.getElem_cons_zero, hlB]
              omega
            try simp only [go_sem, hA1, hB1, htk, Nat.sub_zero, List.drop_zero, List.length_map, Nat.zero_add, List.getElem_toArray, List.getElem_cons_succ, List.getElem_cons_zero]
            refine drawD_one (i := 6) (by kernel_rfl) rfl rfl (trip_go tabOK rfl (by simp only [go_sem]; try exact rfl) (by simp [go_sem])) ?_
            refine drawD_end (by kernel_rfl) ?_
            simp only [go_sem, List.getElem_toArray, List.getElem_cons_succ, List.getElem_cons_zero]
            refine cw_le (le_drop 99 (by simp only [go_sem, hdel]; exact rfl) (by simp only [go_sem]; try exact rfl) (by simp only [go_sem, kill]; exact rfl)) ?_
            refine cw_le (le_mv 40 99 (by simp only [go_sem]; exact rfl) (by simp only [go_sem]; try exact rfl) (by simp only [go_sem]; try exact rfl) (by simp only [go_sem, hdel]; exact rfl) (by simp only [go_sem]; try exact rfl) (by simp only [go_sem, mv1, kill]; exact rfl)) ?_
            refine cw_go tabOK 99 (by simp only [go_sem]; try exact rfl) (by simp [go_sem]) ?_
            refine cw_back ⟨n :: seen, hlt, le_sub ?_ ?_ ?_⟩
            · simp [go_sem, ← hpt, hput, hlB]
              omega
            · simp [go_sem, ← hpt, hput, rowP, nodeRow, htk, hB1]
            · simp [go_sem]
      · try simp only [go_sem, hA1, hB1, htk, Nat.sub_zero, List.drop_zero, List.length_map, Nat.zero_add, List.getElem_toArray, List.getElem_cons_succ, List.getElem_cons_zero]
        refine drawD_two (i := 0) (j := 3) (by kernel_rfl) rfl rfl rfl rfl (trip_go tabOK rfl (by simp only [go_sem, hA1, hB1, htk, Nat.sub_zero, List.drop_zero, List.length_map, Nat.zero_add, List.getElem_toArray, List.getElem_cons_succ, List.getElem_cons_zero]; try exact rfl) ?_) (trip_go tabOK rfl (by simp only [go_sem, hA1, hB1, htk, Nat.sub_zero, List.drop_zero, List.length_map, Nat.zero_add, List.getElem_toArray, List.getElem_cons_succ, List.getElem_cons_zero]; try exact rfl) ?_) ?_ ?_
        · skip
          first | trivial | simp [go_sem, hA1, hB1, htk, Nat.sub_zero, List.drop_zero, List.length_map, Nat.zero_add, List.getElem_toArray, List.getElem_cons_succ, List.getElem_cons_zero]
        · skip
          first | trivial | simp [go_sem, hA1, hB1, htk, Nat.sub_zero, List.drop_zero, List.length_map, Nat.zero_add, List.getElem_toArray, List.getElem_cons_succ, List.getElem_cons_zero]
        · try simp only [go_sem, hA1, hB1, htk, Nat.sub_zero, List.drop_zero, List.length_map, Nat.zero_add, List.getElem_toArray, List.getElem_cons_succ, List.getElem_cons_zero]
          refine drawD_two (i := 1) (j := 3) (by kernel_rfl) rfl rfl rfl rfl (trip_go tabOK rfl (by simp only [go_sem, hA1, hB1, htk, Nat.sub_zero, List.drop_zero, List.length_map, Nat.zero_add, List.getElem_toArray, List.getElem_cons_succ, List.getElem_cons_zero]; try exact rfl) ?_) (trip_go tabOK rfl (by simp only [go_sem, hA1, hB1, htk, Nat.sub_zero, List.drop_zero, List.length_map, Nat.zero_add, List.getElem_toArray, List.getElem_cons_succ, List.getElem_cons_zero]; try exact rfl) ?_) ?_ ?_
          · skip
            try simp only [go_sem, hA1, hB1, htk, Nat.sub_zero, List.drop_zero, List.length_map, Nat.zero_add, List.getElem_toArray, List.getElem_cons_succ, List.getElem_cons_zero]
            simp
            omega
          · skip
            first | trivial | simp [go_sem, hA1, hB1, htk, Nat.sub_zero, List.drop_zero, List.length_map, Nat.zero_add, List.getElem_toArray, List.getElem_cons_succ, List.getElem_cons_zero]
          · try simp only [go_sem, hA1, hB1, htk, Nat.sub_zero, List.drop_zero, List.length_map, Nat.zero_add, List.getElem_toArray, List.getElem_cons_succ, List.getElem_cons_zero]
            refine drawD_one (i := 3) (by kernel_rfl) rfl rfl (trip_go tabOK rfl (by simp only [go_sem]; try exact rfl) (by simp [go_sem])) ?_
            try simp only [go_sem, hA1, hB1, htk, Nat.sub_zero, List.drop_zero, List.length_map, Nat.zero_add, List.getElem_toArray, List.getElem_cons_succ, List.getElem_cons_zero]
            refine drawD_one (i := 4) (by kernel_rfl) rfl rfl (trip_go tabOK rfl (by simp only [go_sem, hA1, hB1, htk, Nat.sub_zero, List.drop_zero, List.length_map, Nat.zero_add, List.getElem_toArray, List.getElem_cons_succ, List.getElem_cons_zero]; try exact rfl) ?_) ?_
            · simp [go_sem, row5, hA1, hB1, htk, Nat.sub_zero, List.drop_zero, List.length_map, Nat.zero_add, List.getElem_toArray, List.getElem_cons_succ, List.getElem_cons_zero]
              omega
            try simp only [go_sem, hA1, hB1, htk, Nat.sub_zero, List.drop_zero, List.length_map, Nat.zero_add, List.getElem_toArray, List.getElem_cons_succ, List.getElem_cons_zero]
            refine drawD_one (i := 5) (by kernel_rfl) rfl rfl (trip_go tabOK rfl (by simp only [go_sem, hA1, hB1, htk, Nat.sub_zero, List.drop_zero, List.length_map, Nat.zero_add, List.getElem_toArray, List.getElem_cons_succ, List.getElem_cons_zero, hlB]; try exact rfl) ?_) ?_
            · simp [go_sem, hA1, hB1, htk, Nat.sub_zero, List.drop_zero, List.length_map, Nat.zero_add, List.getElem_toArray, List.getElem_cons_succ, List.getElem_cons_zero, hlB]
              omega
            try simp only [go_sem, hA1, hB1, htk, Nat.sub_zero, List.drop_zero, List.length_map, Nat.zero_add, List.getElem_toArray, List.getElem_cons_succ, List.getElem_cons_zero]
            refine drawD_one (i := 6) (by kernel_rfl) rfl rfl (trip_go tabOK rfl (by simp only [go_sem]; try exact rfl) (by simp [go_sem])) ?_
            refine drawD_end (by kernel_rfl) ?_
            simp only [go_sem, List.getElem_toArray, List.getElem_cons_succ, List.getElem_cons_zero]
            refine cw_le (le_drop 99 (by simp only [go_sem, hdel]; exact rfl) (by simp only [go_sem]; try exact rfl) (by simp only [go_sem, kill]; exact rfl)) ?_
            refine cw_le (le_mv 40 99 (by simp only [go_sem]; exact rfl) (by simp only [go_sem]; try exact rfl) (by simp only [go_sem]; try exact rfl) (by simp only [go_sem, hdel]; exact rfl) (by simp only [go_sem]; try exact rfl) (by simp only [go_sem, mv1, kill]; exact rfl)) ?_
            refine cw_go tabOK 99 (by simp only [go_sem]; try exact rfl) (by simp [go_sem]) ?_
            refine cw_back ⟨n :: seen, hlt, le_sub ?_ ?_ ?_⟩
            · simp [go_sem, ← hpt, hput, hlB]
              omega
            · simp [go_sem, ← hpt, hput, rowP, nodeRow, htk, hB1]
            · simp [go_sem]
          · try simp only [go_sem, hA1, hB1, htk, Nat.sub_zero, List.drop_zero, List.length_map, Nat.zero_add, List.getElem_toArray, List.getElem_cons_succ, List.getElem_cons_zero]
            refine drawD_one (i := 1) (by kernel_rfl) rfl rfl (trip_go tabOK rfl (by simp only [go_sem, hA1, hB1, htk, Nat.sub_zero, List.drop_zero, List.length_map, Nat.zero_add, List.getElem_toArray, List.getElem_cons_succ, List.getElem_cons_zero]; try exact rfl) ?_) ?_
            · skip
              try simp only [go_sem, hA1, hB1, htk, Nat.sub_zero, List.drop_zero, List.length_map, Nat.zero_add, List.getElem_toArray, List.getElem_cons_succ, List.getElem_cons_zero]
              simp
              omega
            try simp only [go_sem, hA1, hB1, htk, Nat.sub_zero, List.drop_zero, List.length_map, Nat.zero_add, List.getElem_toArray, List.getElem_cons_succ, List.getElem_cons_zero]
            refine drawD_one (i := 4) (by kernel_rfl) rfl rfl (trip_go tabOK rfl (by simp only [go_sem, hA1, hB1, htk, Nat.sub_zero, List.drop_zero, List.length_map, Nat.zero_add, List.getElem_toArray, List.getElem_cons_succ, List.getElem_cons_zero]; try exact rfl) ?_) ?_
            · simp [go_sem, row5, hA1, hB1, htk, Nat.sub_zero, List.drop_zero, List.length_map, Nat.zero_add, List.getElem_toArray, List.getElem_cons_succ, List.getElem_cons_zero]
              omega
            try simp only [go_sem, hA1, hB1, htk, Nat.sub_zero, List.drop_zero, List.length_map, Nat.zero_add, List.getElem_toArray, List.getElem_cons_succ, List.getElem_cons_zero]
            refine drawD_one (i := 5) (by kernel_rfl) rfl rfl (trip_go tabOK rfl (by simp only [go_sem, hA1, hB1, htk, Nat.sub_zero, List.drop_zero, List.length_map, Nat.zero_add, List.getElem_toArray, List.getElem_cons_succ, List.getElem_cons_zero, hlB]; try exact rfl) ?_) ?_
            · simp [go_sem, hA1, hB1, htk, Nat.sub_zero, List.drop_zero, List.length_map, Nat.zero_add, List.getElem_toArray, List.getElem_cons_succ, List.getElem_cons_zero, hlB]
              omega
            try simp only [go_sem, hA1, hB1, htk, Nat.sub_zero, List.drop_zero, List.length_map, Nat.zero_add, List.getElem_toArray, List.getElem_cons_succ, List.getElem_cons_zero]
            refine drawD_one (i := 6) (by kernel_rfl) rfl rfl (trip_go tabOK rfl (by simp only [go_sem]; try exact rfl) (by simp [go_sem])) ?_
            refine drawD_end (by kernel_rfl) ?_
            simp only [go_sem, List.getElem_toArray, List.getElem_cons_succ, List.getElem_cons_zero]
            refine cw_le (le_drop 99 (by simp only [go_sem, hdel]; exact rfl) (by simp only [go_sem]; try exact rfl) (by simp only [go_sem, kill]; exact rfl)) ?_
            refine cw_le (le_mv 40 99 (by simp only [go_sem]; exact rfl) (by simp only [go_sem]; try exact rfl) (by simp only [go_sem]; try exact rfl) (by simp only [go_sem, hdel]; exact rfl) (by simp only [go_sem]; try exact rfl) (by simp only [go_sem, mv1, kill]; exact rfl)) ?_
            refine cw_go tabOK 99 (by simp only [go_sem]; try exact rfl) (by simp [go_sem]) ?_
            refine cw_back ⟨n :: seen, hlt, le_sub ?_ ?_ ?_⟩
            · simp [go_sem, ← hpt, hput, hlB]
              omega
            · simp [go_sem, ← hpt, hput, rowP, nodeRow, htk, hB1]
            · simp [go_sem]
        · try simp only [go_sem, hA1, hB1, htk, Nat.sub_zero, List.drop_zero, List.length_map, Nat.zero_add, List.getElem_toArray, List.getElem_cons_succ, List.getElem_cons_zero]
          refine drawD_one (i := 0) (by kernel_rfl) rfl rfl (trip_go tabOK rfl (by simp only [go_sem]; try exact rfl) (by simp [go_sem])) ?_
          try simp only [go_sem, hA1, hB1, htk, Nat.sub_zero, List.drop_zero, List.length_map, Nat.zero_add, List.getElem_toArray, List.getElem_cons_succ, List.getElem_cons_zero]
          refine drawD_one (i := 1) (by kernel_rfl) rfl rfl (trip_go tabOK rfl (by simp only [go_sem, hA1, hB1, htk, Nat.sub_zero, List.drop_zero, List.length_map, Nat.zero_add, List.getElem_toArray, List.getElem_cons_succ, List.getElem_cons_zero]; try exact rfl) ?_) ?_
          · skip
            try simp only [go_sem, hA1, hB1, htk, Nat.sub_zero, List.drop_zero, List.length_map, Nat.zero_add, List.getElem_toArray, List.getElem_cons_succ, List.getElem_cons_zero]
            simp
            omega
          try simp only [go_sem, hA1, hB1, htk, Nat.sub_zero, List.drop_zero, List.length_map, Nat.zero_add, List.getElem_toArray, List.getElem_cons_succ, List.getElem_cons_zero]
          refine drawD_one (i := 4) (by kernel_rfl) rfl rfl (trip_go tabOK rfl (by simp only [go_sem, hA1, hB1, htk, Nat.sub_zero, List.drop_zero, List.length_map, Nat.zero_add, List.getElem_toArray, List.getElem_cons_succ, List.getElem_cons_zero]; try exact rfl) ?_) ?_
          · simp [go_sem, row5, hA1, hB1, htk, Nat.sub_zero, List.drop_zero, List.length_map, Nat.zero_add, List.getElem_toArray, List.getElem_cons_succ, List.getElem_cons_zero]
            omega
          try simp only [go_sem, hA1, hB1, htk, Nat.sub_zero, List.drop_zero, List.length_map, Nat.zero_add, List.getElem_toArray, List.getElem_cons_succ, List.getElem_cons_zero]
          refine drawD_one (i := 5) (by kernel_rfl) rfl rfl (trip_go tabOK rfl (by simp only [go_sem, hA1, hB1, htk, Nat.sub_zero, List.drop_zero, List.length_map, Nat.zero_add, List.getElem_toArray, List.getElem_cons_succ, List.getElem_cons_zero, hlB]; try exact rfl) ?_) ?_
          · simp [go_sem, hA1, hB1, htk, Nat.sub_zero, List.drop_zero, List.length_map, Nat.zero_add, List.getElem_toArray, List.getElem_cons_succ, List.getElem_cons_zero, hlB]
            omega
          try simp only [go_sem, hA1, hB1, htk, Nat.sub_zero, List.drop_zero, List.length_map, Nat.zero_add, List.getElem_toArray, List.getElem_cons_succ, List.getElem_cons_zero]
          refine drawD_one (i := 6) (by kernel_rfl) rfl rfl (trip_go tabOK rfl (by simp only [go_sem]; try exact rfl) (by simp [go_sem])) ?_
          refine drawD_end (by kernel_rfl) ?_
          simp only [go_sem, List.getElem_toArray, List.getElem_cons_succ, List.getElem_cons_zero]
          refine cw_le (le_drop 99 (by simp only [go_sem, hdel]; exact rfl) (by simp only [go_sem]; try exact rfl) (by simp only [go_sem, kill]; exact rfl)) ?_
          refine cw_le (le_mv 40 99 (by simp only [go_sem]; exact rfl) (by simp only [go_sem]; try exact rfl) (by simp only [go_sem]; try exact rfl) (by simp only [go_sem, hdel]; exact rfl) (by simp only [go_sem]; try exact rfl) (by simp only [go_sem, mv1, kill]; exact rfl)) ?_
          refine cw_go tabOK 99 (by simp only [go_sem]; try exact rfl) (by simp [go_sem]) ?_
          refine cw_back ⟨n :: seen, hlt, le_sub ?_ ?_ ?_⟩
          · simp [go_sem, ← hpt, hput, hlB]
            omega
          · simp [go_sem, ← hpt, hput, rowP, nodeRow, htk, hB1]
          · simp [go_sem]

theorem list_ok (l : List Node) (hu : Up l) (hlen : l.length ≤ 50000000) : FnOK Try.prog 30 [.rm (mN (mapD l))] [] (fun r _ => r = .sl (l.map nodeRow)) := by
  have h := list_raw (mapD l) (mapD_rise l) (fun p hp => by
    rw [mapD_eq hu] at hp
    obtain ⟨n, _, rfl⟩ := List.mem_map.1 hp
    rfl) (by rw [mapD_len hu]; exact hlen)
  have e : (mapD l).map rowP = l.map nodeRow := by
    rw [mapD_eq hu, List.map_map]; rfl
  rwa [e] at h
end La
