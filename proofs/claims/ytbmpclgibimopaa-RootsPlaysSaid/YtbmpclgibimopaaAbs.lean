/- Layer 18: which space each root has, as a list: the root that was used least lately first; in plain Lean. -/
import Derived.Test.YtbmpclgibimopaaUse
namespace Go.Proofs.Ytbmpclgibimopaa.Walk
/-- The roots that have a space, and it; the one that was used least lately first. -/
abbrev Lru := List (Int × Nat)
structure Ab (s : RS) (L : Lru) : Prop where
  ok : s.Ok
  perm : (L.map Prod.snd).Perm (List.range L.length)
  le : L.length ≤ s.many
  rt : ∀ p ∈ L, s.rt p.2 = p.1
  pos : ∀ p ∈ L, 0 < s.us p.2 ∧ s.us p.2 ≤ s.clock
  inc : L.Pairwise (fun a b => s.us a.2 < s.us b.2)
  free : ∀ i, L.length ≤ i → i < s.many → s.us i = 0
  nd : L.Pairwise (fun a b => a.1 ≠ b.1)
  ck : 0 ≤ s.clock
/-- Use, on the list. -/
def useL (N : Nat) (L : Lru) (x : Int) : Lru × Nat × Bool :=
  match L.find? (fun p => p.1 == x) with
  | some p => (L.filter (fun q => q.1 != x) ++ [(x, p.2)], p.2, false)
  | none => if L.length < N then (L ++ [(x, L.length)], L.length, false) else match L with
    | [] => ([], 0, false)
    | p :: L' => (L' ++ [(x, p.2)], p.2, true)
/-- Space, on the list. -/
def spaceL (L : Lru) (x : Int) : Int × Bool := match L.find? (fun p => p.1 == x) with
  | some p => ((p.2 : Int), true)
  | none => (0, false)
section
variable {s : RS} {L : Lru}
theorem Ab.lt (h : Ab s L) {p : Int × Nat} (hp : p ∈ L) : p.2 < L.length := by
  have : p.2 ∈ List.range L.length := h.perm.mem_iff.1 (List.mem_map_of_mem hp)
  simpa using this
theorem Ab.ex (h : Ab s L) {i : Nat} (hi : i < L.length) : ∃ g, (g, i) ∈ L := by
  have : i ∈ L.map Prod.snd := h.perm.mem_iff.2 (by simpa using hi)
  obtain ⟨p, hp, rfl⟩ := List.mem_map.1 this
  exact ⟨p.1, hp⟩
theorem pw_ne {L : Lru} (h : L.Pairwise (fun a b => a.1 ≠ b.1)) {p q : Int × Nat} (hp : p ∈ L) (hq : q ∈ L) (e : p.1 = q.1) : p = q := by
  induction L with
  | nil => cases hp
  | cons a L ih =>
    rw [List.pairwise_cons] at h
    rcases List.mem_cons.1 hp with hp1 | hp1
    · rcases List.mem_cons.1 hq with hq1 | hq1
      · rw [hp1, hq1]
      · rw [hp1] at e; exact absurd e (h.1 q hq1)
    · rcases List.mem_cons.1 hq with hq1 | hq1
      · rw [hq1] at e; exact absurd e.symm (h.1 p hp1)
      · exact ih h.2 hp1 hq1
theorem look_some (s : RS) (x : Int) (j0 : Nat) : ∀ m i, (∀ j, i ≤ j → j < i + m → (0 < s.us j ∧ s.rt j = x → j = j0)) → i ≤ j0 → j0 < i + m → 0 < s.us j0 → s.rt j0 = x → look s x m i = ((j0 : Int), true) := by
  intro m
  induction m with
  | zero => intro i _ h1 h2 _ _; omega
  | succ m ih =>
    intro i h h1 h2 h3 h4
    unfold look
    by_cases e : i = j0
    · subst e; rw [if_pos h3, if_pos h4]
    · have hn : ¬ (0 < s.us i ∧ s.rt i = x) := fun hh => e (h i (by omega) (by omega) hh)
      have hrec := ih (i + 1) (fun j a b => h j (by omega) (by omega)) (by omega) (by omega) h3 h4
      by_cases hu : 0 < s.us i
      · rw [if_pos hu, if_neg (fun hr => hn ⟨hu, hr⟩)]; exact hrec
      · rw [if_neg hu]; exact hrec
theorem look_none (s : RS) (x : Int) : ∀ m i, (∀ j, i ≤ j → j < i + m → ¬ (0 < s.us j ∧ s.rt j = x)) → look s x m i = (0, false) := by
  intro m
  induction m with
  | zero => intro i _; rfl
  | succ m ih =>
    intro i h
    unfold look
    have hn := h i (by omega) (by omega)
    have hrec := ih (i + 1) (fun j a b => h j (by omega) (by omega))
    by_cases hu : 0 < s.us i
    · rw [if_pos hu, if_neg (fun hr => hn ⟨hu, hr⟩)]; exact hrec
    · rw [if_neg hu]; exact hrec
theorem Ab.only (h : Ab s L) {j : Nat} (hj : j < s.many) (hu : 0 < s.us j) : (s.rt j, j) ∈ L := by
  have hl : j < L.length := by
    rcases Nat.lt_or_ge j L.length with a | a
    · exact a
    · have := h.free j a hj; omega
  obtain ⟨g, hg⟩ := h.ex hl
  have := h.rt _ hg
  rw [show s.rt j = g from this]
  exact hg
/-- Space is what the list tells. -/
theorem Ab.space (h : Ab s L) (x : Int) : s.space x = spaceL L x := by
  unfold spaceL RS.space
  cases hf : L.find? (fun p => p.1 == x) with
  | some p =>
    have hp := List.mem_of_find?_eq_some hf
    have hx : p.1 = x := by have := List.find?_some hf; simpa using this
    have hlt := h.lt hp
    refine look_some s x p.2 s.many 0 (fun j _ hj hh => ?_) (Nat.zero_le _) (by have := h.le; omega) (h.pos p hp).1 ((h.rt p hp).trans hx)
    have hm := h.only (by omega) hh.1
    have := pw_ne h.nd hm hp (by rw [hx]; exact hh.2)
    rw [← this]
  | none =>
    refine look_none s x s.many 0 (fun j _ hj hh => ?_)
    have hm := h.only (by omega) hh.1
    have := List.find?_eq_none.1 hf _ hm
    rw [hh.2] at this
    simp at this
theorem least_spec (s : RS) : ∀ m n i, (∀ j, j < n → s.us i ≤ s.us j) → (∀ j, j < i → s.us i < s.us j) → (i < n ∨ n = 0 ∧ i = 0) → (∀ j, j < n + m → s.us (least s m n i) ≤ s.us j) ∧ (∀ j, j < least s m n i → s.us (least s m n i) < s.us j) := by
  intro m
  induction m with
  | zero => intro n i h1 h2 _; exact ⟨fun j hj => h1 j (by omega), h2⟩
  | succ m ih =>
    intro n i h1 h2 h3
    unfold least
    by_cases hu : s.us n < s.us i
    · rw [if_pos hu]
      have := ih (n + 1) n (fun j hj => by
        rcases Nat.lt_or_ge j n with a | a
        · have := h1 j a; omega
        · have : j = n := by omega
          rw [this]; omega) (fun j hj => by have := h1 j hj; omega) (.inl (by omega))
      rwa [show n + 1 + m = n + (m + 1) by omega] at this
    · rw [if_neg hu]
      have := ih (n + 1) i (fun j hj => by
        rcases Nat.lt_or_ge j n with a | a
        · exact h1 j a
        · have : j = n := by omega
          rw [this]; omega) h2 (.inl (by omega))
      rwa [show n + 1 + m = n + (m + 1) by omega] at this
theorem least_eq (s : RS) (r : Nat) (hm : 1 ≤ s.many) (hr : r < s.many) (h1 : ∀ j, j < s.many → s.us r ≤ s.us j) (h2 : ∀ j, j < r → s.us r < s.us j) : least s s.many 0 0 = r := by
  obtain ⟨a1, a2⟩ := least_spec s s.many 0 0 (fun j hj => by omega) (fun j hj => by omega) (.inr ⟨rfl, rfl⟩)
  rw [Nat.zero_add] at a1
  have hlt := least_lt s s.many 0 0 s.many (by omega) (by omega)
  have b1 := a1 r hr
  have b2 := h1 _ hlt
  rcases Nat.lt_trichotomy (least s s.many 0 0) r with c | c | c
  · have := h2 _ c; omega
  · exact c
  · have := a2 _ c; omega
theorem put_us (s : RS) (hk : s.Ok) (i : Nat) (hi : i < 8) (x : Int) (j : Nat) : (s.put i x).us j = if j = i then s.clock + 1 else s.us j := by
  unfold RS.us RS.put
  dsimp only
  rw [List.getD_eq_getElem?_getD, List.getD_eq_getElem?_getD, List.getElem?_set]
  by_cases e : i = j
  · subst e
    rw [if_pos rfl, if_pos rfl, if_pos (by rw [hk.len]; exact hi)]; rfl
  · rw [if_neg e, if_neg (Ne.symm e)]
theorem put_rt (s : RS) (hk : s.Ok) (i : Nat) (hi : i < 8) (x : Int) (j : Nat) : (s.put i x).rt j = if j = i then x else s.rt j := by
  unfold RS.rt RS.put
  dsimp only
  rw [List.getD_eq_getElem?_getD, List.getD_eq_getElem?_getD, List.getElem?_set]
  by_cases e : i = j
  · subst e
    rw [if_pos rfl, if_pos rfl, if_pos (by rw [hk.len]; exact hi)]; rfl
  · rw [if_neg e, if_neg (Ne.symm e)]
theorem Ab.push (h : Ab s L) (K : Lru) (i : Nat) (x : Int) (hs : K.Sublist L) (hne : ∀ p ∈ K, p.2 ≠ i ∧ p.1 ≠ x) (hperm : (K.map Prod.snd ++ [i]).Perm (List.range (K.length + 1))) (hle : K.length + 1 ≤ s.many)
    (hfree : ∀ j, K.length + 1 ≤ j → j < s.many → s.us j = 0) (hi : i < s.many) : Ab (s.put i x) (K ++ [(x, i)]) := by
  have hk := h.ok
  have hi8 : i < 8 := by have := hk.m8; omega
  have hus := put_us s hk i hi8 x
  have hrt := put_rt s hk i hi8 x
  have hsub : ∀ p ∈ K, p ∈ L := fun p hp => hs.subset hp
  have hlen : (K ++ [(x, i)]).length = K.length + 1 := by simp
  have hil : i < K.length + 1 := by
    have : i ∈ List.range (K.length + 1) := hperm.mem_iff.1 (by simp)
    simpa using this
  refine ⟨put_ok hk i x, ?_, by rw [hlen]; exact hle, ?_, ?_, ?_, ?_, ?_, ?_⟩
  · rw [List.map_append, hlen]; exact hperm
  · intro p hp
    rcases List.mem_append.1 hp with hp | hp
    · rw [hrt, if_neg (hne p hp).1]; exact h.rt p (hsub p hp)
    · rw [List.mem_singleton.1 hp, hrt, if_pos rfl]
  · intro p hp
    have hc : (s.put i x).clock = s.clock + 1 := rfl
    rcases List.mem_append.1 hp with hp | hp
    · rw [hus, if_neg (hne p hp).1, hc]
      have := h.pos p (hsub p hp)
      exact ⟨this.1, by omega⟩
    · rw [List.mem_singleton.1 hp, hus, if_pos rfl, hc]
      have := h.ck
      exact ⟨by omega, by omega⟩
  · rw [List.pairwise_append]
    refine ⟨?_, by simp, ?_⟩
    · refine List.Pairwise.imp_of_mem ?_ (h.inc.sublist hs)
      intro a b ha hb hab
      rw [hus, hus, if_neg (hne a ha).1, if_neg (hne b hb).1]
      exact hab
    · intro a ha b hb
      rw [List.mem_singleton.1 hb, hus, hus, if_neg (hne a ha).1, if_pos rfl]
      have := (h.pos a (hsub a ha)).2
      omega
  · intro j hj hjm
    rw [hlen] at hj
    rw [hus, if_neg (by omega)]
    exact hfree j hj hjm
  · rw [List.pairwise_append]
    refine ⟨h.nd.sublist hs, by simp, ?_⟩
    intro a ha b hb
    rw [List.mem_singleton.1 hb]
    exact (hne a ha).2
  · show 0 ≤ s.clock + 1
    have := h.ck
    omega
theorem filter_perm : ∀ (L : Lru) (p : Int × Nat), L.Pairwise (fun a b => a.1 ≠ b.1) → p ∈ L → L.Perm (p :: L.filter (fun q => q.1 != p.1)) := by
  intro L
  induction L with
  | nil => intro p _ hp; cases hp
  | cons a L ih =>
    intro p h hp
    rw [List.pairwise_cons] at h
    rcases List.mem_cons.1 hp with rfl | hp
    · have e : (p :: L).filter (fun q => q.1 != p.1) = L := by
        rw [List.filter_cons, if_neg (by simp)]
        exact List.filter_eq_self.2 fun q hq => by simpa using (h.1 q hq).symm
      rw [e]
    · have ha : (a.1 != p.1) = true := by simpa using h.1 p hp
      rw [List.filter_cons, if_pos ha]
      exact ((ih p h.2 hp).cons a).trans (List.Perm.swap p a _)
/-- Use is what the list tells. -/
theorem Ab.use (h : Ab s L) (x : Int) : s.place x = ((useL s.many L x).2.1, (useL s.many L x).2.2) ∧ Ab (s.put (useL s.many L x).2.1 x) (useL s.many L x).1 ∧ (useL s.many L x).2.1 < s.many := by
  have hsp := h.space x
  have m1 := h.ok.m1
  unfold RS.place
  rw [hsp]
  unfold spaceL useL
  cases hf : L.find? (fun p => p.1 == x) with
  | some p =>
    have hp := List.mem_of_find?_eq_some hf
    have hx : p.1 = x := by have := List.find?_some hf; simpa using this
    subst hx
    have hlt := h.lt hp
    have hle := h.le
    have hpm := filter_perm L p h.nd hp
    have hlen : L.length = (L.filter (fun q => q.1 != p.1)).length + 1 := by have := hpm.length_eq; simpa using this
    refine ⟨rfl, ?_, (show p.2 < s.many by omega)⟩
    refine h.push _ p.2 p.1 List.filter_sublist (fun q hq => ?_) ?_ (by omega) (fun j hj hjm => h.free j (by omega) hjm) (by omega)
    · obtain ⟨hq1, hq2⟩ := List.mem_filter.1 hq
      have hne : q.1 ≠ p.1 := by simpa using hq2
      refine ⟨fun e => hne ?_, hne⟩
      have h1 := h.rt q hq1
      have h2 := h.rt p hp
      rw [← h1, ← h2, e]
    · rw [← hlen]
      refine List.Perm.trans ?_ h.perm
      have := hpm.map Prod.snd
      exact (List.perm_append_comm.trans this.symm)
  | none =>
    have hno : ∀ p ∈ L, p.1 ≠ x := fun p hp => by have := List.find?_eq_none.1 hf p hp; simpa using this
    dsimp only
    rw [if_neg (by decide)]
    by_cases hl : L.length < s.many
    · rw [if_pos hl]
      have h0 := h.free L.length (Nat.le_refl _) hl
      have hle : least s s.many 0 0 = L.length := least_eq s L.length m1 hl (fun j hj => by
          rw [h0]
          rcases Nat.lt_or_ge j L.length with a | a
          · obtain ⟨g, hg⟩ := h.ex a
            have := (h.pos _ hg).1
            exact Int.le_of_lt this
          · rw [h.free j a hj]; exact Int.le_refl _) (fun j hj => by
          rw [h0]
          obtain ⟨g, hg⟩ := h.ex hj
          exact (h.pos _ hg).1)
      rw [hle, h0]
      refine ⟨rfl, ?_, hl⟩
      refine h.push L L.length x (List.Sublist.refl _) (fun p hp => ⟨by have := h.lt hp; omega, hno p hp⟩) ?_ (by omega) (fun j hj hjm => h.free j (by omega) hjm) hl
      rw [List.range_succ]
      exact h.perm.append_right _
    · rw [if_neg hl]
      have hle := h.le
      match L, h, hno, hl, hle with
      | [], h, _, hl, _ => simp at hl; omega
      | p :: L', h, hno, hl, hle =>
        have hp : p ∈ p :: L' := List.mem_cons_self
        have hlt := h.lt hp
        have hpos := (h.pos p hp).1
        have hinc := h.inc
        rw [List.pairwise_cons] at hinc
        have hall : ∀ j, j < s.many → j ≠ p.2 → s.us p.2 < s.us j := by
          intro j hj hne
          obtain ⟨g, hg⟩ := h.ex (show j < (p :: L').length by omega)
          rcases List.mem_cons.1 hg with e | hg
          · exact absurd (by rw [← e]) hne
          · exact hinc.1 _ hg
        have hlst : least s s.many 0 0 = p.2 := least_eq s p.2 m1 (by omega) (fun j hj => by
            by_cases e : j = p.2
            · rw [e]; exact Int.le_refl _
            · exact Int.le_of_lt (hall j hj e)) (fun j hj => hall j (by omega) (by omega))
        rw [hlst, decide_eq_true hpos]
        refine ⟨rfl, ?_, (show p.2 < s.many by omega)⟩
        refine h.push L' p.2 x (List.sublist_cons_self _ _) (fun q hq => ⟨?_, hno q (List.mem_cons_of_mem _ hq)⟩) ?_ (by simpa using hle) (fun j hj hjm => h.free j (by simpa using hj) hjm) (by omega)
        · have := hinc.1 q hq
          intro e
          rw [e] at this
          omega
        · have := h.perm
          rw [List.map_cons, List.length_cons] at this
          exact List.perm_append_comm.trans this
/-- A machine's spaces at first. -/
def RS.new (n : Nat) : RS := ⟨n, 0, List.replicate 8 (0, 0)⟩
theorem Ab.new (n : Nat) (h1 : 1 ≤ n) (h8 : n ≤ 8) : Ab (RS.new n) [] := by
  refine ⟨⟨h1, h8, by simp [RS.new]⟩, List.Perm.refl _, Nat.zero_le _, (fun p hp => by cases hp), (fun p hp => by cases hp), List.Pairwise.nil, fun i _ _ => ?_, List.Pairwise.nil, Int.le_refl _⟩
  unfold RS.us RS.new
  rw [List.getD_eq_getElem?_getD, List.getElem?_replicate]
  split <;> rfl
theorem sorted_eq : ∀ (M l : List (Int × Int)), l.Perm M → M.Pairwise (fun a b => a.2 < b.2) → l.Pairwise (fun a b => ¬ b.2 < a.2) → l = M := by
  intro M
  induction M with
  | nil => intro l hp _ _; exact hp.eq_nil
  | cons m M ih =>
    intro l hp hM hl
    cases l with
    | nil => exact absurd hp.symm.eq_nil (by simp)
    | cons a l =>
      rw [List.pairwise_cons] at hM hl
      have ha : a = m := by
        rcases List.mem_cons.1 (hp.mem_iff.1 (List.mem_cons_self (a := a) (l := l))) with e | e
        · exact e
        · have h1 := hM.1 a e
          rcases List.mem_cons.1 (hp.mem_iff.2 (List.mem_cons_self (a := m) (l := M))) with e2 | e2
          · exact e2.symm
          · exact absurd h1 (hl.1 m e2)
      subst ha
      rw [ih l (List.perm_cons a |>.1 hp) hM.2 hl.2]
/-- What List tells is the list's roots. -/
theorem Ab.told (h : Ab s L) (l : List (Int × Int)) (hp : l.Perm (s.sp.take L.length)) (hl : l.Pairwise (fun a b => ¬ b.2 < a.2)) : l.map Prod.fst = L.map Prod.fst := by
  have hk := h.ok
  have h8 := hk.m8
  have hle := h.le
  have hf : ∀ i, i < 8 → (s.rt i, s.us i) = s.sp.getD i (0, 0) := fun i _ => rfl
  have e1 : (L.map fun p => (s.rt p.2, s.us p.2)) = (L.map Prod.snd).map (fun i => s.sp.getD i (0, 0)) := by rw [List.map_map]; rfl
  have e2 : (List.range L.length).map (fun i => s.sp.getD i (0, 0)) = s.sp.take L.length := by
    apply List.ext_getElem
    · rw [List.length_map, List.length_range, List.length_take, hk.len]; omega
    · intro i h1 h2
      rw [List.length_map, List.length_range] at h1
      rw [List.getElem_map, List.getElem_range, List.getElem_take, List.getD_eq_getElem?_getD, List.getElem?_eq_getElem (by rw [hk.len]; omega)]
      rfl
  have hM : l.Perm (L.map fun p => (s.rt p.2, s.us p.2)) := by
    rw [e1]
    refine hp.trans ?_
    rw [← e2]
    exact (h.perm.map _).symm
  have hsort : (L.map fun p => (s.rt p.2, s.us p.2)).Pairwise (fun a b => a.2 < b.2) := by
    rw [List.pairwise_map]
    exact h.inc
  rw [sorted_eq _ l hM hsort hl, List.map_map]
  apply List.map_congr_left
  intro p hp
  exact h.rt p hp
end
end Go.Proofs.Ytbmpclgibimopaa.Walk
