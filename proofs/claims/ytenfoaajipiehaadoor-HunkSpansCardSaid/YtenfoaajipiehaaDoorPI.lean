/- Which rows are shown: package hunk's groups and what it shows with each, and the same said of each row by itself. -/
import Derived.Test.YtenfoaajipiehaaDoorPE
namespace Go.Proofs.YtenfoaajipiehaaDoor.Q
set_option linter.unusedVariables false
set_option linter.unusedSimpArgs false
open Go.RowKit Go.Shelf Go.Proofs.YtenfoaajipiehaaDoorW.PrintWords
/-- Has the row at a place a mark? -/
def mk (l : List S41) (i : Nat) : Bool := l[i]?.elim false markedB
theorem mk_at {l : List S41} {i : Nat} (h : i < l.length) : mk l i = markedB l[i] := by simp [mk, List.getElem?_eq_getElem h]
theorem mk_out {l : List S41} {i : Nat} (h : l.length ≤ i) : mk l i = false := by simp [mk, List.getElem?_eq_none h]
theorem mk_lt {l : List S41} {i : Nat} (h : mk l i = true) : i < l.length := by
  rcases Nat.lt_or_ge i l.length with h1 | h1
  · exact h1
  · rw [mk_out h1] at h; cases h
theorem elim_true {l : List S41} {i : Nat} (h : i < l.length) : (l[i]?.elim true markedB) = mk l i := by simp [mk, List.getElem?_eq_getElem h]
/-- A run of rows with marks that goes no further. -/
structure IsG (l : List S41) (f t : Nat) : Prop where
  lt : f < t
  le : t ≤ l.length
  all : ∀ j, f ≤ j → j < t → mk l j = true
  lo : f = 0 ∨ mk l (f - 1) = false
  hi : mk l t = false
theorem IsG.one {l : List S41} {f t f' t' i : Nat} (h : IsG l f t) (h' : IsG l f' t') (a : f ≤ i) (b : i < t) (a' : f' ≤ i) (b' : i < t') : f = f' ∧ t = t' := by
  constructor
  · rcases Nat.lt_trichotomy f f' with x | x | x
    · have := h.all (f' - 1) (by omega) (by omega)
      rcases h'.lo with y | y
      · omega
      · rw [y] at this; cases this
    · exact x
    · have := h'.all (f - 1) (by omega) (by omega)
      rcases h.lo with y | y
      · omega
      · rw [y] at this; cases this
  · rcases Nat.lt_trichotomy t t' with x | x | x
    · have := h'.all t (by omega) (by omega)
      rw [h.hi] at this; cases this
    · exact x
    · have := h.all t' (by omega) (by omega)
      rw [h'.hi] at this; cases this
/-- The groups are such runs, and all of them. -/
theorem spansGo_isG (l : List S41) : ∀ (n p : Nat) (o : Option Nat), p + n = l.length → (∀ s, o = some s → s < p ∧ (∀ j, s ≤ j → j < p → mk l j = true) ∧ (s = 0 ∨ mk l (s - 1) = false)) → (o = none → p = 0 ∨ mk l (p - 1) = false) →
    (∀ x ∈ spansGo p (l.drop p) o, ∃ f t : Nat, x = ⟨f, t⟩ ∧ IsG l f t) ∧
    (∀ i, mk l i = true → (p ≤ i ∨ ∃ s, o = some s ∧ s ≤ i) → ∃ f t : Nat, (⟨f, t⟩ : S36) ∈ spansGo p (l.drop p) o ∧ f ≤ i ∧ i < t) := by
  intro n
  induction n with
  | zero =>
    intro p o hp ho hn
    rw [List.drop_of_length_le (by omega)]
    cases o with
    | none =>
      refine ⟨fun x hx => by simp [spansGo] at hx, fun i hi h => ?_⟩
      rcases h with h | ⟨s, e, -⟩
      · have := mk_lt hi; omega
      · cases e
    | some s =>
      obtain ⟨h1, h2, h3⟩ := ho s rfl
      refine ⟨fun x hx => ⟨s, p, by simpa [spansGo] using hx, h1, by omega, h2, h3, mk_out (by omega)⟩, fun i hi h => ⟨s, p, by simp [spansGo], ?_, ?_⟩⟩
      · rcases h with h | ⟨s', e, h⟩
        · omega
        · cases e; exact h
      · have := mk_lt hi; omega
  | succ n ih =>
    intro p o hp ho hn
    have hlt : p < l.length := by omega
    have hm := mk_at hlt
    cases o with
    | none =>
      cases hb : markedB l[p] with
      | true =>
        rw [spansGo_open hlt hb]
        rw [hb] at hm
        obtain ⟨i1, i2⟩ := ih (p + 1) (some p) (by omega) (fun s e => by cases e; exact ⟨by omega, fun j a b => (by have e : j = p := (by omega)
                                                                                                                    rw [e]; exact hm), hn rfl⟩) (fun e => by cases e)
        refine ⟨i1, fun i hi h => i2 i hi (Or.inr ⟨p, rfl, ?_⟩)⟩
        rcases h with h | ⟨s, e, -⟩
        · exact h
        · cases e
      | false =>
        rw [spansGo_skip hlt hb]
        rw [hb] at hm
        obtain ⟨i1, i2⟩ := ih (p + 1) none (by omega) (fun s e => by cases e) (fun _ => Or.inr hm)
        refine ⟨i1, fun i hi h => i2 i hi (Or.inl ?_)⟩
        rcases h with h | ⟨s, e, -⟩
        · rcases Nat.eq_or_lt_of_le h with e | e
          · subst e; rw [hm] at hi; cases hi
          · exact e
        · cases e
    | some s =>
      obtain ⟨h1, h2, h3⟩ := ho s rfl
      cases hb : markedB l[p] with
      | true =>
        rw [spansGo_on hlt hb]
        rw [hb] at hm
        obtain ⟨i1, i2⟩ := ih (p + 1) (some s) (by omega) (fun s' e => by cases e; exact ⟨by omega, fun j a b => by
          rcases Nat.eq_or_lt_of_le (Nat.le_of_lt_succ b) with e | e
          · subst e; exact hm
          · exact h2 j a e, h3⟩) (fun e => by cases e)
        refine ⟨i1, fun i hi h => i2 i hi (Or.inr ⟨s, rfl, ?_⟩)⟩
        rcases h with h | ⟨s', e, h⟩
        · omega
        · cases e; exact h
      | false =>
        rw [spansGo_shut hlt hb, spansGo_skip hlt hb]
        rw [hb] at hm
        obtain ⟨i1, i2⟩ := ih (p + 1) none (by omega) (fun s e => by cases e) (fun _ => Or.inr hm)
        refine ⟨fun x hx => ?_, fun i hi h => ?_⟩
        · rcases List.mem_cons.1 hx with e | e
          · exact ⟨s, p, e, h1, by omega, h2, h3, hm⟩
          · exact i1 x e
        · by_cases hip : i < p
          · refine ⟨s, p, List.mem_cons_self, ?_, hip⟩
            rcases h with h | ⟨s', e, h⟩
            · omega
            · cases e; exact h
          · have : i ≠ p := fun e => by subst e; rw [hm] at hi; cases hi
            obtain ⟨f, t, m1, m2⟩ := i2 i hi (Or.inl (by omega))
            exact ⟨f, t, List.mem_cons_of_mem _ m1, m2⟩
theorem groupsL_isG (l : List S41) (x : S36) (hx : x ∈ groupsL l) : ∃ f t : Nat, x = ⟨f, t⟩ ∧ IsG l f t := by
  have := (spansGo_isG l l.length 0 none (by omega) (fun s e => by cases e) (fun _ => Or.inl rfl)).1
  exact this x (by simpa [groupsL] using hx)
theorem groupsL_all (l : List S41) (i : Nat) (hi : mk l i = true) : ∃ f t : Nat, (⟨f, t⟩ : S36) ∈ groupsL l ∧ IsG l f t ∧ f ≤ i ∧ i < t := by
  obtain ⟨f, t, h1, h2, h3⟩ := (spansGo_isG l l.length 0 none (by omega) (fun s e => by cases e) (fun _ => Or.inl rfl)).2 i hi (Or.inl (by omega))
  have h1' : (⟨f, t⟩ : S36) ∈ groupsL l := by simpa [groupsL] using h1
  obtain ⟨f', t', e, hg⟩ := groupsL_isG l _ h1'
  injection e with e1 e2
  obtain rfl : f = f' := by omega
  obtain rfl : t = t' := by omega
  exact ⟨f, t, h1', hg, h2, h3⟩
theorem isG_mem (l : List S41) (f t : Nat) (h : IsG l f t) : (⟨f, t⟩ : S36) ∈ groupsL l := by
  obtain ⟨f', t', h1, h2, h3, h4⟩ := groupsL_all l f (h.all f (Nat.le_refl _) h.lt)
  obtain ⟨rfl, rfl⟩ := h.one h2 (Nat.le_refl _) h.lt h3 h4
  exact h1

/-- Is a row shown with a group? -/
def Cov (l : List S41) (ctx : Int) (f t i : Nat) : Prop :=
  (f ≤ i ∧ i < t) ∨ (i < f ∧ (f : Int) - ctx ≤ i ∧ ∀ j, i ≤ j → j < f → mk l j = false) ∨ (t ≤ i ∧ (i : Int) < t + ctx ∧ ∀ j, t ≤ j → j ≤ i → mk l j = false)
theorem set_get {sh : List Bool} {i j : Nat} (h : j < sh.length) : (sh.set i true)[j]? = some true ↔ sh[j]? = some true ∨ j = i := by
  rw [List.getElem?_set]
  by_cases e : i = j
  · subst e; simp [h]
  · rw [if_neg e]; constructor
    · exact Or.inl
    · rintro (h | h)
      · exact h
      · exact absurd h.symm e
theorem showMid_get (t : Nat) : ∀ (n i : Nat) (sh : List Bool) (j : Nat), t ≤ i + n → j < sh.length → ((showMid t n i sh)[j]? = some true ↔ sh[j]? = some true ∨ (i ≤ j ∧ j < t)) := by
  intro n
  induction n with
  | zero => intro i sh j h hj; simp only [showMid]; constructor
            · exact Or.inl
            · rintro (h | h)
              · exact h
              · omega
  | succ n ih =>
    intro i sh j h hj
    simp only [showMid]
    by_cases hit : i < t
    · rw [if_pos hit, ih (i + 1) (sh.set i true) j (by omega) (by simpa using hj), set_get hj]
      constructor
      · rintro ((h | h) | h)
        · exact Or.inl h
        · right; omega
        · right; omega
      · rintro (h | h)
        · exact Or.inl (Or.inl h)
        · by_cases e : j = i
          · exact Or.inl (Or.inr e)
          · right; omega
    · rw [if_neg hit]
      constructor
      · exact Or.inl
      · rintro (h | h)
        · exact h
        · omega
theorem showDown_get (l : List S41) (lo : Int) : ∀ (f : Nat) (sh : List Bool) (j : Nat), f ≤ l.length → j < sh.length → ((showDown l lo f sh)[j]? = some true ↔ sh[j]? = some true ∨ (j < f ∧ lo ≤ j ∧ ∀ i, j ≤ i → i < f → mk l i = false)) := by
  intro f
  induction f with
  | zero => intro sh j h hj; simp only [showDown]; constructor
            · exact Or.inl
            · rintro (h | h)
              · exact h
              · omega
  | succ f ih =>
    intro sh j h hj
    simp only [showDown]
    rw [elim_true (by omega : f < l.length)]
    by_cases hc : lo ≤ f ∧ mk l f = false
    · rw [if_pos hc, ih (sh.set f true) j (by omega) (by simpa using hj), set_get hj]
      constructor
      · rintro ((h | h) | h)
        · exact Or.inl h
        · exact Or.inr ⟨by omega, by omega, fun i a b => (show mk l i = false from (show i = f by omega) ▸ hc.2)⟩
        · exact Or.inr ⟨by omega, h.2.1, fun i a b => by
            by_cases e : i = f
            · subst e; exact hc.2
            · exact h.2.2 i a (by omega)⟩
      · rintro (h | h)
        · exact Or.inl (Or.inl h)
        · by_cases e : j = f
          · exact Or.inl (Or.inr e)
          · exact Or.inr ⟨by omega, h.2.1, fun i a b => h.2.2 i a (by omega)⟩
    · rw [if_neg hc]
      constructor
      · exact Or.inl
      · rintro (h | ⟨h1, h2, h3⟩)
        · exact h
        · exact absurd ⟨by omega, h3 f (by omega) (by omega)⟩ hc
theorem showUp_get (l : List S41) (hi : Int) : ∀ (n t : Nat) (sh : List Bool) (j : Nat), t + n = l.length → sh.length = l.length → j < sh.length → ((showUp l hi n t sh)[j]? = some true ↔ sh[j]? = some true ∨ (t ≤ j ∧ j < hi ∧ ∀ i, t ≤ i → i ≤ j → mk l i = false)) := by
  intro n
  induction n with
  | zero => intro t sh j h hs hj; simp only [showUp]; constructor
            · exact Or.inl
            · rintro (h | h)
              · exact h
              · omega
  | succ n ih =>
    intro t sh j h hs hj
    simp only [showUp]
    rw [elim_true (by omega : t < l.length)]
    by_cases hc : (t : Int) < hi ∧ mk l t = false
    · rw [if_pos hc, ih (t + 1) (sh.set t true) j (by omega) (by simpa using hs) (by simpa using hj), set_get hj]
      constructor
      · rintro ((h | h) | h)
        · exact Or.inl h
        · exact Or.inr ⟨by omega, by omega, fun i a b => (show mk l i = false from (show i = t by omega) ▸ hc.2)⟩
        · exact Or.inr ⟨by omega, h.2.1, fun i a b => by
            by_cases e : i = t
            · subst e; exact hc.2
            · exact h.2.2 i (by omega) b⟩
      · rintro (h | h)
        · exact Or.inl (Or.inl h)
        · by_cases e : j = t
          · exact Or.inl (Or.inr e)
          · exact Or.inr ⟨by omega, h.2.1, fun i a b => h.2.2 i (by omega) b⟩
    · rw [if_neg hc]
      constructor
      · exact Or.inl
      · rintro (h | ⟨h1, h2, h3⟩)
        · exact h
        · exact absurd ⟨by omega, h3 t (by omega) (by omega)⟩ hc
theorem showL_get (l : List S41) (ctx : Int) (f t : Nat) (sh : List Bool) (j : Nat) (hft : f ≤ t) (ht : t ≤ l.length) (hs : sh.length = l.length) (hj : j < l.length) :
    (showL l ctx f t sh)[j]? = some true ↔ sh[j]? = some true ∨ Cov l ctx f t j := by
  unfold showL
  have h1 : (showMid t (t - f) f sh).length = l.length := by rw [showMid_length, hs]
  have h2 : (showDown l (f - ctx) f (showMid t (t - f) f sh)).length = l.length := by rw [showDown_length, h1]
  rw [showUp_get l _ (l.length - t) t _ j (by omega) h2 (by omega), showDown_get l _ f _ j (by omega) (by omega), showMid_get t (t - f) f sh j (by omega) (by omega)]
  unfold Cov
  constructor
  · rintro (((h | h) | h) | h)
    · exact Or.inl h
    · exact Or.inr (Or.inl h)
    · exact Or.inr (Or.inr (Or.inl h))
    · exact Or.inr (Or.inr (Or.inr h))
  · rintro (h | (h | (h | h)))
    · exact Or.inl (Or.inl (Or.inl h))
    · exact Or.inl (Or.inl (Or.inr h))
    · exact Or.inl (Or.inr h)
    · exact Or.inr h
/-- Is a group kept? -/
def keptG (l : List S41) (dense : Bool) (f t : Nat) : Bool := !(dense && dullB (midL l f t))
theorem showAll_fold (l : List S41) (ctx : Int) (dense : Bool) (j : Nat) (hj : j < l.length) : ∀ (gs : List S36) (sh : List Bool), sh.length = l.length → (∀ x ∈ gs, ∃ f t : Nat, x = ⟨f, t⟩ ∧ IsG l f t) →
    ((gs.foldl (showOne l ctx dense) sh)[j]? = some true ↔ sh[j]? = some true ∨ ∃ f t : Nat, (⟨f, t⟩ : S36) ∈ gs ∧ keptG l dense f t = true ∧ Cov l ctx f t j) := by
  intro gs
  induction gs with
  | nil => intro sh hs hg; simp
  | cons g gs ih =>
    intro sh hs hg
    obtain ⟨f, t, rfl, hG⟩ := hg g List.mem_cons_self
    rw [List.foldl_cons, ih _ ((showOne_length ..).trans hs) (fun x hx => hg x (List.mem_cons_of_mem _ hx))]
    have e : (showOne l ctx dense sh ⟨f, t⟩)[j]? = some true ↔ sh[j]? = some true ∨ (keptG l dense f t = true ∧ Cov l ctx f t j) := by
      unfold showOne keptG
      rw [show ((⟨(f : Int), (t : Int)⟩ : S36).f0).toNat = f from Int.toNat_natCast f, show ((⟨(f : Int), (t : Int)⟩ : S36).f1).toNat = t from Int.toNat_natCast t]
      have hb : (!dense || !dullB (midL l f t)) = !(dense && dullB (midL l f t)) := by cases dense <;> simp
      rw [hb]
      by_cases hk : (!(dense && dullB (midL l f t))) = true
      · rw [if_pos hk, showL_get l ctx f t sh j (Nat.le_of_lt hG.lt) hG.le hs hj]
        constructor
        · rintro (h | h)
          · exact Or.inl h
          · exact Or.inr ⟨hk, h⟩
        · rintro (h | h)
          · exact Or.inl h
          · exact Or.inr h.2
      · rw [if_neg hk]
        constructor
        · exact Or.inl
        · rintro (h | h)
          · exact h
          · exact absurd h.1 hk
    rw [e]
    constructor
    · rintro ((h | h) | ⟨f', t', h1, h2⟩)
      · exact Or.inl h
      · exact Or.inr ⟨f, t, List.mem_cons_self, h⟩
      · exact Or.inr ⟨f', t', List.mem_cons_of_mem _ h1, h2⟩
    · rintro (h | ⟨f', t', h1, h2⟩)
      · exact Or.inl (Or.inl h)
      · rcases List.mem_cons.1 h1 with e | e
        · injection e with e1 e2
          obtain rfl : f' = f := by omega
          obtain rfl : t' = t := by omega
          exact Or.inl (Or.inr h2)
        · exact Or.inr ⟨f', t', e, h2⟩
/-- A row is shown just if a group that is kept shows it. -/
theorem showAll_get (l : List S41) (ctx : Int) (dense : Bool) (j : Nat) (hj : j < l.length) :
    (showAll l ctx dense (groupsL l))[j]? = some true ↔ ∃ f t : Nat, IsG l f t ∧ keptG l dense f t = true ∧ Cov l ctx f t j := by
  unfold showAll
  rw [showAll_fold l ctx dense j hj (groupsL l) _ (by simp) (fun x hx => groupsL_isG l x hx)]
  constructor
  · rintro (h | ⟨f, t, h1, h2⟩)
    · rw [List.getElem?_replicate, if_pos hj] at h; cases h
    · obtain ⟨f', t', e, hG⟩ := groupsL_isG l _ h1
      injection e with e1 e2
      obtain rfl : f = f' := by omega
      obtain rfl : t = t' := by omega
      exact ⟨f, t, hG, h2⟩
  · rintro ⟨f, t, h1, h2⟩
    exact Or.inr ⟨f, t, isG_mem l f t h1, h2⟩
end Go.Proofs.YtenfoaajipiehaaDoor.Q
