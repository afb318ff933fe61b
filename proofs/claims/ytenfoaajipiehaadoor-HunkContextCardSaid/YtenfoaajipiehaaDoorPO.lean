/- The law HunkContext, as a Lean function, is true at every input. -/
import Derived.Test.YtenfoaajipiehaaDoorPM
import Derived.Test.YtenfoaajipiehaaDoorC1
namespace Go.Proofs.YtenfoaajipiehaaDoor.Q
set_option linter.unusedVariables false
set_option linter.unusedSimpArgs false
open Go.RowKit Go.Shelf Go.Proofs.YtenfoaajipiehaaDoorW.PrintWords
/-- A run of true's that goes no further. -/
structure IsR (S : List Bool) (s t : Nat) : Prop where
  lt : s < t
  le : t ≤ S.length
  all : ∀ i, s ≤ i → i < t → S[i]? = some true
  lo : s = 0 ∨ S[s - 1]? = some false
  hi : t = S.length ∨ S[t]? = some false
theorem run_some (S : List Bool) : ∀ (n q s : Nat), q + n = S.length → ∃ t, q ≤ t ∧ t ≤ S.length ∧ (∀ i, q ≤ i → i < t → S[i]? = some true) ∧ (t = S.length ∨ S[t]? = some false) ∧ runsGo q (S.drop q) (some s) = (s, t) :: runsGo t (S.drop t) none := by
  intro n
  induction n with
  | zero => intro q s hq; exact ⟨q, Nat.le_refl _, by omega, fun i a b => by omega, Or.inl (by omega), runsGo_end (by omega)⟩
  | succ n ih =>
    intro q s hq
    have h : q < S.length := by omega
    cases hb : S[q] with
    | true =>
      obtain ⟨t, h1, h2, h3, h4, h5⟩ := ih (q + 1) s (by omega)
      refine ⟨t, by omega, h2, fun i a b => ?_, h4, (runsGo_on h hb).trans h5⟩
      rcases Nat.eq_or_lt_of_le a with e | e
      · subst e; rw [List.getElem?_eq_getElem h, hb]
      · exact h3 i e b
    | false => exact ⟨q, Nat.le_refl _, by omega, fun i a b => by omega, Or.inr (by rw [List.getElem?_eq_getElem h, hb]), runsGo_shut h hb⟩
theorem runs_isR (S : List Bool) : ∀ (n p : Nat), p + n = S.length → (p = 0 ∨ S[p - 1]? = some false ∨ p = S.length ∨ S[p]? = some false) → ∀ r ∈ runsGo p (S.drop p) none, IsR S r.1 r.2 := by
  intro n
  induction n using Nat.strongRecOn with
  | ind n ih =>
    intro p hp ho r hr
    by_cases h : p < S.length
    · cases hb : S[p] with
      | false =>
        rw [runsGo_skip h hb] at hr
        exact ih (n - 1) (by omega) (p + 1) (by omega) (Or.inr (Or.inl (by rw [Nat.add_sub_cancel, List.getElem?_eq_getElem h, hb]))) r hr
      | true =>
        obtain ⟨t, h1, h2, h3, h4, h5⟩ := run_some S (n - 1) (p + 1) p (by omega)
        rw [runsGo_open h hb, h5] at hr
        rcases List.mem_cons.1 hr with e | e
        · subst e
          refine ⟨by omega, h2, fun i a b => ?_, ?_, h4⟩
          · rcases Nat.eq_or_lt_of_le a with e | e
            · subst e; rw [List.getElem?_eq_getElem h, hb]
            · exact h3 i e b
          · rcases ho with x | x | x | x
            · exact Or.inl x
            · exact Or.inr x
            · omega
            · rw [List.getElem?_eq_getElem h, hb] at x; cases x
        · exact ih (S.length - t) (by omega) t (by omega) (Or.inr (Or.inr h4)) r e
    · rw [List.drop_of_length_le (by omega)] at hr
      simp [runsGo] at hr
/-- Runs of the lesser list, up to a place. -/
theorem runs_ge (a : List Bool) (t : Nat) (ht : t = a.length ∨ a[t]? = some false) : ∀ (n p : Nat), p + n = t → (∀ s, 1 + (runsGo t (a.drop t) none).length ≤ (runsGo p (a.drop p) (some s)).length) ∧
    (runsGo t (a.drop t) none).length ≤ (runsGo p (a.drop p) none).length ∧ ((∃ i : Nat, p ≤ i ∧ i < t ∧ a[i]? = some true) → 1 + (runsGo t (a.drop t) none).length ≤ (runsGo p (a.drop p) none).length) := by
  have htl : t ≤ a.length := by
    rcases ht with h | h
    · omega
    · have := (List.getElem?_eq_some_iff.1 h).1; omega
  intro n
  induction n with
  | zero =>
    intro p hp
    obtain rfl : p = t := by omega
    refine ⟨fun s => ?_, Nat.le_refl _, fun ⟨i, h1, h2, _⟩ => by omega⟩
    rcases ht with h | h
    · rw [runsGo_end (by omega : a.length ≤ p), List.length_cons]; omega
    · obtain ⟨h1, h2⟩ := List.getElem?_eq_some_iff.1 h
      rw [runsGo_shut h1 h2, List.length_cons]; omega
  | succ n ih =>
    intro p hp
    obtain ⟨i1, i2, i3⟩ := ih (p + 1) (by omega)
    have h : p < a.length := by omega
    cases hb : a[p] with
    | true =>
      have := i1 p
      refine ⟨fun s => by rw [runsGo_on h hb]; exact i1 s, by rw [runsGo_open h hb]; omega, fun _ => by rw [runsGo_open h hb]; exact i1 p⟩
    | false =>
      have e := runsGo_skip h hb
      refine ⟨fun s => ?_, by rw [e]; exact i2, fun ⟨i, h1, h2, h3⟩ => ?_⟩
      · rw [runsGo_shut h hb, List.length_cons, e]; omega
      · rw [e]
        refine i3 ⟨i, ?_, h2, h3⟩
        rcases Nat.eq_or_lt_of_le h1 with q | q
        · subst q; rw [List.getElem?_eq_getElem h, hb] at h3; cases h3
        · exact q
/-- More is shown: there are no more runs, if each has some of what was shown. -/
theorem runs_le (a b : List Bool) (hab : a.length = b.length) (hle : ∀ i : Nat, a[i]? = some true → b[i]? = some true) (hsome : ∀ s t, IsR b s t → ∃ i : Nat, s ≤ i ∧ i < t ∧ a[i]? = some true) : ∀ (n p : Nat), p + n = b.length → (p = 0 ∨ b[p - 1]? = some false ∨ p = b.length ∨ b[p]? = some false) →
    (runsGo p (b.drop p) none).length ≤ (runsGo p (a.drop p) none).length := by
  intro n
  induction n using Nat.strongRecOn with
  | ind n ih =>
    intro p hp ho
    by_cases h : p < b.length
    · have ha : p < a.length := by omega
      cases hb : b[p] with
      | false =>
        have hpa : a[p] = false := by
          cases hq : a[p] with
          | false => rfl
          | true =>
            have := hle p (by rw [List.getElem?_eq_getElem ha, hq])
            rw [List.getElem?_eq_getElem h, hb] at this; cases this
        rw [runsGo_skip h hb, runsGo_skip ha hpa]
        exact ih (n - 1) (by omega) (p + 1) (by omega) (Or.inr (Or.inl (by rw [Nat.add_sub_cancel, List.getElem?_eq_getElem h, hb])))
      | true =>
        obtain ⟨t, h1, h2, h3, h4, h5⟩ := run_some b (n - 1) (p + 1) p (by omega)
        rw [runsGo_open h hb, h5, List.length_cons]
        have hR : IsR b p t := by
          refine ⟨by omega, h2, fun i x y => ?_, ?_, h4⟩
          · rcases Nat.eq_or_lt_of_le x with e | e
            · subst e; rw [List.getElem?_eq_getElem h, hb]
            · exact h3 i e y
          · rcases ho with x | x | x | x
            · exact Or.inl x
            · exact Or.inr x
            · omega
            · rw [List.getElem?_eq_getElem h, hb] at x; cases x
        have hat : t = a.length ∨ a[t]? = some false := by
          rcases h4 with x | x
          · exact Or.inl (by omega)
          · obtain ⟨y1, y2⟩ := List.getElem?_eq_some_iff.1 x
            have y3 : t < a.length := by omega
            right
            rw [List.getElem?_eq_getElem y3]
            cases hq : a[t] with
            | false => rfl
            | true =>
              have := hle t (by rw [List.getElem?_eq_getElem y3, hq])
              rw [x] at this; cases this
        have hg := (runs_ge a t hat (t - p) p (by omega)).2.2 (hsome p t hR)
        have hI := ih (b.length - t) (by omega) t (by omega) (Or.inr (Or.inr h4))
        omega
    · rw [List.drop_of_length_le (by omega)]
      simp [runsGo]
theorem sel_le : ∀ (l : List S41) (a b : List Bool), a.length = l.length → b.length = l.length → (∀ i : Nat, a[i]? = some true → b[i]? = some true) → (sel l a).length ≤ (sel l b).length := by
  intro l
  induction l with
  | nil => intro a b ha hb h; simp [sel]
  | cons x l ih =>
    intro a b ha hb h
    cases a with
    | nil => simp at ha
    | cons p a =>
      cases b with
      | nil => simp at hb
      | cons q b =>
        have hI := ih a b (by simpa using ha) (by simpa using hb) (fun i hi => by simpa using h (i + 1) (by simpa using hi))
        have h0 := h 0
        simp only [sel]
        cases p with
        | true =>
          have : q = true := by simpa using h0 (by simp)
          subst this
          simp; exact hI
        | false =>
          cases q with
          | true => simp; omega
          | false => simpa using hI
section
variable (l : List S41) (ctx : Int) (dense : Bool)
/-- Each run begins, and ends, near a row with a mark, that is kept. -/
theorem run_near (h0 : 0 ≤ ctx) {s t : Nat} (hR : IsR (showAll l ctx dense (groupsL l)) s t) :
    (∃ p f t', s ≤ p ∧ p < t ∧ mk l p = true ∧ (p : Int) ≤ s + ctx ∧ IsG l f t' ∧ keptG l dense f t' = true ∧ f ≤ p ∧ p < t') ∧ (∃ p, s ≤ p ∧ p < t ∧ mk l p = true ∧ (t : Int) - 1 ≤ p + ctx) := by
  have hS : (showAll l ctx dense (groupsL l)).length = l.length := showAll_length ..
  have hst := hR.lt
  have htl := hR.le
  constructor
  · obtain ⟨f, t', hG, hk, hC⟩ := (showAll_get l ctx dense s (by omega)).1 (hR.all s (Nat.le_refl _) hst)
    have hft := hG.lt
    have hle := hG.le
    rcases hC with hC | hC | hC
    · exact ⟨s, f, t', Nat.le_refl _, hst, hG.all s hC.1 hC.2, by omega, hG, hk, hC.1, hC.2⟩
    · refine ⟨f, f, t', by omega, ?_, hG.all f (Nat.le_refl _) hft, by omega, hG, hk, Nat.le_refl _, hft⟩
      rcases Nat.lt_or_ge f t with h | h
      · exact h
      · have hx : (showAll l ctx dense (groupsL l))[t]? = some true := (showAll_get l ctx dense t (by omega)).2 ⟨f, t', hG, hk, by
          rcases Nat.eq_or_lt_of_le h with e | e
          · exact Or.inl (by omega)
          · exact Or.inr (Or.inl ⟨e, by omega, fun j a b => hC.2.2 j (by omega) b⟩)⟩
        rcases hR.hi with y | y
        · omega
        · rw [hx] at y; cases y
    · have hx : (showAll l ctx dense (groupsL l))[s - 1]? = some true := (showAll_get l ctx dense (s - 1) (by omega)).2 ⟨f, t', hG, hk, by
        by_cases e : s = t'
        · exact Or.inl (by omega)
        · exact Or.inr (Or.inr ⟨by omega, by omega, fun j a b => hC.2.2 j a (by omega)⟩)⟩
      rcases hR.lo with y | y
      · omega
      · rw [hx] at y; cases y
  · obtain ⟨f, t', hG, hk, hC⟩ := (showAll_get l ctx dense (t - 1) (by omega)).1 (hR.all (t - 1) (by omega) (by omega))
    have hft := hG.lt
    have hle := hG.le
    rcases hC with hC | hC | hC
    · exact ⟨t - 1, by omega, by omega, hG.all _ hC.1 hC.2, by omega⟩
    · have hx : (showAll l ctx dense (groupsL l))[t]? = some true := (showAll_get l ctx dense t (by omega)).2 ⟨f, t', hG, hk, by
        by_cases e : t = f
        · exact Or.inl (by omega)
        · exact Or.inr (Or.inl ⟨by omega, by omega, fun j a b => hC.2.2 j (by omega) b⟩)⟩
      rcases hR.hi with y | y
      · omega
      · rw [hx] at y; cases y
    · refine ⟨t' - 1, ?_, by omega, hG.all _ (by omega) (by omega), by omega⟩
      rcases Nat.lt_or_ge (t' - 1) s with h | h
      · have hx : (showAll l ctx dense (groupsL l))[s - 1]? = some true := (showAll_get l ctx dense (s - 1) (by omega)).2 ⟨f, t', hG, hk, by
          by_cases e : s = t'
          · exact Or.inl (by omega)
          · exact Or.inr (Or.inr ⟨by omega, by omega, fun j a b => hC.2.2 j a (by omega)⟩)⟩
        rcases hR.lo with y | y
        · omega
        · rw [hx] at y; cases y
      · exact h
theorem showAll_mono (y : Int) (hxy : ctx ≤ y) (i : Nat) (h : (showAll l ctx dense (groupsL l))[i]? = some true) : (showAll l y dense (groupsL l))[i]? = some true := by
  have hi := (List.getElem?_eq_some_iff.1 h).1
  rw [showAll_length] at hi
  obtain ⟨f, t, hG, hk, hC⟩ := (showAll_get l ctx dense i hi).1 h
  refine (showAll_get l y dense i hi).2 ⟨f, t, hG, hk, ?_⟩
  rcases hC with hC | hC | hC
  · exact Or.inl hC
  · exact Or.inr (Or.inl ⟨hC.1, by omega, hC.2.2⟩)
  · exact Or.inr (Or.inr ⟨hC.1, by omega, hC.2.2⟩)
/-- More context: no more hunks. -/
theorem hunks_less (h0 : 0 ≤ ctx) (y : Int) (hxy : ctx ≤ y) : (runsGo 0 (showAll l y dense (groupsL l)) none).length ≤ (runsGo 0 (showAll l ctx dense (groupsL l)) none).length := by
  have := runs_le (showAll l ctx dense (groupsL l)) (showAll l y dense (groupsL l)) (by rw [showAll_length, showAll_length]) (showAll_mono l ctx dense y hxy) (fun s t hR => by
    obtain ⟨⟨p, f, t', h1, h2, h3, -, hG, hk, h5, h6⟩, -⟩ := run_near l y dense (by omega) hR
    have := mk_lt h3
    exact ⟨p, h1, h2, (showAll_get l ctx dense p this).2 ⟨f, t', hG, hk, Or.inl ⟨h5, h6⟩⟩⟩) (showAll l y dense (groupsL l)).length 0 (by omega) (Or.inl rfl)
  simpa using this
end
/-- The hunks of rows, by their runs. -/
def hunksL (l : List S41) (ctx : Int) (dense : Bool) : List S38 := (runsGo 0 (showAll l ctx dense (groupsL l)) none).map (mkHunk l (zerosOf l))
theorem hunksL_rows (l : List S41) (ctx : Int) (dense : Bool) : (hunksL l ctx dense).flatMap (·.f2) = sel l (showAll l ctx dense (groupsL l)) := by
  have h1 := runs_sel l (showAll l ctx dense (groupsL l)) (showAll_length ..) l.length 0 none (by omega) (fun s e => by cases e)
  rw [List.drop_zero, List.drop_zero] at h1
  unfold hunksL
  rw [List.flatMap_map]
  exact h1
/-- The rows of a hunk: some, and near to where they begin, and end, one with a mark. -/
def NearP (x : Int) (R : List S41) : Prop := R.length ≤ 40 ∧ (∀ y ∈ R, y.f0.size ≤ 20) ∧ (∃ p : Nat, ∃ h : p < R.length, markedB R[p] = true ∧ (p : Int) ≤ x) ∧ (∃ q : Nat, ∃ h : q < R.length, markedB (R[R.length - 1 - q]'(by omega)) = true ∧ (q : Int) ≤ x)
theorem mid_get (l : List S41) (s t p : Nat) (ht : t ≤ l.length) (h : s + p < t) (hp : p < (midL l s t).length) : (midL l s t)[p] = l[s + p]'(by omega) := by
  simp only [midL, List.getElem_drop, List.getElem_take]
theorem hunksL_near (l : List S41) (hf : FewP l) (ctx : Int) (h0 : 0 ≤ ctx) (dense : Bool) : ∀ x ∈ hunksL l ctx dense, NearP ctx x.f2 := by
  intro x hx
  obtain ⟨r, hr, rfl⟩ := List.mem_map.1 hx
  have hl := hf.1
  have hS : (showAll l ctx dense (groupsL l)).length = l.length := showAll_length ..
  have hR := runs_isR (showAll l ctx dense (groupsL l)) (showAll l ctx dense (groupsL l)).length 0 (by omega) (Or.inl rfl) r (by rw [List.drop_zero]; exact hr)
  have h1 := hR.lt
  have h2 := hR.le
  obtain ⟨⟨p, -, -, a1, a2, a3, a4, -⟩, ⟨q, b1, b2, b3, b4⟩⟩ := run_near l ctx dense h0 hR
  have hlen : (midL l r.1 r.2).length = r.2 - r.1 := mid_length l r.1 r.2 (by omega)
  show NearP ctx (midL l r.1 r.2)
  refine ⟨by omega, fun y hy => (hf.2 y (List.mem_of_mem_take (List.mem_of_mem_drop hy))).1, ⟨p - r.1, by omega, ?_, by omega⟩, ⟨r.2 - 1 - q, by omega, ?_, by omega⟩⟩
  · rw [mid_get l r.1 r.2 (p - r.1) (by omega) (by omega)]
    have e : r.1 + (p - r.1) = p := by omega
    rw [mk_at (mk_lt a3)] at a3
    simpa only [e] using a3
  · rw [mid_get l r.1 r.2 _ (by omega) (by omega)]
    have e : r.1 + ((midL l r.1 r.2).length - 1 - (r.2 - 1 - q)) = q := by omega
    rw [mk_at (mk_lt b3)] at b3
    simpa only [e] using b3
section
variable (x : Int) (A B : List S38) (hAx : ∀ y ∈ A, NearP x y.f2)
include hAx
theorem ctx_l1 (n m0 : Int) (i : Nat) (hi : i < A.length) (p : Nat) (hp : p < A[i].f2.length) (hm : markedB A[i].f2[p] = true) : ∀ (m j k : Nat), j + m = p → m + 60 < k →
    ∃ f k' : Nat, f ≤ p ∧ k ≤ k' + m + 1 ∧ sennitlaw21_HunkContext.l1 k true x A B n m0 i j = sennitlaw21_HunkContext.j3 k' true x A B n m0 i f := by
  have hx := hAx _ (List.getElem_mem hi)
  have hl := hx.1
  intro m
  induction m with
  | zero =>
    intro j k hj hk
    obtain ⟨k, rfl⟩ : ∃ k', k = k' + 1 := ⟨k - 1, by omega⟩
    obtain rfl : j = p := by omega
    have hy := hx.2.1 _ (List.getElem_mem hp)
    refine ⟨j, k, Nat.le_refl _, by omega, ?_⟩
    rw [sennitlaw21_HunkContext.l1, if_pos (by omega), if_pos (by omega), rd38_at hi, if_pos (by omega), if_pos (by omega), rd_at hp, ref_marked _ (by omega) k (by omega), Option.bind_some, hm, if_pos rfl]
  | succ m ih =>
    intro j k hj hk
    obtain ⟨k, rfl⟩ : ∃ k', k = k' + 1 := ⟨k - 1, by omega⟩
    have hlt : j < A[i].f2.length := by omega
    have hy := hx.2.1 _ (List.getElem_mem hlt)
    rw [sennitlaw21_HunkContext.l1, if_pos (by omega), if_pos (by omega), rd38_at hi, if_pos (by omega), if_pos (by omega), rd_at hlt, ref_marked _ (by omega) k (by omega), Option.bind_some, w64 _ (by omega)]
    cases hb : markedB A[i].f2[j] with
    | true => exact ⟨j, k, by omega, by omega, by rw [if_pos rfl]⟩
    | false =>
      obtain ⟨f, k', h1, h2, h3⟩ := ih (j + 1) k (by omega) (by omega)
      exact ⟨f, k', h1, by omega, by rw [if_neg (by decide)]; exact h3⟩
theorem ctx_l2 (hA : A.length ≤ 40) (n m0 : Int) (i : Nat) (hi : i < A.length) (f : Nat) (hfx : (f : Int) ≤ x) (hfl : f < A[i].f2.length) (q : Nat) (hq : q < A[i].f2.length) (hm : markedB (A[i].f2[A[i].f2.length - 1 - q]'(by omega)) = true) (hqx : (q : Int) ≤ x) : ∀ (m c k : Nat), c + m = q → m + 60 < k →
    ∃ k' : Nat, k ≤ k' + m + 1 ∧ sennitlaw21_HunkContext.l2 k true x A B n m0 i f c = sennitlaw21_HunkContext.l0 k' true x A B n m0 ((i + 1 : Nat) : Int) := by
  have hx := hAx _ (List.getElem_mem hi)
  have hl := hx.1
  intro m
  induction m with
  | zero =>
    intro c k hc hk
    obtain ⟨k, rfl⟩ : ∃ k', k = k' + 1 := ⟨k - 1, by omega⟩
    obtain rfl : c = q := by omega
    have hlt : A[i].f2.length - 1 - c < A[i].f2.length := by omega
    have hy := hx.2.1 _ (List.getElem_mem hlt)
    refine ⟨k, by omega, ?_⟩
    rw [sennitlaw21_HunkContext.l2, if_pos (by omega), if_pos (by omega), rd38_at hi, if_pos (by omega), w64 ((A[i].f2.length : Int) - 1) (by omega), w64 ((A[i].f2.length : Int) - 1 - c) (by omega), if_pos (by omega), if_pos (by omega),
      show ((A[i].f2.length : Int) - 1 - c) = ((A[i].f2.length - 1 - c : Nat) : Int) by omega, rd_at hlt, ref_marked _ (by omega) k (by omega), Option.bind_some, hm, if_pos rfl, if_neg (by omega), if_neg (by omega), if_neg (by omega), w64 _ (by omega)]
    rfl
  | succ m ih =>
    intro c k hc hk
    obtain ⟨k, rfl⟩ : ∃ k', k = k' + 1 := ⟨k - 1, by omega⟩
    have hlt : A[i].f2.length - 1 - c < A[i].f2.length := by omega
    have hy := hx.2.1 _ (List.getElem_mem hlt)
    rw [sennitlaw21_HunkContext.l2, if_pos (by omega), if_pos (by omega), rd38_at hi, if_pos (by omega), w64 ((A[i].f2.length : Int) - 1) (by omega), w64 ((A[i].f2.length : Int) - 1 - c) (by omega), if_pos (by omega), if_pos (by omega),
      show ((A[i].f2.length : Int) - 1 - c) = ((A[i].f2.length - 1 - c : Nat) : Int) by omega, rd_at hlt, ref_marked _ (by omega) k (by omega), Option.bind_some]
    cases hb : markedB (A[i].f2[A[i].f2.length - 1 - c]) with
    | true =>
      refine ⟨k, by omega, ?_⟩
      rw [if_pos rfl, if_neg (by omega), if_neg (by omega), if_neg (by omega), w64 _ (by omega)]
      rfl
    | false =>
      obtain ⟨k', h1, h2⟩ := ih (c + 1) k (by omega) (by omega)
      refine ⟨k', by omega, ?_⟩
      rw [if_neg (by decide), w64 ((c : Int) + 1) (by omega)]
      exact h2
theorem ctx_l0 (hA : A.length ≤ 40) : ∀ (m i k n : Nat), i + m = A.length → 200 * m + 500 < k → n + 50 * m ≤ 100000 →
    ∃ k', 400 ≤ k' ∧ sennitlaw21_HunkContext.l0 k true x A B n 0 i = sennitlaw21_HunkContext.l3 k' true A B ((n + ((A.drop i).flatMap (·.f2)).length : Nat) : Int) 0 0 := by
  intro m
  induction m with
  | zero =>
    intro i k n hi hk hn
    obtain ⟨k, rfl⟩ : ∃ k', k = k' + 1 := ⟨k - 1, by omega⟩
    refine ⟨k, by omega, ?_⟩
    rw [sennitlaw21_HunkContext.l0, if_neg (by omega), List.drop_of_length_le (by omega)]
    rfl
  | succ m ih =>
    intro i k n hi hk hn
    obtain ⟨k, rfl⟩ : ∃ k', k = k' + 1 := ⟨k - 1, by omega⟩
    have hlt : i < A.length := by omega
    obtain ⟨hl, hs, ⟨p, hp, hpm, hpx⟩, ⟨q, hq, hqm, hqx⟩⟩ := hAx _ (List.getElem_mem hlt)
    rw [sennitlaw21_HunkContext.l0, if_pos (by omega), if_pos (by omega), rd38_at hlt, if_neg (by omega), w64 _ (by omega)]
    obtain ⟨f, k1, h1, h2, h3⟩ := ctx_l1 x A B hAx ((n : Int) + (A[i].f2.length : Nat)) 0 i hlt p hp hpm p 0 k (by omega) (by omega)
    obtain ⟨k1, rfl⟩ : ∃ k', k1 = k' + 1 := ⟨k1 - 1, by omega⟩
    obtain ⟨k2, h4, h5⟩ := ctx_l2 x A B hAx hA ((n : Int) + (A[i].f2.length : Nat)) 0 i hlt f (by omega) (by omega) q hq hqm hqx q 0 k1 (by omega) (by omega)
    obtain ⟨k3, h6, h7⟩ := ih (i + 1) k2 (n + A[i].f2.length) (by omega) (by omega) (by omega)
    refine ⟨k3, h6, h3.trans ?_⟩
    rw [sennitlaw21_HunkContext.j3]
    refine h5.trans (Eq.trans ?_ (h7.trans ?_))
    · rw [show ((n : Int) + (A[i].f2.length : Nat)) = ((n + A[i].f2.length : Nat) : Int) by omega]
    · rw [List.drop_eq_getElem_cons hlt, List.flatMap_cons, List.length_append, Nat.add_assoc]
end
theorem ctx_l3 (A B : List S38) (hAB : B.length ≤ A.length) (hB : ∀ y ∈ B, y.f2.length ≤ 40) (n : Nat) (hBl : B.length ≤ 40) : ∀ (m i k s : Nat), i + m = B.length → m < k → s + 50 * m ≤ 100000 → n ≤ s + ((B.drop i).flatMap (·.f2)).length →
    sennitlaw21_HunkContext.l3 k true A B n s i = some true := by
  intro m
  induction m with
  | zero =>
    intro i k s hi hk hs hn
    obtain ⟨k, rfl⟩ : ∃ k', k = k' + 1 := ⟨k - 1, by omega⟩
    rw [List.drop_of_length_le (by omega)] at hn
    simp at hn
    rw [sennitlaw21_HunkContext.l3, if_neg (by omega), if_pos rfl, if_pos (by omega), decide_eq_true (by omega)]
  | succ m ih =>
    intro i k s hi hk hs hn
    obtain ⟨k, rfl⟩ : ∃ k', k = k' + 1 := ⟨k - 1, by omega⟩
    have hlt : i < B.length := by omega
    have hl := hB _ (List.getElem_mem hlt)
    rw [List.drop_eq_getElem_cons hlt, List.flatMap_cons, List.length_append] at hn
    rw [sennitlaw21_HunkContext.l3, if_pos (by omega), if_pos (by omega), rd38_at hlt, w64 _ (by omega), w64 _ (by omega), show ((s : Int) + (B[i].f2.length : Nat)) = ((s + B[i].f2.length : Nat) : Int) by omega]
    exact ih (i + 1) k (s + B[i].f2.length) (by omega) (by omega) (by omega) (by omega)
theorem hunksL_length (l : List S41) (hl : l.length ≤ 40) (ctx : Int) (dense : Bool) : (hunksL l ctx dense).length ≤ 40 := by
  unfold hunksL
  rw [List.length_map]
  have := runsGo_length (showAll l ctx dense (groupsL l)) 0 none
  rw [showAll_length] at this
  simp at this
  omega
theorem hunkContext_true (l : List S41) (a b : Int) (dense : Bool) (ha0 : 0 ≤ a ∧ a ≤ 255) (hb0 : 0 ≤ b ∧ b ≤ 255) : ∃ k, sennitlaw21_HunkContext.f k l a b dense = some true := by
  refine ⟨70000, ?_⟩
  obtain ⟨c, h1, h2⟩ := few_f l
  have ha := upk (f := fun k => sennitlaw21_awake.f k) (fun k => sennitlaw21_awake.mono k) awake_true 70000 (by omega)
  unfold sennitlaw21_HunkContext.f
  rw [show sennitlaw21_awake.f 70000 = some true from ha, h1 70000 (by omega), Option.bind_some, Option.bind_some]
  have hj : ∀ c : Bool, sennitlaw21_HunkContext.j0 70000 l dense true c a b = if c = true then some true else (hunk_Hunks.f 69999 l (wrap64 (mn a b)) dense).bind fun p => (hunk_Hunks.f 69999 l (wrap64 (mx a b)) dense).bind fun q => sennitlaw21_HunkContext.l0 69999 true (wrap64 (mn a b)) p.1 q.1 0 0 0 := fun c => by rw [sennitlaw21_HunkContext.j0]
  cases c with
  | false => rw [if_neg (by decide), hj, if_pos rfl]
  | true =>
    have hf := h2 rfl
    have hl := hf.1
    rw [if_pos rfl, refMay_f l hf 70000 (by omega), Option.bind_some]
    cases hm : mayB l with
    | false => rw [hj, if_pos (by decide)]
    | true =>
      have hmn : 0 ≤ mn a b ∧ mn a b ≤ 255 ∧ mn a b ≤ mx a b ∧ mx a b ≤ 255 := by unfold mn mx; omega
      obtain ⟨x, hx⟩ : ∃ x, x = mn a b := ⟨_, rfl⟩
      obtain ⟨y, hy⟩ : ∃ y, y = mx a b := ⟨_, rfl⟩
      rw [← hx, ← hy] at hmn
      rw [hj, if_neg (by decide), ← hx, ← hy, w64 x (by omega), w64 y (by omega), hunks_f l hf hm x hmn.1 (by omega) dense 69999 (by omega), hunks_f l hf hm y (by omega) (by omega) dense 69999 (by omega), Option.bind_some, Option.bind_some]
      have hn := hunksL_near l hf x hmn.1 dense
      have hnB := hunksL_near l hf y (by omega) dense
      obtain ⟨k', g1, g2⟩ := ctx_l0 x (hunksL l x dense) (hunksL l y dense) hn (hunksL_length l hl x dense) (hunksL l x dense).length 0 69999 0 (by omega) (by have := hunksL_length l hl x dense; omega) (by have := hunksL_length l hl x dense; omega)
      refine g2.trans ?_
      have hlB := hunksL_length l hl y dense
      refine ctx_l3 (hunksL l x dense) (hunksL l y dense) (by unfold hunksL; rw [List.length_map, List.length_map]; exact hunks_less l x dense hmn.1 y hmn.2.2.1) (fun z hz => (hnB z hz).1) _ hlB (hunksL l y dense).length 0 k' 0 (by omega) (by omega) (by omega) ?_
      rw [List.drop_zero, List.drop_zero, hunksL_rows, hunksL_rows, Nat.zero_add, Nat.zero_add]
      exact sel_le l _ _ (showAll_length ..) (showAll_length ..) (showAll_mono l x dense y hmn.2.2.1)
end Go.Proofs.YtenfoaajipiehaaDoor.Q
