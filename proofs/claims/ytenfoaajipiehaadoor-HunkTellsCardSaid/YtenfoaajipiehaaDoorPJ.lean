/- What the reference shows, of few rows of known marks: the same as package hunk does; and its lines of the result, or of a column. -/
import Derived.Test.YtenfoaajipiehaaDoorPI
import Derived.Test.YtenfoaajipiehaaDoorR8
namespace Go.Proofs.YtenfoaajipiehaaDoor.Q
set_option linter.unusedVariables false
set_option linter.unusedSimpArgs false
open Go.RowKit Go.Shelf Go.Proofs.YtenfoaajipiehaaDoorW.PrintWords
theorem marked_ev (l : List S41) (n : Nat) (hl : l.length ≤ 40) (hn : n ≤ 20) (hE : Even n l) {i : Nat} (hi : i < l.length) (k : Nat) (hk : 30 ≤ k) : sennitref21_Marked.f k l[i].f0 l[i].f1 = some (mk l i) := by
  have := (hE _ (List.getElem_mem hi)).1
  rw [ref_marked _ (by omega) k (by omega), mk_at hi]
theorem mid_even (l : List S41) (n : Nat) (hl : l.length ≤ 40) (hn : n ≤ 20) (hE : Even n l) {f t : Nat} : Even n (midL l f t) := fun x hx => hE x (List.mem_of_mem_take (List.mem_of_mem_drop hx))
section
variable (l : List S41) (n : Nat) (hl : l.length ≤ 40) (hn : n ≤ 20) (hE : Even n l)
include hl hn hE
theorem ref_begin {f t : Nat} (hG : IsG l f t) : ∀ (m i k : Nat), f + m = i → i < t → m + 60 < k → sennitref21_begin.l0 k l i = some (f : Int) := by
  have htl := hG.le
  intro m
  induction m with
  | zero =>
    intro i k hi hit hk
    obtain ⟨k, rfl⟩ : ∃ k', k = k' + 1 := ⟨k - 1, by omega⟩
    obtain rfl : f = i := by omega
    rw [sennitref21_begin.l0]
    by_cases h0 : f = 0
    · subst h0; rfl
    · have hlt : f - 1 < l.length := by omega
      rw [if_pos (by omega), w64 _ (by omega), if_pos (by omega), if_pos (by omega), show ((f : Int) - 1) = ((f - 1 : Nat) : Int) by omega, rd_at hlt, marked_ev l n hl hn hE hlt k (by omega)]
      rcases hG.lo with h | h
      · exact absurd h h0
      · rw [h]; rfl
  | succ m ih =>
    intro i k hi hit hk
    obtain ⟨k, rfl⟩ : ∃ k', k = k' + 1 := ⟨k - 1, by omega⟩
    have hlt : i - 1 < l.length := by omega
    rw [sennitref21_begin.l0, if_pos (by omega), w64 _ (by omega), if_pos (by omega), if_pos (by omega), show ((i : Int) - 1) = ((i - 1 : Nat) : Int) by omega, rd_at hlt, marked_ev l n hl hn hE hlt k (by omega), hG.all (i - 1) (by omega) (by omega)]
    simp only [Option.bind_some, if_true]
    exact ih (i - 1) k (by omega) (by omega) (by omega)
theorem ref_endG {f t : Nat} (hG : IsG l f t) : ∀ (m i k : Nat), i + m = t → f ≤ i → m + 60 < k → sennitref21_end.l0 k l i = some (t : Int) := by
  have htl := hG.le
  intro m
  induction m with
  | zero =>
    intro i k hi hit hk
    obtain ⟨k, rfl⟩ : ∃ k', k = k' + 1 := ⟨k - 1, by omega⟩
    obtain rfl : i = t := by omega
    rw [sennitref21_end.l0]
    by_cases h0 : i < l.length
    · rw [if_pos (by omega), if_pos (by omega), rd_at h0, marked_ev l n hl hn hE h0 k (by omega), hG.hi]; rfl
    · rw [if_neg (by omega)]
  | succ m ih =>
    intro i k hi hit hk
    obtain ⟨k, rfl⟩ : ∃ k', k = k' + 1 := ⟨k - 1, by omega⟩
    have hlt : i < l.length := by omega
    rw [sennitref21_end.l0, if_pos (by omega), if_pos (by omega), rd_at hlt, marked_ev l n hl hn hE hlt k (by omega), hG.all i (by omega) (by omega)]
    simp only [Option.bind_some, if_true]
    rw [w64 _ (by omega)]
    exact ih (i + 1) k (by omega) (by omega) (by omega)
theorem kept_f (dense : Bool) {f t : Nat} (hG : IsG l f t) {i : Nat} (h1 : f ≤ i) (h2 : i < t) (k : Nat) (hk : 1000 ≤ k) : sennitref21_kept.f k l i dense = some (keptG l dense f t) := by
  have htl := hG.le
  have hlt : i < l.length := by omega
  unfold sennitref21_kept.f sennitref21_begin.f sennitref21_end.f keptG
  rw [if_pos (by omega), if_pos (by omega), rd_at hlt, marked_ev l n hl hn hE hlt k (by omega), hG.all i h1 h2]
  simp only [Option.bind_some, if_true]
  cases dense with
  | false => rfl
  | true =>
    rw [if_pos rfl, ref_begin l n hl hn hE hG (i - f) i k (by omega) h2 (by omega), ref_endG l n hl hn hE hG (t - i) i k (by omega) h1 (by omega)]
    simp only [Option.bind_some]
    rw [if_pos (by omega), if_pos (by omega), if_pos (by omega), Int.toNat_natCast, Int.toNat_natCast]
    have := refDull_f (midL l f t) n (by unfold midL; rw [List.length_drop, List.length_take]; omega) hn (mid_even l n hl hn hE) k (by omega)
    unfold midL at this ⊢
    rw [this]
    rfl
/-- What is ahead of a place without a mark. -/
theorem shown_l0 (ctx : Int) (dense : Bool) (i : Nat) (hi : i < l.length) (B : Nat) (hB : 60 ≤ B) : ∀ (p k : Nat), p ≤ i → p + B < k →
    ∃ a k' : Nat, B ≤ k' ∧ a ≤ p ∧ (a = 0 ∨ mk l (a - 1) = true) ∧ (∀ j, a ≤ j → j < p → mk l j = false) ∧ sennitref21_shown.l0 k l i ctx dense ((p : Int) - 1) = sennitref21_shown.j1 k' l i ctx dense ((a : Int) - 1) := by
  intro p
  induction p with
  | zero =>
    intro k hp hk
    obtain ⟨k, rfl⟩ : ∃ k', k = k' + 1 := ⟨k - 1, by omega⟩
    exact ⟨0, k, by omega, by omega, Or.inl rfl, fun j _ h => by omega, by rw [sennitref21_shown.l0, if_neg (by omega)]⟩
  | succ p ih =>
    intro k hp hk
    obtain ⟨k, rfl⟩ : ∃ k', k = k' + 1 := ⟨k - 1, by omega⟩
    have hlt : p < l.length := by omega
    have e : (((p + 1 : Nat) : Int) - 1) = (p : Int) := by omega
    have hL : sennitref21_shown.l0 (k + 1) l i ctx dense (p : Int) = if mk l p = true then sennitref21_shown.j1 k l i ctx dense p else sennitref21_shown.l0 k l i ctx dense ((p : Int) - 1) := by
      rw [sennitref21_shown.l0, if_pos (by omega), if_pos (by omega), if_pos (by omega), rd_at hlt, marked_ev l n hl hn hE hlt k (by omega), w64 _ (by omega)]
      rfl
    rw [e, hL]
    cases hm : mk l p with
    | true => exact ⟨p + 1, k, by omega, by omega, Or.inr hm, fun j _ h => by omega, by rw [if_pos rfl, e]⟩
    | false =>
      obtain ⟨a, k', h1, h2, h3, h4, h5⟩ := ih k (by omega) (by omega)
      refine ⟨a, k', h1, by omega, h3, fun j x y => ?_, by rw [if_neg (by decide)]; exact h5⟩
      rcases Nat.eq_or_lt_of_le (Nat.le_of_lt_succ y) with z | z
      · subst z; exact hm
      · exact h4 j x z
/-- What is behind it, and the answer. -/
theorem shown_l1 (ctx : Int) (dense : Bool) (i : Nat) (hi : i < l.length) (a : Nat) (ha : a ≤ i) (ka : Bool) (hka : 0 < a → ∀ k, 1000 ≤ k → sennitref21_kept.f k l (((a : Int)) - 1) dense = some ka) :
    ∀ (m b k : Nat), b + m = l.length → i < b → m + 1000 < k → (∀ j, i < j → j < b → mk l j = false) →
    ∃ c : Nat, b ≤ c ∧ c ≤ l.length ∧ (c = l.length ∨ mk l c = true) ∧ (∀ j, i < j → j < c → mk l j = false) ∧ ∀ kb : Bool, (c < l.length → ∀ k, 1000 ≤ k → sennitref21_kept.f k l c dense = some kb) →
      sennitref21_shown.l1 k l i ctx dense ((a : Int) - 1) b = some ((decide (0 < a) && (decide ((i : Int) < a + ctx) && ka)) || (decide (c < l.length) && (decide ((c : Int) - ctx ≤ i) && kb))) := by
  have hA : ((a : Int) - 1 ≥ 0) ↔ 0 < a := by omega
  have hAc : (wrap64 ((i : Int) - ((a : Int) - 1)) ≤ ctx) ↔ ((i : Int) < a + ctx) := by rw [w64 _ (by omega)]; omega
  intro m
  induction m with
  | zero =>
    intro b k hb hib hk hnone
    obtain ⟨k, rfl⟩ : ∃ k', k = k' + 1 := ⟨k - 1, by omega⟩
    refine ⟨l.length, by omega, Nat.le_refl _, Or.inl rfl, fun j x y => hnone j x (by omega), fun kb _ => ?_⟩
    rw [sennitref21_shown.l1, if_neg (by omega)]
    simp only [hA, hAc]
    by_cases h0 : 0 < a
    · rw [if_pos h0, decide_eq_true h0]
      by_cases h1 : (i : Int) < a + ctx
      · rw [if_pos h1, decide_eq_true h1, hka h0 k (by omega)]
        cases ka <;> simp
      · rw [if_neg h1, decide_eq_false h1]
        simp
    · rw [if_neg h0, decide_eq_false h0]
      simp
  | succ m ih =>
    intro b k hb hib hk hnone
    obtain ⟨k, rfl⟩ : ∃ k', k = k' + 1 := ⟨k - 1, by omega⟩
    have hlt : b < l.length := by omega
    cases hm : mk l b with
    | false =>
      obtain ⟨c, h1, h2, h3, h4, h5⟩ := ih (b + 1) k (by omega) (by omega) (by omega) (fun j x y => by
        rcases Nat.eq_or_lt_of_le (Nat.le_of_lt_succ y) with z | z
        · subst z; exact hm
        · exact hnone j x z)
      refine ⟨c, by omega, h2, h3, h4, fun kb hkb => ?_⟩
      rw [sennitref21_shown.l1, if_pos (by omega), if_pos (by omega), rd_at hlt, marked_ev l n hl hn hE hlt k (by omega), hm]
      simp only [Option.bind_some, if_neg (by decide : ¬ (false = true))]
      rw [w64 _ (by omega)]
      exact h5 kb hkb
    | true =>
      refine ⟨b, Nat.le_refl _, by omega, Or.inr hm, hnone, fun kb hkb => ?_⟩
      have hB : (wrap64 ((b : Int) - (i : Int)) ≤ ctx) ↔ ((b : Int) - ctx ≤ i) := by rw [w64 _ (by omega)]; omega
      have hk2 := hkb hlt k (by omega)
      rw [sennitref21_shown.l1, if_pos (by omega), if_pos (by omega), rd_at hlt, marked_ev l n hl hn hE hlt k (by omega), hm]
      simp only [Option.bind_some, if_true, hA, hAc, hB, hk2, decide_eq_true hlt]
      by_cases h0 : 0 < a
      · rw [if_pos h0, decide_eq_true h0, hka h0 k (by omega)]
        by_cases h1 : (i : Int) < a + ctx
        · rw [if_pos h1, decide_eq_true h1]
          simp only [Option.bind_some]
          by_cases h2 : (b : Int) - ctx ≤ i
          · rw [if_pos h2, decide_eq_true h2]; cases ka <;> cases kb <;> rfl
          · rw [if_neg h2, decide_eq_false h2]; cases ka <;> cases kb <;> rfl
        · rw [if_neg h1, decide_eq_false h1]
          by_cases h2 : (b : Int) - ctx ≤ i
          · rw [if_pos h2, decide_eq_true h2]; cases kb <;> rfl
          · rw [if_neg h2, decide_eq_false h2]; cases kb <;> rfl
      · rw [if_neg h0, decide_eq_false h0]
        by_cases h2 : (b : Int) - ctx ≤ i
        · rw [if_pos h2, decide_eq_true h2]; cases kb <;> rfl
        · rw [if_neg h2, decide_eq_false h2]; cases kb <;> rfl
/-- Both show the same rows. -/
theorem shown_f (ctx : Int) (dense : Bool) (i : Nat) (hi : i < l.length) (k : Nat) (hk : 1200 ≤ k) : ∃ b, sennitref21_shown.f k l i ctx dense = some b ∧ (b = true ↔ (showAll l ctx dense (groupsL l))[i]? = some true) := by
  rw [showAll_get l ctx dense i hi]
  unfold sennitref21_shown.f
  rw [if_pos (by omega), if_pos (by omega), rd_at hi, marked_ev l n hl hn hE hi k (by omega)]
  simp only [Option.bind_some]
  cases hm : mk l i with
  | true =>
    obtain ⟨f, t, -, hG, h1, h2⟩ := groupsL_all l i hm
    rw [if_pos rfl, kept_f l n hl hn hE dense hG h1 h2 k (by omega)]
    refine ⟨_, rfl, fun h => ⟨f, t, hG, h, Or.inl ⟨h1, h2⟩⟩, ?_⟩
    rintro ⟨f', t', hG', hk', hC⟩
    rcases hC with hC | hC | hC
    · obtain ⟨rfl, rfl⟩ := hG.one hG' h1 h2 hC.1 hC.2
      exact hk'
    · have := hC.2.2 i (Nat.le_refl _) hC.1; rw [hm] at this; cases this
    · have := hC.2.2 i hC.1 (Nat.le_refl _); rw [hm] at this; cases this
  | false =>
    rw [if_neg (by decide), w64 _ (by omega)]
    obtain ⟨a, k', g1, g2, g3, g4, g5⟩ := shown_l0 l n hl hn hE ctx dense i hi 1100 (by omega) i k (Nat.le_refl _) (by omega)
    obtain ⟨k', rfl⟩ : ∃ k2, k' = k2 + 1 := ⟨k' - 1, by omega⟩
    rw [g5, sennitref21_shown.j1, w64 _ (by omega)]
    have hall : ∀ j, a ≤ j → j ≤ i → mk l j = false := fun j x y => by
      rcases Nat.eq_or_lt_of_le y with z | z
      · subst z; exact hm
      · exact g4 j x z
    -- the group ahead
    obtain ⟨ka, hka1, hka2⟩ : ∃ ka : Bool, (0 < a → ∀ k, 1000 ≤ k → sennitref21_kept.f k l (((a : Int)) - 1) dense = some ka) ∧ ((0 < a ∧ ka = true) ↔ ∃ f, IsG l f a ∧ keptG l dense f a = true) := by
      by_cases h0 : 0 < a
      · have hma : mk l (a - 1) = true := by
          rcases g3 with h | h
          · omega
          · exact h
        obtain ⟨f, t, -, hG, h1, h2⟩ := groupsL_all l (a - 1) hma
        obtain rfl : t = a := by
          rcases Nat.lt_trichotomy t a with x | x | x
          · omega
          · exact x
          · have := hG.all a (by omega) x
            rw [hall a (Nat.le_refl _) g2] at this; cases this
        refine ⟨keptG l dense f t, fun _ k hk => ?_, fun h => ⟨f, hG, h.2⟩, ?_⟩
        · rw [show ((t : Int) - 1) = ((t - 1 : Nat) : Int) by omega]
          exact kept_f l n hl hn hE dense hG h1 h2 k hk
        · rintro ⟨f', hG', hk'⟩
          obtain ⟨rfl, -⟩ := hG.one hG' h1 h2 (by have := hG'.lt; omega) h2
          exact ⟨h0, hk'⟩
      · refine ⟨false, fun h => absurd h h0, fun h => absurd h.1 h0, ?_⟩
        rintro ⟨f', hG', -⟩
        have := hG'.lt; omega
    obtain ⟨c, q1, q2, q3, q4, q5⟩ := shown_l1 l n hl hn hE ctx dense i hi a g2 ka hka1 (l.length - (i + 1)) (i + 1) k' (by omega) (by omega) (by omega) (fun j x y => by omega)
    obtain ⟨kb, hkb1, hkb2⟩ : ∃ kb : Bool, (c < l.length → ∀ k, 1000 ≤ k → sennitref21_kept.f k l c dense = some kb) ∧ ((c < l.length ∧ kb = true) ↔ ∃ t, IsG l c t ∧ keptG l dense c t = true) := by
      by_cases h0 : c < l.length
      · have hmc : mk l c = true := by
          rcases q3 with h | h
          · omega
          · exact h
        obtain ⟨f, t, -, hG, h1, h2⟩ := groupsL_all l c hmc
        obtain rfl : f = c := by
          rcases Nat.lt_trichotomy f c with x | x | x
          · have := hG.all (c - 1) (by omega) (by omega)
            by_cases e : c - 1 = i
            · rw [e, hm] at this; cases this
            · rw [q4 (c - 1) (by omega) (by omega)] at this; cases this
          · exact x
          · omega
        refine ⟨keptG l dense f t, fun _ k hk => kept_f l n hl hn hE dense hG h1 h2 k hk, fun h => ⟨t, hG, h.2⟩, ?_⟩
        rintro ⟨t', hG', hk'⟩
        obtain ⟨-, rfl⟩ := hG.one hG' h1 h2 (Nat.le_refl _) hG'.lt
        exact ⟨h0, hk'⟩
      · refine ⟨false, fun h => absurd h h0, fun h => absurd h.1 h0, ?_⟩
        rintro ⟨t', hG', -⟩
        have := hG'.lt; have := hG'.le; omega
    refine ⟨_, q5 kb hkb1, ?_⟩
    simp only [Bool.or_eq_true, Bool.and_eq_true, decide_eq_true_eq]
    constructor
    · rintro (⟨h0, h1, h2⟩ | ⟨h0, h1, h2⟩)
      · obtain ⟨f, hG, hk'⟩ := hka2.1 ⟨h0, h2⟩
        exact ⟨f, a, hG, hk', Or.inr (Or.inr ⟨g2, h1, fun j x y => hall j x y⟩)⟩
      · obtain ⟨t, hG, hk'⟩ := hkb2.1 ⟨h0, h2⟩
        refine ⟨c, t, hG, hk', Or.inr (Or.inl ⟨by omega, h1, fun j x y => ?_⟩)⟩
        rcases Nat.eq_or_lt_of_le x with z | z
        · subst z; exact hm
        · exact q4 j z y
    · rintro ⟨f, t, hG, hk', hC⟩
      rcases hC with hC | hC | hC
      · have := hG.all i hC.1 hC.2; rw [hm] at this; cases this
      · have hmf := hG.all f (Nat.le_refl _) hG.lt
        obtain rfl : f = c := by
          rcases Nat.lt_trichotomy f c with x | x | x
          · rw [q4 f hC.1 x] at hmf; cases hmf
          · exact x
          · have hc : c < l.length := by have := hG.lt; have := hG.le; omega
            rcases q3 with h | h
            · omega
            · rw [hC.2.2 c (by omega) x] at h; cases h
        obtain ⟨h0, h2⟩ := hkb2.2 ⟨t, hG, hk'⟩
        exact Or.inr ⟨h0, hC.2.1, h2⟩
      · have hmt := hG.all (t - 1) (by have := hG.lt; omega) (by have := hG.lt; omega)
        obtain rfl : t = a := by
          rcases Nat.lt_trichotomy t a with x | x | x
          · rcases g3 with h | h
            · omega
            · rw [hC.2.2 (a - 1) (by omega) (by omega)] at h; cases h
          · exact x
          · rw [hall (t - 1) (by omega) (by omega)] at hmt; cases hmt
        obtain ⟨h0, h2⟩ := hka2.2 ⟨f, hG, hk'⟩
        exact Or.inl ⟨h0, hC.2.1, h2⟩
end
end Go.Proofs.YtenfoaajipiehaaDoor.Q
