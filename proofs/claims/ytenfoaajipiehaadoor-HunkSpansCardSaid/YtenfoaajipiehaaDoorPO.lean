/- The law HunkContext, as a Lean function, is true at every input. -/
import Derived.Test.YtenfoaajipiehaaDoorPM
import Derived.Test.YtenfoaajipiehaaDoorC1
namespace Go.Proofs.YtenfoaajipiehaaDoor.Q
set_option linter.unusedVariables false
set_option linter.unusedSimpArgs false
open Go.RowKit Go.Shelf Go.Proofs.YtenfoaajipiehaaDoorW.PrintWords
theorem run_some (S : List Bool) : ∀ (n q s : Nat), q + n = S.length → ∃ t, q ≤ t ∧ t ≤ S.length ∧ (∀ i, q ≤ i → i < t → S[i]? = some true) ∧ (t = S.length ∨ S[t]? = some false) ∧ runsGo q (S.drop q) (some s) = (s, t) :: runsGo t (S.drop t) none := by
  intro n
  induction n with
  | zero => intro q s hq; exact ⟨q, Nat.le_refl _, by omega, fun i a b => by omega, Or.inl (by omega), runsGo_end (by omega)⟩
  | succ n ih =>
    intro q s hq
    have h : q < S.length := by omega
    cases hb : S[q] with
    | true =>
      obtain ⟨t, h1, h2, h3, h4, h5⟩ := ih (q + 1) s (by omega)
      refine ⟨t, by omega, h2, fun i a b => ?_, h4, (runsGo_on h hb).trans h5⟩
      rcases Nat.eq_or_lt_of_le a with e | e
      · subst e; rw [List.getElem?_eq_getElem h, hb]
      · exact h3 i e b
    | false => exact ⟨q, Nat.le_refl _, by omega, fun i a b => by omega, Or.inr (by rw [List.getElem?_eq_getElem h, hb]), runsGo_shut h hb⟩
section
end
/-- The hunks of rows, by their runs. -/
def hunksL (l : List S41) (ctx : Int) (dense : Bool) : List S38 := (runsGo 0 (showAll l ctx dense (groupsL l)) none).map (mkHunk l (zerosOf l))
theorem mid_get (l : List S41) (s t p : Nat) (ht : t ≤ l.length) (h : s + p < t) (hp : p < (midL l s t).length) : (midL l s t)[p] = l[s + p]'(by omega) := by
  simp only [midL, List.getElem_drop, List.getElem_take]
section
end
theorem hunksL_length (l : List S41) (hl : l.length ≤ 40) (ctx : Int) (dense : Bool) : (hunksL l ctx dense).length ≤ 40 := by
  unfold hunksL
  rw [List.length_map]
  have := runsGo_length (showAll l ctx dense (groupsL l)) 0 none
  rw [showAll_length] at this
  simp at this
  omega
end Go.Proofs.YtenfoaajipiehaaDoor.Q
