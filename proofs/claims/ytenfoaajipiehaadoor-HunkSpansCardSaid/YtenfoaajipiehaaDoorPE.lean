/- Whether rows are dull, by both: the same, of rows that may be. -/
import Derived.Test.YtenfoaajipiehaaDoorPD
namespace Go.Proofs.YtenfoaajipiehaaDoor.Q
set_option linter.unusedVariables false
set_option linter.unusedSimpArgs false
open Go.RowKit Go.Shelf Go.Proofs.YtenfoaajipiehaaDoorW.PrintWords
/-- Rows of n known marks each. -/
def Even (n : Nat) (l : List S41) : Prop := ∀ x ∈ l, x.f0.size = n ∧ x.f0.data.toList.all markC = true
section
end
theorem even_of_may (l : List S41) (h : mayB l = true) : Even (marksOf l).toNat l := by
  intro x hx
  have := List.all_eq_true.1 h x hx
  simp only [mayRow, Bool.and_eq_true, decide_eq_true_eq] at this
  obtain ⟨h1, h2, h3, h4, -⟩ := this
  exact ⟨by omega, h3⟩
theorem marks_le (l : List S41) (hf : FewP l) : (marksOf l).toNat ≤ 20 := by
  unfold marksOf
  rcases Nat.eq_zero_or_pos l.length with h | h
  · rw [List.length_eq_zero_iff.1 h]; decide
  · rw [show (0 : Int) = ((0 : Nat) : Int) from rfl, rd_at h]
    have := (hf.2 _ (List.getElem_mem h)).1
    omega
theorem rd36_at {l : List S36} {i : Nat} (h : i < l.length) : rd_T36 l (i : Int) = l[i] := by simp [rd_T36, List.getD_eq_getElem?_getD, h]

end Go.Proofs.YtenfoaajipiehaaDoor.Q
