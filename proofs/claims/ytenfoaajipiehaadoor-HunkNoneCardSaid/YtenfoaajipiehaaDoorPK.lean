/- The law HunkTells, as a Lean function, is true at every input. -/
import Derived.Test.YtenfoaajipiehaaDoorPI
import Derived.Test.YtenfoaajipiehaaDoorR8
import Derived.Test.YtenfoaajipiehaaDoorPB
namespace Go.Proofs.YtenfoaajipiehaaDoor.Q
set_option linter.unusedVariables false
set_option linter.unusedSimpArgs false
open Go.RowKit Go.Shelf Go.Proofs.YtenfoaajipiehaaDoorW.PrintWords
section
end
/-- What the counter comes to. -/
theorem newRows_count (l : List S41) : ∀ n : Int, newRows l n = n + (l.countP fun x => !lostB x : Nat) := by
  induction l with
  | nil => intro n; simp [newRows]
  | cons x l ih =>
    intro n
    have h := ih (n + oneOf (!lostB x))
    rw [show newRows (x :: l) n = newRows l (n + oneOf (!lostB x)) from rfl, h, List.countP_cons]
    cases lostB x <;> simp [oneOf] <;> omega
section
end
/-- Lists are the same as themselves. -/
theorem same19_l0 (l : List S41) (hl : l.length ≤ 1000000) : ∀ (m i k : Nat), i + m = l.length → m < k → sennitref19_Same.l0 k l l i = some true := by
  intro m
  induction m with
  | zero =>
    intro i k hi hk
    obtain ⟨k, rfl⟩ : ∃ k', k = k' + 1 := ⟨k - 1, by omega⟩
    rw [sennitref19_Same.l0, if_neg (by omega)]
  | succ m ih =>
    intro i k hi hk
    obtain ⟨k, rfl⟩ : ∃ k', k = k' + 1 := ⟨k - 1, by omega⟩
    rw [sennitref19_Same.l0, if_pos (by omega), if_pos (by omega), if_pos (by omega), w64 _ (by omega)]
    simp only [beq_self_eq_true, Bool.not_true, Bool.or_self, if_neg (by decide : ¬ (false = true))]
    exact ih (i + 1) k (by omega) (by omega)
theorem same19_f (l : List S41) (hl : l.length ≤ 1000000) (k : Nat) (hk : l.length < k) : sennitref19_Same.f k l l = some true := by
  unfold sennitref19_Same.f
  rw [if_pos rfl]
  exact same19_l0 l hl l.length 0 k (by omega) hk
section
end
end Go.Proofs.YtenfoaajipiehaaDoor.Q
