/- The law HunkCovers, as a Lean function, is true at every input. -/
import Derived.Test.YtenfoaajipiehaaDoorPK
import Derived.Test.YtenfoaajipiehaaDoorR12
namespace Go.Proofs.YtenfoaajipiehaaDoor.Q
set_option linter.unusedVariables false
set_option linter.unusedSimpArgs false
open Go.RowKit Go.Shelf Go.Proofs.YtenfoaajipiehaaDoorW.PrintWords
/-- The hunks of few rows that may be. -/
theorem hunks_f (l : List S41) (hf : FewP l) (hm : mayB l = true) (ctx : Int) (h0 : 0 ≤ ctx) (h1 : ctx ≤ 1000) (dense : Bool) (k : Nat) (hk : 3000 ≤ k) : hunk_Hunks.f k l ctx dense = some ((runsGo 0 (showAll l ctx dense (groupsL l)) none).map (mkHunk l (zerosOf l)), 0) := by
  have hl := hf.1
  unfold hunk_Hunks.f
  rw [if_neg (by omega), hunkMay_f l hf k (by omega), Option.bind_some, hm, if_neg (by decide)]
  by_cases hz : l.length = 0
  · rw [if_pos hz]
    have e := List.length_eq_zero_iff.1 hz
    subst e
    rfl
  · rw [if_neg hz, if_pos ⟨⟨by omega, fun x hx => by have := (hf.2 x hx).1; omega⟩, by omega⟩]
section
end
end Go.Proofs.YtenfoaajipiehaaDoor.Q
