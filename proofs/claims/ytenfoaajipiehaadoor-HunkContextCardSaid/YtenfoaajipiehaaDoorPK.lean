/- The law HunkTells, as a Lean function, is true at every input. -/
import Derived.Test.YtenfoaajipiehaaDoorPI
import Derived.Test.YtenfoaajipiehaaDoorR8
import Derived.Test.YtenfoaajipiehaaDoorR10
namespace Go.Proofs.YtenfoaajipiehaaDoor.Q
set_option linter.unusedVariables false
set_option linter.unusedSimpArgs false
open Go.RowKit Go.Shelf Go.Proofs.YtenfoaajipiehaaDoorW.PrintWords
section
end
section
end
theorem rd38_at {l : List S38} {i : Nat} (h : i < l.length) : rd_T38 l (i : Int) = l[i] := by simp [rd_T38, List.getD_eq_getElem?_getD, h]
section
end
end Go.Proofs.YtenfoaajipiehaaDoor.Q
