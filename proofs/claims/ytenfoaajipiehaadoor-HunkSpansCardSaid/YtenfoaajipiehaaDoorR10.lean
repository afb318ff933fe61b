/- Contracts of the functions named below: each comes to what the Lean function of its name says (for every input; written by a program over the translation). -/
import Derived.Test.YtenfoaajipiehaaDoorQ0
import Derived.Test.YtenfoaajipiehaaDoorR3
import Derived.Test.YtenfoaajipiehaaDoorR4
import Derived.Test.YtenfoaajipiehaaDoorR5
import Derived.Test.YtenfoaajipiehaaDoorR8
import Derived.Test.YtenfoaajipiehaaDoorR9
import Derived.Test.YtenfoaajipiehaaDoorQ4
import Derived.Test.YtenfoaajipiehaaDoorX9
namespace Go.Proofs.YtenfoaajipiehaaDoor.Q
open Go.RowKit Go.Proofs.YtenfoaajipiehaaDoorW.PrintWords Go.Proofs.YtenfoaajipiehaaDoorW.PrintLast Go.Proofs.YtenfoaajipiehaaDoorW.PrintMore
attribute [local go_sem] max2_int min2_int max_two min_two max_three min_three max_four min_four   -- for this text's walks alone
set_option linter.unusedVariables false
set_option linter.unusedSimpArgs false
/-! ### sennitlaw21_HunkTells: function 3 -/
def sennitlaw21_HunkTells.f (k : Nat) (l0 : List (S41)) (a1 : Int) (a2 : Bool) : Option (Bool) := (sennitlaw21_awake.f k).bind fun t279 => ((sennitref21_Few.f k l0).bind fun t280 => (if t280 = true then ((hunk_Hunks.f k l0 a1 a2).bind fun bt281 => ((sennitref21_Hunks.f k l0 a1 a2).bind fun bt285 => (if t279 = true then (if bt281.2 = bt285.2 then ((sennitref21_Same.f k bt281.1 bt285.1).bind fun t289 => (some t289)) else (some false)) else (some false)))) else (some t279)))
theorem sennitlaw21_HunkTells.mono : ∀ a0 a1 a2 k, LeO (sennitlaw21_HunkTells.f k a0 a1 a2) (sennitlaw21_HunkTells.f (k + 1) a0 a1 a2) := by
  intro a0 a1 a2 k
  unfold sennitlaw21_HunkTells.f
  repeat' first
      | (with_reducible exact hunk_Hunks.mono _ _ _ _)
      | (with_reducible exact sennitlaw21_awake.mono _)
      | (with_reducible exact sennitref21_Few.mono _ _)
      | (with_reducible exact sennitref21_Hunks.mono _ _ _ _)
      | (with_reducible exact sennitref21_Same.mono _ _ _)
      | (with_reducible exact LeO.refl _)
      | (with_reducible exact LeO.none _)
      | (with_reducible refine LeO.ite ?_ ?_)
      | (with_reducible refine LeO.bind ?_ (fun _ => ?_))
      | exact hunk_Hunks.mono _ _ _ _
      | exact sennitlaw21_awake.mono _
      | exact sennitref21_Few.mono _ _
      | exact sennitref21_Hunks.mono _ _ _ _
      | exact sennitref21_Same.mono _ _ _
      | exact LeO.none _
      | refine LeO.ite ?_ ?_
      | refine LeO.bind ?_ (fun _ => ?_)
/-! ### sennitref21_begins: function 33 -/
def sennitref21_begins.f (k : Nat) (l0 : List (S41)) (a1 : Int) : Option (Bool) := if 0 ≤ a1 then (if a1 < (l0.length : Int) then ((sennitref21_Marked.f k ((rd_T41 l0 a1).f0) ((rd_T41 l0 a1).f1)).bind fun t291 => (if t291 = true then (if a1 = 0 then (some true) else (if 0 ≤ (wrap64 (a1 - 1)) then (if (wrap64 (a1 - 1)) < (l0.length : Int) then ((sennitref21_Marked.f k ((rd_T41 l0 (wrap64 (a1 - 1))).f0) ((rd_T41 l0 (wrap64 (a1 - 1))).f1)).bind fun t293 => (some (!t293))) else (none)) else (none))) else (some false))) else (none)) else (none)
theorem sennitref21_begins.mono : ∀ a0 a1 k, LeO (sennitref21_begins.f k a0 a1) (sennitref21_begins.f (k + 1) a0 a1) := by
  intro a0 a1 k
  unfold sennitref21_begins.f
  repeat' first
      | (with_reducible exact sennitref21_Marked.mono _ _ _)
      | (with_reducible exact LeO.refl _)
      | (with_reducible exact LeO.none _)
      | (with_reducible refine LeO.ite ?_ ?_)
      | (with_reducible refine LeO.bind ?_ (fun _ => ?_))
      | exact sennitref21_Marked.mono _ _ _
      | exact LeO.none _
      | refine LeO.ite ?_ ?_
      | refine LeO.bind ?_ (fun _ => ?_)
/-! ### sennitref21_Groups: function 16 -/
def sennitref21_Groups.l0 : Nat → List (S41) → List (S36) → Int → Option ((List (S36)))
  | 0, _, _, _ => none
  | k + 1, x0, x3, x4 => if x4 < (x0.length : Int) then ((sennitref21_begins.f k x0 x4).bind fun t294 => (if t294 = true then ((sennitref21_end.f k x0 x4).bind fun t295 => (if x3.length < 8796093022208 then (sennitref21_Groups.l0 k x0 (x3 ++ [(⟨x4, t295⟩ : S36)]) (wrap64 (x4 + 1))) else (none))) else (sennitref21_Groups.l0 k x0 x3 (wrap64 (x4 + 1))))) else (some x3)
def sennitref21_Groups.f (k : Nat) (l0 : List (S41)) : Option ((List (S36))) := sennitref21_Groups.l0 k l0 ([] : List (S36)) 0
theorem sennitref21_Groups.mono_l : ∀ k, (∀ y0 y1 y2, LeO (sennitref21_Groups.l0 k y0 y1 y2) (sennitref21_Groups.l0 (k + 1) y0 y1 y2))
  | 0 => fun _ _ _ r h => by simp [sennitref21_Groups.l0] at h
  | k + 1 => by
    have ih0 := sennitref21_Groups.mono_l k
    · intro y0 y1 y2
      unfold sennitref21_Groups.l0
      repeat' first
      | (with_reducible exact ih0 _ _ _)
      | (with_reducible exact sennitref21_begins.mono _ _ _)
      | (with_reducible exact sennitref21_end.mono _ _ _)
      | (with_reducible exact LeO.refl _)
      | (with_reducible exact LeO.none _)
      | (with_reducible refine LeO.ite ?_ ?_)
      | (with_reducible refine LeO.bind ?_ (fun _ => ?_))
      | exact ih0 _ _ _
      | exact sennitref21_begins.mono _ _ _
      | exact sennitref21_end.mono _ _ _
      | exact LeO.none _
      | refine LeO.ite ?_ ?_
      | refine LeO.bind ?_ (fun _ => ?_)
theorem sennitref21_Groups.mono : ∀ a0 k, LeO (sennitref21_Groups.f k a0) (sennitref21_Groups.f (k + 1) a0) := by
  intro a0 k
  have ih0 := sennitref21_Groups.mono_l k
  unfold sennitref21_Groups.f
  repeat' first
      | (with_reducible exact ih0 _ _ _)
      | (with_reducible exact sennitref21_begins.mono _ _ _)
      | (with_reducible exact sennitref21_end.mono _ _ _)
      | (with_reducible exact LeO.refl _)
      | (with_reducible exact LeO.none _)
      | (with_reducible refine LeO.ite ?_ ?_)
      | (with_reducible refine LeO.bind ?_ (fun _ => ?_))
      | exact ih0 _ _ _
      | exact sennitref21_begins.mono _ _ _
      | exact sennitref21_end.mono _ _ _
      | exact LeO.none _
      | refine LeO.ite ?_ ?_
      | refine LeO.bind ?_ (fun _ => ?_)
end Go.Proofs.YtenfoaajipiehaaDoor.Q
