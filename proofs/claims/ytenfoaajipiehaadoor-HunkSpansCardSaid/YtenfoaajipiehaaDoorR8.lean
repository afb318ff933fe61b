/- Contracts of the functions named below: each comes to what the Lean function of its name says (for every input; written by a program over the translation). -/
import Derived.Test.YtenfoaajipiehaaDoorQ0
import Derived.Test.YtenfoaajipiehaaDoorR2
import Derived.Test.YtenfoaajipiehaaDoorR4
import Derived.Test.YtenfoaajipiehaaDoorR6
import Derived.Test.YtenfoaajipiehaaDoorR7
namespace Go.Proofs.YtenfoaajipiehaaDoor.Q
open Go.RowKit Go.Proofs.YtenfoaajipiehaaDoorW.PrintWords Go.Proofs.YtenfoaajipiehaaDoorW.PrintLast Go.Proofs.YtenfoaajipiehaaDoorW.PrintMore
attribute [local go_sem] max2_int min2_int max_two min_two max_three min_three max_four min_four   -- for this text's walks alone
set_option linter.unusedVariables false
set_option linter.unusedSimpArgs false
attribute [local go_sem high] eqA41
/-! ### sennitref21_Hunks: function 12 -/
mutual
def sennitref21_Hunks.j0 : Nat → List (S41) → Int → Bool → Bool → Option ((List (S38)) × Int)
  | 0, _, _, _, _ => none
  | k + 1, x0, x1, x2, x16 => if x16 = true then (some (([] : List (S38)), 1)) else ((sennitref21_May.f k x0).bind fun t241 => (if t241 = true then (sennitref21_Hunks.l0 k x0 x1 x2 ([] : List (S38)) 0) else (some (([] : List (S38)), 2))))
def sennitref21_Hunks.l0 : Nat → List (S41) → Int → Bool → List (S38) → Int → Option ((List (S38)) × Int)
  | 0, _, _, _, _, _ => none
  | k + 1, x0, x1, x2, x8, x9 => if x9 < (x0.length : Int) then (sennitref21_Hunks.l1 k x0 x1 x2 x8 x9 x9) else (some (x8, 0))
def sennitref21_Hunks.l1 : Nat → List (S41) → Int → Bool → List (S38) → Int → Int → Option ((List (S38)) × Int)
  | 0, _, _, _, _, _, _ => none
  | k + 1, x0, x1, x2, x8, x9, x10 => if x10 < (x0.length : Int) then ((sennitref21_shown.f k x0 x10 x1 x2).bind fun t242 => (if t242 = true then (sennitref21_Hunks.l1 k x0 x1 x2 x8 x9 (wrap64 (x10 + 1))) else (if x10 > x9 then ((sennitref21_Hunk.f k x0 x9 x10).bind fun bt243 => (if x8.length < 2199023255552 then (sennitref21_Hunks.l0 k x0 x1 x2 (x8 ++ [(⟨bt243.1, (⟨bt243.2.1, bt243.2.2.1⟩ : S36), bt243.2.2.2⟩ : S38)]) (wrap64 (x10 + 1))) else (none))) else (sennitref21_Hunks.l0 k x0 x1 x2 x8 (wrap64 (x10 + 1)))))) else (if x10 > x9 then ((sennitref21_Hunk.f k x0 x9 x10).bind fun bt254 => (if x8.length < 2199023255552 then (sennitref21_Hunks.l0 k x0 x1 x2 (x8 ++ [(⟨bt254.1, (⟨bt254.2.1, bt254.2.2.1⟩ : S36), bt254.2.2.2⟩ : S38)]) (wrap64 (x10 + 1))) else (none))) else (sennitref21_Hunks.l0 k x0 x1 x2 x8 (wrap64 (x10 + 1))))
end
def sennitref21_Hunks.f (k : Nat) (l0 : List (S41)) (a1 : Int) (a2 : Bool) : Option ((List (S38)) × Int) := if a1 < 0 then (sennitref21_Hunks.j0 k l0 a1 a2 true) else (sennitref21_Hunks.j0 k l0 a1 a2 (decide (a1 > 1000)))
theorem sennitref21_Hunks.mono_l : ∀ k, (∀ y0 y1 y2 y3, LeO (sennitref21_Hunks.j0 k y0 y1 y2 y3) (sennitref21_Hunks.j0 (k + 1) y0 y1 y2 y3)) ∧ (∀ y0 y1 y2 y3 y4, LeO (sennitref21_Hunks.l0 k y0 y1 y2 y3 y4) (sennitref21_Hunks.l0 (k + 1) y0 y1 y2 y3 y4)) ∧ (∀ y0 y1 y2 y3 y4 y5, LeO (sennitref21_Hunks.l1 k y0 y1 y2 y3 y4 y5) (sennitref21_Hunks.l1 (k + 1) y0 y1 y2 y3 y4 y5))
  | 0 => ⟨fun _ _ _ _ r h => by simp [sennitref21_Hunks.j0] at h, fun _ _ _ _ _ r h => by simp [sennitref21_Hunks.l0] at h, fun _ _ _ _ _ _ r h => by simp [sennitref21_Hunks.l1] at h⟩
  | k + 1 => by
    obtain ⟨ih0, ih1, ih2⟩ := sennitref21_Hunks.mono_l k
    refine ⟨?_, ?_, ?_⟩
    · intro y0 y1 y2 y3
      unfold sennitref21_Hunks.j0
      repeat' first
      | (with_reducible exact ih0 _ _ _ _)
      | (with_reducible exact ih1 _ _ _ _ _)
      | (with_reducible exact ih2 _ _ _ _ _ _)
      | (with_reducible exact sennitref21_Hunk.mono _ _ _ _)
      | (with_reducible exact sennitref21_May.mono _ _)
      | (with_reducible exact sennitref21_shown.mono _ _ _ _ _)
      | (with_reducible exact LeO.refl _)
      | (with_reducible exact LeO.none _)
      | (with_reducible refine LeO.ite ?_ ?_)
      | (with_reducible refine LeO.bind ?_ (fun _ => ?_))
      | exact ih0 _ _ _ _
      | exact ih1 _ _ _ _ _
      | exact ih2 _ _ _ _ _ _
      | exact sennitref21_Hunk.mono _ _ _ _
      | exact sennitref21_May.mono _ _
      | exact sennitref21_shown.mono _ _ _ _ _
      | exact LeO.none _
      | refine LeO.ite ?_ ?_
      | refine LeO.bind ?_ (fun _ => ?_)
    · intro y0 y1 y2 y3 y4
      unfold sennitref21_Hunks.l0
      repeat' first
      | (with_reducible exact ih0 _ _ _ _)
      | (with_reducible exact ih1 _ _ _ _ _)
      | (with_reducible exact ih2 _ _ _ _ _ _)
      | (with_reducible exact sennitref21_Hunk.mono _ _ _ _)
      | (with_reducible exact sennitref21_May.mono _ _)
      | (with_reducible exact sennitref21_shown.mono _ _ _ _ _)
      | (with_reducible exact LeO.refl _)
      | (with_reducible exact LeO.none _)
      | (with_reducible refine LeO.ite ?_ ?_)
      | (with_reducible refine LeO.bind ?_ (fun _ => ?_))
      | exact ih0 _ _ _ _
      | exact ih1 _ _ _ _ _
      | exact ih2 _ _ _ _ _ _
      | exact sennitref21_Hunk.mono _ _ _ _
      | exact sennitref21_May.mono _ _
      | exact sennitref21_shown.mono _ _ _ _ _
      | exact LeO.none _
      | refine LeO.ite ?_ ?_
      | refine LeO.bind ?_ (fun _ => ?_)
    · intro y0 y1 y2 y3 y4 y5
      unfold sennitref21_Hunks.l1
      repeat' first
      | (with_reducible exact ih0 _ _ _ _)
      | (with_reducible exact ih1 _ _ _ _ _)
      | (with_reducible exact ih2 _ _ _ _ _ _)
      | (with_reducible exact sennitref21_Hunk.mono _ _ _ _)
      | (with_reducible exact sennitref21_May.mono _ _)
      | (with_reducible exact sennitref21_shown.mono _ _ _ _ _)
      | (with_reducible exact LeO.refl _)
      | (with_reducible exact LeO.none _)
      | (with_reducible refine LeO.ite ?_ ?_)
      | (with_reducible refine LeO.bind ?_ (fun _ => ?_))
      | exact ih0 _ _ _ _
      | exact ih1 _ _ _ _ _
      | exact ih2 _ _ _ _ _ _
      | exact sennitref21_Hunk.mono _ _ _ _
      | exact sennitref21_May.mono _ _
      | exact sennitref21_shown.mono _ _ _ _ _
      | exact LeO.none _
      | refine LeO.ite ?_ ?_
      | refine LeO.bind ?_ (fun _ => ?_)
theorem sennitref21_Hunks.mono : ∀ a0 a1 a2 k, LeO (sennitref21_Hunks.f k a0 a1 a2) (sennitref21_Hunks.f (k + 1) a0 a1 a2) := by
  intro a0 a1 a2 k
  obtain ⟨ih0, ih1, ih2⟩ := sennitref21_Hunks.mono_l k
  unfold sennitref21_Hunks.f
  repeat' first
      | (with_reducible exact ih0 _ _ _ _)
      | (with_reducible exact ih1 _ _ _ _ _)
      | (with_reducible exact ih2 _ _ _ _ _ _)
      | (with_reducible exact sennitref21_Hunk.mono _ _ _ _)
      | (with_reducible exact sennitref21_May.mono _ _)
      | (with_reducible exact sennitref21_shown.mono _ _ _ _ _)
      | (with_reducible exact LeO.refl _)
      | (with_reducible exact LeO.none _)
      | (with_reducible refine LeO.ite ?_ ?_)
      | (with_reducible refine LeO.bind ?_ (fun _ => ?_))
      | exact ih0 _ _ _ _
      | exact ih1 _ _ _ _ _
      | exact ih2 _ _ _ _ _ _
      | exact sennitref21_Hunk.mono _ _ _ _
      | exact sennitref21_May.mono _ _
      | exact sennitref21_shown.mono _ _ _ _ _
      | exact LeO.none _
      | refine LeO.ite ?_ ?_
      | refine LeO.bind ?_ (fun _ => ?_)
/-! ### sennitref19_Same: function 21 -/
def sennitref19_Same.l0 : Nat → List (S41) → List (S41) → Int → Option (Bool)
  | 0, _, _, _ => none
  | k + 1, x0, x1, x5 => if x5 < (x0.length : Int) then (if 0 ≤ x5 then (if x5 < (x1.length : Int) then (if (!((((rd_T41 x0 x5).f0).toList) == (((rd_T41 x1 x5).f0).toList)) || (!((((rd_T41 x0 x5).f1).toList) == (((rd_T41 x1 x5).f1).toList)))) = true then (some false) else (sennitref19_Same.l0 k x0 x1 (wrap64 (x5 + 1)))) else (none)) else (none)) else (some true)
def sennitref19_Same.f (k : Nat) (l0 : List (S41)) (l1 : List (S41)) : Option (Bool) := if (l0.length : Int) = (l1.length : Int) then (sennitref19_Same.l0 k l0 l1 0) else (some false)
theorem sennitref19_Same.mono_l : ∀ k, (∀ y0 y1 y2, LeO (sennitref19_Same.l0 k y0 y1 y2) (sennitref19_Same.l0 (k + 1) y0 y1 y2))
  | 0 => fun _ _ _ r h => by simp [sennitref19_Same.l0] at h
  | k + 1 => by
    have ih0 := sennitref19_Same.mono_l k
    · intro y0 y1 y2
      unfold sennitref19_Same.l0
      repeat' first
      | (with_reducible exact ih0 _ _ _)
      | (with_reducible exact LeO.refl _)
      | (with_reducible exact LeO.none _)
      | (with_reducible refine LeO.ite ?_ ?_)
      | (with_reducible refine LeO.bind ?_ (fun _ => ?_))
      | exact ih0 _ _ _
      | exact LeO.none _
      | refine LeO.ite ?_ ?_
      | refine LeO.bind ?_ (fun _ => ?_)
theorem sennitref19_Same.mono : ∀ a0 a1 k, LeO (sennitref19_Same.f k a0 a1) (sennitref19_Same.f (k + 1) a0 a1) := by
  intro a0 a1 k
  have ih0 := sennitref19_Same.mono_l k
  unfold sennitref19_Same.f
  repeat' first
      | (with_reducible exact ih0 _ _ _)
      | (with_reducible exact LeO.refl _)
      | (with_reducible exact LeO.none _)
      | (with_reducible refine LeO.ite ?_ ?_)
      | (with_reducible refine LeO.bind ?_ (fun _ => ?_))
      | exact ih0 _ _ _
      | exact LeO.none _
      | refine LeO.ite ?_ ?_
      | refine LeO.bind ?_ (fun _ => ?_)
end Go.Proofs.YtenfoaajipiehaaDoor.Q
