/- Contracts of the functions named below: each comes to what the Lean function of its name says (for every input; written by a program over the translation). -/
import Derived.Test.YtenfoaajipiehaaDoorQ0
import Derived.Test.YtenfoaajipiehaaDoorR4
namespace Go.Proofs.YtenfoaajipiehaaDoor.Q
open Go.RowKit Go.Proofs.YtenfoaajipiehaaDoorW.PrintWords Go.Proofs.YtenfoaajipiehaaDoorW.PrintLast Go.Proofs.YtenfoaajipiehaaDoorW.PrintMore
attribute [local go_sem] max2_int min2_int max_two min_two max_three min_three max_four min_four   -- for this text's walks alone
set_option linter.unusedVariables false
set_option linter.unusedSimpArgs false
/-! ### sennitref21_Dull: function 18 -/
mutual
def sennitref21_Dull.l0 : Nat → List (S41) → Int → Int → Option (Bool)
  | 0, _, _, _ => none
  | k + 1, x0, x3, x4 => if 0 < (x0.length : Int) then (if x4 < (((rd_T41 x0 0).f0).size : Int) then (sennitref21_Dull.l1 k x0 x3 x4 0) else (if x3 > 0 then (some (decide (x3 < (((rd_T41 x0 0).f0).size : Int)))) else (some false))) else (none)
def sennitref21_Dull.l1 : Nat → List (S41) → Int → Int → Int → Option (Bool)
  | 0, _, _, _, _ => none
  | k + 1, x0, x3, x4, x5 => if x5 < (x0.length : Int) then (if 0 ≤ x5 then (if 0 ≤ x4 then (if x4 < (((rd_T41 x0 x5).f0).size : Int) then (if 0 < (x0.length : Int) then (if x4 < (((rd_T41 x0 0).f0).size : Int) then (if (((bt ((rd_T41 x0 x5).f0) x4) == 32) != ((bt ((rd_T41 x0 0).f0) x4) == 32)) = true then (some false) else (sennitref21_Dull.l1 k x0 x3 x4 (wrap64 (x5 + 1)))) else (none)) else (none)) else (none)) else (none)) else (none)) else (if 0 < (x0.length : Int) then (if 0 ≤ x4 then (if x4 < (((rd_T41 x0 0).f0).size : Int) then (if (bt ((rd_T41 x0 0).f0) x4) = 32 then (sennitref21_Dull.l0 k x0 (wrap64 (x3 + 1)) (wrap64 (x4 + 1))) else (sennitref21_Dull.l0 k x0 x3 (wrap64 (x4 + 1)))) else (none)) else (none)) else (none))
end
def sennitref21_Dull.f (k : Nat) (l0 : List (S41)) : Option (Bool) := if (l0.length : Int) = 0 then (some false) else (sennitref21_Dull.l0 k l0 0 0)
theorem sennitref21_Dull.mono_l : ∀ k, (∀ y0 y1 y2, LeO (sennitref21_Dull.l0 k y0 y1 y2) (sennitref21_Dull.l0 (k + 1) y0 y1 y2)) ∧ (∀ y0 y1 y2 y3, LeO (sennitref21_Dull.l1 k y0 y1 y2 y3) (sennitref21_Dull.l1 (k + 1) y0 y1 y2 y3))
  | 0 => ⟨fun _ _ _ r h => by simp [sennitref21_Dull.l0] at h, fun _ _ _ _ r h => by simp [sennitref21_Dull.l1] at h⟩
  | k + 1 => by
    obtain ⟨ih0, ih1⟩ := sennitref21_Dull.mono_l k
    refine ⟨?_, ?_⟩
    · intro y0 y1 y2
      unfold sennitref21_Dull.l0
      repeat' first
      | (with_reducible exact ih0 _ _ _)
      | (with_reducible exact ih1 _ _ _ _)
      | (with_reducible exact LeO.refl _)
      | (with_reducible exact LeO.none _)
      | (with_reducible refine LeO.ite ?_ ?_)
      | (with_reducible refine LeO.bind ?_ (fun _ => ?_))
      | exact ih0 _ _ _
      | exact ih1 _ _ _ _
      | exact LeO.none _
      | refine LeO.ite ?_ ?_
      | refine LeO.bind ?_ (fun _ => ?_)
    · intro y0 y1 y2 y3
      unfold sennitref21_Dull.l1
      repeat' first
      | (with_reducible exact ih0 _ _ _)
      | (with_reducible exact ih1 _ _ _ _)
      | (with_reducible exact LeO.refl _)
      | (with_reducible exact LeO.none _)
      | (with_reducible refine LeO.ite ?_ ?_)
      | (with_reducible refine LeO.bind ?_ (fun _ => ?_))
      | exact ih0 _ _ _
      | exact ih1 _ _ _ _
      | exact LeO.none _
      | refine LeO.ite ?_ ?_
      | refine LeO.bind ?_ (fun _ => ?_)
theorem sennitref21_Dull.mono : ∀ a0 k, LeO (sennitref21_Dull.f k a0) (sennitref21_Dull.f (k + 1) a0) := by
  intro a0 k
  obtain ⟨ih0, ih1⟩ := sennitref21_Dull.mono_l k
  unfold sennitref21_Dull.f
  repeat' first
      | (with_reducible exact ih0 _ _ _)
      | (with_reducible exact ih1 _ _ _ _)
      | (with_reducible exact LeO.refl _)
      | (with_reducible exact LeO.none _)
      | (with_reducible refine LeO.ite ?_ ?_)
      | (with_reducible refine LeO.bind ?_ (fun _ => ?_))
      | exact ih0 _ _ _
      | exact ih1 _ _ _ _
      | exact LeO.none _
      | refine LeO.ite ?_ ?_
      | refine LeO.bind ?_ (fun _ => ?_)
/-! ### sennitref21_end: function 34 -/
def sennitref21_end.l0 : Nat → List (S41) → Int → Option (Int)
  | 0, _, _ => none
  | k + 1, x0, x1 => if x1 < (x0.length : Int) then (if 0 ≤ x1 then ((sennitref21_Marked.f k ((rd_T41 x0 x1).f0) ((rd_T41 x0 x1).f1)).bind fun t159 => (if t159 = true then (sennitref21_end.l0 k x0 (wrap64 (x1 + 1))) else (some x1))) else (none)) else (some x1)
def sennitref21_end.f (k : Nat) (l0 : List (S41)) (a1 : Int) : Option (Int) := sennitref21_end.l0 k l0 a1
theorem sennitref21_end.mono_l : ∀ k, (∀ y0 y1, LeO (sennitref21_end.l0 k y0 y1) (sennitref21_end.l0 (k + 1) y0 y1))
  | 0 => fun _ _ r h => by simp [sennitref21_end.l0] at h
  | k + 1 => by
    have ih0 := sennitref21_end.mono_l k
    · intro y0 y1
      unfold sennitref21_end.l0
      repeat' first
      | (with_reducible exact ih0 _ _)
      | (with_reducible exact sennitref21_Marked.mono _ _ _)
      | (with_reducible exact LeO.refl _)
      | (with_reducible exact LeO.none _)
      | (with_reducible refine LeO.ite ?_ ?_)
      | (with_reducible refine LeO.bind ?_ (fun _ => ?_))
      | exact ih0 _ _
      | exact sennitref21_Marked.mono _ _ _
      | exact LeO.none _
      | refine LeO.ite ?_ ?_
      | refine LeO.bind ?_ (fun _ => ?_)
theorem sennitref21_end.mono : ∀ a0 a1 k, LeO (sennitref21_end.f k a0 a1) (sennitref21_end.f (k + 1) a0 a1) := by
  intro a0 a1 k
  have ih0 := sennitref21_end.mono_l k
  unfold sennitref21_end.f
  repeat' first
      | (with_reducible exact ih0 _ _)
      | (with_reducible exact sennitref21_Marked.mono _ _ _)
      | (with_reducible exact LeO.refl _)
      | (with_reducible exact LeO.none _)
      | (with_reducible refine LeO.ite ?_ ?_)
      | (with_reducible refine LeO.bind ?_ (fun _ => ?_))
      | exact ih0 _ _
      | exact sennitref21_Marked.mono _ _ _
      | exact LeO.none _
      | refine LeO.ite ?_ ?_
      | refine LeO.bind ?_ (fun _ => ?_)
/-! ### sennitref21_begin: function 71 -/
def sennitref21_begin.l0 : Nat → List (S41) → Int → Option (Int)
  | 0, _, _ => none
  | k + 1, x0, x1 => if x1 > 0 then (if 0 ≤ (wrap64 (x1 - 1)) then (if (wrap64 (x1 - 1)) < (x0.length : Int) then ((sennitref21_Marked.f k ((rd_T41 x0 (wrap64 (x1 - 1))).f0) ((rd_T41 x0 (wrap64 (x1 - 1))).f1)).bind fun t161 => (if t161 = true then (sennitref21_begin.l0 k x0 (wrap64 (x1 - 1))) else (some x1))) else (none)) else (none)) else (some x1)
def sennitref21_begin.f (k : Nat) (l0 : List (S41)) (a1 : Int) : Option (Int) := sennitref21_begin.l0 k l0 a1
theorem sennitref21_begin.mono_l : ∀ k, (∀ y0 y1, LeO (sennitref21_begin.l0 k y0 y1) (sennitref21_begin.l0 (k + 1) y0 y1))
  | 0 => fun _ _ r h => by simp [sennitref21_begin.l0] at h
  | k + 1 => by
    have ih0 := sennitref21_begin.mono_l k
    · intro y0 y1
      unfold sennitref21_begin.l0
      repeat' first
      | (with_reducible exact ih0 _ _)
      | (with_reducible exact sennitref21_Marked.mono _ _ _)
      | (with_reducible exact LeO.refl _)
      | (with_reducible exact LeO.none _)
      | (with_reducible refine LeO.ite ?_ ?_)
      | (with_reducible refine LeO.bind ?_ (fun _ => ?_))
      | exact ih0 _ _
      | exact sennitref21_Marked.mono _ _ _
      | exact LeO.none _
      | refine LeO.ite ?_ ?_
      | refine LeO.bind ?_ (fun _ => ?_)
theorem sennitref21_begin.mono : ∀ a0 a1 k, LeO (sennitref21_begin.f k a0 a1) (sennitref21_begin.f (k + 1) a0 a1) := by
  intro a0 a1 k
  have ih0 := sennitref21_begin.mono_l k
  unfold sennitref21_begin.f
  repeat' first
      | (with_reducible exact ih0 _ _)
      | (with_reducible exact sennitref21_Marked.mono _ _ _)
      | (with_reducible exact LeO.refl _)
      | (with_reducible exact LeO.none _)
      | (with_reducible refine LeO.ite ?_ ?_)
      | (with_reducible refine LeO.bind ?_ (fun _ => ?_))
      | exact ih0 _ _
      | exact sennitref21_Marked.mono _ _ _
      | exact LeO.none _
      | refine LeO.ite ?_ ?_
      | refine LeO.bind ?_ (fun _ => ?_)
/-! ### sennitref21_kept: function 52 -/
def sennitref21_kept.f (k : Nat) (l0 : List (S41)) (a1 : Int) (a2 : Bool) : Option (Bool) := if 0 ≤ a1 then (if a1 < (l0.length : Int) then ((sennitref21_Marked.f k ((rd_T41 l0 a1).f0) ((rd_T41 l0 a1).f1)).bind fun t163 => (if t163 = true then (if a2 = true then ((sennitref21_begin.f k l0 a1).bind fun t164 => ((sennitref21_end.f k l0 a1).bind fun t165 => (if 0 ≤ t164 then (if t164 ≤ t165 then (if t165 ≤ (l0.length : Int) then ((sennitref21_Dull.f k ((l0.take (t165 : Int).toNat).drop (t164 : Int).toNat)).bind fun t170 => (some (!t170))) else (none)) else (none)) else (none)))) else (some (!false))) else (some false))) else (none)) else (none)
theorem sennitref21_kept.mono : ∀ a0 a1 a2 k, LeO (sennitref21_kept.f k a0 a1 a2) (sennitref21_kept.f (k + 1) a0 a1 a2) := by
  intro a0 a1 a2 k
  unfold sennitref21_kept.f
  repeat' first
      | (with_reducible exact sennitref21_Dull.mono _ _)
      | (with_reducible exact sennitref21_Marked.mono _ _ _)
      | (with_reducible exact sennitref21_begin.mono _ _ _)
      | (with_reducible exact sennitref21_end.mono _ _ _)
      | (with_reducible exact LeO.refl _)
      | (with_reducible exact LeO.none _)
      | (with_reducible refine LeO.ite ?_ ?_)
      | (with_reducible refine LeO.bind ?_ (fun _ => ?_))
      | exact sennitref21_Dull.mono _ _
      | exact sennitref21_Marked.mono _ _ _
      | exact sennitref21_begin.mono _ _ _
      | exact sennitref21_end.mono _ _ _
      | exact LeO.none _
      | refine LeO.ite ?_ ?_
      | refine LeO.bind ?_ (fun _ => ?_)
end Go.Proofs.YtenfoaajipiehaaDoor.Q
