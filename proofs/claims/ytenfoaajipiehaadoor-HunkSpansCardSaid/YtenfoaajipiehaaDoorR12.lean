/- Contracts of the functions named below: each comes to what the Lean function of its name says (for every input; written by a program over the translation). -/
import Derived.Test.YtenfoaajipiehaaDoorQ0
import Derived.Test.YtenfoaajipiehaaDoorR3
import Derived.Test.YtenfoaajipiehaaDoorR4
import Derived.Test.YtenfoaajipiehaaDoorR5
import Derived.Test.YtenfoaajipiehaaDoorR8
import Derived.Test.YtenfoaajipiehaaDoorR10
import Derived.Test.YtenfoaajipiehaaDoorQ4
import Derived.Test.YtenfoaajipiehaaDoorX9
namespace Go.Proofs.YtenfoaajipiehaaDoor.Q
open Go.RowKit Go.Proofs.YtenfoaajipiehaaDoorW.PrintWords Go.Proofs.YtenfoaajipiehaaDoorW.PrintLast Go.Proofs.YtenfoaajipiehaaDoorW.PrintMore
attribute [local go_sem] max2_int min2_int max_two min_two max_three min_three max_four min_four   -- for this text's walks alone
set_option linter.unusedVariables false
set_option linter.unusedSimpArgs false
/-! ### sennitlaw21_HunkCovers: function 5 -/
mutual
def sennitlaw21_HunkCovers.j0 : Nat → List (S41) → Int → Bool → Bool → Bool → Option (Bool)
  | 0, _, _, _, _, _ => none
  | k + 1, x0, x1, x2, x7, x25 => if x25 = true then (some x7) else ((hunk_Hunks.f k x0 (wrap64 (x1)) x2).bind fun bt330 => (sennitlaw21_HunkCovers.l0 k x0 x2 x7 bt330.1 bt330.2 ([] : List (S41)) 0))
def sennitlaw21_HunkCovers.l0 : Nat → List (S41) → Bool → Bool → List (S38) → Int → List (S41) → Int → Option (Bool)
  | 0, _, _, _, _, _, _, _ => none
  | k + 1, x0, x2, x7, x8, x9, x10, x11 => if x11 < (x8.length : Int) then (sennitlaw21_HunkCovers.l1 k x0 x2 x7 x8 x9 x10 x11 0) else ((sennitref21_Groups.f k x0).bind fun t343 => (sennitlaw21_HunkCovers.l2 k x0 x2 x7 x9 x10 ([] : List (S41)) t343 0))
def sennitlaw21_HunkCovers.l1 : Nat → List (S41) → Bool → Bool → List (S38) → Int → List (S41) → Int → Int → Option (Bool)
  | 0, _, _, _, _, _, _, _, _ => none
  | k + 1, x0, x2, x7, x8, x9, x10, x11, x12 => if 0 ≤ x11 then (if x11 < (x8.length : Int) then (if x12 < (((rd_T38 x8 x11).f2).length : Int) then (if 0 ≤ x12 then ((sennitref21_Marked.f k ((rd_T41 ((rd_T38 x8 x11).f2) x12).f0) ((rd_T41 ((rd_T38 x8 x11).f2) x12).f1)).bind fun t337 => (if t337 = true then (if x10.length < 4398046511104 then (sennitlaw21_HunkCovers.l1 k x0 x2 x7 x8 x9 (x10 ++ [(⟨(rd_T41 ((rd_T38 x8 x11).f2) x12).f0, (rd_T41 ((rd_T38 x8 x11).f2) x12).f1⟩ : S41)]) x11 (wrap64 (x12 + 1))) else (none)) else (sennitlaw21_HunkCovers.l1 k x0 x2 x7 x8 x9 x10 x11 (wrap64 (x12 + 1))))) else (none)) else (sennitlaw21_HunkCovers.l0 k x0 x2 x7 x8 x9 x10 (wrap64 (x11 + 1)))) else (none)) else (none)
def sennitlaw21_HunkCovers.l2 : Nat → List (S41) → Bool → Bool → Int → List (S41) → List (S41) → List (S36) → Int → Option (Bool)
  | 0, _, _, _, _, _, _, _, _ => none
  | k + 1, x0, x2, x7, x9, x10, x13, x14, x15 => if x15 < (x14.length : Int) then (if 0 ≤ x15 then (if 0 ≤ ((rd_T36 x14 x15).f0) then (if ((rd_T36 x14 x15).f0) ≤ ((rd_T36 x14 x15).f1) then (if ((rd_T36 x14 x15).f1) ≤ (x0.length : Int) then ((some ((x0.take (((rd_T36 x14 x15).f1) : Int).toNat).drop (((rd_T36 x14 x15).f0) : Int).toNat : List (S41))).bind fun y348 => (if x2 = true then ((sennitref21_Dull.f k y348).bind fun t352 => (if t352 = true then (sennitlaw21_HunkCovers.l2 k x0 x2 x7 x9 x10 x13 x14 (wrap64 (x15 + 1))) else (if x13.length + y348.length < 4398046511104 then (sennitlaw21_HunkCovers.l2 k x0 x2 x7 x9 x10 (x13 ++ y348) x14 (wrap64 (x15 + 1))) else (none)))) else (if x13.length + y348.length < 4398046511104 then (sennitlaw21_HunkCovers.l2 k x0 x2 x7 x9 x10 (x13 ++ y348) x14 (wrap64 (x15 + 1))) else (none)))) else (none)) else (none)) else (none)) else (none)) else (if x7 = true then (if x9 = 0 then ((sennitref19_Same.f k x10 x13).bind fun t359 => (some t359)) else (some false)) else (some false))
end
def sennitlaw21_HunkCovers.f (k : Nat) (l0 : List (S41)) (a1 : Int) (a2 : Bool) : Option (Bool) := (sennitlaw21_awake.f k).bind fun t327 => ((sennitref21_Few.f k l0).bind fun t328 => (if t328 = true then ((sennitref21_May.f k l0).bind fun t329 => (sennitlaw21_HunkCovers.j0 k l0 a1 a2 t327 (!t329))) else (sennitlaw21_HunkCovers.j0 k l0 a1 a2 t327 true)))
theorem sennitlaw21_HunkCovers.mono_l : ∀ k, (∀ y0 y1 y2 y3 y4, LeO (sennitlaw21_HunkCovers.j0 k y0 y1 y2 y3 y4) (sennitlaw21_HunkCovers.j0 (k + 1) y0 y1 y2 y3 y4)) ∧ (∀ y0 y1 y2 y3 y4 y5 y6, LeO (sennitlaw21_HunkCovers.l0 k y0 y1 y2 y3 y4 y5 y6) (sennitlaw21_HunkCovers.l0 (k + 1) y0 y1 y2 y3 y4 y5 y6)) ∧ (∀ y0 y1 y2 y3 y4 y5 y6 y7, LeO (sennitlaw21_HunkCovers.l1 k y0 y1 y2 y3 y4 y5 y6 y7) (sennitlaw21_HunkCovers.l1 (k + 1) y0 y1 y2 y3 y4 y5 y6 y7)) ∧ (∀ y0 y1 y2 y3 y4 y5 y6 y7, LeO (sennitlaw21_HunkCovers.l2 k y0 y1 y2 y3 y4 y5 y6 y7) (sennitlaw21_HunkCovers.l2 (k + 1) y0 y1 y2 y3 y4 y5 y6 y7))
  | 0 => ⟨fun _ _ _ _ _ r h => by simp [sennitlaw21_HunkCovers.j0] at h, fun _ _ _ _ _ _ _ r h => by simp [sennitlaw21_HunkCovers.l0] at h, fun _ _ _ _ _ _ _ _ r h => by simp [sennitlaw21_HunkCovers.l1] at h, fun _ _ _ _ _ _ _ _ r h => by simp [sennitlaw21_HunkCovers.l2] at h⟩
  | k + 1 => by
    obtain ⟨ih0, ih1, ih2, ih3⟩ := sennitlaw21_HunkCovers.mono_l k
    refine ⟨?_, ?_, ?_, ?_⟩
    · intro y0 y1 y2 y3 y4
      unfold sennitlaw21_HunkCovers.j0
      repeat' first
      | (with_reducible exact ih0 _ _ _ _ _)
      | (with_reducible exact ih1 _ _ _ _ _ _ _)
      | (with_reducible exact ih2 _ _ _ _ _ _ _ _)
      | (with_reducible exact ih3 _ _ _ _ _ _ _ _)
      | (with_reducible exact hunk_Hunks.mono _ _ _ _)
      | (with_reducible exact sennitlaw21_awake.mono _)
      | (with_reducible exact sennitref19_Same.mono _ _ _)
      | (with_reducible exact sennitref21_Dull.mono _ _)
      | (with_reducible exact sennitref21_Few.mono _ _)
      | (with_reducible exact sennitref21_Groups.mono _ _)
      | (with_reducible exact sennitref21_Marked.mono _ _ _)
      | (with_reducible exact sennitref21_May.mono _ _)
      | (with_reducible exact LeO.refl _)
      | (with_reducible exact LeO.none _)
      | (with_reducible refine LeO.ite ?_ ?_)
      | (with_reducible refine LeO.bind ?_ (fun _ => ?_))
      | exact ih0 _ _ _ _ _
      | exact ih1 _ _ _ _ _ _ _
      | exact ih2 _ _ _ _ _ _ _ _
      | exact ih3 _ _ _ _ _ _ _ _
      | exact hunk_Hunks.mono _ _ _ _
      | exact sennitlaw21_awake.mono _
      | exact sennitref19_Same.mono _ _ _
      | exact sennitref21_Dull.mono _ _
      | exact sennitref21_Few.mono _ _
      | exact sennitref21_Groups.mono _ _
      | exact sennitref21_Marked.mono _ _ _
      | exact sennitref21_May.mono _ _
      | exact LeO.none _
      | refine LeO.ite ?_ ?_
      | refine LeO.bind ?_ (fun _ => ?_)
    · intro y0 y1 y2 y3 y4 y5 y6
      unfold sennitlaw21_HunkCovers.l0
      repeat' first
      | (with_reducible exact ih0 _ _ _ _ _)
      | (with_reducible exact ih1 _ _ _ _ _ _ _)
      | (with_reducible exact ih2 _ _ _ _ _ _ _ _)
      | (with_reducible exact ih3 _ _ _ _ _ _ _ _)
      | (with_reducible exact hunk_Hunks.mono _ _ _ _)
      | (with_reducible exact sennitlaw21_awake.mono _)
      | (with_reducible exact sennitref19_Same.mono _ _ _)
      | (with_reducible exact sennitref21_Dull.mono _ _)
      | (with_reducible exact sennitref21_Few.mono _ _)
      | (with_reducible exact sennitref21_Groups.mono _ _)
      | (with_reducible exact sennitref21_Marked.mono _ _ _)
      | (with_reducible exact sennitref21_May.mono _ _)
      | (with_reducible exact LeO.refl _)
      | (with_reducible exact LeO.none _)
      | (with_reducible refine LeO.ite ?_ ?_)
      | (with_reducible refine LeO.bind ?_ (fun _ => ?_))
      | exact ih0 _ _ _ _ _
      | exact ih1 _ _ _ _ _ _ _
      | exact ih2 _ _ _ _ _ _ _ _
      | exact ih3 _ _ _ _ _ _ _ _
      | exact hunk_Hunks.mono _ _ _ _
      | exact sennitlaw21_awake.mono _
      | exact sennitref19_Same.mono _ _ _
      | exact sennitref21_Dull.mono _ _
      | exact sennitref21_Few.mono _ _
      | exact sennitref21_Groups.mono _ _
      | exact sennitref21_Marked.mono _ _ _
      | exact sennitref21_May.mono _ _
      | exact LeO.none _
      | refine LeO.ite ?_ ?_
      | refine LeO.bind ?_ (fun _ => ?_)
    · intro y0 y1 y2 y3 y4 y5 y6 y7
      unfold sennitlaw21_HunkCovers.l1
      repeat' first
      | (with_reducible exact ih0 _ _ _ _ _)
      | (with_reducible exact ih1 _ _ _ _ _ _ _)
      | (with_reducible exact ih2 _ _ _ _ _ _ _ _)
      | (with_reducible exact ih3 _ _ _ _ _ _ _ _)
      | (with_reducible exact hunk_Hunks.mono _ _ _ _)
      | (with_reducible exact sennitlaw21_awake.mono _)
      | (with_reducible exact sennitref19_Same.mono _ _ _)
      | (with_reducible exact sennitref21_Dull.mono _ _)
      | (with_reducible exact sennitref21_Few.mono _ _)
      | (with_reducible exact sennitref21_Groups.mono _ _)
      | (with_reducible exact sennitref21_Marked.mono _ _ _)
      | (with_reducible exact sennitref21_May.mono _ _)
      | (with_reducible exact LeO.refl _)
      | (with_reducible exact LeO.none _)
      | (with_reducible refine LeO.ite ?_ ?_)
      | (with_reducible refine LeO.bind ?_ (fun _ => ?_))
      | exact ih0 _ _ _ _ _
      | exact ih1 _ _ _ _ _ _ _
      | exact ih2 _ _ _ _ _ _ _ _
      | exact ih3 _ _ _ _ _ _ _ _
      | exact hunk_Hunks.mono _ _ _ _
      | exact sennitlaw21_awake.mono _
      | exact sennitref19_Same.mono _ _ _
      | exact sennitref21_Dull.mono _ _
      | exact sennitref21_Few.mono _ _
      | exact sennitref21_Groups.mono _ _
      | exact sennitref21_Marked.mono _ _ _
      | exact sennitref21_May.mono _ _
      | exact LeO.none _
      | refine LeO.ite ?_ ?_
      | refine LeO.bind ?_ (fun _ => ?_)
    · intro y0 y1 y2 y3 y4 y5 y6 y7
      unfold sennitlaw21_HunkCovers.l2
      repeat' first
      | (with_reducible exact ih0 _ _ _ _ _)
      | (with_reducible exact ih1 _ _ _ _ _ _ _)
      | (with_reducible exact ih2 _ _ _ _ _ _ _ _)
      | (with_reducible exact ih3 _ _ _ _ _ _ _ _)
      | (with_reducible exact hunk_Hunks.mono _ _ _ _)
      | (with_reducible exact sennitlaw21_awake.mono _)
      | (with_reducible exact sennitref19_Same.mono _ _ _)
      | (with_reducible exact sennitref21_Dull.mono _ _)
      | (with_reducible exact sennitref21_Few.mono _ _)
      | (with_reducible exact sennitref21_Groups.mono _ _)
      | (with_reducible exact sennitref21_Marked.mono _ _ _)
      | (with_reducible exact sennitref21_May.mono _ _)
      | (with_reducible exact LeO.refl _)
      | (with_reducible exact LeO.none _)
      | (with_reducible refine LeO.ite ?_ ?_)
      | (with_reducible refine LeO.bind ?_ (fun _ => ?_))
      | exact ih0 _ _ _ _ _
      | exact ih1 _ _ _ _ _ _ _
      | exact ih2 _ _ _ _ _ _ _ _
      | exact ih3 _ _ _ _ _ _ _ _
      | exact hunk_Hunks.mono _ _ _ _
      | exact sennitlaw21_awake.mono _
      | exact sennitref19_Same.mono _ _ _
      | exact sennitref21_Dull.mono _ _
      | exact sennitref21_Few.mono _ _
      | exact sennitref21_Groups.mono _ _
      | exact sennitref21_Marked.mono _ _ _
      | exact sennitref21_May.mono _ _
      | exact LeO.none _
      | refine LeO.ite ?_ ?_
      | refine LeO.bind ?_ (fun _ => ?_)
theorem sennitlaw21_HunkCovers.mono : ∀ a0 a1 a2 k, LeO (sennitlaw21_HunkCovers.f k a0 a1 a2) (sennitlaw21_HunkCovers.f (k + 1) a0 a1 a2) := by
  intro a0 a1 a2 k
  obtain ⟨ih0, ih1, ih2, ih3⟩ := sennitlaw21_HunkCovers.mono_l k
  unfold sennitlaw21_HunkCovers.f
  repeat' first
      | (with_reducible exact ih0 _ _ _ _ _)
      | (with_reducible exact ih1 _ _ _ _ _ _ _)
      | (with_reducible exact ih2 _ _ _ _ _ _ _ _)
      | (with_reducible exact ih3 _ _ _ _ _ _ _ _)
      | (with_reducible exact hunk_Hunks.mono _ _ _ _)
      | (with_reducible exact sennitlaw21_awake.mono _)
      | (with_reducible exact sennitref19_Same.mono _ _ _)
      | (with_reducible exact sennitref21_Dull.mono _ _)
      | (with_reducible exact sennitref21_Few.mono _ _)
      | (with_reducible exact sennitref21_Groups.mono _ _)
      | (with_reducible exact sennitref21_Marked.mono _ _ _)
      | (with_reducible exact sennitref21_May.mono _ _)
      | (with_reducible exact LeO.refl _)
      | (with_reducible exact LeO.none _)
      | (with_reducible refine LeO.ite ?_ ?_)
      | (with_reducible refine LeO.bind ?_ (fun _ => ?_))
      | exact ih0 _ _ _ _ _
      | exact ih1 _ _ _ _ _ _ _
      | exact ih2 _ _ _ _ _ _ _ _
      | exact ih3 _ _ _ _ _ _ _ _
      | exact hunk_Hunks.mono _ _ _ _
      | exact sennitlaw21_awake.mono _
      | exact sennitref19_Same.mono _ _ _
      | exact sennitref21_Dull.mono _ _
      | exact sennitref21_Few.mono _ _
      | exact sennitref21_Groups.mono _ _
      | exact sennitref21_Marked.mono _ _ _
      | exact sennitref21_May.mono _ _
      | exact LeO.none _
      | refine LeO.ite ?_ ?_
      | refine LeO.bind ?_ (fun _ => ?_)
end Go.Proofs.YtenfoaajipiehaaDoor.Q
