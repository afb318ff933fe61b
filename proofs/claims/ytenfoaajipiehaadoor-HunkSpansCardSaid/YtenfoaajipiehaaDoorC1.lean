/- Contracts of the functions named below: each comes to what the Lean function of its name says (for every input; written by a program over the translation). -/
import Derived.Test.YtenfoaajipiehaaDoorQ0
import Derived.Test.YtenfoaajipiehaaDoorQ4
import Derived.Test.YtenfoaajipiehaaDoorR3
import Derived.Test.YtenfoaajipiehaaDoorR4
import Derived.Test.YtenfoaajipiehaaDoorX9
namespace Go.Proofs.YtenfoaajipiehaaDoor.Q
open Go.RowKit Go.Proofs.YtenfoaajipiehaaDoorW.PrintWords Go.Proofs.YtenfoaajipiehaaDoorW.PrintLast Go.Proofs.YtenfoaajipiehaaDoorW.PrintMore
attribute [local go_sem] max2_int min2_int max_two min_two max_three min_three max_four min_four   -- for this text's walks alone
set_option linter.unusedVariables false
set_option linter.unusedSimpArgs false
/-! ### sennitlaw21_HunkContext: function 7 -/
mutual
def sennitlaw21_HunkContext.j0 : Nat → List (S41) → Bool → Bool → Bool → Int → Int → Option (Bool)
  | 0, _, _, _, _, _, _ => none
  | k + 1, x0, x2, x7, x27, x102000, x102001 => if x27 = true then (some x7) else ((hunk_Hunks.f k x0 (wrap64 (mn x102000 x102001)) x2).bind fun bt105 => ((hunk_Hunks.f k x0 (wrap64 (mx x102000 x102001)) x2).bind fun bt109 => (sennitlaw21_HunkContext.l0 k x7 (wrap64 (mn x102000 x102001)) bt105.1 bt109.1 0 0 0)))
def sennitlaw21_HunkContext.l0 : Nat → Bool → Int → List (S38) → List (S38) → Int → Int → Int → Option (Bool)
  | 0, _, _, _, _, _, _, _ => none
  | k + 1, x7, x8, x9, x11, x13, x14, x15 => if x15 < (x9.length : Int) then (if 0 ≤ x15 then (if (((rd_T38 x9 x15).f2).length : Int) = 0 then (some false) else (sennitlaw21_HunkContext.l1 k x7 x8 x9 x11 (wrap64 (x13 + (((rd_T38 x9 x15).f2).length : Int))) x14 x15 0)) else (none)) else (sennitlaw21_HunkContext.l3 k x7 x9 x11 x13 x14 0)
def sennitlaw21_HunkContext.j3 : Nat → Bool → Int → List (S38) → List (S38) → Int → Int → Int → Int → Option (Bool)
  | 0, _, _, _, _, _, _, _, _ => none
  | k + 1, x7, x8, x9, x11, x13, x14, x15, x16 => sennitlaw21_HunkContext.l2 k x7 x8 x9 x11 x13 x14 x15 x16 0
def sennitlaw21_HunkContext.l2 : Nat → Bool → Int → List (S38) → List (S38) → Int → Int → Int → Int → Int → Option (Bool)
  | 0, _, _, _, _, _, _, _, _, _ => none
  | k + 1, x7, x8, x9, x11, x13, x14, x15, x16, x17 => if 0 ≤ x15 then (if x15 < (x9.length : Int) then (if x17 < (((rd_T38 x9 x15).f2).length : Int) then (if 0 ≤ (wrap64 ((wrap64 ((((rd_T38 x9 x15).f2).length : Int) - 1)) - x17)) then (if (wrap64 ((wrap64 ((((rd_T38 x9 x15).f2).length : Int) - 1)) - x17)) < (((rd_T38 x9 x15).f2).length : Int) then ((sennitref21_Marked.f k ((rd_T41 ((rd_T38 x9 x15).f2) (wrap64 ((wrap64 ((((rd_T38 x9 x15).f2).length : Int) - 1)) - x17))).f0) ((rd_T41 ((rd_T38 x9 x15).f2) (wrap64 ((wrap64 ((((rd_T38 x9 x15).f2).length : Int) - 1)) - x17))).f1)).bind fun t123 => (if t123 = true then (if x16 > x8 then (some false) else (if x17 > x8 then (some false) else (if x16 = (((rd_T38 x9 x15).f2).length : Int) then (some false) else (sennitlaw21_HunkContext.l0 k x7 x8 x9 x11 x13 x14 (wrap64 (x15 + 1)))))) else (sennitlaw21_HunkContext.l2 k x7 x8 x9 x11 x13 x14 x15 x16 (wrap64 (x17 + 1))))) else (none)) else (none)) else (if x16 > x8 then (some false) else (if x17 > x8 then (some false) else (if x16 = (((rd_T38 x9 x15).f2).length : Int) then (some false) else (sennitlaw21_HunkContext.l0 k x7 x8 x9 x11 x13 x14 (wrap64 (x15 + 1))))))) else (none)) else (none)
def sennitlaw21_HunkContext.l1 : Nat → Bool → Int → List (S38) → List (S38) → Int → Int → Int → Int → Option (Bool)
  | 0, _, _, _, _, _, _, _, _ => none
  | k + 1, x7, x8, x9, x11, x13, x14, x15, x16 => if 0 ≤ x15 then (if x15 < (x9.length : Int) then (if x16 < (((rd_T38 x9 x15).f2).length : Int) then (if 0 ≤ x16 then ((sennitref21_Marked.f k ((rd_T41 ((rd_T38 x9 x15).f2) x16).f0) ((rd_T41 ((rd_T38 x9 x15).f2) x16).f1)).bind fun t118 => (if t118 = true then (sennitlaw21_HunkContext.j3 k x7 x8 x9 x11 x13 x14 x15 x16) else (sennitlaw21_HunkContext.l1 k x7 x8 x9 x11 x13 x14 x15 (wrap64 (x16 + 1))))) else (none)) else (sennitlaw21_HunkContext.j3 k x7 x8 x9 x11 x13 x14 x15 x16)) else (none)) else (none)
def sennitlaw21_HunkContext.l3 : Nat → Bool → List (S38) → List (S38) → Int → Int → Int → Option (Bool)
  | 0, _, _, _, _, _, _ => none
  | k + 1, x7, x9, x11, x13, x14, x18 => if x18 < (x11.length : Int) then (if 0 ≤ x18 then (sennitlaw21_HunkContext.l3 k x7 x9 x11 x13 (wrap64 (x14 + (((rd_T38 x11 x18).f2).length : Int))) (wrap64 (x18 + 1))) else (none)) else (if x7 = true then (if (x11.length : Int) ≤ (x9.length : Int) then (some (decide (x14 ≥ x13))) else (some false)) else (some false))
end
def sennitlaw21_HunkContext.f (k : Nat) (l0 : List (S41)) (a1_0 : Int) (a1_1 : Int) (a2 : Bool) : Option (Bool) := (sennitlaw21_awake.f k).bind fun t102 => ((sennitref21_Few.f k l0).bind fun t103 => (if t103 = true then ((sennitref21_May.f k l0).bind fun t104 => (sennitlaw21_HunkContext.j0 k l0 a2 t102 (!t104) a1_0 a1_1)) else (sennitlaw21_HunkContext.j0 k l0 a2 t102 true a1_0 a1_1)))
theorem sennitlaw21_HunkContext.mono_l : ∀ k, (∀ y0 y1 y2 y3 y4 y5, LeO (sennitlaw21_HunkContext.j0 k y0 y1 y2 y3 y4 y5) (sennitlaw21_HunkContext.j0 (k + 1) y0 y1 y2 y3 y4 y5)) ∧ (∀ y0 y1 y2 y3 y4 y5 y6, LeO (sennitlaw21_HunkContext.l0 k y0 y1 y2 y3 y4 y5 y6) (sennitlaw21_HunkContext.l0 (k + 1) y0 y1 y2 y3 y4 y5 y6)) ∧ (∀ y0 y1 y2 y3 y4 y5 y6 y7, LeO (sennitlaw21_HunkContext.j3 k y0 y1 y2 y3 y4 y5 y6 y7) (sennitlaw21_HunkContext.j3 (k + 1) y0 y1 y2 y3 y4 y5 y6 y7)) ∧ (∀ y0 y1 y2 y3 y4 y5 y6 y7 y8, LeO (sennitlaw21_HunkContext.l2 k y0 y1 y2 y3 y4 y5 y6 y7 y8) (sennitlaw21_HunkContext.l2 (k + 1) y0 y1 y2 y3 y4 y5 y6 y7 y8)) ∧ (∀ y0 y1 y2 y3 y4 y5 y6 y7, LeO (sennitlaw21_HunkContext.l1 k y0 y1 y2 y3 y4 y5 y6 y7) (sennitlaw21_HunkContext.l1 (k + 1) y0 y1 y2 y3 y4 y5 y6 y7)) ∧ (∀ y0 y1 y2 y3 y4 y5, LeO (sennitlaw21_HunkContext.l3 k y0 y1 y2 y3 y4 y5) (sennitlaw21_HunkContext.l3 (k + 1) y0 y1 y2 y3 y4 y5))
  | 0 => ⟨fun _ _ _ _ _ _ r h => by simp [sennitlaw21_HunkContext.j0] at h, fun _ _ _ _ _ _ _ r h => by simp [sennitlaw21_HunkContext.l0] at h, fun _ _ _ _ _ _ _ _ r h => by simp [sennitlaw21_HunkContext.j3] at h, fun _ _ _ _ _ _ _ _ _ r h => by simp [sennitlaw21_HunkContext.l2] at h, fun _ _ _ _ _ _ _ _ r h => by simp [sennitlaw21_HunkContext.l1] at h, fun _ _ _ _ _ _ r h => by simp [sennitlaw21_HunkContext.l3] at h⟩
  | k + 1 => by
    obtain ⟨ih0, ih1, ih2, ih3, ih4, ih5⟩ := sennitlaw21_HunkContext.mono_l k
    refine ⟨?_, ?_, ?_, ?_, ?_, ?_⟩
    · intro y0 y1 y2 y3 y4 y5
      unfold sennitlaw21_HunkContext.j0
      repeat' first
      | (with_reducible exact ih0 _ _ _ _ _ _)
      | (with_reducible exact ih1 _ _ _ _ _ _ _)
      | (with_reducible exact ih2 _ _ _ _ _ _ _ _)
      | (with_reducible exact ih3 _ _ _ _ _ _ _ _ _)
      | (with_reducible exact ih4 _ _ _ _ _ _ _ _)
      | (with_reducible exact ih5 _ _ _ _ _ _)
      | (with_reducible exact hunk_Hunks.mono _ _ _ _)
      | (with_reducible exact sennitlaw21_awake.mono _)
      | (with_reducible exact sennitref21_Few.mono _ _)
      | (with_reducible exact sennitref21_Marked.mono _ _ _)
      | (with_reducible exact sennitref21_May.mono _ _)
      | (with_reducible exact LeO.refl _)
      | (with_reducible exact LeO.none _)
      | (with_reducible refine LeO.ite ?_ ?_)
      | (with_reducible refine LeO.bind ?_ (fun _ => ?_))
      | exact ih0 _ _ _ _ _ _
      | exact ih1 _ _ _ _ _ _ _
      | exact ih2 _ _ _ _ _ _ _ _
      | exact ih3 _ _ _ _ _ _ _ _ _
      | exact ih4 _ _ _ _ _ _ _ _
      | exact ih5 _ _ _ _ _ _
      | exact hunk_Hunks.mono _ _ _ _
      | exact sennitlaw21_awake.mono _
      | exact sennitref21_Few.mono _ _
      | exact sennitref21_Marked.mono _ _ _
      | exact sennitref21_May.mono _ _
      | exact LeO.none _
      | refine LeO.ite ?_ ?_
      | refine LeO.bind ?_ (fun _ => ?_)
    · intro y0 y1 y2 y3 y4 y5 y6
      unfold sennitlaw21_HunkContext.l0
      repeat' first
      | (with_reducible exact ih0 _ _ _ _ _ _)
      | (with_reducible exact ih1 _ _ _ _ _ _ _)
      | (with_reducible exact ih2 _ _ _ _ _ _ _ _)
      | (with_reducible exact ih3 _ _ _ _ _ _ _ _ _)
      | (with_reducible exact ih4 _ _ _ _ _ _ _ _)
      | (with_reducible exact ih5 _ _ _ _ _ _)
      | (with_reducible exact hunk_Hunks.mono _ _ _ _)
      | (with_reducible exact sennitlaw21_awake.mono _)
      | (with_reducible exact sennitref21_Few.mono _ _)
      | (with_reducible exact sennitref21_Marked.mono _ _ _)
      | (with_reducible exact sennitref21_May.mono _ _)
      | (with_reducible exact LeO.refl _)
      | (with_reducible exact LeO.none _)
      | (with_reducible refine LeO.ite ?_ ?_)
      | (with_reducible refine LeO.bind ?_ (fun _ => ?_))
      | exact ih0 _ _ _ _ _ _
      | exact ih1 _ _ _ _ _ _ _
      | exact ih2 _ _ _ _ _ _ _ _
      | exact ih3 _ _ _ _ _ _ _ _ _
      | exact ih4 _ _ _ _ _ _ _ _
      | exact ih5 _ _ _ _ _ _
      | exact hunk_Hunks.mono _ _ _ _
      | exact sennitlaw21_awake.mono _
      | exact sennitref21_Few.mono _ _
      | exact sennitref21_Marked.mono _ _ _
      | exact sennitref21_May.mono _ _
      | exact LeO.none _
      | refine LeO.ite ?_ ?_
      | refine LeO.bind ?_ (fun _ => ?_)
    · intro y0 y1 y2 y3 y4 y5 y6 y7
      unfold sennitlaw21_HunkContext.j3
      repeat' first
      | (with_reducible exact ih0 _ _ _ _ _ _)
      | (with_reducible exact ih1 _ _ _ _ _ _ _)
      | (with_reducible exact ih2 _ _ _ _ _ _ _ _)
      | (with_reducible exact ih3 _ _ _ _ _ _ _ _ _)
      | (with_reducible exact ih4 _ _ _ _ _ _ _ _)
      | (with_reducible exact ih5 _ _ _ _ _ _)
      | (with_reducible exact hunk_Hunks.mono _ _ _ _)
      | (with_reducible exact sennitlaw21_awake.mono _)
      | (with_reducible exact sennitref21_Few.mono _ _)
      | (with_reducible exact sennitref21_Marked.mono _ _ _)
      | (with_reducible exact sennitref21_May.mono _ _)
      | (with_reducible exact LeO.refl _)
      | (with_reducible exact LeO.none _)
      | (with_reducible refine LeO.ite ?_ ?_)
      | (with_reducible refine LeO.bind ?_ (fun _ => ?_))
      | exact ih0 _ _ _ _ _ _
      | exact ih1 _ _ _ _ _ _ _
      | exact ih2 _ _ _ _ _ _ _ _
      | exact ih3 _ _ _ _ _ _ _ _ _
      | exact ih4 _ _ _ _ _ _ _ _
      | exact ih5 _ _ _ _ _ _
      | exact hunk_Hunks.mono _ _ _ _
      | exact sennitlaw21_awake.mono _
      | exact sennitref21_Few.mono _ _
      | exact sennitref21_Marked.mono _ _ _
      | exact sennitref21_May.mono _ _
      | exact LeO.none _
      | refine LeO.ite ?_ ?_
      | refine LeO.bind ?_ (fun _ => ?_)
    · intro y0 y1 y2 y3 y4 y5 y6 y7 y8
      unfold sennitlaw21_HunkContext.l2
      repeat' first
      | (with_reducible exact ih0 _ _ _ _ _ _)
      | (with_reducible exact ih1 _ _ _ _ _ _ _)
      | (with_reducible exact ih2 _ _ _ _ _ _ _ _)
      | (with_reducible exact ih3 _ _ _ _ _ _ _ _ _)
      | (with_reducible exact ih4 _ _ _ _ _ _ _ _)
      | (with_reducible exact ih5 _ _ _ _ _ _)
      | (with_reducible exact hunk_Hunks.mono _ _ _ _)
      | (with_reducible exact sennitlaw21_awake.mono _)
      | (with_reducible exact sennitref21_Few.mono _ _)
      | (with_reducible exact sennitref21_Marked.mono _ _ _)
      | (with_reducible exact sennitref21_May.mono _ _)
      | (with_reducible exact LeO.refl _)
      | (with_reducible exact LeO.none _)
      | (with_reducible refine LeO.ite ?_ ?_)
      | (with_reducible refine LeO.bind ?_ (fun _ => ?_))
      | exact ih0 _ _ _ _ _ _
      | exact ih1 _ _ _ _ _ _ _
      | exact ih2 _ _ _ _ _ _ _ _
      | exact ih3 _ _ _ _ _ _ _ _ _
      | exact ih4 _ _ _ _ _ _ _ _
      | exact ih5 _ _ _ _ _ _
      | exact hunk_Hunks.mono _ _ _ _
      | exact sennitlaw21_awake.mono _
      | exact sennitref21_Few.mono _ _
      | exact sennitref21_Marked.mono _ _ _
      | exact sennitref21_May.mono _ _
      | exact LeO.none _
      | refine LeO.ite ?_ ?_
      | refine LeO.bind ?_ (fun _ => ?_)
    · intro y0 y1 y2 y3 y4 y5 y6 y7
      unfold sennitlaw21_HunkContext.l1
      repeat' first
      | (with_reducible exact ih0 _ _ _ _ _ _)
      | (with_reducible exact ih1 _ _ _ _ _ _ _)
      | (with_reducible exact ih2 _ _ _ _ _ _ _ _)
      | (with_reducible exact ih3 _ _ _ _ _ _ _ _ _)
      | (with_reducible exact ih4 _ _ _ _ _ _ _ _)
      | (with_reducible exact ih5 _ _ _ _ _ _)
      | (with_reducible exact hunk_Hunks.mono _ _ _ _)
      | (with_reducible exact sennitlaw21_awake.mono _)
      | (with_reducible exact sennitref21_Few.mono _ _)
      | (with_reducible exact sennitref21_Marked.mono _ _ _)
      | (with_reducible exact sennitref21_May.mono _ _)
      | (with_reducible exact LeO.refl _)
      | (with_reducible exact LeO.none _)
      | (with_reducible refine LeO.ite ?_ ?_)
      | (with_reducible refine LeO.bind ?_ (fun _ => ?_))
      | exact ih0 _ _ _ _ _ _
      | exact ih1 _ _ _ _ _ _ _
      | exact ih2 _ _ _ _ _ _ _ _
      | exact ih3 _ _ _ _ _ _ _ _ _
      | exact ih4 _ _ _ _ _ _ _ _
      | exact ih5 _ _ _ _ _ _
      | exact hunk_Hunks.mono _ _ _ _
      | exact sennitlaw21_awake.mono _
      | exact sennitref21_Few.mono _ _
      | exact sennitref21_Marked.mono _ _ _
      | exact sennitref21_May.mono _ _
      | exact LeO.none _
      | refine LeO.ite ?_ ?_
      | refine LeO.bind ?_ (fun _ => ?_)
    · intro y0 y1 y2 y3 y4 y5
      unfold sennitlaw21_HunkContext.l3
      repeat' first
      | (with_reducible exact ih0 _ _ _ _ _ _)
      | (with_reducible exact ih1 _ _ _ _ _ _ _)
      | (with_reducible exact ih2 _ _ _ _ _ _ _ _)
      | (with_reducible exact ih3 _ _ _ _ _ _ _ _ _)
      | (with_reducible exact ih4 _ _ _ _ _ _ _ _)
      | (with_reducible exact ih5 _ _ _ _ _ _)
      | (with_reducible exact hunk_Hunks.mono _ _ _ _)
      | (with_reducible exact sennitlaw21_awake.mono _)
      | (with_reducible exact sennitref21_Few.mono _ _)
      | (with_reducible exact sennitref21_Marked.mono _ _ _)
      | (with_reducible exact sennitref21_May.mono _ _)
      | (with_reducible exact LeO.refl _)
      | (with_reducible exact LeO.none _)
      | (with_reducible refine LeO.ite ?_ ?_)
      | (with_reducible refine LeO.bind ?_ (fun _ => ?_))
      | exact ih0 _ _ _ _ _ _
      | exact ih1 _ _ _ _ _ _ _
      | exact ih2 _ _ _ _ _ _ _ _
      | exact ih3 _ _ _ _ _ _ _ _ _
      | exact ih4 _ _ _ _ _ _ _ _
      | exact ih5 _ _ _ _ _ _
      | exact hunk_Hunks.mono _ _ _ _
      | exact sennitlaw21_awake.mono _
      | exact sennitref21_Few.mono _ _
      | exact sennitref21_Marked.mono _ _ _
      | exact sennitref21_May.mono _ _
      | exact LeO.none _
      | refine LeO.ite ?_ ?_
      | refine LeO.bind ?_ (fun _ => ?_)
theorem sennitlaw21_HunkContext.mono : ∀ a0 a1 a2 a3 k, LeO (sennitlaw21_HunkContext.f k a0 a1 a2 a3) (sennitlaw21_HunkContext.f (k + 1) a0 a1 a2 a3) := by
  intro a0 a1 a2 a3 k
  obtain ⟨ih0, ih1, ih2, ih3, ih4, ih5⟩ := sennitlaw21_HunkContext.mono_l k
  unfold sennitlaw21_HunkContext.f
  repeat' first
      | (with_reducible exact ih0 _ _ _ _ _ _)
      | (with_reducible exact ih1 _ _ _ _ _ _ _)
      | (with_reducible exact ih2 _ _ _ _ _ _ _ _)
      | (with_reducible exact ih3 _ _ _ _ _ _ _ _ _)
      | (with_reducible exact ih4 _ _ _ _ _ _ _ _)
      | (with_reducible exact ih5 _ _ _ _ _ _)
      | (with_reducible exact hunk_Hunks.mono _ _ _ _)
      | (with_reducible exact sennitlaw21_awake.mono _)
      | (with_reducible exact sennitref21_Few.mono _ _)
      | (with_reducible exact sennitref21_Marked.mono _ _ _)
      | (with_reducible exact sennitref21_May.mono _ _)
      | (with_reducible exact LeO.refl _)
      | (with_reducible exact LeO.none _)
      | (with_reducible refine LeO.ite ?_ ?_)
      | (with_reducible refine LeO.bind ?_ (fun _ => ?_))
      | exact ih0 _ _ _ _ _ _
      | exact ih1 _ _ _ _ _ _ _
      | exact ih2 _ _ _ _ _ _ _ _
      | exact ih3 _ _ _ _ _ _ _ _ _
      | exact ih4 _ _ _ _ _ _ _ _
      | exact ih5 _ _ _ _ _ _
      | exact hunk_Hunks.mono _ _ _ _
      | exact sennitlaw21_awake.mono _
      | exact sennitref21_Few.mono _ _
      | exact sennitref21_Marked.mono _ _ _
      | exact sennitref21_May.mono _ _
      | exact LeO.none _
      | refine LeO.ite ?_ ?_
      | refine LeO.bind ?_ (fun _ => ?_)
end Go.Proofs.YtenfoaajipiehaaDoor.Q
