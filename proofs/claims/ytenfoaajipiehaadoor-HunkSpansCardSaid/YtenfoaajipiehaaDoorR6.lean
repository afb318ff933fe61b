/- Contracts of the functions named below: each comes to what the Lean function of its name says (for every input; written by a program over the translation). -/
import Derived.Test.YtenfoaajipiehaaDoorQ0
import Derived.Test.YtenfoaajipiehaaDoorR4
import Derived.Test.YtenfoaajipiehaaDoorR5
namespace Go.Proofs.YtenfoaajipiehaaDoor.Q
open Go.RowKit Go.Proofs.YtenfoaajipiehaaDoorW.PrintWords Go.Proofs.YtenfoaajipiehaaDoorW.PrintLast Go.Proofs.YtenfoaajipiehaaDoorW.PrintMore
attribute [local go_sem] max2_int min2_int max_two min_two max_three min_three max_four min_four   -- for this text's walks alone
set_option linter.unusedVariables false
set_option linter.unusedSimpArgs false
/-! ### sennitref21_shown: function 30 -/
mutual
def sennitref21_shown.j1 : Nat → List (S41) → Int → Int → Bool → Int → Option (Bool)
  | 0, _, _, _, _, _ => none
  | k + 1, x0, x1, x2, x3, x9 => sennitref21_shown.l1 k x0 x1 x2 x3 x9 (wrap64 (x1 + 1))
def sennitref21_shown.l1 : Nat → List (S41) → Int → Int → Bool → Int → Int → Option (Bool)
  | 0, _, _, _, _, _, _ => none
  | k + 1, x0, x1, x2, x3, x9, x10 => if x10 < (x0.length : Int) then (if 0 ≤ x10 then ((sennitref21_Marked.f k ((rd_T41 x0 x10).f0) ((rd_T41 x0 x10).f1)).bind fun t177 => (if t177 = true then (if x9 ≥ 0 then (if (wrap64 (x1 - x9)) ≤ x2 then ((sennitref21_kept.f k x0 x9 x3).bind fun t178 => (if (wrap64 (x10 - x1)) ≤ x2 then ((sennitref21_kept.f k x0 x10 x3).bind fun t179 => (if t178 = true then (some true) else (some t179))) else (if t178 = true then (some true) else (some false)))) else (if (wrap64 (x10 - x1)) ≤ x2 then ((sennitref21_kept.f k x0 x10 x3).bind fun t180 => (some t180)) else (some false))) else (if (wrap64 (x10 - x1)) ≤ x2 then ((sennitref21_kept.f k x0 x10 x3).bind fun t181 => (some t181)) else (some false))) else (sennitref21_shown.l1 k x0 x1 x2 x3 x9 (wrap64 (x10 + 1))))) else (none)) else (if x9 ≥ 0 then (if (wrap64 (x1 - x9)) ≤ x2 then ((sennitref21_kept.f k x0 x9 x3).bind fun t182 => (if t182 = true then (some true) else (some false))) else (some false)) else (some false))
def sennitref21_shown.l0 : Nat → List (S41) → Int → Int → Bool → Int → Option (Bool)
  | 0, _, _, _, _, _ => none
  | k + 1, x0, x1, x2, x3, x9 => if x9 ≥ 0 then (if 0 ≤ x9 then (if x9 < (x0.length : Int) then ((sennitref21_Marked.f k ((rd_T41 x0 x9).f0) ((rd_T41 x0 x9).f1)).bind fun t175 => (if t175 = true then (sennitref21_shown.j1 k x0 x1 x2 x3 x9) else (sennitref21_shown.l0 k x0 x1 x2 x3 (wrap64 (x9 - 1))))) else (none)) else (none)) else (sennitref21_shown.j1 k x0 x1 x2 x3 x9)
end
def sennitref21_shown.f (k : Nat) (l0 : List (S41)) (a1 : Int) (a2 : Int) (a3 : Bool) : Option (Bool) := if 0 ≤ a1 then (if a1 < (l0.length : Int) then ((sennitref21_Marked.f k ((rd_T41 l0 a1).f0) ((rd_T41 l0 a1).f1)).bind fun t172 => (if t172 = true then ((sennitref21_kept.f k l0 a1 a3).bind fun t173 => (some t173)) else (sennitref21_shown.l0 k l0 a1 a2 a3 (wrap64 (a1 - 1))))) else (none)) else (none)
theorem sennitref21_shown.mono_l : ∀ k, (∀ y0 y1 y2 y3 y4, LeO (sennitref21_shown.j1 k y0 y1 y2 y3 y4) (sennitref21_shown.j1 (k + 1) y0 y1 y2 y3 y4)) ∧ (∀ y0 y1 y2 y3 y4 y5, LeO (sennitref21_shown.l1 k y0 y1 y2 y3 y4 y5) (sennitref21_shown.l1 (k + 1) y0 y1 y2 y3 y4 y5)) ∧ (∀ y0 y1 y2 y3 y4, LeO (sennitref21_shown.l0 k y0 y1 y2 y3 y4) (sennitref21_shown.l0 (k + 1) y0 y1 y2 y3 y4))
  | 0 => ⟨fun _ _ _ _ _ r h => by simp [sennitref21_shown.j1] at h, fun _ _ _ _ _ _ r h => by simp [sennitref21_shown.l1] at h, fun _ _ _ _ _ r h => by simp [sennitref21_shown.l0] at h⟩
  | k + 1 => by
    obtain ⟨ih0, ih1, ih2⟩ := sennitref21_shown.mono_l k
    refine ⟨?_, ?_, ?_⟩
    · intro y0 y1 y2 y3 y4
      unfold sennitref21_shown.j1
      repeat' first
      | (with_reducible exact ih0 _ _ _ _ _)
      | (with_reducible exact ih1 _ _ _ _ _ _)
      | (with_reducible exact ih2 _ _ _ _ _)
      | (with_reducible exact sennitref21_Marked.mono _ _ _)
      | (with_reducible exact sennitref21_kept.mono _ _ _ _)
      | (with_reducible exact LeO.refl _)
      | (with_reducible exact LeO.none _)
      | (with_reducible refine LeO.ite ?_ ?_)
      | (with_reducible refine LeO.bind ?_ (fun _ => ?_))
      | exact ih0 _ _ _ _ _
      | exact ih1 _ _ _ _ _ _
      | exact ih2 _ _ _ _ _
      | exact sennitref21_Marked.mono _ _ _
      | exact sennitref21_kept.mono _ _ _ _
      | exact LeO.none _
      | refine LeO.ite ?_ ?_
      | refine LeO.bind ?_ (fun _ => ?_)
    · intro y0 y1 y2 y3 y4 y5
      unfold sennitref21_shown.l1
      repeat' first
      | (with_reducible exact ih0 _ _ _ _ _)
      | (with_reducible exact ih1 _ _ _ _ _ _)
      | (with_reducible exact ih2 _ _ _ _ _)
      | (with_reducible exact sennitref21_Marked.mono _ _ _)
      | (with_reducible exact sennitref21_kept.mono _ _ _ _)
      | (with_reducible exact LeO.refl _)
      | (with_reducible exact LeO.none _)
      | (with_reducible refine LeO.ite ?_ ?_)
      | (with_reducible refine LeO.bind ?_ (fun _ => ?_))
      | exact ih0 _ _ _ _ _
      | exact ih1 _ _ _ _ _ _
      | exact ih2 _ _ _ _ _
      | exact sennitref21_Marked.mono _ _ _
      | exact sennitref21_kept.mono _ _ _ _
      | exact LeO.none _
      | refine LeO.ite ?_ ?_
      | refine LeO.bind ?_ (fun _ => ?_)
    · intro y0 y1 y2 y3 y4
      unfold sennitref21_shown.l0
      repeat' first
      | (with_reducible exact ih0 _ _ _ _ _)
      | (with_reducible exact ih1 _ _ _ _ _ _)
      | (with_reducible exact ih2 _ _ _ _ _)
      | (with_reducible exact sennitref21_Marked.mono _ _ _)
      | (with_reducible exact sennitref21_kept.mono _ _ _ _)
      | (with_reducible exact LeO.refl _)
      | (with_reducible exact LeO.none _)
      | (with_reducible refine LeO.ite ?_ ?_)
      | (with_reducible refine LeO.bind ?_ (fun _ => ?_))
      | exact ih0 _ _ _ _ _
      | exact ih1 _ _ _ _ _ _
      | exact ih2 _ _ _ _ _
      | exact sennitref21_Marked.mono _ _ _
      | exact sennitref21_kept.mono _ _ _ _
      | exact LeO.none _
      | refine LeO.ite ?_ ?_
      | refine LeO.bind ?_ (fun _ => ?_)
theorem sennitref21_shown.mono : ∀ a0 a1 a2 a3 k, LeO (sennitref21_shown.f k a0 a1 a2 a3) (sennitref21_shown.f (k + 1) a0 a1 a2 a3) := by
  intro a0 a1 a2 a3 k
  obtain ⟨ih0, ih1, ih2⟩ := sennitref21_shown.mono_l k
  unfold sennitref21_shown.f
  repeat' first
      | (with_reducible exact ih0 _ _ _ _ _)
      | (with_reducible exact ih1 _ _ _ _ _ _)
      | (with_reducible exact ih2 _ _ _ _ _)
      | (with_reducible exact sennitref21_Marked.mono _ _ _)
      | (with_reducible exact sennitref21_kept.mono _ _ _ _)
      | (with_reducible exact LeO.refl _)
      | (with_reducible exact LeO.none _)
      | (with_reducible refine LeO.ite ?_ ?_)
      | (with_reducible refine LeO.bind ?_ (fun _ => ?_))
      | exact ih0 _ _ _ _ _
      | exact ih1 _ _ _ _ _ _
      | exact ih2 _ _ _ _ _
      | exact sennitref21_Marked.mono _ _ _
      | exact sennitref21_kept.mono _ _ _ _
      | exact LeO.none _
      | refine LeO.ite ?_ ?_
      | refine LeO.bind ?_ (fun _ => ?_)
/-! ### sennitref20_Lost: function 72 -/
def sennitref20_Lost.l0 : Nat → Int → ByteArray → ByteArray → Option (Bool)
  | 0, _, _, _ => none
  | k + 1, x3, x184000, x184001 => if x3 < (x184000.size : Int) then (if 0 ≤ x3 then (if (bt x184000 x3) = 45 then (some true) else (sennitref20_Lost.l0 k (wrap64 (x3 + 1)) x184000 x184001)) else (none)) else (some false)
def sennitref20_Lost.f (k : Nat) (a0_0 : ByteArray) (a0_1 : ByteArray) : Option (Bool) := sennitref20_Lost.l0 k 0 a0_0 a0_1
theorem sennitref20_Lost.mono_l : ∀ k, (∀ y0 y1 y2, LeO (sennitref20_Lost.l0 k y0 y1 y2) (sennitref20_Lost.l0 (k + 1) y0 y1 y2))
  | 0 => fun _ _ _ r h => by simp [sennitref20_Lost.l0] at h
  | k + 1 => by
    have ih0 := sennitref20_Lost.mono_l k
    · intro y0 y1 y2
      unfold sennitref20_Lost.l0
      repeat' first
      | (with_reducible exact ih0 _ _ _)
      | (with_reducible exact LeO.refl _)
      | (with_reducible exact LeO.none _)
      | (with_reducible refine LeO.ite ?_ ?_)
      | (with_reducible refine LeO.bind ?_ (fun _ => ?_))
      | exact ih0 _ _ _
      | exact LeO.none _
      | refine LeO.ite ?_ ?_
      | refine LeO.bind ?_ (fun _ => ?_)
theorem sennitref20_Lost.mono : ∀ a0 a1 k, LeO (sennitref20_Lost.f k a0 a1) (sennitref20_Lost.f (k + 1) a0 a1) := by
  intro a0 a1 k
  have ih0 := sennitref20_Lost.mono_l k
  unfold sennitref20_Lost.f
  repeat' first
      | (with_reducible exact ih0 _ _ _)
      | (with_reducible exact LeO.refl _)
      | (with_reducible exact LeO.none _)
      | (with_reducible refine LeO.ite ?_ ?_)
      | (with_reducible refine LeO.bind ?_ (fun _ => ?_))
      | exact ih0 _ _ _
      | exact LeO.none _
      | refine LeO.ite ?_ ?_
      | refine LeO.bind ?_ (fun _ => ?_)
/-! ### sennitref20_Result: function 53 -/
def sennitref20_Result.l0 : Nat → List (S41) → List ByteArray → Int → Option (List ByteArray)
  | 0, _, _, _ => none
  | k + 1, x0, x3, x4 => if x4 < (x0.length : Int) then (if 0 ≤ x4 then ((sennitref20_Lost.f k ((rd_T41 x0 x4).f0) ((rd_T41 x0 x4).f1)).bind fun t185 => (if t185 = true then (sennitref20_Result.l0 k x0 x3 (wrap64 (x4 + 1))) else (if x3.length < 8796093022208 then (sennitref20_Result.l0 k x0 (x3 ++ [(rd_T41 x0 x4).f1]) (wrap64 (x4 + 1))) else (none)))) else (none)) else (some x3)
def sennitref20_Result.f (k : Nat) (l0 : List (S41)) : Option (List ByteArray) := sennitref20_Result.l0 k l0 ([] : List ByteArray) 0
theorem sennitref20_Result.mono_l : ∀ k, (∀ y0 y1 y2, LeO (sennitref20_Result.l0 k y0 y1 y2) (sennitref20_Result.l0 (k + 1) y0 y1 y2))
  | 0 => fun _ _ _ r h => by simp [sennitref20_Result.l0] at h
  | k + 1 => by
    have ih0 := sennitref20_Result.mono_l k
    · intro y0 y1 y2
      unfold sennitref20_Result.l0
      repeat' first
      | (with_reducible exact ih0 _ _ _)
      | (with_reducible exact sennitref20_Lost.mono _ _ _)
      | (with_reducible exact LeO.refl _)
      | (with_reducible exact LeO.none _)
      | (with_reducible refine LeO.ite ?_ ?_)
      | (with_reducible refine LeO.bind ?_ (fun _ => ?_))
      | exact ih0 _ _ _
      | exact sennitref20_Lost.mono _ _ _
      | exact LeO.none _
      | refine LeO.ite ?_ ?_
      | refine LeO.bind ?_ (fun _ => ?_)
theorem sennitref20_Result.mono : ∀ a0 k, LeO (sennitref20_Result.f k a0) (sennitref20_Result.f (k + 1) a0) := by
  intro a0 k
  have ih0 := sennitref20_Result.mono_l k
  unfold sennitref20_Result.f
  repeat' first
      | (with_reducible exact ih0 _ _ _)
      | (with_reducible exact sennitref20_Lost.mono _ _ _)
      | (with_reducible exact LeO.refl _)
      | (with_reducible exact LeO.none _)
      | (with_reducible refine LeO.ite ?_ ?_)
      | (with_reducible refine LeO.bind ?_ (fun _ => ?_))
      | exact ih0 _ _ _
      | exact sennitref20_Lost.mono _ _ _
      | exact LeO.none _
      | refine LeO.ite ?_ ?_
      | refine LeO.bind ?_ (fun _ => ?_)
end Go.Proofs.YtenfoaajipiehaaDoor.Q
