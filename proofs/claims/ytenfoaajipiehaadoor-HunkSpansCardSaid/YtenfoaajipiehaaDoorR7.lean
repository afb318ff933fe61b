/- Contracts of the functions named below: each comes to what the Lean function of its name says (for every input; written by a program over the translation). -/
import Derived.Test.YtenfoaajipiehaaDoorQ0
import Derived.Test.YtenfoaajipiehaaDoorR6
namespace Go.Proofs.YtenfoaajipiehaaDoor.Q
open Go.RowKit Go.Proofs.YtenfoaajipiehaaDoorW.PrintWords Go.Proofs.YtenfoaajipiehaaDoorW.PrintLast Go.Proofs.YtenfoaajipiehaaDoorW.PrintMore
attribute [local go_sem] max2_int min2_int max_two min_two max_three min_three max_four min_four   -- for this text's walks alone
set_option linter.unusedVariables false
set_option linter.unusedSimpArgs false
/-! ### sennitref20_Of: function 73 -/
def sennitref20_Of.f (k : Nat) (a0_0 : ByteArray) (a0_1 : ByteArray) (a1 : Int) : Option (Bool) := if a1 < 0 then (some false) else (if a1 ≥ (a0_0.size : Int) then (some false) else (if 0 ≤ a1 then (if a1 < (a0_0.size : Int) then (if (bt a0_0 a1) = 45 then (some true) else (if (bt a0_0 a1) = 32 then ((sennitref20_Lost.f k a0_0 a0_1).bind fun t191 => (some (!t191))) else (some false))) else (none)) else (none)))
theorem sennitref20_Of.mono : ∀ a0 a1 a2 k, LeO (sennitref20_Of.f k a0 a1 a2) (sennitref20_Of.f (k + 1) a0 a1 a2) := by
  intro a0 a1 a2 k
  unfold sennitref20_Of.f
  repeat' first
      | (with_reducible exact sennitref20_Lost.mono _ _ _)
      | (with_reducible exact LeO.refl _)
      | (with_reducible exact LeO.none _)
      | (with_reducible refine LeO.ite ?_ ?_)
      | (with_reducible refine LeO.bind ?_ (fun _ => ?_))
      | exact sennitref20_Lost.mono _ _ _
      | exact LeO.none _
      | refine LeO.ite ?_ ?_
      | refine LeO.bind ?_ (fun _ => ?_)
/-! ### sennitref20_Column: function 54 -/
def sennitref20_Column.l0 : Nat → List (S41) → Int → List ByteArray → Int → Option (List ByteArray)
  | 0, _, _, _, _ => none
  | k + 1, x0, x1, x5, x6 => if x6 < (x0.length : Int) then (if 0 ≤ x6 then ((sennitref20_Of.f k ((rd_T41 x0 x6).f0) ((rd_T41 x0 x6).f1) x1).bind fun t193 => (if t193 = true then (if x5.length < 8796093022208 then (sennitref20_Column.l0 k x0 x1 (x5 ++ [(rd_T41 x0 x6).f1]) (wrap64 (x6 + 1))) else (none)) else (sennitref20_Column.l0 k x0 x1 x5 (wrap64 (x6 + 1))))) else (none)) else (some x5)
def sennitref20_Column.f (k : Nat) (l0 : List (S41)) (a1 : Int) : Option (List ByteArray) := sennitref20_Column.l0 k l0 a1 ([] : List ByteArray) 0
theorem sennitref20_Column.mono_l : ∀ k, (∀ y0 y1 y2 y3, LeO (sennitref20_Column.l0 k y0 y1 y2 y3) (sennitref20_Column.l0 (k + 1) y0 y1 y2 y3))
  | 0 => fun _ _ _ _ r h => by simp [sennitref20_Column.l0] at h
  | k + 1 => by
    have ih0 := sennitref20_Column.mono_l k
    · intro y0 y1 y2 y3
      unfold sennitref20_Column.l0
      repeat' first
      | (with_reducible exact ih0 _ _ _ _)
      | (with_reducible exact sennitref20_Of.mono _ _ _ _)
      | (with_reducible exact LeO.refl _)
      | (with_reducible exact LeO.none _)
      | (with_reducible refine LeO.ite ?_ ?_)
      | (with_reducible refine LeO.bind ?_ (fun _ => ?_))
      | exact ih0 _ _ _ _
      | exact sennitref20_Of.mono _ _ _ _
      | exact LeO.none _
      | refine LeO.ite ?_ ?_
      | refine LeO.bind ?_ (fun _ => ?_)
theorem sennitref20_Column.mono : ∀ a0 a1 k, LeO (sennitref20_Column.f k a0 a1) (sennitref20_Column.f (k + 1) a0 a1) := by
  intro a0 a1 k
  have ih0 := sennitref20_Column.mono_l k
  unfold sennitref20_Column.f
  repeat' first
      | (with_reducible exact ih0 _ _ _ _)
      | (with_reducible exact sennitref20_Of.mono _ _ _ _)
      | (with_reducible exact LeO.refl _)
      | (with_reducible exact LeO.none _)
      | (with_reducible refine LeO.ite ?_ ?_)
      | (with_reducible refine LeO.bind ?_ (fun _ => ?_))
      | exact ih0 _ _ _ _
      | exact sennitref20_Of.mono _ _ _ _
      | exact LeO.none _
      | refine LeO.ite ?_ ?_
      | refine LeO.bind ?_ (fun _ => ?_)
/-! ### sennitref21_Hunk: function 31 -/
def sennitref21_Hunk.l0 : Nat → List (S41) → Int → Int → Int → List (S36) → Int → Int → List (S41) → Option ((List (S36)) × Int × Int × (List (S41)))
  | 0, _, _, _, _, _, _, _, _ => none
  | k + 1, x0, x1, x2, x9, x205000, x205001, x205002, x205003 => if 0 < (x0.length : Int) then (if x9 < (((rd_T41 x0 0).f0).size : Int) then (if 0 ≤ x1 then (if x1 ≤ (x0.length : Int) then ((sennitref20_Column.f k (x0.take (x1 : Int).toNat) x9).bind fun t227 => (if x1 ≤ x2 then (if x2 ≤ (x0.length : Int) then ((sennitref20_Column.f k ((x0.take (x2 : Int).toNat).drop (x1 : Int).toNat) x9).bind fun t235 => (if x205000.length < 8796093022208 then (sennitref21_Hunk.l0 k x0 x1 x2 (wrap64 (x9 + 1)) (x205000 ++ [(⟨(t227.length : Int), wrap64 ((t227.length : Int) + (t235.length : Int))⟩ : S36)]) x205001 x205002 x205003) else (none))) else (none)) else (none))) else (none)) else (none)) else (some (x205000, x205001, x205002, x205003))) else (none)
def sennitref21_Hunk.f (k : Nat) (l0 : List (S41)) (a1 : Int) (a2 : Int) : Option ((List (S36)) × Int × Int × (List (S41))) := if 0 ≤ a1 then (if a1 ≤ a2 then (if a2 ≤ (l0.length : Int) then (if a1 ≤ (l0.length : Int) then ((sennitref20_Result.f k (l0.take (a1 : Int).toNat)).bind fun t210 => ((sennitref20_Result.f k ((l0.take (a2 : Int).toNat).drop (a1 : Int).toNat)).bind fun t218 => (sennitref21_Hunk.l0 k l0 a1 a2 0 ([] : List (S36)) (t210.length : Int) (wrap64 ((t210.length : Int) + (t218.length : Int))) ((l0.take (a2 : Int).toNat).drop (a1 : Int).toNat)))) else (none)) else (none)) else (none)) else (none)
theorem sennitref21_Hunk.mono_l : ∀ k, (∀ y0 y1 y2 y3 y4 y5 y6 y7, LeO (sennitref21_Hunk.l0 k y0 y1 y2 y3 y4 y5 y6 y7) (sennitref21_Hunk.l0 (k + 1) y0 y1 y2 y3 y4 y5 y6 y7))
  | 0 => fun _ _ _ _ _ _ _ _ r h => by simp [sennitref21_Hunk.l0] at h
  | k + 1 => by
    have ih0 := sennitref21_Hunk.mono_l k
    · intro y0 y1 y2 y3 y4 y5 y6 y7
      unfold sennitref21_Hunk.l0
      repeat' first
      | (with_reducible exact ih0 _ _ _ _ _ _ _ _)
      | (with_reducible exact sennitref20_Column.mono _ _ _)
      | (with_reducible exact sennitref20_Result.mono _ _)
      | (with_reducible exact LeO.refl _)
      | (with_reducible exact LeO.none _)
      | (with_reducible refine LeO.ite ?_ ?_)
      | (with_reducible refine LeO.bind ?_ (fun _ => ?_))
      | exact ih0 _ _ _ _ _ _ _ _
      | exact sennitref20_Column.mono _ _ _
      | exact sennitref20_Result.mono _ _
      | exact LeO.none _
      | refine LeO.ite ?_ ?_
      | refine LeO.bind ?_ (fun _ => ?_)
theorem sennitref21_Hunk.mono : ∀ a0 a1 a2 k, LeO (sennitref21_Hunk.f k a0 a1 a2) (sennitref21_Hunk.f (k + 1) a0 a1 a2) := by
  intro a0 a1 a2 k
  have ih0 := sennitref21_Hunk.mono_l k
  unfold sennitref21_Hunk.f
  repeat' first
      | (with_reducible exact ih0 _ _ _ _ _ _ _ _)
      | (with_reducible exact sennitref20_Column.mono _ _ _)
      | (with_reducible exact sennitref20_Result.mono _ _)
      | (with_reducible exact LeO.refl _)
      | (with_reducible exact LeO.none _)
      | (with_reducible refine LeO.ite ?_ ?_)
      | (with_reducible refine LeO.bind ?_ (fun _ => ?_))
      | exact ih0 _ _ _ _ _ _ _ _
      | exact sennitref20_Column.mono _ _ _
      | exact sennitref20_Result.mono _ _
      | exact LeO.none _
      | refine LeO.ite ?_ ?_
      | refine LeO.bind ?_ (fun _ => ?_)
end Go.Proofs.YtenfoaajipiehaaDoor.Q
