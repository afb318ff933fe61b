/- Contracts of the functions named below: each comes to what the Lean function of its name says (for every input; written by a program over the translation). -/
import Derived.Test.YtenfoaajipiehaaDoorQ0
import Derived.Test.YtenfoaajipiehaaDoorQ4
import Derived.Test.YtenfoaajipiehaaDoorR3
import Derived.Test.YtenfoaajipiehaaDoorR4
import Derived.Test.YtenfoaajipiehaaDoorX9
namespace Go.Proofs.YtenfoaajipiehaaDoor.Q
open Go.RowKit Go.Proofs.YtenfoaajipiehaaDoorW.PrintWords Go.Proofs.YtenfoaajipiehaaDoorW.PrintLast Go.Proofs.YtenfoaajipiehaaDoorW.PrintMore
attribute [local go_sem] max2_int min2_int max_two min_two max_three min_three max_four min_four   -- for this text's walks alone
set_option linter.unusedVariables false
set_option linter.unusedSimpArgs false
/-! ### sennitlaw21_HunkContext: function 7 -/
mutual
def sennitlaw21_HunkContext.j0 : Nat → List (S41) → Bool → Bool → Bool → Int → Int → Option (Bool)
  | 0, _, _, _, _, _, _ => none
  | k + 1, x0, x2, x7, x27, x102000, x102001 => if x27 = true then (some x7) else ((hunk_Hunks.f k x0 (wrap64 (mn x102000 x102001)) x2).bind fun bt105 => ((hunk_Hunks.f k x0 (wrap64 (mx x102000 x102001)) x2).bind fun bt109 => (sennitlaw21_HunkContext.l0 k x7 (wrap64 (mn x102000 x102001)) bt105.1 bt109.1 0 0 0)))
def sennitlaw21_HunkContext.l0 : Nat → Bool → Int → List (S38) → List (S38) → Int → Int → Int → Option (Bool)
  | 0, _, _, _, _, _, _, _ => none
  | k + 1, x7, x8, x9, x11, x13, x14, x15 => if x15 < (x9.length : Int) then (if 0 ≤ x15 then (if (((rd_T38 x9 x15).f2).length : Int) = 0 then (some false) else (sennitlaw21_HunkContext.l1 k x7 x8 x9 x11 (wrap64 (x13 + (((rd_T38 x9 x15).f2).length : Int))) x14 x15 0)) else (none)) else (sennitlaw21_HunkContext.l3 k x7 x9 x11 x13 x14 0)
def sennitlaw21_HunkContext.j3 : Nat → Bool → Int → List (S38) → List (S38) → Int → Int → Int → Int → Option (Bool)
  | 0, _, _, _, _, _, _, _, _ => none
  | k + 1, x7, x8, x9, x11, x13, x14, x15, x16 => sennitlaw21_HunkContext.l2 k x7 x8 x9 x11 x13 x14 x15 x16 0
def sennitlaw21_HunkContext.l2 : Nat → Bool → Int → List (S38) → List (S38) → Int → Int → Int → Int → Int → Option (Bool)
  | 0, _, _, _, _, _, _, _, _, _ => none
  | k + 1, x7, x8, x9, x11, x13, x14, x15, x16, x17 => if 0 ≤ x15 then (if x15 < (x9.length : Int) then (if x17 < (((rd_T38 x9 x15).f2).length : Int) then (if 0 ≤ (wrap64 ((wrap64 ((((rd_T38 x9 x15).f2).length : Int) - 1)) - x17)) then (if (wrap64 ((wrap64 ((((rd_T38 x9 x15).f2).length : Int) - 1)) - x17)) < (((rd_T38 x9 x15).f2).length : Int) then ((sennitref21_Marked.f k ((rd_T41 ((rd_T38 x9 x15).f2) (wrap64 ((wrap64 ((((rd_T38 x9 x15).f2).length : Int) - 1)) - x17))).f0) ((rd_T41 ((rd_T38 x9 x15).f2) (wrap64 ((wrap64 ((((rd_T38 x9 x15).f2).length : Int) - 1)) - x17))).f1)).bind fun t123 => (if t123 = true then (if x16 > x8 then (some false) else (if x17 > x8 then (some false) else (if x16 = (((rd_T38 x9 x15).f2).length : Int) then (some false) else (sennitlaw21_HunkContext.l0 k x7 x8 x9 x11 x13 x14 (wrap64 (x15 + 1)))))) else (sennitlaw21_HunkContext.l2 k x7 x8 x9 x11 x13 x14 x15 x16 (wrap64 (x17 + 1))))) else (none)) else (none)) else (if x16 > x8 then (some false) else (if x17 > x8 then (some false) else (if x16 = (((rd_T38 x9 x15).f2).length : Int) then (some false) else (sennitlaw21_HunkContext.l0 k x7 x8 x9 x11 x13 x14 (wrap64 (x15 + 1))))))) else (none)) else (none)
def sennitlaw21_HunkContext.l1 : Nat → Bool → Int → List (S38) → List (S38) → Int → Int → Int → Int → Option (Bool)
  | 0, _, _, _, _, _, _, _, _ => none
  | k + 1, x7, x8, x9, x11, x13, x14, x15, x16 => if 0 ≤ x15 then (if x15 < (x9.length : Int) then (if x16 < (((rd_T38 x9 x15).f2).length : Int) then (if 0 ≤ x16 then ((sennitref21_Marked.f k ((rd_T41 ((rd_T38 x9 x15).f2) x16).f0) ((rd_T41 ((rd_T38 x9 x15).f2) x16).f1)).bind fun t118 => (if t118 = true then (sennitlaw21_HunkContext.j3 k x7 x8 x9 x11 x13 x14 x15 x16) else (sennitlaw21_HunkContext.l1 k x7 x8 x9 x11 x13 x14 x15 (wrap64 (x16 + 1))))) else (none)) else (sennitlaw21_HunkContext.j3 k x7 x8 x9 x11 x13 x14 x15 x16)) else (none)) else (none)
def sennitlaw21_HunkContext.l3 : Nat → Bool → List (S38) → List (S38) → Int → Int → Int → Option (Bool)
  | 0, _, _, _, _, _, _ => none
  | k + 1, x7, x9, x11, x13, x14, x18 => if x18 < (x11.length : Int) then (if 0 ≤ x18 then (sennitlaw21_HunkContext.l3 k x7 x9 x11 x13 (wrap64 (x14 + (((rd_T38 x11 x18).f2).length : Int))) (wrap64 (x18 + 1))) else (none)) else (if x7 = true then (if (x11.length : Int) ≤ (x9.length : Int) then (some (decide (x14 ≥ x13))) else (some false)) else (some false))
end
def sennitlaw21_HunkContext.f (k : Nat) (l0 : List (S41)) (a1_0 : Int) (a1_1 : Int) (a2 : Bool) : Option (Bool) := (sennitlaw21_awake.f k).bind fun t102 => ((sennitref21_Few.f k l0).bind fun t103 => (if t103 = true then ((sennitref21_May.f k l0).bind fun t104 => (sennitlaw21_HunkContext.j0 k l0 a2 t102 (!t104) a1_0 a1_1)) else (sennitlaw21_HunkContext.j0 k l0 a2 t102 true a1_0 a1_1)))
theorem sennitlaw21_HunkContext.mono_l : ∀ k, (∀ y0 y1 y2 y3 y4 y5, LeO (sennitlaw21_HunkContext.j0 k y0 y1 y2 y3 y4 y5) (sennitlaw21_HunkContext.j0 (k + 1) y0 y1 y2 y3 y4 y5)) ∧ (∀ y0 y1 y2 y3 y4 y5 y6, LeO (sennitlaw21_HunkContext.l0 k y0 y1 y2 y3 y4 y5 y6) (sennitlaw21_HunkContext.l0 (k + 1) y0 y1 y2 y3 y4 y5 y6)) ∧ (∀ y0 y1 y2 y3 y4 y5 y6 y7, LeO (sennitlaw21_HunkContext.j3 k y0 y1 y2 y3 y4 y5 y6 y7) (sennitlaw21_HunkContext.j3 (k + 1) y0 y1 y2 y3 y4 y5 y6 y7)) ∧ (∀ y0 y1 y2 y3 y4 y5 y6 y7 y8, LeO (sennitlaw21_HunkContext.l2 k y0 y1 y2 y3 y4 y5 y6 y7 y8) (sennitlaw21_HunkContext.l2 (k + 1) y0 y1 y2 y3 y4 y5 y6 y7 y8)) ∧ (∀ y0 y1 y2 y3 y4 y5 y6 y7, LeO (sennitlaw21_HunkContext.l1 k y0 y1 y2 y3 y4 y5 y6 y7) (sennitlaw21_HunkContext.l1 (k + 1) y0 y1 y2 y3 y4 y5 y6 y7)) ∧ (∀ y0 y1 y2 y3 y4 y5, LeO (sennitlaw21_HunkContext.l3 k y0 y1 y2 y3 y4 y5) (sennitlaw21_HunkContext.l3 (k + 1) y0 y1 y2 y3 y4 y5))
  | 0 => ⟨fun _ _ _ _ _ _ r h => by simp [sennitlaw21_HunkContext.j0] at h, fun _ _ _ _ _ _ _ r h => by simp [sennitlaw21_HunkContext.l0] at h, fun _ _ _ _ _ _ _ _ r h => by simp [sennitlaw21_HunkContext.j3] at h, fun _ _ _ _ _ _ _ _ _ r h => by simp [sennitlaw21_HunkContext.l2] at h, fun _ _ _ _ _ _ _ _ r h => by simp [sennitlaw21_HunkContext.l1] at h, fun _ _ _ _ _ _ r h => by simp [sennitlaw21_HunkContext.l3] at h⟩
  | k + 1 => by
    obtain ⟨ih0, ih1, ih2, ih3, ih4, ih5⟩ := sennitlaw21_HunkContext.mono_l k
    refine ⟨?_, ?_, ?_, ?_, ?_, ?_⟩
    · intro y0 y1 y2 y3 y4 y5
      unfold sennitlaw21_HunkContext.j0
      repeat' first
      | (with_reducible exact ih0 _ _ _ _ _ _)
      | (with_reducible exact ih1 _ _ _ _ _ _ _)
      | (with_reducible exact ih2 _ _ _ _ _ _ _ _)
      | (with_reducible exact ih3 _ _ _ _ _ _ _ _ _)
      | (with_reducible exact ih4 _ _ _ _ _ _ _ _)
      | (with_reducible exact ih5 _ _ _ _ _ _)
      | (with_reducible exact hunk_Hunks.mono _ _ _ _)
      | (with_reducible exact sennitlaw21_awake.mono _)
      | (with_reducible exact sennitref21_Few.mono _ _)
      | (with_reducible exact sennitref21_Marked.mono _ _ _)
      | (with_reducible exact sennitref21_May.mono _ _)
      | (with_reducible exact LeO.refl _)
      | (with_reducible exact LeO.none _)
      | (with_reducible refine LeO.ite ?_ ?_)
      | (with_reducible refine LeO.bind ?_ (fun _ => ?_))
      | exact ih0 _ _ _ _ _ _
      | exact ih1 _ _ _ _ _ _ _
      | exact ih2 _ _ _ _ _ _ _ _
      | exact ih3 _ _ _ _ _ _ _ _ _
      | exact ih4 _ _ _ _ _ _ _ _
      | exact ih5 _ _ _ _ _ _
      | exact hunk_Hunks.mono _ _ _ _
      | exact sennitlaw21_awake.mono _
      | exact sennitref21_Few.mono _ _
      | exact sennitref21_Marked.mono _ _ _
      | exact sennitref21_May.mono _ _
      | exact LeO.none _
      | refine LeO.ite ?_ ?_
      | refine LeO.bind ?_ (fun _ => ?_)
    · intro y0 y1 y2 y3 y4 y5 y6
      unfold sennitlaw21_HunkContext.l0
      repeat' first
      | (with_reducible exact ih0 _ _ _ _ _ _)
      | (with_reducible exact ih1 _ _ _ _ _ _ _)
      | (with_reducible exact ih2 _ _ _ _ _ _ _ _)
      | (with_reducible exact ih3 _ _ _ _ _ _ _ _ _)
      | (with_reducible exact ih4 _ _ _ _ _ _ _ _)
      | (with_reducible exact ih5 _ _ _ _ _ _)
      | (with_reducible exact hunk_Hunks.mono _ _ _ _)
      | (with_reducible exact sennitlaw21_awake.mono _)
      | (with_reducible exact sennitref21_Few.mono _ _)
      | (with_reducible exact sennitref21_Marked.mono _ _ _)
      | (with_reducible exact sennitref21_May.mono _ _)
      | (with_reducible exact LeO.refl _)
      | (with_reducible exact LeO.none _)
      | (with_reducible refine LeO.ite ?_ ?_)
      | (with_reducible refine LeO.bind ?_ (fun _ => ?_))
      | exact ih0 _ _ _ _ _ _
      | exact ih1 _ _ _ _ _ _ _
      | exact ih2 _ _ _ _ _ _ _ _
      | exact ih3 _ _ _ _ _ _ _ _ _
      | exact ih4 _ _ _ _ _ _ _ _
      | exact ih5 _ _ _ _ _ _
      | exact hunk_Hunks.mono _ _ _ _
      | exact sennitlaw21_awake.mono _
      | exact sennitref21_Few.mono _ _
      | exact sennitref21_Marked.mono _ _ _
      | exact sennitref21_May.mono _ _
      | exact LeO.none _
      | refine LeO.ite ?_ ?_
      | refine LeO.bind ?_ (fun _ => ?_)
    · intro y0 y1 y2 y3 y4 y5 y6 y7
      unfold sennitlaw21_HunkContext.j3
      repeat' first
      | (with_reducible exact ih0 _ _ _ _ _ _)
      | (with_reducible exact ih1 _ _ _ _ _ _ _)
      | (with_reducible exact ih2 _ _ _ _ _ _ _ _)
      | (with_reducible exact ih3 _ _ _ _ _ _ _ _ _)
      | (with_reducible exact ih4 _ _ _ _ _ _ _ _)
      | (with_reducible exact ih5 _ _ _ _ _ _)
      | (with_reducible exact hunk_Hunks.mono _ _ _ _)
      | (with_reducible exact sennitlaw21_awake.mono _)
      | (with_reducible exact sennitref21_Few.mono _ _)
      | (with_reducible exact sennitref21_Marked.mono _ _ _)
      | (with_reducible exact sennitref21_May.mono _ _)
      | (with_reducible exact LeO.refl _)
      | (with_reducible exact LeO.none _)
      | (with_reducible refine LeO.ite ?_ ?_)
      | (with_reducible refine LeO.bind ?_ (fun _ => ?_))
      | exact ih0 _ _ _ _ _ _
      | exact ih1 _ _ _ _ _ _ _
      | exact ih2 _ _ _ _ _ _ _ _
      | exact ih3 _ _ _ _ _ _ _ _ _
      | exact ih4 _ _ _ _ _ _ _ _
      | exact ih5 _ _ _ _ _ _
      | exact hunk_Hunks.mono _ _ _ _
      | exact sennitlaw21_awake.mono _
      | exact sennitref21_Few.mono _ _
      | exact sennitref21_Marked.mono _ _ _
      | exact sennitref21_May.mono _ _
      | exact LeO.none _
      | refine LeO.ite ?_ ?_
      | refine LeO.bind ?_ (fun _ => ?_)
    · intro y0 y1 y2 y3 y4 y5 y6 y7 y8
      unfold sennitlaw21_HunkContext.l2
      repeat' first
      | (with_reducible exact ih0 _ _ _ _ _ _)
      | (with_reducible exact ih1 _ _ _ _ _ _ _)
      | (with_reducible exact ih2 _ _ _ _ _ _ _ _)
      | (with_reducible exact ih3 _ _ _ _ _ _ _ _ _)
      | (with_reducible exact ih4 _ _ _ _ _ _ _ _)
      | (with_reducible exact ih5 _ _ _ _ _ _)
      | (with_reducible exact hunk_Hunks.mono _ _ _ _)
      | (with_reducible exact sennitlaw21_awake.mono _)
      | (with_reducible exact sennitref21_Few.mono _ _)
      | (with_reducible exact sennitref21_Marked.mono _ _ _)
      | (with_reducible exact sennitref21_May.mono _ _)
      | (with_reducible exact LeO.refl _)
      | (with_reducible exact LeO.none _)
      | (with_reducible refine LeO.ite ?_ ?_)
      | (with_reducible refine LeO.bind ?_ (fun _ => ?_))
      | exact ih0 _ _ _ _ _ _
      | exact ih1 _ _ _ _ _ _ _
      | exact ih2 _ _ _ _ _ _ _ _
      | exact ih3 _ _ _ _ _ _ _ _ _
      | exact ih4 _ _ _ _ _ _ _ _
      | exact ih5 _ _ _ _ _ _
      | exact hunk_Hunks.mono _ _ _ _
      | exact sennitlaw21_awake.mono _
      | exact sennitref21_Few.mono _ _
      | exact sennitref21_Marked.mono _ _ _
      | exact sennitref21_May.mono _ _
      | exact LeO.none _
      | refine LeO.ite ?_ ?_
      | refine LeO.bind ?_ (fun _ => ?_)
    · intro y0 y1 y2 y3 y4 y5 y6 y7
      unfold sennitlaw21_HunkContext.l1
      repeat' first
      | (with_reducible exact ih0 _ _ _ _ _ _)
      | (with_reducible exact ih1 _ _ _ _ _ _ _)
      | (with_reducible exact ih2 _ _ _ _ _ _ _ _)
      | (with_reducible exact ih3 _ _ _ _ _ _ _ _ _)
      | (with_reducible exact ih4 _ _ _ _ _ _ _ _)
      | (with_reducible exact ih5 _ _ _ _ _ _)
      | (with_reducible exact hunk_Hunks.mono _ _ _ _)
      | (with_reducible exact sennitlaw21_awake.mono _)
      | (with_reducible exact sennitref21_Few.mono _ _)
      | (with_reducible exact sennitref21_Marked.mono _ _ _)
      | (with_reducible exact sennitref21_May.mono _ _)
      | (with_reducible exact LeO.refl _)
      | (with_reducible exact LeO.none _)
      | (with_reducible refine LeO.ite ?_ ?_)
      | (with_reducible refine LeO.bind ?_ (fun _ => ?_))
      | exact ih0 _ _ _ _ _ _
      | exact ih1 _ _ _ _ _ _ _
      | exact ih2 _ _ _ _ _ _ _ _
      | exact ih3 _ _ _ _ _ _ _ _ _
      | exact ih4 _ _ _ _ _ _ _ _
      | exact ih5 _ _ _ _ _ _
      | exact hunk_Hunks.mono _ _ _ _
      | exact sennitlaw21_awake.mono _
      | exact sennitref21_Few.mono _ _
      | exact sennitref21_Marked.mono _ _ _
      | exact sennitref21_May.mono _ _
      | exact LeO.none _
      | refine LeO.ite ?_ ?_
      | refine LeO.bind ?_ (fun _ => ?_)
    · intro y0 y1 y2 y3 y4 y5
      unfold sennitlaw21_HunkContext.l3
      repeat' first
      | (with_reducible exact ih0 _ _ _ _ _ _)
      | (with_reducible exact ih1 _ _ _ _ _ _ _)
      | (with_reducible exact ih2 _ _ _ _ _ _ _ _)
      | (with_reducible exact ih3 _ _ _ _ _ _ _ _ _)
      | (with_reducible exact ih4 _ _ _ _ _ _ _ _)
      | (with_reducible exact ih5 _ _ _ _ _ _)
      | (with_reducible exact hunk_Hunks.mono _ _ _ _)
      | (with_reducible exact sennitlaw21_awake.mono _)
      | (with_reducible exact sennitref21_Few.mono _ _)
      | (with_reducible exact sennitref21_Marked.mono _ _ _)
      | (with_reducible exact sennitref21_May.mono _ _)
      | (with_reducible exact LeO.refl _)
      | (with_reducible exact LeO.none _)
      | (with_reducible refine LeO.ite ?_ ?_)
      | (with_reducible refine LeO.bind ?_ (fun _ => ?_))
      | exact ih0 _ _ _ _ _ _
      | exact ih1 _ _ _ _ _ _ _
      | exact ih2 _ _ _ _ _ _ _ _
      | exact ih3 _ _ _ _ _ _ _ _ _
      | exact ih4 _ _ _ _ _ _ _ _
      | exact ih5 _ _ _ _ _ _
      | exact hunk_Hunks.mono _ _ _ _
      | exact sennitlaw21_awake.mono _
      | exact sennitref21_Few.mono _ _
      | exact sennitref21_Marked.mono _ _ _
      | exact sennitref21_May.mono _ _
      | exact LeO.none _
      | refine LeO.ite ?_ ?_
      | refine LeO.bind ?_ (fun _ => ?_)
theorem sennitlaw21_HunkContext.mono : ∀ a0 a1 a2 a3 k, LeO (sennitlaw21_HunkContext.f k a0 a1 a2 a3) (sennitlaw21_HunkContext.f (k + 1) a0 a1 a2 a3) := by
  intro a0 a1 a2 a3 k
  obtain ⟨ih0, ih1, ih2, ih3, ih4, ih5⟩ := sennitlaw21_HunkContext.mono_l k
  unfold sennitlaw21_HunkContext.f
  repeat' first
      | (with_reducible exact ih0 _ _ _ _ _ _)
      | (with_reducible exact ih1 _ _ _ _ _ _ _)
      | (with_reducible exact ih2 _ _ _ _ _ _ _ _)
      | (with_reducible exact ih3 _ _ _ _ _ _ _ _ _)
      | (with_reducible exact ih4 _ _ _ _ _ _ _ _)
      | (with_reducible exact ih5 _ _ _ _ _ _)
      | (with_reducible exact hunk_Hunks.mono _ _ _ _)
      | (with_reducible exact sennitlaw21_awake.mono _)
      | (with_reducible exact sennitref21_Few.mono _ _)
      | (with_reducible exact sennitref21_Marked.mono _ _ _)
      | (with_reducible exact sennitref21_May.mono _ _)
      | (with_reducible exact LeO.refl _)
      | (with_reducible exact LeO.none _)
      | (with_reducible refine LeO.ite ?_ ?_)
      | (with_reducible refine LeO.bind ?_ (fun _ => ?_))
      | exact ih0 _ _ _ _ _ _
      | exact ih1 _ _ _ _ _ _ _
      | exact ih2 _ _ _ _ _ _ _ _
      | exact ih3 _ _ _ _ _ _ _ _ _
      | exact ih4 _ _ _ _ _ _ _ _
      | exact ih5 _ _ _ _ _ _
      | exact hunk_Hunks.mono _ _ _ _
      | exact sennitlaw21_awake.mono _
      | exact sennitref21_Few.mono _ _
      | exact sennitref21_Marked.mono _ _ _
      | exact sennitref21_May.mono _ _
      | exact LeO.none _
      | refine LeO.ite ?_ ?_
      | refine LeO.bind ?_ (fun _ => ?_)
def sennitlaw21_HunkContext.T19 : Bool × List (List Nat × List Nat) := (true, [([], []), ([], []), ([], []), ([1, 2], [1, 2]), ([3], [3]), ([4], [4]), ([5], [5]), ([0, 6], [0, 6]), ([7], [7]), ([8], [8]), ([8], [8]), ([9, 10, 8], [8, 9, 10]), ([11, 8], [8, 11]), ([12, 8], [8, 12]), ([8], [8]), ([8], [8]), ([14, 15, 8], [8, 14, 15]), ([16, 8], [8, 16]), ([17, 8], [8, 17]), ([18, 8], [8, 18]), ([19, 8], [8, 19]), ([8], [8]), ([20, 21, 8], [8, 20, 21]), ([13, 22, 8], [8, 13, 22]), ([23, 8], [8, 23]), ([24, 8, 8], [8, 24]), ([25, 8], [8, 25]), ([8, 26], [8, 26])])
def sennitlaw21_HunkContext.B19 : List Nat := [0, 0, 0, 6, 14, 30, 62, 127, 255, 511, 511, 2047, 4095, 8191, 511, 511, 49663, 115199, 246271, 508415, 1032703, 511, 4178431, 8388607, 16777215, 33554431, 67108863, 134217727]
theorem sennitlaw21_HunkContext.tab19 : rtab .any (opsOf Tryd.f7 19) = sennitlaw21_HunkContext.T19 := by kernel_rfl
theorem sennitlaw21_HunkContext.bits19 : waitsOk sennitlaw21_HunkContext.T19.2 sennitlaw21_HunkContext.B19 = true := by kernel_rfl
set_option maxHeartbeats 8000000 in
set_option maxRecDepth 100000 in
theorem sennitlaw21_HunkContext.calls_t (k : Nat) (A0 : Option Addr) (c0 : Nat) (l0 : List (S41)) (a1_0 : Int) (a1_1 : Int) (a2 : Bool) (r : Bool) (w : World) (hr0 : Kd.C k41 w A0 l0.length l0) (hc0 : l0.length ≤ c0) (hmx : MaxOk w) (hrt : r = true) (h : sennitlaw21_HunkContext.f k l0 a1_0 a1_1 a2 = some r) :
    Calls Tryd.prog 7 #[.slice A0 l0.length c0, .agg #[.int .u8 a1_0, .int .u8 a1_1], .bool a2] w fun e w' => e = .returned (.bool r) ∧ Below w.heap.size w w' := by
  have HRT := Aside0.mk hrt
  clear hrt
  have HMX := Aside0.mk hmx
  clear hmx
  have hu47 := Tryd.underlying47
  have hu41 := Tryd.underlying41
  have HR0 := Aside0.mk hr0
  have HC0 := Aside0.mk hc0
  clear hr0 hc0
  have HB := Aside0.mk (Below.refl w.heap.size w)
  have H : ((sennitlaw21_awake.f k).bind fun t102 => ((sennitref21_Few.f k l0).bind fun t103 => (if t103 = true then ((sennitref21_May.f k l0).bind fun t104 => (sennitlaw21_HunkContext.j0 k l0 a2 t102 (!t104) a1_0 a1_1)) else (sennitlaw21_HunkContext.j0 k l0 a2 t102 true a1_0 a1_1)))) = some r := h
  clear h
  replace H := Option.bind_eq_some_iff.mp H
  obtain ⟨t102, A40, H⟩ := H
  replace H : ((sennitref21_Few.f k l0).bind fun t103 => (if t103 = true then ((sennitref21_May.f k l0).bind fun t104 => (sennitlaw21_HunkContext.j0 k l0 a2 t102 (!t104) a1_0 a1_1)) else (sennitlaw21_HunkContext.j0 k l0 a2 t102 true a1_0 a1_1))) = some r := H
  have A4 := Aside0.mk A40
  clear A40
  have HC5 := Aside0.mk H
  clear H
  go_enter Tryd.func7, Tryd.ntmps7
  go_upto_region 2 with (first | ((with_reducible refine gate_dst (N := 4) rfl ?_); (try (refine gate_guard (by rfl) ?_; dsimp only)); refine box_event ?hg (N := 4) ?hd (cs := #[.int .u8 a1_0, .int .u8 a1_1]) (t := 47) ?hr ?_; (case hd => rfl); (case hg => rfl); (case hr => first | (go_simp; done) | (go_simp; rfl)); intro gb101 hg w6 hbox hb; have n0_ := Aside0.mk (below_step (by repeat (first | (with_reducible first | exact HB.out | apply below_alloc | apply pw_below_drewN | apply below_drew1) | exact HB.out)) hb); have n1_ := Aside0.mk (hbox); have n2_ := Aside0.mk ((by rw [hg]; exact (below_size (by repeat (first | (with_reducible first | exact HB.out | apply below_alloc | apply pw_below_drewN | apply below_drew1) | exact HB.out))) : w.heap.size ≤ gb101)); have n3_ := Aside0.mk ((by rw [hg]; exact (below_size (by repeat (first | (with_reducible first | exact HB.out | apply below_alloc | apply pw_below_drewN | apply below_drew1) | exact HB.out))) : w.heap.size ≤ gb101)); clear HB; have HB := n0_; have BK101 := n1_; have GW101 := n2_; have GE101 := n3_; clear n0_ n1_ n2_ n3_; clear hb hbox hg) | ((with_reducible refine gate_callee (f := 9) rfl ?_); refine goesL_ (some 19) rfl rfl Tryd.func9 (by kernel_rfl) rfl #[] rfl (by (try simp only [List.map_toArray, List.map_cons, List.map_nil]); first | done | rfl | (simp only [List.length_drop, List.length_take]; rfl)) ?_; (with_reducible refine (sennitlaw21_awake.calls k  t102 _ ?sidemx A4.out).mono ?_); (case sidemx => exact MaxOk.below HMX.out (by repeat (first | (with_reducible first | exact HB.out | apply below_alloc | apply pw_below_drewN | apply below_drew1) | exact HB.out))); rintro e w7 ⟨rfl, hb⟩; refine ⟨_, rfl, ?_⟩; have n0_ := Aside0.mk (blk_below (g := gb101) (o := .cells #[.int .u8 a1_0, .int .u8 a1_1] 47 (0, 0)) (by (with_reducible repeat (first | refine blk_drewN ?_ _ | refine blk_drew ?_ | refine blk_alloc ?_ _)); exact BK101.out) hb); have n1_ := Aside0.mk (below_step (by repeat (first | (with_reducible first | exact HB.out | apply below_alloc | apply pw_below_drewN | apply below_drew1 | refine below_set ?_ GE101.out) | exact HB.out)) hb); clear BK101; clear HB; have BK101 := n0_; have HB := n1_; clear n0_ n1_; (try clear hb); (try clear hb2); (try clear hk); (try clear hi)))
  (try simp only [Act.put, List.setIfInBounds_toArray, List.set_cons_zero, List.set_cons_succ])
  go_cut [27] (fun v27 wc => ∃ (kq : Nat) (x27_4 : Bool), v27 = .bool x27_4 ∧ Aside0 (sennitlaw21_HunkContext.j0 kq l0 a2 t102 x27_4 a1_0 a1_1 = some r) ∧ Aside0 (kq ≤ k) ∧ Aside0 (wc.heap[gb101]? = some (.cells #[.int .u8 a1_0, .int .u8 a1_1] 47 (0, 0))) ∧ Aside0 (Below w.heap.size w wc))
  case first =>
    have H := HC5.out
    clear HC5
    replace H := Option.bind_eq_some_iff.mp H
    obtain ⟨t103, A80, H⟩ := H
    replace H : (if t103 = true then ((sennitref21_May.f k l0).bind fun t104 => (sennitlaw21_HunkContext.j0 k l0 a2 t102 (!t104) a1_0 a1_1)) else (sennitlaw21_HunkContext.j0 k l0 a2 t102 true a1_0 a1_1)) = some r := H
    have A8 := Aside0.mk A80
    clear A80
    by_cases c9 : t103 = true
    · subst c9
      have H1 : ((sennitref21_May.f k l0).bind fun t104 => (sennitlaw21_HunkContext.j0 k l0 a2 t102 (!t104) a1_0 a1_1)) = some r := by rw [if_pos rfl] at H; exact H
      clear H
      have H := H1
      clear H1
      replace H := Option.bind_eq_some_iff.mp H
      obtain ⟨t104, A100, H⟩ := H
      replace H : (sennitlaw21_HunkContext.j0 k l0 a2 t102 (!t104) a1_0 a1_1) = some r := H
      have A10 := Aside0.mk A100
      clear A100
      have H' := Aside0.mk H
      clear H
      go_wp2_with (first | ((with_reducible refine gate_callee (f := 10) rfl ?_); refine goesL_ (some 21) rfl rfl Tryd.func10 (by kernel_rfl) rfl #[.slice A0 l0.length c0] rfl (by (try simp only [List.map_toArray, List.map_cons, List.map_nil]); first | done | rfl | (simp only [List.length_drop, List.length_take]; rfl)) ?_; (with_reducible refine (sennitref21_Few.calls k _ _ l0 true _ ?side1 ?side2 A8.out).mono ?_); (case side1 => repeat (first | exact (Kd.C_below HR0.out HB.out) | (with_reducible refine Kd.C_alloc ?_ _) | (with_reducible refine Kd.C_drewN ?_ _) | (with_reducible refine Kd.C_drew ?_))); (case side2 => exact HC0.out); rintro e w' ⟨rfl, ⟨nd, rfl⟩⟩; refine ⟨_, rfl, ?_⟩) | (go_at_call 14; (with_reducible refine (sennitref21_May.calls k _ _ l0 t104 _ ?side1 ?side2 A10.out).mono ?_); (case side1 => repeat (first | exact (Kd.C_below HR0.out (by repeat (first | (with_reducible first | exact HB.out | apply below_alloc | apply pw_below_drewN | apply below_drew1 | refine below_set ?_ GE101.out) | exact HB.out))) | (with_reducible refine Kd.C_alloc ?_ _) | (with_reducible refine Kd.C_drewN ?_ _) | (with_reducible refine Kd.C_drew ?_))); (case side2 => exact HC0.out); rintro e w11 ⟨rfl, hb⟩; have n0_ := Aside0.mk (blk_below (g := gb101) (o := .cells #[.int .u8 a1_0, .int .u8 a1_1] 47 (0, 0)) (by (with_reducible repeat (first | refine blk_drewN ?_ _ | refine blk_drew ?_ | refine blk_alloc ?_ _)); exact BK101.out) hb); have n1_ := Aside0.mk (below_step (by repeat (first | (with_reducible first | exact HB.out | apply below_alloc | apply pw_below_drewN | apply below_drew1 | refine below_set ?_ GE101.out) | exact HB.out)) hb); clear BK101; clear HB; have BK101 := n0_; have HB := n1_; clear n0_ n1_; (try clear hb); (try clear hb2); (try clear hk); (try clear hi)))
      go_meet
      case rel => exact ⟨_, (!t104), (by first | rfl | (simp; done) | (simp [*]; done)), H', ⟨by first | omega | exact Nat.le_refl _⟩, ⟨by (with_reducible repeat (first | refine blk_drewN ?_ _ | refine blk_drew ?_ | refine blk_alloc ?_ _)); exact BK101.out⟩, ⟨by repeat (first | (with_reducible first | exact HB.out | apply below_alloc | apply pw_below_drewN | apply below_drew1 | refine below_set ?_ GE101.out) | exact HB.out)⟩⟩
    · replace c9 := Bool.eq_false_iff.mpr c9
      subst c9
      have H1 : (sennitlaw21_HunkContext.j0 k l0 a2 t102 true a1_0 a1_1) = some r := by rw [if_neg (show ¬ (false = true) by decide)] at H; exact H
      clear H
      have H := H1
      clear H1
      have H' := Aside0.mk H
      clear H
      go_wp2_with (first | ((with_reducible refine gate_callee (f := 10) rfl ?_); refine goesL_ (some 21) rfl rfl Tryd.func10 (by kernel_rfl) rfl #[.slice A0 l0.length c0] rfl (by (try simp only [List.map_toArray, List.map_cons, List.map_nil]); first | done | rfl | (simp only [List.length_drop, List.length_take]; rfl)) ?_; (with_reducible refine (sennitref21_Few.calls k _ _ l0 false _ ?side1 ?side2 A8.out).mono ?_); (case side1 => repeat (first | exact (Kd.C_below HR0.out HB.out) | (with_reducible refine Kd.C_alloc ?_ _) | (with_reducible refine Kd.C_drewN ?_ _) | (with_reducible refine Kd.C_drew ?_))); (case side2 => exact HC0.out); rintro e w' ⟨rfl, ⟨nd, rfl⟩⟩; refine ⟨_, rfl, ?_⟩))
      go_meet
      case rel => exact ⟨_, (true), (by first | rfl | (simp; done) | (simp [*]; done)), H', ⟨by first | omega | exact Nat.le_refl _⟩, ⟨by (with_reducible repeat (first | refine blk_drewN ?_ _ | refine blk_drew ?_ | refine blk_alloc ?_ _)); exact BK101.out⟩, ⟨by repeat (first | (with_reducible first | exact HB.out | apply below_alloc | apply pw_below_drewN | apply below_drew1 | refine below_set ?_ GE101.out) | exact HB.out)⟩⟩
  case rest =>
    clear HC5
    try clear c1
    try clear p2
    try clear c7
    try clear c9
    try clear c10
    obtain ⟨kq, x27_4, rfl, HA, HJ4, BK101, HB⟩ := hcut
    cases kq with
    | zero => exact absurd HA.out (by simp [sennitlaw21_HunkContext.j0])
    | succ kj4 =>
      have H := HA.out
      clear HA
      simp only [sennitlaw21_HunkContext.j0] at H
      by_cases c12 : x27_4 = true
      · subst c12
        have H1 : (some t102) = some r := by rw [if_pos rfl] at H; exact H
        clear H
        have H := H1
        clear H1
        obtain rfl := Option.some.inj H
        go_wp2
        go_ret
        exact ⟨by first | rfl | (simp [errW_none, errW_some] <;> rfl) | (simp [errW_none, errW_some] <;> (generalize ByteArray.toList _ = l_ <;> cases l_ <;> rfl)) | (simp [*, errW_none, errW_some] <;> rfl), by repeat (first | (with_reducible first | exact HB.out | apply below_alloc | apply pw_below_drewN | apply below_drew1 | refine below_set ?_ GE101.out) | exact HB.out)⟩
      · replace c12 := Bool.eq_false_iff.mpr c12
        subst c12
        have H1 : ((hunk_Hunks.f kj4 l0 (wrap64 (mn a1_0 a1_1)) a2).bind fun bt105 => ((hunk_Hunks.f kj4 l0 (wrap64 (mx a1_0 a1_1)) a2).bind fun bt109 => (sennitlaw21_HunkContext.l0 kj4 t102 (wrap64 (mn a1_0 a1_1)) bt105.1 bt109.1 0 0 0))) = some r := by rw [if_neg (show ¬ (false = true) by decide)] at H; exact H
        clear H
        have H := H1
        clear H1
        obtain ⟨ji13, hji13⟩ : ∃ j_ : Int, (mn a1_0 a1_1) = j_ := ⟨_, rfl⟩
        replace H : ((hunk_Hunks.f kj4 l0 (wrap64 (ji13)) a2).bind fun bt105 => ((hunk_Hunks.f kj4 l0 (wrap64 (mx a1_0 a1_1)) a2).bind fun bt109 => (sennitlaw21_HunkContext.l0 kj4 t102 (wrap64 (ji13)) bt105.1 bt109.1 0 0 0))) = some r := by first | (rw [hji13] at H; exact H) | (simp only [hji13] at H ⊢; exact H)
        have hji13_ : (if a1_1 < a1_0 then a1_1 else a1_0) = ji13 := hji13
        replace H := Option.bind_eq_some_iff.mp H
        obtain ⟨⟨t105, t108⟩, A140, H⟩ := H
        replace H : ((hunk_Hunks.f kj4 l0 (wrap64 (mx a1_0 a1_1)) a2).bind fun bt109 => (sennitlaw21_HunkContext.l0 kj4 t102 (wrap64 (ji13)) t105 bt109.1 0 0 0)) = some r := H
        have A14 := Aside0.mk A140
        clear A140
        obtain ⟨ji15, hji15⟩ : ∃ j_ : Int, (mx a1_0 a1_1) = j_ := ⟨_, rfl⟩
        replace H : ((hunk_Hunks.f kj4 l0 (wrap64 (ji15)) a2).bind fun bt109 => (sennitlaw21_HunkContext.l0 kj4 t102 (wrap64 (ji13)) t105 bt109.1 0 0 0)) = some r := by first | (rw [hji15] at H; exact H) | (simp only [hji15] at H ⊢; exact H)
        (try rw [hji15] at A14)
        have hji15_ : (if a1_0 < a1_1 then a1_1 else a1_0) = ji15 := hji15
        replace H := Option.bind_eq_some_iff.mp H
        obtain ⟨⟨t109, t112⟩, A160, H⟩ := H
        replace H : (sennitlaw21_HunkContext.l0 kj4 t102 (wrap64 (ji13)) t105 t109 0 0 0) = some r := H
        have A16 := Aside0.mk A160
        clear A160
        have H' := Aside0.mk H
        clear H
        have hcz17_0 : wc.cell? ⟨gb101, 0, none⟩ = some (.int .u8 a1_0) := (blk_cell BK101.out 0).trans rfl
        have hcz17_1 : wc.cell? ⟨gb101, 1, none⟩ = some (.int .u8 a1_1) := (blk_cell BK101.out 1).trans rfl
        have hfz17_0 := blk_frozen BK101.out 0
        have hfz17_1 := blk_frozen BK101.out 1
        go_wp2_with (first | ((with_reducible refine gate_callee (f := 11) rfl ?_); refine goesL_ (some 39) rfl rfl Tryd.func11 (by kernel_rfl) rfl #[.slice A0 l0.length c0, .int .i64 (wrap64 (ji13)), .bool a2] rfl (by (try simp only [List.map_toArray, List.map_cons, List.map_nil]); first | done | (simp only [hji13]; rfl) | rfl | (simp only [List.length_drop, List.length_take]; rfl)) ?_; (with_reducible refine (hunk_Hunks.calls kj4 (fun k_ => k_ < w.heap.size) _ _ l0 (wrap64 (ji13)) a2 t105 t108 _ ?side1 ?sidemx A14.out).mono ?_); (case sidemx => exact MaxOk.below HMX.out (by repeat (first | (with_reducible first | exact HB.out | apply below_alloc | apply pw_below_drewN | apply below_drew1) | exact HB.out))); (case side1 => exact Kd.V_mk HC0.out (Kd.F_below (Kd.C_F k41_heap HR0.out) (by repeat (first | (with_reducible first | exact HB.out | apply below_alloc | apply pw_below_drewN | apply below_drew1 | refine below_set ?_ GE101.out) | exact HB.out)))); rintro e w18 ⟨v106, rfl, ho0, hb⟩; refine ⟨_, rfl, ?_⟩; have n0_ := Aside0.mk (Kd.N_lower (Kd.N_mono (ok' := fun k_ => k_ ≠ gb101) ho0 (fun k_ hk_ => Or.elim hk_ (fun hs_ => fun e_ => Nat.not_le.2 hs_ (by rw [e_]; exact GW101.out)) (fun hn_ => (Kd.freshB (g := gb101) (o := .cells #[.int .u8 a1_0, .int .u8 a1_1] 47 (0, 0)) (by (with_reducible repeat (first | refine blk_drewN ?_ _ | refine blk_drew ?_ | refine blk_alloc ?_ _)); exact BK101.out) k_ hn_)))) (below_size (by repeat (first | (with_reducible first | exact HB.out | apply below_alloc | apply pw_below_drewN | apply below_drew1 | refine below_set ?_ GE101.out) | exact HB.out)))); have n1_ := Aside0.mk (blk_below (g := gb101) (o := .cells #[.int .u8 a1_0, .int .u8 a1_1] 47 (0, 0)) (by (with_reducible repeat (first | refine blk_drewN ?_ _ | refine blk_drew ?_ | refine blk_alloc ?_ _)); exact BK101.out) hb); have n2_ := Aside0.mk (below_step (by repeat (first | (with_reducible first | exact HB.out | apply below_alloc | apply pw_below_drewN | apply below_drew1 | refine below_set ?_ GE101.out) | exact HB.out)) hb); clear BK101; clear HB; have HO107 := n0_; have BK101 := n1_; have HB := n2_; clear n0_ n1_ n2_; (try clear hb); (try clear hb2); (try clear hk); (try clear hi); (try clear ho0); have hcz19_0 : w18.cell? ⟨gb101, 0, none⟩ = some (.int .u8 a1_0) := (blk_cell BK101.out 0).trans rfl; have hcz19_1 : w18.cell? ⟨gb101, 1, none⟩ = some (.int .u8 a1_1) := (blk_cell BK101.out 1).trans rfl; have hfz19_0 := blk_frozen BK101.out 0; have hfz19_1 := blk_frozen BK101.out 1) | ((with_reducible refine gate_callee (f := 11) rfl ?_); refine goesL_ (some 51) rfl rfl Tryd.func11 (by kernel_rfl) rfl #[.slice A0 l0.length c0, .int .i64 (wrap64 (ji15)), .bool a2] rfl (by (try simp only [List.map_toArray, List.map_cons, List.map_nil]); first | done | (simp only [hji15]; rfl) | rfl | (simp only [List.length_drop, List.length_take]; rfl)) ?_; (with_reducible refine (hunk_Hunks.calls kj4 (fun k_ => k_ < w.heap.size) _ _ l0 (wrap64 (ji15)) a2 t109 t112 _ ?side1 ?sidemx A16.out).mono ?_); (case sidemx => exact MaxOk.below HMX.out (by repeat (first | (with_reducible first | exact HB.out | apply below_alloc | apply pw_below_drewN | apply below_drew1) | exact HB.out))); (case side1 => exact Kd.V_mk HC0.out (Kd.F_below (Kd.C_F k41_heap HR0.out) (by repeat (first | (with_reducible first | exact HB.out | apply below_alloc | apply pw_below_drewN | apply below_drew1 | refine below_set ?_ GE101.out) | exact HB.out)))); rintro e w20 ⟨v110, rfl, ho0, hb⟩; refine ⟨_, rfl, ?_⟩; have n0_ := Aside0.mk (Kd.N_elder' (by (with_reducible repeat (first | apply Kd.N_alloc | apply Kd.N_drewN | apply Kd.N_drew)); exact HO107.out) (Kd.N_base ho0) hb); have n1_ := Aside0.mk (Kd.N_lower (Kd.N_mono (ok' := fun k_ => some k_ ≠ (v106 : Value).ownBlock ∧ k_ ≠ gb101) ho0 (fun k_ hk_ => ⟨Or.elim hk_ (fun hs_ => fun e_ => Nat.not_le.2 hs_ (Kd.N_base HO107.out k_ e_.symm)) (fun hn_ => (Kd.fresh' (Kd.N_lt (by (with_reducible repeat (first | apply Kd.N_alloc | apply Kd.N_drewN | apply Kd.N_drew)); exact HO107.out)) k_ hn_)), Or.elim hk_ (fun hs_ => fun e_ => Nat.not_le.2 hs_ (by rw [e_]; exact GW101.out)) (fun hn_ => (Kd.freshB (g := gb101) (o := .cells #[.int .u8 a1_0, .int .u8 a1_1] 47 (0, 0)) (by (with_reducible repeat (first | refine blk_drewN ?_ _ | refine blk_drew ?_ | refine blk_alloc ?_ _)); exact BK101.out) k_ hn_))⟩)) (below_size (by repeat (first | (with_reducible first | exact HB.out | apply below_alloc | apply pw_below_drewN | apply below_drew1 | refine below_set ?_ GE101.out) | exact HB.out)))); have n2_ := Aside0.mk (blk_below (g := gb101) (o := .cells #[.int .u8 a1_0, .int .u8 a1_1] 47 (0, 0)) (by (with_reducible repeat (first | refine blk_drewN ?_ _ | refine blk_drew ?_ | refine blk_alloc ?_ _)); exact BK101.out) hb); have n3_ := Aside0.mk (below_step (by repeat (first | (with_reducible first | exact HB.out | apply below_alloc | apply pw_below_drewN | apply below_drew1 | refine below_set ?_ GE101.out) | exact HB.out)) hb); clear HO107; clear BK101; clear HB; have HO107 := n0_; have HO111 := n1_; have BK101 := n2_; have HB := n3_; clear n0_ n1_ n2_ n3_; (try clear hb); (try clear hb2); (try clear hk); (try clear hi); (try clear ho0)))
        go_loopg [13, 15] kj4 (fun kq v13 v15 w' => ∃ (x13_2 : Int) (x15_2 : Int), v13 = .int .i64 x13_2 ∧ v15 = .int .i64 x15_2 ∧ Aside0 (sennitlaw21_HunkContext.l0 kq t102 (wrap64 (ji13)) t105 t109 x13_2 0 x15_2 = some r) ∧ Aside0 (kq ≤ kj4) ∧ Aside0 (Kd.N k38 38 w' w.heap.size (fun k_ => some k_ ≠ (v110 : Value).ownBlock ∧ k_ ≠ gb101) v106 t105) ∧ Aside0 (Kd.N k38 38 w' w.heap.size (fun k_ => some k_ ≠ (v106 : Value).ownBlock ∧ k_ ≠ gb101) v110 t109) ∧ Aside0 (w'.heap[gb101]? = some (.cells #[.int .u8 a1_0, .int .u8 a1_1] 47 (0, 0))) ∧ Aside0 (Below w.heap.size w w'))
        case atStart => exact ⟨(0), (0), (by first | rfl | (simp; done) | (simp [*]; done)), (by first | rfl | (simp; done) | (simp [*]; done)), H', ⟨Nat.le_refl _⟩, ⟨by (with_reducible repeat (first | apply Kd.N_alloc | apply Kd.N_drewN | apply Kd.N_drew)); exact Kd.N_mono HO107.out (fun _ hk => ⟨hk.2, hk.1⟩)⟩, ⟨by (with_reducible repeat (first | apply Kd.N_alloc | apply Kd.N_drewN | apply Kd.N_drew)); exact HO111.out⟩, ⟨by (with_reducible repeat (first | refine blk_drewN ?_ _ | refine blk_drew ?_ | refine blk_alloc ?_ _)); exact BK101.out⟩, ⟨by repeat (first | (with_reducible first | exact HB.out | apply below_alloc | apply pw_below_drewN | apply below_drew1 | refine below_set ?_ GE101.out) | exact HB.out)⟩⟩
        case round =>
          clear H'
          try clear c1
          try clear p2
          try clear p6
          try clear c7
          try clear c9
          try clear c10
          try clear c11
          try clear c12
          try clear hcz17_0
          try clear hcz17_1
          try clear hcz19_0
          try clear hcz19_1
          try clear hfz17_0
          try clear hfz17_1
          try clear hfz19_0
          try clear hfz19_1
          try clear p2
          obtain ⟨x13_2, x15_2, rfl, rfl, HA, HK2, HO_9, HO_11, BK101, HB⟩ := hrel
          cases gk with
          | zero => exact absurd HA.out (by simp [sennitlaw21_HunkContext.l0])
          | succ k2 =>
            have H := HA.out
            clear HA
            simp only [sennitlaw21_HunkContext.l0] at H
            by_cases c21 : x15_2 < (t105.length : Int)
            · rw [if_pos c21] at H
              have c21b0 : decide (x15_2 < (t105.length : Int)) = true := decide_eq_true c21
              clear c21
              by_cases c22 : 0 ≤ x15_2
              · rw [if_pos c22] at H
                have c22b0 : decide (0 ≤ x15_2) = true := decide_eq_true c22
                clear c22
                by_cases c23 : (((rd_T38 t105 x15_2).f2).length : Int) = 0
                · rw [if_pos c23] at H
                  have c23b0 : ((((rd_T38 t105 x15_2).f2).length : Int) == 0) = true := beq_iff_eq.mpr c23
                  have c23b1 : ((((rd_T38 t105 x15_2).f2).length : Int) != 0) = false := bne_eq_false_iff_eq.mpr c23
                  clear c23
                  exact absurd ((Option.some.inj H).trans HRT.out) (by decide)
                · rw [if_neg c23] at H
                  have c23b0 : ((((rd_T38 t105 x15_2).f2).length : Int) == 0) = false := beq_eq_false_iff_ne.mpr c23
                  have c23b1 : ((((rd_T38 t105 x15_2).f2).length : Int) != 0) = true := bne_iff_ne.mpr c23
                  have c23b2 : ¬ (((rd_T38 t105 x15_2).f2) = []) := fun h_ => c23 (by rw [h_]; rfl)
                  have HC25 := Aside0.mk H
                  clear H
                  obtain ⟨Ao26, co26, eo26⟩ := Kd.N_slice HO_9.out
                  subst eo26
                  have p113 : 0 ≤ (x15_2 : Int) := of_decide_eq_true (by first | (with_reducible assumption) | assumption)
                  have q113 : x15_2 < (t105.length : Int) := of_decide_eq_true (by first | (with_reducible assumption) | assumption)
                  obtain ⟨ad113, A113_0, c113_0, A113_3, c113_3, e113, hx113_0, hx113_1, hx113_2, hx113_3, hl113_0, hi113_0, hl113_3, hi113_3⟩ := at_T38 (Kd.N_reads' HO_9.out).2.2 x15_2 p113 q113
                  cases e113
                  obtain ⟨ce113, hce113, hMe113, hcc113⟩ := Kd.N_get HO_9.out z38 x15_2 p113 (by first | exact q113 | exact of_decide_eq_true (by first | (with_reducible assumption) | assumption) | (have e_ := (Kd.N_reads' HO_9.out).1; omega))
                  obtain ⟨ua113_0, uc113_0, ua113_3, uc113_3, rfl, ul113_0, ge113_0, ul113_3, ge113_3⟩ := k38_openF hMe113
                  have hv113_0 := hcc113 0 _ rfl
                  rw [Nat.add_zero] at hv113_0
                  replace hv113_0 := Option.some.inj (hv113_0.symm.trans hx113_0)
                  injection hv113_0 with hva_ hvn_ hvc_
                  rw [hva_] at ge113_0
                  rw [hvc_] at ul113_0
                  have HL113_0 := Aside0.mk (show Kd.V k36 36 _ w.heap.size _ _ ((rd_T38 t105 x15_2).f0) from Kd.V_mk ul113_0 ge113_0)
                  clear hva_ hvn_ hvc_ ge113_0 ul113_0
                  have hv113_3 := hcc113 3 _ rfl
                  rw [add_field _ _ 3 (by omega)] at hv113_3
                  replace hv113_3 := Option.some.inj (hv113_3.symm.trans hx113_3)
                  injection hv113_3 with hva_ hvn_ hvc_
                  rw [hva_] at ge113_3
                  rw [hvc_] at ul113_3
                  have HL113_3 := Aside0.mk (show Kd.V k41 41 _ w.heap.size _ _ ((rd_T38 t105 x15_2).f2) from Kd.V_mk ul113_3 ge113_3)
                  clear hva_ hvn_ hvc_ ge113_3 ul113_3
                  clear hcc113 hce113
                  have HR113_0 := Aside0.mk hi113_0
                  have HC113_0 := Aside0.mk hl113_0
                  clear hi113_0 hl113_0
                  have HR113_3 := Aside0.mk hi113_3
                  have HC113_3 := Aside0.mk hl113_3
                  clear hi113_3 hl113_3
                  replace p113 := eq_true p113
                  replace q113 := eq_true q113
                  have p114 : 0 ≤ (x15_2 : Int) := of_decide_eq_true (by first | (with_reducible assumption) | assumption)
                  have q114 : x15_2 < (t105.length : Int) := of_decide_eq_true (by first | (with_reducible assumption) | assumption)
                  obtain ⟨ad114, A114_0, c114_0, A114_3, c114_3, e114, hx114_0, hx114_1, hx114_2, hx114_3, hl114_0, hi114_0, hl114_3, hi114_3⟩ := at_T38 (Kd.N_reads' HO_9.out).2.2 x15_2 p114 q114
                  obtain rfl : ad113 = ad114 := (by injection e114)
                  obtain ⟨ce114, hce114, hMe114, hcc114⟩ := Kd.N_get HO_9.out z38 x15_2 p114 (by first | exact q114 | exact of_decide_eq_true (by first | (with_reducible assumption) | assumption) | (have e_ := (Kd.N_reads' HO_9.out).1; omega))
                  obtain ⟨ua114_0, uc114_0, ua114_3, uc114_3, rfl, ul114_0, ge114_0, ul114_3, ge114_3⟩ := k38_openF hMe114
                  have hv114_0 := hcc114 0 _ rfl
                  rw [Nat.add_zero] at hv114_0
                  replace hv114_0 := Option.some.inj (hv114_0.symm.trans hx114_0)
                  injection hv114_0 with hva_ hvn_ hvc_
                  rw [hva_] at ge114_0
                  rw [hvc_] at ul114_0
                  have HL114_0 := Aside0.mk (show Kd.V k36 36 _ w.heap.size _ _ ((rd_T38 t105 x15_2).f0) from Kd.V_mk ul114_0 ge114_0)
                  clear hva_ hvn_ hvc_ ge114_0 ul114_0
                  have hv114_3 := hcc114 3 _ rfl
                  rw [add_field _ _ 3 (by omega)] at hv114_3
                  replace hv114_3 := Option.some.inj (hv114_3.symm.trans hx114_3)
                  injection hv114_3 with hva_ hvn_ hvc_
                  rw [hva_] at ge114_3
                  rw [hvc_] at ul114_3
                  have HL114_3 := Aside0.mk (show Kd.V k41 41 _ w.heap.size _ _ ((rd_T38 t105 x15_2).f2) from Kd.V_mk ul114_3 ge114_3)
                  clear hva_ hvn_ hvc_ ge114_3 ul114_3
                  clear hcc114 hce114
                  have HR114_0 := Aside0.mk hi114_0
                  have HC114_0 := Aside0.mk hl114_0
                  clear hi114_0 hl114_0
                  have HR114_3 := Aside0.mk hi114_3
                  have HC114_3 := Aside0.mk hl114_3
                  clear hi114_3 hl114_3
                  replace p114 := eq_true p114
                  replace q114 := eq_true q114
                  have ea_ := Option.some.inj (hx113_0.symm.trans hx114_0)
                  injection ea_ with ea_ en_ ec_
                  subst ea_
                  subst ec_
                  clear en_
                  have ea_ := Option.some.inj (hx113_3.symm.trans hx114_3)
                  injection ea_ with ea_ en_ ec_
                  subst ea_
                  subst ec_
                  clear en_
                  go_upto_block 2 with (fail)
                  go_cut [16] (fun v16 wc => ∃ (kq : Nat) (x16_24 : Int), v16 = .int .i64 x16_24 ∧ Aside0 (sennitlaw21_HunkContext.j3 kq t102 (wrap64 (ji13)) t105 t109 (wrap64 (x13_2 + (((rd_T38 t105 x15_2).f2).length : Int))) 0 x15_2 x16_24 = some r) ∧ Aside0 (kq ≤ k2) ∧ Aside0 (Kd.N k38 38 wc w.heap.size (fun k_ => some k_ ≠ (v110 : Value).ownBlock ∧ k_ ≠ gb101) (.slice (some ad113) t105.length co26) t105) ∧ Aside0 (Kd.N k38 38 wc w.heap.size (fun k_ => some k_ ≠ ((.slice (some ad113) t105.length co26) : Value).ownBlock ∧ k_ ≠ gb101) v110 t109) ∧ Aside0 (wc.heap[gb101]? = some (.cells #[.int .u8 a1_0, .int .u8 a1_1] 47 (0, 0))) ∧ Aside0 (Kd.C k36 wc A113_0 ((rd_T38 t105 x15_2).f0).length ((rd_T38 t105 x15_2).f0)) ∧ Aside0 (Kd.C k41 wc A113_3 ((rd_T38 t105 x15_2).f2).length ((rd_T38 t105 x15_2).f2)) ∧ Aside0 (Kd.C k36 wc A113_0 ((rd_T38 t105 x15_2).f0).length ((rd_T38 t105 x15_2).f0)) ∧ Aside0 (Kd.C k41 wc A113_3 ((rd_T38 t105 x15_2).f2).length ((rd_T38 t105 x15_2).f2)) ∧ Aside0 (Below w.heap.size w wc))
                  case first =>
                    have H := HC25.out
                    clear HC25
                    have H' := Aside0.mk H
                    clear H
                    go_wp2
                    go_loopg [16] k2 (fun kq v16 w' => ∃ (x16_3 : Int), v16 = .int .i64 x16_3 ∧ Aside0 (sennitlaw21_HunkContext.l1 kq t102 (wrap64 (ji13)) t105 t109 (wrap64 (x13_2 + (((rd_T38 t105 x15_2).f2).length : Int))) 0 x15_2 x16_3 = some r) ∧ Aside0 (kq ≤ k2) ∧ Aside0 (Kd.N k38 38 w' w.heap.size (fun k_ => some k_ ≠ (v110 : Value).ownBlock ∧ k_ ≠ gb101) (.slice (some ad113) t105.length co26) t105) ∧ Aside0 (Kd.N k38 38 w' w.heap.size (fun k_ => some k_ ≠ ((.slice (some ad113) t105.length co26) : Value).ownBlock ∧ k_ ≠ gb101) v110 t109) ∧ Aside0 (w'.heap[gb101]? = some (.cells #[.int .u8 a1_0, .int .u8 a1_1] 47 (0, 0))) ∧ Aside0 (Kd.C k36 w' A113_0 ((rd_T38 t105 x15_2).f0).length ((rd_T38 t105 x15_2).f0)) ∧ Aside0 (Kd.C k41 w' A113_3 ((rd_T38 t105 x15_2).f2).length ((rd_T38 t105 x15_2).f2)) ∧ Aside0 (Kd.C k36 w' A113_0 ((rd_T38 t105 x15_2).f0).length ((rd_T38 t105 x15_2).f0)) ∧ Aside0 (Kd.C k41 w' A113_3 ((rd_T38 t105 x15_2).f2).length ((rd_T38 t105 x15_2).f2)) ∧ Aside0 (Below w.heap.size w w'))
                    case atStart => exact ⟨(0), (by first | rfl | (simp; done) | (simp [*]; done)), H', ⟨Nat.le_refl _⟩, ⟨by (with_reducible repeat (first | apply Kd.N_alloc | apply Kd.N_drewN | apply Kd.N_drew)); exact HO_9.out⟩, ⟨by (with_reducible repeat (first | apply Kd.N_alloc | apply Kd.N_drewN | apply Kd.N_drew)); exact HO_11.out⟩, ⟨by (with_reducible repeat (first | refine blk_drewN ?_ _ | refine blk_drew ?_ | refine blk_alloc ?_ _)); exact BK101.out⟩, ⟨by repeat (first | (with_reducible exact HR113_0.out) | (with_reducible refine Kd.C_alloc ?_ _) | (with_reducible refine Kd.C_drewN ?_ _) | (with_reducible refine Kd.C_drew ?_) | exact HR113_0.out)⟩, ⟨by repeat (first | (with_reducible exact HR113_3.out) | (with_reducible refine Kd.C_alloc ?_ _) | (with_reducible refine Kd.C_drewN ?_ _) | (with_reducible refine Kd.C_drew ?_) | exact HR113_3.out)⟩, ⟨by repeat (first | (with_reducible exact HR114_0.out) | (with_reducible refine Kd.C_alloc ?_ _) | (with_reducible refine Kd.C_drewN ?_ _) | (with_reducible refine Kd.C_drew ?_) | exact HR114_0.out)⟩, ⟨by repeat (first | (with_reducible exact HR114_3.out) | (with_reducible refine Kd.C_alloc ?_ _) | (with_reducible refine Kd.C_drewN ?_ _) | (with_reducible refine Kd.C_drew ?_) | exact HR114_3.out)⟩, ⟨by repeat (first | (with_reducible first | exact HB.out | apply below_alloc | apply pw_below_drewN | apply below_drew1 | refine below_set ?_ GE101.out) | exact HB.out)⟩⟩
                    case round =>
                      clear H'
                      try clear c1
                      try clear p1
                      try clear q1
                      try clear hx1
                      try clear c2
                      try clear p2
                      try clear p6
                      try clear c7
                      try clear c9
                      try clear c10
                      try clear c11
                      try clear p11
                      try clear q11
                      try clear hx11
                      try clear c12
                      try clear c21
                      try clear c21b0
                      try clear c22
                      try clear c22b0
                      try clear c23
                      try clear c23b0
                      try clear c23b1
                      try clear c23b2
                      try clear hcz17_0
                      try clear hcz17_1
                      try clear hcz19_0
                      try clear hcz19_1
                      try clear hfz17_0
                      try clear hfz17_1
                      try clear hfz19_0
                      try clear hfz19_1
                      try clear hx113_0
                      try clear hx113_1
                      try clear hx113_2
                      try clear hx113_3
                      try clear hx114_0
                      try clear hx114_1
                      try clear hx114_2
                      try clear hx114_3
                      try clear p113
                      try clear p114
                      try clear p2
                      try clear p6
                      try clear q113
                      try clear q114
                      obtain ⟨x16_3, rfl, HA, HK3, HO_9, HO_11, BK101, HR113_0, HR113_3, HR114_0, HR114_3, HB⟩ := hrel
                      cases gk with
                      | zero => exact absurd HA.out (by simp [sennitlaw21_HunkContext.l1])
                      | succ k3 =>
                        have H := HA.out
                        clear HA
                        simp only [sennitlaw21_HunkContext.l1] at H
                        by_cases c27 : 0 ≤ x15_2
                        · rw [if_pos c27] at H
                          have c27b0 : decide (0 ≤ x15_2) = true := decide_eq_true c27
                          clear c27
                          (first | rw [c27b0] | (simp only [i64_w, i32_w]; rw [c27b0]) | skip)
                          by_cases c28 : x15_2 < (t105.length : Int)
                          · rw [if_pos c28] at H
                            have c28b0 : decide (x15_2 < (t105.length : Int)) = true := decide_eq_true c28
                            clear c28
                            by_cases c29 : x16_3 < (((rd_T38 t105 x15_2).f2).length : Int)
                            · rw [if_pos c29] at H
                              have c29b0 : decide (x16_3 < (((rd_T38 t105 x15_2).f2).length : Int)) = true := decide_eq_true c29
                              clear c29
                              by_cases c30 : 0 ≤ x16_3
                              · rw [if_pos c30] at H
                                have c30b0 : decide (0 ≤ x16_3) = true := decide_eq_true c30
                                clear c30
                                replace H := Option.bind_eq_some_iff.mp H
                                obtain ⟨t118, A310, H⟩ := H
                                replace H : (if t118 = true then (sennitlaw21_HunkContext.j3 k3 t102 (wrap64 (ji13)) t105 t109 (wrap64 (x13_2 + (((rd_T38 t105 x15_2).f2).length : Int))) 0 x15_2 x16_3) else (sennitlaw21_HunkContext.l1 k3 t102 (wrap64 (ji13)) t105 t109 (wrap64 (x13_2 + (((rd_T38 t105 x15_2).f2).length : Int))) 0 x15_2 (wrap64 (x16_3 + 1)))) = some r := H
                                have A31 := Aside0.mk A310
                                clear A310
                                by_cases c32 : t118 = true
                                · subst c32
                                  have H1 : (sennitlaw21_HunkContext.j3 k3 t102 (wrap64 (ji13)) t105 t109 (wrap64 (x13_2 + (((rd_T38 t105 x15_2).f2).length : Int))) 0 x15_2 x16_3) = some r := by rw [if_pos rfl] at H; exact H
                                  clear H
                                  have H := H1
                                  clear H1
                                  have H' := Aside0.mk H
                                  clear H
                                  have p115 : 0 ≤ (x15_2 : Int) := of_decide_eq_true (by first | (with_reducible assumption) | assumption)
                                  have q115 : x15_2 < (t105.length : Int) := of_decide_eq_true (by first | (with_reducible assumption) | assumption)
                                  obtain ⟨ad115, A115_0, c115_0, A115_3, c115_3, e115, hx115_0, hx115_1, hx115_2, hx115_3, hl115_0, hi115_0, hl115_3, hi115_3⟩ := at_T38 (Kd.N_reads' HO_9.out).2.2 x15_2 p115 q115
                                  obtain rfl : ad113 = ad115 := (by injection e115)
                                  obtain ⟨ce115, hce115, hMe115, hcc115⟩ := Kd.N_get HO_9.out z38 x15_2 p115 (by first | exact q115 | exact of_decide_eq_true (by first | (with_reducible assumption) | assumption) | (have e_ := (Kd.N_reads' HO_9.out).1; omega))
                                  obtain ⟨ua115_0, uc115_0, ua115_3, uc115_3, rfl, ul115_0, ge115_0, ul115_3, ge115_3⟩ := k38_openF hMe115
                                  have hv115_0 := hcc115 0 _ rfl
                                  rw [Nat.add_zero] at hv115_0
                                  replace hv115_0 := Option.some.inj (hv115_0.symm.trans hx115_0)
                                  injection hv115_0 with hva_ hvn_ hvc_
                                  rw [hva_] at ge115_0
                                  rw [hvc_] at ul115_0
                                  have HL115_0 := Aside0.mk (show Kd.V k36 36 _ w.heap.size _ _ ((rd_T38 t105 x15_2).f0) from Kd.V_mk ul115_0 ge115_0)
                                  clear hva_ hvn_ hvc_ ge115_0 ul115_0
                                  have hv115_3 := hcc115 3 _ rfl
                                  rw [add_field _ _ 3 (by omega)] at hv115_3
                                  replace hv115_3 := Option.some.inj (hv115_3.symm.trans hx115_3)
                                  injection hv115_3 with hva_ hvn_ hvc_
                                  rw [hva_] at ge115_3
                                  rw [hvc_] at ul115_3
                                  have HL115_3 := Aside0.mk (show Kd.V k41 41 _ w.heap.size _ _ ((rd_T38 t105 x15_2).f2) from Kd.V_mk ul115_3 ge115_3)
                                  clear hva_ hvn_ hvc_ ge115_3 ul115_3
                                  clear hcc115 hce115
                                  have HR115_0 := Aside0.mk hi115_0
                                  have HC115_0 := Aside0.mk hl115_0
                                  clear hi115_0 hl115_0
                                  have HR115_3 := Aside0.mk hi115_3
                                  have HC115_3 := Aside0.mk hl115_3
                                  clear hi115_3 hl115_3
                                  replace p115 := eq_true p115
                                  replace q115 := eq_true q115
                                  have p116 : 0 ≤ (x15_2 : Int) := of_decide_eq_true (by first | (with_reducible assumption) | assumption)
                                  have q116 : x15_2 < (t105.length : Int) := of_decide_eq_true (by first | (with_reducible assumption) | assumption)
                                  obtain ⟨ad116, A116_0, c116_0, A116_3, c116_3, e116, hx116_0, hx116_1, hx116_2, hx116_3, hl116_0, hi116_0, hl116_3, hi116_3⟩ := at_T38 (Kd.N_reads' HO_9.out).2.2 x15_2 p116 q116
                                  obtain rfl : ad113 = ad116 := (by injection e116)
                                  obtain ⟨ce116, hce116, hMe116, hcc116⟩ := Kd.N_get HO_9.out z38 x15_2 p116 (by first | exact q116 | exact of_decide_eq_true (by first | (with_reducible assumption) | assumption) | (have e_ := (Kd.N_reads' HO_9.out).1; omega))
                                  obtain ⟨ua116_0, uc116_0, ua116_3, uc116_3, rfl, ul116_0, ge116_0, ul116_3, ge116_3⟩ := k38_openF hMe116
                                  have hv116_0 := hcc116 0 _ rfl
                                  rw [Nat.add_zero] at hv116_0
                                  replace hv116_0 := Option.some.inj (hv116_0.symm.trans hx116_0)
                                  injection hv116_0 with hva_ hvn_ hvc_
                                  rw [hva_] at ge116_0
                                  rw [hvc_] at ul116_0
                                  have HL116_0 := Aside0.mk (show Kd.V k36 36 _ w.heap.size _ _ ((rd_T38 t105 x15_2).f0) from Kd.V_mk ul116_0 ge116_0)
                                  clear hva_ hvn_ hvc_ ge116_0 ul116_0
                                  have hv116_3 := hcc116 3 _ rfl
                                  rw [add_field _ _ 3 (by omega)] at hv116_3
                                  replace hv116_3 := Option.some.inj (hv116_3.symm.trans hx116_3)
                                  injection hv116_3 with hva_ hvn_ hvc_
                                  rw [hva_] at ge116_3
                                  rw [hvc_] at ul116_3
                                  have HL116_3 := Aside0.mk (show Kd.V k41 41 _ w.heap.size _ _ ((rd_T38 t105 x15_2).f2) from Kd.V_mk ul116_3 ge116_3)
                                  clear hva_ hvn_ hvc_ ge116_3 ul116_3
                                  clear hcc116 hce116
                                  have HR116_0 := Aside0.mk hi116_0
                                  have HC116_0 := Aside0.mk hl116_0
                                  clear hi116_0 hl116_0
                                  have HR116_3 := Aside0.mk hi116_3
                                  have HC116_3 := Aside0.mk hl116_3
                                  clear hi116_3 hl116_3
                                  replace p116 := eq_true p116
                                  replace q116 := eq_true q116
                                  have ea_ := Option.some.inj (hx115_0.symm.trans hx116_0)
                                  injection ea_ with ea_ en_ ec_
                                  subst ea_
                                  subst ec_
                                  clear en_
                                  have ea_ := Option.some.inj (hx115_3.symm.trans hx116_3)
                                  injection ea_ with ea_ en_ ec_
                                  subst ea_
                                  subst ec_
                                  clear en_
                                  have p117 : 0 ≤ (x16_3 : Int) := of_decide_eq_true (by first | (with_reducible assumption) | assumption)
                                  have q117 : x16_3 < (((rd_T38 t105 x15_2).f2).length : Int) := of_decide_eq_true (by first | (with_reducible assumption) | assumption)
                                  obtain ⟨ad117, e117, hx117_0, hx117_1⟩ := at_T41 (by repeat (first | (with_reducible exact HR116_3.out) | (with_reducible refine Kd.C_alloc ?_ _) | (with_reducible refine Kd.C_drewN ?_ _) | (with_reducible refine Kd.C_drew ?_) | exact HR116_3.out)) x16_3 p117 q117
                                  cases e117
                                  replace p117 := eq_true p117
                                  replace q117 := eq_true q117
                                  go_wp2_with (first | (go_at_call 20; (with_reducible refine (sennitref21_Marked.calls k3 ((rd_T41 ((rd_T38 t105 x15_2).f2) x16_3).f0) ((rd_T41 ((rd_T38 t105 x15_2).f2) x16_3).f1) true _ A31.out).mono ?_); rintro e w33 ⟨rfl, hb⟩; have n0_ := Aside0.mk (Kd.N_below (by (with_reducible repeat (first | apply Kd.N_alloc | apply Kd.N_drewN | apply Kd.N_drew)); exact HO_9.out) hb); have n1_ := Aside0.mk (Kd.N_below (by (with_reducible repeat (first | apply Kd.N_alloc | apply Kd.N_drewN | apply Kd.N_drew)); exact HO_11.out) hb); have n2_ := Aside0.mk (Kd.V_below (by (with_reducible repeat (first | apply Kd.V_alloc | apply Kd.V_drewN | apply Kd.V_drew)); exact HL115_0.out) hb); have n3_ := Aside0.mk (Kd.V_below (by (with_reducible repeat (first | apply Kd.V_alloc | apply Kd.V_drewN | apply Kd.V_drew)); exact HL115_3.out) hb); have n4_ := Aside0.mk (Kd.V_below (by (with_reducible repeat (first | apply Kd.V_alloc | apply Kd.V_drewN | apply Kd.V_drew)); exact HL116_0.out) hb); have n5_ := Aside0.mk (Kd.V_below (by (with_reducible repeat (first | apply Kd.V_alloc | apply Kd.V_drewN | apply Kd.V_drew)); exact HL116_3.out) hb); have n6_ := Aside0.mk (blk_below (g := gb101) (o := .cells #[.int .u8 a1_0, .int .u8 a1_1] 47 (0, 0)) (by (with_reducible repeat (first | refine blk_drewN ?_ _ | refine blk_drew ?_ | refine blk_alloc ?_ _)); exact BK101.out) hb); have n7_ := Aside0.mk (Kd.C_below (by repeat (first | (with_reducible exact HR113_0.out) | (with_reducible refine Kd.C_alloc ?_ _) | (with_reducible refine Kd.C_drewN ?_ _) | (with_reducible refine Kd.C_drew ?_) | exact HR113_0.out)) hb); have n8_ := Aside0.mk (Kd.C_below (by repeat (first | (with_reducible exact HR113_3.out) | (with_reducible refine Kd.C_alloc ?_ _) | (with_reducible refine Kd.C_drewN ?_ _) | (with_reducible refine Kd.C_drew ?_) | exact HR113_3.out)) hb); have n9_ := Aside0.mk (Kd.C_below (by repeat (first | (with_reducible exact HR114_0.out) | (with_reducible refine Kd.C_alloc ?_ _) | (with_reducible refine Kd.C_drewN ?_ _) | (with_reducible refine Kd.C_drew ?_) | exact HR114_0.out)) hb); have n10_ := Aside0.mk (Kd.C_below (by repeat (first | (with_reducible exact HR114_3.out) | (with_reducible refine Kd.C_alloc ?_ _) | (with_reducible refine Kd.C_drewN ?_ _) | (with_reducible refine Kd.C_drew ?_) | exact HR114_3.out)) hb); have n11_ := Aside0.mk (Kd.C_below (by repeat (first | (with_reducible exact HR115_0.out) | (with_reducible refine Kd.C_alloc ?_ _) | (with_reducible refine Kd.C_drewN ?_ _) | (with_reducible refine Kd.C_drew ?_) | exact HR115_0.out)) hb); have n12_ := Aside0.mk (Kd.C_below (by repeat (first | (with_reducible exact HR115_3.out) | (with_reducible refine Kd.C_alloc ?_ _) | (with_reducible refine Kd.C_drewN ?_ _) | (with_reducible refine Kd.C_drew ?_) | exact HR115_3.out)) hb); have n13_ := Aside0.mk (Kd.C_below (by repeat (first | (with_reducible exact HR116_0.out) | (with_reducible refine Kd.C_alloc ?_ _) | (with_reducible refine Kd.C_drewN ?_ _) | (with_reducible refine Kd.C_drew ?_) | exact HR116_0.out)) hb); have n14_ := Aside0.mk (Kd.C_below (by repeat (first | (with_reducible exact HR116_3.out) | (with_reducible refine Kd.C_alloc ?_ _) | (with_reducible refine Kd.C_drewN ?_ _) | (with_reducible refine Kd.C_drew ?_) | exact HR116_3.out)) hb); have n15_ := Aside0.mk (below_step (by repeat (first | (with_reducible first | exact HB.out | apply below_alloc | apply pw_below_drewN | apply below_drew1 | refine below_set ?_ GE101.out) | exact HB.out)) hb); clear HO_9; clear HO_11; clear HL115_0; clear HL115_3; clear HL116_0; clear HL116_3; clear BK101; clear HR113_0; clear HR113_3; clear HR114_0; clear HR114_3; clear HR115_0; clear HR115_3; clear HR116_0; clear HR116_3; clear HB; have HO_9 := n0_; have HO_11 := n1_; have HL115_0 := n2_; have HL115_3 := n3_; have HL116_0 := n4_; have HL116_3 := n5_; have BK101 := n6_; have HR113_0 := n7_; have HR113_3 := n8_; have HR114_0 := n9_; have HR114_3 := n10_; have HR115_0 := n11_; have HR115_3 := n12_; have HR116_0 := n13_; have HR116_3 := n14_; have HB := n15_; clear n0_ n1_ n2_ n3_ n4_ n5_ n6_ n7_ n8_ n9_ n10_ n11_ n12_ n13_ n14_ n15_; (try clear hb); (try clear hb2); (try clear hk); (try clear hi)))
                                  go_meet
                                  case rel => exact ⟨_, (x16_3), (by first | rfl | (simp; done) | (simp [*]; done)), H', ⟨by have := HJ4.out; have := HK2.out; have := HK3.out; first | omega | exact Nat.le_refl _⟩, ⟨by (with_reducible repeat (first | apply Kd.N_alloc | apply Kd.N_drewN | apply Kd.N_drew)); exact HO_9.out⟩, ⟨by (with_reducible repeat (first | apply Kd.N_alloc | apply Kd.N_drewN | apply Kd.N_drew)); exact HO_11.out⟩, ⟨by (with_reducible repeat (first | refine blk_drewN ?_ _ | refine blk_drew ?_ | refine blk_alloc ?_ _)); exact BK101.out⟩, ⟨by repeat (first | (with_reducible exact HR113_0.out) | (with_reducible refine Kd.C_alloc ?_ _) | (with_reducible refine Kd.C_drewN ?_ _) | (with_reducible refine Kd.C_drew ?_) | exact HR113_0.out)⟩, ⟨by repeat (first | (with_reducible exact HR113_3.out) | (with_reducible refine Kd.C_alloc ?_ _) | (with_reducible refine Kd.C_drewN ?_ _) | (with_reducible refine Kd.C_drew ?_) | exact HR113_3.out)⟩, ⟨by repeat (first | (with_reducible exact HR114_0.out) | (with_reducible refine Kd.C_alloc ?_ _) | (with_reducible refine Kd.C_drewN ?_ _) | (with_reducible refine Kd.C_drew ?_) | exact HR114_0.out)⟩, ⟨by repeat (first | (with_reducible exact HR114_3.out) | (with_reducible refine Kd.C_alloc ?_ _) | (with_reducible refine Kd.C_drewN ?_ _) | (with_reducible refine Kd.C_drew ?_) | exact HR114_3.out)⟩, ⟨by repeat (first | (with_reducible first | exact HB.out | apply below_alloc | apply pw_below_drewN | apply below_drew1 | refine below_set ?_ GE101.out) | exact HB.out)⟩⟩
                                · replace c32 := Bool.eq_false_iff.mpr c32
                                  subst c32
                                  have H1 : (sennitlaw21_HunkContext.l1 k3 t102 (wrap64 (ji13)) t105 t109 (wrap64 (x13_2 + (((rd_T38 t105 x15_2).f2).length : Int))) 0 x15_2 (wrap64 (x16_3 + 1))) = some r := by rw [if_neg (show ¬ (false = true) by decide)] at H; exact H
                                  clear H
                                  have H := H1
                                  clear H1
                                  have H' := Aside0.mk H
                                  clear H
                                  have p115 : 0 ≤ (x15_2 : Int) := of_decide_eq_true (by first | (with_reducible assumption) | assumption)
                                  have q115 : x15_2 < (t105.length : Int) := of_decide_eq_true (by first | (with_reducible assumption) | assumption)
                                  obtain ⟨ad115, A115_0, c115_0, A115_3, c115_3, e115, hx115_0, hx115_1, hx115_2, hx115_3, hl115_0, hi115_0, hl115_3, hi115_3⟩ := at_T38 (Kd.N_reads' HO_9.out).2.2 x15_2 p115 q115
                                  obtain rfl : ad113 = ad115 := (by injection e115)
                                  obtain ⟨ce115, hce115, hMe115, hcc115⟩ := Kd.N_get HO_9.out z38 x15_2 p115 (by first | exact q115 | exact of_decide_eq_true (by first | (with_reducible assumption) | assumption) | (have e_ := (Kd.N_reads' HO_9.out).1; omega))
                                  obtain ⟨ua115_0, uc115_0, ua115_3, uc115_3, rfl, ul115_0, ge115_0, ul115_3, ge115_3⟩ := k38_openF hMe115
                                  have hv115_0 := hcc115 0 _ rfl
                                  rw [Nat.add_zero] at hv115_0
                                  replace hv115_0 := Option.some.inj (hv115_0.symm.trans hx115_0)
                                  injection hv115_0 with hva_ hvn_ hvc_
                                  rw [hva_] at ge115_0
                                  rw [hvc_] at ul115_0
                                  have HL115_0 := Aside0.mk (show Kd.V k36 36 _ w.heap.size _ _ ((rd_T38 t105 x15_2).f0) from Kd.V_mk ul115_0 ge115_0)
                                  clear hva_ hvn_ hvc_ ge115_0 ul115_0
                                  have hv115_3 := hcc115 3 _ rfl
                                  rw [add_field _ _ 3 (by omega)] at hv115_3
                                  replace hv115_3 := Option.some.inj (hv115_3.symm.trans hx115_3)
                                  injection hv115_3 with hva_ hvn_ hvc_
                                  rw [hva_] at ge115_3
                                  rw [hvc_] at ul115_3
                                  have HL115_3 := Aside0.mk (show Kd.V k41 41 _ w.heap.size _ _ ((rd_T38 t105 x15_2).f2) from Kd.V_mk ul115_3 ge115_3)
                                  clear hva_ hvn_ hvc_ ge115_3 ul115_3
                                  clear hcc115 hce115
                                  have HR115_0 := Aside0.mk hi115_0
                                  have HC115_0 := Aside0.mk hl115_0
                                  clear hi115_0 hl115_0
                                  have HR115_3 := Aside0.mk hi115_3
                                  have HC115_3 := Aside0.mk hl115_3
                                  clear hi115_3 hl115_3
                                  replace p115 := eq_true p115
                                  replace q115 := eq_true q115
                                  have p116 : 0 ≤ (x15_2 : Int) := of_decide_eq_true (by first | (with_reducible assumption) | assumption)
                                  have q116 : x15_2 < (t105.length : Int) := of_decide_eq_true (by first | (with_reducible assumption) | assumption)
                                  obtain ⟨ad116, A116_0, c116_0, A116_3, c116_3, e116, hx116_0, hx116_1, hx116_2, hx116_3, hl116_0, hi116_0, hl116_3, hi116_3⟩ := at_T38 (Kd.N_reads' HO_9.out).2.2 x15_2 p116 q116
                                  obtain rfl : ad113 = ad116 := (by injection e116)
                                  obtain ⟨ce116, hce116, hMe116, hcc116⟩ := Kd.N_get HO_9.out z38 x15_2 p116 (by first | exact q116 | exact of_decide_eq_true (by first | (with_reducible assumption) | assumption) | (have e_ := (Kd.N_reads' HO_9.out).1; omega))
                                  obtain ⟨ua116_0, uc116_0, ua116_3, uc116_3, rfl, ul116_0, ge116_0, ul116_3, ge116_3⟩ := k38_openF hMe116
                                  have hv116_0 := hcc116 0 _ rfl
                                  rw [Nat.add_zero] at hv116_0
                                  replace hv116_0 := Option.some.inj (hv116_0.symm.trans hx116_0)
                                  injection hv116_0 with hva_ hvn_ hvc_
                                  rw [hva_] at ge116_0
                                  rw [hvc_] at ul116_0
                                  have HL116_0 := Aside0.mk (show Kd.V k36 36 _ w.heap.size _ _ ((rd_T38 t105 x15_2).f0) from Kd.V_mk ul116_0 ge116_0)
                                  clear hva_ hvn_ hvc_ ge116_0 ul116_0
                                  have hv116_3 := hcc116 3 _ rfl
                                  rw [add_field _ _ 3 (by omega)] at hv116_3
                                  replace hv116_3 := Option.some.inj (hv116_3.symm.trans hx116_3)
                                  injection hv116_3 with hva_ hvn_ hvc_
                                  rw [hva_] at ge116_3
                                  rw [hvc_] at ul116_3
                                  have HL116_3 := Aside0.mk (show Kd.V k41 41 _ w.heap.size _ _ ((rd_T38 t105 x15_2).f2) from Kd.V_mk ul116_3 ge116_3)
                                  clear hva_ hvn_ hvc_ ge116_3 ul116_3
                                  clear hcc116 hce116
                                  have HR116_0 := Aside0.mk hi116_0
                                  have HC116_0 := Aside0.mk hl116_0
                                  clear hi116_0 hl116_0
                                  have HR116_3 := Aside0.mk hi116_3
                                  have HC116_3 := Aside0.mk hl116_3
                                  clear hi116_3 hl116_3
                                  replace p116 := eq_true p116
                                  replace q116 := eq_true q116
                                  have ea_ := Option.some.inj (hx115_0.symm.trans hx116_0)
                                  injection ea_ with ea_ en_ ec_
                                  subst ea_
                                  subst ec_
                                  clear en_
                                  have ea_ := Option.some.inj (hx115_3.symm.trans hx116_3)
                                  injection ea_ with ea_ en_ ec_
                                  subst ea_
                                  subst ec_
                                  clear en_
                                  have p117 : 0 ≤ (x16_3 : Int) := of_decide_eq_true (by first | (with_reducible assumption) | assumption)
                                  have q117 : x16_3 < (((rd_T38 t105 x15_2).f2).length : Int) := of_decide_eq_true (by first | (with_reducible assumption) | assumption)
                                  obtain ⟨ad117, e117, hx117_0, hx117_1⟩ := at_T41 (by repeat (first | (with_reducible exact HR116_3.out) | (with_reducible refine Kd.C_alloc ?_ _) | (with_reducible refine Kd.C_drewN ?_ _) | (with_reducible refine Kd.C_drew ?_) | exact HR116_3.out)) x16_3 p117 q117
                                  cases e117
                                  replace p117 := eq_true p117
                                  replace q117 := eq_true q117
                                  go_wp2_with (first | (go_at_call 20; (with_reducible refine (sennitref21_Marked.calls k3 ((rd_T41 ((rd_T38 t105 x15_2).f2) x16_3).f0) ((rd_T41 ((rd_T38 t105 x15_2).f2) x16_3).f1) false _ A31.out).mono ?_); rintro e w34 ⟨rfl, hb⟩; have n0_ := Aside0.mk (Kd.N_below (by (with_reducible repeat (first | apply Kd.N_alloc | apply Kd.N_drewN | apply Kd.N_drew)); exact HO_9.out) hb); have n1_ := Aside0.mk (Kd.N_below (by (with_reducible repeat (first | apply Kd.N_alloc | apply Kd.N_drewN | apply Kd.N_drew)); exact HO_11.out) hb); have n2_ := Aside0.mk (Kd.V_below (by (with_reducible repeat (first | apply Kd.V_alloc | apply Kd.V_drewN | apply Kd.V_drew)); exact HL115_0.out) hb); have n3_ := Aside0.mk (Kd.V_below (by (with_reducible repeat (first | apply Kd.V_alloc | apply Kd.V_drewN | apply Kd.V_drew)); exact HL115_3.out) hb); have n4_ := Aside0.mk (Kd.V_below (by (with_reducible repeat (first | apply Kd.V_alloc | apply Kd.V_drewN | apply Kd.V_drew)); exact HL116_0.out) hb); have n5_ := Aside0.mk (Kd.V_below (by (with_reducible repeat (first | apply Kd.V_alloc | apply Kd.V_drewN | apply Kd.V_drew)); exact HL116_3.out) hb); have n6_ := Aside0.mk (blk_below (g := gb101) (o := .cells #[.int .u8 a1_0, .int .u8 a1_1] 47 (0, 0)) (by (with_reducible repeat (first | refine blk_drewN ?_ _ | refine blk_drew ?_ | refine blk_alloc ?_ _)); exact BK101.out) hb); have n7_ := Aside0.mk (Kd.C_below (by repeat (first | (with_reducible exact HR113_0.out) | (with_reducible refine Kd.C_alloc ?_ _) | (with_reducible refine Kd.C_drewN ?_ _) | (with_reducible refine Kd.C_drew ?_) | exact HR113_0.out)) hb); have n8_ := Aside0.mk (Kd.C_below (by repeat (first | (with_reducible exact HR113_3.out) | (with_reducible refine Kd.C_alloc ?_ _) | (with_reducible refine Kd.C_drewN ?_ _) | (with_reducible refine Kd.C_drew ?_) | exact HR113_3.out)) hb); have n9_ := Aside0.mk (Kd.C_below (by repeat (first | (with_reducible exact HR114_0.out) | (with_reducible refine Kd.C_alloc ?_ _) | (with_reducible refine Kd.C_drewN ?_ _) | (with_reducible refine Kd.C_drew ?_) | exact HR114_0.out)) hb); have n10_ := Aside0.mk (Kd.C_below (by repeat (first | (with_reducible exact HR114_3.out) | (with_reducible refine Kd.C_alloc ?_ _) | (with_reducible refine Kd.C_drewN ?_ _) | (with_reducible refine Kd.C_drew ?_) | exact HR114_3.out)) hb); have n11_ := Aside0.mk (Kd.C_below (by repeat (first | (with_reducible exact HR115_0.out) | (with_reducible refine Kd.C_alloc ?_ _) | (with_reducible refine Kd.C_drewN ?_ _) | (with_reducible refine Kd.C_drew ?_) | exact HR115_0.out)) hb); have n12_ := Aside0.mk (Kd.C_below (by repeat (first | (with_reducible exact HR115_3.out) | (with_reducible refine Kd.C_alloc ?_ _) | (with_reducible refine Kd.C_drewN ?_ _) | (with_reducible refine Kd.C_drew ?_) | exact HR115_3.out)) hb); have n13_ := Aside0.mk (Kd.C_below (by repeat (first | (with_reducible exact HR116_0.out) | (with_reducible refine Kd.C_alloc ?_ _) | (with_reducible refine Kd.C_drewN ?_ _) | (with_reducible refine Kd.C_drew ?_) | exact HR116_0.out)) hb); have n14_ := Aside0.mk (Kd.C_below (by repeat (first | (with_reducible exact HR116_3.out) | (with_reducible refine Kd.C_alloc ?_ _) | (with_reducible refine Kd.C_drewN ?_ _) | (with_reducible refine Kd.C_drew ?_) | exact HR116_3.out)) hb); have n15_ := Aside0.mk (below_step (by repeat (first | (with_reducible first | exact HB.out | apply below_alloc | apply pw_below_drewN | apply below_drew1 | refine below_set ?_ GE101.out) | exact HB.out)) hb); clear HO_9; clear HO_11; clear HL115_0; clear HL115_3; clear HL116_0; clear HL116_3; clear BK101; clear HR113_0; clear HR113_3; clear HR114_0; clear HR114_3; clear HR115_0; clear HR115_3; clear HR116_0; clear HR116_3; clear HB; have HO_9 := n0_; have HO_11 := n1_; have HL115_0 := n2_; have HL115_3 := n3_; have HL116_0 := n4_; have HL116_3 := n5_; have BK101 := n6_; have HR113_0 := n7_; have HR113_3 := n8_; have HR114_0 := n9_; have HR114_3 := n10_; have HR115_0 := n11_; have HR115_3 := n12_; have HR116_0 := n13_; have HR116_3 := n14_; have HB := n15_; clear n0_ n1_ n2_ n3_ n4_ n5_ n6_ n7_ n8_ n9_ n10_ n11_ n12_ n13_ n14_ n15_; (try clear hb); (try clear hb2); (try clear hk); (try clear hi)))
                                  go_roundg k3
                                  case measure => have := HJ4.out; have := HK2.out; have := HK3.out; omega
                                  case rel => exact ⟨(wrap64 (x16_3 + 1)), (by first | rfl | (simp; done) | (simp [*]; done)), H', ⟨by have := HJ4.out; have := HK2.out; have := HK3.out; omega⟩, ⟨by (with_reducible repeat (first | apply Kd.N_alloc | apply Kd.N_drewN | apply Kd.N_drew)); exact HO_9.out⟩, ⟨by (with_reducible repeat (first | apply Kd.N_alloc | apply Kd.N_drewN | apply Kd.N_drew)); exact HO_11.out⟩, ⟨by (with_reducible repeat (first | refine blk_drewN ?_ _ | refine blk_drew ?_ | refine blk_alloc ?_ _)); exact BK101.out⟩, ⟨by repeat (first | (with_reducible exact HR113_0.out) | (with_reducible refine Kd.C_alloc ?_ _) | (with_reducible refine Kd.C_drewN ?_ _) | (with_reducible refine Kd.C_drew ?_) | exact HR113_0.out)⟩, ⟨by repeat (first | (with_reducible exact HR113_3.out) | (with_reducible refine Kd.C_alloc ?_ _) | (with_reducible refine Kd.C_drewN ?_ _) | (with_reducible refine Kd.C_drew ?_) | exact HR113_3.out)⟩, ⟨by repeat (first | (with_reducible exact HR114_0.out) | (with_reducible refine Kd.C_alloc ?_ _) | (with_reducible refine Kd.C_drewN ?_ _) | (with_reducible refine Kd.C_drew ?_) | exact HR114_0.out)⟩, ⟨by repeat (first | (with_reducible exact HR114_3.out) | (with_reducible refine Kd.C_alloc ?_ _) | (with_reducible refine Kd.C_drewN ?_ _) | (with_reducible refine Kd.C_drew ?_) | exact HR114_3.out)⟩, ⟨by repeat (first | (with_reducible first | exact HB.out | apply below_alloc | apply pw_below_drewN | apply below_drew1 | refine below_set ?_ GE101.out) | exact HB.out)⟩⟩
                              · rw [if_neg c30] at H
                                exact absurd H (by simp)
                            · rw [if_neg c29] at H
                              have c29b0 : decide (x16_3 < (((rd_T38 t105 x15_2).f2).length : Int)) = false := decide_eq_false c29
                              clear c29
                              have H' := Aside0.mk H
                              clear H
                              have p115 : 0 ≤ (x15_2 : Int) := of_decide_eq_true (by first | (with_reducible assumption) | assumption)
                              have q115 : x15_2 < (t105.length : Int) := of_decide_eq_true (by first | (with_reducible assumption) | assumption)
                              obtain ⟨ad115, A115_0, c115_0, A115_3, c115_3, e115, hx115_0, hx115_1, hx115_2, hx115_3, hl115_0, hi115_0, hl115_3, hi115_3⟩ := at_T38 (Kd.N_reads' HO_9.out).2.2 x15_2 p115 q115
                              obtain rfl : ad113 = ad115 := (by injection e115)
                              obtain ⟨ce115, hce115, hMe115, hcc115⟩ := Kd.N_get HO_9.out z38 x15_2 p115 (by first | exact q115 | exact of_decide_eq_true (by first | (with_reducible assumption) | assumption) | (have e_ := (Kd.N_reads' HO_9.out).1; omega))
                              obtain ⟨ua115_0, uc115_0, ua115_3, uc115_3, rfl, ul115_0, ge115_0, ul115_3, ge115_3⟩ := k38_openF hMe115
                              have hv115_0 := hcc115 0 _ rfl
                              rw [Nat.add_zero] at hv115_0
                              replace hv115_0 := Option.some.inj (hv115_0.symm.trans hx115_0)
                              injection hv115_0 with hva_ hvn_ hvc_
                              rw [hva_] at ge115_0
                              rw [hvc_] at ul115_0
                              have HL115_0 := Aside0.mk (show Kd.V k36 36 _ w.heap.size _ _ ((rd_T38 t105 x15_2).f0) from Kd.V_mk ul115_0 ge115_0)
                              clear hva_ hvn_ hvc_ ge115_0 ul115_0
                              have hv115_3 := hcc115 3 _ rfl
                              rw [add_field _ _ 3 (by omega)] at hv115_3
                              replace hv115_3 := Option.some.inj (hv115_3.symm.trans hx115_3)
                              injection hv115_3 with hva_ hvn_ hvc_
                              rw [hva_] at ge115_3
                              rw [hvc_] at ul115_3
                              have HL115_3 := Aside0.mk (show Kd.V k41 41 _ w.heap.size _ _ ((rd_T38 t105 x15_2).f2) from Kd.V_mk ul115_3 ge115_3)
                              clear hva_ hvn_ hvc_ ge115_3 ul115_3
                              clear hcc115 hce115
                              have HR115_0 := Aside0.mk hi115_0
                              have HC115_0 := Aside0.mk hl115_0
                              clear hi115_0 hl115_0
                              have HR115_3 := Aside0.mk hi115_3
                              have HC115_3 := Aside0.mk hl115_3
                              clear hi115_3 hl115_3
                              replace p115 := eq_true p115
                              replace q115 := eq_true q115
                              go_wp2
                              go_meet
                              case rel => exact ⟨_, (x16_3), (by first | rfl | (simp; done) | (simp [*]; done)), H', ⟨by have := HJ4.out; have := HK2.out; have := HK3.out; first | omega | exact Nat.le_refl _⟩, ⟨by (with_reducible repeat (first | apply Kd.N_alloc | apply Kd.N_drewN | apply Kd.N_drew)); exact HO_9.out⟩, ⟨by (with_reducible repeat (first | apply Kd.N_alloc | apply Kd.N_drewN | apply Kd.N_drew)); exact HO_11.out⟩, ⟨by (with_reducible repeat (first | refine blk_drewN ?_ _ | refine blk_drew ?_ | refine blk_alloc ?_ _)); exact BK101.out⟩, ⟨by repeat (first | (with_reducible exact HR113_0.out) | (with_reducible refine Kd.C_alloc ?_ _) | (with_reducible refine Kd.C_drewN ?_ _) | (with_reducible refine Kd.C_drew ?_) | exact HR113_0.out)⟩, ⟨by repeat (first | (with_reducible exact HR113_3.out) | (with_reducible refine Kd.C_alloc ?_ _) | (with_reducible refine Kd.C_drewN ?_ _) | (with_reducible refine Kd.C_drew ?_) | exact HR113_3.out)⟩, ⟨by repeat (first | (with_reducible exact HR114_0.out) | (with_reducible refine Kd.C_alloc ?_ _) | (with_reducible refine Kd.C_drewN ?_ _) | (with_reducible refine Kd.C_drew ?_) | exact HR114_0.out)⟩, ⟨by repeat (first | (with_reducible exact HR114_3.out) | (with_reducible refine Kd.C_alloc ?_ _) | (with_reducible refine Kd.C_drewN ?_ _) | (with_reducible refine Kd.C_drew ?_) | exact HR114_3.out)⟩, ⟨by repeat (first | (with_reducible first | exact HB.out | apply below_alloc | apply pw_below_drewN | apply below_drew1 | refine below_set ?_ GE101.out) | exact HB.out)⟩⟩
                          · rw [if_neg c28] at H
                            exact absurd H (by simp)
                        · rw [if_neg c27] at H
                          exact absurd H (by simp)
                  case rest =>
                    clear HC25
                    try clear c1
                    try clear p1
                    try clear q1
                    try clear hx1
                    try clear c2
                    try clear p2
                    try clear c3
                    try clear p6
                    try clear c7
                    try clear c9
                    try clear c10
                    try clear c11
                    try clear p11
                    try clear q11
                    try clear hx11
                    try clear c12
                    try clear c21
                    try clear c21b0
                    try clear c22
                    try clear c22b0
                    try clear c23
                    try clear c23b0
                    try clear c23b1
                    try clear c23b2
                    try clear c27
                    try clear c27b0
                    try clear c28
                    try clear c28b0
                    try clear c29
                    try clear c29b0
                    try clear c30
                    try clear c30b0
                    try clear c32
                    try clear hcz17_0
                    try clear hcz17_1
                    try clear hcz19_0
                    try clear hcz19_1
                    try clear hfz17_0
                    try clear hfz17_1
                    try clear hfz19_0
                    try clear hfz19_1
                    try clear hx113_0
                    try clear hx113_1
                    try clear hx113_2
                    try clear hx113_3
                    try clear hx114_0
                    try clear hx114_1
                    try clear hx114_2
                    try clear hx114_3
                    try clear hx115_0
                    try clear hx115_1
                    try clear hx115_2
                    try clear hx115_3
                    try clear hx116_0
                    try clear hx116_1
                    try clear hx116_2
                    try clear hx116_3
                    try clear hx117_0
                    try clear hx117_1
                    try clear p1
                    try clear p11
                    try clear p113
                    try clear p114
                    try clear p115
                    try clear p116
                    try clear p117
                    try clear p2
                    try clear p6
                    try clear q1
                    try clear q11
                    try clear q113
                    try clear q114
                    try clear q115
                    try clear q116
                    try clear q117
                    obtain ⟨kq, x16_24, rfl, HA, HJ24, HO_9, HO_11, BK101, HR113_0, HR113_3, HR114_0, HR114_3, HB⟩ := hcut
                    cases kq with
                    | zero => exact absurd HA.out (by simp [sennitlaw21_HunkContext.j3])
                    | succ kj24 =>
                      have H := HA.out
                      clear HA
                      simp only [sennitlaw21_HunkContext.j3] at H
                      have H' := Aside0.mk H
                      clear H
                      go_wp2
                      go_loopg [17] kj24 (fun kq v17 w' => ∃ (x17_4 : Int), v17 = .int .i64 x17_4 ∧ Aside0 (sennitlaw21_HunkContext.l2 kq t102 (wrap64 (ji13)) t105 t109 (wrap64 (x13_2 + (((rd_T38 t105 x15_2).f2).length : Int))) 0 x15_2 x16_24 x17_4 = some r) ∧ Aside0 (kq ≤ kj24) ∧ Aside0 (Kd.N k38 38 w' w.heap.size (fun k_ => some k_ ≠ (v110 : Value).ownBlock ∧ k_ ≠ gb101) (.slice (some ad113) t105.length co26) t105) ∧ Aside0 (Kd.N k38 38 w' w.heap.size (fun k_ => some k_ ≠ ((.slice (some ad113) t105.length co26) : Value).ownBlock ∧ k_ ≠ gb101) v110 t109) ∧ Aside0 (w'.heap[gb101]? = some (.cells #[.int .u8 a1_0, .int .u8 a1_1] 47 (0, 0))) ∧ Aside0 (Kd.C k36 w' A113_0 ((rd_T38 t105 x15_2).f0).length ((rd_T38 t105 x15_2).f0)) ∧ Aside0 (Kd.C k41 w' A113_3 ((rd_T38 t105 x15_2).f2).length ((rd_T38 t105 x15_2).f2)) ∧ Aside0 (Kd.C k36 w' A113_0 ((rd_T38 t105 x15_2).f0).length ((rd_T38 t105 x15_2).f0)) ∧ Aside0 (Kd.C k41 w' A113_3 ((rd_T38 t105 x15_2).f2).length ((rd_T38 t105 x15_2).f2)) ∧ Aside0 (Below w.heap.size w w'))
                      case atStart => exact ⟨(0), (by first | rfl | (simp; done) | (simp [*]; done)), H', ⟨Nat.le_refl _⟩, ⟨by (with_reducible repeat (first | apply Kd.N_alloc | apply Kd.N_drewN | apply Kd.N_drew)); exact HO_9.out⟩, ⟨by (with_reducible repeat (first | apply Kd.N_alloc | apply Kd.N_drewN | apply Kd.N_drew)); exact HO_11.out⟩, ⟨by (with_reducible repeat (first | refine blk_drewN ?_ _ | refine blk_drew ?_ | refine blk_alloc ?_ _)); exact BK101.out⟩, ⟨by repeat (first | (with_reducible exact HR113_0.out) | (with_reducible refine Kd.C_alloc ?_ _) | (with_reducible refine Kd.C_drewN ?_ _) | (with_reducible refine Kd.C_drew ?_) | exact HR113_0.out)⟩, ⟨by repeat (first | (with_reducible exact HR113_3.out) | (with_reducible refine Kd.C_alloc ?_ _) | (with_reducible refine Kd.C_drewN ?_ _) | (with_reducible refine Kd.C_drew ?_) | exact HR113_3.out)⟩, ⟨by repeat (first | (with_reducible exact HR114_0.out) | (with_reducible refine Kd.C_alloc ?_ _) | (with_reducible refine Kd.C_drewN ?_ _) | (with_reducible refine Kd.C_drew ?_) | exact HR114_0.out)⟩, ⟨by repeat (first | (with_reducible exact HR114_3.out) | (with_reducible refine Kd.C_alloc ?_ _) | (with_reducible refine Kd.C_drewN ?_ _) | (with_reducible refine Kd.C_drew ?_) | exact HR114_3.out)⟩, ⟨by repeat (first | (with_reducible first | exact HB.out | apply below_alloc | apply pw_below_drewN | apply below_drew1 | refine below_set ?_ GE101.out) | exact HB.out)⟩⟩
                      case round =>
                        clear H'
                        try clear c1
                        try clear p1
                        try clear q1
                        try clear hx1
                        try clear c2
                        try clear p2
                        try clear c3
                        try clear p6
                        try clear c7
                        try clear c9
                        try clear c10
                        try clear c11
                        try clear p11
                        try clear q11
                        try clear hx11
                        try clear c12
                        try clear c21
                        try clear c21b0
                        try clear c22
                        try clear c22b0
                        try clear c23
                        try clear c23b0
                        try clear c23b1
                        try clear c23b2
                        try clear c27
                        try clear c27b0
                        try clear c28
                        try clear c28b0
                        try clear c29
                        try clear c29b0
                        try clear c30
                        try clear c30b0
                        try clear c32
                        try clear hcz17_0
                        try clear hcz17_1
                        try clear hcz19_0
                        try clear hcz19_1
                        try clear hfz17_0
                        try clear hfz17_1
                        try clear hfz19_0
                        try clear hfz19_1
                        try clear hx113_0
                        try clear hx113_1
                        try clear hx113_2
                        try clear hx113_3
                        try clear hx114_0
                        try clear hx114_1
                        try clear hx114_2
                        try clear hx114_3
                        try clear hx115_0
                        try clear hx115_1
                        try clear hx115_2
                        try clear hx115_3
                        try clear hx116_0
                        try clear hx116_1
                        try clear hx116_2
                        try clear hx116_3
                        try clear hx117_0
                        try clear hx117_1
                        try clear p1
                        try clear p11
                        try clear p113
                        try clear p114
                        try clear p115
                        try clear p116
                        try clear p117
                        try clear p2
                        try clear p6
                        try clear q1
                        try clear q11
                        try clear q113
                        try clear q114
                        try clear q115
                        try clear q116
                        try clear q117
                        obtain ⟨x17_4, rfl, HA, HK4, HO_9, HO_11, BK101, HR113_0, HR113_3, HR114_0, HR114_3, HB⟩ := hrel
                        cases gk with
                        | zero => exact absurd HA.out (by simp [sennitlaw21_HunkContext.l2])
                        | succ k4 =>
                          have H := HA.out
                          clear HA
                          simp only [sennitlaw21_HunkContext.l2] at H
                          by_cases c35 : 0 ≤ x15_2
                          · rw [if_pos c35] at H
                            have c35b0 : decide (0 ≤ x15_2) = true := decide_eq_true c35
                            clear c35
                            by_cases c36 : x15_2 < (t105.length : Int)
                            · rw [if_pos c36] at H
                              have c36b0 : decide (x15_2 < (t105.length : Int)) = true := decide_eq_true c36
                              clear c36
                              by_cases c37 : x17_4 < (((rd_T38 t105 x15_2).f2).length : Int)
                              · rw [if_pos c37] at H
                                have c37b0 : decide (x17_4 < (((rd_T38 t105 x15_2).f2).length : Int)) = true := decide_eq_true c37
                                clear c37
                                obtain ⟨ji38, hji38⟩ : ∃ j_ : Int, (wrap64 ((wrap64 ((((rd_T38 t105 x15_2).f2).length : Int) - 1)) - x17_4)) = j_ := ⟨_, rfl⟩
                                replace H : (if 0 ≤ (ji38) then (if (ji38) < (((rd_T38 t105 x15_2).f2).length : Int) then ((sennitref21_Marked.f k4 ((rd_T41 ((rd_T38 t105 x15_2).f2) (ji38)).f0) ((rd_T41 ((rd_T38 t105 x15_2).f2) (ji38)).f1)).bind fun t123 => (if t123 = true then (if x16_24 > (wrap64 (ji13)) then (some false) else (if x17_4 > (wrap64 (ji13)) then (some false) else (if x16_24 = (((rd_T38 t105 x15_2).f2).length : Int) then (some false) else (sennitlaw21_HunkContext.l0 k4 t102 (wrap64 (ji13)) t105 t109 (wrap64 (x13_2 + (((rd_T38 t105 x15_2).f2).length : Int))) 0 (wrap64 (x15_2 + 1)))))) else (sennitlaw21_HunkContext.l2 k4 t102 (wrap64 (ji13)) t105 t109 (wrap64 (x13_2 + (((rd_T38 t105 x15_2).f2).length : Int))) 0 x15_2 x16_24 (wrap64 (x17_4 + 1))))) else (none)) else (none)) = some r := by first | (rw [hji38] at H; exact H) | (simp only [hji38] at H ⊢; exact H)
                                have hji38w : (IntKind.i64.wrap ((wrap64 ((((rd_T38 t105 x15_2).f2).length : Int) - 1)) - x17_4)) = ji38 := (i64_w _).trans hji38
                                by_cases c39 : 0 ≤ (ji38)
                                · rw [if_pos c39] at H
                                  have c39b0 : decide (0 ≤ (ji38)) = true := decide_eq_true c39
                                  clear c39
                                  by_cases c40 : (ji38) < (((rd_T38 t105 x15_2).f2).length : Int)
                                  · rw [if_pos c40] at H
                                    have c40b0 : decide ((ji38) < (((rd_T38 t105 x15_2).f2).length : Int)) = true := decide_eq_true c40
                                    clear c40
                                    replace H := Option.bind_eq_some_iff.mp H
                                    obtain ⟨t123, A410, H⟩ := H
                                    replace H : (if t123 = true then (if x16_24 > (wrap64 (ji13)) then (some false) else (if x17_4 > (wrap64 (ji13)) then (some false) else (if x16_24 = (((rd_T38 t105 x15_2).f2).length : Int) then (some false) else (sennitlaw21_HunkContext.l0 k4 t102 (wrap64 (ji13)) t105 t109 (wrap64 (x13_2 + (((rd_T38 t105 x15_2).f2).length : Int))) 0 (wrap64 (x15_2 + 1)))))) else (sennitlaw21_HunkContext.l2 k4 t102 (wrap64 (ji13)) t105 t109 (wrap64 (x13_2 + (((rd_T38 t105 x15_2).f2).length : Int))) 0 x15_2 x16_24 (wrap64 (x17_4 + 1)))) = some r := H
                                    have A41 := Aside0.mk A410
                                    clear A410
                                    by_cases c42 : t123 = true
                                    · subst c42
                                      have H1 : (if x16_24 > (wrap64 (ji13)) then (some false) else (if x17_4 > (wrap64 (ji13)) then (some false) else (if x16_24 = (((rd_T38 t105 x15_2).f2).length : Int) then (some false) else (sennitlaw21_HunkContext.l0 k4 t102 (wrap64 (ji13)) t105 t109 (wrap64 (x13_2 + (((rd_T38 t105 x15_2).f2).length : Int))) 0 (wrap64 (x15_2 + 1)))))) = some r := by rw [if_pos rfl] at H; exact H
                                      clear H
                                      have H := H1
                                      clear H1
                                      by_cases c43 : x16_24 > (wrap64 (ji13))
                                      · rw [if_pos c43] at H
                                        have c43b0 : decide ((wrap64 (ji13)) < x16_24) = true := decide_eq_true c43
                                        clear c43
                                        exact absurd ((Option.some.inj H).trans HRT.out) (by decide)
                                      · rw [if_neg c43] at H
                                        have c43b0 : decide ((wrap64 (ji13)) < x16_24) = false := decide_eq_false c43
                                        clear c43
                                        by_cases c46 : x17_4 > (wrap64 (ji13))
                                        · rw [if_pos c46] at H
                                          have c46b0 : decide ((wrap64 (ji13)) < x17_4) = true := decide_eq_true c46
                                          clear c46
                                          exact absurd ((Option.some.inj H).trans HRT.out) (by decide)
                                        · rw [if_neg c46] at H
                                          have c46b0 : decide ((wrap64 (ji13)) < x17_4) = false := decide_eq_false c46
                                          clear c46
                                          by_cases c49 : x16_24 = (((rd_T38 t105 x15_2).f2).length : Int)
                                          · rw [if_pos c49] at H
                                            have c49b0 : (x16_24 == (((rd_T38 t105 x15_2).f2).length : Int)) = true := beq_iff_eq.mpr c49
                                            have c49b1 : (x16_24 != (((rd_T38 t105 x15_2).f2).length : Int)) = false := bne_eq_false_iff_eq.mpr c49
                                            clear c49
                                            exact absurd ((Option.some.inj H).trans HRT.out) (by decide)
                                          · rw [if_neg c49] at H
                                            have c49b0 : (x16_24 == (((rd_T38 t105 x15_2).f2).length : Int)) = false := beq_eq_false_iff_ne.mpr c49
                                            have c49b1 : (x16_24 != (((rd_T38 t105 x15_2).f2).length : Int)) = true := bne_iff_ne.mpr c49
                                            have H' := Aside0.mk H
                                            clear H
                                            try go_wp2
                                            have n0_ := Aside0.mk (Kd.N_drew HO_9.out)
                                            have n1_ := Aside0.mk (Kd.N_drew HO_11.out)
                                            have n2_ := Aside0.mk (blk_drew BK101.out)
                                            have n3_ := Aside0.mk (Kd.C_drew HR113_0.out)
                                            have n4_ := Aside0.mk (Kd.C_drew HR113_3.out)
                                            have n5_ := Aside0.mk (Kd.C_drew HR114_0.out)
                                            have n6_ := Aside0.mk (Kd.C_drew HR114_3.out)
                                            have n7_ := Aside0.mk (below_drew1 HB.out)
                                            clear HO_9
                                            clear HO_11
                                            clear BK101
                                            clear HR113_0
                                            clear HR113_3
                                            clear HR114_0
                                            clear HR114_3
                                            clear HB
                                            have HO_9 := n0_
                                            have HO_11 := n1_
                                            have BK101 := n2_
                                            have HR113_0 := n3_
                                            have HR113_3 := n4_
                                            have HR114_0 := n5_
                                            have HR114_3 := n6_
                                            have HB := n7_
                                            clear n0_ n1_ n2_ n3_ n4_ n5_ n6_ n7_
                                            have p119 : 0 ≤ (x15_2 : Int) := of_decide_eq_true (by first | (with_reducible assumption) | assumption)
                                            have q119 : x15_2 < (t105.length : Int) := of_decide_eq_true (by first | (with_reducible assumption) | assumption)
                                            obtain ⟨ad119, A119_0, c119_0, A119_3, c119_3, e119, hx119_0, hx119_1, hx119_2, hx119_3, hl119_0, hi119_0, hl119_3, hi119_3⟩ := at_T38 (Kd.N_reads' HO_9.out).2.2 x15_2 p119 q119
                                            obtain rfl : ad113 = ad119 := (by injection e119)
                                            obtain ⟨ce119, hce119, hMe119, hcc119⟩ := Kd.N_get HO_9.out z38 x15_2 p119 (by first | exact q119 | exact of_decide_eq_true (by first | (with_reducible assumption) | assumption) | (have e_ := (Kd.N_reads' HO_9.out).1; omega))
                                            obtain ⟨ua119_0, uc119_0, ua119_3, uc119_3, rfl, ul119_0, ge119_0, ul119_3, ge119_3⟩ := k38_openF hMe119
                                            have hv119_0 := hcc119 0 _ rfl
                                            rw [Nat.add_zero] at hv119_0
                                            replace hv119_0 := Option.some.inj (hv119_0.symm.trans hx119_0)
                                            injection hv119_0 with hva_ hvn_ hvc_
                                            rw [hva_] at ge119_0
                                            rw [hvc_] at ul119_0
                                            have HL119_0 := Aside0.mk (show Kd.V k36 36 _ w.heap.size _ _ ((rd_T38 t105 x15_2).f0) from Kd.V_mk ul119_0 ge119_0)
                                            clear hva_ hvn_ hvc_ ge119_0 ul119_0
                                            have hv119_3 := hcc119 3 _ rfl
                                            rw [add_field _ _ 3 (by omega)] at hv119_3
                                            replace hv119_3 := Option.some.inj (hv119_3.symm.trans hx119_3)
                                            injection hv119_3 with hva_ hvn_ hvc_
                                            rw [hva_] at ge119_3
                                            rw [hvc_] at ul119_3
                                            have HL119_3 := Aside0.mk (show Kd.V k41 41 _ w.heap.size _ _ ((rd_T38 t105 x15_2).f2) from Kd.V_mk ul119_3 ge119_3)
                                            clear hva_ hvn_ hvc_ ge119_3 ul119_3
                                            clear hcc119 hce119
                                            have HR119_0 := Aside0.mk hi119_0
                                            have HC119_0 := Aside0.mk hl119_0
                                            clear hi119_0 hl119_0
                                            have HR119_3 := Aside0.mk hi119_3
                                            have HC119_3 := Aside0.mk hl119_3
                                            clear hi119_3 hl119_3
                                            replace p119 := eq_true p119
                                            replace q119 := eq_true q119
                                            have p120 : 0 ≤ (x15_2 : Int) := of_decide_eq_true (by first | (with_reducible assumption) | assumption)
                                            have q120 : x15_2 < (t105.length : Int) := of_decide_eq_true (by first | (with_reducible assumption) | assumption)
                                            obtain ⟨ad120, A120_0, c120_0, A120_3, c120_3, e120, hx120_0, hx120_1, hx120_2, hx120_3, hl120_0, hi120_0, hl120_3, hi120_3⟩ := at_T38 (Kd.N_reads' HO_9.out).2.2 x15_2 p120 q120
                                            obtain rfl : ad113 = ad120 := (by injection e120)
                                            obtain ⟨ce120, hce120, hMe120, hcc120⟩ := Kd.N_get HO_9.out z38 x15_2 p120 (by first | exact q120 | exact of_decide_eq_true (by first | (with_reducible assumption) | assumption) | (have e_ := (Kd.N_reads' HO_9.out).1; omega))
                                            obtain ⟨ua120_0, uc120_0, ua120_3, uc120_3, rfl, ul120_0, ge120_0, ul120_3, ge120_3⟩ := k38_openF hMe120
                                            have hv120_0 := hcc120 0 _ rfl
                                            rw [Nat.add_zero] at hv120_0
                                            replace hv120_0 := Option.some.inj (hv120_0.symm.trans hx120_0)
                                            injection hv120_0 with hva_ hvn_ hvc_
                                            rw [hva_] at ge120_0
                                            rw [hvc_] at ul120_0
                                            have HL120_0 := Aside0.mk (show Kd.V k36 36 _ w.heap.size _ _ ((rd_T38 t105 x15_2).f0) from Kd.V_mk ul120_0 ge120_0)
                                            clear hva_ hvn_ hvc_ ge120_0 ul120_0
                                            have hv120_3 := hcc120 3 _ rfl
                                            rw [add_field _ _ 3 (by omega)] at hv120_3
                                            replace hv120_3 := Option.some.inj (hv120_3.symm.trans hx120_3)
                                            injection hv120_3 with hva_ hvn_ hvc_
                                            rw [hva_] at ge120_3
                                            rw [hvc_] at ul120_3
                                            have HL120_3 := Aside0.mk (show Kd.V k41 41 _ w.heap.size _ _ ((rd_T38 t105 x15_2).f2) from Kd.V_mk ul120_3 ge120_3)
                                            clear hva_ hvn_ hvc_ ge120_3 ul120_3
                                            clear hcc120 hce120
                                            have HR120_0 := Aside0.mk hi120_0
                                            have HC120_0 := Aside0.mk hl120_0
                                            clear hi120_0 hl120_0
                                            have HR120_3 := Aside0.mk hi120_3
                                            have HC120_3 := Aside0.mk hl120_3
                                            clear hi120_3 hl120_3
                                            replace p120 := eq_true p120
                                            replace q120 := eq_true q120
                                            have ea_ := Option.some.inj (hx119_0.symm.trans hx120_0)
                                            injection ea_ with ea_ en_ ec_
                                            subst ea_
                                            subst ec_
                                            clear en_
                                            have ea_ := Option.some.inj (hx119_3.symm.trans hx120_3)
                                            injection ea_ with ea_ en_ ec_
                                            subst ea_
                                            subst ec_
                                            clear en_
                                            have p121 : 0 ≤ (x15_2 : Int) := of_decide_eq_true (by first | (with_reducible assumption) | assumption)
                                            have q121 : x15_2 < (t105.length : Int) := of_decide_eq_true (by first | (with_reducible assumption) | assumption)
                                            obtain ⟨ad121, A121_0, c121_0, A121_3, c121_3, e121, hx121_0, hx121_1, hx121_2, hx121_3, hl121_0, hi121_0, hl121_3, hi121_3⟩ := at_T38 (Kd.N_reads' HO_9.out).2.2 x15_2 p121 q121
                                            obtain rfl : ad113 = ad121 := (by injection e121)
                                            obtain ⟨ce121, hce121, hMe121, hcc121⟩ := Kd.N_get HO_9.out z38 x15_2 p121 (by first | exact q121 | exact of_decide_eq_true (by first | (with_reducible assumption) | assumption) | (have e_ := (Kd.N_reads' HO_9.out).1; omega))
                                            obtain ⟨ua121_0, uc121_0, ua121_3, uc121_3, rfl, ul121_0, ge121_0, ul121_3, ge121_3⟩ := k38_openF hMe121
                                            have hv121_0 := hcc121 0 _ rfl
                                            rw [Nat.add_zero] at hv121_0
                                            replace hv121_0 := Option.some.inj (hv121_0.symm.trans hx121_0)
                                            injection hv121_0 with hva_ hvn_ hvc_
                                            rw [hva_] at ge121_0
                                            rw [hvc_] at ul121_0
                                            have HL121_0 := Aside0.mk (show Kd.V k36 36 _ w.heap.size _ _ ((rd_T38 t105 x15_2).f0) from Kd.V_mk ul121_0 ge121_0)
                                            clear hva_ hvn_ hvc_ ge121_0 ul121_0
                                            have hv121_3 := hcc121 3 _ rfl
                                            rw [add_field _ _ 3 (by omega)] at hv121_3
                                            replace hv121_3 := Option.some.inj (hv121_3.symm.trans hx121_3)
                                            injection hv121_3 with hva_ hvn_ hvc_
                                            rw [hva_] at ge121_3
                                            rw [hvc_] at ul121_3
                                            have HL121_3 := Aside0.mk (show Kd.V k41 41 _ w.heap.size _ _ ((rd_T38 t105 x15_2).f2) from Kd.V_mk ul121_3 ge121_3)
                                            clear hva_ hvn_ hvc_ ge121_3 ul121_3
                                            clear hcc121 hce121
                                            have HR121_0 := Aside0.mk hi121_0
                                            have HC121_0 := Aside0.mk hl121_0
                                            clear hi121_0 hl121_0
                                            have HR121_3 := Aside0.mk hi121_3
                                            have HC121_3 := Aside0.mk hl121_3
                                            clear hi121_3 hl121_3
                                            replace p121 := eq_true p121
                                            replace q121 := eq_true q121
                                            have ea_ := Option.some.inj (hx119_0.symm.trans hx121_0)
                                            injection ea_ with ea_ en_ ec_
                                            subst ea_
                                            subst ec_
                                            clear en_
                                            have ea_ := Option.some.inj (hx119_3.symm.trans hx121_3)
                                            injection ea_ with ea_ en_ ec_
                                            subst ea_
                                            subst ec_
                                            clear en_
                                            have p122 : 0 ≤ ((ji38) : Int) := of_decide_eq_true (by first | (with_reducible assumption) | assumption)
                                            have q122 : (ji38) < (((rd_T38 t105 x15_2).f2).length : Int) := of_decide_eq_true (by first | (with_reducible assumption) | assumption)
                                            obtain ⟨ad122, e122, hx122_0, hx122_1⟩ := at_T41 (by repeat (first | (with_reducible exact HR120_3.out) | (with_reducible refine Kd.C_alloc ?_ _) | (with_reducible refine Kd.C_drewN ?_ _) | (with_reducible refine Kd.C_drew ?_) | exact HR120_3.out)) (ji38) p122 q122
                                            cases e122
                                            replace p122 := eq_true p122
                                            replace q122 := eq_true q122
                                            refine start_ (n := 28) (S := fun w' => w'.cell? (ad113.add ((x15_2).toNat * 4)) = some (.slice A119_0 ((rd_T38 t105 x15_2).f0).length c119_0) ∧ w'.cell? ⟨(ad113.add ((x15_2).toNat * 4)).block, (ad113.add ((x15_2).toNat * 4)).off + 1, none⟩ = some (.int .i64 ((rd_T38 t105 x15_2).f1.f0)) ∧ w'.cell? ⟨(ad113.add ((x15_2).toNat * 4)).block, (ad113.add ((x15_2).toNat * 4)).off + 2, none⟩ = some (.int .i64 ((rd_T38 t105 x15_2).f1.f1)) ∧ w'.cell? ⟨(ad113.add ((x15_2).toNat * 4)).block, (ad113.add ((x15_2).toNat * 4)).off + 3, none⟩ = some (.slice (some ad122) ((rd_T38 t105 x15_2).f2).length c119_3) ∧ w'.cell? (ad113.add ((x15_2).toNat * 4)) = some (.slice A119_0 ((rd_T38 t105 x15_2).f0).length c119_0) ∧ w'.cell? ⟨(ad113.add ((x15_2).toNat * 4)).block, (ad113.add ((x15_2).toNat * 4)).off + 1, none⟩ = some (.int .i64 ((rd_T38 t105 x15_2).f1.f0)) ∧ w'.cell? ⟨(ad113.add ((x15_2).toNat * 4)).block, (ad113.add ((x15_2).toNat * 4)).off + 2, none⟩ = some (.int .i64 ((rd_T38 t105 x15_2).f1.f1)) ∧ w'.cell? ⟨(ad113.add ((x15_2).toNat * 4)).block, (ad113.add ((x15_2).toNat * 4)).off + 3, none⟩ = some (.slice (some ad122) ((rd_T38 t105 x15_2).f2).length c119_3) ∧ w'.cell? (ad113.add ((x15_2).toNat * 4)) = some (.slice A119_0 ((rd_T38 t105 x15_2).f0).length c119_0) ∧ w'.cell? ⟨(ad113.add ((x15_2).toNat * 4)).block, (ad113.add ((x15_2).toNat * 4)).off + 1, none⟩ = some (.int .i64 ((rd_T38 t105 x15_2).f1.f0)) ∧ w'.cell? ⟨(ad113.add ((x15_2).toNat * 4)).block, (ad113.add ((x15_2).toNat * 4)).off + 2, none⟩ = some (.int .i64 ((rd_T38 t105 x15_2).f1.f1)) ∧ w'.cell? ⟨(ad113.add ((x15_2).toNat * 4)).block, (ad113.add ((x15_2).toNat * 4)).off + 3, none⟩ = some (.slice (some ad122) ((rd_T38 t105 x15_2).f2).length c119_3) ∧ w'.cell? (ad122.add (((ji38)).toNat * 2)) = some (.string ((rd_T41 ((rd_T38 t105 x15_2).f2) (ji38)).f0)) ∧ w'.cell? ⟨(ad122.add (((ji38)).toNat * 2)).block, (ad122.add (((ji38)).toNat * 2)).off + 1, none⟩ = some (.string ((rd_T41 ((rd_T38 t105 x15_2).f2) (ji38)).f1))) (ds := []) #[false, false, false, false, false, false, false, false, false, false, false, false, false, false, false, false, false, false, false, false, false, false, false, false, false, false, false, false] (by kernel_rfl) rfl rfl ⟨hx119_0, hx119_1, hx119_2, hx119_3, hx120_0, hx120_1, hx120_2, hx120_3, hx121_0, hx121_1, hx121_2, hx121_3, hx122_0, hx122_1⟩ (fun hHeld => ?_); refine with_tabW sennitlaw21_HunkContext.tab19 sennitlaw21_HunkContext.bits19 (fun HT_ HW_ => ?_)
                                            generalize wr.drew = w52 at HO_9 HO_11 BK101 HR113_0 HR113_3 HR114_0 HR114_3 HB HL119_0 HL119_3 HL120_0 HL120_3 HL121_0 HL121_3 HR119_0 HR119_3 HR120_0 HR120_3 HR121_0 HR121_3 hx119_0 hx119_1 hx119_2 hx119_3 hx120_0 hx120_1 hx120_2 hx120_3 hx121_0 hx121_1 hx121_2 hx121_3 hx122_0 hx122_1 hHeld ⊢
                                            refine pure_ (i := 0) (N := some 97) (v := ?_) (a' := ?_) #[true, false, false, false, false, false, false, false, false, false, false, false, false, false, false, false, false, false, false, false, false, false, false, false, false, false, false, false] rfl rfl (any_of HT_.out (by kernel_rfl)) (fun _ _ _ h => h) (Or.inl ⟨by rfl, ?_⟩) ?_ ?_
                                            rotate_left
                                            · intro w'
                                              go_simp
                                              with_reducible rfl
                                            rotate_left
                                            · simp only [Act.put, List.setIfInBounds_toArray, List.set_cons_zero, List.set_cons_succ, i64_w, i32_w]
                                              rfl
                                            refine pure_ (i := 1) (N := some 98) (v := ?_) (a' := ?_) #[true, true, false, false, false, false, false, false, false, false, false, false, false, false, false, false, false, false, false, false, false, false, false, false, false, false, false, false] rfl rfl (any_of HT_.out (by kernel_rfl)) (fun _ _ _ h => h) (Or.inl ⟨by rfl, ?_⟩) ?_ ?_
                                            rotate_left
                                            · intro w'
                                              go_simp
                                              with_reducible rfl
                                            rotate_left
                                            · simp only [Act.put, List.setIfInBounds_toArray, List.set_cons_zero, List.set_cons_succ, i64_w, i32_w]
                                              rfl
                                            refine pure_ (i := 2) (N := some 99) (v := ?_) (a' := ?_) #[true, true, true, false, false, false, false, false, false, false, false, false, false, false, false, false, false, false, false, false, false, false, false, false, false, false, false, false] rfl rfl (any_of HT_.out (by kernel_rfl)) (fun _ _ _ h => h) (Or.inl ⟨by rfl, ?_⟩) ?_ ?_
                                            rotate_left
                                            · intro w'
                                              go_simp
                                              with_reducible rfl
                                            rotate_left
                                            · simp only [Act.put, List.setIfInBounds_toArray, List.set_cons_zero, List.set_cons_succ, i64_w, i32_w]
                                              rfl
                                            refine pure_ (i := 3) (N := some 100) (v := ?_) (a' := ?_) #[true, true, true, true, false, false, false, false, false, false, false, false, false, false, false, false, false, false, false, false, false, false, false, false, false, false, false, false] rfl rfl (any_of HT_.out (by kernel_rfl)) (fun _ _ _ h => h) (Or.inl ⟨by rfl, ?_⟩) ?_ ?_
                                            rotate_left
                                            · intro w'
                                              go_simp
                                              with_reducible rfl
                                            rotate_left
                                            · simp only [Act.put, List.setIfInBounds_toArray, List.set_cons_zero, List.set_cons_succ, i64_w, i32_w]
                                              rfl
                                            refine pure_ (i := 4) (N := some 101) (v := ?_) (a' := ?_) #[true, true, true, true, true, false, false, false, false, false, false, false, false, false, false, false, false, false, false, false, false, false, false, false, false, false, false, false] rfl rfl (any_of HT_.out (by kernel_rfl)) (fun _ _ _ h => h) (Or.inl ⟨by rfl, ?_⟩) ?_ ?_
                                            rotate_left
                                            · intro w'
                                              go_simp
                                              with_reducible rfl
                                            rotate_left
                                            · simp only [Act.put, List.setIfInBounds_toArray, List.set_cons_zero, List.set_cons_succ, i64_w, i32_w]
                                              rfl
                                            refine take_ (i := 5) (N := some 102) (v := ?_) (a' := ?_) #[true, true, true, true, true, true, false, false, false, false, false, false, false, false, false, false, false, false, false, false, false, false, false, false, false, false, false, false] rfl rfl (take_ofW HT_.out HW_.out (by kernel_rfl)) (fun _ _ _ h => h) (Or.inl ⟨by rfl, ?_⟩) hHeld ?_ ?_
                                            rotate_left
                                            · rintro w' ⟨s0, s1, s2, s3, s4, s5, s6, s7, s8, s9, s10, s11, s12, s13⟩
                                              go_simp
                                              with_reducible rfl
                                            rotate_left
                                            · simp only [Act.put, List.setIfInBounds_toArray, List.set_cons_zero, List.set_cons_succ, i64_w, i32_w]
                                              rfl
                                            refine pure_ (i := 6) (N := some 103) (v := ?_) (a' := ?_) #[true, true, true, true, true, true, true, false, false, false, false, false, false, false, false, false, false, false, false, false, false, false, false, false, false, false, false, false] rfl rfl (any_of HT_.out (by kernel_rfl)) (fun _ _ _ h => h) (Or.inl ⟨by rfl, ?_⟩) ?_ ?_
                                            rotate_left
                                            · intro w'
                                              go_simp
                                              with_reducible rfl
                                            rotate_left
                                            · simp only [Act.put, List.setIfInBounds_toArray, List.set_cons_zero, List.set_cons_succ, i64_w, i32_w]
                                              rfl
                                            refine pure_ (i := 7) (N := some 104) (v := ?_) (a' := ?_) #[true, true, true, true, true, true, true, true, false, false, false, false, false, false, false, false, false, false, false, false, false, false, false, false, false, false, false, false] rfl rfl (any_of HT_.out (by kernel_rfl)) (fun _ _ _ h => h) (Or.inl ⟨by rfl, ?_⟩) ?_ ?_
                                            rotate_left
                                            · intro w'
                                              go_simp
                                              with_reducible rfl
                                            rotate_left
                                            · simp only [Act.put, List.setIfInBounds_toArray, List.set_cons_zero, List.set_cons_succ, i64_w, i32_w]
                                              rfl
                                            refine pure_ (i := 8) (N := some 105) (v := ?_) (a' := ?_) #[true, true, true, true, true, true, true, true, true, false, false, false, false, false, false, false, false, false, false, false, false, false, false, false, false, false, false, false] rfl rfl (any_of HT_.out (by kernel_rfl)) (fun _ _ _ h => h) (Or.inl ⟨by rfl, ?_⟩) ?_ ?_
                                            rotate_left
                                            · intro w'
                                              go_simp
                                              with_reducible rfl
                                            rotate_left
                                            · simp only [Act.put, List.setIfInBounds_toArray, List.set_cons_zero, List.set_cons_succ, i64_w, i32_w]
                                              rfl
                                            refine pure_ (i := 9) (N := some 106) (v := ?_) (a' := ?_) #[true, true, true, true, true, true, true, true, true, true, false, false, false, false, false, false, false, false, false, false, false, false, false, false, false, false, false, false] rfl rfl (any_of HT_.out (by kernel_rfl)) (fun _ _ _ h => h) (Or.inl ⟨by rfl, ?_⟩) ?_ ?_
                                            rotate_left
                                            · intro w'
                                              go_simp
                                              with_reducible rfl
                                            rotate_left
                                            · simp only [Act.put, List.setIfInBounds_toArray, List.set_cons_zero, List.set_cons_succ, i64_w, i32_w]
                                              rfl
                                            refine pure_ (i := 10) (N := some 107) (v := ?_) (a' := ?_) #[true, true, true, true, true, true, true, true, true, true, true, false, false, false, false, false, false, false, false, false, false, false, false, false, false, false, false, false] rfl rfl (any_of HT_.out (by kernel_rfl)) (fun _ _ _ h => h) (Or.inl ⟨by rfl, ?_⟩) ?_ ?_
                                            rotate_left
                                            · intro w'
                                              go_simp
                                              with_reducible rfl
                                            rotate_left
                                            · simp only [Act.put, List.setIfInBounds_toArray, List.set_cons_zero, List.set_cons_succ, i64_w, i32_w]
                                              rfl
                                            refine pure_ (i := 11) (N := some 108) (v := ?_) (a' := ?_) #[true, true, true, true, true, true, true, true, true, true, true, true, false, false, false, false, false, false, false, false, false, false, false, false, false, false, false, false] rfl rfl (any_of HT_.out (by kernel_rfl)) (fun _ _ _ h => h) (Or.inl ⟨by rfl, ?_⟩) ?_ ?_
                                            rotate_left
                                            · intro w'
                                              go_simp
                                              with_reducible rfl
                                            rotate_left
                                            · simp only [Act.put, List.setIfInBounds_toArray, List.set_cons_zero, List.set_cons_succ, i64_w, i32_w]
                                              rfl
                                            refine pure_ (i := 12) (N := some 109) (v := ?_) (a' := ?_) #[true, true, true, true, true, true, true, true, true, true, true, true, true, false, false, false, false, false, false, false, false, false, false, false, false, false, false, false] rfl rfl (any_of HT_.out (by kernel_rfl)) (fun _ _ _ h => h) (Or.inl ⟨by rfl, ?_⟩) ?_ ?_
                                            rotate_left
                                            · intro w'
                                              go_simp
                                              with_reducible rfl
                                            rotate_left
                                            · simp only [Act.put, List.setIfInBounds_toArray, List.set_cons_zero, List.set_cons_succ, i64_w, i32_w]
                                              rfl
                                            refine pure_ (i := 14) (N := some 111) (v := ?_) (a' := ?_) #[true, true, true, true, true, true, true, true, true, true, true, true, true, false, true, false, false, false, false, false, false, false, false, false, false, false, false, false] rfl rfl (any_of HT_.out (by kernel_rfl)) (fun _ _ _ h => h) (Or.inl ⟨by rfl, ?_⟩) ?_ ?_
                                            rotate_left
                                            · intro w'
                                              go_simp
                                              with_reducible rfl
                                            rotate_left
                                            · simp only [Act.put, List.setIfInBounds_toArray, List.set_cons_zero, List.set_cons_succ, i64_w, i32_w]
                                              rfl
                                            refine pure_ (i := 15) (N := some 112) (v := ?_) (a' := ?_) #[true, true, true, true, true, true, true, true, true, true, true, true, true, false, true, true, false, false, false, false, false, false, false, false, false, false, false, false] rfl rfl (any_of HT_.out (by kernel_rfl)) (fun _ _ _ h => h) (Or.inl ⟨by rfl, ?_⟩) ?_ ?_
                                            rotate_left
                                            · intro w'
                                              go_simp
                                              with_reducible rfl
                                            rotate_left
                                            · simp only [Act.put, List.setIfInBounds_toArray, List.set_cons_zero, List.set_cons_succ, i64_w, i32_w]
                                              rfl
                                            refine pure_ (i := 16) (N := some 113) (v := ?_) (a' := ?_) #[true, true, true, true, true, true, true, true, true, true, true, true, true, false, true, true, true, false, false, false, false, false, false, false, false, false, false, false] rfl rfl (any_of HT_.out (by kernel_rfl)) (fun _ _ _ h => h) (Or.inl ⟨by rfl, ?_⟩) ?_ ?_
                                            rotate_left
                                            · intro w'
                                              go_simp
                                              with_reducible rfl
                                            rotate_left
                                            · simp only [Act.put, List.setIfInBounds_toArray, List.set_cons_zero, List.set_cons_succ, i64_w, i32_w]
                                              rfl
                                            refine pure_ (i := 17) (N := some 114) (v := ?_) (a' := ?_) #[true, true, true, true, true, true, true, true, true, true, true, true, true, false, true, true, true, true, false, false, false, false, false, false, false, false, false, false] rfl rfl (any_of HT_.out (by kernel_rfl)) (fun _ _ _ h => h) (Or.inl ⟨by rfl, ?_⟩) ?_ ?_
                                            rotate_left
                                            · intro w'
                                              go_simp
                                              with_reducible rfl
                                            rotate_left
                                            · simp only [Act.put, List.setIfInBounds_toArray, List.set_cons_zero, List.set_cons_succ, i64_w, i32_w]
                                              rfl
                                            refine pure_ (i := 21) (N := some 118) (v := ?_) (a' := ?_) #[true, true, true, true, true, true, true, true, true, true, true, true, true, false, true, true, true, true, false, false, false, true, false, false, false, false, false, false] rfl rfl (any_of HT_.out (by kernel_rfl)) (fun _ _ _ h => h) (Or.inl ⟨by rfl, ?_⟩) ?_ ?_
                                            rotate_left
                                            · intro w'
                                              go_simp
                                              with_reducible rfl
                                            rotate_left
                                            · simp only [Act.put, List.setIfInBounds_toArray, List.set_cons_zero, List.set_cons_succ, i64_w, i32_w]
                                              rfl
                                            refine take_ (i := 13) (N := some 110) (v := ?_) (a' := ?_) #[true, true, true, true, true, true, true, true, true, true, true, true, true, true, true, true, true, true, false, false, false, true, false, false, false, false, false, false] rfl rfl (take_ofW HT_.out HW_.out (by kernel_rfl)) (fun _ _ _ h => h) (Or.inl ⟨by rfl, ?_⟩) hHeld ?_ ?_
                                            rotate_left
                                            · rintro w' ⟨s0, s1, s2, s3, s4, s5, s6, s7, s8, s9, s10, s11, s12, s13⟩
                                              go_simp
                                              with_reducible rfl
                                            rotate_left
                                            · simp only [Act.put, List.setIfInBounds_toArray, List.set_cons_zero, List.set_cons_succ, i64_w, i32_w]
                                              rfl
                                            refine take_ (i := 18) (N := some 115) (v := ?_) (a' := ?_) #[true, true, true, true, true, true, true, true, true, true, true, true, true, true, true, true, true, true, true, false, false, true, false, false, false, false, false, false] rfl rfl (take_ofW HT_.out HW_.out (by kernel_rfl)) (fun _ _ _ h => h) (Or.inl ⟨by rfl, ?_⟩) hHeld ?_ ?_
                                            rotate_left
                                            · rintro w' ⟨s0, s1, s2, s3, s4, s5, s6, s7, s8, s9, s10, s11, s12, s13⟩
                                              go_simp
                                              with_reducible rfl
                                            rotate_left
                                            · simp only [Act.put, List.setIfInBounds_toArray, List.set_cons_zero, List.set_cons_succ, i64_w, i32_w]
                                              rfl
                                            refine pure_ (i := 19) (N := some 116) (v := ?_) (a' := ?_) #[true, true, true, true, true, true, true, true, true, true, true, true, true, true, true, true, true, true, true, true, false, true, false, false, false, false, false, false] rfl rfl (any_of HT_.out (by kernel_rfl)) (fun _ _ _ h => h) (Or.inl ⟨by rfl, ?_⟩) ?_ ?_
                                            rotate_left
                                            · intro w'
                                              go_simp
                                              with_reducible rfl
                                            rotate_left
                                            · simp only [Act.put, List.setIfInBounds_toArray, List.set_cons_zero, List.set_cons_succ, i64_w, i32_w]
                                              rfl
                                            refine pure_ (i := 20) (N := some 117) (v := ?_) (a' := ?_) #[true, true, true, true, true, true, true, true, true, true, true, true, true, true, true, true, true, true, true, true, true, true, false, false, false, false, false, false] rfl rfl (any_of HT_.out (by kernel_rfl)) (fun _ _ _ h => h) (Or.inl ⟨by rfl, ?_⟩) ?_ ?_
                                            rotate_left
                                            · intro w'
                                              go_simp
                                              with_reducible rfl
                                            rotate_left
                                            · simp only [Act.put, List.setIfInBounds_toArray, List.set_cons_zero, List.set_cons_succ, i64_w, i32_w]
                                              rfl
                                            refine pure_ (i := 22) (N := some 119) (v := ?_) (a' := ?_) #[true, true, true, true, true, true, true, true, true, true, true, true, true, true, true, true, true, true, true, true, true, true, true, false, false, false, false, false] rfl rfl (any_of HT_.out (by kernel_rfl)) (fun _ _ _ h => h) (Or.inl ⟨by rfl, ?_⟩) ?_ ?_
                                            rotate_left
                                            · intro w'
                                              go_simp
                                              with_reducible rfl
                                            rotate_left
                                            · simp only [Act.put, List.setIfInBounds_toArray, List.set_cons_zero, List.set_cons_succ, i64_w, i32_w]
                                              rfl
                                            refine pure_ (i := 23) (N := some 120) (v := ?_) (a' := ?_) #[true, true, true, true, true, true, true, true, true, true, true, true, true, true, true, true, true, true, true, true, true, true, true, true, false, false, false, false] rfl rfl (any_of HT_.out (by kernel_rfl)) (fun _ _ _ h => h) (Or.inl ⟨by rfl, ?_⟩) ?_ ?_
                                            rotate_left
                                            · intro w'
                                              go_simp
                                              with_reducible rfl
                                            rotate_left
                                            · simp only [Act.put, List.setIfInBounds_toArray, List.set_cons_zero, List.set_cons_succ, i64_w, i32_w]
                                              rfl
                                            refine take_ (i := 24) (N := some 121) (v := ?_) (a' := ?_) #[true, true, true, true, true, true, true, true, true, true, true, true, true, true, true, true, true, true, true, true, true, true, true, true, true, false, false, false] rfl rfl (take_ofW HT_.out HW_.out (by kernel_rfl)) (fun _ _ _ h => h) (Or.inl ⟨by rfl, ?_⟩) hHeld ?_ ?_
                                            rotate_left
                                            · rintro w' ⟨s0, s1, s2, s3, s4, s5, s6, s7, s8, s9, s10, s11, s12, s13⟩
                                              go_simp
                                              with_reducible rfl
                                            rotate_left
                                            · simp only [Act.put, List.setIfInBounds_toArray, List.set_cons_zero, List.set_cons_succ, i64_w, i32_w]
                                              rfl
                                            refine one_ (i := 25) (N := some 122) #[true, true, true, true, true, true, true, true, true, true, true, true, true, true, true, true, true, true, true, true, true, true, true, true, true, true, false, false] rfl rfl (one_of HT_.out (by kernel_rfl)) (by decide) (fun K hK => ?_)
                                            refine goes_ Tryd.func20 (by kernel_rfl) rfl #[.agg #[.string ((rd_T41 ((rd_T38 t105 x15_2).f2) (ji38)).f0), .string ((rd_T41 ((rd_T38 t105 x15_2).f2) (ji38)).f1)]] (by rfl) rfl rfl (by (try simp only [List.map_toArray, List.map_cons, List.map_nil]); first | done | (simp only [hji38]; rfl) | rfl | (simp only [List.length_drop, List.length_take]; rfl)) ?_
                                            with_reducible refine (sennitref21_Marked.calls k4 ((rd_T41 ((rd_T38 t105 x15_2).f2) (ji38)).f0) ((rd_T41 ((rd_T38 t105 x15_2).f2) (ji38)).f1) true _ A41.out).mono ?_
                                            rintro e w53 ⟨rfl, hb⟩
                                            have HS0_ := (hb.cell (World.block_lt_of_cell? _ _ (hHeld.1))).trans (hHeld.1)
                                            have HS1_ := (hb.cell (World.block_lt_of_cell? _ _ (hHeld.2.1))).trans (hHeld.2.1)
                                            have HS2_ := (hb.cell (World.block_lt_of_cell? _ _ (hHeld.2.2.1))).trans (hHeld.2.2.1)
                                            have HS3_ := (hb.cell (World.block_lt_of_cell? _ _ (hHeld.2.2.2.1))).trans (hHeld.2.2.2.1)
                                            have HS4_ := (hb.cell (World.block_lt_of_cell? _ _ (hHeld.2.2.2.2.1))).trans (hHeld.2.2.2.2.1)
                                            have HS5_ := (hb.cell (World.block_lt_of_cell? _ _ (hHeld.2.2.2.2.2.1))).trans (hHeld.2.2.2.2.2.1)
                                            have HS6_ := (hb.cell (World.block_lt_of_cell? _ _ (hHeld.2.2.2.2.2.2.1))).trans (hHeld.2.2.2.2.2.2.1)
                                            have HS7_ := (hb.cell (World.block_lt_of_cell? _ _ (hHeld.2.2.2.2.2.2.2.1))).trans (hHeld.2.2.2.2.2.2.2.1)
                                            have HS8_ := (hb.cell (World.block_lt_of_cell? _ _ (hHeld.2.2.2.2.2.2.2.2.1))).trans (hHeld.2.2.2.2.2.2.2.2.1)
                                            have HS9_ := (hb.cell (World.block_lt_of_cell? _ _ (hHeld.2.2.2.2.2.2.2.2.2.1))).trans (hHeld.2.2.2.2.2.2.2.2.2.1)
                                            have HS10_ := (hb.cell (World.block_lt_of_cell? _ _ (hHeld.2.2.2.2.2.2.2.2.2.2.1))).trans (hHeld.2.2.2.2.2.2.2.2.2.2.1)
                                            have HS11_ := (hb.cell (World.block_lt_of_cell? _ _ (hHeld.2.2.2.2.2.2.2.2.2.2.2.1))).trans (hHeld.2.2.2.2.2.2.2.2.2.2.2.1)
                                            have HS12_ := (hb.cell (World.block_lt_of_cell? _ _ (hHeld.2.2.2.2.2.2.2.2.2.2.2.2.1))).trans (hHeld.2.2.2.2.2.2.2.2.2.2.2.2.1)
                                            have HS13_ := (hb.cell (World.block_lt_of_cell? _ _ (hHeld.2.2.2.2.2.2.2.2.2.2.2.2.2))).trans (hHeld.2.2.2.2.2.2.2.2.2.2.2.2.2)
                                            refine ⟨_, rfl, ?_⟩
                                            have n0_ := Aside0.mk (Kd.N_below (by (with_reducible repeat (first | apply Kd.N_alloc | apply Kd.N_drewN | apply Kd.N_drew)); exact HO_9.out) hb)
                                            have n1_ := Aside0.mk (Kd.N_below (by (with_reducible repeat (first | apply Kd.N_alloc | apply Kd.N_drewN | apply Kd.N_drew)); exact HO_11.out) hb)
                                            have n2_ := Aside0.mk (Kd.V_below (by (with_reducible repeat (first | apply Kd.V_alloc | apply Kd.V_drewN | apply Kd.V_drew)); exact HL119_0.out) hb)
                                            have n3_ := Aside0.mk (Kd.V_below (by (with_reducible repeat (first | apply Kd.V_alloc | apply Kd.V_drewN | apply Kd.V_drew)); exact HL119_3.out) hb)
                                            have n4_ := Aside0.mk (Kd.V_below (by (with_reducible repeat (first | apply Kd.V_alloc | apply Kd.V_drewN | apply Kd.V_drew)); exact HL120_0.out) hb)
                                            have n5_ := Aside0.mk (Kd.V_below (by (with_reducible repeat (first | apply Kd.V_alloc | apply Kd.V_drewN | apply Kd.V_drew)); exact HL120_3.out) hb)
                                            have n6_ := Aside0.mk (Kd.V_below (by (with_reducible repeat (first | apply Kd.V_alloc | apply Kd.V_drewN | apply Kd.V_drew)); exact HL121_0.out) hb)
                                            have n7_ := Aside0.mk (Kd.V_below (by (with_reducible repeat (first | apply Kd.V_alloc | apply Kd.V_drewN | apply Kd.V_drew)); exact HL121_3.out) hb)
                                            have n8_ := Aside0.mk (blk_below (g := gb101) (o := .cells #[.int .u8 a1_0, .int .u8 a1_1] 47 (0, 0)) (by (with_reducible repeat (first | refine blk_drewN ?_ _ | refine blk_drew ?_ | refine blk_alloc ?_ _)); exact BK101.out) hb)
                                            have n9_ := Aside0.mk (Kd.C_below (by repeat (first | (with_reducible exact HR113_0.out) | (with_reducible refine Kd.C_alloc ?_ _) | (with_reducible refine Kd.C_drewN ?_ _) | (with_reducible refine Kd.C_drew ?_) | exact HR113_0.out)) hb)
                                            have n10_ := Aside0.mk (Kd.C_below (by repeat (first | (with_reducible exact HR113_3.out) | (with_reducible refine Kd.C_alloc ?_ _) | (with_reducible refine Kd.C_drewN ?_ _) | (with_reducible refine Kd.C_drew ?_) | exact HR113_3.out)) hb)
                                            have n11_ := Aside0.mk (Kd.C_below (by repeat (first | (with_reducible exact HR114_0.out) | (with_reducible refine Kd.C_alloc ?_ _) | (with_reducible refine Kd.C_drewN ?_ _) | (with_reducible refine Kd.C_drew ?_) | exact HR114_0.out)) hb)
                                            have n12_ := Aside0.mk (Kd.C_below (by repeat (first | (with_reducible exact HR114_3.out) | (with_reducible refine Kd.C_alloc ?_ _) | (with_reducible refine Kd.C_drewN ?_ _) | (with_reducible refine Kd.C_drew ?_) | exact HR114_3.out)) hb)
                                            have n13_ := Aside0.mk (Kd.C_below (by repeat (first | (with_reducible exact HR119_0.out) | (with_reducible refine Kd.C_alloc ?_ _) | (with_reducible refine Kd.C_drewN ?_ _) | (with_reducible refine Kd.C_drew ?_) | exact HR119_0.out)) hb)
                                            have n14_ := Aside0.mk (Kd.C_below (by repeat (first | (with_reducible exact HR119_3.out) | (with_reducible refine Kd.C_alloc ?_ _) | (with_reducible refine Kd.C_drewN ?_ _) | (with_reducible refine Kd.C_drew ?_) | exact HR119_3.out)) hb)
                                            have n15_ := Aside0.mk (Kd.C_below (by repeat (first | (with_reducible exact HR120_0.out) | (with_reducible refine Kd.C_alloc ?_ _) | (with_reducible refine Kd.C_drewN ?_ _) | (with_reducible refine Kd.C_drew ?_) | exact HR120_0.out)) hb)
                                            have n16_ := Aside0.mk (Kd.C_below (by repeat (first | (with_reducible exact HR120_3.out) | (with_reducible refine Kd.C_alloc ?_ _) | (with_reducible refine Kd.C_drewN ?_ _) | (with_reducible refine Kd.C_drew ?_) | exact HR120_3.out)) hb)
                                            have n17_ := Aside0.mk (Kd.C_below (by repeat (first | (with_reducible exact HR121_0.out) | (with_reducible refine Kd.C_alloc ?_ _) | (with_reducible refine Kd.C_drewN ?_ _) | (with_reducible refine Kd.C_drew ?_) | exact HR121_0.out)) hb)
                                            have n18_ := Aside0.mk (Kd.C_below (by repeat (first | (with_reducible exact HR121_3.out) | (with_reducible refine Kd.C_alloc ?_ _) | (with_reducible refine Kd.C_drewN ?_ _) | (with_reducible refine Kd.C_drew ?_) | exact HR121_3.out)) hb)
                                            have n19_ := Aside0.mk (below_step (by repeat (first | (with_reducible first | exact HB.out | apply below_alloc | apply pw_below_drewN | apply below_drew1 | refine below_set ?_ GE101.out) | exact HB.out)) hb)
                                            clear HO_9
                                            clear HO_11
                                            clear HL119_0
                                            clear HL119_3
                                            clear HL120_0
                                            clear HL120_3
                                            clear HL121_0
                                            clear HL121_3
                                            clear BK101
                                            clear HR113_0
                                            clear HR113_3
                                            clear HR114_0
                                            clear HR114_3
                                            clear HR119_0
                                            clear HR119_3
                                            clear HR120_0
                                            clear HR120_3
                                            clear HR121_0
                                            clear HR121_3
                                            clear HB
                                            have HO_9 := n0_
                                            have HO_11 := n1_
                                            have HL119_0 := n2_
                                            have HL119_3 := n3_
                                            have HL120_0 := n4_
                                            have HL120_3 := n5_
                                            have HL121_0 := n6_
                                            have HL121_3 := n7_
                                            have BK101 := n8_
                                            have HR113_0 := n9_
                                            have HR113_3 := n10_
                                            have HR114_0 := n11_
                                            have HR114_3 := n12_
                                            have HR119_0 := n13_
                                            have HR119_3 := n14_
                                            have HR120_0 := n15_
                                            have HR120_3 := n16_
                                            have HR121_0 := n17_
                                            have HR121_3 := n18_
                                            have HB := n19_
                                            clear n0_ n1_ n2_ n3_ n4_ n5_ n6_ n7_ n8_ n9_ n10_ n11_ n12_ n13_ n14_ n15_ n16_ n17_ n18_ n19_
                                            (try clear hb)
                                            (try clear hb2)
                                            (try clear hk)
                                            (try clear hi)
                                            refine hK.out _ _ ⟨HS0_, HS1_, HS2_, HS3_, HS4_, HS5_, HS6_, HS7_, HS8_, HS9_, HS10_, HS11_, HS12_, HS13_⟩ (fun hHeld => ?_)
                                            clear hK K
                                            refine norm_ (a' := ?_) ?_ ?_
                                            rotate_left
                                            · show Act.put _ (some 122) _ = _
                                              simp only [Act.put, List.setIfInBounds_toArray, List.set_cons_zero, List.set_cons_succ, i64_w, i32_w]
                                              rfl
                                            refine pure_ (i := 26) (N := some 123) (v := ?_) (a' := ?_) #[true, true, true, true, true, true, true, true, true, true, true, true, true, true, true, true, true, true, true, true, true, true, true, true, true, true, true, false] rfl rfl (any_of HT_.out (by kernel_rfl)) (fun _ _ _ h => h) (Or.inl ⟨by rfl, ?_⟩) ?_ ?_
                                            rotate_left
                                            · intro w'
                                              go_simp
                                              with_reducible rfl
                                            rotate_left
                                            · simp only [Act.put, List.setIfInBounds_toArray, List.set_cons_zero, List.set_cons_succ, i64_w, i32_w]
                                              rfl
                                            refine pure_ (i := 27) (N := some 124) (v := ?_) (a' := ?_) #[true, true, true, true, true, true, true, true, true, true, true, true, true, true, true, true, true, true, true, true, true, true, true, true, true, true, true, true] rfl rfl (any_of HT_.out (by kernel_rfl)) (fun _ _ _ h => h) (Or.inl ⟨by rfl, ?_⟩) ?_ ?_
                                            rotate_left
                                            · intro w'
                                              go_simp
                                              with_reducible rfl
                                            rotate_left
                                            · simp only [Act.put, List.setIfInBounds_toArray, List.set_cons_zero, List.set_cons_succ, i64_w, i32_w]
                                              rfl
                                            refine done_ (done_of HT_.out (by kernel_rfl)) ?_
                                            have p124 : 0 ≤ (x15_2 : Int) := of_decide_eq_true (by first | (with_reducible assumption) | assumption)
                                            have q124 : x15_2 < (t105.length : Int) := of_decide_eq_true (by first | (with_reducible assumption) | assumption)
                                            obtain ⟨ad124, A124_0, c124_0, A124_3, c124_3, e124, hx124_0, hx124_1, hx124_2, hx124_3, hl124_0, hi124_0, hl124_3, hi124_3⟩ := at_T38 (Kd.N_reads' HO_9.out).2.2 x15_2 p124 q124
                                            obtain rfl : ad113 = ad124 := (by injection e124)
                                            obtain ⟨ce124, hce124, hMe124, hcc124⟩ := Kd.N_get HO_9.out z38 x15_2 p124 (by first | exact q124 | exact of_decide_eq_true (by first | (with_reducible assumption) | assumption) | (have e_ := (Kd.N_reads' HO_9.out).1; omega))
                                            obtain ⟨ua124_0, uc124_0, ua124_3, uc124_3, rfl, ul124_0, ge124_0, ul124_3, ge124_3⟩ := k38_openF hMe124
                                            have hv124_0 := hcc124 0 _ rfl
                                            rw [Nat.add_zero] at hv124_0
                                            replace hv124_0 := Option.some.inj (hv124_0.symm.trans hx124_0)
                                            injection hv124_0 with hva_ hvn_ hvc_
                                            rw [hva_] at ge124_0
                                            rw [hvc_] at ul124_0
                                            have HL124_0 := Aside0.mk (show Kd.V k36 36 _ w.heap.size _ _ ((rd_T38 t105 x15_2).f0) from Kd.V_mk ul124_0 ge124_0)
                                            clear hva_ hvn_ hvc_ ge124_0 ul124_0
                                            have hv124_3 := hcc124 3 _ rfl
                                            rw [add_field _ _ 3 (by omega)] at hv124_3
                                            replace hv124_3 := Option.some.inj (hv124_3.symm.trans hx124_3)
                                            injection hv124_3 with hva_ hvn_ hvc_
                                            rw [hva_] at ge124_3
                                            rw [hvc_] at ul124_3
                                            have HL124_3 := Aside0.mk (show Kd.V k41 41 _ w.heap.size _ _ ((rd_T38 t105 x15_2).f2) from Kd.V_mk ul124_3 ge124_3)
                                            clear hva_ hvn_ hvc_ ge124_3 ul124_3
                                            clear hcc124 hce124
                                            have HR124_0 := Aside0.mk hi124_0
                                            have HC124_0 := Aside0.mk hl124_0
                                            clear hi124_0 hl124_0
                                            have HR124_3 := Aside0.mk hi124_3
                                            have HC124_3 := Aside0.mk hl124_3
                                            clear hi124_3 hl124_3
                                            replace p124 := eq_true p124
                                            replace q124 := eq_true q124
                                            try go_wp2
                                            go_roundg k4
                                            case measure => have := HJ4.out; have := HK2.out; have := HJ24.out; have := HK4.out; omega
                                            case rel => exact ⟨((wrap64 (x13_2 + (((rd_T38 t105 x15_2).f2).length : Int)))), (wrap64 (x15_2 + 1)), (by first | rfl | (simp; done) | (simp [*]; done)), (by first | rfl | (simp; done) | (simp [*]; done)), H', ⟨by have := HJ4.out; have := HK2.out; have := HJ24.out; have := HK4.out; omega⟩, ⟨by (with_reducible repeat (first | apply Kd.N_alloc | apply Kd.N_drewN | apply Kd.N_drew)); exact HO_9.out⟩, ⟨by (with_reducible repeat (first | apply Kd.N_alloc | apply Kd.N_drewN | apply Kd.N_drew)); exact HO_11.out⟩, ⟨by (with_reducible repeat (first | refine blk_drewN ?_ _ | refine blk_drew ?_ | refine blk_alloc ?_ _)); exact BK101.out⟩, ⟨by repeat (first | (with_reducible first | exact HB.out | apply below_alloc | apply pw_below_drewN | apply below_drew1 | refine below_set ?_ GE101.out) | exact HB.out)⟩⟩
                                    · replace c42 := Bool.eq_false_iff.mpr c42
                                      subst c42
                                      have H1 : (sennitlaw21_HunkContext.l2 k4 t102 (wrap64 (ji13)) t105 t109 (wrap64 (x13_2 + (((rd_T38 t105 x15_2).f2).length : Int))) 0 x15_2 x16_24 (wrap64 (x17_4 + 1))) = some r := by rw [if_neg (show ¬ (false = true) by decide)] at H; exact H
                                      clear H
                                      have H := H1
                                      clear H1
                                      have H' := Aside0.mk H
                                      clear H
                                      try go_wp2
                                      have n0_ := Aside0.mk (Kd.N_drew HO_9.out)
                                      have n1_ := Aside0.mk (Kd.N_drew HO_11.out)
                                      have n2_ := Aside0.mk (blk_drew BK101.out)
                                      have n3_ := Aside0.mk (Kd.C_drew HR113_0.out)
                                      have n4_ := Aside0.mk (Kd.C_drew HR113_3.out)
                                      have n5_ := Aside0.mk (Kd.C_drew HR114_0.out)
                                      have n6_ := Aside0.mk (Kd.C_drew HR114_3.out)
                                      have n7_ := Aside0.mk (below_drew1 HB.out)
                                      clear HO_9
                                      clear HO_11
                                      clear BK101
                                      clear HR113_0
                                      clear HR113_3
                                      clear HR114_0
                                      clear HR114_3
                                      clear HB
                                      have HO_9 := n0_
                                      have HO_11 := n1_
                                      have BK101 := n2_
                                      have HR113_0 := n3_
                                      have HR113_3 := n4_
                                      have HR114_0 := n5_
                                      have HR114_3 := n6_
                                      have HB := n7_
                                      clear n0_ n1_ n2_ n3_ n4_ n5_ n6_ n7_
                                      have p119 : 0 ≤ (x15_2 : Int) := of_decide_eq_true (by first | (with_reducible assumption) | assumption)
                                      have q119 : x15_2 < (t105.length : Int) := of_decide_eq_true (by first | (with_reducible assumption) | assumption)
                                      obtain ⟨ad119, A119_0, c119_0, A119_3, c119_3, e119, hx119_0, hx119_1, hx119_2, hx119_3, hl119_0, hi119_0, hl119_3, hi119_3⟩ := at_T38 (Kd.N_reads' HO_9.out).2.2 x15_2 p119 q119
                                      obtain rfl : ad113 = ad119 := (by injection e119)
                                      obtain ⟨ce119, hce119, hMe119, hcc119⟩ := Kd.N_get HO_9.out z38 x15_2 p119 (by first | exact q119 | exact of_decide_eq_true (by first | (with_reducible assumption) | assumption) | (have e_ := (Kd.N_reads' HO_9.out).1; omega))
                                      obtain ⟨ua119_0, uc119_0, ua119_3, uc119_3, rfl, ul119_0, ge119_0, ul119_3, ge119_3⟩ := k38_openF hMe119
                                      have hv119_0 := hcc119 0 _ rfl
                                      rw [Nat.add_zero] at hv119_0
                                      replace hv119_0 := Option.some.inj (hv119_0.symm.trans hx119_0)
                                      injection hv119_0 with hva_ hvn_ hvc_
                                      rw [hva_] at ge119_0
                                      rw [hvc_] at ul119_0
                                      have HL119_0 := Aside0.mk (show Kd.V k36 36 _ w.heap.size _ _ ((rd_T38 t105 x15_2).f0) from Kd.V_mk ul119_0 ge119_0)
                                      clear hva_ hvn_ hvc_ ge119_0 ul119_0
                                      have hv119_3 := hcc119 3 _ rfl
                                      rw [add_field _ _ 3 (by omega)] at hv119_3
                                      replace hv119_3 := Option.some.inj (hv119_3.symm.trans hx119_3)
                                      injection hv119_3 with hva_ hvn_ hvc_
                                      rw [hva_] at ge119_3
                                      rw [hvc_] at ul119_3
                                      have HL119_3 := Aside0.mk (show Kd.V k41 41 _ w.heap.size _ _ ((rd_T38 t105 x15_2).f2) from Kd.V_mk ul119_3 ge119_3)
                                      clear hva_ hvn_ hvc_ ge119_3 ul119_3
                                      clear hcc119 hce119
                                      have HR119_0 := Aside0.mk hi119_0
                                      have HC119_0 := Aside0.mk hl119_0
                                      clear hi119_0 hl119_0
                                      have HR119_3 := Aside0.mk hi119_3
                                      have HC119_3 := Aside0.mk hl119_3
                                      clear hi119_3 hl119_3
                                      replace p119 := eq_true p119
                                      replace q119 := eq_true q119
                                      have p120 : 0 ≤ (x15_2 : Int) := of_decide_eq_true (by first | (with_reducible assumption) | assumption)
                                      have q120 : x15_2 < (t105.length : Int) := of_decide_eq_true (by first | (with_reducible assumption) | assumption)
                                      obtain ⟨ad120, A120_0, c120_0, A120_3, c120_3, e120, hx120_0, hx120_1, hx120_2, hx120_3, hl120_0, hi120_0, hl120_3, hi120_3⟩ := at_T38 (Kd.N_reads' HO_9.out).2.2 x15_2 p120 q120
                                      obtain rfl : ad113 = ad120 := (by injection e120)
                                      obtain ⟨ce120, hce120, hMe120, hcc120⟩ := Kd.N_get HO_9.out z38 x15_2 p120 (by first | exact q120 | exact of_decide_eq_true (by first | (with_reducible assumption) | assumption) | (have e_ := (Kd.N_reads' HO_9.out).1; omega))
                                      obtain ⟨ua120_0, uc120_0, ua120_3, uc120_3, rfl, ul120_0, ge120_0, ul120_3, ge120_3⟩ := k38_openF hMe120
                                      have hv120_0 := hcc120 0 _ rfl
                                      rw [Nat.add_zero] at hv120_0
                                      replace hv120_0 := Option.some.inj (hv120_0.symm.trans hx120_0)
                                      injection hv120_0 with hva_ hvn_ hvc_
                                      rw [hva_] at ge120_0
                                      rw [hvc_] at ul120_0
                                      have HL120_0 := Aside0.mk (show Kd.V k36 36 _ w.heap.size _ _ ((rd_T38 t105 x15_2).f0) from Kd.V_mk ul120_0 ge120_0)
                                      clear hva_ hvn_ hvc_ ge120_0 ul120_0
                                      have hv120_3 := hcc120 3 _ rfl
                                      rw [add_field _ _ 3 (by omega)] at hv120_3
                                      replace hv120_3 := Option.some.inj (hv120_3.symm.trans hx120_3)
                                      injection hv120_3 with hva_ hvn_ hvc_
                                      rw [hva_] at ge120_3
                                      rw [hvc_] at ul120_3
                                      have HL120_3 := Aside0.mk (show Kd.V k41 41 _ w.heap.size _ _ ((rd_T38 t105 x15_2).f2) from Kd.V_mk ul120_3 ge120_3)
                                      clear hva_ hvn_ hvc_ ge120_3 ul120_3
                                      clear hcc120 hce120
                                      have HR120_0 := Aside0.mk hi120_0
                                      have HC120_0 := Aside0.mk hl120_0
                                      clear hi120_0 hl120_0
                                      have HR120_3 := Aside0.mk hi120_3
                                      have HC120_3 := Aside0.mk hl120_3
                                      clear hi120_3 hl120_3
                                      replace p120 := eq_true p120
                                      replace q120 := eq_true q120
                                      have ea_ := Option.some.inj (hx119_0.symm.trans hx120_0)
                                      injection ea_ with ea_ en_ ec_
                                      subst ea_
                                      subst ec_
                                      clear en_
                                      have ea_ := Option.some.inj (hx119_3.symm.trans hx120_3)
                                      injection ea_ with ea_ en_ ec_
                                      subst ea_
                                      subst ec_
                                      clear en_
                                      have p121 : 0 ≤ (x15_2 : Int) := of_decide_eq_true (by first | (with_reducible assumption) | assumption)
                                      have q121 : x15_2 < (t105.length : Int) := of_decide_eq_true (by first | (with_reducible assumption) | assumption)
                                      obtain ⟨ad121, A121_0, c121_0, A121_3, c121_3, e121, hx121_0, hx121_1, hx121_2, hx121_3, hl121_0, hi121_0, hl121_3, hi121_3⟩ := at_T38 (Kd.N_reads' HO_9.out).2.2 x15_2 p121 q121
                                      obtain rfl : ad113 = ad121 := (by injection e121)
                                      obtain ⟨ce121, hce121, hMe121, hcc121⟩ := Kd.N_get HO_9.out z38 x15_2 p121 (by first | exact q121 | exact of_decide_eq_true (by first | (with_reducible assumption) | assumption) | (have e_ := (Kd.N_reads' HO_9.out).1; omega))
                                      obtain ⟨ua121_0, uc121_0, ua121_3, uc121_3, rfl, ul121_0, ge121_0, ul121_3, ge121_3⟩ := k38_openF hMe121
                                      have hv121_0 := hcc121 0 _ rfl
                                      rw [Nat.add_zero] at hv121_0
                                      replace hv121_0 := Option.some.inj (hv121_0.symm.trans hx121_0)
                                      injection hv121_0 with hva_ hvn_ hvc_
                                      rw [hva_] at ge121_0
                                      rw [hvc_] at ul121_0
                                      have HL121_0 := Aside0.mk (show Kd.V k36 36 _ w.heap.size _ _ ((rd_T38 t105 x15_2).f0) from Kd.V_mk ul121_0 ge121_0)
                                      clear hva_ hvn_ hvc_ ge121_0 ul121_0
                                      have hv121_3 := hcc121 3 _ rfl
                                      rw [add_field _ _ 3 (by omega)] at hv121_3
                                      replace hv121_3 := Option.some.inj (hv121_3.symm.trans hx121_3)
                                      injection hv121_3 with hva_ hvn_ hvc_
                                      rw [hva_] at ge121_3
                                      rw [hvc_] at ul121_3
                                      have HL121_3 := Aside0.mk (show Kd.V k41 41 _ w.heap.size _ _ ((rd_T38 t105 x15_2).f2) from Kd.V_mk ul121_3 ge121_3)
                                      clear hva_ hvn_ hvc_ ge121_3 ul121_3
                                      clear hcc121 hce121
                                      have HR121_0 := Aside0.mk hi121_0
                                      have HC121_0 := Aside0.mk hl121_0
                                      clear hi121_0 hl121_0
                                      have HR121_3 := Aside0.mk hi121_3
                                      have HC121_3 := Aside0.mk hl121_3
                                      clear hi121_3 hl121_3
                                      replace p121 := eq_true p121
                                      replace q121 := eq_true q121
                                      have ea_ := Option.some.inj (hx119_0.symm.trans hx121_0)
                                      injection ea_ with ea_ en_ ec_
                                      subst ea_
                                      subst ec_
                                      clear en_
                                      have ea_ := Option.some.inj (hx119_3.symm.trans hx121_3)
                                      injection ea_ with ea_ en_ ec_
                                      subst ea_
                                      subst ec_
                                      clear en_
                                      have p122 : 0 ≤ ((ji38) : Int) := of_decide_eq_true (by first | (with_reducible assumption) | assumption)
                                      have q122 : (ji38) < (((rd_T38 t105 x15_2).f2).length : Int) := of_decide_eq_true (by first | (with_reducible assumption) | assumption)
                                      obtain ⟨ad122, e122, hx122_0, hx122_1⟩ := at_T41 (by repeat (first | (with_reducible exact HR120_3.out) | (with_reducible refine Kd.C_alloc ?_ _) | (with_reducible refine Kd.C_drewN ?_ _) | (with_reducible refine Kd.C_drew ?_) | exact HR120_3.out)) (ji38) p122 q122
                                      cases e122
                                      replace p122 := eq_true p122
                                      replace q122 := eq_true q122
                                      refine start_ (n := 28) (S := fun w' => w'.cell? (ad113.add ((x15_2).toNat * 4)) = some (.slice A119_0 ((rd_T38 t105 x15_2).f0).length c119_0) ∧ w'.cell? ⟨(ad113.add ((x15_2).toNat * 4)).block, (ad113.add ((x15_2).toNat * 4)).off + 1, none⟩ = some (.int .i64 ((rd_T38 t105 x15_2).f1.f0)) ∧ w'.cell? ⟨(ad113.add ((x15_2).toNat * 4)).block, (ad113.add ((x15_2).toNat * 4)).off + 2, none⟩ = some (.int .i64 ((rd_T38 t105 x15_2).f1.f1)) ∧ w'.cell? ⟨(ad113.add ((x15_2).toNat * 4)).block, (ad113.add ((x15_2).toNat * 4)).off + 3, none⟩ = some (.slice (some ad122) ((rd_T38 t105 x15_2).f2).length c119_3) ∧ w'.cell? (ad113.add ((x15_2).toNat * 4)) = some (.slice A119_0 ((rd_T38 t105 x15_2).f0).length c119_0) ∧ w'.cell? ⟨(ad113.add ((x15_2).toNat * 4)).block, (ad113.add ((x15_2).toNat * 4)).off + 1, none⟩ = some (.int .i64 ((rd_T38 t105 x15_2).f1.f0)) ∧ w'.cell? ⟨(ad113.add ((x15_2).toNat * 4)).block, (ad113.add ((x15_2).toNat * 4)).off + 2, none⟩ = some (.int .i64 ((rd_T38 t105 x15_2).f1.f1)) ∧ w'.cell? ⟨(ad113.add ((x15_2).toNat * 4)).block, (ad113.add ((x15_2).toNat * 4)).off + 3, none⟩ = some (.slice (some ad122) ((rd_T38 t105 x15_2).f2).length c119_3) ∧ w'.cell? (ad113.add ((x15_2).toNat * 4)) = some (.slice A119_0 ((rd_T38 t105 x15_2).f0).length c119_0) ∧ w'.cell? ⟨(ad113.add ((x15_2).toNat * 4)).block, (ad113.add ((x15_2).toNat * 4)).off + 1, none⟩ = some (.int .i64 ((rd_T38 t105 x15_2).f1.f0)) ∧ w'.cell? ⟨(ad113.add ((x15_2).toNat * 4)).block, (ad113.add ((x15_2).toNat * 4)).off + 2, none⟩ = some (.int .i64 ((rd_T38 t105 x15_2).f1.f1)) ∧ w'.cell? ⟨(ad113.add ((x15_2).toNat * 4)).block, (ad113.add ((x15_2).toNat * 4)).off + 3, none⟩ = some (.slice (some ad122) ((rd_T38 t105 x15_2).f2).length c119_3) ∧ w'.cell? (ad122.add (((ji38)).toNat * 2)) = some (.string ((rd_T41 ((rd_T38 t105 x15_2).f2) (ji38)).f0)) ∧ w'.cell? ⟨(ad122.add (((ji38)).toNat * 2)).block, (ad122.add (((ji38)).toNat * 2)).off + 1, none⟩ = some (.string ((rd_T41 ((rd_T38 t105 x15_2).f2) (ji38)).f1))) (ds := []) #[false, false, false, false, false, false, false, false, false, false, false, false, false, false, false, false, false, false, false, false, false, false, false, false, false, false, false, false] (by kernel_rfl) rfl rfl ⟨hx119_0, hx119_1, hx119_2, hx119_3, hx120_0, hx120_1, hx120_2, hx120_3, hx121_0, hx121_1, hx121_2, hx121_3, hx122_0, hx122_1⟩ (fun hHeld => ?_); refine with_tabW sennitlaw21_HunkContext.tab19 sennitlaw21_HunkContext.bits19 (fun HT_ HW_ => ?_)
                                      generalize wr.drew = w54 at HO_9 HO_11 BK101 HR113_0 HR113_3 HR114_0 HR114_3 HB HL119_0 HL119_3 HL120_0 HL120_3 HL121_0 HL121_3 HR119_0 HR119_3 HR120_0 HR120_3 HR121_0 HR121_3 hx119_0 hx119_1 hx119_2 hx119_3 hx120_0 hx120_1 hx120_2 hx120_3 hx121_0 hx121_1 hx121_2 hx121_3 hx122_0 hx122_1 hHeld ⊢
                                      refine pure_ (i := 0) (N := some 97) (v := ?_) (a' := ?_) #[true, false, false, false, false, false, false, false, false, false, false, false, false, false, false, false, false, false, false, false, false, false, false, false, false, false, false, false] rfl rfl (any_of HT_.out (by kernel_rfl)) (fun _ _ _ h => h) (Or.inl ⟨by rfl, ?_⟩) ?_ ?_
                                      rotate_left
                                      · intro w'
                                        go_simp
                                        with_reducible rfl
                                      rotate_left
                                      · simp only [Act.put, List.setIfInBounds_toArray, List.set_cons_zero, List.set_cons_succ, i64_w, i32_w]
                                        rfl
                                      refine pure_ (i := 1) (N := some 98) (v := ?_) (a' := ?_) #[true, true, false, false, false, false, false, false, false, false, false, false, false, false, false, false, false, false, false, false, false, false, false, false, false, false, false, false] rfl rfl (any_of HT_.out (by kernel_rfl)) (fun _ _ _ h => h) (Or.inl ⟨by rfl, ?_⟩) ?_ ?_
                                      rotate_left
                                      · intro w'
                                        go_simp
                                        with_reducible rfl
                                      rotate_left
                                      · simp only [Act.put, List.setIfInBounds_toArray, List.set_cons_zero, List.set_cons_succ, i64_w, i32_w]
                                        rfl
                                      refine pure_ (i := 2) (N := some 99) (v := ?_) (a' := ?_) #[true, true, true, false, false, false, false, false, false, false, false, false, false, false, false, false, false, false, false, false, false, false, false, false, false, false, false, false] rfl rfl (any_of HT_.out (by kernel_rfl)) (fun _ _ _ h => h) (Or.inl ⟨by rfl, ?_⟩) ?_ ?_
                                      rotate_left
                                      · intro w'
                                        go_simp
                                        with_reducible rfl
                                      rotate_left
                                      · simp only [Act.put, List.setIfInBounds_toArray, List.set_cons_zero, List.set_cons_succ, i64_w, i32_w]
                                        rfl
                                      refine pure_ (i := 3) (N := some 100) (v := ?_) (a' := ?_) #[true, true, true, true, false, false, false, false, false, false, false, false, false, false, false, false, false, false, false, false, false, false, false, false, false, false, false, false] rfl rfl (any_of HT_.out (by kernel_rfl)) (fun _ _ _ h => h) (Or.inl ⟨by rfl, ?_⟩) ?_ ?_
                                      rotate_left
                                      · intro w'
                                        go_simp
                                        with_reducible rfl
                                      rotate_left
                                      · simp only [Act.put, List.setIfInBounds_toArray, List.set_cons_zero, List.set_cons_succ, i64_w, i32_w]
                                        rfl
                                      refine pure_ (i := 4) (N := some 101) (v := ?_) (a' := ?_) #[true, true, true, true, true, false, false, false, false, false, false, false, false, false, false, false, false, false, false, false, false, false, false, false, false, false, false, false] rfl rfl (any_of HT_.out (by kernel_rfl)) (fun _ _ _ h => h) (Or.inl ⟨by rfl, ?_⟩) ?_ ?_
                                      rotate_left
                                      · intro w'
                                        go_simp
                                        with_reducible rfl
                                      rotate_left
                                      · simp only [Act.put, List.setIfInBounds_toArray, List.set_cons_zero, List.set_cons_succ, i64_w, i32_w]
                                        rfl
                                      refine take_ (i := 5) (N := some 102) (v := ?_) (a' := ?_) #[true, true, true, true, true, true, false, false, false, false, false, false, false, false, false, false, false, false, false, false, false, false, false, false, false, false, false, false] rfl rfl (take_ofW HT_.out HW_.out (by kernel_rfl)) (fun _ _ _ h => h) (Or.inl ⟨by rfl, ?_⟩) hHeld ?_ ?_
                                      rotate_left
                                      · rintro w' ⟨s0, s1, s2, s3, s4, s5, s6, s7, s8, s9, s10, s11, s12, s13⟩
                                        go_simp
                                        with_reducible rfl
                                      rotate_left
                                      · simp only [Act.put, List.setIfInBounds_toArray, List.set_cons_zero, List.set_cons_succ, i64_w, i32_w]
                                        rfl
                                      refine pure_ (i := 6) (N := some 103) (v := ?_) (a' := ?_) #[true, true, true, true, true, true, true, false, false, false, false, false, false, false, false, false, false, false, false, false, false, false, false, false, false, false, false, false] rfl rfl (any_of HT_.out (by kernel_rfl)) (fun _ _ _ h => h) (Or.inl ⟨by rfl, ?_⟩) ?_ ?_
                                      rotate_left
                                      · intro w'
                                        go_simp
                                        with_reducible rfl
                                      rotate_left
                                      · simp only [Act.put, List.setIfInBounds_toArray, List.set_cons_zero, List.set_cons_succ, i64_w, i32_w]
                                        rfl
                                      refine pure_ (i := 7) (N := some 104) (v := ?_) (a' := ?_) #[true, true, true, true, true, true, true, true, false, false, false, false, false, false, false, false, false, false, false, false, false, false, false, false, false, false, false, false] rfl rfl (any_of HT_.out (by kernel_rfl)) (fun _ _ _ h => h) (Or.inl ⟨by rfl, ?_⟩) ?_ ?_
                                      rotate_left
                                      · intro w'
                                        go_simp
                                        with_reducible rfl
                                      rotate_left
                                      · simp only [Act.put, List.setIfInBounds_toArray, List.set_cons_zero, List.set_cons_succ, i64_w, i32_w]
                                        rfl
                                      refine pure_ (i := 8) (N := some 105) (v := ?_) (a' := ?_) #[true, true, true, true, true, true, true, true, true, false, false, false, false, false, false, false, false, false, false, false, false, false, false, false, false, false, false, false] rfl rfl (any_of HT_.out (by kernel_rfl)) (fun _ _ _ h => h) (Or.inl ⟨by rfl, ?_⟩) ?_ ?_
                                      rotate_left
                                      · intro w'
                                        go_simp
                                        with_reducible rfl
                                      rotate_left
                                      · simp only [Act.put, List.setIfInBounds_toArray, List.set_cons_zero, List.set_cons_succ, i64_w, i32_w]
                                        rfl
                                      refine pure_ (i := 9) (N := some 106) (v := ?_) (a' := ?_) #[true, true, true, true, true, true, true, true, true, true, false, false, false, false, false, false, false, false, false, false, false, false, false, false, false, false, false, false] rfl rfl (any_of HT_.out (by kernel_rfl)) (fun _ _ _ h => h) (Or.inl ⟨by rfl, ?_⟩) ?_ ?_
                                      rotate_left
                                      · intro w'
                                        go_simp
                                        with_reducible rfl
                                      rotate_left
                                      · simp only [Act.put, List.setIfInBounds_toArray, List.set_cons_zero, List.set_cons_succ, i64_w, i32_w]
                                        rfl
                                      refine pure_ (i := 10) (N := some 107) (v := ?_) (a' := ?_) #[true, true, true, true, true, true, true, true, true, true, true, false, false, false, false, false, false, false, false, false, false, false, false, false, false, false, false, false] rfl rfl (any_of HT_.out (by kernel_rfl)) (fun _ _ _ h => h) (Or.inl ⟨by rfl, ?_⟩) ?_ ?_
                                      rotate_left
                                      · intro w'
                                        go_simp
                                        with_reducible rfl
                                      rotate_left
                                      · simp only [Act.put, List.setIfInBounds_toArray, List.set_cons_zero, List.set_cons_succ, i64_w, i32_w]
                                        rfl
                                      refine pure_ (i := 11) (N := some 108) (v := ?_) (a' := ?_) #[true, true, true, true, true, true, true, true, true, true, true, true, false, false, false, false, false, false, false, false, false, false, false, false, false, false, false, false] rfl rfl (any_of HT_.out (by kernel_rfl)) (fun _ _ _ h => h) (Or.inl ⟨by rfl, ?_⟩) ?_ ?_
                                      rotate_left
                                      · intro w'
                                        go_simp
                                        with_reducible rfl
                                      rotate_left
                                      · simp only [Act.put, List.setIfInBounds_toArray, List.set_cons_zero, List.set_cons_succ, i64_w, i32_w]
                                        rfl
                                      refine pure_ (i := 12) (N := some 109) (v := ?_) (a' := ?_) #[true, true, true, true, true, true, true, true, true, true, true, true, true, false, false, false, false, false, false, false, false, false, false, false, false, false, false, false] rfl rfl (any_of HT_.out (by kernel_rfl)) (fun _ _ _ h => h) (Or.inl ⟨by rfl, ?_⟩) ?_ ?_
                                      rotate_left
                                      · intro w'
                                        go_simp
                                        with_reducible rfl
                                      rotate_left
                                      · simp only [Act.put, List.setIfInBounds_toArray, List.set_cons_zero, List.set_cons_succ, i64_w, i32_w]
                                        rfl
                                      refine pure_ (i := 14) (N := some 111) (v := ?_) (a' := ?_) #[true, true, true, true, true, true, true, true, true, true, true, true, true, false, true, false, false, false, false, false, false, false, false, false, false, false, false, false] rfl rfl (any_of HT_.out (by kernel_rfl)) (fun _ _ _ h => h) (Or.inl ⟨by rfl, ?_⟩) ?_ ?_
                                      rotate_left
                                      · intro w'
                                        go_simp
                                        with_reducible rfl
                                      rotate_left
                                      · simp only [Act.put, List.setIfInBounds_toArray, List.set_cons_zero, List.set_cons_succ, i64_w, i32_w]
                                        rfl
                                      refine pure_ (i := 15) (N := some 112) (v := ?_) (a' := ?_) #[true, true, true, true, true, true, true, true, true, true, true, true, true, false, true, true, false, false, false, false, false, false, false, false, false, false, false, false] rfl rfl (any_of HT_.out (by kernel_rfl)) (fun _ _ _ h => h) (Or.inl ⟨by rfl, ?_⟩) ?_ ?_
                                      rotate_left
                                      · intro w'
                                        go_simp
                                        with_reducible rfl
                                      rotate_left
                                      · simp only [Act.put, List.setIfInBounds_toArray, List.set_cons_zero, List.set_cons_succ, i64_w, i32_w]
                                        rfl
                                      refine pure_ (i := 16) (N := some 113) (v := ?_) (a' := ?_) #[true, true, true, true, true, true, true, true, true, true, true, true, true, false, true, true, true, false, false, false, false, false, false, false, false, false, false, false] rfl rfl (any_of HT_.out (by kernel_rfl)) (fun _ _ _ h => h) (Or.inl ⟨by rfl, ?_⟩) ?_ ?_
                                      rotate_left
                                      · intro w'
                                        go_simp
                                        with_reducible rfl
                                      rotate_left
                                      · simp only [Act.put, List.setIfInBounds_toArray, List.set_cons_zero, List.set_cons_succ, i64_w, i32_w]
                                        rfl
                                      refine pure_ (i := 17) (N := some 114) (v := ?_) (a' := ?_) #[true, true, true, true, true, true, true, true, true, true, true, true, true, false, true, true, true, true, false, false, false, false, false, false, false, false, false, false] rfl rfl (any_of HT_.out (by kernel_rfl)) (fun _ _ _ h => h) (Or.inl ⟨by rfl, ?_⟩) ?_ ?_
                                      rotate_left
                                      · intro w'
                                        go_simp
                                        with_reducible rfl
                                      rotate_left
                                      · simp only [Act.put, List.setIfInBounds_toArray, List.set_cons_zero, List.set_cons_succ, i64_w, i32_w]
                                        rfl
                                      refine pure_ (i := 21) (N := some 118) (v := ?_) (a' := ?_) #[true, true, true, true, true, true, true, true, true, true, true, true, true, false, true, true, true, true, false, false, false, true, false, false, false, false, false, false] rfl rfl (any_of HT_.out (by kernel_rfl)) (fun _ _ _ h => h) (Or.inl ⟨by rfl, ?_⟩) ?_ ?_
                                      rotate_left
                                      · intro w'
                                        go_simp
                                        with_reducible rfl
                                      rotate_left
                                      · simp only [Act.put, List.setIfInBounds_toArray, List.set_cons_zero, List.set_cons_succ, i64_w, i32_w]
                                        rfl
                                      refine take_ (i := 13) (N := some 110) (v := ?_) (a' := ?_) #[true, true, true, true, true, true, true, true, true, true, true, true, true, true, true, true, true, true, false, false, false, true, false, false, false, false, false, false] rfl rfl (take_ofW HT_.out HW_.out (by kernel_rfl)) (fun _ _ _ h => h) (Or.inl ⟨by rfl, ?_⟩) hHeld ?_ ?_
                                      rotate_left
                                      · rintro w' ⟨s0, s1, s2, s3, s4, s5, s6, s7, s8, s9, s10, s11, s12, s13⟩
                                        go_simp
                                        with_reducible rfl
                                      rotate_left
                                      · simp only [Act.put, List.setIfInBounds_toArray, List.set_cons_zero, List.set_cons_succ, i64_w, i32_w]
                                        rfl
                                      refine take_ (i := 18) (N := some 115) (v := ?_) (a' := ?_) #[true, true, true, true, true, true, true, true, true, true, true, true, true, true, true, true, true, true, true, false, false, true, false, false, false, false, false, false] rfl rfl (take_ofW HT_.out HW_.out (by kernel_rfl)) (fun _ _ _ h => h) (Or.inl ⟨by rfl, ?_⟩) hHeld ?_ ?_
                                      rotate_left
                                      · rintro w' ⟨s0, s1, s2, s3, s4, s5, s6, s7, s8, s9, s10, s11, s12, s13⟩
                                        go_simp
                                        with_reducible rfl
                                      rotate_left
                                      · simp only [Act.put, List.setIfInBounds_toArray, List.set_cons_zero, List.set_cons_succ, i64_w, i32_w]
                                        rfl
                                      refine pure_ (i := 19) (N := some 116) (v := ?_) (a' := ?_) #[true, true, true, true, true, true, true, true, true, true, true, true, true, true, true, true, true, true, true, true, false, true, false, false, false, false, false, false] rfl rfl (any_of HT_.out (by kernel_rfl)) (fun _ _ _ h => h) (Or.inl ⟨by rfl, ?_⟩) ?_ ?_
                                      rotate_left
                                      · intro w'
                                        go_simp
                                        with_reducible rfl
                                      rotate_left
                                      · simp only [Act.put, List.setIfInBounds_toArray, List.set_cons_zero, List.set_cons_succ, i64_w, i32_w]
                                        rfl
                                      refine pure_ (i := 20) (N := some 117) (v := ?_) (a' := ?_) #[true, true, true, true, true, true, true, true, true, true, true, true, true, true, true, true, true, true, true, true, true, true, false, false, false, false, false, false] rfl rfl (any_of HT_.out (by kernel_rfl)) (fun _ _ _ h => h) (Or.inl ⟨by rfl, ?_⟩) ?_ ?_
                                      rotate_left
                                      · intro w'
                                        go_simp
                                        with_reducible rfl
                                      rotate_left
                                      · simp only [Act.put, List.setIfInBounds_toArray, List.set_cons_zero, List.set_cons_succ, i64_w, i32_w]
                                        rfl
                                      refine pure_ (i := 22) (N := some 119) (v := ?_) (a' := ?_) #[true, true, true, true, true, true, true, true, true, true, true, true, true, true, true, true, true, true, true, true, true, true, true, false, false, false, false, false] rfl rfl (any_of HT_.out (by kernel_rfl)) (fun _ _ _ h => h) (Or.inl ⟨by rfl, ?_⟩) ?_ ?_
                                      rotate_left
                                      · intro w'
                                        go_simp
                                        with_reducible rfl
                                      rotate_left
                                      · simp only [Act.put, List.setIfInBounds_toArray, List.set_cons_zero, List.set_cons_succ, i64_w, i32_w]
                                        rfl
                                      refine pure_ (i := 23) (N := some 120) (v := ?_) (a' := ?_) #[true, true, true, true, true, true, true, true, true, true, true, true, true, true, true, true, true, true, true, true, true, true, true, true, false, false, false, false] rfl rfl (any_of HT_.out (by kernel_rfl)) (fun _ _ _ h => h) (Or.inl ⟨by rfl, ?_⟩) ?_ ?_
                                      rotate_left
                                      · intro w'
                                        go_simp
                                        with_reducible rfl
                                      rotate_left
                                      · simp only [Act.put, List.setIfInBounds_toArray, List.set_cons_zero, List.set_cons_succ, i64_w, i32_w]
                                        rfl
                                      refine take_ (i := 24) (N := some 121) (v := ?_) (a' := ?_) #[true, true, true, true, true, true, true, true, true, true, true, true, true, true, true, true, true, true, true, true, true, true, true, true, true, false, false, false] rfl rfl (take_ofW HT_.out HW_.out (by kernel_rfl)) (fun _ _ _ h => h) (Or.inl ⟨by rfl, ?_⟩) hHeld ?_ ?_
                                      rotate_left
                                      · rintro w' ⟨s0, s1, s2, s3, s4, s5, s6, s7, s8, s9, s10, s11, s12, s13⟩
                                        go_simp
                                        with_reducible rfl
                                      rotate_left
                                      · simp only [Act.put, List.setIfInBounds_toArray, List.set_cons_zero, List.set_cons_succ, i64_w, i32_w]
                                        rfl
                                      refine one_ (i := 25) (N := some 122) #[true, true, true, true, true, true, true, true, true, true, true, true, true, true, true, true, true, true, true, true, true, true, true, true, true, true, false, false] rfl rfl (one_of HT_.out (by kernel_rfl)) (by decide) (fun K hK => ?_)
                                      refine goes_ Tryd.func20 (by kernel_rfl) rfl #[.agg #[.string ((rd_T41 ((rd_T38 t105 x15_2).f2) (ji38)).f0), .string ((rd_T41 ((rd_T38 t105 x15_2).f2) (ji38)).f1)]] (by rfl) rfl rfl (by (try simp only [List.map_toArray, List.map_cons, List.map_nil]); first | done | (simp only [hji38]; rfl) | rfl | (simp only [List.length_drop, List.length_take]; rfl)) ?_
                                      with_reducible refine (sennitref21_Marked.calls k4 ((rd_T41 ((rd_T38 t105 x15_2).f2) (ji38)).f0) ((rd_T41 ((rd_T38 t105 x15_2).f2) (ji38)).f1) false _ A41.out).mono ?_
                                      rintro e w55 ⟨rfl, hb⟩
                                      have HS0_ := (hb.cell (World.block_lt_of_cell? _ _ (hHeld.1))).trans (hHeld.1)
                                      have HS1_ := (hb.cell (World.block_lt_of_cell? _ _ (hHeld.2.1))).trans (hHeld.2.1)
                                      have HS2_ := (hb.cell (World.block_lt_of_cell? _ _ (hHeld.2.2.1))).trans (hHeld.2.2.1)
                                      have HS3_ := (hb.cell (World.block_lt_of_cell? _ _ (hHeld.2.2.2.1))).trans (hHeld.2.2.2.1)
                                      have HS4_ := (hb.cell (World.block_lt_of_cell? _ _ (hHeld.2.2.2.2.1))).trans (hHeld.2.2.2.2.1)
                                      have HS5_ := (hb.cell (World.block_lt_of_cell? _ _ (hHeld.2.2.2.2.2.1))).trans (hHeld.2.2.2.2.2.1)
                                      have HS6_ := (hb.cell (World.block_lt_of_cell? _ _ (hHeld.2.2.2.2.2.2.1))).trans (hHeld.2.2.2.2.2.2.1)
                                      have HS7_ := (hb.cell (World.block_lt_of_cell? _ _ (hHeld.2.2.2.2.2.2.2.1))).trans (hHeld.2.2.2.2.2.2.2.1)
                                      have HS8_ := (hb.cell (World.block_lt_of_cell? _ _ (hHeld.2.2.2.2.2.2.2.2.1))).trans (hHeld.2.2.2.2.2.2.2.2.1)
                                      have HS9_ := (hb.cell (World.block_lt_of_cell? _ _ (hHeld.2.2.2.2.2.2.2.2.2.1))).trans (hHeld.2.2.2.2.2.2.2.2.2.1)
                                      have HS10_ := (hb.cell (World.block_lt_of_cell? _ _ (hHeld.2.2.2.2.2.2.2.2.2.2.1))).trans (hHeld.2.2.2.2.2.2.2.2.2.2.1)
                                      have HS11_ := (hb.cell (World.block_lt_of_cell? _ _ (hHeld.2.2.2.2.2.2.2.2.2.2.2.1))).trans (hHeld.2.2.2.2.2.2.2.2.2.2.2.1)
                                      have HS12_ := (hb.cell (World.block_lt_of_cell? _ _ (hHeld.2.2.2.2.2.2.2.2.2.2.2.2.1))).trans (hHeld.2.2.2.2.2.2.2.2.2.2.2.2.1)
                                      have HS13_ := (hb.cell (World.block_lt_of_cell? _ _ (hHeld.2.2.2.2.2.2.2.2.2.2.2.2.2))).trans (hHeld.2.2.2.2.2.2.2.2.2.2.2.2.2)
                                      refine ⟨_, rfl, ?_⟩
                                      have n0_ := Aside0.mk (Kd.N_below (by (with_reducible repeat (first | apply Kd.N_alloc | apply Kd.N_drewN | apply Kd.N_drew)); exact HO_9.out) hb)
                                      have n1_ := Aside0.mk (Kd.N_below (by (with_reducible repeat (first | apply Kd.N_alloc | apply Kd.N_drewN | apply Kd.N_drew)); exact HO_11.out) hb)
                                      have n2_ := Aside0.mk (Kd.V_below (by (with_reducible repeat (first | apply Kd.V_alloc | apply Kd.V_drewN | apply Kd.V_drew)); exact HL119_0.out) hb)
                                      have n3_ := Aside0.mk (Kd.V_below (by (with_reducible repeat (first | apply Kd.V_alloc | apply Kd.V_drewN | apply Kd.V_drew)); exact HL119_3.out) hb)
                                      have n4_ := Aside0.mk (Kd.V_below (by (with_reducible repeat (first | apply Kd.V_alloc | apply Kd.V_drewN | apply Kd.V_drew)); exact HL120_0.out) hb)
                                      have n5_ := Aside0.mk (Kd.V_below (by (with_reducible repeat (first | apply Kd.V_alloc | apply Kd.V_drewN | apply Kd.V_drew)); exact HL120_3.out) hb)
                                      have n6_ := Aside0.mk (Kd.V_below (by (with_reducible repeat (first | apply Kd.V_alloc | apply Kd.V_drewN | apply Kd.V_drew)); exact HL121_0.out) hb)
                                      have n7_ := Aside0.mk (Kd.V_below (by (with_reducible repeat (first | apply Kd.V_alloc | apply Kd.V_drewN | apply Kd.V_drew)); exact HL121_3.out) hb)
                                      have n8_ := Aside0.mk (blk_below (g := gb101) (o := .cells #[.int .u8 a1_0, .int .u8 a1_1] 47 (0, 0)) (by (with_reducible repeat (first | refine blk_drewN ?_ _ | refine blk_drew ?_ | refine blk_alloc ?_ _)); exact BK101.out) hb)
                                      have n9_ := Aside0.mk (Kd.C_below (by repeat (first | (with_reducible exact HR113_0.out) | (with_reducible refine Kd.C_alloc ?_ _) | (with_reducible refine Kd.C_drewN ?_ _) | (with_reducible refine Kd.C_drew ?_) | exact HR113_0.out)) hb)
                                      have n10_ := Aside0.mk (Kd.C_below (by repeat (first | (with_reducible exact HR113_3.out) | (with_reducible refine Kd.C_alloc ?_ _) | (with_reducible refine Kd.C_drewN ?_ _) | (with_reducible refine Kd.C_drew ?_) | exact HR113_3.out)) hb)
                                      have n11_ := Aside0.mk (Kd.C_below (by repeat (first | (with_reducible exact HR114_0.out) | (with_reducible refine Kd.C_alloc ?_ _) | (with_reducible refine Kd.C_drewN ?_ _) | (with_reducible refine Kd.C_drew ?_) | exact HR114_0.out)) hb)
                                      have n12_ := Aside0.mk (Kd.C_below (by repeat (first | (with_reducible exact HR114_3.out) | (with_reducible refine Kd.C_alloc ?_ _) | (with_reducible refine Kd.C_drewN ?_ _) | (with_reducible refine Kd.C_drew ?_) | exact HR114_3.out)) hb)
                                      have n13_ := Aside0.mk (Kd.C_below (by repeat (first | (with_reducible exact HR119_0.out) | (with_reducible refine Kd.C_alloc ?_ _) | (with_reducible refine Kd.C_drewN ?_ _) | (with_reducible refine Kd.C_drew ?_) | exact HR119_0.out)) hb)
                                      have n14_ := Aside0.mk (Kd.C_below (by repeat (first | (with_reducible exact HR119_3.out) | (with_reducible refine Kd.C_alloc ?_ _) | (with_reducible refine Kd.C_drewN ?_ _) | (with_reducible refine Kd.C_drew ?_) | exact HR119_3.out)) hb)
                                      have n15_ := Aside0.mk (Kd.C_below (by repeat (first | (with_reducible exact HR120_0.out) | (with_reducible refine Kd.C_alloc ?_ _) | (with_reducible refine Kd.C_drewN ?_ _) | (with_reducible refine Kd.C_drew ?_) | exact HR120_0.out)) hb)
                                      have n16_ := Aside0.mk (Kd.C_below (by repeat (first | (with_reducible exact HR120_3.out) | (with_reducible refine Kd.C_alloc ?_ _) | (with_reducible refine Kd.C_drewN ?_ _) | (with_reducible refine Kd.C_drew ?_) | exact HR120_3.out)) hb)
                                      have n17_ := Aside0.mk (Kd.C_below (by repeat (first | (with_reducible exact HR121_0.out) | (with_reducible refine Kd.C_alloc ?_ _) | (with_reducible refine Kd.C_drewN ?_ _) | (with_reducible refine Kd.C_drew ?_) | exact HR121_0.out)) hb)
                                      have n18_ := Aside0.mk (Kd.C_below (by repeat (first | (with_reducible exact HR121_3.out) | (with_reducible refine Kd.C_alloc ?_ _) | (with_reducible refine Kd.C_drewN ?_ _) | (with_reducible refine Kd.C_drew ?_) | exact HR121_3.out)) hb)
                                      have n19_ := Aside0.mk (below_step (by repeat (first | (with_reducible first | exact HB.out | apply below_alloc | apply pw_below_drewN | apply below_drew1 | refine below_set ?_ GE101.out) | exact HB.out)) hb)
                                      clear HO_9
                                      clear HO_11
                                      clear HL119_0
                                      clear HL119_3
                                      clear HL120_0
                                      clear HL120_3
                                      clear HL121_0
                                      clear HL121_3
                                      clear BK101
                                      clear HR113_0
                                      clear HR113_3
                                      clear HR114_0
                                      clear HR114_3
                                      clear HR119_0
                                      clear HR119_3
                                      clear HR120_0
                                      clear HR120_3
                                      clear HR121_0
                                      clear HR121_3
                                      clear HB
                                      have HO_9 := n0_
                                      have HO_11 := n1_
                                      have HL119_0 := n2_
                                      have HL119_3 := n3_
                                      have HL120_0 := n4_
                                      have HL120_3 := n5_
                                      have HL121_0 := n6_
                                      have HL121_3 := n7_
                                      have BK101 := n8_
                                      have HR113_0 := n9_
                                      have HR113_3 := n10_
                                      have HR114_0 := n11_
                                      have HR114_3 := n12_
                                      have HR119_0 := n13_
                                      have HR119_3 := n14_
                                      have HR120_0 := n15_
                                      have HR120_3 := n16_
                                      have HR121_0 := n17_
                                      have HR121_3 := n18_
                                      have HB := n19_
                                      clear n0_ n1_ n2_ n3_ n4_ n5_ n6_ n7_ n8_ n9_ n10_ n11_ n12_ n13_ n14_ n15_ n16_ n17_ n18_ n19_
                                      (try clear hb)
                                      (try clear hb2)
                                      (try clear hk)
                                      (try clear hi)
                                      refine hK.out _ _ ⟨HS0_, HS1_, HS2_, HS3_, HS4_, HS5_, HS6_, HS7_, HS8_, HS9_, HS10_, HS11_, HS12_, HS13_⟩ (fun hHeld => ?_)
                                      clear hK K
                                      refine norm_ (a' := ?_) ?_ ?_
                                      rotate_left
                                      · show Act.put _ (some 122) _ = _
                                        simp only [Act.put, List.setIfInBounds_toArray, List.set_cons_zero, List.set_cons_succ, i64_w, i32_w]
                                        rfl
                                      refine pure_ (i := 26) (N := some 123) (v := ?_) (a' := ?_) #[true, true, true, true, true, true, true, true, true, true, true, true, true, true, true, true, true, true, true, true, true, true, true, true, true, true, true, false] rfl rfl (any_of HT_.out (by kernel_rfl)) (fun _ _ _ h => h) (Or.inl ⟨by rfl, ?_⟩) ?_ ?_
                                      rotate_left
                                      · intro w'
                                        go_simp
                                        with_reducible rfl
                                      rotate_left
                                      · simp only [Act.put, List.setIfInBounds_toArray, List.set_cons_zero, List.set_cons_succ, i64_w, i32_w]
                                        rfl
                                      refine pure_ (i := 27) (N := some 124) (v := ?_) (a' := ?_) #[true, true, true, true, true, true, true, true, true, true, true, true, true, true, true, true, true, true, true, true, true, true, true, true, true, true, true, true] rfl rfl (any_of HT_.out (by kernel_rfl)) (fun _ _ _ h => h) (Or.inl ⟨by rfl, ?_⟩) ?_ ?_
                                      rotate_left
                                      · intro w'
                                        go_simp
                                        with_reducible rfl
                                      rotate_left
                                      · simp only [Act.put, List.setIfInBounds_toArray, List.set_cons_zero, List.set_cons_succ, i64_w, i32_w]
                                        rfl
                                      refine done_ (done_of HT_.out (by kernel_rfl)) ?_
                                      try go_wp2
                                      go_roundg k4
                                      case measure => have := HJ4.out; have := HK2.out; have := HJ24.out; have := HK4.out; omega
                                      case rel => exact ⟨(wrap64 (x17_4 + 1)), (by first | rfl | (simp; done) | (simp [*]; done)), H', ⟨by have := HJ4.out; have := HK2.out; have := HJ24.out; have := HK4.out; omega⟩, ⟨by (with_reducible repeat (first | apply Kd.N_alloc | apply Kd.N_drewN | apply Kd.N_drew)); exact HO_9.out⟩, ⟨by (with_reducible repeat (first | apply Kd.N_alloc | apply Kd.N_drewN | apply Kd.N_drew)); exact HO_11.out⟩, ⟨by (with_reducible repeat (first | refine blk_drewN ?_ _ | refine blk_drew ?_ | refine blk_alloc ?_ _)); exact BK101.out⟩, ⟨by repeat (first | (with_reducible exact HR113_0.out) | (with_reducible refine Kd.C_alloc ?_ _) | (with_reducible refine Kd.C_drewN ?_ _) | (with_reducible refine Kd.C_drew ?_) | exact HR113_0.out)⟩, ⟨by repeat (first | (with_reducible exact HR113_3.out) | (with_reducible refine Kd.C_alloc ?_ _) | (with_reducible refine Kd.C_drewN ?_ _) | (with_reducible refine Kd.C_drew ?_) | exact HR113_3.out)⟩, ⟨by repeat (first | (with_reducible exact HR114_0.out) | (with_reducible refine Kd.C_alloc ?_ _) | (with_reducible refine Kd.C_drewN ?_ _) | (with_reducible refine Kd.C_drew ?_) | exact HR114_0.out)⟩, ⟨by repeat (first | (with_reducible exact HR114_3.out) | (with_reducible refine Kd.C_alloc ?_ _) | (with_reducible refine Kd.C_drewN ?_ _) | (with_reducible refine Kd.C_drew ?_) | exact HR114_3.out)⟩, ⟨by repeat (first | (with_reducible first | exact HB.out | apply below_alloc | apply pw_below_drewN | apply below_drew1 | refine below_set ?_ GE101.out) | exact HB.out)⟩⟩
                                  · rw [if_neg c40] at H
                                    exact absurd H (by simp)
                                · rw [if_neg c39] at H
                                  exact absurd H (by simp)
                              · rw [if_neg c37] at H
                                have c37b0 : decide (x17_4 < (((rd_T38 t105 x15_2).f2).length : Int)) = false := decide_eq_false c37
                                clear c37
                                by_cases c56 : x16_24 > (wrap64 (ji13))
                                · rw [if_pos c56] at H
                                  have c56b0 : decide ((wrap64 (ji13)) < x16_24) = true := decide_eq_true c56
                                  clear c56
                                  exact absurd ((Option.some.inj H).trans HRT.out) (by decide)
                                · rw [if_neg c56] at H
                                  have c56b0 : decide ((wrap64 (ji13)) < x16_24) = false := decide_eq_false c56
                                  clear c56
                                  by_cases c58 : x17_4 > (wrap64 (ji13))
                                  · rw [if_pos c58] at H
                                    have c58b0 : decide ((wrap64 (ji13)) < x17_4) = true := decide_eq_true c58
                                    clear c58
                                    exact absurd ((Option.some.inj H).trans HRT.out) (by decide)
                                  · rw [if_neg c58] at H
                                    have c58b0 : decide ((wrap64 (ji13)) < x17_4) = false := decide_eq_false c58
                                    clear c58
                                    by_cases c60 : x16_24 = (((rd_T38 t105 x15_2).f2).length : Int)
                                    · rw [if_pos c60] at H
                                      have c60b0 : (x16_24 == (((rd_T38 t105 x15_2).f2).length : Int)) = true := beq_iff_eq.mpr c60
                                      have c60b1 : (x16_24 != (((rd_T38 t105 x15_2).f2).length : Int)) = false := bne_eq_false_iff_eq.mpr c60
                                      clear c60
                                      exact absurd ((Option.some.inj H).trans HRT.out) (by decide)
                                    · rw [if_neg c60] at H
                                      have c60b0 : (x16_24 == (((rd_T38 t105 x15_2).f2).length : Int)) = false := beq_eq_false_iff_ne.mpr c60
                                      have c60b1 : (x16_24 != (((rd_T38 t105 x15_2).f2).length : Int)) = true := bne_iff_ne.mpr c60
                                      have H' := Aside0.mk H
                                      clear H
                                      try go_wp2
                                      have n0_ := Aside0.mk (Kd.N_drew HO_9.out)
                                      have n1_ := Aside0.mk (Kd.N_drew HO_11.out)
                                      have n2_ := Aside0.mk (blk_drew BK101.out)
                                      have n3_ := Aside0.mk (Kd.C_drew HR113_0.out)
                                      have n4_ := Aside0.mk (Kd.C_drew HR113_3.out)
                                      have n5_ := Aside0.mk (Kd.C_drew HR114_0.out)
                                      have n6_ := Aside0.mk (Kd.C_drew HR114_3.out)
                                      have n7_ := Aside0.mk (below_drew1 HB.out)
                                      clear HO_9
                                      clear HO_11
                                      clear BK101
                                      clear HR113_0
                                      clear HR113_3
                                      clear HR114_0
                                      clear HR114_3
                                      clear HB
                                      have HO_9 := n0_
                                      have HO_11 := n1_
                                      have BK101 := n2_
                                      have HR113_0 := n3_
                                      have HR113_3 := n4_
                                      have HR114_0 := n5_
                                      have HR114_3 := n6_
                                      have HB := n7_
                                      clear n0_ n1_ n2_ n3_ n4_ n5_ n6_ n7_
                                      have p119 : 0 ≤ (x15_2 : Int) := of_decide_eq_true (by first | (with_reducible assumption) | assumption)
                                      have q119 : x15_2 < (t105.length : Int) := of_decide_eq_true (by first | (with_reducible assumption) | assumption)
                                      obtain ⟨ad119, A119_0, c119_0, A119_3, c119_3, e119, hx119_0, hx119_1, hx119_2, hx119_3, hl119_0, hi119_0, hl119_3, hi119_3⟩ := at_T38 (Kd.N_reads' HO_9.out).2.2 x15_2 p119 q119
                                      obtain rfl : ad113 = ad119 := (by injection e119)
                                      obtain ⟨ce119, hce119, hMe119, hcc119⟩ := Kd.N_get HO_9.out z38 x15_2 p119 (by first | exact q119 | exact of_decide_eq_true (by first | (with_reducible assumption) | assumption) | (have e_ := (Kd.N_reads' HO_9.out).1; omega))
                                      obtain ⟨ua119_0, uc119_0, ua119_3, uc119_3, rfl, ul119_0, ge119_0, ul119_3, ge119_3⟩ := k38_openF hMe119
                                      have hv119_0 := hcc119 0 _ rfl
                                      rw [Nat.add_zero] at hv119_0
                                      replace hv119_0 := Option.some.inj (hv119_0.symm.trans hx119_0)
                                      injection hv119_0 with hva_ hvn_ hvc_
                                      rw [hva_] at ge119_0
                                      rw [hvc_] at ul119_0
                                      have HL119_0 := Aside0.mk (show Kd.V k36 36 _ w.heap.size _ _ ((rd_T38 t105 x15_2).f0) from Kd.V_mk ul119_0 ge119_0)
                                      clear hva_ hvn_ hvc_ ge119_0 ul119_0
                                      have hv119_3 := hcc119 3 _ rfl
                                      rw [add_field _ _ 3 (by omega)] at hv119_3
                                      replace hv119_3 := Option.some.inj (hv119_3.symm.trans hx119_3)
                                      injection hv119_3 with hva_ hvn_ hvc_
                                      rw [hva_] at ge119_3
                                      rw [hvc_] at ul119_3
                                      have HL119_3 := Aside0.mk (show Kd.V k41 41 _ w.heap.size _ _ ((rd_T38 t105 x15_2).f2) from Kd.V_mk ul119_3 ge119_3)
                                      clear hva_ hvn_ hvc_ ge119_3 ul119_3
                                      clear hcc119 hce119
                                      have HR119_0 := Aside0.mk hi119_0
                                      have HC119_0 := Aside0.mk hl119_0
                                      clear hi119_0 hl119_0
                                      have HR119_3 := Aside0.mk hi119_3
                                      have HC119_3 := Aside0.mk hl119_3
                                      clear hi119_3 hl119_3
                                      replace p119 := eq_true p119
                                      replace q119 := eq_true q119
                                      refine start_ (n := 28) (S := fun w' => w'.cell? (ad113.add ((x15_2).toNat * 4)) = some (.slice A119_0 ((rd_T38 t105 x15_2).f0).length c119_0) ∧ w'.cell? ⟨(ad113.add ((x15_2).toNat * 4)).block, (ad113.add ((x15_2).toNat * 4)).off + 1, none⟩ = some (.int .i64 ((rd_T38 t105 x15_2).f1.f0)) ∧ w'.cell? ⟨(ad113.add ((x15_2).toNat * 4)).block, (ad113.add ((x15_2).toNat * 4)).off + 2, none⟩ = some (.int .i64 ((rd_T38 t105 x15_2).f1.f1)) ∧ w'.cell? ⟨(ad113.add ((x15_2).toNat * 4)).block, (ad113.add ((x15_2).toNat * 4)).off + 3, none⟩ = some (.slice A119_3 ((rd_T38 t105 x15_2).f2).length c119_3)) (ds := []) #[false, false, false, false, false, false, false, false, false, false, false, false, false, false, false, false, false, false, false, false, false, false, false, false, false, false, false, false] (by kernel_rfl) rfl rfl ⟨hx119_0, hx119_1, hx119_2, hx119_3⟩ (fun hHeld => ?_); refine with_tabW sennitlaw21_HunkContext.tab19 sennitlaw21_HunkContext.bits19 (fun HT_ HW_ => ?_)
                                      generalize wr.drew = w62 at HO_9 HO_11 BK101 HR113_0 HR113_3 HR114_0 HR114_3 HB HL119_0 HL119_3 HR119_0 HR119_3 hx119_0 hx119_1 hx119_2 hx119_3 hHeld ⊢
                                      refine pure_ (i := 0) (N := some 97) (v := ?_) (a' := ?_) #[true, false, false, false, false, false, false, false, false, false, false, false, false, false, false, false, false, false, false, false, false, false, false, false, false, false, false, false] rfl rfl (any_of HT_.out (by kernel_rfl)) (fun _ _ _ h => h) (Or.inl ⟨by rfl, ?_⟩) ?_ ?_
                                      rotate_left
                                      · intro w'
                                        go_simp
                                        with_reducible rfl
                                      rotate_left
                                      · simp only [Act.put, List.setIfInBounds_toArray, List.set_cons_zero, List.set_cons_succ, i64_w, i32_w]
                                        rfl
                                      refine pure_ (i := 1) (N := some 98) (v := ?_) (a' := ?_) #[true, true, false, false, false, false, false, false, false, false, false, false, false, false, false, false, false, false, false, false, false, false, false, false, false, false, false, false] rfl rfl (any_of HT_.out (by kernel_rfl)) (fun _ _ _ h => h) (Or.inl ⟨by rfl, ?_⟩) ?_ ?_
                                      rotate_left
                                      · intro w'
                                        go_simp
                                        with_reducible rfl
                                      rotate_left
                                      · simp only [Act.put, List.setIfInBounds_toArray, List.set_cons_zero, List.set_cons_succ, i64_w, i32_w]
                                        rfl
                                      refine pure_ (i := 2) (N := some 99) (v := ?_) (a' := ?_) #[true, true, true, false, false, false, false, false, false, false, false, false, false, false, false, false, false, false, false, false, false, false, false, false, false, false, false, false] rfl rfl (any_of HT_.out (by kernel_rfl)) (fun _ _ _ h => h) (Or.inl ⟨by rfl, ?_⟩) ?_ ?_
                                      rotate_left
                                      · intro w'
                                        go_simp
                                        with_reducible rfl
                                      rotate_left
                                      · simp only [Act.put, List.setIfInBounds_toArray, List.set_cons_zero, List.set_cons_succ, i64_w, i32_w]
                                        rfl
                                      refine pure_ (i := 3) (N := some 100) (v := ?_) (a' := ?_) #[true, true, true, true, false, false, false, false, false, false, false, false, false, false, false, false, false, false, false, false, false, false, false, false, false, false, false, false] rfl rfl (any_of HT_.out (by kernel_rfl)) (fun _ _ _ h => h) (Or.inl ⟨by rfl, ?_⟩) ?_ ?_
                                      rotate_left
                                      · intro w'
                                        go_simp
                                        with_reducible rfl
                                      rotate_left
                                      · simp only [Act.put, List.setIfInBounds_toArray, List.set_cons_zero, List.set_cons_succ, i64_w, i32_w]
                                        rfl
                                      refine pure_ (i := 4) (N := some 101) (v := ?_) (a' := ?_) #[true, true, true, true, true, false, false, false, false, false, false, false, false, false, false, false, false, false, false, false, false, false, false, false, false, false, false, false] rfl rfl (any_of HT_.out (by kernel_rfl)) (fun _ _ _ h => h) (Or.inl ⟨by rfl, ?_⟩) ?_ ?_
                                      rotate_left
                                      · intro w'
                                        go_simp
                                        with_reducible rfl
                                      rotate_left
                                      · simp only [Act.put, List.setIfInBounds_toArray, List.set_cons_zero, List.set_cons_succ, i64_w, i32_w]
                                        rfl
                                      refine take_ (i := 5) (N := some 102) (v := ?_) (a' := ?_) #[true, true, true, true, true, true, false, false, false, false, false, false, false, false, false, false, false, false, false, false, false, false, false, false, false, false, false, false] rfl rfl (take_ofW HT_.out HW_.out (by kernel_rfl)) (fun _ _ _ h => h) (Or.inl ⟨by rfl, ?_⟩) hHeld ?_ ?_
                                      rotate_left
                                      · rintro w' ⟨s0, s1, s2, s3⟩
                                        go_simp
                                        with_reducible rfl
                                      rotate_left
                                      · simp only [Act.put, List.setIfInBounds_toArray, List.set_cons_zero, List.set_cons_succ, i64_w, i32_w]
                                        rfl
                                      refine pure_ (i := 6) (N := some 103) (v := ?_) (a' := ?_) #[true, true, true, true, true, true, true, false, false, false, false, false, false, false, false, false, false, false, false, false, false, false, false, false, false, false, false, false] rfl rfl (any_of HT_.out (by kernel_rfl)) (fun _ _ _ h => h) (Or.inl ⟨by rfl, ?_⟩) ?_ ?_
                                      rotate_left
                                      · intro w'
                                        go_simp
                                        with_reducible rfl
                                      rotate_left
                                      · simp only [Act.put, List.setIfInBounds_toArray, List.set_cons_zero, List.set_cons_succ, i64_w, i32_w]
                                        rfl
                                      refine pure_ (i := 7) (N := some 104) (v := ?_) (a' := ?_) #[true, true, true, true, true, true, true, true, false, false, false, false, false, false, false, false, false, false, false, false, false, false, false, false, false, false, false, false] rfl rfl (any_of HT_.out (by kernel_rfl)) (fun _ _ _ h => h) (Or.inl ⟨by rfl, ?_⟩) ?_ ?_
                                      rotate_left
                                      · intro w'
                                        go_simp
                                        with_reducible rfl
                                      rotate_left
                                      · simp only [Act.put, List.setIfInBounds_toArray, List.set_cons_zero, List.set_cons_succ, i64_w, i32_w]
                                        rfl
                                      refine pure_ (i := 8) (N := some 105) (v := ?_) (a' := ?_) #[true, true, true, true, true, true, true, true, true, false, false, false, false, false, false, false, false, false, false, false, false, false, false, false, false, false, false, false] rfl rfl (any_of HT_.out (by kernel_rfl)) (fun _ _ _ h => h) (Or.inl ⟨by rfl, ?_⟩) ?_ ?_
                                      rotate_left
                                      · intro w'
                                        go_simp
                                        with_reducible rfl
                                      rotate_left
                                      · simp only [Act.put, List.setIfInBounds_toArray, List.set_cons_zero, List.set_cons_succ, i64_w, i32_w]
                                        rfl
                                      refine pure_ (i := 9) (N := some 106) (v := undef) (a' := ?_) #[true, true, true, true, true, true, true, true, true, true, false, false, false, false, false, false, false, false, false, false, false, false, false, false, false, false, false, false] rfl rfl (any_of HT_.out (by kernel_rfl)) (fun _ _ _ h => h) (Or.inr ⟨by rfl, rfl⟩) ?_ ?_
                                      rotate_left
                                      · simp only [Act.put, List.setIfInBounds_toArray, List.set_cons_zero, List.set_cons_succ, i64_w, i32_w]
                                        rfl
                                      refine pure_ (i := 10) (N := some 107) (v := undef) (a' := ?_) #[true, true, true, true, true, true, true, true, true, true, true, false, false, false, false, false, false, false, false, false, false, false, false, false, false, false, false, false] rfl rfl (any_of HT_.out (by kernel_rfl)) (fun _ _ _ h => h) (Or.inr ⟨by rfl, rfl⟩) ?_ ?_
                                      rotate_left
                                      · simp only [Act.put, List.setIfInBounds_toArray, List.set_cons_zero, List.set_cons_succ, i64_w, i32_w]
                                        rfl
                                      refine pure_ (i := 11) (N := some 108) (v := undef) (a' := ?_) #[true, true, true, true, true, true, true, true, true, true, true, true, false, false, false, false, false, false, false, false, false, false, false, false, false, false, false, false] rfl rfl (any_of HT_.out (by kernel_rfl)) (fun _ _ _ h => h) (Or.inr ⟨by rfl, rfl⟩) ?_ ?_
                                      rotate_left
                                      · simp only [Act.put, List.setIfInBounds_toArray, List.set_cons_zero, List.set_cons_succ, i64_w, i32_w]
                                        rfl
                                      refine pure_ (i := 12) (N := some 109) (v := undef) (a' := ?_) #[true, true, true, true, true, true, true, true, true, true, true, true, true, false, false, false, false, false, false, false, false, false, false, false, false, false, false, false] rfl rfl (any_of HT_.out (by kernel_rfl)) (fun _ _ _ h => h) (Or.inr ⟨by rfl, rfl⟩) ?_ ?_
                                      rotate_left
                                      · simp only [Act.put, List.setIfInBounds_toArray, List.set_cons_zero, List.set_cons_succ, i64_w, i32_w]
                                        rfl
                                      refine pure_ (i := 13) (N := some 110) (v := undef) (a' := ?_) #[true, true, true, true, true, true, true, true, true, true, true, true, true, true, false, false, false, false, false, false, false, false, false, false, false, false, false, false] rfl rfl (any_of HT_.out (by kernel_rfl)) (fun _ _ _ h => h) (Or.inr ⟨by rfl, rfl⟩) ?_ ?_
                                      rotate_left
                                      · simp only [Act.put, List.setIfInBounds_toArray, List.set_cons_zero, List.set_cons_succ, i64_w, i32_w]
                                        rfl
                                      refine pure_ (i := 14) (N := some 111) (v := undef) (a' := ?_) #[true, true, true, true, true, true, true, true, true, true, true, true, true, true, true, false, false, false, false, false, false, false, false, false, false, false, false, false] rfl rfl (any_of HT_.out (by kernel_rfl)) (fun _ _ _ h => h) (Or.inr ⟨by rfl, rfl⟩) ?_ ?_
                                      rotate_left
                                      · simp only [Act.put, List.setIfInBounds_toArray, List.set_cons_zero, List.set_cons_succ, i64_w, i32_w]
                                        rfl
                                      refine pure_ (i := 15) (N := some 112) (v := undef) (a' := ?_) #[true, true, true, true, true, true, true, true, true, true, true, true, true, true, true, true, false, false, false, false, false, false, false, false, false, false, false, false] rfl rfl (any_of HT_.out (by kernel_rfl)) (fun _ _ _ h => h) (Or.inr ⟨by rfl, rfl⟩) ?_ ?_
                                      rotate_left
                                      · simp only [Act.put, List.setIfInBounds_toArray, List.set_cons_zero, List.set_cons_succ, i64_w, i32_w]
                                        rfl
                                      refine pure_ (i := 16) (N := some 113) (v := undef) (a' := ?_) #[true, true, true, true, true, true, true, true, true, true, true, true, true, true, true, true, true, false, false, false, false, false, false, false, false, false, false, false] rfl rfl (any_of HT_.out (by kernel_rfl)) (fun _ _ _ h => h) (Or.inr ⟨by rfl, rfl⟩) ?_ ?_
                                      rotate_left
                                      · simp only [Act.put, List.setIfInBounds_toArray, List.set_cons_zero, List.set_cons_succ, i64_w, i32_w]
                                        rfl
                                      refine pure_ (i := 17) (N := some 114) (v := undef) (a' := ?_) #[true, true, true, true, true, true, true, true, true, true, true, true, true, true, true, true, true, true, false, false, false, false, false, false, false, false, false, false] rfl rfl (any_of HT_.out (by kernel_rfl)) (fun _ _ _ h => h) (Or.inr ⟨by rfl, rfl⟩) ?_ ?_
                                      rotate_left
                                      · simp only [Act.put, List.setIfInBounds_toArray, List.set_cons_zero, List.set_cons_succ, i64_w, i32_w]
                                        rfl
                                      refine pure_ (i := 18) (N := some 115) (v := undef) (a' := ?_) #[true, true, true, true, true, true, true, true, true, true, true, true, true, true, true, true, true, true, true, false, false, false, false, false, false, false, false, false] rfl rfl (any_of HT_.out (by kernel_rfl)) (fun _ _ _ h => h) (Or.inr ⟨by rfl, rfl⟩) ?_ ?_
                                      rotate_left
                                      · simp only [Act.put, List.setIfInBounds_toArray, List.set_cons_zero, List.set_cons_succ, i64_w, i32_w]
                                        rfl
                                      refine pure_ (i := 19) (N := some 116) (v := undef) (a' := ?_) #[true, true, true, true, true, true, true, true, true, true, true, true, true, true, true, true, true, true, true, true, false, false, false, false, false, false, false, false] rfl rfl (any_of HT_.out (by kernel_rfl)) (fun _ _ _ h => h) (Or.inr ⟨by rfl, rfl⟩) ?_ ?_
                                      rotate_left
                                      · simp only [Act.put, List.setIfInBounds_toArray, List.set_cons_zero, List.set_cons_succ, i64_w, i32_w]
                                        rfl
                                      refine pure_ (i := 20) (N := some 117) (v := undef) (a' := ?_) #[true, true, true, true, true, true, true, true, true, true, true, true, true, true, true, true, true, true, true, true, true, false, false, false, false, false, false, false] rfl rfl (any_of HT_.out (by kernel_rfl)) (fun _ _ _ h => h) (Or.inr ⟨by rfl, rfl⟩) ?_ ?_
                                      rotate_left
                                      · simp only [Act.put, List.setIfInBounds_toArray, List.set_cons_zero, List.set_cons_succ, i64_w, i32_w]
                                        rfl
                                      refine pure_ (i := 21) (N := some 118) (v := undef) (a' := ?_) #[true, true, true, true, true, true, true, true, true, true, true, true, true, true, true, true, true, true, true, true, true, true, false, false, false, false, false, false] rfl rfl (any_of HT_.out (by kernel_rfl)) (fun _ _ _ h => h) (Or.inr ⟨by rfl, rfl⟩) ?_ ?_
                                      rotate_left
                                      · simp only [Act.put, List.setIfInBounds_toArray, List.set_cons_zero, List.set_cons_succ, i64_w, i32_w]
                                        rfl
                                      refine pure_ (i := 22) (N := some 119) (v := undef) (a' := ?_) #[true, true, true, true, true, true, true, true, true, true, true, true, true, true, true, true, true, true, true, true, true, true, true, false, false, false, false, false] rfl rfl (any_of HT_.out (by kernel_rfl)) (fun _ _ _ h => h) (Or.inr ⟨by rfl, rfl⟩) ?_ ?_
                                      rotate_left
                                      · simp only [Act.put, List.setIfInBounds_toArray, List.set_cons_zero, List.set_cons_succ, i64_w, i32_w]
                                        rfl
                                      refine pure_ (i := 23) (N := some 120) (v := undef) (a' := ?_) #[true, true, true, true, true, true, true, true, true, true, true, true, true, true, true, true, true, true, true, true, true, true, true, true, false, false, false, false] rfl rfl (any_of HT_.out (by kernel_rfl)) (fun _ _ _ h => h) (Or.inr ⟨by rfl, rfl⟩) ?_ ?_
                                      rotate_left
                                      · simp only [Act.put, List.setIfInBounds_toArray, List.set_cons_zero, List.set_cons_succ, i64_w, i32_w]
                                        rfl
                                      refine pure_ (i := 24) (N := some 121) (v := undef) (a' := ?_) #[true, true, true, true, true, true, true, true, true, true, true, true, true, true, true, true, true, true, true, true, true, true, true, true, true, false, false, false] rfl rfl (any_of HT_.out (by kernel_rfl)) (fun _ _ _ h => h) (Or.inr ⟨by rfl, rfl⟩) ?_ ?_
                                      rotate_left
                                      · simp only [Act.put, List.setIfInBounds_toArray, List.set_cons_zero, List.set_cons_succ, i64_w, i32_w]
                                        rfl
                                      refine pure_ (i := 25) (N := some 122) (v := undef) (a' := ?_) #[true, true, true, true, true, true, true, true, true, true, true, true, true, true, true, true, true, true, true, true, true, true, true, true, true, true, false, false] rfl rfl (any_of HT_.out (by kernel_rfl)) (fun _ _ _ h => h) (Or.inr ⟨by rfl, rfl⟩) ?_ ?_
                                      rotate_left
                                      · simp only [Act.put, List.setIfInBounds_toArray, List.set_cons_zero, List.set_cons_succ, i64_w, i32_w]
                                        rfl
                                      refine pure_ (i := 26) (N := some 123) (v := undef) (a' := ?_) #[true, true, true, true, true, true, true, true, true, true, true, true, true, true, true, true, true, true, true, true, true, true, true, true, true, true, true, false] rfl rfl (any_of HT_.out (by kernel_rfl)) (fun _ _ _ h => h) (Or.inr ⟨by rfl, rfl⟩) ?_ ?_
                                      rotate_left
                                      · simp only [Act.put, List.setIfInBounds_toArray, List.set_cons_zero, List.set_cons_succ, i64_w, i32_w]
                                        rfl
                                      refine pure_ (i := 27) (N := some 124) (v := ?_) (a' := ?_) #[true, true, true, true, true, true, true, true, true, true, true, true, true, true, true, true, true, true, true, true, true, true, true, true, true, true, true, true] rfl rfl (any_of HT_.out (by kernel_rfl)) (fun _ _ _ h => h) (Or.inl ⟨by rfl, ?_⟩) ?_ ?_
                                      rotate_left
                                      · intro w'
                                        go_simp
                                        with_reducible rfl
                                      rotate_left
                                      · simp only [Act.put, List.setIfInBounds_toArray, List.set_cons_zero, List.set_cons_succ, i64_w, i32_w]
                                        rfl
                                      refine done_ (done_of HT_.out (by kernel_rfl)) ?_
                                      have p125 : 0 ≤ (x15_2 : Int) := of_decide_eq_true (by first | (with_reducible assumption) | assumption)
                                      have q125 : x15_2 < (t105.length : Int) := of_decide_eq_true (by first | (with_reducible assumption) | assumption)
                                      obtain ⟨ad125, A125_0, c125_0, A125_3, c125_3, e125, hx125_0, hx125_1, hx125_2, hx125_3, hl125_0, hi125_0, hl125_3, hi125_3⟩ := at_T38 (Kd.N_reads' HO_9.out).2.2 x15_2 p125 q125
                                      obtain rfl : ad113 = ad125 := (by injection e125)
                                      obtain ⟨ce125, hce125, hMe125, hcc125⟩ := Kd.N_get HO_9.out z38 x15_2 p125 (by first | exact q125 | exact of_decide_eq_true (by first | (with_reducible assumption) | assumption) | (have e_ := (Kd.N_reads' HO_9.out).1; omega))
                                      obtain ⟨ua125_0, uc125_0, ua125_3, uc125_3, rfl, ul125_0, ge125_0, ul125_3, ge125_3⟩ := k38_openF hMe125
                                      have hv125_0 := hcc125 0 _ rfl
                                      rw [Nat.add_zero] at hv125_0
                                      replace hv125_0 := Option.some.inj (hv125_0.symm.trans hx125_0)
                                      injection hv125_0 with hva_ hvn_ hvc_
                                      rw [hva_] at ge125_0
                                      rw [hvc_] at ul125_0
                                      have HL125_0 := Aside0.mk (show Kd.V k36 36 _ w.heap.size _ _ ((rd_T38 t105 x15_2).f0) from Kd.V_mk ul125_0 ge125_0)
                                      clear hva_ hvn_ hvc_ ge125_0 ul125_0
                                      have hv125_3 := hcc125 3 _ rfl
                                      rw [add_field _ _ 3 (by omega)] at hv125_3
                                      replace hv125_3 := Option.some.inj (hv125_3.symm.trans hx125_3)
                                      injection hv125_3 with hva_ hvn_ hvc_
                                      rw [hva_] at ge125_3
                                      rw [hvc_] at ul125_3
                                      have HL125_3 := Aside0.mk (show Kd.V k41 41 _ w.heap.size _ _ ((rd_T38 t105 x15_2).f2) from Kd.V_mk ul125_3 ge125_3)
                                      clear hva_ hvn_ hvc_ ge125_3 ul125_3
                                      clear hcc125 hce125
                                      have HR125_0 := Aside0.mk hi125_0
                                      have HC125_0 := Aside0.mk hl125_0
                                      clear hi125_0 hl125_0
                                      have HR125_3 := Aside0.mk hi125_3
                                      have HC125_3 := Aside0.mk hl125_3
                                      clear hi125_3 hl125_3
                                      replace p125 := eq_true p125
                                      replace q125 := eq_true q125
                                      have ea_ := Option.some.inj (hx119_0.symm.trans hx125_0)
                                      injection ea_ with ea_ en_ ec_
                                      subst ea_
                                      subst ec_
                                      clear en_
                                      have ea_ := Option.some.inj (hx119_3.symm.trans hx125_3)
                                      injection ea_ with ea_ en_ ec_
                                      subst ea_
                                      subst ec_
                                      clear en_
                                      try go_wp2
                                      go_roundg k4
                                      case measure => have := HJ4.out; have := HK2.out; have := HJ24.out; have := HK4.out; omega
                                      case rel => exact ⟨((wrap64 (x13_2 + (((rd_T38 t105 x15_2).f2).length : Int)))), (wrap64 (x15_2 + 1)), (by first | rfl | (simp; done) | (simp [*]; done)), (by first | rfl | (simp; done) | (simp [*]; done)), H', ⟨by have := HJ4.out; have := HK2.out; have := HJ24.out; have := HK4.out; omega⟩, ⟨by (with_reducible repeat (first | apply Kd.N_alloc | apply Kd.N_drewN | apply Kd.N_drew)); exact HO_9.out⟩, ⟨by (with_reducible repeat (first | apply Kd.N_alloc | apply Kd.N_drewN | apply Kd.N_drew)); exact HO_11.out⟩, ⟨by (with_reducible repeat (first | refine blk_drewN ?_ _ | refine blk_drew ?_ | refine blk_alloc ?_ _)); exact BK101.out⟩, ⟨by repeat (first | (with_reducible first | exact HB.out | apply below_alloc | apply pw_below_drewN | apply below_drew1 | refine below_set ?_ GE101.out) | exact HB.out)⟩⟩
                            · rw [if_neg c36] at H
                              exact absurd H (by simp)
                          · rw [if_neg c35] at H
                            exact absurd H (by simp)
              · rw [if_neg c22] at H
                exact absurd H (by simp)
            · rw [if_neg c21] at H
              have c21b0 : decide (x15_2 < (t105.length : Int)) = false := decide_eq_false c21
              clear c21
              have H' := Aside0.mk H
              clear H
              obtain ⟨Ao63, co63, eo63⟩ := Kd.N_slice HO_9.out
              subst eo63
              go_wp2
              go_loopg [14, 18] k2 (fun kq v14 v18 w' => ∃ (x14_3 : Int) (x18_3 : Int), v14 = .int .i64 x14_3 ∧ v18 = .int .i64 x18_3 ∧ Aside0 (sennitlaw21_HunkContext.l3 kq t102 t105 t109 x13_2 x14_3 x18_3 = some r) ∧ Aside0 (kq ≤ k2) ∧ Aside0 (Kd.N k38 38 w' w.heap.size (fun k_ => some k_ ≠ (v110 : Value).ownBlock ∧ k_ ≠ gb101) (.slice Ao63 t105.length co63) t105) ∧ Aside0 (Kd.N k38 38 w' w.heap.size (fun k_ => some k_ ≠ ((.slice Ao63 t105.length co63) : Value).ownBlock ∧ k_ ≠ gb101) v110 t109) ∧ Aside0 (w'.heap[gb101]? = some (.cells #[.int .u8 a1_0, .int .u8 a1_1] 47 (0, 0))) ∧ Aside0 (Below w.heap.size w w'))
              case atStart => exact ⟨(0), (0), (by first | rfl | (simp; done) | (simp [*]; done)), (by first | rfl | (simp; done) | (simp [*]; done)), H', ⟨Nat.le_refl _⟩, ⟨by (with_reducible repeat (first | apply Kd.N_alloc | apply Kd.N_drewN | apply Kd.N_drew)); exact HO_9.out⟩, ⟨by (with_reducible repeat (first | apply Kd.N_alloc | apply Kd.N_drewN | apply Kd.N_drew)); exact HO_11.out⟩, ⟨by (with_reducible repeat (first | refine blk_drewN ?_ _ | refine blk_drew ?_ | refine blk_alloc ?_ _)); exact BK101.out⟩, ⟨by repeat (first | (with_reducible first | exact HB.out | apply below_alloc | apply pw_below_drewN | apply below_drew1 | refine below_set ?_ GE101.out) | exact HB.out)⟩⟩
              case round =>
                clear H'
                try clear c1
                try clear p1
                try clear q1
                try clear hx1
                try clear c2
                try clear p2
                try clear c3
                try clear c5
                try clear c6
                try clear p6
                try clear c11
                try clear p11
                try clear q11
                try clear hx11
                try clear c12
                try clear p12
                try clear q12
                try clear hx12
                try clear c21
                try clear c21b0
                try clear c22
                try clear c35
                try clear c36
                try clear c58
                try clear c58b0
                try clear c60
                try clear c60b0
                try clear c60b1
                try clear hx119_0
                try clear hx119_1
                try clear hx119_2
                try clear hx119_3
                try clear hx125_0
                try clear hx125_1
                try clear hx125_2
                try clear hx125_3
                try clear p119
                try clear p125
                try clear q119
                try clear q125
                obtain ⟨x14_3, x18_3, rfl, rfl, HA, HK3, HO_9, HO_11, BK101, HB⟩ := hrel
                cases gk with
                | zero => exact absurd HA.out (by simp [sennitlaw21_HunkContext.l3])
                | succ k3 =>
                  have H := HA.out
                  clear HA
                  simp only [sennitlaw21_HunkContext.l3] at H
                  by_cases c64 : x18_3 < (t109.length : Int)
                  · rw [if_pos c64] at H
                    have c64b0 : decide (x18_3 < (t109.length : Int)) = true := decide_eq_true c64
                    clear c64
                    by_cases c65 : 0 ≤ x18_3
                    · rw [if_pos c65] at H
                      have c65b0 : decide (0 ≤ x18_3) = true := decide_eq_true c65
                      clear c65
                      have H' := Aside0.mk H
                      clear H
                      obtain ⟨Ao66, co66, eo66⟩ := Kd.N_slice HO_11.out
                      subst eo66
                      have p126 : 0 ≤ (x18_3 : Int) := of_decide_eq_true (by first | (with_reducible assumption) | assumption)
                      have q126 : x18_3 < (t109.length : Int) := of_decide_eq_true (by first | (with_reducible assumption) | assumption)
                      obtain ⟨ad126, A126_0, c126_0, A126_3, c126_3, e126, hx126_0, hx126_1, hx126_2, hx126_3, hl126_0, hi126_0, hl126_3, hi126_3⟩ := at_T38 (Kd.N_reads' HO_11.out).2.2 x18_3 p126 q126
                      cases e126
                      obtain ⟨ce126, hce126, hMe126, hcc126⟩ := Kd.N_get HO_11.out z38 x18_3 p126 (by first | exact q126 | exact of_decide_eq_true (by first | (with_reducible assumption) | assumption) | (have e_ := (Kd.N_reads' HO_11.out).1; omega))
                      obtain ⟨ua126_0, uc126_0, ua126_3, uc126_3, rfl, ul126_0, ge126_0, ul126_3, ge126_3⟩ := k38_openF hMe126
                      have hv126_0 := hcc126 0 _ rfl
                      rw [Nat.add_zero] at hv126_0
                      replace hv126_0 := Option.some.inj (hv126_0.symm.trans hx126_0)
                      injection hv126_0 with hva_ hvn_ hvc_
                      rw [hva_] at ge126_0
                      rw [hvc_] at ul126_0
                      have HL126_0 := Aside0.mk (show Kd.V k36 36 _ w.heap.size _ _ ((rd_T38 t109 x18_3).f0) from Kd.V_mk ul126_0 ge126_0)
                      clear hva_ hvn_ hvc_ ge126_0 ul126_0
                      have hv126_3 := hcc126 3 _ rfl
                      rw [add_field _ _ 3 (by omega)] at hv126_3
                      replace hv126_3 := Option.some.inj (hv126_3.symm.trans hx126_3)
                      injection hv126_3 with hva_ hvn_ hvc_
                      rw [hva_] at ge126_3
                      rw [hvc_] at ul126_3
                      have HL126_3 := Aside0.mk (show Kd.V k41 41 _ w.heap.size _ _ ((rd_T38 t109 x18_3).f2) from Kd.V_mk ul126_3 ge126_3)
                      clear hva_ hvn_ hvc_ ge126_3 ul126_3
                      clear hcc126 hce126
                      have HR126_0 := Aside0.mk hi126_0
                      have HC126_0 := Aside0.mk hl126_0
                      clear hi126_0 hl126_0
                      have HR126_3 := Aside0.mk hi126_3
                      have HC126_3 := Aside0.mk hl126_3
                      clear hi126_3 hl126_3
                      replace p126 := eq_true p126
                      replace q126 := eq_true q126
                      go_wp2
                      go_roundg k3
                      case measure => have := HJ4.out; have := HK2.out; have := HK3.out; omega
                      case rel => exact ⟨(wrap64 (x14_3 + (((rd_T38 t109 x18_3).f2).length : Int))), (wrap64 (x18_3 + 1)), (by first | rfl | (simp; done) | (simp [*]; done)), (by first | rfl | (simp; done) | (simp [*]; done)), H', ⟨by have := HJ4.out; have := HK2.out; have := HK3.out; omega⟩, ⟨by (with_reducible repeat (first | apply Kd.N_alloc | apply Kd.N_drewN | apply Kd.N_drew)); exact HO_9.out⟩, ⟨by (with_reducible repeat (first | apply Kd.N_alloc | apply Kd.N_drewN | apply Kd.N_drew)); exact HO_11.out⟩, ⟨by (with_reducible repeat (first | refine blk_drewN ?_ _ | refine blk_drew ?_ | refine blk_alloc ?_ _)); exact BK101.out⟩, ⟨by repeat (first | (with_reducible first | exact HB.out | apply below_alloc | apply pw_below_drewN | apply below_drew1 | refine below_set ?_ GE101.out) | exact HB.out)⟩⟩
                    · rw [if_neg c65] at H
                      exact absurd H (by simp)
                  · rw [if_neg c64] at H
                    have c64b0 : decide (x18_3 < (t109.length : Int)) = false := decide_eq_false c64
                    clear c64
                    by_cases c67 : t102 = true
                    · subst c67
                      have H1 : (if (t109.length : Int) ≤ (t105.length : Int) then (some (decide (x14_3 ≥ x13_2))) else (some false)) = some r := by rw [if_pos rfl] at H; exact H
                      clear H
                      have H := H1
                      clear H1
                      by_cases c68 : (t109.length : Int) ≤ (t105.length : Int)
                      · rw [if_pos c68] at H
                        have c68b0 : decide ((t109.length : Int) ≤ (t105.length : Int)) = true := decide_eq_true c68
                        have c68b1 : decide (t109.length ≤ t105.length) = true := decide_eq_true (Int.ofNat_le.mp c68)
                        clear c68
                        obtain rfl := Option.some.inj H
                        obtain ⟨Ao69, co69, eo69⟩ := Kd.N_slice HO_11.out
                        subst eo69
                        go_wp2
                        go_ret
                        exact ⟨by first | rfl | (simp [errW_none, errW_some] <;> rfl) | (simp [errW_none, errW_some] <;> (generalize ByteArray.toList _ = l_ <;> cases l_ <;> rfl)) | (simp only [← hji13, ← hji15]; first | rfl | (simp [errW_none, errW_some] <;> rfl)) | (simp [*, errW_none, errW_some] <;> rfl), by repeat (first | (with_reducible first | exact HB.out | apply below_alloc | apply pw_below_drewN | apply below_drew1 | refine below_set ?_ GE101.out) | exact HB.out)⟩
                      · rw [if_neg c68] at H
                        have c68b0 : decide ((t109.length : Int) ≤ (t105.length : Int)) = false := decide_eq_false c68
                        have c68b1 : decide (t109.length ≤ t105.length) = false := decide_eq_false (fun h => c68 (Int.ofNat_le.mpr h))
                        clear c68
                        exact absurd ((Option.some.inj H).trans HRT.out) (by decide)
                    · replace c67 := Bool.eq_false_iff.mpr c67
                      subst c67
                      have H1 : (some false) = some r := by rw [if_neg (show ¬ (false = true) by decide)] at H; exact H
                      clear H
                      have H := H1
                      clear H1
                      exact absurd ((Option.some.inj H).trans HRT.out) (by decide)
end Go.Proofs.YtenfoaajipiehaaDoor.Q
