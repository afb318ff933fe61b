/- Contracts of the functions named below: each comes to what the Lean function of its name says (for every input; written by a program over the translation). -/
import Derived.Test.YtenfoaajipiehaaDoorQ0
import Derived.Test.YtenfoaajipiehaaDoorQ4
import Derived.Test.YtenfoaajipiehaaDoorR3
import Derived.Test.YtenfoaajipiehaaDoorR4
import Derived.Test.YtenfoaajipiehaaDoorXB
import Derived.Test.YtenfoaajipiehaaDoorX9
namespace Go.Proofs.YtenfoaajipiehaaDoor.Q
open Go.RowKit Go.Proofs.YtenfoaajipiehaaDoorW.PrintWords Go.Proofs.YtenfoaajipiehaaDoorW.PrintLast Go.Proofs.YtenfoaajipiehaaDoorW.PrintMore
attribute [local go_sem] max2_int min2_int max_two min_two max_three min_three max_four min_four   -- for this text's walks alone
set_option linter.unusedVariables false
set_option linter.unusedSimpArgs false
abbrev T := true
abbrev F := false

/-! ### sennitlaw21_HunkSpans: function 6 -/
mutual
def sennitlaw21_HunkSpans.j0 : Nat → List (S41) → Int → Bool → Bool → Bool → Option (Bool)
  | 0, _, _, _, _, _ => none
  | k + 1, x0, x1, x2, x7, x24 => if x24 = true then (some x7) else ((hunk_Hunks.f k x0 (wrap64 (x1)) x2).bind fun bt => (sennitlaw21_HunkSpans.l0 k x0 x2 x7 bt.1 0 ([] : List (S36)) 0 0 ([] : List (S41))))
def sennitlaw21_HunkSpans.l0 : Nat → List (S41) → Bool → Bool → List (S38) → Int → List (S36) → Int → Int → List (S41) → Option (Bool)
  | 0, _, _, _, _, _, _, _, _, _ => none
  | k + 1, x0, x2, x7, x8, x11, x105000, x105001, x105002, x105003 => if x11 < (x8.length : Int) then (if 0 ≤ x11 then (if (wrap64 (((rd_T38 x8 x11).f1.f0) - x105002)) < 0 then (sennitlaw21_HunkSpans.j2 k x0 x2 x7 x8 x11 (wrap64 (((rd_T38 x8 x11).f1.f0) - x105002)) true x105000 x105001 x105002 x105003) else ((table_Result.f ((rd_T38 x8 x11).f2)).bind fun t109 => (if (wrap64 (((rd_T38 x8 x11).f1.f1) - ((rd_T38 x8 x11).f1.f0))) = (t109.length : Int) then (if 0 < (x0.length : Int) then (if (((rd_T38 x8 x11).f0).length : Int) = (((rd_T41 x0 0).f0).size : Int) then (sennitlaw21_HunkSpans.j2 k x0 x2 x7 x8 x11 (wrap64 (((rd_T38 x8 x11).f1.f0) - x105002)) ((((rd_T38 x8 x11).f2).length : Int) == 0) x105000 x105001 x105002 x105003) else (sennitlaw21_HunkSpans.j2 k x0 x2 x7 x8 x11 (wrap64 (((rd_T38 x8 x11).f1.f0) - x105002)) true x105000 x105001 x105002 x105003)) else (none)) else (sennitlaw21_HunkSpans.j2 k x0 x2 x7 x8 x11 (wrap64 (((rd_T38 x8 x11).f1.f0) - x105002)) true x105000 x105001 x105002 x105003)))) else (none)) else (some x7)
def sennitlaw21_HunkSpans.j2 : Nat → List (S41) → Bool → Bool → List (S38) → Int → Int → Bool → List (S36) → Int → Int → List (S41) → Option (Bool)
  | 0, _, _, _, _, _, _, _, _, _, _, _ => none
  | k + 1, x0, x2, x7, x8, x11, x12, x98, x105000, x105001, x105002, x105003 => if x98 = true then (some false) else (sennitlaw21_HunkSpans.l1 k x0 x2 x7 x8 x11 x12 0 x105000 x105001 x105002 x105003)
def sennitlaw21_HunkSpans.l1 : Nat → List (S41) → Bool → Bool → List (S38) → Int → Int → Int → List (S36) → Int → Int → List (S41) → Option (Bool)
  | 0, _, _, _, _, _, _, _, _, _, _, _ => none
  | k + 1, x0, x2, x7, x8, x11, x12, x13, x105000, x105001, x105002, x105003 => if 0 ≤ x11 then (if x11 < (x8.length : Int) then (if x13 < (((rd_T38 x8 x11).f0).length : Int) then (if 0 ≤ x13 then (if x11 > 0 then (if x13 < (x105000.length : Int) then (if ((rd_T36 ((rd_T38 x8 x11).f0) x13).f0) < ((rd_T36 x105000 x13).f1) then (some false) else (if x2 = true then ((table_Column.f ((rd_T38 x8 x11).f2) x13).bind fun t122 => (if (wrap64 (((rd_T36 ((rd_T38 x8 x11).f0) x13).f1) - ((rd_T36 ((rd_T38 x8 x11).f0) x13).f0))) = (t122.length : Int) then (sennitlaw21_HunkSpans.l1 k x0 x2 x7 x8 x11 x12 (wrap64 (x13 + 1)) x105000 x105001 x105002 x105003) else (some false))) else (if (wrap64 (((rd_T36 ((rd_T38 x8 x11).f0) x13).f0) - ((rd_T36 x105000 x13).f1))) = x12 then ((table_Column.f ((rd_T38 x8 x11).f2) x13).bind fun t126 => (if (wrap64 (((rd_T36 ((rd_T38 x8 x11).f0) x13).f1) - ((rd_T36 ((rd_T38 x8 x11).f0) x13).f0))) = (t126.length : Int) then (sennitlaw21_HunkSpans.l1 k x0 x2 x7 x8 x11 x12 (wrap64 (x13 + 1)) x105000 x105001 x105002 x105003) else (some false))) else (some false)))) else (none)) else (if ((rd_T36 ((rd_T38 x8 x11).f0) x13).f0) < 0 then (some false) else (if x2 = true then ((table_Column.f ((rd_T38 x8 x11).f2) x13).bind fun t130 => (if (wrap64 (((rd_T36 ((rd_T38 x8 x11).f0) x13).f1) - ((rd_T36 ((rd_T38 x8 x11).f0) x13).f0))) = (t130.length : Int) then (sennitlaw21_HunkSpans.l1 k x0 x2 x7 x8 x11 x12 (wrap64 (x13 + 1)) x105000 x105001 x105002 x105003) else (some false))) else (if (wrap64 (((rd_T36 ((rd_T38 x8 x11).f0) x13).f0) - 0)) = x12 then ((table_Column.f ((rd_T38 x8 x11).f2) x13).bind fun t134 => (if (wrap64 (((rd_T36 ((rd_T38 x8 x11).f0) x13).f1) - ((rd_T36 ((rd_T38 x8 x11).f0) x13).f0))) = (t134.length : Int) then (sennitlaw21_HunkSpans.l1 k x0 x2 x7 x8 x11 x12 (wrap64 (x13 + 1)) x105000 x105001 x105002 x105003) else (some false))) else (some false))))) else (none)) else (sennitlaw21_HunkSpans.l0 k x0 x2 x7 x8 (wrap64 (x11 + 1)) ((rd_T38 x8 x11).f0) ((rd_T38 x8 x11).f1.f0) ((rd_T38 x8 x11).f1.f1) ((rd_T38 x8 x11).f2))) else (none)) else (none)
end
def sennitlaw21_HunkSpans.f (k : Nat) (l0 : List (S41)) (a1 : Int) (a2 : Bool) : Option (Bool) := (sennitlaw21_awake.f k).bind fun t101 => ((sennitref21_Few.f k l0).bind fun t102 => (if t102 = true then ((sennitref21_May.f k l0).bind fun t103 => (sennitlaw21_HunkSpans.j0 k l0 a1 a2 t101 (!t103))) else (sennitlaw21_HunkSpans.j0 k l0 a1 a2 t101 true)))
def sennitlaw21_HunkSpans.T9 : Bool × List (List Nat × List Nat) := (true, [([], []), ([], []), ([0, 1], [0, 1]), ([2], [2]), ([3], [3]), ([4], [4]), ([], []), ([6], [6]), ([7], [7]), ([5, 8], [5, 8]), ([9, 0, 1, 2, 3, 4, 5, 6, 7, 8, 9], [9])])
def sennitlaw21_HunkSpans.B9 : List Nat := [0, 0, 3, 7, 15, 31, 0, 64, 192, 511, 1023]
theorem sennitlaw21_HunkSpans.tab9 : rtab .any (opsOf Tryd.f6 9) = sennitlaw21_HunkSpans.T9 := by kernel_rfl
theorem sennitlaw21_HunkSpans.bits9 : waitsOk sennitlaw21_HunkSpans.T9.2 sennitlaw21_HunkSpans.B9 = true := by kernel_rfl
def sennitlaw21_HunkSpans.T10 : Bool × List (List Nat × List Nat) := (true, [([], []), ([0], [0]), ([1], [1]), ([2], [2]), ([2], [2]), ([3, 4, 2], [2, 3, 4]), ([5, 2], [2, 5]), ([6, 2], [2, 6]), ([7, 2], [2, 7]), ([2], [2]), ([2], [2]), ([9, 10, 2], [2, 9, 10]), ([11, 2], [2, 11]), ([12, 2], [2, 12]), ([13, 2], [2, 13]), ([8, 14, 2], [2, 8, 14]), ([2], [2]), ([2], [2]), ([16, 17, 2], [2, 16, 17]), ([18, 2], [2, 18]), ([19, 2], [2, 19]), ([20, 2, 2], [2, 20]), ([21, 2], [2, 21]), ([15, 22, 2], [2, 15, 22]), ([2, 23], [2, 23]), ([24, 21], [24]), ([25], [25]), ([25], [25]), ([26, 27, 25], [25, 26, 27]), ([28, 25], [25, 28]), ([29, 25], [25, 29]), ([30, 25], [25, 30]), ([25], [25]), ([32, 25], [25, 32]), ([33, 25], [25, 33]), ([34, 25], [25, 34]), ([35, 25], [25, 35]), ([31, 36, 25], [25, 31, 36]), ([25, 37], [25, 37]), ([38, 25], [38]), ([39], [39]), ([39], [39]), ([40, 41, 39], [39, 40, 41]), ([42, 39], [39, 42]), ([43, 39], [39, 43]), ([44, 39], [39, 44]), ([45, 39], [39, 45]), ([39, 46], [39, 46])])
def sennitlaw21_HunkSpans.B10 : List Nat := [0, 1, 3, 7, 7, 31, 63, 127, 255, 7, 7, 1543, 3591, 7687, 15879, 32767, 7, 7, 196615, 458759, 983047, 2031623, 4128775, 8388607, 16777215, 33554431, 67108863, 67108863, 268435455, 536870911, 1073741823, 2147483647, 67108863, 4362076159, 12952010751, 30131879935, 64491618303, 137438953471, 274877906943, 549755813887, 1099511627775, 1099511627775, 4398046511103, 8796093022207, 17592186044415, 35184372088831, 70368744177663, 140737488355327]
theorem sennitlaw21_HunkSpans.tab10 : rtab .any (opsOf Tryd.f6 10) = sennitlaw21_HunkSpans.T10 := by kernel_rfl
theorem sennitlaw21_HunkSpans.bits10 : waitsOk sennitlaw21_HunkSpans.T10.2 sennitlaw21_HunkSpans.B10 = true := by kernel_rfl
def sennitlaw21_HunkSpans.T19 : Bool × List (List Nat × List Nat) := (true, [([], []), ([0], [0]), ([], []), ([1, 2], [1, 2]), ([3], [3]), ([4], [4]), ([5, 4], [4, 5]), ([6, 4, 4], [4, 6]), ([7], [7]), ([8, 7], [7, 8]), ([7], [7]), ([9, 10, 7], [7, 9, 10]), ([7], [7]), ([11, 12, 7], [7, 11, 12]), ([7, 13, 4], [4, 7, 13]), ([4, 14], [4, 14]), ([15, 7], [15]), ([16], [16]), ([17, 16], [16, 17]), ([16], [16]), ([19, 16], [16, 19]), ([18, 20, 16], [16, 18, 20]), ([16], [16]), ([16], [16]), ([22, 23, 16], [16, 22, 23]), ([24, 16], [16, 24]), ([25, 16], [16, 25]), ([16], [16]), ([26, 27, 16, 16], [16, 26, 27]), ([28, 16], [16, 28]), ([21, 29, 16], [16, 21, 29]), ([16, 30], [16, 30])])
def sennitlaw21_HunkSpans.B19 : List Nat := [0, 1, 0, 7, 15, 31, 63, 127, 255, 511, 255, 2047, 255, 8191, 16383, 32767, 65535, 131071, 262143, 131071, 655359, 2097151, 131071, 131071, 12713983, 29491199, 63045631, 131071, 264372223, 532807679, 1073741823, 2147483647]
theorem sennitlaw21_HunkSpans.tab19 : rtab .any (opsOf Tryd.f6 19) = sennitlaw21_HunkSpans.T19 := by kernel_rfl
theorem sennitlaw21_HunkSpans.bits19 : waitsOk sennitlaw21_HunkSpans.T19.2 sennitlaw21_HunkSpans.B19 = true := by kernel_rfl
theorem sennitlaw21_HunkSpans.j2_true {k : Nat} {y0 : List (S41)} {y1 : Bool} {y2 : Bool} {y3 : List (S38)} {y4 : Int} {y5 : Int} {y7 : List (S36)} {y8 : Int} {y9 : Int} {y10 : List (S41)} {r : Bool} (h : sennitlaw21_HunkSpans.j2 k y0 y1 y2 y3 y4 y5 true y7 y8 y9 y10 = some r) (hr : r = true) : False := by
  subst hr
  cases k with
  | zero => simp [sennitlaw21_HunkSpans.j2] at h
  | succ k => simp [sennitlaw21_HunkSpans.j2] at h
/-- A row that is shared lies in none of the blocks that may be written. -/
theorem V_blk36 {e : TypeId} {base n c g : Nat} {ok : Nat → Prop} {W : World} {ad : Addr} {xs : List S36} (h : Kd.V k36 e W base ok (.slice (some ad) n c) xs) (hok : ∀ k, ok k → k ≠ g) (hn : (0 : Int) < (n : Int)) : ad.block ≠ g := by
  intro hg
  obtain ⟨e1, _, hF⟩ := Kd.V_at h
  have hW := hF { W with heap := W.heap.setIfInBounds g (.map #[] 0) } (fun k hk _ => by
    show (W.heap.setIfInBounds g _)[k]? = _
    rw [Array.getElem?_setIfInBounds_ne (fun e => hok k hk e.symm)])
  obtain ⟨ad', e', hx, -⟩ := at_T36 hW 0 (Int.le_refl _) (by omega)
  cases e'
  simp [World.cell?, Addr.add, hg, Array.getElem?_setIfInBounds] at hx
end Go.Proofs.YtenfoaajipiehaaDoor.Q
