/- Contracts of the functions named below: each comes to what the Lean function of its name says (for every input; written by a program over the translation). -/
import Derived.Test.YtenfoaajipiehaaDoorQ0
import Derived.Test.YtenfoaajipiehaaDoorR4
namespace Go.Proofs.YtenfoaajipiehaaDoor.Q
open Go.RowKit Go.Proofs.YtenfoaajipiehaaDoorW.PrintWords Go.Proofs.YtenfoaajipiehaaDoorW.PrintLast Go.Proofs.YtenfoaajipiehaaDoorW.PrintMore
attribute [local go_sem] max2_int min2_int max_two min_two max_three min_three max_four min_four   -- for this text's walks alone
set_option linter.unusedVariables false
set_option linter.unusedSimpArgs false
/-! ### sennitref21_Dull: function 18 -/
mutual
def sennitref21_Dull.l0 : Nat → List (S41) → Int → Int → Option (Bool)
  | 0, _, _, _ => none
  | k + 1, x0, x3, x4 => if 0 < (x0.length : Int) then (if x4 < (((rd_T41 x0 0).f0).size : Int) then (sennitref21_Dull.l1 k x0 x3 x4 0) else (if x3 > 0 then (some (decide (x3 < (((rd_T41 x0 0).f0).size : Int)))) else (some false))) else (none)
def sennitref21_Dull.l1 : Nat → List (S41) → Int → Int → Int → Option (Bool)
  | 0, _, _, _, _ => none
  | k + 1, x0, x3, x4, x5 => if x5 < (x0.length : Int) then (if 0 ≤ x5 then (if 0 ≤ x4 then (if x4 < (((rd_T41 x0 x5).f0).size : Int) then (if 0 < (x0.length : Int) then (if x4 < (((rd_T41 x0 0).f0).size : Int) then (if (((bt ((rd_T41 x0 x5).f0) x4) == 32) != ((bt ((rd_T41 x0 0).f0) x4) == 32)) = true then (some false) else (sennitref21_Dull.l1 k x0 x3 x4 (wrap64 (x5 + 1)))) else (none)) else (none)) else (none)) else (none)) else (none)) else (if 0 < (x0.length : Int) then (if 0 ≤ x4 then (if x4 < (((rd_T41 x0 0).f0).size : Int) then (if (bt ((rd_T41 x0 0).f0) x4) = 32 then (sennitref21_Dull.l0 k x0 (wrap64 (x3 + 1)) (wrap64 (x4 + 1))) else (sennitref21_Dull.l0 k x0 x3 (wrap64 (x4 + 1)))) else (none)) else (none)) else (none))
end
def sennitref21_Dull.f (k : Nat) (l0 : List (S41)) : Option (Bool) := if (l0.length : Int) = 0 then (some false) else (sennitref21_Dull.l0 k l0 0 0)
theorem sennitref21_Dull.mono_l : ∀ k, (∀ y0 y1 y2, LeO (sennitref21_Dull.l0 k y0 y1 y2) (sennitref21_Dull.l0 (k + 1) y0 y1 y2)) ∧ (∀ y0 y1 y2 y3, LeO (sennitref21_Dull.l1 k y0 y1 y2 y3) (sennitref21_Dull.l1 (k + 1) y0 y1 y2 y3))
  | 0 => ⟨fun _ _ _ r h => by simp [sennitref21_Dull.l0] at h, fun _ _ _ _ r h => by simp [sennitref21_Dull.l1] at h⟩
  | k + 1 => by
    obtain ⟨ih0, ih1⟩ := sennitref21_Dull.mono_l k
    refine ⟨?_, ?_⟩
    · intro y0 y1 y2
      unfold sennitref21_Dull.l0
      repeat' first
      | (with_reducible exact ih0 _ _ _)
      | (with_reducible exact ih1 _ _ _ _)
      | (with_reducible exact LeO.refl _)
      | (with_reducible exact LeO.none _)
      | (with_reducible refine LeO.ite ?_ ?_)
      | (with_reducible refine LeO.bind ?_ (fun _ => ?_))
      | exact ih0 _ _ _
      | exact ih1 _ _ _ _
      | exact LeO.none _
      | refine LeO.ite ?_ ?_
      | refine LeO.bind ?_ (fun _ => ?_)
    · intro y0 y1 y2 y3
      unfold sennitref21_Dull.l1
      repeat' first
      | (with_reducible exact ih0 _ _ _)
      | (with_reducible exact ih1 _ _ _ _)
      | (with_reducible exact LeO.refl _)
      | (with_reducible exact LeO.none _)
      | (with_reducible refine LeO.ite ?_ ?_)
      | (with_reducible refine LeO.bind ?_ (fun _ => ?_))
      | exact ih0 _ _ _
      | exact ih1 _ _ _ _
      | exact LeO.none _
      | refine LeO.ite ?_ ?_
      | refine LeO.bind ?_ (fun _ => ?_)
theorem sennitref21_Dull.mono : ∀ a0 k, LeO (sennitref21_Dull.f k a0) (sennitref21_Dull.f (k + 1) a0) := by
  intro a0 k
  obtain ⟨ih0, ih1⟩ := sennitref21_Dull.mono_l k
  unfold sennitref21_Dull.f
  repeat' first
      | (with_reducible exact ih0 _ _ _)
      | (with_reducible exact ih1 _ _ _ _)
      | (with_reducible exact LeO.refl _)
      | (with_reducible exact LeO.none _)
      | (with_reducible refine LeO.ite ?_ ?_)
      | (with_reducible refine LeO.bind ?_ (fun _ => ?_))
      | exact ih0 _ _ _
      | exact ih1 _ _ _ _
      | exact LeO.none _
      | refine LeO.ite ?_ ?_
      | refine LeO.bind ?_ (fun _ => ?_)
set_option maxHeartbeats 8000000 in
set_option maxRecDepth 100000 in
theorem sennitref21_Dull.calls (k : Nat) (A0 : Option Addr) (c0 : Nat) (l0 : List (S41)) (r : Bool) (w : World) (hr0 : Kd.C k41 w A0 l0.length l0) (hc0 : l0.length ≤ c0) (h : sennitref21_Dull.f k l0 = some r) :
    Calls Tryd.prog 18 #[.slice A0 l0.length c0] w fun e w' => e = .returned (.bool r) ∧ Drawn0 w w' := by
  have HR0 := Aside0.mk hr0
  have HC0 := Aside0.mk hc0
  clear hr0 hc0
  have H : (if (l0.length : Int) = 0 then (some false) else (sennitref21_Dull.l0 k l0 0 0)) = some r := h
  clear h
  by_cases c2 : (l0.length : Int) = 0
  · rw [if_pos c2] at H
    have c2b0 : ((l0.length : Int) == 0) = true := beq_iff_eq.mpr c2
    have c2b1 : ((l0.length : Int) != 0) = false := bne_eq_false_iff_eq.mpr c2
    clear c2
    obtain rfl := Option.some.inj H
    go_enter Tryd.func18, Tryd.ntmps18
    go_wp2
    repeat (go_quiet (fail); try go_wp2)
    go_ret
    exact ⟨by first | rfl | (simp; done) | (simp [*]; done), by repeat (first | exact Drawn0.refl _ | apply Drawn0.step)⟩
  · rw [if_neg c2] at H
    have c2b0 : ((l0.length : Int) == 0) = false := beq_eq_false_iff_ne.mpr c2
    have c2b1 : ((l0.length : Int) != 0) = true := bne_iff_ne.mpr c2
    have c2b2 : ¬ (l0 = []) := fun h_ => c2 (by rw [h_]; rfl)
    have H' := Aside0.mk H
    clear H
    go_enter Tryd.func18, Tryd.ntmps18
    go_wp2
    repeat (go_quiet (fail); try go_wp2)
    go_loopg [3, 4] k (fun kq v3 v4 w' => ∃ (x3_1 : Int) (x4_1 : Int), v3 = .int .i64 x3_1 ∧ v4 = .int .i64 x4_1 ∧ Aside0 (sennitref21_Dull.l0 kq l0 x3_1 x4_1 = some r) ∧ Aside0 (kq ≤ k) ∧ Drawn0 w w')
    case atStart => exact ⟨(0), (0), (by first | rfl | (simp; done) | (simp [*]; done)), (by first | rfl | (simp; done) | (simp [*]; done)), H', ⟨Nat.le_refl _⟩, by repeat (first | exact Drawn0.refl _ | apply Drawn0.step)⟩
    case round =>
      clear H'
      try clear c1
      try clear c2
      try clear c2b0
      try clear c2b1
      try clear c2b2
      try clear p2
      obtain ⟨x3_1, x4_1, rfl, rfl, HA, HK1, ⟨m1, rfl⟩⟩ := hrel
      cases gk with
      | zero => exact absurd HA.out (by simp [sennitref21_Dull.l0])
      | succ k1 =>
        have H := HA.out
        clear HA
        simp only [sennitref21_Dull.l0] at H
        by_cases c3 : 0 < (l0.length : Int)
        · rw [if_pos c3] at H
          have c3b0 : decide (0 < (l0.length : Int)) = true := decide_eq_true c3
          have c3b1 : decide (0 < l0.length) = true := decide_eq_true (by omega)
          clear c3
          by_cases c4 : x4_1 < (((rd_T41 l0 0).f0).size : Int)
          · rw [if_pos c4] at H
            have c4b0 : decide (x4_1 < (((rd_T41 l0 0).f0).size : Int)) = true := decide_eq_true c4
            clear c4
            have H' := Aside0.mk H
            clear H
            have p153 : 0 ≤ (0 : Int) := (by omega)
            have q153 : 0 < (l0.length : Int) := of_decide_eq_true (by first | (with_reducible assumption) | assumption)
            obtain ⟨ad153, e153, hx153_0, hx153_1⟩ := at_T41 HR0.out 0 p153 q153
            cases e153
            have qi153 : (0 < l0.length) = True := eq_true (by omega)
            (try rw [show ((0 : Int)).toNat = 0 from rfl] at hx153_0)
            (try rw [show 0 * 2 = 0 from rfl] at hx153_0)
            (try rw [Addr.add_zero'] at hx153_0)
            (try rw [show ((0 : Int)).toNat = 0 from rfl] at hx153_1)
            (try rw [show 0 * 2 = 0 from rfl] at hx153_1)
            (try rw [Addr.add_zero'] at hx153_1)
            replace p153 := eq_true p153
            replace q153 := eq_true q153
            go_wp2
            repeat (go_quiet (fail); try go_wp2)
            go_loopg [5] k1 (fun kq v5 w' => ∃ (x5_2 : Int), v5 = .int .i64 x5_2 ∧ Aside0 (sennitref21_Dull.l1 kq l0 x3_1 x4_1 x5_2 = some r) ∧ Aside0 (kq ≤ k1) ∧ Drawn0 w w')
            case atStart => exact ⟨(0), (by first | rfl | (simp; done) | (simp [*]; done)), H', ⟨Nat.le_refl _⟩, by repeat (first | exact Drawn0.refl _ | apply Drawn0.step)⟩
            case round =>
              clear H'
              try clear c1
              try clear p1
              try clear q1
              try clear hx1
              try clear qi1
              try clear c2
              try clear c2b0
              try clear c2b1
              try clear c2b2
              try clear p2
              try clear c3
              try clear c3b0
              try clear c3b1
              try clear c4
              try clear c4b0
              try clear hx153_0
              try clear hx153_1
              try clear p153
              try clear p2
              try clear q153
              obtain ⟨x5_2, rfl, HA, HK2, ⟨m2, rfl⟩⟩ := hrel
              cases gk with
              | zero => exact absurd HA.out (by simp [sennitref21_Dull.l1])
              | succ k2 =>
                have H := HA.out
                clear HA
                simp only [sennitref21_Dull.l1] at H
                by_cases c5 : x5_2 < (l0.length : Int)
                · rw [if_pos c5] at H
                  have c5b0 : decide (x5_2 < (l0.length : Int)) = true := decide_eq_true c5
                  clear c5
                  by_cases c6 : 0 ≤ x5_2
                  · rw [if_pos c6] at H
                    have c6b0 : decide (0 ≤ x5_2) = true := decide_eq_true c6
                    clear c6
                    by_cases c7 : 0 ≤ x4_1
                    · rw [if_pos c7] at H
                      have c7b0 : decide (0 ≤ x4_1) = true := decide_eq_true c7
                      clear c7
                      by_cases c8 : x4_1 < (((rd_T41 l0 x5_2).f0).size : Int)
                      · rw [if_pos c8] at H
                        have c8b0 : decide (x4_1 < (((rd_T41 l0 x5_2).f0).size : Int)) = true := decide_eq_true c8
                        clear c8
                        by_cases c10 : 0 < (l0.length : Int)
                        · rw [if_pos c10] at H
                          have c10b0 : decide (0 < (l0.length : Int)) = true := decide_eq_true c10
                          have c10b1 : decide (0 < l0.length) = true := decide_eq_true (by omega)
                          clear c10
                          by_cases c11 : x4_1 < (((rd_T41 l0 0).f0).size : Int)
                          · rw [if_pos c11] at H
                            have c11b0 : decide (x4_1 < (((rd_T41 l0 0).f0).size : Int)) = true := decide_eq_true c11
                            clear c11
                            by_cases c13 : (((bt ((rd_T41 l0 x5_2).f0) x4_1) == 32) != ((bt ((rd_T41 l0 0).f0) x4_1) == 32)) = true
                            · rw [if_pos c13] at H
                              have c13b0 : (((bt ((rd_T41 l0 x5_2).f0) x4_1) == 32) != ((bt ((rd_T41 l0 0).f0) x4_1) == 32)) = true := c13
                              (try (have c13b1 : decide (((bt ((rd_T41 l0 x5_2).f0) x4_1) == 32) = ((bt ((rd_T41 l0 0).f0) x4_1) == 32)) = false := by simpa using c13))
                              (try (have c13b2 : (((bt ((rd_T41 l0 x5_2).f0) x4_1) == 32) == ((bt ((rd_T41 l0 0).f0) x4_1) == 32)) = false := by simpa using c13))
                              (try (have c13b3 : ¬ (((bt ((rd_T41 l0 x5_2).f0) x4_1) == 32) = ((bt ((rd_T41 l0 0).f0) x4_1) == 32)) := by simpa using c13))
                              clear c13
                              obtain rfl := Option.some.inj H
                              have p155 : 0 ≤ (x5_2 : Int) := of_decide_eq_true (by first | (with_reducible assumption) | assumption)
                              have q155 : x5_2 < (l0.length : Int) := of_decide_eq_true (by first | (with_reducible assumption) | assumption)
                              obtain ⟨ad155, e155, hx155_0, hx155_1⟩ := at_T41 HR0.out x5_2 p155 q155
                              obtain rfl : ad153 = ad155 := (by injection e155)
                              replace p155 := eq_true p155
                              replace q155 := eq_true q155
                              have p9 : 0 ≤ (x4_1 : Int) := of_decide_eq_true (by first | (with_reducible assumption) | assumption)
                              have q9 : x4_1 < (((rd_T41 l0 x5_2).f0).size : Int) := of_decide_eq_true (by first | (with_reducible assumption) | assumption)
                              have hx9 := bt_at ((rd_T41 l0 x5_2).f0) x4_1
                              replace p9 := eq_true p9
                              replace q9 := eq_true q9
                              have p156 : 0 ≤ (0 : Int) := (by omega)
                              have q156 : 0 < (l0.length : Int) := of_decide_eq_true (by first | (with_reducible assumption) | assumption)
                              obtain ⟨ad156, e156, hx156_0, hx156_1⟩ := at_T41 HR0.out 0 p156 q156
                              obtain rfl : ad153 = ad156 := (by injection e156)
                              have qi156 : (0 < l0.length) = True := eq_true (by omega)
                              (try rw [show ((0 : Int)).toNat = 0 from rfl] at hx156_0)
                              (try rw [show 0 * 2 = 0 from rfl] at hx156_0)
                              (try rw [Addr.add_zero'] at hx156_0)
                              (try rw [show ((0 : Int)).toNat = 0 from rfl] at hx156_1)
                              (try rw [show 0 * 2 = 0 from rfl] at hx156_1)
                              (try rw [Addr.add_zero'] at hx156_1)
                              replace p156 := eq_true p156
                              replace q156 := eq_true q156
                              have p12 : 0 ≤ (x4_1 : Int) := of_decide_eq_true (by first | (with_reducible assumption) | assumption)
                              have q12 : x4_1 < (((rd_T41 l0 0).f0).size : Int) := of_decide_eq_true (by first | (with_reducible assumption) | assumption)
                              have hx12 := bt_at ((rd_T41 l0 0).f0) x4_1
                              replace p12 := eq_true p12
                              replace q12 := eq_true q12
                              go_wp2
                              repeat (go_quiet (fail); try go_wp2)
                              go_ret
                              exact ⟨by first | rfl | (simp; done) | (simp [*]; done), by repeat (first | exact Drawn0.refl _ | apply Drawn0.step)⟩
                            · rw [if_neg c13] at H
                              have c13b0 : (((bt ((rd_T41 l0 x5_2).f0) x4_1) == 32) != ((bt ((rd_T41 l0 0).f0) x4_1) == 32)) = false := by simpa using c13
                              (try (have c13b1 : decide (((bt ((rd_T41 l0 x5_2).f0) x4_1) == 32) = ((bt ((rd_T41 l0 0).f0) x4_1) == 32)) = true := by simpa using c13))
                              (try (have c13b2 : (((bt ((rd_T41 l0 x5_2).f0) x4_1) == 32) == ((bt ((rd_T41 l0 0).f0) x4_1) == 32)) = true := by simpa using c13))
                              clear c13
                              have H' := Aside0.mk H
                              clear H
                              have p155 : 0 ≤ (x5_2 : Int) := of_decide_eq_true (by first | (with_reducible assumption) | assumption)
                              have q155 : x5_2 < (l0.length : Int) := of_decide_eq_true (by first | (with_reducible assumption) | assumption)
                              obtain ⟨ad155, e155, hx155_0, hx155_1⟩ := at_T41 HR0.out x5_2 p155 q155
                              obtain rfl : ad153 = ad155 := (by injection e155)
                              replace p155 := eq_true p155
                              replace q155 := eq_true q155
                              have p9 : 0 ≤ (x4_1 : Int) := of_decide_eq_true (by first | (with_reducible assumption) | assumption)
                              have q9 : x4_1 < (((rd_T41 l0 x5_2).f0).size : Int) := of_decide_eq_true (by first | (with_reducible assumption) | assumption)
                              have hx9 := bt_at ((rd_T41 l0 x5_2).f0) x4_1
                              replace p9 := eq_true p9
                              replace q9 := eq_true q9
                              have p156 : 0 ≤ (0 : Int) := (by omega)
                              have q156 : 0 < (l0.length : Int) := of_decide_eq_true (by first | (with_reducible assumption) | assumption)
                              obtain ⟨ad156, e156, hx156_0, hx156_1⟩ := at_T41 HR0.out 0 p156 q156
                              obtain rfl : ad153 = ad156 := (by injection e156)
                              have qi156 : (0 < l0.length) = True := eq_true (by omega)
                              (try rw [show ((0 : Int)).toNat = 0 from rfl] at hx156_0)
                              (try rw [show 0 * 2 = 0 from rfl] at hx156_0)
                              (try rw [Addr.add_zero'] at hx156_0)
                              (try rw [show ((0 : Int)).toNat = 0 from rfl] at hx156_1)
                              (try rw [show 0 * 2 = 0 from rfl] at hx156_1)
                              (try rw [Addr.add_zero'] at hx156_1)
                              replace p156 := eq_true p156
                              replace q156 := eq_true q156
                              have p12 : 0 ≤ (x4_1 : Int) := of_decide_eq_true (by first | (with_reducible assumption) | assumption)
                              have q12 : x4_1 < (((rd_T41 l0 0).f0).size : Int) := of_decide_eq_true (by first | (with_reducible assumption) | assumption)
                              have hx12 := bt_at ((rd_T41 l0 0).f0) x4_1
                              replace p12 := eq_true p12
                              replace q12 := eq_true q12
                              go_wp2
                              repeat (go_quiet (fail); try go_wp2)
                              go_roundg k2
                              case measure => have := HK1.out; have := HK2.out; omega
                              case rel => exact ⟨(wrap64 (x5_2 + 1)), (by first | rfl | (simp; done) | (simp [*]; done)), H', ⟨by have := HK1.out; have := HK2.out; omega⟩, by repeat (first | exact Drawn0.refl _ | apply Drawn0.step)⟩
                          · rw [if_neg c11] at H
                            exact absurd H (by simp)
                        · rw [if_neg c10] at H
                          exact absurd H (by simp)
                      · rw [if_neg c8] at H
                        exact absurd H (by simp)
                    · rw [if_neg c7] at H
                      exact absurd H (by simp)
                  · rw [if_neg c6] at H
                    exact absurd H (by simp)
                · rw [if_neg c5] at H
                  have c5b0 : decide (x5_2 < (l0.length : Int)) = false := decide_eq_false c5
                  clear c5
                  by_cases c14 : 0 < (l0.length : Int)
                  · rw [if_pos c14] at H
                    have c14b0 : decide (0 < (l0.length : Int)) = true := decide_eq_true c14
                    have c14b1 : decide (0 < l0.length) = true := decide_eq_true (by omega)
                    clear c14
                    by_cases c15 : 0 ≤ x4_1
                    · rw [if_pos c15] at H
                      have c15b0 : decide (0 ≤ x4_1) = true := decide_eq_true c15
                      clear c15
                      by_cases c16 : x4_1 < (((rd_T41 l0 0).f0).size : Int)
                      · rw [if_pos c16] at H
                        have c16b0 : decide (x4_1 < (((rd_T41 l0 0).f0).size : Int)) = true := decide_eq_true c16
                        clear c16
                        by_cases c18 : (bt ((rd_T41 l0 0).f0) x4_1) = 32
                        · rw [if_pos c18] at H
                          have c18b0 : ((bt ((rd_T41 l0 0).f0) x4_1) == 32) = true := beq_iff_eq.mpr c18
                          have c18b1 : ((bt ((rd_T41 l0 0).f0) x4_1) != 32) = false := bne_eq_false_iff_eq.mpr c18
                          clear c18
                          have H' := Aside0.mk H
                          clear H
                          have p157 : 0 ≤ (0 : Int) := (by omega)
                          have q157 : 0 < (l0.length : Int) := of_decide_eq_true (by first | (with_reducible assumption) | assumption)
                          obtain ⟨ad157, e157, hx157_0, hx157_1⟩ := at_T41 HR0.out 0 p157 q157
                          obtain rfl : ad153 = ad157 := (by injection e157)
                          have qi157 : (0 < l0.length) = True := eq_true (by omega)
                          (try rw [show ((0 : Int)).toNat = 0 from rfl] at hx157_0)
                          (try rw [show 0 * 2 = 0 from rfl] at hx157_0)
                          (try rw [Addr.add_zero'] at hx157_0)
                          (try rw [show ((0 : Int)).toNat = 0 from rfl] at hx157_1)
                          (try rw [show 0 * 2 = 0 from rfl] at hx157_1)
                          (try rw [Addr.add_zero'] at hx157_1)
                          replace p157 := eq_true p157
                          replace q157 := eq_true q157
                          have p17 : 0 ≤ (x4_1 : Int) := of_decide_eq_true (by first | (with_reducible assumption) | assumption)
                          have q17 : x4_1 < (((rd_T41 l0 0).f0).size : Int) := of_decide_eq_true (by first | (with_reducible assumption) | assumption)
                          have hx17 := bt_at ((rd_T41 l0 0).f0) x4_1
                          replace p17 := eq_true p17
                          replace q17 := eq_true q17
                          go_wp2
                          repeat (go_quiet (fail); try go_wp2)
                          go_roundg k2
                          case measure => have := HK1.out; have := HK2.out; omega
                          case rel => exact ⟨(wrap64 (x3_1 + 1)), (wrap64 (x4_1 + 1)), (by first | rfl | (simp; done) | (simp [*]; done)), (by first | rfl | (simp; done) | (simp [*]; done)), H', ⟨by have := HK1.out; have := HK2.out; omega⟩, by repeat (first | exact Drawn0.refl _ | apply Drawn0.step)⟩
                        · rw [if_neg c18] at H
                          have c18b0 : ((bt ((rd_T41 l0 0).f0) x4_1) == 32) = false := beq_eq_false_iff_ne.mpr c18
                          have c18b1 : ((bt ((rd_T41 l0 0).f0) x4_1) != 32) = true := bne_iff_ne.mpr c18
                          have H' := Aside0.mk H
                          clear H
                          have p157 : 0 ≤ (0 : Int) := (by omega)
                          have q157 : 0 < (l0.length : Int) := of_decide_eq_true (by first | (with_reducible assumption) | assumption)
                          obtain ⟨ad157, e157, hx157_0, hx157_1⟩ := at_T41 HR0.out 0 p157 q157
                          obtain rfl : ad153 = ad157 := (by injection e157)
                          have qi157 : (0 < l0.length) = True := eq_true (by omega)
                          (try rw [show ((0 : Int)).toNat = 0 from rfl] at hx157_0)
                          (try rw [show 0 * 2 = 0 from rfl] at hx157_0)
                          (try rw [Addr.add_zero'] at hx157_0)
                          (try rw [show ((0 : Int)).toNat = 0 from rfl] at hx157_1)
                          (try rw [show 0 * 2 = 0 from rfl] at hx157_1)
                          (try rw [Addr.add_zero'] at hx157_1)
                          replace p157 := eq_true p157
                          replace q157 := eq_true q157
                          have p17 : 0 ≤ (x4_1 : Int) := of_decide_eq_true (by first | (with_reducible assumption) | assumption)
                          have q17 : x4_1 < (((rd_T41 l0 0).f0).size : Int) := of_decide_eq_true (by first | (with_reducible assumption) | assumption)
                          have hx17 := bt_at ((rd_T41 l0 0).f0) x4_1
                          replace p17 := eq_true p17
                          replace q17 := eq_true q17
                          go_wp2
                          repeat (go_quiet (fail); try go_wp2)
                          go_roundg k2
                          case measure => have := HK1.out; have := HK2.out; omega
                          case rel => exact ⟨(x3_1), (wrap64 (x4_1 + 1)), (by first | rfl | (simp; done) | (simp [*]; done)), (by first | rfl | (simp; done) | (simp [*]; done)), H', ⟨by have := HK1.out; have := HK2.out; omega⟩, by repeat (first | exact Drawn0.refl _ | apply Drawn0.step)⟩
                      · rw [if_neg c16] at H
                        exact absurd H (by simp)
                    · rw [if_neg c15] at H
                      exact absurd H (by simp)
                  · rw [if_neg c14] at H
                    exact absurd H (by simp)
          · rw [if_neg c4] at H
            have c4b0 : decide (x4_1 < (((rd_T41 l0 0).f0).size : Int)) = false := decide_eq_false c4
            clear c4
            by_cases c19 : x3_1 > 0
            · rw [if_pos c19] at H
              have c19b0 : decide (0 < x3_1) = true := decide_eq_true c19
              clear c19
              obtain rfl := Option.some.inj H
              have p153 : 0 ≤ (0 : Int) := (by omega)
              have q153 : 0 < (l0.length : Int) := of_decide_eq_true (by first | (with_reducible assumption) | assumption)
              obtain ⟨ad153, e153, hx153_0, hx153_1⟩ := at_T41 HR0.out 0 p153 q153
              cases e153
              have qi153 : (0 < l0.length) = True := eq_true (by omega)
              (try rw [show ((0 : Int)).toNat = 0 from rfl] at hx153_0)
              (try rw [show 0 * 2 = 0 from rfl] at hx153_0)
              (try rw [Addr.add_zero'] at hx153_0)
              (try rw [show ((0 : Int)).toNat = 0 from rfl] at hx153_1)
              (try rw [show 0 * 2 = 0 from rfl] at hx153_1)
              (try rw [Addr.add_zero'] at hx153_1)
              replace p153 := eq_true p153
              replace q153 := eq_true q153
              have p154 : 0 ≤ (0 : Int) := (by omega)
              have q154 : 0 < (l0.length : Int) := of_decide_eq_true (by first | (with_reducible assumption) | assumption)
              obtain ⟨ad154, e154, hx154_0, hx154_1⟩ := at_T41 HR0.out 0 p154 q154
              obtain rfl : ad153 = ad154 := (by injection e154)
              have qi154 : (0 < l0.length) = True := eq_true (by omega)
              (try rw [show ((0 : Int)).toNat = 0 from rfl] at hx154_0)
              (try rw [show 0 * 2 = 0 from rfl] at hx154_0)
              (try rw [Addr.add_zero'] at hx154_0)
              (try rw [show ((0 : Int)).toNat = 0 from rfl] at hx154_1)
              (try rw [show 0 * 2 = 0 from rfl] at hx154_1)
              (try rw [Addr.add_zero'] at hx154_1)
              replace p154 := eq_true p154
              replace q154 := eq_true q154
              go_wp2
              repeat (go_quiet (fail); try go_wp2)
              go_ret
              exact ⟨by first | rfl | (simp; done) | (simp [*]; done), by repeat (first | exact Drawn0.refl _ | apply Drawn0.step)⟩
            · rw [if_neg c19] at H
              have c19b0 : decide (0 < x3_1) = false := decide_eq_false c19
              clear c19
              obtain rfl := Option.some.inj H
              have p153 : 0 ≤ (0 : Int) := (by omega)
              have q153 : 0 < (l0.length : Int) := of_decide_eq_true (by first | (with_reducible assumption) | assumption)
              obtain ⟨ad153, e153, hx153_0, hx153_1⟩ := at_T41 HR0.out 0 p153 q153
              cases e153
              have qi153 : (0 < l0.length) = True := eq_true (by omega)
              (try rw [show ((0 : Int)).toNat = 0 from rfl] at hx153_0)
              (try rw [show 0 * 2 = 0 from rfl] at hx153_0)
              (try rw [Addr.add_zero'] at hx153_0)
              (try rw [show ((0 : Int)).toNat = 0 from rfl] at hx153_1)
              (try rw [show 0 * 2 = 0 from rfl] at hx153_1)
              (try rw [Addr.add_zero'] at hx153_1)
              replace p153 := eq_true p153
              replace q153 := eq_true q153
              go_wp2
              repeat (go_quiet (fail); try go_wp2)
              go_ret
              exact ⟨by first | rfl | (simp; done) | (simp [*]; done), by repeat (first | exact Drawn0.refl _ | apply Drawn0.step)⟩
        · rw [if_neg c3] at H
          exact absurd H (by simp)

/-! ### sennitref21_end: function 34 -/
def sennitref21_end.l0 : Nat → List (S41) → Int → Option (Int)
  | 0, _, _ => none
  | k + 1, x0, x1 => if x1 < (x0.length : Int) then (if 0 ≤ x1 then ((sennitref21_Marked.f k ((rd_T41 x0 x1).f0) ((rd_T41 x0 x1).f1)).bind fun t159 => (if t159 = true then (sennitref21_end.l0 k x0 (wrap64 (x1 + 1))) else (some x1))) else (none)) else (some x1)
def sennitref21_end.f (k : Nat) (l0 : List (S41)) (a1 : Int) : Option (Int) := sennitref21_end.l0 k l0 a1
theorem sennitref21_end.mono_l : ∀ k, (∀ y0 y1, LeO (sennitref21_end.l0 k y0 y1) (sennitref21_end.l0 (k + 1) y0 y1))
  | 0 => fun _ _ r h => by simp [sennitref21_end.l0] at h
  | k + 1 => by
    have ih0 := sennitref21_end.mono_l k
    · intro y0 y1
      unfold sennitref21_end.l0
      repeat' first
      | (with_reducible exact ih0 _ _)
      | (with_reducible exact sennitref21_Marked.mono _ _ _)
      | (with_reducible exact LeO.refl _)
      | (with_reducible exact LeO.none _)
      | (with_reducible refine LeO.ite ?_ ?_)
      | (with_reducible refine LeO.bind ?_ (fun _ => ?_))
      | exact ih0 _ _
      | exact sennitref21_Marked.mono _ _ _
      | exact LeO.none _
      | refine LeO.ite ?_ ?_
      | refine LeO.bind ?_ (fun _ => ?_)
theorem sennitref21_end.mono : ∀ a0 a1 k, LeO (sennitref21_end.f k a0 a1) (sennitref21_end.f (k + 1) a0 a1) := by
  intro a0 a1 k
  have ih0 := sennitref21_end.mono_l k
  unfold sennitref21_end.f
  repeat' first
      | (with_reducible exact ih0 _ _)
      | (with_reducible exact sennitref21_Marked.mono _ _ _)
      | (with_reducible exact LeO.refl _)
      | (with_reducible exact LeO.none _)
      | (with_reducible refine LeO.ite ?_ ?_)
      | (with_reducible refine LeO.bind ?_ (fun _ => ?_))
      | exact ih0 _ _
      | exact sennitref21_Marked.mono _ _ _
      | exact LeO.none _
      | refine LeO.ite ?_ ?_
      | refine LeO.bind ?_ (fun _ => ?_)
set_option maxHeartbeats 8000000 in
set_option maxRecDepth 100000 in
theorem sennitref21_end.calls (k : Nat) (A0 : Option Addr) (c0 : Nat) (l0 : List (S41)) (a1 : Int) (r : Int) (w : World) (hr0 : Kd.C k41 w A0 l0.length l0) (hc0 : l0.length ≤ c0) (h : sennitref21_end.f k l0 a1 = some r) :
    Calls Tryd.prog 34 #[.slice A0 l0.length c0, .int .i64 a1] w fun e w' => e = .returned (.int .i64 r) ∧ Below w.heap.size w w' := by
  have hu41 := Tryd.underlying41
  have HR0 := Aside0.mk hr0
  have HC0 := Aside0.mk hc0
  clear hr0 hc0
  have HB := Aside0.mk (Below.refl w.heap.size w)
  have H : (sennitref21_end.l0 k l0 a1) = some r := h
  clear h
  have H' := Aside0.mk H
  clear H
  go_enter Tryd.func34, Tryd.ntmps34
  go_wp2
  go_loopg [1] k (fun kq v1 w' => ∃ (x1_1 : Int), v1 = .int .i64 x1_1 ∧ Aside0 (sennitref21_end.l0 kq l0 x1_1 = some r) ∧ Aside0 (kq ≤ k) ∧ Aside0 (Below w.heap.size w w'))
  case atStart => exact ⟨(a1), (by first | rfl | (simp; done) | (simp [*]; done)), H', ⟨Nat.le_refl _⟩, ⟨by repeat (first | (with_reducible first | exact HB.out | apply below_alloc | apply pw_below_drewN | apply below_drew1) | exact HB.out)⟩⟩
  case round =>
    clear H'
    try clear p2
    obtain ⟨x1_1, rfl, HA, HK1, HB⟩ := hrel
    cases gk with
    | zero => exact absurd HA.out (by simp [sennitref21_end.l0])
    | succ k1 =>
      have H := HA.out
      clear HA
      simp only [sennitref21_end.l0] at H
      by_cases c3 : x1_1 < (l0.length : Int)
      · rw [if_pos c3] at H
        have c3b0 : decide (x1_1 < (l0.length : Int)) = true := decide_eq_true c3
        clear c3
        by_cases c4 : 0 ≤ x1_1
        · rw [if_pos c4] at H
          have c4b0 : decide (0 ≤ x1_1) = true := decide_eq_true c4
          clear c4
          replace H := Option.bind_eq_some_iff.mp H
          obtain ⟨t159, A50, H⟩ := H
          replace H : (if t159 = true then (sennitref21_end.l0 k1 l0 (wrap64 (x1_1 + 1))) else (some x1_1)) = some r := H
          have A5 := Aside0.mk A50
          clear A50
          by_cases c6 : t159 = true
          · subst c6
            have H1 : (sennitref21_end.l0 k1 l0 (wrap64 (x1_1 + 1))) = some r := by rw [if_pos rfl] at H; exact H
            clear H
            have H := H1
            clear H1
            have H' := Aside0.mk H
            clear H
            have p158 : 0 ≤ (x1_1 : Int) := of_decide_eq_true (by first | (with_reducible assumption) | assumption)
            have q158 : x1_1 < (l0.length : Int) := of_decide_eq_true (by first | (with_reducible assumption) | assumption)
            obtain ⟨ad158, e158, hx158_0, hx158_1⟩ := at_T41 HR0.out x1_1 p158 q158
            cases e158
            replace hx158_0 := (HB.out.cell (World.block_lt_of_cell? w _ hx158_0)).trans hx158_0
            replace hx158_1 := (HB.out.cell (World.block_lt_of_cell? w _ hx158_1)).trans hx158_1
            replace p158 := eq_true p158
            replace q158 := eq_true q158
            go_wp2_with (first | (go_at_call 20; (with_reducible refine (sennitref21_Marked.calls k1 ((rd_T41 l0 x1_1).f0) ((rd_T41 l0 x1_1).f1) true _ A5.out).mono ?_); rintro e w7 ⟨rfl, hb⟩; have n0_ := Aside0.mk (below_step (by repeat (first | (with_reducible first | exact HB.out | apply below_alloc | apply pw_below_drewN | apply below_drew1) | exact HB.out)) hb); clear HB; have HB := n0_; clear n0_; (try clear hb); (try clear hb2); (try clear hk); (try clear hi)))
            go_roundg k1
            case measure => have := HK1.out; omega
            case rel => exact ⟨(wrap64 (x1_1 + 1)), (by first | rfl | (simp; done) | (simp [*]; done)), H', ⟨by have := HK1.out; omega⟩, ⟨by repeat (first | (with_reducible first | exact HB.out | apply below_alloc | apply pw_below_drewN | apply below_drew1) | exact HB.out)⟩⟩
          · replace c6 := Bool.eq_false_iff.mpr c6
            subst c6
            have H1 : (some x1_1) = some r := by rw [if_neg (show ¬ (false = true) by decide)] at H; exact H
            clear H
            have H := H1
            clear H1
            obtain rfl := Option.some.inj H
            have p158 : 0 ≤ (x1_1 : Int) := of_decide_eq_true (by first | (with_reducible assumption) | assumption)
            have q158 : x1_1 < (l0.length : Int) := of_decide_eq_true (by first | (with_reducible assumption) | assumption)
            obtain ⟨ad158, e158, hx158_0, hx158_1⟩ := at_T41 HR0.out x1_1 p158 q158
            cases e158
            replace hx158_0 := (HB.out.cell (World.block_lt_of_cell? w _ hx158_0)).trans hx158_0
            replace hx158_1 := (HB.out.cell (World.block_lt_of_cell? w _ hx158_1)).trans hx158_1
            replace p158 := eq_true p158
            replace q158 := eq_true q158
            go_wp2_with (first | (go_at_call 20; (with_reducible refine (sennitref21_Marked.calls k1 ((rd_T41 l0 x1_1).f0) ((rd_T41 l0 x1_1).f1) false _ A5.out).mono ?_); rintro e w8 ⟨rfl, hb⟩; have n0_ := Aside0.mk (below_step (by repeat (first | (with_reducible first | exact HB.out | apply below_alloc | apply pw_below_drewN | apply below_drew1) | exact HB.out)) hb); clear HB; have HB := n0_; clear n0_; (try clear hb); (try clear hb2); (try clear hk); (try clear hi)))
            go_ret
            exact ⟨by first | rfl | (simp [errW_none, errW_some] <;> rfl) | (simp [errW_none, errW_some] <;> (generalize ByteArray.toList _ = l_ <;> cases l_ <;> rfl)) | (simp [*, errW_none, errW_some] <;> rfl), by repeat (first | (with_reducible first | exact HB.out | apply below_alloc | apply pw_below_drewN | apply below_drew1) | exact HB.out)⟩
        · rw [if_neg c4] at H
          exact absurd H (by simp)
      · rw [if_neg c3] at H
        have c3b0 : decide (x1_1 < (l0.length : Int)) = false := decide_eq_false c3
        clear c3
        obtain rfl := Option.some.inj H
        go_wp2
        go_ret
        exact ⟨by first | rfl | (simp [errW_none, errW_some] <;> rfl) | (simp [errW_none, errW_some] <;> (generalize ByteArray.toList _ = l_ <;> cases l_ <;> rfl)) | (simp [*, errW_none, errW_some] <;> rfl), by repeat (first | (with_reducible first | exact HB.out | apply below_alloc | apply pw_below_drewN | apply below_drew1) | exact HB.out)⟩

/-! ### sennitref21_begin: function 71 -/
def sennitref21_begin.l0 : Nat → List (S41) → Int → Option (Int)
  | 0, _, _ => none
  | k + 1, x0, x1 => if x1 > 0 then (if 0 ≤ (wrap64 (x1 - 1)) then (if (wrap64 (x1 - 1)) < (x0.length : Int) then ((sennitref21_Marked.f k ((rd_T41 x0 (wrap64 (x1 - 1))).f0) ((rd_T41 x0 (wrap64 (x1 - 1))).f1)).bind fun t161 => (if t161 = true then (sennitref21_begin.l0 k x0 (wrap64 (x1 - 1))) else (some x1))) else (none)) else (none)) else (some x1)
def sennitref21_begin.f (k : Nat) (l0 : List (S41)) (a1 : Int) : Option (Int) := sennitref21_begin.l0 k l0 a1
theorem sennitref21_begin.mono_l : ∀ k, (∀ y0 y1, LeO (sennitref21_begin.l0 k y0 y1) (sennitref21_begin.l0 (k + 1) y0 y1))
  | 0 => fun _ _ r h => by simp [sennitref21_begin.l0] at h
  | k + 1 => by
    have ih0 := sennitref21_begin.mono_l k
    · intro y0 y1
      unfold sennitref21_begin.l0
      repeat' first
      | (with_reducible exact ih0 _ _)
      | (with_reducible exact sennitref21_Marked.mono _ _ _)
      | (with_reducible exact LeO.refl _)
      | (with_reducible exact LeO.none _)
      | (with_reducible refine LeO.ite ?_ ?_)
      | (with_reducible refine LeO.bind ?_ (fun _ => ?_))
      | exact ih0 _ _
      | exact sennitref21_Marked.mono _ _ _
      | exact LeO.none _
      | refine LeO.ite ?_ ?_
      | refine LeO.bind ?_ (fun _ => ?_)
theorem sennitref21_begin.mono : ∀ a0 a1 k, LeO (sennitref21_begin.f k a0 a1) (sennitref21_begin.f (k + 1) a0 a1) := by
  intro a0 a1 k
  have ih0 := sennitref21_begin.mono_l k
  unfold sennitref21_begin.f
  repeat' first
      | (with_reducible exact ih0 _ _)
      | (with_reducible exact sennitref21_Marked.mono _ _ _)
      | (with_reducible exact LeO.refl _)
      | (with_reducible exact LeO.none _)
      | (with_reducible refine LeO.ite ?_ ?_)
      | (with_reducible refine LeO.bind ?_ (fun _ => ?_))
      | exact ih0 _ _
      | exact sennitref21_Marked.mono _ _ _
      | exact LeO.none _
      | refine LeO.ite ?_ ?_
      | refine LeO.bind ?_ (fun _ => ?_)
/-! ### sennitref21_kept: function 52 -/
def sennitref21_kept.f (k : Nat) (l0 : List (S41)) (a1 : Int) (a2 : Bool) : Option (Bool) := if 0 ≤ a1 then (if a1 < (l0.length : Int) then ((sennitref21_Marked.f k ((rd_T41 l0 a1).f0) ((rd_T41 l0 a1).f1)).bind fun t163 => (if t163 = true then (if a2 = true then ((sennitref21_begin.f k l0 a1).bind fun t164 => ((sennitref21_end.f k l0 a1).bind fun t165 => (if 0 ≤ t164 then (if t164 ≤ t165 then (if t165 ≤ (l0.length : Int) then ((sennitref21_Dull.f k ((l0.take (t165 : Int).toNat).drop (t164 : Int).toNat)).bind fun t170 => (some (!t170))) else (none)) else (none)) else (none)))) else (some (!false))) else (some false))) else (none)) else (none)
theorem sennitref21_kept.mono : ∀ a0 a1 a2 k, LeO (sennitref21_kept.f k a0 a1 a2) (sennitref21_kept.f (k + 1) a0 a1 a2) := by
  intro a0 a1 a2 k
  unfold sennitref21_kept.f
  repeat' first
      | (with_reducible exact sennitref21_Dull.mono _ _)
      | (with_reducible exact sennitref21_Marked.mono _ _ _)
      | (with_reducible exact sennitref21_begin.mono _ _ _)
      | (with_reducible exact sennitref21_end.mono _ _ _)
      | (with_reducible exact LeO.refl _)
      | (with_reducible exact LeO.none _)
      | (with_reducible refine LeO.ite ?_ ?_)
      | (with_reducible refine LeO.bind ?_ (fun _ => ?_))
      | exact sennitref21_Dull.mono _ _
      | exact sennitref21_Marked.mono _ _ _
      | exact sennitref21_begin.mono _ _ _
      | exact sennitref21_end.mono _ _ _
      | exact LeO.none _
      | refine LeO.ite ?_ ?_
      | refine LeO.bind ?_ (fun _ => ?_)
end Go.Proofs.YtenfoaajipiehaaDoor.Q
