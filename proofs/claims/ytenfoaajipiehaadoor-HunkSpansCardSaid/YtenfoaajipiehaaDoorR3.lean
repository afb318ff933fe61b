/- Contracts of the functions named below: each comes to what the Lean function of its name says (for every input; written by a program over the translation). -/
import Derived.Test.YtenfoaajipiehaaDoorQ0
import Derived.Test.YtenfoaajipiehaaDoorQ3
import Derived.Test.YtenfoaajipiehaaDoorX9
import Derived.Test.YtenfoaajipiehaaDoorXB
namespace Go.Proofs.YtenfoaajipiehaaDoor.Q
open Go.RowKit Go.Proofs.YtenfoaajipiehaaDoorW.PrintWords Go.Proofs.YtenfoaajipiehaaDoorW.PrintLast Go.Proofs.YtenfoaajipiehaaDoorW.PrintMore
attribute [local go_sem] max2_int min2_int max_two min_two max_three min_three max_four min_four   -- for this text's walks alone
set_option linter.unusedVariables false
set_option linter.unusedSimpArgs false
/-! ### sennitlaw21_awake: function 9 -/
def sennitlaw21_awake.f (k : Nat)  : Option (Bool) := (some (([(⟨(⟨#[32, 32]⟩ : ByteArray), (⟨#[97, 10]⟩ : ByteArray)⟩ : S41), (⟨(⟨#[43, 32]⟩ : ByteArray), (⟨#[98, 10]⟩ : ByteArray)⟩ : S41), (⟨(⟨#[32, 32]⟩ : ByteArray), (⟨#[99, 10]⟩ : ByteArray)⟩ : S41), (⟨(⟨#[32, 32]⟩ : ByteArray), (⟨#[100, 10]⟩ : ByteArray)⟩ : S41)] : List (S41)) : List (S41))).bind fun y101 => ((hunk_Hunks.f k y101 1 false).bind fun bt104 => ((hunk_Hunks.f k y101 1 true).bind fun bt108 => ((hunk_Hunks.f k y101 (-1) false).bind fun bt112 => (if bt104.2 = 0 then (if bt108.2 = 0 then (if bt112.2 = 1 then (if (bt104.1.length : Int) = 1 then (if 0 < (bt104.1.length : Int) then (if (((rd_T38 bt104.1 0).f2).length : Int) = 3 then (if ((rd_T38 bt104.1 0).f1.f1) = 3 then (if 0 < (((rd_T38 bt104.1 0).f0).length : Int) then (if ((rd_T36 ((rd_T38 bt104.1 0).f0) 0).f1) = 2 then (if (bt108.1.length : Int) = 0 then (if 1 ≤ 2 then (if 2 ≤ (y101.length : Int) then ((hunk_Dull.f ((y101.take 2).drop 1)).bind fun t125 => (if t125 = true then ((hunk_Groups.f y101).bind fun t126 => (if (t126.length : Int) = 1 then ((hunk_May.f k y101).bind fun t129 => (some t129)) else (some false))) else (some false))) else (none)) else (none)) else (some false)) else (some false)) else (none)) else (some false)) else (some false)) else (none)) else (some false)) else (some false)) else (some false)) else (some false)))))
theorem sennitlaw21_awake.mono : ∀ k, LeO (sennitlaw21_awake.f k ) (sennitlaw21_awake.f (k + 1) ) := by
  intro  k
  unfold sennitlaw21_awake.f
  repeat' first
      | (with_reducible exact hunk_Hunks.mono _ _ _ _)
      | (with_reducible exact hunk_May.mono _ _)
      | (with_reducible exact LeO.refl _)
      | (with_reducible exact LeO.none _)
      | (with_reducible refine LeO.ite ?_ ?_)
      | (with_reducible refine LeO.bind ?_ (fun _ => ?_))
      | exact hunk_Hunks.mono _ _ _ _
      | exact hunk_May.mono _ _
      | exact LeO.none _
      | refine LeO.ite ?_ ?_
      | refine LeO.bind ?_ (fun _ => ?_)
set_option maxHeartbeats 8000000 in
set_option maxRecDepth 100000 in
theorem sennitlaw21_awake.calls_t (k : Nat)  (r : Bool) (w : World) (hmx : MaxOk w) (hrt : r = true) (h : sennitlaw21_awake.f k  = some r) :
    Calls Tryd.prog 9 #[] w fun e w' => e = .returned (.bool r) ∧ Below w.heap.size w w' := by
  have HRT := Aside0.mk hrt
  clear hrt
  have HMX := Aside0.mk hmx
  clear hmx
  have hu41 := Tryd.underlying41
  have HB := Aside0.mk (Below.refl w.heap.size w)
  have H : ((some (([(⟨(⟨#[32, 32]⟩ : ByteArray), (⟨#[97, 10]⟩ : ByteArray)⟩ : S41), (⟨(⟨#[43, 32]⟩ : ByteArray), (⟨#[98, 10]⟩ : ByteArray)⟩ : S41), (⟨(⟨#[32, 32]⟩ : ByteArray), (⟨#[99, 10]⟩ : ByteArray)⟩ : S41), (⟨(⟨#[32, 32]⟩ : ByteArray), (⟨#[100, 10]⟩ : ByteArray)⟩ : S41)] : List (S41)) : List (S41))).bind fun y101 => ((hunk_Hunks.f k y101 1 false).bind fun bt104 => ((hunk_Hunks.f k y101 1 true).bind fun bt108 => ((hunk_Hunks.f k y101 (-1) false).bind fun bt112 => (if bt104.2 = 0 then (if bt108.2 = 0 then (if bt112.2 = 1 then (if (bt104.1.length : Int) = 1 then (if 0 < (bt104.1.length : Int) then (if (((rd_T38 bt104.1 0).f2).length : Int) = 3 then (if ((rd_T38 bt104.1 0).f1.f1) = 3 then (if 0 < (((rd_T38 bt104.1 0).f0).length : Int) then (if ((rd_T36 ((rd_T38 bt104.1 0).f0) 0).f1) = 2 then (if (bt108.1.length : Int) = 0 then (if 1 ≤ 2 then (if 2 ≤ (y101.length : Int) then ((hunk_Dull.f ((y101.take 2).drop 1)).bind fun t125 => (if t125 = true then ((hunk_Groups.f y101).bind fun t126 => (if (t126.length : Int) = 1 then ((hunk_May.f k y101).bind fun t129 => (some t129)) else (some false))) else (some false))) else (none)) else (none)) else (some false)) else (some false)) else (none)) else (some false)) else (some false)) else (none)) else (some false)) else (some false)) else (some false)) else (some false)))))) = some r := h
  clear h
  obtain ⟨y101, hy101⟩ : ∃ y_ : List (S41), y_ = (([(⟨(⟨#[32, 32]⟩ : ByteArray), (⟨#[97, 10]⟩ : ByteArray)⟩ : S41), (⟨(⟨#[43, 32]⟩ : ByteArray), (⟨#[98, 10]⟩ : ByteArray)⟩ : S41), (⟨(⟨#[32, 32]⟩ : ByteArray), (⟨#[99, 10]⟩ : ByteArray)⟩ : S41), (⟨(⟨#[32, 32]⟩ : ByteArray), (⟨#[100, 10]⟩ : ByteArray)⟩ : S41)] : List (S41))) := ⟨_, rfl⟩
  replace H : ((hunk_Hunks.f k y101 1 false).bind fun bt104 => ((hunk_Hunks.f k y101 1 true).bind fun bt108 => ((hunk_Hunks.f k y101 (-1) false).bind fun bt112 => (if bt104.2 = 0 then (if bt108.2 = 0 then (if bt112.2 = 1 then (if (bt104.1.length : Int) = 1 then (if 0 < (bt104.1.length : Int) then (if (((rd_T38 bt104.1 0).f2).length : Int) = 3 then (if ((rd_T38 bt104.1 0).f1.f1) = 3 then (if 0 < (((rd_T38 bt104.1 0).f0).length : Int) then (if ((rd_T36 ((rd_T38 bt104.1 0).f0) 0).f1) = 2 then (if (bt108.1.length : Int) = 0 then (if 1 ≤ 2 then (if 2 ≤ (y101.length : Int) then ((hunk_Dull.f ((y101.take 2).drop 1)).bind fun t125 => (if t125 = true then ((hunk_Groups.f y101).bind fun t126 => (if (t126.length : Int) = 1 then ((hunk_May.f k y101).bind fun t129 => (some t129)) else (some false))) else (some false))) else (none)) else (none)) else (some false)) else (some false)) else (none)) else (some false)) else (some false)) else (none)) else (some false)) else (some false)) else (some false)) else (some false))))) = some r := by first | (rw [hy101]; with_reducible exact H) | (have H2_ := (Option.bind_some _ _).symm.trans H; rw [hy101]; with_reducible exact H2_) | (have H2_ := (Option.bind_some _ _).symm.trans H; with_reducible exact H2_) | with_reducible exact H | (rw [hy101]; exact H) | exact H
  have Ny101 := Aside0.mk hy101
  clear hy101
  replace H := Option.bind_eq_some_iff.mp H
  obtain ⟨⟨t104, t107⟩, A10, H⟩ := H
  replace H : ((hunk_Hunks.f k y101 1 true).bind fun bt108 => ((hunk_Hunks.f k y101 (-1) false).bind fun bt112 => (if t107 = 0 then (if bt108.2 = 0 then (if bt112.2 = 1 then (if (t104.length : Int) = 1 then (if 0 < (t104.length : Int) then (if (((rd_T38 t104 0).f2).length : Int) = 3 then (if ((rd_T38 t104 0).f1.f1) = 3 then (if 0 < (((rd_T38 t104 0).f0).length : Int) then (if ((rd_T36 ((rd_T38 t104 0).f0) 0).f1) = 2 then (if (bt108.1.length : Int) = 0 then (if 1 ≤ 2 then (if 2 ≤ (y101.length : Int) then ((hunk_Dull.f ((y101.take 2).drop 1)).bind fun t125 => (if t125 = true then ((hunk_Groups.f y101).bind fun t126 => (if (t126.length : Int) = 1 then ((hunk_May.f k y101).bind fun t129 => (some t129)) else (some false))) else (some false))) else (none)) else (none)) else (some false)) else (some false)) else (none)) else (some false)) else (some false)) else (none)) else (some false)) else (some false)) else (some false)) else (some false)))) = some r := H
  have A1 := Aside0.mk A10
  clear A10
  replace H := Option.bind_eq_some_iff.mp H
  obtain ⟨⟨t108, t111⟩, A20, H⟩ := H
  replace H : ((hunk_Hunks.f k y101 (-1) false).bind fun bt112 => (if t107 = 0 then (if t111 = 0 then (if bt112.2 = 1 then (if (t104.length : Int) = 1 then (if 0 < (t104.length : Int) then (if (((rd_T38 t104 0).f2).length : Int) = 3 then (if ((rd_T38 t104 0).f1.f1) = 3 then (if 0 < (((rd_T38 t104 0).f0).length : Int) then (if ((rd_T36 ((rd_T38 t104 0).f0) 0).f1) = 2 then (if (t108.length : Int) = 0 then (if 1 ≤ 2 then (if 2 ≤ (y101.length : Int) then ((hunk_Dull.f ((y101.take 2).drop 1)).bind fun t125 => (if t125 = true then ((hunk_Groups.f y101).bind fun t126 => (if (t126.length : Int) = 1 then ((hunk_May.f k y101).bind fun t129 => (some t129)) else (some false))) else (some false))) else (none)) else (none)) else (some false)) else (some false)) else (none)) else (some false)) else (some false)) else (none)) else (some false)) else (some false)) else (some false)) else (some false))) = some r := H
  have A2 := Aside0.mk A20
  clear A20
  replace H := Option.bind_eq_some_iff.mp H
  obtain ⟨⟨t112, t115⟩, A30, H⟩ := H
  replace H : (if t107 = 0 then (if t111 = 0 then (if t115 = 1 then (if (t104.length : Int) = 1 then (if 0 < (t104.length : Int) then (if (((rd_T38 t104 0).f2).length : Int) = 3 then (if ((rd_T38 t104 0).f1.f1) = 3 then (if 0 < (((rd_T38 t104 0).f0).length : Int) then (if ((rd_T36 ((rd_T38 t104 0).f0) 0).f1) = 2 then (if (t108.length : Int) = 0 then (if 1 ≤ 2 then (if 2 ≤ (y101.length : Int) then ((hunk_Dull.f ((y101.take 2).drop 1)).bind fun t125 => (if t125 = true then ((hunk_Groups.f y101).bind fun t126 => (if (t126.length : Int) = 1 then ((hunk_May.f k y101).bind fun t129 => (some t129)) else (some false))) else (some false))) else (none)) else (none)) else (some false)) else (some false)) else (none)) else (some false)) else (some false)) else (none)) else (some false)) else (some false)) else (some false)) else (some false)) = some r := H
  have A3 := Aside0.mk A30
  clear A30
  by_cases c4 : t107 = 0
  · rw [if_pos c4] at H
    have c4b0 : (t107 == 0) = true := beq_iff_eq.mpr c4
    have c4b1 : (t107 != 0) = false := bne_eq_false_iff_eq.mpr c4
    clear c4
    by_cases c5 : t111 = 0
    · rw [if_pos c5] at H
      have c5b0 : (t111 == 0) = true := beq_iff_eq.mpr c5
      have c5b1 : (t111 != 0) = false := bne_eq_false_iff_eq.mpr c5
      clear c5
      by_cases c6 : t115 = 1
      · rw [if_pos c6] at H
        have c6b0 : (t115 == 1) = true := beq_iff_eq.mpr c6
        have c6b1 : (t115 != 1) = false := bne_eq_false_iff_eq.mpr c6
        clear c6
        by_cases c7 : (t104.length : Int) = 1
        · rw [if_pos c7] at H
          have c7b0 : ((t104.length : Int) == 1) = true := beq_iff_eq.mpr c7
          have c7b1 : ((t104.length : Int) != 1) = false := bne_eq_false_iff_eq.mpr c7
          clear c7
          by_cases c8 : 0 < (t104.length : Int)
          · rw [if_pos c8] at H
            have c8b0 : decide (0 < (t104.length : Int)) = true := decide_eq_true c8
            have c8b1 : decide (0 < t104.length) = true := decide_eq_true (by omega)
            clear c8
            by_cases c9 : (((rd_T38 t104 0).f2).length : Int) = 3
            · rw [if_pos c9] at H
              have c9b0 : ((((rd_T38 t104 0).f2).length : Int) == 3) = true := beq_iff_eq.mpr c9
              have c9b1 : ((((rd_T38 t104 0).f2).length : Int) != 3) = false := bne_eq_false_iff_eq.mpr c9
              clear c9
              by_cases c10 : ((rd_T38 t104 0).f1.f1) = 3
              · rw [if_pos c10] at H
                have c10b0 : (((rd_T38 t104 0).f1.f1) == 3) = true := beq_iff_eq.mpr c10
                have c10b1 : (((rd_T38 t104 0).f1.f1) != 3) = false := bne_eq_false_iff_eq.mpr c10
                clear c10
                by_cases c11 : 0 < (((rd_T38 t104 0).f0).length : Int)
                · rw [if_pos c11] at H
                  have c11b0 : decide (0 < (((rd_T38 t104 0).f0).length : Int)) = true := decide_eq_true c11
                  have c11b1 : decide (0 < ((rd_T38 t104 0).f0).length) = true := decide_eq_true (by omega)
                  clear c11
                  by_cases c12 : ((rd_T36 ((rd_T38 t104 0).f0) 0).f1) = 2
                  · rw [if_pos c12] at H
                    have c12b0 : (((rd_T36 ((rd_T38 t104 0).f0) 0).f1) == 2) = true := beq_iff_eq.mpr c12
                    have c12b1 : (((rd_T36 ((rd_T38 t104 0).f0) 0).f1) != 2) = false := bne_eq_false_iff_eq.mpr c12
                    clear c12
                    by_cases c13 : (t108.length : Int) = 0
                    · rw [if_pos c13] at H
                      have c13b0 : ((t108.length : Int) == 0) = true := beq_iff_eq.mpr c13
                      have c13b1 : ((t108.length : Int) != 0) = false := bne_eq_false_iff_eq.mpr c13
                      clear c13
                      by_cases c14 : 1 ≤ 2
                      · rw [if_pos c14] at H
                        have c14b0 := eq_true c14
                        have c14b1 : decide (1 ≤ 2) = true := decide_eq_true c14
                        clear c14
                        by_cases c15 : 2 ≤ (y101.length : Int)
                        · rw [if_pos c15] at H
                          have c15b0 := eq_true c15
                          have c15b1 : decide (2 ≤ (y101.length : Int)) = true := decide_eq_true c15
                          clear c15
                          obtain ⟨y120, hy120⟩ : ∃ y_ : List (S41), y_ = ((y101.take 2).drop 1) := ⟨_, rfl⟩
                          replace H : ((hunk_Dull.f y120).bind fun t125 => (if t125 = true then ((hunk_Groups.f y101).bind fun t126 => (if (t126.length : Int) = 1 then ((hunk_May.f k y101).bind fun t129 => (some t129)) else (some false))) else (some false))) = some r := by first | (rw [hy120]; with_reducible exact H) | (have H2_ := (Option.bind_some _ _).symm.trans H; rw [hy120]; with_reducible exact H2_) | (have H2_ := (Option.bind_some _ _).symm.trans H; with_reducible exact H2_) | with_reducible exact H | (rw [hy120]; exact H) | exact H
                          have Ny120 := Aside0.mk hy120
                          clear hy120
                          replace H := Option.bind_eq_some_iff.mp H
                          obtain ⟨t125, A160, H⟩ := H
                          replace H : (if t125 = true then ((hunk_Groups.f y101).bind fun t126 => (if (t126.length : Int) = 1 then ((hunk_May.f k y101).bind fun t129 => (some t129)) else (some false))) else (some false)) = some r := H
                          have A16 := Aside0.mk A160
                          clear A160
                          by_cases c17 : t125 = true
                          · subst c17
                            have H1 : ((hunk_Groups.f y101).bind fun t126 => (if (t126.length : Int) = 1 then ((hunk_May.f k y101).bind fun t129 => (some t129)) else (some false))) = some r := by rw [if_pos rfl] at H; exact H
                            clear H
                            have H := H1
                            clear H1
                            replace H := Option.bind_eq_some_iff.mp H
                            obtain ⟨t126, A180, H⟩ := H
                            replace H : (if (t126.length : Int) = 1 then ((hunk_May.f k y101).bind fun t129 => (some t129)) else (some false)) = some r := H
                            have A18 := Aside0.mk A180
                            clear A180
                            by_cases c19 : (t126.length : Int) = 1
                            · rw [if_pos c19] at H
                              have c19b0 : ((t126.length : Int) == 1) = true := beq_iff_eq.mpr c19
                              have c19b1 : ((t126.length : Int) != 1) = false := bne_eq_false_iff_eq.mpr c19
                              clear c19
                              replace H := Option.bind_eq_some_iff.mp H
                              obtain ⟨t129, A200, H⟩ := H
                              replace H : (some t129) = some r := H
                              have A20 := Aside0.mk A200
                              clear A200
                              obtain rfl := Option.some.inj H
                              go_enter Tryd.func9, Tryd.ntmps9
                              go_wp2_with (first | ((with_reducible refine gate_dst (N := 12) rfl ?_); (try (refine gate_guard (by rfl) ?_; dsimp only)); refine Kd.R_lit k41 _ 41 ?hg (N := 12) ?hd (xs := ([(⟨(⟨#[32, 32]⟩ : ByteArray), (⟨#[97, 10]⟩ : ByteArray)⟩ : S41), (⟨(⟨#[43, 32]⟩ : ByteArray), (⟨#[98, 10]⟩ : ByteArray)⟩ : S41), (⟨(⟨#[32, 32]⟩ : ByteArray), (⟨#[99, 10]⟩ : ByteArray)⟩ : S41), (⟨(⟨#[32, 32]⟩ : ByteArray), (⟨#[100, 10]⟩ : ByteArray)⟩ : S41)] : List (S41))) (inner := [.string (⟨#[32, 32]⟩ : ByteArray), .string (⟨#[97, 10]⟩ : ByteArray), .string (⟨#[43, 32]⟩ : ByteArray), .string (⟨#[98, 10]⟩ : ByteArray), .string (⟨#[32, 32]⟩ : ByteArray), .string (⟨#[99, 10]⟩ : ByteArray), .string (⟨#[32, 32]⟩ : ByteArray), .string (⟨#[100, 10]⟩ : ByteArray)]) (ok := fun _ => True) (okp := fun _ => True) ?hr ?hp (fun _ hk => hk) trivial (Below.refl _ _) (Nat.le_refl _) (by simp) ?_; (case hd => rfl); (case hg => rfl); (case hr => first | (go_simp; done) | (go_simp; rfl)); (case hp => exact (Reps.c2 (show Kd.M k41 _ _ _ (⟨(⟨#[32, 32]⟩ : ByteArray), (⟨#[97, 10]⟩ : ByteArray)⟩ : S41) [.string (⟨#[32, 32]⟩ : ByteArray), .string (⟨#[97, 10]⟩ : ByteArray)] from (k41_mkM _ _ _ (⟨(⟨#[32, 32]⟩ : ByteArray), (⟨#[97, 10]⟩ : ByteArray)⟩ : S41) )) (Reps.c2 (show Kd.M k41 _ _ _ (⟨(⟨#[43, 32]⟩ : ByteArray), (⟨#[98, 10]⟩ : ByteArray)⟩ : S41) [.string (⟨#[43, 32]⟩ : ByteArray), .string (⟨#[98, 10]⟩ : ByteArray)] from (k41_mkM _ _ _ (⟨(⟨#[43, 32]⟩ : ByteArray), (⟨#[98, 10]⟩ : ByteArray)⟩ : S41) )) (Reps.c2 (show Kd.M k41 _ _ _ (⟨(⟨#[32, 32]⟩ : ByteArray), (⟨#[99, 10]⟩ : ByteArray)⟩ : S41) [.string (⟨#[32, 32]⟩ : ByteArray), .string (⟨#[99, 10]⟩ : ByteArray)] from (k41_mkM _ _ _ (⟨(⟨#[32, 32]⟩ : ByteArray), (⟨#[99, 10]⟩ : ByteArray)⟩ : S41) )) (Reps.c2 (show Kd.M k41 _ _ _ (⟨(⟨#[32, 32]⟩ : ByteArray), (⟨#[100, 10]⟩ : ByteArray)⟩ : S41) [.string (⟨#[32, 32]⟩ : ByteArray), .string (⟨#[100, 10]⟩ : ByteArray)] from (k41_mkM _ _ _ (⟨(⟨#[32, 32]⟩ : ByteArray), (⟨#[100, 10]⟩ : ByteArray)⟩ : S41) )) (Reps.none _ _)))))); intro v102 w21 ho22 hb hg_ hnew_; clear hg_ hnew_; (first | rw [← Ny101.out] at ho22 | (simp only [Int.reduceToNat] at ho22; rw [← Ny101.out] at ho22)); have n0_ := Aside0.mk (Kd.R_lower ho22 (below_size (by repeat (first | (with_reducible first | exact HB.out | apply below_alloc | apply pw_below_drewN | apply below_drew1) | exact HB.out)))); have n1_ := Aside0.mk (below_step (by repeat (first | (with_reducible first | exact HB.out | apply below_alloc | apply pw_below_drewN | apply below_drew1) | exact HB.out)) hb); clear HB; have HO103 := n0_; have HB := n1_; clear n0_ n1_; clear hb ho22; obtain ⟨Ao23, co23, eo23⟩ := Kd.R_slice HO103.out; subst eo23) | ((with_reducible refine gate_callee (f := 11) rfl ?_); refine goesL_ (some 15) rfl rfl Tryd.func11 (by kernel_rfl) rfl #[.slice Ao23 y101.length co23, .int .i64 1, .bool false] rfl (by (try simp only [List.map_toArray, List.map_cons, List.map_nil]); first | done | rfl | (simp only [List.length_drop, List.length_take]; rfl)) ?_; (with_reducible refine (hunk_Hunks.calls k (fun k_ => some k_ = (.slice Ao23 y101.length co23 : Value).ownBlock) _ _ y101 1 false t104 t107 _ ?side1 ?sidemx A1.out).mono ?_); (case sidemx => exact MaxOk.below HMX.out (by repeat (first | (with_reducible first | exact HB.out | apply below_alloc | apply pw_below_drewN | apply below_drew1) | exact HB.out))); (case side1 => exact Kd.R_V (Kd.R_tight rfl (HO103.out))); rintro e w24 ⟨v105, rfl, ho0, hb⟩; refine ⟨_, rfl, ?_⟩; have n0_ := Aside0.mk (Kd.R_below (by (with_reducible repeat (first | apply Kd.R_alloc | apply Kd.R_drewN | apply Kd.R_drew)); exact HO103.out) hb); have n1_ := Aside0.mk (Kd.N_lower (Kd.N_mono (ok' := fun k_ => True) ho0 (fun k_ hk_ => trivial)) (below_size (by repeat (first | (with_reducible first | exact HB.out | apply below_alloc | apply pw_below_drewN | apply below_drew1) | exact HB.out)))); have n2_ := Aside0.mk (below_step (by repeat (first | (with_reducible first | exact HB.out | apply below_alloc | apply pw_below_drewN | apply below_drew1) | exact HB.out)) hb); clear HO103; clear HB; have HO103 := n0_; have HO106 := n1_; have HB := n2_; clear n0_ n1_ n2_; (try clear hb); (try clear hb2); (try clear hk); (try clear hi); (try clear ho0)) | ((with_reducible refine gate_callee (f := 11) rfl ?_); refine goesL_ (some 20) rfl rfl Tryd.func11 (by kernel_rfl) rfl #[.slice Ao23 y101.length co23, .int .i64 1, .bool true] rfl (by (try simp only [List.map_toArray, List.map_cons, List.map_nil]); first | done | rfl | (simp only [List.length_drop, List.length_take]; rfl)) ?_; (with_reducible refine (hunk_Hunks.calls k (fun k_ => some k_ = (.slice Ao23 y101.length co23 : Value).ownBlock) _ _ y101 1 true t108 t111 _ ?side1 ?sidemx A2.out).mono ?_); (case sidemx => exact MaxOk.below HMX.out (by repeat (first | (with_reducible first | exact HB.out | apply below_alloc | apply pw_below_drewN | apply below_drew1) | exact HB.out))); (case side1 => exact Kd.R_V (Kd.R_tight rfl (Kd.R_apart' (HO103.out) (Kd.N_typed HO106.out) (by decide)))); rintro e w25 ⟨v109, rfl, ho0, hb⟩; refine ⟨_, rfl, ?_⟩; have n0_ := Aside0.mk (Kd.R_below (by (with_reducible repeat (first | apply Kd.R_alloc | apply Kd.R_drewN | apply Kd.R_drew)); exact HO103.out) hb); have n1_ := Aside0.mk (Kd.N_elder' (by (with_reducible repeat (first | apply Kd.N_alloc | apply Kd.N_drewN | apply Kd.N_drew)); exact HO106.out) (Kd.N_base ho0) hb); have n2_ := Aside0.mk (Kd.N_lower (Kd.N_mono (ok' := fun k_ => some k_ ≠ (v105 : Value).ownBlock) ho0 (fun k_ hk_ => Or.elim hk_ (fun hs_ => ((Kd.R_apart' (HO103.out) (Kd.N_typed HO106.out) (by decide)).1 k_ hs_.symm).2) (fun hn_ => (Kd.fresh' (Kd.N_lt (by (with_reducible repeat (first | apply Kd.N_alloc | apply Kd.N_drewN | apply Kd.N_drew)); exact HO106.out)) k_ hn_)))) (below_size (by repeat (first | (with_reducible first | exact HB.out | apply below_alloc | apply pw_below_drewN | apply below_drew1) | exact HB.out)))); have n3_ := Aside0.mk (below_step (by repeat (first | (with_reducible first | exact HB.out | apply below_alloc | apply pw_below_drewN | apply below_drew1) | exact HB.out)) hb); clear HO103; clear HO106; clear HB; have HO103 := n0_; have HO106 := n1_; have HO110 := n2_; have HB := n3_; clear n0_ n1_ n2_ n3_; (try clear hb); (try clear hb2); (try clear hk); (try clear hi); (try clear ho0)) | ((with_reducible refine gate_callee (f := 11) rfl ?_); refine goesL_ (some 25) rfl rfl Tryd.func11 (by kernel_rfl) rfl #[.slice Ao23 y101.length co23, .int .i64 (-1), .bool false] rfl (by (try simp only [List.map_toArray, List.map_cons, List.map_nil]); first | done | rfl | (simp only [List.length_drop, List.length_take]; rfl)) ?_; (with_reducible refine (hunk_Hunks.calls k (fun k_ => some k_ = (.slice Ao23 y101.length co23 : Value).ownBlock) _ _ y101 (-1) false t112 t115 _ ?side1 ?sidemx A3.out).mono ?_); (case sidemx => exact MaxOk.below HMX.out (by repeat (first | (with_reducible first | exact HB.out | apply below_alloc | apply pw_below_drewN | apply below_drew1) | exact HB.out))); (case side1 => exact Kd.R_V (Kd.R_tight rfl (Kd.R_apart' (Kd.R_apart' (HO103.out) (Kd.N_typed HO106.out) (by decide)) (Kd.N_typed HO110.out) (by decide)))); rintro e w26 ⟨v113, rfl, ho0, hb⟩; refine ⟨_, rfl, ?_⟩; have n0_ := Aside0.mk (Kd.R_below (by (with_reducible repeat (first | apply Kd.R_alloc | apply Kd.R_drewN | apply Kd.R_drew)); exact HO103.out) hb); have n1_ := Aside0.mk (Kd.N_elder' (by (with_reducible repeat (first | apply Kd.N_alloc | apply Kd.N_drewN | apply Kd.N_drew)); exact HO106.out) (Kd.N_base ho0) hb); have n2_ := Aside0.mk (Kd.N_elder' (by (with_reducible repeat (first | apply Kd.N_alloc | apply Kd.N_drewN | apply Kd.N_drew)); exact HO110.out) (Kd.N_base ho0) hb); have n3_ := Aside0.mk (Kd.N_lower (Kd.N_mono (ok' := fun k_ => some k_ ≠ (v105 : Value).ownBlock ∧ some k_ ≠ (v109 : Value).ownBlock) ho0 (fun k_ hk_ => ⟨Or.elim hk_ (fun hs_ => ((Kd.R_apart' (Kd.R_apart' (HO103.out) (Kd.N_typed HO106.out) (by decide)) (Kd.N_typed HO110.out) (by decide)).1 k_ hs_.symm).1.2) (fun hn_ => (Kd.fresh' (Kd.N_lt (by (with_reducible repeat (first | apply Kd.N_alloc | apply Kd.N_drewN | apply Kd.N_drew)); exact HO106.out)) k_ hn_)), Or.elim hk_ (fun hs_ => ((Kd.R_apart' (Kd.R_apart' (HO103.out) (Kd.N_typed HO106.out) (by decide)) (Kd.N_typed HO110.out) (by decide)).1 k_ hs_.symm).2) (fun hn_ => (Kd.fresh' (Kd.N_lt (by (with_reducible repeat (first | apply Kd.N_alloc | apply Kd.N_drewN | apply Kd.N_drew)); exact HO110.out)) k_ hn_))⟩)) (below_size (by repeat (first | (with_reducible first | exact HB.out | apply below_alloc | apply pw_below_drewN | apply below_drew1) | exact HB.out)))); have n4_ := Aside0.mk (below_step (by repeat (first | (with_reducible first | exact HB.out | apply below_alloc | apply pw_below_drewN | apply below_drew1) | exact HB.out)) hb); clear HO103; clear HO106; clear HO110; clear HB; have HO103 := n0_; have HO106 := n1_; have HO110 := n2_; have HO114 := n3_; have HB := n4_; clear n0_ n1_ n2_ n3_ n4_; (try clear hb); (try clear hb2); (try clear hk); (try clear hi); (try clear ho0); obtain ⟨Ao27, co27, eo27⟩ := Kd.N_slice HO106.out; subst eo27; have p116 : 0 ≤ (0 : Int) := (by omega); have q116 : 0 < (t104.length : Int) := of_decide_eq_true (by first | (with_reducible assumption) | assumption); obtain ⟨ad116, A116_0, c116_0, A116_3, c116_3, e116, hx116_0, hx116_1, hx116_2, hx116_3, hl116_0, hi116_0, hl116_3, hi116_3⟩ := at_T38 (Kd.N_reads' HO106.out).2.2 0 p116 q116; cases e116; obtain ⟨ce116, hce116, hMe116, hcc116⟩ := Kd.N_get HO106.out z38 0 p116 (by first | exact q116 | exact of_decide_eq_true (by first | (with_reducible assumption) | assumption) | (have e_ := (Kd.N_reads' HO106.out).1; omega)); obtain ⟨ua116_0, uc116_0, ua116_3, uc116_3, rfl, ul116_0, ge116_0, ul116_3, ge116_3⟩ := k38_openF hMe116; have hv116_0 := hcc116 0 _ rfl; rw [Nat.add_zero] at hv116_0; replace hv116_0 := Option.some.inj (hv116_0.symm.trans hx116_0); injection hv116_0 with hva_ hvn_ hvc_; rw [hva_] at ge116_0; rw [hvc_] at ul116_0; have HL116_0 := Aside0.mk (show Kd.V k36 36 _ w.heap.size _ _ ((rd_T38 t104 0).f0) from Kd.V_mk ul116_0 ge116_0); clear hva_ hvn_ hvc_ ge116_0 ul116_0; have hv116_3 := hcc116 3 _ rfl; rw [add_field _ _ 3 (by omega)] at hv116_3; replace hv116_3 := Option.some.inj (hv116_3.symm.trans hx116_3); injection hv116_3 with hva_ hvn_ hvc_; rw [hva_] at ge116_3; rw [hvc_] at ul116_3; have HL116_3 := Aside0.mk (show Kd.V k41 41 _ w.heap.size _ _ ((rd_T38 t104 0).f2) from Kd.V_mk ul116_3 ge116_3); clear hva_ hvn_ hvc_ ge116_3 ul116_3; clear hcc116 hce116; have qi116 : (0 < t104.length) = True := eq_true (by omega); (try rw [show ((0 : Int)).toNat = 0 from rfl] at hx116_0); (try rw [show 0 * 4 = 0 from rfl] at hx116_0); (try rw [Addr.add_zero'] at hx116_0); (try rw [show ((0 : Int)).toNat = 0 from rfl] at hx116_1); (try rw [show 0 * 4 = 0 from rfl] at hx116_1); (try rw [Addr.add_zero'] at hx116_1); (try rw [show ((0 : Int)).toNat = 0 from rfl] at hx116_2); (try rw [show 0 * 4 = 0 from rfl] at hx116_2); (try rw [Addr.add_zero'] at hx116_2); (try rw [show ((0 : Int)).toNat = 0 from rfl] at hx116_3); (try rw [show 0 * 4 = 0 from rfl] at hx116_3); (try rw [Addr.add_zero'] at hx116_3); have HR116_0 := Aside0.mk hi116_0; have HC116_0 := Aside0.mk hl116_0; clear hi116_0 hl116_0; have HR116_3 := Aside0.mk hi116_3; have HC116_3 := Aside0.mk hl116_3; clear hi116_3 hl116_3; replace p116 := eq_true p116; replace q116 := eq_true q116; have p117 : 0 ≤ (0 : Int) := (by omega); have q117 : 0 < (t104.length : Int) := of_decide_eq_true (by first | (with_reducible assumption) | assumption); obtain ⟨ad117, A117_0, c117_0, A117_3, c117_3, e117, hx117_0, hx117_1, hx117_2, hx117_3, hl117_0, hi117_0, hl117_3, hi117_3⟩ := at_T38 (Kd.N_reads' HO106.out).2.2 0 p117 q117; obtain rfl : ad116 = ad117 := (by injection e117); obtain ⟨ce117, hce117, hMe117, hcc117⟩ := Kd.N_get HO106.out z38 0 p117 (by first | exact q117 | exact of_decide_eq_true (by first | (with_reducible assumption) | assumption) | (have e_ := (Kd.N_reads' HO106.out).1; omega)); obtain ⟨ua117_0, uc117_0, ua117_3, uc117_3, rfl, ul117_0, ge117_0, ul117_3, ge117_3⟩ := k38_openF hMe117; have hv117_0 := hcc117 0 _ rfl; rw [Nat.add_zero] at hv117_0; replace hv117_0 := Option.some.inj (hv117_0.symm.trans hx117_0); injection hv117_0 with hva_ hvn_ hvc_; rw [hva_] at ge117_0; rw [hvc_] at ul117_0; have HL117_0 := Aside0.mk (show Kd.V k36 36 _ w.heap.size _ _ ((rd_T38 t104 0).f0) from Kd.V_mk ul117_0 ge117_0); clear hva_ hvn_ hvc_ ge117_0 ul117_0; have hv117_3 := hcc117 3 _ rfl; rw [add_field _ _ 3 (by omega)] at hv117_3; replace hv117_3 := Option.some.inj (hv117_3.symm.trans hx117_3); injection hv117_3 with hva_ hvn_ hvc_; rw [hva_] at ge117_3; rw [hvc_] at ul117_3; have HL117_3 := Aside0.mk (show Kd.V k41 41 _ w.heap.size _ _ ((rd_T38 t104 0).f2) from Kd.V_mk ul117_3 ge117_3); clear hva_ hvn_ hvc_ ge117_3 ul117_3; clear hcc117 hce117; have qi117 : (0 < t104.length) = True := eq_true (by omega); (try rw [show ((0 : Int)).toNat = 0 from rfl] at hx117_0); (try rw [show 0 * 4 = 0 from rfl] at hx117_0); (try rw [Addr.add_zero'] at hx117_0); (try rw [show ((0 : Int)).toNat = 0 from rfl] at hx117_1); (try rw [show 0 * 4 = 0 from rfl] at hx117_1); (try rw [Addr.add_zero'] at hx117_1); (try rw [show ((0 : Int)).toNat = 0 from rfl] at hx117_2); (try rw [show 0 * 4 = 0 from rfl] at hx117_2); (try rw [Addr.add_zero'] at hx117_2); (try rw [show ((0 : Int)).toNat = 0 from rfl] at hx117_3); (try rw [show 0 * 4 = 0 from rfl] at hx117_3); (try rw [Addr.add_zero'] at hx117_3); have HR117_0 := Aside0.mk hi117_0; have HC117_0 := Aside0.mk hl117_0; clear hi117_0 hl117_0; have HR117_3 := Aside0.mk hi117_3; have HC117_3 := Aside0.mk hl117_3; clear hi117_3 hl117_3; replace p117 := eq_true p117; replace q117 := eq_true q117; have ea_ := Option.some.inj (hx116_0.symm.trans hx117_0); injection ea_ with ea_ en_ ec_; subst ea_; subst ec_; clear en_; have ea_ := Option.some.inj (hx116_3.symm.trans hx117_3); injection ea_ with ea_ en_ ec_; subst ea_; subst ec_; clear en_; have p118 : 0 ≤ (0 : Int) := (by omega); have q118 : 0 < (t104.length : Int) := of_decide_eq_true (by first | (with_reducible assumption) | assumption); obtain ⟨ad118, A118_0, c118_0, A118_3, c118_3, e118, hx118_0, hx118_1, hx118_2, hx118_3, hl118_0, hi118_0, hl118_3, hi118_3⟩ := at_T38 (Kd.N_reads' HO106.out).2.2 0 p118 q118; obtain rfl : ad116 = ad118 := (by injection e118); obtain ⟨ce118, hce118, hMe118, hcc118⟩ := Kd.N_get HO106.out z38 0 p118 (by first | exact q118 | exact of_decide_eq_true (by first | (with_reducible assumption) | assumption) | (have e_ := (Kd.N_reads' HO106.out).1; omega)); obtain ⟨ua118_0, uc118_0, ua118_3, uc118_3, rfl, ul118_0, ge118_0, ul118_3, ge118_3⟩ := k38_openF hMe118; have hv118_0 := hcc118 0 _ rfl; rw [Nat.add_zero] at hv118_0; replace hv118_0 := Option.some.inj (hv118_0.symm.trans hx118_0); injection hv118_0 with hva_ hvn_ hvc_; rw [hva_] at ge118_0; rw [hvc_] at ul118_0; have HL118_0 := Aside0.mk (show Kd.V k36 36 _ w.heap.size _ _ ((rd_T38 t104 0).f0) from Kd.V_mk ul118_0 ge118_0); clear hva_ hvn_ hvc_ ge118_0 ul118_0; have hv118_3 := hcc118 3 _ rfl; rw [add_field _ _ 3 (by omega)] at hv118_3; replace hv118_3 := Option.some.inj (hv118_3.symm.trans hx118_3); injection hv118_3 with hva_ hvn_ hvc_; rw [hva_] at ge118_3; rw [hvc_] at ul118_3; have HL118_3 := Aside0.mk (show Kd.V k41 41 _ w.heap.size _ _ ((rd_T38 t104 0).f2) from Kd.V_mk ul118_3 ge118_3); clear hva_ hvn_ hvc_ ge118_3 ul118_3; clear hcc118 hce118; have qi118 : (0 < t104.length) = True := eq_true (by omega); (try rw [show ((0 : Int)).toNat = 0 from rfl] at hx118_0); (try rw [show 0 * 4 = 0 from rfl] at hx118_0); (try rw [Addr.add_zero'] at hx118_0); (try rw [show ((0 : Int)).toNat = 0 from rfl] at hx118_1); (try rw [show 0 * 4 = 0 from rfl] at hx118_1); (try rw [Addr.add_zero'] at hx118_1); (try rw [show ((0 : Int)).toNat = 0 from rfl] at hx118_2); (try rw [show 0 * 4 = 0 from rfl] at hx118_2); (try rw [Addr.add_zero'] at hx118_2); (try rw [show ((0 : Int)).toNat = 0 from rfl] at hx118_3); (try rw [show 0 * 4 = 0 from rfl] at hx118_3); (try rw [Addr.add_zero'] at hx118_3); have HR118_0 := Aside0.mk hi118_0; have HC118_0 := Aside0.mk hl118_0; clear hi118_0 hl118_0; have HR118_3 := Aside0.mk hi118_3; have HC118_3 := Aside0.mk hl118_3; clear hi118_3 hl118_3; replace p118 := eq_true p118; replace q118 := eq_true q118; have ea_ := Option.some.inj (hx116_0.symm.trans hx118_0); injection ea_ with ea_ en_ ec_; subst ea_; subst ec_; clear en_; have ea_ := Option.some.inj (hx116_3.symm.trans hx118_3); injection ea_ with ea_ en_ ec_; subst ea_; subst ec_; clear en_; have p119 : 0 ≤ (0 : Int) := (by omega); have q119 : 0 < (((rd_T38 t104 0).f0).length : Int) := of_decide_eq_true (by first | (with_reducible assumption) | assumption); obtain ⟨ad119, e119, hx119_0, hx119_1⟩ := at_T36 (by repeat (first | (with_reducible exact HR118_0.out) | (with_reducible refine Kd.C_alloc ?_ _) | (with_reducible refine Kd.C_drewN ?_ _) | (with_reducible refine Kd.C_drew ?_) | exact HR118_0.out)) 0 p119 q119; cases e119; have qi119 : (0 < ((rd_T38 t104 0).f0).length) = True := eq_true (by omega); (try rw [show ((0 : Int)).toNat = 0 from rfl] at hx119_0); (try rw [show 0 * 2 = 0 from rfl] at hx119_0); (try rw [Addr.add_zero'] at hx119_0); (try rw [show ((0 : Int)).toNat = 0 from rfl] at hx119_1); (try rw [show 0 * 2 = 0 from rfl] at hx119_1); (try rw [Addr.add_zero'] at hx119_1); replace p119 := eq_true p119; replace q119 := eq_true q119; obtain ⟨Ao28, co28, eo28⟩ := Kd.N_slice HO110.out; subst eo28; have q29 : (2 : Int) ≤ ((y101.length : Int) : Int) := of_decide_eq_true (by first | (with_reducible assumption) | assumption); obtain ⟨i029, hi029, _, hsz29, _⟩ := info_parts info41; have hroom29 : y101.length ≤ co23 := (Kd.R_reads' HO103.out).2.1; have hC29 : Kd.F k41 _ _ Ao23 y101.length y101 := (Kd.V_at (base := w.heap.size) (Kd.R_V (Kd.R_apart' (Kd.R_apart' (Kd.R_apart' (HO103.out) (Kd.N_typed HO106.out) (by decide)) (Kd.N_typed HO110.out) (by decide)) (Kd.N_typed HO114.out) (by decide)))).2.2; have ql29 : (1 : Int) ≤ (2 : Int) := (by omega); have hcut29 := cut_mid (P := Tryd.prog) 22 41 .i64 .i64 Tryd.underlying22 hi029 2 hsz29 Ao23 y101.length co23 1 2 (by omega) ql29 q29 hroom29; have hr29 := Kd.F_mid (lo := (1 : Int).toNat) (hi := (2 : Int).toNat) (c := co23) hC29 (by omega) (by omega) hroom29; obtain ⟨A29, hA29⟩ : ∃ A1, A1 = (if co23 = (1 : Int).toNat then Ao23 else (Ao23 : Option Addr).map (·.add ((1 : Int).toNat * 2))) := ⟨_, rfl⟩; obtain ⟨c29, hc29⟩ : ∃ c1, c1 = co23 - (1 : Int).toNat := ⟨_, rfl⟩; have hy29 : y120.length = (2 : Int).toNat - (1 : Int).toNat := (by rw [Ny120.out, List.length_drop, List.length_take] <;> omega); rw [show ((y101).take (2 : Int).toNat).drop (1 : Int).toNat = y120 from Ny120.out.symm] at hr29; replace hr29 : Kd.F k41 _ _ A29 y120.length y120 := (by rw [hA29]; exact hr29); rw [← hy29, ← hA29, ← hc29] at hcut29; have HO124 := Aside0.mk (show Kd.V k41 41 _ w.heap.size _ (.slice A29 y120.length c29) y120 from Kd.V_mk (by rw [hy29, hc29]; exact Nat.sub_le_sub_right (Nat.le_trans (by omega) hroom29) _) hr29); have HC124 := Aside0.mk (show y120.length ≤ c29 from by rw [hy29, hc29]; exact Nat.sub_le_sub_right (Nat.le_trans (by omega) hroom29) _); clear hr29 hC29 hroom29 hi029 hsz29 hc29; have KY29 := Aside0.mk hy29; have KA29 := Aside0.mk hA29; clear hy29 hA29; replace q29 := eq_true q29) | (go_at_call 17; (with_reducible refine (hunk_Dull.calls _ _ y120 true _ ?side1 ?side2 ?sidemx A16.out).mono ?_); (case sidemx => exact MaxOk.below HMX.out (by repeat (first | (with_reducible first | exact HB.out | apply below_alloc | apply pw_below_drewN | apply below_drew1) | exact HB.out))); (case side1 => repeat (first | exact (Kd.V_reads' HO124.out).2.2 | (with_reducible refine Kd.C_alloc ?_ _) | (with_reducible refine Kd.C_drewN ?_ _) | (with_reducible refine Kd.C_drew ?_))); (case side2 => exact (Kd.V_reads' HO124.out).2.1); rintro e w30 ⟨rfl, hb⟩; have n0_ := Aside0.mk (Kd.R_below (by (with_reducible repeat (first | apply Kd.R_alloc | apply Kd.R_drewN | apply Kd.R_drew)); exact HO103.out) hb); have n1_ := Aside0.mk (Kd.N_below (by (with_reducible repeat (first | apply Kd.N_alloc | apply Kd.N_drewN | apply Kd.N_drew)); exact HO106.out) hb); have n2_ := Aside0.mk (Kd.N_below (by (with_reducible repeat (first | apply Kd.N_alloc | apply Kd.N_drewN | apply Kd.N_drew)); exact HO110.out) hb); have n3_ := Aside0.mk (Kd.N_below (by (with_reducible repeat (first | apply Kd.N_alloc | apply Kd.N_drewN | apply Kd.N_drew)); exact HO114.out) hb); have n4_ := Aside0.mk (Kd.V_below (by (with_reducible repeat (first | apply Kd.V_alloc | apply Kd.V_drewN | apply Kd.V_drew)); exact HL116_0.out) hb); have n5_ := Aside0.mk (Kd.V_below (by (with_reducible repeat (first | apply Kd.V_alloc | apply Kd.V_drewN | apply Kd.V_drew)); exact HL116_3.out) hb); have n6_ := Aside0.mk (Kd.V_below (by (with_reducible repeat (first | apply Kd.V_alloc | apply Kd.V_drewN | apply Kd.V_drew)); exact HL117_0.out) hb); have n7_ := Aside0.mk (Kd.V_below (by (with_reducible repeat (first | apply Kd.V_alloc | apply Kd.V_drewN | apply Kd.V_drew)); exact HL117_3.out) hb); have n8_ := Aside0.mk (Kd.V_below (by (with_reducible repeat (first | apply Kd.V_alloc | apply Kd.V_drewN | apply Kd.V_drew)); exact HL118_0.out) hb); have n9_ := Aside0.mk (Kd.V_below (by (with_reducible repeat (first | apply Kd.V_alloc | apply Kd.V_drewN | apply Kd.V_drew)); exact HL118_3.out) hb); have n10_ := Aside0.mk (Kd.V_below (by (with_reducible repeat (first | apply Kd.V_alloc | apply Kd.V_drewN | apply Kd.V_drew)); exact HO124.out) hb); have n11_ := Aside0.mk (Kd.C_below (by repeat (first | (with_reducible exact HR116_0.out) | (with_reducible refine Kd.C_alloc ?_ _) | (with_reducible refine Kd.C_drewN ?_ _) | (with_reducible refine Kd.C_drew ?_) | exact HR116_0.out)) hb); have n12_ := Aside0.mk (Kd.C_below (by repeat (first | (with_reducible exact HR116_3.out) | (with_reducible refine Kd.C_alloc ?_ _) | (with_reducible refine Kd.C_drewN ?_ _) | (with_reducible refine Kd.C_drew ?_) | exact HR116_3.out)) hb); have n13_ := Aside0.mk (Kd.C_below (by repeat (first | (with_reducible exact HR117_0.out) | (with_reducible refine Kd.C_alloc ?_ _) | (with_reducible refine Kd.C_drewN ?_ _) | (with_reducible refine Kd.C_drew ?_) | exact HR117_0.out)) hb); have n14_ := Aside0.mk (Kd.C_below (by repeat (first | (with_reducible exact HR117_3.out) | (with_reducible refine Kd.C_alloc ?_ _) | (with_reducible refine Kd.C_drewN ?_ _) | (with_reducible refine Kd.C_drew ?_) | exact HR117_3.out)) hb); have n15_ := Aside0.mk (Kd.C_below (by repeat (first | (with_reducible exact HR118_0.out) | (with_reducible refine Kd.C_alloc ?_ _) | (with_reducible refine Kd.C_drewN ?_ _) | (with_reducible refine Kd.C_drew ?_) | exact HR118_0.out)) hb); have n16_ := Aside0.mk (Kd.C_below (by repeat (first | (with_reducible exact HR118_3.out) | (with_reducible refine Kd.C_alloc ?_ _) | (with_reducible refine Kd.C_drewN ?_ _) | (with_reducible refine Kd.C_drew ?_) | exact HR118_3.out)) hb); have n17_ := Aside0.mk (below_step (by repeat (first | (with_reducible first | exact HB.out | apply below_alloc | apply pw_below_drewN | apply below_drew1) | exact HB.out)) hb); clear HO103; clear HO106; clear HO110; clear HO114; clear HL116_0; clear HL116_3; clear HL117_0; clear HL117_3; clear HL118_0; clear HL118_3; clear HO124; clear HR116_0; clear HR116_3; clear HR117_0; clear HR117_3; clear HR118_0; clear HR118_3; clear HB; have HO103 := n0_; have HO106 := n1_; have HO110 := n2_; have HO114 := n3_; have HL116_0 := n4_; have HL116_3 := n5_; have HL117_0 := n6_; have HL117_3 := n7_; have HL118_0 := n8_; have HL118_3 := n9_; have HO124 := n10_; have HR116_0 := n11_; have HR116_3 := n12_; have HR117_0 := n13_; have HR117_3 := n14_; have HR118_0 := n15_; have HR118_3 := n16_; have HB := n17_; clear n0_ n1_ n2_ n3_ n4_ n5_ n6_ n7_ n8_ n9_ n10_ n11_ n12_ n13_ n14_ n15_ n16_ n17_; (try clear hb); (try clear hb2); (try clear hk); (try clear hi)) | (go_at_call 15; (with_reducible refine (hunk_Groups.calls _ _ y101 t126 _ ?side1 ?side2 A18.out).mono ?_); (case side1 => repeat (first | exact (Kd.R_reads' HO103.out).2.2 | (with_reducible refine Kd.C_alloc ?_ _) | (with_reducible refine Kd.C_drewN ?_ _) | (with_reducible refine Kd.C_drew ?_))); (case side2 => exact (Kd.R_reads' HO103.out).2.1); rintro e w31 ⟨v127, rfl, ho0, hb⟩; have n0_ := Aside0.mk (Kd.R_below (by (with_reducible repeat (first | apply Kd.R_alloc | apply Kd.R_drewN | apply Kd.R_drew)); exact HO103.out) hb); have n1_ := Aside0.mk (Kd.N_elder' (by (with_reducible repeat (first | apply Kd.N_alloc | apply Kd.N_drewN | apply Kd.N_drew)); exact HO106.out) (Kd.R_base ho0) hb); have n2_ := Aside0.mk (Kd.N_elder' (by (with_reducible repeat (first | apply Kd.N_alloc | apply Kd.N_drewN | apply Kd.N_drew)); exact HO110.out) (Kd.R_base ho0) hb); have n3_ := Aside0.mk (Kd.N_elder' (by (with_reducible repeat (first | apply Kd.N_alloc | apply Kd.N_drewN | apply Kd.N_drew)); exact HO114.out) (Kd.R_base ho0) hb); have n4_ := Aside0.mk (Kd.V_elder' (by (with_reducible repeat (first | apply Kd.V_alloc | apply Kd.V_drewN | apply Kd.V_drew)); exact HL116_0.out) (Kd.R_base ho0) hb); have n5_ := Aside0.mk (Kd.V_elder' (by (with_reducible repeat (first | apply Kd.V_alloc | apply Kd.V_drewN | apply Kd.V_drew)); exact HL116_3.out) (Kd.R_base ho0) hb); have n6_ := Aside0.mk (Kd.V_elder' (by (with_reducible repeat (first | apply Kd.V_alloc | apply Kd.V_drewN | apply Kd.V_drew)); exact HL117_0.out) (Kd.R_base ho0) hb); have n7_ := Aside0.mk (Kd.V_elder' (by (with_reducible repeat (first | apply Kd.V_alloc | apply Kd.V_drewN | apply Kd.V_drew)); exact HL117_3.out) (Kd.R_base ho0) hb); have n8_ := Aside0.mk (Kd.V_elder' (by (with_reducible repeat (first | apply Kd.V_alloc | apply Kd.V_drewN | apply Kd.V_drew)); exact HL118_0.out) (Kd.R_base ho0) hb); have n9_ := Aside0.mk (Kd.V_elder' (by (with_reducible repeat (first | apply Kd.V_alloc | apply Kd.V_drewN | apply Kd.V_drew)); exact HL118_3.out) (Kd.R_base ho0) hb); have n10_ := Aside0.mk (Kd.V_elder' (by (with_reducible repeat (first | apply Kd.V_alloc | apply Kd.V_drewN | apply Kd.V_drew)); exact HO124.out) (Kd.R_base ho0) hb); have n11_ := Aside0.mk (Kd.R_lower ho0 (below_size (by repeat (first | (with_reducible first | exact HB.out | apply below_alloc | apply pw_below_drewN | apply below_drew1) | exact HB.out)))); have n12_ := Aside0.mk (Kd.C_below (by repeat (first | (with_reducible exact HR116_0.out) | (with_reducible refine Kd.C_alloc ?_ _) | (with_reducible refine Kd.C_drewN ?_ _) | (with_reducible refine Kd.C_drew ?_) | exact HR116_0.out)) hb); have n13_ := Aside0.mk (Kd.C_below (by repeat (first | (with_reducible exact HR116_3.out) | (with_reducible refine Kd.C_alloc ?_ _) | (with_reducible refine Kd.C_drewN ?_ _) | (with_reducible refine Kd.C_drew ?_) | exact HR116_3.out)) hb); have n14_ := Aside0.mk (Kd.C_below (by repeat (first | (with_reducible exact HR117_0.out) | (with_reducible refine Kd.C_alloc ?_ _) | (with_reducible refine Kd.C_drewN ?_ _) | (with_reducible refine Kd.C_drew ?_) | exact HR117_0.out)) hb); have n15_ := Aside0.mk (Kd.C_below (by repeat (first | (with_reducible exact HR117_3.out) | (with_reducible refine Kd.C_alloc ?_ _) | (with_reducible refine Kd.C_drewN ?_ _) | (with_reducible refine Kd.C_drew ?_) | exact HR117_3.out)) hb); have n16_ := Aside0.mk (Kd.C_below (by repeat (first | (with_reducible exact HR118_0.out) | (with_reducible refine Kd.C_alloc ?_ _) | (with_reducible refine Kd.C_drewN ?_ _) | (with_reducible refine Kd.C_drew ?_) | exact HR118_0.out)) hb); have n17_ := Aside0.mk (Kd.C_below (by repeat (first | (with_reducible exact HR118_3.out) | (with_reducible refine Kd.C_alloc ?_ _) | (with_reducible refine Kd.C_drewN ?_ _) | (with_reducible refine Kd.C_drew ?_) | exact HR118_3.out)) hb); have n18_ := Aside0.mk (below_step (by repeat (first | (with_reducible first | exact HB.out | apply below_alloc | apply pw_below_drewN | apply below_drew1) | exact HB.out)) hb); clear HO103; clear HO106; clear HO110; clear HO114; clear HL116_0; clear HL116_3; clear HL117_0; clear HL117_3; clear HL118_0; clear HL118_3; clear HO124; clear HR116_0; clear HR116_3; clear HR117_0; clear HR117_3; clear HR118_0; clear HR118_3; clear HB; have HO103 := n0_; have HO106 := n1_; have HO110 := n2_; have HO114 := n3_; have HL116_0 := n4_; have HL116_3 := n5_; have HL117_0 := n6_; have HL117_3 := n7_; have HL118_0 := n8_; have HL118_3 := n9_; have HO124 := n10_; have HO128 := n11_; have HR116_0 := n12_; have HR116_3 := n13_; have HR117_0 := n14_; have HR117_3 := n15_; have HR118_0 := n16_; have HR118_3 := n17_; have HB := n18_; clear n0_ n1_ n2_ n3_ n4_ n5_ n6_ n7_ n8_ n9_ n10_ n11_ n12_ n13_ n14_ n15_ n16_ n17_ n18_; (try clear hb); (try clear hb2); (try clear hk); (try clear hi); (try clear ho0); obtain ⟨Ao32, co32, eo32⟩ := Kd.R_slice HO128.out; subst eo32) | (go_at_call 19; (with_reducible refine (hunk_May.calls k _ _ y101 t129 _ ?side1 ?side2 A20.out).mono ?_); (case side1 => repeat (first | exact (Kd.R_reads' HO103.out).2.2 | (with_reducible refine Kd.C_alloc ?_ _) | (with_reducible refine Kd.C_drewN ?_ _) | (with_reducible refine Kd.C_drew ?_))); (case side2 => exact (Kd.R_reads' HO103.out).2.1); rintro e w33 ⟨rfl, hb⟩; have n0_ := Aside0.mk (Kd.R_below (by (with_reducible repeat (first | apply Kd.R_alloc | apply Kd.R_drewN | apply Kd.R_drew)); exact HO103.out) hb); have n1_ := Aside0.mk (Kd.N_below (by (with_reducible repeat (first | apply Kd.N_alloc | apply Kd.N_drewN | apply Kd.N_drew)); exact HO106.out) hb); have n2_ := Aside0.mk (Kd.N_below (by (with_reducible repeat (first | apply Kd.N_alloc | apply Kd.N_drewN | apply Kd.N_drew)); exact HO110.out) hb); have n3_ := Aside0.mk (Kd.N_below (by (with_reducible repeat (first | apply Kd.N_alloc | apply Kd.N_drewN | apply Kd.N_drew)); exact HO114.out) hb); have n4_ := Aside0.mk (Kd.V_below (by (with_reducible repeat (first | apply Kd.V_alloc | apply Kd.V_drewN | apply Kd.V_drew)); exact HL116_0.out) hb); have n5_ := Aside0.mk (Kd.V_below (by (with_reducible repeat (first | apply Kd.V_alloc | apply Kd.V_drewN | apply Kd.V_drew)); exact HL116_3.out) hb); have n6_ := Aside0.mk (Kd.V_below (by (with_reducible repeat (first | apply Kd.V_alloc | apply Kd.V_drewN | apply Kd.V_drew)); exact HL117_0.out) hb); have n7_ := Aside0.mk (Kd.V_below (by (with_reducible repeat (first | apply Kd.V_alloc | apply Kd.V_drewN | apply Kd.V_drew)); exact HL117_3.out) hb); have n8_ := Aside0.mk (Kd.V_below (by (with_reducible repeat (first | apply Kd.V_alloc | apply Kd.V_drewN | apply Kd.V_drew)); exact HL118_0.out) hb); have n9_ := Aside0.mk (Kd.V_below (by (with_reducible repeat (first | apply Kd.V_alloc | apply Kd.V_drewN | apply Kd.V_drew)); exact HL118_3.out) hb); have n10_ := Aside0.mk (Kd.V_below (by (with_reducible repeat (first | apply Kd.V_alloc | apply Kd.V_drewN | apply Kd.V_drew)); exact HO124.out) hb); have n11_ := Aside0.mk (Kd.R_below (by (with_reducible repeat (first | apply Kd.R_alloc | apply Kd.R_drewN | apply Kd.R_drew)); exact HO128.out) hb); have n12_ := Aside0.mk (Kd.C_below (by repeat (first | (with_reducible exact HR116_0.out) | (with_reducible refine Kd.C_alloc ?_ _) | (with_reducible refine Kd.C_drewN ?_ _) | (with_reducible refine Kd.C_drew ?_) | exact HR116_0.out)) hb); have n13_ := Aside0.mk (Kd.C_below (by repeat (first | (with_reducible exact HR116_3.out) | (with_reducible refine Kd.C_alloc ?_ _) | (with_reducible refine Kd.C_drewN ?_ _) | (with_reducible refine Kd.C_drew ?_) | exact HR116_3.out)) hb); have n14_ := Aside0.mk (Kd.C_below (by repeat (first | (with_reducible exact HR117_0.out) | (with_reducible refine Kd.C_alloc ?_ _) | (with_reducible refine Kd.C_drewN ?_ _) | (with_reducible refine Kd.C_drew ?_) | exact HR117_0.out)) hb); have n15_ := Aside0.mk (Kd.C_below (by repeat (first | (with_reducible exact HR117_3.out) | (with_reducible refine Kd.C_alloc ?_ _) | (with_reducible refine Kd.C_drewN ?_ _) | (with_reducible refine Kd.C_drew ?_) | exact HR117_3.out)) hb); have n16_ := Aside0.mk (Kd.C_below (by repeat (first | (with_reducible exact HR118_0.out) | (with_reducible refine Kd.C_alloc ?_ _) | (with_reducible refine Kd.C_drewN ?_ _) | (with_reducible refine Kd.C_drew ?_) | exact HR118_0.out)) hb); have n17_ := Aside0.mk (Kd.C_below (by repeat (first | (with_reducible exact HR118_3.out) | (with_reducible refine Kd.C_alloc ?_ _) | (with_reducible refine Kd.C_drewN ?_ _) | (with_reducible refine Kd.C_drew ?_) | exact HR118_3.out)) hb); have n18_ := Aside0.mk (below_step (by repeat (first | (with_reducible first | exact HB.out | apply below_alloc | apply pw_below_drewN | apply below_drew1) | exact HB.out)) hb); clear HO103; clear HO106; clear HO110; clear HO114; clear HL116_0; clear HL116_3; clear HL117_0; clear HL117_3; clear HL118_0; clear HL118_3; clear HO124; clear HO128; clear HR116_0; clear HR116_3; clear HR117_0; clear HR117_3; clear HR118_0; clear HR118_3; clear HB; have HO103 := n0_; have HO106 := n1_; have HO110 := n2_; have HO114 := n3_; have HL116_0 := n4_; have HL116_3 := n5_; have HL117_0 := n6_; have HL117_3 := n7_; have HL118_0 := n8_; have HL118_3 := n9_; have HO124 := n10_; have HO128 := n11_; have HR116_0 := n12_; have HR116_3 := n13_; have HR117_0 := n14_; have HR117_3 := n15_; have HR118_0 := n16_; have HR118_3 := n17_; have HB := n18_; clear n0_ n1_ n2_ n3_ n4_ n5_ n6_ n7_ n8_ n9_ n10_ n11_ n12_ n13_ n14_ n15_ n16_ n17_ n18_; (try clear hb); (try clear hb2); (try clear hk); (try clear hi)))
                              go_ret
                              exact ⟨by first | rfl | (simp [errW_none, errW_some] <;> rfl) | (simp [errW_none, errW_some] <;> (generalize ByteArray.toList _ = l_ <;> cases l_ <;> rfl)) | (simp [*, errW_none, errW_some] <;> rfl), by repeat (first | (with_reducible first | exact HB.out | apply below_alloc | apply pw_below_drewN | apply below_drew1) | exact HB.out)⟩
                            · rw [if_neg c19] at H
                              have c19b0 : ((t126.length : Int) == 1) = false := beq_eq_false_iff_ne.mpr c19
                              have c19b1 : ((t126.length : Int) != 1) = true := bne_iff_ne.mpr c19
                              exact absurd ((Option.some.inj H).trans HRT.out) (by decide)
                          · replace c17 := Bool.eq_false_iff.mpr c17
                            subst c17
                            have H1 : (some false) = some r := by rw [if_neg (show ¬ (false = true) by decide)] at H; exact H
                            clear H
                            have H := H1
                            clear H1
                            exact absurd ((Option.some.inj H).trans HRT.out) (by decide)
                        · rw [if_neg c15] at H
                          exact absurd H (by simp)
                      · rw [if_neg c14] at H
                        exact absurd H (by simp)
                    · rw [if_neg c13] at H
                      have c13b0 : ((t108.length : Int) == 0) = false := beq_eq_false_iff_ne.mpr c13
                      have c13b1 : ((t108.length : Int) != 0) = true := bne_iff_ne.mpr c13
                      have c13b2 : ¬ (t108 = []) := fun h_ => c13 (by rw [h_]; rfl)
                      exact absurd ((Option.some.inj H).trans HRT.out) (by decide)
                  · rw [if_neg c12] at H
                    have c12b0 : (((rd_T36 ((rd_T38 t104 0).f0) 0).f1) == 2) = false := beq_eq_false_iff_ne.mpr c12
                    have c12b1 : (((rd_T36 ((rd_T38 t104 0).f0) 0).f1) != 2) = true := bne_iff_ne.mpr c12
                    exact absurd ((Option.some.inj H).trans HRT.out) (by decide)
                · rw [if_neg c11] at H
                  exact absurd H (by simp)
              · rw [if_neg c10] at H
                have c10b0 : (((rd_T38 t104 0).f1.f1) == 3) = false := beq_eq_false_iff_ne.mpr c10
                have c10b1 : (((rd_T38 t104 0).f1.f1) != 3) = true := bne_iff_ne.mpr c10
                exact absurd ((Option.some.inj H).trans HRT.out) (by decide)
            · rw [if_neg c9] at H
              have c9b0 : ((((rd_T38 t104 0).f2).length : Int) == 3) = false := beq_eq_false_iff_ne.mpr c9
              have c9b1 : ((((rd_T38 t104 0).f2).length : Int) != 3) = true := bne_iff_ne.mpr c9
              exact absurd ((Option.some.inj H).trans HRT.out) (by decide)
          · rw [if_neg c8] at H
            exact absurd H (by simp)
        · rw [if_neg c7] at H
          have c7b0 : ((t104.length : Int) == 1) = false := beq_eq_false_iff_ne.mpr c7
          have c7b1 : ((t104.length : Int) != 1) = true := bne_iff_ne.mpr c7
          exact absurd ((Option.some.inj H).trans HRT.out) (by decide)
      · rw [if_neg c6] at H
        have c6b0 : (t115 == 1) = false := beq_eq_false_iff_ne.mpr c6
        have c6b1 : (t115 != 1) = true := bne_iff_ne.mpr c6
        exact absurd ((Option.some.inj H).trans HRT.out) (by decide)
    · rw [if_neg c5] at H
      have c5b0 : (t111 == 0) = false := beq_eq_false_iff_ne.mpr c5
      have c5b1 : (t111 != 0) = true := bne_iff_ne.mpr c5
      exact absurd ((Option.some.inj H).trans HRT.out) (by decide)
  · rw [if_neg c4] at H
    have c4b0 : (t107 == 0) = false := beq_eq_false_iff_ne.mpr c4
    have c4b1 : (t107 != 0) = true := bne_iff_ne.mpr c4
    exact absurd ((Option.some.inj H).trans HRT.out) (by decide)
/-- The rows that awake looks at are as it says. -/
theorem awake_true : sennitlaw21_awake.f 40 = some true := by kernel_rfl
theorem awake_det (k : Nat) (r : Bool) (h : sennitlaw21_awake.f k = some r) : r = true := by
  have up : ∀ d k r, sennitlaw21_awake.f k = some r → sennitlaw21_awake.f (k + d) = some r := by
    intro d
    induction d with
    | zero => exact fun _ _ h => h
    | succ d ih => exact fun k r h => sennitlaw21_awake.mono _ _ (ih k r h)
  have a := up 40 k r h
  have b := up k 40 true awake_true
  rw [Nat.add_comm] at b
  exact Option.some.inj (a.symm.trans b)
theorem sennitlaw21_awake.calls (k : Nat) (r : Bool) (w : World) (hmx : MaxOk w) (h : sennitlaw21_awake.f k = some r) :
    Calls Tryd.prog 9 #[] w fun e w' => e = .returned (.bool r) ∧ Below w.heap.size w w' :=
  sennitlaw21_awake.calls_t k r w hmx (awake_det k r h) h

/-! ### sennitref01_feeds: function 74 -/
def sennitref01_feeds.l0 : Nat → ByteArray → Int → Int → Option (Int)
  | 0, _, _, _ => none
  | k + 1, x0, x3, x4 => if x4 < (x0.size : Int) then (if 0 ≤ x4 then (if (bt x0 x4) = 10 then (sennitref01_feeds.l0 k x0 (wrap64 (x3 + 1)) (wrap64 (x4 + 1))) else (sennitref01_feeds.l0 k x0 x3 (wrap64 (x4 + 1)))) else (none)) else (some x3)
def sennitref01_feeds.f (k : Nat) (a0 : ByteArray) : Option (Int) := sennitref01_feeds.l0 k a0 0 0
theorem sennitref01_feeds.mono_l : ∀ k, (∀ y0 y1 y2, LeO (sennitref01_feeds.l0 k y0 y1 y2) (sennitref01_feeds.l0 (k + 1) y0 y1 y2))
  | 0 => fun _ _ _ r h => by simp [sennitref01_feeds.l0] at h
  | k + 1 => by
    have ih0 := sennitref01_feeds.mono_l k
    · intro y0 y1 y2
      unfold sennitref01_feeds.l0
      repeat' first
      | (with_reducible exact ih0 _ _ _)
      | (with_reducible exact LeO.refl _)
      | (with_reducible exact LeO.none _)
      | (with_reducible refine LeO.ite ?_ ?_)
      | (with_reducible refine LeO.bind ?_ (fun _ => ?_))
      | exact ih0 _ _ _
      | exact LeO.none _
      | refine LeO.ite ?_ ?_
      | refine LeO.bind ?_ (fun _ => ?_)
theorem sennitref01_feeds.mono : ∀ a0 k, LeO (sennitref01_feeds.f k a0) (sennitref01_feeds.f (k + 1) a0) := by
  intro a0 k
  have ih0 := sennitref01_feeds.mono_l k
  unfold sennitref01_feeds.f
  repeat' first
      | (with_reducible exact ih0 _ _ _)
      | (with_reducible exact LeO.refl _)
      | (with_reducible exact LeO.none _)
      | (with_reducible refine LeO.ite ?_ ?_)
      | (with_reducible refine LeO.bind ?_ (fun _ => ?_))
      | exact ih0 _ _ _
      | exact LeO.none _
      | refine LeO.ite ?_ ?_
      | refine LeO.bind ?_ (fun _ => ?_)
set_option maxHeartbeats 8000000 in
set_option maxRecDepth 100000 in
theorem sennitref01_feeds.calls (k : Nat) (a0 : ByteArray) (r : Int) (w : World) (h : sennitref01_feeds.f k a0 = some r) :
    Calls Tryd.prog 74 #[.string a0] w fun e w' => e = .returned (.int .i64 r) ∧ Drawn0 w w' := by
  have H : (sennitref01_feeds.l0 k a0 0 0) = some r := h
  clear h
  have H' := Aside0.mk H
  clear H
  go_enter Tryd.func74, Tryd.ntmps74
  go_wp2
  go_loopg [3, 4] k (fun kq v3 v4 w' => ∃ (x3_1 : Int) (x4_1 : Int), v3 = .int .i64 x3_1 ∧ v4 = .int .i64 x4_1 ∧ Aside0 (sennitref01_feeds.l0 kq a0 x3_1 x4_1 = some r) ∧ Aside0 (kq ≤ k) ∧ Drawn0 w w')
  case atStart => exact ⟨(0), (0), (by first | rfl | (simp; done) | (simp [*]; done)), (by first | rfl | (simp; done) | (simp [*]; done)), H', ⟨Nat.le_refl _⟩, by repeat (first | exact Drawn0.refl _ | apply Drawn0.step)⟩
  case round =>
    clear H'
    obtain ⟨x3_1, x4_1, rfl, rfl, HA, HK1, ⟨m1, rfl⟩⟩ := hrel
    cases gk with
    | zero => exact absurd HA.out (by simp [sennitref01_feeds.l0])
    | succ k1 =>
      have H := HA.out
      clear HA
      simp only [sennitref01_feeds.l0] at H
      by_cases c2 : x4_1 < (a0.size : Int)
      · rw [if_pos c2] at H
        have c2b0 : decide (x4_1 < (a0.size : Int)) = true := decide_eq_true c2
        clear c2
        by_cases c3 : 0 ≤ x4_1
        · rw [if_pos c3] at H
          have c3b0 : decide (0 ≤ x4_1) = true := decide_eq_true c3
          clear c3
          by_cases c5 : (bt a0 x4_1) = 10
          · rw [if_pos c5] at H
            have c5b0 : ((bt a0 x4_1) == 10) = true := beq_iff_eq.mpr c5
            have c5b1 : ((bt a0 x4_1) != 10) = false := bne_eq_false_iff_eq.mpr c5
            clear c5
            have H' := Aside0.mk H
            clear H
            have p4 : 0 ≤ (x4_1 : Int) := of_decide_eq_true (by first | (with_reducible assumption) | assumption)
            have q4 : x4_1 < (a0.size : Int) := of_decide_eq_true (by first | (with_reducible assumption) | assumption)
            have hx4 := bt_at a0 x4_1
            replace p4 := eq_true p4
            replace q4 := eq_true q4
            go_wp2
            go_roundg k1
            case measure => have := HK1.out; omega
            case rel => exact ⟨(wrap64 (x3_1 + 1)), (wrap64 (x4_1 + 1)), (by first | rfl | (simp; done) | (simp [*]; done)), (by first | rfl | (simp; done) | (simp [*]; done)), H', ⟨by have := HK1.out; omega⟩, by repeat (first | exact Drawn0.refl _ | apply Drawn0.step)⟩
          · rw [if_neg c5] at H
            have c5b0 : ((bt a0 x4_1) == 10) = false := beq_eq_false_iff_ne.mpr c5
            have c5b1 : ((bt a0 x4_1) != 10) = true := bne_iff_ne.mpr c5
            have H' := Aside0.mk H
            clear H
            have p4 : 0 ≤ (x4_1 : Int) := of_decide_eq_true (by first | (with_reducible assumption) | assumption)
            have q4 : x4_1 < (a0.size : Int) := of_decide_eq_true (by first | (with_reducible assumption) | assumption)
            have hx4 := bt_at a0 x4_1
            replace p4 := eq_true p4
            replace q4 := eq_true q4
            go_wp2
            go_roundg k1
            case measure => have := HK1.out; omega
            case rel => exact ⟨(x3_1), (wrap64 (x4_1 + 1)), (by first | rfl | (simp; done) | (simp [*]; done)), (by first | rfl | (simp; done) | (simp [*]; done)), H', ⟨by have := HK1.out; omega⟩, by repeat (first | exact Drawn0.refl _ | apply Drawn0.step)⟩
        · rw [if_neg c3] at H
          exact absurd H (by simp)
      · rw [if_neg c2] at H
        have c2b0 : decide (x4_1 < (a0.size : Int)) = false := decide_eq_false c2
        clear c2
        obtain rfl := Option.some.inj H
        go_wp2
        go_ret
        exact ⟨by first | rfl | (simp; done) | (simp [*]; done), by repeat (first | exact Drawn0.refl _ | apply Drawn0.step)⟩

/-! ### sennitref01_Line: function 75 -/
def sennitref01_Line.f (k : Nat) (a0 : ByteArray) : Option (Bool) := (sennitref01_feeds.f k a0).bind fun t130 => (if t130 = 1 then (if 0 ≤ (wrap64 ((a0.size : Int) - 1)) then (if (wrap64 ((a0.size : Int) - 1)) < (a0.size : Int) then (some ((bt a0 (wrap64 ((a0.size : Int) - 1))) == 10)) else (none)) else (none)) else (some false))
theorem sennitref01_Line.mono : ∀ a0 k, LeO (sennitref01_Line.f k a0) (sennitref01_Line.f (k + 1) a0) := by
  intro a0 k
  unfold sennitref01_Line.f
  repeat' first
      | (with_reducible exact sennitref01_feeds.mono _ _)
      | (with_reducible exact LeO.refl _)
      | (with_reducible exact LeO.none _)
      | (with_reducible refine LeO.ite ?_ ?_)
      | (with_reducible refine LeO.bind ?_ (fun _ => ?_))
      | exact sennitref01_feeds.mono _ _
      | exact LeO.none _
      | refine LeO.ite ?_ ?_
      | refine LeO.bind ?_ (fun _ => ?_)
set_option maxHeartbeats 8000000 in
set_option maxRecDepth 100000 in
theorem sennitref01_Line.calls (k : Nat) (a0 : ByteArray) (r : Bool) (w : World) (h : sennitref01_Line.f k a0 = some r) :
    Calls Tryd.prog 75 #[.string a0] w fun e w' => e = .returned (.bool r) ∧ Drawn0 w w' := by
  have H : ((sennitref01_feeds.f k a0).bind fun t130 => (if t130 = 1 then (if 0 ≤ (wrap64 ((a0.size : Int) - 1)) then (if (wrap64 ((a0.size : Int) - 1)) < (a0.size : Int) then (some ((bt a0 (wrap64 ((a0.size : Int) - 1))) == 10)) else (none)) else (none)) else (some false))) = some r := h
  clear h
  replace H := Option.bind_eq_some_iff.mp H
  obtain ⟨t130, A20, H⟩ := H
  replace H : (if t130 = 1 then (if 0 ≤ (wrap64 ((a0.size : Int) - 1)) then (if (wrap64 ((a0.size : Int) - 1)) < (a0.size : Int) then (some ((bt a0 (wrap64 ((a0.size : Int) - 1))) == 10)) else (none)) else (none)) else (some false)) = some r := H
  have A2 := Aside0.mk A20
  clear A20
  by_cases c3 : t130 = 1
  · rw [if_pos c3] at H
    have c3b0 : (t130 == 1) = true := beq_iff_eq.mpr c3
    have c3b1 : (t130 != 1) = false := bne_eq_false_iff_eq.mpr c3
    clear c3
    obtain ⟨ji4, hji4⟩ : ∃ j_ : Int, (wrap64 ((a0.size : Int) - 1)) = j_ := ⟨_, rfl⟩
    replace H : (if 0 ≤ (ji4) then (if (ji4) < (a0.size : Int) then (some ((bt a0 (ji4)) == 10)) else (none)) else (none)) = some r := by first | (rw [hji4] at H; exact H) | (simp only [hji4] at H ⊢; exact H)
    (try rw [hji4] at A2)
    have hji4w : (IntKind.i64.wrap ((a0.size : Int) - 1)) = ji4 := (i64_w _).trans hji4
    by_cases c5 : 0 ≤ (ji4)
    · rw [if_pos c5] at H
      have c5b0 : decide (0 ≤ (ji4)) = true := decide_eq_true c5
      clear c5
      by_cases c6 : (ji4) < (a0.size : Int)
      · rw [if_pos c6] at H
        have c6b0 : decide ((ji4) < (a0.size : Int)) = true := decide_eq_true c6
        clear c6
        obtain rfl := Option.some.inj H
        go_enter Tryd.func75, Tryd.ntmps75
        go_wp2_with (first | ((with_reducible refine gate_callee (f := 74) rfl ?_); refine goesL_ (some 4) rfl rfl Tryd.func74 (by kernel_rfl) rfl #[.string a0] rfl (by (try simp only [List.map_toArray, List.map_cons, List.map_nil]); first | done | rfl | (simp only [List.length_drop, List.length_take]; rfl)) ?_; (with_reducible refine (sennitref01_feeds.calls k a0 t130 _ A2.out).mono ?_); rintro e w' ⟨rfl, ⟨nd, rfl⟩⟩; refine ⟨_, rfl, ?_⟩; have p7 : 0 ≤ ((ji4) : Int) := of_decide_eq_true (by first | (with_reducible assumption) | assumption); have q7 : (ji4) < (a0.size : Int) := of_decide_eq_true (by first | (with_reducible assumption) | assumption); have hx7 := bt_at a0 (ji4); replace p7 := eq_true p7; replace q7 := eq_true q7))
        go_ret
        exact ⟨by first | rfl | (simp; done) | (simp only [← hji4] <;> (first | rfl | simp)) | (simp [*]; done), by repeat (first | exact Drawn0.refl _ | apply Drawn0.step)⟩
      · rw [if_neg c6] at H
        exact absurd H (by simp)
    · rw [if_neg c5] at H
      exact absurd H (by simp)
  · rw [if_neg c3] at H
    have c3b0 : (t130 == 1) = false := beq_eq_false_iff_ne.mpr c3
    have c3b1 : (t130 != 1) = true := bne_iff_ne.mpr c3
    obtain rfl := Option.some.inj H
    go_enter Tryd.func75, Tryd.ntmps75
    go_wp2_with (first | ((with_reducible refine gate_callee (f := 74) rfl ?_); refine goesL_ (some 4) rfl rfl Tryd.func74 (by kernel_rfl) rfl #[.string a0] rfl (by (try simp only [List.map_toArray, List.map_cons, List.map_nil]); first | done | rfl | (simp only [List.length_drop, List.length_take]; rfl)) ?_; (with_reducible refine (sennitref01_feeds.calls k a0 t130 _ A2.out).mono ?_); rintro e w' ⟨rfl, ⟨nd, rfl⟩⟩; refine ⟨_, rfl, ?_⟩))
    go_ret
    exact ⟨by first | rfl | (simp; done) | (simp [*]; done), by repeat (first | exact Drawn0.refl _ | apply Drawn0.step)⟩

/-! ### sennitref01_May: function 55 -/
def sennitref01_May.l0 : Nat → List ByteArray → Int → Option (Bool)
  | 0, _, _ => none
  | k + 1, x0, x3 => if x3 < (x0.length : Int) then (if x3 = (wrap64 ((x0.length : Int) - 1)) then (if 0 ≤ x3 then (if ((rdOf ByteArray.empty x0 x3).size : Int) > 0 then ((sennitref01_feeds.f k (rdOf ByteArray.empty x0 x3)).bind fun t133 => (if t133 = 0 then (sennitref01_May.l0 k x0 (wrap64 (x3 + 1))) else ((sennitref01_Line.f k (rdOf ByteArray.empty x0 x3)).bind fun t135 => (if t135 = true then (sennitref01_May.l0 k x0 (wrap64 (x3 + 1))) else (some false))))) else ((sennitref01_Line.f k (rdOf ByteArray.empty x0 x3)).bind fun t137 => (if t137 = true then (sennitref01_May.l0 k x0 (wrap64 (x3 + 1))) else (some false)))) else (none)) else (if 0 ≤ x3 then ((sennitref01_Line.f k (rdOf ByteArray.empty x0 x3)).bind fun t139 => (if t139 = true then (sennitref01_May.l0 k x0 (wrap64 (x3 + 1))) else (some false))) else (none))) else (some true)
def sennitref01_May.f (k : Nat) (l0 : List ByteArray) : Option (Bool) := sennitref01_May.l0 k l0 0
theorem sennitref01_May.mono_l : ∀ k, (∀ y0 y1, LeO (sennitref01_May.l0 k y0 y1) (sennitref01_May.l0 (k + 1) y0 y1))
  | 0 => fun _ _ r h => by simp [sennitref01_May.l0] at h
  | k + 1 => by
    have ih0 := sennitref01_May.mono_l k
    · intro y0 y1
      unfold sennitref01_May.l0
      repeat' first
      | (with_reducible exact ih0 _ _)
      | (with_reducible exact sennitref01_Line.mono _ _)
      | (with_reducible exact sennitref01_feeds.mono _ _)
      | (with_reducible exact LeO.refl _)
      | (with_reducible exact LeO.none _)
      | (with_reducible refine LeO.ite ?_ ?_)
      | (with_reducible refine LeO.bind ?_ (fun _ => ?_))
      | exact ih0 _ _
      | exact sennitref01_Line.mono _ _
      | exact sennitref01_feeds.mono _ _
      | exact LeO.none _
      | refine LeO.ite ?_ ?_
      | refine LeO.bind ?_ (fun _ => ?_)
theorem sennitref01_May.mono : ∀ a0 k, LeO (sennitref01_May.f k a0) (sennitref01_May.f (k + 1) a0) := by
  intro a0 k
  have ih0 := sennitref01_May.mono_l k
  unfold sennitref01_May.f
  repeat' first
      | (with_reducible exact ih0 _ _)
      | (with_reducible exact sennitref01_Line.mono _ _)
      | (with_reducible exact sennitref01_feeds.mono _ _)
      | (with_reducible exact LeO.refl _)
      | (with_reducible exact LeO.none _)
      | (with_reducible refine LeO.ite ?_ ?_)
      | (with_reducible refine LeO.bind ?_ (fun _ => ?_))
      | exact ih0 _ _
      | exact sennitref01_Line.mono _ _
      | exact sennitref01_feeds.mono _ _
      | exact LeO.none _
      | refine LeO.ite ?_ ?_
      | refine LeO.bind ?_ (fun _ => ?_)
set_option maxHeartbeats 8000000 in
set_option maxRecDepth 100000 in
theorem sennitref01_May.calls (k : Nat) (A0 : Option Addr) (c0 : Nat) (l0 : List ByteArray) (r : Bool) (w : World) (hr0 : Kd.C Kd.string w A0 l0.length l0) (hc0 : l0.length ≤ c0) (h : sennitref01_May.f k l0 = some r) :
    Calls Tryd.prog 55 #[.slice A0 l0.length c0] w fun e w' => e = .returned (.bool r) ∧ Drawn0 w w' := by
  have HR0 := Aside0.mk hr0
  have HC0 := Aside0.mk hc0
  clear hr0 hc0
  have H : (sennitref01_May.l0 k l0 0) = some r := h
  clear h
  have H' := Aside0.mk H
  clear H
  go_enter Tryd.func55, Tryd.ntmps55
  go_wp2
  go_loopg [3] k (fun kq v3 w' => ∃ (x3_1 : Int), v3 = .int .i64 x3_1 ∧ Aside0 (sennitref01_May.l0 kq l0 x3_1 = some r) ∧ Aside0 (kq ≤ k) ∧ Drawn0 w w')
  case atStart => exact ⟨(0), (by first | rfl | (simp; done) | (simp [*]; done)), H', ⟨Nat.le_refl _⟩, by repeat (first | exact Drawn0.refl _ | apply Drawn0.step)⟩
  case round =>
    clear H'
    obtain ⟨x3_1, rfl, HA, HK1, ⟨m1, rfl⟩⟩ := hrel
    cases gk with
    | zero => exact absurd HA.out (by simp [sennitref01_May.l0])
    | succ k1 =>
      have H := HA.out
      clear HA
      simp only [sennitref01_May.l0] at H
      by_cases c2 : x3_1 < (l0.length : Int)
      · rw [if_pos c2] at H
        have c2b0 : decide (x3_1 < (l0.length : Int)) = true := decide_eq_true c2
        clear c2
        by_cases c3 : x3_1 = (wrap64 ((l0.length : Int) - 1))
        · rw [if_pos c3] at H
          have c3b0 : (x3_1 == (wrap64 ((l0.length : Int) - 1))) = true := beq_iff_eq.mpr c3
          have c3b1 : (x3_1 != (wrap64 ((l0.length : Int) - 1))) = false := bne_eq_false_iff_eq.mpr c3
          clear c3
          by_cases c4 : 0 ≤ x3_1
          · rw [if_pos c4] at H
            have c4b0 : decide (0 ≤ x3_1) = true := decide_eq_true c4
            clear c4
            by_cases c5 : ((rdOf ByteArray.empty l0 x3_1).size : Int) > 0
            · rw [if_pos c5] at H
              have c5b0 : decide (0 < ((rdOf ByteArray.empty l0 x3_1).size : Int)) = true := decide_eq_true c5
              have c5b1 : decide (0 < (rdOf ByteArray.empty l0 x3_1).size) = true := decide_eq_true (by omega)
              clear c5
              replace H := Option.bind_eq_some_iff.mp H
              obtain ⟨t133, A60, H⟩ := H
              replace H : (if t133 = 0 then (sennitref01_May.l0 k1 l0 (wrap64 (x3_1 + 1))) else ((sennitref01_Line.f k1 (rdOf ByteArray.empty l0 x3_1)).bind fun t135 => (if t135 = true then (sennitref01_May.l0 k1 l0 (wrap64 (x3_1 + 1))) else (some false)))) = some r := H
              have A6 := Aside0.mk A60
              clear A60
              by_cases c7 : t133 = 0
              · rw [if_pos c7] at H
                have c7b0 : (t133 == 0) = true := beq_iff_eq.mpr c7
                have c7b1 : (t133 != 0) = false := bne_eq_false_iff_eq.mpr c7
                clear c7
                have H' := Aside0.mk H
                clear H
                have p131 : 0 ≤ (x3_1 : Int) := of_decide_eq_true (by first | (with_reducible assumption) | assumption)
                have q131 : x3_1 < (l0.length : Int) := of_decide_eq_true (by first | (with_reducible assumption) | assumption)
                obtain ⟨ad131, e131, hx131_0⟩ := Kd.at_string HR0.out x3_1 p131 q131
                cases e131
                replace p131 := eq_true p131
                replace q131 := eq_true q131
                have p132 : 0 ≤ (x3_1 : Int) := of_decide_eq_true (by first | (with_reducible assumption) | assumption)
                have q132 : x3_1 < (l0.length : Int) := of_decide_eq_true (by first | (with_reducible assumption) | assumption)
                obtain ⟨ad132, e132, hx132_0⟩ := Kd.at_string HR0.out x3_1 p132 q132
                obtain rfl : ad131 = ad132 := (by injection e132)
                replace p132 := eq_true p132
                replace q132 := eq_true q132
                go_wp2_with (first | (go_at_call 74; (with_reducible refine (sennitref01_feeds.calls k1 (rdOf ByteArray.empty l0 x3_1) t133 _ A6.out).mono ?_); rintro e w' ⟨rfl, ⟨nd, rfl⟩⟩))
                go_roundg k1
                case measure => have := HK1.out; omega
                case rel => exact ⟨(wrap64 (x3_1 + 1)), (by first | rfl | (simp; done) | (simp [*]; done)), H', ⟨by have := HK1.out; omega⟩, by repeat (first | exact Drawn0.refl _ | apply Drawn0.step)⟩
              · rw [if_neg c7] at H
                have c7b0 : (t133 == 0) = false := beq_eq_false_iff_ne.mpr c7
                have c7b1 : (t133 != 0) = true := bne_iff_ne.mpr c7
                replace H := Option.bind_eq_some_iff.mp H
                obtain ⟨t135, A80, H⟩ := H
                replace H : (if t135 = true then (sennitref01_May.l0 k1 l0 (wrap64 (x3_1 + 1))) else (some false)) = some r := H
                have A8 := Aside0.mk A80
                clear A80
                by_cases c9 : t135 = true
                · subst c9
                  have H1 : (sennitref01_May.l0 k1 l0 (wrap64 (x3_1 + 1))) = some r := by rw [if_pos rfl] at H; exact H
                  clear H
                  have H := H1
                  clear H1
                  have H' := Aside0.mk H
                  clear H
                  have p131 : 0 ≤ (x3_1 : Int) := of_decide_eq_true (by first | (with_reducible assumption) | assumption)
                  have q131 : x3_1 < (l0.length : Int) := of_decide_eq_true (by first | (with_reducible assumption) | assumption)
                  obtain ⟨ad131, e131, hx131_0⟩ := Kd.at_string HR0.out x3_1 p131 q131
                  cases e131
                  replace p131 := eq_true p131
                  replace q131 := eq_true q131
                  have p132 : 0 ≤ (x3_1 : Int) := of_decide_eq_true (by first | (with_reducible assumption) | assumption)
                  have q132 : x3_1 < (l0.length : Int) := of_decide_eq_true (by first | (with_reducible assumption) | assumption)
                  obtain ⟨ad132, e132, hx132_0⟩ := Kd.at_string HR0.out x3_1 p132 q132
                  obtain rfl : ad131 = ad132 := (by injection e132)
                  replace p132 := eq_true p132
                  replace q132 := eq_true q132
                  go_wp2_with (first | (go_at_call 74; (with_reducible refine (sennitref01_feeds.calls k1 (rdOf ByteArray.empty l0 x3_1) t133 _ A6.out).mono ?_); rintro e w' ⟨rfl, ⟨nd, rfl⟩⟩; have p134 : 0 ≤ (x3_1 : Int) := of_decide_eq_true (by first | (with_reducible assumption) | assumption); have q134 : x3_1 < (l0.length : Int) := of_decide_eq_true (by first | (with_reducible assumption) | assumption); obtain ⟨ad134, e134, hx134_0⟩ := Kd.at_string HR0.out x3_1 p134 q134; obtain rfl : ad131 = ad134 := (by injection e134); replace p134 := eq_true p134; replace q134 := eq_true q134) | (go_at_call 75; (with_reducible refine (sennitref01_Line.calls k1 (rdOf ByteArray.empty l0 x3_1) true _ A8.out).mono ?_); rintro e w' ⟨rfl, ⟨nd, rfl⟩⟩))
                  go_roundg k1
                  case measure => have := HK1.out; omega
                  case rel => exact ⟨(wrap64 (x3_1 + 1)), (by first | rfl | (simp; done) | (simp [*]; done)), H', ⟨by have := HK1.out; omega⟩, by repeat (first | exact Drawn0.refl _ | apply Drawn0.step)⟩
                · replace c9 := Bool.eq_false_iff.mpr c9
                  subst c9
                  have H1 : (some false) = some r := by rw [if_neg (show ¬ (false = true) by decide)] at H; exact H
                  clear H
                  have H := H1
                  clear H1
                  obtain rfl := Option.some.inj H
                  have p131 : 0 ≤ (x3_1 : Int) := of_decide_eq_true (by first | (with_reducible assumption) | assumption)
                  have q131 : x3_1 < (l0.length : Int) := of_decide_eq_true (by first | (with_reducible assumption) | assumption)
                  obtain ⟨ad131, e131, hx131_0⟩ := Kd.at_string HR0.out x3_1 p131 q131
                  cases e131
                  replace p131 := eq_true p131
                  replace q131 := eq_true q131
                  have p132 : 0 ≤ (x3_1 : Int) := of_decide_eq_true (by first | (with_reducible assumption) | assumption)
                  have q132 : x3_1 < (l0.length : Int) := of_decide_eq_true (by first | (with_reducible assumption) | assumption)
                  obtain ⟨ad132, e132, hx132_0⟩ := Kd.at_string HR0.out x3_1 p132 q132
                  obtain rfl : ad131 = ad132 := (by injection e132)
                  replace p132 := eq_true p132
                  replace q132 := eq_true q132
                  go_wp2_with (first | (go_at_call 74; (with_reducible refine (sennitref01_feeds.calls k1 (rdOf ByteArray.empty l0 x3_1) t133 _ A6.out).mono ?_); rintro e w' ⟨rfl, ⟨nd, rfl⟩⟩; have p134 : 0 ≤ (x3_1 : Int) := of_decide_eq_true (by first | (with_reducible assumption) | assumption); have q134 : x3_1 < (l0.length : Int) := of_decide_eq_true (by first | (with_reducible assumption) | assumption); obtain ⟨ad134, e134, hx134_0⟩ := Kd.at_string HR0.out x3_1 p134 q134; obtain rfl : ad131 = ad134 := (by injection e134); replace p134 := eq_true p134; replace q134 := eq_true q134) | (go_at_call 75; (with_reducible refine (sennitref01_Line.calls k1 (rdOf ByteArray.empty l0 x3_1) false _ A8.out).mono ?_); rintro e w' ⟨rfl, ⟨nd, rfl⟩⟩))
                  go_ret
                  exact ⟨by first | rfl | (simp; done) | (simp [*]; done), by repeat (first | exact Drawn0.refl _ | apply Drawn0.step)⟩
            · rw [if_neg c5] at H
              have c5b0 : decide (0 < ((rdOf ByteArray.empty l0 x3_1).size : Int)) = false := decide_eq_false c5
              have c5b1 : decide (0 < (rdOf ByteArray.empty l0 x3_1).size) = false := decide_eq_false (by omega)
              clear c5
              replace H := Option.bind_eq_some_iff.mp H
              obtain ⟨t137, A100, H⟩ := H
              replace H : (if t137 = true then (sennitref01_May.l0 k1 l0 (wrap64 (x3_1 + 1))) else (some false)) = some r := H
              have A10 := Aside0.mk A100
              clear A100
              by_cases c11 : t137 = true
              · subst c11
                have H1 : (sennitref01_May.l0 k1 l0 (wrap64 (x3_1 + 1))) = some r := by rw [if_pos rfl] at H; exact H
                clear H
                have H := H1
                clear H1
                have H' := Aside0.mk H
                clear H
                have p131 : 0 ≤ (x3_1 : Int) := of_decide_eq_true (by first | (with_reducible assumption) | assumption)
                have q131 : x3_1 < (l0.length : Int) := of_decide_eq_true (by first | (with_reducible assumption) | assumption)
                obtain ⟨ad131, e131, hx131_0⟩ := Kd.at_string HR0.out x3_1 p131 q131
                cases e131
                replace p131 := eq_true p131
                replace q131 := eq_true q131
                have p136 : 0 ≤ (x3_1 : Int) := of_decide_eq_true (by first | (with_reducible assumption) | assumption)
                have q136 : x3_1 < (l0.length : Int) := of_decide_eq_true (by first | (with_reducible assumption) | assumption)
                obtain ⟨ad136, e136, hx136_0⟩ := Kd.at_string HR0.out x3_1 p136 q136
                obtain rfl : ad131 = ad136 := (by injection e136)
                replace p136 := eq_true p136
                replace q136 := eq_true q136
                go_wp2_with (first | (go_at_call 75; (with_reducible refine (sennitref01_Line.calls k1 (rdOf ByteArray.empty l0 x3_1) true _ A10.out).mono ?_); rintro e w' ⟨rfl, ⟨nd, rfl⟩⟩))
                go_roundg k1
                case measure => have := HK1.out; omega
                case rel => exact ⟨(wrap64 (x3_1 + 1)), (by first | rfl | (simp; done) | (simp [*]; done)), H', ⟨by have := HK1.out; omega⟩, by repeat (first | exact Drawn0.refl _ | apply Drawn0.step)⟩
              · replace c11 := Bool.eq_false_iff.mpr c11
                subst c11
                have H1 : (some false) = some r := by rw [if_neg (show ¬ (false = true) by decide)] at H; exact H
                clear H
                have H := H1
                clear H1
                obtain rfl := Option.some.inj H
                have p131 : 0 ≤ (x3_1 : Int) := of_decide_eq_true (by first | (with_reducible assumption) | assumption)
                have q131 : x3_1 < (l0.length : Int) := of_decide_eq_true (by first | (with_reducible assumption) | assumption)
                obtain ⟨ad131, e131, hx131_0⟩ := Kd.at_string HR0.out x3_1 p131 q131
                cases e131
                replace p131 := eq_true p131
                replace q131 := eq_true q131
                have p136 : 0 ≤ (x3_1 : Int) := of_decide_eq_true (by first | (with_reducible assumption) | assumption)
                have q136 : x3_1 < (l0.length : Int) := of_decide_eq_true (by first | (with_reducible assumption) | assumption)
                obtain ⟨ad136, e136, hx136_0⟩ := Kd.at_string HR0.out x3_1 p136 q136
                obtain rfl : ad131 = ad136 := (by injection e136)
                replace p136 := eq_true p136
                replace q136 := eq_true q136
                go_wp2_with (first | (go_at_call 75; (with_reducible refine (sennitref01_Line.calls k1 (rdOf ByteArray.empty l0 x3_1) false _ A10.out).mono ?_); rintro e w' ⟨rfl, ⟨nd, rfl⟩⟩))
                go_ret
                exact ⟨by first | rfl | (simp; done) | (simp [*]; done), by repeat (first | exact Drawn0.refl _ | apply Drawn0.step)⟩
          · rw [if_neg c4] at H
            exact absurd H (by simp)
        · rw [if_neg c3] at H
          have c3b0 : (x3_1 == (wrap64 ((l0.length : Int) - 1))) = false := beq_eq_false_iff_ne.mpr c3
          have c3b1 : (x3_1 != (wrap64 ((l0.length : Int) - 1))) = true := bne_iff_ne.mpr c3
          by_cases c12 : 0 ≤ x3_1
          · rw [if_pos c12] at H
            have c12b0 : decide (0 ≤ x3_1) = true := decide_eq_true c12
            clear c12
            replace H := Option.bind_eq_some_iff.mp H
            obtain ⟨t139, A130, H⟩ := H
            replace H : (if t139 = true then (sennitref01_May.l0 k1 l0 (wrap64 (x3_1 + 1))) else (some false)) = some r := H
            have A13 := Aside0.mk A130
            clear A130
            by_cases c14 : t139 = true
            · subst c14
              have H1 : (sennitref01_May.l0 k1 l0 (wrap64 (x3_1 + 1))) = some r := by rw [if_pos rfl] at H; exact H
              clear H
              have H := H1
              clear H1
              have H' := Aside0.mk H
              clear H
              have p138 : 0 ≤ (x3_1 : Int) := of_decide_eq_true (by first | (with_reducible assumption) | assumption)
              have q138 : x3_1 < (l0.length : Int) := of_decide_eq_true (by first | (with_reducible assumption) | assumption)
              obtain ⟨ad138, e138, hx138_0⟩ := Kd.at_string HR0.out x3_1 p138 q138
              cases e138
              replace p138 := eq_true p138
              replace q138 := eq_true q138
              go_wp2_with (first | (go_at_call 75; (with_reducible refine (sennitref01_Line.calls k1 (rdOf ByteArray.empty l0 x3_1) true _ A13.out).mono ?_); rintro e w' ⟨rfl, ⟨nd, rfl⟩⟩))
              go_roundg k1
              case measure => have := HK1.out; omega
              case rel => exact ⟨(wrap64 (x3_1 + 1)), (by first | rfl | (simp; done) | (simp [*]; done)), H', ⟨by have := HK1.out; omega⟩, by repeat (first | exact Drawn0.refl _ | apply Drawn0.step)⟩
            · replace c14 := Bool.eq_false_iff.mpr c14
              subst c14
              have H1 : (some false) = some r := by rw [if_neg (show ¬ (false = true) by decide)] at H; exact H
              clear H
              have H := H1
              clear H1
              obtain rfl := Option.some.inj H
              have p138 : 0 ≤ (x3_1 : Int) := of_decide_eq_true (by first | (with_reducible assumption) | assumption)
              have q138 : x3_1 < (l0.length : Int) := of_decide_eq_true (by first | (with_reducible assumption) | assumption)
              obtain ⟨ad138, e138, hx138_0⟩ := Kd.at_string HR0.out x3_1 p138 q138
              cases e138
              replace p138 := eq_true p138
              replace q138 := eq_true q138
              go_wp2_with (first | (go_at_call 75; (with_reducible refine (sennitref01_Line.calls k1 (rdOf ByteArray.empty l0 x3_1) false _ A13.out).mono ?_); rintro e w' ⟨rfl, ⟨nd, rfl⟩⟩))
              go_ret
              exact ⟨by first | rfl | (simp; done) | (simp [*]; done), by repeat (first | exact Drawn0.refl _ | apply Drawn0.step)⟩
          · rw [if_neg c12] at H
            exact absurd H (by simp)
      · rw [if_neg c2] at H
        have c2b0 : decide (x3_1 < (l0.length : Int)) = false := decide_eq_false c2
        clear c2
        obtain rfl := Option.some.inj H
        go_wp2
        go_ret
        exact ⟨by first | rfl | (simp; done) | (simp [*]; done), by repeat (first | exact Drawn0.refl _ | apply Drawn0.step)⟩

end Go.Proofs.YtenfoaajipiehaaDoor.Q
