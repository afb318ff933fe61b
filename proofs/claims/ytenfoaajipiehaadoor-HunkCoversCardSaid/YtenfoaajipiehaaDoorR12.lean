/- Contracts of the functions named below: each comes to what the Lean function of its name says (for every input; written by a program over the translation). -/
import Derived.Test.YtenfoaajipiehaaDoorQ0
import Derived.Test.YtenfoaajipiehaaDoorR3
import Derived.Test.YtenfoaajipiehaaDoorR4
import Derived.Test.YtenfoaajipiehaaDoorR5
import Derived.Test.YtenfoaajipiehaaDoorR8
import Derived.Test.YtenfoaajipiehaaDoorR10
import Derived.Test.YtenfoaajipiehaaDoorQ4
import Derived.Test.YtenfoaajipiehaaDoorX9
namespace Go.Proofs.YtenfoaajipiehaaDoor.Q
open Go.RowKit Go.Proofs.YtenfoaajipiehaaDoorW.PrintWords Go.Proofs.YtenfoaajipiehaaDoorW.PrintLast Go.Proofs.YtenfoaajipiehaaDoorW.PrintMore
attribute [local go_sem] max2_int min2_int max_two min_two max_three min_three max_four min_four   -- for this text's walks alone
set_option linter.unusedVariables false
set_option linter.unusedSimpArgs false
/-! ### sennitlaw21_HunkCovers: function 5 -/
mutual
def sennitlaw21_HunkCovers.j0 : Nat → List (S41) → Int → Bool → Bool → Bool → Option (Bool)
  | 0, _, _, _, _, _ => none
  | k + 1, x0, x1, x2, x7, x25 => if x25 = true then (some x7) else ((hunk_Hunks.f k x0 (wrap64 (x1)) x2).bind fun bt330 => (sennitlaw21_HunkCovers.l0 k x0 x2 x7 bt330.1 bt330.2 ([] : List (S41)) 0))
def sennitlaw21_HunkCovers.l0 : Nat → List (S41) → Bool → Bool → List (S38) → Int → List (S41) → Int → Option (Bool)
  | 0, _, _, _, _, _, _, _ => none
  | k + 1, x0, x2, x7, x8, x9, x10, x11 => if x11 < (x8.length : Int) then (sennitlaw21_HunkCovers.l1 k x0 x2 x7 x8 x9 x10 x11 0) else ((sennitref21_Groups.f k x0).bind fun t343 => (sennitlaw21_HunkCovers.l2 k x0 x2 x7 x9 x10 ([] : List (S41)) t343 0))
def sennitlaw21_HunkCovers.l1 : Nat → List (S41) → Bool → Bool → List (S38) → Int → List (S41) → Int → Int → Option (Bool)
  | 0, _, _, _, _, _, _, _, _ => none
  | k + 1, x0, x2, x7, x8, x9, x10, x11, x12 => if 0 ≤ x11 then (if x11 < (x8.length : Int) then (if x12 < (((rd_T38 x8 x11).f2).length : Int) then (if 0 ≤ x12 then ((sennitref21_Marked.f k ((rd_T41 ((rd_T38 x8 x11).f2) x12).f0) ((rd_T41 ((rd_T38 x8 x11).f2) x12).f1)).bind fun t337 => (if t337 = true then (if x10.length < 4398046511104 then (sennitlaw21_HunkCovers.l1 k x0 x2 x7 x8 x9 (x10 ++ [(⟨(rd_T41 ((rd_T38 x8 x11).f2) x12).f0, (rd_T41 ((rd_T38 x8 x11).f2) x12).f1⟩ : S41)]) x11 (wrap64 (x12 + 1))) else (none)) else (sennitlaw21_HunkCovers.l1 k x0 x2 x7 x8 x9 x10 x11 (wrap64 (x12 + 1))))) else (none)) else (sennitlaw21_HunkCovers.l0 k x0 x2 x7 x8 x9 x10 (wrap64 (x11 + 1)))) else (none)) else (none)
def sennitlaw21_HunkCovers.l2 : Nat → List (S41) → Bool → Bool → Int → List (S41) → List (S41) → List (S36) → Int → Option (Bool)
  | 0, _, _, _, _, _, _, _, _ => none
  | k + 1, x0, x2, x7, x9, x10, x13, x14, x15 => if x15 < (x14.length : Int) then (if 0 ≤ x15 then (if 0 ≤ ((rd_T36 x14 x15).f0) then (if ((rd_T36 x14 x15).f0) ≤ ((rd_T36 x14 x15).f1) then (if ((rd_T36 x14 x15).f1) ≤ (x0.length : Int) then ((some ((x0.take (((rd_T36 x14 x15).f1) : Int).toNat).drop (((rd_T36 x14 x15).f0) : Int).toNat : List (S41))).bind fun y348 => (if x2 = true then ((sennitref21_Dull.f k y348).bind fun t352 => (if t352 = true then (sennitlaw21_HunkCovers.l2 k x0 x2 x7 x9 x10 x13 x14 (wrap64 (x15 + 1))) else (if x13.length + y348.length < 4398046511104 then (sennitlaw21_HunkCovers.l2 k x0 x2 x7 x9 x10 (x13 ++ y348) x14 (wrap64 (x15 + 1))) else (none)))) else (if x13.length + y348.length < 4398046511104 then (sennitlaw21_HunkCovers.l2 k x0 x2 x7 x9 x10 (x13 ++ y348) x14 (wrap64 (x15 + 1))) else (none)))) else (none)) else (none)) else (none)) else (none)) else (if x7 = true then (if x9 = 0 then ((sennitref19_Same.f k x10 x13).bind fun t359 => (some t359)) else (some false)) else (some false))
end
def sennitlaw21_HunkCovers.f (k : Nat) (l0 : List (S41)) (a1 : Int) (a2 : Bool) : Option (Bool) := (sennitlaw21_awake.f k).bind fun t327 => ((sennitref21_Few.f k l0).bind fun t328 => (if t328 = true then ((sennitref21_May.f k l0).bind fun t329 => (sennitlaw21_HunkCovers.j0 k l0 a1 a2 t327 (!t329))) else (sennitlaw21_HunkCovers.j0 k l0 a1 a2 t327 true)))
theorem sennitlaw21_HunkCovers.mono_l : ∀ k, (∀ y0 y1 y2 y3 y4, LeO (sennitlaw21_HunkCovers.j0 k y0 y1 y2 y3 y4) (sennitlaw21_HunkCovers.j0 (k + 1) y0 y1 y2 y3 y4)) ∧ (∀ y0 y1 y2 y3 y4 y5 y6, LeO (sennitlaw21_HunkCovers.l0 k y0 y1 y2 y3 y4 y5 y6) (sennitlaw21_HunkCovers.l0 (k + 1) y0 y1 y2 y3 y4 y5 y6)) ∧ (∀ y0 y1 y2 y3 y4 y5 y6 y7, LeO (sennitlaw21_HunkCovers.l1 k y0 y1 y2 y3 y4 y5 y6 y7) (sennitlaw21_HunkCovers.l1 (k + 1) y0 y1 y2 y3 y4 y5 y6 y7)) ∧ (∀ y0 y1 y2 y3 y4 y5 y6 y7, LeO (sennitlaw21_HunkCovers.l2 k y0 y1 y2 y3 y4 y5 y6 y7) (sennitlaw21_HunkCovers.l2 (k + 1) y0 y1 y2 y3 y4 y5 y6 y7))
  | 0 => ⟨fun _ _ _ _ _ r h => by simp [sennitlaw21_HunkCovers.j0] at h, fun _ _ _ _ _ _ _ r h => by simp [sennitlaw21_HunkCovers.l0] at h, fun _ _ _ _ _ _ _ _ r h => by simp [sennitlaw21_HunkCovers.l1] at h, fun _ _ _ _ _ _ _ _ r h => by simp [sennitlaw21_HunkCovers.l2] at h⟩
  | k + 1 => by
    obtain ⟨ih0, ih1, ih2, ih3⟩ := sennitlaw21_HunkCovers.mono_l k
    refine ⟨?_, ?_, ?_, ?_⟩
    · intro y0 y1 y2 y3 y4
      unfold sennitlaw21_HunkCovers.j0
      repeat' first
      | (with_reducible exact ih0 _ _ _ _ _)
      | (with_reducible exact ih1 _ _ _ _ _ _ _)
      | (with_reducible exact ih2 _ _ _ _ _ _ _ _)
      | (with_reducible exact ih3 _ _ _ _ _ _ _ _)
      | (with_reducible exact hunk_Hunks.mono _ _ _ _)
      | (with_reducible exact sennitlaw21_awake.mono _)
      | (with_reducible exact sennitref19_Same.mono _ _ _)
      | (with_reducible exact sennitref21_Dull.mono _ _)
      | (with_reducible exact sennitref21_Few.mono _ _)
      | (with_reducible exact sennitref21_Groups.mono _ _)
      | (with_reducible exact sennitref21_Marked.mono _ _ _)
      | (with_reducible exact sennitref21_May.mono _ _)
      | (with_reducible exact LeO.refl _)
      | (with_reducible exact LeO.none _)
      | (with_reducible refine LeO.ite ?_ ?_)
      | (with_reducible refine LeO.bind ?_ (fun _ => ?_))
      | exact ih0 _ _ _ _ _
      | exact ih1 _ _ _ _ _ _ _
      | exact ih2 _ _ _ _ _ _ _ _
      | exact ih3 _ _ _ _ _ _ _ _
      | exact hunk_Hunks.mono _ _ _ _
      | exact sennitlaw21_awake.mono _
      | exact sennitref19_Same.mono _ _ _
      | exact sennitref21_Dull.mono _ _
      | exact sennitref21_Few.mono _ _
      | exact sennitref21_Groups.mono _ _
      | exact sennitref21_Marked.mono _ _ _
      | exact sennitref21_May.mono _ _
      | exact LeO.none _
      | refine LeO.ite ?_ ?_
      | refine LeO.bind ?_ (fun _ => ?_)
    · intro y0 y1 y2 y3 y4 y5 y6
      unfold sennitlaw21_HunkCovers.l0
      repeat' first
      | (with_reducible exact ih0 _ _ _ _ _)
      | (with_reducible exact ih1 _ _ _ _ _ _ _)
      | (with_reducible exact ih2 _ _ _ _ _ _ _ _)
      | (with_reducible exact ih3 _ _ _ _ _ _ _ _)
      | (with_reducible exact hunk_Hunks.mono _ _ _ _)
      | (with_reducible exact sennitlaw21_awake.mono _)
      | (with_reducible exact sennitref19_Same.mono _ _ _)
      | (with_reducible exact sennitref21_Dull.mono _ _)
      | (with_reducible exact sennitref21_Few.mono _ _)
      | (with_reducible exact sennitref21_Groups.mono _ _)
      | (with_reducible exact sennitref21_Marked.mono _ _ _)
      | (with_reducible exact sennitref21_May.mono _ _)
      | (with_reducible exact LeO.refl _)
      | (with_reducible exact LeO.none _)
      | (with_reducible refine LeO.ite ?_ ?_)
      | (with_reducible refine LeO.bind ?_ (fun _ => ?_))
      | exact ih0 _ _ _ _ _
      | exact ih1 _ _ _ _ _ _ _
      | exact ih2 _ _ _ _ _ _ _ _
      | exact ih3 _ _ _ _ _ _ _ _
      | exact hunk_Hunks.mono _ _ _ _
      | exact sennitlaw21_awake.mono _
      | exact sennitref19_Same.mono _ _ _
      | exact sennitref21_Dull.mono _ _
      | exact sennitref21_Few.mono _ _
      | exact sennitref21_Groups.mono _ _
      | exact sennitref21_Marked.mono _ _ _
      | exact sennitref21_May.mono _ _
      | exact LeO.none _
      | refine LeO.ite ?_ ?_
      | refine LeO.bind ?_ (fun _ => ?_)
    · intro y0 y1 y2 y3 y4 y5 y6 y7
      unfold sennitlaw21_HunkCovers.l1
      repeat' first
      | (with_reducible exact ih0 _ _ _ _ _)
      | (with_reducible exact ih1 _ _ _ _ _ _ _)
      | (with_reducible exact ih2 _ _ _ _ _ _ _ _)
      | (with_reducible exact ih3 _ _ _ _ _ _ _ _)
      | (with_reducible exact hunk_Hunks.mono _ _ _ _)
      | (with_reducible exact sennitlaw21_awake.mono _)
      | (with_reducible exact sennitref19_Same.mono _ _ _)
      | (with_reducible exact sennitref21_Dull.mono _ _)
      | (with_reducible exact sennitref21_Few.mono _ _)
      | (with_reducible exact sennitref21_Groups.mono _ _)
      | (with_reducible exact sennitref21_Marked.mono _ _ _)
      | (with_reducible exact sennitref21_May.mono _ _)
      | (with_reducible exact LeO.refl _)
      | (with_reducible exact LeO.none _)
      | (with_reducible refine LeO.ite ?_ ?_)
      | (with_reducible refine LeO.bind ?_ (fun _ => ?_))
      | exact ih0 _ _ _ _ _
      | exact ih1 _ _ _ _ _ _ _
      | exact ih2 _ _ _ _ _ _ _ _
      | exact ih3 _ _ _ _ _ _ _ _
      | exact hunk_Hunks.mono _ _ _ _
      | exact sennitlaw21_awake.mono _
      | exact sennitref19_Same.mono _ _ _
      | exact sennitref21_Dull.mono _ _
      | exact sennitref21_Few.mono _ _
      | exact sennitref21_Groups.mono _ _
      | exact sennitref21_Marked.mono _ _ _
      | exact sennitref21_May.mono _ _
      | exact LeO.none _
      | refine LeO.ite ?_ ?_
      | refine LeO.bind ?_ (fun _ => ?_)
    · intro y0 y1 y2 y3 y4 y5 y6 y7
      unfold sennitlaw21_HunkCovers.l2
      repeat' first
      | (with_reducible exact ih0 _ _ _ _ _)
      | (with_reducible exact ih1 _ _ _ _ _ _ _)
      | (with_reducible exact ih2 _ _ _ _ _ _ _ _)
      | (with_reducible exact ih3 _ _ _ _ _ _ _ _)
      | (with_reducible exact hunk_Hunks.mono _ _ _ _)
      | (with_reducible exact sennitlaw21_awake.mono _)
      | (with_reducible exact sennitref19_Same.mono _ _ _)
      | (with_reducible exact sennitref21_Dull.mono _ _)
      | (with_reducible exact sennitref21_Few.mono _ _)
      | (with_reducible exact sennitref21_Groups.mono _ _)
      | (with_reducible exact sennitref21_Marked.mono _ _ _)
      | (with_reducible exact sennitref21_May.mono _ _)
      | (with_reducible exact LeO.refl _)
      | (with_reducible exact LeO.none _)
      | (with_reducible refine LeO.ite ?_ ?_)
      | (with_reducible refine LeO.bind ?_ (fun _ => ?_))
      | exact ih0 _ _ _ _ _
      | exact ih1 _ _ _ _ _ _ _
      | exact ih2 _ _ _ _ _ _ _ _
      | exact ih3 _ _ _ _ _ _ _ _
      | exact hunk_Hunks.mono _ _ _ _
      | exact sennitlaw21_awake.mono _
      | exact sennitref19_Same.mono _ _ _
      | exact sennitref21_Dull.mono _ _
      | exact sennitref21_Few.mono _ _
      | exact sennitref21_Groups.mono _ _
      | exact sennitref21_Marked.mono _ _ _
      | exact sennitref21_May.mono _ _
      | exact LeO.none _
      | refine LeO.ite ?_ ?_
      | refine LeO.bind ?_ (fun _ => ?_)
theorem sennitlaw21_HunkCovers.mono : ∀ a0 a1 a2 k, LeO (sennitlaw21_HunkCovers.f k a0 a1 a2) (sennitlaw21_HunkCovers.f (k + 1) a0 a1 a2) := by
  intro a0 a1 a2 k
  obtain ⟨ih0, ih1, ih2, ih3⟩ := sennitlaw21_HunkCovers.mono_l k
  unfold sennitlaw21_HunkCovers.f
  repeat' first
      | (with_reducible exact ih0 _ _ _ _ _)
      | (with_reducible exact ih1 _ _ _ _ _ _ _)
      | (with_reducible exact ih2 _ _ _ _ _ _ _ _)
      | (with_reducible exact ih3 _ _ _ _ _ _ _ _)
      | (with_reducible exact hunk_Hunks.mono _ _ _ _)
      | (with_reducible exact sennitlaw21_awake.mono _)
      | (with_reducible exact sennitref19_Same.mono _ _ _)
      | (with_reducible exact sennitref21_Dull.mono _ _)
      | (with_reducible exact sennitref21_Few.mono _ _)
      | (with_reducible exact sennitref21_Groups.mono _ _)
      | (with_reducible exact sennitref21_Marked.mono _ _ _)
      | (with_reducible exact sennitref21_May.mono _ _)
      | (with_reducible exact LeO.refl _)
      | (with_reducible exact LeO.none _)
      | (with_reducible refine LeO.ite ?_ ?_)
      | (with_reducible refine LeO.bind ?_ (fun _ => ?_))
      | exact ih0 _ _ _ _ _
      | exact ih1 _ _ _ _ _ _ _
      | exact ih2 _ _ _ _ _ _ _ _
      | exact ih3 _ _ _ _ _ _ _ _
      | exact hunk_Hunks.mono _ _ _ _
      | exact sennitlaw21_awake.mono _
      | exact sennitref19_Same.mono _ _ _
      | exact sennitref21_Dull.mono _ _
      | exact sennitref21_Few.mono _ _
      | exact sennitref21_Groups.mono _ _
      | exact sennitref21_Marked.mono _ _ _
      | exact sennitref21_May.mono _ _
      | exact LeO.none _
      | refine LeO.ite ?_ ?_
      | refine LeO.bind ?_ (fun _ => ?_)
set_option maxHeartbeats 8000000 in
set_option maxRecDepth 100000 in
theorem sennitlaw21_HunkCovers.calls_t (k : Nat) (A0 : Option Addr) (c0 : Nat) (l0 : List (S41)) (a1 : Int) (a2 : Bool) (r : Bool) (w : World) (hr0 : Kd.C k41 w A0 l0.length l0) (hc0 : l0.length ≤ c0) (hmx : MaxOk w) (hrt : r = true) (h : sennitlaw21_HunkCovers.f k l0 a1 a2 = some r) :
    Calls Tryd.prog 5 #[.slice A0 l0.length c0, .int .u8 a1, .bool a2] w fun e w' => e = .returned (.bool r) ∧ Below w.heap.size w w' := by
  have HRT := Aside0.mk hrt
  clear hrt
  have HMX := Aside0.mk hmx
  clear hmx
  have hu41 := Tryd.underlying41
  have HR0 := Aside0.mk hr0
  have HC0 := Aside0.mk hc0
  clear hr0 hc0
  have HB := Aside0.mk (Below.refl w.heap.size w)
  have H : ((sennitlaw21_awake.f k).bind fun t327 => ((sennitref21_Few.f k l0).bind fun t328 => (if t328 = true then ((sennitref21_May.f k l0).bind fun t329 => (sennitlaw21_HunkCovers.j0 k l0 a1 a2 t327 (!t329))) else (sennitlaw21_HunkCovers.j0 k l0 a1 a2 t327 true)))) = some r := h
  clear h
  replace H := Option.bind_eq_some_iff.mp H
  obtain ⟨t327, A40, H⟩ := H
  replace H : ((sennitref21_Few.f k l0).bind fun t328 => (if t328 = true then ((sennitref21_May.f k l0).bind fun t329 => (sennitlaw21_HunkCovers.j0 k l0 a1 a2 t327 (!t329))) else (sennitlaw21_HunkCovers.j0 k l0 a1 a2 t327 true))) = some r := H
  have A4 := Aside0.mk A40
  clear A40
  have HC5 := Aside0.mk H
  clear H
  go_enter Tryd.func5, Tryd.ntmps5
  go_upto_region 2 with (first | (go_at_call 9; (with_reducible refine (sennitlaw21_awake.calls k  t327 _ ?sidemx A4.out).mono ?_); (case sidemx => exact MaxOk.below HMX.out (by repeat (first | (with_reducible first | exact HB.out | apply below_alloc | apply pw_below_drewN | apply below_drew1) | exact HB.out))); rintro e w6 ⟨rfl, hb⟩; have n0_ := Aside0.mk (below_step (by repeat (first | (with_reducible first | exact HB.out | apply below_alloc | apply pw_below_drewN | apply below_drew1) | exact HB.out)) hb); clear HB; have HB := n0_; clear n0_; (try clear hb); (try clear hb2); (try clear hk); (try clear hi)))
  repeat (go_quiet (first | (go_at_call 9; (with_reducible refine (sennitlaw21_awake.calls k  t327 _ ?sidemx A4.out).mono ?_); (case sidemx => exact MaxOk.below HMX.out (by repeat (first | (with_reducible first | exact HB.out | apply below_alloc | apply pw_below_drewN | apply below_drew1) | exact HB.out))); rintro e w6 ⟨rfl, hb⟩; have n0_ := Aside0.mk (below_step (by repeat (first | (with_reducible first | exact HB.out | apply below_alloc | apply pw_below_drewN | apply below_drew1) | exact HB.out)) hb); clear HB; have HB := n0_; clear n0_; (try clear hb); (try clear hb2); (try clear hk); (try clear hi))); go_upto_region 2 with (first | (go_at_call 9; (with_reducible refine (sennitlaw21_awake.calls k  t327 _ ?sidemx A4.out).mono ?_); (case sidemx => exact MaxOk.below HMX.out (by repeat (first | (with_reducible first | exact HB.out | apply below_alloc | apply pw_below_drewN | apply below_drew1) | exact HB.out))); rintro e w6 ⟨rfl, hb⟩; have n0_ := Aside0.mk (below_step (by repeat (first | (with_reducible first | exact HB.out | apply below_alloc | apply pw_below_drewN | apply below_drew1) | exact HB.out)) hb); clear HB; have HB := n0_; clear n0_; (try clear hb); (try clear hb2); (try clear hk); (try clear hi))))
  (try simp only [Act.put, List.setIfInBounds_toArray, List.set_cons_zero, List.set_cons_succ])
  go_cut [25] (fun v25 wc => ∃ (kq : Nat) (x25_4 : Bool), v25 = .bool x25_4 ∧ Aside0 (sennitlaw21_HunkCovers.j0 kq l0 a1 a2 t327 x25_4 = some r) ∧ Aside0 (kq ≤ k) ∧ Aside0 (Below w.heap.size w wc))
  case first =>
    have H := HC5.out
    clear HC5
    replace H := Option.bind_eq_some_iff.mp H
    obtain ⟨t328, A70, H⟩ := H
    replace H : (if t328 = true then ((sennitref21_May.f k l0).bind fun t329 => (sennitlaw21_HunkCovers.j0 k l0 a1 a2 t327 (!t329))) else (sennitlaw21_HunkCovers.j0 k l0 a1 a2 t327 true)) = some r := H
    have A7 := Aside0.mk A70
    clear A70
    by_cases c8 : t328 = true
    · subst c8
      have H1 : ((sennitref21_May.f k l0).bind fun t329 => (sennitlaw21_HunkCovers.j0 k l0 a1 a2 t327 (!t329))) = some r := by rw [if_pos rfl] at H; exact H
      clear H
      have H := H1
      clear H1
      replace H := Option.bind_eq_some_iff.mp H
      obtain ⟨t329, A90, H⟩ := H
      replace H : (sennitlaw21_HunkCovers.j0 k l0 a1 a2 t327 (!t329)) = some r := H
      have A9 := Aside0.mk A90
      clear A90
      have H' := Aside0.mk H
      clear H
      go_wp2_with (first | (go_at_call 10; (with_reducible refine (sennitref21_Few.calls k _ _ l0 true _ ?side1 ?side2 A7.out).mono ?_); (case side1 => repeat (first | exact (Kd.C_below HR0.out HB.out) | (with_reducible refine Kd.C_alloc ?_ _) | (with_reducible refine Kd.C_drewN ?_ _) | (with_reducible refine Kd.C_drew ?_))); (case side2 => exact HC0.out); rintro e w' ⟨rfl, ⟨nd, rfl⟩⟩; (try first | exact ⟨rfl, _, World.drewN_drewN _ _ _⟩ | exact ⟨rfl, _, Eq.trans (World.drewN_drewN _ _ _) (congrArg (World.drewN _) (Nat.add_assoc _ _ _))⟩)) | (go_at_call 14; (with_reducible refine (sennitref21_May.calls k _ _ l0 t329 _ ?side1 ?side2 A9.out).mono ?_); (case side1 => repeat (first | exact (Kd.C_below HR0.out (by repeat (first | (with_reducible first | exact HB.out | apply below_alloc | apply pw_below_drewN | apply below_drew1) | exact HB.out))) | (with_reducible refine Kd.C_alloc ?_ _) | (with_reducible refine Kd.C_drewN ?_ _) | (with_reducible refine Kd.C_drew ?_))); (case side2 => exact HC0.out); rintro e w10 ⟨rfl, hb⟩; have n0_ := Aside0.mk (below_step (by repeat (first | (with_reducible first | exact HB.out | apply below_alloc | apply pw_below_drewN | apply below_drew1) | exact HB.out)) hb); clear HB; have HB := n0_; clear n0_; (try clear hb); (try clear hb2); (try clear hk); (try clear hi)))
      repeat (go_quiet (first | (go_at_call 10; (with_reducible refine (sennitref21_Few.calls k _ _ l0 true _ ?side1 ?side2 A7.out).mono ?_); (case side1 => repeat (first | exact (Kd.C_below HR0.out HB.out) | (with_reducible refine Kd.C_alloc ?_ _) | (with_reducible refine Kd.C_drewN ?_ _) | (with_reducible refine Kd.C_drew ?_))); (case side2 => exact HC0.out); rintro e w' ⟨rfl, ⟨nd, rfl⟩⟩; (try first | exact ⟨rfl, _, World.drewN_drewN _ _ _⟩ | exact ⟨rfl, _, Eq.trans (World.drewN_drewN _ _ _) (congrArg (World.drewN _) (Nat.add_assoc _ _ _))⟩)) | (go_at_call 14; (with_reducible refine (sennitref21_May.calls k _ _ l0 t329 _ ?side1 ?side2 A9.out).mono ?_); (case side1 => repeat (first | exact (Kd.C_below HR0.out (by repeat (first | (with_reducible first | exact HB.out | apply below_alloc | apply pw_below_drewN | apply below_drew1) | exact HB.out))) | (with_reducible refine Kd.C_alloc ?_ _) | (with_reducible refine Kd.C_drewN ?_ _) | (with_reducible refine Kd.C_drew ?_))); (case side2 => exact HC0.out); rintro e w10 ⟨rfl, hb⟩; have n0_ := Aside0.mk (below_step (by repeat (first | (with_reducible first | exact HB.out | apply below_alloc | apply pw_below_drewN | apply below_drew1) | exact HB.out)) hb); clear HB; have HB := n0_; clear n0_; (try clear hb); (try clear hb2); (try clear hk); (try clear hi))); try go_wp2_with (first | (go_at_call 10; (with_reducible refine (sennitref21_Few.calls k _ _ l0 true _ ?side1 ?side2 A7.out).mono ?_); (case side1 => repeat (first | exact (Kd.C_below HR0.out HB.out) | (with_reducible refine Kd.C_alloc ?_ _) | (with_reducible refine Kd.C_drewN ?_ _) | (with_reducible refine Kd.C_drew ?_))); (case side2 => exact HC0.out); rintro e w' ⟨rfl, ⟨nd, rfl⟩⟩; (try first | exact ⟨rfl, _, World.drewN_drewN _ _ _⟩ | exact ⟨rfl, _, Eq.trans (World.drewN_drewN _ _ _) (congrArg (World.drewN _) (Nat.add_assoc _ _ _))⟩)) | (go_at_call 14; (with_reducible refine (sennitref21_May.calls k _ _ l0 t329 _ ?side1 ?side2 A9.out).mono ?_); (case side1 => repeat (first | exact (Kd.C_below HR0.out (by repeat (first | (with_reducible first | exact HB.out | apply below_alloc | apply pw_below_drewN | apply below_drew1) | exact HB.out))) | (with_reducible refine Kd.C_alloc ?_ _) | (with_reducible refine Kd.C_drewN ?_ _) | (with_reducible refine Kd.C_drew ?_))); (case side2 => exact HC0.out); rintro e w10 ⟨rfl, hb⟩; have n0_ := Aside0.mk (below_step (by repeat (first | (with_reducible first | exact HB.out | apply below_alloc | apply pw_below_drewN | apply below_drew1) | exact HB.out)) hb); clear HB; have HB := n0_; clear n0_; (try clear hb); (try clear hb2); (try clear hk); (try clear hi))))
      go_meet
      case rel => exact ⟨_, (!t329), (by first | rfl | (simp; done) | (simp [*]; done)), H', ⟨by first | omega | exact Nat.le_refl _⟩, ⟨by repeat (first | (with_reducible first | exact HB.out | apply below_alloc | apply pw_below_drewN | apply below_drew1) | exact HB.out)⟩⟩
    · replace c8 := Bool.eq_false_iff.mpr c8
      subst c8
      have H1 : (sennitlaw21_HunkCovers.j0 k l0 a1 a2 t327 true) = some r := by rw [if_neg (show ¬ (false = true) by decide)] at H; exact H
      clear H
      have H := H1
      clear H1
      have H' := Aside0.mk H
      clear H
      go_wp2_with (first | (go_at_call 10; (with_reducible refine (sennitref21_Few.calls k _ _ l0 false _ ?side1 ?side2 A7.out).mono ?_); (case side1 => repeat (first | exact (Kd.C_below HR0.out HB.out) | (with_reducible refine Kd.C_alloc ?_ _) | (with_reducible refine Kd.C_drewN ?_ _) | (with_reducible refine Kd.C_drew ?_))); (case side2 => exact HC0.out); rintro e w' ⟨rfl, ⟨nd, rfl⟩⟩; (try first | exact ⟨rfl, _, World.drewN_drewN _ _ _⟩ | exact ⟨rfl, _, Eq.trans (World.drewN_drewN _ _ _) (congrArg (World.drewN _) (Nat.add_assoc _ _ _))⟩)))
      repeat (go_quiet (first | (go_at_call 10; (with_reducible refine (sennitref21_Few.calls k _ _ l0 false _ ?side1 ?side2 A7.out).mono ?_); (case side1 => repeat (first | exact (Kd.C_below HR0.out HB.out) | (with_reducible refine Kd.C_alloc ?_ _) | (with_reducible refine Kd.C_drewN ?_ _) | (with_reducible refine Kd.C_drew ?_))); (case side2 => exact HC0.out); rintro e w' ⟨rfl, ⟨nd, rfl⟩⟩; (try first | exact ⟨rfl, _, World.drewN_drewN _ _ _⟩ | exact ⟨rfl, _, Eq.trans (World.drewN_drewN _ _ _) (congrArg (World.drewN _) (Nat.add_assoc _ _ _))⟩))); try go_wp2_with (first | (go_at_call 10; (with_reducible refine (sennitref21_Few.calls k _ _ l0 false _ ?side1 ?side2 A7.out).mono ?_); (case side1 => repeat (first | exact (Kd.C_below HR0.out HB.out) | (with_reducible refine Kd.C_alloc ?_ _) | (with_reducible refine Kd.C_drewN ?_ _) | (with_reducible refine Kd.C_drew ?_))); (case side2 => exact HC0.out); rintro e w' ⟨rfl, ⟨nd, rfl⟩⟩; (try first | exact ⟨rfl, _, World.drewN_drewN _ _ _⟩ | exact ⟨rfl, _, Eq.trans (World.drewN_drewN _ _ _) (congrArg (World.drewN _) (Nat.add_assoc _ _ _))⟩))))
      go_meet
      case rel => exact ⟨_, (true), (by first | rfl | (simp; done) | (simp [*]; done)), H', ⟨by first | omega | exact Nat.le_refl _⟩, ⟨by repeat (first | (with_reducible first | exact HB.out | apply below_alloc | apply pw_below_drewN | apply below_drew1) | exact HB.out)⟩⟩
  case rest =>
    clear HC5
    try clear p2
    try clear c5
    try clear c8
    obtain ⟨kq, x25_4, rfl, HA, HJ4, HB⟩ := hcut
    cases kq with
    | zero => exact absurd HA.out (by simp [sennitlaw21_HunkCovers.j0])
    | succ kj4 =>
      have H := HA.out
      clear HA
      simp only [sennitlaw21_HunkCovers.j0] at H
      by_cases c11 : x25_4 = true
      · subst c11
        have H1 : (some t327) = some r := by rw [if_pos rfl] at H; exact H
        clear H
        have H := H1
        clear H1
        obtain rfl := Option.some.inj H
        go_wp2
        repeat (go_quiet (fail); try go_wp2)
        go_ret
        exact ⟨by first | rfl | (simp [errW_none, errW_some] <;> rfl) | (simp [errW_none, errW_some] <;> (generalize ByteArray.toList _ = l_ <;> cases l_ <;> rfl)) | (simp [*, errW_none, errW_some] <;> rfl), by repeat (first | (with_reducible first | exact HB.out | apply below_alloc | apply pw_below_drewN | apply below_drew1) | exact HB.out)⟩
      · replace c11 := Bool.eq_false_iff.mpr c11
        subst c11
        have H1 : ((hunk_Hunks.f kj4 l0 (wrap64 (a1)) a2).bind fun bt330 => (sennitlaw21_HunkCovers.l0 kj4 l0 a2 t327 bt330.1 bt330.2 ([] : List (S41)) 0)) = some r := by rw [if_neg (show ¬ (false = true) by decide)] at H; exact H
        clear H
        have H := H1
        clear H1
        replace H := Option.bind_eq_some_iff.mp H
        obtain ⟨⟨t330, t333⟩, A120, H⟩ := H
        replace H : (sennitlaw21_HunkCovers.l0 kj4 l0 a2 t327 t330 t333 ([] : List (S41)) 0) = some r := H
        have A12 := Aside0.mk A120
        clear A120
        have H' := Aside0.mk H
        clear H
        go_wp2_with (first | (go_at_call 11; (with_reducible refine (hunk_Hunks.calls kj4 (fun k_ => k_ < w.heap.size) _ _ l0 (wrap64 (a1)) a2 t330 t333 _ ?side1 ?sidemx A12.out).mono ?_); (case sidemx => exact MaxOk.below HMX.out (by repeat (first | (with_reducible first | exact HB.out | apply below_alloc | apply pw_below_drewN | apply below_drew1) | exact HB.out))); (case side1 => exact Kd.V_mk HC0.out (Kd.F_below (Kd.C_F k41_heap HR0.out) (by repeat (first | (with_reducible first | exact HB.out | apply below_alloc | apply pw_below_drewN | apply below_drew1) | exact HB.out)))); rintro e w13 ⟨v331, rfl, ho0, hb⟩; have n0_ := Aside0.mk (Kd.N_lower (Kd.N_mono (ok' := fun k_ => True) ho0 (fun k_ hk_ => trivial)) (below_size (by repeat (first | (with_reducible first | exact HB.out | apply below_alloc | apply pw_below_drewN | apply below_drew1) | exact HB.out)))); have n1_ := Aside0.mk (below_step (by repeat (first | (with_reducible first | exact HB.out | apply below_alloc | apply pw_below_drewN | apply below_drew1) | exact HB.out)) hb); clear HB; have HO332 := n0_; have HB := n1_; clear n0_ n1_; (try clear hb); (try clear hb2); (try clear hk); (try clear hi); (try clear ho0)))
        repeat (go_quiet (first | (go_at_call 11; (with_reducible refine (hunk_Hunks.calls kj4 (fun k_ => k_ < w.heap.size) _ _ l0 (wrap64 (a1)) a2 t330 t333 _ ?side1 ?sidemx A12.out).mono ?_); (case sidemx => exact MaxOk.below HMX.out (by repeat (first | (with_reducible first | exact HB.out | apply below_alloc | apply pw_below_drewN | apply below_drew1) | exact HB.out))); (case side1 => exact Kd.V_mk HC0.out (Kd.F_below (Kd.C_F k41_heap HR0.out) (by repeat (first | (with_reducible first | exact HB.out | apply below_alloc | apply pw_below_drewN | apply below_drew1) | exact HB.out)))); rintro e w13 ⟨v331, rfl, ho0, hb⟩; have n0_ := Aside0.mk (Kd.N_lower (Kd.N_mono (ok' := fun k_ => True) ho0 (fun k_ hk_ => trivial)) (below_size (by repeat (first | (with_reducible first | exact HB.out | apply below_alloc | apply pw_below_drewN | apply below_drew1) | exact HB.out)))); have n1_ := Aside0.mk (below_step (by repeat (first | (with_reducible first | exact HB.out | apply below_alloc | apply pw_below_drewN | apply below_drew1) | exact HB.out)) hb); clear HB; have HO332 := n0_; have HB := n1_; clear n0_ n1_; (try clear hb); (try clear hb2); (try clear hk); (try clear hi); (try clear ho0))); try go_wp2_with (first | (go_at_call 11; (with_reducible refine (hunk_Hunks.calls kj4 (fun k_ => k_ < w.heap.size) _ _ l0 (wrap64 (a1)) a2 t330 t333 _ ?side1 ?sidemx A12.out).mono ?_); (case sidemx => exact MaxOk.below HMX.out (by repeat (first | (with_reducible first | exact HB.out | apply below_alloc | apply pw_below_drewN | apply below_drew1) | exact HB.out))); (case side1 => exact Kd.V_mk HC0.out (Kd.F_below (Kd.C_F k41_heap HR0.out) (by repeat (first | (with_reducible first | exact HB.out | apply below_alloc | apply pw_below_drewN | apply below_drew1) | exact HB.out)))); rintro e w13 ⟨v331, rfl, ho0, hb⟩; have n0_ := Aside0.mk (Kd.N_lower (Kd.N_mono (ok' := fun k_ => True) ho0 (fun k_ hk_ => trivial)) (below_size (by repeat (first | (with_reducible first | exact HB.out | apply below_alloc | apply pw_below_drewN | apply below_drew1) | exact HB.out)))); have n1_ := Aside0.mk (below_step (by repeat (first | (with_reducible first | exact HB.out | apply below_alloc | apply pw_below_drewN | apply below_drew1) | exact HB.out)) hb); clear HB; have HO332 := n0_; have HB := n1_; clear n0_ n1_; (try clear hb); (try clear hb2); (try clear hk); (try clear hi); (try clear ho0))))
        go_loopg [10, 11] kj4 (fun kq v10 v11 w' => ∃ (x10_2 : List (S41)) (x11_2 : Int), v11 = .int .i64 x11_2 ∧ Aside0 (sennitlaw21_HunkCovers.l0 kq l0 a2 t327 t330 t333 x10_2 x11_2 = some r) ∧ Aside0 (kq ≤ kj4) ∧ Aside0 (Kd.N k38 38 w' w.heap.size (fun k_ => some k_ ≠ (v10 : Value).ownBlock) v331 t330) ∧ Aside0 (Kd.R k41 41 w' w.heap.size (fun _ => True) v10 x10_2) ∧ Aside0 (Below w.heap.size w w'))
        case atStart => exact ⟨(([] : List (S41))), (0), (by first | rfl | (simp; done) | (simp [*]; done)), H', ⟨Nat.le_refl _⟩, ⟨by (with_reducible repeat (first | apply Kd.N_alloc | apply Kd.N_drewN | apply Kd.N_drew)); exact Kd.N_mono HO332.out (fun _ hk => (by simp [Value.ownBlock]))⟩, ⟨by first | exact Kd.R_nil _ _ _ _ _ | exact Kd.N_nil _ _ _ _ _ | exact Kd.V_nil _ _ _ _ _ | exact Kd.Q_nil _ _ _ _ _ | exact Kd.S_nil _ _ _ _ _⟩, ⟨by repeat (first | (with_reducible first | exact HB.out | apply below_alloc | apply pw_below_drewN | apply below_drew1) | exact HB.out)⟩⟩
        case round =>
          clear H'
          try clear c1
          try clear p2
          try clear c5
          try clear p6
          try clear c8
          try clear c11
          try clear p2
          obtain ⟨x10_2, x11_2, rfl, HA, HK2, HO_8, HO_10, HB⟩ := hrel
          cases gk with
          | zero => exact absurd HA.out (by simp [sennitlaw21_HunkCovers.l0])
          | succ k2 =>
            have H := HA.out
            clear HA
            simp only [sennitlaw21_HunkCovers.l0] at H
            by_cases c14 : x11_2 < (t330.length : Int)
            · rw [if_pos c14] at H
              have c14b0 : decide (x11_2 < (t330.length : Int)) = true := decide_eq_true c14
              clear c14
              have H' := Aside0.mk H
              clear H
              obtain ⟨Ao15, co15, eo15⟩ := Kd.N_slice HO_8.out
              subst eo15
              go_wp2
              repeat (go_quiet (fail); try go_wp2)
              go_loopg [10, 12] k2 (fun kq v10 v12 w' => ∃ (x10_3 : List (S41)) (x12_3 : Int), v12 = .int .i64 x12_3 ∧ Aside0 (sennitlaw21_HunkCovers.l1 kq l0 a2 t327 t330 t333 x10_3 x11_2 x12_3 = some r) ∧ Aside0 (kq ≤ k2) ∧ Aside0 (Kd.N k38 38 w' w.heap.size (fun k_ => some k_ ≠ (v10 : Value).ownBlock) (.slice Ao15 t330.length co15) t330) ∧ Aside0 (Kd.R k41 41 w' w.heap.size (fun _ => True) v10 x10_3) ∧ Aside0 (Below w.heap.size w w'))
              case atStart => exact ⟨(x10_2), (0), (by first | rfl | (simp; done) | (simp [*]; done)), H', ⟨Nat.le_refl _⟩, ⟨by (with_reducible repeat (first | apply Kd.N_alloc | apply Kd.N_drewN | apply Kd.N_drew)); exact HO_8.out⟩, ⟨by (with_reducible repeat (first | apply Kd.R_alloc | apply Kd.R_drewN | apply Kd.R_drew)); exact HO_10.out⟩, ⟨by repeat (first | (with_reducible first | exact HB.out | apply below_alloc | apply pw_below_drewN | apply below_drew1) | exact HB.out)⟩⟩
              case round =>
                clear H'
                try clear c1
                try clear p2
                try clear c5
                try clear p6
                try clear c8
                try clear c11
                try clear c14
                try clear c14b0
                try clear p2
                try clear p6
                obtain ⟨x10_3, x12_3, rfl, HA, HK3, HO_8, HO_10, HB⟩ := hrel
                cases gk with
                | zero => exact absurd HA.out (by simp [sennitlaw21_HunkCovers.l1])
                | succ k3 =>
                  have H := HA.out
                  clear HA
                  simp only [sennitlaw21_HunkCovers.l1] at H
                  by_cases c16 : 0 ≤ x11_2
                  · rw [if_pos c16] at H
                    have c16b0 : decide (0 ≤ x11_2) = true := decide_eq_true c16
                    clear c16
                    by_cases c17 : x11_2 < (t330.length : Int)
                    · rw [if_pos c17] at H
                      have c17b0 : decide (x11_2 < (t330.length : Int)) = true := decide_eq_true c17
                      clear c17
                      by_cases c18 : x12_3 < (((rd_T38 t330 x11_2).f2).length : Int)
                      · rw [if_pos c18] at H
                        have c18b0 : decide (x12_3 < (((rd_T38 t330 x11_2).f2).length : Int)) = true := decide_eq_true c18
                        clear c18
                        by_cases c19 : 0 ≤ x12_3
                        · rw [if_pos c19] at H
                          have c19b0 : decide (0 ≤ x12_3) = true := decide_eq_true c19
                          clear c19
                          replace H := Option.bind_eq_some_iff.mp H
                          obtain ⟨t337, A200, H⟩ := H
                          replace H : (if t337 = true then (if x10_3.length < 4398046511104 then (sennitlaw21_HunkCovers.l1 k3 l0 a2 t327 t330 t333 (x10_3 ++ [(⟨(rd_T41 ((rd_T38 t330 x11_2).f2) x12_3).f0, (rd_T41 ((rd_T38 t330 x11_2).f2) x12_3).f1⟩ : S41)]) x11_2 (wrap64 (x12_3 + 1))) else (none)) else (sennitlaw21_HunkCovers.l1 k3 l0 a2 t327 t330 t333 x10_3 x11_2 (wrap64 (x12_3 + 1)))) = some r := H
                          have A20 := Aside0.mk A200
                          clear A200
                          by_cases c21 : t337 = true
                          · subst c21
                            have H1 : (if x10_3.length < 4398046511104 then (sennitlaw21_HunkCovers.l1 k3 l0 a2 t327 t330 t333 (x10_3 ++ [(⟨(rd_T41 ((rd_T38 t330 x11_2).f2) x12_3).f0, (rd_T41 ((rd_T38 t330 x11_2).f2) x12_3).f1⟩ : S41)]) x11_2 (wrap64 (x12_3 + 1))) else (none)) = some r := by rw [if_pos rfl] at H; exact H
                            clear H
                            have H := H1
                            clear H1
                            by_cases c22 : x10_3.length < 4398046511104
                            · rw [if_pos c22] at H
                              have LMc22 := Aside0.mk c22
                              clear c22
                              obtain ⟨y340, hy340⟩ : ∃ y_ : List (S41), y_ = (x10_3 ++ [(⟨(rd_T41 ((rd_T38 t330 x11_2).f2) x12_3).f0, (rd_T41 ((rd_T38 t330 x11_2).f2) x12_3).f1⟩ : S41)]) := ⟨_, rfl⟩
                              replace H : (sennitlaw21_HunkCovers.l1 k3 l0 a2 t327 t330 t333 y340 x11_2 (wrap64 (x12_3 + 1))) = some r := by first | (rw [hy340]; with_reducible exact H) | (have H2_ := (Option.bind_some _ _).symm.trans H; rw [hy340]; with_reducible exact H2_) | (have H2_ := (Option.bind_some _ _).symm.trans H; with_reducible exact H2_) | with_reducible exact H | (rw [hy340]; exact H) | exact H
                              have Ny340 := Aside0.mk hy340
                              clear hy340
                              have H' := Aside0.mk H
                              clear H
                              have p334 : 0 ≤ (x11_2 : Int) := of_decide_eq_true (by first | (with_reducible assumption) | assumption)
                              have q334 : x11_2 < (t330.length : Int) := of_decide_eq_true (by first | (with_reducible assumption) | assumption)
                              obtain ⟨ad334, A334_0, c334_0, A334_3, c334_3, e334, hx334_0, hx334_1, hx334_2, hx334_3, hl334_0, hi334_0, hl334_3, hi334_3⟩ := at_T38 (Kd.N_reads' HO_8.out).2.2 x11_2 p334 q334
                              cases e334
                              obtain ⟨ce334, hce334, hMe334, hcc334⟩ := Kd.N_get HO_8.out z38 x11_2 p334 (by first | exact q334 | exact of_decide_eq_true (by first | (with_reducible assumption) | assumption) | (have e_ := (Kd.N_reads' HO_8.out).1; omega))
                              obtain ⟨ua334_0, uc334_0, ua334_3, uc334_3, rfl, ul334_0, ge334_0, ul334_3, ge334_3⟩ := k38_openF hMe334
                              have hv334_0 := hcc334 0 _ rfl
                              rw [Nat.add_zero] at hv334_0
                              replace hv334_0 := Option.some.inj (hv334_0.symm.trans hx334_0)
                              injection hv334_0 with hva_ hvn_ hvc_
                              rw [hva_] at ge334_0
                              rw [hvc_] at ul334_0
                              have HL334_0 := Aside0.mk (show Kd.V k36 36 _ w.heap.size _ _ ((rd_T38 t330 x11_2).f0) from Kd.V_mk ul334_0 ge334_0)
                              clear hva_ hvn_ hvc_ ge334_0 ul334_0
                              have hv334_3 := hcc334 3 _ rfl
                              rw [add_field _ _ 3 (by omega)] at hv334_3
                              replace hv334_3 := Option.some.inj (hv334_3.symm.trans hx334_3)
                              injection hv334_3 with hva_ hvn_ hvc_
                              rw [hva_] at ge334_3
                              rw [hvc_] at ul334_3
                              have HL334_3 := Aside0.mk (show Kd.V k41 41 _ w.heap.size _ _ ((rd_T38 t330 x11_2).f2) from Kd.V_mk ul334_3 ge334_3)
                              clear hva_ hvn_ hvc_ ge334_3 ul334_3
                              clear hcc334 hce334
                              have HR334_0 := Aside0.mk hi334_0
                              have HC334_0 := Aside0.mk hl334_0
                              clear hi334_0 hl334_0
                              have HR334_3 := Aside0.mk hi334_3
                              have HC334_3 := Aside0.mk hl334_3
                              clear hi334_3 hl334_3
                              replace p334 := eq_true p334
                              replace q334 := eq_true q334
                              have p335 : 0 ≤ (x11_2 : Int) := of_decide_eq_true (by first | (with_reducible assumption) | assumption)
                              have q335 : x11_2 < (t330.length : Int) := of_decide_eq_true (by first | (with_reducible assumption) | assumption)
                              obtain ⟨ad335, A335_0, c335_0, A335_3, c335_3, e335, hx335_0, hx335_1, hx335_2, hx335_3, hl335_0, hi335_0, hl335_3, hi335_3⟩ := at_T38 (Kd.N_reads' HO_8.out).2.2 x11_2 p335 q335
                              obtain rfl : ad334 = ad335 := (by injection e335)
                              obtain ⟨ce335, hce335, hMe335, hcc335⟩ := Kd.N_get HO_8.out z38 x11_2 p335 (by first | exact q335 | exact of_decide_eq_true (by first | (with_reducible assumption) | assumption) | (have e_ := (Kd.N_reads' HO_8.out).1; omega))
                              obtain ⟨ua335_0, uc335_0, ua335_3, uc335_3, rfl, ul335_0, ge335_0, ul335_3, ge335_3⟩ := k38_openF hMe335
                              have hv335_0 := hcc335 0 _ rfl
                              rw [Nat.add_zero] at hv335_0
                              replace hv335_0 := Option.some.inj (hv335_0.symm.trans hx335_0)
                              injection hv335_0 with hva_ hvn_ hvc_
                              rw [hva_] at ge335_0
                              rw [hvc_] at ul335_0
                              have HL335_0 := Aside0.mk (show Kd.V k36 36 _ w.heap.size _ _ ((rd_T38 t330 x11_2).f0) from Kd.V_mk ul335_0 ge335_0)
                              clear hva_ hvn_ hvc_ ge335_0 ul335_0
                              have hv335_3 := hcc335 3 _ rfl
                              rw [add_field _ _ 3 (by omega)] at hv335_3
                              replace hv335_3 := Option.some.inj (hv335_3.symm.trans hx335_3)
                              injection hv335_3 with hva_ hvn_ hvc_
                              rw [hva_] at ge335_3
                              rw [hvc_] at ul335_3
                              have HL335_3 := Aside0.mk (show Kd.V k41 41 _ w.heap.size _ _ ((rd_T38 t330 x11_2).f2) from Kd.V_mk ul335_3 ge335_3)
                              clear hva_ hvn_ hvc_ ge335_3 ul335_3
                              clear hcc335 hce335
                              have HR335_0 := Aside0.mk hi335_0
                              have HC335_0 := Aside0.mk hl335_0
                              clear hi335_0 hl335_0
                              have HR335_3 := Aside0.mk hi335_3
                              have HC335_3 := Aside0.mk hl335_3
                              clear hi335_3 hl335_3
                              replace p335 := eq_true p335
                              replace q335 := eq_true q335
                              have ea_ := Option.some.inj (hx334_0.symm.trans hx335_0)
                              injection ea_ with ea_ en_ ec_
                              subst ea_
                              subst ec_
                              clear en_
                              have ea_ := Option.some.inj (hx334_3.symm.trans hx335_3)
                              injection ea_ with ea_ en_ ec_
                              subst ea_
                              subst ec_
                              clear en_
                              have p336 : 0 ≤ (x12_3 : Int) := of_decide_eq_true (by first | (with_reducible assumption) | assumption)
                              have q336 : x12_3 < (((rd_T38 t330 x11_2).f2).length : Int) := of_decide_eq_true (by first | (with_reducible assumption) | assumption)
                              obtain ⟨ad336, e336, hx336_0, hx336_1⟩ := at_T41 (by repeat (first | (with_reducible exact HR335_3.out) | (with_reducible refine Kd.C_alloc ?_ _) | (with_reducible refine Kd.C_drewN ?_ _) | (with_reducible refine Kd.C_drew ?_) | exact HR335_3.out)) x12_3 p336 q336
                              cases e336
                              replace p336 := eq_true p336
                              replace q336 := eq_true q336
                              go_wp2_with (first | (go_at_call 20; (with_reducible refine (sennitref21_Marked.calls k3 ((rd_T41 ((rd_T38 t330 x11_2).f2) x12_3).f0) ((rd_T41 ((rd_T38 t330 x11_2).f2) x12_3).f1) true _ A20.out).mono ?_); rintro e w23 ⟨rfl, hb⟩; have n0_ := Aside0.mk (Kd.N_below (by (with_reducible repeat (first | apply Kd.N_alloc | apply Kd.N_drewN | apply Kd.N_drew)); exact HO_8.out) hb); have n1_ := Aside0.mk (Kd.R_below (by (with_reducible repeat (first | apply Kd.R_alloc | apply Kd.R_drewN | apply Kd.R_drew)); exact HO_10.out) hb); have n2_ := Aside0.mk (Kd.V_below (by (with_reducible repeat (first | apply Kd.V_alloc | apply Kd.V_drewN | apply Kd.V_drew)); exact HL334_0.out) hb); have n3_ := Aside0.mk (Kd.V_below (by (with_reducible repeat (first | apply Kd.V_alloc | apply Kd.V_drewN | apply Kd.V_drew)); exact HL334_3.out) hb); have n4_ := Aside0.mk (Kd.V_below (by (with_reducible repeat (first | apply Kd.V_alloc | apply Kd.V_drewN | apply Kd.V_drew)); exact HL335_0.out) hb); have n5_ := Aside0.mk (Kd.V_below (by (with_reducible repeat (first | apply Kd.V_alloc | apply Kd.V_drewN | apply Kd.V_drew)); exact HL335_3.out) hb); have n6_ := Aside0.mk (Kd.C_below (by repeat (first | (with_reducible exact HR334_0.out) | (with_reducible refine Kd.C_alloc ?_ _) | (with_reducible refine Kd.C_drewN ?_ _) | (with_reducible refine Kd.C_drew ?_) | exact HR334_0.out)) hb); have n7_ := Aside0.mk (Kd.C_below (by repeat (first | (with_reducible exact HR334_3.out) | (with_reducible refine Kd.C_alloc ?_ _) | (with_reducible refine Kd.C_drewN ?_ _) | (with_reducible refine Kd.C_drew ?_) | exact HR334_3.out)) hb); have n8_ := Aside0.mk (Kd.C_below (by repeat (first | (with_reducible exact HR335_0.out) | (with_reducible refine Kd.C_alloc ?_ _) | (with_reducible refine Kd.C_drewN ?_ _) | (with_reducible refine Kd.C_drew ?_) | exact HR335_0.out)) hb); have n9_ := Aside0.mk (Kd.C_below (by repeat (first | (with_reducible exact HR335_3.out) | (with_reducible refine Kd.C_alloc ?_ _) | (with_reducible refine Kd.C_drewN ?_ _) | (with_reducible refine Kd.C_drew ?_) | exact HR335_3.out)) hb); have n10_ := Aside0.mk (below_step (by repeat (first | (with_reducible first | exact HB.out | apply below_alloc | apply pw_below_drewN | apply below_drew1) | exact HB.out)) hb); clear HO_8; clear HO_10; clear HL334_0; clear HL334_3; clear HL335_0; clear HL335_3; clear HR334_0; clear HR334_3; clear HR335_0; clear HR335_3; clear HB; have HO_8 := n0_; have HO_10 := n1_; have HL334_0 := n2_; have HL334_3 := n3_; have HL335_0 := n4_; have HL335_3 := n5_; have HR334_0 := n6_; have HR334_3 := n7_; have HR335_0 := n8_; have HR335_3 := n9_; have HB := n10_; clear n0_ n1_ n2_ n3_ n4_ n5_ n6_ n7_ n8_ n9_ n10_; (try clear hb); (try clear hb2); (try clear hk); (try clear hi); have p338 : 0 ≤ (x11_2 : Int) := of_decide_eq_true (by first | (with_reducible assumption) | assumption); have q338 : x11_2 < (t330.length : Int) := of_decide_eq_true (by first | (with_reducible assumption) | assumption); obtain ⟨ad338, A338_0, c338_0, A338_3, c338_3, e338, hx338_0, hx338_1, hx338_2, hx338_3, hl338_0, hi338_0, hl338_3, hi338_3⟩ := at_T38 (Kd.N_reads' HO_8.out).2.2 x11_2 p338 q338; obtain rfl : ad334 = ad338 := (by injection e338); obtain ⟨ce338, hce338, hMe338, hcc338⟩ := Kd.N_get HO_8.out z38 x11_2 p338 (by first | exact q338 | exact of_decide_eq_true (by first | (with_reducible assumption) | assumption) | (have e_ := (Kd.N_reads' HO_8.out).1; omega)); obtain ⟨ua338_0, uc338_0, ua338_3, uc338_3, rfl, ul338_0, ge338_0, ul338_3, ge338_3⟩ := k38_openF hMe338; have hv338_0 := hcc338 0 _ rfl; rw [Nat.add_zero] at hv338_0; replace hv338_0 := Option.some.inj (hv338_0.symm.trans hx338_0); injection hv338_0 with hva_ hvn_ hvc_; rw [hva_] at ge338_0; rw [hvc_] at ul338_0; have HL338_0 := Aside0.mk (show Kd.V k36 36 _ w.heap.size _ _ ((rd_T38 t330 x11_2).f0) from Kd.V_mk ul338_0 ge338_0); clear hva_ hvn_ hvc_ ge338_0 ul338_0; have hv338_3 := hcc338 3 _ rfl; rw [add_field _ _ 3 (by omega)] at hv338_3; replace hv338_3 := Option.some.inj (hv338_3.symm.trans hx338_3); injection hv338_3 with hva_ hvn_ hvc_; rw [hva_] at ge338_3; rw [hvc_] at ul338_3; have HL338_3 := Aside0.mk (show Kd.V k41 41 _ w.heap.size _ _ ((rd_T38 t330 x11_2).f2) from Kd.V_mk ul338_3 ge338_3); clear hva_ hvn_ hvc_ ge338_3 ul338_3; clear hcc338 hce338; have HR338_0 := Aside0.mk hi338_0; have HC338_0 := Aside0.mk hl338_0; clear hi338_0 hl338_0; have HR338_3 := Aside0.mk hi338_3; have HC338_3 := Aside0.mk hl338_3; clear hi338_3 hl338_3; replace p338 := eq_true p338; replace q338 := eq_true q338; have p339 : 0 ≤ (x12_3 : Int) := of_decide_eq_true (by first | (with_reducible assumption) | assumption); have q339 : x12_3 < (((rd_T38 t330 x11_2).f2).length : Int) := of_decide_eq_true (by first | (with_reducible assumption) | assumption); obtain ⟨ad339, e339, hx339_0, hx339_1⟩ := at_T41 (by repeat (first | (with_reducible exact HR338_3.out) | (with_reducible refine Kd.C_alloc ?_ _) | (with_reducible refine Kd.C_drewN ?_ _) | (with_reducible refine Kd.C_drew ?_) | exact HR338_3.out)) x12_3 p339 q339; cases e339; replace p339 := eq_true p339; replace q339 := eq_true q339) | ((with_reducible refine gate_builtin (b := .append) (xs := #[.tmp 60, .tmp 69]) rfl ?_); at_builtin; refine Kd.R_append k41 (w0 := w) w.heap.size rfl (.tmp 60) (.tmp 69) 22 41 (.agg #[(.string ⟨#[]⟩), (.string ⟨#[]⟩)]) 32 rfl Tryd.underlying22 info41 rfl (by decide) (by omega) u10 x10_3 (⟨(rd_T41 ((rd_T38 t330 x11_2).f2) x12_3).f0, (rd_T41 ((rd_T38 t330 x11_2).f2) x12_3).f1⟩ : S41) [.string ((rd_T41 ((rd_T38 t330 x11_2).f2) x12_3).f0), .string ((rd_T41 ((rd_T38 t330 x11_2).f2) x12_3).f1)] (fun _ => True) (fun _ => False) rfl rfl ?aP (fun _ hk => hk.elim) ?aF ?aO ?aB ?aS ?aL ?_; (case aP => exact k41_mkM _ _ _ (⟨(rd_T41 ((rd_T38 t330 x11_2).f2) x12_3).f0, (rd_T41 ((rd_T38 t330 x11_2).f2) x12_3).f1⟩ : S41)); (case aB => exact (by repeat (first | (with_reducible first | exact HB.out | apply below_alloc | apply pw_below_drewN | apply below_drew1) | exact HB.out))); (case aF => exact (fun _ _ => trivial)); (case aO => exact (by (with_reducible repeat (first | apply Kd.R_alloc | apply Kd.R_drewN | apply Kd.R_drew)); exact HO_10.out)); (case aS => exact (below_size (by repeat (first | (with_reducible first | exact HB.out | apply below_alloc | apply pw_below_drewN | apply below_drew1) | exact HB.out)))); (case aL => have := LMc22.out; omega); intro v341 w24 ho hb hg hat; rw [← Ny340.out] at ho; have n0_ := Aside0.mk (Kd.N_afterv (ok := (fun _ => True)) (by (with_reducible repeat (first | apply Kd.N_alloc | apply Kd.N_drewN | apply Kd.N_drew)); exact Kd.N_mono HO_8.out (fun _ hk => ⟨trivial, hk⟩)) hg hat); have n1_ := Aside0.mk (Kd.V_afterv (ok := (fun k_ => some k_ ≠ (.slice (some ad334) t330.length co15 : Value).ownBlock)) (by (with_reducible repeat (first | apply Kd.V_alloc | apply Kd.V_drewN | apply Kd.V_drew)); exact Kd.V_mono HL334_0.out (fun _ hk => ⟨hk.2, hk.1⟩)) hg hat); have n2_ := Aside0.mk (Kd.V_afterv (ok := (fun k_ => some k_ ≠ (.slice (some ad334) t330.length co15 : Value).ownBlock)) (by (with_reducible repeat (first | apply Kd.V_alloc | apply Kd.V_drewN | apply Kd.V_drew)); exact Kd.V_mono HL334_3.out (fun _ hk => ⟨hk.2, hk.1⟩)) hg hat); have n3_ := Aside0.mk (Kd.V_afterv (ok := (fun k_ => some k_ ≠ (.slice (some ad334) t330.length co15 : Value).ownBlock)) (by (with_reducible repeat (first | apply Kd.V_alloc | apply Kd.V_drewN | apply Kd.V_drew)); exact Kd.V_mono HL335_0.out (fun _ hk => ⟨hk.2, hk.1⟩)) hg hat); have n4_ := Aside0.mk (Kd.V_afterv (ok := (fun k_ => some k_ ≠ (.slice (some ad334) t330.length co15 : Value).ownBlock)) (by (with_reducible repeat (first | apply Kd.V_alloc | apply Kd.V_drewN | apply Kd.V_drew)); exact Kd.V_mono HL335_3.out (fun _ hk => ⟨hk.2, hk.1⟩)) hg hat); have n5_ := Aside0.mk (Kd.V_afterv (ok := (fun k_ => some k_ ≠ (.slice (some ad334) t330.length co15 : Value).ownBlock)) (by (with_reducible repeat (first | apply Kd.V_alloc | apply Kd.V_drewN | apply Kd.V_drew)); exact Kd.V_mono HL338_0.out (fun _ hk => ⟨hk.2, hk.1⟩)) hg hat); have n6_ := Aside0.mk (Kd.V_afterv (ok := (fun k_ => some k_ ≠ (.slice (some ad334) t330.length co15 : Value).ownBlock)) (by (with_reducible repeat (first | apply Kd.V_alloc | apply Kd.V_drewN | apply Kd.V_drew)); exact Kd.V_mono HL338_3.out (fun _ hk => ⟨hk.2, hk.1⟩)) hg hat); have n7_ := Aside0.mk (hb); have n8_ := Aside0.mk (ho); clear HO_8; clear HL334_0; clear HL334_3; clear HL335_0; clear HL335_3; clear HL338_0; clear HL338_3; clear HB; clear HO_10; have HO_8 := n0_; have HL334_0 := n1_; have HL334_3 := n2_; have HL335_0 := n3_; have HL335_3 := n4_; have HL338_0 := n5_; have HL338_3 := n6_; have HB := n7_; have HO342 := n8_; clear n0_ n1_ n2_ n3_ n4_ n5_ n6_ n7_ n8_; clear ho hb hg hat))
                              repeat (go_quiet (first | (go_at_call 20; (with_reducible refine (sennitref21_Marked.calls k3 ((rd_T41 ((rd_T38 t330 x11_2).f2) x12_3).f0) ((rd_T41 ((rd_T38 t330 x11_2).f2) x12_3).f1) true _ A20.out).mono ?_); rintro e w23 ⟨rfl, hb⟩; have n0_ := Aside0.mk (Kd.N_below (by (with_reducible repeat (first | apply Kd.N_alloc | apply Kd.N_drewN | apply Kd.N_drew)); exact HO_8.out) hb); have n1_ := Aside0.mk (Kd.R_below (by (with_reducible repeat (first | apply Kd.R_alloc | apply Kd.R_drewN | apply Kd.R_drew)); exact HO_10.out) hb); have n2_ := Aside0.mk (Kd.V_below (by (with_reducible repeat (first | apply Kd.V_alloc | apply Kd.V_drewN | apply Kd.V_drew)); exact HL334_0.out) hb); have n3_ := Aside0.mk (Kd.V_below (by (with_reducible repeat (first | apply Kd.V_alloc | apply Kd.V_drewN | apply Kd.V_drew)); exact HL334_3.out) hb); have n4_ := Aside0.mk (Kd.V_below (by (with_reducible repeat (first | apply Kd.V_alloc | apply Kd.V_drewN | apply Kd.V_drew)); exact HL335_0.out) hb); have n5_ := Aside0.mk (Kd.V_below (by (with_reducible repeat (first | apply Kd.V_alloc | apply Kd.V_drewN | apply Kd.V_drew)); exact HL335_3.out) hb); have n6_ := Aside0.mk (Kd.C_below (by repeat (first | (with_reducible exact HR334_0.out) | (with_reducible refine Kd.C_alloc ?_ _) | (with_reducible refine Kd.C_drewN ?_ _) | (with_reducible refine Kd.C_drew ?_) | exact HR334_0.out)) hb); have n7_ := Aside0.mk (Kd.C_below (by repeat (first | (with_reducible exact HR334_3.out) | (with_reducible refine Kd.C_alloc ?_ _) | (with_reducible refine Kd.C_drewN ?_ _) | (with_reducible refine Kd.C_drew ?_) | exact HR334_3.out)) hb); have n8_ := Aside0.mk (Kd.C_below (by repeat (first | (with_reducible exact HR335_0.out) | (with_reducible refine Kd.C_alloc ?_ _) | (with_reducible refine Kd.C_drewN ?_ _) | (with_reducible refine Kd.C_drew ?_) | exact HR335_0.out)) hb); have n9_ := Aside0.mk (Kd.C_below (by repeat (first | (with_reducible exact HR335_3.out) | (with_reducible refine Kd.C_alloc ?_ _) | (with_reducible refine Kd.C_drewN ?_ _) | (with_reducible refine Kd.C_drew ?_) | exact HR335_3.out)) hb); have n10_ := Aside0.mk (below_step (by repeat (first | (with_reducible first | exact HB.out | apply below_alloc | apply pw_below_drewN | apply below_drew1) | exact HB.out)) hb); clear HO_8; clear HO_10; clear HL334_0; clear HL334_3; clear HL335_0; clear HL335_3; clear HR334_0; clear HR334_3; clear HR335_0; clear HR335_3; clear HB; have HO_8 := n0_; have HO_10 := n1_; have HL334_0 := n2_; have HL334_3 := n3_; have HL335_0 := n4_; have HL335_3 := n5_; have HR334_0 := n6_; have HR334_3 := n7_; have HR335_0 := n8_; have HR335_3 := n9_; have HB := n10_; clear n0_ n1_ n2_ n3_ n4_ n5_ n6_ n7_ n8_ n9_ n10_; (try clear hb); (try clear hb2); (try clear hk); (try clear hi); have p338 : 0 ≤ (x11_2 : Int) := of_decide_eq_true (by first | (with_reducible assumption) | assumption); have q338 : x11_2 < (t330.length : Int) := of_decide_eq_true (by first | (with_reducible assumption) | assumption); obtain ⟨ad338, A338_0, c338_0, A338_3, c338_3, e338, hx338_0, hx338_1, hx338_2, hx338_3, hl338_0, hi338_0, hl338_3, hi338_3⟩ := at_T38 (Kd.N_reads' HO_8.out).2.2 x11_2 p338 q338; obtain rfl : ad334 = ad338 := (by injection e338); obtain ⟨ce338, hce338, hMe338, hcc338⟩ := Kd.N_get HO_8.out z38 x11_2 p338 (by first | exact q338 | exact of_decide_eq_true (by first | (with_reducible assumption) | assumption) | (have e_ := (Kd.N_reads' HO_8.out).1; omega)); obtain ⟨ua338_0, uc338_0, ua338_3, uc338_3, rfl, ul338_0, ge338_0, ul338_3, ge338_3⟩ := k38_openF hMe338; have hv338_0 := hcc338 0 _ rfl; rw [Nat.add_zero] at hv338_0; replace hv338_0 := Option.some.inj (hv338_0.symm.trans hx338_0); injection hv338_0 with hva_ hvn_ hvc_; rw [hva_] at ge338_0; rw [hvc_] at ul338_0; have HL338_0 := Aside0.mk (show Kd.V k36 36 _ w.heap.size _ _ ((rd_T38 t330 x11_2).f0) from Kd.V_mk ul338_0 ge338_0); clear hva_ hvn_ hvc_ ge338_0 ul338_0; have hv338_3 := hcc338 3 _ rfl; rw [add_field _ _ 3 (by omega)] at hv338_3; replace hv338_3 := Option.some.inj (hv338_3.symm.trans hx338_3); injection hv338_3 with hva_ hvn_ hvc_; rw [hva_] at ge338_3; rw [hvc_] at ul338_3; have HL338_3 := Aside0.mk (show Kd.V k41 41 _ w.heap.size _ _ ((rd_T38 t330 x11_2).f2) from Kd.V_mk ul338_3 ge338_3); clear hva_ hvn_ hvc_ ge338_3 ul338_3; clear hcc338 hce338; have HR338_0 := Aside0.mk hi338_0; have HC338_0 := Aside0.mk hl338_0; clear hi338_0 hl338_0; have HR338_3 := Aside0.mk hi338_3; have HC338_3 := Aside0.mk hl338_3; clear hi338_3 hl338_3; replace p338 := eq_true p338; replace q338 := eq_true q338; have p339 : 0 ≤ (x12_3 : Int) := of_decide_eq_true (by first | (with_reducible assumption) | assumption); have q339 : x12_3 < (((rd_T38 t330 x11_2).f2).length : Int) := of_decide_eq_true (by first | (with_reducible assumption) | assumption); obtain ⟨ad339, e339, hx339_0, hx339_1⟩ := at_T41 (by repeat (first | (with_reducible exact HR338_3.out) | (with_reducible refine Kd.C_alloc ?_ _) | (with_reducible refine Kd.C_drewN ?_ _) | (with_reducible refine Kd.C_drew ?_) | exact HR338_3.out)) x12_3 p339 q339; cases e339; replace p339 := eq_true p339; replace q339 := eq_true q339) | ((with_reducible refine gate_builtin (b := .append) (xs := #[.tmp 60, .tmp 69]) rfl ?_); at_builtin; refine Kd.R_append k41 (w0 := w) w.heap.size rfl (.tmp 60) (.tmp 69) 22 41 (.agg #[(.string ⟨#[]⟩), (.string ⟨#[]⟩)]) 32 rfl Tryd.underlying22 info41 rfl (by decide) (by omega) u10 x10_3 (⟨(rd_T41 ((rd_T38 t330 x11_2).f2) x12_3).f0, (rd_T41 ((rd_T38 t330 x11_2).f2) x12_3).f1⟩ : S41) [.string ((rd_T41 ((rd_T38 t330 x11_2).f2) x12_3).f0), .string ((rd_T41 ((rd_T38 t330 x11_2).f2) x12_3).f1)] (fun _ => True) (fun _ => False) rfl rfl ?aP (fun _ hk => hk.elim) ?aF ?aO ?aB ?aS ?aL ?_; (case aP => exact k41_mkM _ _ _ (⟨(rd_T41 ((rd_T38 t330 x11_2).f2) x12_3).f0, (rd_T41 ((rd_T38 t330 x11_2).f2) x12_3).f1⟩ : S41)); (case aB => exact (by repeat (first | (with_reducible first | exact HB.out | apply below_alloc | apply pw_below_drewN | apply below_drew1) | exact HB.out))); (case aF => exact (fun _ _ => trivial)); (case aO => exact (by (with_reducible repeat (first | apply Kd.R_alloc | apply Kd.R_drewN | apply Kd.R_drew)); exact HO_10.out)); (case aS => exact (below_size (by repeat (first | (with_reducible first | exact HB.out | apply below_alloc | apply pw_below_drewN | apply below_drew1) | exact HB.out)))); (case aL => have := LMc22.out; omega); intro v341 w24 ho hb hg hat; rw [← Ny340.out] at ho; have n0_ := Aside0.mk (Kd.N_afterv (ok := (fun _ => True)) (by (with_reducible repeat (first | apply Kd.N_alloc | apply Kd.N_drewN | apply Kd.N_drew)); exact Kd.N_mono HO_8.out (fun _ hk => ⟨trivial, hk⟩)) hg hat); have n1_ := Aside0.mk (Kd.V_afterv (ok := (fun k_ => some k_ ≠ (.slice (some ad334) t330.length co15 : Value).ownBlock)) (by (with_reducible repeat (first | apply Kd.V_alloc | apply Kd.V_drewN | apply Kd.V_drew)); exact Kd.V_mono HL334_0.out (fun _ hk => ⟨hk.2, hk.1⟩)) hg hat); have n2_ := Aside0.mk (Kd.V_afterv (ok := (fun k_ => some k_ ≠ (.slice (some ad334) t330.length co15 : Value).ownBlock)) (by (with_reducible repeat (first | apply Kd.V_alloc | apply Kd.V_drewN | apply Kd.V_drew)); exact Kd.V_mono HL334_3.out (fun _ hk => ⟨hk.2, hk.1⟩)) hg hat); have n3_ := Aside0.mk (Kd.V_afterv (ok := (fun k_ => some k_ ≠ (.slice (some ad334) t330.length co15 : Value).ownBlock)) (by (with_reducible repeat (first | apply Kd.V_alloc | apply Kd.V_drewN | apply Kd.V_drew)); exact Kd.V_mono HL335_0.out (fun _ hk => ⟨hk.2, hk.1⟩)) hg hat); have n4_ := Aside0.mk (Kd.V_afterv (ok := (fun k_ => some k_ ≠ (.slice (some ad334) t330.length co15 : Value).ownBlock)) (by (with_reducible repeat (first | apply Kd.V_alloc | apply Kd.V_drewN | apply Kd.V_drew)); exact Kd.V_mono HL335_3.out (fun _ hk => ⟨hk.2, hk.1⟩)) hg hat); have n5_ := Aside0.mk (Kd.V_afterv (ok := (fun k_ => some k_ ≠ (.slice (some ad334) t330.length co15 : Value).ownBlock)) (by (with_reducible repeat (first | apply Kd.V_alloc | apply Kd.V_drewN | apply Kd.V_drew)); exact Kd.V_mono HL338_0.out (fun _ hk => ⟨hk.2, hk.1⟩)) hg hat); have n6_ := Aside0.mk (Kd.V_afterv (ok := (fun k_ => some k_ ≠ (.slice (some ad334) t330.length co15 : Value).ownBlock)) (by (with_reducible repeat (first | apply Kd.V_alloc | apply Kd.V_drewN | apply Kd.V_drew)); exact Kd.V_mono HL338_3.out (fun _ hk => ⟨hk.2, hk.1⟩)) hg hat); have n7_ := Aside0.mk (hb); have n8_ := Aside0.mk (ho); clear HO_8; clear HL334_0; clear HL334_3; clear HL335_0; clear HL335_3; clear HL338_0; clear HL338_3; clear HB; clear HO_10; have HO_8 := n0_; have HL334_0 := n1_; have HL334_3 := n2_; have HL335_0 := n3_; have HL335_3 := n4_; have HL338_0 := n5_; have HL338_3 := n6_; have HB := n7_; have HO342 := n8_; clear n0_ n1_ n2_ n3_ n4_ n5_ n6_ n7_ n8_; clear ho hb hg hat)); try go_wp2_with (first | (go_at_call 20; (with_reducible refine (sennitref21_Marked.calls k3 ((rd_T41 ((rd_T38 t330 x11_2).f2) x12_3).f0) ((rd_T41 ((rd_T38 t330 x11_2).f2) x12_3).f1) true _ A20.out).mono ?_); rintro e w23 ⟨rfl, hb⟩; have n0_ := Aside0.mk (Kd.N_below (by (with_reducible repeat (first | apply Kd.N_alloc | apply Kd.N_drewN | apply Kd.N_drew)); exact HO_8.out) hb); have n1_ := Aside0.mk (Kd.R_below (by (with_reducible repeat (first | apply Kd.R_alloc | apply Kd.R_drewN | apply Kd.R_drew)); exact HO_10.out) hb); have n2_ := Aside0.mk (Kd.V_below (by (with_reducible repeat (first | apply Kd.V_alloc | apply Kd.V_drewN | apply Kd.V_drew)); exact HL334_0.out) hb); have n3_ := Aside0.mk (Kd.V_below (by (with_reducible repeat (first | apply Kd.V_alloc | apply Kd.V_drewN | apply Kd.V_drew)); exact HL334_3.out) hb); have n4_ := Aside0.mk (Kd.V_below (by (with_reducible repeat (first | apply Kd.V_alloc | apply Kd.V_drewN | apply Kd.V_drew)); exact HL335_0.out) hb); have n5_ := Aside0.mk (Kd.V_below (by (with_reducible repeat (first | apply Kd.V_alloc | apply Kd.V_drewN | apply Kd.V_drew)); exact HL335_3.out) hb); have n6_ := Aside0.mk (Kd.C_below (by repeat (first | (with_reducible exact HR334_0.out) | (with_reducible refine Kd.C_alloc ?_ _) | (with_reducible refine Kd.C_drewN ?_ _) | (with_reducible refine Kd.C_drew ?_) | exact HR334_0.out)) hb); have n7_ := Aside0.mk (Kd.C_below (by repeat (first | (with_reducible exact HR334_3.out) | (with_reducible refine Kd.C_alloc ?_ _) | (with_reducible refine Kd.C_drewN ?_ _) | (with_reducible refine Kd.C_drew ?_) | exact HR334_3.out)) hb); have n8_ := Aside0.mk (Kd.C_below (by repeat (first | (with_reducible exact HR335_0.out) | (with_reducible refine Kd.C_alloc ?_ _) | (with_reducible refine Kd.C_drewN ?_ _) | (with_reducible refine Kd.C_drew ?_) | exact HR335_0.out)) hb); have n9_ := Aside0.mk (Kd.C_below (by repeat (first | (with_reducible exact HR335_3.out) | (with_reducible refine Kd.C_alloc ?_ _) | (with_reducible refine Kd.C_drewN ?_ _) | (with_reducible refine Kd.C_drew ?_) | exact HR335_3.out)) hb); have n10_ := Aside0.mk (below_step (by repeat (first | (with_reducible first | exact HB.out | apply below_alloc | apply pw_below_drewN | apply below_drew1) | exact HB.out)) hb); clear HO_8; clear HO_10; clear HL334_0; clear HL334_3; clear HL335_0; clear HL335_3; clear HR334_0; clear HR334_3; clear HR335_0; clear HR335_3; clear HB; have HO_8 := n0_; have HO_10 := n1_; have HL334_0 := n2_; have HL334_3 := n3_; have HL335_0 := n4_; have HL335_3 := n5_; have HR334_0 := n6_; have HR334_3 := n7_; have HR335_0 := n8_; have HR335_3 := n9_; have HB := n10_; clear n0_ n1_ n2_ n3_ n4_ n5_ n6_ n7_ n8_ n9_ n10_; (try clear hb); (try clear hb2); (try clear hk); (try clear hi); have p338 : 0 ≤ (x11_2 : Int) := of_decide_eq_true (by first | (with_reducible assumption) | assumption); have q338 : x11_2 < (t330.length : Int) := of_decide_eq_true (by first | (with_reducible assumption) | assumption); obtain ⟨ad338, A338_0, c338_0, A338_3, c338_3, e338, hx338_0, hx338_1, hx338_2, hx338_3, hl338_0, hi338_0, hl338_3, hi338_3⟩ := at_T38 (Kd.N_reads' HO_8.out).2.2 x11_2 p338 q338; obtain rfl : ad334 = ad338 := (by injection e338); obtain ⟨ce338, hce338, hMe338, hcc338⟩ := Kd.N_get HO_8.out z38 x11_2 p338 (by first | exact q338 | exact of_decide_eq_true (by first | (with_reducible assumption) | assumption) | (have e_ := (Kd.N_reads' HO_8.out).1; omega)); obtain ⟨ua338_0, uc338_0, ua338_3, uc338_3, rfl, ul338_0, ge338_0, ul338_3, ge338_3⟩ := k38_openF hMe338; have hv338_0 := hcc338 0 _ rfl; rw [Nat.add_zero] at hv338_0; replace hv338_0 := Option.some.inj (hv338_0.symm.trans hx338_0); injection hv338_0 with hva_ hvn_ hvc_; rw [hva_] at ge338_0; rw [hvc_] at ul338_0; have HL338_0 := Aside0.mk (show Kd.V k36 36 _ w.heap.size _ _ ((rd_T38 t330 x11_2).f0) from Kd.V_mk ul338_0 ge338_0); clear hva_ hvn_ hvc_ ge338_0 ul338_0; have hv338_3 := hcc338 3 _ rfl; rw [add_field _ _ 3 (by omega)] at hv338_3; replace hv338_3 := Option.some.inj (hv338_3.symm.trans hx338_3); injection hv338_3 with hva_ hvn_ hvc_; rw [hva_] at ge338_3; rw [hvc_] at ul338_3; have HL338_3 := Aside0.mk (show Kd.V k41 41 _ w.heap.size _ _ ((rd_T38 t330 x11_2).f2) from Kd.V_mk ul338_3 ge338_3); clear hva_ hvn_ hvc_ ge338_3 ul338_3; clear hcc338 hce338; have HR338_0 := Aside0.mk hi338_0; have HC338_0 := Aside0.mk hl338_0; clear hi338_0 hl338_0; have HR338_3 := Aside0.mk hi338_3; have HC338_3 := Aside0.mk hl338_3; clear hi338_3 hl338_3; replace p338 := eq_true p338; replace q338 := eq_true q338; have p339 : 0 ≤ (x12_3 : Int) := of_decide_eq_true (by first | (with_reducible assumption) | assumption); have q339 : x12_3 < (((rd_T38 t330 x11_2).f2).length : Int) := of_decide_eq_true (by first | (with_reducible assumption) | assumption); obtain ⟨ad339, e339, hx339_0, hx339_1⟩ := at_T41 (by repeat (first | (with_reducible exact HR338_3.out) | (with_reducible refine Kd.C_alloc ?_ _) | (with_reducible refine Kd.C_drewN ?_ _) | (with_reducible refine Kd.C_drew ?_) | exact HR338_3.out)) x12_3 p339 q339; cases e339; replace p339 := eq_true p339; replace q339 := eq_true q339) | ((with_reducible refine gate_builtin (b := .append) (xs := #[.tmp 60, .tmp 69]) rfl ?_); at_builtin; refine Kd.R_append k41 (w0 := w) w.heap.size rfl (.tmp 60) (.tmp 69) 22 41 (.agg #[(.string ⟨#[]⟩), (.string ⟨#[]⟩)]) 32 rfl Tryd.underlying22 info41 rfl (by decide) (by omega) u10 x10_3 (⟨(rd_T41 ((rd_T38 t330 x11_2).f2) x12_3).f0, (rd_T41 ((rd_T38 t330 x11_2).f2) x12_3).f1⟩ : S41) [.string ((rd_T41 ((rd_T38 t330 x11_2).f2) x12_3).f0), .string ((rd_T41 ((rd_T38 t330 x11_2).f2) x12_3).f1)] (fun _ => True) (fun _ => False) rfl rfl ?aP (fun _ hk => hk.elim) ?aF ?aO ?aB ?aS ?aL ?_; (case aP => exact k41_mkM _ _ _ (⟨(rd_T41 ((rd_T38 t330 x11_2).f2) x12_3).f0, (rd_T41 ((rd_T38 t330 x11_2).f2) x12_3).f1⟩ : S41)); (case aB => exact (by repeat (first | (with_reducible first | exact HB.out | apply below_alloc | apply pw_below_drewN | apply below_drew1) | exact HB.out))); (case aF => exact (fun _ _ => trivial)); (case aO => exact (by (with_reducible repeat (first | apply Kd.R_alloc | apply Kd.R_drewN | apply Kd.R_drew)); exact HO_10.out)); (case aS => exact (below_size (by repeat (first | (with_reducible first | exact HB.out | apply below_alloc | apply pw_below_drewN | apply below_drew1) | exact HB.out)))); (case aL => have := LMc22.out; omega); intro v341 w24 ho hb hg hat; rw [← Ny340.out] at ho; have n0_ := Aside0.mk (Kd.N_afterv (ok := (fun _ => True)) (by (with_reducible repeat (first | apply Kd.N_alloc | apply Kd.N_drewN | apply Kd.N_drew)); exact Kd.N_mono HO_8.out (fun _ hk => ⟨trivial, hk⟩)) hg hat); have n1_ := Aside0.mk (Kd.V_afterv (ok := (fun k_ => some k_ ≠ (.slice (some ad334) t330.length co15 : Value).ownBlock)) (by (with_reducible repeat (first | apply Kd.V_alloc | apply Kd.V_drewN | apply Kd.V_drew)); exact Kd.V_mono HL334_0.out (fun _ hk => ⟨hk.2, hk.1⟩)) hg hat); have n2_ := Aside0.mk (Kd.V_afterv (ok := (fun k_ => some k_ ≠ (.slice (some ad334) t330.length co15 : Value).ownBlock)) (by (with_reducible repeat (first | apply Kd.V_alloc | apply Kd.V_drewN | apply Kd.V_drew)); exact Kd.V_mono HL334_3.out (fun _ hk => ⟨hk.2, hk.1⟩)) hg hat); have n3_ := Aside0.mk (Kd.V_afterv (ok := (fun k_ => some k_ ≠ (.slice (some ad334) t330.length co15 : Value).ownBlock)) (by (with_reducible repeat (first | apply Kd.V_alloc | apply Kd.V_drewN | apply Kd.V_drew)); exact Kd.V_mono HL335_0.out (fun _ hk => ⟨hk.2, hk.1⟩)) hg hat); have n4_ := Aside0.mk (Kd.V_afterv (ok := (fun k_ => some k_ ≠ (.slice (some ad334) t330.length co15 : Value).ownBlock)) (by (with_reducible repeat (first | apply Kd.V_alloc | apply Kd.V_drewN | apply Kd.V_drew)); exact Kd.V_mono HL335_3.out (fun _ hk => ⟨hk.2, hk.1⟩)) hg hat); have n5_ := Aside0.mk (Kd.V_afterv (ok := (fun k_ => some k_ ≠ (.slice (some ad334) t330.length co15 : Value).ownBlock)) (by (with_reducible repeat (first | apply Kd.V_alloc | apply Kd.V_drewN | apply Kd.V_drew)); exact Kd.V_mono HL338_0.out (fun _ hk => ⟨hk.2, hk.1⟩)) hg hat); have n6_ := Aside0.mk (Kd.V_afterv (ok := (fun k_ => some k_ ≠ (.slice (some ad334) t330.length co15 : Value).ownBlock)) (by (with_reducible repeat (first | apply Kd.V_alloc | apply Kd.V_drewN | apply Kd.V_drew)); exact Kd.V_mono HL338_3.out (fun _ hk => ⟨hk.2, hk.1⟩)) hg hat); have n7_ := Aside0.mk (hb); have n8_ := Aside0.mk (ho); clear HO_8; clear HL334_0; clear HL334_3; clear HL335_0; clear HL335_3; clear HL338_0; clear HL338_3; clear HB; clear HO_10; have HO_8 := n0_; have HL334_0 := n1_; have HL334_3 := n2_; have HL335_0 := n3_; have HL335_3 := n4_; have HL338_0 := n5_; have HL338_3 := n6_; have HB := n7_; have HO342 := n8_; clear n0_ n1_ n2_ n3_ n4_ n5_ n6_ n7_ n8_; clear ho hb hg hat)))
                              go_roundg k3
                              case measure => have := HJ4.out; have := HK2.out; have := HK3.out; omega
                              case rel => exact ⟨(y340), (wrap64 (x12_3 + 1)), (by first | rfl | (simp; done) | (simp [*]; done)), H', ⟨by have := HJ4.out; have := HK2.out; have := HK3.out; omega⟩, ⟨by (with_reducible repeat (first | apply Kd.N_alloc | apply Kd.N_drewN | apply Kd.N_drew)); exact Kd.N_mono HO_8.out (fun _ hk => hk.2)⟩, ⟨by (with_reducible repeat (first | apply Kd.R_alloc | apply Kd.R_drewN | apply Kd.R_drew)); exact HO342.out⟩, ⟨by repeat (first | (with_reducible first | exact HB.out | apply below_alloc | apply pw_below_drewN | apply below_drew1) | exact HB.out)⟩⟩
                            · rw [if_neg c22] at H
                              exact absurd H (by simp)
                          · replace c21 := Bool.eq_false_iff.mpr c21
                            subst c21
                            have H1 : (sennitlaw21_HunkCovers.l1 k3 l0 a2 t327 t330 t333 x10_3 x11_2 (wrap64 (x12_3 + 1))) = some r := by rw [if_neg (show ¬ (false = true) by decide)] at H; exact H
                            clear H
                            have H := H1
                            clear H1
                            have H' := Aside0.mk H
                            clear H
                            have p334 : 0 ≤ (x11_2 : Int) := of_decide_eq_true (by first | (with_reducible assumption) | assumption)
                            have q334 : x11_2 < (t330.length : Int) := of_decide_eq_true (by first | (with_reducible assumption) | assumption)
                            obtain ⟨ad334, A334_0, c334_0, A334_3, c334_3, e334, hx334_0, hx334_1, hx334_2, hx334_3, hl334_0, hi334_0, hl334_3, hi334_3⟩ := at_T38 (Kd.N_reads' HO_8.out).2.2 x11_2 p334 q334
                            cases e334
                            obtain ⟨ce334, hce334, hMe334, hcc334⟩ := Kd.N_get HO_8.out z38 x11_2 p334 (by first | exact q334 | exact of_decide_eq_true (by first | (with_reducible assumption) | assumption) | (have e_ := (Kd.N_reads' HO_8.out).1; omega))
                            obtain ⟨ua334_0, uc334_0, ua334_3, uc334_3, rfl, ul334_0, ge334_0, ul334_3, ge334_3⟩ := k38_openF hMe334
                            have hv334_0 := hcc334 0 _ rfl
                            rw [Nat.add_zero] at hv334_0
                            replace hv334_0 := Option.some.inj (hv334_0.symm.trans hx334_0)
                            injection hv334_0 with hva_ hvn_ hvc_
                            rw [hva_] at ge334_0
                            rw [hvc_] at ul334_0
                            have HL334_0 := Aside0.mk (show Kd.V k36 36 _ w.heap.size _ _ ((rd_T38 t330 x11_2).f0) from Kd.V_mk ul334_0 ge334_0)
                            clear hva_ hvn_ hvc_ ge334_0 ul334_0
                            have hv334_3 := hcc334 3 _ rfl
                            rw [add_field _ _ 3 (by omega)] at hv334_3
                            replace hv334_3 := Option.some.inj (hv334_3.symm.trans hx334_3)
                            injection hv334_3 with hva_ hvn_ hvc_
                            rw [hva_] at ge334_3
                            rw [hvc_] at ul334_3
                            have HL334_3 := Aside0.mk (show Kd.V k41 41 _ w.heap.size _ _ ((rd_T38 t330 x11_2).f2) from Kd.V_mk ul334_3 ge334_3)
                            clear hva_ hvn_ hvc_ ge334_3 ul334_3
                            clear hcc334 hce334
                            have HR334_0 := Aside0.mk hi334_0
                            have HC334_0 := Aside0.mk hl334_0
                            clear hi334_0 hl334_0
                            have HR334_3 := Aside0.mk hi334_3
                            have HC334_3 := Aside0.mk hl334_3
                            clear hi334_3 hl334_3
                            replace p334 := eq_true p334
                            replace q334 := eq_true q334
                            have p335 : 0 ≤ (x11_2 : Int) := of_decide_eq_true (by first | (with_reducible assumption) | assumption)
                            have q335 : x11_2 < (t330.length : Int) := of_decide_eq_true (by first | (with_reducible assumption) | assumption)
                            obtain ⟨ad335, A335_0, c335_0, A335_3, c335_3, e335, hx335_0, hx335_1, hx335_2, hx335_3, hl335_0, hi335_0, hl335_3, hi335_3⟩ := at_T38 (Kd.N_reads' HO_8.out).2.2 x11_2 p335 q335
                            obtain rfl : ad334 = ad335 := (by injection e335)
                            obtain ⟨ce335, hce335, hMe335, hcc335⟩ := Kd.N_get HO_8.out z38 x11_2 p335 (by first | exact q335 | exact of_decide_eq_true (by first | (with_reducible assumption) | assumption) | (have e_ := (Kd.N_reads' HO_8.out).1; omega))
                            obtain ⟨ua335_0, uc335_0, ua335_3, uc335_3, rfl, ul335_0, ge335_0, ul335_3, ge335_3⟩ := k38_openF hMe335
                            have hv335_0 := hcc335 0 _ rfl
                            rw [Nat.add_zero] at hv335_0
                            replace hv335_0 := Option.some.inj (hv335_0.symm.trans hx335_0)
                            injection hv335_0 with hva_ hvn_ hvc_
                            rw [hva_] at ge335_0
                            rw [hvc_] at ul335_0
                            have HL335_0 := Aside0.mk (show Kd.V k36 36 _ w.heap.size _ _ ((rd_T38 t330 x11_2).f0) from Kd.V_mk ul335_0 ge335_0)
                            clear hva_ hvn_ hvc_ ge335_0 ul335_0
                            have hv335_3 := hcc335 3 _ rfl
                            rw [add_field _ _ 3 (by omega)] at hv335_3
                            replace hv335_3 := Option.some.inj (hv335_3.symm.trans hx335_3)
                            injection hv335_3 with hva_ hvn_ hvc_
                            rw [hva_] at ge335_3
                            rw [hvc_] at ul335_3
                            have HL335_3 := Aside0.mk (show Kd.V k41 41 _ w.heap.size _ _ ((rd_T38 t330 x11_2).f2) from Kd.V_mk ul335_3 ge335_3)
                            clear hva_ hvn_ hvc_ ge335_3 ul335_3
                            clear hcc335 hce335
                            have HR335_0 := Aside0.mk hi335_0
                            have HC335_0 := Aside0.mk hl335_0
                            clear hi335_0 hl335_0
                            have HR335_3 := Aside0.mk hi335_3
                            have HC335_3 := Aside0.mk hl335_3
                            clear hi335_3 hl335_3
                            replace p335 := eq_true p335
                            replace q335 := eq_true q335
                            have ea_ := Option.some.inj (hx334_0.symm.trans hx335_0)
                            injection ea_ with ea_ en_ ec_
                            subst ea_
                            subst ec_
                            clear en_
                            have ea_ := Option.some.inj (hx334_3.symm.trans hx335_3)
                            injection ea_ with ea_ en_ ec_
                            subst ea_
                            subst ec_
                            clear en_
                            have p336 : 0 ≤ (x12_3 : Int) := of_decide_eq_true (by first | (with_reducible assumption) | assumption)
                            have q336 : x12_3 < (((rd_T38 t330 x11_2).f2).length : Int) := of_decide_eq_true (by first | (with_reducible assumption) | assumption)
                            obtain ⟨ad336, e336, hx336_0, hx336_1⟩ := at_T41 (by repeat (first | (with_reducible exact HR335_3.out) | (with_reducible refine Kd.C_alloc ?_ _) | (with_reducible refine Kd.C_drewN ?_ _) | (with_reducible refine Kd.C_drew ?_) | exact HR335_3.out)) x12_3 p336 q336
                            cases e336
                            replace p336 := eq_true p336
                            replace q336 := eq_true q336
                            go_wp2_with (first | (go_at_call 20; (with_reducible refine (sennitref21_Marked.calls k3 ((rd_T41 ((rd_T38 t330 x11_2).f2) x12_3).f0) ((rd_T41 ((rd_T38 t330 x11_2).f2) x12_3).f1) false _ A20.out).mono ?_); rintro e w25 ⟨rfl, hb⟩; have n0_ := Aside0.mk (Kd.N_below (by (with_reducible repeat (first | apply Kd.N_alloc | apply Kd.N_drewN | apply Kd.N_drew)); exact HO_8.out) hb); have n1_ := Aside0.mk (Kd.R_below (by (with_reducible repeat (first | apply Kd.R_alloc | apply Kd.R_drewN | apply Kd.R_drew)); exact HO_10.out) hb); have n2_ := Aside0.mk (Kd.V_below (by (with_reducible repeat (first | apply Kd.V_alloc | apply Kd.V_drewN | apply Kd.V_drew)); exact HL334_0.out) hb); have n3_ := Aside0.mk (Kd.V_below (by (with_reducible repeat (first | apply Kd.V_alloc | apply Kd.V_drewN | apply Kd.V_drew)); exact HL334_3.out) hb); have n4_ := Aside0.mk (Kd.V_below (by (with_reducible repeat (first | apply Kd.V_alloc | apply Kd.V_drewN | apply Kd.V_drew)); exact HL335_0.out) hb); have n5_ := Aside0.mk (Kd.V_below (by (with_reducible repeat (first | apply Kd.V_alloc | apply Kd.V_drewN | apply Kd.V_drew)); exact HL335_3.out) hb); have n6_ := Aside0.mk (Kd.C_below (by repeat (first | (with_reducible exact HR334_0.out) | (with_reducible refine Kd.C_alloc ?_ _) | (with_reducible refine Kd.C_drewN ?_ _) | (with_reducible refine Kd.C_drew ?_) | exact HR334_0.out)) hb); have n7_ := Aside0.mk (Kd.C_below (by repeat (first | (with_reducible exact HR334_3.out) | (with_reducible refine Kd.C_alloc ?_ _) | (with_reducible refine Kd.C_drewN ?_ _) | (with_reducible refine Kd.C_drew ?_) | exact HR334_3.out)) hb); have n8_ := Aside0.mk (Kd.C_below (by repeat (first | (with_reducible exact HR335_0.out) | (with_reducible refine Kd.C_alloc ?_ _) | (with_reducible refine Kd.C_drewN ?_ _) | (with_reducible refine Kd.C_drew ?_) | exact HR335_0.out)) hb); have n9_ := Aside0.mk (Kd.C_below (by repeat (first | (with_reducible exact HR335_3.out) | (with_reducible refine Kd.C_alloc ?_ _) | (with_reducible refine Kd.C_drewN ?_ _) | (with_reducible refine Kd.C_drew ?_) | exact HR335_3.out)) hb); have n10_ := Aside0.mk (below_step (by repeat (first | (with_reducible first | exact HB.out | apply below_alloc | apply pw_below_drewN | apply below_drew1) | exact HB.out)) hb); clear HO_8; clear HO_10; clear HL334_0; clear HL334_3; clear HL335_0; clear HL335_3; clear HR334_0; clear HR334_3; clear HR335_0; clear HR335_3; clear HB; have HO_8 := n0_; have HO_10 := n1_; have HL334_0 := n2_; have HL334_3 := n3_; have HL335_0 := n4_; have HL335_3 := n5_; have HR334_0 := n6_; have HR334_3 := n7_; have HR335_0 := n8_; have HR335_3 := n9_; have HB := n10_; clear n0_ n1_ n2_ n3_ n4_ n5_ n6_ n7_ n8_ n9_ n10_; (try clear hb); (try clear hb2); (try clear hk); (try clear hi)))
                            repeat (go_quiet (first | (go_at_call 20; (with_reducible refine (sennitref21_Marked.calls k3 ((rd_T41 ((rd_T38 t330 x11_2).f2) x12_3).f0) ((rd_T41 ((rd_T38 t330 x11_2).f2) x12_3).f1) false _ A20.out).mono ?_); rintro e w25 ⟨rfl, hb⟩; have n0_ := Aside0.mk (Kd.N_below (by (with_reducible repeat (first | apply Kd.N_alloc | apply Kd.N_drewN | apply Kd.N_drew)); exact HO_8.out) hb); have n1_ := Aside0.mk (Kd.R_below (by (with_reducible repeat (first | apply Kd.R_alloc | apply Kd.R_drewN | apply Kd.R_drew)); exact HO_10.out) hb); have n2_ := Aside0.mk (Kd.V_below (by (with_reducible repeat (first | apply Kd.V_alloc | apply Kd.V_drewN | apply Kd.V_drew)); exact HL334_0.out) hb); have n3_ := Aside0.mk (Kd.V_below (by (with_reducible repeat (first | apply Kd.V_alloc | apply Kd.V_drewN | apply Kd.V_drew)); exact HL334_3.out) hb); have n4_ := Aside0.mk (Kd.V_below (by (with_reducible repeat (first | apply Kd.V_alloc | apply Kd.V_drewN | apply Kd.V_drew)); exact HL335_0.out) hb); have n5_ := Aside0.mk (Kd.V_below (by (with_reducible repeat (first | apply Kd.V_alloc | apply Kd.V_drewN | apply Kd.V_drew)); exact HL335_3.out) hb); have n6_ := Aside0.mk (Kd.C_below (by repeat (first | (with_reducible exact HR334_0.out) | (with_reducible refine Kd.C_alloc ?_ _) | (with_reducible refine Kd.C_drewN ?_ _) | (with_reducible refine Kd.C_drew ?_) | exact HR334_0.out)) hb); have n7_ := Aside0.mk (Kd.C_below (by repeat (first | (with_reducible exact HR334_3.out) | (with_reducible refine Kd.C_alloc ?_ _) | (with_reducible refine Kd.C_drewN ?_ _) | (with_reducible refine Kd.C_drew ?_) | exact HR334_3.out)) hb); have n8_ := Aside0.mk (Kd.C_below (by repeat (first | (with_reducible exact HR335_0.out) | (with_reducible refine Kd.C_alloc ?_ _) | (with_reducible refine Kd.C_drewN ?_ _) | (with_reducible refine Kd.C_drew ?_) | exact HR335_0.out)) hb); have n9_ := Aside0.mk (Kd.C_below (by repeat (first | (with_reducible exact HR335_3.out) | (with_reducible refine Kd.C_alloc ?_ _) | (with_reducible refine Kd.C_drewN ?_ _) | (with_reducible refine Kd.C_drew ?_) | exact HR335_3.out)) hb); have n10_ := Aside0.mk (below_step (by repeat (first | (with_reducible first | exact HB.out | apply below_alloc | apply pw_below_drewN | apply below_drew1) | exact HB.out)) hb); clear HO_8; clear HO_10; clear HL334_0; clear HL334_3; clear HL335_0; clear HL335_3; clear HR334_0; clear HR334_3; clear HR335_0; clear HR335_3; clear HB; have HO_8 := n0_; have HO_10 := n1_; have HL334_0 := n2_; have HL334_3 := n3_; have HL335_0 := n4_; have HL335_3 := n5_; have HR334_0 := n6_; have HR334_3 := n7_; have HR335_0 := n8_; have HR335_3 := n9_; have HB := n10_; clear n0_ n1_ n2_ n3_ n4_ n5_ n6_ n7_ n8_ n9_ n10_; (try clear hb); (try clear hb2); (try clear hk); (try clear hi))); try go_wp2_with (first | (go_at_call 20; (with_reducible refine (sennitref21_Marked.calls k3 ((rd_T41 ((rd_T38 t330 x11_2).f2) x12_3).f0) ((rd_T41 ((rd_T38 t330 x11_2).f2) x12_3).f1) false _ A20.out).mono ?_); rintro e w25 ⟨rfl, hb⟩; have n0_ := Aside0.mk (Kd.N_below (by (with_reducible repeat (first | apply Kd.N_alloc | apply Kd.N_drewN | apply Kd.N_drew)); exact HO_8.out) hb); have n1_ := Aside0.mk (Kd.R_below (by (with_reducible repeat (first | apply Kd.R_alloc | apply Kd.R_drewN | apply Kd.R_drew)); exact HO_10.out) hb); have n2_ := Aside0.mk (Kd.V_below (by (with_reducible repeat (first | apply Kd.V_alloc | apply Kd.V_drewN | apply Kd.V_drew)); exact HL334_0.out) hb); have n3_ := Aside0.mk (Kd.V_below (by (with_reducible repeat (first | apply Kd.V_alloc | apply Kd.V_drewN | apply Kd.V_drew)); exact HL334_3.out) hb); have n4_ := Aside0.mk (Kd.V_below (by (with_reducible repeat (first | apply Kd.V_alloc | apply Kd.V_drewN | apply Kd.V_drew)); exact HL335_0.out) hb); have n5_ := Aside0.mk (Kd.V_below (by (with_reducible repeat (first | apply Kd.V_alloc | apply Kd.V_drewN | apply Kd.V_drew)); exact HL335_3.out) hb); have n6_ := Aside0.mk (Kd.C_below (by repeat (first | (with_reducible exact HR334_0.out) | (with_reducible refine Kd.C_alloc ?_ _) | (with_reducible refine Kd.C_drewN ?_ _) | (with_reducible refine Kd.C_drew ?_) | exact HR334_0.out)) hb); have n7_ := Aside0.mk (Kd.C_below (by repeat (first | (with_reducible exact HR334_3.out) | (with_reducible refine Kd.C_alloc ?_ _) | (with_reducible refine Kd.C_drewN ?_ _) | (with_reducible refine Kd.C_drew ?_) | exact HR334_3.out)) hb); have n8_ := Aside0.mk (Kd.C_below (by repeat (first | (with_reducible exact HR335_0.out) | (with_reducible refine Kd.C_alloc ?_ _) | (with_reducible refine Kd.C_drewN ?_ _) | (with_reducible refine Kd.C_drew ?_) | exact HR335_0.out)) hb); have n9_ := Aside0.mk (Kd.C_below (by repeat (first | (with_reducible exact HR335_3.out) | (with_reducible refine Kd.C_alloc ?_ _) | (with_reducible refine Kd.C_drewN ?_ _) | (with_reducible refine Kd.C_drew ?_) | exact HR335_3.out)) hb); have n10_ := Aside0.mk (below_step (by repeat (first | (with_reducible first | exact HB.out | apply below_alloc | apply pw_below_drewN | apply below_drew1) | exact HB.out)) hb); clear HO_8; clear HO_10; clear HL334_0; clear HL334_3; clear HL335_0; clear HL335_3; clear HR334_0; clear HR334_3; clear HR335_0; clear HR335_3; clear HB; have HO_8 := n0_; have HO_10 := n1_; have HL334_0 := n2_; have HL334_3 := n3_; have HL335_0 := n4_; have HL335_3 := n5_; have HR334_0 := n6_; have HR334_3 := n7_; have HR335_0 := n8_; have HR335_3 := n9_; have HB := n10_; clear n0_ n1_ n2_ n3_ n4_ n5_ n6_ n7_ n8_ n9_ n10_; (try clear hb); (try clear hb2); (try clear hk); (try clear hi))))
                            go_roundg k3
                            case measure => have := HJ4.out; have := HK2.out; have := HK3.out; omega
                            case rel => exact ⟨(x10_3), (wrap64 (x12_3 + 1)), (by first | rfl | (simp; done) | (simp [*]; done)), H', ⟨by have := HJ4.out; have := HK2.out; have := HK3.out; omega⟩, ⟨by (with_reducible repeat (first | apply Kd.N_alloc | apply Kd.N_drewN | apply Kd.N_drew)); exact HO_8.out⟩, ⟨by (with_reducible repeat (first | apply Kd.R_alloc | apply Kd.R_drewN | apply Kd.R_drew)); exact HO_10.out⟩, ⟨by repeat (first | (with_reducible first | exact HB.out | apply below_alloc | apply pw_below_drewN | apply below_drew1) | exact HB.out)⟩⟩
                        · rw [if_neg c19] at H
                          exact absurd H (by simp)
                      · rw [if_neg c18] at H
                        have c18b0 : decide (x12_3 < (((rd_T38 t330 x11_2).f2).length : Int)) = false := decide_eq_false c18
                        clear c18
                        have H' := Aside0.mk H
                        clear H
                        have p334 : 0 ≤ (x11_2 : Int) := of_decide_eq_true (by first | (with_reducible assumption) | assumption)
                        have q334 : x11_2 < (t330.length : Int) := of_decide_eq_true (by first | (with_reducible assumption) | assumption)
                        obtain ⟨ad334, A334_0, c334_0, A334_3, c334_3, e334, hx334_0, hx334_1, hx334_2, hx334_3, hl334_0, hi334_0, hl334_3, hi334_3⟩ := at_T38 (Kd.N_reads' HO_8.out).2.2 x11_2 p334 q334
                        cases e334
                        obtain ⟨ce334, hce334, hMe334, hcc334⟩ := Kd.N_get HO_8.out z38 x11_2 p334 (by first | exact q334 | exact of_decide_eq_true (by first | (with_reducible assumption) | assumption) | (have e_ := (Kd.N_reads' HO_8.out).1; omega))
                        obtain ⟨ua334_0, uc334_0, ua334_3, uc334_3, rfl, ul334_0, ge334_0, ul334_3, ge334_3⟩ := k38_openF hMe334
                        have hv334_0 := hcc334 0 _ rfl
                        rw [Nat.add_zero] at hv334_0
                        replace hv334_0 := Option.some.inj (hv334_0.symm.trans hx334_0)
                        injection hv334_0 with hva_ hvn_ hvc_
                        rw [hva_] at ge334_0
                        rw [hvc_] at ul334_0
                        have HL334_0 := Aside0.mk (show Kd.V k36 36 _ w.heap.size _ _ ((rd_T38 t330 x11_2).f0) from Kd.V_mk ul334_0 ge334_0)
                        clear hva_ hvn_ hvc_ ge334_0 ul334_0
                        have hv334_3 := hcc334 3 _ rfl
                        rw [add_field _ _ 3 (by omega)] at hv334_3
                        replace hv334_3 := Option.some.inj (hv334_3.symm.trans hx334_3)
                        injection hv334_3 with hva_ hvn_ hvc_
                        rw [hva_] at ge334_3
                        rw [hvc_] at ul334_3
                        have HL334_3 := Aside0.mk (show Kd.V k41 41 _ w.heap.size _ _ ((rd_T38 t330 x11_2).f2) from Kd.V_mk ul334_3 ge334_3)
                        clear hva_ hvn_ hvc_ ge334_3 ul334_3
                        clear hcc334 hce334
                        have HR334_0 := Aside0.mk hi334_0
                        have HC334_0 := Aside0.mk hl334_0
                        clear hi334_0 hl334_0
                        have HR334_3 := Aside0.mk hi334_3
                        have HC334_3 := Aside0.mk hl334_3
                        clear hi334_3 hl334_3
                        replace p334 := eq_true p334
                        replace q334 := eq_true q334
                        go_wp2
                        repeat (go_quiet (fail); try go_wp2)
                        go_roundg k3
                        case measure => have := HJ4.out; have := HK2.out; have := HK3.out; omega
                        case rel => exact ⟨(x10_3), (wrap64 (x11_2 + 1)), (by first | rfl | (simp; done) | (simp [*]; done)), H', ⟨by have := HJ4.out; have := HK2.out; have := HK3.out; omega⟩, ⟨by (with_reducible repeat (first | apply Kd.N_alloc | apply Kd.N_drewN | apply Kd.N_drew)); exact HO_8.out⟩, ⟨by (with_reducible repeat (first | apply Kd.R_alloc | apply Kd.R_drewN | apply Kd.R_drew)); exact HO_10.out⟩, ⟨by repeat (first | (with_reducible first | exact HB.out | apply below_alloc | apply pw_below_drewN | apply below_drew1) | exact HB.out)⟩⟩
                    · rw [if_neg c17] at H
                      exact absurd H (by simp)
                  · rw [if_neg c16] at H
                    exact absurd H (by simp)
            · rw [if_neg c14] at H
              have c14b0 : decide (x11_2 < (t330.length : Int)) = false := decide_eq_false c14
              clear c14
              replace H := Option.bind_eq_some_iff.mp H
              obtain ⟨t343, A260, H⟩ := H
              replace H : (sennitlaw21_HunkCovers.l2 k2 l0 a2 t327 t333 x10_2 ([] : List (S41)) t343 0) = some r := H
              have A26 := Aside0.mk A260
              clear A260
              have H' := Aside0.mk H
              clear H
              obtain ⟨Ao27, co27, eo27⟩ := Kd.N_slice HO_8.out
              subst eo27
              go_wp2_with (first | (go_at_call 16; (with_reducible refine (sennitref21_Groups.calls k2 _ _ l0 t343 _ ?side1 ?side2 A26.out).mono ?_); (case side1 => repeat (first | exact (Kd.C_below HR0.out HB.out) | (with_reducible refine Kd.C_alloc ?_ _) | (with_reducible refine Kd.C_drewN ?_ _) | (with_reducible refine Kd.C_drew ?_))); (case side2 => exact HC0.out); rintro e w28 ⟨v344, rfl, ho0, hb⟩; have n0_ := Aside0.mk (Kd.N_elder' (by (with_reducible repeat (first | apply Kd.N_alloc | apply Kd.N_drewN | apply Kd.N_drew)); exact HO_8.out) (Kd.R_base ho0) hb); have n1_ := Aside0.mk (Kd.R_below (by (with_reducible repeat (first | apply Kd.R_alloc | apply Kd.R_drewN | apply Kd.R_drew)); exact HO_10.out) hb); have n2_ := Aside0.mk (Kd.R_lower ho0 (below_size (by repeat (first | (with_reducible first | exact HB.out | apply below_alloc | apply pw_below_drewN | apply below_drew1) | exact HB.out)))); have n3_ := Aside0.mk (below_step (by repeat (first | (with_reducible first | exact HB.out | apply below_alloc | apply pw_below_drewN | apply below_drew1) | exact HB.out)) hb); clear HO_8; clear HO_10; clear HB; have HO_8 := n0_; have HO_10 := n1_; have HO345 := n2_; have HB := n3_; clear n0_ n1_ n2_ n3_; (try clear hb); (try clear hb2); (try clear hk); (try clear hi); (try clear ho0)))
              repeat (go_quiet (first | (go_at_call 16; (with_reducible refine (sennitref21_Groups.calls k2 _ _ l0 t343 _ ?side1 ?side2 A26.out).mono ?_); (case side1 => repeat (first | exact (Kd.C_below HR0.out HB.out) | (with_reducible refine Kd.C_alloc ?_ _) | (with_reducible refine Kd.C_drewN ?_ _) | (with_reducible refine Kd.C_drew ?_))); (case side2 => exact HC0.out); rintro e w28 ⟨v344, rfl, ho0, hb⟩; have n0_ := Aside0.mk (Kd.N_elder' (by (with_reducible repeat (first | apply Kd.N_alloc | apply Kd.N_drewN | apply Kd.N_drew)); exact HO_8.out) (Kd.R_base ho0) hb); have n1_ := Aside0.mk (Kd.R_below (by (with_reducible repeat (first | apply Kd.R_alloc | apply Kd.R_drewN | apply Kd.R_drew)); exact HO_10.out) hb); have n2_ := Aside0.mk (Kd.R_lower ho0 (below_size (by repeat (first | (with_reducible first | exact HB.out | apply below_alloc | apply pw_below_drewN | apply below_drew1) | exact HB.out)))); have n3_ := Aside0.mk (below_step (by repeat (first | (with_reducible first | exact HB.out | apply below_alloc | apply pw_below_drewN | apply below_drew1) | exact HB.out)) hb); clear HO_8; clear HO_10; clear HB; have HO_8 := n0_; have HO_10 := n1_; have HO345 := n2_; have HB := n3_; clear n0_ n1_ n2_ n3_; (try clear hb); (try clear hb2); (try clear hk); (try clear hi); (try clear ho0))); try go_wp2_with (first | (go_at_call 16; (with_reducible refine (sennitref21_Groups.calls k2 _ _ l0 t343 _ ?side1 ?side2 A26.out).mono ?_); (case side1 => repeat (first | exact (Kd.C_below HR0.out HB.out) | (with_reducible refine Kd.C_alloc ?_ _) | (with_reducible refine Kd.C_drewN ?_ _) | (with_reducible refine Kd.C_drew ?_))); (case side2 => exact HC0.out); rintro e w28 ⟨v344, rfl, ho0, hb⟩; have n0_ := Aside0.mk (Kd.N_elder' (by (with_reducible repeat (first | apply Kd.N_alloc | apply Kd.N_drewN | apply Kd.N_drew)); exact HO_8.out) (Kd.R_base ho0) hb); have n1_ := Aside0.mk (Kd.R_below (by (with_reducible repeat (first | apply Kd.R_alloc | apply Kd.R_drewN | apply Kd.R_drew)); exact HO_10.out) hb); have n2_ := Aside0.mk (Kd.R_lower ho0 (below_size (by repeat (first | (with_reducible first | exact HB.out | apply below_alloc | apply pw_below_drewN | apply below_drew1) | exact HB.out)))); have n3_ := Aside0.mk (below_step (by repeat (first | (with_reducible first | exact HB.out | apply below_alloc | apply pw_below_drewN | apply below_drew1) | exact HB.out)) hb); clear HO_8; clear HO_10; clear HB; have HO_8 := n0_; have HO_10 := n1_; have HO345 := n2_; have HB := n3_; clear n0_ n1_ n2_ n3_; (try clear hb); (try clear hb2); (try clear hk); (try clear hi); (try clear ho0))))
              go_loopg [13, 15] k2 (fun kq v13 v15 w' => ∃ (x13_3 : List (S41)) (x15_3 : Int), v15 = .int .i64 x15_3 ∧ Aside0 (sennitlaw21_HunkCovers.l2 kq l0 a2 t327 t333 x10_2 x13_3 t343 x15_3 = some r) ∧ Aside0 (kq ≤ k2) ∧ Aside0 (Kd.R k41 41 w' w.heap.size (fun k_ => some k_ ≠ (v13 : Value).ownBlock) u10 x10_2) ∧ Aside0 (Kd.R k41 41 w' w.heap.size (fun k_ => some k_ ≠ (u10 : Value).ownBlock) v13 x13_3) ∧ Aside0 (Kd.R k36 36 w' w.heap.size (fun _ => True) v344 t343) ∧ Aside0 (Below w.heap.size w w'))
              case atStart => exact ⟨(([] : List (S41))), (0), (by first | rfl | (simp; done) | (simp [*]; done)), H', ⟨Nat.le_refl _⟩, ⟨by (with_reducible repeat (first | apply Kd.R_alloc | apply Kd.R_drewN | apply Kd.R_drew)); exact Kd.R_mono HO_10.out (fun _ hk => (by simp [Value.ownBlock]))⟩, ⟨by first | exact Kd.R_nil _ _ _ _ _ | exact Kd.N_nil _ _ _ _ _ | exact Kd.V_nil _ _ _ _ _ | exact Kd.Q_nil _ _ _ _ _ | exact Kd.S_nil _ _ _ _ _⟩, ⟨by (with_reducible repeat (first | apply Kd.R_alloc | apply Kd.R_drewN | apply Kd.R_drew)); exact HO345.out⟩, ⟨by repeat (first | (with_reducible first | exact HB.out | apply below_alloc | apply pw_below_drewN | apply below_drew1) | exact HB.out)⟩⟩
              case round =>
                clear H'
                try clear c1
                try clear c2
                try clear p2
                try clear c3
                try clear p3
                try clear q3
                try clear hx3
                try clear c5
                try clear p6
                try clear c8
                try clear c11
                try clear c14
                try clear c14b0
                try clear c16
                try clear c16b0
                try clear c17
                try clear c17b0
                try clear c18
                try clear c18b0
                try clear c19
                try clear c19b0
                try clear c21
                try clear c22
                try clear hx334_0
                try clear hx334_1
                try clear hx334_2
                try clear hx334_3
                try clear hx335_0
                try clear hx335_1
                try clear hx335_2
                try clear hx335_3
                try clear hx336_0
                try clear hx336_1
                try clear hx338_0
                try clear hx338_1
                try clear hx338_2
                try clear hx338_3
                try clear hx339_0
                try clear hx339_1
                try clear p2
                try clear p334
                try clear p335
                try clear p336
                try clear p338
                try clear p339
                try clear p6
                try clear q334
                try clear q335
                try clear q336
                try clear q338
                try clear q339
                obtain ⟨x13_3, x15_3, rfl, HA, HK3, HO_10, HO_13, HO_14, HB⟩ := hrel
                cases gk with
                | zero => exact absurd HA.out (by simp [sennitlaw21_HunkCovers.l2])
                | succ k3 =>
                  have H := HA.out
                  clear HA
                  simp only [sennitlaw21_HunkCovers.l2] at H
                  by_cases c29 : x15_3 < (t343.length : Int)
                  · rw [if_pos c29] at H
                    have c29b0 : decide (x15_3 < (t343.length : Int)) = true := decide_eq_true c29
                    clear c29
                    by_cases c30 : 0 ≤ x15_3
                    · rw [if_pos c30] at H
                      have c30b0 : decide (0 ≤ x15_3) = true := decide_eq_true c30
                      clear c30
                      by_cases c31 : 0 ≤ ((rd_T36 t343 x15_3).f0)
                      · rw [if_pos c31] at H
                        have c31b0 := eq_true c31
                        have c31b1 : decide (0 ≤ ((rd_T36 t343 x15_3).f0)) = true := decide_eq_true c31
                        clear c31
                        by_cases c32 : ((rd_T36 t343 x15_3).f0) ≤ ((rd_T36 t343 x15_3).f1)
                        · rw [if_pos c32] at H
                          have c32b0 := eq_true c32
                          have c32b1 : decide (((rd_T36 t343 x15_3).f0) ≤ ((rd_T36 t343 x15_3).f1)) = true := decide_eq_true c32
                          clear c32
                          by_cases c33 : ((rd_T36 t343 x15_3).f1) ≤ (l0.length : Int)
                          · rw [if_pos c33] at H
                            have c33b0 := eq_true c33
                            have c33b1 : decide (((rd_T36 t343 x15_3).f1) ≤ (l0.length : Int)) = true := decide_eq_true c33
                            clear c33
                            obtain ⟨y348, hy348⟩ : ∃ y_ : List (S41), y_ = ((l0.take (((rd_T36 t343 x15_3).f1) : Int).toNat).drop (((rd_T36 t343 x15_3).f0) : Int).toNat) := ⟨_, rfl⟩
                            replace H : (if a2 = true then ((sennitref21_Dull.f k3 y348).bind fun t352 => (if t352 = true then (sennitlaw21_HunkCovers.l2 k3 l0 a2 t327 t333 x10_2 x13_3 t343 (wrap64 (x15_3 + 1))) else (if x13_3.length + y348.length < 4398046511104 then (sennitlaw21_HunkCovers.l2 k3 l0 a2 t327 t333 x10_2 (x13_3 ++ y348) t343 (wrap64 (x15_3 + 1))) else (none)))) else (if x13_3.length + y348.length < 4398046511104 then (sennitlaw21_HunkCovers.l2 k3 l0 a2 t327 t333 x10_2 (x13_3 ++ y348) t343 (wrap64 (x15_3 + 1))) else (none))) = some r := by first | (rw [hy348]; with_reducible exact H) | (have H2_ := (Option.bind_some _ _).symm.trans H; rw [hy348]; with_reducible exact H2_) | (have H2_ := (Option.bind_some _ _).symm.trans H; with_reducible exact H2_) | with_reducible exact H | (rw [hy348]; exact H) | exact H
                            have Ny348 := Aside0.mk hy348
                            clear hy348
                            by_cases c34 : a2 = true
                            · subst c34
                              have H1 : ((sennitref21_Dull.f k3 y348).bind fun t352 => (if t352 = true then (sennitlaw21_HunkCovers.l2 k3 l0 true t327 t333 x10_2 x13_3 t343 (wrap64 (x15_3 + 1))) else (if x13_3.length + y348.length < 4398046511104 then (sennitlaw21_HunkCovers.l2 k3 l0 true t327 t333 x10_2 (x13_3 ++ y348) t343 (wrap64 (x15_3 + 1))) else (none)))) = some r := by rw [if_pos rfl] at H; exact H
                              clear H
                              have H := H1
                              clear H1
                              replace H := Option.bind_eq_some_iff.mp H
                              obtain ⟨t352, A350, H⟩ := H
                              replace H : (if t352 = true then (sennitlaw21_HunkCovers.l2 k3 l0 true t327 t333 x10_2 x13_3 t343 (wrap64 (x15_3 + 1))) else (if x13_3.length + y348.length < 4398046511104 then (sennitlaw21_HunkCovers.l2 k3 l0 true t327 t333 x10_2 (x13_3 ++ y348) t343 (wrap64 (x15_3 + 1))) else (none))) = some r := H
                              have A35 := Aside0.mk A350
                              clear A350
                              by_cases c36 : t352 = true
                              · subst c36
                                have H1 : (sennitlaw21_HunkCovers.l2 k3 l0 true t327 t333 x10_2 x13_3 t343 (wrap64 (x15_3 + 1))) = some r := by rw [if_pos rfl] at H; exact H
                                clear H
                                have H := H1
                                clear H1
                                have H' := Aside0.mk H
                                clear H
                                obtain ⟨Ao37, co37, eo37⟩ := Kd.R_slice HO_14.out
                                subst eo37
                                have p346 : 0 ≤ (x15_3 : Int) := of_decide_eq_true (by first | (with_reducible assumption) | assumption)
                                have q346 : x15_3 < (t343.length : Int) := of_decide_eq_true (by first | (with_reducible assumption) | assumption)
                                obtain ⟨ad346, e346, hx346_0, hx346_1⟩ := at_T36 (Kd.R_reads' HO_14.out).2.2 x15_3 p346 q346
                                cases e346
                                replace p346 := eq_true p346
                                replace q346 := eq_true q346
                                have p347 : 0 ≤ (x15_3 : Int) := of_decide_eq_true (by first | (with_reducible assumption) | assumption)
                                have q347 : x15_3 < (t343.length : Int) := of_decide_eq_true (by first | (with_reducible assumption) | assumption)
                                obtain ⟨ad347, e347, hx347_0, hx347_1⟩ := at_T36 (Kd.R_reads' HO_14.out).2.2 x15_3 p347 q347
                                obtain rfl : ad346 = ad347 := (by injection e347)
                                replace p347 := eq_true p347
                                replace q347 := eq_true q347
                                have q38 : (((rd_T36 t343 x15_3).f1) : Int) ≤ ((l0.length : Int) : Int) := of_decide_eq_true (by first | (with_reducible assumption) | assumption)
                                obtain ⟨i038, hi038, _, hsz38, _⟩ := info_parts info41
                                have hroom38 : l0.length ≤ c0 := HC0.out
                                have hC38 : Kd.C k41 _ A0 l0.length l0 := HR0.out
                                have ql38 : (((rd_T36 t343 x15_3).f0) : Int) ≤ (((rd_T36 t343 x15_3).f1) : Int) := of_decide_eq_true (by first | (with_reducible assumption) | assumption)
                                have q038 : (0 : Int) ≤ (((rd_T36 t343 x15_3).f0) : Int) := of_decide_eq_true (by first | (with_reducible assumption) | assumption)
                                have hcut38 := cut_mid (P := Tryd.prog) 22 41 .i64 .i64 Tryd.underlying22 hi038 2 hsz38 A0 l0.length c0 ((rd_T36 t343 x15_3).f0) ((rd_T36 t343 x15_3).f1) q038 ql38 q38 hroom38
                                have hr38 := Kd.C_mid (lo := (((rd_T36 t343 x15_3).f0) : Int).toNat) (hi := (((rd_T36 t343 x15_3).f1) : Int).toNat) (c := c0) hC38 (by omega) (by omega) hroom38
                                obtain ⟨A38, hA38⟩ : ∃ A1, A1 = (if c0 = (((rd_T36 t343 x15_3).f0) : Int).toNat then A0 else (A0 : Option Addr).map (·.add ((((rd_T36 t343 x15_3).f0) : Int).toNat * 2))) := ⟨_, rfl⟩
                                obtain ⟨c38, hc38⟩ : ∃ c1, c1 = c0 - (((rd_T36 t343 x15_3).f0) : Int).toNat := ⟨_, rfl⟩
                                have hy38 : y348.length = (((rd_T36 t343 x15_3).f1) : Int).toNat - (((rd_T36 t343 x15_3).f0) : Int).toNat := (by rw [Ny348.out, List.length_drop, List.length_take] <;> omega)
                                rw [show ((l0).take (((rd_T36 t343 x15_3).f1) : Int).toNat).drop (((rd_T36 t343 x15_3).f0) : Int).toNat = y348 from Ny348.out.symm] at hr38
                                replace hr38 : Kd.C k41 _ A38 y348.length y348 := (by rw [hA38]; exact hr38)
                                rw [← hy38, ← hA38, ← hc38] at hcut38
                                have HR351 := Aside0.mk hr38
                                have HC351 := Aside0.mk (show y348.length ≤ c38 from by rw [hy38, hc38]; exact Nat.sub_le_sub_right (Nat.le_trans (by omega) hroom38) _)
                                clear hr38 hC38 hroom38 hi038 hsz38 hc38
                                have KY38 := Aside0.mk hy38
                                have KA38 := Aside0.mk hA38
                                clear hy38 hA38
                                replace q38 := eq_true q38
                                go_wp2_with (first | (go_at_call 18; (with_reducible refine (sennitref21_Dull.calls k3 _ _ y348 true _ ?side1 ?side2 A35.out).mono ?_); (case side1 => repeat (first | exact (Kd.C_below HR351.out HB.out) | (with_reducible refine Kd.C_alloc ?_ _) | (with_reducible refine Kd.C_drewN ?_ _) | (with_reducible refine Kd.C_drew ?_))); (case side2 => exact HC351.out); rintro e w' ⟨rfl, ⟨nd, rfl⟩⟩; (try first | exact ⟨rfl, _, World.drewN_drewN _ _ _⟩ | exact ⟨rfl, _, Eq.trans (World.drewN_drewN _ _ _) (congrArg (World.drewN _) (Nat.add_assoc _ _ _))⟩)))
                                repeat (go_quiet (first | (go_at_call 18; (with_reducible refine (sennitref21_Dull.calls k3 _ _ y348 true _ ?side1 ?side2 A35.out).mono ?_); (case side1 => repeat (first | exact (Kd.C_below HR351.out HB.out) | (with_reducible refine Kd.C_alloc ?_ _) | (with_reducible refine Kd.C_drewN ?_ _) | (with_reducible refine Kd.C_drew ?_))); (case side2 => exact HC351.out); rintro e w' ⟨rfl, ⟨nd, rfl⟩⟩; (try first | exact ⟨rfl, _, World.drewN_drewN _ _ _⟩ | exact ⟨rfl, _, Eq.trans (World.drewN_drewN _ _ _) (congrArg (World.drewN _) (Nat.add_assoc _ _ _))⟩))); try go_wp2_with (first | (go_at_call 18; (with_reducible refine (sennitref21_Dull.calls k3 _ _ y348 true _ ?side1 ?side2 A35.out).mono ?_); (case side1 => repeat (first | exact (Kd.C_below HR351.out HB.out) | (with_reducible refine Kd.C_alloc ?_ _) | (with_reducible refine Kd.C_drewN ?_ _) | (with_reducible refine Kd.C_drew ?_))); (case side2 => exact HC351.out); rintro e w' ⟨rfl, ⟨nd, rfl⟩⟩; (try first | exact ⟨rfl, _, World.drewN_drewN _ _ _⟩ | exact ⟨rfl, _, Eq.trans (World.drewN_drewN _ _ _) (congrArg (World.drewN _) (Nat.add_assoc _ _ _))⟩))))
                                go_roundg k3
                                case measure => have := HJ4.out; have := HK2.out; have := HK3.out; omega
                                case rel => exact ⟨(x13_3), (wrap64 (x15_3 + 1)), (by first | rfl | (simp; done) | (simp [*]; done)), H', ⟨by have := HJ4.out; have := HK2.out; have := HK3.out; omega⟩, ⟨by (with_reducible repeat (first | apply Kd.R_alloc | apply Kd.R_drewN | apply Kd.R_drew)); exact HO_10.out⟩, ⟨by (with_reducible repeat (first | apply Kd.R_alloc | apply Kd.R_drewN | apply Kd.R_drew)); exact HO_13.out⟩, ⟨by (with_reducible repeat (first | apply Kd.R_alloc | apply Kd.R_drewN | apply Kd.R_drew)); exact HO_14.out⟩, ⟨by repeat (first | (with_reducible first | exact HB.out | apply below_alloc | apply pw_below_drewN | apply below_drew1) | exact HB.out)⟩⟩
                              · replace c36 := Bool.eq_false_iff.mpr c36
                                subst c36
                                have H1 : (if x13_3.length + y348.length < 4398046511104 then (sennitlaw21_HunkCovers.l2 k3 l0 true t327 t333 x10_2 (x13_3 ++ y348) t343 (wrap64 (x15_3 + 1))) else (none)) = some r := by rw [if_neg (show ¬ (false = true) by decide)] at H; exact H
                                clear H
                                have H := H1
                                clear H1
                                by_cases c39 : x13_3.length + y348.length < 4398046511104
                                · rw [if_pos c39] at H
                                  have LMc39 := Aside0.mk c39
                                  clear c39
                                  obtain ⟨y353, hy353⟩ : ∃ y_ : List (S41), y_ = (x13_3 ++ y348) := ⟨_, rfl⟩
                                  replace H : (sennitlaw21_HunkCovers.l2 k3 l0 true t327 t333 x10_2 y353 t343 (wrap64 (x15_3 + 1))) = some r := by first | (rw [hy353]; with_reducible exact H) | (have H2_ := (Option.bind_some _ _).symm.trans H; rw [hy353]; with_reducible exact H2_) | (have H2_ := (Option.bind_some _ _).symm.trans H; with_reducible exact H2_) | with_reducible exact H | (rw [hy353]; exact H) | exact H
                                  have Ny353 := Aside0.mk hy353
                                  clear hy353
                                  have H' := Aside0.mk H
                                  clear H
                                  obtain ⟨Ao40, co40, eo40⟩ := Kd.R_slice HO_14.out
                                  subst eo40
                                  have p346 : 0 ≤ (x15_3 : Int) := of_decide_eq_true (by first | (with_reducible assumption) | assumption)
                                  have q346 : x15_3 < (t343.length : Int) := of_decide_eq_true (by first | (with_reducible assumption) | assumption)
                                  obtain ⟨ad346, e346, hx346_0, hx346_1⟩ := at_T36 (Kd.R_reads' HO_14.out).2.2 x15_3 p346 q346
                                  cases e346
                                  replace p346 := eq_true p346
                                  replace q346 := eq_true q346
                                  have p347 : 0 ≤ (x15_3 : Int) := of_decide_eq_true (by first | (with_reducible assumption) | assumption)
                                  have q347 : x15_3 < (t343.length : Int) := of_decide_eq_true (by first | (with_reducible assumption) | assumption)
                                  obtain ⟨ad347, e347, hx347_0, hx347_1⟩ := at_T36 (Kd.R_reads' HO_14.out).2.2 x15_3 p347 q347
                                  obtain rfl : ad346 = ad347 := (by injection e347)
                                  replace p347 := eq_true p347
                                  replace q347 := eq_true q347
                                  have q41 : (((rd_T36 t343 x15_3).f1) : Int) ≤ ((l0.length : Int) : Int) := of_decide_eq_true (by first | (with_reducible assumption) | assumption)
                                  obtain ⟨i041, hi041, _, hsz41, _⟩ := info_parts info41
                                  have hroom41 : l0.length ≤ c0 := HC0.out
                                  have hC41 : Kd.C k41 _ A0 l0.length l0 := HR0.out
                                  have ql41 : (((rd_T36 t343 x15_3).f0) : Int) ≤ (((rd_T36 t343 x15_3).f1) : Int) := of_decide_eq_true (by first | (with_reducible assumption) | assumption)
                                  have q041 : (0 : Int) ≤ (((rd_T36 t343 x15_3).f0) : Int) := of_decide_eq_true (by first | (with_reducible assumption) | assumption)
                                  have hcut41 := cut_mid (P := Tryd.prog) 22 41 .i64 .i64 Tryd.underlying22 hi041 2 hsz41 A0 l0.length c0 ((rd_T36 t343 x15_3).f0) ((rd_T36 t343 x15_3).f1) q041 ql41 q41 hroom41
                                  have hr41 := Kd.C_mid (lo := (((rd_T36 t343 x15_3).f0) : Int).toNat) (hi := (((rd_T36 t343 x15_3).f1) : Int).toNat) (c := c0) hC41 (by omega) (by omega) hroom41
                                  obtain ⟨A41, hA41⟩ : ∃ A1, A1 = (if c0 = (((rd_T36 t343 x15_3).f0) : Int).toNat then A0 else (A0 : Option Addr).map (·.add ((((rd_T36 t343 x15_3).f0) : Int).toNat * 2))) := ⟨_, rfl⟩
                                  obtain ⟨c41, hc41⟩ : ∃ c1, c1 = c0 - (((rd_T36 t343 x15_3).f0) : Int).toNat := ⟨_, rfl⟩
                                  have hy41 : y348.length = (((rd_T36 t343 x15_3).f1) : Int).toNat - (((rd_T36 t343 x15_3).f0) : Int).toNat := (by rw [Ny348.out, List.length_drop, List.length_take] <;> omega)
                                  rw [show ((l0).take (((rd_T36 t343 x15_3).f1) : Int).toNat).drop (((rd_T36 t343 x15_3).f0) : Int).toNat = y348 from Ny348.out.symm] at hr41
                                  replace hr41 : Kd.C k41 _ A41 y348.length y348 := (by rw [hA41]; exact hr41)
                                  rw [← hy41, ← hA41, ← hc41] at hcut41
                                  have HR351 := Aside0.mk hr41
                                  have HC351 := Aside0.mk (show y348.length ≤ c41 from by rw [hy41, hc41]; exact Nat.sub_le_sub_right (Nat.le_trans (by omega) hroom41) _)
                                  clear hr41 hC41 hroom41 hi041 hsz41 hc41
                                  have KY41 := Aside0.mk hy41
                                  have KA41 := Aside0.mk hA41
                                  clear hy41 hA41
                                  replace q41 := eq_true q41
                                  go_wp2_with (first | (go_at_call 18; (with_reducible refine (sennitref21_Dull.calls k3 _ _ y348 false _ ?side1 ?side2 A35.out).mono ?_); (case side1 => repeat (first | exact (Kd.C_below HR351.out HB.out) | (with_reducible refine Kd.C_alloc ?_ _) | (with_reducible refine Kd.C_drewN ?_ _) | (with_reducible refine Kd.C_drew ?_))); (case side2 => exact HC351.out); rintro e w' ⟨rfl, ⟨nd, rfl⟩⟩; (try first | exact ⟨rfl, _, World.drewN_drewN _ _ _⟩ | exact ⟨rfl, _, Eq.trans (World.drewN_drewN _ _ _) (congrArg (World.drewN _) (Nat.add_assoc _ _ _))⟩)) | ((with_reducible refine gate_builtin (b := .append) (xs := #[.tmp 98, .tmp 99]) rfl ?_); at_builtin; refine Kd.R_append_rows k41 (w0 := w) w.heap.size rfl (.tmp 98) (.tmp 99) 22 41 (.agg #[(.string ⟨#[]⟩), (.string ⟨#[]⟩)]) 32 rfl Tryd.underlying22 info41 rfl (by decide) (by omega) u13 x13_3 y348 _ _ _ (fun k_ => some k_ ≠ (u10 : Value).ownBlock) (fun _ => False) rfl rfl ?aO ?aR (fun _ _ h => h) (fun _ h => h.elim) ?aF ?aB ?aS ?aL ?_; (case aR => repeat (first | exact (Kd.C_below HR351.out (by repeat (first | (with_reducible first | exact HB.out | apply below_alloc | apply pw_below_drewN | apply below_drew1) | exact HB.out))) | (with_reducible refine Kd.C_alloc ?_ _) | (with_reducible refine Kd.C_drewN ?_ _) | (with_reducible refine Kd.C_drew ?_))); (case aB => exact (by repeat (first | (with_reducible first | exact HB.out | apply below_alloc | apply pw_below_drewN | apply below_drew1) | exact HB.out))); (case aF => exact (fun k_ hk => Kd.fresh' (Kd.R_lt (by (with_reducible repeat (first | apply Kd.R_alloc | apply Kd.R_drewN | apply Kd.R_drew)); exact HO_10.out)) k_ hk)); (case aO => exact (by (with_reducible repeat (first | apply Kd.R_alloc | apply Kd.R_drewN | apply Kd.R_drew)); exact HO_13.out)); (case aS => exact (below_size (by repeat (first | (with_reducible first | exact HB.out | apply below_alloc | apply pw_below_drewN | apply below_drew1) | exact HB.out)))); (case aL => have := LMc39.out; omega); intro v354 w42 ho hb hg hat; rw [← Ny353.out] at ho; have n0_ := Aside0.mk (Kd.R_after (ok := (fun _ => True)) (by (with_reducible repeat (first | apply Kd.R_alloc | apply Kd.R_drewN | apply Kd.R_drew)); exact Kd.R_mono HO_10.out (fun _ hk => ⟨trivial, hk⟩)) hg hat); have n1_ := Aside0.mk (Kd.R_over' (by (with_reducible repeat (first | apply Kd.R_alloc | apply Kd.R_drewN | apply Kd.R_drew)); exact HO_14.out) (Kd.R_typed (by (with_reducible repeat (first | apply Kd.R_alloc | apply Kd.R_drewN | apply Kd.R_drew)); exact HO_13.out)) (by decide) hg); have n2_ := Aside0.mk (hb); have n3_ := Aside0.mk (ho); clear HO_10; clear HO_14; clear HB; clear HO_13; have HO_10 := n0_; have HO_14 := n1_; have HB := n2_; have HO355 := n3_; clear n0_ n1_ n2_ n3_; clear ho hb hg hat))
                                  repeat (go_quiet (first | (go_at_call 18; (with_reducible refine (sennitref21_Dull.calls k3 _ _ y348 false _ ?side1 ?side2 A35.out).mono ?_); (case side1 => repeat (first | exact (Kd.C_below HR351.out HB.out) | (with_reducible refine Kd.C_alloc ?_ _) | (with_reducible refine Kd.C_drewN ?_ _) | (with_reducible refine Kd.C_drew ?_))); (case side2 => exact HC351.out); rintro e w' ⟨rfl, ⟨nd, rfl⟩⟩; (try first | exact ⟨rfl, _, World.drewN_drewN _ _ _⟩ | exact ⟨rfl, _, Eq.trans (World.drewN_drewN _ _ _) (congrArg (World.drewN _) (Nat.add_assoc _ _ _))⟩)) | ((with_reducible refine gate_builtin (b := .append) (xs := #[.tmp 98, .tmp 99]) rfl ?_); at_builtin; refine Kd.R_append_rows k41 (w0 := w) w.heap.size rfl (.tmp 98) (.tmp 99) 22 41 (.agg #[(.string ⟨#[]⟩), (.string ⟨#[]⟩)]) 32 rfl Tryd.underlying22 info41 rfl (by decide) (by omega) u13 x13_3 y348 _ _ _ (fun k_ => some k_ ≠ (u10 : Value).ownBlock) (fun _ => False) rfl rfl ?aO ?aR (fun _ _ h => h) (fun _ h => h.elim) ?aF ?aB ?aS ?aL ?_; (case aR => repeat (first | exact (Kd.C_below HR351.out (by repeat (first | (with_reducible first | exact HB.out | apply below_alloc | apply pw_below_drewN | apply below_drew1) | exact HB.out))) | (with_reducible refine Kd.C_alloc ?_ _) | (with_reducible refine Kd.C_drewN ?_ _) | (with_reducible refine Kd.C_drew ?_))); (case aB => exact (by repeat (first | (with_reducible first | exact HB.out | apply below_alloc | apply pw_below_drewN | apply below_drew1) | exact HB.out))); (case aF => exact (fun k_ hk => Kd.fresh' (Kd.R_lt (by (with_reducible repeat (first | apply Kd.R_alloc | apply Kd.R_drewN | apply Kd.R_drew)); exact HO_10.out)) k_ hk)); (case aO => exact (by (with_reducible repeat (first | apply Kd.R_alloc | apply Kd.R_drewN | apply Kd.R_drew)); exact HO_13.out)); (case aS => exact (below_size (by repeat (first | (with_reducible first | exact HB.out | apply below_alloc | apply pw_below_drewN | apply below_drew1) | exact HB.out)))); (case aL => have := LMc39.out; omega); intro v354 w42 ho hb hg hat; rw [← Ny353.out] at ho; have n0_ := Aside0.mk (Kd.R_after (ok := (fun _ => True)) (by (with_reducible repeat (first | apply Kd.R_alloc | apply Kd.R_drewN | apply Kd.R_drew)); exact Kd.R_mono HO_10.out (fun _ hk => ⟨trivial, hk⟩)) hg hat); have n1_ := Aside0.mk (Kd.R_over' (by (with_reducible repeat (first | apply Kd.R_alloc | apply Kd.R_drewN | apply Kd.R_drew)); exact HO_14.out) (Kd.R_typed (by (with_reducible repeat (first | apply Kd.R_alloc | apply Kd.R_drewN | apply Kd.R_drew)); exact HO_13.out)) (by decide) hg); have n2_ := Aside0.mk (hb); have n3_ := Aside0.mk (ho); clear HO_10; clear HO_14; clear HB; clear HO_13; have HO_10 := n0_; have HO_14 := n1_; have HB := n2_; have HO355 := n3_; clear n0_ n1_ n2_ n3_; clear ho hb hg hat)); try go_wp2_with (first | (go_at_call 18; (with_reducible refine (sennitref21_Dull.calls k3 _ _ y348 false _ ?side1 ?side2 A35.out).mono ?_); (case side1 => repeat (first | exact (Kd.C_below HR351.out HB.out) | (with_reducible refine Kd.C_alloc ?_ _) | (with_reducible refine Kd.C_drewN ?_ _) | (with_reducible refine Kd.C_drew ?_))); (case side2 => exact HC351.out); rintro e w' ⟨rfl, ⟨nd, rfl⟩⟩; (try first | exact ⟨rfl, _, World.drewN_drewN _ _ _⟩ | exact ⟨rfl, _, Eq.trans (World.drewN_drewN _ _ _) (congrArg (World.drewN _) (Nat.add_assoc _ _ _))⟩)) | ((with_reducible refine gate_builtin (b := .append) (xs := #[.tmp 98, .tmp 99]) rfl ?_); at_builtin; refine Kd.R_append_rows k41 (w0 := w) w.heap.size rfl (.tmp 98) (.tmp 99) 22 41 (.agg #[(.string ⟨#[]⟩), (.string ⟨#[]⟩)]) 32 rfl Tryd.underlying22 info41 rfl (by decide) (by omega) u13 x13_3 y348 _ _ _ (fun k_ => some k_ ≠ (u10 : Value).ownBlock) (fun _ => False) rfl rfl ?aO ?aR (fun _ _ h => h) (fun _ h => h.elim) ?aF ?aB ?aS ?aL ?_; (case aR => repeat (first | exact (Kd.C_below HR351.out (by repeat (first | (with_reducible first | exact HB.out | apply below_alloc | apply pw_below_drewN | apply below_drew1) | exact HB.out))) | (with_reducible refine Kd.C_alloc ?_ _) | (with_reducible refine Kd.C_drewN ?_ _) | (with_reducible refine Kd.C_drew ?_))); (case aB => exact (by repeat (first | (with_reducible first | exact HB.out | apply below_alloc | apply pw_below_drewN | apply below_drew1) | exact HB.out))); (case aF => exact (fun k_ hk => Kd.fresh' (Kd.R_lt (by (with_reducible repeat (first | apply Kd.R_alloc | apply Kd.R_drewN | apply Kd.R_drew)); exact HO_10.out)) k_ hk)); (case aO => exact (by (with_reducible repeat (first | apply Kd.R_alloc | apply Kd.R_drewN | apply Kd.R_drew)); exact HO_13.out)); (case aS => exact (below_size (by repeat (first | (with_reducible first | exact HB.out | apply below_alloc | apply pw_below_drewN | apply below_drew1) | exact HB.out)))); (case aL => have := LMc39.out; omega); intro v354 w42 ho hb hg hat; rw [← Ny353.out] at ho; have n0_ := Aside0.mk (Kd.R_after (ok := (fun _ => True)) (by (with_reducible repeat (first | apply Kd.R_alloc | apply Kd.R_drewN | apply Kd.R_drew)); exact Kd.R_mono HO_10.out (fun _ hk => ⟨trivial, hk⟩)) hg hat); have n1_ := Aside0.mk (Kd.R_over' (by (with_reducible repeat (first | apply Kd.R_alloc | apply Kd.R_drewN | apply Kd.R_drew)); exact HO_14.out) (Kd.R_typed (by (with_reducible repeat (first | apply Kd.R_alloc | apply Kd.R_drewN | apply Kd.R_drew)); exact HO_13.out)) (by decide) hg); have n2_ := Aside0.mk (hb); have n3_ := Aside0.mk (ho); clear HO_10; clear HO_14; clear HB; clear HO_13; have HO_10 := n0_; have HO_14 := n1_; have HB := n2_; have HO355 := n3_; clear n0_ n1_ n2_ n3_; clear ho hb hg hat)))
                                  go_roundg k3
                                  case measure => have := HJ4.out; have := HK2.out; have := HK3.out; omega
                                  case rel => exact ⟨(y353), (wrap64 (x15_3 + 1)), (by first | rfl | (simp; done) | (simp [*]; done)), H', ⟨by have := HJ4.out; have := HK2.out; have := HK3.out; omega⟩, ⟨by (with_reducible repeat (first | apply Kd.R_alloc | apply Kd.R_drewN | apply Kd.R_drew)); exact Kd.R_mono HO_10.out (fun _ hk => hk.2)⟩, ⟨by (with_reducible repeat (first | apply Kd.R_alloc | apply Kd.R_drewN | apply Kd.R_drew)); exact HO355.out⟩, ⟨by (with_reducible repeat (first | apply Kd.R_alloc | apply Kd.R_drewN | apply Kd.R_drew)); exact HO_14.out⟩, ⟨by repeat (first | (with_reducible first | exact HB.out | apply below_alloc | apply pw_below_drewN | apply below_drew1) | exact HB.out)⟩⟩
                                · rw [if_neg c39] at H
                                  exact absurd H (by simp)
                            · replace c34 := Bool.eq_false_iff.mpr c34
                              subst c34
                              have H1 : (if x13_3.length + y348.length < 4398046511104 then (sennitlaw21_HunkCovers.l2 k3 l0 false t327 t333 x10_2 (x13_3 ++ y348) t343 (wrap64 (x15_3 + 1))) else (none)) = some r := by rw [if_neg (show ¬ (false = true) by decide)] at H; exact H
                              clear H
                              have H := H1
                              clear H1
                              by_cases c43 : x13_3.length + y348.length < 4398046511104
                              · rw [if_pos c43] at H
                                have LMc43 := Aside0.mk c43
                                clear c43
                                obtain ⟨y356, hy356⟩ : ∃ y_ : List (S41), y_ = (x13_3 ++ y348) := ⟨_, rfl⟩
                                replace H : (sennitlaw21_HunkCovers.l2 k3 l0 false t327 t333 x10_2 y356 t343 (wrap64 (x15_3 + 1))) = some r := by first | (rw [hy356]; with_reducible exact H) | (have H2_ := (Option.bind_some _ _).symm.trans H; rw [hy356]; with_reducible exact H2_) | (have H2_ := (Option.bind_some _ _).symm.trans H; with_reducible exact H2_) | with_reducible exact H | (rw [hy356]; exact H) | exact H
                                have Ny356 := Aside0.mk hy356
                                clear hy356
                                have H' := Aside0.mk H
                                clear H
                                obtain ⟨Ao44, co44, eo44⟩ := Kd.R_slice HO_14.out
                                subst eo44
                                have p346 : 0 ≤ (x15_3 : Int) := of_decide_eq_true (by first | (with_reducible assumption) | assumption)
                                have q346 : x15_3 < (t343.length : Int) := of_decide_eq_true (by first | (with_reducible assumption) | assumption)
                                obtain ⟨ad346, e346, hx346_0, hx346_1⟩ := at_T36 (Kd.R_reads' HO_14.out).2.2 x15_3 p346 q346
                                cases e346
                                replace p346 := eq_true p346
                                replace q346 := eq_true q346
                                have p347 : 0 ≤ (x15_3 : Int) := of_decide_eq_true (by first | (with_reducible assumption) | assumption)
                                have q347 : x15_3 < (t343.length : Int) := of_decide_eq_true (by first | (with_reducible assumption) | assumption)
                                obtain ⟨ad347, e347, hx347_0, hx347_1⟩ := at_T36 (Kd.R_reads' HO_14.out).2.2 x15_3 p347 q347
                                obtain rfl : ad346 = ad347 := (by injection e347)
                                replace p347 := eq_true p347
                                replace q347 := eq_true q347
                                have q45 : (((rd_T36 t343 x15_3).f1) : Int) ≤ ((l0.length : Int) : Int) := of_decide_eq_true (by first | (with_reducible assumption) | assumption)
                                obtain ⟨i045, hi045, _, hsz45, _⟩ := info_parts info41
                                have hroom45 : l0.length ≤ c0 := HC0.out
                                have hC45 : Kd.C k41 _ A0 l0.length l0 := HR0.out
                                have ql45 : (((rd_T36 t343 x15_3).f0) : Int) ≤ (((rd_T36 t343 x15_3).f1) : Int) := of_decide_eq_true (by first | (with_reducible assumption) | assumption)
                                have q045 : (0 : Int) ≤ (((rd_T36 t343 x15_3).f0) : Int) := of_decide_eq_true (by first | (with_reducible assumption) | assumption)
                                have hcut45 := cut_mid (P := Tryd.prog) 22 41 .i64 .i64 Tryd.underlying22 hi045 2 hsz45 A0 l0.length c0 ((rd_T36 t343 x15_3).f0) ((rd_T36 t343 x15_3).f1) q045 ql45 q45 hroom45
                                have hr45 := Kd.C_mid (lo := (((rd_T36 t343 x15_3).f0) : Int).toNat) (hi := (((rd_T36 t343 x15_3).f1) : Int).toNat) (c := c0) hC45 (by omega) (by omega) hroom45
                                obtain ⟨A45, hA45⟩ : ∃ A1, A1 = (if c0 = (((rd_T36 t343 x15_3).f0) : Int).toNat then A0 else (A0 : Option Addr).map (·.add ((((rd_T36 t343 x15_3).f0) : Int).toNat * 2))) := ⟨_, rfl⟩
                                obtain ⟨c45, hc45⟩ : ∃ c1, c1 = c0 - (((rd_T36 t343 x15_3).f0) : Int).toNat := ⟨_, rfl⟩
                                have hy45 : y348.length = (((rd_T36 t343 x15_3).f1) : Int).toNat - (((rd_T36 t343 x15_3).f0) : Int).toNat := (by rw [Ny348.out, List.length_drop, List.length_take] <;> omega)
                                rw [show ((l0).take (((rd_T36 t343 x15_3).f1) : Int).toNat).drop (((rd_T36 t343 x15_3).f0) : Int).toNat = y348 from Ny348.out.symm] at hr45
                                replace hr45 : Kd.C k41 _ A45 y348.length y348 := (by rw [hA45]; exact hr45)
                                rw [← hy45, ← hA45, ← hc45] at hcut45
                                have HR351 := Aside0.mk hr45
                                have HC351 := Aside0.mk (show y348.length ≤ c45 from by rw [hy45, hc45]; exact Nat.sub_le_sub_right (Nat.le_trans (by omega) hroom45) _)
                                clear hr45 hC45 hroom45 hi045 hsz45 hc45
                                have KY45 := Aside0.mk hy45
                                have KA45 := Aside0.mk hA45
                                clear hy45 hA45
                                replace q45 := eq_true q45
                                go_wp2_with (first | ((with_reducible refine gate_builtin (b := .append) (xs := #[.tmp 98, .tmp 99]) rfl ?_); at_builtin; refine Kd.R_append_rows k41 (w0 := w) w.heap.size rfl (.tmp 98) (.tmp 99) 22 41 (.agg #[(.string ⟨#[]⟩), (.string ⟨#[]⟩)]) 32 rfl Tryd.underlying22 info41 rfl (by decide) (by omega) u13 x13_3 y348 _ _ _ (fun k_ => some k_ ≠ (u10 : Value).ownBlock) (fun _ => False) rfl rfl ?aO ?aR (fun _ _ h => h) (fun _ h => h.elim) ?aF ?aB ?aS ?aL ?_; (case aR => repeat (first | exact (Kd.C_below HR351.out (by repeat (first | (with_reducible first | exact HB.out | apply below_alloc | apply pw_below_drewN | apply below_drew1) | exact HB.out))) | (with_reducible refine Kd.C_alloc ?_ _) | (with_reducible refine Kd.C_drewN ?_ _) | (with_reducible refine Kd.C_drew ?_))); (case aB => exact (by repeat (first | (with_reducible first | exact HB.out | apply below_alloc | apply pw_below_drewN | apply below_drew1) | exact HB.out))); (case aF => exact (fun k_ hk => Kd.fresh' (Kd.R_lt (by (with_reducible repeat (first | apply Kd.R_alloc | apply Kd.R_drewN | apply Kd.R_drew)); exact HO_10.out)) k_ hk)); (case aO => exact (by (with_reducible repeat (first | apply Kd.R_alloc | apply Kd.R_drewN | apply Kd.R_drew)); exact HO_13.out)); (case aS => exact (below_size (by repeat (first | (with_reducible first | exact HB.out | apply below_alloc | apply pw_below_drewN | apply below_drew1) | exact HB.out)))); (case aL => have := LMc43.out; omega); intro v357 w46 ho hb hg hat; rw [← Ny356.out] at ho; have n0_ := Aside0.mk (Kd.R_after (ok := (fun _ => True)) (by (with_reducible repeat (first | apply Kd.R_alloc | apply Kd.R_drewN | apply Kd.R_drew)); exact Kd.R_mono HO_10.out (fun _ hk => ⟨trivial, hk⟩)) hg hat); have n1_ := Aside0.mk (Kd.R_over' (by (with_reducible repeat (first | apply Kd.R_alloc | apply Kd.R_drewN | apply Kd.R_drew)); exact HO_14.out) (Kd.R_typed (by (with_reducible repeat (first | apply Kd.R_alloc | apply Kd.R_drewN | apply Kd.R_drew)); exact HO_13.out)) (by decide) hg); have n2_ := Aside0.mk (hb); have n3_ := Aside0.mk (ho); clear HO_10; clear HO_14; clear HB; clear HO_13; have HO_10 := n0_; have HO_14 := n1_; have HB := n2_; have HO358 := n3_; clear n0_ n1_ n2_ n3_; clear ho hb hg hat))
                                repeat (go_quiet (first | ((with_reducible refine gate_builtin (b := .append) (xs := #[.tmp 98, .tmp 99]) rfl ?_); at_builtin; refine Kd.R_append_rows k41 (w0 := w) w.heap.size rfl (.tmp 98) (.tmp 99) 22 41 (.agg #[(.string ⟨#[]⟩), (.string ⟨#[]⟩)]) 32 rfl Tryd.underlying22 info41 rfl (by decide) (by omega) u13 x13_3 y348 _ _ _ (fun k_ => some k_ ≠ (u10 : Value).ownBlock) (fun _ => False) rfl rfl ?aO ?aR (fun _ _ h => h) (fun _ h => h.elim) ?aF ?aB ?aS ?aL ?_; (case aR => repeat (first | exact (Kd.C_below HR351.out (by repeat (first | (with_reducible first | exact HB.out | apply below_alloc | apply pw_below_drewN | apply below_drew1) | exact HB.out))) | (with_reducible refine Kd.C_alloc ?_ _) | (with_reducible refine Kd.C_drewN ?_ _) | (with_reducible refine Kd.C_drew ?_))); (case aB => exact (by repeat (first | (with_reducible first | exact HB.out | apply below_alloc | apply pw_below_drewN | apply below_drew1) | exact HB.out))); (case aF => exact (fun k_ hk => Kd.fresh' (Kd.R_lt (by (with_reducible repeat (first | apply Kd.R_alloc | apply Kd.R_drewN | apply Kd.R_drew)); exact HO_10.out)) k_ hk)); (case aO => exact (by (with_reducible repeat (first | apply Kd.R_alloc | apply Kd.R_drewN | apply Kd.R_drew)); exact HO_13.out)); (case aS => exact (below_size (by repeat (first | (with_reducible first | exact HB.out | apply below_alloc | apply pw_below_drewN | apply below_drew1) | exact HB.out)))); (case aL => have := LMc43.out; omega); intro v357 w46 ho hb hg hat; rw [← Ny356.out] at ho; have n0_ := Aside0.mk (Kd.R_after (ok := (fun _ => True)) (by (with_reducible repeat (first | apply Kd.R_alloc | apply Kd.R_drewN | apply Kd.R_drew)); exact Kd.R_mono HO_10.out (fun _ hk => ⟨trivial, hk⟩)) hg hat); have n1_ := Aside0.mk (Kd.R_over' (by (with_reducible repeat (first | apply Kd.R_alloc | apply Kd.R_drewN | apply Kd.R_drew)); exact HO_14.out) (Kd.R_typed (by (with_reducible repeat (first | apply Kd.R_alloc | apply Kd.R_drewN | apply Kd.R_drew)); exact HO_13.out)) (by decide) hg); have n2_ := Aside0.mk (hb); have n3_ := Aside0.mk (ho); clear HO_10; clear HO_14; clear HB; clear HO_13; have HO_10 := n0_; have HO_14 := n1_; have HB := n2_; have HO358 := n3_; clear n0_ n1_ n2_ n3_; clear ho hb hg hat)); try go_wp2_with (first | ((with_reducible refine gate_builtin (b := .append) (xs := #[.tmp 98, .tmp 99]) rfl ?_); at_builtin; refine Kd.R_append_rows k41 (w0 := w) w.heap.size rfl (.tmp 98) (.tmp 99) 22 41 (.agg #[(.string ⟨#[]⟩), (.string ⟨#[]⟩)]) 32 rfl Tryd.underlying22 info41 rfl (by decide) (by omega) u13 x13_3 y348 _ _ _ (fun k_ => some k_ ≠ (u10 : Value).ownBlock) (fun _ => False) rfl rfl ?aO ?aR (fun _ _ h => h) (fun _ h => h.elim) ?aF ?aB ?aS ?aL ?_; (case aR => repeat (first | exact (Kd.C_below HR351.out (by repeat (first | (with_reducible first | exact HB.out | apply below_alloc | apply pw_below_drewN | apply below_drew1) | exact HB.out))) | (with_reducible refine Kd.C_alloc ?_ _) | (with_reducible refine Kd.C_drewN ?_ _) | (with_reducible refine Kd.C_drew ?_))); (case aB => exact (by repeat (first | (with_reducible first | exact HB.out | apply below_alloc | apply pw_below_drewN | apply below_drew1) | exact HB.out))); (case aF => exact (fun k_ hk => Kd.fresh' (Kd.R_lt (by (with_reducible repeat (first | apply Kd.R_alloc | apply Kd.R_drewN | apply Kd.R_drew)); exact HO_10.out)) k_ hk)); (case aO => exact (by (with_reducible repeat (first | apply Kd.R_alloc | apply Kd.R_drewN | apply Kd.R_drew)); exact HO_13.out)); (case aS => exact (below_size (by repeat (first | (with_reducible first | exact HB.out | apply below_alloc | apply pw_below_drewN | apply below_drew1) | exact HB.out)))); (case aL => have := LMc43.out; omega); intro v357 w46 ho hb hg hat; rw [← Ny356.out] at ho; have n0_ := Aside0.mk (Kd.R_after (ok := (fun _ => True)) (by (with_reducible repeat (first | apply Kd.R_alloc | apply Kd.R_drewN | apply Kd.R_drew)); exact Kd.R_mono HO_10.out (fun _ hk => ⟨trivial, hk⟩)) hg hat); have n1_ := Aside0.mk (Kd.R_over' (by (with_reducible repeat (first | apply Kd.R_alloc | apply Kd.R_drewN | apply Kd.R_drew)); exact HO_14.out) (Kd.R_typed (by (with_reducible repeat (first | apply Kd.R_alloc | apply Kd.R_drewN | apply Kd.R_drew)); exact HO_13.out)) (by decide) hg); have n2_ := Aside0.mk (hb); have n3_ := Aside0.mk (ho); clear HO_10; clear HO_14; clear HB; clear HO_13; have HO_10 := n0_; have HO_14 := n1_; have HB := n2_; have HO358 := n3_; clear n0_ n1_ n2_ n3_; clear ho hb hg hat)))
                                go_roundg k3
                                case measure => have := HJ4.out; have := HK2.out; have := HK3.out; omega
                                case rel => exact ⟨(y356), (wrap64 (x15_3 + 1)), (by first | rfl | (simp; done) | (simp [*]; done)), H', ⟨by have := HJ4.out; have := HK2.out; have := HK3.out; omega⟩, ⟨by (with_reducible repeat (first | apply Kd.R_alloc | apply Kd.R_drewN | apply Kd.R_drew)); exact Kd.R_mono HO_10.out (fun _ hk => hk.2)⟩, ⟨by (with_reducible repeat (first | apply Kd.R_alloc | apply Kd.R_drewN | apply Kd.R_drew)); exact HO358.out⟩, ⟨by (with_reducible repeat (first | apply Kd.R_alloc | apply Kd.R_drewN | apply Kd.R_drew)); exact HO_14.out⟩, ⟨by repeat (first | (with_reducible first | exact HB.out | apply below_alloc | apply pw_below_drewN | apply below_drew1) | exact HB.out)⟩⟩
                              · rw [if_neg c43] at H
                                exact absurd H (by simp)
                          · rw [if_neg c33] at H
                            exact absurd H (by simp)
                        · rw [if_neg c32] at H
                          exact absurd H (by simp)
                      · rw [if_neg c31] at H
                        exact absurd H (by simp)
                    · rw [if_neg c30] at H
                      exact absurd H (by simp)
                  · rw [if_neg c29] at H
                    have c29b0 : decide (x15_3 < (t343.length : Int)) = false := decide_eq_false c29
                    clear c29
                    by_cases c47 : t327 = true
                    · subst c47
                      have H1 : (if t333 = 0 then ((sennitref19_Same.f k3 x10_2 x13_3).bind fun t359 => (some t359)) else (some false)) = some r := by rw [if_pos rfl] at H; exact H
                      clear H
                      have H := H1
                      clear H1
                      by_cases c48 : t333 = 0
                      · rw [if_pos c48] at H
                        have c48b0 : (t333 == 0) = true := beq_iff_eq.mpr c48
                        have c48b1 : (t333 != 0) = false := bne_eq_false_iff_eq.mpr c48
                        clear c48
                        replace H := Option.bind_eq_some_iff.mp H
                        obtain ⟨t359, A490, H⟩ := H
                        replace H : (some t359) = some r := H
                        have A49 := Aside0.mk A490
                        clear A490
                        obtain rfl := Option.some.inj H
                        obtain ⟨Ao50, co50, eo50⟩ := Kd.R_slice HO_14.out
                        subst eo50
                        obtain ⟨Ao51, co51, eo51⟩ := Kd.R_slice HO_10.out
                        subst eo51
                        obtain ⟨Ao52, co52, eo52⟩ := Kd.R_slice HO_13.out
                        subst eo52
                        go_wp2_with (first | (go_at_call 21; (with_reducible refine (sennitref19_Same.calls k3 _ _ x10_2 _ _ x13_3 t359 _ ?side1 ?side2 ?side3 ?side4 A49.out).mono ?_); (case side1 => repeat (first | exact (Kd.R_reads' HO_10.out).2.2 | (with_reducible refine Kd.C_alloc ?_ _) | (with_reducible refine Kd.C_drewN ?_ _) | (with_reducible refine Kd.C_drew ?_))); (case side2 => exact (Kd.R_reads' HO_10.out).2.1); (case side3 => repeat (first | exact (Kd.R_reads' HO_13.out).2.2 | (with_reducible refine Kd.C_alloc ?_ _) | (with_reducible refine Kd.C_drewN ?_ _) | (with_reducible refine Kd.C_drew ?_))); (case side4 => exact (Kd.R_reads' HO_13.out).2.1); rintro e w' ⟨rfl, ⟨nd, rfl⟩⟩; (try first | exact ⟨rfl, _, World.drewN_drewN _ _ _⟩ | exact ⟨rfl, _, Eq.trans (World.drewN_drewN _ _ _) (congrArg (World.drewN _) (Nat.add_assoc _ _ _))⟩)))
                        repeat (go_quiet (first | (go_at_call 21; (with_reducible refine (sennitref19_Same.calls k3 _ _ x10_2 _ _ x13_3 t359 _ ?side1 ?side2 ?side3 ?side4 A49.out).mono ?_); (case side1 => repeat (first | exact (Kd.R_reads' HO_10.out).2.2 | (with_reducible refine Kd.C_alloc ?_ _) | (with_reducible refine Kd.C_drewN ?_ _) | (with_reducible refine Kd.C_drew ?_))); (case side2 => exact (Kd.R_reads' HO_10.out).2.1); (case side3 => repeat (first | exact (Kd.R_reads' HO_13.out).2.2 | (with_reducible refine Kd.C_alloc ?_ _) | (with_reducible refine Kd.C_drewN ?_ _) | (with_reducible refine Kd.C_drew ?_))); (case side4 => exact (Kd.R_reads' HO_13.out).2.1); rintro e w' ⟨rfl, ⟨nd, rfl⟩⟩; (try first | exact ⟨rfl, _, World.drewN_drewN _ _ _⟩ | exact ⟨rfl, _, Eq.trans (World.drewN_drewN _ _ _) (congrArg (World.drewN _) (Nat.add_assoc _ _ _))⟩))); try go_wp2_with (first | (go_at_call 21; (with_reducible refine (sennitref19_Same.calls k3 _ _ x10_2 _ _ x13_3 t359 _ ?side1 ?side2 ?side3 ?side4 A49.out).mono ?_); (case side1 => repeat (first | exact (Kd.R_reads' HO_10.out).2.2 | (with_reducible refine Kd.C_alloc ?_ _) | (with_reducible refine Kd.C_drewN ?_ _) | (with_reducible refine Kd.C_drew ?_))); (case side2 => exact (Kd.R_reads' HO_10.out).2.1); (case side3 => repeat (first | exact (Kd.R_reads' HO_13.out).2.2 | (with_reducible refine Kd.C_alloc ?_ _) | (with_reducible refine Kd.C_drewN ?_ _) | (with_reducible refine Kd.C_drew ?_))); (case side4 => exact (Kd.R_reads' HO_13.out).2.1); rintro e w' ⟨rfl, ⟨nd, rfl⟩⟩; (try first | exact ⟨rfl, _, World.drewN_drewN _ _ _⟩ | exact ⟨rfl, _, Eq.trans (World.drewN_drewN _ _ _) (congrArg (World.drewN _) (Nat.add_assoc _ _ _))⟩))))
                        go_ret
                        exact ⟨by first | rfl | (simp [errW_none, errW_some] <;> rfl) | (simp [errW_none, errW_some] <;> (generalize ByteArray.toList _ = l_ <;> cases l_ <;> rfl)) | (simp [*, errW_none, errW_some] <;> rfl), by repeat (first | (with_reducible first | exact HB.out | apply below_alloc | apply pw_below_drewN | apply below_drew1) | exact HB.out)⟩
                      · rw [if_neg c48] at H
                        have c48b0 : (t333 == 0) = false := beq_eq_false_iff_ne.mpr c48
                        have c48b1 : (t333 != 0) = true := bne_iff_ne.mpr c48
                        exact absurd ((Option.some.inj H).trans HRT.out) (by decide)
                    · replace c47 := Bool.eq_false_iff.mpr c47
                      subst c47
                      have H1 : (some false) = some r := by rw [if_neg (show ¬ (false = true) by decide)] at H; exact H
                      clear H
                      have H := H1
                      clear H1
                      exact absurd ((Option.some.inj H).trans HRT.out) (by decide)
end Go.Proofs.YtenfoaajipiehaaDoor.Q
