/- Contracts of the functions named below: each comes to what the Lean function of its name says (for every input; written by a program over the translation). -/
import Derived.Test.YtenfoaajipiehaaDoorQ0
import Derived.Test.YtenfoaajipiehaaDoorR3
import Derived.Test.YtenfoaajipiehaaDoorR4
import Derived.Test.YtenfoaajipiehaaDoorR5
import Derived.Test.YtenfoaajipiehaaDoorR8
import Derived.Test.YtenfoaajipiehaaDoorR9
import Derived.Test.YtenfoaajipiehaaDoorQ4
import Derived.Test.YtenfoaajipiehaaDoorX9
namespace Go.Proofs.YtenfoaajipiehaaDoor.Q
open Go.RowKit Go.Proofs.YtenfoaajipiehaaDoorW.PrintWords Go.Proofs.YtenfoaajipiehaaDoorW.PrintLast Go.Proofs.YtenfoaajipiehaaDoorW.PrintMore
attribute [local go_sem] max2_int min2_int max_two min_two max_three min_three max_four min_four   -- for this text's walks alone
set_option linter.unusedVariables false
set_option linter.unusedSimpArgs false
/-! ### sennitlaw21_HunkTells: function 3 -/
def sennitlaw21_HunkTells.f (k : Nat) (l0 : List (S41)) (a1 : Int) (a2 : Bool) : Option (Bool) := (sennitlaw21_awake.f k).bind fun t279 => ((sennitref21_Few.f k l0).bind fun t280 => (if t280 = true then ((hunk_Hunks.f k l0 a1 a2).bind fun bt281 => ((sennitref21_Hunks.f k l0 a1 a2).bind fun bt285 => (if t279 = true then (if bt281.2 = bt285.2 then ((sennitref21_Same.f k bt281.1 bt285.1).bind fun t289 => (some t289)) else (some false)) else (some false)))) else (some t279)))
theorem sennitlaw21_HunkTells.mono : ∀ a0 a1 a2 k, LeO (sennitlaw21_HunkTells.f k a0 a1 a2) (sennitlaw21_HunkTells.f (k + 1) a0 a1 a2) := by
  intro a0 a1 a2 k
  unfold sennitlaw21_HunkTells.f
  repeat' first
      | (with_reducible exact hunk_Hunks.mono _ _ _ _)
      | (with_reducible exact sennitlaw21_awake.mono _)
      | (with_reducible exact sennitref21_Few.mono _ _)
      | (with_reducible exact sennitref21_Hunks.mono _ _ _ _)
      | (with_reducible exact sennitref21_Same.mono _ _ _)
      | (with_reducible exact LeO.refl _)
      | (with_reducible exact LeO.none _)
      | (with_reducible refine LeO.ite ?_ ?_)
      | (with_reducible refine LeO.bind ?_ (fun _ => ?_))
      | exact hunk_Hunks.mono _ _ _ _
      | exact sennitlaw21_awake.mono _
      | exact sennitref21_Few.mono _ _
      | exact sennitref21_Hunks.mono _ _ _ _
      | exact sennitref21_Same.mono _ _ _
      | exact LeO.none _
      | refine LeO.ite ?_ ?_
      | refine LeO.bind ?_ (fun _ => ?_)
set_option maxHeartbeats 8000000 in
set_option maxRecDepth 100000 in
theorem sennitlaw21_HunkTells.calls_t (k : Nat) (A0 : Option Addr) (c0 : Nat) (l0 : List (S41)) (a1 : Int) (a2 : Bool) (r : Bool) (w : World) (hr0 : Kd.C k41 w A0 l0.length l0) (hc0 : l0.length ≤ c0) (hmx : MaxOk w) (hrt : r = true) (h : sennitlaw21_HunkTells.f k l0 a1 a2 = some r) :
    Calls Tryd.prog 3 #[.slice A0 l0.length c0, .int .i64 a1, .bool a2] w fun e w' => e = .returned (.bool r) ∧ Below w.heap.size w w' := by
  have HRT := Aside0.mk hrt
  clear hrt
  have HMX := Aside0.mk hmx
  clear hmx
  have HR0 := Aside0.mk hr0
  have HC0 := Aside0.mk hc0
  clear hr0 hc0
  have HB := Aside0.mk (Below.refl w.heap.size w)
  have H : ((sennitlaw21_awake.f k).bind fun t279 => ((sennitref21_Few.f k l0).bind fun t280 => (if t280 = true then ((hunk_Hunks.f k l0 a1 a2).bind fun bt281 => ((sennitref21_Hunks.f k l0 a1 a2).bind fun bt285 => (if t279 = true then (if bt281.2 = bt285.2 then ((sennitref21_Same.f k bt281.1 bt285.1).bind fun t289 => (some t289)) else (some false)) else (some false)))) else (some t279)))) = some r := h
  clear h
  replace H := Option.bind_eq_some_iff.mp H
  obtain ⟨t279, A40, H⟩ := H
  replace H : ((sennitref21_Few.f k l0).bind fun t280 => (if t280 = true then ((hunk_Hunks.f k l0 a1 a2).bind fun bt281 => ((sennitref21_Hunks.f k l0 a1 a2).bind fun bt285 => (if t279 = true then (if bt281.2 = bt285.2 then ((sennitref21_Same.f k bt281.1 bt285.1).bind fun t289 => (some t289)) else (some false)) else (some false)))) else (some t279))) = some r := H
  have A4 := Aside0.mk A40
  clear A40
  replace H := Option.bind_eq_some_iff.mp H
  obtain ⟨t280, A50, H⟩ := H
  replace H : (if t280 = true then ((hunk_Hunks.f k l0 a1 a2).bind fun bt281 => ((sennitref21_Hunks.f k l0 a1 a2).bind fun bt285 => (if t279 = true then (if bt281.2 = bt285.2 then ((sennitref21_Same.f k bt281.1 bt285.1).bind fun t289 => (some t289)) else (some false)) else (some false)))) else (some t279)) = some r := H
  have A5 := Aside0.mk A50
  clear A50
  by_cases c6 : t280 = true
  · subst c6
    have H1 : ((hunk_Hunks.f k l0 a1 a2).bind fun bt281 => ((sennitref21_Hunks.f k l0 a1 a2).bind fun bt285 => (if t279 = true then (if bt281.2 = bt285.2 then ((sennitref21_Same.f k bt281.1 bt285.1).bind fun t289 => (some t289)) else (some false)) else (some false)))) = some r := by rw [if_pos rfl] at H; exact H
    clear H
    have H := H1
    clear H1
    replace H := Option.bind_eq_some_iff.mp H
    obtain ⟨⟨t281, t284⟩, A70, H⟩ := H
    replace H : ((sennitref21_Hunks.f k l0 a1 a2).bind fun bt285 => (if t279 = true then (if t284 = bt285.2 then ((sennitref21_Same.f k t281 bt285.1).bind fun t289 => (some t289)) else (some false)) else (some false))) = some r := H
    have A7 := Aside0.mk A70
    clear A70
    replace H := Option.bind_eq_some_iff.mp H
    obtain ⟨⟨t285, t288⟩, A80, H⟩ := H
    replace H : (if t279 = true then (if t284 = t288 then ((sennitref21_Same.f k t281 t285).bind fun t289 => (some t289)) else (some false)) else (some false)) = some r := H
    have A8 := Aside0.mk A80
    clear A80
    by_cases c9 : t279 = true
    · subst c9
      have H1 : (if t284 = t288 then ((sennitref21_Same.f k t281 t285).bind fun t289 => (some t289)) else (some false)) = some r := by rw [if_pos rfl] at H; exact H
      clear H
      have H := H1
      clear H1
      by_cases c10 : t284 = t288
      · rw [if_pos c10] at H
        have c10b0 : (t284 == t288) = true := beq_iff_eq.mpr c10
        have c10b1 : (t284 != t288) = false := bne_eq_false_iff_eq.mpr c10
        clear c10
        replace H := Option.bind_eq_some_iff.mp H
        obtain ⟨t289, A110, H⟩ := H
        replace H : (some t289) = some r := H
        have A11 := Aside0.mk A110
        clear A110
        obtain rfl := Option.some.inj H
        go_enter Tryd.func3, Tryd.ntmps3
        go_wp2_with (first | ((with_reducible refine gate_callee (f := 9) rfl ?_); refine goesL_ (some 12) rfl rfl Tryd.func9 (by kernel_rfl) rfl #[] rfl (by (try simp only [List.map_toArray, List.map_cons, List.map_nil]); first | done | rfl | (simp only [List.length_drop, List.length_take]; rfl)) ?_; (with_reducible refine (sennitlaw21_awake.calls k  true _ ?sidemx A4.out).mono ?_); (case sidemx => exact MaxOk.below HMX.out (by repeat (first | (with_reducible first | exact HB.out | apply below_alloc | apply pw_below_drewN | apply below_drew1) | exact HB.out))); rintro e w12 ⟨rfl, hb⟩; refine ⟨_, rfl, ?_⟩; have n0_ := Aside0.mk (below_step (by repeat (first | (with_reducible first | exact HB.out | apply below_alloc | apply pw_below_drewN | apply below_drew1) | exact HB.out)) hb); clear HB; have HB := n0_; clear n0_; (try clear hb); (try clear hb2); (try clear hk); (try clear hi)) | ((with_reducible refine gate_callee (f := 10) rfl ?_); refine goesL_ (some 14) rfl rfl Tryd.func10 (by kernel_rfl) rfl #[.slice A0 l0.length c0] rfl (by (try simp only [List.map_toArray, List.map_cons, List.map_nil]); first | done | rfl | (simp only [List.length_drop, List.length_take]; rfl)) ?_; (with_reducible refine (sennitref21_Few.calls k _ _ l0 true _ ?side1 ?side2 A5.out).mono ?_); (case side1 => repeat (first | exact (Kd.C_below HR0.out HB.out) | (with_reducible refine Kd.C_alloc ?_ _) | (with_reducible refine Kd.C_drewN ?_ _) | (with_reducible refine Kd.C_drew ?_))); (case side2 => exact HC0.out); rintro e w' ⟨rfl, ⟨nd, rfl⟩⟩; refine ⟨_, rfl, ?_⟩) | ((with_reducible refine gate_callee (f := 11) rfl ?_); refine goesL_ (some 21) rfl rfl Tryd.func11 (by kernel_rfl) rfl #[.slice A0 l0.length c0, .int .i64 a1, .bool a2] rfl (by (try simp only [List.map_toArray, List.map_cons, List.map_nil]); first | done | rfl | (simp only [List.length_drop, List.length_take]; rfl)) ?_; (with_reducible refine (hunk_Hunks.calls k (fun k_ => k_ < w.heap.size) _ _ l0 a1 a2 t281 t284 _ ?side1 ?sidemx A7.out).mono ?_); (case sidemx => exact MaxOk.below HMX.out (by repeat (first | (with_reducible first | exact HB.out | apply below_alloc | apply pw_below_drewN | apply below_drew1) | exact HB.out))); (case side1 => exact Kd.V_mk HC0.out (Kd.F_below (Kd.C_F k41_heap HR0.out) (by repeat (first | (with_reducible first | exact HB.out | apply below_alloc | apply pw_below_drewN | apply below_drew1) | exact HB.out)))); rintro e w13 ⟨v282, rfl, ho0, hb⟩; refine ⟨_, rfl, ?_⟩; have n0_ := Aside0.mk (Kd.N_lower (Kd.N_mono (ok' := fun k_ => True) ho0 (fun k_ hk_ => trivial)) (below_size (by repeat (first | (with_reducible first | exact HB.out | apply below_alloc | apply pw_below_drewN | apply below_drew1) | exact HB.out)))); have n1_ := Aside0.mk (below_step (by repeat (first | (with_reducible first | exact HB.out | apply below_alloc | apply pw_below_drewN | apply below_drew1) | exact HB.out)) hb); clear HB; have HO283 := n0_; have HB := n1_; clear n0_ n1_; (try clear hb); (try clear hb2); (try clear hk); (try clear hi); (try clear ho0)) | ((with_reducible refine gate_callee (f := 12) rfl ?_); refine goesL_ (some 28) rfl rfl Tryd.func12 (by kernel_rfl) rfl #[.slice A0 l0.length c0, .int .i64 a1, .bool a2] rfl (by (try simp only [List.map_toArray, List.map_cons, List.map_nil]); first | done | rfl | (simp only [List.length_drop, List.length_take]; rfl)) ?_; (with_reducible refine (sennitref21_Hunks.calls k (fun k_ => k_ < w.heap.size) _ _ l0 a1 a2 t285 t288 _ ?side1 A8.out).mono ?_); (case side1 => exact Kd.V_mk HC0.out (Kd.F_below (Kd.C_F k41_heap HR0.out) (by repeat (first | (with_reducible first | exact HB.out | apply below_alloc | apply pw_below_drewN | apply below_drew1) | exact HB.out)))); rintro e w14 ⟨v286, rfl, ho0, hb⟩; refine ⟨_, rfl, ?_⟩; have n0_ := Aside0.mk (Kd.N_elder' (by (with_reducible repeat (first | apply Kd.N_alloc | apply Kd.N_drewN | apply Kd.N_drew)); exact HO283.out) (Kd.N_base ho0) hb); have n1_ := Aside0.mk (Kd.N_lower (Kd.N_mono (ok' := fun k_ => some k_ ≠ (v282 : Value).ownBlock) ho0 (fun k_ hk_ => Or.elim hk_ (fun hs_ => fun e_ => Nat.not_le.2 hs_ (Kd.N_base HO283.out k_ e_.symm)) (fun hn_ => (Kd.fresh' (Kd.N_lt (by (with_reducible repeat (first | apply Kd.N_alloc | apply Kd.N_drewN | apply Kd.N_drew)); exact HO283.out)) k_ hn_)))) (below_size (by repeat (first | (with_reducible first | exact HB.out | apply below_alloc | apply pw_below_drewN | apply below_drew1) | exact HB.out)))); have n2_ := Aside0.mk (below_step (by repeat (first | (with_reducible first | exact HB.out | apply below_alloc | apply pw_below_drewN | apply below_drew1) | exact HB.out)) hb); clear HO283; clear HB; have HO283 := n0_; have HO287 := n1_; have HB := n2_; clear n0_ n1_ n2_; (try clear hb); (try clear hb2); (try clear hk); (try clear hi); (try clear ho0); obtain ⟨Ao15, co15, eo15⟩ := Kd.N_slice HO283.out; subst eo15; obtain ⟨Ao16, co16, eo16⟩ := Kd.N_slice HO287.out; subst eo16) | (go_at_call 13; (with_reducible refine (sennitref21_Same.calls k _ _ t281 _ _ t285 t289 _ ?side1 ?side2 ?side3 ?side4 A11.out).mono ?_); (case side1 => repeat (first | exact (Kd.N_reads' HO283.out).2.2 | (with_reducible refine Kd.C_alloc ?_ _) | (with_reducible refine Kd.C_drewN ?_ _) | (with_reducible refine Kd.C_drew ?_))); (case side2 => exact (Kd.N_reads' HO283.out).2.1); (case side3 => repeat (first | exact (Kd.N_reads' HO287.out).2.2 | (with_reducible refine Kd.C_alloc ?_ _) | (with_reducible refine Kd.C_drewN ?_ _) | (with_reducible refine Kd.C_drew ?_))); (case side4 => exact (Kd.N_reads' HO287.out).2.1); rintro e w17 ⟨rfl, hb⟩; have n0_ := Aside0.mk (Kd.N_below (by (with_reducible repeat (first | apply Kd.N_alloc | apply Kd.N_drewN | apply Kd.N_drew)); exact HO283.out) hb); have n1_ := Aside0.mk (Kd.N_below (by (with_reducible repeat (first | apply Kd.N_alloc | apply Kd.N_drewN | apply Kd.N_drew)); exact HO287.out) hb); have n2_ := Aside0.mk (below_step (by repeat (first | (with_reducible first | exact HB.out | apply below_alloc | apply pw_below_drewN | apply below_drew1) | exact HB.out)) hb); clear HO283; clear HO287; clear HB; have HO283 := n0_; have HO287 := n1_; have HB := n2_; clear n0_ n1_ n2_; (try clear hb); (try clear hb2); (try clear hk); (try clear hi)))
        go_ret
        exact ⟨by first | rfl | (simp [errW_none, errW_some] <;> rfl) | (simp [errW_none, errW_some] <;> (generalize ByteArray.toList _ = l_ <;> cases l_ <;> rfl)) | (simp [*, errW_none, errW_some] <;> rfl), by repeat (first | (with_reducible first | exact HB.out | apply below_alloc | apply pw_below_drewN | apply below_drew1) | exact HB.out)⟩
      · rw [if_neg c10] at H
        have c10b0 : (t284 == t288) = false := beq_eq_false_iff_ne.mpr c10
        have c10b1 : (t284 != t288) = true := bne_iff_ne.mpr c10
        exact absurd ((Option.some.inj H).trans HRT.out) (by decide)
    · replace c9 := Bool.eq_false_iff.mpr c9
      subst c9
      have H1 : (some false) = some r := by rw [if_neg (show ¬ (false = true) by decide)] at H; exact H
      clear H
      have H := H1
      clear H1
      exact absurd ((Option.some.inj H).trans HRT.out) (by decide)
  · replace c6 := Bool.eq_false_iff.mpr c6
    subst c6
    have H1 : (some t279) = some r := by rw [if_neg (show ¬ (false = true) by decide)] at H; exact H
    clear H
    have H := H1
    clear H1
    obtain rfl := Option.some.inj H
    go_enter Tryd.func3, Tryd.ntmps3
    go_wp2_with (first | ((with_reducible refine gate_callee (f := 9) rfl ?_); refine goesL_ (some 12) rfl rfl Tryd.func9 (by kernel_rfl) rfl #[] rfl (by (try simp only [List.map_toArray, List.map_cons, List.map_nil]); first | done | rfl | (simp only [List.length_drop, List.length_take]; rfl)) ?_; (with_reducible refine (sennitlaw21_awake.calls k  t279 _ ?sidemx A4.out).mono ?_); (case sidemx => exact MaxOk.below HMX.out (by repeat (first | (with_reducible first | exact HB.out | apply below_alloc | apply pw_below_drewN | apply below_drew1) | exact HB.out))); rintro e w24 ⟨rfl, hb⟩; refine ⟨_, rfl, ?_⟩; have n0_ := Aside0.mk (below_step (by repeat (first | (with_reducible first | exact HB.out | apply below_alloc | apply pw_below_drewN | apply below_drew1) | exact HB.out)) hb); clear HB; have HB := n0_; clear n0_; (try clear hb); (try clear hb2); (try clear hk); (try clear hi)) | ((with_reducible refine gate_callee (f := 10) rfl ?_); refine goesL_ (some 14) rfl rfl Tryd.func10 (by kernel_rfl) rfl #[.slice A0 l0.length c0] rfl (by (try simp only [List.map_toArray, List.map_cons, List.map_nil]); first | done | rfl | (simp only [List.length_drop, List.length_take]; rfl)) ?_; (with_reducible refine (sennitref21_Few.calls k _ _ l0 false _ ?side1 ?side2 A5.out).mono ?_); (case side1 => repeat (first | exact (Kd.C_below HR0.out HB.out) | (with_reducible refine Kd.C_alloc ?_ _) | (with_reducible refine Kd.C_drewN ?_ _) | (with_reducible refine Kd.C_drew ?_))); (case side2 => exact HC0.out); rintro e w' ⟨rfl, ⟨nd, rfl⟩⟩; refine ⟨_, rfl, ?_⟩))
    go_ret
    exact ⟨by first | rfl | (simp [errW_none, errW_some] <;> rfl) | (simp [errW_none, errW_some] <;> (generalize ByteArray.toList _ = l_ <;> cases l_ <;> rfl)) | (simp [*, errW_none, errW_some] <;> rfl), by repeat (first | (with_reducible first | exact HB.out | apply below_alloc | apply pw_below_drewN | apply below_drew1) | exact HB.out)⟩

/-! ### sennitref21_begins: function 33 -/
def sennitref21_begins.f (k : Nat) (l0 : List (S41)) (a1 : Int) : Option (Bool) := if 0 ≤ a1 then (if a1 < (l0.length : Int) then ((sennitref21_Marked.f k ((rd_T41 l0 a1).f0) ((rd_T41 l0 a1).f1)).bind fun t291 => (if t291 = true then (if a1 = 0 then (some true) else (if 0 ≤ (wrap64 (a1 - 1)) then (if (wrap64 (a1 - 1)) < (l0.length : Int) then ((sennitref21_Marked.f k ((rd_T41 l0 (wrap64 (a1 - 1))).f0) ((rd_T41 l0 (wrap64 (a1 - 1))).f1)).bind fun t293 => (some (!t293))) else (none)) else (none))) else (some false))) else (none)) else (none)
theorem sennitref21_begins.mono : ∀ a0 a1 k, LeO (sennitref21_begins.f k a0 a1) (sennitref21_begins.f (k + 1) a0 a1) := by
  intro a0 a1 k
  unfold sennitref21_begins.f
  repeat' first
      | (with_reducible exact sennitref21_Marked.mono _ _ _)
      | (with_reducible exact LeO.refl _)
      | (with_reducible exact LeO.none _)
      | (with_reducible refine LeO.ite ?_ ?_)
      | (with_reducible refine LeO.bind ?_ (fun _ => ?_))
      | exact sennitref21_Marked.mono _ _ _
      | exact LeO.none _
      | refine LeO.ite ?_ ?_
      | refine LeO.bind ?_ (fun _ => ?_)
/-! ### sennitref21_Groups: function 16 -/
def sennitref21_Groups.l0 : Nat → List (S41) → List (S36) → Int → Option ((List (S36)))
  | 0, _, _, _ => none
  | k + 1, x0, x3, x4 => if x4 < (x0.length : Int) then ((sennitref21_begins.f k x0 x4).bind fun t294 => (if t294 = true then ((sennitref21_end.f k x0 x4).bind fun t295 => (if x3.length < 8796093022208 then (sennitref21_Groups.l0 k x0 (x3 ++ [(⟨x4, t295⟩ : S36)]) (wrap64 (x4 + 1))) else (none))) else (sennitref21_Groups.l0 k x0 x3 (wrap64 (x4 + 1))))) else (some x3)
def sennitref21_Groups.f (k : Nat) (l0 : List (S41)) : Option ((List (S36))) := sennitref21_Groups.l0 k l0 ([] : List (S36)) 0
theorem sennitref21_Groups.mono_l : ∀ k, (∀ y0 y1 y2, LeO (sennitref21_Groups.l0 k y0 y1 y2) (sennitref21_Groups.l0 (k + 1) y0 y1 y2))
  | 0 => fun _ _ _ r h => by simp [sennitref21_Groups.l0] at h
  | k + 1 => by
    have ih0 := sennitref21_Groups.mono_l k
    · intro y0 y1 y2
      unfold sennitref21_Groups.l0
      repeat' first
      | (with_reducible exact ih0 _ _ _)
      | (with_reducible exact sennitref21_begins.mono _ _ _)
      | (with_reducible exact sennitref21_end.mono _ _ _)
      | (with_reducible exact LeO.refl _)
      | (with_reducible exact LeO.none _)
      | (with_reducible refine LeO.ite ?_ ?_)
      | (with_reducible refine LeO.bind ?_ (fun _ => ?_))
      | exact ih0 _ _ _
      | exact sennitref21_begins.mono _ _ _
      | exact sennitref21_end.mono _ _ _
      | exact LeO.none _
      | refine LeO.ite ?_ ?_
      | refine LeO.bind ?_ (fun _ => ?_)
theorem sennitref21_Groups.mono : ∀ a0 k, LeO (sennitref21_Groups.f k a0) (sennitref21_Groups.f (k + 1) a0) := by
  intro a0 k
  have ih0 := sennitref21_Groups.mono_l k
  unfold sennitref21_Groups.f
  repeat' first
      | (with_reducible exact ih0 _ _ _)
      | (with_reducible exact sennitref21_begins.mono _ _ _)
      | (with_reducible exact sennitref21_end.mono _ _ _)
      | (with_reducible exact LeO.refl _)
      | (with_reducible exact LeO.none _)
      | (with_reducible refine LeO.ite ?_ ?_)
      | (with_reducible refine LeO.bind ?_ (fun _ => ?_))
      | exact ih0 _ _ _
      | exact sennitref21_begins.mono _ _ _
      | exact sennitref21_end.mono _ _ _
      | exact LeO.none _
      | refine LeO.ite ?_ ?_
      | refine LeO.bind ?_ (fun _ => ?_)
end Go.Proofs.YtenfoaajipiehaaDoor.Q
