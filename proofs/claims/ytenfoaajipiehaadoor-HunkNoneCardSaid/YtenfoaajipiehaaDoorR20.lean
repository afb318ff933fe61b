/- Contracts of the functions named below: each comes to what the Lean function of its name says (for every input; written by a program over the translation). -/
import Derived.Test.YtenfoaajipiehaaDoorQ0
import Derived.Test.YtenfoaajipiehaaDoorR3
import Derived.Test.YtenfoaajipiehaaDoorR4
import Derived.Test.YtenfoaajipiehaaDoorR8
import Derived.Test.YtenfoaajipiehaaDoorR13
import Derived.Test.YtenfoaajipiehaaDoorR19
import Derived.Test.YtenfoaajipiehaaDoorX9
namespace Go.Proofs.YtenfoaajipiehaaDoor.Q
open Go.RowKit Go.Proofs.YtenfoaajipiehaaDoorW.PrintWords Go.Proofs.YtenfoaajipiehaaDoorW.PrintLast Go.Proofs.YtenfoaajipiehaaDoorW.PrintMore
attribute [local go_sem] max2_int min2_int max_two min_two max_three min_three max_four min_four   -- for this text's walks alone
set_option linter.unusedVariables false
set_option linter.unusedSimpArgs false
/-! ### sennitlaw21_HunkNone: function 8 -/
def sennitlaw21_HunkNone.l0 : Nat → List ByteArray → Bool → List (S41) → List (S38) → Int → List (S38) → Int → Bool → Int → Option (Bool)
  | 0, _, _, _, _, _, _, _, _, _ => none
  | k + 1, x0, x5, x6, x8, x9, x10, x11, x12, x13 => if x13 < (x6.length : Int) then (if x12 = true then (sennitlaw21_HunkNone.l0 k x0 x5 x6 x8 x9 x10 x11 true (wrap64 (x13 + 1))) else (if 0 ≤ x13 then ((sennitref21_Marked.f k ((rd_T41 x6 x13).f0) ((rd_T41 x6 x13).f1)).bind fun t570 => (sennitlaw21_HunkNone.l0 k x0 x5 x6 x8 x9 x10 x11 t570 (wrap64 (x13 + 1)))) else (none))) else (if (x8.length : Int) = 1 then (if 0 < (x8.length : Int) then ((sennitref19_Same.f k ((rd_T38 x8 0).f2) x6).bind fun t572 => (if t572 = true then (if x5 = true then (if x9 = 0 then (if x11 = 1 then (if (x10.length : Int) = 0 then (if x12 = true then (if ((rd_T38 x8 0).f1.f1) = (x0.length : Int) then (some true) else (some false)) else (some ((x8.length : Int) == 0))) else (some false)) else (some false)) else (some false)) else (some false)) else (if x5 = true then (if x9 = 0 then (if x11 = 1 then (if (x10.length : Int) = 0 then (if x12 = true then (some false) else (some ((x8.length : Int) == 0))) else (some false)) else (some false)) else (some false)) else (some false)))) else (none)) else (if x5 = true then (if x9 = 0 then (if x11 = 1 then (if (x10.length : Int) = 0 then (if x12 = true then (some false) else (some ((x8.length : Int) == 0))) else (some false)) else (some false)) else (some false)) else (some false)))
def sennitlaw21_HunkNone.f (k : Nat) (l0 : List ByteArray) (l1 : List (List ByteArray)) : Option (Bool) := (sennitlaw21_awake.f k).bind fun t555 => ((sennitref20_May.f k l0 l1).bind fun t556 => (if t556 = true then ((sennitref20_Table.f k l0 l1).bind fun bt557 => ((hunk_Hunks.f k bt557.1 1000 false).bind fun bt561 => ((hunk_Hunks.f k bt557.1 1001 false).bind fun bt565 => (sennitlaw21_HunkNone.l0 k l0 t555 bt557.1 bt561.1 bt561.2 bt565.1 bt565.2 false 0)))) else (some t555)))
theorem sennitlaw21_HunkNone.mono_l : ∀ k, (∀ y0 y1 y2 y3 y4 y5 y6 y7 y8, LeO (sennitlaw21_HunkNone.l0 k y0 y1 y2 y3 y4 y5 y6 y7 y8) (sennitlaw21_HunkNone.l0 (k + 1) y0 y1 y2 y3 y4 y5 y6 y7 y8))
  | 0 => fun _ _ _ _ _ _ _ _ _ r h => by simp [sennitlaw21_HunkNone.l0] at h
  | k + 1 => by
    have ih0 := sennitlaw21_HunkNone.mono_l k
    · intro y0 y1 y2 y3 y4 y5 y6 y7 y8
      unfold sennitlaw21_HunkNone.l0
      repeat' first
      | (with_reducible exact ih0 _ _ _ _ _ _ _ _ _)
      | (with_reducible exact hunk_Hunks.mono _ _ _ _)
      | (with_reducible exact sennitlaw21_awake.mono _)
      | (with_reducible exact sennitref19_Same.mono _ _ _)
      | (with_reducible exact sennitref20_May.mono _ _ _)
      | (with_reducible exact sennitref20_Table.mono _ _ _)
      | (with_reducible exact sennitref21_Marked.mono _ _ _)
      | (with_reducible exact LeO.refl _)
      | (with_reducible exact LeO.none _)
      | (with_reducible refine LeO.ite ?_ ?_)
      | (with_reducible refine LeO.bind ?_ (fun _ => ?_))
      | exact ih0 _ _ _ _ _ _ _ _ _
      | exact hunk_Hunks.mono _ _ _ _
      | exact sennitlaw21_awake.mono _
      | exact sennitref19_Same.mono _ _ _
      | exact sennitref20_May.mono _ _ _
      | exact sennitref20_Table.mono _ _ _
      | exact sennitref21_Marked.mono _ _ _
      | exact LeO.none _
      | refine LeO.ite ?_ ?_
      | refine LeO.bind ?_ (fun _ => ?_)
theorem sennitlaw21_HunkNone.mono : ∀ a0 a1 k, LeO (sennitlaw21_HunkNone.f k a0 a1) (sennitlaw21_HunkNone.f (k + 1) a0 a1) := by
  intro a0 a1 k
  have ih0 := sennitlaw21_HunkNone.mono_l k
  unfold sennitlaw21_HunkNone.f
  repeat' first
      | (with_reducible exact ih0 _ _ _ _ _ _ _ _ _)
      | (with_reducible exact hunk_Hunks.mono _ _ _ _)
      | (with_reducible exact sennitlaw21_awake.mono _)
      | (with_reducible exact sennitref19_Same.mono _ _ _)
      | (with_reducible exact sennitref20_May.mono _ _ _)
      | (with_reducible exact sennitref20_Table.mono _ _ _)
      | (with_reducible exact sennitref21_Marked.mono _ _ _)
      | (with_reducible exact LeO.refl _)
      | (with_reducible exact LeO.none _)
      | (with_reducible refine LeO.ite ?_ ?_)
      | (with_reducible refine LeO.bind ?_ (fun _ => ?_))
      | exact ih0 _ _ _ _ _ _ _ _ _
      | exact hunk_Hunks.mono _ _ _ _
      | exact sennitlaw21_awake.mono _
      | exact sennitref19_Same.mono _ _ _
      | exact sennitref20_May.mono _ _ _
      | exact sennitref20_Table.mono _ _ _
      | exact sennitref21_Marked.mono _ _ _
      | exact LeO.none _
      | refine LeO.ite ?_ ?_
      | refine LeO.bind ?_ (fun _ => ?_)
set_option maxHeartbeats 8000000 in
set_option maxRecDepth 100000 in
theorem sennitlaw21_HunkNone.calls_t (k : Nat) (A0 : Option Addr) (c0 : Nat) (l0 : List ByteArray) (A1 : Option Addr) (c1 : Nat) (l1 : List (List ByteArray)) (r : Bool) (w : World) (hr0 : Kd.C Kd.string w A0 l0.length l0) (hc0 : l0.length ≤ c0) (hr1 : Kd.C (Kd.slice 9 Kd.string) w A1 l1.length l1) (hc1 : l1.length ≤ c1) (hmx : MaxOk w) (hrt : r = true) (h : sennitlaw21_HunkNone.f k l0 l1 = some r) :
    Calls Tryd.prog 8 #[.slice A0 l0.length c0, .slice A1 l1.length c1] w fun e w' => e = .returned (.bool r) ∧ Below w.heap.size w w' := by
  have HRT := Aside0.mk hrt
  clear hrt
  have HMX := Aside0.mk hmx
  clear hmx
  have hu41 := Tryd.underlying41
  have HR0 := Aside0.mk hr0
  have HC0 := Aside0.mk hc0
  clear hr0 hc0
  have HR1 := Aside0.mk hr1
  have HC1 := Aside0.mk hc1
  clear hr1 hc1
  have HB := Aside0.mk (Below.refl w.heap.size w)
  have H : ((sennitlaw21_awake.f k).bind fun t555 => ((sennitref20_May.f k l0 l1).bind fun t556 => (if t556 = true then ((sennitref20_Table.f k l0 l1).bind fun bt557 => ((hunk_Hunks.f k bt557.1 1000 false).bind fun bt561 => ((hunk_Hunks.f k bt557.1 1001 false).bind fun bt565 => (sennitlaw21_HunkNone.l0 k l0 t555 bt557.1 bt561.1 bt561.2 bt565.1 bt565.2 false 0)))) else (some t555)))) = some r := h
  clear h
  replace H := Option.bind_eq_some_iff.mp H
  obtain ⟨t555, A30, H⟩ := H
  replace H : ((sennitref20_May.f k l0 l1).bind fun t556 => (if t556 = true then ((sennitref20_Table.f k l0 l1).bind fun bt557 => ((hunk_Hunks.f k bt557.1 1000 false).bind fun bt561 => ((hunk_Hunks.f k bt557.1 1001 false).bind fun bt565 => (sennitlaw21_HunkNone.l0 k l0 t555 bt557.1 bt561.1 bt561.2 bt565.1 bt565.2 false 0)))) else (some t555))) = some r := H
  have A3 := Aside0.mk A30
  clear A30
  replace H := Option.bind_eq_some_iff.mp H
  obtain ⟨t556, A40, H⟩ := H
  replace H : (if t556 = true then ((sennitref20_Table.f k l0 l1).bind fun bt557 => ((hunk_Hunks.f k bt557.1 1000 false).bind fun bt561 => ((hunk_Hunks.f k bt557.1 1001 false).bind fun bt565 => (sennitlaw21_HunkNone.l0 k l0 t555 bt557.1 bt561.1 bt561.2 bt565.1 bt565.2 false 0)))) else (some t555)) = some r := H
  have A4 := Aside0.mk A40
  clear A40
  by_cases c5 : t556 = true
  · subst c5
    have H1 : ((sennitref20_Table.f k l0 l1).bind fun bt557 => ((hunk_Hunks.f k bt557.1 1000 false).bind fun bt561 => ((hunk_Hunks.f k bt557.1 1001 false).bind fun bt565 => (sennitlaw21_HunkNone.l0 k l0 t555 bt557.1 bt561.1 bt561.2 bt565.1 bt565.2 false 0)))) = some r := by rw [if_pos rfl] at H; exact H
    clear H
    have H := H1
    clear H1
    replace H := Option.bind_eq_some_iff.mp H
    obtain ⟨⟨t557, t560⟩, A60, H⟩ := H
    replace H : ((hunk_Hunks.f k t557 1000 false).bind fun bt561 => ((hunk_Hunks.f k t557 1001 false).bind fun bt565 => (sennitlaw21_HunkNone.l0 k l0 t555 t557 bt561.1 bt561.2 bt565.1 bt565.2 false 0))) = some r := H
    have A6 := Aside0.mk A60
    clear A60
    replace H := Option.bind_eq_some_iff.mp H
    obtain ⟨⟨t561, t564⟩, A70, H⟩ := H
    replace H : ((hunk_Hunks.f k t557 1001 false).bind fun bt565 => (sennitlaw21_HunkNone.l0 k l0 t555 t557 t561 t564 bt565.1 bt565.2 false 0)) = some r := H
    have A7 := Aside0.mk A70
    clear A70
    replace H := Option.bind_eq_some_iff.mp H
    obtain ⟨⟨t565, t568⟩, A80, H⟩ := H
    replace H : (sennitlaw21_HunkNone.l0 k l0 t555 t557 t561 t564 t565 t568 false 0) = some r := H
    have A8 := Aside0.mk A80
    clear A80
    have H' := Aside0.mk H
    clear H
    go_enter Tryd.func8, Tryd.ntmps8
    go_wp2_with (first | ((with_reducible refine gate_callee (f := 9) rfl ?_); refine goesL_ (some 15) rfl rfl Tryd.func9 (by kernel_rfl) rfl #[] rfl (by (try simp only [List.map_toArray, List.map_cons, List.map_nil]); first | done | rfl | (simp only [List.length_drop, List.length_take]; rfl)) ?_; (with_reducible refine (sennitlaw21_awake.calls k  t555 _ ?sidemx A3.out).mono ?_); (case sidemx => exact MaxOk.below HMX.out (by repeat (first | (with_reducible first | exact HB.out | apply below_alloc | apply pw_below_drewN | apply below_drew1) | exact HB.out))); rintro e w9 ⟨rfl, hb⟩; refine ⟨_, rfl, ?_⟩; have n0_ := Aside0.mk (below_step (by repeat (first | (with_reducible first | exact HB.out | apply below_alloc | apply pw_below_drewN | apply below_drew1) | exact HB.out)) hb); clear HB; have HB := n0_; clear n0_; (try clear hb); (try clear hb2); (try clear hk); (try clear hi)) | ((with_reducible refine gate_callee (f := 24) rfl ?_); refine goesL_ (some 18) rfl rfl Tryd.func24 (by kernel_rfl) rfl #[.slice A0 l0.length c0, .slice A1 l1.length c1] rfl (by (try simp only [List.map_toArray, List.map_cons, List.map_nil]); first | done | rfl | (simp only [List.length_drop, List.length_take]; rfl)) ?_; (with_reducible refine (sennitref20_May.calls k _ _ l0 _ _ l1 true _ ?side1 ?side2 ?side3 ?side4 A4.out).mono ?_); (case side1 => repeat (first | exact (Kd.C_below HR0.out HB.out) | (with_reducible refine Kd.C_alloc ?_ _) | (with_reducible refine Kd.C_drewN ?_ _) | (with_reducible refine Kd.C_drew ?_))); (case side2 => exact HC0.out); (case side3 => repeat (first | exact (Kd.C_below HR1.out HB.out) | (with_reducible refine Kd.C_alloc ?_ _) | (with_reducible refine Kd.C_drewN ?_ _) | (with_reducible refine Kd.C_drew ?_))); (case side4 => exact HC1.out); rintro e w' ⟨rfl, ⟨nd, rfl⟩⟩; refine ⟨_, rfl, ?_⟩) | ((with_reducible refine gate_callee (f := 25) rfl ?_); refine goesL_ (some 24) rfl rfl Tryd.func25 (by kernel_rfl) rfl #[.slice A0 l0.length c0, .slice A1 l1.length c1] rfl (by (try simp only [List.map_toArray, List.map_cons, List.map_nil]); first | done | rfl | (simp only [List.length_drop, List.length_take]; rfl)) ?_; (with_reducible refine (sennitref20_Table.calls k (fun k_ => k_ < w.heap.size) _ _ l0 (fun k_ => k_ < w.heap.size) _ _ l1 t557 t560 _ ?side1 ?side2 A6.out).mono ?_); (case side1 => exact Kd.V_mk HC0.out (Kd.F_below (Kd.C_F Kd.heap_string HR0.out) (by repeat (first | (with_reducible first | exact HB.out | apply below_alloc | apply pw_below_drewN | apply below_drew1) | exact HB.out)))); (case side2 => exact Kd.V_mk HC1.out (Kd.F_below (Kd.C_F (Kd.heap_slice 9 Kd.heap_string) HR1.out) (by repeat (first | (with_reducible first | exact HB.out | apply below_alloc | apply pw_below_drewN | apply below_drew1) | exact HB.out)))); rintro e w10 ⟨v558, rfl, ho0, hb⟩; refine ⟨_, rfl, ?_⟩; have n0_ := Aside0.mk (Kd.R_lower (Kd.R_mono (ok' := fun k_ => True) ho0 (fun _ hk_ => trivial)) (below_size (by repeat (first | (with_reducible first | exact HB.out | apply below_alloc | apply pw_below_drewN | apply below_drew1) | exact HB.out)))); have n1_ := Aside0.mk (below_step (by repeat (first | (with_reducible first | exact HB.out | apply below_alloc | apply pw_below_drewN | apply below_drew1) | exact HB.out)) hb); clear HB; have HO559 := n0_; have HB := n1_; clear n0_ n1_; (try clear hb); (try clear hb2); (try clear hk); (try clear hi); (try clear ho0); obtain ⟨Ao11, co11, eo11⟩ := Kd.R_slice HO559.out; subst eo11) | ((with_reducible refine gate_callee (f := 11) rfl ?_); refine goesL_ (some 29) rfl rfl Tryd.func11 (by kernel_rfl) rfl #[.slice Ao11 t557.length co11, .int .i64 1000, .bool false] rfl (by (try simp only [List.map_toArray, List.map_cons, List.map_nil]); first | done | rfl | (simp only [List.length_drop, List.length_take]; rfl)) ?_; (with_reducible refine (hunk_Hunks.calls k (fun k_ => some k_ = (.slice Ao11 t557.length co11 : Value).ownBlock) _ _ t557 1000 false t561 t564 _ ?side1 ?sidemx A7.out).mono ?_); (case sidemx => exact MaxOk.below HMX.out (by repeat (first | (with_reducible first | exact HB.out | apply below_alloc | apply pw_below_drewN | apply below_drew1) | exact HB.out))); (case side1 => exact Kd.R_V (Kd.R_tight rfl (HO559.out))); rintro e w12 ⟨v562, rfl, ho0, hb⟩; refine ⟨_, rfl, ?_⟩; have n0_ := Aside0.mk (Kd.R_below (by (with_reducible repeat (first | apply Kd.R_alloc | apply Kd.R_drewN | apply Kd.R_drew)); exact HO559.out) hb); have n1_ := Aside0.mk (Kd.N_lower (Kd.N_mono (ok' := fun k_ => True) ho0 (fun k_ hk_ => trivial)) (below_size (by repeat (first | (with_reducible first | exact HB.out | apply below_alloc | apply pw_below_drewN | apply below_drew1) | exact HB.out)))); have n2_ := Aside0.mk (below_step (by repeat (first | (with_reducible first | exact HB.out | apply below_alloc | apply pw_below_drewN | apply below_drew1) | exact HB.out)) hb); clear HO559; clear HB; have HO559 := n0_; have HO563 := n1_; have HB := n2_; clear n0_ n1_ n2_; (try clear hb); (try clear hb2); (try clear hk); (try clear hi); (try clear ho0)) | ((with_reducible refine gate_callee (f := 11) rfl ?_); refine goesL_ (some 34) rfl rfl Tryd.func11 (by kernel_rfl) rfl #[.slice Ao11 t557.length co11, .int .i64 1001, .bool false] rfl (by (try simp only [List.map_toArray, List.map_cons, List.map_nil]); first | done | rfl | (simp only [List.length_drop, List.length_take]; rfl)) ?_; (with_reducible refine (hunk_Hunks.calls k (fun k_ => some k_ = (.slice Ao11 t557.length co11 : Value).ownBlock) _ _ t557 1001 false t565 t568 _ ?side1 ?sidemx A8.out).mono ?_); (case sidemx => exact MaxOk.below HMX.out (by repeat (first | (with_reducible first | exact HB.out | apply below_alloc | apply pw_below_drewN | apply below_drew1) | exact HB.out))); (case side1 => exact Kd.R_V (Kd.R_tight rfl (Kd.R_apart' (HO559.out) (Kd.N_typed HO563.out) (by decide)))); rintro e w13 ⟨v566, rfl, ho0, hb⟩; refine ⟨_, rfl, ?_⟩; have n0_ := Aside0.mk (Kd.R_below (by (with_reducible repeat (first | apply Kd.R_alloc | apply Kd.R_drewN | apply Kd.R_drew)); exact HO559.out) hb); have n1_ := Aside0.mk (Kd.N_elder' (by (with_reducible repeat (first | apply Kd.N_alloc | apply Kd.N_drewN | apply Kd.N_drew)); exact HO563.out) (Kd.N_base ho0) hb); have n2_ := Aside0.mk (Kd.N_lower (Kd.N_mono (ok' := fun k_ => some k_ ≠ (v562 : Value).ownBlock) ho0 (fun k_ hk_ => Or.elim hk_ (fun hs_ => ((Kd.R_apart' (HO559.out) (Kd.N_typed HO563.out) (by decide)).1 k_ hs_.symm).2) (fun hn_ => (Kd.fresh' (Kd.N_lt (by (with_reducible repeat (first | apply Kd.N_alloc | apply Kd.N_drewN | apply Kd.N_drew)); exact HO563.out)) k_ hn_)))) (below_size (by repeat (first | (with_reducible first | exact HB.out | apply below_alloc | apply pw_below_drewN | apply below_drew1) | exact HB.out)))); have n3_ := Aside0.mk (below_step (by repeat (first | (with_reducible first | exact HB.out | apply below_alloc | apply pw_below_drewN | apply below_drew1) | exact HB.out)) hb); clear HO559; clear HO563; clear HB; have HO559 := n0_; have HO563 := n1_; have HO567 := n2_; have HB := n3_; clear n0_ n1_ n2_ n3_; (try clear hb); (try clear hb2); (try clear hk); (try clear hi); (try clear ho0)))
    go_loopg [12, 13] k (fun kq v12 v13 w' => ∃ (x12_1 : Bool) (x13_1 : Int), v12 = .bool x12_1 ∧ v13 = .int .i64 x13_1 ∧ Aside0 (sennitlaw21_HunkNone.l0 kq l0 t555 t557 t561 t564 t565 t568 x12_1 x13_1 = some r) ∧ Aside0 (kq ≤ k) ∧ Aside0 (Kd.R k41 41 w' w.heap.size (fun _ => True) (.slice Ao11 t557.length co11) t557) ∧ Aside0 (Kd.N k38 38 w' w.heap.size (fun k_ => some k_ ≠ (v566 : Value).ownBlock) v562 t561) ∧ Aside0 (Kd.N k38 38 w' w.heap.size (fun k_ => some k_ ≠ (v562 : Value).ownBlock) v566 t565) ∧ Aside0 (Below w.heap.size w w'))
    case atStart => exact ⟨(false), (0), (by first | rfl | (simp; done) | (simp [*]; done)), (by first | rfl | (simp; done) | (simp [*]; done)), H', ⟨Nat.le_refl _⟩, ⟨by (with_reducible repeat (first | apply Kd.R_alloc | apply Kd.R_drewN | apply Kd.R_drew)); exact HO559.out⟩, ⟨by (with_reducible repeat (first | apply Kd.N_alloc | apply Kd.N_drewN | apply Kd.N_drew)); exact Kd.N_mono HO563.out (fun _ hk => hk.2)⟩, ⟨by (with_reducible repeat (first | apply Kd.N_alloc | apply Kd.N_drewN | apply Kd.N_drew)); exact HO567.out⟩, ⟨by repeat (first | (with_reducible first | exact HB.out | apply below_alloc | apply pw_below_drewN | apply below_drew1) | exact HB.out)⟩⟩
    case round =>
      clear H'
      try clear c1
      try clear c2
      try clear p2
      try clear c5
      try clear c8
      try clear c9
      try clear c11
      obtain ⟨x12_1, x13_1, rfl, rfl, HA, HK1, HO_6, HO_8, HO_10, HB⟩ := hrel
      cases gk with
      | zero => exact absurd HA.out (by simp [sennitlaw21_HunkNone.l0])
      | succ k1 =>
        have H := HA.out
        clear HA
        simp only [sennitlaw21_HunkNone.l0] at H
        by_cases c14 : x13_1 < (t557.length : Int)
        · rw [if_pos c14] at H
          have c14b0 : decide (x13_1 < (t557.length : Int)) = true := decide_eq_true c14
          clear c14
          by_cases c15 : x12_1 = true
          · subst c15
            have H1 : (sennitlaw21_HunkNone.l0 k1 l0 t555 t557 t561 t564 t565 t568 true (wrap64 (x13_1 + 1))) = some r := by rw [if_pos rfl] at H; exact H
            clear H
            have H := H1
            clear H1
            have H' := Aside0.mk H
            clear H
            go_wp2
            go_roundg k1
            case measure => have := HK1.out; omega
            case rel => exact ⟨(true), (wrap64 (x13_1 + 1)), (by first | rfl | (simp; done) | (simp [*]; done)), (by first | rfl | (simp; done) | (simp [*]; done)), H', ⟨by have := HK1.out; omega⟩, ⟨by (with_reducible repeat (first | apply Kd.R_alloc | apply Kd.R_drewN | apply Kd.R_drew)); exact HO_6.out⟩, ⟨by (with_reducible repeat (first | apply Kd.N_alloc | apply Kd.N_drewN | apply Kd.N_drew)); exact HO_8.out⟩, ⟨by (with_reducible repeat (first | apply Kd.N_alloc | apply Kd.N_drewN | apply Kd.N_drew)); exact HO_10.out⟩, ⟨by repeat (first | (with_reducible first | exact HB.out | apply below_alloc | apply pw_below_drewN | apply below_drew1) | exact HB.out)⟩⟩
          · replace c15 := Bool.eq_false_iff.mpr c15
            subst c15
            have H1 : (if 0 ≤ x13_1 then ((sennitref21_Marked.f k1 ((rd_T41 t557 x13_1).f0) ((rd_T41 t557 x13_1).f1)).bind fun t570 => (sennitlaw21_HunkNone.l0 k1 l0 t555 t557 t561 t564 t565 t568 t570 (wrap64 (x13_1 + 1)))) else (none)) = some r := by rw [if_neg (show ¬ (false = true) by decide)] at H; exact H
            clear H
            have H := H1
            clear H1
            by_cases c16 : 0 ≤ x13_1
            · rw [if_pos c16] at H
              have c16b0 : decide (0 ≤ x13_1) = true := decide_eq_true c16
              clear c16
              replace H := Option.bind_eq_some_iff.mp H
              obtain ⟨t570, A170, H⟩ := H
              replace H : (sennitlaw21_HunkNone.l0 k1 l0 t555 t557 t561 t564 t565 t568 t570 (wrap64 (x13_1 + 1))) = some r := H
              have A17 := Aside0.mk A170
              clear A170
              have H' := Aside0.mk H
              clear H
              have p569 : 0 ≤ (x13_1 : Int) := of_decide_eq_true (by first | (with_reducible assumption) | assumption)
              have q569 : x13_1 < (t557.length : Int) := of_decide_eq_true (by first | (with_reducible assumption) | assumption)
              obtain ⟨ad569, e569, hx569_0, hx569_1⟩ := at_T41 (Kd.R_reads' HO_6.out).2.2 x13_1 p569 q569
              cases e569
              replace p569 := eq_true p569
              replace q569 := eq_true q569
              go_wp2_with (first | (go_at_call 20; (with_reducible refine (sennitref21_Marked.calls k1 ((rd_T41 t557 x13_1).f0) ((rd_T41 t557 x13_1).f1) t570 _ A17.out).mono ?_); rintro e w18 ⟨rfl, hb⟩; have n0_ := Aside0.mk (Kd.R_below (by (with_reducible repeat (first | apply Kd.R_alloc | apply Kd.R_drewN | apply Kd.R_drew)); exact HO_6.out) hb); have n1_ := Aside0.mk (Kd.N_below (by (with_reducible repeat (first | apply Kd.N_alloc | apply Kd.N_drewN | apply Kd.N_drew)); exact HO_8.out) hb); have n2_ := Aside0.mk (Kd.N_below (by (with_reducible repeat (first | apply Kd.N_alloc | apply Kd.N_drewN | apply Kd.N_drew)); exact HO_10.out) hb); have n3_ := Aside0.mk (below_step (by repeat (first | (with_reducible first | exact HB.out | apply below_alloc | apply pw_below_drewN | apply below_drew1) | exact HB.out)) hb); clear HO_6; clear HO_8; clear HO_10; clear HB; have HO_6 := n0_; have HO_8 := n1_; have HO_10 := n2_; have HB := n3_; clear n0_ n1_ n2_ n3_; (try clear hb); (try clear hb2); (try clear hk); (try clear hi)))
              go_roundg k1
              case measure => have := HK1.out; omega
              case rel => exact ⟨(t570), (wrap64 (x13_1 + 1)), (by first | rfl | (simp; done) | (simp [*]; done)), (by first | rfl | (simp; done) | (simp [*]; done)), H', ⟨by have := HK1.out; omega⟩, ⟨by (with_reducible repeat (first | apply Kd.R_alloc | apply Kd.R_drewN | apply Kd.R_drew)); exact HO_6.out⟩, ⟨by (with_reducible repeat (first | apply Kd.N_alloc | apply Kd.N_drewN | apply Kd.N_drew)); exact HO_8.out⟩, ⟨by (with_reducible repeat (first | apply Kd.N_alloc | apply Kd.N_drewN | apply Kd.N_drew)); exact HO_10.out⟩, ⟨by repeat (first | (with_reducible first | exact HB.out | apply below_alloc | apply pw_below_drewN | apply below_drew1) | exact HB.out)⟩⟩
            · rw [if_neg c16] at H
              exact absurd H (by simp)
        · rw [if_neg c14] at H
          have c14b0 : decide (x13_1 < (t557.length : Int)) = false := decide_eq_false c14
          clear c14
          by_cases c19 : (t561.length : Int) = 1
          · rw [if_pos c19] at H
            have c19b0 : ((t561.length : Int) == 1) = true := beq_iff_eq.mpr c19
            have c19b1 : ((t561.length : Int) != 1) = false := bne_eq_false_iff_eq.mpr c19
            clear c19
            by_cases c20 : 0 < (t561.length : Int)
            · rw [if_pos c20] at H
              have c20b0 : decide (0 < (t561.length : Int)) = true := decide_eq_true c20
              have c20b1 : decide (0 < t561.length) = true := decide_eq_true (by omega)
              clear c20
              replace H := Option.bind_eq_some_iff.mp H
              obtain ⟨t572, A210, H⟩ := H
              replace H : (if t572 = true then (if t555 = true then (if t564 = 0 then (if t568 = 1 then (if (t565.length : Int) = 0 then (if x12_1 = true then (if ((rd_T38 t561 0).f1.f1) = (l0.length : Int) then (some true) else (some false)) else (some ((t561.length : Int) == 0))) else (some false)) else (some false)) else (some false)) else (some false)) else (if t555 = true then (if t564 = 0 then (if t568 = 1 then (if (t565.length : Int) = 0 then (if x12_1 = true then (some false) else (some ((t561.length : Int) == 0))) else (some false)) else (some false)) else (some false)) else (some false))) = some r := H
              have A21 := Aside0.mk A210
              clear A210
              by_cases c22 : t572 = true
              · subst c22
                have H1 : (if t555 = true then (if t564 = 0 then (if t568 = 1 then (if (t565.length : Int) = 0 then (if x12_1 = true then (if ((rd_T38 t561 0).f1.f1) = (l0.length : Int) then (some true) else (some false)) else (some ((t561.length : Int) == 0))) else (some false)) else (some false)) else (some false)) else (some false)) = some r := by rw [if_pos rfl] at H; exact H
                clear H
                have H := H1
                clear H1
                by_cases c23 : t555 = true
                · subst c23
                  have H1 : (if t564 = 0 then (if t568 = 1 then (if (t565.length : Int) = 0 then (if x12_1 = true then (if ((rd_T38 t561 0).f1.f1) = (l0.length : Int) then (some true) else (some false)) else (some ((t561.length : Int) == 0))) else (some false)) else (some false)) else (some false)) = some r := by rw [if_pos rfl] at H; exact H
                  clear H
                  have H := H1
                  clear H1
                  by_cases c24 : t564 = 0
                  · rw [if_pos c24] at H
                    have c24b0 : (t564 == 0) = true := beq_iff_eq.mpr c24
                    have c24b1 : (t564 != 0) = false := bne_eq_false_iff_eq.mpr c24
                    clear c24
                    by_cases c25 : t568 = 1
                    · rw [if_pos c25] at H
                      have c25b0 : (t568 == 1) = true := beq_iff_eq.mpr c25
                      have c25b1 : (t568 != 1) = false := bne_eq_false_iff_eq.mpr c25
                      clear c25
                      by_cases c26 : (t565.length : Int) = 0
                      · rw [if_pos c26] at H
                        have c26b0 : ((t565.length : Int) == 0) = true := beq_iff_eq.mpr c26
                        have c26b1 : ((t565.length : Int) != 0) = false := bne_eq_false_iff_eq.mpr c26
                        clear c26
                        by_cases c27 : x12_1 = true
                        · subst c27
                          have H1 : (if ((rd_T38 t561 0).f1.f1) = (l0.length : Int) then (some true) else (some false)) = some r := by rw [if_pos rfl] at H; exact H
                          clear H
                          have H := H1
                          clear H1
                          by_cases c28 : ((rd_T38 t561 0).f1.f1) = (l0.length : Int)
                          · rw [if_pos c28] at H
                            have c28b0 : (((rd_T38 t561 0).f1.f1) == (l0.length : Int)) = true := beq_iff_eq.mpr c28
                            have c28b1 : (((rd_T38 t561 0).f1.f1) != (l0.length : Int)) = false := bne_eq_false_iff_eq.mpr c28
                            clear c28
                            obtain rfl := Option.some.inj H
                            obtain ⟨Ao29, co29, eo29⟩ := Kd.N_slice HO_8.out
                            subst eo29
                            have p571 : 0 ≤ (0 : Int) := (by omega)
                            have q571 : 0 < (t561.length : Int) := of_decide_eq_true (by first | (with_reducible assumption) | assumption)
                            obtain ⟨ad571, A571_0, c571_0, A571_3, c571_3, e571, hx571_0, hx571_1, hx571_2, hx571_3, hl571_0, hi571_0, hl571_3, hi571_3⟩ := at_T38 (Kd.N_reads' HO_8.out).2.2 0 p571 q571
                            cases e571
                            obtain ⟨ce571, hce571, hMe571, hcc571⟩ := Kd.N_get HO_8.out z38 0 p571 (by first | exact q571 | exact of_decide_eq_true (by first | (with_reducible assumption) | assumption) | (have e_ := (Kd.N_reads' HO_8.out).1; omega))
                            obtain ⟨ua571_0, uc571_0, ua571_3, uc571_3, rfl, ul571_0, ge571_0, ul571_3, ge571_3⟩ := k38_openF hMe571
                            have hv571_0 := hcc571 0 _ rfl
                            rw [Nat.add_zero] at hv571_0
                            replace hv571_0 := Option.some.inj (hv571_0.symm.trans hx571_0)
                            injection hv571_0 with hva_ hvn_ hvc_
                            rw [hva_] at ge571_0
                            rw [hvc_] at ul571_0
                            have HL571_0 := Aside0.mk (show Kd.V k36 36 _ w.heap.size _ _ ((rd_T38 t561 0).f0) from Kd.V_mk ul571_0 ge571_0)
                            clear hva_ hvn_ hvc_ ge571_0 ul571_0
                            have hv571_3 := hcc571 3 _ rfl
                            rw [add_field _ _ 3 (by omega)] at hv571_3
                            replace hv571_3 := Option.some.inj (hv571_3.symm.trans hx571_3)
                            injection hv571_3 with hva_ hvn_ hvc_
                            rw [hva_] at ge571_3
                            rw [hvc_] at ul571_3
                            have HL571_3 := Aside0.mk (show Kd.V k41 41 _ w.heap.size _ _ ((rd_T38 t561 0).f2) from Kd.V_mk ul571_3 ge571_3)
                            clear hva_ hvn_ hvc_ ge571_3 ul571_3
                            clear hcc571 hce571
                            have qi571 : (0 < t561.length) = True := eq_true (by omega)
                            (try rw [show ((0 : Int)).toNat = 0 from rfl] at hx571_0)
                            (try rw [show 0 * 4 = 0 from rfl] at hx571_0)
                            (try rw [Addr.add_zero'] at hx571_0)
                            (try rw [show ((0 : Int)).toNat = 0 from rfl] at hx571_1)
                            (try rw [show 0 * 4 = 0 from rfl] at hx571_1)
                            (try rw [Addr.add_zero'] at hx571_1)
                            (try rw [show ((0 : Int)).toNat = 0 from rfl] at hx571_2)
                            (try rw [show 0 * 4 = 0 from rfl] at hx571_2)
                            (try rw [Addr.add_zero'] at hx571_2)
                            (try rw [show ((0 : Int)).toNat = 0 from rfl] at hx571_3)
                            (try rw [show 0 * 4 = 0 from rfl] at hx571_3)
                            (try rw [Addr.add_zero'] at hx571_3)
                            have HR571_0 := Aside0.mk hi571_0
                            have HC571_0 := Aside0.mk hl571_0
                            clear hi571_0 hl571_0
                            have HR571_3 := Aside0.mk hi571_3
                            have HC571_3 := Aside0.mk hl571_3
                            clear hi571_3 hl571_3
                            replace p571 := eq_true p571
                            replace q571 := eq_true q571
                            go_wp2_with (first | (go_at_call 21; (with_reducible refine (sennitref19_Same.calls k1 _ _ ((rd_T38 t561 0).f2) _ _ t557 true _ ?side1 ?side2 ?side3 ?side4 A21.out).mono ?_); (case side1 => repeat (first | exact (by repeat (first | (with_reducible exact HR571_3.out) | (with_reducible refine Kd.C_alloc ?_ _) | (with_reducible refine Kd.C_drewN ?_ _) | (with_reducible refine Kd.C_drew ?_) | exact HR571_3.out)) | (with_reducible refine Kd.C_alloc ?_ _) | (with_reducible refine Kd.C_drewN ?_ _) | (with_reducible refine Kd.C_drew ?_))); (case side2 => exact HC571_3.out); (case side3 => repeat (first | exact (Kd.R_reads' HO_6.out).2.2 | (with_reducible refine Kd.C_alloc ?_ _) | (with_reducible refine Kd.C_drewN ?_ _) | (with_reducible refine Kd.C_drew ?_))); (case side4 => exact (Kd.R_reads' HO_6.out).2.1); rintro e w' ⟨rfl, ⟨nd, rfl⟩⟩; have p573 : 0 ≤ (0 : Int) := (by omega); have q573 : 0 < (t561.length : Int) := of_decide_eq_true (by first | (with_reducible assumption) | assumption); obtain ⟨ad573, A573_0, c573_0, A573_3, c573_3, e573, hx573_0, hx573_1, hx573_2, hx573_3, hl573_0, hi573_0, hl573_3, hi573_3⟩ := at_T38 (Kd.N_reads' HO_8.out).2.2 0 p573 q573; obtain rfl : ad571 = ad573 := (by injection e573); obtain ⟨ce573, hce573, hMe573, hcc573⟩ := Kd.N_get HO_8.out z38 0 p573 (by first | exact q573 | exact of_decide_eq_true (by first | (with_reducible assumption) | assumption) | (have e_ := (Kd.N_reads' HO_8.out).1; omega)); obtain ⟨ua573_0, uc573_0, ua573_3, uc573_3, rfl, ul573_0, ge573_0, ul573_3, ge573_3⟩ := k38_openF hMe573; have hv573_0 := hcc573 0 _ rfl; rw [Nat.add_zero] at hv573_0; replace hv573_0 := Option.some.inj (hv573_0.symm.trans hx573_0); injection hv573_0 with hva_ hvn_ hvc_; rw [hva_] at ge573_0; rw [hvc_] at ul573_0; have HL573_0 := Aside0.mk (show Kd.V k36 36 _ w.heap.size _ _ ((rd_T38 t561 0).f0) from Kd.V_mk ul573_0 ge573_0); clear hva_ hvn_ hvc_ ge573_0 ul573_0; have hv573_3 := hcc573 3 _ rfl; rw [add_field _ _ 3 (by omega)] at hv573_3; replace hv573_3 := Option.some.inj (hv573_3.symm.trans hx573_3); injection hv573_3 with hva_ hvn_ hvc_; rw [hva_] at ge573_3; rw [hvc_] at ul573_3; have HL573_3 := Aside0.mk (show Kd.V k41 41 _ w.heap.size _ _ ((rd_T38 t561 0).f2) from Kd.V_mk ul573_3 ge573_3); clear hva_ hvn_ hvc_ ge573_3 ul573_3; clear hcc573 hce573; have qi573 : (0 < t561.length) = True := eq_true (by omega); (try rw [show ((0 : Int)).toNat = 0 from rfl] at hx573_0); (try rw [show 0 * 4 = 0 from rfl] at hx573_0); (try rw [Addr.add_zero'] at hx573_0); (try rw [show ((0 : Int)).toNat = 0 from rfl] at hx573_1); (try rw [show 0 * 4 = 0 from rfl] at hx573_1); (try rw [Addr.add_zero'] at hx573_1); (try rw [show ((0 : Int)).toNat = 0 from rfl] at hx573_2); (try rw [show 0 * 4 = 0 from rfl] at hx573_2); (try rw [Addr.add_zero'] at hx573_2); (try rw [show ((0 : Int)).toNat = 0 from rfl] at hx573_3); (try rw [show 0 * 4 = 0 from rfl] at hx573_3); (try rw [Addr.add_zero'] at hx573_3); have HR573_0 := Aside0.mk hi573_0; have HC573_0 := Aside0.mk hl573_0; clear hi573_0 hl573_0; have HR573_3 := Aside0.mk hi573_3; have HC573_3 := Aside0.mk hl573_3; clear hi573_3 hl573_3; replace p573 := eq_true p573; replace q573 := eq_true q573; have ea_ := Option.some.inj (hx571_0.symm.trans hx573_0); injection ea_ with ea_ en_ ec_; subst ea_; subst ec_; clear en_; have ea_ := Option.some.inj (hx571_3.symm.trans hx573_3); injection ea_ with ea_ en_ ec_; subst ea_; subst ec_; clear en_; obtain ⟨Ao30, co30, eo30⟩ := Kd.N_slice HO_10.out; subst eo30))
                            go_ret
                            exact ⟨by first | rfl | (simp [errW_none, errW_some] <;> rfl) | (simp [errW_none, errW_some] <;> (generalize ByteArray.toList _ = l_ <;> cases l_ <;> rfl)) | (simp [*, errW_none, errW_some] <;> rfl), by repeat (first | (with_reducible first | exact HB.out | apply below_alloc | apply pw_below_drewN | apply below_drew1) | exact HB.out)⟩
                          · rw [if_neg c28] at H
                            have c28b0 : (((rd_T38 t561 0).f1.f1) == (l0.length : Int)) = false := beq_eq_false_iff_ne.mpr c28
                            have c28b1 : (((rd_T38 t561 0).f1.f1) != (l0.length : Int)) = true := bne_iff_ne.mpr c28
                            exact absurd ((Option.some.inj H).trans HRT.out) (by decide)
                        · replace c27 := Bool.eq_false_iff.mpr c27
                          subst c27
                          have H1 : (some ((t561.length : Int) == 0)) = some r := by rw [if_neg (show ¬ (false = true) by decide)] at H; exact H
                          clear H
                          have H := H1
                          clear H1
                          obtain rfl := Option.some.inj H
                          obtain ⟨Ao33, co33, eo33⟩ := Kd.N_slice HO_8.out
                          subst eo33
                          have p571 : 0 ≤ (0 : Int) := (by omega)
                          have q571 : 0 < (t561.length : Int) := of_decide_eq_true (by first | (with_reducible assumption) | assumption)
                          obtain ⟨ad571, A571_0, c571_0, A571_3, c571_3, e571, hx571_0, hx571_1, hx571_2, hx571_3, hl571_0, hi571_0, hl571_3, hi571_3⟩ := at_T38 (Kd.N_reads' HO_8.out).2.2 0 p571 q571
                          cases e571
                          obtain ⟨ce571, hce571, hMe571, hcc571⟩ := Kd.N_get HO_8.out z38 0 p571 (by first | exact q571 | exact of_decide_eq_true (by first | (with_reducible assumption) | assumption) | (have e_ := (Kd.N_reads' HO_8.out).1; omega))
                          obtain ⟨ua571_0, uc571_0, ua571_3, uc571_3, rfl, ul571_0, ge571_0, ul571_3, ge571_3⟩ := k38_openF hMe571
                          have hv571_0 := hcc571 0 _ rfl
                          rw [Nat.add_zero] at hv571_0
                          replace hv571_0 := Option.some.inj (hv571_0.symm.trans hx571_0)
                          injection hv571_0 with hva_ hvn_ hvc_
                          rw [hva_] at ge571_0
                          rw [hvc_] at ul571_0
                          have HL571_0 := Aside0.mk (show Kd.V k36 36 _ w.heap.size _ _ ((rd_T38 t561 0).f0) from Kd.V_mk ul571_0 ge571_0)
                          clear hva_ hvn_ hvc_ ge571_0 ul571_0
                          have hv571_3 := hcc571 3 _ rfl
                          rw [add_field _ _ 3 (by omega)] at hv571_3
                          replace hv571_3 := Option.some.inj (hv571_3.symm.trans hx571_3)
                          injection hv571_3 with hva_ hvn_ hvc_
                          rw [hva_] at ge571_3
                          rw [hvc_] at ul571_3
                          have HL571_3 := Aside0.mk (show Kd.V k41 41 _ w.heap.size _ _ ((rd_T38 t561 0).f2) from Kd.V_mk ul571_3 ge571_3)
                          clear hva_ hvn_ hvc_ ge571_3 ul571_3
                          clear hcc571 hce571
                          have qi571 : (0 < t561.length) = True := eq_true (by omega)
                          (try rw [show ((0 : Int)).toNat = 0 from rfl] at hx571_0)
                          (try rw [show 0 * 4 = 0 from rfl] at hx571_0)
                          (try rw [Addr.add_zero'] at hx571_0)
                          (try rw [show ((0 : Int)).toNat = 0 from rfl] at hx571_1)
                          (try rw [show 0 * 4 = 0 from rfl] at hx571_1)
                          (try rw [Addr.add_zero'] at hx571_1)
                          (try rw [show ((0 : Int)).toNat = 0 from rfl] at hx571_2)
                          (try rw [show 0 * 4 = 0 from rfl] at hx571_2)
                          (try rw [Addr.add_zero'] at hx571_2)
                          (try rw [show ((0 : Int)).toNat = 0 from rfl] at hx571_3)
                          (try rw [show 0 * 4 = 0 from rfl] at hx571_3)
                          (try rw [Addr.add_zero'] at hx571_3)
                          have HR571_0 := Aside0.mk hi571_0
                          have HC571_0 := Aside0.mk hl571_0
                          clear hi571_0 hl571_0
                          have HR571_3 := Aside0.mk hi571_3
                          have HC571_3 := Aside0.mk hl571_3
                          clear hi571_3 hl571_3
                          replace p571 := eq_true p571
                          replace q571 := eq_true q571
                          go_wp2_with (first | (go_at_call 21; (with_reducible refine (sennitref19_Same.calls k1 _ _ ((rd_T38 t561 0).f2) _ _ t557 true _ ?side1 ?side2 ?side3 ?side4 A21.out).mono ?_); (case side1 => repeat (first | exact (by repeat (first | (with_reducible exact HR571_3.out) | (with_reducible refine Kd.C_alloc ?_ _) | (with_reducible refine Kd.C_drewN ?_ _) | (with_reducible refine Kd.C_drew ?_) | exact HR571_3.out)) | (with_reducible refine Kd.C_alloc ?_ _) | (with_reducible refine Kd.C_drewN ?_ _) | (with_reducible refine Kd.C_drew ?_))); (case side2 => exact HC571_3.out); (case side3 => repeat (first | exact (Kd.R_reads' HO_6.out).2.2 | (with_reducible refine Kd.C_alloc ?_ _) | (with_reducible refine Kd.C_drewN ?_ _) | (with_reducible refine Kd.C_drew ?_))); (case side4 => exact (Kd.R_reads' HO_6.out).2.1); rintro e w' ⟨rfl, ⟨nd, rfl⟩⟩; have p573 : 0 ≤ (0 : Int) := (by omega); have q573 : 0 < (t561.length : Int) := of_decide_eq_true (by first | (with_reducible assumption) | assumption); obtain ⟨ad573, A573_0, c573_0, A573_3, c573_3, e573, hx573_0, hx573_1, hx573_2, hx573_3, hl573_0, hi573_0, hl573_3, hi573_3⟩ := at_T38 (Kd.N_reads' HO_8.out).2.2 0 p573 q573; obtain rfl : ad571 = ad573 := (by injection e573); obtain ⟨ce573, hce573, hMe573, hcc573⟩ := Kd.N_get HO_8.out z38 0 p573 (by first | exact q573 | exact of_decide_eq_true (by first | (with_reducible assumption) | assumption) | (have e_ := (Kd.N_reads' HO_8.out).1; omega)); obtain ⟨ua573_0, uc573_0, ua573_3, uc573_3, rfl, ul573_0, ge573_0, ul573_3, ge573_3⟩ := k38_openF hMe573; have hv573_0 := hcc573 0 _ rfl; rw [Nat.add_zero] at hv573_0; replace hv573_0 := Option.some.inj (hv573_0.symm.trans hx573_0); injection hv573_0 with hva_ hvn_ hvc_; rw [hva_] at ge573_0; rw [hvc_] at ul573_0; have HL573_0 := Aside0.mk (show Kd.V k36 36 _ w.heap.size _ _ ((rd_T38 t561 0).f0) from Kd.V_mk ul573_0 ge573_0); clear hva_ hvn_ hvc_ ge573_0 ul573_0; have hv573_3 := hcc573 3 _ rfl; rw [add_field _ _ 3 (by omega)] at hv573_3; replace hv573_3 := Option.some.inj (hv573_3.symm.trans hx573_3); injection hv573_3 with hva_ hvn_ hvc_; rw [hva_] at ge573_3; rw [hvc_] at ul573_3; have HL573_3 := Aside0.mk (show Kd.V k41 41 _ w.heap.size _ _ ((rd_T38 t561 0).f2) from Kd.V_mk ul573_3 ge573_3); clear hva_ hvn_ hvc_ ge573_3 ul573_3; clear hcc573 hce573; have qi573 : (0 < t561.length) = True := eq_true (by omega); (try rw [show ((0 : Int)).toNat = 0 from rfl] at hx573_0); (try rw [show 0 * 4 = 0 from rfl] at hx573_0); (try rw [Addr.add_zero'] at hx573_0); (try rw [show ((0 : Int)).toNat = 0 from rfl] at hx573_1); (try rw [show 0 * 4 = 0 from rfl] at hx573_1); (try rw [Addr.add_zero'] at hx573_1); (try rw [show ((0 : Int)).toNat = 0 from rfl] at hx573_2); (try rw [show 0 * 4 = 0 from rfl] at hx573_2); (try rw [Addr.add_zero'] at hx573_2); (try rw [show ((0 : Int)).toNat = 0 from rfl] at hx573_3); (try rw [show 0 * 4 = 0 from rfl] at hx573_3); (try rw [Addr.add_zero'] at hx573_3); have HR573_0 := Aside0.mk hi573_0; have HC573_0 := Aside0.mk hl573_0; clear hi573_0 hl573_0; have HR573_3 := Aside0.mk hi573_3; have HC573_3 := Aside0.mk hl573_3; clear hi573_3 hl573_3; replace p573 := eq_true p573; replace q573 := eq_true q573; have ea_ := Option.some.inj (hx571_0.symm.trans hx573_0); injection ea_ with ea_ en_ ec_; subst ea_; subst ec_; clear en_; have ea_ := Option.some.inj (hx571_3.symm.trans hx573_3); injection ea_ with ea_ en_ ec_; subst ea_; subst ec_; clear en_; obtain ⟨Ao34, co34, eo34⟩ := Kd.N_slice HO_10.out; subst eo34))
                          go_ret
                          exact ⟨by first | rfl | (simp [errW_none, errW_some] <;> rfl) | (simp [errW_none, errW_some] <;> (generalize ByteArray.toList _ = l_ <;> cases l_ <;> rfl)) | (simp [*, errW_none, errW_some] <;> rfl), by repeat (first | (with_reducible first | exact HB.out | apply below_alloc | apply pw_below_drewN | apply below_drew1) | exact HB.out)⟩
                      · rw [if_neg c26] at H
                        have c26b0 : ((t565.length : Int) == 0) = false := beq_eq_false_iff_ne.mpr c26
                        have c26b1 : ((t565.length : Int) != 0) = true := bne_iff_ne.mpr c26
                        have c26b2 : ¬ (t565 = []) := fun h_ => c26 (by rw [h_]; rfl)
                        exact absurd ((Option.some.inj H).trans HRT.out) (by decide)
                    · rw [if_neg c25] at H
                      have c25b0 : (t568 == 1) = false := beq_eq_false_iff_ne.mpr c25
                      have c25b1 : (t568 != 1) = true := bne_iff_ne.mpr c25
                      exact absurd ((Option.some.inj H).trans HRT.out) (by decide)
                  · rw [if_neg c24] at H
                    have c24b0 : (t564 == 0) = false := beq_eq_false_iff_ne.mpr c24
                    have c24b1 : (t564 != 0) = true := bne_iff_ne.mpr c24
                    exact absurd ((Option.some.inj H).trans HRT.out) (by decide)
                · replace c23 := Bool.eq_false_iff.mpr c23
                  subst c23
                  have H1 : (some false) = some r := by rw [if_neg (show ¬ (false = true) by decide)] at H; exact H
                  clear H
                  have H := H1
                  clear H1
                  exact absurd ((Option.some.inj H).trans HRT.out) (by decide)
              · replace c22 := Bool.eq_false_iff.mpr c22
                subst c22
                have H1 : (if t555 = true then (if t564 = 0 then (if t568 = 1 then (if (t565.length : Int) = 0 then (if x12_1 = true then (some false) else (some ((t561.length : Int) == 0))) else (some false)) else (some false)) else (some false)) else (some false)) = some r := by rw [if_neg (show ¬ (false = true) by decide)] at H; exact H
                clear H
                have H := H1
                clear H1
                by_cases c40 : t555 = true
                · subst c40
                  have H1 : (if t564 = 0 then (if t568 = 1 then (if (t565.length : Int) = 0 then (if x12_1 = true then (some false) else (some ((t561.length : Int) == 0))) else (some false)) else (some false)) else (some false)) = some r := by rw [if_pos rfl] at H; exact H
                  clear H
                  have H := H1
                  clear H1
                  by_cases c41 : t564 = 0
                  · rw [if_pos c41] at H
                    have c41b0 : (t564 == 0) = true := beq_iff_eq.mpr c41
                    have c41b1 : (t564 != 0) = false := bne_eq_false_iff_eq.mpr c41
                    clear c41
                    by_cases c42 : t568 = 1
                    · rw [if_pos c42] at H
                      have c42b0 : (t568 == 1) = true := beq_iff_eq.mpr c42
                      have c42b1 : (t568 != 1) = false := bne_eq_false_iff_eq.mpr c42
                      clear c42
                      by_cases c43 : (t565.length : Int) = 0
                      · rw [if_pos c43] at H
                        have c43b0 : ((t565.length : Int) == 0) = true := beq_iff_eq.mpr c43
                        have c43b1 : ((t565.length : Int) != 0) = false := bne_eq_false_iff_eq.mpr c43
                        clear c43
                        by_cases c44 : x12_1 = true
                        · subst c44
                          have H1 : (some false) = some r := by rw [if_pos rfl] at H; exact H
                          clear H
                          have H := H1
                          clear H1
                          exact absurd ((Option.some.inj H).trans HRT.out) (by decide)
                        · replace c44 := Bool.eq_false_iff.mpr c44
                          subst c44
                          have H1 : (some ((t561.length : Int) == 0)) = some r := by rw [if_neg (show ¬ (false = true) by decide)] at H; exact H
                          clear H
                          have H := H1
                          clear H1
                          obtain rfl := Option.some.inj H
                          obtain ⟨Ao47, co47, eo47⟩ := Kd.N_slice HO_8.out
                          subst eo47
                          have p571 : 0 ≤ (0 : Int) := (by omega)
                          have q571 : 0 < (t561.length : Int) := of_decide_eq_true (by first | (with_reducible assumption) | assumption)
                          obtain ⟨ad571, A571_0, c571_0, A571_3, c571_3, e571, hx571_0, hx571_1, hx571_2, hx571_3, hl571_0, hi571_0, hl571_3, hi571_3⟩ := at_T38 (Kd.N_reads' HO_8.out).2.2 0 p571 q571
                          cases e571
                          obtain ⟨ce571, hce571, hMe571, hcc571⟩ := Kd.N_get HO_8.out z38 0 p571 (by first | exact q571 | exact of_decide_eq_true (by first | (with_reducible assumption) | assumption) | (have e_ := (Kd.N_reads' HO_8.out).1; omega))
                          obtain ⟨ua571_0, uc571_0, ua571_3, uc571_3, rfl, ul571_0, ge571_0, ul571_3, ge571_3⟩ := k38_openF hMe571
                          have hv571_0 := hcc571 0 _ rfl
                          rw [Nat.add_zero] at hv571_0
                          replace hv571_0 := Option.some.inj (hv571_0.symm.trans hx571_0)
                          injection hv571_0 with hva_ hvn_ hvc_
                          rw [hva_] at ge571_0
                          rw [hvc_] at ul571_0
                          have HL571_0 := Aside0.mk (show Kd.V k36 36 _ w.heap.size _ _ ((rd_T38 t561 0).f0) from Kd.V_mk ul571_0 ge571_0)
                          clear hva_ hvn_ hvc_ ge571_0 ul571_0
                          have hv571_3 := hcc571 3 _ rfl
                          rw [add_field _ _ 3 (by omega)] at hv571_3
                          replace hv571_3 := Option.some.inj (hv571_3.symm.trans hx571_3)
                          injection hv571_3 with hva_ hvn_ hvc_
                          rw [hva_] at ge571_3
                          rw [hvc_] at ul571_3
                          have HL571_3 := Aside0.mk (show Kd.V k41 41 _ w.heap.size _ _ ((rd_T38 t561 0).f2) from Kd.V_mk ul571_3 ge571_3)
                          clear hva_ hvn_ hvc_ ge571_3 ul571_3
                          clear hcc571 hce571
                          have qi571 : (0 < t561.length) = True := eq_true (by omega)
                          (try rw [show ((0 : Int)).toNat = 0 from rfl] at hx571_0)
                          (try rw [show 0 * 4 = 0 from rfl] at hx571_0)
                          (try rw [Addr.add_zero'] at hx571_0)
                          (try rw [show ((0 : Int)).toNat = 0 from rfl] at hx571_1)
                          (try rw [show 0 * 4 = 0 from rfl] at hx571_1)
                          (try rw [Addr.add_zero'] at hx571_1)
                          (try rw [show ((0 : Int)).toNat = 0 from rfl] at hx571_2)
                          (try rw [show 0 * 4 = 0 from rfl] at hx571_2)
                          (try rw [Addr.add_zero'] at hx571_2)
                          (try rw [show ((0 : Int)).toNat = 0 from rfl] at hx571_3)
                          (try rw [show 0 * 4 = 0 from rfl] at hx571_3)
                          (try rw [Addr.add_zero'] at hx571_3)
                          have HR571_0 := Aside0.mk hi571_0
                          have HC571_0 := Aside0.mk hl571_0
                          clear hi571_0 hl571_0
                          have HR571_3 := Aside0.mk hi571_3
                          have HC571_3 := Aside0.mk hl571_3
                          clear hi571_3 hl571_3
                          replace p571 := eq_true p571
                          replace q571 := eq_true q571
                          go_wp2_with (first | (go_at_call 21; (with_reducible refine (sennitref19_Same.calls k1 _ _ ((rd_T38 t561 0).f2) _ _ t557 false _ ?side1 ?side2 ?side3 ?side4 A21.out).mono ?_); (case side1 => repeat (first | exact (by repeat (first | (with_reducible exact HR571_3.out) | (with_reducible refine Kd.C_alloc ?_ _) | (with_reducible refine Kd.C_drewN ?_ _) | (with_reducible refine Kd.C_drew ?_) | exact HR571_3.out)) | (with_reducible refine Kd.C_alloc ?_ _) | (with_reducible refine Kd.C_drewN ?_ _) | (with_reducible refine Kd.C_drew ?_))); (case side2 => exact HC571_3.out); (case side3 => repeat (first | exact (Kd.R_reads' HO_6.out).2.2 | (with_reducible refine Kd.C_alloc ?_ _) | (with_reducible refine Kd.C_drewN ?_ _) | (with_reducible refine Kd.C_drew ?_))); (case side4 => exact (Kd.R_reads' HO_6.out).2.1); rintro e w' ⟨rfl, ⟨nd, rfl⟩⟩; obtain ⟨Ao48, co48, eo48⟩ := Kd.N_slice HO_10.out; subst eo48))
                          go_ret
                          exact ⟨by first | rfl | (simp [errW_none, errW_some] <;> rfl) | (simp [errW_none, errW_some] <;> (generalize ByteArray.toList _ = l_ <;> cases l_ <;> rfl)) | (simp [*, errW_none, errW_some] <;> rfl), by repeat (first | (with_reducible first | exact HB.out | apply below_alloc | apply pw_below_drewN | apply below_drew1) | exact HB.out)⟩
                      · rw [if_neg c43] at H
                        have c43b0 : ((t565.length : Int) == 0) = false := beq_eq_false_iff_ne.mpr c43
                        have c43b1 : ((t565.length : Int) != 0) = true := bne_iff_ne.mpr c43
                        have c43b2 : ¬ (t565 = []) := fun h_ => c43 (by rw [h_]; rfl)
                        exact absurd ((Option.some.inj H).trans HRT.out) (by decide)
                    · rw [if_neg c42] at H
                      have c42b0 : (t568 == 1) = false := beq_eq_false_iff_ne.mpr c42
                      have c42b1 : (t568 != 1) = true := bne_iff_ne.mpr c42
                      exact absurd ((Option.some.inj H).trans HRT.out) (by decide)
                  · rw [if_neg c41] at H
                    have c41b0 : (t564 == 0) = false := beq_eq_false_iff_ne.mpr c41
                    have c41b1 : (t564 != 0) = true := bne_iff_ne.mpr c41
                    exact absurd ((Option.some.inj H).trans HRT.out) (by decide)
                · replace c40 := Bool.eq_false_iff.mpr c40
                  subst c40
                  have H1 : (some false) = some r := by rw [if_neg (show ¬ (false = true) by decide)] at H; exact H
                  clear H
                  have H := H1
                  clear H1
                  exact absurd ((Option.some.inj H).trans HRT.out) (by decide)
            · rw [if_neg c20] at H
              exact absurd H (by simp)
          · rw [if_neg c19] at H
            have c19b0 : ((t561.length : Int) == 1) = false := beq_eq_false_iff_ne.mpr c19
            have c19b1 : ((t561.length : Int) != 1) = true := bne_iff_ne.mpr c19
            by_cases c54 : t555 = true
            · subst c54
              have H1 : (if t564 = 0 then (if t568 = 1 then (if (t565.length : Int) = 0 then (if x12_1 = true then (some false) else (some ((t561.length : Int) == 0))) else (some false)) else (some false)) else (some false)) = some r := by rw [if_pos rfl] at H; exact H
              clear H
              have H := H1
              clear H1
              by_cases c55 : t564 = 0
              · rw [if_pos c55] at H
                have c55b0 : (t564 == 0) = true := beq_iff_eq.mpr c55
                have c55b1 : (t564 != 0) = false := bne_eq_false_iff_eq.mpr c55
                clear c55
                by_cases c56 : t568 = 1
                · rw [if_pos c56] at H
                  have c56b0 : (t568 == 1) = true := beq_iff_eq.mpr c56
                  have c56b1 : (t568 != 1) = false := bne_eq_false_iff_eq.mpr c56
                  clear c56
                  by_cases c57 : (t565.length : Int) = 0
                  · rw [if_pos c57] at H
                    have c57b0 : ((t565.length : Int) == 0) = true := beq_iff_eq.mpr c57
                    have c57b1 : ((t565.length : Int) != 0) = false := bne_eq_false_iff_eq.mpr c57
                    clear c57
                    by_cases c58 : x12_1 = true
                    · subst c58
                      have H1 : (some false) = some r := by rw [if_pos rfl] at H; exact H
                      clear H
                      have H := H1
                      clear H1
                      exact absurd ((Option.some.inj H).trans HRT.out) (by decide)
                    · replace c58 := Bool.eq_false_iff.mpr c58
                      subst c58
                      have H1 : (some ((t561.length : Int) == 0)) = some r := by rw [if_neg (show ¬ (false = true) by decide)] at H; exact H
                      clear H
                      have H := H1
                      clear H1
                      obtain rfl := Option.some.inj H
                      obtain ⟨Ao61, co61, eo61⟩ := Kd.N_slice HO_8.out
                      subst eo61
                      obtain ⟨Ao62, co62, eo62⟩ := Kd.N_slice HO_10.out
                      subst eo62
                      go_wp2
                      go_ret
                      exact ⟨by first | rfl | (simp [errW_none, errW_some] <;> rfl) | (simp [errW_none, errW_some] <;> (generalize ByteArray.toList _ = l_ <;> cases l_ <;> rfl)) | (simp [*, errW_none, errW_some] <;> rfl), by repeat (first | (with_reducible first | exact HB.out | apply below_alloc | apply pw_below_drewN | apply below_drew1) | exact HB.out)⟩
                  · rw [if_neg c57] at H
                    have c57b0 : ((t565.length : Int) == 0) = false := beq_eq_false_iff_ne.mpr c57
                    have c57b1 : ((t565.length : Int) != 0) = true := bne_iff_ne.mpr c57
                    have c57b2 : ¬ (t565 = []) := fun h_ => c57 (by rw [h_]; rfl)
                    exact absurd ((Option.some.inj H).trans HRT.out) (by decide)
                · rw [if_neg c56] at H
                  have c56b0 : (t568 == 1) = false := beq_eq_false_iff_ne.mpr c56
                  have c56b1 : (t568 != 1) = true := bne_iff_ne.mpr c56
                  exact absurd ((Option.some.inj H).trans HRT.out) (by decide)
              · rw [if_neg c55] at H
                have c55b0 : (t564 == 0) = false := beq_eq_false_iff_ne.mpr c55
                have c55b1 : (t564 != 0) = true := bne_iff_ne.mpr c55
                exact absurd ((Option.some.inj H).trans HRT.out) (by decide)
            · replace c54 := Bool.eq_false_iff.mpr c54
              subst c54
              have H1 : (some false) = some r := by rw [if_neg (show ¬ (false = true) by decide)] at H; exact H
              clear H
              have H := H1
              clear H1
              exact absurd ((Option.some.inj H).trans HRT.out) (by decide)
  · replace c5 := Bool.eq_false_iff.mpr c5
    subst c5
    have H1 : (some t555) = some r := by rw [if_neg (show ¬ (false = true) by decide)] at H; exact H
    clear H
    have H := H1
    clear H1
    obtain rfl := Option.some.inj H
    go_enter Tryd.func8, Tryd.ntmps8
    go_wp2_with (first | ((with_reducible refine gate_callee (f := 9) rfl ?_); refine goesL_ (some 15) rfl rfl Tryd.func9 (by kernel_rfl) rfl #[] rfl (by (try simp only [List.map_toArray, List.map_cons, List.map_nil]); first | done | rfl | (simp only [List.length_drop, List.length_take]; rfl)) ?_; (with_reducible refine (sennitlaw21_awake.calls k  t555 _ ?sidemx A3.out).mono ?_); (case sidemx => exact MaxOk.below HMX.out (by repeat (first | (with_reducible first | exact HB.out | apply below_alloc | apply pw_below_drewN | apply below_drew1) | exact HB.out))); rintro e w68 ⟨rfl, hb⟩; refine ⟨_, rfl, ?_⟩; have n0_ := Aside0.mk (below_step (by repeat (first | (with_reducible first | exact HB.out | apply below_alloc | apply pw_below_drewN | apply below_drew1) | exact HB.out)) hb); clear HB; have HB := n0_; clear n0_; (try clear hb); (try clear hb2); (try clear hk); (try clear hi)) | ((with_reducible refine gate_callee (f := 24) rfl ?_); refine goesL_ (some 18) rfl rfl Tryd.func24 (by kernel_rfl) rfl #[.slice A0 l0.length c0, .slice A1 l1.length c1] rfl (by (try simp only [List.map_toArray, List.map_cons, List.map_nil]); first | done | rfl | (simp only [List.length_drop, List.length_take]; rfl)) ?_; (with_reducible refine (sennitref20_May.calls k _ _ l0 _ _ l1 false _ ?side1 ?side2 ?side3 ?side4 A4.out).mono ?_); (case side1 => repeat (first | exact (Kd.C_below HR0.out HB.out) | (with_reducible refine Kd.C_alloc ?_ _) | (with_reducible refine Kd.C_drewN ?_ _) | (with_reducible refine Kd.C_drew ?_))); (case side2 => exact HC0.out); (case side3 => repeat (first | exact (Kd.C_below HR1.out HB.out) | (with_reducible refine Kd.C_alloc ?_ _) | (with_reducible refine Kd.C_drewN ?_ _) | (with_reducible refine Kd.C_drew ?_))); (case side4 => exact HC1.out); rintro e w' ⟨rfl, ⟨nd, rfl⟩⟩; refine ⟨_, rfl, ?_⟩))
    go_ret
    exact ⟨by first | rfl | (simp [errW_none, errW_some] <;> rfl) | (simp [errW_none, errW_some] <;> (generalize ByteArray.toList _ = l_ <;> cases l_ <;> rfl)) | (simp [*, errW_none, errW_some] <;> rfl), by repeat (first | (with_reducible first | exact HB.out | apply below_alloc | apply pw_below_drewN | apply below_drew1) | exact HB.out)⟩

end Go.Proofs.YtenfoaajipiehaaDoor.Q
