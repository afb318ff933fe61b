/- Contracts of the functions named below: each comes to what the Lean function of its name says (for every input; written by a program over the translation). -/
import Derived.Test.YtenfoaajipiehaaDoorQ0
import Derived.Test.YtenfoaajipiehaaDoorR6
namespace Go.Proofs.YtenfoaajipiehaaDoor.Q
open Go.RowKit Go.Proofs.YtenfoaajipiehaaDoorW.PrintWords Go.Proofs.YtenfoaajipiehaaDoorW.PrintLast Go.Proofs.YtenfoaajipiehaaDoorW.PrintMore
attribute [local go_sem] max2_int min2_int max_two min_two max_three min_three max_four min_four   -- for this text's walks alone
set_option linter.unusedVariables false
set_option linter.unusedSimpArgs false
/-! ### sennitref20_Of: function 73 -/
def sennitref20_Of.f (k : Nat) (a0_0 : ByteArray) (a0_1 : ByteArray) (a1 : Int) : Option (Bool) := if a1 < 0 then (some false) else (if a1 ≥ (a0_0.size : Int) then (some false) else (if 0 ≤ a1 then (if a1 < (a0_0.size : Int) then (if (bt a0_0 a1) = 45 then (some true) else (if (bt a0_0 a1) = 32 then ((sennitref20_Lost.f k a0_0 a0_1).bind fun t191 => (some (!t191))) else (some false))) else (none)) else (none)))
theorem sennitref20_Of.mono : ∀ a0 a1 a2 k, LeO (sennitref20_Of.f k a0 a1 a2) (sennitref20_Of.f (k + 1) a0 a1 a2) := by
  intro a0 a1 a2 k
  unfold sennitref20_Of.f
  repeat' first
      | (with_reducible exact sennitref20_Lost.mono _ _ _)
      | (with_reducible exact LeO.refl _)
      | (with_reducible exact LeO.none _)
      | (with_reducible refine LeO.ite ?_ ?_)
      | (with_reducible refine LeO.bind ?_ (fun _ => ?_))
      | exact sennitref20_Lost.mono _ _ _
      | exact LeO.none _
      | refine LeO.ite ?_ ?_
      | refine LeO.bind ?_ (fun _ => ?_)
set_option maxHeartbeats 8000000 in
set_option maxRecDepth 100000 in
theorem sennitref20_Of.calls (k : Nat) (a0_0 : ByteArray) (a0_1 : ByteArray) (a1 : Int) (r : Bool) (w : World) (h : sennitref20_Of.f k a0_0 a0_1 a1 = some r) :
    Calls Tryd.prog 73 #[.agg #[.string a0_0, .string a0_1], .int .i64 a1] w fun e w' => e = .returned (.bool r) ∧ Below w.heap.size w w' := by
  have hu41 := Tryd.underlying41
  have HB := Aside0.mk (Below.refl w.heap.size w)
  have H : (if a1 < 0 then (some false) else (if a1 ≥ (a0_0.size : Int) then (some false) else (if 0 ≤ a1 then (if a1 < (a0_0.size : Int) then (if (bt a0_0 a1) = 45 then (some true) else (if (bt a0_0 a1) = 32 then ((sennitref20_Lost.f k a0_0 a0_1).bind fun t191 => (some (!t191))) else (some false))) else (none)) else (none)))) = some r := h
  clear h
  by_cases c3 : a1 < 0
  · rw [if_pos c3] at H
    have c3b0 : decide (a1 < 0) = true := decide_eq_true c3
    clear c3
    obtain rfl := Option.some.inj H
    go_enter Tryd.func73, Tryd.ntmps73
    go_wp2_with (first | ((with_reducible refine gate_dst (N := 2) rfl ?_); (try (refine gate_guard (by rfl) ?_; dsimp only)); refine box_event ?hg (N := 2) ?hd (cs := #[.string a0_0, .string a0_1]) (t := 41) ?hr ?_; (case hd => rfl); (case hg => rfl); (case hr => first | (go_simp; done) | (go_simp; rfl)); intro gb190 hg w4 hbox hb; have n0_ := Aside0.mk (below_step (by repeat (first | (with_reducible first | exact HB.out | apply below_alloc | apply pw_below_drewN | apply below_drew1) | exact HB.out)) hb); have n1_ := Aside0.mk (hbox); have n2_ := Aside0.mk ((by rw [hg]; exact (below_size (by repeat (first | (with_reducible first | exact HB.out | apply below_alloc | apply pw_below_drewN | apply below_drew1) | exact HB.out))) : w.heap.size ≤ gb190)); have n3_ := Aside0.mk ((by rw [hg]; exact (below_size (by repeat (first | (with_reducible first | exact HB.out | apply below_alloc | apply pw_below_drewN | apply below_drew1) | exact HB.out))) : w.heap.size ≤ gb190)); clear HB; have HB := n0_; have BK190 := n1_; have GW190 := n2_; have GE190 := n3_; clear n0_ n1_ n2_ n3_; clear hb hbox hg))
    go_ret
    exact ⟨by first | rfl | (simp [errW_none, errW_some] <;> rfl) | (simp [errW_none, errW_some] <;> (generalize ByteArray.toList _ = l_ <;> cases l_ <;> rfl)) | (simp [*, errW_none, errW_some] <;> rfl), by repeat (first | (with_reducible first | exact HB.out | apply below_alloc | apply pw_below_drewN | apply below_drew1 | refine below_set ?_ GE190.out) | exact HB.out)⟩
  · rw [if_neg c3] at H
    have c3b0 : decide (a1 < 0) = false := decide_eq_false c3
    clear c3
    by_cases c5 : a1 ≥ (a0_0.size : Int)
    · rw [if_pos c5] at H
      have c5b0 : decide ((a0_0.size : Int) ≤ a1) = true := decide_eq_true c5
      clear c5
      obtain rfl := Option.some.inj H
      go_enter Tryd.func73, Tryd.ntmps73
      go_wp2_with (first | ((with_reducible refine gate_dst (N := 2) rfl ?_); (try (refine gate_guard (by rfl) ?_; dsimp only)); refine box_event ?hg (N := 2) ?hd (cs := #[.string a0_0, .string a0_1]) (t := 41) ?hr ?_; (case hd => rfl); (case hg => rfl); (case hr => first | (go_simp; done) | (go_simp; rfl)); intro gb190 hg w6 hbox hb; have n0_ := Aside0.mk (below_step (by repeat (first | (with_reducible first | exact HB.out | apply below_alloc | apply pw_below_drewN | apply below_drew1) | exact HB.out)) hb); have n1_ := Aside0.mk (hbox); have n2_ := Aside0.mk ((by rw [hg]; exact (below_size (by repeat (first | (with_reducible first | exact HB.out | apply below_alloc | apply pw_below_drewN | apply below_drew1) | exact HB.out))) : w.heap.size ≤ gb190)); have n3_ := Aside0.mk ((by rw [hg]; exact (below_size (by repeat (first | (with_reducible first | exact HB.out | apply below_alloc | apply pw_below_drewN | apply below_drew1) | exact HB.out))) : w.heap.size ≤ gb190)); clear HB; have HB := n0_; have BK190 := n1_; have GW190 := n2_; have GE190 := n3_; clear n0_ n1_ n2_ n3_; clear hb hbox hg; have hcz7_0 : w6.cell? ⟨gb190, 0, none⟩ = some (.string a0_0) := (blk_cell BK190.out 0).trans rfl; have hcz7_1 : w6.cell? ⟨gb190, 1, none⟩ = some (.string a0_1) := (blk_cell BK190.out 1).trans rfl; have hfz7_0 := blk_frozen BK190.out 0; have hfz7_1 := blk_frozen BK190.out 1))
      go_ret
      exact ⟨by first | rfl | (simp [errW_none, errW_some] <;> rfl) | (simp [errW_none, errW_some] <;> (generalize ByteArray.toList _ = l_ <;> cases l_ <;> rfl)) | (simp [*, errW_none, errW_some] <;> rfl), by repeat (first | (with_reducible first | exact HB.out | apply below_alloc | apply pw_below_drewN | apply below_drew1 | refine below_set ?_ GE190.out) | exact HB.out)⟩
    · rw [if_neg c5] at H
      have c5b0 : decide ((a0_0.size : Int) ≤ a1) = false := decide_eq_false c5
      clear c5
      by_cases c8 : 0 ≤ a1
      · rw [if_pos c8] at H
        have c8b0 : decide (0 ≤ a1) = true := decide_eq_true c8
        clear c8
        by_cases c9 : a1 < (a0_0.size : Int)
        · rw [if_pos c9] at H
          have c9b0 : decide (a1 < (a0_0.size : Int)) = true := decide_eq_true c9
          clear c9
          by_cases c11 : (bt a0_0 a1) = 45
          · rw [if_pos c11] at H
            have c11b0 : ((bt a0_0 a1) == 45) = true := beq_iff_eq.mpr c11
            have c11b1 : ((bt a0_0 a1) != 45) = false := bne_eq_false_iff_eq.mpr c11
            clear c11
            obtain rfl := Option.some.inj H
            go_enter Tryd.func73, Tryd.ntmps73
            go_wp2_with (first | ((with_reducible refine gate_dst (N := 2) rfl ?_); (try (refine gate_guard (by rfl) ?_; dsimp only)); refine box_event ?hg (N := 2) ?hd (cs := #[.string a0_0, .string a0_1]) (t := 41) ?hr ?_; (case hd => rfl); (case hg => rfl); (case hr => first | (go_simp; done) | (go_simp; rfl)); intro gb190 hg w12 hbox hb; have n0_ := Aside0.mk (below_step (by repeat (first | (with_reducible first | exact HB.out | apply below_alloc | apply pw_below_drewN | apply below_drew1) | exact HB.out)) hb); have n1_ := Aside0.mk (hbox); have n2_ := Aside0.mk ((by rw [hg]; exact (below_size (by repeat (first | (with_reducible first | exact HB.out | apply below_alloc | apply pw_below_drewN | apply below_drew1) | exact HB.out))) : w.heap.size ≤ gb190)); have n3_ := Aside0.mk ((by rw [hg]; exact (below_size (by repeat (first | (with_reducible first | exact HB.out | apply below_alloc | apply pw_below_drewN | apply below_drew1) | exact HB.out))) : w.heap.size ≤ gb190)); clear HB; have HB := n0_; have BK190 := n1_; have GW190 := n2_; have GE190 := n3_; clear n0_ n1_ n2_ n3_; clear hb hbox hg; have hcz13_0 : w12.cell? ⟨gb190, 0, none⟩ = some (.string a0_0) := (blk_cell BK190.out 0).trans rfl; have hcz13_1 : w12.cell? ⟨gb190, 1, none⟩ = some (.string a0_1) := (blk_cell BK190.out 1).trans rfl; have hfz13_0 := blk_frozen BK190.out 0; have hfz13_1 := blk_frozen BK190.out 1; have p10 : 0 ≤ (a1 : Int) := of_decide_eq_true (by first | (with_reducible assumption) | assumption); have q10 : a1 < (a0_0.size : Int) := of_decide_eq_true (by first | (with_reducible assumption) | assumption); have hx10 := bt_at a0_0 a1; replace p10 := eq_true p10; replace q10 := eq_true q10))
            go_ret
            exact ⟨by first | rfl | (simp [errW_none, errW_some] <;> rfl) | (simp [errW_none, errW_some] <;> (generalize ByteArray.toList _ = l_ <;> cases l_ <;> rfl)) | (simp [*, errW_none, errW_some] <;> rfl), by repeat (first | (with_reducible first | exact HB.out | apply below_alloc | apply pw_below_drewN | apply below_drew1 | refine below_set ?_ GE190.out) | exact HB.out)⟩
          · rw [if_neg c11] at H
            have c11b0 : ((bt a0_0 a1) == 45) = false := beq_eq_false_iff_ne.mpr c11
            have c11b1 : ((bt a0_0 a1) != 45) = true := bne_iff_ne.mpr c11
            by_cases c15 : (bt a0_0 a1) = 32
            · rw [if_pos c15] at H
              have c15b0 : ((bt a0_0 a1) == 32) = true := beq_iff_eq.mpr c15
              have c15b1 : ((bt a0_0 a1) != 32) = false := bne_eq_false_iff_eq.mpr c15
              clear c15
              replace H := Option.bind_eq_some_iff.mp H
              obtain ⟨t191, A160, H⟩ := H
              replace H : (some (!t191)) = some r := H
              have A16 := Aside0.mk A160
              clear A160
              obtain rfl := Option.some.inj H
              go_enter Tryd.func73, Tryd.ntmps73
              go_wp2_with (first | ((with_reducible refine gate_dst (N := 2) rfl ?_); (try (refine gate_guard (by rfl) ?_; dsimp only)); refine box_event ?hg (N := 2) ?hd (cs := #[.string a0_0, .string a0_1]) (t := 41) ?hr ?_; (case hd => rfl); (case hg => rfl); (case hr => first | (go_simp; done) | (go_simp; rfl)); intro gb190 hg w17 hbox hb; have n0_ := Aside0.mk (below_step (by repeat (first | (with_reducible first | exact HB.out | apply below_alloc | apply pw_below_drewN | apply below_drew1) | exact HB.out)) hb); have n1_ := Aside0.mk (hbox); have n2_ := Aside0.mk ((by rw [hg]; exact (below_size (by repeat (first | (with_reducible first | exact HB.out | apply below_alloc | apply pw_below_drewN | apply below_drew1) | exact HB.out))) : w.heap.size ≤ gb190)); have n3_ := Aside0.mk ((by rw [hg]; exact (below_size (by repeat (first | (with_reducible first | exact HB.out | apply below_alloc | apply pw_below_drewN | apply below_drew1) | exact HB.out))) : w.heap.size ≤ gb190)); clear HB; have HB := n0_; have BK190 := n1_; have GW190 := n2_; have GE190 := n3_; clear n0_ n1_ n2_ n3_; clear hb hbox hg; have hcz18_0 : w17.cell? ⟨gb190, 0, none⟩ = some (.string a0_0) := (blk_cell BK190.out 0).trans rfl; have hcz18_1 : w17.cell? ⟨gb190, 1, none⟩ = some (.string a0_1) := (blk_cell BK190.out 1).trans rfl; have hfz18_0 := blk_frozen BK190.out 0; have hfz18_1 := blk_frozen BK190.out 1; have p10 : 0 ≤ (a1 : Int) := of_decide_eq_true (by first | (with_reducible assumption) | assumption); have q10 : a1 < (a0_0.size : Int) := of_decide_eq_true (by first | (with_reducible assumption) | assumption); have hx10 := bt_at a0_0 a1; replace p10 := eq_true p10; replace q10 := eq_true q10; have p14 : 0 ≤ (a1 : Int) := of_decide_eq_true (by first | (with_reducible assumption) | assumption); have q14 : a1 < (a0_0.size : Int) := of_decide_eq_true (by first | (with_reducible assumption) | assumption); have hx14 := bt_at a0_0 a1; replace p14 := eq_true p14; replace q14 := eq_true q14) | (go_at_call 72; (with_reducible refine (sennitref20_Lost.calls k a0_0 a0_1 t191 _ A16.out).mono ?_); rintro e w19 ⟨rfl, hb⟩; have n0_ := Aside0.mk (blk_below (g := gb190) (o := .cells #[.string a0_0, .string a0_1] 41 (0, 0)) (by (with_reducible repeat (first | refine blk_drewN ?_ _ | refine blk_drew ?_ | refine blk_alloc ?_ _)); exact BK190.out) hb); have n1_ := Aside0.mk (below_step (by repeat (first | (with_reducible first | exact HB.out | apply below_alloc | apply pw_below_drewN | apply below_drew1 | refine below_set ?_ GE190.out) | exact HB.out)) hb); clear BK190; clear HB; have BK190 := n0_; have HB := n1_; clear n0_ n1_; (try clear hb); (try clear hb2); (try clear hk); (try clear hi)))
              go_ret
              exact ⟨by first | rfl | (simp [errW_none, errW_some] <;> rfl) | (simp [errW_none, errW_some] <;> (generalize ByteArray.toList _ = l_ <;> cases l_ <;> rfl)) | (simp [*, errW_none, errW_some] <;> rfl), by repeat (first | (with_reducible first | exact HB.out | apply below_alloc | apply pw_below_drewN | apply below_drew1 | refine below_set ?_ GE190.out) | exact HB.out)⟩
            · rw [if_neg c15] at H
              have c15b0 : ((bt a0_0 a1) == 32) = false := beq_eq_false_iff_ne.mpr c15
              have c15b1 : ((bt a0_0 a1) != 32) = true := bne_iff_ne.mpr c15
              obtain rfl := Option.some.inj H
              go_enter Tryd.func73, Tryd.ntmps73
              go_wp2_with (first | ((with_reducible refine gate_dst (N := 2) rfl ?_); (try (refine gate_guard (by rfl) ?_; dsimp only)); refine box_event ?hg (N := 2) ?hd (cs := #[.string a0_0, .string a0_1]) (t := 41) ?hr ?_; (case hd => rfl); (case hg => rfl); (case hr => first | (go_simp; done) | (go_simp; rfl)); intro gb190 hg w20 hbox hb; have n0_ := Aside0.mk (below_step (by repeat (first | (with_reducible first | exact HB.out | apply below_alloc | apply pw_below_drewN | apply below_drew1) | exact HB.out)) hb); have n1_ := Aside0.mk (hbox); have n2_ := Aside0.mk ((by rw [hg]; exact (below_size (by repeat (first | (with_reducible first | exact HB.out | apply below_alloc | apply pw_below_drewN | apply below_drew1) | exact HB.out))) : w.heap.size ≤ gb190)); have n3_ := Aside0.mk ((by rw [hg]; exact (below_size (by repeat (first | (with_reducible first | exact HB.out | apply below_alloc | apply pw_below_drewN | apply below_drew1) | exact HB.out))) : w.heap.size ≤ gb190)); clear HB; have HB := n0_; have BK190 := n1_; have GW190 := n2_; have GE190 := n3_; clear n0_ n1_ n2_ n3_; clear hb hbox hg; have hcz21_0 : w20.cell? ⟨gb190, 0, none⟩ = some (.string a0_0) := (blk_cell BK190.out 0).trans rfl; have hcz21_1 : w20.cell? ⟨gb190, 1, none⟩ = some (.string a0_1) := (blk_cell BK190.out 1).trans rfl; have hfz21_0 := blk_frozen BK190.out 0; have hfz21_1 := blk_frozen BK190.out 1; have p10 : 0 ≤ (a1 : Int) := of_decide_eq_true (by first | (with_reducible assumption) | assumption); have q10 : a1 < (a0_0.size : Int) := of_decide_eq_true (by first | (with_reducible assumption) | assumption); have hx10 := bt_at a0_0 a1; replace p10 := eq_true p10; replace q10 := eq_true q10; have p14 : 0 ≤ (a1 : Int) := of_decide_eq_true (by first | (with_reducible assumption) | assumption); have q14 : a1 < (a0_0.size : Int) := of_decide_eq_true (by first | (with_reducible assumption) | assumption); have hx14 := bt_at a0_0 a1; replace p14 := eq_true p14; replace q14 := eq_true q14))
              go_ret
              exact ⟨by first | rfl | (simp [errW_none, errW_some] <;> rfl) | (simp [errW_none, errW_some] <;> (generalize ByteArray.toList _ = l_ <;> cases l_ <;> rfl)) | (simp [*, errW_none, errW_some] <;> rfl), by repeat (first | (with_reducible first | exact HB.out | apply below_alloc | apply pw_below_drewN | apply below_drew1 | refine below_set ?_ GE190.out) | exact HB.out)⟩
        · rw [if_neg c9] at H
          exact absurd H (by simp)
      · rw [if_neg c8] at H
        exact absurd H (by simp)

/-! ### sennitref20_Column: function 54 -/
def sennitref20_Column.l0 : Nat → List (S41) → Int → List ByteArray → Int → Option (List ByteArray)
  | 0, _, _, _, _ => none
  | k + 1, x0, x1, x5, x6 => if x6 < (x0.length : Int) then (if 0 ≤ x6 then ((sennitref20_Of.f k ((rd_T41 x0 x6).f0) ((rd_T41 x0 x6).f1) x1).bind fun t193 => (if t193 = true then (if x5.length < 8796093022208 then (sennitref20_Column.l0 k x0 x1 (x5 ++ [(rd_T41 x0 x6).f1]) (wrap64 (x6 + 1))) else (none)) else (sennitref20_Column.l0 k x0 x1 x5 (wrap64 (x6 + 1))))) else (none)) else (some x5)
def sennitref20_Column.f (k : Nat) (l0 : List (S41)) (a1 : Int) : Option (List ByteArray) := sennitref20_Column.l0 k l0 a1 ([] : List ByteArray) 0
theorem sennitref20_Column.mono_l : ∀ k, (∀ y0 y1 y2 y3, LeO (sennitref20_Column.l0 k y0 y1 y2 y3) (sennitref20_Column.l0 (k + 1) y0 y1 y2 y3))
  | 0 => fun _ _ _ _ r h => by simp [sennitref20_Column.l0] at h
  | k + 1 => by
    have ih0 := sennitref20_Column.mono_l k
    · intro y0 y1 y2 y3
      unfold sennitref20_Column.l0
      repeat' first
      | (with_reducible exact ih0 _ _ _ _)
      | (with_reducible exact sennitref20_Of.mono _ _ _ _)
      | (with_reducible exact LeO.refl _)
      | (with_reducible exact LeO.none _)
      | (with_reducible refine LeO.ite ?_ ?_)
      | (with_reducible refine LeO.bind ?_ (fun _ => ?_))
      | exact ih0 _ _ _ _
      | exact sennitref20_Of.mono _ _ _ _
      | exact LeO.none _
      | refine LeO.ite ?_ ?_
      | refine LeO.bind ?_ (fun _ => ?_)
theorem sennitref20_Column.mono : ∀ a0 a1 k, LeO (sennitref20_Column.f k a0 a1) (sennitref20_Column.f (k + 1) a0 a1) := by
  intro a0 a1 k
  have ih0 := sennitref20_Column.mono_l k
  unfold sennitref20_Column.f
  repeat' first
      | (with_reducible exact ih0 _ _ _ _)
      | (with_reducible exact sennitref20_Of.mono _ _ _ _)
      | (with_reducible exact LeO.refl _)
      | (with_reducible exact LeO.none _)
      | (with_reducible refine LeO.ite ?_ ?_)
      | (with_reducible refine LeO.bind ?_ (fun _ => ?_))
      | exact ih0 _ _ _ _
      | exact sennitref20_Of.mono _ _ _ _
      | exact LeO.none _
      | refine LeO.ite ?_ ?_
      | refine LeO.bind ?_ (fun _ => ?_)
set_option maxHeartbeats 8000000 in
set_option maxRecDepth 100000 in
theorem sennitref20_Column.calls (k : Nat) (A0 : Option Addr) (c0 : Nat) (l0 : List (S41)) (a1 : Int) (r : List ByteArray) (w : World) (hr0 : Kd.C k41 w A0 l0.length l0) (hc0 : l0.length ≤ c0) (h : sennitref20_Column.f k l0 a1 = some r) :
    Calls Tryd.prog 54 #[.slice A0 l0.length c0, .int .i64 a1] w fun e w' => ∃ v0_ : Value, e = .returned (v0_) ∧ Kd.R Kd.string 9 w' w.heap.size (fun _ => True) v0_ r ∧ Below w.heap.size w w' := by
  have hu41 := Tryd.underlying41
  have HR0 := Aside0.mk hr0
  have HC0 := Aside0.mk hc0
  clear hr0 hc0
  have HB := Aside0.mk (Below.refl w.heap.size w)
  have H : (sennitref20_Column.l0 k l0 a1 ([] : List ByteArray) 0) = some r := h
  clear h
  have H' := Aside0.mk H
  clear H
  go_enter Tryd.func54, Tryd.ntmps54
  go_wp2
  go_loopg [5, 6] k (fun kq v5 v6 w' => ∃ (x5_1 : List ByteArray) (x6_1 : Int), v6 = .int .i64 x6_1 ∧ Aside0 (sennitref20_Column.l0 kq l0 a1 x5_1 x6_1 = some r) ∧ Aside0 (kq ≤ k) ∧ Aside0 (Kd.R Kd.string 9 w' w.heap.size (fun _ => True) v5 x5_1) ∧ Aside0 (Below w.heap.size w w'))
  case atStart => exact ⟨(([] : List ByteArray)), (0), (by first | rfl | (simp; done) | (simp [*]; done)), H', ⟨Nat.le_refl _⟩, ⟨by first | exact Kd.R_nil _ _ _ _ _ | exact Kd.N_nil _ _ _ _ _ | exact Kd.V_nil _ _ _ _ _ | exact Kd.Q_nil _ _ _ _ _ | exact Kd.S_nil _ _ _ _ _⟩, ⟨by repeat (first | (with_reducible first | exact HB.out | apply below_alloc | apply pw_below_drewN | apply below_drew1) | exact HB.out)⟩⟩
  case round =>
    clear H'
    try clear p2
    obtain ⟨x5_1, x6_1, rfl, HA, HK1, HO_5, HB⟩ := hrel
    cases gk with
    | zero => exact absurd HA.out (by simp [sennitref20_Column.l0])
    | succ k1 =>
      have H := HA.out
      clear HA
      simp only [sennitref20_Column.l0] at H
      by_cases c3 : x6_1 < (l0.length : Int)
      · rw [if_pos c3] at H
        have c3b0 : decide (x6_1 < (l0.length : Int)) = true := decide_eq_true c3
        clear c3
        by_cases c4 : 0 ≤ x6_1
        · rw [if_pos c4] at H
          have c4b0 : decide (0 ≤ x6_1) = true := decide_eq_true c4
          clear c4
          replace H := Option.bind_eq_some_iff.mp H
          obtain ⟨t193, A50, H⟩ := H
          replace H : (if t193 = true then (if x5_1.length < 8796093022208 then (sennitref20_Column.l0 k1 l0 a1 (x5_1 ++ [(rd_T41 l0 x6_1).f1]) (wrap64 (x6_1 + 1))) else (none)) else (sennitref20_Column.l0 k1 l0 a1 x5_1 (wrap64 (x6_1 + 1)))) = some r := H
          have A5 := Aside0.mk A50
          clear A50
          by_cases c6 : t193 = true
          · subst c6
            have H1 : (if x5_1.length < 8796093022208 then (sennitref20_Column.l0 k1 l0 a1 (x5_1 ++ [(rd_T41 l0 x6_1).f1]) (wrap64 (x6_1 + 1))) else (none)) = some r := by rw [if_pos rfl] at H; exact H
            clear H
            have H := H1
            clear H1
            by_cases c7 : x5_1.length < 8796093022208
            · rw [if_pos c7] at H
              have LMc7 := Aside0.mk c7
              clear c7
              obtain ⟨y195, hy195⟩ : ∃ y_ : List ByteArray, y_ = (x5_1 ++ [(rd_T41 l0 x6_1).f1]) := ⟨_, rfl⟩
              replace H : (sennitref20_Column.l0 k1 l0 a1 y195 (wrap64 (x6_1 + 1))) = some r := by first | (rw [hy195]; with_reducible exact H) | (have H2_ := (Option.bind_some _ _).symm.trans H; rw [hy195]; with_reducible exact H2_) | (have H2_ := (Option.bind_some _ _).symm.trans H; with_reducible exact H2_) | with_reducible exact H | (rw [hy195]; exact H) | exact H
              have Ny195 := Aside0.mk hy195
              clear hy195
              have H' := Aside0.mk H
              clear H
              have p192 : 0 ≤ (x6_1 : Int) := of_decide_eq_true (by first | (with_reducible assumption) | assumption)
              have q192 : x6_1 < (l0.length : Int) := of_decide_eq_true (by first | (with_reducible assumption) | assumption)
              obtain ⟨ad192, e192, hx192_0, hx192_1⟩ := at_T41 HR0.out x6_1 p192 q192
              cases e192
              replace hx192_0 := (HB.out.cell (World.block_lt_of_cell? w _ hx192_0)).trans hx192_0
              replace hx192_1 := (HB.out.cell (World.block_lt_of_cell? w _ hx192_1)).trans hx192_1
              replace p192 := eq_true p192
              replace q192 := eq_true q192
              go_wp2_with (first | ((with_reducible refine gate_callee (f := 73) rfl ?_); refine goesL_ (some 18) rfl rfl Tryd.func73 (by kernel_rfl) rfl #[.agg #[.string ((rd_T41 l0 x6_1).f0), .string ((rd_T41 l0 x6_1).f1)], .int .i64 a1] rfl (by (try simp only [List.map_toArray, List.map_cons, List.map_nil]); first | done | rfl | (simp only [List.length_drop, List.length_take]; rfl)) ?_; (with_reducible refine (sennitref20_Of.calls k1 ((rd_T41 l0 x6_1).f0) ((rd_T41 l0 x6_1).f1) a1 true _ A5.out).mono ?_); rintro e w8 ⟨rfl, hb⟩; refine ⟨_, rfl, ?_⟩; have n0_ := Aside0.mk (Kd.R_below (by (with_reducible repeat (first | apply Kd.R_alloc | apply Kd.R_drewN | apply Kd.R_drew)); exact HO_5.out) hb); have n1_ := Aside0.mk (below_step (by repeat (first | (with_reducible first | exact HB.out | apply below_alloc | apply pw_below_drewN | apply below_drew1) | exact HB.out)) hb); clear HO_5; clear HB; have HO_5 := n0_; have HB := n1_; clear n0_ n1_; (try clear hb); (try clear hb2); (try clear hk); (try clear hi); have p194 : 0 ≤ (x6_1 : Int) := of_decide_eq_true (by first | (with_reducible assumption) | assumption); have q194 : x6_1 < (l0.length : Int) := of_decide_eq_true (by first | (with_reducible assumption) | assumption); obtain ⟨ad194, e194, hx194_0, hx194_1⟩ := at_T41 HR0.out x6_1 p194 q194; obtain rfl : ad192 = ad194 := (by injection e194); replace hx194_0 := (HB.out.cell (World.block_lt_of_cell? w _ hx194_0)).trans hx194_0; replace hx194_1 := (HB.out.cell (World.block_lt_of_cell? w _ hx194_1)).trans hx194_1; replace p194 := eq_true p194; replace q194 := eq_true q194) | ((with_reducible refine gate_builtin (b := .append) (xs := #[.tmp 19, .tmp 25]) rfl ?_); at_builtin; refine Kd.R_append Kd.string (w0 := w) w.heap.size rfl (.tmp 19) (.tmp 25) 44 9 (.string ⟨#[]⟩) 16 rfl Tryd.underlying44 info9 rfl (by decide) (by omega) u5 x5_1 ((rd_T41 l0 x6_1).f1) [.string ((rd_T41 l0 x6_1).f1)] (fun _ => True) (fun _ => False) rfl rfl ?aP (fun _ hk => hk.elim) ?aF ?aO ?aB ?aS ?aL ?_; (case aP => exact rfl); (case aB => exact (by repeat (first | (with_reducible first | exact HB.out | apply below_alloc | apply pw_below_drewN | apply below_drew1) | exact HB.out))); (case aF => exact (fun _ _ => trivial)); (case aO => exact (by (with_reducible repeat (first | apply Kd.R_alloc | apply Kd.R_drewN | apply Kd.R_drew)); exact HO_5.out)); (case aS => exact (below_size (by repeat (first | (with_reducible first | exact HB.out | apply below_alloc | apply pw_below_drewN | apply below_drew1) | exact HB.out)))); (case aL => have := LMc7.out; omega); intro v196 w9 ho hb hg hat; rw [← Ny195.out] at ho; have n0_ := Aside0.mk (hb); have n1_ := Aside0.mk (ho); clear HB; clear HO_5; have HB := n0_; have HO197 := n1_; clear n0_ n1_; clear ho hb hg hat))
              go_roundg k1
              case measure => have := HK1.out; omega
              case rel => exact ⟨(y195), (wrap64 (x6_1 + 1)), (by first | rfl | (simp; done) | (simp [*]; done)), H', ⟨by have := HK1.out; omega⟩, ⟨by (with_reducible repeat (first | apply Kd.R_alloc | apply Kd.R_drewN | apply Kd.R_drew)); exact HO197.out⟩, ⟨by repeat (first | (with_reducible first | exact HB.out | apply below_alloc | apply pw_below_drewN | apply below_drew1) | exact HB.out)⟩⟩
            · rw [if_neg c7] at H
              exact absurd H (by simp)
          · replace c6 := Bool.eq_false_iff.mpr c6
            subst c6
            have H1 : (sennitref20_Column.l0 k1 l0 a1 x5_1 (wrap64 (x6_1 + 1))) = some r := by rw [if_neg (show ¬ (false = true) by decide)] at H; exact H
            clear H
            have H := H1
            clear H1
            have H' := Aside0.mk H
            clear H
            have p192 : 0 ≤ (x6_1 : Int) := of_decide_eq_true (by first | (with_reducible assumption) | assumption)
            have q192 : x6_1 < (l0.length : Int) := of_decide_eq_true (by first | (with_reducible assumption) | assumption)
            obtain ⟨ad192, e192, hx192_0, hx192_1⟩ := at_T41 HR0.out x6_1 p192 q192
            cases e192
            replace hx192_0 := (HB.out.cell (World.block_lt_of_cell? w _ hx192_0)).trans hx192_0
            replace hx192_1 := (HB.out.cell (World.block_lt_of_cell? w _ hx192_1)).trans hx192_1
            replace p192 := eq_true p192
            replace q192 := eq_true q192
            go_wp2_with (first | ((with_reducible refine gate_callee (f := 73) rfl ?_); refine goesL_ (some 18) rfl rfl Tryd.func73 (by kernel_rfl) rfl #[.agg #[.string ((rd_T41 l0 x6_1).f0), .string ((rd_T41 l0 x6_1).f1)], .int .i64 a1] rfl (by (try simp only [List.map_toArray, List.map_cons, List.map_nil]); first | done | rfl | (simp only [List.length_drop, List.length_take]; rfl)) ?_; (with_reducible refine (sennitref20_Of.calls k1 ((rd_T41 l0 x6_1).f0) ((rd_T41 l0 x6_1).f1) a1 false _ A5.out).mono ?_); rintro e w10 ⟨rfl, hb⟩; refine ⟨_, rfl, ?_⟩; have n0_ := Aside0.mk (Kd.R_below (by (with_reducible repeat (first | apply Kd.R_alloc | apply Kd.R_drewN | apply Kd.R_drew)); exact HO_5.out) hb); have n1_ := Aside0.mk (below_step (by repeat (first | (with_reducible first | exact HB.out | apply below_alloc | apply pw_below_drewN | apply below_drew1) | exact HB.out)) hb); clear HO_5; clear HB; have HO_5 := n0_; have HB := n1_; clear n0_ n1_; (try clear hb); (try clear hb2); (try clear hk); (try clear hi)))
            go_roundg k1
            case measure => have := HK1.out; omega
            case rel => exact ⟨(x5_1), (wrap64 (x6_1 + 1)), (by first | rfl | (simp; done) | (simp [*]; done)), H', ⟨by have := HK1.out; omega⟩, ⟨by (with_reducible repeat (first | apply Kd.R_alloc | apply Kd.R_drewN | apply Kd.R_drew)); exact HO_5.out⟩, ⟨by repeat (first | (with_reducible first | exact HB.out | apply below_alloc | apply pw_below_drewN | apply below_drew1) | exact HB.out)⟩⟩
        · rw [if_neg c4] at H
          exact absurd H (by simp)
      · rw [if_neg c3] at H
        have c3b0 : decide (x6_1 < (l0.length : Int)) = false := decide_eq_false c3
        clear c3
        obtain rfl := Option.some.inj H
        go_wp2
        go_ret
        exact ⟨_, by first | rfl | (simp [errW_none, errW_some] <;> rfl) | (simp [errW_none, errW_some] <;> (generalize ByteArray.toList _ = l_ <;> cases l_ <;> rfl)) | (simp [*, errW_none, errW_some] <;> rfl), by (with_reducible repeat (first | apply Kd.R_alloc | apply Kd.R_drewN | apply Kd.R_drew)); exact HO_5.out, by repeat (first | (with_reducible first | exact HB.out | apply below_alloc | apply pw_below_drewN | apply below_drew1) | exact HB.out)⟩

/-! ### sennitref21_Hunk: function 31 -/
def sennitref21_Hunk.l0 : Nat → List (S41) → Int → Int → Int → List (S36) → Int → Int → List (S41) → Option ((List (S36)) × Int × Int × (List (S41)))
  | 0, _, _, _, _, _, _, _, _ => none
  | k + 1, x0, x1, x2, x9, x205000, x205001, x205002, x205003 => if 0 < (x0.length : Int) then (if x9 < (((rd_T41 x0 0).f0).size : Int) then (if 0 ≤ x1 then (if x1 ≤ (x0.length : Int) then ((sennitref20_Column.f k (x0.take (x1 : Int).toNat) x9).bind fun t227 => (if x1 ≤ x2 then (if x2 ≤ (x0.length : Int) then ((sennitref20_Column.f k ((x0.take (x2 : Int).toNat).drop (x1 : Int).toNat) x9).bind fun t235 => (if x205000.length < 8796093022208 then (sennitref21_Hunk.l0 k x0 x1 x2 (wrap64 (x9 + 1)) (x205000 ++ [(⟨(t227.length : Int), wrap64 ((t227.length : Int) + (t235.length : Int))⟩ : S36)]) x205001 x205002 x205003) else (none))) else (none)) else (none))) else (none)) else (none)) else (some (x205000, x205001, x205002, x205003))) else (none)
def sennitref21_Hunk.f (k : Nat) (l0 : List (S41)) (a1 : Int) (a2 : Int) : Option ((List (S36)) × Int × Int × (List (S41))) := if 0 ≤ a1 then (if a1 ≤ a2 then (if a2 ≤ (l0.length : Int) then (if a1 ≤ (l0.length : Int) then ((sennitref20_Result.f k (l0.take (a1 : Int).toNat)).bind fun t210 => ((sennitref20_Result.f k ((l0.take (a2 : Int).toNat).drop (a1 : Int).toNat)).bind fun t218 => (sennitref21_Hunk.l0 k l0 a1 a2 0 ([] : List (S36)) (t210.length : Int) (wrap64 ((t210.length : Int) + (t218.length : Int))) ((l0.take (a2 : Int).toNat).drop (a1 : Int).toNat)))) else (none)) else (none)) else (none)) else (none)
theorem sennitref21_Hunk.mono_l : ∀ k, (∀ y0 y1 y2 y3 y4 y5 y6 y7, LeO (sennitref21_Hunk.l0 k y0 y1 y2 y3 y4 y5 y6 y7) (sennitref21_Hunk.l0 (k + 1) y0 y1 y2 y3 y4 y5 y6 y7))
  | 0 => fun _ _ _ _ _ _ _ _ r h => by simp [sennitref21_Hunk.l0] at h
  | k + 1 => by
    have ih0 := sennitref21_Hunk.mono_l k
    · intro y0 y1 y2 y3 y4 y5 y6 y7
      unfold sennitref21_Hunk.l0
      repeat' first
      | (with_reducible exact ih0 _ _ _ _ _ _ _ _)
      | (with_reducible exact sennitref20_Column.mono _ _ _)
      | (with_reducible exact sennitref20_Result.mono _ _)
      | (with_reducible exact LeO.refl _)
      | (with_reducible exact LeO.none _)
      | (with_reducible refine LeO.ite ?_ ?_)
      | (with_reducible refine LeO.bind ?_ (fun _ => ?_))
      | exact ih0 _ _ _ _ _ _ _ _
      | exact sennitref20_Column.mono _ _ _
      | exact sennitref20_Result.mono _ _
      | exact LeO.none _
      | refine LeO.ite ?_ ?_
      | refine LeO.bind ?_ (fun _ => ?_)
theorem sennitref21_Hunk.mono : ∀ a0 a1 a2 k, LeO (sennitref21_Hunk.f k a0 a1 a2) (sennitref21_Hunk.f (k + 1) a0 a1 a2) := by
  intro a0 a1 a2 k
  have ih0 := sennitref21_Hunk.mono_l k
  unfold sennitref21_Hunk.f
  repeat' first
      | (with_reducible exact ih0 _ _ _ _ _ _ _ _)
      | (with_reducible exact sennitref20_Column.mono _ _ _)
      | (with_reducible exact sennitref20_Result.mono _ _)
      | (with_reducible exact LeO.refl _)
      | (with_reducible exact LeO.none _)
      | (with_reducible refine LeO.ite ?_ ?_)
      | (with_reducible refine LeO.bind ?_ (fun _ => ?_))
      | exact ih0 _ _ _ _ _ _ _ _
      | exact sennitref20_Column.mono _ _ _
      | exact sennitref20_Result.mono _ _
      | exact LeO.none _
      | refine LeO.ite ?_ ?_
      | refine LeO.bind ?_ (fun _ => ?_)
def sennitref21_Hunk.T8 : Bool × List (List Nat × List Nat) := (true, [([], []), ([0], [0]), ([], []), ([], []), ([], []), ([], []), ([], []), ([4, 5, 6], [4, 5, 6]), ([], []), ([7, 8], [7, 8]), ([9], [9]), ([3, 10], [3, 10]), ([2, 11], [2, 11]), ([12], [12]), ([1, 13, 9], [1, 13]), ([0, 1, 2, 3, 4, 5, 6, 7, 8, 9, 10, 11, 12, 13, 14], []), ([15, 14, 14, 0, 1, 2, 3, 4, 5, 6, 7, 8, 9, 10, 11, 12, 13, 14], [14, 15])])
def sennitref21_Hunk.B8 : List Nat := [0, 1, 0, 0, 0, 0, 0, 112, 0, 496, 1008, 2040, 4092, 8188, 16383, 32767, 65535]
theorem sennitref21_Hunk.tab8 : rtab .any (opsOf Tryd.f31 8) = sennitref21_Hunk.T8 := by kernel_rfl
theorem sennitref21_Hunk.bits8 : waitsOk sennitref21_Hunk.T8.2 sennitref21_Hunk.B8 = true := by kernel_rfl
set_option maxHeartbeats 8000000 in
set_option maxRecDepth 100000 in
theorem sennitref21_Hunk.calls (k : Nat) (P0_ : Nat → Prop) (A0 : Option Addr) (c0 : Nat) (l0 : List (S41)) (a1 : Int) (a2 : Int) (r1 : List (S36)) (r2 : Int) (r3 : Int) (r4 : List (S41)) (w : World) (hs0 : Kd.V k41 41 w w.heap.size (fun k_ => P0_ k_) (.slice A0 l0.length c0) l0) (h : sennitref21_Hunk.f k l0 a1 a2 = some (r1, r2, r3, r4)) :
    Calls Tryd.prog 31 #[.slice A0 l0.length c0, .int .i64 a1, .int .i64 a2] w fun e w' => ∃ v0_ v3_ : Value, e = .returned (.agg #[v0_, .int .i64 r2, .int .i64 r3, v3_]) ∧ Kd.R k36 36 w' w.heap.size (fun k_ => (w.heap.size ≤ k_)) v0_ r1 ∧ Kd.V k41 41 w' w.heap.size (fun k_ => (P0_ k_ ∨ w.heap.size ≤ k_) ∧ some k_ ≠ (v0_ : Value).ownBlock) v3_ r4 ∧ Below w.heap.size w w' := by
  have hu38 := Tryd.underlying38
  have hu36 := Tryd.underlying36
  have HO0 := Aside0.mk (show Kd.V k41 41 w w.heap.size (fun k_ => (P0_ k_ ∨ w.heap.size ≤ k_)) (.slice A0 l0.length c0) l0 from Kd.V_mono hs0 (fun k_ hk => .inl hk))
  have HB := Aside0.mk (Below.refl w.heap.size w)
  have H : (if 0 ≤ a1 then (if a1 ≤ a2 then (if a2 ≤ (l0.length : Int) then (if a1 ≤ (l0.length : Int) then ((sennitref20_Result.f k (l0.take (a1 : Int).toNat)).bind fun t210 => ((sennitref20_Result.f k ((l0.take (a2 : Int).toNat).drop (a1 : Int).toNat)).bind fun t218 => (sennitref21_Hunk.l0 k l0 a1 a2 0 ([] : List (S36)) (t210.length : Int) (wrap64 ((t210.length : Int) + (t218.length : Int))) ((l0.take (a2 : Int).toNat).drop (a1 : Int).toNat)))) else (none)) else (none)) else (none)) else (none)) = some (r1, r2, r3, r4) := h
  clear h
  by_cases c4 : 0 ≤ a1
  · rw [if_pos c4] at H
    have c4b0 := eq_true c4
    have c4b1 : decide (0 ≤ a1) = true := decide_eq_true c4
    clear c4
    by_cases c5 : a1 ≤ a2
    · rw [if_pos c5] at H
      have c5b0 := eq_true c5
      have c5b1 : decide (a1 ≤ a2) = true := decide_eq_true c5
      clear c5
      by_cases c6 : a2 ≤ (l0.length : Int)
      · rw [if_pos c6] at H
        have c6b0 := eq_true c6
        have c6b1 : decide (a2 ≤ (l0.length : Int)) = true := decide_eq_true c6
        clear c6
        obtain ⟨y199, hy199⟩ : ∃ y_ : List (S41), y_ = ((l0.take (a2 : Int).toNat).drop (a1 : Int).toNat) := ⟨_, rfl⟩
        replace H : (if a1 ≤ (l0.length : Int) then ((sennitref20_Result.f k (l0.take (a1 : Int).toNat)).bind fun t210 => ((sennitref20_Result.f k ((l0.take (a2 : Int).toNat).drop (a1 : Int).toNat)).bind fun t218 => (sennitref21_Hunk.l0 k l0 a1 a2 0 ([] : List (S36)) (t210.length : Int) (wrap64 ((t210.length : Int) + (t218.length : Int))) y199))) else (none)) = some (r1, r2, r3, r4) := by first | (rw [hy199]; with_reducible exact H) | (have H2_ := (Option.bind_some _ _).symm.trans H; rw [hy199]; with_reducible exact H2_) | (have H2_ := (Option.bind_some _ _).symm.trans H; with_reducible exact H2_) | with_reducible exact H | (rw [hy199]; exact H) | exact H
        have Ny199 := Aside0.mk hy199
        clear hy199
        have c7b0 := eq_true (of_decide_eq_true (by first | (with_reducible assumption) | assumption) : 0 ≤ a1)
        by_cases c8 : a1 ≤ (l0.length : Int)
        · rw [if_pos c8] at H
          have c8b0 := eq_true c8
          have c8b1 : decide (a1 ≤ (l0.length : Int)) = true := decide_eq_true c8
          clear c8
          obtain ⟨y205, hy205⟩ : ∃ y_ : List (S41), y_ = (l0.take (a1 : Int).toNat) := ⟨_, rfl⟩
          replace H : ((sennitref20_Result.f k y205).bind fun t210 => ((sennitref20_Result.f k ((l0.take (a2 : Int).toNat).drop (a1 : Int).toNat)).bind fun t218 => (sennitref21_Hunk.l0 k l0 a1 a2 0 ([] : List (S36)) (t210.length : Int) (wrap64 ((t210.length : Int) + (t218.length : Int))) y199))) = some (r1, r2, r3, r4) := by first | (rw [hy205]; with_reducible exact H) | (have H2_ := (Option.bind_some _ _).symm.trans H; rw [hy205]; with_reducible exact H2_) | (have H2_ := (Option.bind_some _ _).symm.trans H; with_reducible exact H2_) | with_reducible exact H | (rw [hy205]; exact H) | exact H
          have Ny205 := Aside0.mk hy205
          clear hy205
          replace H := Option.bind_eq_some_iff.mp H
          obtain ⟨t210, A90, H⟩ := H
          replace H : ((sennitref20_Result.f k ((l0.take (a2 : Int).toNat).drop (a1 : Int).toNat)).bind fun t218 => (sennitref21_Hunk.l0 k l0 a1 a2 0 ([] : List (S36)) (t210.length : Int) (wrap64 ((t210.length : Int) + (t218.length : Int))) y199)) = some (r1, r2, r3, r4) := H
          have A9 := Aside0.mk A90
          clear A90
          have c10b0 := eq_true (of_decide_eq_true (by first | (with_reducible assumption) | assumption) : 0 ≤ a1)
          have c11b0 := eq_true (of_decide_eq_true (by first | (with_reducible assumption) | assumption) : a1 ≤ a2)
          have c12b0 := eq_true (of_decide_eq_true (by first | (with_reducible assumption) | assumption) : a2 ≤ (l0.length : Int))
          obtain ⟨y213, hy213⟩ : ∃ y_ : List (S41), y_ = ((l0.take (a2 : Int).toNat).drop (a1 : Int).toNat) := ⟨_, rfl⟩
          replace H : ((sennitref20_Result.f k y213).bind fun t218 => (sennitref21_Hunk.l0 k l0 a1 a2 0 ([] : List (S36)) (t210.length : Int) (wrap64 ((t210.length : Int) + (t218.length : Int))) y199)) = some (r1, r2, r3, r4) := by first | (rw [hy213]; with_reducible exact H) | (have H2_ := (Option.bind_some _ _).symm.trans H; rw [hy213]; with_reducible exact H2_) | (have H2_ := (Option.bind_some _ _).symm.trans H; with_reducible exact H2_) | with_reducible exact H | (rw [hy213]; exact H) | exact H
          have Ny213 := Aside0.mk hy213
          clear hy213
          replace H := Option.bind_eq_some_iff.mp H
          obtain ⟨t218, A130, H⟩ := H
          replace H : (sennitref21_Hunk.l0 k l0 a1 a2 0 ([] : List (S36)) (t210.length : Int) (wrap64 ((t210.length : Int) + (t218.length : Int))) y199) = some (r1, r2, r3, r4) := H
          have A13 := Aside0.mk A130
          clear A130
          have H' := Aside0.mk H
          clear H
          go_enter Tryd.func31, Tryd.ntmps31
          go_wp2_with (first | ((with_reducible refine gate_dst (N := 6) rfl ?_); refine box_event ?hg (N := 6) ?hd (cs := #[.slice none 0 0, .int .i64 0, .int .i64 0, .slice none 0 0]) (t := 38) ?hr ?_; (case hd => rfl); (case hg => rfl); (case hr => first | (go_simp; done) | (go_simp; rfl)); intro gb198 hg w14 hbox hb; have n0_ := Aside0.mk (Kd.V_below (Kd.V_elderB (by (with_reducible repeat (first | apply Kd.V_alloc | apply Kd.V_drewN | apply Kd.V_drew)); exact HO0.out) gb198 (Nat.le_of_eq hg.symm)) hb); have n1_ := Aside0.mk (below_step (by repeat (first | (with_reducible first | exact HB.out | apply below_alloc | apply pw_below_drewN | apply below_drew1) | exact HB.out)) hb); have n2_ := Aside0.mk (hbox); have n3_ := Aside0.mk ((by rw [hg]; exact (below_size (by repeat (first | (with_reducible first | exact HB.out | apply below_alloc | apply pw_below_drewN | apply below_drew1) | exact HB.out))) : w.heap.size ≤ gb198)); have n4_ := Aside0.mk ((by rw [hg]; exact (below_size (by repeat (first | (with_reducible first | exact HB.out | apply below_alloc | apply pw_below_drewN | apply below_drew1) | exact HB.out))) : w.heap.size ≤ gb198)); clear HO0; clear HB; have HO0 := n0_; have HB := n1_; have BK198 := n2_; have GW198 := n3_; have GE198 := n4_; clear n0_ n1_ n2_ n3_ n4_; clear hb hbox hg; have q15 : (a2 : Int) ≤ ((l0.length : Int) : Int) := of_decide_eq_true (by first | (with_reducible assumption) | assumption); obtain ⟨i015, hi015, _, hsz15, _⟩ := info_parts info41; have hroom15 : l0.length ≤ c0 := (Kd.V_reads' HO0.out).2.1; have hC15 : Kd.F k41 _ _ A0 l0.length l0 := (Kd.V_at (base := w.heap.size) HO0.out).2.2; have ql15 : (a1 : Int) ≤ (a2 : Int) := of_decide_eq_true (by first | (with_reducible assumption) | assumption); have q015 : (0 : Int) ≤ (a1 : Int) := of_decide_eq_true (by first | (with_reducible assumption) | assumption); have hcut15 := cut_mid (P := Tryd.prog) 22 41 .i64 .i64 Tryd.underlying22 hi015 2 hsz15 A0 l0.length c0 a1 a2 q015 ql15 q15 hroom15; have hr15 := Kd.F_mid (lo := (a1 : Int).toNat) (hi := (a2 : Int).toNat) (c := c0) hC15 (by omega) (by omega) hroom15; obtain ⟨A15, hA15⟩ : ∃ A1, A1 = (if c0 = (a1 : Int).toNat then A0 else (A0 : Option Addr).map (·.add ((a1 : Int).toNat * 2))) := ⟨_, rfl⟩; obtain ⟨c15, hc15⟩ : ∃ c1, c1 = c0 - (a1 : Int).toNat := ⟨_, rfl⟩; have hy15 : y199.length = (a2 : Int).toNat - (a1 : Int).toNat := (by rw [Ny199.out, List.length_drop, List.length_take] <;> omega); rw [show ((l0).take (a2 : Int).toNat).drop (a1 : Int).toNat = y199 from Ny199.out.symm] at hr15; replace hr15 : Kd.F k41 _ _ A15 y199.length y199 := (by rw [hA15]; exact hr15); rw [← hy15, ← hA15, ← hc15] at hcut15; have HO203 := Aside0.mk (show Kd.V k41 41 _ w.heap.size _ (.slice A15 y199.length c15) y199 from Kd.V_mk (by rw [hy15, hc15]; exact Nat.sub_le_sub_right (Nat.le_trans (by omega) hroom15) _) hr15); have HC203 := Aside0.mk (show y199.length ≤ c15 from by rw [hy15, hc15]; exact Nat.sub_le_sub_right (Nat.le_trans (by omega) hroom15) _); clear hr15 hC15 hroom15 hi015 hsz15 hc15; have KY15 := Aside0.mk hy15; have KA15 := Aside0.mk hA15; clear hy15 hA15; replace q15 := eq_true q15) | ((with_reducible refine gate_dst (N := 7) rfl ?_); refine box_event ?hg (N := 7) ?hd (cs := #[.slice none 0 0, .int .i64 0, .int .i64 0, .slice none 0 0]) (t := 38) ?hr ?_; (case hd => rfl); (case hg => rfl); (case hr => first | (go_simp; done) | (go_simp; rfl)); intro gb204 hg w16 hbox hb; have n0_ := Aside0.mk (Kd.V_below (Kd.V_elderB (by (with_reducible repeat (first | apply Kd.V_alloc | apply Kd.V_drewN | apply Kd.V_drew)); exact HO0.out) gb204 (Nat.le_of_eq hg.symm)) hb); have n1_ := Aside0.mk (Kd.V_below (Kd.V_elderB (by (with_reducible repeat (first | apply Kd.V_alloc | apply Kd.V_drewN | apply Kd.V_drew)); exact HO203.out) gb204 (Nat.le_of_eq hg.symm)) hb); have n2_ := Aside0.mk (blk_below (g := gb198) (o := .cells #[.slice none 0 0, .int .i64 0, .int .i64 0, .slice none 0 0] 38 (0, 0)) (by (with_reducible repeat (first | refine blk_drewN ?_ _ | refine blk_drew ?_ | refine blk_alloc ?_ _)); exact BK198.out) hb); have n3_ := Aside0.mk (below_step (by repeat (first | (with_reducible first | exact HB.out | apply below_alloc | apply pw_below_drewN | apply below_drew1 | refine below_set ?_ GE198.out) | exact HB.out)) hb); have n4_ := Aside0.mk (hbox); have n5_ := Aside0.mk ((by rw [hg]; exact (below_size (by repeat (first | (with_reducible first | exact HB.out | apply below_alloc | apply pw_below_drewN | apply below_drew1 | refine below_set ?_ GE198.out) | exact HB.out))) : w.heap.size ≤ gb204)); have n6_ := Aside0.mk ((by rw [hg]; exact (below_size (by repeat (first | (with_reducible first | exact HB.out | apply below_alloc | apply pw_below_drewN | apply below_drew1 | refine below_set ?_ GE198.out) | exact HB.out))) : w.heap.size ≤ gb204)); have n7_ := Aside0.mk ((by rw [hg]; exact Nat.ne_of_lt (blk_lt (g := gb198) (o := .cells #[.slice none 0 0, .int .i64 0, .int .i64 0, .slice none 0 0] 38 (0, 0)) (by (with_reducible repeat (first | refine blk_drewN ?_ _ | refine blk_drew ?_ | refine blk_alloc ?_ _)); exact BK198.out)) : gb198 ≠ gb204)); have n8_ := Aside0.mk ((by rw [hg]; exact Nat.ne_of_gt (blk_lt (g := gb198) (o := .cells #[.slice none 0 0, .int .i64 0, .int .i64 0, .slice none 0 0] 38 (0, 0)) (by (with_reducible repeat (first | refine blk_drewN ?_ _ | refine blk_drew ?_ | refine blk_alloc ?_ _)); exact BK198.out)) : gb204 ≠ gb198)); clear HO0; clear HO203; clear BK198; clear HB; have HO0 := n0_; have HO203 := n1_; have BK198 := n2_; have HB := n3_; have BK204 := n4_; have GW204 := n5_; have GE204 := n6_; have NB198_204 := n7_; have NB204_198 := n8_; clear n0_ n1_ n2_ n3_ n4_ n5_ n6_ n7_ n8_; clear hb hbox hg; have hnb17 := NB204_198.out; have hnc17 := NB198_204.out; have hcz18_0 : w16.cell? ⟨gb204, 0, none⟩ = some (.slice none 0 0) := (blk_cell BK204.out 0).trans rfl; have hcz18_1 : w16.cell? ⟨gb204, 1, none⟩ = some (.int .i64 0) := (blk_cell BK204.out 1).trans rfl; have hcz18_2 : w16.cell? ⟨gb204, 2, none⟩ = some (.int .i64 0) := (blk_cell BK204.out 2).trans rfl; have hcz18_3 : w16.cell? ⟨gb204, 3, none⟩ = some (.slice none 0 0) := (blk_cell BK204.out 3).trans rfl; have hfz18_0 := blk_frozen BK204.out 0; have hfz18_1 := blk_frozen BK204.out 1; have hfz18_2 := blk_frozen BK204.out 2; have hfz18_3 := blk_frozen BK204.out 3) | ((with_reducible refine gate_store (t := 38) (p := 7) rfl ?_); refine store_event (t := 38) (p := 7) (v := ?vo_w19) (w1 := ((((w16.setCell ⟨gb204, 0, none⟩ (.slice none 0 0)).setCell ⟨gb204, 1, none⟩ (.int .i64 0)).setCell ⟨gb204, 2, none⟩ (.int .i64 0)).setCell ⟨gb204, 3, none⟩ (.slice A15 y199.length c15))) ?hg ?ho ?hn ?hr ?_; (case ho => rfl); (case hg => rfl); (case hn => rfl); (case hr => first | (go_simp; done) | (go_simp; rfl)); intro w19 hw; have n0_ : Aside0 (Kd.V k41 41 w19 w.heap.size (fun k_ => (P0_ k_ ∨ w.heap.size ≤ k_) ∧ k_ ≠ gb198 ∧ k_ ≠ gb204) (.slice A0 l0.length c0) l0) := ⟨(by rw [hw]; exact (by (with_reducible repeat (first | apply Kd.V_alloc | apply Kd.V_drewN | apply Kd.V_drew)); exact Kd.V_mono (Kd.V_far (p := ⟨gb204, 3, none⟩) (Kd.V_far (p := ⟨gb204, 2, none⟩) (Kd.V_far (p := ⟨gb204, 1, none⟩) (Kd.V_far (p := ⟨gb204, 0, none⟩) (Kd.V_mono HO0.out (fun k_ hk => (⟨hk, hk.2⟩ : _ ∧ k_ ≠ gb204))) (fun _ hk => hk.2) (.slice none 0 0)) (fun _ hk => hk.2) (.int .i64 0)) (fun _ hk => hk.2) (.int .i64 0)) (fun _ hk => hk.2) (.slice A15 y199.length c15)) (fun _ hk => ⟨hk.1.1.1, ⟨hk.1.1.2, hk.1.2⟩⟩)))⟩; have n1_ : Aside0 (Kd.V k41 41 w19 w.heap.size (fun k_ => (P0_ k_ ∨ w.heap.size ≤ k_) ∧ k_ ≠ gb198 ∧ k_ ≠ gb204) (.slice A15 y199.length c15) y199) := ⟨(by rw [hw]; exact (by (with_reducible repeat (first | apply Kd.V_alloc | apply Kd.V_drewN | apply Kd.V_drew)); exact Kd.V_mono (Kd.V_far (p := ⟨gb204, 3, none⟩) (Kd.V_far (p := ⟨gb204, 2, none⟩) (Kd.V_far (p := ⟨gb204, 1, none⟩) (Kd.V_far (p := ⟨gb204, 0, none⟩) (Kd.V_mono HO203.out (fun k_ hk => (⟨hk, hk.2⟩ : _ ∧ k_ ≠ gb204))) (fun _ hk => hk.2) (.slice none 0 0)) (fun _ hk => hk.2) (.int .i64 0)) (fun _ hk => hk.2) (.int .i64 0)) (fun _ hk => hk.2) (.slice A15 y199.length c15)) (fun _ hk => ⟨hk.1.1.1, ⟨hk.1.1.2, hk.1.2⟩⟩)))⟩; have n2_ : Aside0 (w19.heap[gb198]? = some (.cells #[.slice none 0 0, .int .i64 0, .int .i64 0, .slice none 0 0] 38 (0, 0))) := ⟨(by rw [hw]; exact (by (with_reducible repeat (first | refine blk_drewN ?_ _ | refine blk_drew ?_ | refine blk_alloc ?_ _)); refine blk_far ?_ NB198_204.out _; (with_reducible repeat (first | refine blk_drewN ?_ _ | refine blk_drew ?_ | refine blk_alloc ?_ _)); refine blk_far ?_ NB198_204.out _; (with_reducible repeat (first | refine blk_drewN ?_ _ | refine blk_drew ?_ | refine blk_alloc ?_ _)); refine blk_far ?_ NB198_204.out _; (with_reducible repeat (first | refine blk_drewN ?_ _ | refine blk_drew ?_ | refine blk_alloc ?_ _)); refine blk_far ?_ NB198_204.out _; (with_reducible repeat (first | refine blk_drewN ?_ _ | refine blk_drew ?_ | refine blk_alloc ?_ _)); exact BK198.out))⟩; have n3_ : Aside0 (w19.heap[gb204]? = some (.cells #[.slice none 0 0, .int .i64 0, .int .i64 0, .slice A15 y199.length c15] 38 (0, 0))) := ⟨(by rw [hw]; exact (by (with_reducible repeat (first | refine blk_drewN ?_ _ | refine blk_drew ?_ | refine blk_alloc ?_ _)); refine blk_put (cs := #[.slice none 0 0, .int .i64 0, .int .i64 0, .slice none 0 0]) ?_ 3 _ rfl; (with_reducible repeat (first | refine blk_drewN ?_ _ | refine blk_drew ?_ | refine blk_alloc ?_ _)); refine blk_put (cs := #[.slice none 0 0, .int .i64 0, .int .i64 0, .slice none 0 0]) ?_ 2 _ rfl; (with_reducible repeat (first | refine blk_drewN ?_ _ | refine blk_drew ?_ | refine blk_alloc ?_ _)); refine blk_put (cs := #[.slice none 0 0, .int .i64 0, .int .i64 0, .slice none 0 0]) ?_ 1 _ rfl; (with_reducible repeat (first | refine blk_drewN ?_ _ | refine blk_drew ?_ | refine blk_alloc ?_ _)); refine blk_put (cs := #[.slice none 0 0, .int .i64 0, .int .i64 0, .slice none 0 0]) ?_ 0 _ rfl; (with_reducible repeat (first | refine blk_drewN ?_ _ | refine blk_drew ?_ | refine blk_alloc ?_ _)); exact BK204.out))⟩; have n4_ : Aside0 (Below w.heap.size w w19) := ⟨(by rw [hw]; exact (by repeat (first | (with_reducible first | exact HB.out | apply below_alloc | apply pw_below_drewN | apply below_drew1 | refine below_set ?_ GE198.out | refine below_set ?_ GE204.out) | exact HB.out)))⟩; clear hw; clear HO0; clear HO203; clear BK198; clear BK204; clear HB; have HO0 := n0_; have HO203 := n1_; have BK198 := n2_; have BK204 := n3_; have HB := n4_; clear n0_ n1_ n2_ n3_ n4_; have q20 : (a1 : Int) ≤ ((l0.length : Int) : Int) := of_decide_eq_true (by first | (with_reducible assumption) | assumption); obtain ⟨i020, hi020, _, hsz20, _⟩ := info_parts info41; have hroom20 : l0.length ≤ c0 := (Kd.V_reads' HO0.out).2.1; have hC20 : Kd.F k41 _ _ A0 l0.length l0 := (Kd.V_at (base := w.heap.size) HO0.out).2.2; have hcut20 := cut_to (P := Tryd.prog) 22 41 .i64 Tryd.underlying22 hi020 A0 l0.length c0 a1 (of_decide_eq_true (by first | (with_reducible assumption) | assumption)) q20 hroom20; have hr20 := Kd.F_take (m := (a1 : Int).toNat) hC20 (by omega); have hy20 : y205.length = (a1 : Int).toNat := (by rw [Ny205.out, List.length_take]; omega); rw [← Ny205.out] at hr20; rw [← hy20] at hcut20; have HO209 := Aside0.mk (show Kd.V k41 41 _ w.heap.size _ (.slice A0 y205.length c0) y205 from Kd.V_mk (by omega) hr20); have HC209 := Aside0.mk (show y205.length ≤ c0 from by omega); clear hr20 hC20 hroom20 hi020 hsz20; have KY20 := Aside0.mk hy20; clear hy20; replace q20 := eq_true q20) | ((with_reducible refine gate_callee (f := 53) rfl ?_); refine goesL_ (some 19) rfl rfl Tryd.func53 (by kernel_rfl) rfl #[.slice A0 y205.length c0] rfl (by (try simp only [List.map_toArray, List.map_cons, List.map_nil]); first | done | rfl | (simp only [List.length_drop, List.length_take]; rfl)) ?_; (with_reducible refine (sennitref20_Result.calls k _ _ y205 t210 _ ?side1 ?side2 A9.out).mono ?_); (case side1 => repeat (first | exact (Kd.V_reads' HO209.out).2.2 | (with_reducible refine Kd.C_alloc ?_ _) | (with_reducible refine Kd.C_drewN ?_ _) | (with_reducible refine Kd.C_drew ?_))); (case side2 => exact (Kd.V_reads' HO209.out).2.1); rintro e w21 ⟨v211, rfl, ho0, hb⟩; refine ⟨_, rfl, ?_⟩; have n0_ := Aside0.mk (Kd.V_elder' (by (with_reducible repeat (first | apply Kd.V_alloc | apply Kd.V_drewN | apply Kd.V_drew)); exact HO0.out) (Kd.R_base ho0) hb); have n1_ := Aside0.mk (Kd.V_elder' (by (with_reducible repeat (first | apply Kd.V_alloc | apply Kd.V_drewN | apply Kd.V_drew)); exact HO203.out) (Kd.R_base ho0) hb); have n2_ := Aside0.mk (Kd.V_elder' (by (with_reducible repeat (first | apply Kd.V_alloc | apply Kd.V_drewN | apply Kd.V_drew)); exact HO209.out) (Kd.R_base ho0) hb); have n3_ := Aside0.mk (Kd.R_lower (Kd.R_newM (M := fun k_ => (w.heap.size ≤ k_)) ho0 (below_size (by repeat (first | (with_reducible first | exact HB.out | apply below_alloc | apply pw_below_drewN | apply below_drew1 | refine below_set ?_ GE198.out | refine below_set ?_ GE204.out) | exact HB.out))) (fun k_ h_ => h_)) (below_size (by repeat (first | (with_reducible first | exact HB.out | apply below_alloc | apply pw_below_drewN | apply below_drew1 | refine below_set ?_ GE198.out | refine below_set ?_ GE204.out) | exact HB.out)))); have n4_ := Aside0.mk (blk_below (g := gb198) (o := .cells #[.slice none 0 0, .int .i64 0, .int .i64 0, .slice none 0 0] 38 (0, 0)) (by (with_reducible repeat (first | refine blk_drewN ?_ _ | refine blk_drew ?_ | refine blk_alloc ?_ _)); exact BK198.out) hb); have n5_ := Aside0.mk (blk_below (g := gb204) (o := .cells #[.slice none 0 0, .int .i64 0, .int .i64 0, .slice A15 y199.length c15] 38 (0, 0)) (by (with_reducible repeat (first | refine blk_drewN ?_ _ | refine blk_drew ?_ | refine blk_alloc ?_ _)); exact BK204.out) hb); have n6_ := Aside0.mk (below_step (by repeat (first | (with_reducible first | exact HB.out | apply below_alloc | apply pw_below_drewN | apply below_drew1 | refine below_set ?_ GE198.out | refine below_set ?_ GE204.out) | exact HB.out)) hb); clear HO0; clear HO203; clear HO209; clear BK198; clear BK204; clear HB; have HO0 := n0_; have HO203 := n1_; have HO209 := n2_; have HO212 := n3_; have BK198 := n4_; have BK204 := n5_; have HB := n6_; clear n0_ n1_ n2_ n3_ n4_ n5_ n6_; (try clear hb); (try clear hb2); (try clear hk); (try clear hi); (try clear ho0); obtain ⟨Ao22, co22, eo22⟩ := Kd.R_slice HO212.out; subst eo22; have q23 : (a2 : Int) ≤ ((l0.length : Int) : Int) := of_decide_eq_true (by first | (with_reducible assumption) | assumption); obtain ⟨i023, hi023, _, hsz23, _⟩ := info_parts info41; have hroom23 : l0.length ≤ c0 := (Kd.V_reads' HO0.out).2.1; have hC23 : Kd.F k41 _ _ A0 l0.length l0 := (Kd.V_at (base := w.heap.size) HO0.out).2.2; have ql23 : (a1 : Int) ≤ (a2 : Int) := of_decide_eq_true (by first | (with_reducible assumption) | assumption); have q023 : (0 : Int) ≤ (a1 : Int) := of_decide_eq_true (by first | (with_reducible assumption) | assumption); (try clear hcut15); have hcut23 := cut_mid (P := Tryd.prog) 22 41 .i64 .i64 Tryd.underlying22 hi023 2 hsz23 A0 l0.length c0 a1 a2 q023 ql23 q23 hroom23; have hr23 := Kd.F_mid (lo := (a1 : Int).toNat) (hi := (a2 : Int).toNat) (c := c0) hC23 (by omega) (by omega) hroom23; obtain ⟨A23, hA23⟩ : ∃ A1, A1 = (if c0 = (a1 : Int).toNat then A0 else (A0 : Option Addr).map (·.add ((a1 : Int).toNat * 2))) := ⟨_, rfl⟩; obtain ⟨c23, hc23⟩ : ∃ c1, c1 = c0 - (a1 : Int).toNat := ⟨_, rfl⟩; have hy23 : y213.length = (a2 : Int).toNat - (a1 : Int).toNat := (by rw [Ny213.out, List.length_drop, List.length_take] <;> omega); rw [show ((l0).take (a2 : Int).toNat).drop (a1 : Int).toNat = y213 from Ny213.out.symm] at hr23; replace hr23 : Kd.F k41 _ _ A23 y213.length y213 := (by rw [hA23]; exact hr23); rw [← hy23, ← hA23, ← hc23] at hcut23; have HO217 := Aside0.mk (show Kd.V k41 41 _ w.heap.size _ (.slice A23 y213.length c23) y213 from Kd.V_mk (by rw [hy23, hc23]; exact Nat.sub_le_sub_right (Nat.le_trans (by omega) hroom23) _) hr23); have HC217 := Aside0.mk (show y213.length ≤ c23 from by rw [hy23, hc23]; exact Nat.sub_le_sub_right (Nat.le_trans (by omega) hroom23) _); clear hr23 hC23 hroom23 hi023 hsz23 hc23; have KY23 := Aside0.mk hy23; have KA23 := Aside0.mk hA23; clear hy23 hA23; replace q23 := eq_true q23) | ((with_reducible refine gate_callee (f := 53) rfl ?_); refine goesL_ (some 27) rfl rfl Tryd.func53 (by kernel_rfl) rfl #[.slice A23 y213.length c23] rfl (by (try simp only [List.map_toArray, List.map_cons, List.map_nil]); first | done | rfl | (simp only [List.length_drop, List.length_take]; rfl)) ?_; (with_reducible refine (sennitref20_Result.calls k _ _ y213 t218 _ ?side1 ?side2 A13.out).mono ?_); (case side1 => repeat (first | exact (Kd.V_reads' HO217.out).2.2 | (with_reducible refine Kd.C_alloc ?_ _) | (with_reducible refine Kd.C_drewN ?_ _) | (with_reducible refine Kd.C_drew ?_))); (case side2 => exact (Kd.V_reads' HO217.out).2.1); rintro e w24 ⟨v219, rfl, ho0, hb⟩; refine ⟨_, rfl, ?_⟩; have n0_ := Aside0.mk (Kd.V_elder' (by (with_reducible repeat (first | apply Kd.V_alloc | apply Kd.V_drewN | apply Kd.V_drew)); exact HO0.out) (Kd.R_base ho0) hb); have n1_ := Aside0.mk (Kd.V_elder' (by (with_reducible repeat (first | apply Kd.V_alloc | apply Kd.V_drewN | apply Kd.V_drew)); exact HO203.out) (Kd.R_base ho0) hb); have n2_ := Aside0.mk (Kd.V_elder' (by (with_reducible repeat (first | apply Kd.V_alloc | apply Kd.V_drewN | apply Kd.V_drew)); exact HO209.out) (Kd.R_base ho0) hb); have n3_ := Aside0.mk (Kd.R_elder' (by (with_reducible repeat (first | apply Kd.R_alloc | apply Kd.R_drewN | apply Kd.R_drew)); exact HO212.out) (Kd.R_base ho0) hb); have n4_ := Aside0.mk (Kd.V_elder' (by (with_reducible repeat (first | apply Kd.V_alloc | apply Kd.V_drewN | apply Kd.V_drew)); exact HO217.out) (Kd.R_base ho0) hb); have n5_ := Aside0.mk (Kd.R_lower (Kd.R_new' (Kd.R_newM (M := fun k_ => (w.heap.size ≤ k_)) ho0 (below_size (by repeat (first | (with_reducible first | exact HB.out | apply below_alloc | apply pw_below_drewN | apply below_drew1 | refine below_set ?_ GE198.out | refine below_set ?_ GE204.out) | exact HB.out))) (fun k_ h_ => h_)) (Kd.R_lt (by (with_reducible repeat (first | apply Kd.R_alloc | apply Kd.R_drewN | apply Kd.R_drew)); exact HO212.out))) (below_size (by repeat (first | (with_reducible first | exact HB.out | apply below_alloc | apply pw_below_drewN | apply below_drew1 | refine below_set ?_ GE198.out | refine below_set ?_ GE204.out) | exact HB.out)))); have n6_ := Aside0.mk (blk_below (g := gb198) (o := .cells #[.slice none 0 0, .int .i64 0, .int .i64 0, .slice none 0 0] 38 (0, 0)) (by (with_reducible repeat (first | refine blk_drewN ?_ _ | refine blk_drew ?_ | refine blk_alloc ?_ _)); exact BK198.out) hb); have n7_ := Aside0.mk (blk_below (g := gb204) (o := .cells #[.slice none 0 0, .int .i64 0, .int .i64 0, .slice A15 y199.length c15] 38 (0, 0)) (by (with_reducible repeat (first | refine blk_drewN ?_ _ | refine blk_drew ?_ | refine blk_alloc ?_ _)); exact BK204.out) hb); have n8_ := Aside0.mk (below_step (by repeat (first | (with_reducible first | exact HB.out | apply below_alloc | apply pw_below_drewN | apply below_drew1 | refine below_set ?_ GE198.out | refine below_set ?_ GE204.out) | exact HB.out)) hb); clear HO0; clear HO203; clear HO209; clear HO212; clear HO217; clear BK198; clear BK204; clear HB; have HO0 := n0_; have HO203 := n1_; have HO209 := n2_; have HO212 := n3_; have HO217 := n4_; have HO220 := n5_; have BK198 := n6_; have BK204 := n7_; have HB := n8_; clear n0_ n1_ n2_ n3_ n4_ n5_ n6_ n7_ n8_; (try clear hb); (try clear hb2); (try clear hk); (try clear hi); (try clear ho0); obtain ⟨Ao25, co25, eo25⟩ := Kd.R_slice HO220.out; subst eo25; have hcz26_0 : w24.cell? ⟨gb204, 0, none⟩ = some (.slice none 0 0) := (blk_cell BK204.out 0).trans rfl; have hcz26_1 : w24.cell? ⟨gb204, 1, none⟩ = some (.int .i64 0) := (blk_cell BK204.out 1).trans rfl; have hcz26_2 : w24.cell? ⟨gb204, 2, none⟩ = some (.int .i64 0) := (blk_cell BK204.out 2).trans rfl; have hcz26_3 : w24.cell? ⟨gb204, 3, none⟩ = some (.slice A15 y199.length c15) := (blk_cell BK204.out 3).trans rfl; have hfz26_0 := blk_frozen BK204.out 0; have hfz26_1 := blk_frozen BK204.out 1; have hfz26_2 := blk_frozen BK204.out 2; have hfz26_3 := blk_frozen BK204.out 3))
          go_loopg [9] k (fun kq v9 w' => ∃ (x9_1 : Int) (x205000_1 : List (S36)) (u205000 : Value), v9 = .int .i64 x9_1 ∧ Aside0 (sennitref21_Hunk.l0 kq l0 a1 a2 x9_1 x205000_1 (t210.length : Int) (wrap64 ((t210.length : Int) + (t218.length : Int))) y199 = some (r1, r2, r3, r4)) ∧ Aside0 (kq ≤ k) ∧ Aside0 (Kd.V k41 41 w' w.heap.size (fun k_ => (P0_ k_ ∨ w.heap.size ≤ k_) ∧ some k_ ≠ (u205000 : Value).ownBlock ∧ k_ ≠ gb198 ∧ k_ ≠ gb204) (.slice A0 l0.length c0) l0) ∧ Aside0 (Kd.R k36 36 w' w.heap.size (fun k_ => (w.heap.size ≤ k_)) u205000 x205000_1) ∧ Aside0 (Kd.V k41 41 w' w.heap.size (fun k_ => (P0_ k_ ∨ w.heap.size ≤ k_) ∧ some k_ ≠ (u205000 : Value).ownBlock ∧ k_ ≠ gb198 ∧ k_ ≠ gb204) (.slice A15 y199.length c15) y199) ∧ Aside0 (w'.heap[gb198]? = some (.cells #[(.slice none 0 0), .int .i64 0, .int .i64 0, (.slice none 0 0)] 38 (0, 0))) ∧ Aside0 (w'.heap[gb204]? = some (.cells #[u205000, .int .i64 (t210.length : Int), .int .i64 (wrap64 ((t210.length : Int) + (t218.length : Int))), (.slice A15 y199.length c15)] 38 (0, 0))) ∧ Aside0 (Below w.heap.size w w'))
          case atStart => exact ⟨(0), (([] : List (S36))), (.slice none 0 0), (by first | rfl | (simp; done) | (simp [*]; done)), H', ⟨Nat.le_refl _⟩, ⟨by (with_reducible repeat (first | apply Kd.V_alloc | apply Kd.V_drewN | apply Kd.V_drew)); exact Kd.V_mono (Kd.V_far (p := ⟨gb204, 2, none⟩) (Kd.V_far (p := ⟨gb204, 1, none⟩) (Kd.V_mono HO0.out (fun k_ hk => (⟨hk, hk.1.1.2.2⟩ : _ ∧ k_ ≠ gb204))) (fun _ hk => hk.2) (.int .i64 (t210.length : Int))) (fun _ hk => hk.2) (.int .i64 (wrap64 ((t210.length : Int) + (t218.length : Int))))) (fun _ hk => ⟨hk.1.1.1.1, ⟨(by simp [Value.ownBlock]), ⟨hk.1.1.1.2.1, hk.1.1.1.2.2⟩⟩⟩)⟩, ⟨by first | exact Kd.R_nil _ _ _ _ _ | exact Kd.N_nil _ _ _ _ _ | exact Kd.V_nil _ _ _ _ _ | exact Kd.Q_nil _ _ _ _ _ | exact Kd.S_nil _ _ _ _ _⟩, ⟨by (with_reducible repeat (first | apply Kd.V_alloc | apply Kd.V_drewN | apply Kd.V_drew)); exact Kd.V_mono (Kd.V_far (p := ⟨gb204, 2, none⟩) (Kd.V_far (p := ⟨gb204, 1, none⟩) (Kd.V_mono HO203.out (fun k_ hk => (⟨hk, hk.1.1.2.2⟩ : _ ∧ k_ ≠ gb204))) (fun _ hk => hk.2) (.int .i64 (t210.length : Int))) (fun _ hk => hk.2) (.int .i64 (wrap64 ((t210.length : Int) + (t218.length : Int))))) (fun _ hk => ⟨hk.1.1.1.1, ⟨(by simp [Value.ownBlock]), ⟨hk.1.1.1.2.1, hk.1.1.1.2.2⟩⟩⟩)⟩, ⟨by (with_reducible repeat (first | refine blk_drewN ?_ _ | refine blk_drew ?_ | refine blk_alloc ?_ _)); refine blk_far ?_ NB198_204.out _; (with_reducible repeat (first | refine blk_drewN ?_ _ | refine blk_drew ?_ | refine blk_alloc ?_ _)); refine blk_far ?_ NB198_204.out _; (with_reducible repeat (first | refine blk_drewN ?_ _ | refine blk_drew ?_ | refine blk_alloc ?_ _)); exact BK198.out⟩, ⟨by (with_reducible repeat (first | refine blk_drewN ?_ _ | refine blk_drew ?_ | refine blk_alloc ?_ _)); refine blk_put (cs := #[.slice none 0 0, .int .i64 (t210.length : Int), .int .i64 0, .slice A15 y199.length c15]) ?_ 2 _ rfl; (with_reducible repeat (first | refine blk_drewN ?_ _ | refine blk_drew ?_ | refine blk_alloc ?_ _)); refine blk_put (cs := #[.slice none 0 0, .int .i64 0, .int .i64 0, .slice A15 y199.length c15]) ?_ 1 _ rfl; (with_reducible repeat (first | refine blk_drewN ?_ _ | refine blk_drew ?_ | refine blk_alloc ?_ _)); exact BK204.out⟩, ⟨by repeat (first | (with_reducible first | exact HB.out | apply below_alloc | apply pw_below_drewN | apply below_drew1 | refine below_set ?_ GE198.out | refine below_set ?_ GE204.out) | exact HB.out)⟩⟩
          case round =>
            clear H'
            try clear c1
            try clear q1
            try clear c2
            try clear p2
            try clear q2
            try clear c3
            try clear c4
            try clear c4b0
            try clear c4b1
            try clear c5
            try clear c5b0
            try clear c5b1
            try clear c6
            try clear c6b0
            try clear c6b1
            try clear p6
            try clear c7
            try clear c7b0
            try clear c8
            try clear c8b0
            try clear c8b1
            try clear c10
            try clear c10b0
            try clear c11
            try clear c11b0
            try clear c12
            try clear c12b0
            try clear c15
            try clear q15
            try clear c17
            try clear q20
            try clear c23
            try clear q23
            try clear hcz18_0
            try clear hcz18_1
            try clear hcz18_2
            try clear hcz18_3
            try clear hcz26_0
            try clear hcz26_1
            try clear hcz26_2
            try clear hcz26_3
            try clear hfz18_0
            try clear hfz18_1
            try clear hfz18_2
            try clear hfz18_3
            try clear hfz26_0
            try clear hfz26_1
            try clear hfz26_2
            try clear hfz26_3
            try clear q015
            try clear q023
            try clear q15
            try clear q20
            try clear q23
            obtain ⟨x9_1, x205000_1, u205000, rfl, HA, HK1, HO_0, HO_205000, HO_205003, BK198, BK204, HB⟩ := hrel
            cases gk with
            | zero => exact absurd HA.out (by simp [sennitref21_Hunk.l0])
            | succ k1 =>
              have H := HA.out
              clear HA
              simp only [sennitref21_Hunk.l0] at H
              by_cases c27 : 0 < (l0.length : Int)
              · rw [if_pos c27] at H
                have c27b0 : decide (0 < (l0.length : Int)) = true := decide_eq_true c27
                have c27b1 : decide (0 < l0.length) = true := decide_eq_true (by omega)
                clear c27
                by_cases c28 : x9_1 < (((rd_T41 l0 0).f0).size : Int)
                · rw [if_pos c28] at H
                  have c28b0 : decide (x9_1 < (((rd_T41 l0 0).f0).size : Int)) = true := decide_eq_true c28
                  clear c28
                  by_cases c29 : 0 ≤ a1
                  · rw [if_pos c29] at H
                    have c29b0 := eq_true c29
                    have c29b1 : decide (0 ≤ a1) = true := decide_eq_true c29
                    clear c29
                    by_cases c30 : a1 ≤ (l0.length : Int)
                    · rw [if_pos c30] at H
                      have c30b0 := eq_true c30
                      have c30b1 : decide (a1 ≤ (l0.length : Int)) = true := decide_eq_true c30
                      clear c30
                      obtain ⟨y222, hy222⟩ : ∃ y_ : List (S41), y_ = (l0.take (a1 : Int).toNat) := ⟨_, rfl⟩
                      replace H : ((sennitref20_Column.f k1 y222 x9_1).bind fun t227 => (if a1 ≤ a2 then (if a2 ≤ (l0.length : Int) then ((sennitref20_Column.f k1 ((l0.take (a2 : Int).toNat).drop (a1 : Int).toNat) x9_1).bind fun t235 => (if x205000_1.length < 8796093022208 then (sennitref21_Hunk.l0 k1 l0 a1 a2 (wrap64 (x9_1 + 1)) (x205000_1 ++ [(⟨(t227.length : Int), wrap64 ((t227.length : Int) + (t235.length : Int))⟩ : S36)]) (t210.length : Int) (wrap64 ((t210.length : Int) + (t218.length : Int))) y199) else (none))) else (none)) else (none))) = some (r1, r2, r3, r4) := by first | (rw [hy222]; with_reducible exact H) | (have H2_ := (Option.bind_some _ _).symm.trans H; rw [hy222]; with_reducible exact H2_) | (have H2_ := (Option.bind_some _ _).symm.trans H; with_reducible exact H2_) | with_reducible exact H | (rw [hy222]; exact H) | exact H
                      have Ny222 := Aside0.mk hy222
                      clear hy222
                      replace H := Option.bind_eq_some_iff.mp H
                      obtain ⟨t227, A310, H⟩ := H
                      replace H : (if a1 ≤ a2 then (if a2 ≤ (l0.length : Int) then ((sennitref20_Column.f k1 ((l0.take (a2 : Int).toNat).drop (a1 : Int).toNat) x9_1).bind fun t235 => (if x205000_1.length < 8796093022208 then (sennitref21_Hunk.l0 k1 l0 a1 a2 (wrap64 (x9_1 + 1)) (x205000_1 ++ [(⟨(t227.length : Int), wrap64 ((t227.length : Int) + (t235.length : Int))⟩ : S36)]) (t210.length : Int) (wrap64 ((t210.length : Int) + (t218.length : Int))) y199) else (none))) else (none)) else (none)) = some (r1, r2, r3, r4) := H
                      have A31 := Aside0.mk A310
                      clear A310
                      have c32b0 := eq_true (of_decide_eq_true (by first | (with_reducible assumption) | assumption) : 0 ≤ a1)
                      by_cases c33 : a1 ≤ a2
                      · rw [if_pos c33] at H
                        have c33b0 := eq_true c33
                        have c33b1 : decide (a1 ≤ a2) = true := decide_eq_true c33
                        clear c33
                        by_cases c34 : a2 ≤ (l0.length : Int)
                        · rw [if_pos c34] at H
                          have c34b0 := eq_true c34
                          have c34b1 : decide (a2 ≤ (l0.length : Int)) = true := decide_eq_true c34
                          clear c34
                          obtain ⟨y230, hy230⟩ : ∃ y_ : List (S41), y_ = ((l0.take (a2 : Int).toNat).drop (a1 : Int).toNat) := ⟨_, rfl⟩
                          replace H : ((sennitref20_Column.f k1 y230 x9_1).bind fun t235 => (if x205000_1.length < 8796093022208 then (sennitref21_Hunk.l0 k1 l0 a1 a2 (wrap64 (x9_1 + 1)) (x205000_1 ++ [(⟨(t227.length : Int), wrap64 ((t227.length : Int) + (t235.length : Int))⟩ : S36)]) (t210.length : Int) (wrap64 ((t210.length : Int) + (t218.length : Int))) y199) else (none))) = some (r1, r2, r3, r4) := by first | (rw [hy230]; with_reducible exact H) | (have H2_ := (Option.bind_some _ _).symm.trans H; rw [hy230]; with_reducible exact H2_) | (have H2_ := (Option.bind_some _ _).symm.trans H; with_reducible exact H2_) | with_reducible exact H | (rw [hy230]; exact H) | exact H
                          have Ny230 := Aside0.mk hy230
                          clear hy230
                          replace H := Option.bind_eq_some_iff.mp H
                          obtain ⟨t235, A350, H⟩ := H
                          replace H : (if x205000_1.length < 8796093022208 then (sennitref21_Hunk.l0 k1 l0 a1 a2 (wrap64 (x9_1 + 1)) (x205000_1 ++ [(⟨(t227.length : Int), wrap64 ((t227.length : Int) + (t235.length : Int))⟩ : S36)]) (t210.length : Int) (wrap64 ((t210.length : Int) + (t218.length : Int))) y199) else (none)) = some (r1, r2, r3, r4) := H
                          have A35 := Aside0.mk A350
                          clear A350
                          by_cases c36 : x205000_1.length < 8796093022208
                          · rw [if_pos c36] at H
                            have LMc36 := Aside0.mk c36
                            clear c36
                            obtain ⟨y238, hy238⟩ : ∃ y_ : List (S36), y_ = (x205000_1 ++ [(⟨(t227.length : Int), wrap64 ((t227.length : Int) + (t235.length : Int))⟩ : S36)]) := ⟨_, rfl⟩
                            replace H : (sennitref21_Hunk.l0 k1 l0 a1 a2 (wrap64 (x9_1 + 1)) y238 (t210.length : Int) (wrap64 ((t210.length : Int) + (t218.length : Int))) y199) = some (r1, r2, r3, r4) := by first | (rw [hy238]; with_reducible exact H) | (have H2_ := (Option.bind_some _ _).symm.trans H; rw [hy238]; with_reducible exact H2_) | (have H2_ := (Option.bind_some _ _).symm.trans H; with_reducible exact H2_) | with_reducible exact H | (rw [hy238]; exact H) | exact H
                            have Ny238 := Aside0.mk hy238
                            clear hy238
                            have H' := Aside0.mk H
                            clear H
                            have p221 : 0 ≤ (0 : Int) := (by omega)
                            have q221 : 0 < (l0.length : Int) := of_decide_eq_true (by first | (with_reducible assumption) | assumption)
                            obtain ⟨ad221, e221, hx221_0, hx221_1⟩ := at_T41 (Kd.V_reads' HO_0.out).2.2 0 p221 q221
                            cases e221
                            have qi221 : (0 < l0.length) = True := eq_true (by omega)
                            (try rw [show ((0 : Int)).toNat = 0 from rfl] at hx221_0)
                            (try rw [show 0 * 2 = 0 from rfl] at hx221_0)
                            (try rw [Addr.add_zero'] at hx221_0)
                            (try rw [show ((0 : Int)).toNat = 0 from rfl] at hx221_1)
                            (try rw [show 0 * 2 = 0 from rfl] at hx221_1)
                            (try rw [Addr.add_zero'] at hx221_1)
                            replace p221 := eq_true p221
                            replace q221 := eq_true q221
                            have q37 : (a1 : Int) ≤ ((l0.length : Int) : Int) := of_decide_eq_true (by first | (with_reducible assumption) | assumption)
                            obtain ⟨i037, hi037, _, hsz37, _⟩ := info_parts info41
                            have hroom37 : l0.length ≤ c0 := (Kd.V_reads' HO_0.out).2.1
                            have hC37 : Kd.F k41 _ _ (some ad221) l0.length l0 := (Kd.V_at (base := w.heap.size) HO_0.out).2.2
                            try clear hcut20
                            have hcut37 := cut_to (P := Tryd.prog) 22 41 .i64 Tryd.underlying22 hi037 (some ad221) l0.length c0 a1 (of_decide_eq_true (by first | (with_reducible assumption) | assumption)) q37 hroom37
                            have hr37 := Kd.F_take (m := (a1 : Int).toNat) hC37 (by omega)
                            have hy37 : y222.length = (a1 : Int).toNat := (by rw [Ny222.out, List.length_take]; omega)
                            rw [← Ny222.out] at hr37
                            rw [← hy37] at hcut37
                            have HO226 := Aside0.mk (show Kd.V k41 41 _ w.heap.size _ (.slice (some ad221) y222.length c0) y222 from Kd.V_mk (by omega) hr37)
                            have HC226 := Aside0.mk (show y222.length ≤ c0 from by omega)
                            clear hr37 hC37 hroom37 hi037 hsz37
                            have KY37 := Aside0.mk hy37
                            clear hy37
                            replace q37 := eq_true q37
                            try go_wp2_with (first | ((with_reducible refine gate_callee (f := 54) rfl ?_); refine goesL_ (some 45) rfl rfl Tryd.func54 (by kernel_rfl) rfl #[.slice (some ad221) y222.length c0, .int .i64 x9_1] rfl (by (try simp only [List.map_toArray, List.map_cons, List.map_nil]); first | done | rfl | (simp only [List.length_drop, List.length_take]; rfl)) ?_; (with_reducible refine (sennitref20_Column.calls k1 _ _ y222 x9_1 t227 _ ?side1 ?side2 A31.out).mono ?_); (case side1 => repeat (first | exact (Kd.V_reads' HO226.out).2.2 | (with_reducible refine Kd.C_alloc ?_ _) | (with_reducible refine Kd.C_drewN ?_ _) | (with_reducible refine Kd.C_drew ?_))); (case side2 => exact (Kd.V_reads' HO226.out).2.1); rintro e w38 ⟨v228, rfl, ho0, hb⟩; refine ⟨_, rfl, ?_⟩; have n0_ := Aside0.mk (Kd.V_elder' (by (with_reducible repeat (first | apply Kd.V_alloc | apply Kd.V_drewN | apply Kd.V_drew)); exact HO_0.out) (Kd.R_base ho0) hb); have n1_ := Aside0.mk (Kd.R_below (by (with_reducible repeat (first | apply Kd.R_alloc | apply Kd.R_drewN | apply Kd.R_drew)); exact HO_205000.out) hb); have n2_ := Aside0.mk (Kd.V_elder' (by (with_reducible repeat (first | apply Kd.V_alloc | apply Kd.V_drewN | apply Kd.V_drew)); exact HO_205003.out) (Kd.R_base ho0) hb); have n3_ := Aside0.mk (Kd.V_elder' (by (with_reducible repeat (first | apply Kd.V_alloc | apply Kd.V_drewN | apply Kd.V_drew)); exact HO226.out) (Kd.R_base ho0) hb); have n4_ := Aside0.mk (Kd.R_lower (Kd.R_newM (M := fun k_ => (w.heap.size ≤ k_)) ho0 (below_size (by repeat (first | (with_reducible first | exact HB.out | apply below_alloc | apply pw_below_drewN | apply below_drew1 | refine below_set ?_ GE198.out | refine below_set ?_ GE204.out) | exact HB.out))) (fun k_ h_ => h_)) (below_size (by repeat (first | (with_reducible first | exact HB.out | apply below_alloc | apply pw_below_drewN | apply below_drew1 | refine below_set ?_ GE198.out | refine below_set ?_ GE204.out) | exact HB.out)))); have n5_ := Aside0.mk (blk_below (g := gb198) (o := .cells #[.slice none 0 0, .int .i64 0, .int .i64 0, .slice none 0 0] 38 (0, 0)) (by (with_reducible repeat (first | refine blk_drewN ?_ _ | refine blk_drew ?_ | refine blk_alloc ?_ _)); exact BK198.out) hb); have n6_ := Aside0.mk (blk_below (g := gb204) (o := .cells #[u205000, .int .i64 (t210.length : Int), .int .i64 (wrap64 ((t210.length : Int) + (t218.length : Int))), .slice A15 y199.length c15] 38 (0, 0)) (by (with_reducible repeat (first | refine blk_drewN ?_ _ | refine blk_drew ?_ | refine blk_alloc ?_ _)); exact BK204.out) hb); have n7_ := Aside0.mk (below_step (by repeat (first | (with_reducible first | exact HB.out | apply below_alloc | apply pw_below_drewN | apply below_drew1 | refine below_set ?_ GE198.out | refine below_set ?_ GE204.out) | exact HB.out)) hb); clear HO_0; clear HO_205000; clear HO_205003; clear HO226; clear BK198; clear BK204; clear HB; have HO_0 := n0_; have HO_205000 := n1_; have HO_205003 := n2_; have HO226 := n3_; have HO229 := n4_; have BK198 := n5_; have BK204 := n6_; have HB := n7_; clear n0_ n1_ n2_ n3_ n4_ n5_ n6_ n7_; (try clear hb); (try clear hb2); (try clear hk); (try clear hi); (try clear ho0); obtain ⟨Ao39, co39, eo39⟩ := Kd.R_slice HO229.out; subst eo39))
                            have n0_ := Aside0.mk (Kd.V_drew HO_0.out)
                            have n1_ := Aside0.mk (Kd.R_drew HO_205000.out)
                            have n2_ := Aside0.mk (Kd.V_drew HO_205003.out)
                            have n3_ := Aside0.mk (Kd.V_drew HO226.out)
                            have n4_ := Aside0.mk (Kd.R_drew HO229.out)
                            have n5_ := Aside0.mk (blk_drew BK198.out)
                            have n6_ := Aside0.mk (blk_drew BK204.out)
                            have n7_ := Aside0.mk (below_drew1 HB.out)
                            clear HO_0
                            clear HO_205000
                            clear HO_205003
                            clear HO226
                            clear HO229
                            clear BK198
                            clear BK204
                            clear HB
                            have HO_0 := n0_
                            have HO_205000 := n1_
                            have HO_205003 := n2_
                            have HO226 := n3_
                            have HO229 := n4_
                            have BK198 := n5_
                            have BK204 := n6_
                            have HB := n7_
                            clear n0_ n1_ n2_ n3_ n4_ n5_ n6_ n7_
                            have q41 : (a2 : Int) ≤ ((l0.length : Int) : Int) := of_decide_eq_true (by first | (with_reducible assumption) | assumption)
                            obtain ⟨i041, hi041, _, hsz41, _⟩ := info_parts info41
                            have hroom41 : l0.length ≤ c0 := (Kd.V_reads' HO_0.out).2.1
                            have hC41 : Kd.F k41 _ _ (some ad221) l0.length l0 := (Kd.V_at (base := w.heap.size) HO_0.out).2.2
                            have ql41 : (a1 : Int) ≤ (a2 : Int) := of_decide_eq_true (by first | (with_reducible assumption) | assumption)
                            have q041 : (0 : Int) ≤ (a1 : Int) := of_decide_eq_true (by first | (with_reducible assumption) | assumption)
                            try clear hcut15
                            try clear hcut23
                            have hcut41 := cut_mid (P := Tryd.prog) 22 41 .i64 .i64 Tryd.underlying22 hi041 2 hsz41 (some ad221) l0.length c0 a1 a2 q041 ql41 q41 hroom41
                            have hr41 := Kd.F_mid (lo := (a1 : Int).toNat) (hi := (a2 : Int).toNat) (c := c0) hC41 (by omega) (by omega) hroom41
                            obtain ⟨A41, hA41⟩ : ∃ A1, A1 = (if c0 = (a1 : Int).toNat then (some ad221) else ((some ad221) : Option Addr).map (·.add ((a1 : Int).toNat * 2))) := ⟨_, rfl⟩
                            obtain ⟨c41, hc41⟩ : ∃ c1, c1 = c0 - (a1 : Int).toNat := ⟨_, rfl⟩
                            have hy41 : y230.length = (a2 : Int).toNat - (a1 : Int).toNat := (by rw [Ny230.out, List.length_drop, List.length_take] <;> omega)
                            rw [show ((l0).take (a2 : Int).toNat).drop (a1 : Int).toNat = y230 from Ny230.out.symm] at hr41
                            replace hr41 : Kd.F k41 _ _ A41 y230.length y230 := (by rw [hA41]; exact hr41)
                            rw [← hy41, ← hA41, ← hc41] at hcut41
                            have HO234 := Aside0.mk (show Kd.V k41 41 _ w.heap.size _ (.slice A41 y230.length c41) y230 from Kd.V_mk (by rw [hy41, hc41]; exact Nat.sub_le_sub_right (Nat.le_trans (by omega) hroom41) _) hr41)
                            have HC234 := Aside0.mk (show y230.length ≤ c41 from by rw [hy41, hc41]; exact Nat.sub_le_sub_right (Nat.le_trans (by omega) hroom41) _)
                            clear hr41 hC41 hroom41 hi041 hsz41 hc41
                            have KY41 := Aside0.mk hy41
                            have KA41 := Aside0.mk hA41
                            clear hy41 hA41
                            replace q41 := eq_true q41
                            refine start_ (n := 17) (S := fun w' => w'.cell? ⟨gb204, 0, none⟩ = some (u205000) ∧ w'.cell? ⟨gb204, 1, none⟩ = some (.int .i64 (t210.length : Int)) ∧ w'.cell? ⟨gb204, 2, none⟩ = some (.int .i64 (wrap64 ((t210.length : Int) + (t218.length : Int)))) ∧ w'.cell? ⟨gb204, 3, none⟩ = some (.slice A15 y199.length c15)) (ds := [16]) #[false, false, false, false, false, false, false, false, false, false, false, false, false, false, false, false, false] (by kernel_rfl) rfl rfl ⟨(blk_cell BK204.out 0).trans rfl, (blk_cell BK204.out 1).trans rfl, (blk_cell BK204.out 2).trans rfl, (blk_cell BK204.out 3).trans rfl⟩ (fun hHeld => ?_); refine with_tabW sennitref21_Hunk.tab8 sennitref21_Hunk.bits8 (fun HT_ HW_ => ?_)
                            generalize w38.drew = w40 at HO_0 HO_205000 HO_205003 HO226 HO229 BK198 BK204 HB HO234 hHeld ⊢
                            refine pure_ (i := 0) (N := some 47) (v := ?_) (a' := ?_) #[true, false, false, false, false, false, false, false, false, false, false, false, false, false, false, false, false] rfl rfl (any_of HT_.out (by kernel_rfl)) (fun _ _ _ h => h) (Or.inl ⟨by rfl, ?_⟩) ?_ ?_
                            rotate_left
                            · intro w'
                              go_simp
                              with_reducible rfl
                            rotate_left
                            · simp only [Act.put, List.setIfInBounds_toArray, List.set_cons_zero, List.set_cons_succ, i64_w, i32_w]
                              rfl
                            refine pure_ (i := 2) (N := some 49) (v := ?_) (a' := ?_) #[true, false, true, false, false, false, false, false, false, false, false, false, false, false, false, false, false] rfl rfl (any_of HT_.out (by kernel_rfl)) (fun _ _ _ h => h) (Or.inl ⟨by rfl, ?_⟩) ?_ ?_
                            rotate_left
                            · intro w'
                              go_simp
                              with_reducible rfl
                            rotate_left
                            · simp only [Act.put, List.setIfInBounds_toArray, List.set_cons_zero, List.set_cons_succ, i64_w, i32_w]
                              rfl
                            refine pure_ (i := 3) (N := some 50) (v := ?_) (a' := ?_) #[true, false, true, true, false, false, false, false, false, false, false, false, false, false, false, false, false] rfl rfl (any_of HT_.out (by kernel_rfl)) (fun _ _ _ h => h) (Or.inl ⟨by rfl, ?_⟩) ?_ ?_
                            rotate_left
                            · intro w'
                              go_simp
                              with_reducible rfl
                            rotate_left
                            · simp only [Act.put, List.setIfInBounds_toArray, List.set_cons_zero, List.set_cons_succ, i64_w, i32_w]
                              rfl
                            refine pure_ (i := 4) (N := some 51) (v := ?_) (a' := ?_) #[true, false, true, true, true, false, false, false, false, false, false, false, false, false, false, false, false] rfl rfl (any_of HT_.out (by kernel_rfl)) (fun _ _ _ h => h) (Or.inl ⟨by rfl, ?_⟩) ?_ ?_
                            rotate_left
                            · intro w'
                              go_simp
                              with_reducible rfl
                            rotate_left
                            · simp only [Act.put, List.setIfInBounds_toArray, List.set_cons_zero, List.set_cons_succ, i64_w, i32_w]
                              rfl
                            refine pure_ (i := 5) (N := some 52) (v := ?_) (a' := ?_) #[true, false, true, true, true, true, false, false, false, false, false, false, false, false, false, false, false] rfl rfl (any_of HT_.out (by kernel_rfl)) (fun _ _ _ h => h) (Or.inl ⟨by rfl, ?_⟩) ?_ ?_
                            rotate_left
                            · intro w'
                              go_simp
                              with_reducible rfl
                            rotate_left
                            · simp only [Act.put, List.setIfInBounds_toArray, List.set_cons_zero, List.set_cons_succ, i64_w, i32_w]
                              rfl
                            refine pure_ (i := 6) (N := some 53) (v := ?_) (a' := ?_) #[true, false, true, true, true, true, true, false, false, false, false, false, false, false, false, false, false] rfl rfl (any_of HT_.out (by kernel_rfl)) (fun _ _ _ h => h) (Or.inl ⟨by rfl, ?_⟩) ?_ ?_
                            rotate_left
                            · intro w'
                              go_simp
                              with_reducible rfl
                            rotate_left
                            · simp only [Act.put, List.setIfInBounds_toArray, List.set_cons_zero, List.set_cons_succ, i64_w, i32_w]
                              rfl
                            refine pure_ (i := 7) (N := some 54) (v := ?_) (a' := ?_) #[true, false, true, true, true, true, true, true, false, false, false, false, false, false, false, false, false] rfl rfl (any_of HT_.out (by kernel_rfl)) (fun _ _ _ h => h) (Or.inl ⟨by rfl, ?_⟩) ?_ ?_
                            rotate_left
                            · intro w'
                              go_simp
                              with_reducible rfl
                            rotate_left
                            · simp only [Act.put, List.setIfInBounds_toArray, List.set_cons_zero, List.set_cons_succ, i64_w, i32_w]
                              rfl
                            refine pure_ (i := 8) (N := some 55) (v := ?_) (a' := ?_) #[true, false, true, true, true, true, true, true, true, false, false, false, false, false, false, false, false] rfl rfl (any_of HT_.out (by kernel_rfl)) (fun _ _ _ h => h) (Or.inl ⟨by rfl, ?_⟩) ?_ ?_
                            rotate_left
                            · intro w'
                              go_simp
                              with_reducible rfl
                            rotate_left
                            · simp only [Act.put, List.setIfInBounds_toArray, List.set_cons_zero, List.set_cons_succ, i64_w, i32_w]
                              rfl
                            refine take_ (i := 1) (N := some 48) (v := ?_) (a' := ?_) #[true, true, true, true, true, true, true, true, true, false, false, false, false, false, false, false, false] rfl rfl (take_ofW HT_.out HW_.out (by kernel_rfl)) (fun _ _ _ h => h) (Or.inl ⟨by rfl, ?_⟩) hHeld ?_ ?_
                            rotate_left
                            · rintro w' ⟨s0, s1, s2, s3⟩
                              go_simp
                              with_reducible rfl
                            rotate_left
                            · simp only [Act.put, List.setIfInBounds_toArray, List.set_cons_zero, List.set_cons_succ, i64_w, i32_w]
                              rfl
                            refine one_ (i := 9) (N := some 56) #[true, true, true, true, true, true, true, true, true, true, false, false, false, false, false, false, false] rfl rfl (one_of HT_.out (by kernel_rfl)) (by decide) (fun K hK => ?_)
                            refine goes_ Tryd.func54 (by kernel_rfl) rfl #[.slice A41 y230.length c41, .int .i64 x9_1] (by rfl) rfl rfl (by (try simp only [List.map_toArray, List.map_cons, List.map_nil]); first | done | rfl | (simp only [List.length_drop, List.length_take]; rfl)) ?_
                            with_reducible refine (sennitref20_Column.calls k1 _ _ y230 x9_1 t235 _ ?side1 ?side2 A35.out).mono ?_
                            (case side1 => repeat (first | exact (Kd.V_reads' HO234.out).2.2 | (with_reducible refine Kd.C_alloc ?_ _) | (with_reducible refine Kd.C_drewN ?_ _) | (with_reducible refine Kd.C_drew ?_)))
                            (case side2 => exact (Kd.V_reads' HO234.out).2.1)
                            rintro e w42 ⟨v236, rfl, ho0, hb⟩
                            refine ⟨_, rfl, ?_⟩
                            have n0_ := Aside0.mk (Kd.V_elder' (by (with_reducible repeat (first | apply Kd.V_alloc | apply Kd.V_drewN | apply Kd.V_drew)); exact HO_0.out) (Kd.R_base ho0) hb)
                            have n1_ := Aside0.mk (Kd.R_below (by (with_reducible repeat (first | apply Kd.R_alloc | apply Kd.R_drewN | apply Kd.R_drew)); exact HO_205000.out) hb)
                            have n2_ := Aside0.mk (Kd.V_elder' (by (with_reducible repeat (first | apply Kd.V_alloc | apply Kd.V_drewN | apply Kd.V_drew)); exact HO_205003.out) (Kd.R_base ho0) hb)
                            have n3_ := Aside0.mk (Kd.V_elder' (by (with_reducible repeat (first | apply Kd.V_alloc | apply Kd.V_drewN | apply Kd.V_drew)); exact HO226.out) (Kd.R_base ho0) hb)
                            have n4_ := Aside0.mk (Kd.R_elder' (by (with_reducible repeat (first | apply Kd.R_alloc | apply Kd.R_drewN | apply Kd.R_drew)); exact HO229.out) (Kd.R_base ho0) hb)
                            have n5_ := Aside0.mk (Kd.V_elder' (by (with_reducible repeat (first | apply Kd.V_alloc | apply Kd.V_drewN | apply Kd.V_drew)); exact HO234.out) (Kd.R_base ho0) hb)
                            have n6_ := Aside0.mk (Kd.R_lower (Kd.R_new' (Kd.R_newM (M := fun k_ => (w.heap.size ≤ k_)) ho0 (below_size (by repeat (first | (with_reducible first | exact HB.out | apply below_alloc | apply pw_below_drewN | apply below_drew1 | refine below_set ?_ GE198.out | refine below_set ?_ GE204.out) | exact HB.out))) (fun k_ h_ => h_)) (Kd.R_lt (by (with_reducible repeat (first | apply Kd.R_alloc | apply Kd.R_drewN | apply Kd.R_drew)); exact HO229.out))) (below_size (by repeat (first | (with_reducible first | exact HB.out | apply below_alloc | apply pw_below_drewN | apply below_drew1 | refine below_set ?_ GE198.out | refine below_set ?_ GE204.out) | exact HB.out))))
                            have n7_ := Aside0.mk (blk_below (g := gb198) (o := .cells #[.slice none 0 0, .int .i64 0, .int .i64 0, .slice none 0 0] 38 (0, 0)) (by (with_reducible repeat (first | refine blk_drewN ?_ _ | refine blk_drew ?_ | refine blk_alloc ?_ _)); exact BK198.out) hb)
                            have n8_ := Aside0.mk (blk_below (g := gb204) (o := .cells #[u205000, .int .i64 (t210.length : Int), .int .i64 (wrap64 ((t210.length : Int) + (t218.length : Int))), .slice A15 y199.length c15] 38 (0, 0)) (by (with_reducible repeat (first | refine blk_drewN ?_ _ | refine blk_drew ?_ | refine blk_alloc ?_ _)); exact BK204.out) hb)
                            have n9_ := Aside0.mk (below_step (by repeat (first | (with_reducible first | exact HB.out | apply below_alloc | apply pw_below_drewN | apply below_drew1 | refine below_set ?_ GE198.out | refine below_set ?_ GE204.out) | exact HB.out)) hb)
                            clear HO_0
                            clear HO_205000
                            clear HO_205003
                            clear HO226
                            clear HO229
                            clear HO234
                            clear BK198
                            clear BK204
                            clear HB
                            have HO_0 := n0_
                            have HO_205000 := n1_
                            have HO_205003 := n2_
                            have HO226 := n3_
                            have HO229 := n4_
                            have HO234 := n5_
                            have HO237 := n6_
                            have BK198 := n7_
                            have BK204 := n8_
                            have HB := n9_
                            clear n0_ n1_ n2_ n3_ n4_ n5_ n6_ n7_ n8_ n9_
                            (try clear hb)
                            (try clear hb2)
                            (try clear hk)
                            (try clear hi)
                            (try clear ho0)
                            obtain ⟨Ao43, co43, eo43⟩ := Kd.R_slice HO237.out
                            (first | subst eo43 | (injection eo43 with f1_ f2_ f3_; have f4_ := f1_.symm; have f5_ := f3_.symm; clear f1_ f2_ f3_; subst f4_; subst f5_))
                            refine hK.out _ _ ⟨(blk_cell BK204.out 0).trans rfl, (blk_cell BK204.out 1).trans rfl, (blk_cell BK204.out 2).trans rfl, (blk_cell BK204.out 3).trans rfl⟩ (fun hHeld => ?_)
                            clear hK K
                            refine norm_ (a' := ?_) ?_ ?_
                            rotate_left
                            · show Act.put _ (some 56) _ = _
                              simp only [Act.put, List.setIfInBounds_toArray, List.set_cons_zero, List.set_cons_succ, i64_w, i32_w]
                              rfl
                            refine pure_ (i := 10) (N := some 57) (v := ?_) (a' := ?_) #[true, true, true, true, true, true, true, true, true, true, true, false, false, false, false, false, false] rfl rfl (any_of HT_.out (by kernel_rfl)) (fun _ _ _ h => h) (Or.inl ⟨by rfl, ?_⟩) ?_ ?_
                            rotate_left
                            · intro w'
                              go_simp
                              with_reducible rfl
                            rotate_left
                            · simp only [Act.put, List.setIfInBounds_toArray, List.set_cons_zero, List.set_cons_succ, i64_w, i32_w]
                              rfl
                            refine pure_ (i := 11) (N := some 58) (v := ?_) (a' := ?_) #[true, true, true, true, true, true, true, true, true, true, true, true, false, false, false, false, false] rfl rfl (any_of HT_.out (by kernel_rfl)) (fun _ _ _ h => h) (Or.inl ⟨by rfl, ?_⟩) ?_ ?_
                            rotate_left
                            · intro w'
                              go_simp
                              with_reducible rfl
                            rotate_left
                            · simp only [Act.put, List.setIfInBounds_toArray, List.set_cons_zero, List.set_cons_succ, i64_w, i32_w]
                              rfl
                            refine pure_ (i := 12) (N := some 59) (v := ?_) (a' := ?_) #[true, true, true, true, true, true, true, true, true, true, true, true, true, false, false, false, false] rfl rfl (any_of HT_.out (by kernel_rfl)) (fun _ _ _ h => h) (Or.inl ⟨by rfl, ?_⟩) ?_ ?_
                            rotate_left
                            · intro w'
                              go_simp
                              with_reducible rfl
                            rotate_left
                            · simp only [Act.put, List.setIfInBounds_toArray, List.set_cons_zero, List.set_cons_succ, i64_w, i32_w]
                              rfl
                            refine one_ (i := 13) (N := some 60) #[true, true, true, true, true, true, true, true, true, true, true, true, true, true, false, false, false] rfl rfl (one_of HT_.out (by kernel_rfl)) (by decide) (fun K hK => ?_)
                            refine value_ (w1 := ?_) (v := ?_) (by rfl) rfl ?_ ?_
                            rotate_left 2
                            · go_simp
                              constructor
                              · rfl
                              · rfl
                            refine hK.out _ _ ⟨(blk_cell (blk_alloc BK204.out _) 0).trans rfl, (blk_cell (blk_alloc BK204.out _) 1).trans rfl, (blk_cell (blk_alloc BK204.out _) 2).trans rfl, (blk_cell (blk_alloc BK204.out _) 3).trans rfl⟩ (fun hHeld => ?_)
                            clear hK K
                            refine norm_ (a' := ?_) ?_ ?_
                            rotate_left
                            · show Act.put _ (some 60) _ = _
                              simp only [Act.put, List.setIfInBounds_toArray, List.set_cons_zero, List.set_cons_succ, i64_w, i32_w]
                              rfl
                            refine one_ (i := 14) (N := some 61) #[true, true, true, true, true, true, true, true, true, true, true, true, true, true, true, false, false] rfl rfl (one_of HT_.out (by kernel_rfl)) (by decide) (fun K hK => ?_)
                            refine Kd.R_append_step k36 (w0 := w) w.heap.size (by rfl) (.tmp 48) (.tmp 60) 33 36 (.agg #[(.int .i64 0), (.int .i64 0)]) 16 rfl Tryd.underlying33 info36 rfl (by decide) (by omega) u205000 x205000_1 (⟨(t227.length : Int), wrap64 ((t227.length : Int) + (t235.length : Int))⟩ : S36) [.int .i64 (t227.length : Int), .int .i64 (wrap64 ((t227.length : Int) + (t235.length : Int)))] (fun k_ => (w.heap.size ≤ k_)) (fun _ => False) rfl rfl ?aP (fun _ hk => hk.elim) ?aF ?aO ?aB ?aS ?aL ?_
                            (case aP => exact k36_mkM _ _ _ (⟨(t227.length : Int), wrap64 ((t227.length : Int) + (t235.length : Int))⟩ : S36))
                            (case aB => exact (by repeat (first | (with_reducible first | exact HB.out | apply below_alloc | apply pw_below_drewN | apply below_drew1 | refine below_set ?_ GE198.out | refine below_set ?_ GE204.out) | exact HB.out)))
                            (case aF => exact (fun k_ hk => (Nat.le_trans (below_size (by repeat (first | (with_reducible first | exact HB.out | apply below_alloc | apply pw_below_drewN | apply below_drew1 | refine below_set ?_ GE198.out | refine below_set ?_ GE204.out) | exact HB.out))) hk)))
                            (case aO => exact (by (with_reducible repeat (first | apply Kd.R_alloc | apply Kd.R_drewN | apply Kd.R_drew)); exact HO_205000.out))
                            (case aS => exact (below_size (by repeat (first | (with_reducible first | exact HB.out | apply below_alloc | apply pw_below_drewN | apply below_drew1 | refine below_set ?_ GE198.out | refine below_set ?_ GE204.out) | exact HB.out))))
                            (case aL => have := LMc36.out; omega)
                            intro v239 w44 ho hb hg hat
                            rw [← Ny238.out] at ho
                            have n0_ := Aside0.mk (Kd.V_afterv (ok := (fun k_ => (P0_ k_ ∨ w.heap.size ≤ k_) ∧ some k_ ≠ (.slice Ao39 t227.length co39 : Value).ownBlock ∧ some k_ ≠ (.slice Ao43 t235.length co43 : Value).ownBlock ∧ k_ ≠ gb198 ∧ k_ ≠ gb204)) (by (with_reducible repeat (first | apply Kd.V_alloc | apply Kd.V_drewN | apply Kd.V_drew)); exact Kd.V_mono HO_0.out (fun _ hk => ⟨⟨hk.1.1.1, ⟨hk.1.2, ⟨hk.2, ⟨hk.1.1.2.2.1, hk.1.1.2.2.2⟩⟩⟩⟩, hk.1.1.2.1⟩)) hg hat)
                            have n1_ := Aside0.mk (Kd.V_afterv (ok := (fun k_ => (P0_ k_ ∨ w.heap.size ≤ k_) ∧ some k_ ≠ (.slice Ao39 t227.length co39 : Value).ownBlock ∧ some k_ ≠ (.slice Ao43 t235.length co43 : Value).ownBlock ∧ k_ ≠ gb198 ∧ k_ ≠ gb204)) (by (with_reducible repeat (first | apply Kd.V_alloc | apply Kd.V_drewN | apply Kd.V_drew)); exact Kd.V_mono HO_205003.out (fun _ hk => ⟨⟨hk.1.1.1, ⟨hk.1.2, ⟨hk.2, ⟨hk.1.1.2.2.1, hk.1.1.2.2.2⟩⟩⟩⟩, hk.1.1.2.1⟩)) hg hat)
                            have n2_ := Aside0.mk (blk_grown (g := gb198) (o := .cells #[.slice none 0 0, .int .i64 0, .int .i64 0, .slice none 0 0] 38 (0, 0)) (by (with_reducible repeat (first | refine blk_drewN ?_ _ | refine blk_drew ?_ | refine blk_alloc ?_ _)); exact BK198.out) hg (Kd.R_ne HO_205000.out BK198.out (by decide)))
                            have n3_ := Aside0.mk (blk_grown (g := gb204) (o := .cells #[u205000, .int .i64 (t210.length : Int), .int .i64 (wrap64 ((t210.length : Int) + (t218.length : Int))), .slice A15 y199.length c15] 38 (0, 0)) (by (with_reducible repeat (first | refine blk_drewN ?_ _ | refine blk_drew ?_ | refine blk_alloc ?_ _)); exact BK204.out) hg (Kd.R_ne HO_205000.out BK204.out (by decide)))
                            have n4_ := Aside0.mk (Kd.V_afterv (ok := (fun k_ => (P0_ k_ ∨ w.heap.size ≤ k_) ∧ some k_ ≠ (.slice Ao39 t227.length co39 : Value).ownBlock ∧ some k_ ≠ (.slice Ao43 t235.length co43 : Value).ownBlock ∧ k_ ≠ gb198 ∧ k_ ≠ gb204)) (by (with_reducible repeat (first | apply Kd.V_alloc | apply Kd.V_drewN | apply Kd.V_drew)); exact Kd.V_mono HO226.out (fun _ hk => ⟨⟨hk.1.1.1, ⟨hk.1.2, ⟨hk.2, ⟨hk.1.1.2.2.1, hk.1.1.2.2.2⟩⟩⟩⟩, hk.1.1.2.1⟩)) hg hat)
                            have n5_ := Aside0.mk (Kd.R_over' (by (with_reducible repeat (first | apply Kd.R_alloc | apply Kd.R_drewN | apply Kd.R_drew)); exact HO229.out) (Kd.R_typed (by (with_reducible repeat (first | apply Kd.R_alloc | apply Kd.R_drewN | apply Kd.R_drew)); exact HO_205000.out)) (by decide) hg)
                            have n6_ := Aside0.mk (Kd.V_afterv (ok := (fun k_ => (P0_ k_ ∨ w.heap.size ≤ k_) ∧ some k_ ≠ (.slice Ao39 t227.length co39 : Value).ownBlock ∧ some k_ ≠ (.slice Ao43 t235.length co43 : Value).ownBlock ∧ k_ ≠ gb198 ∧ k_ ≠ gb204)) (by (with_reducible repeat (first | apply Kd.V_alloc | apply Kd.V_drewN | apply Kd.V_drew)); exact Kd.V_mono HO234.out (fun _ hk => ⟨⟨hk.1.1.1, ⟨hk.1.2, ⟨hk.2, ⟨hk.1.1.2.2.1, hk.1.1.2.2.2⟩⟩⟩⟩, hk.1.1.2.1⟩)) hg hat)
                            have n7_ := Aside0.mk (Kd.R_over' (by (with_reducible repeat (first | apply Kd.R_alloc | apply Kd.R_drewN | apply Kd.R_drew)); exact HO237.out) (Kd.R_typed (by (with_reducible repeat (first | apply Kd.R_alloc | apply Kd.R_drewN | apply Kd.R_drew)); exact HO_205000.out)) (by decide) hg)
                            have n8_ := Aside0.mk (hb)
                            have n9_ := Aside0.mk (ho)
                            clear HO_0
                            clear HO_205003
                            clear BK198
                            clear BK204
                            clear HO226
                            clear HO229
                            clear HO234
                            clear HO237
                            clear HB
                            clear HO_205000
                            have HO_0 := n0_
                            have HO_205003 := n1_
                            have BK198 := n2_
                            have BK204 := n3_
                            have HO226 := n4_
                            have HO229 := n5_
                            have HO234 := n6_
                            have HO237 := n7_
                            have HB := n8_
                            have HO240 := n9_
                            clear n0_ n1_ n2_ n3_ n4_ n5_ n6_ n7_ n8_ n9_
                            clear ho hb hg hat
                            obtain ⟨Ao45, co45, eo45⟩ := Kd.R_slice HO240.out
                            (first | subst eo45 | (injection eo45 with f1_ f2_ f3_; have f4_ := f1_.symm; have f5_ := f3_.symm; clear f1_ f2_ f3_; subst f4_; subst f5_))
                            refine hK.out _ _ ⟨(blk_cell BK204.out 0).trans rfl, (blk_cell BK204.out 1).trans rfl, (blk_cell BK204.out 2).trans rfl, (blk_cell BK204.out 3).trans rfl⟩ (fun hHeld => ?_)
                            clear hK K
                            refine norm_ (a' := ?_) ?_ ?_
                            rotate_left
                            · show Act.put _ (some 61) _ = _
                              simp only [Act.put, List.setIfInBounds_toArray, List.set_cons_zero, List.set_cons_succ, i64_w, i32_w]
                              rfl
                            refine pure_ (i := 15) (N := some 62) (v := ?_) (a' := ?_) #[true, true, true, true, true, true, true, true, true, true, true, true, true, true, true, true, false] rfl rfl (any_of HT_.out (by kernel_rfl)) (fun _ _ _ h => h) (Or.inl ⟨by rfl, ?_⟩) ?_ ?_
                            rotate_left
                            · intro w'
                              go_simp
                              with_reducible rfl
                            rotate_left
                            · simp only [Act.put, List.setIfInBounds_toArray, List.set_cons_zero, List.set_cons_succ, i64_w, i32_w]
                              rfl
                            refine last_ (i := 16) (N := none) #[true, true, true, true, true, true, true, true, true, true, true, true, true, true, true, true, true] rfl rfl (one_of HT_.out (by kernel_rfl)) (by decide) (fun K hK => ?_)
                            have hs46 : w44.cell? ⟨gb204, 0, none⟩ = some (u205000) := (blk_cell BK204.out 0).trans rfl
                            have hfs46 := blk_frozen BK204.out 0
                            have hns46_0 := NB198_204.out
                            have hms46_0 := NB204_198.out
                            refine skip_ (w1 := ?_) (by rfl) rfl ?_ ?_
                            rotate_left
                            · go_simp
                              rfl
                            refine hK.out _ _ ?_
                            clear hK K
                            refine done_ (done_of HT_.out (by kernel_rfl)) ?_
                            try go_wp2
                            go_roundg k1
                            case measure => have := HK1.out; omega
                            case rel => exact ⟨(wrap64 (x9_1 + 1)), (y238), (.slice Ao45 y238.length co45), (by first | rfl | (simp; done) | (simp [*]; done)), H', ⟨by have := HK1.out; omega⟩, ⟨by (with_reducible repeat (first | apply Kd.V_alloc | apply Kd.V_drewN | apply Kd.V_drew)); exact Kd.V_mono (Kd.V_far (p := ⟨gb204, 0, none⟩) (Kd.V_mono HO_0.out (fun k_ hk => (⟨hk, hk.1.2.2.2.2⟩ : _ ∧ k_ ≠ gb204))) (fun _ hk => hk.2) (.slice Ao45 y238.length co45)) (fun _ hk => ⟨hk.1.1.1, ⟨hk.1.2, ⟨hk.1.1.2.2.2.1, hk.1.1.2.2.2.2⟩⟩⟩)⟩, ⟨by (with_reducible repeat (first | apply Kd.R_alloc | apply Kd.R_drewN | apply Kd.R_drew)); exact Kd.R_mono (Kd.R_far (p := ⟨gb204, 0, none⟩) (Kd.R_types HO240.out BK204.out (by decide)) (fun _ hk => hk.2) (.slice Ao45 y238.length co45)) (fun _ hk => hk.1)⟩, ⟨by (with_reducible repeat (first | apply Kd.V_alloc | apply Kd.V_drewN | apply Kd.V_drew)); exact Kd.V_mono (Kd.V_far (p := ⟨gb204, 0, none⟩) (Kd.V_mono HO_205003.out (fun k_ hk => (⟨hk, hk.1.2.2.2.2⟩ : _ ∧ k_ ≠ gb204))) (fun _ hk => hk.2) (.slice Ao45 y238.length co45)) (fun _ hk => ⟨hk.1.1.1, ⟨hk.1.2, ⟨hk.1.1.2.2.2.1, hk.1.1.2.2.2.2⟩⟩⟩)⟩, ⟨by (with_reducible repeat (first | refine blk_drewN ?_ _ | refine blk_drew ?_ | refine blk_alloc ?_ _)); refine blk_far ?_ NB198_204.out _; (with_reducible repeat (first | refine blk_drewN ?_ _ | refine blk_drew ?_ | refine blk_alloc ?_ _)); exact BK198.out⟩, ⟨by (with_reducible repeat (first | refine blk_drewN ?_ _ | refine blk_drew ?_ | refine blk_alloc ?_ _)); refine blk_put (cs := #[u205000, .int .i64 (t210.length : Int), .int .i64 (wrap64 ((t210.length : Int) + (t218.length : Int))), .slice A15 y199.length c15]) ?_ 0 _ rfl; (with_reducible repeat (first | refine blk_drewN ?_ _ | refine blk_drew ?_ | refine blk_alloc ?_ _)); exact BK204.out⟩, ⟨by repeat (first | (with_reducible first | exact HB.out | apply below_alloc | apply pw_below_drewN | apply below_drew1 | refine below_set ?_ GE198.out | refine below_set ?_ GE204.out) | exact HB.out)⟩⟩
                          · rw [if_neg c36] at H
                            exact absurd H (by simp)
                        · rw [if_neg c34] at H
                          exact absurd H (by simp)
                      · rw [if_neg c33] at H
                        exact absurd H (by simp)
                    · rw [if_neg c30] at H
                      exact absurd H (by simp)
                  · rw [if_neg c29] at H
                    exact absurd H (by simp)
                · rw [if_neg c28] at H
                  have c28b0 : decide (x9_1 < (((rd_T41 l0 0).f0).size : Int)) = false := decide_eq_false c28
                  clear c28
                  simp only [Option.some.injEq, Prod.mk.injEq] at H
                  obtain ⟨rfl, rfl, rfl, rfl⟩ := H
                  have p221 : 0 ≤ (0 : Int) := (by omega)
                  have q221 : 0 < (l0.length : Int) := of_decide_eq_true (by first | (with_reducible assumption) | assumption)
                  obtain ⟨ad221, e221, hx221_0, hx221_1⟩ := at_T41 (Kd.V_reads' HO_0.out).2.2 0 p221 q221
                  cases e221
                  have qi221 : (0 < l0.length) = True := eq_true (by omega)
                  (try rw [show ((0 : Int)).toNat = 0 from rfl] at hx221_0)
                  (try rw [show 0 * 2 = 0 from rfl] at hx221_0)
                  (try rw [Addr.add_zero'] at hx221_0)
                  (try rw [show ((0 : Int)).toNat = 0 from rfl] at hx221_1)
                  (try rw [show 0 * 2 = 0 from rfl] at hx221_1)
                  (try rw [Addr.add_zero'] at hx221_1)
                  replace p221 := eq_true p221
                  replace q221 := eq_true q221
                  have hnb47 := NB204_198.out
                  have hnc47 := NB198_204.out
                  have hcz48_0 : wr.cell? ⟨gb204, 0, none⟩ = some (u205000) := (blk_cell BK204.out 0).trans rfl
                  have hcz48_1 : wr.cell? ⟨gb204, 1, none⟩ = some (.int .i64 (t210.length : Int)) := (blk_cell BK204.out 1).trans rfl
                  have hcz48_2 : wr.cell? ⟨gb204, 2, none⟩ = some (.int .i64 (wrap64 ((t210.length : Int) + (t218.length : Int)))) := (blk_cell BK204.out 2).trans rfl
                  have hcz48_3 : wr.cell? ⟨gb204, 3, none⟩ = some (.slice A15 y199.length c15) := (blk_cell BK204.out 3).trans rfl
                  have hfz48_0 := blk_frozen BK204.out 0
                  have hfz48_1 := blk_frozen BK204.out 1
                  have hfz48_2 := blk_frozen BK204.out 2
                  have hfz48_3 := blk_frozen BK204.out 3
                  obtain ⟨Ao49, co49, eo49⟩ := Kd.R_slice HO_205000.out
                  subst eo49
                  have hcz50_0 : wr.cell? ⟨gb198, 0, none⟩ = some (.slice none 0 0) := (blk_cell BK198.out 0).trans rfl
                  have hcz50_1 : wr.cell? ⟨gb198, 1, none⟩ = some (.int .i64 0) := (blk_cell BK198.out 1).trans rfl
                  have hcz50_2 : wr.cell? ⟨gb198, 2, none⟩ = some (.int .i64 0) := (blk_cell BK198.out 2).trans rfl
                  have hcz50_3 : wr.cell? ⟨gb198, 3, none⟩ = some (.slice none 0 0) := (blk_cell BK198.out 3).trans rfl
                  have hfz50_0 := blk_frozen BK198.out 0
                  have hfz50_1 := blk_frozen BK198.out 1
                  have hfz50_2 := blk_frozen BK198.out 2
                  have hfz50_3 := blk_frozen BK198.out 3
                  go_wp2
                  refine bodyPost_ret (results_cell_row rfl _ _ gb198 38 #[.slice Ao49 x205000_1.length co49, .int .i64 (t210.length : Int), .int .i64 (wrap64 ((t210.length : Int) + (t218.length : Int))), .slice A15 y199.length c15] (0, 0) _ rfl (by (with_reducible repeat (first | refine blk_drewN ?_ _ | refine blk_drew ?_ | refine blk_alloc ?_ _)); refine blk_put (cs := #[.slice Ao49 x205000_1.length co49, .int .i64 (t210.length : Int), .int .i64 (wrap64 ((t210.length : Int) + (t218.length : Int))), .slice none 0 0]) ?_ 3 _ rfl; (with_reducible repeat (first | refine blk_drewN ?_ _ | refine blk_drew ?_ | refine blk_alloc ?_ _)); refine blk_put (cs := #[.slice Ao49 x205000_1.length co49, .int .i64 (t210.length : Int), .int .i64 0, .slice none 0 0]) ?_ 2 _ rfl; (with_reducible repeat (first | refine blk_drewN ?_ _ | refine blk_drew ?_ | refine blk_alloc ?_ _)); refine blk_put (cs := #[.slice Ao49 x205000_1.length co49, .int .i64 0, .int .i64 0, .slice none 0 0]) ?_ 1 _ rfl; (with_reducible repeat (first | refine blk_drewN ?_ _ | refine blk_drew ?_ | refine blk_alloc ?_ _)); refine blk_put (cs := #[.slice none 0 0, .int .i64 0, .int .i64 0, .slice none 0 0]) ?_ 0 _ rfl; (with_reducible repeat (first | refine blk_drewN ?_ _ | refine blk_drew ?_ | refine blk_alloc ?_ _)); exact BK198.out) Tryd.underlying38 rfl (by kernel_rfl)) rfl ?_
                  exact ⟨_, _, by first | rfl | (simp [errW_none, errW_some] <;> rfl) | (simp [errW_none, errW_some] <;> (generalize ByteArray.toList _ = l_ <;> cases l_ <;> rfl)) | (simp [*, errW_none, errW_some] <;> rfl), by (with_reducible repeat (first | apply Kd.R_alloc | apply Kd.R_drewN | apply Kd.R_drew)); exact Kd.R_mono (Kd.R_far (p := ⟨gb198, 3, none⟩) (Kd.R_far (p := ⟨gb198, 2, none⟩) (Kd.R_far (p := ⟨gb198, 1, none⟩) (Kd.R_far (p := ⟨gb198, 0, none⟩) (Kd.R_types HO_205000.out BK198.out (by decide)) (fun _ hk => hk.2) (.slice Ao49 x205000_1.length co49)) (fun _ hk => hk.2) (.int .i64 (t210.length : Int))) (fun _ hk => hk.2) (.int .i64 (wrap64 ((t210.length : Int) + (t218.length : Int))))) (fun _ hk => hk.2) (.slice A15 y199.length c15)) (fun _ hk => hk.1), by (with_reducible repeat (first | apply Kd.V_alloc | apply Kd.V_drewN | apply Kd.V_drew)); exact Kd.V_mono (Kd.V_far (p := ⟨gb198, 3, none⟩) (Kd.V_far (p := ⟨gb198, 2, none⟩) (Kd.V_far (p := ⟨gb198, 1, none⟩) (Kd.V_far (p := ⟨gb198, 0, none⟩) (Kd.V_mono HO_205003.out (fun k_ hk => (⟨hk, hk.2.2.1⟩ : _ ∧ k_ ≠ gb198))) (fun _ hk => hk.2) (.slice Ao49 x205000_1.length co49)) (fun _ hk => hk.2) (.int .i64 (t210.length : Int))) (fun _ hk => hk.2) (.int .i64 (wrap64 ((t210.length : Int) + (t218.length : Int))))) (fun _ hk => hk.2) (.slice A15 y199.length c15)) (fun _ hk => ⟨hk.1.1, hk.1.2.1⟩), by repeat (first | (with_reducible first | exact HB.out | apply below_alloc | apply pw_below_drewN | apply below_drew1 | refine below_set ?_ GE198.out | refine below_set ?_ GE204.out) | exact HB.out)⟩
              · rw [if_neg c27] at H
                exact absurd H (by simp)
        · rw [if_neg c8] at H
          exact absurd H (by simp)
      · rw [if_neg c6] at H
        exact absurd H (by simp)
    · rw [if_neg c5] at H
      exact absurd H (by simp)
  · rw [if_neg c4] at H
    exact absurd H (by simp)

end Go.Proofs.YtenfoaajipiehaaDoor.Q
