/- Contracts of the functions named below: each comes to what the Lean function of its name says (for every input; written by a program over the translation). -/
import Derived.Test.YtenfoaajipiehaaDoorQ0
import Derived.Test.YtenfoaajipiehaaDoorR3
namespace Go.Proofs.YtenfoaajipiehaaDoor.Q
open Go.RowKit Go.Proofs.YtenfoaajipiehaaDoorW.PrintWords Go.Proofs.YtenfoaajipiehaaDoorW.PrintLast Go.Proofs.YtenfoaajipiehaaDoorW.PrintMore
attribute [local go_sem] max2_int min2_int max_two min_two max_three min_three max_four min_four   -- for this text's walks alone
set_option linter.unusedVariables false
set_option linter.unusedSimpArgs false
/-! ### sennitref21_may: function 32 -/
def sennitref21_may.l0 : Nat → Int → Bool → Bool → Int → ByteArray → ByteArray → Option (Bool)
  | 0, _, _, _, _, _, _ => none
  | k + 1, x1, x5, x6, x7, x141000, x141001 => if x7 < (x141000.size : Int) then (if 0 ≤ x7 then (if x5 = true then (if x6 = true then (if (bt x141000 x7) = 32 then (sennitref21_may.l0 k x1 true true (wrap64 (x7 + 1)) x141000 x141001) else (if (bt x141000 x7) = 43 then (sennitref21_may.l0 k x1 true true (wrap64 (x7 + 1)) x141000 x141001) else (if (bt x141000 x7) = 45 then (sennitref21_may.l0 k x1 true true (wrap64 (x7 + 1)) x141000 x141001) else (some false)))) else (if (bt x141000 x7) = 32 then (sennitref21_may.l0 k x1 true ((bt x141000 x7) == 45) (wrap64 (x7 + 1)) x141000 x141001) else (if (bt x141000 x7) = 43 then (sennitref21_may.l0 k x1 true ((bt x141000 x7) == 45) (wrap64 (x7 + 1)) x141000 x141001) else (if (bt x141000 x7) = 45 then (sennitref21_may.l0 k x1 true ((bt x141000 x7) == 45) (wrap64 (x7 + 1)) x141000 x141001) else (some false))))) else (if x6 = true then (if (bt x141000 x7) = 32 then (sennitref21_may.l0 k x1 ((bt x141000 x7) == 43) true (wrap64 (x7 + 1)) x141000 x141001) else (if (bt x141000 x7) = 43 then (sennitref21_may.l0 k x1 ((bt x141000 x7) == 43) true (wrap64 (x7 + 1)) x141000 x141001) else (if (bt x141000 x7) = 45 then (sennitref21_may.l0 k x1 ((bt x141000 x7) == 43) true (wrap64 (x7 + 1)) x141000 x141001) else (some false)))) else (if (bt x141000 x7) = 32 then (sennitref21_may.l0 k x1 ((bt x141000 x7) == 43) ((bt x141000 x7) == 45) (wrap64 (x7 + 1)) x141000 x141001) else (if (bt x141000 x7) = 43 then (sennitref21_may.l0 k x1 ((bt x141000 x7) == 43) ((bt x141000 x7) == 45) (wrap64 (x7 + 1)) x141000 x141001) else (if (bt x141000 x7) = 45 then (sennitref21_may.l0 k x1 ((bt x141000 x7) == 43) ((bt x141000 x7) == 45) (wrap64 (x7 + 1)) x141000 x141001) else (some false)))))) else (none)) else (if (x141000.size : Int) = x1 then (if x5 = true then (if x6 = true then (some false) else ((sennitref01_May.f k (([x141001] : List ByteArray))).bind fun t144 => (some t144))) else ((sennitref01_May.f k (([x141001] : List ByteArray))).bind fun t148 => (some t148))) else (some false))
def sennitref21_may.f (k : Nat) (a0_0 : ByteArray) (a0_1 : ByteArray) (a1 : Int) : Option (Bool) := sennitref21_may.l0 k a1 false false 0 a0_0 a0_1
theorem sennitref21_may.mono_l : ∀ k, (∀ y0 y1 y2 y3 y4 y5, LeO (sennitref21_may.l0 k y0 y1 y2 y3 y4 y5) (sennitref21_may.l0 (k + 1) y0 y1 y2 y3 y4 y5))
  | 0 => fun _ _ _ _ _ _ r h => by simp [sennitref21_may.l0] at h
  | k + 1 => by
    have ih0 := sennitref21_may.mono_l k
    · intro y0 y1 y2 y3 y4 y5
      unfold sennitref21_may.l0
      repeat' first
      | (with_reducible exact ih0 _ _ _ _ _ _)
      | (with_reducible exact sennitref01_May.mono _ _)
      | (with_reducible exact LeO.refl _)
      | (with_reducible exact LeO.none _)
      | (with_reducible refine LeO.ite ?_ ?_)
      | (with_reducible refine LeO.bind ?_ (fun _ => ?_))
      | exact ih0 _ _ _ _ _ _
      | exact sennitref01_May.mono _ _
      | exact LeO.none _
      | refine LeO.ite ?_ ?_
      | refine LeO.bind ?_ (fun _ => ?_)
theorem sennitref21_may.mono : ∀ a0 a1 a2 k, LeO (sennitref21_may.f k a0 a1 a2) (sennitref21_may.f (k + 1) a0 a1 a2) := by
  intro a0 a1 a2 k
  have ih0 := sennitref21_may.mono_l k
  unfold sennitref21_may.f
  repeat' first
      | (with_reducible exact ih0 _ _ _ _ _ _)
      | (with_reducible exact sennitref01_May.mono _ _)
      | (with_reducible exact LeO.refl _)
      | (with_reducible exact LeO.none _)
      | (with_reducible refine LeO.ite ?_ ?_)
      | (with_reducible refine LeO.bind ?_ (fun _ => ?_))
      | exact ih0 _ _ _ _ _ _
      | exact sennitref01_May.mono _ _
      | exact LeO.none _
      | refine LeO.ite ?_ ?_
      | refine LeO.bind ?_ (fun _ => ?_)
set_option maxHeartbeats 8000000 in
set_option maxRecDepth 100000 in
theorem sennitref21_may.calls (k : Nat) (a0_0 : ByteArray) (a0_1 : ByteArray) (a1 : Int) (r : Bool) (w : World) (h : sennitref21_may.f k a0_0 a0_1 a1 = some r) :
    Calls Tryd.prog 32 #[.agg #[.string a0_0, .string a0_1], .int .i64 a1] w fun e w' => e = .returned (.bool r) ∧ Below w.heap.size w w' := by
  have hu41 := Tryd.underlying41
  have HB := Aside0.mk (Below.refl w.heap.size w)
  have H : (sennitref21_may.l0 k a1 false false 0 a0_0 a0_1) = some r := h
  clear h
  have H' := Aside0.mk H
  clear H
  go_enter Tryd.func32, Tryd.ntmps32
  go_wp2_with (first | ((with_reducible refine gate_dst (N := 2) rfl ?_); (try (refine gate_guard (by rfl) ?_; dsimp only)); refine box_event ?hg (N := 2) ?hd (cs := #[.string a0_0, .string a0_1]) (t := 41) ?hr ?_; (case hd => rfl); (case hg => rfl); (case hr => first | (go_simp; done) | (go_simp; rfl)); intro gb140 hg w3 hbox hb; have n0_ := Aside0.mk (below_step (by repeat (first | (with_reducible first | exact HB.out | apply below_alloc | apply pw_below_drewN | apply below_drew1) | exact HB.out)) hb); have n1_ := Aside0.mk (hbox); have n2_ := Aside0.mk ((by rw [hg]; exact (below_size (by repeat (first | (with_reducible first | exact HB.out | apply below_alloc | apply pw_below_drewN | apply below_drew1) | exact HB.out))) : w.heap.size ≤ gb140)); have n3_ := Aside0.mk ((by rw [hg]; exact (below_size (by repeat (first | (with_reducible first | exact HB.out | apply below_alloc | apply pw_below_drewN | apply below_drew1) | exact HB.out))) : w.heap.size ≤ gb140)); clear HB; have HB := n0_; have BK140 := n1_; have GW140 := n2_; have GE140 := n3_; clear n0_ n1_ n2_ n3_; clear hb hbox hg))
  go_loopg [5, 6, 7] k (fun kq v5 v6 v7 w' => ∃ (x5_1 : Bool) (x6_1 : Bool) (x7_1 : Int), v5 = .bool x5_1 ∧ v6 = .bool x6_1 ∧ v7 = .int .i64 x7_1 ∧ Aside0 (sennitref21_may.l0 kq a1 x5_1 x6_1 x7_1 a0_0 a0_1 = some r) ∧ Aside0 (kq ≤ k) ∧ Aside0 (w'.heap[gb140]? = some (.cells #[.string a0_0, .string a0_1] 41 (0, 0))) ∧ Aside0 (Below w.heap.size w w'))
  case atStart => exact ⟨(false), (false), (0), (by first | rfl | (simp; done) | (simp [*]; done)), (by first | rfl | (simp; done) | (simp [*]; done)), (by first | rfl | (simp; done) | (simp [*]; done)), H', ⟨Nat.le_refl _⟩, ⟨by (with_reducible repeat (first | refine blk_drewN ?_ _ | refine blk_drew ?_ | refine blk_alloc ?_ _)); exact BK140.out⟩, ⟨by repeat (first | (with_reducible first | exact HB.out | apply below_alloc | apply pw_below_drewN | apply below_drew1 | refine below_set ?_ GE140.out) | exact HB.out)⟩⟩
  case round =>
    clear H'
    try clear p2
    try clear c3
    obtain ⟨x5_1, x6_1, x7_1, rfl, rfl, rfl, HA, HK1, BK140, HB⟩ := hrel
    cases gk with
    | zero => exact absurd HA.out (by simp [sennitref21_may.l0])
    | succ k1 =>
      have H := HA.out
      clear HA
      simp only [sennitref21_may.l0] at H
      by_cases c4 : x7_1 < (a0_0.size : Int)
      · rw [if_pos c4] at H
        have c4b0 : decide (x7_1 < (a0_0.size : Int)) = true := decide_eq_true c4
        clear c4
        by_cases c5 : 0 ≤ x7_1
        · rw [if_pos c5] at H
          have c5b0 : decide (0 ≤ x7_1) = true := decide_eq_true c5
          clear c5
          by_cases c7 : x5_1 = true
          · subst c7
            have H1 : (if x6_1 = true then (if (bt a0_0 x7_1) = 32 then (sennitref21_may.l0 k1 a1 true true (wrap64 (x7_1 + 1)) a0_0 a0_1) else (if (bt a0_0 x7_1) = 43 then (sennitref21_may.l0 k1 a1 true true (wrap64 (x7_1 + 1)) a0_0 a0_1) else (if (bt a0_0 x7_1) = 45 then (sennitref21_may.l0 k1 a1 true true (wrap64 (x7_1 + 1)) a0_0 a0_1) else (some false)))) else (if (bt a0_0 x7_1) = 32 then (sennitref21_may.l0 k1 a1 true ((bt a0_0 x7_1) == 45) (wrap64 (x7_1 + 1)) a0_0 a0_1) else (if (bt a0_0 x7_1) = 43 then (sennitref21_may.l0 k1 a1 true ((bt a0_0 x7_1) == 45) (wrap64 (x7_1 + 1)) a0_0 a0_1) else (if (bt a0_0 x7_1) = 45 then (sennitref21_may.l0 k1 a1 true ((bt a0_0 x7_1) == 45) (wrap64 (x7_1 + 1)) a0_0 a0_1) else (some false))))) = some r := by rw [if_pos rfl] at H; exact H
            clear H
            have H := H1
            clear H1
            by_cases c8 : x6_1 = true
            · subst c8
              have H1 : (if (bt a0_0 x7_1) = 32 then (sennitref21_may.l0 k1 a1 true true (wrap64 (x7_1 + 1)) a0_0 a0_1) else (if (bt a0_0 x7_1) = 43 then (sennitref21_may.l0 k1 a1 true true (wrap64 (x7_1 + 1)) a0_0 a0_1) else (if (bt a0_0 x7_1) = 45 then (sennitref21_may.l0 k1 a1 true true (wrap64 (x7_1 + 1)) a0_0 a0_1) else (some false)))) = some r := by rw [if_pos rfl] at H; exact H
              clear H
              have H := H1
              clear H1
              by_cases c9 : (bt a0_0 x7_1) = 32
              · rw [if_pos c9] at H
                have c9b0 : ((bt a0_0 x7_1) == 32) = true := beq_iff_eq.mpr c9
                have c9b1 : ((bt a0_0 x7_1) != 32) = false := bne_eq_false_iff_eq.mpr c9
                clear c9
                have H' := Aside0.mk H
                clear H
                have hcz10_0 : wr.cell? ⟨gb140, 0, none⟩ = some (.string a0_0) := (blk_cell BK140.out 0).trans rfl
                have hcz10_1 : wr.cell? ⟨gb140, 1, none⟩ = some (.string a0_1) := (blk_cell BK140.out 1).trans rfl
                have hfz10_0 := blk_frozen BK140.out 0
                have hfz10_1 := blk_frozen BK140.out 1
                have p6 : 0 ≤ (x7_1 : Int) := of_decide_eq_true (by first | (with_reducible assumption) | assumption)
                have q6 : x7_1 < (a0_0.size : Int) := of_decide_eq_true (by first | (with_reducible assumption) | assumption)
                have hx6 := bt_at a0_0 x7_1
                replace p6 := eq_true p6
                replace q6 := eq_true q6
                go_wp2
                go_roundg k1
                case measure => have := HK1.out; omega
                case rel => exact ⟨(true), (true), (wrap64 (x7_1 + 1)), (by first | rfl | (simp; done) | (simp [*]; done)), (by first | rfl | (simp; done) | (simp [*]; done)), (by first | rfl | (simp; done) | (simp [*]; done)), H', ⟨by have := HK1.out; omega⟩, ⟨by (with_reducible repeat (first | refine blk_drewN ?_ _ | refine blk_drew ?_ | refine blk_alloc ?_ _)); exact BK140.out⟩, ⟨by repeat (first | (with_reducible first | exact HB.out | apply below_alloc | apply pw_below_drewN | apply below_drew1 | refine below_set ?_ GE140.out) | exact HB.out)⟩⟩
              · rw [if_neg c9] at H
                have c9b0 : ((bt a0_0 x7_1) == 32) = false := beq_eq_false_iff_ne.mpr c9
                have c9b1 : ((bt a0_0 x7_1) != 32) = true := bne_iff_ne.mpr c9
                by_cases c11 : (bt a0_0 x7_1) = 43
                · rw [if_pos c11] at H
                  have c11b0 : ((bt a0_0 x7_1) == 43) = true := beq_iff_eq.mpr c11
                  have c11b1 : ((bt a0_0 x7_1) != 43) = false := bne_eq_false_iff_eq.mpr c11
                  clear c11
                  have H' := Aside0.mk H
                  clear H
                  have hcz12_0 : wr.cell? ⟨gb140, 0, none⟩ = some (.string a0_0) := (blk_cell BK140.out 0).trans rfl
                  have hcz12_1 : wr.cell? ⟨gb140, 1, none⟩ = some (.string a0_1) := (blk_cell BK140.out 1).trans rfl
                  have hfz12_0 := blk_frozen BK140.out 0
                  have hfz12_1 := blk_frozen BK140.out 1
                  have p6 : 0 ≤ (x7_1 : Int) := of_decide_eq_true (by first | (with_reducible assumption) | assumption)
                  have q6 : x7_1 < (a0_0.size : Int) := of_decide_eq_true (by first | (with_reducible assumption) | assumption)
                  have hx6 := bt_at a0_0 x7_1
                  replace p6 := eq_true p6
                  replace q6 := eq_true q6
                  go_wp2
                  go_roundg k1
                  case measure => have := HK1.out; omega
                  case rel => exact ⟨(true), (true), (wrap64 (x7_1 + 1)), (by first | rfl | (simp; done) | (simp [*]; done)), (by first | rfl | (simp; done) | (simp [*]; done)), (by first | rfl | (simp; done) | (simp [*]; done)), H', ⟨by have := HK1.out; omega⟩, ⟨by (with_reducible repeat (first | refine blk_drewN ?_ _ | refine blk_drew ?_ | refine blk_alloc ?_ _)); exact BK140.out⟩, ⟨by repeat (first | (with_reducible first | exact HB.out | apply below_alloc | apply pw_below_drewN | apply below_drew1 | refine below_set ?_ GE140.out) | exact HB.out)⟩⟩
                · rw [if_neg c11] at H
                  have c11b0 : ((bt a0_0 x7_1) == 43) = false := beq_eq_false_iff_ne.mpr c11
                  have c11b1 : ((bt a0_0 x7_1) != 43) = true := bne_iff_ne.mpr c11
                  by_cases c13 : (bt a0_0 x7_1) = 45
                  · rw [if_pos c13] at H
                    have c13b0 : ((bt a0_0 x7_1) == 45) = true := beq_iff_eq.mpr c13
                    have c13b1 : ((bt a0_0 x7_1) != 45) = false := bne_eq_false_iff_eq.mpr c13
                    clear c13
                    have H' := Aside0.mk H
                    clear H
                    have hcz14_0 : wr.cell? ⟨gb140, 0, none⟩ = some (.string a0_0) := (blk_cell BK140.out 0).trans rfl
                    have hcz14_1 : wr.cell? ⟨gb140, 1, none⟩ = some (.string a0_1) := (blk_cell BK140.out 1).trans rfl
                    have hfz14_0 := blk_frozen BK140.out 0
                    have hfz14_1 := blk_frozen BK140.out 1
                    have p6 : 0 ≤ (x7_1 : Int) := of_decide_eq_true (by first | (with_reducible assumption) | assumption)
                    have q6 : x7_1 < (a0_0.size : Int) := of_decide_eq_true (by first | (with_reducible assumption) | assumption)
                    have hx6 := bt_at a0_0 x7_1
                    replace p6 := eq_true p6
                    replace q6 := eq_true q6
                    go_wp2
                    go_roundg k1
                    case measure => have := HK1.out; omega
                    case rel => exact ⟨(true), (true), (wrap64 (x7_1 + 1)), (by first | rfl | (simp; done) | (simp [*]; done)), (by first | rfl | (simp; done) | (simp [*]; done)), (by first | rfl | (simp; done) | (simp [*]; done)), H', ⟨by have := HK1.out; omega⟩, ⟨by (with_reducible repeat (first | refine blk_drewN ?_ _ | refine blk_drew ?_ | refine blk_alloc ?_ _)); exact BK140.out⟩, ⟨by repeat (first | (with_reducible first | exact HB.out | apply below_alloc | apply pw_below_drewN | apply below_drew1 | refine below_set ?_ GE140.out) | exact HB.out)⟩⟩
                  · rw [if_neg c13] at H
                    have c13b0 : ((bt a0_0 x7_1) == 45) = false := beq_eq_false_iff_ne.mpr c13
                    have c13b1 : ((bt a0_0 x7_1) != 45) = true := bne_iff_ne.mpr c13
                    obtain rfl := Option.some.inj H
                    have hcz15_0 : wr.cell? ⟨gb140, 0, none⟩ = some (.string a0_0) := (blk_cell BK140.out 0).trans rfl
                    have hcz15_1 : wr.cell? ⟨gb140, 1, none⟩ = some (.string a0_1) := (blk_cell BK140.out 1).trans rfl
                    have hfz15_0 := blk_frozen BK140.out 0
                    have hfz15_1 := blk_frozen BK140.out 1
                    have p6 : 0 ≤ (x7_1 : Int) := of_decide_eq_true (by first | (with_reducible assumption) | assumption)
                    have q6 : x7_1 < (a0_0.size : Int) := of_decide_eq_true (by first | (with_reducible assumption) | assumption)
                    have hx6 := bt_at a0_0 x7_1
                    replace p6 := eq_true p6
                    replace q6 := eq_true q6
                    go_wp2
                    go_ret
                    exact ⟨by first | rfl | (simp [errW_none, errW_some] <;> rfl) | (simp [errW_none, errW_some] <;> (generalize ByteArray.toList _ = l_ <;> cases l_ <;> rfl)) | (simp [*, errW_none, errW_some] <;> rfl), by repeat (first | (with_reducible first | exact HB.out | apply below_alloc | apply pw_below_drewN | apply below_drew1 | refine below_set ?_ GE140.out) | exact HB.out)⟩
            · replace c8 := Bool.eq_false_iff.mpr c8
              subst c8
              have H1 : (if (bt a0_0 x7_1) = 32 then (sennitref21_may.l0 k1 a1 true ((bt a0_0 x7_1) == 45) (wrap64 (x7_1 + 1)) a0_0 a0_1) else (if (bt a0_0 x7_1) = 43 then (sennitref21_may.l0 k1 a1 true ((bt a0_0 x7_1) == 45) (wrap64 (x7_1 + 1)) a0_0 a0_1) else (if (bt a0_0 x7_1) = 45 then (sennitref21_may.l0 k1 a1 true ((bt a0_0 x7_1) == 45) (wrap64 (x7_1 + 1)) a0_0 a0_1) else (some false)))) = some r := by rw [if_neg (show ¬ (false = true) by decide)] at H; exact H
              clear H
              have H := H1
              clear H1
              by_cases c16 : (bt a0_0 x7_1) = 32
              · rw [if_pos c16] at H
                have c16b0 : ((bt a0_0 x7_1) == 32) = true := beq_iff_eq.mpr c16
                have c16b1 : ((bt a0_0 x7_1) != 32) = false := bne_eq_false_iff_eq.mpr c16
                clear c16
                have H' := Aside0.mk H
                clear H
                have hcz17_0 : wr.cell? ⟨gb140, 0, none⟩ = some (.string a0_0) := (blk_cell BK140.out 0).trans rfl
                have hcz17_1 : wr.cell? ⟨gb140, 1, none⟩ = some (.string a0_1) := (blk_cell BK140.out 1).trans rfl
                have hfz17_0 := blk_frozen BK140.out 0
                have hfz17_1 := blk_frozen BK140.out 1
                have p6 : 0 ≤ (x7_1 : Int) := of_decide_eq_true (by first | (with_reducible assumption) | assumption)
                have q6 : x7_1 < (a0_0.size : Int) := of_decide_eq_true (by first | (with_reducible assumption) | assumption)
                have hx6 := bt_at a0_0 x7_1
                replace p6 := eq_true p6
                replace q6 := eq_true q6
                go_wp2
                go_roundg k1
                case measure => have := HK1.out; omega
                case rel => exact ⟨(true), (((bt a0_0 x7_1) == 45)), (wrap64 (x7_1 + 1)), (by first | rfl | (simp; done) | (simp [*]; done)), (by first | rfl | (simp; done) | (simp [*]; done)), (by first | rfl | (simp; done) | (simp [*]; done)), H', ⟨by have := HK1.out; omega⟩, ⟨by (with_reducible repeat (first | refine blk_drewN ?_ _ | refine blk_drew ?_ | refine blk_alloc ?_ _)); exact BK140.out⟩, ⟨by repeat (first | (with_reducible first | exact HB.out | apply below_alloc | apply pw_below_drewN | apply below_drew1 | refine below_set ?_ GE140.out) | exact HB.out)⟩⟩
              · rw [if_neg c16] at H
                have c16b0 : ((bt a0_0 x7_1) == 32) = false := beq_eq_false_iff_ne.mpr c16
                have c16b1 : ((bt a0_0 x7_1) != 32) = true := bne_iff_ne.mpr c16
                by_cases c18 : (bt a0_0 x7_1) = 43
                · rw [if_pos c18] at H
                  have c18b0 : ((bt a0_0 x7_1) == 43) = true := beq_iff_eq.mpr c18
                  have c18b1 : ((bt a0_0 x7_1) != 43) = false := bne_eq_false_iff_eq.mpr c18
                  clear c18
                  have H' := Aside0.mk H
                  clear H
                  have hcz19_0 : wr.cell? ⟨gb140, 0, none⟩ = some (.string a0_0) := (blk_cell BK140.out 0).trans rfl
                  have hcz19_1 : wr.cell? ⟨gb140, 1, none⟩ = some (.string a0_1) := (blk_cell BK140.out 1).trans rfl
                  have hfz19_0 := blk_frozen BK140.out 0
                  have hfz19_1 := blk_frozen BK140.out 1
                  have p6 : 0 ≤ (x7_1 : Int) := of_decide_eq_true (by first | (with_reducible assumption) | assumption)
                  have q6 : x7_1 < (a0_0.size : Int) := of_decide_eq_true (by first | (with_reducible assumption) | assumption)
                  have hx6 := bt_at a0_0 x7_1
                  replace p6 := eq_true p6
                  replace q6 := eq_true q6
                  go_wp2
                  go_roundg k1
                  case measure => have := HK1.out; omega
                  case rel => exact ⟨(true), (((bt a0_0 x7_1) == 45)), (wrap64 (x7_1 + 1)), (by first | rfl | (simp; done) | (simp [*]; done)), (by first | rfl | (simp; done) | (simp [*]; done)), (by first | rfl | (simp; done) | (simp [*]; done)), H', ⟨by have := HK1.out; omega⟩, ⟨by (with_reducible repeat (first | refine blk_drewN ?_ _ | refine blk_drew ?_ | refine blk_alloc ?_ _)); exact BK140.out⟩, ⟨by repeat (first | (with_reducible first | exact HB.out | apply below_alloc | apply pw_below_drewN | apply below_drew1 | refine below_set ?_ GE140.out) | exact HB.out)⟩⟩
                · rw [if_neg c18] at H
                  have c18b0 : ((bt a0_0 x7_1) == 43) = false := beq_eq_false_iff_ne.mpr c18
                  have c18b1 : ((bt a0_0 x7_1) != 43) = true := bne_iff_ne.mpr c18
                  by_cases c20 : (bt a0_0 x7_1) = 45
                  · rw [if_pos c20] at H
                    have c20b0 : ((bt a0_0 x7_1) == 45) = true := beq_iff_eq.mpr c20
                    have c20b1 : ((bt a0_0 x7_1) != 45) = false := bne_eq_false_iff_eq.mpr c20
                    clear c20
                    have H' := Aside0.mk H
                    clear H
                    have hcz21_0 : wr.cell? ⟨gb140, 0, none⟩ = some (.string a0_0) := (blk_cell BK140.out 0).trans rfl
                    have hcz21_1 : wr.cell? ⟨gb140, 1, none⟩ = some (.string a0_1) := (blk_cell BK140.out 1).trans rfl
                    have hfz21_0 := blk_frozen BK140.out 0
                    have hfz21_1 := blk_frozen BK140.out 1
                    have p6 : 0 ≤ (x7_1 : Int) := of_decide_eq_true (by first | (with_reducible assumption) | assumption)
                    have q6 : x7_1 < (a0_0.size : Int) := of_decide_eq_true (by first | (with_reducible assumption) | assumption)
                    have hx6 := bt_at a0_0 x7_1
                    replace p6 := eq_true p6
                    replace q6 := eq_true q6
                    go_wp2
                    go_roundg k1
                    case measure => have := HK1.out; omega
                    case rel => exact ⟨(true), (((bt a0_0 x7_1) == 45)), (wrap64 (x7_1 + 1)), (by first | rfl | (simp; done) | (simp [*]; done)), (by first | rfl | (simp; done) | (simp [*]; done)), (by first | rfl | (simp; done) | (simp [*]; done)), H', ⟨by have := HK1.out; omega⟩, ⟨by (with_reducible repeat (first | refine blk_drewN ?_ _ | refine blk_drew ?_ | refine blk_alloc ?_ _)); exact BK140.out⟩, ⟨by repeat (first | (with_reducible first | exact HB.out | apply below_alloc | apply pw_below_drewN | apply below_drew1 | refine below_set ?_ GE140.out) | exact HB.out)⟩⟩
                  · rw [if_neg c20] at H
                    have c20b0 : ((bt a0_0 x7_1) == 45) = false := beq_eq_false_iff_ne.mpr c20
                    have c20b1 : ((bt a0_0 x7_1) != 45) = true := bne_iff_ne.mpr c20
                    obtain rfl := Option.some.inj H
                    have hcz22_0 : wr.cell? ⟨gb140, 0, none⟩ = some (.string a0_0) := (blk_cell BK140.out 0).trans rfl
                    have hcz22_1 : wr.cell? ⟨gb140, 1, none⟩ = some (.string a0_1) := (blk_cell BK140.out 1).trans rfl
                    have hfz22_0 := blk_frozen BK140.out 0
                    have hfz22_1 := blk_frozen BK140.out 1
                    have p6 : 0 ≤ (x7_1 : Int) := of_decide_eq_true (by first | (with_reducible assumption) | assumption)
                    have q6 : x7_1 < (a0_0.size : Int) := of_decide_eq_true (by first | (with_reducible assumption) | assumption)
                    have hx6 := bt_at a0_0 x7_1
                    replace p6 := eq_true p6
                    replace q6 := eq_true q6
                    go_wp2
                    go_ret
                    exact ⟨by first | rfl | (simp [errW_none, errW_some] <;> rfl) | (simp [errW_none, errW_some] <;> (generalize ByteArray.toList _ = l_ <;> cases l_ <;> rfl)) | (simp [*, errW_none, errW_some] <;> rfl), by repeat (first | (with_reducible first | exact HB.out | apply below_alloc | apply pw_below_drewN | apply below_drew1 | refine below_set ?_ GE140.out) | exact HB.out)⟩
          · replace c7 := Bool.eq_false_iff.mpr c7
            subst c7
            have H1 : (if x6_1 = true then (if (bt a0_0 x7_1) = 32 then (sennitref21_may.l0 k1 a1 ((bt a0_0 x7_1) == 43) true (wrap64 (x7_1 + 1)) a0_0 a0_1) else (if (bt a0_0 x7_1) = 43 then (sennitref21_may.l0 k1 a1 ((bt a0_0 x7_1) == 43) true (wrap64 (x7_1 + 1)) a0_0 a0_1) else (if (bt a0_0 x7_1) = 45 then (sennitref21_may.l0 k1 a1 ((bt a0_0 x7_1) == 43) true (wrap64 (x7_1 + 1)) a0_0 a0_1) else (some false)))) else (if (bt a0_0 x7_1) = 32 then (sennitref21_may.l0 k1 a1 ((bt a0_0 x7_1) == 43) ((bt a0_0 x7_1) == 45) (wrap64 (x7_1 + 1)) a0_0 a0_1) else (if (bt a0_0 x7_1) = 43 then (sennitref21_may.l0 k1 a1 ((bt a0_0 x7_1) == 43) ((bt a0_0 x7_1) == 45) (wrap64 (x7_1 + 1)) a0_0 a0_1) else (if (bt a0_0 x7_1) = 45 then (sennitref21_may.l0 k1 a1 ((bt a0_0 x7_1) == 43) ((bt a0_0 x7_1) == 45) (wrap64 (x7_1 + 1)) a0_0 a0_1) else (some false))))) = some r := by rw [if_neg (show ¬ (false = true) by decide)] at H; exact H
            clear H
            have H := H1
            clear H1
            by_cases c23 : x6_1 = true
            · subst c23
              have H1 : (if (bt a0_0 x7_1) = 32 then (sennitref21_may.l0 k1 a1 ((bt a0_0 x7_1) == 43) true (wrap64 (x7_1 + 1)) a0_0 a0_1) else (if (bt a0_0 x7_1) = 43 then (sennitref21_may.l0 k1 a1 ((bt a0_0 x7_1) == 43) true (wrap64 (x7_1 + 1)) a0_0 a0_1) else (if (bt a0_0 x7_1) = 45 then (sennitref21_may.l0 k1 a1 ((bt a0_0 x7_1) == 43) true (wrap64 (x7_1 + 1)) a0_0 a0_1) else (some false)))) = some r := by rw [if_pos rfl] at H; exact H
              clear H
              have H := H1
              clear H1
              by_cases c24 : (bt a0_0 x7_1) = 32
              · rw [if_pos c24] at H
                have c24b0 : ((bt a0_0 x7_1) == 32) = true := beq_iff_eq.mpr c24
                have c24b1 : ((bt a0_0 x7_1) != 32) = false := bne_eq_false_iff_eq.mpr c24
                clear c24
                have H' := Aside0.mk H
                clear H
                have hcz25_0 : wr.cell? ⟨gb140, 0, none⟩ = some (.string a0_0) := (blk_cell BK140.out 0).trans rfl
                have hcz25_1 : wr.cell? ⟨gb140, 1, none⟩ = some (.string a0_1) := (blk_cell BK140.out 1).trans rfl
                have hfz25_0 := blk_frozen BK140.out 0
                have hfz25_1 := blk_frozen BK140.out 1
                have p6 : 0 ≤ (x7_1 : Int) := of_decide_eq_true (by first | (with_reducible assumption) | assumption)
                have q6 : x7_1 < (a0_0.size : Int) := of_decide_eq_true (by first | (with_reducible assumption) | assumption)
                have hx6 := bt_at a0_0 x7_1
                replace p6 := eq_true p6
                replace q6 := eq_true q6
                go_wp2
                go_roundg k1
                case measure => have := HK1.out; omega
                case rel => exact ⟨(((bt a0_0 x7_1) == 43)), (true), (wrap64 (x7_1 + 1)), (by first | rfl | (simp; done) | (simp [*]; done)), (by first | rfl | (simp; done) | (simp [*]; done)), (by first | rfl | (simp; done) | (simp [*]; done)), H', ⟨by have := HK1.out; omega⟩, ⟨by (with_reducible repeat (first | refine blk_drewN ?_ _ | refine blk_drew ?_ | refine blk_alloc ?_ _)); exact BK140.out⟩, ⟨by repeat (first | (with_reducible first | exact HB.out | apply below_alloc | apply pw_below_drewN | apply below_drew1 | refine below_set ?_ GE140.out) | exact HB.out)⟩⟩
              · rw [if_neg c24] at H
                have c24b0 : ((bt a0_0 x7_1) == 32) = false := beq_eq_false_iff_ne.mpr c24
                have c24b1 : ((bt a0_0 x7_1) != 32) = true := bne_iff_ne.mpr c24
                by_cases c26 : (bt a0_0 x7_1) = 43
                · rw [if_pos c26] at H
                  have c26b0 : ((bt a0_0 x7_1) == 43) = true := beq_iff_eq.mpr c26
                  have c26b1 : ((bt a0_0 x7_1) != 43) = false := bne_eq_false_iff_eq.mpr c26
                  clear c26
                  have H' := Aside0.mk H
                  clear H
                  have hcz27_0 : wr.cell? ⟨gb140, 0, none⟩ = some (.string a0_0) := (blk_cell BK140.out 0).trans rfl
                  have hcz27_1 : wr.cell? ⟨gb140, 1, none⟩ = some (.string a0_1) := (blk_cell BK140.out 1).trans rfl
                  have hfz27_0 := blk_frozen BK140.out 0
                  have hfz27_1 := blk_frozen BK140.out 1
                  have p6 : 0 ≤ (x7_1 : Int) := of_decide_eq_true (by first | (with_reducible assumption) | assumption)
                  have q6 : x7_1 < (a0_0.size : Int) := of_decide_eq_true (by first | (with_reducible assumption) | assumption)
                  have hx6 := bt_at a0_0 x7_1
                  replace p6 := eq_true p6
                  replace q6 := eq_true q6
                  go_wp2
                  go_roundg k1
                  case measure => have := HK1.out; omega
                  case rel => exact ⟨(((bt a0_0 x7_1) == 43)), (true), (wrap64 (x7_1 + 1)), (by first | rfl | (simp; done) | (simp [*]; done)), (by first | rfl | (simp; done) | (simp [*]; done)), (by first | rfl | (simp; done) | (simp [*]; done)), H', ⟨by have := HK1.out; omega⟩, ⟨by (with_reducible repeat (first | refine blk_drewN ?_ _ | refine blk_drew ?_ | refine blk_alloc ?_ _)); exact BK140.out⟩, ⟨by repeat (first | (with_reducible first | exact HB.out | apply below_alloc | apply pw_below_drewN | apply below_drew1 | refine below_set ?_ GE140.out) | exact HB.out)⟩⟩
                · rw [if_neg c26] at H
                  have c26b0 : ((bt a0_0 x7_1) == 43) = false := beq_eq_false_iff_ne.mpr c26
                  have c26b1 : ((bt a0_0 x7_1) != 43) = true := bne_iff_ne.mpr c26
                  by_cases c28 : (bt a0_0 x7_1) = 45
                  · rw [if_pos c28] at H
                    have c28b0 : ((bt a0_0 x7_1) == 45) = true := beq_iff_eq.mpr c28
                    have c28b1 : ((bt a0_0 x7_1) != 45) = false := bne_eq_false_iff_eq.mpr c28
                    clear c28
                    have H' := Aside0.mk H
                    clear H
                    have hcz29_0 : wr.cell? ⟨gb140, 0, none⟩ = some (.string a0_0) := (blk_cell BK140.out 0).trans rfl
                    have hcz29_1 : wr.cell? ⟨gb140, 1, none⟩ = some (.string a0_1) := (blk_cell BK140.out 1).trans rfl
                    have hfz29_0 := blk_frozen BK140.out 0
                    have hfz29_1 := blk_frozen BK140.out 1
                    have p6 : 0 ≤ (x7_1 : Int) := of_decide_eq_true (by first | (with_reducible assumption) | assumption)
                    have q6 : x7_1 < (a0_0.size : Int) := of_decide_eq_true (by first | (with_reducible assumption) | assumption)
                    have hx6 := bt_at a0_0 x7_1
                    replace p6 := eq_true p6
                    replace q6 := eq_true q6
                    go_wp2
                    go_roundg k1
                    case measure => have := HK1.out; omega
                    case rel => exact ⟨(((bt a0_0 x7_1) == 43)), (true), (wrap64 (x7_1 + 1)), (by first | rfl | (simp; done) | (simp [*]; done)), (by first | rfl | (simp; done) | (simp [*]; done)), (by first | rfl | (simp; done) | (simp [*]; done)), H', ⟨by have := HK1.out; omega⟩, ⟨by (with_reducible repeat (first | refine blk_drewN ?_ _ | refine blk_drew ?_ | refine blk_alloc ?_ _)); exact BK140.out⟩, ⟨by repeat (first | (with_reducible first | exact HB.out | apply below_alloc | apply pw_below_drewN | apply below_drew1 | refine below_set ?_ GE140.out) | exact HB.out)⟩⟩
                  · rw [if_neg c28] at H
                    have c28b0 : ((bt a0_0 x7_1) == 45) = false := beq_eq_false_iff_ne.mpr c28
                    have c28b1 : ((bt a0_0 x7_1) != 45) = true := bne_iff_ne.mpr c28
                    obtain rfl := Option.some.inj H
                    have hcz30_0 : wr.cell? ⟨gb140, 0, none⟩ = some (.string a0_0) := (blk_cell BK140.out 0).trans rfl
                    have hcz30_1 : wr.cell? ⟨gb140, 1, none⟩ = some (.string a0_1) := (blk_cell BK140.out 1).trans rfl
                    have hfz30_0 := blk_frozen BK140.out 0
                    have hfz30_1 := blk_frozen BK140.out 1
                    have p6 : 0 ≤ (x7_1 : Int) := of_decide_eq_true (by first | (with_reducible assumption) | assumption)
                    have q6 : x7_1 < (a0_0.size : Int) := of_decide_eq_true (by first | (with_reducible assumption) | assumption)
                    have hx6 := bt_at a0_0 x7_1
                    replace p6 := eq_true p6
                    replace q6 := eq_true q6
                    go_wp2
                    go_ret
                    exact ⟨by first | rfl | (simp [errW_none, errW_some] <;> rfl) | (simp [errW_none, errW_some] <;> (generalize ByteArray.toList _ = l_ <;> cases l_ <;> rfl)) | (simp [*, errW_none, errW_some] <;> rfl), by repeat (first | (with_reducible first | exact HB.out | apply below_alloc | apply pw_below_drewN | apply below_drew1 | refine below_set ?_ GE140.out) | exact HB.out)⟩
            · replace c23 := Bool.eq_false_iff.mpr c23
              subst c23
              have H1 : (if (bt a0_0 x7_1) = 32 then (sennitref21_may.l0 k1 a1 ((bt a0_0 x7_1) == 43) ((bt a0_0 x7_1) == 45) (wrap64 (x7_1 + 1)) a0_0 a0_1) else (if (bt a0_0 x7_1) = 43 then (sennitref21_may.l0 k1 a1 ((bt a0_0 x7_1) == 43) ((bt a0_0 x7_1) == 45) (wrap64 (x7_1 + 1)) a0_0 a0_1) else (if (bt a0_0 x7_1) = 45 then (sennitref21_may.l0 k1 a1 ((bt a0_0 x7_1) == 43) ((bt a0_0 x7_1) == 45) (wrap64 (x7_1 + 1)) a0_0 a0_1) else (some false)))) = some r := by rw [if_neg (show ¬ (false = true) by decide)] at H; exact H
              clear H
              have H := H1
              clear H1
              by_cases c31 : (bt a0_0 x7_1) = 32
              · rw [if_pos c31] at H
                have c31b0 : ((bt a0_0 x7_1) == 32) = true := beq_iff_eq.mpr c31
                have c31b1 : ((bt a0_0 x7_1) != 32) = false := bne_eq_false_iff_eq.mpr c31
                clear c31
                have H' := Aside0.mk H
                clear H
                have hcz32_0 : wr.cell? ⟨gb140, 0, none⟩ = some (.string a0_0) := (blk_cell BK140.out 0).trans rfl
                have hcz32_1 : wr.cell? ⟨gb140, 1, none⟩ = some (.string a0_1) := (blk_cell BK140.out 1).trans rfl
                have hfz32_0 := blk_frozen BK140.out 0
                have hfz32_1 := blk_frozen BK140.out 1
                have p6 : 0 ≤ (x7_1 : Int) := of_decide_eq_true (by first | (with_reducible assumption) | assumption)
                have q6 : x7_1 < (a0_0.size : Int) := of_decide_eq_true (by first | (with_reducible assumption) | assumption)
                have hx6 := bt_at a0_0 x7_1
                replace p6 := eq_true p6
                replace q6 := eq_true q6
                go_wp2
                go_roundg k1
                case measure => have := HK1.out; omega
                case rel => exact ⟨(((bt a0_0 x7_1) == 43)), (((bt a0_0 x7_1) == 45)), (wrap64 (x7_1 + 1)), (by first | rfl | (simp; done) | (simp [*]; done)), (by first | rfl | (simp; done) | (simp [*]; done)), (by first | rfl | (simp; done) | (simp [*]; done)), H', ⟨by have := HK1.out; omega⟩, ⟨by (with_reducible repeat (first | refine blk_drewN ?_ _ | refine blk_drew ?_ | refine blk_alloc ?_ _)); exact BK140.out⟩, ⟨by repeat (first | (with_reducible first | exact HB.out | apply below_alloc | apply pw_below_drewN | apply below_drew1 | refine below_set ?_ GE140.out) | exact HB.out)⟩⟩
              · rw [if_neg c31] at H
                have c31b0 : ((bt a0_0 x7_1) == 32) = false := beq_eq_false_iff_ne.mpr c31
                have c31b1 : ((bt a0_0 x7_1) != 32) = true := bne_iff_ne.mpr c31
                by_cases c33 : (bt a0_0 x7_1) = 43
                · rw [if_pos c33] at H
                  have c33b0 : ((bt a0_0 x7_1) == 43) = true := beq_iff_eq.mpr c33
                  have c33b1 : ((bt a0_0 x7_1) != 43) = false := bne_eq_false_iff_eq.mpr c33
                  clear c33
                  have H' := Aside0.mk H
                  clear H
                  have hcz34_0 : wr.cell? ⟨gb140, 0, none⟩ = some (.string a0_0) := (blk_cell BK140.out 0).trans rfl
                  have hcz34_1 : wr.cell? ⟨gb140, 1, none⟩ = some (.string a0_1) := (blk_cell BK140.out 1).trans rfl
                  have hfz34_0 := blk_frozen BK140.out 0
                  have hfz34_1 := blk_frozen BK140.out 1
                  have p6 : 0 ≤ (x7_1 : Int) := of_decide_eq_true (by first | (with_reducible assumption) | assumption)
                  have q6 : x7_1 < (a0_0.size : Int) := of_decide_eq_true (by first | (with_reducible assumption) | assumption)
                  have hx6 := bt_at a0_0 x7_1
                  replace p6 := eq_true p6
                  replace q6 := eq_true q6
                  go_wp2
                  go_roundg k1
                  case measure => have := HK1.out; omega
                  case rel => exact ⟨(((bt a0_0 x7_1) == 43)), (((bt a0_0 x7_1) == 45)), (wrap64 (x7_1 + 1)), (by first | rfl | (simp; done) | (simp [*]; done)), (by first | rfl | (simp; done) | (simp [*]; done)), (by first | rfl | (simp; done) | (simp [*]; done)), H', ⟨by have := HK1.out; omega⟩, ⟨by (with_reducible repeat (first | refine blk_drewN ?_ _ | refine blk_drew ?_ | refine blk_alloc ?_ _)); exact BK140.out⟩, ⟨by repeat (first | (with_reducible first | exact HB.out | apply below_alloc | apply pw_below_drewN | apply below_drew1 | refine below_set ?_ GE140.out) | exact HB.out)⟩⟩
                · rw [if_neg c33] at H
                  have c33b0 : ((bt a0_0 x7_1) == 43) = false := beq_eq_false_iff_ne.mpr c33
                  have c33b1 : ((bt a0_0 x7_1) != 43) = true := bne_iff_ne.mpr c33
                  by_cases c35 : (bt a0_0 x7_1) = 45
                  · rw [if_pos c35] at H
                    have c35b0 : ((bt a0_0 x7_1) == 45) = true := beq_iff_eq.mpr c35
                    have c35b1 : ((bt a0_0 x7_1) != 45) = false := bne_eq_false_iff_eq.mpr c35
                    clear c35
                    have H' := Aside0.mk H
                    clear H
                    have hcz36_0 : wr.cell? ⟨gb140, 0, none⟩ = some (.string a0_0) := (blk_cell BK140.out 0).trans rfl
                    have hcz36_1 : wr.cell? ⟨gb140, 1, none⟩ = some (.string a0_1) := (blk_cell BK140.out 1).trans rfl
                    have hfz36_0 := blk_frozen BK140.out 0
                    have hfz36_1 := blk_frozen BK140.out 1
                    have p6 : 0 ≤ (x7_1 : Int) := of_decide_eq_true (by first | (with_reducible assumption) | assumption)
                    have q6 : x7_1 < (a0_0.size : Int) := of_decide_eq_true (by first | (with_reducible assumption) | assumption)
                    have hx6 := bt_at a0_0 x7_1
                    replace p6 := eq_true p6
                    replace q6 := eq_true q6
                    go_wp2
                    go_roundg k1
                    case measure => have := HK1.out; omega
                    case rel => exact ⟨(((bt a0_0 x7_1) == 43)), (((bt a0_0 x7_1) == 45)), (wrap64 (x7_1 + 1)), (by first | rfl | (simp; done) | (simp [*]; done)), (by first | rfl | (simp; done) | (simp [*]; done)), (by first | rfl | (simp; done) | (simp [*]; done)), H', ⟨by have := HK1.out; omega⟩, ⟨by (with_reducible repeat (first | refine blk_drewN ?_ _ | refine blk_drew ?_ | refine blk_alloc ?_ _)); exact BK140.out⟩, ⟨by repeat (first | (with_reducible first | exact HB.out | apply below_alloc | apply pw_below_drewN | apply below_drew1 | refine below_set ?_ GE140.out) | exact HB.out)⟩⟩
                  · rw [if_neg c35] at H
                    have c35b0 : ((bt a0_0 x7_1) == 45) = false := beq_eq_false_iff_ne.mpr c35
                    have c35b1 : ((bt a0_0 x7_1) != 45) = true := bne_iff_ne.mpr c35
                    obtain rfl := Option.some.inj H
                    have hcz37_0 : wr.cell? ⟨gb140, 0, none⟩ = some (.string a0_0) := (blk_cell BK140.out 0).trans rfl
                    have hcz37_1 : wr.cell? ⟨gb140, 1, none⟩ = some (.string a0_1) := (blk_cell BK140.out 1).trans rfl
                    have hfz37_0 := blk_frozen BK140.out 0
                    have hfz37_1 := blk_frozen BK140.out 1
                    have p6 : 0 ≤ (x7_1 : Int) := of_decide_eq_true (by first | (with_reducible assumption) | assumption)
                    have q6 : x7_1 < (a0_0.size : Int) := of_decide_eq_true (by first | (with_reducible assumption) | assumption)
                    have hx6 := bt_at a0_0 x7_1
                    replace p6 := eq_true p6
                    replace q6 := eq_true q6
                    go_wp2
                    go_ret
                    exact ⟨by first | rfl | (simp [errW_none, errW_some] <;> rfl) | (simp [errW_none, errW_some] <;> (generalize ByteArray.toList _ = l_ <;> cases l_ <;> rfl)) | (simp [*, errW_none, errW_some] <;> rfl), by repeat (first | (with_reducible first | exact HB.out | apply below_alloc | apply pw_below_drewN | apply below_drew1 | refine below_set ?_ GE140.out) | exact HB.out)⟩
        · rw [if_neg c5] at H
          exact absurd H (by simp)
      · rw [if_neg c4] at H
        have c4b0 : decide (x7_1 < (a0_0.size : Int)) = false := decide_eq_false c4
        clear c4
        by_cases c38 : (a0_0.size : Int) = a1
        · rw [if_pos c38] at H
          have c38b0 : ((a0_0.size : Int) == a1) = true := beq_iff_eq.mpr c38
          have c38b1 : ((a0_0.size : Int) != a1) = false := bne_eq_false_iff_eq.mpr c38
          clear c38
          by_cases c39 : x5_1 = true
          · subst c39
            have H1 : (if x6_1 = true then (some false) else ((sennitref01_May.f k1 (([a0_1] : List ByteArray))).bind fun t144 => (some t144))) = some r := by rw [if_pos rfl] at H; exact H
            clear H
            have H := H1
            clear H1
            by_cases c40 : x6_1 = true
            · subst c40
              have H1 : (some false) = some r := by rw [if_pos rfl] at H; exact H
              clear H
              have H := H1
              clear H1
              obtain rfl := Option.some.inj H
              have hcz41_0 : wr.cell? ⟨gb140, 0, none⟩ = some (.string a0_0) := (blk_cell BK140.out 0).trans rfl
              have hcz41_1 : wr.cell? ⟨gb140, 1, none⟩ = some (.string a0_1) := (blk_cell BK140.out 1).trans rfl
              have hfz41_0 := blk_frozen BK140.out 0
              have hfz41_1 := blk_frozen BK140.out 1
              go_wp2
              go_ret
              exact ⟨by first | rfl | (simp [errW_none, errW_some] <;> rfl) | (simp [errW_none, errW_some] <;> (generalize ByteArray.toList _ = l_ <;> cases l_ <;> rfl)) | (simp [*, errW_none, errW_some] <;> rfl), by repeat (first | (with_reducible first | exact HB.out | apply below_alloc | apply pw_below_drewN | apply below_drew1 | refine below_set ?_ GE140.out) | exact HB.out)⟩
            · replace c40 := Bool.eq_false_iff.mpr c40
              subst c40
              have H1 : ((sennitref01_May.f k1 (([a0_1] : List ByteArray))).bind fun t144 => (some t144)) = some r := by rw [if_neg (show ¬ (false = true) by decide)] at H; exact H
              clear H
              have H := H1
              clear H1
              obtain ⟨y141, hy141⟩ : ∃ y_ : List ByteArray, y_ = (([a0_1] : List ByteArray)) := ⟨_, rfl⟩
              replace H : ((sennitref01_May.f k1 y141).bind fun t144 => (some t144)) = some r := by first | (rw [hy141]; with_reducible exact H) | (have H2_ := (Option.bind_some _ _).symm.trans H; rw [hy141]; with_reducible exact H2_) | (have H2_ := (Option.bind_some _ _).symm.trans H; with_reducible exact H2_) | with_reducible exact H | (rw [hy141]; exact H) | exact H
              have Ny141 := Aside0.mk hy141
              clear hy141
              replace H := Option.bind_eq_some_iff.mp H
              obtain ⟨t144, A420, H⟩ := H
              replace H : (some t144) = some r := H
              have A42 := Aside0.mk A420
              clear A420
              obtain rfl := Option.some.inj H
              have hcz43_0 : wr.cell? ⟨gb140, 0, none⟩ = some (.string a0_0) := (blk_cell BK140.out 0).trans rfl
              have hcz43_1 : wr.cell? ⟨gb140, 1, none⟩ = some (.string a0_1) := (blk_cell BK140.out 1).trans rfl
              have hfz43_0 := blk_frozen BK140.out 0
              have hfz43_1 := blk_frozen BK140.out 1
              go_wp2_with (first | ((with_reducible refine gate_dst (N := 55) rfl ?_); (try (refine gate_guard (by rfl) ?_; dsimp only)); refine Kd.R_lit Kd.string _ 9 ?hg (N := 55) ?hd (xs := ([a0_1] : List ByteArray)) (inner := [.string a0_1]) (ok := fun _ => True) (okp := fun _ => True) ?hr ?hp (fun _ hk => hk) trivial (Below.refl _ _) (Nat.le_refl _) (by simp) ?_; (case hd => rfl); (case hg => rfl); (case hr => first | (go_simp; done) | (go_simp; rfl)); (case hp => exact (Reps.one (show Kd.M Kd.string _ _ _ a0_1 [.string a0_1] from rfl) (Reps.none _ _))); intro v142 w44 ho45 hb hg_ hnew_; clear hg_ hnew_; (first | rw [← Ny141.out] at ho45 | (simp only [Int.reduceToNat] at ho45; rw [← Ny141.out] at ho45)); have n0_ := Aside0.mk (Kd.R_lower ho45 (below_size (by repeat (first | (with_reducible first | exact HB.out | apply below_alloc | apply pw_below_drewN | apply below_drew1 | refine below_set ?_ GE140.out) | exact HB.out)))); have n1_ := Aside0.mk (blk_below (g := gb140) (o := .cells #[.string a0_0, .string a0_1] 41 (0, 0)) (by (with_reducible repeat (first | refine blk_drewN ?_ _ | refine blk_drew ?_ | refine blk_alloc ?_ _)); exact BK140.out) hb); have n2_ := Aside0.mk (below_step (by repeat (first | (with_reducible first | exact HB.out | apply below_alloc | apply pw_below_drewN | apply below_drew1 | refine below_set ?_ GE140.out) | exact HB.out)) hb); clear BK140; clear HB; have HO143 := n0_; have BK140 := n1_; have HB := n2_; clear n0_ n1_ n2_; clear hb ho45; obtain ⟨Ao46, co46, eo46⟩ := Kd.R_slice HO143.out; subst eo46) | (go_at_call 55; (with_reducible refine (sennitref01_May.calls k1 _ _ y141 t144 _ ?side1 ?side2 A42.out).mono ?_); (case side1 => repeat (first | exact (Kd.R_reads' HO143.out).2.2 | (with_reducible refine Kd.C_alloc ?_ _) | (with_reducible refine Kd.C_drewN ?_ _) | (with_reducible refine Kd.C_drew ?_))); (case side2 => exact (Kd.R_reads' HO143.out).2.1); rintro e w' ⟨rfl, ⟨nd, rfl⟩⟩))
              go_ret
              exact ⟨by first | rfl | (simp [errW_none, errW_some] <;> rfl) | (simp [errW_none, errW_some] <;> (generalize ByteArray.toList _ = l_ <;> cases l_ <;> rfl)) | (simp [*, errW_none, errW_some] <;> rfl), by repeat (first | (with_reducible first | exact HB.out | apply below_alloc | apply pw_below_drewN | apply below_drew1 | refine below_set ?_ GE140.out) | exact HB.out)⟩
          · replace c39 := Bool.eq_false_iff.mpr c39
            subst c39
            have H1 : ((sennitref01_May.f k1 (([a0_1] : List ByteArray))).bind fun t148 => (some t148)) = some r := by rw [if_neg (show ¬ (false = true) by decide)] at H; exact H
            clear H
            have H := H1
            clear H1
            obtain ⟨y145, hy145⟩ : ∃ y_ : List ByteArray, y_ = (([a0_1] : List ByteArray)) := ⟨_, rfl⟩
            replace H : ((sennitref01_May.f k1 y145).bind fun t148 => (some t148)) = some r := by first | (rw [hy145]; with_reducible exact H) | (have H2_ := (Option.bind_some _ _).symm.trans H; rw [hy145]; with_reducible exact H2_) | (have H2_ := (Option.bind_some _ _).symm.trans H; with_reducible exact H2_) | with_reducible exact H | (rw [hy145]; exact H) | exact H
            have Ny145 := Aside0.mk hy145
            clear hy145
            replace H := Option.bind_eq_some_iff.mp H
            obtain ⟨t148, A470, H⟩ := H
            replace H : (some t148) = some r := H
            have A47 := Aside0.mk A470
            clear A470
            obtain rfl := Option.some.inj H
            have hcz48_0 : wr.cell? ⟨gb140, 0, none⟩ = some (.string a0_0) := (blk_cell BK140.out 0).trans rfl
            have hcz48_1 : wr.cell? ⟨gb140, 1, none⟩ = some (.string a0_1) := (blk_cell BK140.out 1).trans rfl
            have hfz48_0 := blk_frozen BK140.out 0
            have hfz48_1 := blk_frozen BK140.out 1
            go_wp2_with (first | ((with_reducible refine gate_dst (N := 55) rfl ?_); (try (refine gate_guard (by rfl) ?_; dsimp only)); refine Kd.R_lit Kd.string _ 9 ?hg (N := 55) ?hd (xs := ([a0_1] : List ByteArray)) (inner := [.string a0_1]) (ok := fun _ => True) (okp := fun _ => True) ?hr ?hp (fun _ hk => hk) trivial (Below.refl _ _) (Nat.le_refl _) (by simp) ?_; (case hd => rfl); (case hg => rfl); (case hr => first | (go_simp; done) | (go_simp; rfl)); (case hp => exact (Reps.one (show Kd.M Kd.string _ _ _ a0_1 [.string a0_1] from rfl) (Reps.none _ _))); intro v146 w49 ho50 hb hg_ hnew_; clear hg_ hnew_; (first | rw [← Ny145.out] at ho50 | (simp only [Int.reduceToNat] at ho50; rw [← Ny145.out] at ho50)); have n0_ := Aside0.mk (Kd.R_lower ho50 (below_size (by repeat (first | (with_reducible first | exact HB.out | apply below_alloc | apply pw_below_drewN | apply below_drew1 | refine below_set ?_ GE140.out) | exact HB.out)))); have n1_ := Aside0.mk (blk_below (g := gb140) (o := .cells #[.string a0_0, .string a0_1] 41 (0, 0)) (by (with_reducible repeat (first | refine blk_drewN ?_ _ | refine blk_drew ?_ | refine blk_alloc ?_ _)); exact BK140.out) hb); have n2_ := Aside0.mk (below_step (by repeat (first | (with_reducible first | exact HB.out | apply below_alloc | apply pw_below_drewN | apply below_drew1 | refine below_set ?_ GE140.out) | exact HB.out)) hb); clear BK140; clear HB; have HO147 := n0_; have BK140 := n1_; have HB := n2_; clear n0_ n1_ n2_; clear hb ho50; obtain ⟨Ao51, co51, eo51⟩ := Kd.R_slice HO147.out; subst eo51) | (go_at_call 55; (with_reducible refine (sennitref01_May.calls k1 _ _ y145 t148 _ ?side1 ?side2 A47.out).mono ?_); (case side1 => repeat (first | exact (Kd.R_reads' HO147.out).2.2 | (with_reducible refine Kd.C_alloc ?_ _) | (with_reducible refine Kd.C_drewN ?_ _) | (with_reducible refine Kd.C_drew ?_))); (case side2 => exact (Kd.R_reads' HO147.out).2.1); rintro e w' ⟨rfl, ⟨nd, rfl⟩⟩))
            go_ret
            exact ⟨by first | rfl | (simp [errW_none, errW_some] <;> rfl) | (simp [errW_none, errW_some] <;> (generalize ByteArray.toList _ = l_ <;> cases l_ <;> rfl)) | (simp [*, errW_none, errW_some] <;> rfl), by repeat (first | (with_reducible first | exact HB.out | apply below_alloc | apply pw_below_drewN | apply below_drew1 | refine below_set ?_ GE140.out) | exact HB.out)⟩
        · rw [if_neg c38] at H
          have c38b0 : ((a0_0.size : Int) == a1) = false := beq_eq_false_iff_ne.mpr c38
          have c38b1 : ((a0_0.size : Int) != a1) = true := bne_iff_ne.mpr c38
          obtain rfl := Option.some.inj H
          have hcz52_0 : wr.cell? ⟨gb140, 0, none⟩ = some (.string a0_0) := (blk_cell BK140.out 0).trans rfl
          have hcz52_1 : wr.cell? ⟨gb140, 1, none⟩ = some (.string a0_1) := (blk_cell BK140.out 1).trans rfl
          have hfz52_0 := blk_frozen BK140.out 0
          have hfz52_1 := blk_frozen BK140.out 1
          go_wp2
          go_ret
          exact ⟨by first | rfl | (simp [errW_none, errW_some] <;> rfl) | (simp [errW_none, errW_some] <;> (generalize ByteArray.toList _ = l_ <;> cases l_ <;> rfl)) | (simp [*, errW_none, errW_some] <;> rfl), by repeat (first | (with_reducible first | exact HB.out | apply below_alloc | apply pw_below_drewN | apply below_drew1 | refine below_set ?_ GE140.out) | exact HB.out)⟩

/-! ### sennitref21_May: function 14 -/
def sennitref21_May.l0 : Nat → List (S41) → Int → Option (Bool)
  | 0, _, _ => none
  | k + 1, x0, x3 => if x3 < (x0.length : Int) then (if 0 < (x0.length : Int) then (if (((rd_T41 x0 0).f0).size : Int) < 1 then (some false) else (if (((rd_T41 x0 0).f0).size : Int) > 16 then (some false) else (if 0 ≤ x3 then ((sennitref21_may.f k ((rd_T41 x0 x3).f0) ((rd_T41 x0 x3).f1) (((rd_T41 x0 0).f0).size : Int)).bind fun t151 => (if t151 = true then (sennitref21_May.l0 k x0 (wrap64 (x3 + 1))) else (some false))) else (none)))) else (none)) else (some true)
def sennitref21_May.f (k : Nat) (l0 : List (S41)) : Option (Bool) := sennitref21_May.l0 k l0 0
theorem sennitref21_May.mono_l : ∀ k, (∀ y0 y1, LeO (sennitref21_May.l0 k y0 y1) (sennitref21_May.l0 (k + 1) y0 y1))
  | 0 => fun _ _ r h => by simp [sennitref21_May.l0] at h
  | k + 1 => by
    have ih0 := sennitref21_May.mono_l k
    · intro y0 y1
      unfold sennitref21_May.l0
      repeat' first
      | (with_reducible exact ih0 _ _)
      | (with_reducible exact sennitref21_may.mono _ _ _ _)
      | (with_reducible exact LeO.refl _)
      | (with_reducible exact LeO.none _)
      | (with_reducible refine LeO.ite ?_ ?_)
      | (with_reducible refine LeO.bind ?_ (fun _ => ?_))
      | exact ih0 _ _
      | exact sennitref21_may.mono _ _ _ _
      | exact LeO.none _
      | refine LeO.ite ?_ ?_
      | refine LeO.bind ?_ (fun _ => ?_)
theorem sennitref21_May.mono : ∀ a0 k, LeO (sennitref21_May.f k a0) (sennitref21_May.f (k + 1) a0) := by
  intro a0 k
  have ih0 := sennitref21_May.mono_l k
  unfold sennitref21_May.f
  repeat' first
      | (with_reducible exact ih0 _ _)
      | (with_reducible exact sennitref21_may.mono _ _ _ _)
      | (with_reducible exact LeO.refl _)
      | (with_reducible exact LeO.none _)
      | (with_reducible refine LeO.ite ?_ ?_)
      | (with_reducible refine LeO.bind ?_ (fun _ => ?_))
      | exact ih0 _ _
      | exact sennitref21_may.mono _ _ _ _
      | exact LeO.none _
      | refine LeO.ite ?_ ?_
      | refine LeO.bind ?_ (fun _ => ?_)
set_option maxHeartbeats 8000000 in
set_option maxRecDepth 100000 in
theorem sennitref21_May.calls (k : Nat) (A0 : Option Addr) (c0 : Nat) (l0 : List (S41)) (r : Bool) (w : World) (hr0 : Kd.C k41 w A0 l0.length l0) (hc0 : l0.length ≤ c0) (h : sennitref21_May.f k l0 = some r) :
    Calls Tryd.prog 14 #[.slice A0 l0.length c0] w fun e w' => e = .returned (.bool r) ∧ Below w.heap.size w w' := by
  have hu41 := Tryd.underlying41
  have HR0 := Aside0.mk hr0
  have HC0 := Aside0.mk hc0
  clear hr0 hc0
  have HB := Aside0.mk (Below.refl w.heap.size w)
  have H : (sennitref21_May.l0 k l0 0) = some r := h
  clear h
  have H' := Aside0.mk H
  clear H
  go_enter Tryd.func14, Tryd.ntmps14
  go_wp2
  go_loopg [3] k (fun kq v3 w' => ∃ (x3_1 : Int), v3 = .int .i64 x3_1 ∧ Aside0 (sennitref21_May.l0 kq l0 x3_1 = some r) ∧ Aside0 (kq ≤ k) ∧ Aside0 (Below w.heap.size w w'))
  case atStart => exact ⟨(0), (by first | rfl | (simp; done) | (simp [*]; done)), H', ⟨Nat.le_refl _⟩, ⟨by repeat (first | (with_reducible first | exact HB.out | apply below_alloc | apply pw_below_drewN | apply below_drew1) | exact HB.out)⟩⟩
  case round =>
    clear H'
    try clear c1
    obtain ⟨x3_1, rfl, HA, HK1, HB⟩ := hrel
    cases gk with
    | zero => exact absurd HA.out (by simp [sennitref21_May.l0])
    | succ k1 =>
      have H := HA.out
      clear HA
      simp only [sennitref21_May.l0] at H
      by_cases c2 : x3_1 < (l0.length : Int)
      · rw [if_pos c2] at H
        have c2b0 : decide (x3_1 < (l0.length : Int)) = true := decide_eq_true c2
        clear c2
        by_cases c3 : 0 < (l0.length : Int)
        · rw [if_pos c3] at H
          have c3b0 : decide (0 < (l0.length : Int)) = true := decide_eq_true c3
          have c3b1 : decide (0 < l0.length) = true := decide_eq_true (by omega)
          clear c3
          by_cases c4 : (((rd_T41 l0 0).f0).size : Int) < 1
          · rw [if_pos c4] at H
            have c4b0 : decide ((((rd_T41 l0 0).f0).size : Int) < 1) = true := decide_eq_true c4
            have c4b1 : decide (((rd_T41 l0 0).f0).size < 1) = true := decide_eq_true (by omega)
            clear c4
            obtain rfl := Option.some.inj H
            have p149 : 0 ≤ (0 : Int) := (by omega)
            have q149 : 0 < (l0.length : Int) := of_decide_eq_true (by first | (with_reducible assumption) | assumption)
            obtain ⟨ad149, e149, hx149_0, hx149_1⟩ := at_T41 HR0.out 0 p149 q149
            cases e149
            have qi149 : (0 < l0.length) = True := eq_true (by omega)
            (try rw [show ((0 : Int)).toNat = 0 from rfl] at hx149_0)
            (try rw [show 0 * 2 = 0 from rfl] at hx149_0)
            (try rw [Addr.add_zero'] at hx149_0)
            (try rw [show ((0 : Int)).toNat = 0 from rfl] at hx149_1)
            (try rw [show 0 * 2 = 0 from rfl] at hx149_1)
            (try rw [Addr.add_zero'] at hx149_1)
            replace hx149_0 := (HB.out.cell (World.block_lt_of_cell? w _ hx149_0)).trans hx149_0
            replace hx149_1 := (HB.out.cell (World.block_lt_of_cell? w _ hx149_1)).trans hx149_1
            replace p149 := eq_true p149
            replace q149 := eq_true q149
            go_wp2
            go_ret
            exact ⟨by first | rfl | (simp [errW_none, errW_some] <;> rfl) | (simp [errW_none, errW_some] <;> (generalize ByteArray.toList _ = l_ <;> cases l_ <;> rfl)) | (simp [*, errW_none, errW_some] <;> rfl), by repeat (first | (with_reducible first | exact HB.out | apply below_alloc | apply pw_below_drewN | apply below_drew1) | exact HB.out)⟩
          · rw [if_neg c4] at H
            have c4b0 : decide ((((rd_T41 l0 0).f0).size : Int) < 1) = false := decide_eq_false c4
            have c4b1 : decide (((rd_T41 l0 0).f0).size < 1) = false := decide_eq_false (by omega)
            clear c4
            by_cases c5 : (((rd_T41 l0 0).f0).size : Int) > 16
            · rw [if_pos c5] at H
              have c5b0 : decide (16 < (((rd_T41 l0 0).f0).size : Int)) = true := decide_eq_true c5
              have c5b1 : decide (16 < ((rd_T41 l0 0).f0).size) = true := decide_eq_true (by omega)
              clear c5
              obtain rfl := Option.some.inj H
              have p149 : 0 ≤ (0 : Int) := (by omega)
              have q149 : 0 < (l0.length : Int) := of_decide_eq_true (by first | (with_reducible assumption) | assumption)
              obtain ⟨ad149, e149, hx149_0, hx149_1⟩ := at_T41 HR0.out 0 p149 q149
              cases e149
              have qi149 : (0 < l0.length) = True := eq_true (by omega)
              (try rw [show ((0 : Int)).toNat = 0 from rfl] at hx149_0)
              (try rw [show 0 * 2 = 0 from rfl] at hx149_0)
              (try rw [Addr.add_zero'] at hx149_0)
              (try rw [show ((0 : Int)).toNat = 0 from rfl] at hx149_1)
              (try rw [show 0 * 2 = 0 from rfl] at hx149_1)
              (try rw [Addr.add_zero'] at hx149_1)
              replace hx149_0 := (HB.out.cell (World.block_lt_of_cell? w _ hx149_0)).trans hx149_0
              replace hx149_1 := (HB.out.cell (World.block_lt_of_cell? w _ hx149_1)).trans hx149_1
              replace p149 := eq_true p149
              replace q149 := eq_true q149
              go_wp2
              go_ret
              exact ⟨by first | rfl | (simp [errW_none, errW_some] <;> rfl) | (simp [errW_none, errW_some] <;> (generalize ByteArray.toList _ = l_ <;> cases l_ <;> rfl)) | (simp [*, errW_none, errW_some] <;> rfl), by repeat (first | (with_reducible first | exact HB.out | apply below_alloc | apply pw_below_drewN | apply below_drew1) | exact HB.out)⟩
            · rw [if_neg c5] at H
              have c5b0 : decide (16 < (((rd_T41 l0 0).f0).size : Int)) = false := decide_eq_false c5
              have c5b1 : decide (16 < ((rd_T41 l0 0).f0).size) = false := decide_eq_false (by omega)
              clear c5
              by_cases c6 : 0 ≤ x3_1
              · rw [if_pos c6] at H
                have c6b0 : decide (0 ≤ x3_1) = true := decide_eq_true c6
                clear c6
                replace H := Option.bind_eq_some_iff.mp H
                obtain ⟨t151, A70, H⟩ := H
                replace H : (if t151 = true then (sennitref21_May.l0 k1 l0 (wrap64 (x3_1 + 1))) else (some false)) = some r := H
                have A7 := Aside0.mk A70
                clear A70
                by_cases c8 : t151 = true
                · subst c8
                  have H1 : (sennitref21_May.l0 k1 l0 (wrap64 (x3_1 + 1))) = some r := by rw [if_pos rfl] at H; exact H
                  clear H
                  have H := H1
                  clear H1
                  have H' := Aside0.mk H
                  clear H
                  have p149 : 0 ≤ (0 : Int) := (by omega)
                  have q149 : 0 < (l0.length : Int) := of_decide_eq_true (by first | (with_reducible assumption) | assumption)
                  obtain ⟨ad149, e149, hx149_0, hx149_1⟩ := at_T41 HR0.out 0 p149 q149
                  cases e149
                  have qi149 : (0 < l0.length) = True := eq_true (by omega)
                  (try rw [show ((0 : Int)).toNat = 0 from rfl] at hx149_0)
                  (try rw [show 0 * 2 = 0 from rfl] at hx149_0)
                  (try rw [Addr.add_zero'] at hx149_0)
                  (try rw [show ((0 : Int)).toNat = 0 from rfl] at hx149_1)
                  (try rw [show 0 * 2 = 0 from rfl] at hx149_1)
                  (try rw [Addr.add_zero'] at hx149_1)
                  replace hx149_0 := (HB.out.cell (World.block_lt_of_cell? w _ hx149_0)).trans hx149_0
                  replace hx149_1 := (HB.out.cell (World.block_lt_of_cell? w _ hx149_1)).trans hx149_1
                  replace p149 := eq_true p149
                  replace q149 := eq_true q149
                  have p150 : 0 ≤ (x3_1 : Int) := of_decide_eq_true (by first | (with_reducible assumption) | assumption)
                  have q150 : x3_1 < (l0.length : Int) := of_decide_eq_true (by first | (with_reducible assumption) | assumption)
                  obtain ⟨ad150, e150, hx150_0, hx150_1⟩ := at_T41 HR0.out x3_1 p150 q150
                  obtain rfl : ad149 = ad150 := (by injection e150)
                  replace hx150_0 := (HB.out.cell (World.block_lt_of_cell? w _ hx150_0)).trans hx150_0
                  replace hx150_1 := (HB.out.cell (World.block_lt_of_cell? w _ hx150_1)).trans hx150_1
                  replace p150 := eq_true p150
                  replace q150 := eq_true q150
                  go_wp2_with (first | (go_at_call 32; (with_reducible refine (sennitref21_may.calls k1 ((rd_T41 l0 x3_1).f0) ((rd_T41 l0 x3_1).f1) (((rd_T41 l0 0).f0).size : Int) true _ A7.out).mono ?_); rintro e w9 ⟨rfl, hb⟩; have n0_ := Aside0.mk (below_step (by repeat (first | (with_reducible first | exact HB.out | apply below_alloc | apply pw_below_drewN | apply below_drew1) | exact HB.out)) hb); clear HB; have HB := n0_; clear n0_; (try clear hb); (try clear hb2); (try clear hk); (try clear hi)))
                  go_roundg k1
                  case measure => have := HK1.out; omega
                  case rel => exact ⟨(wrap64 (x3_1 + 1)), (by first | rfl | (simp; done) | (simp [*]; done)), H', ⟨by have := HK1.out; omega⟩, ⟨by repeat (first | (with_reducible first | exact HB.out | apply below_alloc | apply pw_below_drewN | apply below_drew1) | exact HB.out)⟩⟩
                · replace c8 := Bool.eq_false_iff.mpr c8
                  subst c8
                  have H1 : (some false) = some r := by rw [if_neg (show ¬ (false = true) by decide)] at H; exact H
                  clear H
                  have H := H1
                  clear H1
                  obtain rfl := Option.some.inj H
                  have p149 : 0 ≤ (0 : Int) := (by omega)
                  have q149 : 0 < (l0.length : Int) := of_decide_eq_true (by first | (with_reducible assumption) | assumption)
                  obtain ⟨ad149, e149, hx149_0, hx149_1⟩ := at_T41 HR0.out 0 p149 q149
                  cases e149
                  have qi149 : (0 < l0.length) = True := eq_true (by omega)
                  (try rw [show ((0 : Int)).toNat = 0 from rfl] at hx149_0)
                  (try rw [show 0 * 2 = 0 from rfl] at hx149_0)
                  (try rw [Addr.add_zero'] at hx149_0)
                  (try rw [show ((0 : Int)).toNat = 0 from rfl] at hx149_1)
                  (try rw [show 0 * 2 = 0 from rfl] at hx149_1)
                  (try rw [Addr.add_zero'] at hx149_1)
                  replace hx149_0 := (HB.out.cell (World.block_lt_of_cell? w _ hx149_0)).trans hx149_0
                  replace hx149_1 := (HB.out.cell (World.block_lt_of_cell? w _ hx149_1)).trans hx149_1
                  replace p149 := eq_true p149
                  replace q149 := eq_true q149
                  have p150 : 0 ≤ (x3_1 : Int) := of_decide_eq_true (by first | (with_reducible assumption) | assumption)
                  have q150 : x3_1 < (l0.length : Int) := of_decide_eq_true (by first | (with_reducible assumption) | assumption)
                  obtain ⟨ad150, e150, hx150_0, hx150_1⟩ := at_T41 HR0.out x3_1 p150 q150
                  obtain rfl : ad149 = ad150 := (by injection e150)
                  replace hx150_0 := (HB.out.cell (World.block_lt_of_cell? w _ hx150_0)).trans hx150_0
                  replace hx150_1 := (HB.out.cell (World.block_lt_of_cell? w _ hx150_1)).trans hx150_1
                  replace p150 := eq_true p150
                  replace q150 := eq_true q150
                  go_wp2_with (first | (go_at_call 32; (with_reducible refine (sennitref21_may.calls k1 ((rd_T41 l0 x3_1).f0) ((rd_T41 l0 x3_1).f1) (((rd_T41 l0 0).f0).size : Int) false _ A7.out).mono ?_); rintro e w10 ⟨rfl, hb⟩; have n0_ := Aside0.mk (below_step (by repeat (first | (with_reducible first | exact HB.out | apply below_alloc | apply pw_below_drewN | apply below_drew1) | exact HB.out)) hb); clear HB; have HB := n0_; clear n0_; (try clear hb); (try clear hb2); (try clear hk); (try clear hi)))
                  go_ret
                  exact ⟨by first | rfl | (simp [errW_none, errW_some] <;> rfl) | (simp [errW_none, errW_some] <;> (generalize ByteArray.toList _ = l_ <;> cases l_ <;> rfl)) | (simp [*, errW_none, errW_some] <;> rfl), by repeat (first | (with_reducible first | exact HB.out | apply below_alloc | apply pw_below_drewN | apply below_drew1) | exact HB.out)⟩
              · rw [if_neg c6] at H
                exact absurd H (by simp)
        · rw [if_neg c3] at H
          exact absurd H (by simp)
      · rw [if_neg c2] at H
        have c2b0 : decide (x3_1 < (l0.length : Int)) = false := decide_eq_false c2
        clear c2
        obtain rfl := Option.some.inj H
        go_wp2
        go_ret
        exact ⟨by first | rfl | (simp [errW_none, errW_some] <;> rfl) | (simp [errW_none, errW_some] <;> (generalize ByteArray.toList _ = l_ <;> cases l_ <;> rfl)) | (simp [*, errW_none, errW_some] <;> rfl), by repeat (first | (with_reducible first | exact HB.out | apply below_alloc | apply pw_below_drewN | apply below_drew1) | exact HB.out)⟩

/-! ### sennitref21_Marked: function 20 -/
def sennitref21_Marked.l0 : Nat → Int → ByteArray → ByteArray → Option (Bool)
  | 0, _, _, _ => none
  | k + 1, x3, x153000, x153001 => if x3 < (x153000.size : Int) then (if 0 ≤ x3 then (if (bt x153000 x3) = 32 then (sennitref21_Marked.l0 k (wrap64 (x3 + 1)) x153000 x153001) else (some true)) else (none)) else (some false)
def sennitref21_Marked.f (k : Nat) (a0_0 : ByteArray) (a0_1 : ByteArray) : Option (Bool) := sennitref21_Marked.l0 k 0 a0_0 a0_1
theorem sennitref21_Marked.mono_l : ∀ k, (∀ y0 y1 y2, LeO (sennitref21_Marked.l0 k y0 y1 y2) (sennitref21_Marked.l0 (k + 1) y0 y1 y2))
  | 0 => fun _ _ _ r h => by simp [sennitref21_Marked.l0] at h
  | k + 1 => by
    have ih0 := sennitref21_Marked.mono_l k
    · intro y0 y1 y2
      unfold sennitref21_Marked.l0
      repeat' first
      | (with_reducible exact ih0 _ _ _)
      | (with_reducible exact LeO.refl _)
      | (with_reducible exact LeO.none _)
      | (with_reducible refine LeO.ite ?_ ?_)
      | (with_reducible refine LeO.bind ?_ (fun _ => ?_))
      | exact ih0 _ _ _
      | exact LeO.none _
      | refine LeO.ite ?_ ?_
      | refine LeO.bind ?_ (fun _ => ?_)
theorem sennitref21_Marked.mono : ∀ a0 a1 k, LeO (sennitref21_Marked.f k a0 a1) (sennitref21_Marked.f (k + 1) a0 a1) := by
  intro a0 a1 k
  have ih0 := sennitref21_Marked.mono_l k
  unfold sennitref21_Marked.f
  repeat' first
      | (with_reducible exact ih0 _ _ _)
      | (with_reducible exact LeO.refl _)
      | (with_reducible exact LeO.none _)
      | (with_reducible refine LeO.ite ?_ ?_)
      | (with_reducible refine LeO.bind ?_ (fun _ => ?_))
      | exact ih0 _ _ _
      | exact LeO.none _
      | refine LeO.ite ?_ ?_
      | refine LeO.bind ?_ (fun _ => ?_)
end Go.Proofs.YtenfoaajipiehaaDoor.Q
