/- Contracts of the functions named below: each comes to what the Lean function of its name says (for every input; written by a program over the translation). -/
import Derived.Test.YtenfoaajipiehaaDoorQ0
import Derived.Test.YtenfoaajipiehaaDoorR3
namespace Go.Proofs.YtenfoaajipiehaaDoor.Q
open Go.RowKit Go.Proofs.YtenfoaajipiehaaDoorW.PrintWords Go.Proofs.YtenfoaajipiehaaDoorW.PrintLast Go.Proofs.YtenfoaajipiehaaDoorW.PrintMore
attribute [local go_sem] max2_int min2_int max_two min_two max_three min_three max_four min_four   -- for this text's walks alone
set_option linter.unusedVariables false
set_option linter.unusedSimpArgs false
/-! ### sennitref21_may: function 32 -/
def sennitref21_may.l0 : Nat → Int → Bool → Bool → Int → ByteArray → ByteArray → Option (Bool)
  | 0, _, _, _, _, _, _ => none
  | k + 1, x1, x5, x6, x7, x141000, x141001 => if x7 < (x141000.size : Int) then (if 0 ≤ x7 then (if x5 = true then (if x6 = true then (if (bt x141000 x7) = 32 then (sennitref21_may.l0 k x1 true true (wrap64 (x7 + 1)) x141000 x141001) else (if (bt x141000 x7) = 43 then (sennitref21_may.l0 k x1 true true (wrap64 (x7 + 1)) x141000 x141001) else (if (bt x141000 x7) = 45 then (sennitref21_may.l0 k x1 true true (wrap64 (x7 + 1)) x141000 x141001) else (some false)))) else (if (bt x141000 x7) = 32 then (sennitref21_may.l0 k x1 true ((bt x141000 x7) == 45) (wrap64 (x7 + 1)) x141000 x141001) else (if (bt x141000 x7) = 43 then (sennitref21_may.l0 k x1 true ((bt x141000 x7) == 45) (wrap64 (x7 + 1)) x141000 x141001) else (if (bt x141000 x7) = 45 then (sennitref21_may.l0 k x1 true ((bt x141000 x7) == 45) (wrap64 (x7 + 1)) x141000 x141001) else (some false))))) else (if x6 = true then (if (bt x141000 x7) = 32 then (sennitref21_may.l0 k x1 ((bt x141000 x7) == 43) true (wrap64 (x7 + 1)) x141000 x141001) else (if (bt x141000 x7) = 43 then (sennitref21_may.l0 k x1 ((bt x141000 x7) == 43) true (wrap64 (x7 + 1)) x141000 x141001) else (if (bt x141000 x7) = 45 then (sennitref21_may.l0 k x1 ((bt x141000 x7) == 43) true (wrap64 (x7 + 1)) x141000 x141001) else (some false)))) else (if (bt x141000 x7) = 32 then (sennitref21_may.l0 k x1 ((bt x141000 x7) == 43) ((bt x141000 x7) == 45) (wrap64 (x7 + 1)) x141000 x141001) else (if (bt x141000 x7) = 43 then (sennitref21_may.l0 k x1 ((bt x141000 x7) == 43) ((bt x141000 x7) == 45) (wrap64 (x7 + 1)) x141000 x141001) else (if (bt x141000 x7) = 45 then (sennitref21_may.l0 k x1 ((bt x141000 x7) == 43) ((bt x141000 x7) == 45) (wrap64 (x7 + 1)) x141000 x141001) else (some false)))))) else (none)) else (if (x141000.size : Int) = x1 then (if x5 = true then (if x6 = true then (some false) else ((sennitref01_May.f k (([x141001] : List ByteArray))).bind fun t144 => (some t144))) else ((sennitref01_May.f k (([x141001] : List ByteArray))).bind fun t148 => (some t148))) else (some false))
def sennitref21_may.f (k : Nat) (a0_0 : ByteArray) (a0_1 : ByteArray) (a1 : Int) : Option (Bool) := sennitref21_may.l0 k a1 false false 0 a0_0 a0_1
theorem sennitref21_may.mono_l : ∀ k, (∀ y0 y1 y2 y3 y4 y5, LeO (sennitref21_may.l0 k y0 y1 y2 y3 y4 y5) (sennitref21_may.l0 (k + 1) y0 y1 y2 y3 y4 y5))
  | 0 => fun _ _ _ _ _ _ r h => by simp [sennitref21_may.l0] at h
  | k + 1 => by
    have ih0 := sennitref21_may.mono_l k
    · intro y0 y1 y2 y3 y4 y5
      unfold sennitref21_may.l0
      repeat' first
      | (with_reducible exact ih0 _ _ _ _ _ _)
      | (with_reducible exact sennitref01_May.mono _ _)
      | (with_reducible exact LeO.refl _)
      | (with_reducible exact LeO.none _)
      | (with_reducible refine LeO.ite ?_ ?_)
      | (with_reducible refine LeO.bind ?_ (fun _ => ?_))
      | exact ih0 _ _ _ _ _ _
      | exact sennitref01_May.mono _ _
      | exact LeO.none _
      | refine LeO.ite ?_ ?_
      | refine LeO.bind ?_ (fun _ => ?_)
theorem sennitref21_may.mono : ∀ a0 a1 a2 k, LeO (sennitref21_may.f k a0 a1 a2) (sennitref21_may.f (k + 1) a0 a1 a2) := by
  intro a0 a1 a2 k
  have ih0 := sennitref21_may.mono_l k
  unfold sennitref21_may.f
  repeat' first
      | (with_reducible exact ih0 _ _ _ _ _ _)
      | (with_reducible exact sennitref01_May.mono _ _)
      | (with_reducible exact LeO.refl _)
      | (with_reducible exact LeO.none _)
      | (with_reducible refine LeO.ite ?_ ?_)
      | (with_reducible refine LeO.bind ?_ (fun _ => ?_))
      | exact ih0 _ _ _ _ _ _
      | exact sennitref01_May.mono _ _
      | exact LeO.none _
      | refine LeO.ite ?_ ?_
      | refine LeO.bind ?_ (fun _ => ?_)
/-! ### sennitref21_May: function 14 -/
def sennitref21_May.l0 : Nat → List (S41) → Int → Option (Bool)
  | 0, _, _ => none
  | k + 1, x0, x3 => if x3 < (x0.length : Int) then (if 0 < (x0.length : Int) then (if (((rd_T41 x0 0).f0).size : Int) < 1 then (some false) else (if (((rd_T41 x0 0).f0).size : Int) > 16 then (some false) else (if 0 ≤ x3 then ((sennitref21_may.f k ((rd_T41 x0 x3).f0) ((rd_T41 x0 x3).f1) (((rd_T41 x0 0).f0).size : Int)).bind fun t151 => (if t151 = true then (sennitref21_May.l0 k x0 (wrap64 (x3 + 1))) else (some false))) else (none)))) else (none)) else (some true)
def sennitref21_May.f (k : Nat) (l0 : List (S41)) : Option (Bool) := sennitref21_May.l0 k l0 0
theorem sennitref21_May.mono_l : ∀ k, (∀ y0 y1, LeO (sennitref21_May.l0 k y0 y1) (sennitref21_May.l0 (k + 1) y0 y1))
  | 0 => fun _ _ r h => by simp [sennitref21_May.l0] at h
  | k + 1 => by
    have ih0 := sennitref21_May.mono_l k
    · intro y0 y1
      unfold sennitref21_May.l0
      repeat' first
      | (with_reducible exact ih0 _ _)
      | (with_reducible exact sennitref21_may.mono _ _ _ _)
      | (with_reducible exact LeO.refl _)
      | (with_reducible exact LeO.none _)
      | (with_reducible refine LeO.ite ?_ ?_)
      | (with_reducible refine LeO.bind ?_ (fun _ => ?_))
      | exact ih0 _ _
      | exact sennitref21_may.mono _ _ _ _
      | exact LeO.none _
      | refine LeO.ite ?_ ?_
      | refine LeO.bind ?_ (fun _ => ?_)
theorem sennitref21_May.mono : ∀ a0 k, LeO (sennitref21_May.f k a0) (sennitref21_May.f (k + 1) a0) := by
  intro a0 k
  have ih0 := sennitref21_May.mono_l k
  unfold sennitref21_May.f
  repeat' first
      | (with_reducible exact ih0 _ _)
      | (with_reducible exact sennitref21_may.mono _ _ _ _)
      | (with_reducible exact LeO.refl _)
      | (with_reducible exact LeO.none _)
      | (with_reducible refine LeO.ite ?_ ?_)
      | (with_reducible refine LeO.bind ?_ (fun _ => ?_))
      | exact ih0 _ _
      | exact sennitref21_may.mono _ _ _ _
      | exact LeO.none _
      | refine LeO.ite ?_ ?_
      | refine LeO.bind ?_ (fun _ => ?_)
/-! ### sennitref21_Marked: function 20 -/
def sennitref21_Marked.l0 : Nat → Int → ByteArray → ByteArray → Option (Bool)
  | 0, _, _, _ => none
  | k + 1, x3, x153000, x153001 => if x3 < (x153000.size : Int) then (if 0 ≤ x3 then (if (bt x153000 x3) = 32 then (sennitref21_Marked.l0 k (wrap64 (x3 + 1)) x153000 x153001) else (some true)) else (none)) else (some false)
def sennitref21_Marked.f (k : Nat) (a0_0 : ByteArray) (a0_1 : ByteArray) : Option (Bool) := sennitref21_Marked.l0 k 0 a0_0 a0_1
theorem sennitref21_Marked.mono_l : ∀ k, (∀ y0 y1 y2, LeO (sennitref21_Marked.l0 k y0 y1 y2) (sennitref21_Marked.l0 (k + 1) y0 y1 y2))
  | 0 => fun _ _ _ r h => by simp [sennitref21_Marked.l0] at h
  | k + 1 => by
    have ih0 := sennitref21_Marked.mono_l k
    · intro y0 y1 y2
      unfold sennitref21_Marked.l0
      repeat' first
      | (with_reducible exact ih0 _ _ _)
      | (with_reducible exact LeO.refl _)
      | (with_reducible exact LeO.none _)
      | (with_reducible refine LeO.ite ?_ ?_)
      | (with_reducible refine LeO.bind ?_ (fun _ => ?_))
      | exact ih0 _ _ _
      | exact LeO.none _
      | refine LeO.ite ?_ ?_
      | refine LeO.bind ?_ (fun _ => ?_)
theorem sennitref21_Marked.mono : ∀ a0 a1 k, LeO (sennitref21_Marked.f k a0 a1) (sennitref21_Marked.f (k + 1) a0 a1) := by
  intro a0 a1 k
  have ih0 := sennitref21_Marked.mono_l k
  unfold sennitref21_Marked.f
  repeat' first
      | (with_reducible exact ih0 _ _ _)
      | (with_reducible exact LeO.refl _)
      | (with_reducible exact LeO.none _)
      | (with_reducible refine LeO.ite ?_ ?_)
      | (with_reducible refine LeO.bind ?_ (fun _ => ?_))
      | exact ih0 _ _ _
      | exact LeO.none _
      | refine LeO.ite ?_ ?_
      | refine LeO.bind ?_ (fun _ => ?_)
set_option maxHeartbeats 8000000 in
set_option maxRecDepth 100000 in
theorem sennitref21_Marked.calls (k : Nat) (a0_0 : ByteArray) (a0_1 : ByteArray) (r : Bool) (w : World) (h : sennitref21_Marked.f k a0_0 a0_1 = some r) :
    Calls Tryd.prog 20 #[.agg #[.string a0_0, .string a0_1]] w fun e w' => e = .returned (.bool r) ∧ Below w.heap.size w w' := by
  have hu41 := Tryd.underlying41
  have HB := Aside0.mk (Below.refl w.heap.size w)
  have H : (sennitref21_Marked.l0 k 0 a0_0 a0_1) = some r := h
  clear h
  have H' := Aside0.mk H
  clear H
  go_enter Tryd.func20, Tryd.ntmps20
  go_wp2_with (first | ((with_reducible refine gate_dst (N := 1) rfl ?_); refine box_event ?hg (N := 1) ?hd (cs := #[.string a0_0, .string a0_1]) (t := 41) ?hr ?_; (case hd => rfl); (case hg => rfl); (case hr => first | (go_simp; done) | (go_simp; rfl)); intro gb152 hg w2 hbox hb; have n0_ := Aside0.mk (below_step (by repeat (first | (with_reducible first | exact HB.out | apply below_alloc | apply pw_below_drewN | apply below_drew1) | exact HB.out)) hb); have n1_ := Aside0.mk (hbox); have n2_ := Aside0.mk ((by rw [hg]; exact (below_size (by repeat (first | (with_reducible first | exact HB.out | apply below_alloc | apply pw_below_drewN | apply below_drew1) | exact HB.out))) : w.heap.size ≤ gb152)); have n3_ := Aside0.mk ((by rw [hg]; exact (below_size (by repeat (first | (with_reducible first | exact HB.out | apply below_alloc | apply pw_below_drewN | apply below_drew1) | exact HB.out))) : w.heap.size ≤ gb152)); clear HB; have HB := n0_; have BK152 := n1_; have GW152 := n2_; have GE152 := n3_; clear n0_ n1_ n2_ n3_; clear hb hbox hg))
  go_loopg [3] k (fun kq v3 w' => ∃ (x3_1 : Int), v3 = .int .i64 x3_1 ∧ Aside0 (sennitref21_Marked.l0 kq x3_1 a0_0 a0_1 = some r) ∧ Aside0 (kq ≤ k) ∧ Aside0 (w'.heap[gb152]? = some (.cells #[.string a0_0, .string a0_1] 41 (0, 0))) ∧ Aside0 (Below w.heap.size w w'))
  case atStart => exact ⟨(0), (by first | rfl | (simp; done) | (simp [*]; done)), H', ⟨Nat.le_refl _⟩, ⟨by (with_reducible repeat (first | refine blk_drewN ?_ _ | refine blk_drew ?_ | refine blk_alloc ?_ _)); exact BK152.out⟩, ⟨by repeat (first | (with_reducible first | exact HB.out | apply below_alloc | apply pw_below_drewN | apply below_drew1 | refine below_set ?_ GE152.out) | exact HB.out)⟩⟩
  case round =>
    clear H'
    try clear c2
    try clear p2
    obtain ⟨x3_1, rfl, HA, HK1, BK152, HB⟩ := hrel
    cases gk with
    | zero => exact absurd HA.out (by simp [sennitref21_Marked.l0])
    | succ k1 =>
      have H := HA.out
      clear HA
      simp only [sennitref21_Marked.l0] at H
      by_cases c3 : x3_1 < (a0_0.size : Int)
      · rw [if_pos c3] at H
        have c3b0 : decide (x3_1 < (a0_0.size : Int)) = true := decide_eq_true c3
        clear c3
        by_cases c4 : 0 ≤ x3_1
        · rw [if_pos c4] at H
          have c4b0 : decide (0 ≤ x3_1) = true := decide_eq_true c4
          clear c4
          by_cases c6 : (bt a0_0 x3_1) = 32
          · rw [if_pos c6] at H
            have c6b0 : ((bt a0_0 x3_1) == 32) = true := beq_iff_eq.mpr c6
            have c6b1 : ((bt a0_0 x3_1) != 32) = false := bne_eq_false_iff_eq.mpr c6
            clear c6
            have H' := Aside0.mk H
            clear H
            have hcz7_0 : wr.cell? ⟨gb152, 0, none⟩ = some (.string a0_0) := (blk_cell BK152.out 0).trans rfl
            have hcz7_1 : wr.cell? ⟨gb152, 1, none⟩ = some (.string a0_1) := (blk_cell BK152.out 1).trans rfl
            have hfz7_0 := blk_frozen BK152.out 0
            have hfz7_1 := blk_frozen BK152.out 1
            have p5 : 0 ≤ (x3_1 : Int) := of_decide_eq_true (by first | (with_reducible assumption) | assumption)
            have q5 : x3_1 < (a0_0.size : Int) := of_decide_eq_true (by first | (with_reducible assumption) | assumption)
            have hx5 := bt_at a0_0 x3_1
            replace p5 := eq_true p5
            replace q5 := eq_true q5
            go_wp2
            go_roundg k1
            case measure => have := HK1.out; omega
            case rel => exact ⟨(wrap64 (x3_1 + 1)), (by first | rfl | (simp; done) | (simp [*]; done)), H', ⟨by have := HK1.out; omega⟩, ⟨by (with_reducible repeat (first | refine blk_drewN ?_ _ | refine blk_drew ?_ | refine blk_alloc ?_ _)); exact BK152.out⟩, ⟨by repeat (first | (with_reducible first | exact HB.out | apply below_alloc | apply pw_below_drewN | apply below_drew1 | refine below_set ?_ GE152.out) | exact HB.out)⟩⟩
          · rw [if_neg c6] at H
            have c6b0 : ((bt a0_0 x3_1) == 32) = false := beq_eq_false_iff_ne.mpr c6
            have c6b1 : ((bt a0_0 x3_1) != 32) = true := bne_iff_ne.mpr c6
            obtain rfl := Option.some.inj H
            have hcz8_0 : wr.cell? ⟨gb152, 0, none⟩ = some (.string a0_0) := (blk_cell BK152.out 0).trans rfl
            have hcz8_1 : wr.cell? ⟨gb152, 1, none⟩ = some (.string a0_1) := (blk_cell BK152.out 1).trans rfl
            have hfz8_0 := blk_frozen BK152.out 0
            have hfz8_1 := blk_frozen BK152.out 1
            have p5 : 0 ≤ (x3_1 : Int) := of_decide_eq_true (by first | (with_reducible assumption) | assumption)
            have q5 : x3_1 < (a0_0.size : Int) := of_decide_eq_true (by first | (with_reducible assumption) | assumption)
            have hx5 := bt_at a0_0 x3_1
            replace p5 := eq_true p5
            replace q5 := eq_true q5
            go_wp2
            go_ret
            exact ⟨by first | rfl | (simp [errW_none, errW_some] <;> rfl) | (simp [errW_none, errW_some] <;> (generalize ByteArray.toList _ = l_ <;> cases l_ <;> rfl)) | (simp [*, errW_none, errW_some] <;> rfl), by repeat (first | (with_reducible first | exact HB.out | apply below_alloc | apply pw_below_drewN | apply below_drew1 | refine below_set ?_ GE152.out) | exact HB.out)⟩
        · rw [if_neg c4] at H
          exact absurd H (by simp)
      · rw [if_neg c3] at H
        have c3b0 : decide (x3_1 < (a0_0.size : Int)) = false := decide_eq_false c3
        clear c3
        obtain rfl := Option.some.inj H
        have hcz9_0 : wr.cell? ⟨gb152, 0, none⟩ = some (.string a0_0) := (blk_cell BK152.out 0).trans rfl
        have hcz9_1 : wr.cell? ⟨gb152, 1, none⟩ = some (.string a0_1) := (blk_cell BK152.out 1).trans rfl
        have hfz9_0 := blk_frozen BK152.out 0
        have hfz9_1 := blk_frozen BK152.out 1
        go_wp2
        go_ret
        exact ⟨by first | rfl | (simp [errW_none, errW_some] <;> rfl) | (simp [errW_none, errW_some] <;> (generalize ByteArray.toList _ = l_ <;> cases l_ <;> rfl)) | (simp [*, errW_none, errW_some] <;> rfl), by repeat (first | (with_reducible first | exact HB.out | apply below_alloc | apply pw_below_drewN | apply below_drew1 | refine below_set ?_ GE152.out) | exact HB.out)⟩

end Go.Proofs.YtenfoaajipiehaaDoor.Q
