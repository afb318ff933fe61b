/- Contracts of the functions named below: each comes to what the Lean function of its name says (for every input; written by a program over the translation). -/
import Derived.Test.YtenfoaajipiehaaDoorQ0
import Derived.Test.YtenfoaajipiehaaDoorQ3
namespace Go.Proofs.YtenfoaajipiehaaDoor.Q
open Go.RowKit Go.Proofs.YtenfoaajipiehaaDoorW.PrintWords Go.Proofs.YtenfoaajipiehaaDoorW.PrintLast Go.Proofs.YtenfoaajipiehaaDoorW.PrintMore
attribute [local go_sem] max2_int min2_int max_two min_two max_three min_three max_four min_four   -- for this text's walks alone
set_option linter.unusedVariables false
set_option linter.unusedSimpArgs false
/-! ### hunk_show: function 27 -/
mutual
def hunk_show.l0 : Nat → List Bool → List (S41) → Int → Int → Int → Int → Option (List Bool)
  | 0, _, _, _, _, _, _ => none
  | k + 1, x0, x1, x3, x8, x123000, x123001 => if x8 < x123001 then (if 0 ≤ x8 then (if x8 < (x0.length : Int) then (hunk_show.l0 k (x0.set (x8 : Int).toNat true) x1 x3 (wrap64 (x8 + 1)) x123000 x123001) else (none)) else (none)) else (hunk_show.l1 k x0 x1 x3 (wrap64 (x123000 - 1)) x123000 x123001)
def hunk_show.j2 : Nat → List Bool → List (S41) → Int → Int → Int → Option (List Bool)
  | 0, _, _, _, _, _ => none
  | k + 1, x0, x1, x3, x123000, x123001 => hunk_show.l2 k x0 x1 x3 x123001 x123000 x123001
def hunk_show.l2 : Nat → List Bool → List (S41) → Int → Int → Int → Int → Option (List Bool)
  | 0, _, _, _, _, _, _ => none
  | k + 1, x0, x1, x3, x10, x123000, x123001 => if x10 < (x1.length : Int) then (if x10 < (wrap64 (x123001 + x3)) then (if 0 ≤ x10 then ((hunk_marked.f ((rd_T41 x1 x10).f0) ((rd_T41 x1 x10).f1)).bind fun t128 => (if t128 = true then (some x0) else (if x10 < (x0.length : Int) then (hunk_show.l2 k (x0.set (x10 : Int).toNat true) x1 x3 (wrap64 (x10 + 1)) x123000 x123001) else (none)))) else (none)) else (some x0)) else (some x0)
def hunk_show.l1 : Nat → List Bool → List (S41) → Int → Int → Int → Int → Option (List Bool)
  | 0, _, _, _, _, _, _ => none
  | k + 1, x0, x1, x3, x9, x123000, x123001 => if x9 ≥ 0 then (if x9 ≥ (wrap64 (x123000 - x3)) then (if 0 ≤ x9 then (if x9 < (x1.length : Int) then ((hunk_marked.f ((rd_T41 x1 x9).f0) ((rd_T41 x1 x9).f1)).bind fun t125 => (if t125 = true then (hunk_show.j2 k x0 x1 x3 x123000 x123001) else (if x9 < (x0.length : Int) then (hunk_show.l1 k (x0.set (x9 : Int).toNat true) x1 x3 (wrap64 (x9 - 1)) x123000 x123001) else (none)))) else (none)) else (none)) else (hunk_show.j2 k x0 x1 x3 x123000 x123001)) else (hunk_show.j2 k x0 x1 x3 x123000 x123001)
end
def hunk_show.f (k : Nat) (l0 : List Bool) (l1 : List (S41)) (a2_0 : Int) (a2_1 : Int) (a3 : Int) : Option (List Bool) := hunk_show.l0 k l0 l1 a3 a2_0 a2_0 a2_1
theorem hunk_show.mono_l : ∀ k, (∀ y0 y1 y2 y3 y4 y5, LeO (hunk_show.l0 k y0 y1 y2 y3 y4 y5) (hunk_show.l0 (k + 1) y0 y1 y2 y3 y4 y5)) ∧ (∀ y0 y1 y2 y3 y4, LeO (hunk_show.j2 k y0 y1 y2 y3 y4) (hunk_show.j2 (k + 1) y0 y1 y2 y3 y4)) ∧ (∀ y0 y1 y2 y3 y4 y5, LeO (hunk_show.l2 k y0 y1 y2 y3 y4 y5) (hunk_show.l2 (k + 1) y0 y1 y2 y3 y4 y5)) ∧ (∀ y0 y1 y2 y3 y4 y5, LeO (hunk_show.l1 k y0 y1 y2 y3 y4 y5) (hunk_show.l1 (k + 1) y0 y1 y2 y3 y4 y5))
  | 0 => ⟨fun _ _ _ _ _ _ r h => by simp [hunk_show.l0] at h, fun _ _ _ _ _ r h => by simp [hunk_show.j2] at h, fun _ _ _ _ _ _ r h => by simp [hunk_show.l2] at h, fun _ _ _ _ _ _ r h => by simp [hunk_show.l1] at h⟩
  | k + 1 => by
    obtain ⟨ih0, ih1, ih2, ih3⟩ := hunk_show.mono_l k
    refine ⟨?_, ?_, ?_, ?_⟩
    · intro y0 y1 y2 y3 y4 y5
      unfold hunk_show.l0
      repeat' first
      | (with_reducible exact ih0 _ _ _ _ _ _)
      | (with_reducible exact ih1 _ _ _ _ _)
      | (with_reducible exact ih2 _ _ _ _ _ _)
      | (with_reducible exact ih3 _ _ _ _ _ _)
      | (with_reducible exact LeO.refl _)
      | (with_reducible exact LeO.none _)
      | (with_reducible refine LeO.ite ?_ ?_)
      | (with_reducible refine LeO.bind ?_ (fun _ => ?_))
      | exact ih0 _ _ _ _ _ _
      | exact ih1 _ _ _ _ _
      | exact ih2 _ _ _ _ _ _
      | exact ih3 _ _ _ _ _ _
      | exact LeO.none _
      | refine LeO.ite ?_ ?_
      | refine LeO.bind ?_ (fun _ => ?_)
    · intro y0 y1 y2 y3 y4
      unfold hunk_show.j2
      repeat' first
      | (with_reducible exact ih0 _ _ _ _ _ _)
      | (with_reducible exact ih1 _ _ _ _ _)
      | (with_reducible exact ih2 _ _ _ _ _ _)
      | (with_reducible exact ih3 _ _ _ _ _ _)
      | (with_reducible exact LeO.refl _)
      | (with_reducible exact LeO.none _)
      | (with_reducible refine LeO.ite ?_ ?_)
      | (with_reducible refine LeO.bind ?_ (fun _ => ?_))
      | exact ih0 _ _ _ _ _ _
      | exact ih1 _ _ _ _ _
      | exact ih2 _ _ _ _ _ _
      | exact ih3 _ _ _ _ _ _
      | exact LeO.none _
      | refine LeO.ite ?_ ?_
      | refine LeO.bind ?_ (fun _ => ?_)
    · intro y0 y1 y2 y3 y4 y5
      unfold hunk_show.l2
      repeat' first
      | (with_reducible exact ih0 _ _ _ _ _ _)
      | (with_reducible exact ih1 _ _ _ _ _)
      | (with_reducible exact ih2 _ _ _ _ _ _)
      | (with_reducible exact ih3 _ _ _ _ _ _)
      | (with_reducible exact LeO.refl _)
      | (with_reducible exact LeO.none _)
      | (with_reducible refine LeO.ite ?_ ?_)
      | (with_reducible refine LeO.bind ?_ (fun _ => ?_))
      | exact ih0 _ _ _ _ _ _
      | exact ih1 _ _ _ _ _
      | exact ih2 _ _ _ _ _ _
      | exact ih3 _ _ _ _ _ _
      | exact LeO.none _
      | refine LeO.ite ?_ ?_
      | refine LeO.bind ?_ (fun _ => ?_)
    · intro y0 y1 y2 y3 y4 y5
      unfold hunk_show.l1
      repeat' first
      | (with_reducible exact ih0 _ _ _ _ _ _)
      | (with_reducible exact ih1 _ _ _ _ _)
      | (with_reducible exact ih2 _ _ _ _ _ _)
      | (with_reducible exact ih3 _ _ _ _ _ _)
      | (with_reducible exact LeO.refl _)
      | (with_reducible exact LeO.none _)
      | (with_reducible refine LeO.ite ?_ ?_)
      | (with_reducible refine LeO.bind ?_ (fun _ => ?_))
      | exact ih0 _ _ _ _ _ _
      | exact ih1 _ _ _ _ _
      | exact ih2 _ _ _ _ _ _
      | exact ih3 _ _ _ _ _ _
      | exact LeO.none _
      | refine LeO.ite ?_ ?_
      | refine LeO.bind ?_ (fun _ => ?_)
theorem hunk_show.mono : ∀ a0 a1 a2 a3 a4 k, LeO (hunk_show.f k a0 a1 a2 a3 a4) (hunk_show.f (k + 1) a0 a1 a2 a3 a4) := by
  intro a0 a1 a2 a3 a4 k
  obtain ⟨ih0, ih1, ih2, ih3⟩ := hunk_show.mono_l k
  unfold hunk_show.f
  repeat' first
      | (with_reducible exact ih0 _ _ _ _ _ _)
      | (with_reducible exact ih1 _ _ _ _ _)
      | (with_reducible exact ih2 _ _ _ _ _ _)
      | (with_reducible exact ih3 _ _ _ _ _ _)
      | (with_reducible exact LeO.refl _)
      | (with_reducible exact LeO.none _)
      | (with_reducible refine LeO.ite ?_ ?_)
      | (with_reducible refine LeO.bind ?_ (fun _ => ?_))
      | exact ih0 _ _ _ _ _ _
      | exact ih1 _ _ _ _ _
      | exact ih2 _ _ _ _ _ _
      | exact ih3 _ _ _ _ _ _
      | exact LeO.none _
      | refine LeO.ite ?_ ?_
      | refine LeO.bind ?_ (fun _ => ?_)
set_option maxHeartbeats 8000000 in
set_option maxRecDepth 100000 in
theorem hunk_show.calls (k : Nat) (P0_ : Nat → Prop) (u9000_ : Value) (l0 : List Bool) (A1 : Option Addr) (c1 : Nat) (l1 : List (S41)) (a2_0 : Int) (a2_1 : Int) (a3 : Int) (r : List Bool) (w0 w : World) (hB : Below w0.heap.size w0 w) (ho0 : Kd.R Kd.bool 4 w w0.heap.size P0_ u9000_ l0) (hr1 : ∀ W_, Kept w W_ (fun k_ => P0_ k_) → Kd.C k41 W_ A1 l1.length l1) (hc1 : l1.length ≤ c1) (h : hunk_show.f k l0 l1 a2_0 a2_1 a3 = some r) :
    Calls Tryd.prog 27 #[u9000_, .slice A1 l1.length c1, .agg #[.int .i64 a2_0, .int .i64 a2_1], .int .i64 a3] w fun e w' => e = .returned (.tuple #[]) ∧ Kd.R Kd.bool 4 w' w0.heap.size (fun k_ => (P0_ k_ ∨ w.heap.size ≤ k_)) u9000_ r ∧ Below w0.heap.size w0 w' ∧ Kept w w' (fun k_ => P0_ k_) := by
  have hu36 := Tryd.underlying36
  have hu41 := Tryd.underlying41
  have HO0 := Aside0.mk (show Kd.R Kd.bool 4 w w0.heap.size (fun k_ => (P0_ k_ ∨ w.heap.size ≤ k_)) u9000_ l0 from Kd.R_mono ho0 (fun k_ hk => (.inl hk)))
  have HR1 := Aside0.mk hr1
  have HC1 := Aside0.mk hc1
  clear hr1 hc1
  have HK := Aside0.mk (Kept.refl w (fun k_ => P0_ k_))
  have HW0 := Aside0.mk hB.size
  have HB := Aside0.mk hB
  clear hB
  have H : (hunk_show.l0 k l0 l1 a3 a2_0 a2_0 a2_1) = some r := h
  clear h
  have H' := Aside0.mk H
  clear H
  go_enter Tryd.func27, Tryd.ntmps27
  go_wp2_with (first | ((with_reducible refine gate_dst (N := 6) rfl ?_); refine box_event ?hg (N := 6) ?hd (cs := #[.int .i64 a2_0, .int .i64 a2_1]) (t := 36) ?hr ?_; (case hd => rfl); (case hg => rfl); (case hr => first | (go_simp; done) | (go_simp; rfl)); intro gb122 hg w5 hbox hb; have n0_ := Aside0.mk (Kd.R_below (by (with_reducible repeat (first | apply Kd.R_alloc | apply Kd.R_drewN | apply Kd.R_drew)); exact HO0.out) hb); have n1_ := Aside0.mk (Kept.below (S := (fun k_ => P0_ k_)) (by repeat (first | (with_reducible first | exact HK.out | apply Kept.alloc | apply Kept.drewN | apply Kept.drew) | exact HK.out)) hb); have n2_ := Aside0.mk (below_step (by repeat (first | (with_reducible first | exact HB.out | apply below_alloc | apply pw_below_drewN | apply below_drew1) | exact HB.out)) hb); have n3_ := Aside0.mk (hbox); have n4_ := Aside0.mk ((by rw [hg]; exact (by first | exact HK.out.1 | exact (show Kept w _ (fun k_ => P0_ k_) from by repeat (first | (with_reducible first | exact HK.out | apply Kept.alloc | apply Kept.drewN | apply Kept.drew) | exact HK.out)).1) : w.heap.size ≤ gb122)); have n5_ := Aside0.mk ((by rw [hg]; exact (below_size (by repeat (first | (with_reducible first | exact HB.out | apply below_alloc | apply pw_below_drewN | apply below_drew1) | exact HB.out))) : w0.heap.size ≤ gb122)); clear HO0; clear HK; clear HB; have HO0 := n0_; have HK := n1_; have HB := n2_; have BK122 := n3_; have GW122 := n4_; have GE122 := n5_; clear n0_ n1_ n2_ n3_ n4_ n5_; clear hb hbox hg; have hcz6_0 : w5.cell? ⟨gb122, 0, none⟩ = some (.int .i64 a2_0) := (blk_cell BK122.out 0).trans rfl; have hcz6_1 : w5.cell? ⟨gb122, 1, none⟩ = some (.int .i64 a2_1) := (blk_cell BK122.out 1).trans rfl; have hfz6_0 := blk_frozen BK122.out 0; have hfz6_1 := blk_frozen BK122.out 1))
  go_loopg [8] k (fun kq v8 w' => ∃ (x0_1 : List Bool) (x8_1 : Int), v8 = .int .i64 x8_1 ∧ Aside0 (hunk_show.l0 kq x0_1 l1 a3 x8_1 a2_0 a2_1 = some r) ∧ Aside0 (kq ≤ k) ∧ Aside0 (Kd.R Kd.bool 4 w' w0.heap.size (fun k_ => (P0_ k_ ∨ w.heap.size ≤ k_)) u9000_ x0_1) ∧ Aside0 (w'.heap[gb122]? = some (.cells #[.int .i64 a2_0, .int .i64 a2_1] 36 (0, 0))) ∧ Aside0 (Kept w w' (fun k_ => P0_ k_)) ∧ Aside0 (Below w0.heap.size w0 w'))
  case atStart => exact ⟨(l0), (a2_0), (by first | rfl | (simp; done) | (simp [*]; done)), H', ⟨Nat.le_refl _⟩, ⟨by (with_reducible repeat (first | apply Kd.R_alloc | apply Kd.R_drewN | apply Kd.R_drew)); exact HO0.out⟩, ⟨by (with_reducible repeat (first | refine blk_drewN ?_ _ | refine blk_drew ?_ | refine blk_alloc ?_ _)); exact BK122.out⟩, ⟨by repeat (first | (with_reducible first | exact HK.out | apply Kept.alloc | apply Kept.drewN | apply Kept.drew | refine Kept.setCell ?_ (.inr GW122.out) _) | exact HK.out)⟩, ⟨by repeat (first | (with_reducible first | exact HB.out | apply below_alloc | apply pw_below_drewN | apply below_drew1 | refine below_set ?_ GE122.out) | exact HB.out)⟩⟩
  case round =>
    clear H'
    try clear c1
    try clear c2
    try clear p2
    try clear hcz6_0
    try clear hcz6_1
    try clear hfz6_0
    try clear hfz6_1
    obtain ⟨x0_1, x8_1, rfl, HA, HK1, HO_0, BK122, HK, HB⟩ := hrel
    cases gk with
    | zero => exact absurd HA.out (by simp [hunk_show.l0])
    | succ k1 =>
      have H := HA.out
      clear HA
      simp only [hunk_show.l0] at H
      by_cases c7 : x8_1 < a2_1
      · rw [if_pos c7] at H
        have c7b0 : decide (x8_1 < a2_1) = true := decide_eq_true c7
        clear c7
        by_cases c8 : 0 ≤ x8_1
        · rw [if_pos c8] at H
          have c8b0 : decide (0 ≤ x8_1) = true := decide_eq_true c8
          clear c8
          by_cases c9 : x8_1 < (x0_1.length : Int)
          · rw [if_pos c9] at H
            have c9b0 : decide (x8_1 < (x0_1.length : Int)) = true := decide_eq_true c9
            clear c9
            obtain ⟨y123, hy123⟩ : ∃ y_ : List Bool, y_ = (x0_1.set (x8_1 : Int).toNat true) := ⟨_, rfl⟩
            replace H : (hunk_show.l0 k1 y123 l1 a3 (wrap64 (x8_1 + 1)) a2_0 a2_1) = some r := by first | (rw [hy123]; with_reducible exact H) | (have H2_ := (Option.bind_some _ _).symm.trans H; rw [hy123]; with_reducible exact H2_) | (have H2_ := (Option.bind_some _ _).symm.trans H; with_reducible exact H2_) | with_reducible exact H | (rw [hy123]; exact H) | exact H
            have Ny123 := Aside0.mk hy123
            clear hy123
            have H' := Aside0.mk H
            clear H
            have hcz11_0 : wr.cell? ⟨gb122, 0, none⟩ = some (.int .i64 a2_0) := (blk_cell BK122.out 0).trans rfl
            have hcz11_1 : wr.cell? ⟨gb122, 1, none⟩ = some (.int .i64 a2_1) := (blk_cell BK122.out 1).trans rfl
            have hfz11_0 := blk_frozen BK122.out 0
            have hfz11_1 := blk_frozen BK122.out 1
            have p10 : 0 ≤ (x8_1 : Int) := of_decide_eq_true (by first | (with_reducible assumption) | assumption)
            have q10 : (x8_1 : Int) < ((x0_1.length : Int) : Int) := of_decide_eq_true (by first | (with_reducible assumption) | assumption)
            obtain ⟨go10, co10, eo10, gb10, gl10, cl10, HG10⟩ := Kd.R_form HO_0.out (by omega)
            (first | cases eo10 | (injection eo10 with ea_ en_ ec_; (first | subst ea_ | (injection ea_ with ea_; subst ea_)); subst ec_; clear en_))
            have GB10 := Aside0.mk gb10
            have GG10 := Aside0.mk HG10
            clear gb10 gl10 HG10
            have HMgo10 := Aside0.mk (show (P0_ go10 ∨ w.heap.size ≤ go10) from (HO_0.out.1 _ rfl))
            obtain ⟨hx10_0, hf10_0⟩ := Kd.R_celln false HO_0.out (x8_1 : Int) p10 q10
            replace p10 := eq_true p10
            replace q10 := eq_true q10
            have HP12 := Kd.R_putg HO_0.out (x8_1 : Int) true
            go_wp2_with (first | ((with_reducible refine gate_store (t := 4) (p := 21) rfl ?_); refine store_event (t := 4) (p := 21) (v := ?vo_w13) (w1 := (wr.setCell ⟨go10, (x8_1 : Int).toNat, none⟩ (.bool true))) ?hg ?ho ?hn ?hr ?_; (case ho => rfl); (case hg => rfl); (case hn => rfl); (case hr => first | (go_simp; done) | (go_simp; rfl)); intro w13 hw; have hg : wr.grownBy w13 (some go10) := (by rw [hw]; exact HP12.2); have hp_ : Kd.R Kd.bool 4 w13 w0.heap.size (fun k_ => (P0_ k_ ∨ w.heap.size ≤ k_)) (.slice (some ⟨go10, 0, none⟩) x0_1.length co10) y123 := (by rw [hw, Ny123.out]; exact HP12.1); clear HP12; have n0_ := Aside0.mk (hp_); have n1_ := Aside0.mk (blk_grown (g := gb122) (o := .cells #[.int .i64 a2_0, .int .i64 a2_1] 36 (0, 0)) (by (with_reducible repeat (first | refine blk_drewN ?_ _ | refine blk_drew ?_ | refine blk_alloc ?_ _)); exact BK122.out) hg (Kd.R_ne HO_0.out BK122.out (by decide))); have n2_ := Aside0.mk ((by rw [hw]; exact below_set (HB.out) GB10.out : Below w0.heap.size w0 w13)); have n3_ := Aside0.mk (Kept.of_grown (S := (fun k_ => P0_ k_)) hg (by repeat (first | (with_reducible first | exact HK.out | apply Kept.alloc | apply Kept.drewN | apply Kept.drew | refine Kept.setCell ?_ (.inr GW122.out) _) | exact HK.out)) (fun k_ e_ => (HO_0.out.1 k_ e_))); clear HO_0; clear BK122; clear HB; clear HK; have HO_0 := n0_; have BK122 := n1_; have HB := n2_; have HK := n3_; clear n0_ n1_ n2_ n3_; clear hg hw hp_))
            go_roundg k1
            case measure => have := HK1.out; omega
            case rel => exact ⟨(y123), (wrap64 (x8_1 + 1)), (by first | rfl | (simp; done) | (simp [*]; done)), H', ⟨by have := HK1.out; omega⟩, ⟨by (with_reducible repeat (first | apply Kd.R_alloc | apply Kd.R_drewN | apply Kd.R_drew)); exact HO_0.out⟩, ⟨by (with_reducible repeat (first | refine blk_drewN ?_ _ | refine blk_drew ?_ | refine blk_alloc ?_ _)); exact BK122.out⟩, ⟨by repeat (first | (with_reducible first | exact HK.out | apply Kept.alloc | apply Kept.drewN | apply Kept.drew | refine Kept.setCell ?_ (.inr GW122.out) _) | exact HK.out)⟩, ⟨by repeat (first | (with_reducible first | exact HB.out | apply below_alloc | apply pw_below_drewN | apply below_drew1 | refine below_set ?_ GE122.out) | exact HB.out)⟩⟩
          · rw [if_neg c9] at H
            exact absurd H (by simp)
        · rw [if_neg c8] at H
          exact absurd H (by simp)
      · rw [if_neg c7] at H
        have c7b0 : decide (x8_1 < a2_1) = false := decide_eq_false c7
        clear c7
        have HC14 := Aside0.mk H
        clear H
        have hcz15_0 : wr.cell? ⟨gb122, 0, none⟩ = some (.int .i64 a2_0) := (blk_cell BK122.out 0).trans rfl
        have hcz15_1 : wr.cell? ⟨gb122, 1, none⟩ = some (.int .i64 a2_1) := (blk_cell BK122.out 1).trans rfl
        have hfz15_0 := blk_frozen BK122.out 0
        have hfz15_1 := blk_frozen BK122.out 1
        go_upto_block 2 with (fail)
        go_cut [] (fun wc => ∃ (kq : Nat) (x0_13 : List Bool), Aside0 (hunk_show.j2 kq x0_13 l1 a3 a2_0 a2_1 = some r) ∧ Aside0 (kq ≤ k1) ∧ Aside0 (Kd.R Kd.bool 4 wc w0.heap.size (fun k_ => (P0_ k_ ∨ w.heap.size ≤ k_)) u9000_ x0_13) ∧ Aside0 (wc.heap[gb122]? = some (.cells #[.int .i64 a2_0, .int .i64 a2_1] 36 (0, 0))) ∧ Aside0 (Kept w wc (fun k_ => P0_ k_)) ∧ Aside0 (Below w0.heap.size w0 wc))
        case first =>
          have H := HC14.out
          clear HC14
          have H' := Aside0.mk H
          clear H
          go_wp2
          go_loopg [9] k1 (fun kq v9 w' => ∃ (x0_2 : List Bool) (x9_2 : Int), v9 = .int .i64 x9_2 ∧ Aside0 (hunk_show.l1 kq x0_2 l1 a3 x9_2 a2_0 a2_1 = some r) ∧ Aside0 (kq ≤ k1) ∧ Aside0 (Kd.R Kd.bool 4 w' w0.heap.size (fun k_ => (P0_ k_ ∨ w.heap.size ≤ k_)) u9000_ x0_2) ∧ Aside0 (w'.heap[gb122]? = some (.cells #[.int .i64 a2_0, .int .i64 a2_1] 36 (0, 0))) ∧ Aside0 (Kept w w' (fun k_ => P0_ k_)) ∧ Aside0 (Below w0.heap.size w0 w'))
          case atStart => exact ⟨(x0_1), (wrap64 (a2_0 - 1)), (by first | rfl | (simp; done) | (simp [*]; done)), H', ⟨Nat.le_refl _⟩, ⟨by (with_reducible repeat (first | apply Kd.R_alloc | apply Kd.R_drewN | apply Kd.R_drew)); exact HO_0.out⟩, ⟨by (with_reducible repeat (first | refine blk_drewN ?_ _ | refine blk_drew ?_ | refine blk_alloc ?_ _)); exact BK122.out⟩, ⟨by repeat (first | (with_reducible first | exact HK.out | apply Kept.alloc | apply Kept.drewN | apply Kept.drew | refine Kept.setCell ?_ (.inr GW122.out) _) | exact HK.out)⟩, ⟨by repeat (first | (with_reducible first | exact HB.out | apply below_alloc | apply pw_below_drewN | apply below_drew1 | refine below_set ?_ GE122.out) | exact HB.out)⟩⟩
          case round =>
            clear H'
            try clear c1
            try clear p1
            try clear q1
            try clear hx1
            try clear c2
            try clear p2
            try clear p6
            try clear c7
            try clear c7b0
            try clear c8
            try clear c8b0
            try clear c9
            try clear c9b0
            try clear p10
            try clear q10
            try clear hx10
            try clear hf10
            try clear hcz11_0
            try clear hcz11_1
            try clear hcz15_0
            try clear hcz15_1
            try clear hcz6_0
            try clear hcz6_1
            try clear hfz11_0
            try clear hfz11_1
            try clear hfz15_0
            try clear hfz15_1
            try clear hfz6_0
            try clear hfz6_1
            try clear hx10_0
            try clear p10
            try clear p2
            try clear q10
            obtain ⟨x0_2, x9_2, rfl, HA, HK2, HO_0, BK122, HK, HB⟩ := hrel
            cases gk with
            | zero => exact absurd HA.out (by simp [hunk_show.l1])
            | succ k2 =>
              have H := HA.out
              clear HA
              simp only [hunk_show.l1] at H
              by_cases c16 : x9_2 ≥ 0
              · rw [if_pos c16] at H
                have c16b0 : decide (0 ≤ x9_2) = true := decide_eq_true c16
                clear c16
                (first | rw [c16b0] | (simp only [i64_w, i32_w]; rw [c16b0]) | skip)
                by_cases c17 : x9_2 ≥ (wrap64 (a2_0 - a3))
                · rw [if_pos c17] at H
                  have c17b0 : decide ((wrap64 (a2_0 - a3)) ≤ x9_2) = true := decide_eq_true c17
                  clear c17
                  by_cases c18 : 0 ≤ x9_2
                  · rw [if_pos c18] at H
                    have c18b0 : decide (0 ≤ x9_2) = true := decide_eq_true c18
                    clear c18
                    by_cases c19 : x9_2 < (l1.length : Int)
                    · rw [if_pos c19] at H
                      have c19b0 : decide (x9_2 < (l1.length : Int)) = true := decide_eq_true c19
                      clear c19
                      replace H := Option.bind_eq_some_iff.mp H
                      obtain ⟨t125, A200, H⟩ := H
                      replace H : (if t125 = true then (hunk_show.j2 k2 x0_2 l1 a3 a2_0 a2_1) else (if x9_2 < (x0_2.length : Int) then (hunk_show.l1 k2 (x0_2.set (x9_2 : Int).toNat true) l1 a3 (wrap64 (x9_2 - 1)) a2_0 a2_1) else (none))) = some r := H
                      have A20 := Aside0.mk A200
                      clear A200
                      by_cases c21 : t125 = true
                      · subst c21
                        have H1 : (hunk_show.j2 k2 x0_2 l1 a3 a2_0 a2_1) = some r := by rw [if_pos rfl] at H; exact H
                        clear H
                        have H := H1
                        clear H1
                        have H' := Aside0.mk H
                        clear H
                        have hcz22_0 : wr.cell? ⟨gb122, 0, none⟩ = some (.int .i64 a2_0) := (blk_cell BK122.out 0).trans rfl
                        have hcz22_1 : wr.cell? ⟨gb122, 1, none⟩ = some (.int .i64 a2_1) := (blk_cell BK122.out 1).trans rfl
                        have hfz22_0 := blk_frozen BK122.out 0
                        have hfz22_1 := blk_frozen BK122.out 1
                        have p124 : 0 ≤ (x9_2 : Int) := of_decide_eq_true (by first | (with_reducible assumption) | assumption)
                        have q124 : x9_2 < (l1.length : Int) := of_decide_eq_true (by first | (with_reducible assumption) | assumption)
                        obtain ⟨ad124, e124, hx124_0, hx124_1⟩ := at_T41 (Kd.C_kept_now HR1.out HK.out) x9_2 p124 q124
                        cases e124
                        replace p124 := eq_true p124
                        replace q124 := eq_true q124
                        go_wp2_with (first | (go_at_call 51; (with_reducible refine (hunk_marked.calls ((rd_T41 l1 x9_2).f0) ((rd_T41 l1 x9_2).f1) true _ A20.out).mono ?_); rintro e w23 ⟨rfl, hb⟩; have n0_ := Aside0.mk (Kd.R_below (by (with_reducible repeat (first | apply Kd.R_alloc | apply Kd.R_drewN | apply Kd.R_drew)); exact HO_0.out) hb); have n1_ := Aside0.mk (blk_below (g := gb122) (o := .cells #[.int .i64 a2_0, .int .i64 a2_1] 36 (0, 0)) (by (with_reducible repeat (first | refine blk_drewN ?_ _ | refine blk_drew ?_ | refine blk_alloc ?_ _)); exact BK122.out) hb); have n2_ := Aside0.mk (Kept.below (S := (fun k_ => P0_ k_)) (by repeat (first | (with_reducible first | exact HK.out | apply Kept.alloc | apply Kept.drewN | apply Kept.drew | refine Kept.setCell ?_ (.inr GW122.out) _) | exact HK.out)) hb); have n3_ := Aside0.mk (below_step (by repeat (first | (with_reducible first | exact HB.out | apply below_alloc | apply pw_below_drewN | apply below_drew1 | refine below_set ?_ GE122.out) | exact HB.out)) hb); clear HO_0; clear BK122; clear HK; clear HB; have HO_0 := n0_; have BK122 := n1_; have HK := n2_; have HB := n3_; clear n0_ n1_ n2_ n3_; (try clear hb); (try clear hb2); (try clear hk); (try clear hi)))
                        go_meet
                        case rel => exact ⟨_, (x0_2), H', ⟨by have := HK1.out; have := HK2.out; first | omega | exact Nat.le_refl _⟩, ⟨by (with_reducible repeat (first | apply Kd.R_alloc | apply Kd.R_drewN | apply Kd.R_drew)); exact HO_0.out⟩, ⟨by (with_reducible repeat (first | refine blk_drewN ?_ _ | refine blk_drew ?_ | refine blk_alloc ?_ _)); exact BK122.out⟩, ⟨by repeat (first | (with_reducible first | exact HK.out | apply Kept.alloc | apply Kept.drewN | apply Kept.drew | refine Kept.setCell ?_ (.inr GW122.out) _) | exact HK.out)⟩, ⟨by repeat (first | (with_reducible first | exact HB.out | apply below_alloc | apply pw_below_drewN | apply below_drew1 | refine below_set ?_ GE122.out) | exact HB.out)⟩⟩
                      · replace c21 := Bool.eq_false_iff.mpr c21
                        subst c21
                        have H1 : (if x9_2 < (x0_2.length : Int) then (hunk_show.l1 k2 (x0_2.set (x9_2 : Int).toNat true) l1 a3 (wrap64 (x9_2 - 1)) a2_0 a2_1) else (none)) = some r := by rw [if_neg (show ¬ (false = true) by decide)] at H; exact H
                        clear H
                        have H := H1
                        clear H1
                        by_cases c24 : x9_2 < (x0_2.length : Int)
                        · rw [if_pos c24] at H
                          have c24b0 : decide (x9_2 < (x0_2.length : Int)) = true := decide_eq_true c24
                          clear c24
                          obtain ⟨y126, hy126⟩ : ∃ y_ : List Bool, y_ = (x0_2.set (x9_2 : Int).toNat true) := ⟨_, rfl⟩
                          replace H : (hunk_show.l1 k2 y126 l1 a3 (wrap64 (x9_2 - 1)) a2_0 a2_1) = some r := by first | (rw [hy126]; with_reducible exact H) | (have H2_ := (Option.bind_some _ _).symm.trans H; rw [hy126]; with_reducible exact H2_) | (have H2_ := (Option.bind_some _ _).symm.trans H; with_reducible exact H2_) | with_reducible exact H | (rw [hy126]; exact H) | exact H
                          have Ny126 := Aside0.mk hy126
                          clear hy126
                          have H' := Aside0.mk H
                          clear H
                          have hcz26_0 : wr.cell? ⟨gb122, 0, none⟩ = some (.int .i64 a2_0) := (blk_cell BK122.out 0).trans rfl
                          have hcz26_1 : wr.cell? ⟨gb122, 1, none⟩ = some (.int .i64 a2_1) := (blk_cell BK122.out 1).trans rfl
                          have hfz26_0 := blk_frozen BK122.out 0
                          have hfz26_1 := blk_frozen BK122.out 1
                          have p124 : 0 ≤ (x9_2 : Int) := of_decide_eq_true (by first | (with_reducible assumption) | assumption)
                          have q124 : x9_2 < (l1.length : Int) := of_decide_eq_true (by first | (with_reducible assumption) | assumption)
                          obtain ⟨ad124, e124, hx124_0, hx124_1⟩ := at_T41 (Kd.C_kept_now HR1.out HK.out) x9_2 p124 q124
                          cases e124
                          replace p124 := eq_true p124
                          replace q124 := eq_true q124
                          go_wp2_with (first | (go_at_call 51; (with_reducible refine (hunk_marked.calls ((rd_T41 l1 x9_2).f0) ((rd_T41 l1 x9_2).f1) false _ A20.out).mono ?_); rintro e w27 ⟨rfl, hb⟩; have n0_ := Aside0.mk (Kd.R_below (by (with_reducible repeat (first | apply Kd.R_alloc | apply Kd.R_drewN | apply Kd.R_drew)); exact HO_0.out) hb); have n1_ := Aside0.mk (blk_below (g := gb122) (o := .cells #[.int .i64 a2_0, .int .i64 a2_1] 36 (0, 0)) (by (with_reducible repeat (first | refine blk_drewN ?_ _ | refine blk_drew ?_ | refine blk_alloc ?_ _)); exact BK122.out) hb); have n2_ := Aside0.mk (Kept.below (S := (fun k_ => P0_ k_)) (by repeat (first | (with_reducible first | exact HK.out | apply Kept.alloc | apply Kept.drewN | apply Kept.drew | refine Kept.setCell ?_ (.inr GW122.out) _) | exact HK.out)) hb); have n3_ := Aside0.mk (below_step (by repeat (first | (with_reducible first | exact HB.out | apply below_alloc | apply pw_below_drewN | apply below_drew1 | refine below_set ?_ GE122.out) | exact HB.out)) hb); clear HO_0; clear BK122; clear HK; clear HB; have HO_0 := n0_; have BK122 := n1_; have HK := n2_; have HB := n3_; clear n0_ n1_ n2_ n3_; (try clear hb); (try clear hb2); (try clear hk); (try clear hi); have p25 : 0 ≤ (x9_2 : Int) := of_decide_eq_true (by first | (with_reducible assumption) | assumption); have q25 : (x9_2 : Int) < ((x0_2.length : Int) : Int) := of_decide_eq_true (by first | (with_reducible assumption) | assumption); obtain ⟨go25, co25, eo25, gb25, gl25, cl25, HG25⟩ := Kd.R_form HO_0.out (by omega); (first | cases eo25 | (injection eo25 with ea_ en_ ec_; (first | subst ea_ | (injection ea_ with ea_; subst ea_)); subst ec_; clear en_)); have GB25 := Aside0.mk gb25; have GG25 := Aside0.mk HG25; clear gb25 gl25 HG25; have HMgo25 := Aside0.mk (show (P0_ go25 ∨ w.heap.size ≤ go25) from (HO_0.out.1 _ rfl)); obtain ⟨hx25_0, hf25_0⟩ := Kd.R_celln false HO_0.out (x9_2 : Int) p25 q25; replace p25 := eq_true p25; replace q25 := eq_true q25; obtain ⟨hy28_, hz28_⟩ := Kd.R_celln false HO_0.out (x9_2 : Int) (of_decide_eq_true (by first | (with_reducible assumption) | assumption)) (of_decide_eq_true (by first | (with_reducible assumption) | assumption)); have HP28 := Kd.R_putg HO_0.out (x9_2 : Int) true) | ((with_reducible refine gate_store (t := 4) (p := 47) rfl ?_); refine store_event (t := 4) (p := 47) (v := ?vo_w29) (w1 := (w27.setCell ⟨go25, (x9_2 : Int).toNat, none⟩ (.bool true))) ?hg ?ho ?hn ?hr ?_; (case ho => rfl); (case hg => rfl); (case hn => rfl); (case hr => first | (go_simp; done) | (go_simp; rfl)); intro w29 hw; have hg : w27.grownBy w29 (some go25) := (by rw [hw]; exact HP28.2); have hp_ : Kd.R Kd.bool 4 w29 w0.heap.size (fun k_ => (P0_ k_ ∨ w.heap.size ≤ k_)) (.slice (some ⟨go25, 0, none⟩) x0_2.length co25) y126 := (by rw [hw, Ny126.out]; exact HP28.1); clear HP28; have n0_ := Aside0.mk (hp_); have n1_ := Aside0.mk (blk_grown (g := gb122) (o := .cells #[.int .i64 a2_0, .int .i64 a2_1] 36 (0, 0)) (by (with_reducible repeat (first | refine blk_drewN ?_ _ | refine blk_drew ?_ | refine blk_alloc ?_ _)); exact BK122.out) hg (Kd.R_ne HO_0.out BK122.out (by decide))); have n2_ := Aside0.mk ((by rw [hw]; exact below_set (HB.out) GB25.out : Below w0.heap.size w0 w29)); have n3_ := Aside0.mk (Kept.of_grown (S := (fun k_ => P0_ k_)) hg (by repeat (first | (with_reducible first | exact HK.out | apply Kept.alloc | apply Kept.drewN | apply Kept.drew | refine Kept.setCell ?_ (.inr GW122.out) _) | exact HK.out)) (fun k_ e_ => (HO_0.out.1 k_ e_))); clear HO_0; clear BK122; clear HB; clear HK; have HO_0 := n0_; have BK122 := n1_; have HB := n2_; have HK := n3_; clear n0_ n1_ n2_ n3_; clear hg hw hp_))
                          go_roundg k2
                          case measure => have := HK1.out; have := HK2.out; omega
                          case rel => exact ⟨(y126), (wrap64 (x9_2 - 1)), (by first | rfl | (simp; done) | (simp [*]; done)), H', ⟨by have := HK1.out; have := HK2.out; omega⟩, ⟨by (with_reducible repeat (first | apply Kd.R_alloc | apply Kd.R_drewN | apply Kd.R_drew)); exact HO_0.out⟩, ⟨by (with_reducible repeat (first | refine blk_drewN ?_ _ | refine blk_drew ?_ | refine blk_alloc ?_ _)); exact BK122.out⟩, ⟨by repeat (first | (with_reducible first | exact HK.out | apply Kept.alloc | apply Kept.drewN | apply Kept.drew | refine Kept.setCell ?_ (.inr GW122.out) _) | exact HK.out)⟩, ⟨by repeat (first | (with_reducible first | exact HB.out | apply below_alloc | apply pw_below_drewN | apply below_drew1 | refine below_set ?_ GE122.out) | exact HB.out)⟩⟩
                        · rw [if_neg c24] at H
                          exact absurd H (by simp)
                    · rw [if_neg c19] at H
                      exact absurd H (by simp)
                  · rw [if_neg c18] at H
                    exact absurd H (by simp)
                · rw [if_neg c17] at H
                  have c17b0 : decide ((wrap64 (a2_0 - a3)) ≤ x9_2) = false := decide_eq_false c17
                  clear c17
                  have H' := Aside0.mk H
                  clear H
                  have hcz30_0 : wr.cell? ⟨gb122, 0, none⟩ = some (.int .i64 a2_0) := (blk_cell BK122.out 0).trans rfl
                  have hcz30_1 : wr.cell? ⟨gb122, 1, none⟩ = some (.int .i64 a2_1) := (blk_cell BK122.out 1).trans rfl
                  have hfz30_0 := blk_frozen BK122.out 0
                  have hfz30_1 := blk_frozen BK122.out 1
                  go_wp2
                  go_meet
                  case rel => exact ⟨_, (x0_2), H', ⟨by have := HK1.out; have := HK2.out; first | omega | exact Nat.le_refl _⟩, ⟨by (with_reducible repeat (first | apply Kd.R_alloc | apply Kd.R_drewN | apply Kd.R_drew)); exact HO_0.out⟩, ⟨by (with_reducible repeat (first | refine blk_drewN ?_ _ | refine blk_drew ?_ | refine blk_alloc ?_ _)); exact BK122.out⟩, ⟨by repeat (first | (with_reducible first | exact HK.out | apply Kept.alloc | apply Kept.drewN | apply Kept.drew | refine Kept.setCell ?_ (.inr GW122.out) _) | exact HK.out)⟩, ⟨by repeat (first | (with_reducible first | exact HB.out | apply below_alloc | apply pw_below_drewN | apply below_drew1 | refine below_set ?_ GE122.out) | exact HB.out)⟩⟩
              · rw [if_neg c16] at H
                have c16b0 : decide (0 ≤ x9_2) = false := decide_eq_false c16
                clear c16
                (first | rw [c16b0] | (simp only [i64_w, i32_w]; rw [c16b0]) | skip)
                have H' := Aside0.mk H
                clear H
                go_wp2
                go_meet
                case rel => exact ⟨_, (x0_2), H', ⟨by have := HK1.out; have := HK2.out; first | omega | exact Nat.le_refl _⟩, ⟨by (with_reducible repeat (first | apply Kd.R_alloc | apply Kd.R_drewN | apply Kd.R_drew)); exact HO_0.out⟩, ⟨by (with_reducible repeat (first | refine blk_drewN ?_ _ | refine blk_drew ?_ | refine blk_alloc ?_ _)); exact BK122.out⟩, ⟨by repeat (first | (with_reducible first | exact HK.out | apply Kept.alloc | apply Kept.drewN | apply Kept.drew | refine Kept.setCell ?_ (.inr GW122.out) _) | exact HK.out)⟩, ⟨by repeat (first | (with_reducible first | exact HB.out | apply below_alloc | apply pw_below_drewN | apply below_drew1 | refine below_set ?_ GE122.out) | exact HB.out)⟩⟩
        case rest =>
          clear HC14
          try clear c1
          try clear p1
          try clear q1
          try clear hx1
          try clear c2
          try clear p2
          try clear q2
          try clear hx2
          try clear p6
          try clear c7
          try clear c7b0
          try clear c8
          try clear c8b0
          try clear c9
          try clear c9b0
          try clear p10
          try clear q10
          try clear hx10
          try clear hf10
          try clear p12
          try clear q12
          try clear hx12
          try clear c16
          try clear c16b0
          try clear c17
          try clear c17b0
          try clear c18
          try clear c18b0
          try clear c19
          try clear c19b0
          try clear c21
          try clear c24
          try clear c24b0
          try clear p25
          try clear q25
          try clear hx25
          try clear hf25
          try clear c27
          try clear hcz11_0
          try clear hcz11_1
          try clear hcz15_0
          try clear hcz15_1
          try clear hcz22_0
          try clear hcz22_1
          try clear hcz26_0
          try clear hcz26_1
          try clear hcz30_0
          try clear hcz30_1
          try clear hcz6_0
          try clear hcz6_1
          try clear hfz11_0
          try clear hfz11_1
          try clear hfz15_0
          try clear hfz15_1
          try clear hfz22_0
          try clear hfz22_1
          try clear hfz26_0
          try clear hfz26_1
          try clear hfz30_0
          try clear hfz30_1
          try clear hfz6_0
          try clear hfz6_1
          try clear hx10_0
          try clear hx124_0
          try clear hx124_1
          try clear hx25_0
          try clear p1
          try clear p10
          try clear p124
          try clear p2
          try clear p25
          try clear p6
          try clear q1
          try clear q10
          try clear q124
          try clear q25
          obtain ⟨kq, x0_13, HA, HJ13, HO_0, BK122, HK, HB⟩ := hcut
          cases kq with
          | zero => exact absurd HA.out (by simp [hunk_show.j2])
          | succ kj13 =>
            have H := HA.out
            clear HA
            simp only [hunk_show.j2] at H
            have H' := Aside0.mk H
            clear H
            have hcz31_0 : wc.cell? ⟨gb122, 0, none⟩ = some (.int .i64 a2_0) := (blk_cell BK122.out 0).trans rfl
            have hcz31_1 : wc.cell? ⟨gb122, 1, none⟩ = some (.int .i64 a2_1) := (blk_cell BK122.out 1).trans rfl
            have hfz31_0 := blk_frozen BK122.out 0
            have hfz31_1 := blk_frozen BK122.out 1
            go_wp2
            go_loopg [10] kj13 (fun kq v10 w' => ∃ (x0_3 : List Bool) (x10_3 : Int), v10 = .int .i64 x10_3 ∧ Aside0 (hunk_show.l2 kq x0_3 l1 a3 x10_3 a2_0 a2_1 = some r) ∧ Aside0 (kq ≤ kj13) ∧ Aside0 (Kd.R Kd.bool 4 w' w0.heap.size (fun k_ => (P0_ k_ ∨ w.heap.size ≤ k_)) u9000_ x0_3) ∧ Aside0 (w'.heap[gb122]? = some (.cells #[.int .i64 a2_0, .int .i64 a2_1] 36 (0, 0))) ∧ Aside0 (Kept w w' (fun k_ => P0_ k_)) ∧ Aside0 (Below w0.heap.size w0 w'))
            case atStart => exact ⟨(x0_13), (a2_1), (by first | rfl | (simp; done) | (simp [*]; done)), H', ⟨Nat.le_refl _⟩, ⟨by (with_reducible repeat (first | apply Kd.R_alloc | apply Kd.R_drewN | apply Kd.R_drew)); exact HO_0.out⟩, ⟨by (with_reducible repeat (first | refine blk_drewN ?_ _ | refine blk_drew ?_ | refine blk_alloc ?_ _)); exact BK122.out⟩, ⟨by repeat (first | (with_reducible first | exact HK.out | apply Kept.alloc | apply Kept.drewN | apply Kept.drew | refine Kept.setCell ?_ (.inr GW122.out) _) | exact HK.out)⟩, ⟨by repeat (first | (with_reducible first | exact HB.out | apply below_alloc | apply pw_below_drewN | apply below_drew1 | refine below_set ?_ GE122.out) | exact HB.out)⟩⟩
            case round =>
              clear H'
              try clear c1
              try clear p1
              try clear q1
              try clear hx1
              try clear c2
              try clear p2
              try clear q2
              try clear hx2
              try clear p6
              try clear c7
              try clear c7b0
              try clear c8
              try clear c8b0
              try clear c9
              try clear c9b0
              try clear p10
              try clear q10
              try clear hx10
              try clear hf10
              try clear p12
              try clear q12
              try clear hx12
              try clear c16
              try clear c16b0
              try clear c17
              try clear c17b0
              try clear c18
              try clear c18b0
              try clear c19
              try clear c19b0
              try clear c21
              try clear c24
              try clear c24b0
              try clear p25
              try clear q25
              try clear hx25
              try clear hf25
              try clear c27
              try clear hcz11_0
              try clear hcz11_1
              try clear hcz15_0
              try clear hcz15_1
              try clear hcz22_0
              try clear hcz22_1
              try clear hcz26_0
              try clear hcz26_1
              try clear hcz30_0
              try clear hcz30_1
              try clear hcz31_0
              try clear hcz31_1
              try clear hcz6_0
              try clear hcz6_1
              try clear hfz11_0
              try clear hfz11_1
              try clear hfz15_0
              try clear hfz15_1
              try clear hfz22_0
              try clear hfz22_1
              try clear hfz26_0
              try clear hfz26_1
              try clear hfz30_0
              try clear hfz30_1
              try clear hfz31_0
              try clear hfz31_1
              try clear hfz6_0
              try clear hfz6_1
              try clear hx10_0
              try clear hx124_0
              try clear hx124_1
              try clear hx25_0
              try clear p1
              try clear p10
              try clear p12
              try clear p124
              try clear p2
              try clear p25
              try clear p6
              try clear q1
              try clear q10
              try clear q12
              try clear q124
              try clear q2
              try clear q25
              obtain ⟨x0_3, x10_3, rfl, HA, HK3, HO_0, BK122, HK, HB⟩ := hrel
              cases gk with
              | zero => exact absurd HA.out (by simp [hunk_show.l2])
              | succ k3 =>
                have H := HA.out
                clear HA
                simp only [hunk_show.l2] at H
                by_cases c32 : x10_3 < (l1.length : Int)
                · rw [if_pos c32] at H
                  have c32b0 : decide (x10_3 < (l1.length : Int)) = true := decide_eq_true c32
                  clear c32
                  by_cases c33 : x10_3 < (wrap64 (a2_1 + a3))
                  · rw [if_pos c33] at H
                    have c33b0 : decide (x10_3 < (wrap64 (a2_1 + a3))) = true := decide_eq_true c33
                    clear c33
                    by_cases c34 : 0 ≤ x10_3
                    · rw [if_pos c34] at H
                      have c34b0 : decide (0 ≤ x10_3) = true := decide_eq_true c34
                      clear c34
                      replace H := Option.bind_eq_some_iff.mp H
                      obtain ⟨t128, A350, H⟩ := H
                      replace H : (if t128 = true then (some x0_3) else (if x10_3 < (x0_3.length : Int) then (hunk_show.l2 k3 (x0_3.set (x10_3 : Int).toNat true) l1 a3 (wrap64 (x10_3 + 1)) a2_0 a2_1) else (none))) = some r := H
                      have A35 := Aside0.mk A350
                      clear A350
                      by_cases c36 : t128 = true
                      · subst c36
                        have H1 : (some x0_3) = some r := by rw [if_pos rfl] at H; exact H
                        clear H
                        have H := H1
                        clear H1
                        obtain rfl := Option.some.inj H
                        have hcz37_0 : wr.cell? ⟨gb122, 0, none⟩ = some (.int .i64 a2_0) := (blk_cell BK122.out 0).trans rfl
                        have hcz37_1 : wr.cell? ⟨gb122, 1, none⟩ = some (.int .i64 a2_1) := (blk_cell BK122.out 1).trans rfl
                        have hfz37_0 := blk_frozen BK122.out 0
                        have hfz37_1 := blk_frozen BK122.out 1
                        have p127 : 0 ≤ (x10_3 : Int) := of_decide_eq_true (by first | (with_reducible assumption) | assumption)
                        have q127 : x10_3 < (l1.length : Int) := of_decide_eq_true (by first | (with_reducible assumption) | assumption)
                        obtain ⟨ad127, e127, hx127_0, hx127_1⟩ := at_T41 (Kd.C_kept_now HR1.out HK.out) x10_3 p127 q127
                        cases e127
                        replace p127 := eq_true p127
                        replace q127 := eq_true q127
                        go_wp2_with (first | (go_at_call 51; (with_reducible refine (hunk_marked.calls ((rd_T41 l1 x10_3).f0) ((rd_T41 l1 x10_3).f1) true _ A35.out).mono ?_); rintro e w38 ⟨rfl, hb⟩; have n0_ := Aside0.mk (Kd.R_below (by (with_reducible repeat (first | apply Kd.R_alloc | apply Kd.R_drewN | apply Kd.R_drew)); exact HO_0.out) hb); have n1_ := Aside0.mk (blk_below (g := gb122) (o := .cells #[.int .i64 a2_0, .int .i64 a2_1] 36 (0, 0)) (by (with_reducible repeat (first | refine blk_drewN ?_ _ | refine blk_drew ?_ | refine blk_alloc ?_ _)); exact BK122.out) hb); have n2_ := Aside0.mk (Kept.below (S := (fun k_ => P0_ k_)) (by repeat (first | (with_reducible first | exact HK.out | apply Kept.alloc | apply Kept.drewN | apply Kept.drew | refine Kept.setCell ?_ (.inr GW122.out) _) | exact HK.out)) hb); have n3_ := Aside0.mk (below_step (by repeat (first | (with_reducible first | exact HB.out | apply below_alloc | apply pw_below_drewN | apply below_drew1 | refine below_set ?_ GE122.out) | exact HB.out)) hb); clear HO_0; clear BK122; clear HK; clear HB; have HO_0 := n0_; have BK122 := n1_; have HK := n2_; have HB := n3_; clear n0_ n1_ n2_ n3_; (try clear hb); (try clear hb2); (try clear hk); (try clear hi)))
                        first | go_end0 | ((try simp only [Exit.inBlock, Exit.then]); refine bodyPost_ret (results_none rfl _ _ _) rfl ?_)
                        exact ⟨by first | rfl | (simp [errW_none, errW_some] <;> rfl) | (simp [errW_none, errW_some] <;> (generalize ByteArray.toList _ = l_ <;> cases l_ <;> rfl)) | (simp [*, errW_none, errW_some] <;> rfl), by (with_reducible repeat (first | apply Kd.R_alloc | apply Kd.R_drewN | apply Kd.R_drew)); exact HO_0.out, by repeat (first | (with_reducible first | exact HB.out | apply below_alloc | apply pw_below_drewN | apply below_drew1 | refine below_set ?_ GE122.out) | exact HB.out), by repeat (first | (with_reducible first | exact HK.out | apply Kept.alloc | apply Kept.drewN | apply Kept.drew | refine Kept.setCell ?_ (.inr GW122.out) _) | exact HK.out)⟩
                      · replace c36 := Bool.eq_false_iff.mpr c36
                        subst c36
                        have H1 : (if x10_3 < (x0_3.length : Int) then (hunk_show.l2 k3 (x0_3.set (x10_3 : Int).toNat true) l1 a3 (wrap64 (x10_3 + 1)) a2_0 a2_1) else (none)) = some r := by rw [if_neg (show ¬ (false = true) by decide)] at H; exact H
                        clear H
                        have H := H1
                        clear H1
                        by_cases c39 : x10_3 < (x0_3.length : Int)
                        · rw [if_pos c39] at H
                          have c39b0 : decide (x10_3 < (x0_3.length : Int)) = true := decide_eq_true c39
                          clear c39
                          obtain ⟨y129, hy129⟩ : ∃ y_ : List Bool, y_ = (x0_3.set (x10_3 : Int).toNat true) := ⟨_, rfl⟩
                          replace H : (hunk_show.l2 k3 y129 l1 a3 (wrap64 (x10_3 + 1)) a2_0 a2_1) = some r := by first | (rw [hy129]; with_reducible exact H) | (have H2_ := (Option.bind_some _ _).symm.trans H; rw [hy129]; with_reducible exact H2_) | (have H2_ := (Option.bind_some _ _).symm.trans H; with_reducible exact H2_) | with_reducible exact H | (rw [hy129]; exact H) | exact H
                          have Ny129 := Aside0.mk hy129
                          clear hy129
                          have H' := Aside0.mk H
                          clear H
                          have hcz41_0 : wr.cell? ⟨gb122, 0, none⟩ = some (.int .i64 a2_0) := (blk_cell BK122.out 0).trans rfl
                          have hcz41_1 : wr.cell? ⟨gb122, 1, none⟩ = some (.int .i64 a2_1) := (blk_cell BK122.out 1).trans rfl
                          have hfz41_0 := blk_frozen BK122.out 0
                          have hfz41_1 := blk_frozen BK122.out 1
                          have p127 : 0 ≤ (x10_3 : Int) := of_decide_eq_true (by first | (with_reducible assumption) | assumption)
                          have q127 : x10_3 < (l1.length : Int) := of_decide_eq_true (by first | (with_reducible assumption) | assumption)
                          obtain ⟨ad127, e127, hx127_0, hx127_1⟩ := at_T41 (Kd.C_kept_now HR1.out HK.out) x10_3 p127 q127
                          cases e127
                          replace p127 := eq_true p127
                          replace q127 := eq_true q127
                          go_wp2_with (first | (go_at_call 51; (with_reducible refine (hunk_marked.calls ((rd_T41 l1 x10_3).f0) ((rd_T41 l1 x10_3).f1) false _ A35.out).mono ?_); rintro e w42 ⟨rfl, hb⟩; have n0_ := Aside0.mk (Kd.R_below (by (with_reducible repeat (first | apply Kd.R_alloc | apply Kd.R_drewN | apply Kd.R_drew)); exact HO_0.out) hb); have n1_ := Aside0.mk (blk_below (g := gb122) (o := .cells #[.int .i64 a2_0, .int .i64 a2_1] 36 (0, 0)) (by (with_reducible repeat (first | refine blk_drewN ?_ _ | refine blk_drew ?_ | refine blk_alloc ?_ _)); exact BK122.out) hb); have n2_ := Aside0.mk (Kept.below (S := (fun k_ => P0_ k_)) (by repeat (first | (with_reducible first | exact HK.out | apply Kept.alloc | apply Kept.drewN | apply Kept.drew | refine Kept.setCell ?_ (.inr GW122.out) _) | exact HK.out)) hb); have n3_ := Aside0.mk (below_step (by repeat (first | (with_reducible first | exact HB.out | apply below_alloc | apply pw_below_drewN | apply below_drew1 | refine below_set ?_ GE122.out) | exact HB.out)) hb); clear HO_0; clear BK122; clear HK; clear HB; have HO_0 := n0_; have BK122 := n1_; have HK := n2_; have HB := n3_; clear n0_ n1_ n2_ n3_; (try clear hb); (try clear hb2); (try clear hk); (try clear hi); have p40 : 0 ≤ (x10_3 : Int) := of_decide_eq_true (by first | (with_reducible assumption) | assumption); have q40 : (x10_3 : Int) < ((x0_3.length : Int) : Int) := of_decide_eq_true (by first | (with_reducible assumption) | assumption); obtain ⟨go40, co40, eo40, gb40, gl40, cl40, HG40⟩ := Kd.R_form HO_0.out (by omega); (first | cases eo40 | (injection eo40 with ea_ en_ ec_; (first | subst ea_ | (injection ea_ with ea_; subst ea_)); subst ec_; clear en_)); have GB40 := Aside0.mk gb40; have GG40 := Aside0.mk HG40; clear gb40 gl40 HG40; have HMgo40 := Aside0.mk (show (P0_ go40 ∨ w.heap.size ≤ go40) from (HO_0.out.1 _ rfl)); obtain ⟨hx40_0, hf40_0⟩ := Kd.R_celln false HO_0.out (x10_3 : Int) p40 q40; replace p40 := eq_true p40; replace q40 := eq_true q40; obtain ⟨hy43_, hz43_⟩ := Kd.R_celln false HO_0.out (x10_3 : Int) (of_decide_eq_true (by first | (with_reducible assumption) | assumption)) (of_decide_eq_true (by first | (with_reducible assumption) | assumption)); have HP43 := Kd.R_putg HO_0.out (x10_3 : Int) true) | ((with_reducible refine gate_store (t := 4) (p := 74) rfl ?_); refine store_event (t := 4) (p := 74) (v := ?vo_w44) (w1 := (w42.setCell ⟨go40, (x10_3 : Int).toNat, none⟩ (.bool true))) ?hg ?ho ?hn ?hr ?_; (case ho => rfl); (case hg => rfl); (case hn => rfl); (case hr => first | (go_simp; done) | (go_simp; rfl)); intro w44 hw; have hg : w42.grownBy w44 (some go40) := (by rw [hw]; exact HP43.2); have hp_ : Kd.R Kd.bool 4 w44 w0.heap.size (fun k_ => (P0_ k_ ∨ w.heap.size ≤ k_)) (.slice (some ⟨go40, 0, none⟩) x0_3.length co40) y129 := (by rw [hw, Ny129.out]; exact HP43.1); clear HP43; have n0_ := Aside0.mk (hp_); have n1_ := Aside0.mk (blk_grown (g := gb122) (o := .cells #[.int .i64 a2_0, .int .i64 a2_1] 36 (0, 0)) (by (with_reducible repeat (first | refine blk_drewN ?_ _ | refine blk_drew ?_ | refine blk_alloc ?_ _)); exact BK122.out) hg (Kd.R_ne HO_0.out BK122.out (by decide))); have n2_ := Aside0.mk ((by rw [hw]; exact below_set (HB.out) GB40.out : Below w0.heap.size w0 w44)); have n3_ := Aside0.mk (Kept.of_grown (S := (fun k_ => P0_ k_)) hg (by repeat (first | (with_reducible first | exact HK.out | apply Kept.alloc | apply Kept.drewN | apply Kept.drew | refine Kept.setCell ?_ (.inr GW122.out) _) | exact HK.out)) (fun k_ e_ => (HO_0.out.1 k_ e_))); clear HO_0; clear BK122; clear HB; clear HK; have HO_0 := n0_; have BK122 := n1_; have HB := n2_; have HK := n3_; clear n0_ n1_ n2_ n3_; clear hg hw hp_))
                          go_roundg k3
                          case measure => have := HK1.out; have := HJ13.out; have := HK3.out; omega
                          case rel => exact ⟨(y129), (wrap64 (x10_3 + 1)), (by first | rfl | (simp; done) | (simp [*]; done)), H', ⟨by have := HK1.out; have := HJ13.out; have := HK3.out; omega⟩, ⟨by (with_reducible repeat (first | apply Kd.R_alloc | apply Kd.R_drewN | apply Kd.R_drew)); exact HO_0.out⟩, ⟨by (with_reducible repeat (first | refine blk_drewN ?_ _ | refine blk_drew ?_ | refine blk_alloc ?_ _)); exact BK122.out⟩, ⟨by repeat (first | (with_reducible first | exact HK.out | apply Kept.alloc | apply Kept.drewN | apply Kept.drew | refine Kept.setCell ?_ (.inr GW122.out) _) | exact HK.out)⟩, ⟨by repeat (first | (with_reducible first | exact HB.out | apply below_alloc | apply pw_below_drewN | apply below_drew1 | refine below_set ?_ GE122.out) | exact HB.out)⟩⟩
                        · rw [if_neg c39] at H
                          exact absurd H (by simp)
                    · rw [if_neg c34] at H
                      exact absurd H (by simp)
                  · rw [if_neg c33] at H
                    have c33b0 : decide (x10_3 < (wrap64 (a2_1 + a3))) = false := decide_eq_false c33
                    clear c33
                    obtain rfl := Option.some.inj H
                    have hcz45_0 : wr.cell? ⟨gb122, 0, none⟩ = some (.int .i64 a2_0) := (blk_cell BK122.out 0).trans rfl
                    have hcz45_1 : wr.cell? ⟨gb122, 1, none⟩ = some (.int .i64 a2_1) := (blk_cell BK122.out 1).trans rfl
                    have hfz45_0 := blk_frozen BK122.out 0
                    have hfz45_1 := blk_frozen BK122.out 1
                    go_wp2
                    first | go_end0 | ((try simp only [Exit.inBlock, Exit.then]); refine bodyPost_ret (results_none rfl _ _ _) rfl ?_)
                    exact ⟨by first | rfl | (simp [errW_none, errW_some] <;> rfl) | (simp [errW_none, errW_some] <;> (generalize ByteArray.toList _ = l_ <;> cases l_ <;> rfl)) | (simp [*, errW_none, errW_some] <;> rfl), by (with_reducible repeat (first | apply Kd.R_alloc | apply Kd.R_drewN | apply Kd.R_drew)); exact HO_0.out, by repeat (first | (with_reducible first | exact HB.out | apply below_alloc | apply pw_below_drewN | apply below_drew1 | refine below_set ?_ GE122.out) | exact HB.out), by repeat (first | (with_reducible first | exact HK.out | apply Kept.alloc | apply Kept.drewN | apply Kept.drew | refine Kept.setCell ?_ (.inr GW122.out) _) | exact HK.out)⟩
                · rw [if_neg c32] at H
                  have c32b0 : decide (x10_3 < (l1.length : Int)) = false := decide_eq_false c32
                  clear c32
                  obtain rfl := Option.some.inj H
                  go_wp2
                  first | go_end0 | ((try simp only [Exit.inBlock, Exit.then]); refine bodyPost_ret (results_none rfl _ _ _) rfl ?_)
                  exact ⟨by first | rfl | (simp [errW_none, errW_some] <;> rfl) | (simp [errW_none, errW_some] <;> (generalize ByteArray.toList _ = l_ <;> cases l_ <;> rfl)) | (simp [*, errW_none, errW_some] <;> rfl), by (with_reducible repeat (first | apply Kd.R_alloc | apply Kd.R_drewN | apply Kd.R_drew)); exact HO_0.out, by repeat (first | (with_reducible first | exact HB.out | apply below_alloc | apply pw_below_drewN | apply below_drew1 | refine below_set ?_ GE122.out) | exact HB.out), by repeat (first | (with_reducible first | exact HK.out | apply Kept.alloc | apply Kept.drewN | apply Kept.drew | refine Kept.setCell ?_ (.inr GW122.out) _) | exact HK.out)⟩

-- NOT PRINTED: function 41 (table_texts)

-- NOT PRINTED: function 22 (table_Result)

-- NOT PRINTED: function 23 (table_Column)

-- NOT PRINTED: function 29 (hunk_counter_pass)

-- NOT PRINTED: function 28 (hunk_counter_hunk)

-- NOT PRINTED: function 11 (hunk_Hunks)

-- NOT PRINTED: function 15 (hunk_Groups)

-- NOT PRINTED: function 9 (sennitlaw21_awake)

/-! ### sennitref21_Few: function 10 -/
mutual
def sennitref21_Few.l0 : Nat → List (S41) → Int → Option (Bool)
  | 0, _, _ => none
  | k + 1, x0, x3 => if x3 < (x0.length : Int) then (sennitref21_Few.j1 k x0 x3 (decide (x3 < 41))) else (sennitref21_Few.j1 k x0 x3 false)
def sennitref21_Few.j1 : Nat → List (S41) → Int → Bool → Option (Bool)
  | 0, _, _, _ => none
  | k + 1, x0, x3, x11 => if x11 = true then (if 0 ≤ x3 then (if x3 < (x0.length : Int) then (if (((rd_T41 x0 x3).f0).size : Int) > 20 then (some false) else (if (((rd_T41 x0 x3).f1).size : Int) > 100 then (some false) else (sennitref21_Few.l0 k x0 (wrap64 (x3 + 1))))) else (none)) else (none)) else (some (decide ((x0.length : Int) ≤ 40)))
end
def sennitref21_Few.f (k : Nat) (l0 : List (S41)) : Option (Bool) := sennitref21_Few.l0 k l0 0
theorem sennitref21_Few.mono_l : ∀ k, (∀ y0 y1, LeO (sennitref21_Few.l0 k y0 y1) (sennitref21_Few.l0 (k + 1) y0 y1)) ∧ (∀ y0 y1 y2, LeO (sennitref21_Few.j1 k y0 y1 y2) (sennitref21_Few.j1 (k + 1) y0 y1 y2))
  | 0 => ⟨fun _ _ r h => by simp [sennitref21_Few.l0] at h, fun _ _ _ r h => by simp [sennitref21_Few.j1] at h⟩
  | k + 1 => by
    obtain ⟨ih0, ih1⟩ := sennitref21_Few.mono_l k
    refine ⟨?_, ?_⟩
    · intro y0 y1
      unfold sennitref21_Few.l0
      repeat' first
      | (with_reducible exact ih0 _ _)
      | (with_reducible exact ih1 _ _ _)
      | (with_reducible exact LeO.refl _)
      | (with_reducible exact LeO.none _)
      | (with_reducible refine LeO.ite ?_ ?_)
      | (with_reducible refine LeO.bind ?_ (fun _ => ?_))
      | exact ih0 _ _
      | exact ih1 _ _ _
      | exact LeO.none _
      | refine LeO.ite ?_ ?_
      | refine LeO.bind ?_ (fun _ => ?_)
    · intro y0 y1 y2
      unfold sennitref21_Few.j1
      repeat' first
      | (with_reducible exact ih0 _ _)
      | (with_reducible exact ih1 _ _ _)
      | (with_reducible exact LeO.refl _)
      | (with_reducible exact LeO.none _)
      | (with_reducible refine LeO.ite ?_ ?_)
      | (with_reducible refine LeO.bind ?_ (fun _ => ?_))
      | exact ih0 _ _
      | exact ih1 _ _ _
      | exact LeO.none _
      | refine LeO.ite ?_ ?_
      | refine LeO.bind ?_ (fun _ => ?_)
theorem sennitref21_Few.mono : ∀ a0 k, LeO (sennitref21_Few.f k a0) (sennitref21_Few.f (k + 1) a0) := by
  intro a0 k
  obtain ⟨ih0, ih1⟩ := sennitref21_Few.mono_l k
  unfold sennitref21_Few.f
  repeat' first
      | (with_reducible exact ih0 _ _)
      | (with_reducible exact ih1 _ _ _)
      | (with_reducible exact LeO.refl _)
      | (with_reducible exact LeO.none _)
      | (with_reducible refine LeO.ite ?_ ?_)
      | (with_reducible refine LeO.bind ?_ (fun _ => ?_))
      | exact ih0 _ _
      | exact ih1 _ _ _
      | exact LeO.none _
      | refine LeO.ite ?_ ?_
      | refine LeO.bind ?_ (fun _ => ?_)
set_option maxHeartbeats 8000000 in
set_option maxRecDepth 100000 in
theorem sennitref21_Few.calls (k : Nat) (A0 : Option Addr) (c0 : Nat) (l0 : List (S41)) (r : Bool) (w : World) (hr0 : Kd.C k41 w A0 l0.length l0) (hc0 : l0.length ≤ c0) (h : sennitref21_Few.f k l0 = some r) :
    Calls Tryd.prog 10 #[.slice A0 l0.length c0] w fun e w' => e = .returned (.bool r) ∧ Drawn0 w w' := by
  have HR0 := Aside0.mk hr0
  have HC0 := Aside0.mk hc0
  clear hr0 hc0
  have H : (sennitref21_Few.l0 k l0 0) = some r := h
  clear h
  have H' := Aside0.mk H
  clear H
  go_enter Tryd.func10, Tryd.ntmps10
  go_wp2
  go_loopg [3] k (fun kq v3 w' => ∃ (x3_1 : Int), v3 = .int .i64 x3_1 ∧ Aside0 (sennitref21_Few.l0 kq l0 x3_1 = some r) ∧ Aside0 (kq ≤ k) ∧ Drawn0 w w')
  case atStart => exact ⟨(0), (by first | rfl | (simp; done) | (simp [*]; done)), H', ⟨Nat.le_refl _⟩, by repeat (first | exact Drawn0.refl _ | apply Drawn0.step)⟩
  case round =>
    clear H'
    try clear c1
    obtain ⟨x3_1, rfl, HA, HK1, ⟨m1, rfl⟩⟩ := hrel
    cases gk with
    | zero => exact absurd HA.out (by simp [sennitref21_Few.l0])
    | succ k1 =>
      have H := HA.out
      clear HA
      simp only [sennitref21_Few.l0] at H
      have HC2 := Aside0.mk H
      clear H
      go_upto_region 2 with (fail)
      go_cut [11] (fun v11 wc => ∃ (kq : Nat) (x11_1 : Bool), v11 = .bool x11_1 ∧ Aside0 (sennitref21_Few.j1 kq l0 x3_1 x11_1 = some r) ∧ Aside0 (kq ≤ k1) ∧ Drawn0 w wc)
      case first =>
        have H := HC2.out
        clear HC2
        by_cases c3 : x3_1 < (l0.length : Int)
        · rw [if_pos c3] at H
          have c3b0 : decide (x3_1 < (l0.length : Int)) = true := decide_eq_true c3
          clear c3
          (first | rw [c3b0] | (simp only [i64_w, i32_w]; rw [c3b0]) | skip)
          have H' := Aside0.mk H
          clear H
          go_wp2
          go_meet
          case rel => exact ⟨_, (decide (x3_1 < 41)), (by first | rfl | (simp; done) | (simp [*]; done)), H', ⟨by have := HK1.out; first | omega | exact Nat.le_refl _⟩, by repeat (first | exact Drawn0.refl _ | apply Drawn0.step)⟩
        · rw [if_neg c3] at H
          have c3b0 : decide (x3_1 < (l0.length : Int)) = false := decide_eq_false c3
          clear c3
          (first | rw [c3b0] | (simp only [i64_w, i32_w]; rw [c3b0]) | skip)
          have H' := Aside0.mk H
          clear H
          go_wp2
          go_meet
          case rel => exact ⟨_, (false), (by first | rfl | (simp; done) | (simp [*]; done)), H', ⟨by have := HK1.out; first | omega | exact Nat.le_refl _⟩, by repeat (first | exact Drawn0.refl _ | apply Drawn0.step)⟩
      case rest =>
        clear HC2
        try clear c1
        try clear p2
        try clear c3
        try clear c3b0
        obtain ⟨kq, x11_1, rfl, HA, HJ1, ⟨mc1, rfl⟩⟩ := hcut
        cases kq with
        | zero => exact absurd HA.out (by simp [sennitref21_Few.j1])
        | succ kj1 =>
          have H := HA.out
          clear HA
          simp only [sennitref21_Few.j1] at H
          by_cases c4 : x11_1 = true
          · subst c4
            have H1 : (if 0 ≤ x3_1 then (if x3_1 < (l0.length : Int) then (if (((rd_T41 l0 x3_1).f0).size : Int) > 20 then (some false) else (if (((rd_T41 l0 x3_1).f1).size : Int) > 100 then (some false) else (sennitref21_Few.l0 kj1 l0 (wrap64 (x3_1 + 1))))) else (none)) else (none)) = some r := by rw [if_pos rfl] at H; exact H
            clear H
            have H := H1
            clear H1
            by_cases c5 : 0 ≤ x3_1
            · rw [if_pos c5] at H
              have c5b0 : decide (0 ≤ x3_1) = true := decide_eq_true c5
              clear c5
              by_cases c6 : x3_1 < (l0.length : Int)
              · rw [if_pos c6] at H
                have c6b0 : decide (x3_1 < (l0.length : Int)) = true := decide_eq_true c6
                clear c6
                by_cases c7 : (((rd_T41 l0 x3_1).f0).size : Int) > 20
                · rw [if_pos c7] at H
                  have c7b0 : decide (20 < (((rd_T41 l0 x3_1).f0).size : Int)) = true := decide_eq_true c7
                  have c7b1 : decide (20 < ((rd_T41 l0 x3_1).f0).size) = true := decide_eq_true (by omega)
                  clear c7
                  obtain rfl := Option.some.inj H
                  have p146 : 0 ≤ (x3_1 : Int) := of_decide_eq_true (by first | (with_reducible assumption) | assumption)
                  have q146 : x3_1 < (l0.length : Int) := of_decide_eq_true (by first | (with_reducible assumption) | assumption)
                  obtain ⟨ad146, e146, hx146_0, hx146_1⟩ := at_T41 HR0.out x3_1 p146 q146
                  cases e146
                  replace p146 := eq_true p146
                  replace q146 := eq_true q146
                  go_wp2
                  go_ret
                  exact ⟨by first | rfl | (simp; done) | (simp [*]; done), by repeat (first | exact Drawn0.refl _ | apply Drawn0.step)⟩
                · rw [if_neg c7] at H
                  have c7b0 : decide (20 < (((rd_T41 l0 x3_1).f0).size : Int)) = false := decide_eq_false c7
                  have c7b1 : decide (20 < ((rd_T41 l0 x3_1).f0).size) = false := decide_eq_false (by omega)
                  clear c7
                  by_cases c8 : (((rd_T41 l0 x3_1).f1).size : Int) > 100
                  · rw [if_pos c8] at H
                    have c8b0 : decide (100 < (((rd_T41 l0 x3_1).f1).size : Int)) = true := decide_eq_true c8
                    have c8b1 : decide (100 < ((rd_T41 l0 x3_1).f1).size) = true := decide_eq_true (by omega)
                    clear c8
                    obtain rfl := Option.some.inj H
                    have p146 : 0 ≤ (x3_1 : Int) := of_decide_eq_true (by first | (with_reducible assumption) | assumption)
                    have q146 : x3_1 < (l0.length : Int) := of_decide_eq_true (by first | (with_reducible assumption) | assumption)
                    obtain ⟨ad146, e146, hx146_0, hx146_1⟩ := at_T41 HR0.out x3_1 p146 q146
                    cases e146
                    replace p146 := eq_true p146
                    replace q146 := eq_true q146
                    have p147 : 0 ≤ (x3_1 : Int) := of_decide_eq_true (by first | (with_reducible assumption) | assumption)
                    have q147 : x3_1 < (l0.length : Int) := of_decide_eq_true (by first | (with_reducible assumption) | assumption)
                    obtain ⟨ad147, e147, hx147_0, hx147_1⟩ := at_T41 HR0.out x3_1 p147 q147
                    obtain rfl : ad146 = ad147 := (by injection e147)
                    replace p147 := eq_true p147
                    replace q147 := eq_true q147
                    go_wp2
                    go_ret
                    exact ⟨by first | rfl | (simp; done) | (simp [*]; done), by repeat (first | exact Drawn0.refl _ | apply Drawn0.step)⟩
                  · rw [if_neg c8] at H
                    have c8b0 : decide (100 < (((rd_T41 l0 x3_1).f1).size : Int)) = false := decide_eq_false c8
                    have c8b1 : decide (100 < ((rd_T41 l0 x3_1).f1).size) = false := decide_eq_false (by omega)
                    clear c8
                    have H' := Aside0.mk H
                    clear H
                    have p146 : 0 ≤ (x3_1 : Int) := of_decide_eq_true (by first | (with_reducible assumption) | assumption)
                    have q146 : x3_1 < (l0.length : Int) := of_decide_eq_true (by first | (with_reducible assumption) | assumption)
                    obtain ⟨ad146, e146, hx146_0, hx146_1⟩ := at_T41 HR0.out x3_1 p146 q146
                    cases e146
                    replace p146 := eq_true p146
                    replace q146 := eq_true q146
                    have p147 : 0 ≤ (x3_1 : Int) := of_decide_eq_true (by first | (with_reducible assumption) | assumption)
                    have q147 : x3_1 < (l0.length : Int) := of_decide_eq_true (by first | (with_reducible assumption) | assumption)
                    obtain ⟨ad147, e147, hx147_0, hx147_1⟩ := at_T41 HR0.out x3_1 p147 q147
                    obtain rfl : ad146 = ad147 := (by injection e147)
                    replace p147 := eq_true p147
                    replace q147 := eq_true q147
                    go_wp2
                    go_roundg kj1
                    case measure => have := HK1.out; have := HJ1.out; omega
                    case rel => exact ⟨(wrap64 (x3_1 + 1)), (by first | rfl | (simp; done) | (simp [*]; done)), H', ⟨by have := HK1.out; have := HJ1.out; omega⟩, by repeat (first | exact Drawn0.refl _ | apply Drawn0.step)⟩
              · rw [if_neg c6] at H
                exact absurd H (by simp)
            · rw [if_neg c5] at H
              exact absurd H (by simp)
          · replace c4 := Bool.eq_false_iff.mpr c4
            subst c4
            have H1 : (some (decide ((l0.length : Int) ≤ 40))) = some r := by rw [if_neg (show ¬ (false = true) by decide)] at H; exact H
            clear H
            have H := H1
            clear H1
            obtain rfl := Option.some.inj H
            go_wp2
            go_ret
            exact ⟨by first | rfl | (simp; done) | (simp [*]; done), by repeat (first | exact Drawn0.refl _ | apply Drawn0.step)⟩

end Go.Proofs.YtenfoaajipiehaaDoor.Q
