/- The walk of the law HunkSpans: it comes to what its Lean function says, where that is true. -/
import Derived.Test.YtenfoaajipiehaaDoorQ0
import Derived.Test.YtenfoaajipiehaaDoorQ4
import Derived.Test.YtenfoaajipiehaaDoorR3
import Derived.Test.YtenfoaajipiehaaDoorR4
import Derived.Test.YtenfoaajipiehaaDoorXB
import Derived.Test.YtenfoaajipiehaaDoorX9
import Derived.Test.YtenfoaajipiehaaDoorB5
namespace Go.Proofs.YtenfoaajipiehaaDoor.Q
open Go.RowKit Go.Proofs.YtenfoaajipiehaaDoorW.PrintWords Go.Proofs.YtenfoaajipiehaaDoorW.PrintLast Go.Proofs.YtenfoaajipiehaaDoorW.PrintMore
attribute [local go_sem] max2_int min2_int max_two min_two max_three min_three max_four min_four   -- for this text's walks alone
set_option linter.unusedVariables false
set_option linter.unusedSimpArgs false
set_option maxHeartbeats 8000000 in
set_option maxRecDepth 100000 in
theorem sennitlaw21_HunkSpans.calls_t (k : Nat) (A0 : Option Addr) (c0 : Nat) (l0 : List (S41)) (a1 : Int) (a2 : Bool) (r : Bool) (w : World) (hr0 : Kd.C k41 w A0 l0.length l0) (hc0 : l0.length ≤ c0) (hmx : MaxOk w) (hrt : r = true) (h : sennitlaw21_HunkSpans.f k l0 a1 a2 = some r) :
  Calls Tryd.prog 6 #[.slice A0 l0.length c0, .int .u8 a1, .bool a2] w fun e w' => e = .returned (.bool r) ∧ Below w.heap.size w w' := by
 have HRT := Aside0.mk hrt
 clear hrt
 have HMX := Aside0.mk hmx
 clear hmx
 have hu38 := Tryd.underlying38
 have hu36 := Tryd.underlying36
 have HR0 := Aside0.mk hr0
 have HC0 := Aside0.mk hc0
 clear hr0 hc0
 have HO3 := Aside0.mk (show Kd.V k38 38 w w.heap.size (fun k_ => ((k_ < w.heap.size) ∨ w.heap.size ≤ k_)) (.slice none 0 0) ([] : List S38) from Kd.V_nil _ _ _ _ _)
 have HB := Aside0.mk (Below.refl w.heap.size w)
 have H : ((sennitlaw21_awake.f k).bind fun t101 => ((sennitref21_Few.f k l0).bind fun t102 => (if t102 = true then ((sennitref21_May.f k l0).bind fun t103 => (sennitlaw21_HunkSpans.j0 k l0 a1 a2 t101 (!t103))) else (sennitlaw21_HunkSpans.j0 k l0 a1 a2 t101 true)))) = some r := h
 clear h
 replace H := Option.bind_eq_some_iff.mp H
 obtain ⟨t101, A50, H⟩ := H
 replace H : ((sennitref21_Few.f k l0).bind fun t102 => (if t102 = true then ((sennitref21_May.f k l0).bind fun t103 => (sennitlaw21_HunkSpans.j0 k l0 a1 a2 t101 (!t103))) else (sennitlaw21_HunkSpans.j0 k l0 a1 a2 t101 true))) = some r := H
 have A5 := Aside0.mk A50
 clear A50
 have HC6 := Aside0.mk H
 clear H
 go_enter Tryd.func6, Tryd.ntmps6
 go_upto_region 2 with (first | ((with_reducible refine gate_callee (f := 9) rfl ?_); refine goesL_ (some 16) rfl rfl Tryd.func9 (by kernel_rfl) rfl #[] rfl (by (try simp only [List.map_toArray, List.map_cons, List.map_nil]); first | done | rfl | (simp only [List.length_drop, List.length_take]; rfl)) ?_; (with_reducible refine (sennitlaw21_awake.calls k  t101 _ ?sidemx A5.out).mono ?_); (case sidemx => exact MaxOk.below HMX.out (by repeat (first | (with_reducible first | exact HB.out | apply below_alloc | apply pw_below_drewN | apply below_drew1) | exact HB.out))); rintro e w7 ⟨rfl, hb⟩; refine ⟨_, rfl, ?_⟩; have n0_ := Aside0.mk (Kd.V_below (by (with_reducible repeat (first | apply Kd.V_alloc | apply Kd.V_drewN | apply Kd.V_drew)); exact HO3.out) hb); have n1_ := Aside0.mk (below_step (by repeat (first | (with_reducible first | exact HB.out | apply below_alloc | apply pw_below_drewN | apply below_drew1) | exact HB.out)) hb); clear HO3; clear HB; have HO3 := n0_; have HB := n1_; clear n0_ n1_; (try clear hb); (try clear hb2); (try clear hk); (try clear hi)))
 (try simp only [Act.put, List.setIfInBounds_toArray, List.set_cons_zero, List.set_cons_succ])
 go_cut [24] (fun v24 wc => ∃ (kq : Nat) (x24_5 : Bool), v24 = .bool x24_5 ∧ Aside0 (sennitlaw21_HunkSpans.j0 kq l0 a1 a2 t101 x24_5 = some r) ∧ Aside0 (kq ≤ k) ∧ Aside0 (Kd.V k38 38 wc w.heap.size (fun k_ => ((k_ < w.heap.size) ∨ w.heap.size ≤ k_)) (.slice none 0 0) ([] : List S38)) ∧ Aside0 (Below w.heap.size w wc))
 case first =>
  have H := HC6.out
  clear HC6
  replace H := Option.bind_eq_some_iff.mp H
  obtain ⟨t102, A80, H⟩ := H
  replace H : (if t102 = true then ((sennitref21_May.f k l0).bind fun t103 => (sennitlaw21_HunkSpans.j0 k l0 a1 a2 t101 (!t103))) else (sennitlaw21_HunkSpans.j0 k l0 a1 a2 t101 true)) = some r := H
  have A8 := Aside0.mk A80
  clear A80
  by_cases c9 : t102 = true
  rotate_left
  ·replace c9 := Bool.eq_false_iff.mpr c9
   subst c9
   have H1 : (sennitlaw21_HunkSpans.j0 k l0 a1 a2 t101 true) = some r := by rw [if_neg (show ¬ (false = true) by decide)] at H; exact H
   clear H
   have H := H1
   clear H1
   have H' := Aside0.mk H
   clear H
   go_wp2_with (first | ((with_reducible refine gate_callee (f := 10) rfl ?_); refine goesL_ (some 18) rfl rfl Tryd.func10 (by kernel_rfl) rfl #[.slice A0 l0.length c0] rfl (by (try simp only [List.map_toArray, List.map_cons, List.map_nil]); first | done | rfl | (simp only [List.length_drop, List.length_take]; rfl)) ?_; (with_reducible refine (sennitref21_Few.calls k _ _ l0 false _ ?side1 ?side2 A8.out).mono ?_); (case side1 => repeat (first | exact (Kd.C_below HR0.out HB.out) | (with_reducible refine Kd.C_alloc ?_ _) | (with_reducible refine Kd.C_drewN ?_ _) | (with_reducible refine Kd.C_drew ?_))); (case side2 => exact HC0.out); rintro e w' ⟨rfl, ⟨nd, rfl⟩⟩; refine ⟨_, rfl, ?_⟩))
   go_meet
   case rel => exact ⟨_, (true), (by first | rfl | (simp; done) | (simp [*]; done)), H', ⟨by first | omega | exact Nat.le_refl _⟩, ⟨by (with_reducible repeat (first | apply Kd.V_alloc | apply Kd.V_drewN | apply Kd.V_drew)); exact HO3.out⟩, ⟨by repeat (first | (with_reducible first | exact HB.out | apply below_alloc | apply pw_below_drewN | apply below_drew1) | exact HB.out)⟩⟩
  subst c9
  have H1 : ((sennitref21_May.f k l0).bind fun t103 => (sennitlaw21_HunkSpans.j0 k l0 a1 a2 t101 (!t103))) = some r := by rw [if_pos rfl] at H; exact H
  clear H
  have H := H1
  clear H1
  replace H := Option.bind_eq_some_iff.mp H
  obtain ⟨t103, A100, H⟩ := H
  replace H : (sennitlaw21_HunkSpans.j0 k l0 a1 a2 t101 (!t103)) = some r := H
  have A10 := Aside0.mk A100
  clear A100
  have H' := Aside0.mk H
  clear H
  go_wp2_with (first | ((with_reducible refine gate_callee (f := 10) rfl ?_); refine goesL_ (some 18) rfl rfl Tryd.func10 (by kernel_rfl) rfl #[.slice A0 l0.length c0] rfl (by (try simp only [List.map_toArray, List.map_cons, List.map_nil]); first | done | rfl | (simp only [List.length_drop, List.length_take]; rfl)) ?_; (with_reducible refine (sennitref21_Few.calls k _ _ l0 true _ ?side1 ?side2 A8.out).mono ?_); (case side1 => repeat (first | exact (Kd.C_below HR0.out HB.out) | (with_reducible refine Kd.C_alloc ?_ _) | (with_reducible refine Kd.C_drewN ?_ _) | (with_reducible refine Kd.C_drew ?_))); (case side2 => exact HC0.out); rintro e w' ⟨rfl, ⟨nd, rfl⟩⟩; refine ⟨_, rfl, ?_⟩) | (go_at_call 14; (with_reducible refine (sennitref21_May.calls k _ _ l0 t103 _ ?side1 ?side2 A10.out).mono ?_); (case side1 => repeat (first | exact (Kd.C_below HR0.out (by repeat (first | (with_reducible first | exact HB.out | apply below_alloc | apply pw_below_drewN | apply below_drew1) | exact HB.out))) | (with_reducible refine Kd.C_alloc ?_ _) | (with_reducible refine Kd.C_drewN ?_ _) | (with_reducible refine Kd.C_drew ?_))); (case side2 => exact HC0.out); rintro e w11 ⟨rfl, hb⟩; have n0_ := Aside0.mk (Kd.V_below (by (with_reducible repeat (first | apply Kd.V_alloc | apply Kd.V_drewN | apply Kd.V_drew)); exact HO3.out) hb); have n1_ := Aside0.mk (below_step (by repeat (first | (with_reducible first | exact HB.out | apply below_alloc | apply pw_below_drewN | apply below_drew1) | exact HB.out)) hb); clear HO3; clear HB; have HO3 := n0_; have HB := n1_; clear n0_ n1_; (try clear hb); (try clear hb2); (try clear hk); (try clear hi)))
  go_meet
  case rel => exact ⟨_, (!t103), (by first | rfl | (simp; done) | (simp [*]; done)), H', ⟨by first | omega | exact Nat.le_refl _⟩, ⟨by (with_reducible repeat (first | apply Kd.V_alloc | apply Kd.V_drewN | apply Kd.V_drew)); exact HO3.out⟩, ⟨by repeat (first | (with_reducible first | exact HB.out | apply below_alloc | apply pw_below_drewN | apply below_drew1) | exact HB.out)⟩⟩
 clear HC6; try clear c1; try clear p2; try clear c3; try clear c6; try clear c9; try clear c10
 obtain ⟨kq, x24_5, rfl, HA, HJ5, HO_3, HB⟩ := hcut
 cases kq with
 | zero => exact absurd HA.out (by simp [sennitlaw21_HunkSpans.j0])
 | succ kj5 =>
  have H := HA.out
  clear HA
  simp only [sennitlaw21_HunkSpans.j0] at H
  by_cases c12 : x24_5 = true
  ·subst c12
   have H1 : (some t101) = some r := by rw [if_pos rfl] at H; exact H
   clear H
   have H := H1
   clear H1
   obtain rfl := Option.some.inj H
   go_wp2
   go_ret
   exact ⟨by first | rfl | (simp [errW_none, errW_some] <;> rfl) | (simp [errW_none, errW_some] <;> (generalize ByteArray.toList _ = l_ <;> cases l_ <;> rfl)) | (simp [*, errW_none, errW_some] <;> rfl), by repeat (first | (with_reducible first | exact HB.out | apply below_alloc | apply pw_below_drewN | apply below_drew1) | exact HB.out)⟩
  replace c12 := Bool.eq_false_iff.mpr c12
  subst c12
  have H1 : ((hunk_Hunks.f kj5 l0 (wrap64 (a1)) a2).bind fun bt => (sennitlaw21_HunkSpans.l0 kj5 l0 a2 t101 bt.1 0 ([] : List (S36)) 0 0 ([] : List (S41)))) = some r := by rw [if_neg (show ¬ (false = true) by decide)] at H; exact H
  clear H
  have H := H1
  clear H1
  replace H := Option.bind_eq_some_iff.mp H
  obtain ⟨⟨l3, t333⟩, A120, H⟩ := H
  replace H : (sennitlaw21_HunkSpans.l0 kj5 l0 a2 t101 l3 0 ([] : List (S36)) 0 0 ([] : List (S41))) = some r := H
  have A12 := Aside0.mk A120
  clear A120
  have H' := Aside0.mk H
  clear H
  go_wp2_with (first | (go_at_call 11; (with_reducible refine (hunk_Hunks.calls kj5 (fun k_ => k_ < w.heap.size) _ _ l0 (wrap64 (a1)) a2 l3 t333 _ ?side1 ?sidemx A12.out).mono ?_); (case sidemx => exact MaxOk.below HMX.out (by repeat (first | (with_reducible first | exact HB.out | apply below_alloc | apply pw_below_drewN | apply below_drew1) | exact HB.out))); (case side1 => exact Kd.V_mk HC0.out (Kd.F_below (Kd.C_F k41_heap HR0.out) (by repeat (first | (with_reducible first | exact HB.out | apply below_alloc | apply pw_below_drewN | apply below_drew1) | exact HB.out)))); rintro e w99 ⟨v331, rfl, ho0, hb⟩; have n0_ := Aside0.mk (Kd.N_V (base' := w.heap.size) (Kd.N_mono (ok' := fun k_ => (k_ < w.heap.size) ∨ w.heap.size ≤ k_) ho0 (fun k_ hk_ => Nat.lt_or_ge _ _))); have n1_ := Aside0.mk (below_step (by repeat (first | (with_reducible first | exact HB.out | apply below_alloc | apply pw_below_drewN | apply below_drew1) | exact HB.out)) hb); clear HO_3; clear HB; obtain ⟨A3, c3, hv331⟩ := Kd.V_slice n0_.out; subst hv331; have HO_3 := n0_; have HB := n1_; clear n0_ n1_; (try clear hb); (try clear ho0)) | ((with_reducible refine gate_dst (N := 10) rfl ?_); (try (refine gate_guard (by rfl) ?_; dsimp only)); refine box_event ?hg (N := 10) ?hd (cs := #[.slice none 0 0, .int .i64 0, .int .i64 0, .slice none 0 0]) (t := 38) ?hr ?_; (case hd => rfl); (case hg => rfl); (case hr => first | (go_simp; done) | (go_simp; rfl)); intro gb104 hg w13 hbox hb; have n0_ := Aside0.mk (Kd.V_below (Kd.V_elderB (by (with_reducible repeat (first | apply Kd.V_alloc | apply Kd.V_drewN | apply Kd.V_drew)); exact HO_3.out) gb104 (Nat.le_of_eq hg.symm)) hb); have n1_ := Aside0.mk (below_step (by repeat (first | (with_reducible first | exact HB.out | apply below_alloc | apply pw_below_drewN | apply below_drew1) | exact HB.out)) hb); have n2_ := Aside0.mk (hbox); have n3_ := Aside0.mk ((by rw [hg]; exact (below_size (by repeat (first | (with_reducible first | exact HB.out | apply below_alloc | apply pw_below_drewN | apply below_drew1) | exact HB.out))) : w.heap.size ≤ gb104)); have n4_ := Aside0.mk ((by rw [hg]; exact (below_size (by repeat (first | (with_reducible first | exact HB.out | apply below_alloc | apply pw_below_drewN | apply below_drew1) | exact HB.out))) : w.heap.size ≤ gb104)); clear HO_3; clear HB; have HO_3 := n0_; have HB := n1_; have BK104 := n2_; have GW104 := n3_; have GE104 := n4_; clear n0_ n1_ n2_ n3_ n4_; clear hb hbox hg; have hcz14_0 : w13.cell? ⟨gb104, 0, none⟩ = some (.slice none 0 0) := (blk_cell BK104.out 0).trans rfl; have hcz14_1 : w13.cell? ⟨gb104, 1, none⟩ = some (.int .i64 0) := (blk_cell BK104.out 1).trans rfl; have hcz14_2 : w13.cell? ⟨gb104, 2, none⟩ = some (.int .i64 0) := (blk_cell BK104.out 2).trans rfl; have hcz14_3 : w13.cell? ⟨gb104, 3, none⟩ = some (.slice none 0 0) := (blk_cell BK104.out 3).trans rfl; have hfz14_0 := blk_frozen BK104.out 0; have hfz14_1 := blk_frozen BK104.out 1; have hfz14_2 := blk_frozen BK104.out 2; have hfz14_3 := blk_frozen BK104.out 3))
  go_loopg [11] kj5 (fun kq v11 w' => ∃ (x11_2 : Int) (x105000_2 : List (S36)) (x105001_2 : Int) (x105002_2 : Int) (x105003_2 : List (S41)) (u105000 : Value) (u105003 : Value), v11 = .int .i64 x11_2 ∧ Aside0 (sennitlaw21_HunkSpans.l0 kq l0 a2 t101 l3 x11_2 x105000_2 x105001_2 x105002_2 x105003_2 = some r) ∧ Aside0 (kq ≤ kj5) ∧ Aside0 (Kd.V k38 38 w' w.heap.size (fun k_ => ((k_ < w.heap.size) ∨ w.heap.size ≤ k_) ∧ k_ ≠ gb104) (.slice A3 l3.length c3) l3) ∧ Aside0 (Kd.V k36 36 w' w.heap.size (fun k_ => ((k_ < w.heap.size) ∨ w.heap.size ≤ k_) ∧ k_ ≠ gb104) u105000 x105000_2) ∧ Aside0 (Kd.V k41 41 w' w.heap.size (fun k_ => ((k_ < w.heap.size) ∨ w.heap.size ≤ k_) ∧ k_ ≠ gb104) u105003 x105003_2) ∧ Aside0 (w'.heap[gb104]? = some (.cells #[u105000, .int .i64 x105001_2, .int .i64 x105002_2, u105003] 38 (0, 0))) ∧ Aside0 (Below w.heap.size w w'))
  case atStart => exact ⟨(0), (([] : List (S36))), (0), (0), (([] : List (S41))), (.slice none 0 0), (.slice none 0 0), (by first | rfl | (simp; done) | (simp [*]; done)), H', ⟨Nat.le_refl _⟩, ⟨by (with_reducible repeat (first | apply Kd.V_alloc | apply Kd.V_drewN | apply Kd.V_drew)); exact Kd.V_mono (Kd.V_far (p := ⟨gb104, 3, none⟩) (Kd.V_far (p := ⟨gb104, 2, none⟩) (Kd.V_far (p := ⟨gb104, 1, none⟩) (Kd.V_far (p := ⟨gb104, 0, none⟩) (Kd.V_mono HO_3.out (fun k_ hk => (⟨hk, hk.2⟩ : _ ∧ k_ ≠ gb104))) (fun _ hk => hk.2) (.slice none 0 0)) (fun _ hk => hk.2) (.int .i64 0)) (fun _ hk => hk.2) (.int .i64 0)) (fun _ hk => hk.2) (.slice none 0 0)) (fun _ hk => ⟨hk.1.1, hk.1.2⟩)⟩, ⟨Kd.V_nil _ _ _ _ _⟩, ⟨Kd.V_nil _ _ _ _ _⟩, ⟨by (with_reducible repeat (first | refine blk_drewN ?_ _ | refine blk_drew ?_ | refine blk_alloc ?_ _)); refine blk_put (cs := #[.slice none 0 0, .int .i64 0, .int .i64 0, .slice none 0 0]) ?_ 3 _ rfl; (with_reducible repeat (first | refine blk_drewN ?_ _ | refine blk_drew ?_ | refine blk_alloc ?_ _)); refine blk_put (cs := #[.slice none 0 0, .int .i64 0, .int .i64 0, .slice none 0 0]) ?_ 2 _ rfl; (with_reducible repeat (first | refine blk_drewN ?_ _ | refine blk_drew ?_ | refine blk_alloc ?_ _)); refine blk_put (cs := #[.slice none 0 0, .int .i64 0, .int .i64 0, .slice none 0 0]) ?_ 1 _ rfl; (with_reducible repeat (first | refine blk_drewN ?_ _ | refine blk_drew ?_ | refine blk_alloc ?_ _)); refine blk_put (cs := #[.slice none 0 0, .int .i64 0, .int .i64 0, .slice none 0 0]) ?_ 0 _ rfl; (with_reducible repeat (first | refine blk_drewN ?_ _ | refine blk_drew ?_ | refine blk_alloc ?_ _)); exact BK104.out⟩, ⟨by repeat (first | (with_reducible first | exact HB.out | apply below_alloc | apply pw_below_drewN | apply below_drew1 | refine below_set ?_ GE104.out) | exact HB.out)⟩⟩
  clear H'; try clear c1; try clear p2; try clear c3; try clear c6; try clear c9; try clear c10; try clear c12; try clear hcz14_0; try clear hcz14_1; try clear hcz14_2; try clear hcz14_3; try clear hfz14_0; try clear hfz14_1; try clear hfz14_2; try clear hfz14_3; try clear p2
  obtain ⟨x11_2, x105000_2, x105001_2, x105002_2, x105003_2, u105000, u105003, rfl, HA, HK2, HO_8, HO_105000, HO_105003, BK104, HB⟩ := hrel
  cases gk with
  | zero => exact absurd HA.out (by simp [sennitlaw21_HunkSpans.l0])
  | succ k2 =>
   have H := HA.out
   clear HA
   simp only [sennitlaw21_HunkSpans.l0] at H
   by_cases c15 : x11_2 < (l3.length : Int)
   rotate_left
   ·rw [if_neg c15] at H
    have c15b0 : decide (x11_2 < (l3.length : Int)) = false := decide_eq_false c15
    clear c15
    obtain rfl := Option.some.inj H
    go_wp2
    go_ret
    exact ⟨by first | rfl | (simp [errW_none, errW_some] <;> rfl) | (simp [errW_none, errW_some] <;> (generalize ByteArray.toList _ = l_ <;> cases l_ <;> rfl)) | (simp [*, errW_none, errW_some] <;> rfl), by repeat (first | (with_reducible first | exact HB.out | apply below_alloc | apply pw_below_drewN | apply below_drew1 | refine below_set ?_ GE104.out) | exact HB.out)⟩
   rw [if_pos c15] at H
   have c15b0 : decide (x11_2 < (l3.length : Int)) = true := decide_eq_true c15
   clear c15
   by_cases c16 : 0 ≤ x11_2
   rotate_left
   ·rw [if_neg c16] at H
    exact absurd H (by simp)
   rw [if_pos c16] at H
   have c16b0 : decide (0 ≤ x11_2) = true := decide_eq_true c16
   clear c16
   have HC17 := Aside0.mk H
   clear H
   try go_wp2
   have n0_ := Aside0.mk (Kd.V_drew HO_8.out)
   have n1_ := Aside0.mk (Kd.V_drew HO_105000.out)
   have n2_ := Aside0.mk (Kd.V_drew HO_105003.out)
   have n3_ := Aside0.mk (blk_drew BK104.out)
   have n4_ := Aside0.mk (below_drew1 HB.out)
   clear HO_8; clear HO_105000; clear HO_105003; clear BK104; clear HB
   have HO_8 := n0_
   have HO_105000 := n1_
   have HO_105003 := n2_
   have BK104 := n3_
   have HB := n4_
   clear n0_ n1_ n2_ n3_ n4_
   have p105 : 0 ≤ (x11_2 : Int) := of_decide_eq_true (by first | (with_reducible assumption) | assumption)
   have q105 : x11_2 < (l3.length : Int) := of_decide_eq_true (by first | (with_reducible assumption) | assumption)
   obtain ⟨ad105, A105_0, c105_0, A105_3, c105_3, e105, hx105_0, hx105_1, hx105_2, hx105_3, hl105_0, hi105_0, hl105_3, hi105_3⟩ := at_T38 (Kd.V_reads' HO_8.out).2.2 x11_2 p105 q105
   cases e105
   obtain ⟨ce105, hce105, hMe105, hcc105⟩ := Kd.V_get HO_8.out z38 x11_2 p105 (by first | exact q105 | exact of_decide_eq_true (by first | (with_reducible assumption) | assumption) | (have e_ := (Kd.V_reads' HO_8.out).1; omega))
   obtain ⟨ua105_0, uc105_0, ua105_3, uc105_3, rfl, ul105_0, ge105_0, ul105_3, ge105_3⟩ := k38_openF hMe105
   have hv105_0 := hcc105 0 _ rfl
   rw [Nat.add_zero] at hv105_0
   replace hv105_0 := Option.some.inj (hv105_0.symm.trans hx105_0)
   injection hv105_0 with hva_ hvn_ hvc_
   rw [hva_] at ge105_0
   rw [hvc_] at ul105_0
   have HL105_0 := Aside0.mk (show Kd.V k36 36 _ w.heap.size _ _ ((rd_T38 l3 x11_2).f0) from Kd.V_mk ul105_0 ge105_0)
   clear hva_ hvn_ hvc_ ge105_0 ul105_0
   have hv105_3 := hcc105 3 _ rfl
   rw [add_field _ _ 3 (by omega)] at hv105_3
   replace hv105_3 := Option.some.inj (hv105_3.symm.trans hx105_3)
   injection hv105_3 with hva_ hvn_ hvc_
   rw [hva_] at ge105_3
   rw [hvc_] at ul105_3
   have HL105_3 := Aside0.mk (show Kd.V k41 41 _ w.heap.size _ _ ((rd_T38 l3 x11_2).f2) from Kd.V_mk ul105_3 ge105_3)
   clear hva_ hvn_ hvc_ ge105_3 ul105_3; clear hcc105 hce105
   have HR105_0 := Aside0.mk hi105_0
   have HC105_0 := Aside0.mk hl105_0
   clear hi105_0 hl105_0
   have HR105_3 := Aside0.mk hi105_3
   have HC105_3 := Aside0.mk hl105_3
   clear hi105_3 hl105_3
   replace p105 := eq_true p105
   replace q105 := eq_true q105
   refine start_ (n := 11) (S := fun w' => w'.cell? ⟨gb104, 0, none⟩ = some (u105000) ∧ w'.cell? ⟨gb104, 1, none⟩ = some (.int .i64 x105001_2) ∧ w'.cell? ⟨gb104, 2, none⟩ = some (.int .i64 x105002_2) ∧ w'.cell? ⟨gb104, 3, none⟩ = some (u105003) ∧ w'.cell? (ad105.add ((x11_2).toNat * 4)) = some (.slice A105_0 ((rd_T38 l3 x11_2).f0).length c105_0) ∧ w'.cell? ⟨(ad105.add ((x11_2).toNat * 4)).block, (ad105.add ((x11_2).toNat * 4)).off + 1, none⟩ = some (.int .i64 ((rd_T38 l3 x11_2).f1.f0)) ∧ w'.cell? ⟨(ad105.add ((x11_2).toNat * 4)).block, (ad105.add ((x11_2).toNat * 4)).off + 2, none⟩ = some (.int .i64 ((rd_T38 l3 x11_2).f1.f1)) ∧ w'.cell? ⟨(ad105.add ((x11_2).toNat * 4)).block, (ad105.add ((x11_2).toNat * 4)).off + 3, none⟩ = some (.slice A105_3 ((rd_T38 l3 x11_2).f2).length c105_3)) (ds := []) #[F,F,F,F,F,F,F,F,F,F,F] (by kernel_rfl) rfl rfl ⟨(blk_cell BK104.out 0).trans rfl, (blk_cell BK104.out 1).trans rfl, (blk_cell BK104.out 2).trans rfl, (blk_cell BK104.out 3).trans rfl, hx105_0, hx105_1, hx105_2, hx105_3⟩ (fun hHeld => ?_); refine with_tabW sennitlaw21_HunkSpans.tab9 sennitlaw21_HunkSpans.bits9 (fun HT_ HW_ => ?_)
   generalize wr.drew = w18 at HO_8 HO_105000 HO_105003 BK104 HB HL105_0 HL105_3 HR105_0 HR105_3 hx105_0 hx105_1 hx105_2 hx105_3 hHeld ⊢
   refine pure_ (i := 0) (N := some 41) (v := ?_) (a' := ?_) #[T,F,F,F,F,F,F,F,F,F,F] rfl rfl (any_of HT_.out (by kernel_rfl)) (fun _ _ _ h => h) (Or.inl ⟨by rfl, ?_⟩) ?_ ?_; rotate_left; (intro w'; go_simp; with_reducible rfl); rotate_left; (simp only [Act.put, List.setIfInBounds_toArray, List.set_cons_zero, List.set_cons_succ, i64_w, i32_w]; rfl)
   refine pure_ (i := 1) (N := some 42) (v := ?_) (a' := ?_) #[T,T,F,F,F,F,F,F,F,F,F] rfl rfl (any_of HT_.out (by kernel_rfl)) (fun _ _ _ h => h) (Or.inl ⟨by rfl, ?_⟩) ?_ ?_; rotate_left; (intro w'; go_simp; with_reducible rfl); rotate_left; (simp only [Act.put, List.setIfInBounds_toArray, List.set_cons_zero, List.set_cons_succ, i64_w, i32_w]; rfl)
   refine pure_ (i := 2) (N := some 43) (v := ?_) (a' := ?_) #[T,T,T,F,F,F,F,F,F,F,F] rfl rfl (any_of HT_.out (by kernel_rfl)) (fun _ _ _ h => h) (Or.inl ⟨by rfl, ?_⟩) ?_ ?_; rotate_left; (intro w'; go_simp; with_reducible rfl); rotate_left; (simp only [Act.put, List.setIfInBounds_toArray, List.set_cons_zero, List.set_cons_succ, i64_w, i32_w]; rfl)
   refine pure_ (i := 3) (N := some 44) (v := ?_) (a' := ?_) #[T,T,T,T,F,F,F,F,F,F,F] rfl rfl (any_of HT_.out (by kernel_rfl)) (fun _ _ _ h => h) (Or.inl ⟨by rfl, ?_⟩) ?_ ?_; rotate_left; (intro w'; go_simp; with_reducible rfl); rotate_left; (simp only [Act.put, List.setIfInBounds_toArray, List.set_cons_zero, List.set_cons_succ, i64_w, i32_w]; rfl)
   refine pure_ (i := 4) (N := some 45) (v := ?_) (a' := ?_) #[T,T,T,T,T,F,F,F,F,F,F] rfl rfl (any_of HT_.out (by kernel_rfl)) (fun _ _ _ h => h) (Or.inl ⟨by rfl, ?_⟩) ?_ ?_; rotate_left; (intro w'; go_simp; with_reducible rfl); rotate_left; (simp only [Act.put, List.setIfInBounds_toArray, List.set_cons_zero, List.set_cons_succ, i64_w, i32_w]; rfl)
   refine pure_ (i := 6) (N := some 47) (v := ?_) (a' := ?_) #[T,T,T,T,T,F,T,F,F,F,F] rfl rfl (any_of HT_.out (by kernel_rfl)) (fun _ _ _ h => h) (Or.inl ⟨by rfl, ?_⟩) ?_ ?_; rotate_left; (intro w'; go_simp; with_reducible rfl); rotate_left; (simp only [Act.put, List.setIfInBounds_toArray, List.set_cons_zero, List.set_cons_succ, i64_w, i32_w]; rfl)
   refine pure_ (i := 7) (N := some 48) (v := ?_) (a' := ?_) #[T,T,T,T,T,F,T,T,F,F,F] rfl rfl (any_of HT_.out (by kernel_rfl)) (fun _ _ _ h => h) (Or.inl ⟨by rfl, ?_⟩) ?_ ?_; rotate_left; (intro w'; go_simp; with_reducible rfl); rotate_left; (simp only [Act.put, List.setIfInBounds_toArray, List.set_cons_zero, List.set_cons_succ, i64_w, i32_w]; rfl)
   refine take_ (i := 5) (N := some 46) (v := ?_) (a' := ?_) #[T,T,T,T,T,T,T,T,F,F,F] rfl rfl (take_ofW HT_.out HW_.out (by kernel_rfl)) (fun _ _ _ h => h) (Or.inl ⟨by rfl, ?_⟩) hHeld ?_ ?_; rotate_left; (rintro w' ⟨s0, s1, s2, s3, s4, s5, s6, s7⟩; go_simp; with_reducible rfl); rotate_left; (simp only [Act.put, List.setIfInBounds_toArray, List.set_cons_zero, List.set_cons_succ, i64_w, i32_w]; rfl)
   refine take_ (i := 8) (N := some 49) (v := ?_) (a' := ?_) #[T,T,T,T,T,T,T,T,T,F,F] rfl rfl (take_ofW HT_.out HW_.out (by kernel_rfl)) (fun _ _ _ h => h) (Or.inl ⟨by rfl, ?_⟩) hHeld ?_ ?_; rotate_left; (rintro w' ⟨s0, s1, s2, s3, s4, s5, s6, s7⟩; go_simp; with_reducible rfl); rotate_left; (simp only [Act.put, List.setIfInBounds_toArray, List.set_cons_zero, List.set_cons_succ, i64_w, i32_w]; rfl)
   refine pure_ (i := 9) (N := some 50) (v := ?_) (a' := ?_) #[T,T,T,T,T,T,T,T,T,T,F] rfl rfl (any_of HT_.out (by kernel_rfl)) (fun _ _ _ h => h) (Or.inl ⟨by rfl, ?_⟩) ?_ ?_; rotate_left; (intro w'; go_simp; with_reducible rfl); rotate_left; (simp only [Act.put, List.setIfInBounds_toArray, List.set_cons_zero, List.set_cons_succ, i64_w, i32_w]; rfl)
   refine pure_ (i := 10) (N := some 12) (v := ?_) (a' := ?_) #[T,T,T,T,T,T,T,T,T,T,T] rfl rfl (any_of HT_.out (by kernel_rfl)) (fun _ _ _ h => h) (Or.inl ⟨by rfl, ?_⟩) ?_ ?_; rotate_left; (intro w'; go_simp; with_reducible rfl); rotate_left; (simp only [Act.put, List.setIfInBounds_toArray, List.set_cons_zero, List.set_cons_succ, i64_w, i32_w]; rfl)
   refine done_ (done_of HT_.out (by kernel_rfl)) ?_
   go_upto_region 10 with (fail)
   go_cut [98] (fun v98 wc => ∃ (kq : Nat) (x98_16 : Bool), v98 = .bool x98_16 ∧ Aside0 (sennitlaw21_HunkSpans.j2 kq l0 a2 t101 l3 x11_2 (wrap64 (((rd_T38 l3 x11_2).f1.f0) - x105002_2)) x98_16 x105000_2 x105001_2 x105002_2 x105003_2 = some r) ∧ Aside0 (kq ≤ k2) ∧ Aside0 (Kd.V k38 38 wc w.heap.size (fun k_ => ((k_ < w.heap.size) ∨ w.heap.size ≤ k_) ∧ k_ ≠ gb104) (.slice (some ad105) l3.length c3) l3) ∧ Aside0 (Kd.V k36 36 wc w.heap.size (fun k_ => ((k_ < w.heap.size) ∨ w.heap.size ≤ k_) ∧ k_ ≠ gb104) u105000 x105000_2) ∧ Aside0 (Kd.V k41 41 wc w.heap.size (fun k_ => ((k_ < w.heap.size) ∨ w.heap.size ≤ k_) ∧ k_ ≠ gb104) u105003 x105003_2) ∧ Aside0 (wc.heap[gb104]? = some (.cells #[u105000, .int .i64 x105001_2, .int .i64 x105002_2, u105003] 38 (0, 0))) ∧ Aside0 (Kd.C k36 wc A105_0 ((rd_T38 l3 x11_2).f0).length ((rd_T38 l3 x11_2).f0)) ∧ Aside0 (Kd.C k41 wc A105_3 ((rd_T38 l3 x11_2).f2).length ((rd_T38 l3 x11_2).f2)) ∧ Aside0 (Below w.heap.size w wc))
   case first =>
    have H := HC17.out
    clear HC17
    by_cases c19 : (wrap64 (((rd_T38 l3 x11_2).f1.f0) - x105002_2)) < 0
    ·rw [if_pos c19] at H
     have c19b0 : decide ((wrap64 (((rd_T38 l3 x11_2).f1.f0) - x105002_2)) < 0) = true := decide_eq_true c19
     clear c19
     (first | rw [c19b0] | (simp only [i64_w, i32_w]; rw [c19b0]) | skip)
     exact (sennitlaw21_HunkSpans.j2_true H HRT.out).elim
    rw [if_neg c19] at H
    have c19b0 : decide ((wrap64 (((rd_T38 l3 x11_2).f1.f0) - x105002_2)) < 0) = false := decide_eq_false c19
    clear c19
    (first | rw [c19b0] | (simp only [i64_w, i32_w]; rw [c19b0]) | skip)
    replace H := Option.bind_eq_some_iff.mp H
    obtain ⟨t109, A210, H⟩ := H
    replace H : (if (wrap64 (((rd_T38 l3 x11_2).f1.f1) - ((rd_T38 l3 x11_2).f1.f0))) = (t109.length : Int) then (if 0 < (l0.length : Int) then (if (((rd_T38 l3 x11_2).f0).length : Int) = (((rd_T41 l0 0).f0).size : Int) then (sennitlaw21_HunkSpans.j2 k2 l0 a2 t101 l3 x11_2 (wrap64 (((rd_T38 l3 x11_2).f1.f0) - x105002_2)) ((((rd_T38 l3 x11_2).f2).length : Int) == 0) x105000_2 x105001_2 x105002_2 x105003_2) else (sennitlaw21_HunkSpans.j2 k2 l0 a2 t101 l3 x11_2 (wrap64 (((rd_T38 l3 x11_2).f1.f0) - x105002_2)) true x105000_2 x105001_2 x105002_2 x105003_2)) else (none)) else (sennitlaw21_HunkSpans.j2 k2 l0 a2 t101 l3 x11_2 (wrap64 (((rd_T38 l3 x11_2).f1.f0) - x105002_2)) true x105000_2 x105001_2 x105002_2 x105003_2)) = some r := H
    have A21 := Aside0.mk A210
    clear A210
    by_cases c22 : (wrap64 (((rd_T38 l3 x11_2).f1.f1) - ((rd_T38 l3 x11_2).f1.f0))) = (t109.length : Int)
    rotate_left
    ·rw [if_neg c22] at H
     have c22b0 : ((wrap64 (((rd_T38 l3 x11_2).f1.f1) - ((rd_T38 l3 x11_2).f1.f0))) == (t109.length : Int)) = false := beq_eq_false_iff_ne.mpr c22
     have c22b1 : ((wrap64 (((rd_T38 l3 x11_2).f1.f1) - ((rd_T38 l3 x11_2).f1.f0))) != (t109.length : Int)) = true := bne_iff_ne.mpr c22
     exact (sennitlaw21_HunkSpans.j2_true H HRT.out).elim
    rw [if_pos c22] at H
    have c22b0 : ((wrap64 (((rd_T38 l3 x11_2).f1.f1) - ((rd_T38 l3 x11_2).f1.f0))) == (t109.length : Int)) = true := beq_iff_eq.mpr c22
    have c22b1 : ((wrap64 (((rd_T38 l3 x11_2).f1.f1) - ((rd_T38 l3 x11_2).f1.f0))) != (t109.length : Int)) = false := bne_eq_false_iff_eq.mpr c22
    clear c22
    by_cases c23 : 0 < (l0.length : Int)
    rotate_left
    ·rw [if_neg c23] at H
     exact absurd H (by simp)
    rw [if_pos c23] at H
    have c23b0 : decide (0 < (l0.length : Int)) = true := decide_eq_true c23
    have c23b1 : decide (0 < l0.length) = true := decide_eq_true (by omega)
    clear c23
    by_cases c24 : (((rd_T38 l3 x11_2).f0).length : Int) = (((rd_T41 l0 0).f0).size : Int)
    rotate_left
    ·rw [if_neg c24] at H
     have c24b0 : ((((rd_T38 l3 x11_2).f0).length : Int) == (((rd_T41 l0 0).f0).size : Int)) = false := beq_eq_false_iff_ne.mpr c24
     have c24b1 : ((((rd_T38 l3 x11_2).f0).length : Int) != (((rd_T41 l0 0).f0).size : Int)) = true := bne_iff_ne.mpr c24
     have c24b2 : (((rd_T38 l3 x11_2).f0).length == ((rd_T41 l0 0).f0).size) = false := by first | simpa using c24 | (simp at c24 ⊢; omega)
     exact (sennitlaw21_HunkSpans.j2_true H HRT.out).elim
    rw [if_pos c24] at H
    have c24b0 : ((((rd_T38 l3 x11_2).f0).length : Int) == (((rd_T41 l0 0).f0).size : Int)) = true := beq_iff_eq.mpr c24
    have c24b1 : ((((rd_T38 l3 x11_2).f0).length : Int) != (((rd_T41 l0 0).f0).size : Int)) = false := bne_eq_false_iff_eq.mpr c24
    have c24b2 : (((rd_T38 l3 x11_2).f0).length == ((rd_T41 l0 0).f0).size) = true := by first | simpa using c24 | (simp at c24 ⊢; omega)
    clear c24
    have H' := Aside0.mk H
    clear H
    try go_wp2
    have n0_ := Aside0.mk (Kd.V_drew HO_8.out)
    have n1_ := Aside0.mk (Kd.V_drew HO_105000.out)
    have n2_ := Aside0.mk (Kd.V_drew HO_105003.out)
    have n3_ := Aside0.mk (Kd.V_drew HL105_0.out)
    have n4_ := Aside0.mk (Kd.V_drew HL105_3.out)
    have n5_ := Aside0.mk (blk_drew BK104.out)
    have n6_ := Aside0.mk (Kd.C_drew HR105_0.out)
    have n7_ := Aside0.mk (Kd.C_drew HR105_3.out)
    have n8_ := Aside0.mk (below_drew1 HB.out)
    clear HO_8; clear HO_105000; clear HO_105003; clear HL105_0; clear HL105_3; clear BK104; clear HR105_0; clear HR105_3; clear HB
    have HO_8 := n0_
    have HO_105000 := n1_
    have HO_105003 := n2_
    have HL105_0 := n3_
    have HL105_3 := n4_
    have BK104 := n5_
    have HR105_0 := n6_
    have HR105_3 := n7_
    have HB := n8_
    clear n0_ n1_ n2_ n3_ n4_ n5_ n6_ n7_ n8_
    have p106 : 0 ≤ (x11_2 : Int) := of_decide_eq_true (by first | (with_reducible assumption) | assumption)
    have q106 : x11_2 < (l3.length : Int) := of_decide_eq_true (by first | (with_reducible assumption) | assumption)
    obtain ⟨ad106, A106_0, c106_0, A106_3, c106_3, e106, hx106_0, hx106_1, hx106_2, hx106_3, hl106_0, hi106_0, hl106_3, hi106_3⟩ := at_T38 (Kd.V_reads' HO_8.out).2.2 x11_2 p106 q106
    obtain rfl : ad105 = ad106 := (by injection e106)
    obtain ⟨ce106, hce106, hMe106, hcc106⟩ := Kd.V_get HO_8.out z38 x11_2 p106 (by first | exact q106 | exact of_decide_eq_true (by first | (with_reducible assumption) | assumption) | (have e_ := (Kd.V_reads' HO_8.out).1; omega))
    obtain ⟨ua106_0, uc106_0, ua106_3, uc106_3, rfl, ul106_0, ge106_0, ul106_3, ge106_3⟩ := k38_openF hMe106
    have hv106_0 := hcc106 0 _ rfl
    rw [Nat.add_zero] at hv106_0
    replace hv106_0 := Option.some.inj (hv106_0.symm.trans hx106_0)
    injection hv106_0 with hva_ hvn_ hvc_
    rw [hva_] at ge106_0
    rw [hvc_] at ul106_0
    have HL106_0 := Aside0.mk (show Kd.V k36 36 _ w.heap.size _ _ ((rd_T38 l3 x11_2).f0) from Kd.V_mk ul106_0 ge106_0)
    clear hva_ hvn_ hvc_ ge106_0 ul106_0
    have hv106_3 := hcc106 3 _ rfl
    rw [add_field _ _ 3 (by omega)] at hv106_3
    replace hv106_3 := Option.some.inj (hv106_3.symm.trans hx106_3)
    injection hv106_3 with hva_ hvn_ hvc_
    rw [hva_] at ge106_3
    rw [hvc_] at ul106_3
    have HL106_3 := Aside0.mk (show Kd.V k41 41 _ w.heap.size _ _ ((rd_T38 l3 x11_2).f2) from Kd.V_mk ul106_3 ge106_3)
    clear hva_ hvn_ hvc_ ge106_3 ul106_3; clear hcc106 hce106
    have HR106_0 := Aside0.mk hi106_0
    have HC106_0 := Aside0.mk hl106_0
    clear hi106_0 hl106_0
    have HR106_3 := Aside0.mk hi106_3
    have HC106_3 := Aside0.mk hl106_3
    clear hi106_3 hl106_3
    replace p106 := eq_true p106
    replace q106 := eq_true q106
    have p107 : 0 ≤ (x11_2 : Int) := of_decide_eq_true (by first | (with_reducible assumption) | assumption)
    have q107 : x11_2 < (l3.length : Int) := of_decide_eq_true (by first | (with_reducible assumption) | assumption)
    obtain ⟨ad107, A107_0, c107_0, A107_3, c107_3, e107, hx107_0, hx107_1, hx107_2, hx107_3, hl107_0, hi107_0, hl107_3, hi107_3⟩ := at_T38 (Kd.V_reads' HO_8.out).2.2 x11_2 p107 q107
    obtain rfl : ad105 = ad107 := (by injection e107)
    obtain ⟨ce107, hce107, hMe107, hcc107⟩ := Kd.V_get HO_8.out z38 x11_2 p107 (by first | exact q107 | exact of_decide_eq_true (by first | (with_reducible assumption) | assumption) | (have e_ := (Kd.V_reads' HO_8.out).1; omega))
    obtain ⟨ua107_0, uc107_0, ua107_3, uc107_3, rfl, ul107_0, ge107_0, ul107_3, ge107_3⟩ := k38_openF hMe107
    have hv107_0 := hcc107 0 _ rfl
    rw [Nat.add_zero] at hv107_0
    replace hv107_0 := Option.some.inj (hv107_0.symm.trans hx107_0)
    injection hv107_0 with hva_ hvn_ hvc_
    rw [hva_] at ge107_0
    rw [hvc_] at ul107_0
    have HL107_0 := Aside0.mk (show Kd.V k36 36 _ w.heap.size _ _ ((rd_T38 l3 x11_2).f0) from Kd.V_mk ul107_0 ge107_0)
    clear hva_ hvn_ hvc_ ge107_0 ul107_0
    have hv107_3 := hcc107 3 _ rfl
    rw [add_field _ _ 3 (by omega)] at hv107_3
    replace hv107_3 := Option.some.inj (hv107_3.symm.trans hx107_3)
    injection hv107_3 with hva_ hvn_ hvc_
    rw [hva_] at ge107_3
    rw [hvc_] at ul107_3
    have HL107_3 := Aside0.mk (show Kd.V k41 41 _ w.heap.size _ _ ((rd_T38 l3 x11_2).f2) from Kd.V_mk ul107_3 ge107_3)
    clear hva_ hvn_ hvc_ ge107_3 ul107_3; clear hcc107 hce107
    have HR107_0 := Aside0.mk hi107_0
    have HC107_0 := Aside0.mk hl107_0
    clear hi107_0 hl107_0
    have HR107_3 := Aside0.mk hi107_3
    have HC107_3 := Aside0.mk hl107_3
    clear hi107_3 hl107_3
    replace p107 := eq_true p107
    replace q107 := eq_true q107
    have ea_ := Option.some.inj (hx106_0.symm.trans hx107_0)
    injection ea_ with ea_ en_ ec_
    subst ea_
    subst ec_
    clear en_
    have ea_ := Option.some.inj (hx106_3.symm.trans hx107_3)
    injection ea_ with ea_ en_ ec_
    subst ea_
    subst ec_
    clear en_
    have p108 : 0 ≤ (x11_2 : Int) := of_decide_eq_true (by first | (with_reducible assumption) | assumption)
    have q108 : x11_2 < (l3.length : Int) := of_decide_eq_true (by first | (with_reducible assumption) | assumption)
    obtain ⟨ad108, A108_0, c108_0, A108_3, c108_3, e108, hx108_0, hx108_1, hx108_2, hx108_3, hl108_0, hi108_0, hl108_3, hi108_3⟩ := at_T38 (Kd.V_reads' HO_8.out).2.2 x11_2 p108 q108
    obtain rfl : ad105 = ad108 := (by injection e108)
    obtain ⟨ce108, hce108, hMe108, hcc108⟩ := Kd.V_get HO_8.out z38 x11_2 p108 (by first | exact q108 | exact of_decide_eq_true (by first | (with_reducible assumption) | assumption) | (have e_ := (Kd.V_reads' HO_8.out).1; omega))
    obtain ⟨ua108_0, uc108_0, ua108_3, uc108_3, rfl, ul108_0, ge108_0, ul108_3, ge108_3⟩ := k38_openF hMe108
    have hv108_0 := hcc108 0 _ rfl
    rw [Nat.add_zero] at hv108_0
    replace hv108_0 := Option.some.inj (hv108_0.symm.trans hx108_0)
    injection hv108_0 with hva_ hvn_ hvc_
    rw [hva_] at ge108_0
    rw [hvc_] at ul108_0
    have HL108_0 := Aside0.mk (show Kd.V k36 36 _ w.heap.size _ _ ((rd_T38 l3 x11_2).f0) from Kd.V_mk ul108_0 ge108_0)
    clear hva_ hvn_ hvc_ ge108_0 ul108_0
    have hv108_3 := hcc108 3 _ rfl
    rw [add_field _ _ 3 (by omega)] at hv108_3
    replace hv108_3 := Option.some.inj (hv108_3.symm.trans hx108_3)
    injection hv108_3 with hva_ hvn_ hvc_
    rw [hva_] at ge108_3
    rw [hvc_] at ul108_3
    have HL108_3 := Aside0.mk (show Kd.V k41 41 _ w.heap.size _ _ ((rd_T38 l3 x11_2).f2) from Kd.V_mk ul108_3 ge108_3)
    clear hva_ hvn_ hvc_ ge108_3 ul108_3; clear hcc108 hce108
    have HR108_0 := Aside0.mk hi108_0
    have HC108_0 := Aside0.mk hl108_0
    clear hi108_0 hl108_0
    have HR108_3 := Aside0.mk hi108_3
    have HC108_3 := Aside0.mk hl108_3
    clear hi108_3 hl108_3
    replace p108 := eq_true p108
    replace q108 := eq_true q108
    have ea_ := Option.some.inj (hx106_0.symm.trans hx108_0)
    injection ea_ with ea_ en_ ec_
    subst ea_
    subst ec_
    clear en_
    have ea_ := Option.some.inj (hx106_3.symm.trans hx108_3)
    injection ea_ with ea_ en_ ec_
    subst ea_
    subst ec_
    clear en_
    have p112 : 0 ≤ (x11_2 : Int) := of_decide_eq_true (by first | (with_reducible assumption) | assumption)
    have q112 : x11_2 < (l3.length : Int) := of_decide_eq_true (by first | (with_reducible assumption) | assumption)
    obtain ⟨ad112, A112_0, c112_0, A112_3, c112_3, e112, hx112_0, hx112_1, hx112_2, hx112_3, hl112_0, hi112_0, hl112_3, hi112_3⟩ := at_T38 (Kd.V_reads' HO_8.out).2.2 x11_2 p112 q112
    obtain rfl : ad105 = ad112 := (by injection e112)
    obtain ⟨ce112, hce112, hMe112, hcc112⟩ := Kd.V_get HO_8.out z38 x11_2 p112 (by first | exact q112 | exact of_decide_eq_true (by first | (with_reducible assumption) | assumption) | (have e_ := (Kd.V_reads' HO_8.out).1; omega))
    obtain ⟨ua112_0, uc112_0, ua112_3, uc112_3, rfl, ul112_0, ge112_0, ul112_3, ge112_3⟩ := k38_openF hMe112
    have hv112_0 := hcc112 0 _ rfl
    rw [Nat.add_zero] at hv112_0
    replace hv112_0 := Option.some.inj (hv112_0.symm.trans hx112_0)
    injection hv112_0 with hva_ hvn_ hvc_
    rw [hva_] at ge112_0
    rw [hvc_] at ul112_0
    have HL112_0 := Aside0.mk (show Kd.V k36 36 _ w.heap.size _ _ ((rd_T38 l3 x11_2).f0) from Kd.V_mk ul112_0 ge112_0)
    clear hva_ hvn_ hvc_ ge112_0 ul112_0
    have hv112_3 := hcc112 3 _ rfl
    rw [add_field _ _ 3 (by omega)] at hv112_3
    replace hv112_3 := Option.some.inj (hv112_3.symm.trans hx112_3)
    injection hv112_3 with hva_ hvn_ hvc_
    rw [hva_] at ge112_3
    rw [hvc_] at ul112_3
    have HL112_3 := Aside0.mk (show Kd.V k41 41 _ w.heap.size _ _ ((rd_T38 l3 x11_2).f2) from Kd.V_mk ul112_3 ge112_3)
    clear hva_ hvn_ hvc_ ge112_3 ul112_3; clear hcc112 hce112
    have HR112_0 := Aside0.mk hi112_0
    have HC112_0 := Aside0.mk hl112_0
    clear hi112_0 hl112_0
    have HR112_3 := Aside0.mk hi112_3
    have HC112_3 := Aside0.mk hl112_3
    clear hi112_3 hl112_3
    replace p112 := eq_true p112
    replace q112 := eq_true q112
    have p113 : 0 ≤ (0 : Int) := (by omega)
    have q113 : 0 < (l0.length : Int) := of_decide_eq_true (by first | (with_reducible assumption) | assumption)
    obtain ⟨ad113, e113, hx113_0, hx113_1⟩ := at_T41 HR0.out 0 p113 q113
    have hw113_1 := hx113_1
    (try rw [show ((0 : Int)).toNat = 0 from rfl] at hw113_1)
    (try rw [show 0 * 2 = 0 from rfl] at hw113_1)
    (try rw [Addr.add_zero'] at hw113_1)
    have hw113_0 := hx113_0
    (try rw [show ((0 : Int)).toNat = 0 from rfl] at hw113_0)
    (try rw [show 0 * 2 = 0 from rfl] at hw113_0)
    (try rw [Addr.add_zero'] at hw113_0)
    cases e113
    have qi113 : (0 < l0.length) = True := eq_true (by omega)
    (try rw [show ((0 : Int)).toNat = 0 from rfl] at hx113_0)
    (try rw [show 0 * 2 = 0 from rfl] at hx113_0)
    (try rw [Addr.add_zero'] at hx113_0)
    (try rw [show ((0 : Int)).toNat = 0 from rfl] at hx113_1)
    (try rw [show 0 * 2 = 0 from rfl] at hx113_1)
    (try rw [Addr.add_zero'] at hx113_1)
    replace hx113_0 := (HB.out.cell (World.block_lt_of_cell? w _ hx113_0)).trans hx113_0
    replace hx113_1 := (HB.out.cell (World.block_lt_of_cell? w _ hx113_1)).trans hx113_1
    replace p113 := eq_true p113
    replace q113 := eq_true q113
    have p114 : 0 ≤ (x11_2 : Int) := of_decide_eq_true (by first | (with_reducible assumption) | assumption)
    have q114 : x11_2 < (l3.length : Int) := of_decide_eq_true (by first | (with_reducible assumption) | assumption)
    obtain ⟨ad114, A114_0, c114_0, A114_3, c114_3, e114, hx114_0, hx114_1, hx114_2, hx114_3, hl114_0, hi114_0, hl114_3, hi114_3⟩ := at_T38 (Kd.V_reads' HO_8.out).2.2 x11_2 p114 q114
    obtain rfl : ad105 = ad114 := (by injection e114)
    obtain ⟨ce114, hce114, hMe114, hcc114⟩ := Kd.V_get HO_8.out z38 x11_2 p114 (by first | exact q114 | exact of_decide_eq_true (by first | (with_reducible assumption) | assumption) | (have e_ := (Kd.V_reads' HO_8.out).1; omega))
    obtain ⟨ua114_0, uc114_0, ua114_3, uc114_3, rfl, ul114_0, ge114_0, ul114_3, ge114_3⟩ := k38_openF hMe114
    have hv114_0 := hcc114 0 _ rfl
    rw [Nat.add_zero] at hv114_0
    replace hv114_0 := Option.some.inj (hv114_0.symm.trans hx114_0)
    injection hv114_0 with hva_ hvn_ hvc_
    rw [hva_] at ge114_0
    rw [hvc_] at ul114_0
    have HL114_0 := Aside0.mk (show Kd.V k36 36 _ w.heap.size _ _ ((rd_T38 l3 x11_2).f0) from Kd.V_mk ul114_0 ge114_0)
    clear hva_ hvn_ hvc_ ge114_0 ul114_0
    have hv114_3 := hcc114 3 _ rfl
    rw [add_field _ _ 3 (by omega)] at hv114_3
    replace hv114_3 := Option.some.inj (hv114_3.symm.trans hx114_3)
    injection hv114_3 with hva_ hvn_ hvc_
    rw [hva_] at ge114_3
    rw [hvc_] at ul114_3
    have HL114_3 := Aside0.mk (show Kd.V k41 41 _ w.heap.size _ _ ((rd_T38 l3 x11_2).f2) from Kd.V_mk ul114_3 ge114_3)
    clear hva_ hvn_ hvc_ ge114_3 ul114_3; clear hcc114 hce114
    have HR114_0 := Aside0.mk hi114_0
    have HC114_0 := Aside0.mk hl114_0
    clear hi114_0 hl114_0
    have HR114_3 := Aside0.mk hi114_3
    have HC114_3 := Aside0.mk hl114_3
    clear hi114_3 hl114_3
    replace p114 := eq_true p114
    replace q114 := eq_true q114
    have ea_ := Option.some.inj (hx112_0.symm.trans hx114_0)
    injection ea_ with ea_ en_ ec_
    subst ea_
    subst ec_
    clear en_
    have ea_ := Option.some.inj (hx112_3.symm.trans hx114_3)
    injection ea_ with ea_ en_ ec_
    subst ea_
    subst ec_
    clear en_
    refine start_ (n := 48) (S := fun w' => w'.cell? (ad105.add ((x11_2).toNat * 4)) = some (.slice A106_0 ((rd_T38 l3 x11_2).f0).length c106_0) ∧ w'.cell? ⟨(ad105.add ((x11_2).toNat * 4)).block, (ad105.add ((x11_2).toNat * 4)).off + 1, none⟩ = some (.int .i64 ((rd_T38 l3 x11_2).f1.f0)) ∧ w'.cell? ⟨(ad105.add ((x11_2).toNat * 4)).block, (ad105.add ((x11_2).toNat * 4)).off + 2, none⟩ = some (.int .i64 ((rd_T38 l3 x11_2).f1.f1)) ∧ w'.cell? ⟨(ad105.add ((x11_2).toNat * 4)).block, (ad105.add ((x11_2).toNat * 4)).off + 3, none⟩ = some (.slice A106_3 ((rd_T38 l3 x11_2).f2).length c106_3) ∧ w'.cell? (ad105.add ((x11_2).toNat * 4)) = some (.slice A106_0 ((rd_T38 l3 x11_2).f0).length c106_0) ∧ w'.cell? ⟨(ad105.add ((x11_2).toNat * 4)).block, (ad105.add ((x11_2).toNat * 4)).off + 1, none⟩ = some (.int .i64 ((rd_T38 l3 x11_2).f1.f0)) ∧ w'.cell? ⟨(ad105.add ((x11_2).toNat * 4)).block, (ad105.add ((x11_2).toNat * 4)).off + 2, none⟩ = some (.int .i64 ((rd_T38 l3 x11_2).f1.f1)) ∧ w'.cell? ⟨(ad105.add ((x11_2).toNat * 4)).block, (ad105.add ((x11_2).toNat * 4)).off + 3, none⟩ = some (.slice A106_3 ((rd_T38 l3 x11_2).f2).length c106_3) ∧ w'.cell? (ad105.add ((x11_2).toNat * 4)) = some (.slice A106_0 ((rd_T38 l3 x11_2).f0).length c106_0) ∧ w'.cell? ⟨(ad105.add ((x11_2).toNat * 4)).block, (ad105.add ((x11_2).toNat * 4)).off + 1, none⟩ = some (.int .i64 ((rd_T38 l3 x11_2).f1.f0)) ∧ w'.cell? ⟨(ad105.add ((x11_2).toNat * 4)).block, (ad105.add ((x11_2).toNat * 4)).off + 2, none⟩ = some (.int .i64 ((rd_T38 l3 x11_2).f1.f1)) ∧ w'.cell? ⟨(ad105.add ((x11_2).toNat * 4)).block, (ad105.add ((x11_2).toNat * 4)).off + 3, none⟩ = some (.slice A106_3 ((rd_T38 l3 x11_2).f2).length c106_3) ∧ w'.cell? (ad105.add ((x11_2).toNat * 4)) = some (.slice A112_0 ((rd_T38 l3 x11_2).f0).length c112_0) ∧ w'.cell? ⟨(ad105.add ((x11_2).toNat * 4)).block, (ad105.add ((x11_2).toNat * 4)).off + 1, none⟩ = some (.int .i64 ((rd_T38 l3 x11_2).f1.f0)) ∧ w'.cell? ⟨(ad105.add ((x11_2).toNat * 4)).block, (ad105.add ((x11_2).toNat * 4)).off + 2, none⟩ = some (.int .i64 ((rd_T38 l3 x11_2).f1.f1)) ∧ w'.cell? ⟨(ad105.add ((x11_2).toNat * 4)).block, (ad105.add ((x11_2).toNat * 4)).off + 3, none⟩ = some (.slice A112_3 ((rd_T38 l3 x11_2).f2).length c112_3) ∧ w'.cell? ad113 = some (.string ((rd_T41 l0 0).f0)) ∧ w'.cell? ⟨ad113.block, ad113.off + 1, none⟩ = some (.string ((rd_T41 l0 0).f1)) ∧ w'.cell? (ad105.add ((x11_2).toNat * 4)) = some (.slice A112_0 ((rd_T38 l3 x11_2).f0).length c112_0) ∧ w'.cell? ⟨(ad105.add ((x11_2).toNat * 4)).block, (ad105.add ((x11_2).toNat * 4)).off + 1, none⟩ = some (.int .i64 ((rd_T38 l3 x11_2).f1.f0)) ∧ w'.cell? ⟨(ad105.add ((x11_2).toNat * 4)).block, (ad105.add ((x11_2).toNat * 4)).off + 2, none⟩ = some (.int .i64 ((rd_T38 l3 x11_2).f1.f1)) ∧ w'.cell? ⟨(ad105.add ((x11_2).toNat * 4)).block, (ad105.add ((x11_2).toNat * 4)).off + 3, none⟩ = some (.slice A112_3 ((rd_T38 l3 x11_2).f2).length c112_3)) (ds := []) #[F,F,F,F,F,F,F,F,F,F,F,F,F,F,F,F,F,F,F,F,F,F,F,F,F,F,F,F,F,F,F,F,F,F,F,F,F,F,F,F,F,F,F,F,F,F,F,F] (by kernel_rfl) rfl rfl ⟨hx106_0, hx106_1, hx106_2, hx106_3, hx107_0, hx107_1, hx107_2, hx107_3, hx108_0, hx108_1, hx108_2, hx108_3, hx112_0, hx112_1, hx112_2, hx112_3, ((HB.out.cell (World.block_lt_of_cell? w _ hw113_0)).trans hw113_0), ((HB.out.cell (World.block_lt_of_cell? w _ hw113_1)).trans hw113_1), hx114_0, hx114_1, hx114_2, hx114_3⟩ (fun hHeld => ?_); refine with_tabW sennitlaw21_HunkSpans.tab10 sennitlaw21_HunkSpans.bits10 (fun HT_ HW_ => ?_)
    generalize w18.drew = w25 at HO_8 HO_105000 HO_105003 HL105_0 HL105_3 BK104 HR105_0 HR105_3 HB HL106_0 HL106_3 HL107_0 HL107_3 HL108_0 HL108_3 HL112_0 HL112_3 HL114_0 HL114_3 HR106_0 HR106_3 HR107_0 HR107_3 HR108_0 HR108_3 HR112_0 HR112_3 HR114_0 HR114_3 hx106_0 hx106_1 hx106_2 hx106_3 hx107_0 hx107_1 hx107_2 hx107_3 hx108_0 hx108_1 hx108_2 hx108_3 hx112_0 hx112_1 hx112_2 hx112_3 hx113_0 hx113_1 hx114_0 hx114_1 hx114_2 hx114_3 hHeld ⊢
    refine pure_ (i := 0) (N := some 51) (v := ?_) (a' := ?_) #[T,F,F,F,F,F,F,F,F,F,F,F,F,F,F,F,F,F,F,F,F,F,F,F,F,F,F,F,F,F,F,F,F,F,F,F,F,F,F,F,F,F,F,F,F,F,F,F] rfl rfl (any_of HT_.out (by kernel_rfl)) (fun _ _ _ h => h) (Or.inl ⟨by rfl, ?_⟩) ?_ ?_; rotate_left; (intro w'; go_simp; with_reducible rfl); rotate_left; (simp only [Act.put, List.setIfInBounds_toArray, List.set_cons_zero, List.set_cons_succ, i64_w, i32_w]; rfl)
    refine pure_ (i := 1) (N := some 52) (v := ?_) (a' := ?_) #[T,T,F,F,F,F,F,F,F,F,F,F,F,F,F,F,F,F,F,F,F,F,F,F,F,F,F,F,F,F,F,F,F,F,F,F,F,F,F,F,F,F,F,F,F,F,F,F] rfl rfl (any_of HT_.out (by kernel_rfl)) (fun _ _ _ h => h) (Or.inl ⟨by rfl, ?_⟩) ?_ ?_; rotate_left; (intro w'; go_simp; with_reducible rfl); rotate_left; (simp only [Act.put, List.setIfInBounds_toArray, List.set_cons_zero, List.set_cons_succ, i64_w, i32_w]; rfl)
    refine pure_ (i := 2) (N := some 53) (v := ?_) (a' := ?_) #[T,T,T,F,F,F,F,F,F,F,F,F,F,F,F,F,F,F,F,F,F,F,F,F,F,F,F,F,F,F,F,F,F,F,F,F,F,F,F,F,F,F,F,F,F,F,F,F] rfl rfl (any_of HT_.out (by kernel_rfl)) (fun _ _ _ h => h) (Or.inl ⟨by rfl, ?_⟩) ?_ ?_; rotate_left; (intro w'; go_simp; with_reducible rfl); rotate_left; (simp only [Act.put, List.setIfInBounds_toArray, List.set_cons_zero, List.set_cons_succ, i64_w, i32_w]; rfl)
    refine pure_ (i := 3) (N := some 54) (v := ?_) (a' := ?_) #[T,T,T,T,F,F,F,F,F,F,F,F,F,F,F,F,F,F,F,F,F,F,F,F,F,F,F,F,F,F,F,F,F,F,F,F,F,F,F,F,F,F,F,F,F,F,F,F] rfl rfl (any_of HT_.out (by kernel_rfl)) (fun _ _ _ h => h) (Or.inl ⟨by rfl, ?_⟩) ?_ ?_; rotate_left; (intro w'; go_simp; with_reducible rfl); rotate_left; (simp only [Act.put, List.setIfInBounds_toArray, List.set_cons_zero, List.set_cons_succ, i64_w, i32_w]; rfl)
    refine pure_ (i := 4) (N := some 55) (v := ?_) (a' := ?_) #[T,T,T,T,T,F,F,F,F,F,F,F,F,F,F,F,F,F,F,F,F,F,F,F,F,F,F,F,F,F,F,F,F,F,F,F,F,F,F,F,F,F,F,F,F,F,F,F] rfl rfl (any_of HT_.out (by kernel_rfl)) (fun _ _ _ h => h) (Or.inl ⟨by rfl, ?_⟩) ?_ ?_; rotate_left; (intro w'; go_simp; with_reducible rfl); rotate_left; (simp only [Act.put, List.setIfInBounds_toArray, List.set_cons_zero, List.set_cons_succ, i64_w, i32_w]; rfl)
    refine pure_ (i := 5) (N := some 56) (v := ?_) (a' := ?_) #[T,T,T,T,T,T,F,F,F,F,F,F,F,F,F,F,F,F,F,F,F,F,F,F,F,F,F,F,F,F,F,F,F,F,F,F,F,F,F,F,F,F,F,F,F,F,F,F] rfl rfl (any_of HT_.out (by kernel_rfl)) (fun _ _ _ h => h) (Or.inl ⟨by rfl, ?_⟩) ?_ ?_; rotate_left; (intro w'; go_simp; with_reducible rfl); rotate_left; (simp only [Act.put, List.setIfInBounds_toArray, List.set_cons_zero, List.set_cons_succ, i64_w, i32_w]; rfl)
    refine pure_ (i := 6) (N := some 57) (v := ?_) (a' := ?_) #[T,T,T,T,T,T,T,F,F,F,F,F,F,F,F,F,F,F,F,F,F,F,F,F,F,F,F,F,F,F,F,F,F,F,F,F,F,F,F,F,F,F,F,F,F,F,F,F] rfl rfl (any_of HT_.out (by kernel_rfl)) (fun _ _ _ h => h) (Or.inl ⟨by rfl, ?_⟩) ?_ ?_; rotate_left; (intro w'; go_simp; with_reducible rfl); rotate_left; (simp only [Act.put, List.setIfInBounds_toArray, List.set_cons_zero, List.set_cons_succ, i64_w, i32_w]; rfl)
    refine pure_ (i := 7) (N := some 58) (v := ?_) (a' := ?_) #[T,T,T,T,T,T,T,T,F,F,F,F,F,F,F,F,F,F,F,F,F,F,F,F,F,F,F,F,F,F,F,F,F,F,F,F,F,F,F,F,F,F,F,F,F,F,F,F] rfl rfl (any_of HT_.out (by kernel_rfl)) (fun _ _ _ h => h) (Or.inl ⟨by rfl, ?_⟩) ?_ ?_; rotate_left; (intro w'; go_simp; with_reducible rfl); rotate_left; (simp only [Act.put, List.setIfInBounds_toArray, List.set_cons_zero, List.set_cons_succ, i64_w, i32_w]; rfl)
    refine pure_ (i := 9) (N := some 60) (v := ?_) (a' := ?_) #[T,T,T,T,T,T,T,T,F,T,F,F,F,F,F,F,F,F,F,F,F,F,F,F,F,F,F,F,F,F,F,F,F,F,F,F,F,F,F,F,F,F,F,F,F,F,F,F] rfl rfl (any_of HT_.out (by kernel_rfl)) (fun _ _ _ h => h) (Or.inl ⟨by rfl, ?_⟩) ?_ ?_; rotate_left; (intro w'; go_simp; with_reducible rfl); rotate_left; (simp only [Act.put, List.setIfInBounds_toArray, List.set_cons_zero, List.set_cons_succ, i64_w, i32_w]; rfl)
    refine pure_ (i := 10) (N := some 61) (v := ?_) (a' := ?_) #[T,T,T,T,T,T,T,T,F,T,T,F,F,F,F,F,F,F,F,F,F,F,F,F,F,F,F,F,F,F,F,F,F,F,F,F,F,F,F,F,F,F,F,F,F,F,F,F] rfl rfl (any_of HT_.out (by kernel_rfl)) (fun _ _ _ h => h) (Or.inl ⟨by rfl, ?_⟩) ?_ ?_; rotate_left; (intro w'; go_simp; with_reducible rfl); rotate_left; (simp only [Act.put, List.setIfInBounds_toArray, List.set_cons_zero, List.set_cons_succ, i64_w, i32_w]; rfl)
    refine pure_ (i := 11) (N := some 62) (v := ?_) (a' := ?_) #[T,T,T,T,T,T,T,T,F,T,T,T,F,F,F,F,F,F,F,F,F,F,F,F,F,F,F,F,F,F,F,F,F,F,F,F,F,F,F,F,F,F,F,F,F,F,F,F] rfl rfl (any_of HT_.out (by kernel_rfl)) (fun _ _ _ h => h) (Or.inl ⟨by rfl, ?_⟩) ?_ ?_; rotate_left; (intro w'; go_simp; with_reducible rfl); rotate_left; (simp only [Act.put, List.setIfInBounds_toArray, List.set_cons_zero, List.set_cons_succ, i64_w, i32_w]; rfl)
    refine pure_ (i := 12) (N := some 63) (v := ?_) (a' := ?_) #[T,T,T,T,T,T,T,T,F,T,T,T,T,F,F,F,F,F,F,F,F,F,F,F,F,F,F,F,F,F,F,F,F,F,F,F,F,F,F,F,F,F,F,F,F,F,F,F] rfl rfl (any_of HT_.out (by kernel_rfl)) (fun _ _ _ h => h) (Or.inl ⟨by rfl, ?_⟩) ?_ ?_; rotate_left; (intro w'; go_simp; with_reducible rfl); rotate_left; (simp only [Act.put, List.setIfInBounds_toArray, List.set_cons_zero, List.set_cons_succ, i64_w, i32_w]; rfl)
    refine pure_ (i := 13) (N := some 64) (v := ?_) (a' := ?_) #[T,T,T,T,T,T,T,T,F,T,T,T,T,T,F,F,F,F,F,F,F,F,F,F,F,F,F,F,F,F,F,F,F,F,F,F,F,F,F,F,F,F,F,F,F,F,F,F] rfl rfl (any_of HT_.out (by kernel_rfl)) (fun _ _ _ h => h) (Or.inl ⟨by rfl, ?_⟩) ?_ ?_; rotate_left; (intro w'; go_simp; with_reducible rfl); rotate_left; (simp only [Act.put, List.setIfInBounds_toArray, List.set_cons_zero, List.set_cons_succ, i64_w, i32_w]; rfl)
    refine pure_ (i := 16) (N := some 67) (v := ?_) (a' := ?_) #[T,T,T,T,T,T,T,T,F,T,T,T,T,T,F,F,T,F,F,F,F,F,F,F,F,F,F,F,F,F,F,F,F,F,F,F,F,F,F,F,F,F,F,F,F,F,F,F] rfl rfl (any_of HT_.out (by kernel_rfl)) (fun _ _ _ h => h) (Or.inl ⟨by rfl, ?_⟩) ?_ ?_; rotate_left; (intro w'; go_simp; with_reducible rfl); rotate_left; (simp only [Act.put, List.setIfInBounds_toArray, List.set_cons_zero, List.set_cons_succ, i64_w, i32_w]; rfl)
    refine pure_ (i := 17) (N := some 68) (v := ?_) (a' := ?_) #[T,T,T,T,T,T,T,T,F,T,T,T,T,T,F,F,T,T,F,F,F,F,F,F,F,F,F,F,F,F,F,F,F,F,F,F,F,F,F,F,F,F,F,F,F,F,F,F] rfl rfl (any_of HT_.out (by kernel_rfl)) (fun _ _ _ h => h) (Or.inl ⟨by rfl, ?_⟩) ?_ ?_; rotate_left; (intro w'; go_simp; with_reducible rfl); rotate_left; (simp only [Act.put, List.setIfInBounds_toArray, List.set_cons_zero, List.set_cons_succ, i64_w, i32_w]; rfl)
    refine pure_ (i := 18) (N := some 69) (v := ?_) (a' := ?_) #[T,T,T,T,T,T,T,T,F,T,T,T,T,T,F,F,T,T,T,F,F,F,F,F,F,F,F,F,F,F,F,F,F,F,F,F,F,F,F,F,F,F,F,F,F,F,F,F] rfl rfl (any_of HT_.out (by kernel_rfl)) (fun _ _ _ h => h) (Or.inl ⟨by rfl, ?_⟩) ?_ ?_; rotate_left; (intro w'; go_simp; with_reducible rfl); rotate_left; (simp only [Act.put, List.setIfInBounds_toArray, List.set_cons_zero, List.set_cons_succ, i64_w, i32_w]; rfl)
    refine pure_ (i := 19) (N := some 70) (v := ?_) (a' := ?_) #[T,T,T,T,T,T,T,T,F,T,T,T,T,T,F,F,T,T,T,T,F,F,F,F,F,F,F,F,F,F,F,F,F,F,F,F,F,F,F,F,F,F,F,F,F,F,F,F] rfl rfl (any_of HT_.out (by kernel_rfl)) (fun _ _ _ h => h) (Or.inl ⟨by rfl, ?_⟩) ?_ ?_; rotate_left; (intro w'; go_simp; with_reducible rfl); rotate_left; (simp only [Act.put, List.setIfInBounds_toArray, List.set_cons_zero, List.set_cons_succ, i64_w, i32_w]; rfl)
    refine take_ (i := 8) (N := some 59) (v := ?_) (a' := ?_) #[T,T,T,T,T,T,T,T,T,T,T,T,T,T,F,F,T,T,T,T,F,F,F,F,F,F,F,F,F,F,F,F,F,F,F,F,F,F,F,F,F,F,F,F,F,F,F,F] rfl rfl (take_ofW HT_.out HW_.out (by kernel_rfl)) (fun _ _ _ h => h) (Or.inl ⟨by rfl, ?_⟩) hHeld ?_ ?_; rotate_left; (rintro w' ⟨s0, s1, s2, s3, s4, s5, s6, s7, s8, s9, s10, s11, s12, s13, s14, s15, s16, s17, s18, s19, s20, s21⟩; go_simp; with_reducible rfl); rotate_left; (simp only [Act.put, List.setIfInBounds_toArray, List.set_cons_zero, List.set_cons_succ, i64_w, i32_w]; rfl)
    refine take_ (i := 14) (N := some 65) (v := ?_) (a' := ?_) #[T,T,T,T,T,T,T,T,T,T,T,T,T,T,T,F,T,T,T,T,F,F,F,F,F,F,F,F,F,F,F,F,F,F,F,F,F,F,F,F,F,F,F,F,F,F,F,F] rfl rfl (take_ofW HT_.out HW_.out (by kernel_rfl)) (fun _ _ _ h => h) (Or.inl ⟨by rfl, ?_⟩) hHeld ?_ ?_; rotate_left; (rintro w' ⟨s0, s1, s2, s3, s4, s5, s6, s7, s8, s9, s10, s11, s12, s13, s14, s15, s16, s17, s18, s19, s20, s21⟩; go_simp; with_reducible rfl); rotate_left; (simp only [Act.put, List.setIfInBounds_toArray, List.set_cons_zero, List.set_cons_succ, i64_w, i32_w]; rfl)
    refine pure_ (i := 15) (N := some 66) (v := ?_) (a' := ?_) #[T,T,T,T,T,T,T,T,T,T,T,T,T,T,T,T,T,T,T,T,F,F,F,F,F,F,F,F,F,F,F,F,F,F,F,F,F,F,F,F,F,F,F,F,F,F,F,F] rfl rfl (any_of HT_.out (by kernel_rfl)) (fun _ _ _ h => h) (Or.inl ⟨by rfl, ?_⟩) ?_ ?_; rotate_left; (intro w'; go_simp; with_reducible rfl); rotate_left; (simp only [Act.put, List.setIfInBounds_toArray, List.set_cons_zero, List.set_cons_succ, i64_w, i32_w]; rfl)
    refine take_ (i := 20) (N := some 71) (v := ?_) (a' := ?_) #[T,T,T,T,T,T,T,T,T,T,T,T,T,T,T,T,T,T,T,T,T,F,F,F,F,F,F,F,F,F,F,F,F,F,F,F,F,F,F,F,F,F,F,F,F,F,F,F] rfl rfl (take_ofW HT_.out HW_.out (by kernel_rfl)) (fun _ _ _ h => h) (Or.inl ⟨by rfl, ?_⟩) hHeld ?_ ?_; rotate_left; (rintro w' ⟨s0, s1, s2, s3, s4, s5, s6, s7, s8, s9, s10, s11, s12, s13, s14, s15, s16, s17, s18, s19, s20, s21⟩; go_simp; with_reducible rfl); rotate_left; (simp only [Act.put, List.setIfInBounds_toArray, List.set_cons_zero, List.set_cons_succ, i64_w, i32_w]; rfl)
    refine one_ (i := 21) (N := some 72) #[T,T,T,T,T,T,T,T,T,T,T,T,T,T,T,T,T,T,T,T,T,T,F,F,F,F,F,F,F,F,F,F,F,F,F,F,F,F,F,F,F,F,F,F,F,F,F,F] rfl rfl (one_of HT_.out (by kernel_rfl)) (by decide) (fun K hK => ?_)
    refine goes_ Tryd.func22 (by kernel_rfl) rfl #[.slice A106_3 ((rd_T38 l3 x11_2).f2).length c106_3] (by rfl) rfl rfl (by (try simp only [List.map_toArray, List.map_cons, List.map_nil]); first | done | rfl | (simp only [List.length_drop, List.length_take]; rfl)) ?_
    with_reducible refine (table_Result.calls _ _ ((rd_T38 l3 x11_2).f2) t109 _ ?side1 ?side2 A21.out).mono ?_
    (case side1 => repeat (first | exact (by repeat (first | (with_reducible exact HR108_3.out) | (with_reducible refine Kd.C_alloc ?_ _) | (with_reducible refine Kd.C_drewN ?_ _) | (with_reducible refine Kd.C_drew ?_) | exact HR108_3.out)) | (with_reducible refine Kd.C_alloc ?_ _) | (with_reducible refine Kd.C_drewN ?_ _) | (with_reducible refine Kd.C_drew ?_)))
    (case side2 => exact HC108_3.out)
    rintro e w26 ⟨v110, rfl, ho0, hb⟩
    have HS0_ := (hb.cell (World.block_lt_of_cell? _ _ (hHeld.1))).trans (hHeld.1)
    have HS1_ := (hb.cell (World.block_lt_of_cell? _ _ (hHeld.2.1))).trans (hHeld.2.1)
    have HS2_ := (hb.cell (World.block_lt_of_cell? _ _ (hHeld.2.2.1))).trans (hHeld.2.2.1)
    have HS3_ := (hb.cell (World.block_lt_of_cell? _ _ (hHeld.2.2.2.1))).trans (hHeld.2.2.2.1)
    have HS4_ := (hb.cell (World.block_lt_of_cell? _ _ (hHeld.2.2.2.2.1))).trans (hHeld.2.2.2.2.1)
    have HS5_ := (hb.cell (World.block_lt_of_cell? _ _ (hHeld.2.2.2.2.2.1))).trans (hHeld.2.2.2.2.2.1)
    have HS6_ := (hb.cell (World.block_lt_of_cell? _ _ (hHeld.2.2.2.2.2.2.1))).trans (hHeld.2.2.2.2.2.2.1)
    have HS7_ := (hb.cell (World.block_lt_of_cell? _ _ (hHeld.2.2.2.2.2.2.2.1))).trans (hHeld.2.2.2.2.2.2.2.1)
    have HS8_ := (hb.cell (World.block_lt_of_cell? _ _ (hHeld.2.2.2.2.2.2.2.2.1))).trans (hHeld.2.2.2.2.2.2.2.2.1)
    have HS9_ := (hb.cell (World.block_lt_of_cell? _ _ (hHeld.2.2.2.2.2.2.2.2.2.1))).trans (hHeld.2.2.2.2.2.2.2.2.2.1)
    have HS10_ := (hb.cell (World.block_lt_of_cell? _ _ (hHeld.2.2.2.2.2.2.2.2.2.2.1))).trans (hHeld.2.2.2.2.2.2.2.2.2.2.1)
    have HS11_ := (hb.cell (World.block_lt_of_cell? _ _ (hHeld.2.2.2.2.2.2.2.2.2.2.2.1))).trans (hHeld.2.2.2.2.2.2.2.2.2.2.2.1)
    have HS12_ := (hb.cell (World.block_lt_of_cell? _ _ (hHeld.2.2.2.2.2.2.2.2.2.2.2.2.1))).trans (hHeld.2.2.2.2.2.2.2.2.2.2.2.2.1)
    have HS13_ := (hb.cell (World.block_lt_of_cell? _ _ (hHeld.2.2.2.2.2.2.2.2.2.2.2.2.2.1))).trans (hHeld.2.2.2.2.2.2.2.2.2.2.2.2.2.1)
    have HS14_ := (hb.cell (World.block_lt_of_cell? _ _ (hHeld.2.2.2.2.2.2.2.2.2.2.2.2.2.2.1))).trans (hHeld.2.2.2.2.2.2.2.2.2.2.2.2.2.2.1)
    have HS15_ := (hb.cell (World.block_lt_of_cell? _ _ (hHeld.2.2.2.2.2.2.2.2.2.2.2.2.2.2.2.1))).trans (hHeld.2.2.2.2.2.2.2.2.2.2.2.2.2.2.2.1)
    have HS18_ := (hb.cell (World.block_lt_of_cell? _ _ (hHeld.2.2.2.2.2.2.2.2.2.2.2.2.2.2.2.2.2.2.1))).trans (hHeld.2.2.2.2.2.2.2.2.2.2.2.2.2.2.2.2.2.2.1)
    have HS19_ := (hb.cell (World.block_lt_of_cell? _ _ (hHeld.2.2.2.2.2.2.2.2.2.2.2.2.2.2.2.2.2.2.2.1))).trans (hHeld.2.2.2.2.2.2.2.2.2.2.2.2.2.2.2.2.2.2.2.1)
    have HS20_ := (hb.cell (World.block_lt_of_cell? _ _ (hHeld.2.2.2.2.2.2.2.2.2.2.2.2.2.2.2.2.2.2.2.2.1))).trans (hHeld.2.2.2.2.2.2.2.2.2.2.2.2.2.2.2.2.2.2.2.2.1)
    have HS21_ := (hb.cell (World.block_lt_of_cell? _ _ (hHeld.2.2.2.2.2.2.2.2.2.2.2.2.2.2.2.2.2.2.2.2.2))).trans (hHeld.2.2.2.2.2.2.2.2.2.2.2.2.2.2.2.2.2.2.2.2.2)
    refine ⟨_, rfl, ?_⟩
    have n0_ := Aside0.mk (Kd.V_elder' (by (with_reducible repeat (first | apply Kd.V_alloc | apply Kd.V_drewN | apply Kd.V_drew)); exact HO_8.out) (Kd.R_base ho0) hb)
    have n1_ := Aside0.mk (Kd.V_elder' (by (with_reducible repeat (first | apply Kd.V_alloc | apply Kd.V_drewN | apply Kd.V_drew)); exact HO_105000.out) (Kd.R_base ho0) hb)
    have n2_ := Aside0.mk (Kd.V_elder' (by (with_reducible repeat (first | apply Kd.V_alloc | apply Kd.V_drewN | apply Kd.V_drew)); exact HO_105003.out) (Kd.R_base ho0) hb)
    have n3_ := Aside0.mk (Kd.V_elder' (by (with_reducible repeat (first | apply Kd.V_alloc | apply Kd.V_drewN | apply Kd.V_drew)); exact HL105_0.out) (Kd.R_base ho0) hb)
    have n4_ := Aside0.mk (Kd.V_elder' (by (with_reducible repeat (first | apply Kd.V_alloc | apply Kd.V_drewN | apply Kd.V_drew)); exact HL105_3.out) (Kd.R_base ho0) hb)
    have n5_ := Aside0.mk (Kd.V_elder' (by (with_reducible repeat (first | apply Kd.V_alloc | apply Kd.V_drewN | apply Kd.V_drew)); exact HL106_0.out) (Kd.R_base ho0) hb)
    have n6_ := Aside0.mk (Kd.V_elder' (by (with_reducible repeat (first | apply Kd.V_alloc | apply Kd.V_drewN | apply Kd.V_drew)); exact HL106_3.out) (Kd.R_base ho0) hb)
    have n7_ := Aside0.mk (Kd.V_elder' (by (with_reducible repeat (first | apply Kd.V_alloc | apply Kd.V_drewN | apply Kd.V_drew)); exact HL107_0.out) (Kd.R_base ho0) hb)
    have n8_ := Aside0.mk (Kd.V_elder' (by (with_reducible repeat (first | apply Kd.V_alloc | apply Kd.V_drewN | apply Kd.V_drew)); exact HL107_3.out) (Kd.R_base ho0) hb)
    have n9_ := Aside0.mk (Kd.V_elder' (by (with_reducible repeat (first | apply Kd.V_alloc | apply Kd.V_drewN | apply Kd.V_drew)); exact HL108_0.out) (Kd.R_base ho0) hb)
    have n10_ := Aside0.mk (Kd.V_elder' (by (with_reducible repeat (first | apply Kd.V_alloc | apply Kd.V_drewN | apply Kd.V_drew)); exact HL108_3.out) (Kd.R_base ho0) hb)
    have n11_ := Aside0.mk (Kd.R_lower (Kd.R_newM (M := fun k_ => (w.heap.size ≤ k_)) ho0 (below_size (by repeat (first | (with_reducible first | exact HB.out | apply below_alloc | apply pw_below_drewN | apply below_drew1 | refine below_set ?_ GE104.out) | exact HB.out))) (fun k_ h_ => h_)) (below_size (by repeat (first | (with_reducible first | exact HB.out | apply below_alloc | apply pw_below_drewN | apply below_drew1 | refine below_set ?_ GE104.out) | exact HB.out))))
    have n12_ := Aside0.mk (blk_below (g := gb104) (o := .cells #[u105000, .int .i64 x105001_2, .int .i64 x105002_2, u105003] 38 (0, 0)) (by (with_reducible repeat (first | refine blk_drewN ?_ _ | refine blk_drew ?_ | refine blk_alloc ?_ _)); exact BK104.out) hb)
    have n13_ := Aside0.mk (Kd.C_below (by repeat (first | (with_reducible exact HR105_0.out) | (with_reducible refine Kd.C_alloc ?_ _) | (with_reducible refine Kd.C_drewN ?_ _) | (with_reducible refine Kd.C_drew ?_) | exact HR105_0.out)) hb)
    have n14_ := Aside0.mk (Kd.C_below (by repeat (first | (with_reducible exact HR105_3.out) | (with_reducible refine Kd.C_alloc ?_ _) | (with_reducible refine Kd.C_drewN ?_ _) | (with_reducible refine Kd.C_drew ?_) | exact HR105_3.out)) hb)
    have n15_ := Aside0.mk (Kd.C_below (by repeat (first | (with_reducible exact HR106_0.out) | (with_reducible refine Kd.C_alloc ?_ _) | (with_reducible refine Kd.C_drewN ?_ _) | (with_reducible refine Kd.C_drew ?_) | exact HR106_0.out)) hb)
    have n16_ := Aside0.mk (Kd.C_below (by repeat (first | (with_reducible exact HR106_3.out) | (with_reducible refine Kd.C_alloc ?_ _) | (with_reducible refine Kd.C_drewN ?_ _) | (with_reducible refine Kd.C_drew ?_) | exact HR106_3.out)) hb)
    have n17_ := Aside0.mk (Kd.C_below (by repeat (first | (with_reducible exact HR107_0.out) | (with_reducible refine Kd.C_alloc ?_ _) | (with_reducible refine Kd.C_drewN ?_ _) | (with_reducible refine Kd.C_drew ?_) | exact HR107_0.out)) hb)
    have n18_ := Aside0.mk (Kd.C_below (by repeat (first | (with_reducible exact HR107_3.out) | (with_reducible refine Kd.C_alloc ?_ _) | (with_reducible refine Kd.C_drewN ?_ _) | (with_reducible refine Kd.C_drew ?_) | exact HR107_3.out)) hb)
    have n19_ := Aside0.mk (Kd.C_below (by repeat (first | (with_reducible exact HR108_0.out) | (with_reducible refine Kd.C_alloc ?_ _) | (with_reducible refine Kd.C_drewN ?_ _) | (with_reducible refine Kd.C_drew ?_) | exact HR108_0.out)) hb)
    have n20_ := Aside0.mk (Kd.C_below (by repeat (first | (with_reducible exact HR108_3.out) | (with_reducible refine Kd.C_alloc ?_ _) | (with_reducible refine Kd.C_drewN ?_ _) | (with_reducible refine Kd.C_drew ?_) | exact HR108_3.out)) hb)
    have n21_ := Aside0.mk (below_step (by repeat (first | (with_reducible first | exact HB.out | apply below_alloc | apply pw_below_drewN | apply below_drew1 | refine below_set ?_ GE104.out) | exact HB.out)) hb)
    clear HO_8; clear HO_105000; clear HO_105003; clear HL105_0; clear HL105_3; clear HL106_0; clear HL106_3; clear HL107_0; clear HL107_3; clear HL108_0; clear HL108_3; clear BK104; clear HR105_0; clear HR105_3; clear HR106_0; clear HR106_3; clear HR107_0; clear HR107_3; clear HR108_0; clear HR108_3; clear HB
    have HO_8 := n0_
    have HO_105000 := n1_
    have HO_105003 := n2_
    have HL105_0 := n3_
    have HL105_3 := n4_
    have HL106_0 := n5_
    have HL106_3 := n6_
    have HL107_0 := n7_
    have HL107_3 := n8_
    have HL108_0 := n9_
    have HL108_3 := n10_
    have HO111 := n11_
    have BK104 := n12_
    have HR105_0 := n13_
    have HR105_3 := n14_
    have HR106_0 := n15_
    have HR106_3 := n16_
    have HR107_0 := n17_
    have HR107_3 := n18_
    have HR108_0 := n19_
    have HR108_3 := n20_
    have HB := n21_
    clear n0_ n1_ n2_ n3_ n4_ n5_ n6_ n7_ n8_ n9_ n10_ n11_ n12_ n13_ n14_ n15_ n16_ n17_ n18_ n19_ n20_ n21_
    (try clear hb)
    (try clear hb2)
    (try clear hk)
    (try clear hi)
    (try clear ho0)
    obtain ⟨Ao27, co27, eo27⟩ := Kd.R_slice HO111.out
    (first | subst eo27 | (injection eo27 with f1_ f2_ f3_; have f4_ := f1_.symm; have f5_ := f3_.symm; clear f1_ f2_ f3_; subst f4_; subst f5_))
    refine hK.out _ _ ⟨HS0_, HS1_, HS2_, HS3_, HS4_, HS5_, HS6_, HS7_, HS8_, HS9_, HS10_, HS11_, HS12_, HS13_, HS14_, HS15_, ((HB.out.cell (World.block_lt_of_cell? w _ hw113_0)).trans hw113_0), ((HB.out.cell (World.block_lt_of_cell? w _ hw113_1)).trans hw113_1), HS18_, HS19_, HS20_, HS21_⟩ (fun hHeld => ?_)
    clear hK K
    refine norm_ (a' := ?_) ?_ ?_
    rotate_left
    ·show Act.put _ (some 72) _ = _
     simp only [Act.put, List.setIfInBounds_toArray, List.set_cons_zero, List.set_cons_succ, i64_w, i32_w]
     rfl
    refine pure_ (i := 22) (N := some 73) (v := ?_) (a' := ?_) #[T,T,T,T,T,T,T,T,T,T,T,T,T,T,T,T,T,T,T,T,T,T,T,F,F,F,F,F,F,F,F,F,F,F,F,F,F,F,F,F,F,F,F,F,F,F,F,F] rfl rfl (any_of HT_.out (by kernel_rfl)) (fun _ _ _ h => h) (Or.inl ⟨by rfl, ?_⟩) ?_ ?_; rotate_left; (intro w'; go_simp; with_reducible rfl); rotate_left; (simp only [Act.put, List.setIfInBounds_toArray, List.set_cons_zero, List.set_cons_succ, i64_w, i32_w]; rfl)
    refine pure_ (i := 23) (N := some 74) (v := ?_) (a' := ?_) #[T,T,T,T,T,T,T,T,T,T,T,T,T,T,T,T,T,T,T,T,T,T,T,T,F,F,F,F,F,F,F,F,F,F,F,F,F,F,F,F,F,F,F,F,F,F,F,F] rfl rfl (any_of HT_.out (by kernel_rfl)) (fun _ _ _ h => h) (Or.inl ⟨by rfl, ?_⟩) ?_ ?_; rotate_left; (intro w'; go_simp; with_reducible rfl); rotate_left; (simp only [Act.put, List.setIfInBounds_toArray, List.set_cons_zero, List.set_cons_succ, i64_w, i32_w]; rfl)
    refine pure_ (i := 24) (N := some 75) (v := ?_) (a' := ?_) #[T,T,T,T,T,T,T,T,T,T,T,T,T,T,T,T,T,T,T,T,T,T,T,T,T,F,F,F,F,F,F,F,F,F,F,F,F,F,F,F,F,F,F,F,F,F,F,F] rfl rfl (any_of HT_.out (by kernel_rfl)) (fun _ _ _ h => h) (Or.inl ⟨by rfl, ?_⟩) ?_ ?_; rotate_left; (intro w'; go_simp; with_reducible rfl); rotate_left; (simp only [Act.put, List.setIfInBounds_toArray, List.set_cons_zero, List.set_cons_succ, i64_w, i32_w]; rfl)
    refine pure_ (i := 25) (N := some 76) (v := ?_) (a' := ?_) #[T,T,T,T,T,T,T,T,T,T,T,T,T,T,T,T,T,T,T,T,T,T,T,T,T,T,F,F,F,F,F,F,F,F,F,F,F,F,F,F,F,F,F,F,F,F,F,F] rfl rfl (any_of HT_.out (by kernel_rfl)) (fun _ _ _ h => h) (Or.inl ⟨by rfl, ?_⟩) ?_ ?_; rotate_left; (intro w'; go_simp; with_reducible rfl); rotate_left; (simp only [Act.put, List.setIfInBounds_toArray, List.set_cons_zero, List.set_cons_succ, i64_w, i32_w]; rfl)
    refine pure_ (i := 26) (N := some 77) (v := ?_) (a' := ?_) #[T,T,T,T,T,T,T,T,T,T,T,T,T,T,T,T,T,T,T,T,T,T,T,T,T,T,T,F,F,F,F,F,F,F,F,F,F,F,F,F,F,F,F,F,F,F,F,F] rfl rfl (any_of HT_.out (by kernel_rfl)) (fun _ _ _ h => h) (Or.inl ⟨by rfl, ?_⟩) ?_ ?_; rotate_left; (intro w'; go_simp; with_reducible rfl); rotate_left; (simp only [Act.put, List.setIfInBounds_toArray, List.set_cons_zero, List.set_cons_succ, i64_w, i32_w]; rfl)
    refine pure_ (i := 27) (N := some 78) (v := ?_) (a' := ?_) #[T,T,T,T,T,T,T,T,T,T,T,T,T,T,T,T,T,T,T,T,T,T,T,T,T,T,T,T,F,F,F,F,F,F,F,F,F,F,F,F,F,F,F,F,F,F,F,F] rfl rfl (any_of HT_.out (by kernel_rfl)) (fun _ _ _ h => h) (Or.inl ⟨by rfl, ?_⟩) ?_ ?_; rotate_left; (intro w'; go_simp; with_reducible rfl); rotate_left; (simp only [Act.put, List.setIfInBounds_toArray, List.set_cons_zero, List.set_cons_succ, i64_w, i32_w]; rfl)
    refine pure_ (i := 28) (N := some 79) (v := ?_) (a' := ?_) #[T,T,T,T,T,T,T,T,T,T,T,T,T,T,T,T,T,T,T,T,T,T,T,T,T,T,T,T,T,F,F,F,F,F,F,F,F,F,F,F,F,F,F,F,F,F,F,F] rfl rfl (any_of HT_.out (by kernel_rfl)) (fun _ _ _ h => h) (Or.inl ⟨by rfl, ?_⟩) ?_ ?_; rotate_left; (intro w'; go_simp; with_reducible rfl); rotate_left; (simp only [Act.put, List.setIfInBounds_toArray, List.set_cons_zero, List.set_cons_succ, i64_w, i32_w]; rfl)
    refine pure_ (i := 29) (N := some 80) (v := ?_) (a' := ?_) #[T,T,T,T,T,T,T,T,T,T,T,T,T,T,T,T,T,T,T,T,T,T,T,T,T,T,T,T,T,T,F,F,F,F,F,F,F,F,F,F,F,F,F,F,F,F,F,F] rfl rfl (any_of HT_.out (by kernel_rfl)) (fun _ _ _ h => h) (Or.inl ⟨by rfl, ?_⟩) ?_ ?_; rotate_left; (intro w'; go_simp; with_reducible rfl); rotate_left; (simp only [Act.put, List.setIfInBounds_toArray, List.set_cons_zero, List.set_cons_succ, i64_w, i32_w]; rfl)
    refine pure_ (i := 32) (N := some 83) (v := ?_) (a' := ?_) #[T,T,T,T,T,T,T,T,T,T,T,T,T,T,T,T,T,T,T,T,T,T,T,T,T,T,T,T,T,T,F,F,T,F,F,F,F,F,F,F,F,F,F,F,F,F,F,F] rfl rfl (any_of HT_.out (by kernel_rfl)) (fun _ _ _ h => h) (Or.inl ⟨by rfl, ?_⟩) ?_ ?_; rotate_left; (intro w'; go_simp; with_reducible rfl); rotate_left; (simp only [Act.put, List.setIfInBounds_toArray, List.set_cons_zero, List.set_cons_succ, i64_w, i32_w]; rfl)
    refine pure_ (i := 33) (N := some 84) (v := ?_) (a' := ?_) #[T,T,T,T,T,T,T,T,T,T,T,T,T,T,T,T,T,T,T,T,T,T,T,T,T,T,T,T,T,T,F,F,T,T,F,F,F,F,F,F,F,F,F,F,F,F,F,F] rfl rfl (any_of HT_.out (by kernel_rfl)) (fun _ _ _ h => h) (Or.inl ⟨by rfl, ?_⟩) ?_ ?_; rotate_left; (intro w'; go_simp; with_reducible rfl); rotate_left; (simp only [Act.put, List.setIfInBounds_toArray, List.set_cons_zero, List.set_cons_succ, i64_w, i32_w]; rfl)
    refine pure_ (i := 34) (N := some 85) (v := ?_) (a' := ?_) #[T,T,T,T,T,T,T,T,T,T,T,T,T,T,T,T,T,T,T,T,T,T,T,T,T,T,T,T,T,T,F,F,T,T,T,F,F,F,F,F,F,F,F,F,F,F,F,F] rfl rfl (any_of HT_.out (by kernel_rfl)) (fun _ _ _ h => h) (Or.inl ⟨by rfl, ?_⟩) ?_ ?_; rotate_left; (intro w'; go_simp; with_reducible rfl); rotate_left; (simp only [Act.put, List.setIfInBounds_toArray, List.set_cons_zero, List.set_cons_succ, i64_w, i32_w]; rfl)
    refine take_ (i := 30) (N := some 81) (v := ?_) (a' := ?_) #[T,T,T,T,T,T,T,T,T,T,T,T,T,T,T,T,T,T,T,T,T,T,T,T,T,T,T,T,T,T,T,F,T,T,T,F,F,F,F,F,F,F,F,F,F,F,F,F] rfl rfl (take_ofW HT_.out HW_.out (by kernel_rfl)) (fun _ _ _ h => h) (Or.inl ⟨by rfl, ?_⟩) hHeld ?_ ?_; rotate_left; (rintro w' ⟨s0, s1, s2, s3, s4, s5, s6, s7, s8, s9, s10, s11, s12, s13, s14, s15, s16, s17, s18, s19, s20, s21⟩; go_simp; with_reducible rfl); rotate_left; (simp only [Act.put, List.setIfInBounds_toArray, List.set_cons_zero, List.set_cons_succ, i64_w, i32_w]; rfl)
    refine pure_ (i := 31) (N := some 82) (v := ?_) (a' := ?_) #[T,T,T,T,T,T,T,T,T,T,T,T,T,T,T,T,T,T,T,T,T,T,T,T,T,T,T,T,T,T,T,T,T,T,T,F,F,F,F,F,F,F,F,F,F,F,F,F] rfl rfl (any_of HT_.out (by kernel_rfl)) (fun _ _ _ h => h) (Or.inl ⟨by rfl, ?_⟩) ?_ ?_; rotate_left; (intro w'; go_simp; with_reducible rfl); rotate_left; (simp only [Act.put, List.setIfInBounds_toArray, List.set_cons_zero, List.set_cons_succ, i64_w, i32_w]; rfl)
    refine take_ (i := 35) (N := some 86) (v := ?_) (a' := ?_) #[T,T,T,T,T,T,T,T,T,T,T,T,T,T,T,T,T,T,T,T,T,T,T,T,T,T,T,T,T,T,T,T,T,T,T,T,F,F,F,F,F,F,F,F,F,F,F,F] rfl rfl (take_ofW HT_.out HW_.out (by kernel_rfl)) (fun _ _ _ h => h) (Or.inl ⟨by rfl, ?_⟩) hHeld ?_ ?_; rotate_left; (rintro w' ⟨s0, s1, s2, s3, s4, s5, s6, s7, s8, s9, s10, s11, s12, s13, s14, s15, s16, s17, s18, s19, s20, s21⟩; go_simp; with_reducible rfl); rotate_left; (simp only [Act.put, List.setIfInBounds_toArray, List.set_cons_zero, List.set_cons_succ, i64_w, i32_w]; rfl)
    refine pure_ (i := 36) (N := some 87) (v := ?_) (a' := ?_) #[T,T,T,T,T,T,T,T,T,T,T,T,T,T,T,T,T,T,T,T,T,T,T,T,T,T,T,T,T,T,T,T,T,T,T,T,T,F,F,F,F,F,F,F,F,F,F,F] rfl rfl (any_of HT_.out (by kernel_rfl)) (fun _ _ _ h => h) (Or.inl ⟨by rfl, ?_⟩) ?_ ?_; rotate_left; (intro w'; go_simp; with_reducible rfl); rotate_left; (simp only [Act.put, List.setIfInBounds_toArray, List.set_cons_zero, List.set_cons_succ, i64_w, i32_w]; rfl)
    refine pure_ (i := 37) (N := some 88) (v := ?_) (a' := ?_) #[T,T,T,T,T,T,T,T,T,T,T,T,T,T,T,T,T,T,T,T,T,T,T,T,T,T,T,T,T,T,T,T,T,T,T,T,T,T,F,F,F,F,F,F,F,F,F,F] rfl rfl (any_of HT_.out (by kernel_rfl)) (fun _ _ _ h => h) (Or.inl ⟨by rfl, ?_⟩) ?_ ?_; rotate_left; (intro w'; go_simp; with_reducible rfl); rotate_left; (simp only [Act.put, List.setIfInBounds_toArray, List.set_cons_zero, List.set_cons_succ, i64_w, i32_w]; rfl)
    refine pure_ (i := 38) (N := some 89) (v := ?_) (a' := ?_) #[T,T,T,T,T,T,T,T,T,T,T,T,T,T,T,T,T,T,T,T,T,T,T,T,T,T,T,T,T,T,T,T,T,T,T,T,T,T,T,F,F,F,F,F,F,F,F,F] rfl rfl (any_of HT_.out (by kernel_rfl)) (fun _ _ _ h => h) (Or.inl ⟨by rfl, ?_⟩) ?_ ?_; rotate_left; (intro w'; go_simp; with_reducible rfl); rotate_left; (simp only [Act.put, List.setIfInBounds_toArray, List.set_cons_zero, List.set_cons_succ, i64_w, i32_w]; rfl)
    refine pure_ (i := 39) (N := some 90) (v := ?_) (a' := ?_) #[T,T,T,T,T,T,T,T,T,T,T,T,T,T,T,T,T,T,T,T,T,T,T,T,T,T,T,T,T,T,T,T,T,T,T,T,T,T,T,T,F,F,F,F,F,F,F,F] rfl rfl (any_of HT_.out (by kernel_rfl)) (fun _ _ _ h => h) (Or.inl ⟨by rfl, ?_⟩) ?_ ?_; rotate_left; (intro w'; go_simp; with_reducible rfl); rotate_left; (simp only [Act.put, List.setIfInBounds_toArray, List.set_cons_zero, List.set_cons_succ, i64_w, i32_w]; rfl)
    refine pure_ (i := 40) (N := some 91) (v := ?_) (a' := ?_) #[T,T,T,T,T,T,T,T,T,T,T,T,T,T,T,T,T,T,T,T,T,T,T,T,T,T,T,T,T,T,T,T,T,T,T,T,T,T,T,T,T,F,F,F,F,F,F,F] rfl rfl (any_of HT_.out (by kernel_rfl)) (fun _ _ _ h => h) (Or.inl ⟨by rfl, ?_⟩) ?_ ?_; rotate_left; (intro w'; go_simp; with_reducible rfl); rotate_left; (simp only [Act.put, List.setIfInBounds_toArray, List.set_cons_zero, List.set_cons_succ, i64_w, i32_w]; rfl)
    refine pure_ (i := 41) (N := some 92) (v := ?_) (a' := ?_) #[T,T,T,T,T,T,T,T,T,T,T,T,T,T,T,T,T,T,T,T,T,T,T,T,T,T,T,T,T,T,T,T,T,T,T,T,T,T,T,T,T,T,F,F,F,F,F,F] rfl rfl (any_of HT_.out (by kernel_rfl)) (fun _ _ _ h => h) (Or.inl ⟨by rfl, ?_⟩) ?_ ?_; rotate_left; (intro w'; go_simp; with_reducible rfl); rotate_left; (simp only [Act.put, List.setIfInBounds_toArray, List.set_cons_zero, List.set_cons_succ, i64_w, i32_w]; rfl)
    refine pure_ (i := 42) (N := some 93) (v := ?_) (a' := ?_) #[T,T,T,T,T,T,T,T,T,T,T,T,T,T,T,T,T,T,T,T,T,T,T,T,T,T,T,T,T,T,T,T,T,T,T,T,T,T,T,T,T,T,T,F,F,F,F,F] rfl rfl (any_of HT_.out (by kernel_rfl)) (fun _ _ _ h => h) (Or.inl ⟨by rfl, ?_⟩) ?_ ?_; rotate_left; (intro w'; go_simp; with_reducible rfl); rotate_left; (simp only [Act.put, List.setIfInBounds_toArray, List.set_cons_zero, List.set_cons_succ, i64_w, i32_w]; rfl)
    refine pure_ (i := 43) (N := some 94) (v := ?_) (a' := ?_) #[T,T,T,T,T,T,T,T,T,T,T,T,T,T,T,T,T,T,T,T,T,T,T,T,T,T,T,T,T,T,T,T,T,T,T,T,T,T,T,T,T,T,T,T,F,F,F,F] rfl rfl (any_of HT_.out (by kernel_rfl)) (fun _ _ _ h => h) (Or.inl ⟨by rfl, ?_⟩) ?_ ?_; rotate_left; (intro w'; go_simp; with_reducible rfl); rotate_left; (simp only [Act.put, List.setIfInBounds_toArray, List.set_cons_zero, List.set_cons_succ, i64_w, i32_w]; rfl)
    refine take_ (i := 44) (N := some 95) (v := ?_) (a' := ?_) #[T,T,T,T,T,T,T,T,T,T,T,T,T,T,T,T,T,T,T,T,T,T,T,T,T,T,T,T,T,T,T,T,T,T,T,T,T,T,T,T,T,T,T,T,T,F,F,F] rfl rfl (take_ofW HT_.out HW_.out (by kernel_rfl)) (fun _ _ _ h => h) (Or.inl ⟨by rfl, ?_⟩) hHeld ?_ ?_; rotate_left; (rintro w' ⟨s0, s1, s2, s3, s4, s5, s6, s7, s8, s9, s10, s11, s12, s13, s14, s15, s16, s17, s18, s19, s20, s21⟩; go_simp; with_reducible rfl); rotate_left; (simp only [Act.put, List.setIfInBounds_toArray, List.set_cons_zero, List.set_cons_succ, i64_w, i32_w]; rfl)
    refine pure_ (i := 45) (N := some 96) (v := ?_) (a' := ?_) #[T,T,T,T,T,T,T,T,T,T,T,T,T,T,T,T,T,T,T,T,T,T,T,T,T,T,T,T,T,T,T,T,T,T,T,T,T,T,T,T,T,T,T,T,T,T,F,F] rfl rfl (any_of HT_.out (by kernel_rfl)) (fun _ _ _ h => h) (Or.inl ⟨by rfl, ?_⟩) ?_ ?_; rotate_left; (intro w'; go_simp; with_reducible rfl); rotate_left; (simp only [Act.put, List.setIfInBounds_toArray, List.set_cons_zero, List.set_cons_succ, i64_w, i32_w]; rfl)
    refine pure_ (i := 46) (N := some 97) (v := ?_) (a' := ?_) #[T,T,T,T,T,T,T,T,T,T,T,T,T,T,T,T,T,T,T,T,T,T,T,T,T,T,T,T,T,T,T,T,T,T,T,T,T,T,T,T,T,T,T,T,T,T,T,F] rfl rfl (any_of HT_.out (by kernel_rfl)) (fun _ _ _ h => h) (Or.inl ⟨by rfl, ?_⟩) ?_ ?_; rotate_left; (intro w'; go_simp; with_reducible rfl); rotate_left; (simp only [Act.put, List.setIfInBounds_toArray, List.set_cons_zero, List.set_cons_succ, i64_w, i32_w]; rfl)
    refine pure_ (i := 47) (N := some 98) (v := ?_) (a' := ?_) #[T,T,T,T,T,T,T,T,T,T,T,T,T,T,T,T,T,T,T,T,T,T,T,T,T,T,T,T,T,T,T,T,T,T,T,T,T,T,T,T,T,T,T,T,T,T,T,T] rfl rfl (any_of HT_.out (by kernel_rfl)) (fun _ _ _ h => h) (Or.inl ⟨by rfl, ?_⟩) ?_ ?_; rotate_left; (intro w'; go_simp; with_reducible rfl); rotate_left; (simp only [Act.put, List.setIfInBounds_toArray, List.set_cons_zero, List.set_cons_succ, i64_w, i32_w]; rfl)
    refine done_ (done_of HT_.out (by kernel_rfl)) ?_
    try go_wp2
    go_meet
    case rel => exact ⟨_, (((((rd_T38 l3 x11_2).f2).length : Int) == 0)), (by first | rfl | (simp; done) | (simp [*]; done)), H', ⟨by have := HJ5.out; have := HK2.out; first | omega | exact Nat.le_refl _⟩, ⟨by (with_reducible repeat (first | apply Kd.V_alloc | apply Kd.V_drewN | apply Kd.V_drew)); exact Kd.V_mono HO_8.out (fun _ hk => ⟨hk.1.1, hk.1.2⟩)⟩, ⟨by (with_reducible repeat (first | apply Kd.V_alloc | apply Kd.V_drewN | apply Kd.V_drew)); exact Kd.V_mono HO_105000.out (fun _ hk => ⟨hk.1.1, hk.1.2⟩)⟩, ⟨by (with_reducible repeat (first | apply Kd.V_alloc | apply Kd.V_drewN | apply Kd.V_drew)); exact Kd.V_mono HO_105003.out (fun _ hk => ⟨hk.1.1, hk.1.2⟩)⟩, ⟨by (with_reducible repeat (first | refine blk_drewN ?_ _ | refine blk_drew ?_ | refine blk_alloc ?_ _)); exact BK104.out⟩, ⟨by repeat (first | (with_reducible exact HR105_0.out) | (with_reducible refine Kd.C_alloc ?_ _) | (with_reducible refine Kd.C_drewN ?_ _) | (with_reducible refine Kd.C_drew ?_) | exact HR105_0.out)⟩, ⟨by repeat (first | (with_reducible exact HR105_3.out) | (with_reducible refine Kd.C_alloc ?_ _) | (with_reducible refine Kd.C_drewN ?_ _) | (with_reducible refine Kd.C_drew ?_) | exact HR105_3.out)⟩, ⟨by repeat (first | (with_reducible first | exact HB.out | apply below_alloc | apply pw_below_drewN | apply below_drew1 | refine below_set ?_ GE104.out) | exact HB.out)⟩⟩
   clear HC17; try clear c1; try clear p1; try clear q1; try clear hx1; try clear c2; try clear p2; try clear p6; try clear c10; try clear p10; try clear q10; try clear hx10; try clear c22; try clear c22b0; try clear c22b1; try clear c23; try clear hx106_0; try clear hx106_1; try clear hx106_2; try clear hx106_3; try clear hx107_0; try clear hx107_1; try clear hx107_2; try clear hx107_3; try clear hx108_0; try clear hx108_1; try clear hx108_2; try clear hx108_3; try clear p106; try clear p107; try clear p108; try clear q106; try clear q107; try clear q108
   obtain ⟨kq, x98_16, rfl, HA, HJ16, HO_8, HO_105000, HO_105003, BK104, HR105_0, HR105_3, HB⟩ := hcut
   cases kq with
   | zero => exact absurd HA.out (by simp [sennitlaw21_HunkSpans.j2])
   | succ kj16 =>
    have H := HA.out
    clear HA
    simp only [sennitlaw21_HunkSpans.j2] at H
    by_cases c34 : x98_16 = true
    ·subst c34
     have H1 : (some false) = some r := by rw [if_pos rfl] at H; exact H
     clear H
     have H := H1
     clear H1
     exact absurd ((Option.some.inj H).trans HRT.out) (by decide)
    replace c34 := Bool.eq_false_iff.mpr c34
    subst c34
    have H1 : (sennitlaw21_HunkSpans.l1 kj16 l0 a2 t101 l3 x11_2 (wrap64 (((rd_T38 l3 x11_2).f1.f0) - x105002_2)) 0 x105000_2 x105001_2 x105002_2 x105003_2) = some r := by rw [if_neg (show ¬ (false = true) by decide)] at H; exact H
    clear H
    have H := H1
    clear H1
    have H' := Aside0.mk H
    clear H
    go_wp2
    go_loopg [13] kj16 (fun kq v13 w' => ∃ (x13_4 : Int), v13 = .int .i64 x13_4 ∧ Aside0 (sennitlaw21_HunkSpans.l1 kq l0 a2 t101 l3 x11_2 (wrap64 (((rd_T38 l3 x11_2).f1.f0) - x105002_2)) x13_4 x105000_2 x105001_2 x105002_2 x105003_2 = some r) ∧ Aside0 (kq ≤ kj16) ∧ Aside0 (Kd.V k38 38 w' w.heap.size (fun k_ => ((k_ < w.heap.size) ∨ w.heap.size ≤ k_) ∧ k_ ≠ gb104) (.slice (some ad105) l3.length c3) l3) ∧ Aside0 (Kd.V k36 36 w' w.heap.size (fun k_ => ((k_ < w.heap.size) ∨ w.heap.size ≤ k_) ∧ k_ ≠ gb104) u105000 x105000_2) ∧ Aside0 (Kd.V k41 41 w' w.heap.size (fun k_ => ((k_ < w.heap.size) ∨ w.heap.size ≤ k_) ∧ k_ ≠ gb104) u105003 x105003_2) ∧ Aside0 (w'.heap[gb104]? = some (.cells #[u105000, .int .i64 x105001_2, .int .i64 x105002_2, u105003] 38 (0, 0))) ∧ Aside0 (Below w.heap.size w w'))
    case atStart => exact ⟨(0), (by first | rfl | (simp; done) | (simp [*]; done)), H', ⟨Nat.le_refl _⟩, ⟨by (with_reducible repeat (first | apply Kd.V_alloc | apply Kd.V_drewN | apply Kd.V_drew)); exact HO_8.out⟩, ⟨by (with_reducible repeat (first | apply Kd.V_alloc | apply Kd.V_drewN | apply Kd.V_drew)); exact HO_105000.out⟩, ⟨by (with_reducible repeat (first | apply Kd.V_alloc | apply Kd.V_drewN | apply Kd.V_drew)); exact HO_105003.out⟩, ⟨by (with_reducible repeat (first | refine blk_drewN ?_ _ | refine blk_drew ?_ | refine blk_alloc ?_ _)); exact BK104.out⟩, ⟨by repeat (first | (with_reducible first | exact HB.out | apply below_alloc | apply pw_below_drewN | apply below_drew1 | refine below_set ?_ GE104.out) | exact HB.out)⟩⟩
    clear H'; try clear c1; try clear p1; try clear q1; try clear hx1; try clear c2; try clear p2; try clear c3; try clear p6; try clear c10; try clear p10; try clear q10; try clear hx10; try clear c22; try clear c22b0; try clear c22b1; try clear c23; try clear c34; try clear hx106_0; try clear hx106_1; try clear hx106_2; try clear hx106_3; try clear hx107_0; try clear hx107_1; try clear hx107_2; try clear hx107_3; try clear hx108_0; try clear hx108_1; try clear hx108_2; try clear hx108_3; try clear p1; try clear p10; try clear p106; try clear p107; try clear p108; try clear p2; try clear p6; try clear q1; try clear q10; try clear q106; try clear q107; try clear q108
    obtain ⟨x13_4, rfl, HA, HK4, HO_8, HO_105000, HO_105003, BK104, HB⟩ := hrel
    cases gk with
    | zero => exact absurd HA.out (by simp [sennitlaw21_HunkSpans.l1])
    | succ k4 =>
     have H := HA.out
     clear HA
     simp only [sennitlaw21_HunkSpans.l1] at H
     by_cases c35 : 0 ≤ x11_2
     rotate_left
     ·rw [if_neg c35] at H
      exact absurd H (by simp)
     rw [if_pos c35] at H
     have c35b0 : decide (0 ≤ x11_2) = true := decide_eq_true c35
     clear c35
     by_cases c36 : x11_2 < (l3.length : Int)
     rotate_left
     ·rw [if_neg c36] at H
      exact absurd H (by simp)
     rw [if_pos c36] at H
     have c36b0 : decide (x11_2 < (l3.length : Int)) = true := decide_eq_true c36
     clear c36
     by_cases c37 : x13_4 < (((rd_T38 l3 x11_2).f0).length : Int)
     rotate_left
     ·rw [if_neg c37] at H
      have c37b0 : decide (x13_4 < (((rd_T38 l3 x11_2).f0).length : Int)) = false := decide_eq_false c37
      clear c37
      have H' := Aside0.mk H
      clear H
      have p115 : 0 ≤ (x11_2 : Int) := of_decide_eq_true (by first | (with_reducible assumption) | assumption)
      have q115 : x11_2 < (l3.length : Int) := of_decide_eq_true (by first | (with_reducible assumption) | assumption)
      obtain ⟨ad115, A115_0, c115_0, A115_3, c115_3, e115, hx115_0, hx115_1, hx115_2, hx115_3, hl115_0, hi115_0, hl115_3, hi115_3⟩ := at_T38 (Kd.V_reads' HO_8.out).2.2 x11_2 p115 q115
      obtain rfl : ad105 = ad115 := (by injection e115)
      obtain ⟨ce115, hce115, hMe115, hcc115⟩ := Kd.V_get HO_8.out z38 x11_2 p115 (by first | exact q115 | exact of_decide_eq_true (by first | (with_reducible assumption) | assumption) | (have e_ := (Kd.V_reads' HO_8.out).1; omega))
      obtain ⟨ua115_0, uc115_0, ua115_3, uc115_3, rfl, ul115_0, ge115_0, ul115_3, ge115_3⟩ := k38_openF hMe115
      have hv115_0 := hcc115 0 _ rfl
      rw [Nat.add_zero] at hv115_0
      replace hv115_0 := Option.some.inj (hv115_0.symm.trans hx115_0)
      injection hv115_0 with hva_ hvn_ hvc_
      rw [hva_] at ge115_0
      rw [hvc_] at ul115_0
      have HL115_0 := Aside0.mk (show Kd.V k36 36 _ w.heap.size _ _ ((rd_T38 l3 x11_2).f0) from Kd.V_mk ul115_0 ge115_0)
      clear hva_ hvn_ hvc_ ge115_0 ul115_0
      have hv115_3 := hcc115 3 _ rfl
      rw [add_field _ _ 3 (by omega)] at hv115_3
      replace hv115_3 := Option.some.inj (hv115_3.symm.trans hx115_3)
      injection hv115_3 with hva_ hvn_ hvc_
      rw [hva_] at ge115_3
      rw [hvc_] at ul115_3
      have HL115_3 := Aside0.mk (show Kd.V k41 41 _ w.heap.size _ _ ((rd_T38 l3 x11_2).f2) from Kd.V_mk ul115_3 ge115_3)
      clear hva_ hvn_ hvc_ ge115_3 ul115_3; clear hcc115 hce115
      have HR115_0 := Aside0.mk hi115_0
      have HC115_0 := Aside0.mk hl115_0
      clear hi115_0 hl115_0
      have HR115_3 := Aside0.mk hi115_3
      have HC115_3 := Aside0.mk hl115_3
      clear hi115_3 hl115_3
      replace p115 := eq_true p115
      replace q115 := eq_true q115
      have p116 : 0 ≤ (x11_2 : Int) := of_decide_eq_true (by first | (with_reducible assumption) | assumption)
      have q116 : x11_2 < (l3.length : Int) := of_decide_eq_true (by first | (with_reducible assumption) | assumption)
      obtain ⟨ad116, A116_0, c116_0, A116_3, c116_3, e116, hx116_0, hx116_1, hx116_2, hx116_3, hl116_0, hi116_0, hl116_3, hi116_3⟩ := at_T38 (Kd.V_reads' HO_8.out).2.2 x11_2 p116 q116
      obtain rfl : ad105 = ad116 := (by injection e116)
      obtain ⟨ce116, hce116, hMe116, hcc116⟩ := Kd.V_get HO_8.out z38 x11_2 p116 (by first | exact q116 | exact of_decide_eq_true (by first | (with_reducible assumption) | assumption) | (have e_ := (Kd.V_reads' HO_8.out).1; omega))
      obtain ⟨ua116_0, uc116_0, ua116_3, uc116_3, rfl, ul116_0, ge116_0, ul116_3, ge116_3⟩ := k38_openF hMe116
      have hv116_0 := hcc116 0 _ rfl
      rw [Nat.add_zero] at hv116_0
      replace hv116_0 := Option.some.inj (hv116_0.symm.trans hx116_0)
      injection hv116_0 with hva_ hvn_ hvc_
      rw [hva_] at ge116_0
      rw [hvc_] at ul116_0
      have HL116_0 := Aside0.mk (show Kd.V k36 36 _ w.heap.size _ _ ((rd_T38 l3 x11_2).f0) from Kd.V_mk ul116_0 ge116_0)
      clear hva_ hvn_ hvc_ ge116_0 ul116_0
      have hv116_3 := hcc116 3 _ rfl
      rw [add_field _ _ 3 (by omega)] at hv116_3
      replace hv116_3 := Option.some.inj (hv116_3.symm.trans hx116_3)
      injection hv116_3 with hva_ hvn_ hvc_
      rw [hva_] at ge116_3
      rw [hvc_] at ul116_3
      have HL116_3 := Aside0.mk (show Kd.V k41 41 _ w.heap.size _ _ ((rd_T38 l3 x11_2).f2) from Kd.V_mk ul116_3 ge116_3)
      clear hva_ hvn_ hvc_ ge116_3 ul116_3; clear hcc116 hce116
      have HR116_0 := Aside0.mk hi116_0
      have HC116_0 := Aside0.mk hl116_0
      clear hi116_0 hl116_0
      have HR116_3 := Aside0.mk hi116_3
      have HC116_3 := Aside0.mk hl116_3
      clear hi116_3 hl116_3
      replace p116 := eq_true p116
      replace q116 := eq_true q116
      have ea_ := Option.some.inj (hx115_0.symm.trans hx116_0)
      injection ea_ with ea_ en_ ec_
      subst ea_
      subst ec_
      clear en_
      have ea_ := Option.some.inj (hx115_3.symm.trans hx116_3)
      injection ea_ with ea_ en_ ec_
      subst ea_
      subst ec_
      clear en_
      have hcz143_0 : wr.cell? ⟨gb104, 0, none⟩ = some (u105000) := (blk_cell BK104.out 0).trans rfl
      have hcz143_1 : wr.cell? ⟨gb104, 1, none⟩ = some (.int .i64 x105001_2) := (blk_cell BK104.out 1).trans rfl
      have hcz143_2 : wr.cell? ⟨gb104, 2, none⟩ = some (.int .i64 x105002_2) := (blk_cell BK104.out 2).trans rfl
      have hcz143_3 : wr.cell? ⟨gb104, 3, none⟩ = some (u105003) := (blk_cell BK104.out 3).trans rfl
      have hfz143_0 := blk_frozen BK104.out 0
      have hfz143_1 := blk_frozen BK104.out 1
      have hfz143_2 := blk_frozen BK104.out 2
      have hfz143_3 := blk_frozen BK104.out 3
      go_wp2
      go_roundg k4
      case measure => have := HJ5.out; have := HK2.out; have := HJ16.out; have := HK4.out; omega
      case rel => exact ⟨(wrap64 (x11_2 + 1)), ((rd_T38 l3 x11_2).f0), ((rd_T38 l3 x11_2).f1.f0), ((rd_T38 l3 x11_2).f1.f1), ((rd_T38 l3 x11_2).f2), (.slice A115_0 ((rd_T38 l3 x11_2).f0).length c115_0), (.slice A115_3 ((rd_T38 l3 x11_2).f2).length c115_3), (by first | rfl | (simp; done) | (simp [*]; done)), H', ⟨by have := HJ5.out; have := HK2.out; have := HJ16.out; have := HK4.out; omega⟩, ⟨by (with_reducible repeat (first | apply Kd.V_alloc | apply Kd.V_drewN | apply Kd.V_drew)); exact Kd.V_mono (Kd.V_far (p := ⟨gb104, 3, none⟩) (Kd.V_far (p := ⟨gb104, 2, none⟩) (Kd.V_far (p := ⟨gb104, 1, none⟩) (Kd.V_far (p := ⟨gb104, 0, none⟩) (Kd.V_mono HO_8.out (fun k_ hk => (⟨hk, hk.2⟩ : _ ∧ k_ ≠ gb104))) (fun _ hk => hk.2) (.slice A115_0 ((rd_T38 l3 x11_2).f0).length c115_0)) (fun _ hk => hk.2) (.int .i64 ((rd_T38 l3 x11_2).f1.f0))) (fun _ hk => hk.2) (.int .i64 ((rd_T38 l3 x11_2).f1.f1))) (fun _ hk => hk.2) (.slice A115_3 ((rd_T38 l3 x11_2).f2).length c115_3)) (fun _ hk => ⟨hk.1.1, hk.1.2⟩)⟩, ⟨by (with_reducible repeat (first | apply Kd.V_alloc | apply Kd.V_drewN | apply Kd.V_drew)); exact Kd.V_mono (Kd.V_far (p := ⟨gb104, 3, none⟩) (Kd.V_far (p := ⟨gb104, 2, none⟩) (Kd.V_far (p := ⟨gb104, 1, none⟩) (Kd.V_far (p := ⟨gb104, 0, none⟩) (Kd.V_mono HL116_0.out (fun k_ hk => (⟨hk, hk.2⟩ : _ ∧ k_ ≠ gb104))) (fun _ hk => hk.2) (.slice A115_0 ((rd_T38 l3 x11_2).f0).length c115_0)) (fun _ hk => hk.2) (.int .i64 ((rd_T38 l3 x11_2).f1.f0))) (fun _ hk => hk.2) (.int .i64 ((rd_T38 l3 x11_2).f1.f1))) (fun _ hk => hk.2) (.slice A115_3 ((rd_T38 l3 x11_2).f2).length c115_3)) (fun _ hk => ⟨hk.1.1, hk.1.2⟩)⟩, ⟨by (with_reducible repeat (first | apply Kd.V_alloc | apply Kd.V_drewN | apply Kd.V_drew)); exact Kd.V_mono (Kd.V_far (p := ⟨gb104, 3, none⟩) (Kd.V_far (p := ⟨gb104, 2, none⟩) (Kd.V_far (p := ⟨gb104, 1, none⟩) (Kd.V_far (p := ⟨gb104, 0, none⟩) (Kd.V_mono HL116_3.out (fun k_ hk => (⟨hk, hk.2⟩ : _ ∧ k_ ≠ gb104))) (fun _ hk => hk.2) (.slice A115_0 ((rd_T38 l3 x11_2).f0).length c115_0)) (fun _ hk => hk.2) (.int .i64 ((rd_T38 l3 x11_2).f1.f0))) (fun _ hk => hk.2) (.int .i64 ((rd_T38 l3 x11_2).f1.f1))) (fun _ hk => hk.2) (.slice A115_3 ((rd_T38 l3 x11_2).f2).length c115_3)) (fun _ hk => ⟨hk.1.1, hk.1.2⟩)⟩, ⟨by (with_reducible repeat (first | refine blk_drewN ?_ _ | refine blk_drew ?_ | refine blk_alloc ?_ _)); refine blk_put (cs := #[.slice A115_0 ((rd_T38 l3 x11_2).f0).length c115_0, .int .i64 ((rd_T38 l3 x11_2).f1.f0), .int .i64 ((rd_T38 l3 x11_2).f1.f1), u105003]) ?_ 3 _ rfl; (with_reducible repeat (first | refine blk_drewN ?_ _ | refine blk_drew ?_ | refine blk_alloc ?_ _)); refine blk_put (cs := #[.slice A115_0 ((rd_T38 l3 x11_2).f0).length c115_0, .int .i64 ((rd_T38 l3 x11_2).f1.f0), .int .i64 x105002_2, u105003]) ?_ 2 _ rfl; (with_reducible repeat (first | refine blk_drewN ?_ _ | refine blk_drew ?_ | refine blk_alloc ?_ _)); refine blk_put (cs := #[.slice A115_0 ((rd_T38 l3 x11_2).f0).length c115_0, .int .i64 x105001_2, .int .i64 x105002_2, u105003]) ?_ 1 _ rfl; (with_reducible repeat (first | refine blk_drewN ?_ _ | refine blk_drew ?_ | refine blk_alloc ?_ _)); refine blk_put (cs := #[u105000, .int .i64 x105001_2, .int .i64 x105002_2, u105003]) ?_ 0 _ rfl; (with_reducible repeat (first | refine blk_drewN ?_ _ | refine blk_drew ?_ | refine blk_alloc ?_ _)); exact BK104.out⟩, ⟨by repeat (first | (with_reducible first | exact HB.out | apply below_alloc | apply pw_below_drewN | apply below_drew1 | refine below_set ?_ GE104.out) | exact HB.out)⟩⟩
     rw [if_pos c37] at H
     have c37b0 : decide (x13_4 < (((rd_T38 l3 x11_2).f0).length : Int)) = true := decide_eq_true c37
     clear c37
     by_cases c38 : 0 ≤ x13_4
     rotate_left
     ·rw [if_neg c38] at H
      exact absurd H (by simp)
     rw [if_pos c38] at H
     have c38b0 : decide (0 ≤ x13_4) = true := decide_eq_true c38
     clear c38
     by_cases c39 : x11_2 > 0
     rotate_left
     ·rw [if_neg c39] at H
      have c39b0 : decide (0 < x11_2) = false := decide_eq_false c39
      clear c39
      by_cases c98 : ((rd_T36 ((rd_T38 l3 x11_2).f0) x13_4).f0) < 0
      ·rw [if_pos c98] at H
       have c98b0 : decide (((rd_T36 ((rd_T38 l3 x11_2).f0) x13_4).f0) < 0) = true := decide_eq_true c98
       clear c98
       exact absurd ((Option.some.inj H).trans HRT.out) (by decide)
      rw [if_neg c98] at H
      have c98b0 : decide (((rd_T36 ((rd_T38 l3 x11_2).f0) x13_4).f0) < 0) = false := decide_eq_false c98
      clear c98
      by_cases c104 : a2 = true
      ·subst c104
       have H1 : ((table_Column.f ((rd_T38 l3 x11_2).f2) x13_4).bind fun t130 => (if (wrap64 (((rd_T36 ((rd_T38 l3 x11_2).f0) x13_4).f1) - ((rd_T36 ((rd_T38 l3 x11_2).f0) x13_4).f0))) = (t130.length : Int) then (sennitlaw21_HunkSpans.l1 k4 l0 true t101 l3 x11_2 (wrap64 (((rd_T38 l3 x11_2).f1.f0) - x105002_2)) (wrap64 (x13_4 + 1)) x105000_2 x105001_2 x105002_2 x105003_2) else (some false))) = some r := by rw [if_pos rfl] at H; exact H
       clear H
       have H := H1
       clear H1
       replace H := Option.bind_eq_some_iff.mp H
       obtain ⟨t130, A1050, H⟩ := H
       replace H : (if (wrap64 (((rd_T36 ((rd_T38 l3 x11_2).f0) x13_4).f1) - ((rd_T36 ((rd_T38 l3 x11_2).f0) x13_4).f0))) = (t130.length : Int) then (sennitlaw21_HunkSpans.l1 k4 l0 true t101 l3 x11_2 (wrap64 (((rd_T38 l3 x11_2).f1.f0) - x105002_2)) (wrap64 (x13_4 + 1)) x105000_2 x105001_2 x105002_2 x105003_2) else (some false)) = some r := H
       have A105 := Aside0.mk A1050
       clear A1050
       by_cases c106 : (wrap64 (((rd_T36 ((rd_T38 l3 x11_2).f0) x13_4).f1) - ((rd_T36 ((rd_T38 l3 x11_2).f0) x13_4).f0))) = (t130.length : Int)
       rotate_left
       ·rw [if_neg c106] at H
        have c106b0 : ((wrap64 (((rd_T36 ((rd_T38 l3 x11_2).f0) x13_4).f1) - ((rd_T36 ((rd_T38 l3 x11_2).f0) x13_4).f0))) == (t130.length : Int)) = false := beq_eq_false_iff_ne.mpr c106
        have c106b1 : ((wrap64 (((rd_T36 ((rd_T38 l3 x11_2).f0) x13_4).f1) - ((rd_T36 ((rd_T38 l3 x11_2).f0) x13_4).f0))) != (t130.length : Int)) = true := bne_iff_ne.mpr c106
        exact absurd ((Option.some.inj H).trans HRT.out) (by decide)
       rw [if_pos c106] at H
       have c106b0 : ((wrap64 (((rd_T36 ((rd_T38 l3 x11_2).f0) x13_4).f1) - ((rd_T36 ((rd_T38 l3 x11_2).f0) x13_4).f0))) == (t130.length : Int)) = true := beq_iff_eq.mpr c106
       have c106b1 : ((wrap64 (((rd_T36 ((rd_T38 l3 x11_2).f0) x13_4).f1) - ((rd_T36 ((rd_T38 l3 x11_2).f0) x13_4).f0))) != (t130.length : Int)) = false := bne_eq_false_iff_eq.mpr c106
       clear c106
       have H' := Aside0.mk H
       clear H
       have p115 : 0 ≤ (x11_2 : Int) := of_decide_eq_true (by first | (with_reducible assumption) | assumption)
       have q115 : x11_2 < (l3.length : Int) := of_decide_eq_true (by first | (with_reducible assumption) | assumption)
       obtain ⟨ad115, A115_0, c115_0, A115_3, c115_3, e115, hx115_0, hx115_1, hx115_2, hx115_3, hl115_0, hi115_0, hl115_3, hi115_3⟩ := at_T38 (Kd.V_reads' HO_8.out).2.2 x11_2 p115 q115
       obtain rfl : ad105 = ad115 := (by injection e115)
       obtain ⟨ce115, hce115, hMe115, hcc115⟩ := Kd.V_get HO_8.out z38 x11_2 p115 (by first | exact q115 | exact of_decide_eq_true (by first | (with_reducible assumption) | assumption) | (have e_ := (Kd.V_reads' HO_8.out).1; omega))
       obtain ⟨ua115_0, uc115_0, ua115_3, uc115_3, rfl, ul115_0, ge115_0, ul115_3, ge115_3⟩ := k38_openF hMe115
       have hv115_0 := hcc115 0 _ rfl
       rw [Nat.add_zero] at hv115_0
       replace hv115_0 := Option.some.inj (hv115_0.symm.trans hx115_0)
       injection hv115_0 with hva_ hvn_ hvc_
       rw [hva_] at ge115_0
       rw [hvc_] at ul115_0
       have HL115_0 := Aside0.mk (show Kd.V k36 36 _ w.heap.size _ _ ((rd_T38 l3 x11_2).f0) from Kd.V_mk ul115_0 ge115_0)
       clear hva_ hvn_ hvc_ ge115_0 ul115_0
       have hv115_3 := hcc115 3 _ rfl
       rw [add_field _ _ 3 (by omega)] at hv115_3
       replace hv115_3 := Option.some.inj (hv115_3.symm.trans hx115_3)
       injection hv115_3 with hva_ hvn_ hvc_
       rw [hva_] at ge115_3
       rw [hvc_] at ul115_3
       have HL115_3 := Aside0.mk (show Kd.V k41 41 _ w.heap.size _ _ ((rd_T38 l3 x11_2).f2) from Kd.V_mk ul115_3 ge115_3)
       clear hva_ hvn_ hvc_ ge115_3 ul115_3; clear hcc115 hce115
       have HR115_0 := Aside0.mk hi115_0
       have HC115_0 := Aside0.mk hl115_0
       clear hi115_0 hl115_0
       have HR115_3 := Aside0.mk hi115_3
       have HC115_3 := Aside0.mk hl115_3
       clear hi115_3 hl115_3
       replace p115 := eq_true p115
       replace q115 := eq_true q115
       have p117 : 0 ≤ (x11_2 : Int) := of_decide_eq_true (by first | (with_reducible assumption) | assumption)
       have q117 : x11_2 < (l3.length : Int) := of_decide_eq_true (by first | (with_reducible assumption) | assumption)
       obtain ⟨ad117, A117_0, c117_0, A117_3, c117_3, e117, hx117_0, hx117_1, hx117_2, hx117_3, hl117_0, hi117_0, hl117_3, hi117_3⟩ := at_T38 (Kd.V_reads' HO_8.out).2.2 x11_2 p117 q117
       obtain rfl : ad105 = ad117 := (by injection e117)
       obtain ⟨ce117, hce117, hMe117, hcc117⟩ := Kd.V_get HO_8.out z38 x11_2 p117 (by first | exact q117 | exact of_decide_eq_true (by first | (with_reducible assumption) | assumption) | (have e_ := (Kd.V_reads' HO_8.out).1; omega))
       obtain ⟨ua117_0, uc117_0, ua117_3, uc117_3, rfl, ul117_0, ge117_0, ul117_3, ge117_3⟩ := k38_openF hMe117
       have hv117_0 := hcc117 0 _ rfl
       rw [Nat.add_zero] at hv117_0
       replace hv117_0 := Option.some.inj (hv117_0.symm.trans hx117_0)
       injection hv117_0 with hva_ hvn_ hvc_
       rw [hva_] at ge117_0
       rw [hvc_] at ul117_0
       have HL117_0 := Aside0.mk (show Kd.V k36 36 _ w.heap.size _ _ ((rd_T38 l3 x11_2).f0) from Kd.V_mk ul117_0 ge117_0)
       clear hva_ hvn_ hvc_ ge117_0 ul117_0
       have hv117_3 := hcc117 3 _ rfl
       rw [add_field _ _ 3 (by omega)] at hv117_3
       replace hv117_3 := Option.some.inj (hv117_3.symm.trans hx117_3)
       injection hv117_3 with hva_ hvn_ hvc_
       rw [hva_] at ge117_3
       rw [hvc_] at ul117_3
       have HL117_3 := Aside0.mk (show Kd.V k41 41 _ w.heap.size _ _ ((rd_T38 l3 x11_2).f2) from Kd.V_mk ul117_3 ge117_3)
       clear hva_ hvn_ hvc_ ge117_3 ul117_3; clear hcc117 hce117
       have HR117_0 := Aside0.mk hi117_0
       have HC117_0 := Aside0.mk hl117_0
       clear hi117_0 hl117_0
       have HR117_3 := Aside0.mk hi117_3
       have HC117_3 := Aside0.mk hl117_3
       clear hi117_3 hl117_3
       replace p117 := eq_true p117
       replace q117 := eq_true q117
       have ea_ := Option.some.inj (hx115_0.symm.trans hx117_0)
       injection ea_ with ea_ en_ ec_
       subst ea_
       subst ec_
       clear en_
       have ea_ := Option.some.inj (hx115_3.symm.trans hx117_3)
       injection ea_ with ea_ en_ ec_
       subst ea_
       subst ec_
       clear en_
       have p118 : 0 ≤ (x13_4 : Int) := of_decide_eq_true (by first | (with_reducible assumption) | assumption)
       have q118 : x13_4 < (((rd_T38 l3 x11_2).f0).length : Int) := of_decide_eq_true (by first | (with_reducible assumption) | assumption)
       obtain ⟨ad118, e118, hx118_0, hx118_1⟩ := at_T36 (by repeat (first | (with_reducible exact HR117_0.out) | (with_reducible refine Kd.C_alloc ?_ _) | (with_reducible refine Kd.C_drewN ?_ _) | (with_reducible refine Kd.C_drew ?_) | exact HR117_0.out)) x13_4 p118 q118
       cases e118
       replace p118 := eq_true p118
       replace q118 := eq_true q118
       try go_wp2_with (first | ((with_reducible refine gate_dst (N := 14) rfl ?_); (try (refine gate_guard (by rfl) ?_; dsimp only)); refine box_event ?hg (N := 14) ?hd (cs := #[.int .i64 0, .int .i64 0]) (t := 36) ?hr ?_; (case hd => rfl); (case hg => rfl); (case hr => first | (go_simp; done) | (go_simp; rfl)); intro gb119 hg w107 hbox hb; have n0_ := Aside0.mk (Kd.V_below (Kd.V_elderB (by (with_reducible repeat (first | apply Kd.V_alloc | apply Kd.V_drewN | apply Kd.V_drew)); exact HO_8.out) gb119 (Nat.le_of_eq hg.symm)) hb); have n1_ := Aside0.mk (Kd.V_below (Kd.V_elderB (by (with_reducible repeat (first | apply Kd.V_alloc | apply Kd.V_drewN | apply Kd.V_drew)); exact HO_105000.out) gb119 (Nat.le_of_eq hg.symm)) hb); have n2_ := Aside0.mk (Kd.V_below (Kd.V_elderB (by (with_reducible repeat (first | apply Kd.V_alloc | apply Kd.V_drewN | apply Kd.V_drew)); exact HO_105003.out) gb119 (Nat.le_of_eq hg.symm)) hb); have n3_ := Aside0.mk (Kd.V_below (Kd.V_elderB (by (with_reducible repeat (first | apply Kd.V_alloc | apply Kd.V_drewN | apply Kd.V_drew)); exact HL115_0.out) gb119 (Nat.le_of_eq hg.symm)) hb); have n4_ := Aside0.mk (Kd.V_below (Kd.V_elderB (by (with_reducible repeat (first | apply Kd.V_alloc | apply Kd.V_drewN | apply Kd.V_drew)); exact HL115_3.out) gb119 (Nat.le_of_eq hg.symm)) hb); have n5_ := Aside0.mk (Kd.V_below (Kd.V_elderB (by (with_reducible repeat (first | apply Kd.V_alloc | apply Kd.V_drewN | apply Kd.V_drew)); exact HL117_0.out) gb119 (Nat.le_of_eq hg.symm)) hb); have n6_ := Aside0.mk (Kd.V_below (Kd.V_elderB (by (with_reducible repeat (first | apply Kd.V_alloc | apply Kd.V_drewN | apply Kd.V_drew)); exact HL117_3.out) gb119 (Nat.le_of_eq hg.symm)) hb); have n7_ := Aside0.mk (blk_below (g := gb104) (o := .cells #[u105000, .int .i64 x105001_2, .int .i64 x105002_2, u105003] 38 (0, 0)) (by (with_reducible repeat (first | refine blk_drewN ?_ _ | refine blk_drew ?_ | refine blk_alloc ?_ _)); exact BK104.out) hb); have n8_ := Aside0.mk (Kd.C_below (by repeat (first | (with_reducible exact HR115_0.out) | (with_reducible refine Kd.C_alloc ?_ _) | (with_reducible refine Kd.C_drewN ?_ _) | (with_reducible refine Kd.C_drew ?_) | exact HR115_0.out)) hb); have n9_ := Aside0.mk (Kd.C_below (by repeat (first | (with_reducible exact HR115_3.out) | (with_reducible refine Kd.C_alloc ?_ _) | (with_reducible refine Kd.C_drewN ?_ _) | (with_reducible refine Kd.C_drew ?_) | exact HR115_3.out)) hb); have n10_ := Aside0.mk (Kd.C_below (by repeat (first | (with_reducible exact HR117_0.out) | (with_reducible refine Kd.C_alloc ?_ _) | (with_reducible refine Kd.C_drewN ?_ _) | (with_reducible refine Kd.C_drew ?_) | exact HR117_0.out)) hb); have n11_ := Aside0.mk (Kd.C_below (by repeat (first | (with_reducible exact HR117_3.out) | (with_reducible refine Kd.C_alloc ?_ _) | (with_reducible refine Kd.C_drewN ?_ _) | (with_reducible refine Kd.C_drew ?_) | exact HR117_3.out)) hb); have n12_ := Aside0.mk (below_step (by repeat (first | (with_reducible first | exact HB.out | apply below_alloc | apply pw_below_drewN | apply below_drew1 | refine below_set ?_ GE104.out) | exact HB.out)) hb); have n13_ := Aside0.mk (hbox); have n14_ := Aside0.mk ((by rw [hg]; exact (below_size (by repeat (first | (with_reducible first | exact HB.out | apply below_alloc | apply pw_below_drewN | apply below_drew1 | refine below_set ?_ GE104.out) | exact HB.out))) : w.heap.size ≤ gb119)); have n15_ := Aside0.mk ((by rw [hg]; exact (below_size (by repeat (first | (with_reducible first | exact HB.out | apply below_alloc | apply pw_below_drewN | apply below_drew1 | refine below_set ?_ GE104.out) | exact HB.out))) : w.heap.size ≤ gb119)); have n16_ := Aside0.mk ((by rw [hg]; exact Nat.ne_of_lt (blk_lt (g := gb104) (o := .cells #[u105000, .int .i64 x105001_2, .int .i64 x105002_2, u105003] 38 (0, 0)) (by (with_reducible repeat (first | refine blk_drewN ?_ _ | refine blk_drew ?_ | refine blk_alloc ?_ _)); exact BK104.out)) : gb104 ≠ gb119)); have n17_ := Aside0.mk ((by rw [hg]; exact Nat.ne_of_gt (blk_lt (g := gb104) (o := .cells #[u105000, .int .i64 x105001_2, .int .i64 x105002_2, u105003] 38 (0, 0)) (by (with_reducible repeat (first | refine blk_drewN ?_ _ | refine blk_drew ?_ | refine blk_alloc ?_ _)); exact BK104.out)) : gb119 ≠ gb104)); clear HO_8; clear HO_105000; clear HO_105003; clear HL115_0; clear HL115_3; clear HL117_0; clear HL117_3; clear BK104; clear HR115_0; clear HR115_3; clear HR117_0; clear HR117_3; clear HB; have HO_8 := n0_; have HO_105000 := n1_; have HO_105003 := n2_; have HL115_0 := n3_; have HL115_3 := n4_; have HL117_0 := n5_; have HL117_3 := n6_; have BK104 := n7_; have HR115_0 := n8_; have HR115_3 := n9_; have HR117_0 := n10_; have HR117_3 := n11_; have HB := n12_; have BK119 := n13_; have GW119 := n14_; have GE119 := n15_; have NB104_119 := n16_; have NB119_104 := n17_; clear n0_ n1_ n2_ n3_ n4_ n5_ n6_ n7_ n8_ n9_ n10_ n11_ n12_ n13_ n14_ n15_ n16_ n17_; clear hb hbox hg; have hnb108 := NB119_104.out; have hnc108 := NB104_119.out; have hcz109_0 : w107.cell? ⟨gb119, 0, none⟩ = some (.int .i64 0) := (blk_cell BK119.out 0).trans rfl; have hcz109_1 : w107.cell? ⟨gb119, 1, none⟩ = some (.int .i64 0) := (blk_cell BK119.out 1).trans rfl; have hfz109_0 := blk_frozen BK119.out 0; have hfz109_1 := blk_frozen BK119.out 1))
       have n0_ : Aside0 (Kd.V k38 38 ((w107.setCell ⟨gb119, 0, none⟩ (.int .i64 ((rd_T36 ((rd_T38 l3 x11_2).f0) x13_4).f0))).setCell ⟨gb119, 1, none⟩ (.int .i64 ((rd_T36 ((rd_T38 l3 x11_2).f0) x13_4).f1))) w.heap.size (fun k_ => ((k_ < w.heap.size) ∨ w.heap.size ≤ k_) ∧ k_ ≠ gb104 ∧ k_ ≠ gb119) (.slice (some ad105) l3.length c3) l3) := ⟨by (with_reducible repeat (first | apply Kd.V_alloc | apply Kd.V_drewN | apply Kd.V_drew)); exact Kd.V_mono (Kd.V_far (p := ⟨gb119, 1, none⟩) (Kd.V_far (p := ⟨gb119, 0, none⟩) (Kd.V_mono HO_8.out (fun k_ hk => (⟨hk, hk.2⟩ : _ ∧ k_ ≠ gb119))) (fun _ hk => hk.2) (.int .i64 ((rd_T36 ((rd_T38 l3 x11_2).f0) x13_4).f0))) (fun _ hk => hk.2) (.int .i64 ((rd_T36 ((rd_T38 l3 x11_2).f0) x13_4).f1))) (fun _ hk => ⟨hk.1.1.1, ⟨hk.1.1.2, hk.1.2⟩⟩)⟩
       have n1_ : Aside0 (Kd.V k36 36 ((w107.setCell ⟨gb119, 0, none⟩ (.int .i64 ((rd_T36 ((rd_T38 l3 x11_2).f0) x13_4).f0))).setCell ⟨gb119, 1, none⟩ (.int .i64 ((rd_T36 ((rd_T38 l3 x11_2).f0) x13_4).f1))) w.heap.size (fun k_ => ((k_ < w.heap.size) ∨ w.heap.size ≤ k_) ∧ k_ ≠ gb104 ∧ k_ ≠ gb119) u105000 x105000_2) := ⟨by (with_reducible repeat (first | apply Kd.V_alloc | apply Kd.V_drewN | apply Kd.V_drew)); exact Kd.V_mono (Kd.V_far (p := ⟨gb119, 1, none⟩) (Kd.V_far (p := ⟨gb119, 0, none⟩) (Kd.V_mono HO_105000.out (fun k_ hk => (⟨hk, hk.2⟩ : _ ∧ k_ ≠ gb119))) (fun _ hk => hk.2) (.int .i64 ((rd_T36 ((rd_T38 l3 x11_2).f0) x13_4).f0))) (fun _ hk => hk.2) (.int .i64 ((rd_T36 ((rd_T38 l3 x11_2).f0) x13_4).f1))) (fun _ hk => ⟨hk.1.1.1, ⟨hk.1.1.2, hk.1.2⟩⟩)⟩
       have n2_ : Aside0 (Kd.V k41 41 ((w107.setCell ⟨gb119, 0, none⟩ (.int .i64 ((rd_T36 ((rd_T38 l3 x11_2).f0) x13_4).f0))).setCell ⟨gb119, 1, none⟩ (.int .i64 ((rd_T36 ((rd_T38 l3 x11_2).f0) x13_4).f1))) w.heap.size (fun k_ => ((k_ < w.heap.size) ∨ w.heap.size ≤ k_) ∧ k_ ≠ gb104 ∧ k_ ≠ gb119) u105003 x105003_2) := ⟨by (with_reducible repeat (first | apply Kd.V_alloc | apply Kd.V_drewN | apply Kd.V_drew)); exact Kd.V_mono (Kd.V_far (p := ⟨gb119, 1, none⟩) (Kd.V_far (p := ⟨gb119, 0, none⟩) (Kd.V_mono HO_105003.out (fun k_ hk => (⟨hk, hk.2⟩ : _ ∧ k_ ≠ gb119))) (fun _ hk => hk.2) (.int .i64 ((rd_T36 ((rd_T38 l3 x11_2).f0) x13_4).f0))) (fun _ hk => hk.2) (.int .i64 ((rd_T36 ((rd_T38 l3 x11_2).f0) x13_4).f1))) (fun _ hk => ⟨hk.1.1.1, ⟨hk.1.1.2, hk.1.2⟩⟩)⟩
       have n3_ : Aside0 (Kd.V k36 36 ((w107.setCell ⟨gb119, 0, none⟩ (.int .i64 ((rd_T36 ((rd_T38 l3 x11_2).f0) x13_4).f0))).setCell ⟨gb119, 1, none⟩ (.int .i64 ((rd_T36 ((rd_T38 l3 x11_2).f0) x13_4).f1))) w.heap.size (fun k_ => ((k_ < w.heap.size) ∨ w.heap.size ≤ k_) ∧ k_ ≠ gb104 ∧ k_ ≠ gb119) (.slice (some ad118) ((rd_T38 l3 x11_2).f0).length c115_0) ((rd_T38 l3 x11_2).f0)) := ⟨by (with_reducible repeat (first | apply Kd.V_alloc | apply Kd.V_drewN | apply Kd.V_drew)); exact Kd.V_mono (Kd.V_far (p := ⟨gb119, 1, none⟩) (Kd.V_far (p := ⟨gb119, 0, none⟩) (Kd.V_mono HL115_0.out (fun k_ hk => (⟨hk, hk.2⟩ : _ ∧ k_ ≠ gb119))) (fun _ hk => hk.2) (.int .i64 ((rd_T36 ((rd_T38 l3 x11_2).f0) x13_4).f0))) (fun _ hk => hk.2) (.int .i64 ((rd_T36 ((rd_T38 l3 x11_2).f0) x13_4).f1))) (fun _ hk => ⟨hk.1.1.1, ⟨hk.1.1.2, hk.1.2⟩⟩)⟩
       have n4_ : Aside0 (Kd.V k41 41 ((w107.setCell ⟨gb119, 0, none⟩ (.int .i64 ((rd_T36 ((rd_T38 l3 x11_2).f0) x13_4).f0))).setCell ⟨gb119, 1, none⟩ (.int .i64 ((rd_T36 ((rd_T38 l3 x11_2).f0) x13_4).f1))) w.heap.size (fun k_ => ((k_ < w.heap.size) ∨ w.heap.size ≤ k_) ∧ k_ ≠ gb104 ∧ k_ ≠ gb119) (.slice A115_3 ((rd_T38 l3 x11_2).f2).length c115_3) ((rd_T38 l3 x11_2).f2)) := ⟨by (with_reducible repeat (first | apply Kd.V_alloc | apply Kd.V_drewN | apply Kd.V_drew)); exact Kd.V_mono (Kd.V_far (p := ⟨gb119, 1, none⟩) (Kd.V_far (p := ⟨gb119, 0, none⟩) (Kd.V_mono HL115_3.out (fun k_ hk => (⟨hk, hk.2⟩ : _ ∧ k_ ≠ gb119))) (fun _ hk => hk.2) (.int .i64 ((rd_T36 ((rd_T38 l3 x11_2).f0) x13_4).f0))) (fun _ hk => hk.2) (.int .i64 ((rd_T36 ((rd_T38 l3 x11_2).f0) x13_4).f1))) (fun _ hk => ⟨hk.1.1.1, ⟨hk.1.1.2, hk.1.2⟩⟩)⟩
       have n5_ : Aside0 (Kd.V k36 36 ((w107.setCell ⟨gb119, 0, none⟩ (.int .i64 ((rd_T36 ((rd_T38 l3 x11_2).f0) x13_4).f0))).setCell ⟨gb119, 1, none⟩ (.int .i64 ((rd_T36 ((rd_T38 l3 x11_2).f0) x13_4).f1))) w.heap.size (fun k_ => ((k_ < w.heap.size) ∨ w.heap.size ≤ k_) ∧ k_ ≠ gb104 ∧ k_ ≠ gb119) (.slice (some ad118) ((rd_T38 l3 x11_2).f0).length c115_0) ((rd_T38 l3 x11_2).f0)) := ⟨by (with_reducible repeat (first | apply Kd.V_alloc | apply Kd.V_drewN | apply Kd.V_drew)); exact Kd.V_mono (Kd.V_far (p := ⟨gb119, 1, none⟩) (Kd.V_far (p := ⟨gb119, 0, none⟩) (Kd.V_mono HL117_0.out (fun k_ hk => (⟨hk, hk.2⟩ : _ ∧ k_ ≠ gb119))) (fun _ hk => hk.2) (.int .i64 ((rd_T36 ((rd_T38 l3 x11_2).f0) x13_4).f0))) (fun _ hk => hk.2) (.int .i64 ((rd_T36 ((rd_T38 l3 x11_2).f0) x13_4).f1))) (fun _ hk => ⟨hk.1.1.1, ⟨hk.1.1.2, hk.1.2⟩⟩)⟩
       have n6_ : Aside0 (Kd.V k41 41 ((w107.setCell ⟨gb119, 0, none⟩ (.int .i64 ((rd_T36 ((rd_T38 l3 x11_2).f0) x13_4).f0))).setCell ⟨gb119, 1, none⟩ (.int .i64 ((rd_T36 ((rd_T38 l3 x11_2).f0) x13_4).f1))) w.heap.size (fun k_ => ((k_ < w.heap.size) ∨ w.heap.size ≤ k_) ∧ k_ ≠ gb104 ∧ k_ ≠ gb119) (.slice A115_3 ((rd_T38 l3 x11_2).f2).length c115_3) ((rd_T38 l3 x11_2).f2)) := ⟨by (with_reducible repeat (first | apply Kd.V_alloc | apply Kd.V_drewN | apply Kd.V_drew)); exact Kd.V_mono (Kd.V_far (p := ⟨gb119, 1, none⟩) (Kd.V_far (p := ⟨gb119, 0, none⟩) (Kd.V_mono HL117_3.out (fun k_ hk => (⟨hk, hk.2⟩ : _ ∧ k_ ≠ gb119))) (fun _ hk => hk.2) (.int .i64 ((rd_T36 ((rd_T38 l3 x11_2).f0) x13_4).f0))) (fun _ hk => hk.2) (.int .i64 ((rd_T36 ((rd_T38 l3 x11_2).f0) x13_4).f1))) (fun _ hk => ⟨hk.1.1.1, ⟨hk.1.1.2, hk.1.2⟩⟩)⟩
       have n7_ : Aside0 (((w107.setCell ⟨gb119, 0, none⟩ (.int .i64 ((rd_T36 ((rd_T38 l3 x11_2).f0) x13_4).f0))).setCell ⟨gb119, 1, none⟩ (.int .i64 ((rd_T36 ((rd_T38 l3 x11_2).f0) x13_4).f1))).heap[gb104]? = some (.cells #[u105000, .int .i64 x105001_2, .int .i64 x105002_2, u105003] 38 (0, 0))) := ⟨by (with_reducible repeat (first | refine blk_drewN ?_ _ | refine blk_drew ?_ | refine blk_alloc ?_ _)); refine blk_far ?_ NB104_119.out _; (with_reducible repeat (first | refine blk_drewN ?_ _ | refine blk_drew ?_ | refine blk_alloc ?_ _)); refine blk_far ?_ NB104_119.out _; (with_reducible repeat (first | refine blk_drewN ?_ _ | refine blk_drew ?_ | refine blk_alloc ?_ _)); exact BK104.out⟩
       have n8_ : Aside0 (((w107.setCell ⟨gb119, 0, none⟩ (.int .i64 ((rd_T36 ((rd_T38 l3 x11_2).f0) x13_4).f0))).setCell ⟨gb119, 1, none⟩ (.int .i64 ((rd_T36 ((rd_T38 l3 x11_2).f0) x13_4).f1))).heap[gb119]? = some (.cells #[.int .i64 ((rd_T36 ((rd_T38 l3 x11_2).f0) x13_4).f0), .int .i64 ((rd_T36 ((rd_T38 l3 x11_2).f0) x13_4).f1)] 36 (0, 0))) := ⟨by (with_reducible repeat (first | refine blk_drewN ?_ _ | refine blk_drew ?_ | refine blk_alloc ?_ _)); refine blk_put (cs := #[.int .i64 ((rd_T36 ((rd_T38 l3 x11_2).f0) x13_4).f0), .int .i64 0]) ?_ 1 _ rfl; (with_reducible repeat (first | refine blk_drewN ?_ _ | refine blk_drew ?_ | refine blk_alloc ?_ _)); refine blk_put (cs := #[.int .i64 0, .int .i64 0]) ?_ 0 _ rfl; (with_reducible repeat (first | refine blk_drewN ?_ _ | refine blk_drew ?_ | refine blk_alloc ?_ _)); exact BK119.out⟩
       have n9_ : Aside0 (Below w.heap.size w ((w107.setCell ⟨gb119, 0, none⟩ (.int .i64 ((rd_T36 ((rd_T38 l3 x11_2).f0) x13_4).f0))).setCell ⟨gb119, 1, none⟩ (.int .i64 ((rd_T36 ((rd_T38 l3 x11_2).f0) x13_4).f1)))) := ⟨by repeat (first | (with_reducible first | exact HB.out | apply below_alloc | apply pw_below_drewN | apply below_drew1 | refine below_set ?_ GE104.out | refine below_set ?_ GE119.out) | exact HB.out)⟩
       (try clear HO_8)
       (try clear HO_105000)
       (try clear HO_105003)
       (try clear HL115_0)
       (try clear HL115_3)
       (try clear HL117_0)
       (try clear HL117_3)
       (try clear BK104)
       (try clear BK119)
       (try clear HB)
       generalize ((w107.setCell ⟨gb119, 0, none⟩ (.int .i64 ((rd_T36 ((rd_T38 l3 x11_2).f0) x13_4).f0))).setCell ⟨gb119, 1, none⟩ (.int .i64 ((rd_T36 ((rd_T38 l3 x11_2).f0) x13_4).f1))) = w110 at n0_ n1_ n2_ n3_ n4_ n5_ n6_ n7_ n8_ n9_ ⊢
       have HO_8 := n0_
       have HO_105000 := n1_
       have HO_105003 := n2_
       have HL115_0 := n3_
       have HL115_3 := n4_
       have HL117_0 := n5_
       have HL117_3 := n6_
       have BK104 := n7_
       have BK119 := n8_
       have HB := n9_
       clear n0_ n1_ n2_ n3_ n4_ n5_ n6_ n7_ n8_ n9_
       have n0_ := Aside0.mk (Kd.V_drew HO_8.out)
       have n1_ := Aside0.mk (Kd.V_drew HO_105000.out)
       have n2_ := Aside0.mk (Kd.V_drew HO_105003.out)
       have n3_ := Aside0.mk (Kd.V_drew HL115_0.out)
       have n4_ := Aside0.mk (Kd.V_drew HL115_3.out)
       have n5_ := Aside0.mk (Kd.V_drew HL117_0.out)
       have n6_ := Aside0.mk (Kd.V_drew HL117_3.out)
       have n7_ := Aside0.mk (blk_drew BK104.out)
       have n8_ := Aside0.mk (blk_drew BK119.out)
       have n9_ := Aside0.mk (below_drew1 HB.out)
       clear HO_8; clear HO_105000; clear HO_105003; clear HL115_0; clear HL115_3; clear HL117_0; clear HL117_3; clear BK104; clear BK119; clear HB
       have HO_8 := n0_
       have HO_105000 := n1_
       have HO_105003 := n2_
       have HL115_0 := n3_
       have HL115_3 := n4_
       have HL117_0 := n5_
       have HL117_3 := n6_
       have BK104 := n7_
       have BK119 := n8_
       have HB := n9_
       clear n0_ n1_ n2_ n3_ n4_ n5_ n6_ n7_ n8_ n9_
       have p129 : 0 ≤ (x11_2 : Int) := of_decide_eq_true (by first | (with_reducible assumption) | assumption)
       have q129 : x11_2 < (l3.length : Int) := of_decide_eq_true (by first | (with_reducible assumption) | assumption)
       obtain ⟨ad129, A129_0, c129_0, A129_3, c129_3, e129, hx129_0, hx129_1, hx129_2, hx129_3, hl129_0, hi129_0, hl129_3, hi129_3⟩ := at_T38 (Kd.V_reads' HO_8.out).2.2 x11_2 p129 q129
       obtain rfl : ad105 = ad129 := (by injection e129)
       obtain ⟨ce129, hce129, hMe129, hcc129⟩ := Kd.V_get HO_8.out z38 x11_2 p129 (by first | exact q129 | exact of_decide_eq_true (by first | (with_reducible assumption) | assumption) | (have e_ := (Kd.V_reads' HO_8.out).1; omega))
       obtain ⟨ua129_0, uc129_0, ua129_3, uc129_3, rfl, ul129_0, ge129_0, ul129_3, ge129_3⟩ := k38_openF hMe129
       have hv129_0 := hcc129 0 _ rfl
       rw [Nat.add_zero] at hv129_0
       replace hv129_0 := Option.some.inj (hv129_0.symm.trans hx129_0)
       injection hv129_0 with hva_ hvn_ hvc_
       rw [hva_] at ge129_0
       rw [hvc_] at ul129_0
       have HL129_0 := Aside0.mk (show Kd.V k36 36 _ w.heap.size _ _ ((rd_T38 l3 x11_2).f0) from Kd.V_mk ul129_0 ge129_0)
       clear hva_ hvn_ hvc_ ge129_0 ul129_0
       have hv129_3 := hcc129 3 _ rfl
       rw [add_field _ _ 3 (by omega)] at hv129_3
       replace hv129_3 := Option.some.inj (hv129_3.symm.trans hx129_3)
       injection hv129_3 with hva_ hvn_ hvc_
       rw [hva_] at ge129_3
       rw [hvc_] at ul129_3
       have HL129_3 := Aside0.mk (show Kd.V k41 41 _ w.heap.size _ _ ((rd_T38 l3 x11_2).f2) from Kd.V_mk ul129_3 ge129_3)
       clear hva_ hvn_ hvc_ ge129_3 ul129_3; clear hcc129 hce129
       have HR129_0 := Aside0.mk hi129_0
       have HC129_0 := Aside0.mk hl129_0
       clear hi129_0 hl129_0
       have HR129_3 := Aside0.mk hi129_3
       have HC129_3 := Aside0.mk hl129_3
       clear hi129_3 hl129_3
       replace p129 := eq_true p129
       replace q129 := eq_true q129
       refine start_ (n := 32) (S := fun w' => w'.cell? ⟨gb119, 0, none⟩ = some (.int .i64 ((rd_T36 ((rd_T38 l3 x11_2).f0) x13_4).f0)) ∧ w'.cell? ⟨gb119, 1, none⟩ = some (.int .i64 ((rd_T36 ((rd_T38 l3 x11_2).f0) x13_4).f1)) ∧ w'.cell? (ad105.add ((x11_2).toNat * 4)) = some (.slice A129_0 ((rd_T38 l3 x11_2).f0).length c129_0) ∧ w'.cell? ⟨(ad105.add ((x11_2).toNat * 4)).block, (ad105.add ((x11_2).toNat * 4)).off + 1, none⟩ = some (.int .i64 ((rd_T38 l3 x11_2).f1.f0)) ∧ w'.cell? ⟨(ad105.add ((x11_2).toNat * 4)).block, (ad105.add ((x11_2).toNat * 4)).off + 2, none⟩ = some (.int .i64 ((rd_T38 l3 x11_2).f1.f1)) ∧ w'.cell? ⟨(ad105.add ((x11_2).toNat * 4)).block, (ad105.add ((x11_2).toNat * 4)).off + 3, none⟩ = some (.slice A129_3 ((rd_T38 l3 x11_2).f2).length c129_3)) (ds := []) #[F,F,F,F,F,F,F,F,F,F,F,F,F,F,F,F,F,F,F,F,F,F,F,F,F,F,F,F,F,F,F,F] (by kernel_rfl) rfl rfl ⟨(blk_cell BK119.out 0).trans rfl, (blk_cell BK119.out 1).trans rfl, hx129_0, hx129_1, hx129_2, hx129_3⟩ (fun hHeld => ?_); refine with_tabW sennitlaw21_HunkSpans.tab19 sennitlaw21_HunkSpans.bits19 (fun HT_ HW_ => ?_)
       generalize w110.drew = w111 at HO_8 HO_105000 HO_105003 HL115_0 HL115_3 HL117_0 HL117_3 BK104 BK119 HB HL129_0 HL129_3 HR129_0 HR129_3 hx129_0 hx129_1 hx129_2 hx129_3 hHeld ⊢
       refine pure_ (i := 0) (N := some 125) (v := ?_) (a' := ?_) #[T,F,F,F,F,F,F,F,F,F,F,F,F,F,F,F,F,F,F,F,F,F,F,F,F,F,F,F,F,F,F,F] rfl rfl (any_of HT_.out (by kernel_rfl)) (fun _ _ _ h => h) (Or.inl ⟨by rfl, ?_⟩) ?_ ?_; rotate_left; (intro w'; go_simp; with_reducible rfl); rotate_left; (simp only [Act.put, List.setIfInBounds_toArray, List.set_cons_zero, List.set_cons_succ, i64_w, i32_w]; rfl)
       refine pure_ (i := 2) (N := some 127) (v := ?_) (a' := ?_) #[T,F,T,F,F,F,F,F,F,F,F,F,F,F,F,F,F,F,F,F,F,F,F,F,F,F,F,F,F,F,F,F] rfl rfl (any_of HT_.out (by kernel_rfl)) (fun _ _ _ h => h) (Or.inl ⟨by rfl, ?_⟩) ?_ ?_; rotate_left; (intro w'; go_simp; with_reducible rfl); rotate_left; (simp only [Act.put, List.setIfInBounds_toArray, List.set_cons_zero, List.set_cons_succ, i64_w, i32_w]; rfl)
       refine take_ (i := 1) (N := some 126) (v := ?_) (a' := ?_) #[T,T,T,F,F,F,F,F,F,F,F,F,F,F,F,F,F,F,F,F,F,F,F,F,F,F,F,F,F,F,F,F] rfl rfl (take_ofW HT_.out HW_.out (by kernel_rfl)) (fun _ _ _ h => h) (Or.inl ⟨by rfl, ?_⟩) hHeld ?_ ?_; rotate_left; (rintro w' ⟨s0, s1, s2, s3, s4, s5⟩; go_simp; with_reducible rfl); rotate_left; (simp only [Act.put, List.setIfInBounds_toArray, List.set_cons_zero, List.set_cons_succ, i64_w, i32_w]; rfl)
       refine pure_ (i := 3) (N := some 128) (v := ?_) (a' := ?_) #[T,T,T,T,F,F,F,F,F,F,F,F,F,F,F,F,F,F,F,F,F,F,F,F,F,F,F,F,F,F,F,F] rfl rfl (any_of HT_.out (by kernel_rfl)) (fun _ _ _ h => h) (Or.inl ⟨by rfl, ?_⟩) ?_ ?_; rotate_left; (intro w'; go_simp; with_reducible rfl); rotate_left; (simp only [Act.put, List.setIfInBounds_toArray, List.set_cons_zero, List.set_cons_succ, i64_w, i32_w]; rfl)
       refine pure_ (i := 4) (N := some 129) (v := ?_) (a' := ?_) #[T,T,T,T,T,F,F,F,F,F,F,F,F,F,F,F,F,F,F,F,F,F,F,F,F,F,F,F,F,F,F,F] rfl rfl (any_of HT_.out (by kernel_rfl)) (fun _ _ _ h => h) (Or.inl ⟨by rfl, ?_⟩) ?_ ?_; rotate_left; (intro w'; go_simp; with_reducible rfl); rotate_left; (simp only [Act.put, List.setIfInBounds_toArray, List.set_cons_zero, List.set_cons_succ, i64_w, i32_w]; rfl)
       refine pure_ (i := 5) (N := some 130) (v := ?_) (a' := ?_) #[T,T,T,T,T,T,F,F,F,F,F,F,F,F,F,F,F,F,F,F,F,F,F,F,F,F,F,F,F,F,F,F] rfl rfl (any_of HT_.out (by kernel_rfl)) (fun _ _ _ h => h) (Or.inl ⟨by rfl, ?_⟩) ?_ ?_; rotate_left; (intro w'; go_simp; with_reducible rfl); rotate_left; (simp only [Act.put, List.setIfInBounds_toArray, List.set_cons_zero, List.set_cons_succ, i64_w, i32_w]; rfl)
       refine pure_ (i := 6) (N := some 131) (v := ?_) (a' := ?_) #[T,T,T,T,T,T,T,F,F,F,F,F,F,F,F,F,F,F,F,F,F,F,F,F,F,F,F,F,F,F,F,F] rfl rfl (any_of HT_.out (by kernel_rfl)) (fun _ _ _ h => h) (Or.inl ⟨by rfl, ?_⟩) ?_ ?_; rotate_left; (intro w'; go_simp; with_reducible rfl); rotate_left; (simp only [Act.put, List.setIfInBounds_toArray, List.set_cons_zero, List.set_cons_succ, i64_w, i32_w]; rfl)
       refine pure_ (i := 7) (N := some 132) (v := ?_) (a' := ?_) #[T,T,T,T,T,T,T,T,F,F,F,F,F,F,F,F,F,F,F,F,F,F,F,F,F,F,F,F,F,F,F,F] rfl rfl (any_of HT_.out (by kernel_rfl)) (fun _ _ _ h => h) (Or.inl ⟨by rfl, ?_⟩) ?_ ?_; rotate_left; (intro w'; go_simp; with_reducible rfl); rotate_left; (simp only [Act.put, List.setIfInBounds_toArray, List.set_cons_zero, List.set_cons_succ, i64_w, i32_w]; rfl)
       refine pure_ (i := 8) (N := some 133) (v := undef) (a' := ?_) #[T,T,T,T,T,T,T,T,T,F,F,F,F,F,F,F,F,F,F,F,F,F,F,F,F,F,F,F,F,F,F,F] rfl rfl (any_of HT_.out (by kernel_rfl)) (fun _ _ _ h => h) (Or.inr ⟨by rfl, rfl⟩) ?_ ?_
       rotate_left
       ·simp only [Act.put, List.setIfInBounds_toArray, List.set_cons_zero, List.set_cons_succ, i64_w, i32_w]
        rfl
       refine pure_ (i := 9) (N := some 134) (v := undef) (a' := ?_) #[T,T,T,T,T,T,T,T,T,T,F,F,F,F,F,F,F,F,F,F,F,F,F,F,F,F,F,F,F,F,F,F] rfl rfl (any_of HT_.out (by kernel_rfl)) (fun _ _ _ h => h) (Or.inr ⟨by rfl, rfl⟩) ?_ ?_
       rotate_left
       ·simp only [Act.put, List.setIfInBounds_toArray, List.set_cons_zero, List.set_cons_succ, i64_w, i32_w]
        rfl
       refine pure_ (i := 10) (N := some 135) (v := undef) (a' := ?_) #[T,T,T,T,T,T,T,T,T,T,T,F,F,F,F,F,F,F,F,F,F,F,F,F,F,F,F,F,F,F,F,F] rfl rfl (any_of HT_.out (by kernel_rfl)) (fun _ _ _ h => h) (Or.inr ⟨by rfl, rfl⟩) ?_ ?_
       rotate_left
       ·simp only [Act.put, List.setIfInBounds_toArray, List.set_cons_zero, List.set_cons_succ, i64_w, i32_w]
        rfl
       refine pure_ (i := 11) (N := some 136) (v := undef) (a' := ?_) #[T,T,T,T,T,T,T,T,T,T,T,T,F,F,F,F,F,F,F,F,F,F,F,F,F,F,F,F,F,F,F,F] rfl rfl (any_of HT_.out (by kernel_rfl)) (fun _ _ _ h => h) (Or.inr ⟨by rfl, rfl⟩) ?_ ?_
       rotate_left
       ·simp only [Act.put, List.setIfInBounds_toArray, List.set_cons_zero, List.set_cons_succ, i64_w, i32_w]
        rfl
       refine pure_ (i := 12) (N := some 137) (v := undef) (a' := ?_) #[T,T,T,T,T,T,T,T,T,T,T,T,T,F,F,F,F,F,F,F,F,F,F,F,F,F,F,F,F,F,F,F] rfl rfl (any_of HT_.out (by kernel_rfl)) (fun _ _ _ h => h) (Or.inr ⟨by rfl, rfl⟩) ?_ ?_
       rotate_left
       ·simp only [Act.put, List.setIfInBounds_toArray, List.set_cons_zero, List.set_cons_succ, i64_w, i32_w]
        rfl
       refine pure_ (i := 13) (N := some 138) (v := undef) (a' := ?_) #[T,T,T,T,T,T,T,T,T,T,T,T,T,T,F,F,F,F,F,F,F,F,F,F,F,F,F,F,F,F,F,F] rfl rfl (any_of HT_.out (by kernel_rfl)) (fun _ _ _ h => h) (Or.inr ⟨by rfl, rfl⟩) ?_ ?_
       rotate_left
       ·simp only [Act.put, List.setIfInBounds_toArray, List.set_cons_zero, List.set_cons_succ, i64_w, i32_w]
        rfl
       refine pure_ (i := 14) (N := some 139) (v := ?_) (a' := ?_) #[T,T,T,T,T,T,T,T,T,T,T,T,T,T,T,F,F,F,F,F,F,F,F,F,F,F,F,F,F,F,F,F] rfl rfl (any_of HT_.out (by kernel_rfl)) (fun _ _ _ h => h) (Or.inl ⟨by rfl, ?_⟩) ?_ ?_; rotate_left; (intro w'; go_simp; with_reducible rfl); rotate_left; (simp only [Act.put, List.setIfInBounds_toArray, List.set_cons_zero, List.set_cons_succ, i64_w, i32_w]; rfl)
       refine pure_ (i := 15) (N := some 140) (v := ?_) (a' := ?_) #[T,T,T,T,T,T,T,T,T,T,T,T,T,T,T,T,F,F,F,F,F,F,F,F,F,F,F,F,F,F,F,F] rfl rfl (any_of HT_.out (by kernel_rfl)) (fun _ _ _ h => h) (Or.inl ⟨by rfl, ?_⟩) ?_ ?_; rotate_left; (intro w'; go_simp; with_reducible rfl); rotate_left; (simp only [Act.put, List.setIfInBounds_toArray, List.set_cons_zero, List.set_cons_succ, i64_w, i32_w]; rfl)
       refine pure_ (i := 16) (N := some 141) (v := ?_) (a' := ?_) #[T,T,T,T,T,T,T,T,T,T,T,T,T,T,T,T,T,F,F,F,F,F,F,F,F,F,F,F,F,F,F,F] rfl rfl (any_of HT_.out (by kernel_rfl)) (fun _ _ _ h => h) (Or.inl ⟨by rfl, ?_⟩) ?_ ?_; rotate_left; (intro w'; go_simp; with_reducible rfl); rotate_left; (simp only [Act.put, List.setIfInBounds_toArray, List.set_cons_zero, List.set_cons_succ, i64_w, i32_w]; rfl)
       refine pure_ (i := 17) (N := some 142) (v := ?_) (a' := ?_) #[T,T,T,T,T,T,T,T,T,T,T,T,T,T,T,T,T,T,F,F,F,F,F,F,F,F,F,F,F,F,F,F] rfl rfl (any_of HT_.out (by kernel_rfl)) (fun _ _ _ h => h) (Or.inl ⟨by rfl, ?_⟩) ?_ ?_; rotate_left; (intro w'; go_simp; with_reducible rfl); rotate_left; (simp only [Act.put, List.setIfInBounds_toArray, List.set_cons_zero, List.set_cons_succ, i64_w, i32_w]; rfl)
       refine pure_ (i := 19) (N := some 144) (v := ?_) (a' := ?_) #[T,T,T,T,T,T,T,T,T,T,T,T,T,T,T,T,T,T,F,T,F,F,F,F,F,F,F,F,F,F,F,F] rfl rfl (any_of HT_.out (by kernel_rfl)) (fun _ _ _ h => h) (Or.inl ⟨by rfl, ?_⟩) ?_ ?_; rotate_left; (intro w'; go_simp; with_reducible rfl); rotate_left; (simp only [Act.put, List.setIfInBounds_toArray, List.set_cons_zero, List.set_cons_succ, i64_w, i32_w]; rfl)
       refine pure_ (i := 22) (N := some 147) (v := ?_) (a' := ?_) #[T,T,T,T,T,T,T,T,T,T,T,T,T,T,T,T,T,T,F,T,F,F,T,F,F,F,F,F,F,F,F,F] rfl rfl (any_of HT_.out (by kernel_rfl)) (fun _ _ _ h => h) (Or.inl ⟨by rfl, ?_⟩) ?_ ?_; rotate_left; (intro w'; go_simp; with_reducible rfl); rotate_left; (simp only [Act.put, List.setIfInBounds_toArray, List.set_cons_zero, List.set_cons_succ, i64_w, i32_w]; rfl)
       refine pure_ (i := 23) (N := some 148) (v := ?_) (a' := ?_) #[T,T,T,T,T,T,T,T,T,T,T,T,T,T,T,T,T,T,F,T,F,F,T,T,F,F,F,F,F,F,F,F] rfl rfl (any_of HT_.out (by kernel_rfl)) (fun _ _ _ h => h) (Or.inl ⟨by rfl, ?_⟩) ?_ ?_; rotate_left; (intro w'; go_simp; with_reducible rfl); rotate_left; (simp only [Act.put, List.setIfInBounds_toArray, List.set_cons_zero, List.set_cons_succ, i64_w, i32_w]; rfl)
       refine pure_ (i := 24) (N := some 149) (v := ?_) (a' := ?_) #[T,T,T,T,T,T,T,T,T,T,T,T,T,T,T,T,T,T,F,T,F,F,T,T,T,F,F,F,F,F,F,F] rfl rfl (any_of HT_.out (by kernel_rfl)) (fun _ _ _ h => h) (Or.inl ⟨by rfl, ?_⟩) ?_ ?_; rotate_left; (intro w'; go_simp; with_reducible rfl); rotate_left; (simp only [Act.put, List.setIfInBounds_toArray, List.set_cons_zero, List.set_cons_succ, i64_w, i32_w]; rfl)
       refine pure_ (i := 25) (N := some 150) (v := ?_) (a' := ?_) #[T,T,T,T,T,T,T,T,T,T,T,T,T,T,T,T,T,T,F,T,F,F,T,T,T,T,F,F,F,F,F,F] rfl rfl (any_of HT_.out (by kernel_rfl)) (fun _ _ _ h => h) (Or.inl ⟨by rfl, ?_⟩) ?_ ?_; rotate_left; (intro w'; go_simp; with_reducible rfl); rotate_left; (simp only [Act.put, List.setIfInBounds_toArray, List.set_cons_zero, List.set_cons_succ, i64_w, i32_w]; rfl)
       refine pure_ (i := 27) (N := some 152) (v := ?_) (a' := ?_) #[T,T,T,T,T,T,T,T,T,T,T,T,T,T,T,T,T,T,F,T,F,F,T,T,T,T,F,T,F,F,F,F] rfl rfl (any_of HT_.out (by kernel_rfl)) (fun _ _ _ h => h) (Or.inl ⟨by rfl, ?_⟩) ?_ ?_; rotate_left; (intro w'; go_simp; with_reducible rfl); rotate_left; (simp only [Act.put, List.setIfInBounds_toArray, List.set_cons_zero, List.set_cons_succ, i64_w, i32_w]; rfl)
       refine take_ (i := 18) (N := some 143) (v := ?_) (a' := ?_) #[T,T,T,T,T,T,T,T,T,T,T,T,T,T,T,T,T,T,T,T,F,F,T,T,T,T,F,T,F,F,F,F] rfl rfl (take_ofW HT_.out HW_.out (by kernel_rfl)) (fun _ _ _ h => h) (Or.inl ⟨by rfl, ?_⟩) hHeld ?_ ?_; rotate_left; (rintro w' ⟨s0, s1, s2, s3, s4, s5⟩; go_simp; with_reducible rfl); rotate_left; (simp only [Act.put, List.setIfInBounds_toArray, List.set_cons_zero, List.set_cons_succ, i64_w, i32_w]; rfl)
       refine take_ (i := 20) (N := some 145) (v := ?_) (a' := ?_) #[T,T,T,T,T,T,T,T,T,T,T,T,T,T,T,T,T,T,T,T,T,F,T,T,T,T,F,T,F,F,F,F] rfl rfl (take_ofW HT_.out HW_.out (by kernel_rfl)) (fun _ _ _ h => h) (Or.inl ⟨by rfl, ?_⟩) hHeld ?_ ?_; rotate_left; (rintro w' ⟨s0, s1, s2, s3, s4, s5⟩; go_simp; with_reducible rfl); rotate_left; (simp only [Act.put, List.setIfInBounds_toArray, List.set_cons_zero, List.set_cons_succ, i64_w, i32_w]; rfl)
       refine pure_ (i := 21) (N := some 146) (v := ?_) (a' := ?_) #[T,T,T,T,T,T,T,T,T,T,T,T,T,T,T,T,T,T,T,T,T,T,T,T,T,T,F,T,F,F,F,F] rfl rfl (any_of HT_.out (by kernel_rfl)) (fun _ _ _ h => h) (Or.inl ⟨by rfl, ?_⟩) ?_ ?_; rotate_left; (intro w'; go_simp; with_reducible rfl); rotate_left; (simp only [Act.put, List.setIfInBounds_toArray, List.set_cons_zero, List.set_cons_succ, i64_w, i32_w]; rfl)
       refine take_ (i := 26) (N := some 151) (v := ?_) (a' := ?_) #[T,T,T,T,T,T,T,T,T,T,T,T,T,T,T,T,T,T,T,T,T,T,T,T,T,T,T,T,F,F,F,F] rfl rfl (take_ofW HT_.out HW_.out (by kernel_rfl)) (fun _ _ _ h => h) (Or.inl ⟨by rfl, ?_⟩) hHeld ?_ ?_; rotate_left; (rintro w' ⟨s0, s1, s2, s3, s4, s5⟩; go_simp; with_reducible rfl); rotate_left; (simp only [Act.put, List.setIfInBounds_toArray, List.set_cons_zero, List.set_cons_succ, i64_w, i32_w]; rfl)
       refine one_ (i := 28) (N := some 153) #[T,T,T,T,T,T,T,T,T,T,T,T,T,T,T,T,T,T,T,T,T,T,T,T,T,T,T,T,T,F,F,F] rfl rfl (one_of HT_.out (by kernel_rfl)) (by decide) (fun K hK => ?_)
       refine goes_ Tryd.func23 (by kernel_rfl) rfl #[.slice A129_3 ((rd_T38 l3 x11_2).f2).length c129_3, .int .i64 x13_4] (by rfl) rfl rfl (by (try simp only [List.map_toArray, List.map_cons, List.map_nil]); first | done | rfl | (simp only [List.length_drop, List.length_take]; rfl)) ?_
       with_reducible refine (table_Column.calls _ _ ((rd_T38 l3 x11_2).f2) x13_4 t130 _ ?side1 ?side2 A105.out).mono ?_
       (case side1 => repeat (first | exact (by repeat (first | (with_reducible exact HR129_3.out) | (with_reducible refine Kd.C_alloc ?_ _) | (with_reducible refine Kd.C_drewN ?_ _) | (with_reducible refine Kd.C_drew ?_) | exact HR129_3.out)) | (with_reducible refine Kd.C_alloc ?_ _) | (with_reducible refine Kd.C_drewN ?_ _) | (with_reducible refine Kd.C_drew ?_)))
       (case side2 => exact HC129_3.out)
       rintro e w112 ⟨v131, rfl, ho0, hb⟩
       have HS2_ := (hb.cell (World.block_lt_of_cell? _ _ (hHeld.2.2.1))).trans (hHeld.2.2.1)
       have HS3_ := (hb.cell (World.block_lt_of_cell? _ _ (hHeld.2.2.2.1))).trans (hHeld.2.2.2.1)
       have HS4_ := (hb.cell (World.block_lt_of_cell? _ _ (hHeld.2.2.2.2.1))).trans (hHeld.2.2.2.2.1)
       have HS5_ := (hb.cell (World.block_lt_of_cell? _ _ (hHeld.2.2.2.2.2))).trans (hHeld.2.2.2.2.2)
       refine ⟨_, rfl, ?_⟩
       have n0_ := Aside0.mk (Kd.V_elder' (by (with_reducible repeat (first | apply Kd.V_alloc | apply Kd.V_drewN | apply Kd.V_drew)); exact HO_8.out) (Kd.R_base ho0) hb)
       have n1_ := Aside0.mk (Kd.V_elder' (by (with_reducible repeat (first | apply Kd.V_alloc | apply Kd.V_drewN | apply Kd.V_drew)); exact HO_105000.out) (Kd.R_base ho0) hb)
       have n2_ := Aside0.mk (Kd.V_elder' (by (with_reducible repeat (first | apply Kd.V_alloc | apply Kd.V_drewN | apply Kd.V_drew)); exact HO_105003.out) (Kd.R_base ho0) hb)
       have n3_ := Aside0.mk (Kd.V_elder' (by (with_reducible repeat (first | apply Kd.V_alloc | apply Kd.V_drewN | apply Kd.V_drew)); exact HL115_0.out) (Kd.R_base ho0) hb)
       have n4_ := Aside0.mk (Kd.V_elder' (by (with_reducible repeat (first | apply Kd.V_alloc | apply Kd.V_drewN | apply Kd.V_drew)); exact HL115_3.out) (Kd.R_base ho0) hb)
       have n5_ := Aside0.mk (Kd.V_elder' (by (with_reducible repeat (first | apply Kd.V_alloc | apply Kd.V_drewN | apply Kd.V_drew)); exact HL117_0.out) (Kd.R_base ho0) hb)
       have n6_ := Aside0.mk (Kd.V_elder' (by (with_reducible repeat (first | apply Kd.V_alloc | apply Kd.V_drewN | apply Kd.V_drew)); exact HL117_3.out) (Kd.R_base ho0) hb)
       have n7_ := Aside0.mk (Kd.V_elder' (by (with_reducible repeat (first | apply Kd.V_alloc | apply Kd.V_drewN | apply Kd.V_drew)); exact HL129_0.out) (Kd.R_base ho0) hb)
       have n8_ := Aside0.mk (Kd.V_elder' (by (with_reducible repeat (first | apply Kd.V_alloc | apply Kd.V_drewN | apply Kd.V_drew)); exact HL129_3.out) (Kd.R_base ho0) hb)
       have n9_ := Aside0.mk (Kd.R_lower (Kd.R_newM (M := fun k_ => (w.heap.size ≤ k_)) ho0 (below_size (by repeat (first | (with_reducible first | exact HB.out | apply below_alloc | apply pw_below_drewN | apply below_drew1 | refine below_set ?_ GE104.out | refine below_set ?_ GE119.out) | exact HB.out))) (fun k_ h_ => h_)) (below_size (by repeat (first | (with_reducible first | exact HB.out | apply below_alloc | apply pw_below_drewN | apply below_drew1 | refine below_set ?_ GE104.out | refine below_set ?_ GE119.out) | exact HB.out))))
       have n10_ := Aside0.mk (blk_below (g := gb104) (o := .cells #[u105000, .int .i64 x105001_2, .int .i64 x105002_2, u105003] 38 (0, 0)) (by (with_reducible repeat (first | refine blk_drewN ?_ _ | refine blk_drew ?_ | refine blk_alloc ?_ _)); exact BK104.out) hb)
       have n11_ := Aside0.mk (blk_below (g := gb119) (o := .cells #[.int .i64 ((rd_T36 ((rd_T38 l3 x11_2).f0) x13_4).f0), .int .i64 ((rd_T36 ((rd_T38 l3 x11_2).f0) x13_4).f1)] 36 (0, 0)) (by (with_reducible repeat (first | refine blk_drewN ?_ _ | refine blk_drew ?_ | refine blk_alloc ?_ _)); exact BK119.out) hb)
       have n12_ := Aside0.mk (Kd.C_below (by repeat (first | (with_reducible exact HR129_0.out) | (with_reducible refine Kd.C_alloc ?_ _) | (with_reducible refine Kd.C_drewN ?_ _) | (with_reducible refine Kd.C_drew ?_) | exact HR129_0.out)) hb)
       have n13_ := Aside0.mk (Kd.C_below (by repeat (first | (with_reducible exact HR129_3.out) | (with_reducible refine Kd.C_alloc ?_ _) | (with_reducible refine Kd.C_drewN ?_ _) | (with_reducible refine Kd.C_drew ?_) | exact HR129_3.out)) hb)
       have n14_ := Aside0.mk (below_step (by repeat (first | (with_reducible first | exact HB.out | apply below_alloc | apply pw_below_drewN | apply below_drew1 | refine below_set ?_ GE104.out | refine below_set ?_ GE119.out) | exact HB.out)) hb)
       clear HO_8; clear HO_105000; clear HO_105003; clear HL115_0; clear HL115_3; clear HL117_0; clear HL117_3; clear HL129_0; clear HL129_3; clear BK104; clear BK119; clear HR129_0; clear HR129_3; clear HB
       have HO_8 := n0_
       have HO_105000 := n1_
       have HO_105003 := n2_
       have HL115_0 := n3_
       have HL115_3 := n4_
       have HL117_0 := n5_
       have HL117_3 := n6_
       have HL129_0 := n7_
       have HL129_3 := n8_
       have HO132 := n9_
       have BK104 := n10_
       have BK119 := n11_
       have HR129_0 := n12_
       have HR129_3 := n13_
       have HB := n14_
       clear n0_ n1_ n2_ n3_ n4_ n5_ n6_ n7_ n8_ n9_ n10_ n11_ n12_ n13_ n14_
       (try clear hb)
       (try clear hb2)
       (try clear hk)
       (try clear hi)
       (try clear ho0)
       obtain ⟨Ao113, co113, eo113⟩ := Kd.R_slice HO132.out
       (first | subst eo113 | (injection eo113 with f1_ f2_ f3_; have f4_ := f1_.symm; have f5_ := f3_.symm; clear f1_ f2_ f3_; subst f4_; subst f5_))
       refine hK.out _ _ ⟨(blk_cell BK119.out 0).trans rfl, (blk_cell BK119.out 1).trans rfl, HS2_, HS3_, HS4_, HS5_⟩ (fun hHeld => ?_)
       clear hK K
       refine norm_ (a' := ?_) ?_ ?_
       rotate_left
       ·show Act.put _ (some 153) _ = _
        simp only [Act.put, List.setIfInBounds_toArray, List.set_cons_zero, List.set_cons_succ, i64_w, i32_w]
        rfl
       refine pure_ (i := 29) (N := some 154) (v := ?_) (a' := ?_) #[T,T,T,T,T,T,T,T,T,T,T,T,T,T,T,T,T,T,T,T,T,T,T,T,T,T,T,T,T,T,F,F] rfl rfl (any_of HT_.out (by kernel_rfl)) (fun _ _ _ h => h) (Or.inl ⟨by rfl, ?_⟩) ?_ ?_; rotate_left; (intro w'; go_simp; with_reducible rfl); rotate_left; (simp only [Act.put, List.setIfInBounds_toArray, List.set_cons_zero, List.set_cons_succ, i64_w, i32_w]; rfl)
       refine pure_ (i := 30) (N := some 155) (v := ?_) (a' := ?_) #[T,T,T,T,T,T,T,T,T,T,T,T,T,T,T,T,T,T,T,T,T,T,T,T,T,T,T,T,T,T,T,F] rfl rfl (any_of HT_.out (by kernel_rfl)) (fun _ _ _ h => h) (Or.inl ⟨by rfl, ?_⟩) ?_ ?_; rotate_left; (intro w'; go_simp; with_reducible rfl); rotate_left; (simp only [Act.put, List.setIfInBounds_toArray, List.set_cons_zero, List.set_cons_succ, i64_w, i32_w]; rfl)
       refine pure_ (i := 31) (N := some 156) (v := ?_) (a' := ?_) #[T,T,T,T,T,T,T,T,T,T,T,T,T,T,T,T,T,T,T,T,T,T,T,T,T,T,T,T,T,T,T,T] rfl rfl (any_of HT_.out (by kernel_rfl)) (fun _ _ _ h => h) (Or.inl ⟨by rfl, ?_⟩) ?_ ?_; rotate_left; (intro w'; go_simp; with_reducible rfl); rotate_left; (simp only [Act.put, List.setIfInBounds_toArray, List.set_cons_zero, List.set_cons_succ, i64_w, i32_w]; rfl)
       refine done_ (done_of HT_.out (by kernel_rfl)) ?_
       try go_wp2
       go_roundg k4
       case measure => have := HJ5.out; have := HK2.out; have := HJ16.out; have := HK4.out; omega
       case rel => exact ⟨(wrap64 (x13_4 + 1)), (by first | rfl | (simp; done) | (simp [*]; done)), H', ⟨by have := HJ5.out; have := HK2.out; have := HJ16.out; have := HK4.out; omega⟩, ⟨by (with_reducible repeat (first | apply Kd.V_alloc | apply Kd.V_drewN | apply Kd.V_drew)); exact Kd.V_mono HO_8.out (fun _ hk => ⟨hk.1.1, hk.1.2.1⟩)⟩, ⟨by (with_reducible repeat (first | apply Kd.V_alloc | apply Kd.V_drewN | apply Kd.V_drew)); exact Kd.V_mono HO_105000.out (fun _ hk => ⟨hk.1.1, hk.1.2.1⟩)⟩, ⟨by (with_reducible repeat (first | apply Kd.V_alloc | apply Kd.V_drewN | apply Kd.V_drew)); exact Kd.V_mono HO_105003.out (fun _ hk => ⟨hk.1.1, hk.1.2.1⟩)⟩, ⟨by (with_reducible repeat (first | refine blk_drewN ?_ _ | refine blk_drew ?_ | refine blk_alloc ?_ _)); exact BK104.out⟩, ⟨by repeat (first | (with_reducible first | exact HB.out | apply below_alloc | apply pw_below_drewN | apply below_drew1 | refine below_set ?_ GE104.out | refine below_set ?_ GE119.out) | exact HB.out)⟩⟩
      replace c104 := Bool.eq_false_iff.mpr c104
      subst c104
      have H1 : (if (wrap64 (((rd_T36 ((rd_T38 l3 x11_2).f0) x13_4).f0) - 0)) = (wrap64 (((rd_T38 l3 x11_2).f1.f0) - x105002_2)) then ((table_Column.f ((rd_T38 l3 x11_2).f2) x13_4).bind fun t134 => (if (wrap64 (((rd_T36 ((rd_T38 l3 x11_2).f0) x13_4).f1) - ((rd_T36 ((rd_T38 l3 x11_2).f0) x13_4).f0))) = (t134.length : Int) then (sennitlaw21_HunkSpans.l1 k4 l0 false t101 l3 x11_2 (wrap64 (((rd_T38 l3 x11_2).f1.f0) - x105002_2)) (wrap64 (x13_4 + 1)) x105000_2 x105001_2 x105002_2 x105003_2) else (some false))) else (some false)) = some r := by rw [if_neg (show ¬ (false = true) by decide)] at H; exact H
      clear H
      have H := H1
      clear H1
      by_cases c121 : (wrap64 (((rd_T36 ((rd_T38 l3 x11_2).f0) x13_4).f0) - 0)) = (wrap64 (((rd_T38 l3 x11_2).f1.f0) - x105002_2))
      rotate_left
      ·rw [if_neg c121] at H
       have c121b0 : ((wrap64 (((rd_T36 ((rd_T38 l3 x11_2).f0) x13_4).f0) - 0)) == (wrap64 (((rd_T38 l3 x11_2).f1.f0) - x105002_2))) = false := beq_eq_false_iff_ne.mpr c121
       have c121b1 : ((wrap64 (((rd_T36 ((rd_T38 l3 x11_2).f0) x13_4).f0) - 0)) != (wrap64 (((rd_T38 l3 x11_2).f1.f0) - x105002_2))) = true := bne_iff_ne.mpr c121
       exact absurd ((Option.some.inj H).trans HRT.out) (by decide)
      rw [if_pos c121] at H
      have c121b0 : ((wrap64 (((rd_T36 ((rd_T38 l3 x11_2).f0) x13_4).f0) - 0)) == (wrap64 (((rd_T38 l3 x11_2).f1.f0) - x105002_2))) = true := beq_iff_eq.mpr c121
      have c121b1 : ((wrap64 (((rd_T36 ((rd_T38 l3 x11_2).f0) x13_4).f0) - 0)) != (wrap64 (((rd_T38 l3 x11_2).f1.f0) - x105002_2))) = false := bne_eq_false_iff_eq.mpr c121
      have c121b2 := c121b0
      have c121b3 := c121b1
      simp only [Int.sub_zero] at c121b2 c121b3
      clear c121
      replace H := Option.bind_eq_some_iff.mp H
      obtain ⟨t134, A1220, H⟩ := H
      replace H : (if (wrap64 (((rd_T36 ((rd_T38 l3 x11_2).f0) x13_4).f1) - ((rd_T36 ((rd_T38 l3 x11_2).f0) x13_4).f0))) = (t134.length : Int) then (sennitlaw21_HunkSpans.l1 k4 l0 false t101 l3 x11_2 (wrap64 (((rd_T38 l3 x11_2).f1.f0) - x105002_2)) (wrap64 (x13_4 + 1)) x105000_2 x105001_2 x105002_2 x105003_2) else (some false)) = some r := H
      have A122 := Aside0.mk A1220
      clear A1220
      by_cases c123 : (wrap64 (((rd_T36 ((rd_T38 l3 x11_2).f0) x13_4).f1) - ((rd_T36 ((rd_T38 l3 x11_2).f0) x13_4).f0))) = (t134.length : Int)
      rotate_left
      ·rw [if_neg c123] at H
       have c123b0 : ((wrap64 (((rd_T36 ((rd_T38 l3 x11_2).f0) x13_4).f1) - ((rd_T36 ((rd_T38 l3 x11_2).f0) x13_4).f0))) == (t134.length : Int)) = false := beq_eq_false_iff_ne.mpr c123
       have c123b1 : ((wrap64 (((rd_T36 ((rd_T38 l3 x11_2).f0) x13_4).f1) - ((rd_T36 ((rd_T38 l3 x11_2).f0) x13_4).f0))) != (t134.length : Int)) = true := bne_iff_ne.mpr c123
       exact absurd ((Option.some.inj H).trans HRT.out) (by decide)
      rw [if_pos c123] at H
      have c123b0 : ((wrap64 (((rd_T36 ((rd_T38 l3 x11_2).f0) x13_4).f1) - ((rd_T36 ((rd_T38 l3 x11_2).f0) x13_4).f0))) == (t134.length : Int)) = true := beq_iff_eq.mpr c123
      have c123b1 : ((wrap64 (((rd_T36 ((rd_T38 l3 x11_2).f0) x13_4).f1) - ((rd_T36 ((rd_T38 l3 x11_2).f0) x13_4).f0))) != (t134.length : Int)) = false := bne_eq_false_iff_eq.mpr c123
      clear c123
      have H' := Aside0.mk H
      clear H
      have p115 : 0 ≤ (x11_2 : Int) := of_decide_eq_true (by first | (with_reducible assumption) | assumption)
      have q115 : x11_2 < (l3.length : Int) := of_decide_eq_true (by first | (with_reducible assumption) | assumption)
      obtain ⟨ad115, A115_0, c115_0, A115_3, c115_3, e115, hx115_0, hx115_1, hx115_2, hx115_3, hl115_0, hi115_0, hl115_3, hi115_3⟩ := at_T38 (Kd.V_reads' HO_8.out).2.2 x11_2 p115 q115
      obtain rfl : ad105 = ad115 := (by injection e115)
      obtain ⟨ce115, hce115, hMe115, hcc115⟩ := Kd.V_get HO_8.out z38 x11_2 p115 (by first | exact q115 | exact of_decide_eq_true (by first | (with_reducible assumption) | assumption) | (have e_ := (Kd.V_reads' HO_8.out).1; omega))
      obtain ⟨ua115_0, uc115_0, ua115_3, uc115_3, rfl, ul115_0, ge115_0, ul115_3, ge115_3⟩ := k38_openF hMe115
      have hv115_0 := hcc115 0 _ rfl
      rw [Nat.add_zero] at hv115_0
      replace hv115_0 := Option.some.inj (hv115_0.symm.trans hx115_0)
      injection hv115_0 with hva_ hvn_ hvc_
      rw [hva_] at ge115_0
      rw [hvc_] at ul115_0
      have HL115_0 := Aside0.mk (show Kd.V k36 36 _ w.heap.size _ _ ((rd_T38 l3 x11_2).f0) from Kd.V_mk ul115_0 ge115_0)
      clear hva_ hvn_ hvc_ ge115_0 ul115_0
      have hv115_3 := hcc115 3 _ rfl
      rw [add_field _ _ 3 (by omega)] at hv115_3
      replace hv115_3 := Option.some.inj (hv115_3.symm.trans hx115_3)
      injection hv115_3 with hva_ hvn_ hvc_
      rw [hva_] at ge115_3
      rw [hvc_] at ul115_3
      have HL115_3 := Aside0.mk (show Kd.V k41 41 _ w.heap.size _ _ ((rd_T38 l3 x11_2).f2) from Kd.V_mk ul115_3 ge115_3)
      clear hva_ hvn_ hvc_ ge115_3 ul115_3; clear hcc115 hce115
      have HR115_0 := Aside0.mk hi115_0
      have HC115_0 := Aside0.mk hl115_0
      clear hi115_0 hl115_0
      have HR115_3 := Aside0.mk hi115_3
      have HC115_3 := Aside0.mk hl115_3
      clear hi115_3 hl115_3
      replace p115 := eq_true p115
      replace q115 := eq_true q115
      have p117 : 0 ≤ (x11_2 : Int) := of_decide_eq_true (by first | (with_reducible assumption) | assumption)
      have q117 : x11_2 < (l3.length : Int) := of_decide_eq_true (by first | (with_reducible assumption) | assumption)
      obtain ⟨ad117, A117_0, c117_0, A117_3, c117_3, e117, hx117_0, hx117_1, hx117_2, hx117_3, hl117_0, hi117_0, hl117_3, hi117_3⟩ := at_T38 (Kd.V_reads' HO_8.out).2.2 x11_2 p117 q117
      obtain rfl : ad105 = ad117 := (by injection e117)
      obtain ⟨ce117, hce117, hMe117, hcc117⟩ := Kd.V_get HO_8.out z38 x11_2 p117 (by first | exact q117 | exact of_decide_eq_true (by first | (with_reducible assumption) | assumption) | (have e_ := (Kd.V_reads' HO_8.out).1; omega))
      obtain ⟨ua117_0, uc117_0, ua117_3, uc117_3, rfl, ul117_0, ge117_0, ul117_3, ge117_3⟩ := k38_openF hMe117
      have hv117_0 := hcc117 0 _ rfl
      rw [Nat.add_zero] at hv117_0
      replace hv117_0 := Option.some.inj (hv117_0.symm.trans hx117_0)
      injection hv117_0 with hva_ hvn_ hvc_
      rw [hva_] at ge117_0
      rw [hvc_] at ul117_0
      have HL117_0 := Aside0.mk (show Kd.V k36 36 _ w.heap.size _ _ ((rd_T38 l3 x11_2).f0) from Kd.V_mk ul117_0 ge117_0)
      clear hva_ hvn_ hvc_ ge117_0 ul117_0
      have hv117_3 := hcc117 3 _ rfl
      rw [add_field _ _ 3 (by omega)] at hv117_3
      replace hv117_3 := Option.some.inj (hv117_3.symm.trans hx117_3)
      injection hv117_3 with hva_ hvn_ hvc_
      rw [hva_] at ge117_3
      rw [hvc_] at ul117_3
      have HL117_3 := Aside0.mk (show Kd.V k41 41 _ w.heap.size _ _ ((rd_T38 l3 x11_2).f2) from Kd.V_mk ul117_3 ge117_3)
      clear hva_ hvn_ hvc_ ge117_3 ul117_3; clear hcc117 hce117
      have HR117_0 := Aside0.mk hi117_0
      have HC117_0 := Aside0.mk hl117_0
      clear hi117_0 hl117_0
      have HR117_3 := Aside0.mk hi117_3
      have HC117_3 := Aside0.mk hl117_3
      clear hi117_3 hl117_3
      replace p117 := eq_true p117
      replace q117 := eq_true q117
      have ea_ := Option.some.inj (hx115_0.symm.trans hx117_0)
      injection ea_ with ea_ en_ ec_
      subst ea_
      subst ec_
      clear en_
      have ea_ := Option.some.inj (hx115_3.symm.trans hx117_3)
      injection ea_ with ea_ en_ ec_
      subst ea_
      subst ec_
      clear en_
      have p118 : 0 ≤ (x13_4 : Int) := of_decide_eq_true (by first | (with_reducible assumption) | assumption)
      have q118 : x13_4 < (((rd_T38 l3 x11_2).f0).length : Int) := of_decide_eq_true (by first | (with_reducible assumption) | assumption)
      obtain ⟨ad118, e118, hx118_0, hx118_1⟩ := at_T36 (by repeat (first | (with_reducible exact HR117_0.out) | (with_reducible refine Kd.C_alloc ?_ _) | (with_reducible refine Kd.C_drewN ?_ _) | (with_reducible refine Kd.C_drew ?_) | exact HR117_0.out)) x13_4 p118 q118
      cases e118
      replace p118 := eq_true p118
      replace q118 := eq_true q118
      try go_wp2_with (first | ((with_reducible refine gate_dst (N := 14) rfl ?_); (try (refine gate_guard (by rfl) ?_; dsimp only)); refine box_event ?hg (N := 14) ?hd (cs := #[.int .i64 0, .int .i64 0]) (t := 36) ?hr ?_; (case hd => rfl); (case hg => rfl); (case hr => first | (go_simp; done) | (go_simp; rfl)); intro gb119 hg w124 hbox hb; have n0_ := Aside0.mk (Kd.V_below (Kd.V_elderB (by (with_reducible repeat (first | apply Kd.V_alloc | apply Kd.V_drewN | apply Kd.V_drew)); exact HO_8.out) gb119 (Nat.le_of_eq hg.symm)) hb); have n1_ := Aside0.mk (Kd.V_below (Kd.V_elderB (by (with_reducible repeat (first | apply Kd.V_alloc | apply Kd.V_drewN | apply Kd.V_drew)); exact HO_105000.out) gb119 (Nat.le_of_eq hg.symm)) hb); have n2_ := Aside0.mk (Kd.V_below (Kd.V_elderB (by (with_reducible repeat (first | apply Kd.V_alloc | apply Kd.V_drewN | apply Kd.V_drew)); exact HO_105003.out) gb119 (Nat.le_of_eq hg.symm)) hb); have n3_ := Aside0.mk (Kd.V_below (Kd.V_elderB (by (with_reducible repeat (first | apply Kd.V_alloc | apply Kd.V_drewN | apply Kd.V_drew)); exact HL115_0.out) gb119 (Nat.le_of_eq hg.symm)) hb); have n4_ := Aside0.mk (Kd.V_below (Kd.V_elderB (by (with_reducible repeat (first | apply Kd.V_alloc | apply Kd.V_drewN | apply Kd.V_drew)); exact HL115_3.out) gb119 (Nat.le_of_eq hg.symm)) hb); have n5_ := Aside0.mk (Kd.V_below (Kd.V_elderB (by (with_reducible repeat (first | apply Kd.V_alloc | apply Kd.V_drewN | apply Kd.V_drew)); exact HL117_0.out) gb119 (Nat.le_of_eq hg.symm)) hb); have n6_ := Aside0.mk (Kd.V_below (Kd.V_elderB (by (with_reducible repeat (first | apply Kd.V_alloc | apply Kd.V_drewN | apply Kd.V_drew)); exact HL117_3.out) gb119 (Nat.le_of_eq hg.symm)) hb); have n7_ := Aside0.mk (blk_below (g := gb104) (o := .cells #[u105000, .int .i64 x105001_2, .int .i64 x105002_2, u105003] 38 (0, 0)) (by (with_reducible repeat (first | refine blk_drewN ?_ _ | refine blk_drew ?_ | refine blk_alloc ?_ _)); exact BK104.out) hb); have n8_ := Aside0.mk (Kd.C_below (by repeat (first | (with_reducible exact HR115_0.out) | (with_reducible refine Kd.C_alloc ?_ _) | (with_reducible refine Kd.C_drewN ?_ _) | (with_reducible refine Kd.C_drew ?_) | exact HR115_0.out)) hb); have n9_ := Aside0.mk (Kd.C_below (by repeat (first | (with_reducible exact HR115_3.out) | (with_reducible refine Kd.C_alloc ?_ _) | (with_reducible refine Kd.C_drewN ?_ _) | (with_reducible refine Kd.C_drew ?_) | exact HR115_3.out)) hb); have n10_ := Aside0.mk (Kd.C_below (by repeat (first | (with_reducible exact HR117_0.out) | (with_reducible refine Kd.C_alloc ?_ _) | (with_reducible refine Kd.C_drewN ?_ _) | (with_reducible refine Kd.C_drew ?_) | exact HR117_0.out)) hb); have n11_ := Aside0.mk (Kd.C_below (by repeat (first | (with_reducible exact HR117_3.out) | (with_reducible refine Kd.C_alloc ?_ _) | (with_reducible refine Kd.C_drewN ?_ _) | (with_reducible refine Kd.C_drew ?_) | exact HR117_3.out)) hb); have n12_ := Aside0.mk (below_step (by repeat (first | (with_reducible first | exact HB.out | apply below_alloc | apply pw_below_drewN | apply below_drew1 | refine below_set ?_ GE104.out) | exact HB.out)) hb); have n13_ := Aside0.mk (hbox); have n14_ := Aside0.mk ((by rw [hg]; exact (below_size (by repeat (first | (with_reducible first | exact HB.out | apply below_alloc | apply pw_below_drewN | apply below_drew1 | refine below_set ?_ GE104.out) | exact HB.out))) : w.heap.size ≤ gb119)); have n15_ := Aside0.mk ((by rw [hg]; exact (below_size (by repeat (first | (with_reducible first | exact HB.out | apply below_alloc | apply pw_below_drewN | apply below_drew1 | refine below_set ?_ GE104.out) | exact HB.out))) : w.heap.size ≤ gb119)); have n16_ := Aside0.mk ((by rw [hg]; exact Nat.ne_of_lt (blk_lt (g := gb104) (o := .cells #[u105000, .int .i64 x105001_2, .int .i64 x105002_2, u105003] 38 (0, 0)) (by (with_reducible repeat (first | refine blk_drewN ?_ _ | refine blk_drew ?_ | refine blk_alloc ?_ _)); exact BK104.out)) : gb104 ≠ gb119)); have n17_ := Aside0.mk ((by rw [hg]; exact Nat.ne_of_gt (blk_lt (g := gb104) (o := .cells #[u105000, .int .i64 x105001_2, .int .i64 x105002_2, u105003] 38 (0, 0)) (by (with_reducible repeat (first | refine blk_drewN ?_ _ | refine blk_drew ?_ | refine blk_alloc ?_ _)); exact BK104.out)) : gb119 ≠ gb104)); clear HO_8; clear HO_105000; clear HO_105003; clear HL115_0; clear HL115_3; clear HL117_0; clear HL117_3; clear BK104; clear HR115_0; clear HR115_3; clear HR117_0; clear HR117_3; clear HB; have HO_8 := n0_; have HO_105000 := n1_; have HO_105003 := n2_; have HL115_0 := n3_; have HL115_3 := n4_; have HL117_0 := n5_; have HL117_3 := n6_; have BK104 := n7_; have HR115_0 := n8_; have HR115_3 := n9_; have HR117_0 := n10_; have HR117_3 := n11_; have HB := n12_; have BK119 := n13_; have GW119 := n14_; have GE119 := n15_; have NB104_119 := n16_; have NB119_104 := n17_; clear n0_ n1_ n2_ n3_ n4_ n5_ n6_ n7_ n8_ n9_ n10_ n11_ n12_ n13_ n14_ n15_ n16_ n17_; clear hb hbox hg; have hnb125 := NB119_104.out; have hnc125 := NB104_119.out; have hcz126_0 : w124.cell? ⟨gb119, 0, none⟩ = some (.int .i64 0) := (blk_cell BK119.out 0).trans rfl; have hcz126_1 : w124.cell? ⟨gb119, 1, none⟩ = some (.int .i64 0) := (blk_cell BK119.out 1).trans rfl; have hfz126_0 := blk_frozen BK119.out 0; have hfz126_1 := blk_frozen BK119.out 1))
      have n0_ : Aside0 (Kd.V k38 38 ((w124.setCell ⟨gb119, 0, none⟩ (.int .i64 ((rd_T36 ((rd_T38 l3 x11_2).f0) x13_4).f0))).setCell ⟨gb119, 1, none⟩ (.int .i64 ((rd_T36 ((rd_T38 l3 x11_2).f0) x13_4).f1))) w.heap.size (fun k_ => ((k_ < w.heap.size) ∨ w.heap.size ≤ k_) ∧ k_ ≠ gb104 ∧ k_ ≠ gb119) (.slice (some ad105) l3.length c3) l3) := ⟨by (with_reducible repeat (first | apply Kd.V_alloc | apply Kd.V_drewN | apply Kd.V_drew)); exact Kd.V_mono (Kd.V_far (p := ⟨gb119, 1, none⟩) (Kd.V_far (p := ⟨gb119, 0, none⟩) (Kd.V_mono HO_8.out (fun k_ hk => (⟨hk, hk.2⟩ : _ ∧ k_ ≠ gb119))) (fun _ hk => hk.2) (.int .i64 ((rd_T36 ((rd_T38 l3 x11_2).f0) x13_4).f0))) (fun _ hk => hk.2) (.int .i64 ((rd_T36 ((rd_T38 l3 x11_2).f0) x13_4).f1))) (fun _ hk => ⟨hk.1.1.1, ⟨hk.1.1.2, hk.1.2⟩⟩)⟩
      have n1_ : Aside0 (Kd.V k36 36 ((w124.setCell ⟨gb119, 0, none⟩ (.int .i64 ((rd_T36 ((rd_T38 l3 x11_2).f0) x13_4).f0))).setCell ⟨gb119, 1, none⟩ (.int .i64 ((rd_T36 ((rd_T38 l3 x11_2).f0) x13_4).f1))) w.heap.size (fun k_ => ((k_ < w.heap.size) ∨ w.heap.size ≤ k_) ∧ k_ ≠ gb104 ∧ k_ ≠ gb119) u105000 x105000_2) := ⟨by (with_reducible repeat (first | apply Kd.V_alloc | apply Kd.V_drewN | apply Kd.V_drew)); exact Kd.V_mono (Kd.V_far (p := ⟨gb119, 1, none⟩) (Kd.V_far (p := ⟨gb119, 0, none⟩) (Kd.V_mono HO_105000.out (fun k_ hk => (⟨hk, hk.2⟩ : _ ∧ k_ ≠ gb119))) (fun _ hk => hk.2) (.int .i64 ((rd_T36 ((rd_T38 l3 x11_2).f0) x13_4).f0))) (fun _ hk => hk.2) (.int .i64 ((rd_T36 ((rd_T38 l3 x11_2).f0) x13_4).f1))) (fun _ hk => ⟨hk.1.1.1, ⟨hk.1.1.2, hk.1.2⟩⟩)⟩
      have n2_ : Aside0 (Kd.V k41 41 ((w124.setCell ⟨gb119, 0, none⟩ (.int .i64 ((rd_T36 ((rd_T38 l3 x11_2).f0) x13_4).f0))).setCell ⟨gb119, 1, none⟩ (.int .i64 ((rd_T36 ((rd_T38 l3 x11_2).f0) x13_4).f1))) w.heap.size (fun k_ => ((k_ < w.heap.size) ∨ w.heap.size ≤ k_) ∧ k_ ≠ gb104 ∧ k_ ≠ gb119) u105003 x105003_2) := ⟨by (with_reducible repeat (first | apply Kd.V_alloc | apply Kd.V_drewN | apply Kd.V_drew)); exact Kd.V_mono (Kd.V_far (p := ⟨gb119, 1, none⟩) (Kd.V_far (p := ⟨gb119, 0, none⟩) (Kd.V_mono HO_105003.out (fun k_ hk => (⟨hk, hk.2⟩ : _ ∧ k_ ≠ gb119))) (fun _ hk => hk.2) (.int .i64 ((rd_T36 ((rd_T38 l3 x11_2).f0) x13_4).f0))) (fun _ hk => hk.2) (.int .i64 ((rd_T36 ((rd_T38 l3 x11_2).f0) x13_4).f1))) (fun _ hk => ⟨hk.1.1.1, ⟨hk.1.1.2, hk.1.2⟩⟩)⟩
      have n3_ : Aside0 (Kd.V k36 36 ((w124.setCell ⟨gb119, 0, none⟩ (.int .i64 ((rd_T36 ((rd_T38 l3 x11_2).f0) x13_4).f0))).setCell ⟨gb119, 1, none⟩ (.int .i64 ((rd_T36 ((rd_T38 l3 x11_2).f0) x13_4).f1))) w.heap.size (fun k_ => ((k_ < w.heap.size) ∨ w.heap.size ≤ k_) ∧ k_ ≠ gb104 ∧ k_ ≠ gb119) (.slice (some ad118) ((rd_T38 l3 x11_2).f0).length c115_0) ((rd_T38 l3 x11_2).f0)) := ⟨by (with_reducible repeat (first | apply Kd.V_alloc | apply Kd.V_drewN | apply Kd.V_drew)); exact Kd.V_mono (Kd.V_far (p := ⟨gb119, 1, none⟩) (Kd.V_far (p := ⟨gb119, 0, none⟩) (Kd.V_mono HL115_0.out (fun k_ hk => (⟨hk, hk.2⟩ : _ ∧ k_ ≠ gb119))) (fun _ hk => hk.2) (.int .i64 ((rd_T36 ((rd_T38 l3 x11_2).f0) x13_4).f0))) (fun _ hk => hk.2) (.int .i64 ((rd_T36 ((rd_T38 l3 x11_2).f0) x13_4).f1))) (fun _ hk => ⟨hk.1.1.1, ⟨hk.1.1.2, hk.1.2⟩⟩)⟩
      have n4_ : Aside0 (Kd.V k41 41 ((w124.setCell ⟨gb119, 0, none⟩ (.int .i64 ((rd_T36 ((rd_T38 l3 x11_2).f0) x13_4).f0))).setCell ⟨gb119, 1, none⟩ (.int .i64 ((rd_T36 ((rd_T38 l3 x11_2).f0) x13_4).f1))) w.heap.size (fun k_ => ((k_ < w.heap.size) ∨ w.heap.size ≤ k_) ∧ k_ ≠ gb104 ∧ k_ ≠ gb119) (.slice A115_3 ((rd_T38 l3 x11_2).f2).length c115_3) ((rd_T38 l3 x11_2).f2)) := ⟨by (with_reducible repeat (first | apply Kd.V_alloc | apply Kd.V_drewN | apply Kd.V_drew)); exact Kd.V_mono (Kd.V_far (p := ⟨gb119, 1, none⟩) (Kd.V_far (p := ⟨gb119, 0, none⟩) (Kd.V_mono HL115_3.out (fun k_ hk => (⟨hk, hk.2⟩ : _ ∧ k_ ≠ gb119))) (fun _ hk => hk.2) (.int .i64 ((rd_T36 ((rd_T38 l3 x11_2).f0) x13_4).f0))) (fun _ hk => hk.2) (.int .i64 ((rd_T36 ((rd_T38 l3 x11_2).f0) x13_4).f1))) (fun _ hk => ⟨hk.1.1.1, ⟨hk.1.1.2, hk.1.2⟩⟩)⟩
      have n5_ : Aside0 (Kd.V k36 36 ((w124.setCell ⟨gb119, 0, none⟩ (.int .i64 ((rd_T36 ((rd_T38 l3 x11_2).f0) x13_4).f0))).setCell ⟨gb119, 1, none⟩ (.int .i64 ((rd_T36 ((rd_T38 l3 x11_2).f0) x13_4).f1))) w.heap.size (fun k_ => ((k_ < w.heap.size) ∨ w.heap.size ≤ k_) ∧ k_ ≠ gb104 ∧ k_ ≠ gb119) (.slice (some ad118) ((rd_T38 l3 x11_2).f0).length c115_0) ((rd_T38 l3 x11_2).f0)) := ⟨by (with_reducible repeat (first | apply Kd.V_alloc | apply Kd.V_drewN | apply Kd.V_drew)); exact Kd.V_mono (Kd.V_far (p := ⟨gb119, 1, none⟩) (Kd.V_far (p := ⟨gb119, 0, none⟩) (Kd.V_mono HL117_0.out (fun k_ hk => (⟨hk, hk.2⟩ : _ ∧ k_ ≠ gb119))) (fun _ hk => hk.2) (.int .i64 ((rd_T36 ((rd_T38 l3 x11_2).f0) x13_4).f0))) (fun _ hk => hk.2) (.int .i64 ((rd_T36 ((rd_T38 l3 x11_2).f0) x13_4).f1))) (fun _ hk => ⟨hk.1.1.1, ⟨hk.1.1.2, hk.1.2⟩⟩)⟩
      have n6_ : Aside0 (Kd.V k41 41 ((w124.setCell ⟨gb119, 0, none⟩ (.int .i64 ((rd_T36 ((rd_T38 l3 x11_2).f0) x13_4).f0))).setCell ⟨gb119, 1, none⟩ (.int .i64 ((rd_T36 ((rd_T38 l3 x11_2).f0) x13_4).f1))) w.heap.size (fun k_ => ((k_ < w.heap.size) ∨ w.heap.size ≤ k_) ∧ k_ ≠ gb104 ∧ k_ ≠ gb119) (.slice A115_3 ((rd_T38 l3 x11_2).f2).length c115_3) ((rd_T38 l3 x11_2).f2)) := ⟨by (with_reducible repeat (first | apply Kd.V_alloc | apply Kd.V_drewN | apply Kd.V_drew)); exact Kd.V_mono (Kd.V_far (p := ⟨gb119, 1, none⟩) (Kd.V_far (p := ⟨gb119, 0, none⟩) (Kd.V_mono HL117_3.out (fun k_ hk => (⟨hk, hk.2⟩ : _ ∧ k_ ≠ gb119))) (fun _ hk => hk.2) (.int .i64 ((rd_T36 ((rd_T38 l3 x11_2).f0) x13_4).f0))) (fun _ hk => hk.2) (.int .i64 ((rd_T36 ((rd_T38 l3 x11_2).f0) x13_4).f1))) (fun _ hk => ⟨hk.1.1.1, ⟨hk.1.1.2, hk.1.2⟩⟩)⟩
      have n7_ : Aside0 (((w124.setCell ⟨gb119, 0, none⟩ (.int .i64 ((rd_T36 ((rd_T38 l3 x11_2).f0) x13_4).f0))).setCell ⟨gb119, 1, none⟩ (.int .i64 ((rd_T36 ((rd_T38 l3 x11_2).f0) x13_4).f1))).heap[gb104]? = some (.cells #[u105000, .int .i64 x105001_2, .int .i64 x105002_2, u105003] 38 (0, 0))) := ⟨by (with_reducible repeat (first | refine blk_drewN ?_ _ | refine blk_drew ?_ | refine blk_alloc ?_ _)); refine blk_far ?_ NB104_119.out _; (with_reducible repeat (first | refine blk_drewN ?_ _ | refine blk_drew ?_ | refine blk_alloc ?_ _)); refine blk_far ?_ NB104_119.out _; (with_reducible repeat (first | refine blk_drewN ?_ _ | refine blk_drew ?_ | refine blk_alloc ?_ _)); exact BK104.out⟩
      have n8_ : Aside0 (((w124.setCell ⟨gb119, 0, none⟩ (.int .i64 ((rd_T36 ((rd_T38 l3 x11_2).f0) x13_4).f0))).setCell ⟨gb119, 1, none⟩ (.int .i64 ((rd_T36 ((rd_T38 l3 x11_2).f0) x13_4).f1))).heap[gb119]? = some (.cells #[.int .i64 ((rd_T36 ((rd_T38 l3 x11_2).f0) x13_4).f0), .int .i64 ((rd_T36 ((rd_T38 l3 x11_2).f0) x13_4).f1)] 36 (0, 0))) := ⟨by (with_reducible repeat (first | refine blk_drewN ?_ _ | refine blk_drew ?_ | refine blk_alloc ?_ _)); refine blk_put (cs := #[.int .i64 ((rd_T36 ((rd_T38 l3 x11_2).f0) x13_4).f0), .int .i64 0]) ?_ 1 _ rfl; (with_reducible repeat (first | refine blk_drewN ?_ _ | refine blk_drew ?_ | refine blk_alloc ?_ _)); refine blk_put (cs := #[.int .i64 0, .int .i64 0]) ?_ 0 _ rfl; (with_reducible repeat (first | refine blk_drewN ?_ _ | refine blk_drew ?_ | refine blk_alloc ?_ _)); exact BK119.out⟩
      have n9_ : Aside0 (Below w.heap.size w ((w124.setCell ⟨gb119, 0, none⟩ (.int .i64 ((rd_T36 ((rd_T38 l3 x11_2).f0) x13_4).f0))).setCell ⟨gb119, 1, none⟩ (.int .i64 ((rd_T36 ((rd_T38 l3 x11_2).f0) x13_4).f1)))) := ⟨by repeat (first | (with_reducible first | exact HB.out | apply below_alloc | apply pw_below_drewN | apply below_drew1 | refine below_set ?_ GE104.out | refine below_set ?_ GE119.out) | exact HB.out)⟩
      (try clear HO_8)
      (try clear HO_105000)
      (try clear HO_105003)
      (try clear HL115_0)
      (try clear HL115_3)
      (try clear HL117_0)
      (try clear HL117_3)
      (try clear BK104)
      (try clear BK119)
      (try clear HB)
      generalize ((w124.setCell ⟨gb119, 0, none⟩ (.int .i64 ((rd_T36 ((rd_T38 l3 x11_2).f0) x13_4).f0))).setCell ⟨gb119, 1, none⟩ (.int .i64 ((rd_T36 ((rd_T38 l3 x11_2).f0) x13_4).f1))) = w127 at n0_ n1_ n2_ n3_ n4_ n5_ n6_ n7_ n8_ n9_ ⊢
      have HO_8 := n0_
      have HO_105000 := n1_
      have HO_105003 := n2_
      have HL115_0 := n3_
      have HL115_3 := n4_
      have HL117_0 := n5_
      have HL117_3 := n6_
      have BK104 := n7_
      have BK119 := n8_
      have HB := n9_
      clear n0_ n1_ n2_ n3_ n4_ n5_ n6_ n7_ n8_ n9_
      have n0_ := Aside0.mk (Kd.V_drew HO_8.out)
      have n1_ := Aside0.mk (Kd.V_drew HO_105000.out)
      have n2_ := Aside0.mk (Kd.V_drew HO_105003.out)
      have n3_ := Aside0.mk (Kd.V_drew HL115_0.out)
      have n4_ := Aside0.mk (Kd.V_drew HL115_3.out)
      have n5_ := Aside0.mk (Kd.V_drew HL117_0.out)
      have n6_ := Aside0.mk (Kd.V_drew HL117_3.out)
      have n7_ := Aside0.mk (blk_drew BK104.out)
      have n8_ := Aside0.mk (blk_drew BK119.out)
      have n9_ := Aside0.mk (below_drew1 HB.out)
      clear HO_8; clear HO_105000; clear HO_105003; clear HL115_0; clear HL115_3; clear HL117_0; clear HL117_3; clear BK104; clear BK119; clear HB
      have HO_8 := n0_
      have HO_105000 := n1_
      have HO_105003 := n2_
      have HL115_0 := n3_
      have HL115_3 := n4_
      have HL117_0 := n5_
      have HL117_3 := n6_
      have BK104 := n7_
      have BK119 := n8_
      have HB := n9_
      clear n0_ n1_ n2_ n3_ n4_ n5_ n6_ n7_ n8_ n9_
      have p133 : 0 ≤ (x11_2 : Int) := of_decide_eq_true (by first | (with_reducible assumption) | assumption)
      have q133 : x11_2 < (l3.length : Int) := of_decide_eq_true (by first | (with_reducible assumption) | assumption)
      obtain ⟨ad133, A133_0, c133_0, A133_3, c133_3, e133, hx133_0, hx133_1, hx133_2, hx133_3, hl133_0, hi133_0, hl133_3, hi133_3⟩ := at_T38 (Kd.V_reads' HO_8.out).2.2 x11_2 p133 q133
      obtain rfl : ad105 = ad133 := (by injection e133)
      obtain ⟨ce133, hce133, hMe133, hcc133⟩ := Kd.V_get HO_8.out z38 x11_2 p133 (by first | exact q133 | exact of_decide_eq_true (by first | (with_reducible assumption) | assumption) | (have e_ := (Kd.V_reads' HO_8.out).1; omega))
      obtain ⟨ua133_0, uc133_0, ua133_3, uc133_3, rfl, ul133_0, ge133_0, ul133_3, ge133_3⟩ := k38_openF hMe133
      have hv133_0 := hcc133 0 _ rfl
      rw [Nat.add_zero] at hv133_0
      replace hv133_0 := Option.some.inj (hv133_0.symm.trans hx133_0)
      injection hv133_0 with hva_ hvn_ hvc_
      rw [hva_] at ge133_0
      rw [hvc_] at ul133_0
      have HL133_0 := Aside0.mk (show Kd.V k36 36 _ w.heap.size _ _ ((rd_T38 l3 x11_2).f0) from Kd.V_mk ul133_0 ge133_0)
      clear hva_ hvn_ hvc_ ge133_0 ul133_0
      have hv133_3 := hcc133 3 _ rfl
      rw [add_field _ _ 3 (by omega)] at hv133_3
      replace hv133_3 := Option.some.inj (hv133_3.symm.trans hx133_3)
      injection hv133_3 with hva_ hvn_ hvc_
      rw [hva_] at ge133_3
      rw [hvc_] at ul133_3
      have HL133_3 := Aside0.mk (show Kd.V k41 41 _ w.heap.size _ _ ((rd_T38 l3 x11_2).f2) from Kd.V_mk ul133_3 ge133_3)
      clear hva_ hvn_ hvc_ ge133_3 ul133_3; clear hcc133 hce133
      have HR133_0 := Aside0.mk hi133_0
      have HC133_0 := Aside0.mk hl133_0
      clear hi133_0 hl133_0
      have HR133_3 := Aside0.mk hi133_3
      have HC133_3 := Aside0.mk hl133_3
      clear hi133_3 hl133_3
      replace p133 := eq_true p133
      replace q133 := eq_true q133
      refine start_ (n := 32) (S := fun w' => w'.cell? ⟨gb119, 0, none⟩ = some (.int .i64 ((rd_T36 ((rd_T38 l3 x11_2).f0) x13_4).f0)) ∧ w'.cell? ⟨gb119, 1, none⟩ = some (.int .i64 ((rd_T36 ((rd_T38 l3 x11_2).f0) x13_4).f1)) ∧ w'.cell? (ad105.add ((x11_2).toNat * 4)) = some (.slice A133_0 ((rd_T38 l3 x11_2).f0).length c133_0) ∧ w'.cell? ⟨(ad105.add ((x11_2).toNat * 4)).block, (ad105.add ((x11_2).toNat * 4)).off + 1, none⟩ = some (.int .i64 ((rd_T38 l3 x11_2).f1.f0)) ∧ w'.cell? ⟨(ad105.add ((x11_2).toNat * 4)).block, (ad105.add ((x11_2).toNat * 4)).off + 2, none⟩ = some (.int .i64 ((rd_T38 l3 x11_2).f1.f1)) ∧ w'.cell? ⟨(ad105.add ((x11_2).toNat * 4)).block, (ad105.add ((x11_2).toNat * 4)).off + 3, none⟩ = some (.slice A133_3 ((rd_T38 l3 x11_2).f2).length c133_3)) (ds := []) #[F,F,F,F,F,F,F,F,F,F,F,F,F,F,F,F,F,F,F,F,F,F,F,F,F,F,F,F,F,F,F,F] (by kernel_rfl) rfl rfl ⟨(blk_cell BK119.out 0).trans rfl, (blk_cell BK119.out 1).trans rfl, hx133_0, hx133_1, hx133_2, hx133_3⟩ (fun hHeld => ?_); refine with_tabW sennitlaw21_HunkSpans.tab19 sennitlaw21_HunkSpans.bits19 (fun HT_ HW_ => ?_)
      generalize w127.drew = w128 at HO_8 HO_105000 HO_105003 HL115_0 HL115_3 HL117_0 HL117_3 BK104 BK119 HB HL133_0 HL133_3 HR133_0 HR133_3 hx133_0 hx133_1 hx133_2 hx133_3 hHeld ⊢
      refine pure_ (i := 0) (N := some 125) (v := ?_) (a' := ?_) #[T,F,F,F,F,F,F,F,F,F,F,F,F,F,F,F,F,F,F,F,F,F,F,F,F,F,F,F,F,F,F,F] rfl rfl (any_of HT_.out (by kernel_rfl)) (fun _ _ _ h => h) (Or.inl ⟨by rfl, ?_⟩) ?_ ?_; rotate_left; (intro w'; go_simp; with_reducible rfl); rotate_left; (simp only [Act.put, List.setIfInBounds_toArray, List.set_cons_zero, List.set_cons_succ, i64_w, i32_w]; rfl)
      refine pure_ (i := 2) (N := some 127) (v := ?_) (a' := ?_) #[T,F,T,F,F,F,F,F,F,F,F,F,F,F,F,F,F,F,F,F,F,F,F,F,F,F,F,F,F,F,F,F] rfl rfl (any_of HT_.out (by kernel_rfl)) (fun _ _ _ h => h) (Or.inl ⟨by rfl, ?_⟩) ?_ ?_; rotate_left; (intro w'; go_simp; with_reducible rfl); rotate_left; (simp only [Act.put, List.setIfInBounds_toArray, List.set_cons_zero, List.set_cons_succ, i64_w, i32_w]; rfl)
      refine take_ (i := 1) (N := some 126) (v := ?_) (a' := ?_) #[T,T,T,F,F,F,F,F,F,F,F,F,F,F,F,F,F,F,F,F,F,F,F,F,F,F,F,F,F,F,F,F] rfl rfl (take_ofW HT_.out HW_.out (by kernel_rfl)) (fun _ _ _ h => h) (Or.inl ⟨by rfl, ?_⟩) hHeld ?_ ?_; rotate_left; (rintro w' ⟨s0, s1, s2, s3, s4, s5⟩; go_simp; with_reducible rfl); rotate_left; (simp only [Act.put, List.setIfInBounds_toArray, List.set_cons_zero, List.set_cons_succ, i64_w, i32_w]; rfl)
      refine pure_ (i := 3) (N := some 128) (v := ?_) (a' := ?_) #[T,T,T,T,F,F,F,F,F,F,F,F,F,F,F,F,F,F,F,F,F,F,F,F,F,F,F,F,F,F,F,F] rfl rfl (any_of HT_.out (by kernel_rfl)) (fun _ _ _ h => h) (Or.inl ⟨by rfl, ?_⟩) ?_ ?_; rotate_left; (intro w'; go_simp; with_reducible rfl); rotate_left; (simp only [Act.put, List.setIfInBounds_toArray, List.set_cons_zero, List.set_cons_succ, i64_w, i32_w]; rfl)
      refine pure_ (i := 4) (N := some 129) (v := ?_) (a' := ?_) #[T,T,T,T,T,F,F,F,F,F,F,F,F,F,F,F,F,F,F,F,F,F,F,F,F,F,F,F,F,F,F,F] rfl rfl (any_of HT_.out (by kernel_rfl)) (fun _ _ _ h => h) (Or.inl ⟨by rfl, ?_⟩) ?_ ?_; rotate_left; (intro w'; go_simp; with_reducible rfl); rotate_left; (simp only [Act.put, List.setIfInBounds_toArray, List.set_cons_zero, List.set_cons_succ, i64_w, i32_w]; rfl)
      refine pure_ (i := 5) (N := some 130) (v := ?_) (a' := ?_) #[T,T,T,T,T,T,F,F,F,F,F,F,F,F,F,F,F,F,F,F,F,F,F,F,F,F,F,F,F,F,F,F] rfl rfl (any_of HT_.out (by kernel_rfl)) (fun _ _ _ h => h) (Or.inl ⟨by rfl, ?_⟩) ?_ ?_; rotate_left; (intro w'; go_simp; with_reducible rfl); rotate_left; (simp only [Act.put, List.setIfInBounds_toArray, List.set_cons_zero, List.set_cons_succ, i64_w, i32_w]; rfl)
      refine pure_ (i := 6) (N := some 131) (v := ?_) (a' := ?_) #[T,T,T,T,T,T,T,F,F,F,F,F,F,F,F,F,F,F,F,F,F,F,F,F,F,F,F,F,F,F,F,F] rfl rfl (any_of HT_.out (by kernel_rfl)) (fun _ _ _ h => h) (Or.inl ⟨by rfl, ?_⟩) ?_ ?_; rotate_left; (intro w'; go_simp; with_reducible rfl); rotate_left; (simp only [Act.put, List.setIfInBounds_toArray, List.set_cons_zero, List.set_cons_succ, i64_w, i32_w]; rfl)
      refine pure_ (i := 7) (N := some 132) (v := ?_) (a' := ?_) #[T,T,T,T,T,T,T,T,F,F,F,F,F,F,F,F,F,F,F,F,F,F,F,F,F,F,F,F,F,F,F,F] rfl rfl (any_of HT_.out (by kernel_rfl)) (fun _ _ _ h => h) (Or.inl ⟨by rfl, ?_⟩) ?_ ?_; rotate_left; (intro w'; go_simp; with_reducible rfl); rotate_left; (simp only [Act.put, List.setIfInBounds_toArray, List.set_cons_zero, List.set_cons_succ, i64_w, i32_w]; rfl)
      refine pure_ (i := 8) (N := some 133) (v := ?_) (a' := ?_) #[T,T,T,T,T,T,T,T,T,F,F,F,F,F,F,F,F,F,F,F,F,F,F,F,F,F,F,F,F,F,F,F] rfl rfl (any_of HT_.out (by kernel_rfl)) (fun _ _ _ h => h) (Or.inl ⟨by rfl, ?_⟩) ?_ ?_; rotate_left; (intro w'; go_simp; with_reducible rfl); rotate_left; (simp only [Act.put, List.setIfInBounds_toArray, List.set_cons_zero, List.set_cons_succ, i64_w, i32_w]; rfl)
      refine pure_ (i := 10) (N := some 135) (v := ?_) (a' := ?_) #[T,T,T,T,T,T,T,T,T,F,T,F,F,F,F,F,F,F,F,F,F,F,F,F,F,F,F,F,F,F,F,F] rfl rfl (any_of HT_.out (by kernel_rfl)) (fun _ _ _ h => h) (Or.inl ⟨by rfl, ?_⟩) ?_ ?_; rotate_left; (intro w'; go_simp; with_reducible rfl); rotate_left; (simp only [Act.put, List.setIfInBounds_toArray, List.set_cons_zero, List.set_cons_succ, i64_w, i32_w]; rfl)
      refine pure_ (i := 12) (N := some 137) (v := ?_) (a' := ?_) #[T,T,T,T,T,T,T,T,T,F,T,F,T,F,F,F,F,F,F,F,F,F,F,F,F,F,F,F,F,F,F,F] rfl rfl (any_of HT_.out (by kernel_rfl)) (fun _ _ _ h => h) (Or.inl ⟨by rfl, ?_⟩) ?_ ?_; rotate_left; (intro w'; go_simp; with_reducible rfl); rotate_left; (simp only [Act.put, List.setIfInBounds_toArray, List.set_cons_zero, List.set_cons_succ, i64_w, i32_w]; rfl)
      refine take_ (i := 9) (N := some 134) (v := ?_) (a' := ?_) #[T,T,T,T,T,T,T,T,T,T,T,F,T,F,F,F,F,F,F,F,F,F,F,F,F,F,F,F,F,F,F,F] rfl rfl (take_ofW HT_.out HW_.out (by kernel_rfl)) (fun _ _ _ h => h) (Or.inl ⟨by rfl, ?_⟩) hHeld ?_ ?_; rotate_left; (rintro w' ⟨s0, s1, s2, s3, s4, s5⟩; go_simp; with_reducible rfl); rotate_left; (simp only [Act.put, List.setIfInBounds_toArray, List.set_cons_zero, List.set_cons_succ, i64_w, i32_w]; rfl)
      refine pure_ (i := 11) (N := some 136) (v := ?_) (a' := ?_) #[T,T,T,T,T,T,T,T,T,T,T,T,T,F,F,F,F,F,F,F,F,F,F,F,F,F,F,F,F,F,F,F] rfl rfl (any_of HT_.out (by kernel_rfl)) (fun _ _ _ h => h) (Or.inl ⟨by rfl, ?_⟩) ?_ ?_; rotate_left; (intro w'; go_simp; with_reducible rfl); rotate_left; (simp only [Act.put, List.setIfInBounds_toArray, List.set_cons_zero, List.set_cons_succ, i64_w, i32_w]; rfl)
      refine pure_ (i := 13) (N := some 138) (v := ?_) (a' := ?_) #[T,T,T,T,T,T,T,T,T,T,T,T,T,T,F,F,F,F,F,F,F,F,F,F,F,F,F,F,F,F,F,F] rfl rfl (any_of HT_.out (by kernel_rfl)) (fun _ _ _ h => h) (Or.inl ⟨by rfl, ?_⟩) ?_ ?_; rotate_left; (intro w'; go_simp; with_reducible rfl); rotate_left; (simp only [Act.put, List.setIfInBounds_toArray, List.set_cons_zero, List.set_cons_succ, i64_w, i32_w]; rfl)
      refine pure_ (i := 14) (N := some 139) (v := ?_) (a' := ?_) #[T,T,T,T,T,T,T,T,T,T,T,T,T,T,T,F,F,F,F,F,F,F,F,F,F,F,F,F,F,F,F,F] rfl rfl (any_of HT_.out (by kernel_rfl)) (fun _ _ _ h => h) (Or.inl ⟨by rfl, ?_⟩) ?_ ?_; rotate_left; (intro w'; go_simp; with_reducible rfl); rotate_left; (simp only [Act.put, List.setIfInBounds_toArray, List.set_cons_zero, List.set_cons_succ, i64_w, i32_w]; rfl)
      refine pure_ (i := 15) (N := some 140) (v := ?_) (a' := ?_) #[T,T,T,T,T,T,T,T,T,T,T,T,T,T,T,T,F,F,F,F,F,F,F,F,F,F,F,F,F,F,F,F] rfl rfl (any_of HT_.out (by kernel_rfl)) (fun _ _ _ h => h) (Or.inl ⟨by rfl, ?_⟩) ?_ ?_; rotate_left; (intro w'; go_simp; with_reducible rfl); rotate_left; (simp only [Act.put, List.setIfInBounds_toArray, List.set_cons_zero, List.set_cons_succ, i64_w, i32_w]; rfl)
      refine pure_ (i := 16) (N := some 141) (v := ?_) (a' := ?_) #[T,T,T,T,T,T,T,T,T,T,T,T,T,T,T,T,T,F,F,F,F,F,F,F,F,F,F,F,F,F,F,F] rfl rfl (any_of HT_.out (by kernel_rfl)) (fun _ _ _ h => h) (Or.inl ⟨by rfl, ?_⟩) ?_ ?_; rotate_left; (intro w'; go_simp; with_reducible rfl); rotate_left; (simp only [Act.put, List.setIfInBounds_toArray, List.set_cons_zero, List.set_cons_succ, i64_w, i32_w]; rfl)
      refine pure_ (i := 17) (N := some 142) (v := ?_) (a' := ?_) #[T,T,T,T,T,T,T,T,T,T,T,T,T,T,T,T,T,T,F,F,F,F,F,F,F,F,F,F,F,F,F,F] rfl rfl (any_of HT_.out (by kernel_rfl)) (fun _ _ _ h => h) (Or.inl ⟨by rfl, ?_⟩) ?_ ?_; rotate_left; (intro w'; go_simp; with_reducible rfl); rotate_left; (simp only [Act.put, List.setIfInBounds_toArray, List.set_cons_zero, List.set_cons_succ, i64_w, i32_w]; rfl)
      refine pure_ (i := 19) (N := some 144) (v := ?_) (a' := ?_) #[T,T,T,T,T,T,T,T,T,T,T,T,T,T,T,T,T,T,F,T,F,F,F,F,F,F,F,F,F,F,F,F] rfl rfl (any_of HT_.out (by kernel_rfl)) (fun _ _ _ h => h) (Or.inl ⟨by rfl, ?_⟩) ?_ ?_; rotate_left; (intro w'; go_simp; with_reducible rfl); rotate_left; (simp only [Act.put, List.setIfInBounds_toArray, List.set_cons_zero, List.set_cons_succ, i64_w, i32_w]; rfl)
      refine pure_ (i := 22) (N := some 147) (v := ?_) (a' := ?_) #[T,T,T,T,T,T,T,T,T,T,T,T,T,T,T,T,T,T,F,T,F,F,T,F,F,F,F,F,F,F,F,F] rfl rfl (any_of HT_.out (by kernel_rfl)) (fun _ _ _ h => h) (Or.inl ⟨by rfl, ?_⟩) ?_ ?_; rotate_left; (intro w'; go_simp; with_reducible rfl); rotate_left; (simp only [Act.put, List.setIfInBounds_toArray, List.set_cons_zero, List.set_cons_succ, i64_w, i32_w]; rfl)
      refine pure_ (i := 23) (N := some 148) (v := ?_) (a' := ?_) #[T,T,T,T,T,T,T,T,T,T,T,T,T,T,T,T,T,T,F,T,F,F,T,T,F,F,F,F,F,F,F,F] rfl rfl (any_of HT_.out (by kernel_rfl)) (fun _ _ _ h => h) (Or.inl ⟨by rfl, ?_⟩) ?_ ?_; rotate_left; (intro w'; go_simp; with_reducible rfl); rotate_left; (simp only [Act.put, List.setIfInBounds_toArray, List.set_cons_zero, List.set_cons_succ, i64_w, i32_w]; rfl)
      refine pure_ (i := 24) (N := some 149) (v := ?_) (a' := ?_) #[T,T,T,T,T,T,T,T,T,T,T,T,T,T,T,T,T,T,F,T,F,F,T,T,T,F,F,F,F,F,F,F] rfl rfl (any_of HT_.out (by kernel_rfl)) (fun _ _ _ h => h) (Or.inl ⟨by rfl, ?_⟩) ?_ ?_; rotate_left; (intro w'; go_simp; with_reducible rfl); rotate_left; (simp only [Act.put, List.setIfInBounds_toArray, List.set_cons_zero, List.set_cons_succ, i64_w, i32_w]; rfl)
      refine pure_ (i := 25) (N := some 150) (v := ?_) (a' := ?_) #[T,T,T,T,T,T,T,T,T,T,T,T,T,T,T,T,T,T,F,T,F,F,T,T,T,T,F,F,F,F,F,F] rfl rfl (any_of HT_.out (by kernel_rfl)) (fun _ _ _ h => h) (Or.inl ⟨by rfl, ?_⟩) ?_ ?_; rotate_left; (intro w'; go_simp; with_reducible rfl); rotate_left; (simp only [Act.put, List.setIfInBounds_toArray, List.set_cons_zero, List.set_cons_succ, i64_w, i32_w]; rfl)
      refine pure_ (i := 27) (N := some 152) (v := ?_) (a' := ?_) #[T,T,T,T,T,T,T,T,T,T,T,T,T,T,T,T,T,T,F,T,F,F,T,T,T,T,F,T,F,F,F,F] rfl rfl (any_of HT_.out (by kernel_rfl)) (fun _ _ _ h => h) (Or.inl ⟨by rfl, ?_⟩) ?_ ?_; rotate_left; (intro w'; go_simp; with_reducible rfl); rotate_left; (simp only [Act.put, List.setIfInBounds_toArray, List.set_cons_zero, List.set_cons_succ, i64_w, i32_w]; rfl)
      refine take_ (i := 18) (N := some 143) (v := ?_) (a' := ?_) #[T,T,T,T,T,T,T,T,T,T,T,T,T,T,T,T,T,T,T,T,F,F,T,T,T,T,F,T,F,F,F,F] rfl rfl (take_ofW HT_.out HW_.out (by kernel_rfl)) (fun _ _ _ h => h) (Or.inl ⟨by rfl, ?_⟩) hHeld ?_ ?_; rotate_left; (rintro w' ⟨s0, s1, s2, s3, s4, s5⟩; go_simp; with_reducible rfl); rotate_left; (simp only [Act.put, List.setIfInBounds_toArray, List.set_cons_zero, List.set_cons_succ, i64_w, i32_w]; rfl)
      refine take_ (i := 20) (N := some 145) (v := ?_) (a' := ?_) #[T,T,T,T,T,T,T,T,T,T,T,T,T,T,T,T,T,T,T,T,T,F,T,T,T,T,F,T,F,F,F,F] rfl rfl (take_ofW HT_.out HW_.out (by kernel_rfl)) (fun _ _ _ h => h) (Or.inl ⟨by rfl, ?_⟩) hHeld ?_ ?_; rotate_left; (rintro w' ⟨s0, s1, s2, s3, s4, s5⟩; go_simp; with_reducible rfl); rotate_left; (simp only [Act.put, List.setIfInBounds_toArray, List.set_cons_zero, List.set_cons_succ, i64_w, i32_w]; rfl)
      refine pure_ (i := 21) (N := some 146) (v := ?_) (a' := ?_) #[T,T,T,T,T,T,T,T,T,T,T,T,T,T,T,T,T,T,T,T,T,T,T,T,T,T,F,T,F,F,F,F] rfl rfl (any_of HT_.out (by kernel_rfl)) (fun _ _ _ h => h) (Or.inl ⟨by rfl, ?_⟩) ?_ ?_; rotate_left; (intro w'; go_simp; with_reducible rfl); rotate_left; (simp only [Act.put, List.setIfInBounds_toArray, List.set_cons_zero, List.set_cons_succ, i64_w, i32_w]; rfl)
      refine take_ (i := 26) (N := some 151) (v := ?_) (a' := ?_) #[T,T,T,T,T,T,T,T,T,T,T,T,T,T,T,T,T,T,T,T,T,T,T,T,T,T,T,T,F,F,F,F] rfl rfl (take_ofW HT_.out HW_.out (by kernel_rfl)) (fun _ _ _ h => h) (Or.inl ⟨by rfl, ?_⟩) hHeld ?_ ?_; rotate_left; (rintro w' ⟨s0, s1, s2, s3, s4, s5⟩; go_simp; with_reducible rfl); rotate_left; (simp only [Act.put, List.setIfInBounds_toArray, List.set_cons_zero, List.set_cons_succ, i64_w, i32_w]; rfl)
      refine one_ (i := 28) (N := some 153) #[T,T,T,T,T,T,T,T,T,T,T,T,T,T,T,T,T,T,T,T,T,T,T,T,T,T,T,T,T,F,F,F] rfl rfl (one_of HT_.out (by kernel_rfl)) (by decide) (fun K hK => ?_)
      refine goes_ Tryd.func23 (by kernel_rfl) rfl #[.slice A133_3 ((rd_T38 l3 x11_2).f2).length c133_3, .int .i64 x13_4] (by rfl) rfl rfl (by (try simp only [List.map_toArray, List.map_cons, List.map_nil]); first | done | rfl | (simp only [List.length_drop, List.length_take]; rfl)) ?_
      with_reducible refine (table_Column.calls _ _ ((rd_T38 l3 x11_2).f2) x13_4 t134 _ ?side1 ?side2 A122.out).mono ?_
      (case side1 => repeat (first | exact (by repeat (first | (with_reducible exact HR133_3.out) | (with_reducible refine Kd.C_alloc ?_ _) | (with_reducible refine Kd.C_drewN ?_ _) | (with_reducible refine Kd.C_drew ?_) | exact HR133_3.out)) | (with_reducible refine Kd.C_alloc ?_ _) | (with_reducible refine Kd.C_drewN ?_ _) | (with_reducible refine Kd.C_drew ?_)))
      (case side2 => exact HC133_3.out)
      rintro e w129 ⟨v135, rfl, ho0, hb⟩
      have HS2_ := (hb.cell (World.block_lt_of_cell? _ _ (hHeld.2.2.1))).trans (hHeld.2.2.1)
      have HS3_ := (hb.cell (World.block_lt_of_cell? _ _ (hHeld.2.2.2.1))).trans (hHeld.2.2.2.1)
      have HS4_ := (hb.cell (World.block_lt_of_cell? _ _ (hHeld.2.2.2.2.1))).trans (hHeld.2.2.2.2.1)
      have HS5_ := (hb.cell (World.block_lt_of_cell? _ _ (hHeld.2.2.2.2.2))).trans (hHeld.2.2.2.2.2)
      refine ⟨_, rfl, ?_⟩
      have n0_ := Aside0.mk (Kd.V_elder' (by (with_reducible repeat (first | apply Kd.V_alloc | apply Kd.V_drewN | apply Kd.V_drew)); exact HO_8.out) (Kd.R_base ho0) hb)
      have n1_ := Aside0.mk (Kd.V_elder' (by (with_reducible repeat (first | apply Kd.V_alloc | apply Kd.V_drewN | apply Kd.V_drew)); exact HO_105000.out) (Kd.R_base ho0) hb)
      have n2_ := Aside0.mk (Kd.V_elder' (by (with_reducible repeat (first | apply Kd.V_alloc | apply Kd.V_drewN | apply Kd.V_drew)); exact HO_105003.out) (Kd.R_base ho0) hb)
      have n3_ := Aside0.mk (Kd.V_elder' (by (with_reducible repeat (first | apply Kd.V_alloc | apply Kd.V_drewN | apply Kd.V_drew)); exact HL115_0.out) (Kd.R_base ho0) hb)
      have n4_ := Aside0.mk (Kd.V_elder' (by (with_reducible repeat (first | apply Kd.V_alloc | apply Kd.V_drewN | apply Kd.V_drew)); exact HL115_3.out) (Kd.R_base ho0) hb)
      have n5_ := Aside0.mk (Kd.V_elder' (by (with_reducible repeat (first | apply Kd.V_alloc | apply Kd.V_drewN | apply Kd.V_drew)); exact HL117_0.out) (Kd.R_base ho0) hb)
      have n6_ := Aside0.mk (Kd.V_elder' (by (with_reducible repeat (first | apply Kd.V_alloc | apply Kd.V_drewN | apply Kd.V_drew)); exact HL117_3.out) (Kd.R_base ho0) hb)
      have n7_ := Aside0.mk (Kd.V_elder' (by (with_reducible repeat (first | apply Kd.V_alloc | apply Kd.V_drewN | apply Kd.V_drew)); exact HL133_0.out) (Kd.R_base ho0) hb)
      have n8_ := Aside0.mk (Kd.V_elder' (by (with_reducible repeat (first | apply Kd.V_alloc | apply Kd.V_drewN | apply Kd.V_drew)); exact HL133_3.out) (Kd.R_base ho0) hb)
      have n9_ := Aside0.mk (Kd.R_lower (Kd.R_newM (M := fun k_ => (w.heap.size ≤ k_)) ho0 (below_size (by repeat (first | (with_reducible first | exact HB.out | apply below_alloc | apply pw_below_drewN | apply below_drew1 | refine below_set ?_ GE104.out | refine below_set ?_ GE119.out) | exact HB.out))) (fun k_ h_ => h_)) (below_size (by repeat (first | (with_reducible first | exact HB.out | apply below_alloc | apply pw_below_drewN | apply below_drew1 | refine below_set ?_ GE104.out | refine below_set ?_ GE119.out) | exact HB.out))))
      have n10_ := Aside0.mk (blk_below (g := gb104) (o := .cells #[u105000, .int .i64 x105001_2, .int .i64 x105002_2, u105003] 38 (0, 0)) (by (with_reducible repeat (first | refine blk_drewN ?_ _ | refine blk_drew ?_ | refine blk_alloc ?_ _)); exact BK104.out) hb)
      have n11_ := Aside0.mk (blk_below (g := gb119) (o := .cells #[.int .i64 ((rd_T36 ((rd_T38 l3 x11_2).f0) x13_4).f0), .int .i64 ((rd_T36 ((rd_T38 l3 x11_2).f0) x13_4).f1)] 36 (0, 0)) (by (with_reducible repeat (first | refine blk_drewN ?_ _ | refine blk_drew ?_ | refine blk_alloc ?_ _)); exact BK119.out) hb)
      have n12_ := Aside0.mk (Kd.C_below (by repeat (first | (with_reducible exact HR133_0.out) | (with_reducible refine Kd.C_alloc ?_ _) | (with_reducible refine Kd.C_drewN ?_ _) | (with_reducible refine Kd.C_drew ?_) | exact HR133_0.out)) hb)
      have n13_ := Aside0.mk (Kd.C_below (by repeat (first | (with_reducible exact HR133_3.out) | (with_reducible refine Kd.C_alloc ?_ _) | (with_reducible refine Kd.C_drewN ?_ _) | (with_reducible refine Kd.C_drew ?_) | exact HR133_3.out)) hb)
      have n14_ := Aside0.mk (below_step (by repeat (first | (with_reducible first | exact HB.out | apply below_alloc | apply pw_below_drewN | apply below_drew1 | refine below_set ?_ GE104.out | refine below_set ?_ GE119.out) | exact HB.out)) hb)
      clear HO_8; clear HO_105000; clear HO_105003; clear HL115_0; clear HL115_3; clear HL117_0; clear HL117_3; clear HL133_0; clear HL133_3; clear BK104; clear BK119; clear HR133_0; clear HR133_3; clear HB
      have HO_8 := n0_
      have HO_105000 := n1_
      have HO_105003 := n2_
      have HL115_0 := n3_
      have HL115_3 := n4_
      have HL117_0 := n5_
      have HL117_3 := n6_
      have HL133_0 := n7_
      have HL133_3 := n8_
      have HO136 := n9_
      have BK104 := n10_
      have BK119 := n11_
      have HR133_0 := n12_
      have HR133_3 := n13_
      have HB := n14_
      clear n0_ n1_ n2_ n3_ n4_ n5_ n6_ n7_ n8_ n9_ n10_ n11_ n12_ n13_ n14_
      (try clear hb)
      (try clear hb2)
      (try clear hk)
      (try clear hi)
      (try clear ho0)
      obtain ⟨Ao130, co130, eo130⟩ := Kd.R_slice HO136.out
      (first | subst eo130 | (injection eo130 with f1_ f2_ f3_; have f4_ := f1_.symm; have f5_ := f3_.symm; clear f1_ f2_ f3_; subst f4_; subst f5_))
      refine hK.out _ _ ⟨(blk_cell BK119.out 0).trans rfl, (blk_cell BK119.out 1).trans rfl, HS2_, HS3_, HS4_, HS5_⟩ (fun hHeld => ?_)
      clear hK K
      refine norm_ (a' := ?_) ?_ ?_
      rotate_left
      ·show Act.put _ (some 153) _ = _
       simp only [Act.put, List.setIfInBounds_toArray, List.set_cons_zero, List.set_cons_succ, i64_w, i32_w]
       rfl
      refine pure_ (i := 29) (N := some 154) (v := ?_) (a' := ?_) #[T,T,T,T,T,T,T,T,T,T,T,T,T,T,T,T,T,T,T,T,T,T,T,T,T,T,T,T,T,T,F,F] rfl rfl (any_of HT_.out (by kernel_rfl)) (fun _ _ _ h => h) (Or.inl ⟨by rfl, ?_⟩) ?_ ?_; rotate_left; (intro w'; go_simp; with_reducible rfl); rotate_left; (simp only [Act.put, List.setIfInBounds_toArray, List.set_cons_zero, List.set_cons_succ, i64_w, i32_w]; rfl)
      refine pure_ (i := 30) (N := some 155) (v := ?_) (a' := ?_) #[T,T,T,T,T,T,T,T,T,T,T,T,T,T,T,T,T,T,T,T,T,T,T,T,T,T,T,T,T,T,T,F] rfl rfl (any_of HT_.out (by kernel_rfl)) (fun _ _ _ h => h) (Or.inl ⟨by rfl, ?_⟩) ?_ ?_; rotate_left; (intro w'; go_simp; with_reducible rfl); rotate_left; (simp only [Act.put, List.setIfInBounds_toArray, List.set_cons_zero, List.set_cons_succ, i64_w, i32_w]; rfl)
      refine pure_ (i := 31) (N := some 156) (v := ?_) (a' := ?_) #[T,T,T,T,T,T,T,T,T,T,T,T,T,T,T,T,T,T,T,T,T,T,T,T,T,T,T,T,T,T,T,T] rfl rfl (any_of HT_.out (by kernel_rfl)) (fun _ _ _ h => h) (Or.inl ⟨by rfl, ?_⟩) ?_ ?_; rotate_left; (intro w'; go_simp; with_reducible rfl); rotate_left; (simp only [Act.put, List.setIfInBounds_toArray, List.set_cons_zero, List.set_cons_succ, i64_w, i32_w]; rfl)
      refine done_ (done_of HT_.out (by kernel_rfl)) ?_
      try go_wp2
      go_roundg k4
      case measure => have := HJ5.out; have := HK2.out; have := HJ16.out; have := HK4.out; omega
      case rel => exact ⟨(wrap64 (x13_4 + 1)), (by first | rfl | (simp; done) | (simp [*]; done)), H', ⟨by have := HJ5.out; have := HK2.out; have := HJ16.out; have := HK4.out; omega⟩, ⟨by (with_reducible repeat (first | apply Kd.V_alloc | apply Kd.V_drewN | apply Kd.V_drew)); exact Kd.V_mono HO_8.out (fun _ hk => ⟨hk.1.1, hk.1.2.1⟩)⟩, ⟨by (with_reducible repeat (first | apply Kd.V_alloc | apply Kd.V_drewN | apply Kd.V_drew)); exact Kd.V_mono HO_105000.out (fun _ hk => ⟨hk.1.1, hk.1.2.1⟩)⟩, ⟨by (with_reducible repeat (first | apply Kd.V_alloc | apply Kd.V_drewN | apply Kd.V_drew)); exact Kd.V_mono HO_105003.out (fun _ hk => ⟨hk.1.1, hk.1.2.1⟩)⟩, ⟨by (with_reducible repeat (first | refine blk_drewN ?_ _ | refine blk_drew ?_ | refine blk_alloc ?_ _)); exact BK104.out⟩, ⟨by repeat (first | (with_reducible first | exact HB.out | apply below_alloc | apply pw_below_drewN | apply below_drew1 | refine below_set ?_ GE104.out | refine below_set ?_ GE119.out) | exact HB.out)⟩⟩
     rw [if_pos c39] at H
     have c39b0 : decide (0 < x11_2) = true := decide_eq_true c39
     clear c39
     by_cases c40 : x13_4 < (x105000_2.length : Int)
     rotate_left
     ·rw [if_neg c40] at H
      exact absurd H (by simp)
     rw [if_pos c40] at H
     have c40b0 : decide (x13_4 < (x105000_2.length : Int)) = true := decide_eq_true c40
     clear c40
     by_cases c41 : ((rd_T36 ((rd_T38 l3 x11_2).f0) x13_4).f0) < ((rd_T36 x105000_2 x13_4).f1)
     ·rw [if_pos c41] at H
      have c41b0 : decide (((rd_T36 ((rd_T38 l3 x11_2).f0) x13_4).f0) < ((rd_T36 x105000_2 x13_4).f1)) = true := decide_eq_true c41
      clear c41
      exact absurd ((Option.some.inj H).trans HRT.out) (by decide)
     rw [if_neg c41] at H
     have c41b0 : decide (((rd_T36 ((rd_T38 l3 x11_2).f0) x13_4).f0) < ((rd_T36 x105000_2 x13_4).f1)) = false := decide_eq_false c41
     clear c41
     by_cases c49 : a2 = true
     ·subst c49
      have H1 : ((table_Column.f ((rd_T38 l3 x11_2).f2) x13_4).bind fun t122 => (if (wrap64 (((rd_T36 ((rd_T38 l3 x11_2).f0) x13_4).f1) - ((rd_T36 ((rd_T38 l3 x11_2).f0) x13_4).f0))) = (t122.length : Int) then (sennitlaw21_HunkSpans.l1 k4 l0 true t101 l3 x11_2 (wrap64 (((rd_T38 l3 x11_2).f1.f0) - x105002_2)) (wrap64 (x13_4 + 1)) x105000_2 x105001_2 x105002_2 x105003_2) else (some false))) = some r := by rw [if_pos rfl] at H; exact H
      clear H
      have H := H1
      clear H1
      replace H := Option.bind_eq_some_iff.mp H
      obtain ⟨t122, A500, H⟩ := H
      replace H : (if (wrap64 (((rd_T36 ((rd_T38 l3 x11_2).f0) x13_4).f1) - ((rd_T36 ((rd_T38 l3 x11_2).f0) x13_4).f0))) = (t122.length : Int) then (sennitlaw21_HunkSpans.l1 k4 l0 true t101 l3 x11_2 (wrap64 (((rd_T38 l3 x11_2).f1.f0) - x105002_2)) (wrap64 (x13_4 + 1)) x105000_2 x105001_2 x105002_2 x105003_2) else (some false)) = some r := H
      have A50 := Aside0.mk A500
      clear A500
      by_cases c51 : (wrap64 (((rd_T36 ((rd_T38 l3 x11_2).f0) x13_4).f1) - ((rd_T36 ((rd_T38 l3 x11_2).f0) x13_4).f0))) = (t122.length : Int)
      rotate_left
      ·rw [if_neg c51] at H
       have c51b0 : ((wrap64 (((rd_T36 ((rd_T38 l3 x11_2).f0) x13_4).f1) - ((rd_T36 ((rd_T38 l3 x11_2).f0) x13_4).f0))) == (t122.length : Int)) = false := beq_eq_false_iff_ne.mpr c51
       have c51b1 : ((wrap64 (((rd_T36 ((rd_T38 l3 x11_2).f0) x13_4).f1) - ((rd_T36 ((rd_T38 l3 x11_2).f0) x13_4).f0))) != (t122.length : Int)) = true := bne_iff_ne.mpr c51
       exact absurd ((Option.some.inj H).trans HRT.out) (by decide)
      rw [if_pos c51] at H
      have c51b0 : ((wrap64 (((rd_T36 ((rd_T38 l3 x11_2).f0) x13_4).f1) - ((rd_T36 ((rd_T38 l3 x11_2).f0) x13_4).f0))) == (t122.length : Int)) = true := beq_iff_eq.mpr c51
      have c51b1 : ((wrap64 (((rd_T36 ((rd_T38 l3 x11_2).f0) x13_4).f1) - ((rd_T36 ((rd_T38 l3 x11_2).f0) x13_4).f0))) != (t122.length : Int)) = false := bne_eq_false_iff_eq.mpr c51
      clear c51
      have H' := Aside0.mk H
      clear H
      have p115 : 0 ≤ (x11_2 : Int) := of_decide_eq_true (by first | (with_reducible assumption) | assumption)
      have q115 : x11_2 < (l3.length : Int) := of_decide_eq_true (by first | (with_reducible assumption) | assumption)
      obtain ⟨ad115, A115_0, c115_0, A115_3, c115_3, e115, hx115_0, hx115_1, hx115_2, hx115_3, hl115_0, hi115_0, hl115_3, hi115_3⟩ := at_T38 (Kd.V_reads' HO_8.out).2.2 x11_2 p115 q115
      obtain rfl : ad105 = ad115 := (by injection e115)
      obtain ⟨ce115, hce115, hMe115, hcc115⟩ := Kd.V_get HO_8.out z38 x11_2 p115 (by first | exact q115 | exact of_decide_eq_true (by first | (with_reducible assumption) | assumption) | (have e_ := (Kd.V_reads' HO_8.out).1; omega))
      obtain ⟨ua115_0, uc115_0, ua115_3, uc115_3, rfl, ul115_0, ge115_0, ul115_3, ge115_3⟩ := k38_openF hMe115
      have hv115_0 := hcc115 0 _ rfl
      rw [Nat.add_zero] at hv115_0
      replace hv115_0 := Option.some.inj (hv115_0.symm.trans hx115_0)
      injection hv115_0 with hva_ hvn_ hvc_
      rw [hva_] at ge115_0
      rw [hvc_] at ul115_0
      have HL115_0 := Aside0.mk (show Kd.V k36 36 _ w.heap.size _ _ ((rd_T38 l3 x11_2).f0) from Kd.V_mk ul115_0 ge115_0)
      clear hva_ hvn_ hvc_ ge115_0 ul115_0
      have hv115_3 := hcc115 3 _ rfl
      rw [add_field _ _ 3 (by omega)] at hv115_3
      replace hv115_3 := Option.some.inj (hv115_3.symm.trans hx115_3)
      injection hv115_3 with hva_ hvn_ hvc_
      rw [hva_] at ge115_3
      rw [hvc_] at ul115_3
      have HL115_3 := Aside0.mk (show Kd.V k41 41 _ w.heap.size _ _ ((rd_T38 l3 x11_2).f2) from Kd.V_mk ul115_3 ge115_3)
      clear hva_ hvn_ hvc_ ge115_3 ul115_3; clear hcc115 hce115
      have HR115_0 := Aside0.mk hi115_0
      have HC115_0 := Aside0.mk hl115_0
      clear hi115_0 hl115_0
      have HR115_3 := Aside0.mk hi115_3
      have HC115_3 := Aside0.mk hl115_3
      clear hi115_3 hl115_3
      replace p115 := eq_true p115
      replace q115 := eq_true q115
      have p117 : 0 ≤ (x11_2 : Int) := of_decide_eq_true (by first | (with_reducible assumption) | assumption)
      have q117 : x11_2 < (l3.length : Int) := of_decide_eq_true (by first | (with_reducible assumption) | assumption)
      obtain ⟨ad117, A117_0, c117_0, A117_3, c117_3, e117, hx117_0, hx117_1, hx117_2, hx117_3, hl117_0, hi117_0, hl117_3, hi117_3⟩ := at_T38 (Kd.V_reads' HO_8.out).2.2 x11_2 p117 q117
      obtain rfl : ad105 = ad117 := (by injection e117)
      obtain ⟨ce117, hce117, hMe117, hcc117⟩ := Kd.V_get HO_8.out z38 x11_2 p117 (by first | exact q117 | exact of_decide_eq_true (by first | (with_reducible assumption) | assumption) | (have e_ := (Kd.V_reads' HO_8.out).1; omega))
      obtain ⟨ua117_0, uc117_0, ua117_3, uc117_3, rfl, ul117_0, ge117_0, ul117_3, ge117_3⟩ := k38_openF hMe117
      have hv117_0 := hcc117 0 _ rfl
      rw [Nat.add_zero] at hv117_0
      replace hv117_0 := Option.some.inj (hv117_0.symm.trans hx117_0)
      injection hv117_0 with hva_ hvn_ hvc_
      rw [hva_] at ge117_0
      rw [hvc_] at ul117_0
      have HL117_0 := Aside0.mk (show Kd.V k36 36 _ w.heap.size _ _ ((rd_T38 l3 x11_2).f0) from Kd.V_mk ul117_0 ge117_0)
      clear hva_ hvn_ hvc_ ge117_0 ul117_0
      have hv117_3 := hcc117 3 _ rfl
      rw [add_field _ _ 3 (by omega)] at hv117_3
      replace hv117_3 := Option.some.inj (hv117_3.symm.trans hx117_3)
      injection hv117_3 with hva_ hvn_ hvc_
      rw [hva_] at ge117_3
      rw [hvc_] at ul117_3
      have HL117_3 := Aside0.mk (show Kd.V k41 41 _ w.heap.size _ _ ((rd_T38 l3 x11_2).f2) from Kd.V_mk ul117_3 ge117_3)
      clear hva_ hvn_ hvc_ ge117_3 ul117_3; clear hcc117 hce117
      have HR117_0 := Aside0.mk hi117_0
      have HC117_0 := Aside0.mk hl117_0
      clear hi117_0 hl117_0
      have HR117_3 := Aside0.mk hi117_3
      have HC117_3 := Aside0.mk hl117_3
      clear hi117_3 hl117_3
      replace p117 := eq_true p117
      replace q117 := eq_true q117
      have ea_ := Option.some.inj (hx115_0.symm.trans hx117_0)
      injection ea_ with ea_ en_ ec_
      subst ea_
      subst ec_
      clear en_
      have ea_ := Option.some.inj (hx115_3.symm.trans hx117_3)
      injection ea_ with ea_ en_ ec_
      subst ea_
      subst ec_
      clear en_
      have p118 : 0 ≤ (x13_4 : Int) := of_decide_eq_true (by first | (with_reducible assumption) | assumption)
      have q118 : x13_4 < (((rd_T38 l3 x11_2).f0).length : Int) := of_decide_eq_true (by first | (with_reducible assumption) | assumption)
      obtain ⟨ad118, e118, hx118_0, hx118_1⟩ := at_T36 (by repeat (first | (with_reducible exact HR117_0.out) | (with_reducible refine Kd.C_alloc ?_ _) | (with_reducible refine Kd.C_drewN ?_ _) | (with_reducible refine Kd.C_drew ?_) | exact HR117_0.out)) x13_4 p118 q118
      cases e118
      replace p118 := eq_true p118
      replace q118 := eq_true q118
      try go_wp2_with (first | ((with_reducible refine gate_dst (N := 14) rfl ?_); (try (refine gate_guard (by rfl) ?_; dsimp only)); refine box_event ?hg (N := 14) ?hd (cs := #[.int .i64 0, .int .i64 0]) (t := 36) ?hr ?_; (case hd => rfl); (case hg => rfl); (case hr => first | (go_simp; done) | (go_simp; rfl)); intro gb119 hg w52 hbox hb; have n0_ := Aside0.mk (Kd.V_below (Kd.V_elderB (by (with_reducible repeat (first | apply Kd.V_alloc | apply Kd.V_drewN | apply Kd.V_drew)); exact HO_8.out) gb119 (Nat.le_of_eq hg.symm)) hb); have n1_ := Aside0.mk (Kd.V_below (Kd.V_elderB (by (with_reducible repeat (first | apply Kd.V_alloc | apply Kd.V_drewN | apply Kd.V_drew)); exact HO_105000.out) gb119 (Nat.le_of_eq hg.symm)) hb); have n2_ := Aside0.mk (Kd.V_below (Kd.V_elderB (by (with_reducible repeat (first | apply Kd.V_alloc | apply Kd.V_drewN | apply Kd.V_drew)); exact HO_105003.out) gb119 (Nat.le_of_eq hg.symm)) hb); have n3_ := Aside0.mk (Kd.V_below (Kd.V_elderB (by (with_reducible repeat (first | apply Kd.V_alloc | apply Kd.V_drewN | apply Kd.V_drew)); exact HL115_0.out) gb119 (Nat.le_of_eq hg.symm)) hb); have n4_ := Aside0.mk (Kd.V_below (Kd.V_elderB (by (with_reducible repeat (first | apply Kd.V_alloc | apply Kd.V_drewN | apply Kd.V_drew)); exact HL115_3.out) gb119 (Nat.le_of_eq hg.symm)) hb); have n5_ := Aside0.mk (Kd.V_below (Kd.V_elderB (by (with_reducible repeat (first | apply Kd.V_alloc | apply Kd.V_drewN | apply Kd.V_drew)); exact HL117_0.out) gb119 (Nat.le_of_eq hg.symm)) hb); have n6_ := Aside0.mk (Kd.V_below (Kd.V_elderB (by (with_reducible repeat (first | apply Kd.V_alloc | apply Kd.V_drewN | apply Kd.V_drew)); exact HL117_3.out) gb119 (Nat.le_of_eq hg.symm)) hb); have n7_ := Aside0.mk (blk_below (g := gb104) (o := .cells #[u105000, .int .i64 x105001_2, .int .i64 x105002_2, u105003] 38 (0, 0)) (by (with_reducible repeat (first | refine blk_drewN ?_ _ | refine blk_drew ?_ | refine blk_alloc ?_ _)); exact BK104.out) hb); have n8_ := Aside0.mk (Kd.C_below (by repeat (first | (with_reducible exact HR115_0.out) | (with_reducible refine Kd.C_alloc ?_ _) | (with_reducible refine Kd.C_drewN ?_ _) | (with_reducible refine Kd.C_drew ?_) | exact HR115_0.out)) hb); have n9_ := Aside0.mk (Kd.C_below (by repeat (first | (with_reducible exact HR115_3.out) | (with_reducible refine Kd.C_alloc ?_ _) | (with_reducible refine Kd.C_drewN ?_ _) | (with_reducible refine Kd.C_drew ?_) | exact HR115_3.out)) hb); have n10_ := Aside0.mk (Kd.C_below (by repeat (first | (with_reducible exact HR117_0.out) | (with_reducible refine Kd.C_alloc ?_ _) | (with_reducible refine Kd.C_drewN ?_ _) | (with_reducible refine Kd.C_drew ?_) | exact HR117_0.out)) hb); have n11_ := Aside0.mk (Kd.C_below (by repeat (first | (with_reducible exact HR117_3.out) | (with_reducible refine Kd.C_alloc ?_ _) | (with_reducible refine Kd.C_drewN ?_ _) | (with_reducible refine Kd.C_drew ?_) | exact HR117_3.out)) hb); have n12_ := Aside0.mk (below_step (by repeat (first | (with_reducible first | exact HB.out | apply below_alloc | apply pw_below_drewN | apply below_drew1 | refine below_set ?_ GE104.out) | exact HB.out)) hb); have n13_ := Aside0.mk (hbox); have n14_ := Aside0.mk ((by rw [hg]; exact (below_size (by repeat (first | (with_reducible first | exact HB.out | apply below_alloc | apply pw_below_drewN | apply below_drew1 | refine below_set ?_ GE104.out) | exact HB.out))) : w.heap.size ≤ gb119)); have n15_ := Aside0.mk ((by rw [hg]; exact (below_size (by repeat (first | (with_reducible first | exact HB.out | apply below_alloc | apply pw_below_drewN | apply below_drew1 | refine below_set ?_ GE104.out) | exact HB.out))) : w.heap.size ≤ gb119)); have n16_ := Aside0.mk ((by rw [hg]; exact Nat.ne_of_lt (blk_lt (g := gb104) (o := .cells #[u105000, .int .i64 x105001_2, .int .i64 x105002_2, u105003] 38 (0, 0)) (by (with_reducible repeat (first | refine blk_drewN ?_ _ | refine blk_drew ?_ | refine blk_alloc ?_ _)); exact BK104.out)) : gb104 ≠ gb119)); have n17_ := Aside0.mk ((by rw [hg]; exact Nat.ne_of_gt (blk_lt (g := gb104) (o := .cells #[u105000, .int .i64 x105001_2, .int .i64 x105002_2, u105003] 38 (0, 0)) (by (with_reducible repeat (first | refine blk_drewN ?_ _ | refine blk_drew ?_ | refine blk_alloc ?_ _)); exact BK104.out)) : gb119 ≠ gb104)); clear HO_8; clear HO_105000; clear HO_105003; clear HL115_0; clear HL115_3; clear HL117_0; clear HL117_3; clear BK104; clear HR115_0; clear HR115_3; clear HR117_0; clear HR117_3; clear HB; have HO_8 := n0_; have HO_105000 := n1_; have HO_105003 := n2_; have HL115_0 := n3_; have HL115_3 := n4_; have HL117_0 := n5_; have HL117_3 := n6_; have BK104 := n7_; have HR115_0 := n8_; have HR115_3 := n9_; have HR117_0 := n10_; have HR117_3 := n11_; have HB := n12_; have BK119 := n13_; have GW119 := n14_; have GE119 := n15_; have NB104_119 := n16_; have NB119_104 := n17_; clear n0_ n1_ n2_ n3_ n4_ n5_ n6_ n7_ n8_ n9_ n10_ n11_ n12_ n13_ n14_ n15_ n16_ n17_; clear hb hbox hg; have hnb53 := NB119_104.out; have hnc53 := NB104_119.out; have hcz54_0 : w52.cell? ⟨gb119, 0, none⟩ = some (.int .i64 0) := (blk_cell BK119.out 0).trans rfl; have hcz54_1 : w52.cell? ⟨gb119, 1, none⟩ = some (.int .i64 0) := (blk_cell BK119.out 1).trans rfl; have hfz54_0 := blk_frozen BK119.out 0; have hfz54_1 := blk_frozen BK119.out 1; have hcz55_0 : w52.cell? ⟨gb104, 0, none⟩ = some (u105000) := (blk_cell BK104.out 0).trans rfl; have hcz55_1 : w52.cell? ⟨gb104, 1, none⟩ = some (.int .i64 x105001_2) := (blk_cell BK104.out 1).trans rfl; have hcz55_2 : w52.cell? ⟨gb104, 2, none⟩ = some (.int .i64 x105002_2) := (blk_cell BK104.out 2).trans rfl; have hcz55_3 : w52.cell? ⟨gb104, 3, none⟩ = some (u105003) := (blk_cell BK104.out 3).trans rfl; have hfz55_0 := blk_frozen BK104.out 0; have hfz55_1 := blk_frozen BK104.out 1; have hfz55_2 := blk_frozen BK104.out 2; have hfz55_3 := blk_frozen BK104.out 3; obtain ⟨Ao56, co56, eo56⟩ := Kd.V_slice HO_105000.out; subst eo56; have p120 : 0 ≤ (x13_4 : Int) := of_decide_eq_true (by first | (with_reducible assumption) | assumption); have q120 : x13_4 < (x105000_2.length : Int) := of_decide_eq_true (by first | (with_reducible assumption) | assumption); obtain ⟨ad120, e120, hx120_0, hx120_1⟩ := at_T36 (Kd.V_reads' HO_105000.out).2.2 x13_4 p120 q120; cases e120; have hn120_0 : ad120.block ≠ gb119 := V_blk36 HO_105000.out (fun _ hk => hk.2) (Int.lt_of_le_of_lt p120 q120); have hn120_1 : ad120.block ≠ gb119 := V_blk36 HO_105000.out (fun _ hk => hk.2) (Int.lt_of_le_of_lt p120 q120); replace hx120_0 := (cell_far (p := ⟨gb119, 0, none⟩) (by first | (rw [add_block]; exact hn120_0) | (show (Addr.add _ _).block ≠ _; rw [add_block]; exact hn120_0) | exact hn120_0) (.int .i64 ((rd_T36 ((rd_T38 l3 x11_2).f0) x13_4).f0))).trans hx120_0; replace hx120_1 := (cell_far (p := ⟨gb119, 0, none⟩) (by first | (rw [add_block]; exact hn120_0) | (show (Addr.add _ _).block ≠ _; rw [add_block]; exact hn120_0) | exact hn120_0) (.int .i64 ((rd_T36 ((rd_T38 l3 x11_2).f0) x13_4).f0))).trans hx120_1; replace hx120_0 := (cell_far (p := ⟨gb119, 1, none⟩) (by first | (rw [add_block]; exact hn120_1) | (show (Addr.add _ _).block ≠ _; rw [add_block]; exact hn120_1) | exact hn120_1) (.int .i64 ((rd_T36 ((rd_T38 l3 x11_2).f0) x13_4).f1))).trans hx120_0; replace hx120_1 := (cell_far (p := ⟨gb119, 1, none⟩) (by first | (rw [add_block]; exact hn120_1) | (show (Addr.add _ _).block ≠ _; rw [add_block]; exact hn120_1) | exact hn120_1) (.int .i64 ((rd_T36 ((rd_T38 l3 x11_2).f0) x13_4).f1))).trans hx120_1; clear hn120_0; clear hn120_1; replace p120 := eq_true p120; replace q120 := eq_true q120))
      have n0_ : Aside0 (Kd.V k38 38 ((w52.setCell ⟨gb119, 0, none⟩ (.int .i64 ((rd_T36 ((rd_T38 l3 x11_2).f0) x13_4).f0))).setCell ⟨gb119, 1, none⟩ (.int .i64 ((rd_T36 ((rd_T38 l3 x11_2).f0) x13_4).f1))) w.heap.size (fun k_ => ((k_ < w.heap.size) ∨ w.heap.size ≤ k_) ∧ k_ ≠ gb104 ∧ k_ ≠ gb119) (.slice (some ad105) l3.length c3) l3) := ⟨by (with_reducible repeat (first | apply Kd.V_alloc | apply Kd.V_drewN | apply Kd.V_drew)); exact Kd.V_mono (Kd.V_far (p := ⟨gb119, 1, none⟩) (Kd.V_far (p := ⟨gb119, 0, none⟩) (Kd.V_mono HO_8.out (fun k_ hk => (⟨hk, hk.2⟩ : _ ∧ k_ ≠ gb119))) (fun _ hk => hk.2) (.int .i64 ((rd_T36 ((rd_T38 l3 x11_2).f0) x13_4).f0))) (fun _ hk => hk.2) (.int .i64 ((rd_T36 ((rd_T38 l3 x11_2).f0) x13_4).f1))) (fun _ hk => ⟨hk.1.1.1, ⟨hk.1.1.2, hk.1.2⟩⟩)⟩
      have n1_ : Aside0 (Kd.V k36 36 ((w52.setCell ⟨gb119, 0, none⟩ (.int .i64 ((rd_T36 ((rd_T38 l3 x11_2).f0) x13_4).f0))).setCell ⟨gb119, 1, none⟩ (.int .i64 ((rd_T36 ((rd_T38 l3 x11_2).f0) x13_4).f1))) w.heap.size (fun k_ => ((k_ < w.heap.size) ∨ w.heap.size ≤ k_) ∧ k_ ≠ gb104 ∧ k_ ≠ gb119) (.slice (some ad120) x105000_2.length co56) x105000_2) := ⟨by (with_reducible repeat (first | apply Kd.V_alloc | apply Kd.V_drewN | apply Kd.V_drew)); exact Kd.V_mono (Kd.V_far (p := ⟨gb119, 1, none⟩) (Kd.V_far (p := ⟨gb119, 0, none⟩) (Kd.V_mono HO_105000.out (fun k_ hk => (⟨hk, hk.2⟩ : _ ∧ k_ ≠ gb119))) (fun _ hk => hk.2) (.int .i64 ((rd_T36 ((rd_T38 l3 x11_2).f0) x13_4).f0))) (fun _ hk => hk.2) (.int .i64 ((rd_T36 ((rd_T38 l3 x11_2).f0) x13_4).f1))) (fun _ hk => ⟨hk.1.1.1, ⟨hk.1.1.2, hk.1.2⟩⟩)⟩
      have n2_ : Aside0 (Kd.V k41 41 ((w52.setCell ⟨gb119, 0, none⟩ (.int .i64 ((rd_T36 ((rd_T38 l3 x11_2).f0) x13_4).f0))).setCell ⟨gb119, 1, none⟩ (.int .i64 ((rd_T36 ((rd_T38 l3 x11_2).f0) x13_4).f1))) w.heap.size (fun k_ => ((k_ < w.heap.size) ∨ w.heap.size ≤ k_) ∧ k_ ≠ gb104 ∧ k_ ≠ gb119) u105003 x105003_2) := ⟨by (with_reducible repeat (first | apply Kd.V_alloc | apply Kd.V_drewN | apply Kd.V_drew)); exact Kd.V_mono (Kd.V_far (p := ⟨gb119, 1, none⟩) (Kd.V_far (p := ⟨gb119, 0, none⟩) (Kd.V_mono HO_105003.out (fun k_ hk => (⟨hk, hk.2⟩ : _ ∧ k_ ≠ gb119))) (fun _ hk => hk.2) (.int .i64 ((rd_T36 ((rd_T38 l3 x11_2).f0) x13_4).f0))) (fun _ hk => hk.2) (.int .i64 ((rd_T36 ((rd_T38 l3 x11_2).f0) x13_4).f1))) (fun _ hk => ⟨hk.1.1.1, ⟨hk.1.1.2, hk.1.2⟩⟩)⟩
      have n3_ : Aside0 (Kd.V k36 36 ((w52.setCell ⟨gb119, 0, none⟩ (.int .i64 ((rd_T36 ((rd_T38 l3 x11_2).f0) x13_4).f0))).setCell ⟨gb119, 1, none⟩ (.int .i64 ((rd_T36 ((rd_T38 l3 x11_2).f0) x13_4).f1))) w.heap.size (fun k_ => ((k_ < w.heap.size) ∨ w.heap.size ≤ k_) ∧ k_ ≠ gb104 ∧ k_ ≠ gb119) (.slice (some ad118) ((rd_T38 l3 x11_2).f0).length c115_0) ((rd_T38 l3 x11_2).f0)) := ⟨by (with_reducible repeat (first | apply Kd.V_alloc | apply Kd.V_drewN | apply Kd.V_drew)); exact Kd.V_mono (Kd.V_far (p := ⟨gb119, 1, none⟩) (Kd.V_far (p := ⟨gb119, 0, none⟩) (Kd.V_mono HL115_0.out (fun k_ hk => (⟨hk, hk.2⟩ : _ ∧ k_ ≠ gb119))) (fun _ hk => hk.2) (.int .i64 ((rd_T36 ((rd_T38 l3 x11_2).f0) x13_4).f0))) (fun _ hk => hk.2) (.int .i64 ((rd_T36 ((rd_T38 l3 x11_2).f0) x13_4).f1))) (fun _ hk => ⟨hk.1.1.1, ⟨hk.1.1.2, hk.1.2⟩⟩)⟩
      have n4_ : Aside0 (Kd.V k41 41 ((w52.setCell ⟨gb119, 0, none⟩ (.int .i64 ((rd_T36 ((rd_T38 l3 x11_2).f0) x13_4).f0))).setCell ⟨gb119, 1, none⟩ (.int .i64 ((rd_T36 ((rd_T38 l3 x11_2).f0) x13_4).f1))) w.heap.size (fun k_ => ((k_ < w.heap.size) ∨ w.heap.size ≤ k_) ∧ k_ ≠ gb104 ∧ k_ ≠ gb119) (.slice A115_3 ((rd_T38 l3 x11_2).f2).length c115_3) ((rd_T38 l3 x11_2).f2)) := ⟨by (with_reducible repeat (first | apply Kd.V_alloc | apply Kd.V_drewN | apply Kd.V_drew)); exact Kd.V_mono (Kd.V_far (p := ⟨gb119, 1, none⟩) (Kd.V_far (p := ⟨gb119, 0, none⟩) (Kd.V_mono HL115_3.out (fun k_ hk => (⟨hk, hk.2⟩ : _ ∧ k_ ≠ gb119))) (fun _ hk => hk.2) (.int .i64 ((rd_T36 ((rd_T38 l3 x11_2).f0) x13_4).f0))) (fun _ hk => hk.2) (.int .i64 ((rd_T36 ((rd_T38 l3 x11_2).f0) x13_4).f1))) (fun _ hk => ⟨hk.1.1.1, ⟨hk.1.1.2, hk.1.2⟩⟩)⟩
      have n5_ : Aside0 (Kd.V k36 36 ((w52.setCell ⟨gb119, 0, none⟩ (.int .i64 ((rd_T36 ((rd_T38 l3 x11_2).f0) x13_4).f0))).setCell ⟨gb119, 1, none⟩ (.int .i64 ((rd_T36 ((rd_T38 l3 x11_2).f0) x13_4).f1))) w.heap.size (fun k_ => ((k_ < w.heap.size) ∨ w.heap.size ≤ k_) ∧ k_ ≠ gb104 ∧ k_ ≠ gb119) (.slice (some ad118) ((rd_T38 l3 x11_2).f0).length c115_0) ((rd_T38 l3 x11_2).f0)) := ⟨by (with_reducible repeat (first | apply Kd.V_alloc | apply Kd.V_drewN | apply Kd.V_drew)); exact Kd.V_mono (Kd.V_far (p := ⟨gb119, 1, none⟩) (Kd.V_far (p := ⟨gb119, 0, none⟩) (Kd.V_mono HL117_0.out (fun k_ hk => (⟨hk, hk.2⟩ : _ ∧ k_ ≠ gb119))) (fun _ hk => hk.2) (.int .i64 ((rd_T36 ((rd_T38 l3 x11_2).f0) x13_4).f0))) (fun _ hk => hk.2) (.int .i64 ((rd_T36 ((rd_T38 l3 x11_2).f0) x13_4).f1))) (fun _ hk => ⟨hk.1.1.1, ⟨hk.1.1.2, hk.1.2⟩⟩)⟩
      have n6_ : Aside0 (Kd.V k41 41 ((w52.setCell ⟨gb119, 0, none⟩ (.int .i64 ((rd_T36 ((rd_T38 l3 x11_2).f0) x13_4).f0))).setCell ⟨gb119, 1, none⟩ (.int .i64 ((rd_T36 ((rd_T38 l3 x11_2).f0) x13_4).f1))) w.heap.size (fun k_ => ((k_ < w.heap.size) ∨ w.heap.size ≤ k_) ∧ k_ ≠ gb104 ∧ k_ ≠ gb119) (.slice A115_3 ((rd_T38 l3 x11_2).f2).length c115_3) ((rd_T38 l3 x11_2).f2)) := ⟨by (with_reducible repeat (first | apply Kd.V_alloc | apply Kd.V_drewN | apply Kd.V_drew)); exact Kd.V_mono (Kd.V_far (p := ⟨gb119, 1, none⟩) (Kd.V_far (p := ⟨gb119, 0, none⟩) (Kd.V_mono HL117_3.out (fun k_ hk => (⟨hk, hk.2⟩ : _ ∧ k_ ≠ gb119))) (fun _ hk => hk.2) (.int .i64 ((rd_T36 ((rd_T38 l3 x11_2).f0) x13_4).f0))) (fun _ hk => hk.2) (.int .i64 ((rd_T36 ((rd_T38 l3 x11_2).f0) x13_4).f1))) (fun _ hk => ⟨hk.1.1.1, ⟨hk.1.1.2, hk.1.2⟩⟩)⟩
      have n7_ : Aside0 (((w52.setCell ⟨gb119, 0, none⟩ (.int .i64 ((rd_T36 ((rd_T38 l3 x11_2).f0) x13_4).f0))).setCell ⟨gb119, 1, none⟩ (.int .i64 ((rd_T36 ((rd_T38 l3 x11_2).f0) x13_4).f1))).heap[gb104]? = some (.cells #[.slice (some ad120) x105000_2.length co56, .int .i64 x105001_2, .int .i64 x105002_2, u105003] 38 (0, 0))) := ⟨by (with_reducible repeat (first | refine blk_drewN ?_ _ | refine blk_drew ?_ | refine blk_alloc ?_ _)); refine blk_far ?_ NB104_119.out _; (with_reducible repeat (first | refine blk_drewN ?_ _ | refine blk_drew ?_ | refine blk_alloc ?_ _)); refine blk_far ?_ NB104_119.out _; (with_reducible repeat (first | refine blk_drewN ?_ _ | refine blk_drew ?_ | refine blk_alloc ?_ _)); exact BK104.out⟩
      have n8_ : Aside0 (((w52.setCell ⟨gb119, 0, none⟩ (.int .i64 ((rd_T36 ((rd_T38 l3 x11_2).f0) x13_4).f0))).setCell ⟨gb119, 1, none⟩ (.int .i64 ((rd_T36 ((rd_T38 l3 x11_2).f0) x13_4).f1))).heap[gb119]? = some (.cells #[.int .i64 ((rd_T36 ((rd_T38 l3 x11_2).f0) x13_4).f0), .int .i64 ((rd_T36 ((rd_T38 l3 x11_2).f0) x13_4).f1)] 36 (0, 0))) := ⟨by (with_reducible repeat (first | refine blk_drewN ?_ _ | refine blk_drew ?_ | refine blk_alloc ?_ _)); refine blk_put (cs := #[.int .i64 ((rd_T36 ((rd_T38 l3 x11_2).f0) x13_4).f0), .int .i64 0]) ?_ 1 _ rfl; (with_reducible repeat (first | refine blk_drewN ?_ _ | refine blk_drew ?_ | refine blk_alloc ?_ _)); refine blk_put (cs := #[.int .i64 0, .int .i64 0]) ?_ 0 _ rfl; (with_reducible repeat (first | refine blk_drewN ?_ _ | refine blk_drew ?_ | refine blk_alloc ?_ _)); exact BK119.out⟩
      have n9_ : Aside0 (Below w.heap.size w ((w52.setCell ⟨gb119, 0, none⟩ (.int .i64 ((rd_T36 ((rd_T38 l3 x11_2).f0) x13_4).f0))).setCell ⟨gb119, 1, none⟩ (.int .i64 ((rd_T36 ((rd_T38 l3 x11_2).f0) x13_4).f1)))) := ⟨by repeat (first | (with_reducible first | exact HB.out | apply below_alloc | apply pw_below_drewN | apply below_drew1 | refine below_set ?_ GE104.out | refine below_set ?_ GE119.out) | exact HB.out)⟩
      (try clear HO_8)
      (try clear HO_105000)
      (try clear HO_105003)
      (try clear HL115_0)
      (try clear HL115_3)
      (try clear HL117_0)
      (try clear HL117_3)
      (try clear BK104)
      (try clear BK119)
      (try clear HB)
      generalize ((w52.setCell ⟨gb119, 0, none⟩ (.int .i64 ((rd_T36 ((rd_T38 l3 x11_2).f0) x13_4).f0))).setCell ⟨gb119, 1, none⟩ (.int .i64 ((rd_T36 ((rd_T38 l3 x11_2).f0) x13_4).f1))) = w57 at n0_ n1_ n2_ n3_ n4_ n5_ n6_ n7_ n8_ n9_ ⊢
      have HO_8 := n0_
      have HO_105000 := n1_
      have HO_105003 := n2_
      have HL115_0 := n3_
      have HL115_3 := n4_
      have HL117_0 := n5_
      have HL117_3 := n6_
      have BK104 := n7_
      have BK119 := n8_
      have HB := n9_
      clear n0_ n1_ n2_ n3_ n4_ n5_ n6_ n7_ n8_ n9_
      have n0_ := Aside0.mk (Kd.V_drew HO_8.out)
      have n1_ := Aside0.mk (Kd.V_drew HO_105000.out)
      have n2_ := Aside0.mk (Kd.V_drew HO_105003.out)
      have n3_ := Aside0.mk (Kd.V_drew HL115_0.out)
      have n4_ := Aside0.mk (Kd.V_drew HL115_3.out)
      have n5_ := Aside0.mk (Kd.V_drew HL117_0.out)
      have n6_ := Aside0.mk (Kd.V_drew HL117_3.out)
      have n7_ := Aside0.mk (blk_drew BK104.out)
      have n8_ := Aside0.mk (blk_drew BK119.out)
      have n9_ := Aside0.mk (below_drew1 HB.out)
      clear HO_8; clear HO_105000; clear HO_105003; clear HL115_0; clear HL115_3; clear HL117_0; clear HL117_3; clear BK104; clear BK119; clear HB
      have HO_8 := n0_
      have HO_105000 := n1_
      have HO_105003 := n2_
      have HL115_0 := n3_
      have HL115_3 := n4_
      have HL117_0 := n5_
      have HL117_3 := n6_
      have BK104 := n7_
      have BK119 := n8_
      have HB := n9_
      clear n0_ n1_ n2_ n3_ n4_ n5_ n6_ n7_ n8_ n9_
      have p121 : 0 ≤ (x11_2 : Int) := of_decide_eq_true (by first | (with_reducible assumption) | assumption)
      have q121 : x11_2 < (l3.length : Int) := of_decide_eq_true (by first | (with_reducible assumption) | assumption)
      obtain ⟨ad121, A121_0, c121_0, A121_3, c121_3, e121, hx121_0, hx121_1, hx121_2, hx121_3, hl121_0, hi121_0, hl121_3, hi121_3⟩ := at_T38 (Kd.V_reads' HO_8.out).2.2 x11_2 p121 q121
      obtain rfl : ad105 = ad121 := (by injection e121)
      obtain ⟨ce121, hce121, hMe121, hcc121⟩ := Kd.V_get HO_8.out z38 x11_2 p121 (by first | exact q121 | exact of_decide_eq_true (by first | (with_reducible assumption) | assumption) | (have e_ := (Kd.V_reads' HO_8.out).1; omega))
      obtain ⟨ua121_0, uc121_0, ua121_3, uc121_3, rfl, ul121_0, ge121_0, ul121_3, ge121_3⟩ := k38_openF hMe121
      have hv121_0 := hcc121 0 _ rfl
      rw [Nat.add_zero] at hv121_0
      replace hv121_0 := Option.some.inj (hv121_0.symm.trans hx121_0)
      injection hv121_0 with hva_ hvn_ hvc_
      rw [hva_] at ge121_0
      rw [hvc_] at ul121_0
      have HL121_0 := Aside0.mk (show Kd.V k36 36 _ w.heap.size _ _ ((rd_T38 l3 x11_2).f0) from Kd.V_mk ul121_0 ge121_0)
      clear hva_ hvn_ hvc_ ge121_0 ul121_0
      have hv121_3 := hcc121 3 _ rfl
      rw [add_field _ _ 3 (by omega)] at hv121_3
      replace hv121_3 := Option.some.inj (hv121_3.symm.trans hx121_3)
      injection hv121_3 with hva_ hvn_ hvc_
      rw [hva_] at ge121_3
      rw [hvc_] at ul121_3
      have HL121_3 := Aside0.mk (show Kd.V k41 41 _ w.heap.size _ _ ((rd_T38 l3 x11_2).f2) from Kd.V_mk ul121_3 ge121_3)
      clear hva_ hvn_ hvc_ ge121_3 ul121_3; clear hcc121 hce121
      have HR121_0 := Aside0.mk hi121_0
      have HC121_0 := Aside0.mk hl121_0
      clear hi121_0 hl121_0
      have HR121_3 := Aside0.mk hi121_3
      have HC121_3 := Aside0.mk hl121_3
      clear hi121_3 hl121_3
      replace p121 := eq_true p121
      replace q121 := eq_true q121
      refine start_ (n := 32) (S := fun w' => w'.cell? ⟨gb119, 0, none⟩ = some (.int .i64 ((rd_T36 ((rd_T38 l3 x11_2).f0) x13_4).f0)) ∧ w'.cell? ⟨gb119, 1, none⟩ = some (.int .i64 ((rd_T36 ((rd_T38 l3 x11_2).f0) x13_4).f1)) ∧ w'.cell? (ad105.add ((x11_2).toNat * 4)) = some (.slice A121_0 ((rd_T38 l3 x11_2).f0).length c121_0) ∧ w'.cell? ⟨(ad105.add ((x11_2).toNat * 4)).block, (ad105.add ((x11_2).toNat * 4)).off + 1, none⟩ = some (.int .i64 ((rd_T38 l3 x11_2).f1.f0)) ∧ w'.cell? ⟨(ad105.add ((x11_2).toNat * 4)).block, (ad105.add ((x11_2).toNat * 4)).off + 2, none⟩ = some (.int .i64 ((rd_T38 l3 x11_2).f1.f1)) ∧ w'.cell? ⟨(ad105.add ((x11_2).toNat * 4)).block, (ad105.add ((x11_2).toNat * 4)).off + 3, none⟩ = some (.slice A121_3 ((rd_T38 l3 x11_2).f2).length c121_3)) (ds := []) #[F,F,F,F,F,F,F,F,F,F,F,F,F,F,F,F,F,F,F,F,F,F,F,F,F,F,F,F,F,F,F,F] (by kernel_rfl) rfl rfl ⟨(blk_cell BK119.out 0).trans rfl, (blk_cell BK119.out 1).trans rfl, hx121_0, hx121_1, hx121_2, hx121_3⟩ (fun hHeld => ?_); refine with_tabW sennitlaw21_HunkSpans.tab19 sennitlaw21_HunkSpans.bits19 (fun HT_ HW_ => ?_)
      generalize w57.drew = w58 at HO_8 HO_105000 HO_105003 HL115_0 HL115_3 HL117_0 HL117_3 BK104 BK119 HB HL121_0 HL121_3 HR121_0 HR121_3 hx121_0 hx121_1 hx121_2 hx121_3 hHeld ⊢
      refine pure_ (i := 0) (N := some 125) (v := ?_) (a' := ?_) #[T,F,F,F,F,F,F,F,F,F,F,F,F,F,F,F,F,F,F,F,F,F,F,F,F,F,F,F,F,F,F,F] rfl rfl (any_of HT_.out (by kernel_rfl)) (fun _ _ _ h => h) (Or.inl ⟨by rfl, ?_⟩) ?_ ?_; rotate_left; (intro w'; go_simp; with_reducible rfl); rotate_left; (simp only [Act.put, List.setIfInBounds_toArray, List.set_cons_zero, List.set_cons_succ, i64_w, i32_w]; rfl)
      refine pure_ (i := 2) (N := some 127) (v := ?_) (a' := ?_) #[T,F,T,F,F,F,F,F,F,F,F,F,F,F,F,F,F,F,F,F,F,F,F,F,F,F,F,F,F,F,F,F] rfl rfl (any_of HT_.out (by kernel_rfl)) (fun _ _ _ h => h) (Or.inl ⟨by rfl, ?_⟩) ?_ ?_; rotate_left; (intro w'; go_simp; with_reducible rfl); rotate_left; (simp only [Act.put, List.setIfInBounds_toArray, List.set_cons_zero, List.set_cons_succ, i64_w, i32_w]; rfl)
      refine take_ (i := 1) (N := some 126) (v := ?_) (a' := ?_) #[T,T,T,F,F,F,F,F,F,F,F,F,F,F,F,F,F,F,F,F,F,F,F,F,F,F,F,F,F,F,F,F] rfl rfl (take_ofW HT_.out HW_.out (by kernel_rfl)) (fun _ _ _ h => h) (Or.inl ⟨by rfl, ?_⟩) hHeld ?_ ?_; rotate_left; (rintro w' ⟨s0, s1, s2, s3, s4, s5⟩; go_simp; with_reducible rfl); rotate_left; (simp only [Act.put, List.setIfInBounds_toArray, List.set_cons_zero, List.set_cons_succ, i64_w, i32_w]; rfl)
      refine pure_ (i := 3) (N := some 128) (v := ?_) (a' := ?_) #[T,T,T,T,F,F,F,F,F,F,F,F,F,F,F,F,F,F,F,F,F,F,F,F,F,F,F,F,F,F,F,F] rfl rfl (any_of HT_.out (by kernel_rfl)) (fun _ _ _ h => h) (Or.inl ⟨by rfl, ?_⟩) ?_ ?_; rotate_left; (intro w'; go_simp; with_reducible rfl); rotate_left; (simp only [Act.put, List.setIfInBounds_toArray, List.set_cons_zero, List.set_cons_succ, i64_w, i32_w]; rfl)
      refine pure_ (i := 4) (N := some 129) (v := ?_) (a' := ?_) #[T,T,T,T,T,F,F,F,F,F,F,F,F,F,F,F,F,F,F,F,F,F,F,F,F,F,F,F,F,F,F,F] rfl rfl (any_of HT_.out (by kernel_rfl)) (fun _ _ _ h => h) (Or.inl ⟨by rfl, ?_⟩) ?_ ?_; rotate_left; (intro w'; go_simp; with_reducible rfl); rotate_left; (simp only [Act.put, List.setIfInBounds_toArray, List.set_cons_zero, List.set_cons_succ, i64_w, i32_w]; rfl)
      refine pure_ (i := 5) (N := some 130) (v := ?_) (a' := ?_) #[T,T,T,T,T,T,F,F,F,F,F,F,F,F,F,F,F,F,F,F,F,F,F,F,F,F,F,F,F,F,F,F] rfl rfl (any_of HT_.out (by kernel_rfl)) (fun _ _ _ h => h) (Or.inl ⟨by rfl, ?_⟩) ?_ ?_; rotate_left; (intro w'; go_simp; with_reducible rfl); rotate_left; (simp only [Act.put, List.setIfInBounds_toArray, List.set_cons_zero, List.set_cons_succ, i64_w, i32_w]; rfl)
      refine pure_ (i := 6) (N := some 131) (v := ?_) (a' := ?_) #[T,T,T,T,T,T,T,F,F,F,F,F,F,F,F,F,F,F,F,F,F,F,F,F,F,F,F,F,F,F,F,F] rfl rfl (any_of HT_.out (by kernel_rfl)) (fun _ _ _ h => h) (Or.inl ⟨by rfl, ?_⟩) ?_ ?_; rotate_left; (intro w'; go_simp; with_reducible rfl); rotate_left; (simp only [Act.put, List.setIfInBounds_toArray, List.set_cons_zero, List.set_cons_succ, i64_w, i32_w]; rfl)
      refine pure_ (i := 7) (N := some 132) (v := ?_) (a' := ?_) #[T,T,T,T,T,T,T,T,F,F,F,F,F,F,F,F,F,F,F,F,F,F,F,F,F,F,F,F,F,F,F,F] rfl rfl (any_of HT_.out (by kernel_rfl)) (fun _ _ _ h => h) (Or.inl ⟨by rfl, ?_⟩) ?_ ?_; rotate_left; (intro w'; go_simp; with_reducible rfl); rotate_left; (simp only [Act.put, List.setIfInBounds_toArray, List.set_cons_zero, List.set_cons_succ, i64_w, i32_w]; rfl)
      refine pure_ (i := 8) (N := some 133) (v := undef) (a' := ?_) #[T,T,T,T,T,T,T,T,T,F,F,F,F,F,F,F,F,F,F,F,F,F,F,F,F,F,F,F,F,F,F,F] rfl rfl (any_of HT_.out (by kernel_rfl)) (fun _ _ _ h => h) (Or.inr ⟨by rfl, rfl⟩) ?_ ?_
      rotate_left
      ·simp only [Act.put, List.setIfInBounds_toArray, List.set_cons_zero, List.set_cons_succ, i64_w, i32_w]
       rfl
      refine pure_ (i := 9) (N := some 134) (v := undef) (a' := ?_) #[T,T,T,T,T,T,T,T,T,T,F,F,F,F,F,F,F,F,F,F,F,F,F,F,F,F,F,F,F,F,F,F] rfl rfl (any_of HT_.out (by kernel_rfl)) (fun _ _ _ h => h) (Or.inr ⟨by rfl, rfl⟩) ?_ ?_
      rotate_left
      ·simp only [Act.put, List.setIfInBounds_toArray, List.set_cons_zero, List.set_cons_succ, i64_w, i32_w]
       rfl
      refine pure_ (i := 10) (N := some 135) (v := undef) (a' := ?_) #[T,T,T,T,T,T,T,T,T,T,T,F,F,F,F,F,F,F,F,F,F,F,F,F,F,F,F,F,F,F,F,F] rfl rfl (any_of HT_.out (by kernel_rfl)) (fun _ _ _ h => h) (Or.inr ⟨by rfl, rfl⟩) ?_ ?_
      rotate_left
      ·simp only [Act.put, List.setIfInBounds_toArray, List.set_cons_zero, List.set_cons_succ, i64_w, i32_w]
       rfl
      refine pure_ (i := 11) (N := some 136) (v := undef) (a' := ?_) #[T,T,T,T,T,T,T,T,T,T,T,T,F,F,F,F,F,F,F,F,F,F,F,F,F,F,F,F,F,F,F,F] rfl rfl (any_of HT_.out (by kernel_rfl)) (fun _ _ _ h => h) (Or.inr ⟨by rfl, rfl⟩) ?_ ?_
      rotate_left
      ·simp only [Act.put, List.setIfInBounds_toArray, List.set_cons_zero, List.set_cons_succ, i64_w, i32_w]
       rfl
      refine pure_ (i := 12) (N := some 137) (v := undef) (a' := ?_) #[T,T,T,T,T,T,T,T,T,T,T,T,T,F,F,F,F,F,F,F,F,F,F,F,F,F,F,F,F,F,F,F] rfl rfl (any_of HT_.out (by kernel_rfl)) (fun _ _ _ h => h) (Or.inr ⟨by rfl, rfl⟩) ?_ ?_
      rotate_left
      ·simp only [Act.put, List.setIfInBounds_toArray, List.set_cons_zero, List.set_cons_succ, i64_w, i32_w]
       rfl
      refine pure_ (i := 13) (N := some 138) (v := undef) (a' := ?_) #[T,T,T,T,T,T,T,T,T,T,T,T,T,T,F,F,F,F,F,F,F,F,F,F,F,F,F,F,F,F,F,F] rfl rfl (any_of HT_.out (by kernel_rfl)) (fun _ _ _ h => h) (Or.inr ⟨by rfl, rfl⟩) ?_ ?_
      rotate_left
      ·simp only [Act.put, List.setIfInBounds_toArray, List.set_cons_zero, List.set_cons_succ, i64_w, i32_w]
       rfl
      refine pure_ (i := 14) (N := some 139) (v := ?_) (a' := ?_) #[T,T,T,T,T,T,T,T,T,T,T,T,T,T,T,F,F,F,F,F,F,F,F,F,F,F,F,F,F,F,F,F] rfl rfl (any_of HT_.out (by kernel_rfl)) (fun _ _ _ h => h) (Or.inl ⟨by rfl, ?_⟩) ?_ ?_; rotate_left; (intro w'; go_simp; with_reducible rfl); rotate_left; (simp only [Act.put, List.setIfInBounds_toArray, List.set_cons_zero, List.set_cons_succ, i64_w, i32_w]; rfl)
      refine pure_ (i := 15) (N := some 140) (v := ?_) (a' := ?_) #[T,T,T,T,T,T,T,T,T,T,T,T,T,T,T,T,F,F,F,F,F,F,F,F,F,F,F,F,F,F,F,F] rfl rfl (any_of HT_.out (by kernel_rfl)) (fun _ _ _ h => h) (Or.inl ⟨by rfl, ?_⟩) ?_ ?_; rotate_left; (intro w'; go_simp; with_reducible rfl); rotate_left; (simp only [Act.put, List.setIfInBounds_toArray, List.set_cons_zero, List.set_cons_succ, i64_w, i32_w]; rfl)
      refine pure_ (i := 16) (N := some 141) (v := ?_) (a' := ?_) #[T,T,T,T,T,T,T,T,T,T,T,T,T,T,T,T,T,F,F,F,F,F,F,F,F,F,F,F,F,F,F,F] rfl rfl (any_of HT_.out (by kernel_rfl)) (fun _ _ _ h => h) (Or.inl ⟨by rfl, ?_⟩) ?_ ?_; rotate_left; (intro w'; go_simp; with_reducible rfl); rotate_left; (simp only [Act.put, List.setIfInBounds_toArray, List.set_cons_zero, List.set_cons_succ, i64_w, i32_w]; rfl)
      refine pure_ (i := 17) (N := some 142) (v := ?_) (a' := ?_) #[T,T,T,T,T,T,T,T,T,T,T,T,T,T,T,T,T,T,F,F,F,F,F,F,F,F,F,F,F,F,F,F] rfl rfl (any_of HT_.out (by kernel_rfl)) (fun _ _ _ h => h) (Or.inl ⟨by rfl, ?_⟩) ?_ ?_; rotate_left; (intro w'; go_simp; with_reducible rfl); rotate_left; (simp only [Act.put, List.setIfInBounds_toArray, List.set_cons_zero, List.set_cons_succ, i64_w, i32_w]; rfl)
      refine pure_ (i := 19) (N := some 144) (v := ?_) (a' := ?_) #[T,T,T,T,T,T,T,T,T,T,T,T,T,T,T,T,T,T,F,T,F,F,F,F,F,F,F,F,F,F,F,F] rfl rfl (any_of HT_.out (by kernel_rfl)) (fun _ _ _ h => h) (Or.inl ⟨by rfl, ?_⟩) ?_ ?_; rotate_left; (intro w'; go_simp; with_reducible rfl); rotate_left; (simp only [Act.put, List.setIfInBounds_toArray, List.set_cons_zero, List.set_cons_succ, i64_w, i32_w]; rfl)
      refine pure_ (i := 22) (N := some 147) (v := ?_) (a' := ?_) #[T,T,T,T,T,T,T,T,T,T,T,T,T,T,T,T,T,T,F,T,F,F,T,F,F,F,F,F,F,F,F,F] rfl rfl (any_of HT_.out (by kernel_rfl)) (fun _ _ _ h => h) (Or.inl ⟨by rfl, ?_⟩) ?_ ?_; rotate_left; (intro w'; go_simp; with_reducible rfl); rotate_left; (simp only [Act.put, List.setIfInBounds_toArray, List.set_cons_zero, List.set_cons_succ, i64_w, i32_w]; rfl)
      refine pure_ (i := 23) (N := some 148) (v := ?_) (a' := ?_) #[T,T,T,T,T,T,T,T,T,T,T,T,T,T,T,T,T,T,F,T,F,F,T,T,F,F,F,F,F,F,F,F] rfl rfl (any_of HT_.out (by kernel_rfl)) (fun _ _ _ h => h) (Or.inl ⟨by rfl, ?_⟩) ?_ ?_; rotate_left; (intro w'; go_simp; with_reducible rfl); rotate_left; (simp only [Act.put, List.setIfInBounds_toArray, List.set_cons_zero, List.set_cons_succ, i64_w, i32_w]; rfl)
      refine pure_ (i := 24) (N := some 149) (v := ?_) (a' := ?_) #[T,T,T,T,T,T,T,T,T,T,T,T,T,T,T,T,T,T,F,T,F,F,T,T,T,F,F,F,F,F,F,F] rfl rfl (any_of HT_.out (by kernel_rfl)) (fun _ _ _ h => h) (Or.inl ⟨by rfl, ?_⟩) ?_ ?_; rotate_left; (intro w'; go_simp; with_reducible rfl); rotate_left; (simp only [Act.put, List.setIfInBounds_toArray, List.set_cons_zero, List.set_cons_succ, i64_w, i32_w]; rfl)
      refine pure_ (i := 25) (N := some 150) (v := ?_) (a' := ?_) #[T,T,T,T,T,T,T,T,T,T,T,T,T,T,T,T,T,T,F,T,F,F,T,T,T,T,F,F,F,F,F,F] rfl rfl (any_of HT_.out (by kernel_rfl)) (fun _ _ _ h => h) (Or.inl ⟨by rfl, ?_⟩) ?_ ?_; rotate_left; (intro w'; go_simp; with_reducible rfl); rotate_left; (simp only [Act.put, List.setIfInBounds_toArray, List.set_cons_zero, List.set_cons_succ, i64_w, i32_w]; rfl)
      refine pure_ (i := 27) (N := some 152) (v := ?_) (a' := ?_) #[T,T,T,T,T,T,T,T,T,T,T,T,T,T,T,T,T,T,F,T,F,F,T,T,T,T,F,T,F,F,F,F] rfl rfl (any_of HT_.out (by kernel_rfl)) (fun _ _ _ h => h) (Or.inl ⟨by rfl, ?_⟩) ?_ ?_; rotate_left; (intro w'; go_simp; with_reducible rfl); rotate_left; (simp only [Act.put, List.setIfInBounds_toArray, List.set_cons_zero, List.set_cons_succ, i64_w, i32_w]; rfl)
      refine take_ (i := 18) (N := some 143) (v := ?_) (a' := ?_) #[T,T,T,T,T,T,T,T,T,T,T,T,T,T,T,T,T,T,T,T,F,F,T,T,T,T,F,T,F,F,F,F] rfl rfl (take_ofW HT_.out HW_.out (by kernel_rfl)) (fun _ _ _ h => h) (Or.inl ⟨by rfl, ?_⟩) hHeld ?_ ?_; rotate_left; (rintro w' ⟨s0, s1, s2, s3, s4, s5⟩; go_simp; with_reducible rfl); rotate_left; (simp only [Act.put, List.setIfInBounds_toArray, List.set_cons_zero, List.set_cons_succ, i64_w, i32_w]; rfl)
      refine take_ (i := 20) (N := some 145) (v := ?_) (a' := ?_) #[T,T,T,T,T,T,T,T,T,T,T,T,T,T,T,T,T,T,T,T,T,F,T,T,T,T,F,T,F,F,F,F] rfl rfl (take_ofW HT_.out HW_.out (by kernel_rfl)) (fun _ _ _ h => h) (Or.inl ⟨by rfl, ?_⟩) hHeld ?_ ?_; rotate_left; (rintro w' ⟨s0, s1, s2, s3, s4, s5⟩; go_simp; with_reducible rfl); rotate_left; (simp only [Act.put, List.setIfInBounds_toArray, List.set_cons_zero, List.set_cons_succ, i64_w, i32_w]; rfl)
      refine pure_ (i := 21) (N := some 146) (v := ?_) (a' := ?_) #[T,T,T,T,T,T,T,T,T,T,T,T,T,T,T,T,T,T,T,T,T,T,T,T,T,T,F,T,F,F,F,F] rfl rfl (any_of HT_.out (by kernel_rfl)) (fun _ _ _ h => h) (Or.inl ⟨by rfl, ?_⟩) ?_ ?_; rotate_left; (intro w'; go_simp; with_reducible rfl); rotate_left; (simp only [Act.put, List.setIfInBounds_toArray, List.set_cons_zero, List.set_cons_succ, i64_w, i32_w]; rfl)
      refine take_ (i := 26) (N := some 151) (v := ?_) (a' := ?_) #[T,T,T,T,T,T,T,T,T,T,T,T,T,T,T,T,T,T,T,T,T,T,T,T,T,T,T,T,F,F,F,F] rfl rfl (take_ofW HT_.out HW_.out (by kernel_rfl)) (fun _ _ _ h => h) (Or.inl ⟨by rfl, ?_⟩) hHeld ?_ ?_; rotate_left; (rintro w' ⟨s0, s1, s2, s3, s4, s5⟩; go_simp; with_reducible rfl); rotate_left; (simp only [Act.put, List.setIfInBounds_toArray, List.set_cons_zero, List.set_cons_succ, i64_w, i32_w]; rfl)
      refine one_ (i := 28) (N := some 153) #[T,T,T,T,T,T,T,T,T,T,T,T,T,T,T,T,T,T,T,T,T,T,T,T,T,T,T,T,T,F,F,F] rfl rfl (one_of HT_.out (by kernel_rfl)) (by decide) (fun K hK => ?_)
      refine goes_ Tryd.func23 (by kernel_rfl) rfl #[.slice A121_3 ((rd_T38 l3 x11_2).f2).length c121_3, .int .i64 x13_4] (by rfl) rfl rfl (by (try simp only [List.map_toArray, List.map_cons, List.map_nil]); first | done | rfl | (simp only [List.length_drop, List.length_take]; rfl)) ?_
      with_reducible refine (table_Column.calls _ _ ((rd_T38 l3 x11_2).f2) x13_4 t122 _ ?side1 ?side2 A50.out).mono ?_
      (case side1 => repeat (first | exact (by repeat (first | (with_reducible exact HR121_3.out) | (with_reducible refine Kd.C_alloc ?_ _) | (with_reducible refine Kd.C_drewN ?_ _) | (with_reducible refine Kd.C_drew ?_) | exact HR121_3.out)) | (with_reducible refine Kd.C_alloc ?_ _) | (with_reducible refine Kd.C_drewN ?_ _) | (with_reducible refine Kd.C_drew ?_)))
      (case side2 => exact HC121_3.out)
      rintro e w59 ⟨v123, rfl, ho0, hb⟩
      have HS2_ := (hb.cell (World.block_lt_of_cell? _ _ (hHeld.2.2.1))).trans (hHeld.2.2.1)
      have HS3_ := (hb.cell (World.block_lt_of_cell? _ _ (hHeld.2.2.2.1))).trans (hHeld.2.2.2.1)
      have HS4_ := (hb.cell (World.block_lt_of_cell? _ _ (hHeld.2.2.2.2.1))).trans (hHeld.2.2.2.2.1)
      have HS5_ := (hb.cell (World.block_lt_of_cell? _ _ (hHeld.2.2.2.2.2))).trans (hHeld.2.2.2.2.2)
      refine ⟨_, rfl, ?_⟩
      have n0_ := Aside0.mk (Kd.V_elder' (by (with_reducible repeat (first | apply Kd.V_alloc | apply Kd.V_drewN | apply Kd.V_drew)); exact HO_8.out) (Kd.R_base ho0) hb)
      have n1_ := Aside0.mk (Kd.V_elder' (by (with_reducible repeat (first | apply Kd.V_alloc | apply Kd.V_drewN | apply Kd.V_drew)); exact HO_105000.out) (Kd.R_base ho0) hb)
      have n2_ := Aside0.mk (Kd.V_elder' (by (with_reducible repeat (first | apply Kd.V_alloc | apply Kd.V_drewN | apply Kd.V_drew)); exact HO_105003.out) (Kd.R_base ho0) hb)
      have n3_ := Aside0.mk (Kd.V_elder' (by (with_reducible repeat (first | apply Kd.V_alloc | apply Kd.V_drewN | apply Kd.V_drew)); exact HL115_0.out) (Kd.R_base ho0) hb)
      have n4_ := Aside0.mk (Kd.V_elder' (by (with_reducible repeat (first | apply Kd.V_alloc | apply Kd.V_drewN | apply Kd.V_drew)); exact HL115_3.out) (Kd.R_base ho0) hb)
      have n5_ := Aside0.mk (Kd.V_elder' (by (with_reducible repeat (first | apply Kd.V_alloc | apply Kd.V_drewN | apply Kd.V_drew)); exact HL117_0.out) (Kd.R_base ho0) hb)
      have n6_ := Aside0.mk (Kd.V_elder' (by (with_reducible repeat (first | apply Kd.V_alloc | apply Kd.V_drewN | apply Kd.V_drew)); exact HL117_3.out) (Kd.R_base ho0) hb)
      have n7_ := Aside0.mk (Kd.V_elder' (by (with_reducible repeat (first | apply Kd.V_alloc | apply Kd.V_drewN | apply Kd.V_drew)); exact HL121_0.out) (Kd.R_base ho0) hb)
      have n8_ := Aside0.mk (Kd.V_elder' (by (with_reducible repeat (first | apply Kd.V_alloc | apply Kd.V_drewN | apply Kd.V_drew)); exact HL121_3.out) (Kd.R_base ho0) hb)
      have n9_ := Aside0.mk (Kd.R_lower (Kd.R_newM (M := fun k_ => (w.heap.size ≤ k_)) ho0 (below_size (by repeat (first | (with_reducible first | exact HB.out | apply below_alloc | apply pw_below_drewN | apply below_drew1 | refine below_set ?_ GE104.out | refine below_set ?_ GE119.out) | exact HB.out))) (fun k_ h_ => h_)) (below_size (by repeat (first | (with_reducible first | exact HB.out | apply below_alloc | apply pw_below_drewN | apply below_drew1 | refine below_set ?_ GE104.out | refine below_set ?_ GE119.out) | exact HB.out))))
      have n10_ := Aside0.mk (blk_below (g := gb104) (o := .cells #[.slice (some ad120) x105000_2.length co56, .int .i64 x105001_2, .int .i64 x105002_2, u105003] 38 (0, 0)) (by (with_reducible repeat (first | refine blk_drewN ?_ _ | refine blk_drew ?_ | refine blk_alloc ?_ _)); exact BK104.out) hb)
      have n11_ := Aside0.mk (blk_below (g := gb119) (o := .cells #[.int .i64 ((rd_T36 ((rd_T38 l3 x11_2).f0) x13_4).f0), .int .i64 ((rd_T36 ((rd_T38 l3 x11_2).f0) x13_4).f1)] 36 (0, 0)) (by (with_reducible repeat (first | refine blk_drewN ?_ _ | refine blk_drew ?_ | refine blk_alloc ?_ _)); exact BK119.out) hb)
      have n12_ := Aside0.mk (Kd.C_below (by repeat (first | (with_reducible exact HR121_0.out) | (with_reducible refine Kd.C_alloc ?_ _) | (with_reducible refine Kd.C_drewN ?_ _) | (with_reducible refine Kd.C_drew ?_) | exact HR121_0.out)) hb)
      have n13_ := Aside0.mk (Kd.C_below (by repeat (first | (with_reducible exact HR121_3.out) | (with_reducible refine Kd.C_alloc ?_ _) | (with_reducible refine Kd.C_drewN ?_ _) | (with_reducible refine Kd.C_drew ?_) | exact HR121_3.out)) hb)
      have n14_ := Aside0.mk (below_step (by repeat (first | (with_reducible first | exact HB.out | apply below_alloc | apply pw_below_drewN | apply below_drew1 | refine below_set ?_ GE104.out | refine below_set ?_ GE119.out) | exact HB.out)) hb)
      clear HO_8; clear HO_105000; clear HO_105003; clear HL115_0; clear HL115_3; clear HL117_0; clear HL117_3; clear HL121_0; clear HL121_3; clear BK104; clear BK119; clear HR121_0; clear HR121_3; clear HB
      have HO_8 := n0_
      have HO_105000 := n1_
      have HO_105003 := n2_
      have HL115_0 := n3_
      have HL115_3 := n4_
      have HL117_0 := n5_
      have HL117_3 := n6_
      have HL121_0 := n7_
      have HL121_3 := n8_
      have HO124 := n9_
      have BK104 := n10_
      have BK119 := n11_
      have HR121_0 := n12_
      have HR121_3 := n13_
      have HB := n14_
      clear n0_ n1_ n2_ n3_ n4_ n5_ n6_ n7_ n8_ n9_ n10_ n11_ n12_ n13_ n14_
      (try clear hb)
      (try clear hb2)
      (try clear hk)
      (try clear hi)
      (try clear ho0)
      obtain ⟨Ao60, co60, eo60⟩ := Kd.R_slice HO124.out
      (first | subst eo60 | (injection eo60 with f1_ f2_ f3_; have f4_ := f1_.symm; have f5_ := f3_.symm; clear f1_ f2_ f3_; subst f4_; subst f5_))
      refine hK.out _ _ ⟨(blk_cell BK119.out 0).trans rfl, (blk_cell BK119.out 1).trans rfl, HS2_, HS3_, HS4_, HS5_⟩ (fun hHeld => ?_)
      clear hK K
      refine norm_ (a' := ?_) ?_ ?_
      rotate_left
      ·show Act.put _ (some 153) _ = _
       simp only [Act.put, List.setIfInBounds_toArray, List.set_cons_zero, List.set_cons_succ, i64_w, i32_w]
       rfl
      refine pure_ (i := 29) (N := some 154) (v := ?_) (a' := ?_) #[T,T,T,T,T,T,T,T,T,T,T,T,T,T,T,T,T,T,T,T,T,T,T,T,T,T,T,T,T,T,F,F] rfl rfl (any_of HT_.out (by kernel_rfl)) (fun _ _ _ h => h) (Or.inl ⟨by rfl, ?_⟩) ?_ ?_; rotate_left; (intro w'; go_simp; with_reducible rfl); rotate_left; (simp only [Act.put, List.setIfInBounds_toArray, List.set_cons_zero, List.set_cons_succ, i64_w, i32_w]; rfl)
      refine pure_ (i := 30) (N := some 155) (v := ?_) (a' := ?_) #[T,T,T,T,T,T,T,T,T,T,T,T,T,T,T,T,T,T,T,T,T,T,T,T,T,T,T,T,T,T,T,F] rfl rfl (any_of HT_.out (by kernel_rfl)) (fun _ _ _ h => h) (Or.inl ⟨by rfl, ?_⟩) ?_ ?_; rotate_left; (intro w'; go_simp; with_reducible rfl); rotate_left; (simp only [Act.put, List.setIfInBounds_toArray, List.set_cons_zero, List.set_cons_succ, i64_w, i32_w]; rfl)
      refine pure_ (i := 31) (N := some 156) (v := ?_) (a' := ?_) #[T,T,T,T,T,T,T,T,T,T,T,T,T,T,T,T,T,T,T,T,T,T,T,T,T,T,T,T,T,T,T,T] rfl rfl (any_of HT_.out (by kernel_rfl)) (fun _ _ _ h => h) (Or.inl ⟨by rfl, ?_⟩) ?_ ?_; rotate_left; (intro w'; go_simp; with_reducible rfl); rotate_left; (simp only [Act.put, List.setIfInBounds_toArray, List.set_cons_zero, List.set_cons_succ, i64_w, i32_w]; rfl)
      refine done_ (done_of HT_.out (by kernel_rfl)) ?_
      try go_wp2
      go_roundg k4
      case measure => have := HJ5.out; have := HK2.out; have := HJ16.out; have := HK4.out; omega
      case rel => exact ⟨(wrap64 (x13_4 + 1)), (by first | rfl | (simp; done) | (simp [*]; done)), H', ⟨by have := HJ5.out; have := HK2.out; have := HJ16.out; have := HK4.out; omega⟩, ⟨by (with_reducible repeat (first | apply Kd.V_alloc | apply Kd.V_drewN | apply Kd.V_drew)); exact Kd.V_mono HO_8.out (fun _ hk => ⟨hk.1.1, hk.1.2.1⟩)⟩, ⟨by (with_reducible repeat (first | apply Kd.V_alloc | apply Kd.V_drewN | apply Kd.V_drew)); exact Kd.V_mono HO_105000.out (fun _ hk => ⟨hk.1.1, hk.1.2.1⟩)⟩, ⟨by (with_reducible repeat (first | apply Kd.V_alloc | apply Kd.V_drewN | apply Kd.V_drew)); exact Kd.V_mono HO_105003.out (fun _ hk => ⟨hk.1.1, hk.1.2.1⟩)⟩, ⟨by (with_reducible repeat (first | refine blk_drewN ?_ _ | refine blk_drew ?_ | refine blk_alloc ?_ _)); exact BK104.out⟩, ⟨by repeat (first | (with_reducible first | exact HB.out | apply below_alloc | apply pw_below_drewN | apply below_drew1 | refine below_set ?_ GE104.out | refine below_set ?_ GE119.out) | exact HB.out)⟩⟩
     replace c49 := Bool.eq_false_iff.mpr c49
     subst c49
     have H1 : (if (wrap64 (((rd_T36 ((rd_T38 l3 x11_2).f0) x13_4).f0) - ((rd_T36 x105000_2 x13_4).f1))) = (wrap64 (((rd_T38 l3 x11_2).f1.f0) - x105002_2)) then ((table_Column.f ((rd_T38 l3 x11_2).f2) x13_4).bind fun t126 => (if (wrap64 (((rd_T36 ((rd_T38 l3 x11_2).f0) x13_4).f1) - ((rd_T36 ((rd_T38 l3 x11_2).f0) x13_4).f0))) = (t126.length : Int) then (sennitlaw21_HunkSpans.l1 k4 l0 false t101 l3 x11_2 (wrap64 (((rd_T38 l3 x11_2).f1.f0) - x105002_2)) (wrap64 (x13_4 + 1)) x105000_2 x105001_2 x105002_2 x105003_2) else (some false))) else (some false)) = some r := by rw [if_neg (show ¬ (false = true) by decide)] at H; exact H
     clear H
     have H := H1
     clear H1
     by_cases c70 : (wrap64 (((rd_T36 ((rd_T38 l3 x11_2).f0) x13_4).f0) - ((rd_T36 x105000_2 x13_4).f1))) = (wrap64 (((rd_T38 l3 x11_2).f1.f0) - x105002_2))
     rotate_left
     ·rw [if_neg c70] at H
      have c70b0 : ((wrap64 (((rd_T36 ((rd_T38 l3 x11_2).f0) x13_4).f0) - ((rd_T36 x105000_2 x13_4).f1))) == (wrap64 (((rd_T38 l3 x11_2).f1.f0) - x105002_2))) = false := beq_eq_false_iff_ne.mpr c70
      have c70b1 : ((wrap64 (((rd_T36 ((rd_T38 l3 x11_2).f0) x13_4).f0) - ((rd_T36 x105000_2 x13_4).f1))) != (wrap64 (((rd_T38 l3 x11_2).f1.f0) - x105002_2))) = true := bne_iff_ne.mpr c70
      exact absurd ((Option.some.inj H).trans HRT.out) (by decide)
     rw [if_pos c70] at H
     have c70b0 : ((wrap64 (((rd_T36 ((rd_T38 l3 x11_2).f0) x13_4).f0) - ((rd_T36 x105000_2 x13_4).f1))) == (wrap64 (((rd_T38 l3 x11_2).f1.f0) - x105002_2))) = true := beq_iff_eq.mpr c70
     have c70b1 : ((wrap64 (((rd_T36 ((rd_T38 l3 x11_2).f0) x13_4).f0) - ((rd_T36 x105000_2 x13_4).f1))) != (wrap64 (((rd_T38 l3 x11_2).f1.f0) - x105002_2))) = false := bne_eq_false_iff_eq.mpr c70
     clear c70
     replace H := Option.bind_eq_some_iff.mp H
     obtain ⟨t126, A710, H⟩ := H
     replace H : (if (wrap64 (((rd_T36 ((rd_T38 l3 x11_2).f0) x13_4).f1) - ((rd_T36 ((rd_T38 l3 x11_2).f0) x13_4).f0))) = (t126.length : Int) then (sennitlaw21_HunkSpans.l1 k4 l0 false t101 l3 x11_2 (wrap64 (((rd_T38 l3 x11_2).f1.f0) - x105002_2)) (wrap64 (x13_4 + 1)) x105000_2 x105001_2 x105002_2 x105003_2) else (some false)) = some r := H
     have A71 := Aside0.mk A710
     clear A710
     by_cases c72 : (wrap64 (((rd_T36 ((rd_T38 l3 x11_2).f0) x13_4).f1) - ((rd_T36 ((rd_T38 l3 x11_2).f0) x13_4).f0))) = (t126.length : Int)
     rotate_left
     ·rw [if_neg c72] at H
      have c72b0 : ((wrap64 (((rd_T36 ((rd_T38 l3 x11_2).f0) x13_4).f1) - ((rd_T36 ((rd_T38 l3 x11_2).f0) x13_4).f0))) == (t126.length : Int)) = false := beq_eq_false_iff_ne.mpr c72
      have c72b1 : ((wrap64 (((rd_T36 ((rd_T38 l3 x11_2).f0) x13_4).f1) - ((rd_T36 ((rd_T38 l3 x11_2).f0) x13_4).f0))) != (t126.length : Int)) = true := bne_iff_ne.mpr c72
      exact absurd ((Option.some.inj H).trans HRT.out) (by decide)
     rw [if_pos c72] at H
     have c72b0 : ((wrap64 (((rd_T36 ((rd_T38 l3 x11_2).f0) x13_4).f1) - ((rd_T36 ((rd_T38 l3 x11_2).f0) x13_4).f0))) == (t126.length : Int)) = true := beq_iff_eq.mpr c72
     have c72b1 : ((wrap64 (((rd_T36 ((rd_T38 l3 x11_2).f0) x13_4).f1) - ((rd_T36 ((rd_T38 l3 x11_2).f0) x13_4).f0))) != (t126.length : Int)) = false := bne_eq_false_iff_eq.mpr c72
     clear c72
     have H' := Aside0.mk H
     clear H
     have p115 : 0 ≤ (x11_2 : Int) := of_decide_eq_true (by first | (with_reducible assumption) | assumption)
     have q115 : x11_2 < (l3.length : Int) := of_decide_eq_true (by first | (with_reducible assumption) | assumption)
     obtain ⟨ad115, A115_0, c115_0, A115_3, c115_3, e115, hx115_0, hx115_1, hx115_2, hx115_3, hl115_0, hi115_0, hl115_3, hi115_3⟩ := at_T38 (Kd.V_reads' HO_8.out).2.2 x11_2 p115 q115
     obtain rfl : ad105 = ad115 := (by injection e115)
     obtain ⟨ce115, hce115, hMe115, hcc115⟩ := Kd.V_get HO_8.out z38 x11_2 p115 (by first | exact q115 | exact of_decide_eq_true (by first | (with_reducible assumption) | assumption) | (have e_ := (Kd.V_reads' HO_8.out).1; omega))
     obtain ⟨ua115_0, uc115_0, ua115_3, uc115_3, rfl, ul115_0, ge115_0, ul115_3, ge115_3⟩ := k38_openF hMe115
     have hv115_0 := hcc115 0 _ rfl
     rw [Nat.add_zero] at hv115_0
     replace hv115_0 := Option.some.inj (hv115_0.symm.trans hx115_0)
     injection hv115_0 with hva_ hvn_ hvc_
     rw [hva_] at ge115_0
     rw [hvc_] at ul115_0
     have HL115_0 := Aside0.mk (show Kd.V k36 36 _ w.heap.size _ _ ((rd_T38 l3 x11_2).f0) from Kd.V_mk ul115_0 ge115_0)
     clear hva_ hvn_ hvc_ ge115_0 ul115_0
     have hv115_3 := hcc115 3 _ rfl
     rw [add_field _ _ 3 (by omega)] at hv115_3
     replace hv115_3 := Option.some.inj (hv115_3.symm.trans hx115_3)
     injection hv115_3 with hva_ hvn_ hvc_
     rw [hva_] at ge115_3
     rw [hvc_] at ul115_3
     have HL115_3 := Aside0.mk (show Kd.V k41 41 _ w.heap.size _ _ ((rd_T38 l3 x11_2).f2) from Kd.V_mk ul115_3 ge115_3)
     clear hva_ hvn_ hvc_ ge115_3 ul115_3; clear hcc115 hce115
     have HR115_0 := Aside0.mk hi115_0
     have HC115_0 := Aside0.mk hl115_0
     clear hi115_0 hl115_0
     have HR115_3 := Aside0.mk hi115_3
     have HC115_3 := Aside0.mk hl115_3
     clear hi115_3 hl115_3
     replace p115 := eq_true p115
     replace q115 := eq_true q115
     have p117 : 0 ≤ (x11_2 : Int) := of_decide_eq_true (by first | (with_reducible assumption) | assumption)
     have q117 : x11_2 < (l3.length : Int) := of_decide_eq_true (by first | (with_reducible assumption) | assumption)
     obtain ⟨ad117, A117_0, c117_0, A117_3, c117_3, e117, hx117_0, hx117_1, hx117_2, hx117_3, hl117_0, hi117_0, hl117_3, hi117_3⟩ := at_T38 (Kd.V_reads' HO_8.out).2.2 x11_2 p117 q117
     obtain rfl : ad105 = ad117 := (by injection e117)
     obtain ⟨ce117, hce117, hMe117, hcc117⟩ := Kd.V_get HO_8.out z38 x11_2 p117 (by first | exact q117 | exact of_decide_eq_true (by first | (with_reducible assumption) | assumption) | (have e_ := (Kd.V_reads' HO_8.out).1; omega))
     obtain ⟨ua117_0, uc117_0, ua117_3, uc117_3, rfl, ul117_0, ge117_0, ul117_3, ge117_3⟩ := k38_openF hMe117
     have hv117_0 := hcc117 0 _ rfl
     rw [Nat.add_zero] at hv117_0
     replace hv117_0 := Option.some.inj (hv117_0.symm.trans hx117_0)
     injection hv117_0 with hva_ hvn_ hvc_
     rw [hva_] at ge117_0
     rw [hvc_] at ul117_0
     have HL117_0 := Aside0.mk (show Kd.V k36 36 _ w.heap.size _ _ ((rd_T38 l3 x11_2).f0) from Kd.V_mk ul117_0 ge117_0)
     clear hva_ hvn_ hvc_ ge117_0 ul117_0
     have hv117_3 := hcc117 3 _ rfl
     rw [add_field _ _ 3 (by omega)] at hv117_3
     replace hv117_3 := Option.some.inj (hv117_3.symm.trans hx117_3)
     injection hv117_3 with hva_ hvn_ hvc_
     rw [hva_] at ge117_3
     rw [hvc_] at ul117_3
     have HL117_3 := Aside0.mk (show Kd.V k41 41 _ w.heap.size _ _ ((rd_T38 l3 x11_2).f2) from Kd.V_mk ul117_3 ge117_3)
     clear hva_ hvn_ hvc_ ge117_3 ul117_3; clear hcc117 hce117
     have HR117_0 := Aside0.mk hi117_0
     have HC117_0 := Aside0.mk hl117_0
     clear hi117_0 hl117_0
     have HR117_3 := Aside0.mk hi117_3
     have HC117_3 := Aside0.mk hl117_3
     clear hi117_3 hl117_3
     replace p117 := eq_true p117
     replace q117 := eq_true q117
     have ea_ := Option.some.inj (hx115_0.symm.trans hx117_0)
     injection ea_ with ea_ en_ ec_
     subst ea_
     subst ec_
     clear en_
     have ea_ := Option.some.inj (hx115_3.symm.trans hx117_3)
     injection ea_ with ea_ en_ ec_
     subst ea_
     subst ec_
     clear en_
     have p118 : 0 ≤ (x13_4 : Int) := of_decide_eq_true (by first | (with_reducible assumption) | assumption)
     have q118 : x13_4 < (((rd_T38 l3 x11_2).f0).length : Int) := of_decide_eq_true (by first | (with_reducible assumption) | assumption)
     obtain ⟨ad118, e118, hx118_0, hx118_1⟩ := at_T36 (by repeat (first | (with_reducible exact HR117_0.out) | (with_reducible refine Kd.C_alloc ?_ _) | (with_reducible refine Kd.C_drewN ?_ _) | (with_reducible refine Kd.C_drew ?_) | exact HR117_0.out)) x13_4 p118 q118
     cases e118
     replace p118 := eq_true p118
     replace q118 := eq_true q118
     try go_wp2_with (first | ((with_reducible refine gate_dst (N := 14) rfl ?_); (try (refine gate_guard (by rfl) ?_; dsimp only)); refine box_event ?hg (N := 14) ?hd (cs := #[.int .i64 0, .int .i64 0]) (t := 36) ?hr ?_; (case hd => rfl); (case hg => rfl); (case hr => first | (go_simp; done) | (go_simp; rfl)); intro gb119 hg w73 hbox hb; have n0_ := Aside0.mk (Kd.V_below (Kd.V_elderB (by (with_reducible repeat (first | apply Kd.V_alloc | apply Kd.V_drewN | apply Kd.V_drew)); exact HO_8.out) gb119 (Nat.le_of_eq hg.symm)) hb); have n1_ := Aside0.mk (Kd.V_below (Kd.V_elderB (by (with_reducible repeat (first | apply Kd.V_alloc | apply Kd.V_drewN | apply Kd.V_drew)); exact HO_105000.out) gb119 (Nat.le_of_eq hg.symm)) hb); have n2_ := Aside0.mk (Kd.V_below (Kd.V_elderB (by (with_reducible repeat (first | apply Kd.V_alloc | apply Kd.V_drewN | apply Kd.V_drew)); exact HO_105003.out) gb119 (Nat.le_of_eq hg.symm)) hb); have n3_ := Aside0.mk (Kd.V_below (Kd.V_elderB (by (with_reducible repeat (first | apply Kd.V_alloc | apply Kd.V_drewN | apply Kd.V_drew)); exact HL115_0.out) gb119 (Nat.le_of_eq hg.symm)) hb); have n4_ := Aside0.mk (Kd.V_below (Kd.V_elderB (by (with_reducible repeat (first | apply Kd.V_alloc | apply Kd.V_drewN | apply Kd.V_drew)); exact HL115_3.out) gb119 (Nat.le_of_eq hg.symm)) hb); have n5_ := Aside0.mk (Kd.V_below (Kd.V_elderB (by (with_reducible repeat (first | apply Kd.V_alloc | apply Kd.V_drewN | apply Kd.V_drew)); exact HL117_0.out) gb119 (Nat.le_of_eq hg.symm)) hb); have n6_ := Aside0.mk (Kd.V_below (Kd.V_elderB (by (with_reducible repeat (first | apply Kd.V_alloc | apply Kd.V_drewN | apply Kd.V_drew)); exact HL117_3.out) gb119 (Nat.le_of_eq hg.symm)) hb); have n7_ := Aside0.mk (blk_below (g := gb104) (o := .cells #[u105000, .int .i64 x105001_2, .int .i64 x105002_2, u105003] 38 (0, 0)) (by (with_reducible repeat (first | refine blk_drewN ?_ _ | refine blk_drew ?_ | refine blk_alloc ?_ _)); exact BK104.out) hb); have n8_ := Aside0.mk (Kd.C_below (by repeat (first | (with_reducible exact HR115_0.out) | (with_reducible refine Kd.C_alloc ?_ _) | (with_reducible refine Kd.C_drewN ?_ _) | (with_reducible refine Kd.C_drew ?_) | exact HR115_0.out)) hb); have n9_ := Aside0.mk (Kd.C_below (by repeat (first | (with_reducible exact HR115_3.out) | (with_reducible refine Kd.C_alloc ?_ _) | (with_reducible refine Kd.C_drewN ?_ _) | (with_reducible refine Kd.C_drew ?_) | exact HR115_3.out)) hb); have n10_ := Aside0.mk (Kd.C_below (by repeat (first | (with_reducible exact HR117_0.out) | (with_reducible refine Kd.C_alloc ?_ _) | (with_reducible refine Kd.C_drewN ?_ _) | (with_reducible refine Kd.C_drew ?_) | exact HR117_0.out)) hb); have n11_ := Aside0.mk (Kd.C_below (by repeat (first | (with_reducible exact HR117_3.out) | (with_reducible refine Kd.C_alloc ?_ _) | (with_reducible refine Kd.C_drewN ?_ _) | (with_reducible refine Kd.C_drew ?_) | exact HR117_3.out)) hb); have n12_ := Aside0.mk (below_step (by repeat (first | (with_reducible first | exact HB.out | apply below_alloc | apply pw_below_drewN | apply below_drew1 | refine below_set ?_ GE104.out) | exact HB.out)) hb); have n13_ := Aside0.mk (hbox); have n14_ := Aside0.mk ((by rw [hg]; exact (below_size (by repeat (first | (with_reducible first | exact HB.out | apply below_alloc | apply pw_below_drewN | apply below_drew1 | refine below_set ?_ GE104.out) | exact HB.out))) : w.heap.size ≤ gb119)); have n15_ := Aside0.mk ((by rw [hg]; exact (below_size (by repeat (first | (with_reducible first | exact HB.out | apply below_alloc | apply pw_below_drewN | apply below_drew1 | refine below_set ?_ GE104.out) | exact HB.out))) : w.heap.size ≤ gb119)); have n16_ := Aside0.mk ((by rw [hg]; exact Nat.ne_of_lt (blk_lt (g := gb104) (o := .cells #[u105000, .int .i64 x105001_2, .int .i64 x105002_2, u105003] 38 (0, 0)) (by (with_reducible repeat (first | refine blk_drewN ?_ _ | refine blk_drew ?_ | refine blk_alloc ?_ _)); exact BK104.out)) : gb104 ≠ gb119)); have n17_ := Aside0.mk ((by rw [hg]; exact Nat.ne_of_gt (blk_lt (g := gb104) (o := .cells #[u105000, .int .i64 x105001_2, .int .i64 x105002_2, u105003] 38 (0, 0)) (by (with_reducible repeat (first | refine blk_drewN ?_ _ | refine blk_drew ?_ | refine blk_alloc ?_ _)); exact BK104.out)) : gb119 ≠ gb104)); clear HO_8; clear HO_105000; clear HO_105003; clear HL115_0; clear HL115_3; clear HL117_0; clear HL117_3; clear BK104; clear HR115_0; clear HR115_3; clear HR117_0; clear HR117_3; clear HB; have HO_8 := n0_; have HO_105000 := n1_; have HO_105003 := n2_; have HL115_0 := n3_; have HL115_3 := n4_; have HL117_0 := n5_; have HL117_3 := n6_; have BK104 := n7_; have HR115_0 := n8_; have HR115_3 := n9_; have HR117_0 := n10_; have HR117_3 := n11_; have HB := n12_; have BK119 := n13_; have GW119 := n14_; have GE119 := n15_; have NB104_119 := n16_; have NB119_104 := n17_; clear n0_ n1_ n2_ n3_ n4_ n5_ n6_ n7_ n8_ n9_ n10_ n11_ n12_ n13_ n14_ n15_ n16_ n17_; clear hb hbox hg; have hnb74 := NB119_104.out; have hnc74 := NB104_119.out; have hcz75_0 : w73.cell? ⟨gb119, 0, none⟩ = some (.int .i64 0) := (blk_cell BK119.out 0).trans rfl; have hcz75_1 : w73.cell? ⟨gb119, 1, none⟩ = some (.int .i64 0) := (blk_cell BK119.out 1).trans rfl; have hfz75_0 := blk_frozen BK119.out 0; have hfz75_1 := blk_frozen BK119.out 1; have hcz76_0 : w73.cell? ⟨gb104, 0, none⟩ = some (u105000) := (blk_cell BK104.out 0).trans rfl; have hcz76_1 : w73.cell? ⟨gb104, 1, none⟩ = some (.int .i64 x105001_2) := (blk_cell BK104.out 1).trans rfl; have hcz76_2 : w73.cell? ⟨gb104, 2, none⟩ = some (.int .i64 x105002_2) := (blk_cell BK104.out 2).trans rfl; have hcz76_3 : w73.cell? ⟨gb104, 3, none⟩ = some (u105003) := (blk_cell BK104.out 3).trans rfl; have hfz76_0 := blk_frozen BK104.out 0; have hfz76_1 := blk_frozen BK104.out 1; have hfz76_2 := blk_frozen BK104.out 2; have hfz76_3 := blk_frozen BK104.out 3; obtain ⟨Ao77, co77, eo77⟩ := Kd.V_slice HO_105000.out; subst eo77; have p120 : 0 ≤ (x13_4 : Int) := of_decide_eq_true (by first | (with_reducible assumption) | assumption); have q120 : x13_4 < (x105000_2.length : Int) := of_decide_eq_true (by first | (with_reducible assumption) | assumption); obtain ⟨ad120, e120, hx120_0, hx120_1⟩ := at_T36 (Kd.V_reads' HO_105000.out).2.2 x13_4 p120 q120; cases e120; have hn120_0 : ad120.block ≠ gb119 := V_blk36 HO_105000.out (fun _ hk => hk.2) (Int.lt_of_le_of_lt p120 q120); have hn120_1 : ad120.block ≠ gb119 := V_blk36 HO_105000.out (fun _ hk => hk.2) (Int.lt_of_le_of_lt p120 q120); replace hx120_0 := (cell_far (p := ⟨gb119, 0, none⟩) (by first | (rw [add_block]; exact hn120_0) | (show (Addr.add _ _).block ≠ _; rw [add_block]; exact hn120_0) | exact hn120_0) (.int .i64 ((rd_T36 ((rd_T38 l3 x11_2).f0) x13_4).f0))).trans hx120_0; replace hx120_1 := (cell_far (p := ⟨gb119, 0, none⟩) (by first | (rw [add_block]; exact hn120_0) | (show (Addr.add _ _).block ≠ _; rw [add_block]; exact hn120_0) | exact hn120_0) (.int .i64 ((rd_T36 ((rd_T38 l3 x11_2).f0) x13_4).f0))).trans hx120_1; replace hx120_0 := (cell_far (p := ⟨gb119, 1, none⟩) (by first | (rw [add_block]; exact hn120_1) | (show (Addr.add _ _).block ≠ _; rw [add_block]; exact hn120_1) | exact hn120_1) (.int .i64 ((rd_T36 ((rd_T38 l3 x11_2).f0) x13_4).f1))).trans hx120_0; replace hx120_1 := (cell_far (p := ⟨gb119, 1, none⟩) (by first | (rw [add_block]; exact hn120_1) | (show (Addr.add _ _).block ≠ _; rw [add_block]; exact hn120_1) | exact hn120_1) (.int .i64 ((rd_T36 ((rd_T38 l3 x11_2).f0) x13_4).f1))).trans hx120_1; clear hn120_0; clear hn120_1; replace p120 := eq_true p120; replace q120 := eq_true q120))
     have n0_ : Aside0 (Kd.V k38 38 ((w73.setCell ⟨gb119, 0, none⟩ (.int .i64 ((rd_T36 ((rd_T38 l3 x11_2).f0) x13_4).f0))).setCell ⟨gb119, 1, none⟩ (.int .i64 ((rd_T36 ((rd_T38 l3 x11_2).f0) x13_4).f1))) w.heap.size (fun k_ => ((k_ < w.heap.size) ∨ w.heap.size ≤ k_) ∧ k_ ≠ gb104 ∧ k_ ≠ gb119) (.slice (some ad105) l3.length c3) l3) := ⟨by (with_reducible repeat (first | apply Kd.V_alloc | apply Kd.V_drewN | apply Kd.V_drew)); exact Kd.V_mono (Kd.V_far (p := ⟨gb119, 1, none⟩) (Kd.V_far (p := ⟨gb119, 0, none⟩) (Kd.V_mono HO_8.out (fun k_ hk => (⟨hk, hk.2⟩ : _ ∧ k_ ≠ gb119))) (fun _ hk => hk.2) (.int .i64 ((rd_T36 ((rd_T38 l3 x11_2).f0) x13_4).f0))) (fun _ hk => hk.2) (.int .i64 ((rd_T36 ((rd_T38 l3 x11_2).f0) x13_4).f1))) (fun _ hk => ⟨hk.1.1.1, ⟨hk.1.1.2, hk.1.2⟩⟩)⟩
     have n1_ : Aside0 (Kd.V k36 36 ((w73.setCell ⟨gb119, 0, none⟩ (.int .i64 ((rd_T36 ((rd_T38 l3 x11_2).f0) x13_4).f0))).setCell ⟨gb119, 1, none⟩ (.int .i64 ((rd_T36 ((rd_T38 l3 x11_2).f0) x13_4).f1))) w.heap.size (fun k_ => ((k_ < w.heap.size) ∨ w.heap.size ≤ k_) ∧ k_ ≠ gb104 ∧ k_ ≠ gb119) (.slice (some ad120) x105000_2.length co77) x105000_2) := ⟨by (with_reducible repeat (first | apply Kd.V_alloc | apply Kd.V_drewN | apply Kd.V_drew)); exact Kd.V_mono (Kd.V_far (p := ⟨gb119, 1, none⟩) (Kd.V_far (p := ⟨gb119, 0, none⟩) (Kd.V_mono HO_105000.out (fun k_ hk => (⟨hk, hk.2⟩ : _ ∧ k_ ≠ gb119))) (fun _ hk => hk.2) (.int .i64 ((rd_T36 ((rd_T38 l3 x11_2).f0) x13_4).f0))) (fun _ hk => hk.2) (.int .i64 ((rd_T36 ((rd_T38 l3 x11_2).f0) x13_4).f1))) (fun _ hk => ⟨hk.1.1.1, ⟨hk.1.1.2, hk.1.2⟩⟩)⟩
     have n2_ : Aside0 (Kd.V k41 41 ((w73.setCell ⟨gb119, 0, none⟩ (.int .i64 ((rd_T36 ((rd_T38 l3 x11_2).f0) x13_4).f0))).setCell ⟨gb119, 1, none⟩ (.int .i64 ((rd_T36 ((rd_T38 l3 x11_2).f0) x13_4).f1))) w.heap.size (fun k_ => ((k_ < w.heap.size) ∨ w.heap.size ≤ k_) ∧ k_ ≠ gb104 ∧ k_ ≠ gb119) u105003 x105003_2) := ⟨by (with_reducible repeat (first | apply Kd.V_alloc | apply Kd.V_drewN | apply Kd.V_drew)); exact Kd.V_mono (Kd.V_far (p := ⟨gb119, 1, none⟩) (Kd.V_far (p := ⟨gb119, 0, none⟩) (Kd.V_mono HO_105003.out (fun k_ hk => (⟨hk, hk.2⟩ : _ ∧ k_ ≠ gb119))) (fun _ hk => hk.2) (.int .i64 ((rd_T36 ((rd_T38 l3 x11_2).f0) x13_4).f0))) (fun _ hk => hk.2) (.int .i64 ((rd_T36 ((rd_T38 l3 x11_2).f0) x13_4).f1))) (fun _ hk => ⟨hk.1.1.1, ⟨hk.1.1.2, hk.1.2⟩⟩)⟩
     have n3_ : Aside0 (Kd.V k36 36 ((w73.setCell ⟨gb119, 0, none⟩ (.int .i64 ((rd_T36 ((rd_T38 l3 x11_2).f0) x13_4).f0))).setCell ⟨gb119, 1, none⟩ (.int .i64 ((rd_T36 ((rd_T38 l3 x11_2).f0) x13_4).f1))) w.heap.size (fun k_ => ((k_ < w.heap.size) ∨ w.heap.size ≤ k_) ∧ k_ ≠ gb104 ∧ k_ ≠ gb119) (.slice (some ad118) ((rd_T38 l3 x11_2).f0).length c115_0) ((rd_T38 l3 x11_2).f0)) := ⟨by (with_reducible repeat (first | apply Kd.V_alloc | apply Kd.V_drewN | apply Kd.V_drew)); exact Kd.V_mono (Kd.V_far (p := ⟨gb119, 1, none⟩) (Kd.V_far (p := ⟨gb119, 0, none⟩) (Kd.V_mono HL115_0.out (fun k_ hk => (⟨hk, hk.2⟩ : _ ∧ k_ ≠ gb119))) (fun _ hk => hk.2) (.int .i64 ((rd_T36 ((rd_T38 l3 x11_2).f0) x13_4).f0))) (fun _ hk => hk.2) (.int .i64 ((rd_T36 ((rd_T38 l3 x11_2).f0) x13_4).f1))) (fun _ hk => ⟨hk.1.1.1, ⟨hk.1.1.2, hk.1.2⟩⟩)⟩
     have n4_ : Aside0 (Kd.V k41 41 ((w73.setCell ⟨gb119, 0, none⟩ (.int .i64 ((rd_T36 ((rd_T38 l3 x11_2).f0) x13_4).f0))).setCell ⟨gb119, 1, none⟩ (.int .i64 ((rd_T36 ((rd_T38 l3 x11_2).f0) x13_4).f1))) w.heap.size (fun k_ => ((k_ < w.heap.size) ∨ w.heap.size ≤ k_) ∧ k_ ≠ gb104 ∧ k_ ≠ gb119) (.slice A115_3 ((rd_T38 l3 x11_2).f2).length c115_3) ((rd_T38 l3 x11_2).f2)) := ⟨by (with_reducible repeat (first | apply Kd.V_alloc | apply Kd.V_drewN | apply Kd.V_drew)); exact Kd.V_mono (Kd.V_far (p := ⟨gb119, 1, none⟩) (Kd.V_far (p := ⟨gb119, 0, none⟩) (Kd.V_mono HL115_3.out (fun k_ hk => (⟨hk, hk.2⟩ : _ ∧ k_ ≠ gb119))) (fun _ hk => hk.2) (.int .i64 ((rd_T36 ((rd_T38 l3 x11_2).f0) x13_4).f0))) (fun _ hk => hk.2) (.int .i64 ((rd_T36 ((rd_T38 l3 x11_2).f0) x13_4).f1))) (fun _ hk => ⟨hk.1.1.1, ⟨hk.1.1.2, hk.1.2⟩⟩)⟩
     have n5_ : Aside0 (Kd.V k36 36 ((w73.setCell ⟨gb119, 0, none⟩ (.int .i64 ((rd_T36 ((rd_T38 l3 x11_2).f0) x13_4).f0))).setCell ⟨gb119, 1, none⟩ (.int .i64 ((rd_T36 ((rd_T38 l3 x11_2).f0) x13_4).f1))) w.heap.size (fun k_ => ((k_ < w.heap.size) ∨ w.heap.size ≤ k_) ∧ k_ ≠ gb104 ∧ k_ ≠ gb119) (.slice (some ad118) ((rd_T38 l3 x11_2).f0).length c115_0) ((rd_T38 l3 x11_2).f0)) := ⟨by (with_reducible repeat (first | apply Kd.V_alloc | apply Kd.V_drewN | apply Kd.V_drew)); exact Kd.V_mono (Kd.V_far (p := ⟨gb119, 1, none⟩) (Kd.V_far (p := ⟨gb119, 0, none⟩) (Kd.V_mono HL117_0.out (fun k_ hk => (⟨hk, hk.2⟩ : _ ∧ k_ ≠ gb119))) (fun _ hk => hk.2) (.int .i64 ((rd_T36 ((rd_T38 l3 x11_2).f0) x13_4).f0))) (fun _ hk => hk.2) (.int .i64 ((rd_T36 ((rd_T38 l3 x11_2).f0) x13_4).f1))) (fun _ hk => ⟨hk.1.1.1, ⟨hk.1.1.2, hk.1.2⟩⟩)⟩
     have n6_ : Aside0 (Kd.V k41 41 ((w73.setCell ⟨gb119, 0, none⟩ (.int .i64 ((rd_T36 ((rd_T38 l3 x11_2).f0) x13_4).f0))).setCell ⟨gb119, 1, none⟩ (.int .i64 ((rd_T36 ((rd_T38 l3 x11_2).f0) x13_4).f1))) w.heap.size (fun k_ => ((k_ < w.heap.size) ∨ w.heap.size ≤ k_) ∧ k_ ≠ gb104 ∧ k_ ≠ gb119) (.slice A115_3 ((rd_T38 l3 x11_2).f2).length c115_3) ((rd_T38 l3 x11_2).f2)) := ⟨by (with_reducible repeat (first | apply Kd.V_alloc | apply Kd.V_drewN | apply Kd.V_drew)); exact Kd.V_mono (Kd.V_far (p := ⟨gb119, 1, none⟩) (Kd.V_far (p := ⟨gb119, 0, none⟩) (Kd.V_mono HL117_3.out (fun k_ hk => (⟨hk, hk.2⟩ : _ ∧ k_ ≠ gb119))) (fun _ hk => hk.2) (.int .i64 ((rd_T36 ((rd_T38 l3 x11_2).f0) x13_4).f0))) (fun _ hk => hk.2) (.int .i64 ((rd_T36 ((rd_T38 l3 x11_2).f0) x13_4).f1))) (fun _ hk => ⟨hk.1.1.1, ⟨hk.1.1.2, hk.1.2⟩⟩)⟩
     have n7_ : Aside0 (((w73.setCell ⟨gb119, 0, none⟩ (.int .i64 ((rd_T36 ((rd_T38 l3 x11_2).f0) x13_4).f0))).setCell ⟨gb119, 1, none⟩ (.int .i64 ((rd_T36 ((rd_T38 l3 x11_2).f0) x13_4).f1))).heap[gb104]? = some (.cells #[.slice (some ad120) x105000_2.length co77, .int .i64 x105001_2, .int .i64 x105002_2, u105003] 38 (0, 0))) := ⟨by (with_reducible repeat (first | refine blk_drewN ?_ _ | refine blk_drew ?_ | refine blk_alloc ?_ _)); refine blk_far ?_ NB104_119.out _; (with_reducible repeat (first | refine blk_drewN ?_ _ | refine blk_drew ?_ | refine blk_alloc ?_ _)); refine blk_far ?_ NB104_119.out _; (with_reducible repeat (first | refine blk_drewN ?_ _ | refine blk_drew ?_ | refine blk_alloc ?_ _)); exact BK104.out⟩
     have n8_ : Aside0 (((w73.setCell ⟨gb119, 0, none⟩ (.int .i64 ((rd_T36 ((rd_T38 l3 x11_2).f0) x13_4).f0))).setCell ⟨gb119, 1, none⟩ (.int .i64 ((rd_T36 ((rd_T38 l3 x11_2).f0) x13_4).f1))).heap[gb119]? = some (.cells #[.int .i64 ((rd_T36 ((rd_T38 l3 x11_2).f0) x13_4).f0), .int .i64 ((rd_T36 ((rd_T38 l3 x11_2).f0) x13_4).f1)] 36 (0, 0))) := ⟨by (with_reducible repeat (first | refine blk_drewN ?_ _ | refine blk_drew ?_ | refine blk_alloc ?_ _)); refine blk_put (cs := #[.int .i64 ((rd_T36 ((rd_T38 l3 x11_2).f0) x13_4).f0), .int .i64 0]) ?_ 1 _ rfl; (with_reducible repeat (first | refine blk_drewN ?_ _ | refine blk_drew ?_ | refine blk_alloc ?_ _)); refine blk_put (cs := #[.int .i64 0, .int .i64 0]) ?_ 0 _ rfl; (with_reducible repeat (first | refine blk_drewN ?_ _ | refine blk_drew ?_ | refine blk_alloc ?_ _)); exact BK119.out⟩
     have n9_ : Aside0 (Below w.heap.size w ((w73.setCell ⟨gb119, 0, none⟩ (.int .i64 ((rd_T36 ((rd_T38 l3 x11_2).f0) x13_4).f0))).setCell ⟨gb119, 1, none⟩ (.int .i64 ((rd_T36 ((rd_T38 l3 x11_2).f0) x13_4).f1)))) := ⟨by repeat (first | (with_reducible first | exact HB.out | apply below_alloc | apply pw_below_drewN | apply below_drew1 | refine below_set ?_ GE104.out | refine below_set ?_ GE119.out) | exact HB.out)⟩
     (try clear HO_8)
     (try clear HO_105000)
     (try clear HO_105003)
     (try clear HL115_0)
     (try clear HL115_3)
     (try clear HL117_0)
     (try clear HL117_3)
     (try clear BK104)
     (try clear BK119)
     (try clear HB)
     generalize ((w73.setCell ⟨gb119, 0, none⟩ (.int .i64 ((rd_T36 ((rd_T38 l3 x11_2).f0) x13_4).f0))).setCell ⟨gb119, 1, none⟩ (.int .i64 ((rd_T36 ((rd_T38 l3 x11_2).f0) x13_4).f1))) = w78 at n0_ n1_ n2_ n3_ n4_ n5_ n6_ n7_ n8_ n9_ ⊢
     have HO_8 := n0_
     have HO_105000 := n1_
     have HO_105003 := n2_
     have HL115_0 := n3_
     have HL115_3 := n4_
     have HL117_0 := n5_
     have HL117_3 := n6_
     have BK104 := n7_
     have BK119 := n8_
     have HB := n9_
     clear n0_ n1_ n2_ n3_ n4_ n5_ n6_ n7_ n8_ n9_
     have n0_ := Aside0.mk (Kd.V_drew HO_8.out)
     have n1_ := Aside0.mk (Kd.V_drew HO_105000.out)
     have n2_ := Aside0.mk (Kd.V_drew HO_105003.out)
     have n3_ := Aside0.mk (Kd.V_drew HL115_0.out)
     have n4_ := Aside0.mk (Kd.V_drew HL115_3.out)
     have n5_ := Aside0.mk (Kd.V_drew HL117_0.out)
     have n6_ := Aside0.mk (Kd.V_drew HL117_3.out)
     have n7_ := Aside0.mk (blk_drew BK104.out)
     have n8_ := Aside0.mk (blk_drew BK119.out)
     have n9_ := Aside0.mk (below_drew1 HB.out)
     clear HO_8; clear HO_105000; clear HO_105003; clear HL115_0; clear HL115_3; clear HL117_0; clear HL117_3; clear BK104; clear BK119; clear HB
     have HO_8 := n0_
     have HO_105000 := n1_
     have HO_105003 := n2_
     have HL115_0 := n3_
     have HL115_3 := n4_
     have HL117_0 := n5_
     have HL117_3 := n6_
     have BK104 := n7_
     have BK119 := n8_
     have HB := n9_
     clear n0_ n1_ n2_ n3_ n4_ n5_ n6_ n7_ n8_ n9_
     have p125 : 0 ≤ (x11_2 : Int) := of_decide_eq_true (by first | (with_reducible assumption) | assumption)
     have q125 : x11_2 < (l3.length : Int) := of_decide_eq_true (by first | (with_reducible assumption) | assumption)
     obtain ⟨ad125, A125_0, c125_0, A125_3, c125_3, e125, hx125_0, hx125_1, hx125_2, hx125_3, hl125_0, hi125_0, hl125_3, hi125_3⟩ := at_T38 (Kd.V_reads' HO_8.out).2.2 x11_2 p125 q125
     obtain rfl : ad105 = ad125 := (by injection e125)
     obtain ⟨ce125, hce125, hMe125, hcc125⟩ := Kd.V_get HO_8.out z38 x11_2 p125 (by first | exact q125 | exact of_decide_eq_true (by first | (with_reducible assumption) | assumption) | (have e_ := (Kd.V_reads' HO_8.out).1; omega))
     obtain ⟨ua125_0, uc125_0, ua125_3, uc125_3, rfl, ul125_0, ge125_0, ul125_3, ge125_3⟩ := k38_openF hMe125
     have hv125_0 := hcc125 0 _ rfl
     rw [Nat.add_zero] at hv125_0
     replace hv125_0 := Option.some.inj (hv125_0.symm.trans hx125_0)
     injection hv125_0 with hva_ hvn_ hvc_
     rw [hva_] at ge125_0
     rw [hvc_] at ul125_0
     have HL125_0 := Aside0.mk (show Kd.V k36 36 _ w.heap.size _ _ ((rd_T38 l3 x11_2).f0) from Kd.V_mk ul125_0 ge125_0)
     clear hva_ hvn_ hvc_ ge125_0 ul125_0
     have hv125_3 := hcc125 3 _ rfl
     rw [add_field _ _ 3 (by omega)] at hv125_3
     replace hv125_3 := Option.some.inj (hv125_3.symm.trans hx125_3)
     injection hv125_3 with hva_ hvn_ hvc_
     rw [hva_] at ge125_3
     rw [hvc_] at ul125_3
     have HL125_3 := Aside0.mk (show Kd.V k41 41 _ w.heap.size _ _ ((rd_T38 l3 x11_2).f2) from Kd.V_mk ul125_3 ge125_3)
     clear hva_ hvn_ hvc_ ge125_3 ul125_3; clear hcc125 hce125
     have HR125_0 := Aside0.mk hi125_0
     have HC125_0 := Aside0.mk hl125_0
     clear hi125_0 hl125_0
     have HR125_3 := Aside0.mk hi125_3
     have HC125_3 := Aside0.mk hl125_3
     clear hi125_3 hl125_3
     replace p125 := eq_true p125
     replace q125 := eq_true q125
     refine start_ (n := 32) (S := fun w' => w'.cell? ⟨gb119, 0, none⟩ = some (.int .i64 ((rd_T36 ((rd_T38 l3 x11_2).f0) x13_4).f0)) ∧ w'.cell? ⟨gb119, 1, none⟩ = some (.int .i64 ((rd_T36 ((rd_T38 l3 x11_2).f0) x13_4).f1)) ∧ w'.cell? (ad105.add ((x11_2).toNat * 4)) = some (.slice A125_0 ((rd_T38 l3 x11_2).f0).length c125_0) ∧ w'.cell? ⟨(ad105.add ((x11_2).toNat * 4)).block, (ad105.add ((x11_2).toNat * 4)).off + 1, none⟩ = some (.int .i64 ((rd_T38 l3 x11_2).f1.f0)) ∧ w'.cell? ⟨(ad105.add ((x11_2).toNat * 4)).block, (ad105.add ((x11_2).toNat * 4)).off + 2, none⟩ = some (.int .i64 ((rd_T38 l3 x11_2).f1.f1)) ∧ w'.cell? ⟨(ad105.add ((x11_2).toNat * 4)).block, (ad105.add ((x11_2).toNat * 4)).off + 3, none⟩ = some (.slice A125_3 ((rd_T38 l3 x11_2).f2).length c125_3)) (ds := []) #[F,F,F,F,F,F,F,F,F,F,F,F,F,F,F,F,F,F,F,F,F,F,F,F,F,F,F,F,F,F,F,F] (by kernel_rfl) rfl rfl ⟨(blk_cell BK119.out 0).trans rfl, (blk_cell BK119.out 1).trans rfl, hx125_0, hx125_1, hx125_2, hx125_3⟩ (fun hHeld => ?_); refine with_tabW sennitlaw21_HunkSpans.tab19 sennitlaw21_HunkSpans.bits19 (fun HT_ HW_ => ?_)
     generalize w78.drew = w79 at HO_8 HO_105000 HO_105003 HL115_0 HL115_3 HL117_0 HL117_3 BK104 BK119 HB HL125_0 HL125_3 HR125_0 HR125_3 hx125_0 hx125_1 hx125_2 hx125_3 hHeld ⊢
     refine pure_ (i := 0) (N := some 125) (v := ?_) (a' := ?_) #[T,F,F,F,F,F,F,F,F,F,F,F,F,F,F,F,F,F,F,F,F,F,F,F,F,F,F,F,F,F,F,F] rfl rfl (any_of HT_.out (by kernel_rfl)) (fun _ _ _ h => h) (Or.inl ⟨by rfl, ?_⟩) ?_ ?_; rotate_left; (intro w'; go_simp; with_reducible rfl); rotate_left; (simp only [Act.put, List.setIfInBounds_toArray, List.set_cons_zero, List.set_cons_succ, i64_w, i32_w]; rfl)
     refine pure_ (i := 2) (N := some 127) (v := ?_) (a' := ?_) #[T,F,T,F,F,F,F,F,F,F,F,F,F,F,F,F,F,F,F,F,F,F,F,F,F,F,F,F,F,F,F,F] rfl rfl (any_of HT_.out (by kernel_rfl)) (fun _ _ _ h => h) (Or.inl ⟨by rfl, ?_⟩) ?_ ?_; rotate_left; (intro w'; go_simp; with_reducible rfl); rotate_left; (simp only [Act.put, List.setIfInBounds_toArray, List.set_cons_zero, List.set_cons_succ, i64_w, i32_w]; rfl)
     refine take_ (i := 1) (N := some 126) (v := ?_) (a' := ?_) #[T,T,T,F,F,F,F,F,F,F,F,F,F,F,F,F,F,F,F,F,F,F,F,F,F,F,F,F,F,F,F,F] rfl rfl (take_ofW HT_.out HW_.out (by kernel_rfl)) (fun _ _ _ h => h) (Or.inl ⟨by rfl, ?_⟩) hHeld ?_ ?_; rotate_left; (rintro w' ⟨s0, s1, s2, s3, s4, s5⟩; go_simp; with_reducible rfl); rotate_left; (simp only [Act.put, List.setIfInBounds_toArray, List.set_cons_zero, List.set_cons_succ, i64_w, i32_w]; rfl)
     refine pure_ (i := 3) (N := some 128) (v := ?_) (a' := ?_) #[T,T,T,T,F,F,F,F,F,F,F,F,F,F,F,F,F,F,F,F,F,F,F,F,F,F,F,F,F,F,F,F] rfl rfl (any_of HT_.out (by kernel_rfl)) (fun _ _ _ h => h) (Or.inl ⟨by rfl, ?_⟩) ?_ ?_; rotate_left; (intro w'; go_simp; with_reducible rfl); rotate_left; (simp only [Act.put, List.setIfInBounds_toArray, List.set_cons_zero, List.set_cons_succ, i64_w, i32_w]; rfl)
     refine pure_ (i := 4) (N := some 129) (v := ?_) (a' := ?_) #[T,T,T,T,T,F,F,F,F,F,F,F,F,F,F,F,F,F,F,F,F,F,F,F,F,F,F,F,F,F,F,F] rfl rfl (any_of HT_.out (by kernel_rfl)) (fun _ _ _ h => h) (Or.inl ⟨by rfl, ?_⟩) ?_ ?_; rotate_left; (intro w'; go_simp; with_reducible rfl); rotate_left; (simp only [Act.put, List.setIfInBounds_toArray, List.set_cons_zero, List.set_cons_succ, i64_w, i32_w]; rfl)
     refine pure_ (i := 5) (N := some 130) (v := ?_) (a' := ?_) #[T,T,T,T,T,T,F,F,F,F,F,F,F,F,F,F,F,F,F,F,F,F,F,F,F,F,F,F,F,F,F,F] rfl rfl (any_of HT_.out (by kernel_rfl)) (fun _ _ _ h => h) (Or.inl ⟨by rfl, ?_⟩) ?_ ?_; rotate_left; (intro w'; go_simp; with_reducible rfl); rotate_left; (simp only [Act.put, List.setIfInBounds_toArray, List.set_cons_zero, List.set_cons_succ, i64_w, i32_w]; rfl)
     refine pure_ (i := 6) (N := some 131) (v := ?_) (a' := ?_) #[T,T,T,T,T,T,T,F,F,F,F,F,F,F,F,F,F,F,F,F,F,F,F,F,F,F,F,F,F,F,F,F] rfl rfl (any_of HT_.out (by kernel_rfl)) (fun _ _ _ h => h) (Or.inl ⟨by rfl, ?_⟩) ?_ ?_; rotate_left; (intro w'; go_simp; with_reducible rfl); rotate_left; (simp only [Act.put, List.setIfInBounds_toArray, List.set_cons_zero, List.set_cons_succ, i64_w, i32_w]; rfl)
     refine pure_ (i := 7) (N := some 132) (v := ?_) (a' := ?_) #[T,T,T,T,T,T,T,T,F,F,F,F,F,F,F,F,F,F,F,F,F,F,F,F,F,F,F,F,F,F,F,F] rfl rfl (any_of HT_.out (by kernel_rfl)) (fun _ _ _ h => h) (Or.inl ⟨by rfl, ?_⟩) ?_ ?_; rotate_left; (intro w'; go_simp; with_reducible rfl); rotate_left; (simp only [Act.put, List.setIfInBounds_toArray, List.set_cons_zero, List.set_cons_succ, i64_w, i32_w]; rfl)
     refine pure_ (i := 8) (N := some 133) (v := ?_) (a' := ?_) #[T,T,T,T,T,T,T,T,T,F,F,F,F,F,F,F,F,F,F,F,F,F,F,F,F,F,F,F,F,F,F,F] rfl rfl (any_of HT_.out (by kernel_rfl)) (fun _ _ _ h => h) (Or.inl ⟨by rfl, ?_⟩) ?_ ?_; rotate_left; (intro w'; go_simp; with_reducible rfl); rotate_left; (simp only [Act.put, List.setIfInBounds_toArray, List.set_cons_zero, List.set_cons_succ, i64_w, i32_w]; rfl)
     refine pure_ (i := 10) (N := some 135) (v := ?_) (a' := ?_) #[T,T,T,T,T,T,T,T,T,F,T,F,F,F,F,F,F,F,F,F,F,F,F,F,F,F,F,F,F,F,F,F] rfl rfl (any_of HT_.out (by kernel_rfl)) (fun _ _ _ h => h) (Or.inl ⟨by rfl, ?_⟩) ?_ ?_; rotate_left; (intro w'; go_simp; with_reducible rfl); rotate_left; (simp only [Act.put, List.setIfInBounds_toArray, List.set_cons_zero, List.set_cons_succ, i64_w, i32_w]; rfl)
     refine pure_ (i := 12) (N := some 137) (v := ?_) (a' := ?_) #[T,T,T,T,T,T,T,T,T,F,T,F,T,F,F,F,F,F,F,F,F,F,F,F,F,F,F,F,F,F,F,F] rfl rfl (any_of HT_.out (by kernel_rfl)) (fun _ _ _ h => h) (Or.inl ⟨by rfl, ?_⟩) ?_ ?_; rotate_left; (intro w'; go_simp; with_reducible rfl); rotate_left; (simp only [Act.put, List.setIfInBounds_toArray, List.set_cons_zero, List.set_cons_succ, i64_w, i32_w]; rfl)
     refine take_ (i := 9) (N := some 134) (v := ?_) (a' := ?_) #[T,T,T,T,T,T,T,T,T,T,T,F,T,F,F,F,F,F,F,F,F,F,F,F,F,F,F,F,F,F,F,F] rfl rfl (take_ofW HT_.out HW_.out (by kernel_rfl)) (fun _ _ _ h => h) (Or.inl ⟨by rfl, ?_⟩) hHeld ?_ ?_; rotate_left; (rintro w' ⟨s0, s1, s2, s3, s4, s5⟩; go_simp; with_reducible rfl); rotate_left; (simp only [Act.put, List.setIfInBounds_toArray, List.set_cons_zero, List.set_cons_succ, i64_w, i32_w]; rfl)
     refine pure_ (i := 11) (N := some 136) (v := ?_) (a' := ?_) #[T,T,T,T,T,T,T,T,T,T,T,T,T,F,F,F,F,F,F,F,F,F,F,F,F,F,F,F,F,F,F,F] rfl rfl (any_of HT_.out (by kernel_rfl)) (fun _ _ _ h => h) (Or.inl ⟨by rfl, ?_⟩) ?_ ?_; rotate_left; (intro w'; go_simp; with_reducible rfl); rotate_left; (simp only [Act.put, List.setIfInBounds_toArray, List.set_cons_zero, List.set_cons_succ, i64_w, i32_w]; rfl)
     refine pure_ (i := 13) (N := some 138) (v := ?_) (a' := ?_) #[T,T,T,T,T,T,T,T,T,T,T,T,T,T,F,F,F,F,F,F,F,F,F,F,F,F,F,F,F,F,F,F] rfl rfl (any_of HT_.out (by kernel_rfl)) (fun _ _ _ h => h) (Or.inl ⟨by rfl, ?_⟩) ?_ ?_; rotate_left; (intro w'; go_simp; with_reducible rfl); rotate_left; (simp only [Act.put, List.setIfInBounds_toArray, List.set_cons_zero, List.set_cons_succ, i64_w, i32_w]; rfl)
     refine pure_ (i := 14) (N := some 139) (v := ?_) (a' := ?_) #[T,T,T,T,T,T,T,T,T,T,T,T,T,T,T,F,F,F,F,F,F,F,F,F,F,F,F,F,F,F,F,F] rfl rfl (any_of HT_.out (by kernel_rfl)) (fun _ _ _ h => h) (Or.inl ⟨by rfl, ?_⟩) ?_ ?_; rotate_left; (intro w'; go_simp; with_reducible rfl); rotate_left; (simp only [Act.put, List.setIfInBounds_toArray, List.set_cons_zero, List.set_cons_succ, i64_w, i32_w]; rfl)
     refine pure_ (i := 15) (N := some 140) (v := ?_) (a' := ?_) #[T,T,T,T,T,T,T,T,T,T,T,T,T,T,T,T,F,F,F,F,F,F,F,F,F,F,F,F,F,F,F,F] rfl rfl (any_of HT_.out (by kernel_rfl)) (fun _ _ _ h => h) (Or.inl ⟨by rfl, ?_⟩) ?_ ?_; rotate_left; (intro w'; go_simp; with_reducible rfl); rotate_left; (simp only [Act.put, List.setIfInBounds_toArray, List.set_cons_zero, List.set_cons_succ, i64_w, i32_w]; rfl)
     refine pure_ (i := 16) (N := some 141) (v := ?_) (a' := ?_) #[T,T,T,T,T,T,T,T,T,T,T,T,T,T,T,T,T,F,F,F,F,F,F,F,F,F,F,F,F,F,F,F] rfl rfl (any_of HT_.out (by kernel_rfl)) (fun _ _ _ h => h) (Or.inl ⟨by rfl, ?_⟩) ?_ ?_; rotate_left; (intro w'; go_simp; with_reducible rfl); rotate_left; (simp only [Act.put, List.setIfInBounds_toArray, List.set_cons_zero, List.set_cons_succ, i64_w, i32_w]; rfl)
     refine pure_ (i := 17) (N := some 142) (v := ?_) (a' := ?_) #[T,T,T,T,T,T,T,T,T,T,T,T,T,T,T,T,T,T,F,F,F,F,F,F,F,F,F,F,F,F,F,F] rfl rfl (any_of HT_.out (by kernel_rfl)) (fun _ _ _ h => h) (Or.inl ⟨by rfl, ?_⟩) ?_ ?_; rotate_left; (intro w'; go_simp; with_reducible rfl); rotate_left; (simp only [Act.put, List.setIfInBounds_toArray, List.set_cons_zero, List.set_cons_succ, i64_w, i32_w]; rfl)
     refine pure_ (i := 19) (N := some 144) (v := ?_) (a' := ?_) #[T,T,T,T,T,T,T,T,T,T,T,T,T,T,T,T,T,T,F,T,F,F,F,F,F,F,F,F,F,F,F,F] rfl rfl (any_of HT_.out (by kernel_rfl)) (fun _ _ _ h => h) (Or.inl ⟨by rfl, ?_⟩) ?_ ?_; rotate_left; (intro w'; go_simp; with_reducible rfl); rotate_left; (simp only [Act.put, List.setIfInBounds_toArray, List.set_cons_zero, List.set_cons_succ, i64_w, i32_w]; rfl)
     refine pure_ (i := 22) (N := some 147) (v := ?_) (a' := ?_) #[T,T,T,T,T,T,T,T,T,T,T,T,T,T,T,T,T,T,F,T,F,F,T,F,F,F,F,F,F,F,F,F] rfl rfl (any_of HT_.out (by kernel_rfl)) (fun _ _ _ h => h) (Or.inl ⟨by rfl, ?_⟩) ?_ ?_; rotate_left; (intro w'; go_simp; with_reducible rfl); rotate_left; (simp only [Act.put, List.setIfInBounds_toArray, List.set_cons_zero, List.set_cons_succ, i64_w, i32_w]; rfl)
     refine pure_ (i := 23) (N := some 148) (v := ?_) (a' := ?_) #[T,T,T,T,T,T,T,T,T,T,T,T,T,T,T,T,T,T,F,T,F,F,T,T,F,F,F,F,F,F,F,F] rfl rfl (any_of HT_.out (by kernel_rfl)) (fun _ _ _ h => h) (Or.inl ⟨by rfl, ?_⟩) ?_ ?_; rotate_left; (intro w'; go_simp; with_reducible rfl); rotate_left; (simp only [Act.put, List.setIfInBounds_toArray, List.set_cons_zero, List.set_cons_succ, i64_w, i32_w]; rfl)
     refine pure_ (i := 24) (N := some 149) (v := ?_) (a' := ?_) #[T,T,T,T,T,T,T,T,T,T,T,T,T,T,T,T,T,T,F,T,F,F,T,T,T,F,F,F,F,F,F,F] rfl rfl (any_of HT_.out (by kernel_rfl)) (fun _ _ _ h => h) (Or.inl ⟨by rfl, ?_⟩) ?_ ?_; rotate_left; (intro w'; go_simp; with_reducible rfl); rotate_left; (simp only [Act.put, List.setIfInBounds_toArray, List.set_cons_zero, List.set_cons_succ, i64_w, i32_w]; rfl)
     refine pure_ (i := 25) (N := some 150) (v := ?_) (a' := ?_) #[T,T,T,T,T,T,T,T,T,T,T,T,T,T,T,T,T,T,F,T,F,F,T,T,T,T,F,F,F,F,F,F] rfl rfl (any_of HT_.out (by kernel_rfl)) (fun _ _ _ h => h) (Or.inl ⟨by rfl, ?_⟩) ?_ ?_; rotate_left; (intro w'; go_simp; with_reducible rfl); rotate_left; (simp only [Act.put, List.setIfInBounds_toArray, List.set_cons_zero, List.set_cons_succ, i64_w, i32_w]; rfl)
     refine pure_ (i := 27) (N := some 152) (v := ?_) (a' := ?_) #[T,T,T,T,T,T,T,T,T,T,T,T,T,T,T,T,T,T,F,T,F,F,T,T,T,T,F,T,F,F,F,F] rfl rfl (any_of HT_.out (by kernel_rfl)) (fun _ _ _ h => h) (Or.inl ⟨by rfl, ?_⟩) ?_ ?_; rotate_left; (intro w'; go_simp; with_reducible rfl); rotate_left; (simp only [Act.put, List.setIfInBounds_toArray, List.set_cons_zero, List.set_cons_succ, i64_w, i32_w]; rfl)
     refine take_ (i := 18) (N := some 143) (v := ?_) (a' := ?_) #[T,T,T,T,T,T,T,T,T,T,T,T,T,T,T,T,T,T,T,T,F,F,T,T,T,T,F,T,F,F,F,F] rfl rfl (take_ofW HT_.out HW_.out (by kernel_rfl)) (fun _ _ _ h => h) (Or.inl ⟨by rfl, ?_⟩) hHeld ?_ ?_; rotate_left; (rintro w' ⟨s0, s1, s2, s3, s4, s5⟩; go_simp; with_reducible rfl); rotate_left; (simp only [Act.put, List.setIfInBounds_toArray, List.set_cons_zero, List.set_cons_succ, i64_w, i32_w]; rfl)
     refine take_ (i := 20) (N := some 145) (v := ?_) (a' := ?_) #[T,T,T,T,T,T,T,T,T,T,T,T,T,T,T,T,T,T,T,T,T,F,T,T,T,T,F,T,F,F,F,F] rfl rfl (take_ofW HT_.out HW_.out (by kernel_rfl)) (fun _ _ _ h => h) (Or.inl ⟨by rfl, ?_⟩) hHeld ?_ ?_; rotate_left; (rintro w' ⟨s0, s1, s2, s3, s4, s5⟩; go_simp; with_reducible rfl); rotate_left; (simp only [Act.put, List.setIfInBounds_toArray, List.set_cons_zero, List.set_cons_succ, i64_w, i32_w]; rfl)
     refine pure_ (i := 21) (N := some 146) (v := ?_) (a' := ?_) #[T,T,T,T,T,T,T,T,T,T,T,T,T,T,T,T,T,T,T,T,T,T,T,T,T,T,F,T,F,F,F,F] rfl rfl (any_of HT_.out (by kernel_rfl)) (fun _ _ _ h => h) (Or.inl ⟨by rfl, ?_⟩) ?_ ?_; rotate_left; (intro w'; go_simp; with_reducible rfl); rotate_left; (simp only [Act.put, List.setIfInBounds_toArray, List.set_cons_zero, List.set_cons_succ, i64_w, i32_w]; rfl)
     refine take_ (i := 26) (N := some 151) (v := ?_) (a' := ?_) #[T,T,T,T,T,T,T,T,T,T,T,T,T,T,T,T,T,T,T,T,T,T,T,T,T,T,T,T,F,F,F,F] rfl rfl (take_ofW HT_.out HW_.out (by kernel_rfl)) (fun _ _ _ h => h) (Or.inl ⟨by rfl, ?_⟩) hHeld ?_ ?_; rotate_left; (rintro w' ⟨s0, s1, s2, s3, s4, s5⟩; go_simp; with_reducible rfl); rotate_left; (simp only [Act.put, List.setIfInBounds_toArray, List.set_cons_zero, List.set_cons_succ, i64_w, i32_w]; rfl)
     refine one_ (i := 28) (N := some 153) #[T,T,T,T,T,T,T,T,T,T,T,T,T,T,T,T,T,T,T,T,T,T,T,T,T,T,T,T,T,F,F,F] rfl rfl (one_of HT_.out (by kernel_rfl)) (by decide) (fun K hK => ?_)
     refine goes_ Tryd.func23 (by kernel_rfl) rfl #[.slice A125_3 ((rd_T38 l3 x11_2).f2).length c125_3, .int .i64 x13_4] (by rfl) rfl rfl (by (try simp only [List.map_toArray, List.map_cons, List.map_nil]); first | done | rfl | (simp only [List.length_drop, List.length_take]; rfl)) ?_
     with_reducible refine (table_Column.calls _ _ ((rd_T38 l3 x11_2).f2) x13_4 t126 _ ?side1 ?side2 A71.out).mono ?_
     (case side1 => repeat (first | exact (by repeat (first | (with_reducible exact HR125_3.out) | (with_reducible refine Kd.C_alloc ?_ _) | (with_reducible refine Kd.C_drewN ?_ _) | (with_reducible refine Kd.C_drew ?_) | exact HR125_3.out)) | (with_reducible refine Kd.C_alloc ?_ _) | (with_reducible refine Kd.C_drewN ?_ _) | (with_reducible refine Kd.C_drew ?_)))
     (case side2 => exact HC125_3.out)
     rintro e w80 ⟨v127, rfl, ho0, hb⟩
     have HS2_ := (hb.cell (World.block_lt_of_cell? _ _ (hHeld.2.2.1))).trans (hHeld.2.2.1)
     have HS3_ := (hb.cell (World.block_lt_of_cell? _ _ (hHeld.2.2.2.1))).trans (hHeld.2.2.2.1)
     have HS4_ := (hb.cell (World.block_lt_of_cell? _ _ (hHeld.2.2.2.2.1))).trans (hHeld.2.2.2.2.1)
     have HS5_ := (hb.cell (World.block_lt_of_cell? _ _ (hHeld.2.2.2.2.2))).trans (hHeld.2.2.2.2.2)
     refine ⟨_, rfl, ?_⟩
     have n0_ := Aside0.mk (Kd.V_elder' (by (with_reducible repeat (first | apply Kd.V_alloc | apply Kd.V_drewN | apply Kd.V_drew)); exact HO_8.out) (Kd.R_base ho0) hb)
     have n1_ := Aside0.mk (Kd.V_elder' (by (with_reducible repeat (first | apply Kd.V_alloc | apply Kd.V_drewN | apply Kd.V_drew)); exact HO_105000.out) (Kd.R_base ho0) hb)
     have n2_ := Aside0.mk (Kd.V_elder' (by (with_reducible repeat (first | apply Kd.V_alloc | apply Kd.V_drewN | apply Kd.V_drew)); exact HO_105003.out) (Kd.R_base ho0) hb)
     have n3_ := Aside0.mk (Kd.V_elder' (by (with_reducible repeat (first | apply Kd.V_alloc | apply Kd.V_drewN | apply Kd.V_drew)); exact HL115_0.out) (Kd.R_base ho0) hb)
     have n4_ := Aside0.mk (Kd.V_elder' (by (with_reducible repeat (first | apply Kd.V_alloc | apply Kd.V_drewN | apply Kd.V_drew)); exact HL115_3.out) (Kd.R_base ho0) hb)
     have n5_ := Aside0.mk (Kd.V_elder' (by (with_reducible repeat (first | apply Kd.V_alloc | apply Kd.V_drewN | apply Kd.V_drew)); exact HL117_0.out) (Kd.R_base ho0) hb)
     have n6_ := Aside0.mk (Kd.V_elder' (by (with_reducible repeat (first | apply Kd.V_alloc | apply Kd.V_drewN | apply Kd.V_drew)); exact HL117_3.out) (Kd.R_base ho0) hb)
     have n7_ := Aside0.mk (Kd.V_elder' (by (with_reducible repeat (first | apply Kd.V_alloc | apply Kd.V_drewN | apply Kd.V_drew)); exact HL125_0.out) (Kd.R_base ho0) hb)
     have n8_ := Aside0.mk (Kd.V_elder' (by (with_reducible repeat (first | apply Kd.V_alloc | apply Kd.V_drewN | apply Kd.V_drew)); exact HL125_3.out) (Kd.R_base ho0) hb)
     have n9_ := Aside0.mk (Kd.R_lower (Kd.R_newM (M := fun k_ => (w.heap.size ≤ k_)) ho0 (below_size (by repeat (first | (with_reducible first | exact HB.out | apply below_alloc | apply pw_below_drewN | apply below_drew1 | refine below_set ?_ GE104.out | refine below_set ?_ GE119.out) | exact HB.out))) (fun k_ h_ => h_)) (below_size (by repeat (first | (with_reducible first | exact HB.out | apply below_alloc | apply pw_below_drewN | apply below_drew1 | refine below_set ?_ GE104.out | refine below_set ?_ GE119.out) | exact HB.out))))
     have n10_ := Aside0.mk (blk_below (g := gb104) (o := .cells #[.slice (some ad120) x105000_2.length co77, .int .i64 x105001_2, .int .i64 x105002_2, u105003] 38 (0, 0)) (by (with_reducible repeat (first | refine blk_drewN ?_ _ | refine blk_drew ?_ | refine blk_alloc ?_ _)); exact BK104.out) hb)
     have n11_ := Aside0.mk (blk_below (g := gb119) (o := .cells #[.int .i64 ((rd_T36 ((rd_T38 l3 x11_2).f0) x13_4).f0), .int .i64 ((rd_T36 ((rd_T38 l3 x11_2).f0) x13_4).f1)] 36 (0, 0)) (by (with_reducible repeat (first | refine blk_drewN ?_ _ | refine blk_drew ?_ | refine blk_alloc ?_ _)); exact BK119.out) hb)
     have n12_ := Aside0.mk (Kd.C_below (by repeat (first | (with_reducible exact HR125_0.out) | (with_reducible refine Kd.C_alloc ?_ _) | (with_reducible refine Kd.C_drewN ?_ _) | (with_reducible refine Kd.C_drew ?_) | exact HR125_0.out)) hb)
     have n13_ := Aside0.mk (Kd.C_below (by repeat (first | (with_reducible exact HR125_3.out) | (with_reducible refine Kd.C_alloc ?_ _) | (with_reducible refine Kd.C_drewN ?_ _) | (with_reducible refine Kd.C_drew ?_) | exact HR125_3.out)) hb)
     have n14_ := Aside0.mk (below_step (by repeat (first | (with_reducible first | exact HB.out | apply below_alloc | apply pw_below_drewN | apply below_drew1 | refine below_set ?_ GE104.out | refine below_set ?_ GE119.out) | exact HB.out)) hb)
     clear HO_8; clear HO_105000; clear HO_105003; clear HL115_0; clear HL115_3; clear HL117_0; clear HL117_3; clear HL125_0; clear HL125_3; clear BK104; clear BK119; clear HR125_0; clear HR125_3; clear HB
     have HO_8 := n0_
     have HO_105000 := n1_
     have HO_105003 := n2_
     have HL115_0 := n3_
     have HL115_3 := n4_
     have HL117_0 := n5_
     have HL117_3 := n6_
     have HL125_0 := n7_
     have HL125_3 := n8_
     have HO128 := n9_
     have BK104 := n10_
     have BK119 := n11_
     have HR125_0 := n12_
     have HR125_3 := n13_
     have HB := n14_
     clear n0_ n1_ n2_ n3_ n4_ n5_ n6_ n7_ n8_ n9_ n10_ n11_ n12_ n13_ n14_
     (try clear hb)
     (try clear hb2)
     (try clear hk)
     (try clear hi)
     (try clear ho0)
     obtain ⟨Ao81, co81, eo81⟩ := Kd.R_slice HO128.out
     (first | subst eo81 | (injection eo81 with f1_ f2_ f3_; have f4_ := f1_.symm; have f5_ := f3_.symm; clear f1_ f2_ f3_; subst f4_; subst f5_))
     refine hK.out _ _ ⟨(blk_cell BK119.out 0).trans rfl, (blk_cell BK119.out 1).trans rfl, HS2_, HS3_, HS4_, HS5_⟩ (fun hHeld => ?_)
     clear hK K
     refine norm_ (a' := ?_) ?_ ?_
     rotate_left
     ·show Act.put _ (some 153) _ = _
      simp only [Act.put, List.setIfInBounds_toArray, List.set_cons_zero, List.set_cons_succ, i64_w, i32_w]
      rfl
     refine pure_ (i := 29) (N := some 154) (v := ?_) (a' := ?_) #[T,T,T,T,T,T,T,T,T,T,T,T,T,T,T,T,T,T,T,T,T,T,T,T,T,T,T,T,T,T,F,F] rfl rfl (any_of HT_.out (by kernel_rfl)) (fun _ _ _ h => h) (Or.inl ⟨by rfl, ?_⟩) ?_ ?_; rotate_left; (intro w'; go_simp; with_reducible rfl); rotate_left; (simp only [Act.put, List.setIfInBounds_toArray, List.set_cons_zero, List.set_cons_succ, i64_w, i32_w]; rfl)
     refine pure_ (i := 30) (N := some 155) (v := ?_) (a' := ?_) #[T,T,T,T,T,T,T,T,T,T,T,T,T,T,T,T,T,T,T,T,T,T,T,T,T,T,T,T,T,T,T,F] rfl rfl (any_of HT_.out (by kernel_rfl)) (fun _ _ _ h => h) (Or.inl ⟨by rfl, ?_⟩) ?_ ?_; rotate_left; (intro w'; go_simp; with_reducible rfl); rotate_left; (simp only [Act.put, List.setIfInBounds_toArray, List.set_cons_zero, List.set_cons_succ, i64_w, i32_w]; rfl)
     refine pure_ (i := 31) (N := some 156) (v := ?_) (a' := ?_) #[T,T,T,T,T,T,T,T,T,T,T,T,T,T,T,T,T,T,T,T,T,T,T,T,T,T,T,T,T,T,T,T] rfl rfl (any_of HT_.out (by kernel_rfl)) (fun _ _ _ h => h) (Or.inl ⟨by rfl, ?_⟩) ?_ ?_; rotate_left; (intro w'; go_simp; with_reducible rfl); rotate_left; (simp only [Act.put, List.setIfInBounds_toArray, List.set_cons_zero, List.set_cons_succ, i64_w, i32_w]; rfl)
     refine done_ (done_of HT_.out (by kernel_rfl)) ?_
     try go_wp2
     go_roundg k4
     case measure => have := HJ5.out; have := HK2.out; have := HJ16.out; have := HK4.out; omega
     case rel => exact ⟨(wrap64 (x13_4 + 1)), (by first | rfl | (simp; done) | (simp [*]; done)), H', ⟨by have := HJ5.out; have := HK2.out; have := HJ16.out; have := HK4.out; omega⟩, ⟨by (with_reducible repeat (first | apply Kd.V_alloc | apply Kd.V_drewN | apply Kd.V_drew)); exact Kd.V_mono HO_8.out (fun _ hk => ⟨hk.1.1, hk.1.2.1⟩)⟩, ⟨by (with_reducible repeat (first | apply Kd.V_alloc | apply Kd.V_drewN | apply Kd.V_drew)); exact Kd.V_mono HO_105000.out (fun _ hk => ⟨hk.1.1, hk.1.2.1⟩)⟩, ⟨by (with_reducible repeat (first | apply Kd.V_alloc | apply Kd.V_drewN | apply Kd.V_drew)); exact Kd.V_mono HO_105003.out (fun _ hk => ⟨hk.1.1, hk.1.2.1⟩)⟩, ⟨by (with_reducible repeat (first | refine blk_drewN ?_ _ | refine blk_drew ?_ | refine blk_alloc ?_ _)); exact BK104.out⟩, ⟨by repeat (first | (with_reducible first | exact HB.out | apply below_alloc | apply pw_below_drewN | apply below_drew1 | refine below_set ?_ GE104.out | refine below_set ?_ GE119.out) | exact HB.out)⟩⟩

end Go.Proofs.YtenfoaajipiehaaDoor.Q
