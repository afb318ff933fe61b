/- Contracts of the functions named below: each comes to what the Lean function of its name says (for every input; written by a program over the translation). -/
import Derived.Test.YtenfoaajipiehaaDoorQ0
import Derived.Test.YtenfoaajipiehaaDoorR13
import Derived.Test.YtenfoaajipiehaaDoorR14
import Derived.Test.YtenfoaajipiehaaDoorR15
import Derived.Test.YtenfoaajipiehaaDoorR18
namespace Go.Proofs.YtenfoaajipiehaaDoor.Q
open Go.RowKit Go.Proofs.YtenfoaajipiehaaDoorW.PrintWords Go.Proofs.YtenfoaajipiehaaDoorW.PrintLast Go.Proofs.YtenfoaajipiehaaDoorW.PrintMore
attribute [local go_sem] max2_int min2_int max_two min_two max_three min_three max_four min_four   -- for this text's walks alone
set_option linter.unusedVariables false
set_option linter.unusedSimpArgs false
/-! ### sennitref20_Table: function 25 -/
mutual
def sennitref20_Table.l0 : Nat → List ByteArray → List (List ByteArray) → List (List Int) → List (List Int) → Int → Option ((List (S41)) × Int)
  | 0, _, _, _, _, _ => none
  | k + 1, x0, x1, x8, x9, x10 => if x10 < (x1.length : Int) then (if 0 < (x8.length : Int) then (if 0 ≤ (wrap64 (x10 + 1)) then (if (wrap64 (x10 + 1)) < (x8.length : Int) then ((sennitref03_Match.f k (rd_L9 x8 0) (rd_L9 x8 (wrap64 (x10 + 1)))).bind fun t536 => (if x9.length < 5864062014805 then (sennitref20_Table.l0 k x0 x1 x8 (x9 ++ [t536]) (wrap64 (x10 + 1))) else (none))) else (none)) else (none)) else (none)) else (sennitref20_Table.l1 k x0 x1 x9 ([] : List (S41)) 0)
def sennitref20_Table.l1 : Nat → List ByteArray → List (List ByteArray) → List (List Int) → List (S41) → Int → Option ((List (S41)) × Int)
  | 0, _, _, _, _, _ => none
  | k + 1, x0, x1, x9, x11, x12 => if x12 ≤ (x0.length : Int) then ((sennitref20_ahead.f k x1 x9 x12).bind fun bt542 => (if bt542.2 = 0 then (if x11.length + bt542.1.length < 4398046511104 then ((some (x11 ++ bt542.1 : List (S41))).bind fun y546 => (if x12 = (x0.length : Int) then (some (y546, 0)) else (sennitref20_Table.l2 k x0 x1 x9 y546 x12 (⟨#[]⟩ : ByteArray) 0))) else (none)) else (some (([] : List (S41)), bt542.2)))) else (some (x11, 0))
def sennitref20_Table.l2 : Nat → List ByteArray → List (List ByteArray) → List (List Int) → List (S41) → Int → ByteArray → Int → Option ((List (S41)) × Int)
  | 0, _, _, _, _, _, _, _ => none
  | k + 1, x0, x1, x9, x11, x12, x15, x16 => if x16 < (x1.length : Int) then (if 0 ≤ x16 then (if x16 < (x9.length : Int) then (if 0 ≤ x12 then (if x12 < ((rd_L9 x9 x16).length : Int) then (if (rd (rd_L9 x9 x16) x12) ≥ 0 then (if x15.size + 1 ≤ 9223372036854775807 then (sennitref20_Table.l2 k x0 x1 x9 x11 x12 (x15 ++ (⟨#[32]⟩ : ByteArray)) (wrap64 (x16 + 1))) else (none)) else (if x15.size + 1 ≤ 9223372036854775807 then (sennitref20_Table.l2 k x0 x1 x9 x11 x12 (x15 ++ (⟨#[43]⟩ : ByteArray)) (wrap64 (x16 + 1))) else (none))) else (none)) else (none)) else (none)) else (none)) else (if 0 ≤ x12 then (if x12 < (x0.length : Int) then (if x11.length < 4398046511104 then (sennitref20_Table.l1 k x0 x1 x9 (x11 ++ [(⟨x15, rdOf ByteArray.empty x0 x12⟩ : S41)]) (wrap64 (x12 + 1))) else (none)) else (none)) else (none))
end
def sennitref20_Table.f (k : Nat) (l0 : List ByteArray) (l1 : List (List ByteArray)) : Option ((List (S41)) × Int) := (sennitref20_wrong.f k l0 l1).bind fun t524 => (if t524 = 0 then ((some (([l0] : List (List ByteArray)) : List (List ByteArray))).bind fun y525 => (if y525.length + l1.length < 5864062014805 then ((sennitref02_All.f k (y525 ++ l1)).bind fun t531 => (sennitref20_Table.l0 k l0 l1 t531 ([] : List (List Int)) 0)) else (none))) else (some (([] : List (S41)), t524)))
theorem sennitref20_Table.mono_l : ∀ k, (∀ y0 y1 y2 y3 y4, LeO (sennitref20_Table.l0 k y0 y1 y2 y3 y4) (sennitref20_Table.l0 (k + 1) y0 y1 y2 y3 y4)) ∧ (∀ y0 y1 y2 y3 y4, LeO (sennitref20_Table.l1 k y0 y1 y2 y3 y4) (sennitref20_Table.l1 (k + 1) y0 y1 y2 y3 y4)) ∧ (∀ y0 y1 y2 y3 y4 y5 y6, LeO (sennitref20_Table.l2 k y0 y1 y2 y3 y4 y5 y6) (sennitref20_Table.l2 (k + 1) y0 y1 y2 y3 y4 y5 y6))
  | 0 => ⟨fun _ _ _ _ _ r h => by simp [sennitref20_Table.l0] at h, fun _ _ _ _ _ r h => by simp [sennitref20_Table.l1] at h, fun _ _ _ _ _ _ _ r h => by simp [sennitref20_Table.l2] at h⟩
  | k + 1 => by
    obtain ⟨ih0, ih1, ih2⟩ := sennitref20_Table.mono_l k
    refine ⟨?_, ?_, ?_⟩
    · intro y0 y1 y2 y3 y4
      unfold sennitref20_Table.l0
      repeat' first
      | (with_reducible exact ih0 _ _ _ _ _)
      | (with_reducible exact ih1 _ _ _ _ _)
      | (with_reducible exact ih2 _ _ _ _ _ _ _)
      | (with_reducible exact sennitref02_All.mono _ _)
      | (with_reducible exact sennitref03_Match.mono _ _ _)
      | (with_reducible exact sennitref20_ahead.mono _ _ _ _)
      | (with_reducible exact sennitref20_wrong.mono _ _ _)
      | (with_reducible exact LeO.refl _)
      | (with_reducible exact LeO.none _)
      | (with_reducible refine LeO.ite ?_ ?_)
      | (with_reducible refine LeO.bind ?_ (fun _ => ?_))
      | exact ih0 _ _ _ _ _
      | exact ih1 _ _ _ _ _
      | exact ih2 _ _ _ _ _ _ _
      | exact sennitref02_All.mono _ _
      | exact sennitref03_Match.mono _ _ _
      | exact sennitref20_ahead.mono _ _ _ _
      | exact sennitref20_wrong.mono _ _ _
      | exact LeO.none _
      | refine LeO.ite ?_ ?_
      | refine LeO.bind ?_ (fun _ => ?_)
    · intro y0 y1 y2 y3 y4
      unfold sennitref20_Table.l1
      repeat' first
      | (with_reducible exact ih0 _ _ _ _ _)
      | (with_reducible exact ih1 _ _ _ _ _)
      | (with_reducible exact ih2 _ _ _ _ _ _ _)
      | (with_reducible exact sennitref02_All.mono _ _)
      | (with_reducible exact sennitref03_Match.mono _ _ _)
      | (with_reducible exact sennitref20_ahead.mono _ _ _ _)
      | (with_reducible exact sennitref20_wrong.mono _ _ _)
      | (with_reducible exact LeO.refl _)
      | (with_reducible exact LeO.none _)
      | (with_reducible refine LeO.ite ?_ ?_)
      | (with_reducible refine LeO.bind ?_ (fun _ => ?_))
      | exact ih0 _ _ _ _ _
      | exact ih1 _ _ _ _ _
      | exact ih2 _ _ _ _ _ _ _
      | exact sennitref02_All.mono _ _
      | exact sennitref03_Match.mono _ _ _
      | exact sennitref20_ahead.mono _ _ _ _
      | exact sennitref20_wrong.mono _ _ _
      | exact LeO.none _
      | refine LeO.ite ?_ ?_
      | refine LeO.bind ?_ (fun _ => ?_)
    · intro y0 y1 y2 y3 y4 y5 y6
      unfold sennitref20_Table.l2
      repeat' first
      | (with_reducible exact ih0 _ _ _ _ _)
      | (with_reducible exact ih1 _ _ _ _ _)
      | (with_reducible exact ih2 _ _ _ _ _ _ _)
      | (with_reducible exact sennitref02_All.mono _ _)
      | (with_reducible exact sennitref03_Match.mono _ _ _)
      | (with_reducible exact sennitref20_ahead.mono _ _ _ _)
      | (with_reducible exact sennitref20_wrong.mono _ _ _)
      | (with_reducible exact LeO.refl _)
      | (with_reducible exact LeO.none _)
      | (with_reducible refine LeO.ite ?_ ?_)
      | (with_reducible refine LeO.bind ?_ (fun _ => ?_))
      | exact ih0 _ _ _ _ _
      | exact ih1 _ _ _ _ _
      | exact ih2 _ _ _ _ _ _ _
      | exact sennitref02_All.mono _ _
      | exact sennitref03_Match.mono _ _ _
      | exact sennitref20_ahead.mono _ _ _ _
      | exact sennitref20_wrong.mono _ _ _
      | exact LeO.none _
      | refine LeO.ite ?_ ?_
      | refine LeO.bind ?_ (fun _ => ?_)
theorem sennitref20_Table.mono : ∀ a0 a1 k, LeO (sennitref20_Table.f k a0 a1) (sennitref20_Table.f (k + 1) a0 a1) := by
  intro a0 a1 k
  obtain ⟨ih0, ih1, ih2⟩ := sennitref20_Table.mono_l k
  unfold sennitref20_Table.f
  repeat' first
      | (with_reducible exact ih0 _ _ _ _ _)
      | (with_reducible exact ih1 _ _ _ _ _)
      | (with_reducible exact ih2 _ _ _ _ _ _ _)
      | (with_reducible exact sennitref02_All.mono _ _)
      | (with_reducible exact sennitref03_Match.mono _ _ _)
      | (with_reducible exact sennitref20_ahead.mono _ _ _ _)
      | (with_reducible exact sennitref20_wrong.mono _ _ _)
      | (with_reducible exact LeO.refl _)
      | (with_reducible exact LeO.none _)
      | (with_reducible refine LeO.ite ?_ ?_)
      | (with_reducible refine LeO.bind ?_ (fun _ => ?_))
      | exact ih0 _ _ _ _ _
      | exact ih1 _ _ _ _ _
      | exact ih2 _ _ _ _ _ _ _
      | exact sennitref02_All.mono _ _
      | exact sennitref03_Match.mono _ _ _
      | exact sennitref20_ahead.mono _ _ _ _
      | exact sennitref20_wrong.mono _ _ _
      | exact LeO.none _
      | refine LeO.ite ?_ ?_
      | refine LeO.bind ?_ (fun _ => ?_)
def sennitref20_Table.T11 : Bool × List (List Nat × List Nat) := (true, [([], []), ([], []), ([1], [1]), ([2], [2]), ([], []), ([], []), ([5], [5]), ([4, 6], [4, 6]), ([7], [7]), ([3, 8], [3, 8]), ([9], [9]), ([0, 10, 9], [0, 10]), ([11, 11, 0, 1, 2, 3, 4, 5, 6, 7, 8, 9, 10, 11], [0, 11])])
def sennitref20_Table.B11 : List Nat := [0, 0, 2, 6, 0, 0, 32, 112, 240, 510, 1022, 2047, 4095]
theorem sennitref20_Table.tab11 : rtab .any (opsOf Tryd.f25 11) = sennitref20_Table.T11 := by kernel_rfl
theorem sennitref20_Table.bits11 : waitsOk sennitref20_Table.T11.2 sennitref20_Table.B11 = true := by kernel_rfl
set_option maxHeartbeats 8000000 in
set_option maxRecDepth 100000 in
theorem sennitref20_Table.calls (k : Nat) (P0_ : Nat → Prop) (A0 : Option Addr) (c0 : Nat) (l0 : List ByteArray) (P1_ : Nat → Prop) (A1 : Option Addr) (c1 : Nat) (l1 : List (List ByteArray)) (r1 : List (S41)) (r2 : Int) (w : World) (hs0 : Kd.V Kd.string 9 w w.heap.size (fun k_ => P0_ k_) (.slice A0 l0.length c0) l0) (hs1 : Kd.V (Kd.slice 9 Kd.string) 44 w w.heap.size (fun k_ => P1_ k_) (.slice A1 l1.length c1) l1) (h : sennitref20_Table.f k l0 l1 = some (r1, r2)) :
    Calls Tryd.prog 25 #[.slice A0 l0.length c0, .slice A1 l1.length c1] w fun e w' => ∃ v0_ : Value, e = .returned (.tuple #[v0_, .int .i64 r2]) ∧ Kd.R k41 41 w' w.heap.size (fun k_ => (w.heap.size ≤ k_)) v0_ r1 ∧ Below w.heap.size w w' := by
  have hu41 := Tryd.underlying41
  have HO0 := Aside0.mk (show Kd.V Kd.string 9 w w.heap.size (fun k_ => ((P0_ k_ ∨ P1_ k_) ∨ w.heap.size ≤ k_)) (.slice A0 l0.length c0) l0 from Kd.V_mono hs0 (fun k_ hk => .inl (.inl hk)))
  have HO1 := Aside0.mk (show Kd.V (Kd.slice 9 Kd.string) 44 w w.heap.size (fun k_ => ((P0_ k_ ∨ P1_ k_) ∨ w.heap.size ≤ k_)) (.slice A1 l1.length c1) l1 from Kd.V_mono hs1 (fun k_ hk => .inl (.inr hk)))
  have HB := Aside0.mk (Below.refl w.heap.size w)
  have H : ((sennitref20_wrong.f k l0 l1).bind fun t524 => (if t524 = 0 then ((some (([l0] : List (List ByteArray)) : List (List ByteArray))).bind fun y525 => (if y525.length + l1.length < 5864062014805 then ((sennitref02_All.f k (y525 ++ l1)).bind fun t531 => (sennitref20_Table.l0 k l0 l1 t531 ([] : List (List Int)) 0)) else (none))) else (some (([] : List (S41)), t524)))) = some (r1, r2) := h
  clear h
  replace H := Option.bind_eq_some_iff.mp H
  obtain ⟨t524, A30, H⟩ := H
  replace H : (if t524 = 0 then ((some (([l0] : List (List ByteArray)) : List (List ByteArray))).bind fun y525 => (if y525.length + l1.length < 5864062014805 then ((sennitref02_All.f k (y525 ++ l1)).bind fun t531 => (sennitref20_Table.l0 k l0 l1 t531 ([] : List (List Int)) 0)) else (none))) else (some (([] : List (S41)), t524))) = some (r1, r2) := H
  have A3 := Aside0.mk A30
  clear A30
  by_cases c4 : t524 = 0
  · rw [if_pos c4] at H
    have c4b0 : (t524 == 0) = true := beq_iff_eq.mpr c4
    have c4b1 : (t524 != 0) = false := bne_eq_false_iff_eq.mpr c4
    clear c4
    obtain ⟨y525, hy525⟩ : ∃ y_ : List (List ByteArray), y_ = (([l0] : List (List ByteArray))) := ⟨_, rfl⟩
    replace H : (if y525.length + l1.length < 5864062014805 then ((sennitref02_All.f k (y525 ++ l1)).bind fun t531 => (sennitref20_Table.l0 k l0 l1 t531 ([] : List (List Int)) 0)) else (none)) = some (r1, r2) := by first | (rw [hy525]; with_reducible exact H) | (have H2_ := (Option.bind_some _ _).symm.trans H; rw [hy525]; with_reducible exact H2_) | (have H2_ := (Option.bind_some _ _).symm.trans H; with_reducible exact H2_) | with_reducible exact H | (rw [hy525]; exact H) | exact H
    have Ny525 := Aside0.mk hy525
    clear hy525
    by_cases c5 : y525.length + l1.length < 5864062014805
    · rw [if_pos c5] at H
      have LMc5 := Aside0.mk c5
      clear c5
      obtain ⟨y528, hy528⟩ : ∃ y_ : List (List ByteArray), y_ = (y525 ++ l1) := ⟨_, rfl⟩
      replace H : ((sennitref02_All.f k y528).bind fun t531 => (sennitref20_Table.l0 k l0 l1 t531 ([] : List (List Int)) 0)) = some (r1, r2) := by first | (rw [hy528]; with_reducible exact H) | (have H2_ := (Option.bind_some _ _).symm.trans H; rw [hy528]; with_reducible exact H2_) | (have H2_ := (Option.bind_some _ _).symm.trans H; with_reducible exact H2_) | with_reducible exact H | (rw [hy528]; exact H) | exact H
      have Ny528 := Aside0.mk hy528
      clear hy528
      replace H := Option.bind_eq_some_iff.mp H
      obtain ⟨t531, A60, H⟩ := H
      replace H : (sennitref20_Table.l0 k l0 l1 t531 ([] : List (List Int)) 0) = some (r1, r2) := H
      have A6 := Aside0.mk A60
      clear A60
      have H' := Aside0.mk H
      clear H
      go_enter Tryd.func25, Tryd.ntmps25
      go_wp2_with (first | ((with_reducible refine gate_callee (f := 46) rfl ?_); refine goesL_ (some 19) rfl rfl Tryd.func46 (by kernel_rfl) rfl #[.slice A0 l0.length c0, .slice A1 l1.length c1] rfl (by (try simp only [List.map_toArray, List.map_cons, List.map_nil]); first | done | rfl | (simp only [List.length_drop, List.length_take]; rfl)) ?_; (with_reducible refine (sennitref20_wrong.calls k _ _ l0 _ _ l1 t524 _ ?side1 ?side2 ?side3 ?side4 A3.out).mono ?_); (case side1 => repeat (first | exact (Kd.V_reads' HO0.out).2.2 | (with_reducible refine Kd.C_alloc ?_ _) | (with_reducible refine Kd.C_drewN ?_ _) | (with_reducible refine Kd.C_drew ?_))); (case side2 => exact (Kd.V_reads' HO0.out).2.1); (case side3 => repeat (first | exact (Kd.V_reads' HO1.out).2.2 | (with_reducible refine Kd.C_alloc ?_ _) | (with_reducible refine Kd.C_drewN ?_ _) | (with_reducible refine Kd.C_drew ?_))); (case side4 => exact (Kd.V_reads' HO1.out).2.1); rintro e w' ⟨rfl, ⟨nd, rfl⟩⟩; refine ⟨_, rfl, ?_⟩) | ((with_reducible refine gate_dst (N := 24) rfl ?_); refine Kd.N_lit (Kd.slice 9 Kd.string) _ 44 ?hg (N' := 24) ?hd (xs := ([l0] : List (List ByteArray))) (inner := [.slice A0 l0.length c0]) (ok := (fun k_ => ((P0_ k_ ∨ P1_ k_) ∨ w.heap.size ≤ k_))) (okp := (fun k_ => ((P0_ k_ ∨ P1_ k_) ∨ w.heap.size ≤ k_))) ?hr ?hp (fun _ hk => hk) ((show ∀ k_, w.heap.size ≤ k_ → (fun k_ => ((P0_ k_ ∨ P1_ k_) ∨ w.heap.size ≤ k_)) k_ from fun k_ hk => (.inr (Nat.le_trans (below_size (by repeat (first | (with_reducible first | exact HB.out | apply below_alloc | apply pw_below_drewN | apply below_drew1) | exact HB.out))) hk))) _ (Nat.le_refl _)) (Below.refl _ _) (Nat.le_refl _) (by simp) ?_; (case hd => rfl); (case hg => rfl); (case hr => first | (go_simp; done) | (go_simp; rfl)); (case hp => exact (Reps.one (show Kd.FK (Kd.slice 9 Kd.string) _ _ l0 [.slice A0 l0.length c0] from (Kd.FK_slice_mk (Kd.V_reads' (Kd.V_mono (ok' := (fun k_ => ((P0_ k_ ∨ P1_ k_) ∨ w.heap.size ≤ k_))) (HO0.out) (fun k_ hk => hk))).2.1 (Kd.V_F (Kd.V_mono (ok' := (fun k_ => ((P0_ k_ ∨ P1_ k_) ∨ w.heap.size ≤ k_))) (by (with_reducible repeat (first | apply Kd.V_alloc | apply Kd.V_drewN | apply Kd.V_drew)); exact HO0.out) (fun k_ hk => hk))))) (Reps.none _ _))); intro v526 w7 ho8 hb hg_ hnew_; clear hg_ hnew_; (first | rw [← Ny525.out] at ho8 | (simp only [Int.reduceToNat] at ho8; rw [← Ny525.out] at ho8)); have n0_ := Aside0.mk (Kd.V_elder' (by (with_reducible repeat (first | apply Kd.V_alloc | apply Kd.V_drewN | apply Kd.V_drew)); exact HO0.out) (Kd.N_base ho8) hb); have n1_ := Aside0.mk (Kd.V_elder' (by (with_reducible repeat (first | apply Kd.V_alloc | apply Kd.V_drewN | apply Kd.V_drew)); exact HO1.out) (Kd.N_base ho8) hb); have n2_ := Aside0.mk (Kd.N_lower ho8 (below_size (by repeat (first | (with_reducible first | exact HB.out | apply below_alloc | apply pw_below_drewN | apply below_drew1) | exact HB.out)))); have n3_ := Aside0.mk (below_step (by repeat (first | (with_reducible first | exact HB.out | apply below_alloc | apply pw_below_drewN | apply below_drew1) | exact HB.out)) hb); clear HO0; clear HO1; clear HB; have HO0 := n0_; have HO1 := n1_; have HO527 := n2_; have HB := n3_; clear n0_ n1_ n2_ n3_; clear hb ho8) | ((with_reducible refine gate_builtin (b := .append) (xs := #[.tmp 25, .tmp 26]) rfl ?_); at_builtin; refine Kd.N_append_rows (Kd.slice 9 Kd.string) (w0 := w) w.heap.size rfl (.tmp 25) (.tmp 26) 49 44 (.slice none 0 0) 24 rfl Tryd.underlying49 info44 rfl (by decide) (by omega) v526 y525 l1 _ _ _ (fun k_ => ((P0_ k_ ∨ P1_ k_) ∨ w.heap.size ≤ k_)) (fun k_ => ((fun k_ => ((P0_ k_ ∨ P1_ k_) ∨ w.heap.size ≤ k_))) k_ ∧ some k_ ≠ (v526 : Value).ownBlock) rfl rfl ?aO ?aR (fun _ hk => hk) ?aF ?aB ?aS ?aL ?_; (case aR => exact (by skip; exact Kd.V_F (Kd.V_mono (ok' := (fun k_ => ((fun k_ => ((P0_ k_ ∨ P1_ k_) ∨ w.heap.size ≤ k_))) k_ ∧ some k_ ≠ (v526 : Value).ownBlock)) (by (with_reducible repeat (first | apply Kd.V_alloc | apply Kd.V_drewN | apply Kd.V_drew)); exact HO1.out) (fun k_ (hk : _ ∧ _) => ⟨hk.1, hk.2⟩)))); (case aB => exact (by repeat (first | (with_reducible first | exact HB.out | apply below_alloc | apply pw_below_drewN | apply below_drew1) | exact HB.out))); (case aF => exact (fun k_ hk => (.inr (Nat.le_trans (below_size (by repeat (first | (with_reducible first | exact HB.out | apply below_alloc | apply pw_below_drewN | apply below_drew1) | exact HB.out))) hk)))); (case aO => exact (by (with_reducible repeat (first | apply Kd.N_alloc | apply Kd.N_drewN | apply Kd.N_drew)); exact HO527.out)); (case aS => exact (below_size (by repeat (first | (with_reducible first | exact HB.out | apply below_alloc | apply pw_below_drewN | apply below_drew1) | exact HB.out)))); (case aL => have := LMc5.out; omega); intro v529 w9 ho hb hg hat; rw [← Ny528.out] at ho; have n0_ := Aside0.mk (Kd.V_afterv (ok := (fun k_ => ((P0_ k_ ∨ P1_ k_) ∨ w.heap.size ≤ k_))) (by (with_reducible repeat (first | apply Kd.V_alloc | apply Kd.V_drewN | apply Kd.V_drew)); exact HO0.out) hg hat); have n1_ := Aside0.mk (Kd.V_afterv (ok := (fun k_ => ((P0_ k_ ∨ P1_ k_) ∨ w.heap.size ≤ k_))) (by (with_reducible repeat (first | apply Kd.V_alloc | apply Kd.V_drewN | apply Kd.V_drew)); exact HO1.out) hg hat); have n2_ := Aside0.mk (hb); have n3_ := Aside0.mk (ho); clear HO0; clear HO1; clear HB; clear HO527; have HO0 := n0_; have HO1 := n1_; have HB := n2_; have HO530 := n3_; clear n0_ n1_ n2_ n3_; clear ho hb hg hat; obtain ⟨Ao10, co10, eo10⟩ := Kd.N_slice HO530.out; subst eo10) | ((with_reducible refine gate_callee (f := 47) rfl ?_); refine goesL_ (some 29) rfl rfl Tryd.func47 (by kernel_rfl) rfl #[.slice Ao10 y528.length co10] rfl (by (try simp only [List.map_toArray, List.map_cons, List.map_nil]); first | done | rfl | (simp only [List.length_drop, List.length_take]; rfl)) ?_; (with_reducible refine (sennitref02_All.calls k _ _ y528 t531 _ ?side1 ?side2 A6.out).mono ?_); (case side1 => repeat (first | exact (Kd.N_reads' HO530.out).2.2 | (with_reducible refine Kd.C_alloc ?_ _) | (with_reducible refine Kd.C_drewN ?_ _) | (with_reducible refine Kd.C_drew ?_))); (case side2 => exact (Kd.N_reads' HO530.out).2.1); rintro e w11 ⟨v532, rfl, ho0, hb⟩; refine ⟨_, rfl, ?_⟩; have n0_ := Aside0.mk (Kd.V_elder' (by (with_reducible repeat (first | apply Kd.V_alloc | apply Kd.V_drewN | apply Kd.V_drew)); exact HO0.out) (Kd.N_base (Kd.S_N (Kd.S_bound ho0))) hb); have n1_ := Aside0.mk (Kd.V_elder' (by (with_reducible repeat (first | apply Kd.V_alloc | apply Kd.V_drewN | apply Kd.V_drew)); exact HO1.out) (Kd.N_base (Kd.S_N (Kd.S_bound ho0))) hb); have n2_ := Aside0.mk (Kd.N_elder' (by (with_reducible repeat (first | apply Kd.N_alloc | apply Kd.N_drewN | apply Kd.N_drew)); exact HO530.out) (Kd.N_base (Kd.S_N (Kd.S_bound ho0))) hb); have n3_ := Aside0.mk (Kd.N_lower (Kd.N_mono (ok' := fun k_ => ((P0_ k_ ∨ P1_ k_) ∨ w.heap.size ≤ k_) ∧ some k_ ≠ (.slice Ao10 y528.length co10 : Value).ownBlock) (Kd.S_N (Kd.S_bound ho0)) (fun k_ hk_ => ⟨(.inr (Nat.le_trans (below_size (by repeat (first | (with_reducible first | exact HB.out | apply below_alloc | apply pw_below_drewN | apply below_drew1) | exact HB.out))) hk_.2.1)), (Kd.fresh' (Kd.N_lt (by (with_reducible repeat (first | apply Kd.N_alloc | apply Kd.N_drewN | apply Kd.N_drew)); exact HO530.out)) k_ hk_.2.1)⟩)) (below_size (by repeat (first | (with_reducible first | exact HB.out | apply below_alloc | apply pw_below_drewN | apply below_drew1) | exact HB.out)))); have n4_ := Aside0.mk (below_step (by repeat (first | (with_reducible first | exact HB.out | apply below_alloc | apply pw_below_drewN | apply below_drew1) | exact HB.out)) hb); clear HO0; clear HO1; clear HO530; clear HB; have HO0 := n0_; have HO1 := n1_; have HO530 := n2_; have HO533 := n3_; have HB := n4_; clear n0_ n1_ n2_ n3_ n4_; (try clear hb); (try clear hb2); (try clear hk); (try clear hi); (try clear ho0)))
      go_loopg [9, 10] k (fun kq v9 v10 w' => ∃ (x9_1 : List (List Int)) (x10_1 : Int), v10 = .int .i64 x10_1 ∧ Aside0 (sennitref20_Table.l0 kq l0 l1 t531 x9_1 x10_1 = some (r1, r2)) ∧ Aside0 (kq ≤ k) ∧ Aside0 (Kd.V Kd.string 9 w' w.heap.size (fun k_ => ((P0_ k_ ∨ P1_ k_) ∨ w.heap.size ≤ k_) ∧ some k_ ≠ (v532 : Value).ownBlock ∧ some k_ ≠ (v9 : Value).ownBlock) (.slice A0 l0.length c0) l0) ∧ Aside0 (Kd.V (Kd.slice 9 Kd.string) 44 w' w.heap.size (fun k_ => ((P0_ k_ ∨ P1_ k_) ∨ w.heap.size ≤ k_) ∧ some k_ ≠ (v532 : Value).ownBlock ∧ some k_ ≠ (v9 : Value).ownBlock) (.slice A1 l1.length c1) l1) ∧ Aside0 (Kd.N (Kd.slice 3 (Kd.int .i64)) 59 w' w.heap.size (fun k_ => ((P0_ k_ ∨ P1_ k_) ∨ w.heap.size ≤ k_) ∧ some k_ ≠ (v9 : Value).ownBlock) v532 t531) ∧ Aside0 (Kd.N (Kd.slice 3 (Kd.int .i64)) 59 w' w.heap.size (fun k_ => ((P0_ k_ ∨ P1_ k_) ∨ w.heap.size ≤ k_) ∧ some k_ ≠ (v532 : Value).ownBlock) v9 x9_1) ∧ Aside0 (Below w.heap.size w w'))
      case atStart => exact ⟨(([] : List (List Int))), (0), (by first | rfl | (simp; done) | (simp [*]; done)), H', ⟨Nat.le_refl _⟩, ⟨by (with_reducible repeat (first | apply Kd.V_alloc | apply Kd.V_drewN | apply Kd.V_drew)); exact Kd.V_mono HO0.out (fun _ hk => ⟨hk.1.1, ⟨hk.2, (by simp [Value.ownBlock])⟩⟩)⟩, ⟨by (with_reducible repeat (first | apply Kd.V_alloc | apply Kd.V_drewN | apply Kd.V_drew)); exact Kd.V_mono HO1.out (fun _ hk => ⟨hk.1.1, ⟨hk.2, (by simp [Value.ownBlock])⟩⟩)⟩, ⟨by (with_reducible repeat (first | apply Kd.N_alloc | apply Kd.N_drewN | apply Kd.N_drew)); exact Kd.N_mono HO533.out (fun _ hk => ⟨hk.1, (by simp [Value.ownBlock])⟩)⟩, ⟨by first | exact Kd.S_nil _ _ _ _ _ | exact Kd.N_nil _ _ _ _ _ | exact Kd.V_nil _ _ _ _ _ | exact Kd.Q_nil _ _ _ _ _ | exact Kd.R_nil _ _ _ _ _⟩, ⟨by repeat (first | (with_reducible first | exact HB.out | apply below_alloc | apply pw_below_drewN | apply below_drew1) | exact HB.out)⟩⟩
      case round =>
        clear H'
        try clear c1
        try clear c2
        try clear p2
        try clear c4
        try clear c4b0
        try clear c4b1
        try clear c5
        obtain ⟨x9_1, x10_1, rfl, HA, HK1, HO_0, HO_1, HO_8, HO_9, HB⟩ := hrel
        cases gk with
        | zero => exact absurd HA.out (by simp [sennitref20_Table.l0])
        | succ k1 =>
          have H := HA.out
          clear HA
          simp only [sennitref20_Table.l0] at H
          by_cases c12 : x10_1 < (l1.length : Int)
          · rw [if_pos c12] at H
            have c12b0 : decide (x10_1 < (l1.length : Int)) = true := decide_eq_true c12
            clear c12
            by_cases c13 : 0 < (t531.length : Int)
            · rw [if_pos c13] at H
              have c13b0 : decide (0 < (t531.length : Int)) = true := decide_eq_true c13
              have c13b1 : decide (0 < t531.length) = true := decide_eq_true (by omega)
              clear c13
              obtain ⟨ji14, hji14⟩ : ∃ j_ : Int, (wrap64 (x10_1 + 1)) = j_ := ⟨_, rfl⟩
              replace H : (if 0 ≤ (ji14) then (if (ji14) < (t531.length : Int) then ((sennitref03_Match.f k1 (rd_L9 t531 0) (rd_L9 t531 (ji14))).bind fun t536 => (if x9_1.length < 5864062014805 then (sennitref20_Table.l0 k1 l0 l1 t531 (x9_1 ++ [t536]) ji14) else (none))) else (none)) else (none)) = some (r1, r2) := by first | (rw [hji14] at H; exact H) | (simp only [hji14] at H ⊢; exact H)
              have hji14w : (IntKind.i64.wrap (x10_1 + 1)) = ji14 := (i64_w _).trans hji14
              by_cases c15 : 0 ≤ (ji14)
              · rw [if_pos c15] at H
                have c15b0 : decide (0 ≤ (ji14)) = true := decide_eq_true c15
                clear c15
                by_cases c16 : (ji14) < (t531.length : Int)
                · rw [if_pos c16] at H
                  have c16b0 : decide ((ji14) < (t531.length : Int)) = true := decide_eq_true c16
                  clear c16
                  replace H := Option.bind_eq_some_iff.mp H
                  obtain ⟨t536, A170, H⟩ := H
                  replace H : (if x9_1.length < 5864062014805 then (sennitref20_Table.l0 k1 l0 l1 t531 (x9_1 ++ [t536]) ji14) else (none)) = some (r1, r2) := H
                  have A17 := Aside0.mk A170
                  clear A170
                  by_cases c18 : x9_1.length < 5864062014805
                  · rw [if_pos c18] at H
                    have LMc18 := Aside0.mk c18
                    clear c18
                    obtain ⟨y539, hy539⟩ : ∃ y_ : List (List Int), y_ = (x9_1 ++ [t536]) := ⟨_, rfl⟩
                    replace H : (sennitref20_Table.l0 k1 l0 l1 t531 y539 ji14) = some (r1, r2) := by first | (rw [hy539]; with_reducible exact H) | (have H2_ := (Option.bind_some _ _).symm.trans H; rw [hy539]; with_reducible exact H2_) | (have H2_ := (Option.bind_some _ _).symm.trans H; with_reducible exact H2_) | with_reducible exact H | (rw [hy539]; exact H) | exact H
                    have Ny539 := Aside0.mk hy539
                    clear hy539
                    have H' := Aside0.mk H
                    clear H
                    try go_wp2
                    have n0_ := Aside0.mk (Kd.V_drew HO_0.out)
                    have n1_ := Aside0.mk (Kd.V_drew HO_1.out)
                    have n2_ := Aside0.mk (Kd.N_drew HO_8.out)
                    have n3_ := Aside0.mk (Kd.N_drew HO_9.out)
                    have n4_ := Aside0.mk (below_drew1 HB.out)
                    clear HO_0
                    clear HO_1
                    clear HO_8
                    clear HO_9
                    clear HB
                    have HO_0 := n0_
                    have HO_1 := n1_
                    have HO_8 := n2_
                    have HO_9 := n3_
                    have HB := n4_
                    clear n0_ n1_ n2_ n3_ n4_
                    obtain ⟨Ao20, co20, eo20⟩ := Kd.N_slice HO_8.out
                    (first | subst eo20 | (injection eo20 with f1_ f2_ f3_; have f4_ := f1_.symm; have f5_ := f3_.symm; clear f1_ f2_ f3_; subst f4_; subst f5_))
                    have p534 : 0 ≤ (0 : Int) := (by omega)
                    have q534 : 0 < (t531.length : Int) := of_decide_eq_true (by first | (with_reducible assumption) | assumption)
                    obtain ⟨ad534, A534_0, c534_0, e534, hx534_0, hl534_0, hi534_0⟩ := at_L9 (Kd.N_reads' HO_8.out).2.2 0 p534 q534
                    cases e534
                    obtain ⟨ce534, hce534, hMe534, hcc534⟩ := Kd.N_get HO_8.out [] 0 p534 (by first | exact q534 | exact of_decide_eq_true (by first | (with_reducible assumption) | assumption) | (have e_ := (Kd.N_reads' HO_8.out).1; omega))
                    obtain ⟨ua534_0, uc534_0, rfl, ul534_0, ge534_0⟩ := Kd.FK_slice_open hMe534
                    have hv534_0 := hcc534 0 _ rfl
                    rw [Nat.add_zero, show ((Kd.slice 3 (Kd.int .i64))).sz = 1 from rfl, Nat.mul_one] at hv534_0
                    replace hv534_0 := Option.some.inj (hv534_0.symm.trans hx534_0)
                    injection hv534_0 with hva_ hvn_ hvc_
                    rw [hva_] at ge534_0
                    rw [hvc_] at ul534_0
                    have HL534_0 := Aside0.mk (show Kd.V (Kd.int .i64) 3 _ w.heap.size _ _ (rd_L9 t531 0) from Kd.V_mk ul534_0 ge534_0)
                    clear hva_ hvn_ hvc_ ge534_0 ul534_0
                    clear hcc534 hce534
                    have qi534 : (0 < t531.length) = True := eq_true (by omega)
                    (try rw [show ((0 : Int)).toNat = 0 from rfl] at hx534_0)
                    (try rw [Addr.add_zero'] at hx534_0)
                    have HR534_0 := Aside0.mk hi534_0
                    have HC534_0 := Aside0.mk hl534_0
                    clear hi534_0 hl534_0
                    replace p534 := eq_true p534
                    replace q534 := eq_true q534
                    have p535 : 0 ≤ ((ji14) : Int) := of_decide_eq_true (by first | (with_reducible assumption) | assumption)
                    have q535 : (ji14) < (t531.length : Int) := of_decide_eq_true (by first | (with_reducible assumption) | assumption)
                    obtain ⟨ad535, A535_0, c535_0, e535, hx535_0, hl535_0, hi535_0⟩ := at_L9 (Kd.N_reads' HO_8.out).2.2 (ji14) p535 q535
                    obtain rfl : ad534 = ad535 := (by injection e535)
                    obtain ⟨ce535, hce535, hMe535, hcc535⟩ := Kd.N_get HO_8.out [] (ji14) p535 (by first | exact q535 | exact of_decide_eq_true (by first | (with_reducible assumption) | assumption) | (have e_ := (Kd.N_reads' HO_8.out).1; omega))
                    obtain ⟨ua535_0, uc535_0, rfl, ul535_0, ge535_0⟩ := Kd.FK_slice_open hMe535
                    have hv535_0 := hcc535 0 _ rfl
                    rw [Nat.add_zero, show ((Kd.slice 3 (Kd.int .i64))).sz = 1 from rfl, Nat.mul_one] at hv535_0
                    replace hv535_0 := Option.some.inj (hv535_0.symm.trans hx535_0)
                    injection hv535_0 with hva_ hvn_ hvc_
                    rw [hva_] at ge535_0
                    rw [hvc_] at ul535_0
                    have HL535_0 := Aside0.mk (show Kd.V (Kd.int .i64) 3 _ w.heap.size _ _ (rd_L9 t531 (ji14)) from Kd.V_mk ul535_0 ge535_0)
                    clear hva_ hvn_ hvc_ ge535_0 ul535_0
                    clear hcc535 hce535
                    have HR535_0 := Aside0.mk hi535_0
                    have HC535_0 := Aside0.mk hl535_0
                    clear hi535_0 hl535_0
                    replace p535 := eq_true p535
                    replace q535 := eq_true q535
                    refine start_ (n := 13) (S := fun w' => w'.cell? ad534 = some (.slice A534_0 (rd_L9 t531 0).length c534_0) ∧ w'.cell? (ad534.add ((ji14)).toNat) = some (.slice A535_0 (rd_L9 t531 (ji14)).length c535_0)) (ds := [10, 11]) #[false, false, false, false, false, false, false, false, false, false, false, false, false] (by kernel_rfl) rfl rfl ⟨hx534_0, hx535_0⟩ (fun hHeld => ?_); refine with_tabW sennitref20_Table.tab11 sennitref20_Table.bits11 (fun HT_ HW_ => ?_)
                    generalize wr.drew = w19 at HO_0 HO_1 HO_8 HO_9 HB HL534_0 HL535_0 HR534_0 HR535_0 hx534_0 hx535_0 hHeld ⊢
                    refine pure_ (i := 0) (N := some 36) (v := ?_) (a' := ?_) #[true, false, false, false, false, false, false, false, false, false, false, false, false] rfl rfl (any_of HT_.out (by kernel_rfl)) (fun _ _ _ h => h) (Or.inl ⟨by rfl, ?_⟩) ?_ ?_
                    rotate_left
                    · intro w'
                      go_simp
                      with_reducible rfl
                    rotate_left
                    · simp only [Act.put, List.setIfInBounds_toArray, List.set_cons_zero, List.set_cons_succ, i64_w, i32_w]
                      rfl
                    refine pure_ (i := 1) (N := some 37) (v := ?_) (a' := ?_) #[true, true, false, false, false, false, false, false, false, false, false, false, false] rfl rfl (any_of HT_.out (by kernel_rfl)) (fun _ _ _ h => h) (Or.inl ⟨by rfl, ?_⟩) ?_ ?_
                    rotate_left
                    · intro w'
                      go_simp
                      with_reducible rfl
                    rotate_left
                    · simp only [Act.put, List.setIfInBounds_toArray, List.set_cons_zero, List.set_cons_succ, i64_w, i32_w]
                      rfl
                    refine pure_ (i := 2) (N := some 38) (v := ?_) (a' := ?_) #[true, true, true, false, false, false, false, false, false, false, false, false, false] rfl rfl (any_of HT_.out (by kernel_rfl)) (fun _ _ _ h => h) (Or.inl ⟨by rfl, ?_⟩) ?_ ?_
                    rotate_left
                    · intro w'
                      go_simp
                      with_reducible rfl
                    rotate_left
                    · simp only [Act.put, List.setIfInBounds_toArray, List.set_cons_zero, List.set_cons_succ, i64_w, i32_w]
                      rfl
                    refine pure_ (i := 4) (N := some 40) (v := ?_) (a' := ?_) #[true, true, true, false, true, false, false, false, false, false, false, false, false] rfl rfl (any_of HT_.out (by kernel_rfl)) (fun _ _ _ h => h) (Or.inl ⟨by rfl, ?_⟩) ?_ ?_
                    rotate_left
                    · intro w'
                      go_simp
                      with_reducible rfl
                    rotate_left
                    · simp only [Act.put, List.setIfInBounds_toArray, List.set_cons_zero, List.set_cons_succ, i64_w, i32_w]
                      rfl
                    refine pure_ (i := 5) (N := some 41) (v := ?_) (a' := ?_) #[true, true, true, false, true, true, false, false, false, false, false, false, false] rfl rfl (any_of HT_.out (by kernel_rfl)) (fun _ _ _ h => h) (Or.inl ⟨by rfl, ?_⟩) ?_ ?_
                    rotate_left
                    · intro w'
                      go_simp
                      with_reducible rfl
                    rotate_left
                    · simp only [Act.put, List.setIfInBounds_toArray, List.set_cons_zero, List.set_cons_succ, i64_w, i32_w]
                      rfl
                    refine pure_ (i := 6) (N := some 42) (v := ?_) (a' := ?_) #[true, true, true, false, true, true, true, false, false, false, false, false, false] rfl rfl (any_of HT_.out (by kernel_rfl)) (fun _ _ _ h => h) (Or.inl ⟨by rfl, ?_⟩) ?_ ?_
                    rotate_left
                    · intro w'
                      go_simp
                      with_reducible rfl
                    rotate_left
                    · simp only [Act.put, List.setIfInBounds_toArray, List.set_cons_zero, List.set_cons_succ, i64_w, i32_w]
                      rfl
                    refine pure_ (i := 7) (N := some 43) (v := ?_) (a' := ?_) #[true, true, true, false, true, true, true, true, false, false, false, false, false] rfl rfl (any_of HT_.out (by kernel_rfl)) (fun _ _ _ h => h) (Or.inl ⟨by rfl, ?_⟩) ?_ ?_
                    rotate_left
                    · intro w'
                      go_simp
                      with_reducible rfl
                    rotate_left
                    · simp only [Act.put, List.setIfInBounds_toArray, List.set_cons_zero, List.set_cons_succ, i64_w, i32_w]
                      rfl
                    refine take_ (i := 3) (N := some 39) (v := ?_) (a' := ?_) #[true, true, true, true, true, true, true, true, false, false, false, false, false] rfl rfl (take_ofW HT_.out HW_.out (by kernel_rfl)) (fun _ _ _ h => h) (Or.inl ⟨by rfl, ?_⟩) hHeld ?_ ?_
                    rotate_left
                    · rintro w' ⟨s0, s1⟩
                      go_simp
                      with_reducible rfl
                    rotate_left
                    · simp only [Act.put, List.setIfInBounds_toArray, List.set_cons_zero, List.set_cons_succ, i64_w, i32_w]
                      rfl
                    refine take_ (i := 8) (N := some 44) (v := ?_) (a' := ?_) #[true, true, true, true, true, true, true, true, true, false, false, false, false] rfl rfl (take_ofW HT_.out HW_.out (by kernel_rfl)) (fun _ _ _ h => h) (Or.inl ⟨by rfl, ?_⟩) hHeld ?_ ?_
                    rotate_left
                    · rintro w' ⟨s0, s1⟩
                      go_simp
                      with_reducible rfl
                    rotate_left
                    · simp only [Act.put, List.setIfInBounds_toArray, List.set_cons_zero, List.set_cons_succ, i64_w, i32_w]
                      rfl
                    refine one_ (i := 9) (N := some 45) #[true, true, true, true, true, true, true, true, true, true, false, false, false] rfl rfl (one_of HT_.out (by kernel_rfl)) (by decide) (fun K hK => ?_)
                    refine goes_ Tryd.func48 (by kernel_rfl) rfl #[.slice A534_0 (rd_L9 t531 0).length c534_0, .slice A535_0 (rd_L9 t531 (ji14)).length c535_0] (by rfl) rfl rfl (by (try simp only [List.map_toArray, List.map_cons, List.map_nil]); first | done | (simp only [hji14]; rfl) | rfl | (simp only [List.length_drop, List.length_take]; rfl)) ?_
                    with_reducible refine (sennitref03_Match.calls k1 _ _ (rd_L9 t531 0) _ _ (rd_L9 t531 (ji14)) t536 _ ?side1 ?side2 ?side3 ?side4 A17.out).mono ?_
                    (case side1 => repeat (first | exact (by repeat (first | (with_reducible exact HR534_0.out) | (with_reducible refine Kd.C_alloc ?_ _) | (with_reducible refine Kd.C_drewN ?_ _) | (with_reducible refine Kd.C_drew ?_) | exact HR534_0.out)) | (with_reducible refine Kd.C_alloc ?_ _) | (with_reducible refine Kd.C_drewN ?_ _) | (with_reducible refine Kd.C_drew ?_)))
                    (case side2 => exact HC534_0.out)
                    (case side3 => repeat (first | exact (by repeat (first | (with_reducible exact HR535_0.out) | (with_reducible refine Kd.C_alloc ?_ _) | (with_reducible refine Kd.C_drewN ?_ _) | (with_reducible refine Kd.C_drew ?_) | exact HR535_0.out)) | (with_reducible refine Kd.C_alloc ?_ _) | (with_reducible refine Kd.C_drewN ?_ _) | (with_reducible refine Kd.C_drew ?_)))
                    (case side4 => exact HC535_0.out)
                    rintro e w21 ⟨v537, rfl, ho0, hb⟩
                    have HS0_ := (hb.cell (World.block_lt_of_cell? _ _ (hHeld.1))).trans (hHeld.1)
                    have HS1_ := (hb.cell (World.block_lt_of_cell? _ _ (hHeld.2))).trans (hHeld.2)
                    refine ⟨_, rfl, ?_⟩
                    have n0_ := Aside0.mk (Kd.V_elder' (by (with_reducible repeat (first | apply Kd.V_alloc | apply Kd.V_drewN | apply Kd.V_drew)); exact HO_0.out) (Kd.R_base ho0) hb)
                    have n1_ := Aside0.mk (Kd.V_elder' (by (with_reducible repeat (first | apply Kd.V_alloc | apply Kd.V_drewN | apply Kd.V_drew)); exact HO_1.out) (Kd.R_base ho0) hb)
                    have n2_ := Aside0.mk (Kd.N_elder' (by (with_reducible repeat (first | apply Kd.N_alloc | apply Kd.N_drewN | apply Kd.N_drew)); exact HO_8.out) (Kd.R_base ho0) hb)
                    have n3_ := Aside0.mk (Kd.N_elder' (by (with_reducible repeat (first | apply Kd.N_alloc | apply Kd.N_drewN | apply Kd.N_drew)); exact HO_9.out) (Kd.R_base ho0) hb)
                    have n4_ := Aside0.mk (Kd.V_elder' (by (with_reducible repeat (first | apply Kd.V_alloc | apply Kd.V_drewN | apply Kd.V_drew)); exact HL534_0.out) (Kd.R_base ho0) hb)
                    have n5_ := Aside0.mk (Kd.V_elder' (by (with_reducible repeat (first | apply Kd.V_alloc | apply Kd.V_drewN | apply Kd.V_drew)); exact HL535_0.out) (Kd.R_base ho0) hb)
                    have n6_ := Aside0.mk (Kd.R_lower (Kd.R_newM (M := fun k_ => (w.heap.size ≤ k_)) ho0 (below_size (by repeat (first | (with_reducible first | exact HB.out | apply below_alloc | apply pw_below_drewN | apply below_drew1) | exact HB.out))) (fun k_ h_ => h_)) (below_size (by repeat (first | (with_reducible first | exact HB.out | apply below_alloc | apply pw_below_drewN | apply below_drew1) | exact HB.out))))
                    have n7_ := Aside0.mk (Kd.C_below (by repeat (first | (with_reducible exact HR534_0.out) | (with_reducible refine Kd.C_alloc ?_ _) | (with_reducible refine Kd.C_drewN ?_ _) | (with_reducible refine Kd.C_drew ?_) | exact HR534_0.out)) hb)
                    have n8_ := Aside0.mk (Kd.C_below (by repeat (first | (with_reducible exact HR535_0.out) | (with_reducible refine Kd.C_alloc ?_ _) | (with_reducible refine Kd.C_drewN ?_ _) | (with_reducible refine Kd.C_drew ?_) | exact HR535_0.out)) hb)
                    have n9_ := Aside0.mk (below_step (by repeat (first | (with_reducible first | exact HB.out | apply below_alloc | apply pw_below_drewN | apply below_drew1) | exact HB.out)) hb)
                    clear HO_0
                    clear HO_1
                    clear HO_8
                    clear HO_9
                    clear HL534_0
                    clear HL535_0
                    clear HR534_0
                    clear HR535_0
                    clear HB
                    have HO_0 := n0_
                    have HO_1 := n1_
                    have HO_8 := n2_
                    have HO_9 := n3_
                    have HL534_0 := n4_
                    have HL535_0 := n5_
                    have HO538 := n6_
                    have HR534_0 := n7_
                    have HR535_0 := n8_
                    have HB := n9_
                    clear n0_ n1_ n2_ n3_ n4_ n5_ n6_ n7_ n8_ n9_
                    (try clear hb)
                    (try clear hb2)
                    (try clear hk)
                    (try clear hi)
                    (try clear ho0)
                    obtain ⟨Ao23, co23, eo23⟩ := Kd.R_slice HO538.out
                    (first | subst eo23 | (injection eo23 with f1_ f2_ f3_; have f4_ := f1_.symm; have f5_ := f3_.symm; clear f1_ f2_ f3_; subst f4_; subst f5_))
                    refine hK.out _ _ ⟨HS0_, HS1_⟩ (fun hHeld => ?_)
                    clear hK K
                    refine norm_ (a' := ?_) ?_ ?_
                    rotate_left
                    · show Act.put _ (some 45) _ = _
                      simp only [Act.put, List.setIfInBounds_toArray, List.set_cons_zero, List.set_cons_succ, i64_w, i32_w]
                      rfl
                    refine last_ (i := 10) (N := some 46) #[true, true, true, true, true, true, true, true, true, true, true, false, false] rfl rfl (one_of HT_.out (by kernel_rfl)) (by decide) (fun K hK => ?_)
                    refine value_ (w1 := ?_) (v := ?_) (by rfl) rfl ?_ ?_
                    rotate_left 2
                    · go_simp
                      constructor
                      · rfl
                      · rfl
                    refine hK.out _ _ ?_
                    clear hK K
                    refine norm_ (a' := ?_) ?_ ?_
                    rotate_left
                    · show Act.put _ (some 46) _ = _
                      simp only [Act.put, List.setIfInBounds_toArray, List.set_cons_zero, List.set_cons_succ, i64_w, i32_w]
                      rfl
                    refine last_ (i := 11) (N := some 47) #[true, true, true, true, true, true, true, true, true, true, true, true, false] rfl rfl (one_of HT_.out (by kernel_rfl)) (by decide) (fun K hK => ?_)
                    refine Kd.N_append_step (Kd.slice 3 (Kd.int .i64)) (w0 := w) w.heap.size (by rfl) (.tmp 36) (.tmp 46) 76 59 (.slice none 0 0) 24 rfl Tryd.underlying76 info59 rfl (by decide) (by omega) u9 x9_1 t536 [.slice Ao23 t536.length co23] (fun k_ => ((P0_ k_ ∨ P1_ k_) ∨ w.heap.size ≤ k_) ∧ some k_ ≠ (.slice (some ad534) t531.length co20 : Value).ownBlock) (fun k_ => ((fun k_ => ((P0_ k_ ∨ P1_ k_) ∨ w.heap.size ≤ k_) ∧ some k_ ≠ (.slice (some ad534) t531.length co20 : Value).ownBlock)) k_ ∧ some k_ ≠ (u9 : Value).ownBlock) rfl rfl ?aP (fun _ hk => hk) ?aF ?aO ?aB ?aS ?aL ?_
                    (case aP => exact (Kd.FK_slice_mk (Kd.R_reads' (Kd.R_mono (ok' := (fun k_ => ((fun k_ => ((P0_ k_ ∨ P1_ k_) ∨ w.heap.size ≤ k_) ∧ some k_ ≠ (.slice (some ad534) t531.length co20 : Value).ownBlock)) k_ ∧ some k_ ≠ (u9 : Value).ownBlock)) (Kd.R_apart' (Kd.R_apart' (HO538.out) (Kd.N_typed HO_8.out) (by decide)) (Kd.N_typed HO_9.out) (by decide)) (fun k_ hk => ⟨⟨(.inr (hk.1.1.1)), hk.1.2⟩, hk.2⟩))).2.1 (Kd.R_F (Kd.R_mono (ok' := (fun k_ => ((fun k_ => ((P0_ k_ ∨ P1_ k_) ∨ w.heap.size ≤ k_) ∧ some k_ ≠ (.slice (some ad534) t531.length co20 : Value).ownBlock)) k_ ∧ some k_ ≠ (u9 : Value).ownBlock)) (Kd.R_apart' (Kd.R_apart' (HO538.out) (Kd.N_typed HO_8.out) (by decide)) (Kd.N_typed HO_9.out) (by decide)) (fun k_ hk => ⟨⟨(.inr (hk.1.1.1)), hk.1.2⟩, hk.2⟩)))))
                    (case aB => exact (by repeat (first | (with_reducible first | exact HB.out | apply below_alloc | apply pw_below_drewN | apply below_drew1) | exact HB.out)))
                    (case aF => exact (fun k_ hk => ⟨(.inr (Nat.le_trans (below_size (by repeat (first | (with_reducible first | exact HB.out | apply below_alloc | apply pw_below_drewN | apply below_drew1) | exact HB.out))) hk)), Kd.fresh' (Kd.N_lt (by (with_reducible repeat (first | apply Kd.N_alloc | apply Kd.N_drewN | apply Kd.N_drew)); exact HO_8.out)) k_ hk⟩))
                    (case aO => exact (by (with_reducible repeat (first | apply Kd.N_alloc | apply Kd.N_drewN | apply Kd.N_drew)); exact Kd.N_mono HO_9.out (fun _ hk => ⟨hk.1.1, hk.1.2⟩)))
                    (case aS => exact (below_size (by repeat (first | (with_reducible first | exact HB.out | apply below_alloc | apply pw_below_drewN | apply below_drew1) | exact HB.out))))
                    (case aL => have := LMc18.out; omega)
                    intro v540 w22 ho hb hg hat
                    rw [← Ny539.out] at ho
                    have n0_ := Aside0.mk (Kd.V_afterv (ok := (fun k_ => ((P0_ k_ ∨ P1_ k_) ∨ w.heap.size ≤ k_) ∧ some k_ ≠ (.slice (some ad534) t531.length co20 : Value).ownBlock ∧ some k_ ≠ (.slice Ao23 t536.length co23 : Value).ownBlock)) (by (with_reducible repeat (first | apply Kd.V_alloc | apply Kd.V_drewN | apply Kd.V_drew)); exact Kd.V_mono HO_0.out (fun _ hk => ⟨⟨hk.1.1, ⟨hk.1.2.1, hk.2⟩⟩, hk.1.2.2⟩)) hg hat)
                    have n1_ := Aside0.mk (Kd.V_afterv (ok := (fun k_ => ((P0_ k_ ∨ P1_ k_) ∨ w.heap.size ≤ k_) ∧ some k_ ≠ (.slice (some ad534) t531.length co20 : Value).ownBlock ∧ some k_ ≠ (.slice Ao23 t536.length co23 : Value).ownBlock)) (by (with_reducible repeat (first | apply Kd.V_alloc | apply Kd.V_drewN | apply Kd.V_drew)); exact Kd.V_mono HO_1.out (fun _ hk => ⟨⟨hk.1.1, ⟨hk.1.2.1, hk.2⟩⟩, hk.1.2.2⟩)) hg hat)
                    have n2_ := Aside0.mk (Kd.N_afterv (ok := (fun k_ => ((P0_ k_ ∨ P1_ k_) ∨ w.heap.size ≤ k_) ∧ some k_ ≠ (.slice Ao23 t536.length co23 : Value).ownBlock)) (by (with_reducible repeat (first | apply Kd.N_alloc | apply Kd.N_drewN | apply Kd.N_drew)); exact Kd.N_mono HO_8.out (fun _ hk => ⟨⟨hk.1.1, hk.2⟩, hk.1.2⟩)) hg hat)
                    have n3_ := Aside0.mk (Kd.V_afterv (ok := (fun k_ => ((P0_ k_ ∨ P1_ k_) ∨ w.heap.size ≤ k_) ∧ some k_ ≠ (.slice (some ad534) t531.length co20 : Value).ownBlock ∧ some k_ ≠ (.slice Ao23 t536.length co23 : Value).ownBlock)) (by (with_reducible repeat (first | apply Kd.V_alloc | apply Kd.V_drewN | apply Kd.V_drew)); exact Kd.V_mono HL534_0.out (fun _ hk => ⟨⟨hk.1.1.1, ⟨hk.1.2, hk.2⟩⟩, hk.1.1.2⟩)) hg hat)
                    have n4_ := Aside0.mk (Kd.V_afterv (ok := (fun k_ => ((P0_ k_ ∨ P1_ k_) ∨ w.heap.size ≤ k_) ∧ some k_ ≠ (.slice (some ad534) t531.length co20 : Value).ownBlock ∧ some k_ ≠ (.slice Ao23 t536.length co23 : Value).ownBlock)) (by (with_reducible repeat (first | apply Kd.V_alloc | apply Kd.V_drewN | apply Kd.V_drew)); exact Kd.V_mono HL535_0.out (fun _ hk => ⟨⟨hk.1.1.1, ⟨hk.1.2, hk.2⟩⟩, hk.1.1.2⟩)) hg hat)
                    have n5_ := Aside0.mk (hb)
                    have n6_ := Aside0.mk (ho)
                    clear HO_0
                    clear HO_1
                    clear HO_8
                    clear HL534_0
                    clear HL535_0
                    clear HB
                    clear HO_9
                    clear HO538
                    have HO_0 := n0_
                    have HO_1 := n1_
                    have HO_8 := n2_
                    have HL534_0 := n3_
                    have HL535_0 := n4_
                    have HB := n5_
                    have HO541 := n6_
                    clear n0_ n1_ n2_ n3_ n4_ n5_ n6_
                    clear ho hb hg hat
                    refine hK.out _ _ ?_
                    clear hK K
                    refine norm_ (a' := ?_) ?_ ?_
                    rotate_left
                    · show Act.put _ (some 47) _ = _
                      simp only [Act.put, List.setIfInBounds_toArray, List.set_cons_zero, List.set_cons_succ, i64_w, i32_w]
                      rfl
                    refine pure_ (i := 12) (N := some 9) (v := ?_) (a' := ?_) #[true, true, true, true, true, true, true, true, true, true, true, true, true] rfl rfl (any_of HT_.out (by kernel_rfl)) (fun _ _ _ h => h) (Or.inl ⟨by rfl, ?_⟩) ?_ ?_
                    rotate_left
                    · intro w'
                      go_simp
                      with_reducible rfl
                    rotate_left
                    · simp only [Act.put, List.setIfInBounds_toArray, List.set_cons_zero, List.set_cons_succ, i64_w, i32_w]
                      rfl
                    refine done_ (done_of HT_.out (by kernel_rfl)) ?_
                    try go_wp2
                    go_roundg k1
                    case measure => have := HK1.out; omega
                    case rel => exact ⟨(y539), (ji14), (by first | rfl | (simp; done) | (simp only [← hji14] <;> (first | rfl | simp)) | (simp [*]; done)), H', ⟨by have := HK1.out; omega⟩, ⟨by (with_reducible repeat (first | apply Kd.V_alloc | apply Kd.V_drewN | apply Kd.V_drew)); exact Kd.V_mono HO_0.out (fun _ hk => ⟨hk.1.1, ⟨hk.1.2.1, hk.2⟩⟩)⟩, ⟨by (with_reducible repeat (first | apply Kd.V_alloc | apply Kd.V_drewN | apply Kd.V_drew)); exact Kd.V_mono HO_1.out (fun _ hk => ⟨hk.1.1, ⟨hk.1.2.1, hk.2⟩⟩)⟩, ⟨by (with_reducible repeat (first | apply Kd.N_alloc | apply Kd.N_drewN | apply Kd.N_drew)); exact Kd.N_mono HO_8.out (fun _ hk => ⟨hk.1.1, hk.2⟩)⟩, ⟨by (with_reducible repeat (first | apply Kd.N_alloc | apply Kd.N_drewN | apply Kd.N_drew)); exact HO541.out⟩, ⟨by repeat (first | (with_reducible first | exact HB.out | apply below_alloc | apply pw_below_drewN | apply below_drew1) | exact HB.out)⟩⟩
                  · rw [if_neg c18] at H
                    exact absurd H (by simp)
                · rw [if_neg c16] at H
                  exact absurd H (by simp)
              · rw [if_neg c15] at H
                exact absurd H (by simp)
            · rw [if_neg c13] at H
              exact absurd H (by simp)
          · rw [if_neg c12] at H
            have c12b0 : decide (x10_1 < (l1.length : Int)) = false := decide_eq_false c12
            clear c12
            have H' := Aside0.mk H
            clear H
            go_wp2
            go_loopg [11, 12] k1 (fun kq v11 v12 w' => ∃ (x11_2 : List (S41)) (x12_2 : Int), v12 = .int .i64 x12_2 ∧ Aside0 (sennitref20_Table.l1 kq l0 l1 x9_1 x11_2 x12_2 = some (r1, r2)) ∧ Aside0 (kq ≤ k1) ∧ Aside0 (Kd.V Kd.string 9 w' w.heap.size (fun k_ => ((P0_ k_ ∨ P1_ k_) ∨ w.heap.size ≤ k_) ∧ some k_ ≠ (u9 : Value).ownBlock ∧ some k_ ≠ (v11 : Value).ownBlock) (.slice A0 l0.length c0) l0) ∧ Aside0 (Kd.V (Kd.slice 9 Kd.string) 44 w' w.heap.size (fun k_ => ((P0_ k_ ∨ P1_ k_) ∨ w.heap.size ≤ k_) ∧ some k_ ≠ (u9 : Value).ownBlock ∧ some k_ ≠ (v11 : Value).ownBlock) (.slice A1 l1.length c1) l1) ∧ Aside0 (Kd.N (Kd.slice 3 (Kd.int .i64)) 59 w' w.heap.size (fun k_ => ((P0_ k_ ∨ P1_ k_) ∨ w.heap.size ≤ k_) ∧ some k_ ≠ (v11 : Value).ownBlock) u9 x9_1) ∧ Aside0 (Kd.R k41 41 w' w.heap.size (fun k_ => (w.heap.size ≤ k_)) v11 x11_2) ∧ Aside0 (Below w.heap.size w w'))
            case atStart => exact ⟨(([] : List (S41))), (0), (by first | rfl | (simp; done) | (simp [*]; done)), H', ⟨Nat.le_refl _⟩, ⟨by (with_reducible repeat (first | apply Kd.V_alloc | apply Kd.V_drewN | apply Kd.V_drew)); exact Kd.V_mono HO_0.out (fun _ hk => ⟨hk.1, ⟨hk.2.2, (by simp [Value.ownBlock])⟩⟩)⟩, ⟨by (with_reducible repeat (first | apply Kd.V_alloc | apply Kd.V_drewN | apply Kd.V_drew)); exact Kd.V_mono HO_1.out (fun _ hk => ⟨hk.1, ⟨hk.2.2, (by simp [Value.ownBlock])⟩⟩)⟩, ⟨by (with_reducible repeat (first | apply Kd.N_alloc | apply Kd.N_drewN | apply Kd.N_drew)); exact Kd.N_mono HO_9.out (fun _ hk => ⟨hk.1, (by simp [Value.ownBlock])⟩)⟩, ⟨by first | exact Kd.R_nil _ _ _ _ _ | exact Kd.N_nil _ _ _ _ _ | exact Kd.V_nil _ _ _ _ _ | exact Kd.Q_nil _ _ _ _ _ | exact Kd.S_nil _ _ _ _ _⟩, ⟨by repeat (first | (with_reducible first | exact HB.out | apply below_alloc | apply pw_below_drewN | apply below_drew1) | exact HB.out)⟩⟩
            case round =>
              clear H'
              try clear c1
              try clear c2
              try clear p2
              try clear c4
              try clear c4b0
              try clear c4b1
              try clear c5
              try clear p5
              try clear q5
              try clear hx5
              try clear qi5
              try clear p6
              try clear c12
              try clear c12b0
              try clear c13
              try clear c13b0
              try clear c13b1
              try clear c15
              try clear c15b0
              try clear c16
              try clear c16b0
              try clear c18
              try clear hx534_0
              try clear hx535_0
              try clear p2
              try clear p534
              try clear p535
              try clear q534
              try clear q535
              obtain ⟨x11_2, x12_2, rfl, HA, HK2, HO_0, HO_1, HO_9, HO_11, HB⟩ := hrel
              cases gk with
              | zero => exact absurd HA.out (by simp [sennitref20_Table.l1])
              | succ k2 =>
                have H := HA.out
                clear HA
                simp only [sennitref20_Table.l1] at H
                by_cases c24 : x12_2 ≤ (l0.length : Int)
                · rw [if_pos c24] at H
                  have c24b0 : decide (x12_2 ≤ (l0.length : Int)) = true := decide_eq_true c24
                  clear c24
                  replace H := Option.bind_eq_some_iff.mp H
                  obtain ⟨⟨t542, t543⟩, A250, H⟩ := H
                  replace H : (if t543 = 0 then (if x11_2.length + t542.length < 4398046511104 then ((some (x11_2 ++ t542 : List (S41))).bind fun y546 => (if x12_2 = (l0.length : Int) then (some (y546, 0)) else (sennitref20_Table.l2 k2 l0 l1 x9_1 y546 x12_2 (⟨#[]⟩ : ByteArray) 0))) else (none)) else (some (([] : List (S41)), t543))) = some (r1, r2) := H
                  have A25 := Aside0.mk A250
                  clear A250
                  by_cases c26 : t543 = 0
                  · rw [if_pos c26] at H
                    have c26b0 : (t543 == 0) = true := beq_iff_eq.mpr c26
                    have c26b1 : (t543 != 0) = false := bne_eq_false_iff_eq.mpr c26
                    clear c26
                    by_cases c27 : x11_2.length + t542.length < 4398046511104
                    · rw [if_pos c27] at H
                      have LMc27 := Aside0.mk c27
                      clear c27
                      obtain ⟨y546, hy546⟩ : ∃ y_ : List (S41), y_ = (x11_2 ++ t542) := ⟨_, rfl⟩
                      replace H : (if x12_2 = (l0.length : Int) then (some (y546, 0)) else (sennitref20_Table.l2 k2 l0 l1 x9_1 y546 x12_2 (⟨#[]⟩ : ByteArray) 0)) = some (r1, r2) := by first | (rw [hy546]; with_reducible exact H) | (have H2_ := (Option.bind_some _ _).symm.trans H; rw [hy546]; with_reducible exact H2_) | (have H2_ := (Option.bind_some _ _).symm.trans H; with_reducible exact H2_) | with_reducible exact H | (rw [hy546]; exact H) | exact H
                      have Ny546 := Aside0.mk hy546
                      clear hy546
                      by_cases c28 : x12_2 = (l0.length : Int)
                      · rw [if_pos c28] at H
                        have c28b0 : (x12_2 == (l0.length : Int)) = true := beq_iff_eq.mpr c28
                        have c28b1 : (x12_2 != (l0.length : Int)) = false := bne_eq_false_iff_eq.mpr c28
                        clear c28
                        simp only [Option.some.injEq, Prod.mk.injEq] at H
                        obtain ⟨rfl, rfl⟩ := H
                        obtain ⟨Ao29, co29, eo29⟩ := Kd.N_slice HO_9.out
                        subst eo29
                        go_wp2_with (first | ((with_reducible refine gate_callee (f := 49) rfl ?_); refine goesL_ (some 58) rfl rfl Tryd.func49 (by kernel_rfl) rfl #[.slice A1 l1.length c1, .slice Ao29 x9_1.length co29, .int .i64 x12_2] rfl (by (try simp only [List.map_toArray, List.map_cons, List.map_nil]); first | done | rfl | (simp only [List.length_drop, List.length_take]; rfl)) ?_; (with_reducible refine (sennitref20_ahead.calls k2 _ _ l1 _ _ x9_1 x12_2 t542 t543 _ ?side1 ?side2 ?side3 ?side4 A25.out).mono ?_); (case side1 => repeat (first | exact (Kd.V_reads' HO_1.out).2.2 | (with_reducible refine Kd.C_alloc ?_ _) | (with_reducible refine Kd.C_drewN ?_ _) | (with_reducible refine Kd.C_drew ?_))); (case side2 => exact (Kd.V_reads' HO_1.out).2.1); (case side3 => repeat (first | exact (Kd.N_reads' HO_9.out).2.2 | (with_reducible refine Kd.C_alloc ?_ _) | (with_reducible refine Kd.C_drewN ?_ _) | (with_reducible refine Kd.C_drew ?_))); (case side4 => exact (Kd.N_reads' HO_9.out).2.1); rintro e w30 ⟨v544, rfl, ho0, hb⟩; refine ⟨_, rfl, ?_⟩; have n0_ := Aside0.mk (Kd.V_elder' (by (with_reducible repeat (first | apply Kd.V_alloc | apply Kd.V_drewN | apply Kd.V_drew)); exact HO_0.out) (Kd.R_base ho0) hb); have n1_ := Aside0.mk (Kd.V_elder' (by (with_reducible repeat (first | apply Kd.V_alloc | apply Kd.V_drewN | apply Kd.V_drew)); exact HO_1.out) (Kd.R_base ho0) hb); have n2_ := Aside0.mk (Kd.N_elder' (by (with_reducible repeat (first | apply Kd.N_alloc | apply Kd.N_drewN | apply Kd.N_drew)); exact HO_9.out) (Kd.R_base ho0) hb); have n3_ := Aside0.mk (Kd.R_elder' (by (with_reducible repeat (first | apply Kd.R_alloc | apply Kd.R_drewN | apply Kd.R_drew)); exact HO_11.out) (Kd.R_base ho0) hb); have n4_ := Aside0.mk (Kd.R_lower (Kd.R_new' (Kd.R_newM (M := fun k_ => (w.heap.size ≤ k_)) ho0 (below_size (by repeat (first | (with_reducible first | exact HB.out | apply below_alloc | apply pw_below_drewN | apply below_drew1) | exact HB.out))) (fun k_ h_ => h_)) (Kd.R_lt (by (with_reducible repeat (first | apply Kd.R_alloc | apply Kd.R_drewN | apply Kd.R_drew)); exact HO_11.out))) (below_size (by repeat (first | (with_reducible first | exact HB.out | apply below_alloc | apply pw_below_drewN | apply below_drew1) | exact HB.out)))); have n5_ := Aside0.mk (below_step (by repeat (first | (with_reducible first | exact HB.out | apply below_alloc | apply pw_below_drewN | apply below_drew1) | exact HB.out)) hb); clear HO_0; clear HO_1; clear HO_9; clear HO_11; clear HB; have HO_0 := n0_; have HO_1 := n1_; have HO_9 := n2_; have HO_11 := n3_; have HO545 := n4_; have HB := n5_; clear n0_ n1_ n2_ n3_ n4_ n5_; (try clear hb); (try clear hb2); (try clear hk); (try clear hi); (try clear ho0); obtain ⟨Ao32, co32, eo32⟩ := Kd.R_slice HO545.out; subst eo32) | ((with_reducible refine gate_builtin (b := .append) (xs := #[.tmp 64, .tmp 65]) rfl ?_); at_builtin; refine Kd.R_append_rows k41 (w0 := w) w.heap.size rfl (.tmp 64) (.tmp 65) 22 41 (.agg #[(.string ⟨#[]⟩), (.string ⟨#[]⟩)]) 32 rfl Tryd.underlying22 info41 rfl (by decide) (by omega) u11 x11_2 t542 _ _ _ (fun k_ => (w.heap.size ≤ k_) ∧ some k_ ≠ (.slice Ao32 t542.length co32 : Value).ownBlock) (fun _ => False) rfl rfl ?aO ?aR (fun _ _ h => h) (fun _ h => h.elim) ?aF ?aB ?aS ?aL ?_; (case aR => repeat (first | exact (Kd.R_reads' HO545.out).2.2 | (with_reducible refine Kd.C_alloc ?_ _) | (with_reducible refine Kd.C_drewN ?_ _) | (with_reducible refine Kd.C_drew ?_))); (case aB => exact (by repeat (first | (with_reducible first | exact HB.out | apply below_alloc | apply pw_below_drewN | apply below_drew1) | exact HB.out))); (case aF => exact (fun k_ hk => ⟨(Nat.le_trans (below_size (by repeat (first | (with_reducible first | exact HB.out | apply below_alloc | apply pw_below_drewN | apply below_drew1) | exact HB.out))) hk), Kd.fresh' (Kd.R_lt (by (with_reducible repeat (first | apply Kd.R_alloc | apply Kd.R_drewN | apply Kd.R_drew)); exact HO545.out)) k_ hk⟩)); (case aO => exact (by (with_reducible repeat (first | apply Kd.R_alloc | apply Kd.R_drewN | apply Kd.R_drew)); exact HO_11.out)); (case aS => exact (below_size (by repeat (first | (with_reducible first | exact HB.out | apply below_alloc | apply pw_below_drewN | apply below_drew1) | exact HB.out)))); (case aL => have := LMc27.out; omega); intro v547 w31 ho hb hg hat; rw [← Ny546.out] at ho; have n0_ := Aside0.mk (Kd.V_afterv (ok := (fun k_ => ((P0_ k_ ∨ P1_ k_) ∨ w.heap.size ≤ k_) ∧ some k_ ≠ (.slice Ao29 x9_1.length co29 : Value).ownBlock ∧ some k_ ≠ (.slice Ao32 t542.length co32 : Value).ownBlock)) (by (with_reducible repeat (first | apply Kd.V_alloc | apply Kd.V_drewN | apply Kd.V_drew)); exact Kd.V_mono HO_0.out (fun _ hk => ⟨⟨hk.1.1, ⟨hk.1.2.1, hk.2⟩⟩, hk.1.2.2⟩)) hg hat); have n1_ := Aside0.mk (Kd.V_afterv (ok := (fun k_ => ((P0_ k_ ∨ P1_ k_) ∨ w.heap.size ≤ k_) ∧ some k_ ≠ (.slice Ao29 x9_1.length co29 : Value).ownBlock ∧ some k_ ≠ (.slice Ao32 t542.length co32 : Value).ownBlock)) (by (with_reducible repeat (first | apply Kd.V_alloc | apply Kd.V_drewN | apply Kd.V_drew)); exact Kd.V_mono HO_1.out (fun _ hk => ⟨⟨hk.1.1, ⟨hk.1.2.1, hk.2⟩⟩, hk.1.2.2⟩)) hg hat); have n2_ := Aside0.mk (Kd.N_afterv (ok := (fun k_ => ((P0_ k_ ∨ P1_ k_) ∨ w.heap.size ≤ k_) ∧ some k_ ≠ (.slice Ao32 t542.length co32 : Value).ownBlock)) (by (with_reducible repeat (first | apply Kd.N_alloc | apply Kd.N_drewN | apply Kd.N_drew)); exact Kd.N_mono HO_9.out (fun _ hk => ⟨⟨hk.1.1, hk.2⟩, hk.1.2⟩)) hg hat); have n3_ := Aside0.mk (Kd.R_after (ok := (fun k_ => (w.heap.size ≤ k_))) (by (with_reducible repeat (first | apply Kd.R_alloc | apply Kd.R_drewN | apply Kd.R_drew)); exact Kd.R_mono HO545.out (fun _ hk => ⟨hk.1.1, hk.2⟩)) hg hat); have n4_ := Aside0.mk (hb); have n5_ := Aside0.mk (ho); clear HO_0; clear HO_1; clear HO_9; clear HO545; clear HB; clear HO_11; have HO_0 := n0_; have HO_1 := n1_; have HO_9 := n2_; have HO545 := n3_; have HB := n4_; have HO548 := n5_; clear n0_ n1_ n2_ n3_ n4_ n5_; clear ho hb hg hat))
                        go_ret2
                        exact ⟨_, by first | rfl | (simp [errW_none, errW_some] <;> rfl) | (simp [errW_none, errW_some] <;> (generalize ByteArray.toList _ = l_ <;> cases l_ <;> rfl)) | (simp [*, errW_none, errW_some] <;> rfl), by (with_reducible repeat (first | apply Kd.R_alloc | apply Kd.R_drewN | apply Kd.R_drew)); exact Kd.R_mono HO548.out (fun _ hk => hk.1), by repeat (first | (with_reducible first | exact HB.out | apply below_alloc | apply pw_below_drewN | apply below_drew1) | exact HB.out)⟩
                      · rw [if_neg c28] at H
                        have c28b0 : (x12_2 == (l0.length : Int)) = false := beq_eq_false_iff_ne.mpr c28
                        have c28b1 : (x12_2 != (l0.length : Int)) = true := bne_iff_ne.mpr c28
                        have H' := Aside0.mk H
                        clear H
                        obtain ⟨Ao33, co33, eo33⟩ := Kd.N_slice HO_9.out
                        subst eo33
                        go_wp2_with (first | ((with_reducible refine gate_callee (f := 49) rfl ?_); refine goesL_ (some 58) rfl rfl Tryd.func49 (by kernel_rfl) rfl #[.slice A1 l1.length c1, .slice Ao33 x9_1.length co33, .int .i64 x12_2] rfl (by (try simp only [List.map_toArray, List.map_cons, List.map_nil]); first | done | rfl | (simp only [List.length_drop, List.length_take]; rfl)) ?_; (with_reducible refine (sennitref20_ahead.calls k2 _ _ l1 _ _ x9_1 x12_2 t542 t543 _ ?side1 ?side2 ?side3 ?side4 A25.out).mono ?_); (case side1 => repeat (first | exact (Kd.V_reads' HO_1.out).2.2 | (with_reducible refine Kd.C_alloc ?_ _) | (with_reducible refine Kd.C_drewN ?_ _) | (with_reducible refine Kd.C_drew ?_))); (case side2 => exact (Kd.V_reads' HO_1.out).2.1); (case side3 => repeat (first | exact (Kd.N_reads' HO_9.out).2.2 | (with_reducible refine Kd.C_alloc ?_ _) | (with_reducible refine Kd.C_drewN ?_ _) | (with_reducible refine Kd.C_drew ?_))); (case side4 => exact (Kd.N_reads' HO_9.out).2.1); rintro e w34 ⟨v544, rfl, ho0, hb⟩; refine ⟨_, rfl, ?_⟩; have n0_ := Aside0.mk (Kd.V_elder' (by (with_reducible repeat (first | apply Kd.V_alloc | apply Kd.V_drewN | apply Kd.V_drew)); exact HO_0.out) (Kd.R_base ho0) hb); have n1_ := Aside0.mk (Kd.V_elder' (by (with_reducible repeat (first | apply Kd.V_alloc | apply Kd.V_drewN | apply Kd.V_drew)); exact HO_1.out) (Kd.R_base ho0) hb); have n2_ := Aside0.mk (Kd.N_elder' (by (with_reducible repeat (first | apply Kd.N_alloc | apply Kd.N_drewN | apply Kd.N_drew)); exact HO_9.out) (Kd.R_base ho0) hb); have n3_ := Aside0.mk (Kd.R_elder' (by (with_reducible repeat (first | apply Kd.R_alloc | apply Kd.R_drewN | apply Kd.R_drew)); exact HO_11.out) (Kd.R_base ho0) hb); have n4_ := Aside0.mk (Kd.R_lower (Kd.R_new' (Kd.R_newM (M := fun k_ => (w.heap.size ≤ k_)) ho0 (below_size (by repeat (first | (with_reducible first | exact HB.out | apply below_alloc | apply pw_below_drewN | apply below_drew1) | exact HB.out))) (fun k_ h_ => h_)) (Kd.R_lt (by (with_reducible repeat (first | apply Kd.R_alloc | apply Kd.R_drewN | apply Kd.R_drew)); exact HO_11.out))) (below_size (by repeat (first | (with_reducible first | exact HB.out | apply below_alloc | apply pw_below_drewN | apply below_drew1) | exact HB.out)))); have n5_ := Aside0.mk (below_step (by repeat (first | (with_reducible first | exact HB.out | apply below_alloc | apply pw_below_drewN | apply below_drew1) | exact HB.out)) hb); clear HO_0; clear HO_1; clear HO_9; clear HO_11; clear HB; have HO_0 := n0_; have HO_1 := n1_; have HO_9 := n2_; have HO_11 := n3_; have HO545 := n4_; have HB := n5_; clear n0_ n1_ n2_ n3_ n4_ n5_; (try clear hb); (try clear hb2); (try clear hk); (try clear hi); (try clear ho0); obtain ⟨Ao36, co36, eo36⟩ := Kd.R_slice HO545.out; subst eo36) | ((with_reducible refine gate_builtin (b := .append) (xs := #[.tmp 64, .tmp 65]) rfl ?_); at_builtin; refine Kd.R_append_rows k41 (w0 := w) w.heap.size rfl (.tmp 64) (.tmp 65) 22 41 (.agg #[(.string ⟨#[]⟩), (.string ⟨#[]⟩)]) 32 rfl Tryd.underlying22 info41 rfl (by decide) (by omega) u11 x11_2 t542 _ _ _ (fun k_ => (w.heap.size ≤ k_) ∧ some k_ ≠ (.slice Ao36 t542.length co36 : Value).ownBlock) (fun _ => False) rfl rfl ?aO ?aR (fun _ _ h => h) (fun _ h => h.elim) ?aF ?aB ?aS ?aL ?_; (case aR => repeat (first | exact (Kd.R_reads' HO545.out).2.2 | (with_reducible refine Kd.C_alloc ?_ _) | (with_reducible refine Kd.C_drewN ?_ _) | (with_reducible refine Kd.C_drew ?_))); (case aB => exact (by repeat (first | (with_reducible first | exact HB.out | apply below_alloc | apply pw_below_drewN | apply below_drew1) | exact HB.out))); (case aF => exact (fun k_ hk => ⟨(Nat.le_trans (below_size (by repeat (first | (with_reducible first | exact HB.out | apply below_alloc | apply pw_below_drewN | apply below_drew1) | exact HB.out))) hk), Kd.fresh' (Kd.R_lt (by (with_reducible repeat (first | apply Kd.R_alloc | apply Kd.R_drewN | apply Kd.R_drew)); exact HO545.out)) k_ hk⟩)); (case aO => exact (by (with_reducible repeat (first | apply Kd.R_alloc | apply Kd.R_drewN | apply Kd.R_drew)); exact HO_11.out)); (case aS => exact (below_size (by repeat (first | (with_reducible first | exact HB.out | apply below_alloc | apply pw_below_drewN | apply below_drew1) | exact HB.out)))); (case aL => have := LMc27.out; omega); intro v547 w35 ho hb hg hat; rw [← Ny546.out] at ho; have n0_ := Aside0.mk (Kd.V_afterv (ok := (fun k_ => ((P0_ k_ ∨ P1_ k_) ∨ w.heap.size ≤ k_) ∧ some k_ ≠ (.slice Ao33 x9_1.length co33 : Value).ownBlock ∧ some k_ ≠ (.slice Ao36 t542.length co36 : Value).ownBlock)) (by (with_reducible repeat (first | apply Kd.V_alloc | apply Kd.V_drewN | apply Kd.V_drew)); exact Kd.V_mono HO_0.out (fun _ hk => ⟨⟨hk.1.1, ⟨hk.1.2.1, hk.2⟩⟩, hk.1.2.2⟩)) hg hat); have n1_ := Aside0.mk (Kd.V_afterv (ok := (fun k_ => ((P0_ k_ ∨ P1_ k_) ∨ w.heap.size ≤ k_) ∧ some k_ ≠ (.slice Ao33 x9_1.length co33 : Value).ownBlock ∧ some k_ ≠ (.slice Ao36 t542.length co36 : Value).ownBlock)) (by (with_reducible repeat (first | apply Kd.V_alloc | apply Kd.V_drewN | apply Kd.V_drew)); exact Kd.V_mono HO_1.out (fun _ hk => ⟨⟨hk.1.1, ⟨hk.1.2.1, hk.2⟩⟩, hk.1.2.2⟩)) hg hat); have n2_ := Aside0.mk (Kd.N_afterv (ok := (fun k_ => ((P0_ k_ ∨ P1_ k_) ∨ w.heap.size ≤ k_) ∧ some k_ ≠ (.slice Ao36 t542.length co36 : Value).ownBlock)) (by (with_reducible repeat (first | apply Kd.N_alloc | apply Kd.N_drewN | apply Kd.N_drew)); exact Kd.N_mono HO_9.out (fun _ hk => ⟨⟨hk.1.1, hk.2⟩, hk.1.2⟩)) hg hat); have n3_ := Aside0.mk (Kd.R_after (ok := (fun k_ => (w.heap.size ≤ k_))) (by (with_reducible repeat (first | apply Kd.R_alloc | apply Kd.R_drewN | apply Kd.R_drew)); exact Kd.R_mono HO545.out (fun _ hk => ⟨hk.1.1, hk.2⟩)) hg hat); have n4_ := Aside0.mk (hb); have n5_ := Aside0.mk (ho); clear HO_0; clear HO_1; clear HO_9; clear HO545; clear HB; clear HO_11; have HO_0 := n0_; have HO_1 := n1_; have HO_9 := n2_; have HO545 := n3_; have HB := n4_; have HO548 := n5_; clear n0_ n1_ n2_ n3_ n4_ n5_; clear ho hb hg hat))
                        go_loopg [15, 16] k2 (fun kq v15 v16 w' => ∃ (x15_3 : ByteArray) (x16_3 : Int), v15 = .string x15_3 ∧ v16 = .int .i64 x16_3 ∧ Aside0 (sennitref20_Table.l2 kq l0 l1 x9_1 y546 x12_2 x15_3 x16_3 = some (r1, r2)) ∧ Aside0 (kq ≤ k2) ∧ Aside0 (Kd.V Kd.string 9 w' w.heap.size (fun k_ => ((P0_ k_ ∨ P1_ k_) ∨ w.heap.size ≤ k_) ∧ some k_ ≠ ((.slice Ao33 x9_1.length co33) : Value).ownBlock ∧ some k_ ≠ (v547 : Value).ownBlock) (.slice A0 l0.length c0) l0) ∧ Aside0 (Kd.V (Kd.slice 9 Kd.string) 44 w' w.heap.size (fun k_ => ((P0_ k_ ∨ P1_ k_) ∨ w.heap.size ≤ k_) ∧ some k_ ≠ ((.slice Ao33 x9_1.length co33) : Value).ownBlock ∧ some k_ ≠ (v547 : Value).ownBlock) (.slice A1 l1.length c1) l1) ∧ Aside0 (Kd.N (Kd.slice 3 (Kd.int .i64)) 59 w' w.heap.size (fun k_ => ((P0_ k_ ∨ P1_ k_) ∨ w.heap.size ≤ k_) ∧ some k_ ≠ (v547 : Value).ownBlock) (.slice Ao33 x9_1.length co33) x9_1) ∧ Aside0 (Kd.R k41 41 w' w.heap.size (fun k_ => (w.heap.size ≤ k_)) v547 y546) ∧ Aside0 (Below w.heap.size w w'))
                        case atStart => exact ⟨((⟨#[]⟩ : ByteArray)), (0), (by first | rfl | (simp; done) | (simp [*]; done)), (by first | rfl | (simp; done) | (simp [*]; done)), H', ⟨Nat.le_refl _⟩, ⟨by (with_reducible repeat (first | apply Kd.V_alloc | apply Kd.V_drewN | apply Kd.V_drew)); exact Kd.V_mono HO_0.out (fun _ hk => ⟨hk.1.1, ⟨hk.1.2.1, hk.2⟩⟩)⟩, ⟨by (with_reducible repeat (first | apply Kd.V_alloc | apply Kd.V_drewN | apply Kd.V_drew)); exact Kd.V_mono HO_1.out (fun _ hk => ⟨hk.1.1, ⟨hk.1.2.1, hk.2⟩⟩)⟩, ⟨by (with_reducible repeat (first | apply Kd.N_alloc | apply Kd.N_drewN | apply Kd.N_drew)); exact Kd.N_mono HO_9.out (fun _ hk => ⟨hk.1.1, hk.2⟩)⟩, ⟨by (with_reducible repeat (first | apply Kd.R_alloc | apply Kd.R_drewN | apply Kd.R_drew)); exact Kd.R_mono HO548.out (fun _ hk => hk.1)⟩, ⟨by repeat (first | (with_reducible first | exact HB.out | apply below_alloc | apply pw_below_drewN | apply below_drew1) | exact HB.out)⟩⟩
                        case round =>
                          clear H'
                          try clear c1
                          try clear c2
                          try clear p2
                          try clear c4
                          try clear c4b0
                          try clear c4b1
                          try clear c5
                          try clear p5
                          try clear q5
                          try clear hx5
                          try clear qi5
                          try clear p6
                          try clear c12
                          try clear c12b0
                          try clear c13
                          try clear c13b0
                          try clear c13b1
                          try clear c15
                          try clear c15b0
                          try clear c16
                          try clear c16b0
                          try clear c18
                          try clear c24
                          try clear c24b0
                          try clear c25
                          try clear c26
                          try clear c26b0
                          try clear c26b1
                          try clear c27
                          try clear c28
                          try clear c28b0
                          try clear c28b1
                          try clear hx534_0
                          try clear hx535_0
                          try clear p2
                          try clear p5
                          try clear p534
                          try clear p535
                          try clear p6
                          try clear q5
                          try clear q534
                          try clear q535
                          obtain ⟨x15_3, x16_3, rfl, rfl, HA, HK3, HO_0, HO_1, HO_9, HO_11, HB⟩ := hrel
                          cases gk with
                          | zero => exact absurd HA.out (by simp [sennitref20_Table.l2])
                          | succ k3 =>
                            have H := HA.out
                            clear HA
                            simp only [sennitref20_Table.l2] at H
                            by_cases c37 : x16_3 < (l1.length : Int)
                            · rw [if_pos c37] at H
                              have c37b0 : decide (x16_3 < (l1.length : Int)) = true := decide_eq_true c37
                              clear c37
                              by_cases c38 : 0 ≤ x16_3
                              · rw [if_pos c38] at H
                                have c38b0 : decide (0 ≤ x16_3) = true := decide_eq_true c38
                                clear c38
                                by_cases c39 : x16_3 < (x9_1.length : Int)
                                · rw [if_pos c39] at H
                                  have c39b0 : decide (x16_3 < (x9_1.length : Int)) = true := decide_eq_true c39
                                  clear c39
                                  by_cases c40 : 0 ≤ x12_2
                                  · rw [if_pos c40] at H
                                    have c40b0 : decide (0 ≤ x12_2) = true := decide_eq_true c40
                                    clear c40
                                    by_cases c41 : x12_2 < ((rd_L9 x9_1 x16_3).length : Int)
                                    · rw [if_pos c41] at H
                                      have c41b0 : decide (x12_2 < ((rd_L9 x9_1 x16_3).length : Int)) = true := decide_eq_true c41
                                      clear c41
                                      by_cases c42 : (rd (rd_L9 x9_1 x16_3) x12_2) ≥ 0
                                      · rw [if_pos c42] at H
                                        have c42b0 : decide (0 ≤ (rd (rd_L9 x9_1 x16_3) x12_2)) = true := decide_eq_true c42
                                        clear c42
                                        by_cases c43 : x15_3.size + 1 ≤ 9223372036854775807
                                        · rw [if_pos c43] at H
                                          have c43b0 := eq_true c43
                                          have c43b1 : decide (x15_3.size + 1 ≤ 9223372036854775807) = true := decide_eq_true c43
                                          try have c43b2 : (9223372036854775807 < x15_3.size + 1) = False := eq_false (Nat.not_lt.2 c43)
                                          have H' := Aside0.mk H
                                          clear H
                                          have p549 : 0 ≤ (x16_3 : Int) := of_decide_eq_true (by first | (with_reducible assumption) | assumption)
                                          have q549 : x16_3 < (x9_1.length : Int) := of_decide_eq_true (by first | (with_reducible assumption) | assumption)
                                          obtain ⟨ad549, A549_0, c549_0, e549, hx549_0, hl549_0, hi549_0⟩ := at_L9 (Kd.N_reads' HO_9.out).2.2 x16_3 p549 q549
                                          cases e549
                                          obtain ⟨ce549, hce549, hMe549, hcc549⟩ := Kd.N_get HO_9.out [] x16_3 p549 (by first | exact q549 | exact of_decide_eq_true (by first | (with_reducible assumption) | assumption) | (have e_ := (Kd.N_reads' HO_9.out).1; omega))
                                          obtain ⟨ua549_0, uc549_0, rfl, ul549_0, ge549_0⟩ := Kd.FK_slice_open hMe549
                                          have hv549_0 := hcc549 0 _ rfl
                                          rw [Nat.add_zero, show ((Kd.slice 3 (Kd.int .i64))).sz = 1 from rfl, Nat.mul_one] at hv549_0
                                          replace hv549_0 := Option.some.inj (hv549_0.symm.trans hx549_0)
                                          injection hv549_0 with hva_ hvn_ hvc_
                                          rw [hva_] at ge549_0
                                          rw [hvc_] at ul549_0
                                          have HL549_0 := Aside0.mk (show Kd.V (Kd.int .i64) 3 _ w.heap.size _ _ (rd_L9 x9_1 x16_3) from Kd.V_mk ul549_0 ge549_0)
                                          clear hva_ hvn_ hvc_ ge549_0 ul549_0
                                          clear hcc549 hce549
                                          have HR549_0 := Aside0.mk hi549_0
                                          have HC549_0 := Aside0.mk hl549_0
                                          clear hi549_0 hl549_0
                                          replace p549 := eq_true p549
                                          replace q549 := eq_true q549
                                          have p550 : 0 ≤ (x12_2 : Int) := of_decide_eq_true (by first | (with_reducible assumption) | assumption)
                                          have q550 : x12_2 < ((rd_L9 x9_1 x16_3).length : Int) := of_decide_eq_true (by first | (with_reducible assumption) | assumption)
                                          obtain ⟨ad550, e550, hx550_0⟩ := Kd.at_int (by repeat (first | (with_reducible exact HR549_0.out) | (with_reducible refine Kd.C_alloc ?_ _) | (with_reducible refine Kd.C_drewN ?_ _) | (with_reducible refine Kd.C_drew ?_) | exact HR549_0.out)) x12_2 p550 q550
                                          cases e550
                                          replace p550 := eq_true p550
                                          replace q550 := eq_true q550
                                          go_wp2
                                          go_roundg k3
                                          case measure => have := HK1.out; have := HK2.out; have := HK3.out; omega
                                          case rel => exact ⟨(x15_3 ++ (⟨#[32]⟩ : ByteArray)), (wrap64 (x16_3 + 1)), (by first | rfl | (simp; done) | (simp [*]; done)), (by first | rfl | (simp; done) | (simp [*]; done)), H', ⟨by have := HK1.out; have := HK2.out; have := HK3.out; omega⟩, ⟨by (with_reducible repeat (first | apply Kd.V_alloc | apply Kd.V_drewN | apply Kd.V_drew)); exact HO_0.out⟩, ⟨by (with_reducible repeat (first | apply Kd.V_alloc | apply Kd.V_drewN | apply Kd.V_drew)); exact HO_1.out⟩, ⟨by (with_reducible repeat (first | apply Kd.N_alloc | apply Kd.N_drewN | apply Kd.N_drew)); exact HO_9.out⟩, ⟨by (with_reducible repeat (first | apply Kd.R_alloc | apply Kd.R_drewN | apply Kd.R_drew)); exact HO_11.out⟩, ⟨by repeat (first | (with_reducible first | exact HB.out | apply below_alloc | apply pw_below_drewN | apply below_drew1) | exact HB.out)⟩⟩
                                        · rw [if_neg c43] at H
                                          exact absurd H (by simp)
                                      · rw [if_neg c42] at H
                                        have c42b0 : decide (0 ≤ (rd (rd_L9 x9_1 x16_3) x12_2)) = false := decide_eq_false c42
                                        clear c42
                                        by_cases c44 : x15_3.size + 1 ≤ 9223372036854775807
                                        · rw [if_pos c44] at H
                                          have c44b0 := eq_true c44
                                          have c44b1 : decide (x15_3.size + 1 ≤ 9223372036854775807) = true := decide_eq_true c44
                                          try have c44b2 : (9223372036854775807 < x15_3.size + 1) = False := eq_false (Nat.not_lt.2 c44)
                                          have H' := Aside0.mk H
                                          clear H
                                          have p549 : 0 ≤ (x16_3 : Int) := of_decide_eq_true (by first | (with_reducible assumption) | assumption)
                                          have q549 : x16_3 < (x9_1.length : Int) := of_decide_eq_true (by first | (with_reducible assumption) | assumption)
                                          obtain ⟨ad549, A549_0, c549_0, e549, hx549_0, hl549_0, hi549_0⟩ := at_L9 (Kd.N_reads' HO_9.out).2.2 x16_3 p549 q549
                                          cases e549
                                          obtain ⟨ce549, hce549, hMe549, hcc549⟩ := Kd.N_get HO_9.out [] x16_3 p549 (by first | exact q549 | exact of_decide_eq_true (by first | (with_reducible assumption) | assumption) | (have e_ := (Kd.N_reads' HO_9.out).1; omega))
                                          obtain ⟨ua549_0, uc549_0, rfl, ul549_0, ge549_0⟩ := Kd.FK_slice_open hMe549
                                          have hv549_0 := hcc549 0 _ rfl
                                          rw [Nat.add_zero, show ((Kd.slice 3 (Kd.int .i64))).sz = 1 from rfl, Nat.mul_one] at hv549_0
                                          replace hv549_0 := Option.some.inj (hv549_0.symm.trans hx549_0)
                                          injection hv549_0 with hva_ hvn_ hvc_
                                          rw [hva_] at ge549_0
                                          rw [hvc_] at ul549_0
                                          have HL549_0 := Aside0.mk (show Kd.V (Kd.int .i64) 3 _ w.heap.size _ _ (rd_L9 x9_1 x16_3) from Kd.V_mk ul549_0 ge549_0)
                                          clear hva_ hvn_ hvc_ ge549_0 ul549_0
                                          clear hcc549 hce549
                                          have HR549_0 := Aside0.mk hi549_0
                                          have HC549_0 := Aside0.mk hl549_0
                                          clear hi549_0 hl549_0
                                          replace p549 := eq_true p549
                                          replace q549 := eq_true q549
                                          have p550 : 0 ≤ (x12_2 : Int) := of_decide_eq_true (by first | (with_reducible assumption) | assumption)
                                          have q550 : x12_2 < ((rd_L9 x9_1 x16_3).length : Int) := of_decide_eq_true (by first | (with_reducible assumption) | assumption)
                                          obtain ⟨ad550, e550, hx550_0⟩ := Kd.at_int (by repeat (first | (with_reducible exact HR549_0.out) | (with_reducible refine Kd.C_alloc ?_ _) | (with_reducible refine Kd.C_drewN ?_ _) | (with_reducible refine Kd.C_drew ?_) | exact HR549_0.out)) x12_2 p550 q550
                                          cases e550
                                          replace p550 := eq_true p550
                                          replace q550 := eq_true q550
                                          go_wp2
                                          go_roundg k3
                                          case measure => have := HK1.out; have := HK2.out; have := HK3.out; omega
                                          case rel => exact ⟨(x15_3 ++ (⟨#[43]⟩ : ByteArray)), (wrap64 (x16_3 + 1)), (by first | rfl | (simp; done) | (simp [*]; done)), (by first | rfl | (simp; done) | (simp [*]; done)), H', ⟨by have := HK1.out; have := HK2.out; have := HK3.out; omega⟩, ⟨by (with_reducible repeat (first | apply Kd.V_alloc | apply Kd.V_drewN | apply Kd.V_drew)); exact HO_0.out⟩, ⟨by (with_reducible repeat (first | apply Kd.V_alloc | apply Kd.V_drewN | apply Kd.V_drew)); exact HO_1.out⟩, ⟨by (with_reducible repeat (first | apply Kd.N_alloc | apply Kd.N_drewN | apply Kd.N_drew)); exact HO_9.out⟩, ⟨by (with_reducible repeat (first | apply Kd.R_alloc | apply Kd.R_drewN | apply Kd.R_drew)); exact HO_11.out⟩, ⟨by repeat (first | (with_reducible first | exact HB.out | apply below_alloc | apply pw_below_drewN | apply below_drew1) | exact HB.out)⟩⟩
                                        · rw [if_neg c44] at H
                                          exact absurd H (by simp)
                                    · rw [if_neg c41] at H
                                      exact absurd H (by simp)
                                  · rw [if_neg c40] at H
                                    exact absurd H (by simp)
                                · rw [if_neg c39] at H
                                  exact absurd H (by simp)
                              · rw [if_neg c38] at H
                                exact absurd H (by simp)
                            · rw [if_neg c37] at H
                              have c37b0 : decide (x16_3 < (l1.length : Int)) = false := decide_eq_false c37
                              clear c37
                              by_cases c45 : 0 ≤ x12_2
                              · rw [if_pos c45] at H
                                have c45b0 : decide (0 ≤ x12_2) = true := decide_eq_true c45
                                clear c45
                                by_cases c46 : x12_2 < (l0.length : Int)
                                · rw [if_pos c46] at H
                                  have c46b0 : decide (x12_2 < (l0.length : Int)) = true := decide_eq_true c46
                                  clear c46
                                  by_cases c47 : y546.length < 4398046511104
                                  · rw [if_pos c47] at H
                                    have LMc47 := Aside0.mk c47
                                    clear c47
                                    obtain ⟨y552, hy552⟩ : ∃ y_ : List (S41), y_ = (y546 ++ [(⟨x15_3, rdOf ByteArray.empty l0 x12_2⟩ : S41)]) := ⟨_, rfl⟩
                                    replace H : (sennitref20_Table.l1 k3 l0 l1 x9_1 y552 (wrap64 (x12_2 + 1))) = some (r1, r2) := by first | (rw [hy552]; with_reducible exact H) | (have H2_ := (Option.bind_some _ _).symm.trans H; rw [hy552]; with_reducible exact H2_) | (have H2_ := (Option.bind_some _ _).symm.trans H; with_reducible exact H2_) | with_reducible exact H | (rw [hy552]; exact H) | exact H
                                    have Ny552 := Aside0.mk hy552
                                    clear hy552
                                    have H' := Aside0.mk H
                                    clear H
                                    have p551 : 0 ≤ (x12_2 : Int) := of_decide_eq_true (by first | (with_reducible assumption) | assumption)
                                    have q551 : x12_2 < (l0.length : Int) := of_decide_eq_true (by first | (with_reducible assumption) | assumption)
                                    obtain ⟨ad551, e551, hx551_0⟩ := Kd.at_string (Kd.V_reads' HO_0.out).2.2 x12_2 p551 q551
                                    cases e551
                                    replace p551 := eq_true p551
                                    replace q551 := eq_true q551
                                    go_wp2_with (first | ((with_reducible refine gate_builtin (b := .append) (xs := #[.tmp 90, .tmp 97]) rfl ?_); at_builtin; refine Kd.R_append k41 (w0 := w) w.heap.size rfl (.tmp 90) (.tmp 97) 22 41 (.agg #[(.string ⟨#[]⟩), (.string ⟨#[]⟩)]) 32 rfl Tryd.underlying22 info41 rfl (by decide) (by omega) v547 y546 (⟨x15_3, rdOf ByteArray.empty l0 x12_2⟩ : S41) [.string x15_3, .string (rdOf ByteArray.empty l0 x12_2)] (fun k_ => (w.heap.size ≤ k_)) (fun _ => False) rfl rfl ?aP (fun _ hk => hk.elim) ?aF ?aO ?aB ?aS ?aL ?_; (case aP => exact k41_mkM _ _ _ (⟨x15_3, rdOf ByteArray.empty l0 x12_2⟩ : S41)); (case aB => exact (by repeat (first | (with_reducible first | exact HB.out | apply below_alloc | apply pw_below_drewN | apply below_drew1) | exact HB.out))); (case aF => exact (fun k_ hk => (Nat.le_trans (below_size (by repeat (first | (with_reducible first | exact HB.out | apply below_alloc | apply pw_below_drewN | apply below_drew1) | exact HB.out))) hk))); (case aO => exact (by (with_reducible repeat (first | apply Kd.R_alloc | apply Kd.R_drewN | apply Kd.R_drew)); exact HO_11.out)); (case aS => exact (below_size (by repeat (first | (with_reducible first | exact HB.out | apply below_alloc | apply pw_below_drewN | apply below_drew1) | exact HB.out)))); (case aL => have := LMc47.out; omega); intro v553 w48 ho hb hg hat; rw [← Ny552.out] at ho; have n0_ := Aside0.mk (Kd.V_afterv (ok := (fun k_ => ((P0_ k_ ∨ P1_ k_) ∨ w.heap.size ≤ k_) ∧ some k_ ≠ (.slice Ao33 x9_1.length co33 : Value).ownBlock)) (by (with_reducible repeat (first | apply Kd.V_alloc | apply Kd.V_drewN | apply Kd.V_drew)); exact Kd.V_mono HO_0.out (fun _ hk => ⟨⟨hk.1, hk.2.1⟩, hk.2.2⟩)) hg hat); have n1_ := Aside0.mk (Kd.V_afterv (ok := (fun k_ => ((P0_ k_ ∨ P1_ k_) ∨ w.heap.size ≤ k_) ∧ some k_ ≠ (.slice Ao33 x9_1.length co33 : Value).ownBlock)) (by (with_reducible repeat (first | apply Kd.V_alloc | apply Kd.V_drewN | apply Kd.V_drew)); exact Kd.V_mono HO_1.out (fun _ hk => ⟨⟨hk.1, hk.2.1⟩, hk.2.2⟩)) hg hat); have n2_ := Aside0.mk (Kd.N_afterv (ok := (fun k_ => ((P0_ k_ ∨ P1_ k_) ∨ w.heap.size ≤ k_))) (by (with_reducible repeat (first | apply Kd.N_alloc | apply Kd.N_drewN | apply Kd.N_drew)); exact HO_9.out) hg hat); have n3_ := Aside0.mk (hb); have n4_ := Aside0.mk (ho); clear HO_0; clear HO_1; clear HO_9; clear HB; clear HO_11; have HO_0 := n0_; have HO_1 := n1_; have HO_9 := n2_; have HB := n3_; have HO554 := n4_; clear n0_ n1_ n2_ n3_ n4_; clear ho hb hg hat))
                                    go_roundg k3
                                    case measure => have := HK1.out; have := HK2.out; have := HK3.out; omega
                                    case rel => exact ⟨(y552), (wrap64 (x12_2 + 1)), (by first | rfl | (simp; done) | (simp [*]; done)), H', ⟨by have := HK1.out; have := HK2.out; have := HK3.out; omega⟩, ⟨by (with_reducible repeat (first | apply Kd.V_alloc | apply Kd.V_drewN | apply Kd.V_drew)); exact Kd.V_mono HO_0.out (fun _ hk => ⟨hk.1.1, ⟨hk.1.2, hk.2⟩⟩)⟩, ⟨by (with_reducible repeat (first | apply Kd.V_alloc | apply Kd.V_drewN | apply Kd.V_drew)); exact Kd.V_mono HO_1.out (fun _ hk => ⟨hk.1.1, ⟨hk.1.2, hk.2⟩⟩)⟩, ⟨by (with_reducible repeat (first | apply Kd.N_alloc | apply Kd.N_drewN | apply Kd.N_drew)); exact HO_9.out⟩, ⟨by (with_reducible repeat (first | apply Kd.R_alloc | apply Kd.R_drewN | apply Kd.R_drew)); exact HO554.out⟩, ⟨by repeat (first | (with_reducible first | exact HB.out | apply below_alloc | apply pw_below_drewN | apply below_drew1) | exact HB.out)⟩⟩
                                  · rw [if_neg c47] at H
                                    exact absurd H (by simp)
                                · rw [if_neg c46] at H
                                  exact absurd H (by simp)
                              · rw [if_neg c45] at H
                                exact absurd H (by simp)
                    · rw [if_neg c27] at H
                      exact absurd H (by simp)
                  · rw [if_neg c26] at H
                    have c26b0 : (t543 == 0) = false := beq_eq_false_iff_ne.mpr c26
                    have c26b1 : (t543 != 0) = true := bne_iff_ne.mpr c26
                    simp only [Option.some.injEq, Prod.mk.injEq] at H
                    obtain ⟨rfl, rfl⟩ := H
                    obtain ⟨Ao49, co49, eo49⟩ := Kd.N_slice HO_9.out
                    subst eo49
                    go_wp2_with (first | ((with_reducible refine gate_callee (f := 49) rfl ?_); refine goesL_ (some 58) rfl rfl Tryd.func49 (by kernel_rfl) rfl #[.slice A1 l1.length c1, .slice Ao49 x9_1.length co49, .int .i64 x12_2] rfl (by (try simp only [List.map_toArray, List.map_cons, List.map_nil]); first | done | rfl | (simp only [List.length_drop, List.length_take]; rfl)) ?_; (with_reducible refine (sennitref20_ahead.calls k2 _ _ l1 _ _ x9_1 x12_2 t542 t543 _ ?side1 ?side2 ?side3 ?side4 A25.out).mono ?_); (case side1 => repeat (first | exact (Kd.V_reads' HO_1.out).2.2 | (with_reducible refine Kd.C_alloc ?_ _) | (with_reducible refine Kd.C_drewN ?_ _) | (with_reducible refine Kd.C_drew ?_))); (case side2 => exact (Kd.V_reads' HO_1.out).2.1); (case side3 => repeat (first | exact (Kd.N_reads' HO_9.out).2.2 | (with_reducible refine Kd.C_alloc ?_ _) | (with_reducible refine Kd.C_drewN ?_ _) | (with_reducible refine Kd.C_drew ?_))); (case side4 => exact (Kd.N_reads' HO_9.out).2.1); rintro e w50 ⟨v544, rfl, ho0, hb⟩; refine ⟨_, rfl, ?_⟩; have n0_ := Aside0.mk (Kd.V_elder' (by (with_reducible repeat (first | apply Kd.V_alloc | apply Kd.V_drewN | apply Kd.V_drew)); exact HO_0.out) (Kd.R_base ho0) hb); have n1_ := Aside0.mk (Kd.V_elder' (by (with_reducible repeat (first | apply Kd.V_alloc | apply Kd.V_drewN | apply Kd.V_drew)); exact HO_1.out) (Kd.R_base ho0) hb); have n2_ := Aside0.mk (Kd.N_elder' (by (with_reducible repeat (first | apply Kd.N_alloc | apply Kd.N_drewN | apply Kd.N_drew)); exact HO_9.out) (Kd.R_base ho0) hb); have n3_ := Aside0.mk (Kd.R_elder' (by (with_reducible repeat (first | apply Kd.R_alloc | apply Kd.R_drewN | apply Kd.R_drew)); exact HO_11.out) (Kd.R_base ho0) hb); have n4_ := Aside0.mk (Kd.R_lower (Kd.R_new' (Kd.R_newM (M := fun k_ => (w.heap.size ≤ k_)) ho0 (below_size (by repeat (first | (with_reducible first | exact HB.out | apply below_alloc | apply pw_below_drewN | apply below_drew1) | exact HB.out))) (fun k_ h_ => h_)) (Kd.R_lt (by (with_reducible repeat (first | apply Kd.R_alloc | apply Kd.R_drewN | apply Kd.R_drew)); exact HO_11.out))) (below_size (by repeat (first | (with_reducible first | exact HB.out | apply below_alloc | apply pw_below_drewN | apply below_drew1) | exact HB.out)))); have n5_ := Aside0.mk (below_step (by repeat (first | (with_reducible first | exact HB.out | apply below_alloc | apply pw_below_drewN | apply below_drew1) | exact HB.out)) hb); clear HO_0; clear HO_1; clear HO_9; clear HO_11; clear HB; have HO_0 := n0_; have HO_1 := n1_; have HO_9 := n2_; have HO_11 := n3_; have HO545 := n4_; have HB := n5_; clear n0_ n1_ n2_ n3_ n4_ n5_; (try clear hb); (try clear hb2); (try clear hk); (try clear hi); (try clear ho0)))
                    go_ret2
                    exact ⟨_, by first | rfl | (simp [errW_none, errW_some] <;> rfl) | (simp [errW_none, errW_some] <;> (generalize ByteArray.toList _ = l_ <;> cases l_ <;> rfl)) | (simp [*, errW_none, errW_some] <;> rfl), by first | exact Kd.R_nil _ _ _ _ _ | exact Kd.N_nil _ _ _ _ _ | exact Kd.V_nil _ _ _ _ _ | exact Kd.Q_nil _ _ _ _ _ | exact Kd.S_nil _ _ _ _ _, by repeat (first | (with_reducible first | exact HB.out | apply below_alloc | apply pw_below_drewN | apply below_drew1) | exact HB.out)⟩
                · rw [if_neg c24] at H
                  have c24b0 : decide (x12_2 ≤ (l0.length : Int)) = false := decide_eq_false c24
                  clear c24
                  simp only [Option.some.injEq, Prod.mk.injEq] at H
                  obtain ⟨rfl, rfl⟩ := H
                  go_wp2
                  go_ret2
                  exact ⟨_, by first | rfl | (simp [errW_none, errW_some] <;> rfl) | (simp [errW_none, errW_some] <;> (generalize ByteArray.toList _ = l_ <;> cases l_ <;> rfl)) | (simp [*, errW_none, errW_some] <;> rfl), by (with_reducible repeat (first | apply Kd.R_alloc | apply Kd.R_drewN | apply Kd.R_drew)); exact HO_11.out, by repeat (first | (with_reducible first | exact HB.out | apply below_alloc | apply pw_below_drewN | apply below_drew1) | exact HB.out)⟩
    · rw [if_neg c5] at H
      exact absurd H (by simp)
  · rw [if_neg c4] at H
    have c4b0 : (t524 == 0) = false := beq_eq_false_iff_ne.mpr c4
    have c4b1 : (t524 != 0) = true := bne_iff_ne.mpr c4
    simp only [Option.some.injEq, Prod.mk.injEq] at H
    obtain ⟨rfl, rfl⟩ := H
    go_enter Tryd.func25, Tryd.ntmps25
    go_wp2_with (first | ((with_reducible refine gate_callee (f := 46) rfl ?_); refine goesL_ (some 19) rfl rfl Tryd.func46 (by kernel_rfl) rfl #[.slice A0 l0.length c0, .slice A1 l1.length c1] rfl (by (try simp only [List.map_toArray, List.map_cons, List.map_nil]); first | done | rfl | (simp only [List.length_drop, List.length_take]; rfl)) ?_; (with_reducible refine (sennitref20_wrong.calls k _ _ l0 _ _ l1 t524 _ ?side1 ?side2 ?side3 ?side4 A3.out).mono ?_); (case side1 => repeat (first | exact (Kd.V_reads' HO0.out).2.2 | (with_reducible refine Kd.C_alloc ?_ _) | (with_reducible refine Kd.C_drewN ?_ _) | (with_reducible refine Kd.C_drew ?_))); (case side2 => exact (Kd.V_reads' HO0.out).2.1); (case side3 => repeat (first | exact (Kd.V_reads' HO1.out).2.2 | (with_reducible refine Kd.C_alloc ?_ _) | (with_reducible refine Kd.C_drewN ?_ _) | (with_reducible refine Kd.C_drew ?_))); (case side4 => exact (Kd.V_reads' HO1.out).2.1); rintro e w' ⟨rfl, ⟨nd, rfl⟩⟩; refine ⟨_, rfl, ?_⟩))
    go_ret2
    exact ⟨_, by first | rfl | (simp [errW_none, errW_some] <;> rfl) | (simp [errW_none, errW_some] <;> (generalize ByteArray.toList _ = l_ <;> cases l_ <;> rfl)) | (simp [*, errW_none, errW_some] <;> rfl), by first | exact Kd.R_nil _ _ _ _ _ | exact Kd.N_nil _ _ _ _ _ | exact Kd.V_nil _ _ _ _ _ | exact Kd.Q_nil _ _ _ _ _ | exact Kd.S_nil _ _ _ _ _, by repeat (first | (with_reducible first | exact HB.out | apply below_alloc | apply pw_below_drewN | apply below_drew1) | exact HB.out)⟩

end Go.Proofs.YtenfoaajipiehaaDoor.Q
