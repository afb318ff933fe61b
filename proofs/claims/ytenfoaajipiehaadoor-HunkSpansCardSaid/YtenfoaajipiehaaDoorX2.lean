/- Contracts of package table's texts, Result and Column: the texts of the rows for which a function answers true. -/
import Derived.Test.YtenfoaajipiehaaDoorQ3
namespace Go.Proofs.YtenfoaajipiehaaDoor.Q
open Go.RowKit Go.Shelf Go.Proofs.YtenfoaajipiehaaDoorW.PrintWords Go.Proofs.YtenfoaajipiehaaDoorW.PrintLast Go.Proofs.YtenfoaajipiehaaDoorW.PrintMore
theorem at41 {w : World} {A : Option Addr} {n : Nat} {xs : List S41} (h : Kd.C k41 w A n xs) (k : Nat) (h1 : k < n) (hn : k < xs.length) :
    ∃ ad, A = some ad ∧ w.cell? (ad.add (k * 2)) = some (.string xs[k].f0) ∧ w.cell? ⟨(ad.add (k * 2)).block, (ad.add (k * 2)).off + 1, none⟩ = some (.string xs[k].f1) := by
  have := at_T41 h (k : Int) (by omega) (by omega)
  simpa [rd_T41, List.getD_eq_getElem?_getD, List.getElem?_eq_getElem hn] using this

set_option maxHeartbeats 1000000 in
set_option maxRecDepth 100000 in
theorem table_texts_at (g : FuncId) (lb : Array Value) (p : S41 → Bool) (A : Option Addr) (c : Nat) (l : List S41) (w : World)
    (hr : Kd.C k41 w A l.length l) (hl : l.length < 8796093022208)
    (eg : ∀ args w, (callFunc g args).run Tryd.prog w = .ok (.enter g args) w)
    (hp : ∀ x W, Below w.heap.size w W → Calls Tryd.prog g (#[.agg #[.string x.f0, .string x.f1]] ++ lb) W fun e w' => e = .returned (.bool (p x)) ∧ Below W.heap.size W w') :
    Calls Tryd.prog 41 #[.slice A l.length c, .func (.func g) #[] lb] w fun e w' => ∃ v, e = .returned v ∧ Kd.R Kd.string 9 w' w.heap.size (fun _ => True) v ((l.filter p).map (·.f1)) ∧ Below w.heap.size w w' := by
  have HR := Aside0.mk hr
  have HP := Aside0.mk hp
  clear hr hp
  have HB := Aside0.mk (Below.refl w.heap.size w)
  go_enter Tryd.func41, Tryd.ntmps41
  go_wp2
  go_loopw [5, 10] (fun v5 v10 wr => ∃ k : Nat, k ≤ l.length ∧ v10 = .int .i64 k ∧ Aside0 (Kd.R Kd.string 9 wr w.heap.size (fun _ => True) v5 (((l.take k).filter p).map (·.f1))) ∧ Aside0 (Below w.heap.size w wr)) (fun _ v10 _ => l.length - (intOf v10).toNat)
  case atStart => exact ⟨0, Nat.zero_le _, rfl, ⟨Kd.R_nil _ _ _ _ _⟩, HB⟩
  case round =>
    clear HB
    obtain ⟨k, hk, rfl, HO, HB⟩ := hrel
    by_cases hlt : k < l.length
    · obtain ⟨ad, rfl, hc0, hc1⟩ := at41 HR.out k hlt hlt
      replace hc0 := (HB.out.cell (World.block_lt_of_cell? w _ hc0)).trans hc0
      replace hc1 := (HB.out.cell (World.block_lt_of_cell? w _ hc1)).trans hc1
      go_wp2_with fail
      refine (HP.out l[k] _ ?_).mono ?_
      · exact (below_alloc HB.out _)
      rintro e w1 ⟨rfl, hb⟩
      have HB1 := Aside0.mk (below_step (below_alloc HB.out _) hb)
      have hz1 : w1.cell? ⟨wr.heap.size, 1, none⟩ = some (.string l[k].f1) := (hb.cell (p := ⟨wr.heap.size, 1, none⟩) (by simp)).trans (by simp)
      have HO1 := Aside0.mk (Kd.R_below (Kd.R_alloc HO.out _) hb)
      have HT := Aside0.mk (List.take_succ_eq_append_getElem hlt)
      clear hb HO HB
      go_wp2_with (first | (at_builtin; refine Kd.R_append Kd.string (w0 := w) w.heap.size rfl (.tmp 17) (.tmp 20) 44 9 (.string ⟨#[]⟩) 16 rfl Tryd.underlying44 info9 rfl (by decide) (by omega) u5 (((l.take k).filter p).map (·.f1)) l[k].f1 [.string l[k].f1] (fun _ => True) (fun _ => False) rfl rfl ?aP (fun _ hk => hk.elim) ?aF ?aO ?aB ?aS ?aL ?_; (case aP => exact rfl); (case aB => exact HB1.out); (case aF => exact fun _ _ => trivial); (case aO => exact HO1.out); (case aS => exact HB1.out.size); (case aL => have := List.length_filter_le p (l.take k); have := List.length_take_le k l; rw [List.length_map]; omega); intro v1 w2 ho hb2 _ _; have HO2 := Aside0.mk ho; have HB2 := Aside0.mk hb2; clear ho hb2))
      · have hpx : p l[k] = true := by assumption
        go_roundw
        case rel => exact ⟨k + 1, by omega, by go_num, ⟨by rw [HT.out, List.filter_append, List.map_append]; simpa [List.filter_cons, hpx] using HO2.out⟩, HB2⟩
        case measure => simp [intOf]; omega
      · have hpx : p l[k] = false := by assumption
        go_roundw
        case rel => exact ⟨k + 1, by omega, by go_num, ⟨by rw [HT.out, List.filter_append, List.map_append]; simpa [List.filter_cons, hpx] using HO1.out⟩, HB1⟩
        case measure => simp [intOf]; omega
    · go_wp2
      go_ret
      exact ⟨_, rfl, by rw [List.take_of_length_le (by omega)] at HO; exact HO.out, HB.out⟩

/-- Has a row a minus sign? -/
def lostB (x : S41) : Bool := x.f0.data.toList.contains 45
/-- Is a row the parent's of a column? -/
def ofB (i : Int) (x : S41) : Bool := decide (0 ≤ i) && (decide (i < x.f0.size) && ((bt x.f0 i == 45) || ((bt x.f0 i == 32) && !lostB x)))

set_option maxHeartbeats 1000000 in
theorem table_Lost_at (x : S41) (w : World) :
    Calls Tryd.prog 43 #[.agg #[.string x.f0, .string x.f1]] w fun e w' => e = .returned (.bool (lostB x)) ∧ Below w.heap.size w w' := by
  have hb := Aside0.mk ((Below.refl _ w).alloc (Nat.le_refl _) (.cells #[.string x.f0, .string x.f1] 41))
  have hl := Aside0.mk (Lib.contains_iff_indexByte x.f0.data.toList 45)
  go_enter Tryd.func43, Tryd.ntmps43
  go_wp2_with (go_at_call 37; refine (Tryd.strings_Contains_one _ 45 _).mono ?_; rintro e w' ⟨rfl, rfl⟩)
  go_ret
  exact ⟨by rw [← hl.out]; rfl, hb.out⟩

theorem enters42 : ∀ args w, (callFunc 42 args).run Tryd.prog w = .ok (.enter 42 args) w := enters_of Tryd.func42 (by kernel_rfl) rfl
theorem enters44 : ∀ args w, (callFunc 44 args).run Tryd.prog w = .ok (.enter 44 args) w := enters_of Tryd.func44 (by kernel_rfl) rfl
set_option maxHeartbeats 1000000 in
theorem table_Result1_at (x : S41) (w : World) :
    Calls Tryd.prog 42 #[.agg #[.string x.f0, .string x.f1]] w fun e w' => e = .returned (.bool (!lostB x)) ∧ Below w.heap.size w w' := by
  have hb := Aside0.mk ((Below.refl _ w).alloc (Nat.le_refl _) (.cells #[.string x.f0, .string x.f1] 41))
  go_enter Tryd.func42, Tryd.ntmps42
  go_wp2_with (go_at_call 43; refine (table_Lost_at x _).mono ?_; rintro e w' ⟨rfl, hb2⟩)
  go_ret
  exact ⟨rfl, below_step hb.out hb2⟩

set_option maxHeartbeats 1000000 in
theorem table_Column1_at (B : Nat) (i : Int) (x : S41) (w : World) (hc : w.cell? ⟨B, 0, none⟩ = some (.int .i64 i)) :
    Calls Tryd.prog 44 #[.agg #[.string x.f0, .string x.f1], .pointer (some ⟨B, 0, none⟩)] w fun e w' => e = .returned (.bool (ofB i x)) ∧ Below w.heap.size w w' := by
  have hb := Aside0.mk ((Below.refl _ w).alloc (Nat.le_refl _) (.cells #[.string x.f0, .string x.f1] 41))
  have hB := World.block_lt_of_cell? w _ hc
  have hne : w.heap.size ≠ B := by have : B < w.heap.size := hB; omega
  have hc1 : (w.alloc (.cells #[.string x.f0, .string x.f1] 41)).cell? ⟨B, 0, none⟩ = some (.int .i64 i) := (hb.out.cell (p := ⟨B, 0, none⟩) hB).trans hc
  clear hB hc
  by_cases h0 : 0 ≤ i
  · have d0 : decide (0 ≤ i) = true := decide_eq_true h0
    by_cases h1 : i < x.f0.size
    · have d1 : decide (i < (x.f0.size : Int)) = true := decide_eq_true h1
      have hx := bt_at x.f0 i
      have hn : i.toNat < x.f0.size := by omega
      by_cases h2 : bt x.f0 i = 45
      · have HE := Aside0.mk (show ofB i x = true by simp [ofB, h0, h1, h2])
        have e2 : (bt x.f0 i == 45) = true := beq_iff_eq.mpr h2
        clear h2
        go_enter Tryd.func44, Tryd.ntmps44
        go_wp2
        go_ret
        exact ⟨by rw [HE.out]; rfl, hb.out⟩
      · have e2 : (bt x.f0 i == 45) = false := beq_eq_false_iff_ne.mpr h2
        by_cases h3 : bt x.f0 i = 32
        · have HE := Aside0.mk (show ofB i x = !lostB x by simp [ofB, h0, h1, h3])
          have e3 : (bt x.f0 i == 32) = true := beq_iff_eq.mpr h3
          clear h2 h3
          go_enter Tryd.func44, Tryd.ntmps44
          go_wp2_with (go_at_call 43; refine (table_Lost_at x _).mono ?_; rintro e w' ⟨rfl, hb2⟩)
          go_ret
          exact ⟨by rw [HE.out]; rfl, below_step hb.out hb2⟩
        · have e3 : (bt x.f0 i == 32) = false := beq_eq_false_iff_ne.mpr h3
          have HE := Aside0.mk (show ofB i x = false by simp [ofB, h2, h3])
          clear h2 h3
          go_enter Tryd.func44, Tryd.ntmps44
          go_wp2
          go_ret
          exact ⟨by rw [HE.out]; rfl, hb.out⟩
    · have d1 : decide (i < (x.f0.size : Int)) = false := decide_eq_false h1
      have HE := Aside0.mk (show ofB i x = false by simp [ofB, h1])
      go_enter Tryd.func44, Tryd.ntmps44
      go_wp2
      go_ret
      exact ⟨by rw [HE.out]; rfl, hb.out⟩
  · have d0 : decide (0 ≤ i) = false := decide_eq_false h0
    have HE := Aside0.mk (show ofB i x = false by simp [ofB, h0])
    go_enter Tryd.func44, Tryd.ntmps44
    go_wp2
    go_ret
    exact ⟨by rw [HE.out]; rfl, hb.out⟩

/-- table.Result: the texts of the rows that have no minus sign. -/
theorem table_Result_at (A : Option Addr) (c : Nat) (l : List S41) (w : World) (hr : Kd.C k41 w A l.length l) (hl : l.length < 8796093022208) :
    Calls Tryd.prog 22 #[.slice A l.length c] w fun e w' => ∃ v, e = .returned v ∧ Kd.R Kd.string 9 w' w.heap.size (fun _ => True) v ((l.filter fun x => !lostB x).map (·.f1)) ∧ Below w.heap.size w w' := by
  have HT := Aside0.mk (table_texts_at 42 #[] (fun x => !lostB x) A c l w hr hl enters42 (fun x W _ => table_Result1_at x W))
  clear hr
  go_enter Tryd.func22, Tryd.ntmps22
  go_wp2_with (go_at_call 41; refine HT.out.mono ?_; rintro e w' ⟨v, rfl, ho, hb⟩; have HO := Aside0.mk ho; have HB := Aside0.mk hb; clear ho hb)
  go_ret
  exact ⟨_, rfl, HO.out, HB.out⟩

/-- table.Column: the texts of the rows that are the parent's of a column. -/
theorem table_Column_at (A : Option Addr) (c : Nat) (l : List S41) (i : Int) (w : World) (hr : Kd.C k41 w A l.length l) (hl : l.length < 8796093022208) :
    Calls Tryd.prog 23 #[.slice A l.length c, .int .i64 i] w fun e w' => ∃ v, e = .returned v ∧ Kd.R Kd.string 9 w' w.heap.size (fun _ => True) v ((l.filter (ofB i)).map (·.f1)) ∧ Below w.heap.size w w' := by
  have hb0 := Aside0.mk ((Below.refl _ w).alloc (Nat.le_refl _) (.cells #[.int .i64 i] 3))
  have HT := Aside0.mk (table_texts_at 44 #[.pointer (some ⟨w.heap.size, 0, none⟩)] (ofB i) A c l (w.alloc (.cells #[.int .i64 i] 3)) (Kd.C_below hr hb0.out) hl enters44
    (fun x W hW => table_Column1_at w.heap.size i x W ((hW.cell (p := ⟨w.heap.size, 0, none⟩) (by simp)).trans (by simp))))
  clear hr
  go_enter Tryd.func23, Tryd.ntmps23
  go_wp2_with (go_at_call 41; refine HT.out.mono ?_; rintro e w' ⟨v, rfl, ho, hb⟩; have HO := Aside0.mk (Kd.R_lower ho (show w.heap.size ≤ _ by simp)); have HB := Aside0.mk (below_step hb0.out hb); clear ho hb)
  go_ret
  exact ⟨_, rfl, HO.out, HB.out⟩
end Go.Proofs.YtenfoaajipiehaaDoor.Q
