/- Contracts of slices.ContainsFunc over rows, and of package hunk's Dull. -/
import Derived.Test.YtenfoaajipiehaaDoorX3
namespace Go.Proofs.YtenfoaajipiehaaDoor.Q
open Go.RowKit Go.Shelf Go.Proofs.YtenfoaajipiehaaDoorW.PrintWords Go.Proofs.YtenfoaajipiehaaDoorW.PrintLast Go.Proofs.YtenfoaajipiehaaDoorW.PrintMore
set_option maxHeartbeats 1000000 in
set_option maxRecDepth 100000 in
theorem slices_IndexFunc_at (g : FuncId) (lb : Array Value) (p : S41 → Bool) (A : Option Addr) (c : Nat) (l : List S41) (w : World)
    (hr : Kd.C k41 w A l.length l) (hl : l.length < 8796093022208)
    (eg : ∀ args w, (callFunc g args).run Tryd.prog w = .ok (.enter g args) w)
    (hp : ∀ x, x ∈ l → ∀ W, Below w.heap.size w W → Calls Tryd.prog g (#[.agg #[.string x.f0, .string x.f1]] ++ lb) W fun e w' => e = .returned (.bool (p x)) ∧ Below W.heap.size W w') :
    Calls Tryd.prog 58 #[.slice A l.length c, .func (.func g) #[] lb] w fun e w' => ∃ r : Int, e = .returned (.int .i64 r) ∧ (decide (0 ≤ r) = l.any p) ∧ Below w.heap.size w w' := by
  have HR := Aside0.mk hr
  have HP := Aside0.mk hp
  clear hr hp
  have HB := Aside0.mk (Below.refl w.heap.size w)
  go_enter Tryd.func58, Tryd.ntmps58
  go_wp2
  go_loopw [8] (fun v8 wr => ∃ k : Nat, k ≤ l.length ∧ v8 = .int .i64 k ∧ Aside0 ((l.take k).any p = false) ∧ Aside0 (Below w.heap.size w wr)) (fun v8 _ => l.length - (intOf v8).toNat)
  case atStart => exact ⟨0, Nat.zero_le _, rfl, ⟨rfl⟩, HB⟩
  case round =>
    clear HB
    obtain ⟨k, hk, rfl, HO, HB⟩ := hrel
    by_cases hlt : k < l.length
    · obtain ⟨ad, rfl, hc0, hc1⟩ := at41 HR.out k hlt hlt
      replace hc0 := (HB.out.cell (World.block_lt_of_cell? w _ hc0)).trans hc0
      replace hc1 := (HB.out.cell (World.block_lt_of_cell? w _ hc1)).trans hc1
      go_wp2_with fail
      refine (HP.out l[k] (List.getElem_mem hlt) _ HB.out).mono ?_
      rintro e w1 ⟨rfl, hb⟩
      have HB1 := Aside0.mk (below_step HB.out hb)
      have HT := Aside0.mk (List.take_succ_eq_append_getElem hlt)
      have HM := Aside0.mk (List.getElem_mem hlt)
      clear hb HB
      go_wp2_with fail
      · have hpx : p l[k] = true := by assumption
        go_ret
        exact ⟨_, rfl, by rw [decide_eq_true (by omega)]; exact (List.any_eq_true.2 ⟨_, HM.out, hpx⟩).symm, HB1.out⟩
      · have hpx : p l[k] = false := by assumption
        go_roundw
        case rel => exact ⟨k + 1, by omega, by go_num, ⟨by rw [HT.out, List.any_append, HO.out]; simp [hpx]⟩, HB1⟩
        case measure => simp [intOf]; omega
    · go_wp2
      go_ret
      exact ⟨-1, rfl, by rw [List.take_of_length_le (by omega)] at HO; rw [HO.out]; rfl, HB.out⟩

set_option maxHeartbeats 1000000 in
theorem slices_ContainsFunc_at (g : FuncId) (lb : Array Value) (p : S41 → Bool) (A : Option Addr) (c : Nat) (l : List S41) (w : World)
    (hr : Kd.C k41 w A l.length l) (hl : l.length < 8796093022208)
    (eg : ∀ args w, (callFunc g args).run Tryd.prog w = .ok (.enter g args) w)
    (hp : ∀ x, x ∈ l → ∀ W, Below w.heap.size w W → Calls Tryd.prog g (#[.agg #[.string x.f0, .string x.f1]] ++ lb) W fun e w' => e = .returned (.bool (p x)) ∧ Below W.heap.size W w') :
    Calls Tryd.prog 38 #[.slice A l.length c, .func (.func g) #[] lb] w fun e w' => e = .returned (.bool (l.any p)) ∧ Below w.heap.size w w' := by
  have HI := Aside0.mk (slices_IndexFunc_at g lb p A c l w hr hl eg hp)
  clear hr hp
  go_enter Tryd.func38, Tryd.ntmps38
  go_wp2_with (go_at_call 58; refine HI.out.mono ?_; rintro e w' ⟨r, rfl, hr, hb⟩; have HE := Aside0.mk hr; have HB := Aside0.mk hb; clear hr hb)
  go_ret
  exact ⟨by rw [← HE.out]; rfl, HB.out⟩

theorem enters36 : ∀ args w, (callFunc 36 args).run Tryd.prog w = .ok (.enter 36 args) w := enters_of Tryd.func36 (by kernel_rfl) rfl

/-- Rows that all have their marks in the same columns, but not in all. -/
def dullB : List S41 → Bool
  | [] => false
  | x :: l => (colsB x).data.toList.contains 43 && ((colsB x).data.toList.contains 32 && !((x :: l).any fun y => !((colsB y).toList == (colsB x).toList)))
theorem dullB_pos {l : List S41} (h : 0 < l.length) : dullB l = ((colsB l[0]).data.toList.contains 43 && ((colsB l[0]).data.toList.contains 32 && !(l.any fun y => !((colsB y).toList == (colsB l[0]).toList)))) := by
  cases l with
  | nil => simp at h
  | cons x l => rfl

set_option maxHeartbeats 1000000 in
set_option maxRecDepth 100000 in
theorem hunk_Dull_at (A : Option Addr) (c : Nat) (l : List S41) (w : World) (hr : Kd.C k41 w A l.length l) (hl : l.length < 8796093022208) (hm : MaxOk w) (hs : ∀ x ∈ l, x.f0.size ≤ 4000000000) :
    Calls Tryd.prog 17 #[.slice A l.length c] w fun e w' => e = .returned (.bool (dullB l)) ∧ Below w.heap.size w w' := by
  have HB := Aside0.mk (Below.refl w.heap.size w)
  by_cases h0 : l.length = 0
  · have hn : l = [] := List.length_eq_zero_iff.1 h0
    subst hn
    clear h0 hm hs
    go_enter Tryd.func17, Tryd.ntmps17
    go_wp2
    go_ret
    exact ⟨rfl, HB.out⟩
  · have hp : 0 < l.length := by omega
    obtain ⟨ad, rfl, hc0, hc1⟩ := at41 hr 0 hp hp
    have hz : ad.add (0 * 2) = ad := rfl
    rw [hz] at hc0 hc1
    clear hz
    have HE := Aside0.mk (dullB_pos hp)
    have HC := Aside0.mk (hunk_columns_at l[0] w hm (hs _ (List.getElem_mem hp)))
    have HD := Aside0.mk (fun (B : Nat) (W : World) (hW : Below w.heap.size w W) (hcW : W.cell? ⟨B, 0, none⟩ = some (.string (colsB l[0]))) =>
      slices_ContainsFunc_at 36 #[.pointer (some ⟨B, 0, none⟩)] (fun y => !((colsB y).toList == (colsB l[0]).toList)) (some ad) c l W (Kd.C_below hr hW) hl enters36
        (fun y hy V hV => hunk_Dull1_at B (colsB l[0]) y V (MaxOk.below (MaxOk.below hm hW) hV) (hs y hy) ((hV.cell (World.block_lt_of_cell? W _ hcW)).trans hcW)))
    have HK := Aside0.mk (Lib.contains_iff_indexByte (colsB l[0]).data.toList 43)
    have HL := Aside0.mk (Lib.contains_iff_indexByte (colsB l[0]).data.toList 32)
    have hq : ((l.length : Int) == 0) = false := beq_eq_false_iff_ne.mpr (by omega)
    clear hr hm hs h0
    generalize hcx : colsB l[0] = cx at HC HD HE HK HL
    have HX := Aside0.mk hcx
    clear hcx
    go_enter Tryd.func17, Tryd.ntmps17
    go_wp2_with (first | (go_at_call 35; refine HC.out.mono ?_; rintro e w1 ⟨rfl, hb⟩; have HB1 := Aside0.mk hb; clear hb) | (go_at_call 37; refine (Tryd.strings_Contains_one cx _ _).mono ?_; rintro e w' ⟨rfl, rfl⟩) | fail)
    · have h1 : 0 ≤ Lib.indexByte cx.data.toList 43 := by assumption
      have h2 : 0 ≤ Lib.indexByte cx.data.toList 32 := by assumption
      refine (HD.out _ _ (below_alloc HB1.out _) (by simp)).mono ?_
      rintro e w2 ⟨rfl, hb2⟩
      have HB2 := Aside0.mk (below_step (below_alloc HB1.out _) hb2)
      clear hb2
      go_wp2
      go_ret
      exact ⟨by rw [HE.out, HK.out, HL.out, decide_eq_true h1, decide_eq_true h2]; rfl, HB2.out⟩
    · have h2 : Lib.indexByte cx.data.toList 32 < 0 := by assumption
      go_ret
      exact ⟨by rw [HE.out, HL.out, decide_eq_false (Int.not_le.2 h2), Bool.false_and, Bool.and_false]; rfl, below_alloc HB1.out _⟩
    · have h1 : Lib.indexByte cx.data.toList 43 < 0 := by assumption
      go_ret
      exact ⟨by rw [HE.out, HK.out, decide_eq_false (Int.not_le.2 h1), Bool.false_and]; rfl, below_alloc HB1.out _⟩
end Go.Proofs.YtenfoaajipiehaaDoor.Q
