/- Contracts of package hunk's columns and Dull: rows of which all have their marks in the same columns, but not in all. -/
import Derived.Test.YtenfoaajipiehaaDoorX2
import Derived.Deep.RegionWith
import Derived.Lib.ReplaceLaws
namespace Go.Proofs.YtenfoaajipiehaaDoor.Q
open Go.RowKit Go.Shelf Go.Proofs.YtenfoaajipiehaaDoorW.PrintWords Go.Proofs.YtenfoaajipiehaaDoorW.PrintLast Go.Proofs.YtenfoaajipiehaaDoorW.PrintMore
/-- A minus sign as a plus sign. -/
def plusB (b : UInt8) : UInt8 := if b = 45 then 43 else b
theorem map_same {s : List UInt8} (h : ∀ k : Nat, s[k]? ≠ some 45) : s.map plusB = s := by
  have : ∀ b ∈ s, plusB b = b := fun b hb => by
    obtain ⟨i, hi⟩ := List.getElem?_of_mem hb
    have : b ≠ 45 := fun e => h i (by rw [hi, e])
    simp [plusB, this]
  rw [List.map_congr_left this]; simp
theorem replace_minus : ∀ (n : Nat) (s : List UInt8), s.length ≤ n → Lib.replaceK [45] [43] (Lib.count s [45]) s = s.map plusB := by
  intro n
  induction n with
  | zero =>
    intro s hs
    have : s = [] := List.length_eq_zero_iff.1 (by omega)
    subst this
    have : Lib.count [] [45] = 0 := by decide
    rw [this]; rfl
  | succ n ih =>
    intro s hs
    have hge := Lib.index_ge s [45]
    by_cases h : Lib.index s [45] = -1
    · rw [Lib.count_miss h, Lib.replaceK]
      rw [Lib.index_one] at h
      rw [map_same (Lib.indexByte_none h)]
    · obtain ⟨i, hi⟩ : ∃ i : Nat, Lib.index s [45] = i := ⟨(Lib.index s [45]).toNat, by omega⟩
      rw [Lib.count_hit (by simp) hi, Nat.add_comm, Lib.replaceK_hit _ _ _ _ i hi]
      rw [Lib.index_one] at hi
      obtain ⟨h1, h2⟩ := Lib.indexByte_some hi
      have hl : i < s.length := (List.getElem?_eq_some_iff.1 h1).1
      rw [show [(45 : UInt8)].length = 1 from rfl, ih _ (by rw [List.length_drop]; omega)]
      conv => rhs; rw [← List.take_append_drop i s]
      rw [List.map_append, map_same (s := s.take i) (fun k => by
        rw [List.getElem?_take]; split
        · exact h2 k (by assumption)
        · simp)]
      have e1 := (List.getElem?_eq_some_iff.1 h1).2
      rw [List.drop_eq_getElem_cons hl, e1]
      simp [plusB]
theorem replaceAll_minus (s : List UInt8) : Lib.replaceAll s [45] [43] = s.map plusB := by
  unfold Lib.replaceAll Lib.replace
  rw [if_neg (by decide), show Lib.replaceNum s [45] (-1) = Lib.count s [45] by simp [Lib.replaceNum]]
  exact replace_minus _ s (Nat.le_refl _)

/-- The library's variable MaxLen is a number. -/
def MaxOk (w : World) : Prop := ∃ m : Int, w.cell? ⟨0, 0, none⟩ = some (.int .i64 m)
theorem MaxOk.below {w w' : World} (h : MaxOk w) (hb : Below w.heap.size w w') : MaxOk w' := by
  obtain ⟨m, hm⟩ := h
  exact ⟨m, (hb.cell (World.block_lt_of_cell? w _ hm)).trans hm⟩
/-- A row's columns with a mark. -/
def colsB (x : S41) : ByteArray := ⟨(x.f0.data.toList.map plusB).toArray⟩

set_option maxHeartbeats 1000000 in
theorem hunk_columns_at (x : S41) (w : World) (hm : MaxOk w) (hs : x.f0.size ≤ 4000000000) :
    Calls Tryd.prog 35 #[.agg #[.string x.f0, .string x.f1]] w fun e w' => e = .returned (.string (colsB x)) ∧ Below w.heap.size w w' := by
  have hb := Aside0.mk ((Below.refl _ w).alloc (Nat.le_refl _) (.cells #[.string x.f0, .string x.f1] 41))
  obtain ⟨m, hm⟩ := hm.below hb.out
  have hcnt := Lib.countB_le ⟨#[45]⟩ (by decide) _ x.f0 (Nat.le_refl _)
  have hR := Aside0.mk (Tryd.strings_ReplaceAll x.f0 ⟨#[45]⟩ ⟨#[43]⟩ m _ (by omega) hm (by decide) (show x.f0.size + Lib.countB x.f0 ⟨#[45]⟩ * 1 ≤ _ by omega))
  clear hm hcnt
  have hE := Aside0.mk (replaceAll_minus x.f0.data.toList)
  go_enter Tryd.func35, Tryd.ntmps35
  go_wp2_with (go_at_call 56; refine hR.out.mono ?_; rintro e w' ⟨rfl, hb2⟩)
  go_ret
  exact ⟨by unfold colsB; rw [← hE.out]; rfl, below_step hb.out hb2⟩

set_option maxHeartbeats 1000000 in
theorem hunk_Dull1_at (B : Nat) (f : ByteArray) (x : S41) (w : World) (hm : MaxOk w) (hs : x.f0.size ≤ 4000000000) (hc : w.cell? ⟨B, 0, none⟩ = some (.string f)) :
    Calls Tryd.prog 36 #[.agg #[.string x.f0, .string x.f1], .pointer (some ⟨B, 0, none⟩)] w fun e w' => e = .returned (.bool (!((colsB x).toList == f.toList))) ∧ Below w.heap.size w w' := by
  have hb := Aside0.mk ((Below.refl _ w).alloc (Nat.le_refl _) (.cells #[.string x.f0, .string x.f1] 41))
  have hB : B < w.heap.size := World.block_lt_of_cell? w _ hc
  have hne : w.heap.size ≠ B := by omega
  have hc1 : (w.alloc (.cells #[.string x.f0, .string x.f1] 41)).cell? ⟨B, 0, none⟩ = some (.string f) := (hb.out.cell (p := ⟨B, 0, none⟩) hB).trans hc
  have hR := Aside0.mk (fun W (hW : Below w.heap.size w W) => hunk_columns_at x W (hm.below hW) hs)
  clear hm hc
  go_enter Tryd.func36, Tryd.ntmps36
  go_wp2
  go_region_with (go_at_call 35; refine (hR.out _ (by first | exact hb.out | exact below_drew hb.out)).mono ?_; rintro e w' ⟨rfl, hb2⟩; have hc2 := (hb2.cell (p := ⟨B, 0, none⟩) (by simp; omega)).trans hc1)
  all_goals
    go_wp2
    go_ret
    exact ⟨rfl, by first | exact below_step hb.out hb2 | exact below_step (below_drew hb.out) hb2 | exact below_drew (below_step hb.out hb2) | skip⟩
end Go.Proofs.YtenfoaajipiehaaDoor.Q
