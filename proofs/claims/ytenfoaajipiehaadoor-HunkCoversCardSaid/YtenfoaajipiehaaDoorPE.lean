/- Whether rows are dull, by both: the same, of rows that may be. -/
import Derived.Test.YtenfoaajipiehaaDoorPD
namespace Go.Proofs.YtenfoaajipiehaaDoor.Q
set_option linter.unusedVariables false
set_option linter.unusedSimpArgs false
open Go.RowKit Go.Shelf Go.Proofs.YtenfoaajipiehaaDoorW.PrintWords
/-- Which marks are blank. -/
def blanks (l : List UInt8) : List Bool := l.map (· == 32)
/-- Rows of n known marks each. -/
def Even (n : Nat) (l : List S41) : Prop := ∀ x ∈ l, x.f0.size = n ∧ x.f0.data.toList.all markC = true
def dullGo (l : List S41) (r0 : List UInt8) (n : Nat) : Nat → Nat → Nat → Bool
  | 0, _, c => decide (0 < c) && decide (c < n)
  | m + 1, i, c => (l.all fun y => (y.f0.data.toList.getD i 0 == 32) == (r0.getD i 0 == 32)) && dullGo l r0 n m (i + 1) (c + if r0.getD i 0 = 32 then 1 else 0)
theorem bt_row (l : List S41) (n : Nat) (hE : Even n l) {j i : Nat} (hj : j < l.length) (hi : i < n) : bt ((rd_T41 l (j : Int)).f0) (i : Int) = (((l[j].f0.data.toList.getD i 0).toNat : Nat) : Int) := by
  have h1 := (hE _ (List.getElem_mem hj)).1
  have h2 : i < l[j].f0.data.toList.length := by show i < l[j].f0.size; omega
  rw [rd_at hj, bt_get _ _ h2, List.getD_eq_getElem?_getD, List.getElem?_eq_getElem h2]
  rfl
section
variable (l : List S41) (n : Nat) (hp : 0 < l.length) (hl : l.length ≤ 40) (hn : n ≤ 20) (hE : Even n l)
include hp hl hn hE
theorem refDull_l1 (c i : Nat) (hi : i < n) (hc : c ≤ i) : ∀ (m j k : Nat), j + m = l.length → m < k →
    sennitref21_Dull.l1 k l c i j = if ((l.drop j).all fun y => (y.f0.data.toList.getD i 0 == 32) == (l[0].f0.data.toList.getD i 0 == 32)) = true then sennitref21_Dull.l0 (k - m - 1) l ((c + if l[0].f0.data.toList.getD i 0 = 32 then 1 else 0 : Nat) : Int) ((i + 1 : Nat) : Int) else some false := by
  intro m
  have h00 : (rd_T41 l 0).f0 = (rd_T41 l ((0 : Nat) : Int)).f0 := rfl
  have hz := bt_row l n hE hp hi
  have hs0 : ((rd_T41 l 0).f0).size = n := by rw [h00, rd_at hp]; exact (hE _ (List.getElem_mem hp)).1
  have e0 := byte_eq (l[0].f0.data.toList.getD i 0) 32 32 rfl
  induction m with
  | zero =>
    intro j k hj hk
    obtain ⟨k, rfl⟩ : ∃ k', k = k' + 1 := ⟨k - 1, by omega⟩
    rw [sennitref21_Dull.l1, if_neg (by omega), if_pos (by omega), if_pos (by omega), hs0, if_pos (by omega), h00, hz, List.drop_of_length_le (by omega), w64 _ (by omega), w64 _ (by omega)]
    simp only [List.all_nil, if_true]
    by_cases h : l[0].f0.data.toList.getD i 0 = 32
    · rw [if_pos (e0.2 h), if_pos h]; rfl
    · rw [if_neg (fun hh => h (e0.1 hh)), if_neg h]; rfl
  | succ m ih =>
    intro j k hj hk
    obtain ⟨k, rfl⟩ : ∃ k', k = k' + 1 := ⟨k - 1, by omega⟩
    have hlt : j < l.length := by omega
    have hy := bt_row l n hE hlt hi
    have hs1 : ((rd_T41 l (j : Int)).f0).size = n := by rw [rd_at hlt]; exact (hE _ (List.getElem_mem hlt)).1
    have e1 := byte_eq (l[j].f0.data.toList.getD i 0) 32 32 rfl
    have q1 : ((((l[j].f0.data.toList.getD i 0).toNat : Nat) : Int) == 32) = (l[j].f0.data.toList.getD i 0 == 32) := Bool.eq_iff_iff.2 (by simp only [beq_iff_eq]; exact e1)
    have q0 : ((((l[0].f0.data.toList.getD i 0).toNat : Nat) : Int) == 32) = (l[0].f0.data.toList.getD i 0 == 32) := Bool.eq_iff_iff.2 (by simp only [beq_iff_eq]; exact e0)
    rw [sennitref21_Dull.l1, if_pos (by omega), if_pos (by omega), if_pos (by omega), hs1, if_pos (by omega), if_pos (by omega), hs0, if_pos (by omega), h00, hy, hz, q1, q0, List.drop_eq_getElem_cons hlt, List.all_cons, w64 _ (by omega)]
    have hI := ih (j + 1) k (by omega) (by omega)
    cases hb : ((l[j].f0.data.toList.getD i 0 == 32) == (l[0].f0.data.toList.getD i 0 == 32)) with
    | true =>
      have hb2 : ((l[j].f0.data.toList.getD i 0 == 32) != (l[0].f0.data.toList.getD i 0 == 32)) = false := by rw [bne, hb]; rfl
      rw [hb2, if_neg (by decide), Bool.true_and]
      refine hI.trans ?_
      rw [show k + 1 - (m + 1) - 1 = k - m - 1 by omega]
    | false =>
      have hb2 : ((l[j].f0.data.toList.getD i 0 == 32) != (l[0].f0.data.toList.getD i 0 == 32)) = true := by rw [bne, hb]; rfl
      rw [hb2, if_pos rfl, Bool.false_and, if_neg (by decide)]
theorem refDull_l0 : ∀ (m i c k : Nat), i + m = n → c ≤ i → m * (l.length + 2) < k → sennitref21_Dull.l0 k l c i = some (dullGo l l[0].f0.data.toList n m i c) := by
  intro m
  have h00 : (rd_T41 l 0).f0 = (rd_T41 l ((0 : Nat) : Int)).f0 := rfl
  have hs0 : ((rd_T41 l 0).f0).size = n := by rw [h00, rd_at hp]; exact (hE _ (List.getElem_mem hp)).1
  induction m with
  | zero =>
    intro i c k hi hc hk
    obtain ⟨k, rfl⟩ : ∃ k', k = k' + 1 := ⟨k - 1, by omega⟩
    rw [sennitref21_Dull.l0, if_pos (by omega), hs0, if_neg (by omega)]
    unfold dullGo
    by_cases h : (c : Int) > 0
    · rw [if_pos h, decide_eq_true (show 0 < c by omega), Bool.true_and]
      congr 1
      exact Bool.eq_iff_iff.2 (by simp)
    · rw [if_neg h, decide_eq_false (show ¬ 0 < c by omega)]; rfl
  | succ m ih =>
    intro i c k hi hc hk
    have hmul : (m + 1) * (l.length + 2) = m * (l.length + 2) + (l.length + 2) := Nat.succ_mul _ _
    obtain ⟨k, rfl⟩ : ∃ k', k = k' + 1 := ⟨k - 1, by omega⟩
    rw [sennitref21_Dull.l0, if_pos (by omega), hs0, if_pos (by omega)]
    refine (refDull_l1 l n hp hl hn hE c i (by omega) hc l.length 0 k (by omega) (by omega)).trans ?_
    unfold dullGo
    rw [List.drop_zero]
    cases (l.all fun y => (y.f0.data.toList.getD i 0 == 32) == (l[0].f0.data.toList.getD i 0 == 32)) with
    | true =>
      rw [if_pos rfl, Bool.true_and]
      exact ih (i + 1) _ _ (by omega) (by split <;> omega) (by omega)
    | false => rw [if_neg (by decide)]; rfl
end
theorem dullGo_eq (l : List S41) (n : Nat) (hp : 0 < l.length) (hE : Even n l) : ∀ (m i c : Nat), i + m = n → dullGo l l[0].f0.data.toList n m i c = ((l.all fun y => blanks (y.f0.data.toList.drop i) == blanks (l[0].f0.data.toList.drop i)) && (decide (0 < c + (l[0].f0.data.toList.drop i).countP (· == 32)) && decide (c + (l[0].f0.data.toList.drop i).countP (· == 32) < n))) := by
  intro m
  have hlen : ∀ y ∈ l, y.f0.data.toList.length = n := fun y hy => (hE y hy).1
  have hl0 := hlen _ (List.getElem_mem hp)
  induction m with
  | zero =>
    intro i c hi
    have ha : (l.all fun y => blanks (y.f0.data.toList.drop i) == blanks (l[0].f0.data.toList.drop i)) = true := by
      rw [List.all_eq_true]
      intro y hy
      rw [List.drop_of_length_le (by rw [hlen y hy]; omega), List.drop_of_length_le (by omega)]
      rfl
    rw [ha, List.drop_of_length_le (by omega)]
    rfl
  | succ m ih =>
    intro i c hi
    unfold dullGo
    rw [ih (i + 1) _ (by omega)]
    have h0 : i < l[0].f0.data.toList.length := by omega
    have hg0 : l[0].f0.data.toList.getD i 0 = l[0].f0.data.toList[i] := by rw [List.getD_eq_getElem?_getD, List.getElem?_eq_getElem h0]; rfl
    have ha : (l.all fun y => blanks (y.f0.data.toList.drop i) == blanks (l[0].f0.data.toList.drop i)) = ((l.all fun y => (y.f0.data.toList.getD i 0 == 32) == (l[0].f0.data.toList.getD i 0 == 32)) && (l.all fun y => blanks (y.f0.data.toList.drop (i + 1)) == blanks (l[0].f0.data.toList.drop (i + 1)))) := by
      rw [Bool.eq_iff_iff, Bool.and_eq_true, List.all_eq_true, List.all_eq_true, List.all_eq_true, ← forall_and]
      refine forall_congr' fun y => ?_
      rw [← imp_and]
      refine imp_congr_right fun hy => ?_
      have hyl : i < y.f0.data.toList.length := by rw [hlen y hy]; omega
      have hg : y.f0.data.toList.getD i 0 = y.f0.data.toList[i] := by rw [List.getD_eq_getElem?_getD, List.getElem?_eq_getElem hyl]; rfl
      rw [hg, hg0, List.drop_eq_getElem_cons hyl, List.drop_eq_getElem_cons h0]
      simp only [blanks, List.map_cons, beq_iff_eq, List.cons.injEq]
    rw [ha, Bool.and_assoc, List.drop_eq_getElem_cons h0, List.countP_cons, hg0]
    congr 2
    have e : c + (if l[0].f0.data.toList[i] = 32 then 1 else 0) + (l[0].f0.data.toList.drop (i + 1)).countP (· == 32) = c + ((l[0].f0.data.toList.drop (i + 1)).countP (· == 32) + if (l[0].f0.data.toList[i] == 32) = true then 1 else 0) := by
      by_cases h : l[0].f0.data.toList[i] = 32
      · rw [if_pos h, if_pos (by rw [h]; rfl)]; omega
      · rw [if_neg h, if_neg (by simpa using h)]; omega
    rw [e]
theorem cols_blanks (x : S41) (h : x.f0.data.toList.all markC = true) : (colsB x).data.toList = (blanks x.f0.data.toList).map fun b => if b then 32 else 43 := by
  show x.f0.data.toList.map plusB = _
  unfold blanks
  rw [List.map_map]
  apply List.map_congr_left
  intro b hb
  have := List.all_eq_true.1 h b hb
  simp only [markC, Bool.or_eq_true, beq_iff_eq] at this
  rcases this with (rfl | rfl) | rfl <;> rfl
theorem dull_eq (l : List S41) (n : Nat) (hp : 0 < l.length) (hE : Even n l) : dullB l = ((l.all fun y => blanks y.f0.data.toList == blanks l[0].f0.data.toList) && (decide (0 < l[0].f0.data.toList.countP (· == 32)) && decide (l[0].f0.data.toList.countP (· == 32) < n))) := by
  obtain ⟨h1, h2⟩ := hE _ (List.getElem_mem hp)
  have hinj : ∀ a b : List Bool, a.map (fun b => if b then (32 : UInt8) else 43) = b.map (fun b => if b then 32 else 43) → a = b := by
    intro a
    induction a with
    | nil => intro b h; cases b with | nil => rfl | cons y b => cases h
    | cons x a ih =>
      intro b h
      cases b with
      | nil => cases h
      | cons y b =>
        simp only [List.map_cons, List.cons.injEq] at h
        have e : x = y := by
          have := h.1
          cases x <;> cases y <;> first | rfl | (exact absurd this (by decide))
        rw [e, ih _ h.2]
  rw [dullB_pos hp, cols_blanks _ h2]
  have e1 : (((blanks l[0].f0.data.toList).map fun b => if b then (32 : UInt8) else 43).contains 43) = decide (l[0].f0.data.toList.countP (· == 32) < n) := by
    rw [Bool.eq_iff_iff, decide_eq_true_iff, List.contains_iff_mem, List.mem_map]
    have hle := List.countP_le_length (p := (· == (32 : UInt8))) (l := l[0].f0.data.toList)
    have hln : l[0].f0.data.toList.length = n := h1
    constructor
    · rintro ⟨b, hb, hbe⟩
      have hbf : b = false := by cases b with | false => rfl | true => exact absurd hbe (by decide)
      subst hbf
      obtain ⟨c, hc, hcc⟩ := List.mem_map.1 hb
      rcases Nat.lt_or_ge (l[0].f0.data.toList.countP (· == 32)) n with h | h
      · exact h
      · have := List.countP_eq_length.1 (show l[0].f0.data.toList.countP (· == 32) = l[0].f0.data.toList.length by omega) c hc
        rw [this] at hcc; cases hcc
    · intro h
      refine ⟨false, ?_, rfl⟩
      refine Classical.byContradiction fun hno => ?_
      have : l[0].f0.data.toList.countP (· == 32) = l[0].f0.data.toList.length := List.countP_eq_length.2 (fun c hc => by
        cases hcc : (c == 32) with
        | true => rfl
        | false => exact absurd (List.mem_map.2 ⟨c, hc, hcc⟩) hno)
      omega
  have e2 : (((blanks l[0].f0.data.toList).map fun b => if b then (32 : UInt8) else 43).contains 32) = decide (0 < l[0].f0.data.toList.countP (· == 32)) := by
    rw [Bool.eq_iff_iff, decide_eq_true_iff, List.contains_iff_mem, List.mem_map, List.countP_pos_iff]
    constructor
    · rintro ⟨b, hb, hbe⟩
      have hbf : b = true := by cases b with | true => rfl | false => exact absurd hbe (by decide)
      subst hbf
      obtain ⟨c, hc, hcc⟩ := List.mem_map.1 hb
      exact ⟨c, hc, hcc⟩
    · rintro ⟨c, hc, hcc⟩
      exact ⟨true, List.mem_map.2 ⟨c, hc, hcc⟩, rfl⟩
  have e3 : (!(l.any fun y => !((colsB y).toList == (colsB l[0]).toList))) = (l.all fun y => blanks y.f0.data.toList == blanks l[0].f0.data.toList) := by
    rw [List.not_any_eq_all_not, Bool.eq_iff_iff, List.all_eq_true, List.all_eq_true]
    refine forall_congr' fun y => imp_congr_right fun hy => ?_
    have hy2 := (hE y hy).2
    rw [Bool.not_not, beq_iff_eq, beq_iff_eq, Lib.toList_data, Lib.toList_data, cols_blanks _ hy2, cols_blanks _ h2]
    exact ⟨fun h => hinj _ _ h, fun h => by rw [h]⟩
  rw [e1, e2, e3]
  cases (l.all fun y => blanks y.f0.data.toList == blanks l[0].f0.data.toList) <;> cases decide (l[0].f0.data.toList.countP (· == 32) < n) <;> cases decide (0 < l[0].f0.data.toList.countP (· == 32)) <;> rfl
theorem refDull_f (l : List S41) (n : Nat) (hl : l.length ≤ 40) (hn : n ≤ 20) (hE : Even n l) (k : Nat) (hk : 900 ≤ k) : sennitref21_Dull.f k l = some (dullB l) := by
  unfold sennitref21_Dull.f
  by_cases h : l.length = 0
  · have e := List.length_eq_zero_iff.1 h
    subst e
    rfl
  · have hp : 0 < l.length := by omega
    have hmul : n * (l.length + 2) ≤ 20 * 42 := Nat.mul_le_mul hn (by omega)
    rw [if_neg (by omega), dull_eq l n hp hE]
    refine (refDull_l0 l n hp hl hn hE n 0 0 k (by omega) (Nat.le_refl _) (by omega)).trans ?_
    rw [dullGo_eq l n hp hE n 0 0 (by omega)]
    simp only [List.drop_zero, Nat.zero_add]
theorem even_of_may (l : List S41) (h : mayB l = true) : Even (marksOf l).toNat l := by
  intro x hx
  have := List.all_eq_true.1 h x hx
  simp only [mayRow, Bool.and_eq_true, decide_eq_true_eq] at this
  obtain ⟨h1, h2, h3, h4, -⟩ := this
  exact ⟨by omega, h3⟩
theorem marks_le (l : List S41) (hf : FewP l) : (marksOf l).toNat ≤ 20 := by
  unfold marksOf
  rcases Nat.eq_zero_or_pos l.length with h | h
  · rw [List.length_eq_zero_iff.1 h]; decide
  · rw [show (0 : Int) = ((0 : Nat) : Int) from rfl, rd_at h]
    have := (hf.2 _ (List.getElem_mem h)).1
    omega
theorem even_mid {l : List S41} {n a b : Nat} (h : Even n l) : Even n ((l.take b).drop a) := fun x hx => h x (List.mem_of_mem_take (List.mem_of_mem_drop hx))
theorem dulls (l : List S41) (n : Nat) (hl : l.length ≤ 40) (hn : n ≤ 20) (hE : Even n l) (k : Nat) (hk : 900 ≤ k) : hunk_Dull.f l = some (dullB l) ∧ sennitref21_Dull.f k l = some (dullB l) :=
  ⟨by unfold hunk_Dull.f; rw [if_pos ⟨by omega, fun x hx => by have := (hE x hx).1; omega⟩], refDull_f l n hl hn hE k hk⟩
theorem rd36_at {l : List S36} {i : Nat} (h : i < l.length) : rd_T36 l (i : Int) = l[i] := by simp [rd_T36, List.getD_eq_getElem?_getD, h]

end Go.Proofs.YtenfoaajipiehaaDoor.Q
