/- Whether a text may be, by both: the same. -/
import Derived.Test.YtenfoaajipiehaaDoorPB
import Derived.Lib.IndexLaws
namespace Go.Proofs.YtenfoaajipiehaaDoor.Q
set_option linter.unusedVariables false
set_option linter.unusedSimpArgs false
open Go.RowKit Go.Shelf Go.Proofs.YtenfoaajipiehaaDoorW.PrintWords
theorem len1 (s : ByteArray) : (([s] : List ByteArray).length : Int) = 1 := rfl
/-- How many line feeds. -/
def feedsL (l : List UInt8) : Nat := l.countP (· == 10)
theorem feeds_l0 (s : ByteArray) (hs : s.size ≤ 1000000) : ∀ (n i k c : Nat), i + n = s.size → n < k → c ≤ i → sennitref01_feeds.l0 k s c i = some ((c + feedsL (s.data.toList.drop i) : Nat) : Int) := by
  intro n
  have hl : s.data.toList.length = s.size := rfl
  induction n with
  | zero =>
    intro i k c hi hk hc
    obtain ⟨k, rfl⟩ : ∃ k', k = k' + 1 := ⟨k - 1, by omega⟩
    rw [sennitref01_feeds.l0, if_neg (by omega), List.drop_of_length_le (by omega)]
    rfl
  | succ n ih =>
    intro i k c hi hk hc
    obtain ⟨k, rfl⟩ : ∃ k', k = k' + 1 := ⟨k - 1, by omega⟩
    have hlt : i < s.data.toList.length := by omega
    rw [sennitref01_feeds.l0, if_pos (by omega), if_pos (by omega), bt_get _ _ hlt, List.drop_eq_getElem_cons hlt]
    have e := byte_eq (s.data.toList[i]) 10 10 rfl
    unfold feedsL at ih ⊢
    rw [List.countP_cons]
    by_cases h : s.data.toList[i] = 10
    · rw [if_pos (e.2 h), w64 _ (by omega), w64 _ (by omega), h]
      refine (ih (i + 1) k (c + 1) (by omega) (by omega) (by omega)).trans ?_
      congr 2
      simp only [beq_self_eq_true, if_true]; omega
    · rw [if_neg (fun hh => h (e.1 hh)), w64 _ (by omega), beq_eq_false_iff_ne.2 h]
      refine (ih (i + 1) k c (by omega) (by omega) (by omega)).trans ?_
      congr 2
theorem feeds_f (s : ByteArray) (hs : s.size ≤ 1000000) (k : Nat) (hk : s.size < k) : sennitref01_feeds.f k s = some (feedsL s.data.toList : Int) := by
  have := feeds_l0 s hs s.size 0 k 0 (by omega) hk (Nat.le_refl _)
  simpa [sennitref01_feeds.f] using this
/-- Is it one ended line? -/
def endedL (l : List UInt8) : Bool := feedsL l == 1 && l.getLast? == some 10
theorem line_f (s : ByteArray) (hs : s.size ≤ 1000000) (k : Nat) (hk : s.size < k) : sennitref01_Line.f k s = some (endedL s.data.toList) := by
  unfold sennitref01_Line.f endedL
  rw [feeds_f s hs k hk]
  simp only [Option.bind_some]
  by_cases h : feedsL s.data.toList = 1
  · have hp : 0 < s.data.toList.length := by
      rcases Nat.eq_zero_or_pos s.data.toList.length with h0 | h0
      · rw [List.length_eq_zero_iff.1 h0] at h; cases h
      · exact h0
    have hl : s.data.toList.length = s.size := rfl
    rw [if_pos (by omega), w64 _ (by omega), if_pos (by omega), if_pos (by omega), show ((s.size : Int) - 1) = ((s.size - 1 : Nat) : Int) by omega, bt_get _ _ (show s.size - 1 < s.data.toList.length by omega)]
    have e := byte_eq (s.data.toList[s.size - 1]'(by omega)) 10 10 rfl
    rw [h, List.getLast?_eq_getElem?, List.getElem?_eq_getElem (show s.data.toList.length - 1 < s.data.toList.length by omega)]
    congr 1
    by_cases h2 : s.data.toList[s.size - 1]'(by omega) = 10
    · have h3 : s.data.toList[s.data.toList.length - 1]'(by omega) = 10 := h2
      rw [h3, h2]; rfl
    · have h3 : ¬ s.data.toList[s.data.toList.length - 1]'(by omega) = 10 := h2
      rw [beq_eq_false_iff_ne.2 (fun hh => h2 (e.1 hh))]
      simp only [beq_self_eq_true, Bool.true_and]
      exact (beq_eq_false_iff_ne.2 (fun hh => h3 (Option.some.inj hh))).symm
  · rw [if_neg (by omega), beq_eq_false_iff_ne.2 h]; rfl
/-- May one text be the lines' only one? -/
def oneL (l : List UInt8) : Bool := (feedsL l == 0 && !l.isEmpty) || endedL l
theorem ref01_one (s : ByteArray) (hs : s.size ≤ 1000000) (k : Nat) (hk : s.size + 3 < k) : sennitref01_May.f k [s] = some (oneL s.data.toList) := by
  obtain ⟨k, rfl⟩ : ∃ k', k = k' + 2 := ⟨k - 2, by omega⟩
  have hl : s.data.toList.length = s.size := rfl
  have h1 : ∀ k, sennitref01_May.l0 (k + 1) [s] (wrap64 (0 + 1)) = some true := fun k => by
    rw [sennitref01_May.l0, if_neg (by first | decide | (rw [len1]; first | decide | (unfold wrap64; decide) | (unfold wrap64; omega)))]
  have hr : rdOf ByteArray.empty [s] 0 = s := rfl
  unfold sennitref01_May.f oneL
  rw [sennitref01_May.l0, if_pos (by first | decide | (rw [len1]; first | decide | (unfold wrap64; decide) | (unfold wrap64; omega))), if_pos (by first | decide | (rw [len1]; first | decide | (unfold wrap64; decide) | (unfold wrap64; omega))), if_pos (by first | decide | (rw [len1]; first | decide | (unfold wrap64; decide) | (unfold wrap64; omega))), hr, feeds_f s hs (k + 1) (by omega), line_f s hs (k + 1) (by omega), h1]
  simp only [Option.bind_some]
  by_cases h : 0 < s.size
  · have he : s.data.toList.isEmpty = false := by cases hc : s.data.toList with | nil => rw [hc] at hl; simp at hl; omega | cons b l => rfl
    rw [if_pos (by omega), he]
    by_cases h0 : feedsL s.data.toList = 0
    · rw [if_pos (by omega), h0]; rfl
    · rw [if_neg (by omega), beq_eq_false_iff_ne.2 h0]
      cases endedL s.data.toList <;> rfl
  · have he : s.data.toList = [] := List.length_eq_zero_iff.1 (by omega)
    rw [if_neg (by omega), he]
    rfl
theorem index_one (l : List UInt8) : (if Lib.indexByte l 10 < 0 then !l.isEmpty else decide (Lib.indexByte l 10 = (l.length : Int) - 1)) = oneL l := by
  have hz : ∀ l : List UInt8, Lib.indexByte l 10 = -1 → feedsL l = 0 := fun l h => by
    unfold feedsL
    rw [List.countP_eq_zero]
    intro b hb hbb
    obtain ⟨i, hi⟩ := List.getElem?_of_mem hb
    exact Lib.indexByte_none h i (by rw [hi, eq_of_beq hbb])
  by_cases h : Lib.indexByte l 10 = -1
  · rw [if_pos (by omega)]
    have := hz l h
    unfold oneL endedL
    rw [this]
    simp
  · have hge := Lib.indexByte_ge l 10
    rw [if_neg (by omega)]
    obtain ⟨o, ho⟩ : ∃ o : Nat, Lib.indexByte l 10 = o := ⟨(Lib.indexByte l 10).toNat, by omega⟩
    obtain ⟨h1, h2⟩ := Lib.indexByte_some ho
    have hlt := (List.getElem?_eq_some_iff.1 h1).1
    have hsp : l = l.take o ++ 10 :: l.drop (o + 1) := by
      have h3 := (List.getElem?_eq_some_iff.1 h1).2
      conv => lhs; rw [← List.take_append_drop o l, List.drop_eq_getElem_cons hlt, h3]
    have h0 : feedsL (l.take o) = 0 := by
      unfold feedsL
      rw [List.countP_eq_zero]
      intro b hb hbb
      obtain ⟨i, hi⟩ := List.getElem?_of_mem hb
      have hio : i < o := by have := (List.getElem?_eq_some_iff.1 hi).1; rw [List.length_take] at this; omega
      rw [List.getElem?_take, if_pos hio] at hi
      exact h2 i hio (by rw [hi, eq_of_beq hbb])
    have hc : feedsL l = 1 + feedsL (l.drop (o + 1)) := by
      conv => lhs; rw [hsp]
      unfold feedsL at h0 ⊢
      rw [List.countP_append, List.countP_cons, h0]
      simp only [beq_self_eq_true, if_true]; omega
    rw [ho]
    unfold oneL endedL
    rw [hc, beq_eq_false_iff_ne.2 (show 1 + feedsL (l.drop (o + 1)) ≠ 0 by omega), Bool.false_and, Bool.false_or]
    by_cases hend : o + 1 = l.length
    · rw [decide_eq_true (by omega), List.drop_of_length_le (by omega), List.getLast?_eq_getElem?, show l.length - 1 = o by omega, h1]
      rfl
    · rw [decide_eq_false (by omega)]
      by_cases h5 : feedsL (l.drop (o + 1)) = 0
      · have h6 : l.getLast? ≠ some 10 := by
          intro h7
          rw [List.getLast?_eq_getElem?] at h7
          unfold feedsL at h5
          rw [List.countP_eq_zero] at h5
          refine h5 10 ?_ rfl
          refine List.mem_of_getElem? (i := l.length - 1 - (o + 1)) ?_
          rw [List.getElem?_drop, show o + 1 + (l.length - 1 - (o + 1)) = l.length - 1 by omega]
          exact h7
        rw [beq_eq_false_iff_ne.2 h6, Bool.and_false]
      · rw [beq_eq_false_iff_ne.2 (show 1 + feedsL (l.drop (o + 1)) ≠ 1 by omega), Bool.false_and]
theorem lines_one (s : ByteArray) (hs : s.size ≤ 1000000) (k : Nat) (hk : 3 < k) : lines_May.f k [s] = some (oneL s.data.toList) := by
  obtain ⟨k, rfl⟩ : ∃ k', k = k' + 2 := ⟨k - 2, by omega⟩
  have hl : s.data.toList.length = s.size := rfl
  have h1 : ∀ k, lines_May.l0 (k + 1) [s] [s] (([s] : List ByteArray).length : Int) (wrap64 (0 + 1)) = some true := fun k => by
    rw [lines_May.l0, if_neg (by first | decide | (rw [len1]; first | decide | (unfold wrap64; decide) | (unfold wrap64; omega)))]
  have hr : rdOf ByteArray.empty [s] 0 = s := rfl
  have hi : strings_Index.f s ⟨#[10]⟩ = some (Lib.indexByte s.data.toList 10) := rfl
  rw [← index_one]
  unfold lines_May.f
  rw [lines_May.l0, if_pos (by first | decide | (rw [len1]; first | decide | (unfold wrap64; decide) | (unfold wrap64; omega))), if_pos (by first | decide | (rw [len1]; first | decide | (unfold wrap64; decide) | (unfold wrap64; omega))), if_pos (by first | decide | (rw [len1]; first | decide | (unfold wrap64; decide) | (unfold wrap64; omega))), hr, hi, h1]
  simp only [Option.bind_some]
  have he : (!s.data.toList.isEmpty) = decide ((s.size : Int) > 0) := by
    cases hc : s.data.toList with
    | nil => rw [hc] at hl; simp at hl; rw [← hl]; rfl
    | cons b l => rw [hc] at hl; simp at hl; rw [decide_eq_true (by omega)]; rfl
  by_cases h : Lib.indexByte s.data.toList 10 < 0
  · rw [if_pos h, if_pos h, he]
    by_cases h2 : (s.size : Int) > 0
    · rw [if_pos h2, if_pos (by first | decide | (rw [len1]; first | decide | (unfold wrap64; decide) | (unfold wrap64; omega))), decide_eq_true h2]
    · rw [if_neg h2, decide_eq_false h2]
  · rw [if_neg h, if_neg h, w64 _ (by omega), hl]
    split <;> simp_all
end Go.Proofs.YtenfoaajipiehaaDoor.Q
