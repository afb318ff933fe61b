/- Whether rows may be, by both: the same. -/
import Derived.Test.YtenfoaajipiehaaDoorPC
namespace Go.Proofs.YtenfoaajipiehaaDoor.Q
set_option linter.unusedVariables false
set_option linter.unusedSimpArgs false
open Go.RowKit Go.Shelf Go.Proofs.YtenfoaajipiehaaDoorW.PrintWords
def markC (b : UInt8) : Bool := b == 32 || b == 43 || b == 45
/-- May a row be, of n marks? -/
def mayRow (n : Int) (x : S41) : Bool := x.f0.data.toList.all markC && (decide ((x.f0.size : Int) = n) && (!(x.f0.data.toList.any (· == 43) && x.f0.data.toList.any (· == 45)) && oneL x.f1.data.toList))

theorem may_l0 (s u : ByteArray) (n : Int) (hs : s.size ≤ 1000000) (hu : u.size ≤ 1000000) : ∀ (m i k : Nat) (p q : Bool), i + m = s.size → m + u.size + 5 < k →
    sennitref21_may.l0 k n p q i s u = some ((s.data.toList.drop i).all markC && (decide ((s.size : Int) = n) && (!((p || (s.data.toList.drop i).any (· == 43)) && (q || (s.data.toList.drop i).any (· == 45))) && oneL u.data.toList))) := by
  intro m
  have hl : s.data.toList.length = s.size := rfl
  induction m with
  | zero =>
    intro i k p q hi hk
    obtain ⟨k, rfl⟩ : ∃ k', k = k' + 1 := ⟨k - 1, by omega⟩
    rw [sennitref21_may.l0, if_neg (by omega), List.drop_of_length_le (by omega), ref01_one u hu k (by omega)]
    by_cases h : (s.size : Int) = n
    · rw [if_pos h, decide_eq_true h]
      cases p <;> cases q <;> simp
    · rw [if_neg h, decide_eq_false h]
      simp
  | succ m ih =>
    intro i k p q hi hk
    obtain ⟨k, rfl⟩ : ∃ k', k = k' + 1 := ⟨k - 1, by omega⟩
    have hlt : i < s.data.toList.length := by omega
    have hw : wrap64 ((i : Int) + 1) = ((i + 1 : Nat) : Int) := by rw [w64 _ (by omega)]; omega
    have ih' := fun p q => ih (i + 1) k p q (by omega) (by omega)
    have hb := bt_get s i hlt
    rw [sennitref21_may.l0, if_pos (by omega), if_pos (by omega), List.drop_eq_getElem_cons hlt, hw]
    generalize s.data.toList[i] = b at hb
    simp only [ih', List.all_cons, List.any_cons]
    generalize ((s.data.toList.drop (i + 1)).all markC) = A
    generalize ((s.data.toList.drop (i + 1)).any (· == 43)) = B
    generalize ((s.data.toList.drop (i + 1)).any (· == 45)) = C
    generalize oneL u.data.toList = D
    generalize decide ((s.size : Int) = n) = E
    by_cases h1 : b = 32
    · subst h1
      have hb2 : bt s (i : Int) = 32 := hb
      rw [hb2]
      cases p <;> cases q <;> simp [markC]
    · by_cases h2 : b = 43
      · subst h2
        have hb2 : bt s (i : Int) = 43 := hb
        rw [hb2]
        cases p <;> cases q <;> simp [markC]
      · by_cases h3 : b = 45
        · subst h3
          have hb2 : bt s (i : Int) = 45 := hb
          rw [hb2]
          cases p <;> cases q <;> simp [markC]
        · have e1 : ¬ bt s (i : Int) = 32 := fun h => h1 ((byte_eq b 32 32 rfl).1 (hb.symm.trans h))
          have e2 : ¬ bt s (i : Int) = 43 := fun h => h2 ((byte_eq b 43 43 rfl).1 (hb.symm.trans h))
          have e3 : ¬ bt s (i : Int) = 45 := fun h => h3 ((byte_eq b 45 45 rfl).1 (hb.symm.trans h))
          cases p <;> cases q <;> simp [markC, h1, h2, h3, e1, e2, e3]
theorem may_f (x : S41) (n : Int) (hs : x.f0.size ≤ 1000000) (hu : x.f1.size ≤ 1000000) (k : Nat) (hk : x.f0.size + x.f1.size + 5 < k) : sennitref21_may.f k x.f0 x.f1 n = some (mayRow n x) := by
  have := may_l0 x.f0 x.f1 n hs hu x.f0.size 0 k false false (by omega) hk
  simpa [sennitref21_may.f, mayRow] using this
/-- How many marks the first row has. -/
def marksOf (l : List S41) : Int := (rd_T41 l 0).f0.size
def mayB (l : List S41) : Bool := l.all fun x => decide (1 ≤ marksOf l) && (decide (marksOf l ≤ 16) && mayRow (marksOf l) x)
section
variable (l : List S41) (hf : FewP l)
include hf
theorem refMay_l0 : ∀ (m i k : Nat), i + m = l.length → m + 130 < k → sennitref21_May.l0 k l i = some ((l.drop i).all fun x => decide (1 ≤ marksOf l) && (decide (marksOf l ≤ 16) && mayRow (marksOf l) x)) := by
  intro m
  induction m with
  | zero =>
    intro i k hi hk
    obtain ⟨k, rfl⟩ : ∃ k', k = k' + 1 := ⟨k - 1, by omega⟩
    rw [sennitref21_May.l0, if_neg (by omega), List.drop_of_length_le (by omega)]
    rfl
  | succ m ih =>
    intro i k hi hk
    obtain ⟨k, rfl⟩ : ∃ k', k = k' + 1 := ⟨k - 1, by omega⟩
    have hlt : i < l.length := by omega
    have hx := hf.2 _ (List.getElem_mem hlt)
    have hf1 := hf.1
    rw [sennitref21_May.l0, if_pos (by omega), if_pos (by omega), rd_at hlt, may_f _ _ (by omega) (by omega) k (by omega), List.drop_eq_getElem_cons hlt, List.all_cons]
    show (if marksOf l < 1 then _ else if marksOf l > 16 then _ else _) = _
    by_cases h1 : marksOf l < 1
    · rw [if_pos h1, decide_eq_false (by omega)]; rfl
    · rw [if_neg h1, decide_eq_true (show 1 ≤ marksOf l by omega)]
      by_cases h2 : marksOf l > 16
      · rw [if_pos h2, decide_eq_false (by omega)]; rfl
      · rw [if_neg h2, if_pos (by omega), decide_eq_true (show marksOf l ≤ 16 by omega)]
        show (if mayRow (marksOf l) l[i] = true then _ else _) = _
        cases hm : mayRow (marksOf l) l[i] with
        | true =>
          rw [if_pos rfl, w64 _ (by omega)]
          refine (ih (i + 1) k (by omega) (by omega)).trans ?_
          rw [decide_eq_true (show 1 ≤ marksOf l by omega), decide_eq_true (show marksOf l ≤ 16 by omega)]
          simp
        | false => rw [if_neg (by decide)]; rfl
theorem refMay_f (k : Nat) (hk : 171 ≤ k) : sennitref21_May.f k l = some (mayB l) := by
  have := refMay_l0 l hf l.length 0 k (by omega) (by have := hf.1; omega)
  simpa [sennitref21_May.f, mayB] using this
end
theorem trim_all (c l : List UInt8) : (Lib.trimS l c = []) ↔ l.all c.contains = true := by
  have h1 : ∀ l : List UInt8, l.dropWhile (c.contains ·) = [] ↔ l.all c.contains = true := by
    intro l
    induction l with
    | nil => simp
    | cons b l ih =>
      by_cases hb : c.contains b = true
      · simp only [List.dropWhile_cons, hb, if_true, List.all_cons, Bool.true_and]; exact ih
      · simp only [List.dropWhile_cons, hb, List.all_cons]; simp
  have h3 : ∀ l : List UInt8, (l.dropWhile (c.contains ·)).all c.contains = true → l.all c.contains = true := by
    intro l
    induction l with
    | nil => simp
    | cons b l ih =>
      by_cases hb : c.contains b = true
      · simp only [List.dropWhile_cons, hb, if_true, List.all_cons, Bool.true_and]; exact ih
      · simp only [List.dropWhile_cons, hb]; exact id
  unfold Lib.trimS Lib.trimLeftS
  rw [h1]
  unfold Lib.trimRightS
  rw [List.all_reverse]
  constructor
  · intro h
    have := h3 _ h
    rwa [List.all_reverse] at this
  · intro h
    have := (h1 l.reverse).2 (by rw [List.all_reverse]; exact h)
    rw [this]; rfl
theorem any_index (l : List UInt8) (c : UInt8) : decide (0 ≤ Lib.indexByte l c) = l.any (· == c) := by
  rw [← Lib.contains_iff_indexByte, List.contains_eq_any_beq]
  congr 1; funext b; exact Bool.eq_iff_iff.2 (by simp only [beq_iff_eq]; exact eq_comm)
section
variable (l : List S41) (hf : FewP l)
include hf
theorem hunkMay_l0 : ∀ (m i k : Nat), i + m = l.length → m + 10 < k → hunk_May.l0 k l l (l.length : Int) i = some ((l.drop i).all fun x => decide (1 ≤ marksOf l) && (decide (marksOf l ≤ 16) && mayRow (marksOf l) x)) := by
  intro m
  induction m with
  | zero =>
    intro i k hi hk
    obtain ⟨k, rfl⟩ : ∃ k', k = k' + 1 := ⟨k - 1, by omega⟩
    rw [hunk_May.l0, if_neg (by omega), List.drop_of_length_le (by omega)]
    rfl
  | succ m ih =>
    intro i k hi hk
    obtain ⟨k, rfl⟩ : ∃ k', k = k' + 1 := ⟨k - 1, by omega⟩
    have hlt : i < l.length := by omega
    have hx := hf.2 _ (List.getElem_mem hlt)
    have hf1 := hf.1
    have hT : strings_Trim.f l[i].f0 ⟨#[32, 43, 45]⟩ = some ⟨(Lib.trimS l[i].f0.data.toList [32, 43, 45]).toArray⟩ := by
      unfold strings_Trim.f; rw [if_pos ⟨by omega, by decide, by decide⟩]
    have hP : strings_Contains.f l[i].f0 ⟨#[43]⟩ = some (l[i].f0.data.toList.any (· == 43)) := by rw [← any_index]; rfl
    have hQ : strings_Contains.f l[i].f0 ⟨#[45]⟩ = some (l[i].f0.data.toList.any (· == 45)) := by rw [← any_index]; rfl
    have hL := lines_one l[i].f1 (by omega) k (by omega)
    have hI := ih (i + 1) k (by omega) (by omega)
    have hw : wrap64 ((i : Int) + 1) = ((i + 1 : Nat) : Int) := by rw [w64 _ (by omega)]; omega
    have hA : ((⟨(Lib.trimS l[i].f0.data.toList [32, 43, 45]).toArray⟩ : ByteArray).toList = ([] : List UInt8)) ↔ l[i].f0.data.toList.all markC = true := by
      rw [Lib.toList_data]
      show Lib.trimS _ _ = [] ↔ _
      rw [trim_all]
      have e : ([32, 43, 45] : List UInt8).contains = markC := by funext b; simp [markC, List.contains_cons, Bool.or_assoc]; rfl
      rw [e]
    rw [hunk_May.l0, if_pos (by omega), if_pos (by omega), if_pos (by omega), rd_at hlt, hT, hP, hQ, hL, hw, hI, List.drop_eq_getElem_cons hlt, List.all_cons]
    simp only [Option.bind_some, hA]
    show _ = some ((decide (1 ≤ marksOf l) && (decide (marksOf l ≤ 16) && mayRow (marksOf l) l[i])) && _)
    have h0 : (0 : Int) < (l.length : Int) := by omega
    have hne : ¬ l = [] := fun e => by rw [e] at h0; simp at h0
    have hm : (((rd_T41 l 0).f0).size : Int) = marksOf l := rfl
    rw [hm]
    unfold mayRow
    generalize ((l.drop (i + 1)).all fun x => decide (1 ≤ marksOf l) && (decide (marksOf l ≤ 16) && (x.f0.data.toList.all markC && (decide ((x.f0.size : Int) = marksOf l) && (!(x.f0.data.toList.any (· == 43) && x.f0.data.toList.any (· == 45)) && oneL x.f1.data.toList))))) = R
    generalize l[i].f0.data.toList.all markC = A
    generalize l[i].f0.data.toList.any (· == 43) = P
    generalize l[i].f0.data.toList.any (· == 45) = Q
    generalize oneL l[i].f1.data.toList = O
    by_cases hs : (l[i].f0.size : Int) = marksOf l
    · by_cases h1 : marksOf l < 1
      · have d1 : decide (1 ≤ marksOf l) = false := decide_eq_false (by omega)
        cases P <;> simp [h0, hne, hs, h1, d1]
      · have d1 : decide (1 ≤ marksOf l) = true := decide_eq_true (by omega)
        by_cases h2 : marksOf l > 16
        · have d2 : decide (marksOf l ≤ 16) = false := decide_eq_false (by omega)
          cases P <;> simp [h0, hne, hs, h1, h2, d1, d2]
        · have d2 : decide (marksOf l ≤ 16) = true := decide_eq_true (by omega)
          cases A <;> cases P <;> cases Q <;> cases O <;> simp [h0, hne, hs, h1, h2, d1, d2]
    · cases P <;> simp [h0, hne, hs]
theorem hunkMay_f (k : Nat) (hk : 51 ≤ k) : hunk_May.f k l = some (mayB l) := by
  have := hunkMay_l0 l hf l.length 0 k (by omega) (by have := hf.1; omega)
  simpa [hunk_May.f, mayB] using this
end
end Go.Proofs.YtenfoaajipiehaaDoor.Q
