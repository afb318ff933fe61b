/- What package hunk's show does with the rows that are shown, as total Lean functions; no program in sight. -/
import Derived.Test.YtenfoaajipiehaaDoorX7
import Derived.Test.YtenfoaajipiehaaDoorQ4
namespace Go.Proofs.YtenfoaajipiehaaDoor.Q
set_option linter.unusedVariables false
set_option linter.unusedSimpArgs false
open Go.RowKit Go.Shelf Go.Proofs.YtenfoaajipiehaaDoorW.PrintWords Go.Proofs.YtenfoaajipiehaaDoorW.PrintLast Go.Proofs.YtenfoaajipiehaaDoorW.PrintMore
theorem w64 (n : Int) (h : -9223372036854775808 ≤ n ∧ n ≤ 9223372036854775807) : wrap64 n = n := by unfold wrap64; omega
/-- The group's own rows are shown. -/
def showMid (t : Nat) : Nat → Nat → List Bool → List Bool
  | 0, _, sh => sh
  | n + 1, i, sh => if i < t then showMid t n (i + 1) (sh.set i true) else sh
/-- Those above it. -/
def showDown (l : List S41) (lo : Int) : Nat → List Bool → List Bool
  | 0, sh => sh
  | i + 1, sh => if lo ≤ i ∧ (l[i]?.elim true markedB) = false then showDown l lo i (sh.set i true) else sh
/-- Those below it. -/
def showUp (l : List S41) (hi : Int) : Nat → Nat → List Bool → List Bool
  | 0, _, sh => sh
  | n + 1, i, sh => if (i : Int) < hi ∧ (l[i]?.elim true markedB) = false then showUp l hi n (i + 1) (sh.set i true) else sh
def showL (l : List S41) (ctx : Int) (f t : Nat) (sh : List Bool) : List Bool :=
  showUp l (t + ctx) (l.length - t) t (showDown l (f - ctx) f (showMid t (t - f) f sh))

theorem showMid_length (t : Nat) : ∀ n i sh, (showMid t n i sh).length = sh.length := by
  intro n
  induction n with
  | zero => intro i sh; rfl
  | succ n ih => intro i sh; simp only [showMid]; split <;> simp [ih]
theorem showDown_length (l : List S41) (lo : Int) : ∀ i sh, (showDown l lo i sh).length = sh.length := by
  intro i
  induction i with
  | zero => intro sh; rfl
  | succ i ih => intro sh; simp only [showDown]; split <;> simp [ih]
theorem showUp_length (l : List S41) (hi : Int) : ∀ n i sh, (showUp l hi n i sh).length = sh.length := by
  intro n
  induction n with
  | zero => intro i sh; rfl
  | succ n ih => intro i sh; simp only [showUp]; split <;> simp [ih]
theorem showL_length (l : List S41) (ctx : Int) (f t : Nat) (sh : List Bool) : (showL l ctx f t sh).length = sh.length := by
  unfold showL; rw [showUp_length, showDown_length, showMid_length]

theorem marked_f (x : S41) (hs : x.f0.size ≤ 4000000000) : hunk_marked.f x.f0 x.f1 = some (markedB x) := by
  unfold hunk_marked.f strings_Trim.f
  rw [if_pos ⟨by omega, by decide, by decide⟩]
  show some _ = some _
  congr 1
  have := trim_blank x.f0.data.toList
  rw [Lib.toList_data]
  exact this
theorem rd_at {l : List S41} {i : Nat} (h : i < l.length) : rd_T41 l (i : Int) = l[i] := by simp [rd_T41, List.getD_eq_getElem?_getD, h]

section
variable (l : List S41) (ctx : Int) (f t : Nat) (hft : f ≤ t) (htl : t ≤ l.length) (hl : l.length ≤ 1000000) (hc : 0 ≤ ctx ∧ ctx ≤ 1000000) (hs : ∀ x ∈ l, x.f0.size ≤ 4000000000)
include hft htl hl hc hs
theorem show_l2 : ∀ (n k i : Nat) (sh : List Bool), i + n = l.length → sh.length = l.length → n < k → hunk_show.l2 k sh l ctx i f t = some (showUp l (t + ctx) n i sh) := by
  intro n
  induction n with
  | zero =>
    intro k i sh hi hsh hk
    obtain ⟨k, rfl⟩ : ∃ k', k = k' + 1 := ⟨k - 1, by omega⟩
    rw [hunk_show.l2, if_neg (by omega)]
    rfl
  | succ n ih =>
    intro k i sh hi hsh hk
    obtain ⟨k, rfl⟩ : ∃ k', k = k' + 1 := ⟨k - 1, by omega⟩
    have hil : i < l.length := by omega
    rw [hunk_show.l2, if_pos (by omega), w64 _ (by omega), rd_at hil, marked_f _ (hs _ (List.getElem_mem hil))]
    simp only [showUp]
    by_cases h1 : (i : Int) < t + ctx
    · rw [if_pos h1, if_pos (by omega)]
      show (if markedB l[i] = true then _ else _) = _
      have e : (l[i]?.elim true markedB) = markedB l[i] := by rw [List.getElem?_eq_getElem hil]; rfl
      rw [e]
      by_cases hm : markedB l[i] = true
      · rw [if_pos hm, if_neg (by simp [hm])]
      · rw [if_neg hm, if_pos (by omega), if_pos ⟨h1, by simpa using hm⟩, w64 _ (by omega), Int.toNat_natCast]
        exact ih k (i + 1) _ (by omega) (by simpa using hsh) (by omega)
    · rw [if_neg h1, if_neg (fun h => h1 h.1)]
theorem show_j2 (k : Nat) (sh : List Bool) (hsh : sh.length = l.length) (hk : l.length + 1 < k) : hunk_show.j2 k sh l ctx f t = some (showUp l (t + ctx) (l.length - t) t sh) := by
  obtain ⟨k, rfl⟩ : ∃ k', k = k' + 1 := ⟨k - 1, by omega⟩
  rw [hunk_show.j2]
  exact show_l2 l ctx f t hft htl hl hc hs (l.length - t) k t sh (by omega) hsh (by omega)
theorem show_l1 : ∀ (i k : Nat) (sh : List Bool), i ≤ f → sh.length = l.length → i + l.length + 2 < k → hunk_show.l1 k sh l ctx ((i : Int) - 1) f t = some (showUp l (t + ctx) (l.length - t) t (showDown l (f - ctx) i sh)) := by
  intro i
  induction i with
  | zero =>
    intro k sh hi hsh hk
    obtain ⟨k, rfl⟩ : ∃ k', k = k' + 1 := ⟨k - 1, by omega⟩
    rw [hunk_show.l1, if_neg (by omega)]
    exact show_j2 l ctx f t hft htl hl hc hs k sh hsh (by omega)
  | succ i ih =>
    intro k sh hi hsh hk
    obtain ⟨k, rfl⟩ : ∃ k', k = k' + 1 := ⟨k - 1, by omega⟩
    have hil : i < l.length := by omega
    rw [show (((i + 1 : Nat) : Int) - 1) = (i : Int) by omega, hunk_show.l1, if_pos (by omega), w64 _ (by omega), rd_at hil, marked_f _ (hs _ (List.getElem_mem hil))]
    simp only [showDown]
    by_cases h1 : (f : Int) - ctx ≤ i
    · rw [if_pos h1, if_pos (by omega), if_pos (by omega)]
      show (if markedB l[i] = true then _ else _) = _
      have e : (l[i]?.elim true markedB) = markedB l[i] := by rw [List.getElem?_eq_getElem hil]; rfl
      rw [e]
      by_cases hm : markedB l[i] = true
      · rw [if_pos hm, if_neg (by simp [hm])]
        exact show_j2 l ctx f t hft htl hl hc hs k sh hsh (by omega)
      · rw [if_neg hm, if_pos (by omega), if_pos ⟨h1, by simpa using hm⟩, w64 _ (by omega), Int.toNat_natCast]
        exact ih k _ (by omega) (by simpa using hsh) (by omega)
    · rw [if_neg (by omega), if_neg (fun h => h1 h.1)]
      exact show_j2 l ctx f t hft htl hl hc hs k sh hsh (by omega)
theorem show_l0 : ∀ (n k i : Nat) (sh : List Bool), i + n = t → sh.length = l.length → n + f + l.length + 4 < k → hunk_show.l0 k sh l ctx i f t = some (showUp l (t + ctx) (l.length - t) t (showDown l (f - ctx) f (showMid t n i sh))) := by
  intro n
  induction n with
  | zero =>
    intro k i sh hi hsh hk
    obtain ⟨k, rfl⟩ : ∃ k', k = k' + 1 := ⟨k - 1, by omega⟩
    rw [hunk_show.l0, if_neg (by omega), w64 _ (by omega)]
    exact show_l1 l ctx f t hft htl hl hc hs f k sh (Nat.le_refl _) hsh (by omega)
  | succ n ih =>
    intro k i sh hi hsh hk
    obtain ⟨k, rfl⟩ : ∃ k', k = k' + 1 := ⟨k - 1, by omega⟩
    rw [hunk_show.l0, if_pos (by omega), if_pos (by omega), if_pos (by omega), w64 _ (by omega), Int.toNat_natCast]
    simp only [showMid]
    rw [if_pos (by omega)]
    exact ih k (i + 1) _ (by omega) (by simpa using hsh) (by omega)
theorem show_f (k : Nat) (sh : List Bool) (hsh : sh.length = l.length) (hk : 3 * l.length + 5 ≤ k) : hunk_show.f k sh l f t ctx = some (showL l ctx f t sh) :=
  show_l0 l ctx f t hft htl hl hc hs (t - f) k f sh (by omega) hsh (by omega)
end
end Go.Proofs.YtenfoaajipiehaaDoor.Q
