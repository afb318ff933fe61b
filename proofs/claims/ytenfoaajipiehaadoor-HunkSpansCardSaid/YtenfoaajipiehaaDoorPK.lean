/- The law HunkTells, as a Lean function, is true at every input. -/
import Derived.Test.YtenfoaajipiehaaDoorPI
import Derived.Test.YtenfoaajipiehaaDoorR8
import Derived.Test.YtenfoaajipiehaaDoorR10
namespace Go.Proofs.YtenfoaajipiehaaDoor.Q
set_option linter.unusedVariables false
set_option linter.unusedSimpArgs false
open Go.RowKit Go.Shelf Go.Proofs.YtenfoaajipiehaaDoorW.PrintWords
section
end
/-- What the counter comes to. -/
theorem newRows_count (l : List S41) : ∀ n : Int, newRows l n = n + (l.countP fun x => !lostB x : Nat) := by
  induction l with
  | nil => intro n; simp [newRows]
  | cons x l ih =>
    intro n
    have h := ih (n + oneOf (!lostB x))
    rw [show newRows (x :: l) n = newRows l (n + oneOf (!lostB x)) from rfl, h, List.countP_cons]
    cases lostB x <;> simp [oneOf] <;> omega
theorem passRows_get (l : List S41) : ∀ (z : List Int) (j : Nat) (hj : j < z.length), (passRows l z)[j]? = some (z[j] + (l.countP (ofB j) : Nat)) := by
  induction l with
  | nil => intro z j hj; simp [passRows, hj]
  | cons x l ih =>
    intro z j hj
    have hj2 : j < (passO x z.length z).length := by rw [passO_length]; exact hj
    rw [show passRows (x :: l) z = passRows l (passO x z.length z) from rfl, ih _ j hj2, List.countP_cons]
    simp only [passO, List.getElem_mapIdx, if_pos hj]
    cases ofB j x <;> simp [oneOf]; omega
/-- The spans of a hunk's parents. -/
theorem spans_get (l : List S41) (n a b j : Nat) (hj : j < n) (hab : a ≤ b) : (spansOf (passRows (l.take a) (List.replicate n 0)) (passRows (l.take b) (List.replicate n 0)))[j]? =
    some ⟨((l.take a).countP (ofB j) : Nat), (((l.take a).countP (ofB j) : Nat) : Int) + ((midL l a b).countP (ofB j) : Nat)⟩ := by
  have h1 := passRows_get (l.take a) (List.replicate n 0) j (by simpa using hj)
  have h2 := passRows_get (l.take b) (List.replicate n 0) j (by simpa using hj)
  simp only [List.getElem_replicate, Int.zero_add] at h1 h2
  unfold spansOf
  rw [List.getElem?_zipWith, h1, h2, mid_split l a b hab, List.countP_append]
  simp
theorem spans_length (l : List S41) (n a b : Nat) : (spansOf (passRows (l.take a) (List.replicate n 0)) (passRows (l.take b) (List.replicate n 0))).length = n := by
  unfold spansOf; rw [List.length_zipWith, passRows_length, passRows_length]; simp
section
end
theorem rd38_at {l : List S38} {i : Nat} (h : i < l.length) : rd_T38 l (i : Int) = l[i] := by simp [rd_T38, List.getD_eq_getElem?_getD, h]
section
end
end Go.Proofs.YtenfoaajipiehaaDoor.Q
