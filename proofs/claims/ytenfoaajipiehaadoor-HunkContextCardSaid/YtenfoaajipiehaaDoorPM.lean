/- The law HunkCovers, as a Lean function, is true at every input. -/
import Derived.Test.YtenfoaajipiehaaDoorPK
import Derived.Test.YtenfoaajipiehaaDoorR12
namespace Go.Proofs.YtenfoaajipiehaaDoor.Q
set_option linter.unusedVariables false
set_option linter.unusedSimpArgs false
open Go.RowKit Go.Shelf Go.Proofs.YtenfoaajipiehaaDoorW.PrintWords
/-- The hunks of few rows that may be. -/
theorem hunks_f (l : List S41) (hf : FewP l) (hm : mayB l = true) (ctx : Int) (h0 : 0 ≤ ctx) (h1 : ctx ≤ 1000) (dense : Bool) (k : Nat) (hk : 3000 ≤ k) : hunk_Hunks.f k l ctx dense = some ((runsGo 0 (showAll l ctx dense (groupsL l)) none).map (mkHunk l (zerosOf l)), 0) := by
  have hl := hf.1
  unfold hunk_Hunks.f
  rw [if_neg (by omega), hunkMay_f l hf k (by omega), Option.bind_some, hm, if_neg (by decide)]
  by_cases hz : l.length = 0
  · rw [if_pos hz]
    have e := List.length_eq_zero_iff.1 hz
    subst e
    rfl
  · rw [if_neg hz, if_pos ⟨⟨by omega, fun x hx => by have := (hf.2 x hx).1; omega⟩, by omega⟩]
/-- The rows that are shown. -/
def sel : List S41 → List Bool → List S41
  | x :: l, b :: s => if b then x :: sel l s else sel l s
  | _, _ => []
theorem mid_snoc (l : List S41) (s p : Nat) (hs : s ≤ p) (hp : p < l.length) : midL l s (p + 1) = midL l s p ++ [l[p]] := by
  unfold midL
  rw [List.take_succ_eq_append_getElem hp, List.drop_append_of_le_length (by rw [List.length_take]; omega)]
theorem mid_none (l : List S41) (p : Nat) : midL l p p = [] := by
  unfold midL
  rw [List.drop_of_length_le (by rw [List.length_take]; omega)]
theorem sel_at (l : List S41) (S : List Bool) (hS : S.length = l.length) {p : Nat} (h : p < l.length) (h' : p < S.length) : sel (l.drop p) (S.drop p) = if S[p] = true then l[p] :: sel (l.drop (p + 1)) (S.drop (p + 1)) else sel (l.drop (p + 1)) (S.drop (p + 1)) := by
  rw [List.drop_eq_getElem_cons h, List.drop_eq_getElem_cons h', sel]
theorem runs_sel (l : List S41) (S : List Bool) (hS : S.length = l.length) : ∀ (n p : Nat) (o : Option Nat), p + n = l.length → (∀ s, o = some s → s ≤ p) →
    (runsGo p (S.drop p) o).flatMap (fun s => midL l s.1 s.2) = o.elim [] (fun s => midL l s p) ++ sel (l.drop p) (S.drop p) := by
  intro n
  induction n with
  | zero =>
    intro p o hp ho
    rw [List.drop_of_length_le (by omega), List.drop_of_length_le (by omega)]
    cases o with
    | none => rfl
    | some s => simp [runsGo, sel]
  | succ n ih =>
    intro p o hp ho
    have h : p < l.length := by omega
    have h' : p < S.length := by omega
    rw [sel_at l S hS h h']
    cases hb : S[p] with
    | true =>
      rw [if_pos rfl]
      cases o with
      | none => rw [runsGo_open h' hb, ih (p + 1) (some p) (by omega) (fun s e => by cases e; omega)]; simp only [Option.elim]; rw [mid_snoc l p p (Nat.le_refl _) h, mid_none]; rfl
      | some s => have hs := ho s rfl; rw [runsGo_on h' hb, ih (p + 1) (some s) (by omega) (fun s' e => by cases e; omega)]; simp only [Option.elim]; rw [mid_snoc l s p hs h, List.append_assoc]; rfl
    | false =>
      rw [if_neg (by decide)]
      cases o with
      | none => rw [runsGo_skip h' hb, ih (p + 1) none (by omega) (fun s e => by cases e)]; rfl
      | some s => rw [runsGo_shut h' hb, runsGo_skip h' hb, List.flatMap_cons, ih (p + 1) none (by omega) (fun s e => by cases e)]; rfl
section
end
end Go.Proofs.YtenfoaajipiehaaDoor.Q
