/- The law HunkGroups, as a Lean function, is true at every input. -/
import Derived.Test.YtenfoaajipiehaaDoorR3
import Derived.Test.YtenfoaajipiehaaDoorPE
import Derived.Test.YtenfoaajipiehaaDoorR11
namespace Go.Proofs.YtenfoaajipiehaaDoor.Q
set_option linter.unusedVariables false
set_option linter.unusedSimpArgs false
open Go.RowKit Go.Shelf Go.Proofs.YtenfoaajipiehaaDoorW.PrintWords
theorem even_of_may (l : List S41) (h : mayB l = true) : Even (marksOf l).toNat l := by
  intro x hx
  have := List.all_eq_true.1 h x hx
  simp only [mayRow, Bool.and_eq_true, decide_eq_true_eq] at this
  obtain ⟨h1, h2, h3, h4, -⟩ := this
  exact ⟨by omega, h3⟩
theorem even_mid {l : List S41} {n a b : Nat} (h : Even n l) : Even n ((l.take b).drop a) := fun x hx => h x (List.mem_of_mem_take (List.mem_of_mem_drop hx))
theorem marks_le (l : List S41) (hf : FewP l) : (marksOf l).toNat ≤ 20 := by
  unfold marksOf
  rcases Nat.eq_zero_or_pos l.length with h | h
  · rw [List.length_eq_zero_iff.1 h]; decide
  · rw [show (0 : Int) = ((0 : Nat) : Int) from rfl, rd_at h]
    have := (hf.2 _ (List.getElem_mem h)).1
    omega
theorem dulls (l : List S41) (n : Nat) (hl : l.length ≤ 40) (hn : n ≤ 20) (hE : Even n l) (k : Nat) (hk : 900 ≤ k) : hunk_Dull.f l = some (dullB l) ∧ sennitref21_Dull.f k l = some (dullB l) :=
  ⟨by unfold hunk_Dull.f; rw [if_pos ⟨by omega, fun x hx => by have := (hE x hx).1; omega⟩], refDull_f l n hl hn hE k hk⟩
theorem rd36_at {l : List S36} {i : Nat} (h : i < l.length) : rd_T36 l (i : Int) = l[i] := by simp [rd_T36, List.getD_eq_getElem?_getD, h]

theorem groups_loop (l : List S41) (hf : FewP l) : ∀ (m i k : Nat), i + m = (groupsL l).length → m + 1000 < k → sennitlaw21_HunkGroups.l0 k l true (mayB l) (groupsL l) (groupsL l) i = some true := by
  intro m
  have hn := marks_le l hf
  have hl := hf.1
  have hg := groupsL_length l
  induction m with
  | zero =>
    intro i k hi hk
    obtain ⟨k, rfl⟩ : ∃ k', k = k' + 1 := ⟨k - 1, by omega⟩
    rw [sennitlaw21_HunkGroups.l0, if_neg (by omega), if_pos rfl, hunkMay_f l hf k (by omega)]
    simp only [Option.bind_some, beq_self_eq_true, if_true]
    cases hm : mayB l with
    | false => rfl
    | true =>
      obtain ⟨h1, h2⟩ := dulls l _ hf.1 hn (even_of_may l hm) k (by omega)
      rw [if_pos rfl, h1, h2]
      simp only [Option.bind_some, beq_self_eq_true]
  | succ m ih =>
    intro i k hi hk
    obtain ⟨k, rfl⟩ : ∃ k', k = k' + 1 := ⟨k - 1, by omega⟩
    have hlt : i < (groupsL l).length := by omega
    have hin := groupsL_in l _ (List.getElem_mem hlt)
    have hI := ih (i + 1) k (by omega) (by omega)
    rw [sennitlaw21_HunkGroups.l0, if_pos (by omega), if_pos (by omega), if_pos (by omega), w64 _ (by omega), rd36_at hlt]
    simp only [beq_self_eq_true, Bool.not_true, Bool.or_self]
    rw [if_neg (by decide)]
    cases hm : mayB l with
    | false =>
      rw [hm] at hI
      rw [if_neg (by decide)]; exact hI
    | true =>
      rw [hm] at hI
      obtain ⟨h1, h2⟩ := dulls ((l.take ((groupsL l)[i].f1).toNat).drop ((groupsL l)[i].f0).toNat) _ (by rw [List.length_drop, List.length_take]; omega) hn (even_mid (even_of_may l hm)) k (by omega)
      rw [if_pos rfl, if_pos hin.1, if_pos hin.2.1, if_pos hin.2.2, h1, h2]
      simp only [Option.bind_some, bne_self_eq_false]
      rw [if_neg (by decide)]; exact hI
theorem hunkGroups_true (l : List S41) : ∃ k, sennitlaw21_HunkGroups.f k l = some true := by
  refine ⟨3000, ?_⟩
  obtain ⟨b, h1, h2⟩ := few_f l
  have ha := upk (f := fun k => sennitlaw21_awake.f k) (fun k => sennitlaw21_awake.mono k) awake_true 3000 (by omega)
  unfold sennitlaw21_HunkGroups.f
  rw [show sennitlaw21_awake.f 3000 = some true from ha, h1 3000 (by omega)]
  simp only [Option.bind_some]
  cases b with
  | false => rfl
  | true =>
    have hf := h2 rfl
    have hl := hf.1
    have hs : ∀ x ∈ l, x.f0.size ≤ 1000 := fun x hx => by have := (hf.2 x hx).1; omega
    have hG : hunk_Groups.f l = some (groupsL l) := by unfold hunk_Groups.f; rw [if_pos ⟨by omega, fun x hx => by have := (hf.2 x hx).1; omega⟩]
    rw [if_pos rfl, refMay_f l hf 3000 (by omega), hG, groups_f l (by omega) hs 3000 (by omega)]
    simp only [Option.bind_some, if_true]
    exact groups_loop l hf (groupsL l).length 0 3000 (by omega) (by have := groupsL_length l; omega)
end Go.Proofs.YtenfoaajipiehaaDoor.Q
