/- What the reference says of few rows, of marked rows and of groups, as total Lean functions; no program in sight. -/
import Derived.Test.YtenfoaajipiehaaDoorR10
import Derived.Test.YtenfoaajipiehaaDoorXB
namespace Go.Proofs.YtenfoaajipiehaaDoor.Q
set_option linter.unusedVariables false
set_option linter.unusedSimpArgs false
open Go.RowKit Go.Shelf Go.Proofs.YtenfoaajipiehaaDoorW.PrintWords
theorem upk {α : Type} {f : Nat → Option α} (h : ∀ k, LeO (f k) (f (k + 1))) {k : Nat} {r : α} (hk : f k = some r) : ∀ k', k ≤ k' → f k' = some r := by
  intro k' hkk
  obtain ⟨d, rfl⟩ := Nat.exists_eq_add_of_le hkk
  induction d with
  | zero => exact hk
  | succ d ih => exact h _ _ (ih (by omega))

/-- Few rows, and none is long. -/
def FewP (l : List S41) : Prop := l.length ≤ 40 ∧ ∀ x ∈ l, x.f0.size ≤ 20 ∧ x.f1.size ≤ 100
theorem few_l0 (l : List S41) : ∀ (n i k : Nat), i + n = 41 → i ≤ l.length → 2 * n + 2 ≤ k → (∀ x ∈ l.take i, x.f0.size ≤ 20 ∧ x.f1.size ≤ 100) → ∃ b, sennitref21_Few.l0 k l i = some b ∧ (b = true → FewP l) := by
  intro n
  induction n with
  | zero =>
    intro i k hi hil hk hx
    obtain ⟨k, rfl⟩ : ∃ k', k = k' + 2 := ⟨k - 2, by omega⟩
    have e : decide ((i : Int) < 41) = false := decide_eq_false (by omega)
    refine ⟨decide ((l.length : Int) ≤ 40), ?_, fun h => by have := of_decide_eq_true h; omega⟩
    rw [sennitref21_Few.l0]
    split
    · rw [e, sennitref21_Few.j1, if_neg (by decide)]
    · rw [sennitref21_Few.j1, if_neg (by decide)]
  | succ n ih =>
    intro i k hi hil hk hx
    obtain ⟨k, rfl⟩ : ∃ k', k = k' + 2 := ⟨k - 2, by omega⟩
    by_cases hlt : i < l.length
    · have e : decide ((i : Int) < 41) = true := decide_eq_true (by omega)
      rw [sennitref21_Few.l0, if_pos (by omega), e, sennitref21_Few.j1, if_pos rfl, if_pos (by omega), if_pos (by omega), rd_at hlt]
      by_cases h1 : ((l[i].f0.size : Nat) : Int) > 20
      · exact ⟨false, by rw [if_pos h1], fun h => by cases h⟩
      · rw [if_neg h1]
        by_cases h2 : ((l[i].f1.size : Nat) : Int) > 100
        · exact ⟨false, by rw [if_pos h2], fun h => by cases h⟩
        · rw [if_neg h2, w64 _ (by omega)]
          exact ih (i + 1) k (by omega) (by omega) (by omega) (fun x hxm => by
            rw [List.take_succ_eq_append_getElem hlt] at hxm
            rcases List.mem_append.1 hxm with h | h
            · exact hx x h
            · rw [List.mem_singleton.1 h]; omega)
    · have e : i = l.length := by omega
      subst e
      rw [sennitref21_Few.l0, if_neg (by omega), sennitref21_Few.j1, if_neg (by decide)]
      exact ⟨_, rfl, fun h => ⟨by have := of_decide_eq_true h; omega, fun x hxm => hx x (by rw [List.take_length]; exact hxm)⟩⟩
theorem few_f (l : List S41) : ∃ b, (∀ k, 84 ≤ k → sennitref21_Few.f k l = some b) ∧ (b = true → FewP l) := by
  obtain ⟨b, h1, h2⟩ := few_l0 l 41 0 84 (by omega) (Nat.zero_le _) (by omega) (fun x hx => by rw [List.take_zero] at hx; cases hx)
  exact ⟨b, upk (f := fun k => sennitref21_Few.f k l) (fun k => sennitref21_Few.mono l k) h1, h2⟩

theorem bt_get (s : ByteArray) (i : Nat) (h : i < s.data.toList.length) : bt s (i : Int) = (s.data.toList[i]).toNat := by
  have h2 : i < s.size := h
  unfold bt
  rw [dif_pos (show ((i : Int)).toNat < s.size by rw [Int.toNat_natCast]; exact h2)]
  rfl
theorem byte_eq (b c : UInt8) (n : Int) (hc : (c.toNat : Int) = n) : ((b.toNat : Int) = n) ↔ b = c := by
  constructor
  · intro h; apply UInt8.toNat_inj.1; omega
  · intro h; subst h; exact hc
section
end
end Go.Proofs.YtenfoaajipiehaaDoor.Q
