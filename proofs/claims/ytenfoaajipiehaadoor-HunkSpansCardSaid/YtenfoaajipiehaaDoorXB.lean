/- Contracts of the program's functions that were walked by hand, as the Lean functions of their names. -/
import Derived.Test.YtenfoaajipiehaaDoorX9
namespace Go.Proofs.YtenfoaajipiehaaDoor.Q
set_option linter.unusedVariables false
open Go.RowKit Go.Shelf Go.Proofs.YtenfoaajipiehaaDoorW.PrintWords
def hunk_Groups.f (l0 : List S41) : Option (List S36) := if l0.length ≤ 1000000 ∧ ∀ x ∈ l0, x.f0.size ≤ 4000000000 then some (groupsL l0) else none
theorem hunk_Groups.calls (A0 : Option Addr) (c0 : Nat) (l0 : List S41) (r : List S36) (w : World) (hr0 : Kd.C k41 w A0 l0.length l0) (hc0 : l0.length ≤ c0) (h : hunk_Groups.f l0 = some r) :
    Calls Tryd.prog 15 #[.slice A0 l0.length c0] w fun e w' => ∃ v0_ : Value, e = .returned (v0_) ∧ Kd.R k36 36 w' w.heap.size (fun _ => True) v0_ r ∧ Below w.heap.size w w' := by
  unfold hunk_Groups.f at h
  by_cases hc : l0.length ≤ 1000000 ∧ ∀ x ∈ l0, x.f0.size ≤ 4000000000
  · rw [if_pos hc] at h
    obtain rfl := Option.some.inj h
    exact hunk_Groups_at A0 c0 l0 w hr0 hc.1 hc.2
  · rw [if_neg hc] at h; cases h

def hunk_Dull.f (l0 : List S41) : Option Bool := if l0.length ≤ 1000000 ∧ ∀ x ∈ l0, x.f0.size ≤ 4000000000 then some (dullB l0) else none
theorem hunk_Dull.calls (A0 : Option Addr) (c0 : Nat) (l0 : List S41) (r : Bool) (w : World) (hr0 : Kd.C k41 w A0 l0.length l0) (hc0 : l0.length ≤ c0) (hmx : MaxOk w) (h : hunk_Dull.f l0 = some r) :
    Calls Tryd.prog 17 #[.slice A0 l0.length c0] w fun e w' => e = .returned (.bool r) ∧ Below w.heap.size w w' := by
  unfold hunk_Dull.f at h
  by_cases hc : l0.length ≤ 1000000 ∧ ∀ x ∈ l0, x.f0.size ≤ 4000000000
  · rw [if_pos hc] at h
    obtain rfl := Option.some.inj h
    exact hunk_Dull_at A0 c0 l0 w hr0 (by omega) hmx hc.2
  · rw [if_neg hc] at h; cases h

def table_Result.f (l0 : List S41) : Option (List ByteArray) := if l0.length ≤ 1000000 then some ((l0.filter fun x => !lostB x).map (·.f1)) else none
theorem table_Result.calls (A0 : Option Addr) (c0 : Nat) (l0 : List S41) (r : List ByteArray) (w : World) (hr0 : Kd.C k41 w A0 l0.length l0) (hc0 : l0.length ≤ c0) (h : table_Result.f l0 = some r) :
    Calls Tryd.prog 22 #[.slice A0 l0.length c0] w fun e w' => ∃ v0_ : Value, e = .returned (v0_) ∧ Kd.R Kd.string 9 w' w.heap.size (fun _ => True) v0_ r ∧ Below w.heap.size w w' := by
  unfold table_Result.f at h
  by_cases hc : l0.length ≤ 1000000
  · rw [if_pos hc] at h
    obtain rfl := Option.some.inj h
    exact table_Result_at A0 c0 l0 w hr0 (by omega)
  · rw [if_neg hc] at h; cases h

def table_Column.f (l0 : List S41) (a1 : Int) : Option (List ByteArray) := if l0.length ≤ 1000000 then some ((l0.filter (ofB a1)).map (·.f1)) else none
theorem table_Column.calls (A0 : Option Addr) (c0 : Nat) (l0 : List S41) (a1 : Int) (r : List ByteArray) (w : World) (hr0 : Kd.C k41 w A0 l0.length l0) (hc0 : l0.length ≤ c0) (h : table_Column.f l0 a1 = some r) :
    Calls Tryd.prog 23 #[.slice A0 l0.length c0, .int .i64 a1] w fun e w' => ∃ v0_ : Value, e = .returned (v0_) ∧ Kd.R Kd.string 9 w' w.heap.size (fun _ => True) v0_ r ∧ Below w.heap.size w w' := by
  unfold table_Column.f at h
  by_cases hc : l0.length ≤ 1000000
  · rw [if_pos hc] at h
    obtain rfl := Option.some.inj h
    exact table_Column_at A0 c0 l0 a1 w hr0 (by omega)
  · rw [if_neg hc] at h; cases h
end Go.Proofs.YtenfoaajipiehaaDoor.Q
