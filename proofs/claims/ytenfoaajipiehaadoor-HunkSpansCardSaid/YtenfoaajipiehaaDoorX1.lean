/- Contracts of strings.Index, strings.Contains and strings.Trim as the Lean functions of their names, at a text of one byte, or a set of ASCII bytes. -/
import Derived.Test.YtenfoaajipiehaaDoorQ0
import Derived.Test.YtenfoaajipiehaaDoorShelf
namespace Go.Proofs.YtenfoaajipiehaaDoor.Q
open Go.RowKit Go.Shelf Go.Proofs.YtenfoaajipiehaaDoorW.PrintWords
/-- strings.Index at a text of one byte. -/
def strings_Index.f (a0 a1 : ByteArray) : Option Int :=
  if a1.size = 1 then some (Lib.indexByte a0.data.toList (a1.data.toList.getD 0 0)) else none
theorem one_byte {a : ByteArray} (h : a.size = 1) : a = ⟨#[a.data.toList.getD 0 0]⟩ := by
  obtain ⟨⟨l⟩⟩ := a
  match l, h with
  | [x], _ => rfl
theorem strings_Index.calls (a0 a1 : ByteArray) (r : Int) (w : World) (h : strings_Index.f a0 a1 = some r) :
    Calls Tryd.prog 57 #[.string a0, .string a1] w fun e w' => e = .returned (.int .i64 r) ∧ Drawn0 w w' := by
  unfold strings_Index.f at h
  by_cases h1 : a1.size = 1
  · rw [if_pos h1] at h
    obtain rfl := Option.some.inj h
    have e := one_byte h1
    generalize a1.data.toList.getD 0 0 = c at e ⊢
    subst e
    refine (Tryd.strings_Index_one a0 c w).mono ?_
    rintro e w' ⟨rfl, rfl⟩
    exact ⟨rfl, Drawn0.refl _⟩
  · rw [if_neg h1] at h
    cases h

/-- strings.Contains at a text of one byte. -/
def strings_Contains.f (a0 a1 : ByteArray) : Option Bool :=
  if a1.size = 1 then some (decide (0 ≤ Lib.indexByte a0.data.toList (a1.data.toList.getD 0 0))) else none
theorem strings_Contains.calls (a0 a1 : ByteArray) (r : Bool) (w : World) (h : strings_Contains.f a0 a1 = some r) :
    Calls Tryd.prog 37 #[.string a0, .string a1] w fun e w' => e = .returned (.bool r) ∧ Drawn0 w w' := by
  unfold strings_Contains.f at h
  by_cases h1 : a1.size = 1
  · rw [if_pos h1] at h
    obtain rfl := Option.some.inj h
    have e := one_byte h1
    generalize a1.data.toList.getD 0 0 = c at e ⊢
    subst e
    refine (Tryd.strings_Contains_one a0 c w).mono ?_
    rintro e w' ⟨rfl, rfl⟩
    exact ⟨rfl, Drawn0.refl _⟩
  · rw [if_neg h1] at h
    cases h

/-- strings.Trim at a set of ASCII bytes. -/
def strings_Trim.f (a0 a1 : ByteArray) : Option ByteArray :=
  if a0.size ≤ 9223372036854775807 ∧ a1.size < 4294967281 ∧ (a1.data.toList.all fun b => b.toNat < 128) = true then some ⟨(Lib.trimS a0.data.toList a1.data.toList).toArray⟩ else none
theorem strings_Trim.calls (a0 a1 : ByteArray) (r : ByteArray) (w : World) (h : strings_Trim.f a0 a1 = some r) :
    Calls Tryd.prog 39 #[.string a0, .string a1] w fun e w' => e = .returned (.string r) ∧ Below w.heap.size w w' := by
  unfold strings_Trim.f at h
  by_cases h1 : a0.size ≤ 9223372036854775807 ∧ a1.size < 4294967281 ∧ (a1.data.toList.all fun b => b.toNat < 128) = true
  · rw [if_pos h1] at h
    obtain rfl := Option.some.inj h
    exact (Any.strings_Trim_laid Tryd.lays160 (by kernel_rfl) a0 a1 w h1.1 h1.2.1 (fun j b hb => by
      have := List.all_eq_true.1 h1.2.2 b (List.mem_of_getElem? hb)
      simpa using this)).mono fun e w' he => he
  · rw [if_neg h1] at h
    cases h
end Go.Proofs.YtenfoaajipiehaaDoor.Q
