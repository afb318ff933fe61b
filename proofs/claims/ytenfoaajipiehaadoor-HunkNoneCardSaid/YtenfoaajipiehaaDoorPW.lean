/- Lists of texts, and lists of such lists, that came in are read. -/
import Derived.Test.YtenfoaajipiehaaDoorPG
namespace Go.Proofs.YtenfoaajipiehaaDoor.Q
open Go.RowKit Go.Shelf Go.Deep Go.Proofs.YtenfoaajipiehaaDoorW.PrintWords
theorem open_strs {H : Type} {enc : TypeId × Value → H} {W : World} {base fuel : Nat} {spare : Nat → Bool} {held : Bool} {cs : List Value} {x : DataW H × List MemPlace} (h : DataW.trod enc Tryd.prog W base spare held fuel 44 cs = some x) :
    ∃ (A : Option Addr) (cap : Nat) (l : List ByteArray), cs = [.slice A l.length cap] ∧ l.length ≤ cap ∧ Kd.C Kd.string W A l.length l := by
  rcases open_slice1 Tryd.underlying44 (by kernel_rfl) h with ⟨hcs, _⟩ | ⟨a, len, cap, m, n, V, D, Pl, hcs, _, hl, hm, hmm, _, hE⟩
  · exact ⟨none, 0, [], hcs, Nat.le_refl _, Kd.C_nil Kd.string W⟩
  · have hlm : len ≤ m := by rw [hmm]; split <;> omega
    obtain ⟨l, hL⟩ : ∃ l, l = (List.range len).map fun i => strOf (V i) := ⟨_, rfl⟩
    have hll : l.length = len := by rw [hL]; simp
    refine ⟨some a, cap, l, by rw [hll]; exact hcs, by omega, rfl, by unfold maxLen at hm; omega, fun _ => ⟨a, rfl, fun j p hj => ?_⟩⟩
    have hjl : j < len := by have := (List.getElem?_eq_some_iff.1 hj).1; omega
    obtain ⟨h0, t0⟩ := hE j (by omega)
    obtain ⟨s0, e0, -⟩ := DataW.trod_string Tryd.underlying9 t0
    have hp : p = s0 := by
      rw [hL, List.getElem?_map, List.getElem?_range hjl] at hj
      simp only [Option.map_some, Option.some.injEq] at hj
      rw [← hj, (List.cons.inj e0).1]
      rfl
    subst hp
    refine ⟨[.string p], rfl, rfl, fun i u hu => ?_⟩
    rw [(List.cons.inj e0).1] at h0
    match i, hu with
    | 0, hu => simp at hu; subst hu; show W.cell? (a.add (j * 1 + 0)) = _; rw [Nat.mul_one, Nat.add_zero]; exact h0
    | i + 1, hu => simp at hu
theorem open_strss {H : Type} {enc : TypeId × Value → H} {W : World} {base fuel : Nat} {spare : Nat → Bool} {held : Bool} {cs : List Value} {x : DataW H × List MemPlace} (h : DataW.trod enc Tryd.prog W base spare held fuel 49 cs = some x) :
    ∃ (A : Option Addr) (cap : Nat) (l : List (List ByteArray)), cs = [.slice A l.length cap] ∧ l.length ≤ cap ∧ Kd.C (Kd.slice 9 Kd.string) W A l.length l := by
  rcases open_slice1 Tryd.underlying49 (by kernel_rfl) h with ⟨hcs, _⟩ | ⟨a, len, cap, m, n, V, D, Pl, hcs, _, hl, hm, hmm, _, hE⟩
  · exact ⟨none, 0, [], hcs, Nat.le_refl _, Kd.C_nil (Kd.slice 9 Kd.string) W⟩
  · have hlm : len ≤ m := by rw [hmm]; split <;> omega
    have hex : ∀ i : Nat, ∃ l : List ByteArray, i < len → W.cell? (a.add i) = some (V i) ∧ ∃ A c, V i = .slice A l.length c ∧ l.length ≤ c ∧ Kd.C Kd.string W A l.length l := by
      intro i
      by_cases hi : i < len
      · obtain ⟨h0, t0⟩ := hE i (by omega)
        obtain ⟨A, c, l, e, hle, hC⟩ := open_strs t0
        exact ⟨l, fun _ => ⟨h0, A, c, (List.cons.inj e).1, hle, hC⟩⟩
      · exact ⟨[], fun h => absurd h hi⟩
    obtain ⟨f, hf⟩ := Classical.axiomOfChoice hex
    obtain ⟨l, hL⟩ : ∃ l, l = (List.range len).map f := ⟨_, rfl⟩
    have hll : l.length = len := by rw [hL]; simp
    refine ⟨some a, cap, l, by rw [hll]; exact hcs, by omega, rfl, by unfold maxLen at hm; omega, fun _ => ⟨a, rfl, fun j p hj => ?_⟩⟩
    have hjl : j < len := by have := (List.getElem?_eq_some_iff.1 hj).1; omega
    have hp : f j = p := by
      rw [hL, List.getElem?_map, List.getElem?_range hjl] at hj
      simpa using hj
    obtain ⟨h0, A, c, e, hle, hC⟩ := hf j hjl
    rw [hp] at e hle hC
    refine ⟨[.slice A p.length c], rfl, ⟨A, c, rfl, hle, hC⟩, fun i u hu => ?_⟩
    rw [e] at h0
    match i, hu with
    | 0, hu => simp at hu; subst hu; show W.cell? (a.add (j * 1 + 0)) = _; rw [Nat.mul_one, Nat.add_zero]; exact h0
    | i + 1, hu => simp at hu
end Go.Proofs.YtenfoaajipiehaaDoor.Q
