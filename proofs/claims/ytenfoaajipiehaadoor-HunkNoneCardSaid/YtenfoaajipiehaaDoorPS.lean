/- The reference's pairing of two lists of numbers, as far as the law HunkNone asks: how long it is, and that it rises; what is lost ahead of a line. -/
import Derived.Lib.Hide
import Derived.Test.YtenfoaajipiehaaDoorPR
namespace Go.Proofs.YtenfoaajipiehaaDoor.Q
set_option linter.unusedVariables false
set_option linter.unusedSimpArgs false
open Go.RowKit Go.Shelf Go.Proofs.YtenfoaajipiehaaDoorW.PrintWords
theorem w1 (i : Nat) (h : i < 1000000) : wrap64 ((i : Int) + 1) = ((i + 1 : Nat) : Int) := by rw [w64 _ (by omega)]; omega
theorem rd_lt {v : List Int} {x : Int} {q : Nat} (h : q < v.length) : rd (v ++ [x]) (q : Int) = rd v (q : Int) := by
  rw [rdI (by simp; omega), rdI h, List.getElem_append_left h]
theorem rd_eq {v : List Int} {x : Int} : rd (v ++ [x]) (v.length : Int) = x := by
  rw [rdI (by simp), List.getElem_append_right (Nat.le_refl _)]; simp
section
variable (a b : List Int) (ha : a.length ≤ 200) (hb : b.length ≤ 200)
include ha hb
/-- Where the cells of a row stand. -/
theorem cells_w (i j : Nat) (hi : i < a.length) (hj : j < b.length) : ∃ P Q : Nat, P + (b.length + 1) ≤ Q ∧ Q ≤ 100000 ∧ (a.length + 1) * (b.length + 1) = Q + (b.length + 1) ∧
    wrap64 ((i : Int) + 1) = ((i + 1 : Nat) : Int) ∧ wrap64 (((i + 1 : Nat) : Int) * ((b.length + 1 : Nat) : Int)) = ((P + (b.length + 1) : Nat) : Int) ∧ wrap64 (((P + (b.length + 1) : Nat) : Int) + (j : Int)) = ((P + (b.length + 1) + j : Nat) : Int) ∧
    wrap64 ((i : Int) * ((b.length + 1 : Nat) : Int)) = ((P : Nat) : Int) ∧ wrap64 (((P : Nat) : Int) + (j : Int)) = ((P + j : Nat) : Int) ∧ wrap64 (((P + j : Nat) : Int) + 1) = ((P + j + 1 : Nat) : Int) ∧ wrap64 (((P + (b.length + 1) + j : Nat) : Int) + 1) = ((P + (b.length + 1) + j + 1 : Nat) : Int) := by
  have h1 : i * (b.length + 1) + (b.length + 1) ≤ a.length * (b.length + 1) := by
    rw [← Nat.succ_mul]; exact Nat.mul_le_mul_right _ hi
  have h2 : a.length * (b.length + 1) ≤ 200 * 201 := Nat.mul_le_mul ha (by omega)
  have h3 : (a.length + 1) * (b.length + 1) = a.length * (b.length + 1) + (b.length + 1) := Nat.succ_mul _ _
  have h4 : (i + 1) * (b.length + 1) = i * (b.length + 1) + (b.length + 1) := Nat.succ_mul _ _
  refine ⟨i * (b.length + 1), a.length * (b.length + 1), h1, by omega, h3, ?_, ?_, ?_, ?_, ?_, ?_, ?_⟩
  · rw [w64 _ (by omega)]; omega
  · rw [← Int.natCast_mul, h4, w64 _ (by omega)]
  · rw [w64 _ (by omega)]; omega
  · rw [← Int.natCast_mul, w64 _ (by omega)]
  · rw [w64 _ (by omega)]; omega
  · rw [w64 _ (by omega)]; omega
  · rw [w64 _ (by omega)]; omega
theorem rest_l : ∀ (d k : Nat) (l : List Int), d ≤ a.length → 210 * d + 5 < k → l.length = (a.length + 1) * (b.length + 1) → ∃ out, sennitref03_rest.l0 k a b ((b.length + 1 : Nat) : Int) l ((d : Int) - 1) = some out ∧ out.length = (a.length + 1) * (b.length + 1) := by
  intro d
  induction d with
  | zero =>
    intro k l hd hk hl
    obtain ⟨k, rfl⟩ : ∃ k', k = k' + 1 := ⟨k - 1, by omega⟩
    rw [sennitref03_rest.l0, if_neg (by omega)]
    exact ⟨l, rfl, hl⟩
  | succ i ih =>
    intro k l hd hk hl
    obtain ⟨k, rfl⟩ : ∃ k', k = k' + 1 := ⟨k - 1, by omega⟩
    have hi : i < a.length := by omega
    have ei : (((i + 1 : Nat) : Int) - 1) = (i : Int) := by omega
    have hl1 : ∀ (c k : Nat) (l : List Int), c ≤ b.length → 210 * i + c + 6 < k → l.length = (a.length + 1) * (b.length + 1) → ∃ out, sennitref03_rest.l1 k a b ((b.length + 1 : Nat) : Int) l (i : Int) ((c : Int) - 1) = some out ∧ out.length = (a.length + 1) * (b.length + 1) := by
      intro c
      induction c with
      | zero =>
        intro k l hc hk hl
        obtain ⟨k, rfl⟩ : ∃ k', k = k' + 1 := ⟨k - 1, by omega⟩
        rw [sennitref03_rest.l1, if_neg (by omega), w64 _ (by omega)]
        exact ih k l (by omega) (by omega) hl
      | succ j ihc =>
        intro k l hc hk hl
        obtain ⟨k, rfl⟩ : ∃ k', k = k' + 1 := ⟨k - 1, by omega⟩
        have hj : j < b.length := by omega
        have ej : (((j + 1 : Nat) : Int) - 1) = (j : Int) := by omega
        have ew : wrap64 ((j : Int) - 1) = ((j : Nat) : Int) - 1 := w64 _ (by omega)
        rw [ej, sennitref03_rest.l1, if_pos (by omega)]
        obtain ⟨P, Q, q1, q2, q3, e1, e2, e3, e4, e5, e6, e7⟩ := cells_w a b ha hb i j hi hj
        simp only [e1, e2, e3, e4, e5, e6, e7, ew]
        clear e1 e2 e3 e4 e5 e6 e7 ew ej
        rw [if_pos (by omega), if_pos (by omega), if_pos (by omega), if_pos (by omega), if_pos (by omega), if_pos (by omega), if_pos (by omega), if_pos (by omega)]
        split
        · rw [if_pos (by omega), if_pos (by omega), if_pos (by omega), if_pos (by omega)]
          exact ihc k _ (by omega) (by omega) (by rw [List.length_set]; exact hl)
        · rw [if_pos (by omega), if_pos (by omega)]
          exact ihc k _ (by omega) (by omega) (by rw [List.length_set]; exact hl)
    rw [ei, sennitref03_rest.l0, if_pos (by omega), w64 _ (by omega)]
    exact hl1 b.length k l (Nat.le_refl _) (by omega) hl
theorem rest_f (k : Nat) (hk : 45000 ≤ k) : ∃ out, sennitref03_rest.f k a b = some out ∧ out.length = (a.length + 1) * (b.length + 1) := by
  have h2 : (a.length + 1) * (b.length + 1) ≤ 201 * 201 := Nat.mul_le_mul (by omega) (by omega)
  have e1 : wrap64 ((a.length : Int) + 1) = ((a.length + 1 : Nat) : Int) := by rw [w64 _ (by omega)]; omega
  have e2 : wrap64 ((b.length : Int) + 1) = ((b.length + 1 : Nat) : Int) := by rw [w64 _ (by omega)]; omega
  have e3 : wrap64 (((a.length + 1 : Nat) : Int) * ((b.length + 1 : Nat) : Int)) = (((a.length + 1) * (b.length + 1) : Nat) : Int) := by rw [← Int.natCast_mul, w64 _ (by omega)]
  unfold sennitref03_rest.f
  simp only [e1, e2, e3, Int.toNat_natCast]
  rw [if_pos (by omega), if_pos (by omega), w64 _ (by omega)]
  exact rest_l a b ha hb a.length k _ (Nat.le_refl _) (by omega) (by rw [List.length_replicate])
end
/-- Places that rise, but for those that are none. -/
structure MOk (v : List Int) (j : Nat) : Prop where
  bd : ∀ q : Nat, q < v.length → -1 ≤ rd v (q : Int) ∧ rd v (q : Int) < j
  inc : ∀ p q : Nat, p < q → q < v.length → 0 ≤ rd v (p : Int) → 0 ≤ rd v (q : Int) → rd v (p : Int) < rd v (q : Int)
theorem MOk.none {v : List Int} {j : Nat} (h : MOk v j) : MOk (v ++ [-1]) j := by
  constructor
  · intro q hq
    rw [List.length_append] at hq
    by_cases e : q < v.length
    · rw [rd_lt e]; exact h.bd q e
    · obtain rfl : q = v.length := by simp at hq; omega
      rw [rd_eq]; omega
  · intro p q hpq hq hp0 hq0
    rw [List.length_append] at hq
    by_cases e : q < v.length
    · rw [rd_lt e] at hq0 ⊢; rw [rd_lt (by omega)] at hp0 ⊢; exact h.inc p q hpq e hp0 hq0
    · obtain rfl : q = v.length := by simp at hq; omega
      rw [rd_eq] at hq0; omega
theorem MOk.some {v : List Int} {j : Nat} (h : MOk v j) : MOk (v ++ [(j : Int)]) (j + 1) := by
  constructor
  · intro q hq
    rw [List.length_append] at hq
    by_cases e : q < v.length
    · rw [rd_lt e]; have := h.bd q e; omega
    · obtain rfl : q = v.length := by simp at hq; omega
      rw [rd_eq]; omega
  · intro p q hpq hq hp0 hq0
    rw [List.length_append] at hq
    by_cases e : q < v.length
    · rw [rd_lt e] at hq0 ⊢; rw [rd_lt (by omega)] at hp0 ⊢; exact h.inc p q hpq e hp0 hq0
    · obtain rfl : q = v.length := by simp at hq; omega
      rw [rd_lt (by omega)] at hp0 ⊢; rw [rd_eq]
      exact (h.bd p (by omega)).2
theorem MOk.mono {v : List Int} {j j' : Nat} (h : MOk v j) (hj : j ≤ j') : MOk v j' := ⟨fun q hq => by have := h.bd q hq; omega, h.inc⟩
section
variable (a b L : List Int) (ha : a.length ≤ 200) (hb : b.length ≤ 200) (hL : L.length = (a.length + 1) * (b.length + 1))
include ha hb hL
theorem match_l : ∀ (m i k j : Nat) (v : List Int), i + m = a.length → j ≤ b.length → 2 * m + (b.length - j) + 5 < k → v.length = i → MOk v j →
    ∃ out, sennitref03_Match.l0 k a b L ((b.length + 1 : Nat) : Int) v j i = some out ∧ out.length = a.length ∧ MOk out b.length := by
  intro m
  induction m with
  | zero =>
    intro i k j v hi hj hk hv hM
    obtain ⟨k, rfl⟩ : ∃ k', k = k' + 1 := ⟨k - 1, by omega⟩
    rw [sennitref03_Match.l0, if_neg (by omega)]
    exact ⟨v, rfl, by omega, hM.mono hj⟩
  | succ m ih =>
    intro i k j v hi hj hk hv hM
    obtain ⟨k, rfl⟩ : ∃ k', k = k' + 1 := ⟨k - 1, by omega⟩
    have hi2 : i < a.length := by omega
    have hl1 : ∀ (d k j : Nat), j + d = b.length → 2 * m + d + 6 < k → MOk v j → ∃ out, sennitref03_Match.l1 k a b L ((b.length + 1 : Nat) : Int) v j i (-1) = some out ∧ out.length = a.length ∧ MOk out b.length := by
      intro d
      induction d with
      | zero =>
        intro k j hj hk hM
        obtain ⟨k, rfl⟩ : ∃ k', k = k' + 1 := ⟨k - 1, by omega⟩
        rw [sennitref03_Match.l1, if_neg (by omega), if_pos (by omega), w1 i (by omega)]
        exact ih (i + 1) k j _ (by omega) (by omega) (by omega) (by simp; omega) hM.none
      | succ d ihd =>
        intro k j hj hk hM
        obtain ⟨k, rfl⟩ : ∃ k', k = k' + 1 := ⟨k - 1, by omega⟩
        have hjb : j < b.length := by omega
        have hwj := w1 j (by omega)
        have HW := Lib.hid hwj
        clear hwj
        rw [sennitref03_Match.l1, if_pos (by omega), if_pos (by omega), if_pos (by omega), if_pos (by omega)]
        obtain ⟨P, Q, q1, q2, q3, e1, e2, e3, e4, e5, e6, e7⟩ := cells_w a b ha hb i j hi2 hjb
        simp only [e1, e2, e3, e4, e5, e6, e7, HW.out]
        clear e1 e2 e3 e4 e5 e6 e7
        split
        · rw [if_pos (by omega)]
          exact ih (i + 1) k (j + 1) _ (by omega) (by omega) (by omega) (by simp; omega) hM.some
        · rw [if_pos (by omega), if_pos (by omega), if_pos (by omega), if_pos (by omega)]
          split
          · exact ihd k (j + 1) (by omega) (by omega) (hM.mono (by omega))
          · rw [if_pos (by omega)]
            exact ih (i + 1) k j _ (by omega) (by omega) (by omega) (by simp; omega) hM.none
    rw [sennitref03_Match.l0, if_pos (by omega)]
    exact hl1 (b.length - j) k j (by omega) (by omega) hM
end
theorem match_f (a b : List Int) (ha : a.length ≤ 200) (hb : b.length ≤ 200) (k : Nat) (hk : 45000 ≤ k) : ∃ out, sennitref03_Match.f k a b = some out ∧ out.length = a.length ∧ MOk out b.length := by
  obtain ⟨L, h1, h2⟩ := rest_f a b ha hb k hk
  have e2 : wrap64 ((b.length : Int) + 1) = ((b.length + 1 : Nat) : Int) := by rw [w64 _ (by omega)]; omega
  unfold sennitref03_Match.f
  rw [h1, Option.bind_some, e2]
  exact match_l a b L ha hb h2 a.length 0 k 0 [] (by omega) (by omega) (by omega) rfl ⟨fun q hq => by simp at hq, fun p q _ hq => by simp at hq⟩

/-- Where what is lost ahead of a line ends. -/
def hiT (v : List Int) (n : Nat) : Nat → Nat → Nat
  | 0, _ => n
  | d + 1, i => if 0 ≤ rd v (i : Int) then (rd v (i : Int)).toNat else hiT v n d (i + 1)
/-- What is lost ahead of a line. -/
def lostL (p : List ByteArray) (v : List Int) (i : Nat) : List ByteArray :=
  if i = 0 then p.take (hiT v p.length v.length 0) else if rd v ((i - 1 : Nat) : Int) = -1 then [] else (p.take (hiT v p.length (v.length - i) i)).drop (rd v ((i - 1 : Nat) : Int) + 1).toNat
section
variable (v : List Int) (n : Nat) (hM : MOk v n)
include hM
theorem hiT_le : ∀ (d i : Nat), i + d = v.length → hiT v n d i ≤ n := by
  intro d
  induction d with
  | zero => intro i hi; exact Nat.le_refl _
  | succ d ih =>
    intro i hi
    have := hM.bd i (by omega)
    simp only [hiT]
    split
    · omega
    · exact ih (i + 1) (by omega)
theorem hiT_gt (p : Nat) (h0 : 0 ≤ rd v (p : Int)) : ∀ (d i : Nat), i + d = v.length → p < i → p < v.length → rd v (p : Int) < hiT v n d i := by
  intro d
  induction d with
  | zero => intro i hi hp hpl; have := hM.bd p hpl; simp only [hiT]; omega
  | succ d ih =>
    intro i hi hp hpl
    simp only [hiT]
    split
    · rename_i h
      have := hM.inc p i hp (by omega) h0 h
      omega
    · exact ih (i + 1) (by omega) (by omega) hpl
end
section
variable (p : List ByteArray) (v : List Int) (hM : MOk v p.length) (hv : v.length ≤ 200)
include hM hv
theorem lost20_l0 (i fr : Nat) (hi : i ≤ v.length) (hfr : fr ≤ hiT v p.length (v.length - i) i) : ∀ (c k : Nat), i + c ≤ v.length → c + 5 < k →
    sennitref20_lost.l0 k p v i fr ((hiT v p.length (v.length - (i + c)) (i + c) : Nat) : Int) (((i + c : Nat) : Int) - 1) = some ((p.take (hiT v p.length (v.length - i) i)).drop fr) := by
  intro c
  induction c with
  | zero =>
    intro k hc hk
    obtain ⟨k, rfl⟩ : ∃ k', k = k' + 1 := ⟨k - 1, by omega⟩
    have h1 := hiT_le v p.length hM (v.length - i) i (by omega)
    simp only [Nat.add_zero]
    rw [sennitref20_lost.l0, if_neg (by omega), if_pos (by omega), if_pos (by omega), if_pos (by omega), Int.toNat_natCast, Int.toNat_natCast]
  | succ c ih =>
    intro k hc hk
    obtain ⟨k, rfl⟩ : ∃ k', k = k' + 1 := ⟨k - 1, by omega⟩
    have e : (((i + (c + 1) : Nat) : Int) - 1) = ((i + c : Nat) : Int) := by omega
    have hI := ih k (by omega) (by omega)
    have hT : hiT v p.length (v.length - (i + c)) (i + c) = if 0 ≤ rd v ((i + c : Nat) : Int) then (rd v ((i + c : Nat) : Int)).toNat else hiT v p.length (v.length - (i + (c + 1))) (i + (c + 1)) := by
      rw [show v.length - (i + c) = (v.length - (i + (c + 1))) + 1 by omega]
      rfl
    rw [e, sennitref20_lost.l0, if_pos (by omega), if_pos (by omega), if_pos (by omega), w64 _ (by omega)]
    split
    · rename_i h
      rw [hT, if_pos h, Int.toNat_of_nonneg h] at hI
      exact hI
    · rename_i h
      rw [hT, if_neg h] at hI
      exact hI
theorem lost20_f (hp : p.length ≤ 200) (i : Nat) (hi : i ≤ v.length) (k : Nat) (hk : 300 ≤ k) : sennitref20_lost.f k p v i = some (lostL p v i) := by
  obtain ⟨k, rfl⟩ : ∃ k', k = k' + 1 := ⟨k - 1, by omega⟩
  have hj : ∀ fr : Nat, fr ≤ hiT v p.length (v.length - i) i → sennitref20_lost.j0 (k + 1) p v i fr = some ((p.take (hiT v p.length (v.length - i) i)).drop fr) := by
    intro fr hfr
    have h := lost20_l0 p v hM hv i fr hi hfr (v.length - i) k (by omega) (by omega)
    rw [show i + (v.length - i) = v.length by omega, Nat.sub_self] at h
    rw [sennitref20_lost.j0, w64 _ (by omega)]
    exact h
  unfold sennitref20_lost.f lostL
  by_cases h0 : i = 0
  · subst h0
    rw [if_neg (by omega), if_pos rfl]
    exact (hj 0 (Nat.zero_le _)).trans (by simp)
  · rw [if_pos (by omega), w64 _ (by omega), if_pos (by omega), if_pos (by omega), if_neg h0, show ((i : Int) - 1) = ((i - 1 : Nat) : Int) by omega]
    have hb := hM.bd (i - 1) (by omega)
    by_cases h1 : rd v ((i - 1 : Nat) : Int) = -1
    · rw [if_pos h1, if_pos h1]
    · have hg := hiT_gt v p.length hM (i - 1) (by omega) (v.length - i) i (by omega) (by omega) (by omega)
      rw [if_neg h1, if_neg h1, w64 _ (by omega), show (rd v ((i - 1 : Nat) : Int) + 1) = (((rd v ((i - 1 : Nat) : Int) + 1).toNat : Nat) : Int) by omega]
      rw [hj _ (by omega), Int.toNat_natCast]
end
/-- All that is lost, up to a line. -/
def lostSum (p : List ByteArray) (v : List Int) : Nat → Nat
  | 0 => 0
  | i + 1 => lostSum p v i + (lostL p v i).length
section
variable (p : List ByteArray) (v : List Int) (hM : MOk v p.length)
include hM
theorem lostSum_le : ∀ i : Nat, i ≤ v.length → lostSum p v (i + 1) ≤ hiT v p.length (v.length - i) i := by
  intro i
  induction i with
  | zero =>
    intro hi
    simp only [lostSum, lostL, if_true, Nat.zero_add, Nat.sub_zero, List.length_take]
    omega
  | succ i ih =>
    intro hi
    have hI := ih (by omega)
    have hT : hiT v p.length (v.length - i) i = if 0 ≤ rd v (i : Int) then (rd v (i : Int)).toNat else hiT v p.length (v.length - (i + 1)) (i + 1) := by
      rw [show v.length - i = (v.length - (i + 1)) + 1 by omega]
      rfl
    have hb := hM.bd i (by omega)
    rw [show lostSum p v (i + 1 + 1) = lostSum p v (i + 1) + (lostL p v (i + 1)).length from rfl]
    have hl : lostL p v (i + 1) = if rd v (i : Int) = -1 then [] else (p.take (hiT v p.length (v.length - (i + 1)) (i + 1))).drop (rd v (i : Int) + 1).toNat := by
      unfold lostL; rw [if_neg (by omega), Nat.add_sub_cancel]
    rw [hl]
    by_cases h1 : rd v (i : Int) = -1
    · rw [hT, if_neg (by omega)] at hI
      rw [if_pos h1, List.length_nil]; exact hI
    · have hg := hiT_gt v p.length hM i (by omega) (v.length - (i + 1)) (i + 1) (by omega) (by omega) (by omega)
      have hle := hiT_le v p.length hM (v.length - (i + 1)) (i + 1) (by omega)
      rw [hT, if_pos (by omega)] at hI
      rw [if_neg h1, List.length_drop, List.length_take]
      omega
theorem lostSum_all : lostSum p v (v.length + 1) ≤ p.length := Nat.le_trans (lostSum_le p v hM v.length (Nat.le_refl _)) (hiT_le v p.length hM _ _ (by omega))
end
theorem lostL_mem {p : List ByteArray} {v : List Int} {i : Nat} {x : ByteArray} (h : x ∈ lostL p v i) : x ∈ p := by
  unfold lostL at h
  split at h
  · exact List.mem_of_mem_take h
  · split at h
    · cases h
    · exact List.mem_of_mem_take (List.mem_of_mem_drop h)
theorem lostL_length (p : List ByteArray) (v : List Int) (i : Nat) : (lostL p v i).length ≤ p.length := by
  unfold lostL
  split
  · rw [List.length_take]; omega
  · split
    · simp
    · rw [List.length_drop, List.length_take]; omega
end Go.Proofs.YtenfoaajipiehaaDoor.Q
