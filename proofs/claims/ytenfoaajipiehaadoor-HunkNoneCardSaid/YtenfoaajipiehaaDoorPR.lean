/- What the reference's table is made of, as far as the law HunkNone asks: which lists may be; how long lists of numbers are; where what is paired stands. -/
import Derived.Test.YtenfoaajipiehaaDoorPD
import Derived.Test.YtenfoaajipiehaaDoorR19
namespace Go.Proofs.YtenfoaajipiehaaDoor.Q
set_option linter.unusedVariables false
set_option linter.unusedSimpArgs false
open Go.RowKit Go.Shelf Go.Proofs.YtenfoaajipiehaaDoorW.PrintWords
theorem rdB {l : List ByteArray} {i : Nat} (h : i < l.length) : rdOf ByteArray.empty l (i : Int) = l[i] := by simp [rdOf, List.getD_eq_getElem?_getD, h]
theorem rdL8 {l : List (List ByteArray)} {i : Nat} (h : i < l.length) : rd_L8 l (i : Int) = l[i] := by simp [rd_L8, List.getD_eq_getElem?_getD, h]
theorem rdL9 {l : List (List Int)} {i : Nat} (h : i < l.length) : rd_L9 l (i : Int) = l[i] := by simp [rd_L9, List.getD_eq_getElem?_getD, h]
theorem rdI {l : List Int} {i : Nat} (h : i < l.length) : rd l (i : Int) = l[i] := by simp [rd, List.getD_eq_getElem?_getD, h]

/-- A list of n texts at most, of 100 bytes at most. -/
def FewL (n : Nat) (l : List ByteArray) : Prop := l.length ≤ n ∧ ∀ x ∈ l, x.size ≤ 100
theorem few01_l0 (l : List ByteArray) : ∀ (n i k : Nat), i + n = 17 → i ≤ l.length → 2 * n + 2 ≤ k → (∀ x ∈ l.take i, x.size ≤ 100) → ∃ b, sennitref01_Few.l0 k l 16 i = some b ∧ (b = true → FewL 16 l) := by
  intro n
  induction n with
  | zero =>
    intro i k hi hil hk hx
    obtain ⟨k, rfl⟩ : ∃ k', k = k' + 2 := ⟨k - 2, by omega⟩
    have e : decide ((i : Int) ≤ 16) = false := decide_eq_false (by omega)
    refine ⟨decide ((l.length : Int) ≤ 16), ?_, fun h => by have := of_decide_eq_true h; omega⟩
    rw [sennitref01_Few.l0]
    split
    · rw [e, sennitref01_Few.j1, if_neg (by decide)]
    · rw [sennitref01_Few.j1, if_neg (by decide)]
  | succ n ih =>
    intro i k hi hil hk hx
    obtain ⟨k, rfl⟩ : ∃ k', k = k' + 2 := ⟨k - 2, by omega⟩
    by_cases hlt : i < l.length
    · have e : decide ((i : Int) ≤ 16) = true := decide_eq_true (by omega)
      rw [sennitref01_Few.l0, if_pos (by omega), e, sennitref01_Few.j1, if_pos rfl, if_pos (by omega), if_pos (by omega), rdB hlt]
      by_cases h1 : ((l[i].size : Nat) : Int) > 100
      · exact ⟨false, by rw [if_pos h1], fun h => by cases h⟩
      · rw [if_neg h1, w64 _ (by omega)]
        exact ih (i + 1) k (by omega) (by omega) (by omega) (fun x hxm => by
          rw [List.take_succ_eq_append_getElem hlt] at hxm
          rcases List.mem_append.1 hxm with h | h
          · exact hx x h
          · rw [List.mem_singleton.1 h]; omega)
    · have e : i = l.length := by omega
      subst e
      rw [sennitref01_Few.l0, if_neg (by omega), sennitref01_Few.j1, if_neg (by decide)]
      exact ⟨_, rfl, fun h => ⟨by have := of_decide_eq_true h; omega, fun x hxm => hx x (by rw [List.take_length]; exact hxm)⟩⟩
theorem few01_f (l : List ByteArray) (k : Nat) (hk : 40 ≤ k) : ∃ b, sennitref01_Few.f k l 16 = some b ∧ (b = true → FewL 16 l) := few01_l0 l 17 0 k (by omega) (Nat.zero_le _) (by omega) (fun x hx => by rw [List.take_zero] at hx; cases hx)
theorem few20_l0 (r : List ByteArray) (ps : List (List ByteArray)) : ∀ (n i k : Nat), i + n = 8 → i ≤ ps.length → 2 * n + 50 ≤ k → (∀ x ∈ ps.take i, FewL 16 x) → ∃ b, sennitref20_Few.l0 k r ps i = some b ∧ (b = true → FewL 16 r ∧ ps.length ≤ 6 ∧ ∀ x ∈ ps, FewL 16 x) := by
  intro n
  induction n with
  | zero =>
    intro i k hi hil hk hx
    obtain ⟨k, rfl⟩ : ∃ k', k = k' + 2 := ⟨k - 2, by omega⟩
    have e : decide ((i : Int) < 7) = false := decide_eq_false (by omega)
    obtain ⟨b, h1, h2⟩ := few01_f r k (by omega)
    rw [sennitref20_Few.l0]
    have hj : sennitref20_Few.j1 (k + 1) r ps i false = (if b = true then some (decide ((ps.length : Int) ≤ 6)) else some false) := by rw [sennitref20_Few.j1, if_neg (by decide), h1]; rfl
    refine ⟨b && decide ((ps.length : Int) ≤ 6), ?_, fun h => ?_⟩
    · rw [e, hj]; cases b <;> simp
    · rw [Bool.and_eq_true] at h
      have := of_decide_eq_true h.2
      omega
  | succ n ih =>
    intro i k hi hil hk hx
    obtain ⟨k, rfl⟩ : ∃ k', k = k' + 2 := ⟨k - 2, by omega⟩
    by_cases hlt : i < ps.length
    · by_cases h7 : i < 7
      · have e : decide ((i : Int) < 7) = true := decide_eq_true (by omega)
        obtain ⟨b, h1, h2⟩ := few01_f ps[i] k (by omega)
        rw [sennitref20_Few.l0, if_pos (by omega), e, sennitref20_Few.j1, if_pos rfl, if_pos (by omega), if_pos (by omega), rdL8 hlt, h1, Option.bind_some]
        cases b with
        | false => exact ⟨false, rfl, fun h => by cases h⟩
        | true =>
          rw [if_pos rfl, w64 _ (by omega)]
          exact ih (i + 1) k (by omega) (by omega) (by omega) (fun x hxm => by
            rw [List.take_succ_eq_append_getElem hlt] at hxm
            rcases List.mem_append.1 hxm with h | h
            · exact hx x h
            · rw [List.mem_singleton.1 h]; exact h2 rfl)
      · have e : decide ((i : Int) < 7) = false := decide_eq_false (by omega)
        obtain ⟨b, h1, h2⟩ := few01_f r k (by omega)
        have hj : sennitref20_Few.j1 (k + 1) r ps i false = (if b = true then some (decide ((ps.length : Int) ≤ 6)) else some false) := by rw [sennitref20_Few.j1, if_neg (by decide), h1]; rfl
        rw [sennitref20_Few.l0, if_pos (by omega), e, hj]
        refine ⟨b && decide ((ps.length : Int) ≤ 6), by cases b <;> simp, fun h => ?_⟩
        rw [Bool.and_eq_true] at h
        have := of_decide_eq_true h.2
        omega
    · have e : i = ps.length := by omega
      subst e
      obtain ⟨b, h1, h2⟩ := few01_f r k (by omega)
      have hj : sennitref20_Few.j1 (k + 1) r ps (ps.length : Int) false = (if b = true then some (decide ((ps.length : Int) ≤ 6)) else some false) := by rw [sennitref20_Few.j1, if_neg (by decide), h1]; rfl
      rw [sennitref20_Few.l0, if_neg (by omega), hj]
      refine ⟨b && decide ((ps.length : Int) ≤ 6), by cases b <;> simp, fun h => ?_⟩
      rw [Bool.and_eq_true] at h
      have h3 := of_decide_eq_true h.2
      exact ⟨h2 h.1, by omega, fun x hxm => hx x (by rw [List.take_length]; exact hxm)⟩

/-- Lines that may be: each by itself. -/
theorem may01_l0 (l : List ByteArray) (hl : FewL 16 l) : ∀ (m i k : Nat), i + m = l.length → m + 120 < k → ∃ b, sennitref01_May.l0 k l i = some b ∧ (b = true → ∀ x ∈ l.drop i, oneL x.data.toList = true) := by
  have hl0 := hl.1
  intro m
  induction m with
  | zero =>
    intro i k hi hk
    obtain ⟨k, rfl⟩ : ∃ k', k = k' + 1 := ⟨k - 1, by omega⟩
    refine ⟨true, by rw [sennitref01_May.l0, if_neg (by omega)], fun _ x hx => ?_⟩
    rw [List.drop_of_length_le (by omega)] at hx; cases hx
  | succ m ih =>
    intro i k hi hk
    obtain ⟨k, rfl⟩ : ∃ k', k = k' + 1 := ⟨k - 1, by omega⟩
    have hlt : i < l.length := by omega
    have hs := hl.2 _ (List.getElem_mem hlt)
    have hL := line_f l[i] (by omega) k (by omega)
    have hF := feeds_f l[i] (by omega) k (by omega)
    obtain ⟨b, h1, h2⟩ := ih (i + 1) k (by omega) (by omega)
    have hw : wrap64 ((i : Int) + 1) = ((i + 1 : Nat) : Int) := by rw [w64 _ (by omega)]; omega
    have hend : endedL l[i].data.toList = true → oneL l[i].data.toList = true := fun h => by unfold oneL; rw [h, Bool.or_true]
    have hcons : oneL l[i].data.toList = true → (b = true → ∀ x ∈ l.drop i, oneL x.data.toList = true) := fun ho hb x hx => by
      rw [List.drop_eq_getElem_cons hlt] at hx
      rcases List.mem_cons.1 hx with e | e
      · rw [e]; exact ho
      · exact h2 hb x e
    rw [sennitref01_May.l0, if_pos (by omega), rdB hlt, hL, hF, hw, h1]
    simp only [Option.bind_some]
    have hlast : ∀ P : Option Bool, (if endedL l[i].data.toList = true then some b else some false) = P → ∃ c, P = some c ∧ (c = true → ∀ x ∈ l.drop i, oneL x.data.toList = true) := by
      intro P hP
      cases he : endedL l[i].data.toList with
      | true => rw [he, if_pos rfl] at hP; exact ⟨b, hP.symm, hcons (hend he)⟩
      | false => rw [he, if_neg (by decide)] at hP; exact ⟨false, hP.symm, fun h => by cases h⟩
    split
    · rw [if_pos (by omega)]
      split
      · rename_i hsz
        split
        · rename_i hz
          refine ⟨b, rfl, hcons ?_⟩
          unfold oneL
          have e1 : (feedsL l[i].data.toList == 0) = true := by rw [beq_iff_eq]; omega
          have e2 : l[i].data.toList.isEmpty = false := by
            cases hq : l[i].data.toList with
            | nil =>
              have : l[i].data.toList.length = l[i].size := rfl
              rw [hq] at this; simp at this; omega
            | cons a q => rfl
          rw [e1, e2]; rfl
        · exact hlast _ rfl
      · exact hlast _ rfl
    · rw [if_pos (by omega)]
      exact hlast _ rfl
theorem may01_f (l : List ByteArray) (hl : FewL 16 l) (k : Nat) (hk : 150 ≤ k) : ∃ b, sennitref01_May.f k l = some b ∧ (b = true → ∀ x ∈ l, oneL x.data.toList = true) := by
  obtain ⟨b, h1, h2⟩ := may01_l0 l hl l.length 0 k (by omega) (by have := hl.1; omega)
  exact ⟨b, h1, fun hb x hx => h2 hb x (by rw [List.drop_zero]; exact hx)⟩
/-- What a table may be made of. -/
structure MayT (r : List ByteArray) (ps : List (List ByteArray)) : Prop where
  r16 : FewL 16 r
  p6 : ps.length ≤ 6
  p16 : ∀ x ∈ ps, FewL 16 x
  p1 : 0 < ps.length
  ro : ∀ x ∈ r, oneL x.data.toList = true
  po : ∀ l ∈ ps, ∀ x ∈ l, oneL x.data.toList = true
theorem wrong_l0 (ps : List (List ByteArray)) (hp : ∀ x ∈ ps, FewL 16 x) (hp6 : ps.length ≤ 6) : ∀ (m i k : Nat) (a : Bool), i + m = ps.length → m + 200 < k → ∃ n : Int, sennitref20_wrong.l0 k ps a false i = some n ∧ (n = 0 → a = true ∧ ∀ l ∈ ps.drop i, ∀ x ∈ l, oneL x.data.toList = true) := by
  intro m
  induction m with
  | zero =>
    intro i k a hi hk
    obtain ⟨k, rfl⟩ : ∃ k', k = k' + 1 := ⟨k - 1, by omega⟩
    rw [sennitref20_wrong.l0, if_neg (by omega), List.drop_of_length_le (by omega)]
    cases a with
    | true => exact ⟨0, rfl, fun _ => ⟨rfl, fun l hl => by cases hl⟩⟩
    | false => exact ⟨2, rfl, fun h => by omega⟩
  | succ m ih =>
    intro i k a hi hk
    obtain ⟨k, rfl⟩ : ∃ k', k = k' + 1 := ⟨k - 1, by omega⟩
    have hlt : i < ps.length := by omega
    have hF := hp _ (List.getElem_mem hlt)
    have hF1 := hF.1
    have hw : wrap64 ((i : Int) + 1) = ((i + 1 : Nat) : Int) := by rw [w64 _ (by omega)]; omega
    have hd : decide ((ps[i].length : Int) > 2000) = false := decide_eq_false (by omega)
    rw [sennitref20_wrong.l0, if_pos (by omega), rdL8 hlt, hw, hd]
    cases a with
    | true =>
      obtain ⟨b, h1, h2⟩ := may01_f ps[i] hF k (by omega)
      rw [if_pos rfl, if_pos (by omega), h1, Option.bind_some, if_neg (by decide)]
      obtain ⟨n, g1, g2⟩ := ih (i + 1) k b (by omega) (by omega)
      refine ⟨n, g1, fun hn => ⟨rfl, fun l hl x hx => ?_⟩⟩
      obtain ⟨q1, q2⟩ := g2 hn
      rw [List.drop_eq_getElem_cons hlt] at hl
      rcases List.mem_cons.1 hl with e | e
      · subst e; exact h2 q1 x hx
      · exact q2 l e x hx
    | false =>
      rw [if_neg (by decide), if_neg (by decide), if_pos (by omega)]
      obtain ⟨n, g1, g2⟩ := ih (i + 1) k false (by omega) (by omega)
      exact ⟨n, g1, fun hn => by have := (g2 hn).1; cases this⟩
theorem wrong_f (r : List ByteArray) (ps : List (List ByteArray)) (hr : FewL 16 r) (hp : ∀ x ∈ ps, FewL 16 x) (hp6 : ps.length ≤ 6) (k : Nat) (hk : 300 ≤ k) : ∃ n : Int, sennitref20_wrong.f k r ps = some n ∧ (n = 0 → MayT r ps) := by
  obtain ⟨k, rfl⟩ : ∃ k', k = k' + 1 := ⟨k - 1, by omega⟩
  have hr1 := hr.1
  unfold sennitref20_wrong.f
  by_cases h0 : (ps.length : Int) = 0
  · rw [if_pos h0, sennitref20_wrong.j0, if_pos rfl]
    exact ⟨1, rfl, fun h => by omega⟩
  · rw [if_neg h0, decide_eq_false (by omega), sennitref20_wrong.j0, if_neg (by decide), decide_eq_false (by omega)]
    obtain ⟨b, h1, h2⟩ := may01_f r hr k (by omega)
    rw [h1, Option.bind_some]
    obtain ⟨n, g1, g2⟩ := wrong_l0 ps hp hp6 ps.length 0 k b (by omega) (by omega)
    refine ⟨n, g1, fun hn => ?_⟩
    obtain ⟨q1, q2⟩ := g2 hn
    exact ⟨hr, hp6, hp, by omega, h2 q1, fun l hl x hx => q2 l (by rw [List.drop_zero]; exact hl) x hx⟩
theorem may20_f (r : List ByteArray) (ps : List (List ByteArray)) (k : Nat) (hk : 300 ≤ k) : ∃ b, sennitref20_May.f k r ps = some b ∧ (b = true → MayT r ps ∧ sennitref20_wrong.f k r ps = some 0) := by
  obtain ⟨c, h1, h2⟩ := few20_l0 r ps 8 0 k (by omega) (Nat.zero_le _) (by omega) (fun x hx => by rw [List.take_zero] at hx; cases hx)
  unfold sennitref20_May.f sennitref20_Few.f
  rw [show (0 : Int) = ((0 : Nat) : Int) from rfl, h1, Option.bind_some]
  cases c with
  | false => exact ⟨false, rfl, fun h => by cases h⟩
  | true =>
    obtain ⟨q1, q2, q3⟩ := h2 rfl
    obtain ⟨n, g1, g2⟩ := wrong_f r ps q1 q3 q2 k hk
    rw [if_pos rfl, g1, Option.bind_some]
    refine ⟨_, rfl, fun h => ?_⟩
    have hn : n = 0 := by simpa using h
    exact ⟨g2 hn, by rw [hn]; rfl⟩

/-- A number for a text: the table grows by one text at most. -/
theorem id_l0 (t : List ByteArray) (s : ByteArray) (ht : t.length ≤ 3000) : ∀ (m i k : Nat), i + m = t.length → m < k → ∃ t' n, sennitref02_Id.l0 k t s i = some (t', n) ∧ t'.length ≤ t.length + 1 := by
  intro m
  induction m with
  | zero =>
    intro i k hi hk
    obtain ⟨k, rfl⟩ : ∃ k', k = k' + 1 := ⟨k - 1, by omega⟩
    rw [sennitref02_Id.l0, if_neg (by omega), Option.bind_some, if_pos (by simp; omega), Option.bind_some, if_pos (by simp; omega)]
    exact ⟨_, _, rfl, by simp⟩
  | succ m ih =>
    intro i k hi hk
    obtain ⟨k, rfl⟩ : ∃ k', k = k' + 1 := ⟨k - 1, by omega⟩
    rw [sennitref02_Id.l0, if_pos (by omega), if_pos (by omega), w64 _ (by omega)]
    split
    · exact ⟨_, _, rfl, by omega⟩
    · exact ih (i + 1) k (by omega) (by omega)
section
variable (fs : List (List ByteArray)) (hf : fs.length ≤ 10) (h0 : ∀ x ∈ fs, x.length ≤ 200)
include hf h0
theorem all_l : ∀ (d : Nat), (∀ (i k : Nat) (ids : List (List Int)) (t : List ByteArray), i + d = fs.length → 210 * d + 3000 < k → ids.length = i → t.length ≤ 200 * i → (∀ j (h : j < ids.length) (h' : j < fs.length), ids[j].length = fs[j].length) →
      ∃ out, sennitref02_All.l0 k fs ids t i = some out ∧ out.length = fs.length ∧ ∀ j (h : j < out.length) (h' : j < fs.length), out[j].length = fs[j].length) := by
  intro d
  induction d with
  | zero =>
    intro i k ids t hi hk hid ht hin
    obtain ⟨k, rfl⟩ : ∃ k', k = k' + 1 := ⟨k - 1, by omega⟩
    rw [sennitref02_All.l0, if_neg (by omega)]
    exact ⟨ids, rfl, by omega, hin⟩
  | succ d ih =>
    intro i k ids t hi hk hid ht hin
    obtain ⟨k, rfl⟩ : ∃ k', k = k' + 1 := ⟨k - 1, by omega⟩
    have hlt : i < fs.length := by omega
    have hx := h0 _ (List.getElem_mem hlt)
    rw [sennitref02_All.l0, if_pos (by omega)]
    have hl1 : ∀ (m j k : Nat) (t : List ByteArray) (l : List Int), j + m = fs[i].length → 210 * d + m + 3001 < k → l.length = j → t.length ≤ 200 * i + j →
        ∃ out, sennitref02_All.l1 k fs ids t i l j = some out ∧ out.length = fs.length ∧ ∀ j (h : j < out.length) (h' : j < fs.length), out[j].length = fs[j].length := by
      intro m
      induction m with
      | zero =>
        intro j k t l hj hk hlj ht
        obtain ⟨k, rfl⟩ : ∃ k', k = k' + 1 := ⟨k - 1, by omega⟩
        rw [sennitref02_All.l1, if_pos (by omega), if_pos (by omega), rdL8 hlt, if_neg (by omega), if_pos (by omega), w64 _ (by omega)]
        refine ih (i + 1) k (ids ++ [l]) t (by omega) (by omega) (by simp; omega) (by omega) (fun q hq hq' => ?_)
        rw [List.length_append] at hq
        by_cases e : q < ids.length
        · rw [List.getElem_append_left e]; exact hin q e hq'
        · have : q = i := by simp at hq; omega
          subst this
          rw [List.getElem_append_right (by omega)]
          simp; omega
      | succ m ihm =>
        intro j k t l hj hk hlj ht
        obtain ⟨k, rfl⟩ : ∃ k', k = k' + 1 := ⟨k - 1, by omega⟩
        have hlj2 : j < fs[i].length := by omega
        obtain ⟨t', n, g1, g2⟩ := id_l0 t (fs[i][j]) (by omega) t.length 0 k (by omega) (by omega)
        rw [sennitref02_All.l1, if_pos (by omega), if_pos (by omega), rdL8 hlt, if_pos (by omega), if_pos (by omega), rdB hlj2]
        unfold sennitref02_Id.f
        rw [show (0 : Int) = ((0 : Nat) : Int) from rfl, g1, Option.bind_some, if_pos (by omega), w64 _ (by omega)]
        exact ihm (j + 1) k t' (l ++ [n]) (by omega) (by omega) (by simp; omega) (by omega)
    rw [show (0 : Int) = ((0 : Nat) : Int) from rfl]
    exact hl1 fs[i].length 0 k t [] (by omega) (by omega) rfl (by omega)
theorem all_f (k : Nat) (hk : 6000 ≤ k) : ∃ out, sennitref02_All.f k fs = some out ∧ out.length = fs.length ∧ ∀ j (h : j < out.length) (h' : j < fs.length), out[j].length = fs[j].length :=
  all_l fs hf h0 fs.length 0 k [] [] (by omega) (by omega) rfl (by simp) (fun j h => by simp at h)
end
end Go.Proofs.YtenfoaajipiehaaDoor.Q
