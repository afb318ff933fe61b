/- The law HunkTells, as a Lean function, is true at every input. -/
import Derived.Test.YtenfoaajipiehaaDoorPJ
import Derived.Test.YtenfoaajipiehaaDoorR10
namespace Go.Proofs.YtenfoaajipiehaaDoor.Q
set_option linter.unusedVariables false
set_option linter.unusedSimpArgs false
open Go.RowKit Go.Shelf Go.Proofs.YtenfoaajipiehaaDoorW.PrintWords
theorem lost_l0 (s u : ByteArray) (hs : s.size ≤ 1000000) : ∀ (m i k : Nat), i + m = s.size → m < k → sennitref20_Lost.l0 k i s u = some ((s.data.toList.drop i).contains 45) := by
  intro m
  have hl : s.data.toList.length = s.size := rfl
  induction m with
  | zero =>
    intro i k hi hk
    obtain ⟨k, rfl⟩ : ∃ k', k = k' + 1 := ⟨k - 1, by omega⟩
    rw [sennitref20_Lost.l0, if_neg (by omega), List.drop_of_length_le (by omega)]
    rfl
  | succ m ih =>
    intro i k hi hk
    obtain ⟨k, rfl⟩ : ∃ k', k = k' + 1 := ⟨k - 1, by omega⟩
    have hlt : i < s.data.toList.length := by omega
    have e := byte_eq (s.data.toList[i]) 45 45 rfl
    rw [sennitref20_Lost.l0, if_pos (by omega), if_pos (by omega), bt_get _ _ hlt, List.drop_eq_getElem_cons hlt, List.contains_cons]
    by_cases h : s.data.toList[i] = 45
    · rw [if_pos (e.2 h), h]; rfl
    · rw [if_neg (fun hh => h (e.1 hh)), w64 _ (by omega), beq_eq_false_iff_ne.2 (fun hh => h hh.symm), Bool.false_or]
      exact ih (i + 1) k (by omega) (by omega)
theorem lost_f (x : S41) (hs : x.f0.size ≤ 1000000) (k : Nat) (hk : x.f0.size < k) : sennitref20_Lost.f k x.f0 x.f1 = some (lostB x) := by
  have := lost_l0 x.f0 x.f1 hs x.f0.size 0 k (by omega) hk
  simpa [sennitref20_Lost.f, lostB] using this
theorem of_f (x : S41) (a : Int) (hs : x.f0.size ≤ 1000000) (k : Nat) (hk : x.f0.size < k) : sennitref20_Of.f k x.f0 x.f1 a = some (ofB a x) := by
  unfold sennitref20_Of.f ofB
  by_cases h0 : a < 0
  · rw [if_pos h0, decide_eq_false (by omega)]; rfl
  · rw [if_neg h0, decide_eq_true (by omega : 0 ≤ a)]
    by_cases h1 : a ≥ (x.f0.size : Int)
    · rw [if_pos h1, decide_eq_false (by omega)]; rfl
    · rw [if_neg h1, decide_eq_true (by omega : a < (x.f0.size : Int)), if_pos (by omega), if_pos (by omega)]
      by_cases h2 : bt x.f0 a = 45
      · rw [if_pos h2, h2]; rfl
      · rw [if_neg h2, beq_eq_false_iff_ne.2 h2]
        by_cases h3 : bt x.f0 a = 32
        · rw [if_pos h3, lost_f x hs k hk, h3]; rfl
        · rw [if_neg h3, beq_eq_false_iff_ne.2 h3]; rfl
section
variable (l : List S41) (hl : l.length ≤ 40) (hs : ∀ x ∈ l, x.f0.size ≤ 20)
include hl hs
theorem column_l0 (a : Int) : ∀ (m i k : Nat) (acc : List ByteArray), i + m = l.length → m + 30 < k → acc.length ≤ i → sennitref20_Column.l0 k l a acc i = some (acc ++ ((l.drop i).filter (ofB a)).map (·.f1)) := by
  intro m
  induction m with
  | zero =>
    intro i k acc hi hk ha
    obtain ⟨k, rfl⟩ : ∃ k', k = k' + 1 := ⟨k - 1, by omega⟩
    rw [sennitref20_Column.l0, if_neg (by omega), List.drop_of_length_le (by omega)]
    simp
  | succ m ih =>
    intro i k acc hi hk ha
    obtain ⟨k, rfl⟩ : ∃ k', k = k' + 1 := ⟨k - 1, by omega⟩
    have hlt : i < l.length := by omega
    have hx := hs _ (List.getElem_mem hlt)
    rw [sennitref20_Column.l0, if_pos (by omega), if_pos (by omega), rd_at hlt, of_f _ a (by omega) k (by omega), List.drop_eq_getElem_cons hlt]
    simp only [Option.bind_some]
    rw [w64 _ (by omega)]
    cases ho : ofB a l[i] with
    | true =>
      rw [if_pos rfl, if_pos (by omega)]
      refine (ih (i + 1) k _ (by omega) (by omega) (by simp; omega)).trans ?_
      rw [List.filter_cons_of_pos (by simp [ho]), List.map_cons, List.append_assoc]
      rfl
    | false =>
      rw [if_neg (by decide)]
      refine (ih (i + 1) k _ (by omega) (by omega) (by omega)).trans ?_
      rw [List.filter_cons_of_neg (by simp [ho])]
theorem result_l0 : ∀ (m i k : Nat) (acc : List ByteArray), i + m = l.length → m + 30 < k → acc.length ≤ i → sennitref20_Result.l0 k l acc i = some (acc ++ ((l.drop i).filter fun x => !lostB x).map (·.f1)) := by
  intro m
  induction m with
  | zero =>
    intro i k acc hi hk ha
    obtain ⟨k, rfl⟩ : ∃ k', k = k' + 1 := ⟨k - 1, by omega⟩
    rw [sennitref20_Result.l0, if_neg (by omega), List.drop_of_length_le (by omega)]
    simp
  | succ m ih =>
    intro i k acc hi hk ha
    obtain ⟨k, rfl⟩ : ∃ k', k = k' + 1 := ⟨k - 1, by omega⟩
    have hlt : i < l.length := by omega
    have hx := hs _ (List.getElem_mem hlt)
    rw [sennitref20_Result.l0, if_pos (by omega), if_pos (by omega), rd_at hlt, lost_f _ (by omega) k (by omega), List.drop_eq_getElem_cons hlt]
    simp only [Option.bind_some]
    rw [w64 _ (by omega)]
    cases ho : lostB l[i] with
    | false =>
      rw [if_neg (by decide), if_pos (by omega)]
      refine (ih (i + 1) k _ (by omega) (by omega) (by simp; omega)).trans ?_
      rw [List.filter_cons_of_pos (by simp [ho]), List.map_cons, List.append_assoc]
      rfl
    | true =>
      rw [if_pos rfl]
      refine (ih (i + 1) k _ (by omega) (by omega) (by omega)).trans ?_
      rw [List.filter_cons_of_neg (by simp [ho])]
theorem column_f (a : Int) (k : Nat) (hk : 80 ≤ k) : sennitref20_Column.f k l a = some ((l.filter (ofB a)).map (·.f1)) := by
  have := column_l0 l hl hs a l.length 0 k [] (by omega) (by omega) (Nat.le_refl _)
  simpa [sennitref20_Column.f] using this
theorem result_f (k : Nat) (hk : 80 ≤ k) : sennitref20_Result.f k l = some ((l.filter fun x => !lostB x).map (·.f1)) := by
  have := result_l0 l hl hs l.length 0 k [] (by omega) (by omega) (Nat.le_refl _)
  simpa [sennitref20_Result.f] using this
end
/-- What the counter comes to. -/
theorem newRows_count (l : List S41) : ∀ n : Int, newRows l n = n + (l.countP fun x => !lostB x : Nat) := by
  induction l with
  | nil => intro n; simp [newRows]
  | cons x l ih =>
    intro n
    have h := ih (n + oneOf (!lostB x))
    rw [show newRows (x :: l) n = newRows l (n + oneOf (!lostB x)) from rfl, h, List.countP_cons]
    cases lostB x <;> simp [oneOf] <;> omega
theorem passRows_get (l : List S41) : ∀ (z : List Int) (j : Nat) (hj : j < z.length), (passRows l z)[j]? = some (z[j] + (l.countP (ofB j) : Nat)) := by
  induction l with
  | nil => intro z j hj; simp [passRows, hj]
  | cons x l ih =>
    intro z j hj
    have hj2 : j < (passO x z.length z).length := by rw [passO_length]; exact hj
    rw [show passRows (x :: l) z = passRows l (passO x z.length z) from rfl, ih _ j hj2, List.countP_cons]
    simp only [passO, List.getElem_mapIdx, if_pos hj]
    cases ofB j x <;> simp [oneOf]; omega
/-- The spans of a hunk's parents. -/
theorem spans_get (l : List S41) (n a b j : Nat) (hj : j < n) (hab : a ≤ b) : (spansOf (passRows (l.take a) (List.replicate n 0)) (passRows (l.take b) (List.replicate n 0)))[j]? =
    some ⟨((l.take a).countP (ofB j) : Nat), (((l.take a).countP (ofB j) : Nat) : Int) + ((midL l a b).countP (ofB j) : Nat)⟩ := by
  have h1 := passRows_get (l.take a) (List.replicate n 0) j (by simpa using hj)
  have h2 := passRows_get (l.take b) (List.replicate n 0) j (by simpa using hj)
  simp only [List.getElem_replicate, Int.zero_add] at h1 h2
  unfold spansOf
  rw [List.getElem?_zipWith, h1, h2, mid_split l a b hab, List.countP_append]
  simp
theorem spans_length (l : List S41) (n a b : Nat) : (spansOf (passRows (l.take a) (List.replicate n 0)) (passRows (l.take b) (List.replicate n 0))).length = n := by
  unfold spansOf; rw [List.length_zipWith, passRows_length, passRows_length]; simp
section
variable (l : List S41) (n : Nat) (hl : l.length ≤ 40) (hn : n ≤ 20) (hE : Even n l)
include hl hn hE
theorem refHunk_l0 (a b : Nat) (hab : a < b) (hb : b ≤ l.length) (x y : Int) (rows : List S41) : ∀ (m j k : Nat), j + m = n → m + 100 < k →
    sennitref21_Hunk.l0 k l a b j ((spansOf (passRows (l.take a) (List.replicate n 0)) (passRows (l.take b) (List.replicate n 0))).take j) x y rows = some (spansOf (passRows (l.take a) (List.replicate n 0)) (passRows (l.take b) (List.replicate n 0)), x, y, rows) := by
  have h00 : (rd_T41 l 0).f0 = (rd_T41 l ((0 : Nat) : Int)).f0 := rfl
  have hp : 0 < l.length := by omega
  have hs0 : ((rd_T41 l 0).f0).size = n := by rw [h00, rd_at hp]; exact (hE _ (List.getElem_mem hp)).1
  have hs : ∀ z ∈ l, z.f0.size ≤ 20 := fun z hz => by have := (hE z hz).1; omega
  have hL := spans_length l n a b
  intro m
  induction m with
  | zero =>
    intro j k hj hk
    obtain ⟨k, rfl⟩ : ∃ k', k = k' + 1 := ⟨k - 1, by omega⟩
    rw [sennitref21_Hunk.l0, if_pos (by omega), hs0, if_neg (by omega), List.take_of_length_le (by omega)]
  | succ m ih =>
    intro j k hj hk
    obtain ⟨k, rfl⟩ : ∃ k', k = k' + 1 := ⟨k - 1, by omega⟩
    have hg := spans_get l n a b j (by omega) (by omega)
    have c1 := column_f (l.take a) (by rw [List.length_take]; omega) (fun z hz => hs z (List.mem_of_mem_take hz)) j k (by omega)
    have c2 := column_f (midL l a b) (by rw [mid_length l a b hb]; omega) (fun z hz => hs z (List.mem_of_mem_take (List.mem_of_mem_drop hz))) j k (by omega)
    rw [sennitref21_Hunk.l0, if_pos (by omega), hs0, if_pos (by omega), if_pos (by omega), if_pos (by omega), Int.toNat_natCast, Int.toNat_natCast, c1]
    simp only [Option.bind_some]
    rw [if_pos (by omega), if_pos (by omega), show (l.take b).drop a = midL l a b from rfl, c2]
    simp only [Option.bind_some]
    have hc1 : (l.take a).countP (ofB j) ≤ 40 := Nat.le_trans List.countP_le_length (by rw [List.length_take]; omega)
    have hc2 : (midL l a b).countP (ofB j) ≤ 40 := Nat.le_trans List.countP_le_length (by rw [mid_length l a b hb]; omega)
    have hjl : j < (spansOf (passRows (l.take a) (List.replicate n 0)) (passRows (l.take b) (List.replicate n 0))).length := by omega
    rw [List.getElem?_eq_getElem hjl] at hg
    rw [if_pos (by rw [List.length_take]; omega), w64 _ (by omega), List.length_map, List.length_map, ← List.countP_eq_length_filter, ← List.countP_eq_length_filter, w64 _ (by omega)]
    have e : ∀ s : S36, (spansOf (passRows (l.take a) (List.replicate n 0)) (passRows (l.take b) (List.replicate n 0)))[j] = s → (spansOf (passRows (l.take a) (List.replicate n 0)) (passRows (l.take b) (List.replicate n 0))).take j ++ [s] = (spansOf (passRows (l.take a) (List.replicate n 0)) (passRows (l.take b) (List.replicate n 0))).take (j + 1) := fun s h => by
      rw [List.take_succ_eq_append_getElem hjl, h]
    rw [e _ (Option.some.inj hg)]
    exact ih (j + 1) k (by omega) (by omega)
theorem refHunk_f (a b : Nat) (hab : a < b) (hb : b ≤ l.length) (k : Nat) (hk : 200 ≤ k) :
    sennitref21_Hunk.f k l a b = some ((mkHunk l (zerosOf l) (a, b)).f0, (mkHunk l (zerosOf l) (a, b)).f1.f0, (mkHunk l (zerosOf l) (a, b)).f1.f1, (mkHunk l (zerosOf l) (a, b)).f2) := by
  have hp : 0 < l.length := by omega
  have hs : ∀ z ∈ l, z.f0.size ≤ 20 := fun z hz => by have := (hE z hz).1; omega
  have hz : zerosOf l = List.replicate n 0 := by
    unfold zerosOf
    rw [List.getElem?_eq_getElem hp]
    simp only [Option.elim]
    rw [(hE _ (List.getElem_mem hp)).1]
  have c1 := result_f (l.take a) (by rw [List.length_take]; omega) (fun z hz => hs z (List.mem_of_mem_take hz)) k (by omega)
  have c2 := result_f (midL l a b) (by rw [mid_length l a b hb]; omega) (fun z hz => hs z (List.mem_of_mem_take (List.mem_of_mem_drop hz))) k (by omega)
  have hc1 : (l.take a).countP (fun x => !lostB x) ≤ 40 := Nat.le_trans List.countP_le_length (by rw [List.length_take]; omega)
  have hc2 : (midL l a b).countP (fun x => !lostB x) ≤ 40 := Nat.le_trans List.countP_le_length (by rw [mid_length l a b hb]; omega)
  unfold sennitref21_Hunk.f
  rw [if_pos (by omega), if_pos (by omega), if_pos (by omega), if_pos (by omega), Int.toNat_natCast, Int.toNat_natCast, c1]
  simp only [Option.bind_some]
  rw [show (l.take b).drop a = midL l a b from rfl, c2]
  simp only [Option.bind_some]
  rw [List.length_map, List.length_map, ← List.countP_eq_length_filter, ← List.countP_eq_length_filter, w64 _ (by omega)]
  have h := refHunk_l0 l n hl hn hE a b hab hb ((l.take a).countP (fun x => !lostB x) : Nat) ((((l.take a).countP (fun x => !lostB x) : Nat) : Int) + ((midL l a b).countP (fun x => !lostB x) : Nat)) (midL l a b) n 0 k (by omega) (by omega)
  rw [List.take_zero] at h
  refine h.trans ?_
  unfold mkHunk
  rw [hz, newRows_count, newRows_count, mid_split l a b (by omega), List.countP_append]
  simp
/-- The reference's hunks. -/
theorem refHunks_l1 (ctx : Int) (dense : Bool) : ∀ (m q k i : Nat) (acc : List S38), q + m = l.length → i ≤ q → acc.length ≤ i → 2 * m + 1300 < k →
    sennitref21_Hunks.l1 k l ctx dense acc i q = some (acc ++ (if i < q then runsGo q ((showAll l ctx dense (groupsL l)).drop q) (some i) else runsGo q ((showAll l ctx dense (groupsL l)).drop q) none).map (mkHunk l (zerosOf l)), 0) := by
  have hS : (showAll l ctx dense (groupsL l)).length = l.length := showAll_length ..
  have h0 : ∀ (k p : Nat) (acc : List S38), l.length ≤ p → 0 < k → sennitref21_Hunks.l0 k l ctx dense acc p = some (acc, 0) := by
    intro k p acc hp hk
    obtain ⟨k, rfl⟩ : ∃ k', k = k' + 1 := ⟨k - 1, by omega⟩
    rw [sennitref21_Hunks.l0, if_neg (by omega)]
  have hrun0 : ∀ p, l.length ≤ p → runsGo p ((showAll l ctx dense (groupsL l)).drop p) none = [] := by
    intro p hp
    rw [List.drop_of_length_le (by omega)]; rfl
  have hmk : ∀ (a b : Nat) (s : S38), s = mkHunk l (zerosOf l) (a, b) → (⟨s.f0, (⟨s.f1.f0, s.f1.f1⟩ : S36), s.f2⟩ : S38) = mkHunk l (zerosOf l) (a, b) := fun a b s h => by rw [← h]
  intro m
  induction m with
  | zero =>
    intro q k i acc hq hi ha hk
    obtain ⟨k, rfl⟩ : ∃ k', k = k' + 1 := ⟨k - 1, by omega⟩
    rw [sennitref21_Hunks.l1, if_neg (by omega), w64 _ (by omega)]
    by_cases hit : i < q
    · rw [if_pos (by omega), if_pos hit, refHunk_f l n hl hn hE i q hit (by omega) k (by omega)]
      simp only [Option.bind_some]
      rw [if_pos (by omega), show ((q : Int) + 1) = ((q + 1 : Nat) : Int) by omega, h0 k _ _ (by omega) (by omega), runsGo_end (by omega), hrun0 q (by omega)]
      rfl
    · rw [if_neg (by omega), if_neg hit, show ((q : Int) + 1) = ((q + 1 : Nat) : Int) by omega, h0 k _ _ (by omega) (by omega), hrun0 q (by omega)]
      simp
  | succ m ih =>
    intro q k i acc hq hi ha hk
    obtain ⟨k, rfl⟩ : ∃ k', k = k' + 1 := ⟨k - 1, by omega⟩
    have hlt : q < l.length := by omega
    have hltS : q < (showAll l ctx dense (groupsL l)).length := by omega
    obtain ⟨b, hb1, hb2⟩ := shown_f l n hl hn hE ctx dense q hlt k (by omega)
    rw [sennitref21_Hunks.l1, if_pos (by omega), hb1, w64 _ (by omega), show ((q : Int) + 1) = ((q + 1 : Nat) : Int) by omega]
    simp only [Option.bind_some]
    rw [List.getElem?_eq_getElem hltS] at hb2
    have hgo : ∀ (acc' : List S38), acc'.length ≤ q + 1 → sennitref21_Hunks.l0 k l ctx dense acc' ((q + 1 : Nat) : Int) = some (acc' ++ (runsGo (q + 1) ((showAll l ctx dense (groupsL l)).drop (q + 1)) none).map (mkHunk l (zerosOf l)), 0) := by
      intro acc' ha'
      by_cases he : q + 1 = l.length
      · rw [h0 k _ _ (by omega) (by omega), hrun0 _ (by omega)]; simp
      · obtain ⟨k, rfl⟩ : ∃ k', k = k' + 1 := ⟨k - 1, by omega⟩
        rw [sennitref21_Hunks.l0, if_pos (by omega), ih (q + 1) k (q + 1) acc' (by omega) (by omega) ha' (by omega), if_neg (by omega)]
    cases b with
    | true =>
      have hst := Option.some.inj (hb2.1 rfl)
      rw [if_pos rfl, ih (q + 1) k i acc (by omega) (by omega) ha (by omega), if_pos (by omega)]
      by_cases hit : i < q
      · rw [if_pos hit, runsGo_on hltS hst]
      · obtain rfl : i = q := by omega
        rw [if_neg hit, runsGo_open hltS hst]
    | false =>
      have hst : (showAll l ctx dense (groupsL l))[q] = false := by
        cases hqq : (showAll l ctx dense (groupsL l))[q] with
        | false => rfl
        | true => have := hb2.2 (by rw [hqq]); cases this
      rw [if_neg (by decide)]
      by_cases hit : i < q
      · rw [if_pos (by omega), if_pos hit, refHunk_f l n hl hn hE i q hit (by omega) k (by omega)]
        simp only [Option.bind_some]
        rw [if_pos (by omega), hgo _ (by simp; omega), runsGo_shut hltS hst, runsGo_skip hltS hst]
        simp
      · rw [if_neg (by omega), if_neg hit, hgo _ (by omega), runsGo_skip hltS hst]
end
/-- Lists are the same as themselves. -/
theorem same19_l0 (l : List S41) (hl : l.length ≤ 1000000) : ∀ (m i k : Nat), i + m = l.length → m < k → sennitref19_Same.l0 k l l i = some true := by
  intro m
  induction m with
  | zero =>
    intro i k hi hk
    obtain ⟨k, rfl⟩ : ∃ k', k = k' + 1 := ⟨k - 1, by omega⟩
    rw [sennitref19_Same.l0, if_neg (by omega)]
  | succ m ih =>
    intro i k hi hk
    obtain ⟨k, rfl⟩ : ∃ k', k = k' + 1 := ⟨k - 1, by omega⟩
    rw [sennitref19_Same.l0, if_pos (by omega), if_pos (by omega), if_pos (by omega), w64 _ (by omega)]
    simp only [beq_self_eq_true, Bool.not_true, Bool.or_self, if_neg (by decide : ¬ (false = true))]
    exact ih (i + 1) k (by omega) (by omega)
theorem same19_f (l : List S41) (hl : l.length ≤ 1000000) (k : Nat) (hk : l.length < k) : sennitref19_Same.f k l l = some true := by
  unfold sennitref19_Same.f
  rw [if_pos rfl]
  exact same19_l0 l hl l.length 0 k (by omega) hk
theorem rd38_at {l : List S38} {i : Nat} (h : i < l.length) : rd_T38 l (i : Int) = l[i] := by simp [rd_T38, List.getD_eq_getElem?_getD, h]
section
variable (h : List S38) (hh : h.length ≤ 1000) (h0 : ∀ x ∈ h, x.f0.length ≤ 100 ∧ x.f2.length ≤ 100)
include hh h0
theorem same21_l1 (i : Nat) (hi : i < h.length) : ∀ (m j k : Nat), j + m = h[i].f0.length → m < k → sennitref21_Same.l1 k h h i j = sennitref21_Same.l0 (k - m - 1) h h ((i + 1 : Nat) : Int) := by
  have hx := h0 _ (List.getElem_mem hi)
  intro m
  induction m with
  | zero =>
    intro j k hj hk
    obtain ⟨k, rfl⟩ : ∃ k', k = k' + 1 := ⟨k - 1, by omega⟩
    rw [sennitref21_Same.l1, if_pos (by omega), if_pos (by omega), rd38_at hi, if_neg (by omega), w64 _ (by omega)]
    rfl
  | succ m ih =>
    intro j k hj hk
    obtain ⟨k, rfl⟩ : ∃ k', k = k' + 1 := ⟨k - 1, by omega⟩
    rw [sennitref21_Same.l1, if_pos (by omega), if_pos (by omega), rd38_at hi, if_pos (by omega), if_pos (by omega), if_pos (by omega), if_pos (by omega), w64 _ (by omega)]
    simp only [beq_self_eq_true, Bool.not_true, Bool.or_self, if_neg (by decide : ¬ (false = true))]
    refine (ih (j + 1) k (by omega) (by omega)).trans ?_
    rw [show k + 1 - (m + 1) - 1 = k - m - 1 by omega]
theorem same21_l0 : ∀ (m i k : Nat), i + m = h.length → 200 * m + 200 < k → sennitref21_Same.l0 k h h i = some true := by
  intro m
  induction m with
  | zero =>
    intro i k hi hk
    obtain ⟨k, rfl⟩ : ∃ k', k = k' + 1 := ⟨k - 1, by omega⟩
    rw [sennitref21_Same.l0, if_neg (by omega)]
  | succ m ih =>
    intro i k hi hk
    obtain ⟨k, rfl⟩ : ∃ k', k = k' + 2 := ⟨k - 2, by omega⟩
    have hlt : i < h.length := by omega
    have hx := h0 _ (List.getElem_mem hlt)
    rw [sennitref21_Same.l0, if_pos (by omega), if_pos (by omega), if_pos (by omega)]
    simp only [beq_self_eq_true, Bool.not_true, Bool.or_self, if_neg (by decide : ¬ (false = true))]
    rw [if_pos trivial, rd38_at hlt, same19_f _ (by omega) (k + 1) (by omega)]
    simp only [Option.bind_some, Bool.not_true]
    rw [sennitref21_Same.j1, if_neg (by decide), show (0 : Int) = ((0 : Nat) : Int) from rfl, same21_l1 h hh h0 i hlt h[i].f0.length 0 k (by omega) (by omega)]
    exact ih (i + 1) _ (by omega) (by omega)
theorem same21_f (k : Nat) (hk : 200 * h.length + 200 < k) : sennitref21_Same.f k h h = some true := by
  unfold sennitref21_Same.f
  rw [if_pos rfl]
  exact same21_l0 h hh h0 h.length 0 k (by omega) hk
end
/-- The hunks, and the reference's, of few rows. -/
theorem hunks_both (l : List S41) (hf : FewP l) (ctx : Int) (dense : Bool) (k : Nat) (hk : 3000 ≤ k) : ∃ h e, hunk_Hunks.f k l ctx dense = some (h, e) ∧ sennitref21_Hunks.f k l ctx dense = some (h, e) ∧ h.length ≤ 40 ∧ ∀ x ∈ h, x.f0.length ≤ 20 ∧ x.f2.length ≤ 40 := by
  obtain ⟨k, rfl⟩ : ∃ k', k = k' + 2 := ⟨k - 2, by omega⟩
  have hM := hunkMay_f l hf (k + 2) (by omega)
  have hR := refMay_f l hf (k + 1) (by omega)
  have hl := hf.1
  have hn := marks_le l hf
  have hj : ∀ c : Bool, sennitref21_Hunks.j0 (k + 2) l ctx dense c = if c = true then some ([], 1) else if mayB l = true then sennitref21_Hunks.l0 (k + 1) l ctx dense [] 0 else some ([], 2) := by
    intro c
    rw [sennitref21_Hunks.j0, hR]; rfl
  unfold hunk_Hunks.f sennitref21_Hunks.f
  rw [hj, hj, hM, Option.bind_some]
  by_cases h0 : ctx < 0
  · rw [if_pos (Or.inl h0), if_pos h0, if_pos rfl]
    exact ⟨_, _, rfl, rfl, by simp, by simp⟩
  by_cases h1 : 1000 < ctx
  · rw [if_pos (Or.inr h1), if_neg h0, if_pos (decide_eq_true h1)]
    exact ⟨_, _, rfl, rfl, by simp, by simp⟩
  rw [if_neg (by omega), if_neg h0, if_neg (show ¬ (decide (ctx > 1000) = true) by simpa using h1)]
  cases hm : mayB l with
  | false => exact ⟨_, _, by rw [if_pos rfl], by rw [if_neg (by decide)], by simp, by simp⟩
  | true =>
    have hE := even_of_may l hm
    rw [if_neg (by decide), if_pos rfl]
    by_cases hz : l.length = 0
    · refine ⟨_, _, by rw [if_pos hz], ?_, by simp, by simp⟩
      rw [sennitref21_Hunks.l0, if_neg (by omega)]
    · rw [if_neg hz, if_pos ⟨⟨by omega, fun x hx => by have := (hf.2 x hx).1; omega⟩, by omega⟩, sennitref21_Hunks.l0, if_pos (by omega), show (0 : Int) = ((0 : Nat) : Int) from rfl,
        refHunks_l1 l _ hl hn hE ctx dense l.length 0 k 0 [] (by omega) (Nat.le_refl _) (Nat.le_refl _) (by omega), if_neg (by omega), List.drop_zero, List.nil_append]
      refine ⟨_, _, rfl, rfl, ?_, ?_⟩
      · rw [List.length_map]
        have := runsGo_length (showAll l ctx dense (groupsL l)) 0 none
        rw [showAll_length] at this
        simp at this
        omega
      · intro x hx
        obtain ⟨s, hs, rfl⟩ := List.mem_map.1 hx
        have hp : 0 < l.length := by omega
        have hzz : zerosOf l = List.replicate (marksOf l).toNat 0 := by
          unfold zerosOf
          rw [List.getElem?_eq_getElem hp]
          simp only [Option.elim]
          rw [(hE _ (List.getElem_mem hp)).1]
        unfold mkHunk midL
        rw [hzz]
        refine ⟨by rw [spans_length]; exact hn, ?_⟩
        show ((l.take s.2).drop s.1).length ≤ 40
        rw [List.length_drop, List.length_take]
        omega
theorem hunkTells_true (l : List S41) (ctx : Int) (dense : Bool) : ∃ k, sennitlaw21_HunkTells.f k l ctx dense = some true := by
  refine ⟨9000, ?_⟩
  obtain ⟨b, h1, h2⟩ := few_f l
  have ha := upk (f := fun k => sennitlaw21_awake.f k) (fun k => sennitlaw21_awake.mono k) awake_true 9000 (by omega)
  unfold sennitlaw21_HunkTells.f
  rw [show sennitlaw21_awake.f 9000 = some true from ha, h1 9000 (by omega)]
  simp only [Option.bind_some]
  cases b with
  | false => rfl
  | true =>
    obtain ⟨h, e, e1, e2, e3, e4⟩ := hunks_both l (h2 rfl) ctx dense 9000 (by omega)
    rw [if_pos rfl, e1, e2]
    simp only [Option.bind_some, if_true]
    rw [same21_f h (by omega) (fun x hx => by have := e4 x hx; omega) 9000 (by omega)]
    rfl
end Go.Proofs.YtenfoaajipiehaaDoor.Q
