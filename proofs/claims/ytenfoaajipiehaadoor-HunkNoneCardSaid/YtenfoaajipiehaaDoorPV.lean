/- The law HunkNone, as a Lean function, is true at every input. -/
import Derived.Test.YtenfoaajipiehaaDoorPK
import Derived.Test.YtenfoaajipiehaaDoorR12
import Derived.Test.YtenfoaajipiehaaDoorC1
import Derived.Test.YtenfoaajipiehaaDoorPU
import Derived.Test.YtenfoaajipiehaaDoorR20
namespace Go.Proofs.YtenfoaajipiehaaDoor.Q
set_option linter.unusedVariables false
set_option linter.unusedSimpArgs false
open Go.RowKit Go.Shelf Go.Proofs.YtenfoaajipiehaaDoorW.PrintWords
section
variable (l : List S41) (hf : l.length ≤ 900 ∧ ∀ x ∈ l, x.f0.size ≤ 20 ∧ x.f1.size ≤ 100)
include hf
theorem hunkMay_l0' : ∀ (m i k : Nat), i + m = l.length → m + 10 < k → hunk_May.l0 k l l (l.length : Int) i = some ((l.drop i).all fun x => decide (1 ≤ marksOf l) && (decide (marksOf l ≤ 16) && mayRow (marksOf l) x)) := by
  intro m
  induction m with
  | zero =>
    intro i k hi hk
    obtain ⟨k, rfl⟩ : ∃ k', k = k' + 1 := ⟨k - 1, by omega⟩
    rw [hunk_May.l0, if_neg (by omega), List.drop_of_length_le (by omega)]
    rfl
  | succ m ih =>
    intro i k hi hk
    obtain ⟨k, rfl⟩ : ∃ k', k = k' + 1 := ⟨k - 1, by omega⟩
    have hlt : i < l.length := by omega
    have hx := hf.2 _ (List.getElem_mem hlt)
    have hf1 := hf.1
    have hT : strings_Trim.f l[i].f0 ⟨#[32, 43, 45]⟩ = some ⟨(Lib.trimS l[i].f0.data.toList [32, 43, 45]).toArray⟩ := by
      unfold strings_Trim.f; rw [if_pos ⟨by omega, by decide, by decide⟩]
    have hP : strings_Contains.f l[i].f0 ⟨#[43]⟩ = some (l[i].f0.data.toList.any (· == 43)) := by rw [← any_index]; rfl
    have hQ : strings_Contains.f l[i].f0 ⟨#[45]⟩ = some (l[i].f0.data.toList.any (· == 45)) := by rw [← any_index]; rfl
    have hL := lines_one l[i].f1 (by omega) k (by omega)
    have hI := ih (i + 1) k (by omega) (by omega)
    have hw : wrap64 ((i : Int) + 1) = ((i + 1 : Nat) : Int) := by rw [w64 _ (by omega)]; omega
    have hA : ((⟨(Lib.trimS l[i].f0.data.toList [32, 43, 45]).toArray⟩ : ByteArray).toList = ([] : List UInt8)) ↔ l[i].f0.data.toList.all markC = true := by
      rw [Lib.toList_data]
      show Lib.trimS _ _ = [] ↔ _
      rw [trim_all]
      have e : ([32, 43, 45] : List UInt8).contains = markC := by funext b; simp [markC, List.contains_cons, Bool.or_assoc]; rfl
      rw [e]
    rw [hunk_May.l0, if_pos (by omega), if_pos (by omega), if_pos (by omega), rd_at hlt, hT, hP, hQ, hL, hw, hI, List.drop_eq_getElem_cons hlt, List.all_cons]
    simp only [Option.bind_some, hA]
    show _ = some ((decide (1 ≤ marksOf l) && (decide (marksOf l ≤ 16) && mayRow (marksOf l) l[i])) && _)
    have h0 : (0 : Int) < (l.length : Int) := by omega
    have hne : ¬ l = [] := fun e => by rw [e] at h0; simp at h0
    have hm : (((rd_T41 l 0).f0).size : Int) = marksOf l := rfl
    rw [hm]
    unfold mayRow
    generalize ((l.drop (i + 1)).all fun x => decide (1 ≤ marksOf l) && (decide (marksOf l ≤ 16) && (x.f0.data.toList.all markC && (decide ((x.f0.size : Int) = marksOf l) && (!(x.f0.data.toList.any (· == 43) && x.f0.data.toList.any (· == 45)) && oneL x.f1.data.toList))))) = R
    generalize l[i].f0.data.toList.all markC = A
    generalize l[i].f0.data.toList.any (· == 43) = P
    generalize l[i].f0.data.toList.any (· == 45) = Q
    generalize oneL l[i].f1.data.toList = O
    by_cases hs : (l[i].f0.size : Int) = marksOf l
    · by_cases h1 : marksOf l < 1
      · have d1 : decide (1 ≤ marksOf l) = false := decide_eq_false (by omega)
        cases P <;> simp [h0, hne, hs, h1, d1]
      · have d1 : decide (1 ≤ marksOf l) = true := decide_eq_true (by omega)
        by_cases h2 : marksOf l > 16
        · have d2 : decide (marksOf l ≤ 16) = false := decide_eq_false (by omega)
          cases P <;> simp [h0, hne, hs, h1, h2, d1, d2]
        · have d2 : decide (marksOf l ≤ 16) = true := decide_eq_true (by omega)
          cases A <;> cases P <;> cases Q <;> cases O <;> simp [h0, hne, hs, h1, h2, d1, d2]
    · cases P <;> simp [h0, hne, hs]
theorem hunkMay_f' (k : Nat) (hk : 911 ≤ k) : hunk_May.f k l = some (mayB l) := by
  have := hunkMay_l0' l hf l.length 0 k (by omega) (by have := hf.1; omega)
  simpa [hunk_May.f, mayB] using this
end
/-- Rows of a table may be. -/
theorem may_of_TR (n : Nat) (h1 : 1 ≤ n) (h16 : n ≤ 16) (l : List S41) (h : TR n l) : mayB l = true := by
  unfold mayB
  rw [List.all_eq_true]
  intro x hx
  have hp : 0 < l.length := List.length_pos_of_mem hx
  have hmk : marksOf l = n := by
    unfold marksOf
    rw [show (0 : Int) = ((0 : Nat) : Int) from rfl, rd_at hp, (h _ (List.getElem_mem hp)).1]
  obtain ⟨g1, g2, g3, g4⟩ := h x hx
  rw [hmk, decide_eq_true (by omega), decide_eq_true (by omega)]
  unfold mayRow
  have e1 : x.f0.data.toList.all markC = true := by
    rw [List.all_eq_true]
    intro b hb
    rcases g2 b hb with e | e | e <;> subst e <;> rfl
  have e2 : (x.f0.data.toList.any (· == 43) && x.f0.data.toList.any (· == 45)) = false := by
    cases hc : (x.f0.data.toList.any (· == 43) && x.f0.data.toList.any (· == 45)) with
    | false => rfl
    | true =>
      rw [Bool.and_eq_true, List.any_eq_true, List.any_eq_true] at hc
      obtain ⟨⟨p, hp1, hp2⟩, ⟨q, hq1, hq2⟩⟩ := hc
      rw [beq_iff_eq] at hp2 hq2
      subst hp2; subst hq2
      exact absurd ⟨hp1, hq1⟩ g3
  rw [e1, e2, g4.2, decide_eq_true (by omega)]
  rfl
/-- The next row with a mark. -/
theorem mk_up (l : List S41) : ∀ (d j : Nat), mk l j = false → mk l (j + d) = true → ∃ c, j < c ∧ c ≤ j + d ∧ mk l c = true ∧ ∀ i, j ≤ i → i < c → mk l i = false := by
  intro d
  induction d with
  | zero => intro j h0 h1; rw [Nat.add_zero, h0] at h1; cases h1
  | succ d ih =>
    intro j h0 h1
    cases hm : mk l (j + 1) with
    | true => exact ⟨j + 1, by omega, by omega, hm, fun i a b => (show i = j by omega) ▸ h0⟩
    | false =>
      obtain ⟨c, g1, g2, g3, g4⟩ := ih (j + 1) hm (by rw [show j + 1 + d = j + (d + 1) by omega]; exact h1)
      refine ⟨c, by omega, by omega, g3, fun i a b => ?_⟩
      rcases Nat.eq_or_lt_of_le a with e | e
      · subst e; exact h0
      · exact g4 i e b
/-- The row with a mark ahead. -/
theorem mk_down (l : List S41) : ∀ (d j : Nat), mk l (j + d) = false → mk l j = true → ∃ c, j ≤ c ∧ c < j + d ∧ mk l c = true ∧ ∀ i, c < i → i ≤ j + d → mk l i = false := by
  intro d
  induction d with
  | zero => intro j h0 h1; rw [Nat.add_zero, h1] at h0; cases h0
  | succ d ih =>
    intro j h0 h1
    cases hm : mk l (j + d) with
    | true => exact ⟨j + d, by omega, by omega, hm, fun i a b => (show i = j + (d + 1) by omega) ▸ h0⟩
    | false =>
      obtain ⟨c, g1, g2, g3, g4⟩ := ih j hm h1
      refine ⟨c, g1, by omega, g3, fun i a b => ?_⟩
      by_cases e : i = j + (d + 1)
      · subst e; exact h0
      · exact g4 i a (by omega)
theorem all_shown (l : List S41) (hl : l.length ≤ 900) (p : Nat) (hp : mk l p = true) (j : Nat) (hj : j < l.length) : (showAll l 1000 false (groupsL l))[j]? = some true := by
  have hpl := mk_lt hp
  refine (showAll_get l 1000 false j hj).2 ?_
  cases hm : mk l j with
  | true =>
    obtain ⟨f, t, -, hG, h1, h2⟩ := groupsL_all l j hm
    exact ⟨f, t, hG, rfl, Or.inl ⟨h1, h2⟩⟩
  | false =>
    rcases Nat.lt_or_ge j p with h | h
    · obtain ⟨c, g1, g2, g3, g4⟩ := mk_up l (p - j) j hm (by rw [show j + (p - j) = p by omega]; exact hp)
      obtain ⟨f, t, -, hG, h1, h2⟩ := groupsL_all l c g3
      have hcl := mk_lt g3
      have hfc : f = c := by
        rcases Nat.eq_or_lt_of_le h1 with e | e
        · exact e
        · have := hG.all (c - 1) (by omega) (by omega)
          rw [g4 (c - 1) (by omega) (by omega)] at this; cases this
      subst hfc
      exact ⟨f, t, hG, rfl, Or.inr (Or.inl ⟨g1, by omega, fun i a b => g4 i a b⟩)⟩
    · obtain ⟨c, g1, g2, g3, g4⟩ := mk_down l (j - p) p (by rw [show p + (j - p) = j by omega]; exact hm) hp
      obtain ⟨f, t, -, hG, h1, h2⟩ := groupsL_all l c g3
      have ht : t = c + 1 := by
        rcases Nat.eq_or_lt_of_le h2 with e | e
        · exact e.symm
        · have := hG.all (c + 1) (by omega) (by omega)
          rw [g4 (c + 1) (by omega) (by omega)] at this; cases this
      exact ⟨f, t, hG, rfl, Or.inr (Or.inr ⟨by omega, by omega, fun i a b => g4 i (by omega) (by omega)⟩)⟩
theorem runs_all : ∀ (n p s : Nat), runsGo p (List.replicate n true) (some s) = [(s, p + n)] := by
  intro n
  induction n with
  | zero => intro p s; rfl
  | succ n ih =>
    intro p s
    rw [List.replicate_succ, runsGo]
    simp only [if_true]
    rw [ih (p + 1) s, show p + 1 + n = p + (n + 1) by omega]
theorem runs_none : ∀ (n p : Nat), runsGo p (List.replicate n false) none = [] := by
  intro n
  induction n with
  | zero => intro p; rfl
  | succ n ih =>
    intro p
    rw [List.replicate_succ, runsGo]
    simpa using ih (p + 1)
theorem any_mk (l : List S41) : l.any markedB = true ↔ ∃ p, mk l p = true := by
  rw [List.any_eq_true]
  constructor
  · rintro ⟨x, hx, hm⟩
    obtain ⟨i, hi, rfl⟩ := List.getElem_of_mem hx
    exact ⟨i, by rw [mk_at hi]; exact hm⟩
  · rintro ⟨p, hp⟩
    have h := mk_lt hp
    rw [mk_at h] at hp
    exact ⟨l[p], List.getElem_mem h, hp⟩
/-- One hunk of all rows, or none. -/
theorem hunks_none (l : List S41) (hl : l.length ≤ 900) : (runsGo 0 (showAll l 1000 false (groupsL l)) none) = if l.any markedB = true then [(0, l.length)] else [] := by
  cases hb : l.any markedB with
  | true =>
    obtain ⟨p, hp⟩ := (any_mk l).1 hb
    have hpl := mk_lt hp
    have hS : showAll l 1000 false (groupsL l) = List.replicate l.length true := by
      refine List.ext_getElem? (fun i => ?_)
      by_cases hi : i < l.length
      · rw [all_shown l hl p hp i hi, List.getElem?_replicate, if_pos hi]
      · rw [List.getElem?_eq_none (by rw [showAll_length]; omega), List.getElem?_eq_none (by rw [List.length_replicate]; omega)]
    rw [hS, if_pos rfl]
    obtain ⟨n, hn⟩ : ∃ n, l.length = n + 1 := ⟨l.length - 1, by omega⟩
    rw [hn, List.replicate_succ, runsGo]
    simp only [if_true]
    rw [runs_all n (0 + 1) 0, show 0 + 1 + n = n + 1 by omega]
  | false =>
    have hg : groupsL l = [] := by
      cases hc : groupsL l with
      | nil => rfl
      | cons x xs =>
        obtain ⟨f, t, -, hG⟩ := groupsL_isG l x (by rw [hc]; exact List.mem_cons_self)
        have := (any_mk l).2 ⟨f, hG.all f (Nat.le_refl _) hG.lt⟩
        rw [hb] at this; cases this
    rw [hg, if_neg (by decide)]
    exact runs_none l.length 0
theorem hunkNone_true (r : List ByteArray) (ps : List (List ByteArray)) : ∃ k, sennitlaw21_HunkNone.f k r ps = some true := by
  obtain ⟨K, hKK⟩ : ∃ K : Nat, 200000 ≤ K := ⟨200000, Nat.le_refl _⟩
  refine ⟨K, ?_⟩
  have ha := upk (f := fun k => sennitlaw21_awake.f k) (fun k => sennitlaw21_awake.mono k) awake_true K (by omega)
  obtain ⟨b, h1, h2⟩ := may20_f r ps K (by omega)
  unfold sennitlaw21_HunkNone.f
  rw [show sennitlaw21_awake.f K = some true from ha, h1, Option.bind_some, Option.bind_some]
  cases b with
  | false => rfl
  | true =>
    obtain ⟨hT, hw⟩ := h2 rfl
    obtain ⟨rows, t1, t2, t3, t4⟩ := table_f r ps hT K (by omega) hw
    have hp1 := hT.p1
    have hp6 := hT.p6
    have hr := hT.r16.1
    have hmay := may_of_TR ps.length (by omega) (by omega) rows t2
    have hsz : ∀ x ∈ rows, x.f0.size ≤ 20 ∧ x.f1.size ≤ 100 := fun x hx => ⟨by have := (t2 x hx).1; omega, (t2 x hx).2.2.2.1⟩
    have hH : hunk_Hunks.f K rows 1000 false = some ((runsGo 0 (showAll rows 1000 false (groupsL rows)) none).map (mkHunk rows (zerosOf rows)), 0) := by
      unfold hunk_Hunks.f
      rw [if_neg (by omega), hunkMay_f' rows ⟨by omega, hsz⟩ K (by omega), Option.bind_some, hmay, if_neg (by decide)]
      by_cases hz : rows.length = 0
      · rw [if_pos hz]
        have e := List.length_eq_zero_iff.1 hz
        subst e
        rfl
      · rw [if_neg hz, if_pos ⟨⟨by omega, fun x hx => by have := (hsz x hx).1; omega⟩, by omega⟩]
    have hK : hunk_Hunks.f K rows 1001 false = some ([], 1) := by
      unfold hunk_Hunks.f
      rw [if_pos (by omega)]
    rw [if_pos rfl, t1, Option.bind_some]
    simp only [hH, hK, Option.bind_some]
    rw [hunks_none rows (by omega)]
    have hloop : ∀ (h : List S38) (m i k : Nat) (b : Bool), i + m = rows.length → m + 100 < k → (∀ k', 50 ≤ k' → sennitlaw21_HunkNone.l0 (k' + rows.length) r true rows h 0 [] 1 (rows.any markedB) rows.length = some true) → 100 + rows.length + m < k → (b || (rows.drop i).any markedB) = rows.any markedB → sennitlaw21_HunkNone.l0 k r true rows h 0 [] 1 b i = some true := by
      intro h m
      induction m with
      | zero =>
        intro i k b hi hk hfin hk2 hb
        obtain rfl : i = rows.length := by omega
        rw [List.drop_of_length_le (by omega)] at hb
        simp only [List.any_nil, Bool.or_false] at hb
        have := hfin (k - rows.length) (by omega)
        rw [show k - rows.length + rows.length = k by omega, ← hb] at this
        exact this
      | succ m ih =>
        intro i k b hi hk hfin hk2 hb
        obtain ⟨k, rfl⟩ : ∃ k', k = k' + 1 := ⟨k - 1, by omega⟩
        have hlt : i < rows.length := by omega
        have hx := hsz _ (List.getElem_mem hlt)
        rw [List.drop_eq_getElem_cons hlt, List.any_cons] at hb
        rw [sennitlaw21_HunkNone.l0, if_pos (by omega), w1 i (by omega)]
        cases b with
        | true =>
          rw [if_pos rfl]
          exact ih (i + 1) k true (by omega) (by omega) hfin (by omega) (by rw [← hb]; rfl)
        | false =>
          rw [if_neg (by decide), if_pos (by omega), rd_at hlt, ref_marked _ (by omega) k (by omega), Option.bind_some]
          exact ih (i + 1) k _ (by omega) (by omega) hfin (by omega) (by rw [← hb]; simp)
    refine hloop _ rows.length 0 K false (by omega) (by omega) (fun k' hk' => ?_) (by omega) (by simp)
    obtain ⟨k, hk⟩ : ∃ k, k' + rows.length = k + 1 := ⟨k' + rows.length - 1, by omega⟩
    rw [hk]
    cases hb : rows.any markedB with
    | true =>
      have hp : 0 < rows.length := by
        obtain ⟨p, hp⟩ := (any_mk rows).1 hb
        have := mk_lt hp
        omega
      have e2 : (mkHunk rows (zerosOf rows) (0, rows.length)).f2 = rows := by
        show midL rows 0 rows.length = rows
        unfold midL; simp
      have e1 : (mkHunk rows (zerosOf rows) (0, rows.length)).f1.f1 = (r.length : Int) := by
        show newRows (rows.take rows.length) 0 = _
        rw [newRows_count, List.take_length, t3]; simp
      rw [if_pos rfl, List.map_cons, List.map_nil, sennitlaw21_HunkNone.l0, if_neg (by omega), if_pos rfl, if_pos (by simp)]
      rw [show rd_T38 [mkHunk rows (zerosOf rows) (0, rows.length)] 0 = mkHunk rows (zerosOf rows) (0, rows.length) from rfl, e2, same19_f rows (by omega) k (by omega), Option.bind_some, e1]
      simp
    | false =>
      rw [if_neg (by decide), List.map_nil, sennitlaw21_HunkNone.l0, if_neg (by omega), if_neg (by simp)]
      simp
end Go.Proofs.YtenfoaajipiehaaDoor.Q
