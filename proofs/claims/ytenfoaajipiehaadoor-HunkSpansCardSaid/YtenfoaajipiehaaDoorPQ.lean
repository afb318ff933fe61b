/- The law HunkSpans, as a Lean function, is true at every input. -/
import Derived.Test.YtenfoaajipiehaaDoorPO
import Derived.Test.YtenfoaajipiehaaDoorB5
namespace Go.Proofs.YtenfoaajipiehaaDoor.Q
set_option linter.unusedVariables false
set_option linter.unusedSimpArgs false
open Go.RowKit Go.Shelf Go.Proofs.YtenfoaajipiehaaDoorW.PrintWords
/-- Runs stand in turn, and nothing between them. -/
def Chain (S : List Bool) : Nat → List (Nat × Nat) → Prop
  | _, [] => True
  | p, r :: rs => p ≤ r.1 ∧ r.1 < r.2 ∧ r.2 ≤ S.length ∧ (∀ i, p ≤ i → i < r.1 → S[i]? = some false) ∧ Chain S r.2 rs
theorem runs_chain (S : List Bool) : ∀ (n p : Nat), p + n = S.length → Chain S p (runsGo p (S.drop p) none) := by
  intro n
  induction n using Nat.strongRecOn with
  | ind n ih =>
    intro p hp
    by_cases h : p < S.length
    · cases hb : S[p] with
      | false =>
        rw [runsGo_skip h hb]
        have hI := ih (n - 1) (by omega) (p + 1) (by omega)
        cases hr : runsGo (p + 1) (S.drop (p + 1)) none with
        | nil => trivial
        | cons r rs =>
          rw [hr] at hI
          obtain ⟨h1, h2, h3, h4, h5⟩ := hI
          refine ⟨by omega, h2, h3, fun i a b => ?_, h5⟩
          rcases Nat.eq_or_lt_of_le a with e | e
          · subst e; rw [List.getElem?_eq_getElem h, hb]
          · exact h4 i e b
      | true =>
        obtain ⟨t, h1, h2, h3, h4, h5⟩ := run_some S (n - 1) (p + 1) p (by omega)
        rw [runsGo_open h hb, h5]
        exact ⟨Nat.le_refl _, by show p < t; omega, h2, fun i a b => by have : i < p := b; omega, ih (S.length - t) (by omega) t (by omega)⟩
    · rw [List.drop_of_length_le (by omega)]
      trivial
/-- Where the run ahead of one ended. -/
def lastT (p : Nat) (rs : List (Nat × Nat)) (i : Nat) : Nat := if i = 0 then p else (rs[i - 1]?.elim 0 (·.2))
theorem chain_get (S : List Bool) : ∀ (rs : List (Nat × Nat)) (p i : Nat) (hi : i < rs.length), Chain S p rs → lastT p rs i ≤ rs[i].1 ∧ rs[i].1 < rs[i].2 ∧ rs[i].2 ≤ S.length ∧ (∀ q, lastT p rs i ≤ q → q < rs[i].1 → S[q]? = some false) := by
  intro rs
  induction rs with
  | nil => intro p i hi; simp at hi
  | cons r rs ih =>
    intro p i hi hC
    obtain ⟨h1, h2, h3, h4, h5⟩ := hC
    cases i with
    | zero => exact ⟨h1, h2, h3, h4⟩
    | succ i =>
      have hi' : i < rs.length := by simpa using hi
      obtain ⟨g1, g2, g3, g4⟩ := ih r.2 i hi' h5
      have e : lastT p (r :: rs) (i + 1) = lastT r.2 rs i := by
        unfold lastT
        rw [if_neg (by omega)]
        cases i with
        | zero => simp
        | succ i => simp
      rw [e]
      exact ⟨g1, g2, g3, g4⟩
/-- Lines of the result, and of a parent, in the rows ahead of a place. -/
def cN (l : List S41) (p : Nat) : Nat := (l.take p).countP fun x => !lostB x
def cO (l : List S41) (j p : Nat) : Nat := (l.take p).countP (ofB j)
theorem cN_mid (l : List S41) (p q : Nat) (h : p ≤ q) : cN l q = cN l p + (midL l p q).countP fun x => !lostB x := by
  unfold cN; rw [mid_split l p q h, List.countP_append]
theorem cO_mid (l : List S41) (j p q : Nat) (h : p ≤ q) : cO l j q = cO l j p + (midL l p q).countP (ofB j) := by
  unfold cO; rw [mid_split l p q h, List.countP_append]
theorem cN_le (l : List S41) (p : Nat) : cN l p ≤ l.length := Nat.le_trans List.countP_le_length (List.length_take_le' _ _)
theorem cO_le (l : List S41) (j p : Nat) : cO l j p ≤ l.length := Nat.le_trans List.countP_le_length (List.length_take_le' _ _)
/-- A row without a mark is the result's, and each parent's. -/
theorem blank_row (x : S41) (h : markedB x = false) : lostB x = false ∧ ∀ j : Nat, j < x.f0.size → ofB j x = true := by
  have hall : ∀ b ∈ x.f0.data.toList, b = 32 := by
    unfold markedB at h
    rw [List.any_eq_false] at h
    intro b hb
    have := h b hb
    simpa using this
  have hl : lostB x = false := by
    unfold lostB
    cases hc : x.f0.data.toList.contains 45 with
    | false => rfl
    | true =>
      have := hall 45 (by simpa using hc)
      cases this
  refine ⟨hl, fun j hj => ?_⟩
  have hj' : j < x.f0.data.toList.length := hj
  unfold ofB
  rw [decide_eq_true (by omega : (0 : Int) ≤ j), decide_eq_true (by omega : (j : Int) < x.f0.size), bt_get _ _ hj', hall _ (List.getElem_mem hj'), hl]
  rfl
theorem blank_mid (l : List S41) (n : Nat) (hE : Even n l) (p q : Nat) (hpq : p ≤ q) (hq : q ≤ l.length) (hb : ∀ i, p ≤ i → i < q → mk l i = false) : cN l q = cN l p + (q - p) ∧ ∀ j, j < n → cO l j q = cO l j p + (q - p) := by
  have hx : ∀ x ∈ midL l p q, markedB x = false ∧ x.f0.size = n := by
    intro x hx
    obtain ⟨i, hi, rfl⟩ := List.getElem_of_mem hx
    have hlen := mid_length l p q hq
    have e := mid_get l p q i hq (by omega) hi
    have hm := hb (p + i) (by omega) (by omega)
    rw [mk_at (by omega)] at hm
    exact ⟨by rw [e]; exact hm, by rw [e]; exact (hE _ (List.getElem_mem _)).1⟩
  constructor
  · rw [cN_mid l p q hpq, List.countP_eq_length.2 (fun x h => by rw [(blank_row x (hx x h).1).1]; rfl), mid_length l p q hq]
  · intro j hj
    rw [cO_mid l j p q hpq, List.countP_eq_length.2 (fun x h => (blank_row x (hx x h).1).2 j (by rw [(hx x h).2]; exact hj)), mid_length l p q hq]
theorem mk_f1 (l : List S41) (n : Nat) (hE : Even n l) (s t : Nat) : (mkHunk l (zerosOf l) (s, t)).f1 = ⟨cN l s, cN l t⟩ := by
  unfold mkHunk
  show (⟨newRows (l.take s) 0, newRows (l.take t) 0⟩ : S36) = _
  rw [newRows_count, newRows_count]
  unfold cN
  simp
section
variable (l : List S41) (n : Nat) (hE : Even n l)
include hE
theorem mk_f0 (hp : 0 < l.length) (s t : Nat) (hst : s ≤ t) : (mkHunk l (zerosOf l) (s, t)).f0.length = n ∧ ∀ j : Nat, j < n → rd_T36 (mkHunk l (zerosOf l) (s, t)).f0 j = ⟨cO l j s, cO l j t⟩ := by
  have hz : zerosOf l = List.replicate n 0 := by
    unfold zerosOf
    rw [List.getElem?_eq_getElem hp]
    simp only [Option.elim]
    rw [(hE _ (List.getElem_mem hp)).1]
  have hl := spans_length l n s t
  unfold mkHunk
  rw [hz]
  refine ⟨hl, fun j hj => ?_⟩
  have hg := spans_get l n s t j hj hst
  have hjl : j < (spansOf (passRows (l.take s) (List.replicate n 0)) (passRows (l.take t) (List.replicate n 0))).length := by omega
  rw [List.getElem?_eq_getElem hjl] at hg
  show rd_T36 (spansOf (passRows (l.take s) (List.replicate n 0)) (passRows (l.take t) (List.replicate n 0))) j = _
  rw [rd36_at hjl, Option.some.inj hg, cO_mid l j s t hst]
  unfold cO
  simp
end
section
variable (l : List S41) (hf : FewP l) (dense : Bool) (h : List S38) (hh : h.length ≤ 1000)
include hf hh
/-- What is told of a hunk: its rows, and where the one ahead of it ended. -/
structure SpanP (l : List S41) (dense : Bool) (n s t q : Nat) (last : List S36) (i : Nat) : Prop where
  qs : q ≤ s
  st : s < t
  tl : t ≤ l.length
  la : 0 < i → last.length = n ∧ ∀ j : Nat, j < n → (rd_T36 last j).f1 = cO l j q
  z : i = 0 → q = 0
  gap : dense = false → cN l s = cN l q + (s - q) ∧ ∀ j, j < n → cO l j s = cO l j q + (s - q)
theorem spans_l1 (n : Nat) (hE : Even n l) (hn : n ≤ 20) (i : Nat) (hi : i < h.length) (s t q : Nat) (hhi : h[i] = mkHunk l (zerosOf l) (s, t)) (last : List S36) (a b : Int) (rows : List S41) (hS : SpanP l dense n s t q last i) : ∀ (m j k : Nat), j + m = n → m + 5 < k →
    sennitlaw21_HunkSpans.l1 k l dense true h i ((cN l s : Int) - cN l q) j last a b rows = sennitlaw21_HunkSpans.l0 (k - m - 1) l dense true h ((i + 1 : Nat) : Int) h[i].f0 h[i].f1.f0 h[i].f1.f1 h[i].f2 := by
  have hl := hf.1
  have hst := hS.st
  have htl := hS.tl
  obtain ⟨hf0, hf1⟩ := mk_f0 l n hE (by omega) s t (Nat.le_of_lt hst)
  have hml : (midL l s t).length ≤ 40 := by rw [mid_length l s t htl]; omega
  intro m
  induction m with
  | zero =>
    intro j k hj hk
    obtain ⟨k, rfl⟩ : ∃ k', k = k' + 1 := ⟨k - 1, by omega⟩
    rw [sennitlaw21_HunkSpans.l1, if_pos (by omega), if_pos (by omega), rd38_at hi, if_neg (by rw [hhi, hf0]; omega), w64 _ (by omega)]
    rfl
  | succ m ih =>
    intro j k hj hk
    obtain ⟨k, rfl⟩ : ∃ k', k = k' + 1 := ⟨k - 1, by omega⟩
    have hjn : j < n := by omega
    have hI := ih (j + 1) k (by omega) (by omega)
    have e1 := hf1 j hjn
    have hC : table_Column.f (midL l s t) j = some (((midL l s t).filter (ofB j)).map (·.f1)) := by unfold table_Column.f; rw [if_pos (by omega)]
    have hlen : ((((midL l s t).filter (ofB j)).map (·.f1)).length : Int) = (cO l j t : Int) - cO l j s := by
      rw [List.length_map, ← List.countP_eq_length_filter, cO_mid l j s t (Nat.le_of_lt hst)]; omega
    have b1 := cO_le l j s
    have b2 := cO_le l j t
    have b3 := cO_le l j q
    have hmid := cO_mid l j q s hS.qs
    have hmid2 := cO_mid l j s t (Nat.le_of_lt hst)
    have hf2 : (mkHunk l (zerosOf l) (s, t)).f2 = midL l s t := rfl
    rw [sennitlaw21_HunkSpans.l1, if_pos (by omega), if_pos (by omega), rd38_at hi, hhi, if_pos (by rw [hf0]; omega), if_pos (by omega), hf2, e1]
    simp only [hC, Option.bind_some, hlen]
    rw [hhi] at hI
    have hfin : sennitlaw21_HunkSpans.l1 k l dense true h i ((cN l s : Int) - cN l q) (wrap64 ((j : Int) + 1)) last a b rows = sennitlaw21_HunkSpans.l0 (k + 1 - (m + 1) - 1) l dense true h ((i + 1 : Nat) : Int) (mkHunk l (zerosOf l) (s, t)).f0 (mkHunk l (zerosOf l) (s, t)).f1.f0 (mkHunk l (zerosOf l) (s, t)).f1.f1 (midL l s t) := by
      rw [w64 _ (by omega), show k + 1 - (m + 1) - 1 = k - m - 1 by omega]; exact hI
    by_cases h0 : 0 < i
    · obtain ⟨g1, g2⟩ := hS.la h0
      have e2 := g2 j hjn
      rw [if_pos (by omega), if_pos (by omega), e2, if_neg (by omega)]
      cases dense with
      | true => rw [if_pos rfl, if_pos (by rw [w64 _ (by omega)]), hfin]
      | false =>
        have hg := (hS.gap rfl).2 j hjn
        have hg2 := (hS.gap rfl).1
        rw [if_neg (by decide), if_pos (by rw [w64 _ (by omega)]; omega), if_pos (by rw [w64 _ (by omega)]), hfin]
    · have hq := hS.z (by omega)
      subst hq
      have z1 : cO l j 0 = 0 := by simp [cO]
      have z2 : cN l 0 = 0 := by simp [cN]
      rw [if_neg (by omega), if_neg (by omega)]
      cases dense with
      | true => rw [if_pos rfl, if_pos (by rw [w64 _ (by omega)]), hfin]
      | false =>
        have hg := (hS.gap rfl).2 j hjn
        have hg2 := (hS.gap rfl).1
        rw [if_neg (by decide), if_pos (by rw [w64 _ (by omega)]; omega), if_pos (by rw [w64 _ (by omega)]), hfin]
end
/-- The hunk ahead of one. -/
def lastH (h : List S38) (i : Nat) : S38 := if i = 0 then ⟨[], ⟨0, 0⟩, []⟩ else h.getD (i - 1) z38
theorem spans_l0 (l : List S41) (hf : FewP l) (hm : mayB l = true) (dense : Bool) (ctx : Int) (hc : 0 ≤ ctx) : ∀ (m i k : Nat), i + m = (hunksL l ctx dense).length → 60 * m + 100 < k →
    sennitlaw21_HunkSpans.l0 k l dense true (hunksL l ctx dense) i (lastH (hunksL l ctx dense) i).f0 (lastH (hunksL l ctx dense) i).f1.f0 (lastH (hunksL l ctx dense) i).f1.f1 (lastH (hunksL l ctx dense) i).f2 = some true := by
  have hl := hf.1
  have hn := marks_le l hf
  have hE := even_of_may l hm
  have hS : (showAll l ctx dense (groupsL l)).length = l.length := showAll_length ..
  have hch := runs_chain (showAll l ctx dense (groupsL l)) (showAll l ctx dense (groupsL l)).length 0 (by omega)
  rw [List.drop_zero] at hch
  have hhl := hunksL_length l hl ctx dense
  have hge : ∀ i (hi : i < (hunksL l ctx dense).length), (hunksL l ctx dense)[i] = mkHunk l (zerosOf l) ((runsGo 0 (showAll l ctx dense (groupsL l)) none)[i]'(by unfold hunksL at hi; simpa using hi)) := fun i hi => by simp [hunksL]
  intro m
  induction m with
  | zero =>
    intro i k hi hk
    obtain ⟨k, rfl⟩ : ∃ k', k = k' + 1 := ⟨k - 1, by omega⟩
    rw [sennitlaw21_HunkSpans.l0, if_neg (by omega)]
  | succ m ih =>
    intro i k hi hk
    obtain ⟨k, rfl⟩ : ∃ k', k = k' + 2 := ⟨k - 2, by omega⟩
    have hlt : i < (hunksL l ctx dense).length := by omega
    have hltR : i < (runsGo 0 (showAll l ctx dense (groupsL l)) none).length := by have := hlt; unfold hunksL at this; simpa using this
    obtain ⟨g1, g2, g3, g4⟩ := chain_get _ _ 0 i hltR hch
    have hgi := hge i hlt
    obtain ⟨s, hs⟩ : ∃ s, s = ((runsGo 0 (showAll l ctx dense (groupsL l)) none)[i]).1 := ⟨_, rfl⟩
    obtain ⟨t, ht⟩ : ∃ t, t = ((runsGo 0 (showAll l ctx dense (groupsL l)) none)[i]).2 := ⟨_, rfl⟩
    obtain ⟨q, hq⟩ : ∃ q, q = lastT 0 (runsGo 0 (showAll l ctx dense (groupsL l)) none) i := ⟨_, rfl⟩
    rw [← hs, ← hq] at g1
    rw [← hs, ← ht] at g2
    rw [← ht] at g3
    rw [← hq, ← hs] at g4
    have hst : (runsGo 0 (showAll l ctx dense (groupsL l)) none)[i] = (s, t) := by rw [hs, ht]
    rw [hst] at hgi
    have hp : 0 < l.length := by omega
    have hlast : (lastH (hunksL l ctx dense) i).f1.f1 = cN l q ∧ (0 < i → (lastH (hunksL l ctx dense) i).f0.length = (marksOf l).toNat ∧ ∀ j : Nat, j < (marksOf l).toNat → (rd_T36 (lastH (hunksL l ctx dense) i).f0 j).f1 = cO l j q) := by
      by_cases h0 : i = 0
      · subst h0
        have hq0 : q = 0 := by rw [hq]; rfl
        subst hq0
        refine ⟨by simp [lastH, cN], fun h => by omega⟩
      · have hlt1 : i - 1 < (hunksL l ctx dense).length := by omega
        have hltR1 : i - 1 < (runsGo 0 (showAll l ctx dense (groupsL l)) none).length := by omega
        have e1 : lastH (hunksL l ctx dense) i = (hunksL l ctx dense)[i - 1] := by unfold lastH; rw [if_neg h0, List.getD_eq_getElem?_getD, List.getElem?_eq_getElem hlt1]; rfl
        have e2 : q = ((runsGo 0 (showAll l ctx dense (groupsL l)) none)[i - 1]).2 := by rw [hq]; unfold lastT; rw [if_neg h0, List.getElem?_eq_getElem hltR1]; rfl
        obtain ⟨-, g2', -, -⟩ := chain_get _ _ 0 (i - 1) hltR1 hch
        rw [e1, hge (i - 1) hlt1]
        obtain ⟨s', hs'⟩ : ∃ s, s = ((runsGo 0 (showAll l ctx dense (groupsL l)) none)[i - 1]).1 := ⟨_, rfl⟩
        have hst' : (runsGo 0 (showAll l ctx dense (groupsL l)) none)[i - 1] = (s', q) := by rw [hs', e2]
        rw [hst'] at g2' ⊢
        rw [mk_f1 l (marksOf l).toNat hE]
        obtain ⟨m1, m2⟩ := mk_f0 l (marksOf l).toNat hE hp s' q (Nat.le_of_lt g2')
        exact ⟨rfl, fun _ => ⟨m1, fun j hj => by rw [m2 j hj]⟩⟩
    have hSP : SpanP l dense (marksOf l).toNat s t q (lastH (hunksL l ctx dense) i).f0 i := by
      refine ⟨g1, g2, by omega, hlast.2, fun h => by subst h; rw [hq]; rfl, fun hd => ?_⟩
      subst hd
      refine blank_mid l _ hE q s g1 (by omega) (fun p a b => ?_)
      cases hmk : mk l p with
      | false => rfl
      | true =>
        obtain ⟨f, t', -, hG, x1, x2⟩ := groupsL_all l p hmk
        have := (showAll_get l ctx false p (mk_lt hmk)).2 ⟨f, t', hG, rfl, Or.inl ⟨x1, x2⟩⟩
        rw [g4 p a b] at this; cases this
    have hf1 := mk_f1 l (marksOf l).toNat hE s t
    obtain ⟨hf0, -⟩ := mk_f0 l (marksOf l).toNat hE hp s t (Nat.le_of_lt g2)
    have c1 := cN_le l s
    have c2 := cN_le l t
    have c3 := cN_le l q
    have c4 := cN_mid l q s g1
    have c5 := cN_mid l s t (Nat.le_of_lt g2)
    have hml : (midL l s t).length = t - s := mid_length l s t (by omega)
    have hR : table_Result.f (midL l s t) = some (((midL l s t).filter fun x => !lostB x).map (·.f1)) := by unfold table_Result.f; rw [if_pos (by omega)]
    have hlen : ((((midL l s t).filter fun x => !lostB x).map (·.f1)).length : Int) = (cN l t : Int) - cN l s := by
      rw [List.length_map, ← List.countP_eq_length_filter]; omega
    have hsz : ((rd_T41 l 0).f0).size = (marksOf l).toNat := by
      rw [show (rd_T41 l 0).f0 = (rd_T41 l ((0 : Nat) : Int)).f0 from rfl, rd_at hp]; exact (hE _ (List.getElem_mem hp)).1
    have hf2 : (mkHunk l (zerosOf l) (s, t)).f2 = midL l s t := rfl
    rw [sennitlaw21_HunkSpans.l0, if_pos (by omega), if_pos (by omega), rd38_at hlt, hgi, hf1, hf2, hlast.1]
    simp only []
    rw [if_neg (by rw [w64 _ (by omega)]; omega), hR, Option.bind_some, hlen, if_pos (by rw [w64 _ (by omega)]), if_pos (by omega), if_pos (by rw [hf0, hsz]), sennitlaw21_HunkSpans.j2, if_neg (by rw [hml]; simp; omega), w64 _ (by omega)]
    have hl1 := spans_l1 l hf dense (hunksL l ctx dense) (by omega) (marksOf l).toNat hE hn i hlt s t q hgi (lastH (hunksL l ctx dense) i).f0 (lastH (hunksL l ctx dense) i).f1.f0 (cN l q) (lastH (hunksL l ctx dense) i).f2 hSP (marksOf l).toNat 0 k (by omega) (by omega)
    refine hl1.trans ?_
    have hI := ih (i + 1) (k - (marksOf l).toNat - 1) (by omega) (by omega)
    have e : lastH (hunksL l ctx dense) (i + 1) = (hunksL l ctx dense)[i] := by unfold lastH; rw [if_neg (by omega), Nat.add_sub_cancel, List.getD_eq_getElem?_getD, List.getElem?_eq_getElem hlt]; rfl
    rw [e] at hI
    exact hI
theorem hunkSpans_true (l : List S41) (a1 : Int) (dense : Bool) (hb : 0 ≤ a1 ∧ a1 ≤ 255) : ∃ k, sennitlaw21_HunkSpans.f k l a1 dense = some true := by
  refine ⟨70000, ?_⟩
  obtain ⟨c, h1, h2⟩ := few_f l
  have ha := upk (f := fun k => sennitlaw21_awake.f k) (fun k => sennitlaw21_awake.mono k) awake_true 70000 (by omega)
  unfold sennitlaw21_HunkSpans.f
  rw [show sennitlaw21_awake.f 70000 = some true from ha, h1 70000 (by omega), Option.bind_some, Option.bind_some]
  have hj : ∀ c : Bool, sennitlaw21_HunkSpans.j0 70000 l a1 dense true c = if c = true then some true else (hunk_Hunks.f 69999 l (wrap64 a1) dense).bind fun bt => sennitlaw21_HunkSpans.l0 69999 l dense true bt.1 0 [] 0 0 [] := fun c => by rw [sennitlaw21_HunkSpans.j0]
  cases c with
  | false => rw [if_neg (by decide), hj, if_pos rfl]
  | true =>
    have hf := h2 rfl
    have hl := hf.1
    rw [if_pos rfl, refMay_f l hf 70000 (by omega), Option.bind_some]
    cases hm : mayB l with
    | false => rw [hj, if_pos (by decide)]
    | true =>
      rw [hj, if_neg (by decide), w64 _ (by omega), hunks_f l hf hm a1 hb.1 (by omega) dense 69999 (by omega), Option.bind_some]
      exact spans_l0 l hf hm dense a1 hb.1 (hunksL l a1 dense).length 0 69999 (by omega) (by have := hunksL_length l hl a1 dense; omega)
end Go.Proofs.YtenfoaajipiehaaDoor.Q
