/- The law HunkCovers, as a Lean function, is true at every input. -/
import Derived.Test.YtenfoaajipiehaaDoorPK
import Derived.Test.YtenfoaajipiehaaDoorR12
namespace Go.Proofs.YtenfoaajipiehaaDoor.Q
set_option linter.unusedVariables false
set_option linter.unusedSimpArgs false
open Go.RowKit Go.Shelf Go.Proofs.YtenfoaajipiehaaDoorW.PrintWords
/-- The hunks of few rows that may be. -/
theorem hunks_f (l : List S41) (hf : FewP l) (hm : mayB l = true) (ctx : Int) (h0 : 0 ≤ ctx) (h1 : ctx ≤ 1000) (dense : Bool) (k : Nat) (hk : 3000 ≤ k) : hunk_Hunks.f k l ctx dense = some ((runsGo 0 (showAll l ctx dense (groupsL l)) none).map (mkHunk l (zerosOf l)), 0) := by
  have hl := hf.1
  unfold hunk_Hunks.f
  rw [if_neg (by omega), hunkMay_f l hf k (by omega), Option.bind_some, hm, if_neg (by decide)]
  by_cases hz : l.length = 0
  · rw [if_pos hz]
    have e := List.length_eq_zero_iff.1 hz
    subst e
    rfl
  · rw [if_neg hz, if_pos ⟨⟨by omega, fun x hx => by have := (hf.2 x hx).1; omega⟩, by omega⟩]
/-- The rows that are shown. -/
def sel : List S41 → List Bool → List S41
  | x :: l, b :: s => if b then x :: sel l s else sel l s
  | _, _ => []
theorem mid_snoc (l : List S41) (s p : Nat) (hs : s ≤ p) (hp : p < l.length) : midL l s (p + 1) = midL l s p ++ [l[p]] := by
  unfold midL
  rw [List.take_succ_eq_append_getElem hp, List.drop_append_of_le_length (by rw [List.length_take]; omega)]
theorem mid_none (l : List S41) (p : Nat) : midL l p p = [] := by
  unfold midL
  rw [List.drop_of_length_le (by rw [List.length_take]; omega)]
theorem sel_at (l : List S41) (S : List Bool) (hS : S.length = l.length) {p : Nat} (h : p < l.length) (h' : p < S.length) : sel (l.drop p) (S.drop p) = if S[p] = true then l[p] :: sel (l.drop (p + 1)) (S.drop (p + 1)) else sel (l.drop (p + 1)) (S.drop (p + 1)) := by
  rw [List.drop_eq_getElem_cons h, List.drop_eq_getElem_cons h', sel]
theorem runs_sel (l : List S41) (S : List Bool) (hS : S.length = l.length) : ∀ (n p : Nat) (o : Option Nat), p + n = l.length → (∀ s, o = some s → s ≤ p) →
    (runsGo p (S.drop p) o).flatMap (fun s => midL l s.1 s.2) = o.elim [] (fun s => midL l s p) ++ sel (l.drop p) (S.drop p) := by
  intro n
  induction n with
  | zero =>
    intro p o hp ho
    rw [List.drop_of_length_le (by omega), List.drop_of_length_le (by omega)]
    cases o with
    | none => rfl
    | some s => simp [runsGo, sel]
  | succ n ih =>
    intro p o hp ho
    have h : p < l.length := by omega
    have h' : p < S.length := by omega
    rw [sel_at l S hS h h']
    cases hb : S[p] with
    | true =>
      rw [if_pos rfl]
      cases o with
      | none => rw [runsGo_open h' hb, ih (p + 1) (some p) (by omega) (fun s e => by cases e; omega)]; simp only [Option.elim]; rw [mid_snoc l p p (Nat.le_refl _) h, mid_none]; rfl
      | some s => have hs := ho s rfl; rw [runsGo_on h' hb, ih (p + 1) (some s) (by omega) (fun s' e => by cases e; omega)]; simp only [Option.elim]; rw [mid_snoc l s p hs h, List.append_assoc]; rfl
    | false =>
      rw [if_neg (by decide)]
      cases o with
      | none => rw [runsGo_skip h' hb, ih (p + 1) none (by omega) (fun s e => by cases e)]; rfl
      | some s => rw [runsGo_shut h' hb, runsGo_skip h' hb, List.flatMap_cons, ih (p + 1) none (by omega) (fun s e => by cases e)]; rfl
/-- What is told of a group. -/
def grpL (l : List S41) (dense : Bool) (g : S36) : List S41 := if keptG l dense g.f0.toNat g.f1.toNat = true then midL l g.f0.toNat g.f1.toNat else []
theorem sel_block (l : List S41) (S : List Bool) (hS : S.length = l.length) (t : Nat) (ht : t ≤ l.length) (b : Bool) : ∀ (n p : Nat), p + n = t → (∀ i, p ≤ i → i < t → mk l i = true ∧ S[i]? = some b) →
    (sel (l.drop p) (S.drop p)).filter markedB = (if b = true then midL l p t else []) ++ (sel (l.drop t) (S.drop t)).filter markedB := by
  intro n
  induction n with
  | zero =>
    intro p hp h
    obtain rfl : p = t := by omega
    rw [mid_none]; cases b <;> rfl
  | succ n ih =>
    intro p hp h
    have hlt : p < l.length := by omega
    have hltS : p < S.length := by omega
    obtain ⟨h1, h2⟩ := h p (Nat.le_refl _) (by omega)
    rw [List.getElem?_eq_getElem hltS] at h2
    rw [mk_at hlt] at h1
    rw [sel_at l S hS hlt hltS, Option.some.inj h2]
    have hI := ih (p + 1) (by omega) (fun i a c => h i (by omega) c)
    have hm : midL l p t = l[p] :: midL l (p + 1) t := by
      unfold midL
      rw [List.drop_eq_getElem_cons (by rw [List.length_take]; omega), List.getElem_take]
    cases b with
    | true => rw [if_pos rfl, List.filter_cons_of_pos h1, hI, if_pos rfl, if_pos rfl, hm]; rfl
    | false => rw [if_neg (by decide), hI]; rfl
theorem spans_sel (l : List S41) (ctx : Int) (dense : Bool) : ∀ (n p : Nat), p + n = l.length → (mk l p = true → p = 0 ∨ mk l (p - 1) = false) →
    (spansGo p (l.drop p) none).flatMap (grpL l dense) = (sel (l.drop p) ((showAll l ctx dense (groupsL l)).drop p)).filter markedB := by
  have hS : (showAll l ctx dense (groupsL l)).length = l.length := showAll_length ..
  intro n
  induction n using Nat.strongRecOn with
  | ind n ih =>
    intro p hp ho
    by_cases hlt : p < l.length
    · have hltS : p < (showAll l ctx dense (groupsL l)).length := by omega
      cases hm : mk l p with
      | false =>
        have hb : markedB l[p] = false := by rw [← mk_at hlt]; exact hm
        rw [spansGo_skip hlt hb, sel_at l _ hS hlt hltS, ih (n - 1) (by omega) (p + 1) (by omega) (fun _ => Or.inr hm)]
        split
        · rw [List.filter_cons_of_neg (by rw [hb]; decide)]
        · rfl
      | true =>
        have hb : markedB l[p] = true := by rw [← mk_at hlt]; exact hm
        obtain ⟨f, t, -, hG, h1, h2⟩ := groupsL_all l p hm
        obtain rfl : f = p := by
          rcases Nat.eq_or_lt_of_le h1 with e | e
          · exact e
          · have := hG.all (p - 1) (by omega) (by omega)
            rcases ho hm with x | x
            · omega
            · rw [x] at this; cases this
        have hle := hG.le
        have hE : ∀ (m i : Nat), i + m = l.length → f ≤ i → i ≤ t → endL l m i = t := by
          intro m
          induction m with
          | zero => intro i hi a b; simp only [endL]; omega
          | succ m ihm =>
            intro i hi a b
            simp only [endL]
            rw [show (l[i]?.elim false markedB) = mk l i from rfl]
            by_cases e : i = t
            · subst e; rw [hG.hi, if_neg (by decide)]
            · rw [hG.all i a (by omega), if_pos rfl]; exact ihm (i + 1) (by omega) (by omega) (by omega)
        rw [spansGo_open hlt hb, span_some l (n - 1) (f + 1) f (by omega), hE (n - 1) (f + 1) (by omega) (by omega) (by omega), List.flatMap_cons]
        rw [ih (l.length - t) (by omega) t (by omega) (fun h => by rw [hG.hi] at h; cases h)]
        rw [sel_block l _ hS t hle (keptG l dense f t) (t - f) f (by omega) (fun i a c => ⟨hG.all i a c, by
          have hi : i < l.length := by omega
          have hg := showAll_get l ctx dense i hi
          have hiS : i < (showAll l ctx dense (groupsL l)).length := by omega
          rw [List.getElem?_eq_getElem hiS] at hg ⊢
          have hmi := hG.all i a c
          cases hk : keptG l dense f t with
          | true => exact hg.2 ⟨f, t, hG, hk, Or.inl ⟨a, c⟩⟩
          | false =>
            cases hq : (showAll l ctx dense (groupsL l))[i] with
            | false => rfl
            | true =>
              obtain ⟨f', t', hG', hk', hC⟩ := hg.1 (by rw [hq])
              rcases hC with hC | hC | hC
              · obtain ⟨rfl, rfl⟩ := hG.one hG' a c hC.1 hC.2
                rw [hk] at hk'; cases hk'
              · have := hC.2.2 i (Nat.le_refl _) hC.1; rw [hmi] at this; cases this
              · have := hC.2.2 i hC.1 (Nat.le_refl _); rw [hmi] at this; cases this⟩)]
        unfold grpL
        rw [show ((⟨(f : Int), (t : Int)⟩ : S36).f0).toNat = f from Int.toNat_natCast f, show ((⟨(f : Int), (t : Int)⟩ : S36).f1).toNat = t from Int.toNat_natCast t]
    · rw [List.drop_of_length_le (by omega)]
      simp [spansGo, sel]
/-- The marked rows of the hunks are the groups that are kept. -/
theorem covers_eq (l : List S41) (ctx : Int) (dense : Bool) :
    ((runsGo 0 (showAll l ctx dense (groupsL l)) none).map (mkHunk l (zerosOf l))).flatMap (fun x => x.f2.filter markedB) = (groupsL l).flatMap (grpL l dense) := by
  have h1 := runs_sel l (showAll l ctx dense (groupsL l)) (showAll_length ..) l.length 0 none (by omega) (fun s e => by cases e)
  have h2 := spans_sel l ctx dense l.length 0 (by omega) (fun _ => Or.inl rfl)
  rw [List.drop_zero, List.drop_zero] at h2
  rw [List.drop_zero, List.drop_zero] at h1
  rw [show groupsL l = spansGo 0 l none from rfl] at h2 ⊢
  rw [h2, List.flatMap_map]
  simp only [Option.elim, List.nil_append] at h1
  rw [show groupsL l = spansGo 0 l none from rfl] at h1
  rw [← h1, List.filter_flatMap]
  rfl
section
variable (l : List S41) (dense : Bool) (h : List S38) (hh : h.length ≤ 40) (h0 : ∀ x ∈ h, x.f2.length ≤ 40 ∧ ∀ y ∈ x.f2, y.f0.size ≤ 20)
include hh h0
theorem covers_l1 (e : Int) (i : Nat) (hi : i < h.length) : ∀ (m j k : Nat) (acc : List S41), j + m = h[i].f2.length → m + 50 < k → acc.length + m ≤ 100000 →
    sennitlaw21_HunkCovers.l1 k l dense true h e acc i j = sennitlaw21_HunkCovers.l0 (k - m - 1) l dense true h e (acc ++ (h[i].f2.drop j).filter markedB) ((i + 1 : Nat) : Int) := by
  have hx := h0 _ (List.getElem_mem hi)
  intro m
  induction m with
  | zero =>
    intro j k acc hj hk ha
    obtain ⟨k, rfl⟩ : ∃ k', k = k' + 1 := ⟨k - 1, by omega⟩
    rw [sennitlaw21_HunkCovers.l1, if_pos (by omega), if_pos (by omega), rd38_at hi, if_neg (by omega), w64 _ (by omega), List.drop_of_length_le (by omega), List.filter_nil, List.append_nil]
    rfl
  | succ m ih =>
    intro j k acc hj hk ha
    obtain ⟨k, rfl⟩ : ∃ k', k = k' + 1 := ⟨k - 1, by omega⟩
    have hlt : j < h[i].f2.length := by omega
    have hy := hx.2 _ (List.getElem_mem hlt)
    rw [sennitlaw21_HunkCovers.l1, if_pos (by omega), if_pos (by omega), rd38_at hi, if_pos (by omega), if_pos (by omega), rd_at hlt, ref_marked _ (by omega) k (by omega), List.drop_eq_getElem_cons hlt, w64 _ (by omega)]
    simp only [Option.bind_some]
    rw [show k + 1 - (m + 1) - 1 = k - m - 1 by omega]
    cases hm : markedB h[i].f2[j] with
    | true =>
      rw [if_pos rfl, if_pos (by omega)]
      refine (ih (j + 1) k _ (by omega) (by omega) (by simp; omega)).trans ?_
      rw [List.filter_cons_of_pos hm, List.append_assoc]
      rfl
    | false =>
      rw [if_neg (by decide)]
      refine (ih (j + 1) k _ (by omega) (by omega) (by omega)).trans ?_
      rw [List.filter_cons_of_neg (by rw [hm]; decide)]
theorem covers_l0 (hl : l.length ≤ 40) (hs : ∀ x ∈ l, x.f0.size ≤ 20) (e : Int) : ∀ (m i k : Nat) (acc : List S41), i + m = h.length → 50 * m + 2000 < k → acc.length + 50 * m ≤ 50000 →
    ∃ k', 1900 ≤ k' ∧ sennitlaw21_HunkCovers.l0 k l dense true h e acc i = sennitlaw21_HunkCovers.l2 k' l dense true e (acc ++ (h.drop i).flatMap (fun x => x.f2.filter markedB)) [] (groupsL l) 0 := by
  intro m
  induction m with
  | zero =>
    intro i k acc hi hk ha
    obtain ⟨k, rfl⟩ : ∃ k', k = k' + 1 := ⟨k - 1, by omega⟩
    refine ⟨k, by omega, ?_⟩
    rw [sennitlaw21_HunkCovers.l0, if_neg (by omega), groups_f l (by omega) (fun x hx => by have := hs x hx; omega) k (by omega), List.drop_of_length_le (by omega), List.flatMap_nil, List.append_nil]
    rfl
  | succ m ih =>
    intro i k acc hi hk ha
    obtain ⟨k, rfl⟩ : ∃ k', k = k' + 1 := ⟨k - 1, by omega⟩
    have hlt : i < h.length := by omega
    have hx := (h0 _ (List.getElem_mem hlt)).1
    have hfl : ((h[i].f2.drop 0).filter markedB).length ≤ 40 := Nat.le_trans (List.length_filter_le _ _) (by rw [List.drop_zero]; exact hx)
    rw [sennitlaw21_HunkCovers.l0, if_pos (by omega), show (0 : Int) = ((0 : Nat) : Int) from rfl, covers_l1 l dense h hh h0 e i hlt h[i].f2.length 0 k acc (by omega) (by omega) (by omega)]
    obtain ⟨k', g1, g2⟩ := ih (i + 1) (k - h[i].f2.length - 1) (acc ++ (h[i].f2.drop 0).filter markedB) (by omega) (by omega) (by rw [List.length_append]; omega)
    refine ⟨k', g1, g2.trans ?_⟩
    rw [List.drop_eq_getElem_cons hlt, List.flatMap_cons, List.drop_zero, List.append_assoc]
    rfl
end
theorem covers_l2 (l : List S41) (hf : FewP l) (hm : mayB l = true) (dense : Bool) (all : List S41) (ha : all.length ≤ 50000) : ∀ (m j k : Nat) (want : List S41), j + m = (groupsL l).length → m + 1000 + all.length < k → all = want ++ ((groupsL l).drop j).flatMap (grpL l dense) →
    sennitlaw21_HunkCovers.l2 k l dense true 0 all want (groupsL l) j = some true := by
  have hn := marks_le l hf
  have hl := hf.1
  have hg := groupsL_length l
  intro m
  induction m with
  | zero =>
    intro j k want hj hk hw
    obtain ⟨k, rfl⟩ : ∃ k', k = k' + 1 := ⟨k - 1, by omega⟩
    rw [List.drop_of_length_le (by omega), List.flatMap_nil, List.append_nil] at hw
    rw [sennitlaw21_HunkCovers.l2, if_neg (by omega), if_pos rfl, if_pos rfl, ← hw, same19_f all (by omega) k (by omega)]
    rfl
  | succ m ih =>
    intro j k want hj hk hw
    obtain ⟨k, rfl⟩ : ∃ k', k = k' + 1 := ⟨k - 1, by omega⟩
    have hlt : j < (groupsL l).length := by omega
    have hin := groupsL_in l _ (List.getElem_mem hlt)
    rw [List.drop_eq_getElem_cons hlt, List.flatMap_cons] at hw
    have hlen : want.length + (grpL l dense (groupsL l)[j]).length ≤ 50000 := by
      have := congrArg List.length hw
      simp only [List.length_append] at this
      omega
    obtain ⟨h1, h2⟩ := dulls (midL l ((groupsL l)[j].f0).toNat ((groupsL l)[j].f1).toNat) _ (by unfold midL; rw [List.length_drop, List.length_take]; omega) hn (even_mid (even_of_may l hm)) k (by omega)
    have hwl : want.length ≤ 50000 := by omega
    have hml : (midL l ((groupsL l)[j].f0).toNat ((groupsL l)[j].f1).toNat).length ≤ 40 := by unfold midL; rw [List.length_drop, List.length_take]; omega
    rw [sennitlaw21_HunkCovers.l2, if_pos (by omega), if_pos (by omega), rd36_at hlt, if_pos hin.1, if_pos hin.2.1, if_pos hin.2.2, Option.bind_some, w64 _ (by omega), show (l.take ((groupsL l)[j].f1).toNat).drop ((groupsL l)[j].f0).toNat = midL l ((groupsL l)[j].f0).toNat ((groupsL l)[j].f1).toNat from rfl]
    cases dense with
    | false =>
      rw [if_neg (by decide), if_pos (by omega)]
      refine ih (j + 1) k _ (by omega) (by omega) ?_
      rw [hw, List.append_assoc]
      congr 1
    | true =>
      rw [if_pos rfl, h2, Option.bind_some]
      have hgk : grpL l true (groupsL l)[j] = if dullB (midL l ((groupsL l)[j].f0).toNat ((groupsL l)[j].f1).toNat) = true then [] else midL l ((groupsL l)[j].f0).toNat ((groupsL l)[j].f1).toNat := by
        unfold grpL keptG
        cases dullB (midL l ((groupsL l)[j].f0).toNat ((groupsL l)[j].f1).toNat) <;> rfl
      rw [hgk] at hw
      cases hd : dullB (midL l ((groupsL l)[j].f0).toNat ((groupsL l)[j].f1).toNat) with
      | true =>
        rw [hd, if_pos rfl, List.nil_append] at hw
        rw [if_pos rfl]
        exact ih (j + 1) k _ (by omega) (by omega) hw
      | false =>
        rw [hd, if_neg (by decide)] at hw
        rw [if_neg (by decide), if_pos (by omega)]
        refine ih (j + 1) k _ (by omega) (by omega) ?_
        rw [hw, List.append_assoc]
theorem hunkCovers_true (l : List S41) (a1 : Int) (dense : Bool) (hb : 0 ≤ a1 ∧ a1 ≤ 255) : ∃ k, sennitlaw21_HunkCovers.f k l a1 dense = some true := by
  refine ⟨70000, ?_⟩
  obtain ⟨b, h1, h2⟩ := few_f l
  have ha := upk (f := fun k => sennitlaw21_awake.f k) (fun k => sennitlaw21_awake.mono k) awake_true 70000 (by omega)
  unfold sennitlaw21_HunkCovers.f
  rw [show sennitlaw21_awake.f 70000 = some true from ha, h1 70000 (by omega), Option.bind_some, Option.bind_some]
  have hj : ∀ c : Bool, sennitlaw21_HunkCovers.j0 70000 l a1 dense true c = if c = true then some true else (hunk_Hunks.f 69999 l (wrap64 a1) dense).bind fun bt => sennitlaw21_HunkCovers.l0 69999 l dense true bt.1 bt.2 [] 0 := fun c => by rw [sennitlaw21_HunkCovers.j0]
  cases b with
  | false => rw [if_neg (by decide), hj, if_pos rfl]
  | true =>
    have hf := h2 rfl
    have hl := hf.1
    rw [if_pos rfl, refMay_f l hf 70000 (by omega), Option.bind_some]
    cases hm : mayB l with
    | false => rw [hj, if_pos (by decide)]
    | true =>
      rw [hj, if_neg (by decide), w64 _ (by omega), hunks_f l hf hm a1 hb.1 (by omega) dense 69999 (by omega), Option.bind_some]
      have hs : ∀ x ∈ l, x.f0.size ≤ 20 := fun x hx => (hf.2 x hx).1
      have hlen : ((runsGo 0 (showAll l a1 dense (groupsL l)) none).map (mkHunk l (zerosOf l))).length ≤ 40 := by
        rw [List.length_map]
        have := runsGo_length (showAll l a1 dense (groupsL l)) 0 none
        rw [showAll_length] at this
        simp at this
        omega
      have hlen2 := hlen
      rw [List.length_map] at hlen2
      obtain ⟨k', g1, g2⟩ := covers_l0 l dense _ hlen (fun x hx => by
        obtain ⟨s, -, rfl⟩ := List.mem_map.1 hx
        refine ⟨?_, fun y hy => hs y (List.mem_of_mem_take (List.mem_of_mem_drop hy))⟩
        show (midL l s.1 s.2).length ≤ 40
        unfold midL; rw [List.length_drop, List.length_take]; omega) hl hs 0 _ 0 69999 [] (Nat.zero_add _) (by omega) (by simp; omega)
      refine g2.trans ?_
      rw [List.drop_zero, covers_eq l a1 dense, List.nil_append, show (0 : Int) = ((0 : Nat) : Int) from rfl]
      have hcl : ((groupsL l).flatMap (grpL l dense)).length ≤ 40 := by
        rw [← covers_eq l a1 dense, List.flatMap_map]
        have h3 := runs_sel l (showAll l a1 dense (groupsL l)) (showAll_length ..) l.length 0 none (by omega) (fun s e => by cases e)
        rw [List.drop_zero, List.drop_zero] at h3
        simp only [Option.elim, List.nil_append] at h3
        have h4 : ((runsGo 0 (showAll l a1 dense (groupsL l)) none).flatMap fun s => (midL l s.1 s.2).filter markedB) = (sel l (showAll l a1 dense (groupsL l))).filter markedB := by
          rw [← h3, List.filter_flatMap]
        have h5 : ∀ (l : List S41) (S : List Bool), (sel l S).length ≤ l.length := by
          intro l
          induction l with
          | nil => intro S; simp [sel]
          | cons x l ih =>
            intro S
            cases S with
            | nil => simp [sel]
            | cons b S =>
              have := ih S
              simp only [sel]
              split <;> simp <;> omega
        refine Nat.le_trans (Nat.le_of_eq (congrArg List.length h4)) (Nat.le_trans (List.length_filter_le _ _) (Nat.le_trans (h5 _ _) hl))
      exact covers_l2 l hf hm dense _ (by omega) (groupsL l).length 0 k' [] (by omega) (by have := groupsL_length l; omega) (by rw [List.drop_zero]; rfl)
end Go.Proofs.YtenfoaajipiehaaDoor.Q
