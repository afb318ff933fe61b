/- The reference's rows of lists put together, as far as the law HunkNone asks: how many, and what marks they have. -/
import Derived.Test.YtenfoaajipiehaaDoorPS
namespace Go.Proofs.YtenfoaajipiehaaDoor.Q
set_option linter.unusedVariables false
set_option linter.unusedSimpArgs false
open Go.RowKit Go.Shelf Go.Proofs.YtenfoaajipiehaaDoorW.PrintWords
theorem app_data (x y : ByteArray) : (x ++ y).data.toList = x.data.toList ++ y.data.toList := by simp
theorem app_size (x : ByteArray) (b : UInt8) : (x ++ (⟨#[b]⟩ : ByteArray)).size = x.size + 1 := by
  rw [ByteArray.size_append]; rfl
/-- A text that may stand in a row. -/
def TextOk (s : ByteArray) : Prop := s.size ≤ 100 ∧ oneL s.data.toList = true
/-- Rows that are lost. -/
def RowsOk (c : Nat) (l : List S41) : Prop := ∀ x ∈ l, x.f0.size = c ∧ (∀ b ∈ x.f0.data.toList, b = 32 ∨ b = 45) ∧ 45 ∈ x.f0.data.toList ∧ TextOk x.f1
theorem RowsOk.snoc {c : Nat} {l : List S41} {x : S41} (h : RowsOk c l) (hx : x.f0.size = c ∧ (∀ b ∈ x.f0.data.toList, b = 32 ∨ b = 45) ∧ 45 ∈ x.f0.data.toList ∧ TextOk x.f1) : RowsOk c (l ++ [x]) := by
  intro y hy
  rcases List.mem_append.1 hy with e | e
  · exact h y e
  · rw [List.mem_singleton.1 e]; exact hx
theorem blanks_l0 (c : Nat) (hc : c ≤ 20) : ∀ (m i k : Nat) (s : ByteArray), i + m = c + 1 → m < k → s.size = i → (∀ b ∈ s.data.toList, b = 32 ∨ b = 45) → (c < i → 45 ∈ s.data.toList) →
    ∃ t, sennitref19_blanks.l0 k ((c + 1 : Nat) : Int) c s i = some t ∧ t.size = c + 1 ∧ (∀ b ∈ t.data.toList, b = 32 ∨ b = 45) ∧ 45 ∈ t.data.toList := by
  intro m
  induction m with
  | zero =>
    intro i k s hi hk hs hb h45
    obtain ⟨k, rfl⟩ : ∃ k', k = k' + 1 := ⟨k - 1, by omega⟩
    rw [sennitref19_blanks.l0, if_neg (by omega)]
    exact ⟨s, rfl, by omega, hb, h45 (by omega)⟩
  | succ m ih =>
    intro i k s hi hk hs hb h45
    obtain ⟨k, rfl⟩ : ∃ k', k = k' + 1 := ⟨k - 1, by omega⟩
    rw [sennitref19_blanks.l0, if_pos (by omega), w1 i (by omega)]
    by_cases e : i = c
    · rw [if_pos (by omega), if_pos (by omega)]
      refine ih (i + 1) k _ (by omega) (by omega) (by rw [app_size]; omega) (fun b hb' => ?_) (fun _ => ?_)
      · rw [app_data] at hb'
        rcases List.mem_append.1 hb' with q | q
        · exact hb b q
        · right; simpa using q
      · rw [app_data]; simp
    · rw [if_neg (by omega), if_pos (by omega)]
      refine ih (i + 1) k _ (by omega) (by omega) (by rw [app_size]; omega) (fun b hb' => ?_) (fun h => ?_)
      · rw [app_data] at hb'
        rcases List.mem_append.1 hb' with q | q
        · exact hb b q
        · left; simpa using q
      · rw [app_data]; exact List.mem_append_left _ (h45 (by omega))
theorem blanks_f (c : Nat) (hc : c ≤ 20) (k : Nat) (hk : 40 ≤ k) : ∃ t, sennitref19_blanks.f k ((c + 1 : Nat) : Int) c = some t ∧ t.size = c + 1 ∧ (∀ b ∈ t.data.toList, b = 32 ∨ b = 45) ∧ 45 ∈ t.data.toList :=
  blanks_l0 c hc (c + 1) 0 k _ (by omega) (by omega) rfl (fun b hb => by cases hb) (fun h => by omega)
section
variable (rows : List S41) (l : List ByteArray) (hr : rows.length ≤ 200) (hl : l.length ≤ 200)
include hr hl
theorem paired_l0 : ∀ (m i k : Nat) (t : List ByteArray), i + m = rows.length → m + 50000 < k → t.length = i → ∃ v, sennitref19_paired.l0 k rows l t i = some v ∧ v.length = rows.length ∧ MOk v l.length := by
  intro m
  induction m with
  | zero =>
    intro i k t hi hk ht
    obtain ⟨k, rfl⟩ : ∃ k', k = k' + 1 := ⟨k - 1, by omega⟩
    obtain ⟨ids, h1, h2, h3⟩ := all_f [t, l] (by simp) (fun x hx => by
      rcases List.mem_cons.1 hx with e | e
      · rw [e]; omega
      · rw [List.mem_singleton.1 e]; omega) k (by omega)
    have h2' : ids.length = 2 := h2
    have e0 : ids[0].length = t.length := h3 0 (by omega) (by simp)
    have e1 : ids[1].length = l.length := h3 1 (by omega) (by simp)
    obtain ⟨v, g1, g2, g3⟩ := match_f ids[0] ids[1] (by omega) (by omega) k (by omega)
    rw [sennitref19_paired.l0, if_neg (by omega), h1, Option.bind_some, if_pos (by omega), if_pos (by omega), show (0 : Int) = ((0 : Nat) : Int) from rfl, show (1 : Int) = ((1 : Nat) : Int) from rfl, rdL9 (by omega : 0 < ids.length), rdL9 (by omega : 1 < ids.length), g1]
    exact ⟨v, rfl, by omega, by rw [← e1]; exact g3⟩
  | succ m ih =>
    intro i k t hi hk ht
    obtain ⟨k, rfl⟩ : ∃ k', k = k' + 1 := ⟨k - 1, by omega⟩
    rw [sennitref19_paired.l0, if_pos (by omega), if_pos (by omega), if_pos (by omega), w1 i (by omega)]
    exact ih (i + 1) k _ (by omega) (by omega) (by simp; omega)
theorem paired_f (k : Nat) (hk : 60000 ≤ k) : ∃ v, sennitref19_paired.f k rows l = some v ∧ v.length = rows.length ∧ MOk v l.length := paired_l0 rows l hr hl rows.length 0 k [] (by omega) (by omega) rfl
end
theorem come_l1 (rows : List S41) (l : List ByteArray) (c : Nat) (m : List Int) (hr : rows.length ≤ 200) (hl : l.length ≤ 200) (hc : c ≤ 20) (hT : ∀ s ∈ l, TextOk s) (hm : m.length = rows.length) (i : Nat) (t : Nat) (ht : t ≤ l.length) (G : List S41 → Prop) (K : Nat) (hK : 40 ≤ K)
    (hj : ∀ (acc : List S41) (k : Nat), RowsOk (c + 1) acc → acc.length ≤ min i rows.length + t → K ≤ k → ∃ out, sennitref19_come.j3 k rows l c m acc t i t = some out ∧ G out) :
    ∀ (d q k : Nat) (acc : List S41), q + d = t → d + K < k → RowsOk (c + 1) acc → acc.length ≤ min i rows.length + q → ∃ out, sennitref19_come.l1 k rows l c m acc q i t = some out ∧ G out := by
  intro d
  induction d with
  | zero =>
    intro q k acc hq hk hA hlen
    obtain ⟨k, rfl⟩ : ∃ k', k = k' + 1 := ⟨k - 1, by omega⟩
    obtain rfl : q = t := by omega
    rw [sennitref19_come.l1, if_pos (by omega), if_neg (by omega)]
    exact hj acc k hA hlen (by omega)
  | succ d ih =>
    intro q k acc hq hk hA hlen
    obtain ⟨k, rfl⟩ : ∃ k', k = k' + 1 := ⟨k - 1, by omega⟩
    have hql : q < l.length := by omega
    obtain ⟨s, b1, b2, b3, b4⟩ := blanks_f c hc k (by omega)
    rw [sennitref19_come.l1, if_pos (by omega), if_pos (by omega), w1 c (by omega), b1, Option.bind_some, if_pos (by omega), if_pos (by omega), if_pos (by omega), rdB hql, w1 q (by omega)]
    exact ih (q + 1) k _ (by omega) (by omega) (hA.snoc ⟨b2, b3, b4, hT _ (List.getElem_mem hql)⟩) (by simp; omega)
section
variable (rows : List S41) (l : List ByteArray) (c : Nat) (m : List Int) (hr : rows.length ≤ 200) (hl : l.length ≤ 200) (hc : c ≤ 20) (hR : RowsOk c rows) (hT : ∀ s ∈ l, TextOk s) (hm : m.length = rows.length) (hM : MOk m l.length)
include hr hl hc hR hT hm hM
theorem come_l0 : ∀ (d i k q : Nat) (acc : List S41), i + d = rows.length + 1 → 300 * d + 300 < k → RowsOk (c + 1) acc → acc.length ≤ min i rows.length + q → q ≤ l.length → (∀ p : Nat, i ≤ p → p < rows.length → 0 ≤ rd m (p : Int) → (q : Int) ≤ rd m (p : Int)) →
    ∃ out, sennitref19_come.l0 k rows l c m acc q i = some out ∧ RowsOk (c + 1) out ∧ out.length ≤ rows.length + l.length := by
  intro d
  induction d with
  | zero =>
    intro i k q acc hi hk hA hlen hq hp
    obtain ⟨k, rfl⟩ : ∃ k', k = k' + 1 := ⟨k - 1, by omega⟩
    rw [sennitref19_come.l0, if_neg (by omega)]
    exact ⟨acc, rfl, hA, by omega⟩
  | succ d ih =>
    intro i k q acc hi hk hA hlen hq hp
    obtain ⟨k, rfl⟩ : ∃ k', k = k' + 2 := ⟨k - 2, by omega⟩
    obtain ⟨K, hK⟩ : ∃ K, K = 300 * d + 302 := ⟨_, rfl⟩
    by_cases hin : i < rows.length
    · have hx := hR _ (List.getElem_mem hin)
      have hbd := hM.bd i (by omega)
      rw [sennitref19_come.l0, if_pos (by omega), if_pos (by omega), if_pos (by omega), if_pos (by omega), sennitref19_come.j1]
      by_cases h0 : 0 ≤ rd m (i : Int)
      · obtain ⟨t, ht⟩ : ∃ t : Nat, rd m (i : Int) = (t : Int) := ⟨(rd m (i : Int)).toNat, by omega⟩
        have hqt := hp i (Nat.le_refl _) hin h0
        rw [ht] at hbd hqt ⊢
        refine come_l1 rows l c m hr hl hc hT hm i t (by omega) _ K (by omega) ?_ (t - q) q k acc (by omega) (by omega) hA hlen
        intro acc' k' hA' hlen' hk'
        obtain ⟨k', rfl⟩ : ∃ k2, k' = k2 + 1 := ⟨k' - 1, by omega⟩
        rw [sennitref19_come.j3, if_pos (by omega), if_pos (by omega), if_pos (by omega), rd_at hin, if_pos (by omega), if_pos (by omega), w1 t (by omega), w1 i (by omega)]
        refine ih (i + 1) k' (t + 1) _ (by omega) (by omega) (hA'.snoc ⟨?_, fun b hb => ?_, ?_, hx.2.2.2⟩) (by simp; omega) (by omega) (fun p hp1 hp2 hp0 => ?_)
        · show (rows[i].f0 ++ (⟨#[45]⟩ : ByteArray)).size = c + 1
          rw [app_size, hx.1]
        · have hb' : b ∈ (rows[i].f0 ++ (⟨#[45]⟩ : ByteArray)).data.toList := hb
          rw [app_data] at hb'
          rcases List.mem_append.1 hb' with e | e
          · exact hx.2.1 b e
          · right; simpa using e
        · show 45 ∈ (rows[i].f0 ++ (⟨#[45]⟩ : ByteArray)).data.toList
          rw [app_data]; simp
        · have := hM.inc i p (by omega) (by omega) h0 hp0
          omega
      · rw [sennitref19_come.l1.eq_def]
        obtain ⟨k, rfl⟩ : ∃ k', k = k' + 2 := ⟨k - 2, by omega⟩
        simp only []
        rw [if_neg (by omega), sennitref19_come.j3, if_pos (by omega), if_neg (by omega), if_pos (by omega), rd_at hin, if_pos (by omega), if_pos (by omega), w1 i (by omega)]
        refine ih (i + 1) k q _ (by omega) (by omega) (hA.snoc ⟨?_, fun b hb => ?_, ?_, hx.2.2.2⟩) (by simp; omega) hq (fun p hp1 hp2 hp0 => hp p (by omega) hp2 hp0)
        · show (rows[i].f0 ++ (⟨#[32]⟩ : ByteArray)).size = c + 1
          rw [app_size, hx.1]
        · have hb' : b ∈ (rows[i].f0 ++ (⟨#[32]⟩ : ByteArray)).data.toList := hb
          rw [app_data] at hb'
          rcases List.mem_append.1 hb' with e | e
          · exact hx.2.1 b e
          · left; simpa using e
        · show 45 ∈ (rows[i].f0 ++ (⟨#[32]⟩ : ByteArray)).data.toList
          rw [app_data]; exact List.mem_append_left _ hx.2.2.1
    · rw [sennitref19_come.l0, if_pos (by omega), if_neg (by omega), sennitref19_come.j1]
      refine come_l1 rows l c m hr hl hc hT hm i l.length (Nat.le_refl _) _ K (by omega) ?_ (l.length - q) q k acc (by omega) (by omega) hA hlen
      intro acc' k' hA' hlen' hk'
      obtain ⟨k', rfl⟩ : ∃ k2, k' = k2 + 1 := ⟨k' - 1, by omega⟩
      rw [sennitref19_come.j3, if_neg (by omega), w1 i (by omega)]
      exact ih (i + 1) k' l.length acc' (by omega) (by omega) hA' (by omega) (Nat.le_refl _) (fun p hp1 hp2 _ => by omega)
end
theorem come_f (rows : List S41) (l : List ByteArray) (c : Nat) (hr : rows.length ≤ 200) (hl : l.length ≤ 200) (hc : c ≤ 20) (hR : RowsOk c rows) (hT : ∀ s ∈ l, TextOk s) (k : Nat) (hk : 70000 ≤ k) :
    ∃ out, sennitref19_come.f k rows l c = some out ∧ RowsOk (c + 1) out ∧ out.length ≤ rows.length + l.length := by
  obtain ⟨v, h1, h2, h3⟩ := paired_f rows l hr hl k (by omega)
  unfold sennitref19_come.f
  rw [h1, Option.bind_some]
  exact come_l0 rows l c v hr hl hc hR hT h2 h3 (rows.length + 1) 0 k 0 [] (by omega) (by omega) (fun x hx => by cases hx) (by simp) (by omega) (fun p _ _ h => by omega)
/-- How long lists are together. -/
def lens (ls : List (List ByteArray)) : Nat := (ls.map List.length).sum
theorem lens_snoc (ls : List (List ByteArray)) (i : Nat) (h : i < ls.length) : lens (ls.take (i + 1)) = lens (ls.take i) + ls[i].length := by
  unfold lens
  rw [List.take_succ_eq_append_getElem h, List.map_append, List.sum_append]
  simp
theorem coalesce_l0 (ls : List (List ByteArray)) (hn : ls.length ≤ 6) (h16 : ∀ x ∈ ls, x.length ≤ 16 ∧ ∀ s ∈ x, TextOk s) : ∀ (m i k : Nat) (rows : List S41), i + m = ls.length → m + 70000 < k → RowsOk i rows → rows.length ≤ lens (ls.take i) → rows.length ≤ 16 * i →
    ∃ out, sennitref19_Coalesce.l0 k ls rows i = some (out, 0) ∧ RowsOk ls.length out ∧ out.length ≤ lens ls := by
  intro m
  induction m with
  | zero =>
    intro i k rows hi hk hR hlen h16'
    obtain ⟨k, rfl⟩ : ∃ k', k = k' + 1 := ⟨k - 1, by omega⟩
    obtain rfl : i = ls.length := by omega
    rw [sennitref19_Coalesce.l0, if_neg (by omega)]
    rw [List.take_length] at hlen
    exact ⟨rows, rfl, hR, hlen⟩
  | succ m ih =>
    intro i k rows hi hk hR hlen h16'
    obtain ⟨k, rfl⟩ : ∃ k', k = k' + 1 := ⟨k - 1, by omega⟩
    have hlt : i < ls.length := by omega
    obtain ⟨hx, hT⟩ := h16 _ (List.getElem_mem hlt)
    obtain ⟨out, h1, h2, h3⟩ := come_f rows ls[i] i (by omega) (by omega) (by omega) hR hT k (by omega)
    have hs := lens_snoc ls i hlt
    rw [sennitref19_Coalesce.l0, if_pos (by omega), if_neg (by omega), if_pos (by omega), rdL8 hlt, if_neg (by omega), h1, Option.bind_some, w1 i (by omega)]
    exact ih (i + 1) k out (by omega) (by omega) h2 (by omega) (by omega)
theorem coalesce_f (ls : List (List ByteArray)) (hn : ls.length ≤ 6) (h16 : ∀ x ∈ ls, x.length ≤ 16 ∧ ∀ s ∈ x, TextOk s) (k : Nat) (hk : 80000 ≤ k) : ∃ out, sennitref19_Coalesce.f k ls = some (out, 0) ∧ RowsOk ls.length out ∧ out.length ≤ lens ls := by
  unfold sennitref19_Coalesce.f
  rw [if_neg (by omega)]
  exact coalesce_l0 ls hn h16 ls.length 0 k [] (by omega) (by omega) (fun x hx => by cases hx) (by simp) (by simp)
end Go.Proofs.YtenfoaajipiehaaDoor.Q
