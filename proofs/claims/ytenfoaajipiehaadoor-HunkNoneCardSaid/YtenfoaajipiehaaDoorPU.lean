/- The reference's table, as far as the law HunkNone asks: how many rows, of what marks and texts, and how many are the result's. -/
import Derived.Test.YtenfoaajipiehaaDoorPT
namespace Go.Proofs.YtenfoaajipiehaaDoor.Q
set_option linter.unusedVariables false
set_option linter.unusedSimpArgs false
open Go.RowKit Go.Shelf Go.Proofs.YtenfoaajipiehaaDoorW.PrintWords
theorem sum_add (f g : Nat → Nat) : ∀ l : List Nat, (l.map fun q => f q + g q).sum = (l.map f).sum + (l.map g).sum := by
  intro l
  induction l with
  | nil => rfl
  | cons a l ih => simp only [List.map_cons, List.sum_cons, ih]; omega
theorem sum_bd (f : Nat → Nat) (c : Nat) : ∀ l : List Nat, (∀ q ∈ l, f q ≤ c) → (l.map f).sum ≤ c * l.length := by
  intro l
  induction l with
  | nil => intro _; simp
  | cons a l ih =>
    intro h
    have h1 := h a List.mem_cons_self
    have h2 := ih (fun q hq => h q (List.mem_cons_of_mem _ hq))
    rw [List.map_cons, List.sum_cons, List.length_cons, Nat.mul_succ]
    omega
/-- The pairings of a result with its parents. -/
structure MsOk (R : Nat) (ps : List (List ByteArray)) (ms : List (List Int)) : Prop where
  len : ms.length = ps.length
  ok : ∀ q : Nat, q < ps.length → (ms.getD q []).length = R ∧ MOk (ms.getD q []) (ps.getD q []).length
def llL (ps : List (List ByteArray)) (ms : List (List Int)) (i : Nat) : List (List ByteArray) := (List.range ps.length).map fun q => lostL (ps.getD q []) (ms.getD q []) i
def tot (ps : List (List ByteArray)) (ms : List (List Int)) (i : Nat) : Nat := ((List.range ps.length).map fun q => lostSum (ps.getD q []) (ms.getD q []) i).sum
theorem tot_succ (ps : List (List ByteArray)) (ms : List (List Int)) (i : Nat) : tot ps ms (i + 1) = tot ps ms i + lens (llL ps ms i) := by
  unfold tot lens llL
  rw [List.map_map, ← sum_add]
  rfl
theorem tot_mono (ps : List (List ByteArray)) (ms : List (List Int)) (i d : Nat) : tot ps ms i ≤ tot ps ms (i + d) := by
  induction d with
  | zero => exact Nat.le_refl _
  | succ d ih => rw [← Nat.add_assoc, tot_succ]; omega
theorem getD_at {α : Type} {l : List α} {q : Nat} (h : q < l.length) (d : α) : l.getD q d = l[q] := by simp [List.getD_eq_getElem?_getD, h]
theorem ps_len (r : List ByteArray) (ps : List (List ByteArray)) (hT : MayT r ps) {q : Nat} (hq : q < ps.length) : (ps.getD q []).length ≤ 16 ∧ ∀ s ∈ ps.getD q [], TextOk s := by
  have e := getD_at hq ([] : List ByteArray)
  have hm := List.getElem_mem hq
  have h := hT.p16 _ hm
  rw [e]
  exact ⟨h.1, fun s hs => ⟨h.2 s hs, hT.po _ hm s hs⟩⟩
/-- Rows of a table. -/
def TR (n : Nat) (l : List S41) : Prop := ∀ x ∈ l, x.f0.size = n ∧ (∀ b ∈ x.f0.data.toList, b = 32 ∨ b = 43 ∨ b = 45) ∧ ¬ (43 ∈ x.f0.data.toList ∧ 45 ∈ x.f0.data.toList) ∧ TextOk x.f1
theorem lost_of {c : Nat} {l : List S41} (h : RowsOk c l) : TR c l ∧ l.countP (fun x => !lostB x) = 0 := by
  refine ⟨fun x hx => ?_, List.countP_eq_zero.2 (fun x hx => ?_)⟩
  · obtain ⟨h1, h2, h3, h4⟩ := h x hx
    refine ⟨h1, fun b hb => ?_, fun h => ?_, h4⟩
    · rcases h2 b hb with e | e
      · exact Or.inl e
      · exact Or.inr (Or.inr e)
    · rcases h2 43 h.1 with e | e <;> cases e
  · have h3 := (h x hx).2.2.1
    have : lostB x = true := by unfold lostB; simpa using h3
    rw [this]; decide
theorem TR.app {n : Nat} {a b : List S41} (ha : TR n a) (hb : TR n b) : TR n (a ++ b) := fun x hx => by
  rcases List.mem_append.1 hx with e | e
  · exact ha x e
  · exact hb x e
section
variable (r : List ByteArray) (ps : List (List ByteArray)) (ms : List (List Int)) (hT : MayT r ps) (hM : MsOk r.length ps ms)
include hT hM
theorem tot_le (i : Nat) (hi : i ≤ r.length + 1) : tot ps ms i ≤ 96 := by
  have h1 := tot_mono ps ms i (r.length + 1 - i)
  rw [show i + (r.length + 1 - i) = r.length + 1 by omega] at h1
  have h2 := sum_bd (fun q => lostSum (ps.getD q []) (ms.getD q []) (r.length + 1)) 16 (List.range ps.length) (fun q hq => by
    have hq' := List.mem_range.1 hq
    obtain ⟨g1, g2⟩ := hM.ok q hq'
    have := lostSum_all (ps.getD q []) (ms.getD q []) g2
    rw [g1] at this
    have := (ps_len r ps hT hq').1
    show lostSum (ps.getD q []) (ms.getD q []) (r.length + 1) ≤ 16
    omega)
  rw [List.length_range] at h2
  have h3 := hT.p6
  unfold tot at h1 ⊢
  omega
theorem ahead_l0 (line : Nat) (hl : line ≤ r.length) : ∀ (m i k : Nat), i + m = ps.length → m + 90000 < k →
    ∃ out, sennitref20_ahead.l0 k ps ms line ((llL ps ms line).take i) i = some (out, 0) ∧ RowsOk ps.length out ∧ out.length ≤ lens (llL ps ms line) := by
  have hll : (llL ps ms line).length = ps.length := by unfold llL; simp
  have hp6 := hT.p6
  intro m
  induction m with
  | zero =>
    intro i k hi hk
    obtain ⟨k, rfl⟩ : ∃ k', k = k' + 1 := ⟨k - 1, by omega⟩
    obtain ⟨out, h1, h2, h3⟩ := coalesce_f (llL ps ms line) (by omega) (fun x hx => by
      unfold llL at hx
      obtain ⟨q, hq, rfl⟩ := List.mem_map.1 hx
      have hq' := List.mem_range.1 hq
      obtain ⟨g1, g2⟩ := ps_len r ps hT hq'
      exact ⟨Nat.le_trans (lostL_length _ _ _) g1, fun s hs => g2 s (lostL_mem hs)⟩) k (by omega)
    rw [sennitref20_ahead.l0, if_neg (by omega), List.take_of_length_le (by omega), h1]
    rw [hll] at h2
    exact ⟨out, rfl, h2, h3⟩
  | succ m ih =>
    intro i k hi hk
    obtain ⟨k, rfl⟩ : ∃ k', k = k' + 1 := ⟨k - 1, by omega⟩
    have hlt : i < ps.length := by omega
    have hltm : i < ms.length := by have := hM.len; omega
    obtain ⟨g1, g2⟩ := hM.ok i hlt
    have hpl := (ps_len r ps hT hlt).1
    have hr := hT.r16.1
    have hL := lost20_f (ps.getD i []) (ms.getD i []) g2 (by omega) (by omega) line (by omega) k (by omega)
    have e1 := getD_at hlt ([] : List ByteArray)
    have e2 := getD_at hltm ([] : List Int)
    have hget : (llL ps ms line).take i ++ [lostL ps[i] ms[i] line] = (llL ps ms line).take (i + 1) := by
      rw [List.take_succ_eq_append_getElem (by omega)]
      congr 2
      simp only [llL, List.getElem_map, List.getElem_range, e1, e2]
    rw [e1, e2] at hL
    rw [sennitref20_ahead.l0, if_pos (by omega), if_pos (by omega), if_pos (by omega), rdL8 hlt, rdL9 hltm, hL, Option.bind_some, if_pos (by rw [List.length_take]; omega), w1 i (by omega), hget]
    exact ih (i + 1) k (by omega) (by omega)
theorem table_l1 : ∀ (d i k : Nat) (acc : List S41), i + d = r.length → 100 * d + 100000 < k → TR ps.length acc → acc.countP (fun x => !lostB x) = i → acc.length ≤ i + tot ps ms i →
    ∃ out, sennitref20_Table.l1 k r ps ms acc i = some (out, 0) ∧ TR ps.length out ∧ out.countP (fun x => !lostB x) = r.length ∧ out.length ≤ 112 := by
  have hr := hT.r16.1
  have hp6 := hT.p6
  intro d
  induction d with
  | zero =>
    intro i k acc hi hk hA hc hlen
    obtain ⟨k, rfl⟩ : ∃ k', k = k' + 1 := ⟨k - 1, by omega⟩
    obtain ⟨out, h1, h2, h3⟩ := ahead_l0 r ps ms hT hM i (by omega) ps.length 0 k (by omega) (by omega)
    rw [List.take_zero] at h1
    obtain ⟨t1, t2⟩ := lost_of h2
    have ht := tot_succ ps ms i
    have hb := tot_le r ps ms hT hM (i + 1) (by omega)
    have hb0 := tot_le r ps ms hT hM i (by omega)
    have h1' : sennitref20_ahead.f k ps ms i = some (out, 0) := h1
    rw [sennitref20_Table.l1, if_pos (by omega), h1', Option.bind_some, if_pos (show ((out, (0 : Int)).2) = 0 from rfl), if_pos (by show acc.length + out.length < _; omega), Option.bind_some, if_pos (by omega)]
    exact ⟨acc ++ out, rfl, hA.app t1, by rw [List.countP_append]; omega, by rw [List.length_append]; omega⟩
  | succ d ih =>
    intro i k acc hi hk hA hc hlen
    obtain ⟨k, rfl⟩ : ∃ k', k = k' + 1 := ⟨k - 1, by omega⟩
    have hir : i < r.length := by omega
    obtain ⟨out, h1, h2, h3⟩ := ahead_l0 r ps ms hT hM i (by omega) ps.length 0 k (by omega) (by omega)
    rw [List.take_zero] at h1
    obtain ⟨t1, t2⟩ := lost_of h2
    have ht := tot_succ ps ms i
    have hb := tot_le r ps ms hT hM (i + 1) (by omega)
    have hb0 := tot_le r ps ms hT hM i (by omega)
    have hl2 : ∀ (m q k : Nat) (s : ByteArray), q + m = ps.length → 100 * d + m + 100002 < k → s.size = q → (∀ b ∈ s.data.toList, b = 32 ∨ b = 43) →
        ∃ o, sennitref20_Table.l2 k r ps ms (acc ++ out) i s q = some (o, 0) ∧ TR ps.length o ∧ o.countP (fun x => !lostB x) = r.length ∧ o.length ≤ 112 := by
      intro m
      induction m with
      | zero =>
        intro q k s hq hk hs hbs
        obtain ⟨k, rfl⟩ : ∃ k', k = k' + 1 := ⟨k - 1, by omega⟩
        rw [sennitref20_Table.l2, if_neg (by omega), if_pos (by omega), if_pos (by omega), if_pos (by rw [List.length_append]; omega), rdB hir, w1 i (by omega)]
        have hx : TR ps.length [(⟨s, r[i]⟩ : S41)] := fun x hx => by
          rw [List.mem_singleton.1 hx]
          refine ⟨by show s.size = _; omega, fun b hb => ?_, fun h => ?_, hT.r16.2 _ (List.getElem_mem hir), hT.ro _ (List.getElem_mem hir)⟩
          · rcases hbs b hb with e | e
            · exact Or.inl e
            · exact Or.inr (Or.inl e)
          · rcases hbs 45 h.2 with e | e <;> cases e
        have hnl : lostB (⟨s, r[i]⟩ : S41) = false := by
          unfold lostB
          cases hcc : s.data.toList.contains 45 with
          | false => rfl
          | true =>
            rcases hbs 45 (by simpa using hcc) with e | e <;> cases e
        refine ih (i + 1) k _ (by omega) (by omega) ((hA.app t1).app hx) ?_ (by rw [List.length_append, List.length_append]; simp; omega)
        rw [List.countP_append, List.countP_append, t2, hc]
        simp [hnl]
      | succ m ihm =>
        intro q k s hq hk hs hbs
        obtain ⟨k, rfl⟩ : ∃ k', k = k' + 1 := ⟨k - 1, by omega⟩
        have hlt : q < ps.length := by omega
        have hltm : q < ms.length := by have := hM.len; omega
        obtain ⟨g1, g2⟩ := hM.ok q hlt
        have e2 := getD_at hltm ([] : List Int)
        rw [e2] at g1
        rw [sennitref20_Table.l2, if_pos (by omega), if_pos (by omega), if_pos (by omega), if_pos (by omega), rdL9 hltm, if_pos (by omega), w1 q (by omega)]
        split
        · rw [if_pos (by omega)]
          refine ihm (q + 1) k _ (by omega) (by omega) (by rw [app_size]; omega) (fun b hb => ?_)
          rw [app_data] at hb
          rcases List.mem_append.1 hb with e | e
          · exact hbs b e
          · left; simpa using e
        · rw [if_pos (by omega)]
          refine ihm (q + 1) k _ (by omega) (by omega) (by rw [app_size]; omega) (fun b hb => ?_)
          rw [app_data] at hb
          rcases List.mem_append.1 hb with e | e
          · exact hbs b e
          · right; simpa using e
    have h1' : sennitref20_ahead.f k ps ms i = some (out, 0) := h1
    rw [sennitref20_Table.l1, if_pos (by omega), h1', Option.bind_some, if_pos (show ((out, (0 : Int)).2) = 0 from rfl), if_pos (by show acc.length + out.length < _; omega), Option.bind_some, if_neg (by omega)]
    exact hl2 ps.length 0 k _ (by omega) (by omega) rfl (fun b hb => by cases hb)
end
theorem table_l0 (r : List ByteArray) (ps : List (List ByteArray)) (hT : MayT r ps) (ids : List (List Int)) (hi0 : ids.length = ps.length + 1) (hids : ∀ q : Nat, q < ps.length → (ids.getD 0 []).length = r.length ∧ (ids.getD (q + 1) []).length = (ps.getD q []).length) :
    ∀ (m i k : Nat) (ms : List (List Int)), i + m = ps.length → m + 110000 < k → ms.length = i → (∀ q : Nat, q < i → (ms.getD q []).length = r.length ∧ MOk (ms.getD q []) (ps.getD q []).length) →
    ∃ out, sennitref20_Table.l0 k r ps ids ms i = some (out, 0) ∧ TR ps.length out ∧ out.countP (fun x => !lostB x) = r.length ∧ out.length ≤ 112 := by
  have hr := hT.r16.1
  have hp6 := hT.p6
  intro m
  induction m with
  | zero =>
    intro i k ms hi hk hms hok
    obtain ⟨k, rfl⟩ : ∃ k', k = k' + 1 := ⟨k - 1, by omega⟩
    rw [sennitref20_Table.l0, if_neg (by omega)]
    exact table_l1 r ps ms hT ⟨by omega, fun q hq => hok q (by omega)⟩ r.length 0 k [] (by omega) (by omega) (fun x hx => by cases hx) rfl (by simp)
  | succ m ih =>
    intro i k ms hi hk hms hok
    obtain ⟨k, rfl⟩ : ∃ k', k = k' + 1 := ⟨k - 1, by omega⟩
    have hlt : i < ps.length := by omega
    obtain ⟨a1, a2⟩ := hids i hlt
    have hp := (hT.p16 _ (List.getElem_mem hlt)).1
    have ep := getD_at hlt ([] : List ByteArray)
    have e0 := getD_at (by omega : 0 < ids.length) ([] : List Int)
    have e1 := getD_at (by omega : i + 1 < ids.length) ([] : List Int)
    rw [e0] at a1
    rw [e1, ep] at a2
    obtain ⟨v, h1, h2, h3⟩ := match_f ids[0] ids[i + 1] (by omega) (by omega) k (by omega)
    rw [sennitref20_Table.l0, if_pos (by omega), if_pos (by omega), w1 i (by omega), if_pos (by omega), if_pos (by omega), show (0 : Int) = ((0 : Nat) : Int) from rfl, rdL9 (by omega : 0 < ids.length), rdL9 (by omega : i + 1 < ids.length), h1, Option.bind_some, if_pos (by omega)]
    refine ih (i + 1) k _ (by omega) (by omega) (by simp; omega) (fun q hq => ?_)
    by_cases e : q < ms.length
    · have : (ms ++ [v]).getD q [] = ms.getD q [] := by rw [getD_at (by simp; omega), getD_at e, List.getElem_append_left e]
      rw [this]; exact hok q (by omega)
    · obtain rfl : q = ms.length := by omega
      have : (ms ++ [v]).getD ms.length [] = v := by rw [getD_at (by simp), List.getElem_append_right (Nat.le_refl _)]; simp
      rw [this, show ps.getD ms.length [] = ps[ms.length] from getD_at (by omega) _]
      subst hms
      exact ⟨by omega, by rw [← a2]; exact h3⟩
theorem table_f (r : List ByteArray) (ps : List (List ByteArray)) (hT : MayT r ps) (k : Nat) (hk : 120000 ≤ k) (hw : sennitref20_wrong.f k r ps = some 0) :
    ∃ rows, sennitref20_Table.f k r ps = some (rows, 0) ∧ TR ps.length rows ∧ rows.countP (fun x => !lostB x) = r.length ∧ rows.length ≤ 112 := by
  have hp6 := hT.p6
  have hr := hT.r16.1
  obtain ⟨ids, h1, h2, h3⟩ := all_f ([r] ++ ps) (by simp <;> omega) (fun x hx => by
    rcases List.mem_append.1 hx with e | e
    · rw [List.mem_singleton.1 e]; omega
    · have := (hT.p16 x e).1; omega) k (by omega)
  have hl : ids.length = ps.length + 1 := by rw [h2]; simp <;> omega
  unfold sennitref20_Table.f
  rw [hw, Option.bind_some, if_pos rfl, Option.bind_some, if_pos (by simp <;> omega), h1, Option.bind_some]
  refine table_l0 r ps hT ids hl (fun q hq => ?_) ps.length 0 k [] (by omega) (by omega) rfl (fun q hq => by omega)
  rw [getD_at (by omega : 0 < ids.length), getD_at (by omega : q + 1 < ids.length), getD_at hq]
  have g0 := h3 0 (by omega) (by simp)
  have g1 := h3 (q + 1) (by omega) (by simp <;> omega)
  exact ⟨by simpa using g0, by simpa using g1⟩
end Go.Proofs.YtenfoaajipiehaaDoor.Q
