/- Contract of package hunk's Hunks: what it computes, and its walk. -/
import Derived.Lib.SliceRun
import Derived.Test.YtenfoaajipiehaaDoorX8
import Derived.Test.YtenfoaajipiehaaDoorXA
namespace Go.Proofs.YtenfoaajipiehaaDoor.Q
set_option linter.unusedVariables false
set_option linter.unusedSimpArgs false
open Go.RowKit Go.Shelf Go.Proofs.YtenfoaajipiehaaDoorW.PrintWords Go.Proofs.YtenfoaajipiehaaDoorW.PrintLast Go.Proofs.YtenfoaajipiehaaDoorW.PrintMore
attribute [local go_sem] Oper.semAt_some
/-- The runs of true's, from a place on; in a run that began at some place. -/
def runsGo : Nat → List Bool → Option Nat → List (Nat × Nat)
  | _, [], none => []
  | p, [], some s => [(s, p)]
  | p, x :: l, none => if x then runsGo (p + 1) l (some p) else runsGo (p + 1) l none
  | p, x :: l, some s => if x then runsGo (p + 1) l (some s) else (s, p) :: runsGo (p + 1) l none
theorem runsGo_skip {l : List Bool} {k : Nat} (h : k < l.length) (hm : l[k] = false) : runsGo k (l.drop k) none = runsGo (k + 1) (l.drop (k + 1)) none := by rw [List.drop_eq_getElem_cons h]; simp [runsGo, hm]
theorem runsGo_open {l : List Bool} {k : Nat} (h : k < l.length) (hm : l[k] = true) : runsGo k (l.drop k) none = runsGo (k + 1) (l.drop (k + 1)) (some k) := by rw [List.drop_eq_getElem_cons h]; simp [runsGo, hm]
theorem runsGo_on {l : List Bool} {k s : Nat} (h : k < l.length) (hm : l[k] = true) : runsGo k (l.drop k) (some s) = runsGo (k + 1) (l.drop (k + 1)) (some s) := by rw [List.drop_eq_getElem_cons h]; simp [runsGo, hm]
theorem runsGo_shut {l : List Bool} {k s : Nat} (h : k < l.length) (hm : l[k] = false) : runsGo k (l.drop k) (some s) = (s, k) :: runsGo k (l.drop k) none := by rw [List.drop_eq_getElem_cons h]; simp [runsGo, hm]
theorem runsGo_end {l : List Bool} {k s : Nat} (h : l.length ≤ k) : runsGo k (l.drop k) (some s) = (s, k) :: runsGo k (l.drop k) none := by rw [List.drop_of_length_le h]; rfl
theorem runsGo_length (l : List Bool) : ∀ (p : Nat) (o : Option Nat), (runsGo p l o).length ≤ l.length + (if o.isSome then 1 else 0) := by
  induction l with
  | nil => intro p o; cases o <;> simp [runsGo]
  | cons x l ih =>
    intro p o
    cases o with
    | none =>
      have h1 := ih (p + 1) (some p)
      have h2 := ih (p + 1) none
      simp only [runsGo]
      split <;> simp_all <;> omega
    | some s =>
      have h1 := ih (p + 1) (some s)
      have h2 := ih (p + 1) none
      simp only [runsGo]
      split <;> simp_all <;> omega

theorem spansGo_lt (l : List S41) : ∀ (p : Nat) (o : Option Nat), (∀ s, o = some s → s < p) → ∀ x ∈ spansGo p l o, x.f0 < x.f1 := by
  induction l with
  | nil =>
    intro p o h x hx
    cases o with
    | none => simp [spansGo] at hx
    | some s => have := h s rfl; simp [spansGo] at hx; subst hx; simp; omega
  | cons y l ih =>
    intro p o h x hx
    cases o with
    | none =>
      by_cases hm : markedB y = true
      · simp only [spansGo, hm, if_true] at hx
        exact ih (p + 1) (some p) (fun s e => by cases e; omega) x hx
      · simp only [spansGo, hm] at hx
        exact ih (p + 1) none (fun s e => by cases e) x hx
    | some s =>
      have hs := h s rfl
      by_cases hm : markedB y = true
      · simp only [spansGo, hm, if_true] at hx
        exact ih (p + 1) (some s) (fun s' e => by cases e; omega) x hx
      · simp only [spansGo, hm] at hx
        rcases List.mem_cons.1 hx with rfl | hx
        · simp; omega
        · exact ih (p + 1) none (fun s e => by cases e) x hx
theorem groupsL_lt (l : List S41) (x : S36) (hx : x ∈ groupsL l) : x.f0 < x.f1 := spansGo_lt l 0 none (fun s e => by cases e) x hx
/-- What lies between two places. -/
def midL (l : List S41) (a b : Nat) : List S41 := (l.take b).drop a
/-- The hunk of the rows from a place on, before another. -/
def mkHunk (l : List S41) (z : List Int) (s : Nat × Nat) : S38 :=
  ⟨spansOf (passRows (l.take s.1) z) (passRows (l.take s.2) z), ⟨newRows (l.take s.1) 0, newRows (l.take s.2) 0⟩, midL l s.1 s.2⟩
/-- No lines yet. -/
def zerosOf (l : List S41) : List Int := List.replicate (l[0]?.elim 0 fun x => x.f0.size) 0
/-- What of some rows is shown, with a group. -/
def showOne (l : List S41) (ctx : Int) (dense : Bool) (sh : List Bool) (s : S36) : List Bool := if (!dense || !dullB (midL l s.f0.toNat s.f1.toNat)) = true then showL l ctx s.f0.toNat s.f1.toNat sh else sh
theorem showOne_length (l : List S41) (ctx : Int) (dense : Bool) (sh : List Bool) (s : S36) : (showOne l ctx dense sh s).length = sh.length := by unfold showOne; split <;> simp [showL_length]
def showAll (l : List S41) (ctx : Int) (dense : Bool) (gs : List S36) : List Bool := gs.foldl (showOne l ctx dense) (List.replicate l.length false)
theorem showAll_length (l : List S41) (ctx : Int) (dense : Bool) (gs : List S36) : (showAll l ctx dense gs).length = l.length := by
  have h : ∀ (gs : List S36) (sh : List Bool), (gs.foldl (showOne l ctx dense) sh).length = sh.length := by
    intro gs
    induction gs with
    | nil => intro sh; rfl
    | cons g gs ih => intro sh; exact (ih _).trans (showOne_length ..)
  rw [showAll, h, List.length_replicate]
theorem showAll_snoc (l : List S41) (ctx : Int) (dense : Bool) (gs : List S36) (s : S36) : showAll l ctx dense (gs ++ [s]) = showOne l ctx dense (showAll l ctx dense gs) s := by
  unfold showAll; rw [List.foldl_append]; rfl
/-- What Hunks hands back. -/
def hunk_Hunks.f (k : Nat) (l : List S41) (ctx : Int) (dense : Bool) : Option (List S38 × Int) :=
  if ctx < 0 ∨ 1000 < ctx then some ([], 1)
  else (hunk_May.f k l).bind fun m =>
    if m = false then some ([], 2)
    else if l.length = 0 then some ([], 0)
    else if (l.length ≤ 900 ∧ ∀ x ∈ l, x.f0.size ≤ 100) ∧ 3 * l.length + 5 ≤ k then
      some ((runsGo 0 (showAll l ctx dense (groupsL l)) none).map (mkHunk l (zerosOf l)), 0)
    else none
theorem hunk_Hunks.mono (k : Nat) (y0 : List S41) (y1 : Int) (y2 : Bool) : LeO (hunk_Hunks.f k y0 y1 y2) (hunk_Hunks.f (k + 1) y0 y1 y2) := by
  unfold hunk_Hunks.f
  refine LeO.ite (LeO.refl _) (LeO.bind (hunk_May.mono _ _) (fun m => LeO.ite (LeO.refl _) (LeO.ite (LeO.refl _) ?_)))
  intro r h
  by_cases hc : (y0.length ≤ 900 ∧ ∀ x ∈ y0, x.f0.size ≤ 100) ∧ 3 * y0.length + 5 ≤ k
  · rw [if_pos hc] at h; rw [if_pos ⟨hc.1, by omega⟩]; exact h
  · rw [if_neg hc] at h; cases h

theorem passRows_append (a b : List S41) (z : List Int) : passRows (a ++ b) z = passRows b (passRows a z) := by unfold passRows; rw [List.foldl_append]
theorem newRows_append (a b : List S41) (n : Int) : newRows (a ++ b) n = newRows b (newRows a n) := by unfold newRows; rw [List.foldl_append]
theorem mid_split (l : List S41) (a b : Nat) (h : a ≤ b) : l.take b = l.take a ++ midL l a b := by
  unfold midL
  conv => lhs; rw [← List.take_append_drop a (l.take b)]
  rw [List.take_take, Nat.min_eq_left h]
theorem mid_length (l : List S41) (a b : Nat) (h : b ≤ l.length) : (midL l a b).length = b - a := by unfold midL; rw [List.length_drop, List.length_take, Nat.min_eq_left h]

/-- A row of one's own speaks of cells alone. -/
theorem R_ownFrom {α : Type} {d : Kd α} {e base : Nat} {ok : Nat → Prop} {v : Value} {xs : List α} {X Y : World} {row : Option Nat} {B : Nat} (hs : Kd.R d e X base ok v xs) (hg : X.grownBy Y row) (hr : ∀ r, row = some r → B ≤ r ∧ ∃ o : Obj, X.heap[r]? = some o ∧ o.isCells = false) : Kd.R d e Y base ok v xs := by
  refine Kd.R_mono (Kd.R_grown (Kd.R_bound hs) hg (fun k hk e' => ?_)) (fun k hk => hk.1)
  obtain ⟨-, -, -, q, -, cells, hc⟩ := hk
  obtain ⟨-, o, ho, hoc⟩ := hr k e'.symm
  rw [hc] at ho; cases ho; cases hoc

/-- The three arguments in their boxes. -/
structure HkS (w : World) (A : Option Addr) (c : Nat) (l : List S41) (a1 : Int) (a2 : Bool) (W : World) : Prop where
  b0 : Below w.heap.size w W
  r : Boxed W w.heap.size 22 (.slice A l.length c)
  c : Boxed W (w.heap.size + 1) 3 (.int .i64 a1)
  d : Boxed W (w.heap.size + 2) 4 (.bool a2)
theorem Boxed.block {W W' : World} {B : Nat} {t : TypeId} {v : Value} (h : Boxed W B t v) (he : W'.heap[B]? = W.heap[B]?) : Boxed W' B t v := he.trans h
theorem HkS.move {w : World} {A : Option Addr} {c : Nat} {l : List S41} {a1 : Int} {a2 : Bool} {W W' : World} (h : HkS w A c l a1 a2 W) (hb : Below w.heap.size w W') (hm : ∀ k, w.heap.size ≤ k → k < w.heap.size + 3 → W'.heap[k]? = W.heap[k]?) : HkS w A c l a1 a2 W' :=
  ⟨hb, Boxed.block h.r (hm _ (by omega) (by omega)), Boxed.block h.c (hm _ (by omega) (by omega)), Boxed.block h.d (hm _ (by omega) (by omega))⟩
theorem HkS.lt {w : World} {A : Option Addr} {c : Nat} {l : List S41} {a1 : Int} {a2 : Bool} {W : World} (h : HkS w A c l a1 a2 W) : w.heap.size + 3 ≤ W.heap.size := h.d.lt
theorem HkS.below {w : World} {A : Option Addr} {c : Nat} {l : List S41} {a1 : Int} {a2 : Bool} {W W' : World} (h : HkS w A c l a1 a2 W) (hb : Below W.heap.size W W') : HkS w A c l a1 a2 W' :=
  h.move (below_step h.b0 hb) (fun k h1 h2 => hb.block k (by have := h.lt; omega))
theorem HkS.start (w : World) (A : Option Addr) (c : Nat) (l : List S41) (a1 : Int) (a2 : Bool) : HkS w A c l a1 a2 (((w.alloc (.cells #[.slice A l.length c] 22)).alloc (.cells #[.int .i64 a1] 3)).alloc (.cells #[.bool a2] 4)) := by
  have b0 := Boxed.new w 22 (.slice A l.length c)
  have b1 := Boxed.new (w.alloc (.cells #[.slice A l.length c] 22)) 3 (.int .i64 a1)
  have b2 := Boxed.new ((w.alloc (.cells #[.slice A l.length c] 22)).alloc (.cells #[.int .i64 a1] 3)) 4 (.bool a2)
  simp only [World.size_alloc] at b1 b2
  exact ⟨below_alloc (below_alloc (below_alloc (Below.refl _ _) _) _) _, (b0.alloc _).alloc _, b1.alloc _, b2⟩

/-- Which rows are shown: block s; its box is block s + 1. -/
structure ShS (w : World) (A : Option Addr) (c : Nat) (l : List S41) (a1 : Int) (a2 : Bool) (s : Nat) (sh : List Bool) (W : World) : Prop where
  h : HkS w A c l a1 a2 W
  r : Kd.R Kd.bool 4 W w.heap.size (fun k => k = s) (.slice (some ⟨s, 0, none⟩) l.length l.length) sh
  x : Boxed W (s + 1) 53 (.slice (some ⟨s, 0, none⟩) l.length l.length)
  b : w.heap.size + 3 ≤ s
theorem ShS.own {w : World} {A : Option Addr} {c : Nat} {l : List S41} {a1 : Int} {a2 : Bool} {s B : Nat} {f : List (Grp l) → List Bool} (hB : w.heap.size ≤ B) : OwnFrom B (fun pre W => ShS w A c l a1 a2 s (f pre) W) := by
  intro p X Y row hs hg hr
  have hr' : ∀ r, row = some r → ∃ o : Obj, X.heap[r]? = some o ∧ o.isCells = false := fun r e => (hr r e).2
  exact ⟨⟨ownFrom_below (β := Unit) (Nat.le_refl _) hB () X Y row hs.h.b0 hg hr, boxed_own _ _ (fun _ : Unit => _) () X Y row hs.h.r hg hr', boxed_own _ _ (fun _ : Unit => _) () X Y row hs.h.c hg hr', boxed_own _ _ (fun _ : Unit => _) () X Y row hs.h.d hg hr'⟩,
    R_ownFrom hs.r hg hr, boxed_own _ _ (fun _ : Unit => _) () X Y row hs.x hg hr', hs.b⟩
theorem ShS.move {w : World} {A : Option Addr} {c : Nat} {l : List S41} {a1 : Int} {a2 : Bool} {s : Nat} {sh : List Bool} {W W' : World} (h : ShS w A c l a1 a2 s sh W) (hb : Below w.heap.size w W') (hm : ∀ k, w.heap.size ≤ k → k < s + 2 → W'.heap[k]? = W.heap[k]?) : ShS w A c l a1 a2 s sh W' :=
  ⟨h.h.move hb (fun k h1 h2 => hm k h1 (by have := h.b; omega)), Kd.R_step h.r (fun k hk _ => hm k (by have := h.b; omega) (by omega)), Boxed.block h.x (hm _ (by have := h.b; omega) (by omega)), h.b⟩
theorem ShS.lt {w : World} {A : Option Addr} {c : Nat} {l : List S41} {a1 : Int} {a2 : Bool} {s : Nat} {sh : List Bool} {W : World} (h : ShS w A c l a1 a2 s sh W) : s + 2 ≤ W.heap.size := h.x.lt
theorem ShS.below {w : World} {A : Option Addr} {c : Nat} {l : List S41} {a1 : Int} {a2 : Bool} {s : Nat} {sh : List Bool} {W W' : World} (h : ShS w A c l a1 a2 s sh W) (hb : Below W.heap.size W W') : ShS w A c l a1 a2 s sh W' :=
  h.move (below_step h.h.b0 hb) (fun k h1 h2 => hb.block k (by have := h.lt; omega))
theorem below_sets {B b : Nat} {a : World} (hb : B ≤ b) : ∀ (vs : List Value) (o : Nat) {w : World}, Below B a w → Below B a (w.setCells b o vs)
  | [], _, _, h => h
  | v :: r, o, w, h => below_sets hb r (o + 1) (h.setCell (p := ⟨b, o, none⟩) hb v)
/-- A row of false's that is new, and cleared. -/
theorem shown_new (w1 : World) (base n : Nat) (hb : base ≤ w1.heap.size) (hn : n ≤ 1000) :
    (∀ j, j < n → (((w1.alloc (.cells (madeCells #[.bool false] n) 4)).alloc (.cells #[.slice (some ⟨w1.heap.size, 0, none⟩) n n] 53)).cell? ⟨w1.heap.size, 0 + j, none⟩).isSome = true) ∧
    (∀ j, j < n → ((w1.alloc (.cells (madeCells #[.bool false] n) 4)).alloc (.cells #[.slice (some ⟨w1.heap.size, 0, none⟩) n n] 53)).frozen? ⟨w1.heap.size, 0 + j, none⟩ = false) ∧
    ∀ W2, ((w1.alloc (.cells (madeCells #[.bool false] n) 4)).alloc (.cells #[.slice (some ⟨w1.heap.size, 0, none⟩) n n] 53)).setCells w1.heap.size 0 (List.replicate n (.bool false)) = W2 →
      Kd.R Kd.bool 4 W2 base (fun k => k = w1.heap.size) (.slice (some ⟨w1.heap.size, 0, none⟩) n n) (List.replicate n false) ∧ Boxed W2 (w1.heap.size + 1) 53 (.slice (some ⟨w1.heap.size, 0, none⟩) n n) ∧ Below w1.heap.size w1 W2 := by
  generalize hc : (.slice (some ⟨w1.heap.size, 0, none⟩) n n : Value) = u
  obtain ⟨Wc, hW⟩ : ∃ Wc, (w1.alloc (.cells (madeCells #[.bool false] n) 4)).alloc (.cells #[u] 53) = Wc := ⟨_, rfl⟩
  have hbl : Below w1.heap.size w1 Wc := by rw [← hW]; exact below_alloc (below_alloc (Below.refl _ _) _) _
  have hs1 : Wc.heap[w1.heap.size]? = some (.cells (madeCells #[.bool false] n) 4 (0, 0)) := by
    rw [← hW]
    exact (Below.heap_alloc _ _ _ (by simp)).trans (heap_alloc_new w1 _)
  have hs2 : Wc.heap[w1.heap.size + 1]? = some (.cells #[u] 53 (0, 0)) := by
    have := heap_alloc_new (w1.alloc (.cells (madeCells #[.bool false] n) 4)) (.cells #[u] 53)
    rw [World.size_alloc] at this
    rw [← hW]; exact this
  have hsz := size_madeCells #[.bool false] n
  rw [hW]
  refine ⟨fun j hj => ?_, fun j hj => ?_, fun W2 h2 => ?_⟩
  · simp [World.cell?, hs1]; omega
  · simp [World.frozen?, hs1]
  · obtain ⟨cur, h3, h4, h5⟩ := setCells_row (List.replicate n (Value.bool false)) 0 Wc _ hs1 (by rw [hsz, List.length_replicate]; omega)
    rw [h2] at h3
    have h6 : cur.toList = List.replicate n (Value.bool false) := by
      rw [h5]; simp [hsz]
    have h7 : cur = (List.replicate n (Value.bool false)).toArray := by rw [← h6]
    refine ⟨?_, ?_, ?_⟩
    · refine Kd.R_of_own (enc := Value.bool) ⟨by simp [encs], .inr ⟨w1.heap.size, n, cur, ?_, hb, h3, by simp, by unfold maxLen; omega, ?_, ?_⟩⟩ (fun k hk => ?_)
      · rw [← hc]; simp
      · rw [h4, hsz]; omega
      · rw [h6]; simp [encs]
      · rw [← hc] at hk; simpa [Value.ownBlock] using hk.symm
    · rw [← h2]; exact (setCells_far _ _ _ (by omega)).trans hs2
    · rw [← h2]; exact below_sets (Nat.le_refl _) _ _ hbl
theorem below_of {w W W' : World} (h : Below w.heap.size w W) (h' : Below w.heap.size w W') (hs : W.heap.size ≤ W'.heap.size) : Below w.heap.size W W' :=
  ⟨h'.os.trans h.os.symm, h'.tape.trans h.tape.symm, h'.output.trans h.output.symm, hs, fun k hk => (h'.block k hk).trans (h.block k hk).symm⟩
theorem C_kept {w W : World} {A : Option Addr} {l : List S41} (hF : Kd.F k41 w (fun k => k < w.heap.size) A l.length l) (hm : ∀ k, k < w.heap.size → W.heap[k]? = w.heap[k]?) : Kd.C k41 W A l.length l :=
  Kd.F_now (Kd.F_step hF (fun k hk _ => hm k hk))
theorem show_step (k : Nat) (w : World) (A : Option Addr) (c : Nat) (l : List S41) (a1 : Int) (a2 : Bool) (s : Nat) (sh : List Bool) (f t : Nat) (W : World) (h : ShS w A c l a1 a2 s sh W) (hF : Kd.F k41 w (fun k => k < w.heap.size) A l.length l)
    (hlc : l.length ≤ c) (hft : f ≤ t) (htl : t ≤ l.length) (hl : l.length ≤ 1000000) (ha : 0 ≤ a1 ∧ a1 ≤ 1000000) (hs : ∀ x ∈ l, x.f0.size ≤ 4000000000) (hsh : sh.length = l.length) (hk : 3 * l.length + 5 ≤ k) :
    Calls Tryd.prog 27 #[.slice (some ⟨s, 0, none⟩) l.length l.length, .slice A l.length c, .agg #[.int .i64 f, .int .i64 t], .int .i64 a1] W fun e w' => e = .returned (.tuple #[]) ∧ ShS w A c l a1 a2 s (showL l a1 f t sh) w' ∧ Kept W w' (fun k => k = s) := by
  have hb := h.b
  refine (hunk_show.calls k (fun k => k = s) _ sh A c l f t a1 _ w W h.h.b0 h.r (fun W_ hW => C_kept hF (fun k hk => (hW.2 k (by have := h.lt; omega) (by omega)).trans (h.h.b0.block k hk))) hlc (show_f l a1 f t hft htl hl ha hs k sh hsh hk)).mono ?_
  rintro e w' ⟨rfl, hr, hb1, hk1⟩
  have hlt := h.lt
  refine ⟨rfl, ⟨h.h.move hb1 (fun k h1 h2 => hk1.2 k (by omega) (by omega)), Kd.R_mono (Kd.R_tight rfl hr) (fun k hk => by simpa [Value.ownBlock] using hk), Boxed.block h.x (hk1.2 _ (by omega) (by omega)), hb⟩, hk1⟩
/-- What a round of the loop over the groups must leave. -/
theorem round_end {w : World} {A : Option Addr} {c : Nat} {l : List S41} {a1 : Int} {a2 : Bool} {s B N0 : Nat} {sh sh' : List Bool} {W W' : World} (h : ShS w A c l a1 a2 s sh W) (h' : ShS w A c l a1 a2 s sh' W') (hk : Kept W W' (fun k => k = s)) (hsN : s < B) (hBN : B < N0) (hN : N0 ≤ W.heap.size) :
    KeepsFrom N0 W W' ∧ KpB w.heap.size B W W' ∧ ShS w A c l a1 a2 s sh' W' ∧ N0 ≤ W'.heap.size :=
  ⟨⟨hk.1, fun k o hk1 ho _ => (hk.2 k (Array.getElem?_eq_some_iff.1 ho).1 (by omega)).trans ho⟩, ⟨below_of h.h.b0 h'.h.b0 hk.1, hk.2 _ (by omega) (by omega)⟩, h', Nat.le_trans hN hk.1⟩

/-- The last loop: the counter has passed p rows, the hunks hs are made. -/
structure MnS (w : World) (A : Option Addr) (c : Nat) (l : List S41) (a1 : Int) (a2 : Bool) (s : Nat) (sh : List Bool) (D b : Nat) (P0 : Nat → Prop) (p : Nat) (v : Value) (hs : List S38) (W : World) : Prop where
  h : ShS w A c l a1 a2 s sh W
  n : Cnt W (b + 1) b (passRows (l.take p) (zerosOf l)) (newRows (l.take p) 0)
  o : Kd.N k38 38 W (b + 2) (fun k => (P0 k ∧ k < w.heap.size) ∨ b + 1 < k) v hs
  d : W.heap[D]? = some (.deferred (some []))
  lt : s + 2 ≤ D ∧ D < b
theorem MnS.sz {w : World} {A : Option Addr} {c : Nat} {l : List S41} {a1 : Int} {a2 : Bool} {s : Nat} {sh : List Bool} {D b : Nat} {P0 : Nat → Prop} {p : Nat} {v : Value} {hs : List S38} {W : World} (h : MnS w A c l a1 a2 s sh D b P0 p v hs W) : b + 2 ≤ W.heap.size ∧ w.heap.size + 3 ≤ s :=
  ⟨(Array.getElem?_eq_some_iff.1 h.n.hg).1, h.h.b⟩
/-- The counter has gone on. -/
theorem MnS.step {w : World} {A : Option Addr} {c : Nat} {l : List S41} {a1 : Int} {a2 : Bool} {s : Nat} {sh : List Bool} {D b : Nat} {P0 : Nat → Prop} {p p' : Nat} {v : Value} {hs : List S38} {W W' : World} (h : MnS w A c l a1 a2 s sh D b P0 p v hs W)
    (hn : Cnt W' (b + 1) b (passRows (l.take p') (zerosOf l)) (newRows (l.take p') 0)) (hb : Below w.heap.size w W') (hk : Kept W W' (fun k => k = b + 1 ∨ k = b)) : MnS w A c l a1 a2 s sh D b P0 p' v hs W' := by
  obtain ⟨h1, h2⟩ := h.sz
  have h3 := h.lt
  exact ⟨h.h.move hb (fun k h4 h5 => hk.2 k (by omega) (by omega)), hn, Kd.N_step h.o (fun k hk1 hk2 => hk.2 k hk2 (by omega)), (hk.2 D (by omega) (by omega)).trans h.d, h.lt⟩
/-- A row of its own has been written. -/
theorem MnS.put {w : World} {A : Option Addr} {c : Nat} {l : List S41} {a1 : Int} {a2 : Bool} {s : Nat} {sh : List Bool} {D b : Nat} {P0 : Nat → Prop} {p : Nat} {v v' : Value} {hs hs' : List S38} {W W' : World} (h : MnS w A c l a1 a2 s sh D b P0 p v hs W)
    (hb : Below (b + 2) W W') (ho : Kd.N k38 38 W' (b + 2) (fun k => (P0 k ∧ k < w.heap.size) ∨ b + 1 < k) v' hs') : MnS w A c l a1 a2 s sh D b P0 p v' hs' W' := by
  obtain ⟨h1, h2⟩ := h.sz
  have h3 := h.lt
  exact ⟨h.h.move (h.h.h.b0.trans (hb.mono (by omega))) (fun k h4 h5 => hb.block k (by omega)), ⟨(hb.block _ (by omega)).trans h.n.hg, (hb.block _ (by omega)).trans h.n.hb, h.n.ne⟩, ho, (hb.block D (by omega)).trans h.d, h.lt⟩
/-- The new hunk's cells. -/
theorem hunk_cells {w W : World} {P0 : Nat → Prop} {A' : Option Addr} {n b s0 : Nat} {v : Value} {x : S38} (hn : x.f2.length = n) (hr : Kd.R k36 36 W s0 (fun k => s0 ≤ k) v x.f0) (hs : b + 1 < s0) (hF : Kd.F k41 W (fun k => P0 k ∧ k < w.heap.size) A' n x.f2) :
    Kd.FK k38 W (fun k => (P0 k ∧ k < w.heap.size) ∨ s0 ≤ k) x [v, .int .i64 x.f1.f0, .int .i64 x.f1.f1, .slice A' n n] := by
  subst hn
  obtain ⟨A, c, rfl, hc⟩ := Kd.R_reads hr
  exact k38_mkF W _ x hc.1 (Kd.F_mono (Kd.N_F (Kd.R_N hr)) (fun k hk => .inr hk)) (Nat.le_refl _) (Kd.F_mono hF (fun k hk => .inl hk))
theorem made_nums (n : Nat) : madeCells #[.int .i64 0] n = (nums .i64 (List.replicate n 0)).toArray := by
  apply Array.ext
  · simp [madeCells, nums]
  · intro i h1 h2
    simp [madeCells, nums, Nat.mod_one]
theorem rd_bool {sh : List Bool} {j : Nat} (h : j < sh.length) : rdOf false sh (j : Int) = sh[j] := by simp [rdOf, List.getD_eq_getElem?_getD, h]

set_option maxRecDepth 100000 in
set_option maxHeartbeats 4000000 in
theorem hunk_Hunks.calls (k : Nat) (P0_ : Nat → Prop) (A0 : Option Addr) (c0 : Nat) (l0 : List (S41)) (a1 : Int) (a2 : Bool) (r1 : List (S38)) (r2 : Int) (w : World) (hs0 : Kd.V k41 41 w w.heap.size (fun k_ => P0_ k_) (.slice A0 l0.length c0) l0) (hmx : MaxOk w) (h : hunk_Hunks.f k l0 a1 a2 = some (r1, r2)) :
    Calls Tryd.prog 11 #[.slice A0 l0.length c0, .int .i64 a1, .bool a2] w fun e w' => ∃ v0_ : Value, e = .returned (.tuple #[v0_, .int .i64 r2]) ∧ Kd.N k38 38 w' w.heap.size (fun k_ => (P0_ k_ ∨ w.heap.size ≤ k_)) v0_ r1 ∧ Below w.heap.size w w' := by
  obtain ⟨-, hlc, hF⟩ := Kd.V_at hs0
  have HR := Aside0.mk (Kd.F_now hF)
  have HF := Aside0.mk (Kd.F_bound hF)
  have HF1 := Aside0.mk (Kd.F_mono (Kd.F_bound hF) (fun k (hk : P0_ k ∧ k < w.heap.size) => hk.2))
  have HM := Aside0.mk hmx
  have HS := Aside0.mk (HkS.start w A0 c0 l0 a1 a2)
  clear hs0 hF hmx
  refine (callsIn_wide (n := 9)).1 ?_
  refine callsIn_of_wp_marks Tryd.func11 rfl trivial ?_ rfl
  simp only [Tryd.ntmps11, List.size_toArray, List.length_cons, List.length_nil, Nat.reduceAdd, Nat.reduceSub, Array.replicate_succ, Array.replicate_zero, List.push_toArray, List.append_toArray, List.nil_append, List.cons_append]
  unfold hunk_Hunks.f at h
  by_cases hctx : a1 < 0 ∨ 1000 < a1
  · rw [if_pos hctx] at h
    obtain ⟨rfl, rfl⟩ := Prod.mk.inj (Option.some.inj h)
    clear h
    rcases Int.lt_or_le a1 0 with h0 | h0
    · gi_wp2
      exact ⟨_, results_tmp2 rfl _ _ _, _, rfl, Kd.N_nil _ _ _ _ _, HS.out.b0⟩
    · have h1 : 1000 < a1 := by omega
      gi_wp2
      exact ⟨_, results_tmp2 rfl _ _ _, _, rfl, Kd.N_nil _ _ _ _ _, HS.out.b0⟩
  · rw [if_neg hctx] at h
    have h0 : 0 ≤ a1 := by omega
    have h1 : a1 ≤ 1000 := by omega
    clear hctx
    obtain ⟨m, hMay, h⟩ := Option.bind_eq_some_iff.1 h
    have HMy := Aside0.mk (fun W (hW : Below w.heap.size w W) => hunk_May.calls k A0 c0 l0 m W (Kd.C_below HR.out hW) hlc hMay)
    clear hMay
    cases m with
    | false =>
      rw [if_pos rfl] at h
      obtain ⟨rfl, rfl⟩ := Prod.mk.inj (Option.some.inj h)
      clear h
      gi_wp2_with (refine ⟨trivial, ?_⟩; gi_at_call 19; refine (callsIn_wide.2 (HMy.out _ HS.out.b0)).mono ?_; rintro e w1 ⟨rfl, hb1⟩; have HS1 := Aside0.mk (HS.out.below hb1); clear hb1 HS HMy)
      exact ⟨_, results_tmp2 rfl _ _ _, _, rfl, Kd.N_nil _ _ _ _ _, HS1.out.b0⟩
    | true =>
      rw [if_neg (by decide)] at h
      gi_wp2_with (refine ⟨trivial, ?_⟩; gi_at_call 19; refine (callsIn_wide.2 (HMy.out _ HS.out.b0)).mono ?_; rintro e w1 ⟨rfl, hb1⟩; have HS1 := Aside0.mk (HS.out.below hb1); clear hb1 HS HMy; have hc3 := HS1.out.r.cell; have hc4 := HS1.out.c.cell; have hc5 := HS1.out.d.cell)
      · have hz : l0.length = 0 := by have := eq_of_beq (by assumption : ((l0.length : Int) == 0) = true); omega
        rw [if_pos hz] at h
        obtain ⟨rfl, rfl⟩ := Prod.mk.inj (Option.some.inj h)
        exact ⟨_, results_tmp2 rfl _ _ _, _, rfl, Kd.N_nil _ _ _ _ _, HS1.out.b0⟩
      · have hz : ¬ l0.length = 0 := by
          have h2 : ((l0.length : Int) == 0) = false := by assumption
          intro e; rw [e] at h2; cases h2
        rw [if_neg hz] at h
        by_cases hbd : (l0.length ≤ 900 ∧ ∀ x ∈ l0, x.f0.size ≤ 100) ∧ 3 * l0.length + 5 ≤ k
        · rw [if_pos hbd] at h
          have hmk := print_make_of (P := Tryd.prog) 53 4 (.bool false) 1 Tryd.underlying53 (by kernel_rfl) rfl (by omega) l0.length (by omega)
          have hclr := fun W b h1 h2 => Go.Lib.run_clear_slice (P := Tryd.prog) W 53 4 0 (.bool false) Tryd.underlying53 Tryd.zeroValue4 rfl rfl b 0 l0.length l0.length (by omega) h1 h2
          gi_wp2
          rw [hmk]
          gi_wp2
          obtain ⟨q1, q2, q3⟩ := shown_new w1 w.heap.size l0.length HS1.out.b0.size (by omega)
          rw [hclr _ _ q1 q2]
          obtain ⟨W2, hW2⟩ : ∃ W2, ((w1.alloc (.cells (madeCells #[.bool false] l0.length) 4)).alloc (.cells #[.slice (some ⟨w1.heap.size, 0, none⟩) l0.length l0.length] 53)).setCells w1.heap.size 0 (List.replicate l0.length (.bool false)) = W2 := ⟨_, rfl⟩
          obtain ⟨q4, q5, q6⟩ := q3 W2 hW2
          rw [hW2]
          have hsl := HS1.out.lt
          have HSh : Aside0 (ShS w A0 c0 l0 a1 a2 w1.heap.size (showAll l0 a1 a2 []) W2) := ⟨⟨HS1.out.below q6, q4, q5, hsl⟩⟩
          clear q1 q2 q3 q4 q5 q6 hW2 hmk hclr HS1 hc3 hc4 hc5
          have hc3 := HSh.out.h.r.cell
          gi_wp2_with (refine ⟨trivial, ?_⟩; gi_at_call 26; refine (groups_at _ _ _ _ _).mono ?_; rintro e w' ⟨rfl, rfl⟩)
          have hlt2 := HSh.out.lt
          have bG := Boxed.new W2 22 (.slice A0 l0.length c0)
          have HS3 := Aside0.mk (HSh.out.below (below_alloc (Below.refl _ _) (.cells #[.slice A0 l0.length c0] 22)))
          have hsz3 : (W2.alloc (.cells #[.slice A0 l0.length c0] 22)).heap.size = W2.heap.size + 1 := by simp
          obtain ⟨W3, hW3⟩ : ∃ W3, W2.alloc (.cells #[.slice A0 l0.length c0] 22) = W3 := ⟨_, rfl⟩
          rw [hW3] at bG HS3 hsz3 ⊢
          clear hW3 HSh hc3
          refine wpIn_rangeFunc_ownH rfl (by omega) (gf := 50) (lb := #[.pointer (some ⟨W2.heap.size, 0, none⟩)]) rfl trivial (enters_of Tryd.func50 (by kernel_rfl) rfl)
            (groups1_stops 8 (by omega) w W2.heap.size A0 c0 l0 W3 HR.out (by omega) (fun x hx => Nat.le_trans (hbd.1.2 x hx) (by decide)) ⟨HS3.out.h.b0, bG⟩)
            (fun h k => KpB.trans h k) (fun W b o o' h1 h2 h3 h4 => ⟨belowK_b (w := W3) (n₀ := w.heap.size) (by omega) W b o o' h1 h2 h3 h4, World.putObj_heap_other (by omega)⟩) (Below.refl _ _) (fun _ => rfl)
            (fun pre W => ShS w A0 c0 l0 a1 a2 w1.heap.size (showAll l0 a1 a2 (pre.map (·.1))) W ∧ W3.heap.size ≤ W.heap.size)
            (fun _ _ _ => False) (OwnFrom.and (ShS.own (by omega)) (fun _ _ _ _ hs hg _ => Nat.le_trans hs hg.size)) (fun _ _ _ _ _ hs _ _ => hs) ⟨HS3.out, Nat.le_refl _⟩
            (fun x a' W => ∃ Bx, W2.heap.size < Bx ∧ Box36 W Bx x.1 ∧ a' = { tmps := #[.slice A0 l0.length c0, .int .i64 a1, .bool a2, .pointer (some ⟨w.heap.size, 0, none⟩), .pointer (some ⟨w.heap.size + 1, 0, none⟩), .pointer (some ⟨w.heap.size + 1 + 1, 0, none⟩), .slice none 0 0, .int .i64 0, .pointer (some ⟨w1.heap.size + 1, 0, none⟩), .pointer (some ⟨Bx, 0, none⟩), undef, undef, undef, undef, .bool (decide (a1 < 0) || decide (1000 < a1)), .int .i64 a1, .bool (decide (a1 < 0)), .bool (decide (a1 < 0)), .int .i64 a1, .bool (decide (1000 < a1)), .bool (decide (a1 < 0) || decide (1000 < a1)), .bool false, .slice A0 l0.length c0, .bool true, .bool false, .bool false, .slice A0 l0.length c0, .int .i64 l0.length, .bool false, .slice A0 l0.length c0, .int .i64 l0.length, .slice (some ⟨w1.heap.size, 0, none⟩) l0.length l0.length, .slice (some ⟨w1.heap.size, 0, none⟩) l0.length l0.length, .slice A0 l0.length c0, .func (.func 50) #[] #[.pointer (some ⟨W2.heap.size, 0, none⟩)], .agg #[.int .i64 x.1.f0, .int .i64 x.1.f1], undef, undef, undef, undef, undef, undef, undef, undef, undef, undef, undef, undef, undef, undef, undef, undef, undef, undef, undef, undef, undef, undef, undef, undef, undef, undef, undef, undef, undef, undef, undef, undef, undef, undef, undef, undef, undef, undef, undef, undef, undef, undef, undef, undef, undef, undef, undef, undef, undef, undef, undef, undef, undef, undef, undef, undef, undef, undef, undef, undef, undef, undef, undef, undef, undef], defers := [] })
            (fun x a' s X Y row hs hg hr => by obtain ⟨Bx, h1, h2, h3⟩ := hs; exact ⟨Bx, h1, box36_own Bx _ x.1 () X Y row h2 hg hr, h3⟩)
            ?assign ?body ?done ?stop
          case assign =>
            rintro lp pre x W K hI hK
            dsimp only [encGrp]
            gi_wp2
            exact hK _ _ ((KeepsOthers.alloc _ _).from _) ⟨(Below.refl _ W).alloc hI.1.h.b0.size _, Below.heap_alloc W _ _ (by omega)⟩ ⟨hI.1.below (below_alloc (Below.refl _ _) _), Nat.le_trans hI.2 (by simp)⟩ ⟨W.heap.size, by omega, heap_alloc_new W _, rfl⟩
          case body =>
            rintro lp pre x a' W hlp ⟨r, hr⟩ HI ⟨Bx, hBx, bX, rfl⟩ hlt
            obtain ⟨HI, hW⟩ := HI
            have hc3 := HI.h.r.cell
            have hc4 := HI.h.c.cell
            have hc5 := HI.h.d.cell
            have hc8 := HI.x.cell
            obtain ⟨hx0, hx1⟩ := bX.cells
            have HI := Aside0.mk HI
            have hin := groupsL_in l0 x.1 x.2
            have hin2 := groupsL_lt l0 x.1 x.2
            have hBlt : Bx < W.heap.size := (Array.getElem?_eq_some_iff.1 bX).1
            obtain ⟨⟨xf, xt⟩, hxm⟩ := x
            obtain ⟨f, rfl⟩ := Int.eq_ofNat_of_zero_le hin.1
            obtain ⟨tt, rfl⟩ := Int.eq_ofNat_of_zero_le (Int.le_trans hin.1 hin.2.1)
            dsimp only at hin hin2 hx0 hx1
            have hft : f ≤ tt := by omega
            have htl : tt ≤ l0.length := by omega
            have hsl1 : (showAll l0 a1 a2 (pre.map (·.1))).length = l0.length := showAll_length ..
            have hSh := Aside0.mk (fun W' (h : ShS w A0 c0 l0 a1 a2 w1.heap.size (showAll l0 a1 a2 (pre.map (·.1))) W') => show_step k w A0 c0 l0 a1 a2 w1.heap.size _ f tt W' h HF1.out hlc hft htl (by omega) ⟨h0, by omega⟩ (fun x hx => Nat.le_trans (hbd.1.2 x hx) (by decide)) hsl1 hbd.2)
            have hEnd := Aside0.mk (fun sh' W' (h' : ShS w A0 c0 l0 a1 a2 w1.heap.size sh' W') hk => round_end HI.out h' hk (show w1.heap.size < W2.heap.size by omega) (show W2.heap.size < W3.heap.size by omega) hW)
            cases a2 with
            | false =>
              gi_wp2
              refine ⟨trivial, ?_⟩
              gi_wp2_with (refine ⟨trivial, ?_⟩; gi_at_call 27; refine (CallsIn.inRound lp (callsIn_wide.2 (hSh.out _ HI.out))).mono ?_; rintro e w' ⟨rfl, hS1, hk1⟩; have HS1 := Aside0.mk hS1; have HK1 := Aside0.mk hk1; clear hS1 hk1)
              obtain ⟨e1, e2, e3, e4⟩ := hEnd.out _ _ HS1.out HK1.out
              exact ⟨e1, e2, by rw [List.map_append, List.map_singleton, showAll_snoc]; exact e3, e4⟩
            | true =>
              have hD := Aside0.mk (hunk_Dull_at (if c0 = f then A0 else A0.map (·.add (f * k41.sz))) (c0 - f) (midL l0 f tt) W (Kd.C_mid (C_kept HF1.out (fun k hk => HI.out.h.b0.block k hk)) hft htl hlc) (by rw [mid_length _ _ _ htl]; omega) (MaxOk.below HM.out HI.out.h.b0) (fun x hx => Nat.le_trans (hbd.1.2 x (List.mem_of_mem_take (List.mem_of_mem_drop hx))) (by decide)))
              rw [mid_length _ _ _ htl] at hD
              have hq : Aside0 (∀ sh, showOne l0 a1 true sh ⟨f, tt⟩ = if dullB (midL l0 f tt) = true then sh else showL l0 a1 f tt sh) := ⟨fun sh => by simp only [showOne, Int.toNat_natCast]; cases dullB (midL l0 f tt) <;> simp⟩
              generalize dullB (midL l0 f tt) = dd at hD hq
              have hcf : ¬ c0 = f := by omega
              rw [if_neg hcf] at hD
              gi_wp2
              refine ⟨trivial, ?_⟩
              refine (CallsIn.inRound lp (callsIn_wide.2 hD.out)).mono ?_
              rintro e w4 ⟨rfl, hb4⟩
              have HI4 := Aside0.mk (HI.out.below hb4)
              have HK4 := Aside0.mk (Kept.of_below (S := fun k => k = w1.heap.size) hb4)
              replace hx0 := (hb4.cell (p := ⟨Bx, 0, none⟩) hBlt).trans hx0
              replace hx1 := (hb4.cell (p := ⟨Bx, 1, none⟩) hBlt).trans hx1
              clear hb4 hc3 hc4 hc5 hc8
              have hc3 := HI4.out.h.r.cell
              have hc4 := HI4.out.h.c.cell
              have hc8 := HI4.out.x.cell
              cases dd with
              | true =>
                gi_wp2
                obtain ⟨e1, e2, e3, e4⟩ := hEnd.out _ _ HI4.out HK4.out
                exact ⟨e1, e2, by rw [List.map_append, List.map_singleton, showAll_snoc, hq.out]; exact e3, e4⟩
              | false =>
                gi_wp2_with (refine ⟨trivial, ?_⟩; gi_at_call 27; refine (CallsIn.inRound lp (callsIn_wide.2 (hSh.out _ HI4.out))).mono ?_; rintro e w' ⟨rfl, hS1, hk1⟩; have HS1 := Aside0.mk hS1; have HK1 := Aside0.mk (Kept.trans' HK4.out hk1); clear hS1 hk1)
                obtain ⟨e1, e2, e3, e4⟩ := hEnd.out _ _ HS1.out HK1.out
                exact ⟨e1, e2, by rw [List.map_append, List.map_singleton, showAll_snoc, hq.out]; exact e3, e4⟩
          case done =>
            rintro D xs W hD hS ⟨HI, hW⟩ hK
            rw [hS] at HI
            have hp : 0 < l0.length := by omega
            obtain ⟨ad, rfl, hz0, -⟩ := at41 HR.out 0 hp hp
            replace hz0 := (HI.h.b0.cell (World.block_lt_of_cell? w _ hz0)).trans hz0
            rw [show ad.add (0 * 2) = ad from rfl] at hz0
            have hz1 : (l0[0]).f0.size ≤ 100 := hbd.1.2 _ (List.getElem_mem hp)
            have hzo : Aside0 (zerosOf l0 = List.replicate (l0[0]).f0.size 0) := ⟨by unfold zerosOf; rw [List.getElem?_eq_getElem hp]; rfl⟩
            generalize l0[0] = row0 at hz0 hz1 hzo
            have hc3 := HI.h.r.cell
            have HI := Aside0.mk HI
            have hmk := print_make (P := Tryd.prog) 59 3 .i64 8 Tryd.underlying59 (by kernel_rfl) (by omega) row0.f0.size (by omega)
            clear HS3 bG hS
            gi_wp2
            refine (wpIn_wide (n := 9)).2 ?_
            have hDlt : D < W.heap.size := (Array.getElem?_eq_some_iff.1 hK).1
            have hSl := showAll_length l0 a1 a2 (groupsL l0)
            have hSw := Aside0.mk (fun (j : Nat) (hj : j < l0.length) (W' : World) (h : Kd.R Kd.bool 4 W' w.heap.size (fun k => k = w1.heap.size) (.slice (some ⟨w1.heap.size, 0, none⟩) l0.length l0.length) (showAll l0 a1 a2 (groupsL l0))) => (Kd.R_celln (d := false) h (j : Int) (by omega) (by omega)).1)
            generalize showAll l0 a1 a2 (groupsL l0) = sh at HI hSl hSw h
            go_loopw [11, 12] (fun v11 v12 wr => ∃ (p : Nat) (pre : List (Nat × Nat)), p ≤ l0.length ∧ v12 = .int .i64 p ∧ Aside0 (pre ++ runsGo p (sh.drop p) none = runsGo 0 sh none) ∧ Aside0 (MnS w (some ad) c0 l0 a1 a2 w1.heap.size sh D W.heap.size P0_ p v11 (pre.map (mkHunk l0 (zerosOf l0))) wr)) (fun _ v12 _ => l0.length - (intOf v12).toNat)
            case atStart =>
              refine ⟨0, [], Nat.zero_le _, rfl, ⟨rfl⟩, ⟨⟨HI.out.below (below_alloc (below_alloc (Below.refl _ _) _) _), ⟨?_, ?_, by omega⟩, Kd.N_nil _ _ _ _ _, ?_, by omega⟩⟩⟩
              · have h1 := heap_alloc_new (W.alloc (.cells (madeCells #[.int .i64 0] row0.f0.size) 3)) (.cells #[.slice (some ⟨W.heap.size, 0, none⟩) row0.f0.size row0.f0.size, .int .i64 0] 61)
                rw [World.size_alloc] at h1
                rw [h1, hzo.out]
                simp [passRows, newRows]
              · rw [hzo.out]
                have h1 := heap_alloc_new W (.cells (madeCells #[.int .i64 0] row0.f0.size) 3)
                rw [made_nums] at h1 ⊢
                exact (Below.heap_alloc _ _ _ (by simp)).trans h1
              · exact (Below.heap_alloc _ _ _ (by simp; omega)).trans ((Below.heap_alloc _ _ _ hDlt).trans hK)
            case round =>
              obtain ⟨p, pre, hp, rfl, HE, HMn⟩ := hrel
              have hc3 := HMn.out.h.h.r.cell
              have hc8 := HMn.out.h.x.cell
              by_cases hlt : p < l0.length
              · go_wp2
                go_loopw [13] (fun v13 wx => ∃ j : Nat, p ≤ j ∧ j ≤ l0.length ∧ v13 = .int .i64 j ∧ Aside0 ((j = p ∧ pre ++ runsGo p (sh.drop p) none = runsGo 0 sh none) ∨ (p < j ∧ pre ++ runsGo j (sh.drop j) (some p) = runsGo 0 sh none)) ∧ wx = wr) (fun v13 _ => l0.length - (intOf v13).toNat)
                case atStart => exact ⟨p, Nat.le_refl _, hp, rfl, ⟨.inl ⟨rfl, HE.out⟩⟩, rfl⟩
                case round =>
                  obtain ⟨j, hpj, hj, rfl, HEj, rfl⟩ := hrel
                  by_cases hjl : j < l0.length
                  · have hd : decide ((j : Int) < (l0.length : Int)) = true := decide_eq_true (by omega)
                    have hcj := hSw.out j hjl _ HMn.out.h.r
                    rw [Int.toNat_natCast, rd_bool (by omega)] at hcj
                    cases hbj : sh[j]'(by omega) with
                    | true =>
                      rw [hbj] at hcj
                      have HE2 : Aside0 (p < j + 1 ∧ pre ++ runsGo (j + 1) (sh.drop (j + 1)) (some p) = runsGo 0 sh none) := ⟨by omega, by
                        rcases HEj.out with ⟨rfl, h⟩ | ⟨h1, h⟩
                        · rw [← runsGo_open (by omega) hbj]; exact h
                        · rw [← runsGo_on (by omega) hbj]; exact h⟩
                      clear hbj HEj
                      go_wp2
                      go_roundw
                      case rel => exact ⟨j + 1, by omega, by omega, by go_num, ⟨.inr HE2.out⟩, trivial⟩
                      case measure => simp [intOf]; omega
                    | false =>
                      rw [hbj] at hcj
                      rcases HEj.out with ⟨rfl, h5⟩ | ⟨h5, h6⟩
                      · have HE3 : Aside0 (pre ++ runsGo (j + 1) (sh.drop (j + 1)) none = runsGo 0 sh none) := ⟨by rw [← runsGo_skip (by omega) hbj]; exact h5⟩
                        clear hbj HEj h5 HE
                        obtain ⟨ad', e, hca, hcb⟩ := at41 HR.out j hjl hjl
                        obtain rfl : ad = ad' := by injection e
                        clear e
                        replace hca := (HMn.out.h.h.b0.cell (World.block_lt_of_cell? w _ hca)).trans hca
                        replace hcb := (HMn.out.h.h.b0.cell (World.block_lt_of_cell? w _ hcb)).trans hcb
                        have hpl : (passRows (l0.take j) (zerosOf l0)).length = row0.f0.size := by rw [passRows_length, hzo.out, List.length_replicate]
                        have hbdp := passRows_bd (l0.take j) (zerosOf l0) 0 (fun o ho => by rw [hzo.out] at ho; have := List.eq_of_mem_replicate ho; omega)
                        have hbdn := newRows_bd (l0.take j) 0 0 (Int.le_refl _) (Int.le_refl _)
                        rw [List.length_take, Nat.min_eq_left (by omega)] at hbdp hbdn
                        have HH := Aside0.mk (counter_pass_at w (W.heap.size + 1) W.heap.size l0[j] (passRows (l0.take j) (zerosOf l0)) (newRows (l0.take j) 0) _ HMn.out.n HMn.out.h.h.b0 (by omega) (by omega) (by omega) (fun o ho => by have := hbdp o ho; omega) (by omega))
                        rw [← passRows_take l0 j hjl, ← newRows_take l0 j hjl] at HH
                        clear hbdp hbdn hpl
                        go_wp2_with (first | (go_at_call 29; refine HH.out.mono ?_; rintro e w4 ⟨rfl, hn4, hb4, hk4⟩; have HM4 := Aside0.mk (HMn.out.step hn4 hb4 hk4); clear hn4 hb4 hk4) | fail)
                        go_roundw
                        case rel => exact ⟨j + 1, pre, by omega, by go_num, HE3, HM4⟩
                        case measure => simp [intOf]; omega
                      · have HE3 : Aside0 (pre ++ (p, j) :: runsGo j (sh.drop j) none = runsGo 0 sh none) := ⟨by rw [← runsGo_shut (by omega) hbj]; exact h6⟩
                        clear hbj HEj h6 HE
                        have hpl : (passRows (l0.take p) (zerosOf l0)).length = row0.f0.size := by rw [passRows_length, hzo.out, List.length_replicate]
                        have hbdp := passRows_bd (l0.take p) (zerosOf l0) 0 (fun o ho => by rw [hzo.out] at ho; have := List.eq_of_mem_replicate ho; omega)
                        have hbdn := newRows_bd (l0.take p) 0 0 (Int.le_refl _) (Int.le_refl _)
                        rw [List.length_take, Nat.min_eq_left (by omega)] at hbdp hbdn
                        have hmid := mid_length l0 p j (by omega)
                        have hFm := Kd.F_mid HF.out (show p ≤ j by omega) (show j ≤ l0.length by omega) hlc
                        rw [if_neg (show ¬ c0 = p by omega)] at hFm
                        have HFm := Aside0.mk (show Kd.F k41 w (fun k => P0_ k ∧ k < w.heap.size) (some (ad.add (p * 2))) (midL l0 p j).length (midL l0 p j) from hFm)
                        have HH := Aside0.mk (counter_hunk_at w (W.heap.size + 1) W.heap.size (passRows (l0.take p) (zerosOf l0)) (newRows (l0.take p) 0) (some (ad.add (p * 2))) (j - p) (midL l0 p j) _ HMn.out.n (Kd.F_now HFm.out) HMn.out.h.h.b0 (by omega) (by omega) (by omega) (by omega) (fun o ho => by have := hbdp o ho; omega) (by omega))
                        rw [hmid, ← passRows_append, ← newRows_append, ← mid_split l0 p j (by omega)] at HH
                        rw [hmid] at HFm
                        have hown := Aside0.mk (fun k hk => And.intro (Kd.N_lt HMn.out.o k hk) (Kd.N_base HMn.out.o k hk))
                        have hwr := HMn.out.sz.1
                        have hlen : pre.length ≤ l0.length := by have h1 := congrArg List.length HE3.out; have h2 := runsGo_length sh 0 none; simp at h1 h2; omega
                        clear hbdp hbdn hFm hpl
                        go_wp2_with (first | (go_at_call 28; refine HH.out.mono ?_; rintro e w4 ⟨v4, rfl, hr4, hn4, hb4, hk4⟩; obtain ⟨A4, c4, rfl⟩ := Kd.R_slice hr4; have HM4 := Aside0.mk (HMn.out.step hn4 hb4 hk4); have HF4 := Aside0.mk (Kd.F_step HFm.out (fun k hk _ => hb4.block k hk.2)); have HR4 := Aside0.mk (hunk_cells (x := mkHunk l0 (zerosOf l0) (p, j)) hmid hr4 (b := W.heap.size) (by omega) HF4.out); have hs4 := HM4.out.sz.1; clear hr4 hn4 hb4 hk4) | (at_builtin; refine Kd.N_append k38 (w0 := w4) (W.heap.size + 2) rfl (.tmp 81) (.tmp 89) 25 38 (.agg #[.slice none 0 0, .int .i64 0, .int .i64 0, .slice none 0 0]) 64 rfl Tryd.underlying25 info38 rfl (by decide) (by omega) u11 (pre.map (mkHunk l0 (zerosOf l0))) (mkHunk l0 (zerosOf l0) (p, j)) _ (fun k => (P0_ k ∧ k < w.heap.size) ∨ W.heap.size + 1 < k) (fun k => (P0_ k ∧ k < w.heap.size) ∨ wr.heap.size + 2 ≤ k) rfl rfl HR4.out ?aK ?aF HM4.out.o (Below.refl _ _) hs4 ?aL ?_; (case aK => exact fun k hk => ⟨hk.imp id (fun h => by omega), fun e => by have := hown.out k e.symm; have := HMn.out.h.h.lt; have := HMn.out.lt; have := HMn.out.sz; omega⟩); (case aF => exact fun k hk => .inr (by omega)); (case aL => rw [List.length_map]; omega); intro v1 w5 ho hb5 _ _; have HM5 := Aside0.mk (HM4.out.put hb5 ho); clear ho hb5) | fail)
                        go_roundw
                        case rel => exact ⟨j, pre ++ [(p, j)], by omega, rfl, ⟨by rw [← HE3.out]; simp⟩, by rw [List.map_append, List.map_singleton]; exact HM5⟩
                        case measure => simp [intOf]; omega
                  · have hd : decide ((j : Int) < (l0.length : Int)) = false := decide_eq_false (by omega)
                    rcases HEj.out with ⟨rfl, h5⟩ | ⟨h5, h6⟩
                    · exact absurd hlt hjl
                    · have HE3 : Aside0 (pre ++ (p, j) :: runsGo j (sh.drop j) none = runsGo 0 sh none) := ⟨by rw [← runsGo_end (by omega)]; exact h6⟩
                      clear HEj h6 HE
                      have hpl : (passRows (l0.take p) (zerosOf l0)).length = row0.f0.size := by rw [passRows_length, hzo.out, List.length_replicate]
                      have hbdp := passRows_bd (l0.take p) (zerosOf l0) 0 (fun o ho => by rw [hzo.out] at ho; have := List.eq_of_mem_replicate ho; omega)
                      have hbdn := newRows_bd (l0.take p) 0 0 (Int.le_refl _) (Int.le_refl _)
                      rw [List.length_take, Nat.min_eq_left (by omega)] at hbdp hbdn
                      have hmid := mid_length l0 p j (by omega)
                      have hFm := Kd.F_mid HF.out (show p ≤ j by omega) (show j ≤ l0.length by omega) hlc
                      rw [if_neg (show ¬ c0 = p by omega)] at hFm
                      have HFm := Aside0.mk (show Kd.F k41 w (fun k => P0_ k ∧ k < w.heap.size) (some (ad.add (p * 2))) (midL l0 p j).length (midL l0 p j) from hFm)
                      have HH := Aside0.mk (counter_hunk_at w (W.heap.size + 1) W.heap.size (passRows (l0.take p) (zerosOf l0)) (newRows (l0.take p) 0) (some (ad.add (p * 2))) (j - p) (midL l0 p j) _ HMn.out.n (Kd.F_now HFm.out) HMn.out.h.h.b0 (by omega) (by omega) (by omega) (by omega) (fun o ho => by have := hbdp o ho; omega) (by omega))
                      rw [hmid, ← passRows_append, ← newRows_append, ← mid_split l0 p j (by omega)] at HH
                      rw [hmid] at HFm
                      have hown := Aside0.mk (fun k hk => And.intro (Kd.N_lt HMn.out.o k hk) (Kd.N_base HMn.out.o k hk))
                      have hwr := HMn.out.sz.1
                      have hlen : pre.length ≤ l0.length := by have h1 := congrArg List.length HE3.out; have h2 := runsGo_length sh 0 none; simp at h1 h2; omega
                      clear hbdp hbdn hFm hpl
                      go_wp2_with (first | (go_at_call 28; refine HH.out.mono ?_; rintro e w4 ⟨v4, rfl, hr4, hn4, hb4, hk4⟩; obtain ⟨A4, c4, rfl⟩ := Kd.R_slice hr4; have HM4 := Aside0.mk (HMn.out.step hn4 hb4 hk4); have HF4 := Aside0.mk (Kd.F_step HFm.out (fun k hk _ => hb4.block k hk.2)); have HR4 := Aside0.mk (hunk_cells (x := mkHunk l0 (zerosOf l0) (p, j)) hmid hr4 (b := W.heap.size) (by omega) HF4.out); have hs4 := HM4.out.sz.1; clear hr4 hn4 hb4 hk4) | (at_builtin; refine Kd.N_append k38 (w0 := w4) (W.heap.size + 2) rfl (.tmp 81) (.tmp 89) 25 38 (.agg #[.slice none 0 0, .int .i64 0, .int .i64 0, .slice none 0 0]) 64 rfl Tryd.underlying25 info38 rfl (by decide) (by omega) u11 (pre.map (mkHunk l0 (zerosOf l0))) (mkHunk l0 (zerosOf l0) (p, j)) _ (fun k => (P0_ k ∧ k < w.heap.size) ∨ W.heap.size + 1 < k) (fun k => (P0_ k ∧ k < w.heap.size) ∨ wr.heap.size + 2 ≤ k) rfl rfl HR4.out ?aK ?aF HM4.out.o (Below.refl _ _) hs4 ?aL ?_; (case aK => exact fun k hk => ⟨hk.imp id (fun h => by omega), fun e => by have := hown.out k e.symm; have := HMn.out.h.h.lt; have := HMn.out.lt; have := HMn.out.sz; omega⟩); (case aF => exact fun k hk => .inr (by omega)); (case aL => rw [List.length_map]; omega); intro v1 w5 ho hb5 _ _; have HM5 := Aside0.mk (HM4.out.put hb5 ho); clear ho hb5) | fail)
                      go_roundw
                      case rel => exact ⟨j, pre ++ [(p, j)], by omega, rfl, ⟨by rw [← HE3.out]; simp⟩, by rw [List.map_append, List.map_singleton]; exact HM5⟩
                      case measure => simp [intOf]; omega
              · have hpe : p = l0.length := by omega
                subst hpe
                have hpre : pre = runsGo 0 sh none := by
                  have h2 := HE.out
                  rw [List.drop_of_length_le (by omega)] at h2
                  simpa [runsGo] using h2
                obtain ⟨rfl, rfl⟩ := Prod.mk.inj (Option.some.inj h)
                rw [hpre] at HMn
                have hDD := HMn.out.d
                have hDb := HMn.out.lt
                have hWb := HMn.out.sz
                go_wp2
                gi_wp2
                refine ⟨by simp, .inl ⟨_, _, rfl, run_takeDeferred hDD, ?_⟩⟩
                refine ⟨_, results_tmp2 rfl _ _ _, _, rfl, ?_, HMn.out.h.h.b0.trans (belowK_b (w := w) (Nat.le_refl _) _ D _ _ (by omega) hDD rfl rfl)⟩
                refine Kd.N_lower (Kd.N_mono (Kd.N_step HMn.out.o (fun k hk _ => World.putObj_heap_other (by omega))) (fun k hk => ?_)) (by omega)
                rcases hk with hk | hk
                · exact .inl hk.1
                · exact .inr (by omega)
          case stop =>
            rintro D c pre W _ _ h _
            exact h.elim
        · rw [if_neg hbd] at h
          cases h
end Go.Proofs.YtenfoaajipiehaaDoor.Q
