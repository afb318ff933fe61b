/- Contract of package hunk's counter.hunk: the hunk of some rows, with the spans that the counter tells before and behind them. -/
import Derived.Test.YtenfoaajipiehaaDoorX5
namespace Go.Proofs.YtenfoaajipiehaaDoor.Q
set_option linter.unusedVariables false
set_option linter.unusedSimpArgs false
open Go.RowKit Go.Shelf Go.Proofs.YtenfoaajipiehaaDoorW.PrintWords Go.Proofs.YtenfoaajipiehaaDoorW.PrintLast Go.Proofs.YtenfoaajipiehaaDoorW.PrintMore
def passRows (l : List S41) (olds : List Int) : List Int := l.foldl (fun o x => passO x o.length o) olds
def newRows (l : List S41) (new : Int) : Int := l.foldl (fun n x => n + oneOf (!lostB x)) new
def spansOf (o o' : List Int) : List S36 := List.zipWith (fun a b => (⟨a, b⟩ : S36)) o o'
theorem passRows_length (l : List S41) : ∀ olds : List Int, (passRows l olds).length = olds.length := by
  induction l with
  | nil => intro o; rfl
  | cons x l ih => intro o; exact (ih _).trans (passO_length x _ o)
theorem passRows_take (l : List S41) (k : Nat) (h : k < l.length) (olds : List Int) : passRows (l.take (k + 1)) olds = passO l[k] (passRows (l.take k) olds).length (passRows (l.take k) olds) := by
  unfold passRows; rw [List.take_succ_eq_append_getElem h, List.foldl_append]; rfl
theorem newRows_take (l : List S41) (k : Nat) (h : k < l.length) (new : Int) : newRows (l.take (k + 1)) new = newRows (l.take k) new + oneOf (!lostB l[k]) := by
  unfold newRows; rw [List.take_succ_eq_append_getElem h, List.foldl_append]; rfl
theorem oneOf_bd (b : Bool) : 0 ≤ oneOf b ∧ oneOf b ≤ 1 := by cases b <;> simp [oneOf]
theorem passO_bd (x : S41) (k : Nat) (olds : List Int) (B : Int) (h : ∀ o ∈ olds, 0 ≤ o ∧ o ≤ B) : ∀ o ∈ passO x k olds, 0 ≤ o ∧ o ≤ B + 1 := by
  intro o ho
  obtain ⟨i, hi, rfl⟩ := List.getElem_of_mem ho
  have hi' : i < olds.length := by rwa [passO_length] at hi
  have := h _ (List.getElem_mem hi')
  have h1 := oneOf_bd (ofB i x)
  simp only [passO, List.getElem_mapIdx]
  split <;> omega
theorem passRows_bd (l : List S41) : ∀ (olds : List Int) (B : Int), (∀ o ∈ olds, 0 ≤ o ∧ o ≤ B) → ∀ o ∈ passRows l olds, 0 ≤ o ∧ o ≤ B + l.length := by
  induction l with
  | nil => intro olds B h o ho; have := h o ho; simp; omega
  | cons x l ih =>
    intro olds B h o ho
    have := ih _ (B + 1) (passO_bd x _ olds B h) o ho
    simp only [List.length_cons]
    omega
theorem newRows_bd (l : List S41) : ∀ (new B : Int), 0 ≤ new → new ≤ B → 0 ≤ newRows l new ∧ newRows l new ≤ B + l.length := by
  induction l with
  | nil => intro new B h0 h; simp [newRows]; omega
  | cons x l ih =>
    intro new B h0 h
    have h1 := oneOf_bd (!lostB x)
    have := ih (new + oneOf (!lostB x)) (B + 1) (by omega) (by omega)
    simp only [newRows, List.foldl_cons, List.length_cons] at this ⊢
    omega

/-- A hunk that is being made: its struct is block s + 1, the result's is block s. -/
structure HunkS (w0 w : World) (g b : Nat) (olds : List Int) (new n1 n2 : Int) (R : Value) (v : Value) (spans : List S36) (W : World) : Prop where
  c : Cnt W g b olds new
  b0 : Below w0.heap.size w0 W
  k : Kept w W (fun k => k = g ∨ k = b)
  h5 : W.heap[w.heap.size + 1]? = some (.cells #[v, .int .i64 n1, .int .i64 n2, R] 38 (0, 0))
  h4 : W.heap[w.heap.size]? = some (.cells #[.slice none 0 0, .int .i64 0, .int .i64 0, .slice none 0 0] 38 (0, 0))
  r : Kd.R k36 36 W (w.heap.size + 2) (fun k => w.heap.size + 2 ≤ k) v spans
theorem HunkS.sz {w0 w : World} {g b : Nat} {olds : List Int} {new n1 n2 : Int} {R v : Value} {spans : List S36} {W : World} (h : HunkS w0 w g b olds new n1 n2 R v spans W) : w.heap.size + 2 ≤ W.heap.size := (Array.getElem?_eq_some_iff.1 h.h5).1
theorem HunkS.cells {w0 w : World} {g b : Nat} {olds : List Int} {new n1 n2 : Int} {R v : Value} {spans : List S36} {W : World} (h : HunkS w0 w g b olds new n1 n2 R v spans W) :
    W.cell? ⟨w.heap.size + 1, 0, none⟩ = some v ∧ W.cell? ⟨w.heap.size + 1, 1, none⟩ = some (.int .i64 n1) ∧ W.cell? ⟨w.heap.size + 1, 2, none⟩ = some (.int .i64 n2) ∧ W.cell? ⟨w.heap.size + 1, 3, none⟩ = some R ∧ ∀ i, W.frozen? ⟨w.heap.size + 1, i, none⟩ = false := by
  refine ⟨?_, ?_, ?_, ?_, fun i => ?_⟩ <;> simp [World.cell?, World.frozen?, h.h5]
theorem HunkS.below {w0 w : World} {g b : Nat} {olds : List Int} {new n1 n2 : Int} {R v : Value} {spans : List S36} {W W' : World} (h : HunkS w0 w g b olds new n1 n2 R v spans W) (hb : Below W.heap.size W W') : HunkS w0 w g b olds new n1 n2 R v spans W' :=
  ⟨h.c.below hb, below_step h.b0 hb, Kept.trans' h.k (Kept.of_below hb), (hb.block _ (by have := h.sz; omega)).trans h.h5, (hb.block _ (by have := h.sz; omega)).trans h.h4, Kd.R_below h.r hb⟩
/-- Its list of spans has been written. -/
theorem HunkS.put0 {w0 w : World} {g b : Nat} {olds : List Int} {new n1 n2 : Int} {R v v1 : Value} {spans : List S36} {W W' : World} (h : HunkS w0 w g b olds new n1 n2 R v spans W) (hg : g < w.heap.size) (hb' : b < w.heap.size) (h0 : w0.heap.size ≤ w.heap.size)
    (hb : Below (w.heap.size + 2) W W') {spans' : List S36} (hr : Kd.R k36 36 W' (w.heap.size + 2) (fun k => w.heap.size + 2 ≤ k) v1 spans') : HunkS w0 w g b olds new n1 n2 R v1 spans' (W'.setCell ⟨w.heap.size + 1, 0, none⟩ v1) := by
  have e : ∀ i, i ≠ w.heap.size + 1 → (W'.setCell ⟨w.heap.size + 1, 0, none⟩ v1).heap[i]? = W'.heap[i]? := fun i hi => Below.heap_setCell W' ⟨w.heap.size + 1, 0, none⟩ v1 i hi
  refine ⟨⟨(e g (by omega)).trans ((hb.block g (by omega)).trans h.c.hg), (e b (by omega)).trans ((hb.block b (by omega)).trans h.c.hb), h.c.ne⟩,
    (h.b0.trans (hb.mono (by omega))).setCell (p := ⟨w.heap.size + 1, 0, none⟩) (show w0.heap.size ≤ w.heap.size + 1 by omega) _,
    ⟨by simpa [World.setCell] using Nat.le_trans h.k.1 hb.size, fun i hi hs => (e i (by omega)).trans ((hb.block i (by omega)).trans (h.k.2 i hi hs))⟩, ?_,
    (e _ (by omega)).trans ((hb.block _ (by omega)).trans h.h4), Kd.R_far (p := ⟨w.heap.size + 1, 0, none⟩) hr (fun k hk => by show k ≠ w.heap.size + 1; omega) _⟩
  exact blk_put ((hb.block _ (by omega)).trans h.h5) 0 v1 rfl
/-- The counter has passed a row. -/
theorem HunkS.pass {w0 w : World} {g b : Nat} {olds olds' : List Int} {new new' n1 n2 : Int} {R v : Value} {spans : List S36} {W W' : World} (h : HunkS w0 w g b olds new n1 n2 R v spans W) (hg : g < w.heap.size) (hb' : b < w.heap.size)
    (hc : Cnt W' g b olds' new') (hb : Below w0.heap.size w0 W') (hk : Kept W W' (fun k => k = g ∨ k = b)) : HunkS w0 w g b olds' new' n1 n2 R v spans W' := by
  have hs := h.sz
  refine ⟨hc, hb, Kept.trans' h.k hk, (hk.2 _ (by omega) (by omega)).trans h.h5, (hk.2 _ (by omega) (by omega)).trans h.h4, Kd.R_step h.r (fun k hk1 hk2 => hk.2 k hk2 (by omega))⟩
/-- The end of the result's lines is written. -/
theorem HunkS.put2 {w0 w : World} {g b : Nat} {olds : List Int} {new n1 n2 n2' : Int} {R v : Value} {spans : List S36} {W : World} (h : HunkS w0 w g b olds new n1 n2 R v spans W) (hg : g < w.heap.size) (hb' : b < w.heap.size) (h0 : w0.heap.size ≤ w.heap.size) :
    HunkS w0 w g b olds new n1 n2' R v spans (W.setCell ⟨w.heap.size + 1, 2, none⟩ (.int .i64 n2')) := by
  have e : ∀ i, i ≠ w.heap.size + 1 → (W.setCell ⟨w.heap.size + 1, 2, none⟩ (.int .i64 n2')).heap[i]? = W.heap[i]? := fun i hi => Below.heap_setCell W ⟨w.heap.size + 1, 2, none⟩ _ i hi
  refine ⟨⟨(e g (by omega)).trans h.c.hg, (e b (by omega)).trans h.c.hb, h.c.ne⟩, h.b0.setCell (p := ⟨w.heap.size + 1, 2, none⟩) (show w0.heap.size ≤ w.heap.size + 1 by omega) _,
    ⟨by simpa [World.setCell] using h.k.1, fun i hi hs => (e i (by omega)).trans (h.k.2 i hi hs)⟩, blk_put h.h5 2 _ rfl, (e _ (by omega)).trans h.h4, Kd.R_far (p := ⟨w.heap.size + 1, 2, none⟩) h.r (fun k hk => by show k ≠ w.heap.size + 1; omega) _⟩
theorem spans_step (X sp : List S36) (k : Nat) (hX : k < X.length) (hl : sp.length = X.length) : (X.take k ++ sp.drop k).set k X[k] = X.take (k + 1) ++ sp.drop (k + 1) := by
  rw [List.set_append_right _ _ (by rw [List.length_take]; omega), List.take_succ_eq_append_getElem hX, List.append_assoc]
  congr 1
  rw [List.length_take, Nat.min_eq_left (by omega), Nat.sub_self, List.drop_eq_getElem_cons (by omega : k < sp.length)]
  rfl
theorem spansOf_length (o o' : List Int) (h : o'.length = o.length) : (spansOf o o').length = o.length := by simp [spansOf, h]
/-- The end of span k is written. -/
theorem HunkS.putk {w0 w : World} {g b gv cap n : Nat} {olds : List Int} {new n1 n2 : Int} {R : Value} {spans : List S36} {W : World} (h : HunkS w0 w g b olds new n1 n2 R (.slice (some ⟨gv, 0, none⟩) n cap) spans W) (hg : g < w.heap.size) (hb' : b < w.heap.size) (h0 : w0.heap.size ≤ w.heap.size)
    (k : Nat) (hk : k < n) (hn : spans.length = n) (hk' : k < spans.length) (o : Int) :
    W.cell? ⟨gv, k * 2 + 1, none⟩ = some (.int .i64 spans[k].f1) ∧ W.frozen? ⟨gv, k * 2 + 1, none⟩ = false ∧
      HunkS w0 w g b olds new n1 n2 R (.slice (some ⟨gv, 0, none⟩) n cap) (spans.set k ⟨spans[k].f0, o⟩) (W.setCell ⟨gv, k * 2 + 1, none⟩ (.int .i64 o)) := by
  obtain ⟨c, hcl, hM, hcc, hf⟩ := Kd.R_elem h.r z36 (k : Int) (by omega) (by omega)
  have ex : spans.getD (k : Int).toNat z36 = spans[k] := by simp [List.getD_eq_getElem?_getD, hk']
  rw [ex] at hM
  obtain rfl := k36_openM hM
  have h2 := Kd.R_seg (x' := ⟨spans[k].f0, o⟩) (okp := fun _ => False) (j := 1) (seg := [.int .i64 o]) h.r (k : Int) (by omega) (by omega) hcl hcc (show 1 + 1 ≤ 2 by omega) (k36_mkM _ _ _ ⟨spans[k].f0, o⟩) (fun _ hk => hk.elim)
  have hgv : w.heap.size + 2 ≤ gv := Kd.R_base h.r gv (by simp [Value.ownBlock])
  have e : ∀ i, i ≠ gv → (W.setCell ⟨gv, k * 2 + 1, none⟩ (.int .i64 o)).heap[i]? = W.heap[i]? := fun i hi => Below.heap_setCell W ⟨gv, k * 2 + 1, none⟩ _ i hi
  refine ⟨hcc 1 _ rfl, hf 1, ⟨(e g (by omega)).trans h.c.hg, (e b (by omega)).trans h.c.hb, h.c.ne⟩, h.b0.setCell (p := ⟨gv, k * 2 + 1, none⟩) (show w0.heap.size ≤ gv by omega) _,
    ⟨by simpa [World.setCell] using h.k.1, fun i hi hs => (e i (by omega)).trans (h.k.2 i hi hs)⟩, (e _ (by omega)).trans h.h5, (e _ (by omega)).trans h.h4, h2.1⟩
/-- What is handed back. -/
structure HunkE (w0 w : World) (g b : Nat) (olds : List Int) (new : Int) (v : Value) (spans : List S36) (W : World) : Prop where
  c : Cnt W g b olds new
  b0 : Below w0.heap.size w0 W
  k : Kept w W (fun k => k = g ∨ k = b)
  r : Kd.R k36 36 W (w.heap.size + 2) (fun k => w.heap.size + 2 ≤ k) v spans
theorem HunkE.far {w0 w : World} {g b : Nat} {olds : List Int} {new : Int} {v : Value} {spans : List S36} {W : World} (h : HunkE w0 w g b olds new v spans W) (hg : g < w.heap.size) (hb : b < w.heap.size) (h0 : w0.heap.size ≤ w.heap.size) (j : Nat) (u : Value) :
    HunkE w0 w g b olds new v spans (W.setCell ⟨w.heap.size, j, none⟩ u) := by
  have e : ∀ i, i ≠ w.heap.size → (W.setCell ⟨w.heap.size, j, none⟩ u).heap[i]? = W.heap[i]? := fun i hi => Below.heap_setCell W ⟨w.heap.size, j, none⟩ _ i hi
  exact ⟨⟨(e g (by omega)).trans h.c.hg, (e b (by omega)).trans h.c.hb, h.c.ne⟩, h.b0.setCell (p := ⟨w.heap.size, j, none⟩) h0 _,
    ⟨by simpa [World.setCell] using h.k.1, fun i hi hs => (e i (by omega)).trans (h.k.2 i hi hs)⟩, Kd.R_far (p := ⟨w.heap.size, j, none⟩) h.r (fun k hk => by show k ≠ w.heap.size; omega) _⟩

set_option maxHeartbeats 4000000 in
set_option maxRecDepth 100000 in
theorem counter_hunk_at (w0 : World) (g b : Nat) (olds : List Int) (new : Int) (A : Option Addr) (c : Nat) (rows : List S41) (w : World) (hc : Cnt w g b olds new) (hr : Kd.C k41 w0 A rows.length rows) (hB : Below w0.heap.size w0 w) (hg0 : w0.heap.size ≤ g) (hb0 : w0.heap.size ≤ b)
    (hl : olds.length ≤ 100) (hrl : rows.length ≤ 1000) (ho : ∀ o ∈ olds, 0 ≤ o ∧ o ≤ 900000) (hn : 0 ≤ new ∧ new ≤ 900000) :
    Calls Tryd.prog 28 #[.pointer (some ⟨g, 0, none⟩), .slice A rows.length c] w fun e w' => ∃ v : Value, e = .returned (.agg #[v, .int .i64 new, .int .i64 (newRows rows new), .slice A rows.length c]) ∧
      Kd.R k36 36 w' (w.heap.size + 2) (fun k => w.heap.size + 2 ≤ k) v (spansOf olds (passRows rows olds)) ∧ Cnt w' g b (passRows rows olds) (newRows rows new) ∧ Below w0.heap.size w0 w' ∧ Kept w w' (fun k => k = g ∨ k = b) := by
  have HC := Aside0.mk hc
  have HB := Aside0.mk hB
  have HO := Aside0.mk ho
  have HR := Aside0.mk hr
  have hc0 := hc.cell0
  have hc1 := hc.cell1
  have hlt := hc.lt
  have hsz := hB.size
  clear hc hB ho hr
  go_enter Tryd.func28, Tryd.ntmps28
  go_wp2
  go_loopw [24] (fun v24 wr => ∃ (k : Nat) (v : Value), k ≤ olds.length ∧ v24 = .int .i64 k ∧ Aside0 (HunkS w0 w g b olds new new 0 (.slice A rows.length c) v ((olds.take k).map fun o => (⟨o, 0⟩ : S36)) wr)) (fun v24 _ => olds.length - (intOf v24).toNat)
  case atStart =>
    refine ⟨0, .slice none 0 0, Nat.zero_le _, rfl, ⟨⟨(HC.out.below (below_alloc (Below.refl _ _) _)).below (below_alloc (Below.refl _ _) _), below_alloc (below_alloc HB.out _) _,
      Kept.of_below (below_alloc (below_alloc (Below.refl _ _) _) _), ?_, ?_, Kd.R_nil _ _ _ _ _⟩⟩⟩
    · have h1 := heap_alloc_new (w.alloc (.cells #[.slice none 0 0, .int .i64 0, .int .i64 0, .slice none 0 0] 38)) (.cells #[.slice none 0 0, .int .i64 new, .int .i64 0, .slice A rows.length c] 38)
      rw [World.size_alloc] at h1
      exact h1
    · have h1 := heap_alloc_new w (.cells #[.slice none 0 0, .int .i64 0, .int .i64 0, .slice none 0 0] 38)
      exact ((below_alloc (Below.refl _ _) (.cells #[.slice none 0 0, .int .i64 new, .int .i64 0, .slice A rows.length c] 38)).block w.heap.size (by simp)).trans h1
  case round =>
    clear HC HB hc0 hc1
    obtain ⟨k, v, hk, rfl, HS⟩ := hrel
    by_cases hltk : k < olds.length
    · have hck := HS.out.c.cellb k hltk
      obtain ⟨h50, -, -, -, h5f⟩ := HS.out.cells
      have h5f0 := h5f 0
      clear h5f
      generalize hok : olds[k] = ok at hck
      have HOK := Aside0.mk hok
      clear hok
      have hsz2 := HS.out.sz
      go_wp2_with (first | (at_builtin; refine Kd.R_append k36 (w0 := wr) (w.heap.size + 2) rfl (.tmp 29) (.tmp 32) 33 36 (.agg #[(.int .i64 0), (.int .i64 0)]) 16 rfl Tryd.underlying33 info36 rfl (by decide) (by omega) v ((olds.take k).map fun o => (⟨o, 0⟩ : S36)) ⟨ok, 0⟩ [.int .i64 ok, .int .i64 0] (fun k => w.heap.size + 2 ≤ k) (fun _ => False) rfl rfl ?aP (fun _ hk => hk.elim) ?aF ?aO ?aB ?aS ?aL ?_; (case aP => exact k36_mkM _ _ _ ⟨ok, 0⟩); (case aB => exact Below.refl _ _); (case aF => exact fun _ hk => by omega); (case aO => exact HS.out.r); (case aS => exact hsz2); (case aL => rw [List.length_map, List.length_take]; omega); intro v1 w2 ho hb2 _ _; obtain ⟨A1, c1, ev1⟩ := Kd.R_slice ho; have ev2 : v1 = .slice A1 (k + 1) c1 := (by rw [ev1, List.length_append, List.length_map, List.length_take, List.length_singleton, Nat.min_eq_left (by omega)]); clear ev1; subst ev2; have HO2 := Aside0.mk ho; have HB2 := Aside0.mk hb2; clear ho hb2; have hf2 : w2.frozen? ⟨w.heap.size + 1, 0, none⟩ = false := (HB2.out.frozen (p := ⟨w.heap.size + 1, 0, none⟩) (by simp)).trans h5f0; have hs2 : w2.cell? ⟨w.heap.size + 1, 0, none⟩ = some v := (HB2.out.cell (p := ⟨w.heap.size + 1, 0, none⟩) (by simp)).trans h50))
      go_roundw
      case rel =>
        refine ⟨k + 1, .slice A1 (k + 1) c1, by omega, by go_num, ⟨?_⟩⟩
        rw [List.take_succ_eq_append_getElem hltk, List.map_append, List.map_singleton, HOK.out]
        exact HS.out.put0 hlt.1 hlt.2 hsz HB2.out HO2.out
      case measure => simp [intOf]; omega
    · have hke : k = olds.length := by omega
      subst hke
      rw [List.take_length] at HS
      go_wp2
      generalize hsp : (olds.map fun o => (⟨o, 0⟩ : S36)) = sp at HS
      have HSP := Aside0.mk hsp
      clear hsp
      go_loopw [38] (fun v38 wr => ∃ k : Nat, k ≤ rows.length ∧ v38 = .int .i64 k ∧ Aside0 (HunkS w0 w g b (passRows (rows.take k) olds) (newRows (rows.take k) new) new 0 (.slice A rows.length c) v sp wr)) (fun v38 _ => rows.length - (intOf v38).toNat)
      case atStart => exact ⟨0, Nat.zero_le _, rfl, HS⟩
      case round =>
        clear HS
        obtain ⟨k, hk, rfl, HS⟩ := hrel
        by_cases hltr : k < rows.length
        · obtain ⟨ad, rfl, hc0, hc1⟩ := at41 HR.out k hltr hltr
          replace hc0 := (HS.out.b0.cell (World.block_lt_of_cell? w0 _ hc0)).trans hc0
          replace hc1 := (HS.out.b0.cell (World.block_lt_of_cell? w0 _ hc1)).trans hc1
          have hbd := passRows_bd (rows.take k) olds 900000 HO.out
          have hbn := newRows_bd (rows.take k) new 900000 hn.1 hn.2
          rw [List.length_take, Nat.min_eq_left (by omega)] at hbd hbn
          have HP := Aside0.mk (fun W (hW : Below wr.heap.size wr W) => counter_pass_at w0 g b rows[k] (passRows (rows.take k) olds) (newRows (rows.take k) new) W (HS.out.c.below hW) (below_step HS.out.b0 hW) hg0 hb0
            (by rw [passRows_length]; exact hl) (fun o ho => by have := hbd o ho; omega) (by omega))
          clear hbd hbn
          go_wp2_with fail
          refine (HP.out _ (below_alloc (Below.refl _ _) _)).mono ?_
          rintro e w1 ⟨rfl, hcn, hb1, hk1⟩
          have HS1 := Aside0.mk ((HS.out.below (below_alloc (Below.refl _ _) (.cells #[.string rows[k].f0, .string rows[k].f1] 41))).pass hlt.1 hlt.2 hcn hb1 hk1)
          rw [← passRows_take rows k hltr, ← newRows_take rows k hltr] at HS1
          clear hcn hb1 hk1 HP HS
          go_wp2
          go_roundw
          case rel => exact ⟨k + 1, by omega, by go_num, HS1⟩
          case measure => simp [intOf]; omega
        · have hke : k = rows.length := by omega
          subst hke
          rw [List.take_length] at HS
          have hc0 := HS.out.c.cell0
          have hc1 := HS.out.c.cell1
          rw [passRows_length] at hc0
          obtain ⟨-, -, h52, -, h5f⟩ := HS.out.cells
          have h5f2 := h5f 2
          clear h5f
          have HS2 := Aside0.mk (HS.out.put2 (n2' := newRows rows new) hlt.1 hlt.2 hsz)
          have hne : g ≠ w.heap.size + 1 := by omega
          clear HS
          go_wp2
          generalize hX : spansOf olds (passRows rows olds) = X
          have hXl : X.length = olds.length := by rw [← hX]; exact spansOf_length _ _ (passRows_length _ _)
          have hsl : sp.length = olds.length := by rw [← HSP.out, List.length_map]
          have hpl := passRows_length rows olds
          have HX := Aside0.mk hX
          clear hX
          generalize hO1 : passRows rows olds = O1 at HX hpl hc0 HS2
          have HO1 := Aside0.mk hO1
          clear hO1
          go_loopw [57] (fun v57 wr => ∃ k : Nat, k ≤ olds.length ∧ v57 = .int .i64 k ∧ Aside0 (HunkS w0 w g b O1 (newRows rows new) new (newRows rows new) (.slice A rows.length c) v (X.take k ++ sp.drop k) wr)) (fun v57 _ => olds.length - (intOf v57).toNat)
          case atStart => exact ⟨0, Nat.zero_le _, rfl, HS2⟩
          case round =>
            clear HS2
            obtain ⟨k, hk, rfl, HS⟩ := hrel
            by_cases hltk : k < olds.length
            · have hlen : (X.take k ++ sp.drop k).length = olds.length := by rw [List.length_append, List.length_take, List.length_drop]; omega
              obtain ⟨gv, cap, hv, hgv, hgv2, -⟩ := Kd.R_form HS.out.r (by omega)
              rw [hlen] at hv
              subst hv
              have hck := HS.out.c.cellb k (by omega)
              obtain ⟨h50, -, -, -, h5f⟩ := HS.out.cells
              have h5f0 := h5f 0
              clear h5f
              have hXk : X[k]'(by omega) = ⟨olds[k], O1[k]⟩ := by have := HX.out; subst this; simp [spansOf]
              have hsk : (X.take k ++ sp.drop k)[k]'(by omega) = ⟨olds[k], 0⟩ := by
                rw [List.getElem_append_right (by rw [List.length_take]; omega)]
                have := HSP.out
                subst this
                simp [List.length_take, show min k X.length = k by omega]
              obtain ⟨hcv, hfv, HS3⟩ := HS.out.putk hlt.1 hlt.2 hsz k hltk hlen (by omega) O1[k]
              rw [hsk, ← hXk, spans_step X sp k (by omega) (by omega)] at HS3
              rw [hsk] at hcv
              have HS4 := Aside0.mk HS3
              generalize O1[k] = ok at hck HS4
              clear HS3 hXk hsk HS
              go_wp2
              go_roundw
              case rel => exact ⟨k + 1, by omega, by go_num, HS4⟩
              case measure => simp [intOf]; omega
            · have hke : k = olds.length := by omega
              subst hke
              rw [List.drop_of_length_le (by omega), List.take_of_length_le (by omega), List.append_nil] at HS
              obtain ⟨h50, h51, h52, h53, h5f⟩ := HS.out.cells
              obtain ⟨Av, cv, hv⟩ := Kd.R_slice HS.out.r
              subst hv
              have hz0 : wr.cell? ⟨w.heap.size, 0, none⟩ = some (.slice none 0 0) := by simp [World.cell?, HS.out.h4]
              have hz1 : wr.cell? ⟨w.heap.size, 1, none⟩ = some (.int .i64 0) := by simp [World.cell?, HS.out.h4]
              have hz2 : wr.cell? ⟨w.heap.size, 2, none⟩ = some (.int .i64 0) := by simp [World.cell?, HS.out.h4]
              have hz3 : wr.cell? ⟨w.heap.size, 3, none⟩ = some (.slice none 0 0) := by simp [World.cell?, HS.out.h4]
              have hzf0 := blk_frozen HS.out.h4 0
              have hzf1 := blk_frozen HS.out.h4 1
              have hzf2 := blk_frozen HS.out.h4 2
              have hzf3 := blk_frozen HS.out.h4 3
              clear h5f
              have HE : Aside0 (∀ u0 u1 u2 u3, HunkE w0 w g b O1 (newRows rows new) (.slice Av X.length cv) X ((((wr.setCell ⟨w.heap.size, 0, none⟩ u0).setCell ⟨w.heap.size, 1, none⟩ u1).setCell ⟨w.heap.size, 2, none⟩ u2).setCell ⟨w.heap.size, 3, none⟩ u3)) :=
                ⟨fun u0 u1 u2 u3 => ((((HunkE.mk HS.out.c HS.out.b0 HS.out.k HS.out.r).far hlt.1 hlt.2 hsz 0 u0).far hlt.1 hlt.2 hsz 1 u1).far hlt.1 hlt.2 hsz 2 u2).far hlt.1 hlt.2 hsz 3 u3⟩
              go_wp2
              refine bodyPost_ret (v := .agg #[.slice Av X.length cv, .int .i64 new, .int .i64 (newRows rows new), .slice A rows.length c]) ?_ rfl ?_
              · have q0 : (wr.setCell ⟨w.heap.size, 0, none⟩ (.slice Av olds.length cv)).cell? ⟨w.heap.size, 0, none⟩ = some (.slice Av olds.length cv) := World.cell?_setCell_same' _ _ _ (by rw [hz0]; rfl)
                have q1 : ((wr.setCell ⟨w.heap.size, 0, none⟩ (.slice Av olds.length cv)).setCell ⟨w.heap.size, 1, none⟩ (.int .i64 new)).cell? ⟨w.heap.size, 1, none⟩ = some (.int .i64 new) := World.cell?_setCell_same' _ _ _ (by go_simp)
                have q2 : (((wr.setCell ⟨w.heap.size, 0, none⟩ (.slice Av olds.length cv)).setCell ⟨w.heap.size, 1, none⟩ (.int .i64 new)).setCell ⟨w.heap.size, 2, none⟩ (.int .i64 (newRows rows new))).cell? ⟨w.heap.size, 2, none⟩ = some (.int .i64 (newRows rows new)) := World.cell?_setCell_same' _ _ _ (by go_simp)
                have q3 : ((((wr.setCell ⟨w.heap.size, 0, none⟩ (.slice Av olds.length cv)).setCell ⟨w.heap.size, 1, none⟩ (.int .i64 new)).setCell ⟨w.heap.size, 2, none⟩ (.int .i64 (newRows rows new))).setCell ⟨w.heap.size, 3, none⟩ (.slice A rows.length c)).cell? ⟨w.heap.size, 3, none⟩ = some (.slice A rows.length c) := World.cell?_setCell_same' _ _ _ (by go_simp)
                simp [results, Tryd.results28, go_sem, q0, q1, q2, q3, hXl]
              · exact ⟨_, rfl, by rw [HO1.out, HX.out]; exact (HE.out _ _ _ _).r, by rw [HO1.out]; exact (HE.out _ _ _ _).c, (HE.out _ _ _ _).b0, (HE.out _ _ _ _).k⟩
end Go.Proofs.YtenfoaajipiehaaDoor.Q
