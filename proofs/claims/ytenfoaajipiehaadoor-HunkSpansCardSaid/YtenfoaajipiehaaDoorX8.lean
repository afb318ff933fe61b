/- Contract of package hunk's Groups: the runs of rows that have a mark, collected from an iterator. -/
import Derived.Maps.AppendAt
import Derived.Maps.OwnIn
import Derived.Test.YtenfoaajipiehaaDoorX7
namespace Go.Proofs.YtenfoaajipiehaaDoor.Q
set_option linter.unusedVariables false
set_option linter.unusedSimpArgs false
open Go.RowKit Go.Shelf Go.Proofs.YtenfoaajipiehaaDoorW.PrintWords Go.Proofs.YtenfoaajipiehaaDoorW.PrintLast Go.Proofs.YtenfoaajipiehaaDoorW.PrintMore
attribute [local go_sem] Oper.semAt_some
theorem spansGo_length (l : List S41) : ∀ (p : Nat) (o : Option Nat), (spansGo p l o).length ≤ l.length + (if o.isSome then 1 else 0) := by
  induction l with
  | nil => intro p o; cases o <;> simp [spansGo]
  | cons x l ih =>
    intro p o
    cases o with
    | none =>
      have h1 := ih (p + 1) (some p)
      have h2 := ih (p + 1) none
      simp only [spansGo]
      split <;> simp_all <;> omega
    | some s =>
      have h1 := ih (p + 1) (some s)
      have h2 := ih (p + 1) none
      simp only [spansGo]
      split <;> simp_all <;> omega
theorem groupsL_length (l : List S41) : (groupsL l).length ≤ l.length := by have := spansGo_length l 0 none; simpa [groupsL] using this

def cells36 (xs : List S36) : List Value := xs.flatMap fun x => [.int .i64 x.f0, .int .i64 x.f1]
theorem cells36_snoc (xs : List S36) (x : S36) : cells36 (xs ++ [x]) = cells36 xs ++ [.int .i64 x.f0, .int .i64 x.f1] := by simp [cells36]
theorem reps36 (w : World) (base : Nat) (ok : Nat → Prop) (xs : List S36) : Reps (k36.M w base ok) 2 xs (cells36 xs) := by
  induction xs with
  | nil => exact Reps.none _ _
  | cons x xs ih => exact Reps.c2 (k36_mkM ..) ih
theorem R36_of_own {w : World} {base : Nat} {v : Value} {xs : List S36} (h : w.ownsRow base 36 2 v xs.length (cells36 xs)) : Kd.R k36 36 w base (fun _ => True) v xs :=
  ⟨fun _ _ => trivial, cells36 xs, h, reps36 ..⟩
/-- The cells of a block that is new. -/
theorem cells_new (W : World) (cs : List Value) (t : TypeId) (j : Nat) (u : Value) (h : cs[j]? = some u) : (W.alloc (.cells cs.toArray t)).cell? ((⟨W.heap.size, 0, none⟩ : Addr).add j) = some u := by
  have h1 := heap_alloc_new W (.cells cs.toArray t)
  have e : (⟨W.heap.size, 0, none⟩ : Addr).add j = ⟨W.heap.size, j, none⟩ := by
    simp only [Addr.add]
    split
    · rename_i h0; simp_all
    · simp
  rw [e]
  simp only [World.cell?]
  rw [h1]
  simpa using h
/-- A loop variable's box, a struct of two numbers. -/
def Box36 (W : World) (B : Nat) (x : S36) : Prop := W.heap[B]? = some (.cells #[.int .i64 x.f0, .int .i64 x.f1] 36 (0, 0))
theorem box36_own (B n : Nat) (x : S36) : OwnFrom n (fun (_ : Unit) W => Box36 W B x) := by
  intro s X Y row hs hg hrow
  exact (grownBy_keeps_cells hg (fun r e => (hrow r e).2) (show X.heap[B]? = _ from hs) rfl).trans hs
theorem Box36.cells {W : World} {B : Nat} {x : S36} (h : Box36 W B x) : W.cell? ⟨B, 0, none⟩ = some (.int .i64 x.f0) ∧ W.cell? ⟨B, 1, none⟩ = some (.int .i64 x.f1) := by
  constructor <;> simp [World.cell?, show W.heap[B]? = _ from h]

set_option maxHeartbeats 1000000 in
theorem groups_at (n : Nat) (A : Option Addr) (c len : Nat) (w : World) :
    CallsIn Fence.wide n Tryd.prog 26 #[.slice A len c] w fun e w' => e = .returned (.func (.func 50) #[] #[.pointer (some ⟨w.heap.size, 0, none⟩)]) ∧ w' = w.alloc (.cells #[.slice A len c] 22) := by
  refine callsIn_of_wp Tryd.func26 rfl trivial ?_ rfl
  simp only [Tryd.ntmps26, List.size_toArray, List.length_cons, List.length_nil, Nat.reduceAdd, Nat.reduceSub, Array.replicate_succ, Array.replicate_zero, List.push_toArray, List.append_toArray, List.nil_append, List.cons_append]
  gi_wp2
  go_ret
  exact ⟨rfl, rfl⟩

theorem Grp.info36 : (Tryd.prog.info? 36).map (fun i => (i.zero, i.size, i.bytes)) = some (some (.agg #[.int .i64 0, .int .i64 0]), 2, 16) := by kernel_rfl

set_option maxRecDepth 100000 in
set_option maxHeartbeats 4000000 in
theorem hunk_Groups_at (A : Option Addr) (c : Nat) (l : List S41) (w : World) (hr : Kd.C k41 w A l.length l) (hl : l.length ≤ 1000000) (hs : ∀ x ∈ l, x.f0.size ≤ 4000000000) :
    Calls Tryd.prog 15 #[.slice A l.length c] w fun e w' => ∃ v : Value, e = .returned v ∧ Kd.R k36 36 w' w.heap.size (fun _ => True) v (groupsL l) ∧ Below w.heap.size w w' := by
  obtain ⟨i0, hi, hz0, hz1, hz2⟩ := info_parts Grp.info36
  have hgl := groupsL_length l
  refine (callsIn_wide (n := 6)).1 ?_
  refine callsIn_of_wp_marks Tryd.func15 rfl trivial ?_ rfl
  simp only [Tryd.ntmps15, List.size_toArray, List.length_cons, List.length_nil, Nat.reduceAdd, Nat.reduceSub, Array.replicate_succ, Array.replicate_zero, List.push_toArray, List.append_toArray, List.nil_append, List.cons_append]
  gi_wp2_with (refine ⟨trivial, ?_⟩; gi_at_call 26; refine (groups_at _ _ _ _ _).mono ?_; rintro e w' ⟨rfl, rfl⟩)
  have bO := Boxed.new w 33 (.slice none 0 0)
  have bN := Boxed.new (w.alloc (.cells #[.slice none 0 0] 33)) 22 (.slice A l.length c)
  rw [World.size_alloc] at bN
  have hB0 : Below w.heap.size w ((w.alloc (.cells #[.slice none 0 0] 33)).alloc (.cells #[.slice A l.length c] 22)) := ((Below.refl _ w).alloc (Nat.le_refl _) _).alloc (by simp) _
  have hsz : ((w.alloc (.cells #[.slice none 0 0] 33)).alloc (.cells #[.slice A l.length c] 22)).heap.size = w.heap.size + 2 := by simp
  have bO1 := bO.alloc (.cells #[.slice A l.length c] 22)
  clear bO
  obtain ⟨W0, hW0⟩ : ∃ W0, (w.alloc (.cells #[.slice none 0 0] 33)).alloc (.cells #[.slice A l.length c] 22) = W0 := ⟨_, rfl⟩
  rw [hW0] at bO1 bN hB0 hsz ⊢
  clear hW0
  refine wpIn_rangeFunc_ownH rfl (by omega) (gf := 50) (lb := #[.pointer (some ⟨w.heap.size + 1, 0, none⟩)]) rfl trivial (enters_of Tryd.func50 (by kernel_rfl) rfl)
    (groups1_stops 5 (by omega) w (w.heap.size + 1) A c l W0 hr hl hs ⟨hB0, bN⟩)
    (fun h k => KpB.trans h k) (fun W b o o' h1 h2 h3 h4 => ⟨belowK_b (w := W0) (n₀ := w.heap.size) (by omega) W b o o' h1 h2 h3 h4, World.putObj_heap_other (by omega)⟩) (Below.refl _ _) (fun _ => rfl)
    (fun pre W => ((∃ v, Boxed W w.heap.size 33 v ∧ W.ownsRow w.heap.size 36 2 v pre.length (cells36 (pre.map (·.1))) ∧ True) ∧ Boxed W (w.heap.size + 1) 22 (.slice A l.length c)) ∧ Below w.heap.size w W)
    (fun _ _ _ => False)
    (OwnFrom.and (OwnFrom.and (Own.from (holdsRow_own w.heap.size w.heap.size 33 36 2 (fun pre : List (Grp l) => pre.length) (fun pre : List (Grp l) => cells36 (pre.map (·.1))) (fun _ _ => True)) _) (Own.from (boxed_own _ _ _) _)) (ownFrom_below (Nat.le_refl _) (by omega)))
    (fun _ _ _ _ _ hs _ _ => hs)
    ⟨⟨⟨_, bO1, World.ownsRow_nil _ _ _ _, trivial⟩, bN⟩, hB0⟩
    (fun x a' W => ∃ Bx, w.heap.size + 1 < Bx ∧ Box36 W Bx x.1 ∧ a' = { tmps := #[.slice A l.length c, undef, .slice none 0 0, .pointer (some ⟨w.heap.size, 0, none⟩), .pointer (some ⟨Bx, 0, none⟩), .slice A l.length c, .func (.func 50) #[] #[.pointer (some ⟨w.heap.size + 1, 0, none⟩)], .agg #[.int .i64 x.1.f0, .int .i64 x.1.f1], undef, undef, undef, undef, undef], defers := [] })
    (fun x a' s X Y row hs hg hr => by obtain ⟨Bx, h1, h2, h3⟩ := hs; exact ⟨Bx, h1, box36_own Bx _ x.1 () X Y row h2 hg hr, h3⟩)
    ?assign ?body ?done ?stop
  case assign =>
    rintro lp pre x W K hI hK
    dsimp only [encGrp]
    gi_wp2
    obtain ⟨⟨⟨v, hv, hrow, -⟩, bN1⟩, hB⟩ := hI
    have hlt := bN1.lt
    exact hK _ _ ((KeepsOthers.alloc _ _).from _) ⟨(Below.refl _ W).alloc hB.size _, (Below.heap_alloc W _ _ hlt)⟩ ⟨⟨⟨v, hv.alloc _, hrow.alloc _, trivial⟩, bN1.alloc _⟩, hB.alloc hB.size _⟩ ⟨W.heap.size, hlt, heap_alloc_new W _, rfl⟩
  case body =>
    rintro lp pre x a' W hlp ⟨r, hr⟩ ⟨⟨⟨v, hv, hrow, -⟩, bN1⟩, hB⟩ ⟨Bx, hBx, bX, rfl⟩ hlt
    have hc := hv.cell
    obtain ⟨hx0, hx1⟩ := bX.cells
    gi_wp2_with (gi_at_builtin; refine wpListIn_append_own _ rfl _ _ 33 rfl w.heap.size 36 i0 (.agg #[.int .i64 0, .int .i64 0]) 2 16 Tryd.underlying33 hi hz0 hz1 hz2 rfl (by decide) _ _ _ rfl (hrow.alloc _) ⟨W.heap.size, 0, none⟩ 1 1 [.int .i64 x.1.f0, .int .i64 x.1.f1] rfl rfl (cells_new W [.int .i64 x.1.f0, .int .i64 x.1.f1] 36) (by simp [Value.oneCell']) (by unfold maxLen; omega) (by omega) (by have := hB.size; simp; omega) ?_; intro v' w1 hown' hgrow _; obtain ⟨g', cap', rfl⟩ := ownsRow_succ hown'; obtain ⟨hv1, hv2, hr2, hk2, hb2⟩ := hv.appended (by decide) hrow hB.size (Nat.le_refl _) hown' hgrow; have hc1 := hv1.cell; have hf1 := hv1.frozen; have hN2 := ((bN1.alloc (.cells #[.int .i64 x.1.f0, .int .i64 x.1.f1] 36)).kept hgrow (bN1.not_row (by decide) hrow)).other (B' := w.heap.size) (by omega) (.slice (some ⟨g', 0, none⟩) (pre.length + 1) cap'))
    refine ⟨hk2.from _, ⟨hb2, (show _ = _ from hN2).trans (show _ = _ from bN1).symm⟩, ⟨⟨_, hv2, ?_, trivial⟩, hN2⟩, hB.trans hb2⟩
    rw [List.map_append, List.map_singleton, cells36_snoc, List.length_append, List.length_singleton]
    exact hr2
  case done =>
    rintro D xs W hD hS ⟨⟨⟨v, hv, hrow, -⟩, bN1⟩, hB⟩ hK
    have hc := hv.cell
    gi_wp2
    refine ⟨by simp, .inl ⟨_, _, rfl, run_takeDeferred hK, ?_⟩⟩
    refine ⟨_, results_tmp rfl _ _ _, v, rfl, ?_, hB.trans (belowK_b (w := w) (Nat.le_refl _) W D _ _ (by omega) hK rfl rfl)⟩
    rw [← hS]
    exact R36_of_own (by rw [List.length_map]; exact ownsRow_putObj hrow _ hK rfl)
  case stop =>
    rintro D c pre W _ _ h _
    exact h.elim
end Go.Proofs.YtenfoaajipiehaaDoor.Q
