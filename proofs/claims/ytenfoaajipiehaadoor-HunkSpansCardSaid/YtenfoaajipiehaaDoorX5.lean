/- Contracts of package hunk's counter: it counts rows of each parent, and of the result. -/
import Derived.Test.YtenfoaajipiehaaDoorX4
namespace Go.Proofs.YtenfoaajipiehaaDoor.Q
set_option linter.unusedVariables false
set_option linter.unusedSimpArgs false
open Go.RowKit Go.Shelf Go.Proofs.YtenfoaajipiehaaDoorW.PrintWords Go.Proofs.YtenfoaajipiehaaDoorW.PrintLast Go.Proofs.YtenfoaajipiehaaDoorW.PrintMore
/-- A counter: its struct is block g, its counts are block b. -/
structure Cnt (w : World) (g b : Nat) (olds : List Int) (new : Int) : Prop where
  hg : w.heap[g]? = some (.cells #[.slice (some ⟨b, 0, none⟩) olds.length olds.length, .int .i64 new] 61 (0, 0))
  hb : w.heap[b]? = some (.cells (nums .i64 olds).toArray 3 (0, 0))
  ne : g ≠ b
/-- Is a row the parent's: one or none. -/
def oneOf (b : Bool) : Int := if b then 1 else 0
def passO (x : S41) (k : Nat) (olds : List Int) : List Int := olds.mapIdx fun i o => if i < k then o + oneOf (ofB i x) else o

theorem Cnt.cell0 {w : World} {g b : Nat} {olds : List Int} {new : Int} (h : Cnt w g b olds new) : w.cell? ⟨g, 0, none⟩ = some (.slice (some ⟨b, 0, none⟩) olds.length olds.length) := by
  simp [World.cell?, h.hg]
theorem Cnt.cell1 {w : World} {g b : Nat} {olds : List Int} {new : Int} (h : Cnt w g b olds new) : w.cell? ⟨g, 1, none⟩ = some (.int .i64 new) := by
  simp [World.cell?, h.hg]
theorem Cnt.cellb {w : World} {g b : Nat} {olds : List Int} {new : Int} (h : Cnt w g b olds new) (i : Nat) (hi : i < olds.length) : w.cell? ⟨b, i, none⟩ = some (.int .i64 olds[i]) := by
  simp [World.cell?, h.hb, nums, hi]
theorem Cnt.frz {w : World} {g b : Nat} {olds : List Int} {new : Int} (h : Cnt w g b olds new) (i : Nat) : w.frozen? ⟨b, i, none⟩ = false ∧ w.frozen? ⟨g, i, none⟩ = false := by
  simp [World.frozen?, h.hb, h.hg]
theorem Cnt.lt {w : World} {g b : Nat} {olds : List Int} {new : Int} (h : Cnt w g b olds new) : g < w.heap.size ∧ b < w.heap.size :=
  ⟨(Array.getElem?_eq_some_iff.1 h.hg).1, (Array.getElem?_eq_some_iff.1 h.hb).1⟩
theorem Cnt.below {w w' : World} {g b : Nat} {olds : List Int} {new : Int} (h : Cnt w g b olds new) (hb : Below w.heap.size w w') : Cnt w' g b olds new :=
  ⟨(hb.block g h.lt.1).trans h.hg, (hb.block b h.lt.2).trans h.hb, h.ne⟩

theorem Kept.trans' {w w1 w2 : World} {S : Nat → Prop} (h : Kept w w1 S) (h' : Kept w1 w2 S) : Kept w w2 S :=
  ⟨Nat.le_trans h.1 h'.1, fun i hi hs => (h'.2 i (Nat.lt_of_lt_of_le hi h.1) hs).trans (h.2 i hi hs)⟩
theorem Kept.of_below {w w1 : World} {S : Nat → Prop} (h : Below w.heap.size w w1) : Kept w w1 S := ⟨h.size, fun i hi _ => h.block i hi⟩
theorem passO_length (x : S41) (k : Nat) (olds : List Int) : (passO x k olds).length = olds.length := by simp [passO]
theorem passO_zero (x : S41) (olds : List Int) : passO x 0 olds = olds := by simp [passO, List.mapIdx_eq_iff]
theorem passO_at (x : S41) (k : Nat) (olds : List Int) (h : k < (passO x k olds).length) (h' : k < olds.length) : (passO x k olds)[k] = olds[k] := by simp [passO]
theorem passO_succ (x : S41) (k : Nat) (olds : List Int) (h : k < olds.length) : passO x (k + 1) olds = (passO x k olds).set k (olds[k] + oneOf (ofB k x)) := by
  apply List.ext_getElem?
  intro i
  simp only [passO, List.getElem?_mapIdx, List.getElem?_set, List.length_mapIdx]
  by_cases hik : k = i
  · subst hik
    simp [h]
  · by_cases hlt : i < k
    · simp [hik, hlt, show i < k + 1 by omega]
    · simp [hik, hlt, show ¬ i < k + 1 by omega]
/-- A count written. -/
theorem Cnt.put {w : World} {g b : Nat} {olds : List Int} {new : Int} (h : Cnt w g b olds new) (i : Nat) (v : Int) : Cnt (w.setCell ⟨b, i, none⟩ (.int .i64 v)) g b (olds.set i v) new := by
  refine ⟨?_, ?_, h.ne⟩
  · rw [Below.heap_setCell w ⟨b, i, none⟩ _ g h.ne, List.length_set]; exact h.hg
  · have := blk_put (w := w) (g := b) (cs := (nums .i64 olds).toArray) h.hb i (.int .i64 v) rfl
    rw [this]
    simp [nums, List.map_set]
theorem Cnt.putn {w : World} {g b : Nat} {olds : List Int} {new : Int} (h : Cnt w g b olds new) (v : Int) : Cnt (w.setCell ⟨g, 1, none⟩ (.int .i64 v)) g b olds v := by
  refine ⟨?_, ?_, h.ne⟩
  · exact blk_put (w := w) (g := g) h.hg 1 (.int .i64 v) rfl
  · rw [Below.heap_setCell w ⟨g, 1, none⟩ _ b (Ne.symm h.ne)]; exact h.hb

def oneN (b : Bool) : Nat := if b then 1 else 0
theorem oneN_le (b : Bool) : oneN b ≤ 1 := by cases b <;> decide
theorem oneN_eq (b : Bool) : ((oneN b : Nat) : Int) = oneOf b := by cases b <;> rfl
/-- A row by itself, in a block of its own. -/
theorem row_one {w : World} {B : Nat} {x : S41} (h : w.heap[B]? = some (.cells #[.string x.f0, .string x.f1] 41 (0, 0))) : Kd.C k41 w (some ⟨B, 0, none⟩) 1 [x] := by
  refine ⟨rfl, by decide, fun _ => ⟨_, rfl, fun j p hj => ?_⟩⟩
  cases j with
  | zero =>
    obtain rfl : x = p := by simpa using hj
    refine ⟨_, rfl, k41_mk w x, fun i u hu => ?_⟩
    match i, hu with
    | 0, hu => rw [show (⟨B, 0, none⟩ : Addr).add (0 * k41.sz + 0) = ⟨B, 0, none⟩ from rfl]; simp [World.cell?, h] at hu ⊢; exact hu
    | 1, hu => rw [show (⟨B, 0, none⟩ : Addr).add (0 * k41.sz + 1) = ⟨B, 1, none⟩ from rfl]; simp [World.cell?, h] at hu ⊢; exact hu
  | succ j => simp at hj
theorem column_one (B : Nat) (x : S41) (i : Int) (W : World) (h : W.heap[B]? = some (.cells #[.string x.f0, .string x.f1] 41 (0, 0))) :
    Calls Tryd.prog 23 #[.slice (some ⟨B, 0, none⟩) 1 1, .int .i64 i] W fun e w' => ∃ A c, e = .returned (.slice A (oneN (ofB i x)) c) ∧ Below W.heap.size W w' := by
  refine (table_Column_at (some ⟨B, 0, none⟩) 1 [x] i W (row_one h) (by simp)).mono ?_
  rintro e w' ⟨v, rfl, ho, hb⟩
  obtain ⟨A, c, rfl⟩ := Kd.R_slice ho
  refine ⟨A, c, ?_, hb⟩
  congr 1
  by_cases hx : ofB i x = true
  · simp [List.filter_cons, hx, oneN]
  · simp [List.filter_cons, hx, oneN]
theorem result_one (B : Nat) (x : S41) (W : World) (h : W.heap[B]? = some (.cells #[.string x.f0, .string x.f1] 41 (0, 0))) :
    Calls Tryd.prog 22 #[.slice (some ⟨B, 0, none⟩) 1 1] W fun e w' => ∃ A c, e = .returned (.slice A (oneN (!lostB x)) c) ∧ Below W.heap.size W w' := by
  refine (table_Result_at (some ⟨B, 0, none⟩) 1 [x] W (row_one h) (by simp)).mono ?_
  rintro e w' ⟨v, rfl, ho, hb⟩
  obtain ⟨A, c, rfl⟩ := Kd.R_slice ho
  refine ⟨A, c, ?_, hb⟩
  congr 1
  by_cases hx : lostB x = true
  · simp [List.filter_cons, hx, oneN]
  · simp [List.filter_cons, hx, oneN]
/-- What a pass keeps. -/
structure PassS (w0 w : World) (g b B : Nat) (x : S41) (olds : List Int) (new : Int) (W : World) : Prop where
  c : Cnt W g b olds new
  b0 : Below w0.heap.size w0 W
  k : Kept w W (fun k => k = g ∨ k = b)
  r : W.heap[B]? = some (.cells #[.string x.f0, .string x.f1] 41 (0, 0))
theorem PassS.below {w0 w : World} {g b B : Nat} {x : S41} {olds : List Int} {new : Int} {W W' : World} (h : PassS w0 w g b B x olds new W) (hb : Below W.heap.size W W') : PassS w0 w g b B x olds new W' :=
  ⟨h.c.below hb, below_step h.b0 hb, Kept.trans' h.k (Kept.of_below hb), (hb.block B (Array.getElem?_eq_some_iff.1 h.r).1).trans h.r⟩

theorem PassS.facts {w0 w : World} {g b B : Nat} {x : S41} {olds : List Int} {new : Int} {W : World} {k : Nat} {ok : Int} (h : PassS w0 w g b B x (passO x k olds) new W) (hk : k < olds.length) (hok : Aside0 (olds[k] = ok)) :
    W.cell? ⟨g, 0, none⟩ = some (.slice (some ⟨b, 0, none⟩) olds.length olds.length) ∧ W.cell? ⟨b, k, none⟩ = some (.int .i64 ok) ∧ W.frozen? ⟨b, k, none⟩ = false ∧ Aside0 (PassS w0 w g b B x (passO x k olds) new W) := by
  refine ⟨?_, ?_, (h.c.frz k).1, ⟨h⟩⟩
  · have := h.c.cell0; rwa [passO_length] at this
  · have := h.c.cellb k (by rw [passO_length]; exact hk)
    rw [passO_at x k olds _ hk, hok.out] at this
    exact this

theorem Kept.set' {w W : World} {S : Nat → Prop} (h : Kept w W S) (b i : Nat) (hs : S b) (v : Value) : Kept w (W.setCell ⟨b, i, none⟩ v) S :=
  ⟨by simpa [World.setCell] using h.1, fun j hj hn => (Below.heap_setCell W ⟨b, i, none⟩ v j (fun e => hn (by subst e; exact hs))).trans (h.2 j hj hn)⟩
theorem PassS.put {w0 w : World} {g b B : Nat} {x : S41} {olds : List Int} {new : Int} {W : World} (h : PassS w0 w g b B x olds new W) (hb : w0.heap.size ≤ b) (hB : B ≠ b) (i : Nat) (v : Int) :
    PassS w0 w g b B x (olds.set i v) new (W.setCell ⟨b, i, none⟩ (.int .i64 v)) :=
  ⟨h.c.put i v, h.b0.setCell (p := ⟨b, i, none⟩) hb _, Kept.set' h.k b i (.inr rfl) _, (Below.heap_setCell W ⟨b, i, none⟩ _ B hB).trans h.r⟩
theorem PassS.putn {w0 w : World} {g b B : Nat} {x : S41} {olds : List Int} {new : Int} {W : World} (h : PassS w0 w g b B x olds new W) (hg : w0.heap.size ≤ g) (hB : B ≠ g) (v : Int) :
    PassS w0 w g b B x olds v (W.setCell ⟨g, 1, none⟩ (.int .i64 v)) :=
  ⟨h.c.putn v, h.b0.setCell (p := ⟨g, 1, none⟩) hg _, Kept.set' h.k g 1 (.inl rfl) _, (Below.heap_setCell W ⟨g, 1, none⟩ _ B hB).trans h.r⟩

theorem PassS.facts2 {w0 w : World} {g b B : Nat} {x : S41} {olds : List Int} {new : Int} {W : World} (h : PassS w0 w g b B x olds new W) :
    W.cell? ⟨g, 1, none⟩ = some (.int .i64 new) ∧ W.frozen? ⟨g, 1, none⟩ = false ∧ Aside0 (PassS w0 w g b B x olds new W) := ⟨h.c.cell1, (h.c.frz 1).2, ⟨h⟩⟩

def counter_pass.T5 : Bool × List (List Nat × List Nat) := (true, [([], []), ([0], [0]), ([1], [1]), ([2], [2]), ([], []), ([3, 4], [3, 4]), ([5], [5]), ([], []), ([], []), ([7, 8], [7, 8]), ([9], [9]), ([6, 10], [6, 10]), ([3, 4, 0, 1, 2, 3, 4, 5, 6, 7, 8, 9, 10, 11], [3, 4]), ([12, 11, 9, 0, 1, 2, 3, 4, 5, 6, 7, 8, 9, 10, 11], [11, 12])])
def counter_pass.B5 : List Nat := [0, 1, 3, 7, 0, 31, 63, 0, 0, 384, 896, 2047, 4095, 8191]
theorem counter_pass.tab5 : rtab .any (opsOf Tryd.f29 5) = counter_pass.T5 := by kernel_rfl
theorem counter_pass.bits5 : waitsOk counter_pass.T5.2 counter_pass.B5 = true := by kernel_rfl
def counter_pass.T7 : Bool × List (List Nat × List Nat) := (true, [([], []), ([0], [0]), ([1], [1]), ([2], [2]), ([], []), ([4], [4]), ([5], [5]), ([3, 6], [3, 6]), ([0, 0, 1, 2, 3, 4, 5, 6, 7], [0]), ([8, 0, 1, 2, 3, 4, 5, 6, 7], [8]), ([9, 7, 5, 0, 1, 2, 3, 4, 5, 6, 7], [7, 9])])
def counter_pass.B7 : List Nat := [0, 1, 3, 7, 0, 16, 48, 127, 255, 511, 1023]
theorem counter_pass.tab7 : rtab .any (opsOf Tryd.f29 7) = counter_pass.T7 := by kernel_rfl
theorem counter_pass.bits7 : waitsOk counter_pass.T7.2 counter_pass.B7 = true := by kernel_rfl
set_option maxHeartbeats 2000000 in
set_option maxRecDepth 100000 in
theorem counter_pass_at (w0 : World) (g b : Nat) (x : S41) (olds : List Int) (new : Int) (w : World) (hc : Cnt w g b olds new) (hB : Below w0.heap.size w0 w) (hg0 : w0.heap.size ≤ g) (hb0 : w0.heap.size ≤ b)
    (hl : olds.length ≤ 100) (ho : ∀ o ∈ olds, 0 ≤ o ∧ o ≤ 1000000) (hn : 0 ≤ new ∧ new ≤ 1000000) :
    Calls Tryd.prog 29 #[.pointer (some ⟨g, 0, none⟩), .agg #[.string x.f0, .string x.f1]] w fun e w' => e = .returned (.tuple #[]) ∧ Cnt w' g b (passO x olds.length olds) (new + oneOf (!lostB x)) ∧
      Below w0.heap.size w0 w' ∧ Kept w w' (fun k => k = g ∨ k = b) := by
  have HC := Aside0.mk hc
  have HB := Aside0.mk hB
  have HO := Aside0.mk ho
  have hc0 := hc.cell0
  have hc1 := hc.cell1
  have hlt := hc.lt
  clear hc hB ho
  go_enter Tryd.func29, Tryd.ntmps29
  go_wp2
  go_loopw [13] (fun v13 wr => ∃ k : Nat, k ≤ olds.length ∧ v13 = .int .i64 k ∧ Aside0 (Cnt wr g b (passO x k olds) new) ∧ Aside0 (Below w0.heap.size w0 wr) ∧ Aside0 (Kept w wr (fun k => k = g ∨ k = b)) ∧
    Aside0 (wr.heap[w.heap.size + 1]? = some (.cells #[.string x.f0, .string x.f1] 41 (0, 0)))) (fun v13 _ => olds.length - (intOf v13).toNat)
  case atStart =>
    exact ⟨0, Nat.zero_le _, rfl, ⟨by rw [passO_zero]; exact (HC.out.below (below_alloc (Below.refl _ _) _)).below (below_alloc (Below.refl _ _) _)⟩, ⟨below_alloc (below_alloc HB.out _) _⟩,
      ⟨Kept.of_below (below_alloc (below_alloc (Below.refl _ _) _) _)⟩, ⟨by simpa using heap_alloc_new (w.alloc (.cells #[.string x.f0, .string x.f1] 41)) (.cells #[.string x.f0, .string x.f1] 41)⟩⟩
  case round =>
    clear HB HC hc0 hc1
    obtain ⟨k, hk, rfl, HC, HB, HK, HR⟩ := hrel
    by_cases hltk : k < olds.length
    · have hc0 := HC.out.cell0
      have hck := HC.out.cellb k (by rw [passO_length]; exact hltk)
      rw [passO_at x k olds _ hltk] at hck
      rw [passO_length] at hc0
      have hf := (HC.out.frz k).1
      have hkb : 0 ≤ olds[k] ∧ olds[k] ≤ 1000000 := HO.out _ (List.getElem_mem hltk)
      generalize hok : olds[k] = ok at hck hkb
      have HOK := Aside0.mk hok
      clear hok
      have HP := Aside0.mk (PassS.mk (x := x) (w0 := w0) (w := w) HC.out HB.out HK.out HR.out)
      have hone := oneN_le (ofB k x)
      clear HC HB HK HR
      go_wp2
      refine start_ (n := 14) (S := fun W => W.cell? ⟨g, 0, none⟩ = some (.slice (some ⟨b, 0, none⟩) olds.length olds.length) ∧ W.cell? ⟨b, k, none⟩ = some (.int .i64 ok) ∧ W.frozen? ⟨b, k, none⟩ = false ∧ Aside0 (PassS w0 w g b (w.heap.size + 1) x (passO x k olds) new W)) (ds := [13]) #[false, false, false, false, false, false, false, false, false, false, false, false, false, false] (by kernel_rfl) rfl rfl (PassS.facts (PassS.below HP.out (below_drew (Below.refl _ _))) hltk HOK) (fun hHeld => ?_)
      refine with_tabW counter_pass.tab5 counter_pass.bits5 (fun HT_ HW_ => ?_)
      generalize wr.drew = wr1 at hHeld ⊢
      obtain ⟨-, -, -, HP1⟩ := id hHeld
      refine pure_ (i := 0) (N := (some 16)) (v := ?_) (a' := ?_) #[true, false, false, false, false, false, false, false, false, false, false, false, false, false] rfl rfl (any_of HT_.out (by kernel_rfl)) (fun _ _ _ h => h) (Or.inl ⟨by rfl, ?_⟩) ?_ ?_
      rotate_left
      · intro w'
        go_simp
        with_reducible rfl
      rotate_left
      · simp only [Act.put, List.setIfInBounds_toArray, List.set_cons_zero, List.set_cons_succ, i64_w, i32_w]
        rfl
      refine pure_ (i := 1) (N := (some 17)) (v := ?_) (a' := ?_) #[true, true, false, false, false, false, false, false, false, false, false, false, false, false] rfl rfl (any_of HT_.out (by kernel_rfl)) (fun _ _ _ h => h) (Or.inl ⟨by rfl, ?_⟩) ?_ ?_
      rotate_left
      · intro w'
        go_simp
        with_reducible rfl
      rotate_left
      · simp only [Act.put, List.setIfInBounds_toArray, List.set_cons_zero, List.set_cons_succ, i64_w, i32_w]
        rfl
      refine pure_ (i := 2) (N := (some 18)) (v := ?_) (a' := ?_) #[true, true, true, false, false, false, false, false, false, false, false, false, false, false] rfl rfl (any_of HT_.out (by kernel_rfl)) (fun _ _ _ h => h) (Or.inl ⟨by rfl, ?_⟩) ?_ ?_
      rotate_left
      · intro w'
        go_simp
        with_reducible rfl
      rotate_left
      · simp only [Act.put, List.setIfInBounds_toArray, List.set_cons_zero, List.set_cons_succ, i64_w, i32_w]
        rfl
      refine pure_ (i := 4) (N := (some 20)) (v := ?_) (a' := ?_) #[true, true, true, false, true, false, false, false, false, false, false, false, false, false] rfl rfl (any_of HT_.out (by kernel_rfl)) (fun _ _ _ h => h) (Or.inl ⟨by rfl, ?_⟩) ?_ ?_
      rotate_left
      · intro w'
        go_simp
        with_reducible rfl
      rotate_left
      · simp only [Act.put, List.setIfInBounds_toArray, List.set_cons_zero, List.set_cons_succ, i64_w, i32_w]
        rfl
      refine pure_ (i := 7) (N := (some 23)) (v := ?_) (a' := ?_) #[true, true, true, false, true, false, false, true, false, false, false, false, false, false] rfl rfl (any_of HT_.out (by kernel_rfl)) (fun _ _ _ h => h) (Or.inl ⟨by rfl, ?_⟩) ?_ ?_
      rotate_left
      · intro w'
        go_simp
        with_reducible rfl
      rotate_left
      · simp only [Act.put, List.setIfInBounds_toArray, List.set_cons_zero, List.set_cons_succ, i64_w, i32_w]
        rfl
      refine pure_ (i := 8) (N := (some 24)) (v := ?_) (a' := ?_) #[true, true, true, false, true, false, false, true, true, false, false, false, false, false] rfl rfl (any_of HT_.out (by kernel_rfl)) (fun _ _ _ h => h) (Or.inl ⟨by rfl, ?_⟩) ?_ ?_
      rotate_left
      · intro w'
        go_simp
        with_reducible rfl
      rotate_left
      · simp only [Act.put, List.setIfInBounds_toArray, List.set_cons_zero, List.set_cons_succ, i64_w, i32_w]
        rfl
      refine take_ (i := 3) (N := (some 19)) (v := ?_) (a' := ?_) #[true, true, true, true, true, false, false, true, true, false, false, false, false, false] rfl rfl (take_ofW HT_.out HW_.out (by kernel_rfl)) (fun _ _ _ h => h) (Or.inl ⟨by rfl, ?_⟩) hHeld ?_ ?_
      rotate_left
      · rintro w' ⟨s0, s1, s2, s3⟩
        go_simp
        with_reducible rfl
      rotate_left
      · simp only [Act.put, List.setIfInBounds_toArray, List.set_cons_zero, List.set_cons_succ, i64_w, i32_w]
        rfl
      refine pure_ (i := 5) (N := (some 21)) (v := ?_) (a' := ?_) #[true, true, true, true, true, true, false, true, true, false, false, false, false, false] rfl rfl (any_of HT_.out (by kernel_rfl)) (fun _ _ _ h => h) (Or.inl ⟨by rfl, ?_⟩) ?_ ?_
      rotate_left
      · intro w'
        go_simp
        with_reducible rfl
      rotate_left
      · simp only [Act.put, List.setIfInBounds_toArray, List.set_cons_zero, List.set_cons_succ, i64_w, i32_w]
        rfl
      refine take_ (i := 6) (N := (some 22)) (v := ?_) (a' := ?_) #[true, true, true, true, true, true, true, true, true, false, false, false, false, false] rfl rfl (take_ofW HT_.out HW_.out (by kernel_rfl)) (fun _ _ _ h => h) (Or.inl ⟨by rfl, ?_⟩) hHeld ?_ ?_
      rotate_left
      · rintro w' ⟨s0, s1, s2, s3⟩
        go_simp
        with_reducible rfl
      rotate_left
      · simp only [Act.put, List.setIfInBounds_toArray, List.set_cons_zero, List.set_cons_succ, i64_w, i32_w]
        rfl
      refine one_ (i := 9) (N := (some 25)) #[true, true, true, true, true, true, true, true, true, true, false, false, false, false] rfl rfl (one_of HT_.out (by kernel_rfl)) (by decide) (fun K hK => ?_)
      refine goes_ Tryd.func23 (by kernel_rfl) rfl #[.slice (some ⟨w.heap.size + 1, 0, none⟩) 1 1, .int .i64 k] (by rfl) rfl rfl (by (try simp only [List.map_toArray, List.map_cons, List.map_nil]); first | done | rfl) ?_
      refine (column_one _ x k _ HP1.out.r).mono ?_
      rintro e w1 ⟨A1, c1, rfl, hb1⟩
      refine ⟨_, rfl, ?_⟩
      refine hK.out _ _ (PassS.facts (PassS.below HP1.out hb1) hltk HOK) (fun hHeld => ?_)
      clear hK K
      refine norm_ (a' := ?_) ?_ ?_
      rotate_left
      · show Act.put _ (some 25) _ = _
        simp only [Act.put, List.setIfInBounds_toArray, List.set_cons_zero, List.set_cons_succ, i64_w, i32_w]
        rfl
      refine pure_ (i := 10) (N := (some 26)) (v := ?_) (a' := ?_) #[true, true, true, true, true, true, true, true, true, true, true, false, false, false] rfl rfl (any_of HT_.out (by kernel_rfl)) (fun _ _ _ h => h) (Or.inl ⟨by rfl, ?_⟩) ?_ ?_
      rotate_left
      · intro w'
        go_simp
        with_reducible rfl
      rotate_left
      · simp only [Act.put, List.setIfInBounds_toArray, List.set_cons_zero, List.set_cons_succ, i64_w, i32_w]
        rfl
      refine pure_ (i := 11) (N := (some 27)) (v := ?_) (a' := ?_) #[true, true, true, true, true, true, true, true, true, true, true, true, false, false] rfl rfl (any_of HT_.out (by kernel_rfl)) (fun _ _ _ h => h) (Or.inl ⟨by rfl, ?_⟩) ?_ ?_
      rotate_left
      · intro w'
        go_simp
        with_reducible rfl
      rotate_left
      · simp only [Act.put, List.setIfInBounds_toArray, List.set_cons_zero, List.set_cons_succ, i64_w, i32_w]
        rfl
      refine pure_ (i := 12) (N := (some 28)) (v := ?_) (a' := ?_) #[true, true, true, true, true, true, true, true, true, true, true, true, true, false] rfl rfl (any_of HT_.out (by kernel_rfl)) (fun _ _ _ h => h) (Or.inl ⟨by rfl, ?_⟩) ?_ ?_
      rotate_left
      · intro w'
        go_simp
        with_reducible rfl
      rotate_left
      · simp only [Act.put, List.setIfInBounds_toArray, List.set_cons_zero, List.set_cons_succ, i64_w, i32_w]
        rfl
      refine last_ (i := 13) (N := none) #[true, true, true, true, true, true, true, true, true, true, true, true, true, true] rfl rfl (one_of HT_.out (by kernel_rfl)) (by decide) (fun K hK => ?_)
      obtain ⟨e0, e1, e2, HP2⟩ := id hHeld
      refine skip_ (w1 := ?_) (by rfl) rfl ?_ ?_
      rotate_left
      · go_simp
        rfl
      refine hK.out _ _ ?_
      clear hK K
      refine done_ (done_of HT_.out (by kernel_rfl)) ?_
      have hwv : wrap64 (ok + ((oneN (ofB k x) : Nat) : Int)) = ok + oneOf (ofB k x) := by rw [← oneN_eq]; unfold wrap64; omega
      have HW := Aside0.mk hwv
      have HP3 := Aside0.mk HP2.out
      clear hwv hHeld e0 e1 e2 HP2 HP1 HP
      have HP4 := Aside0.mk (PassS.put HP3.out hb0 (by omega) k (ok + oneOf (ofB k x)))
      try go_wp2
      go_roundw
      case rel =>
        refine ⟨k + 1, by omega, by go_num, ⟨?_⟩, ⟨?_⟩, ⟨?_⟩, ⟨?_⟩⟩
        · rw [passO_succ x k olds hltk, HOK.out]; first | exact HP4.out.c | (rw [HW.out]; exact HP4.out.c)
        · first | exact HP4.out.b0 | (rw [HW.out]; exact HP4.out.b0)
        · first | exact HP4.out.k | (rw [HW.out]; exact HP4.out.k)
        · first | exact HP4.out.r | (rw [HW.out]; exact HP4.out.r)
      case measure => simp [intOf]; omega
    · have hke : k = olds.length := by omega
      subst hke
      have HP := Aside0.mk (PassS.mk (x := x) (w0 := w0) (w := w) HC.out HB.out HK.out HR.out)
      have hc0 := HC.out.cell0
      have hc1 := HC.out.cell1
      have hf := (HC.out.frz 1).2
      clear HC HB HK HR
      have hone := oneN_le (!lostB x)
      go_wp2
      refine start_ (n := 11) (S := fun W => W.cell? ⟨g, 1, none⟩ = some (.int .i64 new) ∧ W.frozen? ⟨g, 1, none⟩ = false ∧ Aside0 (PassS w0 w g b (w.heap.size + 1) x (passO x olds.length olds) new W)) (ds := [10]) #[false, false, false, false, false, false, false, false, false, false, false] (by kernel_rfl) rfl rfl (PassS.facts2 (PassS.below HP.out (below_drew (Below.refl _ _)))) (fun hHeld => ?_)
      refine with_tabW counter_pass.tab7 counter_pass.bits7 (fun HT_ HW_ => ?_)
      generalize wr.drew = wr1 at hHeld ⊢
      obtain ⟨-, -, HP1⟩ := id hHeld
      refine pure_ (i := 0) (N := (some 30)) (v := ?_) (a' := ?_) #[true, false, false, false, false, false, false, false, false, false, false] rfl rfl (any_of HT_.out (by kernel_rfl)) (fun _ _ _ h => h) (Or.inl ⟨by rfl, ?_⟩) ?_ ?_
      rotate_left
      · intro w'
        go_simp
        with_reducible rfl
      rotate_left
      · simp only [Act.put, List.setIfInBounds_toArray, List.set_cons_zero, List.set_cons_succ, i64_w, i32_w]
        rfl
      refine pure_ (i := 1) (N := (some 31)) (v := ?_) (a' := ?_) #[true, true, false, false, false, false, false, false, false, false, false] rfl rfl (any_of HT_.out (by kernel_rfl)) (fun _ _ _ h => h) (Or.inl ⟨by rfl, ?_⟩) ?_ ?_
      rotate_left
      · intro w'
        go_simp
        with_reducible rfl
      rotate_left
      · simp only [Act.put, List.setIfInBounds_toArray, List.set_cons_zero, List.set_cons_succ, i64_w, i32_w]
        rfl
      refine pure_ (i := 2) (N := (some 32)) (v := ?_) (a' := ?_) #[true, true, true, false, false, false, false, false, false, false, false] rfl rfl (any_of HT_.out (by kernel_rfl)) (fun _ _ _ h => h) (Or.inl ⟨by rfl, ?_⟩) ?_ ?_
      rotate_left
      · intro w'
        go_simp
        with_reducible rfl
      rotate_left
      · simp only [Act.put, List.setIfInBounds_toArray, List.set_cons_zero, List.set_cons_succ, i64_w, i32_w]
        rfl
      refine pure_ (i := 4) (N := (some 34)) (v := ?_) (a' := ?_) #[true, true, true, false, true, false, false, false, false, false, false] rfl rfl (any_of HT_.out (by kernel_rfl)) (fun _ _ _ h => h) (Or.inl ⟨by rfl, ?_⟩) ?_ ?_
      rotate_left
      · intro w'
        go_simp
        with_reducible rfl
      rotate_left
      · simp only [Act.put, List.setIfInBounds_toArray, List.set_cons_zero, List.set_cons_succ, i64_w, i32_w]
        rfl
      refine take_ (i := 3) (N := (some 33)) (v := ?_) (a' := ?_) #[true, true, true, true, true, false, false, false, false, false, false] rfl rfl (take_ofW HT_.out HW_.out (by kernel_rfl)) (fun _ _ _ h => h) (Or.inl ⟨by rfl, ?_⟩) hHeld ?_ ?_
      rotate_left
      · rintro w' ⟨s0, s1, s2⟩
        go_simp
        with_reducible rfl
      rotate_left
      · simp only [Act.put, List.setIfInBounds_toArray, List.set_cons_zero, List.set_cons_succ, i64_w, i32_w]
        rfl
      refine one_ (i := 5) (N := (some 35)) #[true, true, true, true, true, true, false, false, false, false, false] rfl rfl (one_of HT_.out (by kernel_rfl)) (by decide) (fun K hK => ?_)
      refine goes_ Tryd.func22 (by kernel_rfl) rfl #[.slice (some ⟨w.heap.size + 1, 0, none⟩) 1 1] (by rfl) rfl rfl (by (try simp only [List.map_toArray, List.map_cons, List.map_nil]); first | done | rfl) ?_
      refine (result_one _ x _ HP1.out.r).mono ?_
      rintro e w1 ⟨A1, c1, rfl, hb1⟩
      refine ⟨_, rfl, ?_⟩
      refine hK.out _ _ (PassS.facts2 (PassS.below HP1.out hb1)) (fun hHeld => ?_)
      clear hK K
      refine norm_ (a' := ?_) ?_ ?_
      rotate_left
      · show Act.put _ (some 35) _ = _
        simp only [Act.put, List.setIfInBounds_toArray, List.set_cons_zero, List.set_cons_succ, i64_w, i32_w]
        rfl
      refine pure_ (i := 6) (N := (some 36)) (v := ?_) (a' := ?_) #[true, true, true, true, true, true, true, false, false, false, false] rfl rfl (any_of HT_.out (by kernel_rfl)) (fun _ _ _ h => h) (Or.inl ⟨by rfl, ?_⟩) ?_ ?_
      rotate_left
      · intro w'
        go_simp
        with_reducible rfl
      rotate_left
      · simp only [Act.put, List.setIfInBounds_toArray, List.set_cons_zero, List.set_cons_succ, i64_w, i32_w]
        rfl
      refine pure_ (i := 7) (N := (some 37)) (v := ?_) (a' := ?_) #[true, true, true, true, true, true, true, true, false, false, false] rfl rfl (any_of HT_.out (by kernel_rfl)) (fun _ _ _ h => h) (Or.inl ⟨by rfl, ?_⟩) ?_ ?_
      rotate_left
      · intro w'
        go_simp
        with_reducible rfl
      rotate_left
      · simp only [Act.put, List.setIfInBounds_toArray, List.set_cons_zero, List.set_cons_succ, i64_w, i32_w]
        rfl
      refine pure_ (i := 8) (N := (some 38)) (v := ?_) (a' := ?_) #[true, true, true, true, true, true, true, true, true, false, false] rfl rfl (any_of HT_.out (by kernel_rfl)) (fun _ _ _ h => h) (Or.inl ⟨by rfl, ?_⟩) ?_ ?_
      rotate_left
      · intro w'
        go_simp
        with_reducible rfl
      rotate_left
      · simp only [Act.put, List.setIfInBounds_toArray, List.set_cons_zero, List.set_cons_succ, i64_w, i32_w]
        rfl
      refine pure_ (i := 9) (N := (some 39)) (v := ?_) (a' := ?_) #[true, true, true, true, true, true, true, true, true, true, false] rfl rfl (any_of HT_.out (by kernel_rfl)) (fun _ _ _ h => h) (Or.inl ⟨by rfl, ?_⟩) ?_ ?_
      rotate_left
      · intro w'
        go_simp
        with_reducible rfl
      rotate_left
      · simp only [Act.put, List.setIfInBounds_toArray, List.set_cons_zero, List.set_cons_succ, i64_w, i32_w]
        rfl
      refine last_ (i := 10) (N := none) #[true, true, true, true, true, true, true, true, true, true, true] rfl rfl (one_of HT_.out (by kernel_rfl)) (by decide) (fun K hK => ?_)
      obtain ⟨e1, e2, HP2⟩ := id hHeld
      refine skip_ (w1 := ?_) (by rfl) rfl ?_ ?_
      rotate_left
      · go_simp
        rfl
      refine hK.out _ _ ?_
      clear hK K
      refine done_ (done_of HT_.out (by kernel_rfl)) ?_
      have hwv : wrap64 (new + ((oneN (!lostB x) : Nat) : Int)) = new + oneOf (!lostB x) := by rw [← oneN_eq]; unfold wrap64; omega
      have HP4 := Aside0.mk (PassS.putn HP2.out hg0 (by omega) (new + oneOf (!lostB x)))
      have HW := Aside0.mk hwv
      clear hwv hHeld e1 e2 HP2 HP1 HP
      try go_wp2
      go_end0
      refine ⟨rfl, ?_, ?_, ?_⟩
      · rw [HW.out]; exact HP4.out.c
      · rw [HW.out]; exact HP4.out.b0
      · rw [HW.out]; exact HP4.out.k
end Go.Proofs.YtenfoaajipiehaaDoor.Q
