/- Contract of package hunk's groups, an iterator over the runs of rows that have a mark. -/
import Derived.RangeFuncNested
import Derived.RangeFuncBound
import Derived.RangeFuncCalls
import Derived.RangeFuncLeaves
import Derived.Shelf.Abstract
import Derived.Shelf.RegionOpen
import Derived.WalkKit
import Derived.OwnWalkIn
import Derived.TacticsInMore
import Derived.LoopNIn
import Derived.LoopIn
import Derived.WalkMore
import Derived.Test.YtenfoaajipiehaaDoorX6
namespace Go.Proofs.YtenfoaajipiehaaDoor.Q
set_option linter.unusedVariables false
set_option linter.unusedSimpArgs false
open Go.RowKit Go.Shelf Go.Proofs.YtenfoaajipiehaaDoorW.PrintWords Go.Proofs.YtenfoaajipiehaaDoorW.PrintLast Go.Proofs.YtenfoaajipiehaaDoorW.PrintMore
attribute [local go_sem] Oper.semAt_some
/-- Has a row a mark? -/
def markedB (x : S41) : Bool := x.f0.data.toList.any fun b => !(b == 32)
theorem trim_blank (l : List UInt8) : (Lib.trimS l [32] != []) = l.any fun b => !(b == 32) := by
  have h1 : ∀ l : List UInt8, l.dropWhile ([32].contains ·) = [] ↔ l.any (fun b => !(b == 32)) = false := by
    intro l
    induction l with
    | nil => simp
    | cons b l ih =>
      by_cases hb : b = 32
      · subst hb; simp only [List.dropWhile_cons, List.any_cons]; simpa using ih
      · simp [List.dropWhile_cons, hb]
  have h2 : Lib.trimS l [32] = [] ↔ l.any (fun b => !(b == 32)) = false := by
    unfold Lib.trimS Lib.trimLeftS
    rw [h1]
    unfold Lib.trimRightS
    rw [List.any_reverse]
    constructor
    · intro h
      have h3 : ∀ l : List UInt8, (l.dropWhile ([32].contains ·)).any (fun b => !(b == 32)) = false → l.any (fun b => !(b == 32)) = false := by
        intro l
        induction l with
        | nil => simp
        | cons b l ih =>
          by_cases hb : b = 32
          · subst hb; simp only [List.dropWhile_cons, List.any_cons]; simpa using ih
          · simp [List.dropWhile_cons, hb]
      have := h3 _ h
      rwa [List.any_reverse] at this
    · intro h
      have := (h1 l.reverse).2 (by rw [List.any_reverse]; exact h)
      rw [this]; rfl
  by_cases h : Lib.trimS l [32] = []
  · rw [h, h2.1 h]; rfl
  · have h3 : ¬ l.any (fun b => !(b == 32)) = false := fun e => h (h2.2 e)
    rw [show (Lib.trimS l [32] != []) = true by simpa using h]
    simpa using h3
theorem hunk_marked_at (x : S41) (w : World) (hs : x.f0.size ≤ 4000000000) :
    Calls Tryd.prog 51 #[.agg #[.string x.f0, .string x.f1]] w fun e w' => e = .returned (.bool (markedB x)) ∧ Below w.heap.size w w' := by
  refine hunk_marked.calls x.f0 x.f1 (markedB x) w ?_
  unfold hunk_marked.f strings_Trim.f
  rw [if_pos ⟨by omega, by decide, by decide⟩]
  show some _ = some _
  congr 1
  have := trim_blank x.f0.data.toList
  rw [Lib.toList_data]
  exact this

/-- The runs of marked rows, from a place on; in a run that began at some place. -/
def spansGo : Nat → List S41 → Option Nat → List S36
  | _, [], none => []
  | p, [], some s => [⟨s, p⟩]
  | p, x :: l, none => if markedB x then spansGo (p + 1) l (some p) else spansGo (p + 1) l none
  | p, x :: l, some s => if markedB x then spansGo (p + 1) l (some s) else ⟨s, p⟩ :: spansGo (p + 1) l none
def groupsL (l : List S41) : List S36 := spansGo 0 l none
/-- They lie in their list. -/
theorem spansGo_in (l : List S41) : ∀ (p : Nat) (o : Option Nat), (∀ s, o = some s → s ≤ p) → ∀ x ∈ spansGo p l o, 0 ≤ x.f0 ∧ x.f0 ≤ x.f1 ∧ x.f1 ≤ p + l.length := by
  induction l with
  | nil =>
    intro p o h x hx
    cases o with
    | none => simp [spansGo] at hx
    | some s => have := h s rfl; simp [spansGo] at hx; subst hx; simp; omega
  | cons y l ih =>
    intro p o h x hx
    cases o with
    | none =>
      by_cases hm : markedB y = true
      · simp only [spansGo, hm, if_true] at hx
        have := ih (p + 1) (some p) (fun s e => by cases e; omega) x hx
        simp only [List.length_cons]; omega
      · simp only [spansGo, hm] at hx
        have := ih (p + 1) none (fun s e => by cases e) x hx
        simp only [List.length_cons]; omega
    | some s =>
      have hs := h s rfl
      by_cases hm : markedB y = true
      · simp only [spansGo, hm, if_true] at hx
        have := ih (p + 1) (some s) (fun s' e => by cases e; omega) x hx
        simp only [List.length_cons]; omega
      · simp only [spansGo, hm] at hx
        rcases List.mem_cons.1 hx with rfl | hx
        · simp only [List.length_cons]; simp; omega
        · have := ih (p + 1) none (fun s e => by cases e) x hx
          simp only [List.length_cons]; omega
theorem groupsL_in (l : List S41) (x : S36) (hx : x ∈ groupsL l) : 0 ≤ x.f0 ∧ x.f0 ≤ x.f1 ∧ x.f1 ≤ l.length := by
  have := spansGo_in l 0 none (fun s e => by cases e) x hx
  simpa using this
theorem drop_at {l : List S41} {k : Nat} (h : k < l.length) : l.drop k = l[k] :: l.drop (k + 1) := List.drop_eq_getElem_cons h
theorem spansGo_skip {l : List S41} {k : Nat} (h : k < l.length) (hm : markedB l[k] = false) : spansGo k (l.drop k) none = spansGo (k + 1) (l.drop (k + 1)) none := by rw [drop_at h]; simp [spansGo, hm]
theorem spansGo_open {l : List S41} {k : Nat} (h : k < l.length) (hm : markedB l[k] = true) : spansGo k (l.drop k) none = spansGo (k + 1) (l.drop (k + 1)) (some k) := by rw [drop_at h]; simp [spansGo, hm]
theorem spansGo_on {l : List S41} {k s : Nat} (h : k < l.length) (hm : markedB l[k] = true) : spansGo k (l.drop k) (some s) = spansGo (k + 1) (l.drop (k + 1)) (some s) := by rw [drop_at h]; simp [spansGo, hm]
theorem spansGo_shut {l : List S41} {k s : Nat} (h : k < l.length) (hm : markedB l[k] = false) : spansGo k (l.drop k) (some s) = ⟨s, k⟩ :: spansGo k (l.drop k) none := by rw [drop_at h]; simp [spansGo, hm]
theorem spansGo_end {l : List S41} {k s : Nat} (h : l.length ≤ k) : spansGo k (l.drop k) (some s) = ⟨s, k⟩ :: spansGo k (l.drop k) none := by rw [List.drop_of_length_le h]; rfl

/-- One of the groups. -/
abbrev Grp (l : List S41) := { x : S36 // x ∈ groupsL l }
def encGrp {l : List S41} (x : Grp l) : Array Value := #[.agg #[.int .i64 x.1.f0, .int .i64 x.1.f1]]
/-- What a round keeps: what lay below n₀, and block B. -/
def KpB (n₀ B : Nat) (W W' : World) : Prop := Below n₀ W W' ∧ W'.heap[B]? = W.heap[B]?
theorem KpB.trans {n₀ B : Nat} {X Y Z : World} (h : KpB n₀ B X Y) (k : KpB n₀ B Y Z) : KpB n₀ B X Z := ⟨h.1.trans k.1, k.2.trans h.2⟩

/-- Where the iterator reads: its box, and the rows. -/
structure GrpS (W0 : World) (B : Nat) (A : Option Addr) (c : Nat) (l : List S41) (W : World) : Prop where
  b0 : Below W0.heap.size W0 W
  box : W.heap[B]? = some (.cells #[.slice A l.length c] 22 (0, 0))
theorem GrpS.cell {W0 : World} {B : Nat} {A : Option Addr} {c : Nat} {l : List S41} {W : World} (h : GrpS W0 B A c l W) : W.cell? ⟨B, 0, none⟩ = some (.slice A l.length c) := by simp [World.cell?, h.box]
theorem GrpS.below {W0 : World} {B : Nat} {A : Option Addr} {c : Nat} {l : List S41} {W W' : World} (h : GrpS W0 B A c l W) (hb : Below W.heap.size W W') : GrpS W0 B A c l W' :=
  ⟨below_step h.b0 hb, (hb.block B (Array.getElem?_eq_some_iff.1 h.box).1).trans h.box⟩
theorem GrpS.kp {W0 : World} {B : Nat} {A : Option Addr} {c : Nat} {l : List S41} {W W' : World} (h : GrpS W0 B A c l W) (hb : KpB W0.heap.size B W W') : GrpS W0 B A c l W' :=
  ⟨h.b0.trans hb.1, hb.2.trans h.box⟩

set_option maxHeartbeats 4000000 in
set_option maxRecDepth 100000 in
theorem groups1_stops (n : Nat) (hn : 1 ≤ n) (W0 : World) (B : Nat) (A : Option Addr) (c : Nat) (l : List S41) (w : World) (hr : Kd.C k41 W0 A l.length l) (hl : l.length ≤ 1000000) (hs : ∀ x ∈ l, x.f0.size ≤ 4000000000) (hG : GrpS W0 B A c l w) :
    SeqStopsK Fence.wide n Tryd.prog 50 #[.pointer (some ⟨B, 0, none⟩)] (encGrp (l := l)) (KpB W0.heap.size B) (fun xs => xs.map (·.1) = groupsL l) (fun _ => True) (groupsL l).length w := by
  intro lp J Jx W hW hJ hJx hY h0
  have HG := Aside0.mk (hG.below hW)
  have HR := Aside0.mk hr
  have HM := Aside0.mk (fun (k : Nat) (hk : k < l.length) (W : World) => hunk_marked_at l[k] W (hs _ (List.getElem_mem hk)))
  have HJ := Aside0.mk (fun (pre : List (Grp l)) (X Y : World) (h : J pre X) (hb : Below X.heap.size X Y) => hJ pre X Y none h (grown_of_below hb none) (fun r e => by cases e))
  have HY := Aside0.mk hY
  have H0 := Aside0.mk h0
  clear hW hJ hJx hY h0 hr hs hG
  refine callsIn_of_wp Tryd.func50 rfl trivial ?_ rfl
  simp only [Tryd.ntmps50, List.size_toArray, List.length_cons, List.length_nil, Nat.reduceAdd, Nat.reduceSub, Array.replicate_succ, Array.replicate_zero, List.push_toArray, List.append_toArray, List.nil_append, List.cons_append]
  refine (wpIn_wide (n := n)).2 (wp_scope_straight ((wpIn_wide (n := n)).1 ?_))
  gi_wp2
  refine wpIn_label ?_
  gi_wp2
  gi_loopw [3] (fun v3 wr => ∃ (k : Nat) (pre : List (Grp l)), k ≤ l.length ∧ v3 = .int .i64 k ∧ Aside0 (pre.map (·.1) ++ spansGo k (l.drop k) none = groupsL l) ∧ Aside0 (J pre wr) ∧ Aside0 (GrpS W0 B A c l wr)) (fun v3 _ => l.length - (intOf v3).toNat)
  case atStart => exact ⟨0, [], Nat.zero_le _, rfl, ⟨rfl⟩, H0, HG⟩
  case round =>
    clear H0 HG
    obtain ⟨k, pre, hk, rfl, HE, HJ0, HG⟩ := hrel
    have hbx := HG.out.cell
    by_cases hlt : k < l.length
    · obtain ⟨ad, rfl, hc0, hc1⟩ := at41 HR.out k hlt hlt
      replace hc0 := (HG.out.b0.cell (World.block_lt_of_cell? W0 _ hc0)).trans hc0
      replace hc1 := (HG.out.b0.cell (World.block_lt_of_cell? W0 _ hc1)).trans hc1
      gi_wp2_with (refine ⟨trivial, ?_⟩; gi_at_call 51; refine (callsIn_wide.2 (HM.out k hlt wr)).mono ?_; rintro e w1 ⟨rfl, hb1⟩; have HJ1 := Aside0.mk (HJ.out pre wr w1 HJ0.out hb1); have HG1 := Aside0.mk (HG.out.below hb1); clear hb1)
      · have hm : (!markedB l[k]) = true := by assumption
        go_roundw
        case rel => exact ⟨k + 1, pre, by omega, by go_num, ⟨by rw [← spansGo_skip hlt (by simpa using hm)]; exact HE.out⟩, HJ1, HG1⟩
        case measure => simp [intOf]; omega
      · have hm : (!markedB l[k]) = false := by assumption
        have hm' : markedB l[k] = true := by simpa using hm
        replace HE : Aside0 (pre.map (·.1) ++ spansGo k (l.drop k) (some k) = groupsL l) := ⟨by rw [spansGo_on hlt hm', ← spansGo_open hlt hm']; exact HE.out⟩
        have HMK := Aside0.mk hm'
        rw [hm]
        clear hm hm' hc0 hc1 hbx HG HJ0
        gi_loopw [3] (fun v3 wr => ∃ j : Nat, k ≤ j ∧ j ≤ l.length ∧ v3 = .int .i64 j ∧ Aside0 (pre.map (·.1) ++ spansGo j (l.drop j) (some k) = groupsL l) ∧ Aside0 (J pre wr) ∧ Aside0 (GrpS W0 B (some ad) c l wr)) (fun v3 _ => l.length - (intOf v3).toNat)
        case atStart => exact ⟨k, Nat.le_refl _, hk, rfl, HE, HJ1, HG1⟩
        case round =>
          clear HE HJ1 HG1
          obtain ⟨j, hkj, hj, rfl, HE, HJ1, HG1⟩ := hrel
          have hbx := HG1.out.cell
          by_cases hltj : j < l.length
          · have hd : decide ((j : Int) < (l.length : Int)) = true := decide_eq_true (by omega)
            obtain ⟨ad', e, hc0, hc1⟩ := at41 HR.out j hltj hltj
            obtain rfl : ad = ad' := by injection e
            clear e
            replace hc0 := (HG1.out.b0.cell (World.block_lt_of_cell? W0 _ hc0)).trans hc0
            replace hc1 := (HG1.out.b0.cell (World.block_lt_of_cell? W0 _ hc1)).trans hc1
            have HM2 := Aside0.mk (HM.out j hltj wr)
            cases hmj : markedB l[j] with
            | true =>
              rw [hmj] at HM2
              gi_wp2_with fail
              refine ⟨trivial, ?_⟩
              refine (callsIn_wide.2 HM2.out).mono ?_
              rintro e w2 ⟨rfl, hb1⟩
              have HJ2 := Aside0.mk (HJ.out pre _ w2 HJ1.out hb1)
              have HG2 := Aside0.mk (HG1.out.below hb1)
              have HE2 : Aside0 (pre.map (·.1) ++ spansGo (j + 1) (l.drop (j + 1)) (some k) = groupsL l) := ⟨by rw [← spansGo_on hltj hmj]; exact HE.out⟩
              clear hb1 hmj HM2
              gi_wp2
              go_roundw
              case rel => exact ⟨j + 1, by omega, by omega, by go_num, HE2, HJ2, HG2⟩
              case measure => simp [intOf]; omega
            | false =>
              rw [hmj] at HM2
              have HE2 : Aside0 (pre.map (·.1) ++ (⟨k, j⟩ :: spansGo j (l.drop j) none) = groupsL l) := ⟨by rw [← spansGo_shut hltj hmj]; exact HE.out⟩
              have hmem : (⟨(k : Int), (j : Int)⟩ : S36) ∈ groupsL l := by rw [← HE2.out]; simp
              have hlen : pre.length < (groupsL l).length := by rw [← HE2.out]; simp
              have HY2 := Aside0.mk (fun W1 (h1 : J pre W1) => HY.out pre ⟨⟨k, j⟩, hmem⟩ W1 h1 hlen)
              have hne : k < j := by
                rcases Nat.lt_or_eq_of_le hkj with h | h
                · exact h
                · subst h; have := HMK.out; rw [hmj] at this; cases this
              clear hmj hlen
              gi_wp2_with fail
              refine ⟨trivial, ?_⟩
              refine (callsIn_wide.2 HM2.out).mono ?_
              rintro e w2 ⟨rfl, hb1⟩
              have HJ2 := Aside0.mk (HJ.out pre _ w2 HJ1.out hb1)
              have HG2 := Aside0.mk (HG1.out.below hb1)
              clear hb1 HM2 HJ1 HG1
              obtain ⟨fn, tmps, assign, body, hy, hR⟩ := HY2.out w2 HJ2.out
              have HRR := Aside0.mk hR
              clear hR HY2
              dsimp only [encGrp] at hy
              gi_wp2
              refine HRR.out.mono ?_
              clear HRR
              rintro e W3 (⟨rfl, hJ3, hk3⟩ | ⟨rfl, hJx3⟩)
              · have HJ3 := Aside0.mk hJ3
                have HG3 := Aside0.mk (HG2.out.kp hk3)
                clear hJ3 hk3
                gi_wp2
                go_roundw
                case rel => exact ⟨j, pre ++ [⟨⟨k, j⟩, hmem⟩], hj, rfl, ⟨by have := HE2.out; simpa using this⟩, HJ3, HG3⟩
                case measure => simp [intOf]; omega
              · gi_wp2
                rw [Exit.noGoto_ret]
                exact bodyPost_ret (results_none (h := rfl) ..) rfl ⟨⟨_, rfl⟩, .inr ⟨pre ++ [⟨⟨k, j⟩, hmem⟩], trivial, hJx3⟩⟩
          · have hd : decide ((j : Int) < (l.length : Int)) = false := decide_eq_false (by omega)
            have hmem : (⟨(k : Int), (j : Int)⟩ : S36) ∈ groupsL l := by rw [← HE.out, spansGo_end (by omega)]; simp
            have HE2 : Aside0 (pre.map (·.1) ++ (⟨k, j⟩ :: spansGo j (l.drop j) none) = groupsL l) := ⟨by rw [← spansGo_end (by omega)]; exact HE.out⟩
            have hlen : pre.length < (groupsL l).length := by rw [← HE2.out]; simp
            have HY2 := Aside0.mk (HY.out pre ⟨⟨k, j⟩, hmem⟩ wr HJ1.out hlen)
            clear hlen
            obtain ⟨fn, tmps, assign, body, hy, hR⟩ := HY2.out
            have HRR := Aside0.mk hR
            clear hR HY2
            dsimp only [encGrp] at hy
            gi_wp2
            refine ⟨trivial, ?_⟩
            gi_wp2
            refine HRR.out.mono ?_
            clear HRR
            rintro e W3 (⟨rfl, hJ3, hk3⟩ | ⟨rfl, hJx3⟩)
            · have HJ3 := Aside0.mk hJ3
              have HG3 := Aside0.mk (HG1.out.kp hk3)
              clear hJ3 hk3
              gi_wp2
              go_roundw
              case rel => exact ⟨j, pre ++ [⟨⟨k, j⟩, hmem⟩], hj, rfl, ⟨by have := HE2.out; simpa using this⟩, HJ3, HG3⟩
              case measure => simp [intOf]; omega
            · gi_wp2
              rw [Exit.noGoto_ret]
              exact bodyPost_ret (results_none (h := rfl) ..) rfl ⟨⟨_, rfl⟩, .inr ⟨pre ++ [⟨⟨k, j⟩, hmem⟩], trivial, hJx3⟩⟩
    · gi_wp2
      rw [Exit.noGoto_normal]
      go_end0
      have hpre : pre.map (·.1) = groupsL l := by
        have h := HE.out
        rw [List.drop_of_length_le (by omega)] at h
        simpa [spansGo] using h
      exact ⟨⟨_, rfl⟩, .inl ⟨pre, hpre, HJ0.out⟩⟩
end Go.Proofs.YtenfoaajipiehaaDoor.Q
