/- Lemmas that the kit's print.sh wrote for this seat; what this claim does not reach was struck by a program of ours. -/
import Derived.Test.YtenfoaajipiehaaDoorWTab
import Derived.Test.YtenfoaajipiehaaDoorWWords
/-! ### 57. A region of open order by ONE relation over what is listed so far: each operation is shown once, whatever came up before it -/
namespace Go.Proofs.YtenfoaajipiehaaDoorW.PrintLast
/-- Number i is listed too. -/
def up (b : Nat → Bool) (i : Nat) : Nat → Bool := fun j => if j = i then true else b j
section
/-! The frame: what is listed has its destination filled. -/
end
end Go.Proofs.YtenfoaajipiehaaDoorW.PrintLast

/- Lemmas that the kit's print.sh wrote for this seat; what this claim does not reach was struck by a program of ours. -/
/-! ### 58. A guarded operation whose guard is known to want it: the same goal without the guard -/
namespace Go.Proofs.YtenfoaajipiehaaDoorW.PrintWords
open Go.RowKit
section
variable {P : Program} {ops : Array Oper} {rest : List Oper} {o : Oper} {a : Act} {Q : Exit → Act → World → Prop} {W : World}
/-- The gate takes the guard off (hw: 'by rfl', 'by kernel_rfl': the guard's slot holds what is wanted). -/
theorem gate_guard (hw : Region.wanted o (yielded ops a.tmps) = true) (h : wpList P ops Q ({ o with guard := none } :: rest) a W) : wpList P ops Q (o :: rest) a W := by
  have h1 : Region.wanted { o with guard := none } (yielded ops a.tmps) = true := rfl
  unfold wpList at h ⊢
  rw [if_pos h1] at h
  rw [if_pos hw]
  exact h
end
end Go.Proofs.YtenfoaajipiehaaDoorW.PrintWords
