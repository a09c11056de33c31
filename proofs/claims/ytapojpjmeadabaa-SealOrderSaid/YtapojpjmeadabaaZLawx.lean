/- Lawx: several texts in one. -/
import Derived.Test.YtapojpjmeadabaaZCho3
section
/- Comparisons with a constant, their answer known. -/
namespace Go.Proofs.Ytapojpjmeadabaa
open Go.RowKit
set_option linter.unusedVariables false
set_option linter.unusedSimpArgs false
attribute [local go_sem] lt_ext cell?_ext frozen?_ext shape?_ext

theorem exec_gtr {o : Oper} {ρ : Operand → Value} (p : Operand) (c : Int) (t : TypeId) (ho : o.op = .binOp .gtr 3 p (.const (.int .i64 c)) t) (n : Int) (hp : ρ p = .int .i64 n) (hc : ρ (.const (.int .i64 c)) = .int .i64 c) (b : Bool) (hb : decide (c < n) = b) (w : World) :
    (execOp ρ o).run Try.prog w = .ok (.value (.bool b)) w := by
  unfold execOp
  simp only [ho, hp, hc]
  go_simp
end Go.Proofs.Ytapojpjmeadabaa
end
