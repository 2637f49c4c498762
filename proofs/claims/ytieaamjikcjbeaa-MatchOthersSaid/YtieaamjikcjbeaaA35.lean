/- What stands behind, in such walks. No condition. -/
import Derived.Test.YtieaamjikcjbeaaA34
import Derived.Test.YtieaamjikcjbeaaA24
namespace Go.AH
set_option linter.unusedSimpArgs false
open Go
set_option linter.unusedVariables false
section
variable {N : List AV → Heap → YS → Prop} {K : KX} {T : List AV} {h : Heap} {s : YS} {i j n0 n : Nat} {R : Nat → List AV → Heap → YS → Prop}
theorem nxx_normal (q : N T h s) : NxX N K .normal T h s := q
theorem nxx_exit (q : K (.exit i) T h s) : NxX N K (.exit i) T h s := q
theorem nxx_ret (q : K .ret T h s) : NxX N K .ret T h s := q
theorem ibx_normal (q : K .normal T h s) : InBlockX i K .normal T h s := q
theorem ibx_exit (q : K .normal T h s) : InBlockX i K (.exit i) T h s := by simp only [InBlockX, if_true]; exact q
theorem ibx_exit_ne (e : j ≠ i) (q : K (.exit j) T h s) : InBlockX i K (.exit j) T h s := by simp only [InBlockX, e, if_false]; exact q
theorem ibx_ret (q : K .ret T h s) : InBlockX i K .ret T h s := q
theorem roundx_exit (q : K (.exit i) T h s) : RoundX n0 R n K (.exit i) T h s := q
theorem roundx_ret (q : K .ret T h s) : RoundX n0 R n K .ret T h s := q
end
end Go.AH
