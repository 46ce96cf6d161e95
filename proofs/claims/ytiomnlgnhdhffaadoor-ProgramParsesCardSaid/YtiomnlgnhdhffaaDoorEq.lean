/-
  '==' of two instructions. Conditions: none but what each theorem names.
-/
import Derived.Test.YtiomnlgnhdhffaaDoorB1
import Derived.Laws.StructEq
namespace Go.Proofs.YtiomnlgnhdhffaaDoor
open Go.RowKit
set_option linter.unusedVariables false
set_option linter.unusedSimpArgs false
def eqB (y0 y1 y2 y3 y4 y5 y6 y7 x0 x1 x2 x3 x4 x5 x6 x7 : Int) : Bool := y0 == x0 && (y1 == x1 && (y2 == x2 && (y3 == x3 && (y4 == x4 && (y5 == x5 && (y6 == x6 && y7 == x7))))))
set_option maxHeartbeats 2000000 in
theorem neq36 (y0 y1 y2 y3 y4 y5 y6 y7 x0 x1 x2 x3 x4 x5 x6 x7 : Int) (W : World) : (binOp .neq 36 (insV y0 y1 y2 y3 y4 y5 y6 y7) (insV x0 x1 x2 x3 x4 x5 x6 x7)).run Tryd.prog W = .ok (.bool (!eqB y0 y1 y2 y3 y4 y5 y6 y7 x0 x1 x2 x3 x4 x5 x6 x7)) W := by
  unfold eqB
  cases h0 : (y0 == x0)
  · go_simp
  · cases h1 : (y1 == x1)
    · go_simp
    · cases h2 : (y2 == x2)
      · go_simp
      · cases h3 : (y3 == x3)
        · go_simp
        · cases h4 : (y4 == x4)
          · go_simp
          · cases h5 : (y5 == x5)
            · go_simp
            · cases h6 : (y6 == x6)
              · go_simp
              · cases h7 : (y7 == x7)
                · go_simp
                · go_simp
end Go.Proofs.YtiomnlgnhdhffaaDoor
