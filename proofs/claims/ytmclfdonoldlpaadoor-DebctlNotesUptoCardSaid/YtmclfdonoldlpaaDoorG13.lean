/- what the two texts of 'awake' are read as. -/
import Derived.Test.YtmclfdonoldlpaaDoorG12
namespace Go.Proofs.YtmclfdonoldlpaaDoor.Own
open Go.RowKit Go.Lib Go.Proofs.YtmclfdonoldlpaaDoorW.PrintWords Go.Proofs.YtmclfdonoldlpaaDoorW.PrintLast Go.Proofs.YtmclfdonoldlpaaDoorW.PrintMore Go.Proofs.YtmclfdonoldlpaaDoor.POwn
set_option linter.unusedVariables false

abbrev awakeT : ByteArray := ⟨#[80, 97, 99, 107, 97, 103, 101, 58, 32, 97, 10, 86, 101, 114, 115, 105, 111, 110, 58, 32, 49, 45, 50, 10, 65, 114, 99, 104, 105, 116, 101, 99, 116, 117, 114, 101, 58, 32, 97, 108, 108, 10, 68, 101, 112, 101, 110, 100, 115, 58, 32, 98, 32, 40, 62, 61, 32, 51, 41, 44, 32, 99, 32, 124, 32, 100, 40, 60, 60, 49, 41, 10]⟩
abbrev badT : ByteArray := ⟨#[120, 10]⟩
theorem bad_eval : (match parseF badT with | .ok _ => (0 : Int) | .error e => e) = 120 := by kernel_rfl
def awakeB : Bool := match parseF awakeT with
  | .ok s => (match s.out with
    | [p] => decide (p.f2 = noarchB) && (match p.f5 with
      | [a, b] => decide (a.f2 = 6) && decide (b.f0 = 3)
      | _ => false)
    | _ => false)
  | .error _ => false
set_option maxRecDepth 100000 in
theorem awake_eval : awakeB = true := by kernel_rfl
end Go.Proofs.YtmclfdonoldlpaaDoor.Own
