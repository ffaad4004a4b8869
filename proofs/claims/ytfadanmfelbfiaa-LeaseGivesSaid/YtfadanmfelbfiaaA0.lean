/- Walks of the leaf functions of the lease. -/
import Derived.Test.YtfadanmfelbfiaaProg
import Derived.Below
import Derived.Deep.Draws
import Derived.Deep.AppendLies
import Derived.Maps.AppendAt
import Derived.OwnWalk
import Derived.Laws.MakeOwn
import Derived.Laws.OwnMore
import Derived.Deep.OwnRows
import Derived.Tactics
import Derived.Laws.Slices
import Derived.WalkKit
import Derived.WalkLawsBesides
import Derived.WalkSpells
import Derived.KernelRfl
import Derived.RowKit3
import Derived.Deep.LoopGhost
import Derived.Deep.QuietTactic
import Derived.BigQuiet
import Derived.WideLaws
import Derived.Deep.DeepCutAuto
import Derived.Deep.CutBlock
import Derived.Deep.RegionHeld3
import Derived.Laws.Rows
import Derived.OrdersHeld
import Derived.RowKit
import Derived.Lib.Hide
import Derived.OneCell
import Derived.Outline
import Derived.Maps.OwnSet
import Derived.Maps.RangeWalk
import Derived.Maps.Views
import Derived.Deep.DeepFit
namespace Go.Proofs.Ytfadanmfelbfiaa.L
open Go.RowKit Go.Maps
set_option linter.unusedVariables false
set_option linter.unusedSimpArgs false

def withinB (n f t : Int) : Bool := decide (n ≥ f) && decide (n ≤ t)

theorem within (n f t : Int) (w : World) : Calls Try.prog 30 #[.int .i64 n, .int .i64 f, .int .i64 t] w fun e w' => e = .returned (.bool (withinB n f t)) ∧ w = w' := by
  have hd : withinB n f t = (decide (n ≥ f) && decide (n ≤ t)) := rfl
  generalize withinB n f t = B at hd
  have HD := Lib.hid hd
  clear hd
  go_enter Try.func30, Try.ntmps30
  go_wp2
  all_goals
    go_ret
    refine ⟨?_, rfl⟩
    rw [HD.out]
    simp [*] <;> omega
end Go.Proofs.Ytfadanmfelbfiaa.L
