/- What the rows' cell laid gives the walks, and the door's own heap. -/
import Derived.Test.YtbopikeoaokdpaaDoorRows
import Derived.Test.YtbopikeoaokdpaaDoorDLawA
import Derived.ProofKit
import Derived.LaidMore
import Derived.OpenShut
import Derived.Stop.Joined
import Derived.Stop.LaidErr
import Derived.Lib.LaidTab
import Derived.PinnedBridge
import Derived.Lay
import Derived.LaidOnce
import Derived.SevenTiedAt
import Derived.Test.YtbopikeoaokdpaaDoorTie
import Derived.Test.YtbopikeoaokdpaaDoorCards
import Derived.ChangeMaps5
namespace Go.Proofs.YtbopikeoaokdpaaDoor
open Go.ChangeShapes Go.WideShapes Go.ChangeAt Go.WideElems Go.RowKit

/-- what the rows list. -/
def laidL : List (String × DataW Unit) := Rows.decReadsRow.laid

theorem own : ownKnob Tryd.prog.godebug = none := by kernel_rfl
theorem star : "*" ++ "errors.errorString" = "*errors.errorString" := by decide
theorem row_err (u : TypeId) (h : Tryd.prog.typeName? 3 u = some "*errors.errorString") : u = 135 :=
  typeName_ptr_named (nm := "errors.errorString") (by rw [star]; kernel_rfl) (by kernel_rfl) (by decide) u (by rw [star]; exact h)

theorem laid_plain (W : World) : laidMetH Tryd.prog laidL W = laidMet Tryd.prog laidL W := MakeChecks.laidMetH_plain _ _ _ (by kernel_rfl)

theorem tabs_of_laid {W : World} (h : laidMetH Tryd.prog laidL W) : Tabs W := by
  rw [laid_plain] at h
  have h2 := h.tail.tail
  have h4 := h2.tail.tail
  obtain ⟨a, s, hv, -, -, -⟩ := laid_sentinel h4 range_glob (ti := 60) (tp := 135) (te := 137) (ts := 9) (by kernel_rfl) Tryd.underlying60 row_err (by kernel_rfl) Tryd.underlying137 rfl rfl (by kernel_rfl) (by kernel_rfl) (by kernel_rfl)
  have h5 := h4.tail
  obtain ⟨a', s', hv', -, -, -⟩ := laid_sentinel h5 synt_glob (ti := 60) (tp := 135) (te := 137) (ts := 9) (by kernel_rfl) Tryd.underlying60 row_err (by kernel_rfl) Tryd.underlying137 rfl rfl (by kernel_rfl) (by kernel_rfl) (by kernel_rfl)
  refine ⟨?_, ⟨_, _, hv⟩, ⟨_, _, hv'⟩⟩
  exact Lib.tabIs_of_head (zs := Lib.pow10Tab) (k := .u64) (t := 125) (e := 39) (n := 20) pow10_glob (by kernel_rfl) (by kernel_rfl) (by kernel_rfl) (by kernel_rfl) (by kernel_rfl) h2

theorem wit_os (os : Os) : (World.laidAll Tryd.prog os laidL).os = os := World.laidAll_os _ _ _
theorem wit_met (os : Os) (args : Array Value) : laidMetH Tryd.prog laidL ((World.laidAll Tryd.prog os laidL).forCall (fun _ _ => 0) ⟨#[], args, []⟩).memory := by
  rw [laid_plain]
  exact laidMet_laidAll _ (by kernel_rfl) (by kernel_rfl)
theorem wit_shaped (os : Os) : World.Shaped Tryd.prog (World.laidAll Tryd.prog os laidL) := World.shaped_of_ZipB (by kernel_rfl) (by kernel_rfl)
end Go.Proofs.YtbopikeoaokdpaaDoor
