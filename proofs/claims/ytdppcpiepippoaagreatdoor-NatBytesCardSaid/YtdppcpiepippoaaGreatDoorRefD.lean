/- The document's own naturals (targumref01): Power: walked. -/
import Derived.Test.YtdppcpiepippoaaGreatDoorRefC
namespace Go.Proofs.YtdppcpiepippoaaGreatDoor
open Go.RowKit
attribute [local go_sem] Oper.semAt_some

theorem size_dec (n : Nat) : (⟨(Lib.decDigits n).toArray⟩ : ByteArray).size = Lib.nDigits n := by rw [← Lib.decDigits_length]; simp [ByteArray.size]
theorem tx_dec (n : Nat) : tx ⟨(Lib.decDigits n).toArray⟩ = Lib.decDigits n := tx_B _

/-- mul, of two numbers' digits. -/
theorem rmul_dec (m n : Nat) (hm : Lib.nDigits m ≤ 500) (hn : Lib.nDigits n ≤ 500) (w : World) :
    Calls Tryz.prog 35 #[.string ⟨(Lib.decDigits m).toArray⟩, .string ⟨(Lib.decDigits n).toArray⟩] w fun e w' => e = .returned (.string ⟨(Lib.decDigits (m * n)).toArray⟩) ∧ Below w.heap.size w w' := by
  have h := rmul_calls ⟨(Lib.decDigits m).toArray⟩ ⟨(Lib.decDigits n).toArray⟩ (by rw [tx_dec]; exact Dgs.dec m) (by rw [tx_dec]; exact Dgs.dec n) (by rw [size_dec]; exact rdig_one m) (by rw [size_dec]; exact hm) (by rw [size_dec]; exact hn) w
  rwa [tx_dec, tx_dec, nv_dec, nv_dec] at h

end Go.Proofs.YtdppcpiepippoaaGreatDoor
