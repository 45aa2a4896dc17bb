/- The document's own naturals (targumref01): ends, Of: walked. -/
import Derived.Test.YtbopikeoaokdpaaDoorRefA
namespace Go.Proofs.YtbopikeoaokdpaaDoor
open Go.RowKit
attribute [local go_sem] Oper.semAt_some

/-- a text of one byte, made of a new array. -/
theorem conv_one (w : World) (x : Nat) (_hx : x < 256) (z : Int) (hz : z = (x : Int)) :
    (convert 56 9 (.slice (some ⟨w.heap.size, 0, none⟩) 1 1)).run Tryd.prog (w.alloc (.cells #[.int .u8 z] 5)) = .ok (.string ⟨#[UInt8.ofNat x]⟩) (w.alloc (.cells #[.int .u8 z] 5)) := by
  subst hz
  have hc : (w.alloc (.cells #[.int .u8 (x : Nat)] 5)).cell? ⟨w.heap.size, 0, none⟩ = some (.int .u8 (x : Nat)) := by
    rw [World.cell?_alloc_new]; rfl
  have h := run_convert_bytes_arg (P := Tryd.prog) (w.alloc (.cells #[.int .u8 (x : Nat)] 5)) 56 5 (by kernel_rfl) (by kernel_rfl) w.heap.size 0 1 1 [(x : Int)] (by rfl)
    (fun i hi => by obtain rfl : i = 0 := by omega
                    exact hc) 9 (by kernel_rfl)
  rw [h]
  simp [strOfNums]

/-- a text, behind a byte. -/
theorem str_cons (c : UInt8) (l : List UInt8) : (⟨#[c]⟩ : ByteArray) ++ ⟨l.toArray⟩ = ⟨(c :: l).toArray⟩ := by
  apply ByteArray.ext
  rw [ByteArray.data_append]
  simp
theorem str_snoc (c : UInt8) (l : List UInt8) : (⟨l.toArray⟩ : ByteArray) ++ ⟨#[c]⟩ = ⟨(l ++ [c]).toArray⟩ := by
  apply ByteArray.ext
  rw [ByteArray.data_append]
  simp

set_option maxRecDepth 100000 in
set_option maxHeartbeats 1000000 in
theorem rOf_calls : ∀ (n : Nat), n < 18446744073709551616 → ∀ (w : World),
    Calls Tryd.prog 19 #[.int .u64 n] w fun e w' => e = .returned (.string ⟨(Lib.decDigits n).toArray⟩) ∧ Below w.heap.size w w' := by
  intro n
  induction n using Nat.strongRecOn with
  | _ n ih =>
    intro hn w
    have hcv := conv_one w (48 + n % 10) (by omega) (48 + (n : Int) % 10) (by omega)
    obtain ⟨c, hc⟩ : ∃ c, UInt8.ofNat (48 + n % 10) = c := ⟨_, rfl⟩
    rw [hc] at hcv
    by_cases h : n < 10
    · have HD := hid (show Lib.decDigits n = [c] by rw [dec_small h, ← hc]; congr 2; omega)
      clear ih hc
      go_enter Tryd.func19, Tryd.ntmps19
      go_wp2
      go_ret
      exact ⟨ret_str (by rw [HD.out]), below_alloc w _⟩
    · have HD := hid (show Lib.decDigits n = Lib.decDigits (n / 10) ++ [c] by rw [dec_big h, ← hc])
      have hrec := ih (n / 10) (by omega) (by omega) (w.alloc (.cells #[.int .u8 (48 + (n : Int) % 10)] 5))
      have hlen : (Lib.decDigits (n / 10)).length ≤ 20 := by
        rw [Lib.decDigits_length]
        have := Lib.numDigits_eq (n / 10) (by omega) (by omega)
        split at this <;> omega
      obtain ⟨l, hl⟩ : ∃ l, Lib.decDigits (n / 10) = l := ⟨_, rfl⟩
      rw [hl] at hrec HD hlen
      have hge : (10 : Int) ≤ (n : Int) := by omega
      clear ih hc hl h
      go_enter Tryd.func19, Tryd.ntmps19
      go_wp2_with (go_at_call 19; refine hrec.mono ?_; rintro e w1 ⟨rfl, hb⟩)
      go_ret
      refine ⟨ret_str (by rw [HD.out, ← str_snoc]), (below_alloc w _).trans (hb.mono (by simp))⟩
end Go.Proofs.YtbopikeoaokdpaaDoor
